/- The contract of overdriveref15.May: whether picks may be. -/
import Derived.Test.YtomabogjoampnaaDoorSameP
namespace Go.Proofs.YtomabogjoampnaaDoor
open Go.RowKit
set_option linter.unusedVariables false

def RMPost (w : World) (l : List Pk) (e : Ending) (w' : World) : Prop := ∃ c A m d, e = .returned (fV c (.slice A m d)) ∧ (c = 0 ↔ mayF 0 0 l = none) ∧ Below w.heap.size w w'
def RMRel (w : World) (l : List Pk) (n : Nat) (si : Value) (wr : World) : Prop :=
  ∃ k : Nat, k ≤ n ∧ si = .int .i64 (k : Int) ∧ mayF 0 0 l = mayF k (lastAt l k) (l.drop k) ∧ Below w.heap.size w wr ∧ Blk wr w.heap.size 32 #[.int .i64 0, .slice none 0 0]
theorem rmay_next {w w' : World} {l : List Pk} {n k : Nat} {a0 z : Int} (hk : k + 1 ≤ n) (hz : z = ((k + 1 : Nat) : Int)) (hla : lastAt l (k + 1) = a0) (hm : mayF 0 0 l = mayF (k + 1) a0 (l.drop (k + 1))) (hb : Below w.heap.size w w') (hB : Blk w' w.heap.size 32 #[.int .i64 0, .slice none 0 0]) :
    RMRel w l n (.int .i64 z) w' := ⟨k + 1, hk, by rw [hz], by rw [hla]; exact hm, hb, hB⟩
theorem lastAt_succ {l : List Pk} {k : Nat} (h : k < l.length) : lastAt l (k + 1) = l[k].at_ := by simp [lastAt, List.getElem?_eq_getElem h]
set_option maxRecDepth 100000 in
set_option maxHeartbeats 8000000 in
theorem rmay_in (A : Option Addr) (n c : Nat) (l : List Pk) (w : World) (ha : Reads w w.heap.size 4 A n (pks l)) (hl : l.length = n) (hn : n ≤ 400) :
    Calls Tryd.prog 14 #[.slice A n c] w (RMPost w l) := by
  have h400 : decide (400 < n) = false := by simp; omega
  have HL := Lib.hid hl
  clear hl
  go_enter Tryd.func14, Tryd.ntmps14
  go_wp2
  go_loopw [3] (fun si wr => RMRel w l n si wr) (fun si _ => n - (intOf si).toNat)
  case atStart => exact ⟨0, Nat.zero_le _, rfl, rfl, (Below.refl _ _).alloc (Nat.le_refl _) _, Blk.new _ _ _⟩
  case round =>
    obtain ⟨k, hkn, rfl, hm, hbr, hblk⟩ := hrel
    have HM := Lib.hid hm
    have HBK := Lib.hid hblk
    clear hm hblk
    by_cases hlt : k < n
    · have hlk : k < l.length := by have := HL.out; omega
      obtain ⟨ad, rfl, had, q0, q1, q2, q3⟩ := (ha.below hbr).pick HL.out hlk
      have HD : Hid (mayF k (lastAt l k) (l.drop k) = if mayP l[k] (lastAt l k) = 0 then mayF (k + 1) l[k].at_ (l.drop (k + 1)) else some (k, mayP l[k] (lastAt l k))) := Lib.hid (by
        rw [List.drop_eq_getElem_cons hlk]; rfl)
      have HLA : Hid (lastAt l (k + 1) = l[k].at_) := Lib.hid (lastAt_succ hlk)
      obtain ⟨p, hp⟩ : ∃ p, p = l[k] := ⟨_, rfl⟩
      rw [← hp] at q0 q1 q2 q3 HD HLA
      clear hp
      obtain ⟨a0, a1, a2, a3⟩ := p
      dsimp only at q0 q1 q2 q3 HD HLA
      have hz : w.heap.size < wr.heap.size := HBK.out.lt
      have HBW : Hid (Below w.heap.size w (wr.alloc (Obj.cells #[.int .i64 a0, .int .i64 a1, .int .i64 a2, .int .i64 a3] 26)) ∧ Blk (wr.alloc (Obj.cells #[.int .i64 a0, .int .i64 a1, .int .i64 a2, .int .i64 a3] 26)) w.heap.size 32 #[.int .i64 0, .slice none 0 0]) := Lib.hid ⟨hbr.alloc hbr.size _, HBK.out.alloc _⟩
      rcases Nat.eq_zero_or_pos k with hk0 | hk0
      · have tk : decide ((k : Int) > 0) = false := by simp; omega
        have tk' : decide (0 < k) = false := by simp; omega
        obtain ⟨lst, hlst⟩ : ∃ x, x = lastAt l k := ⟨_, rfl⟩
        rw [← hlst] at HD HM
        have hl0 : lst = 0 := by rw [hlst, hk0]; rfl
        clear hlst hk0 hbr
        by_cases h1 : a1 < 1
        · have t1a : decide (a1 < 1) = true := by simp; omega
          have HN : Hid (mayF 0 0 l ≠ none) := Lib.hid (by
            rw [HM.out, HD.out, if_neg (by show mayC a0 a1 a2 a3 lst ≠ 0; unfold mayC limA limB; (repeat' split); all_goals first | decide | (exfalso; omega))]
            exact Option.some_ne_none _)
          clear h1
          go_wp2_with fail
          go_must (refine (placed_any 102 k _ (by decide)).mono ?_)
          rintro e w2 ⟨b2, rfl, hge2, hk2, hb2⟩
          unfold fV
          have HB2 : Hid (Below w.heap.size w w2 ∧ Blk w2 w.heap.size 32 #[.int .i64 0, .slice none 0 0]) := Lib.hid ⟨HBW.out.1.trans (hb2.mono HBW.out.1.size), HBW.out.2.below hb2 HBW.out.2.lt⟩
          clear hk2 hb2
          have c4 : w2.cell? ⟨w.heap.size, 0, none⟩ = some (.int .i64 0) := HB2.out.2.cell 0
          have c5 : w2.cell? ⟨w.heap.size, 1, none⟩ = some (.slice none 0 0) := HB2.out.2.cell 1
          have f4 : w2.frozen? ⟨w.heap.size, 0, none⟩ = false := HB2.out.2.frozen 0
          have f5 : w2.frozen? ⟨w.heap.size, 1, none⟩ = false := HB2.out.2.frozen 1
          go_wp2
          refine bodyPost_ret (v := fV 102 (.slice (some ⟨b2, 0, none⟩) 1 1)) ?_ rfl ⟨_, _, _, _, rfl, Iff.intro (fun h => absurd h (by decide)) (fun h => absurd h HN.out), (HB2.out.1.setCell (p := ⟨w.heap.size, 0, none⟩) (Nat.le_refl _) _).setCell (p := ⟨w.heap.size, 1, none⟩) (Nat.le_refl _) _⟩
          simp [results, Tryd.results14, go_sem, fV, c4, c5]
        · have t1a : decide (a1 < 1) = false := by simp; omega
          by_cases h2 : 5 < a1
          · have t2a : decide (a1 > 5) = true := by simp; omega
            have t2b : decide (5 < a1) = true := by simp; omega
            have HN : Hid (mayF 0 0 l ≠ none) := Lib.hid (by
              rw [HM.out, HD.out, if_neg (by show mayC a0 a1 a2 a3 lst ≠ 0; unfold mayC limA limB; (repeat' split); all_goals first | decide | (exfalso; omega))]
              exact Option.some_ne_none _)
            clear h1 h2
            go_wp2_with fail
            go_must (refine (placed_any 102 k _ (by decide)).mono ?_)
            rintro e w2 ⟨b2, rfl, hge2, hk2, hb2⟩
            unfold fV
            have HB2 : Hid (Below w.heap.size w w2 ∧ Blk w2 w.heap.size 32 #[.int .i64 0, .slice none 0 0]) := Lib.hid ⟨HBW.out.1.trans (hb2.mono HBW.out.1.size), HBW.out.2.below hb2 HBW.out.2.lt⟩
            clear hk2 hb2
            have c4 : w2.cell? ⟨w.heap.size, 0, none⟩ = some (.int .i64 0) := HB2.out.2.cell 0
            have c5 : w2.cell? ⟨w.heap.size, 1, none⟩ = some (.slice none 0 0) := HB2.out.2.cell 1
            have f4 : w2.frozen? ⟨w.heap.size, 0, none⟩ = false := HB2.out.2.frozen 0
            have f5 : w2.frozen? ⟨w.heap.size, 1, none⟩ = false := HB2.out.2.frozen 1
            go_wp2
            refine bodyPost_ret (v := fV 102 (.slice (some ⟨b2, 0, none⟩) 1 1)) ?_ rfl ⟨_, _, _, _, rfl, Iff.intro (fun h => absurd h (by decide)) (fun h => absurd h HN.out), (HB2.out.1.setCell (p := ⟨w.heap.size, 0, none⟩) (Nat.le_refl _) _).setCell (p := ⟨w.heap.size, 1, none⟩) (Nat.le_refl _) _⟩
            simp [results, Tryd.results14, go_sem, fV, c4, c5]
          · have t2a : decide (a1 > 5) = false := by simp; omega
            have t2b : decide (5 < a1) = false := by simp; omega
            by_cases h3 : a1 = 3
            · have t3a : (a1 == 3) = true := by simp; omega
              by_cases h4 : a0 < 0
              · have t4a : decide (a0 < 0) = true := by simp; omega
                have HN : Hid (mayF 0 0 l ≠ none) := Lib.hid (by
                  rw [HM.out, HD.out, if_neg (by show mayC a0 a1 a2 a3 lst ≠ 0; unfold mayC limA limB; (repeat' split); all_goals first | decide | (exfalso; omega))]
                  exact Option.some_ne_none _)
                clear h1 h2 h3 h4
                go_wp2_with fail
                go_must (refine (placed_any 103 k _ (by decide)).mono ?_)
                rintro e w2 ⟨b2, rfl, hge2, hk2, hb2⟩
                unfold fV
                have HB2 : Hid (Below w.heap.size w w2 ∧ Blk w2 w.heap.size 32 #[.int .i64 0, .slice none 0 0]) := Lib.hid ⟨HBW.out.1.trans (hb2.mono HBW.out.1.size), HBW.out.2.below hb2 HBW.out.2.lt⟩
                clear hk2 hb2
                have c4 : w2.cell? ⟨w.heap.size, 0, none⟩ = some (.int .i64 0) := HB2.out.2.cell 0
                have c5 : w2.cell? ⟨w.heap.size, 1, none⟩ = some (.slice none 0 0) := HB2.out.2.cell 1
                have f4 : w2.frozen? ⟨w.heap.size, 0, none⟩ = false := HB2.out.2.frozen 0
                have f5 : w2.frozen? ⟨w.heap.size, 1, none⟩ = false := HB2.out.2.frozen 1
                go_wp2
                refine bodyPost_ret (v := fV 103 (.slice (some ⟨b2, 0, none⟩) 1 1)) ?_ rfl ⟨_, _, _, _, rfl, Iff.intro (fun h => absurd h (by decide)) (fun h => absurd h HN.out), (HB2.out.1.setCell (p := ⟨w.heap.size, 0, none⟩) (Nat.le_refl _) _).setCell (p := ⟨w.heap.size, 1, none⟩) (Nat.le_refl _) _⟩
                simp [results, Tryd.results14, go_sem, fV, c4, c5]
              · have t4a : decide (a0 < 0) = false := by simp; omega
                by_cases h5 : 1048576 < a0
                · have t5a : decide (a0 > 1048576) = true := by simp; omega
                  have t5b : decide (1048576 < a0) = true := by simp; omega
                  have HN : Hid (mayF 0 0 l ≠ none) := Lib.hid (by
                    rw [HM.out, HD.out, if_neg (by show mayC a0 a1 a2 a3 lst ≠ 0; unfold mayC limA limB; (repeat' split); all_goals first | decide | (exfalso; omega))]
                    exact Option.some_ne_none _)
                  clear h1 h2 h3 h4 h5
                  go_wp2_with fail
                  go_must (refine (placed_any 103 k _ (by decide)).mono ?_)
                  rintro e w2 ⟨b2, rfl, hge2, hk2, hb2⟩
                  unfold fV
                  have HB2 : Hid (Below w.heap.size w w2 ∧ Blk w2 w.heap.size 32 #[.int .i64 0, .slice none 0 0]) := Lib.hid ⟨HBW.out.1.trans (hb2.mono HBW.out.1.size), HBW.out.2.below hb2 HBW.out.2.lt⟩
                  clear hk2 hb2
                  have c4 : w2.cell? ⟨w.heap.size, 0, none⟩ = some (.int .i64 0) := HB2.out.2.cell 0
                  have c5 : w2.cell? ⟨w.heap.size, 1, none⟩ = some (.slice none 0 0) := HB2.out.2.cell 1
                  have f4 : w2.frozen? ⟨w.heap.size, 0, none⟩ = false := HB2.out.2.frozen 0
                  have f5 : w2.frozen? ⟨w.heap.size, 1, none⟩ = false := HB2.out.2.frozen 1
                  go_wp2
                  refine bodyPost_ret (v := fV 103 (.slice (some ⟨b2, 0, none⟩) 1 1)) ?_ rfl ⟨_, _, _, _, rfl, Iff.intro (fun h => absurd h (by decide)) (fun h => absurd h HN.out), (HB2.out.1.setCell (p := ⟨w.heap.size, 0, none⟩) (Nat.le_refl _) _).setCell (p := ⟨w.heap.size, 1, none⟩) (Nat.le_refl _) _⟩
                  simp [results, Tryd.results14, go_sem, fV, c4, c5]
                · have t5a : decide (a0 > 1048576) = false := by simp; omega
                  have t5b : decide (1048576 < a0) = false := by simp; omega
                  by_cases h6 : a2 < 0
                  · have t6a : decide (a2 < 0) = true := by simp; omega
                    have HN : Hid (mayF 0 0 l ≠ none) := Lib.hid (by
                      rw [HM.out, HD.out, if_neg (by show mayC a0 a1 a2 a3 lst ≠ 0; unfold mayC limA limB; (repeat' split); all_goals first | decide | (exfalso; omega))]
                      exact Option.some_ne_none _)
                    clear h1 h2 h3 h4 h5 h6
                    go_wp2_with fail
                    go_must (refine (placed_any 103 k _ (by decide)).mono ?_)
                    rintro e w2 ⟨b2, rfl, hge2, hk2, hb2⟩
                    unfold fV
                    have HB2 : Hid (Below w.heap.size w w2 ∧ Blk w2 w.heap.size 32 #[.int .i64 0, .slice none 0 0]) := Lib.hid ⟨HBW.out.1.trans (hb2.mono HBW.out.1.size), HBW.out.2.below hb2 HBW.out.2.lt⟩
                    clear hk2 hb2
                    have c4 : w2.cell? ⟨w.heap.size, 0, none⟩ = some (.int .i64 0) := HB2.out.2.cell 0
                    have c5 : w2.cell? ⟨w.heap.size, 1, none⟩ = some (.slice none 0 0) := HB2.out.2.cell 1
                    have f4 : w2.frozen? ⟨w.heap.size, 0, none⟩ = false := HB2.out.2.frozen 0
                    have f5 : w2.frozen? ⟨w.heap.size, 1, none⟩ = false := HB2.out.2.frozen 1
                    go_wp2
                    refine bodyPost_ret (v := fV 103 (.slice (some ⟨b2, 0, none⟩) 1 1)) ?_ rfl ⟨_, _, _, _, rfl, Iff.intro (fun h => absurd h (by decide)) (fun h => absurd h HN.out), (HB2.out.1.setCell (p := ⟨w.heap.size, 0, none⟩) (Nat.le_refl _) _).setCell (p := ⟨w.heap.size, 1, none⟩) (Nat.le_refl _) _⟩
                    simp [results, Tryd.results14, go_sem, fV, c4, c5]
                  · have t6a : decide (a2 < 0) = false := by simp; omega
                    by_cases h7 : 11 < a2
                    · have t7a : decide (a2 > 11) = true := by simp; omega
                      have t7b : decide (11 < a2) = true := by simp; omega
                      have HN : Hid (mayF 0 0 l ≠ none) := Lib.hid (by
                        rw [HM.out, HD.out, if_neg (by show mayC a0 a1 a2 a3 lst ≠ 0; unfold mayC limA limB; (repeat' split); all_goals first | decide | (exfalso; omega))]
                        exact Option.some_ne_none _)
                      clear h1 h2 h3 h4 h5 h6 h7
                      go_wp2_with fail
                      go_must (refine (placed_any 103 k _ (by decide)).mono ?_)
                      rintro e w2 ⟨b2, rfl, hge2, hk2, hb2⟩
                      unfold fV
                      have HB2 : Hid (Below w.heap.size w w2 ∧ Blk w2 w.heap.size 32 #[.int .i64 0, .slice none 0 0]) := Lib.hid ⟨HBW.out.1.trans (hb2.mono HBW.out.1.size), HBW.out.2.below hb2 HBW.out.2.lt⟩
                      clear hk2 hb2
                      have c4 : w2.cell? ⟨w.heap.size, 0, none⟩ = some (.int .i64 0) := HB2.out.2.cell 0
                      have c5 : w2.cell? ⟨w.heap.size, 1, none⟩ = some (.slice none 0 0) := HB2.out.2.cell 1
                      have f4 : w2.frozen? ⟨w.heap.size, 0, none⟩ = false := HB2.out.2.frozen 0
                      have f5 : w2.frozen? ⟨w.heap.size, 1, none⟩ = false := HB2.out.2.frozen 1
                      go_wp2
                      refine bodyPost_ret (v := fV 103 (.slice (some ⟨b2, 0, none⟩) 1 1)) ?_ rfl ⟨_, _, _, _, rfl, Iff.intro (fun h => absurd h (by decide)) (fun h => absurd h HN.out), (HB2.out.1.setCell (p := ⟨w.heap.size, 0, none⟩) (Nat.le_refl _) _).setCell (p := ⟨w.heap.size, 1, none⟩) (Nat.le_refl _) _⟩
                      simp [results, Tryd.results14, go_sem, fV, c4, c5]
                    · have t7a : decide (a2 > 11) = false := by simp; omega
                      have t7b : decide (11 < a2) = false := by simp; omega
                      by_cases h8 : a3 < 0
                      · have t8a : decide (a3 < 0) = true := by simp; omega
                        have HN : Hid (mayF 0 0 l ≠ none) := Lib.hid (by
                          rw [HM.out, HD.out, if_neg (by show mayC a0 a1 a2 a3 lst ≠ 0; unfold mayC limA limB; (repeat' split); all_goals first | decide | (exfalso; omega))]
                          exact Option.some_ne_none _)
                        clear h1 h2 h3 h4 h5 h6 h7 h8
                        go_wp2_with fail
                        go_must (refine (placed_any 103 k _ (by decide)).mono ?_)
                        rintro e w2 ⟨b2, rfl, hge2, hk2, hb2⟩
                        unfold fV
                        have HB2 : Hid (Below w.heap.size w w2 ∧ Blk w2 w.heap.size 32 #[.int .i64 0, .slice none 0 0]) := Lib.hid ⟨HBW.out.1.trans (hb2.mono HBW.out.1.size), HBW.out.2.below hb2 HBW.out.2.lt⟩
                        clear hk2 hb2
                        have c4 : w2.cell? ⟨w.heap.size, 0, none⟩ = some (.int .i64 0) := HB2.out.2.cell 0
                        have c5 : w2.cell? ⟨w.heap.size, 1, none⟩ = some (.slice none 0 0) := HB2.out.2.cell 1
                        have f4 : w2.frozen? ⟨w.heap.size, 0, none⟩ = false := HB2.out.2.frozen 0
                        have f5 : w2.frozen? ⟨w.heap.size, 1, none⟩ = false := HB2.out.2.frozen 1
                        go_wp2
                        refine bodyPost_ret (v := fV 103 (.slice (some ⟨b2, 0, none⟩) 1 1)) ?_ rfl ⟨_, _, _, _, rfl, Iff.intro (fun h => absurd h (by decide)) (fun h => absurd h HN.out), (HB2.out.1.setCell (p := ⟨w.heap.size, 0, none⟩) (Nat.le_refl _) _).setCell (p := ⟨w.heap.size, 1, none⟩) (Nat.le_refl _) _⟩
                        simp [results, Tryd.results14, go_sem, fV, c4, c5]
                      · have t8a : decide (a3 < 0) = false := by simp; omega
                        by_cases h9 : 2047 < a3
                        · have t9a : decide (a3 > 2047) = true := by simp; omega
                          have t9b : decide (2047 < a3) = true := by simp; omega
                          have HN : Hid (mayF 0 0 l ≠ none) := Lib.hid (by
                            rw [HM.out, HD.out, if_neg (by show mayC a0 a1 a2 a3 lst ≠ 0; unfold mayC limA limB; (repeat' split); all_goals first | decide | (exfalso; omega))]
                            exact Option.some_ne_none _)
                          clear h1 h2 h3 h4 h5 h6 h7 h8 h9
                          go_wp2_with fail
                          go_must (refine (placed_any 103 k _ (by decide)).mono ?_)
                          rintro e w2 ⟨b2, rfl, hge2, hk2, hb2⟩
                          unfold fV
                          have HB2 : Hid (Below w.heap.size w w2 ∧ Blk w2 w.heap.size 32 #[.int .i64 0, .slice none 0 0]) := Lib.hid ⟨HBW.out.1.trans (hb2.mono HBW.out.1.size), HBW.out.2.below hb2 HBW.out.2.lt⟩
                          clear hk2 hb2
                          have c4 : w2.cell? ⟨w.heap.size, 0, none⟩ = some (.int .i64 0) := HB2.out.2.cell 0
                          have c5 : w2.cell? ⟨w.heap.size, 1, none⟩ = some (.slice none 0 0) := HB2.out.2.cell 1
                          have f4 : w2.frozen? ⟨w.heap.size, 0, none⟩ = false := HB2.out.2.frozen 0
                          have f5 : w2.frozen? ⟨w.heap.size, 1, none⟩ = false := HB2.out.2.frozen 1
                          go_wp2
                          refine bodyPost_ret (v := fV 103 (.slice (some ⟨b2, 0, none⟩) 1 1)) ?_ rfl ⟨_, _, _, _, rfl, Iff.intro (fun h => absurd h (by decide)) (fun h => absurd h HN.out), (HB2.out.1.setCell (p := ⟨w.heap.size, 0, none⟩) (Nat.le_refl _) _).setCell (p := ⟨w.heap.size, 1, none⟩) (Nat.le_refl _) _⟩
                          simp [results, Tryd.results14, go_sem, fV, c4, c5]
                        · have t9a : decide (a3 > 2047) = false := by simp; omega
                          have t9b : decide (2047 < a3) = false := by simp; omega
                          have HN : Hid (mayF 0 0 l = mayF (k + 1) a0 (l.drop (k + 1))) := Lib.hid (by
                            rw [HM.out, HD.out, if_pos (by show mayC a0 a1 a2 a3 lst = 0; unfold mayC limA limB; (repeat' split); all_goals first | rfl | (exfalso; omega))])
                          clear h1 h2 h3 h4 h5 h6 h7 h8 h9
                          go_wp2
                          go_quiet (fail)
                          go_wp2
                          go_roundw
                          case rel => exact rmay_next (k := k) (by omega) (by omega) HLA.out HN.out (below_drewN HBW.out.1 _) (HBW.out.2.drewN _)
                          case measure => simp [intOf]; omega
            · have t3a : (a1 == 3) = false := by simp; omega
              by_cases h10 : a1 = 5
              · have t10a : (a1 == 5) = true := by simp; omega
                by_cases h11 : a0 < 0
                · have t11a : decide (a0 < 0) = true := by simp; omega
                  have HN : Hid (mayF 0 0 l ≠ none) := Lib.hid (by
                    rw [HM.out, HD.out, if_neg (by show mayC a0 a1 a2 a3 lst ≠ 0; unfold mayC limA limB; (repeat' split); all_goals first | decide | (exfalso; omega))]
                    exact Option.some_ne_none _)
                  clear h1 h2 h3 h10 h11
                  go_wp2_with fail
                  go_must (refine (placed_any 103 k _ (by decide)).mono ?_)
                  rintro e w2 ⟨b2, rfl, hge2, hk2, hb2⟩
                  unfold fV
                  have HB2 : Hid (Below w.heap.size w w2 ∧ Blk w2 w.heap.size 32 #[.int .i64 0, .slice none 0 0]) := Lib.hid ⟨HBW.out.1.trans (hb2.mono HBW.out.1.size), HBW.out.2.below hb2 HBW.out.2.lt⟩
                  clear hk2 hb2
                  have c4 : w2.cell? ⟨w.heap.size, 0, none⟩ = some (.int .i64 0) := HB2.out.2.cell 0
                  have c5 : w2.cell? ⟨w.heap.size, 1, none⟩ = some (.slice none 0 0) := HB2.out.2.cell 1
                  have f4 : w2.frozen? ⟨w.heap.size, 0, none⟩ = false := HB2.out.2.frozen 0
                  have f5 : w2.frozen? ⟨w.heap.size, 1, none⟩ = false := HB2.out.2.frozen 1
                  go_wp2
                  refine bodyPost_ret (v := fV 103 (.slice (some ⟨b2, 0, none⟩) 1 1)) ?_ rfl ⟨_, _, _, _, rfl, Iff.intro (fun h => absurd h (by decide)) (fun h => absurd h HN.out), (HB2.out.1.setCell (p := ⟨w.heap.size, 0, none⟩) (Nat.le_refl _) _).setCell (p := ⟨w.heap.size, 1, none⟩) (Nat.le_refl _) _⟩
                  simp [results, Tryd.results14, go_sem, fV, c4, c5]
                · have t11a : decide (a0 < 0) = false := by simp; omega
                  by_cases h12 : 1048576 < a0
                  · have t12a : decide (a0 > 1048576) = true := by simp; omega
                    have t12b : decide (1048576 < a0) = true := by simp; omega
                    have HN : Hid (mayF 0 0 l ≠ none) := Lib.hid (by
                      rw [HM.out, HD.out, if_neg (by show mayC a0 a1 a2 a3 lst ≠ 0; unfold mayC limA limB; (repeat' split); all_goals first | decide | (exfalso; omega))]
                      exact Option.some_ne_none _)
                    clear h1 h2 h3 h10 h11 h12
                    go_wp2_with fail
                    go_must (refine (placed_any 103 k _ (by decide)).mono ?_)
                    rintro e w2 ⟨b2, rfl, hge2, hk2, hb2⟩
                    unfold fV
                    have HB2 : Hid (Below w.heap.size w w2 ∧ Blk w2 w.heap.size 32 #[.int .i64 0, .slice none 0 0]) := Lib.hid ⟨HBW.out.1.trans (hb2.mono HBW.out.1.size), HBW.out.2.below hb2 HBW.out.2.lt⟩
                    clear hk2 hb2
                    have c4 : w2.cell? ⟨w.heap.size, 0, none⟩ = some (.int .i64 0) := HB2.out.2.cell 0
                    have c5 : w2.cell? ⟨w.heap.size, 1, none⟩ = some (.slice none 0 0) := HB2.out.2.cell 1
                    have f4 : w2.frozen? ⟨w.heap.size, 0, none⟩ = false := HB2.out.2.frozen 0
                    have f5 : w2.frozen? ⟨w.heap.size, 1, none⟩ = false := HB2.out.2.frozen 1
                    go_wp2
                    refine bodyPost_ret (v := fV 103 (.slice (some ⟨b2, 0, none⟩) 1 1)) ?_ rfl ⟨_, _, _, _, rfl, Iff.intro (fun h => absurd h (by decide)) (fun h => absurd h HN.out), (HB2.out.1.setCell (p := ⟨w.heap.size, 0, none⟩) (Nat.le_refl _) _).setCell (p := ⟨w.heap.size, 1, none⟩) (Nat.le_refl _) _⟩
                    simp [results, Tryd.results14, go_sem, fV, c4, c5]
                  · have t12a : decide (a0 > 1048576) = false := by simp; omega
                    have t12b : decide (1048576 < a0) = false := by simp; omega
                    by_cases h13 : a2 < 0
                    · have t13a : decide (a2 < 0) = true := by simp; omega
                      have HN : Hid (mayF 0 0 l ≠ none) := Lib.hid (by
                        rw [HM.out, HD.out, if_neg (by show mayC a0 a1 a2 a3 lst ≠ 0; unfold mayC limA limB; (repeat' split); all_goals first | decide | (exfalso; omega))]
                        exact Option.some_ne_none _)
                      clear h1 h2 h3 h10 h11 h12 h13
                      go_wp2_with fail
                      go_must (refine (placed_any 103 k _ (by decide)).mono ?_)
                      rintro e w2 ⟨b2, rfl, hge2, hk2, hb2⟩
                      unfold fV
                      have HB2 : Hid (Below w.heap.size w w2 ∧ Blk w2 w.heap.size 32 #[.int .i64 0, .slice none 0 0]) := Lib.hid ⟨HBW.out.1.trans (hb2.mono HBW.out.1.size), HBW.out.2.below hb2 HBW.out.2.lt⟩
                      clear hk2 hb2
                      have c4 : w2.cell? ⟨w.heap.size, 0, none⟩ = some (.int .i64 0) := HB2.out.2.cell 0
                      have c5 : w2.cell? ⟨w.heap.size, 1, none⟩ = some (.slice none 0 0) := HB2.out.2.cell 1
                      have f4 : w2.frozen? ⟨w.heap.size, 0, none⟩ = false := HB2.out.2.frozen 0
                      have f5 : w2.frozen? ⟨w.heap.size, 1, none⟩ = false := HB2.out.2.frozen 1
                      go_wp2
                      refine bodyPost_ret (v := fV 103 (.slice (some ⟨b2, 0, none⟩) 1 1)) ?_ rfl ⟨_, _, _, _, rfl, Iff.intro (fun h => absurd h (by decide)) (fun h => absurd h HN.out), (HB2.out.1.setCell (p := ⟨w.heap.size, 0, none⟩) (Nat.le_refl _) _).setCell (p := ⟨w.heap.size, 1, none⟩) (Nat.le_refl _) _⟩
                      simp [results, Tryd.results14, go_sem, fV, c4, c5]
                    · have t13a : decide (a2 < 0) = false := by simp; omega
                      by_cases h14 : 0 < a2
                      · have t14a : decide (a2 > 0) = true := by simp; omega
                        have t14b : decide (0 < a2) = true := by simp; omega
                        have HN : Hid (mayF 0 0 l ≠ none) := Lib.hid (by
                          rw [HM.out, HD.out, if_neg (by show mayC a0 a1 a2 a3 lst ≠ 0; unfold mayC limA limB; (repeat' split); all_goals first | decide | (exfalso; omega))]
                          exact Option.some_ne_none _)
                        clear h1 h2 h3 h10 h11 h12 h13 h14
                        go_wp2_with fail
                        go_must (refine (placed_any 103 k _ (by decide)).mono ?_)
                        rintro e w2 ⟨b2, rfl, hge2, hk2, hb2⟩
                        unfold fV
                        have HB2 : Hid (Below w.heap.size w w2 ∧ Blk w2 w.heap.size 32 #[.int .i64 0, .slice none 0 0]) := Lib.hid ⟨HBW.out.1.trans (hb2.mono HBW.out.1.size), HBW.out.2.below hb2 HBW.out.2.lt⟩
                        clear hk2 hb2
                        have c4 : w2.cell? ⟨w.heap.size, 0, none⟩ = some (.int .i64 0) := HB2.out.2.cell 0
                        have c5 : w2.cell? ⟨w.heap.size, 1, none⟩ = some (.slice none 0 0) := HB2.out.2.cell 1
                        have f4 : w2.frozen? ⟨w.heap.size, 0, none⟩ = false := HB2.out.2.frozen 0
                        have f5 : w2.frozen? ⟨w.heap.size, 1, none⟩ = false := HB2.out.2.frozen 1
                        go_wp2
                        refine bodyPost_ret (v := fV 103 (.slice (some ⟨b2, 0, none⟩) 1 1)) ?_ rfl ⟨_, _, _, _, rfl, Iff.intro (fun h => absurd h (by decide)) (fun h => absurd h HN.out), (HB2.out.1.setCell (p := ⟨w.heap.size, 0, none⟩) (Nat.le_refl _) _).setCell (p := ⟨w.heap.size, 1, none⟩) (Nat.le_refl _) _⟩
                        simp [results, Tryd.results14, go_sem, fV, c4, c5]
                      · have t14a : decide (a2 > 0) = false := by simp; omega
                        have t14b : decide (0 < a2) = false := by simp; omega
                        by_cases h15 : a3 < 0
                        · have t15a : decide (a3 < 0) = true := by simp; omega
                          have HN : Hid (mayF 0 0 l ≠ none) := Lib.hid (by
                            rw [HM.out, HD.out, if_neg (by show mayC a0 a1 a2 a3 lst ≠ 0; unfold mayC limA limB; (repeat' split); all_goals first | decide | (exfalso; omega))]
                            exact Option.some_ne_none _)
                          clear h1 h2 h3 h10 h11 h12 h13 h14 h15
                          go_wp2_with fail
                          go_must (refine (placed_any 103 k _ (by decide)).mono ?_)
                          rintro e w2 ⟨b2, rfl, hge2, hk2, hb2⟩
                          unfold fV
                          have HB2 : Hid (Below w.heap.size w w2 ∧ Blk w2 w.heap.size 32 #[.int .i64 0, .slice none 0 0]) := Lib.hid ⟨HBW.out.1.trans (hb2.mono HBW.out.1.size), HBW.out.2.below hb2 HBW.out.2.lt⟩
                          clear hk2 hb2
                          have c4 : w2.cell? ⟨w.heap.size, 0, none⟩ = some (.int .i64 0) := HB2.out.2.cell 0
                          have c5 : w2.cell? ⟨w.heap.size, 1, none⟩ = some (.slice none 0 0) := HB2.out.2.cell 1
                          have f4 : w2.frozen? ⟨w.heap.size, 0, none⟩ = false := HB2.out.2.frozen 0
                          have f5 : w2.frozen? ⟨w.heap.size, 1, none⟩ = false := HB2.out.2.frozen 1
                          go_wp2
                          refine bodyPost_ret (v := fV 103 (.slice (some ⟨b2, 0, none⟩) 1 1)) ?_ rfl ⟨_, _, _, _, rfl, Iff.intro (fun h => absurd h (by decide)) (fun h => absurd h HN.out), (HB2.out.1.setCell (p := ⟨w.heap.size, 0, none⟩) (Nat.le_refl _) _).setCell (p := ⟨w.heap.size, 1, none⟩) (Nat.le_refl _) _⟩
                          simp [results, Tryd.results14, go_sem, fV, c4, c5]
                        · have t15a : decide (a3 < 0) = false := by simp; omega
                          by_cases h16 : 2047 < a3
                          · have t16a : decide (a3 > 2047) = true := by simp; omega
                            have t16b : decide (2047 < a3) = true := by simp; omega
                            have HN : Hid (mayF 0 0 l ≠ none) := Lib.hid (by
                              rw [HM.out, HD.out, if_neg (by show mayC a0 a1 a2 a3 lst ≠ 0; unfold mayC limA limB; (repeat' split); all_goals first | decide | (exfalso; omega))]
                              exact Option.some_ne_none _)
                            clear h1 h2 h3 h10 h11 h12 h13 h14 h15 h16
                            go_wp2_with fail
                            go_must (refine (placed_any 103 k _ (by decide)).mono ?_)
                            rintro e w2 ⟨b2, rfl, hge2, hk2, hb2⟩
                            unfold fV
                            have HB2 : Hid (Below w.heap.size w w2 ∧ Blk w2 w.heap.size 32 #[.int .i64 0, .slice none 0 0]) := Lib.hid ⟨HBW.out.1.trans (hb2.mono HBW.out.1.size), HBW.out.2.below hb2 HBW.out.2.lt⟩
                            clear hk2 hb2
                            have c4 : w2.cell? ⟨w.heap.size, 0, none⟩ = some (.int .i64 0) := HB2.out.2.cell 0
                            have c5 : w2.cell? ⟨w.heap.size, 1, none⟩ = some (.slice none 0 0) := HB2.out.2.cell 1
                            have f4 : w2.frozen? ⟨w.heap.size, 0, none⟩ = false := HB2.out.2.frozen 0
                            have f5 : w2.frozen? ⟨w.heap.size, 1, none⟩ = false := HB2.out.2.frozen 1
                            go_wp2
                            refine bodyPost_ret (v := fV 103 (.slice (some ⟨b2, 0, none⟩) 1 1)) ?_ rfl ⟨_, _, _, _, rfl, Iff.intro (fun h => absurd h (by decide)) (fun h => absurd h HN.out), (HB2.out.1.setCell (p := ⟨w.heap.size, 0, none⟩) (Nat.le_refl _) _).setCell (p := ⟨w.heap.size, 1, none⟩) (Nat.le_refl _) _⟩
                            simp [results, Tryd.results14, go_sem, fV, c4, c5]
                          · have t16a : decide (a3 > 2047) = false := by simp; omega
                            have t16b : decide (2047 < a3) = false := by simp; omega
                            have HN : Hid (mayF 0 0 l = mayF (k + 1) a0 (l.drop (k + 1))) := Lib.hid (by
                              rw [HM.out, HD.out, if_pos (by show mayC a0 a1 a2 a3 lst = 0; unfold mayC limA limB; (repeat' split); all_goals first | rfl | (exfalso; omega))])
                            clear h1 h2 h3 h10 h11 h12 h13 h14 h15 h16
                            go_wp2
                            go_quiet (fail)
                            go_wp2
                            go_roundw
                            case rel => exact rmay_next (k := k) (by omega) (by omega) HLA.out HN.out (below_drewN HBW.out.1 _) (HBW.out.2.drewN _)
                            case measure => simp [intOf]; omega
              · have t10a : (a1 == 5) = false := by simp; omega
                by_cases h17 : a0 < 0
                · have t17a : decide (a0 < 0) = true := by simp; omega
                  have HN : Hid (mayF 0 0 l ≠ none) := Lib.hid (by
                    rw [HM.out, HD.out, if_neg (by show mayC a0 a1 a2 a3 lst ≠ 0; unfold mayC limA limB; (repeat' split); all_goals first | decide | (exfalso; omega))]
                    exact Option.some_ne_none _)
                  clear h1 h2 h3 h10 h17
                  go_wp2_with fail
                  go_must (refine (placed_any 103 k _ (by decide)).mono ?_)
                  rintro e w2 ⟨b2, rfl, hge2, hk2, hb2⟩
                  unfold fV
                  have HB2 : Hid (Below w.heap.size w w2 ∧ Blk w2 w.heap.size 32 #[.int .i64 0, .slice none 0 0]) := Lib.hid ⟨HBW.out.1.trans (hb2.mono HBW.out.1.size), HBW.out.2.below hb2 HBW.out.2.lt⟩
                  clear hk2 hb2
                  have c4 : w2.cell? ⟨w.heap.size, 0, none⟩ = some (.int .i64 0) := HB2.out.2.cell 0
                  have c5 : w2.cell? ⟨w.heap.size, 1, none⟩ = some (.slice none 0 0) := HB2.out.2.cell 1
                  have f4 : w2.frozen? ⟨w.heap.size, 0, none⟩ = false := HB2.out.2.frozen 0
                  have f5 : w2.frozen? ⟨w.heap.size, 1, none⟩ = false := HB2.out.2.frozen 1
                  go_wp2
                  refine bodyPost_ret (v := fV 103 (.slice (some ⟨b2, 0, none⟩) 1 1)) ?_ rfl ⟨_, _, _, _, rfl, Iff.intro (fun h => absurd h (by decide)) (fun h => absurd h HN.out), (HB2.out.1.setCell (p := ⟨w.heap.size, 0, none⟩) (Nat.le_refl _) _).setCell (p := ⟨w.heap.size, 1, none⟩) (Nat.le_refl _) _⟩
                  simp [results, Tryd.results14, go_sem, fV, c4, c5]
                · have t17a : decide (a0 < 0) = false := by simp; omega
                  by_cases h18 : 1048576 < a0
                  · have t18a : decide (a0 > 1048576) = true := by simp; omega
                    have t18b : decide (1048576 < a0) = true := by simp; omega
                    have HN : Hid (mayF 0 0 l ≠ none) := Lib.hid (by
                      rw [HM.out, HD.out, if_neg (by show mayC a0 a1 a2 a3 lst ≠ 0; unfold mayC limA limB; (repeat' split); all_goals first | decide | (exfalso; omega))]
                      exact Option.some_ne_none _)
                    clear h1 h2 h3 h10 h17 h18
                    go_wp2_with fail
                    go_must (refine (placed_any 103 k _ (by decide)).mono ?_)
                    rintro e w2 ⟨b2, rfl, hge2, hk2, hb2⟩
                    unfold fV
                    have HB2 : Hid (Below w.heap.size w w2 ∧ Blk w2 w.heap.size 32 #[.int .i64 0, .slice none 0 0]) := Lib.hid ⟨HBW.out.1.trans (hb2.mono HBW.out.1.size), HBW.out.2.below hb2 HBW.out.2.lt⟩
                    clear hk2 hb2
                    have c4 : w2.cell? ⟨w.heap.size, 0, none⟩ = some (.int .i64 0) := HB2.out.2.cell 0
                    have c5 : w2.cell? ⟨w.heap.size, 1, none⟩ = some (.slice none 0 0) := HB2.out.2.cell 1
                    have f4 : w2.frozen? ⟨w.heap.size, 0, none⟩ = false := HB2.out.2.frozen 0
                    have f5 : w2.frozen? ⟨w.heap.size, 1, none⟩ = false := HB2.out.2.frozen 1
                    go_wp2
                    refine bodyPost_ret (v := fV 103 (.slice (some ⟨b2, 0, none⟩) 1 1)) ?_ rfl ⟨_, _, _, _, rfl, Iff.intro (fun h => absurd h (by decide)) (fun h => absurd h HN.out), (HB2.out.1.setCell (p := ⟨w.heap.size, 0, none⟩) (Nat.le_refl _) _).setCell (p := ⟨w.heap.size, 1, none⟩) (Nat.le_refl _) _⟩
                    simp [results, Tryd.results14, go_sem, fV, c4, c5]
                  · have t18a : decide (a0 > 1048576) = false := by simp; omega
                    have t18b : decide (1048576 < a0) = false := by simp; omega
                    by_cases h19 : a2 < 0
                    · have t19a : decide (a2 < 0) = true := by simp; omega
                      have HN : Hid (mayF 0 0 l ≠ none) := Lib.hid (by
                        rw [HM.out, HD.out, if_neg (by show mayC a0 a1 a2 a3 lst ≠ 0; unfold mayC limA limB; (repeat' split); all_goals first | decide | (exfalso; omega))]
                        exact Option.some_ne_none _)
                      clear h1 h2 h3 h10 h17 h18 h19
                      go_wp2_with fail
                      go_must (refine (placed_any 103 k _ (by decide)).mono ?_)
                      rintro e w2 ⟨b2, rfl, hge2, hk2, hb2⟩
                      unfold fV
                      have HB2 : Hid (Below w.heap.size w w2 ∧ Blk w2 w.heap.size 32 #[.int .i64 0, .slice none 0 0]) := Lib.hid ⟨HBW.out.1.trans (hb2.mono HBW.out.1.size), HBW.out.2.below hb2 HBW.out.2.lt⟩
                      clear hk2 hb2
                      have c4 : w2.cell? ⟨w.heap.size, 0, none⟩ = some (.int .i64 0) := HB2.out.2.cell 0
                      have c5 : w2.cell? ⟨w.heap.size, 1, none⟩ = some (.slice none 0 0) := HB2.out.2.cell 1
                      have f4 : w2.frozen? ⟨w.heap.size, 0, none⟩ = false := HB2.out.2.frozen 0
                      have f5 : w2.frozen? ⟨w.heap.size, 1, none⟩ = false := HB2.out.2.frozen 1
                      go_wp2
                      refine bodyPost_ret (v := fV 103 (.slice (some ⟨b2, 0, none⟩) 1 1)) ?_ rfl ⟨_, _, _, _, rfl, Iff.intro (fun h => absurd h (by decide)) (fun h => absurd h HN.out), (HB2.out.1.setCell (p := ⟨w.heap.size, 0, none⟩) (Nat.le_refl _) _).setCell (p := ⟨w.heap.size, 1, none⟩) (Nat.le_refl _) _⟩
                      simp [results, Tryd.results14, go_sem, fV, c4, c5]
                    · have t19a : decide (a2 < 0) = false := by simp; omega
                      by_cases h20 : 0 < a2
                      · have t20a : decide (a2 > 0) = true := by simp; omega
                        have t20b : decide (0 < a2) = true := by simp; omega
                        have HN : Hid (mayF 0 0 l ≠ none) := Lib.hid (by
                          rw [HM.out, HD.out, if_neg (by show mayC a0 a1 a2 a3 lst ≠ 0; unfold mayC limA limB; (repeat' split); all_goals first | decide | (exfalso; omega))]
                          exact Option.some_ne_none _)
                        clear h1 h2 h3 h10 h17 h18 h19 h20
                        go_wp2_with fail
                        go_must (refine (placed_any 103 k _ (by decide)).mono ?_)
                        rintro e w2 ⟨b2, rfl, hge2, hk2, hb2⟩
                        unfold fV
                        have HB2 : Hid (Below w.heap.size w w2 ∧ Blk w2 w.heap.size 32 #[.int .i64 0, .slice none 0 0]) := Lib.hid ⟨HBW.out.1.trans (hb2.mono HBW.out.1.size), HBW.out.2.below hb2 HBW.out.2.lt⟩
                        clear hk2 hb2
                        have c4 : w2.cell? ⟨w.heap.size, 0, none⟩ = some (.int .i64 0) := HB2.out.2.cell 0
                        have c5 : w2.cell? ⟨w.heap.size, 1, none⟩ = some (.slice none 0 0) := HB2.out.2.cell 1
                        have f4 : w2.frozen? ⟨w.heap.size, 0, none⟩ = false := HB2.out.2.frozen 0
                        have f5 : w2.frozen? ⟨w.heap.size, 1, none⟩ = false := HB2.out.2.frozen 1
                        go_wp2
                        refine bodyPost_ret (v := fV 103 (.slice (some ⟨b2, 0, none⟩) 1 1)) ?_ rfl ⟨_, _, _, _, rfl, Iff.intro (fun h => absurd h (by decide)) (fun h => absurd h HN.out), (HB2.out.1.setCell (p := ⟨w.heap.size, 0, none⟩) (Nat.le_refl _) _).setCell (p := ⟨w.heap.size, 1, none⟩) (Nat.le_refl _) _⟩
                        simp [results, Tryd.results14, go_sem, fV, c4, c5]
                      · have t20a : decide (a2 > 0) = false := by simp; omega
                        have t20b : decide (0 < a2) = false := by simp; omega
                        by_cases h21 : a3 < 0
                        · have t21a : decide (a3 < 0) = true := by simp; omega
                          have HN : Hid (mayF 0 0 l ≠ none) := Lib.hid (by
                            rw [HM.out, HD.out, if_neg (by show mayC a0 a1 a2 a3 lst ≠ 0; unfold mayC limA limB; (repeat' split); all_goals first | decide | (exfalso; omega))]
                            exact Option.some_ne_none _)
                          clear h1 h2 h3 h10 h17 h18 h19 h20 h21
                          go_wp2_with fail
                          go_must (refine (placed_any 103 k _ (by decide)).mono ?_)
                          rintro e w2 ⟨b2, rfl, hge2, hk2, hb2⟩
                          unfold fV
                          have HB2 : Hid (Below w.heap.size w w2 ∧ Blk w2 w.heap.size 32 #[.int .i64 0, .slice none 0 0]) := Lib.hid ⟨HBW.out.1.trans (hb2.mono HBW.out.1.size), HBW.out.2.below hb2 HBW.out.2.lt⟩
                          clear hk2 hb2
                          have c4 : w2.cell? ⟨w.heap.size, 0, none⟩ = some (.int .i64 0) := HB2.out.2.cell 0
                          have c5 : w2.cell? ⟨w.heap.size, 1, none⟩ = some (.slice none 0 0) := HB2.out.2.cell 1
                          have f4 : w2.frozen? ⟨w.heap.size, 0, none⟩ = false := HB2.out.2.frozen 0
                          have f5 : w2.frozen? ⟨w.heap.size, 1, none⟩ = false := HB2.out.2.frozen 1
                          go_wp2
                          refine bodyPost_ret (v := fV 103 (.slice (some ⟨b2, 0, none⟩) 1 1)) ?_ rfl ⟨_, _, _, _, rfl, Iff.intro (fun h => absurd h (by decide)) (fun h => absurd h HN.out), (HB2.out.1.setCell (p := ⟨w.heap.size, 0, none⟩) (Nat.le_refl _) _).setCell (p := ⟨w.heap.size, 1, none⟩) (Nat.le_refl _) _⟩
                          simp [results, Tryd.results14, go_sem, fV, c4, c5]
                        · have t21a : decide (a3 < 0) = false := by simp; omega
                          by_cases h22 : 0 < a3
                          · have t22a : decide (a3 > 0) = true := by simp; omega
                            have t22b : decide (0 < a3) = true := by simp; omega
                            have HN : Hid (mayF 0 0 l ≠ none) := Lib.hid (by
                              rw [HM.out, HD.out, if_neg (by show mayC a0 a1 a2 a3 lst ≠ 0; unfold mayC limA limB; (repeat' split); all_goals first | decide | (exfalso; omega))]
                              exact Option.some_ne_none _)
                            clear h1 h2 h3 h10 h17 h18 h19 h20 h21 h22
                            go_wp2_with fail
                            go_must (refine (placed_any 103 k _ (by decide)).mono ?_)
                            rintro e w2 ⟨b2, rfl, hge2, hk2, hb2⟩
                            unfold fV
                            have HB2 : Hid (Below w.heap.size w w2 ∧ Blk w2 w.heap.size 32 #[.int .i64 0, .slice none 0 0]) := Lib.hid ⟨HBW.out.1.trans (hb2.mono HBW.out.1.size), HBW.out.2.below hb2 HBW.out.2.lt⟩
                            clear hk2 hb2
                            have c4 : w2.cell? ⟨w.heap.size, 0, none⟩ = some (.int .i64 0) := HB2.out.2.cell 0
                            have c5 : w2.cell? ⟨w.heap.size, 1, none⟩ = some (.slice none 0 0) := HB2.out.2.cell 1
                            have f4 : w2.frozen? ⟨w.heap.size, 0, none⟩ = false := HB2.out.2.frozen 0
                            have f5 : w2.frozen? ⟨w.heap.size, 1, none⟩ = false := HB2.out.2.frozen 1
                            go_wp2
                            refine bodyPost_ret (v := fV 103 (.slice (some ⟨b2, 0, none⟩) 1 1)) ?_ rfl ⟨_, _, _, _, rfl, Iff.intro (fun h => absurd h (by decide)) (fun h => absurd h HN.out), (HB2.out.1.setCell (p := ⟨w.heap.size, 0, none⟩) (Nat.le_refl _) _).setCell (p := ⟨w.heap.size, 1, none⟩) (Nat.le_refl _) _⟩
                            simp [results, Tryd.results14, go_sem, fV, c4, c5]
                          · have t22a : decide (a3 > 0) = false := by simp; omega
                            have t22b : decide (0 < a3) = false := by simp; omega
                            have HN : Hid (mayF 0 0 l = mayF (k + 1) a0 (l.drop (k + 1))) := Lib.hid (by
                              rw [HM.out, HD.out, if_pos (by show mayC a0 a1 a2 a3 lst = 0; unfold mayC limA limB; (repeat' split); all_goals first | rfl | (exfalso; omega))])
                            clear h1 h2 h3 h10 h17 h18 h19 h20 h21 h22
                            go_wp2
                            go_quiet (fail)
                            go_wp2
                            go_roundw
                            case rel => exact rmay_next (k := k) (by omega) (by omega) HLA.out HN.out (below_drewN HBW.out.1 _) (HBW.out.2.drewN _)
                            case measure => simp [intOf]; omega
      · obtain ⟨j, rfl⟩ : ∃ j, k = j + 1 := ⟨k - 1, by omega⟩
        have hj : j < l.length := by omega
        obtain ⟨_, e2, _, r0, _, _, _⟩ := (ha.below hbr).pick HL.out hj
        obtain rfl := Option.some.inj e2
        clear e2
        obtain ⟨lst, hlst⟩ : ∃ x, x = lastAt l (j + 1) := ⟨_, rfl⟩
        rw [← hlst] at HD HM
        rw [← lastAt_succ hj, ← hlst] at r0
        have s0 : (wr.alloc (Obj.cells #[.int .i64 a0, .int .i64 a1, .int .i64 a2, .int .i64 a3] 26)).cell? (ad.add (j * 4)) = some (.int .i64 lst) := (World.cell?_alloc_lt wr _ _ (by rw [block_of_add]; omega)).trans r0
        clear hlst hk0 hbr
        by_cases h101 : a1 < 1
        · have t101a : decide (a1 < 1) = true := by simp; omega
          have HN : Hid (mayF 0 0 l ≠ none) := Lib.hid (by
            rw [HM.out, HD.out, if_neg (by show mayC a0 a1 a2 a3 lst ≠ 0; unfold mayC limA limB; (repeat' split); all_goals first | decide | (exfalso; omega))]
            exact Option.some_ne_none _)
          clear h101
          go_wp2_with fail
          go_must (refine (placed_any 102 ((j + 1 : Nat) : Int) _ (by decide)).mono ?_)
          rintro e w2 ⟨b2, rfl, hge2, hk2, hb2⟩
          unfold fV
          have HB2 : Hid (Below w.heap.size w w2 ∧ Blk w2 w.heap.size 32 #[.int .i64 0, .slice none 0 0]) := Lib.hid ⟨HBW.out.1.trans (hb2.mono HBW.out.1.size), HBW.out.2.below hb2 HBW.out.2.lt⟩
          clear hk2 hb2
          have c4 : w2.cell? ⟨w.heap.size, 0, none⟩ = some (.int .i64 0) := HB2.out.2.cell 0
          have c5 : w2.cell? ⟨w.heap.size, 1, none⟩ = some (.slice none 0 0) := HB2.out.2.cell 1
          have f4 : w2.frozen? ⟨w.heap.size, 0, none⟩ = false := HB2.out.2.frozen 0
          have f5 : w2.frozen? ⟨w.heap.size, 1, none⟩ = false := HB2.out.2.frozen 1
          go_wp2
          refine bodyPost_ret (v := fV 102 (.slice (some ⟨b2, 0, none⟩) 1 1)) ?_ rfl ⟨_, _, _, _, rfl, Iff.intro (fun h => absurd h (by decide)) (fun h => absurd h HN.out), (HB2.out.1.setCell (p := ⟨w.heap.size, 0, none⟩) (Nat.le_refl _) _).setCell (p := ⟨w.heap.size, 1, none⟩) (Nat.le_refl _) _⟩
          simp [results, Tryd.results14, go_sem, fV, c4, c5]
        · have t101a : decide (a1 < 1) = false := by simp; omega
          by_cases h102 : 5 < a1
          · have t102a : decide (a1 > 5) = true := by simp; omega
            have t102b : decide (5 < a1) = true := by simp; omega
            have HN : Hid (mayF 0 0 l ≠ none) := Lib.hid (by
              rw [HM.out, HD.out, if_neg (by show mayC a0 a1 a2 a3 lst ≠ 0; unfold mayC limA limB; (repeat' split); all_goals first | decide | (exfalso; omega))]
              exact Option.some_ne_none _)
            clear h101 h102
            go_wp2_with fail
            go_must (refine (placed_any 102 ((j + 1 : Nat) : Int) _ (by decide)).mono ?_)
            rintro e w2 ⟨b2, rfl, hge2, hk2, hb2⟩
            unfold fV
            have HB2 : Hid (Below w.heap.size w w2 ∧ Blk w2 w.heap.size 32 #[.int .i64 0, .slice none 0 0]) := Lib.hid ⟨HBW.out.1.trans (hb2.mono HBW.out.1.size), HBW.out.2.below hb2 HBW.out.2.lt⟩
            clear hk2 hb2
            have c4 : w2.cell? ⟨w.heap.size, 0, none⟩ = some (.int .i64 0) := HB2.out.2.cell 0
            have c5 : w2.cell? ⟨w.heap.size, 1, none⟩ = some (.slice none 0 0) := HB2.out.2.cell 1
            have f4 : w2.frozen? ⟨w.heap.size, 0, none⟩ = false := HB2.out.2.frozen 0
            have f5 : w2.frozen? ⟨w.heap.size, 1, none⟩ = false := HB2.out.2.frozen 1
            go_wp2
            refine bodyPost_ret (v := fV 102 (.slice (some ⟨b2, 0, none⟩) 1 1)) ?_ rfl ⟨_, _, _, _, rfl, Iff.intro (fun h => absurd h (by decide)) (fun h => absurd h HN.out), (HB2.out.1.setCell (p := ⟨w.heap.size, 0, none⟩) (Nat.le_refl _) _).setCell (p := ⟨w.heap.size, 1, none⟩) (Nat.le_refl _) _⟩
            simp [results, Tryd.results14, go_sem, fV, c4, c5]
          · have t102a : decide (a1 > 5) = false := by simp; omega
            have t102b : decide (5 < a1) = false := by simp; omega
            by_cases h103 : a1 = 3
            · have t103a : (a1 == 3) = true := by simp; omega
              by_cases h104 : a0 < 0
              · have t104a : decide (a0 < 0) = true := by simp; omega
                have HN : Hid (mayF 0 0 l ≠ none) := Lib.hid (by
                  rw [HM.out, HD.out, if_neg (by show mayC a0 a1 a2 a3 lst ≠ 0; unfold mayC limA limB; (repeat' split); all_goals first | decide | (exfalso; omega))]
                  exact Option.some_ne_none _)
                clear h101 h102 h103 h104
                go_wp2_with fail
                go_must (refine (placed_any 103 ((j + 1 : Nat) : Int) _ (by decide)).mono ?_)
                rintro e w2 ⟨b2, rfl, hge2, hk2, hb2⟩
                unfold fV
                have HB2 : Hid (Below w.heap.size w w2 ∧ Blk w2 w.heap.size 32 #[.int .i64 0, .slice none 0 0]) := Lib.hid ⟨HBW.out.1.trans (hb2.mono HBW.out.1.size), HBW.out.2.below hb2 HBW.out.2.lt⟩
                clear hk2 hb2
                have c4 : w2.cell? ⟨w.heap.size, 0, none⟩ = some (.int .i64 0) := HB2.out.2.cell 0
                have c5 : w2.cell? ⟨w.heap.size, 1, none⟩ = some (.slice none 0 0) := HB2.out.2.cell 1
                have f4 : w2.frozen? ⟨w.heap.size, 0, none⟩ = false := HB2.out.2.frozen 0
                have f5 : w2.frozen? ⟨w.heap.size, 1, none⟩ = false := HB2.out.2.frozen 1
                go_wp2
                refine bodyPost_ret (v := fV 103 (.slice (some ⟨b2, 0, none⟩) 1 1)) ?_ rfl ⟨_, _, _, _, rfl, Iff.intro (fun h => absurd h (by decide)) (fun h => absurd h HN.out), (HB2.out.1.setCell (p := ⟨w.heap.size, 0, none⟩) (Nat.le_refl _) _).setCell (p := ⟨w.heap.size, 1, none⟩) (Nat.le_refl _) _⟩
                simp [results, Tryd.results14, go_sem, fV, c4, c5]
              · have t104a : decide (a0 < 0) = false := by simp; omega
                by_cases h105 : 1048576 < a0
                · have t105a : decide (a0 > 1048576) = true := by simp; omega
                  have t105b : decide (1048576 < a0) = true := by simp; omega
                  have HN : Hid (mayF 0 0 l ≠ none) := Lib.hid (by
                    rw [HM.out, HD.out, if_neg (by show mayC a0 a1 a2 a3 lst ≠ 0; unfold mayC limA limB; (repeat' split); all_goals first | decide | (exfalso; omega))]
                    exact Option.some_ne_none _)
                  clear h101 h102 h103 h104 h105
                  go_wp2_with fail
                  go_must (refine (placed_any 103 ((j + 1 : Nat) : Int) _ (by decide)).mono ?_)
                  rintro e w2 ⟨b2, rfl, hge2, hk2, hb2⟩
                  unfold fV
                  have HB2 : Hid (Below w.heap.size w w2 ∧ Blk w2 w.heap.size 32 #[.int .i64 0, .slice none 0 0]) := Lib.hid ⟨HBW.out.1.trans (hb2.mono HBW.out.1.size), HBW.out.2.below hb2 HBW.out.2.lt⟩
                  clear hk2 hb2
                  have c4 : w2.cell? ⟨w.heap.size, 0, none⟩ = some (.int .i64 0) := HB2.out.2.cell 0
                  have c5 : w2.cell? ⟨w.heap.size, 1, none⟩ = some (.slice none 0 0) := HB2.out.2.cell 1
                  have f4 : w2.frozen? ⟨w.heap.size, 0, none⟩ = false := HB2.out.2.frozen 0
                  have f5 : w2.frozen? ⟨w.heap.size, 1, none⟩ = false := HB2.out.2.frozen 1
                  go_wp2
                  refine bodyPost_ret (v := fV 103 (.slice (some ⟨b2, 0, none⟩) 1 1)) ?_ rfl ⟨_, _, _, _, rfl, Iff.intro (fun h => absurd h (by decide)) (fun h => absurd h HN.out), (HB2.out.1.setCell (p := ⟨w.heap.size, 0, none⟩) (Nat.le_refl _) _).setCell (p := ⟨w.heap.size, 1, none⟩) (Nat.le_refl _) _⟩
                  simp [results, Tryd.results14, go_sem, fV, c4, c5]
                · have t105a : decide (a0 > 1048576) = false := by simp; omega
                  have t105b : decide (1048576 < a0) = false := by simp; omega
                  by_cases h106 : a2 < 0
                  · have t106a : decide (a2 < 0) = true := by simp; omega
                    have HN : Hid (mayF 0 0 l ≠ none) := Lib.hid (by
                      rw [HM.out, HD.out, if_neg (by show mayC a0 a1 a2 a3 lst ≠ 0; unfold mayC limA limB; (repeat' split); all_goals first | decide | (exfalso; omega))]
                      exact Option.some_ne_none _)
                    clear h101 h102 h103 h104 h105 h106
                    go_wp2_with fail
                    go_must (refine (placed_any 103 ((j + 1 : Nat) : Int) _ (by decide)).mono ?_)
                    rintro e w2 ⟨b2, rfl, hge2, hk2, hb2⟩
                    unfold fV
                    have HB2 : Hid (Below w.heap.size w w2 ∧ Blk w2 w.heap.size 32 #[.int .i64 0, .slice none 0 0]) := Lib.hid ⟨HBW.out.1.trans (hb2.mono HBW.out.1.size), HBW.out.2.below hb2 HBW.out.2.lt⟩
                    clear hk2 hb2
                    have c4 : w2.cell? ⟨w.heap.size, 0, none⟩ = some (.int .i64 0) := HB2.out.2.cell 0
                    have c5 : w2.cell? ⟨w.heap.size, 1, none⟩ = some (.slice none 0 0) := HB2.out.2.cell 1
                    have f4 : w2.frozen? ⟨w.heap.size, 0, none⟩ = false := HB2.out.2.frozen 0
                    have f5 : w2.frozen? ⟨w.heap.size, 1, none⟩ = false := HB2.out.2.frozen 1
                    go_wp2
                    refine bodyPost_ret (v := fV 103 (.slice (some ⟨b2, 0, none⟩) 1 1)) ?_ rfl ⟨_, _, _, _, rfl, Iff.intro (fun h => absurd h (by decide)) (fun h => absurd h HN.out), (HB2.out.1.setCell (p := ⟨w.heap.size, 0, none⟩) (Nat.le_refl _) _).setCell (p := ⟨w.heap.size, 1, none⟩) (Nat.le_refl _) _⟩
                    simp [results, Tryd.results14, go_sem, fV, c4, c5]
                  · have t106a : decide (a2 < 0) = false := by simp; omega
                    by_cases h107 : 11 < a2
                    · have t107a : decide (a2 > 11) = true := by simp; omega
                      have t107b : decide (11 < a2) = true := by simp; omega
                      have HN : Hid (mayF 0 0 l ≠ none) := Lib.hid (by
                        rw [HM.out, HD.out, if_neg (by show mayC a0 a1 a2 a3 lst ≠ 0; unfold mayC limA limB; (repeat' split); all_goals first | decide | (exfalso; omega))]
                        exact Option.some_ne_none _)
                      clear h101 h102 h103 h104 h105 h106 h107
                      go_wp2_with fail
                      go_must (refine (placed_any 103 ((j + 1 : Nat) : Int) _ (by decide)).mono ?_)
                      rintro e w2 ⟨b2, rfl, hge2, hk2, hb2⟩
                      unfold fV
                      have HB2 : Hid (Below w.heap.size w w2 ∧ Blk w2 w.heap.size 32 #[.int .i64 0, .slice none 0 0]) := Lib.hid ⟨HBW.out.1.trans (hb2.mono HBW.out.1.size), HBW.out.2.below hb2 HBW.out.2.lt⟩
                      clear hk2 hb2
                      have c4 : w2.cell? ⟨w.heap.size, 0, none⟩ = some (.int .i64 0) := HB2.out.2.cell 0
                      have c5 : w2.cell? ⟨w.heap.size, 1, none⟩ = some (.slice none 0 0) := HB2.out.2.cell 1
                      have f4 : w2.frozen? ⟨w.heap.size, 0, none⟩ = false := HB2.out.2.frozen 0
                      have f5 : w2.frozen? ⟨w.heap.size, 1, none⟩ = false := HB2.out.2.frozen 1
                      go_wp2
                      refine bodyPost_ret (v := fV 103 (.slice (some ⟨b2, 0, none⟩) 1 1)) ?_ rfl ⟨_, _, _, _, rfl, Iff.intro (fun h => absurd h (by decide)) (fun h => absurd h HN.out), (HB2.out.1.setCell (p := ⟨w.heap.size, 0, none⟩) (Nat.le_refl _) _).setCell (p := ⟨w.heap.size, 1, none⟩) (Nat.le_refl _) _⟩
                      simp [results, Tryd.results14, go_sem, fV, c4, c5]
                    · have t107a : decide (a2 > 11) = false := by simp; omega
                      have t107b : decide (11 < a2) = false := by simp; omega
                      by_cases h108 : a3 < 0
                      · have t108a : decide (a3 < 0) = true := by simp; omega
                        have HN : Hid (mayF 0 0 l ≠ none) := Lib.hid (by
                          rw [HM.out, HD.out, if_neg (by show mayC a0 a1 a2 a3 lst ≠ 0; unfold mayC limA limB; (repeat' split); all_goals first | decide | (exfalso; omega))]
                          exact Option.some_ne_none _)
                        clear h101 h102 h103 h104 h105 h106 h107 h108
                        go_wp2_with fail
                        go_must (refine (placed_any 103 ((j + 1 : Nat) : Int) _ (by decide)).mono ?_)
                        rintro e w2 ⟨b2, rfl, hge2, hk2, hb2⟩
                        unfold fV
                        have HB2 : Hid (Below w.heap.size w w2 ∧ Blk w2 w.heap.size 32 #[.int .i64 0, .slice none 0 0]) := Lib.hid ⟨HBW.out.1.trans (hb2.mono HBW.out.1.size), HBW.out.2.below hb2 HBW.out.2.lt⟩
                        clear hk2 hb2
                        have c4 : w2.cell? ⟨w.heap.size, 0, none⟩ = some (.int .i64 0) := HB2.out.2.cell 0
                        have c5 : w2.cell? ⟨w.heap.size, 1, none⟩ = some (.slice none 0 0) := HB2.out.2.cell 1
                        have f4 : w2.frozen? ⟨w.heap.size, 0, none⟩ = false := HB2.out.2.frozen 0
                        have f5 : w2.frozen? ⟨w.heap.size, 1, none⟩ = false := HB2.out.2.frozen 1
                        go_wp2
                        refine bodyPost_ret (v := fV 103 (.slice (some ⟨b2, 0, none⟩) 1 1)) ?_ rfl ⟨_, _, _, _, rfl, Iff.intro (fun h => absurd h (by decide)) (fun h => absurd h HN.out), (HB2.out.1.setCell (p := ⟨w.heap.size, 0, none⟩) (Nat.le_refl _) _).setCell (p := ⟨w.heap.size, 1, none⟩) (Nat.le_refl _) _⟩
                        simp [results, Tryd.results14, go_sem, fV, c4, c5]
                      · have t108a : decide (a3 < 0) = false := by simp; omega
                        by_cases h109 : 2047 < a3
                        · have t109a : decide (a3 > 2047) = true := by simp; omega
                          have t109b : decide (2047 < a3) = true := by simp; omega
                          have HN : Hid (mayF 0 0 l ≠ none) := Lib.hid (by
                            rw [HM.out, HD.out, if_neg (by show mayC a0 a1 a2 a3 lst ≠ 0; unfold mayC limA limB; (repeat' split); all_goals first | decide | (exfalso; omega))]
                            exact Option.some_ne_none _)
                          clear h101 h102 h103 h104 h105 h106 h107 h108 h109
                          go_wp2_with fail
                          go_must (refine (placed_any 103 ((j + 1 : Nat) : Int) _ (by decide)).mono ?_)
                          rintro e w2 ⟨b2, rfl, hge2, hk2, hb2⟩
                          unfold fV
                          have HB2 : Hid (Below w.heap.size w w2 ∧ Blk w2 w.heap.size 32 #[.int .i64 0, .slice none 0 0]) := Lib.hid ⟨HBW.out.1.trans (hb2.mono HBW.out.1.size), HBW.out.2.below hb2 HBW.out.2.lt⟩
                          clear hk2 hb2
                          have c4 : w2.cell? ⟨w.heap.size, 0, none⟩ = some (.int .i64 0) := HB2.out.2.cell 0
                          have c5 : w2.cell? ⟨w.heap.size, 1, none⟩ = some (.slice none 0 0) := HB2.out.2.cell 1
                          have f4 : w2.frozen? ⟨w.heap.size, 0, none⟩ = false := HB2.out.2.frozen 0
                          have f5 : w2.frozen? ⟨w.heap.size, 1, none⟩ = false := HB2.out.2.frozen 1
                          go_wp2
                          refine bodyPost_ret (v := fV 103 (.slice (some ⟨b2, 0, none⟩) 1 1)) ?_ rfl ⟨_, _, _, _, rfl, Iff.intro (fun h => absurd h (by decide)) (fun h => absurd h HN.out), (HB2.out.1.setCell (p := ⟨w.heap.size, 0, none⟩) (Nat.le_refl _) _).setCell (p := ⟨w.heap.size, 1, none⟩) (Nat.le_refl _) _⟩
                          simp [results, Tryd.results14, go_sem, fV, c4, c5]
                        · have t109a : decide (a3 > 2047) = false := by simp; omega
                          have t109b : decide (2047 < a3) = false := by simp; omega
                          by_cases h110 : a0 < lst
                          · have t110a : decide (a0 < lst) = true := by simp; omega
                            have HN : Hid (mayF 0 0 l ≠ none) := Lib.hid (by
                              rw [HM.out, HD.out, if_neg (by show mayC a0 a1 a2 a3 lst ≠ 0; unfold mayC limA limB; (repeat' split); all_goals first | decide | (exfalso; omega))]
                              exact Option.some_ne_none _)
                            clear h101 h102 h103 h104 h105 h106 h107 h108 h109 h110
                            go_wp2_with fail
                            go_quiet (fail)
                            go_wp2_with fail
                            go_must (refine (placed_any 105 ((j + 1 : Nat) : Int) _ (by decide)).mono ?_)
                            rintro e w2 ⟨b2, rfl, hge2, hk2, hb2⟩
                            unfold fV
                            have HB2 : Hid (Below w.heap.size w w2 ∧ Blk w2 w.heap.size 32 #[.int .i64 0, .slice none 0 0]) := Lib.hid ⟨(below_drewN HBW.out.1 nq).trans (hb2.mono HBW.out.1.size), (HBW.out.2.drewN nq).below hb2 HBW.out.2.lt⟩
                            clear hk2 hb2
                            have c4 : w2.cell? ⟨w.heap.size, 0, none⟩ = some (.int .i64 0) := HB2.out.2.cell 0
                            have c5 : w2.cell? ⟨w.heap.size, 1, none⟩ = some (.slice none 0 0) := HB2.out.2.cell 1
                            have f4 : w2.frozen? ⟨w.heap.size, 0, none⟩ = false := HB2.out.2.frozen 0
                            have f5 : w2.frozen? ⟨w.heap.size, 1, none⟩ = false := HB2.out.2.frozen 1
                            go_wp2
                            refine bodyPost_ret (v := fV 105 (.slice (some ⟨b2, 0, none⟩) 1 1)) ?_ rfl ⟨_, _, _, _, rfl, Iff.intro (fun h => absurd h (by decide)) (fun h => absurd h HN.out), (HB2.out.1.setCell (p := ⟨w.heap.size, 0, none⟩) (Nat.le_refl _) _).setCell (p := ⟨w.heap.size, 1, none⟩) (Nat.le_refl _) _⟩
                            simp [results, Tryd.results14, go_sem, fV, c4, c5]
                          · have t110a : decide (a0 < lst) = false := by simp; omega
                            have HN : Hid (mayF 0 0 l = mayF (j + 1 + 1) a0 (l.drop (j + 1 + 1))) := Lib.hid (by
                              rw [HM.out, HD.out, if_pos (by show mayC a0 a1 a2 a3 lst = 0; unfold mayC limA limB; (repeat' split); all_goals first | rfl | (exfalso; omega))])
                            clear h101 h102 h103 h104 h105 h106 h107 h108 h109 h110
                            go_wp2
                            go_quiet (fail)
                            go_wp2
                            go_roundw
                            case rel => exact rmay_next (k := j + 1) (by omega) (by omega) HLA.out HN.out (below_drewN HBW.out.1 _) (HBW.out.2.drewN _)
                            case measure => simp [intOf]; omega
            · have t103a : (a1 == 3) = false := by simp; omega
              by_cases h111 : a1 = 5
              · have t111a : (a1 == 5) = true := by simp; omega
                by_cases h112 : a0 < 0
                · have t112a : decide (a0 < 0) = true := by simp; omega
                  have HN : Hid (mayF 0 0 l ≠ none) := Lib.hid (by
                    rw [HM.out, HD.out, if_neg (by show mayC a0 a1 a2 a3 lst ≠ 0; unfold mayC limA limB; (repeat' split); all_goals first | decide | (exfalso; omega))]
                    exact Option.some_ne_none _)
                  clear h101 h102 h103 h111 h112
                  go_wp2_with fail
                  go_must (refine (placed_any 103 ((j + 1 : Nat) : Int) _ (by decide)).mono ?_)
                  rintro e w2 ⟨b2, rfl, hge2, hk2, hb2⟩
                  unfold fV
                  have HB2 : Hid (Below w.heap.size w w2 ∧ Blk w2 w.heap.size 32 #[.int .i64 0, .slice none 0 0]) := Lib.hid ⟨HBW.out.1.trans (hb2.mono HBW.out.1.size), HBW.out.2.below hb2 HBW.out.2.lt⟩
                  clear hk2 hb2
                  have c4 : w2.cell? ⟨w.heap.size, 0, none⟩ = some (.int .i64 0) := HB2.out.2.cell 0
                  have c5 : w2.cell? ⟨w.heap.size, 1, none⟩ = some (.slice none 0 0) := HB2.out.2.cell 1
                  have f4 : w2.frozen? ⟨w.heap.size, 0, none⟩ = false := HB2.out.2.frozen 0
                  have f5 : w2.frozen? ⟨w.heap.size, 1, none⟩ = false := HB2.out.2.frozen 1
                  go_wp2
                  refine bodyPost_ret (v := fV 103 (.slice (some ⟨b2, 0, none⟩) 1 1)) ?_ rfl ⟨_, _, _, _, rfl, Iff.intro (fun h => absurd h (by decide)) (fun h => absurd h HN.out), (HB2.out.1.setCell (p := ⟨w.heap.size, 0, none⟩) (Nat.le_refl _) _).setCell (p := ⟨w.heap.size, 1, none⟩) (Nat.le_refl _) _⟩
                  simp [results, Tryd.results14, go_sem, fV, c4, c5]
                · have t112a : decide (a0 < 0) = false := by simp; omega
                  by_cases h113 : 1048576 < a0
                  · have t113a : decide (a0 > 1048576) = true := by simp; omega
                    have t113b : decide (1048576 < a0) = true := by simp; omega
                    have HN : Hid (mayF 0 0 l ≠ none) := Lib.hid (by
                      rw [HM.out, HD.out, if_neg (by show mayC a0 a1 a2 a3 lst ≠ 0; unfold mayC limA limB; (repeat' split); all_goals first | decide | (exfalso; omega))]
                      exact Option.some_ne_none _)
                    clear h101 h102 h103 h111 h112 h113
                    go_wp2_with fail
                    go_must (refine (placed_any 103 ((j + 1 : Nat) : Int) _ (by decide)).mono ?_)
                    rintro e w2 ⟨b2, rfl, hge2, hk2, hb2⟩
                    unfold fV
                    have HB2 : Hid (Below w.heap.size w w2 ∧ Blk w2 w.heap.size 32 #[.int .i64 0, .slice none 0 0]) := Lib.hid ⟨HBW.out.1.trans (hb2.mono HBW.out.1.size), HBW.out.2.below hb2 HBW.out.2.lt⟩
                    clear hk2 hb2
                    have c4 : w2.cell? ⟨w.heap.size, 0, none⟩ = some (.int .i64 0) := HB2.out.2.cell 0
                    have c5 : w2.cell? ⟨w.heap.size, 1, none⟩ = some (.slice none 0 0) := HB2.out.2.cell 1
                    have f4 : w2.frozen? ⟨w.heap.size, 0, none⟩ = false := HB2.out.2.frozen 0
                    have f5 : w2.frozen? ⟨w.heap.size, 1, none⟩ = false := HB2.out.2.frozen 1
                    go_wp2
                    refine bodyPost_ret (v := fV 103 (.slice (some ⟨b2, 0, none⟩) 1 1)) ?_ rfl ⟨_, _, _, _, rfl, Iff.intro (fun h => absurd h (by decide)) (fun h => absurd h HN.out), (HB2.out.1.setCell (p := ⟨w.heap.size, 0, none⟩) (Nat.le_refl _) _).setCell (p := ⟨w.heap.size, 1, none⟩) (Nat.le_refl _) _⟩
                    simp [results, Tryd.results14, go_sem, fV, c4, c5]
                  · have t113a : decide (a0 > 1048576) = false := by simp; omega
                    have t113b : decide (1048576 < a0) = false := by simp; omega
                    by_cases h114 : a2 < 0
                    · have t114a : decide (a2 < 0) = true := by simp; omega
                      have HN : Hid (mayF 0 0 l ≠ none) := Lib.hid (by
                        rw [HM.out, HD.out, if_neg (by show mayC a0 a1 a2 a3 lst ≠ 0; unfold mayC limA limB; (repeat' split); all_goals first | decide | (exfalso; omega))]
                        exact Option.some_ne_none _)
                      clear h101 h102 h103 h111 h112 h113 h114
                      go_wp2_with fail
                      go_must (refine (placed_any 103 ((j + 1 : Nat) : Int) _ (by decide)).mono ?_)
                      rintro e w2 ⟨b2, rfl, hge2, hk2, hb2⟩
                      unfold fV
                      have HB2 : Hid (Below w.heap.size w w2 ∧ Blk w2 w.heap.size 32 #[.int .i64 0, .slice none 0 0]) := Lib.hid ⟨HBW.out.1.trans (hb2.mono HBW.out.1.size), HBW.out.2.below hb2 HBW.out.2.lt⟩
                      clear hk2 hb2
                      have c4 : w2.cell? ⟨w.heap.size, 0, none⟩ = some (.int .i64 0) := HB2.out.2.cell 0
                      have c5 : w2.cell? ⟨w.heap.size, 1, none⟩ = some (.slice none 0 0) := HB2.out.2.cell 1
                      have f4 : w2.frozen? ⟨w.heap.size, 0, none⟩ = false := HB2.out.2.frozen 0
                      have f5 : w2.frozen? ⟨w.heap.size, 1, none⟩ = false := HB2.out.2.frozen 1
                      go_wp2
                      refine bodyPost_ret (v := fV 103 (.slice (some ⟨b2, 0, none⟩) 1 1)) ?_ rfl ⟨_, _, _, _, rfl, Iff.intro (fun h => absurd h (by decide)) (fun h => absurd h HN.out), (HB2.out.1.setCell (p := ⟨w.heap.size, 0, none⟩) (Nat.le_refl _) _).setCell (p := ⟨w.heap.size, 1, none⟩) (Nat.le_refl _) _⟩
                      simp [results, Tryd.results14, go_sem, fV, c4, c5]
                    · have t114a : decide (a2 < 0) = false := by simp; omega
                      by_cases h115 : 0 < a2
                      · have t115a : decide (a2 > 0) = true := by simp; omega
                        have t115b : decide (0 < a2) = true := by simp; omega
                        have HN : Hid (mayF 0 0 l ≠ none) := Lib.hid (by
                          rw [HM.out, HD.out, if_neg (by show mayC a0 a1 a2 a3 lst ≠ 0; unfold mayC limA limB; (repeat' split); all_goals first | decide | (exfalso; omega))]
                          exact Option.some_ne_none _)
                        clear h101 h102 h103 h111 h112 h113 h114 h115
                        go_wp2_with fail
                        go_must (refine (placed_any 103 ((j + 1 : Nat) : Int) _ (by decide)).mono ?_)
                        rintro e w2 ⟨b2, rfl, hge2, hk2, hb2⟩
                        unfold fV
                        have HB2 : Hid (Below w.heap.size w w2 ∧ Blk w2 w.heap.size 32 #[.int .i64 0, .slice none 0 0]) := Lib.hid ⟨HBW.out.1.trans (hb2.mono HBW.out.1.size), HBW.out.2.below hb2 HBW.out.2.lt⟩
                        clear hk2 hb2
                        have c4 : w2.cell? ⟨w.heap.size, 0, none⟩ = some (.int .i64 0) := HB2.out.2.cell 0
                        have c5 : w2.cell? ⟨w.heap.size, 1, none⟩ = some (.slice none 0 0) := HB2.out.2.cell 1
                        have f4 : w2.frozen? ⟨w.heap.size, 0, none⟩ = false := HB2.out.2.frozen 0
                        have f5 : w2.frozen? ⟨w.heap.size, 1, none⟩ = false := HB2.out.2.frozen 1
                        go_wp2
                        refine bodyPost_ret (v := fV 103 (.slice (some ⟨b2, 0, none⟩) 1 1)) ?_ rfl ⟨_, _, _, _, rfl, Iff.intro (fun h => absurd h (by decide)) (fun h => absurd h HN.out), (HB2.out.1.setCell (p := ⟨w.heap.size, 0, none⟩) (Nat.le_refl _) _).setCell (p := ⟨w.heap.size, 1, none⟩) (Nat.le_refl _) _⟩
                        simp [results, Tryd.results14, go_sem, fV, c4, c5]
                      · have t115a : decide (a2 > 0) = false := by simp; omega
                        have t115b : decide (0 < a2) = false := by simp; omega
                        by_cases h116 : a3 < 0
                        · have t116a : decide (a3 < 0) = true := by simp; omega
                          have HN : Hid (mayF 0 0 l ≠ none) := Lib.hid (by
                            rw [HM.out, HD.out, if_neg (by show mayC a0 a1 a2 a3 lst ≠ 0; unfold mayC limA limB; (repeat' split); all_goals first | decide | (exfalso; omega))]
                            exact Option.some_ne_none _)
                          clear h101 h102 h103 h111 h112 h113 h114 h115 h116
                          go_wp2_with fail
                          go_must (refine (placed_any 103 ((j + 1 : Nat) : Int) _ (by decide)).mono ?_)
                          rintro e w2 ⟨b2, rfl, hge2, hk2, hb2⟩
                          unfold fV
                          have HB2 : Hid (Below w.heap.size w w2 ∧ Blk w2 w.heap.size 32 #[.int .i64 0, .slice none 0 0]) := Lib.hid ⟨HBW.out.1.trans (hb2.mono HBW.out.1.size), HBW.out.2.below hb2 HBW.out.2.lt⟩
                          clear hk2 hb2
                          have c4 : w2.cell? ⟨w.heap.size, 0, none⟩ = some (.int .i64 0) := HB2.out.2.cell 0
                          have c5 : w2.cell? ⟨w.heap.size, 1, none⟩ = some (.slice none 0 0) := HB2.out.2.cell 1
                          have f4 : w2.frozen? ⟨w.heap.size, 0, none⟩ = false := HB2.out.2.frozen 0
                          have f5 : w2.frozen? ⟨w.heap.size, 1, none⟩ = false := HB2.out.2.frozen 1
                          go_wp2
                          refine bodyPost_ret (v := fV 103 (.slice (some ⟨b2, 0, none⟩) 1 1)) ?_ rfl ⟨_, _, _, _, rfl, Iff.intro (fun h => absurd h (by decide)) (fun h => absurd h HN.out), (HB2.out.1.setCell (p := ⟨w.heap.size, 0, none⟩) (Nat.le_refl _) _).setCell (p := ⟨w.heap.size, 1, none⟩) (Nat.le_refl _) _⟩
                          simp [results, Tryd.results14, go_sem, fV, c4, c5]
                        · have t116a : decide (a3 < 0) = false := by simp; omega
                          by_cases h117 : 2047 < a3
                          · have t117a : decide (a3 > 2047) = true := by simp; omega
                            have t117b : decide (2047 < a3) = true := by simp; omega
                            have HN : Hid (mayF 0 0 l ≠ none) := Lib.hid (by
                              rw [HM.out, HD.out, if_neg (by show mayC a0 a1 a2 a3 lst ≠ 0; unfold mayC limA limB; (repeat' split); all_goals first | decide | (exfalso; omega))]
                              exact Option.some_ne_none _)
                            clear h101 h102 h103 h111 h112 h113 h114 h115 h116 h117
                            go_wp2_with fail
                            go_must (refine (placed_any 103 ((j + 1 : Nat) : Int) _ (by decide)).mono ?_)
                            rintro e w2 ⟨b2, rfl, hge2, hk2, hb2⟩
                            unfold fV
                            have HB2 : Hid (Below w.heap.size w w2 ∧ Blk w2 w.heap.size 32 #[.int .i64 0, .slice none 0 0]) := Lib.hid ⟨HBW.out.1.trans (hb2.mono HBW.out.1.size), HBW.out.2.below hb2 HBW.out.2.lt⟩
                            clear hk2 hb2
                            have c4 : w2.cell? ⟨w.heap.size, 0, none⟩ = some (.int .i64 0) := HB2.out.2.cell 0
                            have c5 : w2.cell? ⟨w.heap.size, 1, none⟩ = some (.slice none 0 0) := HB2.out.2.cell 1
                            have f4 : w2.frozen? ⟨w.heap.size, 0, none⟩ = false := HB2.out.2.frozen 0
                            have f5 : w2.frozen? ⟨w.heap.size, 1, none⟩ = false := HB2.out.2.frozen 1
                            go_wp2
                            refine bodyPost_ret (v := fV 103 (.slice (some ⟨b2, 0, none⟩) 1 1)) ?_ rfl ⟨_, _, _, _, rfl, Iff.intro (fun h => absurd h (by decide)) (fun h => absurd h HN.out), (HB2.out.1.setCell (p := ⟨w.heap.size, 0, none⟩) (Nat.le_refl _) _).setCell (p := ⟨w.heap.size, 1, none⟩) (Nat.le_refl _) _⟩
                            simp [results, Tryd.results14, go_sem, fV, c4, c5]
                          · have t117a : decide (a3 > 2047) = false := by simp; omega
                            have t117b : decide (2047 < a3) = false := by simp; omega
                            by_cases h118 : a0 < lst
                            · have t118a : decide (a0 < lst) = true := by simp; omega
                              have HN : Hid (mayF 0 0 l ≠ none) := Lib.hid (by
                                rw [HM.out, HD.out, if_neg (by show mayC a0 a1 a2 a3 lst ≠ 0; unfold mayC limA limB; (repeat' split); all_goals first | decide | (exfalso; omega))]
                                exact Option.some_ne_none _)
                              clear h101 h102 h103 h111 h112 h113 h114 h115 h116 h117 h118
                              go_wp2_with fail
                              go_quiet (fail)
                              go_wp2_with fail
                              go_must (refine (placed_any 105 ((j + 1 : Nat) : Int) _ (by decide)).mono ?_)
                              rintro e w2 ⟨b2, rfl, hge2, hk2, hb2⟩
                              unfold fV
                              have HB2 : Hid (Below w.heap.size w w2 ∧ Blk w2 w.heap.size 32 #[.int .i64 0, .slice none 0 0]) := Lib.hid ⟨(below_drewN HBW.out.1 nq).trans (hb2.mono HBW.out.1.size), (HBW.out.2.drewN nq).below hb2 HBW.out.2.lt⟩
                              clear hk2 hb2
                              have c4 : w2.cell? ⟨w.heap.size, 0, none⟩ = some (.int .i64 0) := HB2.out.2.cell 0
                              have c5 : w2.cell? ⟨w.heap.size, 1, none⟩ = some (.slice none 0 0) := HB2.out.2.cell 1
                              have f4 : w2.frozen? ⟨w.heap.size, 0, none⟩ = false := HB2.out.2.frozen 0
                              have f5 : w2.frozen? ⟨w.heap.size, 1, none⟩ = false := HB2.out.2.frozen 1
                              go_wp2
                              refine bodyPost_ret (v := fV 105 (.slice (some ⟨b2, 0, none⟩) 1 1)) ?_ rfl ⟨_, _, _, _, rfl, Iff.intro (fun h => absurd h (by decide)) (fun h => absurd h HN.out), (HB2.out.1.setCell (p := ⟨w.heap.size, 0, none⟩) (Nat.le_refl _) _).setCell (p := ⟨w.heap.size, 1, none⟩) (Nat.le_refl _) _⟩
                              simp [results, Tryd.results14, go_sem, fV, c4, c5]
                            · have t118a : decide (a0 < lst) = false := by simp; omega
                              have HN : Hid (mayF 0 0 l = mayF (j + 1 + 1) a0 (l.drop (j + 1 + 1))) := Lib.hid (by
                                rw [HM.out, HD.out, if_pos (by show mayC a0 a1 a2 a3 lst = 0; unfold mayC limA limB; (repeat' split); all_goals first | rfl | (exfalso; omega))])
                              clear h101 h102 h103 h111 h112 h113 h114 h115 h116 h117 h118
                              go_wp2
                              go_quiet (fail)
                              go_wp2
                              go_roundw
                              case rel => exact rmay_next (k := j + 1) (by omega) (by omega) HLA.out HN.out (below_drewN HBW.out.1 _) (HBW.out.2.drewN _)
                              case measure => simp [intOf]; omega
              · have t111a : (a1 == 5) = false := by simp; omega
                by_cases h119 : a0 < 0
                · have t119a : decide (a0 < 0) = true := by simp; omega
                  have HN : Hid (mayF 0 0 l ≠ none) := Lib.hid (by
                    rw [HM.out, HD.out, if_neg (by show mayC a0 a1 a2 a3 lst ≠ 0; unfold mayC limA limB; (repeat' split); all_goals first | decide | (exfalso; omega))]
                    exact Option.some_ne_none _)
                  clear h101 h102 h103 h111 h119
                  go_wp2_with fail
                  go_must (refine (placed_any 103 ((j + 1 : Nat) : Int) _ (by decide)).mono ?_)
                  rintro e w2 ⟨b2, rfl, hge2, hk2, hb2⟩
                  unfold fV
                  have HB2 : Hid (Below w.heap.size w w2 ∧ Blk w2 w.heap.size 32 #[.int .i64 0, .slice none 0 0]) := Lib.hid ⟨HBW.out.1.trans (hb2.mono HBW.out.1.size), HBW.out.2.below hb2 HBW.out.2.lt⟩
                  clear hk2 hb2
                  have c4 : w2.cell? ⟨w.heap.size, 0, none⟩ = some (.int .i64 0) := HB2.out.2.cell 0
                  have c5 : w2.cell? ⟨w.heap.size, 1, none⟩ = some (.slice none 0 0) := HB2.out.2.cell 1
                  have f4 : w2.frozen? ⟨w.heap.size, 0, none⟩ = false := HB2.out.2.frozen 0
                  have f5 : w2.frozen? ⟨w.heap.size, 1, none⟩ = false := HB2.out.2.frozen 1
                  go_wp2
                  refine bodyPost_ret (v := fV 103 (.slice (some ⟨b2, 0, none⟩) 1 1)) ?_ rfl ⟨_, _, _, _, rfl, Iff.intro (fun h => absurd h (by decide)) (fun h => absurd h HN.out), (HB2.out.1.setCell (p := ⟨w.heap.size, 0, none⟩) (Nat.le_refl _) _).setCell (p := ⟨w.heap.size, 1, none⟩) (Nat.le_refl _) _⟩
                  simp [results, Tryd.results14, go_sem, fV, c4, c5]
                · have t119a : decide (a0 < 0) = false := by simp; omega
                  by_cases h120 : 1048576 < a0
                  · have t120a : decide (a0 > 1048576) = true := by simp; omega
                    have t120b : decide (1048576 < a0) = true := by simp; omega
                    have HN : Hid (mayF 0 0 l ≠ none) := Lib.hid (by
                      rw [HM.out, HD.out, if_neg (by show mayC a0 a1 a2 a3 lst ≠ 0; unfold mayC limA limB; (repeat' split); all_goals first | decide | (exfalso; omega))]
                      exact Option.some_ne_none _)
                    clear h101 h102 h103 h111 h119 h120
                    go_wp2_with fail
                    go_must (refine (placed_any 103 ((j + 1 : Nat) : Int) _ (by decide)).mono ?_)
                    rintro e w2 ⟨b2, rfl, hge2, hk2, hb2⟩
                    unfold fV
                    have HB2 : Hid (Below w.heap.size w w2 ∧ Blk w2 w.heap.size 32 #[.int .i64 0, .slice none 0 0]) := Lib.hid ⟨HBW.out.1.trans (hb2.mono HBW.out.1.size), HBW.out.2.below hb2 HBW.out.2.lt⟩
                    clear hk2 hb2
                    have c4 : w2.cell? ⟨w.heap.size, 0, none⟩ = some (.int .i64 0) := HB2.out.2.cell 0
                    have c5 : w2.cell? ⟨w.heap.size, 1, none⟩ = some (.slice none 0 0) := HB2.out.2.cell 1
                    have f4 : w2.frozen? ⟨w.heap.size, 0, none⟩ = false := HB2.out.2.frozen 0
                    have f5 : w2.frozen? ⟨w.heap.size, 1, none⟩ = false := HB2.out.2.frozen 1
                    go_wp2
                    refine bodyPost_ret (v := fV 103 (.slice (some ⟨b2, 0, none⟩) 1 1)) ?_ rfl ⟨_, _, _, _, rfl, Iff.intro (fun h => absurd h (by decide)) (fun h => absurd h HN.out), (HB2.out.1.setCell (p := ⟨w.heap.size, 0, none⟩) (Nat.le_refl _) _).setCell (p := ⟨w.heap.size, 1, none⟩) (Nat.le_refl _) _⟩
                    simp [results, Tryd.results14, go_sem, fV, c4, c5]
                  · have t120a : decide (a0 > 1048576) = false := by simp; omega
                    have t120b : decide (1048576 < a0) = false := by simp; omega
                    by_cases h121 : a2 < 0
                    · have t121a : decide (a2 < 0) = true := by simp; omega
                      have HN : Hid (mayF 0 0 l ≠ none) := Lib.hid (by
                        rw [HM.out, HD.out, if_neg (by show mayC a0 a1 a2 a3 lst ≠ 0; unfold mayC limA limB; (repeat' split); all_goals first | decide | (exfalso; omega))]
                        exact Option.some_ne_none _)
                      clear h101 h102 h103 h111 h119 h120 h121
                      go_wp2_with fail
                      go_must (refine (placed_any 103 ((j + 1 : Nat) : Int) _ (by decide)).mono ?_)
                      rintro e w2 ⟨b2, rfl, hge2, hk2, hb2⟩
                      unfold fV
                      have HB2 : Hid (Below w.heap.size w w2 ∧ Blk w2 w.heap.size 32 #[.int .i64 0, .slice none 0 0]) := Lib.hid ⟨HBW.out.1.trans (hb2.mono HBW.out.1.size), HBW.out.2.below hb2 HBW.out.2.lt⟩
                      clear hk2 hb2
                      have c4 : w2.cell? ⟨w.heap.size, 0, none⟩ = some (.int .i64 0) := HB2.out.2.cell 0
                      have c5 : w2.cell? ⟨w.heap.size, 1, none⟩ = some (.slice none 0 0) := HB2.out.2.cell 1
                      have f4 : w2.frozen? ⟨w.heap.size, 0, none⟩ = false := HB2.out.2.frozen 0
                      have f5 : w2.frozen? ⟨w.heap.size, 1, none⟩ = false := HB2.out.2.frozen 1
                      go_wp2
                      refine bodyPost_ret (v := fV 103 (.slice (some ⟨b2, 0, none⟩) 1 1)) ?_ rfl ⟨_, _, _, _, rfl, Iff.intro (fun h => absurd h (by decide)) (fun h => absurd h HN.out), (HB2.out.1.setCell (p := ⟨w.heap.size, 0, none⟩) (Nat.le_refl _) _).setCell (p := ⟨w.heap.size, 1, none⟩) (Nat.le_refl _) _⟩
                      simp [results, Tryd.results14, go_sem, fV, c4, c5]
                    · have t121a : decide (a2 < 0) = false := by simp; omega
                      by_cases h122 : 0 < a2
                      · have t122a : decide (a2 > 0) = true := by simp; omega
                        have t122b : decide (0 < a2) = true := by simp; omega
                        have HN : Hid (mayF 0 0 l ≠ none) := Lib.hid (by
                          rw [HM.out, HD.out, if_neg (by show mayC a0 a1 a2 a3 lst ≠ 0; unfold mayC limA limB; (repeat' split); all_goals first | decide | (exfalso; omega))]
                          exact Option.some_ne_none _)
                        clear h101 h102 h103 h111 h119 h120 h121 h122
                        go_wp2_with fail
                        go_must (refine (placed_any 103 ((j + 1 : Nat) : Int) _ (by decide)).mono ?_)
                        rintro e w2 ⟨b2, rfl, hge2, hk2, hb2⟩
                        unfold fV
                        have HB2 : Hid (Below w.heap.size w w2 ∧ Blk w2 w.heap.size 32 #[.int .i64 0, .slice none 0 0]) := Lib.hid ⟨HBW.out.1.trans (hb2.mono HBW.out.1.size), HBW.out.2.below hb2 HBW.out.2.lt⟩
                        clear hk2 hb2
                        have c4 : w2.cell? ⟨w.heap.size, 0, none⟩ = some (.int .i64 0) := HB2.out.2.cell 0
                        have c5 : w2.cell? ⟨w.heap.size, 1, none⟩ = some (.slice none 0 0) := HB2.out.2.cell 1
                        have f4 : w2.frozen? ⟨w.heap.size, 0, none⟩ = false := HB2.out.2.frozen 0
                        have f5 : w2.frozen? ⟨w.heap.size, 1, none⟩ = false := HB2.out.2.frozen 1
                        go_wp2
                        refine bodyPost_ret (v := fV 103 (.slice (some ⟨b2, 0, none⟩) 1 1)) ?_ rfl ⟨_, _, _, _, rfl, Iff.intro (fun h => absurd h (by decide)) (fun h => absurd h HN.out), (HB2.out.1.setCell (p := ⟨w.heap.size, 0, none⟩) (Nat.le_refl _) _).setCell (p := ⟨w.heap.size, 1, none⟩) (Nat.le_refl _) _⟩
                        simp [results, Tryd.results14, go_sem, fV, c4, c5]
                      · have t122a : decide (a2 > 0) = false := by simp; omega
                        have t122b : decide (0 < a2) = false := by simp; omega
                        by_cases h123 : a3 < 0
                        · have t123a : decide (a3 < 0) = true := by simp; omega
                          have HN : Hid (mayF 0 0 l ≠ none) := Lib.hid (by
                            rw [HM.out, HD.out, if_neg (by show mayC a0 a1 a2 a3 lst ≠ 0; unfold mayC limA limB; (repeat' split); all_goals first | decide | (exfalso; omega))]
                            exact Option.some_ne_none _)
                          clear h101 h102 h103 h111 h119 h120 h121 h122 h123
                          go_wp2_with fail
                          go_must (refine (placed_any 103 ((j + 1 : Nat) : Int) _ (by decide)).mono ?_)
                          rintro e w2 ⟨b2, rfl, hge2, hk2, hb2⟩
                          unfold fV
                          have HB2 : Hid (Below w.heap.size w w2 ∧ Blk w2 w.heap.size 32 #[.int .i64 0, .slice none 0 0]) := Lib.hid ⟨HBW.out.1.trans (hb2.mono HBW.out.1.size), HBW.out.2.below hb2 HBW.out.2.lt⟩
                          clear hk2 hb2
                          have c4 : w2.cell? ⟨w.heap.size, 0, none⟩ = some (.int .i64 0) := HB2.out.2.cell 0
                          have c5 : w2.cell? ⟨w.heap.size, 1, none⟩ = some (.slice none 0 0) := HB2.out.2.cell 1
                          have f4 : w2.frozen? ⟨w.heap.size, 0, none⟩ = false := HB2.out.2.frozen 0
                          have f5 : w2.frozen? ⟨w.heap.size, 1, none⟩ = false := HB2.out.2.frozen 1
                          go_wp2
                          refine bodyPost_ret (v := fV 103 (.slice (some ⟨b2, 0, none⟩) 1 1)) ?_ rfl ⟨_, _, _, _, rfl, Iff.intro (fun h => absurd h (by decide)) (fun h => absurd h HN.out), (HB2.out.1.setCell (p := ⟨w.heap.size, 0, none⟩) (Nat.le_refl _) _).setCell (p := ⟨w.heap.size, 1, none⟩) (Nat.le_refl _) _⟩
                          simp [results, Tryd.results14, go_sem, fV, c4, c5]
                        · have t123a : decide (a3 < 0) = false := by simp; omega
                          by_cases h124 : 0 < a3
                          · have t124a : decide (a3 > 0) = true := by simp; omega
                            have t124b : decide (0 < a3) = true := by simp; omega
                            have HN : Hid (mayF 0 0 l ≠ none) := Lib.hid (by
                              rw [HM.out, HD.out, if_neg (by show mayC a0 a1 a2 a3 lst ≠ 0; unfold mayC limA limB; (repeat' split); all_goals first | decide | (exfalso; omega))]
                              exact Option.some_ne_none _)
                            clear h101 h102 h103 h111 h119 h120 h121 h122 h123 h124
                            go_wp2_with fail
                            go_must (refine (placed_any 103 ((j + 1 : Nat) : Int) _ (by decide)).mono ?_)
                            rintro e w2 ⟨b2, rfl, hge2, hk2, hb2⟩
                            unfold fV
                            have HB2 : Hid (Below w.heap.size w w2 ∧ Blk w2 w.heap.size 32 #[.int .i64 0, .slice none 0 0]) := Lib.hid ⟨HBW.out.1.trans (hb2.mono HBW.out.1.size), HBW.out.2.below hb2 HBW.out.2.lt⟩
                            clear hk2 hb2
                            have c4 : w2.cell? ⟨w.heap.size, 0, none⟩ = some (.int .i64 0) := HB2.out.2.cell 0
                            have c5 : w2.cell? ⟨w.heap.size, 1, none⟩ = some (.slice none 0 0) := HB2.out.2.cell 1
                            have f4 : w2.frozen? ⟨w.heap.size, 0, none⟩ = false := HB2.out.2.frozen 0
                            have f5 : w2.frozen? ⟨w.heap.size, 1, none⟩ = false := HB2.out.2.frozen 1
                            go_wp2
                            refine bodyPost_ret (v := fV 103 (.slice (some ⟨b2, 0, none⟩) 1 1)) ?_ rfl ⟨_, _, _, _, rfl, Iff.intro (fun h => absurd h (by decide)) (fun h => absurd h HN.out), (HB2.out.1.setCell (p := ⟨w.heap.size, 0, none⟩) (Nat.le_refl _) _).setCell (p := ⟨w.heap.size, 1, none⟩) (Nat.le_refl _) _⟩
                            simp [results, Tryd.results14, go_sem, fV, c4, c5]
                          · have t124a : decide (a3 > 0) = false := by simp; omega
                            have t124b : decide (0 < a3) = false := by simp; omega
                            by_cases h125 : a0 < lst
                            · have t125a : decide (a0 < lst) = true := by simp; omega
                              have HN : Hid (mayF 0 0 l ≠ none) := Lib.hid (by
                                rw [HM.out, HD.out, if_neg (by show mayC a0 a1 a2 a3 lst ≠ 0; unfold mayC limA limB; (repeat' split); all_goals first | decide | (exfalso; omega))]
                                exact Option.some_ne_none _)
                              clear h101 h102 h103 h111 h119 h120 h121 h122 h123 h124 h125
                              go_wp2_with fail
                              go_quiet (fail)
                              go_wp2_with fail
                              go_must (refine (placed_any 105 ((j + 1 : Nat) : Int) _ (by decide)).mono ?_)
                              rintro e w2 ⟨b2, rfl, hge2, hk2, hb2⟩
                              unfold fV
                              have HB2 : Hid (Below w.heap.size w w2 ∧ Blk w2 w.heap.size 32 #[.int .i64 0, .slice none 0 0]) := Lib.hid ⟨(below_drewN HBW.out.1 nq).trans (hb2.mono HBW.out.1.size), (HBW.out.2.drewN nq).below hb2 HBW.out.2.lt⟩
                              clear hk2 hb2
                              have c4 : w2.cell? ⟨w.heap.size, 0, none⟩ = some (.int .i64 0) := HB2.out.2.cell 0
                              have c5 : w2.cell? ⟨w.heap.size, 1, none⟩ = some (.slice none 0 0) := HB2.out.2.cell 1
                              have f4 : w2.frozen? ⟨w.heap.size, 0, none⟩ = false := HB2.out.2.frozen 0
                              have f5 : w2.frozen? ⟨w.heap.size, 1, none⟩ = false := HB2.out.2.frozen 1
                              go_wp2
                              refine bodyPost_ret (v := fV 105 (.slice (some ⟨b2, 0, none⟩) 1 1)) ?_ rfl ⟨_, _, _, _, rfl, Iff.intro (fun h => absurd h (by decide)) (fun h => absurd h HN.out), (HB2.out.1.setCell (p := ⟨w.heap.size, 0, none⟩) (Nat.le_refl _) _).setCell (p := ⟨w.heap.size, 1, none⟩) (Nat.le_refl _) _⟩
                              simp [results, Tryd.results14, go_sem, fV, c4, c5]
                            · have t125a : decide (a0 < lst) = false := by simp; omega
                              have HN : Hid (mayF 0 0 l = mayF (j + 1 + 1) a0 (l.drop (j + 1 + 1))) := Lib.hid (by
                                rw [HM.out, HD.out, if_pos (by show mayC a0 a1 a2 a3 lst = 0; unfold mayC limA limB; (repeat' split); all_goals first | rfl | (exfalso; omega))])
                              clear h101 h102 h103 h111 h119 h120 h121 h122 h123 h124 h125
                              go_wp2
                              go_quiet (fail)
                              go_wp2
                              go_roundw
                              case rel => exact rmay_next (k := j + 1) (by omega) (by omega) HLA.out HN.out (below_drewN HBW.out.1 _) (HBW.out.2.drewN _)
                              case measure => simp [intOf]; omega
    · have HN : Hid (mayF 0 0 l = none) := Lib.hid (by
        rw [HM.out, List.drop_eq_nil_of_le (by have := HL.out; omega)]; rfl)
      have HB0 := Lib.hid hbr
      go_wp2_with fail
      refine (none_any _).mono ?_
      rintro e w2 ⟨rfl, hb2⟩
      unfold fV
      have HB2 : Hid (Below w.heap.size w w2 ∧ Blk w2 w.heap.size 32 #[.int .i64 0, .slice none 0 0]) := Lib.hid ⟨HB0.out.trans (hb2.mono HB0.out.size), HBK.out.below hb2 HBK.out.lt⟩
      clear hb2
      have c4 : w2.cell? ⟨w.heap.size, 0, none⟩ = some (.int .i64 0) := HB2.out.2.cell 0
      have c5 : w2.cell? ⟨w.heap.size, 1, none⟩ = some (.slice none 0 0) := HB2.out.2.cell 1
      have f4 : w2.frozen? ⟨w.heap.size, 0, none⟩ = false := HB2.out.2.frozen 0
      have f5 : w2.frozen? ⟨w.heap.size, 1, none⟩ = false := HB2.out.2.frozen 1
      go_wp2
      refine bodyPost_ret (v := fV 0 (.slice none 0 0)) ?_ rfl ⟨_, _, _, _, rfl, ⟨fun _ => HN.out, fun _ => rfl⟩, (HB2.out.1.setCell (p := ⟨w.heap.size, 0, none⟩) (Nat.le_refl _) _).setCell (p := ⟨w.heap.size, 1, none⟩) (Nat.le_refl _) _⟩
      simp [results, Tryd.results14, go_sem, fV, c4, c5]
end Go.Proofs.YtomabogjoampnaaDoor
