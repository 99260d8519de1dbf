/- The contracts of the document's reader: long, number, letters. -/
import Derived.Test.YtnojejplckhifaaDoorQby
namespace Go.Proofs.YtnojejplckhifaaDoor
open Go.RowKit
set_option linter.unusedVariables false

theorem rt3_none_is (A : Option Addr) (n c t : Nat) (l : List Nat) (y : Int) (w : World) (ha : Reads w w.heap.size 1 A n (l.map bv)) (hb : ∀ x ∈ l, x < 256) (hn : n ≤ 1048576) (h : tk l (t : Int) = none) (hy : y = if shortB l t = true then 1 else 2) :
    Calls Tryd.prog 67 #[.slice A n c, .int .i64 (t : Int)] w fun e w' => e = .returned (.tuple #[.int .u64 0, .int .i64 0, .int .i64 y]) ∧ w' = w := by
  refine (rt3_any A n c t l w ha hb hn).mono ?_
  intro e w' he
  unfold RT3 at he
  rw [h] at he
  obtain ⟨rfl, rfl⟩ := he
  rw [hy]
  exact ⟨rfl, rfl⟩
theorem rt3_some_is (A : Option Addr) (n c t u nx : Nat) (l : List Nat) (w : World) (ha : Reads w w.heap.size 1 A n (l.map bv)) (hb : ∀ x ∈ l, x < 256) (hn : n ≤ 1048576) (h : tk l (t : Int) = some (u, nx)) :
    Calls Tryd.prog 67 #[.slice A n c, .int .i64 (t : Int)] w fun e w' => e = .returned (.tuple #[.int .u64 (u : Int), .int .i64 (nx : Int), .int .i64 0]) ∧ w' = w := by
  refine (rt3_any A n c t l w ha hb hn).mono ?_
  intro e w' he
  unfold RT3 at he
  rw [h] at he
  obtain ⟨rfl, rfl⟩ := he
  exact ⟨rfl, rfl⟩
set_option maxRecDepth 100000 in
set_option maxHeartbeats 2000000 in
theorem qlong_any (g : Nat) (B : Option Addr) (n c : Nat) (l : List Nat) (s : RS) (w : World) (h : QAt w g B n c s) (hE : QEnv w g B n c l) :
    Calls Tryd.prog 53 #[.pointer (some ⟨g, 0, none⟩)] w (QPost w g B n c (.int .u64 ((wholeR l s).1 : Int)) (wholeR l s).2) := by
  have HQ := Lib.hid h
  have HE := Lib.hid hE
  cases he : s.err with
  | some kp =>
    have HF : Hid (wholeR l s = (0, s)) := Lib.hid (by unfold wholeR; rw [he])
    have HB := Lib.hid (qbad_is g B n c s true w h (by rw [he]; rfl))
    clear h hE he
    go_enter Tryd.func53, Tryd.ntmps53
    go_wp2_with fail
    refine HB.out.mono ?_
    rintro e w1 ⟨rfl, hw⟩
    rw [hw]
    clear hw
    go_wp2
    go_ret
    rw [HF.out]
    exact ⟨rfl, HQ.out, But.refl⟩
  | none =>
    have HB := Lib.hid (qbad_is g B n c s false w h (by rw [he]; rfl))
    have HK := Lib.hid (h.open_ he)
    obtain ⟨a, ha⟩ : ∃ a, a = s.at_ := ⟨_, rfl⟩
    have HA := Lib.hid ha
    have hn16 := hE.hn
    have c0 : w.cell? ⟨g, 0, none⟩ = some (.slice B n c) := HK.out.cell 0
    have c1 : w.cell? ⟨g, 1, none⟩ = some (.int .i64 (a : Int)) := by rw [ha]; exact HK.out.cell 1
    have hlt := HK.out.lt
    have HRD : Hid (∀ k, Reads (w.drewN k) (w.drewN k).heap.size 1 B n (l.map bv)) := Lib.hid (fun k => hE.reads.more (Nat.le_of_lt hE.lt))
    have HQN : Hid (∀ k, QAt (w.drewN k) g B n c s) := Lib.hid (fun k => h.but (below_drewN (Below.refl _ _) k))
    have HKN : Hid (∀ k, Blk (w.drewN k) g 86 #[.slice B n c, .int .i64 (a : Int), .int .i64 0, .slice none 0 0]) := Lib.hid (fun k => by rw [ha]; exact (h.open_ he).drewN k)
    cases htk : tk l (a : Int) with
    | none =>
      cases hs : shortB l a with
      | true =>
        have HF : Hid (wholeR l s = (0, failR s 5 n)) := Lib.hid (by unfold wholeR failR; rw [he]; dsimp only; rw [← ha, htk]; dsimp only; rw [hs, if_pos rfl, hE.len])
        have HTK : Hid (∀ X, Reads X X.heap.size 1 B n (l.map bv) → Calls Tryd.prog 67 #[.slice B n c, .int .i64 (a : Int)] X fun e w' => e = .returned (.tuple #[.int .u64 0, .int .i64 0, .int .i64 1]) ∧ w' = X) := Lib.hid (fun X hX => rt3_none_is B n c a l 1 X hX hE.byte (by omega) htk (by rw [hs]; rfl))
        clear h hE he ha htk hs
        go_enter Tryd.func53, Tryd.ntmps53
        go_wp2_with fail
        refine HB.out.mono ?_
        rintro e w1 ⟨rfl, hw⟩
        rw [hw]
        clear hw
        go_wp2_with fail
        go_quiet ((refine Calls.quiet_of_same (HTK.out _ (by first | exact HRD.out _ | exact HRD.out 0 | exact HRD.out 1))))
        have c0' : (w.drewN nq).cell? ⟨g, 0, none⟩ = some (.slice B n c) := (HKN.out nq).cell 0
        have hlt' := (HKN.out nq).lt
        obtain ⟨V, hV⟩ : ∃ V, V = w.drewN nq := ⟨_, rfl⟩
        have HQV : Hid (QAt V g B n c s) := Lib.hid (by rw [hV]; exact HQN.out nq)
        have HBV : Hid (But g w V) := Lib.hid (by rw [hV]; exact But.refl.drewN nq)
        rw [← hV] at c0' hlt' ⊢
        clear hV c0 c1 hlt
        go_wp2_with fail
        refine (qfail_any g B n c s 5 n 106 rfl _ HQV.out).mono ?_
        rintro e w2 ⟨rfl, q1, q2⟩
        have HS : Hid (QAt w2 g B n c (failR s 5 n) ∧ But g w w2) := Lib.hid ⟨q1, HBV.out.trans q2⟩
        clear q1 q2 c0' hlt'
        go_wp2
        go_ret
        rw [HF.out]
        exact ⟨rfl, HS.out.1, HS.out.2⟩
      | false =>
        have HF : Hid (wholeR l s = (0, failR s 6 a)) := Lib.hid (by unfold wholeR failR; rw [he]; dsimp only; rw [← ha, htk]; dsimp only; rw [hs, if_neg (by simp)])
        have HTK : Hid (∀ X, Reads X X.heap.size 1 B n (l.map bv) → Calls Tryd.prog 67 #[.slice B n c, .int .i64 (a : Int)] X fun e w' => e = .returned (.tuple #[.int .u64 0, .int .i64 0, .int .i64 2]) ∧ w' = X) := Lib.hid (fun X hX => rt3_none_is B n c a l 2 X hX hE.byte (by omega) htk (by rw [hs]; rfl))
        clear h hE he ha htk hs
        go_enter Tryd.func53, Tryd.ntmps53
        go_wp2_with fail
        refine HB.out.mono ?_
        rintro e w1 ⟨rfl, hw⟩
        rw [hw]
        clear hw
        go_wp2_with fail
        go_quiet ((refine Calls.quiet_of_same (HTK.out _ (by first | exact HRD.out _ | exact HRD.out 0 | exact HRD.out 1))))
        have c1' : (w.drewN nq).cell? ⟨g, 1, none⟩ = some (.int .i64 (a : Int)) := (HKN.out nq).cell 1
        have hlt' := (HKN.out nq).lt
        obtain ⟨V, hV⟩ : ∃ V, V = w.drewN nq := ⟨_, rfl⟩
        have HQV : Hid (QAt V g B n c s) := Lib.hid (by rw [hV]; exact HQN.out nq)
        have HBV : Hid (But g w V) := Lib.hid (by rw [hV]; exact But.refl.drewN nq)
        rw [← hV] at c1' hlt' ⊢
        clear hV c0 c1 hlt
        go_wp2_with fail
        refine (qfail_any g B n c s 6 a 107 rfl _ HQV.out).mono ?_
        rintro e w2 ⟨rfl, q1, q2⟩
        have HS : Hid (QAt w2 g B n c (failR s 6 a) ∧ But g w w2) := Lib.hid ⟨q1, HBV.out.trans q2⟩
        clear q1 q2 c1' hlt'
        go_wp2
        go_ret
        rw [HF.out]
        exact ⟨rfl, HS.out.1, HS.out.2⟩
    | some p =>
      obtain ⟨u, nx⟩ := p
      have HF : Hid (wholeR l s = (u, ⟨nx, none⟩)) := Lib.hid (by unfold wholeR; rw [he]; dsimp only; rw [← ha, htk])
      have HNX : Hid (nx ≤ n) := Lib.hid (by have := tk_le htk; rw [hE.len] at this; exact this)
      have HTK : Hid (∀ X, Reads X X.heap.size 1 B n (l.map bv) → Calls Tryd.prog 67 #[.slice B n c, .int .i64 (a : Int)] X fun e w' => e = .returned (.tuple #[.int .u64 (u : Int), .int .i64 (nx : Int), .int .i64 0]) ∧ w' = X) := Lib.hid (fun X hX => rt3_some_is B n c a u nx l X hX hE.byte (by omega) htk)
      clear h hE he ha htk
      go_enter Tryd.func53, Tryd.ntmps53
      go_wp2_with fail
      refine HB.out.mono ?_
      rintro e w1 ⟨rfl, hw⟩
      rw [hw]
      clear hw
      go_wp2_with fail
      go_quiet ((refine Calls.quiet_of_same (HTK.out _ (by first | exact HRD.out _ | exact HRD.out 0 | exact HRD.out 1))))
      have c1' : (w.drewN nq).cell? ⟨g, 1, none⟩ = some (.int .i64 (a : Int)) := (HKN.out nq).cell 1
      have f1' := (HKN.out nq).frozen 1
      have hlt' := (HKN.out nq).lt
      obtain ⟨V, hV⟩ : ∃ V, V = w.drewN nq := ⟨_, rfl⟩
      have HKV : Hid (Blk V g 86 #[.slice B n c, .int .i64 (a : Int), .int .i64 0, .slice none 0 0]) := Lib.hid (by rw [hV]; exact HKN.out nq)
      have HBV : Hid (But g w V) := Lib.hid (by rw [hV]; exact But.refl.drewN nq)
      rw [← hV] at c1' hlt' f1' ⊢
      clear hV c0 c1 hlt
      go_wp2
      go_ret
      rw [HF.out]
      refine ⟨rfl, QAt.mk0 rfl ?_ HNX.out, HBV.out.setCell 1 _⟩
      have := HKV.out.set_ 1 (.int .i64 (nx : Int))
      simpa using this
theorem wholeR_le (l : List Nat) (s : RS) (n : Nat) (hs : s.err = none → s.at_ ≤ n) (hl : l.length = n) : True := trivial
set_option maxRecDepth 100000 in
set_option maxHeartbeats 2000000 in
theorem qnumber_any (lo hi : Nat) (hhi : hi ≤ 1048576) (hlo : lo ≤ 1048576) (g : Nat) (B : Option Addr) (n c : Nat) (l : List Nat) (s : RS) (w : World) (h : QAt w g B n c s) (hE : QEnv w g B n c l) :
    Calls Tryd.prog 48 #[.pointer (some ⟨g, 0, none⟩), .int .i64 (lo : Int), .int .i64 (hi : Int)] w (QPost w g B n c (.int .i64 ((numberR l lo hi s).1 : Int)) (numberR l lo hi s).2) := by
  obtain ⟨u, s', hr⟩ : ∃ u s', wholeR l s = (u, s') := ⟨_, _, rfl⟩
  have HLO : Hid (Calls Tryd.prog 53 #[.pointer (some ⟨g, 0, none⟩)] w (QPost w g B n c (.int .u64 (u : Int)) s')) := Lib.hid (by have := qlong_any g B n c l s w h hE; rw [hr] at this; exact this)
  have HN : Hid (numberR l lo hi s = if hi < u ∨ u < lo then (0, failR s' 6 s.at_) else (u, s')) := Lib.hid (by unfold numberR; rw [hr])
  have HU : Hid (s'.err ≠ none → u = 0) := Lib.hid (by
    intro h1
    have := congrArg Prod.fst hr
    have h2 := congrArg Prod.snd hr
    simp only at this h2
    rw [← this]
    rw [← h2] at h1
    unfold wholeR at h1 ⊢
    split
    · rfl
    · split
      · rename_i h3 _ _ h4
        rw [h3] at h1
        simp [h4] at h1
      · rfl)
  have HS0 : Hid (s'.err = none → s.err = none) := Lib.hid (by
    intro h1
    have h2 := congrArg Prod.snd hr
    simp only at h2
    rw [← h2] at h1
    cases he : s.err with
    | none => rfl
    | some kp => unfold wholeR at h1; rw [he] at h1; rw [he] at h1; cases h1)
  obtain ⟨a, ha, haa⟩ : ∃ a : Int, w.cell? ⟨g, 1, none⟩ = some (.int .i64 a) ∧ (s.err = none → a = (s.at_ : Int)) := by
    obtain ⟨a, cd, sl, h1, h2, _⟩ := h.blk
    exact ⟨a, h1.cell 1, fun h0 => (h2 h0).1⟩
  have HAA := Lib.hid haa
  have hlt := h.lt
  clear h hE hr haa
  go_enter Tryd.func48, Tryd.ntmps48
  go_wp2_with fail
  refine HLO.out.mono ?_
  rintro e w1 ⟨rfl, q1, q2⟩
  have HQ1 := Lib.hid q1
  have HB1 := Lib.hid q2
  clear q1 q2 ha hlt HLO
  go_wp2_with fail
  cases he : s'.err with
  | some kp =>
    have HR : Hid (numberR l lo hi s = (0, s')) := Lib.hid (by
      rw [HN.out, HU.out (by rw [he]; simp)]
      split
      · have : failR s' 6 s.at_ = s' := by unfold failR; rw [he]
        rw [this]
      · rfl)
    refine (qbad_is g B n c s' true _ HQ1.out (by rw [he]; rfl)).mono ?_
    rintro e w2 ⟨rfl, hw⟩
    rw [hw]
    clear hw he
    go_wp2
    go_ret
    rw [HR.out]
    exact ⟨rfl, HQ1.out, HB1.out⟩
  | none =>
    refine (qbad_is g B n c s' false _ HQ1.out (by rw [he]; rfl)).mono ?_
    rintro e w2 ⟨rfl, hw⟩
    rw [hw]
    obtain rfl := HAA.out (HS0.out he)
    clear hw he
    by_cases h1 : 1048576 < u
    · have t1 : decide ((1048576 : Int) < (u : Int)) = true := by simp; omega
      have HR : Hid (numberR l lo hi s = (0, failR s' 6 s.at_)) := Lib.hid (by rw [HN.out, if_pos (by omega)])
      clear h1
      go_wp2_with fail
      refine (qfail_any g B n c s' 6 s.at_ 107 rfl _ HQ1.out).mono ?_
      rintro e w3 ⟨rfl, q1, q2⟩
      have HS : Hid (QAt w3 g B n c (failR s' 6 s.at_) ∧ But g w w3) := Lib.hid ⟨q1, HB1.out.trans q2⟩
      clear q1 q2
      go_wp2
      go_ret
      rw [HR.out]
      exact ⟨rfl, HS.out.1, HS.out.2⟩
    have t1 : decide ((1048576 : Int) < (u : Int)) = false := by simp; omega
    have hwu : IntKind.i64.wrap (u : Int) = (u : Int) := by rw [IntKind.wrap_i64]; omega
    by_cases h2 : u < lo
    · have t2 : decide ((u : Int) < (lo : Int)) = true := by simp; omega
      have HR : Hid (numberR l lo hi s = (0, failR s' 6 s.at_)) := Lib.hid (by rw [HN.out, if_pos (by omega)])
      clear h1
      go_wp2_with fail
      refine (qfail_any g B n c s' 6 s.at_ 107 rfl _ HQ1.out).mono ?_
      rintro e w3 ⟨rfl, q1, q2⟩
      have HS : Hid (QAt w3 g B n c (failR s' 6 s.at_) ∧ But g w w3) := Lib.hid ⟨q1, HB1.out.trans q2⟩
      clear q1 q2
      go_wp2
      go_ret
      rw [HR.out]
      exact ⟨rfl, HS.out.1, HS.out.2⟩
    have t2 : decide ((u : Int) < (lo : Int)) = false := by simp; omega
    by_cases h3 : hi < u
    · have t3 : decide ((hi : Int) < (u : Int)) = true := by simp; omega
      have HR : Hid (numberR l lo hi s = (0, failR s' 6 s.at_)) := Lib.hid (by rw [HN.out, if_pos (by omega)])
      clear h1
      go_wp2_with fail
      refine (qfail_any g B n c s' 6 s.at_ 107 rfl _ HQ1.out).mono ?_
      rintro e w3 ⟨rfl, q1, q2⟩
      have HS : Hid (QAt w3 g B n c (failR s' 6 s.at_) ∧ But g w w3) := Lib.hid ⟨q1, HB1.out.trans q2⟩
      clear q1 q2
      go_wp2
      go_ret
      rw [HR.out]
      exact ⟨rfl, HS.out.1, HS.out.2⟩
    have t3 : decide ((hi : Int) < (u : Int)) = false := by simp; omega
    have HR : Hid (numberR l lo hi s = (u, s')) := Lib.hid (by rw [HN.out, if_neg (by omega)])
    clear h1
    go_wp2
    go_ret
    rw [HR.out]
    exact ⟨rfl, HQ1.out, HB1.out⟩
end Go.Proofs.YtnojejplckhifaaDoor
