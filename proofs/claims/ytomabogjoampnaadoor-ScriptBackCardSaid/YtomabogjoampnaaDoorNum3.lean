/- The contracts of the reader's number. -/
import Derived.Test.YtomabogjoampnaaDoorNum2
namespace Go.Proofs.YtomabogjoampnaaDoor
open Go.RowKit
set_option linter.unusedVariables false

set_option maxRecDepth 100000 in
set_option maxHeartbeats 1000000 in
theorem number_none (g : Nat) (A : Addr) (n c at_ : Nat) (l : List Nat) (ad : Nat → Addr) (w : World) (h : Rdr w g (some A) n c at_ .nilIface) (hr : Reads w g 1 (some A) n (l.map bv)) (hb : ∀ x ∈ l, x < 256) (hn : n ≤ 1048576)
    (hg : 5 < g) (hB : w.cell? ⟨4, 0, none⟩ = some (.iface 91 (.pointer (some (ad 6)))))
    (hat : at_ ≤ n) (hc : n ≤ c) (hcm : c ≤ maxLen) (hE : w.cell? ⟨5, 0, none⟩ = some (.iface 91 (.pointer (some (ad 5))))) (hk : tk l (at_ : Int) = none) (hne : ¬ c = at_) : Calls Tryd.prog 31 #[.pointer (some ⟨g, 0, none⟩)] w (NumBad w g (some A) n c at_ l ad) := by
  have c0 : w.cell? ⟨g, 0, none⟩ = some (.slice (some A) n c) := h.cell 0
  have c1 : w.cell? ⟨g, 1, none⟩ = some (.int .i64 (at_ : Int)) := h.cell 1
  have c2 : w.cell? ⟨g, 2, none⟩ = some .nilIface := h.cell 2
  have f2 : w.frozen? ⟨g, 2, none⟩ = false := h.frozen 2
  have hlt := h.lt
  have HK := Lib.hid hk
  have HH := Lib.hid h
  have HR : Hid (Reads w w.heap.size 1 (some A) n (l.map bv)) := Lib.hid (hr.more (Nat.le_of_lt h.lt))
  have HRG := Lib.hid hr
  have HB := Lib.hid hb
  clear h hr hb hk
  go_enter Tryd.func31, Tryd.ntmps31
  go_wp2
  go_quiet ((refine Calls.quiet_of_same (take_none_ (some A) n c at_ l _ (by exact HR.out) HB.out hn HK.out)))
  go_wp2
  obtain ⟨V, hV⟩ : ∃ V, V = w.drewN nq := ⟨_, rfl⟩
  rw [← hV]
  have HV : Hid (Rdr V g (some A) n c at_ .nilIface ∧ But g w V ∧ V.cell? ⟨4, 0, none⟩ = some (.iface 91 (.pointer (some (ad 6)))) ∧ g < V.heap.size) := Lib.hid (by rw [hV]; exact ⟨HH.out.drewN nq, But.refl.drewN nq, hB, hlt⟩)
  clear hV c0 c1 c2 f2 hB
  have c0 : V.cell? ⟨g, 0, none⟩ = some (.slice (some A) n c) := HV.out.1.cell 0
  have c1 : V.cell? ⟨g, 1, none⟩ = some (.int .i64 (at_ : Int)) := HV.out.1.cell 1
  have c2 : V.cell? ⟨g, 2, none⟩ = some .nilIface := HV.out.1.cell 2
  have f2 : V.frozen? ⟨g, 2, none⟩ = false := HV.out.1.frozen 2
  have hB := HV.out.2.2.1
  have hl1 := HV.out.2.2.2
  have hl2 : 4 < V.heap.size := by omega
  go_region
  all_goals go_wp2
  have HU := Lib.hid (err_world (w := w) (pos := (at_ : Int)) (pv := .iface 91 (.pointer (some (ad 6)))) HV.out.1 HV.out.2.1)
  obtain ⟨U, hU⟩ : ∃ U, U = ((V.setCell ⟨g, 2, none⟩ (.iface 58 (.pointer (some ⟨V.heap.size, 0, none⟩)))).alloc (Obj.cells #[.int .i64 (at_ : Int), .iface 91 (.pointer (some (ad 6)))] 60)).drew := ⟨_, rfl⟩
  rw [← hU] at HU ⊢
  clear hU c0 c1 c2 f2 hB
  have c0 : U.cell? ⟨g, 0, none⟩ = some (.slice (some A) n c) := HU.out.1.cell 0
  have c1 : U.cell? ⟨g, 1, none⟩ = some (.int .i64 (at_ : Int)) := HU.out.1.cell 1
  have b1 : (0 : Int) ≤ (at_ : Int) := by omega
  have b2 : (at_ : Int) ≤ n := by omega
  have b3 : (n : Int) ≤ c := by omega
  have b4 : at_ ≤ c := by omega
  have HLN : Hid (l.length = n) := Lib.hid (by have := HR.out.1; simpa using this)
  by_cases h10 : n - at_ < 10
  · have t10 : decide ((n - at_ : Nat) < 10) = true := by simpa using h10
    have t10' : decide (((n - at_ : Nat) : Int) < 10) = true := by simp; omega
    go_quiet (fail)
    go_wp2_with fail
    have HU2 : Hid (Rdr (U.drewN nq) g (some A) n c at_ (.iface 58 (.pointer (some ⟨V.heap.size, 0, none⟩))) ∧ But g w (U.drewN nq) ∧ Blk (U.drewN nq) V.heap.size 60 #[.int .i64 (at_ : Int), .iface 91 (.pointer (some (ad 6)))]) := Lib.hid ⟨HU.out.1.drewN nq, HU.out.2.1.drewN nq, HU.out.2.2.drewN nq⟩
    obtain ⟨X, hX⟩ : ∃ X, X = U.drewN nq := ⟨_, rfl⟩
    rw [← hX] at HU2 ⊢
    clear hX c0 c1 HU
    have HRX : Hid (Reads X X.heap.size 1 (some (A.add at_)) (n - at_) ((l.drop at_).map bv)) := Lib.hid (by
      have h1 := (HU2.out.2.1.reads (by omega) HRG.out).more (Nat.le_of_lt HU2.out.1.lt)
      have h2 := h1.cut (k := at_) (cap := c) hat hc
      rw [if_neg hne, Nat.mul_one, ← List.map_drop] at h2
      exact h2)
    go_must (refine (contains_any _ _ _ (l.drop at_) _ HRX.out (by omega)).mono ?_)
    rintro e X' ⟨⟨b, rfl, hbh⟩, rfl⟩
    have HBH := Lib.hid hbh
    clear hbh
    rcases b with _ | _
    · go_wp2
      have HEX : Hid (X.cell? ⟨5, 0, none⟩ = some (.iface 91 (.pointer (some (ad 5))))) := Lib.hid ((HU2.out.2.1.cell (p := ⟨5, 0, none⟩) (by simp; omega) (by simp; omega)).trans hE)
      clear hE
      have c0 : X.cell? ⟨g, 0, none⟩ = some (.slice (some A) n c) := HU2.out.1.cell 0
      have c2 : X.cell? ⟨g, 2, none⟩ = some (.iface 58 (.pointer (some ⟨V.heap.size, 0, none⟩))) := HU2.out.1.cell 2
      have f2 : X.frozen? ⟨g, 2, none⟩ = false := HU2.out.1.frozen 2
      have hE := HEX.out
      have hl1 : g < X.heap.size := HU2.out.1.lt
      have hl2 : 5 < X.heap.size := by omega
      go_region
      all_goals go_wp2
      go_ret
      have HY := err_world (w := w) (pos := (n : Int)) (pv := .iface 91 (.pointer (some (ad 5)))) HU2.out.1 HU2.out.2.1
      refine ⟨rfl, HY.2.1, X.heap.size, 5, n, HY.1, HU2.out.2.1.size, HY.2.2, .inl ⟨⟨HK.out, by rw [HLN.out]; exact h10, HBH.out.1 (by simp)⟩, rfl, HLN.out.symm⟩⟩
    · go_wp2
      go_ret
      refine ⟨rfl, HU2.out.2.1, V.heap.size, 6, at_, HU2.out.1, HV.out.2.1.size, HU2.out.2.2, .inr ⟨fun h => ?_, rfl, rfl⟩⟩
      have := HBH.out.2 h.2.2
      cases this
  · have t10 : decide ((n - at_ : Nat) < 10) = false := by simpa using h10
    have t10' : decide (((n - at_ : Nat) : Int) < 10) = false := by simp; omega
    go_quiet (fail)
    go_wp2
    go_ret
    refine ⟨rfl, HU.out.2.1.drewN _, V.heap.size, 6, at_, HU.out.1.drewN _, HV.out.2.1.size, HU.out.2.2.drewN _, .inr ⟨fun h => ?_, rfl, rfl⟩⟩
    have := h.2.1
    rw [HLN.out] at this
    exact h10 this
set_option maxRecDepth 100000 in
set_option maxHeartbeats 1000000 in
theorem number_end (g : Nat) (A : Addr) (n : Nat) (l : List Nat) (ad : Nat → Addr) (w : World) (h : Rdr w g (some A) n n n .nilIface) (hr : Reads w g 1 (some A) n (l.map bv)) (hb : ∀ x ∈ l, x < 256) (hn : n ≤ 1048576)
    (hg : 5 < g) (hB : w.cell? ⟨4, 0, none⟩ = some (.iface 91 (.pointer (some (ad 6)))))
    (hcm : n ≤ maxLen) (hE : w.cell? ⟨5, 0, none⟩ = some (.iface 91 (.pointer (some (ad 5))))) (hk : tk l (n : Int) = none) : Calls Tryd.prog 31 #[.pointer (some ⟨g, 0, none⟩)] w (NumBad w g (some A) n n n l ad) := by
  have c0 : w.cell? ⟨g, 0, none⟩ = some (.slice (some A) n n) := h.cell 0
  have c1 : w.cell? ⟨g, 1, none⟩ = some (.int .i64 (n : Int)) := h.cell 1
  have c2 : w.cell? ⟨g, 2, none⟩ = some .nilIface := h.cell 2
  have f2 : w.frozen? ⟨g, 2, none⟩ = false := h.frozen 2
  have hlt := h.lt
  have HK := Lib.hid hk
  have HH := Lib.hid h
  have HR : Hid (Reads w w.heap.size 1 (some A) n (l.map bv)) := Lib.hid (hr.more (Nat.le_of_lt h.lt))
  have HRG := Lib.hid hr
  have HB := Lib.hid hb
  clear h hr hb hk
  go_enter Tryd.func31, Tryd.ntmps31
  go_wp2
  go_quiet ((refine Calls.quiet_of_same (take_none_ (some A) n n n l _ (by exact HR.out) HB.out hn HK.out)))
  go_wp2
  obtain ⟨V, hV⟩ : ∃ V, V = w.drewN nq := ⟨_, rfl⟩
  rw [← hV]
  have HV : Hid (Rdr V g (some A) n n n .nilIface ∧ But g w V ∧ V.cell? ⟨4, 0, none⟩ = some (.iface 91 (.pointer (some (ad 6)))) ∧ g < V.heap.size) := Lib.hid (by rw [hV]; exact ⟨HH.out.drewN nq, But.refl.drewN nq, hB, hlt⟩)
  clear hV c0 c1 c2 f2 hB
  have c0 : V.cell? ⟨g, 0, none⟩ = some (.slice (some A) n n) := HV.out.1.cell 0
  have c1 : V.cell? ⟨g, 1, none⟩ = some (.int .i64 (n : Int)) := HV.out.1.cell 1
  have c2 : V.cell? ⟨g, 2, none⟩ = some .nilIface := HV.out.1.cell 2
  have f2 : V.frozen? ⟨g, 2, none⟩ = false := HV.out.1.frozen 2
  have hB := HV.out.2.2.1
  have hl1 := HV.out.2.2.2
  have hl2 : 4 < V.heap.size := by omega
  go_region
  all_goals go_wp2
  have HU := Lib.hid (err_world (w := w) (pos := (n : Int)) (pv := .iface 91 (.pointer (some (ad 6)))) HV.out.1 HV.out.2.1)
  obtain ⟨U, hU⟩ : ∃ U, U = ((V.setCell ⟨g, 2, none⟩ (.iface 58 (.pointer (some ⟨V.heap.size, 0, none⟩)))).alloc (Obj.cells #[.int .i64 (n : Int), .iface 91 (.pointer (some (ad 6)))] 60)).drew := ⟨_, rfl⟩
  rw [← hU] at HU ⊢
  clear hU c0 c1 c2 f2 hB
  have c0 : U.cell? ⟨g, 0, none⟩ = some (.slice (some A) n n) := HU.out.1.cell 0
  have c1 : U.cell? ⟨g, 1, none⟩ = some (.int .i64 (n : Int)) := HU.out.1.cell 1
  have b1 : (0 : Int) ≤ (n : Int) := by omega
  have HLN : Hid (l.length = n) := Lib.hid (by have := HR.out.1; simpa using this)
  go_quiet (fail)
  go_wp2_with fail
  have HU2 : Hid (Rdr (U.drewN nq) g (some A) n n n (.iface 58 (.pointer (some ⟨V.heap.size, 0, none⟩))) ∧ But g w (U.drewN nq) ∧ Blk (U.drewN nq) V.heap.size 60 #[.int .i64 (n : Int), .iface 91 (.pointer (some (ad 6)))]) := Lib.hid ⟨HU.out.1.drewN nq, HU.out.2.1.drewN nq, HU.out.2.2.drewN nq⟩
  obtain ⟨X, hX⟩ : ∃ X, X = U.drewN nq := ⟨_, rfl⟩
  rw [← hX] at HU2 ⊢
  clear hX c0 c1 HU
  have HRX : Hid (Reads X X.heap.size 1 (some A) 0 (([] : List Nat).map bv)) := Lib.hid Reads.none_
  go_must (refine (contains_any _ _ _ [] _ HRX.out (by omega)).mono ?_)
  rintro e X' ⟨⟨b, rfl, hbh⟩, rfl⟩
  have HBH := Lib.hid hbh
  clear hbh
  rcases b with _ | _
  · go_wp2
    have HEX : Hid (X.cell? ⟨5, 0, none⟩ = some (.iface 91 (.pointer (some (ad 5))))) := Lib.hid ((HU2.out.2.1.cell (p := ⟨5, 0, none⟩) (by simp; omega) (by simp; omega)).trans hE)
    clear hE
    have c0 : X.cell? ⟨g, 0, none⟩ = some (.slice (some A) n n) := HU2.out.1.cell 0
    have c2 : X.cell? ⟨g, 2, none⟩ = some (.iface 58 (.pointer (some ⟨V.heap.size, 0, none⟩))) := HU2.out.1.cell 2
    have f2 : X.frozen? ⟨g, 2, none⟩ = false := HU2.out.1.frozen 2
    have hE := HEX.out
    have hl1 : g < X.heap.size := HU2.out.1.lt
    have hl2 : 5 < X.heap.size := by omega
    go_region
    all_goals go_wp2
    go_ret
    have HY := err_world (w := w) (pos := (n : Int)) (pv := .iface 91 (.pointer (some (ad 5)))) HU2.out.1 HU2.out.2.1
    refine ⟨rfl, HY.2.1, X.heap.size, 5, n, HY.1, HU2.out.2.1.size, HY.2.2, .inl ⟨⟨HK.out, by rw [HLN.out]; omega, by rw [← HLN.out, List.drop_length]; exact HBH.out.1 (by simp)⟩, rfl, HLN.out.symm⟩⟩
  · go_wp2
    go_ret
    refine ⟨rfl, HU2.out.2.1, V.heap.size, 6, n, HU2.out.1, HV.out.2.1.size, HU2.out.2.2, .inr ⟨fun h => ?_, rfl, rfl⟩⟩
    have := HBH.out.2 (by intro x hx; cases hx)
    cases this
end Go.Proofs.YtomabogjoampnaaDoor
