/- The contracts of the reader's byte at each of its closures (printed by mkbyte.py). -/
import Derived.Test.YtnojejplckhifaaDoorRd1
namespace Go.Proofs.YtnojejplckhifaaDoor
open Go.RowKit
set_option linter.unusedVariables false

theorem nat73 (x k : Nat) : (x == k) = ((x : Int) == (k : Int)) := by rw [Bool.eq_iff_iff]; simp; omega
set_option maxRecDepth 100000 in
theorem may_ir (x : Nat) (w : World) : Calls Tryd.prog 64 #[.int .u8 (x : Int)] w fun e w' => e = .returned (.bool (mIR x)) ∧ w = w' := by
  unfold mIR
  rw [nat73 x 73, nat73 x 82]
  show Calls _ _ _ _ (fun e w' => e = .returned (.bool (((x : Int) == 73) || ((x : Int) == 82))) ∧ w = w')
  cases h1 : (x : Int) == 73
  · go_enter Tryd.func64, Tryd.ntmps64
    go_wp2
    go_ret
    exact ⟨rfl, rfl⟩
  · go_enter Tryd.func64, Tryd.ntmps64
    go_wp2
    go_ret
    exact ⟨rfl, rfl⟩
set_option maxRecDepth 100000 in
theorem may_ret (x : Nat) (w : World) : Calls Tryd.prog 65 #[.int .u8 (x : Int)] w fun e w' => e = .returned (.bool (mRet x)) ∧ w = w' := by
  unfold mRet
  rw [nat73 x 0, nat73 x 73, nat73 x 82]
  show Calls _ _ _ _ (fun e w' => e = .returned (.bool (((x : Int) == 0) || (((x : Int) == 73) || ((x : Int) == 82)))) ∧ w = w')
  cases h0 : (x : Int) == 0
  case true =>
    go_enter Tryd.func65, Tryd.ntmps65
    go_wp2
    go_ret
    exact ⟨rfl, rfl⟩
  cases h1 : (x : Int) == 73
  · go_enter Tryd.func65, Tryd.ntmps65
    go_wp2
    go_ret
    exact ⟨rfl, rfl⟩
  · go_enter Tryd.func65, Tryd.ntmps65
    go_wp2
    go_ret
    exact ⟨rfl, rfl⟩
set_option maxRecDepth 100000 in
theorem may_op (x : Nat) (w : World) : Calls Tryd.prog 77 #[.int .u8 (x : Int)] w fun e w' => e = .returned (.bool (mOp x)) ∧ w = w' := by
  unfold mOp
  by_cases h1 : 1 ≤ x
  · have d1 : decide ((1 : Int) ≤ (x : Int)) = true := by simp; omega
    have d1' : decide (1 ≤ x) = true := by simpa using h1
    by_cases h2 : x ≤ 35
    · have d2 : decide ((x : Int) ≤ 35) = true := by simp; omega
      have d2' : decide (x ≤ 35) = true := by simpa using h2
      go_enter Tryd.func77, Tryd.ntmps77
      go_wp2
      go_ret
      exact ⟨by rw [d1', d2']; rfl, rfl⟩
    · have d2 : decide ((x : Int) ≤ 35) = false := by simp; omega
      have d2' : decide (x ≤ 35) = false := by simpa using h2
      go_enter Tryd.func77, Tryd.ntmps77
      go_wp2
      go_ret
      exact ⟨by rw [d1', d2']; rfl, rfl⟩
  · have d1 : decide ((1 : Int) ≤ (x : Int)) = false := by simp; omega
    have d1' : decide (1 ≤ x) = false := by simpa using h1
    go_enter Tryd.func77, Tryd.ntmps77
    go_wp2
    go_ret
    exact ⟨by rw [d1']; rfl, rfl⟩
set_option maxRecDepth 100000 in
set_option maxHeartbeats 1000000 in
theorem byte_ir (g : Nat) (B : Option Addr) (n c : Nat) (l : List Nat) (ad : Nat → Addr) (s : RS) (w : World) (h : RdAt w g B n c ad s) (hE : Env w g B n c l ad) :
    Calls Tryd.prog 41 #[.pointer (some ⟨g, 0, none⟩), .func (Fn.func 64) #[] #[]] w (RPost w g B n c ad (.int .u8 ((byteR l mIR s).1 : Int)) (byteR l mIR s).2) := by
  have HL := Lib.hid hE.len
  obtain ⟨ev, hblk, herr⟩ := h.blk
  have HH := Lib.hid h
  have HE := Lib.hid hE
  have c0 : w.cell? ⟨g, 0, none⟩ = some (.slice B n c) := hblk.cell 0
  have c1 : w.cell? ⟨g, 1, none⟩ = some (.int .i64 (s.at_ : Int)) := hblk.cell 1
  have c2 : w.cell? ⟨g, 2, none⟩ = some ev := hblk.cell 2
  have hlt := hblk.lt
  have hle := h.le
  obtain ⟨a, er⟩ := s
  simp only [] at c1 herr hle
  cases er with
  | some kp =>
    obtain ⟨p, he, hp, hpb⟩ := herr
    subst he
    have HR : Hid (byteR l mIR ⟨a, some kp⟩ = (0, ⟨a, some kp⟩)) := Lib.hid rfl
    clear hblk h hE hp hpb hle
    go_enter Tryd.func41, Tryd.ntmps41
    go_wp2
    go_ret
    rw [HR.out]
    exact ⟨rfl, HH.out, But.refl⟩
  | none =>
    have he : ev = .nilIface := herr
    subst he
    have hn := hE.hn
    clear herr
    by_cases hge : n ≤ a
    · have t1 : decide ((n : Int) ≤ (a : Int)) = true := by simpa using hge
      have t2 : decide (n ≤ a) = true := by simpa using hge
      have HR : Hid (byteR l mIR ⟨a, none⟩ = (0, failR ⟨a, none⟩ 5 n)) := Lib.hid (by
        unfold byteR failR
        simp only []
        rw [List.getElem?_eq_none (by have := HL.out; omega), HL.out])
      clear hblk h hE
      go_enter Tryd.func41, Tryd.ntmps41
      go_wp2
      go_quiet (fail)
      obtain ⟨V, hV⟩ : ∃ V, V = w.drewN nq := ⟨_, rfl⟩
      rw [← hV]
      have HVB : Hid (But g w V) := Lib.hid (by rw [hV]; exact But.refl.drewN nq)
      have HVR : Hid (RdAt V g B n c ad ⟨a, none⟩) := Lib.hid (by rw [hV]; exact HH.out.drewN nq)
      have hEV := HE.out.but HVB.out
      clear hV c0 c1 c2
      have c0' := HVR.out.c0
      have ee := hEV.ee
      have HEV := Lib.hid hEV
      have hb1 : 3 < V.heap.size := by have := hEV.big; have := hEV.lt; omega
      have hb2 : g < V.heap.size := hEV.lt
      clear hEV
      go_wp2_with fail
      go_region_held3 (fun w' => w'.cell? ⟨g, 0, none⟩ = some (.slice B n c) ∧ w'.cell? ⟨3, 0, none⟩ = some (.iface 147 (.pointer (some (ad 5))))) (go_keep) ((go_at_call 46; refine (fail_any g B n c ad ⟨a, none⟩ 5 n _ HVR.out.drew).mono ?_; rintro e w2 ⟨rfl, hr2, hb2⟩; have HR2 := Lib.hid hr2; have HB2 : Hid (But g V w2) := Lib.hid (But.refl.drew.trans hb2); have c0'' := HR2.out.c0; have ee' := (HEV.out.but HB2.out).ee))
      all_goals go_wp2
      all_goals go_ret
      all_goals rw [HR.out]
      all_goals exact ⟨rfl, HR2.out, HVB.out.trans HB2.out⟩
    · have t1 : decide ((n : Int) ≤ (a : Int)) = false := by simp; omega
      have t2 : decide (n ≤ a) = false := by simp; omega
      have hal : a < n := by omega
      obtain ⟨A, u, hA, hAb, hu, hcell⟩ := hE.reads.at_ hal
      rw [List.getElem?_map] at hu
      obtain ⟨x, hx, rfl⟩ := Option.map_eq_some_iff.1 hu
      have hx' : w.cell? (A.add a) = some (.int .u8 (x : Int)) := hcell
      have f1 : w.frozen? ⟨g, 1, none⟩ = false := hblk.frozen 1
      have HRX : Hid (byteR l mIR ⟨a, none⟩ = if mIR x = true then (x, ⟨a + 1, none⟩) else (0, failR ⟨a, none⟩ 6 a)) := Lib.hid (by
        unfold byteR failR
        simp only [hx])
      have HK := Lib.hid hblk
      subst hA
      have hal' : (a : Int) < (n : Int) := by omega
      have hA2 : a ≤ 16384 := by omega
      clear hblk h hu hx hcell hE
      go_enter Tryd.func41, Tryd.ntmps41
      go_wp2
      go_quiet (fail)
      obtain ⟨V1, hV1⟩ : ∃ V, V = w.drewN nq := ⟨_, rfl⟩
      rw [← hV1]
      have HV1 : Hid (But g w V1 ∧ RdAt V1 g (some A) n c ad ⟨a, none⟩ ∧ V1.cell? (A.add a) = some (.int .u8 (x : Int))) := Lib.hid (by rw [hV1]; exact ⟨But.refl.drewN nq, HH.out.drewN nq, hx'⟩)
      clear hV1 c0 c1 c2 hx' f1
      have c0 := HV1.out.2.1.c0
      have c1 := HV1.out.2.1.c1
      have hx' := HV1.out.2.2
      go_wp2_with fail
      go_quiet (fail)
      obtain ⟨V, hV⟩ : ∃ V, V = V1.drewN nq := ⟨_, rfl⟩
      rw [← hV]
      have HVB : Hid (But g w V) := Lib.hid (by rw [hV]; exact HV1.out.1.drewN nq)
      have HVR : Hid (RdAt V g (some A) n c ad ⟨a, none⟩) := Lib.hid (by rw [hV]; exact HV1.out.2.1.drewN nq)
      clear hV c0 c1 hx' HV1
      go_wp2_with fail
      refine (may_ir x _).mono ?_
      rintro e w2 ⟨rfl, rfl⟩
      cases hm : mIR x
      · have HR : Hid (byteR l mIR ⟨a, none⟩ = (0, failR ⟨a, none⟩ 6 a)) := Lib.hid (by rw [HRX.out, if_neg (by rw [hm]; simp)])
        clear HRX hm
        have hEV := HE.out.but HVB.out
        have c1 := HVR.out.c1
        have eb := hEV.eb
        have HEV := Lib.hid hEV
        have hb1 : 1 < V.heap.size := by have := hEV.big; have := hEV.lt; omega
        have hb2 : g < V.heap.size := hEV.lt
        clear hEV
        go_wp2_with fail
        go_region_held3 (fun w' => w'.cell? ⟨g, 1, none⟩ = some (.int .i64 (a : Int)) ∧ w'.cell? ⟨1, 0, none⟩ = some (.iface 147 (.pointer (some (ad 6))))) (go_keep) ((go_at_call 46; refine (fail_any g (some A) n c ad ⟨a, none⟩ 6 a _ HVR.out.drew).mono ?_; rintro e w2 ⟨rfl, hr2, hb2⟩; have HR2 := Lib.hid hr2; have HB2 : Hid (But g V w2) := Lib.hid (But.refl.drew.trans hb2); have c1'' := HR2.out.c1; rw [failR_at] at c1''; have eb' := (HEV.out.but HB2.out).eb))
        all_goals go_wp2
        all_goals go_ret
        all_goals rw [HR.out]
        all_goals exact ⟨rfl, HR2.out, HVB.out.trans HB2.out⟩
      · have HR : Hid (byteR l mIR ⟨a, none⟩ = (x, ⟨a + 1, none⟩)) := Lib.hid (by rw [HRX.out, if_pos hm])
        clear HRX hm
        have c1 := HVR.out.c1
        have f1 := HVR.out.f1
        go_wp2
        go_ret
        rw [HR.out]
        exact ⟨rfl, HVR.out.step rfl (a + 1) (by omega), HVB.out.setCell 1 _⟩
set_option maxRecDepth 100000 in
set_option maxHeartbeats 1000000 in
theorem byte_op (g : Nat) (B : Option Addr) (n c : Nat) (l : List Nat) (ad : Nat → Addr) (s : RS) (w : World) (h : RdAt w g B n c ad s) (hE : Env w g B n c l ad) :
    Calls Tryd.prog 41 #[.pointer (some ⟨g, 0, none⟩), .func (Fn.func 77) #[] #[]] w (RPost w g B n c ad (.int .u8 ((byteR l mOp s).1 : Int)) (byteR l mOp s).2) := by
  have HL := Lib.hid hE.len
  obtain ⟨ev, hblk, herr⟩ := h.blk
  have HH := Lib.hid h
  have HE := Lib.hid hE
  have c0 : w.cell? ⟨g, 0, none⟩ = some (.slice B n c) := hblk.cell 0
  have c1 : w.cell? ⟨g, 1, none⟩ = some (.int .i64 (s.at_ : Int)) := hblk.cell 1
  have c2 : w.cell? ⟨g, 2, none⟩ = some ev := hblk.cell 2
  have hlt := hblk.lt
  have hle := h.le
  obtain ⟨a, er⟩ := s
  simp only [] at c1 herr hle
  cases er with
  | some kp =>
    obtain ⟨p, he, hp, hpb⟩ := herr
    subst he
    have HR : Hid (byteR l mOp ⟨a, some kp⟩ = (0, ⟨a, some kp⟩)) := Lib.hid rfl
    clear hblk h hE hp hpb hle
    go_enter Tryd.func41, Tryd.ntmps41
    go_wp2
    go_ret
    rw [HR.out]
    exact ⟨rfl, HH.out, But.refl⟩
  | none =>
    have he : ev = .nilIface := herr
    subst he
    have hn := hE.hn
    clear herr
    by_cases hge : n ≤ a
    · have t1 : decide ((n : Int) ≤ (a : Int)) = true := by simpa using hge
      have t2 : decide (n ≤ a) = true := by simpa using hge
      have HR : Hid (byteR l mOp ⟨a, none⟩ = (0, failR ⟨a, none⟩ 5 n)) := Lib.hid (by
        unfold byteR failR
        simp only []
        rw [List.getElem?_eq_none (by have := HL.out; omega), HL.out])
      clear hblk h hE
      go_enter Tryd.func41, Tryd.ntmps41
      go_wp2
      go_quiet (fail)
      obtain ⟨V, hV⟩ : ∃ V, V = w.drewN nq := ⟨_, rfl⟩
      rw [← hV]
      have HVB : Hid (But g w V) := Lib.hid (by rw [hV]; exact But.refl.drewN nq)
      have HVR : Hid (RdAt V g B n c ad ⟨a, none⟩) := Lib.hid (by rw [hV]; exact HH.out.drewN nq)
      have hEV := HE.out.but HVB.out
      clear hV c0 c1 c2
      have c0' := HVR.out.c0
      have ee := hEV.ee
      have HEV := Lib.hid hEV
      have hb1 : 3 < V.heap.size := by have := hEV.big; have := hEV.lt; omega
      have hb2 : g < V.heap.size := hEV.lt
      clear hEV
      go_wp2_with fail
      go_region_held3 (fun w' => w'.cell? ⟨g, 0, none⟩ = some (.slice B n c) ∧ w'.cell? ⟨3, 0, none⟩ = some (.iface 147 (.pointer (some (ad 5))))) (go_keep) ((go_at_call 46; refine (fail_any g B n c ad ⟨a, none⟩ 5 n _ HVR.out.drew).mono ?_; rintro e w2 ⟨rfl, hr2, hb2⟩; have HR2 := Lib.hid hr2; have HB2 : Hid (But g V w2) := Lib.hid (But.refl.drew.trans hb2); have c0'' := HR2.out.c0; have ee' := (HEV.out.but HB2.out).ee))
      all_goals go_wp2
      all_goals go_ret
      all_goals rw [HR.out]
      all_goals exact ⟨rfl, HR2.out, HVB.out.trans HB2.out⟩
    · have t1 : decide ((n : Int) ≤ (a : Int)) = false := by simp; omega
      have t2 : decide (n ≤ a) = false := by simp; omega
      have hal : a < n := by omega
      obtain ⟨A, u, hA, hAb, hu, hcell⟩ := hE.reads.at_ hal
      rw [List.getElem?_map] at hu
      obtain ⟨x, hx, rfl⟩ := Option.map_eq_some_iff.1 hu
      have hx' : w.cell? (A.add a) = some (.int .u8 (x : Int)) := hcell
      have f1 : w.frozen? ⟨g, 1, none⟩ = false := hblk.frozen 1
      have HRX : Hid (byteR l mOp ⟨a, none⟩ = if mOp x = true then (x, ⟨a + 1, none⟩) else (0, failR ⟨a, none⟩ 6 a)) := Lib.hid (by
        unfold byteR failR
        simp only [hx])
      have HK := Lib.hid hblk
      subst hA
      have hal' : (a : Int) < (n : Int) := by omega
      have hA2 : a ≤ 16384 := by omega
      clear hblk h hu hx hcell hE
      go_enter Tryd.func41, Tryd.ntmps41
      go_wp2
      go_quiet (fail)
      obtain ⟨V1, hV1⟩ : ∃ V, V = w.drewN nq := ⟨_, rfl⟩
      rw [← hV1]
      have HV1 : Hid (But g w V1 ∧ RdAt V1 g (some A) n c ad ⟨a, none⟩ ∧ V1.cell? (A.add a) = some (.int .u8 (x : Int))) := Lib.hid (by rw [hV1]; exact ⟨But.refl.drewN nq, HH.out.drewN nq, hx'⟩)
      clear hV1 c0 c1 c2 hx' f1
      have c0 := HV1.out.2.1.c0
      have c1 := HV1.out.2.1.c1
      have hx' := HV1.out.2.2
      go_wp2_with fail
      go_quiet (fail)
      obtain ⟨V, hV⟩ : ∃ V, V = V1.drewN nq := ⟨_, rfl⟩
      rw [← hV]
      have HVB : Hid (But g w V) := Lib.hid (by rw [hV]; exact HV1.out.1.drewN nq)
      have HVR : Hid (RdAt V g (some A) n c ad ⟨a, none⟩) := Lib.hid (by rw [hV]; exact HV1.out.2.1.drewN nq)
      clear hV c0 c1 hx' HV1
      go_wp2_with fail
      refine (may_op x _).mono ?_
      rintro e w2 ⟨rfl, rfl⟩
      cases hm : mOp x
      · have HR : Hid (byteR l mOp ⟨a, none⟩ = (0, failR ⟨a, none⟩ 6 a)) := Lib.hid (by rw [HRX.out, if_neg (by rw [hm]; simp)])
        clear HRX hm
        have hEV := HE.out.but HVB.out
        have c1 := HVR.out.c1
        have eb := hEV.eb
        have HEV := Lib.hid hEV
        have hb1 : 1 < V.heap.size := by have := hEV.big; have := hEV.lt; omega
        have hb2 : g < V.heap.size := hEV.lt
        clear hEV
        go_wp2_with fail
        go_region_held3 (fun w' => w'.cell? ⟨g, 1, none⟩ = some (.int .i64 (a : Int)) ∧ w'.cell? ⟨1, 0, none⟩ = some (.iface 147 (.pointer (some (ad 6))))) (go_keep) ((go_at_call 46; refine (fail_any g (some A) n c ad ⟨a, none⟩ 6 a _ HVR.out.drew).mono ?_; rintro e w2 ⟨rfl, hr2, hb2⟩; have HR2 := Lib.hid hr2; have HB2 : Hid (But g V w2) := Lib.hid (But.refl.drew.trans hb2); have c1'' := HR2.out.c1; rw [failR_at] at c1''; have eb' := (HEV.out.but HB2.out).eb))
        all_goals go_wp2
        all_goals go_ret
        all_goals rw [HR.out]
        all_goals exact ⟨rfl, HR2.out, HVB.out.trans HB2.out⟩
      · have HR : Hid (byteR l mOp ⟨a, none⟩ = (x, ⟨a + 1, none⟩)) := Lib.hid (by rw [HRX.out, if_pos hm])
        clear HRX hm
        have c1 := HVR.out.c1
        have f1 := HVR.out.f1
        go_wp2
        go_ret
        rw [HR.out]
        exact ⟨rfl, HVR.out.step rfl (a + 1) (by omega), HVB.out.setCell 1 _⟩
set_option maxRecDepth 100000 in
set_option maxHeartbeats 1000000 in
theorem byte_ret (g : Nat) (B : Option Addr) (n c : Nat) (l : List Nat) (ad : Nat → Addr) (s : RS) (w : World) (h : RdAt w g B n c ad s) (hE : Env w g B n c l ad) :
    Calls Tryd.prog 41 #[.pointer (some ⟨g, 0, none⟩), .func (Fn.func 65) #[] #[]] w (RPost w g B n c ad (.int .u8 ((byteR l mRet s).1 : Int)) (byteR l mRet s).2) := by
  have HL := Lib.hid hE.len
  obtain ⟨ev, hblk, herr⟩ := h.blk
  have HH := Lib.hid h
  have HE := Lib.hid hE
  have c0 : w.cell? ⟨g, 0, none⟩ = some (.slice B n c) := hblk.cell 0
  have c1 : w.cell? ⟨g, 1, none⟩ = some (.int .i64 (s.at_ : Int)) := hblk.cell 1
  have c2 : w.cell? ⟨g, 2, none⟩ = some ev := hblk.cell 2
  have hlt := hblk.lt
  have hle := h.le
  obtain ⟨a, er⟩ := s
  simp only [] at c1 herr hle
  cases er with
  | some kp =>
    obtain ⟨p, he, hp, hpb⟩ := herr
    subst he
    have HR : Hid (byteR l mRet ⟨a, some kp⟩ = (0, ⟨a, some kp⟩)) := Lib.hid rfl
    clear hblk h hE hp hpb hle
    go_enter Tryd.func41, Tryd.ntmps41
    go_wp2
    go_ret
    rw [HR.out]
    exact ⟨rfl, HH.out, But.refl⟩
  | none =>
    have he : ev = .nilIface := herr
    subst he
    have hn := hE.hn
    clear herr
    by_cases hge : n ≤ a
    · have t1 : decide ((n : Int) ≤ (a : Int)) = true := by simpa using hge
      have t2 : decide (n ≤ a) = true := by simpa using hge
      have HR : Hid (byteR l mRet ⟨a, none⟩ = (0, failR ⟨a, none⟩ 5 n)) := Lib.hid (by
        unfold byteR failR
        simp only []
        rw [List.getElem?_eq_none (by have := HL.out; omega), HL.out])
      clear hblk h hE
      go_enter Tryd.func41, Tryd.ntmps41
      go_wp2
      go_quiet (fail)
      obtain ⟨V, hV⟩ : ∃ V, V = w.drewN nq := ⟨_, rfl⟩
      rw [← hV]
      have HVB : Hid (But g w V) := Lib.hid (by rw [hV]; exact But.refl.drewN nq)
      have HVR : Hid (RdAt V g B n c ad ⟨a, none⟩) := Lib.hid (by rw [hV]; exact HH.out.drewN nq)
      have hEV := HE.out.but HVB.out
      clear hV c0 c1 c2
      have c0' := HVR.out.c0
      have ee := hEV.ee
      have HEV := Lib.hid hEV
      have hb1 : 3 < V.heap.size := by have := hEV.big; have := hEV.lt; omega
      have hb2 : g < V.heap.size := hEV.lt
      clear hEV
      go_wp2_with fail
      go_region_held3 (fun w' => w'.cell? ⟨g, 0, none⟩ = some (.slice B n c) ∧ w'.cell? ⟨3, 0, none⟩ = some (.iface 147 (.pointer (some (ad 5))))) (go_keep) ((go_at_call 46; refine (fail_any g B n c ad ⟨a, none⟩ 5 n _ HVR.out.drew).mono ?_; rintro e w2 ⟨rfl, hr2, hb2⟩; have HR2 := Lib.hid hr2; have HB2 : Hid (But g V w2) := Lib.hid (But.refl.drew.trans hb2); have c0'' := HR2.out.c0; have ee' := (HEV.out.but HB2.out).ee))
      all_goals go_wp2
      all_goals go_ret
      all_goals rw [HR.out]
      all_goals exact ⟨rfl, HR2.out, HVB.out.trans HB2.out⟩
    · have t1 : decide ((n : Int) ≤ (a : Int)) = false := by simp; omega
      have t2 : decide (n ≤ a) = false := by simp; omega
      have hal : a < n := by omega
      obtain ⟨A, u, hA, hAb, hu, hcell⟩ := hE.reads.at_ hal
      rw [List.getElem?_map] at hu
      obtain ⟨x, hx, rfl⟩ := Option.map_eq_some_iff.1 hu
      have hx' : w.cell? (A.add a) = some (.int .u8 (x : Int)) := hcell
      have f1 : w.frozen? ⟨g, 1, none⟩ = false := hblk.frozen 1
      have HRX : Hid (byteR l mRet ⟨a, none⟩ = if mRet x = true then (x, ⟨a + 1, none⟩) else (0, failR ⟨a, none⟩ 6 a)) := Lib.hid (by
        unfold byteR failR
        simp only [hx])
      have HK := Lib.hid hblk
      subst hA
      have hal' : (a : Int) < (n : Int) := by omega
      have hA2 : a ≤ 16384 := by omega
      clear hblk h hu hx hcell hE
      go_enter Tryd.func41, Tryd.ntmps41
      go_wp2
      go_quiet (fail)
      obtain ⟨V1, hV1⟩ : ∃ V, V = w.drewN nq := ⟨_, rfl⟩
      rw [← hV1]
      have HV1 : Hid (But g w V1 ∧ RdAt V1 g (some A) n c ad ⟨a, none⟩ ∧ V1.cell? (A.add a) = some (.int .u8 (x : Int))) := Lib.hid (by rw [hV1]; exact ⟨But.refl.drewN nq, HH.out.drewN nq, hx'⟩)
      clear hV1 c0 c1 c2 hx' f1
      have c0 := HV1.out.2.1.c0
      have c1 := HV1.out.2.1.c1
      have hx' := HV1.out.2.2
      go_wp2_with fail
      go_quiet (fail)
      obtain ⟨V, hV⟩ : ∃ V, V = V1.drewN nq := ⟨_, rfl⟩
      rw [← hV]
      have HVB : Hid (But g w V) := Lib.hid (by rw [hV]; exact HV1.out.1.drewN nq)
      have HVR : Hid (RdAt V g (some A) n c ad ⟨a, none⟩) := Lib.hid (by rw [hV]; exact HV1.out.2.1.drewN nq)
      clear hV c0 c1 hx' HV1
      go_wp2_with fail
      refine (may_ret x _).mono ?_
      rintro e w2 ⟨rfl, rfl⟩
      cases hm : mRet x
      · have HR : Hid (byteR l mRet ⟨a, none⟩ = (0, failR ⟨a, none⟩ 6 a)) := Lib.hid (by rw [HRX.out, if_neg (by rw [hm]; simp)])
        clear HRX hm
        have hEV := HE.out.but HVB.out
        have c1 := HVR.out.c1
        have eb := hEV.eb
        have HEV := Lib.hid hEV
        have hb1 : 1 < V.heap.size := by have := hEV.big; have := hEV.lt; omega
        have hb2 : g < V.heap.size := hEV.lt
        clear hEV
        go_wp2_with fail
        go_region_held3 (fun w' => w'.cell? ⟨g, 1, none⟩ = some (.int .i64 (a : Int)) ∧ w'.cell? ⟨1, 0, none⟩ = some (.iface 147 (.pointer (some (ad 6))))) (go_keep) ((go_at_call 46; refine (fail_any g (some A) n c ad ⟨a, none⟩ 6 a _ HVR.out.drew).mono ?_; rintro e w2 ⟨rfl, hr2, hb2⟩; have HR2 := Lib.hid hr2; have HB2 : Hid (But g V w2) := Lib.hid (But.refl.drew.trans hb2); have c1'' := HR2.out.c1; rw [failR_at] at c1''; have eb' := (HEV.out.but HB2.out).eb))
        all_goals go_wp2
        all_goals go_ret
        all_goals rw [HR.out]
        all_goals exact ⟨rfl, HR2.out, HVB.out.trans HB2.out⟩
      · have HR : Hid (byteR l mRet ⟨a, none⟩ = (x, ⟨a + 1, none⟩)) := Lib.hid (by rw [HRX.out, if_pos hm])
        clear HRX hm
        have c1 := HVR.out.c1
        have f1 := HVR.out.f1
        go_wp2
        go_ret
        rw [HR.out]
        exact ⟨rfl, HVR.out.step rfl (a + 1) (by omega), HVB.out.setCell 1 _⟩
end Go.Proofs.YtnojejplckhifaaDoor
