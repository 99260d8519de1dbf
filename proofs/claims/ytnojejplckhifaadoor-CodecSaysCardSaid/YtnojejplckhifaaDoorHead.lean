/- The contract of prog.head. -/
import Derived.Test.YtnojejplckhifaaDoorUses
namespace Go.Proofs.YtnojejplckhifaaDoor
open Go.RowKit
set_option linter.unusedVariables false
def RetCat (r : List UInt8) : Prop := ((r == []) = true ∧ (r == [73]) = false ∧ (r == [82]) = false) ∨ ((r == []) = false ∧ (r == [73]) = true ∧ (r == [82]) = false) ∨ ((r == []) = false ∧ (r == [73]) = false ∧ (r == [82]) = true) ∨ ((r == []) = false ∧ (r == [73]) = false ∧ (r == [82]) = false)
theorem retCat (r : List UInt8) : RetCat r := by
  unfold RetCat
  cases h1 : r == [] <;> cases h2 : r == [73] <;> cases h3 : r == [82] <;> simp_all
set_option maxRecDepth 100000 in
set_option maxHeartbeats 4000000 in
theorem head_many (q1 q2 q3 : ByteArray) (A : Option Addr) (n c p l : Nat) (first : Bool) (ad : Nat → Addr) (w : World) (r : List UInt8) (hE : KeepsE w ad) (hr : q3.toList = r) (hc : RetCat r) (h1 : q1.size = p) (h2 : q2.size = l) (hp : p ≤ maxLen) (hl : l ≤ maxLen) (hn : n ≤ maxLen)
    (h : 12 < p ∨ 12 < p + l ∨ n = 0 ∨ 120 < n) :
    Calls Tryd.prog 60 #[.agg #[.string q1, .string q2, .string q3, .slice A n c], .bool first] w (HPost w (eV (ad 0))) := by
  have k0 : ∀ o, (w.alloc o).cell? ⟨0, 0, none⟩ = some (eV (ad 0)) := fun o => (hE _ ((Below.refl _ _).alloc (Nat.le_refl _) o)).1.1
  have HB : Hid (∀ o, Below w.heap.size w (w.alloc o)) := Lib.hid (fun o => (Below.refl _ _).alloc (Nat.le_refl _) o)
  unfold maxLen at hp hl hn
  clear hE
  by_cases c1 : 12 < p
  · have d1 : decide ((12 : Int) < (p : Int)) = true := by simp; omega
    clear h
    rcases hc with ⟨e1, e2, e3⟩ | ⟨e1, e2, e3⟩ | ⟨e1, e2, e3⟩ | ⟨e1, e2, e3⟩
    all_goals
      go_enter Tryd.func60, Tryd.ntmps60
      go_wp2
      go_ret
      exact ⟨rfl, HB.out _⟩
  · have d1 : decide ((12 : Int) < (p : Int)) = false := by simp; omega
    by_cases c2 : 12 < p + l
    · have d2 : decide ((12 : Int) - (p : Int) < (l : Int)) = true := by simp; omega
      have d2' : decide ((l : Int) > (12 : Int) - (p : Int)) = true := by simp; omega
      clear h
      rcases hc with ⟨e1, e2, e3⟩ | ⟨e1, e2, e3⟩ | ⟨e1, e2, e3⟩ | ⟨e1, e2, e3⟩
      all_goals
        go_enter Tryd.func60, Tryd.ntmps60
        go_wp2
        go_ret
        exact ⟨rfl, HB.out _⟩
    · have d2 : decide ((12 : Int) - (p : Int) < (l : Int)) = false := by simp; omega
      by_cases c3 : n = 0
      · have d3 : ((n : Int) == 0) = true := by simp [c3]
        clear h c3
        rcases hc with ⟨e1, e2, e3⟩ | ⟨e1, e2, e3⟩ | ⟨e1, e2, e3⟩ | ⟨e1, e2, e3⟩
        all_goals
          go_enter Tryd.func60, Tryd.ntmps60
          go_wp2
          go_ret
          exact ⟨rfl, HB.out _⟩
      · have d3 : ((n : Int) == 0) = false := by simp; omega
        have d4 : decide ((120 : Int) < (n : Int)) = true := by simp; omega
        clear h
        rcases hc with ⟨e1, e2, e3⟩ | ⟨e1, e2, e3⟩ | ⟨e1, e2, e3⟩ | ⟨e1, e2, e3⟩
        all_goals
          go_enter Tryd.func60, Tryd.ntmps60
          go_wp2
          go_ret
          exact ⟨rfl, HB.out _⟩
set_option maxRecDepth 100000 in
set_option maxHeartbeats 4000000 in
theorem head_rest (q1 q2 q3 : ByteArray) (A : Option Addr) (n c p l : Nat) (first b1 b2 : Bool) (ad : Nat → Addr) (w : World) (r s : List UInt8) (v : Value) (hv : v = if (b1 && b2 && retB r && !(first && (s != [] || r == [82]))) = true then .nilIface else eV (ad 1)) (hE : KeepsE w ad) (hr : q3.toList = r) (hc : RetCat r) (h1 : q1.size = p) (h2 : q2.size = l) (hp : p ≤ 12) (hl : p + l ≤ 12) (hn0 : n ≠ 0) (hn : n ≤ 120)
    (hs : q1.toList = s) (hL1 : ∀ w', Calls Tryd.prog 59 #[.string q1] w' (BPost w' b1)) (hL2 : ∀ w', Calls Tryd.prog 59 #[.string q2] w' (BPost w' b2)) :
    Calls Tryd.prog 60 #[.agg #[.string q1, .string q2, .string q3, .slice A n c], .bool first] w
      (HPost w v) := by
  have HV := Lib.hid hv
  clear hv
  have HE := Lib.hid hE
  have HB : Hid (∀ o, Below w.heap.size w (w.alloc o)) := Lib.hid (fun o => (Below.refl _ _).alloc (Nat.le_refl _) o)
  have HL1 := Lib.hid hL1
  have HL2 := Lib.hid hL2
  have d1 : decide ((12 : Int) < (p : Int)) = false := by simp; omega
  have d2 : decide ((12 : Int) - (p : Int) < (l : Int)) = false := by simp; omega
  have d3 : ((n : Int) == 0) = false := by simp; omega
  have d4 : decide ((120 : Int) < (n : Int)) = false := by simp; omega
  have hsz : ∀ w1 : World, Below (w.alloc (Obj.cells #[.string q1, .string q2, .string q3, .slice A n c] 54)).heap.size (w.alloc (Obj.cells #[.string q1, .string q2, .string q3, .slice A n c] 54)) w1 →
      (w1.cell? ⟨w.heap.size, 0, none⟩ = some (.string q1) ∧ w1.cell? ⟨w.heap.size, 1, none⟩ = some (.string q2)) ∧ (w1.cell? ⟨w.heap.size, 2, none⟩ = some (.string q3) ∧ w1.cell? ⟨0 + 2, 0, none⟩ = some (eV (ad 1))) ∧ Below w.heap.size w w1 := by
    intro w1 h
    have hk := (Blk.new w 54 #[.string q1, .string q2, .string q3, .slice A n c]).below h (by simp)
    have hb := (HB.out (Obj.cells #[.string q1, .string q2, .string q3, .slice A n c] 54)).trans (h.mono (by simp))
    exact ⟨⟨hk.cell 0, hk.cell 1⟩, ⟨hk.cell 2, by simpa using (HE.out _ hb).1.2⟩, hb⟩
  have HS := Lib.hid hsz
  clear hE hL1 hL2 hsz
  cases b1
  · rcases hc with ⟨e1, e2, e3⟩ | ⟨e1, e2, e3⟩ | ⟨e1, e2, e3⟩ | ⟨e1, e2, e3⟩
    all_goals
      go_enter Tryd.func60, Tryd.ntmps60
      go_wp2_with fail
      refine (HL1.out _).mono ?_
      rintro e w1 ⟨rfl, hb1⟩
      obtain ⟨⟨g0, g1⟩, ⟨g2, g3⟩, g4⟩ := HS.out w1 hb1
      rw [Nat.zero_add] at g3
      have G4 := Lib.hid g4
      clear g4 hb1
      go_wp2
      go_ret
      exact ⟨by rw [HV.out]; rfl, G4.out⟩
  · cases b2
    · rcases hc with ⟨e1, e2, e3⟩ | ⟨e1, e2, e3⟩ | ⟨e1, e2, e3⟩ | ⟨e1, e2, e3⟩
      all_goals
        go_enter Tryd.func60, Tryd.ntmps60
        go_wp2_with fail
        refine (HL1.out _).mono ?_
        rintro e w1 ⟨rfl, hb1⟩
        obtain ⟨⟨g0, g1⟩, ⟨g2, g3⟩, g4⟩ := HS.out w1 hb1
        have HB1 := Lib.hid hb1
        clear g4 hb1 g3
        go_wp2_with fail
        refine (HL2.out _).mono ?_
        rintro e w2 ⟨rfl, hb2⟩
        clear g0 g1 g2
        obtain ⟨⟨g0, g1⟩, ⟨g2, g3⟩, g4⟩ := HS.out w2 (HB1.out.trans (hb2.mono HB1.out.size))
        rw [Nat.zero_add] at g3
        have G4 := Lib.hid g4
        clear g4 hb2
        go_wp2
        go_ret
        exact ⟨by rw [HV.out]; rfl, G4.out⟩
    · rcases hc with ⟨e1, e2, e3⟩ | ⟨e1, e2, e3⟩ | ⟨e1, e2, e3⟩ | ⟨e1, e2, e3⟩
      all_goals
        go_enter Tryd.func60, Tryd.ntmps60
        go_wp2_with fail
        refine (HL1.out _).mono ?_
        rintro e w1 ⟨rfl, hb1⟩
        obtain ⟨⟨g0, g1⟩, ⟨g2, g3⟩, g4⟩ := HS.out w1 hb1
        have HB1 := Lib.hid hb1
        clear g4 hb1 g3
        go_wp2_with fail
        refine (HL2.out _).mono ?_
        rintro e w2 ⟨rfl, hb2⟩
        clear g0 g1 g2
        obtain ⟨⟨g0, g1⟩, ⟨g2, g3⟩, g4⟩ := HS.out w2 (HB1.out.trans (hb2.mono HB1.out.size))
        rw [Nat.zero_add] at g3
        have G4 := Lib.hid g4
        clear g4 hb2
        cases first
        · go_wp2
          go_ret
          exact ⟨by rw [HV.out]; simp_all [retB], G4.out⟩
        · cases e4 : s == []
          · go_wp2
            go_ret
            exact ⟨by rw [HV.out]; simp_all [bne, retB], G4.out⟩
          · go_wp2
            go_ret
            exact ⟨by rw [HV.out]; simp_all [bne, retB], G4.out⟩
theorem head_any (x : MV) (first : Bool) (ad : Nat → Addr) (w : World) (hE : KeepsE w ad) (hp : x.m.par.length ≤ maxLen) (hl : x.m.loc.length ≤ maxLen) (hn : x.m.code.length ≤ maxLen) :
    Calls Tryd.prog 60 #[metAgg x, .bool first] w (HPost w (optV ad (mayH x.m first))) := by
  have s1 : (⟨x.m.par.toArray⟩ : ByteArray).size = x.m.par.length := by simp [ByteArray.size]
  have s2 : (⟨x.m.loc.toArray⟩ : ByteArray).size = x.m.loc.length := by simp [ByteArray.size]
  unfold mayH
  by_cases h : 12 < x.m.par.length ∨ 12 < x.m.par.length + x.m.loc.length ∨ x.m.code.length = 0 ∨ 120 < x.m.code.length
  · rw [if_pos h]
    exact head_many _ _ _ x.A x.m.code.length x.c _ _ first ad w x.m.ret hE (toList_mk _) (retCat _) s1 s2 hp hl hn h
  · rw [if_neg h]
    refine head_rest _ _ _ x.A x.m.code.length x.c _ _ first (lettersB x.m.par) (lettersB x.m.loc) ad w x.m.ret x.m.par _ ?_ hE (toList_mk _) (retCat _) s1 s2 (by omega) (by omega) (by omega) (by omega) (toList_mk _) (fun w' => letters_any _ _ hp) (fun w' => letters_any _ _ hl)
    split <;> rfl
end Go.Proofs.YtnojejplckhifaaDoor
