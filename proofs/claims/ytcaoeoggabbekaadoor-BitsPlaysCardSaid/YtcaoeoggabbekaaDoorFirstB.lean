/- Sets of numbers: a set of a list, the chapter's examples; whether a number is in a list. -/
import Derived.Test.YtcaoeoggabbekaaDoorJoin
namespace Go.Proofs.YtcaoeoggabbekaaDoor
open Go.RowKit Go.Shelf
set_option linter.unusedVariables false

def memP (n : Nat) (l : List Int) : Nat → Bool := fun j => decide ((j : Int) ∈ l ∧ j < n)
theorem memP_nil (n : Nat) (j : Nat) : false = memP n [] j := by simp [memP]
theorem memP_snoc (n : Nat) (l : List Int) (x : Int) (j : Nat) : addP (memP n l) n x j = memP n (l ++ [x]) j := by
  rw [addP, memP, memP, Bool.eq_iff_iff]
  simp only [Bool.or_eq_true, decide_eq_true_eq, List.mem_append, List.mem_singleton]
  constructor
  · rintro (⟨h1, h2⟩ | ⟨h1, h2⟩)
    · exact ⟨.inl h1, h2⟩
    · exact ⟨.inr h1, h2⟩
  · rintro ⟨h1 | h1, h2⟩
    · exact .inl ⟨h1, h2⟩
    · exact .inr ⟨h1, h2⟩
def SetPost (w : World) (n : Nat) (p : Nat → Bool) (e : Ending) (w' : World) : Prop :=
  ∃ b g, e = .returned (.pointer (some ⟨b, 0, none⟩)) ∧ w.heap.size ≤ b ∧ w.heap.size ≤ g ∧ SetAt w' b g n p ∧ Below w.heap.size w w'
def SRel (w : World) (b g n : Nat) (l : List Int) (si : Value) (wr : World) : Prop :=
  ∃ k : Nat, k ≤ l.length ∧ si = .int .i64 (k : Int) ∧ SetAt wr b g n (memP n (l.take k)) ∧ Below w.heap.size w wr
set_option maxRecDepth 100000 in
set_option maxHeartbeats 1000000 in
theorem set_any (z : Int) (A : Option Addr) (m c : Nat) (l : List Int) (w : World) (ha : Reads w w.heap.size 1 A m (l.map (Value.int .i64))) (hm : m ≤ 1048576) (hw : 0 < w.heap.size) :
    Calls Tryd.prog 15 #[.int .i64 z, .slice A m c] w (SetPost w (clampN z) (memP (clampN z) l)) := by
  have HL : Hid (l.length = m) := Lib.hid (by have := ha.1; simpa using this)
  have HA := Lib.hid ha
  clear ha
  go_enter Tryd.func15, Tryd.ntmps15
  go_wp2_with fail
  refine (new_any z _ (by exact hw)).mono ?_
  rintro e w1 ⟨b, g, rfl, hb, hg, hS, hbl⟩
  have HS := Lib.hid (hS.congr (memP_nil (clampN z)))
  have HB := Lib.hid hbl
  clear hS hbl
  go_wp2
  go_loopw [6] (fun si wr => SRel w b g (clampN z) l si wr) (fun si _ => m - (intOf si).toNat)
  case atStart => exact ⟨0, Nat.zero_le _, rfl, HS.out, HB.out⟩
  case round =>
    obtain ⟨k, hk, rfl, hS2, hbr⟩ := hrel
    have HS2 := Lib.hid hS2
    have HBR := Lib.hid hbr
    clear hS2 hbr
    by_cases hlt : k < m
    · obtain ⟨ad, v, rfl, had, hv, hcell⟩ := (HA.out.below HBR.out).at_ hlt
      rw [List.getElem?_map] at hv
      obtain ⟨x, hx, rfl⟩ := Option.map_eq_some_iff.1 hv
      have HX := Lib.hid hx
      clear hv hx
      go_wp2_with fail
      refine (add_any b g (clampN z) x _ _ HS2.out).mono ?_
      rintro e w2 ⟨rfl, hS3, hb3⟩
      have HS3 := Lib.hid hS3
      have HB3 : Hid (Below w.heap.size w w2) := Lib.hid (HBR.out.trans (hb3.below hg HBR.out.size))
      clear hS3 hb3
      go_wp2
      go_roundw
      case rel =>
        obtain ⟨hk', e⟩ := List.getElem?_eq_some_iff.1 HX.out
        refine ⟨k + 1, by omega, by go_num, HS3.out.congr fun j => ?_, HB3.out⟩
        rw [memP_snoc, List.take_succ_eq_append_getElem hk', e]
      case measure => simp [intOf]; omega
    · go_wp2
      go_ret
      refine ⟨b, g, rfl, hb, hg, ?_, HBR.out⟩
      have h := HS2.out
      rwa [List.take_of_length_le (by have := HL.out; omega)] at h
def amongI (l : List Int) (x : Int) : Bool := decide (x ∈ l)
def ARel (l : List Int) (x : Int) (si : Value) : Prop := ∃ k : Nat, k ≤ l.length ∧ si = .int .i64 (k : Int) ∧ x ∉ l.take k
set_option maxRecDepth 100000 in
theorem among_any (A : Option Addr) (m c : Nat) (l : List Int) (x : Int) (w : World) (ha : Reads w w.heap.size 1 A m (l.map (Value.int .i64))) (hm : m ≤ 1048576) :
    Calls Tryd.prog 17 #[.slice A m c, .int .i64 x] w fun e w' => e = .returned (.bool (amongI l x)) ∧ w = w' := by
  have HL : Hid (l.length = m) := Lib.hid (by have := ha.1; simpa using this)
  have HA := Lib.hid ha
  clear ha
  go_enter Tryd.func17, Tryd.ntmps17
  go_wp2
  go_loop [5] (fun si => ARel l x si) (fun si => m - (intOf si).toNat)
  case atStart => exact ⟨0, Nat.zero_le _, rfl, by simp⟩
  case round =>
    obtain ⟨k, hk, rfl, hn⟩ := hrel
    have HN := Lib.hid hn
    clear hn
    by_cases hlt : k < m
    · obtain ⟨ad, v, rfl, had, hv, hcell⟩ := HA.out.at_ hlt
      rw [List.getElem?_map] at hv
      obtain ⟨y, hy, rfl⟩ := Option.map_eq_some_iff.1 hv
      have HY := Lib.hid hy
      clear hv hy
      by_cases hxy : y = x
      · subst hxy
        go_wp2
        go_ret
        have : amongI l y = true := by simp only [amongI, decide_eq_true_eq]; exact List.mem_of_getElem? HY.out
        rw [this]
        exact ⟨rfl, rfl⟩
      · have t1 : (y == x) = false := beq_eq_false_iff_ne.2 hxy
        have HXY := Lib.hid hxy
        clear hxy
        go_wp2
        go_round
        case rel =>
          obtain ⟨hk', e⟩ := List.getElem?_eq_some_iff.1 HY.out
          refine ⟨k + 1, by omega, by go_num, ?_⟩
          rw [List.take_succ_eq_append_getElem hk', e, List.mem_append]
          rintro (h | h)
          · exact HN.out h
          · exact HXY.out ((List.mem_singleton.1 h).symm)
        case measure => simp [intOf]; omega
    · go_wp2
      go_ret
      have : amongI l x = false := by
        have h := HN.out
        rw [List.take_of_length_le (by have := HL.out; omega)] at h
        simpa [amongI] using h
      rw [this]
      exact ⟨rfl, rfl⟩
theorem reads_newS (w : World) (t : TypeId) (cs : Array Value) (s n : Nat) (xs : List Value) (hx : cs.toList = xs) (hn : xs.length = n * s) :
    Reads (w.alloc (.cells cs t)) (w.alloc (.cells cs t)).heap.size s (some ⟨w.heap.size, 0, none⟩) n xs := by
  subst hx
  exact ⟨hn, fun _ => ⟨_, rfl, by simp, World.news_of_block (Blk.new w t cs)⟩⟩
def P70 : Nat → Bool := addP (addP (addP (addP (fun _ => false) 70 3) 70 3) 70 69) 70 70
theorem p70_els : elsI P70 70 = [3, 69] := by decide +kernel
theorem p70_len : (els P70 70).length = 2 := by decide +kernel
theorem q1 : (decide ((0 : Int) ≤ 3 ∧ (3 : Int) < (70 : Nat)) && !hasZ (fun _ => false) 3) = true := by decide
theorem q2 : (decide ((0 : Int) ≤ 3 ∧ (3 : Int) < (70 : Nat)) && !hasZ (addP (fun _ => false) 70 3) 3) = false := by decide
theorem q3 : (decide ((0 : Int) ≤ 69 ∧ (69 : Int) < (70 : Nat)) && !hasZ (addP (addP (fun _ => false) 70 3) 70 3) 69) = true := by decide
theorem q4 : (decide ((0 : Int) ≤ 70 ∧ (70 : Int) < (70 : Nat)) && !hasZ (addP (addP (addP (fun _ => false) 70 3) 70 3) 70 69) 70) = false := by decide
def FirstPost (w : World) (e : Ending) (w' : World) : Prop := e = .returned (.bool true) ∧ Below w.heap.size w w'
set_option maxRecDepth 100000 in
set_option maxHeartbeats 1000000 in
theorem first_any (w : World) (hT : TabIn w) : Calls Tryd.prog 8 #[] w (FirstPost w) := by
  have HT := Lib.hid hT
  clear hT
  go_enter Tryd.func8, Tryd.ntmps8
  go_wp2_with fail
  refine (new_any 70 _ HT.out.pos).mono ?_
  rintro e w1 ⟨b, g, rfl, hb, hg, hS, hbl⟩
  have HS := Lib.hid (show SetAt w1 b g 70 (fun _ => false) from hS)
  have HB := Lib.hid hbl
  clear hS hbl
  go_wp2_with fail
  refine (add_any b g 70 3 _ _ HS.out).mono ?_
  rintro e w2 ⟨rfl, hS2, hb2⟩
  rw [q1]
  have HS2 := Lib.hid hS2
  have HB2 : Hid (Below w.heap.size w w2) := Lib.hid (HB.out.trans (hb2.below hg HB.out.size))
  clear hS2 hb2
  go_wp2_with fail
  refine (add_any b g 70 3 _ _ HS2.out).mono ?_
  rintro e w3 ⟨rfl, hS3, hb3⟩
  rw [q2]
  have HS3 := Lib.hid hS3
  have HB3 : Hid (Below w.heap.size w w3) := Lib.hid (HB2.out.trans (hb3.below hg HB2.out.size))
  clear hS3 hb3
  go_wp2_with fail
  refine (add_any b g 70 69 _ _ HS3.out).mono ?_
  rintro e w4 ⟨rfl, hS4, hb4⟩
  rw [q3]
  have HS4 := Lib.hid hS4
  have HB4 : Hid (Below w.heap.size w w4) := Lib.hid (HB3.out.trans (hb4.below hg HB3.out.size))
  clear hS4 hb4
  go_wp2_with fail
  refine (add_any b g 70 70 _ _ HS4.out).mono ?_
  rintro e w5 ⟨rfl, hS5, hb5⟩
  rw [q4]
  have HS5 := Lib.hid (show SetAt w5 b g 70 P70 from hS5)
  have HB5 : Hid (Below w.heap.size w w5) := Lib.hid (HB4.out.trans (hb5.below hg HB4.out.size))
  clear hS5 hb5
  go_wp2_with fail
  refine (list_any b g 70 P70 _ HS5.out (HT.out.below HB5.out HT.out.pos)).mono ?_
  rintro e w6 ⟨v6, rfl, hown6, hb6⟩
  rw [p70_els] at hown6
  obtain ⟨A6, c6, rfl, hr6⟩ := own_reads hown6
  have HS6 := Lib.hid (HS5.out.belowW hb6)
  have HB6 : Hid (Below w.heap.size w w6) := Lib.hid (HB5.out.trans (hb6.mono HB5.out.size))
  have HR6 := Lib.hid hr6
  clear hown6 hb6 hr6
  go_wp2_with fail
  refine (sameI_any A6 _ _ 2 c6 2 _ [3, 69] _ (by exact (HR6.out.alloc (Nat.le_refl _) _).more (by simp)) (by exact reads_newS w6 _ _ 1 2 _ rfl rfl) (by decide)).mono ?_
  rintro e w7 ⟨rfl, hb7⟩
  rw [show sameI [3, 69] [3, 69] = true by decide]
  have HB7 : Hid (Below w.heap.size w w7) := Lib.hid ((HB6.out.alloc HB6.out.size _).trans (hb7.mono (by simp; have := HB6.out.size; omega)))
  have HS7 := Lib.hid (HS6.out.belowW (((Below.refl _ _).alloc (Nat.le_refl _) _).trans (hb7.mono (by simp))))
  clear hb7
  go_wp2_with fail
  refine (len_any b g 70 P70 _ HS7.out).mono ?_
  rintro e w8 ⟨rfl, rfl⟩
  rw [p70_len]
  go_wp2
  go_ret
  exact ⟨rfl, HB7.out⟩
end Go.Proofs.YtcaoeoggabbekaaDoor
