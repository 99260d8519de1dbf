/- The contracts of slices.Clone of picks and of script.New. -/
import Derived.Test.YtomabogjoampnaaDoorRisesP
import Derived.Laws.Cover3
namespace Go.Proofs.YtomabogjoampnaaDoor
open Go.RowKit
set_option linter.unusedVariables false

theorem run_eql_slice_nil {P : Program} (w : World) (t e : TypeId) (a : Option Addr) (l c : Nat) (h : P.underlying t = some (.slice e)) : (binOp .eql t (.slice a l c) (.slice none 0 0)).run P w = .ok (.bool a.isNone) w := by
  simp only [binOp]
  simp [run_equal_slice_nil w t e a l c h]
theorem pks_one (l : List Pk) : ∀ u ∈ pks l, u.oneCell' = true := by
  intro u hu
  obtain ⟨p, hp, hu⟩ := List.mem_flatMap.1 hu
  exact pkc_one p u hu
/-- a copy, in memory of its own -/
def ClonePost (w : World) (n : Nat) (l : List Pk) (e : Ending) (w' : World) : Prop :=
  ∃ A c, e = .returned (.slice A n c) ∧ w'.ownsRow w.heap.size 26 4 (.slice A n c) n (pks l) ∧ Below w.heap.size w w'
set_option maxRecDepth 100000 in
set_option maxHeartbeats 400000 in
theorem clone_any (A : Option Addr) (n c : Nat) (l : List Pk) (w : World) (ha : Reads w w.heap.size 4 A n (pks l)) (hl : l.length = n) (hn : n ≤ 400) :
    Calls Tryd.prog 28 #[.slice A n c] w (ClonePost w n l) := by
  obtain ⟨i0, hi0, hz0, hz1, hz2⟩ := info_parts pick_info
  have HA := Lib.hid ha
  rcases A with _ | ad
  · have hn0 : n = 0 := by
      rcases Nat.eq_zero_or_pos n with h | h
      · exact h
      · obtain ⟨_, h, _⟩ := ha.2 h; cases h
    subst hn0
    have hl0 : l = [] := List.eq_nil_of_length_eq_zero hl
    subst hl0
    clear ha HA hl
    have hnil := fun w => run_eql_slice_nil (P := Tryd.prog) w 24 26 none 0 c Tryd.underlying24
    go_enter Tryd.func28, Tryd.ntmps28
    go_wp2
    go_ret
    exact ⟨none, 0, rfl, World.ownsRow_nil _ _ _ _, Below.refl _ _⟩
  · clear ha
    have hnil := fun w => run_eql_slice_nil (P := Tryd.prog) w 24 26 (some ad) n c Tryd.underlying24
    go_enter Tryd.func28, Tryd.ntmps28
    go_wp2_with (at_builtin
                 go_must (refine wpList_append_any _ rfl (.tmp 5) (.tmp 6) _ rfl w.heap.size 26 i0 _ 4 32 Tryd.underlying24 hi0 hz0 hz1 hz2 rfl (by omega) (.slice (some ⟨w.heap.size, 0, none⟩) 0 0) 0 [] rfl (by exact ⟨rfl, .inr ⟨_, 0, #[], rfl, Nat.le_refl _, Blk.new _ _ _, Nat.le_refl _, Nat.zero_le _, rfl, rfl⟩⟩) w.heap.size (some ad) n c (pks l) rfl (by exact HA.out.alloc (Nat.le_refl _) _) (pks_one l) (by unfold maxLen; omega) (by omega) (by simp) ?_)
                 intro v2 w2 hown2 hg2 hat2)
    go_ret
    rw [Nat.zero_add, List.nil_append] at hown2
    have hb2 : Below w.heap.size w w2 := ((Below.refl _ _).alloc (Nat.le_refl _) _).grown hg2 (by simp) (fun k hk => by simp [Value.ownBlock] at hk; omega)
    obtain ⟨A2, c2, rfl, _⟩ := own_reads hown2
    exact ⟨A2, c2, rfl, hown2, hb2⟩
def NewPost (w : World) (n : Nat) (l : List Pk) (e : Ending) (w' : World) : Prop :=
  ∃ b A c, e = .returned (.tuple #[.pointer (some ⟨b, 0, none⟩), .nilIface]) ∧ w.heap.size ≤ b ∧ Blk w' b 67 #[.slice A n c, .int .i64 (-1)] ∧ w'.ownsRow w.heap.size 26 4 (.slice A n c) n (pks l) ∧ Below w.heap.size w w'
def NewBad (w : World) (i c : Nat) (kv iv sv : Value) (e : Ending) (w' : World) : Prop :=
  Below w.heap.size w w' ∧ ∃ b, e = .returned (.tuple #[.pointer none, .iface 58 (.pointer (some ⟨b, 0, none⟩))]) ∧ w.heap.size ≤ b ∧ Blk w' b 60 #[.int .i64 (i : Int), errV kv iv sv c]
theorem own_base {w : World} {base base' : Nat} {e : TypeId} {size n : Nat} {v : Value} {xs : List Value} (h : w.ownsRow base e size v n xs) (hb : base' ≤ base) : w.ownsRow base' e size v n xs := by
  refine ⟨h.1, ?_⟩
  rcases h.2 with hv | ⟨g, cap, cur, hv, hg, hh⟩
  · exact .inl hv
  · exact .inr ⟨g, cap, cur, hv, Nat.le_trans hb hg, hh⟩
set_option maxRecDepth 100000 in
set_option maxHeartbeats 400000 in
theorem new_ok (A : Option Addr) (n c : Nat) (l : List Pk) (ak ai as_ : Addr) (w : World) (ha : Reads w w.heap.size 4 A n (pks l)) (hl : l.length = n) (hn : n ≤ 400) (h3 : E3 w ak ai as_) (hm : mayF 0 0 l = none) :
    Calls Tryd.prog 13 #[.slice A n c] w (NewPost w n l) := by
  have HA := Lib.hid ha
  have HM := Lib.hid hm
  have H3 := Lib.hid h3
  clear ha hm h3
  go_enter Tryd.func13, Tryd.ntmps13
  go_wp2_with fail
  refine (mayL_in A n c l ak ai as_ _ HA.out hl hn H3.out.hg H3.out.hk H3.out.hi H3.out.hs).mono ?_
  rintro e w1 ⟨hb1, he⟩
  rw [HM.out] at he
  replace he : e = .returned .nilIface := he
  subst he
  go_wp2_with fail
  refine (clone_any A n c l _ ((HA.out.below hb1).more hb1.size) hl hn).mono ?_
  rintro e w2 ⟨A2, c2, rfl, hown, hb2⟩
  have HO := Lib.hid hown
  clear hown
  go_wp2
  go_ret2
  have hbw := hb1.trans (hb2.mono hb1.size)
  exact ⟨w2.heap.size, A2, c2, rfl, hbw.size, Blk.new _ _ _, own_base (HO.out.alloc _) hb1.size, hbw.alloc hbw.size _⟩
set_option maxRecDepth 100000 in
set_option maxHeartbeats 400000 in
theorem new_bad (A : Option Addr) (n c : Nat) (l : List Pk) (ak ai as_ : Addr) (w : World) (ha : Reads w w.heap.size 4 A n (pks l)) (hl : l.length = n) (hn : n ≤ 400) (h3 : E3 w ak ai as_) (i cc : Nat) (hm : mayF 0 0 l = some (i, cc)) :
    Calls Tryd.prog 13 #[.slice A n c] w (NewBad w i cc (eV ak) (eV ai) (eV as_)) := by
  have HA := Lib.hid ha
  have HM := Lib.hid hm
  have H3 := Lib.hid h3
  clear ha hm h3
  go_enter Tryd.func13, Tryd.ntmps13
  go_wp2_with fail
  refine (mayL_in A n c l ak ai as_ _ HA.out hl hn H3.out.hg H3.out.hk H3.out.hi H3.out.hs).mono ?_
  rintro e w1 ⟨hb1, he⟩
  rw [HM.out] at he
  obtain ⟨b, rfl, hbb, hB⟩ := he
  have HBB := Lib.hid hB
  clear hB
  go_wp2
  go_ret2
  exact ⟨hb1, b, rfl, hbb, HBB.out⟩
theorem one_may (a0 a1 a2 a3 : Int) : mayF 0 0 [⟨a0, a1, a2, a3⟩] = if a1 < 1 ∨ 5 < a1 then some (0, 1) else if a0 < 0 ∨ 1048576 < a0 ∨ a2 < 0 ∨ (if a1 = 3 then 11 else 0) < a2 ∨ a3 < 0 ∨ (if a1 = 3 then 2047 else if a1 = 5 then 2047 else 0) < a3 then some (0, 2) else none := by
  have e : mayF 0 0 [⟨a0, a1, a2, a3⟩] = if mayC a0 a1 a2 a3 0 = 0 then none else some (0, mayC a0 a1 a2 a3 0) := rfl
  rw [e]
  unfold mayC limA limB
  by_cases h1 : a1 < 1 ∨ 5 < a1
  · rw [if_pos h1, if_pos h1]; rfl
  · rw [if_neg h1, if_neg h1]
    by_cases h2 : a0 < 0 ∨ 1048576 < a0 ∨ a2 < 0 ∨ (if a1 = 3 then 11 else 0) < a2 ∨ a3 < 0 ∨ (if a1 = 3 then 2047 else if a1 = 5 then 2047 else 0) < a3
    · rw [if_pos h2, if_pos h2]; rfl
    · have h4 : ¬ a0 < 0 := by omega
      rw [if_neg h2, if_neg h2, if_neg h4]; rfl
end Go.Proofs.YtomabogjoampnaaDoor
