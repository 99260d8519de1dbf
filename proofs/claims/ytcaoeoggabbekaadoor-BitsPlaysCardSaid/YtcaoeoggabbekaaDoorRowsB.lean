/- Rows of ints: Ints, without, Sorted. -/
import Derived.Test.YtcaoeoggabbekaaDoorAlg
import Derived.Deep.RegionLaw
namespace Go.Proofs.YtcaoeoggabbekaaDoor
open Go.RowKit Go.Shelf
set_option linter.unusedVariables false

def iv (x : Int) : Value := .int .i64 x
theorem iv_one (l : List Int) : ∀ u ∈ l.map iv, u.oneCell' = true := by
  intro u hu
  obtain ⟨x, _, rfl⟩ := List.mem_map.1 hu
  rfl
/-- a row of one's own -/
def RowPost (w : World) (L : List Int) (e : Ending) (w' : World) : Prop :=
  ∃ A c, e = .returned (.slice A L.length c) ∧ w'.ownsRow w.heap.size 3 1 (.slice A L.length c) L.length (L.map iv) ∧ Below w.heap.size w w'
theorem row_post {w w' : World} {L : List Int} {v : Value} {n : Nat} (h : w'.ownsRow w.heap.size 3 1 v n (L.map iv)) (hn : n = L.length) (hb : Below w.heap.size w w') : RowPost w L (.returned v) w' := by
  subst hn
  obtain ⟨A, c, rfl, _⟩ := own_reads h
  exact ⟨A, c, rfl, h, hb⟩
theorem one_new (w : World) (x : Int) : Reads (w.alloc (.cells #[.int .i64 x] 3)) (w.alloc (.cells #[.int .i64 x] 3)).heap.size 1 (some ⟨w.heap.size, 0, none⟩) 1 ([x].map iv) := reads_newS w _ _ 1 1 _ rfl rfl
def ints0 (c : Nat) : Array Value := madeCells #[.int .i64 0] c
theorem make_ints (c : Nat) (hc : c ≤ 2097152) (w : World) : (Instr.makeSlice 27 (.int .i64 0) (.int .i64 (c : Int))).run Tryd.prog w = .ok (.slice (some ⟨w.heap.size, 0, none⟩) 0 c) (w.alloc (.cells (ints0 c) 3)) := by
  obtain ⟨i0, hi0, hz0, hz1, hz2⟩ := info_parts info_int
  have h := run_makeSlice (P := Tryd.prog) w 27 3 i0 (.int .i64 0) Tryd.underlying27 hi0 hz0 .i64 .i64 0 c (by omega) (by omega) (by rw [hz1]; simp; omega) (by rw [hz2]; simp; omega) (by omega)
  rw [h, hz1, Int.toNat_natCast, Nat.mul_one]
  rfl
theorem own_made (w : World) (base c : Nat) (hc : c ≤ 2097152) (hb : base ≤ w.heap.size) : (w.alloc (.cells (ints0 c) 3)).ownsRow base 3 1 (.slice (some ⟨w.heap.size, 0, none⟩) 0 c) 0 (([] : List Int).map iv) :=
  World.ownsRow_made w _ c hb (by unfold maxLen; omega) (by rw [ints0, size_madeCells]; omega)
theorem take_at {l : List Int} {k : Nat} {x : Int} (h : l[k]? = some x) : l.take (k + 1) = l.take k ++ [x] := by
  obtain ⟨hk, e⟩ := List.getElem?_eq_some_iff.1 h
  rw [List.take_succ_eq_append_getElem hk, e]
theorem iv_at {A : Option Addr} {w : World} {B m k : Nat} {l : List Int} (h : Reads w B 1 A m (l.map iv)) (hk : k < m) : ∃ ad x, A = some ad ∧ ad.block < B ∧ l[k]? = some x ∧ w.cell? (ad.add k) = some (.int .i64 x) := by
  obtain ⟨ad, v, rfl, had, hv, hcell⟩ := h.at_ hk
  rw [List.getElem?_map] at hv
  obtain ⟨x, hx, rfl⟩ := Option.map_eq_some_iff.1 hv
  exact ⟨ad, x, rfl, had, hx, hcell⟩
def IntsRel (w : World) (f : List Int → List Int) (l : List Int) (so si : Value) (wr : World) : Prop :=
  ∃ k : Nat, k ≤ l.length ∧ si = .int .i64 (k : Int) ∧ wr.ownsRow w.heap.size 3 1 so (f (l.take k)).length ((f (l.take k)).map iv) ∧ Below w.heap.size w wr
set_option maxRecDepth 100000 in
set_option maxHeartbeats 1000000 in
theorem ints_any (A : Option Addr) (m c : Nat) (l : List Int) (w : World) (ha : Reads w w.heap.size 1 A m (l.map iv)) (hm : m ≤ 1048576) :
    Calls Tryd.prog 20 #[.slice A m c] w (RowPost w l) := by
  obtain ⟨i0, hi, hz0, hz1, hz2⟩ := info_parts info_int
  have HL : Hid (l.length = m) := Lib.hid (by have := ha.1; simpa using this)
  have HA := Lib.hid ha
  have hmk := make_ints m (by omega)
  clear ha
  go_enter Tryd.func20, Tryd.ntmps20
  go_wp2
  go_loopw [3, 4] (fun so si wr => IntsRel w (fun x => x) l so si wr) (fun _ si _ => m - (intOf si).toNat)
  case atStart => exact ⟨0, Nat.zero_le _, rfl, own_made w _ _ (by omega) (Nat.le_refl _), (Below.refl _ _).alloc (Nat.le_refl _) _⟩
  case round =>
    obtain ⟨k, hk, rfl, hown, hbr⟩ := hrel
    have HO : Hid (wr.ownsRow w.heap.size 3 1 u3 (l.take k).length ((l.take k).map iv)) := Lib.hid hown
    have HBR := Lib.hid hbr
    clear hown hbr
    by_cases hlt : k < m
    · obtain ⟨ad, x, rfl, had, hx, hcell⟩ := iv_at (HA.out.below HBR.out) hlt
      have HX := Lib.hid hx
      clear hx
      go_wp2_with (at_builtin
                   refine wpList_append_any _ rfl (.tmp 14) (.tmp 19) _ rfl w.heap.size 3 i0 _ 1 8 Tryd.underlying27 hi hz0 hz1 hz2 rfl (by omega) _ _ _ rfl (HO.out.alloc _) _ (some ⟨wr.heap.size, 0, none⟩) 1 1 ([x].map iv) rfl (by exact one_new wr x) (iv_one _) (by have := HL.out; have := List.length_take_le k l; unfold maxLen; omega) (by have := HL.out; have := List.length_take_le k l; omega) (by have := HBR.out.size; simp; omega) ?_
                   intro v2 w2 hown2 hg2 hat2)
      have hb2 : Below w.heap.size wr w2 := ((Below.refl _ _).alloc HBR.out.size _).grown hg2 (by have := HBR.out.size; simp; omega) (fun k hk => own_ge HO.out hk)
      refine ⟨⟨k + 1, by have := HL.out; omega, by go_num, ?_, HBR.out.trans hb2⟩, by simp [intOf]; omega⟩
      rw [take_at HX.out, List.map_append, List.length_append]
      exact hown2
    · go_wp2
      go_ret
      have h := HO.out
      rw [List.take_of_length_le (by have := HL.out; omega)] at h
      exact row_post h rfl HBR.out
def woF (gone l : List Int) : List Int := l.filter fun x => !amongI gone x
theorem woF_snoc (gone l : List Int) (x : Int) : woF gone (l ++ [x]) = if amongI gone x = true then woF gone l else woF gone l ++ [x] := by
  unfold woF
  rw [List.filter_append]
  cases h : amongI gone x <;> simp [List.filter_cons, h]
set_option maxRecDepth 100000 in
set_option maxHeartbeats 1000000 in
theorem without_any (A : Option Addr) (m c : Nat) (l : List Int) (A1 : Option Addr) (m1 c1 : Nat) (gone : List Int) (w : World) (ha : Reads w w.heap.size 1 A m (l.map iv)) (hm : m ≤ 1048576) (hg : Reads w w.heap.size 1 A1 m1 (gone.map iv)) (hm1 : m1 ≤ 1048576) :
    Calls Tryd.prog 19 #[.slice A m c, .slice A1 m1 c1] w (RowPost w (woF gone l)) := by
  obtain ⟨i0, hi, hz0, hz1, hz2⟩ := info_parts info_int
  have HL : Hid (l.length = m) := Lib.hid (by have := ha.1; simpa using this)
  have HA := Lib.hid ha
  have HG := Lib.hid hg
  clear ha hg
  go_enter Tryd.func19, Tryd.ntmps19
  go_wp2
  go_loopw [5, 6] (fun so si wr => IntsRel w (woF gone) l so si wr) (fun _ si _ => m - (intOf si).toNat)
  case atStart => exact ⟨0, Nat.zero_le _, rfl, ⟨rfl, .inl ⟨rfl, rfl⟩⟩, Below.refl _ _⟩
  case round =>
    obtain ⟨k, hk, rfl, hown, hbr⟩ := hrel
    have HO := Lib.hid hown
    have HBR := Lib.hid hbr
    clear hown hbr
    by_cases hlt : k < m
    · obtain ⟨ad, x, rfl, had, hx, hcell⟩ := iv_at (HA.out.below HBR.out) hlt
      have HX := Lib.hid hx
      have HLN : Hid ((woF gone (l.take k)).length ≤ 1048576) := Lib.hid (by have h1 := List.length_filter_le (fun x => !amongI gone x) (l.take k); have h2 := List.length_take_le k l; unfold woF; omega)
      have HGR := Lib.hid ((HG.out.below HBR.out).more HBR.out.size)
      clear hx
      cases hq : amongI gone x
      · have HQ := Lib.hid hq
        clear hq
        go_wp2_with (first | (go_at_call 17; refine (among_any A1 m1 c1 gone x _ (by exact HGR.out) hm1).mono ?_; rintro e w2 ⟨rfl, rfl⟩; rw [HQ.out]) | (at_builtin; refine wpList_append_any _ rfl (.tmp 20) (.tmp 25) _ rfl w.heap.size 3 i0 _ 1 8 Tryd.underlying27 hi hz0 hz1 hz2 rfl (by omega) _ _ _ rfl (HO.out.alloc _) _ (some ⟨wr.heap.size, 0, none⟩) 1 1 ([x].map iv) rfl (by exact one_new wr x) (iv_one _) (by have := HLN.out; unfold maxLen; omega) (by have := HLN.out; omega) (by have := HBR.out.size; simp; omega) ?_; intro v2 w2 hown2 hg2 hat2))
        have hb2 : Below w.heap.size wr w2 := ((Below.refl _ _).alloc HBR.out.size _).grown hg2 (by have := HBR.out.size; simp; omega) (fun k hk => own_ge HO.out hk)
        refine ⟨⟨k + 1, by have := HL.out; omega, by go_num, ?_, HBR.out.trans hb2⟩, by simp [intOf]; omega⟩
        rw [take_at HX.out, woF_snoc, if_neg (by rw [HQ.out]; decide), List.map_append, List.length_append]
        exact hown2
      · have HQ := Lib.hid hq
        clear hq
        go_wp2_with (go_at_call 17; refine (among_any A1 m1 c1 gone x _ (by exact HGR.out) hm1).mono ?_; rintro e w2 ⟨rfl, rfl⟩; rw [HQ.out])
        refine ⟨⟨k + 1, by have := HL.out; omega, by go_num, ?_, HBR.out⟩, by simp [intOf]; omega⟩
        rw [take_at HX.out, woF_snoc, if_pos HQ.out]
        exact HO.out
    · go_wp2
      go_ret
      have h := HO.out
      rw [List.take_of_length_le (by have := HL.out; omega)] at h
      exact row_post h rfl HBR.out
end Go.Proofs.YtcaoeoggabbekaaDoor
