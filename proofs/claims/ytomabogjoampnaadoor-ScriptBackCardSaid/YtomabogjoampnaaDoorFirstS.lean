/- The chapter's examples: overdrivelaw15.first answers true. -/
import Derived.Test.YtomabogjoampnaaDoorPrint
import Derived.Test.YtomabogjoampnaaDoorPack
import Derived.Test.YtomabogjoampnaaDoorPack2
import Derived.Test.YtomabogjoampnaaDoorSame
import Derived.Test.YtomabogjoampnaaDoorSameE
import Derived.Test.YtomabogjoampnaaDoorDoor
namespace Go.Proofs.YtomabogjoampnaaDoor
open Go.RowKit
set_option linter.unusedVariables false

theorem reads_newS (w : World) (t : TypeId) (cs : Array Value) (s n : Nat) (xs : List Value) (hx : cs.toList = xs) (hn : xs.length = n * s) :
    Reads (w.alloc (.cells cs t)) (w.alloc (.cells cs t)).heap.size s (some ⟨w.heap.size, 0, none⟩) n xs := by
  subst hx
  exact ⟨hn, fun _ => ⟨_, rfl, by simp, World.news_of_block (Blk.new w t cs)⟩⟩
theorem reads_newA (w : World) (t : TypeId) (cs : Array Value) (s n g : Nat) (xs : List Value) (hg : w.heap.size = g) (hx : cs.toList = xs) (hn : xs.length = n * s) :
    Reads (w.alloc (.cells cs t)) (w.alloc (.cells cs t)).heap.size s (some ⟨g, 0, none⟩) n xs := by
  subst hg
  exact reads_newS w t cs s n xs hx hn
theorem first_may : mayF 0 0 [⟨3, 1, 0, 0⟩, ⟨3, 3, 2, 33⟩] = none := by decide
theorem first_prn : prn 0 [⟨3, 1, 0, 0⟩, ⟨3, 3, 2, 33⟩] = [3, 1, 0, 3, 2, 33] := by decide
theorem first_un : oV (bitB 33 0) (bitB 33 1) (bitB 33 2) (bitB 33 3) (bitB 33 4) (regsOf 33) = .agg #[.bool true, .bool false, .bool false, .bool false, .bool false, .int .i64 2] := by kernel_rfl
theorem first_pk : pkK [true, false, false, false, false] (pk0 2) 5 = 33 := by decide +kernel
/-- what May asks of the variables -/
structure E3 (w : World) (ak ai as_ : Addr) : Prop where
  hk : w.cell? ⟨1, 0, none⟩ = some (eV ak)
  hi : w.cell? ⟨2, 0, none⟩ = some (eV ai)
  hs : w.cell? ⟨3, 0, none⟩ = some (eV as_)
  hg : 3 < w.heap.size
theorem E3.below {w w' : World} {ak ai as_ : Addr} (h : E3 w ak ai as_) (hb : Below w.heap.size w w') : E3 w' ak ai as_ where
  hk := (hb.cell (p := ⟨1, 0, none⟩) (by have := h.hg; simp; omega)).trans h.hk
  hi := (hb.cell (p := ⟨2, 0, none⟩) (by have := h.hg; simp; omega)).trans h.hi
  hs := (hb.cell (p := ⟨3, 0, none⟩) (by have := h.hg; simp; omega)).trans h.hs
  hg := Nat.lt_of_lt_of_le h.hg hb.size
theorem Errs.e3 {w : World} {ad : Nat → Addr} (h : Errs w ad) : E3 w (ad 1) (ad 2) (ad 4) := ⟨h.cell 1 (by decide), h.cell 2 (by decide), h.cell 4 (by decide), by have := h.big; omega⟩
theorem cell_lt {w : World} {p : Addr} {v : Value} (h : w.cell? p = some v) : p.block < w.heap.size := by
  rcases Nat.lt_or_ge p.block w.heap.size with hlt | hge
  · exact hlt
  · unfold World.cell? at h; rw [Array.getElem?_eq_none hge] at h; simp at h
theorem lst14_at : ∀ i : Nat, i < 14 → ∃ x, lst14[i]? = some x ∧ Tryd.prog.globalNamed x.1 = some (gnum i)
  | 0, _ => ⟨_, rfl, by kernel_rfl⟩
  | 1, _ => ⟨_, rfl, by kernel_rfl⟩
  | 2, _ => ⟨_, rfl, by kernel_rfl⟩
  | 3, _ => ⟨_, rfl, by kernel_rfl⟩
  | 4, _ => ⟨_, rfl, by kernel_rfl⟩
  | 5, _ => ⟨_, rfl, by kernel_rfl⟩
  | 6, _ => ⟨_, rfl, by kernel_rfl⟩
  | 7, _ => ⟨_, rfl, by kernel_rfl⟩
  | 8, _ => ⟨_, rfl, by kernel_rfl⟩
  | 9, _ => ⟨_, rfl, by kernel_rfl⟩
  | 10, _ => ⟨_, rfl, by kernel_rfl⟩
  | 11, _ => ⟨_, rfl, by kernel_rfl⟩
  | 12, _ => ⟨_, rfl, by kernel_rfl⟩
  | 13, _ => ⟨_, rfl, by kernel_rfl⟩
  | n + 14, h => by omega
theorem errs_of {w : World} {ads : List Addr} (e1 : ads.length = lst14.length) (e2 : ads.Nodup) (e3 : ∀ (i : Nat) x a g, lst14[i]? = some x → ads[i]? = some a → Tryd.prog.globalNamed x.1 = some g → SentAt w g a) :
    Errs w (fun i => ads.getD i ⟨0, 0, none⟩) := by
  have hl : ads.length = 14 := e1
  have H : ∀ i, (h : i < 14) → SentAt w (gnum i) (ads.getD i ⟨0, 0, none⟩) := fun i hi => by
    obtain ⟨x, hx, hg⟩ := lst14_at i hi
    have ha : ads[i]? = some (ads.getD i ⟨0, 0, none⟩) := by simp [List.getElem?_eq_getElem (show i < ads.length by omega)]
    exact e3 i x _ _ hx ha hg
  refine ⟨fun i hi => (H i hi).1, fun i j hi hj h => ?_, fun i hi => (H i hi).2.1, ?_⟩
  · have h1 : i < ads.length := by omega
    have h2 : j < ads.length := by omega
    simp [h1, h2] at h
    exact (List.getElem_inj e2).1 h
  · have := cell_lt (H 13 (by decide)).1
    exact this
def FirstPost (w : World) (e : Ending) (w' : World) : Prop := e = .returned (.bool true) ∧ Below w.heap.size w w'
set_option maxRecDepth 100000 in
set_option maxHeartbeats 1000000 in
theorem first_any (ak ai as_ : Addr) (w : World) (h : E3 w ak ai as_) : Calls Tryd.prog 8 #[] w (FirstPost w) := by
  have HE := Lib.hid h
  have hbig := h.hg
  clear h
  go_enter Tryd.func8, Tryd.ntmps8
  go_wp2_with fail
  have HB0 : Hid (Below w.heap.size w (w.alloc (Obj.cells #[.int .i64 3, .int .i64 1, .int .i64 0, .int .i64 0, .int .i64 3, .int .i64 3, .int .i64 2, .int .i64 33] 26))) := Lib.hid ((Below.refl _ _).alloc (Nat.le_refl _) _)
  have HE0 := Lib.hid (HE.out.below HB0.out)
  refine (print_ok _ 2 _ [⟨3, 1, 0, 0⟩, ⟨3, 3, 2, 33⟩] ak ai as_ _ (by exact reads_newS _ _ _ _ _ _ rfl rfl) rfl (by decide) HE0.out.hg HE0.out.hk HE0.out.hi HE0.out.hs first_may).mono ?_
  rintro e w1 ⟨A, c, rfl, hr1, hb1⟩
  rw [first_prn] at hr1 ⊢
  have HR1 := Lib.hid hr1
  have HB1 : Hid (Below w.heap.size w w1) := Lib.hid (HB0.out.trans (hb1.mono (by simp)))
  clear hr1 hb1 HB0 HE0
  go_wp2_with fail
  refine (unpack_any 33 _).mono ?_
  rintro e w2 ⟨rfl, hb2⟩
  rw [first_un]
  have HR2 : Hid (Reads w2 w2.heap.size 1 A 6 ([3, 1, 0, 3, 2, 33].map bv)) := Lib.hid ((HR1.out.below hb2).more hb2.size)
  have HB2 : Hid (Below w.heap.size w w2) := Lib.hid (HB1.out.trans (hb2.mono HB1.out.size))
  clear hb2
  go_wp2_with fail
  have HB3 : Hid (Below w.heap.size w ((w2.alloc (Obj.cells #[.bool true, .bool false, .bool false, .bool false, .bool false, .int .i64 2] 47)).alloc (Obj.cells #[.int .u8 3, .int .u8 1, .int .u8 0, .int .u8 3, .int .u8 2, .int .u8 33] 5))) := Lib.hid ((HB2.out.alloc HB2.out.size _).alloc (by have := HB2.out.size; simp; omega) _)
  have HK3 : Hid (Blk ((w2.alloc (Obj.cells #[.bool true, .bool false, .bool false, .bool false, .bool false, .int .i64 2] 47)).alloc (Obj.cells #[.int .u8 3, .int .u8 1, .int .u8 0, .int .u8 3, .int .u8 2, .int .u8 33] 5)) w2.heap.size 47 #[.bool true, .bool false, .bool false, .bool false, .bool false, .int .i64 2]) := Lib.hid ((Blk.new _ _ _).alloc _)
  refine (same_any A _ 6 6 c 6 [3, 1, 0, 3, 2, 33] [3, 1, 0, 3, 2, 33] _ (by exact ((HR2.out.alloc (Nat.le_refl _) _).alloc (by simp) _).more (by simp; omega)) (by exact reads_newA _ _ _ _ _ _ _ (by simp) rfl rfl) (by decide)).mono ?_
  rintro e w3 ⟨rfl, hb3⟩
  rw [show sameB [3, 1, 0, 3, 2, 33] [3, 1, 0, 3, 2, 33] = true by decide]
  have HB4 : Hid (Below w.heap.size w w3) := Lib.hid (HB3.out.trans (hb3.mono HB3.out.size))
  have hk := HK3.out.below hb3 HK3.out.lt
  clear hb3 HK3 HB3
  have c0 : w3.cell? ⟨w2.heap.size, 0, none⟩ = some (.bool true) := hk.cell 0
  have c1 : w3.cell? ⟨w2.heap.size, 1, none⟩ = some (.bool false) := hk.cell 1
  have c2 : w3.cell? ⟨w2.heap.size, 2, none⟩ = some (.bool false) := hk.cell 2
  have c3 : w3.cell? ⟨w2.heap.size, 3, none⟩ = some (.bool false) := hk.cell 3
  have c4 : w3.cell? ⟨w2.heap.size, 4, none⟩ = some (.bool false) := hk.cell 4
  have c5 : w3.cell? ⟨w2.heap.size, 5, none⟩ = some (.int .i64 2) := hk.cell 5
  clear hk
  go_wp2_with fail
  refine (pack_any true false false false false 2 _).mono ?_
  rintro e w4 ⟨rfl, hb4⟩
  rw [first_pk]
  go_wp2
  go_ret
  exact ⟨rfl, HB4.out.trans (hb4.mono HB4.out.size)⟩
end Go.Proofs.YtomabogjoampnaaDoor
