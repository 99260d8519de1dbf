/- CodecConsts, the card: for every input the call returns true and each argument reads afterwards as it read before; no further conditions. -/
import Derived.Test.YtnojejplckhifaaDoorConsts0
import Derived.Test.YtnojejplckhifaaDoorDoor4
import Derived.Test.YtnojejplckhifaaDoorCards
import Derived.Test.YtnojejplckhifaaDoorTie
namespace Go.Proofs.YtnojejplckhifaaDoor.codecConsts
open Go.RowKit Go.ChangeShapes Go.WideShapes Go.ChangeAt
set_option linter.unusedVariables false

theorem own : ownKnob Tryd.prog.godebug = none := by kernel_rfl
theorem kids : Kids Tryd.prog (· < Tryd.prog.types.size) := kids_rows (by kernel_rfl) (by kernel_rfl)
theorem full : ∀ t e, t < Tryd.prog.types.size → Tryd.prog.underlying t = some (.slice e) → 0 < Tryd.prog.cellsOf e := slices_full_of Tryd.prog (by kernel_rfl)

set_option maxRecDepth 100000 in
set_option maxHeartbeats 80000000 in
theorem walk (w : World) (ad : Nat → Addr) (hE : Errs w ad) (A0 : Option Addr) (n0 c0 : Nat) (z0 : List Int) (hc0 : n0 ≤ c0) (hn0 : c0 ≤ maxLen) (hl0 : z0.length = n0) (hr0 : Reads w w.heap.size 1 A0 n0 (z0.map (Value.int .i64))) (hw0 : ∀ z ∈ z0, (Lit.int .i64 z).wf = true) :
    Calls Tryd.prog 6 #[.slice A0 n0 c0] w fun e w' => e = .returned (.bool true) ∧ Below w.heap.size w w' := by
  have HR := Lib.hid hr0
  have HL := Lib.hid hl0
  have HZ : Hid (∀ n ∈ z0, I64 n) := Lib.hid (fun n hn => i64_wf (hw0 n hn))
  have HE := Lib.hid hE
  clear hw0 hr0 hl0 hE
  by_cases hn : 40 < n0
  · have t1 : decide ((40 : Int) < (n0 : Int)) = true := by simp; omega
    go_enter Tryd.func6, Tryd.ntmps6
    go_wp2_with fail
    refine (first_any ad _ HE.out).mono ?_
    rintro e w1 ⟨rfl, hb1⟩
    go_wp2
    go_ret
    exact ⟨rfl, hb1⟩
  have t1 : decide ((40 : Int) < (n0 : Int)) = false := by simp; omega
  obtain ⟨i0, hi0, hz0, hz1, hz2⟩ := info_parts instr_info
  go_enter Tryd.func6, Tryd.ntmps6
  go_wp2_with fail
  refine (first_any ad _ HE.out).mono ?_
  rintro e w1 ⟨rfl, hb1⟩
  have HB1 := Lib.hid hb1
  clear hb1
  go_wp2_with fail
  obtain ⟨W3, hW3⟩ : ∃ W, W = (w1.alloc (.cells #[.string ⟨#[]⟩, .string ⟨#[]⟩, .string ⟨#[]⟩, .slice none 0 0] 54)).alloc (.cells #[.slice none 0 0, .slice (some ⟨w1.heap.size, 0, none⟩) 1 1] 25) := ⟨_, rfl⟩
  have HC3 : Hid (CS w W3 (w1.heap.size + 1) w1.heap.size (.slice none 0 0) []) := Lib.hid (by
    have hs := HB1.out.size
    rw [hW3]
    refine ⟨?_, (Blk.new _ _ _).alloc _, World.ownsRow_nil _ _ _ _, (HB1.out.alloc hs _).alloc (by simp; omega) _, by omega, hs⟩
    have := Blk.new (w1.alloc (.cells #[.string ⟨#[]⟩, .string ⟨#[]⟩, .string ⟨#[]⟩, .slice none 0 0] 54)) 25 #[.slice none 0 0, .slice (some ⟨w1.heap.size, 0, none⟩) 1 1]
    simpa using this)
  rw [← hW3]
  clear hW3
  obtain ⟨gp, hgp⟩ : ∃ g, g = w1.heap.size + 1 := ⟨_, rfl⟩
  obtain ⟨gm, hgm⟩ : ∃ g, g = w1.heap.size := ⟨_, rfl⟩
  rw [← hgp, ← hgm] at HC3
  rw [← hgp]
  clear hgp hgm
  go_loopw [5, 6] (fun sn si wr => CoRel w z0 gp gm sn si wr) (fun _ si _ => n0 - (intOf si).toNat)
  case atStart => exact ⟨0, 9, _, Nat.zero_le _, rfl, rfl, rfl, HC3.out⟩
  case round =>
    clear HC3
    obtain ⟨k, c, v, hk, hc, rfl, rfl, hcs⟩ := hrel
    have HCC := Lib.hid hc
    have HCS := Lib.hid hcs
    have hcl : c ≤ 450 := by
      have h1 := conN_le (z0.take k)
      have h2 : (z0.take k).length ≤ 40 := by rw [List.length_take]; have := HL.out; omega
      omega
    have HBR : Hid (Below w.heap.size w wr) := Lib.hid hcs.bw
    clear hc hcs
    by_cases hlt : k < n0
    · have hlt' : (k : Int) < (n0 : Int) := by omega
      have hk0 : (0 : Int) ≤ (k : Int) := by omega
      obtain ⟨y, hy⟩ : ∃ y, z0[k]? = some y := ⟨_, List.getElem?_eq_getElem (by have := HL.out; omega)⟩
      obtain ⟨A, u, hA, hAb, hu, hcell0⟩ := HR.out.at_ (k := k) hlt
      rw [List.getElem?_map, hy] at hu
      obtain rfl : Value.int .i64 y = u := by simpa using hu
      subst hA
      have hcell : wr.cell? (A.add k) = some (.int .i64 y) := (HBR.out.cell (by rw [block_of_add]; exact hAb)).trans hcell0
      have hI := HZ.out y (List.mem_of_getElem? hy)
      have hzu := zig_u64 y hI
      obtain ⟨x, hx⟩ := Int.eq_ofNat_of_zero_le hzu.1
      have HX := Lib.hid hx
      have HU : Hid (U64 x) := Lib.hid (by have := hzu.2; rw [hx] at this; simpa using this)
      have HI := Lib.hid hI
      have HY := Lib.hid hy
      obtain ⟨m, hm⟩ : ∃ m, m = (enc x).length := ⟨_, rfl⟩
      have hm10 : m ≤ 10 := by rw [hm]; exact enc_len x
      have HM := Lib.hid hm
      obtain ⟨xs, hxs⟩ : ∃ xs, xs = (z0.take k).map cI := ⟨_, rfl⟩
      have hxl : xs.length = k := by rw [hxs, List.length_map, List.length_take]; have := HL.out; omega
      rw [← hxs] at HCS
      have HXS := Lib.hid hxs
      have HXL := Lib.hid hxl
      have p1 : wr.cell? ⟨gp, 1, none⟩ = some (.slice (some ⟨gm, 0, none⟩) 1 1) := HCS.out.bp.cell 1
      have m3 : wr.cell? ⟨gm, 3, none⟩ = some v := HCS.out.bm.cell 3
      have f3 := HCS.out.bm.frozen 3
      have gpl := HCS.out.bp.lt
      have gml := HCS.out.bm.lt
      have HCD : Hid (CS w wr.drew gp gm v xs) := Lib.hid (HCS.out.next ((Below.refl _ _).drew))
      have HOW : Hid (wr.drew.ownsRow w.heap.size 56 4 v k (insL xs)) := Lib.hid (by have := HCD.out.own; rw [HXL.out] at this; exact this)
      have hwl : w.heap.size ≤ wr.heap.size := HBR.out.size
      clear hu hI hzu hx hy hm hxs hxl
      go_upto_region 9 with fail
      go_cut [] from 29 to 44 (fun wx => CoCut w gp gm (xs ++ [cI y]) wx)
      case first =>
        as_aux_lemma =>
          go_wp2_with fail
          have HCA : Hid (∀ o, CS w (wr.drew.alloc o) gp gm v xs) := Lib.hid (fun o => HCD.out.next ((Below.refl _ _).alloc (Nat.le_refl _) o))
          have HSA : Hid (∀ o, (fun w' => w'.cell? ⟨gp, 1, none⟩ = some (.slice (some ⟨gm, 0, none⟩) 1 1) ∧ w'.cell? (A.add k) = some (.int .i64 y) ∧ gp < w'.heap.size ∧ gm < w'.heap.size) (wr.drew.alloc o)) := Lib.hid (fun o => ⟨(HCA.out o).bp.cell 1, ((HCA.out o).bw.cell (p := A.add k) (by rw [block_of_add]; exact hAb)).trans hcell0, (HCA.out o).bp.lt, (HCA.out o).bm.lt⟩)
          have HSD : Hid ((fun w' => w'.cell? ⟨gp, 1, none⟩ = some (.slice (some ⟨gm, 0, none⟩) 1 1) ∧ w'.cell? (A.add k) = some (.int .i64 y) ∧ gp < w'.heap.size ∧ gm < w'.heap.size) wr.drew) := Lib.hid ⟨HCD.out.bp.cell 1, (HCD.out.bw.cell (p := A.add k) (by rw [block_of_add]; exact hAb)).trans hcell0, HCD.out.bp.lt, HCD.out.bm.lt⟩
          refine wp_region_held_drew (S := fun w' => w'.cell? ⟨gp, 1, none⟩ = some (.slice (some ⟨gm, 0, none⟩) 1 1) ∧ w'.cell? (A.add k) = some (.int .i64 y) ∧ gp < w'.heap.size ∧ gm < w'.heap.size) (by kernel_rfl) (HSD.out) (fun hHeld => ?_)
          refine wpAnyH_take (i := 0) (oi := ({ dst := some 29, op := Op.fieldAddr 25 (Operand.tmp 4) 1, type := 0, pos := "more.go:21", after := #[], guard := none } : Oper)) (v := ?_) rfl (by kernel_rfl) (by kernel_rfl) (by kernel_rfl) (fun _ _ _ h => h) (Or.inl ⟨by rfl, ?_⟩) (by assumption) ?_
          rotate_left
          · intro w hSw
            try dsimp only at hSw
            go_simp
            try with_reducible rfl
          simp only [Act.put, List.setIfInBounds_toArray, List.set_cons_zero, List.set_cons_succ]
          refine wpAnyH_take (i := 1) (oi := ({ dst := some 30, op := Op.load 23 (Operand.tmp 29), type := 23, pos := "more.go:21", after := #[{ on := 0, ground := Ground.data }], guard := none } : Oper)) (v := ?_) rfl (by kernel_rfl) (by kernel_rfl) (by kernel_rfl) (fun _ _ _ h => h) (Or.inl ⟨by rfl, ?_⟩) (by assumption) ?_
          rotate_left
          · intro w hSw
            try dsimp only at hSw
            go_simp
            try with_reducible rfl
          simp only [Act.put, List.setIfInBounds_toArray, List.set_cons_zero, List.set_cons_succ]
          refine wpAnyH_take (i := 2) (oi := ({ dst := some 31, op := Op.fieldAddr 25 (Operand.tmp 4) 1, type := 0, pos := "more.go:21", after := #[], guard := none } : Oper)) (v := ?_) rfl (by kernel_rfl) (by kernel_rfl) (by kernel_rfl) (fun _ _ _ h => h) (Or.inl ⟨by rfl, ?_⟩) (by assumption) ?_
          rotate_left
          · intro w hSw
            try dsimp only at hSw
            go_simp
            try with_reducible rfl
          simp only [Act.put, List.setIfInBounds_toArray, List.set_cons_zero, List.set_cons_succ]
          refine wpAnyH_take (i := 3) (oi := ({ dst := some 32, op := Op.load 23 (Operand.tmp 31), type := 23, pos := "more.go:21", after := #[{ on := 2, ground := Ground.data }], guard := none } : Oper)) (v := ?_) rfl (by kernel_rfl) (by kernel_rfl) (by kernel_rfl) (fun _ _ _ h => h) (Or.inl ⟨by rfl, ?_⟩) (by assumption) ?_
          rotate_left
          · intro w hSw
            try dsimp only at hSw
            go_simp
            try with_reducible rfl
          simp only [Act.put, List.setIfInBounds_toArray, List.set_cons_zero, List.set_cons_succ]
          refine wpAnyH_take (i := 4) (oi := ({ dst := some 33, op := Op.indexAddr 23 (Operand.tmp 32) (Operand.const (Value.int IntKind.i64 0)), type := 0, pos := "more.go:21", after := #[{ on := 3, ground := Ground.data }], guard := none } : Oper)) (v := ?_) rfl (by kernel_rfl) (by kernel_rfl) (by kernel_rfl) (fun _ _ _ h => h) (Or.inl ⟨by rfl, ?_⟩) (by assumption) ?_
          rotate_left
          · intro w hSw
            try dsimp only at hSw
            go_simp
            try with_reducible rfl
          simp only [Act.put, List.setIfInBounds_toArray, List.set_cons_zero, List.set_cons_succ]
          refine wpAnyH_take (i := 5) (oi := ({ dst := some 34, op := Op.fieldAddr 54 (Operand.tmp 33) 3, type := 0, pos := "more.go:21", after := #[{ on := 4, ground := Ground.data }], guard := none } : Oper)) (v := ?_) rfl (by kernel_rfl) (by kernel_rfl) (by kernel_rfl) (fun _ _ _ h => h) (Or.inl ⟨by rfl, ?_⟩) (by assumption) ?_
          rotate_left
          · intro w hSw
            try dsimp only at hSw
            go_simp
            try with_reducible rfl
          simp only [Act.put, List.setIfInBounds_toArray, List.set_cons_zero, List.set_cons_succ]
          refine wpAnyH_take (i := 7) (oi := ({ dst := some 36, op := Op.move (Operand.tmp 0), type := 51, pos := "more.go:21", after := #[], guard := none } : Oper)) (v := ?_) rfl (by kernel_rfl) (by kernel_rfl) (by kernel_rfl) (fun _ _ _ h => h) (Or.inl ⟨by rfl, ?_⟩) (by assumption) ?_
          rotate_left
          · intro w hSw
            try dsimp only at hSw
            go_simp
            try with_reducible rfl
          simp only [Act.put, List.setIfInBounds_toArray, List.set_cons_zero, List.set_cons_succ]
          refine wpAnyH_take (i := 8) (oi := ({ dst := some 37, op := Op.move (Operand.tmp 6), type := 3, pos := "more.go:21", after := #[], guard := none } : Oper)) (v := ?_) rfl (by kernel_rfl) (by kernel_rfl) (by kernel_rfl) (fun _ _ _ h => h) (Or.inl ⟨by rfl, ?_⟩) (by assumption) ?_
          rotate_left
          · intro w hSw
            try dsimp only at hSw
            go_simp
            try with_reducible rfl
          simp only [Act.put, List.setIfInBounds_toArray, List.set_cons_zero, List.set_cons_succ]
          refine wpAnyH_take (i := 9) (oi := ({ dst := some 38, op := Op.indexAddr 51 (Operand.tmp 36) (Operand.tmp 37), type := 0, pos := "more.go:21", after := #[{ on := 7, ground := Ground.data }, { on := 8, ground := Ground.data }], guard := none } : Oper)) (v := ?_) rfl (by kernel_rfl) (by kernel_rfl) (by kernel_rfl) (fun _ _ _ h => h) (Or.inl ⟨by rfl, ?_⟩) (by assumption) ?_
          rotate_left
          · intro w hSw
            try dsimp only at hSw
            go_simp
            try with_reducible rfl
          simp only [Act.put, List.setIfInBounds_toArray, List.set_cons_zero, List.set_cons_succ]
          refine wpAnyH_take (i := 10) (oi := ({ dst := some 39, op := Op.load 2 (Operand.tmp 38), type := 2, pos := "more.go:21", after := #[{ on := 9, ground := Ground.data }], guard := none } : Oper)) (v := ?_) rfl (by kernel_rfl) (by kernel_rfl) (by kernel_rfl) (fun _ _ _ h => h) (Or.inl ⟨by rfl, ?_⟩) (by assumption) ?_
          rotate_left
          · intro w hSw
            try dsimp only at hSw
            go_simp
            try with_reducible rfl
          simp only [Act.put, List.setIfInBounds_toArray, List.set_cons_zero, List.set_cons_succ]
          refine wpAnyH_take (i := 11) (oi := ({ dst := some 40, op := Op.build 56 #[(0, Operand.const (Value.int IntKind.i64 1)), (3, Operand.tmp 39)], type := 56, pos := "more.go:21", after := #[{ on := 10, ground := Ground.data }], guard := none } : Oper)) (v := ?_) rfl (by kernel_rfl) (by kernel_rfl) (by kernel_rfl) (fun _ _ _ h => h) (Or.inl ⟨by rfl, ?_⟩) (by assumption) ?_
          rotate_left
          · intro w hSw
            try dsimp only at hSw
            go_simp
            try with_reducible rfl
          simp only [Act.put, List.setIfInBounds_toArray, List.set_cons_zero, List.set_cons_succ]
          refine wpAnyH_ready (rs := [6, 12]) (by kernel_rfl) (by simp) ?_
          refine AllReadyH.cons (o := ({ dst := some 35, op := Op.load 52 (Operand.tmp 34), type := 52, pos := "more.go:21", after := #[{ on := 5, ground := Ground.data }], guard := none } : Oper)) rfl (fun K hK => ?_) (AllReadyH.cons (o := ({ dst := some 41, op := Op.buildSlice 52 1 #[(0, Operand.tmp 40)], type := 52, pos := "more.go:21", after := #[{ on := 11, ground := Ground.data }], guard := none } : Oper)) rfl (fun K hK => ?_) AllReadyH.nil)
          · go_simp
            refine hK.out _ _ (HSD.out) (fun hHeld1 => ?_)
            clear hK K
            try simp only [Act.put, List.setIfInBounds_toArray, List.set_cons_zero, List.set_cons_succ]
            refine wpAnyH_ready (rs := [12]) (by kernel_rfl) (by simp) ?_
            refine AllReadyH.cons (o := ({ dst := some 41, op := Op.buildSlice 52 1 #[(0, Operand.tmp 40)], type := 52, pos := "more.go:21", after := #[{ on := 11, ground := Ground.data }], guard := none } : Oper)) rfl (fun K hK => ?_) AllReadyH.nil
            go_simp
            refine hK.out _ _ (HSA.out _) (fun hHeld2 => ?_)
            clear hK K
            try simp only [Act.put, List.setIfInBounds_toArray, List.set_cons_zero, List.set_cons_succ]
            refine wpAnyH_ready (rs := [13]) (by kernel_rfl) (by simp) ?_
            refine AllReadyH.cons (o := ({ dst := some 42, op := Op.call { callee := Callee.builtin Builtin.append, args := #[Operand.tmp 35, Operand.tmp 41], argTypes := #[52, 52] }, type := 52, pos := "more.go:21", after := #[{ on := 6, ground := Ground.data }, { on := 12, ground := Ground.data }], guard := none } : Oper)) rfl (fun K hK => ?_) AllReadyH.nil
            refine step_append_any _ (by rfl) (.tmp 35) (.tmp 41) _ (by rfl) w.heap.size 56 i0 _ 4 32 Tryd.underlying52 hi0 hz0 hz1 hz2 rfl (by omega) v k (insL xs) (by rfl) (by exact own_below HOW.out ((Below.refl _ _).alloc (Nat.le_refl _) _)) _ (some ⟨wr.heap.size, 0, none⟩) 1 1 (insC (cI y)) (by rfl) (by exact reads_newS _ _ _ 4 1 _ rfl rfl) (insC_one' _) (by unfold maxLen; omega) (by omega) (by simp; omega) ?_
            intro v2 w8 hown2 hg2 hat2
            obtain ⟨A2, c2, hv2, hrr2⟩ := own_reads hown2
            clear hrr2 hat2
            subst hv2
            have HX8 : Hid (Blk w8 gm 54 #[.string ⟨#[]⟩, .string ⟨#[]⟩, .string ⟨#[]⟩, v]) := Lib.hid ((HCD.out.bm.alloc _).grown hg2 (fun e => own_blk_ne HCD.out.own HCD.out.bm (by decide) e.symm))
            have hc8 : w8.cell? ⟨gm, 3, none⟩ = some v := HX8.out.cell 3
            have hf8 := HX8.out.frozen 3
            have hl8 : gm < w8.heap.size := HX8.out.lt
            have HG8 : Hid (Blk w8 gp 25 #[.slice none 0 0, .slice (some ⟨gm, 0, none⟩) 1 1]) := Lib.hid ((HCD.out.bp.alloc _).grown hg2 (fun e => own_blk_ne HCD.out.own HCD.out.bp (by decide) e.symm))
            have HBW8 : Hid (Below w.heap.size w w8) := Lib.hid (((HCA.out _).bw).grown hg2 (by simp; omega) (fun j hj => own_ge HCD.out.own hj))
            have HNX : Hid (CS w (w8.setCell ⟨gm, 3, none⟩ (.slice A2 (k + 1) c2)) gp gm (.slice A2 (k + 1) c2) (xs ++ [cI y])) := Lib.hid ((HCD.out.next ((Below.refl _ _).alloc (Nat.le_refl _) _)).app (cI y) (by rw [HXL.out]; exact hown2) hg2)
            clear hown2 hg2
            refine hK.out _ _ ⟨HG8.out.cell 1, (HBW8.out.cell (p := A.add k) (by rw [block_of_add]; exact hAb)).trans hcell0, HG8.out.lt, hl8⟩ (fun hHeld3 => ?_)
            clear hK K
            try simp only [Act.put, List.setIfInBounds_toArray, List.set_cons_zero, List.set_cons_succ]
            refine wpAnyH_take (i := 14) (oi := ({ dst := some 43, op := Op.indexAddr 23 (Operand.tmp 30) (Operand.const (Value.int IntKind.i64 0)), type := 0, pos := "more.go:21", after := #[{ on := 1, ground := Ground.data }, { on := 0, ground := Ground.phase }, { on := 1, ground := Ground.phase }, { on := 2, ground := Ground.phase }, { on := 3, ground := Ground.phase }, { on := 4, ground := Ground.phase }, { on := 5, ground := Ground.phase }, { on := 6, ground := Ground.phase }, { on := 7, ground := Ground.phase }, { on := 8, ground := Ground.phase }, { on := 9, ground := Ground.phase }, { on := 10, ground := Ground.phase }, { on := 11, ground := Ground.phase }, { on := 12, ground := Ground.phase }, { on := 13, ground := Ground.phase }], guard := none } : Oper)) (v := ?_) rfl (by kernel_rfl) (by kernel_rfl) (by kernel_rfl) (fun _ _ _ h => h) (Or.inl ⟨by rfl, ?_⟩) (by assumption) ?_
            rotate_left
            · intro w hSw
              try dsimp only at hSw
              go_simp
              try with_reducible rfl
            simp only [Act.put, List.setIfInBounds_toArray, List.set_cons_zero, List.set_cons_succ]
            refine wpAnyH_take (i := 15) (oi := ({ dst := some 44, op := Op.fieldAddr 54 (Operand.tmp 43) 3, type := 0, pos := "more.go:21", after := #[{ on := 14, ground := Ground.data }, { on := 0, ground := Ground.phase }, { on := 1, ground := Ground.phase }, { on := 2, ground := Ground.phase }, { on := 3, ground := Ground.phase }, { on := 4, ground := Ground.phase }, { on := 5, ground := Ground.phase }, { on := 6, ground := Ground.phase }, { on := 7, ground := Ground.phase }, { on := 8, ground := Ground.phase }, { on := 9, ground := Ground.phase }, { on := 10, ground := Ground.phase }, { on := 11, ground := Ground.phase }, { on := 12, ground := Ground.phase }, { on := 13, ground := Ground.phase }], guard := none } : Oper)) (v := ?_) rfl (by kernel_rfl) (by kernel_rfl) (by kernel_rfl) (fun _ _ _ h => h) (Or.inl ⟨by rfl, ?_⟩) (by assumption) ?_
            rotate_left
            · intro w hSw
              try dsimp only at hSw
              go_simp
              try with_reducible rfl
            simp only [Act.put, List.setIfInBounds_toArray, List.set_cons_zero, List.set_cons_succ]
            refine wpAnyH_ready (rs := [16]) (by kernel_rfl) (by simp) ?_
            refine AllReadyH.cons (o := ({ dst := none, op := Op.store 52 (Operand.tmp 44) (Operand.tmp 42), type := 0, pos := "more.go:21", after := #[{ on := 15, ground := Ground.data }, { on := 13, ground := Ground.data }, { on := 13, ground := Ground.chain }, { on := 0, ground := Ground.phase }, { on := 1, ground := Ground.phase }, { on := 2, ground := Ground.phase }, { on := 3, ground := Ground.phase }, { on := 4, ground := Ground.phase }, { on := 5, ground := Ground.phase }, { on := 6, ground := Ground.phase }, { on := 7, ground := Ground.phase }, { on := 8, ground := Ground.phase }, { on := 9, ground := Ground.phase }, { on := 10, ground := Ground.phase }, { on := 11, ground := Ground.phase }, { on := 12, ground := Ground.phase }, { on := 13, ground := Ground.phase }], guard := none } : Oper)) rfl (fun K hK => ?_) AllReadyH.nil
            go_simp
            refine hK.out _ _ ⟨HNX.out.bp.cell 1, (HNX.out.bw.cell (p := A.add k) (by rw [block_of_add]; exact hAb)).trans hcell0, HNX.out.bp.lt, HNX.out.bm.lt⟩ (fun hHeld4 => ?_)
            clear hK K
            refine wpAnyH_done (by kernel_rfl) ?_ _
            go_wp2_with fail
            go_meet
            case rel => exact ⟨_, HNX.out⟩
          · go_simp
            refine hK.out _ _ (HSA.out _) (fun hHeld1 => ?_)
            clear hK K
            try simp only [Act.put, List.setIfInBounds_toArray, List.set_cons_zero, List.set_cons_succ]
            refine wpAnyH_ready (rs := [6]) (by kernel_rfl) (by simp) ?_
            refine AllReadyH.cons (o := ({ dst := some 35, op := Op.load 52 (Operand.tmp 34), type := 52, pos := "more.go:21", after := #[{ on := 5, ground := Ground.data }], guard := none } : Oper)) rfl (fun K hK => ?_) AllReadyH.nil
            go_simp
            refine hK.out _ _ (HSA.out _) (fun hHeld2 => ?_)
            clear hK K
            try simp only [Act.put, List.setIfInBounds_toArray, List.set_cons_zero, List.set_cons_succ]
            refine wpAnyH_ready (rs := [13]) (by kernel_rfl) (by simp) ?_
            refine AllReadyH.cons (o := ({ dst := some 42, op := Op.call { callee := Callee.builtin Builtin.append, args := #[Operand.tmp 35, Operand.tmp 41], argTypes := #[52, 52] }, type := 52, pos := "more.go:21", after := #[{ on := 6, ground := Ground.data }, { on := 12, ground := Ground.data }], guard := none } : Oper)) rfl (fun K hK => ?_) AllReadyH.nil
            refine step_append_any _ (by rfl) (.tmp 35) (.tmp 41) _ (by rfl) w.heap.size 56 i0 _ 4 32 Tryd.underlying52 hi0 hz0 hz1 hz2 rfl (by omega) v k (insL xs) (by rfl) (by exact own_below HOW.out ((Below.refl _ _).alloc (Nat.le_refl _) _)) _ (some ⟨wr.heap.size, 0, none⟩) 1 1 (insC (cI y)) (by rfl) (by exact reads_newS _ _ _ 4 1 _ rfl rfl) (insC_one' _) (by unfold maxLen; omega) (by omega) (by simp; omega) ?_
            intro v2 w8 hown2 hg2 hat2
            obtain ⟨A2, c2, hv2, hrr2⟩ := own_reads hown2
            clear hrr2 hat2
            subst hv2
            have HX8 : Hid (Blk w8 gm 54 #[.string ⟨#[]⟩, .string ⟨#[]⟩, .string ⟨#[]⟩, v]) := Lib.hid ((HCD.out.bm.alloc _).grown hg2 (fun e => own_blk_ne HCD.out.own HCD.out.bm (by decide) e.symm))
            have hc8 : w8.cell? ⟨gm, 3, none⟩ = some v := HX8.out.cell 3
            have hf8 := HX8.out.frozen 3
            have hl8 : gm < w8.heap.size := HX8.out.lt
            have HG8 : Hid (Blk w8 gp 25 #[.slice none 0 0, .slice (some ⟨gm, 0, none⟩) 1 1]) := Lib.hid ((HCD.out.bp.alloc _).grown hg2 (fun e => own_blk_ne HCD.out.own HCD.out.bp (by decide) e.symm))
            have HBW8 : Hid (Below w.heap.size w w8) := Lib.hid (((HCA.out _).bw).grown hg2 (by simp; omega) (fun j hj => own_ge HCD.out.own hj))
            have HNX : Hid (CS w (w8.setCell ⟨gm, 3, none⟩ (.slice A2 (k + 1) c2)) gp gm (.slice A2 (k + 1) c2) (xs ++ [cI y])) := Lib.hid ((HCD.out.next ((Below.refl _ _).alloc (Nat.le_refl _) _)).app (cI y) (by rw [HXL.out]; exact hown2) hg2)
            clear hown2 hg2
            refine hK.out _ _ ⟨HG8.out.cell 1, (HBW8.out.cell (p := A.add k) (by rw [block_of_add]; exact hAb)).trans hcell0, HG8.out.lt, hl8⟩ (fun hHeld3 => ?_)
            clear hK K
            try simp only [Act.put, List.setIfInBounds_toArray, List.set_cons_zero, List.set_cons_succ]
            refine wpAnyH_take (i := 14) (oi := ({ dst := some 43, op := Op.indexAddr 23 (Operand.tmp 30) (Operand.const (Value.int IntKind.i64 0)), type := 0, pos := "more.go:21", after := #[{ on := 1, ground := Ground.data }, { on := 0, ground := Ground.phase }, { on := 1, ground := Ground.phase }, { on := 2, ground := Ground.phase }, { on := 3, ground := Ground.phase }, { on := 4, ground := Ground.phase }, { on := 5, ground := Ground.phase }, { on := 6, ground := Ground.phase }, { on := 7, ground := Ground.phase }, { on := 8, ground := Ground.phase }, { on := 9, ground := Ground.phase }, { on := 10, ground := Ground.phase }, { on := 11, ground := Ground.phase }, { on := 12, ground := Ground.phase }, { on := 13, ground := Ground.phase }], guard := none } : Oper)) (v := ?_) rfl (by kernel_rfl) (by kernel_rfl) (by kernel_rfl) (fun _ _ _ h => h) (Or.inl ⟨by rfl, ?_⟩) (by assumption) ?_
            rotate_left
            · intro w hSw
              try dsimp only at hSw
              go_simp
              try with_reducible rfl
            simp only [Act.put, List.setIfInBounds_toArray, List.set_cons_zero, List.set_cons_succ]
            refine wpAnyH_take (i := 15) (oi := ({ dst := some 44, op := Op.fieldAddr 54 (Operand.tmp 43) 3, type := 0, pos := "more.go:21", after := #[{ on := 14, ground := Ground.data }, { on := 0, ground := Ground.phase }, { on := 1, ground := Ground.phase }, { on := 2, ground := Ground.phase }, { on := 3, ground := Ground.phase }, { on := 4, ground := Ground.phase }, { on := 5, ground := Ground.phase }, { on := 6, ground := Ground.phase }, { on := 7, ground := Ground.phase }, { on := 8, ground := Ground.phase }, { on := 9, ground := Ground.phase }, { on := 10, ground := Ground.phase }, { on := 11, ground := Ground.phase }, { on := 12, ground := Ground.phase }, { on := 13, ground := Ground.phase }], guard := none } : Oper)) (v := ?_) rfl (by kernel_rfl) (by kernel_rfl) (by kernel_rfl) (fun _ _ _ h => h) (Or.inl ⟨by rfl, ?_⟩) (by assumption) ?_
            rotate_left
            · intro w hSw
              try dsimp only at hSw
              go_simp
              try with_reducible rfl
            simp only [Act.put, List.setIfInBounds_toArray, List.set_cons_zero, List.set_cons_succ]
            refine wpAnyH_ready (rs := [16]) (by kernel_rfl) (by simp) ?_
            refine AllReadyH.cons (o := ({ dst := none, op := Op.store 52 (Operand.tmp 44) (Operand.tmp 42), type := 0, pos := "more.go:21", after := #[{ on := 15, ground := Ground.data }, { on := 13, ground := Ground.data }, { on := 13, ground := Ground.chain }, { on := 0, ground := Ground.phase }, { on := 1, ground := Ground.phase }, { on := 2, ground := Ground.phase }, { on := 3, ground := Ground.phase }, { on := 4, ground := Ground.phase }, { on := 5, ground := Ground.phase }, { on := 6, ground := Ground.phase }, { on := 7, ground := Ground.phase }, { on := 8, ground := Ground.phase }, { on := 9, ground := Ground.phase }, { on := 10, ground := Ground.phase }, { on := 11, ground := Ground.phase }, { on := 12, ground := Ground.phase }, { on := 13, ground := Ground.phase }], guard := none } : Oper)) rfl (fun K hK => ?_) AllReadyH.nil
            go_simp
            refine hK.out _ _ ⟨HNX.out.bp.cell 1, (HNX.out.bw.cell (p := A.add k) (by rw [block_of_add]; exact hAb)).trans hcell0, HNX.out.bp.lt, HNX.out.bm.lt⟩ (fun hHeld4 => ?_)
            clear hK K
            refine wpAnyH_done (by kernel_rfl) ?_ _
            go_wp2_with fail
            go_meet
            case rel => exact ⟨_, HNX.out⟩
      case rest =>
        as_aux_lemma =>
          obtain ⟨v3, hcs3⟩ := hcut
          have HC3 := Lib.hid hcs3
          have HB3 : Hid (Below w.heap.size w wc) := Lib.hid hcs3.bw
          have hcell3 : wc.cell? (A.add k) = some (.int .i64 y) := (HB3.out.cell (by rw [block_of_add]; exact hAb)).trans hcell0
          have hA3 : A.block < wc.heap.size := Nat.lt_of_lt_of_le hAb HB3.out.size
          clear hcs3 p1 m3 f3 gpl gml HCD HOW hcell hcell0 hwl
          go_wp2_with fail
          refine (rzig_any y HI.out _).mono ?_
          rintro e w4 ⟨rfl, rfl⟩
          go_wp2_with fail
          refine (rput_is x _ HX.out _ HU.out).mono ?_
          rintro e w5 ⟨A5, c5, rfl, hown5, hr5, hb5⟩
          rw [← HM.out]
          have HC5 := Lib.hid (HC3.out.next hb5)
          clear hown5 hr5 hb5 hcell3 hA3
          have hcm : c + 1 + m = 9 + conN (z0.take (k + 1)) := by
            rw [List.take_add_one, HY.out]
            have := conN_snoc (z0.take k) y
            simp only [Option.toList_some]
            rw [this, HX.out, Int.toNat_natCast, HCC.out, HM.out]
            omega
          have HCM := Lib.hid hcm
          have HXX : Hid (xs ++ [cI y] = (z0.take (k + 1)).map cI) := Lib.hid (by rw [List.take_add_one, HY.out, HXS.out]; simp)
          clear hcm
          go_wp2
          go_roundw
          case rel => exact ⟨k + 1, c + 1 + m, v3, by have := HL.out; omega, HCM.out, by go_num, by go_num, by rw [← HXX.out]; exact HC5.out⟩
          case measure => simp [intOf]; omega
    · have t3 : decide ((k : Int) < (n0 : Int)) = false := by simp; omega
      have t4 : decide (k < n0) = false := by simp; omega
      obtain ⟨xs, hxs⟩ : ∃ xs, xs = (z0.take k).map cI := ⟨_, rfl⟩
      have hxl : xs.length = k := by rw [hxs, List.length_map, List.length_take]; have := HL.out; omega
      rw [← hxs] at HCS
      have htk : z0.take k = z0 := List.take_of_length_le (by have := HL.out; omega)
      have HXR : Hid (xs ++ [retI] = (conM z0).code) := Lib.hid (by rw [hxs, htk]; rfl)
      have hz40 : z0.length ≤ 40 := by have := HL.out; omega
      have HN4 : Hid ((encP (conP z0)).length = c + 1) := Lib.hid (by rw [con_len z0 hz40, HCC.out, htk])
      have HXL := Lib.hid hxl
      have p1 : wr.cell? ⟨gp, 1, none⟩ = some (.slice (some ⟨gm, 0, none⟩) 1 1) := HCS.out.bp.cell 1
      have m3 : wr.cell? ⟨gm, 3, none⟩ = some v := HCS.out.bm.cell 3
      have f3 := HCS.out.bm.frozen 3
      have gpl := HCS.out.bp.lt
      have gml := HCS.out.bm.lt
      have HCD : Hid (CS w wr.drew gp gm v xs) := Lib.hid (HCS.out.next ((Below.refl _ _).drew))
      have HOW : Hid (wr.drew.ownsRow w.heap.size 56 4 v k (insL xs)) := Lib.hid (by have := HCD.out.own; rw [HXL.out] at this; exact this)
      have hwl : w.heap.size ≤ wr.heap.size := HBR.out.size
      clear hxs hxl htk
      go_upto_region 11 with fail
      go_cut [] from 55 to 66 (fun wx => CoCut w gp gm (xs ++ [retI]) wx)
      case first =>
        as_aux_lemma =>
          go_wp2_with fail
          have HCA : Hid (∀ o, CS w (wr.drew.alloc o) gp gm v xs) := Lib.hid (fun o => HCD.out.next ((Below.refl _ _).alloc (Nat.le_refl _) o))
          have HSA : Hid (∀ o, (fun w' => w'.cell? ⟨gp, 1, none⟩ = some (.slice (some ⟨gm, 0, none⟩) 1 1) ∧ gp < w'.heap.size ∧ gm < w'.heap.size) (wr.drew.alloc o)) := Lib.hid (fun o => ⟨(HCA.out o).bp.cell 1, (HCA.out o).bp.lt, (HCA.out o).bm.lt⟩)
          have HSD : Hid ((fun w' => w'.cell? ⟨gp, 1, none⟩ = some (.slice (some ⟨gm, 0, none⟩) 1 1) ∧ gp < w'.heap.size ∧ gm < w'.heap.size) wr.drew) := Lib.hid ⟨HCD.out.bp.cell 1, HCD.out.bp.lt, HCD.out.bm.lt⟩
          refine wp_region_held_drew (S := fun w' => w'.cell? ⟨gp, 1, none⟩ = some (.slice (some ⟨gm, 0, none⟩) 1 1) ∧ gp < w'.heap.size ∧ gm < w'.heap.size) (by kernel_rfl) (HSD.out) (fun hHeld => ?_)
          refine wpAnyH_take (i := 0) (oi := ({ dst := some 55, op := Op.fieldAddr 25 (Operand.tmp 4) 1, type := 0, pos := "more.go:24", after := #[], guard := none } : Oper)) (v := ?_) rfl (by kernel_rfl) (by kernel_rfl) (by kernel_rfl) (fun _ _ _ h => h) (Or.inl ⟨by rfl, ?_⟩) (by assumption) ?_
          rotate_left
          · intro w hSw
            try dsimp only at hSw
            go_simp
            try with_reducible rfl
          simp only [Act.put, List.setIfInBounds_toArray, List.set_cons_zero, List.set_cons_succ]
          refine wpAnyH_take (i := 1) (oi := ({ dst := some 56, op := Op.load 23 (Operand.tmp 55), type := 23, pos := "more.go:24", after := #[{ on := 0, ground := Ground.data }], guard := none } : Oper)) (v := ?_) rfl (by kernel_rfl) (by kernel_rfl) (by kernel_rfl) (fun _ _ _ h => h) (Or.inl ⟨by rfl, ?_⟩) (by assumption) ?_
          rotate_left
          · intro w hSw
            try dsimp only at hSw
            go_simp
            try with_reducible rfl
          simp only [Act.put, List.setIfInBounds_toArray, List.set_cons_zero, List.set_cons_succ]
          refine wpAnyH_take (i := 2) (oi := ({ dst := some 57, op := Op.fieldAddr 25 (Operand.tmp 4) 1, type := 0, pos := "more.go:24", after := #[], guard := none } : Oper)) (v := ?_) rfl (by kernel_rfl) (by kernel_rfl) (by kernel_rfl) (fun _ _ _ h => h) (Or.inl ⟨by rfl, ?_⟩) (by assumption) ?_
          rotate_left
          · intro w hSw
            try dsimp only at hSw
            go_simp
            try with_reducible rfl
          simp only [Act.put, List.setIfInBounds_toArray, List.set_cons_zero, List.set_cons_succ]
          refine wpAnyH_take (i := 3) (oi := ({ dst := some 58, op := Op.load 23 (Operand.tmp 57), type := 23, pos := "more.go:24", after := #[{ on := 2, ground := Ground.data }], guard := none } : Oper)) (v := ?_) rfl (by kernel_rfl) (by kernel_rfl) (by kernel_rfl) (fun _ _ _ h => h) (Or.inl ⟨by rfl, ?_⟩) (by assumption) ?_
          rotate_left
          · intro w hSw
            try dsimp only at hSw
            go_simp
            try with_reducible rfl
          simp only [Act.put, List.setIfInBounds_toArray, List.set_cons_zero, List.set_cons_succ]
          refine wpAnyH_take (i := 4) (oi := ({ dst := some 59, op := Op.indexAddr 23 (Operand.tmp 58) (Operand.const (Value.int IntKind.i64 0)), type := 0, pos := "more.go:24", after := #[{ on := 3, ground := Ground.data }], guard := none } : Oper)) (v := ?_) rfl (by kernel_rfl) (by kernel_rfl) (by kernel_rfl) (fun _ _ _ h => h) (Or.inl ⟨by rfl, ?_⟩) (by assumption) ?_
          rotate_left
          · intro w hSw
            try dsimp only at hSw
            go_simp
            try with_reducible rfl
          simp only [Act.put, List.setIfInBounds_toArray, List.set_cons_zero, List.set_cons_succ]
          refine wpAnyH_take (i := 5) (oi := ({ dst := some 60, op := Op.fieldAddr 54 (Operand.tmp 59) 3, type := 0, pos := "more.go:24", after := #[{ on := 4, ground := Ground.data }], guard := none } : Oper)) (v := ?_) rfl (by kernel_rfl) (by kernel_rfl) (by kernel_rfl) (fun _ _ _ h => h) (Or.inl ⟨by rfl, ?_⟩) (by assumption) ?_
          rotate_left
          · intro w hSw
            try dsimp only at hSw
            go_simp
            try with_reducible rfl
          simp only [Act.put, List.setIfInBounds_toArray, List.set_cons_zero, List.set_cons_succ]
          refine wpAnyH_take (i := 7) (oi := ({ dst := some 62, op := Op.build 56 #[(0, Operand.const (Value.int IntKind.i64 33))], type := 56, pos := "more.go:24", after := #[], guard := none } : Oper)) (v := ?_) rfl (by kernel_rfl) (by kernel_rfl) (by kernel_rfl) (fun _ _ _ h => h) (Or.inl ⟨by rfl, ?_⟩) (by assumption) ?_
          rotate_left
          · intro w hSw
            try dsimp only at hSw
            go_simp
            try with_reducible rfl
          simp only [Act.put, List.setIfInBounds_toArray, List.set_cons_zero, List.set_cons_succ]
          refine wpAnyH_ready (rs := [6, 8]) (by kernel_rfl) (by simp) ?_
          refine AllReadyH.cons (o := ({ dst := some 61, op := Op.load 52 (Operand.tmp 60), type := 52, pos := "more.go:24", after := #[{ on := 5, ground := Ground.data }], guard := none } : Oper)) rfl (fun K hK => ?_) (AllReadyH.cons (o := ({ dst := some 63, op := Op.buildSlice 52 1 #[(0, Operand.tmp 62)], type := 52, pos := "more.go:24", after := #[{ on := 7, ground := Ground.data }], guard := none } : Oper)) rfl (fun K hK => ?_) AllReadyH.nil)
          · go_simp
            refine hK.out _ _ (HSD.out) (fun hHeld1 => ?_)
            clear hK K
            try simp only [Act.put, List.setIfInBounds_toArray, List.set_cons_zero, List.set_cons_succ]
            refine wpAnyH_ready (rs := [8]) (by kernel_rfl) (by simp) ?_
            refine AllReadyH.cons (o := ({ dst := some 63, op := Op.buildSlice 52 1 #[(0, Operand.tmp 62)], type := 52, pos := "more.go:24", after := #[{ on := 7, ground := Ground.data }], guard := none } : Oper)) rfl (fun K hK => ?_) AllReadyH.nil
            go_simp
            refine hK.out _ _ (HSA.out _) (fun hHeld2 => ?_)
            clear hK K
            try simp only [Act.put, List.setIfInBounds_toArray, List.set_cons_zero, List.set_cons_succ]
            refine wpAnyH_ready (rs := [9]) (by kernel_rfl) (by simp) ?_
            refine AllReadyH.cons (o := ({ dst := some 64, op := Op.call { callee := Callee.builtin Builtin.append, args := #[Operand.tmp 61, Operand.tmp 63], argTypes := #[52, 52] }, type := 52, pos := "more.go:24", after := #[{ on := 6, ground := Ground.data }, { on := 8, ground := Ground.data }], guard := none } : Oper)) rfl (fun K hK => ?_) AllReadyH.nil
            refine step_append_any _ (by rfl) (.tmp 61) (.tmp 63) _ (by rfl) w.heap.size 56 i0 _ 4 32 Tryd.underlying52 hi0 hz0 hz1 hz2 rfl (by omega) v k (insL xs) (by rfl) (by exact own_below HOW.out ((Below.refl _ _).alloc (Nat.le_refl _) _)) _ (some ⟨wr.heap.size, 0, none⟩) 1 1 (insC retI) (by rfl) (by exact reads_newS _ _ _ 4 1 _ rfl rfl) (insC_one' _) (by unfold maxLen; omega) (by omega) (by simp; omega) ?_
            intro v2 w8 hown2 hg2 hat2
            obtain ⟨A2, c2, hv2, hrr2⟩ := own_reads hown2
            clear hrr2 hat2
            subst hv2
            have HX8 : Hid (Blk w8 gm 54 #[.string ⟨#[]⟩, .string ⟨#[]⟩, .string ⟨#[]⟩, v]) := Lib.hid ((HCD.out.bm.alloc _).grown hg2 (fun e => own_blk_ne HCD.out.own HCD.out.bm (by decide) e.symm))
            have hc8 : w8.cell? ⟨gm, 3, none⟩ = some v := HX8.out.cell 3
            have hf8 := HX8.out.frozen 3
            have hl8 : gm < w8.heap.size := HX8.out.lt
            have HG8 : Hid (Blk w8 gp 25 #[.slice none 0 0, .slice (some ⟨gm, 0, none⟩) 1 1]) := Lib.hid ((HCD.out.bp.alloc _).grown hg2 (fun e => own_blk_ne HCD.out.own HCD.out.bp (by decide) e.symm))
            have HBW8 : Hid (Below w.heap.size w w8) := Lib.hid (((HCA.out _).bw).grown hg2 (by simp; omega) (fun j hj => own_ge HCD.out.own hj))
            have HNX : Hid (CS w (w8.setCell ⟨gm, 3, none⟩ (.slice A2 (k + 1) c2)) gp gm (.slice A2 (k + 1) c2) (xs ++ [retI])) := Lib.hid ((HCD.out.next ((Below.refl _ _).alloc (Nat.le_refl _) _)).app retI (by rw [HXL.out]; exact hown2) hg2)
            clear hown2 hg2
            refine hK.out _ _ ⟨HG8.out.cell 1, HG8.out.lt, hl8⟩ (fun hHeld3 => ?_)
            clear hK K
            try simp only [Act.put, List.setIfInBounds_toArray, List.set_cons_zero, List.set_cons_succ]
            refine wpAnyH_take (i := 10) (oi := ({ dst := some 65, op := Op.indexAddr 23 (Operand.tmp 56) (Operand.const (Value.int IntKind.i64 0)), type := 0, pos := "more.go:24", after := #[{ on := 1, ground := Ground.data }, { on := 0, ground := Ground.phase }, { on := 1, ground := Ground.phase }, { on := 2, ground := Ground.phase }, { on := 3, ground := Ground.phase }, { on := 4, ground := Ground.phase }, { on := 5, ground := Ground.phase }, { on := 6, ground := Ground.phase }, { on := 7, ground := Ground.phase }, { on := 8, ground := Ground.phase }, { on := 9, ground := Ground.phase }], guard := none } : Oper)) (v := ?_) rfl (by kernel_rfl) (by kernel_rfl) (by kernel_rfl) (fun _ _ _ h => h) (Or.inl ⟨by rfl, ?_⟩) (by assumption) ?_
            rotate_left
            · intro w hSw
              try dsimp only at hSw
              go_simp
              try with_reducible rfl
            simp only [Act.put, List.setIfInBounds_toArray, List.set_cons_zero, List.set_cons_succ]
            refine wpAnyH_take (i := 11) (oi := ({ dst := some 66, op := Op.fieldAddr 54 (Operand.tmp 65) 3, type := 0, pos := "more.go:24", after := #[{ on := 10, ground := Ground.data }, { on := 0, ground := Ground.phase }, { on := 1, ground := Ground.phase }, { on := 2, ground := Ground.phase }, { on := 3, ground := Ground.phase }, { on := 4, ground := Ground.phase }, { on := 5, ground := Ground.phase }, { on := 6, ground := Ground.phase }, { on := 7, ground := Ground.phase }, { on := 8, ground := Ground.phase }, { on := 9, ground := Ground.phase }], guard := none } : Oper)) (v := ?_) rfl (by kernel_rfl) (by kernel_rfl) (by kernel_rfl) (fun _ _ _ h => h) (Or.inl ⟨by rfl, ?_⟩) (by assumption) ?_
            rotate_left
            · intro w hSw
              try dsimp only at hSw
              go_simp
              try with_reducible rfl
            simp only [Act.put, List.setIfInBounds_toArray, List.set_cons_zero, List.set_cons_succ]
            refine wpAnyH_ready (rs := [12]) (by kernel_rfl) (by simp) ?_
            refine AllReadyH.cons (o := ({ dst := none, op := Op.store 52 (Operand.tmp 66) (Operand.tmp 64), type := 0, pos := "more.go:24", after := #[{ on := 11, ground := Ground.data }, { on := 9, ground := Ground.data }, { on := 9, ground := Ground.chain }, { on := 0, ground := Ground.phase }, { on := 1, ground := Ground.phase }, { on := 2, ground := Ground.phase }, { on := 3, ground := Ground.phase }, { on := 4, ground := Ground.phase }, { on := 5, ground := Ground.phase }, { on := 6, ground := Ground.phase }, { on := 7, ground := Ground.phase }, { on := 8, ground := Ground.phase }, { on := 9, ground := Ground.phase }], guard := none } : Oper)) rfl (fun K hK => ?_) AllReadyH.nil
            go_simp
            refine hK.out _ _ ⟨HNX.out.bp.cell 1, HNX.out.bp.lt, HNX.out.bm.lt⟩ (fun hHeld4 => ?_)
            clear hK K
            refine wpAnyH_done (by kernel_rfl) ?_ _
            go_wp2_with fail
            go_meet
            case rel => exact ⟨_, HNX.out⟩
          · go_simp
            refine hK.out _ _ (HSA.out _) (fun hHeld1 => ?_)
            clear hK K
            try simp only [Act.put, List.setIfInBounds_toArray, List.set_cons_zero, List.set_cons_succ]
            refine wpAnyH_ready (rs := [6]) (by kernel_rfl) (by simp) ?_
            refine AllReadyH.cons (o := ({ dst := some 61, op := Op.load 52 (Operand.tmp 60), type := 52, pos := "more.go:24", after := #[{ on := 5, ground := Ground.data }], guard := none } : Oper)) rfl (fun K hK => ?_) AllReadyH.nil
            go_simp
            refine hK.out _ _ (HSA.out _) (fun hHeld2 => ?_)
            clear hK K
            try simp only [Act.put, List.setIfInBounds_toArray, List.set_cons_zero, List.set_cons_succ]
            refine wpAnyH_ready (rs := [9]) (by kernel_rfl) (by simp) ?_
            refine AllReadyH.cons (o := ({ dst := some 64, op := Op.call { callee := Callee.builtin Builtin.append, args := #[Operand.tmp 61, Operand.tmp 63], argTypes := #[52, 52] }, type := 52, pos := "more.go:24", after := #[{ on := 6, ground := Ground.data }, { on := 8, ground := Ground.data }], guard := none } : Oper)) rfl (fun K hK => ?_) AllReadyH.nil
            refine step_append_any _ (by rfl) (.tmp 61) (.tmp 63) _ (by rfl) w.heap.size 56 i0 _ 4 32 Tryd.underlying52 hi0 hz0 hz1 hz2 rfl (by omega) v k (insL xs) (by rfl) (by exact own_below HOW.out ((Below.refl _ _).alloc (Nat.le_refl _) _)) _ (some ⟨wr.heap.size, 0, none⟩) 1 1 (insC retI) (by rfl) (by exact reads_newS _ _ _ 4 1 _ rfl rfl) (insC_one' _) (by unfold maxLen; omega) (by omega) (by simp; omega) ?_
            intro v2 w8 hown2 hg2 hat2
            obtain ⟨A2, c2, hv2, hrr2⟩ := own_reads hown2
            clear hrr2 hat2
            subst hv2
            have HX8 : Hid (Blk w8 gm 54 #[.string ⟨#[]⟩, .string ⟨#[]⟩, .string ⟨#[]⟩, v]) := Lib.hid ((HCD.out.bm.alloc _).grown hg2 (fun e => own_blk_ne HCD.out.own HCD.out.bm (by decide) e.symm))
            have hc8 : w8.cell? ⟨gm, 3, none⟩ = some v := HX8.out.cell 3
            have hf8 := HX8.out.frozen 3
            have hl8 : gm < w8.heap.size := HX8.out.lt
            have HG8 : Hid (Blk w8 gp 25 #[.slice none 0 0, .slice (some ⟨gm, 0, none⟩) 1 1]) := Lib.hid ((HCD.out.bp.alloc _).grown hg2 (fun e => own_blk_ne HCD.out.own HCD.out.bp (by decide) e.symm))
            have HBW8 : Hid (Below w.heap.size w w8) := Lib.hid (((HCA.out _).bw).grown hg2 (by simp; omega) (fun j hj => own_ge HCD.out.own hj))
            have HNX : Hid (CS w (w8.setCell ⟨gm, 3, none⟩ (.slice A2 (k + 1) c2)) gp gm (.slice A2 (k + 1) c2) (xs ++ [retI])) := Lib.hid ((HCD.out.next ((Below.refl _ _).alloc (Nat.le_refl _) _)).app retI (by rw [HXL.out]; exact hown2) hg2)
            clear hown2 hg2
            refine hK.out _ _ ⟨HG8.out.cell 1, HG8.out.lt, hl8⟩ (fun hHeld3 => ?_)
            clear hK K
            try simp only [Act.put, List.setIfInBounds_toArray, List.set_cons_zero, List.set_cons_succ]
            refine wpAnyH_take (i := 10) (oi := ({ dst := some 65, op := Op.indexAddr 23 (Operand.tmp 56) (Operand.const (Value.int IntKind.i64 0)), type := 0, pos := "more.go:24", after := #[{ on := 1, ground := Ground.data }, { on := 0, ground := Ground.phase }, { on := 1, ground := Ground.phase }, { on := 2, ground := Ground.phase }, { on := 3, ground := Ground.phase }, { on := 4, ground := Ground.phase }, { on := 5, ground := Ground.phase }, { on := 6, ground := Ground.phase }, { on := 7, ground := Ground.phase }, { on := 8, ground := Ground.phase }, { on := 9, ground := Ground.phase }], guard := none } : Oper)) (v := ?_) rfl (by kernel_rfl) (by kernel_rfl) (by kernel_rfl) (fun _ _ _ h => h) (Or.inl ⟨by rfl, ?_⟩) (by assumption) ?_
            rotate_left
            · intro w hSw
              try dsimp only at hSw
              go_simp
              try with_reducible rfl
            simp only [Act.put, List.setIfInBounds_toArray, List.set_cons_zero, List.set_cons_succ]
            refine wpAnyH_take (i := 11) (oi := ({ dst := some 66, op := Op.fieldAddr 54 (Operand.tmp 65) 3, type := 0, pos := "more.go:24", after := #[{ on := 10, ground := Ground.data }, { on := 0, ground := Ground.phase }, { on := 1, ground := Ground.phase }, { on := 2, ground := Ground.phase }, { on := 3, ground := Ground.phase }, { on := 4, ground := Ground.phase }, { on := 5, ground := Ground.phase }, { on := 6, ground := Ground.phase }, { on := 7, ground := Ground.phase }, { on := 8, ground := Ground.phase }, { on := 9, ground := Ground.phase }], guard := none } : Oper)) (v := ?_) rfl (by kernel_rfl) (by kernel_rfl) (by kernel_rfl) (fun _ _ _ h => h) (Or.inl ⟨by rfl, ?_⟩) (by assumption) ?_
            rotate_left
            · intro w hSw
              try dsimp only at hSw
              go_simp
              try with_reducible rfl
            simp only [Act.put, List.setIfInBounds_toArray, List.set_cons_zero, List.set_cons_succ]
            refine wpAnyH_ready (rs := [12]) (by kernel_rfl) (by simp) ?_
            refine AllReadyH.cons (o := ({ dst := none, op := Op.store 52 (Operand.tmp 66) (Operand.tmp 64), type := 0, pos := "more.go:24", after := #[{ on := 11, ground := Ground.data }, { on := 9, ground := Ground.data }, { on := 9, ground := Ground.chain }, { on := 0, ground := Ground.phase }, { on := 1, ground := Ground.phase }, { on := 2, ground := Ground.phase }, { on := 3, ground := Ground.phase }, { on := 4, ground := Ground.phase }, { on := 5, ground := Ground.phase }, { on := 6, ground := Ground.phase }, { on := 7, ground := Ground.phase }, { on := 8, ground := Ground.phase }, { on := 9, ground := Ground.phase }], guard := none } : Oper)) rfl (fun K hK => ?_) AllReadyH.nil
            go_simp
            refine hK.out _ _ ⟨HNX.out.bp.cell 1, HNX.out.bp.lt, HNX.out.bm.lt⟩ (fun hHeld4 => ?_)
            clear hK K
            refine wpAnyH_done (by kernel_rfl) ?_ _
            go_wp2_with fail
            go_meet
            case rel => exact ⟨_, HNX.out⟩
      case rest =>
        as_aux_lemma =>
          obtain ⟨v3, hcs3⟩ := hcut
          rw [HXR.out] at hcs3
          obtain ⟨A3, c3, hv3, hpat⟩ := hcs3.pat
          have HB3 : Hid (Below w.heap.size w wc) := Lib.hid hcs3.bw
          have HPAT : Hid (PAt wc wc.heap.size ⟨[], none, 0, [⟨conM z0, A3, c3⟩], some ⟨gm, 0, none⟩, 1⟩) := Lib.hid hpat
          have HBP : Hid (Blk wc gp 25 #[.slice none 0 0, .slice (some ⟨gm, 0, none⟩) 1 1]) := Lib.hid hcs3.bp
          have q0 : wc.cell? ⟨gp, 0, none⟩ = some (.slice none 0 0) := hcs3.bp.cell 0
          have q1 : wc.cell? ⟨gp, 1, none⟩ = some (.slice (some ⟨gm, 0, none⟩) 1 1) := hcs3.bp.cell 1
          have gpl3 := hcs3.bp.lt
          have HZ4 := Lib.hid hz40
          clear hcs3 hv3 hpat p1 m3 f3 gpl gml HCD HOW hwl HCS hz40
          go_wp2_with fail
          refine (encode_is ⟨[], none, 0, [⟨conM z0, A3, c3⟩], some ⟨gm, 0, none⟩, 1⟩ _ rfl _ (con_encO z0 HZ4.out) ad _ (HE.out.below HB3.out) HPAT.out (by simp) (Nat.zero_le _) (show 1 ≤ maxLen by decide) (fun x hx => by obtain rfl := List.mem_singleton.1 hx; exact con_max z0 HZ4.out) (fun x hx => by obtain rfl := List.mem_singleton.1 hx; exact (show 0 + 0 ≤ maxLen by decide)) (fun m hm => by obtain rfl := List.mem_singleton.1 hm; exact con_num z0 HZ.out)).mono ?_
          rintro e w4 he
          obtain ⟨hb4, A4, c4, rfl, hown4⟩ := epost_some he
          obtain ⟨N4, hN4⟩ : ∃ N, N = (encP (conP z0)).length := ⟨_, rfl⟩
          rw [← hN4] at hown4 ⊢
          have HNC : Hid (N4 = c + 1) := Lib.hid (hN4.trans HN4.out)
          have HR4 : Hid (Reads w4 w4.heap.size 1 A4 N4 ((encP (conP z0)).map bv)) := Lib.hid (Reads.of_own hown4)
          have HCAP := Lib.hid (own_cap hown4)
          have HB4 : Hid (Below w.heap.size w w4) := Lib.hid (HB3.out.trans (hb4.mono HB3.out.size))
          have HPAT4 := Lib.hid (HPAT.out.next hb4)
          have HBP4 := Lib.hid (HBP.out.below hb4 HBP.out.lt)
          have t5 : ((N4 : Int) == (c : Int) + 1) = true := by have := HNC.out; simp; omega
          have hwc : IntKind.i64.wrap ((c : Int) + 1) = (c : Int) + 1 := IntWalk.i64_in _ (by omega)
          clear he hb4 hown4 hN4 q0 q1 gpl3
          as_aux_lemma =>
            go_wp2_with fail
            refine (decode_is A4 N4 c4 (encP (conP z0)) _ (con_dec z0 HZ4.out HZ.out) ad _ HR4.out (encP_lt _ (con_ok z0 HZ4.out HZ.out)) HCAP.out.1 HCAP.out.2 (HE.out.below HB4.out)).mono ?_
            rintro e w5 he
            obtain ⟨hb5, q, hq, rfl, hpat5⟩ := dpost_some he
            have HB5 : Hid (Below w.heap.size w w5) := Lib.hid (HB4.out.trans (hb5.mono HB4.out.size))
            have HPAT5 := Lib.hid (HPAT4.out.next hb5)
            have HBP5 := Lib.hid (HBP4.out.below hb5 HBP4.out.lt)
            have HQ := Lib.hid hq
            have HPQ := Lib.hid hpat5
            have y0 : w5.cell? ⟨gp, 0, none⟩ = some (.slice none 0 0) := HBP5.out.cell 0
            have y1 : w5.cell? ⟨gp, 1, none⟩ = some (.slice (some ⟨gm, 0, none⟩) 1 1) := HBP5.out.cell 1
            have gpl5 := HBP5.out.lt
            unfold PV.val
            have HBA : Hid (∀ o, Below w5.heap.size w5 (w5.alloc o)) := Lib.hid (fun o => (Below.refl _ _).alloc (Nat.le_refl _) o)
            clear he hb5 hq hpat5
            as_aux_lemma =>
              go_wp2_with fail
              refine (sameProg_is ⟨[], none, 0, [⟨conM z0, A3, c3⟩], some ⟨gm, 0, none⟩, 1⟩ q _ _ rfl rfl _ (HPAT5.out.next (HBA.out _)) (HPQ.out.next (HBA.out _)) (Nat.zero_le _) (show 1 ≤ 1099511627776 by decide) (fun x hx => by obtain rfl := List.mem_singleton.1 hx; have := (con_max z0 HZ4.out).2.2; simp [conM]; have := HZ4.out; omega) (fun x hx => by rw [one_ms HQ.out rfl x hx]; simp [conM]; have := HZ4.out; omega)).mono ?_
              rintro e w6 ⟨⟨b, rfl, hbb⟩, hb6⟩
              obtain rfl : b = true := hbb.2 (by rw [HQ.out]; rfl)
              have HB6 : Hid (Below w.heap.size w w6) := Lib.hid ((HB5.out.trans ((HBA.out _).mono HB5.out.size)).trans (hb6.mono (by have := HB5.out.size; simp; omega)))
              clear hbb hb6
              go_wp2
              go_ret
              exact ⟨rfl, HB6.out⟩

set_option maxRecDepth 100000 in
theorem contract (H : Type) (enc : TypeId × Value → H) (W : World) (base : Nat) (args : Array Value) (ds gs : List (DataW H)) (before : List MemPlace)
    (hval : ∀ (j : Nat) t v, Tryd.f6.params[j]? = some t → args[j]? = some v → Value.okWide Tryd.prog W .any base t v)
    (hW : DataW.Whole enc Tryd.prog Tryd.f6.params.toList Rows.codecConstsSpec.vars false W args.toList ds gs before) (hL : laidMetH Tryd.prog Rows.codecConstsRow.laid W) :
    Calls Tryd.prog 6 args W fun e W' => ∃ v, e = .returned v ∧ Rows.codecConstsSpec.post enc Tryd.prog Tryd.f6 false true false false W args v W' := by
  have hW' := hW
  obtain ⟨p, q, hA0, hV, rfl, hfz, hnd⟩ := hW
  have hA : DataW.TrodAll enc Tryd.prog W 0 (fun _ => true) true Tryd.f6.params.toList args.toList ds p := hA0
  rw [Tryd.params6] at hA hval
  obtain ⟨v0, vs0, d0, ds0, p0, q0, hargs, rfl, rfl, h0, r0⟩ := trodAll_cons hA
  obtain ⟨rfl, rfl, rfl⟩ := trodAll_nil r0
  obtain rfl : args = #[v0] := by cases args; simp_all
  obtain ⟨rfl, rfl⟩ := trodVars_none hV
  obtain ⟨A0, n0, c0, z0, rfl, hc0, hn0, hl0, hr0, hw0⟩ := open_row_ints Tryd.underlying51 Tryd.underlying2 (by kernel_rfl) (hval 0 51 v0 rfl rfl) h0
  clear hA0
  obtain ⟨ad, hE⟩ := codecConsts_errs hL
  refine (walk W ad hE A0 n0 c0 z0 hc0 hn0 hl0 hr0 hw0).mono fun e W' ⟨he, hg⟩ => ?_
  subst he
  exact ⟨_, rfl, post_law kids full (by rw [Tryd.params6]; decide +kernel) rfl hW' rfl rfl rfl hg (by kernel_rfl) Tryd.underlying4⟩

theorem reads (os : Os) {H : Type} (enc : TypeId × Value → H) : ∃ places, DataW.whole enc Tryd.prog ((laidWorld os).forCall (fun _ _ => 0) ⟨#[], #[.slice none 0 0], []⟩).memory Tryd.f6.params.toList Rows.codecConstsSpec.vars false #[.slice none 0 0].toList 8 = some ([.nil], [], places) :=
  ⟨[], by kernel_rfl⟩

set_option maxRecDepth 100000 in
theorem lifted (os : Os) (started : os.Started) (H : Type) (enc : TypeId × Value → H) (F : Stop.Interp) :
    ReturnsInHanded {} Tryd.checked os 6 .any ((OpenSpec.ofChange Rows.codecConstsSpec).preRow enc Tryd.prog Tryd.f6 Rows.codecConstsRow.domain false Rows.codecConstsRow.laid) (((OpenSpec.ofChange Rows.codecConstsSpec).at F).post enc Tryd.prog Tryd.f6 false true false false) := by
  obtain ⟨places, hx⟩ := reads os enc
  refine returnsInHanded_of_row (C := Tryd.checked) (s := OpenSpec.ofChange Rows.codecConstsSpec) own started (by kernel_rfl) Tryd.func6
    (witness_row_atRef (enc := enc) (C := Tryd.checked) false (laidWorld os) #[.slice none 0 0] rfl (by kernel_rfl) (by kernel_rfl) (by kernel_rfl)
      (OpenSpec.preRow_of_cond 8 hx (by kernel_rfl) (fun k hk => by cases hk) (by kernel_rfl) (codecConsts_met os _))) ?_
  intro W base args ds gs before hval hW _ _ _ hL _ _
  exact contract H enc W base args ds gs before hval hW hL

theorem said : Rows.CodecConstsSaid :=
  OpenClaim.holds_of_cond 6 Tryd.f6 rfl rfl rfl rfl rfl rfl rfl ⟨rfl, rfl, rfl, rfl, rfl⟩ rfl rfl rfl rfl rfl (by kernel_rfl) Tryd.func6 (by kernel_rfl)
    (of_decide_eq_true (by kernel_rfl)) (by unfold Func.isWrapper; first | (rw [if_pos (by decide +kernel)]; kernel_rfl) | (rw [if_neg (by decide +kernel)]; exact ⟨rfl, rfl⟩))
    (fun os started H enc _ F => by rw [OpenClaim.pre_eq_preRow]; exact lifted os started H enc F)

theorem plain (f : FuncId) (fn : Func) (hf : Tryd.pinned.checked.prog.funcNamed "overdrive/overdrivelaw4.CodecConsts" = some f) (hfn : Tryd.pinned.checked.prog.funcs[f]? = some fn) :
    true = Tryd.pinned.checked.prog.looks [] ∧ ∀ (j : Nat) t, fn.params[j]? = some t → Tryd.pinned.checked.prog.wantsStandIn t = false := by
  obtain rfl : f = 6 := Option.some.inj ((show Tryd.prog.funcNamed "overdrive/overdrivelaw4.CodecConsts" = some 6 by kernel_rfl).symm.trans hf) |>.symm
  obtain rfl : fn = Tryd.f6 := (Option.some.inj (Tryd.func6.symm.trans hfn)).symm
  refine ⟨by kernel_rfl, fun j t ht => ?_⟩
  have hm := Array.mem_of_getElem? ht
  have hall : (Tryd.f6.params.toList.all fun t => Tryd.prog.wantsStandIn t == false) = true := by kernel_rfl
  have hw : Tryd.prog.wantsStandIn t = false := by simpa using List.all_eq_true.1 hall t (by simpa using hm)
  exact hw

theorem card : Rows.CodecConstsCardSaid :=
  Claim7.holds_tied_plain_at .later [] _ _ _ _ said (fun _ h => by cases h) (by kernel_rfl) (fun _ h => by cases h) codecConsts_row_tie rfl ⟨rfl, rfl⟩ (by kernel_rfl) rfl plain (by kernel_rfl)
#print axioms card
end Go.Proofs.YtnojejplckhifaaDoor.codecConsts
