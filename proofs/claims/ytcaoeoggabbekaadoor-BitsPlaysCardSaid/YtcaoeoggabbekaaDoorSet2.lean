/- Sets of numbers: Len, Clone, slices.Equal, TrailingZeros64. -/
import Derived.Test.YtcaoeoggabbekaaDoorEls
import Derived.Test.YtcaoeoggabbekaaDoorSet1
import Derived.Test.YtcaoeoggabbekaaDoorSameI
namespace Go.Proofs.YtcaoeoggabbekaaDoor
open Go.RowKit
set_option linter.unusedVariables false
def LenRel (p : Nat → Bool) (L : Nat) (s3 s11 : Value) : Prop := ∃ k : Nat, k ≤ L ∧ s11 = .int .i64 (k : Int) ∧ s3 = .int .i64 ((els p (64 * k)).length : Int)
set_option maxRecDepth 100000 in
set_option maxHeartbeats 1000000 in
theorem len_any (b g n : Nat) (p : Nat → Bool) (w : World) (h : SetAt w b g n p) : Calls Tryd.prog 11 #[.pointer (some ⟨b, 0, none⟩)] w fun e w' => e = .returned (.int .i64 ((els p n).length : Int)) ∧ w = w' := by
  obtain ⟨A, c, ws, hB, hW, hF, hb, hg0, hn⟩ := h
  have h1 : w.cell? ⟨b, 1, none⟩ = some (.slice A ws.length c) := hB.cell 1
  have HW := Lib.hid hW
  have HF := Lib.hid hF
  have HE := Lib.hid (els_all hF)
  have HL : Hid (ws.length = (n + 63) / 64) := Lib.hid hF.len
  obtain ⟨L, hL⟩ : ∃ L, L = ws.length := ⟨_, rfl⟩
  have hL2 : L ≤ 16384 := by rw [hL, hF.len]; omega
  rw [← hL] at h1
  have HLL := Lib.hid hL
  clear hB hW hF hL
  go_enter Tryd.func11, Tryd.ntmps11
  go_wp2
  go_loop [3, 11] (fun s3 s11 => LenRel p L s3 s11) (fun _ s11 => L - (intOf s11).toNat)
  case atStart => exact ⟨0, Nat.zero_le _, rfl, by simp [els]⟩
  case round =>
    obtain ⟨k, hk, rfl, rfl⟩ := hrel
    have hel := els_len p (64 * k)
    by_cases hlt : k < L
    · obtain ⟨x, hx⟩ : ∃ x, ws[k]? = some x := ⟨_, List.getElem?_eq_getElem (by rw [← HLL.out]; exact hlt)⟩
      obtain ⟨rfl, cs, hg, hcs⟩ := HW.out.2 (fun e => by rw [e] at hx; simp at hx)
      have hc : w.cell? ⟨g, k, none⟩ = some (.int .u64 (x : Int)) := (hg.cell _).trans (hcs _ _ hx)
      have hxl := HF.out.small x (List.mem_of_getElem? hx)
      have hew := els_word HF.out hx
      have ho : Hid (popc x + (els p (64 * k)).length = (els p (64 * (k + 1))).length ∧ popc x ≤ 64) := Lib.hid (by
        rw [hew, List.length_append, List.length_map, popc_is x hxl, ones_els]
        exact ⟨by omega, els_len _ _⟩)
      have hp64 := ho.out.2
      have HC := Lib.hid (ones_any x hxl w)
      obtain ⟨E, hE⟩ : ∃ E, E = (els p (64 * k)).length := ⟨_, rfl⟩
      rw [← hE] at hel ⊢
      have HEE := Lib.hid hE
      clear hg hcs hew hx hxl hE
      go_wp2_with (go_at_call 27; refine HC.out.mono ?_; rintro e w2 ⟨rfl, rfl⟩)
      go_round
      case rel => exact ⟨k + 1, by omega, by go_num, by rw [← ho.out.1, ← HEE.out]; go_num⟩
      case measure => simp [intOf]; omega
    · obtain ⟨E, hE⟩ : ∃ E, E = (els p (64 * k)).length := ⟨_, rfl⟩
      rw [← hE] at hel ⊢
      have HEE := Lib.hid hE
      clear hE
      go_wp2
      go_ret
      exact ⟨ret_int (by rw [HEE.out, ← HE.out, ← HLL.out, show k = L by omega]), rfl⟩
theorem run_eql_slice_nil {P : Program} (w : World) (t e : TypeId) (a : Option Addr) (l c : Nat) (h : P.underlying t = some (.slice e)) : (binOp .eql t (.slice a l c) (.slice none 0 0)).run P w = .ok (.bool a.isNone) w := by
  simp only [binOp]
  simp [run_equal_slice_nil w t e a l c h]
def uv (x : Nat) : Value := .int .u64 (x : Int)
theorem uv_one (l : List Nat) : ∀ u ∈ l.map uv, u.oneCell' = true := by
  intro u hu
  obtain ⟨x, _, rfl⟩ := List.mem_map.1 hu
  rfl
theorem WordsAt.reads {w : World} {g : Nat} {A : Option Addr} {ws : List Nat} (h : WordsAt w g A ws) : Reads w w.heap.size 1 A ws.length (ws.map uv) := by
  refine ⟨by simp, fun hn => ?_⟩
  obtain ⟨rfl, cs, hg, hcs⟩ := h.2 (fun e => by rw [e] at hn; simp at hn)
  refine ⟨_, rfl, h.1, fun j u hu => ?_⟩
  rw [List.getElem?_map] at hu
  obtain ⟨x, hx, rfl⟩ := Option.map_eq_some_iff.1 hu
  have e : (⟨g, 0, none⟩ : Addr).add j = ⟨g, j, none⟩ := by unfold Addr.add; split <;> simp_all
  rw [e]
  exact (hg.cell j).trans (hcs j x hx)
def CloneWPost (w : World) (ws : List Nat) (e : Ending) (w' : World) : Prop :=
  ∃ A c, e = .returned (.slice A ws.length c) ∧ w'.ownsRow w.heap.size 48 1 (.slice A ws.length c) ws.length (ws.map uv) ∧ Below w.heap.size w w'
set_option maxRecDepth 100000 in
set_option maxHeartbeats 400000 in
theorem cloneW_any (A : Option Addr) (L c : Nat) (ws : List Nat) (w : World) (ha : Reads w w.heap.size 1 A L (ws.map uv)) (hL : L = ws.length) (hn : L ≤ 16384) :
    Calls Tryd.prog 29 #[.slice A L c] w (CloneWPost w ws) := by
  obtain ⟨i0, hi0, hz0, hz1, hz2⟩ := info_parts info_u64
  have HA := Lib.hid ha
  have HL := Lib.hid hL
  rcases A with _ | ad
  · have hn0 : L = 0 := by
      rcases Nat.eq_zero_or_pos L with h | h
      · exact h
      · obtain ⟨_, h, _⟩ := ha.2 h; cases h
    subst hn0
    have hl0 : ws = [] := List.eq_nil_of_length_eq_zero hL.symm
    subst hl0
    clear ha HA hL
    have hnil := fun w => run_eql_slice_nil (P := Tryd.prog) w 45 48 none 0 c Tryd.underlying45
    go_enter Tryd.func29, Tryd.ntmps29
    go_wp2
    go_ret
    exact ⟨none, 0, rfl, World.ownsRow_nil _ _ _ _, Below.refl _ _⟩
  · clear ha hL
    have hnil := fun w => run_eql_slice_nil (P := Tryd.prog) w 45 48 (some ad) L c Tryd.underlying45
    go_enter Tryd.func29, Tryd.ntmps29
    go_wp2_with (at_builtin
                 refine wpList_append_any _ rfl (.tmp 5) (.tmp 6) _ rfl w.heap.size 48 i0 _ 1 8 Tryd.underlying45 hi0 hz0 hz1 hz2 rfl (by omega) (.slice (some ⟨w.heap.size, 0, none⟩) 0 0) 0 [] rfl (by exact ⟨rfl, .inr ⟨_, 0, #[], rfl, Nat.le_refl _, Blk.new _ _ _, Nat.le_refl _, Nat.zero_le _, rfl, rfl⟩⟩) w.heap.size (some ad) L c (ws.map uv) rfl (by exact HA.out.alloc (Nat.le_refl _) _) (uv_one _) (by unfold maxLen; omega) (by omega) (by simp) ?_
                 intro v2 w2 hown2 hg2 hat2)
    go_ret
    rw [Nat.zero_add, List.nil_append] at hown2
    have hb2 : Below w.heap.size w w2 := ((Below.refl _ _).alloc (Nat.le_refl _) _).grown hg2 (by simp) (fun k hk => by simp [Value.ownBlock] at hk; omega)
    obtain ⟨A2, c2, rfl, _⟩ := own_reads hown2
    rw [HL.out] at hown2
    refine ⟨A2, c2, ?_, hown2, hb2⟩
    rw [HL.out]
    rfl
/-- what a row of one's own holds, as words -/
theorem words_of_own {w : World} {base b : Nat} {A : Option Addr} {ws : List Nat} {c : Nat} (h : w.ownsRow base 48 1 (.slice A ws.length c) ws.length (ws.map uv)) (hb : b < w.heap.size) (hbb : base ≤ b) : ∃ g, base ≤ g ∧ WordsAt w g A ws := by
  rcases h.2 with ⟨hv, hn⟩ | ⟨g, cap, cur, hv, hg, hh, _, _, hcs, ht⟩
  · exact ⟨b, hbb, hb, fun e => absurd (List.eq_nil_of_length_eq_zero hn) e⟩
  · refine ⟨g, hg, Blk.lt (t := 48) (cs := cur) hh, fun _ => ⟨by injection hv, cur, hh, fun j x hx => ?_⟩⟩
    have h1 : (ws.map uv)[j]? = some (uv x) := by rw [List.getElem?_map, hx]; rfl
    rw [← ht, List.getElem?_take] at h1
    split at h1
    · rw [← Array.getElem?_toList]; exact h1
    · cases h1
theorem WordsAt.below {w w' : World} {g : Nat} {A : Option Addr} {ws : List Nat} (h : WordsAt w g A ws) {B : Nat} (hb : Below B w w') (hg : g < B) (hB : B ≤ w.heap.size) : WordsAt w' g A ws :=
  ⟨by have := hb.size; have := h.1; omega, fun e => by obtain ⟨rfl, cs, h1, h2⟩ := h.2 e; exact ⟨rfl, cs, h1.below hb hg, h2⟩⟩
theorem WordsAt.alloc {w : World} {g : Nat} {A : Option Addr} {ws : List Nat} (h : WordsAt w g A ws) (o : Obj) : WordsAt (w.alloc o) g A ws :=
  ⟨by have := h.1; simp; omega, fun e => by obtain ⟨rfl, cs, h1, h2⟩ := h.2 e; exact ⟨rfl, cs, h1.alloc o, h2⟩⟩
theorem SetAt.below {w w' : World} {b g n : Nat} {p : Nat → Bool} (h : SetAt w b g n p) {B : Nat} (hb : Below B w w') (h1 : b < B) (h2 : g < B) (hB : B ≤ w.heap.size) : SetAt w' b g n p := by
  obtain ⟨A, c, ws, hB', hW, hF, hr⟩ := h
  exact ⟨A, c, ws, hB'.below hb h1, hW.below hb h2 hB, hF, hr⟩
theorem SetAt.sizes {w : World} {b g n : Nat} {p : Nat → Bool} (h : SetAt w b g n p) : b < w.heap.size ∧ g < w.heap.size := by
  obtain ⟨A, c, ws, hB', hW, hF, hr⟩ := h
  exact ⟨hB'.lt, hW.1⟩
theorem SetAt.belowW {w w' : World} {b g n : Nat} {p : Nat → Bool} (h : SetAt w b g n p) (hb : Below w.heap.size w w') : SetAt w' b g n p := h.below hb h.sizes.1 h.sizes.2 (Nat.le_refl _)
theorem SetAt.but {w w' : World} {b g n k : Nat} {p : Nat → Bool} (h : SetAt w b g n p) (hb : But k w w') (h1 : b ≠ k) (h2 : g ≠ k) : SetAt w' b g n p := by
  obtain ⟨A, c, ws, hB', hW, hF, hr⟩ := h
  exact ⟨A, c, ws, hb.blk hB' h1, ⟨by have := hb.size; have := hW.1; omega, fun e => by obtain ⟨rfl, cs, k1, k2⟩ := hW.2 e; exact ⟨rfl, cs, hb.blk k1 h2, k2⟩⟩, hF, hr⟩
def CopyPost (w : World) (n : Nat) (p : Nat → Bool) (e : Ending) (w' : World) : Prop :=
  ∃ b g, e = .returned (.pointer (some ⟨b, 0, none⟩)) ∧ w.heap.size ≤ b ∧ w.heap.size ≤ g ∧ SetAt w' b g n p ∧ Below w.heap.size w w'
set_option maxRecDepth 100000 in
set_option maxHeartbeats 1000000 in
theorem copy_any (b g n : Nat) (p : Nat → Bool) (w : World) (h : SetAt w b g n p) : Calls Tryd.prog 24 #[.pointer (some ⟨b, 0, none⟩)] w (CopyPost w n p) := by
  obtain ⟨A, c, ws, hB, hW, hF, hb0, hg0, hn⟩ := h
  have h0 : w.cell? ⟨b, 0, none⟩ = some (.int .i64 n) := hB.cell 0
  have h1 : w.cell? ⟨b, 1, none⟩ = some (.slice A ws.length c) := hB.cell 1
  obtain ⟨L, hL⟩ : ∃ L, L = ws.length := ⟨_, rfl⟩
  have hL2 : L ≤ 16384 := by rw [hL, hF.len]; omega
  have HR : Hid (Reads w w.heap.size 1 A L (ws.map uv)) := Lib.hid (by rw [hL]; exact hW.reads)
  rw [← hL] at h1
  have HL := Lib.hid hL
  have HB := Lib.hid hB
  have HF := Lib.hid hF
  clear hB hW hF hL
  go_enter Tryd.func24, Tryd.ntmps24
  go_wp2_with fail
  go_region_held3 (fun w' => w'.cell? ⟨b, 0, none⟩ = some (.int .i64 n) ∧ w'.cell? ⟨b, 1, none⟩ = some (.slice A L c)) (go_keep) ((go_at_call 29; refine (cloneW_any A L c ws _ (by exact HR.out) HL.out hL2).mono ?_; rintro e w1 ⟨A1, c1, rfl, hown, hb1⟩; have HO := Lib.hid hown; have HB1 : Hid (Below w.heap.size w w1) := Lib.hid ((Below.refl w.heap.size w).drew.trans hb1); rw [← HL.out]; have k0 : w1.cell? ⟨b, 0, none⟩ = some (.int .i64 n) := (HB1.out.cell (p := ⟨b, 0, none⟩) HB.out.lt).trans h0; have k1 : w1.cell? ⟨b, 1, none⟩ = some (.slice A L c) := (HB1.out.cell (p := ⟨b, 1, none⟩) HB.out.lt).trans h1; clear hown hb1))
  go_wp2
  go_ret
  have hs := HB1.out.size
  obtain ⟨g1, hg1, hW1⟩ := words_of_own (b := w1.heap.size) (HO.out.alloc (.cells #[.int .i64 (n : Int), .slice A1 L c1] 47)) (by simp) (by exact hs)
  have hlt := HB.out.lt
  have hg1' : w.heap.size ≤ g1 := hg1
  refine ⟨w1.heap.size, g1, rfl, hs, hg1, ⟨A1, c1, ws, ?_, hW1, HF.out, by omega, by omega, hn⟩, HB1.out.alloc hs _⟩
  have := Blk.new w1 47 #[.int .i64 (n : Int), .slice A1 L c1]
  rw [HL.out] at this
  rw [HL.out]
  exact this
def EqRel (w : World) (l l' : List Int) (si : Value) (wr : World) : Prop :=
  ∃ k : Nat, k ≤ l.length ∧ si = .int .i64 (k : Int) ∧ l.take k = l'.take k ∧ Below w.heap.size w wr
def EqPost (w : World) (b : Bool) (e : Ending) (w' : World) : Prop := e = .returned (.bool b) ∧ Below w.heap.size w w'
set_option maxRecDepth 100000 in
theorem equal_any (A B : Option Addr) (n m c d : Nat) (l l' : List Int) (w : World) (ha : Reads w w.heap.size 1 A n (l.map (Value.int .i64))) (hb : Reads w w.heap.size 1 B m (l'.map (Value.int .i64)))
    (hn : n ≤ 1099511627776) :
    Calls Tryd.prog 28 #[.slice A n c, .slice B m d] w (EqPost w (sameI l l')) := by
  have hl : l.length = n := by have := ha.1; simpa using this
  have hl' : l'.length = m := by have := hb.1; simpa using this
  by_cases hnm : n = m
  · subst hnm
    have HL := Lib.hid hl
    have HL' := Lib.hid hl'
    clear hl hl'
    go_enter Tryd.func28, Tryd.ntmps28
    go_wp2
    go_loopw [13] (fun si wr => EqRel w l l' si wr) (fun si _ => n - (intOf si).toNat)
    case atStart => exact ⟨0, Nat.zero_le _, rfl, rfl, Below.refl _ _⟩
    case round =>
      obtain ⟨k, hk, rfl, htake, hbr⟩ := hrel
      have HT := Lib.hid htake
      clear htake
      by_cases hlt : k < n
      · obtain ⟨ad, v, rfl, had, hv, hcell⟩ := (ha.below hbr).at_ hlt
        obtain ⟨bd, v', rfl, hbd, hv', hcell'⟩ := (hb.below hbr).at_ hlt
        have hk1 : k < l.length := by have := HL.out; omega
        have hk2 : k < l'.length := by have := HL'.out; omega
        obtain ⟨x, hx⟩ : ∃ x, x = l[k] := ⟨_, rfl⟩
        obtain ⟨y, hy⟩ : ∃ y, y = l'[k] := ⟨_, rfl⟩
        have hvx : v = .int .i64 x := by
          rw [List.getElem?_map, List.getElem?_eq_getElem hk1, ← hx] at hv
          simpa using hv.symm
        have hvy : v' = .int .i64 y := by
          rw [List.getElem?_map, List.getElem?_eq_getElem hk2, ← hy] at hv'
          simpa using hv'.symm
        subst hvx hvy
        have HX := Lib.hid hx
        have HY := Lib.hid hy
        clear hv hv' hx hy
        have k0 : (0 : Int) ≤ k := by omega
        have kn : (k : Int) < n := by omega
        by_cases hxy : x = y
        · subst hxy
          go_wp2
          go_quiet (fail)
          go_wp2
          refine ⟨⟨k + 1, by omega, by go_num, ?_, below_drewN hbr nq⟩, by simp [intOf]; omega⟩
          rw [List.take_succ_eq_append_getElem hk1, List.take_succ_eq_append_getElem hk2, HT.out, ← HX.out, ← HY.out]
        · have hxy' : (x == y) = false := beq_eq_false_iff_ne.2 hxy
          go_wp2
          go_quiet (fail)
          go_wp2
          go_ret
          refine ⟨?_, below_drewN hbr nq⟩
          have : sameI l l' = false := by
            simp only [sameI, decide_eq_false_iff_not]
            intro e
            apply hxy
            rw [HX.out, HY.out]
            subst e
            rfl
          rw [this]
          rfl
      · go_wp2
        go_ret
        refine ⟨?_, hbr⟩
        have : sameI l l' = true := by
          simp only [sameI, decide_eq_true_eq]
          have h := HT.out
          rwa [List.take_of_length_le (by have := HL.out; omega), List.take_of_length_le (by have := HL'.out; omega)] at h
        rw [this]
        rfl
  · have hnm' : ((n : Int) == (m : Int)) = false := beq_eq_false_iff_ne.2 (by omega)
    have hnm2 : ((n : Int) != (m : Int)) = true := by rw [bne_iff_ne]; omega
    have HD : Hid (sameI l l' = false) := Lib.hid (by
      simp only [sameI, decide_eq_false_iff_not]
      intro e
      apply hnm
      rw [← hl, ← hl', e])
    clear hl hl' hnm
    go_enter Tryd.func28, Tryd.ntmps28
    go_wp2
    go_ret
    rw [HD.out]
    exact ⟨rfl, Below.refl _ _⟩
end Go.Proofs.YtcaoeoggabbekaaDoor
