/- Sets of numbers: List. -/
import Derived.Test.YtcaoeoggabbekaaDoorEach
namespace Go.Proofs.YtcaoeoggabbekaaDoor
open Go.RowKit Go.Shelf
set_option linter.unusedVariables false
attribute [local go_sem] Oper.semAt_some

theorem each_any (b : Nat) (w : World) : Calls Tryd.prog 25 #[.pointer (some ⟨b, 0, none⟩)] w fun e w' => e = .returned (.func (.func 30) #[] #[.pointer (some ⟨w.heap.size, 0, none⟩)]) ∧ w' = w.alloc (.cells #[.pointer (some ⟨b, 0, none⟩)] 23) := by
  go_enter Tryd.func25, Tryd.ntmps25
  go_wp2
  go_ret
  exact ⟨rfl, rfl⟩
theorem each_stops (n B b g N : Nat) (p : Nat → Bool) (w : World) (hS : SetAt w b g N p) (hB : Boxed w B 23 (.pointer (some ⟨b, 0, none⟩))) (hT : TabIn w) :
    SeqStopsK Fence.wide n Tryd.prog 30 #[.pointer (some ⟨B, 0, none⟩)] (fun x : Int => #[Value.int .i64 x]) (Kept B b g) (fun ys => ys = elsI p N) (fun pre => pre <+: elsI p N) (elsI p N).length w := fun l J Jx W hW _ _ hY h0 => by
  obtain ⟨A, c, ws, h1, h2, h3, h4, h5, h6⟩ := hS.belowW hW
  exact each1_in n l B b g N ws.length c A ws p h3 h6 rfl J Jx hY W ⟨(hW.block B hB.lt).trans hB, h1.cell 1, fun e => by obtain ⟨rfl, cs, k1, k2⟩ := h2.2 e; exact ⟨rfl, fun j x hx => (k1.cell j).trans (k2 j x hx)⟩, hT.below hW hT.pos⟩ h0
theorem info_int : (Tryd.prog.info? 3).map (fun i => (i.zero, i.size, i.bytes)) = some (some (.int .i64 0), 1, 8) := by kernel_rfl
def ListPost (w : World) (p : Nat → Bool) (N : Nat) (e : Ending) (w' : World) : Prop :=
  ∃ v, e = .returned v ∧ w'.ownsRow w.heap.size 3 1 v (elsI p N).length ((elsI p N).map (Value.int .i64)) ∧ Below w.heap.size w w'
set_option maxRecDepth 100000 in
set_option maxHeartbeats 4000000 in
theorem list_any (b g N : Nat) (p : Nat → Bool) (w : World) (hS : SetAt w b g N p) (hT : TabIn w) : Calls Tryd.prog 14 #[.pointer (some ⟨b, 0, none⟩)] w (ListPost w p N) := by
  obtain ⟨i0, hi, hz0, hz1, hz2⟩ := info_parts info_int
  have hsz := hS.sizes
  have hel : (elsI p N).length ≤ 1048576 := by
    rw [elsI_len]
    have := els_len p N
    obtain ⟨A, c, ws, _, _, _, _, _, h6⟩ := hS
    omega
  have HS := Lib.hid hS
  have HT := Lib.hid hT
  clear hS hT
  refine (callsIn_wide (n := 9)).1 ?_
  refine callsIn_of_wp_marks Tryd.func14 rfl trivial ?_ rfl
  simp only [Tryd.ntmps14, List.size_toArray, List.length_cons, List.length_nil, Nat.reduceAdd, Nat.reduceSub, Array.replicate_succ, Array.replicate_zero, List.push_toArray, List.append_toArray, List.nil_append, List.cons_append]
  gi_wp2_with (refine ⟨trivial, ?_⟩; gi_at_call 25; refine (callsIn_wide.2 (each_any _ _)).mono ?_; rintro e w' ⟨rfl, rfl⟩)
  have bO := Boxed.new w 27 (.slice none 0 0)
  have bN := Boxed.new (w.alloc (.cells #[.slice none 0 0] 27)) 23 (.pointer (some ⟨b, 0, none⟩))
  rw [World.size_alloc] at bN
  have hB0 : Below w.heap.size w ((w.alloc (.cells #[.slice none 0 0] 27)).alloc (.cells #[.pointer (some ⟨b, 0, none⟩)] 23)) := ((Below.refl _ w).alloc (Nat.le_refl _) _).alloc (by simp) _
  refine wpIn_rangeFunc_ownG rfl (by omega) (gf := 30) (lb := #[.pointer (some ⟨w.heap.size + 1, 0, none⟩)]) rfl trivial (enters_of Tryd.func30 (by kernel_rfl) rfl)
    (each_stops _ (w.heap.size + 1) b g N p _ (HS.out.belowW hB0) bN (HT.out.below hB0 HT.out.pos)) (fun h k => Kept.t h k) (Kept.b (by simp) (by simp; omega) (by simp; omega)) (Below.refl _ _) (fun _ => rfl)
    (fun pre W => (∃ v, Boxed W w.heap.size 27 v ∧ W.ownsRow w.heap.size 3 1 v pre.length (pre.map (Value.int .i64)) ∧ True) ∧ Below w.heap.size w W ∧ Boxed W (w.heap.size + 1) 23 (.pointer (some ⟨b, 0, none⟩)))
    (fun _ _ _ => False)
    (OwnFrom.and (Own.from (holdsRow_own w.heap.size w.heap.size 27 3 1 (fun pre : List Int => pre.length) (fun pre => pre.map (Value.int .i64)) (fun _ _ => True)) _) (OwnFrom.and (ownFrom_below (Nat.le_refl _) (by simp; omega)) (Own.from (boxed_own _ _ _) _)))
    (fun _ _ _ _ _ hs _ _ => hs)
    ⟨⟨_, bO.alloc _, World.ownsRow_nil _ _ _ _, trivial⟩, hB0, bN⟩
    (fun x => { tmps := #[.pointer (some ⟨b, 0, none⟩), undef, .slice none 0 0, .pointer (some ⟨w.heap.size, 0, none⟩), .int .i64 x, .pointer (some ⟨b, 0, none⟩), .func (.func 30) #[] #[.pointer (some ⟨w.heap.size + 1, 0, none⟩)], .int .i64 x, undef, undef, undef, undef, undef], defers := [] }) ?assign ?body ?done ?stop
  case assign =>
    intro l x W K hK
    gi_wp2
    exact hK
  case body =>
    rintro l pre x W ⟨⟨v, hv, hrow, _⟩, hB, hbx⟩ hlt
    have hc := hv.cell
    gi_wp2_with (gi_at_builtin; refine wpListIn_append_own _ rfl _ _ 27 rfl w.heap.size 3 i0 (.int .i64 0) 1 8 Tryd.underlying27 hi hz0 hz1 hz2 rfl (by decide) _ _ _ rfl (hrow.alloc _) ⟨W.heap.size, 0, none⟩ 1 1 [.int .i64 x] rfl rfl (cell_one_new _ _ _) (by simp [Value.oneCell']) (by unfold maxLen; omega) (by omega) (by have := hB.size; simp; omega) ?_; intro v' w1 hown' hgrow _; obtain ⟨g', cap', rfl⟩ := ownsRow_succ hown'; obtain ⟨hv1, hv2, hr2, hk2, hb2⟩ := hv.appended (by decide) hrow hB.size (Nat.le_refl _) hown' hgrow; have hc1 := hv1.cell; have hf1 := hv1.frozen)
    have hbx2 := (((hbx.alloc _).kept hgrow (hbx.not_row (by decide) hrow)).other (by omega : w.heap.size + 1 ≠ w.heap.size) (.slice (some ⟨g', 0, none⟩) (pre.length + 1) cap'))
    refine ⟨hk2.from _, fun k hk => ?_, ⟨_, hv2, by simpa using hr2, trivial⟩, hB.trans hb2, hbx2⟩
    rcases hk with rfl | rfl | rfl | rfl
    · exact hb2.block _ (by omega)
    · exact Eq.trans hbx2 (Eq.symm hbx)
    · exact hb2.block _ (by omega)
    · exact hb2.block _ (by omega)
  case done =>
    rintro D ys W hD rfl ⟨⟨v, hv, hrow, _⟩, hB, _⟩ hK
    have hc := hv.cell
    gi_wp2
    refine ⟨by simp, .inl ⟨_, _, rfl, run_takeDeferred hK, ?_⟩⟩
    exact ⟨_, results_tmp rfl _ _ _, v, rfl, ownsRow_putObj hrow _ hK rfl, hB.trans (belowK_b (w := w) (Nat.le_refl _) W D _ _ (by simp at hD; omega) hK rfl rfl)⟩
  case stop =>
    rintro D c pre W _ _ h _
    exact h.elim
end Go.Proofs.YtcaoeoggabbekaaDoor
