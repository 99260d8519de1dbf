/- Sets of numbers: Same, Join, Less. -/
import Derived.Test.YtcaoeoggabbekaaDoorList
namespace Go.Proofs.YtcaoeoggabbekaaDoor
open Go.RowKit Go.Shelf
set_option linter.unusedVariables false
attribute [local go_sem] Oper.semAt_some

theorem SetAt.n_le {w : World} {b g n : Nat} {p : Nat → Bool} (h : SetAt w b g n p) : n ≤ 1048576 := by
  obtain ⟨A, c, ws, _, _, _, _, _, h6⟩ := h
  exact h6
theorem SetAt.pos {w : World} {b g n : Nat} {p : Nat → Bool} (h : SetAt w b g n p) : 0 < b ∧ 0 < g := by
  obtain ⟨A, c, ws, _, _, _, h4, h5, _⟩ := h
  exact ⟨h4, h5⟩
def SamePost (w : World) (b : Bool) (e : Ending) (w' : World) : Prop := e = .returned (.bool b) ∧ Below w.heap.size w w'
set_option maxRecDepth 100000 in
theorem same_any (b g n : Nat) (p : Nat → Bool) (b' g' m : Nat) (q : Nat → Bool) (w : World) (h : SetAt w b g n p) (h' : SetAt w b' g' m q) (hT : TabIn w) :
    Calls Tryd.prog 16 #[.pointer (some ⟨b, 0, none⟩), .pointer (some ⟨b', 0, none⟩)] w (SamePost w (sameI (elsI p n) (elsI q m))) := by
  have H := Lib.hid h
  have H' := Lib.hid h'
  have HT := Lib.hid hT
  have HN : Hid ((elsI p n).length ≤ 1048576) := Lib.hid (by rw [elsI_len]; have := els_len p n; have := h.n_le; omega)
  clear h h' hT
  go_enter Tryd.func16, Tryd.ntmps16
  go_wp2_with fail
  refine (list_any b g n p _ H.out HT.out).mono ?_
  rintro e w1 ⟨v1, rfl, hown1, hb1⟩
  have H2 := Lib.hid (H'.out.belowW hb1)
  have HT2 := Lib.hid (HT.out.below hb1 HT.out.pos)
  have HB1 := Lib.hid hb1
  obtain ⟨A1, c1, rfl, hr1⟩ := own_reads hown1
  have HR1 := Lib.hid hr1
  clear hown1 hb1 hr1
  go_wp2_with fail
  refine (list_any b' g' m q _ H2.out HT2.out).mono ?_
  rintro e w2 ⟨v2, rfl, hown2, hb2⟩
  obtain ⟨A2, c2, rfl, hr2⟩ := own_reads hown2
  have HR2 := Lib.hid hr2
  have HB2 := Lib.hid (HB1.out.trans (hb2.mono HB1.out.size))
  have HR3 := Lib.hid ((HR1.out.below hb2).more hb2.size)
  clear hown2 hb2 hr2
  go_wp2_with fail
  refine (equal_any A1 A2 _ _ c1 c2 _ _ _ HR3.out HR2.out (by have := HN.out; omega)).mono ?_
  rintro e w3 ⟨rfl, hb3⟩
  have HB3 := Lib.hid (HB2.out.trans (hb3.mono HB2.out.size))
  clear hb3
  go_wp2
  go_ret
  exact ⟨rfl, HB3.out⟩
theorem setAt_own {β : Type} (b g n : Nat) (f : β → Nat → Bool) : Own (fun s W => SetAt W b g n (f s)) := by
  rintro s X Y row ⟨A, c, ws, h1, h2, h3⟩ hg hr
  have hne : ∀ {k t cs}, Blk X k t cs → some k ≠ row := by
    intro k t cs hk e
    obtain ⟨o, ho, hc⟩ := hr k e.symm
    unfold Blk at hk
    rw [hk] at ho
    cases ho
    cases hc
  exact ⟨A, c, ws, h1.grown hg (hne h1), ⟨by have := hg.size; have := h2.1; omega, fun e => by obtain ⟨rfl, cs, k1, k2⟩ := h2.2 e; exact ⟨rfl, cs, k1.grown hg (hne k1), k2⟩⟩, h3⟩
theorem ownFrom_but {β : Type} {g B : Nat} {w : World} (hB : w.heap.size ≤ B) : OwnFrom B (fun (_ : β) W => But g w W) := by
  intro s X Y row h hg hr
  exact ⟨hg.os.trans h.os, hg.tape.trans h.tape, hg.output.trans h.output, Nat.le_trans h.size hg.size, fun k hk hn => (hg.block k (by have := h.size; omega) (fun e => by have := (hr k e.symm).1; omega)).trans (h.block k hk hn)⟩
theorem But.deferred {g : Nat} {w W : World} (h : But g w W) {D : Nat} {o o' : Obj} (hD : w.heap.size ≤ D) (hK : W.heap[D]? = some o) : But g w (W.putObj D o') := by
  have hg := grownBy_putObj' W D o'
  exact ⟨hg.os.trans h.os, hg.tape.trans h.tape, hg.output.trans h.output, Nat.le_trans h.size hg.size, fun k hk hn => (hg.block k (by have := h.size; omega) (fun e => by cases e; omega)).trans (h.block k hk hn)⟩
theorem KeepsFrom.of_but {g B : Nat} {W W' : World} (h : But g W W') (hg : g < B) : KeepsFrom B W W' :=
  ⟨h.size, fun k o hB hk _ => (h.block k (Array.getElem?_eq_some_iff.1 hk).1 (by omega)).trans hk⟩
theorem Kept.of_but {B b g k : Nat} {W W' : World} (h : But k W W') (h0 : 0 < k) (hB : B < W.heap.size) (hb : b < W.heap.size) (hg : g < W.heap.size) (nB : B ≠ k) (nb : b ≠ k) (ng : g ≠ k) : Kept B b g W W' :=
  fun j hj => h.block j (by omega) (by omega)
theorem But.setFar {g : Nat} {w w' : World} (h : But g w w') {p : Addr} (hp : w.heap.size ≤ p.block) (u : Value) : But g w (w'.setCell p u) :=
  ⟨h.os, h.tape, h.output, by simpa [World.setCell] using h.size, fun k hk hn => (Below.heap_setCell w' p u k (by omega)).trans (h.block k hk hn)⟩
def joinP (p : Nat → Bool) (n : Nat) (l : List Int) : Nat → Bool := fun j => p j || decide ((j : Int) ∈ l ∧ j < n)
def lessP (p : Nat → Bool) (l : List Int) : Nat → Bool := fun j => p j && !decide ((j : Int) ∈ l)
def anP (p : Nat → Bool) (n : Nat) (l : List Int) : Bool := l.any fun x => decide (0 ≤ x ∧ x < n) && !hasZ p x
theorem joinP_snoc (p : Nat → Bool) (n : Nat) (l : List Int) (x : Int) (j : Nat) : addP (joinP p n l) n x j = joinP p n (l ++ [x]) j := by
  rw [addP, joinP, joinP, Bool.or_assoc]
  congr 1
  rw [Bool.eq_iff_iff]
  simp only [Bool.or_eq_true, decide_eq_true_eq, List.mem_append, List.mem_singleton]
  constructor
  · rintro (⟨h1, h2⟩ | ⟨h1, h2⟩)
    · exact ⟨.inl h1, h2⟩
    · exact ⟨.inr h1, h2⟩
  · rintro ⟨h1 | h1, h2⟩
    · exact .inl ⟨h1, h2⟩
    · exact .inr ⟨h1, h2⟩
theorem joinP_nil (p : Nat → Bool) (n j : Nat) : p j = joinP p n [] j := by simp [joinP]
theorem lessP_snoc (p : Nat → Bool) (l : List Int) (x : Int) (j : Nat) : dropP (lessP p l) x j = lessP p (l ++ [x]) j := by
  rw [dropP, lessP, lessP, Bool.and_assoc]
  congr 1
  rw [Bool.eq_iff_iff]
  simp
theorem lessP_nil (p : Nat → Bool) (j : Nat) : p j = lessP p [] j := by simp [lessP]
theorem anP_snoc (p : Nat → Bool) (n : Nat) (l : List Int) (x : Int) : anP p n (l ++ [x]) = (decide (0 ≤ x ∧ x < n) && !hasZ (joinP p n l) x || anP p n l) := by
  rw [anP, List.any_append, ← anP, List.any_cons, List.any_nil, Bool.or_false]
  by_cases hx : 0 ≤ x ∧ x < n
  · obtain ⟨k, rfl⟩ : ∃ k : Nat, x = (k : Int) := ⟨x.toNat, by omega⟩
    have hd : decide ((0 : Int) ≤ k ∧ (k : Int) < n) = true := by simpa using hx
    rw [hd, Bool.true_and, Bool.true_and]
    have e1 : hasZ p (k : Int) = p k := by simp [hasZ]
    have e2 : hasZ (joinP p n l) (k : Int) = (p k || decide ((k : Int) ∈ l)) := by have hk : k < n := (by omega); simp [hasZ, joinP, hk]
    rw [e1, e2]
    cases hp : p k
    · by_cases hm : (k : Int) ∈ l
      · have : anP p n l = true := List.any_eq_true.2 ⟨_, hm, by rw [hd, e1, hp]; rfl⟩
        rw [this]; simp
      · simp [hm]
    · simp
  · have hd : decide (0 ≤ x ∧ x < (n : Int)) = false := by simpa using hx
    rw [hd]
    simp
def JoinPost (w : World) (b g n : Nat) (p q : Nat → Bool) (m : Nat) (e : Ending) (w' : World) : Prop :=
  e = .returned (.bool (anP p n (elsI q m))) ∧ SetAt w' b g n (joinP p n (elsI q m)) ∧ But g w w'
set_option maxRecDepth 100000 in
set_option maxHeartbeats 4000000 in
theorem join_any (b g n : Nat) (p : Nat → Bool) (b' g' m : Nat) (q : Nat → Bool) (w : World) (h : SetAt w b g n p) (h' : SetAt w b' g' m q) (hT : TabIn w) :
    Calls Tryd.prog 22 #[.pointer (some ⟨b, 0, none⟩), .pointer (some ⟨b', 0, none⟩)] w (JoinPost w b g n p q m) := by
  have hsz := h.sizes
  have hpos := h.pos
  have H := Lib.hid h
  have H' := Lib.hid h'
  have HT := Lib.hid hT
  clear h h' hT
  refine (callsIn_wide (n := 9)).1 ?_
  refine callsIn_of_wp_marks Tryd.func22 rfl trivial ?_ rfl
  simp only [Tryd.ntmps22, List.size_toArray, List.length_cons, List.length_nil, Nat.reduceAdd, Nat.reduceSub, Array.replicate_succ, Array.replicate_zero, List.push_toArray, List.append_toArray, List.nil_append, List.cons_append]
  gi_wp2_with fail
  have bS := Boxed.new w 23 (.pointer (some ⟨b, 0, none⟩))
  have bA := Boxed.new (w.alloc (.cells #[.pointer (some ⟨b, 0, none⟩)] 23)) 4 (.bool false)
  rw [World.size_alloc] at bA
  have hB0 : Below w.heap.size w ((w.alloc (.cells #[.pointer (some ⟨b, 0, none⟩)] 23)).alloc (.cells #[.bool false] 4)) := ((Below.refl _ w).alloc (Nat.le_refl _) _).alloc (by simp) _
  have HS0 := Lib.hid (bS.alloc (.cells #[.bool false] 4))
  have HA0 := Lib.hid bA
  have HB0 := Lib.hid hB0
  clear bS bA hB0
  refine ⟨trivial, ?_⟩
  refine (callsIn_wide.2 (copy_any b' g' m q _ (by exact H'.out.belowW HB0.out))).mono ?_
  rintro e w1 ⟨b1, g1, rfl, hb1, hg1, hC, hbl⟩
  replace hb1 : w.heap.size + 2 ≤ b1 := by simpa using hb1
  replace hg1 : w.heap.size + 2 ≤ g1 := by simpa using hg1
  have hz1 : w.heap.size + 2 ≤ w1.heap.size := by have := hbl.size; simpa using this
  have HS1 := Lib.hid (show Boxed w1 w.heap.size 23 (.pointer (some ⟨b, 0, none⟩)) from (hbl.block _ (by simp; omega)).trans HS0.out)
  have HA1 := Lib.hid (show Boxed w1 (w.heap.size + 1) 4 (.bool false) from (hbl.block _ (by simp)).trans HA0.out)
  have HB1 : Hid (Below w.heap.size w w1) := Lib.hid (HB0.out.trans (hbl.mono HB0.out.size))
  have HC := Lib.hid hC
  have hcs := hC.sizes
  clear hC hbl
  gi_wp2_with fail
  refine ⟨trivial, ?_⟩
  refine (callsIn_wide.2 (each_any b1 _)).mono ?_
  rintro e w2 ⟨rfl, rfl⟩
  gi_wp2_with fail
  have bN := Boxed.new w1 23 (.pointer (some ⟨b1, 0, none⟩))
  have hB2 : Below w1.heap.size w1 (w1.alloc (.cells #[.pointer (some ⟨b1, 0, none⟩)] 23)) := (Below.refl _ _).alloc (Nat.le_refl _) _
  have hB3 : Below w.heap.size w (w1.alloc (.cells #[.pointer (some ⟨b1, 0, none⟩)] 23)) := HB1.out.alloc HB1.out.size _
  refine wpIn_rangeFunc_ownG rfl (by omega) (gf := 30) (lb := #[.pointer (some ⟨w1.heap.size, 0, none⟩)]) rfl trivial (enters_of Tryd.func30 (by kernel_rfl) rfl)
    (each_stops _ w1.heap.size b1 g1 m q _ (HC.out.belowW hB2) bN (HT.out.below hB3 HT.out.pos)) (fun h k => Kept.t h k) (Kept.b (by simp) (by simp; omega) (by simp; omega)) (Below.refl _ _) (fun _ => rfl)
    (fun pre W => SetAt W b g n (joinP p n pre) ∧ Boxed W w.heap.size 23 (.pointer (some ⟨b, 0, none⟩)) ∧ Boxed W (w.heap.size + 1) 4 (.bool (anP p n pre)) ∧ But g w W ∧ w1.heap.size < W.heap.size)
    (fun _ _ _ => False)
    (OwnFrom.and (Own.from (setAt_own b g n (fun pre => joinP p n pre)) _) (OwnFrom.and (Own.from (boxed_own _ _ _) _) (OwnFrom.and (Own.from (boxed_own _ _ (fun pre => .bool (anP p n pre))) _) (OwnFrom.and (ownFrom_but (by simp; omega)) (fun _ _ _ _ hs hg _ => Nat.lt_of_lt_of_le hs hg.size)))))
    (fun _ _ _ _ _ hs _ _ => hs)
    ⟨(H.out.belowW hB3).congr (joinP_nil p n), HS1.out.alloc _, HA1.out.alloc _, But.of hB3, by simp⟩
    (fun x => { tmps := #[.pointer (some ⟨b, 0, none⟩), .pointer (some ⟨b', 0, none⟩), .pointer (some ⟨w.heap.size, 0, none⟩), undef, .bool false, .pointer (some ⟨w.heap.size + 1, 0, none⟩), .int .i64 x, .pointer (some ⟨b', 0, none⟩), .pointer (some ⟨b1, 0, none⟩), .func (.func 30) #[] #[.pointer (some ⟨w1.heap.size, 0, none⟩)], .int .i64 x, undef, undef, undef, undef, undef, undef, undef], defers := [] }) ?assign ?body ?done ?stop
  case assign =>
    intro l x W K hK
    gi_wp2
    exact hK
  case body =>
    rintro l pre x W ⟨hS, hbs, hba, hbut, hlt⟩ _
    have hcs := hbs.cell
    have HSS := Lib.hid hS
    have HBA := Lib.hid hba
    have HBS := Lib.hid hbs
    have HBUT := Lib.hid hbut
    clear hS hba hbs hbut
    gi_wp2_with fail
    refine ⟨trivial, ?_⟩
    refine (CallsIn.inRound l (callsIn_wide.2 (add_any b g n x _ _ HSS.out))).mono ?_
    rintro e w3 ⟨rfl, hS3, hb3⟩
    have hba3 : Boxed w3 (w.heap.size + 1) 4 (.bool (anP p n pre)) := (hb3.block _ HBA.out.lt (by omega)).trans HBA.out
    have hbs3 : Boxed w3 w.heap.size 23 (.pointer (some ⟨b, 0, none⟩)) := (hb3.block _ HBS.out.lt (by omega)).trans HBS.out
    have HAN := Lib.hid (anP_snoc p n pre x)
    obtain ⟨a, ha⟩ : ∃ a, a = (decide (0 ≤ x ∧ x < n) && !hasZ (joinP p n pre) x) := ⟨_, rfl⟩
    rw [← ha] at HAN ⊢
    have hac := hba3.cell
    have haf := hba3.frozen
    have HS3 := Lib.hid hS3
    have HB3 := Lib.hid hb3
    have HBA3 := Lib.hid hba3
    have HBS3 := Lib.hid hbs3
    have hlt3 := hb3.size
    clear hS3 hb3 hba3 hbs3 ha
    obtain ⟨c, hc⟩ : ∃ c, c = anP p n pre := ⟨_, rfl⟩
    rw [← hc] at HAN hac HBA3
    clear hc
    cases a
    all_goals
      gi_wp2
      refine ⟨(KeepsFrom.of_but (g := g) HB3.out (by simp; omega)).trans ((KeepsOthers.setCell _ _ _).from _), ?_, ?_, HBS3.out.other (by omega) _, ?_, ?_, by simp [World.setCell]; omega⟩
      · exact (Kept.of_but HB3.out (by omega) (by omega) (by omega) (by omega) (by omega) (by omega) (by omega)).t (fun k hk => Below.heap_setCell _ _ _ k (by simp; omega))
      · refine (SetAt.but (k := w.heap.size + 1) ?_ (But.refl.setCell 0 _) (by omega) (by omega)).congr (joinP_snoc p n pre x)
        exact HS3.out
      · rw [HAN.out]
        exact HBA3.out.set _
      · exact (HBUT.out.trans HB3.out).setFar (by simp) _
  case done =>
    rintro D ys W hD rfl ⟨hS, hbs, hba, hbut, hlt⟩ hK
    have hc := hba.cell
    have HSS := Lib.hid hS
    have HBUT := Lib.hid hbut
    clear hS hba hbs hbut
    gi_wp2
    refine ⟨by simp, .inl ⟨_, _, rfl, run_takeDeferred hK, ?_⟩⟩
    refine ⟨_, results_tmp rfl _ _ _, rfl, ?_, HBUT.out.deferred (by simp at hD; omega) hK⟩
    exact setAt_own b g n (fun _ : Unit => joinP p n (elsI q m)) () _ _ _ HSS.out (grownBy_putObj' _ _ _) (fun r e => by cases e; exact ⟨_, hK, rfl⟩)
  case stop =>
    rintro D c pre W _ _ h _
    exact h.elim
def LessPost (w : World) (b g n : Nat) (p q : Nat → Bool) (m : Nat) (e : Ending) (w' : World) : Prop :=
  (∃ v, e = .returned v) ∧ SetAt w' b g n (lessP p (elsI q m)) ∧ But g w w'
set_option maxRecDepth 100000 in
set_option maxHeartbeats 4000000 in
theorem less_any (b g n : Nat) (p : Nat → Bool) (b' g' m : Nat) (q : Nat → Bool) (w : World) (h : SetAt w b g n p) (h' : SetAt w b' g' m q) (hT : TabIn w) :
    Calls Tryd.prog 23 #[.pointer (some ⟨b, 0, none⟩), .pointer (some ⟨b', 0, none⟩)] w (LessPost w b g n p q m) := by
  have hsz := h.sizes
  have hpos := h.pos
  have H := Lib.hid h
  have H' := Lib.hid h'
  have HT := Lib.hid hT
  clear h h' hT
  refine (callsIn_wide (n := 9)).1 ?_
  refine callsIn_of_wp_marks Tryd.func23 rfl trivial ?_ rfl
  simp only [Tryd.ntmps23, List.size_toArray, List.length_cons, List.length_nil, Nat.reduceAdd, Nat.reduceSub, Array.replicate_succ, Array.replicate_zero, List.push_toArray, List.append_toArray, List.nil_append, List.cons_append]
  gi_wp2_with fail
  have bS := Boxed.new w 23 (.pointer (some ⟨b, 0, none⟩))
  have hB0 : Below w.heap.size w (w.alloc (.cells #[.pointer (some ⟨b, 0, none⟩)] 23)) := (Below.refl _ w).alloc (Nat.le_refl _) _
  have HS0 := Lib.hid bS
  have HB0 := Lib.hid hB0
  clear bS hB0
  refine ⟨trivial, ?_⟩
  refine (callsIn_wide.2 (copy_any b' g' m q _ (by exact H'.out.belowW HB0.out))).mono ?_
  rintro e w1 ⟨b1, g1, rfl, hb1, hg1, hC, hbl⟩
  replace hb1 : w.heap.size + 1 ≤ b1 := by simpa using hb1
  replace hg1 : w.heap.size + 1 ≤ g1 := by simpa using hg1
  have hz1 : w.heap.size + 1 ≤ w1.heap.size := by have := hbl.size; simpa using this
  have HS1 := Lib.hid (show Boxed w1 w.heap.size 23 (.pointer (some ⟨b, 0, none⟩)) from (hbl.block _ (by simp)).trans HS0.out)
  have HB1 : Hid (Below w.heap.size w w1) := Lib.hid (HB0.out.trans (hbl.mono HB0.out.size))
  have HC := Lib.hid hC
  have hcs := hC.sizes
  clear hC hbl
  gi_wp2_with fail
  refine ⟨trivial, ?_⟩
  refine (callsIn_wide.2 (each_any b1 _)).mono ?_
  rintro e w2 ⟨rfl, rfl⟩
  gi_wp2_with fail
  have bN := Boxed.new w1 23 (.pointer (some ⟨b1, 0, none⟩))
  have hB2 : Below w1.heap.size w1 (w1.alloc (.cells #[.pointer (some ⟨b1, 0, none⟩)] 23)) := (Below.refl _ _).alloc (Nat.le_refl _) _
  have hB3 : Below w.heap.size w (w1.alloc (.cells #[.pointer (some ⟨b1, 0, none⟩)] 23)) := HB1.out.alloc HB1.out.size _
  refine wpIn_rangeFunc_ownG rfl (by omega) (gf := 30) (lb := #[.pointer (some ⟨w1.heap.size, 0, none⟩)]) rfl trivial (enters_of Tryd.func30 (by kernel_rfl) rfl)
    (each_stops _ w1.heap.size b1 g1 m q _ (HC.out.belowW hB2) bN (HT.out.below hB3 HT.out.pos)) (fun h k => Kept.t h k) (Kept.b (by simp) (by simp; omega) (by simp; omega)) (Below.refl _ _) (fun _ => rfl)
    (fun pre W => SetAt W b g n (lessP p pre) ∧ Boxed W w.heap.size 23 (.pointer (some ⟨b, 0, none⟩)) ∧ But g w W ∧ w1.heap.size < W.heap.size)
    (fun _ _ _ => False)
    (OwnFrom.and (Own.from (setAt_own b g n (fun pre => lessP p pre)) _) (OwnFrom.and (Own.from (boxed_own _ _ _) _) (OwnFrom.and (ownFrom_but (by simp; omega)) (fun _ _ _ _ hs hg _ => Nat.lt_of_lt_of_le hs hg.size))))
    (fun _ _ _ _ _ hs _ _ => hs)
    ⟨(H.out.belowW hB3).congr (lessP_nil p), HS1.out.alloc _, But.of hB3, by simp⟩
    (fun x => { tmps := #[.pointer (some ⟨b, 0, none⟩), .pointer (some ⟨b', 0, none⟩), .pointer (some ⟨w.heap.size, 0, none⟩), undef, .int .i64 x, .pointer (some ⟨b', 0, none⟩), .pointer (some ⟨b1, 0, none⟩), .func (.func 30) #[] #[.pointer (some ⟨w1.heap.size, 0, none⟩)], .int .i64 x, undef, undef, undef], defers := [] }) ?assign ?body ?done ?stop
  case assign =>
    intro l x W K hK
    gi_wp2
    exact hK
  case body =>
    rintro l pre x W ⟨hS, hbs, hbut, hlt⟩ _
    have hcs := hbs.cell
    have HSS := Lib.hid hS
    have HBS := Lib.hid hbs
    have HBUT := Lib.hid hbut
    clear hS hbs hbut
    gi_wp2_with fail
    refine ⟨trivial, ?_⟩
    refine (CallsIn.inRound l (callsIn_wide.2 (drop_any b g n x _ _ HSS.out))).mono ?_
    rintro e w3 ⟨rfl, hS3, hb3⟩
    have hbs3 : Boxed w3 w.heap.size 23 (.pointer (some ⟨b, 0, none⟩)) := (hb3.block _ HBS.out.lt (by omega)).trans HBS.out
    have HS3 := Lib.hid hS3
    have HB3 := Lib.hid hb3
    have HBS3 := Lib.hid hbs3
    have hlt3 := hb3.size
    clear hS3 hb3 hbs3
    gi_wp2
    refine ⟨KeepsFrom.of_but (g := g) HB3.out (by simp; omega), ?_, ?_, HBS3.out, HBUT.out.trans HB3.out, by omega⟩
    · exact Kept.of_but HB3.out (by omega) (by omega) (by omega) (by omega) (by omega) (by omega) (by omega)
    · exact HS3.out.congr (lessP_snoc p pre x)
  case done =>
    rintro D ys W hD rfl ⟨hS, hbs, hbut, hlt⟩ hK
    have HSS := Lib.hid hS
    have HBUT := Lib.hid hbut
    clear hS hbs hbut
    gi_wp2
    refine ⟨by simp, .inl ⟨_, _, rfl, run_takeDeferred hK, ?_⟩⟩
    refine ⟨_, results_none rfl _ _ _, ⟨_, rfl⟩, ?_, HBUT.out.deferred (by simp at hD; omega) hK⟩
    exact setAt_own b g n (fun _ : Unit => lessP p (elsI q m)) () _ _ _ HSS.out (grownBy_putObj' _ _ _) (fun r e => by cases e; exact ⟨_, hK, rfl⟩)
  case stop =>
    rintro D c pre W _ _ h _
    exact h.elim
end Go.Proofs.YtcaoeoggabbekaaDoor
