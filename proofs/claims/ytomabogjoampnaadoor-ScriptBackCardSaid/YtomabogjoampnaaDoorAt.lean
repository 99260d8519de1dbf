/- The contracts of script.Script's At and Left. -/
import Derived.Test.YtomabogjoampnaaDoorSameP
namespace Go.Proofs.YtomabogjoampnaaDoor
open Go.RowKit
set_option linter.unusedVariables false

/-- the script in block b: what is left of its picks, the last safepoint -/
def ScrAt (w : World) (b : Nat) (l : List Pk) (last : Int) : Prop :=
  ∃ A c, Blk w b 67 #[.slice A l.length c, .int .i64 last] ∧ Reads w b 4 A l.length (pks l) ∧ l.length ≤ c
theorem ScrAt.below {w w' : World} {b B : Nat} {l : List Pk} {last : Int} (h : ScrAt w b l last) (hb : Below B w w') (hB : b < B) : ScrAt w' b l last := by
  obtain ⟨A, c, h1, h2, h3⟩ := h
  exact ⟨A, c, h1.below hb hB, (h2.keep fun p hp => hb.cell (Nat.lt_trans hp hB)), h3⟩
theorem ScrAt.drewN {w : World} {b : Nat} {l : List Pk} {last : Int} (h : ScrAt w b l last) (k : Nat) : ScrAt (w.drewN k) b l last := h
theorem left_any (b : Nat) (l : List Pk) (last : Int) (w : World) (h : ScrAt w b l last) : Calls Tryd.prog 17 #[.pointer (some ⟨b, 0, none⟩)] w fun e w' => e = .returned (.int .i64 (l.length : Int)) ∧ w = w' := by
  obtain ⟨A, c, h1, h2, h3⟩ := h
  have c0 : w.cell? ⟨b, 0, none⟩ = some (.slice A l.length c) := h1.cell 0
  clear h1 h2 h3
  go_enter Tryd.func17, Tryd.ntmps17
  go_wp2
  go_ret
  exact ⟨rfl, rfl⟩
theorem at_past (b : Nat) (l : List Pk) (last p : Int) (w : World) (h : ScrAt w b l last) (hp : p ≤ last) : Calls Tryd.prog 15 #[.pointer (some ⟨b, 0, none⟩), .int .i64 p] w fun e w' => e = .returned (.slice none 0 0) ∧ w = w' := by
  obtain ⟨A, c, h1, h2, h3⟩ := h
  have c1 : w.cell? ⟨b, 1, none⟩ = some (.int .i64 last) := h1.cell 1
  have tp : decide (p ≤ last) = true := by simpa using hp
  clear h1 h2 h3
  go_enter Tryd.func15, Tryd.ntmps15
  go_wp2
  go_ret
  exact ⟨rfl, rfl⟩
/-- what is told, what is left -/
def told (p : Int) : List Pk → List Pk
  | [] => []
  | x :: r => if x.at_ ≤ p then (if x.at_ = p then x :: told p r else told p r) else []
def left (p : Int) : List Pk → List Pk
  | [] => []
  | x :: r => if x.at_ ≤ p then left p r else x :: r
def AtPost (w : World) (b B : Nat) (out rest : List Pk) (p : Int) (e : Ending) (w' : World) : Prop :=
  ∃ A c, e = .returned (.slice A out.length c) ∧ w'.ownsRow w.heap.size 26 4 (.slice A out.length c) out.length (pks out) ∧ ScrAt w' b rest p ∧ Below B w w'
def AtRel (w : World) (b B : Nat) (l : List Pk) (p : Int) (so : Value) (wr : World) : Prop :=
  ∃ (out rest : List Pk), wr.ownsRow w.heap.size 26 4 so out.length (pks out) ∧ ScrAt wr b rest p ∧ out ++ told p rest = told p l ∧ left p rest = left p l ∧ out.length + rest.length ≤ l.length ∧ Below B w wr ∧ w.heap.size ≤ wr.heap.size
theorem own_far {w : World} {base : Nat} {e : TypeId} {size n : Nat} {v : Value} {xs : List Value} (h : w.ownsRow base e size v n xs) {q : Addr} (hq : q.block < base) (u : Value) : (w.setCell q u).ownsRow base e size v n xs := by
  refine ⟨h.1, ?_⟩
  rcases h.2 with hv | ⟨g, cap, cur, hv, hg, hh, h1⟩
  · exact .inl hv
  · exact .inr ⟨g, cap, cur, hv, hg, (Below.heap_setCell w q u g (by omega)).trans hh, h1⟩
theorem scr_cut {V : World} {b c : Nat} {ad : Addr} {x : Pk} {r : List Pk} {p : Int} (h1 : Blk V b 67 #[.slice (some ad) (x :: r).length c, .int .i64 p]) (h2 : Reads V b 4 (some ad) (x :: r).length (pks (x :: r))) (h3 : (x :: r).length ≤ c) :
    ScrAt (V.setCell ⟨b, 0, none⟩ (.slice (if c = 1 then some ad else some ⟨ad.block, ad.off + 4, none⟩) r.length (c - 1))) b r p := by
  refine ⟨_, c - 1, h1.set_ 0 _, Reads.setCell ?_ (Nat.le_refl _) _, by simp at h3; omega⟩
  have h := h2.cut (k := 1) (cap := c) (by simp) h3
  have e : (if c = 1 then some ad else (some ad).map (·.add (1 * 4))) = (if c = 1 then some ad else some ⟨ad.block, ad.off + 4, none⟩) := by split <;> rfl
  rw [e] at h
  exact h
theorem at_next {w W wr : World} {b B c : Nat} {l out r : List Pk} {x : Pk} {p : Int} {so : Value} {ad : Addr} (hown : W.ownsRow w.heap.size 26 4 so out.length (pks out))
    (h1 : Blk W b 67 #[.slice (some ad) (x :: r).length c, .int .i64 p]) (h2 : Reads W b 4 (some ad) (x :: r).length (pks (x :: r))) (h3 : (x :: r).length ≤ c) (ht : out ++ told p r = told p l) (hlf : left p r = left p l) (hlen : out.length + r.length ≤ l.length)
    (hb : Below B w W) (hB : B ≤ b) (hbw : b < w.heap.size) (hsz : w.heap.size ≤ W.heap.size) (hc : wr.cell? ⟨b, 0, none⟩ = some (.slice (some ad) (x :: r).length c)) :
    AtRel w b B l p so (W.setCell ⟨b, 0, none⟩ (.slice (if c = 1 then some ad else some ⟨ad.block, ad.off + 4, none⟩) r.length (c - 1))) ∧
    (match (W.setCell ⟨b, 0, none⟩ (.slice (if c = 1 then some ad else some ⟨ad.block, ad.off + 4, none⟩) r.length (c - 1))).cell? ⟨b, 0, none⟩ with
      | some (Value.slice _ n _) => n
      | _ => 0) < (match wr.cell? ⟨b, 0, none⟩ with
      | some (Value.slice _ n _) => n
      | _ => 0) := by
  refine ⟨⟨out, r, own_far hown hbw _, scr_cut h1 h2 h3, ht, hlf, hlen, hb.setCell (p := ⟨b, 0, none⟩) hB _, by simpa [World.setCell] using hsz⟩, ?_⟩
  have e := (h1.set_ 0 (.slice (if c = 1 then some ad else some ⟨ad.block, ad.off + 4, none⟩) r.length (c - 1))).cell 0
  rw [e, hc]
  simp
theorem at_done {w wr : World} {b B : Nat} {l out rest : List Pk} {p : Int} {so : Value} (hown : wr.ownsRow w.heap.size 26 4 so out.length (pks out)) (hs : ScrAt wr b rest p) (h1 : out = told p l) (h2 : rest = left p l) (hb : Below B w wr) :
    AtPost w b B (told p l) (left p l) p (.returned so) wr := by
  subst h1 h2
  obtain ⟨A, c, rfl, _⟩ := own_reads hown
  exact ⟨A, c, rfl, hown, hs, hb⟩
set_option maxRecDepth 100000 in
set_option maxHeartbeats 1000000 in
theorem at_any (b B : Nat) (l : List Pk) (last p : Int) (w : World) (h : ScrAt w b l last) (hp : last < p) (hB : B ≤ b) (hl : l.length ≤ 400) : Calls Tryd.prog 15 #[.pointer (some ⟨b, 0, none⟩), .int .i64 p] w (AtPost w b B (told p l) (left p l) p) := by
  obtain ⟨A, c, h1, h2, h3⟩ := h
  obtain ⟨i0, hi0, hz0, hz1, hz2⟩ := info_parts pick_info
  have c0 : w.cell? ⟨b, 0, none⟩ = some (.slice A l.length c) := h1.cell 0
  have c1 : w.cell? ⟨b, 1, none⟩ = some (.int .i64 last) := h1.cell 1
  have f1 : w.frozen? ⟨b, 1, none⟩ = false := h1.frozen 1
  have tp : decide (p ≤ last) = false := by simpa using hp
  have HS : Hid (ScrAt (w.setCell ⟨b, 1, none⟩ (.int .i64 p)) b l p ∧ Below B w (w.setCell ⟨b, 1, none⟩ (.int .i64 p)) ∧ b < w.heap.size) := Lib.hid ⟨⟨A, c, h1.set_ 1 _, h2.setCell (Nat.le_refl _) _, h3⟩, (Below.refl _ _).setCell (p := ⟨b, 1, none⟩) hB _, h1.lt⟩
  clear h1 h2 h3
  go_enter Tryd.func15, Tryd.ntmps15
  go_wp2
  clear c0 c1 f1
  go_loopw [5] (fun so wr => AtRel w b B l p so wr) (fun _ wr => match wr.cell? ⟨b, 0, none⟩ with | some (.slice _ n _) => n | _ => 0)
  case atStart => exact ⟨[], l, ⟨rfl, .inl ⟨rfl, rfl⟩⟩, HS.out.1, rfl, rfl, by simp, HS.out.2.1, by simp [World.setCell]⟩
  case round =>
    obtain ⟨out, rest, hown, ⟨A', c', k1, k2, k3⟩, ht, hlf, hlen, hbr, hsz⟩ := hrel
    have HO := Lib.hid hown
    have c0 : wr.cell? ⟨b, 0, none⟩ = some (.slice A' rest.length c') := k1.cell 0
    have f0 : wr.frozen? ⟨b, 0, none⟩ = false := k1.frozen 0
    have HK := Lib.hid k1
    have HR := Lib.hid k2
    have HT := Lib.hid ht
    have HF := Lib.hid hlf
    have HBR := Lib.hid hbr
    clear k1 k2 ht hlf hbr
    rcases rest with _ | ⟨x, r⟩
    · go_wp2
      go_ret
      exact at_done HO.out ⟨A', c', HK.out, HR.out, by simp⟩ (by rw [← HT.out]; simp [told]) (by rw [← HF.out]; rfl) HBR.out
    · obtain ⟨ad, rfl, had, q0, q1, q2, q3⟩ := HR.out.pick' (k := 0) (q := x) rfl rfl
      rw [show ad.add (0 * 4) = ad by simp [Addr.add]] at q0 q1 q2 q3
      by_cases hle : x.at_ ≤ p
      · have tle : decide (x.at_ ≤ p) = true := by simpa using hle
        have HLE := Lib.hid hle
        clear hle
        by_cases heq : x.at_ = p
        · have teq : (x.at_ == p) = true := by simpa using heq
          have HEQ := Lib.hid heq
          clear heq
          go_wp2_with (at_builtin
                       go_must (refine wpList_append_any _ rfl (.tmp 42) (.tmp 49) _ rfl w.heap.size 26 i0 _ 4 32 Tryd.underlying24 hi0 hz0 hz1 hz2 rfl (by omega) u5 out.length (pks out) rfl (HO.out.alloc _) _ (some ⟨wr.heap.size, 0, none⟩) 1 1 (pkc x) rfl (by exact reads_newS _ _ _ 4 1 _ rfl rfl) (pkc_one _) (by unfold maxLen; omega) (by omega) (by simp; omega) ?_)
                       intro v2 w2 hown2 hg2 hat2
                       have hb2 : Below w.heap.size wr w2 := ((Below.refl _ _).alloc hsz _).grown hg2 (by simp; omega) (fun k hk => own_ge HO.out hk)
                       have HB2 := Lib.hid hb2
                       have c0' : w2.cell? ⟨b, 0, none⟩ = some (.slice (some ad) (x :: r).length c') := (hb2.cell (p := ⟨b, 0, none⟩) HS.out.2.2).trans c0
                       have f0' : w2.frozen? ⟨b, 0, none⟩ = false := (hb2.frozen (p := ⟨b, 0, none⟩) HS.out.2.2).trans f0
                       have HO2 := Lib.hid hown2
                       clear hb2 hg2 hat2 hown2)
          exact at_next (out := out ++ [x]) (by rw [pks_snoc, List.length_append]; exact HO2.out) (HK.out.below HB2.out HS.out.2.2) (HR.out.keep fun q hq => HB2.out.cell (Nat.lt_trans hq HS.out.2.2)) k3 (by rw [← HT.out, told, if_pos HLE.out, if_pos HEQ.out]; simp) (by rw [← HF.out, left, if_pos HLE.out]) (by simp at hlen ⊢; omega) (HBR.out.trans (HB2.out.mono (by have := HS.out.2.2; omega))) hB HS.out.2.2 (by have := HB2.out.size; omega) c0
        · have teq : (x.at_ == p) = false := by simpa using heq
          have HEQ := Lib.hid heq
          clear heq
          go_wp2
          exact at_next (out := out) HO.out HK.out HR.out k3 (by rw [← HT.out, told, if_pos HLE.out, if_neg HEQ.out]) (by rw [← HF.out, left, if_pos HLE.out]) (by simp at hlen ⊢; omega) HBR.out hB HS.out.2.2 hsz c0
      · have tle : decide (x.at_ ≤ p) = false := by simpa using hle
        have HLE := Lib.hid hle
        clear hle
        go_wp2
        go_ret
        exact at_done HO.out ⟨_, c', HK.out, HR.out, k3⟩ (by rw [← HT.out, told, if_neg (by have := HLE.out; omega)]; simp) (by rw [← HF.out, left, if_neg (by have := HLE.out; omega)]) HBR.out
end Go.Proofs.YtomabogjoampnaaDoor
