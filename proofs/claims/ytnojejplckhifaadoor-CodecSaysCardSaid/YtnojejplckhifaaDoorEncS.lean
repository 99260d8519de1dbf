/- Words for the walk of codec.Encode; the contract of its closure. -/
import Derived.Test.YtnojejplckhifaaDoorDecS
import Derived.Test.YtnojejplckhifaaDoorZz
import Derived.Test.YtnojejplckhifaaDoorRd6
import Derived.Lib.AppendStr
namespace Go.Proofs.YtnojejplckhifaaDoor
open Go.RowKit
set_option linter.unusedVariables false

theorem strCells_bv (s : List UInt8) : Lib.strCells ⟨s.toArray⟩ = (nats s).map bv := by
  unfold Lib.strCells nats bv
  simp
/-- b lies in its box (block gb) and holds L, in a row of the call's own; w: the world at the beginning -/
structure ES (w W : World) (gb : Nat) (v : Value) (L : List Nat) : Prop where
  bb : Blk W gb 26 #[v]
  own : W.ownsRow w.heap.size 5 1 v L.length (L.map bv)
  bw : Below w.heap.size w W
  hb : w.heap.size ≤ gb
theorem ES.next {w W W' : World} {gb : Nat} {v : Value} {L : List Nat} (h : ES w W gb v L) (hb : Below W.heap.size W W') : ES w W' gb v L :=
  ⟨h.bb.below hb h.bb.lt, own_below h.own hb, h.bw.trans (hb.mono h.bw.size), h.hb⟩
theorem ES.put {w W W2 : World} {gb : Nat} {v v' : Value} {L L' : List Nat} (h : ES w W gb v L) (ho : W2.ownsRow W.heap.size 5 1 v' L'.length (L'.map bv)) (hb : Below W.heap.size W W2) : ES w (W2.setCell ⟨gb, 0, none⟩ v') gb v' L' := by
  have d := h.next hb
  have o := own_base ho h.bw.size
  refine ⟨by have := d.bb.set_ 0 v'; simpa using this, own_far o d.bb (by decide) v', d.bw.setCell (p := ⟨gb, 0, none⟩) h.hb _, h.hb⟩
/-- an append onto b itself -/
theorem ES.app {w W W2 : World} {gb : Nat} {v v' : Value} {L L' : List Nat} (h : ES w W gb v L) (ho : W2.ownsRow w.heap.size 5 1 v' L'.length (L'.map bv)) (hg : W.grownBy W2 v.ownBlock) : ES w (W2.setCell ⟨gb, 0, none⟩ v') gb v' L' := by
  have b2 : Below w.heap.size w W2 := h.bw.grown hg h.bw.size (fun k hk => own_ge h.own hk)
  have p2 := h.bb.grown hg (fun e => own_blk_ne h.own h.bb (by decide) e.symm)
  refine ⟨by have := p2.set_ 0 v'; simpa using this, own_far ho p2 (by decide) v', b2.setCell (p := ⟨gb, 0, none⟩) h.hb _, h.hb⟩
theorem u8_info : (Tryd.prog.info? 5).map (fun i => (i.zero, i.size, i.bytes)) = some (some (.int .u8 0), 1, 1) := by kernel_rfl
theorem put_is' (L : List Nat) (A : Option Addr) (n c u : Nat) (z : Int) (l : List Nat) (w : World) (hz : z = (u : Int)) (hL : L = l ++ enc u) (ha : Reads w w.heap.size 1 A n (l.map bv)) (hn : n ≤ 1048576) (hu : U64 u) :
    Calls Tryd.prog 28 #[.slice A n c, .int .u64 z] w (PutPost w L) := by
  subst hz
  exact put_is L A n c u l w hL ha hn hu

set_option maxRecDepth 100000 in
set_option maxHeartbeats 1000000 in
theorem text_any (s : List UInt8) (w W : World) (gb : Nat) (v : Value) (L : List Nat) (h : ES w W gb v L) (hL : L.length ≤ 200000) (hs : s.length ≤ 1000) :
    Calls Tryd.prog 29 #[strV s, .pointer (some ⟨gb, 0, none⟩)] W fun e w' => e = .returned (.tuple #[]) ∧ ∃ v' W2, ES w w' gb v' (L ++ encS s) ∧ w' = W2.setCell ⟨gb, 0, none⟩ v' ∧ Below W.heap.size W W2 := by
  obtain ⟨i0, hi0, hz0, hz1, hz2⟩ := info_parts u8_info
  obtain ⟨A, c, hv, hr⟩ := own_reads h.own
  have HR : Hid (Reads W W.heap.size 1 A L.length (L.map bv)) := Lib.hid hr
  subst hv
  have b0 : W.cell? ⟨gb, 0, none⟩ = some (.slice A L.length c) := h.bb.cell 0
  obtain ⟨q, hq⟩ : ∃ q, q = (⟨s.toArray⟩ : ByteArray) := ⟨_, rfl⟩
  obtain ⟨S, hS⟩ : ∃ S, S = s.length := ⟨_, rfl⟩
  have hqs : q.size = S := by rw [hq, hS]; simp [ByteArray.size]
  have hwS : IntKind.u64.wrap (S : Int) = (S : Int) := by rw [IntKind.wrap_u64]; omega
  obtain ⟨L2, hL2⟩ : ∃ L2, L2 = L ++ enc S := ⟨_, rfl⟩
  have HL2 := Lib.hid hL2
  have hl2 : L2.length ≤ 200010 := by rw [hL2, List.length_append]; have := enc_len S; omega
  have HQ : Hid (Lib.strCells q = (nats s).map bv) := Lib.hid (by rw [hq]; exact strCells_bv s)
  have HLL : Hid (L2 ++ nats s = L ++ encS s) := Lib.hid (by rw [hL2, hS]; simp [encS])
  have hns : (nats s).length = S := by rw [hS]; simp [nats]
  have HNS := Lib.hid hns
  unfold strV
  rw [← hq]
  obtain ⟨N, hN⟩ : ∃ N, N = L.length := ⟨_, rfl⟩
  rw [← hN] at b0 hL HR
  have HS := Lib.hid h
  rw [← hN] at HS
  have hS1 : S ≤ 1000 := by omega
  clear h hr hq hS hL2 hN hns
  go_enter Tryd.func29, Tryd.ntmps29
  go_wp2_with fail
  refine (put_is' L2 A N c S _ L _ rfl HL2.out HR.out (by omega) (u64_low (by omega))).mono ?_
  rintro e w2 ⟨A2, c2, rfl, hown2, hr2, hb2⟩
  have HB2 := Lib.hid hb2
  have HO2 := Lib.hid hown2
  clear hr2 hb2
  obtain ⟨N2, hN2⟩ : ∃ N, N = L2.length := ⟨_, rfl⟩
  rw [← hN2] at hown2 hl2 ⊢
  have HN2 := Lib.hid hN2
  have hszW : W.heap.size ≤ w2.heap.size := HB2.out.size
  clear hN2
  go_wp2_with (at_builtin
               go_must (refine Lib.wpList_append_own_string _ rfl (.tmp 7) (.tmp 8) _ _ rfl W.heap.size 5 i0 Tryd.underlying26 Tryd.underlying9 hi0 hz0 hz1 hz2 (.slice A2 N2 c2) N2 (L2.map bv) rfl hown2 q rfl (by unfold maxLen; omega) (by omega) hszW ?_)
               intro v3 w3 hown3 hg3 hnil3
               obtain ⟨A3, c3, hv3, hr3⟩ := own_reads hown3
               clear hr3 hnil3
               subst hv3
               have HB3 : Hid (Blk w3 gb 26 #[.slice A N c]) := Lib.hid ((HS.out.bb.below HB2.out HS.out.bb.lt).grown hg3 (fun e => own_blk_ne hown2 (HS.out.bb.below HB2.out HS.out.bb.lt) (by decide) e.symm))
               have hc3 : w3.cell? ⟨gb, 0, none⟩ = some (.slice A N c) := HB3.out.cell 0
               have hf3 := HB3.out.frozen 0
               have hl3 : gb < w3.heap.size := HB3.out.lt)
  go_end0
  have hlen : N2 + q.size = (L ++ encS s).length := by
    have := HNS.out
    have := HN2.out
    rw [← HLL.out, List.length_append]
    omega
  have hw3 : Below W.heap.size W w3 := HB2.out.grown hg3 hszW (fun k hk => own_ge hown2 hk)
  rw [HQ.out, ← List.map_append, HLL.out, hlen] at hown3
  refine ⟨rfl, _, w3, ?_, rfl, hw3⟩
  have e : N2 + S = (L ++ encS s).length := by rw [← hqs]; exact hlen
  rw [e]
  exact HS.out.put (by first | exact hown3 | (rw [hqs, e] at hown3; exact hown3)) hw3
end Go.Proofs.YtnojejplckhifaaDoor
