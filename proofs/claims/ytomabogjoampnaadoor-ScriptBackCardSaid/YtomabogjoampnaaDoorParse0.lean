/- The contract of script.Parse. -/
import Derived.Test.YtomabogjoampnaaDoorPrsP
namespace Go.Proofs.YtomabogjoampnaaDoor
open Go.RowKit
set_option linter.unusedVariables false

theorem number_do (g : Nat) (A : Addr) (n c a : Nat) (l : List Nat) (ad : Nat → Addr) (w : World) (h : Rdr w g (some A) n c a .nilIface) (hr : Reads w g 1 (some A) n (l.map bv)) (hb : ∀ x ∈ l, x < 256) (hn : n ≤ 1048576)
    (hg : 5 < g) (hB : w.cell? ⟨4, 0, none⟩ = some (.iface 91 (.pointer (some (ad 6))))) (hE : w.cell? ⟨5, 0, none⟩ = some (.iface 91 (.pointer (some (ad 5)))))
    (hat : a ≤ n) (hc : n ≤ c) (hcm : c ≤ maxLen) (hk : nr l a = none) : Calls Tryd.prog 31 #[.pointer (some ⟨g, 0, none⟩)] w (NumBad w g (some A) n c a l ad) := by
  rcases nr_none hk with hk | ⟨u, nx, hk, hu⟩
  · by_cases hca : c = a
    · obtain rfl : n = a := by omega
      subst hca
      exact number_end g A c l ad w h hr hb hn hg hB hcm hE hk
    · exact number_none g A n c a l ad w h hr hb hn hg hB hat hc hcm hE hk hca
  · exact number_big g A n c a l u nx ad w h hr hb hn hg hB hat hc hcm hk hu
theorem But.setFar {g : Nat} {w w' : World} (h : But g w w') {p : Addr} (hp : w.heap.size ≤ p.block) (u : Value) : But g w (w'.setCell p u) :=
  ⟨h.os, h.tape, h.output, by simpa [World.setCell] using h.size, fun k hk hn => (Below.heap_setCell w' p u k (by omega)).trans (h.block k hk hn)⟩
end Go.Proofs.YtomabogjoampnaaDoor
