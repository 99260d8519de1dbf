/- Words for the walk of CodecSays. -/
import Derived.Test.YtnojejplckhifaaDoorREnc
import Derived.Test.YtnojejplckhifaaDoorQdc
namespace Go.Proofs.YtnojejplckhifaaDoor
open Go.RowKit
set_option linter.unusedVariables false

theorem rmayS_arg (p : PV) (v : Value) (hv : v = p.val) (o : Option (Nat × List Int)) (ho : mayP p.prg = o) (w0 w : World) (ha : PArg w0 p) (hp : PAt w w.heap.size p) : Calls Tryd.prog 12 #[v] w (FaultPost w (fltC o) (fltL o)) := by
  subst hv ho
  exact rmay_any p w hp ha.cl (Nat.le_trans ha.cn.1 ha.cn.2) (Nat.le_trans ha.mn.1 ha.mn.2) (fun x hx => ⟨(ha.ml x hx).par, (ha.ml x hx).loc, Nat.le_trans (ha.ml x hx).code.1 (ha.ml x hx).code.2⟩)
theorem fltS_self (o : Option (Nat × List Int)) : fltIs o (fltC o) (fltL o) = true := by
  unfold fltIs sameI
  simp
theorem flt_many : fltIs (some (0, [])) 101 [] = true := by decide
theorem dpostS {w w' : World} {ad : Nat → Addr} {o : Option Prg × Option (Nat × List Int)} {e : Ending} (h : DPost w ad o e w') :
    Below w.heap.size w w' ∧ ∃ (q : PV) (v : Value), q.prg = o.1.getD ⟨[], []⟩ ∧ e = .returned (.tuple #[q.val, v]) ∧ PAt w' w'.heap.size q ∧ FltV w' ad v o.2 := by
  obtain ⟨hb, ⟨p, rfl, he, hp⟩ | ⟨f, v, rfl, he, hv⟩⟩ := h
  · exact ⟨hb, p, _, rfl, he, hp.1, rfl⟩
  · exact ⟨hb, ⟨[], none, 0, [], none, 0⟩, v, rfl, he, ⟨Reads.none_, Reads.none_, fun x hx => by cases hx⟩, hv⟩
theorem decS_pv {l : List Nat} (hb : ∀ x ∈ l, x < 256) {q : PV} (h : q.prg = (decP l).1.getD ⟨[], []⟩) : q.cls.length ≤ 1048576 ∧ q.ms.length ≤ 1048576 ∧ ∀ x ∈ q.ms, x.m.code.length ≤ 1048576 := by
  rcases dec_cases l with ⟨P, hP⟩ | ⟨f, hf⟩
  · obtain ⟨hOK, _, _, _⟩ := dec_is l hb P none hP
    rw [hP] at h
    have hq : okP q.prg := by rw [h]; exact hOK
    obtain ⟨h1, h2, h3⟩ := ok_pv hq
    exact ⟨by omega, by omega, fun x hx => by have := h3 x hx; omega⟩
  · rw [hf] at h
    have h1 : q.cls = [] := congrArg Prg.cls h
    have h2 : q.ms.map (·.m) = [] := congrArg Prg.mets h
    have h3 : q.ms = [] := by simpa using h2
    rw [h1, h3]
    exact ⟨by simp, by simp, fun x hx => by cases hx⟩
theorem encO_err {P : Prg} {f : Nat × List Int} (h : mayP P = some f) : encO P = (none, some f) := by
  unfold encO
  rw [h]
theorem encO_big {P : Prg} (h : mayP P = none) (hl : 16384 < (encP P).length) : encO P = (none, some (0, [])) := by
  unfold encO
  rw [h]
  dsimp only
  rw [if_pos hl]
theorem encO_ok {P : Prg} (h : mayP P = none) (hl : ¬ 16384 < (encP P).length) : encO P = (some (encP P), none) := by
  unfold encO
  rw [h]
  dsimp only
  rw [if_neg hl]
end Go.Proofs.YtnojejplckhifaaDoor
