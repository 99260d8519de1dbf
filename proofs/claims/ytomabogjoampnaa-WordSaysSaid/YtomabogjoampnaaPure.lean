/- The contracts of word.Pure and overdriveref1.Pure. -/
import Derived.Test.YtomabogjoampnaaFirst
namespace Go.Proofs.Ytomabogjoampnaa
open Go.RowKit
set_option linter.unusedVariables false

def pureB (op : Int) : Bool := decide (8 ≤ op ∧ op ≤ 20 ∧ op ≠ 11 ∧ op ≠ 12)
theorem pure_ways (op : Int) : op < 8 ∨ (8 ≤ op ∧ op ≤ 10) ∨ op = 11 ∨ op = 12 ∨ (13 ≤ op ∧ op ≤ 20) ∨ 20 < op := by omega
theorem pure_any (op : Int) (w : World) : Calls Try.prog 20 #[.int .i64 op] w fun e w' => e = .returned (.bool (pureB op)) ∧ w = w' := by
  rcases pure_ways op with h | ⟨h, h'⟩ | rfl | rfl | ⟨h, h'⟩ | h
  · have t : pureB op = false := by simp [pureB]; omega
    have t1 : decide (8 ≤ op) = false := by simpa using h
    clear h
    go_enter Try.func20, Try.ntmps20
    go_wp2
    go_ret
    exact ⟨by rw [t]; rfl, rfl⟩
  · have t : pureB op = true := by simp [pureB]; omega
    have t1 : decide (8 ≤ op) = true := by simpa using h
    have t2 : decide (op ≤ 20) = true := by simp; omega
    have t3 : (op != 11) = true := by rw [bne_iff_ne]; omega
    have t4 : (op != 12) = true := by rw [bne_iff_ne]; omega
    clear h h'
    go_enter Try.func20, Try.ntmps20
    go_wp2
    go_ret
    exact ⟨by rw [t]; rfl, rfl⟩
  · go_enter Try.func20, Try.ntmps20
    go_wp2
    go_ret
    exact ⟨by rw [show pureB 11 = false by decide]; rfl, rfl⟩
  · go_enter Try.func20, Try.ntmps20
    go_wp2
    go_ret
    exact ⟨by rw [show pureB 12 = false by decide]; rfl, rfl⟩
  · have t : pureB op = true := by simp [pureB]; omega
    have t1 : decide (8 ≤ op) = true := by simp; omega
    have t2 : decide (op ≤ 20) = true := by simp; omega
    have t3 : (op != 11) = true := by rw [bne_iff_ne]; omega
    have t4 : (op != 12) = true := by rw [bne_iff_ne]; omega
    clear h h'
    go_enter Try.func20, Try.ntmps20
    go_wp2
    go_ret
    exact ⟨by rw [t]; rfl, rfl⟩
  · have t : pureB op = false := by simp [pureB]; omega
    have t1 : decide (8 ≤ op) = true := by simp; omega
    have t2 : decide (op ≤ 20) = false := by simpa using h
    clear h
    go_enter Try.func20, Try.ntmps20
    go_wp2
    go_ret
    exact ⟨by rw [t]; rfl, rfl⟩
theorem rpure_any (op : Int) (w : World) : Calls Try.prog 21 #[.int .i64 op] w fun e w' => e = .returned (.bool (pureB op)) ∧ w = w' := by
  rcases pure_ways op with h | ⟨h, h'⟩ | rfl | rfl | ⟨h, h'⟩ | h
  · have t : pureB op = false := by simp [pureB]; omega
    have t1 : decide (8 ≤ op) = false := by simpa using h
    have t2 : decide (13 ≤ op) = false := by simp; omega
    clear h
    go_enter Try.func21, Try.ntmps21
    go_wp2
    go_ret
    exact ⟨by rw [t]; rfl, rfl⟩
  · have t : pureB op = true := by simp [pureB]; omega
    have t1 : decide (8 ≤ op) = true := by simpa using h
    have t2 : decide (op ≤ 10) = true := by simp; omega
    clear h h'
    go_enter Try.func21, Try.ntmps21
    go_wp2
    go_ret
    exact ⟨by rw [t]; rfl, rfl⟩
  · go_enter Try.func21, Try.ntmps21
    go_wp2
    go_ret
    exact ⟨by rw [show pureB 11 = false by decide]; rfl, rfl⟩
  · go_enter Try.func21, Try.ntmps21
    go_wp2
    go_ret
    exact ⟨by rw [show pureB 12 = false by decide]; rfl, rfl⟩
  · have t : pureB op = true := by simp [pureB]; omega
    have t1 : decide (8 ≤ op) = true := by simp; omega
    have t2 : decide (op ≤ 10) = false := by simp; omega
    have t3 : decide (13 ≤ op) = true := by simp; omega
    have t4 : decide (op ≤ 20) = true := by simp; omega
    clear h h'
    go_enter Try.func21, Try.ntmps21
    go_wp2
    go_ret
    exact ⟨by rw [t]; rfl, rfl⟩
  · have t : pureB op = false := by simp [pureB]; omega
    have t1 : decide (8 ≤ op) = true := by simp; omega
    have t2 : decide (op ≤ 10) = false := by simp; omega
    have t3 : decide (13 ≤ op) = true := by simp; omega
    have t4 : decide (op ≤ 20) = false := by simpa using h
    clear h
    go_enter Try.func21, Try.ntmps21
    go_wp2
    go_ret
    exact ⟨by rw [t]; rfl, rfl⟩
end Go.Proofs.Ytomabogjoampnaa
