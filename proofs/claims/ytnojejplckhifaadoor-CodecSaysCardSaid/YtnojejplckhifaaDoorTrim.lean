/- strings.Trim at the letters I and R, by its contract off the shelf; prog.letters: are all of a text I or R? -/
import Derived.Test.YtnojejplckhifaaDoorRows
import Derived.Test.YtnojejplckhifaaDoorPA
import Derived.Test.YtnojejplckhifaaDoorPut
import Derived.WalkKit
import Derived.Ground.NamesProg
import Derived.Shelf.Strings.SlTrimAscii
namespace Go.Proofs.YtnojejplckhifaaDoor
open Go.RowKit Go.Shelf
set_option linter.unusedVariables false

def lays160_ren : Go.Shelf.Ren := ⟨fun | 160 => 72 | 232 => 84 | 231 => 83 | 227 => 85 | 234 => 87 | 233 => 86 | 236 => 89 | 235 => 88 | 228 => 92 | 271 => 95 | 151 => 94 | 197 => 93 | 120 => 99 | 152 => 98 | 260 => 97 | 137 => 100 | 119 => 101 | 224 => 102 | 225 => 103 | 217 => 104 | 266 => 105 | n => n, fun | 9 => 9 | 4 => 4 | 3 => 3 | 5 => 5 | 117 => 128 | 116 => 127 | 0 => 0 | 124 => 131 | 21 => 21 | 105 => 134 | 46 => 101 | 119 => 139 | 139 => 142 | 138 => 141 | n => n, fun | 3 => 14 | 4 => 15 | n => n⟩
theorem lays160 : Go.Proofs.Lays.n160 Tryd.prog lays160_ren := {
  mixed := by kernel_rfl
  f119 := Tryd.func101.trans (congrArg some (by kernel_rfl))
  f120 := Tryd.func99.trans (congrArg some (by kernel_rfl))
  f137 := Tryd.func100.trans (congrArg some (by kernel_rfl))
  f151 := Tryd.func94.trans (congrArg some (by kernel_rfl))
  f152 := Tryd.func98.trans (congrArg some (by kernel_rfl))
  f160 := Tryd.func72.trans (congrArg some (by kernel_rfl))
  f197 := Tryd.func93.trans (congrArg some (by kernel_rfl))
  f217 := Tryd.func104.trans (congrArg some (by kernel_rfl))
  f224 := Tryd.func102.trans (congrArg some (by kernel_rfl))
  f225 := Tryd.func103.trans (congrArg some (by kernel_rfl))
  f227 := Tryd.func85.trans (congrArg some (by kernel_rfl))
  f228 := Tryd.func92.trans (congrArg some (by kernel_rfl))
  f231 := Tryd.func83.trans (congrArg some (by kernel_rfl))
  f232 := Tryd.func84.trans (congrArg some (by kernel_rfl))
  f233 := Tryd.func86.trans (congrArg some (by kernel_rfl))
  f234 := Tryd.func87.trans (congrArg some (by kernel_rfl))
  f235 := Tryd.func88.trans (congrArg some (by kernel_rfl))
  f236 := Tryd.func89.trans (congrArg some (by kernel_rfl))
  f260 := Tryd.func97.trans (congrArg some (by kernel_rfl))
  f266 := Tryd.func105.trans (congrArg some (by kernel_rfl))
  f271 := Tryd.func95.trans (congrArg some (by kernel_rfl))
  t0 := Tryd.underlying0
  a0 := Tryd.isAgg0
  z0 := Tryd.sizeOf0
  v0 := Tryd.zeroValue0
  t3 := Tryd.underlying3
  a3 := Tryd.isAgg3
  z3 := Tryd.sizeOf3
  v3 := Tryd.zeroValue3
  t4 := Tryd.underlying4
  a4 := Tryd.isAgg4
  z4 := Tryd.sizeOf4
  v4 := Tryd.zeroValue4
  t5 := Tryd.underlying5
  a5 := Tryd.isAgg5
  z5 := Tryd.sizeOf5
  v5 := Tryd.zeroValue5
  t9 := Tryd.underlying9
  a9 := Tryd.isAgg9
  z9 := Tryd.sizeOf9
  v9 := Tryd.zeroValue9
  t21 := Tryd.underlying21
  a21 := Tryd.isAgg21
  z21 := Tryd.sizeOf21
  v21 := Tryd.zeroValue21
  t46 := Tryd.underlying101
  a46 := Tryd.isAgg101
  z46 := Tryd.sizeOf101
  v46 := Tryd.zeroValue101
  t105 := Tryd.underlying134
  a105 := Tryd.isAgg134
  z105 := Tryd.sizeOf134
  v105 := Tryd.zeroValue134
  t116 := Tryd.underlying127
  a116 := Tryd.isAgg127
  z116 := Tryd.sizeOf127
  t117 := Tryd.underlying128
  a117 := Tryd.isAgg128
  z117 := Tryd.sizeOf128
  v117 := Tryd.zeroValue128
  t119 := Tryd.underlying139
  a119 := Tryd.isAgg139
  z119 := Tryd.sizeOf139
  t124 := Tryd.underlying131
  a124 := Tryd.isAgg131
  z124 := Tryd.sizeOf131
  v124 := Tryd.zeroValue131
  t138 := Tryd.underlying141
  a138 := Tryd.isAgg141
  z138 := Tryd.sizeOf141
  v138 := Tryd.zeroValue141
  t139 := Tryd.underlying142
  a139 := Tryd.isAgg142
  z139 := Tryd.sizeOf142
  v139 := Tryd.zeroValue142
  g3 := by kernel_rfl
  g4 := by kernel_rfl }

/-- a text as a value -/
def strV (s : List UInt8) : Value := .string ⟨s.toArray⟩
theorem contains_IR (c : UInt8) : [73, 82].contains c = isIR c := by
  unfold isIR
  simp [List.contains, List.elem]
  cases h1 : c == 73 <;> cases h2 : c == 82 <;> simp_all
theorem trimL_nil (l : List UInt8) : Lib.trimLeftS l [73, 82] = [] ↔ lettersB l = true := by
  unfold Lib.trimLeftS lettersB
  induction l with
  | nil => simp
  | cons x l ih =>
    rw [List.dropWhile_cons, contains_IR]
    cases hx : isIR x
    · simp [hx]
    · simp [hx]
      simpa using ih
theorem trim_nil (l : List UInt8) : Lib.trimS l [73, 82] = [] ↔ lettersB l = true := by
  unfold Lib.trimS
  rw [trimL_nil]
  unfold Lib.trimRightS lettersB
  rw [List.all_reverse]
  constructor
  · intro h
    have h2 : l.reverse.all isIR = true := by
      rw [← List.takeWhile_append_dropWhile (p := ([73, 82].contains ·)) (l := l.reverse), List.all_append, h, Bool.and_true]
      have hp : ([73, 82].contains · : UInt8 → Bool) = isIR := funext contains_IR
      rw [hp]
      exact List.all_takeWhile
    rwa [List.all_reverse] at h2
  · intro h
    refine List.all_eq_true.2 fun x hx => List.all_eq_true.1 h x ?_
    have := (List.dropWhile_suffix ([73, 82].contains ·) (l := l.reverse)).subset hx
    simpa using this
def BPost (w : World) (b : Bool) (e : Ending) (w' : World) : Prop := e = .returned (.bool b) ∧ Below w.heap.size w w'
set_option maxRecDepth 100000 in
theorem letters_any (s : List UInt8) (w : World) (hs : s.length ≤ maxLen) : Calls Tryd.prog 59 #[strV s] w (BPost w (lettersB s)) := by
  have hcon := Any.strings_Trim_laid lays160 (by kernel_rfl) ⟨s.toArray⟩ ⟨#[73, 82]⟩ w (by simpa [ByteArray.size, maxLen] using hs) (by decide) (ascii_of_all (by decide))
  change Calls Tryd.prog 72 _ _ (fun e w' => e = .returned (.string ⟨(Lib.trimS s [73, 82]).toArray⟩) ∧ Below w.heap.size w w') at hcon
  have hT := trim_nil s
  generalize Lib.trimS s [73, 82] = r at hcon hT
  unfold strV
  have HC := Lib.hid hcon
  clear hcon
  rcases r with _ | ⟨x, r⟩
  · have hb : lettersB s = true := hT.1 rfl
    rw [hb]
    clear hT hb
    go_enter Tryd.func59, Tryd.ntmps59
    go_wp2_with fail
    refine HC.out.mono ?_
    rintro e w' ⟨rfl, hB⟩
    go_wp2
    go_ret
    exact ⟨rfl, hB⟩
  · have hb : lettersB s = false := by
      cases h : lettersB s
      · rfl
      · exact absurd (hT.2 h) (by simp)
    rw [hb]
    clear hT hb
    go_enter Tryd.func59, Tryd.ntmps59
    go_wp2_with fail
    refine HC.out.mono ?_
    rintro e w' ⟨rfl, hB⟩
    go_wp2
    go_ret
    exact ⟨rfl, hB⟩
end Go.Proofs.YtnojejplckhifaaDoor
