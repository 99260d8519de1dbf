/-
  NARROWER THAN 'FOR EVERY INPUT', by the rows' own cells (each row's printed sentence says how): ScriptRises: laid · ScriptOne: laid · ScriptPlays: laid · ScriptBack: laid · ScriptCut: laid.
  DERIVED. THE GIVEN ROWS OF THIS SEAT. 5 by the template 'for every input the law returns true; each argument reads behind the call as it read before'; 0 by the template 'total and deterministic' (their statements: YtomabogjoampnaaDoorTotals.lean).
  GIVEN WITH THE SEED: the statements are not yours to turn. If you find one false, say at which input.
  Laid BY PROGRAM, IN A SANDBOX (cutbox-rows.mjs): the forced cells as the released guide's own fill.sh prints them over the translation 8e4b8c9fbad7b00e… (all of the seat's roots in one cut). By AI agents, Wed Nov 11 2026. No macro, syntax, notation, axiom, sorry.
-/
import Derived.Test.YtomabogjoampnaaDoorChecked
import GoSem.Claim
import GoSem.ClaimJoined
import GoSem.ClaimMapViews
import Derived.JoinedTies
import Derived.KernelRfl
namespace Go.Proofs.YtomabogjoampnaaDoor
/- THE CELL 'sum', in the pinned program and in every row, IS THE sha256 OF THE DUMP (.gsa) THAT YtomabogjoampnaaDoorProg.lean LOADS. Nothing in Lean hashes anything: it is a label: what it is worth is what the hold of that sum in a sandbox is worth. -/
noncomputable def Tryd.pinned : Pinned := { name := "ytomabogjoampnaadoor", sum := "8e4b8c9fbad7b00e33c4a180aeee80f6d28c78dc9267106b8023a993041d9926", checked := Tryd.checked }
namespace Rows
def none {H : Type} : Left H := { results := [], args := [] }

/- WHAT THE LISTED PACKAGE-LEVEL VARIABLES READ AS WHEN THE CALL BEGINS. Each datum BY PROGRAM (the guide's laid-datum.mjs) off the statement by which the dump's own 'gosem.cut.vars' lays the variable. In a bare row this is a premise. The card (YtomabogjoampnaaDoorCards.lean) ties it to the program's text. -/
def laid_overdrive_api_ErrMany {H : Type} : DataW H := .iface "*errors.errorString" (.ptr (.agg [.lit (.string [116, 111, 111, 32, 109, 97, 110, 121])]))
def laid_overdrive_api_ErrKind {H : Type} : DataW H := .iface "*errors.errorString" (.ptr (.agg [.lit (.string [110, 111, 32, 115, 117, 99, 104, 32, 107, 105, 110, 100])]))
def laid_overdrive_api_ErrIndex {H : Type} : DataW H := .iface "*errors.errorString" (.ptr (.agg [.lit (.string [110, 111, 32, 115, 117, 99, 104, 32, 116, 104, 105, 110, 103])]))
def laid_overdrive_api_ErrTarget {H : Type} : DataW H := .iface "*errors.errorString" (.ptr (.agg [.lit (.string [110, 111, 32, 112, 108, 97, 99, 101, 32, 116, 111, 32, 106, 117, 109, 112, 32, 116, 111])]))
def laid_overdrive_api_ErrShape {H : Type} : DataW H := .iface "*errors.errorString" (.ptr (.agg [.lit (.string [110, 111, 116, 32, 116, 104, 101, 32, 115, 104, 97, 112, 101, 32, 116, 104, 97, 116, 32, 105, 116, 32, 104, 97, 115, 32, 116, 111, 32, 104, 97, 118, 101])]))
def laid_overdrive_api_ErrEnd {H : Type} : DataW H := .iface "*errors.errorString" (.ptr (.agg [.lit (.string [105, 116, 32, 101, 110, 100, 115, 32, 116, 111, 111, 32, 101, 97, 114, 108, 121])]))
def laid_overdrive_api_ErrByte {H : Type} : DataW H := .iface "*errors.errorString" (.ptr (.agg [.lit (.string [97, 32, 98, 121, 116, 101, 32, 116, 104, 97, 116, 32, 100, 111, 101, 115, 32, 110, 111, 116, 32, 102, 105, 116])]))
def laid_overdrive_api_ErrStack {H : Type} : DataW H := .iface "*errors.errorString" (.ptr (.agg [.lit (.string [116, 111, 111, 32, 108, 105, 116, 116, 108, 101, 32, 111, 114, 32, 116, 111, 111, 32, 109, 117, 99, 104, 32, 111, 110, 32, 116, 104, 101, 32, 115, 116, 97, 99, 107])]))
def laid_overdrive_api_ErrMerge {H : Type} : DataW H := .iface "*errors.errorString" (.ptr (.agg [.lit (.string [116, 119, 111, 32, 119, 97, 121, 115, 32, 116, 104, 97, 116, 32, 100, 111, 32, 110, 111, 116, 32, 97, 103, 114, 101, 101])]))
def laid_overdrive_api_ErrFall {H : Type} : DataW H := .iface "*errors.errorString" (.ptr (.agg [.lit (.string [105, 116, 32, 102, 97, 108, 108, 115, 32, 111, 102, 102, 32, 116, 104, 101, 32, 101, 110, 100])]))
def laid_overdrive_api_ErrLimit {H : Type} : DataW H := .iface "*errors.errorString" (.ptr (.agg [.lit (.string [110, 111, 32, 115, 117, 99, 104, 32, 108, 105, 109, 105, 116])]))
def laid_overdrive_api_ErrNode {H : Type} : DataW H := .iface "*errors.errorString" (.ptr (.agg [.lit (.string [97, 32, 110, 111, 100, 101, 32, 116, 104, 97, 116, 32, 109, 97, 121, 32, 110, 111, 116, 32, 98, 101])]))
def laid_overdrive_api_ErrState {H : Type} : DataW H := .iface "*errors.errorString" (.ptr (.agg [.lit (.string [97, 32, 115, 116, 97, 116, 101, 32, 116, 104, 97, 116, 32, 109, 97, 121, 32, 110, 111, 116, 32, 98, 101])]))
def laid_overdrive_api_ErrRoom {H : Type} : DataW H := .iface "*errors.errorString" (.ptr (.agg [.lit (.string [110, 111, 32, 114, 111, 111, 109])]))

/-- 'overdrivelaw15.ScriptRises': WHATEVER THE INPUT: true; the input reads as it did. -/
def scriptRisesSpec : ChangeSpec := { name := "scriptRises", fn := fun _ => fun
  | [d1, d2] => { results := [.lit (.bool true)], args := [d1, d2] }
  | _ => none }
def scriptRisesRow : OpenClaim := { program := "ytomabogjoampnaadoor", sum := "8e4b8c9fbad7b00e33c4a180aeee80f6d28c78dc9267106b8023a993041d9926", func := "overdrive/overdrivelaw15.ScriptRises", spec := "scriptRises", unfollowed := true, recurses := true, named := ["overdrive/api.ErrMany", "overdrive/api.ErrKind", "overdrive/api.ErrIndex", "overdrive/api.ErrShape", "overdrive/api.ErrTarget", "overdrive/api.ErrEnd", "overdrive/api.ErrByte", "overdrive/api.ErrStack", "overdrive/api.ErrMerge", "overdrive/api.ErrFall", "overdrive/api.ErrLimit", "overdrive/api.ErrNode", "overdrive/api.ErrState", "overdrive/api.ErrRoom"], apart := false, laid := [("overdrive/api.ErrMany", laid_overdrive_api_ErrMany), ("overdrive/api.ErrKind", laid_overdrive_api_ErrKind), ("overdrive/api.ErrIndex", laid_overdrive_api_ErrIndex), ("overdrive/api.ErrTarget", laid_overdrive_api_ErrTarget), ("overdrive/api.ErrShape", laid_overdrive_api_ErrShape), ("overdrive/api.ErrEnd", laid_overdrive_api_ErrEnd), ("overdrive/api.ErrByte", laid_overdrive_api_ErrByte), ("overdrive/api.ErrStack", laid_overdrive_api_ErrStack), ("overdrive/api.ErrMerge", laid_overdrive_api_ErrMerge), ("overdrive/api.ErrFall", laid_overdrive_api_ErrFall), ("overdrive/api.ErrLimit", laid_overdrive_api_ErrLimit), ("overdrive/api.ErrNode", laid_overdrive_api_ErrNode), ("overdrive/api.ErrState", laid_overdrive_api_ErrState), ("overdrive/api.ErrRoom", laid_overdrive_api_ErrRoom)] }
def ScriptRisesSaid : Prop := scriptRisesRow.holds Tryd.pinned (OpenSpec.ofChange scriptRisesSpec)

/-- ITS FALSE NEIGHBOUR: 'it returns false'. Refute it at one input. -/
def scriptRisesWrong : ChangeSpec := { name := "scriptRises", fn := fun _ => fun
  | [d1, d2] => { results := [.lit (.bool false)], args := [d1, d2] }
  | _ => none }
def ScriptRisesWrongFalsely : Prop := scriptRisesRow.holds Tryd.pinned (OpenSpec.ofChange scriptRisesWrong)

/-- 'overdrivelaw15.ScriptOne': WHATEVER THE INPUT: true; the input reads as it did. -/
def scriptOneSpec : ChangeSpec := { name := "scriptOne", fn := fun _ => fun
  | [d1, d2, d3, d4] => { results := [.lit (.bool true)], args := [d1, d2, d3, d4] }
  | _ => none }
def scriptOneRow : OpenClaim := { program := "ytomabogjoampnaadoor", sum := "8e4b8c9fbad7b00e33c4a180aeee80f6d28c78dc9267106b8023a993041d9926", func := "overdrive/overdrivelaw15.ScriptOne", spec := "scriptOne", unfollowed := true, recurses := true, named := ["overdrive/api.ErrMany", "overdrive/api.ErrKind", "overdrive/api.ErrIndex", "overdrive/api.ErrShape", "overdrive/api.ErrTarget", "overdrive/api.ErrEnd", "overdrive/api.ErrByte", "overdrive/api.ErrStack", "overdrive/api.ErrMerge", "overdrive/api.ErrFall", "overdrive/api.ErrLimit", "overdrive/api.ErrNode", "overdrive/api.ErrState", "overdrive/api.ErrRoom"], apart := false, laid := [("overdrive/api.ErrMany", laid_overdrive_api_ErrMany), ("overdrive/api.ErrKind", laid_overdrive_api_ErrKind), ("overdrive/api.ErrIndex", laid_overdrive_api_ErrIndex), ("overdrive/api.ErrTarget", laid_overdrive_api_ErrTarget), ("overdrive/api.ErrShape", laid_overdrive_api_ErrShape), ("overdrive/api.ErrEnd", laid_overdrive_api_ErrEnd), ("overdrive/api.ErrByte", laid_overdrive_api_ErrByte), ("overdrive/api.ErrStack", laid_overdrive_api_ErrStack), ("overdrive/api.ErrMerge", laid_overdrive_api_ErrMerge), ("overdrive/api.ErrFall", laid_overdrive_api_ErrFall), ("overdrive/api.ErrLimit", laid_overdrive_api_ErrLimit), ("overdrive/api.ErrNode", laid_overdrive_api_ErrNode), ("overdrive/api.ErrState", laid_overdrive_api_ErrState), ("overdrive/api.ErrRoom", laid_overdrive_api_ErrRoom)] }
def ScriptOneSaid : Prop := scriptOneRow.holds Tryd.pinned (OpenSpec.ofChange scriptOneSpec)

/-- ITS FALSE NEIGHBOUR: 'it returns false'. Refute it at one input. -/
def scriptOneWrong : ChangeSpec := { name := "scriptOne", fn := fun _ => fun
  | [d1, d2, d3, d4] => { results := [.lit (.bool false)], args := [d1, d2, d3, d4] }
  | _ => none }
def ScriptOneWrongFalsely : Prop := scriptOneRow.holds Tryd.pinned (OpenSpec.ofChange scriptOneWrong)

/-- 'overdrivelaw15.ScriptPlays': WHATEVER THE INPUT: true; the input reads as it did. -/
def scriptPlaysSpec : ChangeSpec := { name := "scriptPlays", fn := fun _ => fun
  | [d1, d2] => { results := [.lit (.bool true)], args := [d1, d2] }
  | _ => none }
def scriptPlaysRow : OpenClaim := { program := "ytomabogjoampnaadoor", sum := "8e4b8c9fbad7b00e33c4a180aeee80f6d28c78dc9267106b8023a993041d9926", func := "overdrive/overdrivelaw15.ScriptPlays", spec := "scriptPlays", unfollowed := true, recurses := true, named := ["overdrive/api.ErrMany", "overdrive/api.ErrKind", "overdrive/api.ErrIndex", "overdrive/api.ErrShape"], apart := false, laid := [("overdrive/api.ErrMany", laid_overdrive_api_ErrMany), ("overdrive/api.ErrKind", laid_overdrive_api_ErrKind), ("overdrive/api.ErrIndex", laid_overdrive_api_ErrIndex), ("overdrive/api.ErrShape", laid_overdrive_api_ErrShape)] }
def ScriptPlaysSaid : Prop := scriptPlaysRow.holds Tryd.pinned (OpenSpec.ofChange scriptPlaysSpec)

/-- ITS FALSE NEIGHBOUR: 'it returns false'. Refute it at one input. -/
def scriptPlaysWrong : ChangeSpec := { name := "scriptPlays", fn := fun _ => fun
  | [d1, d2] => { results := [.lit (.bool false)], args := [d1, d2] }
  | _ => none }
def ScriptPlaysWrongFalsely : Prop := scriptPlaysRow.holds Tryd.pinned (OpenSpec.ofChange scriptPlaysWrong)

/-- 'overdrivelaw15.ScriptBack': WHATEVER THE INPUT: true; the input reads as it did. -/
def scriptBackSpec : ChangeSpec := { name := "scriptBack", fn := fun _ => fun
  | [d1, d2, d3] => { results := [.lit (.bool true)], args := [d1, d2, d3] }
  | _ => none }
def scriptBackRow : OpenClaim := { program := "ytomabogjoampnaadoor", sum := "8e4b8c9fbad7b00e33c4a180aeee80f6d28c78dc9267106b8023a993041d9926", func := "overdrive/overdrivelaw15.ScriptBack", spec := "scriptBack", unfollowed := true, recurses := true, named := ["overdrive/api.ErrMany", "overdrive/api.ErrKind", "overdrive/api.ErrIndex", "overdrive/api.ErrShape", "overdrive/api.ErrByte", "overdrive/api.ErrEnd"], apart := false, laid := [("overdrive/api.ErrMany", laid_overdrive_api_ErrMany), ("overdrive/api.ErrKind", laid_overdrive_api_ErrKind), ("overdrive/api.ErrIndex", laid_overdrive_api_ErrIndex), ("overdrive/api.ErrShape", laid_overdrive_api_ErrShape), ("overdrive/api.ErrEnd", laid_overdrive_api_ErrEnd), ("overdrive/api.ErrByte", laid_overdrive_api_ErrByte)] }
def ScriptBackSaid : Prop := scriptBackRow.holds Tryd.pinned (OpenSpec.ofChange scriptBackSpec)

/-- ITS FALSE NEIGHBOUR: 'it returns false'. Refute it at one input. -/
def scriptBackWrong : ChangeSpec := { name := "scriptBack", fn := fun _ => fun
  | [d1, d2, d3] => { results := [.lit (.bool false)], args := [d1, d2, d3] }
  | _ => none }
def ScriptBackWrongFalsely : Prop := scriptBackRow.holds Tryd.pinned (OpenSpec.ofChange scriptBackWrong)

/-- 'overdrivelaw15.ScriptCut': WHATEVER THE INPUT: true; the input reads as it did. -/
def scriptCutSpec : ChangeSpec := { name := "scriptCut", fn := fun _ => fun
  | [d1, d2] => { results := [.lit (.bool true)], args := [d1, d2] }
  | _ => none }
def scriptCutRow : OpenClaim := { program := "ytomabogjoampnaadoor", sum := "8e4b8c9fbad7b00e33c4a180aeee80f6d28c78dc9267106b8023a993041d9926", func := "overdrive/overdrivelaw15.ScriptCut", spec := "scriptCut", unfollowed := true, recurses := true, named := ["overdrive/api.ErrMany", "overdrive/api.ErrKind", "overdrive/api.ErrIndex", "overdrive/api.ErrShape", "overdrive/api.ErrByte", "overdrive/api.ErrEnd", "overdrive/api.ErrTarget", "overdrive/api.ErrStack", "overdrive/api.ErrMerge", "overdrive/api.ErrFall", "overdrive/api.ErrLimit", "overdrive/api.ErrNode", "overdrive/api.ErrState", "overdrive/api.ErrRoom"], apart := false, laid := [("overdrive/api.ErrMany", laid_overdrive_api_ErrMany), ("overdrive/api.ErrKind", laid_overdrive_api_ErrKind), ("overdrive/api.ErrIndex", laid_overdrive_api_ErrIndex), ("overdrive/api.ErrTarget", laid_overdrive_api_ErrTarget), ("overdrive/api.ErrShape", laid_overdrive_api_ErrShape), ("overdrive/api.ErrEnd", laid_overdrive_api_ErrEnd), ("overdrive/api.ErrByte", laid_overdrive_api_ErrByte), ("overdrive/api.ErrStack", laid_overdrive_api_ErrStack), ("overdrive/api.ErrMerge", laid_overdrive_api_ErrMerge), ("overdrive/api.ErrFall", laid_overdrive_api_ErrFall), ("overdrive/api.ErrLimit", laid_overdrive_api_ErrLimit), ("overdrive/api.ErrNode", laid_overdrive_api_ErrNode), ("overdrive/api.ErrState", laid_overdrive_api_ErrState), ("overdrive/api.ErrRoom", laid_overdrive_api_ErrRoom)] }
def ScriptCutSaid : Prop := scriptCutRow.holds Tryd.pinned (OpenSpec.ofChange scriptCutSpec)

/-- ITS FALSE NEIGHBOUR: 'it returns false'. Refute it at one input. -/
def scriptCutWrong : ChangeSpec := { name := "scriptCut", fn := fun _ => fun
  | [d1, d2] => { results := [.lit (.bool false)], args := [d1, d2] }
  | _ => none }
def ScriptCutWrongFalsely : Prop := scriptCutRow.holds Tryd.pinned (OpenSpec.ofChange scriptCutWrong)

/- THE SECOND FORM. 'bulk': how many values and letters a reading holds, each counted each time it is reached (what is shared counts as often as it is met; a slice's spare places count too). A statement '..UptoSaid' is the law's where the arguments, and the package variables that the reading takes, are together of bulk at most 1048576: NARROWER than '..Said'. Prove '..Said' where nothing that the law and all that it calls make is longer than what came in: it says more and counts as full. Else prove '..UptoSaid'. A law counts once. -/
mutual
def uptoBulk {H : Type} : DataW H → Nat
  | .lit (.string bytes) => bytes.length + 1
  | .lit _ => 1
  | .nil => 1
  | .ptr d => uptoBulk d + 1
  | .slice elems spare => uptoBulkAll elems + uptoBulkAll spare + 1
  | .agg parts => uptoBulkAll parts + 1
  | .iface _ d => uptoBulk d + 1
  | .map entries => uptoBulkEntries entries + 1
  | .held _ => 1
def uptoBulkAll {H : Type} : List (DataW H) → Nat
  | [] => 0
  | d :: r => uptoBulk d + uptoBulkAll r
def uptoBulkEntries {H : Type} : List (Lit × DataW H) → Nat
  | [] => 0
  | x :: r => uptoBulkEntry x + uptoBulkEntries r
def uptoBulkEntry {H : Type} : Lit × DataW H → Nat
  | (.string bytes, d) => bytes.length + uptoBulk d + 1
  | (_, d) => uptoBulk d + 1
 end
def uptoSmall : (H : Type) → List (DataW H) → Bool := fun _ ds => decide (uptoBulkAll ds ≤ 1048576)
def OpenSpec.upto (s : _root_.Go.ChangeSpec) : _root_.Go.OpenSpec := { _root_.Go.OpenSpec.ofChange s with cond := some uptoSmall }

/-- 'overdrivelaw15.ScriptRises', WHERE WHAT IT READS IS OF BULK AT MOST 1048576: true; the input reads as it did. -/
def scriptRisesUptoRow : OpenClaim := { program := "ytomabogjoampnaadoor", sum := "8e4b8c9fbad7b00e33c4a180aeee80f6d28c78dc9267106b8023a993041d9926", func := "overdrive/overdrivelaw15.ScriptRises", spec := "scriptRises", unfollowed := true, recurses := true, named := ["overdrive/api.ErrMany", "overdrive/api.ErrKind", "overdrive/api.ErrIndex", "overdrive/api.ErrShape", "overdrive/api.ErrTarget", "overdrive/api.ErrEnd", "overdrive/api.ErrByte", "overdrive/api.ErrStack", "overdrive/api.ErrMerge", "overdrive/api.ErrFall", "overdrive/api.ErrLimit", "overdrive/api.ErrNode", "overdrive/api.ErrState", "overdrive/api.ErrRoom"], apart := false, laid := [("overdrive/api.ErrMany", laid_overdrive_api_ErrMany), ("overdrive/api.ErrKind", laid_overdrive_api_ErrKind), ("overdrive/api.ErrIndex", laid_overdrive_api_ErrIndex), ("overdrive/api.ErrTarget", laid_overdrive_api_ErrTarget), ("overdrive/api.ErrShape", laid_overdrive_api_ErrShape), ("overdrive/api.ErrEnd", laid_overdrive_api_ErrEnd), ("overdrive/api.ErrByte", laid_overdrive_api_ErrByte), ("overdrive/api.ErrStack", laid_overdrive_api_ErrStack), ("overdrive/api.ErrMerge", laid_overdrive_api_ErrMerge), ("overdrive/api.ErrFall", laid_overdrive_api_ErrFall), ("overdrive/api.ErrLimit", laid_overdrive_api_ErrLimit), ("overdrive/api.ErrNode", laid_overdrive_api_ErrNode), ("overdrive/api.ErrState", laid_overdrive_api_ErrState), ("overdrive/api.ErrRoom", laid_overdrive_api_ErrRoom)], narrowed := true }
def ScriptRisesUptoSaid : Prop := scriptRisesUptoRow.holds Tryd.pinned (OpenSpec.upto scriptRisesSpec)

/-- 'overdrivelaw15.ScriptOne', WHERE WHAT IT READS IS OF BULK AT MOST 1048576: true; the input reads as it did. -/
def scriptOneUptoRow : OpenClaim := { program := "ytomabogjoampnaadoor", sum := "8e4b8c9fbad7b00e33c4a180aeee80f6d28c78dc9267106b8023a993041d9926", func := "overdrive/overdrivelaw15.ScriptOne", spec := "scriptOne", unfollowed := true, recurses := true, named := ["overdrive/api.ErrMany", "overdrive/api.ErrKind", "overdrive/api.ErrIndex", "overdrive/api.ErrShape", "overdrive/api.ErrTarget", "overdrive/api.ErrEnd", "overdrive/api.ErrByte", "overdrive/api.ErrStack", "overdrive/api.ErrMerge", "overdrive/api.ErrFall", "overdrive/api.ErrLimit", "overdrive/api.ErrNode", "overdrive/api.ErrState", "overdrive/api.ErrRoom"], apart := false, laid := [("overdrive/api.ErrMany", laid_overdrive_api_ErrMany), ("overdrive/api.ErrKind", laid_overdrive_api_ErrKind), ("overdrive/api.ErrIndex", laid_overdrive_api_ErrIndex), ("overdrive/api.ErrTarget", laid_overdrive_api_ErrTarget), ("overdrive/api.ErrShape", laid_overdrive_api_ErrShape), ("overdrive/api.ErrEnd", laid_overdrive_api_ErrEnd), ("overdrive/api.ErrByte", laid_overdrive_api_ErrByte), ("overdrive/api.ErrStack", laid_overdrive_api_ErrStack), ("overdrive/api.ErrMerge", laid_overdrive_api_ErrMerge), ("overdrive/api.ErrFall", laid_overdrive_api_ErrFall), ("overdrive/api.ErrLimit", laid_overdrive_api_ErrLimit), ("overdrive/api.ErrNode", laid_overdrive_api_ErrNode), ("overdrive/api.ErrState", laid_overdrive_api_ErrState), ("overdrive/api.ErrRoom", laid_overdrive_api_ErrRoom)], narrowed := true }
def ScriptOneUptoSaid : Prop := scriptOneUptoRow.holds Tryd.pinned (OpenSpec.upto scriptOneSpec)

/-- 'overdrivelaw15.ScriptPlays', WHERE WHAT IT READS IS OF BULK AT MOST 1048576: true; the input reads as it did. -/
def scriptPlaysUptoRow : OpenClaim := { program := "ytomabogjoampnaadoor", sum := "8e4b8c9fbad7b00e33c4a180aeee80f6d28c78dc9267106b8023a993041d9926", func := "overdrive/overdrivelaw15.ScriptPlays", spec := "scriptPlays", unfollowed := true, recurses := true, named := ["overdrive/api.ErrMany", "overdrive/api.ErrKind", "overdrive/api.ErrIndex", "overdrive/api.ErrShape"], apart := false, laid := [("overdrive/api.ErrMany", laid_overdrive_api_ErrMany), ("overdrive/api.ErrKind", laid_overdrive_api_ErrKind), ("overdrive/api.ErrIndex", laid_overdrive_api_ErrIndex), ("overdrive/api.ErrShape", laid_overdrive_api_ErrShape)], narrowed := true }
def ScriptPlaysUptoSaid : Prop := scriptPlaysUptoRow.holds Tryd.pinned (OpenSpec.upto scriptPlaysSpec)

/-- 'overdrivelaw15.ScriptBack', WHERE WHAT IT READS IS OF BULK AT MOST 1048576: true; the input reads as it did. -/
def scriptBackUptoRow : OpenClaim := { program := "ytomabogjoampnaadoor", sum := "8e4b8c9fbad7b00e33c4a180aeee80f6d28c78dc9267106b8023a993041d9926", func := "overdrive/overdrivelaw15.ScriptBack", spec := "scriptBack", unfollowed := true, recurses := true, named := ["overdrive/api.ErrMany", "overdrive/api.ErrKind", "overdrive/api.ErrIndex", "overdrive/api.ErrShape", "overdrive/api.ErrByte", "overdrive/api.ErrEnd"], apart := false, laid := [("overdrive/api.ErrMany", laid_overdrive_api_ErrMany), ("overdrive/api.ErrKind", laid_overdrive_api_ErrKind), ("overdrive/api.ErrIndex", laid_overdrive_api_ErrIndex), ("overdrive/api.ErrShape", laid_overdrive_api_ErrShape), ("overdrive/api.ErrEnd", laid_overdrive_api_ErrEnd), ("overdrive/api.ErrByte", laid_overdrive_api_ErrByte)], narrowed := true }
def ScriptBackUptoSaid : Prop := scriptBackUptoRow.holds Tryd.pinned (OpenSpec.upto scriptBackSpec)

/-- 'overdrivelaw15.ScriptCut', WHERE WHAT IT READS IS OF BULK AT MOST 1048576: true; the input reads as it did. -/
def scriptCutUptoRow : OpenClaim := { program := "ytomabogjoampnaadoor", sum := "8e4b8c9fbad7b00e33c4a180aeee80f6d28c78dc9267106b8023a993041d9926", func := "overdrive/overdrivelaw15.ScriptCut", spec := "scriptCut", unfollowed := true, recurses := true, named := ["overdrive/api.ErrMany", "overdrive/api.ErrKind", "overdrive/api.ErrIndex", "overdrive/api.ErrShape", "overdrive/api.ErrByte", "overdrive/api.ErrEnd", "overdrive/api.ErrTarget", "overdrive/api.ErrStack", "overdrive/api.ErrMerge", "overdrive/api.ErrFall", "overdrive/api.ErrLimit", "overdrive/api.ErrNode", "overdrive/api.ErrState", "overdrive/api.ErrRoom"], apart := false, laid := [("overdrive/api.ErrMany", laid_overdrive_api_ErrMany), ("overdrive/api.ErrKind", laid_overdrive_api_ErrKind), ("overdrive/api.ErrIndex", laid_overdrive_api_ErrIndex), ("overdrive/api.ErrTarget", laid_overdrive_api_ErrTarget), ("overdrive/api.ErrShape", laid_overdrive_api_ErrShape), ("overdrive/api.ErrEnd", laid_overdrive_api_ErrEnd), ("overdrive/api.ErrByte", laid_overdrive_api_ErrByte), ("overdrive/api.ErrStack", laid_overdrive_api_ErrStack), ("overdrive/api.ErrMerge", laid_overdrive_api_ErrMerge), ("overdrive/api.ErrFall", laid_overdrive_api_ErrFall), ("overdrive/api.ErrLimit", laid_overdrive_api_ErrLimit), ("overdrive/api.ErrNode", laid_overdrive_api_ErrNode), ("overdrive/api.ErrState", laid_overdrive_api_ErrState), ("overdrive/api.ErrRoom", laid_overdrive_api_ErrRoom)], narrowed := true }
def ScriptCutUptoSaid : Prop := scriptCutUptoRow.holds Tryd.pinned (OpenSpec.upto scriptCutSpec)

end Rows
end Go.Proofs.YtomabogjoampnaaDoor
