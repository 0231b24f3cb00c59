/-
  NARROWER THAN 'FOR EVERY INPUT', by the rows' own cells (each row's printed sentence says how): ResetForms: laid · ResetSpoils: laid · ResetDiffers: laid · ResetAlien: laid · ResetLays: laid · ResetKeeps: laid.
  DERIVED. THE GIVEN ROWS OF THIS SEAT. 6 by the template 'for every input the law returns true; each argument reads behind the call as it read before'; 0 by the template 'total and deterministic' (their statements: YthaldkmjjpepjaaDoorTotals.lean).
  GIVEN WITH THE SEED: the statements are not yours to turn. If you find one false, say at which input.
  Laid BY PROGRAM, IN A SANDBOX (cutbox-rows.mjs): the forced cells as the released guide's own fill.sh prints them over the translation 8459444215223b0b… (all of the seat's roots in one cut). By AI agents, Wed Nov 11 2026. No macro, syntax, notation, axiom, sorry.
-/
import Derived.Test.YthaldkmjjpepjaaDoorChecked
import GoSem.Claim
import GoSem.ClaimJoined
import GoSem.ClaimMapViews
import Derived.JoinedTies
import Derived.KernelRfl
namespace Go.Proofs.YthaldkmjjpepjaaDoor
/- THE CELL 'sum', in the pinned program and in every row, IS THE sha256 OF THE DUMP (.gsa) THAT YthaldkmjjpepjaaDoorProg.lean LOADS. Nothing in Lean hashes anything: it is a label: what it is worth is what the hold of that sum in a sandbox is worth. -/
noncomputable def Tryd.pinned : Pinned := { name := "ythaldkmjjpepjaadoor", sum := "8459444215223b0b5a4c1b199d21ac2b7d8de76d87c08df45980e944e8a632e5", checked := Tryd.checked }
namespace Rows
def none {H : Type} : Left H := { results := [], args := [] }

/- WHAT THE LISTED PACKAGE-LEVEL VARIABLES READ AS WHEN THE CALL BEGINS. Each datum BY PROGRAM (the guide's laid-datum.mjs) off the statement by which the dump's own 'gosem.cut.vars' lays the variable. In a bare row this is a premise. The card (YthaldkmjjpepjaaDoorCards.lean) ties it to the program's text. -/
def laid_proctor_reset_mark {H : Type} : DataW H := .agg [.lit (.int .u8 80), .lit (.int .u8 82), .lit (.int .u8 83), .lit (.int .u8 49)]

/-- 'proctorlaw16.ResetForms': WHATEVER THE INPUT: true; the input reads as it did. -/
def resetFormsSpec : ChangeSpec := { name := "resetForms", fn := fun _ => fun
  | [d1, d2] => { results := [.lit (.bool true)], args := [d1, d2] }
  | _ => none }
def resetFormsRow : OpenClaim := { program := "ythaldkmjjpepjaadoor", sum := "8459444215223b0b5a4c1b199d21ac2b7d8de76d87c08df45980e944e8a632e5", func := "proctor/proctorlaw16.ResetForms", spec := "resetForms", named := ["proctor/reset.mark"], apart := false, laid := [("proctor/reset.mark", laid_proctor_reset_mark)] }
def ResetFormsSaid : Prop := resetFormsRow.holds Tryd.pinned (OpenSpec.ofChange resetFormsSpec)

/-- ITS FALSE NEIGHBOUR: 'it returns false'. Refute it at one input. -/
def resetFormsWrong : ChangeSpec := { name := "resetForms", fn := fun _ => fun
  | [d1, d2] => { results := [.lit (.bool false)], args := [d1, d2] }
  | _ => none }
def ResetFormsWrongFalsely : Prop := resetFormsRow.holds Tryd.pinned (OpenSpec.ofChange resetFormsWrong)

/-- 'proctorlaw16.ResetSpoils': WHATEVER THE INPUT: true; the input reads as it did. -/
def resetSpoilsSpec : ChangeSpec := { name := "resetSpoils", fn := fun _ => fun
  | [d1, d2, d3, d4] => { results := [.lit (.bool true)], args := [d1, d2, d3, d4] }
  | _ => none }
def resetSpoilsRow : OpenClaim := { program := "ythaldkmjjpepjaadoor", sum := "8459444215223b0b5a4c1b199d21ac2b7d8de76d87c08df45980e944e8a632e5", func := "proctor/proctorlaw16.ResetSpoils", spec := "resetSpoils", named := ["proctor/reset.mark"], apart := false, laid := [("proctor/reset.mark", laid_proctor_reset_mark)] }
def ResetSpoilsSaid : Prop := resetSpoilsRow.holds Tryd.pinned (OpenSpec.ofChange resetSpoilsSpec)

/-- ITS FALSE NEIGHBOUR: 'it returns false'. Refute it at one input. -/
def resetSpoilsWrong : ChangeSpec := { name := "resetSpoils", fn := fun _ => fun
  | [d1, d2, d3, d4] => { results := [.lit (.bool false)], args := [d1, d2, d3, d4] }
  | _ => none }
def ResetSpoilsWrongFalsely : Prop := resetSpoilsRow.holds Tryd.pinned (OpenSpec.ofChange resetSpoilsWrong)

/-- 'proctorlaw16.ResetDiffers': WHATEVER THE INPUT: true; the input reads as it did. -/
def resetDiffersSpec : ChangeSpec := { name := "resetDiffers", fn := fun _ => fun
  | [d1, d2] => { results := [.lit (.bool true)], args := [d1, d2] }
  | _ => none }
def resetDiffersRow : OpenClaim := { program := "ythaldkmjjpepjaadoor", sum := "8459444215223b0b5a4c1b199d21ac2b7d8de76d87c08df45980e944e8a632e5", func := "proctor/proctorlaw16.ResetDiffers", spec := "resetDiffers", named := ["proctor/reset.mark"], apart := false, laid := [("proctor/reset.mark", laid_proctor_reset_mark)] }
def ResetDiffersSaid : Prop := resetDiffersRow.holds Tryd.pinned (OpenSpec.ofChange resetDiffersSpec)

/-- ITS FALSE NEIGHBOUR: 'it returns false'. Refute it at one input. -/
def resetDiffersWrong : ChangeSpec := { name := "resetDiffers", fn := fun _ => fun
  | [d1, d2] => { results := [.lit (.bool false)], args := [d1, d2] }
  | _ => none }
def ResetDiffersWrongFalsely : Prop := resetDiffersRow.holds Tryd.pinned (OpenSpec.ofChange resetDiffersWrong)

/-- 'proctorlaw16.ResetAlien': WHATEVER THE INPUT: true; the input reads as it did. -/
def resetAlienSpec : ChangeSpec := { name := "resetAlien", fn := fun _ => fun
  | [d1, d2] => { results := [.lit (.bool true)], args := [d1, d2] }
  | _ => none }
def resetAlienRow : OpenClaim := { program := "ythaldkmjjpepjaadoor", sum := "8459444215223b0b5a4c1b199d21ac2b7d8de76d87c08df45980e944e8a632e5", func := "proctor/proctorlaw16.ResetAlien", spec := "resetAlien", inPlace := ["internal/reflectlite.TypeOf"], unfollowed := true, recurses := true, named := ["proctor/reset.mark"], apart := false, laid := [("proctor/reset.mark", laid_proctor_reset_mark)] }
def ResetAlienSaid : Prop := resetAlienRow.holds Tryd.pinned (OpenSpec.ofChange resetAlienSpec)

/-- ITS FALSE NEIGHBOUR: 'it returns false'. Refute it at one input. -/
def resetAlienWrong : ChangeSpec := { name := "resetAlien", fn := fun _ => fun
  | [d1, d2] => { results := [.lit (.bool false)], args := [d1, d2] }
  | _ => none }
def ResetAlienWrongFalsely : Prop := resetAlienRow.holds Tryd.pinned (OpenSpec.ofChange resetAlienWrong)

/-- 'proctorlaw16.ResetLays': WHATEVER THE INPUT: true; the input reads as it did. -/
def resetLaysSpec : ChangeSpec := { name := "resetLays", fn := fun _ => fun
  | [d1, d2, d3, d4] => { results := [.lit (.bool true)], args := [d1, d2, d3, d4] }
  | _ => none }
def resetLaysRow : OpenClaim := { program := "ythaldkmjjpepjaadoor", sum := "8459444215223b0b5a4c1b199d21ac2b7d8de76d87c08df45980e944e8a632e5", func := "proctor/proctorlaw16.ResetLays", spec := "resetLays", inPlace := ["internal/reflectlite.TypeOf"], unfollowed := true, recurses := true, named := ["proctor/reset.mark"], apart := false, laid := [("proctor/reset.mark", laid_proctor_reset_mark)] }
def ResetLaysSaid : Prop := resetLaysRow.holds Tryd.pinned (OpenSpec.ofChange resetLaysSpec)

/-- ITS FALSE NEIGHBOUR: 'it returns false'. Refute it at one input. -/
def resetLaysWrong : ChangeSpec := { name := "resetLays", fn := fun _ => fun
  | [d1, d2, d3, d4] => { results := [.lit (.bool false)], args := [d1, d2, d3, d4] }
  | _ => none }
def ResetLaysWrongFalsely : Prop := resetLaysRow.holds Tryd.pinned (OpenSpec.ofChange resetLaysWrong)

/-- 'proctorlaw16.ResetKeeps': WHATEVER THE INPUT: true; the input reads as it did. -/
def resetKeepsSpec : ChangeSpec := { name := "resetKeeps", fn := fun _ => fun
  | [d1, d2, d3, d4] => { results := [.lit (.bool true)], args := [d1, d2, d3, d4] }
  | _ => none }
def resetKeepsRow : OpenClaim := { program := "ythaldkmjjpepjaadoor", sum := "8459444215223b0b5a4c1b199d21ac2b7d8de76d87c08df45980e944e8a632e5", func := "proctor/proctorlaw16.ResetKeeps", spec := "resetKeeps", inPlace := ["internal/reflectlite.TypeOf"], unfollowed := true, recurses := true, named := ["proctor/reset.mark"], apart := false, laid := [("proctor/reset.mark", laid_proctor_reset_mark)] }
def ResetKeepsSaid : Prop := resetKeepsRow.holds Tryd.pinned (OpenSpec.ofChange resetKeepsSpec)

/-- ITS FALSE NEIGHBOUR: 'it returns false'. Refute it at one input. -/
def resetKeepsWrong : ChangeSpec := { name := "resetKeeps", fn := fun _ => fun
  | [d1, d2, d3, d4] => { results := [.lit (.bool false)], args := [d1, d2, d3, d4] }
  | _ => none }
def ResetKeepsWrongFalsely : Prop := resetKeepsRow.holds Tryd.pinned (OpenSpec.ofChange resetKeepsWrong)

/- THE SECOND FORM. 'bulk': how many values and letters a reading holds, each counted each time it is reached (what is shared counts as often as it is met; a slice's spare places count too). A statement '..UptoSaid' is the law's where the arguments, and the package variables that the reading takes, are together of bulk at most 1048576: NARROWER than '..Said'. Prove '..Said' where nothing that the law and all that it calls make is longer than what came in: it says more and counts as full. Else prove '..UptoSaid'. A law counts once. -/
mutual
def uptoBulk {H : Type} : DataW H → Nat
  | .lit (.string bytes) => bytes.length + 1
  | .lit _ => 1
  | .nil => 1
  | .ptr d => uptoBulk d + 1
  | .slice elems spare => uptoBulkAll elems + uptoBulkAll spare + 1
  | .agg parts => uptoBulkAll parts + 1
  | .iface _ d => uptoBulk d + 1
  | .map entries => uptoBulkEntries entries + 1
  | .held _ => 1
def uptoBulkAll {H : Type} : List (DataW H) → Nat
  | [] => 0
  | d :: r => uptoBulk d + uptoBulkAll r
def uptoBulkEntries {H : Type} : List (Lit × DataW H) → Nat
  | [] => 0
  | x :: r => uptoBulkEntry x + uptoBulkEntries r
def uptoBulkEntry {H : Type} : Lit × DataW H → Nat
  | (.string bytes, d) => bytes.length + uptoBulk d + 1
  | (_, d) => uptoBulk d + 1
 end
def uptoSmall : (H : Type) → List (DataW H) → Bool := fun _ ds => decide (uptoBulkAll ds ≤ 1048576)
def OpenSpec.upto (s : _root_.Go.ChangeSpec) : _root_.Go.OpenSpec := { _root_.Go.OpenSpec.ofChange s with cond := some uptoSmall }

/-- 'proctorlaw16.ResetForms', WHERE WHAT IT READS IS OF BULK AT MOST 1048576: true; the input reads as it did. -/
def resetFormsUptoRow : OpenClaim := { program := "ythaldkmjjpepjaadoor", sum := "8459444215223b0b5a4c1b199d21ac2b7d8de76d87c08df45980e944e8a632e5", func := "proctor/proctorlaw16.ResetForms", spec := "resetForms", named := ["proctor/reset.mark"], apart := false, laid := [("proctor/reset.mark", laid_proctor_reset_mark)], narrowed := true }
def ResetFormsUptoSaid : Prop := resetFormsUptoRow.holds Tryd.pinned (OpenSpec.upto resetFormsSpec)

/-- 'proctorlaw16.ResetSpoils', WHERE WHAT IT READS IS OF BULK AT MOST 1048576: true; the input reads as it did. -/
def resetSpoilsUptoRow : OpenClaim := { program := "ythaldkmjjpepjaadoor", sum := "8459444215223b0b5a4c1b199d21ac2b7d8de76d87c08df45980e944e8a632e5", func := "proctor/proctorlaw16.ResetSpoils", spec := "resetSpoils", named := ["proctor/reset.mark"], apart := false, laid := [("proctor/reset.mark", laid_proctor_reset_mark)], narrowed := true }
def ResetSpoilsUptoSaid : Prop := resetSpoilsUptoRow.holds Tryd.pinned (OpenSpec.upto resetSpoilsSpec)

/-- 'proctorlaw16.ResetDiffers', WHERE WHAT IT READS IS OF BULK AT MOST 1048576: true; the input reads as it did. -/
def resetDiffersUptoRow : OpenClaim := { program := "ythaldkmjjpepjaadoor", sum := "8459444215223b0b5a4c1b199d21ac2b7d8de76d87c08df45980e944e8a632e5", func := "proctor/proctorlaw16.ResetDiffers", spec := "resetDiffers", named := ["proctor/reset.mark"], apart := false, laid := [("proctor/reset.mark", laid_proctor_reset_mark)], narrowed := true }
def ResetDiffersUptoSaid : Prop := resetDiffersUptoRow.holds Tryd.pinned (OpenSpec.upto resetDiffersSpec)

/-- 'proctorlaw16.ResetAlien', WHERE WHAT IT READS IS OF BULK AT MOST 1048576: true; the input reads as it did. -/
def resetAlienUptoRow : OpenClaim := { program := "ythaldkmjjpepjaadoor", sum := "8459444215223b0b5a4c1b199d21ac2b7d8de76d87c08df45980e944e8a632e5", func := "proctor/proctorlaw16.ResetAlien", spec := "resetAlien", inPlace := ["internal/reflectlite.TypeOf"], unfollowed := true, recurses := true, named := ["proctor/reset.mark"], apart := false, laid := [("proctor/reset.mark", laid_proctor_reset_mark)], narrowed := true }
def ResetAlienUptoSaid : Prop := resetAlienUptoRow.holds Tryd.pinned (OpenSpec.upto resetAlienSpec)

/-- 'proctorlaw16.ResetLays', WHERE WHAT IT READS IS OF BULK AT MOST 1048576: true; the input reads as it did. -/
def resetLaysUptoRow : OpenClaim := { program := "ythaldkmjjpepjaadoor", sum := "8459444215223b0b5a4c1b199d21ac2b7d8de76d87c08df45980e944e8a632e5", func := "proctor/proctorlaw16.ResetLays", spec := "resetLays", inPlace := ["internal/reflectlite.TypeOf"], unfollowed := true, recurses := true, named := ["proctor/reset.mark"], apart := false, laid := [("proctor/reset.mark", laid_proctor_reset_mark)], narrowed := true }
def ResetLaysUptoSaid : Prop := resetLaysUptoRow.holds Tryd.pinned (OpenSpec.upto resetLaysSpec)

/-- 'proctorlaw16.ResetKeeps', WHERE WHAT IT READS IS OF BULK AT MOST 1048576: true; the input reads as it did. -/
def resetKeepsUptoRow : OpenClaim := { program := "ythaldkmjjpepjaadoor", sum := "8459444215223b0b5a4c1b199d21ac2b7d8de76d87c08df45980e944e8a632e5", func := "proctor/proctorlaw16.ResetKeeps", spec := "resetKeeps", inPlace := ["internal/reflectlite.TypeOf"], unfollowed := true, recurses := true, named := ["proctor/reset.mark"], apart := false, laid := [("proctor/reset.mark", laid_proctor_reset_mark)], narrowed := true }
def ResetKeepsUptoSaid : Prop := resetKeepsUptoRow.holds Tryd.pinned (OpenSpec.upto resetKeepsSpec)

end Rows
end Go.Proofs.YthaldkmjjpepjaaDoor
