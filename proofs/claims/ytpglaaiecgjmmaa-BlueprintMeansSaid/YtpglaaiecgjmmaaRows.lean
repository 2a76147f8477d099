/-
  No cell of these rows narrows 'for every input' (looked for: loops, veiled, ifaces, maps, wideKeys, modest, calm, conditions, laid).
  DERIVED. THE GIVEN ROWS OF THIS SEAT. 10 by the template 'for every input the law returns true; each argument reads behind the call as it read before'; 0 by the template 'total and deterministic' (their statements: YtpglaaiecgjmmaaTotals.lean).
  GIVEN WITH THE SEED: the statements are not yours to turn. If you find one false, say at which input.
  Laid BY PROGRAM, IN A SANDBOX (cutbox-rows.mjs): the forced cells as the released guide's own fill.sh prints them over the translation be3889463bed3cbd… (all of the seat's roots in one cut). By AI agents, Wed Nov 11 2026. No macro, syntax, notation, axiom, sorry.
-/
import Derived.Test.YtpglaaiecgjmmaaChecked
import GoSem.Claim
import GoSem.ClaimJoined
import GoSem.ClaimMapViews
import Derived.JoinedTies
import Derived.KernelRfl
namespace Go.Proofs.Ytpglaaiecgjmmaa
/- THE CELL 'sum', in the pinned program and in every row, IS THE sha256 OF THE DUMP (.gsa) THAT YtpglaaiecgjmmaaProg.lean LOADS. Nothing in Lean hashes anything: it is a label: what it is worth is what the hold of that sum in a sandbox is worth. -/
noncomputable def Try.pinned : Pinned := { name := "ytpglaaiecgjmmaa", sum := "be3889463bed3cbd7cf5137b3524a33fb9345e20b8bf222990ab55cf1ad94004", checked := Try.checked }
namespace Rows
def none {H : Type} : Left H := { results := [], args := [] }

/-- 'awardingbodylaw09.OptimalityStates': WHATEVER THE INPUT: true; the input reads as it did. -/
def optimalityStatesSpec : ChangeSpec := { name := "optimalityStates", fn := fun _ => fun
  | [d] => { results := [.lit (.bool true)], args := [d] }
  | _ => none }
def optimalityStatesRow : OpenClaim := { program := "ytpglaaiecgjmmaa", sum := "be3889463bed3cbd7cf5137b3524a33fb9345e20b8bf222990ab55cf1ad94004", func := "awardingbody/awardingbodylaw09.OptimalityStates", spec := "optimalityStates", unfollowed := true, recurses := true, apart := false }
def OptimalityStatesSaid : Prop := optimalityStatesRow.holds Try.pinned (OpenSpec.ofChange optimalityStatesSpec)

/-- ITS FALSE NEIGHBOUR: 'it returns false'. Refute it at one input. -/
def optimalityStatesWrong : ChangeSpec := { name := "optimalityStates", fn := fun _ => fun
  | [d] => { results := [.lit (.bool false)], args := [d] }
  | _ => none }
def OptimalityStatesWrongFalsely : Prop := optimalityStatesRow.holds Try.pinned (OpenSpec.ofChange optimalityStatesWrong)

/-- 'awardingbodylaw09.OptimalityProves': WHATEVER THE INPUT: true; the input reads as it did. -/
def optimalityProvesSpec : ChangeSpec := { name := "optimalityProves", fn := fun _ => fun
  | [d] => { results := [.lit (.bool true)], args := [d] }
  | _ => none }
def optimalityProvesRow : OpenClaim := { program := "ytpglaaiecgjmmaa", sum := "be3889463bed3cbd7cf5137b3524a33fb9345e20b8bf222990ab55cf1ad94004", func := "awardingbody/awardingbodylaw09.OptimalityProves", spec := "optimalityProves", unfollowed := true, recurses := true, apart := false }
def OptimalityProvesSaid : Prop := optimalityProvesRow.holds Try.pinned (OpenSpec.ofChange optimalityProvesSpec)

/-- ITS FALSE NEIGHBOUR: 'it returns false'. Refute it at one input. -/
def optimalityProvesWrong : ChangeSpec := { name := "optimalityProves", fn := fun _ => fun
  | [d] => { results := [.lit (.bool false)], args := [d] }
  | _ => none }
def OptimalityProvesWrongFalsely : Prop := optimalityProvesRow.holds Try.pinned (OpenSpec.ofChange optimalityProvesWrong)

/-- 'awardingbodylaw09.OptimalityChecks': WHATEVER THE INPUT: true; the input reads as it did. -/
def optimalityChecksSpec : ChangeSpec := { name := "optimalityChecks", fn := fun _ => fun
  | [d1, d2] => { results := [.lit (.bool true)], args := [d1, d2] }
  | _ => none }
def optimalityChecksRow : OpenClaim := { program := "ytpglaaiecgjmmaa", sum := "be3889463bed3cbd7cf5137b3524a33fb9345e20b8bf222990ab55cf1ad94004", func := "awardingbody/awardingbodylaw09.OptimalityChecks", spec := "optimalityChecks", unfollowed := true, recurses := true, apart := false }
def OptimalityChecksSaid : Prop := optimalityChecksRow.holds Try.pinned (OpenSpec.ofChange optimalityChecksSpec)

/-- ITS FALSE NEIGHBOUR: 'it returns false'. Refute it at one input. -/
def optimalityChecksWrong : ChangeSpec := { name := "optimalityChecks", fn := fun _ => fun
  | [d1, d2] => { results := [.lit (.bool false)], args := [d1, d2] }
  | _ => none }
def OptimalityChecksWrongFalsely : Prop := optimalityChecksRow.holds Try.pinned (OpenSpec.ofChange optimalityChecksWrong)

/-- 'awardingbodylaw08.BlueprintRows': WHATEVER THE INPUT: true; the input reads as it did. -/
def blueprintRowsSpec : ChangeSpec := { name := "blueprintRows", fn := fun _ => fun
  | [d] => { results := [.lit (.bool true)], args := [d] }
  | _ => none }
def blueprintRowsRow : OpenClaim := { program := "ytpglaaiecgjmmaa", sum := "be3889463bed3cbd7cf5137b3524a33fb9345e20b8bf222990ab55cf1ad94004", func := "awardingbody/awardingbodylaw08.BlueprintRows", spec := "blueprintRows", unfollowed := true, recurses := true, apart := false }
def BlueprintRowsSaid : Prop := blueprintRowsRow.holds Try.pinned (OpenSpec.ofChange blueprintRowsSpec)

/-- ITS FALSE NEIGHBOUR: 'it returns false'. Refute it at one input. -/
def blueprintRowsWrong : ChangeSpec := { name := "blueprintRows", fn := fun _ => fun
  | [d] => { results := [.lit (.bool false)], args := [d] }
  | _ => none }
def BlueprintRowsWrongFalsely : Prop := blueprintRowsRow.holds Try.pinned (OpenSpec.ofChange blueprintRowsWrong)

/-- 'awardingbodylaw08.BlueprintMany': WHATEVER THE INPUT: true; the input reads as it did. -/
def blueprintManySpec : ChangeSpec := { name := "blueprintMany", fn := fun _ => fun
  | [d1, d2, d3] => { results := [.lit (.bool true)], args := [d1, d2, d3] }
  | _ => none }
def blueprintManyRow : OpenClaim := { program := "ytpglaaiecgjmmaa", sum := "be3889463bed3cbd7cf5137b3524a33fb9345e20b8bf222990ab55cf1ad94004", func := "awardingbody/awardingbodylaw08.BlueprintMany", spec := "blueprintMany", unfollowed := true, recurses := true, apart := false }
def BlueprintManySaid : Prop := blueprintManyRow.holds Try.pinned (OpenSpec.ofChange blueprintManySpec)

/-- ITS FALSE NEIGHBOUR: 'it returns false'. Refute it at one input. -/
def blueprintManyWrong : ChangeSpec := { name := "blueprintMany", fn := fun _ => fun
  | [d1, d2, d3] => { results := [.lit (.bool false)], args := [d1, d2, d3] }
  | _ => none }
def BlueprintManyWrongFalsely : Prop := blueprintManyRow.holds Try.pinned (OpenSpec.ofChange blueprintManyWrong)

/-- 'awardingbodylaw08.BlueprintMeans': WHATEVER THE INPUT: true; the input reads as it did. -/
def blueprintMeansSpec : ChangeSpec := { name := "blueprintMeans", fn := fun _ => fun
  | [d] => { results := [.lit (.bool true)], args := [d] }
  | _ => none }
def blueprintMeansRow : OpenClaim := { program := "ytpglaaiecgjmmaa", sum := "be3889463bed3cbd7cf5137b3524a33fb9345e20b8bf222990ab55cf1ad94004", func := "awardingbody/awardingbodylaw08.BlueprintMeans", spec := "blueprintMeans", unfollowed := true, recurses := true, apart := false }
def BlueprintMeansSaid : Prop := blueprintMeansRow.holds Try.pinned (OpenSpec.ofChange blueprintMeansSpec)

/-- ITS FALSE NEIGHBOUR: 'it returns false'. Refute it at one input. -/
def blueprintMeansWrong : ChangeSpec := { name := "blueprintMeans", fn := fun _ => fun
  | [d] => { results := [.lit (.bool false)], args := [d] }
  | _ => none }
def BlueprintMeansWrongFalsely : Prop := blueprintMeansRow.holds Try.pinned (OpenSpec.ofChange blueprintMeansWrong)

/-- 'awardingbodylaw10.AssemblyWide': WHATEVER THE INPUT: true; the input reads as it did. -/
def assemblyWideSpec : ChangeSpec := { name := "assemblyWide", fn := fun _ => fun
  | [d1, d2, d3] => { results := [.lit (.bool true)], args := [d1, d2, d3] }
  | _ => none }
def assemblyWideRow : OpenClaim := { program := "ytpglaaiecgjmmaa", sum := "be3889463bed3cbd7cf5137b3524a33fb9345e20b8bf222990ab55cf1ad94004", func := "awardingbody/awardingbodylaw10.AssemblyWide", spec := "assemblyWide", unfollowed := true, recurses := true, apart := false }
def AssemblyWideSaid : Prop := assemblyWideRow.holds Try.pinned (OpenSpec.ofChange assemblyWideSpec)

/-- ITS FALSE NEIGHBOUR: 'it returns false'. Refute it at one input. -/
def assemblyWideWrong : ChangeSpec := { name := "assemblyWide", fn := fun _ => fun
  | [d1, d2, d3] => { results := [.lit (.bool false)], args := [d1, d2, d3] }
  | _ => none }
def AssemblyWideWrongFalsely : Prop := assemblyWideRow.holds Try.pinned (OpenSpec.ofChange assemblyWideWrong)

/-- 'awardingbodylaw10.AssemblyRepeats': WHATEVER THE INPUT: true; the input reads as it did. -/
def assemblyRepeatsSpec : ChangeSpec := { name := "assemblyRepeats", fn := fun _ => fun
  | [d1, d2] => { results := [.lit (.bool true)], args := [d1, d2] }
  | _ => none }
def assemblyRepeatsRow : OpenClaim := { program := "ytpglaaiecgjmmaa", sum := "be3889463bed3cbd7cf5137b3524a33fb9345e20b8bf222990ab55cf1ad94004", func := "awardingbody/awardingbodylaw10.AssemblyRepeats", spec := "assemblyRepeats", unfollowed := true, recurses := true, apart := false }
def AssemblyRepeatsSaid : Prop := assemblyRepeatsRow.holds Try.pinned (OpenSpec.ofChange assemblyRepeatsSpec)

/-- ITS FALSE NEIGHBOUR: 'it returns false'. Refute it at one input. -/
def assemblyRepeatsWrong : ChangeSpec := { name := "assemblyRepeats", fn := fun _ => fun
  | [d1, d2] => { results := [.lit (.bool false)], args := [d1, d2] }
  | _ => none }
def AssemblyRepeatsWrongFalsely : Prop := assemblyRepeatsRow.holds Try.pinned (OpenSpec.ofChange assemblyRepeatsWrong)

/-- 'awardingbodylaw10.AssemblyForms': WHATEVER THE INPUT: true; the input reads as it did. -/
def assemblyFormsSpec : ChangeSpec := { name := "assemblyForms", fn := fun _ => fun
  | [d1, d2, d3] => { results := [.lit (.bool true)], args := [d1, d2, d3] }
  | _ => none }
def assemblyFormsRow : OpenClaim := { program := "ytpglaaiecgjmmaa", sum := "be3889463bed3cbd7cf5137b3524a33fb9345e20b8bf222990ab55cf1ad94004", func := "awardingbody/awardingbodylaw10.AssemblyForms", spec := "assemblyForms", unfollowed := true, recurses := true, apart := false }
def AssemblyFormsSaid : Prop := assemblyFormsRow.holds Try.pinned (OpenSpec.ofChange assemblyFormsSpec)

/-- ITS FALSE NEIGHBOUR: 'it returns false'. Refute it at one input. -/
def assemblyFormsWrong : ChangeSpec := { name := "assemblyForms", fn := fun _ => fun
  | [d1, d2, d3] => { results := [.lit (.bool false)], args := [d1, d2, d3] }
  | _ => none }
def AssemblyFormsWrongFalsely : Prop := assemblyFormsRow.holds Try.pinned (OpenSpec.ofChange assemblyFormsWrong)

/-- 'awardingbodylaw10.AssemblyPrograms': WHATEVER THE INPUT: true; the input reads as it did. -/
def assemblyProgramsSpec : ChangeSpec := { name := "assemblyPrograms", fn := fun _ => fun
  | [d] => { results := [.lit (.bool true)], args := [d] }
  | _ => none }
def assemblyProgramsRow : OpenClaim := { program := "ytpglaaiecgjmmaa", sum := "be3889463bed3cbd7cf5137b3524a33fb9345e20b8bf222990ab55cf1ad94004", func := "awardingbody/awardingbodylaw10.AssemblyPrograms", spec := "assemblyPrograms", unfollowed := true, recurses := true, apart := false }
def AssemblyProgramsSaid : Prop := assemblyProgramsRow.holds Try.pinned (OpenSpec.ofChange assemblyProgramsSpec)

/-- ITS FALSE NEIGHBOUR: 'it returns false'. Refute it at one input. -/
def assemblyProgramsWrong : ChangeSpec := { name := "assemblyPrograms", fn := fun _ => fun
  | [d] => { results := [.lit (.bool false)], args := [d] }
  | _ => none }
def AssemblyProgramsWrongFalsely : Prop := assemblyProgramsRow.holds Try.pinned (OpenSpec.ofChange assemblyProgramsWrong)

/- THE SECOND FORM. 'bulk': how many values and letters a reading holds, each counted each time it is reached (what is shared counts as often as it is met; a slice's spare places count too). A statement '..UptoSaid' is the law's where the arguments, and the package variables that the reading takes, are together of bulk at most 1048576: NARROWER than '..Said'. Prove '..Said' where nothing that the law and all that it calls make is longer than what came in: it says more and counts as full. Else prove '..UptoSaid'. A law counts once. -/
mutual
def uptoBulk {H : Type} : DataW H → Nat
  | .lit (.string bytes) => bytes.length + 1
  | .lit _ => 1
  | .nil => 1
  | .ptr d => uptoBulk d + 1
  | .slice elems spare => uptoBulkAll elems + uptoBulkAll spare + 1
  | .agg parts => uptoBulkAll parts + 1
  | .iface _ d => uptoBulk d + 1
  | .map entries => uptoBulkEntries entries + 1
  | .held _ => 1
def uptoBulkAll {H : Type} : List (DataW H) → Nat
  | [] => 0
  | d :: r => uptoBulk d + uptoBulkAll r
def uptoBulkEntries {H : Type} : List (Lit × DataW H) → Nat
  | [] => 0
  | x :: r => uptoBulkEntry x + uptoBulkEntries r
def uptoBulkEntry {H : Type} : Lit × DataW H → Nat
  | (.string bytes, d) => bytes.length + uptoBulk d + 1
  | (_, d) => uptoBulk d + 1
 end
def uptoSmall : (H : Type) → List (DataW H) → Bool := fun _ ds => decide (uptoBulkAll ds ≤ 1048576)
def OpenSpec.upto (s : _root_.Go.ChangeSpec) : _root_.Go.OpenSpec := { _root_.Go.OpenSpec.ofChange s with cond := some uptoSmall }

/-- 'awardingbodylaw09.OptimalityStates', WHERE WHAT IT READS IS OF BULK AT MOST 1048576: true; the input reads as it did. -/
def optimalityStatesUptoRow : OpenClaim := { program := "ytpglaaiecgjmmaa", sum := "be3889463bed3cbd7cf5137b3524a33fb9345e20b8bf222990ab55cf1ad94004", func := "awardingbody/awardingbodylaw09.OptimalityStates", spec := "optimalityStates", unfollowed := true, recurses := true, apart := false, narrowed := true }
def OptimalityStatesUptoSaid : Prop := optimalityStatesUptoRow.holds Try.pinned (OpenSpec.upto optimalityStatesSpec)

/-- 'awardingbodylaw09.OptimalityProves', WHERE WHAT IT READS IS OF BULK AT MOST 1048576: true; the input reads as it did. -/
def optimalityProvesUptoRow : OpenClaim := { program := "ytpglaaiecgjmmaa", sum := "be3889463bed3cbd7cf5137b3524a33fb9345e20b8bf222990ab55cf1ad94004", func := "awardingbody/awardingbodylaw09.OptimalityProves", spec := "optimalityProves", unfollowed := true, recurses := true, apart := false, narrowed := true }
def OptimalityProvesUptoSaid : Prop := optimalityProvesUptoRow.holds Try.pinned (OpenSpec.upto optimalityProvesSpec)

/-- 'awardingbodylaw09.OptimalityChecks', WHERE WHAT IT READS IS OF BULK AT MOST 1048576: true; the input reads as it did. -/
def optimalityChecksUptoRow : OpenClaim := { program := "ytpglaaiecgjmmaa", sum := "be3889463bed3cbd7cf5137b3524a33fb9345e20b8bf222990ab55cf1ad94004", func := "awardingbody/awardingbodylaw09.OptimalityChecks", spec := "optimalityChecks", unfollowed := true, recurses := true, apart := false, narrowed := true }
def OptimalityChecksUptoSaid : Prop := optimalityChecksUptoRow.holds Try.pinned (OpenSpec.upto optimalityChecksSpec)

/-- 'awardingbodylaw08.BlueprintRows', WHERE WHAT IT READS IS OF BULK AT MOST 1048576: true; the input reads as it did. -/
def blueprintRowsUptoRow : OpenClaim := { program := "ytpglaaiecgjmmaa", sum := "be3889463bed3cbd7cf5137b3524a33fb9345e20b8bf222990ab55cf1ad94004", func := "awardingbody/awardingbodylaw08.BlueprintRows", spec := "blueprintRows", unfollowed := true, recurses := true, apart := false, narrowed := true }
def BlueprintRowsUptoSaid : Prop := blueprintRowsUptoRow.holds Try.pinned (OpenSpec.upto blueprintRowsSpec)

/-- 'awardingbodylaw08.BlueprintMany', WHERE WHAT IT READS IS OF BULK AT MOST 1048576: true; the input reads as it did. -/
def blueprintManyUptoRow : OpenClaim := { program := "ytpglaaiecgjmmaa", sum := "be3889463bed3cbd7cf5137b3524a33fb9345e20b8bf222990ab55cf1ad94004", func := "awardingbody/awardingbodylaw08.BlueprintMany", spec := "blueprintMany", unfollowed := true, recurses := true, apart := false, narrowed := true }
def BlueprintManyUptoSaid : Prop := blueprintManyUptoRow.holds Try.pinned (OpenSpec.upto blueprintManySpec)

/-- 'awardingbodylaw08.BlueprintMeans', WHERE WHAT IT READS IS OF BULK AT MOST 1048576: true; the input reads as it did. -/
def blueprintMeansUptoRow : OpenClaim := { program := "ytpglaaiecgjmmaa", sum := "be3889463bed3cbd7cf5137b3524a33fb9345e20b8bf222990ab55cf1ad94004", func := "awardingbody/awardingbodylaw08.BlueprintMeans", spec := "blueprintMeans", unfollowed := true, recurses := true, apart := false, narrowed := true }
def BlueprintMeansUptoSaid : Prop := blueprintMeansUptoRow.holds Try.pinned (OpenSpec.upto blueprintMeansSpec)

/-- 'awardingbodylaw10.AssemblyWide', WHERE WHAT IT READS IS OF BULK AT MOST 1048576: true; the input reads as it did. -/
def assemblyWideUptoRow : OpenClaim := { program := "ytpglaaiecgjmmaa", sum := "be3889463bed3cbd7cf5137b3524a33fb9345e20b8bf222990ab55cf1ad94004", func := "awardingbody/awardingbodylaw10.AssemblyWide", spec := "assemblyWide", unfollowed := true, recurses := true, apart := false, narrowed := true }
def AssemblyWideUptoSaid : Prop := assemblyWideUptoRow.holds Try.pinned (OpenSpec.upto assemblyWideSpec)

/-- 'awardingbodylaw10.AssemblyRepeats', WHERE WHAT IT READS IS OF BULK AT MOST 1048576: true; the input reads as it did. -/
def assemblyRepeatsUptoRow : OpenClaim := { program := "ytpglaaiecgjmmaa", sum := "be3889463bed3cbd7cf5137b3524a33fb9345e20b8bf222990ab55cf1ad94004", func := "awardingbody/awardingbodylaw10.AssemblyRepeats", spec := "assemblyRepeats", unfollowed := true, recurses := true, apart := false, narrowed := true }
def AssemblyRepeatsUptoSaid : Prop := assemblyRepeatsUptoRow.holds Try.pinned (OpenSpec.upto assemblyRepeatsSpec)

/-- 'awardingbodylaw10.AssemblyForms', WHERE WHAT IT READS IS OF BULK AT MOST 1048576: true; the input reads as it did. -/
def assemblyFormsUptoRow : OpenClaim := { program := "ytpglaaiecgjmmaa", sum := "be3889463bed3cbd7cf5137b3524a33fb9345e20b8bf222990ab55cf1ad94004", func := "awardingbody/awardingbodylaw10.AssemblyForms", spec := "assemblyForms", unfollowed := true, recurses := true, apart := false, narrowed := true }
def AssemblyFormsUptoSaid : Prop := assemblyFormsUptoRow.holds Try.pinned (OpenSpec.upto assemblyFormsSpec)

/-- 'awardingbodylaw10.AssemblyPrograms', WHERE WHAT IT READS IS OF BULK AT MOST 1048576: true; the input reads as it did. -/
def assemblyProgramsUptoRow : OpenClaim := { program := "ytpglaaiecgjmmaa", sum := "be3889463bed3cbd7cf5137b3524a33fb9345e20b8bf222990ab55cf1ad94004", func := "awardingbody/awardingbodylaw10.AssemblyPrograms", spec := "assemblyPrograms", unfollowed := true, recurses := true, apart := false, narrowed := true }
def AssemblyProgramsUptoSaid : Prop := assemblyProgramsUptoRow.holds Try.pinned (OpenSpec.upto assemblyProgramsSpec)

end Rows
end Go.Proofs.Ytpglaaiecgjmmaa
