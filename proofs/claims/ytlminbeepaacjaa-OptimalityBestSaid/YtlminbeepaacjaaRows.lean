/-
  No cell of these rows narrows 'for every input' (looked for: loops, veiled, ifaces, maps, wideKeys, modest, calm, conditions, laid).
  DERIVED. THE GIVEN ROWS OF THIS SEAT. 9 by the template 'for every input the law returns true; each argument reads behind the call as it read before'; 0 by the template 'total and deterministic' (their statements: YtlminbeepaacjaaTotals.lean).
  GIVEN WITH THE SEED: the statements are not yours to turn. If you find one false, say at which input.
  Laid BY PROGRAM, IN A SANDBOX (cutbox-rows.mjs): the forced cells as the released guide's own fill.sh prints them over the translation 4732b68e9bc18213… (all of the seat's roots in one cut). By AI agents, Wed Nov 11 2026. No macro, syntax, notation, axiom, sorry.
-/
import Derived.Test.YtlminbeepaacjaaChecked
import GoSem.Claim
import GoSem.ClaimJoined
import GoSem.ClaimMapViews
import Derived.JoinedTies
import Derived.KernelRfl
namespace Go.Proofs.Ytlminbeepaacjaa
/- THE CELL 'sum', in the pinned program and in every row, IS THE sha256 OF THE DUMP (.gsa) THAT YtlminbeepaacjaaProg.lean LOADS. Nothing in Lean hashes anything: it is a label: what it is worth is what the hold of that sum in a sandbox is worth. -/
noncomputable def Try.pinned : Pinned := { name := "ytlminbeepaacjaa", sum := "4732b68e9bc182137c022d317436f8eddc50daa75754c30f489a0358e8cff9a3", checked := Try.checked }
namespace Rows
def none {H : Type} : Left H := { results := [], args := [] }

/-- 'awardingbodylaw09.OptimalityBounds': WHATEVER THE INPUT: true; the input reads as it did. -/
def optimalityBoundsSpec : ChangeSpec := { name := "optimalityBounds", fn := fun _ => fun
  | [d1, d2, d3] => { results := [.lit (.bool true)], args := [d1, d2, d3] }
  | _ => none }
def optimalityBoundsRow : OpenClaim := { program := "ytlminbeepaacjaa", sum := "4732b68e9bc182137c022d317436f8eddc50daa75754c30f489a0358e8cff9a3", func := "awardingbody/awardingbodylaw09.OptimalityBounds", spec := "optimalityBounds", unfollowed := true, recurses := true, apart := false }
def OptimalityBoundsSaid : Prop := optimalityBoundsRow.holds Try.pinned (OpenSpec.ofChange optimalityBoundsSpec)

/-- ITS FALSE NEIGHBOUR: 'it returns false'. Refute it at one input. -/
def optimalityBoundsWrong : ChangeSpec := { name := "optimalityBounds", fn := fun _ => fun
  | [d1, d2, d3] => { results := [.lit (.bool false)], args := [d1, d2, d3] }
  | _ => none }
def OptimalityBoundsWrongFalsely : Prop := optimalityBoundsRow.holds Try.pinned (OpenSpec.ofChange optimalityBoundsWrong)

/-- 'awardingbodylaw09.OptimalityStates': WHATEVER THE INPUT: true; the input reads as it did. -/
def optimalityStatesSpec : ChangeSpec := { name := "optimalityStates", fn := fun _ => fun
  | [d] => { results := [.lit (.bool true)], args := [d] }
  | _ => none }
def optimalityStatesRow : OpenClaim := { program := "ytlminbeepaacjaa", sum := "4732b68e9bc182137c022d317436f8eddc50daa75754c30f489a0358e8cff9a3", func := "awardingbody/awardingbodylaw09.OptimalityStates", spec := "optimalityStates", unfollowed := true, recurses := true, apart := false }
def OptimalityStatesSaid : Prop := optimalityStatesRow.holds Try.pinned (OpenSpec.ofChange optimalityStatesSpec)

/-- ITS FALSE NEIGHBOUR: 'it returns false'. Refute it at one input. -/
def optimalityStatesWrong : ChangeSpec := { name := "optimalityStates", fn := fun _ => fun
  | [d] => { results := [.lit (.bool false)], args := [d] }
  | _ => none }
def OptimalityStatesWrongFalsely : Prop := optimalityStatesRow.holds Try.pinned (OpenSpec.ofChange optimalityStatesWrong)

/-- 'awardingbodylaw09.OptimalityProves': WHATEVER THE INPUT: true; the input reads as it did. -/
def optimalityProvesSpec : ChangeSpec := { name := "optimalityProves", fn := fun _ => fun
  | [d] => { results := [.lit (.bool true)], args := [d] }
  | _ => none }
def optimalityProvesRow : OpenClaim := { program := "ytlminbeepaacjaa", sum := "4732b68e9bc182137c022d317436f8eddc50daa75754c30f489a0358e8cff9a3", func := "awardingbody/awardingbodylaw09.OptimalityProves", spec := "optimalityProves", unfollowed := true, recurses := true, apart := false }
def OptimalityProvesSaid : Prop := optimalityProvesRow.holds Try.pinned (OpenSpec.ofChange optimalityProvesSpec)

/-- ITS FALSE NEIGHBOUR: 'it returns false'. Refute it at one input. -/
def optimalityProvesWrong : ChangeSpec := { name := "optimalityProves", fn := fun _ => fun
  | [d] => { results := [.lit (.bool false)], args := [d] }
  | _ => none }
def OptimalityProvesWrongFalsely : Prop := optimalityProvesRow.holds Try.pinned (OpenSpec.ofChange optimalityProvesWrong)

/-- 'awardingbodylaw09.OptimalityChecks': WHATEVER THE INPUT: true; the input reads as it did. -/
def optimalityChecksSpec : ChangeSpec := { name := "optimalityChecks", fn := fun _ => fun
  | [d1, d2] => { results := [.lit (.bool true)], args := [d1, d2] }
  | _ => none }
def optimalityChecksRow : OpenClaim := { program := "ytlminbeepaacjaa", sum := "4732b68e9bc182137c022d317436f8eddc50daa75754c30f489a0358e8cff9a3", func := "awardingbody/awardingbodylaw09.OptimalityChecks", spec := "optimalityChecks", unfollowed := true, recurses := true, apart := false }
def OptimalityChecksSaid : Prop := optimalityChecksRow.holds Try.pinned (OpenSpec.ofChange optimalityChecksSpec)

/-- ITS FALSE NEIGHBOUR: 'it returns false'. Refute it at one input. -/
def optimalityChecksWrong : ChangeSpec := { name := "optimalityChecks", fn := fun _ => fun
  | [d1, d2] => { results := [.lit (.bool false)], args := [d1, d2] }
  | _ => none }
def OptimalityChecksWrongFalsely : Prop := optimalityChecksRow.holds Try.pinned (OpenSpec.ofChange optimalityChecksWrong)

/-- 'awardingbodylaw09.OptimalityMany': WHATEVER THE INPUT: true; the input reads as it did. -/
def optimalityManySpec : ChangeSpec := { name := "optimalityMany", fn := fun _ => fun
  | [d] => { results := [.lit (.bool true)], args := [d] }
  | _ => none }
def optimalityManyRow : OpenClaim := { program := "ytlminbeepaacjaa", sum := "4732b68e9bc182137c022d317436f8eddc50daa75754c30f489a0358e8cff9a3", func := "awardingbody/awardingbodylaw09.OptimalityMany", spec := "optimalityMany", unfollowed := true, recurses := true, apart := false }
def OptimalityManySaid : Prop := optimalityManyRow.holds Try.pinned (OpenSpec.ofChange optimalityManySpec)

/-- ITS FALSE NEIGHBOUR: 'it returns false'. Refute it at one input. -/
def optimalityManyWrong : ChangeSpec := { name := "optimalityMany", fn := fun _ => fun
  | [d] => { results := [.lit (.bool false)], args := [d] }
  | _ => none }
def OptimalityManyWrongFalsely : Prop := optimalityManyRow.holds Try.pinned (OpenSpec.ofChange optimalityManyWrong)

/-- 'awardingbodylaw09.OptimalityBoundSound': WHATEVER THE INPUT: true; the input reads as it did. -/
def optimalityBoundSoundSpec : ChangeSpec := { name := "optimalityBoundSound", fn := fun _ => fun
  | [d1, d2, d3] => { results := [.lit (.bool true)], args := [d1, d2, d3] }
  | _ => none }
def optimalityBoundSoundRow : OpenClaim := { program := "ytlminbeepaacjaa", sum := "4732b68e9bc182137c022d317436f8eddc50daa75754c30f489a0358e8cff9a3", func := "awardingbody/awardingbodylaw09.OptimalityBoundSound", spec := "optimalityBoundSound", unfollowed := true, recurses := true, apart := false }
def OptimalityBoundSoundSaid : Prop := optimalityBoundSoundRow.holds Try.pinned (OpenSpec.ofChange optimalityBoundSoundSpec)

/-- ITS FALSE NEIGHBOUR: 'it returns false'. Refute it at one input. -/
def optimalityBoundSoundWrong : ChangeSpec := { name := "optimalityBoundSound", fn := fun _ => fun
  | [d1, d2, d3] => { results := [.lit (.bool false)], args := [d1, d2, d3] }
  | _ => none }
def OptimalityBoundSoundWrongFalsely : Prop := optimalityBoundSoundRow.holds Try.pinned (OpenSpec.ofChange optimalityBoundSoundWrong)

/-- 'awardingbodylaw09.OptimalitySound': WHATEVER THE INPUT: true; the input reads as it did. -/
def optimalitySoundSpec : ChangeSpec := { name := "optimalitySound", fn := fun _ => fun
  | [d1, d2] => { results := [.lit (.bool true)], args := [d1, d2] }
  | _ => none }
def optimalitySoundRow : OpenClaim := { program := "ytlminbeepaacjaa", sum := "4732b68e9bc182137c022d317436f8eddc50daa75754c30f489a0358e8cff9a3", func := "awardingbody/awardingbodylaw09.OptimalitySound", spec := "optimalitySound", unfollowed := true, recurses := true, apart := false }
def OptimalitySoundSaid : Prop := optimalitySoundRow.holds Try.pinned (OpenSpec.ofChange optimalitySoundSpec)

/-- ITS FALSE NEIGHBOUR: 'it returns false'. Refute it at one input. -/
def optimalitySoundWrong : ChangeSpec := { name := "optimalitySound", fn := fun _ => fun
  | [d1, d2] => { results := [.lit (.bool false)], args := [d1, d2] }
  | _ => none }
def OptimalitySoundWrongFalsely : Prop := optimalitySoundRow.holds Try.pinned (OpenSpec.ofChange optimalitySoundWrong)

/-- 'awardingbodylaw09.OptimalityBest': WHATEVER THE INPUT: true; the input reads as it did. -/
def optimalityBestSpec : ChangeSpec := { name := "optimalityBest", fn := fun _ => fun
  | [d] => { results := [.lit (.bool true)], args := [d] }
  | _ => none }
def optimalityBestRow : OpenClaim := { program := "ytlminbeepaacjaa", sum := "4732b68e9bc182137c022d317436f8eddc50daa75754c30f489a0358e8cff9a3", func := "awardingbody/awardingbodylaw09.OptimalityBest", spec := "optimalityBest", unfollowed := true, recurses := true, apart := false }
def OptimalityBestSaid : Prop := optimalityBestRow.holds Try.pinned (OpenSpec.ofChange optimalityBestSpec)

/-- ITS FALSE NEIGHBOUR: 'it returns false'. Refute it at one input. -/
def optimalityBestWrong : ChangeSpec := { name := "optimalityBest", fn := fun _ => fun
  | [d] => { results := [.lit (.bool false)], args := [d] }
  | _ => none }
def OptimalityBestWrongFalsely : Prop := optimalityBestRow.holds Try.pinned (OpenSpec.ofChange optimalityBestWrong)

/-- 'awardingbodylaw09.OptimalityDivides': WHATEVER THE INPUT: true; the input reads as it did. -/
def optimalityDividesSpec : ChangeSpec := { name := "optimalityDivides", fn := fun _ => fun
  | [d] => { results := [.lit (.bool true)], args := [d] }
  | _ => none }
def optimalityDividesRow : OpenClaim := { program := "ytlminbeepaacjaa", sum := "4732b68e9bc182137c022d317436f8eddc50daa75754c30f489a0358e8cff9a3", func := "awardingbody/awardingbodylaw09.OptimalityDivides", spec := "optimalityDivides", unfollowed := true, recurses := true, apart := false }
def OptimalityDividesSaid : Prop := optimalityDividesRow.holds Try.pinned (OpenSpec.ofChange optimalityDividesSpec)

/-- ITS FALSE NEIGHBOUR: 'it returns false'. Refute it at one input. -/
def optimalityDividesWrong : ChangeSpec := { name := "optimalityDivides", fn := fun _ => fun
  | [d] => { results := [.lit (.bool false)], args := [d] }
  | _ => none }
def OptimalityDividesWrongFalsely : Prop := optimalityDividesRow.holds Try.pinned (OpenSpec.ofChange optimalityDividesWrong)

/- THE SECOND FORM. 'bulk': how many values and letters a reading holds, each counted each time it is reached (what is shared counts as often as it is met; a slice's spare places count too). A statement '..UptoSaid' is the law's where the arguments, and the package variables that the reading takes, are together of bulk at most 1048576: NARROWER than '..Said'. Prove '..Said' where nothing that the law and all that it calls make is longer than what came in: it says more and counts as full. Else prove '..UptoSaid'. A law counts once. -/
mutual
def uptoBulk {H : Type} : DataW H → Nat
  | .lit (.string bytes) => bytes.length + 1
  | .lit _ => 1
  | .nil => 1
  | .ptr d => uptoBulk d + 1
  | .slice elems spare => uptoBulkAll elems + uptoBulkAll spare + 1
  | .agg parts => uptoBulkAll parts + 1
  | .iface _ d => uptoBulk d + 1
  | .map entries => uptoBulkEntries entries + 1
  | .held _ => 1
def uptoBulkAll {H : Type} : List (DataW H) → Nat
  | [] => 0
  | d :: r => uptoBulk d + uptoBulkAll r
def uptoBulkEntries {H : Type} : List (Lit × DataW H) → Nat
  | [] => 0
  | x :: r => uptoBulkEntry x + uptoBulkEntries r
def uptoBulkEntry {H : Type} : Lit × DataW H → Nat
  | (.string bytes, d) => bytes.length + uptoBulk d + 1
  | (_, d) => uptoBulk d + 1
 end
def uptoSmall : (H : Type) → List (DataW H) → Bool := fun _ ds => decide (uptoBulkAll ds ≤ 1048576)
def OpenSpec.upto (s : _root_.Go.ChangeSpec) : _root_.Go.OpenSpec := { _root_.Go.OpenSpec.ofChange s with cond := some uptoSmall }

/-- 'awardingbodylaw09.OptimalityBounds', WHERE WHAT IT READS IS OF BULK AT MOST 1048576: true; the input reads as it did. -/
def optimalityBoundsUptoRow : OpenClaim := { program := "ytlminbeepaacjaa", sum := "4732b68e9bc182137c022d317436f8eddc50daa75754c30f489a0358e8cff9a3", func := "awardingbody/awardingbodylaw09.OptimalityBounds", spec := "optimalityBounds", unfollowed := true, recurses := true, apart := false, narrowed := true }
def OptimalityBoundsUptoSaid : Prop := optimalityBoundsUptoRow.holds Try.pinned (OpenSpec.upto optimalityBoundsSpec)

/-- 'awardingbodylaw09.OptimalityStates', WHERE WHAT IT READS IS OF BULK AT MOST 1048576: true; the input reads as it did. -/
def optimalityStatesUptoRow : OpenClaim := { program := "ytlminbeepaacjaa", sum := "4732b68e9bc182137c022d317436f8eddc50daa75754c30f489a0358e8cff9a3", func := "awardingbody/awardingbodylaw09.OptimalityStates", spec := "optimalityStates", unfollowed := true, recurses := true, apart := false, narrowed := true }
def OptimalityStatesUptoSaid : Prop := optimalityStatesUptoRow.holds Try.pinned (OpenSpec.upto optimalityStatesSpec)

/-- 'awardingbodylaw09.OptimalityProves', WHERE WHAT IT READS IS OF BULK AT MOST 1048576: true; the input reads as it did. -/
def optimalityProvesUptoRow : OpenClaim := { program := "ytlminbeepaacjaa", sum := "4732b68e9bc182137c022d317436f8eddc50daa75754c30f489a0358e8cff9a3", func := "awardingbody/awardingbodylaw09.OptimalityProves", spec := "optimalityProves", unfollowed := true, recurses := true, apart := false, narrowed := true }
def OptimalityProvesUptoSaid : Prop := optimalityProvesUptoRow.holds Try.pinned (OpenSpec.upto optimalityProvesSpec)

/-- 'awardingbodylaw09.OptimalityChecks', WHERE WHAT IT READS IS OF BULK AT MOST 1048576: true; the input reads as it did. -/
def optimalityChecksUptoRow : OpenClaim := { program := "ytlminbeepaacjaa", sum := "4732b68e9bc182137c022d317436f8eddc50daa75754c30f489a0358e8cff9a3", func := "awardingbody/awardingbodylaw09.OptimalityChecks", spec := "optimalityChecks", unfollowed := true, recurses := true, apart := false, narrowed := true }
def OptimalityChecksUptoSaid : Prop := optimalityChecksUptoRow.holds Try.pinned (OpenSpec.upto optimalityChecksSpec)

/-- 'awardingbodylaw09.OptimalityMany', WHERE WHAT IT READS IS OF BULK AT MOST 1048576: true; the input reads as it did. -/
def optimalityManyUptoRow : OpenClaim := { program := "ytlminbeepaacjaa", sum := "4732b68e9bc182137c022d317436f8eddc50daa75754c30f489a0358e8cff9a3", func := "awardingbody/awardingbodylaw09.OptimalityMany", spec := "optimalityMany", unfollowed := true, recurses := true, apart := false, narrowed := true }
def OptimalityManyUptoSaid : Prop := optimalityManyUptoRow.holds Try.pinned (OpenSpec.upto optimalityManySpec)

/-- 'awardingbodylaw09.OptimalityBoundSound', WHERE WHAT IT READS IS OF BULK AT MOST 1048576: true; the input reads as it did. -/
def optimalityBoundSoundUptoRow : OpenClaim := { program := "ytlminbeepaacjaa", sum := "4732b68e9bc182137c022d317436f8eddc50daa75754c30f489a0358e8cff9a3", func := "awardingbody/awardingbodylaw09.OptimalityBoundSound", spec := "optimalityBoundSound", unfollowed := true, recurses := true, apart := false, narrowed := true }
def OptimalityBoundSoundUptoSaid : Prop := optimalityBoundSoundUptoRow.holds Try.pinned (OpenSpec.upto optimalityBoundSoundSpec)

/-- 'awardingbodylaw09.OptimalitySound', WHERE WHAT IT READS IS OF BULK AT MOST 1048576: true; the input reads as it did. -/
def optimalitySoundUptoRow : OpenClaim := { program := "ytlminbeepaacjaa", sum := "4732b68e9bc182137c022d317436f8eddc50daa75754c30f489a0358e8cff9a3", func := "awardingbody/awardingbodylaw09.OptimalitySound", spec := "optimalitySound", unfollowed := true, recurses := true, apart := false, narrowed := true }
def OptimalitySoundUptoSaid : Prop := optimalitySoundUptoRow.holds Try.pinned (OpenSpec.upto optimalitySoundSpec)

/-- 'awardingbodylaw09.OptimalityBest', WHERE WHAT IT READS IS OF BULK AT MOST 1048576: true; the input reads as it did. -/
def optimalityBestUptoRow : OpenClaim := { program := "ytlminbeepaacjaa", sum := "4732b68e9bc182137c022d317436f8eddc50daa75754c30f489a0358e8cff9a3", func := "awardingbody/awardingbodylaw09.OptimalityBest", spec := "optimalityBest", unfollowed := true, recurses := true, apart := false, narrowed := true }
def OptimalityBestUptoSaid : Prop := optimalityBestUptoRow.holds Try.pinned (OpenSpec.upto optimalityBestSpec)

/-- 'awardingbodylaw09.OptimalityDivides', WHERE WHAT IT READS IS OF BULK AT MOST 1048576: true; the input reads as it did. -/
def optimalityDividesUptoRow : OpenClaim := { program := "ytlminbeepaacjaa", sum := "4732b68e9bc182137c022d317436f8eddc50daa75754c30f489a0358e8cff9a3", func := "awardingbody/awardingbodylaw09.OptimalityDivides", spec := "optimalityDivides", unfollowed := true, recurses := true, apart := false, narrowed := true }
def OptimalityDividesUptoSaid : Prop := optimalityDividesUptoRow.holds Try.pinned (OpenSpec.upto optimalityDividesSpec)

end Rows
end Go.Proofs.Ytlminbeepaacjaa
