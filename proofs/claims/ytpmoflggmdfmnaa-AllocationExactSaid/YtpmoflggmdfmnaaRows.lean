/-
  No cell of these rows narrows 'for every input' (looked for: loops, veiled, ifaces, maps, wideKeys, modest, calm, conditions, laid).
  DERIVED. THE GIVEN ROWS OF THIS SEAT. 5 by the template 'for every input the law returns true; each argument reads behind the call as it read before'; 0 by the template 'total and deterministic' (their statements: YtpmoflggmdfmnaaTotals.lean).
  GIVEN WITH THE SEED: the statements are not yours to turn. If you find one false, say at which input.
  Laid BY PROGRAM, IN A SANDBOX (cutbox-rows.mjs): the forced cells as the released guide's own fill.sh prints them over the translation fac3b60fab484f18… (all of the seat's roots in one cut). By AI agents, Wed Nov 11 2026. No macro, syntax, notation, axiom, sorry.
-/
import Derived.Test.YtpmoflggmdfmnaaChecked
import GoSem.Claim
import GoSem.ClaimJoined
import GoSem.ClaimMapViews
import Derived.JoinedTies
import Derived.KernelRfl
namespace Go.Proofs.Ytpmoflggmdfmnaa
/- THE CELL 'sum', in the pinned program and in every row, IS THE sha256 OF THE DUMP (.gsa) THAT YtpmoflggmdfmnaaProg.lean LOADS. Nothing in Lean hashes anything: it is a label: what it is worth is what the hold of that sum in a sandbox is worth. -/
noncomputable def Try.pinned : Pinned := { name := "ytpmoflggmdfmnaa", sum := "fac3b60fab484f180f0a5dfa949061328d5d5f0282e8bc53a5e0aecd4a2a6c0e", checked := Try.checked }
namespace Rows
def none {H : Type} : Left H := { results := [], args := [] }

/-- 'awardingbodylaw25.AllocationExact': WHATEVER THE INPUT: true; the input reads as it did. -/
def allocationExactSpec : ChangeSpec := { name := "allocationExact", fn := fun _ => fun
  | [d1, d2, d3, d4] => { results := [.lit (.bool true)], args := [d1, d2, d3, d4] }
  | _ => none }
def allocationExactRow : OpenClaim := { program := "ytpmoflggmdfmnaa", sum := "fac3b60fab484f180f0a5dfa949061328d5d5f0282e8bc53a5e0aecd4a2a6c0e", func := "awardingbody/awardingbodylaw25.AllocationExact", spec := "allocationExact", unfollowed := true, recurses := true, apart := false }
def AllocationExactSaid : Prop := allocationExactRow.holds Try.pinned (OpenSpec.ofChange allocationExactSpec)

/-- ITS FALSE NEIGHBOUR: 'it returns false'. Refute it at one input. -/
def allocationExactWrong : ChangeSpec := { name := "allocationExact", fn := fun _ => fun
  | [d1, d2, d3, d4] => { results := [.lit (.bool false)], args := [d1, d2, d3, d4] }
  | _ => none }
def AllocationExactWrongFalsely : Prop := allocationExactRow.holds Try.pinned (OpenSpec.ofChange allocationExactWrong)

/-- 'awardingbodylaw26.SeedingHides': WHATEVER THE INPUT: true; the input reads as it did. -/
def seedingHidesSpec : ChangeSpec := { name := "seedingHides", fn := fun _ => fun
  | [d1, d2] => { results := [.lit (.bool true)], args := [d1, d2] }
  | _ => none }
def seedingHidesRow : OpenClaim := { program := "ytpmoflggmdfmnaa", sum := "fac3b60fab484f180f0a5dfa949061328d5d5f0282e8bc53a5e0aecd4a2a6c0e", func := "awardingbody/awardingbodylaw26.SeedingHides", spec := "seedingHides", unfollowed := true, recurses := true, apart := false }
def SeedingHidesSaid : Prop := seedingHidesRow.holds Try.pinned (OpenSpec.ofChange seedingHidesSpec)

/-- ITS FALSE NEIGHBOUR: 'it returns false'. Refute it at one input. -/
def seedingHidesWrong : ChangeSpec := { name := "seedingHides", fn := fun _ => fun
  | [d1, d2] => { results := [.lit (.bool false)], args := [d1, d2] }
  | _ => none }
def SeedingHidesWrongFalsely : Prop := seedingHidesRow.holds Try.pinned (OpenSpec.ofChange seedingHidesWrong)

/-- 'awardingbodylaw26.SeedingEverybody': WHATEVER THE INPUT: true; the input reads as it did. -/
def seedingEverybodySpec : ChangeSpec := { name := "seedingEverybody", fn := fun _ => fun
  | [d1, d2] => { results := [.lit (.bool true)], args := [d1, d2] }
  | _ => none }
def seedingEverybodyRow : OpenClaim := { program := "ytpmoflggmdfmnaa", sum := "fac3b60fab484f180f0a5dfa949061328d5d5f0282e8bc53a5e0aecd4a2a6c0e", func := "awardingbody/awardingbodylaw26.SeedingEverybody", spec := "seedingEverybody", unfollowed := true, recurses := true, apart := false }
def SeedingEverybodySaid : Prop := seedingEverybodyRow.holds Try.pinned (OpenSpec.ofChange seedingEverybodySpec)

/-- ITS FALSE NEIGHBOUR: 'it returns false'. Refute it at one input. -/
def seedingEverybodyWrong : ChangeSpec := { name := "seedingEverybody", fn := fun _ => fun
  | [d1, d2] => { results := [.lit (.bool false)], args := [d1, d2] }
  | _ => none }
def SeedingEverybodyWrongFalsely : Prop := seedingEverybodyRow.holds Try.pinned (OpenSpec.ofChange seedingEverybodyWrong)

/-- 'awardingbodylaw26.SeedingExact': WHATEVER THE INPUT: true; the input reads as it did. -/
def seedingExactSpec : ChangeSpec := { name := "seedingExact", fn := fun _ => fun
  | [d1, d2, d3, d4, d5] => { results := [.lit (.bool true)], args := [d1, d2, d3, d4, d5] }
  | _ => none }
def seedingExactRow : OpenClaim := { program := "ytpmoflggmdfmnaa", sum := "fac3b60fab484f180f0a5dfa949061328d5d5f0282e8bc53a5e0aecd4a2a6c0e", func := "awardingbody/awardingbodylaw26.SeedingExact", spec := "seedingExact", unfollowed := true, recurses := true, apart := false }
def SeedingExactSaid : Prop := seedingExactRow.holds Try.pinned (OpenSpec.ofChange seedingExactSpec)

/-- ITS FALSE NEIGHBOUR: 'it returns false'. Refute it at one input. -/
def seedingExactWrong : ChangeSpec := { name := "seedingExact", fn := fun _ => fun
  | [d1, d2, d3, d4, d5] => { results := [.lit (.bool false)], args := [d1, d2, d3, d4, d5] }
  | _ => none }
def SeedingExactWrongFalsely : Prop := seedingExactRow.holds Try.pinned (OpenSpec.ofChange seedingExactWrong)

/-- 'awardingbodylaw26.SeedingSecret': WHATEVER THE INPUT: true; the input reads as it did. -/
def seedingSecretSpec : ChangeSpec := { name := "seedingSecret", fn := fun _ => fun
  | [d] => { results := [.lit (.bool true)], args := [d] }
  | _ => none }
def seedingSecretRow : OpenClaim := { program := "ytpmoflggmdfmnaa", sum := "fac3b60fab484f180f0a5dfa949061328d5d5f0282e8bc53a5e0aecd4a2a6c0e", func := "awardingbody/awardingbodylaw26.SeedingSecret", spec := "seedingSecret", unfollowed := true, recurses := true, apart := false }
def SeedingSecretSaid : Prop := seedingSecretRow.holds Try.pinned (OpenSpec.ofChange seedingSecretSpec)

/-- ITS FALSE NEIGHBOUR: 'it returns false'. Refute it at one input. -/
def seedingSecretWrong : ChangeSpec := { name := "seedingSecret", fn := fun _ => fun
  | [d] => { results := [.lit (.bool false)], args := [d] }
  | _ => none }
def SeedingSecretWrongFalsely : Prop := seedingSecretRow.holds Try.pinned (OpenSpec.ofChange seedingSecretWrong)

/- THE SECOND FORM. 'bulk': how many values and letters a reading holds, each counted each time it is reached (what is shared counts as often as it is met; a slice's spare places count too). A statement '..UptoSaid' is the law's where the arguments, and the package variables that the reading takes, are together of bulk at most 1048576: NARROWER than '..Said'. Prove '..Said' where nothing that the law and all that it calls make is longer than what came in: it says more and counts as full. Else prove '..UptoSaid'. A law counts once. -/
mutual
def uptoBulk {H : Type} : DataW H → Nat
  | .lit (.string bytes) => bytes.length + 1
  | .lit _ => 1
  | .nil => 1
  | .ptr d => uptoBulk d + 1
  | .slice elems spare => uptoBulkAll elems + uptoBulkAll spare + 1
  | .agg parts => uptoBulkAll parts + 1
  | .iface _ d => uptoBulk d + 1
  | .map entries => uptoBulkEntries entries + 1
  | .held _ => 1
def uptoBulkAll {H : Type} : List (DataW H) → Nat
  | [] => 0
  | d :: r => uptoBulk d + uptoBulkAll r
def uptoBulkEntries {H : Type} : List (Lit × DataW H) → Nat
  | [] => 0
  | x :: r => uptoBulkEntry x + uptoBulkEntries r
def uptoBulkEntry {H : Type} : Lit × DataW H → Nat
  | (.string bytes, d) => bytes.length + uptoBulk d + 1
  | (_, d) => uptoBulk d + 1
 end
def uptoSmall : (H : Type) → List (DataW H) → Bool := fun _ ds => decide (uptoBulkAll ds ≤ 1048576)
def OpenSpec.upto (s : _root_.Go.ChangeSpec) : _root_.Go.OpenSpec := { _root_.Go.OpenSpec.ofChange s with cond := some uptoSmall }

/-- 'awardingbodylaw25.AllocationExact', WHERE WHAT IT READS IS OF BULK AT MOST 1048576: true; the input reads as it did. -/
def allocationExactUptoRow : OpenClaim := { program := "ytpmoflggmdfmnaa", sum := "fac3b60fab484f180f0a5dfa949061328d5d5f0282e8bc53a5e0aecd4a2a6c0e", func := "awardingbody/awardingbodylaw25.AllocationExact", spec := "allocationExact", unfollowed := true, recurses := true, apart := false, narrowed := true }
def AllocationExactUptoSaid : Prop := allocationExactUptoRow.holds Try.pinned (OpenSpec.upto allocationExactSpec)

/-- 'awardingbodylaw26.SeedingHides', WHERE WHAT IT READS IS OF BULK AT MOST 1048576: true; the input reads as it did. -/
def seedingHidesUptoRow : OpenClaim := { program := "ytpmoflggmdfmnaa", sum := "fac3b60fab484f180f0a5dfa949061328d5d5f0282e8bc53a5e0aecd4a2a6c0e", func := "awardingbody/awardingbodylaw26.SeedingHides", spec := "seedingHides", unfollowed := true, recurses := true, apart := false, narrowed := true }
def SeedingHidesUptoSaid : Prop := seedingHidesUptoRow.holds Try.pinned (OpenSpec.upto seedingHidesSpec)

/-- 'awardingbodylaw26.SeedingEverybody', WHERE WHAT IT READS IS OF BULK AT MOST 1048576: true; the input reads as it did. -/
def seedingEverybodyUptoRow : OpenClaim := { program := "ytpmoflggmdfmnaa", sum := "fac3b60fab484f180f0a5dfa949061328d5d5f0282e8bc53a5e0aecd4a2a6c0e", func := "awardingbody/awardingbodylaw26.SeedingEverybody", spec := "seedingEverybody", unfollowed := true, recurses := true, apart := false, narrowed := true }
def SeedingEverybodyUptoSaid : Prop := seedingEverybodyUptoRow.holds Try.pinned (OpenSpec.upto seedingEverybodySpec)

/-- 'awardingbodylaw26.SeedingExact', WHERE WHAT IT READS IS OF BULK AT MOST 1048576: true; the input reads as it did. -/
def seedingExactUptoRow : OpenClaim := { program := "ytpmoflggmdfmnaa", sum := "fac3b60fab484f180f0a5dfa949061328d5d5f0282e8bc53a5e0aecd4a2a6c0e", func := "awardingbody/awardingbodylaw26.SeedingExact", spec := "seedingExact", unfollowed := true, recurses := true, apart := false, narrowed := true }
def SeedingExactUptoSaid : Prop := seedingExactUptoRow.holds Try.pinned (OpenSpec.upto seedingExactSpec)

/-- 'awardingbodylaw26.SeedingSecret', WHERE WHAT IT READS IS OF BULK AT MOST 1048576: true; the input reads as it did. -/
def seedingSecretUptoRow : OpenClaim := { program := "ytpmoflggmdfmnaa", sum := "fac3b60fab484f180f0a5dfa949061328d5d5f0282e8bc53a5e0aecd4a2a6c0e", func := "awardingbody/awardingbodylaw26.SeedingSecret", spec := "seedingSecret", unfollowed := true, recurses := true, apart := false, narrowed := true }
def SeedingSecretUptoSaid : Prop := seedingSecretUptoRow.holds Try.pinned (OpenSpec.upto seedingSecretSpec)

end Rows
end Go.Proofs.Ytpmoflggmdfmnaa
