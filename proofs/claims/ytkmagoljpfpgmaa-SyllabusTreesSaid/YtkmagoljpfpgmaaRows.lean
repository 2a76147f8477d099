/-
  No cell of these rows narrows 'for every input' (looked for: loops, veiled, ifaces, maps, wideKeys, modest, calm, conditions, laid).
  DERIVED. THE GIVEN ROWS OF THIS SEAT. 3 by the template 'for every input the law returns true; each argument reads behind the call as it read before'; 0 by the template 'total and deterministic' (their statements: YtkmagoljpfpgmaaTotals.lean).
  GIVEN WITH THE SEED: the statements are not yours to turn. If you find one false, say at which input.
  Laid BY PROGRAM, IN A SANDBOX (cutbox-rows.mjs): the forced cells as the released guide's own fill.sh prints them over the translation 69099d803d3ecaa9… (all of the seat's roots in one cut). By AI agents, Wed Nov 11 2026. No macro, syntax, notation, axiom, sorry.
-/
import Derived.Test.YtkmagoljpfpgmaaChecked
import GoSem.Claim
import GoSem.ClaimJoined
import GoSem.ClaimMapViews
import Derived.JoinedTies
import Derived.KernelRfl
namespace Go.Proofs.Ytkmagoljpfpgmaa
/- THE CELL 'sum', in the pinned program and in every row, IS THE sha256 OF THE DUMP (.gsa) THAT YtkmagoljpfpgmaaProg.lean LOADS. Nothing in Lean hashes anything: it is a label: what it is worth is what the hold of that sum in a sandbox is worth. -/
noncomputable def Try.pinned : Pinned := { name := "ytkmagoljpfpgmaa", sum := "69099d803d3ecaa97fcd17e405229d84014b722b852cdfdff293e8440f05fc45", checked := Try.checked }
namespace Rows
def none {H : Type} : Left H := { results := [], args := [] }

/-- 'awardingbodylaw05.SyllabusWhole': WHATEVER THE INPUT: true; the input reads as it did. -/
def syllabusWholeSpec : ChangeSpec := { name := "syllabusWhole", fn := fun _ => fun
  | [d] => { results := [.lit (.bool true)], args := [d] }
  | _ => none }
def syllabusWholeRow : OpenClaim := { program := "ytkmagoljpfpgmaa", sum := "69099d803d3ecaa97fcd17e405229d84014b722b852cdfdff293e8440f05fc45", func := "awardingbody/awardingbodylaw05.SyllabusWhole", spec := "syllabusWhole", inPlace := ["math/bits.Add64", "math/bits.Sub64"], named := ["math/bits.divideError", "math/bits.overflowError"], apart := false }
def SyllabusWholeSaid : Prop := syllabusWholeRow.holds Try.pinned (OpenSpec.ofChange syllabusWholeSpec)

/-- ITS FALSE NEIGHBOUR: 'it returns false'. Refute it at one input. -/
def syllabusWholeWrong : ChangeSpec := { name := "syllabusWhole", fn := fun _ => fun
  | [d] => { results := [.lit (.bool false)], args := [d] }
  | _ => none }
def SyllabusWholeWrongFalsely : Prop := syllabusWholeRow.holds Try.pinned (OpenSpec.ofChange syllabusWholeWrong)

/-- 'awardingbodylaw05.SyllabusTrees': WHATEVER THE INPUT: true; the input reads as it did. -/
def syllabusTreesSpec : ChangeSpec := { name := "syllabusTrees", fn := fun _ => fun
  | [d1, d2, d3] => { results := [.lit (.bool true)], args := [d1, d2, d3] }
  | _ => none }
def syllabusTreesRow : OpenClaim := { program := "ytkmagoljpfpgmaa", sum := "69099d803d3ecaa97fcd17e405229d84014b722b852cdfdff293e8440f05fc45", func := "awardingbody/awardingbodylaw05.SyllabusTrees", spec := "syllabusTrees", unfollowed := true, recurses := true, apart := false }
def SyllabusTreesSaid : Prop := syllabusTreesRow.holds Try.pinned (OpenSpec.ofChange syllabusTreesSpec)

/-- ITS FALSE NEIGHBOUR: 'it returns false'. Refute it at one input. -/
def syllabusTreesWrong : ChangeSpec := { name := "syllabusTrees", fn := fun _ => fun
  | [d1, d2, d3] => { results := [.lit (.bool false)], args := [d1, d2, d3] }
  | _ => none }
def SyllabusTreesWrongFalsely : Prop := syllabusTreesRow.holds Try.pinned (OpenSpec.ofChange syllabusTreesWrong)

/-- 'awardingbodylaw05.SyllabusInverse': WHATEVER THE INPUT: true; the input reads as it did. -/
def syllabusInverseSpec : ChangeSpec := { name := "syllabusInverse", fn := fun _ => fun
  | [d1, d2, d3] => { results := [.lit (.bool true)], args := [d1, d2, d3] }
  | _ => none }
def syllabusInverseRow : OpenClaim := { program := "ytkmagoljpfpgmaa", sum := "69099d803d3ecaa97fcd17e405229d84014b722b852cdfdff293e8440f05fc45", func := "awardingbody/awardingbodylaw05.SyllabusInverse", spec := "syllabusInverse", unfollowed := true, recurses := true, apart := false }
def SyllabusInverseSaid : Prop := syllabusInverseRow.holds Try.pinned (OpenSpec.ofChange syllabusInverseSpec)

/-- ITS FALSE NEIGHBOUR: 'it returns false'. Refute it at one input. -/
def syllabusInverseWrong : ChangeSpec := { name := "syllabusInverse", fn := fun _ => fun
  | [d1, d2, d3] => { results := [.lit (.bool false)], args := [d1, d2, d3] }
  | _ => none }
def SyllabusInverseWrongFalsely : Prop := syllabusInverseRow.holds Try.pinned (OpenSpec.ofChange syllabusInverseWrong)

/- THE SECOND FORM. 'bulk': how many values and letters a reading holds, each counted each time it is reached (what is shared counts as often as it is met; a slice's spare places count too). A statement '..UptoSaid' is the law's where the arguments, and the package variables that the reading takes, are together of bulk at most 1048576: NARROWER than '..Said'. Prove '..Said' where nothing that the law and all that it calls make is longer than what came in: it says more and counts as full. Else prove '..UptoSaid'. A law counts once. -/
mutual
def uptoBulk {H : Type} : DataW H → Nat
  | .lit (.string bytes) => bytes.length + 1
  | .lit _ => 1
  | .nil => 1
  | .ptr d => uptoBulk d + 1
  | .slice elems spare => uptoBulkAll elems + uptoBulkAll spare + 1
  | .agg parts => uptoBulkAll parts + 1
  | .iface _ d => uptoBulk d + 1
  | .map entries => uptoBulkEntries entries + 1
  | .held _ => 1
def uptoBulkAll {H : Type} : List (DataW H) → Nat
  | [] => 0
  | d :: r => uptoBulk d + uptoBulkAll r
def uptoBulkEntries {H : Type} : List (Lit × DataW H) → Nat
  | [] => 0
  | x :: r => uptoBulkEntry x + uptoBulkEntries r
def uptoBulkEntry {H : Type} : Lit × DataW H → Nat
  | (.string bytes, d) => bytes.length + uptoBulk d + 1
  | (_, d) => uptoBulk d + 1
 end
def uptoSmall : (H : Type) → List (DataW H) → Bool := fun _ ds => decide (uptoBulkAll ds ≤ 1048576)
def OpenSpec.upto (s : _root_.Go.ChangeSpec) : _root_.Go.OpenSpec := { _root_.Go.OpenSpec.ofChange s with cond := some uptoSmall }

/-- 'awardingbodylaw05.SyllabusWhole', WHERE WHAT IT READS IS OF BULK AT MOST 1048576: true; the input reads as it did. -/
def syllabusWholeUptoRow : OpenClaim := { program := "ytkmagoljpfpgmaa", sum := "69099d803d3ecaa97fcd17e405229d84014b722b852cdfdff293e8440f05fc45", func := "awardingbody/awardingbodylaw05.SyllabusWhole", spec := "syllabusWhole", inPlace := ["math/bits.Add64", "math/bits.Sub64"], named := ["math/bits.divideError", "math/bits.overflowError"], apart := false, narrowed := true }
def SyllabusWholeUptoSaid : Prop := syllabusWholeUptoRow.holds Try.pinned (OpenSpec.upto syllabusWholeSpec)

/-- 'awardingbodylaw05.SyllabusTrees', WHERE WHAT IT READS IS OF BULK AT MOST 1048576: true; the input reads as it did. -/
def syllabusTreesUptoRow : OpenClaim := { program := "ytkmagoljpfpgmaa", sum := "69099d803d3ecaa97fcd17e405229d84014b722b852cdfdff293e8440f05fc45", func := "awardingbody/awardingbodylaw05.SyllabusTrees", spec := "syllabusTrees", unfollowed := true, recurses := true, apart := false, narrowed := true }
def SyllabusTreesUptoSaid : Prop := syllabusTreesUptoRow.holds Try.pinned (OpenSpec.upto syllabusTreesSpec)

/-- 'awardingbodylaw05.SyllabusInverse', WHERE WHAT IT READS IS OF BULK AT MOST 1048576: true; the input reads as it did. -/
def syllabusInverseUptoRow : OpenClaim := { program := "ytkmagoljpfpgmaa", sum := "69099d803d3ecaa97fcd17e405229d84014b722b852cdfdff293e8440f05fc45", func := "awardingbody/awardingbodylaw05.SyllabusInverse", spec := "syllabusInverse", unfollowed := true, recurses := true, apart := false, narrowed := true }
def SyllabusInverseUptoSaid : Prop := syllabusInverseUptoRow.holds Try.pinned (OpenSpec.upto syllabusInverseSpec)

end Rows
end Go.Proofs.Ytkmagoljpfpgmaa
