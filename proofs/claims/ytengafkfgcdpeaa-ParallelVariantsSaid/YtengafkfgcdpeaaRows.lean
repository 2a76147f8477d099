/-
  No cell of these rows narrows 'for every input' (looked for: loops, veiled, ifaces, maps, wideKeys, modest, calm, conditions, laid).
  DERIVED. THE GIVEN ROWS OF THIS SEAT. 8 by the template 'for every input the law returns true; each argument reads behind the call as it read before'; 0 by the template 'total and deterministic' (their statements: YtengafkfgcdpeaaTotals.lean).
  GIVEN WITH THE SEED: the statements are not yours to turn. If you find one false, say at which input.
  Laid BY PROGRAM, IN A SANDBOX (cutbox-rows.mjs): the forced cells as the released guide's own fill.sh prints them over the translation b801b1a10553d3f9… (all of the seat's roots in one cut). By AI agents, Wed Nov 11 2026. No macro, syntax, notation, axiom, sorry.
-/
import Derived.Test.YtengafkfgcdpeaaChecked
import GoSem.Claim
import GoSem.ClaimJoined
import GoSem.ClaimMapViews
import Derived.JoinedTies
import Derived.KernelRfl
namespace Go.Proofs.Ytengafkfgcdpeaa
/- THE CELL 'sum', in the pinned program and in every row, IS THE sha256 OF THE DUMP (.gsa) THAT YtengafkfgcdpeaaProg.lean LOADS. Nothing in Lean hashes anything: it is a label: what it is worth is what the hold of that sum in a sandbox is worth. -/
noncomputable def Try.pinned : Pinned := { name := "ytengafkfgcdpeaa", sum := "b801b1a10553d3f9e668eff0eaa0b513f3a44d2e37be362d90416975c38a4dce", checked := Try.checked }
namespace Rows
def none {H : Type} : Left H := { results := [], args := [] }

/-- 'awardingbodylaw11.ParallelRestricts': WHATEVER THE INPUT: true; the input reads as it did. -/
def parallelRestrictsSpec : ChangeSpec := { name := "parallelRestricts", fn := fun _ => fun
  | [d1, d2, d3] => { results := [.lit (.bool true)], args := [d1, d2, d3] }
  | _ => none }
def parallelRestrictsRow : OpenClaim := { program := "ytengafkfgcdpeaa", sum := "b801b1a10553d3f9e668eff0eaa0b513f3a44d2e37be362d90416975c38a4dce", func := "awardingbody/awardingbodylaw11.ParallelRestricts", spec := "parallelRestricts", unfollowed := true, recurses := true, apart := false }
def ParallelRestrictsSaid : Prop := parallelRestrictsRow.holds Try.pinned (OpenSpec.ofChange parallelRestrictsSpec)

/-- ITS FALSE NEIGHBOUR: 'it returns false'. Refute it at one input. -/
def parallelRestrictsWrong : ChangeSpec := { name := "parallelRestricts", fn := fun _ => fun
  | [d1, d2, d3] => { results := [.lit (.bool false)], args := [d1, d2, d3] }
  | _ => none }
def ParallelRestrictsWrongFalsely : Prop := parallelRestrictsRow.holds Try.pinned (OpenSpec.ofChange parallelRestrictsWrong)

/-- 'awardingbodylaw11.ParallelMany': WHATEVER THE INPUT: true; the input reads as it did. -/
def parallelManySpec : ChangeSpec := { name := "parallelMany", fn := fun _ => fun
  | [d1, d2, d3] => { results := [.lit (.bool true)], args := [d1, d2, d3] }
  | _ => none }
def parallelManyRow : OpenClaim := { program := "ytengafkfgcdpeaa", sum := "b801b1a10553d3f9e668eff0eaa0b513f3a44d2e37be362d90416975c38a4dce", func := "awardingbody/awardingbodylaw11.ParallelMany", spec := "parallelMany", unfollowed := true, recurses := true, apart := false }
def ParallelManySaid : Prop := parallelManyRow.holds Try.pinned (OpenSpec.ofChange parallelManySpec)

/-- ITS FALSE NEIGHBOUR: 'it returns false'. Refute it at one input. -/
def parallelManyWrong : ChangeSpec := { name := "parallelMany", fn := fun _ => fun
  | [d1, d2, d3] => { results := [.lit (.bool false)], args := [d1, d2, d3] }
  | _ => none }
def ParallelManyWrongFalsely : Prop := parallelManyRow.holds Try.pinned (OpenSpec.ofChange parallelManyWrong)

/-- 'awardingbodylaw11.ParallelApart': WHATEVER THE INPUT: true; the input reads as it did. -/
def parallelApartSpec : ChangeSpec := { name := "parallelApart", fn := fun _ => fun
  | [d1, d2, d3] => { results := [.lit (.bool true)], args := [d1, d2, d3] }
  | _ => none }
def parallelApartRow : OpenClaim := { program := "ytengafkfgcdpeaa", sum := "b801b1a10553d3f9e668eff0eaa0b513f3a44d2e37be362d90416975c38a4dce", func := "awardingbody/awardingbodylaw11.ParallelApart", spec := "parallelApart", unfollowed := true, recurses := true, apart := false }
def ParallelApartSaid : Prop := parallelApartRow.holds Try.pinned (OpenSpec.ofChange parallelApartSpec)

/-- ITS FALSE NEIGHBOUR: 'it returns false'. Refute it at one input. -/
def parallelApartWrong : ChangeSpec := { name := "parallelApart", fn := fun _ => fun
  | [d1, d2, d3] => { results := [.lit (.bool false)], args := [d1, d2, d3] }
  | _ => none }
def ParallelApartWrongFalsely : Prop := parallelApartRow.holds Try.pinned (OpenSpec.ofChange parallelApartWrong)

/-- 'awardingbodylaw11.ParallelVariants': WHATEVER THE INPUT: true; the input reads as it did. -/
def parallelVariantsSpec : ChangeSpec := { name := "parallelVariants", fn := fun _ => fun
  | [d] => { results := [.lit (.bool true)], args := [d] }
  | _ => none }
def parallelVariantsRow : OpenClaim := { program := "ytengafkfgcdpeaa", sum := "b801b1a10553d3f9e668eff0eaa0b513f3a44d2e37be362d90416975c38a4dce", func := "awardingbody/awardingbodylaw11.ParallelVariants", spec := "parallelVariants", unfollowed := true, recurses := true, apart := false }
def ParallelVariantsSaid : Prop := parallelVariantsRow.holds Try.pinned (OpenSpec.ofChange parallelVariantsSpec)

/-- ITS FALSE NEIGHBOUR: 'it returns false'. Refute it at one input. -/
def parallelVariantsWrong : ChangeSpec := { name := "parallelVariants", fn := fun _ => fun
  | [d] => { results := [.lit (.bool false)], args := [d] }
  | _ => none }
def ParallelVariantsWrongFalsely : Prop := parallelVariantsRow.holds Try.pinned (OpenSpec.ofChange parallelVariantsWrong)

/-- 'awardingbodylaw11.ParallelPapers': WHATEVER THE INPUT: true; the input reads as it did. -/
def parallelPapersSpec : ChangeSpec := { name := "parallelPapers", fn := fun _ => fun
  | [d1, d2, d3, d4] => { results := [.lit (.bool true)], args := [d1, d2, d3, d4] }
  | _ => none }
def parallelPapersRow : OpenClaim := { program := "ytengafkfgcdpeaa", sum := "b801b1a10553d3f9e668eff0eaa0b513f3a44d2e37be362d90416975c38a4dce", func := "awardingbody/awardingbodylaw11.ParallelPapers", spec := "parallelPapers", unfollowed := true, recurses := true, apart := false }
def ParallelPapersSaid : Prop := parallelPapersRow.holds Try.pinned (OpenSpec.ofChange parallelPapersSpec)

/-- ITS FALSE NEIGHBOUR: 'it returns false'. Refute it at one input. -/
def parallelPapersWrong : ChangeSpec := { name := "parallelPapers", fn := fun _ => fun
  | [d1, d2, d3, d4] => { results := [.lit (.bool false)], args := [d1, d2, d3, d4] }
  | _ => none }
def ParallelPapersWrongFalsely : Prop := parallelPapersRow.holds Try.pinned (OpenSpec.ofChange parallelPapersWrong)

/-- 'awardingbodylaw11.ParallelCommon': WHATEVER THE INPUT: true; the input reads as it did. -/
def parallelCommonSpec : ChangeSpec := { name := "parallelCommon", fn := fun _ => fun
  | [d1, d2, d3] => { results := [.lit (.bool true)], args := [d1, d2, d3] }
  | _ => none }
def parallelCommonRow : OpenClaim := { program := "ytengafkfgcdpeaa", sum := "b801b1a10553d3f9e668eff0eaa0b513f3a44d2e37be362d90416975c38a4dce", func := "awardingbody/awardingbodylaw11.ParallelCommon", spec := "parallelCommon", unfollowed := true, recurses := true, apart := false }
def ParallelCommonSaid : Prop := parallelCommonRow.holds Try.pinned (OpenSpec.ofChange parallelCommonSpec)

/-- ITS FALSE NEIGHBOUR: 'it returns false'. Refute it at one input. -/
def parallelCommonWrong : ChangeSpec := { name := "parallelCommon", fn := fun _ => fun
  | [d1, d2, d3] => { results := [.lit (.bool false)], args := [d1, d2, d3] }
  | _ => none }
def ParallelCommonWrongFalsely : Prop := parallelCommonRow.holds Try.pinned (OpenSpec.ofChange parallelCommonWrong)

/-- 'awardingbodylaw11.ParallelAssembles': WHATEVER THE INPUT: true; the input reads as it did. -/
def parallelAssemblesSpec : ChangeSpec := { name := "parallelAssembles", fn := fun _ => fun
  | [d1, d2] => { results := [.lit (.bool true)], args := [d1, d2] }
  | _ => none }
def parallelAssemblesRow : OpenClaim := { program := "ytengafkfgcdpeaa", sum := "b801b1a10553d3f9e668eff0eaa0b513f3a44d2e37be362d90416975c38a4dce", func := "awardingbody/awardingbodylaw11.ParallelAssembles", spec := "parallelAssembles", unfollowed := true, recurses := true, apart := false }
def ParallelAssemblesSaid : Prop := parallelAssemblesRow.holds Try.pinned (OpenSpec.ofChange parallelAssemblesSpec)

/-- ITS FALSE NEIGHBOUR: 'it returns false'. Refute it at one input. -/
def parallelAssemblesWrong : ChangeSpec := { name := "parallelAssembles", fn := fun _ => fun
  | [d1, d2] => { results := [.lit (.bool false)], args := [d1, d2] }
  | _ => none }
def ParallelAssemblesWrongFalsely : Prop := parallelAssemblesRow.holds Try.pinned (OpenSpec.ofChange parallelAssemblesWrong)

/-- 'awardingbodylaw11.ParallelParts': WHATEVER THE INPUT: true; the input reads as it did. -/
def parallelPartsSpec : ChangeSpec := { name := "parallelParts", fn := fun _ => fun
  | [d] => { results := [.lit (.bool true)], args := [d] }
  | _ => none }
def parallelPartsRow : OpenClaim := { program := "ytengafkfgcdpeaa", sum := "b801b1a10553d3f9e668eff0eaa0b513f3a44d2e37be362d90416975c38a4dce", func := "awardingbody/awardingbodylaw11.ParallelParts", spec := "parallelParts", unfollowed := true, recurses := true, apart := false }
def ParallelPartsSaid : Prop := parallelPartsRow.holds Try.pinned (OpenSpec.ofChange parallelPartsSpec)

/-- ITS FALSE NEIGHBOUR: 'it returns false'. Refute it at one input. -/
def parallelPartsWrong : ChangeSpec := { name := "parallelParts", fn := fun _ => fun
  | [d] => { results := [.lit (.bool false)], args := [d] }
  | _ => none }
def ParallelPartsWrongFalsely : Prop := parallelPartsRow.holds Try.pinned (OpenSpec.ofChange parallelPartsWrong)

/- THE SECOND FORM. 'bulk': how many values and letters a reading holds, each counted each time it is reached (what is shared counts as often as it is met; a slice's spare places count too). A statement '..UptoSaid' is the law's where the arguments, and the package variables that the reading takes, are together of bulk at most 1048576: NARROWER than '..Said'. Prove '..Said' where nothing that the law and all that it calls make is longer than what came in: it says more and counts as full. Else prove '..UptoSaid'. A law counts once. -/
mutual
def uptoBulk {H : Type} : DataW H → Nat
  | .lit (.string bytes) => bytes.length + 1
  | .lit _ => 1
  | .nil => 1
  | .ptr d => uptoBulk d + 1
  | .slice elems spare => uptoBulkAll elems + uptoBulkAll spare + 1
  | .agg parts => uptoBulkAll parts + 1
  | .iface _ d => uptoBulk d + 1
  | .map entries => uptoBulkEntries entries + 1
  | .held _ => 1
def uptoBulkAll {H : Type} : List (DataW H) → Nat
  | [] => 0
  | d :: r => uptoBulk d + uptoBulkAll r
def uptoBulkEntries {H : Type} : List (Lit × DataW H) → Nat
  | [] => 0
  | x :: r => uptoBulkEntry x + uptoBulkEntries r
def uptoBulkEntry {H : Type} : Lit × DataW H → Nat
  | (.string bytes, d) => bytes.length + uptoBulk d + 1
  | (_, d) => uptoBulk d + 1
 end
def uptoSmall : (H : Type) → List (DataW H) → Bool := fun _ ds => decide (uptoBulkAll ds ≤ 1048576)
def OpenSpec.upto (s : _root_.Go.ChangeSpec) : _root_.Go.OpenSpec := { _root_.Go.OpenSpec.ofChange s with cond := some uptoSmall }

/-- 'awardingbodylaw11.ParallelRestricts', WHERE WHAT IT READS IS OF BULK AT MOST 1048576: true; the input reads as it did. -/
def parallelRestrictsUptoRow : OpenClaim := { program := "ytengafkfgcdpeaa", sum := "b801b1a10553d3f9e668eff0eaa0b513f3a44d2e37be362d90416975c38a4dce", func := "awardingbody/awardingbodylaw11.ParallelRestricts", spec := "parallelRestricts", unfollowed := true, recurses := true, apart := false, narrowed := true }
def ParallelRestrictsUptoSaid : Prop := parallelRestrictsUptoRow.holds Try.pinned (OpenSpec.upto parallelRestrictsSpec)

/-- 'awardingbodylaw11.ParallelMany', WHERE WHAT IT READS IS OF BULK AT MOST 1048576: true; the input reads as it did. -/
def parallelManyUptoRow : OpenClaim := { program := "ytengafkfgcdpeaa", sum := "b801b1a10553d3f9e668eff0eaa0b513f3a44d2e37be362d90416975c38a4dce", func := "awardingbody/awardingbodylaw11.ParallelMany", spec := "parallelMany", unfollowed := true, recurses := true, apart := false, narrowed := true }
def ParallelManyUptoSaid : Prop := parallelManyUptoRow.holds Try.pinned (OpenSpec.upto parallelManySpec)

/-- 'awardingbodylaw11.ParallelApart', WHERE WHAT IT READS IS OF BULK AT MOST 1048576: true; the input reads as it did. -/
def parallelApartUptoRow : OpenClaim := { program := "ytengafkfgcdpeaa", sum := "b801b1a10553d3f9e668eff0eaa0b513f3a44d2e37be362d90416975c38a4dce", func := "awardingbody/awardingbodylaw11.ParallelApart", spec := "parallelApart", unfollowed := true, recurses := true, apart := false, narrowed := true }
def ParallelApartUptoSaid : Prop := parallelApartUptoRow.holds Try.pinned (OpenSpec.upto parallelApartSpec)

/-- 'awardingbodylaw11.ParallelVariants', WHERE WHAT IT READS IS OF BULK AT MOST 1048576: true; the input reads as it did. -/
def parallelVariantsUptoRow : OpenClaim := { program := "ytengafkfgcdpeaa", sum := "b801b1a10553d3f9e668eff0eaa0b513f3a44d2e37be362d90416975c38a4dce", func := "awardingbody/awardingbodylaw11.ParallelVariants", spec := "parallelVariants", unfollowed := true, recurses := true, apart := false, narrowed := true }
def ParallelVariantsUptoSaid : Prop := parallelVariantsUptoRow.holds Try.pinned (OpenSpec.upto parallelVariantsSpec)

/-- 'awardingbodylaw11.ParallelPapers', WHERE WHAT IT READS IS OF BULK AT MOST 1048576: true; the input reads as it did. -/
def parallelPapersUptoRow : OpenClaim := { program := "ytengafkfgcdpeaa", sum := "b801b1a10553d3f9e668eff0eaa0b513f3a44d2e37be362d90416975c38a4dce", func := "awardingbody/awardingbodylaw11.ParallelPapers", spec := "parallelPapers", unfollowed := true, recurses := true, apart := false, narrowed := true }
def ParallelPapersUptoSaid : Prop := parallelPapersUptoRow.holds Try.pinned (OpenSpec.upto parallelPapersSpec)

/-- 'awardingbodylaw11.ParallelCommon', WHERE WHAT IT READS IS OF BULK AT MOST 1048576: true; the input reads as it did. -/
def parallelCommonUptoRow : OpenClaim := { program := "ytengafkfgcdpeaa", sum := "b801b1a10553d3f9e668eff0eaa0b513f3a44d2e37be362d90416975c38a4dce", func := "awardingbody/awardingbodylaw11.ParallelCommon", spec := "parallelCommon", unfollowed := true, recurses := true, apart := false, narrowed := true }
def ParallelCommonUptoSaid : Prop := parallelCommonUptoRow.holds Try.pinned (OpenSpec.upto parallelCommonSpec)

/-- 'awardingbodylaw11.ParallelAssembles', WHERE WHAT IT READS IS OF BULK AT MOST 1048576: true; the input reads as it did. -/
def parallelAssemblesUptoRow : OpenClaim := { program := "ytengafkfgcdpeaa", sum := "b801b1a10553d3f9e668eff0eaa0b513f3a44d2e37be362d90416975c38a4dce", func := "awardingbody/awardingbodylaw11.ParallelAssembles", spec := "parallelAssembles", unfollowed := true, recurses := true, apart := false, narrowed := true }
def ParallelAssemblesUptoSaid : Prop := parallelAssemblesUptoRow.holds Try.pinned (OpenSpec.upto parallelAssemblesSpec)

/-- 'awardingbodylaw11.ParallelParts', WHERE WHAT IT READS IS OF BULK AT MOST 1048576: true; the input reads as it did. -/
def parallelPartsUptoRow : OpenClaim := { program := "ytengafkfgcdpeaa", sum := "b801b1a10553d3f9e668eff0eaa0b513f3a44d2e37be362d90416975c38a4dce", func := "awardingbody/awardingbodylaw11.ParallelParts", spec := "parallelParts", unfollowed := true, recurses := true, apart := false, narrowed := true }
def ParallelPartsUptoSaid : Prop := parallelPartsUptoRow.holds Try.pinned (OpenSpec.upto parallelPartsSpec)

end Rows
end Go.Proofs.Ytengafkfgcdpeaa
