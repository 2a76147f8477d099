/-
  No cell of these rows narrows 'for every input' (looked for: loops, veiled, ifaces, maps, wideKeys, modest, calm, conditions, laid).
  DERIVED. THE GIVEN ROWS OF THIS SEAT. 2 by the template 'for every input the law returns true; each argument reads behind the call as it read before'; 0 by the template 'total and deterministic' (their statements: YtdoemjphffnmaaaTotals.lean).
  GIVEN WITH THE SEED: the statements are not yours to turn. If you find one false, say at which input.
  Laid BY PROGRAM, IN A SANDBOX (cutbox-rows.mjs): the forced cells as the released guide's own fill.sh prints them over the translation 56ca80d130be1962… (all of the seat's roots in one cut). By AI agents, Wed Nov 11 2026. No macro, syntax, notation, axiom, sorry.
-/
import Derived.Test.YtdoemjphffnmaaaChecked
import GoSem.Claim
import GoSem.ClaimJoined
import GoSem.ClaimMapViews
import Derived.JoinedTies
import Derived.KernelRfl
namespace Go.Proofs.Ytdoemjphffnmaaa
/- THE CELL 'sum', in the pinned program and in every row, IS THE sha256 OF THE DUMP (.gsa) THAT YtdoemjphffnmaaaProg.lean LOADS. Nothing in Lean hashes anything: it is a label: what it is worth is what the hold of that sum in a sandbox is worth. -/
noncomputable def Try.pinned : Pinned := { name := "ytdoemjphffnmaaa", sum := "56ca80d130be1962a6f322e6fd0ed8559ff6ce180dcc7d7985d240f50807bdaf", checked := Try.checked }
namespace Rows
def none {H : Type} : Left H := { results := [], args := [] }

/-- 'awardingbodylaw24.MarkerFair': WHATEVER THE INPUT: true; the input reads as it did. -/
def markerFairSpec : ChangeSpec := { name := "markerFair", fn := fun _ => fun
  | [d] => { results := [.lit (.bool true)], args := [d] }
  | _ => none }
def markerFairRow : OpenClaim := { program := "ytdoemjphffnmaaa", sum := "56ca80d130be1962a6f322e6fd0ed8559ff6ce180dcc7d7985d240f50807bdaf", func := "awardingbody/awardingbodylaw24.MarkerFair", spec := "markerFair", unfollowed := true, recurses := true, apart := false }
def MarkerFairSaid : Prop := markerFairRow.holds Try.pinned (OpenSpec.ofChange markerFairSpec)

/-- ITS FALSE NEIGHBOUR: 'it returns false'. Refute it at one input. -/
def markerFairWrong : ChangeSpec := { name := "markerFair", fn := fun _ => fun
  | [d] => { results := [.lit (.bool false)], args := [d] }
  | _ => none }
def MarkerFairWrongFalsely : Prop := markerFairRow.holds Try.pinned (OpenSpec.ofChange markerFairWrong)

/-- 'awardingbodylaw24.MarkerLimits': WHATEVER THE INPUT: true; the input reads as it did. -/
def markerLimitsSpec : ChangeSpec := { name := "markerLimits", fn := fun _ => fun
  | [d] => { results := [.lit (.bool true)], args := [d] }
  | _ => none }
def markerLimitsRow : OpenClaim := { program := "ytdoemjphffnmaaa", sum := "56ca80d130be1962a6f322e6fd0ed8559ff6ce180dcc7d7985d240f50807bdaf", func := "awardingbody/awardingbodylaw24.MarkerLimits", spec := "markerLimits", unfollowed := true, recurses := true, apart := false }
def MarkerLimitsSaid : Prop := markerLimitsRow.holds Try.pinned (OpenSpec.ofChange markerLimitsSpec)

/-- ITS FALSE NEIGHBOUR: 'it returns false'. Refute it at one input. -/
def markerLimitsWrong : ChangeSpec := { name := "markerLimits", fn := fun _ => fun
  | [d] => { results := [.lit (.bool false)], args := [d] }
  | _ => none }
def MarkerLimitsWrongFalsely : Prop := markerLimitsRow.holds Try.pinned (OpenSpec.ofChange markerLimitsWrong)

/- THE SECOND FORM. 'bulk': how many values and letters a reading holds, each counted each time it is reached (what is shared counts as often as it is met; a slice's spare places count too). A statement '..UptoSaid' is the law's where the arguments, and the package variables that the reading takes, are together of bulk at most 1048576: NARROWER than '..Said'. Prove '..Said' where nothing that the law and all that it calls make is longer than what came in: it says more and counts as full. Else prove '..UptoSaid'. A law counts once. -/
mutual
def uptoBulk {H : Type} : DataW H → Nat
  | .lit (.string bytes) => bytes.length + 1
  | .lit _ => 1
  | .nil => 1
  | .ptr d => uptoBulk d + 1
  | .slice elems spare => uptoBulkAll elems + uptoBulkAll spare + 1
  | .agg parts => uptoBulkAll parts + 1
  | .iface _ d => uptoBulk d + 1
  | .map entries => uptoBulkEntries entries + 1
  | .held _ => 1
def uptoBulkAll {H : Type} : List (DataW H) → Nat
  | [] => 0
  | d :: r => uptoBulk d + uptoBulkAll r
def uptoBulkEntries {H : Type} : List (Lit × DataW H) → Nat
  | [] => 0
  | x :: r => uptoBulkEntry x + uptoBulkEntries r
def uptoBulkEntry {H : Type} : Lit × DataW H → Nat
  | (.string bytes, d) => bytes.length + uptoBulk d + 1
  | (_, d) => uptoBulk d + 1
 end
def uptoSmall : (H : Type) → List (DataW H) → Bool := fun _ ds => decide (uptoBulkAll ds ≤ 1048576)
def OpenSpec.upto (s : _root_.Go.ChangeSpec) : _root_.Go.OpenSpec := { _root_.Go.OpenSpec.ofChange s with cond := some uptoSmall }

/-- 'awardingbodylaw24.MarkerFair', WHERE WHAT IT READS IS OF BULK AT MOST 1048576: true; the input reads as it did. -/
def markerFairUptoRow : OpenClaim := { program := "ytdoemjphffnmaaa", sum := "56ca80d130be1962a6f322e6fd0ed8559ff6ce180dcc7d7985d240f50807bdaf", func := "awardingbody/awardingbodylaw24.MarkerFair", spec := "markerFair", unfollowed := true, recurses := true, apart := false, narrowed := true }
def MarkerFairUptoSaid : Prop := markerFairUptoRow.holds Try.pinned (OpenSpec.upto markerFairSpec)

/-- 'awardingbodylaw24.MarkerLimits', WHERE WHAT IT READS IS OF BULK AT MOST 1048576: true; the input reads as it did. -/
def markerLimitsUptoRow : OpenClaim := { program := "ytdoemjphffnmaaa", sum := "56ca80d130be1962a6f322e6fd0ed8559ff6ce180dcc7d7985d240f50807bdaf", func := "awardingbody/awardingbodylaw24.MarkerLimits", spec := "markerLimits", unfollowed := true, recurses := true, apart := false, narrowed := true }
def MarkerLimitsUptoSaid : Prop := markerLimitsUptoRow.holds Try.pinned (OpenSpec.upto markerLimitsSpec)

end Rows
end Go.Proofs.Ytdoemjphffnmaaa
