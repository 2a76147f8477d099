/-
  NARROWER THAN 'FOR EVERY INPUT', by the rows' own cells (each row's printed sentence says how): TopStable: laid · TopResolved: laid · TopCaptured: laid.
  DERIVED. THE GIVEN ROWS OF THIS SEAT. 3 by the template 'for every input the law returns true; each argument reads behind the call as it read before'; 0 by the template 'total and deterministic' (their statements: YtihjphblcohdeaaGreatDoorTotals.lean).
  GIVEN WITH THE SEED: the statements are not yours to turn. If you find one false, say at which input.
  Laid BY PROGRAM, IN A SANDBOX (cutbox-rows.mjs): the forced cells as the released guide's own fill.sh prints them over the translation 9008006bc350e84f… (all of the seat's roots in one cut). By AI agents, Wed Nov 11 2026. No macro, syntax, notation, axiom, sorry.
-/
import Derived.Test.YtihjphblcohdeaaGreatDoorChecked
import GoSem.Claim
import GoSem.ClaimJoined
import GoSem.ClaimMapViews
import Derived.JoinedTies
import Derived.KernelRfl
namespace Go.Proofs.YtihjphblcohdeaaGreatDoor
/- THE CELL 'sum', in the pinned program and in every row, IS THE sha256 OF THE DUMP (.gsa) THAT YtihjphblcohdeaaGreatDoorProg.lean LOADS. Nothing in Lean hashes anything: it is a label: what it is worth is what the hold of that sum in a sandbox is worth. -/
noncomputable def Tryz.pinned : Pinned := { name := "ytihjphblcohdeaagreatdoor", sum := "9008006bc350e84fc9e2c4e4d4d6350e25fcf46bf7ce971abd5587361eb21acf", checked := Tryz.checked }
namespace Rows
def none {H : Type} : Left H := { results := [], args := [] }

/- WHAT THE LISTED PACKAGE-LEVEL VARIABLES READ AS WHEN THE CALL BEGINS. Each datum BY PROGRAM (the guide's laid-datum.mjs) off the statement by which the dump's own 'gosem.cut.vars' lays the variable. In a bare row this is a premise. The card (YtihjphblcohdeaaGreatDoorCards.lean) ties it to the program's text. -/
def laid_awardingbody_rscode_powers {H : Type} : DataW H := .agg [.lit (.int .i64 1), .lit (.int .i64 2), .lit (.int .i64 4), .lit (.int .i64 8), .lit (.int .i64 16), .lit (.int .i64 5), .lit (.int .i64 10), .lit (.int .i64 20), .lit (.int .i64 13), .lit (.int .i64 26), .lit (.int .i64 17), .lit (.int .i64 7), .lit (.int .i64 14), .lit (.int .i64 28), .lit (.int .i64 29), .lit (.int .i64 31), .lit (.int .i64 27), .lit (.int .i64 19), .lit (.int .i64 3), .lit (.int .i64 6), .lit (.int .i64 12), .lit (.int .i64 24), .lit (.int .i64 21), .lit (.int .i64 15), .lit (.int .i64 30), .lit (.int .i64 25), .lit (.int .i64 23), .lit (.int .i64 11), .lit (.int .i64 22), .lit (.int .i64 9), .lit (.int .i64 18)]
def laid_awardingbody_rscode_logs {H : Type} : DataW H := .agg [.lit (.int .i64 0), .lit (.int .i64 0), .lit (.int .i64 1), .lit (.int .i64 18), .lit (.int .i64 2), .lit (.int .i64 5), .lit (.int .i64 19), .lit (.int .i64 11), .lit (.int .i64 3), .lit (.int .i64 29), .lit (.int .i64 6), .lit (.int .i64 27), .lit (.int .i64 20), .lit (.int .i64 8), .lit (.int .i64 12), .lit (.int .i64 23), .lit (.int .i64 4), .lit (.int .i64 10), .lit (.int .i64 30), .lit (.int .i64 17), .lit (.int .i64 7), .lit (.int .i64 22), .lit (.int .i64 28), .lit (.int .i64 26), .lit (.int .i64 21), .lit (.int .i64 25), .lit (.int .i64 9), .lit (.int .i64 16), .lit (.int .i64 13), .lit (.int .i64 14), .lit (.int .i64 24), .lit (.int .i64 15)]

/-- 'awardingbodytop.TopStable': WHATEVER THE INPUT: true; the input reads as it did. -/
def topStableSpec : ChangeSpec := { name := "topStable", fn := fun _ => fun
  | [d] => { results := [.lit (.bool true)], args := [d] }
  | _ => none }
def topStableRow : OpenClaim := { program := "ytihjphblcohdeaagreatdoor", sum := "9008006bc350e84fc9e2c4e4d4d6350e25fcf46bf7ce971abd5587361eb21acf", func := "awardingbody/awardingbodytop.TopStable", spec := "topStable", inPlace := ["internal/abi.NoEscape", "internal/bytealg.MakeNoZero", "internal/bytealg.CountString", "internal/bytealg.IndexByteString", "internal/bytealg.IndexString"], unfollowed := true, recurses := true, named := ["awardingbody/rscode.powers", "awardingbody/rscode.logs", "internal/bytealg.MaxLen"], plainKeys := false, apart := false, laid := [("awardingbody/rscode.powers", laid_awardingbody_rscode_powers), ("awardingbody/rscode.logs", laid_awardingbody_rscode_logs)] }
def TopStableSaid : Prop := topStableRow.holds Tryz.pinned (OpenSpec.ofChange topStableSpec)

/-- ITS FALSE NEIGHBOUR: 'it returns false'. Refute it at one input. -/
def topStableWrong : ChangeSpec := { name := "topStable", fn := fun _ => fun
  | [d] => { results := [.lit (.bool false)], args := [d] }
  | _ => none }
def TopStableWrongFalsely : Prop := topStableRow.holds Tryz.pinned (OpenSpec.ofChange topStableWrong)

/-- 'awardingbodytop.TopResolved': WHATEVER THE INPUT: true; the input reads as it did. -/
def topResolvedSpec : ChangeSpec := { name := "topResolved", fn := fun _ => fun
  | [d1, d2, d3] => { results := [.lit (.bool true)], args := [d1, d2, d3] }
  | _ => none }
def topResolvedRow : OpenClaim := { program := "ytihjphblcohdeaagreatdoor", sum := "9008006bc350e84fc9e2c4e4d4d6350e25fcf46bf7ce971abd5587361eb21acf", func := "awardingbody/awardingbodytop.TopResolved", spec := "topResolved", inPlace := ["internal/abi.NoEscape", "internal/bytealg.MakeNoZero", "internal/bytealg.CountString", "internal/bytealg.IndexByteString", "internal/bytealg.IndexString"], unfollowed := true, recurses := true, named := ["awardingbody/rscode.powers", "awardingbody/rscode.logs", "internal/bytealg.MaxLen"], plainKeys := false, apart := false, laid := [("awardingbody/rscode.powers", laid_awardingbody_rscode_powers), ("awardingbody/rscode.logs", laid_awardingbody_rscode_logs)] }
def TopResolvedSaid : Prop := topResolvedRow.holds Tryz.pinned (OpenSpec.ofChange topResolvedSpec)

/-- ITS FALSE NEIGHBOUR: 'it returns false'. Refute it at one input. -/
def topResolvedWrong : ChangeSpec := { name := "topResolved", fn := fun _ => fun
  | [d1, d2, d3] => { results := [.lit (.bool false)], args := [d1, d2, d3] }
  | _ => none }
def TopResolvedWrongFalsely : Prop := topResolvedRow.holds Tryz.pinned (OpenSpec.ofChange topResolvedWrong)

/-- 'awardingbodytop.TopCaptured': WHATEVER THE INPUT: true; the input reads as it did. -/
def topCapturedSpec : ChangeSpec := { name := "topCaptured", fn := fun _ => fun
  | [d] => { results := [.lit (.bool true)], args := [d] }
  | _ => none }
def topCapturedRow : OpenClaim := { program := "ytihjphblcohdeaagreatdoor", sum := "9008006bc350e84fc9e2c4e4d4d6350e25fcf46bf7ce971abd5587361eb21acf", func := "awardingbody/awardingbodytop.TopCaptured", spec := "topCaptured", inPlace := ["internal/abi.NoEscape", "internal/bytealg.MakeNoZero", "internal/bytealg.CountString", "internal/bytealg.IndexByteString", "internal/bytealg.IndexString"], unfollowed := true, recurses := true, named := ["awardingbody/rscode.powers", "awardingbody/rscode.logs", "internal/bytealg.MaxLen"], plainKeys := false, apart := false, laid := [("awardingbody/rscode.powers", laid_awardingbody_rscode_powers), ("awardingbody/rscode.logs", laid_awardingbody_rscode_logs)] }
def TopCapturedSaid : Prop := topCapturedRow.holds Tryz.pinned (OpenSpec.ofChange topCapturedSpec)

/-- ITS FALSE NEIGHBOUR: 'it returns false'. Refute it at one input. -/
def topCapturedWrong : ChangeSpec := { name := "topCaptured", fn := fun _ => fun
  | [d] => { results := [.lit (.bool false)], args := [d] }
  | _ => none }
def TopCapturedWrongFalsely : Prop := topCapturedRow.holds Tryz.pinned (OpenSpec.ofChange topCapturedWrong)

/- THE SECOND FORM. 'bulk': how many values and letters a reading holds, each counted each time it is reached (what is shared counts as often as it is met; a slice's spare places count too). A statement '..UptoSaid' is the law's where the arguments, and the package variables that the reading takes, are together of bulk at most 1048576: NARROWER than '..Said'. Prove '..Said' where nothing that the law and all that it calls make is longer than what came in: it says more and counts as full. Else prove '..UptoSaid'. A law counts once. -/
mutual
def uptoBulk {H : Type} : DataW H → Nat
  | .lit (.string bytes) => bytes.length + 1
  | .lit _ => 1
  | .nil => 1
  | .ptr d => uptoBulk d + 1
  | .slice elems spare => uptoBulkAll elems + uptoBulkAll spare + 1
  | .agg parts => uptoBulkAll parts + 1
  | .iface _ d => uptoBulk d + 1
  | .map entries => uptoBulkEntries entries + 1
  | .held _ => 1
def uptoBulkAll {H : Type} : List (DataW H) → Nat
  | [] => 0
  | d :: r => uptoBulk d + uptoBulkAll r
def uptoBulkEntries {H : Type} : List (Lit × DataW H) → Nat
  | [] => 0
  | x :: r => uptoBulkEntry x + uptoBulkEntries r
def uptoBulkEntry {H : Type} : Lit × DataW H → Nat
  | (.string bytes, d) => bytes.length + uptoBulk d + 1
  | (_, d) => uptoBulk d + 1
 end
def uptoSmall : (H : Type) → List (DataW H) → Bool := fun _ ds => decide (uptoBulkAll ds ≤ 1048576)
def OpenSpec.upto (s : _root_.Go.ChangeSpec) : _root_.Go.OpenSpec := { _root_.Go.OpenSpec.ofChange s with cond := some uptoSmall }

/-- 'awardingbodytop.TopStable', WHERE WHAT IT READS IS OF BULK AT MOST 1048576: true; the input reads as it did. -/
def topStableUptoRow : OpenClaim := { program := "ytihjphblcohdeaagreatdoor", sum := "9008006bc350e84fc9e2c4e4d4d6350e25fcf46bf7ce971abd5587361eb21acf", func := "awardingbody/awardingbodytop.TopStable", spec := "topStable", inPlace := ["internal/abi.NoEscape", "internal/bytealg.MakeNoZero", "internal/bytealg.CountString", "internal/bytealg.IndexByteString", "internal/bytealg.IndexString"], unfollowed := true, recurses := true, named := ["awardingbody/rscode.powers", "awardingbody/rscode.logs", "internal/bytealg.MaxLen"], plainKeys := false, apart := false, laid := [("awardingbody/rscode.powers", laid_awardingbody_rscode_powers), ("awardingbody/rscode.logs", laid_awardingbody_rscode_logs)], narrowed := true }
def TopStableUptoSaid : Prop := topStableUptoRow.holds Tryz.pinned (OpenSpec.upto topStableSpec)

/-- 'awardingbodytop.TopResolved', WHERE WHAT IT READS IS OF BULK AT MOST 1048576: true; the input reads as it did. -/
def topResolvedUptoRow : OpenClaim := { program := "ytihjphblcohdeaagreatdoor", sum := "9008006bc350e84fc9e2c4e4d4d6350e25fcf46bf7ce971abd5587361eb21acf", func := "awardingbody/awardingbodytop.TopResolved", spec := "topResolved", inPlace := ["internal/abi.NoEscape", "internal/bytealg.MakeNoZero", "internal/bytealg.CountString", "internal/bytealg.IndexByteString", "internal/bytealg.IndexString"], unfollowed := true, recurses := true, named := ["awardingbody/rscode.powers", "awardingbody/rscode.logs", "internal/bytealg.MaxLen"], plainKeys := false, apart := false, laid := [("awardingbody/rscode.powers", laid_awardingbody_rscode_powers), ("awardingbody/rscode.logs", laid_awardingbody_rscode_logs)], narrowed := true }
def TopResolvedUptoSaid : Prop := topResolvedUptoRow.holds Tryz.pinned (OpenSpec.upto topResolvedSpec)

/-- 'awardingbodytop.TopCaptured', WHERE WHAT IT READS IS OF BULK AT MOST 1048576: true; the input reads as it did. -/
def topCapturedUptoRow : OpenClaim := { program := "ytihjphblcohdeaagreatdoor", sum := "9008006bc350e84fc9e2c4e4d4d6350e25fcf46bf7ce971abd5587361eb21acf", func := "awardingbody/awardingbodytop.TopCaptured", spec := "topCaptured", inPlace := ["internal/abi.NoEscape", "internal/bytealg.MakeNoZero", "internal/bytealg.CountString", "internal/bytealg.IndexByteString", "internal/bytealg.IndexString"], unfollowed := true, recurses := true, named := ["awardingbody/rscode.powers", "awardingbody/rscode.logs", "internal/bytealg.MaxLen"], plainKeys := false, apart := false, laid := [("awardingbody/rscode.powers", laid_awardingbody_rscode_powers), ("awardingbody/rscode.logs", laid_awardingbody_rscode_logs)], narrowed := true }
def TopCapturedUptoSaid : Prop := topCapturedUptoRow.holds Tryz.pinned (OpenSpec.upto topCapturedSpec)

end Rows
end Go.Proofs.YtihjphblcohdeaaGreatDoor
