/-
  No cell of these rows narrows 'for every input' (looked for: loops, veiled, ifaces, maps, wideKeys, modest, calm, conditions, laid).
  DERIVED. THE GIVEN ROWS OF THIS SEAT. 5 by the template 'for every input the law returns true; each argument reads behind the call as it read before'; 0 by the template 'total and deterministic' (their statements: YtemjlopoffjmpaaTotals.lean).
  GIVEN WITH THE SEED: the statements are not yours to turn. If you find one false, say at which input.
  Laid BY PROGRAM, IN A SANDBOX (cutbox-rows.mjs): the forced cells as the released guide's own fill.sh prints them over the translation e7debd05c40b5542… (all of the seat's roots in one cut). By AI agents, Wed Nov 11 2026. No macro, syntax, notation, axiom, sorry.
-/
import Derived.Test.YtemjlopoffjmpaaChecked
import GoSem.Claim
import GoSem.ClaimJoined
import GoSem.ClaimMapViews
import Derived.JoinedTies
import Derived.KernelRfl
namespace Go.Proofs.Ytemjlopoffjmpaa
/- THE CELL 'sum', in the pinned program and in every row, IS THE sha256 OF THE DUMP (.gsa) THAT YtemjlopoffjmpaaProg.lean LOADS. Nothing in Lean hashes anything: it is a label: what it is worth is what the hold of that sum in a sandbox is worth. -/
noncomputable def Try.pinned : Pinned := { name := "ytemjlopoffjmpaa", sum := "e7debd05c40b5542c826f341a37dcd80add9b1a599558795153aa37da2914b07", checked := Try.checked }
namespace Rows
def none {H : Type} : Left H := { results := [], args := [] }

/-- 'palimplaw19.AcctQuota': WHATEVER THE INPUT: true; the input reads as it did. -/
def acctQuotaSpec : ChangeSpec := { name := "acctQuota", fn := fun _ => fun
  | [d1, d2] => { results := [.lit (.bool true)], args := [d1, d2] }
  | _ => none }
def acctQuotaRow : OpenClaim := { program := "ytemjlopoffjmpaa", sum := "e7debd05c40b5542c826f341a37dcd80add9b1a599558795153aa37da2914b07", func := "palimp/palimplaw19.AcctQuota", spec := "acctQuota", inPlace := ["internal/abi.NoEscape", "internal/bytealg.MakeNoZero"], unfollowed := true, recurses := true, apart := false }
def AcctQuotaSaid : Prop := acctQuotaRow.holds Try.pinned (OpenSpec.ofChange acctQuotaSpec)

/-- ITS FALSE NEIGHBOUR: 'it returns false'. Refute it at one input. -/
def acctQuotaWrong : ChangeSpec := { name := "acctQuota", fn := fun _ => fun
  | [d1, d2] => { results := [.lit (.bool false)], args := [d1, d2] }
  | _ => none }
def AcctQuotaWrongFalsely : Prop := acctQuotaRow.holds Try.pinned (OpenSpec.ofChange acctQuotaWrong)

/-- 'palimplaw19.AcctWorst': WHATEVER THE INPUT: true; the input reads as it did. -/
def acctWorstSpec : ChangeSpec := { name := "acctWorst", fn := fun _ => fun
  | [d1, d2] => { results := [.lit (.bool true)], args := [d1, d2] }
  | _ => none }
def acctWorstRow : OpenClaim := { program := "ytemjlopoffjmpaa", sum := "e7debd05c40b5542c826f341a37dcd80add9b1a599558795153aa37da2914b07", func := "palimp/palimplaw19.AcctWorst", spec := "acctWorst", inPlace := ["internal/abi.NoEscape", "internal/bytealg.MakeNoZero"], unfollowed := true, recurses := true, apart := false }
def AcctWorstSaid : Prop := acctWorstRow.holds Try.pinned (OpenSpec.ofChange acctWorstSpec)

/-- ITS FALSE NEIGHBOUR: 'it returns false'. Refute it at one input. -/
def acctWorstWrong : ChangeSpec := { name := "acctWorst", fn := fun _ => fun
  | [d1, d2] => { results := [.lit (.bool false)], args := [d1, d2] }
  | _ => none }
def AcctWorstWrongFalsely : Prop := acctWorstRow.holds Try.pinned (OpenSpec.ofChange acctWorstWrong)

/-- 'palimplaw19.AcctStats': WHATEVER THE INPUT: true; the input reads as it did. -/
def acctStatsSpec : ChangeSpec := { name := "acctStats", fn := fun _ => fun
  | [d] => { results := [.lit (.bool true)], args := [d] }
  | _ => none }
def acctStatsRow : OpenClaim := { program := "ytemjlopoffjmpaa", sum := "e7debd05c40b5542c826f341a37dcd80add9b1a599558795153aa37da2914b07", func := "palimp/palimplaw19.AcctStats", spec := "acctStats", inPlace := ["internal/abi.NoEscape", "internal/bytealg.MakeNoZero"], unfollowed := true, recurses := true, apart := false }
def AcctStatsSaid : Prop := acctStatsRow.holds Try.pinned (OpenSpec.ofChange acctStatsSpec)

/-- ITS FALSE NEIGHBOUR: 'it returns false'. Refute it at one input. -/
def acctStatsWrong : ChangeSpec := { name := "acctStats", fn := fun _ => fun
  | [d] => { results := [.lit (.bool false)], args := [d] }
  | _ => none }
def AcctStatsWrongFalsely : Prop := acctStatsRow.holds Try.pinned (OpenSpec.ofChange acctStatsWrong)

/-- 'palimplaw18.SetsMay': WHATEVER THE INPUT: true; the input reads as it did. -/
def setsMaySpec : ChangeSpec := { name := "setsMay", fn := fun _ => fun
  | [d] => { results := [.lit (.bool true)], args := [d] }
  | _ => none }
def setsMayRow : OpenClaim := { program := "ytemjlopoffjmpaa", sum := "e7debd05c40b5542c826f341a37dcd80add9b1a599558795153aa37da2914b07", func := "palimp/palimplaw18.SetsMay", spec := "setsMay", inPlace := ["internal/bytealg.IndexByteString"], unfollowed := true, recurses := true, apart := false }
def SetsMaySaid : Prop := setsMayRow.holds Try.pinned (OpenSpec.ofChange setsMaySpec)

/-- ITS FALSE NEIGHBOUR: 'it returns false'. Refute it at one input. -/
def setsMayWrong : ChangeSpec := { name := "setsMay", fn := fun _ => fun
  | [d] => { results := [.lit (.bool false)], args := [d] }
  | _ => none }
def SetsMayWrongFalsely : Prop := setsMayRow.holds Try.pinned (OpenSpec.ofChange setsMayWrong)

/-- 'palimplaw18.SetsForms': WHATEVER THE INPUT: true; the input reads as it did. -/
def setsFormsSpec : ChangeSpec := { name := "setsForms", fn := fun _ => fun
  | [] => { results := [.lit (.bool true)], args := [] }
  | _ => none }
def setsFormsRow : OpenClaim := { program := "ytemjlopoffjmpaa", sum := "e7debd05c40b5542c826f341a37dcd80add9b1a599558795153aa37da2914b07", func := "palimp/palimplaw18.SetsForms", spec := "setsForms", inPlace := ["internal/bytealg.IndexByteString"], unfollowed := true, recurses := true, apart := false }
def SetsFormsSaid : Prop := setsFormsRow.holds Try.pinned (OpenSpec.ofChange setsFormsSpec)

/-- ITS FALSE NEIGHBOUR: 'it returns false'. Refute it at one input. -/
def setsFormsWrong : ChangeSpec := { name := "setsForms", fn := fun _ => fun
  | [] => { results := [.lit (.bool false)], args := [] }
  | _ => none }
def SetsFormsWrongFalsely : Prop := setsFormsRow.holds Try.pinned (OpenSpec.ofChange setsFormsWrong)

/- THE SECOND FORM. 'bulk': how many values and letters a reading holds, each counted each time it is reached (what is shared counts as often as it is met; a slice's spare places count too). A statement '..UptoSaid' is the law's where the arguments, and the package variables that the reading takes, are together of bulk at most 1048576: NARROWER than '..Said'. Prove '..Said' where nothing that the law and all that it calls make is longer than what came in: it says more and counts as full. Else prove '..UptoSaid'. A law counts once. -/
mutual
def uptoBulk {H : Type} : DataW H → Nat
  | .lit (.string bytes) => bytes.length + 1
  | .lit _ => 1
  | .nil => 1
  | .ptr d => uptoBulk d + 1
  | .slice elems spare => uptoBulkAll elems + uptoBulkAll spare + 1
  | .agg parts => uptoBulkAll parts + 1
  | .iface _ d => uptoBulk d + 1
  | .map entries => uptoBulkEntries entries + 1
  | .held _ => 1
def uptoBulkAll {H : Type} : List (DataW H) → Nat
  | [] => 0
  | d :: r => uptoBulk d + uptoBulkAll r
def uptoBulkEntries {H : Type} : List (Lit × DataW H) → Nat
  | [] => 0
  | x :: r => uptoBulkEntry x + uptoBulkEntries r
def uptoBulkEntry {H : Type} : Lit × DataW H → Nat
  | (.string bytes, d) => bytes.length + uptoBulk d + 1
  | (_, d) => uptoBulk d + 1
 end
def uptoSmall : (H : Type) → List (DataW H) → Bool := fun _ ds => decide (uptoBulkAll ds ≤ 1048576)
def OpenSpec.upto (s : _root_.Go.ChangeSpec) : _root_.Go.OpenSpec := { _root_.Go.OpenSpec.ofChange s with cond := some uptoSmall }

/-- 'palimplaw19.AcctQuota', WHERE WHAT IT READS IS OF BULK AT MOST 1048576: true; the input reads as it did. -/
def acctQuotaUptoRow : OpenClaim := { program := "ytemjlopoffjmpaa", sum := "e7debd05c40b5542c826f341a37dcd80add9b1a599558795153aa37da2914b07", func := "palimp/palimplaw19.AcctQuota", spec := "acctQuota", inPlace := ["internal/abi.NoEscape", "internal/bytealg.MakeNoZero"], unfollowed := true, recurses := true, apart := false, narrowed := true }
def AcctQuotaUptoSaid : Prop := acctQuotaUptoRow.holds Try.pinned (OpenSpec.upto acctQuotaSpec)

/-- 'palimplaw19.AcctWorst', WHERE WHAT IT READS IS OF BULK AT MOST 1048576: true; the input reads as it did. -/
def acctWorstUptoRow : OpenClaim := { program := "ytemjlopoffjmpaa", sum := "e7debd05c40b5542c826f341a37dcd80add9b1a599558795153aa37da2914b07", func := "palimp/palimplaw19.AcctWorst", spec := "acctWorst", inPlace := ["internal/abi.NoEscape", "internal/bytealg.MakeNoZero"], unfollowed := true, recurses := true, apart := false, narrowed := true }
def AcctWorstUptoSaid : Prop := acctWorstUptoRow.holds Try.pinned (OpenSpec.upto acctWorstSpec)

/-- 'palimplaw19.AcctStats', WHERE WHAT IT READS IS OF BULK AT MOST 1048576: true; the input reads as it did. -/
def acctStatsUptoRow : OpenClaim := { program := "ytemjlopoffjmpaa", sum := "e7debd05c40b5542c826f341a37dcd80add9b1a599558795153aa37da2914b07", func := "palimp/palimplaw19.AcctStats", spec := "acctStats", inPlace := ["internal/abi.NoEscape", "internal/bytealg.MakeNoZero"], unfollowed := true, recurses := true, apart := false, narrowed := true }
def AcctStatsUptoSaid : Prop := acctStatsUptoRow.holds Try.pinned (OpenSpec.upto acctStatsSpec)

/-- 'palimplaw18.SetsMay', WHERE WHAT IT READS IS OF BULK AT MOST 1048576: true; the input reads as it did. -/
def setsMayUptoRow : OpenClaim := { program := "ytemjlopoffjmpaa", sum := "e7debd05c40b5542c826f341a37dcd80add9b1a599558795153aa37da2914b07", func := "palimp/palimplaw18.SetsMay", spec := "setsMay", inPlace := ["internal/bytealg.IndexByteString"], unfollowed := true, recurses := true, apart := false, narrowed := true }
def SetsMayUptoSaid : Prop := setsMayUptoRow.holds Try.pinned (OpenSpec.upto setsMaySpec)

/-- 'palimplaw18.SetsForms', WHERE WHAT IT READS IS OF BULK AT MOST 1048576: true; the input reads as it did. -/
def setsFormsUptoRow : OpenClaim := { program := "ytemjlopoffjmpaa", sum := "e7debd05c40b5542c826f341a37dcd80add9b1a599558795153aa37da2914b07", func := "palimp/palimplaw18.SetsForms", spec := "setsForms", inPlace := ["internal/bytealg.IndexByteString"], unfollowed := true, recurses := true, apart := false, narrowed := true }
def SetsFormsUptoSaid : Prop := setsFormsUptoRow.holds Try.pinned (OpenSpec.upto setsFormsSpec)

end Rows
end Go.Proofs.Ytemjlopoffjmpaa
