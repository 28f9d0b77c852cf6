/-
  No cell of these rows narrows 'for every input' (looked for: loops, veiled, ifaces, maps, wideKeys, modest, calm, conditions, laid).
  DERIVED. THE GIVEN ROWS OF THIS SEAT. 9 by the template 'for every input the law returns true; each argument reads behind the call as it read before'; 0 by the template 'total and deterministic' (their statements: YtemjlopoffjmpaaGreatTotals.lean).
  GIVEN WITH THE SEED: the statements are not yours to turn. If you find one false, say at which input.
  Laid BY PROGRAM, IN A SANDBOX (cutbox-rows.mjs): the forced cells as the released guide's own fill.sh prints them over the translation 792d1ad9c784a459… (all of the seat's roots in one cut). By AI agents, Wed Nov 11 2026. No macro, syntax, notation, axiom, sorry.
-/
import Derived.Test.YtemjlopoffjmpaaGreatChecked
import GoSem.Claim
import GoSem.ClaimJoined
import GoSem.ClaimMapViews
import Derived.JoinedTies
import Derived.KernelRfl
namespace Go.Proofs.YtemjlopoffjmpaaGreat
/- THE CELL 'sum', in the pinned program and in every row, IS THE sha256 OF THE DUMP (.gsa) THAT YtemjlopoffjmpaaGreatProg.lean LOADS. Nothing in Lean hashes anything: it is a label: what it is worth is what the hold of that sum in a sandbox is worth. -/
noncomputable def Tryz.pinned : Pinned := { name := "ytemjlopoffjmpaagreat", sum := "792d1ad9c784a45979b5b343b6901137a9f52779ce93c1b9f489dd66c3adfb51", checked := Tryz.checked }
namespace Rows
def none {H : Type} : Left H := { results := [], args := [] }

/-- 'palimplaw19.AcctAll': WHATEVER THE INPUT: true; the input reads as it did. -/
def acctAllSpec : ChangeSpec := { name := "acctAll", fn := fun _ => fun
  | [d1, d2, d3, d4] => { results := [.lit (.bool true)], args := [d1, d2, d3, d4] }
  | _ => none }
def acctAllRow : OpenClaim := { program := "ytemjlopoffjmpaagreat", sum := "792d1ad9c784a45979b5b343b6901137a9f52779ce93c1b9f489dd66c3adfb51", func := "palimp/palimplaw19.AcctAll", spec := "acctAll", inPlace := ["internal/abi.NoEscape", "internal/bytealg.MakeNoZero"], unfollowed := true, recurses := true, apart := false }
def AcctAllSaid : Prop := acctAllRow.holds Tryz.pinned (OpenSpec.ofChange acctAllSpec)

/-- ITS FALSE NEIGHBOUR: 'it returns false'. Refute it at one input. -/
def acctAllWrong : ChangeSpec := { name := "acctAll", fn := fun _ => fun
  | [d1, d2, d3, d4] => { results := [.lit (.bool false)], args := [d1, d2, d3, d4] }
  | _ => none }
def AcctAllWrongFalsely : Prop := acctAllRow.holds Tryz.pinned (OpenSpec.ofChange acctAllWrong)

/-- 'palimplaw19.AcctOthers': WHATEVER THE INPUT: true; the input reads as it did. -/
def acctOthersSpec : ChangeSpec := { name := "acctOthers", fn := fun _ => fun
  | [d1, d2, d3, d4] => { results := [.lit (.bool true)], args := [d1, d2, d3, d4] }
  | _ => none }
def acctOthersRow : OpenClaim := { program := "ytemjlopoffjmpaagreat", sum := "792d1ad9c784a45979b5b343b6901137a9f52779ce93c1b9f489dd66c3adfb51", func := "palimp/palimplaw19.AcctOthers", spec := "acctOthers", inPlace := ["internal/abi.NoEscape", "internal/bytealg.MakeNoZero"], unfollowed := true, recurses := true, apart := false }
def AcctOthersSaid : Prop := acctOthersRow.holds Tryz.pinned (OpenSpec.ofChange acctOthersSpec)

/-- ITS FALSE NEIGHBOUR: 'it returns false'. Refute it at one input. -/
def acctOthersWrong : ChangeSpec := { name := "acctOthers", fn := fun _ => fun
  | [d1, d2, d3, d4] => { results := [.lit (.bool false)], args := [d1, d2, d3, d4] }
  | _ => none }
def AcctOthersWrongFalsely : Prop := acctOthersRow.holds Tryz.pinned (OpenSpec.ofChange acctOthersWrong)

/-- 'palimplaw18.SetsStay': WHATEVER THE INPUT: true; the input reads as it did. -/
def setsStaySpec : ChangeSpec := { name := "setsStay", fn := fun _ => fun
  | [d1, d2, d3] => { results := [.lit (.bool true)], args := [d1, d2, d3] }
  | _ => none }
def setsStayRow : OpenClaim := { program := "ytemjlopoffjmpaagreat", sum := "792d1ad9c784a45979b5b343b6901137a9f52779ce93c1b9f489dd66c3adfb51", func := "palimp/palimplaw18.SetsStay", spec := "setsStay", inPlace := ["internal/bytealg.IndexByteString"], unfollowed := true, recurses := true, apart := false }
def SetsStaySaid : Prop := setsStayRow.holds Tryz.pinned (OpenSpec.ofChange setsStaySpec)

/-- ITS FALSE NEIGHBOUR: 'it returns false'. Refute it at one input. -/
def setsStayWrong : ChangeSpec := { name := "setsStay", fn := fun _ => fun
  | [d1, d2, d3] => { results := [.lit (.bool false)], args := [d1, d2, d3] }
  | _ => none }
def SetsStayWrongFalsely : Prop := setsStayRow.holds Tryz.pinned (OpenSpec.ofChange setsStayWrong)

/-- 'palimplaw18.SetsRound': WHATEVER THE INPUT: true; the input reads as it did. -/
def setsRoundSpec : ChangeSpec := { name := "setsRound", fn := fun _ => fun
  | [d1, d2] => { results := [.lit (.bool true)], args := [d1, d2] }
  | _ => none }
def setsRoundRow : OpenClaim := { program := "ytemjlopoffjmpaagreat", sum := "792d1ad9c784a45979b5b343b6901137a9f52779ce93c1b9f489dd66c3adfb51", func := "palimp/palimplaw18.SetsRound", spec := "setsRound", inPlace := ["internal/bytealg.IndexByteString"], unfollowed := true, recurses := true, apart := false }
def SetsRoundSaid : Prop := setsRoundRow.holds Tryz.pinned (OpenSpec.ofChange setsRoundSpec)

/-- ITS FALSE NEIGHBOUR: 'it returns false'. Refute it at one input. -/
def setsRoundWrong : ChangeSpec := { name := "setsRound", fn := fun _ => fun
  | [d1, d2] => { results := [.lit (.bool false)], args := [d1, d2] }
  | _ => none }
def SetsRoundWrongFalsely : Prop := setsRoundRow.holds Tryz.pinned (OpenSpec.ofChange setsRoundWrong)

/-- 'palimplaw18.SetsHang': WHATEVER THE INPUT: true; the input reads as it did. -/
def setsHangSpec : ChangeSpec := { name := "setsHang", fn := fun _ => fun
  | [d] => { results := [.lit (.bool true)], args := [d] }
  | _ => none }
def setsHangRow : OpenClaim := { program := "ytemjlopoffjmpaagreat", sum := "792d1ad9c784a45979b5b343b6901137a9f52779ce93c1b9f489dd66c3adfb51", func := "palimp/palimplaw18.SetsHang", spec := "setsHang", inPlace := ["internal/bytealg.IndexByteString"], unfollowed := true, recurses := true, apart := false }
def SetsHangSaid : Prop := setsHangRow.holds Tryz.pinned (OpenSpec.ofChange setsHangSpec)

/-- ITS FALSE NEIGHBOUR: 'it returns false'. Refute it at one input. -/
def setsHangWrong : ChangeSpec := { name := "setsHang", fn := fun _ => fun
  | [d] => { results := [.lit (.bool false)], args := [d] }
  | _ => none }
def SetsHangWrongFalsely : Prop := setsHangRow.holds Tryz.pinned (OpenSpec.ofChange setsHangWrong)

/-- 'palimplaw18.SetsAll': WHATEVER THE INPUT: true; the input reads as it did. -/
def setsAllSpec : ChangeSpec := { name := "setsAll", fn := fun _ => fun
  | [d1, d2, d3, d4, d5, d6, d7] => { results := [.lit (.bool true)], args := [d1, d2, d3, d4, d5, d6, d7] }
  | _ => none }
def setsAllRow : OpenClaim := { program := "ytemjlopoffjmpaagreat", sum := "792d1ad9c784a45979b5b343b6901137a9f52779ce93c1b9f489dd66c3adfb51", func := "palimp/palimplaw18.SetsAll", spec := "setsAll", inPlace := ["internal/bytealg.IndexByteString"], unfollowed := true, recurses := true, apart := false }
def SetsAllSaid : Prop := setsAllRow.holds Tryz.pinned (OpenSpec.ofChange setsAllSpec)

/-- ITS FALSE NEIGHBOUR: 'it returns false'. Refute it at one input. -/
def setsAllWrong : ChangeSpec := { name := "setsAll", fn := fun _ => fun
  | [d1, d2, d3, d4, d5, d6, d7] => { results := [.lit (.bool false)], args := [d1, d2, d3, d4, d5, d6, d7] }
  | _ => none }
def SetsAllWrongFalsely : Prop := setsAllRow.holds Tryz.pinned (OpenSpec.ofChange setsAllWrong)

/-- 'palimplaw18.SetsFiles': WHATEVER THE INPUT: true; the input reads as it did. -/
def setsFilesSpec : ChangeSpec := { name := "setsFiles", fn := fun _ => fun
  | [d1, d2, d3, d4] => { results := [.lit (.bool true)], args := [d1, d2, d3, d4] }
  | _ => none }
def setsFilesRow : OpenClaim := { program := "ytemjlopoffjmpaagreat", sum := "792d1ad9c784a45979b5b343b6901137a9f52779ce93c1b9f489dd66c3adfb51", func := "palimp/palimplaw18.SetsFiles", spec := "setsFiles", inPlace := ["internal/bytealg.IndexByteString"], unfollowed := true, recurses := true, apart := false }
def SetsFilesSaid : Prop := setsFilesRow.holds Tryz.pinned (OpenSpec.ofChange setsFilesSpec)

/-- ITS FALSE NEIGHBOUR: 'it returns false'. Refute it at one input. -/
def setsFilesWrong : ChangeSpec := { name := "setsFiles", fn := fun _ => fun
  | [d1, d2, d3, d4] => { results := [.lit (.bool false)], args := [d1, d2, d3, d4] }
  | _ => none }
def SetsFilesWrongFalsely : Prop := setsFilesRow.holds Tryz.pinned (OpenSpec.ofChange setsFilesWrong)

/-- 'palimplaw18.SetsBack': WHATEVER THE INPUT: true; the input reads as it did. -/
def setsBackSpec : ChangeSpec := { name := "setsBack", fn := fun _ => fun
  | [d1, d2, d3] => { results := [.lit (.bool true)], args := [d1, d2, d3] }
  | _ => none }
def setsBackRow : OpenClaim := { program := "ytemjlopoffjmpaagreat", sum := "792d1ad9c784a45979b5b343b6901137a9f52779ce93c1b9f489dd66c3adfb51", func := "palimp/palimplaw18.SetsBack", spec := "setsBack", inPlace := ["internal/bytealg.IndexByteString"], unfollowed := true, recurses := true, apart := false }
def SetsBackSaid : Prop := setsBackRow.holds Tryz.pinned (OpenSpec.ofChange setsBackSpec)

/-- ITS FALSE NEIGHBOUR: 'it returns false'. Refute it at one input. -/
def setsBackWrong : ChangeSpec := { name := "setsBack", fn := fun _ => fun
  | [d1, d2, d3] => { results := [.lit (.bool false)], args := [d1, d2, d3] }
  | _ => none }
def SetsBackWrongFalsely : Prop := setsBackRow.holds Tryz.pinned (OpenSpec.ofChange setsBackWrong)

/-- 'palimplaw18.SetsOld': WHATEVER THE INPUT: true; the input reads as it did. -/
def setsOldSpec : ChangeSpec := { name := "setsOld", fn := fun _ => fun
  | [d1, d2, d3, d4] => { results := [.lit (.bool true)], args := [d1, d2, d3, d4] }
  | _ => none }
def setsOldRow : OpenClaim := { program := "ytemjlopoffjmpaagreat", sum := "792d1ad9c784a45979b5b343b6901137a9f52779ce93c1b9f489dd66c3adfb51", func := "palimp/palimplaw18.SetsOld", spec := "setsOld", inPlace := ["internal/bytealg.IndexByteString"], unfollowed := true, recurses := true, apart := false }
def SetsOldSaid : Prop := setsOldRow.holds Tryz.pinned (OpenSpec.ofChange setsOldSpec)

/-- ITS FALSE NEIGHBOUR: 'it returns false'. Refute it at one input. -/
def setsOldWrong : ChangeSpec := { name := "setsOld", fn := fun _ => fun
  | [d1, d2, d3, d4] => { results := [.lit (.bool false)], args := [d1, d2, d3, d4] }
  | _ => none }
def SetsOldWrongFalsely : Prop := setsOldRow.holds Tryz.pinned (OpenSpec.ofChange setsOldWrong)

/- THE SECOND FORM. 'bulk': how many values and letters a reading holds, each counted each time it is reached (what is shared counts as often as it is met; a slice's spare places count too). A statement '..UptoSaid' is the law's where the arguments, and the package variables that the reading takes, are together of bulk at most 1048576: NARROWER than '..Said'. Prove '..Said' where nothing that the law and all that it calls make is longer than what came in: it says more and counts as full. Else prove '..UptoSaid'. A law counts once. -/
mutual
def uptoBulk {H : Type} : DataW H → Nat
  | .lit (.string bytes) => bytes.length + 1
  | .lit _ => 1
  | .nil => 1
  | .ptr d => uptoBulk d + 1
  | .slice elems spare => uptoBulkAll elems + uptoBulkAll spare + 1
  | .agg parts => uptoBulkAll parts + 1
  | .iface _ d => uptoBulk d + 1
  | .map entries => uptoBulkEntries entries + 1
  | .held _ => 1
def uptoBulkAll {H : Type} : List (DataW H) → Nat
  | [] => 0
  | d :: r => uptoBulk d + uptoBulkAll r
def uptoBulkEntries {H : Type} : List (Lit × DataW H) → Nat
  | [] => 0
  | x :: r => uptoBulkEntry x + uptoBulkEntries r
def uptoBulkEntry {H : Type} : Lit × DataW H → Nat
  | (.string bytes, d) => bytes.length + uptoBulk d + 1
  | (_, d) => uptoBulk d + 1
 end
def uptoSmall : (H : Type) → List (DataW H) → Bool := fun _ ds => decide (uptoBulkAll ds ≤ 1048576)
def OpenSpec.upto (s : _root_.Go.ChangeSpec) : _root_.Go.OpenSpec := { _root_.Go.OpenSpec.ofChange s with cond := some uptoSmall }

/-- 'palimplaw19.AcctAll', WHERE WHAT IT READS IS OF BULK AT MOST 1048576: true; the input reads as it did. -/
def acctAllUptoRow : OpenClaim := { program := "ytemjlopoffjmpaagreat", sum := "792d1ad9c784a45979b5b343b6901137a9f52779ce93c1b9f489dd66c3adfb51", func := "palimp/palimplaw19.AcctAll", spec := "acctAll", inPlace := ["internal/abi.NoEscape", "internal/bytealg.MakeNoZero"], unfollowed := true, recurses := true, apart := false, narrowed := true }
def AcctAllUptoSaid : Prop := acctAllUptoRow.holds Tryz.pinned (OpenSpec.upto acctAllSpec)

/-- 'palimplaw19.AcctOthers', WHERE WHAT IT READS IS OF BULK AT MOST 1048576: true; the input reads as it did. -/
def acctOthersUptoRow : OpenClaim := { program := "ytemjlopoffjmpaagreat", sum := "792d1ad9c784a45979b5b343b6901137a9f52779ce93c1b9f489dd66c3adfb51", func := "palimp/palimplaw19.AcctOthers", spec := "acctOthers", inPlace := ["internal/abi.NoEscape", "internal/bytealg.MakeNoZero"], unfollowed := true, recurses := true, apart := false, narrowed := true }
def AcctOthersUptoSaid : Prop := acctOthersUptoRow.holds Tryz.pinned (OpenSpec.upto acctOthersSpec)

/-- 'palimplaw18.SetsStay', WHERE WHAT IT READS IS OF BULK AT MOST 1048576: true; the input reads as it did. -/
def setsStayUptoRow : OpenClaim := { program := "ytemjlopoffjmpaagreat", sum := "792d1ad9c784a45979b5b343b6901137a9f52779ce93c1b9f489dd66c3adfb51", func := "palimp/palimplaw18.SetsStay", spec := "setsStay", inPlace := ["internal/bytealg.IndexByteString"], unfollowed := true, recurses := true, apart := false, narrowed := true }
def SetsStayUptoSaid : Prop := setsStayUptoRow.holds Tryz.pinned (OpenSpec.upto setsStaySpec)

/-- 'palimplaw18.SetsRound', WHERE WHAT IT READS IS OF BULK AT MOST 1048576: true; the input reads as it did. -/
def setsRoundUptoRow : OpenClaim := { program := "ytemjlopoffjmpaagreat", sum := "792d1ad9c784a45979b5b343b6901137a9f52779ce93c1b9f489dd66c3adfb51", func := "palimp/palimplaw18.SetsRound", spec := "setsRound", inPlace := ["internal/bytealg.IndexByteString"], unfollowed := true, recurses := true, apart := false, narrowed := true }
def SetsRoundUptoSaid : Prop := setsRoundUptoRow.holds Tryz.pinned (OpenSpec.upto setsRoundSpec)

/-- 'palimplaw18.SetsHang', WHERE WHAT IT READS IS OF BULK AT MOST 1048576: true; the input reads as it did. -/
def setsHangUptoRow : OpenClaim := { program := "ytemjlopoffjmpaagreat", sum := "792d1ad9c784a45979b5b343b6901137a9f52779ce93c1b9f489dd66c3adfb51", func := "palimp/palimplaw18.SetsHang", spec := "setsHang", inPlace := ["internal/bytealg.IndexByteString"], unfollowed := true, recurses := true, apart := false, narrowed := true }
def SetsHangUptoSaid : Prop := setsHangUptoRow.holds Tryz.pinned (OpenSpec.upto setsHangSpec)

/-- 'palimplaw18.SetsAll', WHERE WHAT IT READS IS OF BULK AT MOST 1048576: true; the input reads as it did. -/
def setsAllUptoRow : OpenClaim := { program := "ytemjlopoffjmpaagreat", sum := "792d1ad9c784a45979b5b343b6901137a9f52779ce93c1b9f489dd66c3adfb51", func := "palimp/palimplaw18.SetsAll", spec := "setsAll", inPlace := ["internal/bytealg.IndexByteString"], unfollowed := true, recurses := true, apart := false, narrowed := true }
def SetsAllUptoSaid : Prop := setsAllUptoRow.holds Tryz.pinned (OpenSpec.upto setsAllSpec)

/-- 'palimplaw18.SetsFiles', WHERE WHAT IT READS IS OF BULK AT MOST 1048576: true; the input reads as it did. -/
def setsFilesUptoRow : OpenClaim := { program := "ytemjlopoffjmpaagreat", sum := "792d1ad9c784a45979b5b343b6901137a9f52779ce93c1b9f489dd66c3adfb51", func := "palimp/palimplaw18.SetsFiles", spec := "setsFiles", inPlace := ["internal/bytealg.IndexByteString"], unfollowed := true, recurses := true, apart := false, narrowed := true }
def SetsFilesUptoSaid : Prop := setsFilesUptoRow.holds Tryz.pinned (OpenSpec.upto setsFilesSpec)

/-- 'palimplaw18.SetsBack', WHERE WHAT IT READS IS OF BULK AT MOST 1048576: true; the input reads as it did. -/
def setsBackUptoRow : OpenClaim := { program := "ytemjlopoffjmpaagreat", sum := "792d1ad9c784a45979b5b343b6901137a9f52779ce93c1b9f489dd66c3adfb51", func := "palimp/palimplaw18.SetsBack", spec := "setsBack", inPlace := ["internal/bytealg.IndexByteString"], unfollowed := true, recurses := true, apart := false, narrowed := true }
def SetsBackUptoSaid : Prop := setsBackUptoRow.holds Tryz.pinned (OpenSpec.upto setsBackSpec)

/-- 'palimplaw18.SetsOld', WHERE WHAT IT READS IS OF BULK AT MOST 1048576: true; the input reads as it did. -/
def setsOldUptoRow : OpenClaim := { program := "ytemjlopoffjmpaagreat", sum := "792d1ad9c784a45979b5b343b6901137a9f52779ce93c1b9f489dd66c3adfb51", func := "palimp/palimplaw18.SetsOld", spec := "setsOld", inPlace := ["internal/bytealg.IndexByteString"], unfollowed := true, recurses := true, apart := false, narrowed := true }
def SetsOldUptoSaid : Prop := setsOldUptoRow.holds Tryz.pinned (OpenSpec.upto setsOldSpec)

end Rows
end Go.Proofs.YtemjlopoffjmpaaGreat
