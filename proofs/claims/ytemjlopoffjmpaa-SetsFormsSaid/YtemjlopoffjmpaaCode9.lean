/-
  The code of some functions in the abstract layer's form, each checked against the program's own. Written by gen.py.
-/
import Derived.Test.YtemjlopoffjmpaaAbs22
import Derived.Test.YtemjlopoffjmpaaProg
import Derived.KernelRfl
namespace Go.Proofs.Ytemjlopoffjmpaa.Abs
open Go

/-- (palimp/node.row).folder -/
def c113 : ACode :=
 (.seq (.reg [⟨some 2, none, .box (.t 0)⟩,
  ⟨some 4, none, .mv (.c (.bool false))⟩])
 (.seq (.reg [⟨some 5, none, .mv (.t 1)⟩,
  ⟨some 6, none, .bini .geq (.t 5) (.c (.int .i64 0))⟩,
  ⟨some 7, none, .mv (.t 6)⟩,
  ⟨some 8, (some (7, true)), .mv (.t 1)⟩,
  ⟨some 9, (some (7, true)), .faddr 0 (.t 2)⟩,
  ⟨some 10, (some (7, true)), .load false 1 (.t 9)⟩,
  ⟨some 11, (some (7, true)), .len false (.t 10)⟩,
  ⟨some 12, (some (7, true)), .bini .lss (.t 8) (.t 11)⟩,
  ⟨some 13, none, .pick (.t 7) (.t 12) (.c (.bool false))⟩,
  ⟨some 14, none, .mv (.t 13)⟩,
  ⟨some 15, (some (14, true)), .faddr 0 (.t 2)⟩,
  ⟨some 16, (some (14, true)), .load false 1 (.t 15)⟩,
  ⟨some 17, (some (14, true)), .mv (.t 1)⟩,
  ⟨some 18, (some (14, true)), .iaddr 5 (.t 16) (.t 17)⟩,
  ⟨some 19, (some (14, true)), .faddr 0 (.t 18)⟩,
  ⟨some 20, (some (14, true)), .load false 1 (.t 19)⟩,
  ⟨some 21, (some (14, true)), .bini .eql (.t 20) (.c (.int .i64 2))⟩,
  ⟨some 22, none, .pick (.t 14) (.t 21) (.c (.bool false))⟩,
  ⟨some 4, none, .mv (.t 22)⟩])
 .ret))
theorem d113 : FnD Try.prog 113 2 21 [.tmp 4] c113 := ⟨Try.f113, _, Try.func113, by kernel_rfl, rfl, rfl, by kernel_rfl, by kernel_rfl⟩

/-- palimp/name.plain -/
def c114 : ACode :=
 (.seq (.reg [⟨some 2, none, .mv (.c (.bool false))⟩])
 (.seq (.seq (.reg [⟨some 5, none, .mv (.t 0)⟩,
  ⟨some 6, none, .convsb (.t 5)⟩,
  ⟨some 7, none, .len false (.t 6)⟩,
  ⟨some 8, none, .mv (.c (.int .i64 0))⟩])
 (.block 0
 (.loop
 (.seq (.reg [⟨some 9, none, .bini .lss (.t 8) (.t 7)⟩])
 (.seq (.cond (.t 9)
 .skip
 (.exit 0))
 (.seq (.block 1
 (.seq (.reg [⟨some 10, none, .iaddr 1 (.t 6) (.t 8)⟩,
  ⟨some 11, none, .load false 1 (.t 10)⟩,
  ⟨some 4, none, .mv (.t 11)⟩])
 (.seq (.reg [⟨some 12, none, .mv (.t 4)⟩,
  ⟨some 13, none, .call 115 [(.c (.str [97, 98, 99, 100, 101, 102, 103, 104, 105, 106, 107, 108, 109, 110, 111, 112, 113, 114, 115, 116, 117, 118, 119, 120, 121, 122, 48, 49, 50, 51, 52, 53, 54, 55, 56, 57, 46, 95, 45])), (.t 12)]⟩,
  ⟨some 14, none, .bini .lss (.t 13) (.c (.int .i64 0))⟩])
 (.cond (.t 14)
 (.seq (.reg [⟨some 2, none, .mv (.c (.bool false))⟩])
 .ret)
 .skip))))
 (.reg [⟨some 15, none, .bini .add (.t 8) (.c (.int .i64 1))⟩,
  ⟨some 8, none, .mv (.t 15)⟩])))))))
 (.seq (.reg [⟨some 2, none, .mv (.c (.bool true))⟩])
 .ret)))
theorem d114 : FnD Try.prog 114 1 15 [.tmp 2] c114 := ⟨Try.f114, _, Try.func114, by kernel_rfl, rfl, rfl, by kernel_rfl, by kernel_rfl⟩

/-- strings.IndexByte -/
def c115 : ACode :=
 (.seq (.reg [⟨some 4, none, .mv (.c (.int .i64 0))⟩])
 (.seq (.reg [⟨some 5, none, .mv (.t 0)⟩,
  ⟨some 6, none, .mv (.t 1)⟩,
  ⟨some 7, none, .call 116 [(.t 5), (.t 6)]⟩,
  ⟨some 4, none, .mv (.t 7)⟩])
 .ret))
theorem d115 : FnD Try.prog 115 2 6 [.tmp 4] c115 := ⟨Try.f115, _, Try.func115, by kernel_rfl, rfl, rfl, by kernel_rfl, by kernel_rfl⟩

/-- internal/stringslite.IndexByte -/
def c116 : ACode :=
 (.seq (.reg [⟨some 4, none, .mv (.c (.int .i64 0))⟩])
 (.seq (.reg [⟨some 5, none, .mv (.t 0)⟩,
  ⟨some 6, none, .mv (.t 1)⟩,
  ⟨some 7, none, .call 117 [(.t 5), (.t 6)]⟩,
  ⟨some 4, none, .mv (.t 7)⟩])
 .ret))
theorem d116 : FnD Try.prog 116 2 6 [.tmp 4] c116 := ⟨Try.f116, _, Try.func116, by kernel_rfl, rfl, rfl, by kernel_rfl, by kernel_rfl⟩

end Go.Proofs.Ytemjlopoffjmpaa.Abs
