/-
  The code of some functions in the abstract layer's form, each checked against the program's own. Written by gen.py.
-/
import Derived.Test.YtemjlopoffjmpaaAbs22
import Derived.Test.YtemjlopoffjmpaaProg
import Derived.KernelRfl
namespace Go.Proofs.Ytemjlopoffjmpaa.Abs
open Go

/-- palimp/palimplaw19.AcctQuota -/
def c3 : ACode :=
 (.seq (.reg [⟨some 4, none, .mv (.c (.bool false))⟩])
 (.seq (.seq (.reg [⟨some 15, none, .call 8 []⟩,
  ⟨some 16, none, .un .not (.t 15)⟩])
 (.cond (.t 16)
 (.seq (.reg [⟨some 4, none, .mv (.c (.bool false))⟩])
 .ret)
 .skip))
 (.seq (.seq (.reg [⟨some 17, none, .mv (.t 0)⟩,
  ⟨some 18, none, .len false (.t 17)⟩,
  ⟨some 19, none, .bini .gtr (.t 18) (.c (.int .i64 150))⟩])
 (.cond (.t 19)
 (.seq (.reg [⟨some 4, none, .mv (.c (.bool true))⟩])
 .ret)
 .skip))
 (.seq (.reg [⟨some 20, none, .mv (.t 1)⟩,
  ⟨some 21, none, .bini .rem (.t 20) (.c (.int .u8 9))⟩,
  ⟨some 22, none, .convi .i64 (.t 21)⟩,
  ⟨some 5, none, .mv (.t 22)⟩])
 (.seq (.reg [⟨some 23, none, .mv (.t 0)⟩,
  ⟨some 24, none, .call 9 [(.t 23)]⟩,
  ⟨some 6, none, .mv (.t 24)⟩])
 (.seq (.reg [⟨some 25, none, .mv (.t 5)⟩,
  ⟨some 26, none, .call 10 []⟩,
  ⟨some 27, none, .build [.int .i64 0, .int .i64 0, .int .i64 0, .int .i64 0, .emp] [(0, 1, (.c (.int .i64 1))), (1, 1, (.c (.int .i64 1))), (3, 1, (.t 25)), (4, 1, (.t 26))]⟩,
  ⟨some 28, none, .bslice 5 1 [.int .i64 0, .int .i64 0, .int .i64 0, .int .i64 0, .emp] [(0, (.t 27))]⟩,
  ⟨some 7, none, .mv (.t 28)⟩])
 (.seq (.seq (.reg [⟨some 8, none, .mv (.c (.int .i64 0))⟩])
 (.block 0
 (.loop
 (.seq (.seq (.reg [⟨some 29, none, .mv (.t 8)⟩,
  ⟨some 30, none, .bini .lss (.t 29) (.c (.int .i64 40))⟩,
  ⟨some 31, none, .mv (.t 30)⟩,
  ⟨some 32, (some (31, true)), .mv (.t 6)⟩,
  ⟨some 33, (some (31, true)), .call 11 [(.t 32)]⟩,
  ⟨some 34, (some (31, true)), .un .not (.t 33)⟩,
  ⟨some 35, none, .pick (.t 31) (.t 34) (.c (.bool false))⟩])
 (.cond (.t 35)
 .skip
 (.exit 0)))
 (.seq (.block 1
 (.seq (.dregE [[⟨some 39, none, .mv (.t 7)⟩,
  ⟨some 40, none, .iaddr 5 (.t 39) (.c (.int .i64 0))⟩,
  ⟨some 41, none, .faddr 4 (.t 40)⟩,
  ⟨some 42, none, .load false 1 (.t 41)⟩,
  ⟨some 43, none, .mv (.t 6)⟩,
  ⟨some 44, none, .call 13 [(.t 43), (.c (.int .i64 1))]⟩],
  [⟨some 45, none, .call 12 [(.t 42), (.t 44)]⟩],
  [⟨some 38, none, .mv (.t 45)⟩],
  [⟨some 46, none, .ext (.t 38) 0⟩,
  ⟨some 47, none, .ext (.t 38) 1⟩,
  ⟨some 9, none, .mv (.t 46)⟩],
  [⟨some 10, none, .mv (.t 47)⟩]]
  [[], [0], [0, 1], [0, 1, 2], [], [4], [0, 1, 2, 3, 4, 5], [0, 1, 2, 3, 4, 5, 6], [0, 1, 2, 3, 4, 5, 6, 7], [0, 1, 2, 3, 4, 5, 6, 7], [0, 1, 2, 3, 4, 5, 6, 7, 8], [0, 1, 2, 3, 4, 5, 6, 7, 8, 9, 10]])
 (.seq (.seq (.reg [⟨some 48, none, .mv (.t 10)⟩,
  ⟨some 49, none, .bini .neq (.t 48) (.c (.int .i64 0))⟩])
 (.cond (.t 49)
 (.exit 1)
 .skip))
 (.seq (.reg [⟨some 50, none, .mv (.t 7)⟩,
  ⟨some 51, none, .iaddr 5 (.t 50) (.c (.int .i64 0))⟩,
  ⟨some 52, none, .faddr 4 (.t 51)⟩,
  ⟨some 53, none, .load false 1 (.t 52)⟩,
  ⟨some 54, none, .call 14 [(.t 53)]⟩,
  ⟨some 11, none, .mv (.t 54)⟩])
 (.seq (.reg [⟨some 56, none, .mv (.t 7)⟩,
  ⟨some 57, none, .mv (.t 9)⟩,
  ⟨some 58, none, .call 15 [(.t 56), (.c (.int .i64 1)), (.t 57)]⟩,
  ⟨some 55, none, .mv (.t 58)⟩,
  ⟨some 59, none, .ext (.t 55) 0⟩,
  ⟨some 60, none, .ext (.t 55) 1⟩,
  ⟨some 12, none, .mv (.t 59)⟩,
  ⟨some 13, none, .mv (.t 60)⟩])
 (.seq (.seq (.reg [⟨some 61, none, .mv (.t 12)⟩,
  ⟨some 62, none, .len false (.t 61)⟩,
  ⟨some 63, none, .bini .neq (.t 62) (.c (.int .i64 1))⟩,
  ⟨some 64, none, .mv (.t 63)⟩,
  ⟨some 65, (some (64, false)), .mv (.t 13)⟩,
  ⟨some 66, (some (64, false)), .bini .neq (.t 65) (.c (.int .i64 0))⟩,
  ⟨some 67, (some (64, false)), .mv (.t 66)⟩,
  ⟨some 68, (some (67, true)), .mv (.t 13)⟩,
  ⟨some 69, (some (67, true)), .bini .neq (.t 68) (.c (.int .i64 9))⟩,
  ⟨some 70, (some (67, true)), .mv (.t 69)⟩,
  ⟨some 71, (some (70, false)), .mv (.t 5)⟩,
  ⟨some 72, (some (70, false)), .bini .eql (.t 71) (.c (.int .i64 0))⟩,
  ⟨some 73, (some (67, true)), .pick (.t 70) (.c (.bool true)) (.t 72)⟩,
  ⟨some 74, (some (67, true)), .mv (.t 73)⟩,
  ⟨some 75, (some (74, false)), .mv (.t 9)⟩,
  ⟨some 76, (some (74, false)), .call 14 [(.t 75)]⟩,
  ⟨some 77, (some (74, false)), .mv (.t 5)⟩,
  ⟨some 78, (some (74, false)), .bini .leq (.t 76) (.t 77)⟩,
  ⟨some 79, (some (67, true)), .pick (.t 74) (.c (.bool true)) (.t 78)⟩,
  ⟨some 80, (some (67, true)), .mv (.t 79)⟩,
  ⟨some 81, (some (80, false)), .mv (.t 9)⟩,
  ⟨some 82, (some (80, false)), .call 14 [(.t 81)]⟩,
  ⟨some 83, (some (80, false)), .mv (.t 11)⟩,
  ⟨some 84, (some (80, false)), .bini .leq (.t 82) (.t 83)⟩,
  ⟨some 85, (some (67, true)), .pick (.t 80) (.c (.bool true)) (.t 84)⟩,
  ⟨some 86, (some (64, false)), .pick (.t 67) (.t 85) (.c (.bool false))⟩,
  ⟨some 87, none, .pick (.t 64) (.c (.bool true)) (.t 86)⟩])
 (.cond (.t 87)
 (.seq (.reg [⟨some 4, none, .mv (.c (.bool false))⟩])
 .ret)
 .skip))
 (.seq (.reg [⟨some 88, none, .mv (.t 12)⟩,
  ⟨some 7, none, .mv (.t 88)⟩])
 (.seq (.reg [⟨some 89, none, .mv (.t 7)⟩,
  ⟨some 90, none, .iaddr 5 (.t 89) (.c (.int .i64 0))⟩,
  ⟨some 91, none, .faddr 4 (.t 90)⟩,
  ⟨some 92, none, .load false 1 (.t 91)⟩,
  ⟨some 93, none, .call 14 [(.t 92)]⟩,
  ⟨some 14, none, .mv (.t 93)⟩])
 (.seq (.reg [⟨some 94, none, .mv (.t 5)⟩,
  ⟨some 95, none, .bini .gtr (.t 94) (.c (.int .i64 0))⟩,
  ⟨some 96, none, .mv (.t 95)⟩,
  ⟨some 97, (some (96, true)), .mv (.t 14)⟩,
  ⟨some 98, (some (96, true)), .mv (.t 5)⟩,
  ⟨some 99, (some (96, true)), .bini .gtr (.t 97) (.t 98)⟩,
  ⟨some 100, none, .pick (.t 96) (.t 99) (.c (.bool false))⟩])
 (.cond (.t 100)
 (.seq (.reg [⟨some 4, none, .mv (.c (.bool false))⟩])
 .ret)
 .skip))))))))))
 (.reg [⟨some 36, none, .mv (.t 8)⟩,
  ⟨some 37, none, .bini .add (.t 36) (.c (.int .i64 1))⟩,
  ⟨some 8, none, .mv (.t 37)⟩]))))))
 (.seq (.reg [⟨some 4, none, .mv (.c (.bool true))⟩])
 .ret))))))))
theorem d3 : FnD Try.prog 3 2 99 [.tmp 4] c3 := ⟨Try.f3, _, Try.func3, by kernel_rfl, rfl, rfl, by kernel_rfl, by kernel_rfl⟩

/-- palimp/palimplaw19.AcctWorst -/
def c4 : ACode :=
 (.seq (.reg [⟨some 4, none, .mv (.c (.bool false))⟩])
 (.seq (.seq (.reg [⟨some 14, none, .call 8 []⟩,
  ⟨some 15, none, .un .not (.t 14)⟩])
 (.cond (.t 15)
 (.seq (.reg [⟨some 4, none, .mv (.c (.bool false))⟩])
 .ret)
 .skip))
 (.seq (.seq (.reg [⟨some 16, none, .mv (.t 0)⟩,
  ⟨some 17, none, .len false (.t 16)⟩,
  ⟨some 18, none, .bini .gtr (.t 17) (.c (.int .i64 60))⟩,
  ⟨some 19, none, .mv (.t 18)⟩,
  ⟨some 20, (some (19, false)), .mv (.t 1)⟩,
  ⟨some 21, (some (19, false)), .len true (.t 20)⟩,
  ⟨some 22, (some (19, false)), .bini .gtr (.t 21) (.c (.int .i64 128))⟩,
  ⟨some 23, none, .pick (.t 19) (.c (.bool true)) (.t 22)⟩])
 (.cond (.t 23)
 (.seq (.reg [⟨some 4, none, .mv (.c (.bool true))⟩])
 .ret)
 .skip))
 (.seq (.reg [⟨some 24, none, .mv (.t 0)⟩,
  ⟨some 25, none, .call 9 [(.t 24)]⟩,
  ⟨some 26, none, .call 16 [(.t 25), (.c (.int .i64 15))]⟩,
  ⟨some 5, none, .mv (.t 26)⟩])
 (.seq (.reg [⟨some 27, none, .mv (.t 5)⟩,
  ⟨some 28, none, .build [.int .i64 0, .int .i64 0, .int .i64 0, .int .i64 0, .emp] [(0, 1, (.c (.int .i64 1))), (1, 1, (.c (.int .i64 1))), (4, 1, (.t 27))]⟩,
  ⟨some 29, none, .bslice 5 1 [.int .i64 0, .int .i64 0, .int .i64 0, .int .i64 0, .emp] [(0, (.t 28))]⟩,
  ⟨some 6, none, .mv (.t 29)⟩])
 (.seq (.reg [⟨some 31, none, .mv (.t 5)⟩,
  ⟨some 32, none, .call 17 [(.t 31), (.c (.str [110, 101, 119])), (.c (.int .i64 1))]⟩,
  ⟨some 30, none, .mv (.t 32)⟩,
  ⟨some 33, none, .ext (.t 30) 0⟩,
  ⟨some 34, none, .ext (.t 30) 1⟩,
  ⟨some 7, none, .mv (.t 33)⟩,
  ⟨some 8, none, .mv (.t 34)⟩])
 (.seq (.seq (.reg [⟨some 35, none, .mv (.t 8)⟩,
  ⟨some 36, none, .bini .neq (.t 35) (.c (.int .i64 0))⟩])
 (.cond (.t 36)
 (.seq (.reg [⟨some 4, none, .mv (.c (.bool true))⟩])
 .ret)
 .skip))
 (.seq (.reg [⟨some 38, none, .mv (.t 7)⟩,
  ⟨some 39, none, .mv (.t 1)⟩,
  ⟨some 40, none, .call 18 [(.t 38), (.c (.str [110, 101, 119])), (.c (.int .i64 0)), (.t 39)]⟩,
  ⟨some 37, none, .mv (.t 40)⟩,
  ⟨some 41, none, .ext (.t 37) 0⟩,
  ⟨some 42, none, .ext (.t 37) 1⟩,
  ⟨some 9, none, .mv (.t 41)⟩,
  ⟨some 10, none, .mv (.t 42)⟩])
 (.seq (.reg [⟨some 43, none, .mv (.t 7)⟩,
  ⟨some 44, none, .build [.int .i64 0, .int .i64 0, .int .i64 0, .int .i64 0, .emp] [(0, 1, (.c (.int .i64 1))), (1, 1, (.c (.int .i64 1))), (4, 1, (.t 43))]⟩,
  ⟨some 45, none, .bslice 5 1 [.int .i64 0, .int .i64 0, .int .i64 0, .int .i64 0, .emp] [(0, (.t 44))]⟩,
  ⟨some 46, none, .mv (.t 9)⟩,
  ⟨some 47, none, .build [.int .i64 0, .int .i64 0, .int .i64 0, .int .i64 0, .emp] [(0, 1, (.c (.int .i64 1))), (1, 1, (.c (.int .i64 1))), (4, 1, (.t 46))]⟩,
  ⟨some 48, none, .bslice 5 1 [.int .i64 0, .int .i64 0, .int .i64 0, .int .i64 0, .emp] [(0, (.t 47))]⟩,
  ⟨some 11, none, .mv (.t 45)⟩,
  ⟨some 12, none, .mv (.t 48)⟩])
 (.seq (.reg [⟨some 49, none, .mv (.t 6)⟩,
  ⟨some 50, none, .call 19 [(.t 49)]⟩,
  ⟨some 13, none, .mv (.t 50)⟩])
 (.seq (.reg [⟨some 51, none, .mv (.t 11)⟩,
  ⟨some 52, none, .call 19 [(.t 51)]⟩,
  ⟨some 53, none, .mv (.t 13)⟩,
  ⟨some 54, none, .bini .add (.t 53) (.c (.int .i64 1))⟩,
  ⟨some 55, none, .bini .eql (.t 52) (.t 54)⟩,
  ⟨some 56, none, .mv (.t 55)⟩,
  ⟨some 57, (some (56, true)), .mv (.t 12)⟩,
  ⟨some 58, (some (56, true)), .call 19 [(.t 57)]⟩,
  ⟨some 59, (some (56, true)), .mv (.t 13)⟩,
  ⟨some 60, (some (56, true)), .bini .add (.t 59) (.c (.int .i64 1))⟩,
  ⟨some 61, (some (56, true)), .mv (.t 1)⟩,
  ⟨some 62, (some (56, true)), .call 20 [(.t 61)]⟩,
  ⟨some 63, (some (56, true)), .bini .add (.t 60) (.t 62)⟩,
  ⟨some 64, (some (56, true)), .bini .eql (.t 58) (.t 63)⟩,
  ⟨some 65, none, .pick (.t 56) (.t 64) (.c (.bool false))⟩,
  ⟨some 66, none, .mv (.t 65)⟩,
  ⟨some 67, (some (66, true)), .mv (.t 9)⟩,
  ⟨some 68, (some (66, true)), .call 14 [(.t 67)]⟩,
  ⟨some 69, (some (66, true)), .mv (.t 5)⟩,
  ⟨some 70, (some (66, true)), .call 14 [(.t 69)]⟩,
  ⟨some 71, (some (66, true)), .mv (.t 1)⟩,
  ⟨some 72, (some (66, true)), .call 20 [(.t 71)]⟩,
  ⟨some 73, (some (66, true)), .bini .add (.t 70) (.t 72)⟩,
  ⟨some 74, (some (66, true)), .bini .eql (.t 68) (.t 73)⟩,
  ⟨some 75, none, .pick (.t 66) (.t 74) (.c (.bool false))⟩,
  ⟨some 4, none, .mv (.t 75)⟩])
 .ret)))))))))))
theorem d4 : FnD Try.prog 4 2 74 [.tmp 4] c4 := ⟨Try.f4, _, Try.func4, by kernel_rfl, rfl, rfl, by kernel_rfl, by kernel_rfl⟩

/-- palimp/palimplaw19.AcctStats -/
def c5 : ACode :=
 (.seq (.reg [⟨some 2, none, .mv (.c (.bool false))⟩])
 (.seq (.seq (.reg [⟨some 10, none, .call 8 []⟩,
  ⟨some 11, none, .un .not (.t 10)⟩])
 (.cond (.t 11)
 (.seq (.reg [⟨some 2, none, .mv (.c (.bool false))⟩])
 .ret)
 .skip))
 (.seq (.seq (.reg [⟨some 12, none, .mv (.t 0)⟩,
  ⟨some 13, none, .len false (.t 12)⟩,
  ⟨some 14, none, .bini .gtr (.t 13) (.c (.int .i64 60))⟩])
 (.cond (.t 14)
 (.seq (.reg [⟨some 2, none, .mv (.c (.bool true))⟩])
 .ret)
 .skip))
 (.seq (.reg [⟨some 15, none, .mv (.t 0)⟩,
  ⟨some 16, none, .call 9 [(.t 15)]⟩,
  ⟨some 17, none, .call 16 [(.t 16), (.c (.int .i64 25))]⟩,
  ⟨some 3, none, .mv (.t 17)⟩])
 (.seq (.reg [⟨some 4, none, .mv (.c (.int .i64 0))⟩])
 (.seq (.seq (.reg [⟨some 5, none, .mv (.c (.int .i64 0))⟩])
 (.block 0
 (.loop
 (.seq (.seq (.reg [⟨some 18, none, .mv (.t 5)⟩,
  ⟨some 19, none, .mv (.t 3)⟩,
  ⟨some 20, none, .len false (.t 19)⟩,
  ⟨some 21, none, .bini .lss (.t 18) (.t 20)⟩])
 (.cond (.t 21)
 .skip
 (.exit 0)))
 (.seq (.block 1
 (.seq (.reg [⟨some 25, none, .mv (.t 3)⟩,
  ⟨some 26, none, .mv (.t 5)⟩,
  ⟨some 27, none, .call 21 [(.t 25), (.t 26)]⟩,
  ⟨some 24, none, .mv (.t 27)⟩,
  ⟨some 28, none, .ext (.t 24) 0⟩,
  ⟨some 29, none, .ext (.t 24) 1⟩,
  ⟨some 6, none, .mv (.t 28)⟩,
  ⟨some 7, none, .mv (.t 29)⟩])
 (.seq (.seq (.reg [⟨some 30, none, .mv (.t 7)⟩,
  ⟨some 31, none, .un .not (.t 30)⟩])
 (.cond (.t 31)
 (.exit 1)
 .skip))
 (.seq (.reg [⟨some 33, none, .mv (.t 3)⟩,
  ⟨some 34, none, .mv (.t 6)⟩,
  ⟨some 35, none, .call 22 [(.t 33), (.t 34)]⟩,
  ⟨some 32, none, .mv (.t 35)⟩,
  ⟨some 36, none, .ext (.t 32) 0⟩,
  ⟨some 37, none, .ext (.t 32) 1⟩,
  ⟨some 8, none, .alloc [.int .i64 0, .int .i64 0, .int .i64 0, .int .i64 0]⟩,
  ⟨none, none, .store 4 (.t 8) (.t 36)⟩,
  ⟨some 9, none, .mv (.t 37)⟩])
 (.seq (.seq (.reg [⟨some 38, none, .mv (.t 9)⟩,
  ⟨some 39, none, .bini .neq (.t 38) (.c (.int .i64 0))⟩,
  ⟨some 40, none, .mv (.t 39)⟩,
  ⟨some 41, (some (40, false)), .faddr 1 (.t 8)⟩,
  ⟨some 42, (some (40, false)), .load false 1 (.t 41)⟩,
  ⟨some 43, (some (40, false)), .bini .eql (.t 42) (.c (.int .i64 2))⟩,
  ⟨some 44, (some (40, false)), .mv (.t 43)⟩,
  ⟨some 45, (some (44, true)), .faddr 3 (.t 8)⟩,
  ⟨some 46, (some (44, true)), .load false 1 (.t 45)⟩,
  ⟨some 47, (some (44, true)), .bini .gtr (.t 46) (.c (.int .i64 0))⟩,
  ⟨some 48, (some (40, false)), .pick (.t 44) (.t 47) (.c (.bool false))⟩,
  ⟨some 49, none, .pick (.t 40) (.c (.bool true)) (.t 48)⟩])
 (.cond (.t 49)
 (.seq (.reg [⟨some 2, none, .mv (.c (.bool false))⟩])
 .ret)
 .skip))
 (.reg [⟨some 50, none, .mv (.t 4)⟩,
  ⟨some 51, none, .faddr 3 (.t 8)⟩,
  ⟨some 52, none, .load false 1 (.t 51)⟩,
  ⟨some 53, none, .bini .add (.t 50) (.t 52)⟩,
  ⟨some 4, none, .mv (.t 53)⟩]))))))
 (.reg [⟨some 22, none, .mv (.t 5)⟩,
  ⟨some 23, none, .bini .add (.t 22) (.c (.int .i64 1))⟩,
  ⟨some 5, none, .mv (.t 23)⟩]))))))
 (.seq (.reg [⟨some 54, none, .mv (.t 3)⟩,
  ⟨some 55, none, .call 14 [(.t 54)]⟩,
  ⟨some 56, none, .mv (.t 4)⟩,
  ⟨some 57, none, .bini .eql (.t 55) (.t 56)⟩,
  ⟨some 58, none, .mv (.t 57)⟩,
  ⟨some 59, (some (58, true)), .mv (.t 4)⟩,
  ⟨some 60, (some (58, true)), .bini .leq (.t 59) (.c (.int .i64 28))⟩,
  ⟨some 61, none, .pick (.t 58) (.t 60) (.c (.bool false))⟩,
  ⟨some 62, none, .mv (.t 61)⟩,
  ⟨some 63, (some (62, true)), .call 10 []⟩,
  ⟨some 64, (some (62, true)), .call 14 [(.t 63)]⟩,
  ⟨some 65, (some (62, true)), .bini .eql (.t 64) (.c (.int .i64 0))⟩,
  ⟨some 66, none, .pick (.t 62) (.t 65) (.c (.bool false))⟩,
  ⟨some 2, none, .mv (.t 66)⟩])
 .ret)))))))
theorem d5 : FnD Try.prog 5 1 66 [.tmp 2] c5 := ⟨Try.f5, _, Try.func5, by kernel_rfl, rfl, rfl, by kernel_rfl, by kernel_rfl⟩

/-- palimp/palimplaw18.SetsMay -/
def c6 : ACode :=
 (.seq (.reg [⟨some 2, none, .mv (.c (.bool false))⟩])
 (.seq (.seq (.reg [⟨some 9, none, .call 23 []⟩,
  ⟨some 10, none, .un .not (.t 9)⟩])
 (.cond (.t 10)
 (.seq (.reg [⟨some 2, none, .mv (.c (.bool false))⟩])
 .ret)
 .skip))
 (.seq (.seq (.reg [⟨some 11, none, .mv (.t 0)⟩,
  ⟨some 12, none, .len false (.t 11)⟩,
  ⟨some 13, none, .bini .gtr (.t 12) (.c (.int .i64 150))⟩])
 (.cond (.t 13)
 (.seq (.reg [⟨some 2, none, .mv (.c (.bool true))⟩])
 .ret)
 .skip))
 (.seq (.reg [⟨some 14, none, .mv (.t 0)⟩,
  ⟨some 15, none, .call 9 [(.t 14)]⟩,
  ⟨some 3, none, .mv (.t 15)⟩])
 (.seq (.reg [⟨some 16, none, .call 10 []⟩,
  ⟨some 17, none, .build [.int .i64 0, .int .i64 0, .int .i64 0, .int .i64 0, .emp] [(0, 1, (.c (.int .i64 1))), (1, 1, (.c (.int .i64 1))), (4, 1, (.t 16))]⟩,
  ⟨some 18, none, .bslice 5 1 [.int .i64 0, .int .i64 0, .int .i64 0, .int .i64 0, .emp] [(0, (.t 17))]⟩,
  ⟨some 4, none, .mv (.t 18)⟩])
 (.seq (.seq (.reg [⟨some 5, none, .mv (.c (.int .i64 0))⟩])
 (.block 0
 (.loop
 (.seq (.seq (.reg [⟨some 19, none, .mv (.t 5)⟩,
  ⟨some 20, none, .bini .lss (.t 19) (.c (.int .i64 40))⟩,
  ⟨some 21, none, .mv (.t 20)⟩,
  ⟨some 22, (some (21, true)), .mv (.t 3)⟩,
  ⟨some 23, (some (21, true)), .call 11 [(.t 22)]⟩,
  ⟨some 24, (some (21, true)), .un .not (.t 23)⟩,
  ⟨some 25, none, .pick (.t 21) (.t 24) (.c (.bool false))⟩])
 (.cond (.t 25)
 .skip
 (.exit 0)))
 (.seq (.block 1
 (.seq (.reg [⟨some 28, none, .mv (.t 3)⟩,
  ⟨some 29, none, .call 24 [(.t 28), (.c (.int .i64 12))]⟩,
  ⟨some 30, none, .bini .add (.c (.int .i64 1)) (.t 29)⟩,
  ⟨some 6, none, .mv (.t 30)⟩])
 (.seq (.reg [⟨some 7, none, .mv (.c (.emp))⟩])
 (.seq (.reg [⟨some 8, none, .mv (.c (.int .i64 0))⟩])
 (.seq (.seq (.reg [⟨some 31, none, .mv (.t 3)⟩,
  ⟨some 32, none, .call 24 [(.t 31), (.c (.int .i64 7))]⟩])
 (.block 2
 (.seq (.reg [⟨some 40, none, .bini .eql (.t 32) (.c (.int .i64 0))⟩,
  ⟨some 39, none, .mv (.t 40)⟩])
 (.cond (.t 39)
 (.reg [⟨some 42, none, .mv (.t 4)⟩,
  ⟨some 43, none, .mv (.t 5)⟩,
  ⟨some 44, none, .bini .add (.t 43) (.c (.int .i64 2))⟩,
  ⟨some 45, none, .mv (.t 3)⟩,
  ⟨some 46, none, .call 24 [(.t 45), (.c (.int .i64 300))]⟩,
  ⟨some 47, none, .bini .sub (.t 46) (.c (.int .i64 10))⟩,
  ⟨some 48, none, .call 25 [(.t 42), (.t 44), (.t 47)]⟩,
  ⟨some 41, none, .mv (.t 48)⟩,
  ⟨some 49, none, .ext (.t 41) 0⟩,
  ⟨some 50, none, .ext (.t 41) 1⟩,
  ⟨some 7, none, .mv (.t 49)⟩,
  ⟨some 8, none, .mv (.t 50)⟩])
 (.seq (.seq (.reg [⟨some 52, none, .bini .eql (.t 32) (.c (.int .i64 1))⟩,
  ⟨some 51, none, .mv (.t 52)⟩])
 (.cond (.t 51)
 .skip
 (.reg [⟨some 53, none, .bini .eql (.t 32) (.c (.int .i64 2))⟩,
  ⟨some 51, none, .mv (.t 53)⟩])))
 (.cond (.t 51)
 (.reg [⟨some 55, none, .mv (.t 4)⟩,
  ⟨some 56, none, .mv (.t 5)⟩,
  ⟨some 57, none, .bini .add (.t 56) (.c (.int .i64 2))⟩,
  ⟨some 58, none, .mv (.t 6)⟩,
  ⟨some 59, none, .call 26 [(.t 55), (.t 57), (.t 58)]⟩,
  ⟨some 54, none, .mv (.t 59)⟩,
  ⟨some 60, none, .ext (.t 54) 0⟩,
  ⟨some 61, none, .ext (.t 54) 1⟩,
  ⟨some 7, none, .mv (.t 60)⟩,
  ⟨some 8, none, .mv (.t 61)⟩])
 (.seq (.reg [⟨some 63, none, .bini .eql (.t 32) (.c (.int .i64 3))⟩,
  ⟨some 62, none, .mv (.t 63)⟩])
 (.cond (.t 62)
 (.reg [⟨some 65, none, .mv (.t 4)⟩,
  ⟨some 66, none, .mv (.t 5)⟩,
  ⟨some 67, none, .bini .add (.t 66) (.c (.int .i64 2))⟩,
  ⟨some 68, none, .mv (.t 6)⟩,
  ⟨some 69, none, .call 27 [(.t 65), (.t 67), (.t 68)]⟩,
  ⟨some 64, none, .mv (.t 69)⟩,
  ⟨some 70, none, .ext (.t 64) 0⟩,
  ⟨some 71, none, .ext (.t 64) 1⟩,
  ⟨some 7, none, .mv (.t 70)⟩,
  ⟨some 8, none, .mv (.t 71)⟩])
 (.seq (.reg [⟨some 73, none, .bini .eql (.t 32) (.c (.int .i64 4))⟩,
  ⟨some 72, none, .mv (.t 73)⟩])
 (.cond (.t 72)
 (.reg [⟨some 75, none, .mv (.t 4)⟩,
  ⟨some 76, none, .mv (.t 6)⟩,
  ⟨some 77, none, .call 28 [(.t 75), (.t 76)]⟩,
  ⟨some 74, none, .mv (.t 77)⟩,
  ⟨some 78, none, .ext (.t 74) 0⟩,
  ⟨some 79, none, .ext (.t 74) 1⟩,
  ⟨some 7, none, .mv (.t 78)⟩,
  ⟨some 8, none, .mv (.t 79)⟩])
 (.seq (.reg [⟨some 81, none, .bini .eql (.t 32) (.c (.int .i64 5))⟩,
  ⟨some 80, none, .mv (.t 81)⟩])
 (.cond (.t 80)
 (.reg [⟨some 83, none, .mv (.t 4)⟩,
  ⟨some 84, none, .mv (.t 6)⟩,
  ⟨some 85, none, .mv (.t 3)⟩,
  ⟨some 86, none, .call 24 [(.t 85), (.c (.int .i64 12))]⟩,
  ⟨some 87, none, .bini .add (.c (.int .i64 1)) (.t 86)⟩,
  ⟨some 88, none, .call 29 [(.t 83), (.t 84), (.t 87)]⟩,
  ⟨some 82, none, .mv (.t 88)⟩,
  ⟨some 89, none, .ext (.t 82) 0⟩,
  ⟨some 90, none, .ext (.t 82) 1⟩,
  ⟨some 7, none, .mv (.t 89)⟩,
  ⟨some 8, none, .mv (.t 90)⟩])
 (.reg [⟨some 34, none, .mv (.t 4)⟩,
  ⟨some 35, none, .mv (.t 6)⟩,
  ⟨some 36, none, .call 30 [(.t 34), (.t 35)]⟩,
  ⟨some 33, none, .mv (.t 36)⟩,
  ⟨some 37, none, .ext (.t 33) 0⟩,
  ⟨some 38, none, .ext (.t 33) 1⟩,
  ⟨some 7, none, .mv (.t 37)⟩,
  ⟨some 8, none, .mv (.t 38)⟩])))))))))))))
 (.seq (.seq (.reg [⟨some 91, none, .mv (.t 7)⟩,
  ⟨some 92, none, .call 31 [(.t 91)]⟩,
  ⟨some 93, none, .un .not (.t 92)⟩,
  ⟨some 94, none, .mv (.t 93)⟩,
  ⟨some 95, (some (94, false)), .mv (.t 8)⟩,
  ⟨some 96, (some (94, false)), .bini .neq (.t 95) (.c (.int .i64 0))⟩,
  ⟨some 97, (some (94, false)), .mv (.t 96)⟩,
  ⟨some 98, (some (97, true)), .mv (.t 7)⟩,
  ⟨some 99, (some (97, true)), .mv (.t 4)⟩,
  ⟨some 100, (some (97, true)), .call 32 [(.t 98), (.t 99)]⟩,
  ⟨some 101, (some (97, true)), .un .not (.t 100)⟩,
  ⟨some 102, (some (94, false)), .pick (.t 97) (.t 101) (.c (.bool false))⟩,
  ⟨some 103, none, .pick (.t 94) (.c (.bool true)) (.t 102)⟩])
 (.cond (.t 103)
 (.seq (.reg [⟨some 2, none, .mv (.c (.bool false))⟩])
 .ret)
 .skip))
 (.reg [⟨some 104, none, .mv (.t 7)⟩,
  ⟨some 4, none, .mv (.t 104)⟩])))))))
 (.reg [⟨some 26, none, .mv (.t 5)⟩,
  ⟨some 27, none, .bini .add (.t 26) (.c (.int .i64 1))⟩,
  ⟨some 5, none, .mv (.t 27)⟩]))))))
 (.seq (.reg [⟨some 2, none, .mv (.c (.bool true))⟩])
 .ret)))))))
theorem d6 : FnD Try.prog 6 1 104 [.tmp 2] c6 := ⟨Try.f6, _, Try.func6, by kernel_rfl, rfl, rfl, by kernel_rfl, by kernel_rfl⟩

/-- palimp/palimplaw18.SetsForms -/
def c7 : ACode :=
 (.seq (.reg [⟨some 0, none, .mv (.c (.bool false))⟩])
 (.seq (.seq (.reg [⟨some 45, none, .call 23 []⟩,
  ⟨some 46, none, .un .not (.t 45)⟩])
 (.cond (.t 46)
 (.seq (.reg [⟨some 0, none, .mv (.c (.bool false))⟩])
 .ret)
 .skip))
 (.seq (.reg [⟨some 48, none, .call 25 [(.c (.emp)), (.c (.int .i64 1)), (.c (.int .i64 0))]⟩,
  ⟨some 47, none, .mv (.t 48)⟩,
  ⟨some 49, none, .ext (.t 47) 0⟩,
  ⟨some 50, none, .ext (.t 47) 1⟩,
  ⟨some 1, none, .mv (.t 49)⟩,
  ⟨some 2, none, .mv (.t 50)⟩])
 (.seq (.reg [⟨some 52, none, .mv (.t 1)⟩,
  ⟨some 53, none, .call 26 [(.t 52), (.c (.int .i64 2)), (.c (.int .i64 1))]⟩,
  ⟨some 51, none, .mv (.t 53)⟩,
  ⟨some 54, none, .ext (.t 51) 0⟩,
  ⟨some 55, none, .ext (.t 51) 1⟩,
  ⟨some 1, none, .mv (.t 54)⟩])
 (.seq (.reg [⟨some 57, none, .mv (.t 1)⟩,
  ⟨some 58, none, .call 26 [(.t 57), (.c (.int .i64 3)), (.c (.int .i64 1))]⟩,
  ⟨some 56, none, .mv (.t 58)⟩,
  ⟨some 59, none, .ext (.t 56) 0⟩,
  ⟨some 60, none, .ext (.t 56) 1⟩,
  ⟨some 1, none, .mv (.t 59)⟩])
 (.seq (.reg [⟨some 62, none, .mv (.t 1)⟩,
  ⟨some 63, none, .call 27 [(.t 62), (.c (.int .i64 4)), (.c (.int .i64 3))]⟩,
  ⟨some 61, none, .mv (.t 63)⟩,
  ⟨some 64, none, .ext (.t 61) 0⟩,
  ⟨some 65, none, .ext (.t 61) 1⟩,
  ⟨some 1, none, .mv (.t 64)⟩])
 (.seq (.seq (.reg [⟨some 66, none, .mv (.t 1)⟩,
  ⟨some 67, none, .len false (.t 66)⟩,
  ⟨some 68, none, .bini .neq (.t 67) (.c (.int .i64 4))⟩])
 (.cond (.t 68)
 (.seq (.reg [⟨some 0, none, .mv (.c (.bool false))⟩])
 .ret)
 .skip))
 (.seq (.reg [⟨some 70, none, .mv (.t 1)⟩,
  ⟨some 71, none, .call 25 [(.t 70), (.c (.int .i64 4)), (.c (.int .i64 0))]⟩,
  ⟨some 69, none, .mv (.t 71)⟩,
  ⟨some 72, none, .ext (.t 69) 0⟩,
  ⟨some 73, none, .ext (.t 69) 1⟩,
  ⟨some 3, none, .mv (.t 72)⟩,
  ⟨some 4, none, .mv (.t 73)⟩])
 (.seq (.reg [⟨some 75, none, .mv (.t 1)⟩,
  ⟨some 76, none, .call 25 [(.t 75), (.c (.int .i64 65536)), (.c (.int .i64 0))]⟩,
  ⟨some 74, none, .mv (.t 76)⟩,
  ⟨some 77, none, .ext (.t 74) 0⟩,
  ⟨some 78, none, .ext (.t 74) 1⟩,
  ⟨some 5, none, .mv (.t 77)⟩,
  ⟨some 6, none, .mv (.t 78)⟩])
 (.seq (.reg [⟨some 80, none, .mv (.t 1)⟩,
  ⟨some 81, none, .call 25 [(.t 80), (.c (.int .i64 5)), (.c (.int .i64 256))]⟩,
  ⟨some 79, none, .mv (.t 81)⟩,
  ⟨some 82, none, .ext (.t 79) 0⟩,
  ⟨some 83, none, .ext (.t 79) 1⟩,
  ⟨some 7, none, .mv (.t 82)⟩,
  ⟨some 8, none, .mv (.t 83)⟩])
 (.seq (.reg [⟨some 85, none, .mv (.t 1)⟩,
  ⟨some 86, none, .call 26 [(.t 85), (.c (.int .i64 5)), (.c (.int .i64 2))]⟩,
  ⟨some 84, none, .mv (.t 86)⟩,
  ⟨some 87, none, .ext (.t 84) 0⟩,
  ⟨some 88, none, .ext (.t 84) 1⟩,
  ⟨some 9, none, .mv (.t 87)⟩,
  ⟨some 10, none, .mv (.t 88)⟩])
 (.seq (.reg [⟨some 90, none, .mv (.t 1)⟩,
  ⟨some 91, none, .call 26 [(.t 90), (.c (.int .i64 5)), (.c (.int .i64 9))]⟩,
  ⟨some 89, none, .mv (.t 91)⟩,
  ⟨some 92, none, .ext (.t 89) 0⟩,
  ⟨some 93, none, .ext (.t 89) 1⟩,
  ⟨some 11, none, .mv (.t 92)⟩,
  ⟨some 12, none, .mv (.t 93)⟩])
 (.seq (.reg [⟨some 95, none, .mv (.t 1)⟩,
  ⟨some 96, none, .call 27 [(.t 95), (.c (.int .i64 5)), (.c (.int .i64 1))]⟩,
  ⟨some 94, none, .mv (.t 96)⟩,
  ⟨some 97, none, .ext (.t 94) 0⟩,
  ⟨some 98, none, .ext (.t 94) 1⟩,
  ⟨some 13, none, .mv (.t 97)⟩,
  ⟨some 14, none, .mv (.t 98)⟩])
 (.seq (.reg [⟨some 100, none, .mv (.t 1)⟩,
  ⟨some 101, none, .call 28 [(.t 100), (.c (.int .i64 1))]⟩,
  ⟨some 99, none, .mv (.t 101)⟩,
  ⟨some 102, none, .ext (.t 99) 0⟩,
  ⟨some 103, none, .ext (.t 99) 1⟩,
  ⟨some 15, none, .mv (.t 102)⟩,
  ⟨some 16, none, .mv (.t 103)⟩])
 (.seq (.reg [⟨some 105, none, .mv (.t 1)⟩,
  ⟨some 106, none, .call 28 [(.t 105), (.c (.int .i64 2))]⟩,
  ⟨some 104, none, .mv (.t 106)⟩,
  ⟨some 107, none, .ext (.t 104) 0⟩,
  ⟨some 108, none, .ext (.t 104) 1⟩,
  ⟨some 17, none, .mv (.t 107)⟩,
  ⟨some 18, none, .mv (.t 108)⟩])
 (.seq (.reg [⟨some 110, none, .mv (.t 1)⟩,
  ⟨some 111, none, .call 29 [(.t 110), (.c (.int .i64 1)), (.c (.int .i64 2))]⟩,
  ⟨some 109, none, .mv (.t 111)⟩,
  ⟨some 112, none, .ext (.t 109) 0⟩,
  ⟨some 113, none, .ext (.t 109) 1⟩,
  ⟨some 19, none, .mv (.t 112)⟩,
  ⟨some 20, none, .mv (.t 113)⟩])
 (.seq (.reg [⟨some 115, none, .mv (.t 1)⟩,
  ⟨some 116, none, .call 29 [(.t 115), (.c (.int .i64 1)), (.c (.int .i64 3))]⟩,
  ⟨some 114, none, .mv (.t 116)⟩,
  ⟨some 117, none, .ext (.t 114) 0⟩,
  ⟨some 118, none, .ext (.t 114) 1⟩,
  ⟨some 21, none, .mv (.t 117)⟩,
  ⟨some 22, none, .mv (.t 118)⟩])
 (.seq (.reg [⟨some 120, none, .mv (.t 1)⟩,
  ⟨some 121, none, .call 29 [(.t 120), (.c (.int .i64 4)), (.c (.int .i64 3))]⟩,
  ⟨some 119, none, .mv (.t 121)⟩,
  ⟨some 122, none, .ext (.t 119) 0⟩,
  ⟨some 123, none, .ext (.t 119) 1⟩,
  ⟨some 23, none, .mv (.t 122)⟩,
  ⟨some 24, none, .mv (.t 123)⟩])
 (.seq (.reg [⟨some 125, none, .mv (.t 1)⟩,
  ⟨some 126, none, .call 29 [(.t 125), (.c (.int .i64 1)), (.c (.int .i64 9))]⟩,
  ⟨some 124, none, .mv (.t 126)⟩,
  ⟨some 127, none, .ext (.t 124) 0⟩,
  ⟨some 128, none, .ext (.t 124) 1⟩,
  ⟨some 25, none, .mv (.t 127)⟩,
  ⟨some 26, none, .mv (.t 128)⟩])
 (.seq (.reg [⟨some 130, none, .mv (.t 1)⟩,
  ⟨some 131, none, .call 30 [(.t 130), (.c (.int .i64 1))]⟩,
  ⟨some 129, none, .mv (.t 131)⟩,
  ⟨some 132, none, .ext (.t 129) 0⟩,
  ⟨some 133, none, .ext (.t 129) 1⟩,
  ⟨some 27, none, .mv (.t 132)⟩,
  ⟨some 28, none, .mv (.t 133)⟩])
 (.seq (.reg [⟨some 135, none, .mv (.t 1)⟩,
  ⟨some 136, none, .call 30 [(.t 135), (.c (.int .i64 3))]⟩,
  ⟨some 134, none, .mv (.t 136)⟩,
  ⟨some 137, none, .ext (.t 134) 0⟩,
  ⟨some 138, none, .ext (.t 134) 1⟩,
  ⟨some 29, none, .mv (.t 137)⟩,
  ⟨some 30, none, .mv (.t 138)⟩])
 (.seq (.reg [⟨some 140, none, .mv (.t 1)⟩,
  ⟨some 141, none, .call 30 [(.t 140), (.c (.int .i64 4))]⟩,
  ⟨some 139, none, .mv (.t 141)⟩,
  ⟨some 142, none, .ext (.t 139) 0⟩,
  ⟨some 143, none, .ext (.t 139) 1⟩,
  ⟨some 31, none, .mv (.t 142)⟩,
  ⟨some 32, none, .mv (.t 143)⟩])
 (.seq (.reg [⟨some 145, none, .mv (.t 1)⟩,
  ⟨some 146, none, .call 30 [(.t 145), (.c (.int .i64 2))]⟩,
  ⟨some 144, none, .mv (.t 146)⟩,
  ⟨some 147, none, .ext (.t 144) 0⟩,
  ⟨some 148, none, .ext (.t 144) 1⟩,
  ⟨some 33, none, .mv (.t 147)⟩,
  ⟨some 34, none, .mv (.t 148)⟩])
 (.seq (.reg [⟨some 150, none, .mv (.t 1)⟩,
  ⟨some 151, none, .call 28 [(.t 150), (.c (.int .i64 4))]⟩,
  ⟨some 149, none, .mv (.t 151)⟩,
  ⟨some 152, none, .ext (.t 149) 0⟩,
  ⟨some 153, none, .ext (.t 149) 1⟩,
  ⟨some 35, none, .mv (.t 152)⟩,
  ⟨some 36, none, .mv (.t 153)⟩])
 (.seq (.reg [⟨some 155, none, .call 25 [(.c (.emp)), (.c (.int .i64 1)), (.c (.int .i64 0))]⟩,
  ⟨some 154, none, .mv (.t 155)⟩,
  ⟨some 156, none, .ext (.t 154) 0⟩,
  ⟨some 157, none, .ext (.t 154) 1⟩,
  ⟨some 37, none, .mv (.t 156)⟩,
  ⟨some 38, none, .mv (.t 157)⟩])
 (.seq (.reg [⟨some 159, none, .mv (.t 37)⟩,
  ⟨some 160, none, .call 30 [(.t 159), (.c (.int .i64 1))]⟩,
  ⟨some 158, none, .mv (.t 160)⟩,
  ⟨some 161, none, .ext (.t 158) 0⟩,
  ⟨some 162, none, .ext (.t 158) 1⟩,
  ⟨some 39, none, .mv (.t 161)⟩,
  ⟨some 40, none, .mv (.t 162)⟩])
 (.seq (.reg [⟨some 164, none, .mv (.t 37)⟩,
  ⟨some 165, none, .call 30 [(.t 164), (.c (.int .i64 2))]⟩,
  ⟨some 163, none, .mv (.t 165)⟩,
  ⟨some 166, none, .ext (.t 163) 0⟩,
  ⟨some 167, none, .ext (.t 163) 1⟩,
  ⟨some 41, none, .mv (.t 166)⟩,
  ⟨some 42, none, .mv (.t 167)⟩])
 (.seq (.reg [⟨some 169, none, .call 25 [(.c (.emp)), (.c (.int .i64 0)), (.c (.int .i64 0))]⟩,
  ⟨some 168, none, .mv (.t 169)⟩,
  ⟨some 170, none, .ext (.t 168) 0⟩,
  ⟨some 171, none, .ext (.t 168) 1⟩,
  ⟨some 43, none, .mv (.t 170)⟩,
  ⟨some 44, none, .mv (.t 171)⟩])
 (.seq (.seq (.reg [⟨some 172, none, .mv (.t 35)⟩,
  ⟨some 173, none, .len false (.t 172)⟩,
  ⟨some 174, none, .bini .neq (.t 173) (.c (.int .i64 4))⟩])
 (.cond (.t 174)
 (.seq (.reg [⟨some 0, none, .mv (.c (.bool false))⟩])
 .ret)
 .skip))
 (.seq (.reg [⟨some 175, none, .mv (.t 4)⟩,
  ⟨some 176, none, .bini .eql (.t 175) (.c (.int .i64 8))⟩,
  ⟨some 177, none, .mv (.t 176)⟩,
  ⟨some 178, (some (177, true)), .mv (.t 6)⟩,
  ⟨some 179, (some (177, true)), .bini .eql (.t 178) (.c (.int .i64 8))⟩,
  ⟨some 180, none, .pick (.t 177) (.t 179) (.c (.bool false))⟩,
  ⟨some 181, none, .mv (.t 180)⟩,
  ⟨some 182, (some (181, true)), .mv (.t 8)⟩,
  ⟨some 183, (some (181, true)), .bini .eql (.t 182) (.c (.int .i64 1))⟩,
  ⟨some 184, none, .pick (.t 181) (.t 183) (.c (.bool false))⟩,
  ⟨some 185, none, .mv (.t 184)⟩,
  ⟨some 186, (some (185, true)), .mv (.t 10)⟩,
  ⟨some 187, (some (185, true)), .bini .eql (.t 186) (.c (.int .i64 11))⟩,
  ⟨some 188, none, .pick (.t 185) (.t 187) (.c (.bool false))⟩,
  ⟨some 189, none, .mv (.t 188)⟩,
  ⟨some 190, (some (189, true)), .mv (.t 12)⟩,
  ⟨some 191, (some (189, true)), .bini .eql (.t 190) (.c (.int .i64 2))⟩,
  ⟨some 192, none, .pick (.t 189) (.t 191) (.c (.bool false))⟩,
  ⟨some 193, none, .mv (.t 192)⟩,
  ⟨some 194, (some (193, true)), .mv (.t 14)⟩,
  ⟨some 195, (some (193, true)), .bini .eql (.t 194) (.c (.int .i64 1))⟩,
  ⟨some 196, none, .pick (.t 193) (.t 195) (.c (.bool false))⟩,
  ⟨some 197, none, .mv (.t 196)⟩,
  ⟨some 198, (some (197, true)), .mv (.t 16)⟩,
  ⟨some 199, (some (197, true)), .bini .eql (.t 198) (.c (.int .i64 1))⟩,
  ⟨some 200, none, .pick (.t 197) (.t 199) (.c (.bool false))⟩,
  ⟨some 201, none, .mv (.t 200)⟩,
  ⟨some 202, (some (201, true)), .mv (.t 18)⟩,
  ⟨some 203, (some (201, true)), .bini .eql (.t 202) (.c (.int .i64 1))⟩,
  ⟨some 204, none, .pick (.t 201) (.t 203) (.c (.bool false))⟩,
  ⟨some 205, none, .mv (.t 204)⟩,
  ⟨some 206, (some (205, true)), .mv (.t 20)⟩,
  ⟨some 207, (some (205, true)), .bini .eql (.t 206) (.c (.int .i64 10))⟩,
  ⟨some 208, none, .pick (.t 205) (.t 207) (.c (.bool false))⟩,
  ⟨some 209, none, .mv (.t 208)⟩,
  ⟨some 210, (some (209, true)), .mv (.t 22)⟩,
  ⟨some 211, (some (209, true)), .bini .eql (.t 210) (.c (.int .i64 0))⟩,
  ⟨some 212, none, .pick (.t 209) (.t 211) (.c (.bool false))⟩,
  ⟨some 213, none, .mv (.t 212)⟩,
  ⟨some 214, (some (213, true)), .mv (.t 24)⟩,
  ⟨some 215, (some (213, true)), .bini .eql (.t 214) (.c (.int .i64 1))⟩,
  ⟨some 216, none, .pick (.t 213) (.t 215) (.c (.bool false))⟩,
  ⟨some 217, none, .mv (.t 216)⟩,
  ⟨some 218, (some (217, true)), .mv (.t 26)⟩,
  ⟨some 219, (some (217, true)), .bini .eql (.t 218) (.c (.int .i64 2))⟩,
  ⟨some 220, none, .pick (.t 217) (.t 219) (.c (.bool false))⟩,
  ⟨some 221, none, .mv (.t 220)⟩,
  ⟨some 222, (some (221, true)), .mv (.t 28)⟩,
  ⟨some 223, (some (221, true)), .bini .eql (.t 222) (.c (.int .i64 10))⟩,
  ⟨some 224, none, .pick (.t 221) (.t 223) (.c (.bool false))⟩,
  ⟨some 225, none, .mv (.t 224)⟩,
  ⟨some 226, (some (225, true)), .mv (.t 30)⟩,
  ⟨some 227, (some (225, true)), .bini .eql (.t 226) (.c (.int .i64 10))⟩,
  ⟨some 228, none, .pick (.t 225) (.t 227) (.c (.bool false))⟩,
  ⟨some 229, none, .mv (.t 228)⟩,
  ⟨some 230, (some (229, true)), .mv (.t 32)⟩,
  ⟨some 231, (some (229, true)), .bini .eql (.t 230) (.c (.int .i64 0))⟩,
  ⟨some 232, none, .pick (.t 229) (.t 231) (.c (.bool false))⟩,
  ⟨some 233, none, .mv (.t 232)⟩,
  ⟨some 234, (some (233, true)), .mv (.t 31)⟩,
  ⟨some 235, (some (233, true)), .len false (.t 234)⟩,
  ⟨some 236, (some (233, true)), .bini .eql (.t 235) (.c (.int .i64 3))⟩,
  ⟨some 237, none, .pick (.t 233) (.t 236) (.c (.bool false))⟩,
  ⟨some 238, none, .mv (.t 237)⟩,
  ⟨some 239, (some (238, true)), .mv (.t 34)⟩,
  ⟨some 240, (some (238, true)), .bini .eql (.t 239) (.c (.int .i64 0))⟩,
  ⟨some 241, none, .pick (.t 238) (.t 240) (.c (.bool false))⟩,
  ⟨some 242, none, .mv (.t 241)⟩,
  ⟨some 243, (some (242, true)), .mv (.t 33)⟩,
  ⟨some 244, (some (242, true)), .len false (.t 243)⟩,
  ⟨some 245, (some (242, true)), .bini .eql (.t 244) (.c (.int .i64 3))⟩,
  ⟨some 246, none, .pick (.t 242) (.t 245) (.c (.bool false))⟩,
  ⟨some 247, none, .mv (.t 246)⟩,
  ⟨some 248, (some (247, true)), .mv (.t 36)⟩,
  ⟨some 249, (some (247, true)), .bini .eql (.t 248) (.c (.int .i64 0))⟩,
  ⟨some 250, none, .pick (.t 247) (.t 249) (.c (.bool false))⟩,
  ⟨some 251, none, .mv (.t 250)⟩,
  ⟨some 252, (some (251, true)), .mv (.t 35)⟩,
  ⟨some 253, (some (251, true)), .iaddr 5 (.t 252) (.c (.int .i64 0))⟩,
  ⟨some 254, (some (251, true)), .faddr 2 (.t 253)⟩,
  ⟨some 255, (some (251, true)), .load false 1 (.t 254)⟩,
  ⟨some 256, (some (251, true)), .bini .eql (.t 255) (.c (.int .i64 3))⟩,
  ⟨some 257, none, .pick (.t 251) (.t 256) (.c (.bool false))⟩,
  ⟨some 258, none, .mv (.t 257)⟩,
  ⟨some 259, (some (258, true)), .mv (.t 35)⟩,
  ⟨some 260, (some (258, true)), .iaddr 5 (.t 259) (.c (.int .i64 1))⟩,
  ⟨some 261, (some (258, true)), .faddr 2 (.t 260)⟩,
  ⟨some 262, (some (258, true)), .load false 1 (.t 261)⟩,
  ⟨some 263, (some (258, true)), .bini .eql (.t 262) (.c (.int .i64 4))⟩,
  ⟨some 264, none, .pick (.t 258) (.t 263) (.c (.bool false))⟩,
  ⟨some 265, none, .mv (.t 264)⟩,
  ⟨some 266, (some (265, true)), .mv (.t 35)⟩,
  ⟨some 267, (some (265, true)), .iaddr 5 (.t 266) (.c (.int .i64 2))⟩,
  ⟨some 268, (some (265, true)), .faddr 2 (.t 267)⟩,
  ⟨some 269, (some (265, true)), .load false 1 (.t 268)⟩,
  ⟨some 270, (some (265, true)), .bini .eql (.t 269) (.c (.int .i64 4))⟩,
  ⟨some 271, none, .pick (.t 265) (.t 270) (.c (.bool false))⟩,
  ⟨some 272, none, .mv (.t 271)⟩,
  ⟨some 273, (some (272, true)), .mv (.t 35)⟩,
  ⟨some 274, (some (272, true)), .iaddr 5 (.t 273) (.c (.int .i64 3))⟩,
  ⟨some 275, (some (272, true)), .faddr 2 (.t 274)⟩,
  ⟨some 276, (some (272, true)), .load false 1 (.t 275)⟩,
  ⟨some 277, (some (272, true)), .bini .eql (.t 276) (.c (.int .i64 0))⟩,
  ⟨some 278, none, .pick (.t 272) (.t 277) (.c (.bool false))⟩,
  ⟨some 279, none, .mv (.t 278)⟩,
  ⟨some 280, (some (279, true)), .mv (.t 40)⟩,
  ⟨some 281, (some (279, true)), .bini .eql (.t 280) (.c (.int .i64 10))⟩,
  ⟨some 282, none, .pick (.t 279) (.t 281) (.c (.bool false))⟩,
  ⟨some 283, none, .mv (.t 282)⟩,
  ⟨some 284, (some (283, true)), .mv (.t 42)⟩,
  ⟨some 285, (some (283, true)), .bini .eql (.t 284) (.c (.int .i64 2))⟩,
  ⟨some 286, none, .pick (.t 283) (.t 285) (.c (.bool false))⟩,
  ⟨some 287, none, .mv (.t 286)⟩,
  ⟨some 288, (some (287, true)), .mv (.t 44)⟩,
  ⟨some 289, (some (287, true)), .bini .eql (.t 288) (.c (.int .i64 8))⟩,
  ⟨some 290, none, .pick (.t 287) (.t 289) (.c (.bool false))⟩,
  ⟨some 0, none, .mv (.t 290)⟩])
 .ret))))))))))))))))))))))))))))))
theorem d7 : FnD Try.prog 7 0 291 [.tmp 0] c7 := ⟨Try.f7, _, Try.func7, by kernel_rfl, rfl, rfl, by kernel_rfl, by kernel_rfl⟩

/-- palimp/palimplaw19.begun -/
def c8 : ACode :=
 (.seq (.reg [⟨some 0, none, .mv (.c (.bool false))⟩])
 (.seq (.reg [⟨some 11, none, .call 10 []⟩,
  ⟨some 12, none, .call 17 [(.t 11), (.c (.str [97])), (.c (.int .i64 1))]⟩,
  ⟨some 10, none, .mv (.t 12)⟩,
  ⟨some 13, none, .ext (.t 10) 0⟩,
  ⟨some 14, none, .ext (.t 10) 1⟩,
  ⟨some 1, none, .mv (.t 13)⟩,
  ⟨some 2, none, .mv (.t 14)⟩])
 (.seq (.reg [⟨some 16, none, .mv (.t 1)⟩,
  ⟨some 17, none, .call 18 [(.t 16), (.c (.str [97])), (.c (.int .i64 0)), (.c (.str [120]))]⟩,
  ⟨some 15, none, .mv (.t 17)⟩,
  ⟨some 18, none, .ext (.t 15) 0⟩,
  ⟨some 19, none, .ext (.t 15) 1⟩,
  ⟨some 1, none, .mv (.t 18)⟩])
 (.seq (.reg [⟨some 20, none, .call 10 []⟩,
  ⟨some 21, none, .build [.int .i64 0, .int .i64 0, .int .i64 0, .int .i64 0, .emp] [(0, 1, (.c (.int .i64 1))), (1, 1, (.c (.int .i64 1))), (3, 1, (.c (.int .i64 1))), (4, 1, (.t 20))]⟩,
  ⟨some 22, none, .bslice 5 1 [.int .i64 0, .int .i64 0, .int .i64 0, .int .i64 0, .emp] [(0, (.t 21))]⟩,
  ⟨some 3, none, .mv (.t 22)⟩])
 (.seq (.reg [⟨some 24, none, .mv (.t 3)⟩,
  ⟨some 25, none, .mv (.t 1)⟩,
  ⟨some 26, none, .call 15 [(.t 24), (.c (.int .i64 1)), (.t 25)]⟩,
  ⟨some 23, none, .mv (.t 26)⟩,
  ⟨some 27, none, .ext (.t 23) 0⟩,
  ⟨some 28, none, .ext (.t 23) 1⟩,
  ⟨some 4, none, .mv (.t 27)⟩,
  ⟨some 5, none, .mv (.t 28)⟩])
 (.seq (.reg [⟨some 30, none, .mv (.t 1)⟩,
  ⟨some 31, none, .call 18 [(.t 30), (.c (.str [97])), (.c (.int .i64 40)), (.c (.str [120]))]⟩,
  ⟨some 29, none, .mv (.t 31)⟩,
  ⟨some 32, none, .ext (.t 29) 0⟩,
  ⟨some 33, none, .ext (.t 29) 1⟩,
  ⟨some 6, none, .mv (.t 32)⟩,
  ⟨some 7, none, .mv (.t 33)⟩])
 (.seq (.reg [⟨some 35, none, .mv (.t 4)⟩,
  ⟨some 36, none, .mv (.t 6)⟩,
  ⟨some 37, none, .call 15 [(.t 35), (.c (.int .i64 1)), (.t 36)]⟩,
  ⟨some 34, none, .mv (.t 37)⟩,
  ⟨some 38, none, .ext (.t 34) 0⟩,
  ⟨some 39, none, .ext (.t 34) 1⟩,
  ⟨some 8, none, .mv (.t 38)⟩,
  ⟨some 9, none, .mv (.t 39)⟩])
 (.seq (.reg [⟨some 40, none, .mv (.t 1)⟩,
  ⟨some 41, none, .call 14 [(.t 40)]⟩,
  ⟨some 42, none, .bini .eql (.t 41) (.c (.int .i64 1))⟩,
  ⟨some 43, none, .mv (.t 42)⟩,
  ⟨some 44, (some (43, true)), .mv (.t 5)⟩,
  ⟨some 45, (some (43, true)), .bini .eql (.t 44) (.c (.int .i64 0))⟩,
  ⟨some 46, none, .pick (.t 43) (.t 45) (.c (.bool false))⟩,
  ⟨some 47, none, .mv (.t 46)⟩,
  ⟨some 48, (some (47, true)), .mv (.t 4)⟩,
  ⟨some 49, (some (47, true)), .len false (.t 48)⟩,
  ⟨some 50, (some (47, true)), .bini .eql (.t 49) (.c (.int .i64 1))⟩,
  ⟨some 51, none, .pick (.t 47) (.t 50) (.c (.bool false))⟩,
  ⟨some 52, none, .mv (.t 51)⟩,
  ⟨some 53, (some (52, true)), .mv (.t 4)⟩,
  ⟨some 54, (some (52, true)), .iaddr 5 (.t 53) (.c (.int .i64 0))⟩,
  ⟨some 55, (some (52, true)), .faddr 4 (.t 54)⟩,
  ⟨some 56, (some (52, true)), .load false 1 (.t 55)⟩,
  ⟨some 57, (some (52, true)), .mv (.t 1)⟩,
  ⟨some 58, (some (52, true)), .call 33 [(.t 56), (.t 57)]⟩,
  ⟨some 59, none, .pick (.t 52) (.t 58) (.c (.bool false))⟩,
  ⟨some 60, none, .mv (.t 59)⟩,
  ⟨some 61, (some (60, true)), .mv (.t 9)⟩,
  ⟨some 62, (some (60, true)), .bini .eql (.t 61) (.c (.int .i64 9))⟩,
  ⟨some 63, none, .pick (.t 60) (.t 62) (.c (.bool false))⟩,
  ⟨some 64, none, .mv (.t 63)⟩,
  ⟨some 65, (some (64, true)), .mv (.t 3)⟩,
  ⟨some 66, (some (64, true)), .call 19 [(.t 65)]⟩,
  ⟨some 67, (some (64, true)), .bini .eql (.t 66) (.c (.int .i64 5))⟩,
  ⟨some 68, none, .pick (.t 64) (.t 67) (.c (.bool false))⟩,
  ⟨some 69, none, .mv (.t 68)⟩,
  ⟨some 70, (some (69, true)), .mv (.t 4)⟩,
  ⟨some 71, (some (69, true)), .call 19 [(.t 70)]⟩,
  ⟨some 72, (some (69, true)), .bini .eql (.t 71) (.c (.int .i64 7))⟩,
  ⟨some 73, none, .pick (.t 69) (.t 72) (.c (.bool false))⟩,
  ⟨some 0, none, .mv (.t 73)⟩])
 .ret))))))))
theorem d8 : FnD Try.prog 8 0 74 [.tmp 0] c8 := ⟨Try.f8, _, Try.func8, by kernel_rfl, rfl, rfl, by kernel_rfl, by kernel_rfl⟩

/-- palimp/palimpmade.Made -/
def c9 : ACode :=
 (.seq (.reg [⟨some 2, none, .mv (.c (.nilp))⟩])
 (.seq (.reg [⟨some 3, none, .mv (.t 0)⟩,
  ⟨some 4, none, .build [.emp, .int .i64 0] [(0, 1, (.t 3))]⟩,
  ⟨some 5, none, .box (.t 4)⟩,
  ⟨some 2, none, .mv (.t 5)⟩])
 .ret))
theorem d9 : FnD Try.prog 9 1 5 [.tmp 2] c9 := ⟨Try.f9, _, Try.func9, by kernel_rfl, rfl, rfl, by kernel_rfl, by kernel_rfl⟩

/-- palimp/palimpref11.New -/
def c10 : ACode :=
 (.seq (.reg [⟨some 0, none, .mv (.c (.emp))⟩])
 (.seq (.reg [⟨some 2, none, .mksl 5 56 [.int .i64 0, .int .i64 0, .str [], .str [], .int .i64 0] (.c (.int .i64 8)) (.c (.int .i64 8))⟩,
  ⟨some 1, none, .mv (.t 2)⟩])
 (.seq (.reg [⟨some 3, none, .mv (.t 1)⟩,
  ⟨some 4, none, .iaddr 5 (.t 3) (.c (.int .i64 0))⟩,
  ⟨some 5, none, .faddr 0 (.t 4)⟩,
  ⟨none, none, .store 1 (.t 5) (.c (.int .i64 2))⟩])
 (.seq (.reg [⟨some 6, none, .mv (.t 1)⟩,
  ⟨some 0, none, .mv (.t 6)⟩])
 .ret))))
theorem d10 : FnD Try.prog 10 0 7 [.tmp 0] c10 := ⟨Try.f10, _, Try.func10, by kernel_rfl, rfl, rfl, by kernel_rfl, by kernel_rfl⟩

/-- (*palimp/palimpmade.Picks).Over -/
def c11 : ACode :=
 (.seq (.reg [⟨some 2, none, .mv (.c (.bool false))⟩])
 (.seq (.dreg [⟨some 3, none, .mv (.t 0)⟩,
  ⟨some 4, none, .nilchk (.t 3)⟩,
  ⟨some 5, none, .faddr 1 (.t 4)⟩,
  ⟨some 6, none, .load false 1 (.t 5)⟩,
  ⟨some 7, none, .mv (.t 0)⟩,
  ⟨some 8, none, .nilchk (.t 7)⟩,
  ⟨some 9, none, .faddr 0 (.t 8)⟩,
  ⟨some 10, none, .load false 1 (.t 9)⟩,
  ⟨some 11, none, .len false (.t 10)⟩,
  ⟨some 12, none, .bini .geq (.t 6) (.t 11)⟩,
  ⟨some 2, none, .mv (.t 12)⟩])
 .ret))
theorem d11 : FnD Try.prog 11 1 12 [.tmp 2] c11 := ⟨Try.f11, _, Try.func11, by kernel_rfl, rfl, rfl, by kernel_rfl, by kernel_rfl⟩

/-- palimp/palimpmade.Done -/
def c12 : ACode :=
 (.seq (.reg [⟨some 3, none, .box (.t 1)⟩,
  ⟨some 4, none, .mv (.c (.emp))⟩,
  ⟨some 5, none, .mv (.c (.int .i64 0))⟩])
 (.seq (.seq (.reg [⟨some 6, none, .faddr 0 (.t 3)⟩,
  ⟨some 7, none, .load false 1 (.t 6)⟩])
 (.block 0
 (.seq (.reg [⟨some 9, none, .bini .eql (.t 7) (.c (.int .i64 1))⟩,
  ⟨some 8, none, .mv (.t 9)⟩])
 (.cond (.t 8)
 (.seq (.reg [⟨some 10, none, .mv (.t 0)⟩,
  ⟨some 11, none, .faddr 5 (.t 3)⟩,
  ⟨some 12, none, .load false 1 (.t 11)⟩,
  ⟨some 13, none, .faddr 2 (.t 3)⟩,
  ⟨some 14, none, .load false 1 (.t 13)⟩,
  ⟨some 15, none, .call 17 [(.t 10), (.t 12), (.t 14)]⟩,
  ⟨some 16, none, .ext (.t 15) 0⟩,
  ⟨some 17, none, .ext (.t 15) 1⟩,
  ⟨some 4, none, .mv (.t 16)⟩,
  ⟨some 5, none, .mv (.t 17)⟩])
 .ret)
 (.seq (.reg [⟨some 19, none, .bini .eql (.t 7) (.c (.int .i64 2))⟩,
  ⟨some 18, none, .mv (.t 19)⟩])
 (.cond (.t 18)
 (.seq (.reg [⟨some 20, none, .mv (.t 0)⟩,
  ⟨some 21, none, .faddr 5 (.t 3)⟩,
  ⟨some 22, none, .load false 1 (.t 21)⟩,
  ⟨some 23, none, .call 34 [(.t 20), (.t 22)]⟩,
  ⟨some 24, none, .ext (.t 23) 0⟩,
  ⟨some 25, none, .ext (.t 23) 1⟩,
  ⟨some 4, none, .mv (.t 24)⟩,
  ⟨some 5, none, .mv (.t 25)⟩])
 .ret)
 (.seq (.reg [⟨some 27, none, .bini .eql (.t 7) (.c (.int .i64 3))⟩,
  ⟨some 26, none, .mv (.t 27)⟩])
 (.cond (.t 26)
 (.seq (.reg [⟨some 28, none, .mv (.t 0)⟩,
  ⟨some 29, none, .faddr 5 (.t 3)⟩,
  ⟨some 30, none, .load false 1 (.t 29)⟩,
  ⟨some 31, none, .faddr 6 (.t 3)⟩,
  ⟨some 32, none, .load false 1 (.t 31)⟩,
  ⟨some 33, none, .call 35 [(.t 28), (.t 30), (.t 32)]⟩,
  ⟨some 34, none, .ext (.t 33) 0⟩,
  ⟨some 35, none, .ext (.t 33) 1⟩,
  ⟨some 4, none, .mv (.t 34)⟩,
  ⟨some 5, none, .mv (.t 35)⟩])
 .ret)
 (.seq (.reg [⟨some 37, none, .bini .eql (.t 7) (.c (.int .i64 4))⟩,
  ⟨some 36, none, .mv (.t 37)⟩])
 (.cond (.t 36)
 (.seq (.reg [⟨some 38, none, .mv (.t 0)⟩,
  ⟨some 39, none, .faddr 5 (.t 3)⟩,
  ⟨some 40, none, .load false 1 (.t 39)⟩,
  ⟨some 41, none, .faddr 2 (.t 3)⟩,
  ⟨some 42, none, .load false 1 (.t 41)⟩,
  ⟨some 43, none, .faddr 7 (.t 3)⟩,
  ⟨some 44, none, .load false 1 (.t 43)⟩,
  ⟨some 45, none, .call 18 [(.t 38), (.t 40), (.t 42), (.t 44)]⟩,
  ⟨some 46, none, .ext (.t 45) 0⟩,
  ⟨some 47, none, .ext (.t 45) 1⟩,
  ⟨some 4, none, .mv (.t 46)⟩,
  ⟨some 5, none, .mv (.t 47)⟩])
 .ret)
 .skip))))))))))
 (.seq (.reg [⟨some 48, none, .mv (.t 0)⟩,
  ⟨some 49, none, .faddr 5 (.t 3)⟩,
  ⟨some 50, none, .load false 1 (.t 49)⟩,
  ⟨some 51, none, .faddr 2 (.t 3)⟩,
  ⟨some 52, none, .load false 1 (.t 51)⟩,
  ⟨some 53, none, .call 36 [(.t 48), (.t 50), (.t 52)]⟩,
  ⟨some 54, none, .ext (.t 53) 0⟩,
  ⟨some 55, none, .ext (.t 53) 1⟩,
  ⟨some 4, none, .mv (.t 54)⟩,
  ⟨some 5, none, .mv (.t 55)⟩])
 .ret)))
theorem d12 : FnD Try.prog 12 2 54 [.tmp 4, .tmp 5] c12 := ⟨Try.f12, _, Try.func12, by kernel_rfl, rfl, rfl, by kernel_rfl, by kernel_rfl⟩

/-- (*palimp/palimpmade.Picks).Edit -/
def c13 : ACode :=
 (.seq (.reg [⟨some 4, none, .alloc [.int .i64 0, .int .i64 0, .int .i64 0, .int .i64 0, .int .i64 0, .str [], .str [], .str [], .emp]⟩])
 (.seq (.dregE [[⟨some 6, none, .bslice 1 12 [.int .i64 0] [(0, (.c (.int .i64 1))), (1, (.c (.int .i64 1))), (2, (.c (.int .i64 1))), (3, (.c (.int .i64 2))), (4, (.c (.int .i64 3))), (5, (.c (.int .i64 3))), (6, (.c (.int .i64 4))), (7, (.c (.int .i64 4))), (8, (.c (.int .i64 4))), (9, (.c (.int .i64 5))), (10, (.c (.int .i64 1))), (11, (.c (.int .i64 4)))]⟩,
  ⟨some 7, none, .mv (.t 0)⟩,
  ⟨some 8, none, .call 24 [(.t 7), (.c (.int .i64 12))]⟩,
  ⟨some 9, none, .iaddr 1 (.t 6) (.t 8)⟩,
  ⟨some 10, none, .load false 1 (.t 9)⟩,
  ⟨some 11, none, .mv (.t 1)⟩,
  ⟨some 12, none, .mv (.t 0)⟩,
  ⟨some 13, none, .call 37 [(.t 12)]⟩,
  ⟨some 14, none, .build [.int .i64 0, .int .i64 0, .int .i64 0, .int .i64 0, .int .i64 0, .str [], .str [], .str [], .emp] [(0, 1, (.t 10)), (1, 1, (.t 11)), (5, 1, (.t 13))]⟩,
  ⟨some 5, none, .alloc [.int .i64 0, .int .i64 0, .int .i64 0, .int .i64 0, .int .i64 0, .str [], .str [], .str [], .emp]⟩],
  [⟨none, none, .store 9 (.t 5) (.t 14)⟩]]
  [[], [], [1], [0, 1, 2], [0, 1, 2, 3], [], [], [1, 2, 6], [0, 1, 2, 3, 4, 5, 6, 7], [], [0, 1, 2, 3, 4, 5, 6, 7, 8, 9]])
 (.seq (.seq (.reg [⟨some 15, none, .faddr 0 (.t 5)⟩,
  ⟨some 16, none, .load false 1 (.t 15)⟩])
 (.block 0
 (.seq (.reg [⟨some 18, none, .bini .eql (.t 16) (.c (.int .i64 1))⟩,
  ⟨some 17, none, .mv (.t 18)⟩])
 (.cond (.t 17)
 (.seq (.reg [⟨some 19, none, .mv (.t 0)⟩,
  ⟨some 20, none, .call 24 [(.t 19), (.c (.int .i64 2))]⟩,
  ⟨some 21, none, .bini .add (.c (.int .i64 1)) (.t 20)⟩,
  ⟨some 22, none, .faddr 2 (.t 5)⟩,
  ⟨none, none, .store 1 (.t 22) (.t 21)⟩])
 (.seq (.reg [⟨some 23, none, .mv (.t 0)⟩,
  ⟨some 24, none, .call 24 [(.t 23), (.c (.int .i64 16))]⟩,
  ⟨some 25, none, .bini .eql (.t 24) (.c (.int .i64 0))⟩])
 (.cond (.t 25)
 (.reg [⟨some 26, none, .mv (.t 0)⟩,
  ⟨some 27, none, .call 24 [(.t 26), (.c (.int .i64 5))]⟩,
  ⟨some 28, none, .faddr 2 (.t 5)⟩,
  ⟨none, none, .store 1 (.t 28) (.t 27)⟩])
 .skip)))
 (.seq (.reg [⟨some 30, none, .bini .eql (.t 16) (.c (.int .i64 3))⟩,
  ⟨some 29, none, .mv (.t 30)⟩])
 (.cond (.t 29)
 (.reg [⟨some 31, none, .mv (.t 0)⟩,
  ⟨some 32, none, .call 37 [(.t 31)]⟩,
  ⟨some 33, none, .faddr 6 (.t 5)⟩,
  ⟨none, none, .store 1 (.t 33) (.t 32)⟩])
 (.seq (.reg [⟨some 35, none, .bini .eql (.t 16) (.c (.int .i64 4))⟩,
  ⟨some 34, none, .mv (.t 35)⟩])
 (.cond (.t 34)
 (.dregE [[⟨some 36, none, .bslice 1 8 [.int .i64 0] [(0, (.c (.int .i64 0))), (1, (.c (.int .i64 0))), (2, (.c (.int .i64 1))), (3, (.c (.int .i64 31))), (4, (.c (.int .i64 32))), (5, (.c (.int .i64 64))), (6, (.c (.int .i64 100))), (7, (.c (.int .i64 130)))]⟩,
  ⟨some 37, none, .mv (.t 0)⟩,
  ⟨some 38, none, .call 24 [(.t 37), (.c (.int .i64 8))]⟩,
  ⟨some 39, none, .iaddr 1 (.t 36) (.t 38)⟩,
  ⟨some 40, none, .load false 1 (.t 39)⟩,
  ⟨some 41, none, .mv (.t 0)⟩,
  ⟨some 42, none, .call 38 [(.t 41)]⟩,
  ⟨some 43, none, .faddr 2 (.t 5)⟩],
  [⟨none, none, .store 1 (.t 43) (.t 40)⟩],
  [⟨some 44, none, .faddr 7 (.t 5)⟩],
  [⟨none, none, .store 1 (.t 44) (.t 42)⟩]]
  [[], [], [1], [0, 1, 2], [0, 1, 2, 3], [], [1, 2, 5], [0, 1, 2, 3, 4], [0, 1, 2, 3, 4, 5, 6, 7], [0, 1, 2, 3, 4, 5, 6, 7, 8], [0, 1, 2, 3, 4, 5, 6, 7, 8, 9]])
 (.seq (.reg [⟨some 46, none, .bini .eql (.t 16) (.c (.int .i64 5))⟩,
  ⟨some 45, none, .mv (.t 46)⟩])
 (.cond (.t 45)
 (.reg [⟨some 47, none, .bslice 1 8 [.int .i64 0] [(0, (.c (.int .i64 0))), (1, (.c (.int .i64 1))), (2, (.c (.int .i64 32))), (3, (.c (.int .i64 33))), (4, (.c (.int .i64 128))), (5, (.c (.int .i64 129))), (6, (.c (.int .i64 60))), (7, (.c (.int .i64 64)))]⟩,
  ⟨some 48, none, .mv (.t 0)⟩,
  ⟨some 49, none, .call 24 [(.t 48), (.c (.int .i64 8))]⟩,
  ⟨some 50, none, .iaddr 1 (.t 47) (.t 49)⟩,
  ⟨some 51, none, .load false 1 (.t 50)⟩,
  ⟨some 52, none, .faddr 2 (.t 5)⟩,
  ⟨none, none, .store 1 (.t 52) (.t 51)⟩])
 .skip))))))))))
 (.seq (.reg [⟨some 53, none, .load true 9 (.t 5)⟩,
  ⟨none, none, .store 9 (.t 4) (.t 53)⟩])
 .ret))))
theorem d13 : FnD Try.prog 13 2 52 [.cell 4 true 9] c13 := ⟨Try.f13, _, Try.func13, by kernel_rfl, rfl, rfl, by kernel_rfl, by kernel_rfl⟩

/-- palimp/acct.Used -/
def c14 : ACode :=
 (.seq (.reg [⟨some 2, none, .mv (.c (.int .i64 0))⟩])
 (.seq (.reg [⟨some 3, none, .mv (.c (.int .i64 0))⟩])
 (.seq (.seq (.reg [⟨some 6, none, .mv (.t 0)⟩,
  ⟨some 7, none, .len false (.t 6)⟩,
  ⟨some 8, none, .mv (.c (.int .i64 0))⟩])
 (.block 0
 (.loop
 (.seq (.reg [⟨some 9, none, .bini .lss (.t 8) (.t 7)⟩])
 (.seq (.cond (.t 9)
 .skip
 (.exit 0))
 (.seq (.block 1
 (.seq (.reg [⟨some 10, none, .iaddr 5 (.t 6) (.t 8)⟩,
  ⟨some 11, none, .load true 5 (.t 10)⟩,
  ⟨some 5, none, .alloc [.int .i64 0, .int .i64 0, .str [], .str [], .int .i64 0]⟩,
  ⟨none, none, .store 5 (.t 5) (.t 11)⟩])
 (.reg [⟨some 12, none, .mv (.t 3)⟩,
  ⟨some 13, none, .faddr 3 (.t 5)⟩,
  ⟨some 14, none, .load false 1 (.t 13)⟩,
  ⟨some 15, none, .call 39 [(.t 14)]⟩,
  ⟨some 16, none, .bini .add (.t 12) (.t 15)⟩,
  ⟨some 3, none, .mv (.t 16)⟩])))
 (.reg [⟨some 17, none, .bini .add (.t 8) (.c (.int .i64 1))⟩,
  ⟨some 8, none, .mv (.t 17)⟩])))))))
 (.seq (.reg [⟨some 18, none, .mv (.t 3)⟩,
  ⟨some 2, none, .mv (.t 18)⟩])
 .ret))))
theorem d14 : FnD Try.prog 14 1 18 [.tmp 2] c14 := ⟨Try.f14, _, Try.func14, by kernel_rfl, rfl, rfl, by kernel_rfl, by kernel_rfl⟩

end Go.Proofs.Ytemjlopoffjmpaa.Abs
