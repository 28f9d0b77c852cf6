/-
  The code of some functions in the abstract layer's form, each checked against the program's own. Written by gen.py.
-/
import Derived.Test.YtemjlopoffjmpaaAbs22
import Derived.Test.YtemjlopoffjmpaaProg
import Derived.KernelRfl
namespace Go.Proofs.Ytemjlopoffjmpaa.Abs
open Go

/-- palimp/dset.Clone -/
def c27 : ACode :=
 (.seq (.reg [⟨some 6, none, .mv (.c (.emp))⟩,
  ⟨some 7, none, .mv (.c (.int .i64 0))⟩])
 (.seq (.reg [⟨some 11, none, .mv (.t 0)⟩,
  ⟨some 12, none, .mv (.t 2)⟩,
  ⟨some 13, none, .call 42 [(.t 11), (.t 12)]⟩,
  ⟨some 10, none, .mv (.t 13)⟩,
  ⟨some 14, none, .ext (.t 10) 0⟩,
  ⟨some 15, none, .ext (.t 10) 1⟩,
  ⟨some 8, none, .alloc [.int .i64 0, .int .i64 0, .int .i64 0, .int .i64 0, .emp]⟩,
  ⟨none, none, .store 5 (.t 8) (.t 14)⟩,
  ⟨some 9, none, .mv (.t 15)⟩])
 (.seq (.block 0
 (.seq (.reg [⟨some 17, none, .mv (.t 9)⟩,
  ⟨some 18, none, .un .not (.t 17)⟩,
  ⟨some 16, none, .mv (.t 18)⟩])
 (.cond (.t 16)
 (.seq (.reg [⟨some 19, none, .mv (.t 0)⟩,
  ⟨some 20, none, .call 59 [(.t 19)]⟩,
  ⟨some 6, none, .mv (.t 20)⟩,
  ⟨some 7, none, .mv (.c (.int .i64 2))⟩])
 .ret)
 (.seq (.reg [⟨some 22, none, .faddr 1 (.t 8)⟩,
  ⟨some 23, none, .load false 1 (.t 22)⟩,
  ⟨some 24, none, .bini .neq (.t 23) (.c (.int .i64 2))⟩,
  ⟨some 21, none, .mv (.t 24)⟩])
 (.cond (.t 21)
 (.seq (.reg [⟨some 25, none, .mv (.t 0)⟩,
  ⟨some 26, none, .call 59 [(.t 25)]⟩,
  ⟨some 6, none, .mv (.t 26)⟩,
  ⟨some 7, none, .mv (.c (.int .i64 1))⟩])
 .ret)
 .skip)))))
 (.seq (.reg [⟨some 27, none, .mv (.t 0)⟩,
  ⟨some 28, none, .mv (.t 1)⟩,
  ⟨some 29, none, .mv (.t 2)⟩,
  ⟨some 30, none, .faddr 4 (.t 8)⟩,
  ⟨some 31, none, .load false 1 (.t 30)⟩,
  ⟨some 32, none, .build [.int .i64 0, .int .i64 0, .int .i64 0, .int .i64 0, .emp] [(1, 1, (.c (.int .i64 1))), (2, 1, (.t 29)), (4, 1, (.t 31))]⟩,
  ⟨some 33, none, .call 60 [(.t 27), (.t 28), (.t 32)]⟩,
  ⟨some 34, none, .ext (.t 33) 0⟩,
  ⟨some 35, none, .ext (.t 33) 1⟩,
  ⟨some 6, none, .mv (.t 34)⟩,
  ⟨some 7, none, .mv (.t 35)⟩])
 .ret))))
theorem d27 : FnD Try.prog 27 3 33 [.tmp 6, .tmp 7] c27 := ⟨Try.f27, _, Try.func27, by kernel_rfl, rfl, rfl, by kernel_rfl, by kernel_rfl⟩

/-- palimp/dset.Promote -/
def c28 : ACode :=
 (.seq (.reg [⟨some 4, none, .mv (.c (.emp))⟩,
  ⟨some 5, none, .mv (.c (.int .i64 0))⟩])
 (.seq (.reg [⟨some 14, none, .mv (.t 0)⟩,
  ⟨some 15, none, .call 59 [(.t 14)]⟩,
  ⟨some 6, none, .mv (.t 15)⟩])
 (.seq (.reg [⟨some 16, none, .mv (.t 6)⟩,
  ⟨some 7, none, .mv (.t 16)⟩])
 (.seq (.reg [⟨some 17, none, .mv (.t 7)⟩,
  ⟨some 18, none, .mv (.t 1)⟩,
  ⟨some 19, none, .call 62 [(.t 17), (.t 18)]⟩,
  ⟨some 8, none, .mv (.t 19)⟩])
 (.seq (.block 0
 (.seq (.reg [⟨some 21, none, .mv (.t 8)⟩,
  ⟨some 22, none, .bini .lss (.t 21) (.c (.int .i64 0))⟩,
  ⟨some 20, none, .mv (.t 22)⟩])
 (.cond (.t 20)
 (.seq (.reg [⟨some 23, none, .mv (.t 6)⟩,
  ⟨some 4, none, .mv (.t 23)⟩,
  ⟨some 5, none, .mv (.c (.int .i64 2))⟩])
 .ret)
 (.seq (.reg [⟨some 25, none, .mv (.t 7)⟩,
  ⟨some 26, none, .mv (.t 8)⟩,
  ⟨some 27, none, .iaddr 5 (.t 25) (.t 26)⟩,
  ⟨some 28, none, .faddr 1 (.t 27)⟩,
  ⟨some 29, none, .load false 1 (.t 28)⟩,
  ⟨some 30, none, .bini .neq (.t 29) (.c (.int .i64 1))⟩,
  ⟨some 31, none, .mv (.t 30)⟩,
  ⟨some 32, (some (31, false)), .mv (.t 7)⟩,
  ⟨some 33, (some (31, false)), .mv (.t 8)⟩,
  ⟨some 34, (some (31, false)), .iaddr 5 (.t 32) (.t 33)⟩,
  ⟨some 35, (some (31, false)), .faddr 2 (.t 34)⟩,
  ⟨some 36, (some (31, false)), .load false 1 (.t 35)⟩,
  ⟨some 37, (some (31, false)), .bini .eql (.t 36) (.c (.int .i64 0))⟩,
  ⟨some 38, none, .pick (.t 31) (.c (.bool true)) (.t 37)⟩,
  ⟨some 24, none, .mv (.t 38)⟩])
 (.cond (.t 24)
 (.seq (.reg [⟨some 39, none, .mv (.t 6)⟩,
  ⟨some 4, none, .mv (.t 39)⟩,
  ⟨some 5, none, .mv (.c (.int .i64 1))⟩])
 .ret)
 .skip)))))
 (.seq (.reg [⟨some 40, none, .mv (.t 7)⟩,
  ⟨some 41, none, .mv (.t 7)⟩,
  ⟨some 42, none, .mv (.t 8)⟩,
  ⟨some 43, none, .iaddr 5 (.t 41) (.t 42)⟩,
  ⟨some 44, none, .faddr 2 (.t 43)⟩,
  ⟨some 45, none, .load false 1 (.t 44)⟩,
  ⟨some 46, none, .call 62 [(.t 40), (.t 45)]⟩,
  ⟨some 9, none, .mv (.t 46)⟩])
 (.seq (.seq (.reg [⟨some 47, none, .mv (.t 9)⟩,
  ⟨some 48, none, .bini .lss (.t 47) (.c (.int .i64 0))⟩,
  ⟨some 49, none, .mv (.t 48)⟩,
  ⟨some 50, (some (49, false)), .mv (.t 7)⟩,
  ⟨some 51, (some (49, false)), .mv (.t 7)⟩,
  ⟨some 52, (some (49, false)), .mv (.t 9)⟩,
  ⟨some 53, (some (49, false)), .iaddr 5 (.t 51) (.t 52)⟩,
  ⟨some 54, (some (49, false)), .faddr 2 (.t 53)⟩,
  ⟨some 55, (some (49, false)), .load false 1 (.t 54)⟩,
  ⟨some 56, (some (49, false)), .call 63 [(.t 50), (.t 55), (.c (.int .i64 1))]⟩,
  ⟨some 57, (some (49, false)), .un .not (.t 56)⟩,
  ⟨some 58, none, .pick (.t 49) (.c (.bool true)) (.t 57)⟩])
 (.cond (.t 58)
 (.seq (.reg [⟨some 59, none, .mv (.t 6)⟩,
  ⟨some 4, none, .mv (.t 59)⟩,
  ⟨some 5, none, .mv (.c (.int .i64 1))⟩])
 .ret)
 .skip))
 (.seq (.reg [⟨some 60, none, .mv (.t 7)⟩,
  ⟨some 61, none, .mv (.t 9)⟩,
  ⟨some 62, none, .iaddr 5 (.t 60) (.t 61)⟩,
  ⟨some 63, none, .faddr 2 (.t 62)⟩,
  ⟨some 64, none, .load false 1 (.t 63)⟩,
  ⟨some 10, none, .mv (.t 64)⟩])
 (.seq (.reg [⟨some 65, none, .mv (.t 7)⟩,
  ⟨some 66, none, .mv (.t 10)⟩,
  ⟨some 67, none, .call 62 [(.t 65), (.t 66)]⟩,
  ⟨some 11, none, .mv (.t 67)⟩])
 (.seq (.dregE [[⟨some 68, none, .mv (.t 7)⟩,
  ⟨some 69, none, .mv (.t 8)⟩,
  ⟨some 70, none, .mv (.t 7)⟩,
  ⟨some 71, none, .mv (.t 11)⟩,
  ⟨some 72, none, .mv (.t 7)⟩,
  ⟨some 73, none, .mv (.t 11)⟩,
  ⟨some 74, none, .iaddr 5 (.t 72) (.t 73)⟩,
  ⟨some 75, none, .faddr 2 (.t 74)⟩,
  ⟨some 76, none, .load false 1 (.t 75)⟩,
  ⟨some 77, none, .mv (.t 7)⟩,
  ⟨some 78, none, .mv (.t 9)⟩,
  ⟨some 79, none, .iaddr 5 (.t 77) (.t 78)⟩,
  ⟨some 80, none, .faddr 0 (.t 79)⟩,
  ⟨some 81, none, .load false 1 (.t 80)⟩,
  ⟨some 82, none, .iaddr 5 (.t 68) (.t 69)⟩,
  ⟨some 83, none, .faddr 2 (.t 82)⟩,
  ⟨none, none, .store 1 (.t 83) (.t 76)⟩],
  [⟨some 84, none, .iaddr 5 (.t 70) (.t 71)⟩],
  [⟨some 85, none, .faddr 2 (.t 84)⟩],
  [⟨none, none, .store 1 (.t 85) (.t 81)⟩]]
  [[], [], [], [], [], [], [4, 5], [4, 5, 6], [4, 5, 6, 7], [], [], [9, 10], [9, 10, 11], [9, 10, 11, 12], [0, 1, 4, 5, 6, 7, 8, 9, 10, 11, 12, 13], [0, 1, 4, 5, 6, 7, 8, 9, 10, 11, 12, 13, 14], [0, 1, 4, 5, 6, 7, 8, 9, 10, 11, 12, 13, 14, 15], [0, 1, 2, 3, 4, 5, 6, 7, 8, 9, 10, 11, 12, 13, 14, 15, 16], [0, 1, 2, 3, 4, 5, 6, 7, 8, 9, 10, 11, 12, 13, 14, 15, 16, 17], [0, 1, 2, 3, 4, 5, 6, 7, 8, 9, 10, 11, 12, 13, 14, 15, 16, 17, 18]])
 (.seq (.seq (.reg [⟨some 86, none, .mv (.t 7)⟩,
  ⟨some 87, none, .len false (.t 86)⟩,
  ⟨some 88, none, .mv (.c (.int .i64 0))⟩])
 (.block 1
 (.loop
 (.seq (.reg [⟨some 89, none, .bini .lss (.t 88) (.t 87)⟩])
 (.seq (.cond (.t 89)
 .skip
 (.exit 1))
 (.seq (.block 2
 (.seq (.reg [⟨some 90, none, .mv (.t 88)⟩,
  ⟨some 91, none, .iaddr 5 (.t 86) (.t 88)⟩,
  ⟨some 92, none, .load true 5 (.t 91)⟩,
  ⟨some 13, none, .alloc [.int .i64 0, .int .i64 0, .int .i64 0, .int .i64 0, .emp]⟩,
  ⟨some 12, none, .mv (.t 90)⟩,
  ⟨none, none, .store 5 (.t 13) (.t 92)⟩])
 (.seq (.dreg [⟨some 93, none, .faddr 1 (.t 13)⟩,
  ⟨some 94, none, .load false 1 (.t 93)⟩,
  ⟨some 95, none, .bini .eql (.t 94) (.c (.int .i64 2))⟩,
  ⟨some 96, none, .mv (.t 95)⟩,
  ⟨some 97, (some (96, true)), .faddr 2 (.t 13)⟩,
  ⟨some 98, (some (96, true)), .load false 1 (.t 97)⟩,
  ⟨some 99, (some (96, true)), .mv (.t 10)⟩,
  ⟨some 100, (some (96, true)), .bini .eql (.t 98) (.t 99)⟩,
  ⟨some 101, none, .pick (.t 96) (.t 100) (.c (.bool false))⟩,
  ⟨some 102, none, .mv (.t 101)⟩,
  ⟨some 103, (some (102, true)), .faddr 0 (.t 13)⟩,
  ⟨some 104, (some (102, true)), .load false 1 (.t 103)⟩,
  ⟨some 105, (some (102, true)), .mv (.t 7)⟩,
  ⟨some 106, (some (102, true)), .mv (.t 9)⟩,
  ⟨some 107, (some (102, true)), .iaddr 5 (.t 105) (.t 106)⟩,
  ⟨some 108, (some (102, true)), .faddr 0 (.t 107)⟩,
  ⟨some 109, (some (102, true)), .load false 1 (.t 108)⟩,
  ⟨some 110, (some (102, true)), .bini .leq (.t 104) (.t 109)⟩,
  ⟨some 111, none, .pick (.t 102) (.t 110) (.c (.bool false))⟩])
 (.cond (.t 111)
 (.reg [⟨some 112, none, .mv (.t 7)⟩,
  ⟨some 113, none, .mv (.t 12)⟩,
  ⟨some 114, none, .mv (.t 1)⟩,
  ⟨some 115, none, .iaddr 5 (.t 112) (.t 113)⟩,
  ⟨some 116, none, .faddr 2 (.t 115)⟩,
  ⟨none, none, .store 1 (.t 116) (.t 114)⟩])
 .skip))))
 (.reg [⟨some 117, none, .bini .add (.t 88) (.c (.int .i64 1))⟩,
  ⟨some 88, none, .mv (.t 117)⟩])))))))
 (.seq (.reg [⟨some 118, none, .mv (.t 6)⟩,
  ⟨some 4, none, .mv (.t 118)⟩,
  ⟨some 5, none, .mv (.c (.int .i64 0))⟩])
 .ret))))))))))))
theorem d28 : FnD Try.prog 28 2 117 [.tmp 4, .tmp 5] c28 := ⟨Try.f28, _, Try.func28, by kernel_rfl, rfl, rfl, by kernel_rfl, by kernel_rfl⟩

/-- palimp/dset.Back -/
def c29 : ACode :=
 (.seq (.reg [⟨some 4, none, .box (.t 1)⟩,
  ⟨some 5, none, .box (.t 2)⟩,
  ⟨some 6, none, .mv (.c (.emp))⟩,
  ⟨some 7, none, .mv (.c (.int .i64 0))⟩])
 (.seq (.reg [⟨some 13, none, .mv (.t 0)⟩,
  ⟨some 14, none, .call 59 [(.t 13)]⟩,
  ⟨some 8, none, .mv (.t 14)⟩])
 (.seq (.reg [⟨some 15, none, .mv (.t 8)⟩,
  ⟨some 9, none, .mv (.t 15)⟩])
 (.seq (.dregE [[⟨some 16, none, .mv (.t 9)⟩,
  ⟨some 17, none, .load false 1 (.t 4)⟩,
  ⟨some 18, none, .call 62 [(.t 16), (.t 17)]⟩,
  ⟨some 19, none, .mv (.t 9)⟩,
  ⟨some 20, none, .load false 1 (.t 5)⟩],
  [⟨some 21, none, .call 62 [(.t 19), (.t 20)]⟩],
  [⟨some 10, none, .mv (.t 18)⟩],
  [⟨some 11, none, .mv (.t 21)⟩]]
  [[], [], [0, 1], [], [], [0, 1, 2, 3, 4], [0, 1, 2, 3, 4, 5], [0, 1, 2, 3, 4, 5, 6]])
 (.seq (.reg [⟨some 22, none, .mkfn (.func 64) [] [(.t 4), (.t 5)]⟩,
  ⟨some 12, none, .mv (.t 22)⟩])
 (.seq (.block 0
 (.seq (.reg [⟨some 24, none, .mv (.t 10)⟩,
  ⟨some 25, none, .bini .lss (.t 24) (.c (.int .i64 0))⟩,
  ⟨some 26, none, .mv (.t 25)⟩,
  ⟨some 27, (some (26, false)), .mv (.t 11)⟩,
  ⟨some 28, (some (26, false)), .bini .lss (.t 27) (.c (.int .i64 0))⟩,
  ⟨some 29, none, .pick (.t 26) (.c (.bool true)) (.t 28)⟩,
  ⟨some 23, none, .mv (.t 29)⟩])
 (.cond (.t 23)
 (.seq (.reg [⟨some 30, none, .mv (.t 8)⟩,
  ⟨some 6, none, .mv (.t 30)⟩,
  ⟨some 7, none, .mv (.c (.int .i64 2))⟩])
 .ret)
 (.seq (.dreg [⟨some 32, none, .mv (.t 9)⟩,
  ⟨some 33, none, .mv (.t 10)⟩,
  ⟨some 34, none, .iaddr 5 (.t 32) (.t 33)⟩,
  ⟨some 35, none, .faddr 1 (.t 34)⟩,
  ⟨some 36, none, .load false 1 (.t 35)⟩,
  ⟨some 37, none, .bini .neq (.t 36) (.c (.int .i64 1))⟩,
  ⟨some 38, none, .mv (.t 37)⟩,
  ⟨some 39, (some (38, false)), .mv (.t 9)⟩,
  ⟨some 40, (some (38, false)), .mv (.t 11)⟩,
  ⟨some 41, (some (38, false)), .iaddr 5 (.t 39) (.t 40)⟩,
  ⟨some 42, (some (38, false)), .faddr 1 (.t 41)⟩,
  ⟨some 43, (some (38, false)), .load false 1 (.t 42)⟩,
  ⟨some 44, (some (38, false)), .bini .neq (.t 43) (.c (.int .i64 2))⟩,
  ⟨some 45, none, .pick (.t 38) (.c (.bool true)) (.t 44)⟩,
  ⟨some 46, none, .mv (.t 45)⟩,
  ⟨some 47, (some (46, false)), .mv (.t 9)⟩,
  ⟨some 48, (some (46, false)), .mv (.t 11)⟩,
  ⟨some 49, (some (46, false)), .iaddr 5 (.t 47) (.t 48)⟩,
  ⟨some 50, (some (46, false)), .faddr 2 (.t 49)⟩,
  ⟨some 51, (some (46, false)), .load false 1 (.t 50)⟩,
  ⟨some 52, (some (46, false)), .load false 1 (.t 4)⟩,
  ⟨some 53, (some (46, false)), .bini .neq (.t 51) (.t 52)⟩,
  ⟨some 54, none, .pick (.t 46) (.c (.bool true)) (.t 53)⟩,
  ⟨some 31, none, .mv (.t 54)⟩])
 (.cond (.t 31)
 (.seq (.reg [⟨some 55, none, .mv (.t 8)⟩,
  ⟨some 6, none, .mv (.t 55)⟩,
  ⟨some 7, none, .mv (.c (.int .i64 1))⟩])
 .ret)
 (.seq (.reg [⟨some 57, none, .mv (.t 9)⟩,
  ⟨some 58, none, .mv (.t 12)⟩,
  ⟨some 59, none, .call 65 [(.t 57), (.t 58)]⟩,
  ⟨some 56, none, .mv (.t 59)⟩])
 (.cond (.t 56)
 (.seq (.reg [⟨some 60, none, .mv (.t 8)⟩,
  ⟨some 6, none, .mv (.t 60)⟩,
  ⟨some 7, none, .mv (.c (.int .i64 10))⟩])
 .ret)
 .skip)))))))
 (.seq (.reg [⟨some 61, none, .mv (.t 9)⟩,
  ⟨some 62, none, .mv (.t 10)⟩,
  ⟨some 63, none, .mv (.t 9)⟩,
  ⟨some 64, none, .mv (.t 11)⟩,
  ⟨some 65, none, .iaddr 5 (.t 63) (.t 64)⟩,
  ⟨some 66, none, .faddr 4 (.t 65)⟩,
  ⟨some 67, none, .load false 1 (.t 66)⟩,
  ⟨some 68, none, .call 41 [(.t 67)]⟩,
  ⟨some 69, none, .iaddr 5 (.t 61) (.t 62)⟩,
  ⟨some 70, none, .faddr 4 (.t 69)⟩,
  ⟨none, none, .store 1 (.t 70) (.t 68)⟩])
 (.seq (.reg [⟨some 71, none, .mv (.t 8)⟩,
  ⟨some 6, none, .mv (.t 71)⟩,
  ⟨some 7, none, .mv (.c (.int .i64 0))⟩])
 .ret))))))))
theorem d29 : FnD Try.prog 29 3 69 [.tmp 6, .tmp 7] c29 := ⟨Try.f29, _, Try.func29, by kernel_rfl, rfl, rfl, by kernel_rfl, by kernel_rfl⟩

/-- palimp/dset.Destroy -/
def c30 : ACode :=
 (.seq (.reg [⟨some 3, none, .box (.t 1)⟩,
  ⟨some 4, none, .mv (.c (.emp))⟩,
  ⟨some 5, none, .mv (.c (.int .i64 0))⟩])
 (.seq (.reg [⟨some 12, none, .mv (.t 0)⟩,
  ⟨some 13, none, .call 59 [(.t 12)]⟩,
  ⟨some 6, none, .mv (.t 13)⟩])
 (.seq (.reg [⟨some 14, none, .mv (.t 6)⟩,
  ⟨some 7, none, .mv (.t 14)⟩])
 (.seq (.reg [⟨some 15, none, .mv (.t 7)⟩,
  ⟨some 16, none, .load false 1 (.t 3)⟩,
  ⟨some 17, none, .call 62 [(.t 15), (.t 16)]⟩,
  ⟨some 8, none, .mv (.t 17)⟩])
 (.seq (.reg [⟨some 9, none, .mv (.c (.int .i64 0))⟩])
 (.seq (.seq (.reg [⟨some 18, none, .mv (.t 7)⟩,
  ⟨some 19, none, .len false (.t 18)⟩,
  ⟨some 20, none, .mv (.c (.int .i64 0))⟩])
 (.block 0
 (.loop
 (.seq (.reg [⟨some 21, none, .bini .lss (.t 20) (.t 19)⟩])
 (.seq (.cond (.t 21)
 .skip
 (.exit 0))
 (.seq (.block 1
 (.seq (.reg [⟨some 22, none, .iaddr 5 (.t 18) (.t 20)⟩,
  ⟨some 23, none, .load true 5 (.t 22)⟩,
  ⟨some 11, none, .alloc [.int .i64 0, .int .i64 0, .int .i64 0, .int .i64 0, .emp]⟩,
  ⟨none, none, .store 5 (.t 11) (.t 23)⟩])
 (.seq (.reg [⟨some 24, none, .faddr 1 (.t 11)⟩,
  ⟨some 25, none, .load false 1 (.t 24)⟩,
  ⟨some 26, none, .bini .eql (.t 25) (.c (.int .i64 1))⟩])
 (.cond (.t 26)
 (.reg [⟨some 27, none, .mv (.t 9)⟩,
  ⟨some 28, none, .bini .add (.t 27) (.c (.int .i64 1))⟩,
  ⟨some 9, none, .mv (.t 28)⟩])
 .skip))))
 (.reg [⟨some 29, none, .bini .add (.t 20) (.c (.int .i64 1))⟩,
  ⟨some 20, none, .mv (.t 29)⟩])))))))
 (.seq (.block 2
 (.seq (.reg [⟨some 31, none, .mv (.t 8)⟩,
  ⟨some 32, none, .bini .lss (.t 31) (.c (.int .i64 0))⟩,
  ⟨some 30, none, .mv (.t 32)⟩])
 (.cond (.t 30)
 (.seq (.reg [⟨some 33, none, .mv (.t 6)⟩,
  ⟨some 4, none, .mv (.t 33)⟩,
  ⟨some 5, none, .mv (.c (.int .i64 2))⟩])
 .ret)
 (.seq (.seq (.reg [⟨some 35, none, .mv (.t 7)⟩,
  ⟨some 36, none, .mkfn (.func 66) [] [(.t 3)]⟩,
  ⟨some 37, none, .call 65 [(.t 35), (.t 36)]⟩,
  ⟨some 34, none, .mv (.t 37)⟩])
 (.cond (.t 34)
 .skip
 (.reg [⟨some 38, none, .mv (.t 7)⟩,
  ⟨some 39, none, .mv (.t 8)⟩,
  ⟨some 40, none, .iaddr 5 (.t 38) (.t 39)⟩,
  ⟨some 41, none, .faddr 1 (.t 40)⟩,
  ⟨some 42, none, .load false 1 (.t 41)⟩,
  ⟨some 43, none, .bini .eql (.t 42) (.c (.int .i64 1))⟩,
  ⟨some 44, none, .mv (.t 43)⟩,
  ⟨some 45, (some (44, true)), .mv (.t 9)⟩,
  ⟨some 46, (some (44, true)), .bini .eql (.t 45) (.c (.int .i64 1))⟩,
  ⟨some 47, none, .pick (.t 44) (.t 46) (.c (.bool false))⟩,
  ⟨some 34, none, .mv (.t 47)⟩])))
 (.cond (.t 34)
 (.seq (.reg [⟨some 48, none, .mv (.t 6)⟩,
  ⟨some 4, none, .mv (.t 48)⟩,
  ⟨some 5, none, .mv (.c (.int .i64 10))⟩])
 .ret)
 .skip)))))
 (.seq (.reg [⟨some 49, none, .mv (.t 6)⟩,
  ⟨some 50, none, .mv (.t 8)⟩,
  ⟨some 51, none, .mv (.t 8)⟩,
  ⟨some 52, none, .bini .add (.t 51) (.c (.int .i64 1))⟩,
  ⟨some 53, none, .call 67 [(.t 49), (.t 50), (.t 52)]⟩,
  ⟨some 4, none, .mv (.t 53)⟩,
  ⟨some 5, none, .mv (.c (.int .i64 0))⟩])
 .ret))))))))
theorem d30 : FnD Try.prog 30 2 52 [.tmp 4, .tmp 5] c30 := ⟨Try.f30, _, Try.func30, by kernel_rfl, rfl, rfl, by kernel_rfl, by kernel_rfl⟩

/-- palimp/palimpref16.MaySets -/
def c31 : ACode :=
 (.seq (.reg [⟨some 2, none, .mv (.c (.bool false))⟩])
 (.seq (.seq (.reg [⟨some 10, none, .mv (.t 0)⟩,
  ⟨some 11, none, .len false (.t 10)⟩,
  ⟨some 12, none, .bini .gtr (.t 11) (.c (.int .i64 8))⟩])
 (.cond (.t 12)
 (.seq (.reg [⟨some 2, none, .mv (.c (.bool false))⟩])
 .ret)
 .skip))
 (.seq (.seq (.reg [⟨some 3, none, .mv (.c (.int .i64 0))⟩])
 (.block 0
 (.loop
 (.seq (.seq (.reg [⟨some 13, none, .mv (.t 3)⟩,
  ⟨some 14, none, .mv (.t 0)⟩,
  ⟨some 15, none, .len false (.t 14)⟩,
  ⟨some 16, none, .bini .lss (.t 13) (.t 15)⟩])
 (.cond (.t 16)
 .skip
 (.exit 0)))
 (.seq (.block 1
 (.seq (.reg [⟨some 19, none, .mv (.t 0)⟩,
  ⟨some 20, none, .mv (.t 3)⟩,
  ⟨some 21, none, .iaddr 5 (.t 19) (.t 20)⟩,
  ⟨some 22, none, .load true 5 (.t 21)⟩,
  ⟨some 4, none, .alloc [.int .i64 0, .int .i64 0, .int .i64 0, .int .i64 0, .emp]⟩,
  ⟨none, none, .store 5 (.t 4) (.t 22)⟩])
 (.seq (.seq (.dregE [[⟨some 23, none, .faddr 0 (.t 4)⟩],
  [⟨some 24, none, .load false 1 (.t 23)⟩],
  [⟨some 25, none, .bini .lss (.t 24) (.c (.int .i64 1))⟩],
  [⟨some 26, none, .mv (.t 25)⟩],
  [⟨some 27, (some (26, false)), .faddr 0 (.t 4)⟩],
  [⟨some 28, (some (26, false)), .load false 1 (.t 27)⟩],
  [⟨some 29, (some (26, false)), .call 68 [(.t 28)]⟩],
  [⟨some 30, (some (26, false)), .un .not (.t 29)⟩],
  [⟨some 31, none, .pick (.t 26) (.c (.bool true)) (.t 30)⟩],
  [⟨some 32, none, .mv (.t 31)⟩],
  [⟨some 33, (some (32, false)), .mv (.t 3)⟩],
  [⟨some 34, (some (32, false)), .bini .gtr (.t 33) (.c (.int .i64 0))⟩],
  [⟨some 35, (some (32, false)), .mv (.t 34)⟩],
  [⟨some 36, (some (35, true)), .mv (.t 0)⟩,
  ⟨some 37, (some (35, true)), .mv (.t 3)⟩,
  ⟨some 38, (some (35, true)), .bini .sub (.t 37) (.c (.int .i64 1))⟩,
  ⟨some 39, (some (35, true)), .iaddr 5 (.t 36) (.t 38)⟩,
  ⟨some 40, (some (35, true)), .faddr 0 (.t 39)⟩,
  ⟨some 41, (some (35, true)), .load false 1 (.t 40)⟩,
  ⟨some 42, (some (35, true)), .faddr 0 (.t 4)⟩,
  ⟨some 43, (some (35, true)), .load false 1 (.t 42)⟩],
  [⟨some 44, (some (35, true)), .bini .geq (.t 41) (.t 43)⟩],
  [⟨some 45, (some (32, false)), .pick (.t 35) (.t 44) (.c (.bool false))⟩],
  [⟨some 46, none, .pick (.t 32) (.c (.bool true)) (.t 45)⟩],
  [⟨some 47, none, .mv (.t 46)⟩],
  [⟨some 48, (some (47, false)), .faddr 4 (.t 4)⟩],
  [⟨some 49, (some (47, false)), .load false 1 (.t 48)⟩],
  [⟨some 50, (some (47, false)), .call 69 [(.t 49)]⟩],
  [⟨some 51, (some (47, false)), .un .not (.t 50)⟩],
  [⟨some 52, none, .pick (.t 47) (.c (.bool true)) (.t 51)⟩],
  [⟨some 53, none, .mv (.t 52)⟩],
  [⟨some 54, (some (53, false)), .faddr 3 (.t 4)⟩],
  [⟨some 55, (some (53, false)), .load false 1 (.t 54)⟩],
  [⟨some 56, (some (53, false)), .bini .lss (.t 55) (.c (.int .i64 0))⟩],
  [⟨some 57, none, .pick (.t 53) (.c (.bool true)) (.t 56)⟩],
  [⟨some 58, none, .mv (.t 57)⟩],
  [⟨some 59, (some (58, false)), .faddr 3 (.t 4)⟩],
  [⟨some 60, (some (58, false)), .load false 1 (.t 59)⟩],
  [⟨some 61, (some (58, false)), .bini .gtr (.t 60) (.c (.int .i64 255))⟩],
  [⟨some 62, none, .pick (.t 58) (.c (.bool true)) (.t 61)⟩]]
  [[], [0], [0, 1], [0, 1, 2], [0, 1, 2, 3], [0, 1, 2, 3, 4], [0, 1, 2, 3, 4, 5], [0, 1, 2, 3, 4, 5, 6], [0, 1, 2, 3, 4, 5, 6, 7], [0, 1, 2, 3, 4, 5, 6, 7, 8], [0, 1, 2, 3, 4, 5, 6, 7, 8, 9], [0, 1, 2, 3, 4, 5, 6, 7, 8, 9, 10], [0, 1, 2, 3, 4, 5, 6, 7, 8, 9, 10, 11], [0, 1, 2, 3, 4, 5, 6, 7, 8, 9, 10, 11, 12], [0, 1, 2, 3, 4, 5, 6, 7, 8, 9, 10, 11, 12], [0, 1, 2, 3, 4, 5, 6, 7, 8, 9, 10, 11, 12, 14], [0, 1, 2, 3, 4, 5, 6, 7, 8, 9, 10, 11, 12, 13, 14, 15], [0, 1, 2, 3, 4, 5, 6, 7, 8, 9, 10, 11, 12, 13, 14, 15, 16], [0, 1, 2, 3, 4, 5, 6, 7, 8, 9, 10, 11, 12, 13, 14, 15, 16, 17], [0, 1, 2, 3, 4, 5, 6, 7, 8, 9, 10, 11, 12], [0, 1, 2, 3, 4, 5, 6, 7, 8, 9, 10, 11, 12, 19], [0, 1, 2, 3, 4, 5, 6, 7, 8, 9, 10, 11, 12, 13, 14, 15, 16, 17, 18, 19, 20], [0, 1, 2, 3, 4, 5, 6, 7, 8, 9, 10, 11, 12, 13, 14, 15, 16, 17, 18, 19, 20, 21], [0, 1, 2, 3, 4, 5, 6, 7, 8, 9, 10, 11, 12, 13, 14, 15, 16, 17, 18, 19, 20, 21, 22], [0, 1, 2, 3, 4, 5, 6, 7, 8, 9, 10, 11, 12, 13, 14, 15, 16, 17, 18, 19, 20, 21, 22, 23], [0, 1, 2, 3, 4, 5, 6, 7, 8, 9, 10, 11, 12, 13, 14, 15, 16, 17, 18, 19, 20, 21, 22, 23, 24], [0, 1, 2, 3, 4, 5, 6, 7, 8, 9, 10, 11, 12, 13, 14, 15, 16, 17, 18, 19, 20, 21, 22, 23, 24, 25], [0, 1, 2, 3, 4, 5, 6, 7, 8, 9, 10, 11, 12, 13, 14, 15, 16, 17, 18, 19, 20, 21, 22, 23, 24, 25, 26], [0, 1, 2, 3, 4, 5, 6, 7, 8, 9, 10, 11, 12, 13, 14, 15, 16, 17, 18, 19, 20, 21, 22, 23, 24, 25, 26, 27], [0, 1, 2, 3, 4, 5, 6, 7, 8, 9, 10, 11, 12, 13, 14, 15, 16, 17, 18, 19, 20, 21, 22, 23, 24, 25, 26, 27, 28], [0, 1, 2, 3, 4, 5, 6, 7, 8, 9, 10, 11, 12, 13, 14, 15, 16, 17, 18, 19, 20, 21, 22, 23, 24, 25, 26, 27, 28, 29], [0, 1, 2, 3, 4, 5, 6, 7, 8, 9, 10, 11, 12, 13, 14, 15, 16, 17, 18, 19, 20, 21, 22, 23, 24, 25, 26, 27, 28, 29, 30], [0, 1, 2, 3, 4, 5, 6, 7, 8, 9, 10, 11, 12, 13, 14, 15, 16, 17, 18, 19, 20, 21, 22, 23, 24, 25, 26, 27, 28, 29, 30, 31], [0, 1, 2, 3, 4, 5, 6, 7, 8, 9, 10, 11, 12, 13, 14, 15, 16, 17, 18, 19, 20, 21, 22, 23, 24, 25, 26, 27, 28, 29, 30, 31, 32], [0, 1, 2, 3, 4, 5, 6, 7, 8, 9, 10, 11, 12, 13, 14, 15, 16, 17, 18, 19, 20, 21, 22, 23, 24, 25, 26, 27, 28, 29, 30, 31, 32, 33], [0, 1, 2, 3, 4, 5, 6, 7, 8, 9, 10, 11, 12, 13, 14, 15, 16, 17, 18, 19, 20, 21, 22, 23, 24, 25, 26, 27, 28, 29, 30, 31, 32, 33, 34], [0, 1, 2, 3, 4, 5, 6, 7, 8, 9, 10, 11, 12, 13, 14, 15, 16, 17, 18, 19, 20, 21, 22, 23, 24, 25, 26, 27, 28, 29, 30, 31, 32, 33, 34, 35], [0, 1, 2, 3, 4, 5, 6, 7, 8, 9, 10, 11, 12, 13, 14, 15, 16, 17, 18, 19, 20, 21, 22, 23, 24, 25, 26, 27, 28, 29, 30, 31, 32, 33, 34, 35, 36], [0, 1, 2, 3, 4, 5, 6, 7, 8, 9, 10, 11, 12, 13, 14, 15, 16, 17, 18, 19, 20, 21, 22, 23, 24, 25, 26, 27, 28, 29, 30, 31, 32, 33, 34, 35, 36, 37], [0, 1, 2, 3, 4, 5, 6, 7, 8, 9, 10, 11, 12, 13, 14, 15, 16, 17, 18, 19, 20, 21, 22, 23, 24, 25, 26, 27, 28, 29, 30, 31, 32, 33, 34, 35, 36, 37, 38]])
 (.cond (.t 62)
 (.seq (.reg [⟨some 2, none, .mv (.c (.bool false))⟩])
 .ret)
 .skip))
 (.seq (.reg [⟨some 64, none, .mv (.t 0)⟩,
  ⟨some 65, none, .faddr 2 (.t 4)⟩,
  ⟨some 66, none, .load false 1 (.t 65)⟩,
  ⟨some 67, none, .call 70 [(.t 64), (.t 66)]⟩,
  ⟨some 63, none, .mv (.t 67)⟩,
  ⟨some 68, none, .ext (.t 63) 0⟩,
  ⟨some 69, none, .ext (.t 63) 1⟩,
  ⟨some 5, none, .alloc [.int .i64 0, .int .i64 0, .int .i64 0, .int .i64 0, .emp]⟩,
  ⟨none, none, .store 5 (.t 5) (.t 68)⟩,
  ⟨some 6, none, .mv (.t 69)⟩])
 (.seq (.reg [⟨some 70, none, .faddr 1 (.t 4)⟩,
  ⟨some 71, none, .load false 1 (.t 70)⟩])
 (.block 2
 (.seq (.reg [⟨some 73, none, .bini .eql (.t 71) (.c (.int .i64 2))⟩,
  ⟨some 72, none, .mv (.t 73)⟩])
 (.cond (.t 72)
 (.seq (.reg [⟨some 74, none, .faddr 3 (.t 4)⟩,
  ⟨some 75, none, .load false 1 (.t 74)⟩,
  ⟨some 76, none, .bini .neq (.t 75) (.c (.int .i64 0))⟩,
  ⟨some 77, none, .mv (.t 76)⟩,
  ⟨some 78, (some (77, false)), .mv (.t 6)⟩,
  ⟨some 79, (some (77, false)), .un .not (.t 78)⟩,
  ⟨some 80, none, .pick (.t 77) (.c (.bool true)) (.t 79)⟩,
  ⟨some 81, none, .mv (.t 80)⟩,
  ⟨some 82, (some (81, false)), .faddr 1 (.t 5)⟩,
  ⟨some 83, (some (81, false)), .load false 1 (.t 82)⟩,
  ⟨some 84, (some (81, false)), .bini .neq (.t 83) (.c (.int .i64 1))⟩,
  ⟨some 85, none, .pick (.t 81) (.c (.bool true)) (.t 84)⟩])
 (.cond (.t 85)
 (.seq (.reg [⟨some 2, none, .mv (.c (.bool false))⟩])
 .ret)
 .skip))
 (.seq (.reg [⟨some 87, none, .bini .eql (.t 71) (.c (.int .i64 1))⟩,
  ⟨some 86, none, .mv (.t 87)⟩])
 (.cond (.t 86)
 (.seq (.reg [⟨some 88, none, .faddr 2 (.t 4)⟩,
  ⟨some 89, none, .load false 1 (.t 88)⟩,
  ⟨some 90, none, .bini .neq (.t 89) (.c (.int .i64 0))⟩,
  ⟨some 91, none, .mv (.t 90)⟩,
  ⟨some 92, (some (91, true)), .mv (.t 6)⟩,
  ⟨some 93, (some (91, true)), .un .not (.t 92)⟩,
  ⟨some 94, (some (91, true)), .mv (.t 93)⟩,
  ⟨some 95, (some (94, false)), .faddr 1 (.t 5)⟩,
  ⟨some 96, (some (94, false)), .load false 1 (.t 95)⟩,
  ⟨some 97, (some (94, false)), .bini .neq (.t 96) (.c (.int .i64 2))⟩,
  ⟨some 98, (some (91, true)), .pick (.t 94) (.c (.bool true)) (.t 97)⟩,
  ⟨some 99, none, .pick (.t 91) (.t 98) (.c (.bool false))⟩])
 (.cond (.t 99)
 (.seq (.reg [⟨some 2, none, .mv (.c (.bool false))⟩])
 .ret)
 .skip))
 (.seq (.reg [⟨some 2, none, .mv (.c (.bool false))⟩])
 .ret)))))))))))
 (.reg [⟨some 17, none, .mv (.t 3)⟩,
  ⟨some 18, none, .bini .add (.t 17) (.c (.int .i64 1))⟩,
  ⟨some 3, none, .mv (.t 18)⟩]))))))
 (.seq (.seq (.reg [⟨some 7, none, .mv (.c (.int .i64 0))⟩])
 (.block 3
 (.loop
 (.seq (.seq (.reg [⟨some 100, none, .mv (.t 7)⟩,
  ⟨some 101, none, .mv (.t 0)⟩,
  ⟨some 102, none, .len false (.t 101)⟩,
  ⟨some 103, none, .bini .lss (.t 100) (.t 102)⟩])
 (.cond (.t 103)
 .skip
 (.exit 3)))
 (.seq (.block 4
 (.seq (.reg [⟨some 106, none, .mv (.t 0)⟩,
  ⟨some 107, none, .mv (.t 7)⟩,
  ⟨some 108, none, .iaddr 5 (.t 106) (.t 107)⟩,
  ⟨some 109, none, .load true 5 (.t 108)⟩,
  ⟨some 8, none, .alloc [.int .i64 0, .int .i64 0, .int .i64 0, .int .i64 0, .emp]⟩,
  ⟨none, none, .store 5 (.t 8) (.t 109)⟩])
 (.seq (.seq (.reg [⟨some 9, none, .mv (.c (.int .i64 0))⟩])
 (.block 5
 (.loop
 (.seq (.seq (.reg [⟨some 110, none, .mv (.t 9)⟩,
  ⟨some 111, none, .mv (.t 0)⟩,
  ⟨some 112, none, .len false (.t 111)⟩,
  ⟨some 113, none, .bini .mul (.c (.int .i64 2)) (.t 112)⟩,
  ⟨some 114, none, .bini .leq (.t 110) (.t 113)⟩])
 (.cond (.t 114)
 .skip
 (.exit 5)))
 (.seq (.block 6
 (.reg [⟨some 118, none, .mv (.t 0)⟩,
  ⟨some 119, none, .faddr 2 (.t 8)⟩,
  ⟨some 120, none, .load false 1 (.t 119)⟩,
  ⟨some 121, none, .call 70 [(.t 118), (.t 120)]⟩,
  ⟨some 117, none, .mv (.t 121)⟩,
  ⟨some 122, none, .ext (.t 117) 0⟩,
  ⟨some 123, none, .ext (.t 117) 1⟩,
  ⟨none, none, .store 5 (.t 8) (.t 122)⟩]))
 (.reg [⟨some 115, none, .mv (.t 9)⟩,
  ⟨some 116, none, .bini .add (.t 115) (.c (.int .i64 1))⟩,
  ⟨some 9, none, .mv (.t 116)⟩]))))))
 (.seq (.reg [⟨some 124, none, .faddr 0 (.t 8)⟩,
  ⟨some 125, none, .load false 1 (.t 124)⟩,
  ⟨some 126, none, .bini .neq (.t 125) (.c (.int .i64 0))⟩])
 (.cond (.t 126)
 (.seq (.reg [⟨some 2, none, .mv (.c (.bool false))⟩])
 .ret)
 .skip)))))
 (.reg [⟨some 104, none, .mv (.t 7)⟩,
  ⟨some 105, none, .bini .add (.t 104) (.c (.int .i64 1))⟩,
  ⟨some 7, none, .mv (.t 105)⟩]))))))
 (.seq (.reg [⟨some 2, none, .mv (.c (.bool true))⟩])
 .ret)))))
theorem d31 : FnD Try.prog 31 1 126 [.tmp 2] c31 := ⟨Try.f31, _, Try.func31, by kernel_rfl, rfl, rfl, by kernel_rfl, by kernel_rfl⟩

/-- palimp/palimpref16.SameSets -/
def c32 : ACode :=
 (.seq (.reg [⟨some 4, none, .mv (.c (.bool false))⟩])
 (.seq (.seq (.reg [⟨some 8, none, .mv (.t 0)⟩,
  ⟨some 9, none, .len false (.t 8)⟩,
  ⟨some 10, none, .mv (.t 1)⟩,
  ⟨some 11, none, .len false (.t 10)⟩,
  ⟨some 12, none, .bini .neq (.t 9) (.t 11)⟩])
 (.cond (.t 12)
 (.seq (.reg [⟨some 4, none, .mv (.c (.bool false))⟩])
 .ret)
 .skip))
 (.seq (.seq (.reg [⟨some 5, none, .mv (.c (.int .i64 0))⟩])
 (.block 0
 (.loop
 (.seq (.seq (.reg [⟨some 13, none, .mv (.t 5)⟩,
  ⟨some 14, none, .mv (.t 0)⟩,
  ⟨some 15, none, .len false (.t 14)⟩,
  ⟨some 16, none, .bini .lss (.t 13) (.t 15)⟩])
 (.cond (.t 16)
 .skip
 (.exit 0)))
 (.seq (.block 1
 (.seq (.dregE [[⟨some 19, none, .mv (.t 0)⟩,
  ⟨some 20, none, .mv (.t 5)⟩,
  ⟨some 21, none, .iaddr 5 (.t 19) (.t 20)⟩,
  ⟨some 22, none, .load true 5 (.t 21)⟩,
  ⟨some 23, none, .mv (.t 1)⟩,
  ⟨some 24, none, .mv (.t 5)⟩,
  ⟨some 25, none, .iaddr 5 (.t 23) (.t 24)⟩,
  ⟨some 26, none, .load true 5 (.t 25)⟩,
  ⟨some 6, none, .alloc [.int .i64 0, .int .i64 0, .int .i64 0, .int .i64 0, .emp]⟩,
  ⟨some 7, none, .alloc [.int .i64 0, .int .i64 0, .int .i64 0, .int .i64 0, .emp]⟩,
  ⟨none, none, .store 5 (.t 6) (.t 22)⟩],
  [⟨none, none, .store 5 (.t 7) (.t 26)⟩]]
  [[], [], [0, 1], [0, 1, 2], [], [], [4, 5], [4, 5, 6], [], [], [0, 1, 2, 3, 8, 9], [0, 1, 2, 3, 4, 5, 6, 7, 8, 9, 10]])
 (.seq (.reg [⟨some 27, none, .faddr 0 (.t 6)⟩,
  ⟨some 28, none, .load false 1 (.t 27)⟩,
  ⟨some 29, none, .faddr 0 (.t 7)⟩,
  ⟨some 30, none, .load false 1 (.t 29)⟩,
  ⟨some 31, none, .bini .neq (.t 28) (.t 30)⟩,
  ⟨some 32, none, .mv (.t 31)⟩,
  ⟨some 33, (some (32, false)), .faddr 1 (.t 6)⟩,
  ⟨some 34, (some (32, false)), .load false 1 (.t 33)⟩,
  ⟨some 35, (some (32, false)), .faddr 1 (.t 7)⟩,
  ⟨some 36, (some (32, false)), .load false 1 (.t 35)⟩,
  ⟨some 37, (some (32, false)), .bini .neq (.t 34) (.t 36)⟩,
  ⟨some 38, none, .pick (.t 32) (.c (.bool true)) (.t 37)⟩,
  ⟨some 39, none, .mv (.t 38)⟩,
  ⟨some 40, (some (39, false)), .faddr 2 (.t 6)⟩,
  ⟨some 41, (some (39, false)), .load false 1 (.t 40)⟩,
  ⟨some 42, (some (39, false)), .faddr 2 (.t 7)⟩,
  ⟨some 43, (some (39, false)), .load false 1 (.t 42)⟩,
  ⟨some 44, (some (39, false)), .bini .neq (.t 41) (.t 43)⟩,
  ⟨some 45, none, .pick (.t 39) (.c (.bool true)) (.t 44)⟩,
  ⟨some 46, none, .mv (.t 45)⟩,
  ⟨some 47, (some (46, false)), .faddr 3 (.t 6)⟩,
  ⟨some 48, (some (46, false)), .load false 1 (.t 47)⟩,
  ⟨some 49, (some (46, false)), .faddr 3 (.t 7)⟩,
  ⟨some 50, (some (46, false)), .load false 1 (.t 49)⟩,
  ⟨some 51, (some (46, false)), .bini .neq (.t 48) (.t 50)⟩,
  ⟨some 52, none, .pick (.t 46) (.c (.bool true)) (.t 51)⟩,
  ⟨some 53, none, .mv (.t 52)⟩,
  ⟨some 54, (some (53, false)), .faddr 4 (.t 6)⟩,
  ⟨some 55, (some (53, false)), .load false 1 (.t 54)⟩,
  ⟨some 56, (some (53, false)), .faddr 4 (.t 7)⟩,
  ⟨some 57, (some (53, false)), .load false 1 (.t 56)⟩,
  ⟨some 58, (some (53, false)), .call 33 [(.t 55), (.t 57)]⟩,
  ⟨some 59, (some (53, false)), .un .not (.t 58)⟩,
  ⟨some 60, none, .pick (.t 53) (.c (.bool true)) (.t 59)⟩])
 (.cond (.t 60)
 (.seq (.reg [⟨some 4, none, .mv (.c (.bool false))⟩])
 .ret)
 .skip))))
 (.reg [⟨some 17, none, .mv (.t 5)⟩,
  ⟨some 18, none, .bini .add (.t 17) (.c (.int .i64 1))⟩,
  ⟨some 5, none, .mv (.t 18)⟩]))))))
 (.seq (.reg [⟨some 4, none, .mv (.c (.bool true))⟩])
 .ret))))
theorem d32 : FnD Try.prog 32 2 59 [.tmp 4] c32 := ⟨Try.f32, _, Try.func32, by kernel_rfl, rfl, rfl, by kernel_rfl, by kernel_rfl⟩

/-- palimp/palimpref11.Same -/
def c33 : ACode :=
 (.seq (.reg [⟨some 4, none, .mv (.c (.bool false))⟩])
 (.seq (.seq (.reg [⟨some 6, none, .mv (.t 0)⟩,
  ⟨some 7, none, .len false (.t 6)⟩,
  ⟨some 8, none, .mv (.t 1)⟩,
  ⟨some 9, none, .len false (.t 8)⟩,
  ⟨some 10, none, .bini .neq (.t 7) (.t 9)⟩])
 (.cond (.t 10)
 (.seq (.reg [⟨some 4, none, .mv (.c (.bool false))⟩])
 .ret)
 .skip))
 (.seq (.seq (.reg [⟨some 5, none, .mv (.c (.int .i64 0))⟩])
 (.block 0
 (.loop
 (.seq (.seq (.reg [⟨some 11, none, .mv (.t 5)⟩,
  ⟨some 12, none, .mv (.t 0)⟩,
  ⟨some 13, none, .len false (.t 12)⟩,
  ⟨some 14, none, .bini .lss (.t 11) (.t 13)⟩])
 (.cond (.t 14)
 .skip
 (.exit 0)))
 (.seq (.block 1
 (.seq (.dreg [⟨some 17, none, .mv (.t 0)⟩,
  ⟨some 18, none, .mv (.t 5)⟩,
  ⟨some 19, none, .iaddr 5 (.t 17) (.t 18)⟩,
  ⟨some 20, none, .load true 5 (.t 19)⟩,
  ⟨some 21, none, .mv (.t 1)⟩,
  ⟨some 22, none, .mv (.t 5)⟩,
  ⟨some 23, none, .iaddr 5 (.t 21) (.t 22)⟩,
  ⟨some 24, none, .load true 5 (.t 23)⟩,
  ⟨some 25, none, .eqs true [.i, .i, .s, .s, .i] (.t 20) (.t 24)⟩])
 (.cond (.t 25)
 (.seq (.reg [⟨some 4, none, .mv (.c (.bool false))⟩])
 .ret)
 .skip)))
 (.reg [⟨some 15, none, .mv (.t 5)⟩,
  ⟨some 16, none, .bini .add (.t 15) (.c (.int .i64 1))⟩,
  ⟨some 5, none, .mv (.t 16)⟩]))))))
 (.seq (.reg [⟨some 4, none, .mv (.c (.bool true))⟩])
 .ret))))
theorem d33 : FnD Try.prog 33 2 24 [.tmp 4] c33 := ⟨Try.f33, _, Try.func33, by kernel_rfl, rfl, rfl, by kernel_rfl, by kernel_rfl⟩

/-- palimp/palimpref11.Drop -/
def c34 : ACode :=
 (.seq (.reg [⟨some 4, none, .mv (.c (.emp))⟩,
  ⟨some 5, none, .mv (.c (.int .i64 0))⟩])
 (.seq (.reg [⟨some 9, none, .mv (.t 0)⟩,
  ⟨some 10, none, .mv (.t 1)⟩,
  ⟨some 11, none, .call 56 [(.t 9), (.t 10)]⟩,
  ⟨some 8, none, .mv (.t 11)⟩,
  ⟨some 12, none, .ext (.t 8) 0⟩,
  ⟨some 13, none, .ext (.t 8) 1⟩,
  ⟨some 6, none, .mv (.t 12)⟩,
  ⟨some 7, none, .mv (.t 13)⟩])
 (.seq (.seq (.reg [⟨some 14, none, .mv (.t 7)⟩,
  ⟨some 15, none, .bini .neq (.t 14) (.c (.int .i64 0))⟩])
 (.cond (.t 15)
 (.seq (.reg [⟨some 16, none, .mv (.t 0)⟩,
  ⟨some 17, none, .mv (.t 7)⟩,
  ⟨some 4, none, .mv (.t 16)⟩,
  ⟨some 5, none, .mv (.t 17)⟩])
 .ret)
 .skip))
 (.seq (.seq (.reg [⟨some 18, none, .mv (.t 6)⟩,
  ⟨some 19, none, .bini .eql (.t 18) (.c (.int .i64 0))⟩])
 (.cond (.t 19)
 (.seq (.reg [⟨some 20, none, .mv (.t 0)⟩,
  ⟨some 4, none, .mv (.t 20)⟩,
  ⟨some 5, none, .mv (.c (.int .i64 4))⟩])
 .ret)
 .skip))
 (.seq (.seq (.reg [⟨some 21, none, .mv (.t 0)⟩,
  ⟨some 22, none, .mv (.t 6)⟩,
  ⟨some 23, none, .call 71 [(.t 21), (.t 22)]⟩,
  ⟨some 24, none, .len false (.t 23)⟩,
  ⟨some 25, none, .bini .gtr (.t 24) (.c (.int .i64 0))⟩])
 (.cond (.t 25)
 (.seq (.reg [⟨some 26, none, .mv (.t 0)⟩,
  ⟨some 4, none, .mv (.t 26)⟩,
  ⟨some 5, none, .mv (.c (.int .i64 6))⟩])
 .ret)
 .skip))
 (.seq (.reg [⟨some 27, none, .mv (.t 0)⟩,
  ⟨some 28, none, .mv (.t 6)⟩,
  ⟨some 29, none, .build [.int .i64 0, .int .i64 0, .str [], .str [], .int .i64 0] []⟩,
  ⟨some 30, none, .call 49 [(.t 27), (.t 28), (.t 29)]⟩,
  ⟨some 4, none, .mv (.t 30)⟩,
  ⟨some 5, none, .mv (.c (.int .i64 0))⟩])
 .ret))))))
theorem d34 : FnD Try.prog 34 2 29 [.tmp 4, .tmp 5] c34 := ⟨Try.f34, _, Try.func34, by kernel_rfl, rfl, rfl, by kernel_rfl, by kernel_rfl⟩

/-- palimp/palimpref11.Move -/
def c35 : ACode :=
 (.seq (.reg [⟨some 6, none, .mv (.c (.emp))⟩,
  ⟨some 7, none, .mv (.c (.int .i64 0))⟩])
 (.seq (.reg [⟨some 16, none, .mv (.t 0)⟩,
  ⟨some 17, none, .mv (.t 1)⟩,
  ⟨some 18, none, .call 56 [(.t 16), (.t 17)]⟩,
  ⟨some 15, none, .mv (.t 18)⟩,
  ⟨some 19, none, .ext (.t 15) 0⟩,
  ⟨some 20, none, .ext (.t 15) 1⟩,
  ⟨some 8, none, .mv (.t 19)⟩,
  ⟨some 9, none, .mv (.t 20)⟩])
 (.seq (.seq (.reg [⟨some 21, none, .mv (.t 9)⟩,
  ⟨some 22, none, .bini .neq (.t 21) (.c (.int .i64 0))⟩])
 (.cond (.t 22)
 (.seq (.reg [⟨some 23, none, .mv (.t 0)⟩,
  ⟨some 24, none, .mv (.t 9)⟩,
  ⟨some 6, none, .mv (.t 23)⟩,
  ⟨some 7, none, .mv (.t 24)⟩])
 .ret)
 .skip))
 (.seq (.seq (.reg [⟨some 25, none, .mv (.t 8)⟩,
  ⟨some 26, none, .bini .eql (.t 25) (.c (.int .i64 0))⟩])
 (.cond (.t 26)
 (.seq (.reg [⟨some 27, none, .mv (.t 0)⟩,
  ⟨some 6, none, .mv (.t 27)⟩,
  ⟨some 7, none, .mv (.c (.int .i64 4))⟩])
 .ret)
 .skip))
 (.seq (.reg [⟨some 29, none, .mv (.t 0)⟩,
  ⟨some 30, none, .mv (.t 2)⟩,
  ⟨some 31, none, .call 46 [(.t 29), (.t 30)]⟩,
  ⟨some 28, none, .mv (.t 31)⟩,
  ⟨some 32, none, .ext (.t 28) 0⟩,
  ⟨some 33, none, .ext (.t 28) 1⟩,
  ⟨some 34, none, .ext (.t 28) 2⟩,
  ⟨some 10, none, .mv (.t 32)⟩,
  ⟨some 11, none, .mv (.t 33)⟩,
  ⟨some 9, none, .mv (.t 34)⟩])
 (.seq (.seq (.reg [⟨some 35, none, .mv (.t 9)⟩,
  ⟨some 36, none, .bini .neq (.t 35) (.c (.int .i64 0))⟩])
 (.cond (.t 36)
 (.seq (.reg [⟨some 37, none, .mv (.t 0)⟩,
  ⟨some 38, none, .mv (.t 9)⟩,
  ⟨some 6, none, .mv (.t 37)⟩,
  ⟨some 7, none, .mv (.t 38)⟩])
 .ret)
 .skip))
 (.seq (.reg [⟨some 40, none, .mv (.t 0)⟩,
  ⟨some 41, none, .mv (.t 10)⟩,
  ⟨some 42, none, .mv (.t 11)⟩,
  ⟨some 43, none, .call 47 [(.t 40), (.t 41), (.t 42)]⟩,
  ⟨some 39, none, .mv (.t 43)⟩,
  ⟨some 44, none, .ext (.t 39) 0⟩,
  ⟨some 45, none, .ext (.t 39) 1⟩,
  ⟨some 12, none, .mv (.t 44)⟩,
  ⟨some 13, none, .mv (.t 45)⟩])
 (.seq (.seq (.reg [⟨some 46, none, .mv (.t 13)⟩,
  ⟨some 47, none, .mv (.t 46)⟩,
  ⟨some 48, (some (47, true)), .mv (.t 12)⟩,
  ⟨some 49, (some (47, true)), .mv (.t 8)⟩,
  ⟨some 50, (some (47, true)), .bini .eql (.t 48) (.t 49)⟩,
  ⟨some 51, none, .pick (.t 47) (.t 50) (.c (.bool false))⟩])
 (.cond (.t 51)
 (.seq (.reg [⟨some 52, none, .mv (.t 0)⟩,
  ⟨some 6, none, .mv (.t 52)⟩,
  ⟨some 7, none, .mv (.c (.int .i64 0))⟩])
 .ret)
 .skip))
 (.seq (.seq (.reg [⟨some 53, none, .mv (.t 13)⟩])
 (.cond (.t 53)
 (.seq (.reg [⟨some 54, none, .mv (.t 0)⟩,
  ⟨some 6, none, .mv (.t 54)⟩,
  ⟨some 7, none, .mv (.c (.int .i64 3))⟩])
 .ret)
 .skip))
 (.seq (.seq (.reg [⟨some 55, none, .mv (.t 0)⟩,
  ⟨some 56, none, .mv (.t 10)⟩,
  ⟨some 57, none, .mv (.t 8)⟩,
  ⟨some 58, none, .call 72 [(.t 55), (.t 56), (.t 57)]⟩])
 (.cond (.t 58)
 (.seq (.reg [⟨some 59, none, .mv (.t 0)⟩,
  ⟨some 6, none, .mv (.t 59)⟩,
  ⟨some 7, none, .mv (.c (.int .i64 7))⟩])
 .ret)
 .skip))
 (.seq (.reg [⟨some 60, none, .mv (.t 0)⟩,
  ⟨some 61, none, .mv (.t 8)⟩,
  ⟨some 62, none, .iaddr 5 (.t 60) (.t 61)⟩,
  ⟨some 63, none, .load true 5 (.t 62)⟩,
  ⟨some 14, none, .alloc [.int .i64 0, .int .i64 0, .str [], .str [], .int .i64 0]⟩,
  ⟨none, none, .store 5 (.t 14) (.t 63)⟩])
 (.seq (.reg [⟨some 64, none, .mv (.t 10)⟩,
  ⟨some 65, none, .mv (.t 11)⟩,
  ⟨some 66, none, .faddr 1 (.t 14)⟩,
  ⟨none, none, .store 1 (.t 66) (.t 64)⟩,
  ⟨some 67, none, .faddr 2 (.t 14)⟩,
  ⟨none, none, .store 1 (.t 67) (.t 65)⟩])
 (.seq (.reg [⟨some 68, none, .mv (.t 0)⟩,
  ⟨some 69, none, .mv (.t 8)⟩,
  ⟨some 70, none, .load true 5 (.t 14)⟩,
  ⟨some 71, none, .call 49 [(.t 68), (.t 69), (.t 70)]⟩,
  ⟨some 6, none, .mv (.t 71)⟩,
  ⟨some 7, none, .mv (.c (.int .i64 0))⟩])
 .ret)))))))))))))
theorem d35 : FnD Try.prog 35 3 69 [.tmp 6, .tmp 7] c35 := ⟨Try.f35, _, Try.func35, by kernel_rfl, rfl, rfl, by kernel_rfl, by kernel_rfl⟩

/-- palimp/palimpref11.Cut -/
def c36 : ACode :=
 (.seq (.reg [⟨some 6, none, .mv (.c (.emp))⟩,
  ⟨some 7, none, .mv (.c (.int .i64 0))⟩])
 (.seq (.reg [⟨some 12, none, .mv (.t 0)⟩,
  ⟨some 13, none, .mv (.t 1)⟩,
  ⟨some 14, none, .call 50 [(.t 12), (.t 13)]⟩,
  ⟨some 11, none, .mv (.t 14)⟩,
  ⟨some 15, none, .ext (.t 11) 0⟩,
  ⟨some 16, none, .ext (.t 11) 1⟩,
  ⟨some 8, none, .mv (.t 15)⟩,
  ⟨some 9, none, .mv (.t 16)⟩])
 (.seq (.seq (.reg [⟨some 17, none, .mv (.t 9)⟩,
  ⟨some 18, none, .bini .neq (.t 17) (.c (.int .i64 0))⟩])
 (.cond (.t 18)
 (.seq (.reg [⟨some 19, none, .mv (.t 0)⟩,
  ⟨some 20, none, .mv (.t 9)⟩,
  ⟨some 6, none, .mv (.t 19)⟩,
  ⟨some 7, none, .mv (.t 20)⟩])
 .ret)
 .skip))
 (.seq (.seq (.reg [⟨some 21, none, .mv (.t 2)⟩,
  ⟨some 22, none, .bini .lss (.t 21) (.c (.int .i64 0))⟩])
 (.cond (.t 22)
 (.seq (.reg [⟨some 23, none, .mv (.t 0)⟩,
  ⟨some 6, none, .mv (.t 23)⟩,
  ⟨some 7, none, .mv (.c (.int .i64 1))⟩])
 .ret)
 .skip))
 (.seq (.seq (.reg [⟨some 24, none, .mv (.t 2)⟩,
  ⟨some 25, none, .bini .gtr (.t 24) (.c (.int .i64 128))⟩])
 (.cond (.t 25)
 (.seq (.reg [⟨some 26, none, .mv (.t 0)⟩,
  ⟨some 6, none, .mv (.t 26)⟩,
  ⟨some 7, none, .mv (.c (.int .i64 8))⟩])
 .ret)
 .skip))
 (.seq (.reg [⟨some 27, none, .mv (.t 0)⟩,
  ⟨some 28, none, .mv (.t 8)⟩,
  ⟨some 29, none, .iaddr 5 (.t 27) (.t 28)⟩,
  ⟨some 30, none, .load true 5 (.t 29)⟩,
  ⟨some 10, none, .alloc [.int .i64 0, .int .i64 0, .str [], .str [], .int .i64 0]⟩,
  ⟨none, none, .store 5 (.t 10) (.t 30)⟩])
 (.seq (.reg [⟨some 31, none, .faddr 3 (.t 10)⟩,
  ⟨some 32, none, .load false 1 (.t 31)⟩,
  ⟨some 33, none, .mv (.t 2)⟩,
  ⟨some 34, none, .call 51 [(.t 32), (.t 33)]⟩,
  ⟨some 35, none, .faddr 3 (.t 10)⟩,
  ⟨none, none, .store 1 (.t 35) (.t 34)⟩])
 (.seq (.reg [⟨some 36, none, .mv (.t 0)⟩,
  ⟨some 37, none, .mv (.t 8)⟩,
  ⟨some 38, none, .load true 5 (.t 10)⟩,
  ⟨some 39, none, .call 49 [(.t 36), (.t 37), (.t 38)]⟩,
  ⟨some 6, none, .mv (.t 39)⟩,
  ⟨some 7, none, .mv (.c (.int .i64 0))⟩])
 .ret))))))))
theorem d36 : FnD Try.prog 36 3 37 [.tmp 6, .tmp 7] c36 := ⟨Try.f36, _, Try.func36, by kernel_rfl, rfl, rfl, by kernel_rfl, by kernel_rfl⟩

/-- (*palimp/palimpmade.Picks).Path -/
def c37 : ACode :=
 (.seq (.reg [⟨some 2, none, .mv (.c (.str []))⟩])
 (.seq (.reg [⟨some 3, none, .bslice 1 15 [.str []] [(0, (.c (.str [97]))), (1, (.c (.str [98]))), (2, (.c (.str [99]))), (3, (.c (.str [97, 47, 98]))), (4, (.c (.str [97, 47, 99]))), (5, (.c (.str [98, 47, 97]))), (6, (.c (.str [97, 47, 98, 47, 99]))), (7, (.c (.str [100]))), (8, (.c (.str [99, 47, 100]))), (9, (.c (.str []))), (10, (.c (.str [47, 97]))), (11, (.c (.str [97, 47, 47, 98]))), (12, (.c (.str [116, 111, 111, 108, 111, 110, 103, 110, 97, 109, 101]))), (13, (.c (.str [65]))), (14, (.c (.str [46, 46])))]⟩,
  ⟨some 4, none, .mv (.t 0)⟩,
  ⟨some 5, none, .call 24 [(.t 4), (.c (.int .i64 15))]⟩,
  ⟨some 6, none, .iaddr 1 (.t 3) (.t 5)⟩,
  ⟨some 7, none, .load false 1 (.t 6)⟩,
  ⟨some 2, none, .mv (.t 7)⟩])
 .ret))
theorem d37 : FnD Try.prog 37 1 7 [.tmp 2] c37 := ⟨Try.f37, _, Try.func37, by kernel_rfl, rfl, rfl, by kernel_rfl, by kernel_rfl⟩

/-- (*palimp/palimpmade.Picks).Text -/
def c38 : ACode :=
 (.seq (.reg [⟨some 2, none, .mv (.c (.str []))⟩])
 (.seq (.reg [⟨some 7, none, .bslice 1 8 [.int .i64 0] [(0, (.c (.int .i64 0))), (1, (.c (.int .i64 1))), (2, (.c (.int .i64 3))), (3, (.c (.int .i64 17))), (4, (.c (.int .i64 32))), (5, (.c (.int .i64 33))), (6, (.c (.int .i64 64))), (7, (.c (.int .i64 129)))]⟩,
  ⟨some 8, none, .mv (.t 0)⟩,
  ⟨some 9, none, .call 24 [(.t 8), (.c (.int .i64 8))]⟩,
  ⟨some 10, none, .iaddr 1 (.t 7) (.t 9)⟩,
  ⟨some 11, none, .load false 1 (.t 10)⟩,
  ⟨some 3, none, .mv (.t 11)⟩])
 (.seq (.reg [⟨some 12, none, .mv (.t 0)⟩,
  ⟨some 13, none, .call 24 [(.t 12), (.c (.int .i64 4))]⟩,
  ⟨some 14, none, .bini .mul (.t 13) (.c (.int .i64 40))⟩,
  ⟨some 15, none, .convi .u8 (.t 14)⟩,
  ⟨some 4, none, .mv (.t 15)⟩])
 (.seq (.reg [⟨some 16, none, .mv (.t 3)⟩,
  ⟨some 17, none, .mksl 1 1 [.int .u8 0] (.t 16) (.t 16)⟩,
  ⟨some 5, none, .mv (.t 17)⟩])
 (.seq (.seq (.reg [⟨some 6, none, .mv (.c (.int .i64 0))⟩])
 (.block 0
 (.loop
 (.seq (.seq (.reg [⟨some 18, none, .mv (.t 6)⟩,
  ⟨some 19, none, .mv (.t 3)⟩,
  ⟨some 20, none, .bini .lss (.t 18) (.t 19)⟩])
 (.cond (.t 20)
 .skip
 (.exit 0)))
 (.seq (.block 1
 (.seq (.reg [⟨some 23, none, .mv (.t 4)⟩,
  ⟨some 24, none, .bini .gtr (.t 23) (.c (.int .u8 0))⟩])
 (.cond (.t 24)
 (.reg [⟨some 25, none, .mv (.t 5)⟩,
  ⟨some 26, none, .mv (.t 6)⟩,
  ⟨some 27, none, .mv (.t 4)⟩,
  ⟨some 28, none, .mv (.t 6)⟩,
  ⟨some 29, none, .bini .rem (.t 28) (.c (.int .i64 5))⟩,
  ⟨some 30, none, .convi .u8 (.t 29)⟩,
  ⟨some 31, none, .bini .add (.t 27) (.t 30)⟩,
  ⟨some 32, none, .iaddr 1 (.t 25) (.t 26)⟩,
  ⟨none, none, .store 1 (.t 32) (.t 31)⟩])
 .skip)))
 (.reg [⟨some 21, none, .mv (.t 6)⟩,
  ⟨some 22, none, .bini .add (.t 21) (.c (.int .i64 1))⟩,
  ⟨some 6, none, .mv (.t 22)⟩]))))))
 (.seq (.reg [⟨some 33, none, .mv (.t 5)⟩,
  ⟨some 34, none, .convbs (.t 33)⟩,
  ⟨some 2, none, .mv (.t 34)⟩])
 .ret))))))
theorem d38 : FnD Try.prog 38 1 34 [.tmp 2] c38 := ⟨Try.f38, _, Try.func38, by kernel_rfl, rfl, rfl, by kernel_rfl, by kernel_rfl⟩

end Go.Proofs.Ytemjlopoffjmpaa.Abs
