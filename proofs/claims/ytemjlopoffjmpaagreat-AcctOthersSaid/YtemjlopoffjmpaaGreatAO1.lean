/-
  Part 1 of the proof: no condition. (Parts of the abstract layer, of the program's functions in its form, and of their contracts.)
-/
import Derived.Test.YtemjlopoffjmpaaGreatAOAbs22
import Derived.Test.YtemjlopoffjmpaaGreatProg
import Derived.KernelRfl
import Derived.Test.YtemjlopoffjmpaaGreatAOWk
import Derived.Test.YtemjlopoffjmpaaGreatAOAbs27
import Derived.IntWalk
import Derived.Shelf.Strings.Builder1
import Derived.Shelf.Strings.Builder2
import Derived.Shelf.Small.Strs
import Derived.Shelf.Strings.BuilderF
import Derived.Shelf.Strings.Search1
import Derived.Shelf.Strings.Prefix
import Derived.Shelf.Bits.Mul64
import Derived.Shelf.Strings.Repeat
import Derived.Test.YtemjlopoffjmpaaGreatAOAbs28
import Derived.Test.YtemjlopoffjmpaaGreatAOAbs29
import Derived.Test.YtemjlopoffjmpaaGreatAOWk3
import Derived.Test.YtemjlopoffjmpaaGreatAOAbs38
namespace Go.Proofs.YtemjlopoffjmpaaGreat.Abs
open Go
def c3 : ACode :=
 (.seq (.reg [⟨some 8, none, .mv (.c (.bool false))⟩])
 (.seq (.seq (.reg [⟨some 18, none, .call 12 []⟩,
  ⟨some 19, none, .un .not (.t 18)⟩])
 (.cond (.t 19)
 (.seq (.reg [⟨some 8, none, .mv (.c (.bool false))⟩])
 .ret)
 .skip))
 (.seq (.seq (.reg [⟨some 20, none, .mv (.t 0)⟩,
  ⟨some 21, none, .len false (.t 20)⟩,
  ⟨some 22, none, .bini .gtr (.t 21) (.c (.int .i64 80))⟩,
  ⟨some 23, none, .mv (.t 22)⟩,
  ⟨some 24, (some (23, false)), .mv (.t 1)⟩,
  ⟨some 25, (some (23, false)), .len false (.t 24)⟩,
  ⟨some 26, (some (23, false)), .bini .gtr (.t 25) (.c (.int .i64 60))⟩,
  ⟨some 27, none, .pick (.t 23) (.c (.bool true)) (.t 26)⟩])
 (.cond (.t 27)
 (.seq (.reg [⟨some 8, none, .mv (.c (.bool true))⟩])
 .ret)
 .skip))
 (.seq (.reg [⟨some 28, none, .mv (.t 0)⟩,
  ⟨some 29, none, .call 13 [(.t 28)]⟩,
  ⟨some 30, none, .call 14 [(.t 29), (.c (.int .i64 25))]⟩,
  ⟨some 9, none, .mv (.t 30)⟩])
 (.seq (.reg [⟨some 31, none, .mv (.t 1)⟩,
  ⟨some 32, none, .call 13 [(.t 31)]⟩,
  ⟨some 33, none, .call 15 [(.t 32), (.c (.int .i64 25))]⟩,
  ⟨some 10, none, .mv (.t 33)⟩])
 (.seq (.reg [⟨some 34, none, .bslice 5 0 [.int .i64 0, .int .i64 0, .int .i64 0, .int .i64 0, .emp] []⟩,
  ⟨some 35, none, .mv (.t 9)⟩,
  ⟨some 36, none, .append 5 56 [.int .i64 0, .int .i64 0, .int .i64 0, .int .i64 0, .emp] (.t 34) (.t 35)⟩,
  ⟨some 11, none, .mv (.t 36)⟩])
 (.seq (.seq (.reg [⟨some 37, none, .mv (.t 11)⟩,
  ⟨some 38, none, .iaddr 5 (.t 37) (.c (.int .i64 0))⟩,
  ⟨some 39, none, .faddr 1 (.t 38)⟩,
  ⟨some 40, none, .load false 1 (.t 39)⟩,
  ⟨some 41, none, .bini .eql (.t 40) (.c (.int .i64 1))⟩])
 (.cond (.t 41)
 (.reg [⟨some 42, none, .mv (.t 11)⟩,
  ⟨some 43, none, .mv (.t 3)⟩,
  ⟨some 44, none, .bini .rem (.t 43) (.c (.int .u8 20))⟩,
  ⟨some 45, none, .convi .i64 (.t 44)⟩,
  ⟨some 46, none, .iaddr 5 (.t 42) (.c (.int .i64 0))⟩,
  ⟨some 47, none, .faddr 3 (.t 46)⟩,
  ⟨none, none, .store 1 (.t 47) (.t 45)⟩])
 .skip))
 (.seq (.reg [⟨some 48, none, .mv (.t 2)⟩,
  ⟨some 49, none, .mv (.t 11)⟩,
  ⟨some 50, none, .iaddr 5 (.t 49) (.c (.int .i64 0))⟩,
  ⟨some 51, none, .faddr 0 (.t 50)⟩,
  ⟨some 52, none, .load false 1 (.t 51)⟩,
  ⟨some 53, none, .mv (.t 3)⟩,
  ⟨some 54, none, .bini .rem (.t 53) (.c (.int .u8 9))⟩,
  ⟨some 55, none, .convi .i64 (.t 54)⟩,
  ⟨some 56, none, .bini .add (.c (.int .i64 1)) (.t 55)⟩,
  ⟨some 57, none, .bslice 1 4 [.int .i64 0] [(0, (.t 48)), (1, (.c (.int .i64 1))), (2, (.t 52)), (3, (.t 56))]⟩,
  ⟨some 12, none, .mv (.t 57)⟩])
 (.seq (.seq (.reg [⟨some 13, none, .mv (.c (.int .i64 0))⟩])
 (.block 0
 (.loop
 (.seq (.seq (.reg [⟨some 58, none, .mv (.t 13)⟩,
  ⟨some 59, none, .bini .lss (.t 58) (.c (.int .i64 4))⟩])
 (.cond (.t 59)
 .skip
 (.exit 0)))
 (.seq (.block 1
 (.seq (.reg [⟨some 63, none, .mv (.t 11)⟩,
  ⟨some 64, none, .mv (.t 12)⟩,
  ⟨some 65, none, .mv (.t 13)⟩,
  ⟨some 66, none, .iaddr 1 (.t 64) (.t 65)⟩,
  ⟨some 67, none, .load false 1 (.t 66)⟩,
  ⟨some 68, none, .mv (.t 10)⟩,
  ⟨some 69, none, .call 16 [(.t 63), (.t 67), (.t 68)]⟩,
  ⟨some 62, none, .mv (.t 69)⟩,
  ⟨some 70, none, .ext (.t 62) 0⟩,
  ⟨some 71, none, .ext (.t 62) 1⟩,
  ⟨some 14, none, .mv (.t 70)⟩,
  ⟨some 15, none, .mv (.t 71)⟩])
 (.seq (.reg [⟨some 73, none, .mv (.t 11)⟩,
  ⟨some 74, none, .mv (.t 12)⟩,
  ⟨some 75, none, .mv (.t 13)⟩,
  ⟨some 76, none, .iaddr 1 (.t 74) (.t 75)⟩,
  ⟨some 77, none, .load false 1 (.t 76)⟩,
  ⟨some 78, none, .mv (.t 10)⟩,
  ⟨some 79, none, .call 17 [(.t 73), (.t 77), (.t 78)]⟩,
  ⟨some 72, none, .mv (.t 79)⟩,
  ⟨some 80, none, .ext (.t 72) 0⟩,
  ⟨some 81, none, .ext (.t 72) 1⟩,
  ⟨some 16, none, .mv (.t 80)⟩,
  ⟨some 17, none, .mv (.t 81)⟩])
 (.seq (.reg [⟨some 82, none, .mv (.t 15)⟩,
  ⟨some 83, none, .mv (.t 17)⟩,
  ⟨some 84, none, .bini .neq (.t 82) (.t 83)⟩,
  ⟨some 85, none, .mv (.t 84)⟩,
  ⟨some 86, (some (85, false)), .mv (.t 14)⟩,
  ⟨some 87, (some (85, false)), .mv (.t 16)⟩,
  ⟨some 88, (some (85, false)), .call 18 [(.t 86), (.t 87)]⟩,
  ⟨some 89, (some (85, false)), .un .not (.t 88)⟩,
  ⟨some 90, none, .pick (.t 85) (.c (.bool true)) (.t 89)⟩])
 (.cond (.t 90)
 (.seq (.reg [⟨some 8, none, .mv (.c (.bool false))⟩])
 .ret)
 .skip)))))
 (.reg [⟨some 60, none, .mv (.t 13)⟩,
  ⟨some 61, none, .bini .add (.t 60) (.c (.int .i64 1))⟩,
  ⟨some 13, none, .mv (.t 61)⟩]))))))
 (.seq (.reg [⟨some 91, none, .mv (.t 10)⟩,
  ⟨some 92, none, .call 19 [(.t 91)]⟩,
  ⟨some 93, none, .mv (.t 10)⟩,
  ⟨some 94, none, .call 20 [(.t 93)]⟩,
  ⟨some 95, none, .bini .eql (.t 92) (.t 94)⟩,
  ⟨some 96, none, .mv (.t 95)⟩,
  ⟨some 97, (some (96, true)), .mv (.t 9)⟩,
  ⟨some 98, (some (96, true)), .call 21 [(.t 97)]⟩,
  ⟨some 99, (some (96, true)), .mv (.t 9)⟩,
  ⟨some 100, (some (96, true)), .call 22 [(.t 99)]⟩,
  ⟨some 101, (some (96, true)), .bini .eql (.t 98) (.t 100)⟩,
  ⟨some 102, none, .pick (.t 96) (.t 101) (.c (.bool false))⟩,
  ⟨some 103, none, .mv (.t 102)⟩,
  ⟨some 104, (some (103, true)), .call 21 [(.c (.emp))]⟩,
  ⟨some 105, (some (103, true)), .bini .eql (.t 104) (.c (.int .i64 3))⟩,
  ⟨some 106, none, .pick (.t 103) (.t 105) (.c (.bool false))⟩,
  ⟨some 8, none, .mv (.t 106)⟩])
 .ret))))))))))
theorem d3 : FnD Tryz.prog 3 4 103 [.tmp 8] c3 := ⟨Tryz.f3, _, Tryz.func3, by kernel_rfl, rfl, rfl, by kernel_rfl, by kernel_rfl⟩
end Go.Proofs.YtemjlopoffjmpaaGreat.Abs
namespace Go.Proofs.YtemjlopoffjmpaaGreat.Abs
open Go
def c4 : ACode :=
 (.seq (.reg [⟨some 8, none, .mv (.c (.bool false))⟩])
 (.seq (.seq (.reg [⟨some 16, none, .call 12 []⟩,
  ⟨some 17, none, .un .not (.t 16)⟩])
 (.cond (.t 17)
 (.seq (.reg [⟨some 8, none, .mv (.c (.bool false))⟩])
 .ret)
 .skip))
 (.seq (.seq (.reg [⟨some 18, none, .mv (.t 0)⟩,
  ⟨some 19, none, .len false (.t 18)⟩,
  ⟨some 20, none, .bini .gtr (.t 19) (.c (.int .i64 80))⟩,
  ⟨some 21, none, .mv (.t 20)⟩,
  ⟨some 22, (some (21, false)), .mv (.t 1)⟩,
  ⟨some 23, (some (21, false)), .len false (.t 22)⟩,
  ⟨some 24, (some (21, false)), .bini .gtr (.t 23) (.c (.int .i64 60))⟩,
  ⟨some 25, none, .pick (.t 21) (.c (.bool true)) (.t 24)⟩])
 (.cond (.t 25)
 (.seq (.reg [⟨some 8, none, .mv (.c (.bool true))⟩])
 .ret)
 .skip))
 (.seq (.reg [⟨some 26, none, .bslice 5 0 [.int .i64 0, .int .i64 0, .int .i64 0, .int .i64 0, .emp] []⟩,
  ⟨some 27, none, .mv (.t 0)⟩,
  ⟨some 28, none, .call 13 [(.t 27)]⟩,
  ⟨some 29, none, .call 14 [(.t 28), (.c (.int .i64 25))]⟩,
  ⟨some 30, none, .append 5 56 [.int .i64 0, .int .i64 0, .int .i64 0, .int .i64 0, .emp] (.t 26) (.t 29)⟩,
  ⟨some 9, none, .mv (.t 30)⟩])
 (.seq (.reg [⟨some 31, none, .mv (.t 9)⟩,
  ⟨some 32, none, .mv (.t 2)⟩,
  ⟨some 33, none, .convi .i64 (.t 32)⟩,
  ⟨some 34, none, .mv (.t 9)⟩,
  ⟨some 35, none, .len false (.t 34)⟩,
  ⟨some 36, none, .bini .rem (.t 33) (.t 35)⟩,
  ⟨some 37, none, .iaddr 5 (.t 31) (.t 36)⟩,
  ⟨some 38, none, .load true 5 (.t 37)⟩,
  ⟨some 10, none, .alloc [.int .i64 0, .int .i64 0, .int .i64 0, .int .i64 0, .emp]⟩,
  ⟨none, none, .store 5 (.t 10) (.t 38)⟩])
 (.seq (.seq (.reg [⟨some 39, none, .faddr 1 (.t 10)⟩,
  ⟨some 40, none, .load false 1 (.t 39)⟩,
  ⟨some 41, none, .bini .eql (.t 40) (.c (.int .i64 1))⟩])
 (.cond (.t 41)
 (.seq (.reg [⟨some 42, none, .mv (.t 3)⟩,
  ⟨some 43, none, .bini .rem (.t 42) (.c (.int .u8 30))⟩,
  ⟨some 44, none, .convi .i64 (.t 43)⟩,
  ⟨some 45, none, .faddr 3 (.t 10)⟩,
  ⟨none, none, .store 1 (.t 45) (.t 44)⟩])
 (.dregE [[(0, ⟨some 46, none, .mv (.t 9)⟩),
  (1, ⟨some 47, none, .mv (.t 2)⟩),
  (2, ⟨some 48, none, .convi .i64 (.t 47)⟩),
  (3, ⟨some 49, none, .mv (.t 9)⟩),
  (4, ⟨some 50, none, .len false (.t 49)⟩),
  (5, ⟨some 51, none, .bini .rem (.t 48) (.t 50)⟩),
  (6, ⟨some 52, none, .load true 5 (.t 10)⟩)],
  [(7, ⟨some 53, none, .iaddr 5 (.t 46) (.t 51)⟩)],
  [(8, ⟨none, none, .store 5 (.t 53) (.t 52)⟩)]]
  [[], [], [1], [], [3], [1, 2, 3, 4], [], [0, 1, 2, 3, 4, 5, 6], [0, 1, 2, 3, 4, 5, 6, 7]]))
 .skip))
 (.seq (.reg [⟨some 54, none, .mv (.t 1)⟩,
  ⟨some 55, none, .call 13 [(.t 54)]⟩,
  ⟨some 56, none, .call 15 [(.t 55), (.c (.int .i64 25))]⟩,
  ⟨some 11, none, .mv (.t 56)⟩])
 (.seq (.reg [⟨some 58, none, .mv (.t 9)⟩,
  ⟨some 59, none, .faddr 0 (.t 10)⟩,
  ⟨some 60, none, .load false 1 (.t 59)⟩,
  ⟨some 61, none, .mv (.t 11)⟩,
  ⟨some 62, none, .call 16 [(.t 58), (.t 60), (.t 61)]⟩,
  ⟨some 57, none, .mv (.t 62)⟩,
  ⟨some 63, none, .ext (.t 57) 0⟩,
  ⟨some 64, none, .ext (.t 57) 1⟩,
  ⟨some 12, none, .mv (.t 63)⟩,
  ⟨some 13, none, .mv (.t 64)⟩])
 (.seq (.seq (.reg [⟨some 65, none, .mv (.t 12)⟩,
  ⟨some 66, none, .len false (.t 65)⟩,
  ⟨some 67, none, .mv (.t 9)⟩,
  ⟨some 68, none, .len false (.t 67)⟩,
  ⟨some 69, none, .bini .neq (.t 66) (.t 68)⟩,
  ⟨some 70, none, .mv (.t 69)⟩,
  ⟨some 71, (some (70, false)), .mv (.t 13)⟩,
  ⟨some 72, (some (70, false)), .bini .eql (.t 71) (.c (.int .i64 11))⟩,
  ⟨some 73, (some (70, false)), .faddr 1 (.t 10)⟩,
  ⟨some 74, (some (70, false)), .load false 1 (.t 73)⟩,
  ⟨some 75, (some (70, false)), .bini .eql (.t 74) (.c (.int .i64 2))⟩,
  ⟨some 76, (some (70, false)), .eqb true (.t 72) (.t 75)⟩,
  ⟨some 77, none, .pick (.t 70) (.c (.bool true)) (.t 76)⟩,
  ⟨some 78, none, .mv (.t 77)⟩,
  ⟨some 79, (some (78, false)), .mv (.t 13)⟩,
  ⟨some 80, (some (78, false)), .bini .neq (.t 79) (.c (.int .i64 0))⟩,
  ⟨some 81, (some (78, false)), .mv (.t 80)⟩,
  ⟨some 82, (some (81, true)), .mv (.t 12)⟩,
  ⟨some 83, (some (81, true)), .mv (.t 9)⟩,
  ⟨some 84, (some (81, true)), .call 18 [(.t 82), (.t 83)]⟩,
  ⟨some 85, (some (81, true)), .un .not (.t 84)⟩,
  ⟨some 86, (some (78, false)), .pick (.t 81) (.t 85) (.c (.bool false))⟩,
  ⟨some 87, none, .pick (.t 78) (.c (.bool true)) (.t 86)⟩])
 (.cond (.t 87)
 (.seq (.reg [⟨some 8, none, .mv (.c (.bool false))⟩])
 .ret)
 .skip))
 (.seq (.seq (.reg [⟨some 88, none, .mv (.t 13)⟩,
  ⟨some 89, none, .bini .neq (.t 88) (.c (.int .i64 0))⟩])
 (.cond (.t 89)
 (.seq (.dregE [[(0, ⟨some 90, none, .mv (.t 13)⟩)],
  [(1, ⟨some 91, none, .bini .eql (.t 90) (.c (.int .i64 11))⟩)],
  [(2, ⟨some 92, none, .mv (.t 91)⟩)],
  [(3, ⟨some 93, (some (92, false)), .mv (.t 13)⟩)],
  [(4, ⟨some 94, (some (92, false)), .bini .eql (.t 93) (.c (.int .i64 9))⟩)],
  [(5, ⟨some 95, (some (92, false)), .mv (.t 94)⟩)],
  [(6, ⟨some 96, (some (95, true)), .mv (.t 11)⟩),
  (8, ⟨some 98, (some (95, true)), .faddr 4 (.t 10)⟩),
  (9, ⟨some 99, (some (95, true)), .load false 1 (.t 98)⟩),
  (7, ⟨some 97, (some (95, true)), .call 19 [(.t 96)]⟩)],
  [(10, ⟨some 100, (some (95, true)), .call 19 [(.t 99)]⟩)],
  [(11, ⟨some 101, (some (95, true)), .bini .gtr (.t 97) (.t 100)⟩)],
  [(12, ⟨some 102, (some (92, false)), .pick (.t 95) (.t 101) (.c (.bool false))⟩)],
  [(13, ⟨some 103, (some (92, false)), .mv (.t 102)⟩)],
  [(14, ⟨some 104, (some (103, true)), .mv (.t 11)⟩),
  (16, ⟨some 106, (some (103, true)), .faddr 3 (.t 10)⟩),
  (17, ⟨some 107, (some (103, true)), .load false 1 (.t 106)⟩),
  (15, ⟨some 105, (some (103, true)), .call 19 [(.t 104)]⟩)],
  [(18, ⟨some 108, (some (103, true)), .bini .gtr (.t 105) (.t 107)⟩)],
  [(19, ⟨some 109, (some (92, false)), .pick (.t 103) (.t 108) (.c (.bool false))⟩)],
  [(20, ⟨some 110, none, .pick (.t 92) (.c (.bool true)) (.t 109)⟩)],
  [(21, ⟨some 8, none, .mv (.t 110)⟩)]]
  [[], [0], [0, 1], [0, 1, 2], [0, 1, 2, 3], [0, 1, 2, 3, 4], [0, 1, 2, 3, 4, 5], [0, 1, 2, 3, 4, 5, 6], [0, 1, 2, 3, 4, 5], [0, 1, 2, 3, 4, 5, 8], [0, 1, 2, 3, 4, 5, 6, 7, 8, 9], [0, 1, 2, 3, 4, 5, 6, 7, 8, 9, 10], [0, 1, 2, 3, 4, 5, 6, 7, 8, 9, 10, 11], [0, 1, 2, 3, 4, 5, 6, 7, 8, 9, 10, 11, 12], [0, 1, 2, 3, 4, 5, 6, 7, 8, 9, 10, 11, 12, 13], [0, 1, 2, 3, 4, 5, 6, 7, 8, 9, 10, 11, 12, 13, 14], [0, 1, 2, 3, 4, 5, 6, 7, 8, 9, 10, 11, 12, 13], [0, 1, 2, 3, 4, 5, 6, 7, 8, 9, 10, 11, 12, 13, 16], [0, 1, 2, 3, 4, 5, 6, 7, 8, 9, 10, 11, 12, 13, 14, 15, 16, 17], [0, 1, 2, 3, 4, 5, 6, 7, 8, 9, 10, 11, 12, 13, 14, 15, 16, 17, 18], [0, 1, 2, 3, 4, 5, 6, 7, 8, 9, 10, 11, 12, 13, 14, 15, 16, 17, 18, 19], [0, 1, 2, 3, 4, 5, 6, 7, 8, 9, 10, 11, 12, 13, 14, 15, 16, 17, 18, 19, 20]])
 .ret)
 .skip))
 (.seq (.seq (.reg [⟨some 14, none, .mv (.c (.int .i64 0))⟩])
 (.block 0
 (.loop
 (.seq (.seq (.reg [⟨some 111, none, .mv (.t 14)⟩,
  ⟨some 112, none, .mv (.t 9)⟩,
  ⟨some 113, none, .len false (.t 112)⟩,
  ⟨some 114, none, .bini .lss (.t 111) (.t 113)⟩])
 (.cond (.t 114)
 .skip
 (.exit 0)))
 (.seq (.block 1
 (.seq (.reg [⟨some 117, none, .mv (.t 9)⟩,
  ⟨some 118, none, .mv (.t 14)⟩,
  ⟨some 119, none, .iaddr 5 (.t 117) (.t 118)⟩,
  ⟨some 120, none, .load true 5 (.t 119)⟩,
  ⟨some 15, none, .alloc [.int .i64 0, .int .i64 0, .int .i64 0, .int .i64 0, .emp]⟩,
  ⟨none, none, .store 5 (.t 15) (.t 120)⟩])
 (.seq (.seq (.reg [⟨some 121, none, .faddr 0 (.t 15)⟩,
  ⟨some 122, none, .load false 1 (.t 121)⟩,
  ⟨some 123, none, .faddr 0 (.t 10)⟩,
  ⟨some 124, none, .load false 1 (.t 123)⟩,
  ⟨some 125, none, .bini .eql (.t 122) (.t 124)⟩])
 (.cond (.t 125)
 (.reg [⟨some 126, none, .mv (.t 11)⟩,
  ⟨some 127, none, .faddr 4 (.t 15)⟩,
  ⟨none, none, .store 1 (.t 127) (.t 126)⟩])
 .skip))
 (.seq (.dregE [[(0, ⟨some 128, none, .mv (.t 12)⟩),
  (1, ⟨some 129, none, .mv (.t 14)⟩),
  (2, ⟨some 130, none, .mv (.t 14)⟩),
  (3, ⟨some 131, none, .bini .add (.t 130) (.c (.int .i64 1))⟩),
  (4, ⟨some 132, none, .slicel 5 (.t 128) (some (.t 129)) (some (.t 131))⟩),
  (5, ⟨some 133, none, .load true 5 (.t 15)⟩),
  (6, ⟨some 134, none, .bslice 5 1 [.int .i64 0, .int .i64 0, .int .i64 0, .int .i64 0, .emp] [(0, (.t 133))]⟩)],
  [(7, ⟨some 135, none, .call 18 [(.t 132), (.t 134)]⟩)],
  [(8, ⟨some 136, none, .un .not (.t 135)⟩)]]
  [[], [], [], [2], [0, 1, 2, 3], [], [5], [0, 1, 2, 3, 4, 5, 6], [0, 1, 2, 3, 4, 5, 6, 7]])
 (.cond (.t 136)
 (.seq (.reg [⟨some 8, none, .mv (.c (.bool false))⟩])
 .ret)
 .skip)))))
 (.reg [⟨some 115, none, .mv (.t 14)⟩,
  ⟨some 116, none, .bini .add (.t 115) (.c (.int .i64 1))⟩,
  ⟨some 14, none, .mv (.t 116)⟩]))))))
 (.seq (.reg [⟨some 8, none, .mv (.c (.bool true))⟩])
 .ret))))))))))))
theorem d4 : FnD Tryz.prog 4 4 133 [.tmp 8] c4 := ⟨Tryz.f4, _, Tryz.func4, by kernel_rfl, rfl, rfl, by kernel_rfl, by kernel_rfl⟩
end Go.Proofs.YtemjlopoffjmpaaGreat.Abs
namespace Go.Proofs.YtemjlopoffjmpaaGreat.Abs
open Go
def c18 : ACode :=
 (.seq (.reg [⟨some 4, none, .mv (.c (.bool false))⟩])
 (.seq (.seq (.reg [⟨some 8, none, .mv (.t 0)⟩,
  ⟨some 9, none, .len false (.t 8)⟩,
  ⟨some 10, none, .mv (.t 1)⟩,
  ⟨some 11, none, .len false (.t 10)⟩,
  ⟨some 12, none, .bini .neq (.t 9) (.t 11)⟩])
 (.cond (.t 12)
 (.seq (.reg [⟨some 4, none, .mv (.c (.bool false))⟩])
 .ret)
 .skip))
 (.seq (.seq (.reg [⟨some 5, none, .mv (.c (.int .i64 0))⟩])
 (.block 0
 (.loop
 (.seq (.seq (.reg [⟨some 13, none, .mv (.t 5)⟩,
  ⟨some 14, none, .mv (.t 0)⟩,
  ⟨some 15, none, .len false (.t 14)⟩,
  ⟨some 16, none, .bini .lss (.t 13) (.t 15)⟩])
 (.cond (.t 16)
 .skip
 (.exit 0)))
 (.seq (.block 1
 (.seq (.dregE [[(0, ⟨some 19, none, .mv (.t 0)⟩),
  (1, ⟨some 20, none, .mv (.t 5)⟩),
  (2, ⟨some 21, none, .iaddr 5 (.t 19) (.t 20)⟩),
  (3, ⟨some 22, none, .load true 5 (.t 21)⟩),
  (4, ⟨some 23, none, .mv (.t 1)⟩),
  (5, ⟨some 24, none, .mv (.t 5)⟩),
  (6, ⟨some 25, none, .iaddr 5 (.t 23) (.t 24)⟩),
  (7, ⟨some 26, none, .load true 5 (.t 25)⟩),
  (8, ⟨some 6, none, .alloc [.int .i64 0, .int .i64 0, .int .i64 0, .int .i64 0, .emp]⟩),
  (9, ⟨some 7, none, .alloc [.int .i64 0, .int .i64 0, .int .i64 0, .int .i64 0, .emp]⟩),
  (10, ⟨none, none, .store 5 (.t 6) (.t 22)⟩)],
  [(11, ⟨none, none, .store 5 (.t 7) (.t 26)⟩)]]
  [[], [], [0, 1], [0, 1, 2], [], [], [4, 5], [4, 5, 6], [], [], [0, 1, 2, 3, 8, 9], [0, 1, 2, 3, 4, 5, 6, 7, 8, 9, 10]])
 (.seq (.reg [⟨some 27, none, .faddr 0 (.t 6)⟩,
  ⟨some 28, none, .load false 1 (.t 27)⟩,
  ⟨some 29, none, .faddr 0 (.t 7)⟩,
  ⟨some 30, none, .load false 1 (.t 29)⟩,
  ⟨some 31, none, .bini .neq (.t 28) (.t 30)⟩,
  ⟨some 32, none, .mv (.t 31)⟩,
  ⟨some 33, (some (32, false)), .faddr 1 (.t 6)⟩,
  ⟨some 34, (some (32, false)), .load false 1 (.t 33)⟩,
  ⟨some 35, (some (32, false)), .faddr 1 (.t 7)⟩,
  ⟨some 36, (some (32, false)), .load false 1 (.t 35)⟩,
  ⟨some 37, (some (32, false)), .bini .neq (.t 34) (.t 36)⟩,
  ⟨some 38, none, .pick (.t 32) (.c (.bool true)) (.t 37)⟩,
  ⟨some 39, none, .mv (.t 38)⟩,
  ⟨some 40, (some (39, false)), .faddr 2 (.t 6)⟩,
  ⟨some 41, (some (39, false)), .load false 1 (.t 40)⟩,
  ⟨some 42, (some (39, false)), .faddr 2 (.t 7)⟩,
  ⟨some 43, (some (39, false)), .load false 1 (.t 42)⟩,
  ⟨some 44, (some (39, false)), .bini .neq (.t 41) (.t 43)⟩,
  ⟨some 45, none, .pick (.t 39) (.c (.bool true)) (.t 44)⟩,
  ⟨some 46, none, .mv (.t 45)⟩,
  ⟨some 47, (some (46, false)), .faddr 3 (.t 6)⟩,
  ⟨some 48, (some (46, false)), .load false 1 (.t 47)⟩,
  ⟨some 49, (some (46, false)), .faddr 3 (.t 7)⟩,
  ⟨some 50, (some (46, false)), .load false 1 (.t 49)⟩,
  ⟨some 51, (some (46, false)), .bini .neq (.t 48) (.t 50)⟩,
  ⟨some 52, none, .pick (.t 46) (.c (.bool true)) (.t 51)⟩,
  ⟨some 53, none, .mv (.t 52)⟩,
  ⟨some 54, (some (53, false)), .faddr 4 (.t 6)⟩,
  ⟨some 55, (some (53, false)), .load false 1 (.t 54)⟩,
  ⟨some 56, (some (53, false)), .faddr 4 (.t 7)⟩,
  ⟨some 57, (some (53, false)), .load false 1 (.t 56)⟩,
  ⟨some 58, (some (53, false)), .call 28 [(.t 55), (.t 57)]⟩,
  ⟨some 59, (some (53, false)), .un .not (.t 58)⟩,
  ⟨some 60, none, .pick (.t 53) (.c (.bool true)) (.t 59)⟩])
 (.cond (.t 60)
 (.seq (.reg [⟨some 4, none, .mv (.c (.bool false))⟩])
 .ret)
 .skip))))
 (.reg [⟨some 17, none, .mv (.t 5)⟩,
  ⟨some 18, none, .bini .add (.t 17) (.c (.int .i64 1))⟩,
  ⟨some 5, none, .mv (.t 18)⟩]))))))
 (.seq (.reg [⟨some 4, none, .mv (.c (.bool true))⟩])
 .ret))))
theorem d18 : FnD Tryz.prog 18 2 59 [.tmp 4] c18 := ⟨Tryz.f18, _, Tryz.func18, by kernel_rfl, rfl, rfl, by kernel_rfl, by kernel_rfl⟩
end Go.Proofs.YtemjlopoffjmpaaGreat.Abs
namespace Go.Proofs.YtemjlopoffjmpaaGreat.Abs
open Go
def c21 : ACode :=
 (.seq (.reg [⟨some 2, none, .mv (.c (.int .i64 0))⟩])
 (.seq (.reg [⟨some 3, none, .mv (.c (.int .i64 3))⟩])
 (.seq (.seq (.reg [⟨some 6, none, .mv (.t 0)⟩,
  ⟨some 7, none, .len false (.t 6)⟩,
  ⟨some 8, none, .mv (.c (.int .i64 0))⟩])
 (.block 0
 (.loop
 (.seq (.reg [⟨some 9, none, .bini .lss (.t 8) (.t 7)⟩])
 (.seq (.cond (.t 9)
 .skip
 (.exit 0))
 (.seq (.block 1
 (.seq (.reg [⟨some 10, none, .iaddr 5 (.t 6) (.t 8)⟩,
  ⟨some 11, none, .load true 5 (.t 10)⟩,
  ⟨some 5, none, .alloc [.int .i64 0, .int .i64 0, .int .i64 0, .int .i64 0, .emp]⟩,
  ⟨none, none, .store 5 (.t 5) (.t 11)⟩])
 (.reg [⟨some 12, none, .mv (.t 3)⟩,
  ⟨some 13, none, .load true 5 (.t 5)⟩,
  ⟨some 14, none, .build [.int .i64 0, .int .i64 0, .int .i64 0, .int .i64 0, .emp] [(0, 5, (.t 13))]⟩,
  ⟨some 15, none, .call 55 [(.t 14)]⟩,
  ⟨some 16, none, .bini .add (.t 12) (.t 15)⟩,
  ⟨some 3, none, .mv (.t 16)⟩])))
 (.reg [⟨some 17, none, .bini .add (.t 8) (.c (.int .i64 1))⟩,
  ⟨some 8, none, .mv (.t 17)⟩])))))))
 (.seq (.reg [⟨some 18, none, .mv (.t 3)⟩,
  ⟨some 2, none, .mv (.t 18)⟩])
 .ret))))
theorem d21 : FnD Tryz.prog 21 1 18 [.tmp 2] c21 := ⟨Tryz.f21, _, Tryz.func21, by kernel_rfl, rfl, rfl, by kernel_rfl, by kernel_rfl⟩
end Go.Proofs.YtemjlopoffjmpaaGreat.Abs
namespace Go.Proofs.YtemjlopoffjmpaaGreat.Abs
open Go
end Go.Proofs.YtemjlopoffjmpaaGreat.Abs
namespace Go.Proofs.YtemjlopoffjmpaaGreat.Abs
open Go
def c16 : ACode :=
 (.seq (.reg [⟨some 4, none, .box (.t 1)⟩,
  ⟨some 6, none, .mv (.c (.emp))⟩,
  ⟨some 7, none, .mv (.c (.int .i64 0))⟩])
 (.seq (.reg [⟨some 14, none, .mv (.t 0)⟩,
  ⟨some 15, none, .call 48 [(.t 14)]⟩,
  ⟨some 8, none, .mv (.t 15)⟩])
 (.seq (.seq (.reg [⟨some 16, none, .mv (.t 8)⟩,
  ⟨some 17, none, .len false (.t 16)⟩,
  ⟨some 18, none, .mv (.c (.int .i64 0))⟩])
 (.block 0
 (.loop
 (.seq (.reg [⟨some 19, none, .bini .lss (.t 18) (.t 17)⟩])
 (.seq (.cond (.t 19)
 .skip
 (.exit 0))
 (.seq (.block 1
 (.seq (.reg [⟨some 20, none, .mv (.t 18)⟩,
  ⟨some 9, none, .mv (.t 20)⟩])
 (.reg [⟨some 21, none, .mv (.t 8)⟩,
  ⟨some 22, none, .mv (.t 9)⟩,
  ⟨some 23, none, .mv (.t 8)⟩,
  ⟨some 24, none, .mv (.t 9)⟩,
  ⟨some 25, none, .iaddr 5 (.t 23) (.t 24)⟩,
  ⟨some 26, none, .faddr 4 (.t 25)⟩,
  ⟨some 27, none, .load false 1 (.t 26)⟩,
  ⟨some 28, none, .call 49 [(.t 27)]⟩,
  ⟨some 29, none, .iaddr 5 (.t 21) (.t 22)⟩,
  ⟨some 30, none, .faddr 4 (.t 29)⟩,
  ⟨none, none, .store 1 (.t 30) (.t 28)⟩])))
 (.reg [⟨some 31, none, .bini .add (.t 18) (.c (.int .i64 1))⟩,
  ⟨some 18, none, .mv (.t 31)⟩])))))))
 (.seq (.reg [⟨some 33, none, .mv (.t 0)⟩,
  ⟨some 34, none, .load false 1 (.t 4)⟩,
  ⟨some 35, none, .call 27 [(.t 33), (.t 34)]⟩,
  ⟨some 32, none, .mv (.t 35)⟩,
  ⟨some 36, none, .ext (.t 32) 0⟩,
  ⟨some 37, none, .ext (.t 32) 1⟩,
  ⟨some 10, none, .alloc [.int .i64 0, .int .i64 0, .int .i64 0, .int .i64 0, .emp]⟩,
  ⟨none, none, .store 5 (.t 10) (.t 36)⟩,
  ⟨some 11, none, .mv (.t 37)⟩])
 (.seq (.seq (.reg [⟨some 38, none, .mv (.t 2)⟩,
  ⟨some 39, none, .call 19 [(.t 38)]⟩,
  ⟨some 12, none, .mv (.t 39)⟩])
 (.block 2
 (.seq (.reg [⟨some 41, none, .mv (.t 11)⟩,
  ⟨some 42, none, .un .not (.t 41)⟩,
  ⟨some 40, none, .mv (.t 42)⟩])
 (.cond (.t 40)
 (.seq (.reg [⟨some 43, none, .mv (.t 8)⟩,
  ⟨some 6, none, .mv (.t 43)⟩,
  ⟨some 7, none, .mv (.c (.int .i64 2))⟩])
 .ret)
 (.seq (.reg [⟨some 45, none, .faddr 1 (.t 10)⟩,
  ⟨some 46, none, .load false 1 (.t 45)⟩,
  ⟨some 47, none, .bini .eql (.t 46) (.c (.int .i64 2))⟩,
  ⟨some 44, none, .mv (.t 47)⟩])
 (.cond (.t 44)
 (.seq (.reg [⟨some 48, none, .mv (.t 8)⟩,
  ⟨some 6, none, .mv (.t 48)⟩,
  ⟨some 7, none, .mv (.c (.int .i64 11))⟩])
 .ret)
 (.seq (.reg [⟨some 50, none, .faddr 3 (.t 10)⟩,
  ⟨some 51, none, .load false 1 (.t 50)⟩,
  ⟨some 52, none, .bini .gtr (.t 51) (.c (.int .i64 0))⟩,
  ⟨some 53, none, .mv (.t 52)⟩,
  ⟨some 54, (some (53, true)), .mv (.t 12)⟩,
  ⟨some 55, (some (53, true)), .faddr 3 (.t 10)⟩,
  ⟨some 56, (some (53, true)), .load false 1 (.t 55)⟩,
  ⟨some 57, (some (53, true)), .bini .gtr (.t 54) (.t 56)⟩,
  ⟨some 58, none, .pick (.t 53) (.t 57) (.c (.bool false))⟩,
  ⟨some 59, none, .mv (.t 58)⟩,
  ⟨some 60, (some (59, true)), .mv (.t 12)⟩,
  ⟨some 61, (some (59, true)), .faddr 4 (.t 10)⟩,
  ⟨some 62, (some (59, true)), .load false 1 (.t 61)⟩,
  ⟨some 63, (some (59, true)), .call 19 [(.t 62)]⟩,
  ⟨some 64, (some (59, true)), .bini .gtr (.t 60) (.t 63)⟩,
  ⟨some 65, none, .pick (.t 59) (.t 64) (.c (.bool false))⟩,
  ⟨some 49, none, .mv (.t 65)⟩])
 (.cond (.t 49)
 (.seq (.reg [⟨some 66, none, .mv (.t 8)⟩,
  ⟨some 6, none, .mv (.t 66)⟩,
  ⟨some 7, none, .mv (.c (.int .i64 9))⟩])
 .ret)
 .skip))))))))
 (.seq (.reg [⟨some 67, none, .mv (.t 8)⟩,
  ⟨some 68, none, .mkfn (.func 51) [] [(.t 4)]⟩,
  ⟨some 69, none, .call 50 [(.t 67), (.t 68)]⟩,
  ⟨some 13, none, .mv (.t 69)⟩])
 (.seq (.reg [⟨some 70, none, .mv (.t 8)⟩,
  ⟨some 71, none, .mv (.t 13)⟩,
  ⟨some 72, none, .mv (.t 2)⟩,
  ⟨some 73, none, .call 49 [(.t 72)]⟩,
  ⟨some 74, none, .iaddr 5 (.t 70) (.t 71)⟩,
  ⟨some 75, none, .faddr 4 (.t 74)⟩,
  ⟨none, none, .store 1 (.t 75) (.t 73)⟩])
 (.seq (.reg [⟨some 76, none, .mv (.t 8)⟩,
  ⟨some 6, none, .mv (.t 76)⟩,
  ⟨some 7, none, .mv (.c (.int .i64 0))⟩])
 .ret))))))))
theorem d16 : FnD Tryz.prog 16 3 74 [.tmp 6, .tmp 7] c16 := ⟨Tryz.f16, _, Tryz.func16, by kernel_rfl, rfl, rfl, by kernel_rfl, by kernel_rfl⟩
end Go.Proofs.YtemjlopoffjmpaaGreat.Abs
namespace Go.Proofs.YtemjlopoffjmpaaGreat.Abs
open Go
def c50 : ACode :=
 (.seq (.reg [⟨some 4, none, .mv (.c (.int .i64 0))⟩])
 (.seq (.seq (.reg [⟨some 6, none, .mv (.t 0)⟩,
  ⟨some 7, none, .len false (.t 6)⟩,
  ⟨some 8, none, .mv (.c (.int .i64 0))⟩])
 (.block 0
 (.loop
 (.seq (.reg [⟨some 9, none, .bini .lss (.t 8) (.t 7)⟩])
 (.seq (.cond (.t 9)
 .skip
 (.exit 0))
 (.seq (.block 1
 (.seq (.reg [⟨some 10, none, .mv (.t 8)⟩,
  ⟨some 5, none, .mv (.t 10)⟩])
 (.seq (.reg [⟨some 11, none, .mv (.t 1)⟩,
  ⟨some 12, none, .mv (.t 0)⟩,
  ⟨some 13, none, .mv (.t 5)⟩,
  ⟨some 14, none, .iaddr 5 (.t 12) (.t 13)⟩,
  ⟨some 15, none, .load true 5 (.t 14)⟩,
  ⟨some 16, none, .calld (.t 11) [(.t 15)]⟩])
 (.cond (.t 16)
 (.seq (.reg [⟨some 17, none, .mv (.t 5)⟩,
  ⟨some 4, none, .mv (.t 17)⟩])
 .ret)
 .skip))))
 (.reg [⟨some 18, none, .bini .add (.t 8) (.c (.int .i64 1))⟩,
  ⟨some 8, none, .mv (.t 18)⟩])))))))
 (.seq (.reg [⟨some 4, none, .mv (.c (.int .i64 (-1)))⟩])
 .ret)))
theorem d50 : FnD Tryz.prog 50 2 17 [.tmp 4] c50 := ⟨Tryz.f50, _, Tryz.func50, by kernel_rfl, rfl, rfl, by kernel_rfl, by kernel_rfl⟩
end Go.Proofs.YtemjlopoffjmpaaGreat.Abs
namespace Go.Proofs.YtemjlopoffjmpaaGreat.Abs
open Go
def c88 : ACode :=
 (.seq (.reg [⟨some 2, none, .box (.t 0)⟩,
  ⟨some 3, none, .box (.t 1)⟩,
  ⟨some 4, none, .alloc [.emp, .emp, .int .i64 0, .int .i64 0, .bool false, .int .i64 0, .int .i64 0, .int .u32 0, .int .u32 0, .int .u32 0, .int .u32 0, .int .i64 0, .int .i64 0, .int .i64 0, .int .i64 0, .int .i64 0, .int .u32 0, .int .u32 0, .int .u32 0, .int .u32 0, .int .i64 0, .int .i64 0, .int .u32 0, .int .u32 0, .int .u32 0, .int .u32 0, .int .i64 0, .int .i64 0, .int .u32 0, .int .u32 0, .int .u32 0, .int .u32 0, .int .i64 0, .emp, .emp, .emp, .emp, .int .i64 0, .int .i64 0, .emp, .bool false]⟩,
  ⟨some 5, none, .alloc [.int .i64 0, .str [], .int .i64 0, .int .i64 0, .int .i64 0, .int .i64 0, .emp, .int .i64 0]⟩])
 (.seq (.reg [⟨some 11, none, .build [.int .i64 0, .str [], .int .i64 0, .int .i64 0, .int .i64 0, .int .i64 0, .emp, .int .i64 0] []⟩,
  ⟨some 6, none, .alloc [.int .i64 0, .str [], .int .i64 0, .int .i64 0, .int .i64 0, .int .i64 0, .emp, .int .i64 0]⟩,
  ⟨none, none, .store 8 (.t 6) (.t 11)⟩])
 (.seq (.reg [⟨some 13, none, .faddr 39 (.t 2)⟩,
  ⟨some 14, none, .load false 1 (.t 13)⟩,
  ⟨some 15, none, .faddr 1 (.t 3)⟩,
  ⟨some 16, none, .load false 1 (.t 15)⟩,
  ⟨some 17, none, .call 30 [(.t 14), (.t 16)]⟩,
  ⟨some 12, none, .mv (.t 17)⟩,
  ⟨some 18, none, .ext (.t 12) 0⟩,
  ⟨some 19, none, .ext (.t 12) 1⟩,
  ⟨some 7, none, .alloc [.int .i64 0, .int .i64 0, .int .i64 0, .int .i64 0, .emp]⟩,
  ⟨none, none, .store 5 (.t 7) (.t 18)⟩,
  ⟨some 8, none, .mv (.t 19)⟩])
 (.seq (.seq (.reg [⟨some 20, none, .mv (.t 8)⟩,
  ⟨some 21, none, .un .not (.t 20)⟩])
 (.cond (.t 21)
 (.seq (.reg [⟨some 22, none, .load true 41 (.t 2)⟩,
  ⟨some 23, none, .call 86 [(.t 22), (.c (.int .i64 2))]⟩,
  ⟨some 24, none, .ext (.t 23) 0⟩,
  ⟨some 25, none, .ext (.t 23) 1⟩,
  ⟨none, none, .store 41 (.t 4) (.t 24)⟩,
  ⟨none, none, .store 8 (.t 5) (.t 25)⟩])
 .ret)
 .skip))
 (.seq (.reg [⟨some 26, none, .faddr 4 (.t 7)⟩,
  ⟨some 27, none, .load false 1 (.t 26)⟩,
  ⟨some 9, none, .mv (.t 27)⟩,
  ⟨some 10, none, .mv (.c (.int .i64 0))⟩])
 (.seq (.seq (.reg [⟨some 28, none, .faddr 0 (.t 3)⟩,
  ⟨some 29, none, .load false 1 (.t 28)⟩,
  ⟨some 30, none, .call 87 [(.t 29)]⟩,
  ⟨some 31, none, .mv (.t 30)⟩,
  ⟨some 32, (some (31, true)), .faddr 1 (.t 7)⟩,
  ⟨some 33, (some (31, true)), .load false 1 (.t 32)⟩,
  ⟨some 34, (some (31, true)), .bini .eql (.t 33) (.c (.int .i64 2))⟩,
  ⟨some 35, none, .pick (.t 31) (.t 34) (.c (.bool false))⟩])
 (.cond (.t 35)
 (.seq (.reg [⟨some 36, none, .load true 41 (.t 2)⟩,
  ⟨some 37, none, .call 86 [(.t 36), (.c (.int .i64 11))]⟩,
  ⟨some 38, none, .ext (.t 37) 0⟩,
  ⟨some 39, none, .ext (.t 37) 1⟩,
  ⟨none, none, .store 41 (.t 4) (.t 38)⟩,
  ⟨none, none, .store 8 (.t 5) (.t 39)⟩])
 .ret)
 .skip))
 (.seq (.seq (.reg [⟨some 40, none, .faddr 0 (.t 3)⟩,
  ⟨some 41, none, .load false 1 (.t 40)⟩])
 (.block 0
 (.seq (.reg [⟨some 54, none, .bini .eql (.t 41) (.c (.int .i64 1))⟩,
  ⟨some 53, none, .mv (.t 54)⟩])
 (.cond (.t 53)
 (.reg [⟨some 56, none, .mv (.t 9)⟩,
  ⟨some 57, none, .faddr 5 (.t 3)⟩,
  ⟨some 58, none, .load false 1 (.t 57)⟩,
  ⟨some 59, none, .faddr 2 (.t 3)⟩,
  ⟨some 60, none, .load false 1 (.t 59)⟩,
  ⟨some 61, none, .call 41 [(.t 56), (.t 58), (.t 60)]⟩,
  ⟨some 55, none, .mv (.t 61)⟩,
  ⟨some 62, none, .ext (.t 55) 0⟩,
  ⟨some 63, none, .ext (.t 55) 1⟩,
  ⟨some 9, none, .mv (.t 62)⟩,
  ⟨some 10, none, .mv (.t 63)⟩])
 (.seq (.reg [⟨some 65, none, .bini .eql (.t 41) (.c (.int .i64 2))⟩,
  ⟨some 64, none, .mv (.t 65)⟩])
 (.cond (.t 64)
 (.reg [⟨some 67, none, .mv (.t 9)⟩,
  ⟨some 68, none, .faddr 5 (.t 3)⟩,
  ⟨some 69, none, .load false 1 (.t 68)⟩,
  ⟨some 70, none, .call 98 [(.t 67), (.t 69)]⟩,
  ⟨some 66, none, .mv (.t 70)⟩,
  ⟨some 71, none, .ext (.t 66) 0⟩,
  ⟨some 72, none, .ext (.t 66) 1⟩,
  ⟨some 9, none, .mv (.t 71)⟩,
  ⟨some 10, none, .mv (.t 72)⟩])
 (.seq (.reg [⟨some 74, none, .bini .eql (.t 41) (.c (.int .i64 3))⟩,
  ⟨some 73, none, .mv (.t 74)⟩])
 (.cond (.t 73)
 (.reg [⟨some 76, none, .mv (.t 9)⟩,
  ⟨some 77, none, .faddr 5 (.t 3)⟩,
  ⟨some 78, none, .load false 1 (.t 77)⟩,
  ⟨some 79, none, .faddr 6 (.t 3)⟩,
  ⟨some 80, none, .load false 1 (.t 79)⟩,
  ⟨some 81, none, .call 99 [(.t 76), (.t 78), (.t 80)]⟩,
  ⟨some 75, none, .mv (.t 81)⟩,
  ⟨some 82, none, .ext (.t 75) 0⟩,
  ⟨some 83, none, .ext (.t 75) 1⟩,
  ⟨some 9, none, .mv (.t 82)⟩,
  ⟨some 10, none, .mv (.t 83)⟩])
 (.seq (.reg [⟨some 85, none, .bini .eql (.t 41) (.c (.int .i64 4))⟩,
  ⟨some 84, none, .mv (.t 85)⟩])
 (.cond (.t 84)
 (.reg [⟨some 87, none, .mv (.t 9)⟩,
  ⟨some 88, none, .faddr 5 (.t 3)⟩,
  ⟨some 89, none, .load false 1 (.t 88)⟩,
  ⟨some 90, none, .faddr 2 (.t 3)⟩,
  ⟨some 91, none, .load false 1 (.t 90)⟩,
  ⟨some 92, none, .faddr 7 (.t 3)⟩,
  ⟨some 93, none, .load false 1 (.t 92)⟩,
  ⟨some 94, none, .call 42 [(.t 87), (.t 89), (.t 91), (.t 93)]⟩,
  ⟨some 86, none, .mv (.t 94)⟩,
  ⟨some 95, none, .ext (.t 86) 0⟩,
  ⟨some 96, none, .ext (.t 86) 1⟩,
  ⟨some 9, none, .mv (.t 95)⟩,
  ⟨some 10, none, .mv (.t 96)⟩])
 (.seq (.reg [⟨some 98, none, .bini .eql (.t 41) (.c (.int .i64 5))⟩,
  ⟨some 97, none, .mv (.t 98)⟩])
 (.cond (.t 97)
 (.reg [⟨some 100, none, .mv (.t 9)⟩,
  ⟨some 101, none, .faddr 5 (.t 3)⟩,
  ⟨some 102, none, .load false 1 (.t 101)⟩,
  ⟨some 103, none, .faddr 2 (.t 3)⟩,
  ⟨some 104, none, .load false 1 (.t 103)⟩,
  ⟨some 105, none, .call 100 [(.t 100), (.t 102), (.t 104)]⟩,
  ⟨some 99, none, .mv (.t 105)⟩,
  ⟨some 106, none, .ext (.t 99) 0⟩,
  ⟨some 107, none, .ext (.t 99) 1⟩,
  ⟨some 9, none, .mv (.t 106)⟩,
  ⟨some 10, none, .mv (.t 107)⟩])
 (.seq (.reg [⟨some 109, none, .bini .eql (.t 41) (.c (.int .i64 6))⟩,
  ⟨some 108, none, .mv (.t 109)⟩])
 (.cond (.t 108)
 (.seq (.reg [⟨some 111, none, .mv (.t 9)⟩,
  ⟨some 112, none, .faddr 5 (.t 3)⟩,
  ⟨some 113, none, .load false 1 (.t 112)⟩,
  ⟨some 114, none, .faddr 2 (.t 3)⟩,
  ⟨some 115, none, .load false 1 (.t 114)⟩,
  ⟨some 116, none, .faddr 3 (.t 3)⟩,
  ⟨some 117, none, .load false 1 (.t 116)⟩,
  ⟨some 118, none, .call 113 [(.t 111), (.t 113), (.t 115), (.t 117)]⟩,
  ⟨some 110, none, .mv (.t 118)⟩,
  ⟨some 119, none, .ext (.t 110) 0⟩,
  ⟨some 120, none, .ext (.t 110) 1⟩,
  ⟨some 121, none, .faddr 1 (.t 6)⟩,
  ⟨none, none, .store 1 (.t 121) (.t 119)⟩,
  ⟨some 122, none, .faddr 0 (.t 6)⟩,
  ⟨none, none, .store 1 (.t 122) (.t 120)⟩])
 (.seq (.dregE [[(0, ⟨some 123, none, .load true 41 (.t 2)⟩),
  (1, ⟨some 124, none, .load true 8 (.t 6)⟩),
  (2, ⟨none, none, .store 41 (.t 4) (.t 123)⟩)],
  [(3, ⟨none, none, .store 8 (.t 5) (.t 124)⟩)]]
  [[], [], [0], [0, 1, 2]])
 .ret))
 (.seq (.reg [⟨some 126, none, .bini .eql (.t 41) (.c (.int .i64 7))⟩,
  ⟨some 125, none, .mv (.t 126)⟩])
 (.cond (.t 125)
 (.seq (.reg [⟨some 128, none, .mv (.t 9)⟩,
  ⟨some 129, none, .faddr 5 (.t 3)⟩,
  ⟨some 130, none, .load false 1 (.t 129)⟩,
  ⟨some 131, none, .call 114 [(.t 128), (.t 130)]⟩,
  ⟨some 127, none, .mv (.t 131)⟩,
  ⟨some 132, none, .ext (.t 127) 0⟩,
  ⟨some 133, none, .ext (.t 127) 1⟩,
  ⟨some 134, none, .faddr 2 (.t 6)⟩,
  ⟨none, none, .store 4 (.t 134) (.t 132)⟩,
  ⟨some 135, none, .faddr 0 (.t 6)⟩,
  ⟨none, none, .store 1 (.t 135) (.t 133)⟩])
 (.seq (.dregE [[(0, ⟨some 136, none, .load true 41 (.t 2)⟩),
  (1, ⟨some 137, none, .load true 8 (.t 6)⟩),
  (2, ⟨none, none, .store 41 (.t 4) (.t 136)⟩)],
  [(3, ⟨none, none, .store 8 (.t 5) (.t 137)⟩)]]
  [[], [], [0], [0, 1, 2]])
 .ret))
 (.seq (.reg [⟨some 43, none, .mv (.t 9)⟩,
  ⟨some 44, none, .faddr 5 (.t 3)⟩,
  ⟨some 45, none, .load false 1 (.t 44)⟩,
  ⟨some 46, none, .call 115 [(.t 43), (.t 45)]⟩,
  ⟨some 42, none, .mv (.t 46)⟩,
  ⟨some 47, none, .ext (.t 42) 0⟩,
  ⟨some 48, none, .ext (.t 42) 1⟩,
  ⟨some 49, none, .faddr 6 (.t 6)⟩,
  ⟨none, none, .store 1 (.t 49) (.t 47)⟩,
  ⟨some 50, none, .faddr 0 (.t 6)⟩,
  ⟨none, none, .store 1 (.t 50) (.t 48)⟩])
 (.seq (.dregE [[(0, ⟨some 51, none, .load true 41 (.t 2)⟩),
  (1, ⟨some 52, none, .load true 8 (.t 6)⟩),
  (2, ⟨none, none, .store 41 (.t 4) (.t 51)⟩)],
  [(3, ⟨none, none, .store 8 (.t 5) (.t 52)⟩)]]
  [[], [], [0], [0, 1, 2]])
 .ret))))))))))))))))))
 (.seq (.seq (.reg [⟨some 138, none, .mv (.t 10)⟩,
  ⟨some 139, none, .bini .neq (.t 138) (.c (.int .i64 0))⟩])
 (.cond (.t 139)
 (.seq (.reg [⟨some 140, none, .load true 41 (.t 2)⟩,
  ⟨some 141, none, .mv (.t 10)⟩,
  ⟨some 142, none, .call 86 [(.t 140), (.t 141)]⟩,
  ⟨some 143, none, .ext (.t 142) 0⟩,
  ⟨some 144, none, .ext (.t 142) 1⟩,
  ⟨none, none, .store 41 (.t 4) (.t 143)⟩,
  ⟨none, none, .store 8 (.t 5) (.t 144)⟩])
 .ret)
 .skip))
 (.seq (.reg [⟨some 146, none, .faddr 39 (.t 2)⟩,
  ⟨some 147, none, .load false 1 (.t 146)⟩,
  ⟨some 148, none, .faddr 1 (.t 3)⟩,
  ⟨some 149, none, .load false 1 (.t 148)⟩,
  ⟨some 150, none, .mv (.t 9)⟩,
  ⟨some 151, none, .call 17 [(.t 147), (.t 149), (.t 150)]⟩,
  ⟨some 145, none, .mv (.t 151)⟩,
  ⟨some 152, none, .ext (.t 145) 0⟩,
  ⟨some 153, none, .ext (.t 145) 1⟩,
  ⟨some 154, none, .faddr 39 (.t 2)⟩,
  ⟨none, none, .store 1 (.t 154) (.t 152)⟩,
  ⟨some 155, none, .faddr 0 (.t 6)⟩,
  ⟨none, none, .store 1 (.t 155) (.t 153)⟩])
 (.seq (.dregE [[(0, ⟨some 156, none, .load true 41 (.t 2)⟩),
  (1, ⟨some 157, none, .load true 8 (.t 6)⟩),
  (2, ⟨none, none, .store 41 (.t 4) (.t 156)⟩)],
  [(3, ⟨none, none, .store 8 (.t 5) (.t 157)⟩)]]
  [[], [], [0], [0, 1, 2]])
 .ret))))))))))
theorem d88 : FnD Tryz.prog 88 2 156 [.cell 4 true 41, .cell 5 true 8] c88 := ⟨Tryz.f88, _, Tryz.func88, by kernel_rfl, rfl, rfl, by kernel_rfl, by kernel_rfl⟩
end Go.Proofs.YtemjlopoffjmpaaGreat.Abs
namespace Go.Proofs.YtemjlopoffjmpaaGreat.Abs
open Go
def c45 : ACode :=
 (.seq (.reg [⟨some 4, none, .alloc [.int .i64 0, .int .i64 0, .int .i64 0, .int .i64 0, .int .i64 0, .str [], .str [], .str [], .emp]⟩])
 (.seq (.reg [⟨some 6, none, .mv (.t 0)⟩,
  ⟨some 7, none, .call 44 [(.t 6), (.c (.int .i64 6))]⟩,
  ⟨some 8, none, .bini .add (.c (.int .i64 9)) (.t 7)⟩,
  ⟨some 9, none, .mv (.t 1)⟩,
  ⟨some 10, none, .build [.int .i64 0, .int .i64 0, .int .i64 0, .int .i64 0, .int .i64 0, .str [], .str [], .str [], .emp] [(0, 1, (.t 8)), (1, 1, (.t 9))]⟩,
  ⟨some 5, none, .alloc [.int .i64 0, .int .i64 0, .int .i64 0, .int .i64 0, .int .i64 0, .str [], .str [], .str [], .emp]⟩,
  ⟨none, none, .store 9 (.t 5) (.t 10)⟩])
 (.seq (.seq (.reg [⟨some 11, none, .faddr 0 (.t 5)⟩,
  ⟨some 12, none, .load false 1 (.t 11)⟩])
 (.block 0
 (.seq (.reg [⟨some 14, none, .bini .eql (.t 12) (.c (.int .i64 9))⟩,
  ⟨some 13, none, .mv (.t 14)⟩])
 (.cond (.t 13)
 (.reg [⟨some 15, none, .mv (.t 0)⟩,
  ⟨some 16, none, .call 44 [(.t 15), (.c (.int .i64 9))]⟩,
  ⟨some 17, none, .faddr 1 (.t 5)⟩,
  ⟨none, none, .store 1 (.t 17) (.c (.int .i64 0))⟩,
  ⟨some 18, none, .faddr 2 (.t 5)⟩,
  ⟨none, none, .store 1 (.t 18) (.t 16)⟩])
 (.seq (.reg [⟨some 20, none, .bini .eql (.t 12) (.c (.int .i64 13))⟩,
  ⟨some 19, none, .mv (.t 20)⟩])
 (.cond (.t 19)
 (.reg [⟨some 21, none, .mv (.t 0)⟩,
  ⟨some 22, none, .call 44 [(.t 21), (.c (.int .i64 8))]⟩,
  ⟨some 23, none, .bini .add (.c (.int .i64 1)) (.t 22)⟩,
  ⟨some 24, none, .faddr 2 (.t 5)⟩,
  ⟨none, none, .store 1 (.t 24) (.t 23)⟩])
 .skip))))))
 (.seq (.reg [⟨some 25, none, .load true 9 (.t 5)⟩,
  ⟨none, none, .store 9 (.t 4) (.t 25)⟩])
 .ret))))
theorem d45 : FnD Tryz.prog 45 2 24 [.cell 4 true 9] c45 := ⟨Tryz.f45, _, Tryz.func45, by kernel_rfl, rfl, rfl, by kernel_rfl, by kernel_rfl⟩
end Go.Proofs.YtemjlopoffjmpaaGreat.Abs
namespace Go.Proofs.YtemjlopoffjmpaaGreat.Abs
open Go
def c86 : ACode :=
 (.seq (.reg [⟨some 2, none, .box (.t 0)⟩,
  ⟨some 4, none, .alloc [.emp, .emp, .int .i64 0, .int .i64 0, .bool false, .int .i64 0, .int .i64 0, .int .u32 0, .int .u32 0, .int .u32 0, .int .u32 0, .int .i64 0, .int .i64 0, .int .i64 0, .int .i64 0, .int .i64 0, .int .u32 0, .int .u32 0, .int .u32 0, .int .u32 0, .int .i64 0, .int .i64 0, .int .u32 0, .int .u32 0, .int .u32 0, .int .u32 0, .int .i64 0, .int .i64 0, .int .u32 0, .int .u32 0, .int .u32 0, .int .u32 0, .int .i64 0, .emp, .emp, .emp, .emp, .int .i64 0, .int .i64 0, .emp, .bool false]⟩,
  ⟨some 5, none, .alloc [.int .i64 0, .str [], .int .i64 0, .int .i64 0, .int .i64 0, .int .i64 0, .emp, .int .i64 0]⟩])
 (.seq (.reg [⟨some 6, none, .load true 41 (.t 2)⟩,
  ⟨some 7, none, .mv (.t 1)⟩,
  ⟨some 8, none, .build [.int .i64 0, .str [], .int .i64 0, .int .i64 0, .int .i64 0, .int .i64 0, .emp, .int .i64 0] [(0, 1, (.t 7))]⟩,
  ⟨none, none, .store 41 (.t 4) (.t 6)⟩,
  ⟨none, none, .store 8 (.t 5) (.t 8)⟩])
 .ret))
theorem d86 : FnD Tryz.prog 86 2 7 [.cell 4 true 41, .cell 5 true 8] c86 := ⟨Tryz.f86, _, Tryz.func86, by kernel_rfl, rfl, rfl, by kernel_rfl, by kernel_rfl⟩
end Go.Proofs.YtemjlopoffjmpaaGreat.Abs
namespace Go.Proofs.YtemjlopoffjmpaaGreat.Abs
open Go
def c87 : ACode :=
 (.seq (.reg [⟨some 2, none, .mv (.c (.bool false))⟩])
 (.seq (.reg [⟨some 3, none, .mv (.t 0)⟩,
  ⟨some 4, none, .bini .neq (.t 3) (.c (.int .i64 6))⟩,
  ⟨some 5, none, .mv (.t 4)⟩,
  ⟨some 6, (some (5, true)), .mv (.t 0)⟩,
  ⟨some 7, (some (5, true)), .bini .neq (.t 6) (.c (.int .i64 7))⟩,
  ⟨some 8, none, .pick (.t 5) (.t 7) (.c (.bool false))⟩,
  ⟨some 9, none, .mv (.t 8)⟩,
  ⟨some 10, (some (9, true)), .mv (.t 0)⟩,
  ⟨some 11, (some (9, true)), .bini .neq (.t 10) (.c (.int .i64 8))⟩,
  ⟨some 12, none, .pick (.t 9) (.t 11) (.c (.bool false))⟩,
  ⟨some 13, none, .mv (.t 12)⟩,
  ⟨some 14, (some (13, true)), .mv (.t 0)⟩,
  ⟨some 15, (some (13, true)), .bini .leq (.t 14) (.c (.int .i64 17))⟩,
  ⟨some 16, none, .pick (.t 13) (.t 15) (.c (.bool false))⟩,
  ⟨some 2, none, .mv (.t 16)⟩])
 .ret))
theorem d87 : FnD Tryz.prog 87 1 16 [.tmp 2] c87 := ⟨Tryz.f87, _, Tryz.func87, by kernel_rfl, rfl, rfl, by kernel_rfl, by kernel_rfl⟩
end Go.Proofs.YtemjlopoffjmpaaGreat.Abs
namespace Go.Proofs.YtemjlopoffjmpaaGreat.Abs
open Go
def c73 : ACode :=
 (.seq (.reg [⟨some 4, none, .mv (.c (.emp))⟩,
  ⟨some 5, none, .mv (.c (.int .i64 0))⟩])
 (.seq (.reg [⟨some 15, none, .mv (.t 0)⟩,
  ⟨some 16, none, .mv (.t 1)⟩,
  ⟨some 17, none, .call 30 [(.t 15), (.t 16)]⟩,
  ⟨some 14, none, .mv (.t 17)⟩,
  ⟨some 18, none, .ext (.t 14) 0⟩,
  ⟨some 19, none, .ext (.t 14) 1⟩,
  ⟨some 6, none, .alloc [.int .i64 0, .int .i64 0, .int .i64 0, .int .i64 0, .emp]⟩,
  ⟨none, none, .store 5 (.t 6) (.t 18)⟩,
  ⟨some 7, none, .mv (.t 19)⟩])
 (.seq (.seq (.reg [⟨some 20, none, .mv (.t 7)⟩,
  ⟨some 21, none, .un .not (.t 20)⟩])
 (.cond (.t 21)
 (.seq (.reg [⟨some 22, none, .mv (.t 0)⟩,
  ⟨some 4, none, .mv (.t 22)⟩,
  ⟨some 5, none, .mv (.c (.int .i64 2))⟩])
 .ret)
 .skip))
 (.seq (.seq (.reg [⟨some 23, none, .faddr 1 (.t 6)⟩,
  ⟨some 24, none, .load false 1 (.t 23)⟩,
  ⟨some 25, none, .bini .neq (.t 24) (.c (.int .i64 1))⟩,
  ⟨some 26, none, .mv (.t 25)⟩,
  ⟨some 27, (some (26, false)), .faddr 2 (.t 6)⟩,
  ⟨some 28, (some (26, false)), .load false 1 (.t 27)⟩,
  ⟨some 29, (some (26, false)), .bini .eql (.t 28) (.c (.int .i64 0))⟩,
  ⟨some 30, none, .pick (.t 26) (.c (.bool true)) (.t 29)⟩])
 (.cond (.t 30)
 (.seq (.reg [⟨some 31, none, .mv (.t 0)⟩,
  ⟨some 4, none, .mv (.t 31)⟩,
  ⟨some 5, none, .mv (.c (.int .i64 1))⟩])
 .ret)
 .skip))
 (.seq (.reg [⟨some 33, none, .mv (.t 0)⟩,
  ⟨some 34, none, .faddr 2 (.t 6)⟩,
  ⟨some 35, none, .load false 1 (.t 34)⟩,
  ⟨some 36, none, .call 30 [(.t 33), (.t 35)]⟩,
  ⟨some 32, none, .mv (.t 36)⟩,
  ⟨some 37, none, .ext (.t 32) 0⟩,
  ⟨some 38, none, .ext (.t 32) 1⟩,
  ⟨some 8, none, .alloc [.int .i64 0, .int .i64 0, .int .i64 0, .int .i64 0, .emp]⟩,
  ⟨none, none, .store 5 (.t 8) (.t 37)⟩,
  ⟨some 9, none, .mv (.t 38)⟩])
 (.seq (.reg [⟨some 40, none, .mv (.t 0)⟩,
  ⟨some 41, none, .faddr 2 (.t 8)⟩,
  ⟨some 42, none, .load false 1 (.t 41)⟩,
  ⟨some 43, none, .call 30 [(.t 40), (.t 42)]⟩,
  ⟨some 39, none, .mv (.t 43)⟩,
  ⟨some 44, none, .ext (.t 39) 0⟩,
  ⟨some 45, none, .ext (.t 39) 1⟩,
  ⟨some 10, none, .alloc [.int .i64 0, .int .i64 0, .int .i64 0, .int .i64 0, .emp]⟩,
  ⟨none, none, .store 5 (.t 10) (.t 44)⟩,
  ⟨some 11, none, .mv (.t 45)⟩])
 (.seq (.reg [⟨some 46, none, .bslice 5 0 [.int .i64 0, .int .i64 0, .int .i64 0, .int .i64 0, .emp] []⟩,
  ⟨some 47, none, .mv (.t 0)⟩,
  ⟨some 48, none, .append 5 56 [.int .i64 0, .int .i64 0, .int .i64 0, .int .i64 0, .emp] (.t 46) (.t 47)⟩,
  ⟨some 12, none, .mv (.t 48)⟩])
 (.seq (.seq (.reg [⟨some 13, none, .mv (.c (.int .i64 0))⟩])
 (.block 0
 (.loop
 (.seq (.seq (.reg [⟨some 49, none, .mv (.t 13)⟩,
  ⟨some 50, none, .mv (.t 12)⟩,
  ⟨some 51, none, .len false (.t 50)⟩,
  ⟨some 52, none, .bini .lss (.t 49) (.t 51)⟩])
 (.cond (.t 52)
 .skip
 (.exit 0)))
 (.seq (.block 1
 (.seq (.seq (.dreg [⟨some 55, none, .mv (.t 12)⟩,
  ⟨some 56, none, .mv (.t 13)⟩,
  ⟨some 57, none, .iaddr 5 (.t 55) (.t 56)⟩,
  ⟨some 58, none, .faddr 1 (.t 57)⟩,
  ⟨some 59, none, .load false 1 (.t 58)⟩,
  ⟨some 60, none, .bini .eql (.t 59) (.c (.int .i64 2))⟩,
  ⟨some 61, none, .mv (.t 60)⟩,
  ⟨some 62, (some (61, true)), .mv (.t 12)⟩,
  ⟨some 63, (some (61, true)), .mv (.t 13)⟩,
  ⟨some 64, (some (61, true)), .iaddr 5 (.t 62) (.t 63)⟩,
  ⟨some 65, (some (61, true)), .faddr 2 (.t 64)⟩,
  ⟨some 66, (some (61, true)), .load false 1 (.t 65)⟩,
  ⟨some 67, (some (61, true)), .faddr 0 (.t 10)⟩,
  ⟨some 68, (some (61, true)), .load false 1 (.t 67)⟩,
  ⟨some 69, (some (61, true)), .bini .eql (.t 66) (.t 68)⟩,
  ⟨some 70, none, .pick (.t 61) (.t 69) (.c (.bool false))⟩,
  ⟨some 71, none, .mv (.t 70)⟩,
  ⟨some 72, (some (71, true)), .mv (.t 12)⟩,
  ⟨some 73, (some (71, true)), .mv (.t 13)⟩,
  ⟨some 74, (some (71, true)), .iaddr 5 (.t 72) (.t 73)⟩,
  ⟨some 75, (some (71, true)), .faddr 0 (.t 74)⟩,
  ⟨some 76, (some (71, true)), .load false 1 (.t 75)⟩,
  ⟨some 77, (some (71, true)), .faddr 0 (.t 8)⟩,
  ⟨some 78, (some (71, true)), .load false 1 (.t 77)⟩,
  ⟨some 79, (some (71, true)), .bini .leq (.t 76) (.t 78)⟩,
  ⟨some 80, none, .pick (.t 71) (.t 79) (.c (.bool false))⟩])
 (.cond (.t 80)
 (.reg [⟨some 81, none, .mv (.t 12)⟩,
  ⟨some 82, none, .mv (.t 13)⟩,
  ⟨some 83, none, .mv (.t 1)⟩,
  ⟨some 84, none, .iaddr 5 (.t 81) (.t 82)⟩,
  ⟨some 85, none, .faddr 2 (.t 84)⟩,
  ⟨none, none, .store 1 (.t 85) (.t 83)⟩])
 .skip))
 (.seq (.seq (.reg [⟨some 86, none, .mv (.t 12)⟩,
  ⟨some 87, none, .mv (.t 13)⟩,
  ⟨some 88, none, .iaddr 5 (.t 86) (.t 87)⟩,
  ⟨some 89, none, .faddr 0 (.t 88)⟩,
  ⟨some 90, none, .load false 1 (.t 89)⟩,
  ⟨some 91, none, .mv (.t 1)⟩,
  ⟨some 92, none, .bini .eql (.t 90) (.t 91)⟩])
 (.cond (.t 92)
 (.reg [⟨some 93, none, .mv (.t 12)⟩,
  ⟨some 94, none, .mv (.t 13)⟩,
  ⟨some 95, none, .faddr 2 (.t 10)⟩,
  ⟨some 96, none, .load false 1 (.t 95)⟩,
  ⟨some 97, none, .iaddr 5 (.t 93) (.t 94)⟩,
  ⟨some 98, none, .faddr 2 (.t 97)⟩,
  ⟨none, none, .store 1 (.t 98) (.t 96)⟩])
 .skip))
 (.seq (.dreg [⟨some 99, none, .mv (.t 12)⟩,
  ⟨some 100, none, .mv (.t 13)⟩,
  ⟨some 101, none, .iaddr 5 (.t 99) (.t 100)⟩,
  ⟨some 102, none, .faddr 0 (.t 101)⟩,
  ⟨some 103, none, .load false 1 (.t 102)⟩,
  ⟨some 104, none, .faddr 0 (.t 10)⟩,
  ⟨some 105, none, .load false 1 (.t 104)⟩,
  ⟨some 106, none, .bini .eql (.t 103) (.t 105)⟩])
 (.cond (.t 106)
 (.reg [⟨some 107, none, .mv (.t 12)⟩,
  ⟨some 108, none, .mv (.t 13)⟩,
  ⟨some 109, none, .faddr 0 (.t 8)⟩,
  ⟨some 110, none, .load false 1 (.t 109)⟩,
  ⟨some 111, none, .iaddr 5 (.t 107) (.t 108)⟩,
  ⟨some 112, none, .faddr 2 (.t 111)⟩,
  ⟨none, none, .store 1 (.t 112) (.t 110)⟩])
 .skip)))))
 (.reg [⟨some 53, none, .mv (.t 13)⟩,
  ⟨some 54, none, .bini .add (.t 53) (.c (.int .i64 1))⟩,
  ⟨some 13, none, .mv (.t 54)⟩]))))))
 (.seq (.reg [⟨some 113, none, .mv (.t 12)⟩,
  ⟨some 4, none, .mv (.t 113)⟩,
  ⟨some 5, none, .mv (.c (.int .i64 0))⟩])
 .ret)))))))))
theorem d73 : FnD Tryz.prog 73 2 112 [.tmp 4, .tmp 5] c73 := ⟨Tryz.f73, _, Tryz.func73, by kernel_rfl, rfl, rfl, by kernel_rfl, by kernel_rfl⟩
end Go.Proofs.YtemjlopoffjmpaaGreat.Abs
namespace Go.Proofs.YtemjlopoffjmpaaGreat.Abs
open Go
def c75 : ACode :=
 (.seq (.reg [⟨some 4, none, .mv (.c (.emp))⟩,
  ⟨some 5, none, .mv (.c (.int .i64 0))⟩])
 (.seq (.reg [⟨some 13, none, .mv (.t 0)⟩,
  ⟨some 14, none, .mv (.t 1)⟩,
  ⟨some 15, none, .call 30 [(.t 13), (.t 14)]⟩,
  ⟨some 12, none, .mv (.t 15)⟩,
  ⟨some 16, none, .ext (.t 12) 0⟩,
  ⟨some 17, none, .ext (.t 12) 1⟩,
  ⟨some 6, none, .alloc [.int .i64 0, .int .i64 0, .int .i64 0, .int .i64 0, .emp]⟩,
  ⟨none, none, .store 5 (.t 6) (.t 16)⟩,
  ⟨some 7, none, .mv (.t 17)⟩])
 (.seq (.seq (.reg [⟨some 18, none, .mv (.t 7)⟩,
  ⟨some 19, none, .un .not (.t 18)⟩])
 (.cond (.t 19)
 (.seq (.reg [⟨some 20, none, .mv (.t 0)⟩,
  ⟨some 4, none, .mv (.t 20)⟩,
  ⟨some 5, none, .mv (.c (.int .i64 2))⟩])
 .ret)
 .skip))
 (.seq (.reg [⟨some 8, none, .mv (.c (.int .i64 0))⟩,
  ⟨some 9, none, .mv (.c (.bool false))⟩])
 (.seq (.reg [⟨some 10, none, .mv (.c (.emp))⟩])
 (.seq (.seq (.reg [⟨some 11, none, .mv (.c (.int .i64 0))⟩])
 (.block 0
 (.loop
 (.seq (.seq (.reg [⟨some 21, none, .mv (.t 11)⟩,
  ⟨some 22, none, .mv (.t 0)⟩,
  ⟨some 23, none, .len false (.t 22)⟩,
  ⟨some 24, none, .bini .lss (.t 21) (.t 23)⟩])
 (.cond (.t 24)
 .skip
 (.exit 0)))
 (.seq (.block 1
 (.seq (.seq (.reg [⟨some 27, none, .mv (.t 0)⟩,
  ⟨some 28, none, .mv (.t 11)⟩,
  ⟨some 29, none, .iaddr 5 (.t 27) (.t 28)⟩,
  ⟨some 30, none, .faddr 1 (.t 29)⟩,
  ⟨some 31, none, .load false 1 (.t 30)⟩,
  ⟨some 32, none, .bini .eql (.t 31) (.c (.int .i64 1))⟩])
 (.cond (.t 32)
 (.reg [⟨some 33, none, .mv (.t 8)⟩,
  ⟨some 34, none, .bini .add (.t 33) (.c (.int .i64 1))⟩,
  ⟨some 8, none, .mv (.t 34)⟩])
 .skip))
 (.seq (.reg [⟨some 35, none, .mv (.t 9)⟩,
  ⟨some 36, none, .mv (.t 35)⟩,
  ⟨some 37, (some (36, false)), .mv (.t 0)⟩,
  ⟨some 38, (some (36, false)), .mv (.t 11)⟩,
  ⟨some 39, (some (36, false)), .iaddr 5 (.t 37) (.t 38)⟩,
  ⟨some 40, (some (36, false)), .faddr 2 (.t 39)⟩,
  ⟨some 41, (some (36, false)), .load false 1 (.t 40)⟩,
  ⟨some 42, (some (36, false)), .mv (.t 1)⟩,
  ⟨some 43, (some (36, false)), .bini .eql (.t 41) (.t 42)⟩,
  ⟨some 44, none, .pick (.t 36) (.c (.bool true)) (.t 43)⟩,
  ⟨some 9, none, .mv (.t 44)⟩])
 (.seq (.reg [⟨some 45, none, .mv (.t 0)⟩,
  ⟨some 46, none, .mv (.t 11)⟩,
  ⟨some 47, none, .iaddr 5 (.t 45) (.t 46)⟩,
  ⟨some 48, none, .faddr 0 (.t 47)⟩,
  ⟨some 49, none, .load false 1 (.t 48)⟩,
  ⟨some 50, none, .mv (.t 1)⟩,
  ⟨some 51, none, .bini .neq (.t 49) (.t 50)⟩])
 (.cond (.t 51)
 (.reg [⟨some 52, none, .mv (.t 10)⟩,
  ⟨some 53, none, .mv (.t 0)⟩,
  ⟨some 54, none, .mv (.t 11)⟩,
  ⟨some 55, none, .iaddr 5 (.t 53) (.t 54)⟩,
  ⟨some 56, none, .load true 5 (.t 55)⟩,
  ⟨some 57, none, .bslice 5 1 [.int .i64 0, .int .i64 0, .int .i64 0, .int .i64 0, .emp] [(0, (.t 56))]⟩,
  ⟨some 58, none, .append 5 56 [.int .i64 0, .int .i64 0, .int .i64 0, .int .i64 0, .emp] (.t 52) (.t 57)⟩,
  ⟨some 10, none, .mv (.t 58)⟩])
 .skip)))))
 (.reg [⟨some 25, none, .mv (.t 11)⟩,
  ⟨some 26, none, .bini .add (.t 25) (.c (.int .i64 1))⟩,
  ⟨some 11, none, .mv (.t 26)⟩]))))))
 (.seq (.seq (.reg [⟨some 59, none, .mv (.t 9)⟩,
  ⟨some 60, none, .mv (.t 59)⟩,
  ⟨some 61, (some (60, false)), .faddr 1 (.t 6)⟩,
  ⟨some 62, (some (60, false)), .load false 1 (.t 61)⟩,
  ⟨some 63, (some (60, false)), .bini .eql (.t 62) (.c (.int .i64 1))⟩,
  ⟨some 64, (some (60, false)), .mv (.t 63)⟩,
  ⟨some 65, (some (64, true)), .mv (.t 8)⟩,
  ⟨some 66, (some (64, true)), .bini .eql (.t 65) (.c (.int .i64 1))⟩,
  ⟨some 67, (some (60, false)), .pick (.t 64) (.t 66) (.c (.bool false))⟩,
  ⟨some 68, none, .pick (.t 60) (.c (.bool true)) (.t 67)⟩])
 (.cond (.t 68)
 (.seq (.reg [⟨some 69, none, .mv (.t 0)⟩,
  ⟨some 4, none, .mv (.t 69)⟩,
  ⟨some 5, none, .mv (.c (.int .i64 10))⟩])
 .ret)
 .skip))
 (.seq (.reg [⟨some 70, none, .mv (.t 10)⟩,
  ⟨some 4, none, .mv (.t 70)⟩,
  ⟨some 5, none, .mv (.c (.int .i64 0))⟩])
 .ret))))))))
theorem d75 : FnD Tryz.prog 75 2 69 [.tmp 4, .tmp 5] c75 := ⟨Tryz.f75, _, Tryz.func75, by kernel_rfl, rfl, rfl, by kernel_rfl, by kernel_rfl⟩
end Go.Proofs.YtemjlopoffjmpaaGreat.Abs
namespace Go.Proofs.YtemjlopoffjmpaaGreat.Abs
open Go
def c74 : ACode :=
 (.seq (.reg [⟨some 6, none, .mv (.c (.emp))⟩,
  ⟨some 7, none, .mv (.c (.int .i64 0))⟩])
 (.seq (.reg [⟨some 15, none, .mv (.t 0)⟩,
  ⟨some 16, none, .mv (.t 1)⟩,
  ⟨some 17, none, .call 30 [(.t 15), (.t 16)]⟩,
  ⟨some 14, none, .mv (.t 17)⟩,
  ⟨some 18, none, .ext (.t 14) 0⟩,
  ⟨some 19, none, .ext (.t 14) 1⟩,
  ⟨some 8, none, .alloc [.int .i64 0, .int .i64 0, .int .i64 0, .int .i64 0, .emp]⟩,
  ⟨none, none, .store 5 (.t 8) (.t 18)⟩,
  ⟨some 9, none, .mv (.t 19)⟩])
 (.seq (.reg [⟨some 21, none, .mv (.t 0)⟩,
  ⟨some 22, none, .mv (.t 2)⟩,
  ⟨some 23, none, .call 30 [(.t 21), (.t 22)]⟩,
  ⟨some 20, none, .mv (.t 23)⟩,
  ⟨some 24, none, .ext (.t 20) 0⟩,
  ⟨some 25, none, .ext (.t 20) 1⟩,
  ⟨some 10, none, .alloc [.int .i64 0, .int .i64 0, .int .i64 0, .int .i64 0, .emp]⟩,
  ⟨none, none, .store 5 (.t 10) (.t 24)⟩,
  ⟨some 11, none, .mv (.t 25)⟩])
 (.seq (.seq (.reg [⟨some 26, none, .mv (.t 9)⟩,
  ⟨some 27, none, .un .not (.t 26)⟩,
  ⟨some 28, none, .mv (.t 27)⟩,
  ⟨some 29, (some (28, false)), .mv (.t 11)⟩,
  ⟨some 30, (some (28, false)), .un .not (.t 29)⟩,
  ⟨some 31, none, .pick (.t 28) (.c (.bool true)) (.t 30)⟩])
 (.cond (.t 31)
 (.seq (.reg [⟨some 32, none, .mv (.t 0)⟩,
  ⟨some 6, none, .mv (.t 32)⟩,
  ⟨some 7, none, .mv (.c (.int .i64 2))⟩])
 .ret)
 .skip))
 (.seq (.seq (.reg [⟨some 33, none, .faddr 1 (.t 8)⟩,
  ⟨some 34, none, .load false 1 (.t 33)⟩,
  ⟨some 35, none, .bini .neq (.t 34) (.c (.int .i64 1))⟩,
  ⟨some 36, none, .mv (.t 35)⟩,
  ⟨some 37, (some (36, false)), .faddr 1 (.t 10)⟩,
  ⟨some 38, (some (36, false)), .load false 1 (.t 37)⟩,
  ⟨some 39, (some (36, false)), .bini .neq (.t 38) (.c (.int .i64 2))⟩,
  ⟨some 40, none, .pick (.t 36) (.c (.bool true)) (.t 39)⟩,
  ⟨some 41, none, .mv (.t 40)⟩,
  ⟨some 42, (some (41, false)), .faddr 2 (.t 10)⟩,
  ⟨some 43, (some (41, false)), .load false 1 (.t 42)⟩,
  ⟨some 44, (some (41, false)), .mv (.t 1)⟩,
  ⟨some 45, (some (41, false)), .bini .neq (.t 43) (.t 44)⟩,
  ⟨some 46, none, .pick (.t 41) (.c (.bool true)) (.t 45)⟩])
 (.cond (.t 46)
 (.seq (.reg [⟨some 47, none, .mv (.t 0)⟩,
  ⟨some 6, none, .mv (.t 47)⟩,
  ⟨some 7, none, .mv (.c (.int .i64 1))⟩])
 .ret)
 .skip))
 (.seq (.seq (.reg [⟨some 12, none, .mv (.c (.int .i64 0))⟩])
 (.block 0
 (.loop
 (.seq (.seq (.reg [⟨some 48, none, .mv (.t 12)⟩,
  ⟨some 49, none, .mv (.t 0)⟩,
  ⟨some 50, none, .len false (.t 49)⟩,
  ⟨some 51, none, .bini .lss (.t 48) (.t 50)⟩])
 (.cond (.t 51)
 .skip
 (.exit 0)))
 (.seq (.block 1
 (.seq (.reg [⟨some 54, none, .mv (.t 0)⟩,
  ⟨some 55, none, .mv (.t 12)⟩,
  ⟨some 56, none, .iaddr 5 (.t 54) (.t 55)⟩,
  ⟨some 57, none, .faddr 1 (.t 56)⟩,
  ⟨some 58, none, .load false 1 (.t 57)⟩,
  ⟨some 59, none, .bini .eql (.t 58) (.c (.int .i64 2))⟩,
  ⟨some 60, none, .mv (.t 59)⟩,
  ⟨some 61, (some (60, true)), .mv (.t 0)⟩,
  ⟨some 62, (some (60, true)), .mv (.t 12)⟩,
  ⟨some 63, (some (60, true)), .iaddr 5 (.t 61) (.t 62)⟩,
  ⟨some 64, (some (60, true)), .faddr 2 (.t 63)⟩,
  ⟨some 65, (some (60, true)), .load false 1 (.t 64)⟩,
  ⟨some 66, (some (60, true)), .mv (.t 1)⟩,
  ⟨some 67, (some (60, true)), .bini .eql (.t 65) (.t 66)⟩,
  ⟨some 68, none, .pick (.t 60) (.t 67) (.c (.bool false))⟩,
  ⟨some 69, none, .mv (.t 68)⟩,
  ⟨some 70, (some (69, true)), .mv (.t 0)⟩,
  ⟨some 71, (some (69, true)), .mv (.t 12)⟩,
  ⟨some 72, (some (69, true)), .iaddr 5 (.t 70) (.t 71)⟩,
  ⟨some 73, (some (69, true)), .faddr 0 (.t 72)⟩,
  ⟨some 74, (some (69, true)), .load false 1 (.t 73)⟩,
  ⟨some 75, (some (69, true)), .mv (.t 2)⟩,
  ⟨some 76, (some (69, true)), .bini .gtr (.t 74) (.t 75)⟩,
  ⟨some 77, none, .pick (.t 69) (.t 76) (.c (.bool false))⟩])
 (.cond (.t 77)
 (.seq (.reg [⟨some 78, none, .mv (.t 0)⟩,
  ⟨some 6, none, .mv (.t 78)⟩,
  ⟨some 7, none, .mv (.c (.int .i64 10))⟩])
 .ret)
 .skip)))
 (.reg [⟨some 52, none, .mv (.t 12)⟩,
  ⟨some 53, none, .bini .add (.t 52) (.c (.int .i64 1))⟩,
  ⟨some 12, none, .mv (.t 53)⟩]))))))
 (.seq (.reg [⟨some 79, none, .bslice 5 0 [.int .i64 0, .int .i64 0, .int .i64 0, .int .i64 0, .emp] []⟩,
  ⟨some 80, none, .mv (.t 0)⟩,
  ⟨some 81, none, .append 5 56 [.int .i64 0, .int .i64 0, .int .i64 0, .int .i64 0, .emp] (.t 79) (.t 80)⟩,
  ⟨some 13, none, .mv (.t 81)⟩])
 (.seq (.dregE [[(0, ⟨some 82, none, .mv (.t 13)⟩),
  (1, ⟨some 83, none, .mv (.t 0)⟩),
  (2, ⟨some 84, none, .mv (.t 1)⟩),
  (4, ⟨some 86, none, .faddr 4 (.t 10)⟩),
  (5, ⟨some 87, none, .load false 1 (.t 86)⟩),
  (3, ⟨some 85, none, .call 52 [(.t 83), (.t 84)]⟩)],
  [(6, ⟨some 88, none, .iaddr 5 (.t 82) (.t 85)⟩)],
  [(7, ⟨some 89, none, .faddr 4 (.t 88)⟩)],
  [(8, ⟨none, none, .store 1 (.t 89) (.t 87)⟩)]]
  [[], [], [], [1, 2], [], [4], [0, 1, 2, 3, 4, 5], [0, 1, 2, 3, 4, 5, 6], [0, 1, 2, 3, 4, 5, 6, 7]])
 (.seq (.reg [⟨some 90, none, .mv (.t 13)⟩,
  ⟨some 6, none, .mv (.t 90)⟩,
  ⟨some 7, none, .mv (.c (.int .i64 0))⟩])
 .ret)))))))))
theorem d74 : FnD Tryz.prog 74 3 88 [.tmp 6, .tmp 7] c74 := ⟨Tryz.f74, _, Tryz.func74, by kernel_rfl, rfl, rfl, by kernel_rfl, by kernel_rfl⟩
end Go.Proofs.YtemjlopoffjmpaaGreat.Abs
namespace Go.Proofs.YtemjlopoffjmpaaGreat.Abs
open Go
def c17 : ACode :=
 (.seq (.reg [⟨some 6, none, .mv (.c (.emp))⟩,
  ⟨some 7, none, .mv (.c (.int .i64 0))⟩])
 (.seq (.reg [⟨some 12, none, .mv (.t 0)⟩,
  ⟨some 13, none, .mv (.t 1)⟩,
  ⟨some 14, none, .call 30 [(.t 12), (.t 13)]⟩,
  ⟨some 11, none, .mv (.t 14)⟩,
  ⟨some 15, none, .ext (.t 11) 0⟩,
  ⟨some 16, none, .ext (.t 11) 1⟩,
  ⟨some 8, none, .alloc [.int .i64 0, .int .i64 0, .int .i64 0, .int .i64 0, .emp]⟩,
  ⟨none, none, .store 5 (.t 8) (.t 15)⟩,
  ⟨some 9, none, .mv (.t 16)⟩])
 (.seq (.seq (.reg [⟨some 17, none, .mv (.t 9)⟩,
  ⟨some 18, none, .un .not (.t 17)⟩])
 (.cond (.t 18)
 (.seq (.reg [⟨some 19, none, .mv (.t 0)⟩,
  ⟨some 6, none, .mv (.t 19)⟩,
  ⟨some 7, none, .mv (.c (.int .i64 2))⟩])
 .ret)
 .skip))
 (.seq (.seq (.reg [⟨some 20, none, .faddr 1 (.t 8)⟩,
  ⟨some 21, none, .load false 1 (.t 20)⟩,
  ⟨some 22, none, .bini .eql (.t 21) (.c (.int .i64 2))⟩])
 (.cond (.t 22)
 (.seq (.reg [⟨some 23, none, .mv (.t 0)⟩,
  ⟨some 6, none, .mv (.t 23)⟩,
  ⟨some 7, none, .mv (.c (.int .i64 11))⟩])
 .ret)
 .skip))
 (.seq (.seq (.dregE [[(0, ⟨some 24, none, .faddr 3 (.t 8)⟩)],
  [(1, ⟨some 25, none, .load false 1 (.t 24)⟩)],
  [(2, ⟨some 26, none, .bini .gtr (.t 25) (.c (.int .i64 0))⟩)],
  [(3, ⟨some 27, none, .mv (.t 26)⟩)],
  [(4, ⟨some 28, (some (27, true)), .mv (.t 2)⟩),
  (6, ⟨some 30, (some (27, true)), .faddr 3 (.t 8)⟩),
  (7, ⟨some 31, (some (27, true)), .load false 1 (.t 30)⟩),
  (5, ⟨some 29, (some (27, true)), .call 20 [(.t 28)]⟩)],
  [(8, ⟨some 32, (some (27, true)), .bini .gtr (.t 29) (.t 31)⟩)],
  [(9, ⟨some 33, none, .pick (.t 27) (.t 32) (.c (.bool false))⟩)],
  [(10, ⟨some 34, none, .mv (.t 33)⟩)],
  [(11, ⟨some 35, (some (34, true)), .mv (.t 2)⟩),
  (13, ⟨some 37, (some (34, true)), .faddr 4 (.t 8)⟩),
  (14, ⟨some 38, (some (34, true)), .load false 1 (.t 37)⟩),
  (12, ⟨some 36, (some (34, true)), .call 20 [(.t 35)]⟩)],
  [(15, ⟨some 39, (some (34, true)), .call 20 [(.t 38)]⟩)],
  [(16, ⟨some 40, (some (34, true)), .bini .gtr (.t 36) (.t 39)⟩)],
  [(17, ⟨some 41, none, .pick (.t 34) (.t 40) (.c (.bool false))⟩)]]
  [[], [0], [0, 1], [0, 1, 2], [0, 1, 2, 3], [0, 1, 2, 3, 4], [0, 1, 2, 3], [0, 1, 2, 3, 6], [0, 1, 2, 3, 4, 5, 6, 7], [0, 1, 2, 3, 4, 5, 6, 7, 8], [0, 1, 2, 3, 4, 5, 6, 7, 8, 9], [0, 1, 2, 3, 4, 5, 6, 7, 8, 9, 10], [0, 1, 2, 3, 4, 5, 6, 7, 8, 9, 10, 11], [0, 1, 2, 3, 4, 5, 6, 7, 8, 9, 10], [0, 1, 2, 3, 4, 5, 6, 7, 8, 9, 10, 13], [0, 1, 2, 3, 4, 5, 6, 7, 8, 9, 10, 11, 12, 13, 14], [0, 1, 2, 3, 4, 5, 6, 7, 8, 9, 10, 11, 12, 13, 14, 15], [0, 1, 2, 3, 4, 5, 6, 7, 8, 9, 10, 11, 12, 13, 14, 15, 16]])
 (.cond (.t 41)
 (.seq (.reg [⟨some 42, none, .mv (.t 0)⟩,
  ⟨some 6, none, .mv (.t 42)⟩,
  ⟨some 7, none, .mv (.c (.int .i64 9))⟩])
 .ret)
 .skip))
 (.seq (.reg [⟨some 43, none, .bslice 5 0 [.int .i64 0, .int .i64 0, .int .i64 0, .int .i64 0, .emp] []⟩,
  ⟨some 44, none, .mv (.t 0)⟩,
  ⟨some 45, none, .append 5 56 [.int .i64 0, .int .i64 0, .int .i64 0, .int .i64 0, .emp] (.t 43) (.t 44)⟩,
  ⟨some 10, none, .mv (.t 45)⟩])
 (.seq (.reg [⟨some 46, none, .mv (.t 10)⟩,
  ⟨some 47, none, .mv (.t 0)⟩,
  ⟨some 48, none, .mv (.t 1)⟩,
  ⟨some 49, none, .call 52 [(.t 47), (.t 48)]⟩,
  ⟨some 50, none, .bslice 5 0 [.int .i64 0, .int .i64 0, .str [], .str [], .int .i64 0] []⟩,
  ⟨some 51, none, .mv (.t 2)⟩,
  ⟨some 52, none, .append 5 56 [.int .i64 0, .int .i64 0, .str [], .str [], .int .i64 0] (.t 50) (.t 51)⟩,
  ⟨some 53, none, .iaddr 5 (.t 46) (.t 49)⟩,
  ⟨some 54, none, .faddr 4 (.t 53)⟩,
  ⟨none, none, .store 1 (.t 54) (.t 52)⟩])
 (.seq (.reg [⟨some 55, none, .mv (.t 10)⟩,
  ⟨some 6, none, .mv (.t 55)⟩,
  ⟨some 7, none, .mv (.c (.int .i64 0))⟩])
 .ret))))))))
theorem d17 : FnD Tryz.prog 17 3 53 [.tmp 6, .tmp 7] c17 := ⟨Tryz.f17, _, Tryz.func17, by kernel_rfl, rfl, rfl, by kernel_rfl, by kernel_rfl⟩
end Go.Proofs.YtemjlopoffjmpaaGreat.Abs
namespace Go.Proofs.YtemjlopoffjmpaaGreat.Abs
open Go
def c20 : ACode :=
 (.seq (.reg [⟨some 2, none, .mv (.c (.int .i64 0))⟩])
 (.seq (.reg [⟨some 3, none, .mv (.c (.int .i64 0))⟩])
 (.seq (.seq (.reg [⟨some 4, none, .mv (.c (.int .i64 0))⟩])
 (.block 0
 (.loop
 (.seq (.seq (.reg [⟨some 5, none, .mv (.t 4)⟩,
  ⟨some 6, none, .mv (.t 0)⟩,
  ⟨some 7, none, .len false (.t 6)⟩,
  ⟨some 8, none, .bini .lss (.t 5) (.t 7)⟩])
 (.cond (.t 8)
 .skip
 (.exit 0)))
 (.seq (.block 1
 (.reg [⟨some 11, none, .mv (.t 3)⟩,
  ⟨some 12, none, .mv (.t 0)⟩,
  ⟨some 13, none, .mv (.t 4)⟩,
  ⟨some 14, none, .iaddr 5 (.t 12) (.t 13)⟩,
  ⟨some 15, none, .faddr 3 (.t 14)⟩,
  ⟨some 16, none, .load false 1 (.t 15)⟩,
  ⟨some 17, none, .call 54 [(.t 16)]⟩,
  ⟨some 18, none, .bini .add (.t 11) (.t 17)⟩,
  ⟨some 3, none, .mv (.t 18)⟩]))
 (.reg [⟨some 9, none, .mv (.t 4)⟩,
  ⟨some 10, none, .bini .add (.t 9) (.c (.int .i64 1))⟩,
  ⟨some 4, none, .mv (.t 10)⟩]))))))
 (.seq (.reg [⟨some 19, none, .mv (.t 3)⟩,
  ⟨some 2, none, .mv (.t 19)⟩])
 .ret))))
theorem d20 : FnD Tryz.prog 20 1 19 [.tmp 2] c20 := ⟨Tryz.f20, _, Tryz.func20, by kernel_rfl, rfl, rfl, by kernel_rfl, by kernel_rfl⟩
end Go.Proofs.YtemjlopoffjmpaaGreat.Abs
namespace Go.Proofs.YtemjlopoffjmpaaGreat.Abs
open Go
end Go.Proofs.YtemjlopoffjmpaaGreat.Abs
namespace Go.Proofs.YtemjlopoffjmpaaGreat.Abs
open Go
end Go.Proofs.YtemjlopoffjmpaaGreat.Abs
namespace Go.Proofs.YtemjlopoffjmpaaGreat.Abs
open Go
end Go.Proofs.YtemjlopoffjmpaaGreat.Abs
namespace Go.Proofs.YtemjlopoffjmpaaGreat.Abs
open Go
end Go.Proofs.YtemjlopoffjmpaaGreat.Abs
namespace Go.Proofs.YtemjlopoffjmpaaGreat.Abs
open Go
def c28 : ACode :=
 (.seq (.reg [⟨some 4, none, .mv (.c (.bool false))⟩])
 (.seq (.seq (.reg [⟨some 6, none, .mv (.t 0)⟩,
  ⟨some 7, none, .len false (.t 6)⟩,
  ⟨some 8, none, .mv (.t 1)⟩,
  ⟨some 9, none, .len false (.t 8)⟩,
  ⟨some 10, none, .bini .neq (.t 7) (.t 9)⟩])
 (.cond (.t 10)
 (.seq (.reg [⟨some 4, none, .mv (.c (.bool false))⟩])
 .ret)
 .skip))
 (.seq (.seq (.reg [⟨some 5, none, .mv (.c (.int .i64 0))⟩])
 (.block 0
 (.loop
 (.seq (.seq (.reg [⟨some 11, none, .mv (.t 5)⟩,
  ⟨some 12, none, .mv (.t 0)⟩,
  ⟨some 13, none, .len false (.t 12)⟩,
  ⟨some 14, none, .bini .lss (.t 11) (.t 13)⟩])
 (.cond (.t 14)
 .skip
 (.exit 0)))
 (.seq (.block 1
 (.seq (.dreg [⟨some 17, none, .mv (.t 0)⟩,
  ⟨some 18, none, .mv (.t 5)⟩,
  ⟨some 19, none, .iaddr 5 (.t 17) (.t 18)⟩,
  ⟨some 20, none, .load true 5 (.t 19)⟩,
  ⟨some 21, none, .mv (.t 1)⟩,
  ⟨some 22, none, .mv (.t 5)⟩,
  ⟨some 23, none, .iaddr 5 (.t 21) (.t 22)⟩,
  ⟨some 24, none, .load true 5 (.t 23)⟩,
  ⟨some 25, none, .eqs true [.i, .i, .s, .s, .i] (.t 20) (.t 24)⟩])
 (.cond (.t 25)
 (.seq (.reg [⟨some 4, none, .mv (.c (.bool false))⟩])
 .ret)
 .skip)))
 (.reg [⟨some 15, none, .mv (.t 5)⟩,
  ⟨some 16, none, .bini .add (.t 15) (.c (.int .i64 1))⟩,
  ⟨some 5, none, .mv (.t 16)⟩]))))))
 (.seq (.reg [⟨some 4, none, .mv (.c (.bool true))⟩])
 .ret))))
theorem d28 : FnD Tryz.prog 28 2 24 [.tmp 4] c28 := ⟨Tryz.f28, _, Tryz.func28, by kernel_rfl, rfl, rfl, by kernel_rfl, by kernel_rfl⟩
end Go.Proofs.YtemjlopoffjmpaaGreat.Abs
namespace Go.Proofs.YtemjlopoffjmpaaGreat.Abs
open Go
def c30 : ACode :=
 (.seq (.reg [⟨some 4, none, .alloc [.int .i64 0, .int .i64 0, .int .i64 0, .int .i64 0, .emp]⟩,
  ⟨some 5, none, .mv (.c (.bool false))⟩])
 (.seq (.reg [⟨some 7, none, .mv (.t 0)⟩,
  ⟨some 8, none, .mv (.t 1)⟩,
  ⟨some 9, none, .call 52 [(.t 7), (.t 8)]⟩,
  ⟨some 6, none, .mv (.t 9)⟩])
 (.seq (.seq (.reg [⟨some 10, none, .mv (.t 6)⟩,
  ⟨some 11, none, .bini .lss (.t 10) (.c (.int .i64 0))⟩])
 (.cond (.t 11)
 (.seq (.reg [⟨some 12, none, .build [.int .i64 0, .int .i64 0, .int .i64 0, .int .i64 0, .emp] []⟩,
  ⟨none, none, .store 5 (.t 4) (.t 12)⟩,
  ⟨some 5, none, .mv (.c (.bool false))⟩])
 .ret)
 .skip))
 (.seq (.reg [⟨some 13, none, .mv (.t 0)⟩,
  ⟨some 14, none, .mv (.t 6)⟩,
  ⟨some 15, none, .iaddr 5 (.t 13) (.t 14)⟩,
  ⟨some 16, none, .load true 5 (.t 15)⟩,
  ⟨none, none, .store 5 (.t 4) (.t 16)⟩,
  ⟨some 5, none, .mv (.c (.bool true))⟩])
 .ret))))
theorem d30 : FnD Tryz.prog 30 2 15 [.cell 4 true 5, .tmp 5] c30 := ⟨Tryz.f30, _, Tryz.func30, by kernel_rfl, rfl, rfl, by kernel_rfl, by kernel_rfl⟩
end Go.Proofs.YtemjlopoffjmpaaGreat.Abs
namespace Go.Proofs.YtemjlopoffjmpaaGreat.Abs
open Go
def c52 : ACode :=
 (.seq (.reg [⟨some 4, none, .mv (.c (.int .i64 0))⟩])
 (.seq (.seq (.reg [⟨some 5, none, .mv (.c (.int .i64 0))⟩])
 (.block 0
 (.loop
 (.seq (.seq (.reg [⟨some 6, none, .mv (.t 5)⟩,
  ⟨some 7, none, .mv (.t 0)⟩,
  ⟨some 8, none, .len false (.t 7)⟩,
  ⟨some 9, none, .bini .lss (.t 6) (.t 8)⟩])
 (.cond (.t 9)
 .skip
 (.exit 0)))
 (.seq (.block 1
 (.seq (.reg [⟨some 12, none, .mv (.t 0)⟩,
  ⟨some 13, none, .mv (.t 5)⟩,
  ⟨some 14, none, .iaddr 5 (.t 12) (.t 13)⟩,
  ⟨some 15, none, .faddr 0 (.t 14)⟩,
  ⟨some 16, none, .load false 1 (.t 15)⟩,
  ⟨some 17, none, .mv (.t 1)⟩,
  ⟨some 18, none, .bini .eql (.t 16) (.t 17)⟩])
 (.cond (.t 18)
 (.seq (.reg [⟨some 19, none, .mv (.t 5)⟩,
  ⟨some 4, none, .mv (.t 19)⟩])
 .ret)
 .skip)))
 (.reg [⟨some 10, none, .mv (.t 5)⟩,
  ⟨some 11, none, .bini .add (.t 10) (.c (.int .i64 1))⟩,
  ⟨some 5, none, .mv (.t 11)⟩]))))))
 (.seq (.reg [⟨some 4, none, .mv (.c (.int .i64 (-1)))⟩])
 .ret)))
theorem d52 : FnD Tryz.prog 52 2 18 [.tmp 4] c52 := ⟨Tryz.f52, _, Tryz.func52, by kernel_rfl, rfl, rfl, by kernel_rfl, by kernel_rfl⟩
end Go.Proofs.YtemjlopoffjmpaaGreat.Abs
namespace Go.Proofs.YtemjlopoffjmpaaGreat.Abs
open Go
def c61 : ACode :=
 (.seq (.reg [⟨some 2, none, .mv (.c (.bool false))⟩])
 (.seq (.reg [⟨some 3, none, .mv (.t 0)⟩,
  ⟨some 4, none, .bini .geq (.t 3) (.c (.int .i64 0))⟩,
  ⟨some 5, none, .mv (.t 4)⟩,
  ⟨some 6, (some (5, true)), .mv (.t 0)⟩,
  ⟨some 7, (some (5, true)), .bini .leq (.t 6) (.c (.int .i64 65535))⟩,
  ⟨some 8, none, .pick (.t 5) (.t 7) (.c (.bool false))⟩,
  ⟨some 2, none, .mv (.t 8)⟩])
 .ret))
theorem d61 : FnD Tryz.prog 61 1 8 [.tmp 2] c61 := ⟨Tryz.f61, _, Tryz.func61, by kernel_rfl, rfl, rfl, by kernel_rfl, by kernel_rfl⟩
end Go.Proofs.YtemjlopoffjmpaaGreat.Abs
namespace Go.Proofs.YtemjlopoffjmpaaGreat.Abs
open Go
end Go.Proofs.YtemjlopoffjmpaaGreat.Abs
namespace Go.Proofs.YtemjlopoffjmpaaGreat.Abs
open Go
end Go.Proofs.YtemjlopoffjmpaaGreat.Abs
namespace Go.Proofs.YtemjlopoffjmpaaGreat.Abs
open Go
end Go.Proofs.YtemjlopoffjmpaaGreat.Abs
namespace Go.Proofs.YtemjlopoffjmpaaGreat.Abs
open Go
end Go.Proofs.YtemjlopoffjmpaaGreat.Abs
namespace Go.Proofs.YtemjlopoffjmpaaGreat.Abs
open Go
def c59 : ACode :=
 (.seq (.reg [⟨some 3, none, .box (.t 1)⟩,
  ⟨some 4, none, .mv (.c (.int .i64 0))⟩])
 (.seq (.reg [⟨some 5, none, .mv (.t 0)⟩,
  ⟨some 6, none, .mkfn (.func 102) [] [(.t 3)]⟩,
  ⟨some 7, none, .call 101 [(.t 5), (.t 6)]⟩,
  ⟨some 4, none, .mv (.t 7)⟩])
 .ret))
theorem d59 : FnD Tryz.prog 59 2 6 [.tmp 4] c59 := ⟨Tryz.f59, _, Tryz.func59, by kernel_rfl, rfl, rfl, by kernel_rfl, by kernel_rfl⟩
end Go.Proofs.YtemjlopoffjmpaaGreat.Abs
namespace Go.Proofs.YtemjlopoffjmpaaGreat.Abs
open Go
end Go.Proofs.YtemjlopoffjmpaaGreat.Abs
namespace Go.Proofs.YtemjlopoffjmpaaGreat.Abs
open Go
end Go.Proofs.YtemjlopoffjmpaaGreat.Abs
namespace Go.Proofs.YtemjlopoffjmpaaGreat.Abs
open Go
end Go.Proofs.YtemjlopoffjmpaaGreat.Abs
namespace Go.Proofs.YtemjlopoffjmpaaGreat.Abs
open Go
end Go.Proofs.YtemjlopoffjmpaaGreat.Abs
namespace Go.Proofs.YtemjlopoffjmpaaGreat.Abs
open Go
def c101 : ACode :=
 (.seq (.reg [⟨some 4, none, .mv (.c (.int .i64 0))⟩])
 (.seq (.seq (.reg [⟨some 6, none, .mv (.t 0)⟩,
  ⟨some 7, none, .len false (.t 6)⟩,
  ⟨some 8, none, .mv (.c (.int .i64 0))⟩])
 (.block 0
 (.loop
 (.seq (.reg [⟨some 9, none, .bini .lss (.t 8) (.t 7)⟩])
 (.seq (.cond (.t 9)
 .skip
 (.exit 0))
 (.seq (.block 1
 (.seq (.reg [⟨some 10, none, .mv (.t 8)⟩,
  ⟨some 5, none, .mv (.t 10)⟩])
 (.seq (.reg [⟨some 11, none, .mv (.t 1)⟩,
  ⟨some 12, none, .mv (.t 0)⟩,
  ⟨some 13, none, .mv (.t 5)⟩,
  ⟨some 14, none, .iaddr 5 (.t 12) (.t 13)⟩,
  ⟨some 15, none, .load true 5 (.t 14)⟩,
  ⟨some 16, none, .calld (.t 11) [(.t 15)]⟩])
 (.cond (.t 16)
 (.seq (.reg [⟨some 17, none, .mv (.t 5)⟩,
  ⟨some 4, none, .mv (.t 17)⟩])
 .ret)
 .skip))))
 (.reg [⟨some 18, none, .bini .add (.t 8) (.c (.int .i64 1))⟩,
  ⟨some 8, none, .mv (.t 18)⟩])))))))
 (.seq (.reg [⟨some 4, none, .mv (.c (.int .i64 (-1)))⟩])
 .ret)))
theorem d101 : FnD Tryz.prog 101 2 17 [.tmp 4] c101 := ⟨Tryz.f101, _, Tryz.func101, by kernel_rfl, rfl, rfl, by kernel_rfl, by kernel_rfl⟩
end Go.Proofs.YtemjlopoffjmpaaGreat.Abs
namespace Go.Proofs.YtemjlopoffjmpaaGreat.Abs
open Go
def c56 : ACode :=
 (.seq (.reg [⟨some 2, none, .mv (.c (.emp))⟩])
 (.seq (.reg [⟨some 4, none, .mv (.t 0)⟩,
  ⟨some 5, none, .call 48 [(.t 4)]⟩,
  ⟨some 0, none, .mv (.t 5)⟩])
 (.seq (.seq (.reg [⟨some 6, none, .mv (.t 0)⟩,
  ⟨some 7, none, .len false (.t 6)⟩,
  ⟨some 8, none, .mv (.c (.int .i64 0))⟩])
 (.block 0
 (.loop
 (.seq (.reg [⟨some 9, none, .bini .lss (.t 8) (.t 7)⟩])
 (.seq (.cond (.t 9)
 .skip
 (.exit 0))
 (.seq (.block 1
 (.seq (.reg [⟨some 10, none, .mv (.t 8)⟩,
  ⟨some 3, none, .mv (.t 10)⟩])
 (.reg [⟨some 11, none, .mv (.t 0)⟩,
  ⟨some 12, none, .mv (.t 3)⟩,
  ⟨some 13, none, .mv (.t 0)⟩,
  ⟨some 14, none, .mv (.t 3)⟩,
  ⟨some 15, none, .iaddr 5 (.t 13) (.t 14)⟩,
  ⟨some 16, none, .faddr 4 (.t 15)⟩,
  ⟨some 17, none, .load false 1 (.t 16)⟩,
  ⟨some 18, none, .call 49 [(.t 17)]⟩,
  ⟨some 19, none, .iaddr 5 (.t 11) (.t 12)⟩,
  ⟨some 20, none, .faddr 4 (.t 19)⟩,
  ⟨none, none, .store 1 (.t 20) (.t 18)⟩])))
 (.reg [⟨some 21, none, .bini .add (.t 8) (.c (.int .i64 1))⟩,
  ⟨some 8, none, .mv (.t 21)⟩])))))))
 (.seq (.reg [⟨some 22, none, .mv (.t 0)⟩,
  ⟨some 2, none, .mv (.t 22)⟩])
 .ret))))
theorem d56 : FnD Tryz.prog 56 1 22 [.tmp 2] c56 := ⟨Tryz.f56, _, Tryz.func56, by kernel_rfl, rfl, rfl, by kernel_rfl, by kernel_rfl⟩
end Go.Proofs.YtemjlopoffjmpaaGreat.Abs
namespace Go.Proofs.YtemjlopoffjmpaaGreat.Abs
open Go
def c48 : ACode :=
 (.seq (.reg [⟨some 2, none, .mv (.c (.emp))⟩])
 (.seq (.seq (.reg [⟨some 3, none, .mv (.t 0)⟩,
  ⟨some 4, none, .eqnil false (.t 3)⟩])
 (.cond (.t 4)
 (.seq (.reg [⟨some 2, none, .mv (.c (.emp))⟩])
 .ret)
 .skip))
 (.seq (.reg [⟨some 5, none, .bslice 5 0 [.int .i64 0, .int .i64 0, .int .i64 0, .int .i64 0, .emp] []⟩,
  ⟨some 6, none, .mv (.t 0)⟩,
  ⟨some 7, none, .append 5 56 [.int .i64 0, .int .i64 0, .int .i64 0, .int .i64 0, .emp] (.t 5) (.t 6)⟩,
  ⟨some 2, none, .mv (.t 7)⟩])
 .ret)))
theorem d48 : FnD Tryz.prog 48 1 7 [.tmp 2] c48 := ⟨Tryz.f48, _, Tryz.func48, by kernel_rfl, rfl, rfl, by kernel_rfl, by kernel_rfl⟩
end Go.Proofs.YtemjlopoffjmpaaGreat.Abs
namespace Go.Proofs.YtemjlopoffjmpaaGreat.Abs
open Go
def c49 : ACode :=
 (.seq (.reg [⟨some 2, none, .mv (.c (.emp))⟩])
 (.seq (.seq (.reg [⟨some 3, none, .mv (.t 0)⟩,
  ⟨some 4, none, .eqnil false (.t 3)⟩])
 (.cond (.t 4)
 (.seq (.reg [⟨some 2, none, .mv (.c (.emp))⟩])
 .ret)
 .skip))
 (.seq (.reg [⟨some 5, none, .bslice 5 0 [.int .i64 0, .int .i64 0, .str [], .str [], .int .i64 0] []⟩,
  ⟨some 6, none, .mv (.t 0)⟩,
  ⟨some 7, none, .append 5 56 [.int .i64 0, .int .i64 0, .str [], .str [], .int .i64 0] (.t 5) (.t 6)⟩,
  ⟨some 2, none, .mv (.t 7)⟩])
 .ret)))
theorem d49 : FnD Tryz.prog 49 1 7 [.tmp 2] c49 := ⟨Tryz.f49, _, Tryz.func49, by kernel_rfl, rfl, rfl, by kernel_rfl, by kernel_rfl⟩
end Go.Proofs.YtemjlopoffjmpaaGreat.Abs
namespace Go.Proofs.YtemjlopoffjmpaaGreat.Abs
open Go
def c51 : ACode :=
 (.seq (.reg [⟨some 2, none, .box (.t 0)⟩,
  ⟨some 3, none, .mv (.c (.bool false))⟩])
 (.seq (.reg [⟨some 4, none, .faddr 0 (.t 2)⟩,
  ⟨some 5, none, .load false 1 (.t 4)⟩,
  ⟨some 6, none, .load false 1 (.t 1)⟩,
  ⟨some 7, none, .bini .eql (.t 5) (.t 6)⟩,
  ⟨some 3, none, .mv (.t 7)⟩])
 .ret))
theorem d51 : FnD Tryz.prog 51 2 6 [.tmp 3] c51 := ⟨Tryz.f51, _, Tryz.func51, by kernel_rfl, rfl, rfl, by kernel_rfl, by kernel_rfl⟩
end Go.Proofs.YtemjlopoffjmpaaGreat.Abs
namespace Go.Proofs.YtemjlopoffjmpaaGreat.Abs
open Go
def c102 : ACode :=
 (.seq (.reg [⟨some 2, none, .box (.t 0)⟩,
  ⟨some 3, none, .mv (.c (.bool false))⟩])
 (.seq (.reg [⟨some 4, none, .faddr 0 (.t 2)⟩,
  ⟨some 5, none, .load false 1 (.t 4)⟩,
  ⟨some 6, none, .load false 1 (.t 1)⟩,
  ⟨some 7, none, .bini .eql (.t 5) (.t 6)⟩,
  ⟨some 3, none, .mv (.t 7)⟩])
 .ret))
theorem d102 : FnD Tryz.prog 102 2 6 [.tmp 3] c102 := ⟨Tryz.f102, _, Tryz.func102, by kernel_rfl, rfl, rfl, by kernel_rfl, by kernel_rfl⟩
end Go.Proofs.YtemjlopoffjmpaaGreat.Abs
namespace Go.Proofs.YtemjlopoffjmpaaGreat.Abs
open Go
def c15 : ACode :=
 (.seq (.reg [⟨some 4, none, .mv (.c (.emp))⟩])
 (.seq (.reg [⟨some 5, none, .mv (.t 0)⟩,
  ⟨some 6, none, .call 34 []⟩,
  ⟨some 7, none, .mv (.t 1)⟩,
  ⟨some 8, none, .call 26 [(.t 5), (.t 6), (.t 7)]⟩,
  ⟨some 4, none, .mv (.t 8)⟩])
 .ret))
theorem d15 : FnD Tryz.prog 15 2 7 [.tmp 4] c15 := ⟨Tryz.f15, _, Tryz.func15, by kernel_rfl, rfl, rfl, by kernel_rfl, by kernel_rfl⟩
end Go.Proofs.YtemjlopoffjmpaaGreat.Abs
namespace Go.Proofs.YtemjlopoffjmpaaGreat.Abs
open Go
def c26 : ACode :=
 (.seq (.reg [⟨some 6, none, .mv (.c (.emp))⟩])
 (.seq (.seq (.reg [⟨some 7, none, .mv (.c (.int .i64 0))⟩])
 (.block 0
 (.loop
 (.seq (.seq (.reg [⟨some 8, none, .mv (.t 7)⟩,
  ⟨some 9, none, .mv (.t 2)⟩,
  ⟨some 10, none, .bini .lss (.t 8) (.t 9)⟩,
  ⟨some 11, none, .mv (.t 10)⟩,
  ⟨some 12, (some (11, true)), .mv (.t 0)⟩,
  ⟨some 13, (some (11, true)), .call 43 [(.t 12)]⟩,
  ⟨some 14, (some (11, true)), .un .not (.t 13)⟩,
  ⟨some 15, none, .pick (.t 11) (.t 14) (.c (.bool false))⟩])
 (.cond (.t 15)
 .skip
 (.exit 0)))
 (.seq (.block 1
 (.reg [⟨some 19, none, .mv (.t 1)⟩,
  ⟨some 20, none, .mv (.t 0)⟩,
  ⟨some 21, none, .call 46 [(.t 20), (.c (.int .i64 1))]⟩,
  ⟨some 22, none, .call 58 [(.t 19), (.t 21)]⟩,
  ⟨some 18, none, .mv (.t 22)⟩,
  ⟨some 23, none, .ext (.t 18) 0⟩,
  ⟨some 24, none, .ext (.t 18) 1⟩,
  ⟨some 1, none, .mv (.t 23)⟩]))
 (.reg [⟨some 16, none, .mv (.t 7)⟩,
  ⟨some 17, none, .bini .add (.t 16) (.c (.int .i64 1))⟩,
  ⟨some 7, none, .mv (.t 17)⟩]))))))
 (.seq (.reg [⟨some 25, none, .mv (.t 1)⟩,
  ⟨some 6, none, .mv (.t 25)⟩])
 .ret)))
theorem d26 : FnD Tryz.prog 26 3 23 [.tmp 6] c26 := ⟨Tryz.f26, _, Tryz.func26, by kernel_rfl, rfl, rfl, by kernel_rfl, by kernel_rfl⟩
end Go.Proofs.YtemjlopoffjmpaaGreat.Abs
namespace Go.Proofs.YtemjlopoffjmpaaGreat.Abs
open Go
def c46 : ACode :=
 (.seq (.reg [⟨some 4, none, .alloc [.int .i64 0, .int .i64 0, .int .i64 0, .int .i64 0, .int .i64 0, .str [], .str [], .str [], .emp]⟩])
 (.seq (.dregE [[(0, ⟨some 6, none, .bslice 1 12 [.int .i64 0] [(0, (.c (.int .i64 1))), (1, (.c (.int .i64 1))), (2, (.c (.int .i64 1))), (3, (.c (.int .i64 2))), (4, (.c (.int .i64 3))), (5, (.c (.int .i64 3))), (6, (.c (.int .i64 4))), (7, (.c (.int .i64 4))), (8, (.c (.int .i64 4))), (9, (.c (.int .i64 5))), (10, (.c (.int .i64 1))), (11, (.c (.int .i64 4)))]⟩),
  (1, ⟨some 7, none, .mv (.t 0)⟩),
  (5, ⟨some 11, none, .mv (.t 1)⟩),
  (6, ⟨some 12, none, .mv (.t 0)⟩),
  (9, ⟨some 5, none, .alloc [.int .i64 0, .int .i64 0, .int .i64 0, .int .i64 0, .int .i64 0, .str [], .str [], .str [], .emp]⟩),
  (2, ⟨some 8, none, .call 44 [(.t 7), (.c (.int .i64 12))]⟩),
  (3, ⟨some 9, none, .iaddr 1 (.t 6) (.t 8)⟩),
  (4, ⟨some 10, none, .load false 1 (.t 9)⟩),
  (7, ⟨some 13, none, .call 84 [(.t 12)]⟩),
  (8, ⟨some 14, none, .build [.int .i64 0, .int .i64 0, .int .i64 0, .int .i64 0, .int .i64 0, .str [], .str [], .str [], .emp] [(0, 1, (.t 10)), (1, 1, (.t 11)), (5, 1, (.t 13))]⟩)],
  [(10, ⟨none, none, .store 9 (.t 5) (.t 14)⟩)]]
  [[], [], [1], [0, 1, 2], [0, 1, 2, 3], [], [], [1, 2, 6], [0, 1, 2, 3, 4, 5, 6, 7], [], [0, 1, 2, 3, 4, 5, 6, 7, 8, 9]])
 (.seq (.seq (.reg [⟨some 15, none, .faddr 0 (.t 5)⟩,
  ⟨some 16, none, .load false 1 (.t 15)⟩])
 (.block 0
 (.seq (.reg [⟨some 18, none, .bini .eql (.t 16) (.c (.int .i64 1))⟩,
  ⟨some 17, none, .mv (.t 18)⟩])
 (.cond (.t 17)
 (.seq (.reg [⟨some 19, none, .mv (.t 0)⟩,
  ⟨some 20, none, .call 44 [(.t 19), (.c (.int .i64 2))]⟩,
  ⟨some 21, none, .bini .add (.c (.int .i64 1)) (.t 20)⟩,
  ⟨some 22, none, .faddr 2 (.t 5)⟩,
  ⟨none, none, .store 1 (.t 22) (.t 21)⟩])
 (.seq (.reg [⟨some 23, none, .mv (.t 0)⟩,
  ⟨some 24, none, .call 44 [(.t 23), (.c (.int .i64 16))]⟩,
  ⟨some 25, none, .bini .eql (.t 24) (.c (.int .i64 0))⟩])
 (.cond (.t 25)
 (.reg [⟨some 26, none, .mv (.t 0)⟩,
  ⟨some 27, none, .call 44 [(.t 26), (.c (.int .i64 5))]⟩,
  ⟨some 28, none, .faddr 2 (.t 5)⟩,
  ⟨none, none, .store 1 (.t 28) (.t 27)⟩])
 .skip)))
 (.seq (.reg [⟨some 30, none, .bini .eql (.t 16) (.c (.int .i64 3))⟩,
  ⟨some 29, none, .mv (.t 30)⟩])
 (.cond (.t 29)
 (.reg [⟨some 31, none, .mv (.t 0)⟩,
  ⟨some 32, none, .call 84 [(.t 31)]⟩,
  ⟨some 33, none, .faddr 6 (.t 5)⟩,
  ⟨none, none, .store 1 (.t 33) (.t 32)⟩])
 (.seq (.reg [⟨some 35, none, .bini .eql (.t 16) (.c (.int .i64 4))⟩,
  ⟨some 34, none, .mv (.t 35)⟩])
 (.cond (.t 34)
 (.dregE [[(0, ⟨some 36, none, .bslice 1 8 [.int .i64 0] [(0, (.c (.int .i64 0))), (1, (.c (.int .i64 0))), (2, (.c (.int .i64 1))), (3, (.c (.int .i64 31))), (4, (.c (.int .i64 32))), (5, (.c (.int .i64 64))), (6, (.c (.int .i64 100))), (7, (.c (.int .i64 130)))]⟩),
  (1, ⟨some 37, none, .mv (.t 0)⟩),
  (5, ⟨some 41, none, .mv (.t 0)⟩),
  (2, ⟨some 38, none, .call 44 [(.t 37), (.c (.int .i64 8))]⟩),
  (3, ⟨some 39, none, .iaddr 1 (.t 36) (.t 38)⟩),
  (4, ⟨some 40, none, .load false 1 (.t 39)⟩),
  (7, ⟨some 43, none, .faddr 2 (.t 5)⟩),
  (6, ⟨some 42, none, .call 85 [(.t 41)]⟩)],
  [(8, ⟨none, none, .store 1 (.t 43) (.t 40)⟩)],
  [(9, ⟨some 44, none, .faddr 7 (.t 5)⟩)],
  [(10, ⟨none, none, .store 1 (.t 44) (.t 42)⟩)]]
  [[], [], [1], [0, 1, 2], [0, 1, 2, 3], [], [1, 2, 5], [0, 1, 2, 3, 4], [0, 1, 2, 3, 4, 5, 6, 7], [0, 1, 2, 3, 4, 5, 6, 7, 8], [0, 1, 2, 3, 4, 5, 6, 7, 8, 9]])
 (.seq (.reg [⟨some 46, none, .bini .eql (.t 16) (.c (.int .i64 5))⟩,
  ⟨some 45, none, .mv (.t 46)⟩])
 (.cond (.t 45)
 (.reg [⟨some 47, none, .bslice 1 8 [.int .i64 0] [(0, (.c (.int .i64 0))), (1, (.c (.int .i64 1))), (2, (.c (.int .i64 32))), (3, (.c (.int .i64 33))), (4, (.c (.int .i64 128))), (5, (.c (.int .i64 129))), (6, (.c (.int .i64 60))), (7, (.c (.int .i64 64)))]⟩,
  ⟨some 48, none, .mv (.t 0)⟩,
  ⟨some 49, none, .call 44 [(.t 48), (.c (.int .i64 8))]⟩,
  ⟨some 50, none, .iaddr 1 (.t 47) (.t 49)⟩,
  ⟨some 51, none, .load false 1 (.t 50)⟩,
  ⟨some 52, none, .faddr 2 (.t 5)⟩,
  ⟨none, none, .store 1 (.t 52) (.t 51)⟩])
 .skip))))))))))
 (.seq (.reg [⟨some 53, none, .load true 9 (.t 5)⟩,
  ⟨none, none, .store 9 (.t 4) (.t 53)⟩])
 .ret))))
theorem d46 : FnD Tryz.prog 46 2 52 [.cell 4 true 9] c46 := ⟨Tryz.f46, _, Tryz.func46, by kernel_rfl, rfl, rfl, by kernel_rfl, by kernel_rfl⟩
end Go.Proofs.YtemjlopoffjmpaaGreat.Abs
namespace Go.Proofs.YtemjlopoffjmpaaGreat.Abs
open Go
def c58 : ACode :=
 (.seq (.reg [⟨some 3, none, .box (.t 1)⟩,
  ⟨some 4, none, .mv (.c (.emp))⟩,
  ⟨some 5, none, .mv (.c (.int .i64 0))⟩])
 (.seq (.seq (.reg [⟨some 6, none, .faddr 0 (.t 3)⟩,
  ⟨some 7, none, .load false 1 (.t 6)⟩])
 (.block 0
 (.seq (.reg [⟨some 9, none, .bini .eql (.t 7) (.c (.int .i64 1))⟩,
  ⟨some 8, none, .mv (.t 9)⟩])
 (.cond (.t 8)
 (.seq (.reg [⟨some 10, none, .mv (.t 0)⟩,
  ⟨some 11, none, .faddr 5 (.t 3)⟩,
  ⟨some 12, none, .load false 1 (.t 11)⟩,
  ⟨some 13, none, .faddr 2 (.t 3)⟩,
  ⟨some 14, none, .load false 1 (.t 13)⟩,
  ⟨some 15, none, .call 41 [(.t 10), (.t 12), (.t 14)]⟩,
  ⟨some 16, none, .ext (.t 15) 0⟩,
  ⟨some 17, none, .ext (.t 15) 1⟩,
  ⟨some 4, none, .mv (.t 16)⟩,
  ⟨some 5, none, .mv (.t 17)⟩])
 .ret)
 (.seq (.reg [⟨some 19, none, .bini .eql (.t 7) (.c (.int .i64 2))⟩,
  ⟨some 18, none, .mv (.t 19)⟩])
 (.cond (.t 18)
 (.seq (.reg [⟨some 20, none, .mv (.t 0)⟩,
  ⟨some 21, none, .faddr 5 (.t 3)⟩,
  ⟨some 22, none, .load false 1 (.t 21)⟩,
  ⟨some 23, none, .call 98 [(.t 20), (.t 22)]⟩,
  ⟨some 24, none, .ext (.t 23) 0⟩,
  ⟨some 25, none, .ext (.t 23) 1⟩,
  ⟨some 4, none, .mv (.t 24)⟩,
  ⟨some 5, none, .mv (.t 25)⟩])
 .ret)
 (.seq (.reg [⟨some 27, none, .bini .eql (.t 7) (.c (.int .i64 3))⟩,
  ⟨some 26, none, .mv (.t 27)⟩])
 (.cond (.t 26)
 (.seq (.reg [⟨some 28, none, .mv (.t 0)⟩,
  ⟨some 29, none, .faddr 5 (.t 3)⟩,
  ⟨some 30, none, .load false 1 (.t 29)⟩,
  ⟨some 31, none, .faddr 6 (.t 3)⟩,
  ⟨some 32, none, .load false 1 (.t 31)⟩,
  ⟨some 33, none, .call 99 [(.t 28), (.t 30), (.t 32)]⟩,
  ⟨some 34, none, .ext (.t 33) 0⟩,
  ⟨some 35, none, .ext (.t 33) 1⟩,
  ⟨some 4, none, .mv (.t 34)⟩,
  ⟨some 5, none, .mv (.t 35)⟩])
 .ret)
 (.seq (.reg [⟨some 37, none, .bini .eql (.t 7) (.c (.int .i64 4))⟩,
  ⟨some 36, none, .mv (.t 37)⟩])
 (.cond (.t 36)
 (.seq (.reg [⟨some 38, none, .mv (.t 0)⟩,
  ⟨some 39, none, .faddr 5 (.t 3)⟩,
  ⟨some 40, none, .load false 1 (.t 39)⟩,
  ⟨some 41, none, .faddr 2 (.t 3)⟩,
  ⟨some 42, none, .load false 1 (.t 41)⟩,
  ⟨some 43, none, .faddr 7 (.t 3)⟩,
  ⟨some 44, none, .load false 1 (.t 43)⟩,
  ⟨some 45, none, .call 42 [(.t 38), (.t 40), (.t 42), (.t 44)]⟩,
  ⟨some 46, none, .ext (.t 45) 0⟩,
  ⟨some 47, none, .ext (.t 45) 1⟩,
  ⟨some 4, none, .mv (.t 46)⟩,
  ⟨some 5, none, .mv (.t 47)⟩])
 .ret)
 .skip))))))))))
 (.seq (.reg [⟨some 48, none, .mv (.t 0)⟩,
  ⟨some 49, none, .faddr 5 (.t 3)⟩,
  ⟨some 50, none, .load false 1 (.t 49)⟩,
  ⟨some 51, none, .faddr 2 (.t 3)⟩,
  ⟨some 52, none, .load false 1 (.t 51)⟩,
  ⟨some 53, none, .call 100 [(.t 48), (.t 50), (.t 52)]⟩,
  ⟨some 54, none, .ext (.t 53) 0⟩,
  ⟨some 55, none, .ext (.t 53) 1⟩,
  ⟨some 4, none, .mv (.t 54)⟩,
  ⟨some 5, none, .mv (.t 55)⟩])
 .ret)))
theorem d58 : FnD Tryz.prog 58 2 54 [.tmp 4, .tmp 5] c58 := ⟨Tryz.f58, _, Tryz.func58, by kernel_rfl, rfl, rfl, by kernel_rfl, by kernel_rfl⟩
end Go.Proofs.YtemjlopoffjmpaaGreat.Abs
namespace Go.Proofs.YtemjlopoffjmpaaGreat.Abs
open Go
def c109 : ACode :=
 (.seq (.reg [⟨some 2, none, .mv (.c (.emp))⟩,
  ⟨some 3, none, .mv (.c (.bool false))⟩])
 (.seq (.seq (.reg [⟨some 7, none, .mv (.t 0)⟩,
  ⟨some 8, none, .bins .eql (.t 7) (.c (.str []))⟩])
 (.cond (.t 8)
 (.seq (.reg [⟨some 2, none, .mv (.c (.emp))⟩,
  ⟨some 3, none, .mv (.c (.bool true))⟩])
 .ret)
 .skip))
 (.seq (.reg [⟨some 4, none, .mv (.c (.emp))⟩])
 (.seq (.reg [⟨some 5, none, .mv (.c (.int .i64 0))⟩])
 (.seq (.seq (.reg [⟨some 6, none, .mv (.c (.int .i64 0))⟩])
 (.block 0
 (.loop
 (.seq (.seq (.reg [⟨some 9, none, .mv (.t 6)⟩,
  ⟨some 10, none, .mv (.t 0)⟩,
  ⟨some 11, none, .len true (.t 10)⟩,
  ⟨some 12, none, .bini .leq (.t 9) (.t 11)⟩])
 (.cond (.t 12)
 .skip
 (.exit 0)))
 (.seq (.block 1
 (.seq (.seq (.reg [⟨some 15, none, .mv (.t 6)⟩,
  ⟨some 16, none, .mv (.t 0)⟩,
  ⟨some 17, none, .len true (.t 16)⟩,
  ⟨some 18, none, .bini .lss (.t 15) (.t 17)⟩,
  ⟨some 19, none, .mv (.t 18)⟩,
  ⟨some 20, (some (19, true)), .mv (.t 0)⟩,
  ⟨some 21, (some (19, true)), .mv (.t 6)⟩,
  ⟨some 22, (some (19, true)), .indexs (.t 20) (.t 21)⟩,
  ⟨some 23, (some (19, true)), .bini .neq (.t 22) (.c (.int .u8 47))⟩,
  ⟨some 24, none, .pick (.t 19) (.t 23) (.c (.bool false))⟩])
 (.cond (.t 24)
 (.exit 1)
 .skip))
 (.seq (.seq (.reg [⟨some 25, none, .mv (.t 0)⟩,
  ⟨some 26, none, .mv (.t 5)⟩,
  ⟨some 27, none, .mv (.t 6)⟩,
  ⟨some 28, none, .slices (.t 25) (some (.t 26)) (some (.t 27))⟩,
  ⟨some 29, none, .call 127 [(.t 28)]⟩,
  ⟨some 30, none, .un .not (.t 29)⟩,
  ⟨some 31, none, .mv (.t 30)⟩,
  ⟨some 32, (some (31, false)), .mv (.t 4)⟩,
  ⟨some 33, (some (31, false)), .len false (.t 32)⟩,
  ⟨some 34, (some (31, false)), .bini .geq (.t 33) (.c (.int .i64 7))⟩,
  ⟨some 35, none, .pick (.t 31) (.c (.bool true)) (.t 34)⟩])
 (.cond (.t 35)
 (.seq (.reg [⟨some 2, none, .mv (.c (.emp))⟩,
  ⟨some 3, none, .mv (.c (.bool false))⟩])
 .ret)
 .skip))
 (.seq (.reg [⟨some 36, none, .mv (.t 4)⟩,
  ⟨some 37, none, .mv (.t 0)⟩,
  ⟨some 38, none, .mv (.t 5)⟩,
  ⟨some 39, none, .mv (.t 6)⟩,
  ⟨some 40, none, .slices (.t 37) (some (.t 38)) (some (.t 39))⟩,
  ⟨some 41, none, .bslice 1 1 [.str []] [(0, (.t 40))]⟩,
  ⟨some 42, none, .append 1 16 [.str []] (.t 36) (.t 41)⟩,
  ⟨some 4, none, .mv (.t 42)⟩])
 (.reg [⟨some 43, none, .mv (.t 6)⟩,
  ⟨some 44, none, .bini .add (.t 43) (.c (.int .i64 1))⟩,
  ⟨some 5, none, .mv (.t 44)⟩])))))
 (.reg [⟨some 13, none, .mv (.t 6)⟩,
  ⟨some 14, none, .bini .add (.t 13) (.c (.int .i64 1))⟩,
  ⟨some 6, none, .mv (.t 14)⟩]))))))
 (.seq (.reg [⟨some 45, none, .mv (.t 4)⟩,
  ⟨some 2, none, .mv (.t 45)⟩,
  ⟨some 3, none, .mv (.c (.bool true))⟩])
 .ret))))))
theorem d109 : FnD Tryz.prog 109 1 45 [.tmp 2, .tmp 3] c109 := ⟨Tryz.f109, _, Tryz.func109, by kernel_rfl, rfl, rfl, by kernel_rfl, by kernel_rfl⟩
end Go.Proofs.YtemjlopoffjmpaaGreat.Abs
namespace Go.Proofs.YtemjlopoffjmpaaGreat.Abs
open Go
def c42 : ACode :=
 (.seq (.reg [⟨some 8, none, .mv (.c (.emp))⟩,
  ⟨some 9, none, .mv (.c (.int .i64 0))⟩])
 (.seq (.reg [⟨some 15, none, .mv (.t 0)⟩,
  ⟨some 16, none, .mv (.t 1)⟩,
  ⟨some 17, none, .call 82 [(.t 15), (.t 16)]⟩,
  ⟨some 14, none, .mv (.t 17)⟩,
  ⟨some 18, none, .ext (.t 14) 0⟩,
  ⟨some 19, none, .ext (.t 14) 1⟩,
  ⟨some 10, none, .mv (.t 18)⟩,
  ⟨some 11, none, .mv (.t 19)⟩])
 (.seq (.seq (.reg [⟨some 20, none, .mv (.t 11)⟩,
  ⟨some 21, none, .bini .neq (.t 20) (.c (.int .i64 0))⟩])
 (.cond (.t 21)
 (.seq (.reg [⟨some 22, none, .mv (.t 0)⟩,
  ⟨some 23, none, .mv (.t 11)⟩,
  ⟨some 8, none, .mv (.t 22)⟩,
  ⟨some 9, none, .mv (.t 23)⟩])
 .ret)
 .skip))
 (.seq (.seq (.reg [⟨some 24, none, .mv (.t 2)⟩,
  ⟨some 25, none, .bini .lss (.t 24) (.c (.int .i64 0))⟩])
 (.cond (.t 25)
 (.seq (.reg [⟨some 26, none, .mv (.t 0)⟩,
  ⟨some 8, none, .mv (.t 26)⟩,
  ⟨some 9, none, .mv (.c (.int .i64 1))⟩])
 .ret)
 .skip))
 (.seq (.seq (.reg [⟨some 27, none, .mv (.t 2)⟩,
  ⟨some 28, none, .bini .gtr (.t 27) (.c (.int .i64 128))⟩,
  ⟨some 29, none, .mv (.t 28)⟩,
  ⟨some 30, (some (29, false)), .mv (.t 3)⟩,
  ⟨some 31, (some (29, false)), .len true (.t 30)⟩,
  ⟨some 32, (some (29, false)), .mv (.t 2)⟩,
  ⟨some 33, (some (29, false)), .bini .sub (.c (.int .i64 128)) (.t 32)⟩,
  ⟨some 34, (some (29, false)), .bini .gtr (.t 31) (.t 33)⟩,
  ⟨some 35, none, .pick (.t 29) (.c (.bool true)) (.t 34)⟩])
 (.cond (.t 35)
 (.seq (.reg [⟨some 36, none, .mv (.t 0)⟩,
  ⟨some 8, none, .mv (.t 36)⟩,
  ⟨some 9, none, .mv (.c (.int .i64 8))⟩])
 .ret)
 .skip))
 (.seq (.seq (.reg [⟨some 37, none, .mv (.t 3)⟩,
  ⟨some 38, none, .bins .eql (.t 37) (.c (.str []))⟩])
 (.cond (.t 38)
 (.seq (.reg [⟨some 39, none, .mv (.t 0)⟩,
  ⟨some 8, none, .mv (.t 39)⟩,
  ⟨some 9, none, .mv (.c (.int .i64 0))⟩])
 .ret)
 .skip))
 (.seq (.reg [⟨some 40, none, .mv (.t 0)⟩,
  ⟨some 41, none, .mv (.t 10)⟩,
  ⟨some 42, none, .iaddr 5 (.t 40) (.t 41)⟩,
  ⟨some 43, none, .load true 5 (.t 42)⟩,
  ⟨some 12, none, .alloc [.int .i64 0, .int .i64 0, .str [], .str [], .int .i64 0]⟩,
  ⟨none, none, .store 5 (.t 12) (.t 43)⟩])
 (.seq (.reg [⟨some 44, none, .faddr 3 (.t 12)⟩,
  ⟨some 45, none, .load false 1 (.t 44)⟩,
  ⟨some 46, none, .faddr 3 (.t 12)⟩,
  ⟨some 47, none, .load false 1 (.t 46)⟩,
  ⟨some 48, none, .len true (.t 47)⟩,
  ⟨some 49, none, .mv (.t 2)⟩,
  ⟨some 50, none, .mv (.t 3)⟩,
  ⟨some 51, none, .len true (.t 50)⟩,
  ⟨some 52, none, .bini .add (.t 49) (.t 51)⟩,
  ⟨some 53, none, .max2 (.t 48) (.t 52)⟩,
  ⟨some 54, none, .call 83 [(.t 45), (.t 53)]⟩,
  ⟨some 55, none, .convsb (.t 54)⟩,
  ⟨some 13, none, .mv (.t 55)⟩])
 (.seq (.reg [⟨some 56, none, .mv (.t 13)⟩,
  ⟨some 57, none, .mv (.t 2)⟩,
  ⟨some 58, none, .slicel 1 (.t 56) (some (.t 57)) none⟩,
  ⟨some 59, none, .mv (.t 3)⟩,
  ⟨some 60, none, .copy 1 (.t 58) (.t 59)⟩])
 (.seq (.reg [⟨some 61, none, .mv (.t 13)⟩,
  ⟨some 62, none, .convbs (.t 61)⟩,
  ⟨some 63, none, .faddr 3 (.t 12)⟩,
  ⟨none, none, .store 1 (.t 63) (.t 62)⟩])
 (.seq (.reg [⟨some 64, none, .mv (.t 0)⟩,
  ⟨some 65, none, .mv (.t 10)⟩,
  ⟨some 66, none, .load true 5 (.t 12)⟩,
  ⟨some 67, none, .call 81 [(.t 64), (.t 65), (.t 66)]⟩,
  ⟨some 8, none, .mv (.t 67)⟩,
  ⟨some 9, none, .mv (.c (.int .i64 0))⟩])
 .ret)))))))))))
theorem d42 : FnD Tryz.prog 42 4 64 [.tmp 8, .tmp 9] c42 := ⟨Tryz.f42, _, Tryz.func42, by kernel_rfl, rfl, rfl, by kernel_rfl, by kernel_rfl⟩
end Go.Proofs.YtemjlopoffjmpaaGreat.Abs
namespace Go.Proofs.YtemjlopoffjmpaaGreat.Abs
open Go
def c98 : ACode :=
 (.seq (.reg [⟨some 4, none, .mv (.c (.emp))⟩,
  ⟨some 5, none, .mv (.c (.int .i64 0))⟩])
 (.seq (.reg [⟨some 9, none, .mv (.t 0)⟩,
  ⟨some 10, none, .mv (.t 1)⟩,
  ⟨some 11, none, .call 112 [(.t 9), (.t 10)]⟩,
  ⟨some 8, none, .mv (.t 11)⟩,
  ⟨some 12, none, .ext (.t 8) 0⟩,
  ⟨some 13, none, .ext (.t 8) 1⟩,
  ⟨some 6, none, .mv (.t 12)⟩,
  ⟨some 7, none, .mv (.t 13)⟩])
 (.seq (.seq (.reg [⟨some 14, none, .mv (.t 7)⟩,
  ⟨some 15, none, .bini .neq (.t 14) (.c (.int .i64 0))⟩])
 (.cond (.t 15)
 (.seq (.reg [⟨some 16, none, .mv (.t 0)⟩,
  ⟨some 17, none, .mv (.t 7)⟩,
  ⟨some 4, none, .mv (.t 16)⟩,
  ⟨some 5, none, .mv (.t 17)⟩])
 .ret)
 .skip))
 (.seq (.seq (.reg [⟨some 18, none, .mv (.t 6)⟩,
  ⟨some 19, none, .bini .eql (.t 18) (.c (.int .i64 0))⟩])
 (.cond (.t 19)
 (.seq (.reg [⟨some 20, none, .mv (.t 0)⟩,
  ⟨some 4, none, .mv (.t 20)⟩,
  ⟨some 5, none, .mv (.c (.int .i64 4))⟩])
 .ret)
 .skip))
 (.seq (.seq (.reg [⟨some 21, none, .mv (.t 0)⟩,
  ⟨some 22, none, .mv (.t 6)⟩,
  ⟨some 23, none, .call 111 [(.t 21), (.t 22)]⟩,
  ⟨some 24, none, .len false (.t 23)⟩,
  ⟨some 25, none, .bini .gtr (.t 24) (.c (.int .i64 0))⟩])
 (.cond (.t 25)
 (.seq (.reg [⟨some 26, none, .mv (.t 0)⟩,
  ⟨some 4, none, .mv (.t 26)⟩,
  ⟨some 5, none, .mv (.c (.int .i64 6))⟩])
 .ret)
 .skip))
 (.seq (.reg [⟨some 27, none, .mv (.t 0)⟩,
  ⟨some 28, none, .mv (.t 6)⟩,
  ⟨some 29, none, .build [.int .i64 0, .int .i64 0, .str [], .str [], .int .i64 0] []⟩,
  ⟨some 30, none, .call 81 [(.t 27), (.t 28), (.t 29)]⟩,
  ⟨some 4, none, .mv (.t 30)⟩,
  ⟨some 5, none, .mv (.c (.int .i64 0))⟩])
 .ret))))))
theorem d98 : FnD Tryz.prog 98 2 29 [.tmp 4, .tmp 5] c98 := ⟨Tryz.f98, _, Tryz.func98, by kernel_rfl, rfl, rfl, by kernel_rfl, by kernel_rfl⟩
end Go.Proofs.YtemjlopoffjmpaaGreat.Abs
namespace Go.Proofs.YtemjlopoffjmpaaGreat.Abs
open Go
def c99 : ACode :=
 (.seq (.reg [⟨some 6, none, .mv (.c (.emp))⟩,
  ⟨some 7, none, .mv (.c (.int .i64 0))⟩])
 (.seq (.reg [⟨some 16, none, .mv (.t 0)⟩,
  ⟨some 17, none, .mv (.t 1)⟩,
  ⟨some 18, none, .call 112 [(.t 16), (.t 17)]⟩,
  ⟨some 15, none, .mv (.t 18)⟩,
  ⟨some 19, none, .ext (.t 15) 0⟩,
  ⟨some 20, none, .ext (.t 15) 1⟩,
  ⟨some 8, none, .mv (.t 19)⟩,
  ⟨some 9, none, .mv (.t 20)⟩])
 (.seq (.seq (.reg [⟨some 21, none, .mv (.t 9)⟩,
  ⟨some 22, none, .bini .neq (.t 21) (.c (.int .i64 0))⟩])
 (.cond (.t 22)
 (.seq (.reg [⟨some 23, none, .mv (.t 0)⟩,
  ⟨some 24, none, .mv (.t 9)⟩,
  ⟨some 6, none, .mv (.t 23)⟩,
  ⟨some 7, none, .mv (.t 24)⟩])
 .ret)
 .skip))
 (.seq (.seq (.reg [⟨some 25, none, .mv (.t 8)⟩,
  ⟨some 26, none, .bini .eql (.t 25) (.c (.int .i64 0))⟩])
 (.cond (.t 26)
 (.seq (.reg [⟨some 27, none, .mv (.t 0)⟩,
  ⟨some 6, none, .mv (.t 27)⟩,
  ⟨some 7, none, .mv (.c (.int .i64 4))⟩])
 .ret)
 .skip))
 (.seq (.reg [⟨some 29, none, .mv (.t 0)⟩,
  ⟨some 30, none, .mv (.t 2)⟩,
  ⟨some 31, none, .call 78 [(.t 29), (.t 30)]⟩,
  ⟨some 28, none, .mv (.t 31)⟩,
  ⟨some 32, none, .ext (.t 28) 0⟩,
  ⟨some 33, none, .ext (.t 28) 1⟩,
  ⟨some 34, none, .ext (.t 28) 2⟩,
  ⟨some 10, none, .mv (.t 32)⟩,
  ⟨some 11, none, .mv (.t 33)⟩,
  ⟨some 9, none, .mv (.t 34)⟩])
 (.seq (.seq (.reg [⟨some 35, none, .mv (.t 9)⟩,
  ⟨some 36, none, .bini .neq (.t 35) (.c (.int .i64 0))⟩])
 (.cond (.t 36)
 (.seq (.reg [⟨some 37, none, .mv (.t 0)⟩,
  ⟨some 38, none, .mv (.t 9)⟩,
  ⟨some 6, none, .mv (.t 37)⟩,
  ⟨some 7, none, .mv (.t 38)⟩])
 .ret)
 .skip))
 (.seq (.reg [⟨some 40, none, .mv (.t 0)⟩,
  ⟨some 41, none, .mv (.t 10)⟩,
  ⟨some 42, none, .mv (.t 11)⟩,
  ⟨some 43, none, .call 79 [(.t 40), (.t 41), (.t 42)]⟩,
  ⟨some 39, none, .mv (.t 43)⟩,
  ⟨some 44, none, .ext (.t 39) 0⟩,
  ⟨some 45, none, .ext (.t 39) 1⟩,
  ⟨some 12, none, .mv (.t 44)⟩,
  ⟨some 13, none, .mv (.t 45)⟩])
 (.seq (.seq (.reg [⟨some 46, none, .mv (.t 13)⟩,
  ⟨some 47, none, .mv (.t 46)⟩,
  ⟨some 48, (some (47, true)), .mv (.t 12)⟩,
  ⟨some 49, (some (47, true)), .mv (.t 8)⟩,
  ⟨some 50, (some (47, true)), .bini .eql (.t 48) (.t 49)⟩,
  ⟨some 51, none, .pick (.t 47) (.t 50) (.c (.bool false))⟩])
 (.cond (.t 51)
 (.seq (.reg [⟨some 52, none, .mv (.t 0)⟩,
  ⟨some 6, none, .mv (.t 52)⟩,
  ⟨some 7, none, .mv (.c (.int .i64 0))⟩])
 .ret)
 .skip))
 (.seq (.seq (.reg [⟨some 53, none, .mv (.t 13)⟩])
 (.cond (.t 53)
 (.seq (.reg [⟨some 54, none, .mv (.t 0)⟩,
  ⟨some 6, none, .mv (.t 54)⟩,
  ⟨some 7, none, .mv (.c (.int .i64 3))⟩])
 .ret)
 .skip))
 (.seq (.seq (.reg [⟨some 55, none, .mv (.t 0)⟩,
  ⟨some 56, none, .mv (.t 10)⟩,
  ⟨some 57, none, .mv (.t 8)⟩,
  ⟨some 58, none, .call 126 [(.t 55), (.t 56), (.t 57)]⟩])
 (.cond (.t 58)
 (.seq (.reg [⟨some 59, none, .mv (.t 0)⟩,
  ⟨some 6, none, .mv (.t 59)⟩,
  ⟨some 7, none, .mv (.c (.int .i64 7))⟩])
 .ret)
 .skip))
 (.seq (.reg [⟨some 60, none, .mv (.t 0)⟩,
  ⟨some 61, none, .mv (.t 8)⟩,
  ⟨some 62, none, .iaddr 5 (.t 60) (.t 61)⟩,
  ⟨some 63, none, .load true 5 (.t 62)⟩,
  ⟨some 14, none, .alloc [.int .i64 0, .int .i64 0, .str [], .str [], .int .i64 0]⟩,
  ⟨none, none, .store 5 (.t 14) (.t 63)⟩])
 (.seq (.reg [⟨some 64, none, .mv (.t 10)⟩,
  ⟨some 65, none, .mv (.t 11)⟩,
  ⟨some 66, none, .faddr 1 (.t 14)⟩,
  ⟨none, none, .store 1 (.t 66) (.t 64)⟩,
  ⟨some 67, none, .faddr 2 (.t 14)⟩,
  ⟨none, none, .store 1 (.t 67) (.t 65)⟩])
 (.seq (.reg [⟨some 68, none, .mv (.t 0)⟩,
  ⟨some 69, none, .mv (.t 8)⟩,
  ⟨some 70, none, .load true 5 (.t 14)⟩,
  ⟨some 71, none, .call 81 [(.t 68), (.t 69), (.t 70)]⟩,
  ⟨some 6, none, .mv (.t 71)⟩,
  ⟨some 7, none, .mv (.c (.int .i64 0))⟩])
 .ret)))))))))))))
theorem d99 : FnD Tryz.prog 99 3 69 [.tmp 6, .tmp 7] c99 := ⟨Tryz.f99, _, Tryz.func99, by kernel_rfl, rfl, rfl, by kernel_rfl, by kernel_rfl⟩
end Go.Proofs.YtemjlopoffjmpaaGreat.Abs
namespace Go.Proofs.YtemjlopoffjmpaaGreat.Abs
open Go
def c100 : ACode :=
 (.seq (.reg [⟨some 6, none, .mv (.c (.emp))⟩,
  ⟨some 7, none, .mv (.c (.int .i64 0))⟩])
 (.seq (.reg [⟨some 12, none, .mv (.t 0)⟩,
  ⟨some 13, none, .mv (.t 1)⟩,
  ⟨some 14, none, .call 82 [(.t 12), (.t 13)]⟩,
  ⟨some 11, none, .mv (.t 14)⟩,
  ⟨some 15, none, .ext (.t 11) 0⟩,
  ⟨some 16, none, .ext (.t 11) 1⟩,
  ⟨some 8, none, .mv (.t 15)⟩,
  ⟨some 9, none, .mv (.t 16)⟩])
 (.seq (.seq (.reg [⟨some 17, none, .mv (.t 9)⟩,
  ⟨some 18, none, .bini .neq (.t 17) (.c (.int .i64 0))⟩])
 (.cond (.t 18)
 (.seq (.reg [⟨some 19, none, .mv (.t 0)⟩,
  ⟨some 20, none, .mv (.t 9)⟩,
  ⟨some 6, none, .mv (.t 19)⟩,
  ⟨some 7, none, .mv (.t 20)⟩])
 .ret)
 .skip))
 (.seq (.seq (.reg [⟨some 21, none, .mv (.t 2)⟩,
  ⟨some 22, none, .bini .lss (.t 21) (.c (.int .i64 0))⟩])
 (.cond (.t 22)
 (.seq (.reg [⟨some 23, none, .mv (.t 0)⟩,
  ⟨some 6, none, .mv (.t 23)⟩,
  ⟨some 7, none, .mv (.c (.int .i64 1))⟩])
 .ret)
 .skip))
 (.seq (.seq (.reg [⟨some 24, none, .mv (.t 2)⟩,
  ⟨some 25, none, .bini .gtr (.t 24) (.c (.int .i64 128))⟩])
 (.cond (.t 25)
 (.seq (.reg [⟨some 26, none, .mv (.t 0)⟩,
  ⟨some 6, none, .mv (.t 26)⟩,
  ⟨some 7, none, .mv (.c (.int .i64 8))⟩])
 .ret)
 .skip))
 (.seq (.reg [⟨some 27, none, .mv (.t 0)⟩,
  ⟨some 28, none, .mv (.t 8)⟩,
  ⟨some 29, none, .iaddr 5 (.t 27) (.t 28)⟩,
  ⟨some 30, none, .load true 5 (.t 29)⟩,
  ⟨some 10, none, .alloc [.int .i64 0, .int .i64 0, .str [], .str [], .int .i64 0]⟩,
  ⟨none, none, .store 5 (.t 10) (.t 30)⟩])
 (.seq (.reg [⟨some 31, none, .faddr 3 (.t 10)⟩,
  ⟨some 32, none, .load false 1 (.t 31)⟩,
  ⟨some 33, none, .mv (.t 2)⟩,
  ⟨some 34, none, .call 83 [(.t 32), (.t 33)]⟩,
  ⟨some 35, none, .faddr 3 (.t 10)⟩,
  ⟨none, none, .store 1 (.t 35) (.t 34)⟩])
 (.seq (.reg [⟨some 36, none, .mv (.t 0)⟩,
  ⟨some 37, none, .mv (.t 8)⟩,
  ⟨some 38, none, .load true 5 (.t 10)⟩,
  ⟨some 39, none, .call 81 [(.t 36), (.t 37), (.t 38)]⟩,
  ⟨some 6, none, .mv (.t 39)⟩,
  ⟨some 7, none, .mv (.c (.int .i64 0))⟩])
 .ret))))))))
theorem d100 : FnD Tryz.prog 100 3 37 [.tmp 6, .tmp 7] c100 := ⟨Tryz.f100, _, Tryz.func100, by kernel_rfl, rfl, rfl, by kernel_rfl, by kernel_rfl⟩
end Go.Proofs.YtemjlopoffjmpaaGreat.Abs
namespace Go.Proofs.YtemjlopoffjmpaaGreat.Abs
open Go
def c41 : ACode :=
 (.seq (.reg [⟨some 6, none, .mv (.c (.emp))⟩,
  ⟨some 7, none, .mv (.c (.int .i64 0))⟩])
 (.seq (.seq (.reg [⟨some 15, none, .mv (.t 2)⟩,
  ⟨some 16, none, .bini .neq (.t 15) (.c (.int .i64 1))⟩,
  ⟨some 17, none, .mv (.t 16)⟩,
  ⟨some 18, (some (17, true)), .mv (.t 2)⟩,
  ⟨some 19, (some (17, true)), .bini .neq (.t 18) (.c (.int .i64 2))⟩,
  ⟨some 20, none, .pick (.t 17) (.t 19) (.c (.bool false))⟩])
 (.cond (.t 20)
 (.seq (.reg [⟨some 21, none, .mv (.t 0)⟩,
  ⟨some 6, none, .mv (.t 21)⟩,
  ⟨some 7, none, .mv (.c (.int .i64 1))⟩])
 .ret)
 .skip))
 (.seq (.reg [⟨some 23, none, .mv (.t 0)⟩,
  ⟨some 24, none, .mv (.t 1)⟩,
  ⟨some 25, none, .call 78 [(.t 23), (.t 24)]⟩,
  ⟨some 22, none, .mv (.t 25)⟩,
  ⟨some 26, none, .ext (.t 22) 0⟩,
  ⟨some 27, none, .ext (.t 22) 1⟩,
  ⟨some 28, none, .ext (.t 22) 2⟩,
  ⟨some 8, none, .mv (.t 26)⟩,
  ⟨some 9, none, .mv (.t 27)⟩,
  ⟨some 10, none, .mv (.t 28)⟩])
 (.seq (.seq (.reg [⟨some 29, none, .mv (.t 10)⟩,
  ⟨some 30, none, .bini .neq (.t 29) (.c (.int .i64 0))⟩])
 (.cond (.t 30)
 (.seq (.reg [⟨some 31, none, .mv (.t 0)⟩,
  ⟨some 32, none, .mv (.t 10)⟩,
  ⟨some 6, none, .mv (.t 31)⟩,
  ⟨some 7, none, .mv (.t 32)⟩])
 .ret)
 .skip))
 (.seq (.reg [⟨some 34, none, .mv (.t 0)⟩,
  ⟨some 35, none, .mv (.t 8)⟩,
  ⟨some 36, none, .mv (.t 9)⟩,
  ⟨some 37, none, .call 79 [(.t 34), (.t 35), (.t 36)]⟩,
  ⟨some 33, none, .mv (.t 37)⟩,
  ⟨some 38, none, .ext (.t 33) 0⟩,
  ⟨some 39, none, .ext (.t 33) 1⟩,
  ⟨some 11, none, .mv (.t 38)⟩,
  ⟨some 12, none, .mv (.t 39)⟩])
 (.seq (.seq (.reg [⟨some 40, none, .mv (.t 12)⟩])
 (.cond (.t 40)
 (.seq (.reg [⟨some 41, none, .mv (.t 0)⟩,
  ⟨some 6, none, .mv (.t 41)⟩,
  ⟨some 7, none, .mv (.c (.int .i64 3))⟩])
 .ret)
 .skip))
 (.seq (.reg [⟨some 43, none, .mv (.t 0)⟩,
  ⟨some 44, none, .call 80 [(.t 43)]⟩,
  ⟨some 42, none, .mv (.t 44)⟩,
  ⟨some 45, none, .ext (.t 42) 0⟩,
  ⟨some 46, none, .ext (.t 42) 1⟩,
  ⟨some 13, none, .mv (.t 45)⟩,
  ⟨some 14, none, .mv (.t 46)⟩])
 (.seq (.seq (.reg [⟨some 47, none, .mv (.t 14)⟩,
  ⟨some 48, none, .un .not (.t 47)⟩])
 (.cond (.t 48)
 (.seq (.reg [⟨some 49, none, .mv (.t 0)⟩,
  ⟨some 6, none, .mv (.t 49)⟩,
  ⟨some 7, none, .mv (.c (.int .i64 8))⟩])
 .ret)
 .skip))
 (.seq (.reg [⟨some 50, none, .mv (.t 0)⟩,
  ⟨some 51, none, .mv (.t 13)⟩,
  ⟨some 52, none, .mv (.t 2)⟩,
  ⟨some 53, none, .mv (.t 8)⟩,
  ⟨some 54, none, .mv (.t 9)⟩,
  ⟨some 55, none, .build [.int .i64 0, .int .i64 0, .str [], .str [], .int .i64 0] [(0, 1, (.t 52)), (1, 1, (.t 53)), (2, 1, (.t 54))]⟩,
  ⟨some 56, none, .call 81 [(.t 50), (.t 51), (.t 55)]⟩,
  ⟨some 6, none, .mv (.t 56)⟩,
  ⟨some 7, none, .mv (.c (.int .i64 0))⟩])
 .ret)))))))))
theorem d41 : FnD Tryz.prog 41 3 54 [.tmp 6, .tmp 7] c41 := ⟨Tryz.f41, _, Tryz.func41, by kernel_rfl, rfl, rfl, by kernel_rfl, by kernel_rfl⟩
end Go.Proofs.YtemjlopoffjmpaaGreat.Abs
namespace Go.Proofs.YtemjlopoffjmpaaGreat.Abs
open Go
def c126 : ACode :=
 (.seq (.reg [⟨some 6, none, .mv (.c (.bool false))⟩])
 (.seq (.seq (.reg [⟨some 8, none, .mv (.t 0)⟩,
  ⟨some 9, none, .mv (.t 1)⟩,
  ⟨some 10, none, .call 157 [(.t 8), (.t 9)]⟩,
  ⟨some 11, none, .un .not (.t 10)⟩,
  ⟨some 12, none, .mv (.t 11)⟩,
  ⟨some 13, (some (12, false)), .mv (.t 0)⟩,
  ⟨some 14, (some (12, false)), .mv (.t 2)⟩,
  ⟨some 15, (some (12, false)), .call 157 [(.t 13), (.t 14)]⟩,
  ⟨some 16, (some (12, false)), .un .not (.t 15)⟩,
  ⟨some 17, none, .pick (.t 12) (.c (.bool true)) (.t 16)⟩])
 (.cond (.t 17)
 (.seq (.reg [⟨some 6, none, .mv (.c (.bool false))⟩])
 .ret)
 .skip))
 (.seq (.seq (.reg [⟨some 7, none, .mv (.c (.int .i64 0))⟩])
 (.block 0
 (.loop
 (.seq (.seq (.reg [⟨some 18, none, .mv (.t 7)⟩,
  ⟨some 19, none, .mv (.t 0)⟩,
  ⟨some 20, none, .len false (.t 19)⟩,
  ⟨some 21, none, .bini .lss (.t 18) (.t 20)⟩,
  ⟨some 22, none, .mv (.t 21)⟩,
  ⟨some 23, (some (22, true)), .mv (.t 1)⟩,
  ⟨some 24, (some (22, true)), .mv (.t 2)⟩,
  ⟨some 25, (some (22, true)), .bini .neq (.t 23) (.t 24)⟩,
  ⟨some 26, none, .pick (.t 22) (.t 25) (.c (.bool false))⟩,
  ⟨some 27, none, .mv (.t 26)⟩,
  ⟨some 28, (some (27, true)), .mv (.t 1)⟩,
  ⟨some 29, (some (27, true)), .bini .neq (.t 28) (.c (.int .i64 0))⟩,
  ⟨some 30, none, .pick (.t 27) (.t 29) (.c (.bool false))⟩])
 (.cond (.t 30)
 .skip
 (.exit 0)))
 (.seq (.block 1
 (.reg [⟨some 33, none, .mv (.t 0)⟩,
  ⟨some 34, none, .mv (.t 1)⟩,
  ⟨some 35, none, .iaddr 5 (.t 33) (.t 34)⟩,
  ⟨some 36, none, .faddr 1 (.t 35)⟩,
  ⟨some 37, none, .load false 1 (.t 36)⟩,
  ⟨some 1, none, .mv (.t 37)⟩]))
 (.reg [⟨some 31, none, .mv (.t 7)⟩,
  ⟨some 32, none, .bini .add (.t 31) (.c (.int .i64 1))⟩,
  ⟨some 7, none, .mv (.t 32)⟩]))))))
 (.seq (.reg [⟨some 38, none, .mv (.t 1)⟩,
  ⟨some 39, none, .mv (.t 2)⟩,
  ⟨some 40, none, .bini .eql (.t 38) (.t 39)⟩,
  ⟨some 6, none, .mv (.t 40)⟩])
 .ret))))
theorem d126 : FnD Tryz.prog 126 3 38 [.tmp 6] c126 := ⟨Tryz.f126, _, Tryz.func126, by kernel_rfl, rfl, rfl, by kernel_rfl, by kernel_rfl⟩
end Go.Proofs.YtemjlopoffjmpaaGreat.Abs
namespace Go.Proofs.YtemjlopoffjmpaaGreat.Abs
open Go
def c78 : ACode :=
 (.seq (.reg [⟨some 4, none, .mv (.c (.int .i64 0))⟩,
  ⟨some 5, none, .mv (.c (.str []))⟩,
  ⟨some 6, none, .mv (.c (.int .i64 0))⟩])
 (.seq (.reg [⟨some 12, none, .mv (.t 1)⟩,
  ⟨some 13, none, .call 109 [(.t 12)]⟩,
  ⟨some 11, none, .mv (.t 13)⟩,
  ⟨some 14, none, .ext (.t 11) 0⟩,
  ⟨some 15, none, .ext (.t 11) 1⟩,
  ⟨some 7, none, .mv (.t 14)⟩,
  ⟨some 8, none, .mv (.t 15)⟩])
 (.seq (.seq (.reg [⟨some 16, none, .mv (.t 8)⟩,
  ⟨some 17, none, .un .not (.t 16)⟩,
  ⟨some 18, none, .mv (.t 17)⟩,
  ⟨some 19, (some (18, false)), .mv (.t 7)⟩,
  ⟨some 20, (some (18, false)), .len false (.t 19)⟩,
  ⟨some 21, (some (18, false)), .bini .eql (.t 20) (.c (.int .i64 0))⟩,
  ⟨some 22, none, .pick (.t 18) (.c (.bool true)) (.t 21)⟩])
 (.cond (.t 22)
 (.seq (.reg [⟨some 4, none, .mv (.c (.int .i64 0))⟩,
  ⟨some 5, none, .mv (.c (.str []))⟩,
  ⟨some 6, none, .mv (.c (.int .i64 1))⟩])
 .ret)
 .skip))
 (.seq (.reg [⟨some 24, none, .mv (.t 0)⟩,
  ⟨some 25, none, .mv (.t 7)⟩,
  ⟨some 26, none, .mv (.t 7)⟩,
  ⟨some 27, none, .len false (.t 26)⟩,
  ⟨some 28, none, .bini .sub (.t 27) (.c (.int .i64 1))⟩,
  ⟨some 29, none, .slicel 1 (.t 25) none (some (.t 28))⟩,
  ⟨some 30, none, .call 110 [(.t 24), (.t 29)]⟩,
  ⟨some 23, none, .mv (.t 30)⟩,
  ⟨some 31, none, .ext (.t 23) 0⟩,
  ⟨some 32, none, .ext (.t 23) 1⟩,
  ⟨some 9, none, .mv (.t 31)⟩,
  ⟨some 10, none, .mv (.t 32)⟩])
 (.seq (.seq (.reg [⟨some 33, none, .mv (.t 10)⟩,
  ⟨some 34, none, .bini .neq (.t 33) (.c (.int .i64 0))⟩])
 (.cond (.t 34)
 (.seq (.reg [⟨some 35, none, .mv (.t 10)⟩,
  ⟨some 4, none, .mv (.c (.int .i64 0))⟩,
  ⟨some 5, none, .mv (.c (.str []))⟩,
  ⟨some 6, none, .mv (.t 35)⟩])
 .ret)
 .skip))
 (.seq (.seq (.reg [⟨some 36, none, .mv (.t 9)⟩,
  ⟨some 37, none, .mv (.t 0)⟩,
  ⟨some 38, none, .len false (.t 37)⟩,
  ⟨some 39, none, .bini .geq (.t 36) (.t 38)⟩,
  ⟨some 40, none, .mv (.t 39)⟩,
  ⟨some 41, (some (40, false)), .mv (.t 0)⟩,
  ⟨some 42, (some (40, false)), .mv (.t 9)⟩,
  ⟨some 43, (some (40, false)), .iaddr 5 (.t 41) (.t 42)⟩,
  ⟨some 44, (some (40, false)), .faddr 0 (.t 43)⟩,
  ⟨some 45, (some (40, false)), .load false 1 (.t 44)⟩,
  ⟨some 46, (some (40, false)), .bini .neq (.t 45) (.c (.int .i64 2))⟩,
  ⟨some 47, none, .pick (.t 40) (.c (.bool true)) (.t 46)⟩])
 (.cond (.t 47)
 (.seq (.reg [⟨some 4, none, .mv (.c (.int .i64 0))⟩,
  ⟨some 5, none, .mv (.c (.str []))⟩,
  ⟨some 6, none, .mv (.c (.int .i64 5))⟩])
 .ret)
 .skip))
 (.seq (.dreg [⟨some 48, none, .mv (.t 9)⟩,
  ⟨some 49, none, .mv (.t 7)⟩,
  ⟨some 50, none, .mv (.t 7)⟩,
  ⟨some 51, none, .len false (.t 50)⟩,
  ⟨some 52, none, .bini .sub (.t 51) (.c (.int .i64 1))⟩,
  ⟨some 53, none, .iaddr 1 (.t 49) (.t 52)⟩,
  ⟨some 54, none, .load false 1 (.t 53)⟩,
  ⟨some 4, none, .mv (.t 48)⟩,
  ⟨some 5, none, .mv (.t 54)⟩,
  ⟨some 6, none, .mv (.c (.int .i64 0))⟩])
 .ret)))))))
theorem d78 : FnD Tryz.prog 78 2 53 [.tmp 4, .tmp 5, .tmp 6] c78 := ⟨Tryz.f78, _, Tryz.func78, by kernel_rfl, rfl, rfl, by kernel_rfl, by kernel_rfl⟩
end Go.Proofs.YtemjlopoffjmpaaGreat.Abs
namespace Go.Proofs.YtemjlopoffjmpaaGreat.Abs
open Go
def c82 : ACode :=
 (.seq (.reg [⟨some 4, none, .mv (.c (.int .i64 0))⟩,
  ⟨some 5, none, .mv (.c (.int .i64 0))⟩])
 (.seq (.reg [⟨some 9, none, .mv (.t 0)⟩,
  ⟨some 10, none, .mv (.t 1)⟩,
  ⟨some 11, none, .call 112 [(.t 9), (.t 10)]⟩,
  ⟨some 8, none, .mv (.t 11)⟩,
  ⟨some 12, none, .ext (.t 8) 0⟩,
  ⟨some 13, none, .ext (.t 8) 1⟩,
  ⟨some 6, none, .mv (.t 12)⟩,
  ⟨some 7, none, .mv (.t 13)⟩])
 (.seq (.seq (.reg [⟨some 14, none, .mv (.t 7)⟩,
  ⟨some 15, none, .bini .eql (.t 14) (.c (.int .i64 0))⟩,
  ⟨some 16, none, .mv (.t 15)⟩,
  ⟨some 17, (some (16, true)), .mv (.t 0)⟩,
  ⟨some 18, (some (16, true)), .mv (.t 6)⟩,
  ⟨some 19, (some (16, true)), .iaddr 5 (.t 17) (.t 18)⟩,
  ⟨some 20, (some (16, true)), .faddr 0 (.t 19)⟩,
  ⟨some 21, (some (16, true)), .load false 1 (.t 20)⟩,
  ⟨some 22, (some (16, true)), .bini .eql (.t 21) (.c (.int .i64 2))⟩,
  ⟨some 23, none, .pick (.t 16) (.t 22) (.c (.bool false))⟩])
 (.cond (.t 23)
 (.seq (.reg [⟨some 4, none, .mv (.c (.int .i64 0))⟩,
  ⟨some 5, none, .mv (.c (.int .i64 4))⟩])
 .ret)
 .skip))
 (.seq (.reg [⟨some 24, none, .mv (.t 6)⟩,
  ⟨some 25, none, .mv (.t 7)⟩,
  ⟨some 4, none, .mv (.t 24)⟩,
  ⟨some 5, none, .mv (.t 25)⟩])
 .ret))))
theorem d82 : FnD Tryz.prog 82 2 24 [.tmp 4, .tmp 5] c82 := ⟨Tryz.f82, _, Tryz.func82, by kernel_rfl, rfl, rfl, by kernel_rfl, by kernel_rfl⟩
end Go.Proofs.YtemjlopoffjmpaaGreat.Abs
namespace Go.Proofs.YtemjlopoffjmpaaGreat.Abs
open Go
def c112 : ACode :=
 (.seq (.reg [⟨some 4, none, .mv (.c (.int .i64 0))⟩,
  ⟨some 5, none, .mv (.c (.int .i64 0))⟩])
 (.seq (.reg [⟨some 9, none, .mv (.t 1)⟩,
  ⟨some 10, none, .call 109 [(.t 9)]⟩,
  ⟨some 8, none, .mv (.t 10)⟩,
  ⟨some 11, none, .ext (.t 8) 0⟩,
  ⟨some 12, none, .ext (.t 8) 1⟩,
  ⟨some 6, none, .mv (.t 11)⟩,
  ⟨some 7, none, .mv (.t 12)⟩])
 (.seq (.seq (.reg [⟨some 13, none, .mv (.t 7)⟩,
  ⟨some 14, none, .un .not (.t 13)⟩])
 (.cond (.t 14)
 (.seq (.reg [⟨some 4, none, .mv (.c (.int .i64 0))⟩,
  ⟨some 5, none, .mv (.c (.int .i64 1))⟩])
 .ret)
 .skip))
 (.seq (.reg [⟨some 15, none, .mv (.t 0)⟩,
  ⟨some 16, none, .mv (.t 6)⟩,
  ⟨some 17, none, .call 110 [(.t 15), (.t 16)]⟩,
  ⟨some 18, none, .ext (.t 17) 0⟩,
  ⟨some 19, none, .ext (.t 17) 1⟩,
  ⟨some 4, none, .mv (.t 18)⟩,
  ⟨some 5, none, .mv (.t 19)⟩])
 .ret))))
theorem d112 : FnD Tryz.prog 112 2 18 [.tmp 4, .tmp 5] c112 := ⟨Tryz.f112, _, Tryz.func112, by kernel_rfl, rfl, rfl, by kernel_rfl, by kernel_rfl⟩
end Go.Proofs.YtemjlopoffjmpaaGreat.Abs
namespace Go.Proofs.YtemjlopoffjmpaaGreat.Abs
open Go
def c79 : ACode :=
 (.seq (.reg [⟨some 6, none, .mv (.c (.int .i64 0))⟩,
  ⟨some 7, none, .mv (.c (.bool false))⟩])
 (.seq (.reg [⟨some 10, none, .mv (.t 0)⟩,
  ⟨some 11, none, .mv (.t 1)⟩,
  ⟨some 12, none, .call 111 [(.t 10), (.t 11)]⟩,
  ⟨some 8, none, .mv (.t 12)⟩])
 (.seq (.seq (.reg [⟨some 9, none, .mv (.c (.int .i64 0))⟩])
 (.block 0
 (.loop
 (.seq (.seq (.reg [⟨some 13, none, .mv (.t 9)⟩,
  ⟨some 14, none, .mv (.t 8)⟩,
  ⟨some 15, none, .len false (.t 14)⟩,
  ⟨some 16, none, .bini .lss (.t 13) (.t 15)⟩])
 (.cond (.t 16)
 .skip
 (.exit 0)))
 (.seq (.block 1
 (.seq (.reg [⟨some 19, none, .mv (.t 0)⟩,
  ⟨some 20, none, .mv (.t 8)⟩,
  ⟨some 21, none, .mv (.t 9)⟩,
  ⟨some 22, none, .iaddr 1 (.t 20) (.t 21)⟩,
  ⟨some 23, none, .load false 1 (.t 22)⟩,
  ⟨some 24, none, .iaddr 5 (.t 19) (.t 23)⟩,
  ⟨some 25, none, .faddr 2 (.t 24)⟩,
  ⟨some 26, none, .load false 1 (.t 25)⟩,
  ⟨some 27, none, .mv (.t 2)⟩,
  ⟨some 28, none, .bins .eql (.t 26) (.t 27)⟩])
 (.cond (.t 28)
 (.seq (.reg [⟨some 29, none, .mv (.t 8)⟩,
  ⟨some 30, none, .mv (.t 9)⟩,
  ⟨some 31, none, .iaddr 1 (.t 29) (.t 30)⟩,
  ⟨some 32, none, .load false 1 (.t 31)⟩,
  ⟨some 6, none, .mv (.t 32)⟩,
  ⟨some 7, none, .mv (.c (.bool true))⟩])
 .ret)
 .skip)))
 (.reg [⟨some 17, none, .mv (.t 9)⟩,
  ⟨some 18, none, .bini .add (.t 17) (.c (.int .i64 1))⟩,
  ⟨some 9, none, .mv (.t 18)⟩]))))))
 (.seq (.reg [⟨some 6, none, .mv (.c (.int .i64 0))⟩,
  ⟨some 7, none, .mv (.c (.bool false))⟩])
 .ret))))
theorem d79 : FnD Tryz.prog 79 3 30 [.tmp 6, .tmp 7] c79 := ⟨Tryz.f79, _, Tryz.func79, by kernel_rfl, rfl, rfl, by kernel_rfl, by kernel_rfl⟩
end Go.Proofs.YtemjlopoffjmpaaGreat.Abs
namespace Go.Proofs.YtemjlopoffjmpaaGreat.Abs
open Go
def c110 : ACode :=
 (.seq (.reg [⟨some 4, none, .mv (.c (.int .i64 0))⟩,
  ⟨some 5, none, .mv (.c (.int .i64 0))⟩])
 (.seq (.reg [⟨some 6, none, .mv (.c (.int .i64 0))⟩])
 (.seq (.seq (.reg [⟨some 7, none, .mv (.c (.int .i64 0))⟩])
 (.block 0
 (.loop
 (.seq (.seq (.reg [⟨some 10, none, .mv (.t 7)⟩,
  ⟨some 11, none, .mv (.t 1)⟩,
  ⟨some 12, none, .len false (.t 11)⟩,
  ⟨some 13, none, .bini .lss (.t 10) (.t 12)⟩])
 (.cond (.t 13)
 .skip
 (.exit 0)))
 (.seq (.block 1
 (.seq (.seq (.reg [⟨some 16, none, .mv (.t 6)⟩,
  ⟨some 17, none, .mv (.t 0)⟩,
  ⟨some 18, none, .len false (.t 17)⟩,
  ⟨some 19, none, .bini .geq (.t 16) (.t 18)⟩,
  ⟨some 20, none, .mv (.t 19)⟩,
  ⟨some 21, (some (20, false)), .mv (.t 0)⟩,
  ⟨some 22, (some (20, false)), .mv (.t 6)⟩,
  ⟨some 23, (some (20, false)), .iaddr 5 (.t 21) (.t 22)⟩,
  ⟨some 24, (some (20, false)), .faddr 0 (.t 23)⟩,
  ⟨some 25, (some (20, false)), .load false 1 (.t 24)⟩,
  ⟨some 26, (some (20, false)), .bini .neq (.t 25) (.c (.int .i64 2))⟩,
  ⟨some 27, none, .pick (.t 20) (.c (.bool true)) (.t 26)⟩])
 (.cond (.t 27)
 (.seq (.reg [⟨some 4, none, .mv (.c (.int .i64 0))⟩,
  ⟨some 5, none, .mv (.c (.int .i64 5))⟩])
 .ret)
 .skip))
 (.seq (.reg [⟨some 29, none, .mv (.t 0)⟩,
  ⟨some 30, none, .mv (.t 6)⟩,
  ⟨some 31, none, .mv (.t 1)⟩,
  ⟨some 32, none, .mv (.t 7)⟩,
  ⟨some 33, none, .iaddr 1 (.t 31) (.t 32)⟩,
  ⟨some 34, none, .load false 1 (.t 33)⟩,
  ⟨some 35, none, .call 79 [(.t 29), (.t 30), (.t 34)]⟩,
  ⟨some 28, none, .mv (.t 35)⟩,
  ⟨some 36, none, .ext (.t 28) 0⟩,
  ⟨some 37, none, .ext (.t 28) 1⟩,
  ⟨some 8, none, .mv (.t 36)⟩,
  ⟨some 9, none, .mv (.t 37)⟩])
 (.seq (.seq (.reg [⟨some 38, none, .mv (.t 9)⟩,
  ⟨some 39, none, .un .not (.t 38)⟩,
  ⟨some 40, none, .mv (.t 39)⟩,
  ⟨some 41, (some (40, true)), .mv (.t 0)⟩,
  ⟨some 42, (some (40, true)), .call 129 [(.t 41)]⟩,
  ⟨some 43, none, .pick (.t 40) (.t 42) (.c (.bool false))⟩])
 (.cond (.t 43)
 (.seq (.reg [⟨some 4, none, .mv (.c (.int .i64 0))⟩,
  ⟨some 5, none, .mv (.c (.int .i64 12))⟩])
 .ret)
 .skip))
 (.seq (.seq (.reg [⟨some 44, none, .mv (.t 9)⟩,
  ⟨some 45, none, .un .not (.t 44)⟩])
 (.cond (.t 45)
 (.seq (.reg [⟨some 4, none, .mv (.c (.int .i64 0))⟩,
  ⟨some 5, none, .mv (.c (.int .i64 2))⟩])
 .ret)
 .skip))
 (.reg [⟨some 46, none, .mv (.t 8)⟩,
  ⟨some 6, none, .mv (.t 46)⟩]))))))
 (.reg [⟨some 14, none, .mv (.t 7)⟩,
  ⟨some 15, none, .bini .add (.t 14) (.c (.int .i64 1))⟩,
  ⟨some 7, none, .mv (.t 15)⟩]))))))
 (.seq (.reg [⟨some 47, none, .mv (.t 6)⟩,
  ⟨some 4, none, .mv (.t 47)⟩,
  ⟨some 5, none, .mv (.c (.int .i64 0))⟩])
 .ret))))
theorem d110 : FnD Tryz.prog 110 2 46 [.tmp 4, .tmp 5] c110 := ⟨Tryz.f110, _, Tryz.func110, by kernel_rfl, rfl, rfl, by kernel_rfl, by kernel_rfl⟩
end Go.Proofs.YtemjlopoffjmpaaGreat.Abs
namespace Go.Proofs.YtemjlopoffjmpaaGreat.Abs
open Go
def c111 : ACode :=
 (.seq (.reg [⟨some 4, none, .mv (.c (.emp))⟩])
 (.seq (.reg [⟨some 5, none, .mv (.c (.emp))⟩])
 (.seq (.seq (.reg [⟨some 6, none, .mv (.c (.int .i64 1))⟩])
 (.block 0
 (.loop
 (.seq (.seq (.reg [⟨some 8, none, .mv (.t 6)⟩,
  ⟨some 9, none, .mv (.t 0)⟩,
  ⟨some 10, none, .len false (.t 9)⟩,
  ⟨some 11, none, .bini .lss (.t 8) (.t 10)⟩])
 (.cond (.t 11)
 .skip
 (.exit 0)))
 (.seq (.block 1
 (.seq (.seq (.reg [⟨some 14, none, .mv (.t 0)⟩,
  ⟨some 15, none, .mv (.t 6)⟩,
  ⟨some 16, none, .iaddr 5 (.t 14) (.t 15)⟩,
  ⟨some 17, none, .faddr 0 (.t 16)⟩,
  ⟨some 18, none, .load false 1 (.t 17)⟩,
  ⟨some 19, none, .bini .neq (.t 18) (.c (.int .i64 1))⟩,
  ⟨some 20, none, .mv (.t 19)⟩,
  ⟨some 21, (some (20, true)), .mv (.t 0)⟩,
  ⟨some 22, (some (20, true)), .mv (.t 6)⟩,
  ⟨some 23, (some (20, true)), .iaddr 5 (.t 21) (.t 22)⟩,
  ⟨some 24, (some (20, true)), .faddr 0 (.t 23)⟩,
  ⟨some 25, (some (20, true)), .load false 1 (.t 24)⟩,
  ⟨some 26, (some (20, true)), .bini .neq (.t 25) (.c (.int .i64 2))⟩,
  ⟨some 27, none, .pick (.t 20) (.t 26) (.c (.bool false))⟩,
  ⟨some 28, none, .mv (.t 27)⟩,
  ⟨some 29, (some (28, false)), .mv (.t 0)⟩,
  ⟨some 30, (some (28, false)), .mv (.t 6)⟩,
  ⟨some 31, (some (28, false)), .iaddr 5 (.t 29) (.t 30)⟩,
  ⟨some 32, (some (28, false)), .faddr 1 (.t 31)⟩,
  ⟨some 33, (some (28, false)), .load false 1 (.t 32)⟩,
  ⟨some 34, (some (28, false)), .mv (.t 1)⟩,
  ⟨some 35, (some (28, false)), .bini .neq (.t 33) (.t 34)⟩,
  ⟨some 36, none, .pick (.t 28) (.c (.bool true)) (.t 35)⟩])
 (.cond (.t 36)
 (.exit 1)
 .skip))
 (.seq (.reg [⟨some 37, none, .mv (.t 5)⟩,
  ⟨some 38, none, .len false (.t 37)⟩,
  ⟨some 7, none, .mv (.t 38)⟩])
 (.seq (.reg [⟨some 39, none, .mv (.t 5)⟩,
  ⟨some 40, none, .mv (.t 6)⟩,
  ⟨some 41, none, .bslice 1 1 [.int .i64 0] [(0, (.t 40))]⟩,
  ⟨some 42, none, .append 1 8 [.int .i64 0] (.t 39) (.t 41)⟩,
  ⟨some 5, none, .mv (.t 42)⟩])
 (.block 2
 (.loop
 (.seq (.seq (.dreg [⟨some 43, none, .mv (.t 7)⟩,
  ⟨some 44, none, .bini .gtr (.t 43) (.c (.int .i64 0))⟩,
  ⟨some 45, none, .mv (.t 44)⟩,
  ⟨some 46, (some (45, true)), .mv (.t 0)⟩,
  ⟨some 47, (some (45, true)), .mv (.t 5)⟩,
  ⟨some 48, (some (45, true)), .mv (.t 7)⟩,
  ⟨some 49, (some (45, true)), .bini .sub (.t 48) (.c (.int .i64 1))⟩,
  ⟨some 50, (some (45, true)), .iaddr 1 (.t 47) (.t 49)⟩,
  ⟨some 51, (some (45, true)), .load false 1 (.t 50)⟩,
  ⟨some 52, (some (45, true)), .iaddr 5 (.t 46) (.t 51)⟩,
  ⟨some 53, (some (45, true)), .faddr 2 (.t 52)⟩,
  ⟨some 54, (some (45, true)), .load false 1 (.t 53)⟩,
  ⟨some 55, (some (45, true)), .mv (.t 0)⟩,
  ⟨some 56, (some (45, true)), .mv (.t 6)⟩,
  ⟨some 57, (some (45, true)), .iaddr 5 (.t 55) (.t 56)⟩,
  ⟨some 58, (some (45, true)), .faddr 2 (.t 57)⟩,
  ⟨some 59, (some (45, true)), .load false 1 (.t 58)⟩,
  ⟨some 60, (some (45, true)), .bins .gtr (.t 54) (.t 59)⟩,
  ⟨some 61, none, .pick (.t 45) (.t 60) (.c (.bool false))⟩])
 (.cond (.t 61)
 .skip
 (.exit 2)))
 (.block 3
 (.seq (.dregE [[(0, ⟨some 62, none, .mv (.t 5)⟩),
  (1, ⟨some 63, none, .mv (.t 7)⟩),
  (2, ⟨some 64, none, .bini .sub (.t 63) (.c (.int .i64 1))⟩),
  (3, ⟨some 65, none, .mv (.t 5)⟩),
  (4, ⟨some 66, none, .mv (.t 7)⟩),
  (5, ⟨some 67, none, .mv (.t 5)⟩),
  (6, ⟨some 68, none, .mv (.t 7)⟩),
  (7, ⟨some 69, none, .iaddr 1 (.t 67) (.t 68)⟩),
  (8, ⟨some 70, none, .load false 1 (.t 69)⟩),
  (9, ⟨some 71, none, .mv (.t 5)⟩),
  (10, ⟨some 72, none, .mv (.t 7)⟩),
  (11, ⟨some 73, none, .bini .sub (.t 72) (.c (.int .i64 1))⟩),
  (12, ⟨some 74, none, .iaddr 1 (.t 71) (.t 73)⟩),
  (13, ⟨some 75, none, .load false 1 (.t 74)⟩),
  (14, ⟨some 76, none, .iaddr 1 (.t 62) (.t 64)⟩),
  (15, ⟨none, none, .store 1 (.t 76) (.t 70)⟩)],
  [(16, ⟨some 77, none, .iaddr 1 (.t 65) (.t 66)⟩)],
  [(17, ⟨none, none, .store 1 (.t 77) (.t 75)⟩)]]
  [[], [], [1], [], [], [], [], [5, 6], [5, 6, 7], [], [], [10], [9, 10, 11], [9, 10, 11, 12], [0, 1, 2, 5, 6, 7, 8, 9, 10, 11, 12, 13], [0, 1, 2, 5, 6, 7, 8, 9, 10, 11, 12, 13, 14], [0, 1, 2, 3, 4, 5, 6, 7, 8, 9, 10, 11, 12, 13, 14, 15], [0, 1, 2, 3, 4, 5, 6, 7, 8, 9, 10, 11, 12, 13, 14, 15, 16]])
 (.reg [⟨some 78, none, .mv (.t 7)⟩,
  ⟨some 79, none, .bini .sub (.t 78) (.c (.int .i64 1))⟩,
  ⟨some 7, none, .mv (.t 79)⟩]))))))))))
 (.reg [⟨some 12, none, .mv (.t 6)⟩,
  ⟨some 13, none, .bini .add (.t 12) (.c (.int .i64 1))⟩,
  ⟨some 6, none, .mv (.t 13)⟩]))))))
 (.seq (.reg [⟨some 80, none, .mv (.t 5)⟩,
  ⟨some 4, none, .mv (.t 80)⟩])
 .ret))))
theorem d111 : FnD Tryz.prog 111 2 79 [.tmp 4] c111 := ⟨Tryz.f111, _, Tryz.func111, by kernel_rfl, rfl, rfl, by kernel_rfl, by kernel_rfl⟩
end Go.Proofs.YtemjlopoffjmpaaGreat.Abs
namespace Go.Proofs.YtemjlopoffjmpaaGreat.Abs
open Go
def c85 : ACode :=
 (.seq (.reg [⟨some 2, none, .mv (.c (.str []))⟩])
 (.seq (.reg [⟨some 7, none, .bslice 1 8 [.int .i64 0] [(0, (.c (.int .i64 0))), (1, (.c (.int .i64 1))), (2, (.c (.int .i64 3))), (3, (.c (.int .i64 17))), (4, (.c (.int .i64 32))), (5, (.c (.int .i64 33))), (6, (.c (.int .i64 64))), (7, (.c (.int .i64 129)))]⟩,
  ⟨some 8, none, .mv (.t 0)⟩,
  ⟨some 9, none, .call 44 [(.t 8), (.c (.int .i64 8))]⟩,
  ⟨some 10, none, .iaddr 1 (.t 7) (.t 9)⟩,
  ⟨some 11, none, .load false 1 (.t 10)⟩,
  ⟨some 3, none, .mv (.t 11)⟩])
 (.seq (.reg [⟨some 12, none, .mv (.t 0)⟩,
  ⟨some 13, none, .call 44 [(.t 12), (.c (.int .i64 4))]⟩,
  ⟨some 14, none, .bini .mul (.t 13) (.c (.int .i64 40))⟩,
  ⟨some 15, none, .convi .u8 (.t 14)⟩,
  ⟨some 4, none, .mv (.t 15)⟩])
 (.seq (.reg [⟨some 16, none, .mv (.t 3)⟩,
  ⟨some 17, none, .mksl 1 1 [.int .u8 0] (.t 16) (.t 16)⟩,
  ⟨some 5, none, .mv (.t 17)⟩])
 (.seq (.seq (.reg [⟨some 6, none, .mv (.c (.int .i64 0))⟩])
 (.block 0
 (.loop
 (.seq (.seq (.reg [⟨some 18, none, .mv (.t 6)⟩,
  ⟨some 19, none, .mv (.t 3)⟩,
  ⟨some 20, none, .bini .lss (.t 18) (.t 19)⟩])
 (.cond (.t 20)
 .skip
 (.exit 0)))
 (.seq (.block 1
 (.seq (.reg [⟨some 23, none, .mv (.t 4)⟩,
  ⟨some 24, none, .bini .gtr (.t 23) (.c (.int .u8 0))⟩])
 (.cond (.t 24)
 (.reg [⟨some 25, none, .mv (.t 5)⟩,
  ⟨some 26, none, .mv (.t 6)⟩,
  ⟨some 27, none, .mv (.t 4)⟩,
  ⟨some 28, none, .mv (.t 6)⟩,
  ⟨some 29, none, .bini .rem (.t 28) (.c (.int .i64 5))⟩,
  ⟨some 30, none, .convi .u8 (.t 29)⟩,
  ⟨some 31, none, .bini .add (.t 27) (.t 30)⟩,
  ⟨some 32, none, .iaddr 1 (.t 25) (.t 26)⟩,
  ⟨none, none, .store 1 (.t 32) (.t 31)⟩])
 .skip)))
 (.reg [⟨some 21, none, .mv (.t 6)⟩,
  ⟨some 22, none, .bini .add (.t 21) (.c (.int .i64 1))⟩,
  ⟨some 6, none, .mv (.t 22)⟩]))))))
 (.seq (.reg [⟨some 33, none, .mv (.t 5)⟩,
  ⟨some 34, none, .convbs (.t 33)⟩,
  ⟨some 2, none, .mv (.t 34)⟩])
 .ret))))))
theorem d85 : FnD Tryz.prog 85 1 34 [.tmp 2] c85 := ⟨Tryz.f85, _, Tryz.func85, by kernel_rfl, rfl, rfl, by kernel_rfl, by kernel_rfl⟩
end Go.Proofs.YtemjlopoffjmpaaGreat.Abs
namespace Go.Proofs.YtemjlopoffjmpaaGreat.Abs
open Go
def c157 : ACode :=
 (.seq (.reg [⟨some 4, none, .mv (.c (.bool false))⟩])
 (.seq (.reg [⟨some 5, none, .mv (.t 1)⟩,
  ⟨some 6, none, .bini .geq (.t 5) (.c (.int .i64 0))⟩,
  ⟨some 7, none, .mv (.t 6)⟩,
  ⟨some 8, (some (7, true)), .mv (.t 1)⟩,
  ⟨some 9, (some (7, true)), .mv (.t 0)⟩,
  ⟨some 10, (some (7, true)), .len false (.t 9)⟩,
  ⟨some 11, (some (7, true)), .bini .lss (.t 8) (.t 10)⟩,
  ⟨some 12, none, .pick (.t 7) (.t 11) (.c (.bool false))⟩,
  ⟨some 13, none, .mv (.t 12)⟩,
  ⟨some 14, (some (13, true)), .mv (.t 0)⟩,
  ⟨some 15, (some (13, true)), .mv (.t 1)⟩,
  ⟨some 16, (some (13, true)), .iaddr 5 (.t 14) (.t 15)⟩,
  ⟨some 17, (some (13, true)), .faddr 0 (.t 16)⟩,
  ⟨some 18, (some (13, true)), .load false 1 (.t 17)⟩,
  ⟨some 19, (some (13, true)), .bini .neq (.t 18) (.c (.int .i64 0))⟩,
  ⟨some 20, none, .pick (.t 13) (.t 19) (.c (.bool false))⟩,
  ⟨some 4, none, .mv (.t 20)⟩])
 .ret))
theorem d157 : FnD Tryz.prog 157 2 19 [.tmp 4] c157 := ⟨Tryz.f157, _, Tryz.func157, by kernel_rfl, rfl, rfl, by kernel_rfl, by kernel_rfl⟩
end Go.Proofs.YtemjlopoffjmpaaGreat.Abs
namespace Go.Proofs.YtemjlopoffjmpaaGreat.Abs
open Go
def c127 : ACode :=
 (.seq (.reg [⟨some 2, none, .mv (.c (.bool false))⟩])
 (.seq (.seq (.reg [⟨some 3, none, .mv (.c (.int .i64 0))⟩])
 (.block 0
 (.loop
 (.seq (.seq (.reg [⟨some 5, none, .mv (.t 3)⟩,
  ⟨some 6, none, .mv (.t 0)⟩,
  ⟨some 7, none, .len true (.t 6)⟩,
  ⟨some 8, none, .bini .lss (.t 5) (.t 7)⟩])
 (.cond (.t 8)
 .skip
 (.exit 0)))
 (.seq (.block 1
 (.seq (.reg [⟨some 11, none, .mv (.t 0)⟩,
  ⟨some 12, none, .mv (.t 3)⟩,
  ⟨some 13, none, .indexs (.t 11) (.t 12)⟩,
  ⟨some 4, none, .mv (.t 13)⟩])
 (.seq (.reg [⟨some 14, none, .mv (.t 4)⟩,
  ⟨some 15, none, .bini .geq (.t 14) (.c (.int .u8 97))⟩,
  ⟨some 16, none, .mv (.t 15)⟩,
  ⟨some 17, (some (16, true)), .mv (.t 4)⟩,
  ⟨some 18, (some (16, true)), .bini .leq (.t 17) (.c (.int .u8 122))⟩,
  ⟨some 19, none, .pick (.t 16) (.t 18) (.c (.bool false))⟩,
  ⟨some 20, none, .mv (.t 19)⟩,
  ⟨some 21, (some (20, false)), .mv (.t 4)⟩,
  ⟨some 22, (some (20, false)), .bini .geq (.t 21) (.c (.int .u8 48))⟩,
  ⟨some 23, (some (20, false)), .mv (.t 22)⟩,
  ⟨some 24, (some (23, true)), .mv (.t 4)⟩,
  ⟨some 25, (some (23, true)), .bini .leq (.t 24) (.c (.int .u8 57))⟩,
  ⟨some 26, (some (20, false)), .pick (.t 23) (.t 25) (.c (.bool false))⟩,
  ⟨some 27, none, .pick (.t 20) (.c (.bool true)) (.t 26)⟩,
  ⟨some 28, none, .mv (.t 27)⟩,
  ⟨some 29, (some (28, false)), .mv (.t 4)⟩,
  ⟨some 30, (some (28, false)), .bini .eql (.t 29) (.c (.int .u8 46))⟩,
  ⟨some 31, none, .pick (.t 28) (.c (.bool true)) (.t 30)⟩,
  ⟨some 32, none, .mv (.t 31)⟩,
  ⟨some 33, (some (32, false)), .mv (.t 4)⟩,
  ⟨some 34, (some (32, false)), .bini .eql (.t 33) (.c (.int .u8 95))⟩,
  ⟨some 35, none, .pick (.t 32) (.c (.bool true)) (.t 34)⟩,
  ⟨some 36, none, .mv (.t 35)⟩,
  ⟨some 37, (some (36, false)), .mv (.t 4)⟩,
  ⟨some 38, (some (36, false)), .bini .eql (.t 37) (.c (.int .u8 45))⟩,
  ⟨some 39, none, .pick (.t 36) (.c (.bool true)) (.t 38)⟩,
  ⟨some 40, none, .un .not (.t 39)⟩])
 (.cond (.t 40)
 (.seq (.reg [⟨some 2, none, .mv (.c (.bool false))⟩])
 .ret)
 .skip))))
 (.reg [⟨some 9, none, .mv (.t 3)⟩,
  ⟨some 10, none, .bini .add (.t 9) (.c (.int .i64 1))⟩,
  ⟨some 3, none, .mv (.t 10)⟩]))))))
 (.seq (.reg [⟨some 41, none, .mv (.t 0)⟩,
  ⟨some 42, none, .len true (.t 41)⟩,
  ⟨some 43, none, .bini .geq (.t 42) (.c (.int .i64 1))⟩,
  ⟨some 44, none, .mv (.t 43)⟩,
  ⟨some 45, (some (44, true)), .mv (.t 0)⟩,
  ⟨some 46, (some (44, true)), .len true (.t 45)⟩,
  ⟨some 47, (some (44, true)), .bini .leq (.t 46) (.c (.int .i64 8))⟩,
  ⟨some 48, none, .pick (.t 44) (.t 47) (.c (.bool false))⟩,
  ⟨some 49, none, .mv (.t 48)⟩,
  ⟨some 50, (some (49, true)), .mv (.t 0)⟩,
  ⟨some 51, (some (49, true)), .bins .neq (.t 50) (.c (.str [46]))⟩,
  ⟨some 52, none, .pick (.t 49) (.t 51) (.c (.bool false))⟩,
  ⟨some 53, none, .mv (.t 52)⟩,
  ⟨some 54, (some (53, true)), .mv (.t 0)⟩,
  ⟨some 55, (some (53, true)), .bins .neq (.t 54) (.c (.str [46, 46]))⟩,
  ⟨some 56, none, .pick (.t 53) (.t 55) (.c (.bool false))⟩,
  ⟨some 2, none, .mv (.t 56)⟩])
 .ret)))
theorem d127 : FnD Tryz.prog 127 1 56 [.tmp 2] c127 := ⟨Tryz.f127, _, Tryz.func127, by kernel_rfl, rfl, rfl, by kernel_rfl, by kernel_rfl⟩
end Go.Proofs.YtemjlopoffjmpaaGreat.Abs
namespace Go.Proofs.YtemjlopoffjmpaaGreat.Abs
open Go
def c81 : ACode :=
 (.seq (.reg [⟨some 5, none, .box (.t 2)⟩,
  ⟨some 6, none, .mv (.c (.emp))⟩])
 (.seq (.reg [⟨some 8, none, .bslice 5 0 [.int .i64 0, .int .i64 0, .str [], .str [], .int .i64 0] []⟩,
  ⟨some 9, none, .mv (.t 0)⟩,
  ⟨some 10, none, .append 5 56 [.int .i64 0, .int .i64 0, .str [], .str [], .int .i64 0] (.t 8) (.t 9)⟩,
  ⟨some 7, none, .mv (.t 10)⟩])
 (.seq (.seq (.reg [⟨some 11, none, .mv (.t 1)⟩,
  ⟨some 12, none, .bini .geq (.t 11) (.c (.int .i64 0))⟩,
  ⟨some 13, none, .mv (.t 12)⟩,
  ⟨some 14, (some (13, true)), .mv (.t 1)⟩,
  ⟨some 15, (some (13, true)), .mv (.t 7)⟩,
  ⟨some 16, (some (13, true)), .len false (.t 15)⟩,
  ⟨some 17, (some (13, true)), .bini .lss (.t 14) (.t 16)⟩,
  ⟨some 18, none, .pick (.t 13) (.t 17) (.c (.bool false))⟩])
 (.cond (.t 18)
 (.reg [⟨some 19, none, .mv (.t 7)⟩,
  ⟨some 20, none, .mv (.t 1)⟩,
  ⟨some 21, none, .load true 5 (.t 5)⟩,
  ⟨some 22, none, .iaddr 5 (.t 19) (.t 20)⟩,
  ⟨none, none, .store 5 (.t 22) (.t 21)⟩])
 .skip))
 (.seq (.reg [⟨some 23, none, .mv (.t 7)⟩,
  ⟨some 6, none, .mv (.t 23)⟩])
 .ret))))
theorem d81 : FnD Tryz.prog 81 3 21 [.tmp 6] c81 := ⟨Tryz.f81, _, Tryz.func81, by kernel_rfl, rfl, rfl, by kernel_rfl, by kernel_rfl⟩
end Go.Proofs.YtemjlopoffjmpaaGreat.Abs
namespace Go.Proofs.YtemjlopoffjmpaaGreat.Abs
open Go
def c84 : ACode :=
 (.seq (.reg [⟨some 2, none, .mv (.c (.str []))⟩])
 (.seq (.reg [⟨some 3, none, .bslice 1 15 [.str []] [(0, (.c (.str [97]))), (1, (.c (.str [98]))), (2, (.c (.str [99]))), (3, (.c (.str [97, 47, 98]))), (4, (.c (.str [97, 47, 99]))), (5, (.c (.str [98, 47, 97]))), (6, (.c (.str [97, 47, 98, 47, 99]))), (7, (.c (.str [100]))), (8, (.c (.str [99, 47, 100]))), (9, (.c (.str []))), (10, (.c (.str [47, 97]))), (11, (.c (.str [97, 47, 47, 98]))), (12, (.c (.str [116, 111, 111, 108, 111, 110, 103, 110, 97, 109, 101]))), (13, (.c (.str [65]))), (14, (.c (.str [46, 46])))]⟩,
  ⟨some 4, none, .mv (.t 0)⟩,
  ⟨some 5, none, .call 44 [(.t 4), (.c (.int .i64 15))]⟩,
  ⟨some 6, none, .iaddr 1 (.t 3) (.t 5)⟩,
  ⟨some 7, none, .load false 1 (.t 6)⟩,
  ⟨some 2, none, .mv (.t 7)⟩])
 .ret))
theorem d84 : FnD Tryz.prog 84 1 7 [.tmp 2] c84 := ⟨Tryz.f84, _, Tryz.func84, by kernel_rfl, rfl, rfl, by kernel_rfl, by kernel_rfl⟩
end Go.Proofs.YtemjlopoffjmpaaGreat.Abs
namespace Go.Proofs.YtemjlopoffjmpaaGreat.Abs
open Go
def c13 : ACode :=
 (.seq (.reg [⟨some 2, none, .mv (.c (.nilp))⟩])
 (.seq (.reg [⟨some 3, none, .mv (.t 0)⟩,
  ⟨some 4, none, .build [.emp, .int .i64 0] [(0, 1, (.t 3))]⟩,
  ⟨some 5, none, .box (.t 4)⟩,
  ⟨some 2, none, .mv (.t 5)⟩])
 .ret))
theorem d13 : FnD Tryz.prog 13 1 5 [.tmp 2] c13 := ⟨Tryz.f13, _, Tryz.func13, by kernel_rfl, rfl, rfl, by kernel_rfl, by kernel_rfl⟩
end Go.Proofs.YtemjlopoffjmpaaGreat.Abs
namespace Go.Proofs.YtemjlopoffjmpaaGreat.Abs
open Go
def c34 : ACode :=
 (.seq (.reg [⟨some 0, none, .mv (.c (.emp))⟩])
 (.seq (.reg [⟨some 2, none, .mksl 5 56 [.int .i64 0, .int .i64 0, .str [], .str [], .int .i64 0] (.c (.int .i64 8)) (.c (.int .i64 8))⟩,
  ⟨some 1, none, .mv (.t 2)⟩])
 (.seq (.reg [⟨some 3, none, .mv (.t 1)⟩,
  ⟨some 4, none, .iaddr 5 (.t 3) (.c (.int .i64 0))⟩,
  ⟨some 5, none, .faddr 0 (.t 4)⟩,
  ⟨none, none, .store 1 (.t 5) (.c (.int .i64 2))⟩])
 (.seq (.reg [⟨some 6, none, .mv (.t 1)⟩,
  ⟨some 0, none, .mv (.t 6)⟩])
 .ret))))
theorem d34 : FnD Tryz.prog 34 0 7 [.tmp 0] c34 := ⟨Tryz.f34, _, Tryz.func34, by kernel_rfl, rfl, rfl, by kernel_rfl, by kernel_rfl⟩
end Go.Proofs.YtemjlopoffjmpaaGreat.Abs
namespace Go.Proofs.YtemjlopoffjmpaaGreat.Abs
open Go
def c44 : ACode :=
 (.seq (.reg [⟨some 4, none, .mv (.c (.int .i64 0))⟩])
 (.seq (.seq (.dreg [⟨some 5, none, .mv (.t 0)⟩,
  ⟨some 6, none, .nilchk (.t 5)⟩,
  ⟨some 7, none, .faddr 1 (.t 6)⟩,
  ⟨some 8, none, .load false 1 (.t 7)⟩,
  ⟨some 9, none, .mv (.t 0)⟩,
  ⟨some 10, none, .nilchk (.t 9)⟩,
  ⟨some 11, none, .faddr 0 (.t 10)⟩,
  ⟨some 12, none, .load false 1 (.t 11)⟩,
  ⟨some 13, none, .len false (.t 12)⟩,
  ⟨some 14, none, .bini .geq (.t 8) (.t 13)⟩,
  ⟨some 15, none, .mv (.t 14)⟩,
  ⟨some 16, (some (15, false)), .mv (.t 1)⟩,
  ⟨some 17, (some (15, false)), .bini .lss (.t 16) (.c (.int .i64 1))⟩,
  ⟨some 18, none, .pick (.t 15) (.c (.bool true)) (.t 17)⟩])
 (.cond (.t 18)
 (.seq (.reg [⟨some 4, none, .mv (.c (.int .i64 0))⟩])
 .ret)
 .skip))
 (.seq (.reg [⟨some 19, none, .mv (.t 0)⟩,
  ⟨some 20, none, .nilchk (.t 19)⟩,
  ⟨some 21, none, .faddr 1 (.t 20)⟩,
  ⟨some 22, none, .load false 1 (.t 21)⟩,
  ⟨some 23, none, .bini .add (.t 22) (.c (.int .i64 1))⟩,
  ⟨some 24, none, .nilchk (.t 19)⟩,
  ⟨some 25, none, .faddr 1 (.t 24)⟩,
  ⟨none, none, .store 1 (.t 25) (.t 23)⟩])
 (.seq (.dreg [⟨some 26, none, .mv (.t 0)⟩,
  ⟨some 27, none, .nilchk (.t 26)⟩,
  ⟨some 28, none, .faddr 0 (.t 27)⟩,
  ⟨some 29, none, .load false 1 (.t 28)⟩,
  ⟨some 30, none, .mv (.t 0)⟩,
  ⟨some 31, none, .nilchk (.t 30)⟩,
  ⟨some 32, none, .faddr 1 (.t 31)⟩,
  ⟨some 33, none, .load false 1 (.t 32)⟩,
  ⟨some 34, none, .bini .sub (.t 33) (.c (.int .i64 1))⟩,
  ⟨some 35, none, .iaddr 1 (.t 29) (.t 34)⟩,
  ⟨some 36, none, .load false 1 (.t 35)⟩,
  ⟨some 37, none, .convi .i64 (.t 36)⟩,
  ⟨some 38, none, .mv (.t 1)⟩,
  ⟨some 39, none, .bini .rem (.t 37) (.t 38)⟩,
  ⟨some 4, none, .mv (.t 39)⟩])
 .ret))))
theorem d44 : FnD Tryz.prog 44 2 38 [.tmp 4] c44 := ⟨Tryz.f44, _, Tryz.func44, by kernel_rfl, rfl, rfl, by kernel_rfl, by kernel_rfl⟩
end Go.Proofs.YtemjlopoffjmpaaGreat.Abs
namespace Go.Proofs.YtemjlopoffjmpaaGreat.Abs
open Go
def c80 : ACode :=
 (.seq (.reg [⟨some 2, none, .mv (.c (.int .i64 0))⟩,
  ⟨some 3, none, .mv (.c (.bool false))⟩])
 (.seq (.seq (.reg [⟨some 4, none, .mv (.c (.int .i64 0))⟩])
 (.block 0
 (.loop
 (.seq (.seq (.reg [⟨some 5, none, .mv (.t 4)⟩,
  ⟨some 6, none, .mv (.t 0)⟩,
  ⟨some 7, none, .len false (.t 6)⟩,
  ⟨some 8, none, .bini .lss (.t 5) (.t 7)⟩])
 (.cond (.t 8)
 .skip
 (.exit 0)))
 (.seq (.block 1
 (.seq (.reg [⟨some 11, none, .mv (.t 0)⟩,
  ⟨some 12, none, .mv (.t 4)⟩,
  ⟨some 13, none, .iaddr 5 (.t 11) (.t 12)⟩,
  ⟨some 14, none, .faddr 0 (.t 13)⟩,
  ⟨some 15, none, .load false 1 (.t 14)⟩,
  ⟨some 16, none, .bini .eql (.t 15) (.c (.int .i64 0))⟩])
 (.cond (.t 16)
 (.seq (.reg [⟨some 17, none, .mv (.t 4)⟩,
  ⟨some 2, none, .mv (.t 17)⟩,
  ⟨some 3, none, .mv (.c (.bool true))⟩])
 .ret)
 .skip)))
 (.reg [⟨some 9, none, .mv (.t 4)⟩,
  ⟨some 10, none, .bini .add (.t 9) (.c (.int .i64 1))⟩,
  ⟨some 4, none, .mv (.t 10)⟩]))))))
 (.seq (.reg [⟨some 2, none, .mv (.c (.int .i64 0))⟩,
  ⟨some 3, none, .mv (.c (.bool false))⟩])
 .ret)))
theorem d80 : FnD Tryz.prog 80 1 17 [.tmp 2, .tmp 3] c80 := ⟨Tryz.f80, _, Tryz.func80, by kernel_rfl, rfl, rfl, by kernel_rfl, by kernel_rfl⟩
end Go.Proofs.YtemjlopoffjmpaaGreat.Abs
namespace Go.Proofs.YtemjlopoffjmpaaGreat.Abs
open Go
def c129 : ACode :=
 (.seq (.reg [⟨some 2, none, .mv (.c (.bool false))⟩])
 (.seq (.seq (.reg [⟨some 3, none, .mv (.c (.int .i64 0))⟩])
 (.block 0
 (.loop
 (.seq (.seq (.reg [⟨some 4, none, .mv (.t 3)⟩,
  ⟨some 5, none, .mv (.t 0)⟩,
  ⟨some 6, none, .len false (.t 5)⟩,
  ⟨some 7, none, .bini .lss (.t 4) (.t 6)⟩])
 (.cond (.t 7)
 .skip
 (.exit 0)))
 (.seq (.block 1
 (.seq (.reg [⟨some 10, none, .mv (.t 0)⟩,
  ⟨some 11, none, .mv (.t 3)⟩,
  ⟨some 12, none, .iaddr 5 (.t 10) (.t 11)⟩,
  ⟨some 13, none, .faddr 0 (.t 12)⟩,
  ⟨some 14, none, .load false 1 (.t 13)⟩,
  ⟨some 15, none, .bini .eql (.t 14) (.c (.int .i64 3))⟩])
 (.cond (.t 15)
 (.seq (.reg [⟨some 2, none, .mv (.c (.bool true))⟩])
 .ret)
 .skip)))
 (.reg [⟨some 8, none, .mv (.t 3)⟩,
  ⟨some 9, none, .bini .add (.t 8) (.c (.int .i64 1))⟩,
  ⟨some 3, none, .mv (.t 9)⟩]))))))
 (.seq (.reg [⟨some 2, none, .mv (.c (.bool false))⟩])
 .ret)))
theorem d129 : FnD Tryz.prog 129 1 15 [.tmp 2] c129 := ⟨Tryz.f129, _, Tryz.func129, by kernel_rfl, rfl, rfl, by kernel_rfl, by kernel_rfl⟩
end Go.Proofs.YtemjlopoffjmpaaGreat.Abs
namespace Go.Proofs.YtemjlopoffjmpaaGreat.Abs
open Go
def c53 : ACode :=
 (.seq (.reg [⟨some 2, none, .mv (.c (.int .i64 0))⟩])
 (.seq (.reg [⟨some 3, none, .mv (.c (.int .i64 0))⟩])
 (.seq (.seq (.reg [⟨some 5, none, .mv (.c (.int .i64 0))⟩])
 (.block 0
 (.loop
 (.seq (.reg [⟨some 6, none, .bini .lss (.t 5) (.c (.int .i64 4))⟩])
 (.seq (.cond (.t 6)
 .skip
 (.exit 0))
 (.seq (.block 1
 (.seq (.reg [⟨some 7, none, .mv (.t 5)⟩,
  ⟨some 4, none, .mv (.t 7)⟩])
 (.seq (.reg [⟨some 8, none, .mv (.t 0)⟩,
  ⟨some 9, none, .mv (.t 4)⟩,
  ⟨some 10, none, .call 96 [(.t 8), (.t 9)]⟩,
  ⟨some 11, none, .bins .neq (.t 10) (.c (.str []))⟩])
 (.cond (.t 11)
 (.reg [⟨some 12, none, .mv (.t 3)⟩,
  ⟨some 13, none, .bini .add (.t 12) (.c (.int .i64 1))⟩,
  ⟨some 3, none, .mv (.t 13)⟩])
 .skip))))
 (.reg [⟨some 14, none, .bini .add (.t 5) (.c (.int .i64 1))⟩,
  ⟨some 5, none, .mv (.t 14)⟩])))))))
 (.seq (.reg [⟨some 15, none, .mv (.t 3)⟩,
  ⟨some 2, none, .mv (.t 15)⟩])
 .ret))))
theorem d53 : FnD Tryz.prog 53 1 15 [.tmp 2] c53 := ⟨Tryz.f53, _, Tryz.func53, by kernel_rfl, rfl, rfl, by kernel_rfl, by kernel_rfl⟩
end Go.Proofs.YtemjlopoffjmpaaGreat.Abs
namespace Go.Proofs.YtemjlopoffjmpaaGreat.Abs
open Go
def c96 : ACode :=
 (.seq (.reg [⟨some 4, none, .mv (.c (.str []))⟩])
 (.seq (.seq (.reg [⟨some 6, none, .mv (.t 1)⟩,
  ⟨some 7, none, .bini .lss (.t 6) (.c (.int .i64 0))⟩,
  ⟨some 8, none, .mv (.t 7)⟩,
  ⟨some 9, (some (8, false)), .mv (.t 1)⟩,
  ⟨some 10, (some (8, false)), .bini .geq (.t 9) (.c (.int .i64 4))⟩,
  ⟨some 11, none, .pick (.t 8) (.c (.bool true)) (.t 10)⟩,
  ⟨some 12, none, .mv (.t 11)⟩,
  ⟨some 13, (some (12, false)), .mv (.t 0)⟩,
  ⟨some 14, (some (12, false)), .len true (.t 13)⟩,
  ⟨some 15, (some (12, false)), .bini .gtr (.t 14) (.c (.int .i64 128))⟩,
  ⟨some 16, none, .pick (.t 12) (.c (.bool true)) (.t 15)⟩])
 (.cond (.t 16)
 (.seq (.reg [⟨some 4, none, .mv (.c (.str []))⟩])
 .ret)
 .skip))
 (.seq (.reg [⟨some 17, none, .mv (.t 0)⟩,
  ⟨some 18, none, .mv (.t 0)⟩,
  ⟨some 19, none, .len true (.t 18)⟩,
  ⟨some 20, none, .bini .sub (.c (.int .i64 128)) (.t 19)⟩,
  ⟨some 21, none, .call 125 [(.t 20)]⟩,
  ⟨some 22, none, .bins .add (.t 17) (.t 21)⟩,
  ⟨some 0, none, .mv (.t 22)⟩])
 (.seq (.seq (.reg [⟨some 23, none, .mv (.t 0)⟩,
  ⟨some 24, none, .mv (.t 1)⟩,
  ⟨some 25, none, .bini .mul (.t 24) (.c (.int .i64 32))⟩,
  ⟨some 26, none, .slices (.t 23) (some (.t 25)) none⟩,
  ⟨some 27, none, .slices (.t 26) none (some (.c (.int .i64 32)))⟩,
  ⟨some 5, none, .mv (.t 27)⟩])
 (.seq (.reg [⟨some 28, none, .mv (.t 5)⟩,
  ⟨some 29, none, .call 125 [(.c (.int .i64 32))]⟩,
  ⟨some 30, none, .bins .neq (.t 28) (.t 29)⟩])
 (.cond (.t 30)
 (.seq (.reg [⟨some 31, none, .mv (.t 5)⟩,
  ⟨some 4, none, .mv (.t 31)⟩])
 .ret)
 .skip)))
 (.seq (.reg [⟨some 4, none, .mv (.c (.str []))⟩])
 .ret)))))
theorem d96 : FnD Tryz.prog 96 2 30 [.tmp 4] c96 := ⟨Tryz.f96, _, Tryz.func96, by kernel_rfl, rfl, rfl, by kernel_rfl, by kernel_rfl⟩
end Go.Proofs.YtemjlopoffjmpaaGreat.Abs
namespace Go.Proofs.YtemjlopoffjmpaaGreat.Abs
open Go
def c125 : ACode :=
 (.seq (.reg [⟨some 2, none, .mv (.c (.str []))⟩])
 (.seq (.reg [⟨some 3, none, .mv (.t 0)⟩,
  ⟨some 4, none, .max2 (.t 3) (.c (.int .i64 0))⟩,
  ⟨some 5, none, .call 156 [(.c (.str [0])), (.t 4)]⟩,
  ⟨some 2, none, .mv (.t 5)⟩])
 .ret))
theorem d125 : FnD Tryz.prog 125 1 5 [.tmp 2] c125 := ⟨Tryz.f125, _, Tryz.func125, by kernel_rfl, rfl, rfl, by kernel_rfl, by kernel_rfl⟩
end Go.Proofs.YtemjlopoffjmpaaGreat.Abs
namespace Go.Proofs.YtemjlopoffjmpaaGreat.Abs
open Go
def c54 : ACode :=
 (.seq (.reg [⟨some 2, none, .mv (.c (.int .i64 0))⟩])
 (.seq (.reg [⟨some 3, none, .mv (.c (.int .i64 0))⟩])
 (.seq (.seq (.reg [⟨some 4, none, .mv (.c (.int .i64 0))⟩])
 (.block 0
 (.loop
 (.seq (.seq (.reg [⟨some 5, none, .mv (.t 4)⟩,
  ⟨some 6, none, .bini .lss (.t 5) (.c (.int .i64 4))⟩])
 (.cond (.t 6)
 .skip
 (.exit 0)))
 (.seq (.block 1
 (.seq (.reg [⟨some 9, none, .mv (.t 0)⟩,
  ⟨some 10, none, .mv (.t 4)⟩,
  ⟨some 11, none, .call 97 [(.t 9), (.t 10)]⟩,
  ⟨some 12, none, .bins .neq (.t 11) (.c (.str []))⟩])
 (.cond (.t 12)
 (.reg [⟨some 13, none, .mv (.t 3)⟩,
  ⟨some 14, none, .bini .add (.t 13) (.c (.int .i64 1))⟩,
  ⟨some 3, none, .mv (.t 14)⟩])
 .skip)))
 (.reg [⟨some 7, none, .mv (.t 4)⟩,
  ⟨some 8, none, .bini .add (.t 7) (.c (.int .i64 1))⟩,
  ⟨some 4, none, .mv (.t 8)⟩]))))))
 (.seq (.reg [⟨some 15, none, .mv (.t 3)⟩,
  ⟨some 2, none, .mv (.t 15)⟩])
 .ret))))
theorem d54 : FnD Tryz.prog 54 1 15 [.tmp 2] c54 := ⟨Tryz.f54, _, Tryz.func54, by kernel_rfl, rfl, rfl, by kernel_rfl, by kernel_rfl⟩
end Go.Proofs.YtemjlopoffjmpaaGreat.Abs
namespace Go.Proofs.YtemjlopoffjmpaaGreat.Abs
open Go
def c97 : ACode :=
 (.seq (.reg [⟨some 4, none, .mv (.c (.str []))⟩])
 (.seq (.seq (.reg [⟨some 6, none, .mv (.t 1)⟩,
  ⟨some 7, none, .bini .lss (.t 6) (.c (.int .i64 0))⟩,
  ⟨some 8, none, .mv (.t 7)⟩,
  ⟨some 9, (some (8, false)), .mv (.t 1)⟩,
  ⟨some 10, (some (8, false)), .bini .geq (.t 9) (.c (.int .i64 4))⟩,
  ⟨some 11, none, .pick (.t 8) (.c (.bool true)) (.t 10)⟩,
  ⟨some 12, none, .mv (.t 11)⟩,
  ⟨some 13, (some (12, false)), .mv (.t 0)⟩,
  ⟨some 14, (some (12, false)), .len true (.t 13)⟩,
  ⟨some 15, (some (12, false)), .bini .gtr (.t 14) (.c (.int .i64 128))⟩,
  ⟨some 16, none, .pick (.t 12) (.c (.bool true)) (.t 15)⟩])
 (.cond (.t 16)
 (.seq (.reg [⟨some 4, none, .mv (.c (.str []))⟩])
 .ret)
 .skip))
 (.seq (.reg [⟨some 17, none, .mv (.t 0)⟩,
  ⟨some 18, none, .call 83 [(.t 17), (.c (.int .i64 128))]⟩,
  ⟨some 19, none, .mv (.t 1)⟩,
  ⟨some 20, none, .bini .mul (.t 19) (.c (.int .i64 32))⟩,
  ⟨some 21, none, .mv (.t 1)⟩,
  ⟨some 22, none, .bini .add (.t 21) (.c (.int .i64 1))⟩,
  ⟨some 23, none, .bini .mul (.t 22) (.c (.int .i64 32))⟩,
  ⟨some 24, none, .slices (.t 18) (some (.t 20)) (some (.t 23))⟩,
  ⟨some 5, none, .mv (.t 24)⟩])
 (.seq (.seq (.reg [⟨some 25, none, .mv (.t 5)⟩,
  ⟨some 26, none, .mksl 1 1 [.int .u8 0] (.c (.int .i64 32)) (.c (.int .i64 32))⟩,
  ⟨some 27, none, .convbs (.t 26)⟩,
  ⟨some 28, none, .bins .eql (.t 25) (.t 27)⟩])
 (.cond (.t 28)
 (.seq (.reg [⟨some 4, none, .mv (.c (.str []))⟩])
 .ret)
 .skip))
 (.seq (.reg [⟨some 29, none, .mv (.t 5)⟩,
  ⟨some 4, none, .mv (.t 29)⟩])
 .ret)))))
theorem d97 : FnD Tryz.prog 97 2 28 [.tmp 4] c97 := ⟨Tryz.f97, _, Tryz.func97, by kernel_rfl, rfl, rfl, by kernel_rfl, by kernel_rfl⟩
end Go.Proofs.YtemjlopoffjmpaaGreat.Abs
namespace Go.Proofs.YtemjlopoffjmpaaGreat.Abs
open Go
def c43 : ACode :=
 (.seq (.reg [⟨some 2, none, .mv (.c (.bool false))⟩])
 (.seq (.dreg [⟨some 3, none, .mv (.t 0)⟩,
  ⟨some 4, none, .nilchk (.t 3)⟩,
  ⟨some 5, none, .faddr 1 (.t 4)⟩,
  ⟨some 6, none, .load false 1 (.t 5)⟩,
  ⟨some 7, none, .mv (.t 0)⟩,
  ⟨some 8, none, .nilchk (.t 7)⟩,
  ⟨some 9, none, .faddr 0 (.t 8)⟩,
  ⟨some 10, none, .load false 1 (.t 9)⟩,
  ⟨some 11, none, .len false (.t 10)⟩,
  ⟨some 12, none, .bini .geq (.t 6) (.t 11)⟩,
  ⟨some 2, none, .mv (.t 12)⟩])
 .ret))
theorem d43 : FnD Tryz.prog 43 1 12 [.tmp 2] c43 := ⟨Tryz.f43, _, Tryz.func43, by kernel_rfl, rfl, rfl, by kernel_rfl, by kernel_rfl⟩
end Go.Proofs.YtemjlopoffjmpaaGreat.Abs
namespace Go.Proofs.YtemjlopoffjmpaaGreat.Abs
open Go
def c83 : ACode :=
 (.seq (.reg [⟨some 4, none, .mv (.c (.str []))⟩])
 (.seq (.reg [⟨some 6, none, .mv (.t 1)⟩,
  ⟨some 7, none, .mksl 1 1 [.int .u8 0] (.t 6) (.t 6)⟩,
  ⟨some 5, none, .mv (.t 7)⟩])
 (.seq (.reg [⟨some 8, none, .mv (.t 5)⟩,
  ⟨some 9, none, .mv (.t 0)⟩,
  ⟨some 10, none, .copy 1 (.t 8) (.t 9)⟩])
 (.seq (.reg [⟨some 11, none, .mv (.t 5)⟩,
  ⟨some 12, none, .convbs (.t 11)⟩,
  ⟨some 4, none, .mv (.t 12)⟩])
 .ret))))
theorem d83 : FnD Tryz.prog 83 2 11 [.tmp 4] c83 := ⟨Tryz.f83, _, Tryz.func83, by kernel_rfl, rfl, rfl, by kernel_rfl, by kernel_rfl⟩
end Go.Proofs.YtemjlopoffjmpaaGreat.Abs
set_option linter.unusedSimpArgs false
set_option linter.unusedVariables false
namespace Go.Proofs.YtemjlopoffjmpaaGreat.Abs
open Go
structure Node where
 kind : Int
 up : Int
 name : List UInt8
 body : List UInt8
 bad : Int
 deriving DecidableEq, Inhabited
def pnode (x : Node) : List PV := [.int .i64 x.kind, .int .i64 x.up, .str x.name, .str x.body, .int .i64 x.bad]
def aset (s : List Node) : AV := .fz (s.map pnode)
theorem over_spec (l : List (List PV)) (n : Int) : C Tryz.prog 43 [.ptr 0 0 0 1] [some [[.fz l, .int .i64 n]]] (fun x H' => x = .bool (decide (l.length ≤ n)) ∧ H' = [some [[.fz l, .int .i64 n]]]) := by
 refine C_body d43 rfl (WT_ok ?_)
 unfold c43
 simp only [wk, iaddrV_map, seval]
 refine WT_draw ?_
 simp only [wk, iaddrV_map, seval]
def longA (s : List UInt8) (n : Nat) : List UInt8 := s.take n ++ List.replicate (n - s.length) 0
theorem bytesOf_map : ∀ s : List UInt8, bytesOf (s.map fun b => [AV.int .u8 b.toNat]) = some s
 | [] => rfl
 | b :: s => by
   have h := bytesOf_map s
   simp only [List.map_cons, bytesOf, h, Option.map_some, Int.toNat_natCast]
   simp
theorem longA_len (s : List UInt8) (n : Nat) : (longA s n).length = n := by simp [longA]; omega
theorem long_cells (s : List UInt8) (n : Nat) : List.take (min s.length n) (s.map fun b => [AV.int .u8 b.toNat]) ++ List.drop (min s.length n) (List.replicate n [AV.int .u8 0]) = (longA s n).map fun b => [AV.int .u8 b.toNat] := by
 unfold longA
 rw [List.map_append, List.map_replicate, List.map_take, List.drop_replicate]
 have hl : (s.map fun b => [AV.int .u8 (b.toNat : Int)]).length = s.length := List.length_map _
 have e1 : List.take (min s.length n) (s.map fun b => [AV.int .u8 (b.toNat : Int)]) = List.take n (s.map fun b => [AV.int .u8 (b.toNat : Int)]) := by
  rcases Nat.le_total s.length n with h | h
  ·rw [Nat.min_eq_left h, List.take_of_length_le (by omega), List.take_of_length_le (by omega)]
  ·rw [Nat.min_eq_right h]
 have e2 : n - min s.length n = n - s.length := by omega
 rw [e1, e2]
 rfl
theorem long_spec0 (s : List UInt8) (n : Nat) (h : n ≤ 1000000000) : C Tryz.prog 83 [.str s, .int .i64 n] [] (fun x H' => x = .str (longA s n)) := by
 refine C_body d83 rfl (WT_ok ?_)
 unfold c83
 simp only [wk, iaddrV_map, seval]
 refine ⟨⟨by omega, by omega, by omega⟩, by simp, ?_⟩
 rw [← List.length_append, long_cells, List.length_map, longA_len]
 simp only [wk, iaddrV_map, seval]
 rw [List.take_of_length_le (by simp [longA_len]), Option.bind_some, bytesOf_map]
 simp only [wk, iaddrV_map, seval]
theorem long_spec (s : List UInt8) (n : Nat) (h : n ≤ 1000000000) (H : AH) : C Tryz.prog 83 [.str s, .int .i64 n] H (fun x H' => x = .str (longA s n) ∧ H' = H) :=
 C_flat (K0 := fun x _ => x = .str (longA s n)) (long_spec0 s n h) (by rintro x H' rfl; exact ⟨rfl, rfl, rfl⟩)
end Go.Proofs.YtemjlopoffjmpaaGreat.Abs
set_option linter.unusedSimpArgs false
set_option linter.unusedVariables false
namespace Go.Proofs.YtemjlopoffjmpaaGreat.Abs
open Go
def partA (b : List UInt8) (k : Int) : List UInt8 :=
 if 0 ≤ k ∧ k < 4 ∧ b.length ≤ 128 then
  let p := ((longA b 128).take ((k + 1) * 32).toNat).drop (k * 32).toNat
  if p = List.replicate 32 0 then [] else p
 else []
theorem noughts_bytes (n : Nat) : bytesOf (List.replicate n [AV.int .u8 0]) = some (List.replicate n 0) := by
 have := bytesOf_map (List.replicate n 0)
 rw [List.map_replicate] at this
 exact this
theorem part_spec0 (b : List UInt8) (k : Int) : C Tryz.prog 97 [.str b, .int .i64 k] [] (fun x _ => x = .str (partA b k)) := by
 refine C_body d97 rfl (WT_ok ?_)
 unfold c97
 simp only [wk, iaddrV_map, seval]
 refine guard_both ?_ ?_ <;> intro h <;> simp only [hy] at h <;> simp only [h, wk, iaddrV_map, seval]
 ·refine guard_both ?_ ?_ <;> intro h2 <;> simp only [hy] at h2 <;> simp only [h, h2, wk, iaddrV_map, seval]
  ·refine guard_both ?_ ?_ <;> intro h3 <;> simp only [hy] at h3 <;> simp only [h, h2, h3, wk, iaddrV_map, seval]
   ·rw [partA, if_neg (by omega)]
   ·refine CT_ok (long_spec b 128 (by omega) _) ?_
    rintro _ _ ⟨rfl, rfl⟩
    have w1 : IntKind.i64.wrap (k * 32) = k * 32 := IntWalk.i64_in _ (by omega)
    have w2 : IntKind.i64.wrap (k + 1) = k + 1 := IntWalk.i64_in _ (by omega)
    have w3 : IntKind.i64.wrap ((k + 1) * 32) = (k + 1) * 32 := IntWalk.i64_in _ (by omega)
    simp only [w1, w2, w3, longA_len, noughts_bytes, Option.bind_some, wk, iaddrV_map, seval]
    refine ⟨by omega, by omega, ?_⟩
    have hb := noughts_bytes 32
    simp only [List.replicate_succ, List.replicate_zero] at hb
    simp only [hb, wk, iaddrV_map, seval]
    refine guard_both ?_ ?_ <;> intro h4 <;> simp only [hy] at h4 <;> simp only [h, h2, h3, h4, wk, iaddrV_map, seval]
    ·rw [partA, if_pos (by omega)]
     simp only [h4]
     rfl
    ·rw [partA, if_pos (by omega)]
     simp only [List.replicate_succ, List.replicate_zero, h4, if_false]
  ·rw [partA, if_neg (by omega)]
 ·rw [partA, if_neg (by omega)]
end Go.Proofs.YtemjlopoffjmpaaGreat.Abs
set_option linter.unusedSimpArgs false
set_option linter.unusedVariables false
namespace Go.Proofs.YtemjlopoffjmpaaGreat.Abs
open Go
theorem part_spec (b : List UInt8) (k : Int) (H : AH) : C Tryz.prog 97 [.str b, .int .i64 k] H (fun x H' => x = .str (partA b k) ∧ H' = H) :=
 C_flat (K0 := fun x _ => x = .str (partA b k)) (part_spec0 b k) (by rintro x _ rfl; exact ⟨rfl, rfl, rfl⟩)
def cnt (b : List UInt8) : Nat → Nat
 | 0 => 0
 | k + 1 => cnt b k + if partA b k = [] then 0 else 1
def countA (b : List UInt8) : Nat := cnt b 4
theorem cnt_le (b : List UInt8) : ∀ k, cnt b k ≤ k
 | 0 => Nat.le_refl _
 | k + 1 => by have := cnt_le b k; unfold cnt; split <;> omega
theorem count_spec (b : List UInt8) (H : AH) : C Tryz.prog 54 [.str b] H (fun x H' => x = .int .i64 (countA b) ∧ H' = H) := by
 refine C_body d54 rfl (WT_ok ?_)
 unfold c54
 simp only [wk, iaddrV_map, seval]
 refine WT_loop (W_loop (fun n fr H' => ∃ k : Nat, k ≤ 4 ∧ n = 4 - k ∧ H' = H ∧ fr = [.str b, .top, .int .i64 0, .int .i64 (cnt b k), .int .i64 k, .top, .top, .top, .top, .top, .top, .top, .top, .top, .top, .top]) 4 ⟨0, by omega, rfl, rfl, rfl⟩ ?_)
 rintro n fr H' ⟨k, hk, rfl, rfl, rfl⟩
 refine WT_ok ?_
 simp only [wk, iaddrV_map, seval]
 refine guard_both ?_ ?_ <;> intro h <;> simp only [hy] at h <;> simp only [h, wk, iaddrV_map, seval]
 ·refine CT_ok (part_spec b k _) ?_
  rintro _ _ ⟨rfl, rfl⟩
  simp only [wk, iaddrV_map, seval]
  have hc := cnt_le b k
  have w1 : IntKind.i64.wrap ((cnt b k : Int) + 1) = (cnt b k : Int) + 1 := IntWalk.i64_in _ (by omega)
  have w2 : IntKind.i64.wrap ((k : Int) + 1) = (k : Int) + 1 := IntWalk.i64_in _ (by omega)
  refine guard_both ?_ ?_ <;> intro h2 <;> simp only [hy] at h2 <;> simp only [h2, w1, w2, wk, iaddrV_map, seval]
  ·refine QLoop_go (n' := 4 - (k + 1)) (by omega) ⟨k + 1, by omega, rfl, rfl, rfl⟩ ?_
   simp only [Tops_top, Tops_same, Tops_nil, cnt, h2, Int.natCast_add, Int.natCast_one, if_false]
  ·refine QLoop_go (n' := 4 - (k + 1)) (by omega) ⟨k + 1, by omega, rfl, rfl, rfl⟩ ?_
   simp only [Tops_top, Tops_same, Tops_nil, cnt, h2, Int.natCast_add, Int.natCast_one, if_true, Nat.add_zero]
 ·have : k = 4 := by omega
  subst this
  rfl
end Go.Proofs.YtemjlopoffjmpaaGreat.Abs
namespace Go.Proofs
open Go.Shelf
def Tryz.lays105_ren : Go.Shelf.Ren := ⟨fun | 105 => 156 | 212 => 195 | 99 => 196 | 165 => 197 | 166 => 198 | 170 => 199 | 169 => 200 | 263 => 219 | 264 => 220 | 206 => 221 | 240 => 222 | 241 => 223 | 276 => 227 | 277 => 228 | n => n, fun | 9 => 9 | 3 => 3 | 4 => 4 | 20 => 20 | 0 => 0 | 46 => 248 | 109 => 249 | 5 => 5 | 72 => 254 | 76 => 258 | 51 => 64 | 146 => 273 | 53 => 275 | 148 => 276 | 70 => 252 | 37 => 22 | 75 => 257 | 127 => 278 | 164 => 281 | 80 => 123 | n => n, fun | n => n⟩
theorem Tryz.lays105 : Go.Proofs.Lays.n105 Tryz.prog Tryz.lays105_ren := {
 mixed := by kernel_rfl
 f99 := Tryz.func196.trans (congrArg some (by kernel_rfl))
 f105 := Tryz.func156.trans (congrArg some (by kernel_rfl))
 f165 := Tryz.func197.trans (congrArg some (by kernel_rfl))
 f166 := Tryz.func198.trans (congrArg some (by kernel_rfl))
 f169 := Tryz.func200.trans (congrArg some (by kernel_rfl))
 f170 := Tryz.func199.trans (congrArg some (by kernel_rfl))
 f206 := Tryz.func221.trans (congrArg some (by kernel_rfl))
 f212 := Tryz.func195.trans (congrArg some (by kernel_rfl))
 f240 := Tryz.func222.trans (congrArg some (by kernel_rfl))
 f241 := Tryz.func223.trans (congrArg some (by kernel_rfl))
 f263 := Tryz.func219.trans (congrArg some (by kernel_rfl))
 f264 := Tryz.func220.trans (congrArg some (by kernel_rfl))
 f276 := Tryz.func227.trans (congrArg some (by kernel_rfl))
 f277 := Tryz.func228.trans (congrArg some (by kernel_rfl))
 t0 := Tryz.underlying0
 a0 := Tryz.isAgg0
 z0 := Tryz.sizeOf0
 v0 := Tryz.zeroValue0
 t3 := Tryz.underlying3
 a3 := Tryz.isAgg3
 z3 := Tryz.sizeOf3
 v3 := Tryz.zeroValue3
 t4 := Tryz.underlying4
 a4 := Tryz.isAgg4
 z4 := Tryz.sizeOf4
 v4 := Tryz.zeroValue4
 t5 := Tryz.underlying5
 a5 := Tryz.isAgg5
 z5 := Tryz.sizeOf5
 v5 := Tryz.zeroValue5
 t9 := Tryz.underlying9
 a9 := Tryz.isAgg9
 z9 := Tryz.sizeOf9
 v9 := Tryz.zeroValue9
 t20 := Tryz.underlying20
 a20 := Tryz.isAgg20
 z20 := Tryz.sizeOf20
 v20 := Tryz.zeroValue20
 t37 := Tryz.underlying22
 a37 := Tryz.isAgg22
 z37 := Tryz.sizeOf22
 v37 := Tryz.zeroValue22
 t46 := Tryz.underlying248
 a46 := Tryz.isAgg248
 z46 := Tryz.sizeOf248
 v46 := Tryz.zeroValue248
 t51 := Tryz.underlying64
 a51 := Tryz.isAgg64
 z51 := Tryz.sizeOf64
 v51 := Tryz.zeroValue64
 t53 := Tryz.underlying275
 a53 := Tryz.isAgg275
 z53 := Tryz.sizeOf275
 v53 := Tryz.zeroValue275
 t70 := Tryz.underlying252
 a70 := Tryz.isAgg252
 z70 := Tryz.sizeOf252
 v70 := Tryz.zeroValue252
 t72 := Tryz.underlying254
 a72 := Tryz.isAgg254
 z72 := Tryz.sizeOf254
 v72 := Tryz.zeroValue254
 t75 := Tryz.underlying257
 a75 := Tryz.isAgg257
 z75 := Tryz.sizeOf257
 v75 := Tryz.zeroValue257
 t76 := Tryz.underlying258
 a76 := Tryz.isAgg258
 z76 := Tryz.sizeOf258
 v76 := Tryz.zeroValue258
 t109 := Tryz.underlying249
 a109 := Tryz.isAgg249
 z109 := Tryz.sizeOf249
 v109 := Tryz.zeroValue249
 t127 := Tryz.underlying278
 a127 := Tryz.isAgg278
 z127 := Tryz.sizeOf278
 v127 := Tryz.zeroValue278
 t146 := Tryz.underlying273
 a146 := Tryz.isAgg273
 z146 := Tryz.sizeOf273
 v146 := Tryz.zeroValue273
 t148 := Tryz.underlying276
 a148 := Tryz.isAgg276
 z148 := Tryz.sizeOf276
 v148 := Tryz.zeroValue276
 t164 := Tryz.underlying281
 a164 := Tryz.isAgg281
 z164 := Tryz.sizeOf281
 v164 := Tryz.zeroValue281 }
theorem Tryz.Builder_Extra_105 : Builder.Extra Tryz.prog Tryz.lays105_ren := {
 sizeBuilder := by kernel_rfl
 liesBuilder := by kernel_rfl
 t5 := Tryz.underlying5
 a5 := Tryz.isAgg5
 z5 := Tryz.sizeOf5
 v5 := Tryz.zeroValue5
 infoByte := by kernel_rfl
 cellsByte := by kernel_rfl
 sizeByte := by kernel_rfl
 neB5 := by decide }
open Go.RowKit Go.Lib in
theorem Tryz.strings_Repeat (s : ByteArray) (c : Nat) (w : World) (hc : c ≤ 9223372036854775807) (hlen : s.size * c ≤ 140737488355328) :
 Calls Tryz.prog 156 #[.string s, .int .i64 c] w fun e w' => e = .returned (.string ⟨(Lib.repeatL s.data.toList c).toArray⟩) ∧ Below w.heap.size w w' := Any.strings_Repeat Tryz.lays105 Tryz.Builder_Extra_105 s c w hc hlen
end Go.Proofs
namespace Go.Proofs.YtemjlopoffjmpaaGreat.Abs
open Go
def c55 : ACode :=
 (.seq (.reg [⟨some 1, none, .box (.t 0)⟩,
  ⟨some 2, none, .mv (.c (.int .i64 0))⟩])
 (.seq (.reg [⟨some 6, none, .faddr 0 (.t 1)⟩,
  ⟨some 7, none, .faddr 4 (.t 6)⟩,
  ⟨some 8, none, .load false 1 (.t 7)⟩,
  ⟨some 9, none, .call 19 [(.t 8)]⟩,
  ⟨some 10, none, .bini .add (.c (.int .i64 1)) (.t 9)⟩,
  ⟨some 3, none, .mv (.t 10)⟩])
 (.seq (.seq (.reg [⟨some 11, none, .faddr 0 (.t 1)⟩,
  ⟨some 12, none, .faddr 4 (.t 11)⟩,
  ⟨some 13, none, .load false 1 (.t 12)⟩,
  ⟨some 14, none, .len false (.t 13)⟩,
  ⟨some 15, none, .mv (.c (.int .i64 0))⟩])
 (.block 0
 (.loop
 (.seq (.reg [⟨some 16, none, .bini .lss (.t 15) (.t 14)⟩])
 (.seq (.cond (.t 16)
 .skip
 (.exit 0))
 (.seq (.block 1
 (.seq (.reg [⟨some 17, none, .iaddr 5 (.t 13) (.t 15)⟩,
  ⟨some 18, none, .load true 5 (.t 17)⟩,
  ⟨some 5, none, .alloc [.int .i64 0, .int .i64 0, .str [], .str [], .int .i64 0]⟩,
  ⟨none, none, .store 5 (.t 5) (.t 18)⟩])
 (.seq (.reg [⟨some 19, none, .faddr 0 (.t 5)⟩,
  ⟨some 20, none, .load false 1 (.t 19)⟩,
  ⟨some 21, none, .bini .neq (.t 20) (.c (.int .i64 0))⟩])
 (.cond (.t 21)
 (.reg [⟨some 22, none, .mv (.t 3)⟩,
  ⟨some 23, none, .bini .add (.t 22) (.c (.int .i64 1))⟩,
  ⟨some 3, none, .mv (.t 23)⟩])
 .skip))))
 (.reg [⟨some 24, none, .bini .add (.t 15) (.c (.int .i64 1))⟩,
  ⟨some 15, none, .mv (.t 24)⟩])))))))
 (.seq (.reg [⟨some 25, none, .mv (.t 3)⟩,
  ⟨some 2, none, .mv (.t 25)⟩])
 .ret))))
theorem d55 : FnD Tryz.prog 55 1 25 [.tmp 2] c55 := ⟨Tryz.f55, _, Tryz.func55, by kernel_rfl, rfl, rfl, by kernel_rfl, by kernel_rfl⟩
end Go.Proofs.YtemjlopoffjmpaaGreat.Abs
namespace Go.Proofs.YtemjlopoffjmpaaGreat.Abs
open Go
def c19 : ACode :=
 (.seq (.reg [⟨some 2, none, .mv (.c (.int .i64 0))⟩])
 (.seq (.reg [⟨some 3, none, .mv (.c (.int .i64 0))⟩])
 (.seq (.seq (.reg [⟨some 6, none, .mv (.t 0)⟩,
  ⟨some 7, none, .len false (.t 6)⟩,
  ⟨some 8, none, .mv (.c (.int .i64 0))⟩])
 (.block 0
 (.loop
 (.seq (.reg [⟨some 9, none, .bini .lss (.t 8) (.t 7)⟩])
 (.seq (.cond (.t 9)
 .skip
 (.exit 0))
 (.seq (.block 1
 (.seq (.reg [⟨some 10, none, .iaddr 5 (.t 6) (.t 8)⟩,
  ⟨some 11, none, .load true 5 (.t 10)⟩,
  ⟨some 5, none, .alloc [.int .i64 0, .int .i64 0, .str [], .str [], .int .i64 0]⟩,
  ⟨none, none, .store 5 (.t 5) (.t 11)⟩])
 (.reg [⟨some 12, none, .mv (.t 3)⟩,
  ⟨some 13, none, .faddr 3 (.t 5)⟩,
  ⟨some 14, none, .load false 1 (.t 13)⟩,
  ⟨some 15, none, .call 53 [(.t 14)]⟩,
  ⟨some 16, none, .bini .add (.t 12) (.t 15)⟩,
  ⟨some 3, none, .mv (.t 16)⟩])))
 (.reg [⟨some 17, none, .bini .add (.t 8) (.c (.int .i64 1))⟩,
  ⟨some 8, none, .mv (.t 17)⟩])))))))
 (.seq (.reg [⟨some 18, none, .mv (.t 3)⟩,
  ⟨some 2, none, .mv (.t 18)⟩])
 .ret))))
theorem d19 : FnD Tryz.prog 19 1 18 [.tmp 2] c19 := ⟨Tryz.f19, _, Tryz.func19, by kernel_rfl, rfl, rfl, by kernel_rfl, by kernel_rfl⟩
end Go.Proofs.YtemjlopoffjmpaaGreat.Abs
set_option linter.unusedSimpArgs false
set_option linter.unusedVariables false
namespace Go.Proofs.YtemjlopoffjmpaaGreat.Abs
open Go
def usedA (f : List UInt8 → Nat) (s : List Node) : Nat := (s.map fun x => f x.body).sum
theorem usedA_take (f : List UInt8 → Nat) (s : List Node) (i : Nat) (h : i < s.length) : usedA f (s.take (i + 1)) = usedA f (s.take i) + f (s.getD i default).body := by
 unfold usedA
 rw [List.take_add_one, List.getElem?_eq_getElem h, List.map_append, List.sum_append]
 simp only [List.getD_eq_getElem?_getD, List.getElem?_eq_getElem h, Option.getD_some, Option.toList_some, List.map_cons, List.map_nil, List.sum_cons, List.sum_nil, Nat.add_zero]
theorem usedA_le (f : List UInt8 → Nat) (hf : ∀ b, f b ≤ 4) : ∀ s, usedA f s ≤ 4 * s.length
 | [] => by simp [usedA]
 | x :: s => by
   have h1 := usedA_le f hf s
   have h2 := hf x.body
   simp only [usedA, List.map_cons, List.sum_cons, List.length_cons] at h1 ⊢
   omega
theorem used_spec0 (f : List UInt8 → Nat) (hp : ∀ b H, C Tryz.prog 53 [.str b] H (fun x H' => x = .int .i64 (f b) ∧ H' = H)) (hf : ∀ b, f b ≤ 4) (s : List Node) (hs : s.length ≤ 1000000) :
 C Tryz.prog 19 [aset s] [] (fun x _ => x = .int .i64 (usedA f s)) := by
 refine C_body d19 rfl (WT_ok ?_)
 unfold c19
 simp only [aset, wk, iaddrV_map, seval]
 refine WT_loop (W_loop (fun n fr H' => ∃ i : Nat, i ≤ s.length ∧ n = s.length - i ∧ H' = [] ∧ fr = [.fz (s.map pnode), .top, .int .i64 0, .int .i64 (usedA f (s.take i)), .top, .top, .fz (s.map pnode), .int .i64 s.length, .int .i64 i, .top, .top, .top, .top, .top, .top, .top, .top, .top, .top]) s.length ⟨0, by omega, rfl, rfl, rfl⟩ ?_)
 rintro n fr H' ⟨i, hi, rfl, rfl, rfl⟩
 refine WT_ok ?_
 simp only [wk, iaddrV_map, seval]
 refine guard_both ?_ ?_ <;> intro h <;> simp only [hy] at h <;> simp only [h, wk, iaddrV_map, seval]
 ·have hil : i < s.length := by omega
  refine ⟨⟨by omega, rfl⟩, ?_⟩
  simp only [pnode, wk, iaddrV_map, seval]
  refine CT_ok (hp _ _) ?_
  rintro _ _ ⟨rfl, rfl⟩
  have hb := usedA_le f hf (s.take i)
  have hb2 := hf (s.getD i default).body
  rw [List.length_take] at hb
  have w1 : IntKind.i64.wrap ((usedA f (s.take i) : Int) + (f (s.getD i default).body : Int)) = (usedA f (s.take i) : Int) + (f (s.getD i default).body : Int) := IntWalk.i64_in _ (by omega)
  have w2 : IntKind.i64.wrap ((i : Int) + 1) = (i : Int) + 1 := IntWalk.i64_in _ (by omega)
  simp only [w1, w2, wk, iaddrV_map, seval]
  refine QLoop_wk (n' := s.length - (i + 1)) (by omega) ⟨i + 1, by omega, rfl, rfl, rfl⟩ (Wk_clear ?_)
  simp only [renL, ren, upTo_zero, Tops_top, Tops_same, Tops_nil, usedA_take f s i hil, Int.natCast_add, Int.natCast_one]
 ·have : i = s.length := by omega
  subst this
  rw [List.take_length]
end Go.Proofs.YtemjlopoffjmpaaGreat.Abs
set_option linter.unusedSimpArgs false
set_option linter.unusedVariables false
namespace Go.Proofs.YtemjlopoffjmpaaGreat.Abs
open Go
theorem used_spec (f : List UInt8 → Nat) (hp : ∀ b H, C Tryz.prog 53 [.str b] H (fun x H' => x = .int .i64 (f b) ∧ H' = H)) (hf : ∀ b, f b ≤ 4) (s : List Node) (hs : s.length ≤ 1000000) (H : AH) :
 C Tryz.prog 19 [aset s] H (fun x H' => x = .int .i64 (usedA f s) ∧ H' = H) :=
 C_flat (K0 := fun x _ => x = .int .i64 (usedA f s)) (used_spec0 f hp hf s hs) (by rintro x _ rfl; exact ⟨rfl, rfl, rfl⟩)
structure Dset where
 id : Int
 kind : Int
 origin : Int
 quota : Int
 files : List Node
 deriving DecidableEq, Inhabited
def pdset (x : Dset) : List PV := [.int .i64 x.id, .int .i64 x.kind, .int .i64 x.origin, .int .i64 x.quota, .fz (x.files.map pnode)]
def asets (l : List Dset) : AV := .fz (l.map pdset)
def kinds (s : List Node) : Nat := s.countP fun x => decide (x.kind ≠ 0)
def worst1 (f : List UInt8 → Nat) (s : List Node) : Nat := 1 + usedA f s + kinds s
end Go.Proofs.YtemjlopoffjmpaaGreat.Abs
set_option linter.unusedSimpArgs false
set_option linter.unusedVariables false
namespace Go.Proofs.YtemjlopoffjmpaaGreat.Abs
open Go
def worstA (f : List UInt8 → Nat) (l : List Dset) : Nat := 3 + (l.map fun x => worst1 f x.files).sum
end Go.Proofs.YtemjlopoffjmpaaGreat.Abs
set_option linter.unusedSimpArgs false
set_option linter.unusedVariables false
namespace Go.Proofs.YtemjlopoffjmpaaGreat.Abs
open Go Go.Proofs
theorem repeat_spec (s : List UInt8) (c : Nat) (H : AH) (hc : c ≤ 9223372036854775807) (hlen : s.length * c ≤ 140737488355328) :
 C Tryz.prog 156 [.str s, .int .i64 c] H (fun x H' => x = .str (Lib.repeatL s c) ∧ H' = H) := by
 refine C_lib ⟨Tryz.f156, Tryz.func156, by kernel_rfl, by kernel_rfl⟩ (v := .string ⟨(Lib.repeatL s c).toArray⟩) ?_ fun E => .pure (x := .str _) (.str _)
 intro E w vs _ hr
 obtain ⟨v, u, rfl, h1, h2⟩ := hr.two
 rw [rep_str h1, rep_int h2]
 have := Tryz.strings_Repeat ⟨s.toArray⟩ c w hc (by simpa [ByteArray.size] using hlen)
 exact this
theorem repeat_nought (c : Nat) : Lib.repeatL [0] c = List.replicate c 0 := by
 induction c with
 | zero => rfl
 | succ c ih => simp [Lib.repeatL, ih, List.replicate_succ]
theorem noughts_spec (n : Int) (H : AH) (hn : n ≤ 1000000) : C Tryz.prog 125 [.int .i64 n] H (fun x H' => x = .str (List.replicate n.toNat 0) ∧ H' = H) := by
 refine C_body d125 rfl (WT_ok ?_)
 unfold c125
 simp only [wk, iaddrV_map, seval]
 have e : (if (0 : Int) > n then (0 : Int) else n) = ((n.toNat : Nat) : Int) := by split <;> omega
 rw [e]
 refine CT_ok (repeat_spec [0] n.toNat H (by omega) (by simp; omega)) ?_
 rintro _ _ ⟨rfl, rfl⟩
 simp only [repeat_nought, wk, iaddrV_map, seval]
theorem longA_eq (b : List UInt8) (h : b.length ≤ 128) : b ++ List.replicate (128 - b.length) 0 = longA b 128 := by
 unfold longA
 rw [List.take_of_length_le h]
theorem dpart_spec0 (b : List UInt8) (k : Int) : C Tryz.prog 96 [.str b, .int .i64 k] [] (fun x _ => x = .str (partA b k)) := by
 refine C_body d96 rfl (WT_ok ?_)
 unfold c96
 simp only [wk, iaddrV_map, seval]
 refine guard_both ?_ ?_ <;> intro h <;> simp only [hy] at h <;> simp only [h, wk, iaddrV_map, seval]
 ·refine guard_both ?_ ?_ <;> intro h2 <;> simp only [hy] at h2 <;> simp only [h, h2, wk, iaddrV_map, seval]
  ·refine guard_both ?_ ?_ <;> intro h3 <;> simp only [hy] at h3 <;> simp only [h, h2, h3, wk, iaddrV_map, seval]
   ·rw [partA, if_neg (by omega)]
   ·have w0 : IntKind.i64.wrap (128 - (b.length : Int)) = 128 - (b.length : Int) := IntWalk.i64_in _ (by omega)
    have w1 : IntKind.i64.wrap (k * 32) = k * 32 := IntWalk.i64_in _ (by omega)
    simp only [w0, wk, iaddrV_map, seval]
    refine CT_ok (noughts_spec _ _ (by omega)) ?_
    rintro _ _ ⟨rfl, rfl⟩
    have e0 : (128 - (b.length : Int)).toNat = 128 - b.length := by omega
    simp only [e0, wk, iaddrV_map, seval]
    refine ⟨by omega, ?_⟩
    have e1 := longA_eq b (by omega)
    simp only [e1, w1, longA_len, wk, iaddrV_map, seval]
    have e2 : b.length + (128 - b.length) = 128 := by omega
    have e3 : List.take 128 (longA b 128) = longA b 128 := List.take_of_length_le (by simp [longA_len])
    have hl : (List.drop (k * 32).toNat (longA b 128)).length = 128 - (k * 32).toNat := by rw [List.length_drop, longA_len]
    simp only [e2, e3, hl]
    refine ⟨by omega, by omega, ?_⟩
    refine CT_ok (noughts_spec _ _ (by omega)) ?_
    rintro _ _ ⟨rfl, rfl⟩
    simp only [w1, e1, e2, e3, wk, iaddrV_map, seval]
    have e4 : List.drop (k * 32).toNat (List.take ((k + 1) * 32).toNat (longA b 128)) = List.take 32 (List.drop (k * 32).toNat (longA b 128)) := by
     rw [List.drop_take]
     congr 1
     omega
    have e5 : (32 : Int).toNat = 32 := rfl
    refine guard_both ?_ ?_ <;> intro h4 <;> simp only [hy] at h4 <;> simp only [h, h2, h3, h4, wk, iaddrV_map, seval]
    ·rw [partA, if_pos (by omega)]
     simp only [e4]
     rw [if_neg (by simpa [List.replicate_succ] using h4)]
    ·rw [partA, if_pos (by omega)]
     simp only [e4]
     rw [if_pos (by simpa [List.replicate_succ] using h4)]
  ·rw [partA, if_neg (by omega)]
 ·rw [partA, if_neg (by omega)]
theorem dpart_spec (b : List UInt8) (k : Int) (H : AH) : C Tryz.prog 96 [.str b, .int .i64 k] H (fun x H' => x = .str (partA b k) ∧ H' = H) :=
 C_flat (K0 := fun x _ => x = .str (partA b k)) (dpart_spec0 b k) (by rintro x _ rfl; exact ⟨rfl, rfl, rfl⟩)
end Go.Proofs.YtemjlopoffjmpaaGreat.Abs
set_option linter.unusedSimpArgs false
set_option linter.unusedVariables false
namespace Go.Proofs.YtemjlopoffjmpaaGreat.Abs
open Go Go.Proofs
theorem parts_spec (b : List UInt8) (H : AH) : C Tryz.prog 53 [.str b] H (fun x H' => x = .int .i64 (countA b) ∧ H' = H) := by
 refine C_body d53 rfl (WT_ok ?_)
 unfold c53
 simp only [wk, iaddrV_map, seval]
 refine WT_loop (W_loop (fun n fr H' => ∃ k : Nat, k ≤ 4 ∧ n = 4 - k ∧ H' = H ∧ fr = [.str b, .top, .int .i64 0, .int .i64 (cnt b k), .top, .int .i64 k, .top, .top, .top, .top, .top, .top, .top, .top, .top, .top]) 4 ⟨0, by omega, rfl, rfl, rfl⟩ ?_)
 rintro n fr H' ⟨k, hk, rfl, rfl, rfl⟩
 refine WT_ok ?_
 simp only [wk, iaddrV_map, seval]
 refine guard_both ?_ ?_ <;> intro h <;> simp only [hy] at h <;> simp only [h, wk, iaddrV_map, seval]
 ·refine CT_ok (dpart_spec b k _) ?_
  rintro _ _ ⟨rfl, rfl⟩
  simp only [wk, iaddrV_map, seval]
  have hc := cnt_le b k
  have w1 : IntKind.i64.wrap ((cnt b k : Int) + 1) = (cnt b k : Int) + 1 := IntWalk.i64_in _ (by omega)
  have w2 : IntKind.i64.wrap ((k : Int) + 1) = (k : Int) + 1 := IntWalk.i64_in _ (by omega)
  refine guard_both ?_ ?_ <;> intro h2 <;> simp only [hy] at h2 <;> simp only [h2, w1, w2, wk, iaddrV_map, seval]
  ·refine QLoop_go (n' := 4 - (k + 1)) (by omega) ⟨k + 1, by omega, rfl, rfl, rfl⟩ ?_
   simp only [Tops_top, Tops_same, Tops_nil, cnt, h2, Int.natCast_add, Int.natCast_one, if_false]
  ·refine QLoop_go (n' := 4 - (k + 1)) (by omega) ⟨k + 1, by omega, rfl, rfl, rfl⟩ ?_
   simp only [Tops_top, Tops_same, Tops_nil, cnt, h2, Int.natCast_add, Int.natCast_one, if_true, Nat.add_zero]
 ·have : k = 4 := by omega
  subst this
  rfl
theorem countA_le (b : List UInt8) : countA b ≤ 4 := cnt_le b 4
abbrev used (s : List Node) : Nat := usedA countA s
abbrev worst (l : List Dset) : Nat := worstA countA l
theorem Used_spec (s : List Node) (hs : s.length ≤ 1000000) (H : AH) : C Tryz.prog 19 [aset s] H (fun x H' => x = .int .i64 (used s) ∧ H' = H) := used_spec countA parts_spec countA_le s hs H
end Go.Proofs.YtemjlopoffjmpaaGreat.Abs
set_option linter.unusedSimpArgs false
set_option linter.unusedVariables false
namespace Go.Proofs.YtemjlopoffjmpaaGreat.Abs
open Go Go.Proofs
theorem free_spec (s : List Node) (hs : s.length ≤ 1000000) (H : AH) :
 C Tryz.prog 80 [aset s] H (fun x H' => H' = H ∧ ((∃ i : Nat, i < s.length ∧ (s.getD i default).kind = 0 ∧ x = .tuple [.int .i64 i, .bool true]) ∨ x = .tuple [.int .i64 0, .bool false])) := by
 refine C_body d80 rfl (WT_ok ?_)
 unfold c80
 simp only [aset, wk, iaddrV_map, seval]
 refine WT_loop (W_loop (fun n fr H' => ∃ i : Nat, i ≤ s.length ∧ n = s.length - i ∧ H' = H ∧ fr = [.fz (s.map pnode), .top, .int .i64 0, .bool false, .int .i64 i, .top, .top, .top, .top, .top, .top, .top, .top, .top, .top, .top, .top, .top]) s.length ⟨0, by omega, rfl, rfl, rfl⟩ ?_)
 rintro n fr H' ⟨i, hi, rfl, rfl, rfl⟩
 refine WT_ok ?_
 simp only [wk, iaddrV_map, seval]
 refine guard_both ?_ ?_ <;> intro h <;> simp only [hy] at h <;> simp only [h, wk, iaddrV_map, seval]
 ·have hil : i < s.length := by omega
  refine ⟨⟨by omega, rfl⟩, ?_⟩
  simp only [pnode, wk, iaddrV_map, seval]
  have w2 : IntKind.i64.wrap ((i : Int) + 1) = (i : Int) + 1 := IntWalk.i64_in _ (by omega)
  refine guard_both ?_ ?_ <;> intro h2 <;> simp only [hy] at h2 <;> simp only [h2, w2, wk, iaddrV_map, seval]
  ·exact .inl ⟨i, hil, h2, rfl⟩
  ·refine QLoop_go (n' := s.length - (i + 1)) (by omega) ⟨i + 1, by omega, rfl, rfl, rfl⟩ ?_
   simp only [Tops_top, Tops_same, Tops_nil, Int.natCast_add, Int.natCast_one]
 ·exact .inr trivial
theorem lost_spec (s : List Node) (hs : s.length ≤ 1000000) (H : AH) : C Tryz.prog 129 [aset s] H (fun x H' => x = .bool (s.any fun x => decide (x.kind = 3)) ∧ H' = H) := by
 refine C_body d129 rfl (WT_ok ?_)
 unfold c129
 simp only [aset, wk, iaddrV_map, seval]
 refine WT_loop (W_loop (fun n fr H' => ∃ i : Nat, i ≤ s.length ∧ n = s.length - i ∧ H' = H ∧ ((s.take i).any fun x => decide (x.kind = 3)) = false ∧ fr = [.fz (s.map pnode), .top, .bool false, .int .i64 i, .top, .top, .top, .top, .top, .top, .top, .top, .top, .top, .top, .top]) s.length ⟨0, by omega, rfl, rfl, rfl, rfl⟩ ?_)
 rintro n fr H' ⟨i, hi, rfl, rfl, hno, rfl⟩
 refine WT_ok ?_
 simp only [wk, iaddrV_map, seval]
 refine guard_both ?_ ?_ <;> intro h <;> simp only [hy] at h <;> simp only [h, wk, iaddrV_map, seval]
 ·have hil : i < s.length := by omega
  refine ⟨⟨by omega, rfl⟩, ?_⟩
  simp only [pnode, wk, iaddrV_map, seval]
  have w2 : IntKind.i64.wrap ((i : Int) + 1) = (i : Int) + 1 := IntWalk.i64_in _ (by omega)
  refine guard_both ?_ ?_ <;> intro h2 <;> simp only [hy] at h2 <;> simp only [h2, w2, wk, iaddrV_map, seval]
  ·have : (s.any fun x => decide (x.kind = 3)) = true := by
    rw [List.any_eq_true]
    refine ⟨s.getD i default, ?_, by simpa using h2⟩
    rw [List.getD_eq_getElem?_getD, List.getElem?_eq_getElem hil]
    exact List.getElem_mem _
   rw [this]
  ·refine QLoop_go (n' := s.length - (i + 1)) (by omega) ⟨i + 1, by omega, rfl, rfl, ?_, rfl⟩ ?_
   ·rw [List.take_add_one, List.getElem?_eq_getElem hil, List.any_append, hno]
    rw [List.getD_eq_getElem?_getD, List.getElem?_eq_getElem hil] at h2
    simpa using h2
   ·simp only [Tops_top, Tops_same, Tops_nil, Int.natCast_add, Int.natCast_one]
 ·have : i = s.length := by omega
  subst this
  rw [List.take_length] at hno
  rw [hno]
end Go.Proofs.YtemjlopoffjmpaaGreat.Abs
set_option linter.unusedSimpArgs false
set_option linter.unusedVariables false
namespace Go.Proofs.YtemjlopoffjmpaaGreat.Abs
open Go Go.Proofs
def pbyte (b : UInt8) : List PV := [.int .u8 b.toNat]
def picksH (l : List UInt8) (n : Int) : AH := [some [[.fz (l.map pbyte), .int .i64 n]]]
theorem num_spec (l : List UInt8) (n k : Int) (hn : 0 ≤ n) (hl : l.length ≤ 1000000) :
 C Tryz.prog 44 [.ptr 0 0 0 1, .int .i64 k] (picksH l n) (fun x H' => ∃ m n' : Int, x = .int .i64 m ∧ 0 ≤ m ∧ (1 ≤ k → m < k) ∧ (k < 1 → m = 0) ∧ n ≤ n' ∧ n' ≤ n + 1 ∧ H' = picksH l n') := by
 refine C_body d44 rfl (WT_ok ?_)
 unfold c44 picksH
 simp only [wk, iaddrV_map, seval]
 refine WT_draw ?_
 simp only [wk, iaddrV_map, seval]
 refine guard_both ?_ ?_ <;> intro h <;> simp only [hy] at h <;> simp only [h, wk, iaddrV_map, seval]
 ·refine guard_both ?_ ?_ <;> intro h2 <;> simp only [hy] at h2 <;> simp only [h, h2, wk, iaddrV_map, seval]
  ·exact ⟨0, n, rfl, by omega, by omega, by omega, by omega, by omega, rfl⟩
  ·have w1 : IntKind.i64.wrap (n + 1) = n + 1 := IntWalk.i64_in _ (by omega)
   have w2 : IntKind.i64.wrap (n + 1 - 1) = n := by rw [IntWalk.i64_in _ (by omega)]; omega
   simp only [w1, w2, wk, iaddrV_map, seval]
   refine WT_draw ?_
   simp only [w1, w2, wk, iaddrV_map, seval]
   refine ⟨⟨by omega, rfl⟩, ?_⟩
   simp only [pbyte, wk, iaddrV_map, seval]
   have hb : (l.getD n.toNat default).toNat < 256 := UInt8.toNat_lt _
   have w3 : IntKind.i64.wrap ((l.getD n.toNat default).toNat : Int) = ((l.getD n.toNat default).toNat : Int) := IntWalk.i64_in _ (by omega)
   rw [w3]
   refine ⟨by omega, _, n + 1, rfl, Int.tmod_nonneg _ (by omega), fun _ => Int.tmod_lt_of_pos _ (by omega), by omega, by omega, by omega, rfl⟩
 ·exact ⟨0, n, rfl, by omega, by omega, by omega, by omega, by omega, rfl⟩
end Go.Proofs.YtemjlopoffjmpaaGreat.Abs
set_option linter.unusedSimpArgs false
set_option linter.unusedVariables false
namespace Go.Proofs.YtemjlopoffjmpaaGreat.Abs
open Go Go.Proofs
def newA : List Node := [⟨2, 0, [], [], 0⟩, ⟨0, 0, [], [], 0⟩, ⟨0, 0, [], [], 0⟩, ⟨0, 0, [], [], 0⟩, ⟨0, 0, [], [], 0⟩, ⟨0, 0, [], [], 0⟩, ⟨0, 0, [], [], 0⟩, ⟨0, 0, [], [], 0⟩]
theorem new_spec0 : C Tryz.prog 34 [] [] (fun x H' => x = aset newA ∧ H' = []) := by
 refine C_body' d34 rfl (WT_ok ?_)
 unfold c34
 simp only [wk, iaddrV_map, Nat.reduceAdd, Nat.reduceSub, Nat.reduceMul, Nat.reduceLeDiff, Nat.reduceEqDiff, Nat.reduceBEq, Int.reduceLE, Int.reduceLT, Int.reduceEq, Int.reduceNe, Int.reduceAdd, Int.reduceSub, Int.reduceToNat, Int.reduceNeg, ↓reduceIte, reduceCtorEq]
 exact ⟨by omega, KWk_frozen 0 (newA.map pnode) rfl (aset newA) rfl ⟨rfl, rfl⟩⟩
theorem new_spec (H : AH) : C Tryz.prog 34 [] H (fun x H' => x = aset newA ∧ H' = H) :=
 C_pure (K0 := fun x => x = aset newA) new_spec0 (fun _ => rfl) (by rintro x rfl τ; simp [aset, ren]) H
end Go.Proofs.YtemjlopoffjmpaaGreat.Abs
set_option linter.unusedSimpArgs false
set_option linter.unusedVariables false
namespace Go.Proofs.YtemjlopoffjmpaaGreat.Abs
open Go Go.Proofs
theorem made_spec (l : List UInt8) : C Tryz.prog 13 [.fz (l.map pbyte)] [] (fun x H' => x = .ptr 0 0 0 1 ∧ H' = picksH l 0) := by
 refine C_body d13 rfl (WT_ok ?_)
 unfold c13
 simp only [wk, iaddrV_map, seval]
 rfl
theorem num_at (l : List UInt8) (n k : Int) (hn : 0 ≤ n) (hl : l.length ≤ 1000000) (R : AH) :
 C Tryz.prog 44 [.ptr 0 0 0 1, .int .i64 k] (some [[.fz (l.map pbyte), .int .i64 n]] :: R) (fun x H' => ∃ m n' : Int, x = .int .i64 m ∧ 0 ≤ m ∧ (1 ≤ k → m < k) ∧ (k < 1 → m = 0) ∧ n ≤ n' ∧ n' ≤ n + 1 ∧ H' = some [[.fz (l.map pbyte), .int .i64 n']] :: R) := by
 refine C_call (K0 := fun x H' => ∃ m n' : Int, x = .int .i64 m ∧ 0 ≤ m ∧ (1 ≤ k → m < k) ∧ (k < 1 → m = 0) ∧ n ≤ n' ∧ n' ≤ n + 1 ∧ H' = picksH l n') [0] (by simp) (by simp) ?_ ?_
 ·exact num_spec l n k hn hl
 ·rintro _ _ ⟨m, n', rfl, h1, h2, h3, h4, h5, rfl⟩
  exact ⟨Nat.le_refl _, m, n', rfl, h1, h2, h3, h4, h5, by simp [back, setAll, picksH, renO, renL, ren]⟩
end Go.Proofs.YtemjlopoffjmpaaGreat.Abs
set_option linter.unusedSimpArgs false
set_option linter.unusedVariables false
namespace Go.Proofs.YtemjlopoffjmpaaGreat.Abs
open Go Go.Proofs
theorem pick_of (L : AObj) (p : List AV → Prop) (h : ∀ e ∈ L, p e) (i : Nat) (hi : i < L.length) : ∃ e, L[i]? = some e ∧ p e :=
 ⟨L[i], List.getElem?_eq_getElem hi, h _ (List.getElem_mem hi)⟩
theorem path_spec (l : List UInt8) (n : Int) (hn : 0 ≤ n) (hl : l.length ≤ 1000000) :
 C Tryz.prog 84 [.ptr 0 0 0 1] (picksH l n) (fun x H' => ∃ (p : List UInt8) (n' : Int), x = .str p ∧ p.length ≤ 11 ∧ n ≤ n' ∧ n' ≤ n + 1 ∧ H' = picksH l n') := by
 refine C_body' d84 rfl (WT_ok ?_)
 unfold c84 picksH
 simp only [RT_bslice, bslC_some, chunks, List.flatten_cons, List.flatten_nil, wk, iaddrV_map, seval]
 refine CT_ok (num_at l n 15 hn hl _) ?_
 rintro _ _ ⟨m, n', rfl, h1, h2, h3, h4, h5, rfl⟩
 simp only [wk, iaddrV_map, seval]
 have h15 := h2 (by omega)
 obtain ⟨e, he, q, rfl, hq⟩ := pick_of [[AV.str [97]], [AV.str [98]], [AV.str [99]], [AV.str [97, 47, 98]], [AV.str [97, 47, 99]], [AV.str [98, 47, 97]], [AV.str [97, 47, 98, 47, 99]], [AV.str [100]], [AV.str [99, 47, 100]], [AV.str []], [AV.str [47, 97]], [AV.str [97, 47, 47, 98]], [AV.str [116, 111, 111, 108, 111, 110, 103, 110, 97, 109, 101]], [AV.str [65]], [AV.str [46, 46]]] (fun e => ∃ q : List UInt8, e = [.str q] ∧ q.length ≤ 11) (by simp) m.toNat (by simp; omega)
 refine ⟨⟨h1, h15⟩, ?_⟩
 simp only [he, wk, iaddrV_map, seval]
 refine ⟨.str q, _, (Wk_forget 1 (Nat.le_refl _)).trans (Wk_tops ⟨.inr rfl, trivial⟩), q, n', rfl, hq, h4, h5, rfl⟩
end Go.Proofs.YtemjlopoffjmpaaGreat.Abs
set_option linter.unusedSimpArgs false
set_option linter.unusedVariables false
namespace Go.Proofs.YtemjlopoffjmpaaGreat.Abs
open Go Go.Proofs
def withA (s : List Node) (n : Int) (x : Node) : List Node := if 0 ≤ n then s.set n.toNat x else s
def anode (x : Node) : AV := .agg ((pnode x).map emb)
theorem rows5 (s : List Node) : ((s.map pnode).map fun e => e.map emb).all (fun e => decide (e.length = 5)) = true := by
 simp [pnode]
theorem frozen_set {K : AV → AH → Prop} {H : AH} (r : Nat) (s : List Node) (hat : H.at r = some ((s.map pnode).map fun e => e.map emb)) (L : Nat) (hL : L = s.length) (hk : K (aset s) []) : KWk 0 K (.own r 5 0 L L) H := by
 subst hL
 refine KWk_frozen r (s.map pnode) hat (aset s) ?_ hk
 simp only [frzL, frz, renL, ren, aset, if_true, List.length_map, Nat.zero_add, Nat.le_refl, and_self, List.drop_zero]
 rw [List.take_of_length_le (by simp)]
theorem with_spec0 (s : List Node) (hs : s.length ≤ 1000000) (n : Int) (x : Node) : C Tryz.prog 81 [aset s, .int .i64 n, anode x] [] (fun y H' => y = aset (withA s n x) ∧ H' = []) := by
 refine C_body' d81 rfl (WT_ok ?_)
 unfold c81
 simp only [aset, anode, pnode, wk3, wk, iaddrV_map, seval]
 refine ⟨⟨rows5 s, by omega, by omega⟩, ?_⟩
 refine guard_both ?_ ?_ <;> intro h <;> simp only [hy] at h <;> simp only [h, wk3, wk, iaddrV_map, seval]
 ·refine guard_both ?_ ?_ <;> intro h2 <;> simp only [hy] at h2 <;> simp only [h, h2, wk3, wk, iaddrV_map, seval]
  ·have hg : s[n.toNat]? = some (s.getD n.toNat default) := by
    rw [List.getD_eq_getElem?_getD, List.getElem?_eq_getElem (show n.toNat < s.length by omega)]; rfl
   simp only [hg, pnode, wk3, wk, iaddrV_map, seval]
   refine frozen_set 1 (withA s n x) ?_ _ (by simp [withA, h]) ⟨rfl, rfl⟩
   simp [AH.at, withA, h, List.map_set, pnode, emb]
  ·refine frozen_set 1 (withA s n x) ?_ _ (by simp [withA, h]) ⟨rfl, rfl⟩
   have : s.set n.toNat x = s := List.set_eq_of_length_le (by omega)
   simp [AH.at, withA, h, this]
 ·refine frozen_set 1 (withA s n x) ?_ _ (by simp [withA, h]) ⟨rfl, rfl⟩
  simp [AH.at, withA, h]
theorem with_spec (s : List Node) (hs : s.length ≤ 1000000) (n : Int) (x : Node) (H : AH) : C Tryz.prog 81 [aset s, .int .i64 n, anode x] H (fun y H' => y = aset (withA s n x) ∧ H' = H) :=
 C_pure (K0 := fun y => y = aset (withA s n x)) (with_spec0 s hs n x) (fun τ => by simp [renL, ren, aset, anode, pnode, emb]) (by rintro y rfl τ; simp [aset, ren]) H
end Go.Proofs.YtemjlopoffjmpaaGreat.Abs
set_option linter.unusedSimpArgs false
set_option linter.unusedVariables false
namespace Go.Proofs.YtemjlopoffjmpaaGreat.Abs
open Go Go.Proofs
def okC (c : Nat) : Bool := decide (97 ≤ c ∧ c ≤ 122) || decide (48 ≤ c ∧ c ≤ 57) || decide (c = 46 ∨ c = 95 ∨ c = 45)
def mayN (s : List UInt8) : Bool := s.all (fun b => okC b.toNat) && decide (1 ≤ s.length ∧ s.length ≤ 8 ∧ s ≠ [46] ∧ s ≠ [46, 46])
theorem mayname_spec (s : List UInt8) (hs : s.length ≤ 1000000) (H : AH) : C Tryz.prog 127 [.str s] H (fun x H' => x = .bool (mayN s) ∧ H' = H) := by
 refine C_body d127 rfl (WT_ok ?_)
 unfold c127
 simp only [wk, iaddrV_map, seval]
 refine WT_loop (W_loop (fun n fr H' => ∃ i : Nat, i ≤ s.length ∧ n = s.length - i ∧ (s.take i).all (fun b => okC b.toNat) = true ∧ H' = H ∧ fr = [.str s, .top, .bool false, .int .i64 i] ++ List.replicate 53 .top) s.length ⟨0, by omega, rfl, rfl, rfl, rfl⟩ ?_)
 rintro n fr H' ⟨i, hi, rfl, hall, rfl, rfl⟩
 refine WT_ok ?_
 simp only [wk, iaddrV_map, seval]
 refine guard_both ?_ ?_ <;> intro h <;> simp only [hy] at h <;> simp only [h, wk, iaddrV_map, seval]
 ·have hil : i < s.length := by omega
  have w2 : IntKind.i64.wrap ((i : Int) + 1) = (i : Int) + 1 := IntWalk.i64_in _ (by omega)
  refine ⟨by omega, ?_⟩
  have hg : s.getD i 0 = s[i] := by rw [List.getD_eq_getElem?_getD, List.getElem?_eq_getElem hil]; rfl
  have yes : okC (s.getD i 0).toNat = true → (s.take (i + 1)).all (fun b => okC b.toNat) = true := fun h => by
   rw [List.take_add_one, List.getElem?_eq_getElem hil, List.all_append, hall]
   rw [hg] at h; simp [h]
  have no : okC (s.getD i 0).toNat = false → mayN s = false := fun h => by
   have : s.all (fun b => okC b.toNat) = false := by
    rw [← Bool.not_eq_true, List.all_eq_true]
    intro h2
    have := h2 s[i] (List.getElem_mem _)
    rw [← hg, h] at this
    cases this
   simp [mayN, this]
  generalize s.getD i 0 = b at yes no ⊢
  generalize b.toNat = c at yes no ⊢
  repeat' (refine guard_both ?_ ?_ <;> intro hh <;> simp only [hy] at hh <;> simp only [hh, w2, wk, iaddrV_map, seval])
  all_goals first
   | (refine QLoop_go (n' := s.length - (i + 1)) (by omega) ⟨i + 1, by omega, rfl, yes (by simp [okC]; omega), rfl, rfl⟩ ?_
      simp only [List.replicate_succ, List.replicate_zero, List.cons_append, List.nil_append, Tops_top, Tops_same, Tops_nil, Int.natCast_add, Int.natCast_one])
   | (rw [no (by simp [okC]; omega)]; done)
   | (rw [no (by simp [okC]; omega)]; trivial)
 ·have : i = s.length := by omega
  subst this
  rw [List.take_length] at hall
  repeat' (refine guard_both ?_ ?_ <;> intro hh <;> simp only [hy] at hh <;> simp only [hh, wk, iaddrV_map, seval])
  ·have h1 : 1 ≤ s.length ∧ s.length ≤ 8 := by omega
   simp [mayN, hall, h1, hh]
  ·subst hh; rfl
  ·have h1 : ¬ s.length ≤ 8 := by omega
   simp [mayN, h1]
  ·have h1 : ¬ 1 ≤ s.length := by omega
   simp [mayN, h1]
end Go.Proofs.YtemjlopoffjmpaaGreat.Abs
set_option linter.unusedSimpArgs false
set_option linter.unusedVariables false
namespace Go.Proofs.YtemjlopoffjmpaaGreat.Abs
open Go Go.Proofs
def there (s : List Node) (n : Int) : Bool := decide (0 ≤ n ∧ n < s.length) && decide ((s.getD n.toNat default).kind ≠ 0)
theorem there_spec (s : List Node) (n : Int) (H : AH) : C Tryz.prog 157 [aset s, .int .i64 n] H (fun x H' => x = .bool (there s n) ∧ H' = H) := by
 refine C_body d157 rfl (WT_ok ?_)
 unfold c157
 simp only [aset, pnode, wk, iaddrV_map, seval]
 refine guard_both ?_ ?_ <;> intro h <;> simp only [hy] at h <;> simp only [h, pnode, wk, iaddrV_map, seval]
 ·refine guard_both ?_ ?_ <;> intro h2 <;> simp only [hy] at h2 <;> simp only [h, h2, pnode, wk, iaddrV_map, seval]
  ·simp [there, h, h2]
  ·simp [there, h, h2]
 ·simp [there, h]
end Go.Proofs.YtemjlopoffjmpaaGreat.Abs
set_option linter.unusedSimpArgs false
set_option linter.unusedVariables false
namespace Go.Proofs.YtemjlopoffjmpaaGreat.Abs
open Go Go.Proofs
def Bytes (o : AObj) : Prop := ∃ s : List UInt8, o = s.map fun b => [AV.int .u8 b.toNat]
theorem Bytes.set {o : AObj} (h : Bytes o) (i : Nat) (v : Int) : Bytes (o.set i [AV.int .u8 (IntKind.u8.wrap v)]) := by
 obtain ⟨s, rfl⟩ := h
 refine ⟨s.set i (UInt8.ofNat (IntKind.u8.wrap v).toNat), ?_⟩
 rw [List.map_set]
 congr 1
 have h1 : 0 ≤ IntKind.u8.wrap v ∧ IntKind.u8.wrap v < 256 := by rw [IntKind.wrap_u8]; omega
 have h2 : (UInt8.ofNat (IntKind.u8.wrap v).toNat).toNat = (IntKind.u8.wrap v).toNat := by
  rw [UInt8.toNat_ofNat']
  omega
 rw [h2]
 congr 2
 omega
theorem Bytes.str {o : AObj} (h : Bytes o) : ∃ s : List UInt8, bytesOf o = some s ∧ s.length = o.length := by
 obtain ⟨s, rfl⟩ := h
 exact ⟨s, bytesOf_map s, by simp⟩
theorem Bytes.get {o : AObj} (h : Bytes o) (i : Nat) (hi : i < o.length) : ∃ x : Int, o[i]? = some [AV.int .u8 x] := by
 obtain ⟨s, rfl⟩ := h
 rw [List.length_map] at hi
 exact ⟨(s[i]).toNat, by rw [List.getElem?_map, List.getElem?_eq_getElem hi]; rfl⟩
theorem Bytes.zero (n : Nat) : Bytes (List.replicate n [AV.int .u8 0]) := ⟨List.replicate n 0, by rw [List.map_replicate]; rfl⟩
theorem text_spec (l : List UInt8) (n : Int) (hn : 0 ≤ n) (hl : l.length ≤ 1000000) :
 C Tryz.prog 85 [.ptr 0 0 0 1] (picksH l n) (fun x H' => ∃ (p : List UInt8) (n' : Int), x = .str p ∧ p.length ≤ 129 ∧ n ≤ n' ∧ n' ≤ n + 2 ∧ H' = picksH l n') := by
 refine C_body' d85 rfl (WT_ok ?_)
 unfold c85 picksH
 simp only [wk3, wk, iaddrV_map, seval]
 refine CT_ok (num_at l n 8 hn hl _) ?_
 rintro _ _ ⟨m, n1, rfl, h1, h2, _, h4, h5, rfl⟩
 simp only [wk3, wk, iaddrV_map, seval]
 have h8 := h2 (by omega)
 obtain ⟨e, he, q, rfl, hq0, hq⟩ := pick_of [[AV.int .i64 0], [AV.int .i64 1], [AV.int .i64 3], [AV.int .i64 17], [AV.int .i64 32], [AV.int .i64 33], [AV.int .i64 64], [AV.int .i64 129]] (fun e => ∃ q : Int, e = [.int .i64 q] ∧ 0 ≤ q ∧ q ≤ 129) (by simp) m.toNat (by simp; omega)
 refine ⟨⟨h1, h8⟩, ?_⟩
 simp only [he, wk3, wk, iaddrV_map, seval]
 refine CT_ok (num_at l n1 4 (by omega) hl _) ?_
 rintro _ _ ⟨m2, n2, rfl, g1, g2, _, g4, g5, rfl⟩
 simp only [wk3, wk, iaddrV_map, seval]
 refine ⟨by omega, ?_⟩
 generalize hc : IntKind.u8.wrap (IntKind.i64.wrap (m2 * 40)) = c
 obtain ⟨Q, rfl⟩ : ∃ Q : Nat, q = Q := ⟨q.toNat, by omega⟩
 simp only [hc, Int.toNat_natCast]
 refine WT_loop (W_wk (fr' := [.ptr 0 0 0 1, .top, .str [], .int .i64 Q, .int .u8 c, .own 2 1 0 Q Q, .int .i64 0] ++ List.replicate 28 .top) (Wk_tops ?_) (W_loop (fun nn fr H' => ∃ (i : Nat) (o : AObj), i ≤ Q ∧ nn = Q - i ∧ Bytes o ∧ o.length = Q ∧ H' = [some [[.fz (l.map pbyte), .int .i64 n2]], some [[AV.int .i64 0], [AV.int .i64 1], [AV.int .i64 3], [AV.int .i64 17], [AV.int .i64 32], [AV.int .i64 33], [AV.int .i64 64], [AV.int .i64 129]], some o] ∧ fr = [.ptr 0 0 0 1, .top, .str [], .int .i64 Q, .int .u8 c, .own 2 1 0 Q Q, .int .i64 i] ++ List.replicate 28 .top) Q ⟨0, _, by omega, rfl, Bytes.zero Q, by simp, rfl, rfl⟩ ?_))
 ·simp only [List.replicate_succ, List.replicate_zero, List.cons_append, List.nil_append, Tops_top, Tops_same, Tops_nil]
 rintro nn fr H' ⟨i, o, hi, rfl, ho, hol, rfl, rfl⟩
 refine WT_ok ?_
 simp only [wk3, wk, iaddrV_map, seval]
 refine guard_both ?_ ?_ <;> intro h <;> simp only [hy] at h <;> simp only [h, wk3, wk, iaddrV_map, seval]
 ·have w2 : IntKind.i64.wrap ((i : Int) + 1) = (i : Int) + 1 := IntWalk.i64_in _ (by omega)
  refine guard_both ?_ ?_ <;> intro hh <;> simp only [hy] at hh <;> simp only [hh, w2, hol, wk3, wk, iaddrV_map, seval]
  ·obtain ⟨x, hx⟩ := ho.get i (by omega)
   refine ⟨⟨by omega, by omega⟩, ?_⟩
   simp only [hx, w2, hol, wk3, wk, iaddrV_map, seval]
   refine QLoop_go (n' := Q - (i + 1)) (by omega) ⟨i + 1, _, by omega, rfl, ho.set i (c + IntKind.u8.wrap ((i : Int).tmod 5)), by simp [hol], rfl, rfl⟩ ?_
   simp only [List.replicate_succ, List.replicate_zero, List.cons_append, List.nil_append, Tops_top, Tops_same, Tops_nil, Int.natCast_add, Int.natCast_one]
  ·refine QLoop_go (n' := Q - (i + 1)) (by omega) ⟨i + 1, o, by omega, rfl, ho, hol, rfl, rfl⟩ ?_
   simp only [List.replicate_succ, List.replicate_zero, List.cons_append, List.nil_append, Tops_top, Tops_same, Tops_nil, Int.natCast_add, Int.natCast_one]
 ·obtain ⟨r, hr, hrl⟩ := ho.str
  have ht : List.take Q o = o := List.take_of_length_le (by omega)
  simp only [hol, ht, hr, Option.bind_some, wk3, wk, iaddrV_map, seval]
  refine ⟨.str r, _, (Wk_forget 1 (Nat.le_refl _)).trans (Wk_tops ⟨.inr rfl, trivial⟩), r, n2, rfl, by omega, by omega, by omega, rfl⟩
end Go.Proofs.YtemjlopoffjmpaaGreat.Abs
set_option linter.unusedSimpArgs false
set_option linter.unusedVariables false
namespace Go.Proofs.YtemjlopoffjmpaaGreat.Abs
open Go Go.Proofs
structure OkAt (s : List Node) (x : Node) : Prop where
 bad : x.bad = 0
 kinds : x.kind = 0 ∨ x.kind = 1 ∨ x.kind = 2
 none : x.kind = 0 → x = ⟨0, 0, [], [], 0⟩
 fold : x.kind = 2 → x.body = []
 name : x.kind ≠ 0 → mayN x.name = true
 up : 0 ≤ x.up ∧ x.up < 8
 upf : x.kind ≠ 0 → (s.getD x.up.toNat default).kind = 2
 body : x.body.length ≤ 128
structure Wf (s : List Node) : Prop where
 len : s.length = 8
 top : s.getD 0 default = ⟨2, 0, [], [], 0⟩
 ok : ∀ i, 1 ≤ i → i < 8 → OkAt s (s.getD i default)
 uniq : ∀ i k, 1 ≤ i → i < 8 → 1 ≤ k → k < 8 → (s.getD i default).kind ≠ 0 → (s.getD k default).kind ≠ 0 → (s.getD i default).up = (s.getD k default).up → (s.getD i default).name = (s.getD k default).name → i = k
 tree : ∃ r : Nat → Nat, ∀ i, 1 ≤ i → i < 8 → (s.getD i default).kind ≠ 0 → r (s.getD i default).up.toNat < r i
theorem mem_getD {s : List Node} {x : Node} (h : x ∈ s) : ∃ n, n < s.length ∧ s.getD n default = x := by
 obtain ⟨n, hn, rfl⟩ := List.mem_iff_getElem.1 h
 exact ⟨n, hn, by rw [List.getD_eq_getElem?_getD, List.getElem?_eq_getElem hn]; rfl⟩
theorem Wf.root {s : List Node} (h : Wf s) : (s.getD 0 default).kind ≠ 0 := by rw [h.top]; decide
theorem Wf.root2 {s : List Node} (h : Wf s) : (s.getD 0 default).kind = 2 := by rw [h.top]
theorem Wf.upD {s : List Node} (h : Wf s) (n : Nat) (hn : n < s.length) : 0 ≤ (s.getD n default).up ∧ (s.getD n default).up < 8 := by
 by_cases h0 : n = 0
 ·subst h0; rw [h.top]; decide
 ·exact (h.ok n (by omega) (by have := h.len; omega)).up
theorem Wf.bodyD {s : List Node} (h : Wf s) (n : Nat) (hn : n < s.length) : (s.getD n default).body.length ≤ 128 := by
 by_cases h0 : n = 0
 ·subst h0; rw [h.top]; decide
 ·exact (h.ok n (by omega) (by have := h.len; omega)).body
theorem Wf.kindsD {s : List Node} (h : Wf s) (n : Nat) (hn : n < s.length) : (s.getD n default).kind = 0 ∨ (s.getD n default).kind = 1 ∨ (s.getD n default).kind = 2 := by
 by_cases h0 : n = 0
 ·subst h0; rw [h.top]; decide
 ·exact (h.ok n (by omega) (by have := h.len; omega)).kinds
theorem Wf.badD {s : List Node} (h : Wf s) (n : Nat) (hn : n < s.length) : (s.getD n default).bad = 0 := by
 by_cases h0 : n = 0
 ·subst h0; rw [h.top]
 ·exact (h.ok n (by omega) (by have := h.len; omega)).bad
theorem Wf.emptyD {s : List Node} (h : Wf s) (n : Nat) (hn : n < s.length) (hk : (s.getD n default).kind ≠ 1) : (s.getD n default).body = [] := by
 by_cases h0 : n = 0
 ·subst h0; rw [h.top]
 ·have := h.ok n (by omega) (by have := h.len; omega)
  rcases this.kinds with e | e | e
  ·rw [this.none e]
  ·exact absurd e hk
  ·exact this.fold e
theorem Wf.up {s : List Node} (h : Wf s) : ∀ x ∈ s, 0 ≤ x.up ∧ x.up < 8 := fun x hx => by
 obtain ⟨n, hn, rfl⟩ := mem_getD hx; exact h.upD n hn
theorem Wf.body {s : List Node} (h : Wf s) : ∀ x ∈ s, x.body.length ≤ 128 := fun x hx => by
 obtain ⟨n, hn, rfl⟩ := mem_getD hx; exact h.bodyD n hn
theorem Wf.none {s : List Node} (h : Wf s) : ∀ x ∈ s, x.kind = 0 → x.body = [] := fun x hx hk => by
 obtain ⟨n, hn, rfl⟩ := mem_getD hx; exact h.emptyD n hn (by omega)
theorem rank8 {s : List Node} (r : Nat → Nat) (hlen : s.length = 8) (hup : ∀ i, i < 8 → (s.getD i default).up.toNat < 8) (hr : ∀ i, 1 ≤ i → i < 8 → (s.getD i default).kind ≠ 0 → r (s.getD i default).up.toNat < r i) :
 ∃ r' : Nat → Nat, (∀ i, i < 8 → r' i < 8) ∧ ∀ i, 1 ≤ i → i < 8 → (s.getD i default).kind ≠ 0 → r' (s.getD i default).up.toNat < r' i := by
 have mono : ∀ (a b : Nat), a < b → ∀ (l : List Nat), (∃ j ∈ l, r j = a) → l.countP (fun j => decide (r j < a)) < l.countP (fun j => decide (r j < b)) := by
  intro a b hab l
  induction l with
  | nil => rintro ⟨j, hj, _⟩; cases hj
  | cons x l ih =>
    rintro ⟨j, hj, e⟩
    have le : l.countP (fun j => decide (r j < a)) ≤ l.countP (fun j => decide (r j < b)) := List.countP_mono_left (fun y _ h => by simp at h ⊢; omega)
    rw [List.countP_cons, List.countP_cons]
    rcases List.mem_cons.1 hj with rfl | hj
    ·rw [if_neg (by simp; omega), if_pos (by simp; omega)]; omega
    ·have := ih ⟨j, hj, e⟩
     by_cases h1 : r x < a
     ·rw [if_pos (by simpa using h1), if_pos (by simp; omega)]; omega
     ·rw [if_neg (by simpa using h1)]; omega
 refine ⟨fun i => (List.range 8).countP fun j => decide (r j < r i), fun i hi => ?_, fun i h1 h2 h3 => ?_⟩
 ·have h1 := mono (r i) (r i + 1) (by omega) (List.range 8) ⟨i, by simpa using hi, rfl⟩
  have h2 : (List.range 8).countP (fun j => decide (r j < r i + 1)) ≤ (List.range 8).length := List.countP_le_length
  simp at h2
  show (List.range 8).countP (fun j => decide (r j < r i)) < 8
  omega
 ·exact mono _ _ (hr i h1 h2 h3) (List.range 8) ⟨_, by simpa using hup i h2, rfl⟩
theorem getD_set (s : List Node) (n i : Nat) (x : Node) : (s.set n x).getD i default = if n = i ∧ i < s.length then x else s.getD i default := by
 rw [List.getD_eq_getElem?_getD, List.getElem?_set]
 by_cases h : n = i
 ·subst h
  by_cases h2 : n < s.length
  ·simp [h2]
  ·simp [h2]
 ·simp [h, List.getD_eq_getElem?_getD]
theorem Wf.put {s : List Node} (h : Wf s) {n : Nat} (h1 : 1 ≤ n) (hn : n < 8) {x : Node} (hx : OkAt s x)
 (hself : x.kind ≠ 0 → x.up.toNat ≠ n ∨ x.kind = 2)
 (hkids : x.kind = 2 ∨ ∀ i, 1 ≤ i → i < 8 → i ≠ n → (s.getD i default).kind ≠ 0 → (s.getD i default).up.toNat ≠ n)
 (huniq : x.kind ≠ 0 → ∀ i, 1 ≤ i → i < 8 → i ≠ n → (s.getD i default).kind ≠ 0 → (s.getD i default).up = x.up → (s.getD i default).name ≠ x.name)
 (r : Nat → Nat) (hr : ∀ i, 1 ≤ i → i < 8 → i ≠ n → (s.getD i default).kind ≠ 0 → r (s.getD i default).up.toNat < r i) (hrx : x.kind ≠ 0 → r x.up.toNat < r n) : Wf (s.set n x) := by
 have hlen := h.len
 have gn : (s.set n x).getD n default = x := by rw [getD_set, if_pos ⟨rfl, by omega⟩]
 have gi : ∀ i, i ≠ n → (s.set n x).getD i default = s.getD i default := fun i hi => by rw [getD_set, if_neg (by omega)]
 refine ⟨by rw [List.length_set]; exact hlen, by rw [gi 0 (by omega)]; exact h.top, fun i hi1 hi8 => ?_, fun i k hi1 hi8 hk1 hk8 hki hkk hu hnm => ?_, r, fun i hi1 hi8 hk => ?_⟩
 ·by_cases e : i = n
  ·subst e
   rw [gn]
   refine ⟨hx.bad, hx.kinds, hx.none, hx.fold, hx.name, hx.up, fun hk => ?_, hx.body⟩
   by_cases e2 : x.up.toNat = i
   ·rw [e2, gn]
    rcases hself hk with h' | h'
    ·exact absurd e2 h'
    ·exact h'
   ·rw [gi _ e2]; exact hx.upf hk
  ·rw [gi i e]
   have o := h.ok i hi1 hi8
   refine ⟨o.bad, o.kinds, o.none, o.fold, o.name, o.up, fun hk => ?_, o.body⟩
   by_cases e2 : (s.getD i default).up.toNat = n
   ·rw [e2, gn]
    rcases hkids with h' | h'
    ·exact h'
    ·exact absurd e2 (h' i hi1 hi8 e hk)
   ·rw [gi _ e2]; exact o.upf hk
 ·by_cases e : i = n
  ·by_cases e2 : k = n
   ·omega
   ·subst e
    rw [gn] at hki hu hnm; rw [gi k e2] at hkk hu hnm
    exact absurd hnm.symm (huniq hki k hk1 hk8 e2 hkk hu.symm)
  ·by_cases e2 : k = n
   ·subst e2
    rw [gn] at hkk hu hnm; rw [gi i e] at hki hu hnm
    exact absurd hnm (huniq hkk i hi1 hi8 e hki hu)
   ·rw [gi i e] at hki hu hnm; rw [gi k e2] at hkk hu hnm
    exact h.uniq i k hi1 hi8 hk1 hk8 hki hkk hu hnm
 ·by_cases e : i = n
  ·subst e; rw [gn] at hk ⊢; exact hrx hk
  ·rw [gi i e] at hk ⊢; exact hr i hi1 hi8 e hk
end Go.Proofs.YtemjlopoffjmpaaGreat.Abs
set_option linter.unusedSimpArgs false
set_option linter.unusedVariables false
namespace Go.Proofs.YtemjlopoffjmpaaGreat.Abs
open Go Go.Proofs
theorem Wk_empAt {n0 : Nat} {fr : List AV} {H : AH} (j sz : Nat) (h : fr[j]? = some .emp) : Wk n0 fr H (fr.set j (.own H.length sz 0 0 0)) (H ++ [some []]) := by
 intro E w vs hs hr
 refine ⟨E, LeN.refl _ _, hs.newEmpty, by rw [List.length_set]; exact hr.1, fun i c u hc hu => ?_⟩
 rw [List.getElem?_set] at hc
 by_cases hij : j = i
 ·subst hij
  rw [if_pos rfl] at hc
  split at hc
  ·cases hc
   obtain ⟨a, rfl⟩ := rep_emp (hr.2 j _ u h hu)
   exact .own0 _ _ _
  ·cases hc
 ·rw [if_neg hij] at hc
  exact hr.2 i c u hc hu
def kid (s : List Node) (n : Int) (i : Nat) : Prop := 1 ≤ i ∧ i < s.length ∧ ((s.getD i default).kind = 1 ∨ (s.getD i default).kind = 2) ∧ (s.getD i default).up = n
def cellI (i : Nat) : List AV := [.int .i64 i]
def pint (i : Nat) : List PV := [.int .i64 i]
theorem swap_mem (l : List Nat) (i j : Nat) (hi : i < l.length) (hj : j < l.length) (x : Nat) : x ∈ (l.set i (l.getD j 0)).set j (l.getD i 0) ↔ x ∈ l := by
 have gi : l.getD i 0 = l[i] := by rw [List.getD_eq_getElem?_getD, List.getElem?_eq_getElem hi]; rfl
 have gj : l.getD j 0 = l[j] := by rw [List.getD_eq_getElem?_getD, List.getElem?_eq_getElem hj]; rfl
 rw [gi, gj]
 simp only [List.mem_iff_getElem?, List.getElem?_set, List.length_set]
 constructor
 ·rintro ⟨k, hk⟩
  by_cases h1 : j = k
  ·subst h1
   rw [if_pos rfl, if_pos (by omega)] at hk
   exact ⟨i, by rw [← hk]; exact List.getElem?_eq_getElem hi⟩
  ·rw [if_neg h1] at hk
   by_cases h2 : i = k
   ·subst h2
    rw [if_pos rfl, if_pos hi] at hk
    exact ⟨j, by rw [← hk]; exact List.getElem?_eq_getElem hj⟩
   ·rw [if_neg h2] at hk
    exact ⟨k, hk⟩
 ·rintro ⟨k, hk⟩
  by_cases h1 : k = i
  ·subst h1
   refine ⟨j, ?_⟩
   rw [if_pos rfl, if_pos (by omega)]
   rw [List.getElem?_eq_getElem hi] at hk
   exact hk
  ·by_cases h2 : k = j
   ·subst h2
    refine ⟨i, ?_⟩
    rw [List.getElem?_eq_getElem hj] at hk
    rw [if_neg h1, if_pos rfl, if_pos hi]
    exact hk
   ·exact ⟨k, by rw [if_neg (Ne.symm h2), if_neg (Ne.symm h1)]; exact hk⟩
theorem iaddr_node (H : AH) (s : List Node) (k : IntKind) (n : Int) : iaddrV H 5 (.fz (s.map pnode)) (.int k n) = if 0 ≤ n ∧ n < s.length then some (.fptr (pnode (s.getD n.toNat default))) else none := by
 rw [iaddrV_map]
 have : (pnode (s.getD n.toNat default)).length = 5 := rfl
 simp only [this, and_true]
theorem set_cell (l : List Nat) (i x : Nat) : (List.map cellI l).set i [AV.int .i64 (x : Int)] = (l.set i x).map cellI := by rw [List.map_set]; rfl
theorem Wk_ints {fr fr' : List AV} {l : List Nat} {G : AH} (h : Tops fr' (renL (upTo 1) fr)) : Wk 0 fr (some (l.map cellI) :: G) fr' [some (l.map cellI)] := by
 have h1 := (Wk_forget (n0 := 0) (fr := fr) (H := some (l.map cellI) :: G) 1 (Nat.zero_le _)).trans (Wk_tops h)
 have e : mapH (renL (upTo 1)) ((some (l.map cellI) :: G).take 1) = [some (l.map cellI)] := by
  simp only [List.take_succ_cons, List.take_zero, mapH, List.map_cons, List.map_nil, Option.map_some, List.map_map]
  congr 2
 rwa [e] at h1
theorem kids_spec0 (s : List Node) (hs : s.length ≤ 1000000) (n : Int) :
 C Tryz.prog 111 [aset s, .int .i64 n] [] (fun x H' => ∃ l : List Nat, x = .fz (l.map pint) ∧ (∀ i, i ∈ l ↔ kid s n i) ∧ l.length ≤ s.length ∧ H' = []) := by
 refine C_body' d111 rfl (WT_ok ?_)
 unfold c111
 simp only [aset, iaddr_node, pnode, wk3, wk, Nat.reduceAdd, Nat.reduceSub, Nat.reduceMul, Nat.reduceLeDiff, Nat.reduceEqDiff, Nat.reduceBEq, Int.reduceLE, Int.reduceLT, Int.reduceEq, Int.reduceNe, Int.reduceAdd, Int.reduceSub, Int.reduceToNat, Int.reduceNeg, ↓reduceIte, reduceCtorEq]
 refine WT_loop (W_wk (Wk_empAt 5 1 rfl) (W_loop (fun nn fr H' => ∃ (i : Nat) (l : List Nat), 1 ≤ i ∧ (i ≤ s.length ∨ i = 1) ∧ nn = s.length - i ∧ (∀ j, j ∈ l ↔ kid s n j ∧ j < i) ∧ l.length < i ∧ H' = [some (l.map cellI)] ∧
  fr = [.fz (s.map pnode), .int .i64 n, .top, .top, .emp, .own 0 1 0 l.length l.length, .int .i64 i, .top] ++ List.replicate 73 .top) (s.length - 1) ⟨1, [], by omega, by omega, rfl, by simp [kid]; omega, by simp, rfl, rfl⟩ ?_))
 rintro nn fr H' ⟨i, l, hi1, hi, rfl, hmem, hll, rfl, rfl⟩
 refine WT_ok ?_
 simp only [iaddr_node, pnode, wk3, wk, Nat.reduceAdd, Nat.reduceSub, Nat.reduceMul, Nat.reduceLeDiff, Nat.reduceEqDiff, Nat.reduceBEq, Int.reduceLE, Int.reduceLT, Int.reduceEq, Int.reduceNe, Int.reduceAdd, Int.reduceSub, Int.reduceToNat, Int.reduceNeg, ↓reduceIte, reduceCtorEq]
 refine guard_both ?_ ?_ <;> intro h <;> simp only [hy] at h
 ·have hil : i < s.length := by omega
  have h0 : (0 : Int) ≤ i := by omega
  have w2 : IntKind.i64.wrap ((i : Int) + 1) = (i : Int) + 1 := IntWalk.i64_in _ (by omega)
  simp only [h0, h, iaddr_node, pnode, wk3, wk, Nat.reduceAdd, Nat.reduceSub, Nat.reduceMul, Nat.reduceLeDiff, Nat.reduceEqDiff, Nat.reduceBEq, Int.reduceLE, Int.reduceLT, Int.reduceEq, Int.reduceNe, Int.reduceAdd, Int.reduceSub, Int.reduceToNat, Int.reduceNeg, ↓reduceIte, reduceCtorEq]
  by_cases hk : kid s n i
  ·have hup : (s.getD i default).up = n := hk.2.2.2
   rcases hk.2.2.1 with h1 | h1 <;> simp only [h0, h, h1, hup, iaddr_node, pnode, wk3, wk, Nat.reduceAdd, Nat.reduceSub, Nat.reduceMul, Nat.reduceLeDiff, Nat.reduceEqDiff, Nat.reduceBEq, Int.reduceLE, Int.reduceLT, Int.reduceEq, Int.reduceNe, Int.reduceAdd, Int.reduceSub, Int.reduceToNat, Int.reduceNeg, ↓reduceIte, reduceCtorEq]
   all_goals
    have e : List.map cellI l ++ [[AV.int .i64 (i : Int)]] = (l ++ [i]).map cellI := by simp [cellI]
    have hmem2 : ∀ j, j ∈ l ++ [i] ↔ kid s n j ∧ j < i + 1 := by
     intro j
     rw [List.mem_append, hmem, List.mem_singleton]
     constructor
     ·rintro (⟨a, b⟩ | rfl)
      ·exact ⟨a, by omega⟩
      ·exact ⟨hk, by omega⟩
     ·rintro ⟨a, b⟩
      rcases Nat.lt_or_ge j i with h' | h'
      ·exact .inl ⟨a, h'⟩
      ·exact .inr (by omega)
    rw [e]
    refine ⟨⟨by omega, by omega⟩, ?_⟩
    refine WT_loop (W_wk (Wk_ints (fr' := [.fz (s.map pnode), .int .i64 n, .top, .top, .emp, .own 0 1 0 (l.length + 1) (l.length + 1), .int .i64 i, .int .i64 l.length] ++ List.replicate 73 .top) ?_) (W_loop (fun nn fr H' => ∃ (k : Nat) (l' : List Nat), k < l'.length ∧ l'.length = l.length + 1 ∧ nn = k ∧ (∀ j, j ∈ l' ↔ kid s n j ∧ j < i + 1) ∧ H' = [some (l'.map cellI)] ∧
     fr = [.fz (s.map pnode), .int .i64 n, .top, .top, .emp, .own 0 1 0 (l.length + 1) (l.length + 1), .int .i64 i, .int .i64 k] ++ List.replicate 73 .top) l.length ⟨l.length, l ++ [i], by simp, by simp, rfl, hmem2, rfl, rfl⟩ ?_))
    ·simp only [List.replicate_succ, List.replicate_zero, List.cons_append, List.nil_append, renL, ren, upTo, Nat.zero_lt_one, if_true, Tops_top, Tops_same, Tops_nil]
    rintro k fr H' ⟨_, l', hkl, hl', rfl, hm', rfl, rfl⟩
    refine WT_ok ?_
    simp only [iaddr_node, pnode, wk3, wk, Nat.reduceAdd, Nat.reduceSub, Nat.reduceMul, Nat.reduceLeDiff, Nat.reduceEqDiff, Nat.reduceBEq, Int.reduceLE, Int.reduceLT, Int.reduceEq, Int.reduceNe, Int.reduceAdd, Int.reduceSub, Int.reduceToNat, Int.reduceNeg, ↓reduceIte, reduceCtorEq]
    refine WT_draw ?_
    simp only [iaddr_node, pnode, wk3, wk, Nat.reduceAdd, Nat.reduceSub, Nat.reduceMul, Nat.reduceLeDiff, Nat.reduceEqDiff, Nat.reduceBEq, Int.reduceLE, Int.reduceLT, Int.reduceEq, Int.reduceNe, Int.reduceAdd, Int.reduceSub, Int.reduceToNat, Int.reduceNeg, ↓reduceIte, reduceCtorEq]
    refine guard_both ?_ ?_ <;> intro hk0 <;> simp only [hy] at hk0
    ·have hkp : 0 < k := by omega
     have hx := List.getElem?_eq_getElem (show k - 1 < l'.length by omega)
     have hy := List.getElem?_eq_getElem (show k < l'.length by omega)
     have hkx := (hm' l'[k - 1]).1 (List.getElem_mem _)
     generalize l'[k - 1] = xx at hx hkx
     generalize l'[k] = yy at hy
     have hxr := hkx.1.2.1
     have wk1 : IntKind.i64.wrap ((k : Int) - 1) = ((k - 1 : Nat) : Int) := by rw [IntWalk.i64_in _ (by omega)]; omega
     simp only [hk0, h0, h, hl', hx, wk1, cellI, iaddr_node, pnode, wk3, wk, Nat.reduceAdd, Nat.reduceSub, Nat.reduceMul, Nat.reduceLeDiff, Nat.reduceEqDiff, Nat.reduceBEq, Int.reduceLE, Int.reduceLT, Int.reduceEq, Int.reduceNe, Int.reduceAdd, Int.reduceSub, Int.reduceToNat, Int.reduceNeg, ↓reduceIte, reduceCtorEq]
     refine ⟨⟨by omega, by omega⟩, ⟨by omega, by omega⟩, ?_⟩
     refine guard_both ?_ ?_ <;> intro hb
     ·simp only [hb, iaddr_node, pnode, wk3, wk, Nat.reduceAdd, Nat.reduceSub, Nat.reduceMul, Nat.reduceLeDiff, Nat.reduceEqDiff, Nat.reduceBEq, Int.reduceLE, Int.reduceLT, Int.reduceEq, Int.reduceNe, Int.reduceAdd, Int.reduceSub, Int.reduceToNat, Int.reduceNeg, ↓reduceIte, reduceCtorEq]
      refine WT_drawE ?_
      refine WDT_more 0 ?_
      simp only [hl', hx, hy, wk1, cellI, iaddr_node, pnode, wk3, wk, Nat.reduceAdd, Nat.reduceSub, Nat.reduceMul, Nat.reduceLeDiff, Nat.reduceEqDiff, Nat.reduceBEq, Int.reduceLE, Int.reduceLT, Int.reduceEq, Int.reduceNe, Int.reduceAdd, Int.reduceSub, Int.reduceToNat, Int.reduceNeg, ↓reduceIte, reduceCtorEq]
      refine ⟨⟨by omega, by omega⟩, ⟨by omega, by omega⟩, ⟨by omega, by omega⟩, by omega, by rfl, ⟨by omega, by omega⟩, ?_⟩
      have hz : (l'.set (k - 1) yy)[k]? = some yy := by rw [List.getElem?_set_ne (by omega)]; exact hy
      have hsw : ∀ j, j ∈ (l'.set (k - 1) yy).set k xx ↔ kid s n j ∧ j < i + 1 := by
       intro j
       have := swap_mem l' (k - 1) k (by omega) (by omega) j
       rw [List.getD_eq_getElem?_getD, List.getD_eq_getElem?_getD, hx, hy] at this
       rw [← hm' j]; exact this
      rw [set_cell]
      simp only [hz, wk1, cellI, lay, List.getElem?_map, Option.map_some, iaddr_node, pnode, wk3, wk, Nat.reduceAdd, Nat.reduceSub, Nat.reduceMul, Nat.reduceLeDiff, Nat.reduceEqDiff, Nat.reduceBEq, Int.reduceLE, Int.reduceLT, Int.reduceEq, Int.reduceNe, Int.reduceAdd, Int.reduceSub, Int.reduceToNat, Int.reduceNeg, ↓reduceIte, reduceCtorEq]
      rw [set_cell]
      refine QLoop_go (n' := k - 1) (by omega) ⟨k - 1, (l'.set (k - 1) yy).set k xx, by simp; omega, by simp; omega, rfl, hsw, rfl, rfl⟩ ?_
      simp only [List.replicate_succ, List.replicate_zero, List.cons_append, List.nil_append, Tops_top, Tops_same, Tops_nil]
     ·simp only [hb, w2, iaddr_node, pnode, wk3, wk, Nat.reduceAdd, Nat.reduceSub, Nat.reduceMul, Nat.reduceLeDiff, Nat.reduceEqDiff, Nat.reduceBEq, Int.reduceLE, Int.reduceLT, Int.reduceEq, Int.reduceNe, Int.reduceAdd, Int.reduceSub, Int.reduceToNat, Int.reduceNeg, ↓reduceIte, reduceCtorEq]
      refine QLoop_go (n' := s.length - (i + 1)) (by omega) ⟨i + 1, l', by omega, by omega, rfl, hm', by omega, rfl, rfl⟩ ?_
      simp only [hl', List.replicate_succ, List.replicate_zero, List.cons_append, List.nil_append, Tops_top, Tops_same, Tops_nil, Int.natCast_add, Int.natCast_one]
    ·simp only [hk0, w2, iaddr_node, pnode, wk3, wk, Nat.reduceAdd, Nat.reduceSub, Nat.reduceMul, Nat.reduceLeDiff, Nat.reduceEqDiff, Nat.reduceBEq, Int.reduceLE, Int.reduceLT, Int.reduceEq, Int.reduceNe, Int.reduceAdd, Int.reduceSub, Int.reduceToNat, Int.reduceNeg, ↓reduceIte, reduceCtorEq]
     refine QLoop_go (n' := s.length - (i + 1)) (by omega) ⟨i + 1, l', by omega, by omega, rfl, hm', by omega, rfl, rfl⟩ ?_
     simp only [hl', List.replicate_succ, List.replicate_zero, List.cons_append, List.nil_append, Tops_top, Tops_same, Tops_nil, Int.natCast_add, Int.natCast_one]
  ·have fin : ∀ j, j ∈ l ↔ kid s n j ∧ j < i + 1 := by
    intro j
    rw [hmem]
    constructor
    ·exact fun ⟨a, b⟩ => ⟨a, by omega⟩
    ·rintro ⟨a, b⟩
     refine ⟨a, ?_⟩
     rcases Nat.lt_or_ge j i with h' | h'
     ·exact h'
     ·have : j = i := by omega
      subst this; exact absurd a hk
   by_cases h1 : (s.getD i default).kind = 1
   ·have h3 : ¬ (s.getD i default).up = n := fun e => hk ⟨hi1, hil, .inl h1, e⟩
    simp only [h0, h, h1, h3, w2, iaddr_node, pnode, wk3, wk, Nat.reduceAdd, Nat.reduceSub, Nat.reduceMul, Nat.reduceLeDiff, Nat.reduceEqDiff, Nat.reduceBEq, Int.reduceLE, Int.reduceLT, Int.reduceEq, Int.reduceNe, Int.reduceAdd, Int.reduceSub, Int.reduceToNat, Int.reduceNeg, ↓reduceIte, reduceCtorEq]
    refine QLoop_go (n' := s.length - (i + 1)) (by omega) ⟨i + 1, l, by omega, by omega, rfl, fin, by omega, rfl, rfl⟩ ?_
    simp only [List.replicate_succ, List.replicate_zero, List.cons_append, List.nil_append, Tops_top, Tops_same, Tops_nil, Int.natCast_add, Int.natCast_one]
   ·by_cases h2 : (s.getD i default).kind = 2
    ·have h3 : ¬ (s.getD i default).up = n := fun e => hk ⟨hi1, hil, .inr h2, e⟩
     simp only [h0, h, h2, h3, w2, iaddr_node, pnode, wk3, wk, Nat.reduceAdd, Nat.reduceSub, Nat.reduceMul, Nat.reduceLeDiff, Nat.reduceEqDiff, Nat.reduceBEq, Int.reduceLE, Int.reduceLT, Int.reduceEq, Int.reduceNe, Int.reduceAdd, Int.reduceSub, Int.reduceToNat, Int.reduceNeg, ↓reduceIte, reduceCtorEq]
     refine QLoop_go (n' := s.length - (i + 1)) (by omega) ⟨i + 1, l, by omega, by omega, rfl, fin, by omega, rfl, rfl⟩ ?_
     simp only [List.replicate_succ, List.replicate_zero, List.cons_append, List.nil_append, Tops_top, Tops_same, Tops_nil, Int.natCast_add, Int.natCast_one]
    ·simp only [h0, h, h1, h2, w2, iaddr_node, pnode, wk3, wk, Nat.reduceAdd, Nat.reduceSub, Nat.reduceMul, Nat.reduceLeDiff, Nat.reduceEqDiff, Nat.reduceBEq, Int.reduceLE, Int.reduceLT, Int.reduceEq, Int.reduceNe, Int.reduceAdd, Int.reduceSub, Int.reduceToNat, Int.reduceNeg, ↓reduceIte, reduceCtorEq]
     refine QLoop_go (n' := s.length - (i + 1)) (by omega) ⟨i + 1, l, by omega, by omega, rfl, fin, by omega, rfl, rfl⟩ ?_
     simp only [List.replicate_succ, List.replicate_zero, List.cons_append, List.nil_append, Tops_top, Tops_same, Tops_nil, Int.natCast_add, Int.natCast_one]
 ·simp only [h, iaddr_node, pnode, wk3, wk, Nat.reduceAdd, Nat.reduceSub, Nat.reduceMul, Nat.reduceLeDiff, Nat.reduceEqDiff, Nat.reduceBEq, Int.reduceLE, Int.reduceLT, Int.reduceEq, Int.reduceNe, Int.reduceAdd, Int.reduceSub, Int.reduceToNat, Int.reduceNeg, ↓reduceIte, reduceCtorEq]
  refine KWk_frozen 0 (l.map pint) ?_ (.fz (l.map pint)) ?_ ⟨l, rfl, fun j => ?_, by omega, rfl⟩
  ·simp [AH.at, cellI, pint, emb]
  ·simp only [frzL, frz, renL, ren, if_true, List.length_map, Nat.zero_add, Nat.le_refl, and_self, List.drop_zero]
   rw [List.take_of_length_le (by simp)]
  ·rw [hmem]
   constructor
   ·exact fun h => h.1
   ·intro hk
    have := hk.2.1
    exact ⟨hk, by omega⟩
theorem kids_spec (s : List Node) (hs : s.length ≤ 1000000) (n : Int) (H : AH) : C Tryz.prog 111 [aset s, .int .i64 n] H (fun x H' => (∃ l : List Nat, x = .fz (l.map pint) ∧ (∀ i, i ∈ l ↔ kid s n i) ∧ l.length ≤ s.length) ∧ H' = H) :=
 C_pure (K0 := fun x => ∃ l : List Nat, x = .fz (l.map pint) ∧ (∀ i, i ∈ l ↔ kid s n i) ∧ l.length ≤ s.length) ((kids_spec0 s hs n).mono fun x H' ⟨l, h1, h2, h3, h4⟩ => ⟨⟨l, h1, h2, h3⟩, h4⟩) (fun τ => by simp [renL, ren, aset]) (by rintro y ⟨l, rfl, _⟩ τ; simp [ren]) H
end Go.Proofs.YtemjlopoffjmpaaGreat.Abs
set_option linter.unusedSimpArgs false
set_option linter.unusedVariables false
namespace Go.Proofs.YtemjlopoffjmpaaGreat.Abs
open Go Go.Proofs
theorem iaddr_int (H : AH) (l : List Nat) (k : IntKind) (n : Int) : iaddrV H 1 (.fz (l.map pint)) (.int k n) = if 0 ≤ n ∧ n < l.length then some (.fptr (pint (l.getD n.toNat default))) else none := by
 rw [iaddrV_map]
 have : (pint (l.getD n.toNat default)).length = 1 := rfl
 simp only [this, and_true]
def pname (x : List UInt8) : List PV := [.str x]
theorem iaddr_name (H : AH) (l : List (List UInt8)) (k : IntKind) (n : Int) : iaddrV H 1 (.fz (l.map pname)) (.int k n) = if 0 ≤ n ∧ n < l.length then some (.fptr (pname (l.getD n.toNat default))) else none := by
 rw [iaddrV_map]
 have : (pname (l.getD n.toNat default)).length = 1 := rfl
 simp only [this, and_true]
theorem kid_spec (s : List Node) (hs : s.length ≤ 1000000) (n : Int) (nm : List UInt8) (H : AH) :
 C Tryz.prog 79 [aset s, .int .i64 n, .str nm] H (fun x H' => H' = H ∧ ((∃ k : Nat, kid s n k ∧ (s.getD k default).name = nm ∧ x = .tuple [.int .i64 k, .bool true]) ∨ (x = .tuple [.int .i64 0, .bool false] ∧ ∀ k, kid s n k → (s.getD k default).name ≠ nm))) := by
 refine C_body d79 rfl (WT_ok ?_)
 unfold c79
 simp only [aset, iaddr_node, pnode, wk3, wk, seval]
 refine CT_ok (kids_spec s hs n H) ?_
 rintro _ H ⟨⟨l, rfl, hl, hll⟩, rfl⟩
 simp only [iaddr_node, pnode, wk3, wk, seval]
 refine WT_loop (W_wk (fr' := [.fz (s.map pnode), .int .i64 n, .str nm, .top, .top, .top, .int .i64 0, .bool false, .fz (l.map pint), .int .i64 0] ++ List.replicate 23 .top) (Wk_tops ?_) (W_loop (fun nn fr H' => ∃ j : Nat, j ≤ l.length ∧ nn = l.length - j ∧ (∀ i, i < j → (s.getD (l.getD i 0) default).name ≠ nm) ∧ H' = H ∧ fr = [.fz (s.map pnode), .int .i64 n, .str nm, .top, .top, .top, .int .i64 0, .bool false, .fz (l.map pint), .int .i64 j] ++ List.replicate 23 .top) l.length ⟨0, by omega, rfl, fun i hi => by omega, rfl, rfl⟩ ?_))
 ·simp only [List.replicate_succ, List.replicate_zero, List.cons_append, List.nil_append, Tops_top, Tops_same, Tops_nil]
 rintro nn fr H ⟨j, hj, rfl, hno, rfl, rfl⟩
 refine WT_ok ?_
 simp only [iaddr_node, pnode, wk3, wk, seval]
 refine guard_both ?_ ?_ <;> intro h <;> simp only [hy] at h
 ·have hjl : j < l.length := by omega
  have h0 : (0 : Int) ≤ j := by omega
  have hmem : l.getD j 0 ∈ l := by rw [List.getD_eq_getElem?_getD, List.getElem?_eq_getElem hjl]; exact List.getElem_mem _
  have hk := (hl _).1 hmem
  have hd : l.getD j default = l.getD j 0 := rfl
  have hk2 := hk.2.1
  have h1 : (0 : Int) ≤ (l.getD j 0 : Nat) := by omega
  have h2 : ((l.getD j 0 : Nat) : Int) < s.length := by omega
  have w2 : IntKind.i64.wrap ((j : Int) + 1) = (j : Int) + 1 := IntWalk.i64_in _ (by omega)
  simp only [h0, h, h1, h2, hd, iaddr_int, pint, iaddr_node, pnode, wk3, wk, seval]
  refine guard_both ?_ ?_ <;> intro h3 <;> simp only [hy] at h3
  ·simp only [h3, h0, h, hd, iaddr_int, pint, iaddr_node, pnode, wk3, wk, seval]
   exact .inl ⟨_, hk, h3, rfl⟩
  ·simp only [h3, w2, iaddr_node, pnode, wk3, wk, seval]
   refine QLoop_go (n' := l.length - (j + 1)) (by omega) ⟨j + 1, by omega, rfl, fun i hi => ?_, rfl, rfl⟩ ?_
   ·rcases Nat.lt_or_ge i j with h' | h'
    ·exact hno i h'
    ·have : i = j := by omega
     subst this; exact h3
   ·simp only [List.replicate_succ, List.replicate_zero, List.cons_append, List.nil_append, Tops_top, Tops_same, Tops_nil, Int.natCast_add, Int.natCast_one]
 ·simp only [h, iaddr_node, pnode, wk3, wk, seval]
  refine .inr fun k hk => ?_
  obtain ⟨i, hi, he⟩ := List.mem_iff_getElem.1 ((hl k).2 hk)
  have := hno i (by omega)
  have hg : l.getD i 0 = k := by rw [List.getD_eq_getElem?_getD, List.getElem?_eq_getElem hi]; exact he
  rwa [hg] at this
def downR (s : List Node) : List (List UInt8) → Nat → Nat → Prop
 | [], a, b => a = b
 | x :: l, a, b => (s.getD a default).kind = 2 ∧ ∃ k, kid s a k ∧ (s.getD k default).name = x ∧ downR s l k b
def downF (s : List Node) (l : List (List UInt8)) : Prop := ∃ (l1 : List (List UInt8)) (x : List UInt8) (l2 : List (List UInt8)) (a : Nat), l = l1 ++ x :: l2 ∧ downR s l1 0 a ∧ a < s.length ∧ ((s.getD a default).kind ≠ 2 ∨ ∀ k, kid s a k → (s.getD k default).name ≠ x)
theorem downR_snoc {s : List Node} {x : List UInt8} : ∀ {l : List (List UInt8)} {a b k : Nat}, downR s l a b → (s.getD b default).kind = 2 → kid s b k → (s.getD k default).name = x → downR s (l ++ [x]) a k
 | [], a, b, k, h, h1, h2, h3 => by
   simp only [downR] at h; subst h
   exact ⟨h1, k, h2, h3, rfl⟩
 | y :: l, a, b, k, ⟨g1, m, g2, g3, g4⟩, h1, h2, h3 => ⟨g1, m, g2, g3, downR_snoc g4 h1 h2 h3⟩
theorem down_spec (s : List Node) (hs : s.length ≤ 1000000) (h0s : 0 < s.length) (l : List (List UInt8)) (hl : l.length ≤ 1000000) (H : AH) :
 C Tryz.prog 110 [aset s, .fz (l.map pname)] H (fun x H' => H' = H ∧ ((∃ k : Nat, k < s.length ∧ downR s l 0 k ∧ x = .tuple [.int .i64 k, .int .i64 0]) ∨ ∃ e : Int, e ≠ 0 ∧ downF s l ∧ x = .tuple [.int .i64 0, .int .i64 e])) := by
 refine C_body d110 rfl (WT_ok ?_)
 unfold c110
 simp only [aset, iaddr_node, pnode, wk3, wk, seval]
 refine WT_loop (W_loop (fun nn fr H' => ∃ (j a : Nat), j ≤ l.length ∧ nn = l.length - j ∧ a < s.length ∧ downR s (l.take j) 0 a ∧ H' = H ∧ fr = [.fz (s.map pnode), .fz (l.map pname), .top, .top, .int .i64 0, .int .i64 0, .int .i64 a, .int .i64 j] ++ List.replicate 40 .top) l.length ⟨0, 0, by omega, rfl, h0s, rfl, rfl, rfl⟩ ?_)
 rintro nn fr H ⟨j, a, hj, rfl, ha, hR, rfl, rfl⟩
 refine WT_ok ?_
 simp only [iaddr_node, pnode, wk3, wk, seval]
 refine guard_both ?_ ?_ <;> intro h <;> simp only [hy] at h
 ·have hjl : j < l.length := by omega
  have h0 : (0 : Int) ≤ j := by omega
  have h1 : (0 : Int) ≤ a := by omega
  have h2 : (a : Int) < s.length := by omega
  have h2' : ¬ (s.length : Int) ≤ a := by omega
  have w2 : IntKind.i64.wrap ((j : Int) + 1) = (j : Int) + 1 := IntWalk.i64_in _ (by omega)
  have hsplit : l = l.take j ++ l.getD j default :: l.drop (j + 1) := by
   rw [List.getD_eq_getElem?_getD, List.getElem?_eq_getElem hjl, Option.getD_some, List.getElem_cons_drop, List.take_append_drop]
  simp only [h0, h, h1, h2, h2', iaddr_name, pname, iaddr_node, pnode, wk3, wk, seval]
  by_cases hk : (s.getD a default).kind = 2
  ·simp only [hk, h0, h, h1, h2, iaddr_name, pname, iaddr_node, pnode, wk3, wk, seval]
   refine CT_ok (kid_spec s hs a (l.getD j default) H) ?_
   rintro _ H ⟨rfl, ⟨k, hk1, hk2, rfl⟩ | ⟨rfl, hno⟩⟩
   ·simp only [w2, iaddr_node, pnode, wk3, wk, seval]
    refine QLoop_go (n' := l.length - (j + 1)) (by omega) ⟨j + 1, k, by omega, rfl, hk1.2.1, ?_, rfl, rfl⟩ ?_
    ·rw [List.take_add_one, List.getElem?_eq_getElem hjl]
     refine downR_snoc hR hk hk1 ?_
     rw [hk2, List.getD_eq_getElem?_getD, List.getElem?_eq_getElem hjl]
     rfl
    ·simp only [List.replicate_succ, List.replicate_zero, List.cons_append, List.nil_append, Tops_top, Tops_same, Tops_nil, Int.natCast_add, Int.natCast_one]
   ·simp only [iaddr_node, pnode, wk3, wk, seval]
    refine CT_ok (lost_spec s hs H) ?_
    rintro _ _ ⟨rfl, rfl⟩
    simp only [iaddr_node, pnode, wk3, wk, seval]
    refine guard_both ?_ ?_ <;> intro h3 <;> simp only [h3, iaddr_node, pnode, wk3, wk, seval]
    ·exact .inr ⟨12, by omega, ⟨_, _, _, a, hsplit, hR, ha, .inr hno⟩, rfl⟩
    ·exact .inr ⟨2, by omega, ⟨_, _, _, a, hsplit, hR, ha, .inr hno⟩, rfl⟩
  ·simp only [hk, iaddr_node, pnode, wk3, wk, seval]
   exact .inr ⟨5, by omega, ⟨_, _, _, a, hsplit, hR, ha, .inl hk⟩, rfl⟩
 ·have : j = l.length := by omega
  subst this
  rw [List.take_length] at hR
  simp only [h, iaddr_node, pnode, wk3, wk, seval]
  exact .inl ⟨a, ha, hR, rfl⟩
end Go.Proofs.YtemjlopoffjmpaaGreat.Abs
