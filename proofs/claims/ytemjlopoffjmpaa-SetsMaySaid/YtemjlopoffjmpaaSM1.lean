/-
  Part 1 of the proof: no condition. (Parts of the abstract layer, of the program's functions in its form, and of their contracts.)
-/
import Derived.Test.YtemjlopoffjmpaaAbs22
import Derived.Test.YtemjlopoffjmpaaProg
import Derived.KernelRfl
import Derived.Test.YtemjlopoffjmpaaWk
import Derived.Test.YtemjlopoffjmpaaAbs27
import Derived.IntWalk
import Derived.Shelf.Strings.Builder1
import Derived.Shelf.Strings.Builder2
import Derived.Shelf.Strings.OnBuilder
import Derived.Shelf.Small.Strs
import Derived.Shelf.Strings.BuilderF
import Derived.Shelf.Strings.Search1
import Derived.Shelf.Strings.Prefix
import Derived.Shelf.Bits.Mul64
import Derived.Shelf.Strings.Repeat
import Derived.Test.YtemjlopoffjmpaaAbs28
/-
  The code of some functions in the abstract layer's form, each checked against the program's own. Written by gen.py.
-/
namespace Go.Proofs.Ytemjlopoffjmpaa.Abs
open Go

/-- palimp/acct.Put -/
def c15 : ACode :=
 (.seq (.reg [⟨some 4, none, .box (.t 1)⟩,
  ⟨some 6, none, .mv (.c (.emp))⟩,
  ⟨some 7, none, .mv (.c (.int .i64 0))⟩])
 (.seq (.reg [⟨some 14, none, .mv (.t 0)⟩,
  ⟨some 15, none, .call 40 [(.t 14)]⟩,
  ⟨some 8, none, .mv (.t 15)⟩])
 (.seq (.seq (.reg [⟨some 16, none, .mv (.t 8)⟩,
  ⟨some 17, none, .len false (.t 16)⟩,
  ⟨some 18, none, .mv (.c (.int .i64 0))⟩])
 (.block 0
 (.loop
 (.seq (.reg [⟨some 19, none, .bini .lss (.t 18) (.t 17)⟩])
 (.seq (.cond (.t 19)
 .skip
 (.exit 0))
 (.seq (.block 1
 (.seq (.reg [⟨some 20, none, .mv (.t 18)⟩,
  ⟨some 9, none, .mv (.t 20)⟩])
 (.reg [⟨some 21, none, .mv (.t 8)⟩,
  ⟨some 22, none, .mv (.t 9)⟩,
  ⟨some 23, none, .mv (.t 8)⟩,
  ⟨some 24, none, .mv (.t 9)⟩,
  ⟨some 25, none, .iaddr 5 (.t 23) (.t 24)⟩,
  ⟨some 26, none, .faddr 4 (.t 25)⟩,
  ⟨some 27, none, .load false 1 (.t 26)⟩,
  ⟨some 28, none, .call 41 [(.t 27)]⟩,
  ⟨some 29, none, .iaddr 5 (.t 21) (.t 22)⟩,
  ⟨some 30, none, .faddr 4 (.t 29)⟩,
  ⟨none, none, .store 1 (.t 30) (.t 28)⟩])))
 (.reg [⟨some 31, none, .bini .add (.t 18) (.c (.int .i64 1))⟩,
  ⟨some 18, none, .mv (.t 31)⟩])))))))
 (.seq (.reg [⟨some 33, none, .mv (.t 0)⟩,
  ⟨some 34, none, .load false 1 (.t 4)⟩,
  ⟨some 35, none, .call 42 [(.t 33), (.t 34)]⟩,
  ⟨some 32, none, .mv (.t 35)⟩,
  ⟨some 36, none, .ext (.t 32) 0⟩,
  ⟨some 37, none, .ext (.t 32) 1⟩,
  ⟨some 10, none, .alloc [.int .i64 0, .int .i64 0, .int .i64 0, .int .i64 0, .emp]⟩,
  ⟨none, none, .store 5 (.t 10) (.t 36)⟩,
  ⟨some 11, none, .mv (.t 37)⟩])
 (.seq (.seq (.reg [⟨some 38, none, .mv (.t 2)⟩,
  ⟨some 39, none, .call 14 [(.t 38)]⟩,
  ⟨some 12, none, .mv (.t 39)⟩])
 (.block 2
 (.seq (.reg [⟨some 41, none, .mv (.t 11)⟩,
  ⟨some 42, none, .un .not (.t 41)⟩,
  ⟨some 40, none, .mv (.t 42)⟩])
 (.cond (.t 40)
 (.seq (.reg [⟨some 43, none, .mv (.t 8)⟩,
  ⟨some 6, none, .mv (.t 43)⟩,
  ⟨some 7, none, .mv (.c (.int .i64 2))⟩])
 .ret)
 (.seq (.reg [⟨some 45, none, .faddr 1 (.t 10)⟩,
  ⟨some 46, none, .load false 1 (.t 45)⟩,
  ⟨some 47, none, .bini .eql (.t 46) (.c (.int .i64 2))⟩,
  ⟨some 44, none, .mv (.t 47)⟩])
 (.cond (.t 44)
 (.seq (.reg [⟨some 48, none, .mv (.t 8)⟩,
  ⟨some 6, none, .mv (.t 48)⟩,
  ⟨some 7, none, .mv (.c (.int .i64 11))⟩])
 .ret)
 (.seq (.reg [⟨some 50, none, .faddr 3 (.t 10)⟩,
  ⟨some 51, none, .load false 1 (.t 50)⟩,
  ⟨some 52, none, .bini .gtr (.t 51) (.c (.int .i64 0))⟩,
  ⟨some 53, none, .mv (.t 52)⟩,
  ⟨some 54, (some (53, true)), .mv (.t 12)⟩,
  ⟨some 55, (some (53, true)), .faddr 3 (.t 10)⟩,
  ⟨some 56, (some (53, true)), .load false 1 (.t 55)⟩,
  ⟨some 57, (some (53, true)), .bini .gtr (.t 54) (.t 56)⟩,
  ⟨some 58, none, .pick (.t 53) (.t 57) (.c (.bool false))⟩,
  ⟨some 59, none, .mv (.t 58)⟩,
  ⟨some 60, (some (59, true)), .mv (.t 12)⟩,
  ⟨some 61, (some (59, true)), .faddr 4 (.t 10)⟩,
  ⟨some 62, (some (59, true)), .load false 1 (.t 61)⟩,
  ⟨some 63, (some (59, true)), .call 14 [(.t 62)]⟩,
  ⟨some 64, (some (59, true)), .bini .gtr (.t 60) (.t 63)⟩,
  ⟨some 65, none, .pick (.t 59) (.t 64) (.c (.bool false))⟩,
  ⟨some 49, none, .mv (.t 65)⟩])
 (.cond (.t 49)
 (.seq (.reg [⟨some 66, none, .mv (.t 8)⟩,
  ⟨some 6, none, .mv (.t 66)⟩,
  ⟨some 7, none, .mv (.c (.int .i64 9))⟩])
 .ret)
 .skip))))))))
 (.seq (.reg [⟨some 67, none, .mv (.t 8)⟩,
  ⟨some 68, none, .mkfn (.func 44) [] [(.t 4)]⟩,
  ⟨some 69, none, .call 43 [(.t 67), (.t 68)]⟩,
  ⟨some 13, none, .mv (.t 69)⟩])
 (.seq (.reg [⟨some 70, none, .mv (.t 8)⟩,
  ⟨some 71, none, .mv (.t 13)⟩,
  ⟨some 72, none, .mv (.t 2)⟩,
  ⟨some 73, none, .call 41 [(.t 72)]⟩,
  ⟨some 74, none, .iaddr 5 (.t 70) (.t 71)⟩,
  ⟨some 75, none, .faddr 4 (.t 74)⟩,
  ⟨none, none, .store 1 (.t 75) (.t 73)⟩])
 (.seq (.reg [⟨some 76, none, .mv (.t 8)⟩,
  ⟨some 6, none, .mv (.t 76)⟩,
  ⟨some 7, none, .mv (.c (.int .i64 0))⟩])
 .ret))))))))
theorem d15 : FnD Try.prog 15 3 74 [.tmp 6, .tmp 7] c15 := ⟨Try.f15, _, Try.func15, by kernel_rfl, rfl, rfl, by kernel_rfl, by kernel_rfl⟩

/-- (*palimp/palimpmade.Picks).Set -/
def c16 : ACode :=
 (.seq (.reg [⟨some 4, none, .mv (.c (.emp))⟩])
 (.seq (.reg [⟨some 5, none, .mv (.t 0)⟩,
  ⟨some 6, none, .call 10 []⟩,
  ⟨some 7, none, .mv (.t 1)⟩,
  ⟨some 8, none, .call 45 [(.t 5), (.t 6), (.t 7)]⟩,
  ⟨some 4, none, .mv (.t 8)⟩])
 .ret))
theorem d16 : FnD Try.prog 16 2 7 [.tmp 4] c16 := ⟨Try.f16, _, Try.func16, by kernel_rfl, rfl, rfl, by kernel_rfl, by kernel_rfl⟩

/-- palimp/palimpref11.Make -/
def c17 : ACode :=
 (.seq (.reg [⟨some 6, none, .mv (.c (.emp))⟩,
  ⟨some 7, none, .mv (.c (.int .i64 0))⟩])
 (.seq (.seq (.reg [⟨some 15, none, .mv (.t 2)⟩,
  ⟨some 16, none, .bini .neq (.t 15) (.c (.int .i64 1))⟩,
  ⟨some 17, none, .mv (.t 16)⟩,
  ⟨some 18, (some (17, true)), .mv (.t 2)⟩,
  ⟨some 19, (some (17, true)), .bini .neq (.t 18) (.c (.int .i64 2))⟩,
  ⟨some 20, none, .pick (.t 17) (.t 19) (.c (.bool false))⟩])
 (.cond (.t 20)
 (.seq (.reg [⟨some 21, none, .mv (.t 0)⟩,
  ⟨some 6, none, .mv (.t 21)⟩,
  ⟨some 7, none, .mv (.c (.int .i64 1))⟩])
 .ret)
 .skip))
 (.seq (.reg [⟨some 23, none, .mv (.t 0)⟩,
  ⟨some 24, none, .mv (.t 1)⟩,
  ⟨some 25, none, .call 46 [(.t 23), (.t 24)]⟩,
  ⟨some 22, none, .mv (.t 25)⟩,
  ⟨some 26, none, .ext (.t 22) 0⟩,
  ⟨some 27, none, .ext (.t 22) 1⟩,
  ⟨some 28, none, .ext (.t 22) 2⟩,
  ⟨some 8, none, .mv (.t 26)⟩,
  ⟨some 9, none, .mv (.t 27)⟩,
  ⟨some 10, none, .mv (.t 28)⟩])
 (.seq (.seq (.reg [⟨some 29, none, .mv (.t 10)⟩,
  ⟨some 30, none, .bini .neq (.t 29) (.c (.int .i64 0))⟩])
 (.cond (.t 30)
 (.seq (.reg [⟨some 31, none, .mv (.t 0)⟩,
  ⟨some 32, none, .mv (.t 10)⟩,
  ⟨some 6, none, .mv (.t 31)⟩,
  ⟨some 7, none, .mv (.t 32)⟩])
 .ret)
 .skip))
 (.seq (.reg [⟨some 34, none, .mv (.t 0)⟩,
  ⟨some 35, none, .mv (.t 8)⟩,
  ⟨some 36, none, .mv (.t 9)⟩,
  ⟨some 37, none, .call 47 [(.t 34), (.t 35), (.t 36)]⟩,
  ⟨some 33, none, .mv (.t 37)⟩,
  ⟨some 38, none, .ext (.t 33) 0⟩,
  ⟨some 39, none, .ext (.t 33) 1⟩,
  ⟨some 11, none, .mv (.t 38)⟩,
  ⟨some 12, none, .mv (.t 39)⟩])
 (.seq (.seq (.reg [⟨some 40, none, .mv (.t 12)⟩])
 (.cond (.t 40)
 (.seq (.reg [⟨some 41, none, .mv (.t 0)⟩,
  ⟨some 6, none, .mv (.t 41)⟩,
  ⟨some 7, none, .mv (.c (.int .i64 3))⟩])
 .ret)
 .skip))
 (.seq (.reg [⟨some 43, none, .mv (.t 0)⟩,
  ⟨some 44, none, .call 48 [(.t 43)]⟩,
  ⟨some 42, none, .mv (.t 44)⟩,
  ⟨some 45, none, .ext (.t 42) 0⟩,
  ⟨some 46, none, .ext (.t 42) 1⟩,
  ⟨some 13, none, .mv (.t 45)⟩,
  ⟨some 14, none, .mv (.t 46)⟩])
 (.seq (.seq (.reg [⟨some 47, none, .mv (.t 14)⟩,
  ⟨some 48, none, .un .not (.t 47)⟩])
 (.cond (.t 48)
 (.seq (.reg [⟨some 49, none, .mv (.t 0)⟩,
  ⟨some 6, none, .mv (.t 49)⟩,
  ⟨some 7, none, .mv (.c (.int .i64 8))⟩])
 .ret)
 .skip))
 (.seq (.reg [⟨some 50, none, .mv (.t 0)⟩,
  ⟨some 51, none, .mv (.t 13)⟩,
  ⟨some 52, none, .mv (.t 2)⟩,
  ⟨some 53, none, .mv (.t 8)⟩,
  ⟨some 54, none, .mv (.t 9)⟩,
  ⟨some 55, none, .build [.int .i64 0, .int .i64 0, .str [], .str [], .int .i64 0] [(0, 1, (.t 52)), (1, 1, (.t 53)), (2, 1, (.t 54))]⟩,
  ⟨some 56, none, .call 49 [(.t 50), (.t 51), (.t 55)]⟩,
  ⟨some 6, none, .mv (.t 56)⟩,
  ⟨some 7, none, .mv (.c (.int .i64 0))⟩])
 .ret)))))))))
theorem d17 : FnD Try.prog 17 3 54 [.tmp 6, .tmp 7] c17 := ⟨Try.f17, _, Try.func17, by kernel_rfl, rfl, rfl, by kernel_rfl, by kernel_rfl⟩

/-- palimp/palimpref11.Write -/
def c18 : ACode :=
 (.seq (.reg [⟨some 8, none, .mv (.c (.emp))⟩,
  ⟨some 9, none, .mv (.c (.int .i64 0))⟩])
 (.seq (.reg [⟨some 15, none, .mv (.t 0)⟩,
  ⟨some 16, none, .mv (.t 1)⟩,
  ⟨some 17, none, .call 50 [(.t 15), (.t 16)]⟩,
  ⟨some 14, none, .mv (.t 17)⟩,
  ⟨some 18, none, .ext (.t 14) 0⟩,
  ⟨some 19, none, .ext (.t 14) 1⟩,
  ⟨some 10, none, .mv (.t 18)⟩,
  ⟨some 11, none, .mv (.t 19)⟩])
 (.seq (.seq (.reg [⟨some 20, none, .mv (.t 11)⟩,
  ⟨some 21, none, .bini .neq (.t 20) (.c (.int .i64 0))⟩])
 (.cond (.t 21)
 (.seq (.reg [⟨some 22, none, .mv (.t 0)⟩,
  ⟨some 23, none, .mv (.t 11)⟩,
  ⟨some 8, none, .mv (.t 22)⟩,
  ⟨some 9, none, .mv (.t 23)⟩])
 .ret)
 .skip))
 (.seq (.seq (.reg [⟨some 24, none, .mv (.t 2)⟩,
  ⟨some 25, none, .bini .lss (.t 24) (.c (.int .i64 0))⟩])
 (.cond (.t 25)
 (.seq (.reg [⟨some 26, none, .mv (.t 0)⟩,
  ⟨some 8, none, .mv (.t 26)⟩,
  ⟨some 9, none, .mv (.c (.int .i64 1))⟩])
 .ret)
 .skip))
 (.seq (.seq (.reg [⟨some 27, none, .mv (.t 2)⟩,
  ⟨some 28, none, .bini .gtr (.t 27) (.c (.int .i64 128))⟩,
  ⟨some 29, none, .mv (.t 28)⟩,
  ⟨some 30, (some (29, false)), .mv (.t 3)⟩,
  ⟨some 31, (some (29, false)), .len true (.t 30)⟩,
  ⟨some 32, (some (29, false)), .mv (.t 2)⟩,
  ⟨some 33, (some (29, false)), .bini .sub (.c (.int .i64 128)) (.t 32)⟩,
  ⟨some 34, (some (29, false)), .bini .gtr (.t 31) (.t 33)⟩,
  ⟨some 35, none, .pick (.t 29) (.c (.bool true)) (.t 34)⟩])
 (.cond (.t 35)
 (.seq (.reg [⟨some 36, none, .mv (.t 0)⟩,
  ⟨some 8, none, .mv (.t 36)⟩,
  ⟨some 9, none, .mv (.c (.int .i64 8))⟩])
 .ret)
 .skip))
 (.seq (.seq (.reg [⟨some 37, none, .mv (.t 3)⟩,
  ⟨some 38, none, .bins .eql (.t 37) (.c (.str []))⟩])
 (.cond (.t 38)
 (.seq (.reg [⟨some 39, none, .mv (.t 0)⟩,
  ⟨some 8, none, .mv (.t 39)⟩,
  ⟨some 9, none, .mv (.c (.int .i64 0))⟩])
 .ret)
 .skip))
 (.seq (.reg [⟨some 40, none, .mv (.t 0)⟩,
  ⟨some 41, none, .mv (.t 10)⟩,
  ⟨some 42, none, .iaddr 5 (.t 40) (.t 41)⟩,
  ⟨some 43, none, .load true 5 (.t 42)⟩,
  ⟨some 12, none, .alloc [.int .i64 0, .int .i64 0, .str [], .str [], .int .i64 0]⟩,
  ⟨none, none, .store 5 (.t 12) (.t 43)⟩])
 (.seq (.reg [⟨some 44, none, .faddr 3 (.t 12)⟩,
  ⟨some 45, none, .load false 1 (.t 44)⟩,
  ⟨some 46, none, .faddr 3 (.t 12)⟩,
  ⟨some 47, none, .load false 1 (.t 46)⟩,
  ⟨some 48, none, .len true (.t 47)⟩,
  ⟨some 49, none, .mv (.t 2)⟩,
  ⟨some 50, none, .mv (.t 3)⟩,
  ⟨some 51, none, .len true (.t 50)⟩,
  ⟨some 52, none, .bini .add (.t 49) (.t 51)⟩,
  ⟨some 53, none, .max2 (.t 48) (.t 52)⟩,
  ⟨some 54, none, .call 51 [(.t 45), (.t 53)]⟩,
  ⟨some 55, none, .convsb (.t 54)⟩,
  ⟨some 13, none, .mv (.t 55)⟩])
 (.seq (.reg [⟨some 56, none, .mv (.t 13)⟩,
  ⟨some 57, none, .mv (.t 2)⟩,
  ⟨some 58, none, .slicel 1 (.t 56) (some (.t 57)) none⟩,
  ⟨some 59, none, .mv (.t 3)⟩,
  ⟨some 60, none, .copy 1 (.t 58) (.t 59)⟩])
 (.seq (.reg [⟨some 61, none, .mv (.t 13)⟩,
  ⟨some 62, none, .convbs (.t 61)⟩,
  ⟨some 63, none, .faddr 3 (.t 12)⟩,
  ⟨none, none, .store 1 (.t 63) (.t 62)⟩])
 (.seq (.reg [⟨some 64, none, .mv (.t 0)⟩,
  ⟨some 65, none, .mv (.t 10)⟩,
  ⟨some 66, none, .load true 5 (.t 12)⟩,
  ⟨some 67, none, .call 49 [(.t 64), (.t 65), (.t 66)]⟩,
  ⟨some 8, none, .mv (.t 67)⟩,
  ⟨some 9, none, .mv (.c (.int .i64 0))⟩])
 .ret)))))))))))
theorem d18 : FnD Try.prog 18 4 64 [.tmp 8, .tmp 9] c18 := ⟨Try.f18, _, Try.func18, by kernel_rfl, rfl, rfl, by kernel_rfl, by kernel_rfl⟩

/-- palimp/acct.Worst -/
def c19 : ACode :=
 (.seq (.reg [⟨some 2, none, .mv (.c (.int .i64 0))⟩])
 (.seq (.reg [⟨some 3, none, .mv (.c (.int .i64 3))⟩])
 (.seq (.seq (.reg [⟨some 6, none, .mv (.t 0)⟩,
  ⟨some 7, none, .len false (.t 6)⟩,
  ⟨some 8, none, .mv (.c (.int .i64 0))⟩])
 (.block 0
 (.loop
 (.seq (.reg [⟨some 9, none, .bini .lss (.t 8) (.t 7)⟩])
 (.seq (.cond (.t 9)
 .skip
 (.exit 0))
 (.seq (.block 1
 (.seq (.reg [⟨some 10, none, .iaddr 5 (.t 6) (.t 8)⟩,
  ⟨some 11, none, .load true 5 (.t 10)⟩,
  ⟨some 5, none, .alloc [.int .i64 0, .int .i64 0, .int .i64 0, .int .i64 0, .emp]⟩,
  ⟨none, none, .store 5 (.t 5) (.t 11)⟩])
 (.reg [⟨some 12, none, .mv (.t 3)⟩,
  ⟨some 13, none, .load true 5 (.t 5)⟩,
  ⟨some 14, none, .build [.int .i64 0, .int .i64 0, .int .i64 0, .int .i64 0, .emp] [(0, 5, (.t 13))]⟩,
  ⟨some 15, none, .call 52 [(.t 14)]⟩,
  ⟨some 16, none, .bini .add (.t 12) (.t 15)⟩,
  ⟨some 3, none, .mv (.t 16)⟩])))
 (.reg [⟨some 17, none, .bini .add (.t 8) (.c (.int .i64 1))⟩,
  ⟨some 8, none, .mv (.t 17)⟩])))))))
 (.seq (.reg [⟨some 18, none, .mv (.t 3)⟩,
  ⟨some 2, none, .mv (.t 18)⟩])
 .ret))))
theorem d19 : FnD Try.prog 19 1 18 [.tmp 2] c19 := ⟨Try.f19, _, Try.func19, by kernel_rfl, rfl, rfl, by kernel_rfl, by kernel_rfl⟩

/-- palimp/palimpref11.Count -/
def c20 : ACode :=
 (.seq (.reg [⟨some 2, none, .mv (.c (.int .i64 0))⟩])
 (.seq (.reg [⟨some 3, none, .mv (.c (.int .i64 0))⟩])
 (.seq (.seq (.reg [⟨some 4, none, .mv (.c (.int .i64 0))⟩])
 (.block 0
 (.loop
 (.seq (.seq (.reg [⟨some 5, none, .mv (.t 4)⟩,
  ⟨some 6, none, .bini .lss (.t 5) (.c (.int .i64 4))⟩])
 (.cond (.t 6)
 .skip
 (.exit 0)))
 (.seq (.block 1
 (.seq (.reg [⟨some 9, none, .mv (.t 0)⟩,
  ⟨some 10, none, .mv (.t 4)⟩,
  ⟨some 11, none, .call 53 [(.t 9), (.t 10)]⟩,
  ⟨some 12, none, .bins .neq (.t 11) (.c (.str []))⟩])
 (.cond (.t 12)
 (.reg [⟨some 13, none, .mv (.t 3)⟩,
  ⟨some 14, none, .bini .add (.t 13) (.c (.int .i64 1))⟩,
  ⟨some 3, none, .mv (.t 14)⟩])
 .skip)))
 (.reg [⟨some 7, none, .mv (.t 4)⟩,
  ⟨some 8, none, .bini .add (.t 7) (.c (.int .i64 1))⟩,
  ⟨some 4, none, .mv (.t 8)⟩]))))))
 (.seq (.reg [⟨some 15, none, .mv (.t 3)⟩,
  ⟨some 2, none, .mv (.t 15)⟩])
 .ret))))
theorem d20 : FnD Try.prog 20 1 15 [.tmp 2] c20 := ⟨Try.f20, _, Try.func20, by kernel_rfl, rfl, rfl, by kernel_rfl, by kernel_rfl⟩

/-- palimp/palimpref11.Way -/
def c21 : ACode :=
 (.seq (.reg [⟨some 4, none, .mv (.c (.str []))⟩,
  ⟨some 5, none, .mv (.c (.bool false))⟩])
 (.seq (.seq (.reg [⟨some 8, none, .mv (.t 0)⟩,
  ⟨some 9, none, .mv (.t 1)⟩,
  ⟨some 10, none, .call 54 [(.t 8), (.t 9)]⟩,
  ⟨some 11, none, .un .not (.t 10)⟩])
 (.cond (.t 11)
 (.seq (.reg [⟨some 4, none, .mv (.c (.str []))⟩,
  ⟨some 5, none, .mv (.c (.bool false))⟩])
 .ret)
 .skip))
 (.seq (.reg [⟨some 6, none, .mv (.c (.emp))⟩])
 (.seq (.seq (.reg [⟨some 7, none, .mv (.c (.int .i64 0))⟩])
 (.block 0
 (.loop
 (.seq (.seq (.reg [⟨some 12, none, .mv (.t 7)⟩,
  ⟨some 13, none, .mv (.t 0)⟩,
  ⟨some 14, none, .len false (.t 13)⟩,
  ⟨some 15, none, .bini .lss (.t 12) (.t 14)⟩,
  ⟨some 16, none, .mv (.t 15)⟩,
  ⟨some 17, (some (16, true)), .mv (.t 1)⟩,
  ⟨some 18, (some (16, true)), .bini .neq (.t 17) (.c (.int .i64 0))⟩,
  ⟨some 19, none, .pick (.t 16) (.t 18) (.c (.bool false))⟩])
 (.cond (.t 19)
 .skip
 (.exit 0)))
 (.seq (.block 1
 (.seq (.reg [⟨some 22, none, .mv (.t 0)⟩,
  ⟨some 23, none, .mv (.t 1)⟩,
  ⟨some 24, none, .iaddr 5 (.t 22) (.t 23)⟩,
  ⟨some 25, none, .faddr 2 (.t 24)⟩,
  ⟨some 26, none, .load false 1 (.t 25)⟩,
  ⟨some 27, none, .bslice 1 1 [.str []] [(0, (.t 26))]⟩,
  ⟨some 28, none, .mv (.t 6)⟩,
  ⟨some 29, none, .append 1 16 [.str []] (.t 27) (.t 28)⟩,
  ⟨some 6, none, .mv (.t 29)⟩])
 (.reg [⟨some 30, none, .mv (.t 0)⟩,
  ⟨some 31, none, .mv (.t 1)⟩,
  ⟨some 32, none, .iaddr 5 (.t 30) (.t 31)⟩,
  ⟨some 33, none, .faddr 1 (.t 32)⟩,
  ⟨some 34, none, .load false 1 (.t 33)⟩,
  ⟨some 1, none, .mv (.t 34)⟩])))
 (.reg [⟨some 20, none, .mv (.t 7)⟩,
  ⟨some 21, none, .bini .add (.t 20) (.c (.int .i64 1))⟩,
  ⟨some 7, none, .mv (.t 21)⟩]))))))
 (.seq (.reg [⟨some 35, none, .mv (.t 6)⟩,
  ⟨some 36, none, .call 55 [(.t 35)]⟩,
  ⟨some 4, none, .mv (.t 36)⟩,
  ⟨some 5, none, .mv (.c (.bool true))⟩])
 .ret)))))
theorem d21 : FnD Try.prog 21 2 35 [.tmp 4, .tmp 5] c21 := ⟨Try.f21, _, Try.func21, by kernel_rfl, rfl, rfl, by kernel_rfl, by kernel_rfl⟩

/-- palimp/palimpref11.Stat -/
def c22 : ACode :=
 (.seq (.reg [⟨some 4, none, .alloc [.int .i64 0, .int .i64 0, .int .i64 0, .int .i64 0]⟩,
  ⟨some 5, none, .mv (.c (.int .i64 0))⟩])
 (.seq (.reg [⟨some 11, none, .mv (.t 0)⟩,
  ⟨some 12, none, .mv (.t 1)⟩,
  ⟨some 13, none, .call 56 [(.t 11), (.t 12)]⟩,
  ⟨some 10, none, .mv (.t 13)⟩,
  ⟨some 14, none, .ext (.t 10) 0⟩,
  ⟨some 15, none, .ext (.t 10) 1⟩,
  ⟨some 6, none, .mv (.t 14)⟩,
  ⟨some 7, none, .mv (.t 15)⟩])
 (.seq (.seq (.reg [⟨some 16, none, .mv (.t 7)⟩,
  ⟨some 17, none, .bini .neq (.t 16) (.c (.int .i64 0))⟩])
 (.cond (.t 17)
 (.seq (.reg [⟨some 18, none, .build [.int .i64 0, .int .i64 0, .int .i64 0, .int .i64 0] []⟩,
  ⟨some 19, none, .mv (.t 7)⟩,
  ⟨none, none, .store 4 (.t 4) (.t 18)⟩,
  ⟨some 5, none, .mv (.t 19)⟩])
 .ret)
 .skip))
 (.seq (.reg [⟨some 20, none, .mv (.t 0)⟩,
  ⟨some 21, none, .mv (.t 6)⟩,
  ⟨some 22, none, .iaddr 5 (.t 20) (.t 21)⟩,
  ⟨some 23, none, .faddr 3 (.t 22)⟩,
  ⟨some 24, none, .load false 1 (.t 23)⟩,
  ⟨some 25, none, .call 20 [(.t 24)]⟩,
  ⟨some 8, none, .mv (.t 25)⟩])
 (.seq (.seq (.reg [⟨some 9, none, .mv (.c (.int .i64 0))⟩])
 (.block 0
 (.loop
 (.seq (.seq (.reg [⟨some 26, none, .mv (.t 9)⟩,
  ⟨some 27, none, .bini .lss (.t 26) (.c (.int .i64 4))⟩])
 (.cond (.t 27)
 .skip
 (.exit 0)))
 (.seq (.block 1
 (.reg [⟨some 30, none, .mv (.t 8)⟩,
  ⟨some 31, none, .mv (.t 0)⟩,
  ⟨some 32, none, .mv (.t 6)⟩,
  ⟨some 33, none, .iaddr 5 (.t 31) (.t 32)⟩,
  ⟨some 34, none, .faddr 4 (.t 33)⟩,
  ⟨some 35, none, .load false 1 (.t 34)⟩,
  ⟨some 36, none, .mv (.t 9)⟩,
  ⟨some 37, none, .bini .shr (.t 35) (.t 36)⟩,
  ⟨some 38, none, .bini .and (.t 37) (.c (.int .i64 1))⟩,
  ⟨some 39, none, .bini .add (.t 30) (.t 38)⟩,
  ⟨some 8, none, .mv (.t 39)⟩]))
 (.reg [⟨some 28, none, .mv (.t 9)⟩,
  ⟨some 29, none, .bini .add (.t 28) (.c (.int .i64 1))⟩,
  ⟨some 9, none, .mv (.t 29)⟩]))))))
 (.seq (.dregE [[(0, ⟨some 40, none, .mv (.t 6)⟩),
  (1, ⟨some 41, none, .mv (.t 0)⟩),
  (2, ⟨some 42, none, .mv (.t 6)⟩),
  (3, ⟨some 43, none, .iaddr 5 (.t 41) (.t 42)⟩),
  (4, ⟨some 44, none, .faddr 0 (.t 43)⟩),
  (5, ⟨some 45, none, .load false 1 (.t 44)⟩),
  (6, ⟨some 46, none, .mv (.t 0)⟩),
  (7, ⟨some 47, none, .mv (.t 6)⟩),
  (8, ⟨some 48, none, .iaddr 5 (.t 46) (.t 47)⟩),
  (9, ⟨some 49, none, .faddr 3 (.t 48)⟩),
  (10, ⟨some 50, none, .load false 1 (.t 49)⟩),
  (11, ⟨some 51, none, .len true (.t 50)⟩),
  (12, ⟨some 52, none, .mv (.t 8)⟩)],
  [(13, ⟨some 53, none, .build [.int .i64 0, .int .i64 0, .int .i64 0, .int .i64 0] [(0, 1, (.t 40)), (1, 1, (.t 45)), (2, 1, (.t 51)), (3, 1, (.t 52))]⟩)],
  [(14, ⟨none, none, .store 4 (.t 4) (.t 53)⟩)],
  [(15, ⟨some 5, none, .mv (.c (.int .i64 0))⟩)]]
  [[], [], [], [1, 2], [1, 2, 3], [1, 2, 3, 4], [], [], [6, 7], [6, 7, 8], [6, 7, 8, 9], [6, 7, 8, 9, 10], [], [0, 1, 2, 3, 4, 5, 6, 7, 8, 9, 10, 11, 12], [0, 1, 2, 3, 4, 5, 6, 7, 8, 9, 10, 11, 12, 13], [0, 1, 2, 3, 4, 5, 6, 7, 8, 9, 10, 11, 12, 13, 14]])
 .ret))))))
theorem d22 : FnD Try.prog 22 2 52 [.cell 4 true 4, .tmp 5] c22 := ⟨Try.f22, _, Try.func22, by kernel_rfl, rfl, rfl, by kernel_rfl, by kernel_rfl⟩

/-- palimp/palimplaw18.begun -/
def c23 : ACode :=
 (.seq (.reg [⟨some 0, none, .mv (.c (.bool false))⟩])
 (.seq (.reg [⟨some 14, none, .call 25 [(.c (.emp)), (.c (.int .i64 1)), (.c (.int .i64 0))]⟩,
  ⟨some 13, none, .mv (.t 14)⟩,
  ⟨some 15, none, .ext (.t 13) 0⟩,
  ⟨some 16, none, .ext (.t 13) 1⟩,
  ⟨some 1, none, .mv (.t 15)⟩,
  ⟨some 2, none, .mv (.t 16)⟩])
 (.seq (.reg [⟨some 18, none, .mv (.t 1)⟩,
  ⟨some 19, none, .call 26 [(.t 18), (.c (.int .i64 2)), (.c (.int .i64 1))]⟩,
  ⟨some 17, none, .mv (.t 19)⟩,
  ⟨some 20, none, .ext (.t 17) 0⟩,
  ⟨some 21, none, .ext (.t 17) 1⟩,
  ⟨some 3, none, .mv (.t 20)⟩,
  ⟨some 4, none, .mv (.t 21)⟩])
 (.seq (.reg [⟨some 23, none, .mv (.t 3)⟩,
  ⟨some 24, none, .call 27 [(.t 23), (.c (.int .i64 3)), (.c (.int .i64 2))]⟩,
  ⟨some 22, none, .mv (.t 24)⟩,
  ⟨some 25, none, .ext (.t 22) 0⟩,
  ⟨some 26, none, .ext (.t 22) 1⟩,
  ⟨some 5, none, .mv (.t 25)⟩,
  ⟨some 6, none, .mv (.t 26)⟩])
 (.seq (.reg [⟨some 28, none, .mv (.t 5)⟩,
  ⟨some 29, none, .call 28 [(.t 28), (.c (.int .i64 3))]⟩,
  ⟨some 27, none, .mv (.t 29)⟩,
  ⟨some 30, none, .ext (.t 27) 0⟩,
  ⟨some 31, none, .ext (.t 27) 1⟩,
  ⟨some 7, none, .mv (.t 30)⟩,
  ⟨some 8, none, .mv (.t 31)⟩])
 (.seq (.reg [⟨some 33, none, .mv (.t 7)⟩,
  ⟨some 34, none, .call 30 [(.t 33), (.c (.int .i64 2))]⟩,
  ⟨some 32, none, .mv (.t 34)⟩,
  ⟨some 35, none, .ext (.t 32) 0⟩,
  ⟨some 36, none, .ext (.t 32) 1⟩,
  ⟨some 9, none, .mv (.t 35)⟩,
  ⟨some 10, none, .mv (.t 36)⟩])
 (.seq (.reg [⟨some 38, none, .mv (.t 7)⟩,
  ⟨some 39, none, .call 42 [(.t 38), (.c (.int .i64 1))]⟩,
  ⟨some 37, none, .mv (.t 39)⟩,
  ⟨some 40, none, .ext (.t 37) 0⟩,
  ⟨some 41, none, .ext (.t 37) 1⟩,
  ⟨some 11, none, .alloc [.int .i64 0, .int .i64 0, .int .i64 0, .int .i64 0, .emp]⟩,
  ⟨none, none, .store 5 (.t 11) (.t 40)⟩,
  ⟨some 12, none, .mv (.t 41)⟩])
 (.seq (.reg [⟨some 42, none, .mv (.t 2)⟩,
  ⟨some 43, none, .bini .eql (.t 42) (.c (.int .i64 0))⟩,
  ⟨some 44, none, .mv (.t 43)⟩,
  ⟨some 45, (some (44, true)), .mv (.t 4)⟩,
  ⟨some 46, (some (44, true)), .bini .eql (.t 45) (.c (.int .i64 0))⟩,
  ⟨some 47, none, .pick (.t 44) (.t 46) (.c (.bool false))⟩,
  ⟨some 48, none, .mv (.t 47)⟩,
  ⟨some 49, (some (48, true)), .mv (.t 6)⟩,
  ⟨some 50, (some (48, true)), .bini .eql (.t 49) (.c (.int .i64 0))⟩,
  ⟨some 51, none, .pick (.t 48) (.t 50) (.c (.bool false))⟩,
  ⟨some 52, none, .mv (.t 51)⟩,
  ⟨some 53, (some (52, true)), .mv (.t 8)⟩,
  ⟨some 54, (some (52, true)), .bini .eql (.t 53) (.c (.int .i64 0))⟩,
  ⟨some 55, none, .pick (.t 52) (.t 54) (.c (.bool false))⟩,
  ⟨some 56, none, .mv (.t 55)⟩,
  ⟨some 57, (some (56, true)), .mv (.t 10)⟩,
  ⟨some 58, (some (56, true)), .bini .eql (.t 57) (.c (.int .i64 10))⟩,
  ⟨some 59, none, .pick (.t 56) (.t 58) (.c (.bool false))⟩,
  ⟨some 60, none, .mv (.t 59)⟩,
  ⟨some 61, (some (60, true)), .mv (.t 12)⟩,
  ⟨some 62, none, .pick (.t 60) (.t 61) (.c (.bool false))⟩,
  ⟨some 63, none, .mv (.t 62)⟩,
  ⟨some 64, (some (63, true)), .faddr 2 (.t 11)⟩,
  ⟨some 65, (some (63, true)), .load false 1 (.t 64)⟩,
  ⟨some 66, (some (63, true)), .bini .eql (.t 65) (.c (.int .i64 2))⟩,
  ⟨some 67, none, .pick (.t 63) (.t 66) (.c (.bool false))⟩,
  ⟨some 68, none, .mv (.t 67)⟩,
  ⟨some 69, (some (68, true)), .mv (.t 7)⟩,
  ⟨some 70, (some (68, true)), .call 57 [(.t 69)]⟩,
  ⟨some 71, none, .pick (.t 68) (.t 70) (.c (.bool false))⟩,
  ⟨some 72, none, .mv (.t 71)⟩,
  ⟨some 73, (some (72, true)), .build [.int .i64 0, .int .i64 0, .int .i64 0, .int .i64 0, .emp] []⟩,
  ⟨some 74, (some (72, true)), .bslice 5 1 [.int .i64 0, .int .i64 0, .int .i64 0, .int .i64 0, .emp] [(0, (.t 73))]⟩,
  ⟨some 75, (some (72, true)), .call 57 [(.t 74)]⟩,
  ⟨some 76, (some (72, true)), .un .not (.t 75)⟩,
  ⟨some 77, none, .pick (.t 72) (.t 76) (.c (.bool false))⟩,
  ⟨some 78, none, .mv (.t 77)⟩,
  ⟨some 79, (some (78, true)), .mv (.t 7)⟩,
  ⟨some 80, (some (78, true)), .mv (.t 7)⟩,
  ⟨some 81, (some (78, true)), .call 58 [(.t 79), (.t 80)]⟩,
  ⟨some 82, none, .pick (.t 78) (.t 81) (.c (.bool false))⟩,
  ⟨some 83, none, .mv (.t 82)⟩,
  ⟨some 84, (some (83, true)), .mv (.t 7)⟩,
  ⟨some 85, (some (83, true)), .mv (.t 5)⟩,
  ⟨some 86, (some (83, true)), .call 58 [(.t 84), (.t 85)]⟩,
  ⟨some 87, (some (83, true)), .un .not (.t 86)⟩,
  ⟨some 88, none, .pick (.t 83) (.t 87) (.c (.bool false))⟩,
  ⟨some 0, none, .mv (.t 88)⟩])
 .ret))))))))
theorem d23 : FnD Try.prog 23 0 89 [.tmp 0] c23 := ⟨Try.f23, _, Try.func23, by kernel_rfl, rfl, rfl, by kernel_rfl, by kernel_rfl⟩

/-- (*palimp/palimpmade.Picks).Num -/
def c24 : ACode :=
 (.seq (.reg [⟨some 4, none, .mv (.c (.int .i64 0))⟩])
 (.seq (.seq (.dreg [⟨some 5, none, .mv (.t 0)⟩,
  ⟨some 6, none, .nilchk (.t 5)⟩,
  ⟨some 7, none, .faddr 1 (.t 6)⟩,
  ⟨some 8, none, .load false 1 (.t 7)⟩,
  ⟨some 9, none, .mv (.t 0)⟩,
  ⟨some 10, none, .nilchk (.t 9)⟩,
  ⟨some 11, none, .faddr 0 (.t 10)⟩,
  ⟨some 12, none, .load false 1 (.t 11)⟩,
  ⟨some 13, none, .len false (.t 12)⟩,
  ⟨some 14, none, .bini .geq (.t 8) (.t 13)⟩,
  ⟨some 15, none, .mv (.t 14)⟩,
  ⟨some 16, (some (15, false)), .mv (.t 1)⟩,
  ⟨some 17, (some (15, false)), .bini .lss (.t 16) (.c (.int .i64 1))⟩,
  ⟨some 18, none, .pick (.t 15) (.c (.bool true)) (.t 17)⟩])
 (.cond (.t 18)
 (.seq (.reg [⟨some 4, none, .mv (.c (.int .i64 0))⟩])
 .ret)
 .skip))
 (.seq (.reg [⟨some 19, none, .mv (.t 0)⟩,
  ⟨some 20, none, .nilchk (.t 19)⟩,
  ⟨some 21, none, .faddr 1 (.t 20)⟩,
  ⟨some 22, none, .load false 1 (.t 21)⟩,
  ⟨some 23, none, .bini .add (.t 22) (.c (.int .i64 1))⟩,
  ⟨some 24, none, .nilchk (.t 19)⟩,
  ⟨some 25, none, .faddr 1 (.t 24)⟩,
  ⟨none, none, .store 1 (.t 25) (.t 23)⟩])
 (.seq (.dreg [⟨some 26, none, .mv (.t 0)⟩,
  ⟨some 27, none, .nilchk (.t 26)⟩,
  ⟨some 28, none, .faddr 0 (.t 27)⟩,
  ⟨some 29, none, .load false 1 (.t 28)⟩,
  ⟨some 30, none, .mv (.t 0)⟩,
  ⟨some 31, none, .nilchk (.t 30)⟩,
  ⟨some 32, none, .faddr 1 (.t 31)⟩,
  ⟨some 33, none, .load false 1 (.t 32)⟩,
  ⟨some 34, none, .bini .sub (.t 33) (.c (.int .i64 1))⟩,
  ⟨some 35, none, .iaddr 1 (.t 29) (.t 34)⟩,
  ⟨some 36, none, .load false 1 (.t 35)⟩,
  ⟨some 37, none, .convi .i64 (.t 36)⟩,
  ⟨some 38, none, .mv (.t 1)⟩,
  ⟨some 39, none, .bini .rem (.t 37) (.t 38)⟩,
  ⟨some 4, none, .mv (.t 39)⟩])
 .ret))))
theorem d24 : FnD Try.prog 24 2 38 [.tmp 4] c24 := ⟨Try.f24, _, Try.func24, by kernel_rfl, rfl, rfl, by kernel_rfl, by kernel_rfl⟩

/-- palimp/dset.Create -/
def c25 : ACode :=
 (.seq (.reg [⟨some 6, none, .mv (.c (.emp))⟩,
  ⟨some 7, none, .mv (.c (.int .i64 0))⟩])
 (.seq (.seq (.reg [⟨some 8, none, .mv (.t 2)⟩,
  ⟨some 9, none, .bini .lss (.t 8) (.c (.int .i64 0))⟩,
  ⟨some 10, none, .mv (.t 9)⟩,
  ⟨some 11, (some (10, false)), .mv (.t 2)⟩,
  ⟨some 12, (some (10, false)), .bini .gtr (.t 11) (.c (.int .i64 255))⟩,
  ⟨some 13, none, .pick (.t 10) (.c (.bool true)) (.t 12)⟩])
 (.cond (.t 13)
 (.seq (.reg [⟨some 14, none, .mv (.t 0)⟩,
  ⟨some 15, none, .call 59 [(.t 14)]⟩,
  ⟨some 6, none, .mv (.t 15)⟩,
  ⟨some 7, none, .mv (.c (.int .i64 1))⟩])
 .ret)
 .skip))
 (.seq (.reg [⟨some 16, none, .mv (.t 0)⟩,
  ⟨some 17, none, .mv (.t 1)⟩,
  ⟨some 18, none, .mv (.t 2)⟩,
  ⟨some 19, none, .call 61 []⟩,
  ⟨some 20, none, .build [.int .i64 0, .int .i64 0, .int .i64 0, .int .i64 0, .emp] [(1, 1, (.c (.int .i64 1))), (3, 1, (.t 18)), (4, 1, (.t 19))]⟩,
  ⟨some 21, none, .call 60 [(.t 16), (.t 17), (.t 20)]⟩,
  ⟨some 22, none, .ext (.t 21) 0⟩,
  ⟨some 23, none, .ext (.t 21) 1⟩,
  ⟨some 6, none, .mv (.t 22)⟩,
  ⟨some 7, none, .mv (.t 23)⟩])
 .ret)))
theorem d25 : FnD Try.prog 25 3 21 [.tmp 6, .tmp 7] c25 := ⟨Try.f25, _, Try.func25, by kernel_rfl, rfl, rfl, by kernel_rfl, by kernel_rfl⟩

/-- palimp/dset.Snap -/
def c26 : ACode :=
 (.seq (.reg [⟨some 6, none, .mv (.c (.emp))⟩,
  ⟨some 7, none, .mv (.c (.int .i64 0))⟩])
 (.seq (.reg [⟨some 11, none, .mv (.t 0)⟩,
  ⟨some 12, none, .mv (.t 2)⟩,
  ⟨some 13, none, .call 42 [(.t 11), (.t 12)]⟩,
  ⟨some 10, none, .mv (.t 13)⟩,
  ⟨some 14, none, .ext (.t 10) 0⟩,
  ⟨some 15, none, .ext (.t 10) 1⟩,
  ⟨some 8, none, .alloc [.int .i64 0, .int .i64 0, .int .i64 0, .int .i64 0, .emp]⟩,
  ⟨none, none, .store 5 (.t 8) (.t 14)⟩,
  ⟨some 9, none, .mv (.t 15)⟩])
 (.seq (.block 0
 (.seq (.reg [⟨some 17, none, .mv (.t 9)⟩,
  ⟨some 18, none, .un .not (.t 17)⟩,
  ⟨some 16, none, .mv (.t 18)⟩])
 (.cond (.t 16)
 (.seq (.reg [⟨some 19, none, .mv (.t 0)⟩,
  ⟨some 20, none, .call 59 [(.t 19)]⟩,
  ⟨some 6, none, .mv (.t 20)⟩,
  ⟨some 7, none, .mv (.c (.int .i64 2))⟩])
 .ret)
 (.seq (.reg [⟨some 22, none, .faddr 1 (.t 8)⟩,
  ⟨some 23, none, .load false 1 (.t 22)⟩,
  ⟨some 24, none, .bini .eql (.t 23) (.c (.int .i64 2))⟩,
  ⟨some 21, none, .mv (.t 24)⟩])
 (.cond (.t 21)
 (.seq (.reg [⟨some 25, none, .mv (.t 0)⟩,
  ⟨some 26, none, .call 59 [(.t 25)]⟩,
  ⟨some 6, none, .mv (.t 26)⟩,
  ⟨some 7, none, .mv (.c (.int .i64 11))⟩])
 .ret)
 .skip)))))
 (.seq (.reg [⟨some 27, none, .mv (.t 0)⟩,
  ⟨some 28, none, .mv (.t 1)⟩,
  ⟨some 29, none, .mv (.t 2)⟩,
  ⟨some 30, none, .faddr 4 (.t 8)⟩,
  ⟨some 31, none, .load false 1 (.t 30)⟩,
  ⟨some 32, none, .build [.int .i64 0, .int .i64 0, .int .i64 0, .int .i64 0, .emp] [(1, 1, (.c (.int .i64 2))), (2, 1, (.t 29)), (4, 1, (.t 31))]⟩,
  ⟨some 33, none, .call 60 [(.t 27), (.t 28), (.t 32)]⟩,
  ⟨some 34, none, .ext (.t 33) 0⟩,
  ⟨some 35, none, .ext (.t 33) 1⟩,
  ⟨some 6, none, .mv (.t 34)⟩,
  ⟨some 7, none, .mv (.t 35)⟩])
 .ret))))
theorem d26 : FnD Try.prog 26 3 33 [.tmp 6, .tmp 7] c26 := ⟨Try.f26, _, Try.func26, by kernel_rfl, rfl, rfl, by kernel_rfl, by kernel_rfl⟩

end Go.Proofs.Ytemjlopoffjmpaa.Abs
/-
  The code of some functions in the abstract layer's form, each checked against the program's own. Written by gen.py.
-/
namespace Go.Proofs.Ytemjlopoffjmpaa.Abs
open Go

/-- palimp/palimpref11.long -/
def c51 : ACode :=
 (.seq (.reg [⟨some 4, none, .mv (.c (.str []))⟩])
 (.seq (.reg [⟨some 6, none, .mv (.t 1)⟩,
  ⟨some 7, none, .mksl 1 1 [.int .u8 0] (.t 6) (.t 6)⟩,
  ⟨some 5, none, .mv (.t 7)⟩])
 (.seq (.reg [⟨some 8, none, .mv (.t 5)⟩,
  ⟨some 9, none, .mv (.t 0)⟩,
  ⟨some 10, none, .copy 1 (.t 8) (.t 9)⟩])
 (.seq (.reg [⟨some 11, none, .mv (.t 5)⟩,
  ⟨some 12, none, .convbs (.t 11)⟩,
  ⟨some 4, none, .mv (.t 12)⟩])
 .ret))))
theorem d51 : FnD Try.prog 51 2 11 [.tmp 4] c51 := ⟨Try.f51, _, Try.func51, by kernel_rfl, rfl, rfl, by kernel_rfl, by kernel_rfl⟩

/-- (palimp/acct.set).worst -/
def c52 : ACode :=
 (.seq (.reg [⟨some 1, none, .box (.t 0)⟩,
  ⟨some 2, none, .mv (.c (.int .i64 0))⟩])
 (.seq (.reg [⟨some 6, none, .faddr 0 (.t 1)⟩,
  ⟨some 7, none, .faddr 4 (.t 6)⟩,
  ⟨some 8, none, .load false 1 (.t 7)⟩,
  ⟨some 9, none, .call 14 [(.t 8)]⟩,
  ⟨some 10, none, .bini .add (.c (.int .i64 1)) (.t 9)⟩,
  ⟨some 3, none, .mv (.t 10)⟩])
 (.seq (.seq (.reg [⟨some 11, none, .faddr 0 (.t 1)⟩,
  ⟨some 12, none, .faddr 4 (.t 11)⟩,
  ⟨some 13, none, .load false 1 (.t 12)⟩,
  ⟨some 14, none, .len false (.t 13)⟩,
  ⟨some 15, none, .mv (.c (.int .i64 0))⟩])
 (.block 0
 (.loop
 (.seq (.reg [⟨some 16, none, .bini .lss (.t 15) (.t 14)⟩])
 (.seq (.cond (.t 16)
 .skip
 (.exit 0))
 (.seq (.block 1
 (.seq (.reg [⟨some 17, none, .iaddr 5 (.t 13) (.t 15)⟩,
  ⟨some 18, none, .load true 5 (.t 17)⟩,
  ⟨some 5, none, .alloc [.int .i64 0, .int .i64 0, .str [], .str [], .int .i64 0]⟩,
  ⟨none, none, .store 5 (.t 5) (.t 18)⟩])
 (.seq (.reg [⟨some 19, none, .faddr 0 (.t 5)⟩,
  ⟨some 20, none, .load false 1 (.t 19)⟩,
  ⟨some 21, none, .bini .neq (.t 20) (.c (.int .i64 0))⟩])
 (.cond (.t 21)
 (.reg [⟨some 22, none, .mv (.t 3)⟩,
  ⟨some 23, none, .bini .add (.t 22) (.c (.int .i64 1))⟩,
  ⟨some 3, none, .mv (.t 23)⟩])
 .skip))))
 (.reg [⟨some 24, none, .bini .add (.t 15) (.c (.int .i64 1))⟩,
  ⟨some 15, none, .mv (.t 24)⟩])))))))
 (.seq (.reg [⟨some 25, none, .mv (.t 3)⟩,
  ⟨some 2, none, .mv (.t 25)⟩])
 .ret))))
theorem d52 : FnD Try.prog 52 1 25 [.tmp 2] c52 := ⟨Try.f52, _, Try.func52, by kernel_rfl, rfl, rfl, by kernel_rfl, by kernel_rfl⟩

/-- palimp/palimpref11.Part -/
def c53 : ACode :=
 (.seq (.reg [⟨some 4, none, .mv (.c (.str []))⟩])
 (.seq (.seq (.reg [⟨some 6, none, .mv (.t 1)⟩,
  ⟨some 7, none, .bini .lss (.t 6) (.c (.int .i64 0))⟩,
  ⟨some 8, none, .mv (.t 7)⟩,
  ⟨some 9, (some (8, false)), .mv (.t 1)⟩,
  ⟨some 10, (some (8, false)), .bini .geq (.t 9) (.c (.int .i64 4))⟩,
  ⟨some 11, none, .pick (.t 8) (.c (.bool true)) (.t 10)⟩,
  ⟨some 12, none, .mv (.t 11)⟩,
  ⟨some 13, (some (12, false)), .mv (.t 0)⟩,
  ⟨some 14, (some (12, false)), .len true (.t 13)⟩,
  ⟨some 15, (some (12, false)), .bini .gtr (.t 14) (.c (.int .i64 128))⟩,
  ⟨some 16, none, .pick (.t 12) (.c (.bool true)) (.t 15)⟩])
 (.cond (.t 16)
 (.seq (.reg [⟨some 4, none, .mv (.c (.str []))⟩])
 .ret)
 .skip))
 (.seq (.reg [⟨some 17, none, .mv (.t 0)⟩,
  ⟨some 18, none, .call 51 [(.t 17), (.c (.int .i64 128))]⟩,
  ⟨some 19, none, .mv (.t 1)⟩,
  ⟨some 20, none, .bini .mul (.t 19) (.c (.int .i64 32))⟩,
  ⟨some 21, none, .mv (.t 1)⟩,
  ⟨some 22, none, .bini .add (.t 21) (.c (.int .i64 1))⟩,
  ⟨some 23, none, .bini .mul (.t 22) (.c (.int .i64 32))⟩,
  ⟨some 24, none, .slices (.t 18) (some (.t 20)) (some (.t 23))⟩,
  ⟨some 5, none, .mv (.t 24)⟩])
 (.seq (.seq (.reg [⟨some 25, none, .mv (.t 5)⟩,
  ⟨some 26, none, .mksl 1 1 [.int .u8 0] (.c (.int .i64 32)) (.c (.int .i64 32))⟩,
  ⟨some 27, none, .convbs (.t 26)⟩,
  ⟨some 28, none, .bins .eql (.t 25) (.t 27)⟩])
 (.cond (.t 28)
 (.seq (.reg [⟨some 4, none, .mv (.c (.str []))⟩])
 .ret)
 .skip))
 (.seq (.reg [⟨some 29, none, .mv (.t 5)⟩,
  ⟨some 4, none, .mv (.t 29)⟩])
 .ret)))))
theorem d53 : FnD Try.prog 53 2 28 [.tmp 4] c53 := ⟨Try.f53, _, Try.func53, by kernel_rfl, rfl, rfl, by kernel_rfl, by kernel_rfl⟩

/-- palimp/palimpref11.there -/
def c54 : ACode :=
 (.seq (.reg [⟨some 4, none, .mv (.c (.bool false))⟩])
 (.seq (.reg [⟨some 5, none, .mv (.t 1)⟩,
  ⟨some 6, none, .bini .geq (.t 5) (.c (.int .i64 0))⟩,
  ⟨some 7, none, .mv (.t 6)⟩,
  ⟨some 8, (some (7, true)), .mv (.t 1)⟩,
  ⟨some 9, (some (7, true)), .mv (.t 0)⟩,
  ⟨some 10, (some (7, true)), .len false (.t 9)⟩,
  ⟨some 11, (some (7, true)), .bini .lss (.t 8) (.t 10)⟩,
  ⟨some 12, none, .pick (.t 7) (.t 11) (.c (.bool false))⟩,
  ⟨some 13, none, .mv (.t 12)⟩,
  ⟨some 14, (some (13, true)), .mv (.t 0)⟩,
  ⟨some 15, (some (13, true)), .mv (.t 1)⟩,
  ⟨some 16, (some (13, true)), .iaddr 5 (.t 14) (.t 15)⟩,
  ⟨some 17, (some (13, true)), .faddr 0 (.t 16)⟩,
  ⟨some 18, (some (13, true)), .load false 1 (.t 17)⟩,
  ⟨some 19, (some (13, true)), .bini .neq (.t 18) (.c (.int .i64 0))⟩,
  ⟨some 20, none, .pick (.t 13) (.t 19) (.c (.bool false))⟩,
  ⟨some 4, none, .mv (.t 20)⟩])
 .ret))
theorem d54 : FnD Try.prog 54 2 19 [.tmp 4] c54 := ⟨Try.f54, _, Try.func54, by kernel_rfl, rfl, rfl, by kernel_rfl, by kernel_rfl⟩

/-- palimp/palimpref11.Join -/
def c55 : ACode :=
 (.seq (.reg [⟨some 2, none, .mv (.c (.str []))⟩])
 (.seq (.reg [⟨some 3, none, .mv (.t 0)⟩,
  ⟨some 4, none, .call 76 [(.t 3), (.c (.str [47]))]⟩,
  ⟨some 2, none, .mv (.t 4)⟩])
 .ret))
theorem d55 : FnD Try.prog 55 1 4 [.tmp 2] c55 := ⟨Try.f55, _, Try.func55, by kernel_rfl, rfl, rfl, by kernel_rfl, by kernel_rfl⟩

/-- palimp/palimpref11.Find -/
def c56 : ACode :=
 (.seq (.reg [⟨some 4, none, .mv (.c (.int .i64 0))⟩,
  ⟨some 5, none, .mv (.c (.int .i64 0))⟩])
 (.seq (.reg [⟨some 9, none, .mv (.t 1)⟩,
  ⟨some 10, none, .call 74 [(.t 9)]⟩,
  ⟨some 8, none, .mv (.t 10)⟩,
  ⟨some 11, none, .ext (.t 8) 0⟩,
  ⟨some 12, none, .ext (.t 8) 1⟩,
  ⟨some 6, none, .mv (.t 11)⟩,
  ⟨some 7, none, .mv (.t 12)⟩])
 (.seq (.seq (.reg [⟨some 13, none, .mv (.t 7)⟩,
  ⟨some 14, none, .un .not (.t 13)⟩])
 (.cond (.t 14)
 (.seq (.reg [⟨some 4, none, .mv (.c (.int .i64 0))⟩,
  ⟨some 5, none, .mv (.c (.int .i64 1))⟩])
 .ret)
 .skip))
 (.seq (.reg [⟨some 15, none, .mv (.t 0)⟩,
  ⟨some 16, none, .mv (.t 6)⟩,
  ⟨some 17, none, .call 75 [(.t 15), (.t 16)]⟩,
  ⟨some 18, none, .ext (.t 17) 0⟩,
  ⟨some 19, none, .ext (.t 17) 1⟩,
  ⟨some 4, none, .mv (.t 18)⟩,
  ⟨some 5, none, .mv (.t 19)⟩])
 .ret))))
theorem d56 : FnD Try.prog 56 2 18 [.tmp 4, .tmp 5] c56 := ⟨Try.f56, _, Try.func56, by kernel_rfl, rfl, rfl, by kernel_rfl, by kernel_rfl⟩

/-- palimp/dset.May -/
def c57 : ACode :=
 (.seq (.reg [⟨some 2, none, .mv (.c (.bool false))⟩])
 (.seq (.reg [⟨some 3, none, .mv (.c (.int .i64 0))⟩])
 (.seq (.seq (.reg [⟨some 6, none, .mv (.t 0)⟩,
  ⟨some 7, none, .len false (.t 6)⟩,
  ⟨some 8, none, .mv (.c (.int .i64 0))⟩])
 (.block 0
 (.loop
 (.seq (.reg [⟨some 9, none, .bini .lss (.t 8) (.t 7)⟩])
 (.seq (.cond (.t 9)
 .skip
 (.exit 0))
 (.seq (.block 1
 (.seq (.reg [⟨some 10, none, .iaddr 5 (.t 6) (.t 8)⟩,
  ⟨some 11, none, .load true 5 (.t 10)⟩,
  ⟨some 5, none, .alloc [.int .i64 0, .int .i64 0, .int .i64 0, .int .i64 0, .emp]⟩,
  ⟨none, none, .store 5 (.t 5) (.t 11)⟩])
 (.seq (.seq (.reg [⟨some 12, none, .faddr 0 (.t 5)⟩,
  ⟨some 13, none, .load false 1 (.t 12)⟩,
  ⟨some 14, none, .mv (.t 3)⟩,
  ⟨some 15, none, .bini .leq (.t 13) (.t 14)⟩,
  ⟨some 16, none, .mv (.t 15)⟩,
  ⟨some 17, (some (16, false)), .load true 5 (.t 5)⟩,
  ⟨some 18, (some (16, false)), .mv (.t 0)⟩,
  ⟨some 19, (some (16, false)), .build [.int .i64 0, .int .i64 0, .int .i64 0, .int .i64 0, .emp, .emp] [(0, 5, (.t 17)), (5, 1, (.t 18))]⟩,
  ⟨some 20, (some (16, false)), .call 77 [(.t 19)]⟩,
  ⟨some 21, (some (16, false)), .un .not (.t 20)⟩,
  ⟨some 22, none, .pick (.t 16) (.c (.bool true)) (.t 21)⟩])
 (.cond (.t 22)
 (.seq (.reg [⟨some 2, none, .mv (.c (.bool false))⟩])
 .ret)
 .skip))
 (.reg [⟨some 23, none, .faddr 0 (.t 5)⟩,
  ⟨some 24, none, .load false 1 (.t 23)⟩,
  ⟨some 3, none, .mv (.t 24)⟩]))))
 (.reg [⟨some 25, none, .bini .add (.t 8) (.c (.int .i64 1))⟩,
  ⟨some 8, none, .mv (.t 25)⟩])))))))
 (.seq (.reg [⟨some 26, none, .mv (.t 0)⟩,
  ⟨some 27, none, .len false (.t 26)⟩,
  ⟨some 28, none, .bini .leq (.t 27) (.c (.int .i64 8))⟩,
  ⟨some 2, none, .mv (.t 28)⟩])
 .ret))))
theorem d57 : FnD Try.prog 57 1 28 [.tmp 2] c57 := ⟨Try.f57, _, Try.func57, by kernel_rfl, rfl, rfl, by kernel_rfl, by kernel_rfl⟩

/-- palimp/dset.Same -/
def c58 : ACode :=
 (.seq (.reg [⟨some 4, none, .mv (.c (.bool false))⟩])
 (.seq (.reg [⟨some 5, none, .mv (.t 0)⟩,
  ⟨some 6, none, .mv (.t 1)⟩,
  ⟨some 7, none, .call 78 [(.t 5), (.t 6), (.c (.fn (.func 79) [] []))]⟩,
  ⟨some 4, none, .mv (.t 7)⟩])
 .ret))
theorem d58 : FnD Try.prog 58 2 6 [.tmp 4] c58 := ⟨Try.f58, _, Try.func58, by kernel_rfl, rfl, rfl, by kernel_rfl, by kernel_rfl⟩

/-- palimp/dset.twin -/
def c59 : ACode :=
 (.seq (.reg [⟨some 2, none, .mv (.c (.emp))⟩])
 (.seq (.reg [⟨some 4, none, .mv (.t 0)⟩,
  ⟨some 5, none, .call 40 [(.t 4)]⟩,
  ⟨some 0, none, .mv (.t 5)⟩])
 (.seq (.seq (.reg [⟨some 6, none, .mv (.t 0)⟩,
  ⟨some 7, none, .len false (.t 6)⟩,
  ⟨some 8, none, .mv (.c (.int .i64 0))⟩])
 (.block 0
 (.loop
 (.seq (.reg [⟨some 9, none, .bini .lss (.t 8) (.t 7)⟩])
 (.seq (.cond (.t 9)
 .skip
 (.exit 0))
 (.seq (.block 1
 (.seq (.reg [⟨some 10, none, .mv (.t 8)⟩,
  ⟨some 3, none, .mv (.t 10)⟩])
 (.reg [⟨some 11, none, .mv (.t 0)⟩,
  ⟨some 12, none, .mv (.t 3)⟩,
  ⟨some 13, none, .mv (.t 0)⟩,
  ⟨some 14, none, .mv (.t 3)⟩,
  ⟨some 15, none, .iaddr 5 (.t 13) (.t 14)⟩,
  ⟨some 16, none, .faddr 4 (.t 15)⟩,
  ⟨some 17, none, .load false 1 (.t 16)⟩,
  ⟨some 18, none, .call 41 [(.t 17)]⟩,
  ⟨some 19, none, .iaddr 5 (.t 11) (.t 12)⟩,
  ⟨some 20, none, .faddr 4 (.t 19)⟩,
  ⟨none, none, .store 1 (.t 20) (.t 18)⟩])))
 (.reg [⟨some 21, none, .bini .add (.t 8) (.c (.int .i64 1))⟩,
  ⟨some 8, none, .mv (.t 21)⟩])))))))
 (.seq (.reg [⟨some 22, none, .mv (.t 0)⟩,
  ⟨some 2, none, .mv (.t 22)⟩])
 .ret))))
theorem d59 : FnD Try.prog 59 1 22 [.tmp 2] c59 := ⟨Try.f59, _, Try.func59, by kernel_rfl, rfl, rfl, by kernel_rfl, by kernel_rfl⟩

/-- palimp/dset.add -/
def c60 : ACode :=
 (.seq (.reg [⟨some 5, none, .box (.t 2)⟩,
  ⟨some 6, none, .mv (.c (.emp))⟩,
  ⟨some 7, none, .mv (.c (.int .i64 0))⟩])
 (.seq (.reg [⟨some 9, none, .mv (.t 0)⟩,
  ⟨some 10, none, .len false (.t 9)⟩,
  ⟨some 8, none, .mv (.t 10)⟩])
 (.seq (.seq (.reg [⟨some 11, none, .mv (.t 8)⟩,
  ⟨some 12, none, .bini .geq (.t 11) (.c (.int .i64 8))⟩,
  ⟨some 13, none, .mv (.t 12)⟩,
  ⟨some 14, (some (13, false)), .mv (.t 1)⟩,
  ⟨some 15, (some (13, false)), .bini .lss (.t 14) (.c (.int .i64 1))⟩,
  ⟨some 16, none, .pick (.t 13) (.c (.bool true)) (.t 15)⟩,
  ⟨some 17, none, .mv (.t 16)⟩,
  ⟨some 18, (some (17, false)), .mv (.t 1)⟩,
  ⟨some 19, (some (17, false)), .bini .gtr (.t 18) (.c (.int .i64 65535))⟩,
  ⟨some 20, none, .pick (.t 17) (.c (.bool true)) (.t 19)⟩,
  ⟨some 21, none, .mv (.t 20)⟩,
  ⟨some 22, (some (21, false)), .mv (.t 8)⟩,
  ⟨some 23, (some (21, false)), .bini .gtr (.t 22) (.c (.int .i64 0))⟩,
  ⟨some 24, (some (21, false)), .mv (.t 23)⟩,
  ⟨some 25, (some (24, true)), .mv (.t 1)⟩,
  ⟨some 26, (some (24, true)), .mv (.t 0)⟩,
  ⟨some 27, (some (24, true)), .mv (.t 8)⟩,
  ⟨some 28, (some (24, true)), .bini .sub (.t 27) (.c (.int .i64 1))⟩,
  ⟨some 29, (some (24, true)), .iaddr 5 (.t 26) (.t 28)⟩,
  ⟨some 30, (some (24, true)), .faddr 0 (.t 29)⟩,
  ⟨some 31, (some (24, true)), .load false 1 (.t 30)⟩,
  ⟨some 32, (some (24, true)), .bini .leq (.t 25) (.t 31)⟩,
  ⟨some 33, (some (21, false)), .pick (.t 24) (.t 32) (.c (.bool false))⟩,
  ⟨some 34, none, .pick (.t 21) (.c (.bool true)) (.t 33)⟩])
 (.cond (.t 34)
 (.seq (.reg [⟨some 35, none, .mv (.t 0)⟩,
  ⟨some 36, none, .call 59 [(.t 35)]⟩,
  ⟨some 6, none, .mv (.t 36)⟩,
  ⟨some 7, none, .mv (.c (.int .i64 8))⟩])
 .ret)
 .skip))
 (.seq (.reg [⟨some 37, none, .mv (.t 1)⟩,
  ⟨some 38, none, .faddr 0 (.t 5)⟩,
  ⟨none, none, .store 1 (.t 38) (.t 37)⟩])
 (.seq (.dregE [[(0, ⟨some 39, none, .mv (.t 0)⟩),
  (2, ⟨some 41, none, .load true 5 (.t 5)⟩),
  (3, ⟨some 42, none, .bslice 5 1 [.int .i64 0, .int .i64 0, .int .i64 0, .int .i64 0, .emp] [(0, (.t 41))]⟩),
  (1, ⟨some 40, none, .call 40 [(.t 39)]⟩)],
  [(4, ⟨some 43, none, .append 5 56 [.int .i64 0, .int .i64 0, .int .i64 0, .int .i64 0, .emp] (.t 40) (.t 42)⟩)],
  [(5, ⟨some 44, none, .call 59 [(.t 43)]⟩)],
  [(6, ⟨some 6, none, .mv (.t 44)⟩)],
  [(7, ⟨some 7, none, .mv (.c (.int .i64 0))⟩)]]
  [[], [0], [], [2], [0, 1, 2, 3], [0, 1, 2, 3, 4], [0, 1, 2, 3, 4, 5], [0, 1, 2, 3, 4, 5, 6]])
 .ret)))))
theorem d60 : FnD Try.prog 60 3 42 [.tmp 6, .tmp 7] c60 := ⟨Try.f60, _, Try.func60, by kernel_rfl, rfl, rfl, by kernel_rfl, by kernel_rfl⟩

/-- palimp/node.New -/
def c61 : ACode :=
 (.seq (.reg [⟨some 0, none, .mv (.c (.emp))⟩])
 (.seq (.reg [⟨some 2, none, .mksl 5 56 [.int .i64 0, .int .i64 0, .str [], .str [], .int .i64 0] (.c (.int .i64 8)) (.c (.int .i64 8))⟩,
  ⟨some 1, none, .mv (.t 2)⟩])
 (.seq (.reg [⟨some 3, none, .mv (.t 1)⟩,
  ⟨some 4, none, .iaddr 5 (.t 3) (.c (.int .i64 0))⟩,
  ⟨some 5, none, .faddr 0 (.t 4)⟩,
  ⟨none, none, .store 1 (.t 5) (.c (.int .i64 2))⟩])
 (.seq (.reg [⟨some 6, none, .mv (.t 1)⟩,
  ⟨some 0, none, .mv (.t 6)⟩])
 .ret))))
theorem d61 : FnD Try.prog 61 0 7 [.tmp 0] c61 := ⟨Try.f61, _, Try.func61, by kernel_rfl, rfl, rfl, by kernel_rfl, by kernel_rfl⟩

/-- (palimp/dset.family).find -/
def c62 : ACode :=
 (.seq (.reg [⟨some 3, none, .box (.t 1)⟩,
  ⟨some 4, none, .mv (.c (.int .i64 0))⟩])
 (.seq (.reg [⟨some 5, none, .mv (.t 0)⟩,
  ⟨some 6, none, .mkfn (.func 82) [] [(.t 3)]⟩,
  ⟨some 7, none, .call 81 [(.t 5), (.t 6)]⟩,
  ⟨some 4, none, .mv (.t 7)⟩])
 .ret))
theorem d62 : FnD Try.prog 62 2 6 [.tmp 4] c62 := ⟨Try.f62, _, Try.func62, by kernel_rfl, rfl, rfl, by kernel_rfl, by kernel_rfl⟩

end Go.Proofs.Ytemjlopoffjmpaa.Abs
/-
  The code of some functions in the abstract layer's form, each checked against the program's own. Written by gen.py.
-/
namespace Go.Proofs.Ytemjlopoffjmpaa.Abs
open Go

/-- palimp/palimpref11.down -/
def c75 : ACode :=
 (.seq (.reg [⟨some 4, none, .mv (.c (.int .i64 0))⟩,
  ⟨some 5, none, .mv (.c (.int .i64 0))⟩])
 (.seq (.reg [⟨some 6, none, .mv (.c (.int .i64 0))⟩])
 (.seq (.seq (.reg [⟨some 7, none, .mv (.c (.int .i64 0))⟩])
 (.block 0
 (.loop
 (.seq (.seq (.reg [⟨some 10, none, .mv (.t 7)⟩,
  ⟨some 11, none, .mv (.t 1)⟩,
  ⟨some 12, none, .len false (.t 11)⟩,
  ⟨some 13, none, .bini .lss (.t 10) (.t 12)⟩])
 (.cond (.t 13)
 .skip
 (.exit 0)))
 (.seq (.block 1
 (.seq (.seq (.reg [⟨some 16, none, .mv (.t 6)⟩,
  ⟨some 17, none, .mv (.t 0)⟩,
  ⟨some 18, none, .len false (.t 17)⟩,
  ⟨some 19, none, .bini .geq (.t 16) (.t 18)⟩,
  ⟨some 20, none, .mv (.t 19)⟩,
  ⟨some 21, (some (20, false)), .mv (.t 0)⟩,
  ⟨some 22, (some (20, false)), .mv (.t 6)⟩,
  ⟨some 23, (some (20, false)), .iaddr 5 (.t 21) (.t 22)⟩,
  ⟨some 24, (some (20, false)), .faddr 0 (.t 23)⟩,
  ⟨some 25, (some (20, false)), .load false 1 (.t 24)⟩,
  ⟨some 26, (some (20, false)), .bini .neq (.t 25) (.c (.int .i64 2))⟩,
  ⟨some 27, none, .pick (.t 20) (.c (.bool true)) (.t 26)⟩])
 (.cond (.t 27)
 (.seq (.reg [⟨some 4, none, .mv (.c (.int .i64 0))⟩,
  ⟨some 5, none, .mv (.c (.int .i64 5))⟩])
 .ret)
 .skip))
 (.seq (.reg [⟨some 29, none, .mv (.t 0)⟩,
  ⟨some 30, none, .mv (.t 6)⟩,
  ⟨some 31, none, .mv (.t 1)⟩,
  ⟨some 32, none, .mv (.t 7)⟩,
  ⟨some 33, none, .iaddr 1 (.t 31) (.t 32)⟩,
  ⟨some 34, none, .load false 1 (.t 33)⟩,
  ⟨some 35, none, .call 47 [(.t 29), (.t 30), (.t 34)]⟩,
  ⟨some 28, none, .mv (.t 35)⟩,
  ⟨some 36, none, .ext (.t 28) 0⟩,
  ⟨some 37, none, .ext (.t 28) 1⟩,
  ⟨some 8, none, .mv (.t 36)⟩,
  ⟨some 9, none, .mv (.t 37)⟩])
 (.seq (.seq (.reg [⟨some 38, none, .mv (.t 9)⟩,
  ⟨some 39, none, .un .not (.t 38)⟩,
  ⟨some 40, none, .mv (.t 39)⟩,
  ⟨some 41, (some (40, true)), .mv (.t 0)⟩,
  ⟨some 42, (some (40, true)), .call 88 [(.t 41)]⟩,
  ⟨some 43, none, .pick (.t 40) (.t 42) (.c (.bool false))⟩])
 (.cond (.t 43)
 (.seq (.reg [⟨some 4, none, .mv (.c (.int .i64 0))⟩,
  ⟨some 5, none, .mv (.c (.int .i64 12))⟩])
 .ret)
 .skip))
 (.seq (.seq (.reg [⟨some 44, none, .mv (.t 9)⟩,
  ⟨some 45, none, .un .not (.t 44)⟩])
 (.cond (.t 45)
 (.seq (.reg [⟨some 4, none, .mv (.c (.int .i64 0))⟩,
  ⟨some 5, none, .mv (.c (.int .i64 2))⟩])
 .ret)
 .skip))
 (.reg [⟨some 46, none, .mv (.t 8)⟩,
  ⟨some 6, none, .mv (.t 46)⟩]))))))
 (.reg [⟨some 14, none, .mv (.t 7)⟩,
  ⟨some 15, none, .bini .add (.t 14) (.c (.int .i64 1))⟩,
  ⟨some 7, none, .mv (.t 15)⟩]))))))
 (.seq (.reg [⟨some 47, none, .mv (.t 6)⟩,
  ⟨some 4, none, .mv (.t 47)⟩,
  ⟨some 5, none, .mv (.c (.int .i64 0))⟩])
 .ret))))
theorem d75 : FnD Try.prog 75 2 46 [.tmp 4, .tmp 5] c75 := ⟨Try.f75, _, Try.func75, by kernel_rfl, rfl, rfl, by kernel_rfl, by kernel_rfl⟩

/-- strings.Join -/
def c76 : ACode :=
 (.seq (.reg [⟨some 4, none, .mv (.c (.str []))⟩])
 (.seq (.seq (.reg [⟨some 11, none, .mv (.t 0)⟩,
  ⟨some 12, none, .len false (.t 11)⟩])
 (.block 0
 (.seq (.reg [⟨some 14, none, .bini .eql (.t 12) (.c (.int .i64 0))⟩,
  ⟨some 13, none, .mv (.t 14)⟩])
 (.cond (.t 13)
 (.seq (.reg [⟨some 4, none, .mv (.c (.str []))⟩])
 .ret)
 (.seq (.reg [⟨some 16, none, .bini .eql (.t 12) (.c (.int .i64 1))⟩,
  ⟨some 15, none, .mv (.t 16)⟩])
 (.cond (.t 15)
 (.seq (.reg [⟨some 17, none, .mv (.t 0)⟩,
  ⟨some 18, none, .iaddr 1 (.t 17) (.c (.int .i64 0))⟩,
  ⟨some 19, none, .load false 1 (.t 18)⟩,
  ⟨some 4, none, .mv (.t 19)⟩])
 .ret)
 .skip))))))
 (.seq (.reg [⟨some 5, none, .mv (.c (.int .i64 0))⟩])
 (.seq (.seq (.reg [⟨some 20, none, .mv (.t 1)⟩,
  ⟨some 21, none, .len true (.t 20)⟩,
  ⟨some 22, none, .bini .gtr (.t 21) (.c (.int .i64 0))⟩])
 (.cond (.t 22)
 (.seq (.seq (.reg [⟨some 23, none, .mv (.t 1)⟩,
  ⟨some 24, none, .len true (.t 23)⟩,
  ⟨some 25, none, .mv (.t 0)⟩,
  ⟨some 26, none, .len false (.t 25)⟩,
  ⟨some 27, none, .bini .sub (.t 26) (.c (.int .i64 1))⟩,
  ⟨some 28, none, .bini .quo (.c (.int .i64 9223372036854775807)) (.t 27)⟩,
  ⟨some 29, none, .bini .geq (.t 24) (.t 28)⟩])
 (.cond (.t 29)
 (.reg [⟨some 30, none, .bad⟩,
  ⟨none, none, .bad⟩])
 .skip))
 (.reg [⟨some 31, none, .mv (.t 5)⟩,
  ⟨some 32, none, .mv (.t 1)⟩,
  ⟨some 33, none, .len true (.t 32)⟩,
  ⟨some 34, none, .mv (.t 0)⟩,
  ⟨some 35, none, .len false (.t 34)⟩,
  ⟨some 36, none, .bini .sub (.t 35) (.c (.int .i64 1))⟩,
  ⟨some 37, none, .bini .mul (.t 33) (.t 36)⟩,
  ⟨some 38, none, .bini .add (.t 31) (.t 37)⟩,
  ⟨some 5, none, .mv (.t 38)⟩]))
 .skip))
 (.seq (.seq (.reg [⟨some 39, none, .mv (.t 0)⟩,
  ⟨some 40, none, .len false (.t 39)⟩,
  ⟨some 41, none, .mv (.c (.int .i64 0))⟩])
 (.block 1
 (.loop
 (.seq (.reg [⟨some 42, none, .bini .lss (.t 41) (.t 40)⟩])
 (.seq (.cond (.t 42)
 .skip
 (.exit 1))
 (.seq (.block 2
 (.seq (.reg [⟨some 43, none, .iaddr 1 (.t 39) (.t 41)⟩,
  ⟨some 44, none, .load false 1 (.t 43)⟩,
  ⟨some 7, none, .mv (.t 44)⟩])
 (.seq (.seq (.reg [⟨some 45, none, .mv (.t 7)⟩,
  ⟨some 46, none, .len true (.t 45)⟩,
  ⟨some 47, none, .mv (.t 5)⟩,
  ⟨some 48, none, .bini .sub (.c (.int .i64 9223372036854775807)) (.t 47)⟩,
  ⟨some 49, none, .bini .gtr (.t 46) (.t 48)⟩])
 (.cond (.t 49)
 (.reg [⟨some 50, none, .bad⟩,
  ⟨none, none, .bad⟩])
 .skip))
 (.reg [⟨some 51, none, .mv (.t 5)⟩,
  ⟨some 52, none, .mv (.t 7)⟩,
  ⟨some 53, none, .len true (.t 52)⟩,
  ⟨some 54, none, .bini .add (.t 51) (.t 53)⟩,
  ⟨some 5, none, .mv (.t 54)⟩]))))
 (.reg [⟨some 55, none, .bini .add (.t 41) (.c (.int .i64 1))⟩,
  ⟨some 41, none, .mv (.t 55)⟩])))))))
 (.seq (.reg [⟨some 8, none, .alloc [.nilp, .emp]⟩])
 (.seq (.reg [⟨some 56, none, .mv (.t 5)⟩,
  ⟨some 57, none, .call 89 [(.t 8), (.t 56)]⟩])
 (.seq (.reg [⟨some 58, none, .mv (.t 0)⟩,
  ⟨some 59, none, .iaddr 1 (.t 58) (.c (.int .i64 0))⟩,
  ⟨some 60, none, .load false 1 (.t 59)⟩,
  ⟨some 61, none, .call 90 [(.t 8), (.t 60)]⟩])
 (.seq (.seq (.reg [⟨some 62, none, .mv (.t 0)⟩,
  ⟨some 63, none, .slicel 1 (.t 62) (some (.c (.int .i64 1))) none⟩,
  ⟨some 64, none, .len false (.t 63)⟩,
  ⟨some 65, none, .mv (.c (.int .i64 0))⟩])
 (.block 3
 (.loop
 (.seq (.reg [⟨some 66, none, .bini .lss (.t 65) (.t 64)⟩])
 (.seq (.cond (.t 66)
 .skip
 (.exit 3))
 (.seq (.block 4
 (.seq (.reg [⟨some 67, none, .iaddr 1 (.t 63) (.t 65)⟩,
  ⟨some 68, none, .load false 1 (.t 67)⟩,
  ⟨some 10, none, .mv (.t 68)⟩])
 (.seq (.reg [⟨some 69, none, .mv (.t 1)⟩,
  ⟨some 70, none, .call 90 [(.t 8), (.t 69)]⟩])
 (.reg [⟨some 71, none, .mv (.t 10)⟩,
  ⟨some 72, none, .call 90 [(.t 8), (.t 71)]⟩]))))
 (.reg [⟨some 73, none, .bini .add (.t 65) (.c (.int .i64 1))⟩,
  ⟨some 65, none, .mv (.t 73)⟩])))))))
 (.seq (.reg [⟨some 74, none, .call 91 [(.t 8)]⟩,
  ⟨some 4, none, .mv (.t 74)⟩])
 .ret))))))))))
-- not all of it is covered: op makeInterface; op panic

/-- (palimp/dset.member).may -/
def c77 : ACode :=
 (.seq (.reg [⟨some 1, none, .box (.t 0)⟩,
  ⟨some 2, none, .mv (.c (.bool false))⟩])
 (.seq (.seq (.reg [⟨some 3, none, .faddr 0 (.t 1)⟩,
  ⟨some 4, none, .faddr 0 (.t 3)⟩,
  ⟨some 5, none, .load false 1 (.t 4)⟩,
  ⟨some 6, none, .bini .lss (.t 5) (.c (.int .i64 1))⟩,
  ⟨some 7, none, .mv (.t 6)⟩,
  ⟨some 8, (some (7, false)), .faddr 0 (.t 1)⟩,
  ⟨some 9, (some (7, false)), .faddr 0 (.t 8)⟩,
  ⟨some 10, (some (7, false)), .load false 1 (.t 9)⟩,
  ⟨some 11, (some (7, false)), .bini .gtr (.t 10) (.c (.int .i64 65535))⟩,
  ⟨some 12, none, .pick (.t 7) (.c (.bool true)) (.t 11)⟩,
  ⟨some 13, none, .mv (.t 12)⟩,
  ⟨some 14, (some (13, false)), .faddr 0 (.t 1)⟩,
  ⟨some 15, (some (13, false)), .faddr 4 (.t 14)⟩,
  ⟨some 16, (some (13, false)), .load false 1 (.t 15)⟩,
  ⟨some 17, (some (13, false)), .call 92 [(.t 16)]⟩,
  ⟨some 18, (some (13, false)), .un .not (.t 17)⟩,
  ⟨some 19, none, .pick (.t 13) (.c (.bool true)) (.t 18)⟩,
  ⟨some 20, none, .mv (.t 19)⟩,
  ⟨some 21, (some (20, false)), .faddr 0 (.t 1)⟩,
  ⟨some 22, (some (20, false)), .faddr 3 (.t 21)⟩,
  ⟨some 23, (some (20, false)), .load false 1 (.t 22)⟩,
  ⟨some 24, (some (20, false)), .bini .lss (.t 23) (.c (.int .i64 0))⟩,
  ⟨some 25, none, .pick (.t 20) (.c (.bool true)) (.t 24)⟩,
  ⟨some 26, none, .mv (.t 25)⟩,
  ⟨some 27, (some (26, false)), .faddr 0 (.t 1)⟩,
  ⟨some 28, (some (26, false)), .faddr 3 (.t 27)⟩,
  ⟨some 29, (some (26, false)), .load false 1 (.t 28)⟩,
  ⟨some 30, (some (26, false)), .bini .gtr (.t 29) (.c (.int .i64 255))⟩,
  ⟨some 31, none, .pick (.t 26) (.c (.bool true)) (.t 30)⟩])
 (.cond (.t 31)
 (.seq (.reg [⟨some 2, none, .mv (.c (.bool false))⟩])
 .ret)
 .skip))
 (.seq (.seq (.reg [⟨some 32, none, .faddr 0 (.t 1)⟩,
  ⟨some 33, none, .faddr 1 (.t 32)⟩,
  ⟨some 34, none, .load false 1 (.t 33)⟩])
 (.block 0
 (.seq (.reg [⟨some 36, none, .bini .eql (.t 34) (.c (.int .i64 1))⟩,
  ⟨some 35, none, .mv (.t 36)⟩])
 (.cond (.t 35)
 (.seq (.reg [⟨some 37, none, .faddr 0 (.t 1)⟩,
  ⟨some 38, none, .faddr 2 (.t 37)⟩,
  ⟨some 39, none, .load false 1 (.t 38)⟩,
  ⟨some 40, none, .bini .eql (.t 39) (.c (.int .i64 0))⟩,
  ⟨some 41, none, .mv (.t 40)⟩,
  ⟨some 42, (some (41, false)), .faddr 5 (.t 1)⟩,
  ⟨some 43, (some (41, false)), .load false 1 (.t 42)⟩,
  ⟨some 44, (some (41, false)), .faddr 0 (.t 1)⟩,
  ⟨some 45, (some (41, false)), .faddr 2 (.t 44)⟩,
  ⟨some 46, (some (41, false)), .load false 1 (.t 45)⟩,
  ⟨some 47, (some (41, false)), .call 63 [(.t 43), (.t 46), (.c (.int .i64 2))]⟩,
  ⟨some 48, (some (41, false)), .mv (.t 47)⟩,
  ⟨some 49, (some (48, true)), .faddr 5 (.t 1)⟩,
  ⟨some 50, (some (48, true)), .load false 1 (.t 49)⟩,
  ⟨some 51, (some (48, true)), .faddr 0 (.t 1)⟩,
  ⟨some 52, (some (48, true)), .faddr 0 (.t 51)⟩,
  ⟨some 53, (some (48, true)), .load false 1 (.t 52)⟩,
  ⟨some 54, (some (48, true)), .call 93 [(.t 50), (.t 53)]⟩,
  ⟨some 55, (some (48, true)), .un .not (.t 54)⟩,
  ⟨some 56, (some (41, false)), .pick (.t 48) (.t 55) (.c (.bool false))⟩,
  ⟨some 57, none, .pick (.t 41) (.c (.bool true)) (.t 56)⟩,
  ⟨some 2, none, .mv (.t 57)⟩])
 .ret)
 (.seq (.reg [⟨some 59, none, .bini .eql (.t 34) (.c (.int .i64 2))⟩,
  ⟨some 58, none, .mv (.t 59)⟩])
 (.cond (.t 58)
 (.seq (.reg [⟨some 60, none, .faddr 0 (.t 1)⟩,
  ⟨some 61, none, .faddr 3 (.t 60)⟩,
  ⟨some 62, none, .load false 1 (.t 61)⟩,
  ⟨some 63, none, .bini .eql (.t 62) (.c (.int .i64 0))⟩,
  ⟨some 64, none, .mv (.t 63)⟩,
  ⟨some 65, (some (64, true)), .faddr 5 (.t 1)⟩,
  ⟨some 66, (some (64, true)), .load false 1 (.t 65)⟩,
  ⟨some 67, (some (64, true)), .faddr 0 (.t 1)⟩,
  ⟨some 68, (some (64, true)), .faddr 2 (.t 67)⟩,
  ⟨some 69, (some (64, true)), .load false 1 (.t 68)⟩,
  ⟨some 70, (some (64, true)), .call 63 [(.t 66), (.t 69), (.c (.int .i64 1))]⟩,
  ⟨some 71, none, .pick (.t 64) (.t 70) (.c (.bool false))⟩,
  ⟨some 2, none, .mv (.t 71)⟩])
 .ret)
 .skip))))))
 (.seq (.reg [⟨some 2, none, .mv (.c (.bool false))⟩])
 .ret))))
theorem d77 : FnD Try.prog 77 1 71 [.tmp 2] c77 := ⟨Try.f77, _, Try.func77, by kernel_rfl, rfl, rfl, by kernel_rfl, by kernel_rfl⟩

/-- slices.EqualFunc(()palimp/api.Dset,()palimp/api.Dset,palimp/api.Dset,palimp/api.Dset) -/
def c78 : ACode :=
 (.seq (.reg [⟨some 6, none, .mv (.c (.bool false))⟩])
 (.seq (.seq (.reg [⟨some 10, none, .mv (.t 0)⟩,
  ⟨some 11, none, .len false (.t 10)⟩,
  ⟨some 12, none, .mv (.t 1)⟩,
  ⟨some 13, none, .len false (.t 12)⟩,
  ⟨some 14, none, .bini .neq (.t 11) (.t 13)⟩])
 (.cond (.t 14)
 (.seq (.reg [⟨some 6, none, .mv (.c (.bool false))⟩])
 .ret)
 .skip))
 (.seq (.seq (.reg [⟨some 15, none, .mv (.t 0)⟩,
  ⟨some 16, none, .len false (.t 15)⟩,
  ⟨some 17, none, .mv (.c (.int .i64 0))⟩])
 (.block 0
 (.loop
 (.seq (.reg [⟨some 18, none, .bini .lss (.t 17) (.t 16)⟩])
 (.seq (.cond (.t 18)
 .skip
 (.exit 0))
 (.seq (.block 1
 (.seq (.reg [⟨some 19, none, .mv (.t 17)⟩,
  ⟨some 20, none, .iaddr 5 (.t 15) (.t 17)⟩,
  ⟨some 21, none, .load true 5 (.t 20)⟩,
  ⟨some 8, none, .alloc [.int .i64 0, .int .i64 0, .int .i64 0, .int .i64 0, .emp]⟩,
  ⟨some 7, none, .mv (.t 19)⟩,
  ⟨none, none, .store 5 (.t 8) (.t 21)⟩])
 (.seq (.reg [⟨some 22, none, .mv (.t 1)⟩,
  ⟨some 23, none, .mv (.t 7)⟩,
  ⟨some 24, none, .iaddr 5 (.t 22) (.t 23)⟩,
  ⟨some 25, none, .load true 5 (.t 24)⟩,
  ⟨some 9, none, .alloc [.int .i64 0, .int .i64 0, .int .i64 0, .int .i64 0, .emp]⟩,
  ⟨none, none, .store 5 (.t 9) (.t 25)⟩])
 (.seq (.reg [⟨some 26, none, .mv (.t 2)⟩,
  ⟨some 27, none, .load true 5 (.t 8)⟩,
  ⟨some 28, none, .load true 5 (.t 9)⟩,
  ⟨some 29, none, .calld (.t 26) [(.t 27), (.t 28)]⟩,
  ⟨some 30, none, .un .not (.t 29)⟩])
 (.cond (.t 30)
 (.seq (.reg [⟨some 6, none, .mv (.c (.bool false))⟩])
 .ret)
 .skip)))))
 (.reg [⟨some 31, none, .bini .add (.t 17) (.c (.int .i64 1))⟩,
  ⟨some 17, none, .mv (.t 31)⟩])))))))
 (.seq (.reg [⟨some 6, none, .mv (.c (.bool true))⟩])
 .ret))))
theorem d78 : FnD Try.prog 78 3 29 [.tmp 6] c78 := ⟨Try.f78, _, Try.func78, by kernel_rfl, rfl, rfl, by kernel_rfl, by kernel_rfl⟩

/-- palimp/dset.Same$1 -/
def c79 : ACode :=
 (.seq (.reg [⟨some 2, none, .box (.t 0)⟩,
  ⟨some 3, none, .box (.t 1)⟩,
  ⟨some 4, none, .mv (.c (.bool false))⟩])
 (.seq (.reg [⟨some 5, none, .faddr 0 (.t 2)⟩,
  ⟨some 6, none, .load false 1 (.t 5)⟩,
  ⟨some 7, none, .faddr 0 (.t 3)⟩,
  ⟨some 8, none, .load false 1 (.t 7)⟩,
  ⟨some 9, none, .bini .eql (.t 6) (.t 8)⟩,
  ⟨some 10, none, .mv (.t 9)⟩,
  ⟨some 11, (some (10, true)), .faddr 1 (.t 2)⟩,
  ⟨some 12, (some (10, true)), .load false 1 (.t 11)⟩,
  ⟨some 13, (some (10, true)), .faddr 1 (.t 3)⟩,
  ⟨some 14, (some (10, true)), .load false 1 (.t 13)⟩,
  ⟨some 15, (some (10, true)), .bini .eql (.t 12) (.t 14)⟩,
  ⟨some 16, none, .pick (.t 10) (.t 15) (.c (.bool false))⟩,
  ⟨some 17, none, .mv (.t 16)⟩,
  ⟨some 18, (some (17, true)), .faddr 2 (.t 2)⟩,
  ⟨some 19, (some (17, true)), .load false 1 (.t 18)⟩,
  ⟨some 20, (some (17, true)), .faddr 2 (.t 3)⟩,
  ⟨some 21, (some (17, true)), .load false 1 (.t 20)⟩,
  ⟨some 22, (some (17, true)), .bini .eql (.t 19) (.t 21)⟩,
  ⟨some 23, none, .pick (.t 17) (.t 22) (.c (.bool false))⟩,
  ⟨some 24, none, .mv (.t 23)⟩,
  ⟨some 25, (some (24, true)), .faddr 3 (.t 2)⟩,
  ⟨some 26, (some (24, true)), .load false 1 (.t 25)⟩,
  ⟨some 27, (some (24, true)), .faddr 3 (.t 3)⟩,
  ⟨some 28, (some (24, true)), .load false 1 (.t 27)⟩,
  ⟨some 29, (some (24, true)), .bini .eql (.t 26) (.t 28)⟩,
  ⟨some 30, none, .pick (.t 24) (.t 29) (.c (.bool false))⟩,
  ⟨some 31, none, .mv (.t 30)⟩,
  ⟨some 32, (some (31, true)), .faddr 4 (.t 2)⟩,
  ⟨some 33, (some (31, true)), .load false 1 (.t 32)⟩,
  ⟨some 34, (some (31, true)), .faddr 4 (.t 3)⟩,
  ⟨some 35, (some (31, true)), .load false 1 (.t 34)⟩,
  ⟨some 36, (some (31, true)), .call 80 [(.t 33), (.t 35)]⟩,
  ⟨some 37, none, .pick (.t 31) (.t 36) (.c (.bool false))⟩,
  ⟨some 4, none, .mv (.t 37)⟩])
 .ret))
theorem d79 : FnD Try.prog 79 2 36 [.tmp 4] c79 := ⟨Try.f79, _, Try.func79, by kernel_rfl, rfl, rfl, by kernel_rfl, by kernel_rfl⟩

/-- palimp/node.Same -/
def c80 : ACode :=
 (.seq (.reg [⟨some 4, none, .mv (.c (.bool false))⟩])
 (.seq (.reg [⟨some 5, none, .mv (.t 0)⟩,
  ⟨some 6, none, .mv (.t 1)⟩,
  ⟨some 7, none, .call 94 [(.t 5), (.t 6)]⟩,
  ⟨some 4, none, .mv (.t 7)⟩])
 .ret))
theorem d80 : FnD Try.prog 80 2 6 [.tmp 4] c80 := ⟨Try.f80, _, Try.func80, by kernel_rfl, rfl, rfl, by kernel_rfl, by kernel_rfl⟩

/-- slices.IndexFunc(palimp/dset.family,palimp/api.Dset) -/
def c81 : ACode :=
 (.seq (.reg [⟨some 4, none, .mv (.c (.int .i64 0))⟩])
 (.seq (.seq (.reg [⟨some 6, none, .mv (.t 0)⟩,
  ⟨some 7, none, .len false (.t 6)⟩,
  ⟨some 8, none, .mv (.c (.int .i64 0))⟩])
 (.block 0
 (.loop
 (.seq (.reg [⟨some 9, none, .bini .lss (.t 8) (.t 7)⟩])
 (.seq (.cond (.t 9)
 .skip
 (.exit 0))
 (.seq (.block 1
 (.seq (.reg [⟨some 10, none, .mv (.t 8)⟩,
  ⟨some 5, none, .mv (.t 10)⟩])
 (.seq (.reg [⟨some 11, none, .mv (.t 1)⟩,
  ⟨some 12, none, .mv (.t 0)⟩,
  ⟨some 13, none, .mv (.t 5)⟩,
  ⟨some 14, none, .iaddr 5 (.t 12) (.t 13)⟩,
  ⟨some 15, none, .load true 5 (.t 14)⟩,
  ⟨some 16, none, .calld (.t 11) [(.t 15)]⟩])
 (.cond (.t 16)
 (.seq (.reg [⟨some 17, none, .mv (.t 5)⟩,
  ⟨some 4, none, .mv (.t 17)⟩])
 .ret)
 .skip))))
 (.reg [⟨some 18, none, .bini .add (.t 8) (.c (.int .i64 1))⟩,
  ⟨some 8, none, .mv (.t 18)⟩])))))))
 (.seq (.reg [⟨some 4, none, .mv (.c (.int .i64 (-1)))⟩])
 .ret)))
theorem d81 : FnD Try.prog 81 2 17 [.tmp 4] c81 := ⟨Try.f81, _, Try.func81, by kernel_rfl, rfl, rfl, by kernel_rfl, by kernel_rfl⟩

/-- (palimp/dset.family).find$1 -/
def c82 : ACode :=
 (.seq (.reg [⟨some 2, none, .box (.t 0)⟩,
  ⟨some 3, none, .mv (.c (.bool false))⟩])
 (.seq (.reg [⟨some 4, none, .faddr 0 (.t 2)⟩,
  ⟨some 5, none, .load false 1 (.t 4)⟩,
  ⟨some 6, none, .load false 1 (.t 1)⟩,
  ⟨some 7, none, .bini .eql (.t 5) (.t 6)⟩,
  ⟨some 3, none, .mv (.t 7)⟩])
 .ret))
theorem d82 : FnD Try.prog 82 2 6 [.tmp 3] c82 := ⟨Try.f82, _, Try.func82, by kernel_rfl, rfl, rfl, by kernel_rfl, by kernel_rfl⟩

/-- palimp/palimpref11.Torn -/
def c83 : ACode :=
 (.seq (.reg [⟨some 2, none, .mv (.c (.bool false))⟩])
 (.seq (.seq (.reg [⟨some 8, none, .mv (.t 0)⟩,
  ⟨some 9, none, .len false (.t 8)⟩,
  ⟨some 10, none, .bini .neq (.t 9) (.c (.int .i64 8))⟩,
  ⟨some 11, none, .mv (.t 10)⟩,
  ⟨some 12, (some (11, false)), .mv (.t 0)⟩,
  ⟨some 13, (some (11, false)), .iaddr 5 (.t 12) (.c (.int .i64 0))⟩,
  ⟨some 14, (some (11, false)), .load true 5 (.t 13)⟩,
  ⟨some 15, (some (11, false)), .build [.int .i64 0, .int .i64 0, .str [], .str [], .int .i64 0] [(0, 1, (.c (.int .i64 2)))]⟩,
  ⟨some 16, (some (11, false)), .eqs true [.i, .i, .s, .s, .i] (.t 14) (.t 15)⟩,
  ⟨some 17, none, .pick (.t 11) (.c (.bool true)) (.t 16)⟩])
 (.cond (.t 17)
 (.seq (.reg [⟨some 2, none, .mv (.c (.bool false))⟩])
 .ret)
 .skip))
 (.seq (.seq (.reg [⟨some 3, none, .mv (.c (.int .i64 1))⟩])
 (.block 0
 (.loop
 (.seq (.seq (.reg [⟨some 18, none, .mv (.t 3)⟩,
  ⟨some 19, none, .mv (.t 0)⟩,
  ⟨some 20, none, .len false (.t 19)⟩,
  ⟨some 21, none, .bini .lss (.t 18) (.t 20)⟩])
 (.cond (.t 21)
 .skip
 (.exit 0)))
 (.seq (.block 1
 (.seq (.reg [⟨some 24, none, .mv (.t 0)⟩,
  ⟨some 25, none, .mv (.t 3)⟩,
  ⟨some 26, none, .iaddr 5 (.t 24) (.t 25)⟩,
  ⟨some 27, none, .load true 5 (.t 26)⟩,
  ⟨some 4, none, .alloc [.int .i64 0, .int .i64 0, .str [], .str [], .int .i64 0]⟩,
  ⟨none, none, .store 5 (.t 4) (.t 27)⟩])
 (.seq (.seq (.reg [⟨some 28, none, .faddr 0 (.t 4)⟩,
  ⟨some 29, none, .load false 1 (.t 28)⟩])
 (.block 2
 (.seq (.reg [⟨some 31, none, .bini .eql (.t 29) (.c (.int .i64 0))⟩,
  ⟨some 30, none, .mv (.t 31)⟩])
 (.cond (.t 30)
 (.seq (.seq (.reg [⟨some 32, none, .load true 5 (.t 4)⟩,
  ⟨some 33, none, .build [.int .i64 0, .int .i64 0, .str [], .str [], .int .i64 0] []⟩,
  ⟨some 34, none, .eqs true [.i, .i, .s, .s, .i] (.t 32) (.t 33)⟩])
 (.cond (.t 34)
 (.seq (.reg [⟨some 2, none, .mv (.c (.bool false))⟩])
 .ret)
 .skip))
 (.exit 1))
 (.seq (.reg [⟨some 36, none, .bini .eql (.t 29) (.c (.int .i64 3))⟩,
  ⟨some 35, none, .mv (.t 36)⟩])
 (.cond (.t 35)
 (.seq (.seq (.reg [⟨some 37, none, .load true 5 (.t 4)⟩,
  ⟨some 38, none, .build [.int .i64 0, .int .i64 0, .str [], .str [], .int .i64 0] [(0, 1, (.c (.int .i64 3)))]⟩,
  ⟨some 39, none, .eqs true [.i, .i, .s, .s, .i] (.t 37) (.t 38)⟩])
 (.cond (.t 39)
 (.seq (.reg [⟨some 2, none, .mv (.c (.bool false))⟩])
 .ret)
 .skip))
 (.exit 1))
 (.seq (.reg [⟨some 41, none, .bini .eql (.t 29) (.c (.int .i64 1))⟩,
  ⟨some 40, none, .mv (.t 41)⟩])
 (.cond (.t 40)
 (.seq (.reg [⟨some 42, none, .faddr 4 (.t 4)⟩,
  ⟨some 43, none, .load false 1 (.t 42)⟩,
  ⟨some 44, none, .bini .lss (.t 43) (.c (.int .i64 0))⟩,
  ⟨some 45, none, .mv (.t 44)⟩,
  ⟨some 46, (some (45, false)), .faddr 4 (.t 4)⟩,
  ⟨some 47, (some (45, false)), .load false 1 (.t 46)⟩,
  ⟨some 48, (some (45, false)), .bini .gtr (.t 47) (.c (.int .i64 15))⟩,
  ⟨some 49, none, .pick (.t 45) (.c (.bool true)) (.t 48)⟩])
 (.cond (.t 49)
 (.seq (.reg [⟨some 2, none, .mv (.c (.bool false))⟩])
 .ret)
 .skip))
 (.seq (.reg [⟨some 51, none, .bini .eql (.t 29) (.c (.int .i64 2))⟩,
  ⟨some 50, none, .mv (.t 51)⟩])
 (.cond (.t 50)
 (.seq (.reg [⟨some 52, none, .faddr 4 (.t 4)⟩,
  ⟨some 53, none, .load false 1 (.t 52)⟩,
  ⟨some 54, none, .bini .neq (.t 53) (.c (.int .i64 0))⟩,
  ⟨some 55, none, .mv (.t 54)⟩,
  ⟨some 56, (some (55, false)), .faddr 3 (.t 4)⟩,
  ⟨some 57, (some (55, false)), .load false 1 (.t 56)⟩,
  ⟨some 58, (some (55, false)), .bins .neq (.t 57) (.c (.str []))⟩,
  ⟨some 59, none, .pick (.t 55) (.c (.bool true)) (.t 58)⟩])
 (.cond (.t 59)
 (.seq (.reg [⟨some 2, none, .mv (.c (.bool false))⟩])
 .ret)
 .skip))
 (.seq (.reg [⟨some 2, none, .mv (.c (.bool false))⟩])
 .ret)))))))))))
 (.seq (.seq (.reg [⟨some 60, none, .faddr 2 (.t 4)⟩,
  ⟨some 61, none, .load false 1 (.t 60)⟩,
  ⟨some 62, none, .call 87 [(.t 61)]⟩,
  ⟨some 63, none, .un .not (.t 62)⟩,
  ⟨some 64, none, .mv (.t 63)⟩,
  ⟨some 65, (some (64, false)), .mv (.t 0)⟩,
  ⟨some 66, (some (64, false)), .faddr 1 (.t 4)⟩,
  ⟨some 67, (some (64, false)), .load false 1 (.t 66)⟩,
  ⟨some 68, (some (64, false)), .call 95 [(.t 65), (.t 67)]⟩,
  ⟨some 69, (some (64, false)), .un .not (.t 68)⟩,
  ⟨some 70, none, .pick (.t 64) (.c (.bool true)) (.t 69)⟩,
  ⟨some 71, none, .mv (.t 70)⟩,
  ⟨some 72, (some (71, false)), .faddr 3 (.t 4)⟩,
  ⟨some 73, (some (71, false)), .load false 1 (.t 72)⟩,
  ⟨some 74, (some (71, false)), .len true (.t 73)⟩,
  ⟨some 75, (some (71, false)), .bini .gtr (.t 74) (.c (.int .i64 128))⟩,
  ⟨some 76, none, .pick (.t 71) (.c (.bool true)) (.t 75)⟩])
 (.cond (.t 76)
 (.seq (.reg [⟨some 2, none, .mv (.c (.bool false))⟩])
 .ret)
 .skip))
 (.seq (.seq (.reg [⟨some 5, none, .mv (.c (.int .i64 1))⟩])
 (.block 3
 (.loop
 (.seq (.seq (.reg [⟨some 77, none, .mv (.t 5)⟩,
  ⟨some 78, none, .mv (.t 3)⟩,
  ⟨some 79, none, .bini .lss (.t 77) (.t 78)⟩])
 (.cond (.t 79)
 .skip
 (.exit 3)))
 (.seq (.block 4
 (.seq (.dreg [⟨some 82, none, .mv (.t 0)⟩,
  ⟨some 83, none, .mv (.t 5)⟩,
  ⟨some 84, none, .iaddr 5 (.t 82) (.t 83)⟩,
  ⟨some 85, none, .faddr 0 (.t 84)⟩,
  ⟨some 86, none, .load false 1 (.t 85)⟩,
  ⟨some 87, none, .bini .neq (.t 86) (.c (.int .i64 0))⟩,
  ⟨some 88, none, .mv (.t 87)⟩,
  ⟨some 89, (some (88, true)), .mv (.t 0)⟩,
  ⟨some 90, (some (88, true)), .mv (.t 5)⟩,
  ⟨some 91, (some (88, true)), .iaddr 5 (.t 89) (.t 90)⟩,
  ⟨some 92, (some (88, true)), .faddr 0 (.t 91)⟩,
  ⟨some 93, (some (88, true)), .load false 1 (.t 92)⟩,
  ⟨some 94, (some (88, true)), .bini .neq (.t 93) (.c (.int .i64 3))⟩,
  ⟨some 95, none, .pick (.t 88) (.t 94) (.c (.bool false))⟩,
  ⟨some 96, none, .mv (.t 95)⟩,
  ⟨some 97, (some (96, true)), .mv (.t 0)⟩,
  ⟨some 98, (some (96, true)), .mv (.t 5)⟩,
  ⟨some 99, (some (96, true)), .iaddr 5 (.t 97) (.t 98)⟩,
  ⟨some 100, (some (96, true)), .faddr 1 (.t 99)⟩,
  ⟨some 101, (some (96, true)), .load false 1 (.t 100)⟩,
  ⟨some 102, (some (96, true)), .faddr 1 (.t 4)⟩,
  ⟨some 103, (some (96, true)), .load false 1 (.t 102)⟩,
  ⟨some 104, (some (96, true)), .bini .eql (.t 101) (.t 103)⟩,
  ⟨some 105, none, .pick (.t 96) (.t 104) (.c (.bool false))⟩,
  ⟨some 106, none, .mv (.t 105)⟩,
  ⟨some 107, (some (106, true)), .mv (.t 0)⟩,
  ⟨some 108, (some (106, true)), .mv (.t 5)⟩,
  ⟨some 109, (some (106, true)), .iaddr 5 (.t 107) (.t 108)⟩,
  ⟨some 110, (some (106, true)), .faddr 2 (.t 109)⟩,
  ⟨some 111, (some (106, true)), .load false 1 (.t 110)⟩,
  ⟨some 112, (some (106, true)), .faddr 2 (.t 4)⟩,
  ⟨some 113, (some (106, true)), .load false 1 (.t 112)⟩,
  ⟨some 114, (some (106, true)), .bins .eql (.t 111) (.t 113)⟩,
  ⟨some 115, none, .pick (.t 106) (.t 114) (.c (.bool false))⟩])
 (.cond (.t 115)
 (.seq (.reg [⟨some 2, none, .mv (.c (.bool false))⟩])
 .ret)
 .skip)))
 (.reg [⟨some 80, none, .mv (.t 5)⟩,
  ⟨some 81, none, .bini .add (.t 80) (.c (.int .i64 1))⟩,
  ⟨some 5, none, .mv (.t 81)⟩]))))))
 (.seq (.reg [⟨some 116, none, .mv (.t 3)⟩,
  ⟨some 6, none, .mv (.t 116)⟩])
 (.seq (.seq (.reg [⟨some 7, none, .mv (.c (.int .i64 0))⟩])
 (.block 5
 (.loop
 (.seq (.seq (.reg [⟨some 117, none, .mv (.t 7)⟩,
  ⟨some 118, none, .mv (.t 0)⟩,
  ⟨some 119, none, .len false (.t 118)⟩,
  ⟨some 120, none, .bini .lss (.t 117) (.t 119)⟩,
  ⟨some 121, none, .mv (.t 120)⟩,
  ⟨some 122, (some (121, true)), .mv (.t 6)⟩,
  ⟨some 123, (some (121, true)), .bini .gtr (.t 122) (.c (.int .i64 0))⟩,
  ⟨some 124, none, .pick (.t 121) (.t 123) (.c (.bool false))⟩,
  ⟨some 125, none, .mv (.t 124)⟩,
  ⟨some 126, (some (125, true)), .mv (.t 6)⟩,
  ⟨some 127, (some (125, true)), .mv (.t 0)⟩,
  ⟨some 128, (some (125, true)), .len false (.t 127)⟩,
  ⟨some 129, (some (125, true)), .bini .lss (.t 126) (.t 128)⟩,
  ⟨some 130, none, .pick (.t 125) (.t 129) (.c (.bool false))⟩])
 (.cond (.t 130)
 .skip
 (.exit 5)))
 (.seq (.block 6
 (.reg [⟨some 133, none, .mv (.t 0)⟩,
  ⟨some 134, none, .mv (.t 6)⟩,
  ⟨some 135, none, .iaddr 5 (.t 133) (.t 134)⟩,
  ⟨some 136, none, .faddr 1 (.t 135)⟩,
  ⟨some 137, none, .load false 1 (.t 136)⟩,
  ⟨some 6, none, .mv (.t 137)⟩]))
 (.reg [⟨some 131, none, .mv (.t 7)⟩,
  ⟨some 132, none, .bini .add (.t 131) (.c (.int .i64 1))⟩,
  ⟨some 7, none, .mv (.t 132)⟩]))))))
 (.seq (.reg [⟨some 138, none, .mv (.t 6)⟩,
  ⟨some 139, none, .bini .neq (.t 138) (.c (.int .i64 0))⟩])
 (.cond (.t 139)
 (.seq (.reg [⟨some 2, none, .mv (.c (.bool false))⟩])
 .ret)
 .skip)))))))))
 (.reg [⟨some 22, none, .mv (.t 3)⟩,
  ⟨some 23, none, .bini .add (.t 22) (.c (.int .i64 1))⟩,
  ⟨some 3, none, .mv (.t 23)⟩]))))))
 (.seq (.reg [⟨some 2, none, .mv (.c (.bool true))⟩])
 .ret))))
theorem d83 : FnD Try.prog 83 1 139 [.tmp 2] c83 := ⟨Try.f83, _, Try.func83, by kernel_rfl, rfl, rfl, by kernel_rfl, by kernel_rfl⟩

/-- palimp/palimpref11.broken -/
def c84 : ACode :=
 (.seq (.reg [⟨some 2, none, .mv (.c (.bool false))⟩])
 (.seq (.reg [⟨some 3, none, .mv (.t 0)⟩,
  ⟨some 4, none, .call 88 [(.t 3)]⟩,
  ⟨some 5, none, .mv (.t 4)⟩,
  ⟨some 6, (some (5, false)), .mv (.t 0)⟩,
  ⟨some 7, (some (5, false)), .call 96 [(.t 6)]⟩,
  ⟨some 8, none, .pick (.t 5) (.c (.bool true)) (.t 7)⟩,
  ⟨some 2, none, .mv (.t 8)⟩])
 .ret))
theorem d84 : FnD Try.prog 84 1 8 [.tmp 2] c84 := ⟨Try.f84, _, Try.func84, by kernel_rfl, rfl, rfl, by kernel_rfl, by kernel_rfl⟩

/-- palimp/palimpref16.at -/
def c85 : ACode :=
 (.seq (.reg [⟨some 4, none, .mv (.c (.int .i64 0))⟩])
 (.seq (.seq (.reg [⟨some 5, none, .mv (.c (.int .i64 0))⟩])
 (.block 0
 (.loop
 (.seq (.seq (.reg [⟨some 6, none, .mv (.t 5)⟩,
  ⟨some 7, none, .mv (.t 0)⟩,
  ⟨some 8, none, .len false (.t 7)⟩,
  ⟨some 9, none, .bini .lss (.t 6) (.t 8)⟩])
 (.cond (.t 9)
 .skip
 (.exit 0)))
 (.seq (.block 1
 (.seq (.reg [⟨some 12, none, .mv (.t 0)⟩,
  ⟨some 13, none, .mv (.t 5)⟩,
  ⟨some 14, none, .iaddr 5 (.t 12) (.t 13)⟩,
  ⟨some 15, none, .faddr 0 (.t 14)⟩,
  ⟨some 16, none, .load false 1 (.t 15)⟩,
  ⟨some 17, none, .mv (.t 1)⟩,
  ⟨some 18, none, .bini .eql (.t 16) (.t 17)⟩])
 (.cond (.t 18)
 (.seq (.reg [⟨some 19, none, .mv (.t 5)⟩,
  ⟨some 4, none, .mv (.t 19)⟩])
 .ret)
 .skip)))
 (.reg [⟨some 10, none, .mv (.t 5)⟩,
  ⟨some 11, none, .bini .add (.t 10) (.c (.int .i64 1))⟩,
  ⟨some 5, none, .mv (.t 11)⟩]))))))
 (.seq (.reg [⟨some 4, none, .mv (.c (.int .i64 (-1)))⟩])
 .ret)))
theorem d85 : FnD Try.prog 85 2 18 [.tmp 4] c85 := ⟨Try.f85, _, Try.func85, by kernel_rfl, rfl, rfl, by kernel_rfl, by kernel_rfl⟩

/-- palimp/data.noughts -/
def c86 : ACode :=
 (.seq (.reg [⟨some 2, none, .mv (.c (.str []))⟩])
 (.seq (.reg [⟨some 3, none, .mv (.t 0)⟩,
  ⟨some 4, none, .max2 (.t 3) (.c (.int .i64 0))⟩,
  ⟨some 5, none, .call 97 [(.c (.str [0])), (.t 4)]⟩,
  ⟨some 2, none, .mv (.t 5)⟩])
 .ret))
theorem d86 : FnD Try.prog 86 1 5 [.tmp 2] c86 := ⟨Try.f86, _, Try.func86, by kernel_rfl, rfl, rfl, by kernel_rfl, by kernel_rfl⟩

end Go.Proofs.Ytemjlopoffjmpaa.Abs
/-
  The code of some functions in the abstract layer's form, each checked against the program's own. Written by gen.py.
-/
namespace Go.Proofs.Ytemjlopoffjmpaa.Abs
open Go

/-- palimp/palimplaw19.AcctQuota -/
def c3 : ACode :=
 (.seq (.reg [⟨some 4, none, .mv (.c (.bool false))⟩])
 (.seq (.seq (.reg [⟨some 15, none, .call 8 []⟩,
  ⟨some 16, none, .un .not (.t 15)⟩])
 (.cond (.t 16)
 (.seq (.reg [⟨some 4, none, .mv (.c (.bool false))⟩])
 .ret)
 .skip))
 (.seq (.seq (.reg [⟨some 17, none, .mv (.t 0)⟩,
  ⟨some 18, none, .len false (.t 17)⟩,
  ⟨some 19, none, .bini .gtr (.t 18) (.c (.int .i64 150))⟩])
 (.cond (.t 19)
 (.seq (.reg [⟨some 4, none, .mv (.c (.bool true))⟩])
 .ret)
 .skip))
 (.seq (.reg [⟨some 20, none, .mv (.t 1)⟩,
  ⟨some 21, none, .bini .rem (.t 20) (.c (.int .u8 9))⟩,
  ⟨some 22, none, .convi .i64 (.t 21)⟩,
  ⟨some 5, none, .mv (.t 22)⟩])
 (.seq (.reg [⟨some 23, none, .mv (.t 0)⟩,
  ⟨some 24, none, .call 9 [(.t 23)]⟩,
  ⟨some 6, none, .mv (.t 24)⟩])
 (.seq (.reg [⟨some 25, none, .mv (.t 5)⟩,
  ⟨some 26, none, .call 10 []⟩,
  ⟨some 27, none, .build [.int .i64 0, .int .i64 0, .int .i64 0, .int .i64 0, .emp] [(0, 1, (.c (.int .i64 1))), (1, 1, (.c (.int .i64 1))), (3, 1, (.t 25)), (4, 1, (.t 26))]⟩,
  ⟨some 28, none, .bslice 5 1 [.int .i64 0, .int .i64 0, .int .i64 0, .int .i64 0, .emp] [(0, (.t 27))]⟩,
  ⟨some 7, none, .mv (.t 28)⟩])
 (.seq (.seq (.reg [⟨some 8, none, .mv (.c (.int .i64 0))⟩])
 (.block 0
 (.loop
 (.seq (.seq (.reg [⟨some 29, none, .mv (.t 8)⟩,
  ⟨some 30, none, .bini .lss (.t 29) (.c (.int .i64 40))⟩,
  ⟨some 31, none, .mv (.t 30)⟩,
  ⟨some 32, (some (31, true)), .mv (.t 6)⟩,
  ⟨some 33, (some (31, true)), .call 11 [(.t 32)]⟩,
  ⟨some 34, (some (31, true)), .un .not (.t 33)⟩,
  ⟨some 35, none, .pick (.t 31) (.t 34) (.c (.bool false))⟩])
 (.cond (.t 35)
 .skip
 (.exit 0)))
 (.seq (.block 1
 (.seq (.dregE [[(0, ⟨some 39, none, .mv (.t 7)⟩),
  (1, ⟨some 40, none, .iaddr 5 (.t 39) (.c (.int .i64 0))⟩),
  (2, ⟨some 41, none, .faddr 4 (.t 40)⟩),
  (3, ⟨some 42, none, .load false 1 (.t 41)⟩),
  (4, ⟨some 43, none, .mv (.t 6)⟩),
  (5, ⟨some 44, none, .call 13 [(.t 43), (.c (.int .i64 1))]⟩)],
  [(6, ⟨some 45, none, .call 12 [(.t 42), (.t 44)]⟩)],
  [(7, ⟨some 38, none, .mv (.t 45)⟩)],
  [(8, ⟨some 46, none, .ext (.t 38) 0⟩),
  (9, ⟨some 47, none, .ext (.t 38) 1⟩),
  (10, ⟨some 9, none, .mv (.t 46)⟩)],
  [(11, ⟨some 10, none, .mv (.t 47)⟩)]]
  [[], [0], [0, 1], [0, 1, 2], [], [4], [0, 1, 2, 3, 4, 5], [0, 1, 2, 3, 4, 5, 6], [0, 1, 2, 3, 4, 5, 6, 7], [0, 1, 2, 3, 4, 5, 6, 7], [0, 1, 2, 3, 4, 5, 6, 7, 8], [0, 1, 2, 3, 4, 5, 6, 7, 8, 9, 10]])
 (.seq (.seq (.reg [⟨some 48, none, .mv (.t 10)⟩,
  ⟨some 49, none, .bini .neq (.t 48) (.c (.int .i64 0))⟩])
 (.cond (.t 49)
 (.exit 1)
 .skip))
 (.seq (.reg [⟨some 50, none, .mv (.t 7)⟩,
  ⟨some 51, none, .iaddr 5 (.t 50) (.c (.int .i64 0))⟩,
  ⟨some 52, none, .faddr 4 (.t 51)⟩,
  ⟨some 53, none, .load false 1 (.t 52)⟩,
  ⟨some 54, none, .call 14 [(.t 53)]⟩,
  ⟨some 11, none, .mv (.t 54)⟩])
 (.seq (.reg [⟨some 56, none, .mv (.t 7)⟩,
  ⟨some 57, none, .mv (.t 9)⟩,
  ⟨some 58, none, .call 15 [(.t 56), (.c (.int .i64 1)), (.t 57)]⟩,
  ⟨some 55, none, .mv (.t 58)⟩,
  ⟨some 59, none, .ext (.t 55) 0⟩,
  ⟨some 60, none, .ext (.t 55) 1⟩,
  ⟨some 12, none, .mv (.t 59)⟩,
  ⟨some 13, none, .mv (.t 60)⟩])
 (.seq (.seq (.reg [⟨some 61, none, .mv (.t 12)⟩,
  ⟨some 62, none, .len false (.t 61)⟩,
  ⟨some 63, none, .bini .neq (.t 62) (.c (.int .i64 1))⟩,
  ⟨some 64, none, .mv (.t 63)⟩,
  ⟨some 65, (some (64, false)), .mv (.t 13)⟩,
  ⟨some 66, (some (64, false)), .bini .neq (.t 65) (.c (.int .i64 0))⟩,
  ⟨some 67, (some (64, false)), .mv (.t 66)⟩,
  ⟨some 68, (some (67, true)), .mv (.t 13)⟩,
  ⟨some 69, (some (67, true)), .bini .neq (.t 68) (.c (.int .i64 9))⟩,
  ⟨some 70, (some (67, true)), .mv (.t 69)⟩,
  ⟨some 71, (some (70, false)), .mv (.t 5)⟩,
  ⟨some 72, (some (70, false)), .bini .eql (.t 71) (.c (.int .i64 0))⟩,
  ⟨some 73, (some (67, true)), .pick (.t 70) (.c (.bool true)) (.t 72)⟩,
  ⟨some 74, (some (67, true)), .mv (.t 73)⟩,
  ⟨some 75, (some (74, false)), .mv (.t 9)⟩,
  ⟨some 76, (some (74, false)), .call 14 [(.t 75)]⟩,
  ⟨some 77, (some (74, false)), .mv (.t 5)⟩,
  ⟨some 78, (some (74, false)), .bini .leq (.t 76) (.t 77)⟩,
  ⟨some 79, (some (67, true)), .pick (.t 74) (.c (.bool true)) (.t 78)⟩,
  ⟨some 80, (some (67, true)), .mv (.t 79)⟩,
  ⟨some 81, (some (80, false)), .mv (.t 9)⟩,
  ⟨some 82, (some (80, false)), .call 14 [(.t 81)]⟩,
  ⟨some 83, (some (80, false)), .mv (.t 11)⟩,
  ⟨some 84, (some (80, false)), .bini .leq (.t 82) (.t 83)⟩,
  ⟨some 85, (some (67, true)), .pick (.t 80) (.c (.bool true)) (.t 84)⟩,
  ⟨some 86, (some (64, false)), .pick (.t 67) (.t 85) (.c (.bool false))⟩,
  ⟨some 87, none, .pick (.t 64) (.c (.bool true)) (.t 86)⟩])
 (.cond (.t 87)
 (.seq (.reg [⟨some 4, none, .mv (.c (.bool false))⟩])
 .ret)
 .skip))
 (.seq (.reg [⟨some 88, none, .mv (.t 12)⟩,
  ⟨some 7, none, .mv (.t 88)⟩])
 (.seq (.reg [⟨some 89, none, .mv (.t 7)⟩,
  ⟨some 90, none, .iaddr 5 (.t 89) (.c (.int .i64 0))⟩,
  ⟨some 91, none, .faddr 4 (.t 90)⟩,
  ⟨some 92, none, .load false 1 (.t 91)⟩,
  ⟨some 93, none, .call 14 [(.t 92)]⟩,
  ⟨some 14, none, .mv (.t 93)⟩])
 (.seq (.reg [⟨some 94, none, .mv (.t 5)⟩,
  ⟨some 95, none, .bini .gtr (.t 94) (.c (.int .i64 0))⟩,
  ⟨some 96, none, .mv (.t 95)⟩,
  ⟨some 97, (some (96, true)), .mv (.t 14)⟩,
  ⟨some 98, (some (96, true)), .mv (.t 5)⟩,
  ⟨some 99, (some (96, true)), .bini .gtr (.t 97) (.t 98)⟩,
  ⟨some 100, none, .pick (.t 96) (.t 99) (.c (.bool false))⟩])
 (.cond (.t 100)
 (.seq (.reg [⟨some 4, none, .mv (.c (.bool false))⟩])
 .ret)
 .skip))))))))))
 (.reg [⟨some 36, none, .mv (.t 8)⟩,
  ⟨some 37, none, .bini .add (.t 36) (.c (.int .i64 1))⟩,
  ⟨some 8, none, .mv (.t 37)⟩]))))))
 (.seq (.reg [⟨some 4, none, .mv (.c (.bool true))⟩])
 .ret))))))))
theorem d3 : FnD Try.prog 3 2 99 [.tmp 4] c3 := ⟨Try.f3, _, Try.func3, by kernel_rfl, rfl, rfl, by kernel_rfl, by kernel_rfl⟩

/-- palimp/palimplaw19.AcctWorst -/
def c4 : ACode :=
 (.seq (.reg [⟨some 4, none, .mv (.c (.bool false))⟩])
 (.seq (.seq (.reg [⟨some 14, none, .call 8 []⟩,
  ⟨some 15, none, .un .not (.t 14)⟩])
 (.cond (.t 15)
 (.seq (.reg [⟨some 4, none, .mv (.c (.bool false))⟩])
 .ret)
 .skip))
 (.seq (.seq (.reg [⟨some 16, none, .mv (.t 0)⟩,
  ⟨some 17, none, .len false (.t 16)⟩,
  ⟨some 18, none, .bini .gtr (.t 17) (.c (.int .i64 60))⟩,
  ⟨some 19, none, .mv (.t 18)⟩,
  ⟨some 20, (some (19, false)), .mv (.t 1)⟩,
  ⟨some 21, (some (19, false)), .len true (.t 20)⟩,
  ⟨some 22, (some (19, false)), .bini .gtr (.t 21) (.c (.int .i64 128))⟩,
  ⟨some 23, none, .pick (.t 19) (.c (.bool true)) (.t 22)⟩])
 (.cond (.t 23)
 (.seq (.reg [⟨some 4, none, .mv (.c (.bool true))⟩])
 .ret)
 .skip))
 (.seq (.reg [⟨some 24, none, .mv (.t 0)⟩,
  ⟨some 25, none, .call 9 [(.t 24)]⟩,
  ⟨some 26, none, .call 16 [(.t 25), (.c (.int .i64 15))]⟩,
  ⟨some 5, none, .mv (.t 26)⟩])
 (.seq (.reg [⟨some 27, none, .mv (.t 5)⟩,
  ⟨some 28, none, .build [.int .i64 0, .int .i64 0, .int .i64 0, .int .i64 0, .emp] [(0, 1, (.c (.int .i64 1))), (1, 1, (.c (.int .i64 1))), (4, 1, (.t 27))]⟩,
  ⟨some 29, none, .bslice 5 1 [.int .i64 0, .int .i64 0, .int .i64 0, .int .i64 0, .emp] [(0, (.t 28))]⟩,
  ⟨some 6, none, .mv (.t 29)⟩])
 (.seq (.reg [⟨some 31, none, .mv (.t 5)⟩,
  ⟨some 32, none, .call 17 [(.t 31), (.c (.str [110, 101, 119])), (.c (.int .i64 1))]⟩,
  ⟨some 30, none, .mv (.t 32)⟩,
  ⟨some 33, none, .ext (.t 30) 0⟩,
  ⟨some 34, none, .ext (.t 30) 1⟩,
  ⟨some 7, none, .mv (.t 33)⟩,
  ⟨some 8, none, .mv (.t 34)⟩])
 (.seq (.seq (.reg [⟨some 35, none, .mv (.t 8)⟩,
  ⟨some 36, none, .bini .neq (.t 35) (.c (.int .i64 0))⟩])
 (.cond (.t 36)
 (.seq (.reg [⟨some 4, none, .mv (.c (.bool true))⟩])
 .ret)
 .skip))
 (.seq (.reg [⟨some 38, none, .mv (.t 7)⟩,
  ⟨some 39, none, .mv (.t 1)⟩,
  ⟨some 40, none, .call 18 [(.t 38), (.c (.str [110, 101, 119])), (.c (.int .i64 0)), (.t 39)]⟩,
  ⟨some 37, none, .mv (.t 40)⟩,
  ⟨some 41, none, .ext (.t 37) 0⟩,
  ⟨some 42, none, .ext (.t 37) 1⟩,
  ⟨some 9, none, .mv (.t 41)⟩,
  ⟨some 10, none, .mv (.t 42)⟩])
 (.seq (.reg [⟨some 43, none, .mv (.t 7)⟩,
  ⟨some 44, none, .build [.int .i64 0, .int .i64 0, .int .i64 0, .int .i64 0, .emp] [(0, 1, (.c (.int .i64 1))), (1, 1, (.c (.int .i64 1))), (4, 1, (.t 43))]⟩,
  ⟨some 45, none, .bslice 5 1 [.int .i64 0, .int .i64 0, .int .i64 0, .int .i64 0, .emp] [(0, (.t 44))]⟩,
  ⟨some 46, none, .mv (.t 9)⟩,
  ⟨some 47, none, .build [.int .i64 0, .int .i64 0, .int .i64 0, .int .i64 0, .emp] [(0, 1, (.c (.int .i64 1))), (1, 1, (.c (.int .i64 1))), (4, 1, (.t 46))]⟩,
  ⟨some 48, none, .bslice 5 1 [.int .i64 0, .int .i64 0, .int .i64 0, .int .i64 0, .emp] [(0, (.t 47))]⟩,
  ⟨some 11, none, .mv (.t 45)⟩,
  ⟨some 12, none, .mv (.t 48)⟩])
 (.seq (.reg [⟨some 49, none, .mv (.t 6)⟩,
  ⟨some 50, none, .call 19 [(.t 49)]⟩,
  ⟨some 13, none, .mv (.t 50)⟩])
 (.seq (.reg [⟨some 51, none, .mv (.t 11)⟩,
  ⟨some 52, none, .call 19 [(.t 51)]⟩,
  ⟨some 53, none, .mv (.t 13)⟩,
  ⟨some 54, none, .bini .add (.t 53) (.c (.int .i64 1))⟩,
  ⟨some 55, none, .bini .eql (.t 52) (.t 54)⟩,
  ⟨some 56, none, .mv (.t 55)⟩,
  ⟨some 57, (some (56, true)), .mv (.t 12)⟩,
  ⟨some 58, (some (56, true)), .call 19 [(.t 57)]⟩,
  ⟨some 59, (some (56, true)), .mv (.t 13)⟩,
  ⟨some 60, (some (56, true)), .bini .add (.t 59) (.c (.int .i64 1))⟩,
  ⟨some 61, (some (56, true)), .mv (.t 1)⟩,
  ⟨some 62, (some (56, true)), .call 20 [(.t 61)]⟩,
  ⟨some 63, (some (56, true)), .bini .add (.t 60) (.t 62)⟩,
  ⟨some 64, (some (56, true)), .bini .eql (.t 58) (.t 63)⟩,
  ⟨some 65, none, .pick (.t 56) (.t 64) (.c (.bool false))⟩,
  ⟨some 66, none, .mv (.t 65)⟩,
  ⟨some 67, (some (66, true)), .mv (.t 9)⟩,
  ⟨some 68, (some (66, true)), .call 14 [(.t 67)]⟩,
  ⟨some 69, (some (66, true)), .mv (.t 5)⟩,
  ⟨some 70, (some (66, true)), .call 14 [(.t 69)]⟩,
  ⟨some 71, (some (66, true)), .mv (.t 1)⟩,
  ⟨some 72, (some (66, true)), .call 20 [(.t 71)]⟩,
  ⟨some 73, (some (66, true)), .bini .add (.t 70) (.t 72)⟩,
  ⟨some 74, (some (66, true)), .bini .eql (.t 68) (.t 73)⟩,
  ⟨some 75, none, .pick (.t 66) (.t 74) (.c (.bool false))⟩,
  ⟨some 4, none, .mv (.t 75)⟩])
 .ret)))))))))))
theorem d4 : FnD Try.prog 4 2 74 [.tmp 4] c4 := ⟨Try.f4, _, Try.func4, by kernel_rfl, rfl, rfl, by kernel_rfl, by kernel_rfl⟩

/-- palimp/palimplaw19.AcctStats -/
def c5 : ACode :=
 (.seq (.reg [⟨some 2, none, .mv (.c (.bool false))⟩])
 (.seq (.seq (.reg [⟨some 10, none, .call 8 []⟩,
  ⟨some 11, none, .un .not (.t 10)⟩])
 (.cond (.t 11)
 (.seq (.reg [⟨some 2, none, .mv (.c (.bool false))⟩])
 .ret)
 .skip))
 (.seq (.seq (.reg [⟨some 12, none, .mv (.t 0)⟩,
  ⟨some 13, none, .len false (.t 12)⟩,
  ⟨some 14, none, .bini .gtr (.t 13) (.c (.int .i64 60))⟩])
 (.cond (.t 14)
 (.seq (.reg [⟨some 2, none, .mv (.c (.bool true))⟩])
 .ret)
 .skip))
 (.seq (.reg [⟨some 15, none, .mv (.t 0)⟩,
  ⟨some 16, none, .call 9 [(.t 15)]⟩,
  ⟨some 17, none, .call 16 [(.t 16), (.c (.int .i64 25))]⟩,
  ⟨some 3, none, .mv (.t 17)⟩])
 (.seq (.reg [⟨some 4, none, .mv (.c (.int .i64 0))⟩])
 (.seq (.seq (.reg [⟨some 5, none, .mv (.c (.int .i64 0))⟩])
 (.block 0
 (.loop
 (.seq (.seq (.reg [⟨some 18, none, .mv (.t 5)⟩,
  ⟨some 19, none, .mv (.t 3)⟩,
  ⟨some 20, none, .len false (.t 19)⟩,
  ⟨some 21, none, .bini .lss (.t 18) (.t 20)⟩])
 (.cond (.t 21)
 .skip
 (.exit 0)))
 (.seq (.block 1
 (.seq (.reg [⟨some 25, none, .mv (.t 3)⟩,
  ⟨some 26, none, .mv (.t 5)⟩,
  ⟨some 27, none, .call 21 [(.t 25), (.t 26)]⟩,
  ⟨some 24, none, .mv (.t 27)⟩,
  ⟨some 28, none, .ext (.t 24) 0⟩,
  ⟨some 29, none, .ext (.t 24) 1⟩,
  ⟨some 6, none, .mv (.t 28)⟩,
  ⟨some 7, none, .mv (.t 29)⟩])
 (.seq (.seq (.reg [⟨some 30, none, .mv (.t 7)⟩,
  ⟨some 31, none, .un .not (.t 30)⟩])
 (.cond (.t 31)
 (.exit 1)
 .skip))
 (.seq (.reg [⟨some 33, none, .mv (.t 3)⟩,
  ⟨some 34, none, .mv (.t 6)⟩,
  ⟨some 35, none, .call 22 [(.t 33), (.t 34)]⟩,
  ⟨some 32, none, .mv (.t 35)⟩,
  ⟨some 36, none, .ext (.t 32) 0⟩,
  ⟨some 37, none, .ext (.t 32) 1⟩,
  ⟨some 8, none, .alloc [.int .i64 0, .int .i64 0, .int .i64 0, .int .i64 0]⟩,
  ⟨none, none, .store 4 (.t 8) (.t 36)⟩,
  ⟨some 9, none, .mv (.t 37)⟩])
 (.seq (.seq (.reg [⟨some 38, none, .mv (.t 9)⟩,
  ⟨some 39, none, .bini .neq (.t 38) (.c (.int .i64 0))⟩,
  ⟨some 40, none, .mv (.t 39)⟩,
  ⟨some 41, (some (40, false)), .faddr 1 (.t 8)⟩,
  ⟨some 42, (some (40, false)), .load false 1 (.t 41)⟩,
  ⟨some 43, (some (40, false)), .bini .eql (.t 42) (.c (.int .i64 2))⟩,
  ⟨some 44, (some (40, false)), .mv (.t 43)⟩,
  ⟨some 45, (some (44, true)), .faddr 3 (.t 8)⟩,
  ⟨some 46, (some (44, true)), .load false 1 (.t 45)⟩,
  ⟨some 47, (some (44, true)), .bini .gtr (.t 46) (.c (.int .i64 0))⟩,
  ⟨some 48, (some (40, false)), .pick (.t 44) (.t 47) (.c (.bool false))⟩,
  ⟨some 49, none, .pick (.t 40) (.c (.bool true)) (.t 48)⟩])
 (.cond (.t 49)
 (.seq (.reg [⟨some 2, none, .mv (.c (.bool false))⟩])
 .ret)
 .skip))
 (.reg [⟨some 50, none, .mv (.t 4)⟩,
  ⟨some 51, none, .faddr 3 (.t 8)⟩,
  ⟨some 52, none, .load false 1 (.t 51)⟩,
  ⟨some 53, none, .bini .add (.t 50) (.t 52)⟩,
  ⟨some 4, none, .mv (.t 53)⟩]))))))
 (.reg [⟨some 22, none, .mv (.t 5)⟩,
  ⟨some 23, none, .bini .add (.t 22) (.c (.int .i64 1))⟩,
  ⟨some 5, none, .mv (.t 23)⟩]))))))
 (.seq (.reg [⟨some 54, none, .mv (.t 3)⟩,
  ⟨some 55, none, .call 14 [(.t 54)]⟩,
  ⟨some 56, none, .mv (.t 4)⟩,
  ⟨some 57, none, .bini .eql (.t 55) (.t 56)⟩,
  ⟨some 58, none, .mv (.t 57)⟩,
  ⟨some 59, (some (58, true)), .mv (.t 4)⟩,
  ⟨some 60, (some (58, true)), .bini .leq (.t 59) (.c (.int .i64 28))⟩,
  ⟨some 61, none, .pick (.t 58) (.t 60) (.c (.bool false))⟩,
  ⟨some 62, none, .mv (.t 61)⟩,
  ⟨some 63, (some (62, true)), .call 10 []⟩,
  ⟨some 64, (some (62, true)), .call 14 [(.t 63)]⟩,
  ⟨some 65, (some (62, true)), .bini .eql (.t 64) (.c (.int .i64 0))⟩,
  ⟨some 66, none, .pick (.t 62) (.t 65) (.c (.bool false))⟩,
  ⟨some 2, none, .mv (.t 66)⟩])
 .ret)))))))
theorem d5 : FnD Try.prog 5 1 66 [.tmp 2] c5 := ⟨Try.f5, _, Try.func5, by kernel_rfl, rfl, rfl, by kernel_rfl, by kernel_rfl⟩

/-- palimp/palimplaw18.SetsMay -/
def c6 : ACode :=
 (.seq (.reg [⟨some 2, none, .mv (.c (.bool false))⟩])
 (.seq (.seq (.reg [⟨some 9, none, .call 23 []⟩,
  ⟨some 10, none, .un .not (.t 9)⟩])
 (.cond (.t 10)
 (.seq (.reg [⟨some 2, none, .mv (.c (.bool false))⟩])
 .ret)
 .skip))
 (.seq (.seq (.reg [⟨some 11, none, .mv (.t 0)⟩,
  ⟨some 12, none, .len false (.t 11)⟩,
  ⟨some 13, none, .bini .gtr (.t 12) (.c (.int .i64 150))⟩])
 (.cond (.t 13)
 (.seq (.reg [⟨some 2, none, .mv (.c (.bool true))⟩])
 .ret)
 .skip))
 (.seq (.reg [⟨some 14, none, .mv (.t 0)⟩,
  ⟨some 15, none, .call 9 [(.t 14)]⟩,
  ⟨some 3, none, .mv (.t 15)⟩])
 (.seq (.reg [⟨some 16, none, .call 10 []⟩,
  ⟨some 17, none, .build [.int .i64 0, .int .i64 0, .int .i64 0, .int .i64 0, .emp] [(0, 1, (.c (.int .i64 1))), (1, 1, (.c (.int .i64 1))), (4, 1, (.t 16))]⟩,
  ⟨some 18, none, .bslice 5 1 [.int .i64 0, .int .i64 0, .int .i64 0, .int .i64 0, .emp] [(0, (.t 17))]⟩,
  ⟨some 4, none, .mv (.t 18)⟩])
 (.seq (.seq (.reg [⟨some 5, none, .mv (.c (.int .i64 0))⟩])
 (.block 0
 (.loop
 (.seq (.seq (.reg [⟨some 19, none, .mv (.t 5)⟩,
  ⟨some 20, none, .bini .lss (.t 19) (.c (.int .i64 40))⟩,
  ⟨some 21, none, .mv (.t 20)⟩,
  ⟨some 22, (some (21, true)), .mv (.t 3)⟩,
  ⟨some 23, (some (21, true)), .call 11 [(.t 22)]⟩,
  ⟨some 24, (some (21, true)), .un .not (.t 23)⟩,
  ⟨some 25, none, .pick (.t 21) (.t 24) (.c (.bool false))⟩])
 (.cond (.t 25)
 .skip
 (.exit 0)))
 (.seq (.block 1
 (.seq (.reg [⟨some 28, none, .mv (.t 3)⟩,
  ⟨some 29, none, .call 24 [(.t 28), (.c (.int .i64 12))]⟩,
  ⟨some 30, none, .bini .add (.c (.int .i64 1)) (.t 29)⟩,
  ⟨some 6, none, .mv (.t 30)⟩])
 (.seq (.reg [⟨some 7, none, .mv (.c (.emp))⟩])
 (.seq (.reg [⟨some 8, none, .mv (.c (.int .i64 0))⟩])
 (.seq (.seq (.reg [⟨some 31, none, .mv (.t 3)⟩,
  ⟨some 32, none, .call 24 [(.t 31), (.c (.int .i64 7))]⟩])
 (.block 2
 (.seq (.reg [⟨some 40, none, .bini .eql (.t 32) (.c (.int .i64 0))⟩,
  ⟨some 39, none, .mv (.t 40)⟩])
 (.cond (.t 39)
 (.reg [⟨some 42, none, .mv (.t 4)⟩,
  ⟨some 43, none, .mv (.t 5)⟩,
  ⟨some 44, none, .bini .add (.t 43) (.c (.int .i64 2))⟩,
  ⟨some 45, none, .mv (.t 3)⟩,
  ⟨some 46, none, .call 24 [(.t 45), (.c (.int .i64 300))]⟩,
  ⟨some 47, none, .bini .sub (.t 46) (.c (.int .i64 10))⟩,
  ⟨some 48, none, .call 25 [(.t 42), (.t 44), (.t 47)]⟩,
  ⟨some 41, none, .mv (.t 48)⟩,
  ⟨some 49, none, .ext (.t 41) 0⟩,
  ⟨some 50, none, .ext (.t 41) 1⟩,
  ⟨some 7, none, .mv (.t 49)⟩,
  ⟨some 8, none, .mv (.t 50)⟩])
 (.seq (.seq (.reg [⟨some 52, none, .bini .eql (.t 32) (.c (.int .i64 1))⟩,
  ⟨some 51, none, .mv (.t 52)⟩])
 (.cond (.t 51)
 .skip
 (.reg [⟨some 53, none, .bini .eql (.t 32) (.c (.int .i64 2))⟩,
  ⟨some 51, none, .mv (.t 53)⟩])))
 (.cond (.t 51)
 (.reg [⟨some 55, none, .mv (.t 4)⟩,
  ⟨some 56, none, .mv (.t 5)⟩,
  ⟨some 57, none, .bini .add (.t 56) (.c (.int .i64 2))⟩,
  ⟨some 58, none, .mv (.t 6)⟩,
  ⟨some 59, none, .call 26 [(.t 55), (.t 57), (.t 58)]⟩,
  ⟨some 54, none, .mv (.t 59)⟩,
  ⟨some 60, none, .ext (.t 54) 0⟩,
  ⟨some 61, none, .ext (.t 54) 1⟩,
  ⟨some 7, none, .mv (.t 60)⟩,
  ⟨some 8, none, .mv (.t 61)⟩])
 (.seq (.reg [⟨some 63, none, .bini .eql (.t 32) (.c (.int .i64 3))⟩,
  ⟨some 62, none, .mv (.t 63)⟩])
 (.cond (.t 62)
 (.reg [⟨some 65, none, .mv (.t 4)⟩,
  ⟨some 66, none, .mv (.t 5)⟩,
  ⟨some 67, none, .bini .add (.t 66) (.c (.int .i64 2))⟩,
  ⟨some 68, none, .mv (.t 6)⟩,
  ⟨some 69, none, .call 27 [(.t 65), (.t 67), (.t 68)]⟩,
  ⟨some 64, none, .mv (.t 69)⟩,
  ⟨some 70, none, .ext (.t 64) 0⟩,
  ⟨some 71, none, .ext (.t 64) 1⟩,
  ⟨some 7, none, .mv (.t 70)⟩,
  ⟨some 8, none, .mv (.t 71)⟩])
 (.seq (.reg [⟨some 73, none, .bini .eql (.t 32) (.c (.int .i64 4))⟩,
  ⟨some 72, none, .mv (.t 73)⟩])
 (.cond (.t 72)
 (.reg [⟨some 75, none, .mv (.t 4)⟩,
  ⟨some 76, none, .mv (.t 6)⟩,
  ⟨some 77, none, .call 28 [(.t 75), (.t 76)]⟩,
  ⟨some 74, none, .mv (.t 77)⟩,
  ⟨some 78, none, .ext (.t 74) 0⟩,
  ⟨some 79, none, .ext (.t 74) 1⟩,
  ⟨some 7, none, .mv (.t 78)⟩,
  ⟨some 8, none, .mv (.t 79)⟩])
 (.seq (.reg [⟨some 81, none, .bini .eql (.t 32) (.c (.int .i64 5))⟩,
  ⟨some 80, none, .mv (.t 81)⟩])
 (.cond (.t 80)
 (.reg [⟨some 83, none, .mv (.t 4)⟩,
  ⟨some 84, none, .mv (.t 6)⟩,
  ⟨some 85, none, .mv (.t 3)⟩,
  ⟨some 86, none, .call 24 [(.t 85), (.c (.int .i64 12))]⟩,
  ⟨some 87, none, .bini .add (.c (.int .i64 1)) (.t 86)⟩,
  ⟨some 88, none, .call 29 [(.t 83), (.t 84), (.t 87)]⟩,
  ⟨some 82, none, .mv (.t 88)⟩,
  ⟨some 89, none, .ext (.t 82) 0⟩,
  ⟨some 90, none, .ext (.t 82) 1⟩,
  ⟨some 7, none, .mv (.t 89)⟩,
  ⟨some 8, none, .mv (.t 90)⟩])
 (.reg [⟨some 34, none, .mv (.t 4)⟩,
  ⟨some 35, none, .mv (.t 6)⟩,
  ⟨some 36, none, .call 30 [(.t 34), (.t 35)]⟩,
  ⟨some 33, none, .mv (.t 36)⟩,
  ⟨some 37, none, .ext (.t 33) 0⟩,
  ⟨some 38, none, .ext (.t 33) 1⟩,
  ⟨some 7, none, .mv (.t 37)⟩,
  ⟨some 8, none, .mv (.t 38)⟩])))))))))))))
 (.seq (.seq (.reg [⟨some 91, none, .mv (.t 7)⟩,
  ⟨some 92, none, .call 31 [(.t 91)]⟩,
  ⟨some 93, none, .un .not (.t 92)⟩,
  ⟨some 94, none, .mv (.t 93)⟩,
  ⟨some 95, (some (94, false)), .mv (.t 8)⟩,
  ⟨some 96, (some (94, false)), .bini .neq (.t 95) (.c (.int .i64 0))⟩,
  ⟨some 97, (some (94, false)), .mv (.t 96)⟩,
  ⟨some 98, (some (97, true)), .mv (.t 7)⟩,
  ⟨some 99, (some (97, true)), .mv (.t 4)⟩,
  ⟨some 100, (some (97, true)), .call 32 [(.t 98), (.t 99)]⟩,
  ⟨some 101, (some (97, true)), .un .not (.t 100)⟩,
  ⟨some 102, (some (94, false)), .pick (.t 97) (.t 101) (.c (.bool false))⟩,
  ⟨some 103, none, .pick (.t 94) (.c (.bool true)) (.t 102)⟩])
 (.cond (.t 103)
 (.seq (.reg [⟨some 2, none, .mv (.c (.bool false))⟩])
 .ret)
 .skip))
 (.reg [⟨some 104, none, .mv (.t 7)⟩,
  ⟨some 4, none, .mv (.t 104)⟩])))))))
 (.reg [⟨some 26, none, .mv (.t 5)⟩,
  ⟨some 27, none, .bini .add (.t 26) (.c (.int .i64 1))⟩,
  ⟨some 5, none, .mv (.t 27)⟩]))))))
 (.seq (.reg [⟨some 2, none, .mv (.c (.bool true))⟩])
 .ret)))))))
theorem d6 : FnD Try.prog 6 1 104 [.tmp 2] c6 := ⟨Try.f6, _, Try.func6, by kernel_rfl, rfl, rfl, by kernel_rfl, by kernel_rfl⟩

/-- palimp/palimplaw18.SetsForms -/
def c7 : ACode :=
 (.seq (.reg [⟨some 0, none, .mv (.c (.bool false))⟩])
 (.seq (.seq (.reg [⟨some 45, none, .call 23 []⟩,
  ⟨some 46, none, .un .not (.t 45)⟩])
 (.cond (.t 46)
 (.seq (.reg [⟨some 0, none, .mv (.c (.bool false))⟩])
 .ret)
 .skip))
 (.seq (.reg [⟨some 48, none, .call 25 [(.c (.emp)), (.c (.int .i64 1)), (.c (.int .i64 0))]⟩,
  ⟨some 47, none, .mv (.t 48)⟩,
  ⟨some 49, none, .ext (.t 47) 0⟩,
  ⟨some 50, none, .ext (.t 47) 1⟩,
  ⟨some 1, none, .mv (.t 49)⟩,
  ⟨some 2, none, .mv (.t 50)⟩])
 (.seq (.reg [⟨some 52, none, .mv (.t 1)⟩,
  ⟨some 53, none, .call 26 [(.t 52), (.c (.int .i64 2)), (.c (.int .i64 1))]⟩,
  ⟨some 51, none, .mv (.t 53)⟩,
  ⟨some 54, none, .ext (.t 51) 0⟩,
  ⟨some 55, none, .ext (.t 51) 1⟩,
  ⟨some 1, none, .mv (.t 54)⟩])
 (.seq (.reg [⟨some 57, none, .mv (.t 1)⟩,
  ⟨some 58, none, .call 26 [(.t 57), (.c (.int .i64 3)), (.c (.int .i64 1))]⟩,
  ⟨some 56, none, .mv (.t 58)⟩,
  ⟨some 59, none, .ext (.t 56) 0⟩,
  ⟨some 60, none, .ext (.t 56) 1⟩,
  ⟨some 1, none, .mv (.t 59)⟩])
 (.seq (.reg [⟨some 62, none, .mv (.t 1)⟩,
  ⟨some 63, none, .call 27 [(.t 62), (.c (.int .i64 4)), (.c (.int .i64 3))]⟩,
  ⟨some 61, none, .mv (.t 63)⟩,
  ⟨some 64, none, .ext (.t 61) 0⟩,
  ⟨some 65, none, .ext (.t 61) 1⟩,
  ⟨some 1, none, .mv (.t 64)⟩])
 (.seq (.seq (.reg [⟨some 66, none, .mv (.t 1)⟩,
  ⟨some 67, none, .len false (.t 66)⟩,
  ⟨some 68, none, .bini .neq (.t 67) (.c (.int .i64 4))⟩])
 (.cond (.t 68)
 (.seq (.reg [⟨some 0, none, .mv (.c (.bool false))⟩])
 .ret)
 .skip))
 (.seq (.reg [⟨some 70, none, .mv (.t 1)⟩,
  ⟨some 71, none, .call 25 [(.t 70), (.c (.int .i64 4)), (.c (.int .i64 0))]⟩,
  ⟨some 69, none, .mv (.t 71)⟩,
  ⟨some 72, none, .ext (.t 69) 0⟩,
  ⟨some 73, none, .ext (.t 69) 1⟩,
  ⟨some 3, none, .mv (.t 72)⟩,
  ⟨some 4, none, .mv (.t 73)⟩])
 (.seq (.reg [⟨some 75, none, .mv (.t 1)⟩,
  ⟨some 76, none, .call 25 [(.t 75), (.c (.int .i64 65536)), (.c (.int .i64 0))]⟩,
  ⟨some 74, none, .mv (.t 76)⟩,
  ⟨some 77, none, .ext (.t 74) 0⟩,
  ⟨some 78, none, .ext (.t 74) 1⟩,
  ⟨some 5, none, .mv (.t 77)⟩,
  ⟨some 6, none, .mv (.t 78)⟩])
 (.seq (.reg [⟨some 80, none, .mv (.t 1)⟩,
  ⟨some 81, none, .call 25 [(.t 80), (.c (.int .i64 5)), (.c (.int .i64 256))]⟩,
  ⟨some 79, none, .mv (.t 81)⟩,
  ⟨some 82, none, .ext (.t 79) 0⟩,
  ⟨some 83, none, .ext (.t 79) 1⟩,
  ⟨some 7, none, .mv (.t 82)⟩,
  ⟨some 8, none, .mv (.t 83)⟩])
 (.seq (.reg [⟨some 85, none, .mv (.t 1)⟩,
  ⟨some 86, none, .call 26 [(.t 85), (.c (.int .i64 5)), (.c (.int .i64 2))]⟩,
  ⟨some 84, none, .mv (.t 86)⟩,
  ⟨some 87, none, .ext (.t 84) 0⟩,
  ⟨some 88, none, .ext (.t 84) 1⟩,
  ⟨some 9, none, .mv (.t 87)⟩,
  ⟨some 10, none, .mv (.t 88)⟩])
 (.seq (.reg [⟨some 90, none, .mv (.t 1)⟩,
  ⟨some 91, none, .call 26 [(.t 90), (.c (.int .i64 5)), (.c (.int .i64 9))]⟩,
  ⟨some 89, none, .mv (.t 91)⟩,
  ⟨some 92, none, .ext (.t 89) 0⟩,
  ⟨some 93, none, .ext (.t 89) 1⟩,
  ⟨some 11, none, .mv (.t 92)⟩,
  ⟨some 12, none, .mv (.t 93)⟩])
 (.seq (.reg [⟨some 95, none, .mv (.t 1)⟩,
  ⟨some 96, none, .call 27 [(.t 95), (.c (.int .i64 5)), (.c (.int .i64 1))]⟩,
  ⟨some 94, none, .mv (.t 96)⟩,
  ⟨some 97, none, .ext (.t 94) 0⟩,
  ⟨some 98, none, .ext (.t 94) 1⟩,
  ⟨some 13, none, .mv (.t 97)⟩,
  ⟨some 14, none, .mv (.t 98)⟩])
 (.seq (.reg [⟨some 100, none, .mv (.t 1)⟩,
  ⟨some 101, none, .call 28 [(.t 100), (.c (.int .i64 1))]⟩,
  ⟨some 99, none, .mv (.t 101)⟩,
  ⟨some 102, none, .ext (.t 99) 0⟩,
  ⟨some 103, none, .ext (.t 99) 1⟩,
  ⟨some 15, none, .mv (.t 102)⟩,
  ⟨some 16, none, .mv (.t 103)⟩])
 (.seq (.reg [⟨some 105, none, .mv (.t 1)⟩,
  ⟨some 106, none, .call 28 [(.t 105), (.c (.int .i64 2))]⟩,
  ⟨some 104, none, .mv (.t 106)⟩,
  ⟨some 107, none, .ext (.t 104) 0⟩,
  ⟨some 108, none, .ext (.t 104) 1⟩,
  ⟨some 17, none, .mv (.t 107)⟩,
  ⟨some 18, none, .mv (.t 108)⟩])
 (.seq (.reg [⟨some 110, none, .mv (.t 1)⟩,
  ⟨some 111, none, .call 29 [(.t 110), (.c (.int .i64 1)), (.c (.int .i64 2))]⟩,
  ⟨some 109, none, .mv (.t 111)⟩,
  ⟨some 112, none, .ext (.t 109) 0⟩,
  ⟨some 113, none, .ext (.t 109) 1⟩,
  ⟨some 19, none, .mv (.t 112)⟩,
  ⟨some 20, none, .mv (.t 113)⟩])
 (.seq (.reg [⟨some 115, none, .mv (.t 1)⟩,
  ⟨some 116, none, .call 29 [(.t 115), (.c (.int .i64 1)), (.c (.int .i64 3))]⟩,
  ⟨some 114, none, .mv (.t 116)⟩,
  ⟨some 117, none, .ext (.t 114) 0⟩,
  ⟨some 118, none, .ext (.t 114) 1⟩,
  ⟨some 21, none, .mv (.t 117)⟩,
  ⟨some 22, none, .mv (.t 118)⟩])
 (.seq (.reg [⟨some 120, none, .mv (.t 1)⟩,
  ⟨some 121, none, .call 29 [(.t 120), (.c (.int .i64 4)), (.c (.int .i64 3))]⟩,
  ⟨some 119, none, .mv (.t 121)⟩,
  ⟨some 122, none, .ext (.t 119) 0⟩,
  ⟨some 123, none, .ext (.t 119) 1⟩,
  ⟨some 23, none, .mv (.t 122)⟩,
  ⟨some 24, none, .mv (.t 123)⟩])
 (.seq (.reg [⟨some 125, none, .mv (.t 1)⟩,
  ⟨some 126, none, .call 29 [(.t 125), (.c (.int .i64 1)), (.c (.int .i64 9))]⟩,
  ⟨some 124, none, .mv (.t 126)⟩,
  ⟨some 127, none, .ext (.t 124) 0⟩,
  ⟨some 128, none, .ext (.t 124) 1⟩,
  ⟨some 25, none, .mv (.t 127)⟩,
  ⟨some 26, none, .mv (.t 128)⟩])
 (.seq (.reg [⟨some 130, none, .mv (.t 1)⟩,
  ⟨some 131, none, .call 30 [(.t 130), (.c (.int .i64 1))]⟩,
  ⟨some 129, none, .mv (.t 131)⟩,
  ⟨some 132, none, .ext (.t 129) 0⟩,
  ⟨some 133, none, .ext (.t 129) 1⟩,
  ⟨some 27, none, .mv (.t 132)⟩,
  ⟨some 28, none, .mv (.t 133)⟩])
 (.seq (.reg [⟨some 135, none, .mv (.t 1)⟩,
  ⟨some 136, none, .call 30 [(.t 135), (.c (.int .i64 3))]⟩,
  ⟨some 134, none, .mv (.t 136)⟩,
  ⟨some 137, none, .ext (.t 134) 0⟩,
  ⟨some 138, none, .ext (.t 134) 1⟩,
  ⟨some 29, none, .mv (.t 137)⟩,
  ⟨some 30, none, .mv (.t 138)⟩])
 (.seq (.reg [⟨some 140, none, .mv (.t 1)⟩,
  ⟨some 141, none, .call 30 [(.t 140), (.c (.int .i64 4))]⟩,
  ⟨some 139, none, .mv (.t 141)⟩,
  ⟨some 142, none, .ext (.t 139) 0⟩,
  ⟨some 143, none, .ext (.t 139) 1⟩,
  ⟨some 31, none, .mv (.t 142)⟩,
  ⟨some 32, none, .mv (.t 143)⟩])
 (.seq (.reg [⟨some 145, none, .mv (.t 1)⟩,
  ⟨some 146, none, .call 30 [(.t 145), (.c (.int .i64 2))]⟩,
  ⟨some 144, none, .mv (.t 146)⟩,
  ⟨some 147, none, .ext (.t 144) 0⟩,
  ⟨some 148, none, .ext (.t 144) 1⟩,
  ⟨some 33, none, .mv (.t 147)⟩,
  ⟨some 34, none, .mv (.t 148)⟩])
 (.seq (.reg [⟨some 150, none, .mv (.t 1)⟩,
  ⟨some 151, none, .call 28 [(.t 150), (.c (.int .i64 4))]⟩,
  ⟨some 149, none, .mv (.t 151)⟩,
  ⟨some 152, none, .ext (.t 149) 0⟩,
  ⟨some 153, none, .ext (.t 149) 1⟩,
  ⟨some 35, none, .mv (.t 152)⟩,
  ⟨some 36, none, .mv (.t 153)⟩])
 (.seq (.reg [⟨some 155, none, .call 25 [(.c (.emp)), (.c (.int .i64 1)), (.c (.int .i64 0))]⟩,
  ⟨some 154, none, .mv (.t 155)⟩,
  ⟨some 156, none, .ext (.t 154) 0⟩,
  ⟨some 157, none, .ext (.t 154) 1⟩,
  ⟨some 37, none, .mv (.t 156)⟩,
  ⟨some 38, none, .mv (.t 157)⟩])
 (.seq (.reg [⟨some 159, none, .mv (.t 37)⟩,
  ⟨some 160, none, .call 30 [(.t 159), (.c (.int .i64 1))]⟩,
  ⟨some 158, none, .mv (.t 160)⟩,
  ⟨some 161, none, .ext (.t 158) 0⟩,
  ⟨some 162, none, .ext (.t 158) 1⟩,
  ⟨some 39, none, .mv (.t 161)⟩,
  ⟨some 40, none, .mv (.t 162)⟩])
 (.seq (.reg [⟨some 164, none, .mv (.t 37)⟩,
  ⟨some 165, none, .call 30 [(.t 164), (.c (.int .i64 2))]⟩,
  ⟨some 163, none, .mv (.t 165)⟩,
  ⟨some 166, none, .ext (.t 163) 0⟩,
  ⟨some 167, none, .ext (.t 163) 1⟩,
  ⟨some 41, none, .mv (.t 166)⟩,
  ⟨some 42, none, .mv (.t 167)⟩])
 (.seq (.reg [⟨some 169, none, .call 25 [(.c (.emp)), (.c (.int .i64 0)), (.c (.int .i64 0))]⟩,
  ⟨some 168, none, .mv (.t 169)⟩,
  ⟨some 170, none, .ext (.t 168) 0⟩,
  ⟨some 171, none, .ext (.t 168) 1⟩,
  ⟨some 43, none, .mv (.t 170)⟩,
  ⟨some 44, none, .mv (.t 171)⟩])
 (.seq (.seq (.reg [⟨some 172, none, .mv (.t 35)⟩,
  ⟨some 173, none, .len false (.t 172)⟩,
  ⟨some 174, none, .bini .neq (.t 173) (.c (.int .i64 4))⟩])
 (.cond (.t 174)
 (.seq (.reg [⟨some 0, none, .mv (.c (.bool false))⟩])
 .ret)
 .skip))
 (.seq (.reg [⟨some 175, none, .mv (.t 4)⟩,
  ⟨some 176, none, .bini .eql (.t 175) (.c (.int .i64 8))⟩,
  ⟨some 177, none, .mv (.t 176)⟩,
  ⟨some 178, (some (177, true)), .mv (.t 6)⟩,
  ⟨some 179, (some (177, true)), .bini .eql (.t 178) (.c (.int .i64 8))⟩,
  ⟨some 180, none, .pick (.t 177) (.t 179) (.c (.bool false))⟩,
  ⟨some 181, none, .mv (.t 180)⟩,
  ⟨some 182, (some (181, true)), .mv (.t 8)⟩,
  ⟨some 183, (some (181, true)), .bini .eql (.t 182) (.c (.int .i64 1))⟩,
  ⟨some 184, none, .pick (.t 181) (.t 183) (.c (.bool false))⟩,
  ⟨some 185, none, .mv (.t 184)⟩,
  ⟨some 186, (some (185, true)), .mv (.t 10)⟩,
  ⟨some 187, (some (185, true)), .bini .eql (.t 186) (.c (.int .i64 11))⟩,
  ⟨some 188, none, .pick (.t 185) (.t 187) (.c (.bool false))⟩,
  ⟨some 189, none, .mv (.t 188)⟩,
  ⟨some 190, (some (189, true)), .mv (.t 12)⟩,
  ⟨some 191, (some (189, true)), .bini .eql (.t 190) (.c (.int .i64 2))⟩,
  ⟨some 192, none, .pick (.t 189) (.t 191) (.c (.bool false))⟩,
  ⟨some 193, none, .mv (.t 192)⟩,
  ⟨some 194, (some (193, true)), .mv (.t 14)⟩,
  ⟨some 195, (some (193, true)), .bini .eql (.t 194) (.c (.int .i64 1))⟩,
  ⟨some 196, none, .pick (.t 193) (.t 195) (.c (.bool false))⟩,
  ⟨some 197, none, .mv (.t 196)⟩,
  ⟨some 198, (some (197, true)), .mv (.t 16)⟩,
  ⟨some 199, (some (197, true)), .bini .eql (.t 198) (.c (.int .i64 1))⟩,
  ⟨some 200, none, .pick (.t 197) (.t 199) (.c (.bool false))⟩,
  ⟨some 201, none, .mv (.t 200)⟩,
  ⟨some 202, (some (201, true)), .mv (.t 18)⟩,
  ⟨some 203, (some (201, true)), .bini .eql (.t 202) (.c (.int .i64 1))⟩,
  ⟨some 204, none, .pick (.t 201) (.t 203) (.c (.bool false))⟩,
  ⟨some 205, none, .mv (.t 204)⟩,
  ⟨some 206, (some (205, true)), .mv (.t 20)⟩,
  ⟨some 207, (some (205, true)), .bini .eql (.t 206) (.c (.int .i64 10))⟩,
  ⟨some 208, none, .pick (.t 205) (.t 207) (.c (.bool false))⟩,
  ⟨some 209, none, .mv (.t 208)⟩,
  ⟨some 210, (some (209, true)), .mv (.t 22)⟩,
  ⟨some 211, (some (209, true)), .bini .eql (.t 210) (.c (.int .i64 0))⟩,
  ⟨some 212, none, .pick (.t 209) (.t 211) (.c (.bool false))⟩,
  ⟨some 213, none, .mv (.t 212)⟩,
  ⟨some 214, (some (213, true)), .mv (.t 24)⟩,
  ⟨some 215, (some (213, true)), .bini .eql (.t 214) (.c (.int .i64 1))⟩,
  ⟨some 216, none, .pick (.t 213) (.t 215) (.c (.bool false))⟩,
  ⟨some 217, none, .mv (.t 216)⟩,
  ⟨some 218, (some (217, true)), .mv (.t 26)⟩,
  ⟨some 219, (some (217, true)), .bini .eql (.t 218) (.c (.int .i64 2))⟩,
  ⟨some 220, none, .pick (.t 217) (.t 219) (.c (.bool false))⟩,
  ⟨some 221, none, .mv (.t 220)⟩,
  ⟨some 222, (some (221, true)), .mv (.t 28)⟩,
  ⟨some 223, (some (221, true)), .bini .eql (.t 222) (.c (.int .i64 10))⟩,
  ⟨some 224, none, .pick (.t 221) (.t 223) (.c (.bool false))⟩,
  ⟨some 225, none, .mv (.t 224)⟩,
  ⟨some 226, (some (225, true)), .mv (.t 30)⟩,
  ⟨some 227, (some (225, true)), .bini .eql (.t 226) (.c (.int .i64 10))⟩,
  ⟨some 228, none, .pick (.t 225) (.t 227) (.c (.bool false))⟩,
  ⟨some 229, none, .mv (.t 228)⟩,
  ⟨some 230, (some (229, true)), .mv (.t 32)⟩,
  ⟨some 231, (some (229, true)), .bini .eql (.t 230) (.c (.int .i64 0))⟩,
  ⟨some 232, none, .pick (.t 229) (.t 231) (.c (.bool false))⟩,
  ⟨some 233, none, .mv (.t 232)⟩,
  ⟨some 234, (some (233, true)), .mv (.t 31)⟩,
  ⟨some 235, (some (233, true)), .len false (.t 234)⟩,
  ⟨some 236, (some (233, true)), .bini .eql (.t 235) (.c (.int .i64 3))⟩,
  ⟨some 237, none, .pick (.t 233) (.t 236) (.c (.bool false))⟩,
  ⟨some 238, none, .mv (.t 237)⟩,
  ⟨some 239, (some (238, true)), .mv (.t 34)⟩,
  ⟨some 240, (some (238, true)), .bini .eql (.t 239) (.c (.int .i64 0))⟩,
  ⟨some 241, none, .pick (.t 238) (.t 240) (.c (.bool false))⟩,
  ⟨some 242, none, .mv (.t 241)⟩,
  ⟨some 243, (some (242, true)), .mv (.t 33)⟩,
  ⟨some 244, (some (242, true)), .len false (.t 243)⟩,
  ⟨some 245, (some (242, true)), .bini .eql (.t 244) (.c (.int .i64 3))⟩,
  ⟨some 246, none, .pick (.t 242) (.t 245) (.c (.bool false))⟩,
  ⟨some 247, none, .mv (.t 246)⟩,
  ⟨some 248, (some (247, true)), .mv (.t 36)⟩,
  ⟨some 249, (some (247, true)), .bini .eql (.t 248) (.c (.int .i64 0))⟩,
  ⟨some 250, none, .pick (.t 247) (.t 249) (.c (.bool false))⟩,
  ⟨some 251, none, .mv (.t 250)⟩,
  ⟨some 252, (some (251, true)), .mv (.t 35)⟩,
  ⟨some 253, (some (251, true)), .iaddr 5 (.t 252) (.c (.int .i64 0))⟩,
  ⟨some 254, (some (251, true)), .faddr 2 (.t 253)⟩,
  ⟨some 255, (some (251, true)), .load false 1 (.t 254)⟩,
  ⟨some 256, (some (251, true)), .bini .eql (.t 255) (.c (.int .i64 3))⟩,
  ⟨some 257, none, .pick (.t 251) (.t 256) (.c (.bool false))⟩,
  ⟨some 258, none, .mv (.t 257)⟩,
  ⟨some 259, (some (258, true)), .mv (.t 35)⟩,
  ⟨some 260, (some (258, true)), .iaddr 5 (.t 259) (.c (.int .i64 1))⟩,
  ⟨some 261, (some (258, true)), .faddr 2 (.t 260)⟩,
  ⟨some 262, (some (258, true)), .load false 1 (.t 261)⟩,
  ⟨some 263, (some (258, true)), .bini .eql (.t 262) (.c (.int .i64 4))⟩,
  ⟨some 264, none, .pick (.t 258) (.t 263) (.c (.bool false))⟩,
  ⟨some 265, none, .mv (.t 264)⟩,
  ⟨some 266, (some (265, true)), .mv (.t 35)⟩,
  ⟨some 267, (some (265, true)), .iaddr 5 (.t 266) (.c (.int .i64 2))⟩,
  ⟨some 268, (some (265, true)), .faddr 2 (.t 267)⟩,
  ⟨some 269, (some (265, true)), .load false 1 (.t 268)⟩,
  ⟨some 270, (some (265, true)), .bini .eql (.t 269) (.c (.int .i64 4))⟩,
  ⟨some 271, none, .pick (.t 265) (.t 270) (.c (.bool false))⟩,
  ⟨some 272, none, .mv (.t 271)⟩,
  ⟨some 273, (some (272, true)), .mv (.t 35)⟩,
  ⟨some 274, (some (272, true)), .iaddr 5 (.t 273) (.c (.int .i64 3))⟩,
  ⟨some 275, (some (272, true)), .faddr 2 (.t 274)⟩,
  ⟨some 276, (some (272, true)), .load false 1 (.t 275)⟩,
  ⟨some 277, (some (272, true)), .bini .eql (.t 276) (.c (.int .i64 0))⟩,
  ⟨some 278, none, .pick (.t 272) (.t 277) (.c (.bool false))⟩,
  ⟨some 279, none, .mv (.t 278)⟩,
  ⟨some 280, (some (279, true)), .mv (.t 40)⟩,
  ⟨some 281, (some (279, true)), .bini .eql (.t 280) (.c (.int .i64 10))⟩,
  ⟨some 282, none, .pick (.t 279) (.t 281) (.c (.bool false))⟩,
  ⟨some 283, none, .mv (.t 282)⟩,
  ⟨some 284, (some (283, true)), .mv (.t 42)⟩,
  ⟨some 285, (some (283, true)), .bini .eql (.t 284) (.c (.int .i64 2))⟩,
  ⟨some 286, none, .pick (.t 283) (.t 285) (.c (.bool false))⟩,
  ⟨some 287, none, .mv (.t 286)⟩,
  ⟨some 288, (some (287, true)), .mv (.t 44)⟩,
  ⟨some 289, (some (287, true)), .bini .eql (.t 288) (.c (.int .i64 8))⟩,
  ⟨some 290, none, .pick (.t 287) (.t 289) (.c (.bool false))⟩,
  ⟨some 0, none, .mv (.t 290)⟩])
 .ret))))))))))))))))))))))))))))))
theorem d7 : FnD Try.prog 7 0 291 [.tmp 0] c7 := ⟨Try.f7, _, Try.func7, by kernel_rfl, rfl, rfl, by kernel_rfl, by kernel_rfl⟩

/-- palimp/palimplaw19.begun -/
def c8 : ACode :=
 (.seq (.reg [⟨some 0, none, .mv (.c (.bool false))⟩])
 (.seq (.reg [⟨some 11, none, .call 10 []⟩,
  ⟨some 12, none, .call 17 [(.t 11), (.c (.str [97])), (.c (.int .i64 1))]⟩,
  ⟨some 10, none, .mv (.t 12)⟩,
  ⟨some 13, none, .ext (.t 10) 0⟩,
  ⟨some 14, none, .ext (.t 10) 1⟩,
  ⟨some 1, none, .mv (.t 13)⟩,
  ⟨some 2, none, .mv (.t 14)⟩])
 (.seq (.reg [⟨some 16, none, .mv (.t 1)⟩,
  ⟨some 17, none, .call 18 [(.t 16), (.c (.str [97])), (.c (.int .i64 0)), (.c (.str [120]))]⟩,
  ⟨some 15, none, .mv (.t 17)⟩,
  ⟨some 18, none, .ext (.t 15) 0⟩,
  ⟨some 19, none, .ext (.t 15) 1⟩,
  ⟨some 1, none, .mv (.t 18)⟩])
 (.seq (.reg [⟨some 20, none, .call 10 []⟩,
  ⟨some 21, none, .build [.int .i64 0, .int .i64 0, .int .i64 0, .int .i64 0, .emp] [(0, 1, (.c (.int .i64 1))), (1, 1, (.c (.int .i64 1))), (3, 1, (.c (.int .i64 1))), (4, 1, (.t 20))]⟩,
  ⟨some 22, none, .bslice 5 1 [.int .i64 0, .int .i64 0, .int .i64 0, .int .i64 0, .emp] [(0, (.t 21))]⟩,
  ⟨some 3, none, .mv (.t 22)⟩])
 (.seq (.reg [⟨some 24, none, .mv (.t 3)⟩,
  ⟨some 25, none, .mv (.t 1)⟩,
  ⟨some 26, none, .call 15 [(.t 24), (.c (.int .i64 1)), (.t 25)]⟩,
  ⟨some 23, none, .mv (.t 26)⟩,
  ⟨some 27, none, .ext (.t 23) 0⟩,
  ⟨some 28, none, .ext (.t 23) 1⟩,
  ⟨some 4, none, .mv (.t 27)⟩,
  ⟨some 5, none, .mv (.t 28)⟩])
 (.seq (.reg [⟨some 30, none, .mv (.t 1)⟩,
  ⟨some 31, none, .call 18 [(.t 30), (.c (.str [97])), (.c (.int .i64 40)), (.c (.str [120]))]⟩,
  ⟨some 29, none, .mv (.t 31)⟩,
  ⟨some 32, none, .ext (.t 29) 0⟩,
  ⟨some 33, none, .ext (.t 29) 1⟩,
  ⟨some 6, none, .mv (.t 32)⟩,
  ⟨some 7, none, .mv (.t 33)⟩])
 (.seq (.reg [⟨some 35, none, .mv (.t 4)⟩,
  ⟨some 36, none, .mv (.t 6)⟩,
  ⟨some 37, none, .call 15 [(.t 35), (.c (.int .i64 1)), (.t 36)]⟩,
  ⟨some 34, none, .mv (.t 37)⟩,
  ⟨some 38, none, .ext (.t 34) 0⟩,
  ⟨some 39, none, .ext (.t 34) 1⟩,
  ⟨some 8, none, .mv (.t 38)⟩,
  ⟨some 9, none, .mv (.t 39)⟩])
 (.seq (.reg [⟨some 40, none, .mv (.t 1)⟩,
  ⟨some 41, none, .call 14 [(.t 40)]⟩,
  ⟨some 42, none, .bini .eql (.t 41) (.c (.int .i64 1))⟩,
  ⟨some 43, none, .mv (.t 42)⟩,
  ⟨some 44, (some (43, true)), .mv (.t 5)⟩,
  ⟨some 45, (some (43, true)), .bini .eql (.t 44) (.c (.int .i64 0))⟩,
  ⟨some 46, none, .pick (.t 43) (.t 45) (.c (.bool false))⟩,
  ⟨some 47, none, .mv (.t 46)⟩,
  ⟨some 48, (some (47, true)), .mv (.t 4)⟩,
  ⟨some 49, (some (47, true)), .len false (.t 48)⟩,
  ⟨some 50, (some (47, true)), .bini .eql (.t 49) (.c (.int .i64 1))⟩,
  ⟨some 51, none, .pick (.t 47) (.t 50) (.c (.bool false))⟩,
  ⟨some 52, none, .mv (.t 51)⟩,
  ⟨some 53, (some (52, true)), .mv (.t 4)⟩,
  ⟨some 54, (some (52, true)), .iaddr 5 (.t 53) (.c (.int .i64 0))⟩,
  ⟨some 55, (some (52, true)), .faddr 4 (.t 54)⟩,
  ⟨some 56, (some (52, true)), .load false 1 (.t 55)⟩,
  ⟨some 57, (some (52, true)), .mv (.t 1)⟩,
  ⟨some 58, (some (52, true)), .call 33 [(.t 56), (.t 57)]⟩,
  ⟨some 59, none, .pick (.t 52) (.t 58) (.c (.bool false))⟩,
  ⟨some 60, none, .mv (.t 59)⟩,
  ⟨some 61, (some (60, true)), .mv (.t 9)⟩,
  ⟨some 62, (some (60, true)), .bini .eql (.t 61) (.c (.int .i64 9))⟩,
  ⟨some 63, none, .pick (.t 60) (.t 62) (.c (.bool false))⟩,
  ⟨some 64, none, .mv (.t 63)⟩,
  ⟨some 65, (some (64, true)), .mv (.t 3)⟩,
  ⟨some 66, (some (64, true)), .call 19 [(.t 65)]⟩,
  ⟨some 67, (some (64, true)), .bini .eql (.t 66) (.c (.int .i64 5))⟩,
  ⟨some 68, none, .pick (.t 64) (.t 67) (.c (.bool false))⟩,
  ⟨some 69, none, .mv (.t 68)⟩,
  ⟨some 70, (some (69, true)), .mv (.t 4)⟩,
  ⟨some 71, (some (69, true)), .call 19 [(.t 70)]⟩,
  ⟨some 72, (some (69, true)), .bini .eql (.t 71) (.c (.int .i64 7))⟩,
  ⟨some 73, none, .pick (.t 69) (.t 72) (.c (.bool false))⟩,
  ⟨some 0, none, .mv (.t 73)⟩])
 .ret))))))))
theorem d8 : FnD Try.prog 8 0 74 [.tmp 0] c8 := ⟨Try.f8, _, Try.func8, by kernel_rfl, rfl, rfl, by kernel_rfl, by kernel_rfl⟩

/-- palimp/palimpmade.Made -/
def c9 : ACode :=
 (.seq (.reg [⟨some 2, none, .mv (.c (.nilp))⟩])
 (.seq (.reg [⟨some 3, none, .mv (.t 0)⟩,
  ⟨some 4, none, .build [.emp, .int .i64 0] [(0, 1, (.t 3))]⟩,
  ⟨some 5, none, .box (.t 4)⟩,
  ⟨some 2, none, .mv (.t 5)⟩])
 .ret))
theorem d9 : FnD Try.prog 9 1 5 [.tmp 2] c9 := ⟨Try.f9, _, Try.func9, by kernel_rfl, rfl, rfl, by kernel_rfl, by kernel_rfl⟩

/-- palimp/palimpref11.New -/
def c10 : ACode :=
 (.seq (.reg [⟨some 0, none, .mv (.c (.emp))⟩])
 (.seq (.reg [⟨some 2, none, .mksl 5 56 [.int .i64 0, .int .i64 0, .str [], .str [], .int .i64 0] (.c (.int .i64 8)) (.c (.int .i64 8))⟩,
  ⟨some 1, none, .mv (.t 2)⟩])
 (.seq (.reg [⟨some 3, none, .mv (.t 1)⟩,
  ⟨some 4, none, .iaddr 5 (.t 3) (.c (.int .i64 0))⟩,
  ⟨some 5, none, .faddr 0 (.t 4)⟩,
  ⟨none, none, .store 1 (.t 5) (.c (.int .i64 2))⟩])
 (.seq (.reg [⟨some 6, none, .mv (.t 1)⟩,
  ⟨some 0, none, .mv (.t 6)⟩])
 .ret))))
theorem d10 : FnD Try.prog 10 0 7 [.tmp 0] c10 := ⟨Try.f10, _, Try.func10, by kernel_rfl, rfl, rfl, by kernel_rfl, by kernel_rfl⟩

/-- (*palimp/palimpmade.Picks).Over -/
def c11 : ACode :=
 (.seq (.reg [⟨some 2, none, .mv (.c (.bool false))⟩])
 (.seq (.dreg [⟨some 3, none, .mv (.t 0)⟩,
  ⟨some 4, none, .nilchk (.t 3)⟩,
  ⟨some 5, none, .faddr 1 (.t 4)⟩,
  ⟨some 6, none, .load false 1 (.t 5)⟩,
  ⟨some 7, none, .mv (.t 0)⟩,
  ⟨some 8, none, .nilchk (.t 7)⟩,
  ⟨some 9, none, .faddr 0 (.t 8)⟩,
  ⟨some 10, none, .load false 1 (.t 9)⟩,
  ⟨some 11, none, .len false (.t 10)⟩,
  ⟨some 12, none, .bini .geq (.t 6) (.t 11)⟩,
  ⟨some 2, none, .mv (.t 12)⟩])
 .ret))
theorem d11 : FnD Try.prog 11 1 12 [.tmp 2] c11 := ⟨Try.f11, _, Try.func11, by kernel_rfl, rfl, rfl, by kernel_rfl, by kernel_rfl⟩

/-- palimp/palimpmade.Done -/
def c12 : ACode :=
 (.seq (.reg [⟨some 3, none, .box (.t 1)⟩,
  ⟨some 4, none, .mv (.c (.emp))⟩,
  ⟨some 5, none, .mv (.c (.int .i64 0))⟩])
 (.seq (.seq (.reg [⟨some 6, none, .faddr 0 (.t 3)⟩,
  ⟨some 7, none, .load false 1 (.t 6)⟩])
 (.block 0
 (.seq (.reg [⟨some 9, none, .bini .eql (.t 7) (.c (.int .i64 1))⟩,
  ⟨some 8, none, .mv (.t 9)⟩])
 (.cond (.t 8)
 (.seq (.reg [⟨some 10, none, .mv (.t 0)⟩,
  ⟨some 11, none, .faddr 5 (.t 3)⟩,
  ⟨some 12, none, .load false 1 (.t 11)⟩,
  ⟨some 13, none, .faddr 2 (.t 3)⟩,
  ⟨some 14, none, .load false 1 (.t 13)⟩,
  ⟨some 15, none, .call 17 [(.t 10), (.t 12), (.t 14)]⟩,
  ⟨some 16, none, .ext (.t 15) 0⟩,
  ⟨some 17, none, .ext (.t 15) 1⟩,
  ⟨some 4, none, .mv (.t 16)⟩,
  ⟨some 5, none, .mv (.t 17)⟩])
 .ret)
 (.seq (.reg [⟨some 19, none, .bini .eql (.t 7) (.c (.int .i64 2))⟩,
  ⟨some 18, none, .mv (.t 19)⟩])
 (.cond (.t 18)
 (.seq (.reg [⟨some 20, none, .mv (.t 0)⟩,
  ⟨some 21, none, .faddr 5 (.t 3)⟩,
  ⟨some 22, none, .load false 1 (.t 21)⟩,
  ⟨some 23, none, .call 34 [(.t 20), (.t 22)]⟩,
  ⟨some 24, none, .ext (.t 23) 0⟩,
  ⟨some 25, none, .ext (.t 23) 1⟩,
  ⟨some 4, none, .mv (.t 24)⟩,
  ⟨some 5, none, .mv (.t 25)⟩])
 .ret)
 (.seq (.reg [⟨some 27, none, .bini .eql (.t 7) (.c (.int .i64 3))⟩,
  ⟨some 26, none, .mv (.t 27)⟩])
 (.cond (.t 26)
 (.seq (.reg [⟨some 28, none, .mv (.t 0)⟩,
  ⟨some 29, none, .faddr 5 (.t 3)⟩,
  ⟨some 30, none, .load false 1 (.t 29)⟩,
  ⟨some 31, none, .faddr 6 (.t 3)⟩,
  ⟨some 32, none, .load false 1 (.t 31)⟩,
  ⟨some 33, none, .call 35 [(.t 28), (.t 30), (.t 32)]⟩,
  ⟨some 34, none, .ext (.t 33) 0⟩,
  ⟨some 35, none, .ext (.t 33) 1⟩,
  ⟨some 4, none, .mv (.t 34)⟩,
  ⟨some 5, none, .mv (.t 35)⟩])
 .ret)
 (.seq (.reg [⟨some 37, none, .bini .eql (.t 7) (.c (.int .i64 4))⟩,
  ⟨some 36, none, .mv (.t 37)⟩])
 (.cond (.t 36)
 (.seq (.reg [⟨some 38, none, .mv (.t 0)⟩,
  ⟨some 39, none, .faddr 5 (.t 3)⟩,
  ⟨some 40, none, .load false 1 (.t 39)⟩,
  ⟨some 41, none, .faddr 2 (.t 3)⟩,
  ⟨some 42, none, .load false 1 (.t 41)⟩,
  ⟨some 43, none, .faddr 7 (.t 3)⟩,
  ⟨some 44, none, .load false 1 (.t 43)⟩,
  ⟨some 45, none, .call 18 [(.t 38), (.t 40), (.t 42), (.t 44)]⟩,
  ⟨some 46, none, .ext (.t 45) 0⟩,
  ⟨some 47, none, .ext (.t 45) 1⟩,
  ⟨some 4, none, .mv (.t 46)⟩,
  ⟨some 5, none, .mv (.t 47)⟩])
 .ret)
 .skip))))))))))
 (.seq (.reg [⟨some 48, none, .mv (.t 0)⟩,
  ⟨some 49, none, .faddr 5 (.t 3)⟩,
  ⟨some 50, none, .load false 1 (.t 49)⟩,
  ⟨some 51, none, .faddr 2 (.t 3)⟩,
  ⟨some 52, none, .load false 1 (.t 51)⟩,
  ⟨some 53, none, .call 36 [(.t 48), (.t 50), (.t 52)]⟩,
  ⟨some 54, none, .ext (.t 53) 0⟩,
  ⟨some 55, none, .ext (.t 53) 1⟩,
  ⟨some 4, none, .mv (.t 54)⟩,
  ⟨some 5, none, .mv (.t 55)⟩])
 .ret)))
theorem d12 : FnD Try.prog 12 2 54 [.tmp 4, .tmp 5] c12 := ⟨Try.f12, _, Try.func12, by kernel_rfl, rfl, rfl, by kernel_rfl, by kernel_rfl⟩

/-- (*palimp/palimpmade.Picks).Edit -/
def c13 : ACode :=
 (.seq (.reg [⟨some 4, none, .alloc [.int .i64 0, .int .i64 0, .int .i64 0, .int .i64 0, .int .i64 0, .str [], .str [], .str [], .emp]⟩])
 (.seq (.dregE [[(0, ⟨some 6, none, .bslice 1 12 [.int .i64 0] [(0, (.c (.int .i64 1))), (1, (.c (.int .i64 1))), (2, (.c (.int .i64 1))), (3, (.c (.int .i64 2))), (4, (.c (.int .i64 3))), (5, (.c (.int .i64 3))), (6, (.c (.int .i64 4))), (7, (.c (.int .i64 4))), (8, (.c (.int .i64 4))), (9, (.c (.int .i64 5))), (10, (.c (.int .i64 1))), (11, (.c (.int .i64 4)))]⟩),
  (1, ⟨some 7, none, .mv (.t 0)⟩),
  (5, ⟨some 11, none, .mv (.t 1)⟩),
  (6, ⟨some 12, none, .mv (.t 0)⟩),
  (9, ⟨some 5, none, .alloc [.int .i64 0, .int .i64 0, .int .i64 0, .int .i64 0, .int .i64 0, .str [], .str [], .str [], .emp]⟩),
  (2, ⟨some 8, none, .call 24 [(.t 7), (.c (.int .i64 12))]⟩),
  (3, ⟨some 9, none, .iaddr 1 (.t 6) (.t 8)⟩),
  (4, ⟨some 10, none, .load false 1 (.t 9)⟩),
  (7, ⟨some 13, none, .call 37 [(.t 12)]⟩),
  (8, ⟨some 14, none, .build [.int .i64 0, .int .i64 0, .int .i64 0, .int .i64 0, .int .i64 0, .str [], .str [], .str [], .emp] [(0, 1, (.t 10)), (1, 1, (.t 11)), (5, 1, (.t 13))]⟩)],
  [(10, ⟨none, none, .store 9 (.t 5) (.t 14)⟩)]]
  [[], [], [1], [0, 1, 2], [0, 1, 2, 3], [], [], [1, 2, 6], [0, 1, 2, 3, 4, 5, 6, 7], [], [0, 1, 2, 3, 4, 5, 6, 7, 8, 9]])
 (.seq (.seq (.reg [⟨some 15, none, .faddr 0 (.t 5)⟩,
  ⟨some 16, none, .load false 1 (.t 15)⟩])
 (.block 0
 (.seq (.reg [⟨some 18, none, .bini .eql (.t 16) (.c (.int .i64 1))⟩,
  ⟨some 17, none, .mv (.t 18)⟩])
 (.cond (.t 17)
 (.seq (.reg [⟨some 19, none, .mv (.t 0)⟩,
  ⟨some 20, none, .call 24 [(.t 19), (.c (.int .i64 2))]⟩,
  ⟨some 21, none, .bini .add (.c (.int .i64 1)) (.t 20)⟩,
  ⟨some 22, none, .faddr 2 (.t 5)⟩,
  ⟨none, none, .store 1 (.t 22) (.t 21)⟩])
 (.seq (.reg [⟨some 23, none, .mv (.t 0)⟩,
  ⟨some 24, none, .call 24 [(.t 23), (.c (.int .i64 16))]⟩,
  ⟨some 25, none, .bini .eql (.t 24) (.c (.int .i64 0))⟩])
 (.cond (.t 25)
 (.reg [⟨some 26, none, .mv (.t 0)⟩,
  ⟨some 27, none, .call 24 [(.t 26), (.c (.int .i64 5))]⟩,
  ⟨some 28, none, .faddr 2 (.t 5)⟩,
  ⟨none, none, .store 1 (.t 28) (.t 27)⟩])
 .skip)))
 (.seq (.reg [⟨some 30, none, .bini .eql (.t 16) (.c (.int .i64 3))⟩,
  ⟨some 29, none, .mv (.t 30)⟩])
 (.cond (.t 29)
 (.reg [⟨some 31, none, .mv (.t 0)⟩,
  ⟨some 32, none, .call 37 [(.t 31)]⟩,
  ⟨some 33, none, .faddr 6 (.t 5)⟩,
  ⟨none, none, .store 1 (.t 33) (.t 32)⟩])
 (.seq (.reg [⟨some 35, none, .bini .eql (.t 16) (.c (.int .i64 4))⟩,
  ⟨some 34, none, .mv (.t 35)⟩])
 (.cond (.t 34)
 (.dregE [[(0, ⟨some 36, none, .bslice 1 8 [.int .i64 0] [(0, (.c (.int .i64 0))), (1, (.c (.int .i64 0))), (2, (.c (.int .i64 1))), (3, (.c (.int .i64 31))), (4, (.c (.int .i64 32))), (5, (.c (.int .i64 64))), (6, (.c (.int .i64 100))), (7, (.c (.int .i64 130)))]⟩),
  (1, ⟨some 37, none, .mv (.t 0)⟩),
  (5, ⟨some 41, none, .mv (.t 0)⟩),
  (2, ⟨some 38, none, .call 24 [(.t 37), (.c (.int .i64 8))]⟩),
  (3, ⟨some 39, none, .iaddr 1 (.t 36) (.t 38)⟩),
  (4, ⟨some 40, none, .load false 1 (.t 39)⟩),
  (7, ⟨some 43, none, .faddr 2 (.t 5)⟩),
  (6, ⟨some 42, none, .call 38 [(.t 41)]⟩)],
  [(8, ⟨none, none, .store 1 (.t 43) (.t 40)⟩)],
  [(9, ⟨some 44, none, .faddr 7 (.t 5)⟩)],
  [(10, ⟨none, none, .store 1 (.t 44) (.t 42)⟩)]]
  [[], [], [1], [0, 1, 2], [0, 1, 2, 3], [], [1, 2, 5], [0, 1, 2, 3, 4], [0, 1, 2, 3, 4, 5, 6, 7], [0, 1, 2, 3, 4, 5, 6, 7, 8], [0, 1, 2, 3, 4, 5, 6, 7, 8, 9]])
 (.seq (.reg [⟨some 46, none, .bini .eql (.t 16) (.c (.int .i64 5))⟩,
  ⟨some 45, none, .mv (.t 46)⟩])
 (.cond (.t 45)
 (.reg [⟨some 47, none, .bslice 1 8 [.int .i64 0] [(0, (.c (.int .i64 0))), (1, (.c (.int .i64 1))), (2, (.c (.int .i64 32))), (3, (.c (.int .i64 33))), (4, (.c (.int .i64 128))), (5, (.c (.int .i64 129))), (6, (.c (.int .i64 60))), (7, (.c (.int .i64 64)))]⟩,
  ⟨some 48, none, .mv (.t 0)⟩,
  ⟨some 49, none, .call 24 [(.t 48), (.c (.int .i64 8))]⟩,
  ⟨some 50, none, .iaddr 1 (.t 47) (.t 49)⟩,
  ⟨some 51, none, .load false 1 (.t 50)⟩,
  ⟨some 52, none, .faddr 2 (.t 5)⟩,
  ⟨none, none, .store 1 (.t 52) (.t 51)⟩])
 .skip))))))))))
 (.seq (.reg [⟨some 53, none, .load true 9 (.t 5)⟩,
  ⟨none, none, .store 9 (.t 4) (.t 53)⟩])
 .ret))))
theorem d13 : FnD Try.prog 13 2 52 [.cell 4 true 9] c13 := ⟨Try.f13, _, Try.func13, by kernel_rfl, rfl, rfl, by kernel_rfl, by kernel_rfl⟩

/-- palimp/acct.Used -/
def c14 : ACode :=
 (.seq (.reg [⟨some 2, none, .mv (.c (.int .i64 0))⟩])
 (.seq (.reg [⟨some 3, none, .mv (.c (.int .i64 0))⟩])
 (.seq (.seq (.reg [⟨some 6, none, .mv (.t 0)⟩,
  ⟨some 7, none, .len false (.t 6)⟩,
  ⟨some 8, none, .mv (.c (.int .i64 0))⟩])
 (.block 0
 (.loop
 (.seq (.reg [⟨some 9, none, .bini .lss (.t 8) (.t 7)⟩])
 (.seq (.cond (.t 9)
 .skip
 (.exit 0))
 (.seq (.block 1
 (.seq (.reg [⟨some 10, none, .iaddr 5 (.t 6) (.t 8)⟩,
  ⟨some 11, none, .load true 5 (.t 10)⟩,
  ⟨some 5, none, .alloc [.int .i64 0, .int .i64 0, .str [], .str [], .int .i64 0]⟩,
  ⟨none, none, .store 5 (.t 5) (.t 11)⟩])
 (.reg [⟨some 12, none, .mv (.t 3)⟩,
  ⟨some 13, none, .faddr 3 (.t 5)⟩,
  ⟨some 14, none, .load false 1 (.t 13)⟩,
  ⟨some 15, none, .call 39 [(.t 14)]⟩,
  ⟨some 16, none, .bini .add (.t 12) (.t 15)⟩,
  ⟨some 3, none, .mv (.t 16)⟩])))
 (.reg [⟨some 17, none, .bini .add (.t 8) (.c (.int .i64 1))⟩,
  ⟨some 8, none, .mv (.t 17)⟩])))))))
 (.seq (.reg [⟨some 18, none, .mv (.t 3)⟩,
  ⟨some 2, none, .mv (.t 18)⟩])
 .ret))))
theorem d14 : FnD Try.prog 14 1 18 [.tmp 2] c14 := ⟨Try.f14, _, Try.func14, by kernel_rfl, rfl, rfl, by kernel_rfl, by kernel_rfl⟩

end Go.Proofs.Ytemjlopoffjmpaa.Abs
/-
  The code of some functions in the abstract layer's form, each checked against the program's own. Written by gen.py.
-/
namespace Go.Proofs.Ytemjlopoffjmpaa.Abs
open Go

/-- palimp/data.Parts -/
def c39 : ACode :=
 (.seq (.reg [⟨some 2, none, .mv (.c (.int .i64 0))⟩])
 (.seq (.reg [⟨some 3, none, .mv (.c (.int .i64 0))⟩])
 (.seq (.seq (.reg [⟨some 5, none, .mv (.c (.int .i64 0))⟩])
 (.block 0
 (.loop
 (.seq (.reg [⟨some 6, none, .bini .lss (.t 5) (.c (.int .i64 4))⟩])
 (.seq (.cond (.t 6)
 .skip
 (.exit 0))
 (.seq (.block 1
 (.seq (.reg [⟨some 7, none, .mv (.t 5)⟩,
  ⟨some 4, none, .mv (.t 7)⟩])
 (.seq (.reg [⟨some 8, none, .mv (.t 0)⟩,
  ⟨some 9, none, .mv (.t 4)⟩,
  ⟨some 10, none, .call 73 [(.t 8), (.t 9)]⟩,
  ⟨some 11, none, .bins .neq (.t 10) (.c (.str []))⟩])
 (.cond (.t 11)
 (.reg [⟨some 12, none, .mv (.t 3)⟩,
  ⟨some 13, none, .bini .add (.t 12) (.c (.int .i64 1))⟩,
  ⟨some 3, none, .mv (.t 13)⟩])
 .skip))))
 (.reg [⟨some 14, none, .bini .add (.t 5) (.c (.int .i64 1))⟩,
  ⟨some 5, none, .mv (.t 14)⟩])))))))
 (.seq (.reg [⟨some 15, none, .mv (.t 3)⟩,
  ⟨some 2, none, .mv (.t 15)⟩])
 .ret))))
theorem d39 : FnD Try.prog 39 1 15 [.tmp 2] c39 := ⟨Try.f39, _, Try.func39, by kernel_rfl, rfl, rfl, by kernel_rfl, by kernel_rfl⟩

/-- slices.Clone(()palimp/api.Dset,palimp/api.Dset) -/
def c40 : ACode :=
 (.seq (.reg [⟨some 2, none, .mv (.c (.emp))⟩])
 (.seq (.seq (.reg [⟨some 3, none, .mv (.t 0)⟩,
  ⟨some 4, none, .eqnil false (.t 3)⟩])
 (.cond (.t 4)
 (.seq (.reg [⟨some 2, none, .mv (.c (.emp))⟩])
 .ret)
 .skip))
 (.seq (.reg [⟨some 5, none, .bslice 5 0 [.int .i64 0, .int .i64 0, .int .i64 0, .int .i64 0, .emp] []⟩,
  ⟨some 6, none, .mv (.t 0)⟩,
  ⟨some 7, none, .append 5 56 [.int .i64 0, .int .i64 0, .int .i64 0, .int .i64 0, .emp] (.t 5) (.t 6)⟩,
  ⟨some 2, none, .mv (.t 7)⟩])
 .ret)))
theorem d40 : FnD Try.prog 40 1 7 [.tmp 2] c40 := ⟨Try.f40, _, Try.func40, by kernel_rfl, rfl, rfl, by kernel_rfl, by kernel_rfl⟩

/-- slices.Clone(palimp/api.Set,palimp/api.Node) -/
def c41 : ACode :=
 (.seq (.reg [⟨some 2, none, .mv (.c (.emp))⟩])
 (.seq (.seq (.reg [⟨some 3, none, .mv (.t 0)⟩,
  ⟨some 4, none, .eqnil false (.t 3)⟩])
 (.cond (.t 4)
 (.seq (.reg [⟨some 2, none, .mv (.c (.emp))⟩])
 .ret)
 .skip))
 (.seq (.reg [⟨some 5, none, .bslice 5 0 [.int .i64 0, .int .i64 0, .str [], .str [], .int .i64 0] []⟩,
  ⟨some 6, none, .mv (.t 0)⟩,
  ⟨some 7, none, .append 5 56 [.int .i64 0, .int .i64 0, .str [], .str [], .int .i64 0] (.t 5) (.t 6)⟩,
  ⟨some 2, none, .mv (.t 7)⟩])
 .ret)))
theorem d41 : FnD Try.prog 41 1 7 [.tmp 2] c41 := ⟨Try.f41, _, Try.func41, by kernel_rfl, rfl, rfl, by kernel_rfl, by kernel_rfl⟩

/-- palimp/dset.Get -/
def c42 : ACode :=
 (.seq (.reg [⟨some 4, none, .alloc [.int .i64 0, .int .i64 0, .int .i64 0, .int .i64 0, .emp]⟩,
  ⟨some 5, none, .mv (.c (.bool false))⟩])
 (.seq (.reg [⟨some 7, none, .mv (.t 0)⟩,
  ⟨some 8, none, .call 59 [(.t 7)]⟩,
  ⟨some 0, none, .mv (.t 8)⟩])
 (.seq (.reg [⟨some 9, none, .mv (.t 0)⟩,
  ⟨some 10, none, .mv (.t 1)⟩,
  ⟨some 11, none, .call 62 [(.t 9), (.t 10)]⟩,
  ⟨some 6, none, .mv (.t 11)⟩])
 (.seq (.seq (.reg [⟨some 12, none, .mv (.t 6)⟩,
  ⟨some 13, none, .bini .lss (.t 12) (.c (.int .i64 0))⟩])
 (.cond (.t 13)
 (.seq (.reg [⟨some 14, none, .build [.int .i64 0, .int .i64 0, .int .i64 0, .int .i64 0, .emp] []⟩,
  ⟨none, none, .store 5 (.t 4) (.t 14)⟩,
  ⟨some 5, none, .mv (.c (.bool false))⟩])
 .ret)
 .skip))
 (.seq (.reg [⟨some 15, none, .mv (.t 0)⟩,
  ⟨some 16, none, .mv (.t 6)⟩,
  ⟨some 17, none, .iaddr 5 (.t 15) (.t 16)⟩,
  ⟨some 18, none, .load true 5 (.t 17)⟩,
  ⟨none, none, .store 5 (.t 4) (.t 18)⟩,
  ⟨some 5, none, .mv (.c (.bool true))⟩])
 .ret)))))
theorem d42 : FnD Try.prog 42 2 17 [.cell 4 true 5, .tmp 5] c42 := ⟨Try.f42, _, Try.func42, by kernel_rfl, rfl, rfl, by kernel_rfl, by kernel_rfl⟩

/-- slices.IndexFunc(()palimp/api.Dset,palimp/api.Dset) -/
def c43 : ACode :=
 (.seq (.reg [⟨some 4, none, .mv (.c (.int .i64 0))⟩])
 (.seq (.seq (.reg [⟨some 6, none, .mv (.t 0)⟩,
  ⟨some 7, none, .len false (.t 6)⟩,
  ⟨some 8, none, .mv (.c (.int .i64 0))⟩])
 (.block 0
 (.loop
 (.seq (.reg [⟨some 9, none, .bini .lss (.t 8) (.t 7)⟩])
 (.seq (.cond (.t 9)
 .skip
 (.exit 0))
 (.seq (.block 1
 (.seq (.reg [⟨some 10, none, .mv (.t 8)⟩,
  ⟨some 5, none, .mv (.t 10)⟩])
 (.seq (.reg [⟨some 11, none, .mv (.t 1)⟩,
  ⟨some 12, none, .mv (.t 0)⟩,
  ⟨some 13, none, .mv (.t 5)⟩,
  ⟨some 14, none, .iaddr 5 (.t 12) (.t 13)⟩,
  ⟨some 15, none, .load true 5 (.t 14)⟩,
  ⟨some 16, none, .calld (.t 11) [(.t 15)]⟩])
 (.cond (.t 16)
 (.seq (.reg [⟨some 17, none, .mv (.t 5)⟩,
  ⟨some 4, none, .mv (.t 17)⟩])
 .ret)
 .skip))))
 (.reg [⟨some 18, none, .bini .add (.t 8) (.c (.int .i64 1))⟩,
  ⟨some 8, none, .mv (.t 18)⟩])))))))
 (.seq (.reg [⟨some 4, none, .mv (.c (.int .i64 (-1)))⟩])
 .ret)))
theorem d43 : FnD Try.prog 43 2 17 [.tmp 4] c43 := ⟨Try.f43, _, Try.func43, by kernel_rfl, rfl, rfl, by kernel_rfl, by kernel_rfl⟩

/-- palimp/acct.Put$1 -/
def c44 : ACode :=
 (.seq (.reg [⟨some 2, none, .box (.t 0)⟩,
  ⟨some 3, none, .mv (.c (.bool false))⟩])
 (.seq (.reg [⟨some 4, none, .faddr 0 (.t 2)⟩,
  ⟨some 5, none, .load false 1 (.t 4)⟩,
  ⟨some 6, none, .load false 1 (.t 1)⟩,
  ⟨some 7, none, .bini .eql (.t 5) (.t 6)⟩,
  ⟨some 3, none, .mv (.t 7)⟩])
 .ret))
theorem d44 : FnD Try.prog 44 2 6 [.tmp 3] c44 := ⟨Try.f44, _, Try.func44, by kernel_rfl, rfl, rfl, by kernel_rfl, by kernel_rfl⟩

/-- (*palimp/palimpmade.Picks).Grown -/
def c45 : ACode :=
 (.seq (.reg [⟨some 6, none, .mv (.c (.emp))⟩])
 (.seq (.seq (.reg [⟨some 7, none, .mv (.c (.int .i64 0))⟩])
 (.block 0
 (.loop
 (.seq (.seq (.reg [⟨some 8, none, .mv (.t 7)⟩,
  ⟨some 9, none, .mv (.t 2)⟩,
  ⟨some 10, none, .bini .lss (.t 8) (.t 9)⟩,
  ⟨some 11, none, .mv (.t 10)⟩,
  ⟨some 12, (some (11, true)), .mv (.t 0)⟩,
  ⟨some 13, (some (11, true)), .call 11 [(.t 12)]⟩,
  ⟨some 14, (some (11, true)), .un .not (.t 13)⟩,
  ⟨some 15, none, .pick (.t 11) (.t 14) (.c (.bool false))⟩])
 (.cond (.t 15)
 .skip
 (.exit 0)))
 (.seq (.block 1
 (.reg [⟨some 19, none, .mv (.t 1)⟩,
  ⟨some 20, none, .mv (.t 0)⟩,
  ⟨some 21, none, .call 13 [(.t 20), (.c (.int .i64 1))]⟩,
  ⟨some 22, none, .call 12 [(.t 19), (.t 21)]⟩,
  ⟨some 18, none, .mv (.t 22)⟩,
  ⟨some 23, none, .ext (.t 18) 0⟩,
  ⟨some 24, none, .ext (.t 18) 1⟩,
  ⟨some 1, none, .mv (.t 23)⟩]))
 (.reg [⟨some 16, none, .mv (.t 7)⟩,
  ⟨some 17, none, .bini .add (.t 16) (.c (.int .i64 1))⟩,
  ⟨some 7, none, .mv (.t 17)⟩]))))))
 (.seq (.reg [⟨some 25, none, .mv (.t 1)⟩,
  ⟨some 6, none, .mv (.t 25)⟩])
 .ret)))
theorem d45 : FnD Try.prog 45 3 23 [.tmp 6] c45 := ⟨Try.f45, _, Try.func45, by kernel_rfl, rfl, rfl, by kernel_rfl, by kernel_rfl⟩

/-- palimp/palimpref11.Place -/
def c46 : ACode :=
 (.seq (.reg [⟨some 4, none, .mv (.c (.int .i64 0))⟩,
  ⟨some 5, none, .mv (.c (.str []))⟩,
  ⟨some 6, none, .mv (.c (.int .i64 0))⟩])
 (.seq (.reg [⟨some 12, none, .mv (.t 1)⟩,
  ⟨some 13, none, .call 74 [(.t 12)]⟩,
  ⟨some 11, none, .mv (.t 13)⟩,
  ⟨some 14, none, .ext (.t 11) 0⟩,
  ⟨some 15, none, .ext (.t 11) 1⟩,
  ⟨some 7, none, .mv (.t 14)⟩,
  ⟨some 8, none, .mv (.t 15)⟩])
 (.seq (.seq (.reg [⟨some 16, none, .mv (.t 8)⟩,
  ⟨some 17, none, .un .not (.t 16)⟩,
  ⟨some 18, none, .mv (.t 17)⟩,
  ⟨some 19, (some (18, false)), .mv (.t 7)⟩,
  ⟨some 20, (some (18, false)), .len false (.t 19)⟩,
  ⟨some 21, (some (18, false)), .bini .eql (.t 20) (.c (.int .i64 0))⟩,
  ⟨some 22, none, .pick (.t 18) (.c (.bool true)) (.t 21)⟩])
 (.cond (.t 22)
 (.seq (.reg [⟨some 4, none, .mv (.c (.int .i64 0))⟩,
  ⟨some 5, none, .mv (.c (.str []))⟩,
  ⟨some 6, none, .mv (.c (.int .i64 1))⟩])
 .ret)
 .skip))
 (.seq (.reg [⟨some 24, none, .mv (.t 0)⟩,
  ⟨some 25, none, .mv (.t 7)⟩,
  ⟨some 26, none, .mv (.t 7)⟩,
  ⟨some 27, none, .len false (.t 26)⟩,
  ⟨some 28, none, .bini .sub (.t 27) (.c (.int .i64 1))⟩,
  ⟨some 29, none, .slicel 1 (.t 25) none (some (.t 28))⟩,
  ⟨some 30, none, .call 75 [(.t 24), (.t 29)]⟩,
  ⟨some 23, none, .mv (.t 30)⟩,
  ⟨some 31, none, .ext (.t 23) 0⟩,
  ⟨some 32, none, .ext (.t 23) 1⟩,
  ⟨some 9, none, .mv (.t 31)⟩,
  ⟨some 10, none, .mv (.t 32)⟩])
 (.seq (.seq (.reg [⟨some 33, none, .mv (.t 10)⟩,
  ⟨some 34, none, .bini .neq (.t 33) (.c (.int .i64 0))⟩])
 (.cond (.t 34)
 (.seq (.reg [⟨some 35, none, .mv (.t 10)⟩,
  ⟨some 4, none, .mv (.c (.int .i64 0))⟩,
  ⟨some 5, none, .mv (.c (.str []))⟩,
  ⟨some 6, none, .mv (.t 35)⟩])
 .ret)
 .skip))
 (.seq (.seq (.reg [⟨some 36, none, .mv (.t 9)⟩,
  ⟨some 37, none, .mv (.t 0)⟩,
  ⟨some 38, none, .len false (.t 37)⟩,
  ⟨some 39, none, .bini .geq (.t 36) (.t 38)⟩,
  ⟨some 40, none, .mv (.t 39)⟩,
  ⟨some 41, (some (40, false)), .mv (.t 0)⟩,
  ⟨some 42, (some (40, false)), .mv (.t 9)⟩,
  ⟨some 43, (some (40, false)), .iaddr 5 (.t 41) (.t 42)⟩,
  ⟨some 44, (some (40, false)), .faddr 0 (.t 43)⟩,
  ⟨some 45, (some (40, false)), .load false 1 (.t 44)⟩,
  ⟨some 46, (some (40, false)), .bini .neq (.t 45) (.c (.int .i64 2))⟩,
  ⟨some 47, none, .pick (.t 40) (.c (.bool true)) (.t 46)⟩])
 (.cond (.t 47)
 (.seq (.reg [⟨some 4, none, .mv (.c (.int .i64 0))⟩,
  ⟨some 5, none, .mv (.c (.str []))⟩,
  ⟨some 6, none, .mv (.c (.int .i64 5))⟩])
 .ret)
 .skip))
 (.seq (.dreg [⟨some 48, none, .mv (.t 9)⟩,
  ⟨some 49, none, .mv (.t 7)⟩,
  ⟨some 50, none, .mv (.t 7)⟩,
  ⟨some 51, none, .len false (.t 50)⟩,
  ⟨some 52, none, .bini .sub (.t 51) (.c (.int .i64 1))⟩,
  ⟨some 53, none, .iaddr 1 (.t 49) (.t 52)⟩,
  ⟨some 54, none, .load false 1 (.t 53)⟩,
  ⟨some 4, none, .mv (.t 48)⟩,
  ⟨some 5, none, .mv (.t 54)⟩,
  ⟨some 6, none, .mv (.c (.int .i64 0))⟩])
 .ret)))))))
theorem d46 : FnD Try.prog 46 2 53 [.tmp 4, .tmp 5, .tmp 6] c46 := ⟨Try.f46, _, Try.func46, by kernel_rfl, rfl, rfl, by kernel_rfl, by kernel_rfl⟩

/-- palimp/palimpref11.Kid -/
def c47 : ACode :=
 (.seq (.reg [⟨some 6, none, .mv (.c (.int .i64 0))⟩,
  ⟨some 7, none, .mv (.c (.bool false))⟩])
 (.seq (.reg [⟨some 10, none, .mv (.t 0)⟩,
  ⟨some 11, none, .mv (.t 1)⟩,
  ⟨some 12, none, .call 71 [(.t 10), (.t 11)]⟩,
  ⟨some 8, none, .mv (.t 12)⟩])
 (.seq (.seq (.reg [⟨some 9, none, .mv (.c (.int .i64 0))⟩])
 (.block 0
 (.loop
 (.seq (.seq (.reg [⟨some 13, none, .mv (.t 9)⟩,
  ⟨some 14, none, .mv (.t 8)⟩,
  ⟨some 15, none, .len false (.t 14)⟩,
  ⟨some 16, none, .bini .lss (.t 13) (.t 15)⟩])
 (.cond (.t 16)
 .skip
 (.exit 0)))
 (.seq (.block 1
 (.seq (.reg [⟨some 19, none, .mv (.t 0)⟩,
  ⟨some 20, none, .mv (.t 8)⟩,
  ⟨some 21, none, .mv (.t 9)⟩,
  ⟨some 22, none, .iaddr 1 (.t 20) (.t 21)⟩,
  ⟨some 23, none, .load false 1 (.t 22)⟩,
  ⟨some 24, none, .iaddr 5 (.t 19) (.t 23)⟩,
  ⟨some 25, none, .faddr 2 (.t 24)⟩,
  ⟨some 26, none, .load false 1 (.t 25)⟩,
  ⟨some 27, none, .mv (.t 2)⟩,
  ⟨some 28, none, .bins .eql (.t 26) (.t 27)⟩])
 (.cond (.t 28)
 (.seq (.reg [⟨some 29, none, .mv (.t 8)⟩,
  ⟨some 30, none, .mv (.t 9)⟩,
  ⟨some 31, none, .iaddr 1 (.t 29) (.t 30)⟩,
  ⟨some 32, none, .load false 1 (.t 31)⟩,
  ⟨some 6, none, .mv (.t 32)⟩,
  ⟨some 7, none, .mv (.c (.bool true))⟩])
 .ret)
 .skip)))
 (.reg [⟨some 17, none, .mv (.t 9)⟩,
  ⟨some 18, none, .bini .add (.t 17) (.c (.int .i64 1))⟩,
  ⟨some 9, none, .mv (.t 18)⟩]))))))
 (.seq (.reg [⟨some 6, none, .mv (.c (.int .i64 0))⟩,
  ⟨some 7, none, .mv (.c (.bool false))⟩])
 .ret))))
theorem d47 : FnD Try.prog 47 3 30 [.tmp 6, .tmp 7] c47 := ⟨Try.f47, _, Try.func47, by kernel_rfl, rfl, rfl, by kernel_rfl, by kernel_rfl⟩

/-- palimp/palimpref11.Free -/
def c48 : ACode :=
 (.seq (.reg [⟨some 2, none, .mv (.c (.int .i64 0))⟩,
  ⟨some 3, none, .mv (.c (.bool false))⟩])
 (.seq (.seq (.reg [⟨some 4, none, .mv (.c (.int .i64 0))⟩])
 (.block 0
 (.loop
 (.seq (.seq (.reg [⟨some 5, none, .mv (.t 4)⟩,
  ⟨some 6, none, .mv (.t 0)⟩,
  ⟨some 7, none, .len false (.t 6)⟩,
  ⟨some 8, none, .bini .lss (.t 5) (.t 7)⟩])
 (.cond (.t 8)
 .skip
 (.exit 0)))
 (.seq (.block 1
 (.seq (.reg [⟨some 11, none, .mv (.t 0)⟩,
  ⟨some 12, none, .mv (.t 4)⟩,
  ⟨some 13, none, .iaddr 5 (.t 11) (.t 12)⟩,
  ⟨some 14, none, .faddr 0 (.t 13)⟩,
  ⟨some 15, none, .load false 1 (.t 14)⟩,
  ⟨some 16, none, .bini .eql (.t 15) (.c (.int .i64 0))⟩])
 (.cond (.t 16)
 (.seq (.reg [⟨some 17, none, .mv (.t 4)⟩,
  ⟨some 2, none, .mv (.t 17)⟩,
  ⟨some 3, none, .mv (.c (.bool true))⟩])
 .ret)
 .skip)))
 (.reg [⟨some 9, none, .mv (.t 4)⟩,
  ⟨some 10, none, .bini .add (.t 9) (.c (.int .i64 1))⟩,
  ⟨some 4, none, .mv (.t 10)⟩]))))))
 (.seq (.reg [⟨some 2, none, .mv (.c (.int .i64 0))⟩,
  ⟨some 3, none, .mv (.c (.bool false))⟩])
 .ret)))
theorem d48 : FnD Try.prog 48 1 17 [.tmp 2, .tmp 3] c48 := ⟨Try.f48, _, Try.func48, by kernel_rfl, rfl, rfl, by kernel_rfl, by kernel_rfl⟩

/-- palimp/palimpref11.with -/
def c49 : ACode :=
 (.seq (.reg [⟨some 5, none, .box (.t 2)⟩,
  ⟨some 6, none, .mv (.c (.emp))⟩])
 (.seq (.reg [⟨some 8, none, .bslice 5 0 [.int .i64 0, .int .i64 0, .str [], .str [], .int .i64 0] []⟩,
  ⟨some 9, none, .mv (.t 0)⟩,
  ⟨some 10, none, .append 5 56 [.int .i64 0, .int .i64 0, .str [], .str [], .int .i64 0] (.t 8) (.t 9)⟩,
  ⟨some 7, none, .mv (.t 10)⟩])
 (.seq (.seq (.reg [⟨some 11, none, .mv (.t 1)⟩,
  ⟨some 12, none, .bini .geq (.t 11) (.c (.int .i64 0))⟩,
  ⟨some 13, none, .mv (.t 12)⟩,
  ⟨some 14, (some (13, true)), .mv (.t 1)⟩,
  ⟨some 15, (some (13, true)), .mv (.t 7)⟩,
  ⟨some 16, (some (13, true)), .len false (.t 15)⟩,
  ⟨some 17, (some (13, true)), .bini .lss (.t 14) (.t 16)⟩,
  ⟨some 18, none, .pick (.t 13) (.t 17) (.c (.bool false))⟩])
 (.cond (.t 18)
 (.reg [⟨some 19, none, .mv (.t 7)⟩,
  ⟨some 20, none, .mv (.t 1)⟩,
  ⟨some 21, none, .load true 5 (.t 5)⟩,
  ⟨some 22, none, .iaddr 5 (.t 19) (.t 20)⟩,
  ⟨none, none, .store 5 (.t 22) (.t 21)⟩])
 .skip))
 (.seq (.reg [⟨some 23, none, .mv (.t 7)⟩,
  ⟨some 6, none, .mv (.t 23)⟩])
 .ret))))
theorem d49 : FnD Try.prog 49 3 21 [.tmp 6] c49 := ⟨Try.f49, _, Try.func49, by kernel_rfl, rfl, rfl, by kernel_rfl, by kernel_rfl⟩

/-- palimp/palimpref11.file -/
def c50 : ACode :=
 (.seq (.reg [⟨some 4, none, .mv (.c (.int .i64 0))⟩,
  ⟨some 5, none, .mv (.c (.int .i64 0))⟩])
 (.seq (.reg [⟨some 9, none, .mv (.t 0)⟩,
  ⟨some 10, none, .mv (.t 1)⟩,
  ⟨some 11, none, .call 56 [(.t 9), (.t 10)]⟩,
  ⟨some 8, none, .mv (.t 11)⟩,
  ⟨some 12, none, .ext (.t 8) 0⟩,
  ⟨some 13, none, .ext (.t 8) 1⟩,
  ⟨some 6, none, .mv (.t 12)⟩,
  ⟨some 7, none, .mv (.t 13)⟩])
 (.seq (.seq (.reg [⟨some 14, none, .mv (.t 7)⟩,
  ⟨some 15, none, .bini .eql (.t 14) (.c (.int .i64 0))⟩,
  ⟨some 16, none, .mv (.t 15)⟩,
  ⟨some 17, (some (16, true)), .mv (.t 0)⟩,
  ⟨some 18, (some (16, true)), .mv (.t 6)⟩,
  ⟨some 19, (some (16, true)), .iaddr 5 (.t 17) (.t 18)⟩,
  ⟨some 20, (some (16, true)), .faddr 0 (.t 19)⟩,
  ⟨some 21, (some (16, true)), .load false 1 (.t 20)⟩,
  ⟨some 22, (some (16, true)), .bini .eql (.t 21) (.c (.int .i64 2))⟩,
  ⟨some 23, none, .pick (.t 16) (.t 22) (.c (.bool false))⟩])
 (.cond (.t 23)
 (.seq (.reg [⟨some 4, none, .mv (.c (.int .i64 0))⟩,
  ⟨some 5, none, .mv (.c (.int .i64 4))⟩])
 .ret)
 .skip))
 (.seq (.reg [⟨some 24, none, .mv (.t 6)⟩,
  ⟨some 25, none, .mv (.t 7)⟩,
  ⟨some 4, none, .mv (.t 24)⟩,
  ⟨some 5, none, .mv (.t 25)⟩])
 .ret))))
theorem d50 : FnD Try.prog 50 2 24 [.tmp 4, .tmp 5] c50 := ⟨Try.f50, _, Try.func50, by kernel_rfl, rfl, rfl, by kernel_rfl, by kernel_rfl⟩

end Go.Proofs.Ytemjlopoffjmpaa.Abs
set_option linter.unusedSimpArgs false
set_option linter.unusedVariables false
namespace Go.Proofs.Ytemjlopoffjmpaa.Abs
open Go

structure Node where
  kind : Int
  up : Int
  name : List UInt8
  body : List UInt8
  bad : Int
  deriving DecidableEq, Inhabited

def pnode (x : Node) : List PV := [.int .i64 x.kind, .int .i64 x.up, .str x.name, .str x.body, .int .i64 x.bad]
def aset (s : List Node) : AV := .fz (s.map pnode)

/-- Picks.Over -/
theorem over_spec (l : List (List PV)) (n : Int) : C Try.prog 11 [.ptr 0 0 0 1] [some [[.fz l, .int .i64 n]]] (fun x H' => x = .bool (decide (l.length ≤ n)) ∧ H' = [some [[.fz l, .int .i64 n]]]) := by
  refine C_body d11 rfl (WT_ok ?_)
  unfold c11
  simp only [wk, iaddrV_map, emb, unAgg, ares, aresL, ares1, tupled, forall_const, Nat.reduceAdd, Nat.reduceSub, Nat.reduceMul, Nat.reduceLeDiff, Nat.reduceEqDiff, Nat.reduceBEq, Int.reduceLE, Int.reduceLT, Int.reduceEq, Int.reduceNe, Int.reduceAdd, Int.reduceSub, Int.reduceToNat, Int.reduceNeg, ↓reduceIte, reduceCtorEq, cellsOf, cellA, lay, fillA]
  refine WT_draw ?_
  simp only [wk, iaddrV_map, emb, unAgg, ares, aresL, ares1, tupled, forall_const, Nat.reduceAdd, Nat.reduceSub, Nat.reduceMul, Nat.reduceLeDiff, Nat.reduceEqDiff, Nat.reduceBEq, Int.reduceLE, Int.reduceLT, Int.reduceEq, Int.reduceNe, Int.reduceAdd, Int.reduceSub, Int.reduceToNat, Int.reduceNeg, ↓reduceIte, reduceCtorEq, cellsOf, cellA, lay, fillA]

def longA (s : List UInt8) (n : Nat) : List UInt8 := s.take n ++ List.replicate (n - s.length) 0

def cellB (b : UInt8) : List AV := [.int .u8 b.toNat]
theorem bytesOf_map : ∀ s : List UInt8, bytesOf (s.map fun b => [AV.int .u8 b.toNat]) = some s
  | [] => rfl
  | b :: s => by
    have h := bytesOf_map s
    simp only [List.map_cons, bytesOf, h, Option.map_some, Int.toNat_natCast]
    simp
theorem longA_len (s : List UInt8) (n : Nat) : (longA s n).length = n := by simp [longA]; omega
theorem long_cells (s : List UInt8) (n : Nat) : List.take (min s.length n) (s.map fun b => [AV.int .u8 b.toNat]) ++ List.drop (min s.length n) (List.replicate n [AV.int .u8 0]) = (longA s n).map fun b => [AV.int .u8 b.toNat] := by
  unfold longA
  rw [List.map_append, List.map_replicate, List.map_take, List.drop_replicate]
  have hl : (s.map fun b => [AV.int .u8 (b.toNat : Int)]).length = s.length := List.length_map _
  have e1 : List.take (min s.length n) (s.map fun b => [AV.int .u8 (b.toNat : Int)]) = List.take n (s.map fun b => [AV.int .u8 (b.toNat : Int)]) := by
    rcases Nat.le_total s.length n with h | h
    · rw [Nat.min_eq_left h, List.take_of_length_le (by omega), List.take_of_length_le (by omega)]
    · rw [Nat.min_eq_right h]
  have e2 : n - min s.length n = n - s.length := by omega
  rw [e1, e2]
  rfl

theorem long_spec0 (s : List UInt8) (n : Nat) (h : n ≤ 1000000000) : C Try.prog 51 [.str s, .int .i64 n] [] (fun x H' => x = .str (longA s n)) := by
  refine C_body d51 rfl (WT_ok ?_)
  unfold c51
  simp only [wk, iaddrV_map, emb, unAgg, ares, aresL, ares1, tupled, forall_const, Nat.reduceAdd, Nat.reduceSub, Nat.reduceMul, Nat.reduceLeDiff, Nat.reduceEqDiff, Nat.reduceBEq, Int.reduceLE, Int.reduceLT, Int.reduceEq, Int.reduceNe, Int.reduceAdd, Int.reduceSub, Int.reduceToNat, Int.reduceNeg, ↓reduceIte, reduceCtorEq, cellsOf, cellA, lay, fillA]
  refine ⟨⟨by omega, by omega, by omega⟩, by simp, ?_⟩
  rw [← List.length_append, long_cells, List.length_map, longA_len]
  simp only [wk, iaddrV_map, emb, unAgg, ares, aresL, ares1, tupled, forall_const, Nat.reduceAdd, Nat.reduceSub, Nat.reduceMul, Nat.reduceLeDiff, Nat.reduceEqDiff, Nat.reduceBEq, Int.reduceLE, Int.reduceLT, Int.reduceEq, Int.reduceNe, Int.reduceAdd, Int.reduceSub, Int.reduceToNat, Int.reduceNeg, ↓reduceIte, reduceCtorEq, cellsOf, cellA, lay, fillA]
  rw [List.take_of_length_le (by simp [longA_len]), Option.bind_some, bytesOf_map]
  simp only [wk, iaddrV_map, emb, unAgg, ares, aresL, ares1, tupled, forall_const, Nat.reduceAdd, Nat.reduceSub, Nat.reduceMul, Nat.reduceLeDiff, Nat.reduceEqDiff, Nat.reduceBEq, Int.reduceLE, Int.reduceLT, Int.reduceEq, Int.reduceNe, Int.reduceAdd, Int.reduceSub, Int.reduceToNat, Int.reduceNeg, ↓reduceIte, reduceCtorEq, cellsOf, cellA, lay, fillA]
theorem long_spec (s : List UInt8) (n : Nat) (h : n ≤ 1000000000) (H : AH) : C Try.prog 51 [.str s, .int .i64 n] H (fun x H' => x = .str (longA s n) ∧ H' = H) :=
  C_flat (K0 := fun x _ => x = .str (longA s n)) (long_spec0 s n h) (by rintro x H' rfl; exact ⟨rfl, rfl, rfl⟩)
end Go.Proofs.Ytemjlopoffjmpaa.Abs
set_option linter.unusedSimpArgs false
set_option linter.unusedVariables false
namespace Go.Proofs.Ytemjlopoffjmpaa.Abs
open Go

def partA (b : List UInt8) (k : Int) : List UInt8 :=
  if 0 ≤ k ∧ k < 4 ∧ b.length ≤ 128 then
    let p := ((longA b 128).take ((k + 1) * 32).toNat).drop (k * 32).toNat
    if p = List.replicate 32 0 then [] else p
  else []

theorem noughts_bytes (n : Nat) : bytesOf (List.replicate n [AV.int .u8 0]) = some (List.replicate n 0) := by
  have := bytesOf_map (List.replicate n 0)
  rw [List.map_replicate] at this
  exact this

theorem part_spec0 (b : List UInt8) (k : Int) : C Try.prog 53 [.str b, .int .i64 k] [] (fun x _ => x = .str (partA b k)) := by
  refine C_body d53 rfl (WT_ok ?_)
  unfold c53
  simp only [wk, iaddrV_map, emb, unAgg, ares, aresL, ares1, tupled, forall_const, Nat.reduceAdd, Nat.reduceSub, Nat.reduceMul, Nat.reduceLeDiff, Nat.reduceEqDiff, Nat.reduceBEq, Int.reduceLE, Int.reduceLT, Int.reduceEq, Int.reduceNe, Int.reduceAdd, Int.reduceSub, Int.reduceToNat, Int.reduceNeg, ↓reduceIte, reduceCtorEq, cellsOf, cellA, lay, fillA]
  refine guard_both ?_ ?_ <;> intro h <;> simp only [hy] at h <;> simp only [h, wk, iaddrV_map, emb, unAgg, ares, aresL, ares1, tupled, forall_const, Nat.reduceAdd, Nat.reduceSub, Nat.reduceMul, Nat.reduceLeDiff, Nat.reduceEqDiff, Nat.reduceBEq, Int.reduceLE, Int.reduceLT, Int.reduceEq, Int.reduceNe, Int.reduceAdd, Int.reduceSub, Int.reduceToNat, Int.reduceNeg, ↓reduceIte, reduceCtorEq, cellsOf, cellA, lay, fillA]
  · refine guard_both ?_ ?_ <;> intro h2 <;> simp only [hy] at h2 <;> simp only [h, h2, wk, iaddrV_map, emb, unAgg, ares, aresL, ares1, tupled, forall_const, Nat.reduceAdd, Nat.reduceSub, Nat.reduceMul, Nat.reduceLeDiff, Nat.reduceEqDiff, Nat.reduceBEq, Int.reduceLE, Int.reduceLT, Int.reduceEq, Int.reduceNe, Int.reduceAdd, Int.reduceSub, Int.reduceToNat, Int.reduceNeg, ↓reduceIte, reduceCtorEq, cellsOf, cellA, lay, fillA]
    · refine guard_both ?_ ?_ <;> intro h3 <;> simp only [hy] at h3 <;> simp only [h, h2, h3, wk, iaddrV_map, emb, unAgg, ares, aresL, ares1, tupled, forall_const, Nat.reduceAdd, Nat.reduceSub, Nat.reduceMul, Nat.reduceLeDiff, Nat.reduceEqDiff, Nat.reduceBEq, Int.reduceLE, Int.reduceLT, Int.reduceEq, Int.reduceNe, Int.reduceAdd, Int.reduceSub, Int.reduceToNat, Int.reduceNeg, ↓reduceIte, reduceCtorEq, cellsOf, cellA, lay, fillA]
      · rw [partA, if_neg (by omega)]
      · refine CT_ok (long_spec b 128 (by omega) _) ?_
        rintro _ _ ⟨rfl, rfl⟩
        have w1 : IntKind.i64.wrap (k * 32) = k * 32 := IntWalk.i64_in _ (by omega)
        have w2 : IntKind.i64.wrap (k + 1) = k + 1 := IntWalk.i64_in _ (by omega)
        have w3 : IntKind.i64.wrap ((k + 1) * 32) = (k + 1) * 32 := IntWalk.i64_in _ (by omega)
        simp only [w1, w2, w3, longA_len, noughts_bytes, Option.bind_some, wk, iaddrV_map, emb, unAgg, ares, aresL, ares1, tupled, forall_const, Nat.reduceAdd, Nat.reduceSub, Nat.reduceMul, Nat.reduceLeDiff, Nat.reduceEqDiff, Nat.reduceBEq, Int.reduceLE, Int.reduceLT, Int.reduceEq, Int.reduceNe, Int.reduceAdd, Int.reduceSub, Int.reduceToNat, Int.reduceNeg, ↓reduceIte, reduceCtorEq, cellsOf, cellA, lay, fillA]
        refine ⟨by omega, by omega, ?_⟩
        have hb := noughts_bytes 32
        simp only [List.replicate_succ, List.replicate_zero] at hb
        simp only [hb, wk, iaddrV_map, emb, unAgg, ares, aresL, ares1, tupled, forall_const, Nat.reduceAdd, Nat.reduceSub, Nat.reduceMul, Nat.reduceLeDiff, Nat.reduceEqDiff, Nat.reduceBEq, Int.reduceLE, Int.reduceLT, Int.reduceEq, Int.reduceNe, Int.reduceAdd, Int.reduceSub, Int.reduceToNat, Int.reduceNeg, ↓reduceIte, reduceCtorEq, cellsOf, cellA, lay, fillA]
        refine guard_both ?_ ?_ <;> intro h4 <;> simp only [hy] at h4 <;> simp only [h, h2, h3, h4, wk, iaddrV_map, emb, unAgg, ares, aresL, ares1, tupled, forall_const, Nat.reduceAdd, Nat.reduceSub, Nat.reduceMul, Nat.reduceLeDiff, Nat.reduceEqDiff, Nat.reduceBEq, Int.reduceLE, Int.reduceLT, Int.reduceEq, Int.reduceNe, Int.reduceAdd, Int.reduceSub, Int.reduceToNat, Int.reduceNeg, ↓reduceIte, reduceCtorEq, cellsOf, cellA, lay, fillA]
        · rw [partA, if_pos (by omega)]
          simp only [h4]
          rfl
        · rw [partA, if_pos (by omega)]
          simp only [List.replicate_succ, List.replicate_zero, h4, if_false]
    · rw [partA, if_neg (by omega)]
  · rw [partA, if_neg (by omega)]
end Go.Proofs.Ytemjlopoffjmpaa.Abs
set_option linter.unusedSimpArgs false
set_option linter.unusedVariables false
namespace Go.Proofs.Ytemjlopoffjmpaa.Abs
open Go

theorem part_spec (b : List UInt8) (k : Int) (H : AH) : C Try.prog 53 [.str b, .int .i64 k] H (fun x H' => x = .str (partA b k) ∧ H' = H) :=
  C_flat (K0 := fun x _ => x = .str (partA b k)) (part_spec0 b k) (by rintro x _ rfl; exact ⟨rfl, rfl, rfl⟩)

def cnt (b : List UInt8) : Nat → Nat
  | 0 => 0
  | k + 1 => cnt b k + if partA b k = [] then 0 else 1
def countA (b : List UInt8) : Nat := cnt b 4
theorem cnt_le (b : List UInt8) : ∀ k, cnt b k ≤ k
  | 0 => Nat.le_refl _
  | k + 1 => by have := cnt_le b k; unfold cnt; split <;> omega

theorem count_spec (b : List UInt8) (H : AH) : C Try.prog 20 [.str b] H (fun x H' => x = .int .i64 (countA b) ∧ H' = H) := by
  refine C_body d20 rfl (WT_ok ?_)
  unfold c20
  simp only [wk, iaddrV_map, emb, unAgg, ares, aresL, ares1, tupled, forall_const, Nat.reduceAdd, Nat.reduceSub, Nat.reduceMul, Nat.reduceLeDiff, Nat.reduceEqDiff, Nat.reduceBEq, Int.reduceLE, Int.reduceLT, Int.reduceEq, Int.reduceNe, Int.reduceAdd, Int.reduceSub, Int.reduceToNat, Int.reduceNeg, ↓reduceIte, reduceCtorEq, cellsOf, cellA, lay, fillA]
  refine WT_loop (W_loop (fun n fr H' => ∃ k : Nat, k ≤ 4 ∧ n = 4 - k ∧ H' = H ∧ fr = [.str b, .top, .int .i64 0, .int .i64 (cnt b k), .int .i64 k, .top, .top, .top, .top, .top, .top, .top, .top, .top, .top, .top]) 4 ⟨0, by omega, rfl, rfl, rfl⟩ ?_)
  rintro n fr H' ⟨k, hk, rfl, rfl, rfl⟩
  refine WT_ok ?_
  simp only [wk, iaddrV_map, emb, unAgg, ares, aresL, ares1, tupled, forall_const, Nat.reduceAdd, Nat.reduceSub, Nat.reduceMul, Nat.reduceLeDiff, Nat.reduceEqDiff, Nat.reduceBEq, Int.reduceLE, Int.reduceLT, Int.reduceEq, Int.reduceNe, Int.reduceAdd, Int.reduceSub, Int.reduceToNat, Int.reduceNeg, ↓reduceIte, reduceCtorEq, cellsOf, cellA, lay, fillA]
  refine guard_both ?_ ?_ <;> intro h <;> simp only [hy] at h <;> simp only [h, wk, iaddrV_map, emb, unAgg, ares, aresL, ares1, tupled, forall_const, Nat.reduceAdd, Nat.reduceSub, Nat.reduceMul, Nat.reduceLeDiff, Nat.reduceEqDiff, Nat.reduceBEq, Int.reduceLE, Int.reduceLT, Int.reduceEq, Int.reduceNe, Int.reduceAdd, Int.reduceSub, Int.reduceToNat, Int.reduceNeg, ↓reduceIte, reduceCtorEq, cellsOf, cellA, lay, fillA]
  · refine CT_ok (part_spec b k _) ?_
    rintro _ _ ⟨rfl, rfl⟩
    simp only [wk, iaddrV_map, emb, unAgg, ares, aresL, ares1, tupled, forall_const, Nat.reduceAdd, Nat.reduceSub, Nat.reduceMul, Nat.reduceLeDiff, Nat.reduceEqDiff, Nat.reduceBEq, Int.reduceLE, Int.reduceLT, Int.reduceEq, Int.reduceNe, Int.reduceAdd, Int.reduceSub, Int.reduceToNat, Int.reduceNeg, ↓reduceIte, reduceCtorEq, cellsOf, cellA, lay, fillA]
    have hc := cnt_le b k
    have w1 : IntKind.i64.wrap ((cnt b k : Int) + 1) = (cnt b k : Int) + 1 := IntWalk.i64_in _ (by omega)
    have w2 : IntKind.i64.wrap ((k : Int) + 1) = (k : Int) + 1 := IntWalk.i64_in _ (by omega)
    refine guard_both ?_ ?_ <;> intro h2 <;> simp only [hy] at h2 <;> simp only [h2, w1, w2, wk, iaddrV_map, emb, unAgg, ares, aresL, ares1, tupled, forall_const, Nat.reduceAdd, Nat.reduceSub, Nat.reduceMul, Nat.reduceLeDiff, Nat.reduceEqDiff, Nat.reduceBEq, Int.reduceLE, Int.reduceLT, Int.reduceEq, Int.reduceNe, Int.reduceAdd, Int.reduceSub, Int.reduceToNat, Int.reduceNeg, ↓reduceIte, reduceCtorEq, cellsOf, cellA, lay, fillA]
    · refine QLoop_go (n' := 4 - (k + 1)) (by omega) ⟨k + 1, by omega, rfl, rfl, rfl⟩ ?_
      simp only [Tops_top, Tops_same, Tops_nil, cnt, h2, Int.natCast_add, Int.natCast_one, if_false]
    · refine QLoop_go (n' := 4 - (k + 1)) (by omega) ⟨k + 1, by omega, rfl, rfl, rfl⟩ ?_
      simp only [Tops_top, Tops_same, Tops_nil, cnt, h2, Int.natCast_add, Int.natCast_one, if_true, Nat.add_zero]
  · have : k = 4 := by omega
    subst this
    rfl
end Go.Proofs.Ytemjlopoffjmpaa.Abs
/-
  The code of some functions in the abstract layer's form, each checked against the program's own. Written by gen.py.
-/
namespace Go.Proofs.Ytemjlopoffjmpaa.Abs
open Go

/-- (palimp/dset.family).is -/
def c63 : ACode :=
 (.seq (.reg [⟨some 6, none, .mv (.c (.bool false))⟩])
 (.seq (.reg [⟨some 8, none, .mv (.t 0)⟩,
  ⟨some 9, none, .mv (.t 1)⟩,
  ⟨some 10, none, .call 62 [(.t 8), (.t 9)]⟩,
  ⟨some 7, none, .mv (.t 10)⟩])
 (.seq (.reg [⟨some 11, none, .mv (.t 7)⟩,
  ⟨some 12, none, .bini .geq (.t 11) (.c (.int .i64 0))⟩,
  ⟨some 13, none, .mv (.t 12)⟩,
  ⟨some 14, (some (13, true)), .mv (.t 0)⟩,
  ⟨some 15, (some (13, true)), .mv (.t 7)⟩,
  ⟨some 16, (some (13, true)), .iaddr 5 (.t 14) (.t 15)⟩,
  ⟨some 17, (some (13, true)), .faddr 1 (.t 16)⟩,
  ⟨some 18, (some (13, true)), .load false 1 (.t 17)⟩,
  ⟨some 19, (some (13, true)), .mv (.t 2)⟩,
  ⟨some 20, (some (13, true)), .bini .eql (.t 18) (.t 19)⟩,
  ⟨some 21, none, .pick (.t 13) (.t 20) (.c (.bool false))⟩,
  ⟨some 6, none, .mv (.t 21)⟩])
 .ret)))
theorem d63 : FnD Try.prog 63 3 19 [.tmp 6] c63 := ⟨Try.f63, _, Try.func63, by kernel_rfl, rfl, rfl, by kernel_rfl, by kernel_rfl⟩

/-- palimp/dset.Back$1 -/
def c64 : ACode :=
 (.seq (.reg [⟨some 3, none, .box (.t 0)⟩,
  ⟨some 4, none, .mv (.c (.bool false))⟩])
 (.seq (.reg [⟨some 5, none, .faddr 1 (.t 3)⟩,
  ⟨some 6, none, .load false 1 (.t 5)⟩,
  ⟨some 7, none, .bini .eql (.t 6) (.c (.int .i64 2))⟩,
  ⟨some 8, none, .mv (.t 7)⟩,
  ⟨some 9, (some (8, true)), .faddr 2 (.t 3)⟩,
  ⟨some 10, (some (8, true)), .load false 1 (.t 9)⟩,
  ⟨some 11, (some (8, true)), .load false 1 (.t 1)⟩,
  ⟨some 12, (some (8, true)), .bini .eql (.t 10) (.t 11)⟩,
  ⟨some 13, none, .pick (.t 8) (.t 12) (.c (.bool false))⟩,
  ⟨some 14, none, .mv (.t 13)⟩,
  ⟨some 15, (some (14, true)), .faddr 0 (.t 3)⟩,
  ⟨some 16, (some (14, true)), .load false 1 (.t 15)⟩,
  ⟨some 17, (some (14, true)), .load false 1 (.t 2)⟩,
  ⟨some 18, (some (14, true)), .bini .gtr (.t 16) (.t 17)⟩,
  ⟨some 19, none, .pick (.t 14) (.t 18) (.c (.bool false))⟩,
  ⟨some 4, none, .mv (.t 19)⟩])
 .ret))
theorem d64 : FnD Try.prog 64 3 17 [.tmp 4] c64 := ⟨Try.f64, _, Try.func64, by kernel_rfl, rfl, rfl, by kernel_rfl, by kernel_rfl⟩

/-- slices.ContainsFunc(palimp/dset.family,palimp/api.Dset) -/
def c65 : ACode :=
 (.seq (.reg [⟨some 4, none, .mv (.c (.bool false))⟩])
 (.seq (.reg [⟨some 5, none, .mv (.t 0)⟩,
  ⟨some 6, none, .mv (.t 1)⟩,
  ⟨some 7, none, .call 81 [(.t 5), (.t 6)]⟩,
  ⟨some 8, none, .bini .geq (.t 7) (.c (.int .i64 0))⟩,
  ⟨some 4, none, .mv (.t 8)⟩])
 .ret))
theorem d65 : FnD Try.prog 65 2 7 [.tmp 4] c65 := ⟨Try.f65, _, Try.func65, by kernel_rfl, rfl, rfl, by kernel_rfl, by kernel_rfl⟩

/-- palimp/dset.Destroy$1 -/
def c66 : ACode :=
 (.seq (.reg [⟨some 2, none, .box (.t 0)⟩,
  ⟨some 3, none, .mv (.c (.bool false))⟩])
 (.seq (.reg [⟨some 4, none, .faddr 2 (.t 2)⟩,
  ⟨some 5, none, .load false 1 (.t 4)⟩,
  ⟨some 6, none, .load false 1 (.t 1)⟩,
  ⟨some 7, none, .bini .eql (.t 5) (.t 6)⟩,
  ⟨some 3, none, .mv (.t 7)⟩])
 .ret))
theorem d66 : FnD Try.prog 66 2 6 [.tmp 3] c66 := ⟨Try.f66, _, Try.func66, by kernel_rfl, rfl, rfl, by kernel_rfl, by kernel_rfl⟩

/-- slices.Delete(()palimp/api.Dset,palimp/api.Dset) -/
def c67 : ACode :=
 (.seq (.reg [⟨some 6, none, .mv (.c (.emp))⟩])
 (.seq (.reg [⟨some 8, none, .mv (.t 0)⟩,
  ⟨some 9, none, .mv (.t 1)⟩,
  ⟨some 10, none, .mv (.t 2)⟩,
  ⟨some 11, none, .mv (.t 0)⟩,
  ⟨some 12, none, .len false (.t 11)⟩,
  ⟨some 13, none, .slice3 (.t 8) (.t 9) (.t 10) (.t 12)⟩])
 (.seq (.seq (.reg [⟨some 14, none, .mv (.t 1)⟩,
  ⟨some 15, none, .mv (.t 2)⟩,
  ⟨some 16, none, .bini .eql (.t 14) (.t 15)⟩])
 (.cond (.t 16)
 (.seq (.reg [⟨some 17, none, .mv (.t 0)⟩,
  ⟨some 6, none, .mv (.t 17)⟩])
 .ret)
 .skip))
 (.seq (.reg [⟨some 18, none, .mv (.t 0)⟩,
  ⟨some 19, none, .len false (.t 18)⟩,
  ⟨some 7, none, .mv (.t 19)⟩])
 (.seq (.dregE [[(0, ⟨some 20, none, .mv (.t 0)⟩),
  (1, ⟨some 21, none, .mv (.t 1)⟩),
  (2, ⟨some 22, none, .slicel 5 (.t 20) none (some (.t 21))⟩),
  (3, ⟨some 23, none, .mv (.t 0)⟩),
  (4, ⟨some 24, none, .mv (.t 2)⟩),
  (5, ⟨some 25, none, .slicel 5 (.t 23) (some (.t 24)) none⟩)],
  [(6, ⟨some 26, none, .append 5 56 [.int .i64 0, .int .i64 0, .int .i64 0, .int .i64 0, .emp] (.t 22) (.t 25)⟩)],
  [(7, ⟨some 0, none, .mv (.t 26)⟩)]]
  [[], [], [0, 1], [], [], [3, 4], [0, 1, 2, 3, 4, 5], [0, 1, 2, 3, 4, 5, 6]])
 (.seq (.reg [⟨some 27, none, .mv (.t 0)⟩,
  ⟨some 28, none, .mv (.t 0)⟩,
  ⟨some 29, none, .len false (.t 28)⟩,
  ⟨some 30, none, .mv (.t 7)⟩,
  ⟨some 31, none, .slicel 5 (.t 27) (some (.t 29)) (some (.t 30))⟩,
  ⟨none, none, .clear 5 [.int .i64 0, .int .i64 0, .int .i64 0, .int .i64 0, .emp] (.t 31)⟩])
 (.seq (.reg [⟨some 32, none, .mv (.t 0)⟩,
  ⟨some 6, none, .mv (.t 32)⟩])
 .ret)))))))
theorem d67 : FnD Try.prog 67 3 30 [.tmp 6] c67 := ⟨Try.f67, _, Try.func67, by kernel_rfl, rfl, rfl, by kernel_rfl, by kernel_rfl⟩

/-- palimp/palimpref16.id -/
def c68 : ACode :=
 (.seq (.reg [⟨some 2, none, .mv (.c (.bool false))⟩])
 (.seq (.reg [⟨some 3, none, .mv (.t 0)⟩,
  ⟨some 4, none, .bini .geq (.t 3) (.c (.int .i64 0))⟩,
  ⟨some 5, none, .mv (.t 4)⟩,
  ⟨some 6, (some (5, true)), .mv (.t 0)⟩,
  ⟨some 7, (some (5, true)), .bini .leq (.t 6) (.c (.int .i64 65535))⟩,
  ⟨some 8, none, .pick (.t 5) (.t 7) (.c (.bool false))⟩,
  ⟨some 2, none, .mv (.t 8)⟩])
 .ret))
theorem d68 : FnD Try.prog 68 1 8 [.tmp 2] c68 := ⟨Try.f68, _, Try.func68, by kernel_rfl, rfl, rfl, by kernel_rfl, by kernel_rfl⟩

/-- palimp/palimpref11.May -/
def c69 : ACode :=
 (.seq (.reg [⟨some 2, none, .mv (.c (.bool false))⟩])
 (.seq (.reg [⟨some 3, none, .mv (.t 0)⟩,
  ⟨some 4, none, .call 83 [(.t 3)]⟩,
  ⟨some 5, none, .mv (.t 4)⟩,
  ⟨some 6, (some (5, true)), .mv (.t 0)⟩,
  ⟨some 7, (some (5, true)), .call 84 [(.t 6)]⟩,
  ⟨some 8, (some (5, true)), .un .not (.t 7)⟩,
  ⟨some 9, none, .pick (.t 5) (.t 8) (.c (.bool false))⟩,
  ⟨some 2, none, .mv (.t 9)⟩])
 .ret))
theorem d69 : FnD Try.prog 69 1 9 [.tmp 2] c69 := ⟨Try.f69, _, Try.func69, by kernel_rfl, rfl, rfl, by kernel_rfl, by kernel_rfl⟩

/-- palimp/palimpref16.Get -/
def c70 : ACode :=
 (.seq (.reg [⟨some 4, none, .alloc [.int .i64 0, .int .i64 0, .int .i64 0, .int .i64 0, .emp]⟩,
  ⟨some 5, none, .mv (.c (.bool false))⟩])
 (.seq (.reg [⟨some 7, none, .mv (.t 0)⟩,
  ⟨some 8, none, .mv (.t 1)⟩,
  ⟨some 9, none, .call 85 [(.t 7), (.t 8)]⟩,
  ⟨some 6, none, .mv (.t 9)⟩])
 (.seq (.seq (.reg [⟨some 10, none, .mv (.t 6)⟩,
  ⟨some 11, none, .bini .lss (.t 10) (.c (.int .i64 0))⟩])
 (.cond (.t 11)
 (.seq (.reg [⟨some 12, none, .build [.int .i64 0, .int .i64 0, .int .i64 0, .int .i64 0, .emp] []⟩,
  ⟨none, none, .store 5 (.t 4) (.t 12)⟩,
  ⟨some 5, none, .mv (.c (.bool false))⟩])
 .ret)
 .skip))
 (.seq (.reg [⟨some 13, none, .mv (.t 0)⟩,
  ⟨some 14, none, .mv (.t 6)⟩,
  ⟨some 15, none, .iaddr 5 (.t 13) (.t 14)⟩,
  ⟨some 16, none, .load true 5 (.t 15)⟩,
  ⟨none, none, .store 5 (.t 4) (.t 16)⟩,
  ⟨some 5, none, .mv (.c (.bool true))⟩])
 .ret))))
theorem d70 : FnD Try.prog 70 2 15 [.cell 4 true 5, .tmp 5] c70 := ⟨Try.f70, _, Try.func70, by kernel_rfl, rfl, rfl, by kernel_rfl, by kernel_rfl⟩

/-- palimp/palimpref11.Kids -/
def c71 : ACode :=
 (.seq (.reg [⟨some 4, none, .mv (.c (.emp))⟩])
 (.seq (.reg [⟨some 5, none, .mv (.c (.emp))⟩])
 (.seq (.seq (.reg [⟨some 6, none, .mv (.c (.int .i64 1))⟩])
 (.block 0
 (.loop
 (.seq (.seq (.reg [⟨some 8, none, .mv (.t 6)⟩,
  ⟨some 9, none, .mv (.t 0)⟩,
  ⟨some 10, none, .len false (.t 9)⟩,
  ⟨some 11, none, .bini .lss (.t 8) (.t 10)⟩])
 (.cond (.t 11)
 .skip
 (.exit 0)))
 (.seq (.block 1
 (.seq (.seq (.reg [⟨some 14, none, .mv (.t 0)⟩,
  ⟨some 15, none, .mv (.t 6)⟩,
  ⟨some 16, none, .iaddr 5 (.t 14) (.t 15)⟩,
  ⟨some 17, none, .faddr 0 (.t 16)⟩,
  ⟨some 18, none, .load false 1 (.t 17)⟩,
  ⟨some 19, none, .bini .neq (.t 18) (.c (.int .i64 1))⟩,
  ⟨some 20, none, .mv (.t 19)⟩,
  ⟨some 21, (some (20, true)), .mv (.t 0)⟩,
  ⟨some 22, (some (20, true)), .mv (.t 6)⟩,
  ⟨some 23, (some (20, true)), .iaddr 5 (.t 21) (.t 22)⟩,
  ⟨some 24, (some (20, true)), .faddr 0 (.t 23)⟩,
  ⟨some 25, (some (20, true)), .load false 1 (.t 24)⟩,
  ⟨some 26, (some (20, true)), .bini .neq (.t 25) (.c (.int .i64 2))⟩,
  ⟨some 27, none, .pick (.t 20) (.t 26) (.c (.bool false))⟩,
  ⟨some 28, none, .mv (.t 27)⟩,
  ⟨some 29, (some (28, false)), .mv (.t 0)⟩,
  ⟨some 30, (some (28, false)), .mv (.t 6)⟩,
  ⟨some 31, (some (28, false)), .iaddr 5 (.t 29) (.t 30)⟩,
  ⟨some 32, (some (28, false)), .faddr 1 (.t 31)⟩,
  ⟨some 33, (some (28, false)), .load false 1 (.t 32)⟩,
  ⟨some 34, (some (28, false)), .mv (.t 1)⟩,
  ⟨some 35, (some (28, false)), .bini .neq (.t 33) (.t 34)⟩,
  ⟨some 36, none, .pick (.t 28) (.c (.bool true)) (.t 35)⟩])
 (.cond (.t 36)
 (.exit 1)
 .skip))
 (.seq (.reg [⟨some 37, none, .mv (.t 5)⟩,
  ⟨some 38, none, .len false (.t 37)⟩,
  ⟨some 7, none, .mv (.t 38)⟩])
 (.seq (.reg [⟨some 39, none, .mv (.t 5)⟩,
  ⟨some 40, none, .mv (.t 6)⟩,
  ⟨some 41, none, .bslice 1 1 [.int .i64 0] [(0, (.t 40))]⟩,
  ⟨some 42, none, .append 1 8 [.int .i64 0] (.t 39) (.t 41)⟩,
  ⟨some 5, none, .mv (.t 42)⟩])
 (.block 2
 (.loop
 (.seq (.seq (.dreg [⟨some 43, none, .mv (.t 7)⟩,
  ⟨some 44, none, .bini .gtr (.t 43) (.c (.int .i64 0))⟩,
  ⟨some 45, none, .mv (.t 44)⟩,
  ⟨some 46, (some (45, true)), .mv (.t 0)⟩,
  ⟨some 47, (some (45, true)), .mv (.t 5)⟩,
  ⟨some 48, (some (45, true)), .mv (.t 7)⟩,
  ⟨some 49, (some (45, true)), .bini .sub (.t 48) (.c (.int .i64 1))⟩,
  ⟨some 50, (some (45, true)), .iaddr 1 (.t 47) (.t 49)⟩,
  ⟨some 51, (some (45, true)), .load false 1 (.t 50)⟩,
  ⟨some 52, (some (45, true)), .iaddr 5 (.t 46) (.t 51)⟩,
  ⟨some 53, (some (45, true)), .faddr 2 (.t 52)⟩,
  ⟨some 54, (some (45, true)), .load false 1 (.t 53)⟩,
  ⟨some 55, (some (45, true)), .mv (.t 0)⟩,
  ⟨some 56, (some (45, true)), .mv (.t 6)⟩,
  ⟨some 57, (some (45, true)), .iaddr 5 (.t 55) (.t 56)⟩,
  ⟨some 58, (some (45, true)), .faddr 2 (.t 57)⟩,
  ⟨some 59, (some (45, true)), .load false 1 (.t 58)⟩,
  ⟨some 60, (some (45, true)), .bins .gtr (.t 54) (.t 59)⟩,
  ⟨some 61, none, .pick (.t 45) (.t 60) (.c (.bool false))⟩])
 (.cond (.t 61)
 .skip
 (.exit 2)))
 (.block 3
 (.seq (.dregE [[(0, ⟨some 62, none, .mv (.t 5)⟩),
  (1, ⟨some 63, none, .mv (.t 7)⟩),
  (2, ⟨some 64, none, .bini .sub (.t 63) (.c (.int .i64 1))⟩),
  (3, ⟨some 65, none, .mv (.t 5)⟩),
  (4, ⟨some 66, none, .mv (.t 7)⟩),
  (5, ⟨some 67, none, .mv (.t 5)⟩),
  (6, ⟨some 68, none, .mv (.t 7)⟩),
  (7, ⟨some 69, none, .iaddr 1 (.t 67) (.t 68)⟩),
  (8, ⟨some 70, none, .load false 1 (.t 69)⟩),
  (9, ⟨some 71, none, .mv (.t 5)⟩),
  (10, ⟨some 72, none, .mv (.t 7)⟩),
  (11, ⟨some 73, none, .bini .sub (.t 72) (.c (.int .i64 1))⟩),
  (12, ⟨some 74, none, .iaddr 1 (.t 71) (.t 73)⟩),
  (13, ⟨some 75, none, .load false 1 (.t 74)⟩),
  (14, ⟨some 76, none, .iaddr 1 (.t 62) (.t 64)⟩),
  (15, ⟨none, none, .store 1 (.t 76) (.t 70)⟩)],
  [(16, ⟨some 77, none, .iaddr 1 (.t 65) (.t 66)⟩)],
  [(17, ⟨none, none, .store 1 (.t 77) (.t 75)⟩)]]
  [[], [], [1], [], [], [], [], [5, 6], [5, 6, 7], [], [], [10], [9, 10, 11], [9, 10, 11, 12], [0, 1, 2, 5, 6, 7, 8, 9, 10, 11, 12, 13], [0, 1, 2, 5, 6, 7, 8, 9, 10, 11, 12, 13, 14], [0, 1, 2, 3, 4, 5, 6, 7, 8, 9, 10, 11, 12, 13, 14, 15], [0, 1, 2, 3, 4, 5, 6, 7, 8, 9, 10, 11, 12, 13, 14, 15, 16]])
 (.reg [⟨some 78, none, .mv (.t 7)⟩,
  ⟨some 79, none, .bini .sub (.t 78) (.c (.int .i64 1))⟩,
  ⟨some 7, none, .mv (.t 79)⟩]))))))))))
 (.reg [⟨some 12, none, .mv (.t 6)⟩,
  ⟨some 13, none, .bini .add (.t 12) (.c (.int .i64 1))⟩,
  ⟨some 6, none, .mv (.t 13)⟩]))))))
 (.seq (.reg [⟨some 80, none, .mv (.t 5)⟩,
  ⟨some 4, none, .mv (.t 80)⟩])
 .ret))))
theorem d71 : FnD Try.prog 71 2 79 [.tmp 4] c71 := ⟨Try.f71, _, Try.func71, by kernel_rfl, rfl, rfl, by kernel_rfl, by kernel_rfl⟩

/-- palimp/palimpref11.Within -/
def c72 : ACode :=
 (.seq (.reg [⟨some 6, none, .mv (.c (.bool false))⟩])
 (.seq (.seq (.reg [⟨some 8, none, .mv (.t 0)⟩,
  ⟨some 9, none, .mv (.t 1)⟩,
  ⟨some 10, none, .call 54 [(.t 8), (.t 9)]⟩,
  ⟨some 11, none, .un .not (.t 10)⟩,
  ⟨some 12, none, .mv (.t 11)⟩,
  ⟨some 13, (some (12, false)), .mv (.t 0)⟩,
  ⟨some 14, (some (12, false)), .mv (.t 2)⟩,
  ⟨some 15, (some (12, false)), .call 54 [(.t 13), (.t 14)]⟩,
  ⟨some 16, (some (12, false)), .un .not (.t 15)⟩,
  ⟨some 17, none, .pick (.t 12) (.c (.bool true)) (.t 16)⟩])
 (.cond (.t 17)
 (.seq (.reg [⟨some 6, none, .mv (.c (.bool false))⟩])
 .ret)
 .skip))
 (.seq (.seq (.reg [⟨some 7, none, .mv (.c (.int .i64 0))⟩])
 (.block 0
 (.loop
 (.seq (.seq (.reg [⟨some 18, none, .mv (.t 7)⟩,
  ⟨some 19, none, .mv (.t 0)⟩,
  ⟨some 20, none, .len false (.t 19)⟩,
  ⟨some 21, none, .bini .lss (.t 18) (.t 20)⟩,
  ⟨some 22, none, .mv (.t 21)⟩,
  ⟨some 23, (some (22, true)), .mv (.t 1)⟩,
  ⟨some 24, (some (22, true)), .mv (.t 2)⟩,
  ⟨some 25, (some (22, true)), .bini .neq (.t 23) (.t 24)⟩,
  ⟨some 26, none, .pick (.t 22) (.t 25) (.c (.bool false))⟩,
  ⟨some 27, none, .mv (.t 26)⟩,
  ⟨some 28, (some (27, true)), .mv (.t 1)⟩,
  ⟨some 29, (some (27, true)), .bini .neq (.t 28) (.c (.int .i64 0))⟩,
  ⟨some 30, none, .pick (.t 27) (.t 29) (.c (.bool false))⟩])
 (.cond (.t 30)
 .skip
 (.exit 0)))
 (.seq (.block 1
 (.reg [⟨some 33, none, .mv (.t 0)⟩,
  ⟨some 34, none, .mv (.t 1)⟩,
  ⟨some 35, none, .iaddr 5 (.t 33) (.t 34)⟩,
  ⟨some 36, none, .faddr 1 (.t 35)⟩,
  ⟨some 37, none, .load false 1 (.t 36)⟩,
  ⟨some 1, none, .mv (.t 37)⟩]))
 (.reg [⟨some 31, none, .mv (.t 7)⟩,
  ⟨some 32, none, .bini .add (.t 31) (.c (.int .i64 1))⟩,
  ⟨some 7, none, .mv (.t 32)⟩]))))))
 (.seq (.reg [⟨some 38, none, .mv (.t 1)⟩,
  ⟨some 39, none, .mv (.t 2)⟩,
  ⟨some 40, none, .bini .eql (.t 38) (.t 39)⟩,
  ⟨some 6, none, .mv (.t 40)⟩])
 .ret))))
theorem d72 : FnD Try.prog 72 3 38 [.tmp 6] c72 := ⟨Try.f72, _, Try.func72, by kernel_rfl, rfl, rfl, by kernel_rfl, by kernel_rfl⟩

/-- palimp/data.Part -/
def c73 : ACode :=
 (.seq (.reg [⟨some 4, none, .mv (.c (.str []))⟩])
 (.seq (.seq (.reg [⟨some 6, none, .mv (.t 1)⟩,
  ⟨some 7, none, .bini .lss (.t 6) (.c (.int .i64 0))⟩,
  ⟨some 8, none, .mv (.t 7)⟩,
  ⟨some 9, (some (8, false)), .mv (.t 1)⟩,
  ⟨some 10, (some (8, false)), .bini .geq (.t 9) (.c (.int .i64 4))⟩,
  ⟨some 11, none, .pick (.t 8) (.c (.bool true)) (.t 10)⟩,
  ⟨some 12, none, .mv (.t 11)⟩,
  ⟨some 13, (some (12, false)), .mv (.t 0)⟩,
  ⟨some 14, (some (12, false)), .len true (.t 13)⟩,
  ⟨some 15, (some (12, false)), .bini .gtr (.t 14) (.c (.int .i64 128))⟩,
  ⟨some 16, none, .pick (.t 12) (.c (.bool true)) (.t 15)⟩])
 (.cond (.t 16)
 (.seq (.reg [⟨some 4, none, .mv (.c (.str []))⟩])
 .ret)
 .skip))
 (.seq (.reg [⟨some 17, none, .mv (.t 0)⟩,
  ⟨some 18, none, .mv (.t 0)⟩,
  ⟨some 19, none, .len true (.t 18)⟩,
  ⟨some 20, none, .bini .sub (.c (.int .i64 128)) (.t 19)⟩,
  ⟨some 21, none, .call 86 [(.t 20)]⟩,
  ⟨some 22, none, .bins .add (.t 17) (.t 21)⟩,
  ⟨some 0, none, .mv (.t 22)⟩])
 (.seq (.seq (.reg [⟨some 23, none, .mv (.t 0)⟩,
  ⟨some 24, none, .mv (.t 1)⟩,
  ⟨some 25, none, .bini .mul (.t 24) (.c (.int .i64 32))⟩,
  ⟨some 26, none, .slices (.t 23) (some (.t 25)) none⟩,
  ⟨some 27, none, .slices (.t 26) none (some (.c (.int .i64 32)))⟩,
  ⟨some 5, none, .mv (.t 27)⟩])
 (.seq (.reg [⟨some 28, none, .mv (.t 5)⟩,
  ⟨some 29, none, .call 86 [(.c (.int .i64 32))]⟩,
  ⟨some 30, none, .bins .neq (.t 28) (.t 29)⟩])
 (.cond (.t 30)
 (.seq (.reg [⟨some 31, none, .mv (.t 5)⟩,
  ⟨some 4, none, .mv (.t 31)⟩])
 .ret)
 .skip)))
 (.seq (.reg [⟨some 4, none, .mv (.c (.str []))⟩])
 .ret)))))
theorem d73 : FnD Try.prog 73 2 30 [.tmp 4] c73 := ⟨Try.f73, _, Try.func73, by kernel_rfl, rfl, rfl, by kernel_rfl, by kernel_rfl⟩

/-- palimp/palimpref11.Parts -/
def c74 : ACode :=
 (.seq (.reg [⟨some 2, none, .mv (.c (.emp))⟩,
  ⟨some 3, none, .mv (.c (.bool false))⟩])
 (.seq (.seq (.reg [⟨some 7, none, .mv (.t 0)⟩,
  ⟨some 8, none, .bins .eql (.t 7) (.c (.str []))⟩])
 (.cond (.t 8)
 (.seq (.reg [⟨some 2, none, .mv (.c (.emp))⟩,
  ⟨some 3, none, .mv (.c (.bool true))⟩])
 .ret)
 .skip))
 (.seq (.reg [⟨some 4, none, .mv (.c (.emp))⟩])
 (.seq (.reg [⟨some 5, none, .mv (.c (.int .i64 0))⟩])
 (.seq (.seq (.reg [⟨some 6, none, .mv (.c (.int .i64 0))⟩])
 (.block 0
 (.loop
 (.seq (.seq (.reg [⟨some 9, none, .mv (.t 6)⟩,
  ⟨some 10, none, .mv (.t 0)⟩,
  ⟨some 11, none, .len true (.t 10)⟩,
  ⟨some 12, none, .bini .leq (.t 9) (.t 11)⟩])
 (.cond (.t 12)
 .skip
 (.exit 0)))
 (.seq (.block 1
 (.seq (.seq (.reg [⟨some 15, none, .mv (.t 6)⟩,
  ⟨some 16, none, .mv (.t 0)⟩,
  ⟨some 17, none, .len true (.t 16)⟩,
  ⟨some 18, none, .bini .lss (.t 15) (.t 17)⟩,
  ⟨some 19, none, .mv (.t 18)⟩,
  ⟨some 20, (some (19, true)), .mv (.t 0)⟩,
  ⟨some 21, (some (19, true)), .mv (.t 6)⟩,
  ⟨some 22, (some (19, true)), .indexs (.t 20) (.t 21)⟩,
  ⟨some 23, (some (19, true)), .bini .neq (.t 22) (.c (.int .u8 47))⟩,
  ⟨some 24, none, .pick (.t 19) (.t 23) (.c (.bool false))⟩])
 (.cond (.t 24)
 (.exit 1)
 .skip))
 (.seq (.seq (.reg [⟨some 25, none, .mv (.t 0)⟩,
  ⟨some 26, none, .mv (.t 5)⟩,
  ⟨some 27, none, .mv (.t 6)⟩,
  ⟨some 28, none, .slices (.t 25) (some (.t 26)) (some (.t 27))⟩,
  ⟨some 29, none, .call 87 [(.t 28)]⟩,
  ⟨some 30, none, .un .not (.t 29)⟩,
  ⟨some 31, none, .mv (.t 30)⟩,
  ⟨some 32, (some (31, false)), .mv (.t 4)⟩,
  ⟨some 33, (some (31, false)), .len false (.t 32)⟩,
  ⟨some 34, (some (31, false)), .bini .geq (.t 33) (.c (.int .i64 7))⟩,
  ⟨some 35, none, .pick (.t 31) (.c (.bool true)) (.t 34)⟩])
 (.cond (.t 35)
 (.seq (.reg [⟨some 2, none, .mv (.c (.emp))⟩,
  ⟨some 3, none, .mv (.c (.bool false))⟩])
 .ret)
 .skip))
 (.seq (.reg [⟨some 36, none, .mv (.t 4)⟩,
  ⟨some 37, none, .mv (.t 0)⟩,
  ⟨some 38, none, .mv (.t 5)⟩,
  ⟨some 39, none, .mv (.t 6)⟩,
  ⟨some 40, none, .slices (.t 37) (some (.t 38)) (some (.t 39))⟩,
  ⟨some 41, none, .bslice 1 1 [.str []] [(0, (.t 40))]⟩,
  ⟨some 42, none, .append 1 16 [.str []] (.t 36) (.t 41)⟩,
  ⟨some 4, none, .mv (.t 42)⟩])
 (.reg [⟨some 43, none, .mv (.t 6)⟩,
  ⟨some 44, none, .bini .add (.t 43) (.c (.int .i64 1))⟩,
  ⟨some 5, none, .mv (.t 44)⟩])))))
 (.reg [⟨some 13, none, .mv (.t 6)⟩,
  ⟨some 14, none, .bini .add (.t 13) (.c (.int .i64 1))⟩,
  ⟨some 6, none, .mv (.t 14)⟩]))))))
 (.seq (.reg [⟨some 45, none, .mv (.t 4)⟩,
  ⟨some 2, none, .mv (.t 45)⟩,
  ⟨some 3, none, .mv (.c (.bool true))⟩])
 .ret))))))
theorem d74 : FnD Try.prog 74 1 45 [.tmp 2, .tmp 3] c74 := ⟨Try.f74, _, Try.func74, by kernel_rfl, rfl, rfl, by kernel_rfl, by kernel_rfl⟩

end Go.Proofs.Ytemjlopoffjmpaa.Abs
/-
  DERIVED: THE SHELF's CONTRACTS AT THIS DUMP, IN PLAIN WORDS (tools/lay-plain.mjs out of 'TryShelf.lean', which tools/lay-shelf.mjs wrote): THE SAME DECLARATIONS UNDER THE SAME NAMES: 'import', 'namespace', 'open', 'def', 'theorem' AND NOTHING ELSE: no command of the shelf's: FOR A HAND-IN. Each laying: the table of numbers ('.._ren') and one theorem, a field a fact of the dump's own or the kernel's comparison; each contract: ONE APPLICATION.
-/
namespace Go.Proofs
open Go.Shelf
def Try.lays170_ren : Go.Shelf.Ren := ⟨fun | 170 => 103 | n => n, fun | 70 => 112 | 3 => 3 | 0 => 0 | 72 => 114 | 37 => 22 | 5 => 5 | n => n, fun | n => n⟩
theorem Try.lays170 : Go.Proofs.Lays.n170 Try.prog Try.lays170_ren := {
  mixed := by kernel_rfl
  f170 := Try.func103.trans (congrArg some (by kernel_rfl))
  t0 := Try.underlying0
  a0 := Try.isAgg0
  z0 := Try.sizeOf0
  v0 := Try.zeroValue0
  t3 := Try.underlying3
  a3 := Try.isAgg3
  z3 := Try.sizeOf3
  v3 := Try.zeroValue3
  t37 := Try.underlying22
  a37 := Try.isAgg22
  z37 := Try.sizeOf22
  v37 := Try.zeroValue22
  t70 := Try.underlying112
  a70 := Try.isAgg112
  z70 := Try.sizeOf112
  v70 := Try.zeroValue112
  t72 := Try.underlying114
  a72 := Try.isAgg114
  z72 := Try.sizeOf114
  v72 := Try.zeroValue114 }
open Go.RowKit in
/-- (*strings.Builder).Len: "Len returns the number of accumulated bytes; b.Len() == len(b.String()).": the world is as it was. (LAID: no walk: one application.) -/
theorem Try.Builder_Len (B b : Nat) (bs : List Value) (w : World) (h : Lib.IsBuilder 114 5 B b bs w) :
    Calls Try.prog 103 #[.pointer (some ⟨b, 0, none⟩)] w fun e w' => e = .returned (.int .i64 bs.length) ∧ w' = w := Any.Builder_Len Try.lays170 B b bs w h
def Try.lays169_ren : Go.Shelf.Ren := ⟨fun | 169 => 91 | n => n, fun | 70 => 112 | 9 => 9 | 0 => 0 | 72 => 114 | 37 => 22 | 127 => 120 | 3 => 3 | 5 => 5 | n => n, fun | n => n⟩
theorem Try.lays169 : Go.Proofs.Lays.n169 Try.prog Try.lays169_ren := {
  mixed := by kernel_rfl
  f169 := Try.func91.trans (congrArg some (by kernel_rfl))
  t0 := Try.underlying0
  a0 := Try.isAgg0
  z0 := Try.sizeOf0
  v0 := Try.zeroValue0
  t3 := Try.underlying3
  a3 := Try.isAgg3
  z3 := Try.sizeOf3
  v3 := Try.zeroValue3
  t9 := Try.underlying9
  a9 := Try.isAgg9
  z9 := Try.sizeOf9
  v9 := Try.zeroValue9
  t37 := Try.underlying22
  a37 := Try.isAgg22
  z37 := Try.sizeOf22
  v37 := Try.zeroValue22
  t70 := Try.underlying112
  a70 := Try.isAgg112
  z70 := Try.sizeOf112
  v70 := Try.zeroValue112
  t72 := Try.underlying114
  a72 := Try.isAgg114
  z72 := Try.sizeOf114
  v72 := Try.zeroValue114
  t127 := Try.underlying120
  a127 := Try.isAgg120
  z127 := Try.sizeOf120
  v127 := Try.zeroValue120 }
theorem Try.Builder_Extra_169 : Builder.Extra Try.prog Try.lays169_ren := {
  sizeBuilder := by kernel_rfl
  liesBuilder := by kernel_rfl
  t5 := Try.underlying5
  a5 := Try.isAgg5
  z5 := Try.sizeOf5
  v5 := Try.zeroValue5
  infoByte := by kernel_rfl
  cellsByte := by kernel_rfl
  sizeByte := by kernel_rfl
  neB5 := by decide }
open Go.RowKit in
/-- (*strings.Builder).String: "String returns the accumulated string.": OF A BUILDER THAT HOLDS AT LEAST ONE BYTE. ✋ THE MODEL FREEZES THOSE BYTES IN THE BUFFER (unsafe.String): a later write INTO them ends the model's run without an answer; a later append BEHIND them goes on. The statement's order of evaluation is drawn: one draw. (LAID: no walk: one application.) -/
theorem Try.Builder_String (B b : Nat) (l : List UInt8) (w : World) (h : Lib.IsBuilder 114 5 B b (Lib.byteCells l) w) (h0 : l ≠ []) :
    Calls Try.prog 91 #[.pointer (some ⟨b, 0, none⟩)] w fun e w' => e = .returned (.string ⟨l.toArray⟩) ∧ Below B w w' := Any.Builder_String Try.lays169 Try.Builder_Extra_169 B b l w h h0
open Go.RowKit in
/-- (*strings.Builder).String OF A BUILDER THAT HOLDS NO BYTE: the empty string. (Its buffer is nil, or a row of which it has taken nothing yet; where that row has NO capacity the model lays one new block for unsafe.SliceData's 'some address'.) One draw. (LAID: no walk: one application.) -/
theorem Try.Builder_String_empty (B b : Nat) (w : World) (h : Lib.IsBuilder 114 5 B b [] w) (hBw : B ≤ w.heap.size) :
    Calls Try.prog 91 #[.pointer (some ⟨b, 0, none⟩)] w fun e w' => e = .returned (.string ⟨#[]⟩) ∧ Below B w w' := Any.Builder_String_empty Try.lays169 Try.Builder_Extra_169 B b w h hBw
open Go.RowKit in
/-- (*strings.Builder).String: "String returns the accumulated string.": WHATEVER THE BUILDER HOLDS. (LAID: no walk: one application.) -/
theorem Try.Builder_String_any (B b : Nat) (l : List UInt8) (w : World) (h : Lib.IsBuilder 114 5 B b (Lib.byteCells l) w) (hBw : B ≤ w.heap.size) :
    Calls Try.prog 91 #[.pointer (some ⟨b, 0, none⟩)] w fun e w' => e = .returned (.string ⟨l.toArray⟩) ∧ Below B w w' := Any.Builder_String_any Try.lays169 Try.Builder_Extra_169 B b l w h hBw
def Try.lays241_ren : Go.Shelf.Ren := ⟨fun | 241 => 99 | 277 => 105 | n => n, fun | 70 => 112 | 3 => 3 | 0 => 0 | 72 => 114 | 37 => 22 | 5 => 5 | n => n, fun | n => n⟩
theorem Try.lays241 : Go.Proofs.Lays.n241 Try.prog Try.lays241_ren := {
  mixed := by kernel_rfl
  f241 := Try.func99.trans (congrArg some (by kernel_rfl))
  f277 := Try.func105.trans (congrArg some (by kernel_rfl))
  t0 := Try.underlying0
  a0 := Try.isAgg0
  z0 := Try.sizeOf0
  v0 := Try.zeroValue0
  t3 := Try.underlying3
  a3 := Try.isAgg3
  z3 := Try.sizeOf3
  v3 := Try.zeroValue3
  t37 := Try.underlying22
  a37 := Try.isAgg22
  z37 := Try.sizeOf22
  v37 := Try.zeroValue22
  t70 := Try.underlying112
  a70 := Try.isAgg112
  z70 := Try.sizeOf112
  v70 := Try.zeroValue112
  t72 := Try.underlying114
  a72 := Try.isAgg114
  z72 := Try.sizeOf114
  v72 := Try.zeroValue114 }
theorem Try.Builder_Extra_241 : Builder.Extra Try.prog Try.lays241_ren := {
  sizeBuilder := by kernel_rfl
  liesBuilder := by kernel_rfl
  t5 := Try.underlying5
  a5 := Try.isAgg5
  z5 := Try.sizeOf5
  v5 := Try.zeroValue5
  infoByte := by kernel_rfl
  cellsByte := by kernel_rfl
  sizeByte := by kernel_rfl
  neB5 := by decide }
open Go.RowKit in
/-- (*strings.Builder).grow (no doc but "grow copies the buffer to a new, larger buffer so that there are at least n bytes of capacity beyond len(b.buf)."): AT A BUILDER WITHOUT A BUFFER: a new row of whatever bytes for its buffer, none of them its own yet. Three draws. (LAID: no walk: one application.) -/
theorem Try.Builder_grow_fresh (B b n : Nat) (w : World) (hB : B ≤ b) (hbk : w.heap[b]? = some (.cells #[.pointer (some ⟨b, 0, none⟩), .slice none 0 0] 114 (0, 0))) (hBw : B ≤ w.heap.size) (hn : n ≤ 281474976710656) :
    Calls Try.prog 99 #[.pointer (some ⟨b, 0, none⟩), .int .i64 n] w fun e w' => e = .returned (.tuple #[]) ∧ (Lib.BuilderAt 114 5 B b (.pointer (some ⟨b, 0, none⟩)) [] w' ∧ Below B w w') := Any.Builder_grow_fresh Try.lays241 Try.Builder_Extra_241 B b n w hB hbk hBw hn
def Try.lays165_ren : Go.Shelf.Ren := ⟨fun | 165 => 89 | 240 => 98 | 241 => 99 | 276 => 104 | 277 => 105 | n => n, fun | 70 => 112 | 3 => 3 | 0 => 0 | 4 => 4 | 9 => 9 | 20 => 20 | 72 => 114 | 37 => 22 | 164 => 127 | 5 => 5 | n => n, fun | n => n⟩
theorem Try.lays165 : Go.Proofs.Lays.n165 Try.prog Try.lays165_ren := {
  mixed := by kernel_rfl
  f165 := Try.func89.trans (congrArg some (by kernel_rfl))
  f240 := Try.func98.trans (congrArg some (by kernel_rfl))
  f241 := Try.func99.trans (congrArg some (by kernel_rfl))
  f276 := Try.func104.trans (congrArg some (by kernel_rfl))
  f277 := Try.func105.trans (congrArg some (by kernel_rfl))
  t0 := Try.underlying0
  a0 := Try.isAgg0
  z0 := Try.sizeOf0
  v0 := Try.zeroValue0
  t3 := Try.underlying3
  a3 := Try.isAgg3
  z3 := Try.sizeOf3
  v3 := Try.zeroValue3
  t4 := Try.underlying4
  a4 := Try.isAgg4
  z4 := Try.sizeOf4
  v4 := Try.zeroValue4
  t9 := Try.underlying9
  a9 := Try.isAgg9
  z9 := Try.sizeOf9
  v9 := Try.zeroValue9
  t20 := Try.underlying20
  a20 := Try.isAgg20
  z20 := Try.sizeOf20
  v20 := Try.zeroValue20
  t37 := Try.underlying22
  a37 := Try.isAgg22
  z37 := Try.sizeOf22
  v37 := Try.zeroValue22
  t70 := Try.underlying112
  a70 := Try.isAgg112
  z70 := Try.sizeOf112
  v70 := Try.zeroValue112
  t72 := Try.underlying114
  a72 := Try.isAgg114
  z72 := Try.sizeOf114
  v72 := Try.zeroValue114
  t164 := Try.underlying127
  a164 := Try.isAgg127
  z164 := Try.sizeOf127
  v164 := Try.zeroValue127 }
theorem Try.Builder_Extra_165 : Builder.Extra Try.prog Try.lays165_ren := {
  sizeBuilder := by kernel_rfl
  liesBuilder := by kernel_rfl
  t5 := Try.underlying5
  a5 := Try.isAgg5
  z5 := Try.sizeOf5
  v5 := Try.zeroValue5
  infoByte := by kernel_rfl
  cellsByte := by kernel_rfl
  sizeByte := by kernel_rfl
  neB5 := by decide }
open Go.RowKit in
/-- (*strings.Builder).Grow AT A BUILDER THAT HAS NOT BEEN WRITTEN ('var b strings.Builder; b.Grow(n)'): "Grow grows b's capacity, if necessary, to guarantee space for another n bytes.": it holds no byte behind it as before it. (LAID: no walk: one application.) -/
theorem Try.Builder_Grow_fresh (B b n : Nat) (w : World) (hB : B ≤ b) (hbk : w.heap[b]? = some (.cells #[.pointer none, .slice none 0 0] 114 (0, 0))) (hBw : B ≤ w.heap.size) (hn : n ≤ 281474976710656) :
    Calls Try.prog 89 #[.pointer (some ⟨b, 0, none⟩), .int .i64 n] w fun e w' => e = .returned (.tuple #[]) ∧ (Lib.BuilderAt 114 5 B b (.pointer (some ⟨b, 0, none⟩)) [] w' ∧ Below B w w') := Any.Builder_Grow_fresh Try.lays165 Try.Builder_Extra_165 B b n w hB hbk hBw hn
def Try.lays156_ren : Go.Shelf.Ren := ⟨fun | 156 => 76 | 165 => 89 | 166 => 90 | 169 => 91 | 240 => 98 | 241 => 99 | 276 => 104 | 277 => 105 | n => n, fun | 31 => 89 | 9 => 9 | 3 => 3 | 4 => 4 | 0 => 0 | 20 => 20 | 72 => 114 | 76 => 118 | 70 => 112 | 37 => 22 | 75 => 117 | 127 => 120 | 164 => 127 | 5 => 5 | 80 => 68 | n => n, fun | n => n⟩
theorem Try.lays156 : Go.Proofs.Lays.n156 Try.prog Try.lays156_ren := {
  mixed := by kernel_rfl
  f156 := Try.func76.trans (congrArg some (by kernel_rfl))
  f165 := Try.func89.trans (congrArg some (by kernel_rfl))
  f166 := Try.func90.trans (congrArg some (by kernel_rfl))
  f169 := Try.func91.trans (congrArg some (by kernel_rfl))
  f240 := Try.func98.trans (congrArg some (by kernel_rfl))
  f241 := Try.func99.trans (congrArg some (by kernel_rfl))
  f276 := Try.func104.trans (congrArg some (by kernel_rfl))
  f277 := Try.func105.trans (congrArg some (by kernel_rfl))
  t0 := Try.underlying0
  a0 := Try.isAgg0
  z0 := Try.sizeOf0
  v0 := Try.zeroValue0
  t3 := Try.underlying3
  a3 := Try.isAgg3
  z3 := Try.sizeOf3
  v3 := Try.zeroValue3
  t4 := Try.underlying4
  a4 := Try.isAgg4
  z4 := Try.sizeOf4
  v4 := Try.zeroValue4
  t9 := Try.underlying9
  a9 := Try.isAgg9
  z9 := Try.sizeOf9
  v9 := Try.zeroValue9
  t20 := Try.underlying20
  a20 := Try.isAgg20
  z20 := Try.sizeOf20
  v20 := Try.zeroValue20
  t31 := Try.underlying89
  a31 := Try.isAgg89
  z31 := Try.sizeOf89
  v31 := Try.zeroValue89
  t37 := Try.underlying22
  a37 := Try.isAgg22
  z37 := Try.sizeOf22
  v37 := Try.zeroValue22
  t70 := Try.underlying112
  a70 := Try.isAgg112
  z70 := Try.sizeOf112
  v70 := Try.zeroValue112
  t72 := Try.underlying114
  a72 := Try.isAgg114
  z72 := Try.sizeOf114
  v72 := Try.zeroValue114
  t75 := Try.underlying117
  a75 := Try.isAgg117
  z75 := Try.sizeOf117
  v75 := Try.zeroValue117
  t76 := Try.underlying118
  a76 := Try.isAgg118
  z76 := Try.sizeOf118
  v76 := Try.zeroValue118
  t127 := Try.underlying120
  a127 := Try.isAgg120
  z127 := Try.sizeOf120
  v127 := Try.zeroValue120
  t164 := Try.underlying127
  a164 := Try.isAgg127
  z164 := Try.sizeOf127
  v164 := Try.zeroValue127 }
theorem Try.Builder_Extra_156 : Builder.Extra Try.prog Try.lays156_ren := {
  sizeBuilder := by kernel_rfl
  liesBuilder := by kernel_rfl
  t5 := Try.underlying5
  a5 := Try.isAgg5
  z5 := Try.sizeOf5
  v5 := Try.zeroValue5
  infoByte := by kernel_rfl
  cellsByte := by kernel_rfl
  sizeByte := by kernel_rfl
  neB5 := by decide }
open Go.RowKit in
/-- No element: the empty string; the world is as it was. (Whatever the slice's address and capacity: a nil slice too.) (LAID: no walk: one application.) -/
theorem Try.strings_Join_none (a : Option Addr) (c : Nat) (sep : ByteArray) (w : World) :
    Calls Try.prog 76 #[.slice a 0 c, .string sep] w fun e w' => e = .returned (.string ⟨#[]⟩) ∧ w' = w := Any.strings_Join_none Try.lays156 Try.Builder_Extra_156 a c sep w
open Go.RowKit in
/-- strings.Join: "Join concatenates the elements of its first argument to create a single string. The separator string sep is placed between elements in the resulting string.": HOWEVER MANY ELEMENTS. Below the heap's end the world is as it was. (LAID: no walk: one application.) -/
theorem Try.strings_Join (bk o c : Nat) (xs : List ByteArray) (sep : ByteArray) (w : World) (hcells : ∀ (j : Nat) x, xs[j]? = some x → w.cell? ⟨bk, o + j, none⟩ = some (.string x)) (hbk : bk < w.heap.size) (hN : xs.length ≤ 140737488355328) (hcap : xs.length ≤ c) (hlen : (Lib.join (xs.map (·.data.toList)) sep.data.toList).length ≤ 140737488355328) :
    Calls Try.prog 76 #[.slice (some ⟨bk, o, none⟩) xs.length c, .string sep] w fun e w' => e = .returned (.string ⟨(Lib.join (xs.map (·.data.toList)) sep.data.toList).toArray⟩) ∧ Below w.heap.size w w' := Any.strings_Join Try.lays156 Try.Builder_Extra_156 bk o c xs sep w hcells hbk hN hcap hlen
def Try.lays137_ren : Go.Shelf.Ren := ⟨fun | 137 => 115 | 217 => 116 | 266 => 117 | n => n, fun | 9 => 9 | 5 => 5 | 3 => 3 | n => n, fun | n => n⟩
theorem Try.lays137 : Go.Proofs.Lays.n137 Try.prog Try.lays137_ren := {
  mixed := by kernel_rfl
  f137 := Try.func115.trans (congrArg some (by kernel_rfl))
  f217 := Try.func116.trans (congrArg some (by kernel_rfl))
  f266 := Try.func117.trans (congrArg some (by kernel_rfl))
  t3 := Try.underlying3
  a3 := Try.isAgg3
  z3 := Try.sizeOf3
  v3 := Try.zeroValue3
  t5 := Try.underlying5
  a5 := Try.isAgg5
  z5 := Try.sizeOf5
  v5 := Try.zeroValue5
  t9 := Try.underlying9
  a9 := Try.isAgg9
  z9 := Try.sizeOf9
  v9 := Try.zeroValue9 }
open Go.RowKit in
/-- strings.IndexByte: "IndexByte returns the index of the first instance of c in s, or -1 if c is not present in s.": IT RETURNS 'Lib.indexByte s c'; the world is as it was. (LAID: no walk: one application.) -/
theorem Try.strings_IndexByte (s : ByteArray) (c : Int) (w : World) :
    Calls Try.prog 115 #[.string s, .int .u8 c] w fun e w' => e = .returned (.int .i64 (Lib.indexByte s.data.toList c.toNat.toUInt8)) ∧ w' = w := Any.strings_IndexByte Try.lays137 s c w
open Go.RowKit in
/-- (*strings.Builder).Len: "Len returns the number of accumulated bytes; b.Len() == len(b.String()).": the world is as it was. (THE FORM '_f': 'Lib.IsBuilderF'.) (LAID: no walk: one application.) -/
theorem Try.Builder_Len_f (B b : Nat) (bs : List Value) (w : World) (h : Lib.IsBuilderF 114 5 B b bs w) :
    Calls Try.prog 103 #[.pointer (some ⟨b, 0, none⟩)] w fun e w' => e = .returned (.int .i64 bs.length) ∧ w' = w := Any.Builder_Len_f Try.lays170 B b bs w h
open Go.RowKit in
/-- (*strings.Builder).String: "String returns the accumulated string.": OF A BUILDER THAT HOLDS AT LEAST ONE BYTE. ✋ THE MODEL FREEZES THOSE BYTES IN THE BUFFER (unsafe.String): a later write INTO them ends the model's run without an answer; a later append BEHIND them goes on. The statement's order of evaluation is drawn: one draw. THE FORM '_f': IT SAYS BESIDES THAT THE BUILDER IS A BUILDER STILL ('Lib.IsBuilderF', the same bytes): SO IT CAN BE WRITTEN ON: 'b.WriteString(b.String()[:k])'. (LAID: no walk: one application.) -/
theorem Try.Builder_String_f (B b : Nat) (l : List UInt8) (w : World) (h : Lib.IsBuilderF 114 5 B b (Lib.byteCells l) w) (h0 : l ≠ []) :
    Calls Try.prog 91 #[.pointer (some ⟨b, 0, none⟩)] w fun e w' => e = .returned (.string ⟨l.toArray⟩) ∧ (Lib.IsBuilderF 114 5 B b (Lib.byteCells l) w' ∧ Below B w w') := Any.Builder_String_f Try.lays169 Try.Builder_Extra_169 B b l w h h0
open Go.RowKit in
/-- (*strings.Builder).String OF A BUILDER THAT HOLDS NO BYTE: the empty string; THE FORM '_f': a builder still. (LAID: no walk: one application.) -/
theorem Try.Builder_String_empty_f (B b : Nat) (w : World) (h : Lib.IsBuilderF 114 5 B b [] w) (hBw : B ≤ w.heap.size) :
    Calls Try.prog 91 #[.pointer (some ⟨b, 0, none⟩)] w fun e w' => e = .returned (.string ⟨#[]⟩) ∧ (Lib.IsBuilderF 114 5 B b [] w' ∧ Below B w w') := Any.Builder_String_empty_f Try.lays169 Try.Builder_Extra_169 B b w h hBw
open Go.RowKit in
/-- (*strings.Builder).String: "String returns the accumulated string.": WHATEVER THE BUILDER HOLDS; THE FORM '_f': OF A BUILDER THAT MAY HAVE BEEN READ BEFORE; AND IT IS A BUILDER STILL, holding the same bytes: it can be written on. (LAID: no walk: one application.) -/
theorem Try.Builder_String_any_f (B b : Nat) (l : List UInt8) (w : World) (h : Lib.IsBuilderF 114 5 B b (Lib.byteCells l) w) (hBw : B ≤ w.heap.size) :
    Calls Try.prog 91 #[.pointer (some ⟨b, 0, none⟩)] w fun e w' => e = .returned (.string ⟨l.toArray⟩) ∧ (Lib.IsBuilderF 114 5 B b (Lib.byteCells l) w' ∧ Below B w w') := Any.Builder_String_any_f Try.lays169 Try.Builder_Extra_169 B b l w h hBw
def Try.lays217_ren : Go.Shelf.Ren := ⟨fun | 217 => 116 | 266 => 117 | n => n, fun | 9 => 9 | 5 => 5 | 3 => 3 | n => n, fun | n => n⟩
theorem Try.lays217 : Go.Proofs.Lays.n217 Try.prog Try.lays217_ren := {
  mixed := by kernel_rfl
  f217 := Try.func116.trans (congrArg some (by kernel_rfl))
  f266 := Try.func117.trans (congrArg some (by kernel_rfl))
  t3 := Try.underlying3
  a3 := Try.isAgg3
  z3 := Try.sizeOf3
  v3 := Try.zeroValue3
  t5 := Try.underlying5
  a5 := Try.isAgg5
  z5 := Try.sizeOf5
  v5 := Try.zeroValue5
  t9 := Try.underlying9
  a9 := Try.isAgg9
  z9 := Try.sizeOf9
  v9 := Try.zeroValue9 }
open Go.RowKit Go.Lib in
/-- internal/stringslite.IndexByte (what strings.IndexByte calls): IT RETURNS 'Lib.indexByte s c'; the world is as it was. (LAID: no walk: one application.) -/
theorem Try.stringslite_IndexByte (s : ByteArray) (c : Int) (w : World) :
    Calls Try.prog 116 #[.string s, .int .u8 c] w fun e w' => e = .returned (.int .i64 (Lib.indexByte s.data.toList c.toNat.toUInt8)) ∧ w' = w := Any.stringslite_IndexByte Try.lays217 s c w
def Try.lays206_ren : Go.Shelf.Ren := ⟨fun | 206 => 111 | n => n, fun | 9 => 9 | 4 => 4 | 3 => 3 | n => n, fun | n => n⟩
theorem Try.lays206 : Go.Proofs.Lays.n206 Try.prog Try.lays206_ren := {
  mixed := by kernel_rfl
  f206 := Try.func111.trans (congrArg some (by kernel_rfl))
  t3 := Try.underlying3
  a3 := Try.isAgg3
  z3 := Try.sizeOf3
  v3 := Try.zeroValue3
  t4 := Try.underlying4
  a4 := Try.isAgg4
  z4 := Try.sizeOf4
  v4 := Try.zeroValue4
  t9 := Try.underlying9
  a9 := Try.isAgg9
  z9 := Try.sizeOf9
  v9 := Try.zeroValue9 }
open Go.RowKit Go.Lib in
/-- internal/stringslite.HasPrefix (what strings.HasPrefix calls). (LAID: no walk: one application.) -/
theorem Try.stringslite_HasPrefix (s p : ByteArray) (w : World) :
    Calls Try.prog 111 #[.string s, .string p] w fun e w' => e = .returned (.bool (Lib.hasPrefix s.data.toList p.data.toList)) ∧ w' = w := Any.stringslite_HasPrefix Try.lays206 s p w
def Try.lays99_ren : Go.Shelf.Ren := ⟨fun | 99 => 102 | 206 => 111 | n => n, fun | 9 => 9 | 4 => 4 | 3 => 3 | n => n, fun | n => n⟩
theorem Try.lays99 : Go.Proofs.Lays.n99 Try.prog Try.lays99_ren := {
  mixed := by kernel_rfl
  f99 := Try.func102.trans (congrArg some (by kernel_rfl))
  f206 := Try.func111.trans (congrArg some (by kernel_rfl))
  t3 := Try.underlying3
  a3 := Try.isAgg3
  z3 := Try.sizeOf3
  v3 := Try.zeroValue3
  t4 := Try.underlying4
  a4 := Try.isAgg4
  z4 := Try.sizeOf4
  v4 := Try.zeroValue4
  t9 := Try.underlying9
  a9 := Try.isAgg9
  z9 := Try.sizeOf9
  v9 := Try.zeroValue9 }
open Go.RowKit Go.Lib in
/-- strings.HasPrefix: "HasPrefix reports whether the string s begins with prefix.": IT RETURNS 'Lib.hasPrefix s prefix'; the world is as it was. (LAID: no walk: one application.) -/
theorem Try.strings_HasPrefix (s p : ByteArray) (w : World) :
    Calls Try.prog 102 #[.string s, .string p] w fun e w' => e = .returned (.bool (Lib.hasPrefix s.data.toList p.data.toList)) ∧ w' = w := Any.strings_HasPrefix Try.lays99 s p w
def Try.lays264_ren : Go.Shelf.Ren := ⟨fun | 264 => 110 | n => n, fun | 53 => 134 | 46 => 123 | n => n, fun | n => n⟩
theorem Try.lays264 : Go.Proofs.Lays.n264 Try.prog Try.lays264_ren := {
  mixed := by kernel_rfl
  f264 := Try.func110.trans (congrArg some (by kernel_rfl))
  t46 := Try.underlying123
  a46 := Try.isAgg123
  z46 := Try.sizeOf123
  v46 := Try.zeroValue123
  t53 := Try.underlying134
  a53 := Try.isAgg134
  z53 := Try.sizeOf134
  v53 := Try.zeroValue134 }
open Go.RowKit Go.Lib in
theorem Try.bits_Mul64 (x y : Nat) (hx : x < 18446744073709551616) (hy : y < 18446744073709551616) (w : World) :
    Calls Try.prog 110 #[.int .u64 x, .int .u64 y] w fun e w' => e = .returned (.tuple #[.int .u64 ((x * y / 18446744073709551616 : Nat) : Int), .int .u64 ((x * y % 18446744073709551616 : Nat) : Int)]) ∧ w' = w := Any.bits_Mul64 Try.lays264 x y hx hy w
def Try.lays212_ren : Go.Shelf.Ren := ⟨fun | 212 => 101 | 263 => 109 | 264 => 110 | n => n, fun | 46 => 123 | 51 => 131 | 146 => 132 | 53 => 134 | 148 => 135 | n => n, fun | n => n⟩
theorem Try.lays212 : Go.Proofs.Lays.n212 Try.prog Try.lays212_ren := {
  mixed := by kernel_rfl
  f212 := Try.func101.trans (congrArg some (by kernel_rfl))
  f263 := Try.func109.trans (congrArg some (by kernel_rfl))
  f264 := Try.func110.trans (congrArg some (by kernel_rfl))
  t46 := Try.underlying123
  a46 := Try.isAgg123
  z46 := Try.sizeOf123
  v46 := Try.zeroValue123
  t51 := Try.underlying131
  a51 := Try.isAgg131
  z51 := Try.sizeOf131
  v51 := Try.zeroValue131
  t53 := Try.underlying134
  a53 := Try.isAgg134
  z53 := Try.sizeOf134
  v53 := Try.zeroValue134
  t146 := Try.underlying132
  a146 := Try.isAgg132
  z146 := Try.sizeOf132
  v146 := Try.zeroValue132
  t148 := Try.underlying135
  a148 := Try.isAgg135
  z148 := Try.sizeOf135
  v148 := Try.zeroValue135 }
open Go.RowKit Go.Lib in
/-- math/bits.Mul: "Mul returns the full-width product of x and y": on a machine of 64 bits: Mul64's. (LAID: no walk: one application.) -/
theorem Try.bits_Mul (x y : Nat) (hx : x < 18446744073709551616) (hy : y < 18446744073709551616) (w : World) :
    Calls Try.prog 101 #[.int .u64 x, .int .u64 y] w fun e w' => e = .returned (.tuple #[.int .u64 ((x * y / 18446744073709551616 : Nat) : Int), .int .u64 ((x * y % 18446744073709551616 : Nat) : Int)]) ∧ w' = w := Any.bits_Mul Try.lays212 x y hx hy w
def Try.lays105_ren : Go.Shelf.Ren := ⟨fun | 105 => 97 | 212 => 101 | 99 => 102 | 165 => 89 | 166 => 90 | 170 => 103 | 169 => 91 | 263 => 109 | 264 => 110 | 206 => 111 | 240 => 98 | 241 => 99 | 276 => 104 | 277 => 105 | n => n, fun | 9 => 9 | 3 => 3 | 4 => 4 | 20 => 20 | 0 => 0 | 46 => 123 | 109 => 124 | 5 => 5 | 72 => 114 | 76 => 118 | 51 => 131 | 146 => 132 | 53 => 134 | 148 => 135 | 70 => 112 | 37 => 22 | 75 => 117 | 127 => 120 | 164 => 127 | 80 => 68 | n => n, fun | n => n⟩
theorem Try.lays105 : Go.Proofs.Lays.n105 Try.prog Try.lays105_ren := {
  mixed := by kernel_rfl
  f99 := Try.func102.trans (congrArg some (by kernel_rfl))
  f105 := Try.func97.trans (congrArg some (by kernel_rfl))
  f165 := Try.func89.trans (congrArg some (by kernel_rfl))
  f166 := Try.func90.trans (congrArg some (by kernel_rfl))
  f169 := Try.func91.trans (congrArg some (by kernel_rfl))
  f170 := Try.func103.trans (congrArg some (by kernel_rfl))
  f206 := Try.func111.trans (congrArg some (by kernel_rfl))
  f212 := Try.func101.trans (congrArg some (by kernel_rfl))
  f240 := Try.func98.trans (congrArg some (by kernel_rfl))
  f241 := Try.func99.trans (congrArg some (by kernel_rfl))
  f263 := Try.func109.trans (congrArg some (by kernel_rfl))
  f264 := Try.func110.trans (congrArg some (by kernel_rfl))
  f276 := Try.func104.trans (congrArg some (by kernel_rfl))
  f277 := Try.func105.trans (congrArg some (by kernel_rfl))
  t0 := Try.underlying0
  a0 := Try.isAgg0
  z0 := Try.sizeOf0
  v0 := Try.zeroValue0
  t3 := Try.underlying3
  a3 := Try.isAgg3
  z3 := Try.sizeOf3
  v3 := Try.zeroValue3
  t4 := Try.underlying4
  a4 := Try.isAgg4
  z4 := Try.sizeOf4
  v4 := Try.zeroValue4
  t5 := Try.underlying5
  a5 := Try.isAgg5
  z5 := Try.sizeOf5
  v5 := Try.zeroValue5
  t9 := Try.underlying9
  a9 := Try.isAgg9
  z9 := Try.sizeOf9
  v9 := Try.zeroValue9
  t20 := Try.underlying20
  a20 := Try.isAgg20
  z20 := Try.sizeOf20
  v20 := Try.zeroValue20
  t37 := Try.underlying22
  a37 := Try.isAgg22
  z37 := Try.sizeOf22
  v37 := Try.zeroValue22
  t46 := Try.underlying123
  a46 := Try.isAgg123
  z46 := Try.sizeOf123
  v46 := Try.zeroValue123
  t51 := Try.underlying131
  a51 := Try.isAgg131
  z51 := Try.sizeOf131
  v51 := Try.zeroValue131
  t53 := Try.underlying134
  a53 := Try.isAgg134
  z53 := Try.sizeOf134
  v53 := Try.zeroValue134
  t70 := Try.underlying112
  a70 := Try.isAgg112
  z70 := Try.sizeOf112
  v70 := Try.zeroValue112
  t72 := Try.underlying114
  a72 := Try.isAgg114
  z72 := Try.sizeOf114
  v72 := Try.zeroValue114
  t75 := Try.underlying117
  a75 := Try.isAgg117
  z75 := Try.sizeOf117
  v75 := Try.zeroValue117
  t76 := Try.underlying118
  a76 := Try.isAgg118
  z76 := Try.sizeOf118
  v76 := Try.zeroValue118
  t109 := Try.underlying124
  a109 := Try.isAgg124
  z109 := Try.sizeOf124
  v109 := Try.zeroValue124
  t127 := Try.underlying120
  a127 := Try.isAgg120
  z127 := Try.sizeOf120
  v127 := Try.zeroValue120
  t146 := Try.underlying132
  a146 := Try.isAgg132
  z146 := Try.sizeOf132
  v146 := Try.zeroValue132
  t148 := Try.underlying135
  a148 := Try.isAgg135
  z148 := Try.sizeOf135
  v148 := Try.zeroValue135
  t164 := Try.underlying127
  a164 := Try.isAgg127
  z164 := Try.sizeOf127
  v164 := Try.zeroValue127 }
theorem Try.Builder_Extra_105 : Builder.Extra Try.prog Try.lays105_ren := {
  sizeBuilder := by kernel_rfl
  liesBuilder := by kernel_rfl
  t5 := Try.underlying5
  a5 := Try.isAgg5
  z5 := Try.sizeOf5
  v5 := Try.zeroValue5
  infoByte := by kernel_rfl
  cellsByte := by kernel_rfl
  sizeByte := by kernel_rfl
  neB5 := by decide }
open Go.RowKit Go.Lib in
/-- THE MAIN CASE: at least two copies of a string that is not empty. (LAID: no walk: one application.) -/
theorem Try.strings_Repeat_main (s : ByteArray) (c : Nat) (w : World) (hc2 : 2 ≤ c) (hc : c ≤ 9223372036854775807) (hlen : s.size * c ≤ 140737488355328) (h0 : 0 < s.size) :
    Calls Try.prog 97 #[.string s, .int .i64 c] w fun e w' => e = .returned (.string ⟨(Lib.repeatL s.data.toList c).toArray⟩) ∧ Below w.heap.size w w' := Any.strings_Repeat_main Try.lays105 Try.Builder_Extra_105 s c w hc2 hc hlen h0
open Go.RowKit Go.Lib in
theorem Try.strings_Repeat_zero (s : ByteArray) (w : World) :
    Calls Try.prog 97 #[.string s, .int .i64 0] w fun e w' => e = .returned (.string ⟨#[]⟩) ∧ w' = w := Any.strings_Repeat_zero Try.lays105 s w
open Go.RowKit Go.Lib in
theorem Try.strings_Repeat_one (s : ByteArray) (w : World) :
    Calls Try.prog 97 #[.string s, .int .i64 1] w fun e w' => e = .returned (.string s) ∧ w' = w := Any.strings_Repeat_one Try.lays105 s w
open Go.RowKit Go.Lib in
/-- Copies of the empty string. (LAID: no walk: one application.) -/
theorem Try.strings_Repeat_empty (s : ByteArray) (c : Nat) (w : World) (hc2 : 2 ≤ c) (hc : c ≤ 9223372036854775807) (h0 : s.size = 0) :
    Calls Try.prog 97 #[.string s, .int .i64 c] w fun e w' => e = .returned (.string ⟨#[]⟩) ∧ w' = w := Any.strings_Repeat_empty Try.lays105 s c w hc2 hc h0
open Go.RowKit Go.Lib in
/-- count < 0: "It panics if count is negative". (LAID: no walk: one application.) -/
theorem Try.strings_Repeat_negative (s : ByteArray) (c : Int) (w : World) (hc : c < 0) :
    Calls Try.prog 97 #[.string s, .int .i64 c] w fun e w' => e = .panicked [{ v := repeatPanic Try.lays105_ren "strings: negative Repeat count", recovered := false }] ∧ w' = w := Any.strings_Repeat_negative Try.lays105 s c w hc
open Go.RowKit Go.Lib in
/-- len(s) * count is no int: ".. or if the result of (len(s) * count) overflows". (LAID: no walk: one application.) -/
theorem Try.strings_Repeat_overflow (s : ByteArray) (c : Nat) (w : World) (hc : c ≤ 9223372036854775807) (hs : s.size ≤ 9223372036854775807) (hbig : 9223372036854775807 < s.size * c) :
    Calls Try.prog 97 #[.string s, .int .i64 c] w fun e w' => e = .panicked [{ v := repeatPanic Try.lays105_ren "strings: Repeat output length overflow", recovered := false }] ∧ w' = w := Any.strings_Repeat_overflow Try.lays105 s c w hc hs hbig
open Go.RowKit Go.Lib in
/-- **strings.Repeat: count ≥ 0, the result within one allocation: count copies of s.** (LAID: no walk: one application.) -/
theorem Try.strings_Repeat (s : ByteArray) (c : Nat) (w : World) (hc : c ≤ 9223372036854775807) (hlen : s.size * c ≤ 140737488355328) :
    Calls Try.prog 97 #[.string s, .int .i64 c] w fun e w' => e = .returned (.string ⟨(Lib.repeatL s.data.toList c).toArray⟩) ∧ Below w.heap.size w w' := Any.strings_Repeat Try.lays105 Try.Builder_Extra_105 s c w hc hlen
end Go.Proofs
set_option linter.unusedSimpArgs false
set_option linter.unusedVariables false
namespace Go.Proofs.Ytemjlopoffjmpaa.Abs
open Go

/-- acct.Used, given what data.Parts says. -/
def usedA (f : List UInt8 → Nat) (s : List Node) : Nat := (s.map fun x => f x.body).sum

theorem usedA_take (f : List UInt8 → Nat) (s : List Node) (i : Nat) (h : i < s.length) : usedA f (s.take (i + 1)) = usedA f (s.take i) + f (s.getD i default).body := by
  unfold usedA
  rw [List.take_add_one, List.getElem?_eq_getElem h, List.map_append, List.sum_append]
  simp only [List.getD_eq_getElem?_getD, List.getElem?_eq_getElem h, Option.getD_some, Option.toList_some, List.map_cons, List.map_nil, List.sum_cons, List.sum_nil, Nat.add_zero]
theorem usedA_le (f : List UInt8 → Nat) (hf : ∀ b, f b ≤ 4) : ∀ s, usedA f s ≤ 4 * s.length
  | [] => by simp [usedA]
  | x :: s => by
    have h1 := usedA_le f hf s
    have h2 := hf x.body
    simp only [usedA, List.map_cons, List.sum_cons, List.length_cons] at h1 ⊢
    omega

theorem used_spec0 (f : List UInt8 → Nat) (hp : ∀ b H, C Try.prog 39 [.str b] H (fun x H' => x = .int .i64 (f b) ∧ H' = H)) (hf : ∀ b, f b ≤ 4) (s : List Node) (hs : s.length ≤ 1000000) :
    C Try.prog 14 [aset s] [] (fun x _ => x = .int .i64 (usedA f s)) := by
  refine C_body d14 rfl (WT_ok ?_)
  unfold c14
  simp only [aset, wk, iaddrV_map, emb, unAgg, ares, aresL, ares1, tupled, forall_const, Nat.reduceAdd, Nat.reduceSub, Nat.reduceMul, Nat.reduceLeDiff, Nat.reduceEqDiff, Nat.reduceBEq, Int.reduceLE, Int.reduceLT, Int.reduceEq, Int.reduceNe, Int.reduceAdd, Int.reduceSub, Int.reduceToNat, Int.reduceNeg, ↓reduceIte, reduceCtorEq, cellsOf, cellA, lay, fillA]
  refine WT_loop (W_loop (fun n fr H' => ∃ i : Nat, i ≤ s.length ∧ n = s.length - i ∧ H' = [] ∧ fr = [.fz (s.map pnode), .top, .int .i64 0, .int .i64 (usedA f (s.take i)), .top, .top, .fz (s.map pnode), .int .i64 s.length, .int .i64 i, .top, .top, .top, .top, .top, .top, .top, .top, .top, .top]) s.length ⟨0, by omega, rfl, rfl, rfl⟩ ?_)
  rintro n fr H' ⟨i, hi, rfl, rfl, rfl⟩
  refine WT_ok ?_
  simp only [wk, iaddrV_map, emb, unAgg, ares, aresL, ares1, tupled, forall_const, Nat.reduceAdd, Nat.reduceSub, Nat.reduceMul, Nat.reduceLeDiff, Nat.reduceEqDiff, Nat.reduceBEq, Int.reduceLE, Int.reduceLT, Int.reduceEq, Int.reduceNe, Int.reduceAdd, Int.reduceSub, Int.reduceToNat, Int.reduceNeg, ↓reduceIte, reduceCtorEq, cellsOf, cellA, lay, fillA]
  refine guard_both ?_ ?_ <;> intro h <;> simp only [hy] at h <;> simp only [h, wk, iaddrV_map, emb, unAgg, ares, aresL, ares1, tupled, forall_const, Nat.reduceAdd, Nat.reduceSub, Nat.reduceMul, Nat.reduceLeDiff, Nat.reduceEqDiff, Nat.reduceBEq, Int.reduceLE, Int.reduceLT, Int.reduceEq, Int.reduceNe, Int.reduceAdd, Int.reduceSub, Int.reduceToNat, Int.reduceNeg, ↓reduceIte, reduceCtorEq, cellsOf, cellA, lay, fillA]
  · have hil : i < s.length := by omega
    refine ⟨⟨by omega, rfl⟩, ?_⟩
    simp only [pnode, wk, iaddrV_map, emb, unAgg, ares, aresL, ares1, tupled, forall_const, Nat.reduceAdd, Nat.reduceSub, Nat.reduceMul, Nat.reduceLeDiff, Nat.reduceEqDiff, Nat.reduceBEq, Int.reduceLE, Int.reduceLT, Int.reduceEq, Int.reduceNe, Int.reduceAdd, Int.reduceSub, Int.reduceToNat, Int.reduceNeg, ↓reduceIte, reduceCtorEq, cellsOf, cellA, lay, fillA]
    refine CT_ok (hp _ _) ?_
    rintro _ _ ⟨rfl, rfl⟩
    have hb := usedA_le f hf (s.take i)
    have hb2 := hf (s.getD i default).body
    rw [List.length_take] at hb
    have w1 : IntKind.i64.wrap ((usedA f (s.take i) : Int) + (f (s.getD i default).body : Int)) = (usedA f (s.take i) : Int) + (f (s.getD i default).body : Int) := IntWalk.i64_in _ (by omega)
    have w2 : IntKind.i64.wrap ((i : Int) + 1) = (i : Int) + 1 := IntWalk.i64_in _ (by omega)
    simp only [w1, w2, wk, iaddrV_map, emb, unAgg, ares, aresL, ares1, tupled, forall_const, Nat.reduceAdd, Nat.reduceSub, Nat.reduceMul, Nat.reduceLeDiff, Nat.reduceEqDiff, Nat.reduceBEq, Int.reduceLE, Int.reduceLT, Int.reduceEq, Int.reduceNe, Int.reduceAdd, Int.reduceSub, Int.reduceToNat, Int.reduceNeg, ↓reduceIte, reduceCtorEq, cellsOf, cellA, lay, fillA]
    refine QLoop_wk (n' := s.length - (i + 1)) (by omega) ⟨i + 1, by omega, rfl, rfl, rfl⟩ (Wk_clear ?_)
    simp only [renL, ren, upTo_zero, Tops_top, Tops_same, Tops_nil, usedA_take f s i hil, Int.natCast_add, Int.natCast_one]
  · have : i = s.length := by omega
    subst this
    rw [List.take_length]
end Go.Proofs.Ytemjlopoffjmpaa.Abs
set_option linter.unusedSimpArgs false
set_option linter.unusedVariables false
namespace Go.Proofs.Ytemjlopoffjmpaa.Abs
open Go

theorem used_spec (f : List UInt8 → Nat) (hp : ∀ b H, C Try.prog 39 [.str b] H (fun x H' => x = .int .i64 (f b) ∧ H' = H)) (hf : ∀ b, f b ≤ 4) (s : List Node) (hs : s.length ≤ 1000000) (H : AH) :
    C Try.prog 14 [aset s] H (fun x H' => x = .int .i64 (usedA f s) ∧ H' = H) :=
  C_flat (K0 := fun x _ => x = .int .i64 (usedA f s)) (used_spec0 f hp hf s hs) (by rintro x _ rfl; exact ⟨rfl, rfl, rfl⟩)

structure Dset where
  id : Int
  kind : Int
  origin : Int
  quota : Int
  files : List Node
  deriving DecidableEq, Inhabited
def pdset (x : Dset) : List PV := [.int .i64 x.id, .int .i64 x.kind, .int .i64 x.origin, .int .i64 x.quota, .fz (x.files.map pnode)]
def asets (l : List Dset) : AV := .fz (l.map pdset)

def kinds (s : List Node) : Nat := s.countP fun x => decide (x.kind ≠ 0)
def worst1 (f : List UInt8 → Nat) (s : List Node) : Nat := 1 + usedA f s + kinds s
theorem kinds_take (s : List Node) (i : Nat) (h : i < s.length) : kinds (s.take (i + 1)) = kinds (s.take i) + if (s.getD i default).kind = 0 then 0 else 1 := by
  unfold kinds
  rw [List.take_add_one, List.getElem?_eq_getElem h, List.countP_append]
  simp only [List.getD_eq_getElem?_getD, List.getElem?_eq_getElem h, Option.getD_some, Option.toList_some, List.countP_cons, List.countP_nil]
  by_cases hk : s[i].kind = 0 <;> simp [hk]
theorem kinds_le (s : List Node) : kinds s ≤ s.length := List.countP_le_length

theorem worst1_spec0 (f : List UInt8 → Nat) (hp : ∀ b H, C Try.prog 39 [.str b] H (fun x H' => x = .int .i64 (f b) ∧ H' = H)) (hf : ∀ b, f b ≤ 4) (a b c d : Int) (s : List Node) (hs : s.length ≤ 1000000) :
    C Try.prog 52 [.agg [.int .i64 a, .int .i64 b, .int .i64 c, .int .i64 d, aset s]] [] (fun x _ => x = .int .i64 (worst1 f s)) := by
  refine C_body d52 rfl (WT_ok ?_)
  unfold c52
  simp only [aset, wk, iaddrV_map, emb, unAgg, ares, aresL, ares1, tupled, forall_const, Nat.reduceAdd, Nat.reduceSub, Nat.reduceMul, Nat.reduceLeDiff, Nat.reduceEqDiff, Nat.reduceBEq, Int.reduceLE, Int.reduceLT, Int.reduceEq, Int.reduceNe, Int.reduceAdd, Int.reduceSub, Int.reduceToNat, Int.reduceNeg, ↓reduceIte, reduceCtorEq, cellsOf, cellA, lay, fillA]
  refine CT_ok (used_spec f hp hf s hs _) ?_
  rintro _ _ ⟨rfl, rfl⟩
  have hu := usedA_le f hf s
  have w1 : IntKind.i64.wrap (1 + (usedA f s : Int)) = 1 + (usedA f s : Int) := IntWalk.i64_in _ (by omega)
  simp only [w1, wk, iaddrV_map, emb, unAgg, ares, aresL, ares1, tupled, forall_const, Nat.reduceAdd, Nat.reduceSub, Nat.reduceMul, Nat.reduceLeDiff, Nat.reduceEqDiff, Nat.reduceBEq, Int.reduceLE, Int.reduceLT, Int.reduceEq, Int.reduceNe, Int.reduceAdd, Int.reduceSub, Int.reduceToNat, Int.reduceNeg, ↓reduceIte, reduceCtorEq, cellsOf, cellA, lay, fillA]
  refine WT_loop (W_wk (fr' := [.top, .top, .int .i64 0, .int .i64 (1 + (usedA f s : Int)), .top, .top, .top, .top, .top, .top, .top, .top, .top, .fz (s.map pnode), .int .i64 s.length, .int .i64 0, .top, .top, .top, .top, .top, .top, .top, .top, .top, .top]) (H' := []) (Wk_clear ?_) ?_)
  · simp only [renL, ren, upTo_zero, Tops_top, Tops_same, Tops_nil]
  refine W_loop (fun n fr H' => ∃ i : Nat, i ≤ s.length ∧ n = s.length - i ∧ H' = [] ∧ fr = [.top, .top, .int .i64 0, .int .i64 (1 + (usedA f s : Int) + (kinds (s.take i) : Int)), .top, .top, .top, .top, .top, .top, .top, .top, .top, .fz (s.map pnode), .int .i64 s.length, .int .i64 i, .top, .top, .top, .top, .top, .top, .top, .top, .top, .top]) s.length ⟨0, by omega, rfl, rfl, by simp [kinds]⟩ ?_
  rintro n fr H' ⟨i, hi, rfl, rfl, rfl⟩
  refine WT_ok ?_
  simp only [wk, iaddrV_map, emb, unAgg, ares, aresL, ares1, tupled, forall_const, Nat.reduceAdd, Nat.reduceSub, Nat.reduceMul, Nat.reduceLeDiff, Nat.reduceEqDiff, Nat.reduceBEq, Int.reduceLE, Int.reduceLT, Int.reduceEq, Int.reduceNe, Int.reduceAdd, Int.reduceSub, Int.reduceToNat, Int.reduceNeg, ↓reduceIte, reduceCtorEq, cellsOf, cellA, lay, fillA]
  refine guard_both ?_ ?_ <;> intro h <;> simp only [hy] at h <;> simp only [h, wk, iaddrV_map, emb, unAgg, ares, aresL, ares1, tupled, forall_const, Nat.reduceAdd, Nat.reduceSub, Nat.reduceMul, Nat.reduceLeDiff, Nat.reduceEqDiff, Nat.reduceBEq, Int.reduceLE, Int.reduceLT, Int.reduceEq, Int.reduceNe, Int.reduceAdd, Int.reduceSub, Int.reduceToNat, Int.reduceNeg, ↓reduceIte, reduceCtorEq, cellsOf, cellA, lay, fillA]
  · have hil : i < s.length := by omega
    refine ⟨⟨by omega, rfl⟩, ?_⟩
    simp only [pnode, wk, iaddrV_map, emb, unAgg, ares, aresL, ares1, tupled, forall_const, Nat.reduceAdd, Nat.reduceSub, Nat.reduceMul, Nat.reduceLeDiff, Nat.reduceEqDiff, Nat.reduceBEq, Int.reduceLE, Int.reduceLT, Int.reduceEq, Int.reduceNe, Int.reduceAdd, Int.reduceSub, Int.reduceToNat, Int.reduceNeg, ↓reduceIte, reduceCtorEq, cellsOf, cellA, lay, fillA]
    have hk := kinds_le (s.take i)
    rw [List.length_take] at hk
    have w2 : IntKind.i64.wrap (1 + (usedA f s : Int) + (kinds (s.take i) : Int) + 1) = 1 + (usedA f s : Int) + (kinds (s.take i) : Int) + 1 := IntWalk.i64_in _ (by omega)
    have w3 : IntKind.i64.wrap ((i : Int) + 1) = (i : Int) + 1 := IntWalk.i64_in _ (by omega)
    refine guard_both ?_ ?_ <;> intro h2 <;> simp only [hy] at h2 <;> simp only [h2, w2, w3, wk, iaddrV_map, emb, unAgg, ares, aresL, ares1, tupled, forall_const, Nat.reduceAdd, Nat.reduceSub, Nat.reduceMul, Nat.reduceLeDiff, Nat.reduceEqDiff, Nat.reduceBEq, Int.reduceLE, Int.reduceLT, Int.reduceEq, Int.reduceNe, Int.reduceAdd, Int.reduceSub, Int.reduceToNat, Int.reduceNeg, ↓reduceIte, reduceCtorEq, cellsOf, cellA, lay, fillA]
    · refine QLoop_wk (n' := s.length - (i + 1)) (by omega) ⟨i + 1, by omega, rfl, rfl, rfl⟩ (Wk_clear ?_)
      have e : (1 + (usedA f s : Int) + (kinds (s.take (i + 1)) : Int)) = 1 + (usedA f s : Int) + (kinds (s.take i) : Int) + 1 := by rw [kinds_take s i hil, if_neg h2]; omega
      rw [e]
      simp only [renL, ren, upTo_zero, Tops_top, Tops_same, Tops_nil, Int.natCast_add, Int.natCast_one]
    · refine QLoop_wk (n' := s.length - (i + 1)) (by omega) ⟨i + 1, by omega, rfl, rfl, rfl⟩ (Wk_clear ?_)
      have e : (1 + (usedA f s : Int) + (kinds (s.take (i + 1)) : Int)) = 1 + (usedA f s : Int) + (kinds (s.take i) : Int) := by rw [kinds_take s i hil, if_pos h2]; omega
      rw [e]
      simp only [renL, ren, upTo_zero, Tops_top, Tops_same, Tops_nil, Int.natCast_add, Int.natCast_one]
  · have : i = s.length := by omega
    subst this
    rw [List.take_length]
    simp only [worst1, Int.natCast_add, Int.natCast_one]
end Go.Proofs.Ytemjlopoffjmpaa.Abs
set_option linter.unusedSimpArgs false
set_option linter.unusedVariables false
namespace Go.Proofs.Ytemjlopoffjmpaa.Abs
open Go

theorem worst1_spec (f : List UInt8 → Nat) (hp : ∀ b H, C Try.prog 39 [.str b] H (fun x H' => x = .int .i64 (f b) ∧ H' = H)) (hf : ∀ b, f b ≤ 4) (a b c d : Int) (s : List Node) (hs : s.length ≤ 1000000) (H : AH) :
    C Try.prog 52 [.agg [.int .i64 a, .int .i64 b, .int .i64 c, .int .i64 d, aset s]] H (fun x H' => x = .int .i64 (worst1 f s) ∧ H' = H) :=
  C_flat (K0 := fun x _ => x = .int .i64 (worst1 f s)) (worst1_spec0 f hp hf a b c d s hs) (by rintro x _ rfl; exact ⟨rfl, rfl, rfl⟩)

/-- acct.Worst -/
def worstA (f : List UInt8 → Nat) (l : List Dset) : Nat := 3 + (l.map fun x => worst1 f x.files).sum
theorem worstA_take (f : List UInt8 → Nat) (l : List Dset) (i : Nat) (h : i < l.length) : worstA f (l.take (i + 1)) = worstA f (l.take i) + worst1 f (l.getD i default).files := by
  unfold worstA
  rw [List.take_add_one, List.getElem?_eq_getElem h, List.map_append, List.sum_append]
  simp only [List.getD_eq_getElem?_getD, List.getElem?_eq_getElem h, Option.getD_some, Option.toList_some, List.map_cons, List.map_nil, List.sum_cons, List.sum_nil, Nat.add_zero]
  omega
theorem worst1_le (f : List UInt8 → Nat) (hf : ∀ b, f b ≤ 4) (s : List Node) (hs : s.length ≤ 1000000) : worst1 f s ≤ 5000001 := by
  have h1 := usedA_le f hf s
  have h2 := kinds_le s
  unfold worst1
  omega
theorem worstA_le (f : List UInt8 → Nat) (hf : ∀ b, f b ≤ 4) (l : List Dset) (hl : ∀ x ∈ l, x.files.length ≤ 1000000) : worstA f l ≤ 3 + 5000001 * l.length := by
  unfold worstA
  induction l with
  | nil => simp
  | cons x l ih =>
    have h1 := worst1_le f hf x.files (hl x (by simp))
    have h2 := ih fun y hy => hl y (by simp [hy])
    simp only [List.map_cons, List.sum_cons, List.length_cons]
    omega

theorem worst_spec0 (f : List UInt8 → Nat) (hp : ∀ b H, C Try.prog 39 [.str b] H (fun x H' => x = .int .i64 (f b) ∧ H' = H)) (hf : ∀ b, f b ≤ 4) (l : List Dset) (hl : l.length ≤ 1000000) (hs : ∀ x ∈ l, x.files.length ≤ 1000000) :
    C Try.prog 19 [asets l] [] (fun x _ => x = .int .i64 (worstA f l)) := by
  refine C_body d19 rfl (WT_ok ?_)
  unfold c19
  simp only [asets, wk, iaddrV_map, emb, unAgg, ares, aresL, ares1, tupled, forall_const, Nat.reduceAdd, Nat.reduceSub, Nat.reduceMul, Nat.reduceLeDiff, Nat.reduceEqDiff, Nat.reduceBEq, Int.reduceLE, Int.reduceLT, Int.reduceEq, Int.reduceNe, Int.reduceAdd, Int.reduceSub, Int.reduceToNat, Int.reduceNeg, ↓reduceIte, reduceCtorEq, cellsOf, cellA, lay, fillA]
  refine WT_loop (W_loop (fun n fr H' => ∃ i : Nat, i ≤ l.length ∧ n = l.length - i ∧ H' = [] ∧ fr = [.fz (l.map pdset), .top, .int .i64 0, .int .i64 (worstA f (l.take i)), .top, .top, .fz (l.map pdset), .int .i64 l.length, .int .i64 i, .top, .top, .top, .top, .top, .top, .top, .top, .top, .top]) l.length ⟨0, by omega, rfl, rfl, rfl⟩ ?_)
  rintro n fr H' ⟨i, hi, rfl, rfl, rfl⟩
  refine WT_ok ?_
  simp only [wk, iaddrV_map, emb, unAgg, ares, aresL, ares1, tupled, forall_const, Nat.reduceAdd, Nat.reduceSub, Nat.reduceMul, Nat.reduceLeDiff, Nat.reduceEqDiff, Nat.reduceBEq, Int.reduceLE, Int.reduceLT, Int.reduceEq, Int.reduceNe, Int.reduceAdd, Int.reduceSub, Int.reduceToNat, Int.reduceNeg, ↓reduceIte, reduceCtorEq, cellsOf, cellA, lay, fillA]
  refine guard_both ?_ ?_ <;> intro h <;> simp only [hy] at h <;> simp only [h, wk, iaddrV_map, emb, unAgg, ares, aresL, ares1, tupled, forall_const, Nat.reduceAdd, Nat.reduceSub, Nat.reduceMul, Nat.reduceLeDiff, Nat.reduceEqDiff, Nat.reduceBEq, Int.reduceLE, Int.reduceLT, Int.reduceEq, Int.reduceNe, Int.reduceAdd, Int.reduceSub, Int.reduceToNat, Int.reduceNeg, ↓reduceIte, reduceCtorEq, cellsOf, cellA, lay, fillA]
  · have hil : i < l.length := by omega
    refine ⟨⟨by omega, rfl⟩, ?_⟩
    have hm : l.getD i default ∈ l := by
      rw [List.getD_eq_getElem?_getD, List.getElem?_eq_getElem hil]
      exact List.getElem_mem _
    simp only [pdset, wk, iaddrV_map, emb, unAgg, ares, aresL, ares1, tupled, forall_const, Nat.reduceAdd, Nat.reduceSub, Nat.reduceMul, Nat.reduceLeDiff, Nat.reduceEqDiff, Nat.reduceBEq, Int.reduceLE, Int.reduceLT, Int.reduceEq, Int.reduceNe, Int.reduceAdd, Int.reduceSub, Int.reduceToNat, Int.reduceNeg, ↓reduceIte, reduceCtorEq, cellsOf, cellA, lay, fillA]
    refine CT_ok (worst1_spec f hp hf _ _ _ _ (l.getD i default).files (hs _ hm) _) ?_
    rintro _ _ ⟨rfl, rfl⟩
    have hb := worstA_le f hf (l.take i) fun x hx => hs x (List.mem_of_mem_take hx)
    have hb2 := worst1_le f hf (l.getD i default).files (hs _ hm)
    rw [List.length_take] at hb
    have w1 : IntKind.i64.wrap ((worstA f (l.take i) : Int) + (worst1 f (l.getD i default).files : Int)) = (worstA f (l.take i) : Int) + (worst1 f (l.getD i default).files : Int) := IntWalk.i64_in _ (by omega)
    have w2 : IntKind.i64.wrap ((i : Int) + 1) = (i : Int) + 1 := IntWalk.i64_in _ (by omega)
    simp only [w1, w2, wk, iaddrV_map, emb, unAgg, ares, aresL, ares1, tupled, forall_const, Nat.reduceAdd, Nat.reduceSub, Nat.reduceMul, Nat.reduceLeDiff, Nat.reduceEqDiff, Nat.reduceBEq, Int.reduceLE, Int.reduceLT, Int.reduceEq, Int.reduceNe, Int.reduceAdd, Int.reduceSub, Int.reduceToNat, Int.reduceNeg, ↓reduceIte, reduceCtorEq, cellsOf, cellA, lay, fillA]
    refine QLoop_wk (n' := l.length - (i + 1)) (by omega) ⟨i + 1, by omega, rfl, rfl, rfl⟩ (Wk_clear ?_)
    simp only [renL, ren, upTo_zero, Tops_top, Tops_same, Tops_nil, worstA_take f l i hil, Int.natCast_add, Int.natCast_one]
  · have : i = l.length := by omega
    subst this
    rw [List.take_length]
end Go.Proofs.Ytemjlopoffjmpaa.Abs
set_option linter.unusedSimpArgs false
set_option linter.unusedVariables false
namespace Go.Proofs.Ytemjlopoffjmpaa.Abs
open Go Go.Proofs

theorem repeat_spec (s : List UInt8) (c : Nat) (H : AH) (hc : c ≤ 9223372036854775807) (hlen : s.length * c ≤ 140737488355328) :
    C Try.prog 97 [.str s, .int .i64 c] H (fun x H' => x = .str (Lib.repeatL s c) ∧ H' = H) := by
  refine C_lib ⟨Try.f97, Try.func97, by kernel_rfl, by kernel_rfl⟩ (v := .string ⟨(Lib.repeatL s c).toArray⟩) ?_ fun E => .pure (x := .str _) (.str _)
  intro E w vs _ hr
  obtain ⟨v, u, rfl, h1, h2⟩ := hr.two
  rw [rep_str h1, rep_int h2]
  have := Try.strings_Repeat ⟨s.toArray⟩ c w hc (by simpa [ByteArray.size] using hlen)
  exact this

theorem repeat_nought (c : Nat) : Lib.repeatL [0] c = List.replicate c 0 := by
  induction c with
  | zero => rfl
  | succ c ih => simp [Lib.repeatL, ih, List.replicate_succ]

theorem noughts_spec (n : Int) (H : AH) (hn : n ≤ 1000000) : C Try.prog 86 [.int .i64 n] H (fun x H' => x = .str (List.replicate n.toNat 0) ∧ H' = H) := by
  refine C_body d86 rfl (WT_ok ?_)
  unfold c86
  simp only [wk, iaddrV_map, emb, unAgg, ares, aresL, ares1, tupled, forall_const, Nat.reduceAdd, Nat.reduceSub, Nat.reduceMul, Nat.reduceLeDiff, Nat.reduceEqDiff, Nat.reduceBEq, Int.reduceLE, Int.reduceLT, Int.reduceEq, Int.reduceNe, Int.reduceAdd, Int.reduceSub, Int.reduceToNat, Int.reduceNeg, ↓reduceIte, reduceCtorEq, cellsOf, cellA, lay, fillA]
  have e : (if (0 : Int) > n then (0 : Int) else n) = ((n.toNat : Nat) : Int) := by split <;> omega
  rw [e]
  refine CT_ok (repeat_spec [0] n.toNat H (by omega) (by simp; omega)) ?_
  rintro _ _ ⟨rfl, rfl⟩
  simp only [repeat_nought, wk, iaddrV_map, emb, unAgg, ares, aresL, ares1, tupled, forall_const, Nat.reduceAdd, Nat.reduceSub, Nat.reduceMul, Nat.reduceLeDiff, Nat.reduceEqDiff, Nat.reduceBEq, Int.reduceLE, Int.reduceLT, Int.reduceEq, Int.reduceNe, Int.reduceAdd, Int.reduceSub, Int.reduceToNat, Int.reduceNeg, ↓reduceIte, reduceCtorEq, cellsOf, cellA, lay, fillA]

theorem longA_eq (b : List UInt8) (h : b.length ≤ 128) : b ++ List.replicate (128 - b.length) 0 = longA b 128 := by
  unfold longA
  rw [List.take_of_length_le h]

theorem dpart_spec0 (b : List UInt8) (k : Int) : C Try.prog 73 [.str b, .int .i64 k] [] (fun x _ => x = .str (partA b k)) := by
  refine C_body d73 rfl (WT_ok ?_)
  unfold c73
  simp only [wk, iaddrV_map, emb, unAgg, ares, aresL, ares1, tupled, forall_const, Nat.reduceAdd, Nat.reduceSub, Nat.reduceMul, Nat.reduceLeDiff, Nat.reduceEqDiff, Nat.reduceBEq, Int.reduceLE, Int.reduceLT, Int.reduceEq, Int.reduceNe, Int.reduceAdd, Int.reduceSub, Int.reduceToNat, Int.reduceNeg, ↓reduceIte, reduceCtorEq, cellsOf, cellA, lay, fillA]
  refine guard_both ?_ ?_ <;> intro h <;> simp only [hy] at h <;> simp only [h, wk, iaddrV_map, emb, unAgg, ares, aresL, ares1, tupled, forall_const, Nat.reduceAdd, Nat.reduceSub, Nat.reduceMul, Nat.reduceLeDiff, Nat.reduceEqDiff, Nat.reduceBEq, Int.reduceLE, Int.reduceLT, Int.reduceEq, Int.reduceNe, Int.reduceAdd, Int.reduceSub, Int.reduceToNat, Int.reduceNeg, ↓reduceIte, reduceCtorEq, cellsOf, cellA, lay, fillA]
  · refine guard_both ?_ ?_ <;> intro h2 <;> simp only [hy] at h2 <;> simp only [h, h2, wk, iaddrV_map, emb, unAgg, ares, aresL, ares1, tupled, forall_const, Nat.reduceAdd, Nat.reduceSub, Nat.reduceMul, Nat.reduceLeDiff, Nat.reduceEqDiff, Nat.reduceBEq, Int.reduceLE, Int.reduceLT, Int.reduceEq, Int.reduceNe, Int.reduceAdd, Int.reduceSub, Int.reduceToNat, Int.reduceNeg, ↓reduceIte, reduceCtorEq, cellsOf, cellA, lay, fillA]
    · refine guard_both ?_ ?_ <;> intro h3 <;> simp only [hy] at h3 <;> simp only [h, h2, h3, wk, iaddrV_map, emb, unAgg, ares, aresL, ares1, tupled, forall_const, Nat.reduceAdd, Nat.reduceSub, Nat.reduceMul, Nat.reduceLeDiff, Nat.reduceEqDiff, Nat.reduceBEq, Int.reduceLE, Int.reduceLT, Int.reduceEq, Int.reduceNe, Int.reduceAdd, Int.reduceSub, Int.reduceToNat, Int.reduceNeg, ↓reduceIte, reduceCtorEq, cellsOf, cellA, lay, fillA]
      · rw [partA, if_neg (by omega)]
      · have w0 : IntKind.i64.wrap (128 - (b.length : Int)) = 128 - (b.length : Int) := IntWalk.i64_in _ (by omega)
        have w1 : IntKind.i64.wrap (k * 32) = k * 32 := IntWalk.i64_in _ (by omega)
        simp only [w0, wk, iaddrV_map, emb, unAgg, ares, aresL, ares1, tupled, forall_const, Nat.reduceAdd, Nat.reduceSub, Nat.reduceMul, Nat.reduceLeDiff, Nat.reduceEqDiff, Nat.reduceBEq, Int.reduceLE, Int.reduceLT, Int.reduceEq, Int.reduceNe, Int.reduceAdd, Int.reduceSub, Int.reduceToNat, Int.reduceNeg, ↓reduceIte, reduceCtorEq, cellsOf, cellA, lay, fillA]
        refine CT_ok (noughts_spec _ _ (by omega)) ?_
        rintro _ _ ⟨rfl, rfl⟩
        have e0 : (128 - (b.length : Int)).toNat = 128 - b.length := by omega
        simp only [e0, wk, iaddrV_map, emb, unAgg, ares, aresL, ares1, tupled, forall_const, Nat.reduceAdd, Nat.reduceSub, Nat.reduceMul, Nat.reduceLeDiff, Nat.reduceEqDiff, Nat.reduceBEq, Int.reduceLE, Int.reduceLT, Int.reduceEq, Int.reduceNe, Int.reduceAdd, Int.reduceSub, Int.reduceToNat, Int.reduceNeg, ↓reduceIte, reduceCtorEq, cellsOf, cellA, lay, fillA]
        refine ⟨by omega, ?_⟩
        have e1 := longA_eq b (by omega)
        simp only [e1, w1, longA_len, wk, iaddrV_map, emb, unAgg, ares, aresL, ares1, tupled, forall_const, Nat.reduceAdd, Nat.reduceSub, Nat.reduceMul, Nat.reduceLeDiff, Nat.reduceEqDiff, Nat.reduceBEq, Int.reduceLE, Int.reduceLT, Int.reduceEq, Int.reduceNe, Int.reduceAdd, Int.reduceSub, Int.reduceToNat, Int.reduceNeg, ↓reduceIte, reduceCtorEq, cellsOf, cellA, lay, fillA]
        have e2 : b.length + (128 - b.length) = 128 := by omega
        have e3 : List.take 128 (longA b 128) = longA b 128 := List.take_of_length_le (by simp [longA_len])
        have hl : (List.drop (k * 32).toNat (longA b 128)).length = 128 - (k * 32).toNat := by rw [List.length_drop, longA_len]
        simp only [e2, e3, hl]
        refine ⟨by omega, by omega, ?_⟩
        refine CT_ok (noughts_spec _ _ (by omega)) ?_
        rintro _ _ ⟨rfl, rfl⟩
        simp only [w1, e1, e2, e3, wk, iaddrV_map, emb, unAgg, ares, aresL, ares1, tupled, forall_const, Nat.reduceAdd, Nat.reduceSub, Nat.reduceMul, Nat.reduceLeDiff, Nat.reduceEqDiff, Nat.reduceBEq, Int.reduceLE, Int.reduceLT, Int.reduceEq, Int.reduceNe, Int.reduceAdd, Int.reduceSub, Int.reduceToNat, Int.reduceNeg, ↓reduceIte, reduceCtorEq, cellsOf, cellA, lay, fillA]
        have e4 : List.drop (k * 32).toNat (List.take ((k + 1) * 32).toNat (longA b 128)) = List.take 32 (List.drop (k * 32).toNat (longA b 128)) := by
          rw [List.drop_take]
          congr 1
          omega
        have e5 : (32 : Int).toNat = 32 := rfl
        refine guard_both ?_ ?_ <;> intro h4 <;> simp only [hy] at h4 <;> simp only [h, h2, h3, h4, wk, iaddrV_map, emb, unAgg, ares, aresL, ares1, tupled, forall_const, Nat.reduceAdd, Nat.reduceSub, Nat.reduceMul, Nat.reduceLeDiff, Nat.reduceEqDiff, Nat.reduceBEq, Int.reduceLE, Int.reduceLT, Int.reduceEq, Int.reduceNe, Int.reduceAdd, Int.reduceSub, Int.reduceToNat, Int.reduceNeg, ↓reduceIte, reduceCtorEq, cellsOf, cellA, lay, fillA]
        · rw [partA, if_pos (by omega)]
          simp only [e4]
          rw [if_neg (by simpa [List.replicate_succ] using h4)]
        · rw [partA, if_pos (by omega)]
          simp only [e4]
          rw [if_pos (by simpa [List.replicate_succ] using h4)]
    · rw [partA, if_neg (by omega)]
  · rw [partA, if_neg (by omega)]

theorem dpart_spec (b : List UInt8) (k : Int) (H : AH) : C Try.prog 73 [.str b, .int .i64 k] H (fun x H' => x = .str (partA b k) ∧ H' = H) :=
  C_flat (K0 := fun x _ => x = .str (partA b k)) (dpart_spec0 b k) (by rintro x _ rfl; exact ⟨rfl, rfl, rfl⟩)
end Go.Proofs.Ytemjlopoffjmpaa.Abs
set_option linter.unusedSimpArgs false
set_option linter.unusedVariables false
namespace Go.Proofs.Ytemjlopoffjmpaa.Abs
open Go Go.Proofs

theorem parts_spec (b : List UInt8) (H : AH) : C Try.prog 39 [.str b] H (fun x H' => x = .int .i64 (countA b) ∧ H' = H) := by
  refine C_body d39 rfl (WT_ok ?_)
  unfold c39
  simp only [wk, iaddrV_map, emb, unAgg, ares, aresL, ares1, tupled, forall_const, Nat.reduceAdd, Nat.reduceSub, Nat.reduceMul, Nat.reduceLeDiff, Nat.reduceEqDiff, Nat.reduceBEq, Int.reduceLE, Int.reduceLT, Int.reduceEq, Int.reduceNe, Int.reduceAdd, Int.reduceSub, Int.reduceToNat, Int.reduceNeg, ↓reduceIte, reduceCtorEq, cellsOf, cellA, lay, fillA]
  refine WT_loop (W_loop (fun n fr H' => ∃ k : Nat, k ≤ 4 ∧ n = 4 - k ∧ H' = H ∧ fr = [.str b, .top, .int .i64 0, .int .i64 (cnt b k), .top, .int .i64 k, .top, .top, .top, .top, .top, .top, .top, .top, .top, .top]) 4 ⟨0, by omega, rfl, rfl, rfl⟩ ?_)
  rintro n fr H' ⟨k, hk, rfl, rfl, rfl⟩
  refine WT_ok ?_
  simp only [wk, iaddrV_map, emb, unAgg, ares, aresL, ares1, tupled, forall_const, Nat.reduceAdd, Nat.reduceSub, Nat.reduceMul, Nat.reduceLeDiff, Nat.reduceEqDiff, Nat.reduceBEq, Int.reduceLE, Int.reduceLT, Int.reduceEq, Int.reduceNe, Int.reduceAdd, Int.reduceSub, Int.reduceToNat, Int.reduceNeg, ↓reduceIte, reduceCtorEq, cellsOf, cellA, lay, fillA]
  refine guard_both ?_ ?_ <;> intro h <;> simp only [hy] at h <;> simp only [h, wk, iaddrV_map, emb, unAgg, ares, aresL, ares1, tupled, forall_const, Nat.reduceAdd, Nat.reduceSub, Nat.reduceMul, Nat.reduceLeDiff, Nat.reduceEqDiff, Nat.reduceBEq, Int.reduceLE, Int.reduceLT, Int.reduceEq, Int.reduceNe, Int.reduceAdd, Int.reduceSub, Int.reduceToNat, Int.reduceNeg, ↓reduceIte, reduceCtorEq, cellsOf, cellA, lay, fillA]
  · refine CT_ok (dpart_spec b k _) ?_
    rintro _ _ ⟨rfl, rfl⟩
    simp only [wk, iaddrV_map, emb, unAgg, ares, aresL, ares1, tupled, forall_const, Nat.reduceAdd, Nat.reduceSub, Nat.reduceMul, Nat.reduceLeDiff, Nat.reduceEqDiff, Nat.reduceBEq, Int.reduceLE, Int.reduceLT, Int.reduceEq, Int.reduceNe, Int.reduceAdd, Int.reduceSub, Int.reduceToNat, Int.reduceNeg, ↓reduceIte, reduceCtorEq, cellsOf, cellA, lay, fillA]
    have hc := cnt_le b k
    have w1 : IntKind.i64.wrap ((cnt b k : Int) + 1) = (cnt b k : Int) + 1 := IntWalk.i64_in _ (by omega)
    have w2 : IntKind.i64.wrap ((k : Int) + 1) = (k : Int) + 1 := IntWalk.i64_in _ (by omega)
    refine guard_both ?_ ?_ <;> intro h2 <;> simp only [hy] at h2 <;> simp only [h2, w1, w2, wk, iaddrV_map, emb, unAgg, ares, aresL, ares1, tupled, forall_const, Nat.reduceAdd, Nat.reduceSub, Nat.reduceMul, Nat.reduceLeDiff, Nat.reduceEqDiff, Nat.reduceBEq, Int.reduceLE, Int.reduceLT, Int.reduceEq, Int.reduceNe, Int.reduceAdd, Int.reduceSub, Int.reduceToNat, Int.reduceNeg, ↓reduceIte, reduceCtorEq, cellsOf, cellA, lay, fillA]
    · refine QLoop_go (n' := 4 - (k + 1)) (by omega) ⟨k + 1, by omega, rfl, rfl, rfl⟩ ?_
      simp only [Tops_top, Tops_same, Tops_nil, cnt, h2, Int.natCast_add, Int.natCast_one, if_false]
    · refine QLoop_go (n' := 4 - (k + 1)) (by omega) ⟨k + 1, by omega, rfl, rfl, rfl⟩ ?_
      simp only [Tops_top, Tops_same, Tops_nil, cnt, h2, Int.natCast_add, Int.natCast_one, if_true, Nat.add_zero]
  · have : k = 4 := by omega
    subst this
    rfl

theorem countA_le (b : List UInt8) : countA b ≤ 4 := cnt_le b 4
abbrev used (s : List Node) : Nat := usedA countA s
abbrev worst (l : List Dset) : Nat := worstA countA l
theorem Used_spec (s : List Node) (hs : s.length ≤ 1000000) (H : AH) : C Try.prog 14 [aset s] H (fun x H' => x = .int .i64 (used s) ∧ H' = H) := used_spec countA parts_spec countA_le s hs H
theorem Worst_spec (l : List Dset) (hl : l.length ≤ 1000000) (hs : ∀ x ∈ l, x.files.length ≤ 1000000) (H : AH) : C Try.prog 19 [asets l] H (fun x H' => x = .int .i64 (worst l) ∧ H' = H) :=
  C_flat (K0 := fun x _ => x = .int .i64 (worst l)) (worst_spec0 countA parts_spec countA_le l hl hs) (by rintro x _ rfl; exact ⟨rfl, rfl, rfl⟩)
end Go.Proofs.Ytemjlopoffjmpaa.Abs
