/-
  The code of some functions in the abstract layer's form, each checked against the program's own. Written by gen.py.
-/
import Derived.Test.YtemjlopoffjmpaaAbs22
import Derived.Test.YtemjlopoffjmpaaProg
import Derived.KernelRfl
namespace Go.Proofs.Ytemjlopoffjmpaa.Abs
open Go

/-- palimp/acct.Put -/
def c15 : ACode :=
 (.seq (.reg [⟨some 4, none, .box (.t 1)⟩,
  ⟨some 6, none, .mv (.c (.emp))⟩,
  ⟨some 7, none, .mv (.c (.int .i64 0))⟩])
 (.seq (.reg [⟨some 14, none, .mv (.t 0)⟩,
  ⟨some 15, none, .call 40 [(.t 14)]⟩,
  ⟨some 8, none, .mv (.t 15)⟩])
 (.seq (.seq (.reg [⟨some 16, none, .mv (.t 8)⟩,
  ⟨some 17, none, .len false (.t 16)⟩,
  ⟨some 18, none, .mv (.c (.int .i64 0))⟩])
 (.block 0
 (.loop
 (.seq (.reg [⟨some 19, none, .bini .lss (.t 18) (.t 17)⟩])
 (.seq (.cond (.t 19)
 .skip
 (.exit 0))
 (.seq (.block 1
 (.seq (.reg [⟨some 20, none, .mv (.t 18)⟩,
  ⟨some 9, none, .mv (.t 20)⟩])
 (.reg [⟨some 21, none, .mv (.t 8)⟩,
  ⟨some 22, none, .mv (.t 9)⟩,
  ⟨some 23, none, .mv (.t 8)⟩,
  ⟨some 24, none, .mv (.t 9)⟩,
  ⟨some 25, none, .iaddr 5 (.t 23) (.t 24)⟩,
  ⟨some 26, none, .faddr 4 (.t 25)⟩,
  ⟨some 27, none, .load false 1 (.t 26)⟩,
  ⟨some 28, none, .call 41 [(.t 27)]⟩,
  ⟨some 29, none, .iaddr 5 (.t 21) (.t 22)⟩,
  ⟨some 30, none, .faddr 4 (.t 29)⟩,
  ⟨none, none, .store 1 (.t 30) (.t 28)⟩])))
 (.reg [⟨some 31, none, .bini .add (.t 18) (.c (.int .i64 1))⟩,
  ⟨some 18, none, .mv (.t 31)⟩])))))))
 (.seq (.reg [⟨some 33, none, .mv (.t 0)⟩,
  ⟨some 34, none, .load false 1 (.t 4)⟩,
  ⟨some 35, none, .call 42 [(.t 33), (.t 34)]⟩,
  ⟨some 32, none, .mv (.t 35)⟩,
  ⟨some 36, none, .ext (.t 32) 0⟩,
  ⟨some 37, none, .ext (.t 32) 1⟩,
  ⟨some 10, none, .alloc [.int .i64 0, .int .i64 0, .int .i64 0, .int .i64 0, .emp]⟩,
  ⟨none, none, .store 5 (.t 10) (.t 36)⟩,
  ⟨some 11, none, .mv (.t 37)⟩])
 (.seq (.seq (.reg [⟨some 38, none, .mv (.t 2)⟩,
  ⟨some 39, none, .call 14 [(.t 38)]⟩,
  ⟨some 12, none, .mv (.t 39)⟩])
 (.block 2
 (.seq (.reg [⟨some 41, none, .mv (.t 11)⟩,
  ⟨some 42, none, .un .not (.t 41)⟩,
  ⟨some 40, none, .mv (.t 42)⟩])
 (.cond (.t 40)
 (.seq (.reg [⟨some 43, none, .mv (.t 8)⟩,
  ⟨some 6, none, .mv (.t 43)⟩,
  ⟨some 7, none, .mv (.c (.int .i64 2))⟩])
 .ret)
 (.seq (.reg [⟨some 45, none, .faddr 1 (.t 10)⟩,
  ⟨some 46, none, .load false 1 (.t 45)⟩,
  ⟨some 47, none, .bini .eql (.t 46) (.c (.int .i64 2))⟩,
  ⟨some 44, none, .mv (.t 47)⟩])
 (.cond (.t 44)
 (.seq (.reg [⟨some 48, none, .mv (.t 8)⟩,
  ⟨some 6, none, .mv (.t 48)⟩,
  ⟨some 7, none, .mv (.c (.int .i64 11))⟩])
 .ret)
 (.seq (.reg [⟨some 50, none, .faddr 3 (.t 10)⟩,
  ⟨some 51, none, .load false 1 (.t 50)⟩,
  ⟨some 52, none, .bini .gtr (.t 51) (.c (.int .i64 0))⟩,
  ⟨some 53, none, .mv (.t 52)⟩,
  ⟨some 54, (some (53, true)), .mv (.t 12)⟩,
  ⟨some 55, (some (53, true)), .faddr 3 (.t 10)⟩,
  ⟨some 56, (some (53, true)), .load false 1 (.t 55)⟩,
  ⟨some 57, (some (53, true)), .bini .gtr (.t 54) (.t 56)⟩,
  ⟨some 58, none, .pick (.t 53) (.t 57) (.c (.bool false))⟩,
  ⟨some 59, none, .mv (.t 58)⟩,
  ⟨some 60, (some (59, true)), .mv (.t 12)⟩,
  ⟨some 61, (some (59, true)), .faddr 4 (.t 10)⟩,
  ⟨some 62, (some (59, true)), .load false 1 (.t 61)⟩,
  ⟨some 63, (some (59, true)), .call 14 [(.t 62)]⟩,
  ⟨some 64, (some (59, true)), .bini .gtr (.t 60) (.t 63)⟩,
  ⟨some 65, none, .pick (.t 59) (.t 64) (.c (.bool false))⟩,
  ⟨some 49, none, .mv (.t 65)⟩])
 (.cond (.t 49)
 (.seq (.reg [⟨some 66, none, .mv (.t 8)⟩,
  ⟨some 6, none, .mv (.t 66)⟩,
  ⟨some 7, none, .mv (.c (.int .i64 9))⟩])
 .ret)
 .skip))))))))
 (.seq (.reg [⟨some 67, none, .mv (.t 8)⟩,
  ⟨some 68, none, .mkfn (.func 44) [] [(.t 4)]⟩,
  ⟨some 69, none, .call 43 [(.t 67), (.t 68)]⟩,
  ⟨some 13, none, .mv (.t 69)⟩])
 (.seq (.reg [⟨some 70, none, .mv (.t 8)⟩,
  ⟨some 71, none, .mv (.t 13)⟩,
  ⟨some 72, none, .mv (.t 2)⟩,
  ⟨some 73, none, .call 41 [(.t 72)]⟩,
  ⟨some 74, none, .iaddr 5 (.t 70) (.t 71)⟩,
  ⟨some 75, none, .faddr 4 (.t 74)⟩,
  ⟨none, none, .store 1 (.t 75) (.t 73)⟩])
 (.seq (.reg [⟨some 76, none, .mv (.t 8)⟩,
  ⟨some 6, none, .mv (.t 76)⟩,
  ⟨some 7, none, .mv (.c (.int .i64 0))⟩])
 .ret))))))))
theorem d15 : FnD Try.prog 15 3 74 [.tmp 6, .tmp 7] c15 := ⟨Try.f15, _, Try.func15, by kernel_rfl, rfl, rfl, by kernel_rfl, by kernel_rfl⟩

/-- (*palimp/palimpmade.Picks).Set -/
def c16 : ACode :=
 (.seq (.reg [⟨some 4, none, .mv (.c (.emp))⟩])
 (.seq (.reg [⟨some 5, none, .mv (.t 0)⟩,
  ⟨some 6, none, .call 10 []⟩,
  ⟨some 7, none, .mv (.t 1)⟩,
  ⟨some 8, none, .call 45 [(.t 5), (.t 6), (.t 7)]⟩,
  ⟨some 4, none, .mv (.t 8)⟩])
 .ret))
theorem d16 : FnD Try.prog 16 2 7 [.tmp 4] c16 := ⟨Try.f16, _, Try.func16, by kernel_rfl, rfl, rfl, by kernel_rfl, by kernel_rfl⟩

/-- palimp/palimpref11.Make -/
def c17 : ACode :=
 (.seq (.reg [⟨some 6, none, .mv (.c (.emp))⟩,
  ⟨some 7, none, .mv (.c (.int .i64 0))⟩])
 (.seq (.seq (.reg [⟨some 15, none, .mv (.t 2)⟩,
  ⟨some 16, none, .bini .neq (.t 15) (.c (.int .i64 1))⟩,
  ⟨some 17, none, .mv (.t 16)⟩,
  ⟨some 18, (some (17, true)), .mv (.t 2)⟩,
  ⟨some 19, (some (17, true)), .bini .neq (.t 18) (.c (.int .i64 2))⟩,
  ⟨some 20, none, .pick (.t 17) (.t 19) (.c (.bool false))⟩])
 (.cond (.t 20)
 (.seq (.reg [⟨some 21, none, .mv (.t 0)⟩,
  ⟨some 6, none, .mv (.t 21)⟩,
  ⟨some 7, none, .mv (.c (.int .i64 1))⟩])
 .ret)
 .skip))
 (.seq (.reg [⟨some 23, none, .mv (.t 0)⟩,
  ⟨some 24, none, .mv (.t 1)⟩,
  ⟨some 25, none, .call 46 [(.t 23), (.t 24)]⟩,
  ⟨some 22, none, .mv (.t 25)⟩,
  ⟨some 26, none, .ext (.t 22) 0⟩,
  ⟨some 27, none, .ext (.t 22) 1⟩,
  ⟨some 28, none, .ext (.t 22) 2⟩,
  ⟨some 8, none, .mv (.t 26)⟩,
  ⟨some 9, none, .mv (.t 27)⟩,
  ⟨some 10, none, .mv (.t 28)⟩])
 (.seq (.seq (.reg [⟨some 29, none, .mv (.t 10)⟩,
  ⟨some 30, none, .bini .neq (.t 29) (.c (.int .i64 0))⟩])
 (.cond (.t 30)
 (.seq (.reg [⟨some 31, none, .mv (.t 0)⟩,
  ⟨some 32, none, .mv (.t 10)⟩,
  ⟨some 6, none, .mv (.t 31)⟩,
  ⟨some 7, none, .mv (.t 32)⟩])
 .ret)
 .skip))
 (.seq (.reg [⟨some 34, none, .mv (.t 0)⟩,
  ⟨some 35, none, .mv (.t 8)⟩,
  ⟨some 36, none, .mv (.t 9)⟩,
  ⟨some 37, none, .call 47 [(.t 34), (.t 35), (.t 36)]⟩,
  ⟨some 33, none, .mv (.t 37)⟩,
  ⟨some 38, none, .ext (.t 33) 0⟩,
  ⟨some 39, none, .ext (.t 33) 1⟩,
  ⟨some 11, none, .mv (.t 38)⟩,
  ⟨some 12, none, .mv (.t 39)⟩])
 (.seq (.seq (.reg [⟨some 40, none, .mv (.t 12)⟩])
 (.cond (.t 40)
 (.seq (.reg [⟨some 41, none, .mv (.t 0)⟩,
  ⟨some 6, none, .mv (.t 41)⟩,
  ⟨some 7, none, .mv (.c (.int .i64 3))⟩])
 .ret)
 .skip))
 (.seq (.reg [⟨some 43, none, .mv (.t 0)⟩,
  ⟨some 44, none, .call 48 [(.t 43)]⟩,
  ⟨some 42, none, .mv (.t 44)⟩,
  ⟨some 45, none, .ext (.t 42) 0⟩,
  ⟨some 46, none, .ext (.t 42) 1⟩,
  ⟨some 13, none, .mv (.t 45)⟩,
  ⟨some 14, none, .mv (.t 46)⟩])
 (.seq (.seq (.reg [⟨some 47, none, .mv (.t 14)⟩,
  ⟨some 48, none, .un .not (.t 47)⟩])
 (.cond (.t 48)
 (.seq (.reg [⟨some 49, none, .mv (.t 0)⟩,
  ⟨some 6, none, .mv (.t 49)⟩,
  ⟨some 7, none, .mv (.c (.int .i64 8))⟩])
 .ret)
 .skip))
 (.seq (.reg [⟨some 50, none, .mv (.t 0)⟩,
  ⟨some 51, none, .mv (.t 13)⟩,
  ⟨some 52, none, .mv (.t 2)⟩,
  ⟨some 53, none, .mv (.t 8)⟩,
  ⟨some 54, none, .mv (.t 9)⟩,
  ⟨some 55, none, .build [.int .i64 0, .int .i64 0, .str [], .str [], .int .i64 0] [(0, 1, (.t 52)), (1, 1, (.t 53)), (2, 1, (.t 54))]⟩,
  ⟨some 56, none, .call 49 [(.t 50), (.t 51), (.t 55)]⟩,
  ⟨some 6, none, .mv (.t 56)⟩,
  ⟨some 7, none, .mv (.c (.int .i64 0))⟩])
 .ret)))))))))
theorem d17 : FnD Try.prog 17 3 54 [.tmp 6, .tmp 7] c17 := ⟨Try.f17, _, Try.func17, by kernel_rfl, rfl, rfl, by kernel_rfl, by kernel_rfl⟩

/-- palimp/palimpref11.Write -/
def c18 : ACode :=
 (.seq (.reg [⟨some 8, none, .mv (.c (.emp))⟩,
  ⟨some 9, none, .mv (.c (.int .i64 0))⟩])
 (.seq (.reg [⟨some 15, none, .mv (.t 0)⟩,
  ⟨some 16, none, .mv (.t 1)⟩,
  ⟨some 17, none, .call 50 [(.t 15), (.t 16)]⟩,
  ⟨some 14, none, .mv (.t 17)⟩,
  ⟨some 18, none, .ext (.t 14) 0⟩,
  ⟨some 19, none, .ext (.t 14) 1⟩,
  ⟨some 10, none, .mv (.t 18)⟩,
  ⟨some 11, none, .mv (.t 19)⟩])
 (.seq (.seq (.reg [⟨some 20, none, .mv (.t 11)⟩,
  ⟨some 21, none, .bini .neq (.t 20) (.c (.int .i64 0))⟩])
 (.cond (.t 21)
 (.seq (.reg [⟨some 22, none, .mv (.t 0)⟩,
  ⟨some 23, none, .mv (.t 11)⟩,
  ⟨some 8, none, .mv (.t 22)⟩,
  ⟨some 9, none, .mv (.t 23)⟩])
 .ret)
 .skip))
 (.seq (.seq (.reg [⟨some 24, none, .mv (.t 2)⟩,
  ⟨some 25, none, .bini .lss (.t 24) (.c (.int .i64 0))⟩])
 (.cond (.t 25)
 (.seq (.reg [⟨some 26, none, .mv (.t 0)⟩,
  ⟨some 8, none, .mv (.t 26)⟩,
  ⟨some 9, none, .mv (.c (.int .i64 1))⟩])
 .ret)
 .skip))
 (.seq (.seq (.reg [⟨some 27, none, .mv (.t 2)⟩,
  ⟨some 28, none, .bini .gtr (.t 27) (.c (.int .i64 128))⟩,
  ⟨some 29, none, .mv (.t 28)⟩,
  ⟨some 30, (some (29, false)), .mv (.t 3)⟩,
  ⟨some 31, (some (29, false)), .len true (.t 30)⟩,
  ⟨some 32, (some (29, false)), .mv (.t 2)⟩,
  ⟨some 33, (some (29, false)), .bini .sub (.c (.int .i64 128)) (.t 32)⟩,
  ⟨some 34, (some (29, false)), .bini .gtr (.t 31) (.t 33)⟩,
  ⟨some 35, none, .pick (.t 29) (.c (.bool true)) (.t 34)⟩])
 (.cond (.t 35)
 (.seq (.reg [⟨some 36, none, .mv (.t 0)⟩,
  ⟨some 8, none, .mv (.t 36)⟩,
  ⟨some 9, none, .mv (.c (.int .i64 8))⟩])
 .ret)
 .skip))
 (.seq (.seq (.reg [⟨some 37, none, .mv (.t 3)⟩,
  ⟨some 38, none, .bins .eql (.t 37) (.c (.str []))⟩])
 (.cond (.t 38)
 (.seq (.reg [⟨some 39, none, .mv (.t 0)⟩,
  ⟨some 8, none, .mv (.t 39)⟩,
  ⟨some 9, none, .mv (.c (.int .i64 0))⟩])
 .ret)
 .skip))
 (.seq (.reg [⟨some 40, none, .mv (.t 0)⟩,
  ⟨some 41, none, .mv (.t 10)⟩,
  ⟨some 42, none, .iaddr 5 (.t 40) (.t 41)⟩,
  ⟨some 43, none, .load true 5 (.t 42)⟩,
  ⟨some 12, none, .alloc [.int .i64 0, .int .i64 0, .str [], .str [], .int .i64 0]⟩,
  ⟨none, none, .store 5 (.t 12) (.t 43)⟩])
 (.seq (.reg [⟨some 44, none, .faddr 3 (.t 12)⟩,
  ⟨some 45, none, .load false 1 (.t 44)⟩,
  ⟨some 46, none, .faddr 3 (.t 12)⟩,
  ⟨some 47, none, .load false 1 (.t 46)⟩,
  ⟨some 48, none, .len true (.t 47)⟩,
  ⟨some 49, none, .mv (.t 2)⟩,
  ⟨some 50, none, .mv (.t 3)⟩,
  ⟨some 51, none, .len true (.t 50)⟩,
  ⟨some 52, none, .bini .add (.t 49) (.t 51)⟩,
  ⟨some 53, none, .max2 (.t 48) (.t 52)⟩,
  ⟨some 54, none, .call 51 [(.t 45), (.t 53)]⟩,
  ⟨some 55, none, .convsb (.t 54)⟩,
  ⟨some 13, none, .mv (.t 55)⟩])
 (.seq (.reg [⟨some 56, none, .mv (.t 13)⟩,
  ⟨some 57, none, .mv (.t 2)⟩,
  ⟨some 58, none, .slicel 1 (.t 56) (some (.t 57)) none⟩,
  ⟨some 59, none, .mv (.t 3)⟩,
  ⟨some 60, none, .copy 1 (.t 58) (.t 59)⟩])
 (.seq (.reg [⟨some 61, none, .mv (.t 13)⟩,
  ⟨some 62, none, .convbs (.t 61)⟩,
  ⟨some 63, none, .faddr 3 (.t 12)⟩,
  ⟨none, none, .store 1 (.t 63) (.t 62)⟩])
 (.seq (.reg [⟨some 64, none, .mv (.t 0)⟩,
  ⟨some 65, none, .mv (.t 10)⟩,
  ⟨some 66, none, .load true 5 (.t 12)⟩,
  ⟨some 67, none, .call 49 [(.t 64), (.t 65), (.t 66)]⟩,
  ⟨some 8, none, .mv (.t 67)⟩,
  ⟨some 9, none, .mv (.c (.int .i64 0))⟩])
 .ret)))))))))))
theorem d18 : FnD Try.prog 18 4 64 [.tmp 8, .tmp 9] c18 := ⟨Try.f18, _, Try.func18, by kernel_rfl, rfl, rfl, by kernel_rfl, by kernel_rfl⟩

/-- palimp/acct.Worst -/
def c19 : ACode :=
 (.seq (.reg [⟨some 2, none, .mv (.c (.int .i64 0))⟩])
 (.seq (.reg [⟨some 3, none, .mv (.c (.int .i64 3))⟩])
 (.seq (.seq (.reg [⟨some 6, none, .mv (.t 0)⟩,
  ⟨some 7, none, .len false (.t 6)⟩,
  ⟨some 8, none, .mv (.c (.int .i64 0))⟩])
 (.block 0
 (.loop
 (.seq (.reg [⟨some 9, none, .bini .lss (.t 8) (.t 7)⟩])
 (.seq (.cond (.t 9)
 .skip
 (.exit 0))
 (.seq (.block 1
 (.seq (.reg [⟨some 10, none, .iaddr 5 (.t 6) (.t 8)⟩,
  ⟨some 11, none, .load true 5 (.t 10)⟩,
  ⟨some 5, none, .alloc [.int .i64 0, .int .i64 0, .int .i64 0, .int .i64 0, .emp]⟩,
  ⟨none, none, .store 5 (.t 5) (.t 11)⟩])
 (.reg [⟨some 12, none, .mv (.t 3)⟩,
  ⟨some 13, none, .load true 5 (.t 5)⟩,
  ⟨some 14, none, .build [.int .i64 0, .int .i64 0, .int .i64 0, .int .i64 0, .emp] [(0, 5, (.t 13))]⟩,
  ⟨some 15, none, .call 52 [(.t 14)]⟩,
  ⟨some 16, none, .bini .add (.t 12) (.t 15)⟩,
  ⟨some 3, none, .mv (.t 16)⟩])))
 (.reg [⟨some 17, none, .bini .add (.t 8) (.c (.int .i64 1))⟩,
  ⟨some 8, none, .mv (.t 17)⟩])))))))
 (.seq (.reg [⟨some 18, none, .mv (.t 3)⟩,
  ⟨some 2, none, .mv (.t 18)⟩])
 .ret))))
theorem d19 : FnD Try.prog 19 1 18 [.tmp 2] c19 := ⟨Try.f19, _, Try.func19, by kernel_rfl, rfl, rfl, by kernel_rfl, by kernel_rfl⟩

/-- palimp/palimpref11.Count -/
def c20 : ACode :=
 (.seq (.reg [⟨some 2, none, .mv (.c (.int .i64 0))⟩])
 (.seq (.reg [⟨some 3, none, .mv (.c (.int .i64 0))⟩])
 (.seq (.seq (.reg [⟨some 4, none, .mv (.c (.int .i64 0))⟩])
 (.block 0
 (.loop
 (.seq (.seq (.reg [⟨some 5, none, .mv (.t 4)⟩,
  ⟨some 6, none, .bini .lss (.t 5) (.c (.int .i64 4))⟩])
 (.cond (.t 6)
 .skip
 (.exit 0)))
 (.seq (.block 1
 (.seq (.reg [⟨some 9, none, .mv (.t 0)⟩,
  ⟨some 10, none, .mv (.t 4)⟩,
  ⟨some 11, none, .call 53 [(.t 9), (.t 10)]⟩,
  ⟨some 12, none, .bins .neq (.t 11) (.c (.str []))⟩])
 (.cond (.t 12)
 (.reg [⟨some 13, none, .mv (.t 3)⟩,
  ⟨some 14, none, .bini .add (.t 13) (.c (.int .i64 1))⟩,
  ⟨some 3, none, .mv (.t 14)⟩])
 .skip)))
 (.reg [⟨some 7, none, .mv (.t 4)⟩,
  ⟨some 8, none, .bini .add (.t 7) (.c (.int .i64 1))⟩,
  ⟨some 4, none, .mv (.t 8)⟩]))))))
 (.seq (.reg [⟨some 15, none, .mv (.t 3)⟩,
  ⟨some 2, none, .mv (.t 15)⟩])
 .ret))))
theorem d20 : FnD Try.prog 20 1 15 [.tmp 2] c20 := ⟨Try.f20, _, Try.func20, by kernel_rfl, rfl, rfl, by kernel_rfl, by kernel_rfl⟩

/-- palimp/palimpref11.Way -/
def c21 : ACode :=
 (.seq (.reg [⟨some 4, none, .mv (.c (.str []))⟩,
  ⟨some 5, none, .mv (.c (.bool false))⟩])
 (.seq (.seq (.reg [⟨some 8, none, .mv (.t 0)⟩,
  ⟨some 9, none, .mv (.t 1)⟩,
  ⟨some 10, none, .call 54 [(.t 8), (.t 9)]⟩,
  ⟨some 11, none, .un .not (.t 10)⟩])
 (.cond (.t 11)
 (.seq (.reg [⟨some 4, none, .mv (.c (.str []))⟩,
  ⟨some 5, none, .mv (.c (.bool false))⟩])
 .ret)
 .skip))
 (.seq (.reg [⟨some 6, none, .mv (.c (.emp))⟩])
 (.seq (.seq (.reg [⟨some 7, none, .mv (.c (.int .i64 0))⟩])
 (.block 0
 (.loop
 (.seq (.seq (.reg [⟨some 12, none, .mv (.t 7)⟩,
  ⟨some 13, none, .mv (.t 0)⟩,
  ⟨some 14, none, .len false (.t 13)⟩,
  ⟨some 15, none, .bini .lss (.t 12) (.t 14)⟩,
  ⟨some 16, none, .mv (.t 15)⟩,
  ⟨some 17, (some (16, true)), .mv (.t 1)⟩,
  ⟨some 18, (some (16, true)), .bini .neq (.t 17) (.c (.int .i64 0))⟩,
  ⟨some 19, none, .pick (.t 16) (.t 18) (.c (.bool false))⟩])
 (.cond (.t 19)
 .skip
 (.exit 0)))
 (.seq (.block 1
 (.seq (.reg [⟨some 22, none, .mv (.t 0)⟩,
  ⟨some 23, none, .mv (.t 1)⟩,
  ⟨some 24, none, .iaddr 5 (.t 22) (.t 23)⟩,
  ⟨some 25, none, .faddr 2 (.t 24)⟩,
  ⟨some 26, none, .load false 1 (.t 25)⟩,
  ⟨some 27, none, .bslice 1 1 [.str []] [(0, (.t 26))]⟩,
  ⟨some 28, none, .mv (.t 6)⟩,
  ⟨some 29, none, .append 1 16 [.str []] (.t 27) (.t 28)⟩,
  ⟨some 6, none, .mv (.t 29)⟩])
 (.reg [⟨some 30, none, .mv (.t 0)⟩,
  ⟨some 31, none, .mv (.t 1)⟩,
  ⟨some 32, none, .iaddr 5 (.t 30) (.t 31)⟩,
  ⟨some 33, none, .faddr 1 (.t 32)⟩,
  ⟨some 34, none, .load false 1 (.t 33)⟩,
  ⟨some 1, none, .mv (.t 34)⟩])))
 (.reg [⟨some 20, none, .mv (.t 7)⟩,
  ⟨some 21, none, .bini .add (.t 20) (.c (.int .i64 1))⟩,
  ⟨some 7, none, .mv (.t 21)⟩]))))))
 (.seq (.reg [⟨some 35, none, .mv (.t 6)⟩,
  ⟨some 36, none, .call 55 [(.t 35)]⟩,
  ⟨some 4, none, .mv (.t 36)⟩,
  ⟨some 5, none, .mv (.c (.bool true))⟩])
 .ret)))))
theorem d21 : FnD Try.prog 21 2 35 [.tmp 4, .tmp 5] c21 := ⟨Try.f21, _, Try.func21, by kernel_rfl, rfl, rfl, by kernel_rfl, by kernel_rfl⟩

/-- palimp/palimpref11.Stat -/
def c22 : ACode :=
 (.seq (.reg [⟨some 4, none, .alloc [.int .i64 0, .int .i64 0, .int .i64 0, .int .i64 0]⟩,
  ⟨some 5, none, .mv (.c (.int .i64 0))⟩])
 (.seq (.reg [⟨some 11, none, .mv (.t 0)⟩,
  ⟨some 12, none, .mv (.t 1)⟩,
  ⟨some 13, none, .call 56 [(.t 11), (.t 12)]⟩,
  ⟨some 10, none, .mv (.t 13)⟩,
  ⟨some 14, none, .ext (.t 10) 0⟩,
  ⟨some 15, none, .ext (.t 10) 1⟩,
  ⟨some 6, none, .mv (.t 14)⟩,
  ⟨some 7, none, .mv (.t 15)⟩])
 (.seq (.seq (.reg [⟨some 16, none, .mv (.t 7)⟩,
  ⟨some 17, none, .bini .neq (.t 16) (.c (.int .i64 0))⟩])
 (.cond (.t 17)
 (.seq (.reg [⟨some 18, none, .build [.int .i64 0, .int .i64 0, .int .i64 0, .int .i64 0] []⟩,
  ⟨some 19, none, .mv (.t 7)⟩,
  ⟨none, none, .store 4 (.t 4) (.t 18)⟩,
  ⟨some 5, none, .mv (.t 19)⟩])
 .ret)
 .skip))
 (.seq (.reg [⟨some 20, none, .mv (.t 0)⟩,
  ⟨some 21, none, .mv (.t 6)⟩,
  ⟨some 22, none, .iaddr 5 (.t 20) (.t 21)⟩,
  ⟨some 23, none, .faddr 3 (.t 22)⟩,
  ⟨some 24, none, .load false 1 (.t 23)⟩,
  ⟨some 25, none, .call 20 [(.t 24)]⟩,
  ⟨some 8, none, .mv (.t 25)⟩])
 (.seq (.seq (.reg [⟨some 9, none, .mv (.c (.int .i64 0))⟩])
 (.block 0
 (.loop
 (.seq (.seq (.reg [⟨some 26, none, .mv (.t 9)⟩,
  ⟨some 27, none, .bini .lss (.t 26) (.c (.int .i64 4))⟩])
 (.cond (.t 27)
 .skip
 (.exit 0)))
 (.seq (.block 1
 (.reg [⟨some 30, none, .mv (.t 8)⟩,
  ⟨some 31, none, .mv (.t 0)⟩,
  ⟨some 32, none, .mv (.t 6)⟩,
  ⟨some 33, none, .iaddr 5 (.t 31) (.t 32)⟩,
  ⟨some 34, none, .faddr 4 (.t 33)⟩,
  ⟨some 35, none, .load false 1 (.t 34)⟩,
  ⟨some 36, none, .mv (.t 9)⟩,
  ⟨some 37, none, .bini .shr (.t 35) (.t 36)⟩,
  ⟨some 38, none, .bini .and (.t 37) (.c (.int .i64 1))⟩,
  ⟨some 39, none, .bini .add (.t 30) (.t 38)⟩,
  ⟨some 8, none, .mv (.t 39)⟩]))
 (.reg [⟨some 28, none, .mv (.t 9)⟩,
  ⟨some 29, none, .bini .add (.t 28) (.c (.int .i64 1))⟩,
  ⟨some 9, none, .mv (.t 29)⟩]))))))
 (.seq (.dregE [[⟨some 40, none, .mv (.t 6)⟩,
  ⟨some 41, none, .mv (.t 0)⟩,
  ⟨some 42, none, .mv (.t 6)⟩,
  ⟨some 43, none, .iaddr 5 (.t 41) (.t 42)⟩,
  ⟨some 44, none, .faddr 0 (.t 43)⟩,
  ⟨some 45, none, .load false 1 (.t 44)⟩,
  ⟨some 46, none, .mv (.t 0)⟩,
  ⟨some 47, none, .mv (.t 6)⟩,
  ⟨some 48, none, .iaddr 5 (.t 46) (.t 47)⟩,
  ⟨some 49, none, .faddr 3 (.t 48)⟩,
  ⟨some 50, none, .load false 1 (.t 49)⟩,
  ⟨some 51, none, .len true (.t 50)⟩,
  ⟨some 52, none, .mv (.t 8)⟩],
  [⟨some 53, none, .build [.int .i64 0, .int .i64 0, .int .i64 0, .int .i64 0] [(0, 1, (.t 40)), (1, 1, (.t 45)), (2, 1, (.t 51)), (3, 1, (.t 52))]⟩],
  [⟨none, none, .store 4 (.t 4) (.t 53)⟩],
  [⟨some 5, none, .mv (.c (.int .i64 0))⟩]]
  [[], [], [], [1, 2], [1, 2, 3], [1, 2, 3, 4], [], [], [6, 7], [6, 7, 8], [6, 7, 8, 9], [6, 7, 8, 9, 10], [], [0, 1, 2, 3, 4, 5, 6, 7, 8, 9, 10, 11, 12], [0, 1, 2, 3, 4, 5, 6, 7, 8, 9, 10, 11, 12, 13], [0, 1, 2, 3, 4, 5, 6, 7, 8, 9, 10, 11, 12, 13, 14]])
 .ret))))))
theorem d22 : FnD Try.prog 22 2 52 [.cell 4 true 4, .tmp 5] c22 := ⟨Try.f22, _, Try.func22, by kernel_rfl, rfl, rfl, by kernel_rfl, by kernel_rfl⟩

/-- palimp/palimplaw18.begun -/
def c23 : ACode :=
 (.seq (.reg [⟨some 0, none, .mv (.c (.bool false))⟩])
 (.seq (.reg [⟨some 14, none, .call 25 [(.c (.emp)), (.c (.int .i64 1)), (.c (.int .i64 0))]⟩,
  ⟨some 13, none, .mv (.t 14)⟩,
  ⟨some 15, none, .ext (.t 13) 0⟩,
  ⟨some 16, none, .ext (.t 13) 1⟩,
  ⟨some 1, none, .mv (.t 15)⟩,
  ⟨some 2, none, .mv (.t 16)⟩])
 (.seq (.reg [⟨some 18, none, .mv (.t 1)⟩,
  ⟨some 19, none, .call 26 [(.t 18), (.c (.int .i64 2)), (.c (.int .i64 1))]⟩,
  ⟨some 17, none, .mv (.t 19)⟩,
  ⟨some 20, none, .ext (.t 17) 0⟩,
  ⟨some 21, none, .ext (.t 17) 1⟩,
  ⟨some 3, none, .mv (.t 20)⟩,
  ⟨some 4, none, .mv (.t 21)⟩])
 (.seq (.reg [⟨some 23, none, .mv (.t 3)⟩,
  ⟨some 24, none, .call 27 [(.t 23), (.c (.int .i64 3)), (.c (.int .i64 2))]⟩,
  ⟨some 22, none, .mv (.t 24)⟩,
  ⟨some 25, none, .ext (.t 22) 0⟩,
  ⟨some 26, none, .ext (.t 22) 1⟩,
  ⟨some 5, none, .mv (.t 25)⟩,
  ⟨some 6, none, .mv (.t 26)⟩])
 (.seq (.reg [⟨some 28, none, .mv (.t 5)⟩,
  ⟨some 29, none, .call 28 [(.t 28), (.c (.int .i64 3))]⟩,
  ⟨some 27, none, .mv (.t 29)⟩,
  ⟨some 30, none, .ext (.t 27) 0⟩,
  ⟨some 31, none, .ext (.t 27) 1⟩,
  ⟨some 7, none, .mv (.t 30)⟩,
  ⟨some 8, none, .mv (.t 31)⟩])
 (.seq (.reg [⟨some 33, none, .mv (.t 7)⟩,
  ⟨some 34, none, .call 30 [(.t 33), (.c (.int .i64 2))]⟩,
  ⟨some 32, none, .mv (.t 34)⟩,
  ⟨some 35, none, .ext (.t 32) 0⟩,
  ⟨some 36, none, .ext (.t 32) 1⟩,
  ⟨some 9, none, .mv (.t 35)⟩,
  ⟨some 10, none, .mv (.t 36)⟩])
 (.seq (.reg [⟨some 38, none, .mv (.t 7)⟩,
  ⟨some 39, none, .call 42 [(.t 38), (.c (.int .i64 1))]⟩,
  ⟨some 37, none, .mv (.t 39)⟩,
  ⟨some 40, none, .ext (.t 37) 0⟩,
  ⟨some 41, none, .ext (.t 37) 1⟩,
  ⟨some 11, none, .alloc [.int .i64 0, .int .i64 0, .int .i64 0, .int .i64 0, .emp]⟩,
  ⟨none, none, .store 5 (.t 11) (.t 40)⟩,
  ⟨some 12, none, .mv (.t 41)⟩])
 (.seq (.reg [⟨some 42, none, .mv (.t 2)⟩,
  ⟨some 43, none, .bini .eql (.t 42) (.c (.int .i64 0))⟩,
  ⟨some 44, none, .mv (.t 43)⟩,
  ⟨some 45, (some (44, true)), .mv (.t 4)⟩,
  ⟨some 46, (some (44, true)), .bini .eql (.t 45) (.c (.int .i64 0))⟩,
  ⟨some 47, none, .pick (.t 44) (.t 46) (.c (.bool false))⟩,
  ⟨some 48, none, .mv (.t 47)⟩,
  ⟨some 49, (some (48, true)), .mv (.t 6)⟩,
  ⟨some 50, (some (48, true)), .bini .eql (.t 49) (.c (.int .i64 0))⟩,
  ⟨some 51, none, .pick (.t 48) (.t 50) (.c (.bool false))⟩,
  ⟨some 52, none, .mv (.t 51)⟩,
  ⟨some 53, (some (52, true)), .mv (.t 8)⟩,
  ⟨some 54, (some (52, true)), .bini .eql (.t 53) (.c (.int .i64 0))⟩,
  ⟨some 55, none, .pick (.t 52) (.t 54) (.c (.bool false))⟩,
  ⟨some 56, none, .mv (.t 55)⟩,
  ⟨some 57, (some (56, true)), .mv (.t 10)⟩,
  ⟨some 58, (some (56, true)), .bini .eql (.t 57) (.c (.int .i64 10))⟩,
  ⟨some 59, none, .pick (.t 56) (.t 58) (.c (.bool false))⟩,
  ⟨some 60, none, .mv (.t 59)⟩,
  ⟨some 61, (some (60, true)), .mv (.t 12)⟩,
  ⟨some 62, none, .pick (.t 60) (.t 61) (.c (.bool false))⟩,
  ⟨some 63, none, .mv (.t 62)⟩,
  ⟨some 64, (some (63, true)), .faddr 2 (.t 11)⟩,
  ⟨some 65, (some (63, true)), .load false 1 (.t 64)⟩,
  ⟨some 66, (some (63, true)), .bini .eql (.t 65) (.c (.int .i64 2))⟩,
  ⟨some 67, none, .pick (.t 63) (.t 66) (.c (.bool false))⟩,
  ⟨some 68, none, .mv (.t 67)⟩,
  ⟨some 69, (some (68, true)), .mv (.t 7)⟩,
  ⟨some 70, (some (68, true)), .call 57 [(.t 69)]⟩,
  ⟨some 71, none, .pick (.t 68) (.t 70) (.c (.bool false))⟩,
  ⟨some 72, none, .mv (.t 71)⟩,
  ⟨some 73, (some (72, true)), .build [.int .i64 0, .int .i64 0, .int .i64 0, .int .i64 0, .emp] []⟩,
  ⟨some 74, (some (72, true)), .bslice 5 1 [.int .i64 0, .int .i64 0, .int .i64 0, .int .i64 0, .emp] [(0, (.t 73))]⟩,
  ⟨some 75, (some (72, true)), .call 57 [(.t 74)]⟩,
  ⟨some 76, (some (72, true)), .un .not (.t 75)⟩,
  ⟨some 77, none, .pick (.t 72) (.t 76) (.c (.bool false))⟩,
  ⟨some 78, none, .mv (.t 77)⟩,
  ⟨some 79, (some (78, true)), .mv (.t 7)⟩,
  ⟨some 80, (some (78, true)), .mv (.t 7)⟩,
  ⟨some 81, (some (78, true)), .call 58 [(.t 79), (.t 80)]⟩,
  ⟨some 82, none, .pick (.t 78) (.t 81) (.c (.bool false))⟩,
  ⟨some 83, none, .mv (.t 82)⟩,
  ⟨some 84, (some (83, true)), .mv (.t 7)⟩,
  ⟨some 85, (some (83, true)), .mv (.t 5)⟩,
  ⟨some 86, (some (83, true)), .call 58 [(.t 84), (.t 85)]⟩,
  ⟨some 87, (some (83, true)), .un .not (.t 86)⟩,
  ⟨some 88, none, .pick (.t 83) (.t 87) (.c (.bool false))⟩,
  ⟨some 0, none, .mv (.t 88)⟩])
 .ret))))))))
theorem d23 : FnD Try.prog 23 0 89 [.tmp 0] c23 := ⟨Try.f23, _, Try.func23, by kernel_rfl, rfl, rfl, by kernel_rfl, by kernel_rfl⟩

/-- (*palimp/palimpmade.Picks).Num -/
def c24 : ACode :=
 (.seq (.reg [⟨some 4, none, .mv (.c (.int .i64 0))⟩])
 (.seq (.seq (.dreg [⟨some 5, none, .mv (.t 0)⟩,
  ⟨some 6, none, .nilchk (.t 5)⟩,
  ⟨some 7, none, .faddr 1 (.t 6)⟩,
  ⟨some 8, none, .load false 1 (.t 7)⟩,
  ⟨some 9, none, .mv (.t 0)⟩,
  ⟨some 10, none, .nilchk (.t 9)⟩,
  ⟨some 11, none, .faddr 0 (.t 10)⟩,
  ⟨some 12, none, .load false 1 (.t 11)⟩,
  ⟨some 13, none, .len false (.t 12)⟩,
  ⟨some 14, none, .bini .geq (.t 8) (.t 13)⟩,
  ⟨some 15, none, .mv (.t 14)⟩,
  ⟨some 16, (some (15, false)), .mv (.t 1)⟩,
  ⟨some 17, (some (15, false)), .bini .lss (.t 16) (.c (.int .i64 1))⟩,
  ⟨some 18, none, .pick (.t 15) (.c (.bool true)) (.t 17)⟩])
 (.cond (.t 18)
 (.seq (.reg [⟨some 4, none, .mv (.c (.int .i64 0))⟩])
 .ret)
 .skip))
 (.seq (.reg [⟨some 19, none, .mv (.t 0)⟩,
  ⟨some 20, none, .nilchk (.t 19)⟩,
  ⟨some 21, none, .faddr 1 (.t 20)⟩,
  ⟨some 22, none, .load false 1 (.t 21)⟩,
  ⟨some 23, none, .bini .add (.t 22) (.c (.int .i64 1))⟩,
  ⟨some 24, none, .nilchk (.t 19)⟩,
  ⟨some 25, none, .faddr 1 (.t 24)⟩,
  ⟨none, none, .store 1 (.t 25) (.t 23)⟩])
 (.seq (.dreg [⟨some 26, none, .mv (.t 0)⟩,
  ⟨some 27, none, .nilchk (.t 26)⟩,
  ⟨some 28, none, .faddr 0 (.t 27)⟩,
  ⟨some 29, none, .load false 1 (.t 28)⟩,
  ⟨some 30, none, .mv (.t 0)⟩,
  ⟨some 31, none, .nilchk (.t 30)⟩,
  ⟨some 32, none, .faddr 1 (.t 31)⟩,
  ⟨some 33, none, .load false 1 (.t 32)⟩,
  ⟨some 34, none, .bini .sub (.t 33) (.c (.int .i64 1))⟩,
  ⟨some 35, none, .iaddr 1 (.t 29) (.t 34)⟩,
  ⟨some 36, none, .load false 1 (.t 35)⟩,
  ⟨some 37, none, .convi .i64 (.t 36)⟩,
  ⟨some 38, none, .mv (.t 1)⟩,
  ⟨some 39, none, .bini .rem (.t 37) (.t 38)⟩,
  ⟨some 4, none, .mv (.t 39)⟩])
 .ret))))
theorem d24 : FnD Try.prog 24 2 38 [.tmp 4] c24 := ⟨Try.f24, _, Try.func24, by kernel_rfl, rfl, rfl, by kernel_rfl, by kernel_rfl⟩

/-- palimp/dset.Create -/
def c25 : ACode :=
 (.seq (.reg [⟨some 6, none, .mv (.c (.emp))⟩,
  ⟨some 7, none, .mv (.c (.int .i64 0))⟩])
 (.seq (.seq (.reg [⟨some 8, none, .mv (.t 2)⟩,
  ⟨some 9, none, .bini .lss (.t 8) (.c (.int .i64 0))⟩,
  ⟨some 10, none, .mv (.t 9)⟩,
  ⟨some 11, (some (10, false)), .mv (.t 2)⟩,
  ⟨some 12, (some (10, false)), .bini .gtr (.t 11) (.c (.int .i64 255))⟩,
  ⟨some 13, none, .pick (.t 10) (.c (.bool true)) (.t 12)⟩])
 (.cond (.t 13)
 (.seq (.reg [⟨some 14, none, .mv (.t 0)⟩,
  ⟨some 15, none, .call 59 [(.t 14)]⟩,
  ⟨some 6, none, .mv (.t 15)⟩,
  ⟨some 7, none, .mv (.c (.int .i64 1))⟩])
 .ret)
 .skip))
 (.seq (.reg [⟨some 16, none, .mv (.t 0)⟩,
  ⟨some 17, none, .mv (.t 1)⟩,
  ⟨some 18, none, .mv (.t 2)⟩,
  ⟨some 19, none, .call 61 []⟩,
  ⟨some 20, none, .build [.int .i64 0, .int .i64 0, .int .i64 0, .int .i64 0, .emp] [(1, 1, (.c (.int .i64 1))), (3, 1, (.t 18)), (4, 1, (.t 19))]⟩,
  ⟨some 21, none, .call 60 [(.t 16), (.t 17), (.t 20)]⟩,
  ⟨some 22, none, .ext (.t 21) 0⟩,
  ⟨some 23, none, .ext (.t 21) 1⟩,
  ⟨some 6, none, .mv (.t 22)⟩,
  ⟨some 7, none, .mv (.t 23)⟩])
 .ret)))
theorem d25 : FnD Try.prog 25 3 21 [.tmp 6, .tmp 7] c25 := ⟨Try.f25, _, Try.func25, by kernel_rfl, rfl, rfl, by kernel_rfl, by kernel_rfl⟩

/-- palimp/dset.Snap -/
def c26 : ACode :=
 (.seq (.reg [⟨some 6, none, .mv (.c (.emp))⟩,
  ⟨some 7, none, .mv (.c (.int .i64 0))⟩])
 (.seq (.reg [⟨some 11, none, .mv (.t 0)⟩,
  ⟨some 12, none, .mv (.t 2)⟩,
  ⟨some 13, none, .call 42 [(.t 11), (.t 12)]⟩,
  ⟨some 10, none, .mv (.t 13)⟩,
  ⟨some 14, none, .ext (.t 10) 0⟩,
  ⟨some 15, none, .ext (.t 10) 1⟩,
  ⟨some 8, none, .alloc [.int .i64 0, .int .i64 0, .int .i64 0, .int .i64 0, .emp]⟩,
  ⟨none, none, .store 5 (.t 8) (.t 14)⟩,
  ⟨some 9, none, .mv (.t 15)⟩])
 (.seq (.block 0
 (.seq (.reg [⟨some 17, none, .mv (.t 9)⟩,
  ⟨some 18, none, .un .not (.t 17)⟩,
  ⟨some 16, none, .mv (.t 18)⟩])
 (.cond (.t 16)
 (.seq (.reg [⟨some 19, none, .mv (.t 0)⟩,
  ⟨some 20, none, .call 59 [(.t 19)]⟩,
  ⟨some 6, none, .mv (.t 20)⟩,
  ⟨some 7, none, .mv (.c (.int .i64 2))⟩])
 .ret)
 (.seq (.reg [⟨some 22, none, .faddr 1 (.t 8)⟩,
  ⟨some 23, none, .load false 1 (.t 22)⟩,
  ⟨some 24, none, .bini .eql (.t 23) (.c (.int .i64 2))⟩,
  ⟨some 21, none, .mv (.t 24)⟩])
 (.cond (.t 21)
 (.seq (.reg [⟨some 25, none, .mv (.t 0)⟩,
  ⟨some 26, none, .call 59 [(.t 25)]⟩,
  ⟨some 6, none, .mv (.t 26)⟩,
  ⟨some 7, none, .mv (.c (.int .i64 11))⟩])
 .ret)
 .skip)))))
 (.seq (.reg [⟨some 27, none, .mv (.t 0)⟩,
  ⟨some 28, none, .mv (.t 1)⟩,
  ⟨some 29, none, .mv (.t 2)⟩,
  ⟨some 30, none, .faddr 4 (.t 8)⟩,
  ⟨some 31, none, .load false 1 (.t 30)⟩,
  ⟨some 32, none, .build [.int .i64 0, .int .i64 0, .int .i64 0, .int .i64 0, .emp] [(1, 1, (.c (.int .i64 2))), (2, 1, (.t 29)), (4, 1, (.t 31))]⟩,
  ⟨some 33, none, .call 60 [(.t 27), (.t 28), (.t 32)]⟩,
  ⟨some 34, none, .ext (.t 33) 0⟩,
  ⟨some 35, none, .ext (.t 33) 1⟩,
  ⟨some 6, none, .mv (.t 34)⟩,
  ⟨some 7, none, .mv (.t 35)⟩])
 .ret))))
theorem d26 : FnD Try.prog 26 3 33 [.tmp 6, .tmp 7] c26 := ⟨Try.f26, _, Try.func26, by kernel_rfl, rfl, rfl, by kernel_rfl, by kernel_rfl⟩

end Go.Proofs.Ytemjlopoffjmpaa.Abs
