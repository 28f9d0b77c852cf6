/-
  The code of some functions in the abstract layer's form, each checked against the program's own. Written by gen.py.
-/
import Derived.Test.YtemjlopoffjmpaaAbs22
import Derived.Test.YtemjlopoffjmpaaProg
import Derived.KernelRfl
namespace Go.Proofs.Ytemjlopoffjmpaa.Abs
open Go

/-- palimp/palimpref11.down -/
def c75 : ACode :=
 (.seq (.reg [⟨some 4, none, .mv (.c (.int .i64 0))⟩,
  ⟨some 5, none, .mv (.c (.int .i64 0))⟩])
 (.seq (.reg [⟨some 6, none, .mv (.c (.int .i64 0))⟩])
 (.seq (.seq (.reg [⟨some 7, none, .mv (.c (.int .i64 0))⟩])
 (.block 0
 (.loop
 (.seq (.seq (.reg [⟨some 10, none, .mv (.t 7)⟩,
  ⟨some 11, none, .mv (.t 1)⟩,
  ⟨some 12, none, .len false (.t 11)⟩,
  ⟨some 13, none, .bini .lss (.t 10) (.t 12)⟩])
 (.cond (.t 13)
 .skip
 (.exit 0)))
 (.seq (.block 1
 (.seq (.seq (.reg [⟨some 16, none, .mv (.t 6)⟩,
  ⟨some 17, none, .mv (.t 0)⟩,
  ⟨some 18, none, .len false (.t 17)⟩,
  ⟨some 19, none, .bini .geq (.t 16) (.t 18)⟩,
  ⟨some 20, none, .mv (.t 19)⟩,
  ⟨some 21, (some (20, false)), .mv (.t 0)⟩,
  ⟨some 22, (some (20, false)), .mv (.t 6)⟩,
  ⟨some 23, (some (20, false)), .iaddr 5 (.t 21) (.t 22)⟩,
  ⟨some 24, (some (20, false)), .faddr 0 (.t 23)⟩,
  ⟨some 25, (some (20, false)), .load false 1 (.t 24)⟩,
  ⟨some 26, (some (20, false)), .bini .neq (.t 25) (.c (.int .i64 2))⟩,
  ⟨some 27, none, .pick (.t 20) (.c (.bool true)) (.t 26)⟩])
 (.cond (.t 27)
 (.seq (.reg [⟨some 4, none, .mv (.c (.int .i64 0))⟩,
  ⟨some 5, none, .mv (.c (.int .i64 5))⟩])
 .ret)
 .skip))
 (.seq (.reg [⟨some 29, none, .mv (.t 0)⟩,
  ⟨some 30, none, .mv (.t 6)⟩,
  ⟨some 31, none, .mv (.t 1)⟩,
  ⟨some 32, none, .mv (.t 7)⟩,
  ⟨some 33, none, .iaddr 1 (.t 31) (.t 32)⟩,
  ⟨some 34, none, .load false 1 (.t 33)⟩,
  ⟨some 35, none, .call 47 [(.t 29), (.t 30), (.t 34)]⟩,
  ⟨some 28, none, .mv (.t 35)⟩,
  ⟨some 36, none, .ext (.t 28) 0⟩,
  ⟨some 37, none, .ext (.t 28) 1⟩,
  ⟨some 8, none, .mv (.t 36)⟩,
  ⟨some 9, none, .mv (.t 37)⟩])
 (.seq (.seq (.reg [⟨some 38, none, .mv (.t 9)⟩,
  ⟨some 39, none, .un .not (.t 38)⟩,
  ⟨some 40, none, .mv (.t 39)⟩,
  ⟨some 41, (some (40, true)), .mv (.t 0)⟩,
  ⟨some 42, (some (40, true)), .call 88 [(.t 41)]⟩,
  ⟨some 43, none, .pick (.t 40) (.t 42) (.c (.bool false))⟩])
 (.cond (.t 43)
 (.seq (.reg [⟨some 4, none, .mv (.c (.int .i64 0))⟩,
  ⟨some 5, none, .mv (.c (.int .i64 12))⟩])
 .ret)
 .skip))
 (.seq (.seq (.reg [⟨some 44, none, .mv (.t 9)⟩,
  ⟨some 45, none, .un .not (.t 44)⟩])
 (.cond (.t 45)
 (.seq (.reg [⟨some 4, none, .mv (.c (.int .i64 0))⟩,
  ⟨some 5, none, .mv (.c (.int .i64 2))⟩])
 .ret)
 .skip))
 (.reg [⟨some 46, none, .mv (.t 8)⟩,
  ⟨some 6, none, .mv (.t 46)⟩]))))))
 (.reg [⟨some 14, none, .mv (.t 7)⟩,
  ⟨some 15, none, .bini .add (.t 14) (.c (.int .i64 1))⟩,
  ⟨some 7, none, .mv (.t 15)⟩]))))))
 (.seq (.reg [⟨some 47, none, .mv (.t 6)⟩,
  ⟨some 4, none, .mv (.t 47)⟩,
  ⟨some 5, none, .mv (.c (.int .i64 0))⟩])
 .ret))))
theorem d75 : FnD Try.prog 75 2 46 [.tmp 4, .tmp 5] c75 := ⟨Try.f75, _, Try.func75, by kernel_rfl, rfl, rfl, by kernel_rfl, by kernel_rfl⟩

/-- strings.Join -/
def c76 : ACode :=
 (.seq (.reg [⟨some 4, none, .mv (.c (.str []))⟩])
 (.seq (.seq (.reg [⟨some 11, none, .mv (.t 0)⟩,
  ⟨some 12, none, .len false (.t 11)⟩])
 (.block 0
 (.seq (.reg [⟨some 14, none, .bini .eql (.t 12) (.c (.int .i64 0))⟩,
  ⟨some 13, none, .mv (.t 14)⟩])
 (.cond (.t 13)
 (.seq (.reg [⟨some 4, none, .mv (.c (.str []))⟩])
 .ret)
 (.seq (.reg [⟨some 16, none, .bini .eql (.t 12) (.c (.int .i64 1))⟩,
  ⟨some 15, none, .mv (.t 16)⟩])
 (.cond (.t 15)
 (.seq (.reg [⟨some 17, none, .mv (.t 0)⟩,
  ⟨some 18, none, .iaddr 1 (.t 17) (.c (.int .i64 0))⟩,
  ⟨some 19, none, .load false 1 (.t 18)⟩,
  ⟨some 4, none, .mv (.t 19)⟩])
 .ret)
 .skip))))))
 (.seq (.reg [⟨some 5, none, .mv (.c (.int .i64 0))⟩])
 (.seq (.seq (.reg [⟨some 20, none, .mv (.t 1)⟩,
  ⟨some 21, none, .len true (.t 20)⟩,
  ⟨some 22, none, .bini .gtr (.t 21) (.c (.int .i64 0))⟩])
 (.cond (.t 22)
 (.seq (.seq (.reg [⟨some 23, none, .mv (.t 1)⟩,
  ⟨some 24, none, .len true (.t 23)⟩,
  ⟨some 25, none, .mv (.t 0)⟩,
  ⟨some 26, none, .len false (.t 25)⟩,
  ⟨some 27, none, .bini .sub (.t 26) (.c (.int .i64 1))⟩,
  ⟨some 28, none, .bini .quo (.c (.int .i64 9223372036854775807)) (.t 27)⟩,
  ⟨some 29, none, .bini .geq (.t 24) (.t 28)⟩])
 (.cond (.t 29)
 (.reg [⟨some 30, none, .bad⟩,
  ⟨none, none, .bad⟩])
 .skip))
 (.reg [⟨some 31, none, .mv (.t 5)⟩,
  ⟨some 32, none, .mv (.t 1)⟩,
  ⟨some 33, none, .len true (.t 32)⟩,
  ⟨some 34, none, .mv (.t 0)⟩,
  ⟨some 35, none, .len false (.t 34)⟩,
  ⟨some 36, none, .bini .sub (.t 35) (.c (.int .i64 1))⟩,
  ⟨some 37, none, .bini .mul (.t 33) (.t 36)⟩,
  ⟨some 38, none, .bini .add (.t 31) (.t 37)⟩,
  ⟨some 5, none, .mv (.t 38)⟩]))
 .skip))
 (.seq (.seq (.reg [⟨some 39, none, .mv (.t 0)⟩,
  ⟨some 40, none, .len false (.t 39)⟩,
  ⟨some 41, none, .mv (.c (.int .i64 0))⟩])
 (.block 1
 (.loop
 (.seq (.reg [⟨some 42, none, .bini .lss (.t 41) (.t 40)⟩])
 (.seq (.cond (.t 42)
 .skip
 (.exit 1))
 (.seq (.block 2
 (.seq (.reg [⟨some 43, none, .iaddr 1 (.t 39) (.t 41)⟩,
  ⟨some 44, none, .load false 1 (.t 43)⟩,
  ⟨some 7, none, .mv (.t 44)⟩])
 (.seq (.seq (.reg [⟨some 45, none, .mv (.t 7)⟩,
  ⟨some 46, none, .len true (.t 45)⟩,
  ⟨some 47, none, .mv (.t 5)⟩,
  ⟨some 48, none, .bini .sub (.c (.int .i64 9223372036854775807)) (.t 47)⟩,
  ⟨some 49, none, .bini .gtr (.t 46) (.t 48)⟩])
 (.cond (.t 49)
 (.reg [⟨some 50, none, .bad⟩,
  ⟨none, none, .bad⟩])
 .skip))
 (.reg [⟨some 51, none, .mv (.t 5)⟩,
  ⟨some 52, none, .mv (.t 7)⟩,
  ⟨some 53, none, .len true (.t 52)⟩,
  ⟨some 54, none, .bini .add (.t 51) (.t 53)⟩,
  ⟨some 5, none, .mv (.t 54)⟩]))))
 (.reg [⟨some 55, none, .bini .add (.t 41) (.c (.int .i64 1))⟩,
  ⟨some 41, none, .mv (.t 55)⟩])))))))
 (.seq (.reg [⟨some 8, none, .alloc [.nilp, .emp]⟩])
 (.seq (.reg [⟨some 56, none, .mv (.t 5)⟩,
  ⟨some 57, none, .call 89 [(.t 8), (.t 56)]⟩])
 (.seq (.reg [⟨some 58, none, .mv (.t 0)⟩,
  ⟨some 59, none, .iaddr 1 (.t 58) (.c (.int .i64 0))⟩,
  ⟨some 60, none, .load false 1 (.t 59)⟩,
  ⟨some 61, none, .call 90 [(.t 8), (.t 60)]⟩])
 (.seq (.seq (.reg [⟨some 62, none, .mv (.t 0)⟩,
  ⟨some 63, none, .slicel 1 (.t 62) (some (.c (.int .i64 1))) none⟩,
  ⟨some 64, none, .len false (.t 63)⟩,
  ⟨some 65, none, .mv (.c (.int .i64 0))⟩])
 (.block 3
 (.loop
 (.seq (.reg [⟨some 66, none, .bini .lss (.t 65) (.t 64)⟩])
 (.seq (.cond (.t 66)
 .skip
 (.exit 3))
 (.seq (.block 4
 (.seq (.reg [⟨some 67, none, .iaddr 1 (.t 63) (.t 65)⟩,
  ⟨some 68, none, .load false 1 (.t 67)⟩,
  ⟨some 10, none, .mv (.t 68)⟩])
 (.seq (.reg [⟨some 69, none, .mv (.t 1)⟩,
  ⟨some 70, none, .call 90 [(.t 8), (.t 69)]⟩])
 (.reg [⟨some 71, none, .mv (.t 10)⟩,
  ⟨some 72, none, .call 90 [(.t 8), (.t 71)]⟩]))))
 (.reg [⟨some 73, none, .bini .add (.t 65) (.c (.int .i64 1))⟩,
  ⟨some 65, none, .mv (.t 73)⟩])))))))
 (.seq (.reg [⟨some 74, none, .call 91 [(.t 8)]⟩,
  ⟨some 4, none, .mv (.t 74)⟩])
 .ret))))))))))
-- not all of it is covered: op makeInterface; op panic

/-- (palimp/dset.member).may -/
def c77 : ACode :=
 (.seq (.reg [⟨some 1, none, .box (.t 0)⟩,
  ⟨some 2, none, .mv (.c (.bool false))⟩])
 (.seq (.seq (.reg [⟨some 3, none, .faddr 0 (.t 1)⟩,
  ⟨some 4, none, .faddr 0 (.t 3)⟩,
  ⟨some 5, none, .load false 1 (.t 4)⟩,
  ⟨some 6, none, .bini .lss (.t 5) (.c (.int .i64 1))⟩,
  ⟨some 7, none, .mv (.t 6)⟩,
  ⟨some 8, (some (7, false)), .faddr 0 (.t 1)⟩,
  ⟨some 9, (some (7, false)), .faddr 0 (.t 8)⟩,
  ⟨some 10, (some (7, false)), .load false 1 (.t 9)⟩,
  ⟨some 11, (some (7, false)), .bini .gtr (.t 10) (.c (.int .i64 65535))⟩,
  ⟨some 12, none, .pick (.t 7) (.c (.bool true)) (.t 11)⟩,
  ⟨some 13, none, .mv (.t 12)⟩,
  ⟨some 14, (some (13, false)), .faddr 0 (.t 1)⟩,
  ⟨some 15, (some (13, false)), .faddr 4 (.t 14)⟩,
  ⟨some 16, (some (13, false)), .load false 1 (.t 15)⟩,
  ⟨some 17, (some (13, false)), .call 92 [(.t 16)]⟩,
  ⟨some 18, (some (13, false)), .un .not (.t 17)⟩,
  ⟨some 19, none, .pick (.t 13) (.c (.bool true)) (.t 18)⟩,
  ⟨some 20, none, .mv (.t 19)⟩,
  ⟨some 21, (some (20, false)), .faddr 0 (.t 1)⟩,
  ⟨some 22, (some (20, false)), .faddr 3 (.t 21)⟩,
  ⟨some 23, (some (20, false)), .load false 1 (.t 22)⟩,
  ⟨some 24, (some (20, false)), .bini .lss (.t 23) (.c (.int .i64 0))⟩,
  ⟨some 25, none, .pick (.t 20) (.c (.bool true)) (.t 24)⟩,
  ⟨some 26, none, .mv (.t 25)⟩,
  ⟨some 27, (some (26, false)), .faddr 0 (.t 1)⟩,
  ⟨some 28, (some (26, false)), .faddr 3 (.t 27)⟩,
  ⟨some 29, (some (26, false)), .load false 1 (.t 28)⟩,
  ⟨some 30, (some (26, false)), .bini .gtr (.t 29) (.c (.int .i64 255))⟩,
  ⟨some 31, none, .pick (.t 26) (.c (.bool true)) (.t 30)⟩])
 (.cond (.t 31)
 (.seq (.reg [⟨some 2, none, .mv (.c (.bool false))⟩])
 .ret)
 .skip))
 (.seq (.seq (.reg [⟨some 32, none, .faddr 0 (.t 1)⟩,
  ⟨some 33, none, .faddr 1 (.t 32)⟩,
  ⟨some 34, none, .load false 1 (.t 33)⟩])
 (.block 0
 (.seq (.reg [⟨some 36, none, .bini .eql (.t 34) (.c (.int .i64 1))⟩,
  ⟨some 35, none, .mv (.t 36)⟩])
 (.cond (.t 35)
 (.seq (.reg [⟨some 37, none, .faddr 0 (.t 1)⟩,
  ⟨some 38, none, .faddr 2 (.t 37)⟩,
  ⟨some 39, none, .load false 1 (.t 38)⟩,
  ⟨some 40, none, .bini .eql (.t 39) (.c (.int .i64 0))⟩,
  ⟨some 41, none, .mv (.t 40)⟩,
  ⟨some 42, (some (41, false)), .faddr 5 (.t 1)⟩,
  ⟨some 43, (some (41, false)), .load false 1 (.t 42)⟩,
  ⟨some 44, (some (41, false)), .faddr 0 (.t 1)⟩,
  ⟨some 45, (some (41, false)), .faddr 2 (.t 44)⟩,
  ⟨some 46, (some (41, false)), .load false 1 (.t 45)⟩,
  ⟨some 47, (some (41, false)), .call 63 [(.t 43), (.t 46), (.c (.int .i64 2))]⟩,
  ⟨some 48, (some (41, false)), .mv (.t 47)⟩,
  ⟨some 49, (some (48, true)), .faddr 5 (.t 1)⟩,
  ⟨some 50, (some (48, true)), .load false 1 (.t 49)⟩,
  ⟨some 51, (some (48, true)), .faddr 0 (.t 1)⟩,
  ⟨some 52, (some (48, true)), .faddr 0 (.t 51)⟩,
  ⟨some 53, (some (48, true)), .load false 1 (.t 52)⟩,
  ⟨some 54, (some (48, true)), .call 93 [(.t 50), (.t 53)]⟩,
  ⟨some 55, (some (48, true)), .un .not (.t 54)⟩,
  ⟨some 56, (some (41, false)), .pick (.t 48) (.t 55) (.c (.bool false))⟩,
  ⟨some 57, none, .pick (.t 41) (.c (.bool true)) (.t 56)⟩,
  ⟨some 2, none, .mv (.t 57)⟩])
 .ret)
 (.seq (.reg [⟨some 59, none, .bini .eql (.t 34) (.c (.int .i64 2))⟩,
  ⟨some 58, none, .mv (.t 59)⟩])
 (.cond (.t 58)
 (.seq (.reg [⟨some 60, none, .faddr 0 (.t 1)⟩,
  ⟨some 61, none, .faddr 3 (.t 60)⟩,
  ⟨some 62, none, .load false 1 (.t 61)⟩,
  ⟨some 63, none, .bini .eql (.t 62) (.c (.int .i64 0))⟩,
  ⟨some 64, none, .mv (.t 63)⟩,
  ⟨some 65, (some (64, true)), .faddr 5 (.t 1)⟩,
  ⟨some 66, (some (64, true)), .load false 1 (.t 65)⟩,
  ⟨some 67, (some (64, true)), .faddr 0 (.t 1)⟩,
  ⟨some 68, (some (64, true)), .faddr 2 (.t 67)⟩,
  ⟨some 69, (some (64, true)), .load false 1 (.t 68)⟩,
  ⟨some 70, (some (64, true)), .call 63 [(.t 66), (.t 69), (.c (.int .i64 1))]⟩,
  ⟨some 71, none, .pick (.t 64) (.t 70) (.c (.bool false))⟩,
  ⟨some 2, none, .mv (.t 71)⟩])
 .ret)
 .skip))))))
 (.seq (.reg [⟨some 2, none, .mv (.c (.bool false))⟩])
 .ret))))
theorem d77 : FnD Try.prog 77 1 71 [.tmp 2] c77 := ⟨Try.f77, _, Try.func77, by kernel_rfl, rfl, rfl, by kernel_rfl, by kernel_rfl⟩

/-- slices.EqualFunc(()palimp/api.Dset,()palimp/api.Dset,palimp/api.Dset,palimp/api.Dset) -/
def c78 : ACode :=
 (.seq (.reg [⟨some 6, none, .mv (.c (.bool false))⟩])
 (.seq (.seq (.reg [⟨some 10, none, .mv (.t 0)⟩,
  ⟨some 11, none, .len false (.t 10)⟩,
  ⟨some 12, none, .mv (.t 1)⟩,
  ⟨some 13, none, .len false (.t 12)⟩,
  ⟨some 14, none, .bini .neq (.t 11) (.t 13)⟩])
 (.cond (.t 14)
 (.seq (.reg [⟨some 6, none, .mv (.c (.bool false))⟩])
 .ret)
 .skip))
 (.seq (.seq (.reg [⟨some 15, none, .mv (.t 0)⟩,
  ⟨some 16, none, .len false (.t 15)⟩,
  ⟨some 17, none, .mv (.c (.int .i64 0))⟩])
 (.block 0
 (.loop
 (.seq (.reg [⟨some 18, none, .bini .lss (.t 17) (.t 16)⟩])
 (.seq (.cond (.t 18)
 .skip
 (.exit 0))
 (.seq (.block 1
 (.seq (.reg [⟨some 19, none, .mv (.t 17)⟩,
  ⟨some 20, none, .iaddr 5 (.t 15) (.t 17)⟩,
  ⟨some 21, none, .load true 5 (.t 20)⟩,
  ⟨some 8, none, .alloc [.int .i64 0, .int .i64 0, .int .i64 0, .int .i64 0, .emp]⟩,
  ⟨some 7, none, .mv (.t 19)⟩,
  ⟨none, none, .store 5 (.t 8) (.t 21)⟩])
 (.seq (.reg [⟨some 22, none, .mv (.t 1)⟩,
  ⟨some 23, none, .mv (.t 7)⟩,
  ⟨some 24, none, .iaddr 5 (.t 22) (.t 23)⟩,
  ⟨some 25, none, .load true 5 (.t 24)⟩,
  ⟨some 9, none, .alloc [.int .i64 0, .int .i64 0, .int .i64 0, .int .i64 0, .emp]⟩,
  ⟨none, none, .store 5 (.t 9) (.t 25)⟩])
 (.seq (.reg [⟨some 26, none, .mv (.t 2)⟩,
  ⟨some 27, none, .load true 5 (.t 8)⟩,
  ⟨some 28, none, .load true 5 (.t 9)⟩,
  ⟨some 29, none, .calld (.t 26) [(.t 27), (.t 28)]⟩,
  ⟨some 30, none, .un .not (.t 29)⟩])
 (.cond (.t 30)
 (.seq (.reg [⟨some 6, none, .mv (.c (.bool false))⟩])
 .ret)
 .skip)))))
 (.reg [⟨some 31, none, .bini .add (.t 17) (.c (.int .i64 1))⟩,
  ⟨some 17, none, .mv (.t 31)⟩])))))))
 (.seq (.reg [⟨some 6, none, .mv (.c (.bool true))⟩])
 .ret))))
theorem d78 : FnD Try.prog 78 3 29 [.tmp 6] c78 := ⟨Try.f78, _, Try.func78, by kernel_rfl, rfl, rfl, by kernel_rfl, by kernel_rfl⟩

/-- palimp/dset.Same$1 -/
def c79 : ACode :=
 (.seq (.reg [⟨some 2, none, .box (.t 0)⟩,
  ⟨some 3, none, .box (.t 1)⟩,
  ⟨some 4, none, .mv (.c (.bool false))⟩])
 (.seq (.reg [⟨some 5, none, .faddr 0 (.t 2)⟩,
  ⟨some 6, none, .load false 1 (.t 5)⟩,
  ⟨some 7, none, .faddr 0 (.t 3)⟩,
  ⟨some 8, none, .load false 1 (.t 7)⟩,
  ⟨some 9, none, .bini .eql (.t 6) (.t 8)⟩,
  ⟨some 10, none, .mv (.t 9)⟩,
  ⟨some 11, (some (10, true)), .faddr 1 (.t 2)⟩,
  ⟨some 12, (some (10, true)), .load false 1 (.t 11)⟩,
  ⟨some 13, (some (10, true)), .faddr 1 (.t 3)⟩,
  ⟨some 14, (some (10, true)), .load false 1 (.t 13)⟩,
  ⟨some 15, (some (10, true)), .bini .eql (.t 12) (.t 14)⟩,
  ⟨some 16, none, .pick (.t 10) (.t 15) (.c (.bool false))⟩,
  ⟨some 17, none, .mv (.t 16)⟩,
  ⟨some 18, (some (17, true)), .faddr 2 (.t 2)⟩,
  ⟨some 19, (some (17, true)), .load false 1 (.t 18)⟩,
  ⟨some 20, (some (17, true)), .faddr 2 (.t 3)⟩,
  ⟨some 21, (some (17, true)), .load false 1 (.t 20)⟩,
  ⟨some 22, (some (17, true)), .bini .eql (.t 19) (.t 21)⟩,
  ⟨some 23, none, .pick (.t 17) (.t 22) (.c (.bool false))⟩,
  ⟨some 24, none, .mv (.t 23)⟩,
  ⟨some 25, (some (24, true)), .faddr 3 (.t 2)⟩,
  ⟨some 26, (some (24, true)), .load false 1 (.t 25)⟩,
  ⟨some 27, (some (24, true)), .faddr 3 (.t 3)⟩,
  ⟨some 28, (some (24, true)), .load false 1 (.t 27)⟩,
  ⟨some 29, (some (24, true)), .bini .eql (.t 26) (.t 28)⟩,
  ⟨some 30, none, .pick (.t 24) (.t 29) (.c (.bool false))⟩,
  ⟨some 31, none, .mv (.t 30)⟩,
  ⟨some 32, (some (31, true)), .faddr 4 (.t 2)⟩,
  ⟨some 33, (some (31, true)), .load false 1 (.t 32)⟩,
  ⟨some 34, (some (31, true)), .faddr 4 (.t 3)⟩,
  ⟨some 35, (some (31, true)), .load false 1 (.t 34)⟩,
  ⟨some 36, (some (31, true)), .call 80 [(.t 33), (.t 35)]⟩,
  ⟨some 37, none, .pick (.t 31) (.t 36) (.c (.bool false))⟩,
  ⟨some 4, none, .mv (.t 37)⟩])
 .ret))
theorem d79 : FnD Try.prog 79 2 36 [.tmp 4] c79 := ⟨Try.f79, _, Try.func79, by kernel_rfl, rfl, rfl, by kernel_rfl, by kernel_rfl⟩

/-- palimp/node.Same -/
def c80 : ACode :=
 (.seq (.reg [⟨some 4, none, .mv (.c (.bool false))⟩])
 (.seq (.reg [⟨some 5, none, .mv (.t 0)⟩,
  ⟨some 6, none, .mv (.t 1)⟩,
  ⟨some 7, none, .call 94 [(.t 5), (.t 6)]⟩,
  ⟨some 4, none, .mv (.t 7)⟩])
 .ret))
theorem d80 : FnD Try.prog 80 2 6 [.tmp 4] c80 := ⟨Try.f80, _, Try.func80, by kernel_rfl, rfl, rfl, by kernel_rfl, by kernel_rfl⟩

/-- slices.IndexFunc(palimp/dset.family,palimp/api.Dset) -/
def c81 : ACode :=
 (.seq (.reg [⟨some 4, none, .mv (.c (.int .i64 0))⟩])
 (.seq (.seq (.reg [⟨some 6, none, .mv (.t 0)⟩,
  ⟨some 7, none, .len false (.t 6)⟩,
  ⟨some 8, none, .mv (.c (.int .i64 0))⟩])
 (.block 0
 (.loop
 (.seq (.reg [⟨some 9, none, .bini .lss (.t 8) (.t 7)⟩])
 (.seq (.cond (.t 9)
 .skip
 (.exit 0))
 (.seq (.block 1
 (.seq (.reg [⟨some 10, none, .mv (.t 8)⟩,
  ⟨some 5, none, .mv (.t 10)⟩])
 (.seq (.reg [⟨some 11, none, .mv (.t 1)⟩,
  ⟨some 12, none, .mv (.t 0)⟩,
  ⟨some 13, none, .mv (.t 5)⟩,
  ⟨some 14, none, .iaddr 5 (.t 12) (.t 13)⟩,
  ⟨some 15, none, .load true 5 (.t 14)⟩,
  ⟨some 16, none, .calld (.t 11) [(.t 15)]⟩])
 (.cond (.t 16)
 (.seq (.reg [⟨some 17, none, .mv (.t 5)⟩,
  ⟨some 4, none, .mv (.t 17)⟩])
 .ret)
 .skip))))
 (.reg [⟨some 18, none, .bini .add (.t 8) (.c (.int .i64 1))⟩,
  ⟨some 8, none, .mv (.t 18)⟩])))))))
 (.seq (.reg [⟨some 4, none, .mv (.c (.int .i64 (-1)))⟩])
 .ret)))
theorem d81 : FnD Try.prog 81 2 17 [.tmp 4] c81 := ⟨Try.f81, _, Try.func81, by kernel_rfl, rfl, rfl, by kernel_rfl, by kernel_rfl⟩

/-- (palimp/dset.family).find$1 -/
def c82 : ACode :=
 (.seq (.reg [⟨some 2, none, .box (.t 0)⟩,
  ⟨some 3, none, .mv (.c (.bool false))⟩])
 (.seq (.reg [⟨some 4, none, .faddr 0 (.t 2)⟩,
  ⟨some 5, none, .load false 1 (.t 4)⟩,
  ⟨some 6, none, .load false 1 (.t 1)⟩,
  ⟨some 7, none, .bini .eql (.t 5) (.t 6)⟩,
  ⟨some 3, none, .mv (.t 7)⟩])
 .ret))
theorem d82 : FnD Try.prog 82 2 6 [.tmp 3] c82 := ⟨Try.f82, _, Try.func82, by kernel_rfl, rfl, rfl, by kernel_rfl, by kernel_rfl⟩

/-- palimp/palimpref11.Torn -/
def c83 : ACode :=
 (.seq (.reg [⟨some 2, none, .mv (.c (.bool false))⟩])
 (.seq (.seq (.reg [⟨some 8, none, .mv (.t 0)⟩,
  ⟨some 9, none, .len false (.t 8)⟩,
  ⟨some 10, none, .bini .neq (.t 9) (.c (.int .i64 8))⟩,
  ⟨some 11, none, .mv (.t 10)⟩,
  ⟨some 12, (some (11, false)), .mv (.t 0)⟩,
  ⟨some 13, (some (11, false)), .iaddr 5 (.t 12) (.c (.int .i64 0))⟩,
  ⟨some 14, (some (11, false)), .load true 5 (.t 13)⟩,
  ⟨some 15, (some (11, false)), .build [.int .i64 0, .int .i64 0, .str [], .str [], .int .i64 0] [(0, 1, (.c (.int .i64 2)))]⟩,
  ⟨some 16, (some (11, false)), .eqs true [.i, .i, .s, .s, .i] (.t 14) (.t 15)⟩,
  ⟨some 17, none, .pick (.t 11) (.c (.bool true)) (.t 16)⟩])
 (.cond (.t 17)
 (.seq (.reg [⟨some 2, none, .mv (.c (.bool false))⟩])
 .ret)
 .skip))
 (.seq (.seq (.reg [⟨some 3, none, .mv (.c (.int .i64 1))⟩])
 (.block 0
 (.loop
 (.seq (.seq (.reg [⟨some 18, none, .mv (.t 3)⟩,
  ⟨some 19, none, .mv (.t 0)⟩,
  ⟨some 20, none, .len false (.t 19)⟩,
  ⟨some 21, none, .bini .lss (.t 18) (.t 20)⟩])
 (.cond (.t 21)
 .skip
 (.exit 0)))
 (.seq (.block 1
 (.seq (.reg [⟨some 24, none, .mv (.t 0)⟩,
  ⟨some 25, none, .mv (.t 3)⟩,
  ⟨some 26, none, .iaddr 5 (.t 24) (.t 25)⟩,
  ⟨some 27, none, .load true 5 (.t 26)⟩,
  ⟨some 4, none, .alloc [.int .i64 0, .int .i64 0, .str [], .str [], .int .i64 0]⟩,
  ⟨none, none, .store 5 (.t 4) (.t 27)⟩])
 (.seq (.seq (.reg [⟨some 28, none, .faddr 0 (.t 4)⟩,
  ⟨some 29, none, .load false 1 (.t 28)⟩])
 (.block 2
 (.seq (.reg [⟨some 31, none, .bini .eql (.t 29) (.c (.int .i64 0))⟩,
  ⟨some 30, none, .mv (.t 31)⟩])
 (.cond (.t 30)
 (.seq (.seq (.reg [⟨some 32, none, .load true 5 (.t 4)⟩,
  ⟨some 33, none, .build [.int .i64 0, .int .i64 0, .str [], .str [], .int .i64 0] []⟩,
  ⟨some 34, none, .eqs true [.i, .i, .s, .s, .i] (.t 32) (.t 33)⟩])
 (.cond (.t 34)
 (.seq (.reg [⟨some 2, none, .mv (.c (.bool false))⟩])
 .ret)
 .skip))
 (.exit 1))
 (.seq (.reg [⟨some 36, none, .bini .eql (.t 29) (.c (.int .i64 3))⟩,
  ⟨some 35, none, .mv (.t 36)⟩])
 (.cond (.t 35)
 (.seq (.seq (.reg [⟨some 37, none, .load true 5 (.t 4)⟩,
  ⟨some 38, none, .build [.int .i64 0, .int .i64 0, .str [], .str [], .int .i64 0] [(0, 1, (.c (.int .i64 3)))]⟩,
  ⟨some 39, none, .eqs true [.i, .i, .s, .s, .i] (.t 37) (.t 38)⟩])
 (.cond (.t 39)
 (.seq (.reg [⟨some 2, none, .mv (.c (.bool false))⟩])
 .ret)
 .skip))
 (.exit 1))
 (.seq (.reg [⟨some 41, none, .bini .eql (.t 29) (.c (.int .i64 1))⟩,
  ⟨some 40, none, .mv (.t 41)⟩])
 (.cond (.t 40)
 (.seq (.reg [⟨some 42, none, .faddr 4 (.t 4)⟩,
  ⟨some 43, none, .load false 1 (.t 42)⟩,
  ⟨some 44, none, .bini .lss (.t 43) (.c (.int .i64 0))⟩,
  ⟨some 45, none, .mv (.t 44)⟩,
  ⟨some 46, (some (45, false)), .faddr 4 (.t 4)⟩,
  ⟨some 47, (some (45, false)), .load false 1 (.t 46)⟩,
  ⟨some 48, (some (45, false)), .bini .gtr (.t 47) (.c (.int .i64 15))⟩,
  ⟨some 49, none, .pick (.t 45) (.c (.bool true)) (.t 48)⟩])
 (.cond (.t 49)
 (.seq (.reg [⟨some 2, none, .mv (.c (.bool false))⟩])
 .ret)
 .skip))
 (.seq (.reg [⟨some 51, none, .bini .eql (.t 29) (.c (.int .i64 2))⟩,
  ⟨some 50, none, .mv (.t 51)⟩])
 (.cond (.t 50)
 (.seq (.reg [⟨some 52, none, .faddr 4 (.t 4)⟩,
  ⟨some 53, none, .load false 1 (.t 52)⟩,
  ⟨some 54, none, .bini .neq (.t 53) (.c (.int .i64 0))⟩,
  ⟨some 55, none, .mv (.t 54)⟩,
  ⟨some 56, (some (55, false)), .faddr 3 (.t 4)⟩,
  ⟨some 57, (some (55, false)), .load false 1 (.t 56)⟩,
  ⟨some 58, (some (55, false)), .bins .neq (.t 57) (.c (.str []))⟩,
  ⟨some 59, none, .pick (.t 55) (.c (.bool true)) (.t 58)⟩])
 (.cond (.t 59)
 (.seq (.reg [⟨some 2, none, .mv (.c (.bool false))⟩])
 .ret)
 .skip))
 (.seq (.reg [⟨some 2, none, .mv (.c (.bool false))⟩])
 .ret)))))))))))
 (.seq (.seq (.reg [⟨some 60, none, .faddr 2 (.t 4)⟩,
  ⟨some 61, none, .load false 1 (.t 60)⟩,
  ⟨some 62, none, .call 87 [(.t 61)]⟩,
  ⟨some 63, none, .un .not (.t 62)⟩,
  ⟨some 64, none, .mv (.t 63)⟩,
  ⟨some 65, (some (64, false)), .mv (.t 0)⟩,
  ⟨some 66, (some (64, false)), .faddr 1 (.t 4)⟩,
  ⟨some 67, (some (64, false)), .load false 1 (.t 66)⟩,
  ⟨some 68, (some (64, false)), .call 95 [(.t 65), (.t 67)]⟩,
  ⟨some 69, (some (64, false)), .un .not (.t 68)⟩,
  ⟨some 70, none, .pick (.t 64) (.c (.bool true)) (.t 69)⟩,
  ⟨some 71, none, .mv (.t 70)⟩,
  ⟨some 72, (some (71, false)), .faddr 3 (.t 4)⟩,
  ⟨some 73, (some (71, false)), .load false 1 (.t 72)⟩,
  ⟨some 74, (some (71, false)), .len true (.t 73)⟩,
  ⟨some 75, (some (71, false)), .bini .gtr (.t 74) (.c (.int .i64 128))⟩,
  ⟨some 76, none, .pick (.t 71) (.c (.bool true)) (.t 75)⟩])
 (.cond (.t 76)
 (.seq (.reg [⟨some 2, none, .mv (.c (.bool false))⟩])
 .ret)
 .skip))
 (.seq (.seq (.reg [⟨some 5, none, .mv (.c (.int .i64 1))⟩])
 (.block 3
 (.loop
 (.seq (.seq (.reg [⟨some 77, none, .mv (.t 5)⟩,
  ⟨some 78, none, .mv (.t 3)⟩,
  ⟨some 79, none, .bini .lss (.t 77) (.t 78)⟩])
 (.cond (.t 79)
 .skip
 (.exit 3)))
 (.seq (.block 4
 (.seq (.dreg [⟨some 82, none, .mv (.t 0)⟩,
  ⟨some 83, none, .mv (.t 5)⟩,
  ⟨some 84, none, .iaddr 5 (.t 82) (.t 83)⟩,
  ⟨some 85, none, .faddr 0 (.t 84)⟩,
  ⟨some 86, none, .load false 1 (.t 85)⟩,
  ⟨some 87, none, .bini .neq (.t 86) (.c (.int .i64 0))⟩,
  ⟨some 88, none, .mv (.t 87)⟩,
  ⟨some 89, (some (88, true)), .mv (.t 0)⟩,
  ⟨some 90, (some (88, true)), .mv (.t 5)⟩,
  ⟨some 91, (some (88, true)), .iaddr 5 (.t 89) (.t 90)⟩,
  ⟨some 92, (some (88, true)), .faddr 0 (.t 91)⟩,
  ⟨some 93, (some (88, true)), .load false 1 (.t 92)⟩,
  ⟨some 94, (some (88, true)), .bini .neq (.t 93) (.c (.int .i64 3))⟩,
  ⟨some 95, none, .pick (.t 88) (.t 94) (.c (.bool false))⟩,
  ⟨some 96, none, .mv (.t 95)⟩,
  ⟨some 97, (some (96, true)), .mv (.t 0)⟩,
  ⟨some 98, (some (96, true)), .mv (.t 5)⟩,
  ⟨some 99, (some (96, true)), .iaddr 5 (.t 97) (.t 98)⟩,
  ⟨some 100, (some (96, true)), .faddr 1 (.t 99)⟩,
  ⟨some 101, (some (96, true)), .load false 1 (.t 100)⟩,
  ⟨some 102, (some (96, true)), .faddr 1 (.t 4)⟩,
  ⟨some 103, (some (96, true)), .load false 1 (.t 102)⟩,
  ⟨some 104, (some (96, true)), .bini .eql (.t 101) (.t 103)⟩,
  ⟨some 105, none, .pick (.t 96) (.t 104) (.c (.bool false))⟩,
  ⟨some 106, none, .mv (.t 105)⟩,
  ⟨some 107, (some (106, true)), .mv (.t 0)⟩,
  ⟨some 108, (some (106, true)), .mv (.t 5)⟩,
  ⟨some 109, (some (106, true)), .iaddr 5 (.t 107) (.t 108)⟩,
  ⟨some 110, (some (106, true)), .faddr 2 (.t 109)⟩,
  ⟨some 111, (some (106, true)), .load false 1 (.t 110)⟩,
  ⟨some 112, (some (106, true)), .faddr 2 (.t 4)⟩,
  ⟨some 113, (some (106, true)), .load false 1 (.t 112)⟩,
  ⟨some 114, (some (106, true)), .bins .eql (.t 111) (.t 113)⟩,
  ⟨some 115, none, .pick (.t 106) (.t 114) (.c (.bool false))⟩])
 (.cond (.t 115)
 (.seq (.reg [⟨some 2, none, .mv (.c (.bool false))⟩])
 .ret)
 .skip)))
 (.reg [⟨some 80, none, .mv (.t 5)⟩,
  ⟨some 81, none, .bini .add (.t 80) (.c (.int .i64 1))⟩,
  ⟨some 5, none, .mv (.t 81)⟩]))))))
 (.seq (.reg [⟨some 116, none, .mv (.t 3)⟩,
  ⟨some 6, none, .mv (.t 116)⟩])
 (.seq (.seq (.reg [⟨some 7, none, .mv (.c (.int .i64 0))⟩])
 (.block 5
 (.loop
 (.seq (.seq (.reg [⟨some 117, none, .mv (.t 7)⟩,
  ⟨some 118, none, .mv (.t 0)⟩,
  ⟨some 119, none, .len false (.t 118)⟩,
  ⟨some 120, none, .bini .lss (.t 117) (.t 119)⟩,
  ⟨some 121, none, .mv (.t 120)⟩,
  ⟨some 122, (some (121, true)), .mv (.t 6)⟩,
  ⟨some 123, (some (121, true)), .bini .gtr (.t 122) (.c (.int .i64 0))⟩,
  ⟨some 124, none, .pick (.t 121) (.t 123) (.c (.bool false))⟩,
  ⟨some 125, none, .mv (.t 124)⟩,
  ⟨some 126, (some (125, true)), .mv (.t 6)⟩,
  ⟨some 127, (some (125, true)), .mv (.t 0)⟩,
  ⟨some 128, (some (125, true)), .len false (.t 127)⟩,
  ⟨some 129, (some (125, true)), .bini .lss (.t 126) (.t 128)⟩,
  ⟨some 130, none, .pick (.t 125) (.t 129) (.c (.bool false))⟩])
 (.cond (.t 130)
 .skip
 (.exit 5)))
 (.seq (.block 6
 (.reg [⟨some 133, none, .mv (.t 0)⟩,
  ⟨some 134, none, .mv (.t 6)⟩,
  ⟨some 135, none, .iaddr 5 (.t 133) (.t 134)⟩,
  ⟨some 136, none, .faddr 1 (.t 135)⟩,
  ⟨some 137, none, .load false 1 (.t 136)⟩,
  ⟨some 6, none, .mv (.t 137)⟩]))
 (.reg [⟨some 131, none, .mv (.t 7)⟩,
  ⟨some 132, none, .bini .add (.t 131) (.c (.int .i64 1))⟩,
  ⟨some 7, none, .mv (.t 132)⟩]))))))
 (.seq (.reg [⟨some 138, none, .mv (.t 6)⟩,
  ⟨some 139, none, .bini .neq (.t 138) (.c (.int .i64 0))⟩])
 (.cond (.t 139)
 (.seq (.reg [⟨some 2, none, .mv (.c (.bool false))⟩])
 .ret)
 .skip)))))))))
 (.reg [⟨some 22, none, .mv (.t 3)⟩,
  ⟨some 23, none, .bini .add (.t 22) (.c (.int .i64 1))⟩,
  ⟨some 3, none, .mv (.t 23)⟩]))))))
 (.seq (.reg [⟨some 2, none, .mv (.c (.bool true))⟩])
 .ret))))
theorem d83 : FnD Try.prog 83 1 139 [.tmp 2] c83 := ⟨Try.f83, _, Try.func83, by kernel_rfl, rfl, rfl, by kernel_rfl, by kernel_rfl⟩

/-- palimp/palimpref11.broken -/
def c84 : ACode :=
 (.seq (.reg [⟨some 2, none, .mv (.c (.bool false))⟩])
 (.seq (.reg [⟨some 3, none, .mv (.t 0)⟩,
  ⟨some 4, none, .call 88 [(.t 3)]⟩,
  ⟨some 5, none, .mv (.t 4)⟩,
  ⟨some 6, (some (5, false)), .mv (.t 0)⟩,
  ⟨some 7, (some (5, false)), .call 96 [(.t 6)]⟩,
  ⟨some 8, none, .pick (.t 5) (.c (.bool true)) (.t 7)⟩,
  ⟨some 2, none, .mv (.t 8)⟩])
 .ret))
theorem d84 : FnD Try.prog 84 1 8 [.tmp 2] c84 := ⟨Try.f84, _, Try.func84, by kernel_rfl, rfl, rfl, by kernel_rfl, by kernel_rfl⟩

/-- palimp/palimpref16.at -/
def c85 : ACode :=
 (.seq (.reg [⟨some 4, none, .mv (.c (.int .i64 0))⟩])
 (.seq (.seq (.reg [⟨some 5, none, .mv (.c (.int .i64 0))⟩])
 (.block 0
 (.loop
 (.seq (.seq (.reg [⟨some 6, none, .mv (.t 5)⟩,
  ⟨some 7, none, .mv (.t 0)⟩,
  ⟨some 8, none, .len false (.t 7)⟩,
  ⟨some 9, none, .bini .lss (.t 6) (.t 8)⟩])
 (.cond (.t 9)
 .skip
 (.exit 0)))
 (.seq (.block 1
 (.seq (.reg [⟨some 12, none, .mv (.t 0)⟩,
  ⟨some 13, none, .mv (.t 5)⟩,
  ⟨some 14, none, .iaddr 5 (.t 12) (.t 13)⟩,
  ⟨some 15, none, .faddr 0 (.t 14)⟩,
  ⟨some 16, none, .load false 1 (.t 15)⟩,
  ⟨some 17, none, .mv (.t 1)⟩,
  ⟨some 18, none, .bini .eql (.t 16) (.t 17)⟩])
 (.cond (.t 18)
 (.seq (.reg [⟨some 19, none, .mv (.t 5)⟩,
  ⟨some 4, none, .mv (.t 19)⟩])
 .ret)
 .skip)))
 (.reg [⟨some 10, none, .mv (.t 5)⟩,
  ⟨some 11, none, .bini .add (.t 10) (.c (.int .i64 1))⟩,
  ⟨some 5, none, .mv (.t 11)⟩]))))))
 (.seq (.reg [⟨some 4, none, .mv (.c (.int .i64 (-1)))⟩])
 .ret)))
theorem d85 : FnD Try.prog 85 2 18 [.tmp 4] c85 := ⟨Try.f85, _, Try.func85, by kernel_rfl, rfl, rfl, by kernel_rfl, by kernel_rfl⟩

/-- palimp/data.noughts -/
def c86 : ACode :=
 (.seq (.reg [⟨some 2, none, .mv (.c (.str []))⟩])
 (.seq (.reg [⟨some 3, none, .mv (.t 0)⟩,
  ⟨some 4, none, .max2 (.t 3) (.c (.int .i64 0))⟩,
  ⟨some 5, none, .call 97 [(.c (.str [0])), (.t 4)]⟩,
  ⟨some 2, none, .mv (.t 5)⟩])
 .ret))
theorem d86 : FnD Try.prog 86 1 5 [.tmp 2] c86 := ⟨Try.f86, _, Try.func86, by kernel_rfl, rfl, rfl, by kernel_rfl, by kernel_rfl⟩

end Go.Proofs.Ytemjlopoffjmpaa.Abs
