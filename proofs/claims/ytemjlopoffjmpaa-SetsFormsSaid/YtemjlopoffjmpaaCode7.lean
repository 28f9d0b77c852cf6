/-
  The code of some functions in the abstract layer's form, each checked against the program's own. Written by gen.py.
-/
import Derived.Test.YtemjlopoffjmpaaAbs22
import Derived.Test.YtemjlopoffjmpaaProg
import Derived.KernelRfl
namespace Go.Proofs.Ytemjlopoffjmpaa.Abs
open Go

/-- palimp/palimpref11.MayName -/
def c87 : ACode :=
 (.seq (.reg [⟨some 2, none, .mv (.c (.bool false))⟩])
 (.seq (.seq (.reg [⟨some 3, none, .mv (.c (.int .i64 0))⟩])
 (.block 0
 (.loop
 (.seq (.seq (.reg [⟨some 5, none, .mv (.t 3)⟩,
  ⟨some 6, none, .mv (.t 0)⟩,
  ⟨some 7, none, .len true (.t 6)⟩,
  ⟨some 8, none, .bini .lss (.t 5) (.t 7)⟩])
 (.cond (.t 8)
 .skip
 (.exit 0)))
 (.seq (.block 1
 (.seq (.reg [⟨some 11, none, .mv (.t 0)⟩,
  ⟨some 12, none, .mv (.t 3)⟩,
  ⟨some 13, none, .indexs (.t 11) (.t 12)⟩,
  ⟨some 4, none, .mv (.t 13)⟩])
 (.seq (.reg [⟨some 14, none, .mv (.t 4)⟩,
  ⟨some 15, none, .bini .geq (.t 14) (.c (.int .u8 97))⟩,
  ⟨some 16, none, .mv (.t 15)⟩,
  ⟨some 17, (some (16, true)), .mv (.t 4)⟩,
  ⟨some 18, (some (16, true)), .bini .leq (.t 17) (.c (.int .u8 122))⟩,
  ⟨some 19, none, .pick (.t 16) (.t 18) (.c (.bool false))⟩,
  ⟨some 20, none, .mv (.t 19)⟩,
  ⟨some 21, (some (20, false)), .mv (.t 4)⟩,
  ⟨some 22, (some (20, false)), .bini .geq (.t 21) (.c (.int .u8 48))⟩,
  ⟨some 23, (some (20, false)), .mv (.t 22)⟩,
  ⟨some 24, (some (23, true)), .mv (.t 4)⟩,
  ⟨some 25, (some (23, true)), .bini .leq (.t 24) (.c (.int .u8 57))⟩,
  ⟨some 26, (some (20, false)), .pick (.t 23) (.t 25) (.c (.bool false))⟩,
  ⟨some 27, none, .pick (.t 20) (.c (.bool true)) (.t 26)⟩,
  ⟨some 28, none, .mv (.t 27)⟩,
  ⟨some 29, (some (28, false)), .mv (.t 4)⟩,
  ⟨some 30, (some (28, false)), .bini .eql (.t 29) (.c (.int .u8 46))⟩,
  ⟨some 31, none, .pick (.t 28) (.c (.bool true)) (.t 30)⟩,
  ⟨some 32, none, .mv (.t 31)⟩,
  ⟨some 33, (some (32, false)), .mv (.t 4)⟩,
  ⟨some 34, (some (32, false)), .bini .eql (.t 33) (.c (.int .u8 95))⟩,
  ⟨some 35, none, .pick (.t 32) (.c (.bool true)) (.t 34)⟩,
  ⟨some 36, none, .mv (.t 35)⟩,
  ⟨some 37, (some (36, false)), .mv (.t 4)⟩,
  ⟨some 38, (some (36, false)), .bini .eql (.t 37) (.c (.int .u8 45))⟩,
  ⟨some 39, none, .pick (.t 36) (.c (.bool true)) (.t 38)⟩,
  ⟨some 40, none, .un .not (.t 39)⟩])
 (.cond (.t 40)
 (.seq (.reg [⟨some 2, none, .mv (.c (.bool false))⟩])
 .ret)
 .skip))))
 (.reg [⟨some 9, none, .mv (.t 3)⟩,
  ⟨some 10, none, .bini .add (.t 9) (.c (.int .i64 1))⟩,
  ⟨some 3, none, .mv (.t 10)⟩]))))))
 (.seq (.reg [⟨some 41, none, .mv (.t 0)⟩,
  ⟨some 42, none, .len true (.t 41)⟩,
  ⟨some 43, none, .bini .geq (.t 42) (.c (.int .i64 1))⟩,
  ⟨some 44, none, .mv (.t 43)⟩,
  ⟨some 45, (some (44, true)), .mv (.t 0)⟩,
  ⟨some 46, (some (44, true)), .len true (.t 45)⟩,
  ⟨some 47, (some (44, true)), .bini .leq (.t 46) (.c (.int .i64 8))⟩,
  ⟨some 48, none, .pick (.t 44) (.t 47) (.c (.bool false))⟩,
  ⟨some 49, none, .mv (.t 48)⟩,
  ⟨some 50, (some (49, true)), .mv (.t 0)⟩,
  ⟨some 51, (some (49, true)), .bins .neq (.t 50) (.c (.str [46]))⟩,
  ⟨some 52, none, .pick (.t 49) (.t 51) (.c (.bool false))⟩,
  ⟨some 53, none, .mv (.t 52)⟩,
  ⟨some 54, (some (53, true)), .mv (.t 0)⟩,
  ⟨some 55, (some (53, true)), .bins .neq (.t 54) (.c (.str [46, 46]))⟩,
  ⟨some 56, none, .pick (.t 53) (.t 55) (.c (.bool false))⟩,
  ⟨some 2, none, .mv (.t 56)⟩])
 .ret)))
theorem d87 : FnD Try.prog 87 1 56 [.tmp 2] c87 := ⟨Try.f87, _, Try.func87, by kernel_rfl, rfl, rfl, by kernel_rfl, by kernel_rfl⟩

/-- palimp/palimpref11.lost -/
def c88 : ACode :=
 (.seq (.reg [⟨some 2, none, .mv (.c (.bool false))⟩])
 (.seq (.seq (.reg [⟨some 3, none, .mv (.c (.int .i64 0))⟩])
 (.block 0
 (.loop
 (.seq (.seq (.reg [⟨some 4, none, .mv (.t 3)⟩,
  ⟨some 5, none, .mv (.t 0)⟩,
  ⟨some 6, none, .len false (.t 5)⟩,
  ⟨some 7, none, .bini .lss (.t 4) (.t 6)⟩])
 (.cond (.t 7)
 .skip
 (.exit 0)))
 (.seq (.block 1
 (.seq (.reg [⟨some 10, none, .mv (.t 0)⟩,
  ⟨some 11, none, .mv (.t 3)⟩,
  ⟨some 12, none, .iaddr 5 (.t 10) (.t 11)⟩,
  ⟨some 13, none, .faddr 0 (.t 12)⟩,
  ⟨some 14, none, .load false 1 (.t 13)⟩,
  ⟨some 15, none, .bini .eql (.t 14) (.c (.int .i64 3))⟩])
 (.cond (.t 15)
 (.seq (.reg [⟨some 2, none, .mv (.c (.bool true))⟩])
 .ret)
 .skip)))
 (.reg [⟨some 8, none, .mv (.t 3)⟩,
  ⟨some 9, none, .bini .add (.t 8) (.c (.int .i64 1))⟩,
  ⟨some 3, none, .mv (.t 9)⟩]))))))
 (.seq (.reg [⟨some 2, none, .mv (.c (.bool false))⟩])
 .ret)))
theorem d88 : FnD Try.prog 88 1 15 [.tmp 2] c88 := ⟨Try.f88, _, Try.func88, by kernel_rfl, rfl, rfl, by kernel_rfl, by kernel_rfl⟩

/-- (*strings.Builder).Grow -/
def c89 : ACode :=
 (.seq (.reg [⟨some 4, none, .mv (.t 0)⟩,
  ⟨some 5, none, .call 98 [(.t 4)]⟩])
 (.seq (.seq (.reg [⟨some 6, none, .mv (.t 1)⟩,
  ⟨some 7, none, .bini .lss (.t 6) (.c (.int .i64 0))⟩])
 (.cond (.t 7)
 (.reg [⟨some 8, none, .bad⟩,
  ⟨none, none, .bad⟩])
 .skip))
 (.seq (.dreg [⟨some 9, none, .mv (.t 0)⟩,
  ⟨some 10, none, .nilchk (.t 9)⟩,
  ⟨some 11, none, .faddr 1 (.t 10)⟩,
  ⟨some 12, none, .load false 1 (.t 11)⟩,
  ⟨some 13, none, .bad⟩,
  ⟨some 14, none, .mv (.t 0)⟩,
  ⟨some 15, none, .nilchk (.t 14)⟩,
  ⟨some 16, none, .faddr 1 (.t 15)⟩,
  ⟨some 17, none, .load false 1 (.t 16)⟩,
  ⟨some 18, none, .len false (.t 17)⟩,
  ⟨some 19, none, .bini .sub (.t 13) (.t 18)⟩,
  ⟨some 20, none, .mv (.t 1)⟩,
  ⟨some 21, none, .bini .lss (.t 19) (.t 20)⟩])
 (.cond (.t 21)
 (.reg [⟨some 22, none, .mv (.t 0)⟩,
  ⟨some 23, none, .mv (.t 1)⟩,
  ⟨some 24, none, .call 99 [(.t 22), (.t 23)]⟩])
 .skip))))
-- not all of it is covered: builtin cap; op makeInterface; op panic

/-- (*strings.Builder).WriteString -/
def c90 : ACode :=
 (.seq (.reg [⟨some 4, none, .mv (.c (.int .i64 0))⟩,
  ⟨some 5, none, .mv (.c (.top))⟩])
 (.seq (.reg [⟨some 6, none, .mv (.t 0)⟩,
  ⟨some 7, none, .call 98 [(.t 6)]⟩])
 (.seq (.reg [⟨some 8, none, .mv (.t 0)⟩,
  ⟨some 9, none, .mv (.t 0)⟩,
  ⟨some 10, none, .nilchk (.t 9)⟩,
  ⟨some 11, none, .faddr 1 (.t 10)⟩,
  ⟨some 12, none, .load false 1 (.t 11)⟩,
  ⟨some 13, none, .mv (.t 1)⟩,
  ⟨some 14, none, .append 1 1 [.int .u8 0] (.t 12) (.t 13)⟩,
  ⟨some 15, none, .nilchk (.t 8)⟩,
  ⟨some 16, none, .faddr 1 (.t 15)⟩,
  ⟨none, none, .store 1 (.t 16) (.t 14)⟩])
 (.seq (.reg [⟨some 17, none, .mv (.t 1)⟩,
  ⟨some 18, none, .len true (.t 17)⟩,
  ⟨some 4, none, .mv (.t 18)⟩,
  ⟨some 5, none, .mv (.c (.top))⟩])
 .ret))))
theorem d90 : FnD Try.prog 90 2 17 [.tmp 4, .tmp 5] c90 := ⟨Try.f90, _, Try.func90, by kernel_rfl, rfl, rfl, by kernel_rfl, by kernel_rfl⟩

/-- (*strings.Builder).String -/
def c91 : ACode :=
 (.seq (.reg [⟨some 2, none, .mv (.c (.str []))⟩])
 (.seq (.dreg [⟨some 3, none, .mv (.t 0)⟩,
  ⟨some 4, none, .nilchk (.t 3)⟩,
  ⟨some 5, none, .faddr 1 (.t 4)⟩,
  ⟨some 6, none, .load false 1 (.t 5)⟩,
  ⟨some 7, none, .bad⟩,
  ⟨some 8, none, .mv (.t 0)⟩,
  ⟨some 9, none, .nilchk (.t 8)⟩,
  ⟨some 10, none, .faddr 1 (.t 9)⟩,
  ⟨some 11, none, .load false 1 (.t 10)⟩,
  ⟨some 12, none, .len false (.t 11)⟩,
  ⟨some 13, none, .bad⟩,
  ⟨some 2, none, .mv (.t 13)⟩])
 .ret))
-- not all of it is covered: builtin unsafeSliceData; builtin unsafeString

/-- palimp/node.May -/
def c92 : ACode :=
 (.seq (.reg [⟨some 2, none, .mv (.c (.bool false))⟩])
 (.seq (.reg [⟨some 3, none, .mv (.t 0)⟩,
  ⟨some 4, none, .build [.emp] [(0, 1, (.t 3))]⟩,
  ⟨some 5, none, .call 100 [(.t 4)]⟩,
  ⟨some 2, none, .mv (.t 5)⟩])
 .ret))
theorem d92 : FnD Try.prog 92 1 5 [.tmp 2] c92 := ⟨Try.f92, _, Try.func92, by kernel_rfl, rfl, rfl, by kernel_rfl, by kernel_rfl⟩

/-- (palimp/dset.family).round -/
def c93 : ACode :=
 (.seq (.reg [⟨some 4, none, .mv (.c (.bool false))⟩])
 (.seq (.reg [⟨some 7, none, .mv (.t 1)⟩,
  ⟨some 5, none, .mv (.t 7)⟩])
 (.seq (.seq (.reg [⟨some 8, none, .mv (.t 0)⟩,
  ⟨some 9, none, .len false (.t 8)⟩,
  ⟨some 10, none, .mv (.c (.int .i64 0))⟩])
 (.block 0
 (.loop
 (.seq (.reg [⟨some 11, none, .bini .lss (.t 10) (.t 9)⟩])
 (.seq (.cond (.t 11)
 .skip
 (.exit 0))
 (.seq (.block 1
 (.seq (.reg [⟨some 12, none, .mv (.t 0)⟩,
  ⟨some 13, none, .mv (.t 5)⟩,
  ⟨some 14, none, .call 62 [(.t 12), (.t 13)]⟩,
  ⟨some 6, none, .mv (.t 14)⟩])
 (.seq (.seq (.reg [⟨some 15, none, .mv (.t 6)⟩,
  ⟨some 16, none, .bini .lss (.t 15) (.c (.int .i64 0))⟩])
 (.cond (.t 16)
 (.seq (.reg [⟨some 4, none, .mv (.c (.bool false))⟩])
 .ret)
 .skip))
 (.seq (.reg [⟨some 17, none, .mv (.t 0)⟩,
  ⟨some 18, none, .mv (.t 6)⟩,
  ⟨some 19, none, .iaddr 5 (.t 17) (.t 18)⟩,
  ⟨some 20, none, .faddr 2 (.t 19)⟩,
  ⟨some 21, none, .load false 1 (.t 20)⟩,
  ⟨some 5, none, .mv (.t 21)⟩])
 (.seq (.reg [⟨some 22, none, .mv (.t 5)⟩,
  ⟨some 23, none, .mv (.t 1)⟩,
  ⟨some 24, none, .bini .eql (.t 22) (.t 23)⟩])
 (.cond (.t 24)
 (.seq (.reg [⟨some 4, none, .mv (.c (.bool true))⟩])
 .ret)
 .skip))))))
 (.reg [⟨some 25, none, .bini .add (.t 10) (.c (.int .i64 1))⟩,
  ⟨some 10, none, .mv (.t 25)⟩])))))))
 (.seq (.reg [⟨some 4, none, .mv (.c (.bool false))⟩])
 .ret))))
theorem d93 : FnD Try.prog 93 2 24 [.tmp 4] c93 := ⟨Try.f93, _, Try.func93, by kernel_rfl, rfl, rfl, by kernel_rfl, by kernel_rfl⟩

/-- slices.Equal(palimp/api.Set,palimp/api.Node) -/
def c94 : ACode :=
 (.seq (.reg [⟨some 4, none, .mv (.c (.bool false))⟩])
 (.seq (.seq (.reg [⟨some 6, none, .mv (.t 0)⟩,
  ⟨some 7, none, .len false (.t 6)⟩,
  ⟨some 8, none, .mv (.t 1)⟩,
  ⟨some 9, none, .len false (.t 8)⟩,
  ⟨some 10, none, .bini .neq (.t 7) (.t 9)⟩])
 (.cond (.t 10)
 (.seq (.reg [⟨some 4, none, .mv (.c (.bool false))⟩])
 .ret)
 .skip))
 (.seq (.seq (.reg [⟨some 11, none, .mv (.t 0)⟩,
  ⟨some 12, none, .len false (.t 11)⟩,
  ⟨some 13, none, .mv (.c (.int .i64 0))⟩])
 (.block 0
 (.loop
 (.seq (.reg [⟨some 14, none, .bini .lss (.t 13) (.t 12)⟩])
 (.seq (.cond (.t 14)
 .skip
 (.exit 0))
 (.seq (.block 1
 (.seq (.reg [⟨some 15, none, .mv (.t 13)⟩,
  ⟨some 5, none, .mv (.t 15)⟩])
 (.seq (.dreg [⟨some 16, none, .mv (.t 0)⟩,
  ⟨some 17, none, .mv (.t 5)⟩,
  ⟨some 18, none, .iaddr 5 (.t 16) (.t 17)⟩,
  ⟨some 19, none, .load true 5 (.t 18)⟩,
  ⟨some 20, none, .mv (.t 1)⟩,
  ⟨some 21, none, .mv (.t 5)⟩,
  ⟨some 22, none, .iaddr 5 (.t 20) (.t 21)⟩,
  ⟨some 23, none, .load true 5 (.t 22)⟩,
  ⟨some 24, none, .eqs true [.i, .i, .s, .s, .i] (.t 19) (.t 23)⟩])
 (.cond (.t 24)
 (.seq (.reg [⟨some 4, none, .mv (.c (.bool false))⟩])
 .ret)
 .skip))))
 (.reg [⟨some 25, none, .bini .add (.t 13) (.c (.int .i64 1))⟩,
  ⟨some 13, none, .mv (.t 25)⟩])))))))
 (.seq (.reg [⟨some 4, none, .mv (.c (.bool true))⟩])
 .ret))))
theorem d94 : FnD Try.prog 94 2 24 [.tmp 4] c94 := ⟨Try.f94, _, Try.func94, by kernel_rfl, rfl, rfl, by kernel_rfl, by kernel_rfl⟩

/-- palimp/palimpref11.folder -/
def c95 : ACode :=
 (.seq (.reg [⟨some 4, none, .mv (.c (.bool false))⟩])
 (.seq (.reg [⟨some 5, none, .mv (.t 1)⟩,
  ⟨some 6, none, .bini .geq (.t 5) (.c (.int .i64 0))⟩,
  ⟨some 7, none, .mv (.t 6)⟩,
  ⟨some 8, (some (7, true)), .mv (.t 1)⟩,
  ⟨some 9, (some (7, true)), .mv (.t 0)⟩,
  ⟨some 10, (some (7, true)), .len false (.t 9)⟩,
  ⟨some 11, (some (7, true)), .bini .lss (.t 8) (.t 10)⟩,
  ⟨some 12, none, .pick (.t 7) (.t 11) (.c (.bool false))⟩,
  ⟨some 13, none, .mv (.t 12)⟩,
  ⟨some 14, (some (13, true)), .mv (.t 0)⟩,
  ⟨some 15, (some (13, true)), .mv (.t 1)⟩,
  ⟨some 16, (some (13, true)), .iaddr 5 (.t 14) (.t 15)⟩,
  ⟨some 17, (some (13, true)), .faddr 0 (.t 16)⟩,
  ⟨some 18, (some (13, true)), .load false 1 (.t 17)⟩,
  ⟨some 19, (some (13, true)), .bini .eql (.t 18) (.c (.int .i64 2))⟩,
  ⟨some 20, (some (13, true)), .mv (.t 19)⟩,
  ⟨some 21, (some (20, false)), .mv (.t 0)⟩,
  ⟨some 22, (some (20, false)), .mv (.t 1)⟩,
  ⟨some 23, (some (20, false)), .iaddr 5 (.t 21) (.t 22)⟩,
  ⟨some 24, (some (20, false)), .faddr 0 (.t 23)⟩,
  ⟨some 25, (some (20, false)), .load false 1 (.t 24)⟩,
  ⟨some 26, (some (20, false)), .bini .eql (.t 25) (.c (.int .i64 3))⟩,
  ⟨some 27, (some (13, true)), .pick (.t 20) (.c (.bool true)) (.t 26)⟩,
  ⟨some 28, none, .pick (.t 13) (.t 27) (.c (.bool false))⟩,
  ⟨some 4, none, .mv (.t 28)⟩])
 .ret))
theorem d95 : FnD Try.prog 95 2 27 [.tmp 4] c95 := ⟨Try.f95, _, Try.func95, by kernel_rfl, rfl, rfl, by kernel_rfl, by kernel_rfl⟩

/-- palimp/palimpref11.bad -/
def c96 : ACode :=
 (.seq (.reg [⟨some 2, none, .mv (.c (.bool false))⟩])
 (.seq (.seq (.reg [⟨some 3, none, .mv (.c (.int .i64 0))⟩])
 (.block 0
 (.loop
 (.seq (.seq (.reg [⟨some 4, none, .mv (.t 3)⟩,
  ⟨some 5, none, .mv (.t 0)⟩,
  ⟨some 6, none, .len false (.t 5)⟩,
  ⟨some 7, none, .bini .lss (.t 4) (.t 6)⟩])
 (.cond (.t 7)
 .skip
 (.exit 0)))
 (.seq (.block 1
 (.seq (.reg [⟨some 10, none, .mv (.t 0)⟩,
  ⟨some 11, none, .mv (.t 3)⟩,
  ⟨some 12, none, .iaddr 5 (.t 10) (.t 11)⟩,
  ⟨some 13, none, .faddr 4 (.t 12)⟩,
  ⟨some 14, none, .load false 1 (.t 13)⟩,
  ⟨some 15, none, .bini .neq (.t 14) (.c (.int .i64 0))⟩])
 (.cond (.t 15)
 (.seq (.reg [⟨some 2, none, .mv (.c (.bool true))⟩])
 .ret)
 .skip)))
 (.reg [⟨some 8, none, .mv (.t 3)⟩,
  ⟨some 9, none, .bini .add (.t 8) (.c (.int .i64 1))⟩,
  ⟨some 3, none, .mv (.t 9)⟩]))))))
 (.seq (.reg [⟨some 2, none, .mv (.c (.bool false))⟩])
 .ret)))
theorem d96 : FnD Try.prog 96 1 15 [.tmp 2] c96 := ⟨Try.f96, _, Try.func96, by kernel_rfl, rfl, rfl, by kernel_rfl, by kernel_rfl⟩

/-- strings.Repeat -/
def c97 : ACode :=
 (.seq (.reg [⟨some 4, none, .mv (.c (.str []))⟩])
 (.seq (.seq (.reg [⟨some 11, none, .mv (.t 1)⟩])
 (.block 0
 (.seq (.reg [⟨some 13, none, .bini .eql (.t 11) (.c (.int .i64 0))⟩,
  ⟨some 12, none, .mv (.t 13)⟩])
 (.cond (.t 12)
 (.seq (.reg [⟨some 4, none, .mv (.c (.str []))⟩])
 .ret)
 (.seq (.reg [⟨some 15, none, .bini .eql (.t 11) (.c (.int .i64 1))⟩,
  ⟨some 14, none, .mv (.t 15)⟩])
 (.cond (.t 14)
 (.seq (.reg [⟨some 16, none, .mv (.t 0)⟩,
  ⟨some 4, none, .mv (.t 16)⟩])
 .ret)
 .skip))))))
 (.seq (.seq (.reg [⟨some 17, none, .mv (.t 1)⟩,
  ⟨some 18, none, .bini .lss (.t 17) (.c (.int .i64 0))⟩])
 (.cond (.t 18)
 (.reg [⟨some 19, none, .bad⟩,
  ⟨none, none, .bad⟩])
 .skip))
 (.seq (.reg [⟨some 21, none, .mv (.t 0)⟩,
  ⟨some 22, none, .len true (.t 21)⟩,
  ⟨some 23, none, .convi .u64 (.t 22)⟩,
  ⟨some 24, none, .mv (.t 1)⟩,
  ⟨some 25, none, .convi .u64 (.t 24)⟩,
  ⟨some 26, none, .call 101 [(.t 23), (.t 25)]⟩,
  ⟨some 20, none, .mv (.t 26)⟩,
  ⟨some 27, none, .ext (.t 20) 0⟩,
  ⟨some 28, none, .ext (.t 20) 1⟩,
  ⟨some 5, none, .mv (.t 27)⟩,
  ⟨some 6, none, .mv (.t 28)⟩])
 (.seq (.seq (.reg [⟨some 29, none, .mv (.t 5)⟩,
  ⟨some 30, none, .bini .gtr (.t 29) (.c (.int .u64 0))⟩,
  ⟨some 31, none, .mv (.t 30)⟩,
  ⟨some 32, (some (31, false)), .mv (.t 6)⟩,
  ⟨some 33, (some (31, false)), .bini .gtr (.t 32) (.c (.int .u64 9223372036854775807))⟩,
  ⟨some 34, none, .pick (.t 31) (.c (.bool true)) (.t 33)⟩])
 (.cond (.t 34)
 (.reg [⟨some 35, none, .bad⟩,
  ⟨none, none, .bad⟩])
 .skip))
 (.seq (.reg [⟨some 36, none, .mv (.t 6)⟩,
  ⟨some 37, none, .convi .i64 (.t 36)⟩,
  ⟨some 7, none, .mv (.t 37)⟩])
 (.seq (.seq (.reg [⟨some 38, none, .mv (.t 0)⟩,
  ⟨some 39, none, .len true (.t 38)⟩,
  ⟨some 40, none, .bini .eql (.t 39) (.c (.int .i64 0))⟩])
 (.cond (.t 40)
 (.seq (.reg [⟨some 4, none, .mv (.c (.str []))⟩])
 .ret)
 .skip))
 (.seq (.seq (.reg [⟨some 41, none, .mv (.t 0)⟩,
  ⟨some 42, none, .indexs (.t 41) (.c (.int .i64 0))⟩])
 (.block 1
 (.seq (.seq (.reg [⟨some 44, none, .bini .eql (.t 42) (.c (.int .u8 32))⟩,
  ⟨some 43, none, .mv (.t 44)⟩])
 (.cond (.t 43)
 .skip
 (.seq (.reg [⟨some 45, none, .bini .eql (.t 42) (.c (.int .u8 45))⟩,
  ⟨some 43, none, .mv (.t 45)⟩])
 (.cond (.t 43)
 .skip
 (.seq (.reg [⟨some 46, none, .bini .eql (.t 42) (.c (.int .u8 48))⟩,
  ⟨some 43, none, .mv (.t 46)⟩])
 (.cond (.t 43)
 .skip
 (.seq (.reg [⟨some 47, none, .bini .eql (.t 42) (.c (.int .u8 61))⟩,
  ⟨some 43, none, .mv (.t 47)⟩])
 (.cond (.t 43)
 .skip
 (.reg [⟨some 48, none, .bini .eql (.t 42) (.c (.int .u8 9))⟩,
  ⟨some 43, none, .mv (.t 48)⟩])))))))))
 (.cond (.t 43)
 (.block 2
 (.seq (.reg [⟨some 50, none, .mv (.t 7)⟩,
  ⟨some 51, none, .bini .leq (.t 50) (.c (.int .i64 128))⟩,
  ⟨some 52, none, .mv (.t 51)⟩,
  ⟨some 53, (some (52, true)), .mv (.t 0)⟩,
  ⟨some 54, (some (52, true)), .call 102 [(.c (.str [32, 32, 32, 32, 32, 32, 32, 32, 32, 32, 32, 32, 32, 32, 32, 32, 32, 32, 32, 32, 32, 32, 32, 32, 32, 32, 32, 32, 32, 32, 32, 32, 32, 32, 32, 32, 32, 32, 32, 32, 32, 32, 32, 32, 32, 32, 32, 32, 32, 32, 32, 32, 32, 32, 32, 32, 32, 32, 32, 32, 32, 32, 32, 32, 32, 32, 32, 32, 32, 32, 32, 32, 32, 32, 32, 32, 32, 32, 32, 32, 32, 32, 32, 32, 32, 32, 32, 32, 32, 32, 32, 32, 32, 32, 32, 32, 32, 32, 32, 32, 32, 32, 32, 32, 32, 32, 32, 32, 32, 32, 32, 32, 32, 32, 32, 32, 32, 32, 32, 32, 32, 32, 32, 32, 32, 32, 32, 32])), (.t 53)]⟩,
  ⟨some 55, none, .pick (.t 52) (.t 54) (.c (.bool false))⟩,
  ⟨some 49, none, .mv (.t 55)⟩])
 (.cond (.t 49)
 (.seq (.reg [⟨some 56, none, .mv (.t 7)⟩,
  ⟨some 57, none, .slices (.c (.str [32, 32, 32, 32, 32, 32, 32, 32, 32, 32, 32, 32, 32, 32, 32, 32, 32, 32, 32, 32, 32, 32, 32, 32, 32, 32, 32, 32, 32, 32, 32, 32, 32, 32, 32, 32, 32, 32, 32, 32, 32, 32, 32, 32, 32, 32, 32, 32, 32, 32, 32, 32, 32, 32, 32, 32, 32, 32, 32, 32, 32, 32, 32, 32, 32, 32, 32, 32, 32, 32, 32, 32, 32, 32, 32, 32, 32, 32, 32, 32, 32, 32, 32, 32, 32, 32, 32, 32, 32, 32, 32, 32, 32, 32, 32, 32, 32, 32, 32, 32, 32, 32, 32, 32, 32, 32, 32, 32, 32, 32, 32, 32, 32, 32, 32, 32, 32, 32, 32, 32, 32, 32, 32, 32, 32, 32, 32, 32])) none (some (.t 56))⟩,
  ⟨some 4, none, .mv (.t 57)⟩])
 .ret)
 (.seq (.reg [⟨some 59, none, .mv (.t 7)⟩,
  ⟨some 60, none, .bini .leq (.t 59) (.c (.int .i64 128))⟩,
  ⟨some 61, none, .mv (.t 60)⟩,
  ⟨some 62, (some (61, true)), .mv (.t 0)⟩,
  ⟨some 63, (some (61, true)), .call 102 [(.c (.str [45, 45, 45, 45, 45, 45, 45, 45, 45, 45, 45, 45, 45, 45, 45, 45, 45, 45, 45, 45, 45, 45, 45, 45, 45, 45, 45, 45, 45, 45, 45, 45, 45, 45, 45, 45, 45, 45, 45, 45, 45, 45, 45, 45, 45, 45, 45, 45, 45, 45, 45, 45, 45, 45, 45, 45, 45, 45, 45, 45, 45, 45, 45, 45, 45, 45, 45, 45, 45, 45, 45, 45, 45, 45, 45, 45, 45, 45, 45, 45, 45, 45, 45, 45, 45, 45, 45, 45, 45, 45, 45, 45, 45, 45, 45, 45, 45, 45, 45, 45, 45, 45, 45, 45, 45, 45, 45, 45, 45, 45, 45, 45, 45, 45, 45, 45, 45, 45, 45, 45, 45, 45, 45, 45, 45, 45, 45, 45])), (.t 62)]⟩,
  ⟨some 64, none, .pick (.t 61) (.t 63) (.c (.bool false))⟩,
  ⟨some 58, none, .mv (.t 64)⟩])
 (.cond (.t 58)
 (.seq (.reg [⟨some 65, none, .mv (.t 7)⟩,
  ⟨some 66, none, .slices (.c (.str [45, 45, 45, 45, 45, 45, 45, 45, 45, 45, 45, 45, 45, 45, 45, 45, 45, 45, 45, 45, 45, 45, 45, 45, 45, 45, 45, 45, 45, 45, 45, 45, 45, 45, 45, 45, 45, 45, 45, 45, 45, 45, 45, 45, 45, 45, 45, 45, 45, 45, 45, 45, 45, 45, 45, 45, 45, 45, 45, 45, 45, 45, 45, 45, 45, 45, 45, 45, 45, 45, 45, 45, 45, 45, 45, 45, 45, 45, 45, 45, 45, 45, 45, 45, 45, 45, 45, 45, 45, 45, 45, 45, 45, 45, 45, 45, 45, 45, 45, 45, 45, 45, 45, 45, 45, 45, 45, 45, 45, 45, 45, 45, 45, 45, 45, 45, 45, 45, 45, 45, 45, 45, 45, 45, 45, 45, 45, 45])) none (some (.t 65))⟩,
  ⟨some 4, none, .mv (.t 66)⟩])
 .ret)
 (.seq (.reg [⟨some 68, none, .mv (.t 7)⟩,
  ⟨some 69, none, .bini .leq (.t 68) (.c (.int .i64 64))⟩,
  ⟨some 70, none, .mv (.t 69)⟩,
  ⟨some 71, (some (70, true)), .mv (.t 0)⟩,
  ⟨some 72, (some (70, true)), .call 102 [(.c (.str [48, 48, 48, 48, 48, 48, 48, 48, 48, 48, 48, 48, 48, 48, 48, 48, 48, 48, 48, 48, 48, 48, 48, 48, 48, 48, 48, 48, 48, 48, 48, 48, 48, 48, 48, 48, 48, 48, 48, 48, 48, 48, 48, 48, 48, 48, 48, 48, 48, 48, 48, 48, 48, 48, 48, 48, 48, 48, 48, 48, 48, 48, 48, 48])), (.t 71)]⟩,
  ⟨some 73, none, .pick (.t 70) (.t 72) (.c (.bool false))⟩,
  ⟨some 67, none, .mv (.t 73)⟩])
 (.cond (.t 67)
 (.seq (.reg [⟨some 74, none, .mv (.t 7)⟩,
  ⟨some 75, none, .slices (.c (.str [48, 48, 48, 48, 48, 48, 48, 48, 48, 48, 48, 48, 48, 48, 48, 48, 48, 48, 48, 48, 48, 48, 48, 48, 48, 48, 48, 48, 48, 48, 48, 48, 48, 48, 48, 48, 48, 48, 48, 48, 48, 48, 48, 48, 48, 48, 48, 48, 48, 48, 48, 48, 48, 48, 48, 48, 48, 48, 48, 48, 48, 48, 48, 48])) none (some (.t 74))⟩,
  ⟨some 4, none, .mv (.t 75)⟩])
 .ret)
 (.seq (.reg [⟨some 77, none, .mv (.t 7)⟩,
  ⟨some 78, none, .bini .leq (.t 77) (.c (.int .i64 128))⟩,
  ⟨some 79, none, .mv (.t 78)⟩,
  ⟨some 80, (some (79, true)), .mv (.t 0)⟩,
  ⟨some 81, (some (79, true)), .call 102 [(.c (.str [61, 61, 61, 61, 61, 61, 61, 61, 61, 61, 61, 61, 61, 61, 61, 61, 61, 61, 61, 61, 61, 61, 61, 61, 61, 61, 61, 61, 61, 61, 61, 61, 61, 61, 61, 61, 61, 61, 61, 61, 61, 61, 61, 61, 61, 61, 61, 61, 61, 61, 61, 61, 61, 61, 61, 61, 61, 61, 61, 61, 61, 61, 61, 61, 61, 61, 61, 61, 61, 61, 61, 61, 61, 61, 61, 61, 61, 61, 61, 61, 61, 61, 61, 61, 61, 61, 61, 61, 61, 61, 61, 61, 61, 61, 61, 61, 61, 61, 61, 61, 61, 61, 61, 61, 61, 61, 61, 61, 61, 61, 61, 61, 61, 61, 61, 61, 61, 61, 61, 61, 61, 61, 61, 61, 61, 61, 61, 61])), (.t 80)]⟩,
  ⟨some 82, none, .pick (.t 79) (.t 81) (.c (.bool false))⟩,
  ⟨some 76, none, .mv (.t 82)⟩])
 (.cond (.t 76)
 (.seq (.reg [⟨some 83, none, .mv (.t 7)⟩,
  ⟨some 84, none, .slices (.c (.str [61, 61, 61, 61, 61, 61, 61, 61, 61, 61, 61, 61, 61, 61, 61, 61, 61, 61, 61, 61, 61, 61, 61, 61, 61, 61, 61, 61, 61, 61, 61, 61, 61, 61, 61, 61, 61, 61, 61, 61, 61, 61, 61, 61, 61, 61, 61, 61, 61, 61, 61, 61, 61, 61, 61, 61, 61, 61, 61, 61, 61, 61, 61, 61, 61, 61, 61, 61, 61, 61, 61, 61, 61, 61, 61, 61, 61, 61, 61, 61, 61, 61, 61, 61, 61, 61, 61, 61, 61, 61, 61, 61, 61, 61, 61, 61, 61, 61, 61, 61, 61, 61, 61, 61, 61, 61, 61, 61, 61, 61, 61, 61, 61, 61, 61, 61, 61, 61, 61, 61, 61, 61, 61, 61, 61, 61, 61, 61])) none (some (.t 83))⟩,
  ⟨some 4, none, .mv (.t 84)⟩])
 .ret)
 (.seq (.reg [⟨some 86, none, .mv (.t 7)⟩,
  ⟨some 87, none, .bini .leq (.t 86) (.c (.int .i64 64))⟩,
  ⟨some 88, none, .mv (.t 87)⟩,
  ⟨some 89, (some (88, true)), .mv (.t 0)⟩,
  ⟨some 90, (some (88, true)), .call 102 [(.c (.str [9, 9, 9, 9, 9, 9, 9, 9, 9, 9, 9, 9, 9, 9, 9, 9, 9, 9, 9, 9, 9, 9, 9, 9, 9, 9, 9, 9, 9, 9, 9, 9, 9, 9, 9, 9, 9, 9, 9, 9, 9, 9, 9, 9, 9, 9, 9, 9, 9, 9, 9, 9, 9, 9, 9, 9, 9, 9, 9, 9, 9, 9, 9, 9])), (.t 89)]⟩,
  ⟨some 91, none, .pick (.t 88) (.t 90) (.c (.bool false))⟩,
  ⟨some 85, none, .mv (.t 91)⟩])
 (.cond (.t 85)
 (.seq (.reg [⟨some 92, none, .mv (.t 7)⟩,
  ⟨some 93, none, .slices (.c (.str [9, 9, 9, 9, 9, 9, 9, 9, 9, 9, 9, 9, 9, 9, 9, 9, 9, 9, 9, 9, 9, 9, 9, 9, 9, 9, 9, 9, 9, 9, 9, 9, 9, 9, 9, 9, 9, 9, 9, 9, 9, 9, 9, 9, 9, 9, 9, 9, 9, 9, 9, 9, 9, 9, 9, 9, 9, 9, 9, 9, 9, 9, 9, 9])) none (some (.t 92))⟩,
  ⟨some 4, none, .mv (.t 93)⟩])
 .ret)
 .skip)))))))))))
 .skip))))
 (.seq (.reg [⟨some 94, none, .mv (.t 7)⟩,
  ⟨some 8, none, .mv (.t 94)⟩])
 (.seq (.seq (.reg [⟨some 95, none, .mv (.t 7)⟩,
  ⟨some 96, none, .bini .gtr (.t 95) (.c (.int .i64 8192))⟩])
 (.cond (.t 96)
 (.seq (.reg [⟨some 97, none, .mv (.t 0)⟩,
  ⟨some 98, none, .len true (.t 97)⟩,
  ⟨some 99, none, .bini .quo (.c (.int .i64 8192)) (.t 98)⟩,
  ⟨some 100, none, .mv (.t 0)⟩,
  ⟨some 101, none, .len true (.t 100)⟩,
  ⟨some 102, none, .bini .mul (.t 99) (.t 101)⟩,
  ⟨some 8, none, .mv (.t 102)⟩])
 (.seq (.reg [⟨some 103, none, .mv (.t 8)⟩,
  ⟨some 104, none, .bini .eql (.t 103) (.c (.int .i64 0))⟩])
 (.cond (.t 104)
 (.reg [⟨some 105, none, .mv (.t 0)⟩,
  ⟨some 106, none, .len true (.t 105)⟩,
  ⟨some 8, none, .mv (.t 106)⟩])
 .skip)))
 .skip))
 (.seq (.reg [⟨some 9, none, .alloc [.nilp, .emp]⟩])
 (.seq (.reg [⟨some 107, none, .mv (.t 7)⟩,
  ⟨some 108, none, .call 89 [(.t 9), (.t 107)]⟩])
 (.seq (.reg [⟨some 109, none, .mv (.t 0)⟩,
  ⟨some 110, none, .call 90 [(.t 9), (.t 109)]⟩])
 (.seq (.block 3
 (.loop
 (.seq (.seq (.reg [⟨some 111, none, .call 103 [(.t 9)]⟩,
  ⟨some 112, none, .mv (.t 7)⟩,
  ⟨some 113, none, .bini .lss (.t 111) (.t 112)⟩])
 (.cond (.t 113)
 .skip
 (.exit 3)))
 (.block 4
 (.seq (.reg [⟨some 114, none, .mv (.t 7)⟩,
  ⟨some 115, none, .call 103 [(.t 9)]⟩,
  ⟨some 116, none, .bini .sub (.t 114) (.t 115)⟩,
  ⟨some 117, none, .call 103 [(.t 9)]⟩,
  ⟨some 118, none, .mv (.t 8)⟩,
  ⟨some 119, none, .bad⟩,
  ⟨some 10, none, .mv (.t 119)⟩])
 (.reg [⟨some 120, none, .call 91 [(.t 9)]⟩,
  ⟨some 121, none, .mv (.t 10)⟩,
  ⟨some 122, none, .slices (.t 120) none (some (.t 121))⟩,
  ⟨some 123, none, .call 90 [(.t 9), (.t 122)]⟩]))))))
 (.seq (.reg [⟨some 124, none, .call 91 [(.t 9)]⟩,
  ⟨some 4, none, .mv (.t 124)⟩])
 .ret)))))))))))))))
-- not all of it is covered: builtin min; op makeInterface; op panic

/-- (*strings.Builder).copyCheck -/
def c98 : ACode :=
 (.seq (.reg [⟨some 2, none, .mv (.t 0)⟩,
  ⟨some 3, none, .nilchk (.t 2)⟩,
  ⟨some 4, none, .faddr 0 (.t 3)⟩,
  ⟨some 5, none, .load false 1 (.t 4)⟩,
  ⟨some 6, none, .bad⟩])
 (.cond (.t 6)
 (.reg [⟨some 7, none, .mv (.t 0)⟩,
  ⟨some 8, none, .mv (.t 0)⟩,
  ⟨some 9, none, .bad⟩,
  ⟨some 10, none, .call 104 [(.t 9)]⟩,
  ⟨some 11, none, .bad⟩,
  ⟨some 12, none, .nilchk (.t 7)⟩,
  ⟨some 13, none, .faddr 0 (.t 12)⟩,
  ⟨none, none, .store 1 (.t 13) (.t 11)⟩])
 (.seq (.reg [⟨some 14, none, .mv (.t 0)⟩,
  ⟨some 15, none, .nilchk (.t 14)⟩,
  ⟨some 16, none, .faddr 0 (.t 15)⟩,
  ⟨some 17, none, .load false 1 (.t 16)⟩,
  ⟨some 18, none, .mv (.t 0)⟩,
  ⟨some 19, none, .bad⟩])
 (.cond (.t 19)
 .bad
 .skip))))
-- not all of it is covered: binOp eql pointer; binOp neq pointer; code refuse; convert pointer unsafePointer; convert unsafePointer pointer

end Go.Proofs.Ytemjlopoffjmpaa.Abs
