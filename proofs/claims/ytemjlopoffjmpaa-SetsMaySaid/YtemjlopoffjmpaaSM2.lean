/-
  Part 2 of the proof: no condition. (Parts of the abstract layer, of the program's functions in its form, and of their contracts.)
-/
import Derived.Test.YtemjlopoffjmpaaAbs22
import Derived.Test.YtemjlopoffjmpaaProg
import Derived.KernelRfl
import Derived.Test.YtemjlopoffjmpaaWk
import Derived.Test.YtemjlopoffjmpaaSM1
import Derived.Test.YtemjlopoffjmpaaAbs29
import Derived.Test.YtemjlopoffjmpaaWk3
import Derived.Test.YtemjlopoffjmpaaAbs38
/-
  The code of some functions in the abstract layer's form, each checked against the program's own. Written by gen.py.
-/
namespace Go.Proofs.Ytemjlopoffjmpaa.Abs
open Go

/-- palimp/palimpref11.MayName -/
def c87 : ACode :=
 (.seq (.reg [⟨some 2, none, .mv (.c (.bool false))⟩])
 (.seq (.seq (.reg [⟨some 3, none, .mv (.c (.int .i64 0))⟩])
 (.block 0
 (.loop
 (.seq (.seq (.reg [⟨some 5, none, .mv (.t 3)⟩,
  ⟨some 6, none, .mv (.t 0)⟩,
  ⟨some 7, none, .len true (.t 6)⟩,
  ⟨some 8, none, .bini .lss (.t 5) (.t 7)⟩])
 (.cond (.t 8)
 .skip
 (.exit 0)))
 (.seq (.block 1
 (.seq (.reg [⟨some 11, none, .mv (.t 0)⟩,
  ⟨some 12, none, .mv (.t 3)⟩,
  ⟨some 13, none, .indexs (.t 11) (.t 12)⟩,
  ⟨some 4, none, .mv (.t 13)⟩])
 (.seq (.reg [⟨some 14, none, .mv (.t 4)⟩,
  ⟨some 15, none, .bini .geq (.t 14) (.c (.int .u8 97))⟩,
  ⟨some 16, none, .mv (.t 15)⟩,
  ⟨some 17, (some (16, true)), .mv (.t 4)⟩,
  ⟨some 18, (some (16, true)), .bini .leq (.t 17) (.c (.int .u8 122))⟩,
  ⟨some 19, none, .pick (.t 16) (.t 18) (.c (.bool false))⟩,
  ⟨some 20, none, .mv (.t 19)⟩,
  ⟨some 21, (some (20, false)), .mv (.t 4)⟩,
  ⟨some 22, (some (20, false)), .bini .geq (.t 21) (.c (.int .u8 48))⟩,
  ⟨some 23, (some (20, false)), .mv (.t 22)⟩,
  ⟨some 24, (some (23, true)), .mv (.t 4)⟩,
  ⟨some 25, (some (23, true)), .bini .leq (.t 24) (.c (.int .u8 57))⟩,
  ⟨some 26, (some (20, false)), .pick (.t 23) (.t 25) (.c (.bool false))⟩,
  ⟨some 27, none, .pick (.t 20) (.c (.bool true)) (.t 26)⟩,
  ⟨some 28, none, .mv (.t 27)⟩,
  ⟨some 29, (some (28, false)), .mv (.t 4)⟩,
  ⟨some 30, (some (28, false)), .bini .eql (.t 29) (.c (.int .u8 46))⟩,
  ⟨some 31, none, .pick (.t 28) (.c (.bool true)) (.t 30)⟩,
  ⟨some 32, none, .mv (.t 31)⟩,
  ⟨some 33, (some (32, false)), .mv (.t 4)⟩,
  ⟨some 34, (some (32, false)), .bini .eql (.t 33) (.c (.int .u8 95))⟩,
  ⟨some 35, none, .pick (.t 32) (.c (.bool true)) (.t 34)⟩,
  ⟨some 36, none, .mv (.t 35)⟩,
  ⟨some 37, (some (36, false)), .mv (.t 4)⟩,
  ⟨some 38, (some (36, false)), .bini .eql (.t 37) (.c (.int .u8 45))⟩,
  ⟨some 39, none, .pick (.t 36) (.c (.bool true)) (.t 38)⟩,
  ⟨some 40, none, .un .not (.t 39)⟩])
 (.cond (.t 40)
 (.seq (.reg [⟨some 2, none, .mv (.c (.bool false))⟩])
 .ret)
 .skip))))
 (.reg [⟨some 9, none, .mv (.t 3)⟩,
  ⟨some 10, none, .bini .add (.t 9) (.c (.int .i64 1))⟩,
  ⟨some 3, none, .mv (.t 10)⟩]))))))
 (.seq (.reg [⟨some 41, none, .mv (.t 0)⟩,
  ⟨some 42, none, .len true (.t 41)⟩,
  ⟨some 43, none, .bini .geq (.t 42) (.c (.int .i64 1))⟩,
  ⟨some 44, none, .mv (.t 43)⟩,
  ⟨some 45, (some (44, true)), .mv (.t 0)⟩,
  ⟨some 46, (some (44, true)), .len true (.t 45)⟩,
  ⟨some 47, (some (44, true)), .bini .leq (.t 46) (.c (.int .i64 8))⟩,
  ⟨some 48, none, .pick (.t 44) (.t 47) (.c (.bool false))⟩,
  ⟨some 49, none, .mv (.t 48)⟩,
  ⟨some 50, (some (49, true)), .mv (.t 0)⟩,
  ⟨some 51, (some (49, true)), .bins .neq (.t 50) (.c (.str [46]))⟩,
  ⟨some 52, none, .pick (.t 49) (.t 51) (.c (.bool false))⟩,
  ⟨some 53, none, .mv (.t 52)⟩,
  ⟨some 54, (some (53, true)), .mv (.t 0)⟩,
  ⟨some 55, (some (53, true)), .bins .neq (.t 54) (.c (.str [46, 46]))⟩,
  ⟨some 56, none, .pick (.t 53) (.t 55) (.c (.bool false))⟩,
  ⟨some 2, none, .mv (.t 56)⟩])
 .ret)))
theorem d87 : FnD Try.prog 87 1 56 [.tmp 2] c87 := ⟨Try.f87, _, Try.func87, by kernel_rfl, rfl, rfl, by kernel_rfl, by kernel_rfl⟩

/-- palimp/palimpref11.lost -/
def c88 : ACode :=
 (.seq (.reg [⟨some 2, none, .mv (.c (.bool false))⟩])
 (.seq (.seq (.reg [⟨some 3, none, .mv (.c (.int .i64 0))⟩])
 (.block 0
 (.loop
 (.seq (.seq (.reg [⟨some 4, none, .mv (.t 3)⟩,
  ⟨some 5, none, .mv (.t 0)⟩,
  ⟨some 6, none, .len false (.t 5)⟩,
  ⟨some 7, none, .bini .lss (.t 4) (.t 6)⟩])
 (.cond (.t 7)
 .skip
 (.exit 0)))
 (.seq (.block 1
 (.seq (.reg [⟨some 10, none, .mv (.t 0)⟩,
  ⟨some 11, none, .mv (.t 3)⟩,
  ⟨some 12, none, .iaddr 5 (.t 10) (.t 11)⟩,
  ⟨some 13, none, .faddr 0 (.t 12)⟩,
  ⟨some 14, none, .load false 1 (.t 13)⟩,
  ⟨some 15, none, .bini .eql (.t 14) (.c (.int .i64 3))⟩])
 (.cond (.t 15)
 (.seq (.reg [⟨some 2, none, .mv (.c (.bool true))⟩])
 .ret)
 .skip)))
 (.reg [⟨some 8, none, .mv (.t 3)⟩,
  ⟨some 9, none, .bini .add (.t 8) (.c (.int .i64 1))⟩,
  ⟨some 3, none, .mv (.t 9)⟩]))))))
 (.seq (.reg [⟨some 2, none, .mv (.c (.bool false))⟩])
 .ret)))
theorem d88 : FnD Try.prog 88 1 15 [.tmp 2] c88 := ⟨Try.f88, _, Try.func88, by kernel_rfl, rfl, rfl, by kernel_rfl, by kernel_rfl⟩

/-- (*strings.Builder).Grow -/
def c89 : ACode :=
 (.seq (.reg [⟨some 4, none, .mv (.t 0)⟩,
  ⟨some 5, none, .call 98 [(.t 4)]⟩])
 (.seq (.seq (.reg [⟨some 6, none, .mv (.t 1)⟩,
  ⟨some 7, none, .bini .lss (.t 6) (.c (.int .i64 0))⟩])
 (.cond (.t 7)
 (.reg [⟨some 8, none, .bad⟩,
  ⟨none, none, .bad⟩])
 .skip))
 (.seq (.dreg [⟨some 9, none, .mv (.t 0)⟩,
  ⟨some 10, none, .nilchk (.t 9)⟩,
  ⟨some 11, none, .faddr 1 (.t 10)⟩,
  ⟨some 12, none, .load false 1 (.t 11)⟩,
  ⟨some 13, none, .bad⟩,
  ⟨some 14, none, .mv (.t 0)⟩,
  ⟨some 15, none, .nilchk (.t 14)⟩,
  ⟨some 16, none, .faddr 1 (.t 15)⟩,
  ⟨some 17, none, .load false 1 (.t 16)⟩,
  ⟨some 18, none, .len false (.t 17)⟩,
  ⟨some 19, none, .bini .sub (.t 13) (.t 18)⟩,
  ⟨some 20, none, .mv (.t 1)⟩,
  ⟨some 21, none, .bini .lss (.t 19) (.t 20)⟩])
 (.cond (.t 21)
 (.reg [⟨some 22, none, .mv (.t 0)⟩,
  ⟨some 23, none, .mv (.t 1)⟩,
  ⟨some 24, none, .call 99 [(.t 22), (.t 23)]⟩])
 .skip))))
-- not all of it is covered: builtin cap; op makeInterface; op panic

/-- (*strings.Builder).WriteString -/
def c90 : ACode :=
 (.seq (.reg [⟨some 4, none, .mv (.c (.int .i64 0))⟩,
  ⟨some 5, none, .mv (.c (.top))⟩])
 (.seq (.reg [⟨some 6, none, .mv (.t 0)⟩,
  ⟨some 7, none, .call 98 [(.t 6)]⟩])
 (.seq (.reg [⟨some 8, none, .mv (.t 0)⟩,
  ⟨some 9, none, .mv (.t 0)⟩,
  ⟨some 10, none, .nilchk (.t 9)⟩,
  ⟨some 11, none, .faddr 1 (.t 10)⟩,
  ⟨some 12, none, .load false 1 (.t 11)⟩,
  ⟨some 13, none, .mv (.t 1)⟩,
  ⟨some 14, none, .append 1 1 [.int .u8 0] (.t 12) (.t 13)⟩,
  ⟨some 15, none, .nilchk (.t 8)⟩,
  ⟨some 16, none, .faddr 1 (.t 15)⟩,
  ⟨none, none, .store 1 (.t 16) (.t 14)⟩])
 (.seq (.reg [⟨some 17, none, .mv (.t 1)⟩,
  ⟨some 18, none, .len true (.t 17)⟩,
  ⟨some 4, none, .mv (.t 18)⟩,
  ⟨some 5, none, .mv (.c (.top))⟩])
 .ret))))
theorem d90 : FnD Try.prog 90 2 17 [.tmp 4, .tmp 5] c90 := ⟨Try.f90, _, Try.func90, by kernel_rfl, rfl, rfl, by kernel_rfl, by kernel_rfl⟩

/-- (*strings.Builder).String -/
def c91 : ACode :=
 (.seq (.reg [⟨some 2, none, .mv (.c (.str []))⟩])
 (.seq (.dreg [⟨some 3, none, .mv (.t 0)⟩,
  ⟨some 4, none, .nilchk (.t 3)⟩,
  ⟨some 5, none, .faddr 1 (.t 4)⟩,
  ⟨some 6, none, .load false 1 (.t 5)⟩,
  ⟨some 7, none, .bad⟩,
  ⟨some 8, none, .mv (.t 0)⟩,
  ⟨some 9, none, .nilchk (.t 8)⟩,
  ⟨some 10, none, .faddr 1 (.t 9)⟩,
  ⟨some 11, none, .load false 1 (.t 10)⟩,
  ⟨some 12, none, .len false (.t 11)⟩,
  ⟨some 13, none, .bad⟩,
  ⟨some 2, none, .mv (.t 13)⟩])
 .ret))
-- not all of it is covered: builtin unsafeSliceData; builtin unsafeString

/-- palimp/node.May -/
def c92 : ACode :=
 (.seq (.reg [⟨some 2, none, .mv (.c (.bool false))⟩])
 (.seq (.reg [⟨some 3, none, .mv (.t 0)⟩,
  ⟨some 4, none, .build [.emp] [(0, 1, (.t 3))]⟩,
  ⟨some 5, none, .call 100 [(.t 4)]⟩,
  ⟨some 2, none, .mv (.t 5)⟩])
 .ret))
theorem d92 : FnD Try.prog 92 1 5 [.tmp 2] c92 := ⟨Try.f92, _, Try.func92, by kernel_rfl, rfl, rfl, by kernel_rfl, by kernel_rfl⟩

/-- (palimp/dset.family).round -/
def c93 : ACode :=
 (.seq (.reg [⟨some 4, none, .mv (.c (.bool false))⟩])
 (.seq (.reg [⟨some 7, none, .mv (.t 1)⟩,
  ⟨some 5, none, .mv (.t 7)⟩])
 (.seq (.seq (.reg [⟨some 8, none, .mv (.t 0)⟩,
  ⟨some 9, none, .len false (.t 8)⟩,
  ⟨some 10, none, .mv (.c (.int .i64 0))⟩])
 (.block 0
 (.loop
 (.seq (.reg [⟨some 11, none, .bini .lss (.t 10) (.t 9)⟩])
 (.seq (.cond (.t 11)
 .skip
 (.exit 0))
 (.seq (.block 1
 (.seq (.reg [⟨some 12, none, .mv (.t 0)⟩,
  ⟨some 13, none, .mv (.t 5)⟩,
  ⟨some 14, none, .call 62 [(.t 12), (.t 13)]⟩,
  ⟨some 6, none, .mv (.t 14)⟩])
 (.seq (.seq (.reg [⟨some 15, none, .mv (.t 6)⟩,
  ⟨some 16, none, .bini .lss (.t 15) (.c (.int .i64 0))⟩])
 (.cond (.t 16)
 (.seq (.reg [⟨some 4, none, .mv (.c (.bool false))⟩])
 .ret)
 .skip))
 (.seq (.reg [⟨some 17, none, .mv (.t 0)⟩,
  ⟨some 18, none, .mv (.t 6)⟩,
  ⟨some 19, none, .iaddr 5 (.t 17) (.t 18)⟩,
  ⟨some 20, none, .faddr 2 (.t 19)⟩,
  ⟨some 21, none, .load false 1 (.t 20)⟩,
  ⟨some 5, none, .mv (.t 21)⟩])
 (.seq (.reg [⟨some 22, none, .mv (.t 5)⟩,
  ⟨some 23, none, .mv (.t 1)⟩,
  ⟨some 24, none, .bini .eql (.t 22) (.t 23)⟩])
 (.cond (.t 24)
 (.seq (.reg [⟨some 4, none, .mv (.c (.bool true))⟩])
 .ret)
 .skip))))))
 (.reg [⟨some 25, none, .bini .add (.t 10) (.c (.int .i64 1))⟩,
  ⟨some 10, none, .mv (.t 25)⟩])))))))
 (.seq (.reg [⟨some 4, none, .mv (.c (.bool false))⟩])
 .ret))))
theorem d93 : FnD Try.prog 93 2 24 [.tmp 4] c93 := ⟨Try.f93, _, Try.func93, by kernel_rfl, rfl, rfl, by kernel_rfl, by kernel_rfl⟩

/-- slices.Equal(palimp/api.Set,palimp/api.Node) -/
def c94 : ACode :=
 (.seq (.reg [⟨some 4, none, .mv (.c (.bool false))⟩])
 (.seq (.seq (.reg [⟨some 6, none, .mv (.t 0)⟩,
  ⟨some 7, none, .len false (.t 6)⟩,
  ⟨some 8, none, .mv (.t 1)⟩,
  ⟨some 9, none, .len false (.t 8)⟩,
  ⟨some 10, none, .bini .neq (.t 7) (.t 9)⟩])
 (.cond (.t 10)
 (.seq (.reg [⟨some 4, none, .mv (.c (.bool false))⟩])
 .ret)
 .skip))
 (.seq (.seq (.reg [⟨some 11, none, .mv (.t 0)⟩,
  ⟨some 12, none, .len false (.t 11)⟩,
  ⟨some 13, none, .mv (.c (.int .i64 0))⟩])
 (.block 0
 (.loop
 (.seq (.reg [⟨some 14, none, .bini .lss (.t 13) (.t 12)⟩])
 (.seq (.cond (.t 14)
 .skip
 (.exit 0))
 (.seq (.block 1
 (.seq (.reg [⟨some 15, none, .mv (.t 13)⟩,
  ⟨some 5, none, .mv (.t 15)⟩])
 (.seq (.dreg [⟨some 16, none, .mv (.t 0)⟩,
  ⟨some 17, none, .mv (.t 5)⟩,
  ⟨some 18, none, .iaddr 5 (.t 16) (.t 17)⟩,
  ⟨some 19, none, .load true 5 (.t 18)⟩,
  ⟨some 20, none, .mv (.t 1)⟩,
  ⟨some 21, none, .mv (.t 5)⟩,
  ⟨some 22, none, .iaddr 5 (.t 20) (.t 21)⟩,
  ⟨some 23, none, .load true 5 (.t 22)⟩,
  ⟨some 24, none, .eqs true [.i, .i, .s, .s, .i] (.t 19) (.t 23)⟩])
 (.cond (.t 24)
 (.seq (.reg [⟨some 4, none, .mv (.c (.bool false))⟩])
 .ret)
 .skip))))
 (.reg [⟨some 25, none, .bini .add (.t 13) (.c (.int .i64 1))⟩,
  ⟨some 13, none, .mv (.t 25)⟩])))))))
 (.seq (.reg [⟨some 4, none, .mv (.c (.bool true))⟩])
 .ret))))
theorem d94 : FnD Try.prog 94 2 24 [.tmp 4] c94 := ⟨Try.f94, _, Try.func94, by kernel_rfl, rfl, rfl, by kernel_rfl, by kernel_rfl⟩

/-- palimp/palimpref11.folder -/
def c95 : ACode :=
 (.seq (.reg [⟨some 4, none, .mv (.c (.bool false))⟩])
 (.seq (.reg [⟨some 5, none, .mv (.t 1)⟩,
  ⟨some 6, none, .bini .geq (.t 5) (.c (.int .i64 0))⟩,
  ⟨some 7, none, .mv (.t 6)⟩,
  ⟨some 8, (some (7, true)), .mv (.t 1)⟩,
  ⟨some 9, (some (7, true)), .mv (.t 0)⟩,
  ⟨some 10, (some (7, true)), .len false (.t 9)⟩,
  ⟨some 11, (some (7, true)), .bini .lss (.t 8) (.t 10)⟩,
  ⟨some 12, none, .pick (.t 7) (.t 11) (.c (.bool false))⟩,
  ⟨some 13, none, .mv (.t 12)⟩,
  ⟨some 14, (some (13, true)), .mv (.t 0)⟩,
  ⟨some 15, (some (13, true)), .mv (.t 1)⟩,
  ⟨some 16, (some (13, true)), .iaddr 5 (.t 14) (.t 15)⟩,
  ⟨some 17, (some (13, true)), .faddr 0 (.t 16)⟩,
  ⟨some 18, (some (13, true)), .load false 1 (.t 17)⟩,
  ⟨some 19, (some (13, true)), .bini .eql (.t 18) (.c (.int .i64 2))⟩,
  ⟨some 20, (some (13, true)), .mv (.t 19)⟩,
  ⟨some 21, (some (20, false)), .mv (.t 0)⟩,
  ⟨some 22, (some (20, false)), .mv (.t 1)⟩,
  ⟨some 23, (some (20, false)), .iaddr 5 (.t 21) (.t 22)⟩,
  ⟨some 24, (some (20, false)), .faddr 0 (.t 23)⟩,
  ⟨some 25, (some (20, false)), .load false 1 (.t 24)⟩,
  ⟨some 26, (some (20, false)), .bini .eql (.t 25) (.c (.int .i64 3))⟩,
  ⟨some 27, (some (13, true)), .pick (.t 20) (.c (.bool true)) (.t 26)⟩,
  ⟨some 28, none, .pick (.t 13) (.t 27) (.c (.bool false))⟩,
  ⟨some 4, none, .mv (.t 28)⟩])
 .ret))
theorem d95 : FnD Try.prog 95 2 27 [.tmp 4] c95 := ⟨Try.f95, _, Try.func95, by kernel_rfl, rfl, rfl, by kernel_rfl, by kernel_rfl⟩

/-- palimp/palimpref11.bad -/
def c96 : ACode :=
 (.seq (.reg [⟨some 2, none, .mv (.c (.bool false))⟩])
 (.seq (.seq (.reg [⟨some 3, none, .mv (.c (.int .i64 0))⟩])
 (.block 0
 (.loop
 (.seq (.seq (.reg [⟨some 4, none, .mv (.t 3)⟩,
  ⟨some 5, none, .mv (.t 0)⟩,
  ⟨some 6, none, .len false (.t 5)⟩,
  ⟨some 7, none, .bini .lss (.t 4) (.t 6)⟩])
 (.cond (.t 7)
 .skip
 (.exit 0)))
 (.seq (.block 1
 (.seq (.reg [⟨some 10, none, .mv (.t 0)⟩,
  ⟨some 11, none, .mv (.t 3)⟩,
  ⟨some 12, none, .iaddr 5 (.t 10) (.t 11)⟩,
  ⟨some 13, none, .faddr 4 (.t 12)⟩,
  ⟨some 14, none, .load false 1 (.t 13)⟩,
  ⟨some 15, none, .bini .neq (.t 14) (.c (.int .i64 0))⟩])
 (.cond (.t 15)
 (.seq (.reg [⟨some 2, none, .mv (.c (.bool true))⟩])
 .ret)
 .skip)))
 (.reg [⟨some 8, none, .mv (.t 3)⟩,
  ⟨some 9, none, .bini .add (.t 8) (.c (.int .i64 1))⟩,
  ⟨some 3, none, .mv (.t 9)⟩]))))))
 (.seq (.reg [⟨some 2, none, .mv (.c (.bool false))⟩])
 .ret)))
theorem d96 : FnD Try.prog 96 1 15 [.tmp 2] c96 := ⟨Try.f96, _, Try.func96, by kernel_rfl, rfl, rfl, by kernel_rfl, by kernel_rfl⟩

/-- strings.Repeat -/
def c97 : ACode :=
 (.seq (.reg [⟨some 4, none, .mv (.c (.str []))⟩])
 (.seq (.seq (.reg [⟨some 11, none, .mv (.t 1)⟩])
 (.block 0
 (.seq (.reg [⟨some 13, none, .bini .eql (.t 11) (.c (.int .i64 0))⟩,
  ⟨some 12, none, .mv (.t 13)⟩])
 (.cond (.t 12)
 (.seq (.reg [⟨some 4, none, .mv (.c (.str []))⟩])
 .ret)
 (.seq (.reg [⟨some 15, none, .bini .eql (.t 11) (.c (.int .i64 1))⟩,
  ⟨some 14, none, .mv (.t 15)⟩])
 (.cond (.t 14)
 (.seq (.reg [⟨some 16, none, .mv (.t 0)⟩,
  ⟨some 4, none, .mv (.t 16)⟩])
 .ret)
 .skip))))))
 (.seq (.seq (.reg [⟨some 17, none, .mv (.t 1)⟩,
  ⟨some 18, none, .bini .lss (.t 17) (.c (.int .i64 0))⟩])
 (.cond (.t 18)
 (.reg [⟨some 19, none, .bad⟩,
  ⟨none, none, .bad⟩])
 .skip))
 (.seq (.reg [⟨some 21, none, .mv (.t 0)⟩,
  ⟨some 22, none, .len true (.t 21)⟩,
  ⟨some 23, none, .convi .u64 (.t 22)⟩,
  ⟨some 24, none, .mv (.t 1)⟩,
  ⟨some 25, none, .convi .u64 (.t 24)⟩,
  ⟨some 26, none, .call 101 [(.t 23), (.t 25)]⟩,
  ⟨some 20, none, .mv (.t 26)⟩,
  ⟨some 27, none, .ext (.t 20) 0⟩,
  ⟨some 28, none, .ext (.t 20) 1⟩,
  ⟨some 5, none, .mv (.t 27)⟩,
  ⟨some 6, none, .mv (.t 28)⟩])
 (.seq (.seq (.reg [⟨some 29, none, .mv (.t 5)⟩,
  ⟨some 30, none, .bini .gtr (.t 29) (.c (.int .u64 0))⟩,
  ⟨some 31, none, .mv (.t 30)⟩,
  ⟨some 32, (some (31, false)), .mv (.t 6)⟩,
  ⟨some 33, (some (31, false)), .bini .gtr (.t 32) (.c (.int .u64 9223372036854775807))⟩,
  ⟨some 34, none, .pick (.t 31) (.c (.bool true)) (.t 33)⟩])
 (.cond (.t 34)
 (.reg [⟨some 35, none, .bad⟩,
  ⟨none, none, .bad⟩])
 .skip))
 (.seq (.reg [⟨some 36, none, .mv (.t 6)⟩,
  ⟨some 37, none, .convi .i64 (.t 36)⟩,
  ⟨some 7, none, .mv (.t 37)⟩])
 (.seq (.seq (.reg [⟨some 38, none, .mv (.t 0)⟩,
  ⟨some 39, none, .len true (.t 38)⟩,
  ⟨some 40, none, .bini .eql (.t 39) (.c (.int .i64 0))⟩])
 (.cond (.t 40)
 (.seq (.reg [⟨some 4, none, .mv (.c (.str []))⟩])
 .ret)
 .skip))
 (.seq (.seq (.reg [⟨some 41, none, .mv (.t 0)⟩,
  ⟨some 42, none, .indexs (.t 41) (.c (.int .i64 0))⟩])
 (.block 1
 (.seq (.seq (.reg [⟨some 44, none, .bini .eql (.t 42) (.c (.int .u8 32))⟩,
  ⟨some 43, none, .mv (.t 44)⟩])
 (.cond (.t 43)
 .skip
 (.seq (.reg [⟨some 45, none, .bini .eql (.t 42) (.c (.int .u8 45))⟩,
  ⟨some 43, none, .mv (.t 45)⟩])
 (.cond (.t 43)
 .skip
 (.seq (.reg [⟨some 46, none, .bini .eql (.t 42) (.c (.int .u8 48))⟩,
  ⟨some 43, none, .mv (.t 46)⟩])
 (.cond (.t 43)
 .skip
 (.seq (.reg [⟨some 47, none, .bini .eql (.t 42) (.c (.int .u8 61))⟩,
  ⟨some 43, none, .mv (.t 47)⟩])
 (.cond (.t 43)
 .skip
 (.reg [⟨some 48, none, .bini .eql (.t 42) (.c (.int .u8 9))⟩,
  ⟨some 43, none, .mv (.t 48)⟩])))))))))
 (.cond (.t 43)
 (.block 2
 (.seq (.reg [⟨some 50, none, .mv (.t 7)⟩,
  ⟨some 51, none, .bini .leq (.t 50) (.c (.int .i64 128))⟩,
  ⟨some 52, none, .mv (.t 51)⟩,
  ⟨some 53, (some (52, true)), .mv (.t 0)⟩,
  ⟨some 54, (some (52, true)), .call 102 [(.c (.str [32, 32, 32, 32, 32, 32, 32, 32, 32, 32, 32, 32, 32, 32, 32, 32, 32, 32, 32, 32, 32, 32, 32, 32, 32, 32, 32, 32, 32, 32, 32, 32, 32, 32, 32, 32, 32, 32, 32, 32, 32, 32, 32, 32, 32, 32, 32, 32, 32, 32, 32, 32, 32, 32, 32, 32, 32, 32, 32, 32, 32, 32, 32, 32, 32, 32, 32, 32, 32, 32, 32, 32, 32, 32, 32, 32, 32, 32, 32, 32, 32, 32, 32, 32, 32, 32, 32, 32, 32, 32, 32, 32, 32, 32, 32, 32, 32, 32, 32, 32, 32, 32, 32, 32, 32, 32, 32, 32, 32, 32, 32, 32, 32, 32, 32, 32, 32, 32, 32, 32, 32, 32, 32, 32, 32, 32, 32, 32])), (.t 53)]⟩,
  ⟨some 55, none, .pick (.t 52) (.t 54) (.c (.bool false))⟩,
  ⟨some 49, none, .mv (.t 55)⟩])
 (.cond (.t 49)
 (.seq (.reg [⟨some 56, none, .mv (.t 7)⟩,
  ⟨some 57, none, .slices (.c (.str [32, 32, 32, 32, 32, 32, 32, 32, 32, 32, 32, 32, 32, 32, 32, 32, 32, 32, 32, 32, 32, 32, 32, 32, 32, 32, 32, 32, 32, 32, 32, 32, 32, 32, 32, 32, 32, 32, 32, 32, 32, 32, 32, 32, 32, 32, 32, 32, 32, 32, 32, 32, 32, 32, 32, 32, 32, 32, 32, 32, 32, 32, 32, 32, 32, 32, 32, 32, 32, 32, 32, 32, 32, 32, 32, 32, 32, 32, 32, 32, 32, 32, 32, 32, 32, 32, 32, 32, 32, 32, 32, 32, 32, 32, 32, 32, 32, 32, 32, 32, 32, 32, 32, 32, 32, 32, 32, 32, 32, 32, 32, 32, 32, 32, 32, 32, 32, 32, 32, 32, 32, 32, 32, 32, 32, 32, 32, 32])) none (some (.t 56))⟩,
  ⟨some 4, none, .mv (.t 57)⟩])
 .ret)
 (.seq (.reg [⟨some 59, none, .mv (.t 7)⟩,
  ⟨some 60, none, .bini .leq (.t 59) (.c (.int .i64 128))⟩,
  ⟨some 61, none, .mv (.t 60)⟩,
  ⟨some 62, (some (61, true)), .mv (.t 0)⟩,
  ⟨some 63, (some (61, true)), .call 102 [(.c (.str [45, 45, 45, 45, 45, 45, 45, 45, 45, 45, 45, 45, 45, 45, 45, 45, 45, 45, 45, 45, 45, 45, 45, 45, 45, 45, 45, 45, 45, 45, 45, 45, 45, 45, 45, 45, 45, 45, 45, 45, 45, 45, 45, 45, 45, 45, 45, 45, 45, 45, 45, 45, 45, 45, 45, 45, 45, 45, 45, 45, 45, 45, 45, 45, 45, 45, 45, 45, 45, 45, 45, 45, 45, 45, 45, 45, 45, 45, 45, 45, 45, 45, 45, 45, 45, 45, 45, 45, 45, 45, 45, 45, 45, 45, 45, 45, 45, 45, 45, 45, 45, 45, 45, 45, 45, 45, 45, 45, 45, 45, 45, 45, 45, 45, 45, 45, 45, 45, 45, 45, 45, 45, 45, 45, 45, 45, 45, 45])), (.t 62)]⟩,
  ⟨some 64, none, .pick (.t 61) (.t 63) (.c (.bool false))⟩,
  ⟨some 58, none, .mv (.t 64)⟩])
 (.cond (.t 58)
 (.seq (.reg [⟨some 65, none, .mv (.t 7)⟩,
  ⟨some 66, none, .slices (.c (.str [45, 45, 45, 45, 45, 45, 45, 45, 45, 45, 45, 45, 45, 45, 45, 45, 45, 45, 45, 45, 45, 45, 45, 45, 45, 45, 45, 45, 45, 45, 45, 45, 45, 45, 45, 45, 45, 45, 45, 45, 45, 45, 45, 45, 45, 45, 45, 45, 45, 45, 45, 45, 45, 45, 45, 45, 45, 45, 45, 45, 45, 45, 45, 45, 45, 45, 45, 45, 45, 45, 45, 45, 45, 45, 45, 45, 45, 45, 45, 45, 45, 45, 45, 45, 45, 45, 45, 45, 45, 45, 45, 45, 45, 45, 45, 45, 45, 45, 45, 45, 45, 45, 45, 45, 45, 45, 45, 45, 45, 45, 45, 45, 45, 45, 45, 45, 45, 45, 45, 45, 45, 45, 45, 45, 45, 45, 45, 45])) none (some (.t 65))⟩,
  ⟨some 4, none, .mv (.t 66)⟩])
 .ret)
 (.seq (.reg [⟨some 68, none, .mv (.t 7)⟩,
  ⟨some 69, none, .bini .leq (.t 68) (.c (.int .i64 64))⟩,
  ⟨some 70, none, .mv (.t 69)⟩,
  ⟨some 71, (some (70, true)), .mv (.t 0)⟩,
  ⟨some 72, (some (70, true)), .call 102 [(.c (.str [48, 48, 48, 48, 48, 48, 48, 48, 48, 48, 48, 48, 48, 48, 48, 48, 48, 48, 48, 48, 48, 48, 48, 48, 48, 48, 48, 48, 48, 48, 48, 48, 48, 48, 48, 48, 48, 48, 48, 48, 48, 48, 48, 48, 48, 48, 48, 48, 48, 48, 48, 48, 48, 48, 48, 48, 48, 48, 48, 48, 48, 48, 48, 48])), (.t 71)]⟩,
  ⟨some 73, none, .pick (.t 70) (.t 72) (.c (.bool false))⟩,
  ⟨some 67, none, .mv (.t 73)⟩])
 (.cond (.t 67)
 (.seq (.reg [⟨some 74, none, .mv (.t 7)⟩,
  ⟨some 75, none, .slices (.c (.str [48, 48, 48, 48, 48, 48, 48, 48, 48, 48, 48, 48, 48, 48, 48, 48, 48, 48, 48, 48, 48, 48, 48, 48, 48, 48, 48, 48, 48, 48, 48, 48, 48, 48, 48, 48, 48, 48, 48, 48, 48, 48, 48, 48, 48, 48, 48, 48, 48, 48, 48, 48, 48, 48, 48, 48, 48, 48, 48, 48, 48, 48, 48, 48])) none (some (.t 74))⟩,
  ⟨some 4, none, .mv (.t 75)⟩])
 .ret)
 (.seq (.reg [⟨some 77, none, .mv (.t 7)⟩,
  ⟨some 78, none, .bini .leq (.t 77) (.c (.int .i64 128))⟩,
  ⟨some 79, none, .mv (.t 78)⟩,
  ⟨some 80, (some (79, true)), .mv (.t 0)⟩,
  ⟨some 81, (some (79, true)), .call 102 [(.c (.str [61, 61, 61, 61, 61, 61, 61, 61, 61, 61, 61, 61, 61, 61, 61, 61, 61, 61, 61, 61, 61, 61, 61, 61, 61, 61, 61, 61, 61, 61, 61, 61, 61, 61, 61, 61, 61, 61, 61, 61, 61, 61, 61, 61, 61, 61, 61, 61, 61, 61, 61, 61, 61, 61, 61, 61, 61, 61, 61, 61, 61, 61, 61, 61, 61, 61, 61, 61, 61, 61, 61, 61, 61, 61, 61, 61, 61, 61, 61, 61, 61, 61, 61, 61, 61, 61, 61, 61, 61, 61, 61, 61, 61, 61, 61, 61, 61, 61, 61, 61, 61, 61, 61, 61, 61, 61, 61, 61, 61, 61, 61, 61, 61, 61, 61, 61, 61, 61, 61, 61, 61, 61, 61, 61, 61, 61, 61, 61])), (.t 80)]⟩,
  ⟨some 82, none, .pick (.t 79) (.t 81) (.c (.bool false))⟩,
  ⟨some 76, none, .mv (.t 82)⟩])
 (.cond (.t 76)
 (.seq (.reg [⟨some 83, none, .mv (.t 7)⟩,
  ⟨some 84, none, .slices (.c (.str [61, 61, 61, 61, 61, 61, 61, 61, 61, 61, 61, 61, 61, 61, 61, 61, 61, 61, 61, 61, 61, 61, 61, 61, 61, 61, 61, 61, 61, 61, 61, 61, 61, 61, 61, 61, 61, 61, 61, 61, 61, 61, 61, 61, 61, 61, 61, 61, 61, 61, 61, 61, 61, 61, 61, 61, 61, 61, 61, 61, 61, 61, 61, 61, 61, 61, 61, 61, 61, 61, 61, 61, 61, 61, 61, 61, 61, 61, 61, 61, 61, 61, 61, 61, 61, 61, 61, 61, 61, 61, 61, 61, 61, 61, 61, 61, 61, 61, 61, 61, 61, 61, 61, 61, 61, 61, 61, 61, 61, 61, 61, 61, 61, 61, 61, 61, 61, 61, 61, 61, 61, 61, 61, 61, 61, 61, 61, 61])) none (some (.t 83))⟩,
  ⟨some 4, none, .mv (.t 84)⟩])
 .ret)
 (.seq (.reg [⟨some 86, none, .mv (.t 7)⟩,
  ⟨some 87, none, .bini .leq (.t 86) (.c (.int .i64 64))⟩,
  ⟨some 88, none, .mv (.t 87)⟩,
  ⟨some 89, (some (88, true)), .mv (.t 0)⟩,
  ⟨some 90, (some (88, true)), .call 102 [(.c (.str [9, 9, 9, 9, 9, 9, 9, 9, 9, 9, 9, 9, 9, 9, 9, 9, 9, 9, 9, 9, 9, 9, 9, 9, 9, 9, 9, 9, 9, 9, 9, 9, 9, 9, 9, 9, 9, 9, 9, 9, 9, 9, 9, 9, 9, 9, 9, 9, 9, 9, 9, 9, 9, 9, 9, 9, 9, 9, 9, 9, 9, 9, 9, 9])), (.t 89)]⟩,
  ⟨some 91, none, .pick (.t 88) (.t 90) (.c (.bool false))⟩,
  ⟨some 85, none, .mv (.t 91)⟩])
 (.cond (.t 85)
 (.seq (.reg [⟨some 92, none, .mv (.t 7)⟩,
  ⟨some 93, none, .slices (.c (.str [9, 9, 9, 9, 9, 9, 9, 9, 9, 9, 9, 9, 9, 9, 9, 9, 9, 9, 9, 9, 9, 9, 9, 9, 9, 9, 9, 9, 9, 9, 9, 9, 9, 9, 9, 9, 9, 9, 9, 9, 9, 9, 9, 9, 9, 9, 9, 9, 9, 9, 9, 9, 9, 9, 9, 9, 9, 9, 9, 9, 9, 9, 9, 9])) none (some (.t 92))⟩,
  ⟨some 4, none, .mv (.t 93)⟩])
 .ret)
 .skip)))))))))))
 .skip))))
 (.seq (.reg [⟨some 94, none, .mv (.t 7)⟩,
  ⟨some 8, none, .mv (.t 94)⟩])
 (.seq (.seq (.reg [⟨some 95, none, .mv (.t 7)⟩,
  ⟨some 96, none, .bini .gtr (.t 95) (.c (.int .i64 8192))⟩])
 (.cond (.t 96)
 (.seq (.reg [⟨some 97, none, .mv (.t 0)⟩,
  ⟨some 98, none, .len true (.t 97)⟩,
  ⟨some 99, none, .bini .quo (.c (.int .i64 8192)) (.t 98)⟩,
  ⟨some 100, none, .mv (.t 0)⟩,
  ⟨some 101, none, .len true (.t 100)⟩,
  ⟨some 102, none, .bini .mul (.t 99) (.t 101)⟩,
  ⟨some 8, none, .mv (.t 102)⟩])
 (.seq (.reg [⟨some 103, none, .mv (.t 8)⟩,
  ⟨some 104, none, .bini .eql (.t 103) (.c (.int .i64 0))⟩])
 (.cond (.t 104)
 (.reg [⟨some 105, none, .mv (.t 0)⟩,
  ⟨some 106, none, .len true (.t 105)⟩,
  ⟨some 8, none, .mv (.t 106)⟩])
 .skip)))
 .skip))
 (.seq (.reg [⟨some 9, none, .alloc [.nilp, .emp]⟩])
 (.seq (.reg [⟨some 107, none, .mv (.t 7)⟩,
  ⟨some 108, none, .call 89 [(.t 9), (.t 107)]⟩])
 (.seq (.reg [⟨some 109, none, .mv (.t 0)⟩,
  ⟨some 110, none, .call 90 [(.t 9), (.t 109)]⟩])
 (.seq (.block 3
 (.loop
 (.seq (.seq (.reg [⟨some 111, none, .call 103 [(.t 9)]⟩,
  ⟨some 112, none, .mv (.t 7)⟩,
  ⟨some 113, none, .bini .lss (.t 111) (.t 112)⟩])
 (.cond (.t 113)
 .skip
 (.exit 3)))
 (.block 4
 (.seq (.reg [⟨some 114, none, .mv (.t 7)⟩,
  ⟨some 115, none, .call 103 [(.t 9)]⟩,
  ⟨some 116, none, .bini .sub (.t 114) (.t 115)⟩,
  ⟨some 117, none, .call 103 [(.t 9)]⟩,
  ⟨some 118, none, .mv (.t 8)⟩,
  ⟨some 119, none, .bad⟩,
  ⟨some 10, none, .mv (.t 119)⟩])
 (.reg [⟨some 120, none, .call 91 [(.t 9)]⟩,
  ⟨some 121, none, .mv (.t 10)⟩,
  ⟨some 122, none, .slices (.t 120) none (some (.t 121))⟩,
  ⟨some 123, none, .call 90 [(.t 9), (.t 122)]⟩]))))))
 (.seq (.reg [⟨some 124, none, .call 91 [(.t 9)]⟩,
  ⟨some 4, none, .mv (.t 124)⟩])
 .ret)))))))))))))))
-- not all of it is covered: builtin min; op makeInterface; op panic

/-- (*strings.Builder).copyCheck -/
def c98 : ACode :=
 (.seq (.reg [⟨some 2, none, .mv (.t 0)⟩,
  ⟨some 3, none, .nilchk (.t 2)⟩,
  ⟨some 4, none, .faddr 0 (.t 3)⟩,
  ⟨some 5, none, .load false 1 (.t 4)⟩,
  ⟨some 6, none, .bad⟩])
 (.cond (.t 6)
 (.reg [⟨some 7, none, .mv (.t 0)⟩,
  ⟨some 8, none, .mv (.t 0)⟩,
  ⟨some 9, none, .bad⟩,
  ⟨some 10, none, .call 104 [(.t 9)]⟩,
  ⟨some 11, none, .bad⟩,
  ⟨some 12, none, .nilchk (.t 7)⟩,
  ⟨some 13, none, .faddr 0 (.t 12)⟩,
  ⟨none, none, .store 1 (.t 13) (.t 11)⟩])
 (.seq (.reg [⟨some 14, none, .mv (.t 0)⟩,
  ⟨some 15, none, .nilchk (.t 14)⟩,
  ⟨some 16, none, .faddr 0 (.t 15)⟩,
  ⟨some 17, none, .load false 1 (.t 16)⟩,
  ⟨some 18, none, .mv (.t 0)⟩,
  ⟨some 19, none, .bad⟩])
 (.cond (.t 19)
 .bad
 .skip))))
-- not all of it is covered: binOp eql pointer; binOp neq pointer; code refuse; convert pointer unsafePointer; convert unsafePointer pointer

end Go.Proofs.Ytemjlopoffjmpaa.Abs
set_option linter.unusedSimpArgs false
set_option linter.unusedVariables false
namespace Go.Proofs.Ytemjlopoffjmpaa.Abs
open Go Go.Proofs

/-- Free: a place that is free, or none. -/
theorem free_spec (s : List Node) (hs : s.length ≤ 1000000) (H : AH) :
    C Try.prog 48 [aset s] H (fun x H' => H' = H ∧ ((∃ i : Nat, i < s.length ∧ (s.getD i default).kind = 0 ∧ x = .tuple [.int .i64 i, .bool true]) ∨ x = .tuple [.int .i64 0, .bool false])) := by
  refine C_body d48 rfl (WT_ok ?_)
  unfold c48
  simp only [aset, wk, iaddrV_map, emb, unAgg, ares, aresL, ares1, tupled, forall_const, Nat.reduceAdd, Nat.reduceSub, Nat.reduceMul, Nat.reduceLeDiff, Nat.reduceEqDiff, Nat.reduceBEq, Int.reduceLE, Int.reduceLT, Int.reduceEq, Int.reduceNe, Int.reduceAdd, Int.reduceSub, Int.reduceToNat, Int.reduceNeg, ↓reduceIte, reduceCtorEq, cellsOf, cellA, lay, fillA]
  refine WT_loop (W_loop (fun n fr H' => ∃ i : Nat, i ≤ s.length ∧ n = s.length - i ∧ H' = H ∧ fr = [.fz (s.map pnode), .top, .int .i64 0, .bool false, .int .i64 i, .top, .top, .top, .top, .top, .top, .top, .top, .top, .top, .top, .top, .top]) s.length ⟨0, by omega, rfl, rfl, rfl⟩ ?_)
  rintro n fr H' ⟨i, hi, rfl, rfl, rfl⟩
  refine WT_ok ?_
  simp only [wk, iaddrV_map, emb, unAgg, ares, aresL, ares1, tupled, forall_const, Nat.reduceAdd, Nat.reduceSub, Nat.reduceMul, Nat.reduceLeDiff, Nat.reduceEqDiff, Nat.reduceBEq, Int.reduceLE, Int.reduceLT, Int.reduceEq, Int.reduceNe, Int.reduceAdd, Int.reduceSub, Int.reduceToNat, Int.reduceNeg, ↓reduceIte, reduceCtorEq, cellsOf, cellA, lay, fillA]
  refine guard_both ?_ ?_ <;> intro h <;> simp only [hy] at h <;> simp only [h, wk, iaddrV_map, emb, unAgg, ares, aresL, ares1, tupled, forall_const, Nat.reduceAdd, Nat.reduceSub, Nat.reduceMul, Nat.reduceLeDiff, Nat.reduceEqDiff, Nat.reduceBEq, Int.reduceLE, Int.reduceLT, Int.reduceEq, Int.reduceNe, Int.reduceAdd, Int.reduceSub, Int.reduceToNat, Int.reduceNeg, ↓reduceIte, reduceCtorEq, cellsOf, cellA, lay, fillA]
  · have hil : i < s.length := by omega
    refine ⟨⟨by omega, rfl⟩, ?_⟩
    simp only [pnode, wk, iaddrV_map, emb, unAgg, ares, aresL, ares1, tupled, forall_const, Nat.reduceAdd, Nat.reduceSub, Nat.reduceMul, Nat.reduceLeDiff, Nat.reduceEqDiff, Nat.reduceBEq, Int.reduceLE, Int.reduceLT, Int.reduceEq, Int.reduceNe, Int.reduceAdd, Int.reduceSub, Int.reduceToNat, Int.reduceNeg, ↓reduceIte, reduceCtorEq, cellsOf, cellA, lay, fillA]
    have w2 : IntKind.i64.wrap ((i : Int) + 1) = (i : Int) + 1 := IntWalk.i64_in _ (by omega)
    refine guard_both ?_ ?_ <;> intro h2 <;> simp only [hy] at h2 <;> simp only [h2, w2, wk, iaddrV_map, emb, unAgg, ares, aresL, ares1, tupled, forall_const, Nat.reduceAdd, Nat.reduceSub, Nat.reduceMul, Nat.reduceLeDiff, Nat.reduceEqDiff, Nat.reduceBEq, Int.reduceLE, Int.reduceLT, Int.reduceEq, Int.reduceNe, Int.reduceAdd, Int.reduceSub, Int.reduceToNat, Int.reduceNeg, ↓reduceIte, reduceCtorEq, cellsOf, cellA, lay, fillA]
    · exact .inl ⟨i, hil, h2, rfl⟩
    · refine QLoop_go (n' := s.length - (i + 1)) (by omega) ⟨i + 1, by omega, rfl, rfl, rfl⟩ ?_
      simp only [Tops_top, Tops_same, Tops_nil, Int.natCast_add, Int.natCast_one]
  · exact .inr trivial

theorem lost_spec (s : List Node) (hs : s.length ≤ 1000000) (H : AH) : C Try.prog 88 [aset s] H (fun x H' => x = .bool (s.any fun x => decide (x.kind = 3)) ∧ H' = H) := by
  refine C_body d88 rfl (WT_ok ?_)
  unfold c88
  simp only [aset, wk, iaddrV_map, emb, unAgg, ares, aresL, ares1, tupled, forall_const, Nat.reduceAdd, Nat.reduceSub, Nat.reduceMul, Nat.reduceLeDiff, Nat.reduceEqDiff, Nat.reduceBEq, Int.reduceLE, Int.reduceLT, Int.reduceEq, Int.reduceNe, Int.reduceAdd, Int.reduceSub, Int.reduceToNat, Int.reduceNeg, ↓reduceIte, reduceCtorEq, cellsOf, cellA, lay, fillA]
  refine WT_loop (W_loop (fun n fr H' => ∃ i : Nat, i ≤ s.length ∧ n = s.length - i ∧ H' = H ∧ ((s.take i).any fun x => decide (x.kind = 3)) = false ∧ fr = [.fz (s.map pnode), .top, .bool false, .int .i64 i, .top, .top, .top, .top, .top, .top, .top, .top, .top, .top, .top, .top]) s.length ⟨0, by omega, rfl, rfl, rfl, rfl⟩ ?_)
  rintro n fr H' ⟨i, hi, rfl, rfl, hno, rfl⟩
  refine WT_ok ?_
  simp only [wk, iaddrV_map, emb, unAgg, ares, aresL, ares1, tupled, forall_const, Nat.reduceAdd, Nat.reduceSub, Nat.reduceMul, Nat.reduceLeDiff, Nat.reduceEqDiff, Nat.reduceBEq, Int.reduceLE, Int.reduceLT, Int.reduceEq, Int.reduceNe, Int.reduceAdd, Int.reduceSub, Int.reduceToNat, Int.reduceNeg, ↓reduceIte, reduceCtorEq, cellsOf, cellA, lay, fillA]
  refine guard_both ?_ ?_ <;> intro h <;> simp only [hy] at h <;> simp only [h, wk, iaddrV_map, emb, unAgg, ares, aresL, ares1, tupled, forall_const, Nat.reduceAdd, Nat.reduceSub, Nat.reduceMul, Nat.reduceLeDiff, Nat.reduceEqDiff, Nat.reduceBEq, Int.reduceLE, Int.reduceLT, Int.reduceEq, Int.reduceNe, Int.reduceAdd, Int.reduceSub, Int.reduceToNat, Int.reduceNeg, ↓reduceIte, reduceCtorEq, cellsOf, cellA, lay, fillA]
  · have hil : i < s.length := by omega
    refine ⟨⟨by omega, rfl⟩, ?_⟩
    simp only [pnode, wk, iaddrV_map, emb, unAgg, ares, aresL, ares1, tupled, forall_const, Nat.reduceAdd, Nat.reduceSub, Nat.reduceMul, Nat.reduceLeDiff, Nat.reduceEqDiff, Nat.reduceBEq, Int.reduceLE, Int.reduceLT, Int.reduceEq, Int.reduceNe, Int.reduceAdd, Int.reduceSub, Int.reduceToNat, Int.reduceNeg, ↓reduceIte, reduceCtorEq, cellsOf, cellA, lay, fillA]
    have w2 : IntKind.i64.wrap ((i : Int) + 1) = (i : Int) + 1 := IntWalk.i64_in _ (by omega)
    refine guard_both ?_ ?_ <;> intro h2 <;> simp only [hy] at h2 <;> simp only [h2, w2, wk, iaddrV_map, emb, unAgg, ares, aresL, ares1, tupled, forall_const, Nat.reduceAdd, Nat.reduceSub, Nat.reduceMul, Nat.reduceLeDiff, Nat.reduceEqDiff, Nat.reduceBEq, Int.reduceLE, Int.reduceLT, Int.reduceEq, Int.reduceNe, Int.reduceAdd, Int.reduceSub, Int.reduceToNat, Int.reduceNeg, ↓reduceIte, reduceCtorEq, cellsOf, cellA, lay, fillA]
    · have : (s.any fun x => decide (x.kind = 3)) = true := by
        rw [List.any_eq_true]
        refine ⟨s.getD i default, ?_, by simpa using h2⟩
        rw [List.getD_eq_getElem?_getD, List.getElem?_eq_getElem hil]
        exact List.getElem_mem _
      rw [this]
    · refine QLoop_go (n' := s.length - (i + 1)) (by omega) ⟨i + 1, by omega, rfl, rfl, ?_, rfl⟩ ?_
      · rw [List.take_add_one, List.getElem?_eq_getElem hil, List.any_append, hno]
        rw [List.getD_eq_getElem?_getD, List.getElem?_eq_getElem hil] at h2
        simpa using h2
      · simp only [Tops_top, Tops_same, Tops_nil, Int.natCast_add, Int.natCast_one]
  · have : i = s.length := by omega
    subst this
    rw [List.take_length] at hno
    rw [hno]
end Go.Proofs.Ytemjlopoffjmpaa.Abs
/-
  The code of some functions in the abstract layer's form, each checked against the program's own. Written by gen.py.
-/
namespace Go.Proofs.Ytemjlopoffjmpaa.Abs
open Go

/-- palimp/dset.Clone -/
def c27 : ACode :=
 (.seq (.reg [⟨some 6, none, .mv (.c (.emp))⟩,
  ⟨some 7, none, .mv (.c (.int .i64 0))⟩])
 (.seq (.reg [⟨some 11, none, .mv (.t 0)⟩,
  ⟨some 12, none, .mv (.t 2)⟩,
  ⟨some 13, none, .call 42 [(.t 11), (.t 12)]⟩,
  ⟨some 10, none, .mv (.t 13)⟩,
  ⟨some 14, none, .ext (.t 10) 0⟩,
  ⟨some 15, none, .ext (.t 10) 1⟩,
  ⟨some 8, none, .alloc [.int .i64 0, .int .i64 0, .int .i64 0, .int .i64 0, .emp]⟩,
  ⟨none, none, .store 5 (.t 8) (.t 14)⟩,
  ⟨some 9, none, .mv (.t 15)⟩])
 (.seq (.block 0
 (.seq (.reg [⟨some 17, none, .mv (.t 9)⟩,
  ⟨some 18, none, .un .not (.t 17)⟩,
  ⟨some 16, none, .mv (.t 18)⟩])
 (.cond (.t 16)
 (.seq (.reg [⟨some 19, none, .mv (.t 0)⟩,
  ⟨some 20, none, .call 59 [(.t 19)]⟩,
  ⟨some 6, none, .mv (.t 20)⟩,
  ⟨some 7, none, .mv (.c (.int .i64 2))⟩])
 .ret)
 (.seq (.reg [⟨some 22, none, .faddr 1 (.t 8)⟩,
  ⟨some 23, none, .load false 1 (.t 22)⟩,
  ⟨some 24, none, .bini .neq (.t 23) (.c (.int .i64 2))⟩,
  ⟨some 21, none, .mv (.t 24)⟩])
 (.cond (.t 21)
 (.seq (.reg [⟨some 25, none, .mv (.t 0)⟩,
  ⟨some 26, none, .call 59 [(.t 25)]⟩,
  ⟨some 6, none, .mv (.t 26)⟩,
  ⟨some 7, none, .mv (.c (.int .i64 1))⟩])
 .ret)
 .skip)))))
 (.seq (.reg [⟨some 27, none, .mv (.t 0)⟩,
  ⟨some 28, none, .mv (.t 1)⟩,
  ⟨some 29, none, .mv (.t 2)⟩,
  ⟨some 30, none, .faddr 4 (.t 8)⟩,
  ⟨some 31, none, .load false 1 (.t 30)⟩,
  ⟨some 32, none, .build [.int .i64 0, .int .i64 0, .int .i64 0, .int .i64 0, .emp] [(1, 1, (.c (.int .i64 1))), (2, 1, (.t 29)), (4, 1, (.t 31))]⟩,
  ⟨some 33, none, .call 60 [(.t 27), (.t 28), (.t 32)]⟩,
  ⟨some 34, none, .ext (.t 33) 0⟩,
  ⟨some 35, none, .ext (.t 33) 1⟩,
  ⟨some 6, none, .mv (.t 34)⟩,
  ⟨some 7, none, .mv (.t 35)⟩])
 .ret))))
theorem d27 : FnD Try.prog 27 3 33 [.tmp 6, .tmp 7] c27 := ⟨Try.f27, _, Try.func27, by kernel_rfl, rfl, rfl, by kernel_rfl, by kernel_rfl⟩

/-- palimp/dset.Promote -/
def c28 : ACode :=
 (.seq (.reg [⟨some 4, none, .mv (.c (.emp))⟩,
  ⟨some 5, none, .mv (.c (.int .i64 0))⟩])
 (.seq (.reg [⟨some 14, none, .mv (.t 0)⟩,
  ⟨some 15, none, .call 59 [(.t 14)]⟩,
  ⟨some 6, none, .mv (.t 15)⟩])
 (.seq (.reg [⟨some 16, none, .mv (.t 6)⟩,
  ⟨some 7, none, .mv (.t 16)⟩])
 (.seq (.reg [⟨some 17, none, .mv (.t 7)⟩,
  ⟨some 18, none, .mv (.t 1)⟩,
  ⟨some 19, none, .call 62 [(.t 17), (.t 18)]⟩,
  ⟨some 8, none, .mv (.t 19)⟩])
 (.seq (.block 0
 (.seq (.reg [⟨some 21, none, .mv (.t 8)⟩,
  ⟨some 22, none, .bini .lss (.t 21) (.c (.int .i64 0))⟩,
  ⟨some 20, none, .mv (.t 22)⟩])
 (.cond (.t 20)
 (.seq (.reg [⟨some 23, none, .mv (.t 6)⟩,
  ⟨some 4, none, .mv (.t 23)⟩,
  ⟨some 5, none, .mv (.c (.int .i64 2))⟩])
 .ret)
 (.seq (.reg [⟨some 25, none, .mv (.t 7)⟩,
  ⟨some 26, none, .mv (.t 8)⟩,
  ⟨some 27, none, .iaddr 5 (.t 25) (.t 26)⟩,
  ⟨some 28, none, .faddr 1 (.t 27)⟩,
  ⟨some 29, none, .load false 1 (.t 28)⟩,
  ⟨some 30, none, .bini .neq (.t 29) (.c (.int .i64 1))⟩,
  ⟨some 31, none, .mv (.t 30)⟩,
  ⟨some 32, (some (31, false)), .mv (.t 7)⟩,
  ⟨some 33, (some (31, false)), .mv (.t 8)⟩,
  ⟨some 34, (some (31, false)), .iaddr 5 (.t 32) (.t 33)⟩,
  ⟨some 35, (some (31, false)), .faddr 2 (.t 34)⟩,
  ⟨some 36, (some (31, false)), .load false 1 (.t 35)⟩,
  ⟨some 37, (some (31, false)), .bini .eql (.t 36) (.c (.int .i64 0))⟩,
  ⟨some 38, none, .pick (.t 31) (.c (.bool true)) (.t 37)⟩,
  ⟨some 24, none, .mv (.t 38)⟩])
 (.cond (.t 24)
 (.seq (.reg [⟨some 39, none, .mv (.t 6)⟩,
  ⟨some 4, none, .mv (.t 39)⟩,
  ⟨some 5, none, .mv (.c (.int .i64 1))⟩])
 .ret)
 .skip)))))
 (.seq (.reg [⟨some 40, none, .mv (.t 7)⟩,
  ⟨some 41, none, .mv (.t 7)⟩,
  ⟨some 42, none, .mv (.t 8)⟩,
  ⟨some 43, none, .iaddr 5 (.t 41) (.t 42)⟩,
  ⟨some 44, none, .faddr 2 (.t 43)⟩,
  ⟨some 45, none, .load false 1 (.t 44)⟩,
  ⟨some 46, none, .call 62 [(.t 40), (.t 45)]⟩,
  ⟨some 9, none, .mv (.t 46)⟩])
 (.seq (.seq (.reg [⟨some 47, none, .mv (.t 9)⟩,
  ⟨some 48, none, .bini .lss (.t 47) (.c (.int .i64 0))⟩,
  ⟨some 49, none, .mv (.t 48)⟩,
  ⟨some 50, (some (49, false)), .mv (.t 7)⟩,
  ⟨some 51, (some (49, false)), .mv (.t 7)⟩,
  ⟨some 52, (some (49, false)), .mv (.t 9)⟩,
  ⟨some 53, (some (49, false)), .iaddr 5 (.t 51) (.t 52)⟩,
  ⟨some 54, (some (49, false)), .faddr 2 (.t 53)⟩,
  ⟨some 55, (some (49, false)), .load false 1 (.t 54)⟩,
  ⟨some 56, (some (49, false)), .call 63 [(.t 50), (.t 55), (.c (.int .i64 1))]⟩,
  ⟨some 57, (some (49, false)), .un .not (.t 56)⟩,
  ⟨some 58, none, .pick (.t 49) (.c (.bool true)) (.t 57)⟩])
 (.cond (.t 58)
 (.seq (.reg [⟨some 59, none, .mv (.t 6)⟩,
  ⟨some 4, none, .mv (.t 59)⟩,
  ⟨some 5, none, .mv (.c (.int .i64 1))⟩])
 .ret)
 .skip))
 (.seq (.reg [⟨some 60, none, .mv (.t 7)⟩,
  ⟨some 61, none, .mv (.t 9)⟩,
  ⟨some 62, none, .iaddr 5 (.t 60) (.t 61)⟩,
  ⟨some 63, none, .faddr 2 (.t 62)⟩,
  ⟨some 64, none, .load false 1 (.t 63)⟩,
  ⟨some 10, none, .mv (.t 64)⟩])
 (.seq (.reg [⟨some 65, none, .mv (.t 7)⟩,
  ⟨some 66, none, .mv (.t 10)⟩,
  ⟨some 67, none, .call 62 [(.t 65), (.t 66)]⟩,
  ⟨some 11, none, .mv (.t 67)⟩])
 (.seq (.dregE [[(0, ⟨some 68, none, .mv (.t 7)⟩),
  (1, ⟨some 69, none, .mv (.t 8)⟩),
  (2, ⟨some 70, none, .mv (.t 7)⟩),
  (3, ⟨some 71, none, .mv (.t 11)⟩),
  (4, ⟨some 72, none, .mv (.t 7)⟩),
  (5, ⟨some 73, none, .mv (.t 11)⟩),
  (6, ⟨some 74, none, .iaddr 5 (.t 72) (.t 73)⟩),
  (7, ⟨some 75, none, .faddr 2 (.t 74)⟩),
  (8, ⟨some 76, none, .load false 1 (.t 75)⟩),
  (9, ⟨some 77, none, .mv (.t 7)⟩),
  (10, ⟨some 78, none, .mv (.t 9)⟩),
  (11, ⟨some 79, none, .iaddr 5 (.t 77) (.t 78)⟩),
  (12, ⟨some 80, none, .faddr 0 (.t 79)⟩),
  (13, ⟨some 81, none, .load false 1 (.t 80)⟩),
  (14, ⟨some 82, none, .iaddr 5 (.t 68) (.t 69)⟩),
  (15, ⟨some 83, none, .faddr 2 (.t 82)⟩),
  (16, ⟨none, none, .store 1 (.t 83) (.t 76)⟩)],
  [(17, ⟨some 84, none, .iaddr 5 (.t 70) (.t 71)⟩)],
  [(18, ⟨some 85, none, .faddr 2 (.t 84)⟩)],
  [(19, ⟨none, none, .store 1 (.t 85) (.t 81)⟩)]]
  [[], [], [], [], [], [], [4, 5], [4, 5, 6], [4, 5, 6, 7], [], [], [9, 10], [9, 10, 11], [9, 10, 11, 12], [0, 1, 4, 5, 6, 7, 8, 9, 10, 11, 12, 13], [0, 1, 4, 5, 6, 7, 8, 9, 10, 11, 12, 13, 14], [0, 1, 4, 5, 6, 7, 8, 9, 10, 11, 12, 13, 14, 15], [0, 1, 2, 3, 4, 5, 6, 7, 8, 9, 10, 11, 12, 13, 14, 15, 16], [0, 1, 2, 3, 4, 5, 6, 7, 8, 9, 10, 11, 12, 13, 14, 15, 16, 17], [0, 1, 2, 3, 4, 5, 6, 7, 8, 9, 10, 11, 12, 13, 14, 15, 16, 17, 18]])
 (.seq (.seq (.reg [⟨some 86, none, .mv (.t 7)⟩,
  ⟨some 87, none, .len false (.t 86)⟩,
  ⟨some 88, none, .mv (.c (.int .i64 0))⟩])
 (.block 1
 (.loop
 (.seq (.reg [⟨some 89, none, .bini .lss (.t 88) (.t 87)⟩])
 (.seq (.cond (.t 89)
 .skip
 (.exit 1))
 (.seq (.block 2
 (.seq (.reg [⟨some 90, none, .mv (.t 88)⟩,
  ⟨some 91, none, .iaddr 5 (.t 86) (.t 88)⟩,
  ⟨some 92, none, .load true 5 (.t 91)⟩,
  ⟨some 13, none, .alloc [.int .i64 0, .int .i64 0, .int .i64 0, .int .i64 0, .emp]⟩,
  ⟨some 12, none, .mv (.t 90)⟩,
  ⟨none, none, .store 5 (.t 13) (.t 92)⟩])
 (.seq (.dreg [⟨some 93, none, .faddr 1 (.t 13)⟩,
  ⟨some 94, none, .load false 1 (.t 93)⟩,
  ⟨some 95, none, .bini .eql (.t 94) (.c (.int .i64 2))⟩,
  ⟨some 96, none, .mv (.t 95)⟩,
  ⟨some 97, (some (96, true)), .faddr 2 (.t 13)⟩,
  ⟨some 98, (some (96, true)), .load false 1 (.t 97)⟩,
  ⟨some 99, (some (96, true)), .mv (.t 10)⟩,
  ⟨some 100, (some (96, true)), .bini .eql (.t 98) (.t 99)⟩,
  ⟨some 101, none, .pick (.t 96) (.t 100) (.c (.bool false))⟩,
  ⟨some 102, none, .mv (.t 101)⟩,
  ⟨some 103, (some (102, true)), .faddr 0 (.t 13)⟩,
  ⟨some 104, (some (102, true)), .load false 1 (.t 103)⟩,
  ⟨some 105, (some (102, true)), .mv (.t 7)⟩,
  ⟨some 106, (some (102, true)), .mv (.t 9)⟩,
  ⟨some 107, (some (102, true)), .iaddr 5 (.t 105) (.t 106)⟩,
  ⟨some 108, (some (102, true)), .faddr 0 (.t 107)⟩,
  ⟨some 109, (some (102, true)), .load false 1 (.t 108)⟩,
  ⟨some 110, (some (102, true)), .bini .leq (.t 104) (.t 109)⟩,
  ⟨some 111, none, .pick (.t 102) (.t 110) (.c (.bool false))⟩])
 (.cond (.t 111)
 (.reg [⟨some 112, none, .mv (.t 7)⟩,
  ⟨some 113, none, .mv (.t 12)⟩,
  ⟨some 114, none, .mv (.t 1)⟩,
  ⟨some 115, none, .iaddr 5 (.t 112) (.t 113)⟩,
  ⟨some 116, none, .faddr 2 (.t 115)⟩,
  ⟨none, none, .store 1 (.t 116) (.t 114)⟩])
 .skip))))
 (.reg [⟨some 117, none, .bini .add (.t 88) (.c (.int .i64 1))⟩,
  ⟨some 88, none, .mv (.t 117)⟩])))))))
 (.seq (.reg [⟨some 118, none, .mv (.t 6)⟩,
  ⟨some 4, none, .mv (.t 118)⟩,
  ⟨some 5, none, .mv (.c (.int .i64 0))⟩])
 .ret))))))))))))
theorem d28 : FnD Try.prog 28 2 117 [.tmp 4, .tmp 5] c28 := ⟨Try.f28, _, Try.func28, by kernel_rfl, rfl, rfl, by kernel_rfl, by kernel_rfl⟩

/-- palimp/dset.Back -/
def c29 : ACode :=
 (.seq (.reg [⟨some 4, none, .box (.t 1)⟩,
  ⟨some 5, none, .box (.t 2)⟩,
  ⟨some 6, none, .mv (.c (.emp))⟩,
  ⟨some 7, none, .mv (.c (.int .i64 0))⟩])
 (.seq (.reg [⟨some 13, none, .mv (.t 0)⟩,
  ⟨some 14, none, .call 59 [(.t 13)]⟩,
  ⟨some 8, none, .mv (.t 14)⟩])
 (.seq (.reg [⟨some 15, none, .mv (.t 8)⟩,
  ⟨some 9, none, .mv (.t 15)⟩])
 (.seq (.dregE [[(0, ⟨some 16, none, .mv (.t 9)⟩),
  (1, ⟨some 17, none, .load false 1 (.t 4)⟩),
  (3, ⟨some 19, none, .mv (.t 9)⟩),
  (4, ⟨some 20, none, .load false 1 (.t 5)⟩),
  (2, ⟨some 18, none, .call 62 [(.t 16), (.t 17)]⟩)],
  [(5, ⟨some 21, none, .call 62 [(.t 19), (.t 20)]⟩)],
  [(6, ⟨some 10, none, .mv (.t 18)⟩)],
  [(7, ⟨some 11, none, .mv (.t 21)⟩)]]
  [[], [], [0, 1], [], [], [0, 1, 2, 3, 4], [0, 1, 2, 3, 4, 5], [0, 1, 2, 3, 4, 5, 6]])
 (.seq (.reg [⟨some 22, none, .mkfn (.func 64) [] [(.t 4), (.t 5)]⟩,
  ⟨some 12, none, .mv (.t 22)⟩])
 (.seq (.block 0
 (.seq (.reg [⟨some 24, none, .mv (.t 10)⟩,
  ⟨some 25, none, .bini .lss (.t 24) (.c (.int .i64 0))⟩,
  ⟨some 26, none, .mv (.t 25)⟩,
  ⟨some 27, (some (26, false)), .mv (.t 11)⟩,
  ⟨some 28, (some (26, false)), .bini .lss (.t 27) (.c (.int .i64 0))⟩,
  ⟨some 29, none, .pick (.t 26) (.c (.bool true)) (.t 28)⟩,
  ⟨some 23, none, .mv (.t 29)⟩])
 (.cond (.t 23)
 (.seq (.reg [⟨some 30, none, .mv (.t 8)⟩,
  ⟨some 6, none, .mv (.t 30)⟩,
  ⟨some 7, none, .mv (.c (.int .i64 2))⟩])
 .ret)
 (.seq (.dreg [⟨some 32, none, .mv (.t 9)⟩,
  ⟨some 33, none, .mv (.t 10)⟩,
  ⟨some 34, none, .iaddr 5 (.t 32) (.t 33)⟩,
  ⟨some 35, none, .faddr 1 (.t 34)⟩,
  ⟨some 36, none, .load false 1 (.t 35)⟩,
  ⟨some 37, none, .bini .neq (.t 36) (.c (.int .i64 1))⟩,
  ⟨some 38, none, .mv (.t 37)⟩,
  ⟨some 39, (some (38, false)), .mv (.t 9)⟩,
  ⟨some 40, (some (38, false)), .mv (.t 11)⟩,
  ⟨some 41, (some (38, false)), .iaddr 5 (.t 39) (.t 40)⟩,
  ⟨some 42, (some (38, false)), .faddr 1 (.t 41)⟩,
  ⟨some 43, (some (38, false)), .load false 1 (.t 42)⟩,
  ⟨some 44, (some (38, false)), .bini .neq (.t 43) (.c (.int .i64 2))⟩,
  ⟨some 45, none, .pick (.t 38) (.c (.bool true)) (.t 44)⟩,
  ⟨some 46, none, .mv (.t 45)⟩,
  ⟨some 47, (some (46, false)), .mv (.t 9)⟩,
  ⟨some 48, (some (46, false)), .mv (.t 11)⟩,
  ⟨some 49, (some (46, false)), .iaddr 5 (.t 47) (.t 48)⟩,
  ⟨some 50, (some (46, false)), .faddr 2 (.t 49)⟩,
  ⟨some 51, (some (46, false)), .load false 1 (.t 50)⟩,
  ⟨some 52, (some (46, false)), .load false 1 (.t 4)⟩,
  ⟨some 53, (some (46, false)), .bini .neq (.t 51) (.t 52)⟩,
  ⟨some 54, none, .pick (.t 46) (.c (.bool true)) (.t 53)⟩,
  ⟨some 31, none, .mv (.t 54)⟩])
 (.cond (.t 31)
 (.seq (.reg [⟨some 55, none, .mv (.t 8)⟩,
  ⟨some 6, none, .mv (.t 55)⟩,
  ⟨some 7, none, .mv (.c (.int .i64 1))⟩])
 .ret)
 (.seq (.reg [⟨some 57, none, .mv (.t 9)⟩,
  ⟨some 58, none, .mv (.t 12)⟩,
  ⟨some 59, none, .call 65 [(.t 57), (.t 58)]⟩,
  ⟨some 56, none, .mv (.t 59)⟩])
 (.cond (.t 56)
 (.seq (.reg [⟨some 60, none, .mv (.t 8)⟩,
  ⟨some 6, none, .mv (.t 60)⟩,
  ⟨some 7, none, .mv (.c (.int .i64 10))⟩])
 .ret)
 .skip)))))))
 (.seq (.reg [⟨some 61, none, .mv (.t 9)⟩,
  ⟨some 62, none, .mv (.t 10)⟩,
  ⟨some 63, none, .mv (.t 9)⟩,
  ⟨some 64, none, .mv (.t 11)⟩,
  ⟨some 65, none, .iaddr 5 (.t 63) (.t 64)⟩,
  ⟨some 66, none, .faddr 4 (.t 65)⟩,
  ⟨some 67, none, .load false 1 (.t 66)⟩,
  ⟨some 68, none, .call 41 [(.t 67)]⟩,
  ⟨some 69, none, .iaddr 5 (.t 61) (.t 62)⟩,
  ⟨some 70, none, .faddr 4 (.t 69)⟩,
  ⟨none, none, .store 1 (.t 70) (.t 68)⟩])
 (.seq (.reg [⟨some 71, none, .mv (.t 8)⟩,
  ⟨some 6, none, .mv (.t 71)⟩,
  ⟨some 7, none, .mv (.c (.int .i64 0))⟩])
 .ret))))))))
theorem d29 : FnD Try.prog 29 3 69 [.tmp 6, .tmp 7] c29 := ⟨Try.f29, _, Try.func29, by kernel_rfl, rfl, rfl, by kernel_rfl, by kernel_rfl⟩

/-- palimp/dset.Destroy -/
def c30 : ACode :=
 (.seq (.reg [⟨some 3, none, .box (.t 1)⟩,
  ⟨some 4, none, .mv (.c (.emp))⟩,
  ⟨some 5, none, .mv (.c (.int .i64 0))⟩])
 (.seq (.reg [⟨some 12, none, .mv (.t 0)⟩,
  ⟨some 13, none, .call 59 [(.t 12)]⟩,
  ⟨some 6, none, .mv (.t 13)⟩])
 (.seq (.reg [⟨some 14, none, .mv (.t 6)⟩,
  ⟨some 7, none, .mv (.t 14)⟩])
 (.seq (.reg [⟨some 15, none, .mv (.t 7)⟩,
  ⟨some 16, none, .load false 1 (.t 3)⟩,
  ⟨some 17, none, .call 62 [(.t 15), (.t 16)]⟩,
  ⟨some 8, none, .mv (.t 17)⟩])
 (.seq (.reg [⟨some 9, none, .mv (.c (.int .i64 0))⟩])
 (.seq (.seq (.reg [⟨some 18, none, .mv (.t 7)⟩,
  ⟨some 19, none, .len false (.t 18)⟩,
  ⟨some 20, none, .mv (.c (.int .i64 0))⟩])
 (.block 0
 (.loop
 (.seq (.reg [⟨some 21, none, .bini .lss (.t 20) (.t 19)⟩])
 (.seq (.cond (.t 21)
 .skip
 (.exit 0))
 (.seq (.block 1
 (.seq (.reg [⟨some 22, none, .iaddr 5 (.t 18) (.t 20)⟩,
  ⟨some 23, none, .load true 5 (.t 22)⟩,
  ⟨some 11, none, .alloc [.int .i64 0, .int .i64 0, .int .i64 0, .int .i64 0, .emp]⟩,
  ⟨none, none, .store 5 (.t 11) (.t 23)⟩])
 (.seq (.reg [⟨some 24, none, .faddr 1 (.t 11)⟩,
  ⟨some 25, none, .load false 1 (.t 24)⟩,
  ⟨some 26, none, .bini .eql (.t 25) (.c (.int .i64 1))⟩])
 (.cond (.t 26)
 (.reg [⟨some 27, none, .mv (.t 9)⟩,
  ⟨some 28, none, .bini .add (.t 27) (.c (.int .i64 1))⟩,
  ⟨some 9, none, .mv (.t 28)⟩])
 .skip))))
 (.reg [⟨some 29, none, .bini .add (.t 20) (.c (.int .i64 1))⟩,
  ⟨some 20, none, .mv (.t 29)⟩])))))))
 (.seq (.block 2
 (.seq (.reg [⟨some 31, none, .mv (.t 8)⟩,
  ⟨some 32, none, .bini .lss (.t 31) (.c (.int .i64 0))⟩,
  ⟨some 30, none, .mv (.t 32)⟩])
 (.cond (.t 30)
 (.seq (.reg [⟨some 33, none, .mv (.t 6)⟩,
  ⟨some 4, none, .mv (.t 33)⟩,
  ⟨some 5, none, .mv (.c (.int .i64 2))⟩])
 .ret)
 (.seq (.seq (.reg [⟨some 35, none, .mv (.t 7)⟩,
  ⟨some 36, none, .mkfn (.func 66) [] [(.t 3)]⟩,
  ⟨some 37, none, .call 65 [(.t 35), (.t 36)]⟩,
  ⟨some 34, none, .mv (.t 37)⟩])
 (.cond (.t 34)
 .skip
 (.reg [⟨some 38, none, .mv (.t 7)⟩,
  ⟨some 39, none, .mv (.t 8)⟩,
  ⟨some 40, none, .iaddr 5 (.t 38) (.t 39)⟩,
  ⟨some 41, none, .faddr 1 (.t 40)⟩,
  ⟨some 42, none, .load false 1 (.t 41)⟩,
  ⟨some 43, none, .bini .eql (.t 42) (.c (.int .i64 1))⟩,
  ⟨some 44, none, .mv (.t 43)⟩,
  ⟨some 45, (some (44, true)), .mv (.t 9)⟩,
  ⟨some 46, (some (44, true)), .bini .eql (.t 45) (.c (.int .i64 1))⟩,
  ⟨some 47, none, .pick (.t 44) (.t 46) (.c (.bool false))⟩,
  ⟨some 34, none, .mv (.t 47)⟩])))
 (.cond (.t 34)
 (.seq (.reg [⟨some 48, none, .mv (.t 6)⟩,
  ⟨some 4, none, .mv (.t 48)⟩,
  ⟨some 5, none, .mv (.c (.int .i64 10))⟩])
 .ret)
 .skip)))))
 (.seq (.reg [⟨some 49, none, .mv (.t 6)⟩,
  ⟨some 50, none, .mv (.t 8)⟩,
  ⟨some 51, none, .mv (.t 8)⟩,
  ⟨some 52, none, .bini .add (.t 51) (.c (.int .i64 1))⟩,
  ⟨some 53, none, .call 67 [(.t 49), (.t 50), (.t 52)]⟩,
  ⟨some 4, none, .mv (.t 53)⟩,
  ⟨some 5, none, .mv (.c (.int .i64 0))⟩])
 .ret))))))))
theorem d30 : FnD Try.prog 30 2 52 [.tmp 4, .tmp 5] c30 := ⟨Try.f30, _, Try.func30, by kernel_rfl, rfl, rfl, by kernel_rfl, by kernel_rfl⟩

/-- palimp/palimpref16.MaySets -/
def c31 : ACode :=
 (.seq (.reg [⟨some 2, none, .mv (.c (.bool false))⟩])
 (.seq (.seq (.reg [⟨some 10, none, .mv (.t 0)⟩,
  ⟨some 11, none, .len false (.t 10)⟩,
  ⟨some 12, none, .bini .gtr (.t 11) (.c (.int .i64 8))⟩])
 (.cond (.t 12)
 (.seq (.reg [⟨some 2, none, .mv (.c (.bool false))⟩])
 .ret)
 .skip))
 (.seq (.seq (.reg [⟨some 3, none, .mv (.c (.int .i64 0))⟩])
 (.block 0
 (.loop
 (.seq (.seq (.reg [⟨some 13, none, .mv (.t 3)⟩,
  ⟨some 14, none, .mv (.t 0)⟩,
  ⟨some 15, none, .len false (.t 14)⟩,
  ⟨some 16, none, .bini .lss (.t 13) (.t 15)⟩])
 (.cond (.t 16)
 .skip
 (.exit 0)))
 (.seq (.block 1
 (.seq (.reg [⟨some 19, none, .mv (.t 0)⟩,
  ⟨some 20, none, .mv (.t 3)⟩,
  ⟨some 21, none, .iaddr 5 (.t 19) (.t 20)⟩,
  ⟨some 22, none, .load true 5 (.t 21)⟩,
  ⟨some 4, none, .alloc [.int .i64 0, .int .i64 0, .int .i64 0, .int .i64 0, .emp]⟩,
  ⟨none, none, .store 5 (.t 4) (.t 22)⟩])
 (.seq (.seq (.dregE [[(0, ⟨some 23, none, .faddr 0 (.t 4)⟩)],
  [(1, ⟨some 24, none, .load false 1 (.t 23)⟩)],
  [(2, ⟨some 25, none, .bini .lss (.t 24) (.c (.int .i64 1))⟩)],
  [(3, ⟨some 26, none, .mv (.t 25)⟩)],
  [(4, ⟨some 27, (some (26, false)), .faddr 0 (.t 4)⟩)],
  [(5, ⟨some 28, (some (26, false)), .load false 1 (.t 27)⟩)],
  [(6, ⟨some 29, (some (26, false)), .call 68 [(.t 28)]⟩)],
  [(7, ⟨some 30, (some (26, false)), .un .not (.t 29)⟩)],
  [(8, ⟨some 31, none, .pick (.t 26) (.c (.bool true)) (.t 30)⟩)],
  [(9, ⟨some 32, none, .mv (.t 31)⟩)],
  [(10, ⟨some 33, (some (32, false)), .mv (.t 3)⟩)],
  [(11, ⟨some 34, (some (32, false)), .bini .gtr (.t 33) (.c (.int .i64 0))⟩)],
  [(12, ⟨some 35, (some (32, false)), .mv (.t 34)⟩)],
  [(13, ⟨some 36, (some (35, true)), .mv (.t 0)⟩),
  (14, ⟨some 37, (some (35, true)), .mv (.t 3)⟩),
  (15, ⟨some 38, (some (35, true)), .bini .sub (.t 37) (.c (.int .i64 1))⟩),
  (16, ⟨some 39, (some (35, true)), .iaddr 5 (.t 36) (.t 38)⟩),
  (17, ⟨some 40, (some (35, true)), .faddr 0 (.t 39)⟩),
  (18, ⟨some 41, (some (35, true)), .load false 1 (.t 40)⟩),
  (19, ⟨some 42, (some (35, true)), .faddr 0 (.t 4)⟩),
  (20, ⟨some 43, (some (35, true)), .load false 1 (.t 42)⟩)],
  [(21, ⟨some 44, (some (35, true)), .bini .geq (.t 41) (.t 43)⟩)],
  [(22, ⟨some 45, (some (32, false)), .pick (.t 35) (.t 44) (.c (.bool false))⟩)],
  [(23, ⟨some 46, none, .pick (.t 32) (.c (.bool true)) (.t 45)⟩)],
  [(24, ⟨some 47, none, .mv (.t 46)⟩)],
  [(25, ⟨some 48, (some (47, false)), .faddr 4 (.t 4)⟩)],
  [(26, ⟨some 49, (some (47, false)), .load false 1 (.t 48)⟩)],
  [(27, ⟨some 50, (some (47, false)), .call 69 [(.t 49)]⟩)],
  [(28, ⟨some 51, (some (47, false)), .un .not (.t 50)⟩)],
  [(29, ⟨some 52, none, .pick (.t 47) (.c (.bool true)) (.t 51)⟩)],
  [(30, ⟨some 53, none, .mv (.t 52)⟩)],
  [(31, ⟨some 54, (some (53, false)), .faddr 3 (.t 4)⟩)],
  [(32, ⟨some 55, (some (53, false)), .load false 1 (.t 54)⟩)],
  [(33, ⟨some 56, (some (53, false)), .bini .lss (.t 55) (.c (.int .i64 0))⟩)],
  [(34, ⟨some 57, none, .pick (.t 53) (.c (.bool true)) (.t 56)⟩)],
  [(35, ⟨some 58, none, .mv (.t 57)⟩)],
  [(36, ⟨some 59, (some (58, false)), .faddr 3 (.t 4)⟩)],
  [(37, ⟨some 60, (some (58, false)), .load false 1 (.t 59)⟩)],
  [(38, ⟨some 61, (some (58, false)), .bini .gtr (.t 60) (.c (.int .i64 255))⟩)],
  [(39, ⟨some 62, none, .pick (.t 58) (.c (.bool true)) (.t 61)⟩)]]
  [[], [0], [0, 1], [0, 1, 2], [0, 1, 2, 3], [0, 1, 2, 3, 4], [0, 1, 2, 3, 4, 5], [0, 1, 2, 3, 4, 5, 6], [0, 1, 2, 3, 4, 5, 6, 7], [0, 1, 2, 3, 4, 5, 6, 7, 8], [0, 1, 2, 3, 4, 5, 6, 7, 8, 9], [0, 1, 2, 3, 4, 5, 6, 7, 8, 9, 10], [0, 1, 2, 3, 4, 5, 6, 7, 8, 9, 10, 11], [0, 1, 2, 3, 4, 5, 6, 7, 8, 9, 10, 11, 12], [0, 1, 2, 3, 4, 5, 6, 7, 8, 9, 10, 11, 12], [0, 1, 2, 3, 4, 5, 6, 7, 8, 9, 10, 11, 12, 14], [0, 1, 2, 3, 4, 5, 6, 7, 8, 9, 10, 11, 12, 13, 14, 15], [0, 1, 2, 3, 4, 5, 6, 7, 8, 9, 10, 11, 12, 13, 14, 15, 16], [0, 1, 2, 3, 4, 5, 6, 7, 8, 9, 10, 11, 12, 13, 14, 15, 16, 17], [0, 1, 2, 3, 4, 5, 6, 7, 8, 9, 10, 11, 12], [0, 1, 2, 3, 4, 5, 6, 7, 8, 9, 10, 11, 12, 19], [0, 1, 2, 3, 4, 5, 6, 7, 8, 9, 10, 11, 12, 13, 14, 15, 16, 17, 18, 19, 20], [0, 1, 2, 3, 4, 5, 6, 7, 8, 9, 10, 11, 12, 13, 14, 15, 16, 17, 18, 19, 20, 21], [0, 1, 2, 3, 4, 5, 6, 7, 8, 9, 10, 11, 12, 13, 14, 15, 16, 17, 18, 19, 20, 21, 22], [0, 1, 2, 3, 4, 5, 6, 7, 8, 9, 10, 11, 12, 13, 14, 15, 16, 17, 18, 19, 20, 21, 22, 23], [0, 1, 2, 3, 4, 5, 6, 7, 8, 9, 10, 11, 12, 13, 14, 15, 16, 17, 18, 19, 20, 21, 22, 23, 24], [0, 1, 2, 3, 4, 5, 6, 7, 8, 9, 10, 11, 12, 13, 14, 15, 16, 17, 18, 19, 20, 21, 22, 23, 24, 25], [0, 1, 2, 3, 4, 5, 6, 7, 8, 9, 10, 11, 12, 13, 14, 15, 16, 17, 18, 19, 20, 21, 22, 23, 24, 25, 26], [0, 1, 2, 3, 4, 5, 6, 7, 8, 9, 10, 11, 12, 13, 14, 15, 16, 17, 18, 19, 20, 21, 22, 23, 24, 25, 26, 27], [0, 1, 2, 3, 4, 5, 6, 7, 8, 9, 10, 11, 12, 13, 14, 15, 16, 17, 18, 19, 20, 21, 22, 23, 24, 25, 26, 27, 28], [0, 1, 2, 3, 4, 5, 6, 7, 8, 9, 10, 11, 12, 13, 14, 15, 16, 17, 18, 19, 20, 21, 22, 23, 24, 25, 26, 27, 28, 29], [0, 1, 2, 3, 4, 5, 6, 7, 8, 9, 10, 11, 12, 13, 14, 15, 16, 17, 18, 19, 20, 21, 22, 23, 24, 25, 26, 27, 28, 29, 30], [0, 1, 2, 3, 4, 5, 6, 7, 8, 9, 10, 11, 12, 13, 14, 15, 16, 17, 18, 19, 20, 21, 22, 23, 24, 25, 26, 27, 28, 29, 30, 31], [0, 1, 2, 3, 4, 5, 6, 7, 8, 9, 10, 11, 12, 13, 14, 15, 16, 17, 18, 19, 20, 21, 22, 23, 24, 25, 26, 27, 28, 29, 30, 31, 32], [0, 1, 2, 3, 4, 5, 6, 7, 8, 9, 10, 11, 12, 13, 14, 15, 16, 17, 18, 19, 20, 21, 22, 23, 24, 25, 26, 27, 28, 29, 30, 31, 32, 33], [0, 1, 2, 3, 4, 5, 6, 7, 8, 9, 10, 11, 12, 13, 14, 15, 16, 17, 18, 19, 20, 21, 22, 23, 24, 25, 26, 27, 28, 29, 30, 31, 32, 33, 34], [0, 1, 2, 3, 4, 5, 6, 7, 8, 9, 10, 11, 12, 13, 14, 15, 16, 17, 18, 19, 20, 21, 22, 23, 24, 25, 26, 27, 28, 29, 30, 31, 32, 33, 34, 35], [0, 1, 2, 3, 4, 5, 6, 7, 8, 9, 10, 11, 12, 13, 14, 15, 16, 17, 18, 19, 20, 21, 22, 23, 24, 25, 26, 27, 28, 29, 30, 31, 32, 33, 34, 35, 36], [0, 1, 2, 3, 4, 5, 6, 7, 8, 9, 10, 11, 12, 13, 14, 15, 16, 17, 18, 19, 20, 21, 22, 23, 24, 25, 26, 27, 28, 29, 30, 31, 32, 33, 34, 35, 36, 37], [0, 1, 2, 3, 4, 5, 6, 7, 8, 9, 10, 11, 12, 13, 14, 15, 16, 17, 18, 19, 20, 21, 22, 23, 24, 25, 26, 27, 28, 29, 30, 31, 32, 33, 34, 35, 36, 37, 38]])
 (.cond (.t 62)
 (.seq (.reg [⟨some 2, none, .mv (.c (.bool false))⟩])
 .ret)
 .skip))
 (.seq (.reg [⟨some 64, none, .mv (.t 0)⟩,
  ⟨some 65, none, .faddr 2 (.t 4)⟩,
  ⟨some 66, none, .load false 1 (.t 65)⟩,
  ⟨some 67, none, .call 70 [(.t 64), (.t 66)]⟩,
  ⟨some 63, none, .mv (.t 67)⟩,
  ⟨some 68, none, .ext (.t 63) 0⟩,
  ⟨some 69, none, .ext (.t 63) 1⟩,
  ⟨some 5, none, .alloc [.int .i64 0, .int .i64 0, .int .i64 0, .int .i64 0, .emp]⟩,
  ⟨none, none, .store 5 (.t 5) (.t 68)⟩,
  ⟨some 6, none, .mv (.t 69)⟩])
 (.seq (.reg [⟨some 70, none, .faddr 1 (.t 4)⟩,
  ⟨some 71, none, .load false 1 (.t 70)⟩])
 (.block 2
 (.seq (.reg [⟨some 73, none, .bini .eql (.t 71) (.c (.int .i64 2))⟩,
  ⟨some 72, none, .mv (.t 73)⟩])
 (.cond (.t 72)
 (.seq (.reg [⟨some 74, none, .faddr 3 (.t 4)⟩,
  ⟨some 75, none, .load false 1 (.t 74)⟩,
  ⟨some 76, none, .bini .neq (.t 75) (.c (.int .i64 0))⟩,
  ⟨some 77, none, .mv (.t 76)⟩,
  ⟨some 78, (some (77, false)), .mv (.t 6)⟩,
  ⟨some 79, (some (77, false)), .un .not (.t 78)⟩,
  ⟨some 80, none, .pick (.t 77) (.c (.bool true)) (.t 79)⟩,
  ⟨some 81, none, .mv (.t 80)⟩,
  ⟨some 82, (some (81, false)), .faddr 1 (.t 5)⟩,
  ⟨some 83, (some (81, false)), .load false 1 (.t 82)⟩,
  ⟨some 84, (some (81, false)), .bini .neq (.t 83) (.c (.int .i64 1))⟩,
  ⟨some 85, none, .pick (.t 81) (.c (.bool true)) (.t 84)⟩])
 (.cond (.t 85)
 (.seq (.reg [⟨some 2, none, .mv (.c (.bool false))⟩])
 .ret)
 .skip))
 (.seq (.reg [⟨some 87, none, .bini .eql (.t 71) (.c (.int .i64 1))⟩,
  ⟨some 86, none, .mv (.t 87)⟩])
 (.cond (.t 86)
 (.seq (.reg [⟨some 88, none, .faddr 2 (.t 4)⟩,
  ⟨some 89, none, .load false 1 (.t 88)⟩,
  ⟨some 90, none, .bini .neq (.t 89) (.c (.int .i64 0))⟩,
  ⟨some 91, none, .mv (.t 90)⟩,
  ⟨some 92, (some (91, true)), .mv (.t 6)⟩,
  ⟨some 93, (some (91, true)), .un .not (.t 92)⟩,
  ⟨some 94, (some (91, true)), .mv (.t 93)⟩,
  ⟨some 95, (some (94, false)), .faddr 1 (.t 5)⟩,
  ⟨some 96, (some (94, false)), .load false 1 (.t 95)⟩,
  ⟨some 97, (some (94, false)), .bini .neq (.t 96) (.c (.int .i64 2))⟩,
  ⟨some 98, (some (91, true)), .pick (.t 94) (.c (.bool true)) (.t 97)⟩,
  ⟨some 99, none, .pick (.t 91) (.t 98) (.c (.bool false))⟩])
 (.cond (.t 99)
 (.seq (.reg [⟨some 2, none, .mv (.c (.bool false))⟩])
 .ret)
 .skip))
 (.seq (.reg [⟨some 2, none, .mv (.c (.bool false))⟩])
 .ret)))))))))))
 (.reg [⟨some 17, none, .mv (.t 3)⟩,
  ⟨some 18, none, .bini .add (.t 17) (.c (.int .i64 1))⟩,
  ⟨some 3, none, .mv (.t 18)⟩]))))))
 (.seq (.seq (.reg [⟨some 7, none, .mv (.c (.int .i64 0))⟩])
 (.block 3
 (.loop
 (.seq (.seq (.reg [⟨some 100, none, .mv (.t 7)⟩,
  ⟨some 101, none, .mv (.t 0)⟩,
  ⟨some 102, none, .len false (.t 101)⟩,
  ⟨some 103, none, .bini .lss (.t 100) (.t 102)⟩])
 (.cond (.t 103)
 .skip
 (.exit 3)))
 (.seq (.block 4
 (.seq (.reg [⟨some 106, none, .mv (.t 0)⟩,
  ⟨some 107, none, .mv (.t 7)⟩,
  ⟨some 108, none, .iaddr 5 (.t 106) (.t 107)⟩,
  ⟨some 109, none, .load true 5 (.t 108)⟩,
  ⟨some 8, none, .alloc [.int .i64 0, .int .i64 0, .int .i64 0, .int .i64 0, .emp]⟩,
  ⟨none, none, .store 5 (.t 8) (.t 109)⟩])
 (.seq (.seq (.reg [⟨some 9, none, .mv (.c (.int .i64 0))⟩])
 (.block 5
 (.loop
 (.seq (.seq (.reg [⟨some 110, none, .mv (.t 9)⟩,
  ⟨some 111, none, .mv (.t 0)⟩,
  ⟨some 112, none, .len false (.t 111)⟩,
  ⟨some 113, none, .bini .mul (.c (.int .i64 2)) (.t 112)⟩,
  ⟨some 114, none, .bini .leq (.t 110) (.t 113)⟩])
 (.cond (.t 114)
 .skip
 (.exit 5)))
 (.seq (.block 6
 (.reg [⟨some 118, none, .mv (.t 0)⟩,
  ⟨some 119, none, .faddr 2 (.t 8)⟩,
  ⟨some 120, none, .load false 1 (.t 119)⟩,
  ⟨some 121, none, .call 70 [(.t 118), (.t 120)]⟩,
  ⟨some 117, none, .mv (.t 121)⟩,
  ⟨some 122, none, .ext (.t 117) 0⟩,
  ⟨some 123, none, .ext (.t 117) 1⟩,
  ⟨none, none, .store 5 (.t 8) (.t 122)⟩]))
 (.reg [⟨some 115, none, .mv (.t 9)⟩,
  ⟨some 116, none, .bini .add (.t 115) (.c (.int .i64 1))⟩,
  ⟨some 9, none, .mv (.t 116)⟩]))))))
 (.seq (.reg [⟨some 124, none, .faddr 0 (.t 8)⟩,
  ⟨some 125, none, .load false 1 (.t 124)⟩,
  ⟨some 126, none, .bini .neq (.t 125) (.c (.int .i64 0))⟩])
 (.cond (.t 126)
 (.seq (.reg [⟨some 2, none, .mv (.c (.bool false))⟩])
 .ret)
 .skip)))))
 (.reg [⟨some 104, none, .mv (.t 7)⟩,
  ⟨some 105, none, .bini .add (.t 104) (.c (.int .i64 1))⟩,
  ⟨some 7, none, .mv (.t 105)⟩]))))))
 (.seq (.reg [⟨some 2, none, .mv (.c (.bool true))⟩])
 .ret)))))
theorem d31 : FnD Try.prog 31 1 126 [.tmp 2] c31 := ⟨Try.f31, _, Try.func31, by kernel_rfl, rfl, rfl, by kernel_rfl, by kernel_rfl⟩

/-- palimp/palimpref16.SameSets -/
def c32 : ACode :=
 (.seq (.reg [⟨some 4, none, .mv (.c (.bool false))⟩])
 (.seq (.seq (.reg [⟨some 8, none, .mv (.t 0)⟩,
  ⟨some 9, none, .len false (.t 8)⟩,
  ⟨some 10, none, .mv (.t 1)⟩,
  ⟨some 11, none, .len false (.t 10)⟩,
  ⟨some 12, none, .bini .neq (.t 9) (.t 11)⟩])
 (.cond (.t 12)
 (.seq (.reg [⟨some 4, none, .mv (.c (.bool false))⟩])
 .ret)
 .skip))
 (.seq (.seq (.reg [⟨some 5, none, .mv (.c (.int .i64 0))⟩])
 (.block 0
 (.loop
 (.seq (.seq (.reg [⟨some 13, none, .mv (.t 5)⟩,
  ⟨some 14, none, .mv (.t 0)⟩,
  ⟨some 15, none, .len false (.t 14)⟩,
  ⟨some 16, none, .bini .lss (.t 13) (.t 15)⟩])
 (.cond (.t 16)
 .skip
 (.exit 0)))
 (.seq (.block 1
 (.seq (.dregE [[(0, ⟨some 19, none, .mv (.t 0)⟩),
  (1, ⟨some 20, none, .mv (.t 5)⟩),
  (2, ⟨some 21, none, .iaddr 5 (.t 19) (.t 20)⟩),
  (3, ⟨some 22, none, .load true 5 (.t 21)⟩),
  (4, ⟨some 23, none, .mv (.t 1)⟩),
  (5, ⟨some 24, none, .mv (.t 5)⟩),
  (6, ⟨some 25, none, .iaddr 5 (.t 23) (.t 24)⟩),
  (7, ⟨some 26, none, .load true 5 (.t 25)⟩),
  (8, ⟨some 6, none, .alloc [.int .i64 0, .int .i64 0, .int .i64 0, .int .i64 0, .emp]⟩),
  (9, ⟨some 7, none, .alloc [.int .i64 0, .int .i64 0, .int .i64 0, .int .i64 0, .emp]⟩),
  (10, ⟨none, none, .store 5 (.t 6) (.t 22)⟩)],
  [(11, ⟨none, none, .store 5 (.t 7) (.t 26)⟩)]]
  [[], [], [0, 1], [0, 1, 2], [], [], [4, 5], [4, 5, 6], [], [], [0, 1, 2, 3, 8, 9], [0, 1, 2, 3, 4, 5, 6, 7, 8, 9, 10]])
 (.seq (.reg [⟨some 27, none, .faddr 0 (.t 6)⟩,
  ⟨some 28, none, .load false 1 (.t 27)⟩,
  ⟨some 29, none, .faddr 0 (.t 7)⟩,
  ⟨some 30, none, .load false 1 (.t 29)⟩,
  ⟨some 31, none, .bini .neq (.t 28) (.t 30)⟩,
  ⟨some 32, none, .mv (.t 31)⟩,
  ⟨some 33, (some (32, false)), .faddr 1 (.t 6)⟩,
  ⟨some 34, (some (32, false)), .load false 1 (.t 33)⟩,
  ⟨some 35, (some (32, false)), .faddr 1 (.t 7)⟩,
  ⟨some 36, (some (32, false)), .load false 1 (.t 35)⟩,
  ⟨some 37, (some (32, false)), .bini .neq (.t 34) (.t 36)⟩,
  ⟨some 38, none, .pick (.t 32) (.c (.bool true)) (.t 37)⟩,
  ⟨some 39, none, .mv (.t 38)⟩,
  ⟨some 40, (some (39, false)), .faddr 2 (.t 6)⟩,
  ⟨some 41, (some (39, false)), .load false 1 (.t 40)⟩,
  ⟨some 42, (some (39, false)), .faddr 2 (.t 7)⟩,
  ⟨some 43, (some (39, false)), .load false 1 (.t 42)⟩,
  ⟨some 44, (some (39, false)), .bini .neq (.t 41) (.t 43)⟩,
  ⟨some 45, none, .pick (.t 39) (.c (.bool true)) (.t 44)⟩,
  ⟨some 46, none, .mv (.t 45)⟩,
  ⟨some 47, (some (46, false)), .faddr 3 (.t 6)⟩,
  ⟨some 48, (some (46, false)), .load false 1 (.t 47)⟩,
  ⟨some 49, (some (46, false)), .faddr 3 (.t 7)⟩,
  ⟨some 50, (some (46, false)), .load false 1 (.t 49)⟩,
  ⟨some 51, (some (46, false)), .bini .neq (.t 48) (.t 50)⟩,
  ⟨some 52, none, .pick (.t 46) (.c (.bool true)) (.t 51)⟩,
  ⟨some 53, none, .mv (.t 52)⟩,
  ⟨some 54, (some (53, false)), .faddr 4 (.t 6)⟩,
  ⟨some 55, (some (53, false)), .load false 1 (.t 54)⟩,
  ⟨some 56, (some (53, false)), .faddr 4 (.t 7)⟩,
  ⟨some 57, (some (53, false)), .load false 1 (.t 56)⟩,
  ⟨some 58, (some (53, false)), .call 33 [(.t 55), (.t 57)]⟩,
  ⟨some 59, (some (53, false)), .un .not (.t 58)⟩,
  ⟨some 60, none, .pick (.t 53) (.c (.bool true)) (.t 59)⟩])
 (.cond (.t 60)
 (.seq (.reg [⟨some 4, none, .mv (.c (.bool false))⟩])
 .ret)
 .skip))))
 (.reg [⟨some 17, none, .mv (.t 5)⟩,
  ⟨some 18, none, .bini .add (.t 17) (.c (.int .i64 1))⟩,
  ⟨some 5, none, .mv (.t 18)⟩]))))))
 (.seq (.reg [⟨some 4, none, .mv (.c (.bool true))⟩])
 .ret))))
theorem d32 : FnD Try.prog 32 2 59 [.tmp 4] c32 := ⟨Try.f32, _, Try.func32, by kernel_rfl, rfl, rfl, by kernel_rfl, by kernel_rfl⟩

/-- palimp/palimpref11.Same -/
def c33 : ACode :=
 (.seq (.reg [⟨some 4, none, .mv (.c (.bool false))⟩])
 (.seq (.seq (.reg [⟨some 6, none, .mv (.t 0)⟩,
  ⟨some 7, none, .len false (.t 6)⟩,
  ⟨some 8, none, .mv (.t 1)⟩,
  ⟨some 9, none, .len false (.t 8)⟩,
  ⟨some 10, none, .bini .neq (.t 7) (.t 9)⟩])
 (.cond (.t 10)
 (.seq (.reg [⟨some 4, none, .mv (.c (.bool false))⟩])
 .ret)
 .skip))
 (.seq (.seq (.reg [⟨some 5, none, .mv (.c (.int .i64 0))⟩])
 (.block 0
 (.loop
 (.seq (.seq (.reg [⟨some 11, none, .mv (.t 5)⟩,
  ⟨some 12, none, .mv (.t 0)⟩,
  ⟨some 13, none, .len false (.t 12)⟩,
  ⟨some 14, none, .bini .lss (.t 11) (.t 13)⟩])
 (.cond (.t 14)
 .skip
 (.exit 0)))
 (.seq (.block 1
 (.seq (.dreg [⟨some 17, none, .mv (.t 0)⟩,
  ⟨some 18, none, .mv (.t 5)⟩,
  ⟨some 19, none, .iaddr 5 (.t 17) (.t 18)⟩,
  ⟨some 20, none, .load true 5 (.t 19)⟩,
  ⟨some 21, none, .mv (.t 1)⟩,
  ⟨some 22, none, .mv (.t 5)⟩,
  ⟨some 23, none, .iaddr 5 (.t 21) (.t 22)⟩,
  ⟨some 24, none, .load true 5 (.t 23)⟩,
  ⟨some 25, none, .eqs true [.i, .i, .s, .s, .i] (.t 20) (.t 24)⟩])
 (.cond (.t 25)
 (.seq (.reg [⟨some 4, none, .mv (.c (.bool false))⟩])
 .ret)
 .skip)))
 (.reg [⟨some 15, none, .mv (.t 5)⟩,
  ⟨some 16, none, .bini .add (.t 15) (.c (.int .i64 1))⟩,
  ⟨some 5, none, .mv (.t 16)⟩]))))))
 (.seq (.reg [⟨some 4, none, .mv (.c (.bool true))⟩])
 .ret))))
theorem d33 : FnD Try.prog 33 2 24 [.tmp 4] c33 := ⟨Try.f33, _, Try.func33, by kernel_rfl, rfl, rfl, by kernel_rfl, by kernel_rfl⟩

/-- palimp/palimpref11.Drop -/
def c34 : ACode :=
 (.seq (.reg [⟨some 4, none, .mv (.c (.emp))⟩,
  ⟨some 5, none, .mv (.c (.int .i64 0))⟩])
 (.seq (.reg [⟨some 9, none, .mv (.t 0)⟩,
  ⟨some 10, none, .mv (.t 1)⟩,
  ⟨some 11, none, .call 56 [(.t 9), (.t 10)]⟩,
  ⟨some 8, none, .mv (.t 11)⟩,
  ⟨some 12, none, .ext (.t 8) 0⟩,
  ⟨some 13, none, .ext (.t 8) 1⟩,
  ⟨some 6, none, .mv (.t 12)⟩,
  ⟨some 7, none, .mv (.t 13)⟩])
 (.seq (.seq (.reg [⟨some 14, none, .mv (.t 7)⟩,
  ⟨some 15, none, .bini .neq (.t 14) (.c (.int .i64 0))⟩])
 (.cond (.t 15)
 (.seq (.reg [⟨some 16, none, .mv (.t 0)⟩,
  ⟨some 17, none, .mv (.t 7)⟩,
  ⟨some 4, none, .mv (.t 16)⟩,
  ⟨some 5, none, .mv (.t 17)⟩])
 .ret)
 .skip))
 (.seq (.seq (.reg [⟨some 18, none, .mv (.t 6)⟩,
  ⟨some 19, none, .bini .eql (.t 18) (.c (.int .i64 0))⟩])
 (.cond (.t 19)
 (.seq (.reg [⟨some 20, none, .mv (.t 0)⟩,
  ⟨some 4, none, .mv (.t 20)⟩,
  ⟨some 5, none, .mv (.c (.int .i64 4))⟩])
 .ret)
 .skip))
 (.seq (.seq (.reg [⟨some 21, none, .mv (.t 0)⟩,
  ⟨some 22, none, .mv (.t 6)⟩,
  ⟨some 23, none, .call 71 [(.t 21), (.t 22)]⟩,
  ⟨some 24, none, .len false (.t 23)⟩,
  ⟨some 25, none, .bini .gtr (.t 24) (.c (.int .i64 0))⟩])
 (.cond (.t 25)
 (.seq (.reg [⟨some 26, none, .mv (.t 0)⟩,
  ⟨some 4, none, .mv (.t 26)⟩,
  ⟨some 5, none, .mv (.c (.int .i64 6))⟩])
 .ret)
 .skip))
 (.seq (.reg [⟨some 27, none, .mv (.t 0)⟩,
  ⟨some 28, none, .mv (.t 6)⟩,
  ⟨some 29, none, .build [.int .i64 0, .int .i64 0, .str [], .str [], .int .i64 0] []⟩,
  ⟨some 30, none, .call 49 [(.t 27), (.t 28), (.t 29)]⟩,
  ⟨some 4, none, .mv (.t 30)⟩,
  ⟨some 5, none, .mv (.c (.int .i64 0))⟩])
 .ret))))))
theorem d34 : FnD Try.prog 34 2 29 [.tmp 4, .tmp 5] c34 := ⟨Try.f34, _, Try.func34, by kernel_rfl, rfl, rfl, by kernel_rfl, by kernel_rfl⟩

/-- palimp/palimpref11.Move -/
def c35 : ACode :=
 (.seq (.reg [⟨some 6, none, .mv (.c (.emp))⟩,
  ⟨some 7, none, .mv (.c (.int .i64 0))⟩])
 (.seq (.reg [⟨some 16, none, .mv (.t 0)⟩,
  ⟨some 17, none, .mv (.t 1)⟩,
  ⟨some 18, none, .call 56 [(.t 16), (.t 17)]⟩,
  ⟨some 15, none, .mv (.t 18)⟩,
  ⟨some 19, none, .ext (.t 15) 0⟩,
  ⟨some 20, none, .ext (.t 15) 1⟩,
  ⟨some 8, none, .mv (.t 19)⟩,
  ⟨some 9, none, .mv (.t 20)⟩])
 (.seq (.seq (.reg [⟨some 21, none, .mv (.t 9)⟩,
  ⟨some 22, none, .bini .neq (.t 21) (.c (.int .i64 0))⟩])
 (.cond (.t 22)
 (.seq (.reg [⟨some 23, none, .mv (.t 0)⟩,
  ⟨some 24, none, .mv (.t 9)⟩,
  ⟨some 6, none, .mv (.t 23)⟩,
  ⟨some 7, none, .mv (.t 24)⟩])
 .ret)
 .skip))
 (.seq (.seq (.reg [⟨some 25, none, .mv (.t 8)⟩,
  ⟨some 26, none, .bini .eql (.t 25) (.c (.int .i64 0))⟩])
 (.cond (.t 26)
 (.seq (.reg [⟨some 27, none, .mv (.t 0)⟩,
  ⟨some 6, none, .mv (.t 27)⟩,
  ⟨some 7, none, .mv (.c (.int .i64 4))⟩])
 .ret)
 .skip))
 (.seq (.reg [⟨some 29, none, .mv (.t 0)⟩,
  ⟨some 30, none, .mv (.t 2)⟩,
  ⟨some 31, none, .call 46 [(.t 29), (.t 30)]⟩,
  ⟨some 28, none, .mv (.t 31)⟩,
  ⟨some 32, none, .ext (.t 28) 0⟩,
  ⟨some 33, none, .ext (.t 28) 1⟩,
  ⟨some 34, none, .ext (.t 28) 2⟩,
  ⟨some 10, none, .mv (.t 32)⟩,
  ⟨some 11, none, .mv (.t 33)⟩,
  ⟨some 9, none, .mv (.t 34)⟩])
 (.seq (.seq (.reg [⟨some 35, none, .mv (.t 9)⟩,
  ⟨some 36, none, .bini .neq (.t 35) (.c (.int .i64 0))⟩])
 (.cond (.t 36)
 (.seq (.reg [⟨some 37, none, .mv (.t 0)⟩,
  ⟨some 38, none, .mv (.t 9)⟩,
  ⟨some 6, none, .mv (.t 37)⟩,
  ⟨some 7, none, .mv (.t 38)⟩])
 .ret)
 .skip))
 (.seq (.reg [⟨some 40, none, .mv (.t 0)⟩,
  ⟨some 41, none, .mv (.t 10)⟩,
  ⟨some 42, none, .mv (.t 11)⟩,
  ⟨some 43, none, .call 47 [(.t 40), (.t 41), (.t 42)]⟩,
  ⟨some 39, none, .mv (.t 43)⟩,
  ⟨some 44, none, .ext (.t 39) 0⟩,
  ⟨some 45, none, .ext (.t 39) 1⟩,
  ⟨some 12, none, .mv (.t 44)⟩,
  ⟨some 13, none, .mv (.t 45)⟩])
 (.seq (.seq (.reg [⟨some 46, none, .mv (.t 13)⟩,
  ⟨some 47, none, .mv (.t 46)⟩,
  ⟨some 48, (some (47, true)), .mv (.t 12)⟩,
  ⟨some 49, (some (47, true)), .mv (.t 8)⟩,
  ⟨some 50, (some (47, true)), .bini .eql (.t 48) (.t 49)⟩,
  ⟨some 51, none, .pick (.t 47) (.t 50) (.c (.bool false))⟩])
 (.cond (.t 51)
 (.seq (.reg [⟨some 52, none, .mv (.t 0)⟩,
  ⟨some 6, none, .mv (.t 52)⟩,
  ⟨some 7, none, .mv (.c (.int .i64 0))⟩])
 .ret)
 .skip))
 (.seq (.seq (.reg [⟨some 53, none, .mv (.t 13)⟩])
 (.cond (.t 53)
 (.seq (.reg [⟨some 54, none, .mv (.t 0)⟩,
  ⟨some 6, none, .mv (.t 54)⟩,
  ⟨some 7, none, .mv (.c (.int .i64 3))⟩])
 .ret)
 .skip))
 (.seq (.seq (.reg [⟨some 55, none, .mv (.t 0)⟩,
  ⟨some 56, none, .mv (.t 10)⟩,
  ⟨some 57, none, .mv (.t 8)⟩,
  ⟨some 58, none, .call 72 [(.t 55), (.t 56), (.t 57)]⟩])
 (.cond (.t 58)
 (.seq (.reg [⟨some 59, none, .mv (.t 0)⟩,
  ⟨some 6, none, .mv (.t 59)⟩,
  ⟨some 7, none, .mv (.c (.int .i64 7))⟩])
 .ret)
 .skip))
 (.seq (.reg [⟨some 60, none, .mv (.t 0)⟩,
  ⟨some 61, none, .mv (.t 8)⟩,
  ⟨some 62, none, .iaddr 5 (.t 60) (.t 61)⟩,
  ⟨some 63, none, .load true 5 (.t 62)⟩,
  ⟨some 14, none, .alloc [.int .i64 0, .int .i64 0, .str [], .str [], .int .i64 0]⟩,
  ⟨none, none, .store 5 (.t 14) (.t 63)⟩])
 (.seq (.reg [⟨some 64, none, .mv (.t 10)⟩,
  ⟨some 65, none, .mv (.t 11)⟩,
  ⟨some 66, none, .faddr 1 (.t 14)⟩,
  ⟨none, none, .store 1 (.t 66) (.t 64)⟩,
  ⟨some 67, none, .faddr 2 (.t 14)⟩,
  ⟨none, none, .store 1 (.t 67) (.t 65)⟩])
 (.seq (.reg [⟨some 68, none, .mv (.t 0)⟩,
  ⟨some 69, none, .mv (.t 8)⟩,
  ⟨some 70, none, .load true 5 (.t 14)⟩,
  ⟨some 71, none, .call 49 [(.t 68), (.t 69), (.t 70)]⟩,
  ⟨some 6, none, .mv (.t 71)⟩,
  ⟨some 7, none, .mv (.c (.int .i64 0))⟩])
 .ret)))))))))))))
theorem d35 : FnD Try.prog 35 3 69 [.tmp 6, .tmp 7] c35 := ⟨Try.f35, _, Try.func35, by kernel_rfl, rfl, rfl, by kernel_rfl, by kernel_rfl⟩

/-- palimp/palimpref11.Cut -/
def c36 : ACode :=
 (.seq (.reg [⟨some 6, none, .mv (.c (.emp))⟩,
  ⟨some 7, none, .mv (.c (.int .i64 0))⟩])
 (.seq (.reg [⟨some 12, none, .mv (.t 0)⟩,
  ⟨some 13, none, .mv (.t 1)⟩,
  ⟨some 14, none, .call 50 [(.t 12), (.t 13)]⟩,
  ⟨some 11, none, .mv (.t 14)⟩,
  ⟨some 15, none, .ext (.t 11) 0⟩,
  ⟨some 16, none, .ext (.t 11) 1⟩,
  ⟨some 8, none, .mv (.t 15)⟩,
  ⟨some 9, none, .mv (.t 16)⟩])
 (.seq (.seq (.reg [⟨some 17, none, .mv (.t 9)⟩,
  ⟨some 18, none, .bini .neq (.t 17) (.c (.int .i64 0))⟩])
 (.cond (.t 18)
 (.seq (.reg [⟨some 19, none, .mv (.t 0)⟩,
  ⟨some 20, none, .mv (.t 9)⟩,
  ⟨some 6, none, .mv (.t 19)⟩,
  ⟨some 7, none, .mv (.t 20)⟩])
 .ret)
 .skip))
 (.seq (.seq (.reg [⟨some 21, none, .mv (.t 2)⟩,
  ⟨some 22, none, .bini .lss (.t 21) (.c (.int .i64 0))⟩])
 (.cond (.t 22)
 (.seq (.reg [⟨some 23, none, .mv (.t 0)⟩,
  ⟨some 6, none, .mv (.t 23)⟩,
  ⟨some 7, none, .mv (.c (.int .i64 1))⟩])
 .ret)
 .skip))
 (.seq (.seq (.reg [⟨some 24, none, .mv (.t 2)⟩,
  ⟨some 25, none, .bini .gtr (.t 24) (.c (.int .i64 128))⟩])
 (.cond (.t 25)
 (.seq (.reg [⟨some 26, none, .mv (.t 0)⟩,
  ⟨some 6, none, .mv (.t 26)⟩,
  ⟨some 7, none, .mv (.c (.int .i64 8))⟩])
 .ret)
 .skip))
 (.seq (.reg [⟨some 27, none, .mv (.t 0)⟩,
  ⟨some 28, none, .mv (.t 8)⟩,
  ⟨some 29, none, .iaddr 5 (.t 27) (.t 28)⟩,
  ⟨some 30, none, .load true 5 (.t 29)⟩,
  ⟨some 10, none, .alloc [.int .i64 0, .int .i64 0, .str [], .str [], .int .i64 0]⟩,
  ⟨none, none, .store 5 (.t 10) (.t 30)⟩])
 (.seq (.reg [⟨some 31, none, .faddr 3 (.t 10)⟩,
  ⟨some 32, none, .load false 1 (.t 31)⟩,
  ⟨some 33, none, .mv (.t 2)⟩,
  ⟨some 34, none, .call 51 [(.t 32), (.t 33)]⟩,
  ⟨some 35, none, .faddr 3 (.t 10)⟩,
  ⟨none, none, .store 1 (.t 35) (.t 34)⟩])
 (.seq (.reg [⟨some 36, none, .mv (.t 0)⟩,
  ⟨some 37, none, .mv (.t 8)⟩,
  ⟨some 38, none, .load true 5 (.t 10)⟩,
  ⟨some 39, none, .call 49 [(.t 36), (.t 37), (.t 38)]⟩,
  ⟨some 6, none, .mv (.t 39)⟩,
  ⟨some 7, none, .mv (.c (.int .i64 0))⟩])
 .ret))))))))
theorem d36 : FnD Try.prog 36 3 37 [.tmp 6, .tmp 7] c36 := ⟨Try.f36, _, Try.func36, by kernel_rfl, rfl, rfl, by kernel_rfl, by kernel_rfl⟩

/-- (*palimp/palimpmade.Picks).Path -/
def c37 : ACode :=
 (.seq (.reg [⟨some 2, none, .mv (.c (.str []))⟩])
 (.seq (.reg [⟨some 3, none, .bslice 1 15 [.str []] [(0, (.c (.str [97]))), (1, (.c (.str [98]))), (2, (.c (.str [99]))), (3, (.c (.str [97, 47, 98]))), (4, (.c (.str [97, 47, 99]))), (5, (.c (.str [98, 47, 97]))), (6, (.c (.str [97, 47, 98, 47, 99]))), (7, (.c (.str [100]))), (8, (.c (.str [99, 47, 100]))), (9, (.c (.str []))), (10, (.c (.str [47, 97]))), (11, (.c (.str [97, 47, 47, 98]))), (12, (.c (.str [116, 111, 111, 108, 111, 110, 103, 110, 97, 109, 101]))), (13, (.c (.str [65]))), (14, (.c (.str [46, 46])))]⟩,
  ⟨some 4, none, .mv (.t 0)⟩,
  ⟨some 5, none, .call 24 [(.t 4), (.c (.int .i64 15))]⟩,
  ⟨some 6, none, .iaddr 1 (.t 3) (.t 5)⟩,
  ⟨some 7, none, .load false 1 (.t 6)⟩,
  ⟨some 2, none, .mv (.t 7)⟩])
 .ret))
theorem d37 : FnD Try.prog 37 1 7 [.tmp 2] c37 := ⟨Try.f37, _, Try.func37, by kernel_rfl, rfl, rfl, by kernel_rfl, by kernel_rfl⟩

/-- (*palimp/palimpmade.Picks).Text -/
def c38 : ACode :=
 (.seq (.reg [⟨some 2, none, .mv (.c (.str []))⟩])
 (.seq (.reg [⟨some 7, none, .bslice 1 8 [.int .i64 0] [(0, (.c (.int .i64 0))), (1, (.c (.int .i64 1))), (2, (.c (.int .i64 3))), (3, (.c (.int .i64 17))), (4, (.c (.int .i64 32))), (5, (.c (.int .i64 33))), (6, (.c (.int .i64 64))), (7, (.c (.int .i64 129)))]⟩,
  ⟨some 8, none, .mv (.t 0)⟩,
  ⟨some 9, none, .call 24 [(.t 8), (.c (.int .i64 8))]⟩,
  ⟨some 10, none, .iaddr 1 (.t 7) (.t 9)⟩,
  ⟨some 11, none, .load false 1 (.t 10)⟩,
  ⟨some 3, none, .mv (.t 11)⟩])
 (.seq (.reg [⟨some 12, none, .mv (.t 0)⟩,
  ⟨some 13, none, .call 24 [(.t 12), (.c (.int .i64 4))]⟩,
  ⟨some 14, none, .bini .mul (.t 13) (.c (.int .i64 40))⟩,
  ⟨some 15, none, .convi .u8 (.t 14)⟩,
  ⟨some 4, none, .mv (.t 15)⟩])
 (.seq (.reg [⟨some 16, none, .mv (.t 3)⟩,
  ⟨some 17, none, .mksl 1 1 [.int .u8 0] (.t 16) (.t 16)⟩,
  ⟨some 5, none, .mv (.t 17)⟩])
 (.seq (.seq (.reg [⟨some 6, none, .mv (.c (.int .i64 0))⟩])
 (.block 0
 (.loop
 (.seq (.seq (.reg [⟨some 18, none, .mv (.t 6)⟩,
  ⟨some 19, none, .mv (.t 3)⟩,
  ⟨some 20, none, .bini .lss (.t 18) (.t 19)⟩])
 (.cond (.t 20)
 .skip
 (.exit 0)))
 (.seq (.block 1
 (.seq (.reg [⟨some 23, none, .mv (.t 4)⟩,
  ⟨some 24, none, .bini .gtr (.t 23) (.c (.int .u8 0))⟩])
 (.cond (.t 24)
 (.reg [⟨some 25, none, .mv (.t 5)⟩,
  ⟨some 26, none, .mv (.t 6)⟩,
  ⟨some 27, none, .mv (.t 4)⟩,
  ⟨some 28, none, .mv (.t 6)⟩,
  ⟨some 29, none, .bini .rem (.t 28) (.c (.int .i64 5))⟩,
  ⟨some 30, none, .convi .u8 (.t 29)⟩,
  ⟨some 31, none, .bini .add (.t 27) (.t 30)⟩,
  ⟨some 32, none, .iaddr 1 (.t 25) (.t 26)⟩,
  ⟨none, none, .store 1 (.t 32) (.t 31)⟩])
 .skip)))
 (.reg [⟨some 21, none, .mv (.t 6)⟩,
  ⟨some 22, none, .bini .add (.t 21) (.c (.int .i64 1))⟩,
  ⟨some 6, none, .mv (.t 22)⟩]))))))
 (.seq (.reg [⟨some 33, none, .mv (.t 5)⟩,
  ⟨some 34, none, .convbs (.t 33)⟩,
  ⟨some 2, none, .mv (.t 34)⟩])
 .ret))))))
theorem d38 : FnD Try.prog 38 1 34 [.tmp 2] c38 := ⟨Try.f38, _, Try.func38, by kernel_rfl, rfl, rfl, by kernel_rfl, by kernel_rfl⟩

end Go.Proofs.Ytemjlopoffjmpaa.Abs
set_option linter.unusedSimpArgs false
set_option linter.unusedVariables false
namespace Go.Proofs.Ytemjlopoffjmpaa.Abs
open Go Go.Proofs

def pbyte (b : UInt8) : List PV := [.int .u8 b.toNat]
/-- The heap of a *Picks. -/
def picksH (l : List UInt8) (n : Int) : AH := [some [[.fz (l.map pbyte), .int .i64 n]]]

/-- Num: a number below k, and how far the numbers are used up. -/
theorem num_spec (l : List UInt8) (n k : Int) (hn : 0 ≤ n) (hl : l.length ≤ 1000000) :
    C Try.prog 24 [.ptr 0 0 0 1, .int .i64 k] (picksH l n) (fun x H' => ∃ m n' : Int, x = .int .i64 m ∧ 0 ≤ m ∧ (1 ≤ k → m < k) ∧ (k < 1 → m = 0) ∧ n ≤ n' ∧ n' ≤ n + 1 ∧ H' = picksH l n') := by
  refine C_body d24 rfl (WT_ok ?_)
  unfold c24 picksH
  simp only [wk, iaddrV_map, emb, unAgg, ares, aresL, ares1, tupled, forall_const, Nat.reduceAdd, Nat.reduceSub, Nat.reduceMul, Nat.reduceLeDiff, Nat.reduceEqDiff, Nat.reduceBEq, Int.reduceLE, Int.reduceLT, Int.reduceEq, Int.reduceNe, Int.reduceAdd, Int.reduceSub, Int.reduceToNat, Int.reduceNeg, ↓reduceIte, reduceCtorEq, cellsOf, cellA, lay, fillA]
  refine WT_draw ?_
  simp only [wk, iaddrV_map, emb, unAgg, ares, aresL, ares1, tupled, forall_const, Nat.reduceAdd, Nat.reduceSub, Nat.reduceMul, Nat.reduceLeDiff, Nat.reduceEqDiff, Nat.reduceBEq, Int.reduceLE, Int.reduceLT, Int.reduceEq, Int.reduceNe, Int.reduceAdd, Int.reduceSub, Int.reduceToNat, Int.reduceNeg, ↓reduceIte, reduceCtorEq, cellsOf, cellA, lay, fillA]
  refine guard_both ?_ ?_ <;> intro h <;> simp only [hy] at h <;> simp only [h, wk, iaddrV_map, emb, unAgg, ares, aresL, ares1, tupled, forall_const, Nat.reduceAdd, Nat.reduceSub, Nat.reduceMul, Nat.reduceLeDiff, Nat.reduceEqDiff, Nat.reduceBEq, Int.reduceLE, Int.reduceLT, Int.reduceEq, Int.reduceNe, Int.reduceAdd, Int.reduceSub, Int.reduceToNat, Int.reduceNeg, ↓reduceIte, reduceCtorEq, cellsOf, cellA, lay, fillA]
  · refine guard_both ?_ ?_ <;> intro h2 <;> simp only [hy] at h2 <;> simp only [h, h2, wk, iaddrV_map, emb, unAgg, ares, aresL, ares1, tupled, forall_const, Nat.reduceAdd, Nat.reduceSub, Nat.reduceMul, Nat.reduceLeDiff, Nat.reduceEqDiff, Nat.reduceBEq, Int.reduceLE, Int.reduceLT, Int.reduceEq, Int.reduceNe, Int.reduceAdd, Int.reduceSub, Int.reduceToNat, Int.reduceNeg, ↓reduceIte, reduceCtorEq, cellsOf, cellA, lay, fillA]
    · exact ⟨0, n, rfl, by omega, by omega, by omega, by omega, by omega, rfl⟩
    · have w1 : IntKind.i64.wrap (n + 1) = n + 1 := IntWalk.i64_in _ (by omega)
      have w2 : IntKind.i64.wrap (n + 1 - 1) = n := by rw [IntWalk.i64_in _ (by omega)]; omega
      simp only [w1, w2, wk, iaddrV_map, emb, unAgg, ares, aresL, ares1, tupled, forall_const, Nat.reduceAdd, Nat.reduceSub, Nat.reduceMul, Nat.reduceLeDiff, Nat.reduceEqDiff, Nat.reduceBEq, Int.reduceLE, Int.reduceLT, Int.reduceEq, Int.reduceNe, Int.reduceAdd, Int.reduceSub, Int.reduceToNat, Int.reduceNeg, ↓reduceIte, reduceCtorEq, cellsOf, cellA, lay, fillA]
      refine WT_draw ?_
      simp only [w1, w2, wk, iaddrV_map, emb, unAgg, ares, aresL, ares1, tupled, forall_const, Nat.reduceAdd, Nat.reduceSub, Nat.reduceMul, Nat.reduceLeDiff, Nat.reduceEqDiff, Nat.reduceBEq, Int.reduceLE, Int.reduceLT, Int.reduceEq, Int.reduceNe, Int.reduceAdd, Int.reduceSub, Int.reduceToNat, Int.reduceNeg, ↓reduceIte, reduceCtorEq, cellsOf, cellA, lay, fillA]
      refine ⟨⟨by omega, rfl⟩, ?_⟩
      simp only [pbyte, wk, iaddrV_map, emb, unAgg, ares, aresL, ares1, tupled, forall_const, Nat.reduceAdd, Nat.reduceSub, Nat.reduceMul, Nat.reduceLeDiff, Nat.reduceEqDiff, Nat.reduceBEq, Int.reduceLE, Int.reduceLT, Int.reduceEq, Int.reduceNe, Int.reduceAdd, Int.reduceSub, Int.reduceToNat, Int.reduceNeg, ↓reduceIte, reduceCtorEq, cellsOf, cellA, lay, fillA]
      have hb : (l.getD n.toNat default).toNat < 256 := UInt8.toNat_lt _
      have w3 : IntKind.i64.wrap ((l.getD n.toNat default).toNat : Int) = ((l.getD n.toNat default).toNat : Int) := IntWalk.i64_in _ (by omega)
      rw [w3]
      refine ⟨by omega, _, n + 1, rfl, Int.tmod_nonneg _ (by omega), fun _ => Int.tmod_lt_of_pos _ (by omega), by omega, by omega, by omega, rfl⟩
  · exact ⟨0, n, rfl, by omega, by omega, by omega, by omega, by omega, rfl⟩
end Go.Proofs.Ytemjlopoffjmpaa.Abs
set_option linter.unusedSimpArgs false
set_option linter.unusedVariables false
namespace Go.Proofs.Ytemjlopoffjmpaa.Abs
open Go Go.Proofs

/-- palimpref11.New -/
def newA : List Node := [⟨2, 0, [], [], 0⟩, ⟨0, 0, [], [], 0⟩, ⟨0, 0, [], [], 0⟩, ⟨0, 0, [], [], 0⟩, ⟨0, 0, [], [], 0⟩, ⟨0, 0, [], [], 0⟩, ⟨0, 0, [], [], 0⟩, ⟨0, 0, [], [], 0⟩]

theorem new_spec0 : C Try.prog 10 [] [] (fun x H' => x = aset newA ∧ H' = []) := by
  refine C_body' d10 rfl (WT_ok ?_)
  unfold c10
  simp only [wk, iaddrV_map, emb, unAgg, ares, aresL, ares1, tupled, forall_const, Nat.reduceAdd, Nat.reduceSub, Nat.reduceMul, Nat.reduceLeDiff, Nat.reduceEqDiff, Nat.reduceBEq, Int.reduceLE, Int.reduceLT, Int.reduceEq, Int.reduceNe, Int.reduceAdd, Int.reduceSub, Int.reduceToNat, Int.reduceNeg, ↓reduceIte, reduceCtorEq, cellsOf, cellA, lay, fillA]
  exact ⟨by omega, KWk_frozen 0 (newA.map pnode) rfl (aset newA) rfl ⟨rfl, rfl⟩⟩

theorem new_spec (H : AH) : C Try.prog 10 [] H (fun x H' => x = aset newA ∧ H' = H) :=
  C_pure (K0 := fun x => x = aset newA) new_spec0 (fun _ => rfl) (by rintro x rfl τ; simp [aset, ren]) H
end Go.Proofs.Ytemjlopoffjmpaa.Abs
set_option linter.unusedSimpArgs false
set_option linter.unusedVariables false
namespace Go.Proofs.Ytemjlopoffjmpaa.Abs
open Go Go.Proofs

/-- Made -/
theorem made_spec (l : List UInt8) : C Try.prog 9 [.fz (l.map pbyte)] [] (fun x H' => x = .ptr 0 0 0 1 ∧ H' = picksH l 0) := by
  refine C_body d9 rfl (WT_ok ?_)
  unfold c9
  simp only [wk, iaddrV_map, emb, unAgg, ares, aresL, ares1, tupled, forall_const, Nat.reduceAdd, Nat.reduceSub, Nat.reduceMul, Nat.reduceLeDiff, Nat.reduceEqDiff, Nat.reduceBEq, Int.reduceLE, Int.reduceLT, Int.reduceEq, Int.reduceNe, Int.reduceAdd, Int.reduceSub, Int.reduceToNat, Int.reduceNeg, ↓reduceIte, reduceCtorEq, cellsOf, cellA, lay, fillA]
  rfl

/-- Num over a heap of more objects. -/
theorem num_at (l : List UInt8) (n k : Int) (hn : 0 ≤ n) (hl : l.length ≤ 1000000) (R : AH) :
    C Try.prog 24 [.ptr 0 0 0 1, .int .i64 k] (some [[.fz (l.map pbyte), .int .i64 n]] :: R) (fun x H' => ∃ m n' : Int, x = .int .i64 m ∧ 0 ≤ m ∧ (1 ≤ k → m < k) ∧ (k < 1 → m = 0) ∧ n ≤ n' ∧ n' ≤ n + 1 ∧ H' = some [[.fz (l.map pbyte), .int .i64 n']] :: R) := by
  refine C_call (K0 := fun x H' => ∃ m n' : Int, x = .int .i64 m ∧ 0 ≤ m ∧ (1 ≤ k → m < k) ∧ (k < 1 → m = 0) ∧ n ≤ n' ∧ n' ≤ n + 1 ∧ H' = picksH l n') [0] (by simp) (by simp) ?_ ?_
  · exact num_spec l n k hn hl
  · rintro _ _ ⟨m, n', rfl, h1, h2, h3, h4, h5, rfl⟩
    exact ⟨Nat.le_refl _, m, n', rfl, h1, h2, h3, h4, h5, by simp [back, setAll, picksH, renO, renL, ren]⟩
end Go.Proofs.Ytemjlopoffjmpaa.Abs
set_option linter.unusedSimpArgs false
set_option linter.unusedVariables false
namespace Go.Proofs.Ytemjlopoffjmpaa.Abs
open Go Go.Proofs

theorem pick_of (L : AObj) (p : List AV → Prop) (h : ∀ e ∈ L, p e) (i : Nat) (hi : i < L.length) : ∃ e, L[i]? = some e ∧ p e :=
  ⟨L[i], List.getElem?_eq_getElem hi, h _ (List.getElem_mem hi)⟩

/-- Path: some text. -/
theorem path_spec (l : List UInt8) (n : Int) (hn : 0 ≤ n) (hl : l.length ≤ 1000000) :
    C Try.prog 37 [.ptr 0 0 0 1] (picksH l n) (fun x H' => ∃ (p : List UInt8) (n' : Int), x = .str p ∧ p.length ≤ 11 ∧ n ≤ n' ∧ n' ≤ n + 1 ∧ H' = picksH l n') := by
  refine C_body' d37 rfl (WT_ok ?_)
  unfold c37 picksH
  simp only [RT_bslice, bslC_some, chunks, List.flatten_cons, List.flatten_nil, wk, iaddrV_map, emb, unAgg, ares, aresL, ares1, tupled, forall_const, Nat.reduceAdd, Nat.reduceSub, Nat.reduceMul, Nat.reduceLeDiff, Nat.reduceEqDiff, Nat.reduceBEq, Int.reduceLE, Int.reduceLT, Int.reduceEq, Int.reduceNe, Int.reduceAdd, Int.reduceSub, Int.reduceToNat, Int.reduceNeg, ↓reduceIte, reduceCtorEq, cellsOf, cellA, lay, fillA]
  refine CT_ok (num_at l n 15 hn hl _) ?_
  rintro _ _ ⟨m, n', rfl, h1, h2, h3, h4, h5, rfl⟩
  simp only [wk, iaddrV_map, emb, unAgg, ares, aresL, ares1, tupled, forall_const, Nat.reduceAdd, Nat.reduceSub, Nat.reduceMul, Nat.reduceLeDiff, Nat.reduceEqDiff, Nat.reduceBEq, Int.reduceLE, Int.reduceLT, Int.reduceEq, Int.reduceNe, Int.reduceAdd, Int.reduceSub, Int.reduceToNat, Int.reduceNeg, ↓reduceIte, reduceCtorEq, cellsOf, cellA, lay, fillA]
  have h15 := h2 (by omega)
  obtain ⟨e, he, q, rfl, hq⟩ := pick_of [[AV.str [97]], [AV.str [98]], [AV.str [99]], [AV.str [97, 47, 98]], [AV.str [97, 47, 99]], [AV.str [98, 47, 97]], [AV.str [97, 47, 98, 47, 99]], [AV.str [100]], [AV.str [99, 47, 100]], [AV.str []], [AV.str [47, 97]], [AV.str [97, 47, 47, 98]], [AV.str [116, 111, 111, 108, 111, 110, 103, 110, 97, 109, 101]], [AV.str [65]], [AV.str [46, 46]]] (fun e => ∃ q : List UInt8, e = [.str q] ∧ q.length ≤ 11) (by simp) m.toNat (by simp; omega)
  refine ⟨⟨h1, h15⟩, ?_⟩
  simp only [he, wk, iaddrV_map, emb, unAgg, ares, aresL, ares1, tupled, forall_const, Nat.reduceAdd, Nat.reduceSub, Nat.reduceMul, Nat.reduceLeDiff, Nat.reduceEqDiff, Nat.reduceBEq, Int.reduceLE, Int.reduceLT, Int.reduceEq, Int.reduceNe, Int.reduceAdd, Int.reduceSub, Int.reduceToNat, Int.reduceNeg, ↓reduceIte, reduceCtorEq, cellsOf, cellA, lay, fillA]
  refine ⟨.str q, _, (Wk_forget 1 (Nat.le_refl _)).trans (Wk_tops ⟨.inr rfl, trivial⟩), q, n', rfl, hq, h4, h5, rfl⟩
end Go.Proofs.Ytemjlopoffjmpaa.Abs
set_option linter.unusedSimpArgs false
set_option linter.unusedVariables false
namespace Go.Proofs.Ytemjlopoffjmpaa.Abs
open Go Go.Proofs

/-- with -/
def withA (s : List Node) (n : Int) (x : Node) : List Node := if 0 ≤ n then s.set n.toNat x else s
def anode (x : Node) : AV := .agg ((pnode x).map emb)

theorem rows5 (s : List Node) : ((s.map pnode).map fun e => e.map emb).all (fun e => decide (e.length = 5)) = true := by
  simp [pnode]
/-- The end: a set that is written no more. -/
theorem frozen_set {K : AV → AH → Prop} {H : AH} (r : Nat) (s : List Node) (hat : H.at r = some ((s.map pnode).map fun e => e.map emb)) (L : Nat) (hL : L = s.length) (hk : K (aset s) []) : KWk 0 K (.own r 5 0 L L) H := by
  subst hL
  refine KWk_frozen r (s.map pnode) hat (aset s) ?_ hk
  simp only [frzL, frz, renL, ren, aset, if_true, List.length_map, Nat.zero_add, Nat.le_refl, and_self, List.drop_zero]
  rw [List.take_of_length_le (by simp)]

theorem with_spec0 (s : List Node) (hs : s.length ≤ 1000000) (n : Int) (x : Node) : C Try.prog 49 [aset s, .int .i64 n, anode x] [] (fun y H' => y = aset (withA s n x) ∧ H' = []) := by
  refine C_body' d49 rfl (WT_ok ?_)
  unfold c49
  simp only [aset, anode, pnode, wk3, chunks, wk, iaddrV_map, emb, unAgg, ares, aresL, ares1, tupled, forall_const, Nat.reduceAdd, Nat.reduceSub, Nat.reduceMul, Nat.reduceLeDiff, Nat.reduceEqDiff, Nat.reduceBEq, Int.reduceLE, Int.reduceLT, Int.reduceEq, Int.reduceNe, Int.reduceAdd, Int.reduceSub, Int.reduceToNat, Int.reduceNeg, ↓reduceIte, reduceCtorEq, cellsOf, cellA, lay, fillA]
  refine ⟨⟨rows5 s, by omega, by omega⟩, ?_⟩
  refine guard_both ?_ ?_ <;> intro h <;> simp only [hy] at h <;> simp only [h, wk3, chunks, wk, iaddrV_map, emb, unAgg, ares, aresL, ares1, tupled, forall_const, Nat.reduceAdd, Nat.reduceSub, Nat.reduceMul, Nat.reduceLeDiff, Nat.reduceEqDiff, Nat.reduceBEq, Int.reduceLE, Int.reduceLT, Int.reduceEq, Int.reduceNe, Int.reduceAdd, Int.reduceSub, Int.reduceToNat, Int.reduceNeg, ↓reduceIte, reduceCtorEq, cellsOf, cellA, lay, fillA]
  · refine guard_both ?_ ?_ <;> intro h2 <;> simp only [hy] at h2 <;> simp only [h, h2, wk3, chunks, wk, iaddrV_map, emb, unAgg, ares, aresL, ares1, tupled, forall_const, Nat.reduceAdd, Nat.reduceSub, Nat.reduceMul, Nat.reduceLeDiff, Nat.reduceEqDiff, Nat.reduceBEq, Int.reduceLE, Int.reduceLT, Int.reduceEq, Int.reduceNe, Int.reduceAdd, Int.reduceSub, Int.reduceToNat, Int.reduceNeg, ↓reduceIte, reduceCtorEq, cellsOf, cellA, lay, fillA]
    · have hg : s[n.toNat]? = some (s.getD n.toNat default) := by
        rw [List.getD_eq_getElem?_getD, List.getElem?_eq_getElem (show n.toNat < s.length by omega)]; rfl
      simp only [hg, pnode, wk3, chunks, wk, iaddrV_map, emb, unAgg, ares, aresL, ares1, tupled, forall_const, Nat.reduceAdd, Nat.reduceSub, Nat.reduceMul, Nat.reduceLeDiff, Nat.reduceEqDiff, Nat.reduceBEq, Int.reduceLE, Int.reduceLT, Int.reduceEq, Int.reduceNe, Int.reduceAdd, Int.reduceSub, Int.reduceToNat, Int.reduceNeg, ↓reduceIte, reduceCtorEq, cellsOf, cellA, lay, fillA]
      refine frozen_set 1 (withA s n x) ?_ _ (by simp [withA, h]) ⟨rfl, rfl⟩
      simp [AH.at, withA, h, List.map_set, pnode, emb]
    · refine frozen_set 1 (withA s n x) ?_ _ (by simp [withA, h]) ⟨rfl, rfl⟩
      have : s.set n.toNat x = s := List.set_eq_of_length_le (by omega)
      simp [AH.at, withA, h, this]
  · refine frozen_set 1 (withA s n x) ?_ _ (by simp [withA, h]) ⟨rfl, rfl⟩
    simp [AH.at, withA, h]

theorem with_spec (s : List Node) (hs : s.length ≤ 1000000) (n : Int) (x : Node) (H : AH) : C Try.prog 49 [aset s, .int .i64 n, anode x] H (fun y H' => y = aset (withA s n x) ∧ H' = H) :=
  C_pure (K0 := fun y => y = aset (withA s n x)) (with_spec0 s hs n x) (fun τ => by simp [renL, ren, aset, anode, pnode, emb]) (by rintro y rfl τ; simp [aset, ren]) H
end Go.Proofs.Ytemjlopoffjmpaa.Abs
set_option linter.unusedSimpArgs false
set_option linter.unusedVariables false
namespace Go.Proofs.Ytemjlopoffjmpaa.Abs
open Go Go.Proofs

/-- May a byte be in a name? -/
def okC (c : Nat) : Bool := decide (97 ≤ c ∧ c ≤ 122) || decide (48 ≤ c ∧ c ≤ 57) || decide (c = 46 ∨ c = 95 ∨ c = 45)
/-- MayName. -/
def mayN (s : List UInt8) : Bool := s.all (fun b => okC b.toNat) && decide (1 ≤ s.length ∧ s.length ≤ 8 ∧ s ≠ [46] ∧ s ≠ [46, 46])
theorem mayN_len {s : List UInt8} (h : mayN s = true) : 1 ≤ s.length ∧ s.length ≤ 8 := by
  simp only [mayN, Bool.and_eq_true, decide_eq_true_eq] at h
  exact ⟨h.2.1, h.2.2.1⟩

theorem mayname_spec (s : List UInt8) (hs : s.length ≤ 1000000) (H : AH) : C Try.prog 87 [.str s] H (fun x H' => x = .bool (mayN s) ∧ H' = H) := by
  refine C_body d87 rfl (WT_ok ?_)
  unfold c87
  simp only [wk, iaddrV_map, emb, unAgg, ares, aresL, ares1, tupled, forall_const, Nat.reduceAdd, Nat.reduceSub, Nat.reduceMul, Nat.reduceLeDiff, Nat.reduceEqDiff, Nat.reduceBEq, Int.reduceLE, Int.reduceLT, Int.reduceEq, Int.reduceNe, Int.reduceAdd, Int.reduceSub, Int.reduceToNat, Int.reduceNeg, ↓reduceIte, reduceCtorEq, cellsOf, cellA, lay, fillA]
  refine WT_loop (W_loop (fun n fr H' => ∃ i : Nat, i ≤ s.length ∧ n = s.length - i ∧ (s.take i).all (fun b => okC b.toNat) = true ∧ H' = H ∧ fr = [.str s, .top, .bool false, .int .i64 i] ++ List.replicate 53 .top) s.length ⟨0, by omega, rfl, rfl, rfl, rfl⟩ ?_)
  rintro n fr H' ⟨i, hi, rfl, hall, rfl, rfl⟩
  refine WT_ok ?_
  simp only [wk, iaddrV_map, emb, unAgg, ares, aresL, ares1, tupled, forall_const, Nat.reduceAdd, Nat.reduceSub, Nat.reduceMul, Nat.reduceLeDiff, Nat.reduceEqDiff, Nat.reduceBEq, Int.reduceLE, Int.reduceLT, Int.reduceEq, Int.reduceNe, Int.reduceAdd, Int.reduceSub, Int.reduceToNat, Int.reduceNeg, ↓reduceIte, reduceCtorEq, cellsOf, cellA, lay, fillA]
  refine guard_both ?_ ?_ <;> intro h <;> simp only [hy] at h <;> simp only [h, wk, iaddrV_map, emb, unAgg, ares, aresL, ares1, tupled, forall_const, Nat.reduceAdd, Nat.reduceSub, Nat.reduceMul, Nat.reduceLeDiff, Nat.reduceEqDiff, Nat.reduceBEq, Int.reduceLE, Int.reduceLT, Int.reduceEq, Int.reduceNe, Int.reduceAdd, Int.reduceSub, Int.reduceToNat, Int.reduceNeg, ↓reduceIte, reduceCtorEq, cellsOf, cellA, lay, fillA]
  · have hil : i < s.length := by omega
    have w2 : IntKind.i64.wrap ((i : Int) + 1) = (i : Int) + 1 := IntWalk.i64_in _ (by omega)
    refine ⟨by omega, ?_⟩
    have hg : s.getD i 0 = s[i] := by rw [List.getD_eq_getElem?_getD, List.getElem?_eq_getElem hil]; rfl
    have yes : okC (s.getD i 0).toNat = true → (s.take (i + 1)).all (fun b => okC b.toNat) = true := fun h => by
      rw [List.take_add_one, List.getElem?_eq_getElem hil, List.all_append, hall]
      rw [hg] at h; simp [h]
    have no : okC (s.getD i 0).toNat = false → mayN s = false := fun h => by
      have : s.all (fun b => okC b.toNat) = false := by
        rw [← Bool.not_eq_true, List.all_eq_true]
        intro h2
        have := h2 s[i] (List.getElem_mem _)
        rw [← hg, h] at this
        cases this
      simp [mayN, this]
    generalize s.getD i 0 = b at yes no ⊢
    generalize b.toNat = c at yes no ⊢
    repeat' (refine guard_both ?_ ?_ <;> intro hh <;> simp only [hy] at hh <;> simp only [hh, w2, wk, iaddrV_map, emb, unAgg, ares, aresL, ares1, tupled, forall_const, Nat.reduceAdd, Nat.reduceSub, Nat.reduceMul, Nat.reduceLeDiff, Nat.reduceEqDiff, Nat.reduceBEq, Int.reduceLE, Int.reduceLT, Int.reduceEq, Int.reduceNe, Int.reduceAdd, Int.reduceSub, Int.reduceToNat, Int.reduceNeg, ↓reduceIte, reduceCtorEq, cellsOf, cellA, lay, fillA])
    all_goals first
      | (refine QLoop_go (n' := s.length - (i + 1)) (by omega) ⟨i + 1, by omega, rfl, yes (by simp [okC]; omega), rfl, rfl⟩ ?_
         simp only [List.replicate_succ, List.replicate_zero, List.cons_append, List.nil_append, Tops_top, Tops_same, Tops_nil, Int.natCast_add, Int.natCast_one])
      | (rw [no (by simp [okC]; omega)]; done)
      | (rw [no (by simp [okC]; omega)]; trivial)
  · have : i = s.length := by omega
    subst this
    rw [List.take_length] at hall
    repeat' (refine guard_both ?_ ?_ <;> intro hh <;> simp only [hy] at hh <;> simp only [hh, wk, iaddrV_map, emb, unAgg, ares, aresL, ares1, tupled, forall_const, Nat.reduceAdd, Nat.reduceSub, Nat.reduceMul, Nat.reduceLeDiff, Nat.reduceEqDiff, Nat.reduceBEq, Int.reduceLE, Int.reduceLT, Int.reduceEq, Int.reduceNe, Int.reduceAdd, Int.reduceSub, Int.reduceToNat, Int.reduceNeg, ↓reduceIte, reduceCtorEq, cellsOf, cellA, lay, fillA])
    · have h1 : 1 ≤ s.length ∧ s.length ≤ 8 := by omega
      simp [mayN, hall, h1, hh]
    · subst hh; rfl
    · have h1 : ¬ s.length ≤ 8 := by omega
      simp [mayN, h1]
    · have h1 : ¬ 1 ≤ s.length := by omega
      simp [mayN, h1]
end Go.Proofs.Ytemjlopoffjmpaa.Abs
set_option linter.unusedSimpArgs false
set_option linter.unusedVariables false
namespace Go.Proofs.Ytemjlopoffjmpaa.Abs
open Go Go.Proofs

def there (s : List Node) (n : Int) : Bool := decide (0 ≤ n ∧ n < s.length) && decide ((s.getD n.toNat default).kind ≠ 0)

theorem there_spec (s : List Node) (n : Int) (H : AH) : C Try.prog 54 [aset s, .int .i64 n] H (fun x H' => x = .bool (there s n) ∧ H' = H) := by
  refine C_body d54 rfl (WT_ok ?_)
  unfold c54
  simp only [aset, pnode, wk, iaddrV_map, emb, unAgg, ares, aresL, ares1, tupled, forall_const, Nat.reduceAdd, Nat.reduceSub, Nat.reduceMul, Nat.reduceLeDiff, Nat.reduceEqDiff, Nat.reduceBEq, Int.reduceLE, Int.reduceLT, Int.reduceEq, Int.reduceNe, Int.reduceAdd, Int.reduceSub, Int.reduceToNat, Int.reduceNeg, ↓reduceIte, reduceCtorEq, cellsOf, cellA, lay, fillA]
  refine guard_both ?_ ?_ <;> intro h <;> simp only [hy] at h <;> simp only [h, pnode, wk, iaddrV_map, emb, unAgg, ares, aresL, ares1, tupled, forall_const, Nat.reduceAdd, Nat.reduceSub, Nat.reduceMul, Nat.reduceLeDiff, Nat.reduceEqDiff, Nat.reduceBEq, Int.reduceLE, Int.reduceLT, Int.reduceEq, Int.reduceNe, Int.reduceAdd, Int.reduceSub, Int.reduceToNat, Int.reduceNeg, ↓reduceIte, reduceCtorEq, cellsOf, cellA, lay, fillA]
  · refine guard_both ?_ ?_ <;> intro h2 <;> simp only [hy] at h2 <;> simp only [h, h2, pnode, wk, iaddrV_map, emb, unAgg, ares, aresL, ares1, tupled, forall_const, Nat.reduceAdd, Nat.reduceSub, Nat.reduceMul, Nat.reduceLeDiff, Nat.reduceEqDiff, Nat.reduceBEq, Int.reduceLE, Int.reduceLT, Int.reduceEq, Int.reduceNe, Int.reduceAdd, Int.reduceSub, Int.reduceToNat, Int.reduceNeg, ↓reduceIte, reduceCtorEq, cellsOf, cellA, lay, fillA]
    · simp [there, h, h2]
    · simp [there, h, h2]
  · simp [there, h]

/-- folder (95): some Boolean. -/
theorem folder_spec (s : List Node) (n : Int) (H : AH) : C Try.prog 95 [aset s, .int .i64 n] H (fun x H' => ∃ b, x = .bool b ∧ H' = H) := by
  refine C_body d95 rfl (WT_ok ?_)
  unfold c95
  simp only [aset, pnode, wk, iaddrV_map, emb, unAgg, ares, aresL, ares1, tupled, forall_const, Nat.reduceAdd, Nat.reduceSub, Nat.reduceMul, Nat.reduceLeDiff, Nat.reduceEqDiff, Nat.reduceBEq, Int.reduceLE, Int.reduceLT, Int.reduceEq, Int.reduceNe, Int.reduceAdd, Int.reduceSub, Int.reduceToNat, Int.reduceNeg, ↓reduceIte, reduceCtorEq, cellsOf, cellA, lay, fillA]
  refine guard_both ?_ ?_ <;> intro h <;> simp only [hy] at h <;> simp only [h, pnode, wk, iaddrV_map, emb, unAgg, ares, aresL, ares1, tupled, forall_const, Nat.reduceAdd, Nat.reduceSub, Nat.reduceMul, Nat.reduceLeDiff, Nat.reduceEqDiff, Nat.reduceBEq, Int.reduceLE, Int.reduceLT, Int.reduceEq, Int.reduceNe, Int.reduceAdd, Int.reduceSub, Int.reduceToNat, Int.reduceNeg, ↓reduceIte, reduceCtorEq, cellsOf, cellA, lay, fillA]
  · refine guard_both ?_ ?_ <;> intro h2 <;> simp only [hy] at h2 <;> simp only [h, h2, pnode, wk, iaddrV_map, emb, unAgg, ares, aresL, ares1, tupled, forall_const, Nat.reduceAdd, Nat.reduceSub, Nat.reduceMul, Nat.reduceLeDiff, Nat.reduceEqDiff, Nat.reduceBEq, Int.reduceLE, Int.reduceLT, Int.reduceEq, Int.reduceNe, Int.reduceAdd, Int.reduceSub, Int.reduceToNat, Int.reduceNeg, ↓reduceIte, reduceCtorEq, cellsOf, cellA, lay, fillA]
    · repeat' (refine guard_both ?_ ?_ <;> intro hh <;> simp only [hy] at hh <;> simp only [h, h2, hh, pnode, wk, iaddrV_map, emb, unAgg, ares, aresL, ares1, tupled, forall_const, Nat.reduceAdd, Nat.reduceSub, Nat.reduceMul, Nat.reduceLeDiff, Nat.reduceEqDiff, Nat.reduceBEq, Int.reduceLE, Int.reduceLT, Int.reduceEq, Int.reduceNe, Int.reduceAdd, Int.reduceSub, Int.reduceToNat, Int.reduceNeg, ↓reduceIte, reduceCtorEq, cellsOf, cellA, lay, fillA])
      all_goals exact ⟨_, rfl⟩
    · exact ⟨_, rfl⟩
  · exact ⟨_, rfl⟩
end Go.Proofs.Ytemjlopoffjmpaa.Abs
set_option linter.unusedSimpArgs false
set_option linter.unusedVariables false
namespace Go.Proofs.Ytemjlopoffjmpaa.Abs
open Go Go.Proofs

/-- Rows of bytes. -/
def Bytes (o : AObj) : Prop := ∃ s : List UInt8, o = s.map fun b => [AV.int .u8 b.toNat]
theorem Bytes.set {o : AObj} (h : Bytes o) (i : Nat) (v : Int) : Bytes (o.set i [AV.int .u8 (IntKind.u8.wrap v)]) := by
  obtain ⟨s, rfl⟩ := h
  refine ⟨s.set i (UInt8.ofNat (IntKind.u8.wrap v).toNat), ?_⟩
  rw [List.map_set]
  congr 1
  have h1 : 0 ≤ IntKind.u8.wrap v ∧ IntKind.u8.wrap v < 256 := by rw [IntKind.wrap_u8]; omega
  have h2 : (UInt8.ofNat (IntKind.u8.wrap v).toNat).toNat = (IntKind.u8.wrap v).toNat := by
    rw [UInt8.toNat_ofNat']
    omega
  rw [h2]
  congr 2
  omega
theorem Bytes.str {o : AObj} (h : Bytes o) : ∃ s : List UInt8, bytesOf o = some s ∧ s.length = o.length := by
  obtain ⟨s, rfl⟩ := h
  exact ⟨s, bytesOf_map s, by simp⟩
theorem Bytes.get {o : AObj} (h : Bytes o) (i : Nat) (hi : i < o.length) : ∃ x : Int, o[i]? = some [AV.int .u8 x] := by
  obtain ⟨s, rfl⟩ := h
  rw [List.length_map] at hi
  exact ⟨(s[i]).toNat, by rw [List.getElem?_map, List.getElem?_eq_getElem hi]; rfl⟩
theorem Bytes.zero (n : Nat) : Bytes (List.replicate n [AV.int .u8 0]) := ⟨List.replicate n 0, by rw [List.map_replicate]; rfl⟩

theorem text_spec (l : List UInt8) (n : Int) (hn : 0 ≤ n) (hl : l.length ≤ 1000000) :
    C Try.prog 38 [.ptr 0 0 0 1] (picksH l n) (fun x H' => ∃ (p : List UInt8) (n' : Int), x = .str p ∧ p.length ≤ 129 ∧ n ≤ n' ∧ n' ≤ n + 2 ∧ H' = picksH l n') := by
  refine C_body' d38 rfl (WT_ok ?_)
  unfold c38 picksH
  simp only [wk3, chunks, wk, iaddrV_map, emb, unAgg, ares, aresL, ares1, tupled, forall_const, Nat.reduceAdd, Nat.reduceSub, Nat.reduceMul, Nat.reduceLeDiff, Nat.reduceEqDiff, Nat.reduceBEq, Int.reduceLE, Int.reduceLT, Int.reduceEq, Int.reduceNe, Int.reduceAdd, Int.reduceSub, Int.reduceToNat, Int.reduceNeg, ↓reduceIte, reduceCtorEq, cellsOf, cellA, lay, fillA]
  refine CT_ok (num_at l n 8 hn hl _) ?_
  rintro _ _ ⟨m, n1, rfl, h1, h2, _, h4, h5, rfl⟩
  simp only [wk3, chunks, wk, iaddrV_map, emb, unAgg, ares, aresL, ares1, tupled, forall_const, Nat.reduceAdd, Nat.reduceSub, Nat.reduceMul, Nat.reduceLeDiff, Nat.reduceEqDiff, Nat.reduceBEq, Int.reduceLE, Int.reduceLT, Int.reduceEq, Int.reduceNe, Int.reduceAdd, Int.reduceSub, Int.reduceToNat, Int.reduceNeg, ↓reduceIte, reduceCtorEq, cellsOf, cellA, lay, fillA]
  have h8 := h2 (by omega)
  obtain ⟨e, he, q, rfl, hq0, hq⟩ := pick_of [[AV.int .i64 0], [AV.int .i64 1], [AV.int .i64 3], [AV.int .i64 17], [AV.int .i64 32], [AV.int .i64 33], [AV.int .i64 64], [AV.int .i64 129]] (fun e => ∃ q : Int, e = [.int .i64 q] ∧ 0 ≤ q ∧ q ≤ 129) (by simp) m.toNat (by simp; omega)
  refine ⟨⟨h1, h8⟩, ?_⟩
  simp only [he, wk3, chunks, wk, iaddrV_map, emb, unAgg, ares, aresL, ares1, tupled, forall_const, Nat.reduceAdd, Nat.reduceSub, Nat.reduceMul, Nat.reduceLeDiff, Nat.reduceEqDiff, Nat.reduceBEq, Int.reduceLE, Int.reduceLT, Int.reduceEq, Int.reduceNe, Int.reduceAdd, Int.reduceSub, Int.reduceToNat, Int.reduceNeg, ↓reduceIte, reduceCtorEq, cellsOf, cellA, lay, fillA]
  refine CT_ok (num_at l n1 4 (by omega) hl _) ?_
  rintro _ _ ⟨m2, n2, rfl, g1, g2, _, g4, g5, rfl⟩
  simp only [wk3, chunks, wk, iaddrV_map, emb, unAgg, ares, aresL, ares1, tupled, forall_const, Nat.reduceAdd, Nat.reduceSub, Nat.reduceMul, Nat.reduceLeDiff, Nat.reduceEqDiff, Nat.reduceBEq, Int.reduceLE, Int.reduceLT, Int.reduceEq, Int.reduceNe, Int.reduceAdd, Int.reduceSub, Int.reduceToNat, Int.reduceNeg, ↓reduceIte, reduceCtorEq, cellsOf, cellA, lay, fillA]
  refine ⟨by omega, ?_⟩
  generalize hc : IntKind.u8.wrap (IntKind.i64.wrap (m2 * 40)) = c
  obtain ⟨Q, rfl⟩ : ∃ Q : Nat, q = Q := ⟨q.toNat, by omega⟩
  simp only [hc, Int.toNat_natCast]
  refine WT_loop (W_wk (fr' := [.ptr 0 0 0 1, .top, .str [], .int .i64 Q, .int .u8 c, .own 2 1 0 Q Q, .int .i64 0] ++ List.replicate 28 .top) (Wk_tops ?_) (W_loop (fun nn fr H' => ∃ (i : Nat) (o : AObj), i ≤ Q ∧ nn = Q - i ∧ Bytes o ∧ o.length = Q ∧ H' = [some [[.fz (l.map pbyte), .int .i64 n2]], some [[AV.int .i64 0], [AV.int .i64 1], [AV.int .i64 3], [AV.int .i64 17], [AV.int .i64 32], [AV.int .i64 33], [AV.int .i64 64], [AV.int .i64 129]], some o] ∧ fr = [.ptr 0 0 0 1, .top, .str [], .int .i64 Q, .int .u8 c, .own 2 1 0 Q Q, .int .i64 i] ++ List.replicate 28 .top) Q ⟨0, _, by omega, rfl, Bytes.zero Q, by simp, rfl, rfl⟩ ?_))
  · simp only [List.replicate_succ, List.replicate_zero, List.cons_append, List.nil_append, Tops_top, Tops_same, Tops_nil]
  rintro nn fr H' ⟨i, o, hi, rfl, ho, hol, rfl, rfl⟩
  refine WT_ok ?_
  simp only [wk3, chunks, wk, iaddrV_map, emb, unAgg, ares, aresL, ares1, tupled, forall_const, Nat.reduceAdd, Nat.reduceSub, Nat.reduceMul, Nat.reduceLeDiff, Nat.reduceEqDiff, Nat.reduceBEq, Int.reduceLE, Int.reduceLT, Int.reduceEq, Int.reduceNe, Int.reduceAdd, Int.reduceSub, Int.reduceToNat, Int.reduceNeg, ↓reduceIte, reduceCtorEq, cellsOf, cellA, lay, fillA]
  refine guard_both ?_ ?_ <;> intro h <;> simp only [hy] at h <;> simp only [h, wk3, chunks, wk, iaddrV_map, emb, unAgg, ares, aresL, ares1, tupled, forall_const, Nat.reduceAdd, Nat.reduceSub, Nat.reduceMul, Nat.reduceLeDiff, Nat.reduceEqDiff, Nat.reduceBEq, Int.reduceLE, Int.reduceLT, Int.reduceEq, Int.reduceNe, Int.reduceAdd, Int.reduceSub, Int.reduceToNat, Int.reduceNeg, ↓reduceIte, reduceCtorEq, cellsOf, cellA, lay, fillA]
  · have w2 : IntKind.i64.wrap ((i : Int) + 1) = (i : Int) + 1 := IntWalk.i64_in _ (by omega)
    refine guard_both ?_ ?_ <;> intro hh <;> simp only [hy] at hh <;> simp only [hh, w2, hol, wk3, chunks, wk, iaddrV_map, emb, unAgg, ares, aresL, ares1, tupled, forall_const, Nat.reduceAdd, Nat.reduceSub, Nat.reduceMul, Nat.reduceLeDiff, Nat.reduceEqDiff, Nat.reduceBEq, Int.reduceLE, Int.reduceLT, Int.reduceEq, Int.reduceNe, Int.reduceAdd, Int.reduceSub, Int.reduceToNat, Int.reduceNeg, ↓reduceIte, reduceCtorEq, cellsOf, cellA, lay, fillA]
    · obtain ⟨x, hx⟩ := ho.get i (by omega)
      refine ⟨⟨by omega, by omega⟩, ?_⟩
      simp only [hx, w2, hol, wk3, chunks, wk, iaddrV_map, emb, unAgg, ares, aresL, ares1, tupled, forall_const, Nat.reduceAdd, Nat.reduceSub, Nat.reduceMul, Nat.reduceLeDiff, Nat.reduceEqDiff, Nat.reduceBEq, Int.reduceLE, Int.reduceLT, Int.reduceEq, Int.reduceNe, Int.reduceAdd, Int.reduceSub, Int.reduceToNat, Int.reduceNeg, ↓reduceIte, reduceCtorEq, cellsOf, cellA, lay, fillA]
      refine QLoop_go (n' := Q - (i + 1)) (by omega) ⟨i + 1, _, by omega, rfl, ho.set i (c + IntKind.u8.wrap ((i : Int).tmod 5)), by simp [hol], rfl, rfl⟩ ?_
      simp only [List.replicate_succ, List.replicate_zero, List.cons_append, List.nil_append, Tops_top, Tops_same, Tops_nil, Int.natCast_add, Int.natCast_one]
    · refine QLoop_go (n' := Q - (i + 1)) (by omega) ⟨i + 1, o, by omega, rfl, ho, hol, rfl, rfl⟩ ?_
      simp only [List.replicate_succ, List.replicate_zero, List.cons_append, List.nil_append, Tops_top, Tops_same, Tops_nil, Int.natCast_add, Int.natCast_one]
  · obtain ⟨r, hr, hrl⟩ := ho.str
    have ht : List.take Q o = o := List.take_of_length_le (by omega)
    simp only [hol, ht, hr, Option.bind_some, wk3, chunks, wk, iaddrV_map, emb, unAgg, ares, aresL, ares1, tupled, forall_const, Nat.reduceAdd, Nat.reduceSub, Nat.reduceMul, Nat.reduceLeDiff, Nat.reduceEqDiff, Nat.reduceBEq, Int.reduceLE, Int.reduceLT, Int.reduceEq, Int.reduceNe, Int.reduceAdd, Int.reduceSub, Int.reduceToNat, Int.reduceNeg, ↓reduceIte, reduceCtorEq, cellsOf, cellA, lay, fillA]
    refine ⟨.str r, _, (Wk_forget 1 (Nat.le_refl _)).trans (Wk_tops ⟨.inr rfl, trivial⟩), r, n2, rfl, by omega, by omega, by omega, rfl⟩
end Go.Proofs.Ytemjlopoffjmpaa.Abs
set_option linter.unusedSimpArgs false
set_option linter.unusedVariables false
namespace Go.Proofs.Ytemjlopoffjmpaa.Abs
open Go Go.Proofs

/-- What may be said of a node behind the first. -/
structure OkAt (s : List Node) (x : Node) : Prop where
  bad : x.bad = 0
  kinds : x.kind = 0 ∨ x.kind = 1 ∨ x.kind = 2
  none : x.kind = 0 → x = ⟨0, 0, [], [], 0⟩
  fold : x.kind = 2 → x.body = []
  name : x.kind ≠ 0 → mayN x.name = true
  up : 0 ≤ x.up ∧ x.up < 8
  upf : x.kind ≠ 0 → (s.getD x.up.toNat default).kind = 2
  body : x.body.length ≤ 128

/-- A set that may be. -/
structure Wf (s : List Node) : Prop where
  len : s.length = 8
  top : s.getD 0 default = ⟨2, 0, [], [], 0⟩
  ok : ∀ i, 1 ≤ i → i < 8 → OkAt s (s.getD i default)
  uniq : ∀ i k, 1 ≤ i → i < 8 → 1 ≤ k → k < 8 → (s.getD i default).kind ≠ 0 → (s.getD k default).kind ≠ 0 → (s.getD i default).up = (s.getD k default).up → (s.getD i default).name = (s.getD k default).name → i = k
  tree : ∃ r : Nat → Nat, ∀ i, 1 ≤ i → i < 8 → (s.getD i default).kind ≠ 0 → r (s.getD i default).up.toNat < r i

theorem getD_mem {s : List Node} {n : Nat} (h : n < s.length) : s.getD n default ∈ s := by
  rw [List.getD_eq_getElem?_getD, List.getElem?_eq_getElem h]
  exact List.getElem_mem h
theorem mem_getD {s : List Node} {x : Node} (h : x ∈ s) : ∃ n, n < s.length ∧ s.getD n default = x := by
  obtain ⟨n, hn, rfl⟩ := List.mem_iff_getElem.1 h
  exact ⟨n, hn, by rw [List.getD_eq_getElem?_getD, List.getElem?_eq_getElem hn]; rfl⟩
theorem Wf.root {s : List Node} (h : Wf s) : (s.getD 0 default).kind ≠ 0 := by rw [h.top]; decide
theorem Wf.root2 {s : List Node} (h : Wf s) : (s.getD 0 default).kind = 2 := by rw [h.top]
theorem Wf.upD {s : List Node} (h : Wf s) (n : Nat) (hn : n < s.length) : 0 ≤ (s.getD n default).up ∧ (s.getD n default).up < 8 := by
  by_cases h0 : n = 0
  · subst h0; rw [h.top]; decide
  · exact (h.ok n (by omega) (by have := h.len; omega)).up
theorem Wf.bodyD {s : List Node} (h : Wf s) (n : Nat) (hn : n < s.length) : (s.getD n default).body.length ≤ 128 := by
  by_cases h0 : n = 0
  · subst h0; rw [h.top]; decide
  · exact (h.ok n (by omega) (by have := h.len; omega)).body
theorem Wf.kindsD {s : List Node} (h : Wf s) (n : Nat) (hn : n < s.length) : (s.getD n default).kind = 0 ∨ (s.getD n default).kind = 1 ∨ (s.getD n default).kind = 2 := by
  by_cases h0 : n = 0
  · subst h0; rw [h.top]; decide
  · exact (h.ok n (by omega) (by have := h.len; omega)).kinds
theorem Wf.badD {s : List Node} (h : Wf s) (n : Nat) (hn : n < s.length) : (s.getD n default).bad = 0 := by
  by_cases h0 : n = 0
  · subst h0; rw [h.top]
  · exact (h.ok n (by omega) (by have := h.len; omega)).bad
theorem Wf.emptyD {s : List Node} (h : Wf s) (n : Nat) (hn : n < s.length) (hk : (s.getD n default).kind ≠ 1) : (s.getD n default).body = [] := by
  by_cases h0 : n = 0
  · subst h0; rw [h.top]
  · have := h.ok n (by omega) (by have := h.len; omega)
    rcases this.kinds with e | e | e
    · rw [this.none e]
    · exact absurd e hk
    · exact this.fold e
theorem Wf.up {s : List Node} (h : Wf s) : ∀ x ∈ s, 0 ≤ x.up ∧ x.up < 8 := fun x hx => by
  obtain ⟨n, hn, rfl⟩ := mem_getD hx; exact h.upD n hn
theorem Wf.body {s : List Node} (h : Wf s) : ∀ x ∈ s, x.body.length ≤ 128 := fun x hx => by
  obtain ⟨n, hn, rfl⟩ := mem_getD hx; exact h.bodyD n hn
theorem Wf.none {s : List Node} (h : Wf s) : ∀ x ∈ s, x.kind = 0 → x.body = [] := fun x hx hk => by
  obtain ⟨n, hn, rfl⟩ := mem_getD hx; exact h.emptyD n hn (by omega)

/-- Ranks below 8. -/
theorem rank8 {s : List Node} (r : Nat → Nat) (hlen : s.length = 8) (hup : ∀ i, i < 8 → (s.getD i default).up.toNat < 8) (hr : ∀ i, 1 ≤ i → i < 8 → (s.getD i default).kind ≠ 0 → r (s.getD i default).up.toNat < r i) :
    ∃ r' : Nat → Nat, (∀ i, i < 8 → r' i < 8) ∧ ∀ i, 1 ≤ i → i < 8 → (s.getD i default).kind ≠ 0 → r' (s.getD i default).up.toNat < r' i := by
  have mono : ∀ (a b : Nat), a < b → ∀ (l : List Nat), (∃ j ∈ l, r j = a) → l.countP (fun j => decide (r j < a)) < l.countP (fun j => decide (r j < b)) := by
    intro a b hab l
    induction l with
    | nil => rintro ⟨j, hj, _⟩; cases hj
    | cons x l ih =>
      rintro ⟨j, hj, e⟩
      have le : l.countP (fun j => decide (r j < a)) ≤ l.countP (fun j => decide (r j < b)) := List.countP_mono_left (fun y _ h => by simp at h ⊢; omega)
      rw [List.countP_cons, List.countP_cons]
      rcases List.mem_cons.1 hj with rfl | hj
      · rw [if_neg (by simp; omega), if_pos (by simp; omega)]; omega
      · have := ih ⟨j, hj, e⟩
        by_cases h1 : r x < a
        · rw [if_pos (by simpa using h1), if_pos (by simp; omega)]; omega
        · rw [if_neg (by simpa using h1)]; omega
  refine ⟨fun i => (List.range 8).countP fun j => decide (r j < r i), fun i hi => ?_, fun i h1 h2 h3 => ?_⟩
  · have h1 := mono (r i) (r i + 1) (by omega) (List.range 8) ⟨i, by simpa using hi, rfl⟩
    have h2 : (List.range 8).countP (fun j => decide (r j < r i + 1)) ≤ (List.range 8).length := List.countP_le_length
    simp at h2
    show (List.range 8).countP (fun j => decide (r j < r i)) < 8
    omega
  · exact mono _ _ (hr i h1 h2 h3) (List.range 8) ⟨_, by simpa using hup i h2, rfl⟩

theorem getD_set (s : List Node) (n i : Nat) (x : Node) : (s.set n x).getD i default = if n = i ∧ i < s.length then x else s.getD i default := by
  rw [List.getD_eq_getElem?_getD, List.getElem?_set]
  by_cases h : n = i
  · subst h
    by_cases h2 : n < s.length
    · simp [h2]
    · simp [h2]
  · simp [h, List.getD_eq_getElem?_getD]

/-- Another node in a node's place. -/
theorem Wf.put {s : List Node} (h : Wf s) {n : Nat} (h1 : 1 ≤ n) (hn : n < 8) {x : Node} (hx : OkAt s x)
    (hself : x.kind ≠ 0 → x.up.toNat ≠ n ∨ x.kind = 2)
    (hkids : x.kind = 2 ∨ ∀ i, 1 ≤ i → i < 8 → i ≠ n → (s.getD i default).kind ≠ 0 → (s.getD i default).up.toNat ≠ n)
    (huniq : x.kind ≠ 0 → ∀ i, 1 ≤ i → i < 8 → i ≠ n → (s.getD i default).kind ≠ 0 → (s.getD i default).up = x.up → (s.getD i default).name ≠ x.name)
    (r : Nat → Nat) (hr : ∀ i, 1 ≤ i → i < 8 → i ≠ n → (s.getD i default).kind ≠ 0 → r (s.getD i default).up.toNat < r i) (hrx : x.kind ≠ 0 → r x.up.toNat < r n) : Wf (s.set n x) := by
  have hlen := h.len
  have gn : (s.set n x).getD n default = x := by rw [getD_set, if_pos ⟨rfl, by omega⟩]
  have gi : ∀ i, i ≠ n → (s.set n x).getD i default = s.getD i default := fun i hi => by rw [getD_set, if_neg (by omega)]
  refine ⟨by rw [List.length_set]; exact hlen, by rw [gi 0 (by omega)]; exact h.top, fun i hi1 hi8 => ?_, fun i k hi1 hi8 hk1 hk8 hki hkk hu hnm => ?_, r, fun i hi1 hi8 hk => ?_⟩
  · by_cases e : i = n
    · subst e
      rw [gn]
      refine ⟨hx.bad, hx.kinds, hx.none, hx.fold, hx.name, hx.up, fun hk => ?_, hx.body⟩
      by_cases e2 : x.up.toNat = i
      · rw [e2, gn]
        rcases hself hk with h' | h'
        · exact absurd e2 h'
        · exact h'
      · rw [gi _ e2]; exact hx.upf hk
    · rw [gi i e]
      have o := h.ok i hi1 hi8
      refine ⟨o.bad, o.kinds, o.none, o.fold, o.name, o.up, fun hk => ?_, o.body⟩
      by_cases e2 : (s.getD i default).up.toNat = n
      · rw [e2, gn]
        rcases hkids with h' | h'
        · exact h'
        · exact absurd e2 (h' i hi1 hi8 e hk)
      · rw [gi _ e2]; exact o.upf hk
  · by_cases e : i = n
    · by_cases e2 : k = n
      · omega
      · subst e
        rw [gn] at hki hu hnm; rw [gi k e2] at hkk hu hnm
        exact absurd hnm.symm (huniq hki k hk1 hk8 e2 hkk hu.symm)
    · by_cases e2 : k = n
      · subst e2
        rw [gn] at hkk hu hnm; rw [gi i e] at hki hu hnm
        exact absurd hnm (huniq hkk i hi1 hi8 e hki hu)
      · rw [gi i e] at hki hu hnm; rw [gi k e2] at hkk hu hnm
        exact h.uniq i k hi1 hi8 hk1 hk8 hki hkk hu hnm
  · by_cases e : i = n
    · subst e; rw [gn] at hk ⊢; exact hrx hk
    · rw [gi i e] at hk ⊢; exact hr i hi1 hi8 e hk
end Go.Proofs.Ytemjlopoffjmpaa.Abs
set_option linter.unusedSimpArgs false
set_option linter.unusedVariables false
namespace Go.Proofs.Ytemjlopoffjmpaa.Abs
open Go Go.Proofs

theorem Wk_empAt {n0 : Nat} {fr : List AV} {H : AH} (j sz : Nat) (h : fr[j]? = some .emp) : Wk n0 fr H (fr.set j (.own H.length sz 0 0 0)) (H ++ [some []]) := by
  intro E w vs hs hr
  refine ⟨E, LeN.refl _ _, hs.newEmpty, by rw [List.length_set]; exact hr.1, fun i c u hc hu => ?_⟩
  rw [List.getElem?_set] at hc
  by_cases hij : j = i
  · subst hij
    rw [if_pos rfl] at hc
    split at hc
    · cases hc
      obtain ⟨a, rfl⟩ := rep_emp (hr.2 j _ u h hu)
      exact .own0 _ _ _
    · cases hc
  · rw [if_neg hij] at hc
    exact hr.2 i c u hc hu

def kid (s : List Node) (n : Int) (i : Nat) : Prop := 1 ≤ i ∧ i < s.length ∧ ((s.getD i default).kind = 1 ∨ (s.getD i default).kind = 2) ∧ (s.getD i default).up = n
def cellI (i : Nat) : List AV := [.int .i64 i]
def pint (i : Nat) : List PV := [.int .i64 i]

theorem swap_mem (l : List Nat) (i j : Nat) (hi : i < l.length) (hj : j < l.length) (x : Nat) : x ∈ (l.set i (l.getD j 0)).set j (l.getD i 0) ↔ x ∈ l := by
  have gi : l.getD i 0 = l[i] := by rw [List.getD_eq_getElem?_getD, List.getElem?_eq_getElem hi]; rfl
  have gj : l.getD j 0 = l[j] := by rw [List.getD_eq_getElem?_getD, List.getElem?_eq_getElem hj]; rfl
  rw [gi, gj]
  simp only [List.mem_iff_getElem?, List.getElem?_set, List.length_set]
  constructor
  · rintro ⟨k, hk⟩
    by_cases h1 : j = k
    · subst h1
      rw [if_pos rfl, if_pos (by omega)] at hk
      exact ⟨i, by rw [← hk]; exact List.getElem?_eq_getElem hi⟩
    · rw [if_neg h1] at hk
      by_cases h2 : i = k
      · subst h2
        rw [if_pos rfl, if_pos hi] at hk
        exact ⟨j, by rw [← hk]; exact List.getElem?_eq_getElem hj⟩
      · rw [if_neg h2] at hk
        exact ⟨k, hk⟩
  · rintro ⟨k, hk⟩
    by_cases h1 : k = i
    · subst h1
      refine ⟨j, ?_⟩
      rw [if_pos rfl, if_pos (by omega)]
      rw [List.getElem?_eq_getElem hi] at hk
      exact hk
    · by_cases h2 : k = j
      · subst h2
        refine ⟨i, ?_⟩
        rw [List.getElem?_eq_getElem hj] at hk
        rw [if_neg h1, if_pos rfl, if_pos hi]
        exact hk
      · exact ⟨k, by rw [if_neg (Ne.symm h2), if_neg (Ne.symm h1)]; exact hk⟩

theorem iaddr_node (H : AH) (s : List Node) (k : IntKind) (n : Int) : iaddrV H 5 (.fz (s.map pnode)) (.int k n) = if 0 ≤ n ∧ n < s.length then some (.fptr (pnode (s.getD n.toNat default))) else none := by
  rw [iaddrV_map]
  have : (pnode (s.getD n.toNat default)).length = 5 := rfl
  simp only [this, and_true]

theorem set_cell (l : List Nat) (i x : Nat) : (List.map cellI l).set i [AV.int .i64 (x : Int)] = (l.set i x).map cellI := by rw [List.map_set]; rfl
theorem Wk_ints {fr fr' : List AV} {l : List Nat} {G : AH} (h : Tops fr' (renL (upTo 1) fr)) : Wk 0 fr (some (l.map cellI) :: G) fr' [some (l.map cellI)] := by
  have h1 := (Wk_forget (n0 := 0) (fr := fr) (H := some (l.map cellI) :: G) 1 (Nat.zero_le _)).trans (Wk_tops h)
  have e : mapH (renL (upTo 1)) ((some (l.map cellI) :: G).take 1) = [some (l.map cellI)] := by
    simp only [List.take_succ_cons, List.take_zero, mapH, List.map_cons, List.map_nil, Option.map_some, List.map_map]
    congr 2
  rwa [e] at h1

theorem kids_spec0 (s : List Node) (hs : s.length ≤ 1000000) (n : Int) :
    C Try.prog 71 [aset s, .int .i64 n] [] (fun x H' => ∃ l : List Nat, x = .fz (l.map pint) ∧ (∀ i, i ∈ l ↔ kid s n i) ∧ l.length ≤ s.length ∧ H' = []) := by
  refine C_body' d71 rfl (WT_ok ?_)
  unfold c71
  simp only [aset, iaddr_node, pnode, wk3, onStO, bareL, toCl, chunks, wk, emb, unAgg, ares, aresL, ares1, tupled, forall_const, Nat.reduceAdd, Nat.reduceSub, Nat.reduceMul, Nat.reduceLeDiff, Nat.reduceEqDiff, Nat.reduceBEq, Int.reduceLE, Int.reduceLT, Int.reduceEq, Int.reduceNe, Int.reduceAdd, Int.reduceSub, Int.reduceToNat, Int.reduceNeg, ↓reduceIte, reduceCtorEq, cellsOf, cellA, lay, fillA]
  refine WT_loop (W_wk (Wk_empAt 5 1 rfl) (W_loop (fun nn fr H' => ∃ (i : Nat) (l : List Nat), 1 ≤ i ∧ (i ≤ s.length ∨ i = 1) ∧ nn = s.length - i ∧ (∀ j, j ∈ l ↔ kid s n j ∧ j < i) ∧ l.length < i ∧ H' = [some (l.map cellI)] ∧
    fr = [.fz (s.map pnode), .int .i64 n, .top, .top, .emp, .own 0 1 0 l.length l.length, .int .i64 i, .top] ++ List.replicate 73 .top) (s.length - 1) ⟨1, [], by omega, by omega, rfl, by simp [kid]; omega, by simp, rfl, rfl⟩ ?_))
  rintro nn fr H' ⟨i, l, hi1, hi, rfl, hmem, hll, rfl, rfl⟩
  refine WT_ok ?_
  simp only [iaddr_node, pnode, wk3, onStO, bareL, toCl, chunks, wk, emb, unAgg, ares, aresL, ares1, tupled, forall_const, Nat.reduceAdd, Nat.reduceSub, Nat.reduceMul, Nat.reduceLeDiff, Nat.reduceEqDiff, Nat.reduceBEq, Int.reduceLE, Int.reduceLT, Int.reduceEq, Int.reduceNe, Int.reduceAdd, Int.reduceSub, Int.reduceToNat, Int.reduceNeg, ↓reduceIte, reduceCtorEq, cellsOf, cellA, lay, fillA]
  refine guard_both ?_ ?_ <;> intro h <;> simp only [hy] at h
  · have hil : i < s.length := by omega
    have h0 : (0 : Int) ≤ i := by omega
    have w2 : IntKind.i64.wrap ((i : Int) + 1) = (i : Int) + 1 := IntWalk.i64_in _ (by omega)
    simp only [h0, h, iaddr_node, pnode, wk3, onStO, bareL, toCl, chunks, wk, emb, unAgg, ares, aresL, ares1, tupled, forall_const, Nat.reduceAdd, Nat.reduceSub, Nat.reduceMul, Nat.reduceLeDiff, Nat.reduceEqDiff, Nat.reduceBEq, Int.reduceLE, Int.reduceLT, Int.reduceEq, Int.reduceNe, Int.reduceAdd, Int.reduceSub, Int.reduceToNat, Int.reduceNeg, ↓reduceIte, reduceCtorEq, cellsOf, cellA, lay, fillA]
    by_cases hk : kid s n i
    · have hup : (s.getD i default).up = n := hk.2.2.2
      rcases hk.2.2.1 with h1 | h1 <;> simp only [h0, h, h1, hup, iaddr_node, pnode, wk3, onStO, bareL, toCl, chunks, wk, emb, unAgg, ares, aresL, ares1, tupled, forall_const, Nat.reduceAdd, Nat.reduceSub, Nat.reduceMul, Nat.reduceLeDiff, Nat.reduceEqDiff, Nat.reduceBEq, Int.reduceLE, Int.reduceLT, Int.reduceEq, Int.reduceNe, Int.reduceAdd, Int.reduceSub, Int.reduceToNat, Int.reduceNeg, ↓reduceIte, reduceCtorEq, cellsOf, cellA, lay, fillA]
      all_goals
        have e : List.map cellI l ++ [[AV.int .i64 (i : Int)]] = (l ++ [i]).map cellI := by simp [cellI]
        have hmem2 : ∀ j, j ∈ l ++ [i] ↔ kid s n j ∧ j < i + 1 := by
          intro j
          rw [List.mem_append, hmem, List.mem_singleton]
          constructor
          · rintro (⟨a, b⟩ | rfl)
            · exact ⟨a, by omega⟩
            · exact ⟨hk, by omega⟩
          · rintro ⟨a, b⟩
            rcases Nat.lt_or_ge j i with h' | h'
            · exact .inl ⟨a, h'⟩
            · exact .inr (by omega)
        rw [e]
        refine ⟨⟨by omega, by omega⟩, ?_⟩
        refine WT_loop (W_wk (Wk_ints (fr' := [.fz (s.map pnode), .int .i64 n, .top, .top, .emp, .own 0 1 0 (l.length + 1) (l.length + 1), .int .i64 i, .int .i64 l.length] ++ List.replicate 73 .top) ?_) (W_loop (fun nn fr H' => ∃ (k : Nat) (l' : List Nat), k < l'.length ∧ l'.length = l.length + 1 ∧ nn = k ∧ (∀ j, j ∈ l' ↔ kid s n j ∧ j < i + 1) ∧ H' = [some (l'.map cellI)] ∧
          fr = [.fz (s.map pnode), .int .i64 n, .top, .top, .emp, .own 0 1 0 (l.length + 1) (l.length + 1), .int .i64 i, .int .i64 k] ++ List.replicate 73 .top) l.length ⟨l.length, l ++ [i], by simp, by simp, rfl, hmem2, rfl, rfl⟩ ?_))
        · simp only [List.replicate_succ, List.replicate_zero, List.cons_append, List.nil_append, renL, ren, upTo, Nat.zero_lt_one, if_true, Tops_top, Tops_same, Tops_nil]
        rintro k fr H' ⟨_, l', hkl, hl', rfl, hm', rfl, rfl⟩
        refine WT_ok ?_
        simp only [iaddr_node, pnode, wk3, onStO, bareL, toCl, chunks, wk, emb, unAgg, ares, aresL, ares1, tupled, forall_const, Nat.reduceAdd, Nat.reduceSub, Nat.reduceMul, Nat.reduceLeDiff, Nat.reduceEqDiff, Nat.reduceBEq, Int.reduceLE, Int.reduceLT, Int.reduceEq, Int.reduceNe, Int.reduceAdd, Int.reduceSub, Int.reduceToNat, Int.reduceNeg, ↓reduceIte, reduceCtorEq, cellsOf, cellA, lay, fillA]
        refine WT_draw ?_
        simp only [iaddr_node, pnode, wk3, onStO, bareL, toCl, chunks, wk, emb, unAgg, ares, aresL, ares1, tupled, forall_const, Nat.reduceAdd, Nat.reduceSub, Nat.reduceMul, Nat.reduceLeDiff, Nat.reduceEqDiff, Nat.reduceBEq, Int.reduceLE, Int.reduceLT, Int.reduceEq, Int.reduceNe, Int.reduceAdd, Int.reduceSub, Int.reduceToNat, Int.reduceNeg, ↓reduceIte, reduceCtorEq, cellsOf, cellA, lay, fillA]
        refine guard_both ?_ ?_ <;> intro hk0 <;> simp only [hy] at hk0
        · have hkp : 0 < k := by omega
          have hx := List.getElem?_eq_getElem (show k - 1 < l'.length by omega)
          have hy := List.getElem?_eq_getElem (show k < l'.length by omega)
          have hkx := (hm' l'[k - 1]).1 (List.getElem_mem _)
          generalize l'[k - 1] = xx at hx hkx
          generalize l'[k] = yy at hy
          have hxr := hkx.1.2.1
          have wk1 : IntKind.i64.wrap ((k : Int) - 1) = ((k - 1 : Nat) : Int) := by rw [IntWalk.i64_in _ (by omega)]; omega
          simp only [hk0, h0, h, hl', hx, wk1, cellI, iaddr_node, pnode, wk3, onStO, bareL, toCl, chunks, wk, emb, unAgg, ares, aresL, ares1, tupled, forall_const, Nat.reduceAdd, Nat.reduceSub, Nat.reduceMul, Nat.reduceLeDiff, Nat.reduceEqDiff, Nat.reduceBEq, Int.reduceLE, Int.reduceLT, Int.reduceEq, Int.reduceNe, Int.reduceAdd, Int.reduceSub, Int.reduceToNat, Int.reduceNeg, ↓reduceIte, reduceCtorEq, cellsOf, cellA, lay, fillA]
          refine ⟨⟨by omega, by omega⟩, ⟨by omega, by omega⟩, ?_⟩
          refine guard_both ?_ ?_ <;> intro hb
          · simp only [hb, iaddr_node, pnode, wk3, onStO, bareL, toCl, chunks, wk, emb, unAgg, ares, aresL, ares1, tupled, forall_const, Nat.reduceAdd, Nat.reduceSub, Nat.reduceMul, Nat.reduceLeDiff, Nat.reduceEqDiff, Nat.reduceBEq, Int.reduceLE, Int.reduceLT, Int.reduceEq, Int.reduceNe, Int.reduceAdd, Int.reduceSub, Int.reduceToNat, Int.reduceNeg, ↓reduceIte, reduceCtorEq, cellsOf, cellA, lay, fillA]
            refine WT_drawE ?_
            refine WDT_more 0 ?_
            simp only [hl', hx, hy, wk1, cellI, iaddr_node, pnode, wk3, onStO, bareL, toCl, chunks, wk, emb, unAgg, ares, aresL, ares1, tupled, forall_const, Nat.reduceAdd, Nat.reduceSub, Nat.reduceMul, Nat.reduceLeDiff, Nat.reduceEqDiff, Nat.reduceBEq, Int.reduceLE, Int.reduceLT, Int.reduceEq, Int.reduceNe, Int.reduceAdd, Int.reduceSub, Int.reduceToNat, Int.reduceNeg, ↓reduceIte, reduceCtorEq, cellsOf, cellA, lay, fillA]
            refine ⟨⟨by omega, by omega⟩, ⟨by omega, by omega⟩, ⟨by omega, by omega⟩, by omega, by rfl, ⟨by omega, by omega⟩, ?_⟩
            have hz : (l'.set (k - 1) yy)[k]? = some yy := by rw [List.getElem?_set_ne (by omega)]; exact hy
            have hsw : ∀ j, j ∈ (l'.set (k - 1) yy).set k xx ↔ kid s n j ∧ j < i + 1 := by
              intro j
              have := swap_mem l' (k - 1) k (by omega) (by omega) j
              rw [List.getD_eq_getElem?_getD, List.getD_eq_getElem?_getD, hx, hy] at this
              rw [← hm' j]; exact this
            rw [set_cell]
            simp only [hz, wk1, cellI, lay, List.getElem?_map, Option.map_some, iaddr_node, pnode, wk3, onStO, bareL, toCl, chunks, wk, emb, unAgg, ares, aresL, ares1, tupled, forall_const, Nat.reduceAdd, Nat.reduceSub, Nat.reduceMul, Nat.reduceLeDiff, Nat.reduceEqDiff, Nat.reduceBEq, Int.reduceLE, Int.reduceLT, Int.reduceEq, Int.reduceNe, Int.reduceAdd, Int.reduceSub, Int.reduceToNat, Int.reduceNeg, ↓reduceIte, reduceCtorEq, cellsOf, cellA, lay, fillA]
            rw [set_cell]
            refine QLoop_go (n' := k - 1) (by omega) ⟨k - 1, (l'.set (k - 1) yy).set k xx, by simp; omega, by simp; omega, rfl, hsw, rfl, rfl⟩ ?_
            simp only [List.replicate_succ, List.replicate_zero, List.cons_append, List.nil_append, Tops_top, Tops_same, Tops_nil]
          · simp only [hb, w2, iaddr_node, pnode, wk3, onStO, bareL, toCl, chunks, wk, emb, unAgg, ares, aresL, ares1, tupled, forall_const, Nat.reduceAdd, Nat.reduceSub, Nat.reduceMul, Nat.reduceLeDiff, Nat.reduceEqDiff, Nat.reduceBEq, Int.reduceLE, Int.reduceLT, Int.reduceEq, Int.reduceNe, Int.reduceAdd, Int.reduceSub, Int.reduceToNat, Int.reduceNeg, ↓reduceIte, reduceCtorEq, cellsOf, cellA, lay, fillA]
            refine QLoop_go (n' := s.length - (i + 1)) (by omega) ⟨i + 1, l', by omega, by omega, rfl, hm', by omega, rfl, rfl⟩ ?_
            simp only [hl', List.replicate_succ, List.replicate_zero, List.cons_append, List.nil_append, Tops_top, Tops_same, Tops_nil, Int.natCast_add, Int.natCast_one]
        · simp only [hk0, w2, iaddr_node, pnode, wk3, onStO, bareL, toCl, chunks, wk, emb, unAgg, ares, aresL, ares1, tupled, forall_const, Nat.reduceAdd, Nat.reduceSub, Nat.reduceMul, Nat.reduceLeDiff, Nat.reduceEqDiff, Nat.reduceBEq, Int.reduceLE, Int.reduceLT, Int.reduceEq, Int.reduceNe, Int.reduceAdd, Int.reduceSub, Int.reduceToNat, Int.reduceNeg, ↓reduceIte, reduceCtorEq, cellsOf, cellA, lay, fillA]
          refine QLoop_go (n' := s.length - (i + 1)) (by omega) ⟨i + 1, l', by omega, by omega, rfl, hm', by omega, rfl, rfl⟩ ?_
          simp only [hl', List.replicate_succ, List.replicate_zero, List.cons_append, List.nil_append, Tops_top, Tops_same, Tops_nil, Int.natCast_add, Int.natCast_one]
    · have fin : ∀ j, j ∈ l ↔ kid s n j ∧ j < i + 1 := by
        intro j
        rw [hmem]
        constructor
        · exact fun ⟨a, b⟩ => ⟨a, by omega⟩
        · rintro ⟨a, b⟩
          refine ⟨a, ?_⟩
          rcases Nat.lt_or_ge j i with h' | h'
          · exact h'
          · have : j = i := by omega
            subst this; exact absurd a hk
      by_cases h1 : (s.getD i default).kind = 1
      · have h3 : ¬ (s.getD i default).up = n := fun e => hk ⟨hi1, hil, .inl h1, e⟩
        simp only [h0, h, h1, h3, w2, iaddr_node, pnode, wk3, onStO, bareL, toCl, chunks, wk, emb, unAgg, ares, aresL, ares1, tupled, forall_const, Nat.reduceAdd, Nat.reduceSub, Nat.reduceMul, Nat.reduceLeDiff, Nat.reduceEqDiff, Nat.reduceBEq, Int.reduceLE, Int.reduceLT, Int.reduceEq, Int.reduceNe, Int.reduceAdd, Int.reduceSub, Int.reduceToNat, Int.reduceNeg, ↓reduceIte, reduceCtorEq, cellsOf, cellA, lay, fillA]
        refine QLoop_go (n' := s.length - (i + 1)) (by omega) ⟨i + 1, l, by omega, by omega, rfl, fin, by omega, rfl, rfl⟩ ?_
        simp only [List.replicate_succ, List.replicate_zero, List.cons_append, List.nil_append, Tops_top, Tops_same, Tops_nil, Int.natCast_add, Int.natCast_one]
      · by_cases h2 : (s.getD i default).kind = 2
        · have h3 : ¬ (s.getD i default).up = n := fun e => hk ⟨hi1, hil, .inr h2, e⟩
          simp only [h0, h, h2, h3, w2, iaddr_node, pnode, wk3, onStO, bareL, toCl, chunks, wk, emb, unAgg, ares, aresL, ares1, tupled, forall_const, Nat.reduceAdd, Nat.reduceSub, Nat.reduceMul, Nat.reduceLeDiff, Nat.reduceEqDiff, Nat.reduceBEq, Int.reduceLE, Int.reduceLT, Int.reduceEq, Int.reduceNe, Int.reduceAdd, Int.reduceSub, Int.reduceToNat, Int.reduceNeg, ↓reduceIte, reduceCtorEq, cellsOf, cellA, lay, fillA]
          refine QLoop_go (n' := s.length - (i + 1)) (by omega) ⟨i + 1, l, by omega, by omega, rfl, fin, by omega, rfl, rfl⟩ ?_
          simp only [List.replicate_succ, List.replicate_zero, List.cons_append, List.nil_append, Tops_top, Tops_same, Tops_nil, Int.natCast_add, Int.natCast_one]
        · simp only [h0, h, h1, h2, w2, iaddr_node, pnode, wk3, onStO, bareL, toCl, chunks, wk, emb, unAgg, ares, aresL, ares1, tupled, forall_const, Nat.reduceAdd, Nat.reduceSub, Nat.reduceMul, Nat.reduceLeDiff, Nat.reduceEqDiff, Nat.reduceBEq, Int.reduceLE, Int.reduceLT, Int.reduceEq, Int.reduceNe, Int.reduceAdd, Int.reduceSub, Int.reduceToNat, Int.reduceNeg, ↓reduceIte, reduceCtorEq, cellsOf, cellA, lay, fillA]
          refine QLoop_go (n' := s.length - (i + 1)) (by omega) ⟨i + 1, l, by omega, by omega, rfl, fin, by omega, rfl, rfl⟩ ?_
          simp only [List.replicate_succ, List.replicate_zero, List.cons_append, List.nil_append, Tops_top, Tops_same, Tops_nil, Int.natCast_add, Int.natCast_one]
  · simp only [h, iaddr_node, pnode, wk3, onStO, bareL, toCl, chunks, wk, emb, unAgg, ares, aresL, ares1, tupled, forall_const, Nat.reduceAdd, Nat.reduceSub, Nat.reduceMul, Nat.reduceLeDiff, Nat.reduceEqDiff, Nat.reduceBEq, Int.reduceLE, Int.reduceLT, Int.reduceEq, Int.reduceNe, Int.reduceAdd, Int.reduceSub, Int.reduceToNat, Int.reduceNeg, ↓reduceIte, reduceCtorEq, cellsOf, cellA, lay, fillA]
    refine KWk_frozen 0 (l.map pint) ?_ (.fz (l.map pint)) ?_ ⟨l, rfl, fun j => ?_, by omega, rfl⟩
    · simp [AH.at, cellI, pint, emb]
    · simp only [frzL, frz, renL, ren, if_true, List.length_map, Nat.zero_add, Nat.le_refl, and_self, List.drop_zero]
      rw [List.take_of_length_le (by simp)]
    · rw [hmem]
      constructor
      · exact fun h => h.1
      · intro hk
        have := hk.2.1
        exact ⟨hk, by omega⟩

theorem kids_spec (s : List Node) (hs : s.length ≤ 1000000) (n : Int) (H : AH) : C Try.prog 71 [aset s, .int .i64 n] H (fun x H' => (∃ l : List Nat, x = .fz (l.map pint) ∧ (∀ i, i ∈ l ↔ kid s n i) ∧ l.length ≤ s.length) ∧ H' = H) :=
  C_pure (K0 := fun x => ∃ l : List Nat, x = .fz (l.map pint) ∧ (∀ i, i ∈ l ↔ kid s n i) ∧ l.length ≤ s.length) ((kids_spec0 s hs n).mono fun x H' ⟨l, h1, h2, h3, h4⟩ => ⟨⟨l, h1, h2, h3⟩, h4⟩) (fun τ => by simp [renL, ren, aset]) (by rintro y ⟨l, rfl, _⟩ τ; simp [ren]) H
end Go.Proofs.Ytemjlopoffjmpaa.Abs
set_option linter.unusedSimpArgs false
set_option linter.unusedVariables false
namespace Go.Proofs.Ytemjlopoffjmpaa.Abs
open Go Go.Proofs

theorem iaddr_int (H : AH) (l : List Nat) (k : IntKind) (n : Int) : iaddrV H 1 (.fz (l.map pint)) (.int k n) = if 0 ≤ n ∧ n < l.length then some (.fptr (pint (l.getD n.toNat default))) else none := by
  rw [iaddrV_map]
  have : (pint (l.getD n.toNat default)).length = 1 := rfl
  simp only [this, and_true]
def pname (x : List UInt8) : List PV := [.str x]
theorem iaddr_name (H : AH) (l : List (List UInt8)) (k : IntKind) (n : Int) : iaddrV H 1 (.fz (l.map pname)) (.int k n) = if 0 ≤ n ∧ n < l.length then some (.fptr (pname (l.getD n.toNat default))) else none := by
  rw [iaddrV_map]
  have : (pname (l.getD n.toNat default)).length = 1 := rfl
  simp only [this, and_true]

theorem kid_spec (s : List Node) (hs : s.length ≤ 1000000) (n : Int) (nm : List UInt8) (H : AH) :
    C Try.prog 47 [aset s, .int .i64 n, .str nm] H (fun x H' => H' = H ∧ ((∃ k : Nat, kid s n k ∧ (s.getD k default).name = nm ∧ x = .tuple [.int .i64 k, .bool true]) ∨ (x = .tuple [.int .i64 0, .bool false] ∧ ∀ k, kid s n k → (s.getD k default).name ≠ nm))) := by
  refine C_body d47 rfl (WT_ok ?_)
  unfold c47
  simp only [aset, iaddr_node, pnode, wk3, onStO, bareL, toCl, chunks, wk, emb, unAgg, ares, aresL, ares1, tupled, forall_const, Nat.reduceAdd, Nat.reduceSub, Nat.reduceMul, Nat.reduceLeDiff, Nat.reduceEqDiff, Nat.reduceBEq, Int.reduceLE, Int.reduceLT, Int.reduceEq, Int.reduceNe, Int.reduceAdd, Int.reduceSub, Int.reduceToNat, Int.reduceNeg, ↓reduceIte, reduceCtorEq, cellsOf, cellA, lay, fillA]
  refine CT_ok (kids_spec s hs n H) ?_
  rintro _ H ⟨⟨l, rfl, hl, hll⟩, rfl⟩
  simp only [iaddr_node, pnode, wk3, onStO, bareL, toCl, chunks, wk, emb, unAgg, ares, aresL, ares1, tupled, forall_const, Nat.reduceAdd, Nat.reduceSub, Nat.reduceMul, Nat.reduceLeDiff, Nat.reduceEqDiff, Nat.reduceBEq, Int.reduceLE, Int.reduceLT, Int.reduceEq, Int.reduceNe, Int.reduceAdd, Int.reduceSub, Int.reduceToNat, Int.reduceNeg, ↓reduceIte, reduceCtorEq, cellsOf, cellA, lay, fillA]
  refine WT_loop (W_wk (fr' := [.fz (s.map pnode), .int .i64 n, .str nm, .top, .top, .top, .int .i64 0, .bool false, .fz (l.map pint), .int .i64 0] ++ List.replicate 23 .top) (Wk_tops ?_) (W_loop (fun nn fr H' => ∃ j : Nat, j ≤ l.length ∧ nn = l.length - j ∧ (∀ i, i < j → (s.getD (l.getD i 0) default).name ≠ nm) ∧ H' = H ∧ fr = [.fz (s.map pnode), .int .i64 n, .str nm, .top, .top, .top, .int .i64 0, .bool false, .fz (l.map pint), .int .i64 j] ++ List.replicate 23 .top) l.length ⟨0, by omega, rfl, fun i hi => by omega, rfl, rfl⟩ ?_))
  · simp only [List.replicate_succ, List.replicate_zero, List.cons_append, List.nil_append, Tops_top, Tops_same, Tops_nil]
  rintro nn fr H ⟨j, hj, rfl, hno, rfl, rfl⟩
  refine WT_ok ?_
  simp only [iaddr_node, pnode, wk3, onStO, bareL, toCl, chunks, wk, emb, unAgg, ares, aresL, ares1, tupled, forall_const, Nat.reduceAdd, Nat.reduceSub, Nat.reduceMul, Nat.reduceLeDiff, Nat.reduceEqDiff, Nat.reduceBEq, Int.reduceLE, Int.reduceLT, Int.reduceEq, Int.reduceNe, Int.reduceAdd, Int.reduceSub, Int.reduceToNat, Int.reduceNeg, ↓reduceIte, reduceCtorEq, cellsOf, cellA, lay, fillA]
  refine guard_both ?_ ?_ <;> intro h <;> simp only [hy] at h
  · have hjl : j < l.length := by omega
    have h0 : (0 : Int) ≤ j := by omega
    have hmem : l.getD j 0 ∈ l := by rw [List.getD_eq_getElem?_getD, List.getElem?_eq_getElem hjl]; exact List.getElem_mem _
    have hk := (hl _).1 hmem
    have hd : l.getD j default = l.getD j 0 := rfl
    have hk2 := hk.2.1
    have h1 : (0 : Int) ≤ (l.getD j 0 : Nat) := by omega
    have h2 : ((l.getD j 0 : Nat) : Int) < s.length := by omega
    have w2 : IntKind.i64.wrap ((j : Int) + 1) = (j : Int) + 1 := IntWalk.i64_in _ (by omega)
    simp only [h0, h, h1, h2, hd, iaddr_int, pint, iaddr_node, pnode, wk3, onStO, bareL, toCl, chunks, wk, emb, unAgg, ares, aresL, ares1, tupled, forall_const, Nat.reduceAdd, Nat.reduceSub, Nat.reduceMul, Nat.reduceLeDiff, Nat.reduceEqDiff, Nat.reduceBEq, Int.reduceLE, Int.reduceLT, Int.reduceEq, Int.reduceNe, Int.reduceAdd, Int.reduceSub, Int.reduceToNat, Int.reduceNeg, ↓reduceIte, reduceCtorEq, cellsOf, cellA, lay, fillA]
    refine guard_both ?_ ?_ <;> intro h3 <;> simp only [hy] at h3
    · simp only [h3, h0, h, hd, iaddr_int, pint, iaddr_node, pnode, wk3, onStO, bareL, toCl, chunks, wk, emb, unAgg, ares, aresL, ares1, tupled, forall_const, Nat.reduceAdd, Nat.reduceSub, Nat.reduceMul, Nat.reduceLeDiff, Nat.reduceEqDiff, Nat.reduceBEq, Int.reduceLE, Int.reduceLT, Int.reduceEq, Int.reduceNe, Int.reduceAdd, Int.reduceSub, Int.reduceToNat, Int.reduceNeg, ↓reduceIte, reduceCtorEq, cellsOf, cellA, lay, fillA]
      exact .inl ⟨_, hk, h3, rfl⟩
    · simp only [h3, w2, iaddr_node, pnode, wk3, onStO, bareL, toCl, chunks, wk, emb, unAgg, ares, aresL, ares1, tupled, forall_const, Nat.reduceAdd, Nat.reduceSub, Nat.reduceMul, Nat.reduceLeDiff, Nat.reduceEqDiff, Nat.reduceBEq, Int.reduceLE, Int.reduceLT, Int.reduceEq, Int.reduceNe, Int.reduceAdd, Int.reduceSub, Int.reduceToNat, Int.reduceNeg, ↓reduceIte, reduceCtorEq, cellsOf, cellA, lay, fillA]
      refine QLoop_go (n' := l.length - (j + 1)) (by omega) ⟨j + 1, by omega, rfl, fun i hi => ?_, rfl, rfl⟩ ?_
      · rcases Nat.lt_or_ge i j with h' | h'
        · exact hno i h'
        · have : i = j := by omega
          subst this; exact h3
      · simp only [List.replicate_succ, List.replicate_zero, List.cons_append, List.nil_append, Tops_top, Tops_same, Tops_nil, Int.natCast_add, Int.natCast_one]
  · simp only [h, iaddr_node, pnode, wk3, onStO, bareL, toCl, chunks, wk, emb, unAgg, ares, aresL, ares1, tupled, forall_const, Nat.reduceAdd, Nat.reduceSub, Nat.reduceMul, Nat.reduceLeDiff, Nat.reduceEqDiff, Nat.reduceBEq, Int.reduceLE, Int.reduceLT, Int.reduceEq, Int.reduceNe, Int.reduceAdd, Int.reduceSub, Int.reduceToNat, Int.reduceNeg, ↓reduceIte, reduceCtorEq, cellsOf, cellA, lay, fillA]
    refine .inr fun k hk => ?_
    obtain ⟨i, hi, he⟩ := List.mem_iff_getElem.1 ((hl k).2 hk)
    have := hno i (by omega)
    have hg : l.getD i 0 = k := by rw [List.getD_eq_getElem?_getD, List.getElem?_eq_getElem hi]; exact he
    rwa [hg] at this

/-- A way leads from one node to another. -/
def downR (s : List Node) : List (List UInt8) → Nat → Nat → Prop
  | [], a, b => a = b
  | x :: l, a, b => (s.getD a default).kind = 2 ∧ ∃ k, kid s a k ∧ (s.getD k default).name = x ∧ downR s l k b
/-- It leads no further. -/
def downF (s : List Node) (l : List (List UInt8)) : Prop := ∃ (l1 : List (List UInt8)) (x : List UInt8) (l2 : List (List UInt8)) (a : Nat), l = l1 ++ x :: l2 ∧ downR s l1 0 a ∧ a < s.length ∧ ((s.getD a default).kind ≠ 2 ∨ ∀ k, kid s a k → (s.getD k default).name ≠ x)
theorem downR_snoc {s : List Node} {x : List UInt8} : ∀ {l : List (List UInt8)} {a b k : Nat}, downR s l a b → (s.getD b default).kind = 2 → kid s b k → (s.getD k default).name = x → downR s (l ++ [x]) a k
  | [], a, b, k, h, h1, h2, h3 => by
    simp only [downR] at h; subst h
    exact ⟨h1, k, h2, h3, rfl⟩
  | y :: l, a, b, k, ⟨g1, m, g2, g3, g4⟩, h1, h2, h3 => ⟨g1, m, g2, g3, downR_snoc g4 h1 h2 h3⟩

theorem down_spec (s : List Node) (hs : s.length ≤ 1000000) (h0s : 0 < s.length) (l : List (List UInt8)) (hl : l.length ≤ 1000000) (H : AH) :
    C Try.prog 75 [aset s, .fz (l.map pname)] H (fun x H' => H' = H ∧ ((∃ k : Nat, k < s.length ∧ downR s l 0 k ∧ x = .tuple [.int .i64 k, .int .i64 0]) ∨ ∃ e : Int, e ≠ 0 ∧ downF s l ∧ x = .tuple [.int .i64 0, .int .i64 e])) := by
  refine C_body d75 rfl (WT_ok ?_)
  unfold c75
  simp only [aset, iaddr_node, pnode, wk3, onStO, bareL, toCl, chunks, wk, emb, unAgg, ares, aresL, ares1, tupled, forall_const, Nat.reduceAdd, Nat.reduceSub, Nat.reduceMul, Nat.reduceLeDiff, Nat.reduceEqDiff, Nat.reduceBEq, Int.reduceLE, Int.reduceLT, Int.reduceEq, Int.reduceNe, Int.reduceAdd, Int.reduceSub, Int.reduceToNat, Int.reduceNeg, ↓reduceIte, reduceCtorEq, cellsOf, cellA, lay, fillA]
  refine WT_loop (W_loop (fun nn fr H' => ∃ (j a : Nat), j ≤ l.length ∧ nn = l.length - j ∧ a < s.length ∧ downR s (l.take j) 0 a ∧ H' = H ∧ fr = [.fz (s.map pnode), .fz (l.map pname), .top, .top, .int .i64 0, .int .i64 0, .int .i64 a, .int .i64 j] ++ List.replicate 40 .top) l.length ⟨0, 0, by omega, rfl, h0s, rfl, rfl, rfl⟩ ?_)
  rintro nn fr H ⟨j, a, hj, rfl, ha, hR, rfl, rfl⟩
  refine WT_ok ?_
  simp only [iaddr_node, pnode, wk3, onStO, bareL, toCl, chunks, wk, emb, unAgg, ares, aresL, ares1, tupled, forall_const, Nat.reduceAdd, Nat.reduceSub, Nat.reduceMul, Nat.reduceLeDiff, Nat.reduceEqDiff, Nat.reduceBEq, Int.reduceLE, Int.reduceLT, Int.reduceEq, Int.reduceNe, Int.reduceAdd, Int.reduceSub, Int.reduceToNat, Int.reduceNeg, ↓reduceIte, reduceCtorEq, cellsOf, cellA, lay, fillA]
  refine guard_both ?_ ?_ <;> intro h <;> simp only [hy] at h
  · have hjl : j < l.length := by omega
    have h0 : (0 : Int) ≤ j := by omega
    have h1 : (0 : Int) ≤ a := by omega
    have h2 : (a : Int) < s.length := by omega
    have h2' : ¬ (s.length : Int) ≤ a := by omega
    have w2 : IntKind.i64.wrap ((j : Int) + 1) = (j : Int) + 1 := IntWalk.i64_in _ (by omega)
    have hsplit : l = l.take j ++ l.getD j default :: l.drop (j + 1) := by
      rw [List.getD_eq_getElem?_getD, List.getElem?_eq_getElem hjl, Option.getD_some, List.getElem_cons_drop, List.take_append_drop]
    simp only [h0, h, h1, h2, h2', iaddr_name, pname, iaddr_node, pnode, wk3, onStO, bareL, toCl, chunks, wk, emb, unAgg, ares, aresL, ares1, tupled, forall_const, Nat.reduceAdd, Nat.reduceSub, Nat.reduceMul, Nat.reduceLeDiff, Nat.reduceEqDiff, Nat.reduceBEq, Int.reduceLE, Int.reduceLT, Int.reduceEq, Int.reduceNe, Int.reduceAdd, Int.reduceSub, Int.reduceToNat, Int.reduceNeg, ↓reduceIte, reduceCtorEq, cellsOf, cellA, lay, fillA]
    by_cases hk : (s.getD a default).kind = 2
    · simp only [hk, h0, h, h1, h2, iaddr_name, pname, iaddr_node, pnode, wk3, onStO, bareL, toCl, chunks, wk, emb, unAgg, ares, aresL, ares1, tupled, forall_const, Nat.reduceAdd, Nat.reduceSub, Nat.reduceMul, Nat.reduceLeDiff, Nat.reduceEqDiff, Nat.reduceBEq, Int.reduceLE, Int.reduceLT, Int.reduceEq, Int.reduceNe, Int.reduceAdd, Int.reduceSub, Int.reduceToNat, Int.reduceNeg, ↓reduceIte, reduceCtorEq, cellsOf, cellA, lay, fillA]
      refine CT_ok (kid_spec s hs a (l.getD j default) H) ?_
      rintro _ H ⟨rfl, ⟨k, hk1, hk2, rfl⟩ | ⟨rfl, hno⟩⟩
      · simp only [w2, iaddr_node, pnode, wk3, onStO, bareL, toCl, chunks, wk, emb, unAgg, ares, aresL, ares1, tupled, forall_const, Nat.reduceAdd, Nat.reduceSub, Nat.reduceMul, Nat.reduceLeDiff, Nat.reduceEqDiff, Nat.reduceBEq, Int.reduceLE, Int.reduceLT, Int.reduceEq, Int.reduceNe, Int.reduceAdd, Int.reduceSub, Int.reduceToNat, Int.reduceNeg, ↓reduceIte, reduceCtorEq, cellsOf, cellA, lay, fillA]
        refine QLoop_go (n' := l.length - (j + 1)) (by omega) ⟨j + 1, k, by omega, rfl, hk1.2.1, ?_, rfl, rfl⟩ ?_
        · rw [List.take_add_one, List.getElem?_eq_getElem hjl]
          refine downR_snoc hR hk hk1 ?_
          rw [hk2, List.getD_eq_getElem?_getD, List.getElem?_eq_getElem hjl]
          rfl
        · simp only [List.replicate_succ, List.replicate_zero, List.cons_append, List.nil_append, Tops_top, Tops_same, Tops_nil, Int.natCast_add, Int.natCast_one]
      · simp only [iaddr_node, pnode, wk3, onStO, bareL, toCl, chunks, wk, emb, unAgg, ares, aresL, ares1, tupled, forall_const, Nat.reduceAdd, Nat.reduceSub, Nat.reduceMul, Nat.reduceLeDiff, Nat.reduceEqDiff, Nat.reduceBEq, Int.reduceLE, Int.reduceLT, Int.reduceEq, Int.reduceNe, Int.reduceAdd, Int.reduceSub, Int.reduceToNat, Int.reduceNeg, ↓reduceIte, reduceCtorEq, cellsOf, cellA, lay, fillA]
        refine CT_ok (lost_spec s hs H) ?_
        rintro _ _ ⟨rfl, rfl⟩
        simp only [iaddr_node, pnode, wk3, onStO, bareL, toCl, chunks, wk, emb, unAgg, ares, aresL, ares1, tupled, forall_const, Nat.reduceAdd, Nat.reduceSub, Nat.reduceMul, Nat.reduceLeDiff, Nat.reduceEqDiff, Nat.reduceBEq, Int.reduceLE, Int.reduceLT, Int.reduceEq, Int.reduceNe, Int.reduceAdd, Int.reduceSub, Int.reduceToNat, Int.reduceNeg, ↓reduceIte, reduceCtorEq, cellsOf, cellA, lay, fillA]
        refine guard_both ?_ ?_ <;> intro h3 <;> simp only [h3, iaddr_node, pnode, wk3, onStO, bareL, toCl, chunks, wk, emb, unAgg, ares, aresL, ares1, tupled, forall_const, Nat.reduceAdd, Nat.reduceSub, Nat.reduceMul, Nat.reduceLeDiff, Nat.reduceEqDiff, Nat.reduceBEq, Int.reduceLE, Int.reduceLT, Int.reduceEq, Int.reduceNe, Int.reduceAdd, Int.reduceSub, Int.reduceToNat, Int.reduceNeg, ↓reduceIte, reduceCtorEq, cellsOf, cellA, lay, fillA]
        · exact .inr ⟨12, by omega, ⟨_, _, _, a, hsplit, hR, ha, .inr hno⟩, rfl⟩
        · exact .inr ⟨2, by omega, ⟨_, _, _, a, hsplit, hR, ha, .inr hno⟩, rfl⟩
    · simp only [hk, iaddr_node, pnode, wk3, onStO, bareL, toCl, chunks, wk, emb, unAgg, ares, aresL, ares1, tupled, forall_const, Nat.reduceAdd, Nat.reduceSub, Nat.reduceMul, Nat.reduceLeDiff, Nat.reduceEqDiff, Nat.reduceBEq, Int.reduceLE, Int.reduceLT, Int.reduceEq, Int.reduceNe, Int.reduceAdd, Int.reduceSub, Int.reduceToNat, Int.reduceNeg, ↓reduceIte, reduceCtorEq, cellsOf, cellA, lay, fillA]
      exact .inr ⟨5, by omega, ⟨_, _, _, a, hsplit, hR, ha, .inl hk⟩, rfl⟩
  · have : j = l.length := by omega
    subst this
    rw [List.take_length] at hR
    simp only [h, iaddr_node, pnode, wk3, onStO, bareL, toCl, chunks, wk, emb, unAgg, ares, aresL, ares1, tupled, forall_const, Nat.reduceAdd, Nat.reduceSub, Nat.reduceMul, Nat.reduceLeDiff, Nat.reduceEqDiff, Nat.reduceBEq, Int.reduceLE, Int.reduceLT, Int.reduceEq, Int.reduceNe, Int.reduceAdd, Int.reduceSub, Int.reduceToNat, Int.reduceNeg, ↓reduceIte, reduceCtorEq, cellsOf, cellA, lay, fillA]
    exact .inl ⟨a, ha, hR, rfl⟩
end Go.Proofs.Ytemjlopoffjmpaa.Abs
set_option linter.unusedSimpArgs false
set_option linter.unusedVariables false
namespace Go.Proofs.Ytemjlopoffjmpaa.Abs
open Go Go.Proofs

/-- What a way's names are: P: those that may be; B: may there be none? -/
def PartsC (path : List UInt8) (P : List (List UInt8) → Prop) (B : Prop) : Prop :=
  ∀ H, C Try.prog 74 [.str path] H (fun x H' => H' = H ∧ ((∃ l : List (List UInt8), P l ∧ l.length ≤ 7 ∧ x = .tuple [.fz (l.map pname), .bool true]) ∨ (B ∧ x = .tuple [.fz [], .bool false])))

theorem find_spec {path : List UInt8} {P : List (List UInt8) → Prop} {B : Prop} (hp : PartsC path P B) (s : List Node) (hs : s.length ≤ 1000000) (h0s : 0 < s.length) (H : AH) :
    C Try.prog 56 [aset s, .str path] H (fun x H' => H' = H ∧ ((∃ l, P l ∧ ∃ k : Nat, k < s.length ∧ downR s l 0 k ∧ x = .tuple [.int .i64 k, .int .i64 0]) ∨ ∃ e : Int, e ≠ 0 ∧ (B ∨ ∃ l, P l ∧ downF s l) ∧ x = .tuple [.int .i64 0, .int .i64 e])) := by
  refine C_body d56 rfl (WT_ok ?_)
  unfold c56
  simp only [aset, iaddr_node, pnode, wk3, onStO, bareL, toCl, chunks, wk, emb, unAgg, ares, aresL, ares1, tupled, forall_const, Nat.reduceAdd, Nat.reduceSub, Nat.reduceMul, Nat.reduceLeDiff, Nat.reduceEqDiff, Nat.reduceBEq, Int.reduceLE, Int.reduceLT, Int.reduceEq, Int.reduceNe, Int.reduceAdd, Int.reduceSub, Int.reduceToNat, Int.reduceNeg, ↓reduceIte, reduceCtorEq, cellsOf, cellA, lay, fillA]
  refine CT_ok (hp H) ?_
  rintro _ H ⟨rfl, ⟨l, hl, hlen, rfl⟩ | ⟨hB, rfl⟩⟩
  · simp only [iaddr_node, pnode, wk3, onStO, bareL, toCl, chunks, wk, emb, unAgg, ares, aresL, ares1, tupled, forall_const, Nat.reduceAdd, Nat.reduceSub, Nat.reduceMul, Nat.reduceLeDiff, Nat.reduceEqDiff, Nat.reduceBEq, Int.reduceLE, Int.reduceLT, Int.reduceEq, Int.reduceNe, Int.reduceAdd, Int.reduceSub, Int.reduceToNat, Int.reduceNeg, ↓reduceIte, reduceCtorEq, cellsOf, cellA, lay, fillA]
    refine CT_ok (down_spec s hs h0s l (by omega) H) ?_
    rintro _ H ⟨rfl, ⟨k, hk, hR, rfl⟩ | ⟨e, he, hF, rfl⟩⟩
    · simp only [iaddr_node, pnode, wk3, onStO, bareL, toCl, chunks, wk, emb, unAgg, ares, aresL, ares1, tupled, forall_const, Nat.reduceAdd, Nat.reduceSub, Nat.reduceMul, Nat.reduceLeDiff, Nat.reduceEqDiff, Nat.reduceBEq, Int.reduceLE, Int.reduceLT, Int.reduceEq, Int.reduceNe, Int.reduceAdd, Int.reduceSub, Int.reduceToNat, Int.reduceNeg, ↓reduceIte, reduceCtorEq, cellsOf, cellA, lay, fillA]
      exact .inl ⟨l, hl, k, hk, hR, rfl⟩
    · simp only [iaddr_node, pnode, wk3, onStO, bareL, toCl, chunks, wk, emb, unAgg, ares, aresL, ares1, tupled, forall_const, Nat.reduceAdd, Nat.reduceSub, Nat.reduceMul, Nat.reduceLeDiff, Nat.reduceEqDiff, Nat.reduceBEq, Int.reduceLE, Int.reduceLT, Int.reduceEq, Int.reduceNe, Int.reduceAdd, Int.reduceSub, Int.reduceToNat, Int.reduceNeg, ↓reduceIte, reduceCtorEq, cellsOf, cellA, lay, fillA]
      exact .inr ⟨e, he, .inr ⟨l, hl, hF⟩, rfl⟩
  · simp only [iaddr_node, pnode, wk3, onStO, bareL, toCl, chunks, wk, emb, unAgg, ares, aresL, ares1, tupled, forall_const, Nat.reduceAdd, Nat.reduceSub, Nat.reduceMul, Nat.reduceLeDiff, Nat.reduceEqDiff, Nat.reduceBEq, Int.reduceLE, Int.reduceLT, Int.reduceEq, Int.reduceNe, Int.reduceAdd, Int.reduceSub, Int.reduceToNat, Int.reduceNeg, ↓reduceIte, reduceCtorEq, cellsOf, cellA, lay, fillA]
    exact .inr ⟨1, by omega, .inl hB, rfl⟩

theorem file_spec {path : List UInt8} {P : List (List UInt8) → Prop} {B : Prop} (hp : PartsC path P B) (s : List Node) (hs : s.length ≤ 1000000) (h0s : 0 < s.length) (H : AH) :
    C Try.prog 50 [aset s, .str path] H (fun x H' => H' = H ∧ ((∃ l, P l ∧ ∃ k : Nat, k < s.length ∧ downR s l 0 k ∧ (s.getD k default).kind ≠ 2 ∧ x = .tuple [.int .i64 k, .int .i64 0]) ∨
      ∃ e : Int, e ≠ 0 ∧ (B ∨ (∃ l, P l ∧ downF s l) ∨ ∃ l, P l ∧ ∃ k : Nat, k < s.length ∧ downR s l 0 k ∧ (s.getD k default).kind = 2) ∧ x = .tuple [.int .i64 0, .int .i64 e])) := by
  refine C_body d50 rfl (WT_ok ?_)
  unfold c50
  simp only [aset, iaddr_node, pnode, wk3, onStO, bareL, toCl, chunks, wk, emb, unAgg, ares, aresL, ares1, tupled, forall_const, Nat.reduceAdd, Nat.reduceSub, Nat.reduceMul, Nat.reduceLeDiff, Nat.reduceEqDiff, Nat.reduceBEq, Int.reduceLE, Int.reduceLT, Int.reduceEq, Int.reduceNe, Int.reduceAdd, Int.reduceSub, Int.reduceToNat, Int.reduceNeg, ↓reduceIte, reduceCtorEq, cellsOf, cellA, lay, fillA]
  refine CT_ok (find_spec hp s hs h0s H) ?_
  rintro _ H ⟨rfl, ⟨l, hl, k, hk, hR, rfl⟩ | ⟨e, he, hF, rfl⟩⟩
  · have h1 : (0 : Int) ≤ k := by omega
    have h2 : (k : Int) < s.length := by omega
    simp only [h1, h2, iaddr_node, pnode, wk3, onStO, bareL, toCl, chunks, wk, emb, unAgg, ares, aresL, ares1, tupled, forall_const, Nat.reduceAdd, Nat.reduceSub, Nat.reduceMul, Nat.reduceLeDiff, Nat.reduceEqDiff, Nat.reduceBEq, Int.reduceLE, Int.reduceLT, Int.reduceEq, Int.reduceNe, Int.reduceAdd, Int.reduceSub, Int.reduceToNat, Int.reduceNeg, ↓reduceIte, reduceCtorEq, cellsOf, cellA, lay, fillA]
    refine guard_both ?_ ?_ <;> intro h3 <;> simp only [hy] at h3 <;> simp only [h3, iaddr_node, pnode, wk3, onStO, bareL, toCl, chunks, wk, emb, unAgg, ares, aresL, ares1, tupled, forall_const, Nat.reduceAdd, Nat.reduceSub, Nat.reduceMul, Nat.reduceLeDiff, Nat.reduceEqDiff, Nat.reduceBEq, Int.reduceLE, Int.reduceLT, Int.reduceEq, Int.reduceNe, Int.reduceAdd, Int.reduceSub, Int.reduceToNat, Int.reduceNeg, ↓reduceIte, reduceCtorEq, cellsOf, cellA, lay, fillA]
    · exact .inr ⟨4, by omega, .inr (.inr ⟨l, hl, k, hk, hR, h3⟩), rfl⟩
    · exact .inl ⟨l, hl, k, hk, hR, h3, rfl⟩
  · simp only [he, iaddr_node, pnode, wk3, onStO, bareL, toCl, chunks, wk, emb, unAgg, ares, aresL, ares1, tupled, forall_const, Nat.reduceAdd, Nat.reduceSub, Nat.reduceMul, Nat.reduceLeDiff, Nat.reduceEqDiff, Nat.reduceBEq, Int.reduceLE, Int.reduceLT, Int.reduceEq, Int.reduceNe, Int.reduceAdd, Int.reduceSub, Int.reduceToNat, Int.reduceNeg, ↓reduceIte, reduceCtorEq, cellsOf, cellA, lay, fillA]
    refine .inr ⟨e, he, ?_, rfl⟩
    rcases hF with h | h
    · exact .inl h
    · exact .inr (.inl h)

theorem slicel_names (H : AH) (fr : List AV) (l : List (List UInt8)) (x : Opd) (n : Nat) (hn : n ≤ l.length) (h0 : evalA fr x = .fz (l.map pname)) (lo hi : Option Opd) (hlo : bnd (evalA fr) lo 0 n = some 0) (hhi : bnd (evalA fr) hi l.length l.length = some n) :
    aop0 (.slicel 1 x lo hi) (evalA fr) H = some (.fz ((l.take n).map pname)) := by
  simp only [aop0, h0, List.length_map, hhi, hlo, List.drop_zero]
  rw [if_pos, List.map_take]
  rw [List.all_eq_true]
  intro e he
  obtain ⟨y, _, rfl⟩ := List.mem_map.1 (List.mem_of_mem_take he)
  rfl
theorem RT_slicel_names {P : Program} (d : Option Nat) (rest : List AInstr) (K : List AV → AH → Prop) (fr : List AV) (H : AH) (l : List (List UInt8)) (x hi : Opd) (k : IntKind) (n : Nat) (hn : n ≤ l.length) (h0 : evalA fr x = .fz (l.map pname)) (h1 : evalA fr hi = .int k (n : Int)) (t u)
    (h : RT P rest K (setA fr d (.fz ((l.take n).map pname))) H .mk .mk) : RT P (⟨d, none, .slicel 1 x none (some hi)⟩ :: rest) K fr H t u := by
  have e := slicel_names H fr l x n hn h0 none (some hi) rfl (by simp only [bnd, h1, Int.toNat_natCast]; rw [if_pos (by omega)])
  show RA P _ K fr H
  unfold RA
  show onSome (aop (.slicel 1 x none (some hi)) (evalA fr) H) _
  unfold aop
  rw [e]
  exact h

theorem place_spec {path : List UInt8} {P : List (List UInt8) → Prop} {B : Prop} (hp : PartsC path P B) (s : List Node) (hs : s.length ≤ 1000000) (h0s : 0 < s.length) (H : AH) :
    C Try.prog 46 [aset s, .str path] H (fun x H' => H' = H ∧ ((∃ l a, P (l ++ [a]) ∧ ∃ k : Nat, k < s.length ∧ downR s l 0 k ∧ (s.getD k default).kind = 2 ∧ x = .tuple [.int .i64 k, .str a, .int .i64 0]) ∨
      ∃ e : Int, e ≠ 0 ∧ x = .tuple [.int .i64 0, .str [], .int .i64 e])) := by
  refine C_body d46 rfl (WT_ok ?_)
  unfold c46
  simp only [aset, iaddr_node, pnode, wk3, onStO, bareL, toCl, chunks, wk, emb, unAgg, ares, aresL, ares1, tupled, forall_const, Nat.reduceAdd, Nat.reduceSub, Nat.reduceMul, Nat.reduceLeDiff, Nat.reduceEqDiff, Nat.reduceBEq, Int.reduceLE, Int.reduceLT, Int.reduceEq, Int.reduceNe, Int.reduceAdd, Int.reduceSub, Int.reduceToNat, Int.reduceNeg, ↓reduceIte, reduceCtorEq, cellsOf, cellA, lay, fillA]
  refine CT_ok (hp H) ?_
  rintro _ H ⟨rfl, ⟨l, hl, hlen, rfl⟩ | ⟨hB, rfl⟩⟩
  · simp only [iaddr_node, pnode, wk3, onStO, bareL, toCl, chunks, wk, emb, unAgg, ares, aresL, ares1, tupled, forall_const, Nat.reduceAdd, Nat.reduceSub, Nat.reduceMul, Nat.reduceLeDiff, Nat.reduceEqDiff, Nat.reduceBEq, Int.reduceLE, Int.reduceLT, Int.reduceEq, Int.reduceNe, Int.reduceAdd, Int.reduceSub, Int.reduceToNat, Int.reduceNeg, ↓reduceIte, reduceCtorEq, cellsOf, cellA, lay, fillA]
    refine guard_both ?_ ?_ <;> intro h3 <;> simp only [hy] at h3
    · simp only [h3, iaddr_node, pnode, wk3, onStO, bareL, toCl, chunks, wk, emb, unAgg, ares, aresL, ares1, tupled, forall_const, Nat.reduceAdd, Nat.reduceSub, Nat.reduceMul, Nat.reduceLeDiff, Nat.reduceEqDiff, Nat.reduceBEq, Int.reduceLE, Int.reduceLT, Int.reduceEq, Int.reduceNe, Int.reduceAdd, Int.reduceSub, Int.reduceToNat, Int.reduceNeg, ↓reduceIte, reduceCtorEq, cellsOf, cellA, lay, fillA]
      exact .inr ⟨1, by omega, rfl⟩
    · have hl0 : 0 < l.length := by omega
      have w1 : IntKind.i64.wrap ((l.length : Int) - 1) = ((l.length - 1 : Nat) : Int) := by rw [IntWalk.i64_in _ (by omega)]; omega
      have hsplit : l = l.take (l.length - 1) ++ [l.getD (l.length - 1) default] := by
        rw [List.getD_eq_getElem?_getD, List.getElem?_eq_getElem (by omega), Option.getD_some]
        have := List.take_append_drop (l.length - 1) l
        rw [List.drop_eq_getElem_cons (by omega), List.drop_eq_nil_of_le (by omega)] at this
        exact this.symm
      simp only [h3, w1, iaddr_node, pnode, wk3, onStO, bareL, toCl, chunks, wk, emb, unAgg, ares, aresL, ares1, tupled, forall_const, Nat.reduceAdd, Nat.reduceSub, Nat.reduceMul, Nat.reduceLeDiff, Nat.reduceEqDiff, Nat.reduceBEq, Int.reduceLE, Int.reduceLT, Int.reduceEq, Int.reduceNe, Int.reduceAdd, Int.reduceSub, Int.reduceToNat, Int.reduceNeg, ↓reduceIte, reduceCtorEq, cellsOf, cellA, lay, fillA]
      refine RT_slicel_names _ _ _ _ _ l _ _ _ (l.length - 1) (by omega) rfl rfl _ _ ?_
      simp only [h3, w1, iaddr_node, pnode, wk3, onStO, bareL, toCl, chunks, wk, emb, unAgg, ares, aresL, ares1, tupled, forall_const, Nat.reduceAdd, Nat.reduceSub, Nat.reduceMul, Nat.reduceLeDiff, Nat.reduceEqDiff, Nat.reduceBEq, Int.reduceLE, Int.reduceLT, Int.reduceEq, Int.reduceNe, Int.reduceAdd, Int.reduceSub, Int.reduceToNat, Int.reduceNeg, ↓reduceIte, reduceCtorEq, cellsOf, cellA, lay, fillA]
      refine CT_ok (down_spec s hs h0s (l.take (l.length - 1)) (by simp; omega) H) ?_
      rintro _ H ⟨rfl, ⟨k, hk, hR, rfl⟩ | ⟨e, he, hF, rfl⟩⟩
      · have h1 : (0 : Int) ≤ k := by omega
        have h2 : (k : Int) < s.length := by omega
        have h2' : ¬ (s.length : Int) ≤ k := by omega
        have h4 : (0 : Int) ≤ ((l.length - 1 : Nat) : Int) := by omega
        have h5 : ((l.length - 1 : Nat) : Int) < l.length := by omega
        simp only [h1, h2, h2', iaddr_node, pnode, wk3, onStO, bareL, toCl, chunks, wk, emb, unAgg, ares, aresL, ares1, tupled, forall_const, Nat.reduceAdd, Nat.reduceSub, Nat.reduceMul, Nat.reduceLeDiff, Nat.reduceEqDiff, Nat.reduceBEq, Int.reduceLE, Int.reduceLT, Int.reduceEq, Int.reduceNe, Int.reduceAdd, Int.reduceSub, Int.reduceToNat, Int.reduceNeg, ↓reduceIte, reduceCtorEq, cellsOf, cellA, lay, fillA]
        refine guard_both ?_ ?_ <;> intro h6 <;> simp only [hy] at h6
        · simp only [h6, iaddr_node, pnode, wk3, onStO, bareL, toCl, chunks, wk, emb, unAgg, ares, aresL, ares1, tupled, forall_const, Nat.reduceAdd, Nat.reduceSub, Nat.reduceMul, Nat.reduceLeDiff, Nat.reduceEqDiff, Nat.reduceBEq, Int.reduceLE, Int.reduceLT, Int.reduceEq, Int.reduceNe, Int.reduceAdd, Int.reduceSub, Int.reduceToNat, Int.reduceNeg, ↓reduceIte, reduceCtorEq, cellsOf, cellA, lay, fillA]
          exact .inr ⟨5, by omega, rfl⟩
        · simp only [h6, iaddr_node, pnode, wk3, onStO, bareL, toCl, chunks, wk, emb, unAgg, ares, aresL, ares1, tupled, forall_const, Nat.reduceAdd, Nat.reduceSub, Nat.reduceMul, Nat.reduceLeDiff, Nat.reduceEqDiff, Nat.reduceBEq, Int.reduceLE, Int.reduceLT, Int.reduceEq, Int.reduceNe, Int.reduceAdd, Int.reduceSub, Int.reduceToNat, Int.reduceNeg, ↓reduceIte, reduceCtorEq, cellsOf, cellA, lay, fillA]
          refine WT_draw ?_
          simp only [w1, h4, h5, iaddr_name, pname, iaddr_node, pnode, wk3, onStO, bareL, toCl, chunks, wk, emb, unAgg, ares, aresL, ares1, tupled, forall_const, Nat.reduceAdd, Nat.reduceSub, Nat.reduceMul, Nat.reduceLeDiff, Nat.reduceEqDiff, Nat.reduceBEq, Int.reduceLE, Int.reduceLT, Int.reduceEq, Int.reduceNe, Int.reduceAdd, Int.reduceSub, Int.reduceToNat, Int.reduceNeg, ↓reduceIte, reduceCtorEq, cellsOf, cellA, lay, fillA]
          refine .inl ⟨l.take (l.length - 1), _, ?_, k, hk, hR, by simpa using h6, rfl⟩
          rw [← hsplit]; exact hl
      · simp only [he, iaddr_node, pnode, wk3, onStO, bareL, toCl, chunks, wk, emb, unAgg, ares, aresL, ares1, tupled, forall_const, Nat.reduceAdd, Nat.reduceSub, Nat.reduceMul, Nat.reduceLeDiff, Nat.reduceEqDiff, Nat.reduceBEq, Int.reduceLE, Int.reduceLT, Int.reduceEq, Int.reduceNe, Int.reduceAdd, Int.reduceSub, Int.reduceToNat, Int.reduceNeg, ↓reduceIte, reduceCtorEq, cellsOf, cellA, lay, fillA]
        exact .inr ⟨e, he, rfl⟩
  · simp only [iaddr_node, pnode, wk3, onStO, bareL, toCl, chunks, wk, emb, unAgg, ares, aresL, ares1, tupled, forall_const, Nat.reduceAdd, Nat.reduceSub, Nat.reduceMul, Nat.reduceLeDiff, Nat.reduceEqDiff, Nat.reduceBEq, Int.reduceLE, Int.reduceLT, Int.reduceEq, Int.reduceNe, Int.reduceAdd, Int.reduceSub, Int.reduceToNat, Int.reduceNeg, ↓reduceIte, reduceCtorEq, cellsOf, cellA, lay, fillA]
    exact .inr ⟨1, by omega, rfl⟩
end Go.Proofs.Ytemjlopoffjmpaa.Abs
set_option linter.unusedSimpArgs false
set_option linter.unusedVariables false
namespace Go.Proofs.Ytemjlopoffjmpaa.Abs
open Go Go.Proofs

/-- Up from a node, so many times. -/
def itUp (s : List Node) : Nat → Nat → Nat
  | 0, i => i
  | m + 1, i => itUp s m (s.getD i default).up.toNat
theorem itUp_succ (s : List Node) : ∀ (m i : Nat), itUp s (m + 1) i = (s.getD (itUp s m i) default).up.toNat
  | 0, _ => rfl
  | m + 1, i => itUp_succ s m _
theorem itUp_add (s : List Node) : ∀ (m n i : Nat), itUp s (m + n) i = itUp s n (itUp s m i)
  | 0, n, i => by rw [Nat.zero_add]; rfl
  | m + 1, n, i => by rw [show m + 1 + n = (m + n) + 1 by omega]; exact itUp_add s m n _
theorem Wf.up8 {s : List Node} (h : Wf s) {i : Nat} (hi : i < 8) : (s.getD i default).up.toNat < 8 := by have := h.upD i (by have := h.len; omega); omega
theorem Wf.itUp0 {s : List Node} (h : Wf s) : ∀ m, itUp s m 0 = 0
  | 0 => rfl
  | m + 1 => by show itUp s m (s.getD 0 default).up.toNat = 0; rw [h.top]; exact h.itUp0 m
theorem Wf.itUp8 {s : List Node} (h : Wf s) : ∀ (m : Nat) {i : Nat}, i < 8 → itUp s m i < 8
  | 0, _, hi => hi
  | m + 1, _, hi => h.itUp8 m (h.up8 hi)
theorem Wf.upk {s : List Node} (h : Wf s) {i : Nat} (hi : i < 8) (hk : (s.getD i default).kind ≠ 0) : (s.getD (s.getD i default).up.toNat default).kind = 2 := by
  by_cases h0 : i = 0
  · subst h0; rw [h.top]; exact h.root2
  · exact (h.ok i (by omega) hi).upf hk
theorem Wf.itUpk {s : List Node} (h : Wf s) : ∀ (m : Nat) {i : Nat}, i < 8 → (s.getD i default).kind ≠ 0 → (s.getD (itUp s m i) default).kind ≠ 0
  | 0, _, _, hk => hk
  | m + 1, _, hi, hk => h.itUpk m (h.up8 hi) (by rw [h.upk hi hk]; decide)
/-- Eight steps up lead to the top. -/
theorem Wf.climb {s : List Node} (h : Wf s) {i : Nat} (hi : i < 8) (hk : (s.getD i default).kind ≠ 0) : itUp s 8 i = 0 := by
  obtain ⟨r0, hr0⟩ := h.tree
  obtain ⟨r, hr8, hr⟩ := rank8 r0 h.len (fun i hi => h.up8 hi) hr0
  have g : ∀ m, itUp s m i = 0 ∨ r (itUp s m i) + m ≤ r i := by
    intro m
    induction m with
    | zero => right; exact Nat.le_refl _
    | succ m ih =>
      rcases ih with ih | ih
      · left; rw [itUp_succ, ih, h.top]; rfl
      · by_cases h0 : itUp s m i = 0
        · left; rw [itUp_succ, h0, h.top]; rfl
        · right
          rw [itUp_succ]
          have := hr (itUp s m i) (by omega) (h.itUp8 m hi) (h.itUpk m hi hk)
          omega
  rcases g 8 with e | e
  · exact e
  · have := hr8 i hi; omega

theorem withA_nat (s : List Node) (n : Nat) (x : Node) : withA s n x = s.set n x := by
  unfold withA
  rw [if_pos (by omega), Int.toNat_natCast]
theorem Wf.kidOf {s : List Node} (h : Wf s) {i : Nat} {n : Int} (h1 : 1 ≤ i) (hi : i < 8) (hk : (s.getD i default).kind ≠ 0) (hu : (s.getD i default).up = n) : kid s n i :=
  ⟨h1, by have := h.len; omega, by rcases (h.ok i h1 hi).kinds with e | e; exact absurd e hk; exact e, hu⟩

theorem make_wf {s : List Node} (h : Wf s) {kind : Int} {up n : Nat} {a : List UInt8} (hup : up < 8) (hk2 : (s.getD up default).kind = 2) (hno : ∀ k, kid s up k → (s.getD k default).name ≠ a) (hn : n < 8) (hn0 : (s.getD n default).kind = 0) (hk : kind = 1 ∨ kind = 2) (ha : mayN a = true) :
    Wf (withA s n ⟨kind, up, a, [], 0⟩) := by
  rw [withA_nat]
  have hn1 : 1 ≤ n := by
    rcases Nat.eq_zero_or_pos n with e | e
    · subst e; exact absurd hn0 h.root
    · exact e
  have hk0 : kind ≠ 0 := by omega
  have hne : up ≠ n := by rintro rfl; omega
  have nou : ∀ i, 1 ≤ i → i < 8 → (s.getD i default).kind ≠ 0 → (s.getD i default).up.toNat ≠ n := fun i h1 h8 hki e => by
    have := h.upk h8 hki; rw [e] at this; omega
  obtain ⟨r, hr⟩ := h.tree
  refine h.put hn1 hn (x := ⟨kind, up, a, [], 0⟩) ⟨rfl, .inr hk, fun e => absurd e hk0, fun _ => rfl, fun _ => ha, ⟨by show (0 : Int) ≤ up; omega, by show (up : Int) < 8; omega⟩, fun _ => hk2, by show 0 ≤ 128; omega⟩ (fun _ => .inl hne) (.inr fun i h1 h8 _ hki => nou i h1 h8 hki) ?_ (fun i => if i = n then r up + 1 else r i) ?_ ?_
  · intro _ i h1 h8 _ hki hu hnm
    exact hno i (h.kidOf h1 h8 hki hu) hnm
  · intro i h1 h8 hin hki
    show (if _ then _ else _) < (if _ then _ else _)
    rw [if_neg (nou i h1 h8 hki), if_neg hin]
    exact hr i h1 h8 hki
  · intro _
    show (if (up : Int).toNat = n then r up + 1 else r (up : Int).toNat) < (if n = n then r up + 1 else r n)
    rw [Int.toNat_natCast, if_neg hne, if_pos rfl]
    omega

theorem drop_wf {s : List Node} (h : Wf s) {k : Nat} (hk1 : k ≠ 0) (hk : k < 8) (hno : ∀ i, ¬ kid s k i) : Wf (withA s k ⟨0, 0, [], [], 0⟩) := by
  rw [withA_nat]
  obtain ⟨r, hr⟩ := h.tree
  refine h.put (by omega) hk (x := ⟨0, 0, [], [], 0⟩) ⟨rfl, .inl rfl, fun _ => rfl, fun e => absurd e (by decide), fun e => absurd rfl e, ⟨by decide, by decide⟩, fun e => absurd rfl e, by show 0 ≤ 128; omega⟩ (fun e => absurd rfl e) (.inr fun i h1 h8 _ hki e => ?_) (fun e => absurd rfl e) r (fun i h1 h8 _ hki => hr i h1 h8 hki) (fun e => absurd rfl e)
  have := h.upD i (by have := h.len; omega)
  exact hno i (h.kidOf h1 h8 hki (by omega))

theorem body_wf {s : List Node} (h : Wf s) {k : Nat} (hk : k < 8) (hk2 : (s.getD k default).kind ≠ 2) (hk0 : (s.getD k default).kind ≠ 0) {y : List UInt8} (hy : y.length ≤ 128) : Wf (withA s k ⟨(s.getD k default).kind, (s.getD k default).up, (s.getD k default).name, y, (s.getD k default).bad⟩) := by
  rw [withA_nat]
  have hk1 : k ≠ 0 := by rintro rfl; exact hk2 h.root2
  have o := h.ok k (by omega) hk
  obtain ⟨r, hr⟩ := h.tree
  refine h.put (by omega) hk (x := ⟨(s.getD k default).kind, (s.getD k default).up, (s.getD k default).name, y, (s.getD k default).bad⟩) ⟨o.bad, o.kinds, fun e => absurd e hk0, fun e => absurd e hk2, o.name, o.up, o.upf, hy⟩ (fun _ => .inl fun e => ?_) (.inr fun i h1 h8 _ hki e => ?_) (fun _ i h1 h8 hik hki hu hnm => ?_) r (fun i h1 h8 _ hki => hr i h1 h8 hki) (fun _ => hr k (by omega) hk hk0)
  · have := h.upk hk hk0
    rw [show (s.getD k default).up.toNat = k from e] at this; exact hk2 this
  · have := h.upk h8 hki
    rw [e] at this; exact hk2 this
  · exact hik (h.uniq i k h1 h8 (by omega) hk hki hk0 hu hnm)

open Classical in
theorem move_wf {s : List Node} (h : Wf s) {k up : Nat} {a : List UInt8} (hk1 : k ≠ 0) (hk : k < 8) (hk0 : (s.getD k default).kind ≠ 0) (hup : up < 8) (hk2 : (s.getD up default).kind = 2) (hno : ∀ k, kid s up k → (s.getD k default).name ≠ a) (ha : mayN a = true)
    (hin : ∀ m, itUp s m up ≠ k) : Wf (withA s k ⟨(s.getD k default).kind, up, a, (s.getD k default).body, (s.getD k default).bad⟩) := by
  rw [withA_nat]
  have o := h.ok k (by omega) hk
  have hne : up ≠ k := hin 0
  obtain ⟨r, hr⟩ := h.tree
  refine h.put (by omega) hk (x := ⟨(s.getD k default).kind, up, a, (s.getD k default).body, (s.getD k default).bad⟩) ⟨o.bad, o.kinds, fun e => absurd e hk0, o.fold, fun _ => ha, ⟨by show (0 : Int) ≤ up; omega, by show (up : Int) < 8; omega⟩, fun _ => hk2, o.body⟩ (fun _ => .inl hne) ?_ ?_ (fun i => if (∃ m, itUp s m i = k) then r up + 1 + r i else r i) ?_ ?_
  · by_cases e : (s.getD k default).kind = 2
    · exact .inl e
    · refine .inr fun i h1 h8 _ hki e2 => ?_
      have := h.upk h8 hki
      rw [e2] at this; exact e this
  · intro _ i h1 h8 _ hki hu hnm
    exact hno i (h.kidOf h1 h8 hki hu) hnm
  · intro i h1 h8 hik hki
    have hri := hr i h1 h8 hki
    have e : (∃ m, itUp s m (s.getD i default).up.toNat = k) ↔ ∃ m, itUp s m i = k := by
      constructor
      · rintro ⟨m, hm⟩; exact ⟨m + 1, hm⟩
      · rintro ⟨m, hm⟩
        cases m with
        | zero => exact absurd hm hik
        | succ m => exact ⟨m, hm⟩
    show (if _ then _ else _) < (if _ then _ else _)
    by_cases g : ∃ m, itUp s m i = k
    · rw [if_pos (e.2 g), if_pos g]; omega
    · rw [if_neg (fun h => g (e.1 h)), if_neg g]; exact hri
  · intro _
    have g : ¬ ∃ m, itUp s m up = k := fun ⟨m, hm⟩ => hin m hm
    show (if ∃ m, itUp s m up = k then _ else r up) < (if _ then _ else _)
    rw [if_neg g, if_pos ⟨0, rfl⟩]; omega
end Go.Proofs.Ytemjlopoffjmpaa.Abs
set_option linter.unusedSimpArgs false
set_option linter.unusedVariables false
namespace Go.Proofs.Ytemjlopoffjmpaa.Abs
open Go Go.Proofs

theorem there_nat {s : List Node} {n : Nat} (hn : n < s.length) (hk : (s.getD n default).kind ≠ 0) : there s n = true := by
  unfold there
  rw [Bool.and_eq_true]
  exact ⟨decide_eq_true ⟨by omega, by omega⟩, decide_eq_true (by rw [Int.toNat_natCast]; exact hk)⟩

theorem within_spec (s : List Node) (hw : Wf s) (n top : Nat) (hn : n < s.length) (hnk : (s.getD n default).kind ≠ 0) (ht : top < s.length) (htk : (s.getD top default).kind ≠ 0) (H : AH) :
    C Try.prog 72 [aset s, .int .i64 n, .int .i64 top] H (fun x H' => ∃ b, x = .bool b ∧ (b = true ↔ ∃ m, itUp s m n = top) ∧ H' = H) := by
  have hlen := hw.len
  have t1 := there_nat hn hnk
  have t2 := there_nat ht htk
  refine C_body d72 rfl (WT_ok ?_)
  unfold c72
  simp only [aset, iaddr_node, pnode, wk3, onStO, bareL, toCl, chunks, wk, emb, unAgg, ares, aresL, ares1, tupled, forall_const, Nat.reduceAdd, Nat.reduceSub, Nat.reduceMul, Nat.reduceLeDiff, Nat.reduceEqDiff, Nat.reduceBEq, Int.reduceLE, Int.reduceLT, Int.reduceEq, Int.reduceNe, Int.reduceAdd, Int.reduceSub, Int.reduceToNat, Int.reduceNeg, ↓reduceIte, reduceCtorEq, cellsOf, cellA, lay, fillA]
  refine CT_ok (there_spec s n H) ?_
  rintro _ H ⟨rfl, rfl⟩
  simp only [t1, iaddr_node, pnode, wk3, onStO, bareL, toCl, chunks, wk, emb, unAgg, ares, aresL, ares1, tupled, forall_const, Nat.reduceAdd, Nat.reduceSub, Nat.reduceMul, Nat.reduceLeDiff, Nat.reduceEqDiff, Nat.reduceBEq, Int.reduceLE, Int.reduceLT, Int.reduceEq, Int.reduceNe, Int.reduceAdd, Int.reduceSub, Int.reduceToNat, Int.reduceNeg, ↓reduceIte, reduceCtorEq, cellsOf, cellA, lay, fillA]
  refine CT_ok (there_spec s top H) ?_
  rintro _ H ⟨rfl, rfl⟩
  simp only [t2, iaddr_node, pnode, wk3, onStO, bareL, toCl, chunks, wk, emb, unAgg, ares, aresL, ares1, tupled, forall_const, Nat.reduceAdd, Nat.reduceSub, Nat.reduceMul, Nat.reduceLeDiff, Nat.reduceEqDiff, Nat.reduceBEq, Int.reduceLE, Int.reduceLT, Int.reduceEq, Int.reduceNe, Int.reduceAdd, Int.reduceSub, Int.reduceToNat, Int.reduceNeg, ↓reduceIte, reduceCtorEq, cellsOf, cellA, lay, fillA]
  refine WT_loop (W_wk (fr' := [.fz (s.map pnode), .int .i64 n, .int .i64 top, .top, .top, .top, .bool false, .int .i64 0] ++ List.replicate 33 .top) (Wk_tops ?_) (W_loop (fun nn fr H' => ∃ (k : Nat), k ≤ s.length ∧ nn = s.length - k ∧ (∀ j, j < k → itUp s j n ≠ top ∧ itUp s j n ≠ 0) ∧ H' = H ∧ fr = [.fz (s.map pnode), .int .i64 (itUp s k n : Nat), .int .i64 top, .top, .top, .top, .bool false, .int .i64 k] ++ List.replicate 33 .top) s.length ⟨0, by omega, rfl, fun j hj => by omega, rfl, rfl⟩ ?_))
  · simp only [List.replicate_succ, List.replicate_zero, List.cons_append, List.nil_append, Tops_top, Tops_same, Tops_nil]
  rintro nn fr H ⟨k, hk, rfl, hj, rfl, rfl⟩
  refine WT_ok ?_
  simp only [iaddr_node, pnode, wk3, onStO, bareL, toCl, chunks, wk, emb, unAgg, ares, aresL, ares1, tupled, forall_const, Nat.reduceAdd, Nat.reduceSub, Nat.reduceMul, Nat.reduceLeDiff, Nat.reduceEqDiff, Nat.reduceBEq, Int.reduceLE, Int.reduceLT, Int.reduceEq, Int.reduceNe, Int.reduceAdd, Int.reduceSub, Int.reduceToNat, Int.reduceNeg, ↓reduceIte, reduceCtorEq, cellsOf, cellA, lay, fillA]
  have ha : itUp s k n < 8 := hw.itUp8 k (by omega)
  have g1 : (0 : Int) ≤ (itUp s k n : Nat) := by omega
  have g2 : ((itUp s k n : Nat) : Int) < s.length := by omega
  have w2 : IntKind.i64.wrap ((k : Int) + 1) = (k : Int) + 1 := IntWalk.i64_in _ (by omega)
  have fin : (itUp s k n = 0 ∨ k = 8) → itUp s k n ≠ top → ¬ ∃ m, itUp s m n = top := by
    rintro h0 h1 ⟨m, hm⟩
    rcases Nat.lt_or_ge m k with h | h
    · exact (hj m h).1 hm
    · have e := itUp_add s k (m - k) n
      rw [show k + (m - k) = m by omega, hm] at e
      have z : itUp s k n = 0 := by
        rcases h0 with h0 | h0
        · exact h0
        · subst h0; exact hw.climb (by omega) hnk
      rw [z, hw.itUp0] at e
      omega
  refine guard_both ?_ ?_ <;> intro h3 <;> simp only [hy] at h3
  · simp only [h3, iaddr_node, pnode, wk3, onStO, bareL, toCl, chunks, wk, emb, unAgg, ares, aresL, ares1, tupled, forall_const, Nat.reduceAdd, Nat.reduceSub, Nat.reduceMul, Nat.reduceLeDiff, Nat.reduceEqDiff, Nat.reduceBEq, Int.reduceLE, Int.reduceLT, Int.reduceEq, Int.reduceNe, Int.reduceAdd, Int.reduceSub, Int.reduceToNat, Int.reduceNeg, ↓reduceIte, reduceCtorEq, cellsOf, cellA, lay, fillA]
    refine guard_both ?_ ?_ <;> intro h4 <;> simp only [hy] at h4
    · simp only [h3, h4, iaddr_node, pnode, wk3, onStO, bareL, toCl, chunks, wk, emb, unAgg, ares, aresL, ares1, tupled, forall_const, Nat.reduceAdd, Nat.reduceSub, Nat.reduceMul, Nat.reduceLeDiff, Nat.reduceEqDiff, Nat.reduceBEq, Int.reduceLE, Int.reduceLT, Int.reduceEq, Int.reduceNe, Int.reduceAdd, Int.reduceSub, Int.reduceToNat, Int.reduceNeg, ↓reduceIte, reduceCtorEq, cellsOf, cellA, lay, fillA]
      refine guard_both ?_ ?_ <;> intro h5 <;> simp only [hy] at h5
      · simp only [h3, h4, h5, g1, g2, w2, iaddr_node, pnode, wk3, onStO, bareL, toCl, chunks, wk, emb, unAgg, ares, aresL, ares1, tupled, forall_const, Nat.reduceAdd, Nat.reduceSub, Nat.reduceMul, Nat.reduceLeDiff, Nat.reduceEqDiff, Nat.reduceBEq, Int.reduceLE, Int.reduceLT, Int.reduceEq, Int.reduceNe, Int.reduceAdd, Int.reduceSub, Int.reduceToNat, Int.reduceNeg, ↓reduceIte, reduceCtorEq, cellsOf, cellA, lay, fillA]
        have hu := hw.upD (itUp s k n) (by omega)
        refine QLoop_go (n' := s.length - (k + 1)) (by omega) ⟨k + 1, by omega, rfl, fun j h => ?_, rfl, rfl⟩ ?_
        · rcases Nat.lt_or_ge j k with h' | h'
          · exact hj j h'
          · have : j = k := by omega
            subst this
            exact ⟨by omega, by omega⟩
        · have e : ((itUp s (k + 1) n : Nat) : Int) = (s.getD (itUp s k n) default).up := by rw [itUp_succ]; omega
          simp only [e, List.replicate_succ, List.replicate_zero, List.cons_append, List.nil_append, Tops_top, Tops_same, Tops_nil, Int.natCast_add, Int.natCast_one]
      · simp only [h3, h4, h5, iaddr_node, pnode, wk3, onStO, bareL, toCl, chunks, wk, emb, unAgg, ares, aresL, ares1, tupled, forall_const, Nat.reduceAdd, Nat.reduceSub, Nat.reduceMul, Nat.reduceLeDiff, Nat.reduceEqDiff, Nat.reduceBEq, Int.reduceLE, Int.reduceLT, Int.reduceEq, Int.reduceNe, Int.reduceAdd, Int.reduceSub, Int.reduceToNat, Int.reduceNeg, ↓reduceIte, reduceCtorEq, cellsOf, cellA, lay, fillA]
        refine ⟨_, rfl, ?_⟩
        have := fin (.inl (by omega)) (by omega)
        simp only [decide_eq_true_eq]
        exact ⟨fun e => absurd (by omega) h4, fun e => absurd e this⟩
    · simp only [h3, h4, iaddr_node, pnode, wk3, onStO, bareL, toCl, chunks, wk, emb, unAgg, ares, aresL, ares1, tupled, forall_const, Nat.reduceAdd, Nat.reduceSub, Nat.reduceMul, Nat.reduceLeDiff, Nat.reduceEqDiff, Nat.reduceBEq, Int.reduceLE, Int.reduceLT, Int.reduceEq, Int.reduceNe, Int.reduceAdd, Int.reduceSub, Int.reduceToNat, Int.reduceNeg, ↓reduceIte, reduceCtorEq, cellsOf, cellA, lay, fillA]
      exact ⟨_, rfl, ⟨fun _ => ⟨k, by omega⟩, fun _ => by simp⟩⟩
  · simp only [h3, iaddr_node, pnode, wk3, onStO, bareL, toCl, chunks, wk, emb, unAgg, ares, aresL, ares1, tupled, forall_const, Nat.reduceAdd, Nat.reduceSub, Nat.reduceMul, Nat.reduceLeDiff, Nat.reduceEqDiff, Nat.reduceBEq, Int.reduceLE, Int.reduceLT, Int.reduceEq, Int.reduceNe, Int.reduceAdd, Int.reduceSub, Int.reduceToNat, Int.reduceNeg, ↓reduceIte, reduceCtorEq, cellsOf, cellA, lay, fillA]
    refine ⟨_, rfl, ?_⟩
    simp only [decide_eq_true_eq]
    exact ⟨fun e => ⟨k, by omega⟩, fun e => Classical.byContradiction fun g => fin (.inr (by omega)) (by omega) e⟩

theorem make_spec {path : List UInt8} {P : List (List UInt8) → Prop} {B : Prop} (hp : PartsC path P B) (s : List Node) (hs : s.length ≤ 1000000) (h0s : 0 < s.length) (kind : Int) (H : AH) :
    C Try.prog 17 [aset s, .str path, .int .i64 kind] H (fun x H' => H' = H ∧ ((∃ e : Int, e ≠ 0 ∧ x = .tuple [aset s, .int .i64 e]) ∨
      ∃ l a up n, P (l ++ [a]) ∧ up < s.length ∧ downR s l 0 up ∧ (s.getD up default).kind = 2 ∧ (∀ k, kid s up k → (s.getD k default).name ≠ a) ∧ n < s.length ∧ (s.getD n default).kind = 0 ∧ (kind = 1 ∨ kind = 2) ∧ x = .tuple [aset (withA s n ⟨kind, up, a, [], 0⟩), .int .i64 0])) := by
  refine C_body d17 rfl (WT_ok ?_)
  unfold c17
  simp only [aset, iaddr_node, pnode, wk3, onStO, bareL, toCl, chunks, wk, emb, unAgg, ares, aresL, ares1, tupled, forall_const, Nat.reduceAdd, Nat.reduceSub, Nat.reduceMul, Nat.reduceLeDiff, Nat.reduceEqDiff, Nat.reduceBEq, Int.reduceLE, Int.reduceLT, Int.reduceEq, Int.reduceNe, Int.reduceAdd, Int.reduceSub, Int.reduceToNat, Int.reduceNeg, ↓reduceIte, reduceCtorEq, cellsOf, cellA, lay, fillA]
  by_cases hk : kind = 1 ∨ kind = 2
  · rcases hk with rfl | rfl
    all_goals
      simp only [iaddr_node, pnode, wk3, onStO, bareL, toCl, chunks, wk, emb, unAgg, ares, aresL, ares1, tupled, forall_const, Nat.reduceAdd, Nat.reduceSub, Nat.reduceMul, Nat.reduceLeDiff, Nat.reduceEqDiff, Nat.reduceBEq, Int.reduceLE, Int.reduceLT, Int.reduceEq, Int.reduceNe, Int.reduceAdd, Int.reduceSub, Int.reduceToNat, Int.reduceNeg, ↓reduceIte, reduceCtorEq, cellsOf, cellA, lay, fillA]
      refine CT_ok (place_spec hp s hs h0s H) ?_
      rintro _ H ⟨rfl, ⟨l, a, hl, up, hup, hR, hk2, rfl⟩ | ⟨e, he, rfl⟩⟩
      · simp only [iaddr_node, pnode, wk3, onStO, bareL, toCl, chunks, wk, emb, unAgg, ares, aresL, ares1, tupled, forall_const, Nat.reduceAdd, Nat.reduceSub, Nat.reduceMul, Nat.reduceLeDiff, Nat.reduceEqDiff, Nat.reduceBEq, Int.reduceLE, Int.reduceLT, Int.reduceEq, Int.reduceNe, Int.reduceAdd, Int.reduceSub, Int.reduceToNat, Int.reduceNeg, ↓reduceIte, reduceCtorEq, cellsOf, cellA, lay, fillA]
        refine CT_ok (kid_spec s hs up a H) ?_
        rintro _ H ⟨rfl, ⟨k, hk, hnm, rfl⟩ | ⟨rfl, hno⟩⟩
        · simp only [iaddr_node, pnode, wk3, onStO, bareL, toCl, chunks, wk, emb, unAgg, ares, aresL, ares1, tupled, forall_const, Nat.reduceAdd, Nat.reduceSub, Nat.reduceMul, Nat.reduceLeDiff, Nat.reduceEqDiff, Nat.reduceBEq, Int.reduceLE, Int.reduceLT, Int.reduceEq, Int.reduceNe, Int.reduceAdd, Int.reduceSub, Int.reduceToNat, Int.reduceNeg, ↓reduceIte, reduceCtorEq, cellsOf, cellA, lay, fillA]
          exact .inl ⟨3, by omega, rfl⟩
        · simp only [iaddr_node, pnode, wk3, onStO, bareL, toCl, chunks, wk, emb, unAgg, ares, aresL, ares1, tupled, forall_const, Nat.reduceAdd, Nat.reduceSub, Nat.reduceMul, Nat.reduceLeDiff, Nat.reduceEqDiff, Nat.reduceBEq, Int.reduceLE, Int.reduceLT, Int.reduceEq, Int.reduceNe, Int.reduceAdd, Int.reduceSub, Int.reduceToNat, Int.reduceNeg, ↓reduceIte, reduceCtorEq, cellsOf, cellA, lay, fillA]
          refine CT_ok (free_spec s hs H) ?_
          rintro _ H ⟨rfl, ⟨n, hn, hn0, rfl⟩ | rfl⟩
          · simp only [iaddr_node, pnode, wk3, onStO, bareL, toCl, chunks, wk, emb, unAgg, ares, aresL, ares1, tupled, forall_const, Nat.reduceAdd, Nat.reduceSub, Nat.reduceMul, Nat.reduceLeDiff, Nat.reduceEqDiff, Nat.reduceBEq, Int.reduceLE, Int.reduceLT, Int.reduceEq, Int.reduceNe, Int.reduceAdd, Int.reduceSub, Int.reduceToNat, Int.reduceNeg, ↓reduceIte, reduceCtorEq, cellsOf, cellA, lay, fillA]
            refine CT_ok (with_spec s hs n ⟨_, up, a, [], 0⟩ H) ?_
            rintro _ H ⟨rfl, rfl⟩
            simp only [iaddr_node, pnode, wk3, onStO, bareL, toCl, chunks, wk, emb, unAgg, ares, aresL, ares1, tupled, forall_const, Nat.reduceAdd, Nat.reduceSub, Nat.reduceMul, Nat.reduceLeDiff, Nat.reduceEqDiff, Nat.reduceBEq, Int.reduceLE, Int.reduceLT, Int.reduceEq, Int.reduceNe, Int.reduceAdd, Int.reduceSub, Int.reduceToNat, Int.reduceNeg, ↓reduceIte, reduceCtorEq, cellsOf, cellA, lay, fillA]
            exact .inr ⟨l, a, up, n, hl, hup, hR, hk2, hno, hn, hn0, by simp, rfl⟩
          · simp only [iaddr_node, pnode, wk3, onStO, bareL, toCl, chunks, wk, emb, unAgg, ares, aresL, ares1, tupled, forall_const, Nat.reduceAdd, Nat.reduceSub, Nat.reduceMul, Nat.reduceLeDiff, Nat.reduceEqDiff, Nat.reduceBEq, Int.reduceLE, Int.reduceLT, Int.reduceEq, Int.reduceNe, Int.reduceAdd, Int.reduceSub, Int.reduceToNat, Int.reduceNeg, ↓reduceIte, reduceCtorEq, cellsOf, cellA, lay, fillA]
            exact .inl ⟨8, by omega, rfl⟩
      · simp only [he, iaddr_node, pnode, wk3, onStO, bareL, toCl, chunks, wk, emb, unAgg, ares, aresL, ares1, tupled, forall_const, Nat.reduceAdd, Nat.reduceSub, Nat.reduceMul, Nat.reduceLeDiff, Nat.reduceEqDiff, Nat.reduceBEq, Int.reduceLE, Int.reduceLT, Int.reduceEq, Int.reduceNe, Int.reduceAdd, Int.reduceSub, Int.reduceToNat, Int.reduceNeg, ↓reduceIte, reduceCtorEq, cellsOf, cellA, lay, fillA]
        exact .inl ⟨e, he, rfl⟩
  · have h1 : ¬ kind = 1 := fun e => hk (.inl e)
    have h2 : ¬ kind = 2 := fun e => hk (.inr e)
    simp only [h1, h2, iaddr_node, pnode, wk3, onStO, bareL, toCl, chunks, wk, emb, unAgg, ares, aresL, ares1, tupled, forall_const, Nat.reduceAdd, Nat.reduceSub, Nat.reduceMul, Nat.reduceLeDiff, Nat.reduceEqDiff, Nat.reduceBEq, Int.reduceLE, Int.reduceLT, Int.reduceEq, Int.reduceNe, Int.reduceAdd, Int.reduceSub, Int.reduceToNat, Int.reduceNeg, ↓reduceIte, reduceCtorEq, cellsOf, cellA, lay, fillA]
    exact .inl ⟨1, by omega, rfl⟩
end Go.Proofs.Ytemjlopoffjmpaa.Abs
set_option linter.unusedSimpArgs false
set_option linter.unusedVariables false
namespace Go.Proofs.Ytemjlopoffjmpaa.Abs
open Go Go.Proofs

/-- What becomes of a set that is edited: itself, or another one that is as good. -/
def NextW (s : List Node) (x : AV) : Prop := ∃ (t : List Node) (e : Int), Wf t ∧ x = .tuple [aset t, .int .i64 e]

theorem KWk_bare {K : AV → AH → Prop} {x : AV} {H : AH} (hx : bare x = true) (hk : K x []) : KWk 0 K x H := by
  refine ⟨x, [], ?_, hk⟩
  have := Wk_forget (n0 := 0) (fr := [x]) (H := H) 0 (Nat.le_refl _)
  rw [renL_bare _ _ (by simp [bareL, hx])] at this
  simpa [mapH] using this
theorem bare_next (t : List Node) (e : Int) : bare (.tuple [aset t, .int .i64 e]) = true := by simp [bare, bareL, aset]
theorem next_pure {f : FuncId} {args : List AV} {s : List Node} (h : C Try.prog f args [] (fun x H' => NextW s x ∧ H' = [])) (ha : bareL args = true) (H : AH) : C Try.prog f args H (fun x H' => H' = H ∧ NextW s x) :=
  (C_pure (K0 := fun x => NextW s x) h (fun τ => renL_bare τ _ ha) (by rintro x ⟨t, e, _, rfl⟩ τ; exact ren_bare τ _ (bare_next t e)) H).mono fun x H' h => ⟨h.2, h.1⟩

theorem downR_some {s : List Node} (h : Wf s) : ∀ {l : List (List UInt8)} {k : Nat}, downR s l 0 k → (s.getD k default).kind ≠ 0 := by
  have g : ∀ (l : List (List UInt8)) (a k : Nat), (s.getD a default).kind ≠ 0 → downR s l a k → (s.getD k default).kind ≠ 0 := by
    intro l
    induction l with
    | nil => intro a k ha hR; simp only [downR] at hR; subst hR; exact ha
    | cons x l ih =>
      rintro a k ha ⟨_, m, hm, _, hR⟩
      refine ih m k ?_ hR
      rcases hm.2.2.1 with e | e <;> rw [e] <;> decide
  exact fun {l k} => g l 0 k h.root

theorem drop_spec {path : List UInt8} {P : List (List UInt8) → Prop} {B : Prop} (hp : PartsC path P B) (s : List Node) (hw : Wf s) (H : AH) :
    C Try.prog 34 [aset s, .str path] H (fun x H' => H' = H ∧ NextW s x) := by
  have hlen := hw.len
  refine C_body d34 rfl (WT_ok ?_)
  unfold c34
  simp only [aset, iaddr_node, pnode, wk3, onStO, bareL, toCl, chunks, wk, emb, unAgg, ares, aresL, ares1, tupled, forall_const, Nat.reduceAdd, Nat.reduceSub, Nat.reduceMul, Nat.reduceLeDiff, Nat.reduceEqDiff, Nat.reduceBEq, Int.reduceLE, Int.reduceLT, Int.reduceEq, Int.reduceNe, Int.reduceAdd, Int.reduceSub, Int.reduceToNat, Int.reduceNeg, ↓reduceIte, reduceCtorEq, cellsOf, cellA, lay, fillA]
  refine CT_ok (find_spec hp s (by omega) (by omega) H) ?_
  rintro _ H ⟨rfl, ⟨l, hl, k, hk, hR, rfl⟩ | ⟨e, he, hF, rfl⟩⟩
  · simp only [iaddr_node, pnode, wk3, onStO, bareL, toCl, chunks, wk, emb, unAgg, ares, aresL, ares1, tupled, forall_const, Nat.reduceAdd, Nat.reduceSub, Nat.reduceMul, Nat.reduceLeDiff, Nat.reduceEqDiff, Nat.reduceBEq, Int.reduceLE, Int.reduceLT, Int.reduceEq, Int.reduceNe, Int.reduceAdd, Int.reduceSub, Int.reduceToNat, Int.reduceNeg, ↓reduceIte, reduceCtorEq, cellsOf, cellA, lay, fillA]
    refine guard_both ?_ ?_ <;> intro h3 <;> simp only [hy] at h3
    · simp only [h3, iaddr_node, pnode, wk3, onStO, bareL, toCl, chunks, wk, emb, unAgg, ares, aresL, ares1, tupled, forall_const, Nat.reduceAdd, Nat.reduceSub, Nat.reduceMul, Nat.reduceLeDiff, Nat.reduceEqDiff, Nat.reduceBEq, Int.reduceLE, Int.reduceLT, Int.reduceEq, Int.reduceNe, Int.reduceAdd, Int.reduceSub, Int.reduceToNat, Int.reduceNeg, ↓reduceIte, reduceCtorEq, cellsOf, cellA, lay, fillA]
      exact ⟨s, 4, hw, rfl⟩
    · simp only [h3, iaddr_node, pnode, wk3, onStO, bareL, toCl, chunks, wk, emb, unAgg, ares, aresL, ares1, tupled, forall_const, Nat.reduceAdd, Nat.reduceSub, Nat.reduceMul, Nat.reduceLeDiff, Nat.reduceEqDiff, Nat.reduceBEq, Int.reduceLE, Int.reduceLT, Int.reduceEq, Int.reduceNe, Int.reduceAdd, Int.reduceSub, Int.reduceToNat, Int.reduceNeg, ↓reduceIte, reduceCtorEq, cellsOf, cellA, lay, fillA]
      refine CT_ok (kids_spec s (by omega) k H) ?_
      rintro _ H ⟨⟨l2, rfl, hl2, hll2⟩, rfl⟩
      simp only [iaddr_node, pnode, wk3, onStO, bareL, toCl, chunks, wk, emb, unAgg, ares, aresL, ares1, tupled, forall_const, Nat.reduceAdd, Nat.reduceSub, Nat.reduceMul, Nat.reduceLeDiff, Nat.reduceEqDiff, Nat.reduceBEq, Int.reduceLE, Int.reduceLT, Int.reduceEq, Int.reduceNe, Int.reduceAdd, Int.reduceSub, Int.reduceToNat, Int.reduceNeg, ↓reduceIte, reduceCtorEq, cellsOf, cellA, lay, fillA]
      refine guard_both ?_ ?_ <;> intro h4 <;> simp only [hy] at h4
      · simp only [h4, iaddr_node, pnode, wk3, onStO, bareL, toCl, chunks, wk, emb, unAgg, ares, aresL, ares1, tupled, forall_const, Nat.reduceAdd, Nat.reduceSub, Nat.reduceMul, Nat.reduceLeDiff, Nat.reduceEqDiff, Nat.reduceBEq, Int.reduceLE, Int.reduceLT, Int.reduceEq, Int.reduceNe, Int.reduceAdd, Int.reduceSub, Int.reduceToNat, Int.reduceNeg, ↓reduceIte, reduceCtorEq, cellsOf, cellA, lay, fillA]
        exact ⟨s, 6, hw, rfl⟩
      · simp only [h4, iaddr_node, pnode, wk3, onStO, bareL, toCl, chunks, wk, emb, unAgg, ares, aresL, ares1, tupled, forall_const, Nat.reduceAdd, Nat.reduceSub, Nat.reduceMul, Nat.reduceLeDiff, Nat.reduceEqDiff, Nat.reduceBEq, Int.reduceLE, Int.reduceLT, Int.reduceEq, Int.reduceNe, Int.reduceAdd, Int.reduceSub, Int.reduceToNat, Int.reduceNeg, ↓reduceIte, reduceCtorEq, cellsOf, cellA, lay, fillA]
        refine CT_ok (with_spec s (by omega) k ⟨0, 0, [], [], 0⟩ H) ?_
        rintro _ H ⟨rfl, rfl⟩
        simp only [iaddr_node, pnode, wk3, onStO, bareL, toCl, chunks, wk, emb, unAgg, ares, aresL, ares1, tupled, forall_const, Nat.reduceAdd, Nat.reduceSub, Nat.reduceMul, Nat.reduceLeDiff, Nat.reduceEqDiff, Nat.reduceBEq, Int.reduceLE, Int.reduceLT, Int.reduceEq, Int.reduceNe, Int.reduceAdd, Int.reduceSub, Int.reduceToNat, Int.reduceNeg, ↓reduceIte, reduceCtorEq, cellsOf, cellA, lay, fillA]
        refine ⟨_, 0, drop_wf hw (by omega) (by omega) (fun i hi => ?_), rfl⟩
        have := (hl2 i).2 hi
        have : l2 = [] := by
          have : ¬ 0 < l2.length := by omega
          exact List.eq_nil_of_length_eq_zero (by omega)
        subst this; cases (hl2 i).2 hi
  · simp only [he, iaddr_node, pnode, wk3, onStO, bareL, toCl, chunks, wk, emb, unAgg, ares, aresL, ares1, tupled, forall_const, Nat.reduceAdd, Nat.reduceSub, Nat.reduceMul, Nat.reduceLeDiff, Nat.reduceEqDiff, Nat.reduceBEq, Int.reduceLE, Int.reduceLT, Int.reduceEq, Int.reduceNe, Int.reduceAdd, Int.reduceSub, Int.reduceToNat, Int.reduceNeg, ↓reduceIte, reduceCtorEq, cellsOf, cellA, lay, fillA]
    exact ⟨s, e, hw, rfl⟩

theorem move_spec0 {path path2 : List UInt8} {P P' : List (List UInt8) → Prop} {B B' : Prop} (hp : PartsC path P B) (hp' : PartsC path2 P' B') (hP : ∀ l, P' l → ∀ x ∈ l, mayN x = true) (s : List Node) (hw : Wf s) :
    C Try.prog 35 [aset s, .str path, .str path2] [] (fun x H' => NextW s x ∧ H' = []) := by
  have hlen := hw.len
  refine C_body' d35 rfl (WT_ok ?_)
  unfold c35
  simp only [aset, iaddr_node, pnode, wk3, onStO, bareL, toCl, chunks, wk, emb, unAgg, ares, aresL, ares1, tupled, forall_const, Nat.reduceAdd, Nat.reduceSub, Nat.reduceMul, Nat.reduceLeDiff, Nat.reduceEqDiff, Nat.reduceBEq, Int.reduceLE, Int.reduceLT, Int.reduceEq, Int.reduceNe, Int.reduceAdd, Int.reduceSub, Int.reduceToNat, Int.reduceNeg, ↓reduceIte, reduceCtorEq, cellsOf, cellA, lay, fillA]
  refine CT_ok (find_spec hp s (by omega) (by omega) []) ?_
  rintro _ _ ⟨rfl, ⟨l0, hl0, k, hk, hR0, rfl⟩ | ⟨e, he, hF, rfl⟩⟩
  · simp only [iaddr_node, pnode, wk3, onStO, bareL, toCl, chunks, wk, emb, unAgg, ares, aresL, ares1, tupled, forall_const, Nat.reduceAdd, Nat.reduceSub, Nat.reduceMul, Nat.reduceLeDiff, Nat.reduceEqDiff, Nat.reduceBEq, Int.reduceLE, Int.reduceLT, Int.reduceEq, Int.reduceNe, Int.reduceAdd, Int.reduceSub, Int.reduceToNat, Int.reduceNeg, ↓reduceIte, reduceCtorEq, cellsOf, cellA, lay, fillA]
    refine guard_both ?_ ?_ <;> intro h3 <;> simp only [hy] at h3
    · simp only [h3, iaddr_node, pnode, wk3, onStO, bareL, toCl, chunks, wk, emb, unAgg, ares, aresL, ares1, tupled, forall_const, Nat.reduceAdd, Nat.reduceSub, Nat.reduceMul, Nat.reduceLeDiff, Nat.reduceEqDiff, Nat.reduceBEq, Int.reduceLE, Int.reduceLT, Int.reduceEq, Int.reduceNe, Int.reduceAdd, Int.reduceSub, Int.reduceToNat, Int.reduceNeg, ↓reduceIte, reduceCtorEq, cellsOf, cellA, lay, fillA]
      exact KWk_bare (bare_next s _) ⟨⟨s, _, hw, rfl⟩, rfl⟩
    · simp only [h3, iaddr_node, pnode, wk3, onStO, bareL, toCl, chunks, wk, emb, unAgg, ares, aresL, ares1, tupled, forall_const, Nat.reduceAdd, Nat.reduceSub, Nat.reduceMul, Nat.reduceLeDiff, Nat.reduceEqDiff, Nat.reduceBEq, Int.reduceLE, Int.reduceLT, Int.reduceEq, Int.reduceNe, Int.reduceAdd, Int.reduceSub, Int.reduceToNat, Int.reduceNeg, ↓reduceIte, reduceCtorEq, cellsOf, cellA, lay, fillA]
      refine CT_ok (place_spec hp' s (by omega) (by omega) []) ?_
      rintro _ _ ⟨rfl, ⟨l, a, hl, up, hup, hR, hk2, rfl⟩ | ⟨e, he, rfl⟩⟩
      · simp only [iaddr_node, pnode, wk3, onStO, bareL, toCl, chunks, wk, emb, unAgg, ares, aresL, ares1, tupled, forall_const, Nat.reduceAdd, Nat.reduceSub, Nat.reduceMul, Nat.reduceLeDiff, Nat.reduceEqDiff, Nat.reduceBEq, Int.reduceLE, Int.reduceLT, Int.reduceEq, Int.reduceNe, Int.reduceAdd, Int.reduceSub, Int.reduceToNat, Int.reduceNeg, ↓reduceIte, reduceCtorEq, cellsOf, cellA, lay, fillA]
        have h1 : (0 : Int) ≤ k := by omega
        have h2 : (k : Int) < s.length := by omega
        refine CT_ok (kid_spec s (by omega) up a []) ?_
        rintro _ _ ⟨rfl, ⟨m, hm, hnm, rfl⟩ | ⟨rfl, hno⟩⟩
        · simp only [iaddr_node, pnode, wk3, onStO, bareL, toCl, chunks, wk, emb, unAgg, ares, aresL, ares1, tupled, forall_const, Nat.reduceAdd, Nat.reduceSub, Nat.reduceMul, Nat.reduceLeDiff, Nat.reduceEqDiff, Nat.reduceBEq, Int.reduceLE, Int.reduceLT, Int.reduceEq, Int.reduceNe, Int.reduceAdd, Int.reduceSub, Int.reduceToNat, Int.reduceNeg, ↓reduceIte, reduceCtorEq, cellsOf, cellA, lay, fillA]
          refine guard_both ?_ ?_ <;> intro h4 <;> simp only [hy] at h4
          · simp only [h4, iaddr_node, pnode, wk3, onStO, bareL, toCl, chunks, wk, emb, unAgg, ares, aresL, ares1, tupled, forall_const, Nat.reduceAdd, Nat.reduceSub, Nat.reduceMul, Nat.reduceLeDiff, Nat.reduceEqDiff, Nat.reduceBEq, Int.reduceLE, Int.reduceLT, Int.reduceEq, Int.reduceNe, Int.reduceAdd, Int.reduceSub, Int.reduceToNat, Int.reduceNeg, ↓reduceIte, reduceCtorEq, cellsOf, cellA, lay, fillA]
            exact KWk_bare (bare_next s _) ⟨⟨s, _, hw, rfl⟩, rfl⟩
          · simp only [h4, iaddr_node, pnode, wk3, onStO, bareL, toCl, chunks, wk, emb, unAgg, ares, aresL, ares1, tupled, forall_const, Nat.reduceAdd, Nat.reduceSub, Nat.reduceMul, Nat.reduceLeDiff, Nat.reduceEqDiff, Nat.reduceBEq, Int.reduceLE, Int.reduceLT, Int.reduceEq, Int.reduceNe, Int.reduceAdd, Int.reduceSub, Int.reduceToNat, Int.reduceNeg, ↓reduceIte, reduceCtorEq, cellsOf, cellA, lay, fillA]
            exact KWk_bare (bare_next s _) ⟨⟨s, _, hw, rfl⟩, rfl⟩
        · simp only [iaddr_node, pnode, wk3, onStO, bareL, toCl, chunks, wk, emb, unAgg, ares, aresL, ares1, tupled, forall_const, Nat.reduceAdd, Nat.reduceSub, Nat.reduceMul, Nat.reduceLeDiff, Nat.reduceEqDiff, Nat.reduceBEq, Int.reduceLE, Int.reduceLT, Int.reduceEq, Int.reduceNe, Int.reduceAdd, Int.reduceSub, Int.reduceToNat, Int.reduceNeg, ↓reduceIte, reduceCtorEq, cellsOf, cellA, lay, fillA]
          refine CT_ok (within_spec s hw up k hup (by omega) hk (downR_some hw hR0) []) ?_
          rintro _ _ ⟨b, rfl, hb, rfl⟩
          simp only [iaddr_node, pnode, wk3, onStO, bareL, toCl, chunks, wk, emb, unAgg, ares, aresL, ares1, tupled, forall_const, Nat.reduceAdd, Nat.reduceSub, Nat.reduceMul, Nat.reduceLeDiff, Nat.reduceEqDiff, Nat.reduceBEq, Int.reduceLE, Int.reduceLT, Int.reduceEq, Int.reduceNe, Int.reduceAdd, Int.reduceSub, Int.reduceToNat, Int.reduceNeg, ↓reduceIte, reduceCtorEq, cellsOf, cellA, lay, fillA]
          cases b
          · simp only [h1, h2, lay, iaddr_node, pnode, wk3, onStO, bareL, toCl, chunks, wk, emb, unAgg, ares, aresL, ares1, tupled, forall_const, Nat.reduceAdd, Nat.reduceSub, Nat.reduceMul, Nat.reduceLeDiff, Nat.reduceEqDiff, Nat.reduceBEq, Int.reduceLE, Int.reduceLT, Int.reduceEq, Int.reduceNe, Int.reduceAdd, Int.reduceSub, Int.reduceToNat, Int.reduceNeg, ↓reduceIte, reduceCtorEq, cellsOf, cellA, lay, fillA]
            refine CT_ok (with_spec s (by omega) k ⟨(s.getD k default).kind, up, a, (s.getD k default).body, (s.getD k default).bad⟩ _) ?_
            rintro _ _ ⟨rfl, rfl⟩
            simp only [iaddr_node, pnode, wk3, onStO, bareL, toCl, chunks, wk, emb, unAgg, ares, aresL, ares1, tupled, forall_const, Nat.reduceAdd, Nat.reduceSub, Nat.reduceMul, Nat.reduceLeDiff, Nat.reduceEqDiff, Nat.reduceBEq, Int.reduceLE, Int.reduceLT, Int.reduceEq, Int.reduceNe, Int.reduceAdd, Int.reduceSub, Int.reduceToNat, Int.reduceNeg, ↓reduceIte, reduceCtorEq, cellsOf, cellA, lay, fillA]
            have hin : ∀ m, itUp s m up ≠ k := fun m e => by
              have := hb.2 ⟨m, e⟩
              cases this
            exact KWk_bare (bare_next _ _) ⟨⟨_, _, move_wf hw (by omega) (by omega) (downR_some hw hR0) (by omega) hk2 hno (hP _ hl a (by simp)) hin, rfl⟩, rfl⟩
          · simp only [iaddr_node, pnode, wk3, onStO, bareL, toCl, chunks, wk, emb, unAgg, ares, aresL, ares1, tupled, forall_const, Nat.reduceAdd, Nat.reduceSub, Nat.reduceMul, Nat.reduceLeDiff, Nat.reduceEqDiff, Nat.reduceBEq, Int.reduceLE, Int.reduceLT, Int.reduceEq, Int.reduceNe, Int.reduceAdd, Int.reduceSub, Int.reduceToNat, Int.reduceNeg, ↓reduceIte, reduceCtorEq, cellsOf, cellA, lay, fillA]
            exact KWk_bare (bare_next s _) ⟨⟨s, _, hw, rfl⟩, rfl⟩
      · simp only [he, iaddr_node, pnode, wk3, onStO, bareL, toCl, chunks, wk, emb, unAgg, ares, aresL, ares1, tupled, forall_const, Nat.reduceAdd, Nat.reduceSub, Nat.reduceMul, Nat.reduceLeDiff, Nat.reduceEqDiff, Nat.reduceBEq, Int.reduceLE, Int.reduceLT, Int.reduceEq, Int.reduceNe, Int.reduceAdd, Int.reduceSub, Int.reduceToNat, Int.reduceNeg, ↓reduceIte, reduceCtorEq, cellsOf, cellA, lay, fillA]
        exact KWk_bare (bare_next s _) ⟨⟨s, _, hw, rfl⟩, rfl⟩
  · simp only [he, iaddr_node, pnode, wk3, onStO, bareL, toCl, chunks, wk, emb, unAgg, ares, aresL, ares1, tupled, forall_const, Nat.reduceAdd, Nat.reduceSub, Nat.reduceMul, Nat.reduceLeDiff, Nat.reduceEqDiff, Nat.reduceBEq, Int.reduceLE, Int.reduceLT, Int.reduceEq, Int.reduceNe, Int.reduceAdd, Int.reduceSub, Int.reduceToNat, Int.reduceNeg, ↓reduceIte, reduceCtorEq, cellsOf, cellA, lay, fillA]
    exact KWk_bare (bare_next s _) ⟨⟨s, _, hw, rfl⟩, rfl⟩
theorem move_spec {path path2 : List UInt8} {P P' : List (List UInt8) → Prop} {B B' : Prop} (hp : PartsC path P B) (hp' : PartsC path2 P' B') (hP : ∀ l, P' l → ∀ x ∈ l, mayN x = true) (s : List Node) (hw : Wf s) (H : AH) :
    C Try.prog 35 [aset s, .str path, .str path2] H (fun x H' => H' = H ∧ NextW s x) := next_pure (move_spec0 hp hp' hP s hw) (by simp [bareL, bare, aset]) H

theorem cut_spec0 {path : List UInt8} {P : List (List UInt8) → Prop} {B : Prop} (hp : PartsC path P B) (s : List Node) (hw : Wf s) (size : Int) :
    C Try.prog 36 [aset s, .str path, .int .i64 size] [] (fun x H' => NextW s x ∧ H' = []) := by
  have hlen := hw.len
  refine C_body' d36 rfl (WT_ok ?_)
  unfold c36
  simp only [aset, iaddr_node, pnode, wk3, onStO, bareL, toCl, chunks, wk, emb, unAgg, ares, aresL, ares1, tupled, forall_const, Nat.reduceAdd, Nat.reduceSub, Nat.reduceMul, Nat.reduceLeDiff, Nat.reduceEqDiff, Nat.reduceBEq, Int.reduceLE, Int.reduceLT, Int.reduceEq, Int.reduceNe, Int.reduceAdd, Int.reduceSub, Int.reduceToNat, Int.reduceNeg, ↓reduceIte, reduceCtorEq, cellsOf, cellA, lay, fillA]
  refine CT_ok (file_spec hp s (by omega) (by omega) []) ?_
  rintro _ _ ⟨rfl, ⟨l, hl, k, hk, hR, hk2, rfl⟩ | ⟨e, he, hF, rfl⟩⟩
  · simp only [iaddr_node, pnode, wk3, onStO, bareL, toCl, chunks, wk, emb, unAgg, ares, aresL, ares1, tupled, forall_const, Nat.reduceAdd, Nat.reduceSub, Nat.reduceMul, Nat.reduceLeDiff, Nat.reduceEqDiff, Nat.reduceBEq, Int.reduceLE, Int.reduceLT, Int.reduceEq, Int.reduceNe, Int.reduceAdd, Int.reduceSub, Int.reduceToNat, Int.reduceNeg, ↓reduceIte, reduceCtorEq, cellsOf, cellA, lay, fillA]
    have h1 : (0 : Int) ≤ k := by omega
    have h2 : (k : Int) < s.length := by omega
    refine guard_both ?_ ?_ <;> intro h3 <;> simp only [hy] at h3
    · simp only [h3, iaddr_node, pnode, wk3, onStO, bareL, toCl, chunks, wk, emb, unAgg, ares, aresL, ares1, tupled, forall_const, Nat.reduceAdd, Nat.reduceSub, Nat.reduceMul, Nat.reduceLeDiff, Nat.reduceEqDiff, Nat.reduceBEq, Int.reduceLE, Int.reduceLT, Int.reduceEq, Int.reduceNe, Int.reduceAdd, Int.reduceSub, Int.reduceToNat, Int.reduceNeg, ↓reduceIte, reduceCtorEq, cellsOf, cellA, lay, fillA]
      exact KWk_bare (bare_next s _) ⟨⟨s, _, hw, rfl⟩, rfl⟩
    · simp only [h3, iaddr_node, pnode, wk3, onStO, bareL, toCl, chunks, wk, emb, unAgg, ares, aresL, ares1, tupled, forall_const, Nat.reduceAdd, Nat.reduceSub, Nat.reduceMul, Nat.reduceLeDiff, Nat.reduceEqDiff, Nat.reduceBEq, Int.reduceLE, Int.reduceLT, Int.reduceEq, Int.reduceNe, Int.reduceAdd, Int.reduceSub, Int.reduceToNat, Int.reduceNeg, ↓reduceIte, reduceCtorEq, cellsOf, cellA, lay, fillA]
      refine guard_both ?_ ?_ <;> intro h4 <;> simp only [hy] at h4
      · simp only [h4, iaddr_node, pnode, wk3, onStO, bareL, toCl, chunks, wk, emb, unAgg, ares, aresL, ares1, tupled, forall_const, Nat.reduceAdd, Nat.reduceSub, Nat.reduceMul, Nat.reduceLeDiff, Nat.reduceEqDiff, Nat.reduceBEq, Int.reduceLE, Int.reduceLT, Int.reduceEq, Int.reduceNe, Int.reduceAdd, Int.reduceSub, Int.reduceToNat, Int.reduceNeg, ↓reduceIte, reduceCtorEq, cellsOf, cellA, lay, fillA]
        exact KWk_bare (bare_next s _) ⟨⟨s, _, hw, rfl⟩, rfl⟩
      · simp only [h1, h2, h4, lay, iaddr_node, pnode, wk3, onStO, bareL, toCl, chunks, wk, emb, unAgg, ares, aresL, ares1, tupled, forall_const, Nat.reduceAdd, Nat.reduceSub, Nat.reduceMul, Nat.reduceLeDiff, Nat.reduceEqDiff, Nat.reduceBEq, Int.reduceLE, Int.reduceLT, Int.reduceEq, Int.reduceNe, Int.reduceAdd, Int.reduceSub, Int.reduceToNat, Int.reduceNeg, ↓reduceIte, reduceCtorEq, cellsOf, cellA, lay, fillA]
        obtain ⟨m, rfl⟩ : ∃ m : Nat, size = m := ⟨size.toNat, by omega⟩
        refine CT_ok (long_spec (s.getD k default).body m (by omega) _) ?_
        rintro _ _ ⟨rfl, rfl⟩
        simp only [lay, iaddr_node, pnode, wk3, onStO, bareL, toCl, chunks, wk, emb, unAgg, ares, aresL, ares1, tupled, forall_const, Nat.reduceAdd, Nat.reduceSub, Nat.reduceMul, Nat.reduceLeDiff, Nat.reduceEqDiff, Nat.reduceBEq, Int.reduceLE, Int.reduceLT, Int.reduceEq, Int.reduceNe, Int.reduceAdd, Int.reduceSub, Int.reduceToNat, Int.reduceNeg, ↓reduceIte, reduceCtorEq, cellsOf, cellA, lay, fillA]
        refine CT_ok (with_spec s (by omega) k ⟨(s.getD k default).kind, (s.getD k default).up, (s.getD k default).name, longA (s.getD k default).body m, (s.getD k default).bad⟩ _) ?_
        rintro _ _ ⟨rfl, rfl⟩
        simp only [iaddr_node, pnode, wk3, onStO, bareL, toCl, chunks, wk, emb, unAgg, ares, aresL, ares1, tupled, forall_const, Nat.reduceAdd, Nat.reduceSub, Nat.reduceMul, Nat.reduceLeDiff, Nat.reduceEqDiff, Nat.reduceBEq, Int.reduceLE, Int.reduceLT, Int.reduceEq, Int.reduceNe, Int.reduceAdd, Int.reduceSub, Int.reduceToNat, Int.reduceNeg, ↓reduceIte, reduceCtorEq, cellsOf, cellA, lay, fillA]
        exact KWk_bare (bare_next _ _) ⟨⟨_, _, body_wf hw (by omega) hk2 (downR_some hw hR) (y := longA (s.getD k default).body m) (by rw [longA_len]; omega), rfl⟩, rfl⟩
  · simp only [he, iaddr_node, pnode, wk3, onStO, bareL, toCl, chunks, wk, emb, unAgg, ares, aresL, ares1, tupled, forall_const, Nat.reduceAdd, Nat.reduceSub, Nat.reduceMul, Nat.reduceLeDiff, Nat.reduceEqDiff, Nat.reduceBEq, Int.reduceLE, Int.reduceLT, Int.reduceEq, Int.reduceNe, Int.reduceAdd, Int.reduceSub, Int.reduceToNat, Int.reduceNeg, ↓reduceIte, reduceCtorEq, cellsOf, cellA, lay, fillA]
    exact KWk_bare (bare_next s _) ⟨⟨s, _, hw, rfl⟩, rfl⟩
theorem cut_spec {path : List UInt8} {P : List (List UInt8) → Prop} {B : Prop} (hp : PartsC path P B) (s : List Node) (hw : Wf s) (size : Int) (H : AH) :
    C Try.prog 36 [aset s, .str path, .int .i64 size] H (fun x H' => H' = H ∧ NextW s x) := next_pure (cut_spec0 hp s hw size) (by simp [bareL, bare, aset]) H
end Go.Proofs.Ytemjlopoffjmpaa.Abs
set_option linter.unusedSimpArgs false
set_option linter.unusedVariables false
namespace Go.Proofs.Ytemjlopoffjmpaa.Abs
open Go Go.Proofs

/-- What Write hands back. -/
def WriteR (P : List (List UInt8) → Prop) (B : Prop) (s : List Node) (off : Int) (text : List UInt8) (x : AV) : Prop :=
  (((B ∨ (∃ l, P l ∧ downF s l) ∨ ∃ l, P l ∧ ∃ k : Nat, k < s.length ∧ downR s l 0 k ∧ (s.getD k default).kind = 2) ∨ off < 0 ∨ 128 < off + text.length) ∧ ∃ e : Int, x = .tuple [aset s, .int .i64 e]) ∨ (text = [] ∧ x = .tuple [aset s, .int .i64 0]) ∨
    ∃ l, P l ∧ ∃ k : Nat, k < s.length ∧ downR s l 0 k ∧ (s.getD k default).kind ≠ 2 ∧ ∃ y, (y.length ≤ 128 ∧ (off = 0 → (s.getD k default).body = [] → y = text)) ∧ x = .tuple [aset (withA s k ⟨(s.getD k default).kind, (s.getD k default).up, (s.getD k default).name, y, (s.getD k default).bad⟩), .int .i64 0]

theorem slicel_own (H : AH) (fr : List AV) (r n : Nat) (x lo : Opd) (k : IntKind) (o : Nat) (ho : o < n) (h0 : evalA fr x = .own r 1 0 n n) (h1 : evalA fr lo = .int k (o : Int)) (hr : (liveO H r n).isSome = true) :
    aop0 (.slicel 1 x (some lo) none) (evalA fr) H = some (.own r 1 o (n - o) n) := by
  obtain ⟨ob, hob⟩ := Option.isSome_iff_exists.1 hr
  have hb : bnd (evalA fr) (some lo) 0 n = some o := by
    simp only [bnd, h1, Int.toNat_natCast]
    rw [if_pos (by omega)]
  have hb2 : bnd (evalA fr) none n (n - 0) = some n := rfl
  simp only [aop0, h0, hob]
  rw [if_pos ⟨Nat.zero_le _, trivial⟩]
  simp only [hb2, hb]
  by_cases h : o = 0
  · subst h; simp
  · rw [if_neg h, if_neg (by omega), Nat.zero_add]
theorem RT_slicel_own {P : Program} (d : Option Nat) (rest : List AInstr) (K : List AV → AH → Prop) (fr : List AV) (H : AH) (r n : Nat) (x lo : Opd) (k : IntKind) (o : Nat) (ho : o < n) (h0 : evalA fr x = .own r 1 0 n n) (h1 : evalA fr lo = .int k (o : Int)) (hr : (liveO H r n).isSome = true) (t u)
    (h : RT P rest K (setA fr d (.own r 1 o (n - o) n)) H .mk .mk) : RT P (⟨d, none, .slicel 1 x (some lo) none⟩ :: rest) K fr H t u := by
  have e := slicel_own H fr r n x lo k o ho h0 h1 hr
  show RA P _ K fr H
  unfold RA
  show onSome (aop (.slicel 1 x (some lo) none) (evalA fr) H) _
  unfold aop
  rw [e]
  exact h

/-- A text laid over another one. -/
def overA (b : List UInt8) (o : Nat) (t : List UInt8) : List UInt8 := b.take o ++ t ++ b.drop (o + t.length)
theorem overA_len (b : List UInt8) (o : Nat) (t : List UInt8) (h : o + t.length ≤ b.length) : (overA b o t).length = b.length := by
  unfold overA; simp only [List.length_append, List.length_take, List.length_drop]; omega
theorem over_cells (b : List UInt8) (o : Nat) (t : List UInt8) : List.take o (b.map fun b => [AV.int .u8 b.toNat]) ++ List.take t.length (t.map fun b => [AV.int .u8 b.toNat]) ++ List.drop (o + t.length) (b.map fun b => [AV.int .u8 b.toNat]) = (overA b o t).map fun b => [AV.int .u8 b.toNat] := by
  unfold overA
  rw [List.take_of_length_le (l := t.map _) (by simp)]
  simp only [List.map_append, List.map_take, List.map_drop]

theorem write_spec0 {path : List UInt8} {P : List (List UInt8) → Prop} {B : Prop} (hp : PartsC path P B) (s : List Node) (hw : Wf s) (off : Int) (text : List UInt8) (htl : text.length < 2 ^ 40) :
    C Try.prog 18 [aset s, .str path, .int .i64 off, .str text] [] (fun x H' => WriteR P B s off text x ∧ H' = []) := by
  have hlen := hw.len
  refine C_body' d18 rfl (WT_ok ?_)
  unfold c18
  simp only [aset, iaddr_node, pnode, wk3, onStO, bareL, toCl, chunks, wk, emb, unAgg, ares, aresL, ares1, tupled, forall_const, Nat.reduceAdd, Nat.reduceSub, Nat.reduceMul, Nat.reduceLeDiff, Nat.reduceEqDiff, Nat.reduceBEq, Int.reduceLE, Int.reduceLT, Int.reduceEq, Int.reduceNe, Int.reduceAdd, Int.reduceSub, Int.reduceToNat, Int.reduceNeg, ↓reduceIte, reduceCtorEq, cellsOf, cellA, lay, fillA]
  refine CT_ok (file_spec hp s (by omega) (by omega) []) ?_
  rintro _ _ ⟨rfl, ⟨l, hl, k, hk, hR, hk2, rfl⟩ | ⟨e, he, hF, rfl⟩⟩
  · simp only [iaddr_node, pnode, wk3, onStO, bareL, toCl, chunks, wk, emb, unAgg, ares, aresL, ares1, tupled, forall_const, Nat.reduceAdd, Nat.reduceSub, Nat.reduceMul, Nat.reduceLeDiff, Nat.reduceEqDiff, Nat.reduceBEq, Int.reduceLE, Int.reduceLT, Int.reduceEq, Int.reduceNe, Int.reduceAdd, Int.reduceSub, Int.reduceToNat, Int.reduceNeg, ↓reduceIte, reduceCtorEq, cellsOf, cellA, lay, fillA]
    have h1 : (0 : Int) ≤ k := by omega
    have h2 : (k : Int) < s.length := by omega
    refine guard_both ?_ ?_ <;> intro h3 <;> simp only [hy] at h3
    · simp only [h3, iaddr_node, pnode, wk3, onStO, bareL, toCl, chunks, wk, emb, unAgg, ares, aresL, ares1, tupled, forall_const, Nat.reduceAdd, Nat.reduceSub, Nat.reduceMul, Nat.reduceLeDiff, Nat.reduceEqDiff, Nat.reduceBEq, Int.reduceLE, Int.reduceLT, Int.reduceEq, Int.reduceNe, Int.reduceAdd, Int.reduceSub, Int.reduceToNat, Int.reduceNeg, ↓reduceIte, reduceCtorEq, cellsOf, cellA, lay, fillA]
      exact KWk_bare (bare_next s _) ⟨.inl ⟨.inr (.inl h3), _, rfl⟩, rfl⟩
    · simp only [h3, iaddr_node, pnode, wk3, onStO, bareL, toCl, chunks, wk, emb, unAgg, ares, aresL, ares1, tupled, forall_const, Nat.reduceAdd, Nat.reduceSub, Nat.reduceMul, Nat.reduceLeDiff, Nat.reduceEqDiff, Nat.reduceBEq, Int.reduceLE, Int.reduceLT, Int.reduceEq, Int.reduceNe, Int.reduceAdd, Int.reduceSub, Int.reduceToNat, Int.reduceNeg, ↓reduceIte, reduceCtorEq, cellsOf, cellA, lay, fillA]
      by_cases h4 : (128 : Int) < off
      · simp only [h4, iaddr_node, pnode, wk3, onStO, bareL, toCl, chunks, wk, emb, unAgg, ares, aresL, ares1, tupled, forall_const, Nat.reduceAdd, Nat.reduceSub, Nat.reduceMul, Nat.reduceLeDiff, Nat.reduceEqDiff, Nat.reduceBEq, Int.reduceLE, Int.reduceLT, Int.reduceEq, Int.reduceNe, Int.reduceAdd, Int.reduceSub, Int.reduceToNat, Int.reduceNeg, ↓reduceIte, reduceCtorEq, cellsOf, cellA, lay, fillA]
        exact KWk_bare (bare_next s _) ⟨.inl ⟨.inr (.inr (by omega)), _, rfl⟩, rfl⟩
      · have w1 : IntKind.i64.wrap ((128 : Int) - off) = 128 - off := IntWalk.i64_in _ (by omega)
        simp only [h4, w1, iaddr_node, pnode, wk3, onStO, bareL, toCl, chunks, wk, emb, unAgg, ares, aresL, ares1, tupled, forall_const, Nat.reduceAdd, Nat.reduceSub, Nat.reduceMul, Nat.reduceLeDiff, Nat.reduceEqDiff, Nat.reduceBEq, Int.reduceLE, Int.reduceLT, Int.reduceEq, Int.reduceNe, Int.reduceAdd, Int.reduceSub, Int.reduceToNat, Int.reduceNeg, ↓reduceIte, reduceCtorEq, cellsOf, cellA, lay, fillA]
        refine guard_both ?_ ?_ <;> intro h5 <;> simp only [hy] at h5
        · simp only [h5, iaddr_node, pnode, wk3, onStO, bareL, toCl, chunks, wk, emb, unAgg, ares, aresL, ares1, tupled, forall_const, Nat.reduceAdd, Nat.reduceSub, Nat.reduceMul, Nat.reduceLeDiff, Nat.reduceEqDiff, Nat.reduceBEq, Int.reduceLE, Int.reduceLT, Int.reduceEq, Int.reduceNe, Int.reduceAdd, Int.reduceSub, Int.reduceToNat, Int.reduceNeg, ↓reduceIte, reduceCtorEq, cellsOf, cellA, lay, fillA]
          exact KWk_bare (bare_next s _) ⟨.inl ⟨.inr (.inr (by omega)), _, rfl⟩, rfl⟩
        · simp only [h5, iaddr_node, pnode, wk3, onStO, bareL, toCl, chunks, wk, emb, unAgg, ares, aresL, ares1, tupled, forall_const, Nat.reduceAdd, Nat.reduceSub, Nat.reduceMul, Nat.reduceLeDiff, Nat.reduceEqDiff, Nat.reduceBEq, Int.reduceLE, Int.reduceLT, Int.reduceEq, Int.reduceNe, Int.reduceAdd, Int.reduceSub, Int.reduceToNat, Int.reduceNeg, ↓reduceIte, reduceCtorEq, cellsOf, cellA, lay, fillA]
          refine guard_both ?_ ?_ <;> intro h6 <;> simp only [hy] at h6
          · simp only [h6, iaddr_node, pnode, wk3, onStO, bareL, toCl, chunks, wk, emb, unAgg, ares, aresL, ares1, tupled, forall_const, Nat.reduceAdd, Nat.reduceSub, Nat.reduceMul, Nat.reduceLeDiff, Nat.reduceEqDiff, Nat.reduceBEq, Int.reduceLE, Int.reduceLT, Int.reduceEq, Int.reduceNe, Int.reduceAdd, Int.reduceSub, Int.reduceToNat, Int.reduceNeg, ↓reduceIte, reduceCtorEq, cellsOf, cellA, lay, fillA]
            subst h6; exact KWk_bare (bare_next s _) ⟨.inr (.inl ⟨rfl, rfl⟩), rfl⟩
          · obtain ⟨o, rfl⟩ : ∃ m : Nat, off = m := ⟨off.toNat, by omega⟩
            have w2 : IntKind.i64.wrap ((o : Int) + text.length) = ((o + text.length : Nat) : Int) := by rw [IntWalk.i64_in _ (by omega)]; omega
            have hb := hw.bodyD k hk
            simp only [h1, h2, h6, w2, lay, iaddr_node, pnode, wk3, onStO, bareL, toCl, chunks, wk, emb, unAgg, ares, aresL, ares1, tupled, forall_const, Nat.reduceAdd, Nat.reduceSub, Nat.reduceMul, Nat.reduceLeDiff, Nat.reduceEqDiff, Nat.reduceBEq, Int.reduceLE, Int.reduceLT, Int.reduceEq, Int.reduceNe, Int.reduceAdd, Int.reduceSub, Int.reduceToNat, Int.reduceNeg, ↓reduceIte, reduceCtorEq, cellsOf, cellA, lay, fillA]
            rw [show (if ((o + text.length : Nat) : Int) > ((s.getD k default).body.length : Nat) then ((o + text.length : Nat) : Int) else ((s.getD k default).body.length : Nat)) = ((max (s.getD k default).body.length (o + text.length) : Nat) : Int) by split <;> omega]
            generalize hm : max (s.getD k default).body.length (o + text.length) = m
            have hm1 : o + text.length ≤ m := by omega
            have hm2 : m ≤ 128 := by omega
            have htp : 0 < text.length := List.length_pos_iff.2 h6
            refine CT_ok (long_spec (s.getD k default).body m (by omega) _) ?_
            rintro _ _ ⟨rfl, rfl⟩
            simp only [h6, lay, longA_len, iaddr_node, pnode, wk3, onStO, bareL, toCl, chunks, wk, emb, unAgg, ares, aresL, ares1, tupled, forall_const, Nat.reduceAdd, Nat.reduceSub, Nat.reduceMul, Nat.reduceLeDiff, Nat.reduceEqDiff, Nat.reduceBEq, Int.reduceLE, Int.reduceLT, Int.reduceEq, Int.reduceNe, Int.reduceAdd, Int.reduceSub, Int.reduceToNat, Int.reduceNeg, ↓reduceIte, reduceCtorEq, cellsOf, cellA, lay, fillA]
            refine RT_slicel_own _ _ _ _ _ 1 m _ _ _ o (by omega) rfl rfl ?_ _ _ ?_
            · simp [liveO, AH.at, longA_len]
            simp only [lay, longA_len, iaddr_node, pnode, wk3, onStO, bareL, toCl, chunks, wk, emb, unAgg, ares, aresL, ares1, tupled, forall_const, Nat.reduceAdd, Nat.reduceSub, Nat.reduceMul, Nat.reduceLeDiff, Nat.reduceEqDiff, Nat.reduceBEq, Int.reduceLE, Int.reduceLT, Int.reduceEq, Int.reduceNe, Int.reduceAdd, Int.reduceSub, Int.reduceToNat, Int.reduceNeg, ↓reduceIte, reduceCtorEq, cellsOf, cellA, lay, fillA]
            refine ⟨⟨by omega, by simp⟩, ?_⟩
            rw [← List.length_append, ← List.length_append, show min text.length (m - o) = text.length by omega, over_cells, List.length_map, overA_len _ _ _ (by rw [longA_len]; omega), longA_len]
            simp only [iaddr_node, pnode, wk3, onStO, bareL, toCl, chunks, wk, emb, unAgg, ares, aresL, ares1, tupled, forall_const, Nat.reduceAdd, Nat.reduceSub, Nat.reduceMul, Nat.reduceLeDiff, Nat.reduceEqDiff, Nat.reduceBEq, Int.reduceLE, Int.reduceLT, Int.reduceEq, Int.reduceNe, Int.reduceAdd, Int.reduceSub, Int.reduceToNat, Int.reduceNeg, ↓reduceIte, reduceCtorEq, cellsOf, cellA, lay, fillA]
            rw [List.take_of_length_le (by rw [List.length_map, overA_len _ _ _ (by rw [longA_len]; omega), longA_len]; omega), Option.bind_some, bytesOf_map]
            simp only [lay, iaddr_node, pnode, wk3, onStO, bareL, toCl, chunks, wk, emb, unAgg, ares, aresL, ares1, tupled, forall_const, Nat.reduceAdd, Nat.reduceSub, Nat.reduceMul, Nat.reduceLeDiff, Nat.reduceEqDiff, Nat.reduceBEq, Int.reduceLE, Int.reduceLT, Int.reduceEq, Int.reduceNe, Int.reduceAdd, Int.reduceSub, Int.reduceToNat, Int.reduceNeg, ↓reduceIte, reduceCtorEq, cellsOf, cellA, lay, fillA]
            refine CT_ok (with_spec s (by omega) k ⟨(s.getD k default).kind, (s.getD k default).up, (s.getD k default).name, overA (longA (s.getD k default).body m) o text, (s.getD k default).bad⟩ _) ?_
            rintro _ _ ⟨rfl, rfl⟩
            simp only [iaddr_node, pnode, wk3, onStO, bareL, toCl, chunks, wk, emb, unAgg, ares, aresL, ares1, tupled, forall_const, Nat.reduceAdd, Nat.reduceSub, Nat.reduceMul, Nat.reduceLeDiff, Nat.reduceEqDiff, Nat.reduceBEq, Int.reduceLE, Int.reduceLT, Int.reduceEq, Int.reduceNe, Int.reduceAdd, Int.reduceSub, Int.reduceToNat, Int.reduceNeg, ↓reduceIte, reduceCtorEq, cellsOf, cellA, lay, fillA]
            refine KWk_bare (bare_next _ _) ⟨.inr (.inr ⟨l, hl, k, hk, hR, hk2, overA (longA (s.getD k default).body m) o text, ⟨?_, fun h hb0 => ?_⟩, rfl⟩), rfl⟩
            · rw [overA_len _ _ _ (by rw [longA_len]; omega), longA_len]; omega
            · have : o = 0 := by omega
              subst this
              rw [hb0, List.length_nil] at hm
              have : m = text.length := by omega
              subst this
              rw [hb0]
              unfold overA
              rw [Nat.zero_add, List.drop_of_length_le (by rw [longA_len]; exact Nat.le_refl _)]
              simp
  · simp only [he, iaddr_node, pnode, wk3, onStO, bareL, toCl, chunks, wk, emb, unAgg, ares, aresL, ares1, tupled, forall_const, Nat.reduceAdd, Nat.reduceSub, Nat.reduceMul, Nat.reduceLeDiff, Nat.reduceEqDiff, Nat.reduceBEq, Int.reduceLE, Int.reduceLT, Int.reduceEq, Int.reduceNe, Int.reduceAdd, Int.reduceSub, Int.reduceToNat, Int.reduceNeg, ↓reduceIte, reduceCtorEq, cellsOf, cellA, lay, fillA]
    exact KWk_bare (bare_next s _) ⟨.inl ⟨.inl hF, _, rfl⟩, rfl⟩
theorem WriteR_bare {P : List (List UInt8) → Prop} {B : Prop} {s : List Node} {off : Int} {text : List UInt8} {x : AV} (h : WriteR P B s off text x) : ∃ t e, x = .tuple [aset t, .int .i64 e] := by
  rcases h with ⟨_, e, rfl⟩ | ⟨_, rfl⟩ | ⟨_, _, _, _, _, _, _, _, rfl⟩
  · exact ⟨_, _, rfl⟩
  · exact ⟨_, _, rfl⟩
  · exact ⟨_, _, rfl⟩
theorem write_spec {path : List UInt8} {P : List (List UInt8) → Prop} {B : Prop} (hp : PartsC path P B) (s : List Node) (hw : Wf s) (off : Int) (text : List UInt8) (htl : text.length < 2 ^ 40) (H : AH) :
    C Try.prog 18 [aset s, .str path, .int .i64 off, .str text] H (fun x H' => H' = H ∧ WriteR P B s off text x) :=
  (C_pure (K0 := WriteR P B s off text) (write_spec0 hp s hw off text htl) (fun τ => renL_bare τ _ (by simp [bareL, bare, aset])) (by rintro x hx τ; obtain ⟨t, e, rfl⟩ := WriteR_bare hx; exact ren_bare τ _ (bare_next t e)) H).mono fun x H' h => ⟨h.2, h.1⟩
theorem WriteR_next {P : List (List UInt8) → Prop} {B : Prop} {s : List Node} (hw : Wf s) {off : Int} {text : List UInt8} {x : AV} (h : WriteR P B s off text x) : NextW s x := by
  rcases h with ⟨_, e, rfl⟩ | ⟨_, rfl⟩ | ⟨l, _, k, hk, hR, hk2, y, hy, rfl⟩
  · exact ⟨_, _, hw, rfl⟩
  · exact ⟨_, _, hw, rfl⟩
  · exact ⟨_, _, body_wf hw (by have := hw.len; omega) hk2 (downR_some hw hR) hy.1, rfl⟩
end Go.Proofs.Ytemjlopoffjmpaa.Abs
set_option linter.unusedSimpArgs false
set_option linter.unusedVariables false
namespace Go.Proofs.Ytemjlopoffjmpaa.Abs
open Go Go.Proofs

def cellN (x : List UInt8) : List AV := [.str x]
theorem Wk_strs {fr fr' : List AV} {l : List (List UInt8)} {G : AH} (h : Tops fr' (renL (upTo 1) fr)) : Wk 0 fr (some (l.map cellN) :: G) fr' [some (l.map cellN)] := by
  have h1 := (Wk_forget (n0 := 0) (fr := fr) (H := some (l.map cellN) :: G) 1 (Nat.zero_le _)).trans (Wk_tops h)
  have e : mapH (renL (upTo 1)) ((some (l.map cellN) :: G).take 1) = [some (l.map cellN)] := by
    simp only [List.take_succ_cons, List.take_zero, mapH, List.map_cons, List.map_nil, Option.map_some, List.map_map]
    congr 2
  rwa [e] at h1
theorem KWk_none {K : AV → AH → Prop} {b : Bool} {H : AH} (hk : K (.tuple [.fz [], .bool b]) []) : KWk 0 K (.tuple [.emp, .bool b]) H := by
  have h1 := Wk_forget (n0 := 0) (fr := [.tuple [.emp, .bool b]]) (H := H) 0 (Nat.le_refl _)
  have e : renL (upTo 0) [.tuple [.emp, .bool b]] = [.tuple [.emp, .bool b]] := by simp [renL, ren]
  have e2 : mapH (renL (upTo 0)) (H.take 0) = [] := by simp [mapH]
  rw [e, e2] at h1
  refine ⟨_, [], h1.trans ?_, hk⟩
  intro E w vs hs hr
  refine ⟨E, LeN.refl _ _, hs, hr.1, fun i c u hc hu => ?_⟩
  match i, hc, hu with
  | 0, hc, hu =>
    simp at hc; subst hc
    obtain ⟨ws, rfl, hl, hw⟩ := rep_tuple (hr.2 0 _ u rfl hu)
    refine .tuple _ _ hl fun i c u hc hu => ?_
    match i, hc, hu with
    | 0, hc, hu =>
      simp at hc; subst hc
      obtain ⟨a, rfl⟩ := rep_emp (hw 0 _ u rfl hu)
      exact .pure (x := .fz []) (.fz0 _ _)
    | 1, hc, hu => simp at hc; subst hc; exact hw 1 _ u rfl hu
    | i + 2, hc, _ => simp at hc
  | i + 1, hc, _ => simp at hc

/-- A way's names. -/
def partsGo : List UInt8 → List UInt8 → List (List UInt8) → Option (List (List UInt8))
  | [], cur, out => if mayN cur = true ∧ out.length < 7 then some (out ++ [cur]) else none
  | c :: r, cur, out => if c = 47 then (if mayN cur = true ∧ out.length < 7 then partsGo r [] (out ++ [cur]) else none) else partsGo r (cur ++ [c]) out
/-- Parts. -/
def partsA (path : List UInt8) : Option (List (List UInt8)) := if path = [] then some [] else partsGo path [] []
def partsV : Option (List (List UInt8)) → AV
  | some l => .tuple [.fz (l.map pname), .bool true]
  | none => .tuple [.fz [], .bool false]
theorem partsGo_ok : ∀ (r cur : List UInt8) (out l : List (List UInt8)), partsGo r cur out = some l → (∀ x ∈ out, mayN x = true) → out.length ≤ 7 → (∀ x ∈ l, mayN x = true) ∧ l.length ≤ 7
  | [], cur, out, l, h, ho, hl => by
    unfold partsGo at h
    split at h
    · rename_i hc
      cases h
      refine ⟨fun x hx => ?_, by simp; omega⟩
      rcases List.mem_append.1 hx with hx | hx
      · exact ho x hx
      · rw [List.mem_singleton] at hx; subst hx; exact hc.1
    · cases h
  | c :: r, cur, out, l, h, ho, hl => by
    unfold partsGo at h
    split at h
    · split at h
      · rename_i hc
        refine partsGo_ok r [] _ l h (fun x hx => ?_) (by simp; omega)
        rcases List.mem_append.1 hx with hx | hx
        · exact ho x hx
        · rw [List.mem_singleton] at hx; subst hx; exact hc.1
      · cases h
    · exact partsGo_ok r _ out l h ho hl
theorem partsA_ok {path : List UInt8} {l : List (List UInt8)} (h : partsA path = some l) : (∀ x ∈ l, mayN x = true) ∧ l.length ≤ 7 := by
  unfold partsA at h
  split at h
  · cases h; exact ⟨fun x hx => (by cases hx), by simp⟩
  · exact partsGo_ok _ _ _ _ h (fun x hx => by cases hx) (by simp)

theorem parts_spec0 (path : List UInt8) (hp : path.length ≤ 1000000) :
    C Try.prog 74 [.str path] [] (fun x H' => x = partsV (partsA path) ∧ H' = []) := by
  refine C_body' d74 rfl (WT_ok ?_)
  unfold c74
  simp only [iaddr_node, pnode, wk3, onStO, bareL, toCl, chunks, wk, emb, unAgg, ares, aresL, ares1, tupled, forall_const, Nat.reduceAdd, Nat.reduceSub, Nat.reduceMul, Nat.reduceLeDiff, Nat.reduceEqDiff, Nat.reduceBEq, Int.reduceLE, Int.reduceLT, Int.reduceEq, Int.reduceNe, Int.reduceAdd, Int.reduceSub, Int.reduceToNat, Int.reduceNeg, ↓reduceIte, reduceCtorEq, cellsOf, cellA, lay, fillA]
  refine guard_both ?_ ?_ <;> intro h0 <;> simp only [hy] at h0
  · simp only [h0, iaddr_node, pnode, wk3, onStO, bareL, toCl, chunks, wk, emb, unAgg, ares, aresL, ares1, tupled, forall_const, Nat.reduceAdd, Nat.reduceSub, Nat.reduceMul, Nat.reduceLeDiff, Nat.reduceEqDiff, Nat.reduceBEq, Int.reduceLE, Int.reduceLT, Int.reduceEq, Int.reduceNe, Int.reduceAdd, Int.reduceSub, Int.reduceToNat, Int.reduceNeg, ↓reduceIte, reduceCtorEq, cellsOf, cellA, lay, fillA]
    refine KWk_none ⟨?_, rfl⟩
    simp [partsA, partsV]
  · have hA : partsA path = partsGo path [] [] := by unfold partsA; rw [if_neg h0]
    simp only [h0, iaddr_node, pnode, wk3, onStO, bareL, toCl, chunks, wk, emb, unAgg, ares, aresL, ares1, tupled, forall_const, Nat.reduceAdd, Nat.reduceSub, Nat.reduceMul, Nat.reduceLeDiff, Nat.reduceEqDiff, Nat.reduceBEq, Int.reduceLE, Int.reduceLT, Int.reduceEq, Int.reduceNe, Int.reduceAdd, Int.reduceSub, Int.reduceToNat, Int.reduceNeg, ↓reduceIte, reduceCtorEq, cellsOf, cellA, lay, fillA]
    refine WT_loop (W_wk (Wk_empAt 4 1 rfl) (W_wk (fr' := [.str path, .top, .emp, .bool false, .own 0 1 0 0 0, .int .i64 0, .int .i64 0] ++ List.replicate 39 .top) (Wk_tops ?_) (W_loop (fun nn fr H' => ∃ (i from' : Nat) (l : List (List UInt8)), from' ≤ i ∧ i ≤ path.length + 1 ∧ nn = path.length + 1 - i ∧ l.length ≤ 7 ∧
      (i ≤ path.length → partsA path = partsGo (path.drop i) (List.drop from' (List.take i path)) l) ∧ (i = path.length + 1 → partsA path = some l) ∧ H' = [some (l.map cellN)] ∧
      fr = [.str path, .top, .emp, .bool false, .own 0 1 0 l.length l.length, .int .i64 from', .int .i64 i] ++ List.replicate 39 .top) (path.length + 1) ⟨0, 0, [], by omega, by omega, rfl, by simp, fun _ => hA, fun h => by omega, rfl, rfl⟩ ?_)))
    · simp only [List.replicate_succ, List.replicate_zero, List.set_cons_succ, List.set_cons_zero, List.cons_append, List.nil_append, List.length_nil, Tops_top, Tops_same, Tops_nil]
    rintro nn fr H' ⟨i, from', l, hfi, hi, rfl, hl, hgo, hend, rfl, rfl⟩
    refine WT_ok ?_
    simp only [iaddr_node, pnode, wk3, onStO, bareL, toCl, chunks, wk, emb, unAgg, ares, aresL, ares1, tupled, forall_const, Nat.reduceAdd, Nat.reduceSub, Nat.reduceMul, Nat.reduceLeDiff, Nat.reduceEqDiff, Nat.reduceBEq, Int.reduceLE, Int.reduceLT, Int.reduceEq, Int.reduceNe, Int.reduceAdd, Int.reduceSub, Int.reduceToNat, Int.reduceNeg, ↓reduceIte, reduceCtorEq, cellsOf, cellA, lay, fillA]
    refine guard_both ?_ ?_ <;> intro h <;> simp only [hy] at h
    · have g0 : (0 : Int) ≤ i := by omega
      have gf : (0 : Int) ≤ from' := by omega
      have gfi : (from' : Int) ≤ i := by omega
      have w2 : IntKind.i64.wrap ((i : Int) + 1) = ((i + 1 : Nat) : Int) := by rw [IntWalk.i64_in _ (by omega)]; omega
      have hgo' := hgo (by omega)
      generalize hcur : List.drop from' (List.take i path) = cur at hgo'
      by_cases h1 : (i : Int) < path.length
      · have hil : i < path.length := by omega
        have hd : path.drop i = path[i] :: path.drop (i + 1) := List.drop_eq_getElem_cons hil
        have hgi : path.getD i 0 = path[i] := by rw [List.getD_eq_getElem?_getD, List.getElem?_eq_getElem hil]; rfl
        rw [hd] at hgo'
        unfold partsGo at hgo'
        simp only [h, h1, g0, gf, gfi, hgi, iaddr_node, pnode, wk3, onStO, bareL, toCl, chunks, wk, emb, unAgg, ares, aresL, ares1, tupled, forall_const, Nat.reduceAdd, Nat.reduceSub, Nat.reduceMul, Nat.reduceLeDiff, Nat.reduceEqDiff, Nat.reduceBEq, Int.reduceLE, Int.reduceLT, Int.reduceEq, Int.reduceNe, Int.reduceAdd, Int.reduceSub, Int.reduceToNat, Int.reduceNeg, ↓reduceIte, reduceCtorEq, cellsOf, cellA, lay, fillA]
        refine guard_both ?_ ?_ <;> intro h2 <;> simp only [hy] at h2
        · have h47 : ¬ path[i] = 47 := by
            intro e; rw [e] at h2; exact h2 rfl
          rw [if_neg h47] at hgo'
          simp only [h, h1, h2, w2, iaddr_node, pnode, wk3, onStO, bareL, toCl, chunks, wk, emb, unAgg, ares, aresL, ares1, tupled, forall_const, Nat.reduceAdd, Nat.reduceSub, Nat.reduceMul, Nat.reduceLeDiff, Nat.reduceEqDiff, Nat.reduceBEq, Int.reduceLE, Int.reduceLT, Int.reduceEq, Int.reduceNe, Int.reduceAdd, Int.reduceSub, Int.reduceToNat, Int.reduceNeg, ↓reduceIte, reduceCtorEq, cellsOf, cellA, lay, fillA]
          refine QLoop_go (n' := path.length + 1 - (i + 1)) (by omega) ⟨i + 1, from', l, by omega, by omega, rfl, hl, fun _ => ?_, fun e => by omega, rfl, rfl⟩ (by simp only [List.replicate_succ, List.replicate_zero, List.cons_append, List.nil_append, Tops_top, Tops_same, Tops_nil])
          rw [hgo', ← hcur, List.take_add_one, List.getElem?_eq_getElem hil, List.drop_append_of_le_length (by simp; omega)]
          rfl
        · have h47 : path[i] = 47 := by
            have h3 : path[i].toNat = 47 := by omega
            exact UInt8.toNat_inj.1 h3
          rw [if_pos h47] at hgo'
          simp only [h, h1, h2, g0, gf, gfi, hcur, iaddr_node, pnode, wk3, onStO, bareL, toCl, chunks, wk, emb, unAgg, ares, aresL, ares1, tupled, forall_const, Nat.reduceAdd, Nat.reduceSub, Nat.reduceMul, Nat.reduceLeDiff, Nat.reduceEqDiff, Nat.reduceBEq, Int.reduceLE, Int.reduceLT, Int.reduceEq, Int.reduceNe, Int.reduceAdd, Int.reduceSub, Int.reduceToNat, Int.reduceNeg, ↓reduceIte, reduceCtorEq, cellsOf, cellA, lay, fillA]
          refine CT_ok (mayname_spec _ ?_ _) ?_
          · rw [← hcur]; simp only [List.length_drop, List.length_take]; omega
          rintro _ H ⟨rfl, rfl⟩
          by_cases hm : mayN cur = true
          · by_cases h3 : (7 : Int) ≤ l.length
            · rw [if_neg (by omega)] at hgo'
              simp only [h, h1, h2, h3, hm, g0, gf, gfi, iaddr_node, pnode, wk3, onStO, bareL, toCl, chunks, wk, emb, unAgg, ares, aresL, ares1, tupled, forall_const, Nat.reduceAdd, Nat.reduceSub, Nat.reduceMul, Nat.reduceLeDiff, Nat.reduceEqDiff, Nat.reduceBEq, Int.reduceLE, Int.reduceLT, Int.reduceEq, Int.reduceNe, Int.reduceAdd, Int.reduceSub, Int.reduceToNat, Int.reduceNeg, ↓reduceIte, reduceCtorEq, cellsOf, cellA, lay, fillA]
              refine KWk_none ⟨?_, rfl⟩
              rw [hgo']; rfl
            · rw [if_pos ⟨hm, by omega⟩] at hgo'
              have e : List.map cellN l ++ [[AV.str cur]] = (l ++ [cur]).map cellN := by simp [cellN]
              simp only [h, h1, h2, h3, hm, g0, gf, gfi, w2, hcur, iaddr_node, pnode, wk3, onStO, bareL, toCl, chunks, wk, emb, unAgg, ares, aresL, ares1, tupled, forall_const, Nat.reduceAdd, Nat.reduceSub, Nat.reduceMul, Nat.reduceLeDiff, Nat.reduceEqDiff, Nat.reduceBEq, Int.reduceLE, Int.reduceLT, Int.reduceEq, Int.reduceNe, Int.reduceAdd, Int.reduceSub, Int.reduceToNat, Int.reduceNeg, ↓reduceIte, reduceCtorEq, cellsOf, cellA, lay, fillA]
              rw [e]
              refine ⟨⟨by omega, by omega⟩, ?_⟩
              refine QLoop_wk (n' := path.length + 1 - (i + 1)) (by omega) ⟨i + 1, i + 1, l ++ [cur], by omega, by omega, rfl, by simp; omega, fun _ => ?_, fun e => by omega, rfl, rfl⟩ (Wk_strs ?_)
              · rw [hgo', show List.drop (i + 1) (List.take (i + 1) path) = [] from List.drop_of_length_le (by simp; omega)]
              · simp only [List.length_append, List.length_cons, List.length_nil, List.replicate_succ, List.replicate_zero, List.cons_append, List.nil_append, renL, ren, upTo, Nat.zero_add, Nat.zero_lt_one, if_true, Tops_top, Tops_same, Tops_nil]
          · rw [if_neg (by simp [hm])] at hgo'
            rw [Bool.not_eq_true] at hm
            simp only [h, h1, h2, hm, g0, gf, gfi, iaddr_node, pnode, wk3, onStO, bareL, toCl, chunks, wk, emb, unAgg, ares, aresL, ares1, tupled, forall_const, Nat.reduceAdd, Nat.reduceSub, Nat.reduceMul, Nat.reduceLeDiff, Nat.reduceEqDiff, Nat.reduceBEq, Int.reduceLE, Int.reduceLT, Int.reduceEq, Int.reduceNe, Int.reduceAdd, Int.reduceSub, Int.reduceToNat, Int.reduceNeg, ↓reduceIte, reduceCtorEq, cellsOf, cellA, lay, fillA]
            refine KWk_none ⟨?_, rfl⟩
            rw [hgo']; rfl
      · have hil : i = path.length := by omega
        rw [List.drop_of_length_le (by omega)] at hgo'
        unfold partsGo at hgo'
        simp only [h, h1, g0, gf, gfi, hcur, iaddr_node, pnode, wk3, onStO, bareL, toCl, chunks, wk, emb, unAgg, ares, aresL, ares1, tupled, forall_const, Nat.reduceAdd, Nat.reduceSub, Nat.reduceMul, Nat.reduceLeDiff, Nat.reduceEqDiff, Nat.reduceBEq, Int.reduceLE, Int.reduceLT, Int.reduceEq, Int.reduceNe, Int.reduceAdd, Int.reduceSub, Int.reduceToNat, Int.reduceNeg, ↓reduceIte, reduceCtorEq, cellsOf, cellA, lay, fillA]
        refine CT_ok (mayname_spec _ ?_ _) ?_
        · rw [← hcur]; simp only [List.length_drop, List.length_take]; omega
        rintro _ H ⟨rfl, rfl⟩
        by_cases hm : mayN cur = true
        · by_cases h3 : (7 : Int) ≤ l.length
          · rw [if_neg (by omega)] at hgo'
            simp only [h, h1, h3, hm, g0, gf, gfi, iaddr_node, pnode, wk3, onStO, bareL, toCl, chunks, wk, emb, unAgg, ares, aresL, ares1, tupled, forall_const, Nat.reduceAdd, Nat.reduceSub, Nat.reduceMul, Nat.reduceLeDiff, Nat.reduceEqDiff, Nat.reduceBEq, Int.reduceLE, Int.reduceLT, Int.reduceEq, Int.reduceNe, Int.reduceAdd, Int.reduceSub, Int.reduceToNat, Int.reduceNeg, ↓reduceIte, reduceCtorEq, cellsOf, cellA, lay, fillA]
            refine KWk_none ⟨?_, rfl⟩
            rw [hgo']; rfl
          · rw [if_pos ⟨hm, by omega⟩] at hgo'
            have e : List.map cellN l ++ [[AV.str cur]] = (l ++ [cur]).map cellN := by simp [cellN]
            simp only [h, h1, h3, hm, g0, gf, gfi, w2, hcur, iaddr_node, pnode, wk3, onStO, bareL, toCl, chunks, wk, emb, unAgg, ares, aresL, ares1, tupled, forall_const, Nat.reduceAdd, Nat.reduceSub, Nat.reduceMul, Nat.reduceLeDiff, Nat.reduceEqDiff, Nat.reduceBEq, Int.reduceLE, Int.reduceLT, Int.reduceEq, Int.reduceNe, Int.reduceAdd, Int.reduceSub, Int.reduceToNat, Int.reduceNeg, ↓reduceIte, reduceCtorEq, cellsOf, cellA, lay, fillA]
            rw [e]
            refine ⟨⟨by omega, by omega⟩, ?_⟩
            refine QLoop_wk (n' := path.length + 1 - (i + 1)) (by omega) ⟨i + 1, i + 1, l ++ [cur], by omega, by omega, rfl, by simp; omega, fun e => by omega, fun _ => hgo', rfl, rfl⟩ (Wk_strs ?_)
            simp only [List.length_append, List.length_cons, List.length_nil, List.replicate_succ, List.replicate_zero, List.cons_append, List.nil_append, renL, ren, upTo, Nat.zero_add, Nat.zero_lt_one, if_true, Tops_top, Tops_same, Tops_nil]
        · rw [if_neg (by simp [hm])] at hgo'
          rw [Bool.not_eq_true] at hm
          simp only [h, h1, hm, g0, gf, gfi, iaddr_node, pnode, wk3, onStO, bareL, toCl, chunks, wk, emb, unAgg, ares, aresL, ares1, tupled, forall_const, Nat.reduceAdd, Nat.reduceSub, Nat.reduceMul, Nat.reduceLeDiff, Nat.reduceEqDiff, Nat.reduceBEq, Int.reduceLE, Int.reduceLT, Int.reduceEq, Int.reduceNe, Int.reduceAdd, Int.reduceSub, Int.reduceToNat, Int.reduceNeg, ↓reduceIte, reduceCtorEq, cellsOf, cellA, lay, fillA]
          refine KWk_none ⟨?_, rfl⟩
          rw [hgo']; rfl
    · have hA2 := hend (by omega)
      simp only [h, iaddr_node, pnode, wk3, onStO, bareL, toCl, chunks, wk, emb, unAgg, ares, aresL, ares1, tupled, forall_const, Nat.reduceAdd, Nat.reduceSub, Nat.reduceMul, Nat.reduceLeDiff, Nat.reduceEqDiff, Nat.reduceBEq, Int.reduceLE, Int.reduceLT, Int.reduceEq, Int.reduceNe, Int.reduceAdd, Int.reduceSub, Int.reduceToNat, Int.reduceNeg, ↓reduceIte, reduceCtorEq, cellsOf, cellA, lay, fillA]
      refine KWk_frozen 0 (l.map pname) ?_ (.tuple [.fz (l.map pname), .bool true]) ?_ ⟨by rw [hA2]; rfl, rfl⟩
      · simp [AH.at, cellN, pname, emb]
      · simp only [frzL, frz, renL, ren, if_true, List.length_map, Nat.zero_add, Nat.le_refl, and_self, List.drop_zero]
        rw [List.take_of_length_le (by simp)]
/-- What Parts hands back, wherever it is called. -/
theorem parts_exact (path : List UInt8) (hp : path.length ≤ 1000000) : PartsC path (fun l => partsA path = some l) (partsA path = none) := fun H =>
  (C_pure (K0 := fun x => x = partsV (partsA path)) (parts_spec0 path hp) (fun τ => renL_bare τ _ (by simp [bareL, bare])) (by rintro x rfl τ; cases partsA path <;> exact ren_bare τ _ (by simp [bare, bareL, partsV])) H).mono fun x H' h => ⟨h.2, by
    rw [h.1]
    cases e : partsA path with
    | some l => exact .inl ⟨l, rfl, (partsA_ok e).2, rfl⟩
    | none => exact .inr ⟨rfl, rfl⟩⟩
theorem PartsC.weak {path : List UInt8} {P P' : List (List UInt8) → Prop} {B B' : Prop} (h : PartsC path P B) (hP : ∀ l, P l → P' l) (hB : B → B') : PartsC path P' B' := fun H =>
  (h H).mono fun x H' g => ⟨g.1, g.2.elim (fun ⟨l, h1, h2, h3⟩ => .inl ⟨l, hP l h1, h2, h3⟩) (fun ⟨h1, h2⟩ => .inr ⟨hB h1, h2⟩)⟩
/-- All names may be. -/
def Names (l : List (List UInt8)) : Prop := ∀ x ∈ l, mayN x = true
theorem parts_loose (path : List UInt8) (hp : path.length ≤ 1000000) : PartsC path Names True := (parts_exact path hp).weak (fun l h => (partsA_ok h).1) (fun _ => trivial)
end Go.Proofs.Ytemjlopoffjmpaa.Abs
set_option linter.unusedSimpArgs false
set_option linter.unusedVariables false
namespace Go.Proofs.Ytemjlopoffjmpaa.Abs
open Go Go.Proofs

theorem make_next {path : List UInt8} {P : List (List UInt8) → Prop} {B : Prop} (hp : PartsC path P B) (hP : ∀ l, P l → ∀ x ∈ l, mayN x = true) (s : List Node) (hw : Wf s) (kind : Int) (H : AH) :
    C Try.prog 17 [aset s, .str path, .int .i64 kind] H (fun x H' => H' = H ∧ NextW s x) := by
  have hlen := hw.len
  refine (make_spec hp s (by omega) (by omega) kind H).mono ?_
  rintro x H' ⟨rfl, ⟨e, _, rfl⟩ | ⟨l, a, up, n, hl, hup, _, hk2, hno, hn, hn0, hk, rfl⟩⟩
  · exact ⟨rfl, _, _, hw, rfl⟩
  · exact ⟨rfl, _, _, make_wf hw (by omega) hk2 hno (by omega) hn0 hk (hP _ hl a (by simp)), rfl⟩
theorem write_next {path : List UInt8} {P : List (List UInt8) → Prop} {B : Prop} (hp : PartsC path P B) (s : List Node) (hw : Wf s) (off : Int) (text : List UInt8) (htl : text.length < 2 ^ 40) (H : AH) :
    C Try.prog 18 [aset s, .str path, .int .i64 off, .str text] H (fun x H' => H' = H ∧ NextW s x) := (write_spec hp s hw off text htl H).mono fun x H' h => ⟨h.1, WriteR_next hw h.2⟩

theorem done_spec0 (s : List Node) (hw : Wf s) (k i n a b : Int) (p q t : List UInt8) (hp : p.length ≤ 1000000) (hq : q.length ≤ 1000000) (ht : t.length ≤ 1000000) :
    C Try.prog 12 [aset s, .agg [.int .i64 k, .int .i64 i, .int .i64 n, .int .i64 a, .int .i64 b, .str p, .str q, .str t, .emp]] [] (fun x H' => NextW s x ∧ H' = []) := by
  refine C_body' d12 rfl (WT_ok ?_)
  unfold c12
  simp only [aset, lay, iaddr_node, pnode, wk3, onStO, bareL, toCl, chunks, wk, emb, unAgg, ares, aresL, ares1, tupled, forall_const, Nat.reduceAdd, Nat.reduceSub, Nat.reduceMul, Nat.reduceLeDiff, Nat.reduceEqDiff, Nat.reduceBEq, Int.reduceLE, Int.reduceLT, Int.reduceEq, Int.reduceNe, Int.reduceAdd, Int.reduceSub, Int.reduceToNat, Int.reduceNeg, ↓reduceIte, reduceCtorEq, cellsOf, cellA, lay, fillA]
  by_cases h1 : k = 1
  · simp only [h1, lay, iaddr_node, pnode, wk3, onStO, bareL, toCl, chunks, wk, emb, unAgg, ares, aresL, ares1, tupled, forall_const, Nat.reduceAdd, Nat.reduceSub, Nat.reduceMul, Nat.reduceLeDiff, Nat.reduceEqDiff, Nat.reduceBEq, Int.reduceLE, Int.reduceLT, Int.reduceEq, Int.reduceNe, Int.reduceAdd, Int.reduceSub, Int.reduceToNat, Int.reduceNeg, ↓reduceIte, reduceCtorEq, cellsOf, cellA, lay, fillA]
    refine CT_ok (make_next (parts_loose p hp) (fun _ h => h) s hw n _) ?_
    rintro _ _ ⟨rfl, u, e, hu, rfl⟩
    simp only [lay, iaddr_node, pnode, wk3, onStO, bareL, toCl, chunks, wk, emb, unAgg, ares, aresL, ares1, tupled, forall_const, Nat.reduceAdd, Nat.reduceSub, Nat.reduceMul, Nat.reduceLeDiff, Nat.reduceEqDiff, Nat.reduceBEq, Int.reduceLE, Int.reduceLT, Int.reduceEq, Int.reduceNe, Int.reduceAdd, Int.reduceSub, Int.reduceToNat, Int.reduceNeg, ↓reduceIte, reduceCtorEq, cellsOf, cellA, lay, fillA]
    exact KWk_bare (bare_next u _) ⟨⟨u, _, hu, rfl⟩, rfl⟩
  by_cases h2 : k = 2
  · simp only [h2, lay, iaddr_node, pnode, wk3, onStO, bareL, toCl, chunks, wk, emb, unAgg, ares, aresL, ares1, tupled, forall_const, Nat.reduceAdd, Nat.reduceSub, Nat.reduceMul, Nat.reduceLeDiff, Nat.reduceEqDiff, Nat.reduceBEq, Int.reduceLE, Int.reduceLT, Int.reduceEq, Int.reduceNe, Int.reduceAdd, Int.reduceSub, Int.reduceToNat, Int.reduceNeg, ↓reduceIte, reduceCtorEq, cellsOf, cellA, lay, fillA]
    refine CT_ok (drop_spec (parts_loose p hp) s hw _) ?_
    rintro _ _ ⟨rfl, u, e, hu, rfl⟩
    simp only [lay, iaddr_node, pnode, wk3, onStO, bareL, toCl, chunks, wk, emb, unAgg, ares, aresL, ares1, tupled, forall_const, Nat.reduceAdd, Nat.reduceSub, Nat.reduceMul, Nat.reduceLeDiff, Nat.reduceEqDiff, Nat.reduceBEq, Int.reduceLE, Int.reduceLT, Int.reduceEq, Int.reduceNe, Int.reduceAdd, Int.reduceSub, Int.reduceToNat, Int.reduceNeg, ↓reduceIte, reduceCtorEq, cellsOf, cellA, lay, fillA]
    exact KWk_bare (bare_next u _) ⟨⟨u, _, hu, rfl⟩, rfl⟩
  by_cases h3 : k = 3
  · simp only [h3, lay, iaddr_node, pnode, wk3, onStO, bareL, toCl, chunks, wk, emb, unAgg, ares, aresL, ares1, tupled, forall_const, Nat.reduceAdd, Nat.reduceSub, Nat.reduceMul, Nat.reduceLeDiff, Nat.reduceEqDiff, Nat.reduceBEq, Int.reduceLE, Int.reduceLT, Int.reduceEq, Int.reduceNe, Int.reduceAdd, Int.reduceSub, Int.reduceToNat, Int.reduceNeg, ↓reduceIte, reduceCtorEq, cellsOf, cellA, lay, fillA]
    refine CT_ok (move_spec (parts_loose p hp) (parts_loose q hq) (fun _ h => h) s hw _) ?_
    rintro _ _ ⟨rfl, u, e, hu, rfl⟩
    simp only [lay, iaddr_node, pnode, wk3, onStO, bareL, toCl, chunks, wk, emb, unAgg, ares, aresL, ares1, tupled, forall_const, Nat.reduceAdd, Nat.reduceSub, Nat.reduceMul, Nat.reduceLeDiff, Nat.reduceEqDiff, Nat.reduceBEq, Int.reduceLE, Int.reduceLT, Int.reduceEq, Int.reduceNe, Int.reduceAdd, Int.reduceSub, Int.reduceToNat, Int.reduceNeg, ↓reduceIte, reduceCtorEq, cellsOf, cellA, lay, fillA]
    exact KWk_bare (bare_next u _) ⟨⟨u, _, hu, rfl⟩, rfl⟩
  by_cases h4 : k = 4
  · simp only [h4, lay, iaddr_node, pnode, wk3, onStO, bareL, toCl, chunks, wk, emb, unAgg, ares, aresL, ares1, tupled, forall_const, Nat.reduceAdd, Nat.reduceSub, Nat.reduceMul, Nat.reduceLeDiff, Nat.reduceEqDiff, Nat.reduceBEq, Int.reduceLE, Int.reduceLT, Int.reduceEq, Int.reduceNe, Int.reduceAdd, Int.reduceSub, Int.reduceToNat, Int.reduceNeg, ↓reduceIte, reduceCtorEq, cellsOf, cellA, lay, fillA]
    refine CT_ok (write_next (parts_loose p hp) s hw n t (by omega) _) ?_
    rintro _ _ ⟨rfl, u, e, hu, rfl⟩
    simp only [lay, iaddr_node, pnode, wk3, onStO, bareL, toCl, chunks, wk, emb, unAgg, ares, aresL, ares1, tupled, forall_const, Nat.reduceAdd, Nat.reduceSub, Nat.reduceMul, Nat.reduceLeDiff, Nat.reduceEqDiff, Nat.reduceBEq, Int.reduceLE, Int.reduceLT, Int.reduceEq, Int.reduceNe, Int.reduceAdd, Int.reduceSub, Int.reduceToNat, Int.reduceNeg, ↓reduceIte, reduceCtorEq, cellsOf, cellA, lay, fillA]
    exact KWk_bare (bare_next u _) ⟨⟨u, _, hu, rfl⟩, rfl⟩
  · simp only [h1, h2, h3, h4, lay, iaddr_node, pnode, wk3, onStO, bareL, toCl, chunks, wk, emb, unAgg, ares, aresL, ares1, tupled, forall_const, Nat.reduceAdd, Nat.reduceSub, Nat.reduceMul, Nat.reduceLeDiff, Nat.reduceEqDiff, Nat.reduceBEq, Int.reduceLE, Int.reduceLT, Int.reduceEq, Int.reduceNe, Int.reduceAdd, Int.reduceSub, Int.reduceToNat, Int.reduceNeg, ↓reduceIte, reduceCtorEq, cellsOf, cellA, lay, fillA]
    refine CT_ok (cut_spec (parts_loose p hp) s hw n _) ?_
    rintro _ _ ⟨rfl, u, e, hu, rfl⟩
    simp only [lay, iaddr_node, pnode, wk3, onStO, bareL, toCl, chunks, wk, emb, unAgg, ares, aresL, ares1, tupled, forall_const, Nat.reduceAdd, Nat.reduceSub, Nat.reduceMul, Nat.reduceLeDiff, Nat.reduceEqDiff, Nat.reduceBEq, Int.reduceLE, Int.reduceLT, Int.reduceEq, Int.reduceNe, Int.reduceAdd, Int.reduceSub, Int.reduceToNat, Int.reduceNeg, ↓reduceIte, reduceCtorEq, cellsOf, cellA, lay, fillA]
    exact KWk_bare (bare_next u _) ⟨⟨u, _, hu, rfl⟩, rfl⟩
theorem done_spec (s : List Node) (hw : Wf s) (k i n a b : Int) (p q t : List UInt8) (hp : p.length ≤ 1000000) (hq : q.length ≤ 1000000) (ht : t.length ≤ 1000000) (H : AH) :
    C Try.prog 12 [aset s, .agg [.int .i64 k, .int .i64 i, .int .i64 n, .int .i64 a, .int .i64 b, .str p, .str q, .str t, .emp]] H (fun x H' => H' = H ∧ NextW s x) := next_pure (done_spec0 s hw k i n a b p q t hp hq ht) (by simp [bareL, bare, aset]) H
end Go.Proofs.Ytemjlopoffjmpaa.Abs
