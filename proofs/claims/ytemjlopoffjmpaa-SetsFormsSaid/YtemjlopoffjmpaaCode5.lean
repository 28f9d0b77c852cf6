/-
  The code of some functions in the abstract layer's form, each checked against the program's own. Written by gen.py.
-/
import Derived.Test.YtemjlopoffjmpaaAbs22
import Derived.Test.YtemjlopoffjmpaaProg
import Derived.KernelRfl
namespace Go.Proofs.Ytemjlopoffjmpaa.Abs
open Go

/-- (palimp/dset.family).is -/
def c63 : ACode :=
 (.seq (.reg [⟨some 6, none, .mv (.c (.bool false))⟩])
 (.seq (.reg [⟨some 8, none, .mv (.t 0)⟩,
  ⟨some 9, none, .mv (.t 1)⟩,
  ⟨some 10, none, .call 62 [(.t 8), (.t 9)]⟩,
  ⟨some 7, none, .mv (.t 10)⟩])
 (.seq (.reg [⟨some 11, none, .mv (.t 7)⟩,
  ⟨some 12, none, .bini .geq (.t 11) (.c (.int .i64 0))⟩,
  ⟨some 13, none, .mv (.t 12)⟩,
  ⟨some 14, (some (13, true)), .mv (.t 0)⟩,
  ⟨some 15, (some (13, true)), .mv (.t 7)⟩,
  ⟨some 16, (some (13, true)), .iaddr 5 (.t 14) (.t 15)⟩,
  ⟨some 17, (some (13, true)), .faddr 1 (.t 16)⟩,
  ⟨some 18, (some (13, true)), .load false 1 (.t 17)⟩,
  ⟨some 19, (some (13, true)), .mv (.t 2)⟩,
  ⟨some 20, (some (13, true)), .bini .eql (.t 18) (.t 19)⟩,
  ⟨some 21, none, .pick (.t 13) (.t 20) (.c (.bool false))⟩,
  ⟨some 6, none, .mv (.t 21)⟩])
 .ret)))
theorem d63 : FnD Try.prog 63 3 19 [.tmp 6] c63 := ⟨Try.f63, _, Try.func63, by kernel_rfl, rfl, rfl, by kernel_rfl, by kernel_rfl⟩

/-- palimp/dset.Back$1 -/
def c64 : ACode :=
 (.seq (.reg [⟨some 3, none, .box (.t 0)⟩,
  ⟨some 4, none, .mv (.c (.bool false))⟩])
 (.seq (.reg [⟨some 5, none, .faddr 1 (.t 3)⟩,
  ⟨some 6, none, .load false 1 (.t 5)⟩,
  ⟨some 7, none, .bini .eql (.t 6) (.c (.int .i64 2))⟩,
  ⟨some 8, none, .mv (.t 7)⟩,
  ⟨some 9, (some (8, true)), .faddr 2 (.t 3)⟩,
  ⟨some 10, (some (8, true)), .load false 1 (.t 9)⟩,
  ⟨some 11, (some (8, true)), .load false 1 (.t 1)⟩,
  ⟨some 12, (some (8, true)), .bini .eql (.t 10) (.t 11)⟩,
  ⟨some 13, none, .pick (.t 8) (.t 12) (.c (.bool false))⟩,
  ⟨some 14, none, .mv (.t 13)⟩,
  ⟨some 15, (some (14, true)), .faddr 0 (.t 3)⟩,
  ⟨some 16, (some (14, true)), .load false 1 (.t 15)⟩,
  ⟨some 17, (some (14, true)), .load false 1 (.t 2)⟩,
  ⟨some 18, (some (14, true)), .bini .gtr (.t 16) (.t 17)⟩,
  ⟨some 19, none, .pick (.t 14) (.t 18) (.c (.bool false))⟩,
  ⟨some 4, none, .mv (.t 19)⟩])
 .ret))
theorem d64 : FnD Try.prog 64 3 17 [.tmp 4] c64 := ⟨Try.f64, _, Try.func64, by kernel_rfl, rfl, rfl, by kernel_rfl, by kernel_rfl⟩

/-- slices.ContainsFunc(palimp/dset.family,palimp/api.Dset) -/
def c65 : ACode :=
 (.seq (.reg [⟨some 4, none, .mv (.c (.bool false))⟩])
 (.seq (.reg [⟨some 5, none, .mv (.t 0)⟩,
  ⟨some 6, none, .mv (.t 1)⟩,
  ⟨some 7, none, .call 81 [(.t 5), (.t 6)]⟩,
  ⟨some 8, none, .bini .geq (.t 7) (.c (.int .i64 0))⟩,
  ⟨some 4, none, .mv (.t 8)⟩])
 .ret))
theorem d65 : FnD Try.prog 65 2 7 [.tmp 4] c65 := ⟨Try.f65, _, Try.func65, by kernel_rfl, rfl, rfl, by kernel_rfl, by kernel_rfl⟩

/-- palimp/dset.Destroy$1 -/
def c66 : ACode :=
 (.seq (.reg [⟨some 2, none, .box (.t 0)⟩,
  ⟨some 3, none, .mv (.c (.bool false))⟩])
 (.seq (.reg [⟨some 4, none, .faddr 2 (.t 2)⟩,
  ⟨some 5, none, .load false 1 (.t 4)⟩,
  ⟨some 6, none, .load false 1 (.t 1)⟩,
  ⟨some 7, none, .bini .eql (.t 5) (.t 6)⟩,
  ⟨some 3, none, .mv (.t 7)⟩])
 .ret))
theorem d66 : FnD Try.prog 66 2 6 [.tmp 3] c66 := ⟨Try.f66, _, Try.func66, by kernel_rfl, rfl, rfl, by kernel_rfl, by kernel_rfl⟩

/-- slices.Delete(()palimp/api.Dset,palimp/api.Dset) -/
def c67 : ACode :=
 (.seq (.reg [⟨some 6, none, .mv (.c (.emp))⟩])
 (.seq (.reg [⟨some 8, none, .mv (.t 0)⟩,
  ⟨some 9, none, .mv (.t 1)⟩,
  ⟨some 10, none, .mv (.t 2)⟩,
  ⟨some 11, none, .mv (.t 0)⟩,
  ⟨some 12, none, .len false (.t 11)⟩,
  ⟨some 13, none, .slice3 (.t 8) (.t 9) (.t 10) (.t 12)⟩])
 (.seq (.seq (.reg [⟨some 14, none, .mv (.t 1)⟩,
  ⟨some 15, none, .mv (.t 2)⟩,
  ⟨some 16, none, .bini .eql (.t 14) (.t 15)⟩])
 (.cond (.t 16)
 (.seq (.reg [⟨some 17, none, .mv (.t 0)⟩,
  ⟨some 6, none, .mv (.t 17)⟩])
 .ret)
 .skip))
 (.seq (.reg [⟨some 18, none, .mv (.t 0)⟩,
  ⟨some 19, none, .len false (.t 18)⟩,
  ⟨some 7, none, .mv (.t 19)⟩])
 (.seq (.dregE [[⟨some 20, none, .mv (.t 0)⟩,
  ⟨some 21, none, .mv (.t 1)⟩,
  ⟨some 22, none, .slicel 5 (.t 20) none (some (.t 21))⟩,
  ⟨some 23, none, .mv (.t 0)⟩,
  ⟨some 24, none, .mv (.t 2)⟩,
  ⟨some 25, none, .slicel 5 (.t 23) (some (.t 24)) none⟩],
  [⟨some 26, none, .append 5 56 [.int .i64 0, .int .i64 0, .int .i64 0, .int .i64 0, .emp] (.t 22) (.t 25)⟩],
  [⟨some 0, none, .mv (.t 26)⟩]]
  [[], [], [0, 1], [], [], [3, 4], [0, 1, 2, 3, 4, 5], [0, 1, 2, 3, 4, 5, 6]])
 (.seq (.reg [⟨some 27, none, .mv (.t 0)⟩,
  ⟨some 28, none, .mv (.t 0)⟩,
  ⟨some 29, none, .len false (.t 28)⟩,
  ⟨some 30, none, .mv (.t 7)⟩,
  ⟨some 31, none, .slicel 5 (.t 27) (some (.t 29)) (some (.t 30))⟩,
  ⟨none, none, .clear 5 [.int .i64 0, .int .i64 0, .int .i64 0, .int .i64 0, .emp] (.t 31)⟩])
 (.seq (.reg [⟨some 32, none, .mv (.t 0)⟩,
  ⟨some 6, none, .mv (.t 32)⟩])
 .ret)))))))
theorem d67 : FnD Try.prog 67 3 30 [.tmp 6] c67 := ⟨Try.f67, _, Try.func67, by kernel_rfl, rfl, rfl, by kernel_rfl, by kernel_rfl⟩

/-- palimp/palimpref16.id -/
def c68 : ACode :=
 (.seq (.reg [⟨some 2, none, .mv (.c (.bool false))⟩])
 (.seq (.reg [⟨some 3, none, .mv (.t 0)⟩,
  ⟨some 4, none, .bini .geq (.t 3) (.c (.int .i64 0))⟩,
  ⟨some 5, none, .mv (.t 4)⟩,
  ⟨some 6, (some (5, true)), .mv (.t 0)⟩,
  ⟨some 7, (some (5, true)), .bini .leq (.t 6) (.c (.int .i64 65535))⟩,
  ⟨some 8, none, .pick (.t 5) (.t 7) (.c (.bool false))⟩,
  ⟨some 2, none, .mv (.t 8)⟩])
 .ret))
theorem d68 : FnD Try.prog 68 1 8 [.tmp 2] c68 := ⟨Try.f68, _, Try.func68, by kernel_rfl, rfl, rfl, by kernel_rfl, by kernel_rfl⟩

/-- palimp/palimpref11.May -/
def c69 : ACode :=
 (.seq (.reg [⟨some 2, none, .mv (.c (.bool false))⟩])
 (.seq (.reg [⟨some 3, none, .mv (.t 0)⟩,
  ⟨some 4, none, .call 83 [(.t 3)]⟩,
  ⟨some 5, none, .mv (.t 4)⟩,
  ⟨some 6, (some (5, true)), .mv (.t 0)⟩,
  ⟨some 7, (some (5, true)), .call 84 [(.t 6)]⟩,
  ⟨some 8, (some (5, true)), .un .not (.t 7)⟩,
  ⟨some 9, none, .pick (.t 5) (.t 8) (.c (.bool false))⟩,
  ⟨some 2, none, .mv (.t 9)⟩])
 .ret))
theorem d69 : FnD Try.prog 69 1 9 [.tmp 2] c69 := ⟨Try.f69, _, Try.func69, by kernel_rfl, rfl, rfl, by kernel_rfl, by kernel_rfl⟩

/-- palimp/palimpref16.Get -/
def c70 : ACode :=
 (.seq (.reg [⟨some 4, none, .alloc [.int .i64 0, .int .i64 0, .int .i64 0, .int .i64 0, .emp]⟩,
  ⟨some 5, none, .mv (.c (.bool false))⟩])
 (.seq (.reg [⟨some 7, none, .mv (.t 0)⟩,
  ⟨some 8, none, .mv (.t 1)⟩,
  ⟨some 9, none, .call 85 [(.t 7), (.t 8)]⟩,
  ⟨some 6, none, .mv (.t 9)⟩])
 (.seq (.seq (.reg [⟨some 10, none, .mv (.t 6)⟩,
  ⟨some 11, none, .bini .lss (.t 10) (.c (.int .i64 0))⟩])
 (.cond (.t 11)
 (.seq (.reg [⟨some 12, none, .build [.int .i64 0, .int .i64 0, .int .i64 0, .int .i64 0, .emp] []⟩,
  ⟨none, none, .store 5 (.t 4) (.t 12)⟩,
  ⟨some 5, none, .mv (.c (.bool false))⟩])
 .ret)
 .skip))
 (.seq (.reg [⟨some 13, none, .mv (.t 0)⟩,
  ⟨some 14, none, .mv (.t 6)⟩,
  ⟨some 15, none, .iaddr 5 (.t 13) (.t 14)⟩,
  ⟨some 16, none, .load true 5 (.t 15)⟩,
  ⟨none, none, .store 5 (.t 4) (.t 16)⟩,
  ⟨some 5, none, .mv (.c (.bool true))⟩])
 .ret))))
theorem d70 : FnD Try.prog 70 2 15 [.cell 4 true 5, .tmp 5] c70 := ⟨Try.f70, _, Try.func70, by kernel_rfl, rfl, rfl, by kernel_rfl, by kernel_rfl⟩

/-- palimp/palimpref11.Kids -/
def c71 : ACode :=
 (.seq (.reg [⟨some 4, none, .mv (.c (.emp))⟩])
 (.seq (.reg [⟨some 5, none, .mv (.c (.emp))⟩])
 (.seq (.seq (.reg [⟨some 6, none, .mv (.c (.int .i64 1))⟩])
 (.block 0
 (.loop
 (.seq (.seq (.reg [⟨some 8, none, .mv (.t 6)⟩,
  ⟨some 9, none, .mv (.t 0)⟩,
  ⟨some 10, none, .len false (.t 9)⟩,
  ⟨some 11, none, .bini .lss (.t 8) (.t 10)⟩])
 (.cond (.t 11)
 .skip
 (.exit 0)))
 (.seq (.block 1
 (.seq (.seq (.reg [⟨some 14, none, .mv (.t 0)⟩,
  ⟨some 15, none, .mv (.t 6)⟩,
  ⟨some 16, none, .iaddr 5 (.t 14) (.t 15)⟩,
  ⟨some 17, none, .faddr 0 (.t 16)⟩,
  ⟨some 18, none, .load false 1 (.t 17)⟩,
  ⟨some 19, none, .bini .neq (.t 18) (.c (.int .i64 1))⟩,
  ⟨some 20, none, .mv (.t 19)⟩,
  ⟨some 21, (some (20, true)), .mv (.t 0)⟩,
  ⟨some 22, (some (20, true)), .mv (.t 6)⟩,
  ⟨some 23, (some (20, true)), .iaddr 5 (.t 21) (.t 22)⟩,
  ⟨some 24, (some (20, true)), .faddr 0 (.t 23)⟩,
  ⟨some 25, (some (20, true)), .load false 1 (.t 24)⟩,
  ⟨some 26, (some (20, true)), .bini .neq (.t 25) (.c (.int .i64 2))⟩,
  ⟨some 27, none, .pick (.t 20) (.t 26) (.c (.bool false))⟩,
  ⟨some 28, none, .mv (.t 27)⟩,
  ⟨some 29, (some (28, false)), .mv (.t 0)⟩,
  ⟨some 30, (some (28, false)), .mv (.t 6)⟩,
  ⟨some 31, (some (28, false)), .iaddr 5 (.t 29) (.t 30)⟩,
  ⟨some 32, (some (28, false)), .faddr 1 (.t 31)⟩,
  ⟨some 33, (some (28, false)), .load false 1 (.t 32)⟩,
  ⟨some 34, (some (28, false)), .mv (.t 1)⟩,
  ⟨some 35, (some (28, false)), .bini .neq (.t 33) (.t 34)⟩,
  ⟨some 36, none, .pick (.t 28) (.c (.bool true)) (.t 35)⟩])
 (.cond (.t 36)
 (.exit 1)
 .skip))
 (.seq (.reg [⟨some 37, none, .mv (.t 5)⟩,
  ⟨some 38, none, .len false (.t 37)⟩,
  ⟨some 7, none, .mv (.t 38)⟩])
 (.seq (.reg [⟨some 39, none, .mv (.t 5)⟩,
  ⟨some 40, none, .mv (.t 6)⟩,
  ⟨some 41, none, .bslice 1 1 [.int .i64 0] [(0, (.t 40))]⟩,
  ⟨some 42, none, .append 1 8 [.int .i64 0] (.t 39) (.t 41)⟩,
  ⟨some 5, none, .mv (.t 42)⟩])
 (.block 2
 (.loop
 (.seq (.seq (.dreg [⟨some 43, none, .mv (.t 7)⟩,
  ⟨some 44, none, .bini .gtr (.t 43) (.c (.int .i64 0))⟩,
  ⟨some 45, none, .mv (.t 44)⟩,
  ⟨some 46, (some (45, true)), .mv (.t 0)⟩,
  ⟨some 47, (some (45, true)), .mv (.t 5)⟩,
  ⟨some 48, (some (45, true)), .mv (.t 7)⟩,
  ⟨some 49, (some (45, true)), .bini .sub (.t 48) (.c (.int .i64 1))⟩,
  ⟨some 50, (some (45, true)), .iaddr 1 (.t 47) (.t 49)⟩,
  ⟨some 51, (some (45, true)), .load false 1 (.t 50)⟩,
  ⟨some 52, (some (45, true)), .iaddr 5 (.t 46) (.t 51)⟩,
  ⟨some 53, (some (45, true)), .faddr 2 (.t 52)⟩,
  ⟨some 54, (some (45, true)), .load false 1 (.t 53)⟩,
  ⟨some 55, (some (45, true)), .mv (.t 0)⟩,
  ⟨some 56, (some (45, true)), .mv (.t 6)⟩,
  ⟨some 57, (some (45, true)), .iaddr 5 (.t 55) (.t 56)⟩,
  ⟨some 58, (some (45, true)), .faddr 2 (.t 57)⟩,
  ⟨some 59, (some (45, true)), .load false 1 (.t 58)⟩,
  ⟨some 60, (some (45, true)), .bins .gtr (.t 54) (.t 59)⟩,
  ⟨some 61, none, .pick (.t 45) (.t 60) (.c (.bool false))⟩])
 (.cond (.t 61)
 .skip
 (.exit 2)))
 (.block 3
 (.seq (.dregE [[⟨some 62, none, .mv (.t 5)⟩,
  ⟨some 63, none, .mv (.t 7)⟩,
  ⟨some 64, none, .bini .sub (.t 63) (.c (.int .i64 1))⟩,
  ⟨some 65, none, .mv (.t 5)⟩,
  ⟨some 66, none, .mv (.t 7)⟩,
  ⟨some 67, none, .mv (.t 5)⟩,
  ⟨some 68, none, .mv (.t 7)⟩,
  ⟨some 69, none, .iaddr 1 (.t 67) (.t 68)⟩,
  ⟨some 70, none, .load false 1 (.t 69)⟩,
  ⟨some 71, none, .mv (.t 5)⟩,
  ⟨some 72, none, .mv (.t 7)⟩,
  ⟨some 73, none, .bini .sub (.t 72) (.c (.int .i64 1))⟩,
  ⟨some 74, none, .iaddr 1 (.t 71) (.t 73)⟩,
  ⟨some 75, none, .load false 1 (.t 74)⟩,
  ⟨some 76, none, .iaddr 1 (.t 62) (.t 64)⟩,
  ⟨none, none, .store 1 (.t 76) (.t 70)⟩],
  [⟨some 77, none, .iaddr 1 (.t 65) (.t 66)⟩],
  [⟨none, none, .store 1 (.t 77) (.t 75)⟩]]
  [[], [], [1], [], [], [], [], [5, 6], [5, 6, 7], [], [], [10], [9, 10, 11], [9, 10, 11, 12], [0, 1, 2, 5, 6, 7, 8, 9, 10, 11, 12, 13], [0, 1, 2, 5, 6, 7, 8, 9, 10, 11, 12, 13, 14], [0, 1, 2, 3, 4, 5, 6, 7, 8, 9, 10, 11, 12, 13, 14, 15], [0, 1, 2, 3, 4, 5, 6, 7, 8, 9, 10, 11, 12, 13, 14, 15, 16]])
 (.reg [⟨some 78, none, .mv (.t 7)⟩,
  ⟨some 79, none, .bini .sub (.t 78) (.c (.int .i64 1))⟩,
  ⟨some 7, none, .mv (.t 79)⟩]))))))))))
 (.reg [⟨some 12, none, .mv (.t 6)⟩,
  ⟨some 13, none, .bini .add (.t 12) (.c (.int .i64 1))⟩,
  ⟨some 6, none, .mv (.t 13)⟩]))))))
 (.seq (.reg [⟨some 80, none, .mv (.t 5)⟩,
  ⟨some 4, none, .mv (.t 80)⟩])
 .ret))))
theorem d71 : FnD Try.prog 71 2 79 [.tmp 4] c71 := ⟨Try.f71, _, Try.func71, by kernel_rfl, rfl, rfl, by kernel_rfl, by kernel_rfl⟩

/-- palimp/palimpref11.Within -/
def c72 : ACode :=
 (.seq (.reg [⟨some 6, none, .mv (.c (.bool false))⟩])
 (.seq (.seq (.reg [⟨some 8, none, .mv (.t 0)⟩,
  ⟨some 9, none, .mv (.t 1)⟩,
  ⟨some 10, none, .call 54 [(.t 8), (.t 9)]⟩,
  ⟨some 11, none, .un .not (.t 10)⟩,
  ⟨some 12, none, .mv (.t 11)⟩,
  ⟨some 13, (some (12, false)), .mv (.t 0)⟩,
  ⟨some 14, (some (12, false)), .mv (.t 2)⟩,
  ⟨some 15, (some (12, false)), .call 54 [(.t 13), (.t 14)]⟩,
  ⟨some 16, (some (12, false)), .un .not (.t 15)⟩,
  ⟨some 17, none, .pick (.t 12) (.c (.bool true)) (.t 16)⟩])
 (.cond (.t 17)
 (.seq (.reg [⟨some 6, none, .mv (.c (.bool false))⟩])
 .ret)
 .skip))
 (.seq (.seq (.reg [⟨some 7, none, .mv (.c (.int .i64 0))⟩])
 (.block 0
 (.loop
 (.seq (.seq (.reg [⟨some 18, none, .mv (.t 7)⟩,
  ⟨some 19, none, .mv (.t 0)⟩,
  ⟨some 20, none, .len false (.t 19)⟩,
  ⟨some 21, none, .bini .lss (.t 18) (.t 20)⟩,
  ⟨some 22, none, .mv (.t 21)⟩,
  ⟨some 23, (some (22, true)), .mv (.t 1)⟩,
  ⟨some 24, (some (22, true)), .mv (.t 2)⟩,
  ⟨some 25, (some (22, true)), .bini .neq (.t 23) (.t 24)⟩,
  ⟨some 26, none, .pick (.t 22) (.t 25) (.c (.bool false))⟩,
  ⟨some 27, none, .mv (.t 26)⟩,
  ⟨some 28, (some (27, true)), .mv (.t 1)⟩,
  ⟨some 29, (some (27, true)), .bini .neq (.t 28) (.c (.int .i64 0))⟩,
  ⟨some 30, none, .pick (.t 27) (.t 29) (.c (.bool false))⟩])
 (.cond (.t 30)
 .skip
 (.exit 0)))
 (.seq (.block 1
 (.reg [⟨some 33, none, .mv (.t 0)⟩,
  ⟨some 34, none, .mv (.t 1)⟩,
  ⟨some 35, none, .iaddr 5 (.t 33) (.t 34)⟩,
  ⟨some 36, none, .faddr 1 (.t 35)⟩,
  ⟨some 37, none, .load false 1 (.t 36)⟩,
  ⟨some 1, none, .mv (.t 37)⟩]))
 (.reg [⟨some 31, none, .mv (.t 7)⟩,
  ⟨some 32, none, .bini .add (.t 31) (.c (.int .i64 1))⟩,
  ⟨some 7, none, .mv (.t 32)⟩]))))))
 (.seq (.reg [⟨some 38, none, .mv (.t 1)⟩,
  ⟨some 39, none, .mv (.t 2)⟩,
  ⟨some 40, none, .bini .eql (.t 38) (.t 39)⟩,
  ⟨some 6, none, .mv (.t 40)⟩])
 .ret))))
theorem d72 : FnD Try.prog 72 3 38 [.tmp 6] c72 := ⟨Try.f72, _, Try.func72, by kernel_rfl, rfl, rfl, by kernel_rfl, by kernel_rfl⟩

/-- palimp/data.Part -/
def c73 : ACode :=
 (.seq (.reg [⟨some 4, none, .mv (.c (.str []))⟩])
 (.seq (.seq (.reg [⟨some 6, none, .mv (.t 1)⟩,
  ⟨some 7, none, .bini .lss (.t 6) (.c (.int .i64 0))⟩,
  ⟨some 8, none, .mv (.t 7)⟩,
  ⟨some 9, (some (8, false)), .mv (.t 1)⟩,
  ⟨some 10, (some (8, false)), .bini .geq (.t 9) (.c (.int .i64 4))⟩,
  ⟨some 11, none, .pick (.t 8) (.c (.bool true)) (.t 10)⟩,
  ⟨some 12, none, .mv (.t 11)⟩,
  ⟨some 13, (some (12, false)), .mv (.t 0)⟩,
  ⟨some 14, (some (12, false)), .len true (.t 13)⟩,
  ⟨some 15, (some (12, false)), .bini .gtr (.t 14) (.c (.int .i64 128))⟩,
  ⟨some 16, none, .pick (.t 12) (.c (.bool true)) (.t 15)⟩])
 (.cond (.t 16)
 (.seq (.reg [⟨some 4, none, .mv (.c (.str []))⟩])
 .ret)
 .skip))
 (.seq (.reg [⟨some 17, none, .mv (.t 0)⟩,
  ⟨some 18, none, .mv (.t 0)⟩,
  ⟨some 19, none, .len true (.t 18)⟩,
  ⟨some 20, none, .bini .sub (.c (.int .i64 128)) (.t 19)⟩,
  ⟨some 21, none, .call 86 [(.t 20)]⟩,
  ⟨some 22, none, .bins .add (.t 17) (.t 21)⟩,
  ⟨some 0, none, .mv (.t 22)⟩])
 (.seq (.seq (.reg [⟨some 23, none, .mv (.t 0)⟩,
  ⟨some 24, none, .mv (.t 1)⟩,
  ⟨some 25, none, .bini .mul (.t 24) (.c (.int .i64 32))⟩,
  ⟨some 26, none, .slices (.t 23) (some (.t 25)) none⟩,
  ⟨some 27, none, .slices (.t 26) none (some (.c (.int .i64 32)))⟩,
  ⟨some 5, none, .mv (.t 27)⟩])
 (.seq (.reg [⟨some 28, none, .mv (.t 5)⟩,
  ⟨some 29, none, .call 86 [(.c (.int .i64 32))]⟩,
  ⟨some 30, none, .bins .neq (.t 28) (.t 29)⟩])
 (.cond (.t 30)
 (.seq (.reg [⟨some 31, none, .mv (.t 5)⟩,
  ⟨some 4, none, .mv (.t 31)⟩])
 .ret)
 .skip)))
 (.seq (.reg [⟨some 4, none, .mv (.c (.str []))⟩])
 .ret)))))
theorem d73 : FnD Try.prog 73 2 30 [.tmp 4] c73 := ⟨Try.f73, _, Try.func73, by kernel_rfl, rfl, rfl, by kernel_rfl, by kernel_rfl⟩

/-- palimp/palimpref11.Parts -/
def c74 : ACode :=
 (.seq (.reg [⟨some 2, none, .mv (.c (.emp))⟩,
  ⟨some 3, none, .mv (.c (.bool false))⟩])
 (.seq (.seq (.reg [⟨some 7, none, .mv (.t 0)⟩,
  ⟨some 8, none, .bins .eql (.t 7) (.c (.str []))⟩])
 (.cond (.t 8)
 (.seq (.reg [⟨some 2, none, .mv (.c (.emp))⟩,
  ⟨some 3, none, .mv (.c (.bool true))⟩])
 .ret)
 .skip))
 (.seq (.reg [⟨some 4, none, .mv (.c (.emp))⟩])
 (.seq (.reg [⟨some 5, none, .mv (.c (.int .i64 0))⟩])
 (.seq (.seq (.reg [⟨some 6, none, .mv (.c (.int .i64 0))⟩])
 (.block 0
 (.loop
 (.seq (.seq (.reg [⟨some 9, none, .mv (.t 6)⟩,
  ⟨some 10, none, .mv (.t 0)⟩,
  ⟨some 11, none, .len true (.t 10)⟩,
  ⟨some 12, none, .bini .leq (.t 9) (.t 11)⟩])
 (.cond (.t 12)
 .skip
 (.exit 0)))
 (.seq (.block 1
 (.seq (.seq (.reg [⟨some 15, none, .mv (.t 6)⟩,
  ⟨some 16, none, .mv (.t 0)⟩,
  ⟨some 17, none, .len true (.t 16)⟩,
  ⟨some 18, none, .bini .lss (.t 15) (.t 17)⟩,
  ⟨some 19, none, .mv (.t 18)⟩,
  ⟨some 20, (some (19, true)), .mv (.t 0)⟩,
  ⟨some 21, (some (19, true)), .mv (.t 6)⟩,
  ⟨some 22, (some (19, true)), .indexs (.t 20) (.t 21)⟩,
  ⟨some 23, (some (19, true)), .bini .neq (.t 22) (.c (.int .u8 47))⟩,
  ⟨some 24, none, .pick (.t 19) (.t 23) (.c (.bool false))⟩])
 (.cond (.t 24)
 (.exit 1)
 .skip))
 (.seq (.seq (.reg [⟨some 25, none, .mv (.t 0)⟩,
  ⟨some 26, none, .mv (.t 5)⟩,
  ⟨some 27, none, .mv (.t 6)⟩,
  ⟨some 28, none, .slices (.t 25) (some (.t 26)) (some (.t 27))⟩,
  ⟨some 29, none, .call 87 [(.t 28)]⟩,
  ⟨some 30, none, .un .not (.t 29)⟩,
  ⟨some 31, none, .mv (.t 30)⟩,
  ⟨some 32, (some (31, false)), .mv (.t 4)⟩,
  ⟨some 33, (some (31, false)), .len false (.t 32)⟩,
  ⟨some 34, (some (31, false)), .bini .geq (.t 33) (.c (.int .i64 7))⟩,
  ⟨some 35, none, .pick (.t 31) (.c (.bool true)) (.t 34)⟩])
 (.cond (.t 35)
 (.seq (.reg [⟨some 2, none, .mv (.c (.emp))⟩,
  ⟨some 3, none, .mv (.c (.bool false))⟩])
 .ret)
 .skip))
 (.seq (.reg [⟨some 36, none, .mv (.t 4)⟩,
  ⟨some 37, none, .mv (.t 0)⟩,
  ⟨some 38, none, .mv (.t 5)⟩,
  ⟨some 39, none, .mv (.t 6)⟩,
  ⟨some 40, none, .slices (.t 37) (some (.t 38)) (some (.t 39))⟩,
  ⟨some 41, none, .bslice 1 1 [.str []] [(0, (.t 40))]⟩,
  ⟨some 42, none, .append 1 16 [.str []] (.t 36) (.t 41)⟩,
  ⟨some 4, none, .mv (.t 42)⟩])
 (.reg [⟨some 43, none, .mv (.t 6)⟩,
  ⟨some 44, none, .bini .add (.t 43) (.c (.int .i64 1))⟩,
  ⟨some 5, none, .mv (.t 44)⟩])))))
 (.reg [⟨some 13, none, .mv (.t 6)⟩,
  ⟨some 14, none, .bini .add (.t 13) (.c (.int .i64 1))⟩,
  ⟨some 6, none, .mv (.t 14)⟩]))))))
 (.seq (.reg [⟨some 45, none, .mv (.t 4)⟩,
  ⟨some 2, none, .mv (.t 45)⟩,
  ⟨some 3, none, .mv (.c (.bool true))⟩])
 .ret))))))
theorem d74 : FnD Try.prog 74 1 45 [.tmp 2, .tmp 3] c74 := ⟨Try.f74, _, Try.func74, by kernel_rfl, rfl, rfl, by kernel_rfl, by kernel_rfl⟩

end Go.Proofs.Ytemjlopoffjmpaa.Abs
