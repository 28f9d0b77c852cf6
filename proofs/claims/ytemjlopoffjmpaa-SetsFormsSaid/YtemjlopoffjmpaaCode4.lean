/-
  The code of some functions in the abstract layer's form, each checked against the program's own. Written by gen.py.
-/
import Derived.Test.YtemjlopoffjmpaaAbs22
import Derived.Test.YtemjlopoffjmpaaProg
import Derived.KernelRfl
namespace Go.Proofs.Ytemjlopoffjmpaa.Abs
open Go

/-- palimp/palimpref11.long -/
def c51 : ACode :=
 (.seq (.reg [⟨some 4, none, .mv (.c (.str []))⟩])
 (.seq (.reg [⟨some 6, none, .mv (.t 1)⟩,
  ⟨some 7, none, .mksl 1 1 [.int .u8 0] (.t 6) (.t 6)⟩,
  ⟨some 5, none, .mv (.t 7)⟩])
 (.seq (.reg [⟨some 8, none, .mv (.t 5)⟩,
  ⟨some 9, none, .mv (.t 0)⟩,
  ⟨some 10, none, .copy 1 (.t 8) (.t 9)⟩])
 (.seq (.reg [⟨some 11, none, .mv (.t 5)⟩,
  ⟨some 12, none, .convbs (.t 11)⟩,
  ⟨some 4, none, .mv (.t 12)⟩])
 .ret))))
theorem d51 : FnD Try.prog 51 2 11 [.tmp 4] c51 := ⟨Try.f51, _, Try.func51, by kernel_rfl, rfl, rfl, by kernel_rfl, by kernel_rfl⟩

/-- (palimp/acct.set).worst -/
def c52 : ACode :=
 (.seq (.reg [⟨some 1, none, .box (.t 0)⟩,
  ⟨some 2, none, .mv (.c (.int .i64 0))⟩])
 (.seq (.reg [⟨some 6, none, .faddr 0 (.t 1)⟩,
  ⟨some 7, none, .faddr 4 (.t 6)⟩,
  ⟨some 8, none, .load false 1 (.t 7)⟩,
  ⟨some 9, none, .call 14 [(.t 8)]⟩,
  ⟨some 10, none, .bini .add (.c (.int .i64 1)) (.t 9)⟩,
  ⟨some 3, none, .mv (.t 10)⟩])
 (.seq (.seq (.reg [⟨some 11, none, .faddr 0 (.t 1)⟩,
  ⟨some 12, none, .faddr 4 (.t 11)⟩,
  ⟨some 13, none, .load false 1 (.t 12)⟩,
  ⟨some 14, none, .len false (.t 13)⟩,
  ⟨some 15, none, .mv (.c (.int .i64 0))⟩])
 (.block 0
 (.loop
 (.seq (.reg [⟨some 16, none, .bini .lss (.t 15) (.t 14)⟩])
 (.seq (.cond (.t 16)
 .skip
 (.exit 0))
 (.seq (.block 1
 (.seq (.reg [⟨some 17, none, .iaddr 5 (.t 13) (.t 15)⟩,
  ⟨some 18, none, .load true 5 (.t 17)⟩,
  ⟨some 5, none, .alloc [.int .i64 0, .int .i64 0, .str [], .str [], .int .i64 0]⟩,
  ⟨none, none, .store 5 (.t 5) (.t 18)⟩])
 (.seq (.reg [⟨some 19, none, .faddr 0 (.t 5)⟩,
  ⟨some 20, none, .load false 1 (.t 19)⟩,
  ⟨some 21, none, .bini .neq (.t 20) (.c (.int .i64 0))⟩])
 (.cond (.t 21)
 (.reg [⟨some 22, none, .mv (.t 3)⟩,
  ⟨some 23, none, .bini .add (.t 22) (.c (.int .i64 1))⟩,
  ⟨some 3, none, .mv (.t 23)⟩])
 .skip))))
 (.reg [⟨some 24, none, .bini .add (.t 15) (.c (.int .i64 1))⟩,
  ⟨some 15, none, .mv (.t 24)⟩])))))))
 (.seq (.reg [⟨some 25, none, .mv (.t 3)⟩,
  ⟨some 2, none, .mv (.t 25)⟩])
 .ret))))
theorem d52 : FnD Try.prog 52 1 25 [.tmp 2] c52 := ⟨Try.f52, _, Try.func52, by kernel_rfl, rfl, rfl, by kernel_rfl, by kernel_rfl⟩

/-- palimp/palimpref11.Part -/
def c53 : ACode :=
 (.seq (.reg [⟨some 4, none, .mv (.c (.str []))⟩])
 (.seq (.seq (.reg [⟨some 6, none, .mv (.t 1)⟩,
  ⟨some 7, none, .bini .lss (.t 6) (.c (.int .i64 0))⟩,
  ⟨some 8, none, .mv (.t 7)⟩,
  ⟨some 9, (some (8, false)), .mv (.t 1)⟩,
  ⟨some 10, (some (8, false)), .bini .geq (.t 9) (.c (.int .i64 4))⟩,
  ⟨some 11, none, .pick (.t 8) (.c (.bool true)) (.t 10)⟩,
  ⟨some 12, none, .mv (.t 11)⟩,
  ⟨some 13, (some (12, false)), .mv (.t 0)⟩,
  ⟨some 14, (some (12, false)), .len true (.t 13)⟩,
  ⟨some 15, (some (12, false)), .bini .gtr (.t 14) (.c (.int .i64 128))⟩,
  ⟨some 16, none, .pick (.t 12) (.c (.bool true)) (.t 15)⟩])
 (.cond (.t 16)
 (.seq (.reg [⟨some 4, none, .mv (.c (.str []))⟩])
 .ret)
 .skip))
 (.seq (.reg [⟨some 17, none, .mv (.t 0)⟩,
  ⟨some 18, none, .call 51 [(.t 17), (.c (.int .i64 128))]⟩,
  ⟨some 19, none, .mv (.t 1)⟩,
  ⟨some 20, none, .bini .mul (.t 19) (.c (.int .i64 32))⟩,
  ⟨some 21, none, .mv (.t 1)⟩,
  ⟨some 22, none, .bini .add (.t 21) (.c (.int .i64 1))⟩,
  ⟨some 23, none, .bini .mul (.t 22) (.c (.int .i64 32))⟩,
  ⟨some 24, none, .slices (.t 18) (some (.t 20)) (some (.t 23))⟩,
  ⟨some 5, none, .mv (.t 24)⟩])
 (.seq (.seq (.reg [⟨some 25, none, .mv (.t 5)⟩,
  ⟨some 26, none, .mksl 1 1 [.int .u8 0] (.c (.int .i64 32)) (.c (.int .i64 32))⟩,
  ⟨some 27, none, .convbs (.t 26)⟩,
  ⟨some 28, none, .bins .eql (.t 25) (.t 27)⟩])
 (.cond (.t 28)
 (.seq (.reg [⟨some 4, none, .mv (.c (.str []))⟩])
 .ret)
 .skip))
 (.seq (.reg [⟨some 29, none, .mv (.t 5)⟩,
  ⟨some 4, none, .mv (.t 29)⟩])
 .ret)))))
theorem d53 : FnD Try.prog 53 2 28 [.tmp 4] c53 := ⟨Try.f53, _, Try.func53, by kernel_rfl, rfl, rfl, by kernel_rfl, by kernel_rfl⟩

/-- palimp/palimpref11.there -/
def c54 : ACode :=
 (.seq (.reg [⟨some 4, none, .mv (.c (.bool false))⟩])
 (.seq (.reg [⟨some 5, none, .mv (.t 1)⟩,
  ⟨some 6, none, .bini .geq (.t 5) (.c (.int .i64 0))⟩,
  ⟨some 7, none, .mv (.t 6)⟩,
  ⟨some 8, (some (7, true)), .mv (.t 1)⟩,
  ⟨some 9, (some (7, true)), .mv (.t 0)⟩,
  ⟨some 10, (some (7, true)), .len false (.t 9)⟩,
  ⟨some 11, (some (7, true)), .bini .lss (.t 8) (.t 10)⟩,
  ⟨some 12, none, .pick (.t 7) (.t 11) (.c (.bool false))⟩,
  ⟨some 13, none, .mv (.t 12)⟩,
  ⟨some 14, (some (13, true)), .mv (.t 0)⟩,
  ⟨some 15, (some (13, true)), .mv (.t 1)⟩,
  ⟨some 16, (some (13, true)), .iaddr 5 (.t 14) (.t 15)⟩,
  ⟨some 17, (some (13, true)), .faddr 0 (.t 16)⟩,
  ⟨some 18, (some (13, true)), .load false 1 (.t 17)⟩,
  ⟨some 19, (some (13, true)), .bini .neq (.t 18) (.c (.int .i64 0))⟩,
  ⟨some 20, none, .pick (.t 13) (.t 19) (.c (.bool false))⟩,
  ⟨some 4, none, .mv (.t 20)⟩])
 .ret))
theorem d54 : FnD Try.prog 54 2 19 [.tmp 4] c54 := ⟨Try.f54, _, Try.func54, by kernel_rfl, rfl, rfl, by kernel_rfl, by kernel_rfl⟩

/-- palimp/palimpref11.Join -/
def c55 : ACode :=
 (.seq (.reg [⟨some 2, none, .mv (.c (.str []))⟩])
 (.seq (.reg [⟨some 3, none, .mv (.t 0)⟩,
  ⟨some 4, none, .call 76 [(.t 3), (.c (.str [47]))]⟩,
  ⟨some 2, none, .mv (.t 4)⟩])
 .ret))
theorem d55 : FnD Try.prog 55 1 4 [.tmp 2] c55 := ⟨Try.f55, _, Try.func55, by kernel_rfl, rfl, rfl, by kernel_rfl, by kernel_rfl⟩

/-- palimp/palimpref11.Find -/
def c56 : ACode :=
 (.seq (.reg [⟨some 4, none, .mv (.c (.int .i64 0))⟩,
  ⟨some 5, none, .mv (.c (.int .i64 0))⟩])
 (.seq (.reg [⟨some 9, none, .mv (.t 1)⟩,
  ⟨some 10, none, .call 74 [(.t 9)]⟩,
  ⟨some 8, none, .mv (.t 10)⟩,
  ⟨some 11, none, .ext (.t 8) 0⟩,
  ⟨some 12, none, .ext (.t 8) 1⟩,
  ⟨some 6, none, .mv (.t 11)⟩,
  ⟨some 7, none, .mv (.t 12)⟩])
 (.seq (.seq (.reg [⟨some 13, none, .mv (.t 7)⟩,
  ⟨some 14, none, .un .not (.t 13)⟩])
 (.cond (.t 14)
 (.seq (.reg [⟨some 4, none, .mv (.c (.int .i64 0))⟩,
  ⟨some 5, none, .mv (.c (.int .i64 1))⟩])
 .ret)
 .skip))
 (.seq (.reg [⟨some 15, none, .mv (.t 0)⟩,
  ⟨some 16, none, .mv (.t 6)⟩,
  ⟨some 17, none, .call 75 [(.t 15), (.t 16)]⟩,
  ⟨some 18, none, .ext (.t 17) 0⟩,
  ⟨some 19, none, .ext (.t 17) 1⟩,
  ⟨some 4, none, .mv (.t 18)⟩,
  ⟨some 5, none, .mv (.t 19)⟩])
 .ret))))
theorem d56 : FnD Try.prog 56 2 18 [.tmp 4, .tmp 5] c56 := ⟨Try.f56, _, Try.func56, by kernel_rfl, rfl, rfl, by kernel_rfl, by kernel_rfl⟩

/-- palimp/dset.May -/
def c57 : ACode :=
 (.seq (.reg [⟨some 2, none, .mv (.c (.bool false))⟩])
 (.seq (.reg [⟨some 3, none, .mv (.c (.int .i64 0))⟩])
 (.seq (.seq (.reg [⟨some 6, none, .mv (.t 0)⟩,
  ⟨some 7, none, .len false (.t 6)⟩,
  ⟨some 8, none, .mv (.c (.int .i64 0))⟩])
 (.block 0
 (.loop
 (.seq (.reg [⟨some 9, none, .bini .lss (.t 8) (.t 7)⟩])
 (.seq (.cond (.t 9)
 .skip
 (.exit 0))
 (.seq (.block 1
 (.seq (.reg [⟨some 10, none, .iaddr 5 (.t 6) (.t 8)⟩,
  ⟨some 11, none, .load true 5 (.t 10)⟩,
  ⟨some 5, none, .alloc [.int .i64 0, .int .i64 0, .int .i64 0, .int .i64 0, .emp]⟩,
  ⟨none, none, .store 5 (.t 5) (.t 11)⟩])
 (.seq (.seq (.reg [⟨some 12, none, .faddr 0 (.t 5)⟩,
  ⟨some 13, none, .load false 1 (.t 12)⟩,
  ⟨some 14, none, .mv (.t 3)⟩,
  ⟨some 15, none, .bini .leq (.t 13) (.t 14)⟩,
  ⟨some 16, none, .mv (.t 15)⟩,
  ⟨some 17, (some (16, false)), .load true 5 (.t 5)⟩,
  ⟨some 18, (some (16, false)), .mv (.t 0)⟩,
  ⟨some 19, (some (16, false)), .build [.int .i64 0, .int .i64 0, .int .i64 0, .int .i64 0, .emp, .emp] [(0, 5, (.t 17)), (5, 1, (.t 18))]⟩,
  ⟨some 20, (some (16, false)), .call 77 [(.t 19)]⟩,
  ⟨some 21, (some (16, false)), .un .not (.t 20)⟩,
  ⟨some 22, none, .pick (.t 16) (.c (.bool true)) (.t 21)⟩])
 (.cond (.t 22)
 (.seq (.reg [⟨some 2, none, .mv (.c (.bool false))⟩])
 .ret)
 .skip))
 (.reg [⟨some 23, none, .faddr 0 (.t 5)⟩,
  ⟨some 24, none, .load false 1 (.t 23)⟩,
  ⟨some 3, none, .mv (.t 24)⟩]))))
 (.reg [⟨some 25, none, .bini .add (.t 8) (.c (.int .i64 1))⟩,
  ⟨some 8, none, .mv (.t 25)⟩])))))))
 (.seq (.reg [⟨some 26, none, .mv (.t 0)⟩,
  ⟨some 27, none, .len false (.t 26)⟩,
  ⟨some 28, none, .bini .leq (.t 27) (.c (.int .i64 8))⟩,
  ⟨some 2, none, .mv (.t 28)⟩])
 .ret))))
theorem d57 : FnD Try.prog 57 1 28 [.tmp 2] c57 := ⟨Try.f57, _, Try.func57, by kernel_rfl, rfl, rfl, by kernel_rfl, by kernel_rfl⟩

/-- palimp/dset.Same -/
def c58 : ACode :=
 (.seq (.reg [⟨some 4, none, .mv (.c (.bool false))⟩])
 (.seq (.reg [⟨some 5, none, .mv (.t 0)⟩,
  ⟨some 6, none, .mv (.t 1)⟩,
  ⟨some 7, none, .call 78 [(.t 5), (.t 6), (.c (.fn (.func 79) [] []))]⟩,
  ⟨some 4, none, .mv (.t 7)⟩])
 .ret))
theorem d58 : FnD Try.prog 58 2 6 [.tmp 4] c58 := ⟨Try.f58, _, Try.func58, by kernel_rfl, rfl, rfl, by kernel_rfl, by kernel_rfl⟩

/-- palimp/dset.twin -/
def c59 : ACode :=
 (.seq (.reg [⟨some 2, none, .mv (.c (.emp))⟩])
 (.seq (.reg [⟨some 4, none, .mv (.t 0)⟩,
  ⟨some 5, none, .call 40 [(.t 4)]⟩,
  ⟨some 0, none, .mv (.t 5)⟩])
 (.seq (.seq (.reg [⟨some 6, none, .mv (.t 0)⟩,
  ⟨some 7, none, .len false (.t 6)⟩,
  ⟨some 8, none, .mv (.c (.int .i64 0))⟩])
 (.block 0
 (.loop
 (.seq (.reg [⟨some 9, none, .bini .lss (.t 8) (.t 7)⟩])
 (.seq (.cond (.t 9)
 .skip
 (.exit 0))
 (.seq (.block 1
 (.seq (.reg [⟨some 10, none, .mv (.t 8)⟩,
  ⟨some 3, none, .mv (.t 10)⟩])
 (.reg [⟨some 11, none, .mv (.t 0)⟩,
  ⟨some 12, none, .mv (.t 3)⟩,
  ⟨some 13, none, .mv (.t 0)⟩,
  ⟨some 14, none, .mv (.t 3)⟩,
  ⟨some 15, none, .iaddr 5 (.t 13) (.t 14)⟩,
  ⟨some 16, none, .faddr 4 (.t 15)⟩,
  ⟨some 17, none, .load false 1 (.t 16)⟩,
  ⟨some 18, none, .call 41 [(.t 17)]⟩,
  ⟨some 19, none, .iaddr 5 (.t 11) (.t 12)⟩,
  ⟨some 20, none, .faddr 4 (.t 19)⟩,
  ⟨none, none, .store 1 (.t 20) (.t 18)⟩])))
 (.reg [⟨some 21, none, .bini .add (.t 8) (.c (.int .i64 1))⟩,
  ⟨some 8, none, .mv (.t 21)⟩])))))))
 (.seq (.reg [⟨some 22, none, .mv (.t 0)⟩,
  ⟨some 2, none, .mv (.t 22)⟩])
 .ret))))
theorem d59 : FnD Try.prog 59 1 22 [.tmp 2] c59 := ⟨Try.f59, _, Try.func59, by kernel_rfl, rfl, rfl, by kernel_rfl, by kernel_rfl⟩

/-- palimp/dset.add -/
def c60 : ACode :=
 (.seq (.reg [⟨some 5, none, .box (.t 2)⟩,
  ⟨some 6, none, .mv (.c (.emp))⟩,
  ⟨some 7, none, .mv (.c (.int .i64 0))⟩])
 (.seq (.reg [⟨some 9, none, .mv (.t 0)⟩,
  ⟨some 10, none, .len false (.t 9)⟩,
  ⟨some 8, none, .mv (.t 10)⟩])
 (.seq (.seq (.reg [⟨some 11, none, .mv (.t 8)⟩,
  ⟨some 12, none, .bini .geq (.t 11) (.c (.int .i64 8))⟩,
  ⟨some 13, none, .mv (.t 12)⟩,
  ⟨some 14, (some (13, false)), .mv (.t 1)⟩,
  ⟨some 15, (some (13, false)), .bini .lss (.t 14) (.c (.int .i64 1))⟩,
  ⟨some 16, none, .pick (.t 13) (.c (.bool true)) (.t 15)⟩,
  ⟨some 17, none, .mv (.t 16)⟩,
  ⟨some 18, (some (17, false)), .mv (.t 1)⟩,
  ⟨some 19, (some (17, false)), .bini .gtr (.t 18) (.c (.int .i64 65535))⟩,
  ⟨some 20, none, .pick (.t 17) (.c (.bool true)) (.t 19)⟩,
  ⟨some 21, none, .mv (.t 20)⟩,
  ⟨some 22, (some (21, false)), .mv (.t 8)⟩,
  ⟨some 23, (some (21, false)), .bini .gtr (.t 22) (.c (.int .i64 0))⟩,
  ⟨some 24, (some (21, false)), .mv (.t 23)⟩,
  ⟨some 25, (some (24, true)), .mv (.t 1)⟩,
  ⟨some 26, (some (24, true)), .mv (.t 0)⟩,
  ⟨some 27, (some (24, true)), .mv (.t 8)⟩,
  ⟨some 28, (some (24, true)), .bini .sub (.t 27) (.c (.int .i64 1))⟩,
  ⟨some 29, (some (24, true)), .iaddr 5 (.t 26) (.t 28)⟩,
  ⟨some 30, (some (24, true)), .faddr 0 (.t 29)⟩,
  ⟨some 31, (some (24, true)), .load false 1 (.t 30)⟩,
  ⟨some 32, (some (24, true)), .bini .leq (.t 25) (.t 31)⟩,
  ⟨some 33, (some (21, false)), .pick (.t 24) (.t 32) (.c (.bool false))⟩,
  ⟨some 34, none, .pick (.t 21) (.c (.bool true)) (.t 33)⟩])
 (.cond (.t 34)
 (.seq (.reg [⟨some 35, none, .mv (.t 0)⟩,
  ⟨some 36, none, .call 59 [(.t 35)]⟩,
  ⟨some 6, none, .mv (.t 36)⟩,
  ⟨some 7, none, .mv (.c (.int .i64 8))⟩])
 .ret)
 .skip))
 (.seq (.reg [⟨some 37, none, .mv (.t 1)⟩,
  ⟨some 38, none, .faddr 0 (.t 5)⟩,
  ⟨none, none, .store 1 (.t 38) (.t 37)⟩])
 (.seq (.dregE [[⟨some 39, none, .mv (.t 0)⟩,
  ⟨some 40, none, .call 40 [(.t 39)]⟩,
  ⟨some 41, none, .load true 5 (.t 5)⟩,
  ⟨some 42, none, .bslice 5 1 [.int .i64 0, .int .i64 0, .int .i64 0, .int .i64 0, .emp] [(0, (.t 41))]⟩],
  [⟨some 43, none, .append 5 56 [.int .i64 0, .int .i64 0, .int .i64 0, .int .i64 0, .emp] (.t 40) (.t 42)⟩],
  [⟨some 44, none, .call 59 [(.t 43)]⟩],
  [⟨some 6, none, .mv (.t 44)⟩],
  [⟨some 7, none, .mv (.c (.int .i64 0))⟩]]
  [[], [0], [], [2], [0, 1, 2, 3], [0, 1, 2, 3, 4], [0, 1, 2, 3, 4, 5], [0, 1, 2, 3, 4, 5, 6]])
 .ret)))))
theorem d60 : FnD Try.prog 60 3 42 [.tmp 6, .tmp 7] c60 := ⟨Try.f60, _, Try.func60, by kernel_rfl, rfl, rfl, by kernel_rfl, by kernel_rfl⟩

/-- palimp/node.New -/
def c61 : ACode :=
 (.seq (.reg [⟨some 0, none, .mv (.c (.emp))⟩])
 (.seq (.reg [⟨some 2, none, .mksl 5 56 [.int .i64 0, .int .i64 0, .str [], .str [], .int .i64 0] (.c (.int .i64 8)) (.c (.int .i64 8))⟩,
  ⟨some 1, none, .mv (.t 2)⟩])
 (.seq (.reg [⟨some 3, none, .mv (.t 1)⟩,
  ⟨some 4, none, .iaddr 5 (.t 3) (.c (.int .i64 0))⟩,
  ⟨some 5, none, .faddr 0 (.t 4)⟩,
  ⟨none, none, .store 1 (.t 5) (.c (.int .i64 2))⟩])
 (.seq (.reg [⟨some 6, none, .mv (.t 1)⟩,
  ⟨some 0, none, .mv (.t 6)⟩])
 .ret))))
theorem d61 : FnD Try.prog 61 0 7 [.tmp 0] c61 := ⟨Try.f61, _, Try.func61, by kernel_rfl, rfl, rfl, by kernel_rfl, by kernel_rfl⟩

/-- (palimp/dset.family).find -/
def c62 : ACode :=
 (.seq (.reg [⟨some 3, none, .box (.t 1)⟩,
  ⟨some 4, none, .mv (.c (.int .i64 0))⟩])
 (.seq (.reg [⟨some 5, none, .mv (.t 0)⟩,
  ⟨some 6, none, .mkfn (.func 82) [] [(.t 3)]⟩,
  ⟨some 7, none, .call 81 [(.t 5), (.t 6)]⟩,
  ⟨some 4, none, .mv (.t 7)⟩])
 .ret))
theorem d62 : FnD Try.prog 62 2 6 [.tmp 4] c62 := ⟨Try.f62, _, Try.func62, by kernel_rfl, rfl, rfl, by kernel_rfl, by kernel_rfl⟩

end Go.Proofs.Ytemjlopoffjmpaa.Abs
