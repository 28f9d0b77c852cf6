/-
  The code of some functions in the abstract layer's form, each checked against the program's own. Written by gen.py.
-/
import Derived.Test.YtemjlopoffjmpaaAbs22
import Derived.Test.YtemjlopoffjmpaaProg
import Derived.KernelRfl
namespace Go.Proofs.Ytemjlopoffjmpaa.Abs
open Go

/-- (*strings.Builder).grow -/
def c99 : ACode :=
 (.seq (.dregE [[⟨some 5, none, .mv (.t 0)⟩,
  ⟨some 6, none, .nilchk (.t 5)⟩,
  ⟨some 7, none, .faddr 1 (.t 6)⟩,
  ⟨some 8, none, .load false 1 (.t 7)⟩,
  ⟨some 9, none, .bad⟩,
  ⟨some 10, none, .bini .mul (.c (.int .i64 2)) (.t 9)⟩,
  ⟨some 11, none, .mv (.t 1)⟩,
  ⟨some 12, none, .bini .add (.t 10) (.t 11)⟩,
  ⟨some 13, none, .call 105 [(.t 12)]⟩,
  ⟨some 14, none, .mv (.t 0)⟩,
  ⟨some 15, none, .nilchk (.t 14)⟩,
  ⟨some 16, none, .faddr 1 (.t 15)⟩,
  ⟨some 17, none, .load false 1 (.t 16)⟩,
  ⟨some 18, none, .len false (.t 17)⟩],
  [⟨some 19, none, .slicel 1 (.t 13) none (some (.t 18))⟩],
  [⟨some 4, none, .mv (.t 19)⟩]]
  [[], [0], [0, 1], [0, 1, 2], [0, 1, 2, 3], [0, 1, 2, 3, 4], [], [0, 1, 2, 3, 4, 5, 6], [0, 1, 2, 3, 4, 5, 6, 7], [], [9], [9, 10], [9, 10, 11], [9, 10, 11, 12], [0, 1, 2, 3, 4, 5, 6, 7, 8, 9, 10, 11, 12, 13], [0, 1, 2, 3, 4, 5, 6, 7, 8, 9, 10, 11, 12, 13, 14]])
 (.seq (.reg [⟨some 20, none, .mv (.t 4)⟩,
  ⟨some 21, none, .mv (.t 0)⟩,
  ⟨some 22, none, .nilchk (.t 21)⟩,
  ⟨some 23, none, .faddr 1 (.t 22)⟩,
  ⟨some 24, none, .load false 1 (.t 23)⟩,
  ⟨some 25, none, .copy 1 (.t 20) (.t 24)⟩])
 (.reg [⟨some 26, none, .mv (.t 0)⟩,
  ⟨some 27, none, .mv (.t 4)⟩,
  ⟨some 28, none, .nilchk (.t 26)⟩,
  ⟨some 29, none, .faddr 1 (.t 28)⟩,
  ⟨none, none, .store 1 (.t 29) (.t 27)⟩])))
-- not all of it is covered: builtin cap

/-- (palimp/node.row).may -/
def c100 : ACode :=
 (.seq (.reg [⟨some 1, none, .box (.t 0)⟩,
  ⟨some 2, none, .mv (.c (.bool false))⟩])
 (.seq (.seq (.reg [⟨some 7, none, .faddr 0 (.t 1)⟩,
  ⟨some 8, none, .load false 1 (.t 7)⟩,
  ⟨some 9, none, .len false (.t 8)⟩,
  ⟨some 10, none, .bini .neq (.t 9) (.c (.int .i64 8))⟩,
  ⟨some 11, none, .mv (.t 10)⟩,
  ⟨some 12, (some (11, false)), .faddr 0 (.t 1)⟩,
  ⟨some 13, (some (11, false)), .load false 1 (.t 12)⟩,
  ⟨some 14, (some (11, false)), .iaddr 5 (.t 13) (.c (.int .i64 0))⟩,
  ⟨some 15, (some (11, false)), .load true 5 (.t 14)⟩,
  ⟨some 16, (some (11, false)), .build [.int .i64 0, .int .i64 0, .str [], .str [], .int .i64 0] [(0, 1, (.c (.int .i64 2)))]⟩,
  ⟨some 17, (some (11, false)), .eqs true [.i, .i, .s, .s, .i] (.t 15) (.t 16)⟩,
  ⟨some 18, none, .pick (.t 11) (.c (.bool true)) (.t 17)⟩])
 (.cond (.t 18)
 (.seq (.reg [⟨some 2, none, .mv (.c (.bool false))⟩])
 .ret)
 .skip))
 (.seq (.seq (.reg [⟨some 19, none, .faddr 0 (.t 1)⟩,
  ⟨some 20, none, .load false 1 (.t 19)⟩,
  ⟨some 21, none, .slicel 5 (.t 20) (some (.c (.int .i64 1))) none⟩,
  ⟨some 22, none, .len false (.t 21)⟩,
  ⟨some 23, none, .mv (.c (.int .i64 0))⟩])
 (.block 0
 (.loop
 (.seq (.reg [⟨some 24, none, .bini .lss (.t 23) (.t 22)⟩])
 (.seq (.cond (.t 24)
 .skip
 (.exit 0))
 (.seq (.block 1
 (.seq (.reg [⟨some 25, none, .iaddr 5 (.t 21) (.t 23)⟩,
  ⟨some 26, none, .load true 5 (.t 25)⟩,
  ⟨some 4, none, .alloc [.int .i64 0, .int .i64 0, .str [], .str [], .int .i64 0]⟩,
  ⟨none, none, .store 5 (.t 4) (.t 26)⟩])
 (.seq (.reg [⟨some 27, none, .load true 5 (.t 4)⟩,
  ⟨some 28, none, .build [.int .i64 0, .int .i64 0, .str [], .str [], .int .i64 0] []⟩,
  ⟨some 29, none, .eqs true [.i, .i, .s, .s, .i] (.t 27) (.t 28)⟩,
  ⟨some 30, none, .mv (.t 29)⟩,
  ⟨some 31, (some (30, true)), .load true 1 (.t 1)⟩,
  ⟨some 32, (some (30, true)), .load true 5 (.t 4)⟩,
  ⟨some 33, (some (30, true)), .call 106 [(.t 31), (.t 32)]⟩,
  ⟨some 34, (some (30, true)), .un .not (.t 33)⟩,
  ⟨some 35, none, .pick (.t 30) (.t 34) (.c (.bool false))⟩])
 (.cond (.t 35)
 (.seq (.reg [⟨some 2, none, .mv (.c (.bool false))⟩])
 .ret)
 .skip))))
 (.reg [⟨some 36, none, .bini .add (.t 23) (.c (.int .i64 1))⟩,
  ⟨some 23, none, .mv (.t 36)⟩])))))))
 (.seq (.seq (.reg [⟨some 37, none, .faddr 0 (.t 1)⟩,
  ⟨some 38, none, .load false 1 (.t 37)⟩,
  ⟨some 39, none, .len false (.t 38)⟩,
  ⟨some 40, none, .mv (.c (.int .i64 0))⟩])
 (.block 2
 (.loop
 (.seq (.reg [⟨some 41, none, .bini .lss (.t 40) (.t 39)⟩])
 (.seq (.cond (.t 41)
 .skip
 (.exit 2))
 (.seq (.block 3
 (.seq (.reg [⟨some 42, none, .mv (.t 40)⟩,
  ⟨some 43, none, .iaddr 5 (.t 38) (.t 40)⟩,
  ⟨some 44, none, .load true 5 (.t 43)⟩,
  ⟨some 6, none, .alloc [.int .i64 0, .int .i64 0, .str [], .str [], .int .i64 0]⟩,
  ⟨some 5, none, .mv (.t 42)⟩,
  ⟨none, none, .store 5 (.t 6) (.t 44)⟩])
 (.seq (.reg [⟨some 45, none, .mv (.t 5)⟩,
  ⟨some 46, none, .bini .gtr (.t 45) (.c (.int .i64 0))⟩,
  ⟨some 47, none, .mv (.t 46)⟩,
  ⟨some 48, (some (47, true)), .faddr 0 (.t 6)⟩,
  ⟨some 49, (some (47, true)), .load false 1 (.t 48)⟩,
  ⟨some 50, (some (47, true)), .bini .neq (.t 49) (.c (.int .i64 0))⟩,
  ⟨some 51, none, .pick (.t 47) (.t 50) (.c (.bool false))⟩,
  ⟨some 52, none, .mv (.t 51)⟩,
  ⟨some 53, (some (52, true)), .load true 1 (.t 1)⟩,
  ⟨some 54, (some (52, true)), .mv (.t 5)⟩,
  ⟨some 55, (some (52, true)), .call 107 [(.t 53), (.t 54)]⟩,
  ⟨some 56, (some (52, true)), .un .not (.t 55)⟩,
  ⟨some 57, (some (52, true)), .mv (.t 56)⟩,
  ⟨some 58, (some (57, false)), .load true 1 (.t 1)⟩,
  ⟨some 59, (some (57, false)), .mv (.t 5)⟩,
  ⟨some 60, (some (57, false)), .call 108 [(.t 58), (.t 59)]⟩,
  ⟨some 61, (some (52, true)), .pick (.t 57) (.c (.bool true)) (.t 60)⟩,
  ⟨some 62, none, .pick (.t 52) (.t 61) (.c (.bool false))⟩])
 (.cond (.t 62)
 (.seq (.reg [⟨some 2, none, .mv (.c (.bool false))⟩])
 .ret)
 .skip))))
 (.reg [⟨some 63, none, .bini .add (.t 40) (.c (.int .i64 1))⟩,
  ⟨some 40, none, .mv (.t 63)⟩])))))))
 (.seq (.reg [⟨some 2, none, .mv (.c (.bool true))⟩])
 .ret)))))
theorem d100 : FnD Try.prog 100 1 63 [.tmp 2] c100 := ⟨Try.f100, _, Try.func100, by kernel_rfl, rfl, rfl, by kernel_rfl, by kernel_rfl⟩

/-- math/bits.Mul -/
def c101 : ACode :=
 (.seq (.reg [⟨some 4, none, .mv (.c (.int .u64 0))⟩,
  ⟨some 5, none, .mv (.c (.int .u64 0))⟩])
 (.seq (.cond (.c (.bool false))
 (.seq (.reg [⟨some 11, none, .mv (.t 0)⟩,
  ⟨some 12, none, .convi .u32 (.t 11)⟩,
  ⟨some 13, none, .mv (.t 1)⟩,
  ⟨some 14, none, .convi .u32 (.t 13)⟩,
  ⟨some 15, none, .call 109 [(.t 12), (.t 14)]⟩,
  ⟨some 10, none, .mv (.t 15)⟩,
  ⟨some 16, none, .ext (.t 10) 0⟩,
  ⟨some 17, none, .ext (.t 10) 1⟩,
  ⟨some 6, none, .mv (.t 16)⟩,
  ⟨some 7, none, .mv (.t 17)⟩])
 (.seq (.reg [⟨some 18, none, .mv (.t 6)⟩,
  ⟨some 19, none, .convi .u64 (.t 18)⟩,
  ⟨some 20, none, .mv (.t 7)⟩,
  ⟨some 21, none, .convi .u64 (.t 20)⟩,
  ⟨some 4, none, .mv (.t 19)⟩,
  ⟨some 5, none, .mv (.t 21)⟩])
 .ret))
 .skip)
 (.seq (.reg [⟨some 23, none, .mv (.t 0)⟩,
  ⟨some 24, none, .mv (.t 1)⟩,
  ⟨some 25, none, .call 110 [(.t 23), (.t 24)]⟩,
  ⟨some 22, none, .mv (.t 25)⟩,
  ⟨some 26, none, .ext (.t 22) 0⟩,
  ⟨some 27, none, .ext (.t 22) 1⟩,
  ⟨some 8, none, .mv (.t 26)⟩,
  ⟨some 9, none, .mv (.t 27)⟩])
 (.seq (.reg [⟨some 28, none, .mv (.t 8)⟩,
  ⟨some 29, none, .mv (.t 9)⟩,
  ⟨some 4, none, .mv (.t 28)⟩,
  ⟨some 5, none, .mv (.t 29)⟩])
 .ret))))
theorem d101 : FnD Try.prog 101 2 28 [.tmp 4, .tmp 5] c101 := ⟨Try.f101, _, Try.func101, by kernel_rfl, rfl, rfl, by kernel_rfl, by kernel_rfl⟩

/-- strings.HasPrefix -/
def c102 : ACode :=
 (.seq (.reg [⟨some 4, none, .mv (.c (.bool false))⟩])
 (.seq (.reg [⟨some 5, none, .mv (.t 0)⟩,
  ⟨some 6, none, .mv (.t 1)⟩,
  ⟨some 7, none, .call 111 [(.t 5), (.t 6)]⟩,
  ⟨some 4, none, .mv (.t 7)⟩])
 .ret))
theorem d102 : FnD Try.prog 102 2 6 [.tmp 4] c102 := ⟨Try.f102, _, Try.func102, by kernel_rfl, rfl, rfl, by kernel_rfl, by kernel_rfl⟩

/-- (*strings.Builder).Len -/
def c103 : ACode :=
 (.seq (.reg [⟨some 2, none, .mv (.c (.int .i64 0))⟩])
 (.seq (.reg [⟨some 3, none, .mv (.t 0)⟩,
  ⟨some 4, none, .nilchk (.t 3)⟩,
  ⟨some 5, none, .faddr 1 (.t 4)⟩,
  ⟨some 6, none, .load false 1 (.t 5)⟩,
  ⟨some 7, none, .len false (.t 6)⟩,
  ⟨some 2, none, .mv (.t 7)⟩])
 .ret))
theorem d103 : FnD Try.prog 103 1 7 [.tmp 2] c103 := ⟨Try.f103, _, Try.func103, by kernel_rfl, rfl, rfl, by kernel_rfl, by kernel_rfl⟩

/-- (palimp/node.row).alone -/
def c106 : ACode :=
 (.seq (.reg [⟨some 2, none, .box (.t 0)⟩,
  ⟨some 3, none, .box (.t 1)⟩,
  ⟨some 4, none, .mv (.c (.bool false))⟩])
 (.seq (.block 0
 (.seq (.reg [⟨some 6, none, .faddr 4 (.t 3)⟩,
  ⟨some 7, none, .load false 1 (.t 6)⟩,
  ⟨some 8, none, .bini .neq (.t 7) (.c (.int .i64 0))⟩,
  ⟨some 9, none, .mv (.t 8)⟩,
  ⟨some 10, (some (9, false)), .faddr 2 (.t 3)⟩,
  ⟨some 11, (some (9, false)), .load false 1 (.t 10)⟩,
  ⟨some 12, (some (9, false)), .call 112 [(.t 11)]⟩,
  ⟨some 13, (some (9, false)), .un .not (.t 12)⟩,
  ⟨some 14, none, .pick (.t 9) (.c (.bool true)) (.t 13)⟩,
  ⟨some 15, none, .mv (.t 14)⟩,
  ⟨some 16, (some (15, false)), .load true 1 (.t 2)⟩,
  ⟨some 17, (some (15, false)), .faddr 1 (.t 3)⟩,
  ⟨some 18, (some (15, false)), .load false 1 (.t 17)⟩,
  ⟨some 19, (some (15, false)), .call 113 [(.t 16), (.t 18)]⟩,
  ⟨some 20, (some (15, false)), .un .not (.t 19)⟩,
  ⟨some 21, none, .pick (.t 15) (.c (.bool true)) (.t 20)⟩,
  ⟨some 5, none, .mv (.t 21)⟩])
 (.cond (.t 5)
 (.seq (.reg [⟨some 4, none, .mv (.c (.bool false))⟩])
 .ret)
 (.seq (.reg [⟨some 23, none, .faddr 0 (.t 3)⟩,
  ⟨some 24, none, .load false 1 (.t 23)⟩,
  ⟨some 25, none, .bini .eql (.t 24) (.c (.int .i64 1))⟩,
  ⟨some 22, none, .mv (.t 25)⟩])
 (.cond (.t 22)
 (.seq (.reg [⟨some 26, none, .faddr 3 (.t 3)⟩,
  ⟨some 27, none, .load false 1 (.t 26)⟩,
  ⟨some 28, none, .len true (.t 27)⟩,
  ⟨some 29, none, .bini .leq (.t 28) (.c (.int .i64 128))⟩,
  ⟨some 4, none, .mv (.t 29)⟩])
 .ret)
 .skip)))))
 (.seq (.reg [⟨some 30, none, .faddr 0 (.t 3)⟩,
  ⟨some 31, none, .load false 1 (.t 30)⟩,
  ⟨some 32, none, .bini .eql (.t 31) (.c (.int .i64 2))⟩,
  ⟨some 33, none, .mv (.t 32)⟩,
  ⟨some 34, (some (33, true)), .faddr 3 (.t 3)⟩,
  ⟨some 35, (some (33, true)), .load false 1 (.t 34)⟩,
  ⟨some 36, (some (33, true)), .bins .eql (.t 35) (.c (.str []))⟩,
  ⟨some 37, none, .pick (.t 33) (.t 36) (.c (.bool false))⟩,
  ⟨some 4, none, .mv (.t 37)⟩])
 .ret)))
theorem d106 : FnD Try.prog 106 2 36 [.tmp 4] c106 := ⟨Try.f106, _, Try.func106, by kernel_rfl, rfl, rfl, by kernel_rfl, by kernel_rfl⟩

/-- (palimp/node.row).leads -/
def c107 : ACode :=
 (.seq (.reg [⟨some 2, none, .box (.t 0)⟩,
  ⟨some 4, none, .mv (.c (.bool false))⟩])
 (.seq (.seq (.reg [⟨some 5, none, .faddr 0 (.t 2)⟩,
  ⟨some 6, none, .load false 1 (.t 5)⟩,
  ⟨some 7, none, .len false (.t 6)⟩,
  ⟨some 8, none, .mv (.c (.int .i64 0))⟩])
 (.block 0
 (.loop
 (.seq (.reg [⟨some 9, none, .bini .lss (.t 8) (.t 7)⟩])
 (.seq (.cond (.t 9)
 .skip
 (.exit 0))
 (.seq (.block 1
 (.seq (.seq (.reg [⟨some 10, none, .mv (.t 1)⟩,
  ⟨some 11, none, .bini .eql (.t 10) (.c (.int .i64 0))⟩])
 (.cond (.t 11)
 (.seq (.reg [⟨some 4, none, .mv (.c (.bool true))⟩])
 .ret)
 .skip))
 (.reg [⟨some 12, none, .faddr 0 (.t 2)⟩,
  ⟨some 13, none, .load false 1 (.t 12)⟩,
  ⟨some 14, none, .mv (.t 1)⟩,
  ⟨some 15, none, .iaddr 5 (.t 13) (.t 14)⟩,
  ⟨some 16, none, .faddr 1 (.t 15)⟩,
  ⟨some 17, none, .load false 1 (.t 16)⟩,
  ⟨some 1, none, .mv (.t 17)⟩])))
 (.reg [⟨some 18, none, .bini .add (.t 8) (.c (.int .i64 1))⟩,
  ⟨some 8, none, .mv (.t 18)⟩])))))))
 (.seq (.reg [⟨some 4, none, .mv (.c (.bool false))⟩])
 .ret)))
theorem d107 : FnD Try.prog 107 2 17 [.tmp 4] c107 := ⟨Try.f107, _, Try.func107, by kernel_rfl, rfl, rfl, by kernel_rfl, by kernel_rfl⟩

/-- (palimp/node.row).twin -/
def c108 : ACode :=
 (.seq (.reg [⟨some 2, none, .box (.t 0)⟩,
  ⟨some 4, none, .mv (.c (.bool false))⟩])
 (.seq (.seq (.reg [⟨some 7, none, .faddr 0 (.t 2)⟩,
  ⟨some 8, none, .load false 1 (.t 7)⟩,
  ⟨some 9, none, .len false (.t 8)⟩,
  ⟨some 10, none, .mv (.c (.int .i64 0))⟩])
 (.block 0
 (.loop
 (.seq (.reg [⟨some 11, none, .bini .lss (.t 10) (.t 9)⟩])
 (.seq (.cond (.t 11)
 .skip
 (.exit 0))
 (.seq (.block 1
 (.seq (.reg [⟨some 12, none, .mv (.t 10)⟩,
  ⟨some 13, none, .iaddr 5 (.t 8) (.t 10)⟩,
  ⟨some 14, none, .load true 5 (.t 13)⟩,
  ⟨some 6, none, .alloc [.int .i64 0, .int .i64 0, .str [], .str [], .int .i64 0]⟩,
  ⟨some 5, none, .mv (.t 12)⟩,
  ⟨none, none, .store 5 (.t 6) (.t 14)⟩])
 (.seq (.dreg [⟨some 15, none, .mv (.t 5)⟩,
  ⟨some 16, none, .bini .gtr (.t 15) (.c (.int .i64 0))⟩,
  ⟨some 17, none, .mv (.t 16)⟩,
  ⟨some 18, (some (17, true)), .mv (.t 5)⟩,
  ⟨some 19, (some (17, true)), .mv (.t 1)⟩,
  ⟨some 20, (some (17, true)), .bini .neq (.t 18) (.t 19)⟩,
  ⟨some 21, none, .pick (.t 17) (.t 20) (.c (.bool false))⟩,
  ⟨some 22, none, .mv (.t 21)⟩,
  ⟨some 23, (some (22, true)), .faddr 0 (.t 6)⟩,
  ⟨some 24, (some (22, true)), .load false 1 (.t 23)⟩,
  ⟨some 25, (some (22, true)), .bini .neq (.t 24) (.c (.int .i64 0))⟩,
  ⟨some 26, none, .pick (.t 22) (.t 25) (.c (.bool false))⟩,
  ⟨some 27, none, .mv (.t 26)⟩,
  ⟨some 28, (some (27, true)), .faddr 1 (.t 6)⟩,
  ⟨some 29, (some (27, true)), .load false 1 (.t 28)⟩,
  ⟨some 30, (some (27, true)), .faddr 0 (.t 2)⟩,
  ⟨some 31, (some (27, true)), .load false 1 (.t 30)⟩,
  ⟨some 32, (some (27, true)), .mv (.t 1)⟩,
  ⟨some 33, (some (27, true)), .iaddr 5 (.t 31) (.t 32)⟩,
  ⟨some 34, (some (27, true)), .faddr 1 (.t 33)⟩,
  ⟨some 35, (some (27, true)), .load false 1 (.t 34)⟩,
  ⟨some 36, (some (27, true)), .bini .eql (.t 29) (.t 35)⟩,
  ⟨some 37, none, .pick (.t 27) (.t 36) (.c (.bool false))⟩,
  ⟨some 38, none, .mv (.t 37)⟩,
  ⟨some 39, (some (38, true)), .faddr 2 (.t 6)⟩,
  ⟨some 40, (some (38, true)), .load false 1 (.t 39)⟩,
  ⟨some 41, (some (38, true)), .faddr 0 (.t 2)⟩,
  ⟨some 42, (some (38, true)), .load false 1 (.t 41)⟩,
  ⟨some 43, (some (38, true)), .mv (.t 1)⟩,
  ⟨some 44, (some (38, true)), .iaddr 5 (.t 42) (.t 43)⟩,
  ⟨some 45, (some (38, true)), .faddr 2 (.t 44)⟩,
  ⟨some 46, (some (38, true)), .load false 1 (.t 45)⟩,
  ⟨some 47, (some (38, true)), .bins .eql (.t 40) (.t 46)⟩,
  ⟨some 48, none, .pick (.t 38) (.t 47) (.c (.bool false))⟩])
 (.cond (.t 48)
 (.seq (.reg [⟨some 4, none, .mv (.c (.bool true))⟩])
 .ret)
 .skip))))
 (.reg [⟨some 49, none, .bini .add (.t 10) (.c (.int .i64 1))⟩,
  ⟨some 10, none, .mv (.t 49)⟩])))))))
 (.seq (.reg [⟨some 4, none, .mv (.c (.bool false))⟩])
 .ret)))
theorem d108 : FnD Try.prog 108 2 48 [.tmp 4] c108 := ⟨Try.f108, _, Try.func108, by kernel_rfl, rfl, rfl, by kernel_rfl, by kernel_rfl⟩

/-- math/bits.Mul32 -/
def c109 : ACode :=
 (.seq (.reg [⟨some 4, none, .mv (.c (.int .u32 0))⟩,
  ⟨some 5, none, .mv (.c (.int .u32 0))⟩])
 (.seq (.reg [⟨some 7, none, .mv (.t 0)⟩,
  ⟨some 8, none, .convi .u64 (.t 7)⟩,
  ⟨some 9, none, .mv (.t 1)⟩,
  ⟨some 10, none, .convi .u64 (.t 9)⟩,
  ⟨some 11, none, .bini .mul (.t 8) (.t 10)⟩,
  ⟨some 6, none, .mv (.t 11)⟩])
 (.seq (.reg [⟨some 12, none, .mv (.t 6)⟩,
  ⟨some 13, none, .bini .shr (.t 12) (.c (.int .u64 32))⟩,
  ⟨some 14, none, .convi .u32 (.t 13)⟩,
  ⟨some 15, none, .mv (.t 6)⟩,
  ⟨some 16, none, .convi .u32 (.t 15)⟩,
  ⟨some 4, none, .mv (.t 14)⟩,
  ⟨some 5, none, .mv (.t 16)⟩])
 .ret)))
theorem d109 : FnD Try.prog 109 2 15 [.tmp 4, .tmp 5] c109 := ⟨Try.f109, _, Try.func109, by kernel_rfl, rfl, rfl, by kernel_rfl, by kernel_rfl⟩

/-- math/bits.Mul64 -/
def c110 : ACode :=
 (.seq (.reg [⟨some 4, none, .mv (.c (.int .u64 0))⟩,
  ⟨some 5, none, .mv (.c (.int .u64 0))⟩])
 (.seq (.reg [⟨some 14, none, .mv (.t 0)⟩,
  ⟨some 15, none, .bini .and (.t 14) (.c (.int .u64 4294967295))⟩,
  ⟨some 6, none, .mv (.t 15)⟩])
 (.seq (.reg [⟨some 16, none, .mv (.t 0)⟩,
  ⟨some 17, none, .bini .shr (.t 16) (.c (.int .u64 32))⟩,
  ⟨some 7, none, .mv (.t 17)⟩])
 (.seq (.reg [⟨some 18, none, .mv (.t 1)⟩,
  ⟨some 19, none, .bini .and (.t 18) (.c (.int .u64 4294967295))⟩,
  ⟨some 8, none, .mv (.t 19)⟩])
 (.seq (.reg [⟨some 20, none, .mv (.t 1)⟩,
  ⟨some 21, none, .bini .shr (.t 20) (.c (.int .u64 32))⟩,
  ⟨some 9, none, .mv (.t 21)⟩])
 (.seq (.reg [⟨some 22, none, .mv (.t 6)⟩,
  ⟨some 23, none, .mv (.t 8)⟩,
  ⟨some 24, none, .bini .mul (.t 22) (.t 23)⟩,
  ⟨some 10, none, .mv (.t 24)⟩])
 (.seq (.reg [⟨some 25, none, .mv (.t 7)⟩,
  ⟨some 26, none, .mv (.t 8)⟩,
  ⟨some 27, none, .bini .mul (.t 25) (.t 26)⟩,
  ⟨some 28, none, .mv (.t 10)⟩,
  ⟨some 29, none, .bini .shr (.t 28) (.c (.int .u64 32))⟩,
  ⟨some 30, none, .bini .add (.t 27) (.t 29)⟩,
  ⟨some 11, none, .mv (.t 30)⟩])
 (.seq (.reg [⟨some 31, none, .mv (.t 11)⟩,
  ⟨some 32, none, .bini .and (.t 31) (.c (.int .u64 4294967295))⟩,
  ⟨some 12, none, .mv (.t 32)⟩])
 (.seq (.reg [⟨some 33, none, .mv (.t 11)⟩,
  ⟨some 34, none, .bini .shr (.t 33) (.c (.int .u64 32))⟩,
  ⟨some 13, none, .mv (.t 34)⟩])
 (.seq (.reg [⟨some 35, none, .mv (.t 12)⟩,
  ⟨some 36, none, .mv (.t 6)⟩,
  ⟨some 37, none, .mv (.t 9)⟩,
  ⟨some 38, none, .bini .mul (.t 36) (.t 37)⟩,
  ⟨some 39, none, .bini .add (.t 35) (.t 38)⟩,
  ⟨some 12, none, .mv (.t 39)⟩])
 (.seq (.reg [⟨some 40, none, .mv (.t 7)⟩,
  ⟨some 41, none, .mv (.t 9)⟩,
  ⟨some 42, none, .bini .mul (.t 40) (.t 41)⟩,
  ⟨some 43, none, .mv (.t 13)⟩,
  ⟨some 44, none, .bini .add (.t 42) (.t 43)⟩,
  ⟨some 45, none, .mv (.t 12)⟩,
  ⟨some 46, none, .bini .shr (.t 45) (.c (.int .u64 32))⟩,
  ⟨some 47, none, .bini .add (.t 44) (.t 46)⟩,
  ⟨some 4, none, .mv (.t 47)⟩])
 (.seq (.reg [⟨some 48, none, .mv (.t 0)⟩,
  ⟨some 49, none, .mv (.t 1)⟩,
  ⟨some 50, none, .bini .mul (.t 48) (.t 49)⟩,
  ⟨some 5, none, .mv (.t 50)⟩])
 .ret))))))))))))
theorem d110 : FnD Try.prog 110 2 49 [.tmp 4, .tmp 5] c110 := ⟨Try.f110, _, Try.func110, by kernel_rfl, rfl, rfl, by kernel_rfl, by kernel_rfl⟩

/-- internal/stringslite.HasPrefix -/
def c111 : ACode :=
 (.seq (.reg [⟨some 4, none, .mv (.c (.bool false))⟩])
 (.seq (.reg [⟨some 5, none, .mv (.t 0)⟩,
  ⟨some 6, none, .len true (.t 5)⟩,
  ⟨some 7, none, .mv (.t 1)⟩,
  ⟨some 8, none, .len true (.t 7)⟩,
  ⟨some 9, none, .bini .geq (.t 6) (.t 8)⟩,
  ⟨some 10, none, .mv (.t 9)⟩,
  ⟨some 11, (some (10, true)), .mv (.t 0)⟩,
  ⟨some 12, (some (10, true)), .mv (.t 1)⟩,
  ⟨some 13, (some (10, true)), .len true (.t 12)⟩,
  ⟨some 14, (some (10, true)), .slices (.t 11) none (some (.t 13))⟩,
  ⟨some 15, (some (10, true)), .mv (.t 1)⟩,
  ⟨some 16, (some (10, true)), .bins .eql (.t 14) (.t 15)⟩,
  ⟨some 17, none, .pick (.t 10) (.t 16) (.c (.bool false))⟩,
  ⟨some 4, none, .mv (.t 17)⟩])
 .ret))
theorem d111 : FnD Try.prog 111 2 16 [.tmp 4] c111 := ⟨Try.f111, _, Try.func111, by kernel_rfl, rfl, rfl, by kernel_rfl, by kernel_rfl⟩

/-- palimp/name.May -/
def c112 : ACode :=
 (.seq (.reg [⟨some 2, none, .mv (.c (.bool false))⟩])
 (.seq (.reg [⟨some 3, none, .mv (.t 0)⟩,
  ⟨some 4, none, .bins .neq (.t 3) (.c (.str []))⟩,
  ⟨some 5, none, .mv (.t 4)⟩,
  ⟨some 6, (some (5, true)), .mv (.t 0)⟩,
  ⟨some 7, (some (5, true)), .len true (.t 6)⟩,
  ⟨some 8, (some (5, true)), .bini .leq (.t 7) (.c (.int .i64 8))⟩,
  ⟨some 9, none, .pick (.t 5) (.t 8) (.c (.bool false))⟩,
  ⟨some 10, none, .mv (.t 9)⟩,
  ⟨some 11, (some (10, true)), .mv (.t 0)⟩,
  ⟨some 12, (some (10, true)), .call 114 [(.t 11)]⟩,
  ⟨some 13, none, .pick (.t 10) (.t 12) (.c (.bool false))⟩,
  ⟨some 14, none, .mv (.t 13)⟩,
  ⟨some 15, (some (14, true)), .mv (.t 0)⟩,
  ⟨some 16, (some (14, true)), .bins .neq (.t 15) (.c (.str [46]))⟩,
  ⟨some 17, none, .pick (.t 14) (.t 16) (.c (.bool false))⟩,
  ⟨some 18, none, .mv (.t 17)⟩,
  ⟨some 19, (some (18, true)), .mv (.t 0)⟩,
  ⟨some 20, (some (18, true)), .bins .neq (.t 19) (.c (.str [46, 46]))⟩,
  ⟨some 21, none, .pick (.t 18) (.t 20) (.c (.bool false))⟩,
  ⟨some 2, none, .mv (.t 21)⟩])
 .ret))
theorem d112 : FnD Try.prog 112 1 21 [.tmp 2] c112 := ⟨Try.f112, _, Try.func112, by kernel_rfl, rfl, rfl, by kernel_rfl, by kernel_rfl⟩

end Go.Proofs.Ytemjlopoffjmpaa.Abs
