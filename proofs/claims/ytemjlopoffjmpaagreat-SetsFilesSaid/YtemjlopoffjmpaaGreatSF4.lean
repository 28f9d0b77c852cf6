/-
  Part 4 of the proof: no condition. (Parts of the abstract layer, of the program's functions in its form, and of their contracts.)
-/
import Derived.Test.YtemjlopoffjmpaaGreatSFAbs22
import Derived.Test.YtemjlopoffjmpaaGreatProg
import Derived.KernelRfl
import Derived.Test.YtemjlopoffjmpaaGreatSFAbs35
import Derived.Test.YtemjlopoffjmpaaGreatSF1
import Derived.Test.YtemjlopoffjmpaaGreatSF3
import Derived.Test.YtemjlopoffjmpaaGreatSF2
import Derived.Test.YtemjlopoffjmpaaGreatSFAbs37
import Derived.Test.YtemjlopoffjmpaaGreatSFWk
import Derived.Test.YtemjlopoffjmpaaGreatSFWk3
import Derived.Test.YtemjlopoffjmpaaGreatSFAbs41
import Derived.Test.YtemjlopoffjmpaaGreatSFAbs38
import Derived.ProofKit
namespace Go.Proofs.YtemjlopoffjmpaaGreat.Abs
open Go
def c158 : ACode :=
 (.seq (.reg [⟨some 2, none, .box (.t 0)⟩,
  ⟨some 3, none, .box (.t 1)⟩,
  ⟨some 4, none, .mv (.c (.bool false))⟩])
 (.seq (.block 0
 (.seq (.reg [⟨some 6, none, .faddr 4 (.t 3)⟩,
  ⟨some 7, none, .load false 1 (.t 6)⟩,
  ⟨some 8, none, .bini .neq (.t 7) (.c (.int .i64 0))⟩,
  ⟨some 9, none, .mv (.t 8)⟩,
  ⟨some 10, (some (9, false)), .faddr 2 (.t 3)⟩,
  ⟨some 11, (some (9, false)), .load false 1 (.t 10)⟩,
  ⟨some 12, (some (9, false)), .call 201 [(.t 11)]⟩,
  ⟨some 13, (some (9, false)), .un .not (.t 12)⟩,
  ⟨some 14, none, .pick (.t 9) (.c (.bool true)) (.t 13)⟩,
  ⟨some 15, none, .mv (.t 14)⟩,
  ⟨some 16, (some (15, false)), .load true 1 (.t 2)⟩,
  ⟨some 17, (some (15, false)), .faddr 1 (.t 3)⟩,
  ⟨some 18, (some (15, false)), .load false 1 (.t 17)⟩,
  ⟨some 19, (some (15, false)), .call 202 [(.t 16), (.t 18)]⟩,
  ⟨some 20, (some (15, false)), .un .not (.t 19)⟩,
  ⟨some 21, none, .pick (.t 15) (.c (.bool true)) (.t 20)⟩,
  ⟨some 5, none, .mv (.t 21)⟩])
 (.cond (.t 5)
 (.seq (.reg [⟨some 4, none, .mv (.c (.bool false))⟩])
 .ret)
 (.seq (.reg [⟨some 23, none, .faddr 0 (.t 3)⟩,
  ⟨some 24, none, .load false 1 (.t 23)⟩,
  ⟨some 25, none, .bini .eql (.t 24) (.c (.int .i64 1))⟩,
  ⟨some 22, none, .mv (.t 25)⟩])
 (.cond (.t 22)
 (.seq (.reg [⟨some 26, none, .faddr 3 (.t 3)⟩,
  ⟨some 27, none, .load false 1 (.t 26)⟩,
  ⟨some 28, none, .len true (.t 27)⟩,
  ⟨some 29, none, .bini .leq (.t 28) (.c (.int .i64 128))⟩,
  ⟨some 4, none, .mv (.t 29)⟩])
 .ret)
 .skip)))))
 (.seq (.reg [⟨some 30, none, .faddr 0 (.t 3)⟩,
  ⟨some 31, none, .load false 1 (.t 30)⟩,
  ⟨some 32, none, .bini .eql (.t 31) (.c (.int .i64 2))⟩,
  ⟨some 33, none, .mv (.t 32)⟩,
  ⟨some 34, (some (33, true)), .faddr 3 (.t 3)⟩,
  ⟨some 35, (some (33, true)), .load false 1 (.t 34)⟩,
  ⟨some 36, (some (33, true)), .bins .eql (.t 35) (.c (.str []))⟩,
  ⟨some 37, none, .pick (.t 33) (.t 36) (.c (.bool false))⟩,
  ⟨some 4, none, .mv (.t 37)⟩])
 .ret)))
theorem d158 : FnD Tryz.prog 158 2 36 [.tmp 4] c158 := ⟨Tryz.f158, _, Tryz.func158, by kernel_rfl, rfl, rfl, by kernel_rfl, by kernel_rfl⟩
end Go.Proofs.YtemjlopoffjmpaaGreat.Abs
namespace Go.Proofs.YtemjlopoffjmpaaGreat.Abs
open Go
def c159 : ACode :=
 (.seq (.reg [⟨some 2, none, .box (.t 0)⟩,
  ⟨some 4, none, .mv (.c (.bool false))⟩])
 (.seq (.seq (.reg [⟨some 5, none, .faddr 0 (.t 2)⟩,
  ⟨some 6, none, .load false 1 (.t 5)⟩,
  ⟨some 7, none, .len false (.t 6)⟩,
  ⟨some 8, none, .mv (.c (.int .i64 0))⟩])
 (.block 0
 (.loop
 (.seq (.reg [⟨some 9, none, .bini .lss (.t 8) (.t 7)⟩])
 (.seq (.cond (.t 9)
 .skip
 (.exit 0))
 (.seq (.block 1
 (.seq (.seq (.reg [⟨some 10, none, .mv (.t 1)⟩,
  ⟨some 11, none, .bini .eql (.t 10) (.c (.int .i64 0))⟩])
 (.cond (.t 11)
 (.seq (.reg [⟨some 4, none, .mv (.c (.bool true))⟩])
 .ret)
 .skip))
 (.reg [⟨some 12, none, .faddr 0 (.t 2)⟩,
  ⟨some 13, none, .load false 1 (.t 12)⟩,
  ⟨some 14, none, .mv (.t 1)⟩,
  ⟨some 15, none, .iaddr 5 (.t 13) (.t 14)⟩,
  ⟨some 16, none, .faddr 1 (.t 15)⟩,
  ⟨some 17, none, .load false 1 (.t 16)⟩,
  ⟨some 1, none, .mv (.t 17)⟩])))
 (.reg [⟨some 18, none, .bini .add (.t 8) (.c (.int .i64 1))⟩,
  ⟨some 8, none, .mv (.t 18)⟩])))))))
 (.seq (.reg [⟨some 4, none, .mv (.c (.bool false))⟩])
 .ret)))
theorem d159 : FnD Tryz.prog 159 2 17 [.tmp 4] c159 := ⟨Tryz.f159, _, Tryz.func159, by kernel_rfl, rfl, rfl, by kernel_rfl, by kernel_rfl⟩
end Go.Proofs.YtemjlopoffjmpaaGreat.Abs
namespace Go.Proofs.YtemjlopoffjmpaaGreat.Abs
open Go
def c160 : ACode :=
 (.seq (.reg [⟨some 2, none, .box (.t 0)⟩,
  ⟨some 4, none, .mv (.c (.bool false))⟩])
 (.seq (.seq (.reg [⟨some 7, none, .faddr 0 (.t 2)⟩,
  ⟨some 8, none, .load false 1 (.t 7)⟩,
  ⟨some 9, none, .len false (.t 8)⟩,
  ⟨some 10, none, .mv (.c (.int .i64 0))⟩])
 (.block 0
 (.loop
 (.seq (.reg [⟨some 11, none, .bini .lss (.t 10) (.t 9)⟩])
 (.seq (.cond (.t 11)
 .skip
 (.exit 0))
 (.seq (.block 1
 (.seq (.reg [⟨some 12, none, .mv (.t 10)⟩,
  ⟨some 13, none, .iaddr 5 (.t 8) (.t 10)⟩,
  ⟨some 14, none, .load true 5 (.t 13)⟩,
  ⟨some 6, none, .alloc [.int .i64 0, .int .i64 0, .str [], .str [], .int .i64 0]⟩,
  ⟨some 5, none, .mv (.t 12)⟩,
  ⟨none, none, .store 5 (.t 6) (.t 14)⟩])
 (.seq (.dreg [⟨some 15, none, .mv (.t 5)⟩,
  ⟨some 16, none, .bini .gtr (.t 15) (.c (.int .i64 0))⟩,
  ⟨some 17, none, .mv (.t 16)⟩,
  ⟨some 18, (some (17, true)), .mv (.t 5)⟩,
  ⟨some 19, (some (17, true)), .mv (.t 1)⟩,
  ⟨some 20, (some (17, true)), .bini .neq (.t 18) (.t 19)⟩,
  ⟨some 21, none, .pick (.t 17) (.t 20) (.c (.bool false))⟩,
  ⟨some 22, none, .mv (.t 21)⟩,
  ⟨some 23, (some (22, true)), .faddr 0 (.t 6)⟩,
  ⟨some 24, (some (22, true)), .load false 1 (.t 23)⟩,
  ⟨some 25, (some (22, true)), .bini .neq (.t 24) (.c (.int .i64 0))⟩,
  ⟨some 26, none, .pick (.t 22) (.t 25) (.c (.bool false))⟩,
  ⟨some 27, none, .mv (.t 26)⟩,
  ⟨some 28, (some (27, true)), .faddr 1 (.t 6)⟩,
  ⟨some 29, (some (27, true)), .load false 1 (.t 28)⟩,
  ⟨some 30, (some (27, true)), .faddr 0 (.t 2)⟩,
  ⟨some 31, (some (27, true)), .load false 1 (.t 30)⟩,
  ⟨some 32, (some (27, true)), .mv (.t 1)⟩,
  ⟨some 33, (some (27, true)), .iaddr 5 (.t 31) (.t 32)⟩,
  ⟨some 34, (some (27, true)), .faddr 1 (.t 33)⟩,
  ⟨some 35, (some (27, true)), .load false 1 (.t 34)⟩,
  ⟨some 36, (some (27, true)), .bini .eql (.t 29) (.t 35)⟩,
  ⟨some 37, none, .pick (.t 27) (.t 36) (.c (.bool false))⟩,
  ⟨some 38, none, .mv (.t 37)⟩,
  ⟨some 39, (some (38, true)), .faddr 2 (.t 6)⟩,
  ⟨some 40, (some (38, true)), .load false 1 (.t 39)⟩,
  ⟨some 41, (some (38, true)), .faddr 0 (.t 2)⟩,
  ⟨some 42, (some (38, true)), .load false 1 (.t 41)⟩,
  ⟨some 43, (some (38, true)), .mv (.t 1)⟩,
  ⟨some 44, (some (38, true)), .iaddr 5 (.t 42) (.t 43)⟩,
  ⟨some 45, (some (38, true)), .faddr 2 (.t 44)⟩,
  ⟨some 46, (some (38, true)), .load false 1 (.t 45)⟩,
  ⟨some 47, (some (38, true)), .bins .eql (.t 40) (.t 46)⟩,
  ⟨some 48, none, .pick (.t 38) (.t 47) (.c (.bool false))⟩])
 (.cond (.t 48)
 (.seq (.reg [⟨some 4, none, .mv (.c (.bool true))⟩])
 .ret)
 .skip))))
 (.reg [⟨some 49, none, .bini .add (.t 10) (.c (.int .i64 1))⟩,
  ⟨some 10, none, .mv (.t 49)⟩])))))))
 (.seq (.reg [⟨some 4, none, .mv (.c (.bool false))⟩])
 .ret)))
theorem d160 : FnD Tryz.prog 160 2 48 [.tmp 4] c160 := ⟨Tryz.f160, _, Tryz.func160, by kernel_rfl, rfl, rfl, by kernel_rfl, by kernel_rfl⟩
end Go.Proofs.YtemjlopoffjmpaaGreat.Abs
namespace Go.Proofs.YtemjlopoffjmpaaGreat.Abs
open Go
def c201 : ACode :=
 (.seq (.reg [⟨some 2, none, .mv (.c (.bool false))⟩])
 (.seq (.reg [⟨some 3, none, .mv (.t 0)⟩,
  ⟨some 4, none, .bins .neq (.t 3) (.c (.str []))⟩,
  ⟨some 5, none, .mv (.t 4)⟩,
  ⟨some 6, (some (5, true)), .mv (.t 0)⟩,
  ⟨some 7, (some (5, true)), .len true (.t 6)⟩,
  ⟨some 8, (some (5, true)), .bini .leq (.t 7) (.c (.int .i64 8))⟩,
  ⟨some 9, none, .pick (.t 5) (.t 8) (.c (.bool false))⟩,
  ⟨some 10, none, .mv (.t 9)⟩,
  ⟨some 11, (some (10, true)), .mv (.t 0)⟩,
  ⟨some 12, (some (10, true)), .call 224 [(.t 11)]⟩,
  ⟨some 13, none, .pick (.t 10) (.t 12) (.c (.bool false))⟩,
  ⟨some 14, none, .mv (.t 13)⟩,
  ⟨some 15, (some (14, true)), .mv (.t 0)⟩,
  ⟨some 16, (some (14, true)), .bins .neq (.t 15) (.c (.str [46]))⟩,
  ⟨some 17, none, .pick (.t 14) (.t 16) (.c (.bool false))⟩,
  ⟨some 18, none, .mv (.t 17)⟩,
  ⟨some 19, (some (18, true)), .mv (.t 0)⟩,
  ⟨some 20, (some (18, true)), .bins .neq (.t 19) (.c (.str [46, 46]))⟩,
  ⟨some 21, none, .pick (.t 18) (.t 20) (.c (.bool false))⟩,
  ⟨some 2, none, .mv (.t 21)⟩])
 .ret))
theorem d201 : FnD Tryz.prog 201 1 21 [.tmp 2] c201 := ⟨Tryz.f201, _, Tryz.func201, by kernel_rfl, rfl, rfl, by kernel_rfl, by kernel_rfl⟩
end Go.Proofs.YtemjlopoffjmpaaGreat.Abs
namespace Go.Proofs.YtemjlopoffjmpaaGreat.Abs
open Go
def c202 : ACode :=
 (.seq (.reg [⟨some 2, none, .box (.t 0)⟩,
  ⟨some 4, none, .mv (.c (.bool false))⟩])
 (.seq (.reg [⟨some 5, none, .mv (.t 1)⟩,
  ⟨some 6, none, .bini .geq (.t 5) (.c (.int .i64 0))⟩,
  ⟨some 7, none, .mv (.t 6)⟩,
  ⟨some 8, (some (7, true)), .mv (.t 1)⟩,
  ⟨some 9, (some (7, true)), .faddr 0 (.t 2)⟩,
  ⟨some 10, (some (7, true)), .load false 1 (.t 9)⟩,
  ⟨some 11, (some (7, true)), .len false (.t 10)⟩,
  ⟨some 12, (some (7, true)), .bini .lss (.t 8) (.t 11)⟩,
  ⟨some 13, none, .pick (.t 7) (.t 12) (.c (.bool false))⟩,
  ⟨some 14, none, .mv (.t 13)⟩,
  ⟨some 15, (some (14, true)), .faddr 0 (.t 2)⟩,
  ⟨some 16, (some (14, true)), .load false 1 (.t 15)⟩,
  ⟨some 17, (some (14, true)), .mv (.t 1)⟩,
  ⟨some 18, (some (14, true)), .iaddr 5 (.t 16) (.t 17)⟩,
  ⟨some 19, (some (14, true)), .faddr 0 (.t 18)⟩,
  ⟨some 20, (some (14, true)), .load false 1 (.t 19)⟩,
  ⟨some 21, (some (14, true)), .bini .eql (.t 20) (.c (.int .i64 2))⟩,
  ⟨some 22, none, .pick (.t 14) (.t 21) (.c (.bool false))⟩,
  ⟨some 4, none, .mv (.t 22)⟩])
 .ret))
theorem d202 : FnD Tryz.prog 202 2 21 [.tmp 4] c202 := ⟨Tryz.f202, _, Tryz.func202, by kernel_rfl, rfl, rfl, by kernel_rfl, by kernel_rfl⟩
end Go.Proofs.YtemjlopoffjmpaaGreat.Abs
namespace Go.Proofs.YtemjlopoffjmpaaGreat.Abs
open Go
def c224 : ACode :=
 (.seq (.reg [⟨some 2, none, .mv (.c (.bool false))⟩])
 (.seq (.seq (.reg [⟨some 5, none, .mv (.t 0)⟩,
  ⟨some 6, none, .convsb (.t 5)⟩,
  ⟨some 7, none, .len false (.t 6)⟩,
  ⟨some 8, none, .mv (.c (.int .i64 0))⟩])
 (.block 0
 (.loop
 (.seq (.reg [⟨some 9, none, .bini .lss (.t 8) (.t 7)⟩])
 (.seq (.cond (.t 9)
 .skip
 (.exit 0))
 (.seq (.block 1
 (.seq (.reg [⟨some 10, none, .iaddr 1 (.t 6) (.t 8)⟩,
  ⟨some 11, none, .load false 1 (.t 10)⟩,
  ⟨some 4, none, .mv (.t 11)⟩])
 (.seq (.reg [⟨some 12, none, .mv (.t 4)⟩,
  ⟨some 13, none, .call 229 [(.c (.str [97, 98, 99, 100, 101, 102, 103, 104, 105, 106, 107, 108, 109, 110, 111, 112, 113, 114, 115, 116, 117, 118, 119, 120, 121, 122, 48, 49, 50, 51, 52, 53, 54, 55, 56, 57, 46, 95, 45])), (.t 12)]⟩,
  ⟨some 14, none, .bini .lss (.t 13) (.c (.int .i64 0))⟩])
 (.cond (.t 14)
 (.seq (.reg [⟨some 2, none, .mv (.c (.bool false))⟩])
 .ret)
 .skip))))
 (.reg [⟨some 15, none, .bini .add (.t 8) (.c (.int .i64 1))⟩,
  ⟨some 8, none, .mv (.t 15)⟩])))))))
 (.seq (.reg [⟨some 2, none, .mv (.c (.bool true))⟩])
 .ret)))
theorem d224 : FnD Tryz.prog 224 1 15 [.tmp 2] c224 := ⟨Tryz.f224, _, Tryz.func224, by kernel_rfl, rfl, rfl, by kernel_rfl, by kernel_rfl⟩
end Go.Proofs.YtemjlopoffjmpaaGreat.Abs
namespace Go.Proofs.YtemjlopoffjmpaaGreat.Abs
open Go
def c23 : ACode :=
 (.seq (.reg [⟨some 0, none, .mv (.c (.bool false))⟩])
 (.seq (.reg [⟨some 14, none, .call 37 [(.c (.emp)), (.c (.int .i64 1)), (.c (.int .i64 0))]⟩,
  ⟨some 13, none, .mv (.t 14)⟩,
  ⟨some 15, none, .ext (.t 13) 0⟩,
  ⟨some 16, none, .ext (.t 13) 1⟩,
  ⟨some 1, none, .mv (.t 15)⟩,
  ⟨some 2, none, .mv (.t 16)⟩])
 (.seq (.reg [⟨some 18, none, .mv (.t 1)⟩,
  ⟨some 19, none, .call 24 [(.t 18), (.c (.int .i64 2)), (.c (.int .i64 1))]⟩,
  ⟨some 17, none, .mv (.t 19)⟩,
  ⟨some 20, none, .ext (.t 17) 0⟩,
  ⟨some 21, none, .ext (.t 17) 1⟩,
  ⟨some 3, none, .mv (.t 20)⟩,
  ⟨some 4, none, .mv (.t 21)⟩])
 (.seq (.reg [⟨some 23, none, .mv (.t 3)⟩,
  ⟨some 24, none, .call 25 [(.t 23), (.c (.int .i64 3)), (.c (.int .i64 2))]⟩,
  ⟨some 22, none, .mv (.t 24)⟩,
  ⟨some 25, none, .ext (.t 22) 0⟩,
  ⟨some 26, none, .ext (.t 22) 1⟩,
  ⟨some 5, none, .mv (.t 25)⟩,
  ⟨some 6, none, .mv (.t 26)⟩])
 (.seq (.reg [⟨some 28, none, .mv (.t 5)⟩,
  ⟨some 29, none, .call 29 [(.t 28), (.c (.int .i64 3))]⟩,
  ⟨some 27, none, .mv (.t 29)⟩,
  ⟨some 30, none, .ext (.t 27) 0⟩,
  ⟨some 31, none, .ext (.t 27) 1⟩,
  ⟨some 7, none, .mv (.t 30)⟩,
  ⟨some 8, none, .mv (.t 31)⟩])
 (.seq (.reg [⟨some 33, none, .mv (.t 7)⟩,
  ⟨some 34, none, .call 32 [(.t 33), (.c (.int .i64 2))]⟩,
  ⟨some 32, none, .mv (.t 34)⟩,
  ⟨some 35, none, .ext (.t 32) 0⟩,
  ⟨some 36, none, .ext (.t 32) 1⟩,
  ⟨some 9, none, .mv (.t 35)⟩,
  ⟨some 10, none, .mv (.t 36)⟩])
 (.seq (.reg [⟨some 38, none, .mv (.t 7)⟩,
  ⟨some 39, none, .call 27 [(.t 38), (.c (.int .i64 1))]⟩,
  ⟨some 37, none, .mv (.t 39)⟩,
  ⟨some 40, none, .ext (.t 37) 0⟩,
  ⟨some 41, none, .ext (.t 37) 1⟩,
  ⟨some 11, none, .alloc [.int .i64 0, .int .i64 0, .int .i64 0, .int .i64 0, .emp]⟩,
  ⟨none, none, .store 5 (.t 11) (.t 40)⟩,
  ⟨some 12, none, .mv (.t 41)⟩])
 (.seq (.reg [⟨some 42, none, .mv (.t 2)⟩,
  ⟨some 43, none, .bini .eql (.t 42) (.c (.int .i64 0))⟩,
  ⟨some 44, none, .mv (.t 43)⟩,
  ⟨some 45, (some (44, true)), .mv (.t 4)⟩,
  ⟨some 46, (some (44, true)), .bini .eql (.t 45) (.c (.int .i64 0))⟩,
  ⟨some 47, none, .pick (.t 44) (.t 46) (.c (.bool false))⟩,
  ⟨some 48, none, .mv (.t 47)⟩,
  ⟨some 49, (some (48, true)), .mv (.t 6)⟩,
  ⟨some 50, (some (48, true)), .bini .eql (.t 49) (.c (.int .i64 0))⟩,
  ⟨some 51, none, .pick (.t 48) (.t 50) (.c (.bool false))⟩,
  ⟨some 52, none, .mv (.t 51)⟩,
  ⟨some 53, (some (52, true)), .mv (.t 8)⟩,
  ⟨some 54, (some (52, true)), .bini .eql (.t 53) (.c (.int .i64 0))⟩,
  ⟨some 55, none, .pick (.t 52) (.t 54) (.c (.bool false))⟩,
  ⟨some 56, none, .mv (.t 55)⟩,
  ⟨some 57, (some (56, true)), .mv (.t 10)⟩,
  ⟨some 58, (some (56, true)), .bini .eql (.t 57) (.c (.int .i64 10))⟩,
  ⟨some 59, none, .pick (.t 56) (.t 58) (.c (.bool false))⟩,
  ⟨some 60, none, .mv (.t 59)⟩,
  ⟨some 61, (some (60, true)), .mv (.t 12)⟩,
  ⟨some 62, none, .pick (.t 60) (.t 61) (.c (.bool false))⟩,
  ⟨some 63, none, .mv (.t 62)⟩,
  ⟨some 64, (some (63, true)), .faddr 2 (.t 11)⟩,
  ⟨some 65, (some (63, true)), .load false 1 (.t 64)⟩,
  ⟨some 66, (some (63, true)), .bini .eql (.t 65) (.c (.int .i64 2))⟩,
  ⟨some 67, none, .pick (.t 63) (.t 66) (.c (.bool false))⟩,
  ⟨some 68, none, .mv (.t 67)⟩,
  ⟨some 69, (some (68, true)), .mv (.t 7)⟩,
  ⟨some 70, (some (68, true)), .call 33 [(.t 69)]⟩,
  ⟨some 71, none, .pick (.t 68) (.t 70) (.c (.bool false))⟩,
  ⟨some 72, none, .mv (.t 71)⟩,
  ⟨some 73, (some (72, true)), .build [.int .i64 0, .int .i64 0, .int .i64 0, .int .i64 0, .emp] []⟩,
  ⟨some 74, (some (72, true)), .bslice 5 1 [.int .i64 0, .int .i64 0, .int .i64 0, .int .i64 0, .emp] [(0, (.t 73))]⟩,
  ⟨some 75, (some (72, true)), .call 33 [(.t 74)]⟩,
  ⟨some 76, (some (72, true)), .un .not (.t 75)⟩,
  ⟨some 77, none, .pick (.t 72) (.t 76) (.c (.bool false))⟩,
  ⟨some 78, none, .mv (.t 77)⟩,
  ⟨some 79, (some (78, true)), .mv (.t 7)⟩,
  ⟨some 80, (some (78, true)), .mv (.t 7)⟩,
  ⟨some 81, (some (78, true)), .call 35 [(.t 79), (.t 80)]⟩,
  ⟨some 82, none, .pick (.t 78) (.t 81) (.c (.bool false))⟩,
  ⟨some 83, none, .mv (.t 82)⟩,
  ⟨some 84, (some (83, true)), .mv (.t 7)⟩,
  ⟨some 85, (some (83, true)), .mv (.t 5)⟩,
  ⟨some 86, (some (83, true)), .call 35 [(.t 84), (.t 85)]⟩,
  ⟨some 87, (some (83, true)), .un .not (.t 86)⟩,
  ⟨some 88, none, .pick (.t 83) (.t 87) (.c (.bool false))⟩,
  ⟨some 0, none, .mv (.t 88)⟩])
 .ret))))))))
theorem d23 : FnD Tryz.prog 23 0 89 [.tmp 0] c23 := ⟨Tryz.f23, _, Tryz.func23, by kernel_rfl, rfl, rfl, by kernel_rfl, by kernel_rfl⟩
end Go.Proofs.YtemjlopoffjmpaaGreat.Abs
namespace Go.Proofs.YtemjlopoffjmpaaGreat.Abs
open Go
def c33 : ACode :=
 (.seq (.reg [⟨some 2, none, .mv (.c (.bool false))⟩])
 (.seq (.reg [⟨some 3, none, .mv (.c (.int .i64 0))⟩])
 (.seq (.seq (.reg [⟨some 6, none, .mv (.t 0)⟩,
  ⟨some 7, none, .len false (.t 6)⟩,
  ⟨some 8, none, .mv (.c (.int .i64 0))⟩])
 (.block 0
 (.loop
 (.seq (.reg [⟨some 9, none, .bini .lss (.t 8) (.t 7)⟩])
 (.seq (.cond (.t 9)
 .skip
 (.exit 0))
 (.seq (.block 1
 (.seq (.reg [⟨some 10, none, .iaddr 5 (.t 6) (.t 8)⟩,
  ⟨some 11, none, .load true 5 (.t 10)⟩,
  ⟨some 5, none, .alloc [.int .i64 0, .int .i64 0, .int .i64 0, .int .i64 0, .emp]⟩,
  ⟨none, none, .store 5 (.t 5) (.t 11)⟩])
 (.seq (.seq (.reg [⟨some 12, none, .faddr 0 (.t 5)⟩,
  ⟨some 13, none, .load false 1 (.t 12)⟩,
  ⟨some 14, none, .mv (.t 3)⟩,
  ⟨some 15, none, .bini .leq (.t 13) (.t 14)⟩,
  ⟨some 16, none, .mv (.t 15)⟩,
  ⟨some 17, (some (16, false)), .load true 5 (.t 5)⟩,
  ⟨some 18, (some (16, false)), .mv (.t 0)⟩,
  ⟨some 19, (some (16, false)), .build [.int .i64 0, .int .i64 0, .int .i64 0, .int .i64 0, .emp, .emp] [(0, 5, (.t 17)), (5, 1, (.t 18))]⟩,
  ⟨some 20, (some (16, false)), .call 66 [(.t 19)]⟩,
  ⟨some 21, (some (16, false)), .un .not (.t 20)⟩,
  ⟨some 22, none, .pick (.t 16) (.c (.bool true)) (.t 21)⟩])
 (.cond (.t 22)
 (.seq (.reg [⟨some 2, none, .mv (.c (.bool false))⟩])
 .ret)
 .skip))
 (.reg [⟨some 23, none, .faddr 0 (.t 5)⟩,
  ⟨some 24, none, .load false 1 (.t 23)⟩,
  ⟨some 3, none, .mv (.t 24)⟩]))))
 (.reg [⟨some 25, none, .bini .add (.t 8) (.c (.int .i64 1))⟩,
  ⟨some 8, none, .mv (.t 25)⟩])))))))
 (.seq (.reg [⟨some 26, none, .mv (.t 0)⟩,
  ⟨some 27, none, .len false (.t 26)⟩,
  ⟨some 28, none, .bini .leq (.t 27) (.c (.int .i64 8))⟩,
  ⟨some 2, none, .mv (.t 28)⟩])
 .ret))))
theorem d33 : FnD Tryz.prog 33 1 28 [.tmp 2] c33 := ⟨Tryz.f33, _, Tryz.func33, by kernel_rfl, rfl, rfl, by kernel_rfl, by kernel_rfl⟩
end Go.Proofs.YtemjlopoffjmpaaGreat.Abs
namespace Go.Proofs.YtemjlopoffjmpaaGreat.Abs
open Go
def c35 : ACode :=
 (.seq (.reg [⟨some 4, none, .mv (.c (.bool false))⟩])
 (.seq (.reg [⟨some 5, none, .mv (.t 0)⟩,
  ⟨some 6, none, .mv (.t 1)⟩,
  ⟨some 7, none, .call 67 [(.t 5), (.t 6), (.c (.fn (.func 68) [] []))]⟩,
  ⟨some 4, none, .mv (.t 7)⟩])
 .ret))
theorem d35 : FnD Tryz.prog 35 2 6 [.tmp 4] c35 := ⟨Tryz.f35, _, Tryz.func35, by kernel_rfl, rfl, rfl, by kernel_rfl, by kernel_rfl⟩
end Go.Proofs.YtemjlopoffjmpaaGreat.Abs
namespace Go.Proofs.YtemjlopoffjmpaaGreat.Abs
open Go
def c66 : ACode :=
 (.seq (.reg [⟨some 1, none, .box (.t 0)⟩,
  ⟨some 2, none, .mv (.c (.bool false))⟩])
 (.seq (.seq (.reg [⟨some 3, none, .faddr 0 (.t 1)⟩,
  ⟨some 4, none, .faddr 0 (.t 3)⟩,
  ⟨some 5, none, .load false 1 (.t 4)⟩,
  ⟨some 6, none, .bini .lss (.t 5) (.c (.int .i64 1))⟩,
  ⟨some 7, none, .mv (.t 6)⟩,
  ⟨some 8, (some (7, false)), .faddr 0 (.t 1)⟩,
  ⟨some 9, (some (7, false)), .faddr 0 (.t 8)⟩,
  ⟨some 10, (some (7, false)), .load false 1 (.t 9)⟩,
  ⟨some 11, (some (7, false)), .bini .gtr (.t 10) (.c (.int .i64 65535))⟩,
  ⟨some 12, none, .pick (.t 7) (.c (.bool true)) (.t 11)⟩,
  ⟨some 13, none, .mv (.t 12)⟩,
  ⟨some 14, (some (13, false)), .faddr 0 (.t 1)⟩,
  ⟨some 15, (some (13, false)), .faddr 4 (.t 14)⟩,
  ⟨some 16, (some (13, false)), .load false 1 (.t 15)⟩,
  ⟨some 17, (some (13, false)), .call 105 [(.t 16)]⟩,
  ⟨some 18, (some (13, false)), .un .not (.t 17)⟩,
  ⟨some 19, none, .pick (.t 13) (.c (.bool true)) (.t 18)⟩,
  ⟨some 20, none, .mv (.t 19)⟩,
  ⟨some 21, (some (20, false)), .faddr 0 (.t 1)⟩,
  ⟨some 22, (some (20, false)), .faddr 3 (.t 21)⟩,
  ⟨some 23, (some (20, false)), .load false 1 (.t 22)⟩,
  ⟨some 24, (some (20, false)), .bini .lss (.t 23) (.c (.int .i64 0))⟩,
  ⟨some 25, none, .pick (.t 20) (.c (.bool true)) (.t 24)⟩,
  ⟨some 26, none, .mv (.t 25)⟩,
  ⟨some 27, (some (26, false)), .faddr 0 (.t 1)⟩,
  ⟨some 28, (some (26, false)), .faddr 3 (.t 27)⟩,
  ⟨some 29, (some (26, false)), .load false 1 (.t 28)⟩,
  ⟨some 30, (some (26, false)), .bini .gtr (.t 29) (.c (.int .i64 255))⟩,
  ⟨some 31, none, .pick (.t 26) (.c (.bool true)) (.t 30)⟩])
 (.cond (.t 31)
 (.seq (.reg [⟨some 2, none, .mv (.c (.bool false))⟩])
 .ret)
 .skip))
 (.seq (.seq (.reg [⟨some 32, none, .faddr 0 (.t 1)⟩,
  ⟨some 33, none, .faddr 1 (.t 32)⟩,
  ⟨some 34, none, .load false 1 (.t 33)⟩])
 (.block 0
 (.seq (.reg [⟨some 36, none, .bini .eql (.t 34) (.c (.int .i64 1))⟩,
  ⟨some 35, none, .mv (.t 36)⟩])
 (.cond (.t 35)
 (.seq (.reg [⟨some 37, none, .faddr 0 (.t 1)⟩,
  ⟨some 38, none, .faddr 2 (.t 37)⟩,
  ⟨some 39, none, .load false 1 (.t 38)⟩,
  ⟨some 40, none, .bini .eql (.t 39) (.c (.int .i64 0))⟩,
  ⟨some 41, none, .mv (.t 40)⟩,
  ⟨some 42, (some (41, false)), .faddr 5 (.t 1)⟩,
  ⟨some 43, (some (41, false)), .load false 1 (.t 42)⟩,
  ⟨some 44, (some (41, false)), .faddr 0 (.t 1)⟩,
  ⟨some 45, (some (41, false)), .faddr 2 (.t 44)⟩,
  ⟨some 46, (some (41, false)), .load false 1 (.t 45)⟩,
  ⟨some 47, (some (41, false)), .call 60 [(.t 43), (.t 46), (.c (.int .i64 2))]⟩,
  ⟨some 48, (some (41, false)), .mv (.t 47)⟩,
  ⟨some 49, (some (48, true)), .faddr 5 (.t 1)⟩,
  ⟨some 50, (some (48, true)), .load false 1 (.t 49)⟩,
  ⟨some 51, (some (48, true)), .faddr 0 (.t 1)⟩,
  ⟨some 52, (some (48, true)), .faddr 0 (.t 51)⟩,
  ⟨some 53, (some (48, true)), .load false 1 (.t 52)⟩,
  ⟨some 54, (some (48, true)), .call 106 [(.t 50), (.t 53)]⟩,
  ⟨some 55, (some (48, true)), .un .not (.t 54)⟩,
  ⟨some 56, (some (41, false)), .pick (.t 48) (.t 55) (.c (.bool false))⟩,
  ⟨some 57, none, .pick (.t 41) (.c (.bool true)) (.t 56)⟩,
  ⟨some 2, none, .mv (.t 57)⟩])
 .ret)
 (.seq (.reg [⟨some 59, none, .bini .eql (.t 34) (.c (.int .i64 2))⟩,
  ⟨some 58, none, .mv (.t 59)⟩])
 (.cond (.t 58)
 (.seq (.reg [⟨some 60, none, .faddr 0 (.t 1)⟩,
  ⟨some 61, none, .faddr 3 (.t 60)⟩,
  ⟨some 62, none, .load false 1 (.t 61)⟩,
  ⟨some 63, none, .bini .eql (.t 62) (.c (.int .i64 0))⟩,
  ⟨some 64, none, .mv (.t 63)⟩,
  ⟨some 65, (some (64, true)), .faddr 5 (.t 1)⟩,
  ⟨some 66, (some (64, true)), .load false 1 (.t 65)⟩,
  ⟨some 67, (some (64, true)), .faddr 0 (.t 1)⟩,
  ⟨some 68, (some (64, true)), .faddr 2 (.t 67)⟩,
  ⟨some 69, (some (64, true)), .load false 1 (.t 68)⟩,
  ⟨some 70, (some (64, true)), .call 60 [(.t 66), (.t 69), (.c (.int .i64 1))]⟩,
  ⟨some 71, none, .pick (.t 64) (.t 70) (.c (.bool false))⟩,
  ⟨some 2, none, .mv (.t 71)⟩])
 .ret)
 .skip))))))
 (.seq (.reg [⟨some 2, none, .mv (.c (.bool false))⟩])
 .ret))))
theorem d66 : FnD Tryz.prog 66 1 71 [.tmp 2] c66 := ⟨Tryz.f66, _, Tryz.func66, by kernel_rfl, rfl, rfl, by kernel_rfl, by kernel_rfl⟩
end Go.Proofs.YtemjlopoffjmpaaGreat.Abs
namespace Go.Proofs.YtemjlopoffjmpaaGreat.Abs
open Go
def c67 : ACode :=
 (.seq (.reg [⟨some 6, none, .mv (.c (.bool false))⟩])
 (.seq (.seq (.reg [⟨some 10, none, .mv (.t 0)⟩,
  ⟨some 11, none, .len false (.t 10)⟩,
  ⟨some 12, none, .mv (.t 1)⟩,
  ⟨some 13, none, .len false (.t 12)⟩,
  ⟨some 14, none, .bini .neq (.t 11) (.t 13)⟩])
 (.cond (.t 14)
 (.seq (.reg [⟨some 6, none, .mv (.c (.bool false))⟩])
 .ret)
 .skip))
 (.seq (.seq (.reg [⟨some 15, none, .mv (.t 0)⟩,
  ⟨some 16, none, .len false (.t 15)⟩,
  ⟨some 17, none, .mv (.c (.int .i64 0))⟩])
 (.block 0
 (.loop
 (.seq (.reg [⟨some 18, none, .bini .lss (.t 17) (.t 16)⟩])
 (.seq (.cond (.t 18)
 .skip
 (.exit 0))
 (.seq (.block 1
 (.seq (.reg [⟨some 19, none, .mv (.t 17)⟩,
  ⟨some 20, none, .iaddr 5 (.t 15) (.t 17)⟩,
  ⟨some 21, none, .load true 5 (.t 20)⟩,
  ⟨some 8, none, .alloc [.int .i64 0, .int .i64 0, .int .i64 0, .int .i64 0, .emp]⟩,
  ⟨some 7, none, .mv (.t 19)⟩,
  ⟨none, none, .store 5 (.t 8) (.t 21)⟩])
 (.seq (.reg [⟨some 22, none, .mv (.t 1)⟩,
  ⟨some 23, none, .mv (.t 7)⟩,
  ⟨some 24, none, .iaddr 5 (.t 22) (.t 23)⟩,
  ⟨some 25, none, .load true 5 (.t 24)⟩,
  ⟨some 9, none, .alloc [.int .i64 0, .int .i64 0, .int .i64 0, .int .i64 0, .emp]⟩,
  ⟨none, none, .store 5 (.t 9) (.t 25)⟩])
 (.seq (.reg [⟨some 26, none, .mv (.t 2)⟩,
  ⟨some 27, none, .load true 5 (.t 8)⟩,
  ⟨some 28, none, .load true 5 (.t 9)⟩,
  ⟨some 29, none, .calld (.t 26) [(.t 27), (.t 28)]⟩,
  ⟨some 30, none, .un .not (.t 29)⟩])
 (.cond (.t 30)
 (.seq (.reg [⟨some 6, none, .mv (.c (.bool false))⟩])
 .ret)
 .skip)))))
 (.reg [⟨some 31, none, .bini .add (.t 17) (.c (.int .i64 1))⟩,
  ⟨some 17, none, .mv (.t 31)⟩])))))))
 (.seq (.reg [⟨some 6, none, .mv (.c (.bool true))⟩])
 .ret))))
theorem d67 : FnD Tryz.prog 67 3 29 [.tmp 6] c67 := ⟨Tryz.f67, _, Tryz.func67, by kernel_rfl, rfl, rfl, by kernel_rfl, by kernel_rfl⟩
end Go.Proofs.YtemjlopoffjmpaaGreat.Abs
namespace Go.Proofs.YtemjlopoffjmpaaGreat.Abs
open Go
def c68 : ACode :=
 (.seq (.reg [⟨some 2, none, .box (.t 0)⟩,
  ⟨some 3, none, .box (.t 1)⟩,
  ⟨some 4, none, .mv (.c (.bool false))⟩])
 (.seq (.reg [⟨some 5, none, .faddr 0 (.t 2)⟩,
  ⟨some 6, none, .load false 1 (.t 5)⟩,
  ⟨some 7, none, .faddr 0 (.t 3)⟩,
  ⟨some 8, none, .load false 1 (.t 7)⟩,
  ⟨some 9, none, .bini .eql (.t 6) (.t 8)⟩,
  ⟨some 10, none, .mv (.t 9)⟩,
  ⟨some 11, (some (10, true)), .faddr 1 (.t 2)⟩,
  ⟨some 12, (some (10, true)), .load false 1 (.t 11)⟩,
  ⟨some 13, (some (10, true)), .faddr 1 (.t 3)⟩,
  ⟨some 14, (some (10, true)), .load false 1 (.t 13)⟩,
  ⟨some 15, (some (10, true)), .bini .eql (.t 12) (.t 14)⟩,
  ⟨some 16, none, .pick (.t 10) (.t 15) (.c (.bool false))⟩,
  ⟨some 17, none, .mv (.t 16)⟩,
  ⟨some 18, (some (17, true)), .faddr 2 (.t 2)⟩,
  ⟨some 19, (some (17, true)), .load false 1 (.t 18)⟩,
  ⟨some 20, (some (17, true)), .faddr 2 (.t 3)⟩,
  ⟨some 21, (some (17, true)), .load false 1 (.t 20)⟩,
  ⟨some 22, (some (17, true)), .bini .eql (.t 19) (.t 21)⟩,
  ⟨some 23, none, .pick (.t 17) (.t 22) (.c (.bool false))⟩,
  ⟨some 24, none, .mv (.t 23)⟩,
  ⟨some 25, (some (24, true)), .faddr 3 (.t 2)⟩,
  ⟨some 26, (some (24, true)), .load false 1 (.t 25)⟩,
  ⟨some 27, (some (24, true)), .faddr 3 (.t 3)⟩,
  ⟨some 28, (some (24, true)), .load false 1 (.t 27)⟩,
  ⟨some 29, (some (24, true)), .bini .eql (.t 26) (.t 28)⟩,
  ⟨some 30, none, .pick (.t 24) (.t 29) (.c (.bool false))⟩,
  ⟨some 31, none, .mv (.t 30)⟩,
  ⟨some 32, (some (31, true)), .faddr 4 (.t 2)⟩,
  ⟨some 33, (some (31, true)), .load false 1 (.t 32)⟩,
  ⟨some 34, (some (31, true)), .faddr 4 (.t 3)⟩,
  ⟨some 35, (some (31, true)), .load false 1 (.t 34)⟩,
  ⟨some 36, (some (31, true)), .call 69 [(.t 33), (.t 35)]⟩,
  ⟨some 37, none, .pick (.t 31) (.t 36) (.c (.bool false))⟩,
  ⟨some 4, none, .mv (.t 37)⟩])
 .ret))
theorem d68 : FnD Tryz.prog 68 2 36 [.tmp 4] c68 := ⟨Tryz.f68, _, Tryz.func68, by kernel_rfl, rfl, rfl, by kernel_rfl, by kernel_rfl⟩
end Go.Proofs.YtemjlopoffjmpaaGreat.Abs
namespace Go.Proofs.YtemjlopoffjmpaaGreat.Abs
open Go
def c69 : ACode :=
 (.seq (.reg [⟨some 4, none, .mv (.c (.bool false))⟩])
 (.seq (.reg [⟨some 5, none, .mv (.t 0)⟩,
  ⟨some 6, none, .mv (.t 1)⟩,
  ⟨some 7, none, .call 107 [(.t 5), (.t 6)]⟩,
  ⟨some 4, none, .mv (.t 7)⟩])
 .ret))
theorem d69 : FnD Tryz.prog 69 2 6 [.tmp 4] c69 := ⟨Tryz.f69, _, Tryz.func69, by kernel_rfl, rfl, rfl, by kernel_rfl, by kernel_rfl⟩
end Go.Proofs.YtemjlopoffjmpaaGreat.Abs
namespace Go.Proofs.YtemjlopoffjmpaaGreat.Abs
open Go
def tabForms : List (Nat × FD) := [
 (59, ⟨2, 6, [.tmp 4], c59⟩),
 (102, ⟨2, 6, [.tmp 3], c102⟩),
 (101, ⟨2, 17, [.tmp 4], c101⟩),
 (60, ⟨3, 19, [.tmp 6], c60⟩),
 (56, ⟨1, 22, [.tmp 2], c56⟩),
 (48, ⟨1, 7, [.tmp 2], c48⟩),
 (49, ⟨1, 7, [.tmp 2], c49⟩),
 (57, ⟨3, 42, [.tmp 6, .tmp 7], c57⟩),
 (37, ⟨3, 21, [.tmp 6, .tmp 7], c37⟩),
 (24, ⟨3, 33, [.tmp 6, .tmp 7], c24⟩),
 (25, ⟨3, 33, [.tmp 6, .tmp 7], c25⟩),
 (29, ⟨2, 117, [.tmp 4, .tmp 5], c29⟩),
 (38, ⟨3, 69, [.tmp 6, .tmp 7], c38⟩),
 (32, ⟨2, 52, [.tmp 4, .tmp 5], c32⟩),
 (27, ⟨2, 17, [.cell 4 true 5, .tmp 5], c27⟩),
 (33, ⟨1, 28, [.tmp 2], c33⟩),
 (66, ⟨1, 71, [.tmp 2], c66⟩),
 (105, ⟨1, 5, [.tmp 2], c105⟩),
 (131, ⟨1, 63, [.tmp 2], c131⟩),
 (158, ⟨2, 36, [.tmp 4], c158⟩),
 (159, ⟨2, 17, [.tmp 4], c159⟩),
 (160, ⟨2, 48, [.tmp 4], c160⟩),
 (202, ⟨2, 21, [.tmp 4], c202⟩),
 (106, ⟨2, 24, [.tmp 4], c106⟩),
 (35, ⟨2, 6, [.tmp 4], c35⟩),
 (67, ⟨3, 29, [.tmp 6], c67⟩),
 (68, ⟨2, 36, [.tmp 4], c68⟩),
 (69, ⟨2, 6, [.tmp 4], c69⟩),
 (107, ⟨2, 24, [.tmp 4], c107⟩),
 (76, ⟨0, 7, [.tmp 0], c76⟩),
 (77, ⟨3, 17, [.tmp 4], c77⟩),
 (63, ⟨2, 7, [.tmp 4], c63⟩),
 (64, ⟨2, 6, [.tmp 3], c64⟩),
 (65, ⟨3, 30, [.tmp 6], c65⟩),
 (201, ⟨1, 21, [.tmp 2], c201⟩),
 (224, ⟨1, 15, [.tmp 2], c224⟩),
 (23, ⟨0, 89, [.tmp 0], c23⟩)]
theorem tabForms_ok : ∀ p ∈ tabForms, FnD Tryz.prog p.1 p.2.np p.2.nt p.2.res p.2.ac := by
 intro p hp
 simp only [tabForms, List.mem_cons, List.not_mem_nil, or_false] at hp
 rcases hp with rfl | rfl | rfl | rfl | rfl | rfl | rfl | rfl | rfl | rfl | rfl | rfl | rfl | rfl | rfl | rfl | rfl | rfl | rfl | rfl | rfl | rfl | rfl | rfl | rfl | rfl | rfl | rfl | rfl | rfl | rfl | rfl | rfl | rfl | rfl | rfl | rfl
 ·exact d59
 ·exact d102
 ·exact d101
 ·exact d60
 ·exact d56
 ·exact d48
 ·exact d49
 ·exact d57
 ·exact d37
 ·exact d24
 ·exact d25
 ·exact d29
 ·exact d38
 ·exact d32
 ·exact d27
 ·exact d33
 ·exact d66
 ·exact d105
 ·exact d131
 ·exact d158
 ·exact d159
 ·exact d160
 ·exact d202
 ·exact d106
 ·exact d35
 ·exact d67
 ·exact d68
 ·exact d69
 ·exact d107
 ·exact d76
 ·exact d77
 ·exact d63
 ·exact d64
 ·exact d65
 ·exact d201
 ·exact d224
 ·exact d23
end Go.Proofs.YtemjlopoffjmpaaGreat.Abs
namespace Go.Proofs.YtemjlopoffjmpaaGreat.Abs
open Go
def nf : PV := .fz [[.int .i64 2, .int .i64 0, .str [], .str [], .int .i64 0], [.int .i64 0, .int .i64 0, .str [], .str [], .int .i64 0], [.int .i64 0, .int .i64 0, .str [], .str [], .int .i64 0], [.int .i64 0, .int .i64 0, .str [], .str [], .int .i64 0], [.int .i64 0, .int .i64 0, .str [], .str [], .int .i64 0], [.int .i64 0, .int .i64 0, .str [], .str [], .int .i64 0], [.int .i64 0, .int .i64 0, .str [], .str [], .int .i64 0], [.int .i64 0, .int .i64 0, .str [], .str [], .int .i64 0]]
def fzF (f : Nat) : Bool := f == 76 || f == 49 || f == 37 || f == 24 || f == 25 || f == 29 || f == 38 || f == 32 || f == 27
theorem ev_ok : EvOk Tryz.prog (evF tabForms orcC fzF 40 40) := evF_ok tabForms_ok orcC_ok fzF 40 40
def m0 : Memo := ⟨37, [.emp, .int .i64 1, .int .i64 0], .tuple [.fz [[.int .i64 1, .int .i64 1, .int .i64 0, .int .i64 0, nf]], .int .i64 0]⟩
theorem m0_so : m0.so Tryz.prog := Memo.of ev_ok m0 (by kernel_rfl)
def m1 : Memo := ⟨24, [.fz [[.int .i64 1, .int .i64 1, .int .i64 0, .int .i64 0, nf]], .int .i64 2, .int .i64 1], .tuple [.fz [[.int .i64 1, .int .i64 1, .int .i64 0, .int .i64 0, nf], [.int .i64 2, .int .i64 2, .int .i64 1, .int .i64 0, nf]], .int .i64 0]⟩
theorem m1_so : m1.so Tryz.prog := Memo.of ev_ok m1 (by kernel_rfl)
def m2 : Memo := ⟨25, [.fz [[.int .i64 1, .int .i64 1, .int .i64 0, .int .i64 0, nf], [.int .i64 2, .int .i64 2, .int .i64 1, .int .i64 0, nf]], .int .i64 3, .int .i64 2], .tuple [.fz [[.int .i64 1, .int .i64 1, .int .i64 0, .int .i64 0, nf], [.int .i64 2, .int .i64 2, .int .i64 1, .int .i64 0, nf], [.int .i64 3, .int .i64 1, .int .i64 2, .int .i64 0, nf]], .int .i64 0]⟩
theorem m2_so : m2.so Tryz.prog := Memo.of ev_ok m2 (by kernel_rfl)
def m3 : Memo := ⟨29, [.fz [[.int .i64 1, .int .i64 1, .int .i64 0, .int .i64 0, nf], [.int .i64 2, .int .i64 2, .int .i64 1, .int .i64 0, nf], [.int .i64 3, .int .i64 1, .int .i64 2, .int .i64 0, nf]], .int .i64 3], .tuple [.fz [[.int .i64 1, .int .i64 1, .int .i64 2, .int .i64 0, nf], [.int .i64 2, .int .i64 2, .int .i64 3, .int .i64 0, nf], [.int .i64 3, .int .i64 1, .int .i64 0, .int .i64 0, nf]], .int .i64 0]⟩
theorem m3_so : m3.so Tryz.prog := Memo.of ev_ok m3 (by kernel_rfl)
def m4 : Memo := ⟨32, [.fz [[.int .i64 1, .int .i64 1, .int .i64 2, .int .i64 0, nf], [.int .i64 2, .int .i64 2, .int .i64 3, .int .i64 0, nf], [.int .i64 3, .int .i64 1, .int .i64 0, .int .i64 0, nf]], .int .i64 2], .tuple [.fz [[.int .i64 1, .int .i64 1, .int .i64 2, .int .i64 0, nf], [.int .i64 2, .int .i64 2, .int .i64 3, .int .i64 0, nf], [.int .i64 3, .int .i64 1, .int .i64 0, .int .i64 0, nf]], .int .i64 10]⟩
theorem m4_so : m4.so Tryz.prog := Memo.of ev_ok m4 (by kernel_rfl)
def m5 : Memo := ⟨33, [.fz [[.int .i64 1, .int .i64 1, .int .i64 2, .int .i64 0, nf], [.int .i64 2, .int .i64 2, .int .i64 3, .int .i64 0, nf], [.int .i64 3, .int .i64 1, .int .i64 0, .int .i64 0, nf]]], .bool true⟩
theorem m5_so : m5.so Tryz.prog := Memo.of ev_ok m5 (by kernel_rfl)
def m6 : Memo := ⟨35, [.fz [[.int .i64 1, .int .i64 1, .int .i64 2, .int .i64 0, nf], [.int .i64 2, .int .i64 2, .int .i64 3, .int .i64 0, nf], [.int .i64 3, .int .i64 1, .int .i64 0, .int .i64 0, nf]], .fz [[.int .i64 1, .int .i64 1, .int .i64 2, .int .i64 0, nf], [.int .i64 2, .int .i64 2, .int .i64 3, .int .i64 0, nf], [.int .i64 3, .int .i64 1, .int .i64 0, .int .i64 0, nf]]], .bool true⟩
theorem m6_so : m6.so Tryz.prog := Memo.of ev_ok m6 (by kernel_rfl)
def m7 : Memo := ⟨35, [.fz [[.int .i64 1, .int .i64 1, .int .i64 2, .int .i64 0, nf], [.int .i64 2, .int .i64 2, .int .i64 3, .int .i64 0, nf], [.int .i64 3, .int .i64 1, .int .i64 0, .int .i64 0, nf]], .fz [[.int .i64 1, .int .i64 1, .int .i64 0, .int .i64 0, nf], [.int .i64 2, .int .i64 2, .int .i64 1, .int .i64 0, nf], [.int .i64 3, .int .i64 1, .int .i64 2, .int .i64 0, nf]]], .bool false⟩
theorem m7_so : m7.so Tryz.prog := Memo.of ev_ok m7 (by kernel_rfl)
def memoB : List Memo := [m0, m1, m2, m3, m4, m5, m6, m7]
theorem memoB_so : ∀ m ∈ memoB, m.so Tryz.prog := by
 intro m hm
 simp only [memoB, List.mem_cons, List.not_mem_nil, or_false] at hm
 rcases hm with rfl | rfl | rfl | rfl | rfl | rfl | rfl | rfl
 ·exact m0_so
 ·exact m1_so
 ·exact m2_so
 ·exact m3_so
 ·exact m4_so
 ·exact m5_so
 ·exact m6_so
 ·exact m7_so
def m100 : Memo := ⟨23, [], .bool true⟩
theorem m100_so : m100.so Tryz.prog := Memo.of (evF_ok tabForms_ok (memo_ok orcC_ok memoB_so) fzF 40 40) m100 (by kernel_rfl)
end Go.Proofs.YtemjlopoffjmpaaGreat.Abs
set_option linter.unusedSimpArgs false
set_option linter.unusedVariables false
namespace Go.Proofs.YtemjlopoffjmpaaGreat.Abs
open Go Go.Proofs
theorem pick_index {n : Int} (hn : 0 ≤ n) {m : Nat} (hm : 0 < m) : ∃ k : Nat, n.tmod (m : Int) = k ∧ k < m := by
 have h1 := Int.tmod_nonneg (m : Int) hn
 have h2 := Int.tmod_lt_of_pos n (show (0 : Int) < m by omega)
 exact ⟨(n.tmod (m : Int)).toNat, by omega, by omega⟩
end Go.Proofs.YtemjlopoffjmpaaGreat.Abs
set_option linter.unusedSimpArgs false
set_option linter.unusedVariables false
namespace Go.Proofs.YtemjlopoffjmpaaGreat.Abs
open Go Go.Proofs
theorem rem_small {n : Int} (hn : 0 ≤ n) (m : Nat) (hm : 0 < m) : ∃ k : Nat, n.tmod (m : Int) = k ∧ k < m := pick_index hn hm
set_option maxRecDepth 10000 in
set_option maxHeartbeats 8000000 in
theorem setsFiles_spec (l : List UInt8) (a : Int) (ha : 0 ≤ a ∧ a ≤ 255) (b : Int) (hb : 0 ≤ b ∧ b ≤ 255) (what : Int) (hwh : 0 ≤ what ∧ what ≤ 255) : C Tryz.prog 9 [.fz (l.map pbyte), .int .u8 a, .int .u8 b, .int .u8 what] [] (fun x _ => x = .bool true) := by
 refine C_body d9 rfl ?_
 unfold c9
 refine W_stp ?_
 simp only [wk5, wk3, wk, iaddrV_map, Nat.reduceAdd, Nat.reduceSub, Nat.reduceMul, Nat.reduceLeDiff, Nat.reduceEqDiff, Nat.reduceBEq, Int.reduceLE, Int.reduceLT, Int.reduceEq, Int.reduceNe, Int.reduceAdd, Int.reduceSub, Int.reduceToNat, Int.reduceNeg, ↓reduceIte, reduceCtorEq]
 refine QStp_go (W_stp ?_)
 simp only [wk5, wk3, wk, iaddrV_map, Nat.reduceAdd, Nat.reduceSub, Nat.reduceMul, Nat.reduceLeDiff, Nat.reduceEqDiff, Nat.reduceBEq, Int.reduceLE, Int.reduceLT, Int.reduceEq, Int.reduceNe, Int.reduceAdd, Int.reduceSub, Int.reduceToNat, Int.reduceNeg, ↓reduceIte, reduceCtorEq]
 refine CT_ok (Memo.any m100_so []) ?_
 rintro _ _ ⟨rfl, rfl⟩
 simp only [m100, wk5, wk3, wk, iaddrV_map, Nat.reduceAdd, Nat.reduceSub, Nat.reduceMul, Nat.reduceLeDiff, Nat.reduceEqDiff, Nat.reduceBEq, Int.reduceLE, Int.reduceLT, Int.reduceEq, Int.reduceNe, Int.reduceAdd, Int.reduceSub, Int.reduceToNat, Int.reduceNeg, ↓reduceIte, reduceCtorEq]
 refine QStp_go (W_stp ?_)
 simp only [wk5, wk3, wk, iaddrV_map, Nat.reduceAdd, Nat.reduceSub, Nat.reduceMul, Nat.reduceLeDiff, Nat.reduceEqDiff, Nat.reduceBEq, Int.reduceLE, Int.reduceLT, Int.reduceEq, Int.reduceNe, Int.reduceAdd, Int.reduceSub, Int.reduceToNat, Int.reduceNeg, ↓reduceIte, reduceCtorEq]
 by_cases h1 : (80 : Int) < l.length
 ·simp only [h1, wk5, wk3, wk, iaddrV_map, Nat.reduceAdd, Nat.reduceSub, Nat.reduceMul, Nat.reduceLeDiff, Nat.reduceEqDiff, Nat.reduceBEq, Int.reduceLE, Int.reduceLT, Int.reduceEq, Int.reduceNe, Int.reduceAdd, Int.reduceSub, Int.reduceToNat, Int.reduceNeg, ↓reduceIte, reduceCtorEq]
 simp only [h1, wk5, wk3, wk, iaddrV_map, Nat.reduceAdd, Nat.reduceSub, Nat.reduceMul, Nat.reduceLeDiff, Nat.reduceEqDiff, Nat.reduceBEq, Int.reduceLE, Int.reduceLT, Int.reduceEq, Int.reduceNe, Int.reduceAdd, Int.reduceSub, Int.reduceToNat, Int.reduceNeg, ↓reduceIte, reduceCtorEq]
 refine QStp_go (W_stp ?_)
 simp only [wk5, wk3, wk, iaddrV_map, Nat.reduceAdd, Nat.reduceSub, Nat.reduceMul, Nat.reduceLeDiff, Nat.reduceEqDiff, Nat.reduceBEq, Int.reduceLE, Int.reduceLT, Int.reduceEq, Int.reduceNe, Int.reduceAdd, Int.reduceSub, Int.reduceToNat, Int.reduceNeg, ↓reduceIte, reduceCtorEq]
 refine CT_ok (made_spec l) ?_
 rintro _ _ ⟨rfl, rfl⟩
 simp only [wk5, wk3, wk, iaddrV_map, Nat.reduceAdd, Nat.reduceSub, Nat.reduceMul, Nat.reduceLeDiff, Nat.reduceEqDiff, Nat.reduceBEq, Int.reduceLE, Int.reduceLT, Int.reduceEq, Int.reduceNe, Int.reduceAdd, Int.reduceSub, Int.reduceToNat, Int.reduceNeg, ↓reduceIte, reduceCtorEq]
 refine CT_ok (sets14 l 0 25 (by omega) (by omega) (by omega)) ?_
 rintro _ _ ⟨L, n0, hL, hne0, _, rfl, rfl⟩
 simp only [wk5, wk3, wk, iaddrV_map, Nat.reduceAdd, Nat.reduceSub, Nat.reduceMul, Nat.reduceLeDiff, Nat.reduceEqDiff, Nat.reduceBEq, Int.reduceLE, Int.reduceLT, Int.reduceEq, Int.reduceNe, Int.reduceAdd, Int.reduceSub, Int.reduceToNat, Int.reduceNeg, ↓reduceIte, reduceCtorEq]
 refine QStp_go (W_stp ?_)
 obtain ⟨ia, hia, hia9⟩ := rem_small ha.1 9 (by omega)
 obtain ⟨ib, hib, hib9⟩ := rem_small hb.1 9 (by omega)
 have hw0 := Int.tmod_nonneg 6 hwh.1
 have hw6 := Int.tmod_lt_of_pos what (show (0 : Int) < 6 by omega)
 obtain ⟨w, hw⟩ : ∃ w, what.tmod 6 = w := ⟨_, rfl⟩
 rw [hw] at hw0 hw6
 replace hia : a.tmod 9 = ia := hia
 replace hib : b.tmod 9 = ib := hib
 have wa : IntKind.i64.wrap (ia : Int) = ia := IntWalk.i64_in _ (by omega)
 have wb : IntKind.i64.wrap (ib : Int) = ib := IntWalk.i64_in _ (by omega)
 have wa1 : IntKind.i64.wrap (1 + (ia : Int)) = 1 + (ia : Int) := IntWalk.i64_in _ (by omega)
 have wb1 : IntKind.i64.wrap (1 + (ib : Int)) = 1 + (ib : Int) := IntWalk.i64_in _ (by omega)
 simp only [asets, picksH, hia, hib, wa, wb, wa1, wb1, lay, wk5, wk3, wk, iaddrV_map, Nat.reduceAdd, Nat.reduceSub, Nat.reduceMul, Nat.reduceLeDiff, Nat.reduceEqDiff, Nat.reduceBEq, Int.reduceLE, Int.reduceLT, Int.reduceEq, Int.reduceNe, Int.reduceAdd, Int.reduceSub, Int.reduceToNat, Int.reduceNeg, ↓reduceIte, reduceCtorEq]
 generalize 1 + (ia : Int) = i
 generalize 1 + (ib : Int) = j
 refine QStp_go (W_stp ?_)
 simp only [lay, wk5, wk3, wk, iaddrV_map, Nat.reduceAdd, Nat.reduceSub, Nat.reduceMul, Nat.reduceLeDiff, Nat.reduceEqDiff, Nat.reduceBEq, Int.reduceLE, Int.reduceLT, Int.reduceEq, Int.reduceNe, Int.reduceAdd, Int.reduceSub, Int.reduceToNat, Int.reduceNeg, ↓reduceIte, reduceCtorEq]
 refine QStp_go (W_cut (fun fr H => ∃ (X : List Dset) (e : Int), DeedR L X e w i j ∧ Short X ∧ H = [] ∧ fr = [.fz (l.map pbyte), .int .u8 a, .int .u8 b, .int .u8 what, .top, .top, .top, .top, .bool false, asets L, .int .i64 i, .int .i64 j, asets X, .int .i64 e] ++ List.replicate 198 .top) ?_ ?_)
 ·have fin : ∀ (X : List Dset) (e : Int) (fr : List AV) (H : AH) (Q : APost) (m) (n), DeedR L X e w i j → Short X → Tops ([.fz (l.map pbyte), .int .u8 a, .int .u8 b, .int .u8 what, .top, .top, .top, .top, .bool false, asets L, .int .i64 i, .int .i64 j, asets X, .int .i64 e] ++ List.replicate 198 .top) (renL (fun _ => none) fr) →
   QCut 0 (fun fr H => ∃ (X : List Dset) (e : Int), DeedR L X e w i j ∧ Short X ∧ H = [] ∧ fr = [.fz (l.map pbyte), .int .u8 a, .int .u8 b, .int .u8 what, .top, .top, .top, .top, .bool false, asets L, .int .i64 i, .int .i64 j, asets X, .int .i64 e] ++ List.replicate 198 .top) Q m n .normal fr H := fun X e fr H Q m n h1 h2 h3 => QCut_go ⟨X, e, h1, h2, rfl, rfl⟩ (Wk_none h3)
  simp only [hw, lay, wk5, wk3, wk, iaddrV_map, Nat.reduceAdd, Nat.reduceSub, Nat.reduceMul, Nat.reduceLeDiff, Nat.reduceEqDiff, Nat.reduceBEq, Int.reduceLE, Int.reduceLT, Int.reduceEq, Int.reduceNe, Int.reduceAdd, Int.reduceSub, Int.reduceToNat, Int.reduceNeg, ↓reduceIte, reduceCtorEq]
  have hcase : w = 0 ∨ w = 1 ∨ w = 2 ∨ w = 3 ∨ w = 4 ∨ w = 5 := by omega
  rcases hcase with rfl | rfl | rfl | rfl | rfl | rfl
  ·simp only [lay, wk5, wk3, wk, iaddrV_map, Nat.reduceAdd, Nat.reduceSub, Nat.reduceMul, Nat.reduceLeDiff, Nat.reduceEqDiff, Nat.reduceBEq, Int.reduceLE, Int.reduceLT, Int.reduceEq, Int.reduceNe, Int.reduceAdd, Int.reduceSub, Int.reduceToNat, Int.reduceNeg, ↓reduceIte, reduceCtorEq]
   refine CT_ok (promoteL L hL.short i _) ?_
   rintro _ _ ⟨rfl, rfl⟩
   have hd := promote_deed hL i j
   have hs := (promoteA_may hL i).short
   generalize promoteA L i = r at hd hs
   obtain ⟨X, e⟩ := r
   simp only [outA, asets, lay, wk5, wk3, wk, iaddrV_map, Nat.reduceAdd, Nat.reduceSub, Nat.reduceMul, Nat.reduceLeDiff, Nat.reduceEqDiff, Nat.reduceBEq, Int.reduceLE, Int.reduceLT, Int.reduceEq, Int.reduceNe, Int.reduceAdd, Int.reduceSub, Int.reduceToNat, Int.reduceNeg, ↓reduceIte, reduceCtorEq]
   refine fin X e _ _ _ _ _ hd hs ?_
   simp only [asets, renL, ren, List.replicate_succ, List.replicate_zero, List.cons_append, List.nil_append, Tops_top, Tops_same, Tops_nil]
  ·simp only [lay, wk5, wk3, wk, iaddrV_map, Nat.reduceAdd, Nat.reduceSub, Nat.reduceMul, Nat.reduceLeDiff, Nat.reduceEqDiff, Nat.reduceBEq, Int.reduceLE, Int.reduceLT, Int.reduceEq, Int.reduceNe, Int.reduceAdd, Int.reduceSub, Int.reduceToNat, Int.reduceNeg, ↓reduceIte, reduceCtorEq]
   refine CT_ok (destroyL L hL.short i _) ?_
   rintro _ _ ⟨rfl, rfl⟩
   have hd := destroy_deed hL i j
   have hs := (destroyA_may hL i).short
   generalize destroyA L i = r at hd hs
   obtain ⟨X, e⟩ := r
   simp only [outA, asets, lay, wk5, wk3, wk, iaddrV_map, Nat.reduceAdd, Nat.reduceSub, Nat.reduceMul, Nat.reduceLeDiff, Nat.reduceEqDiff, Nat.reduceBEq, Int.reduceLE, Int.reduceLT, Int.reduceEq, Int.reduceNe, Int.reduceAdd, Int.reduceSub, Int.reduceToNat, Int.reduceNeg, ↓reduceIte, reduceCtorEq]
   refine fin X e _ _ _ _ _ hd hs ?_
   simp only [asets, renL, ren, List.replicate_succ, List.replicate_zero, List.cons_append, List.nil_append, Tops_top, Tops_same, Tops_nil]
  ·simp only [lay, wk5, wk3, wk, iaddrV_map, Nat.reduceAdd, Nat.reduceSub, Nat.reduceMul, Nat.reduceLeDiff, Nat.reduceEqDiff, Nat.reduceBEq, Int.reduceLE, Int.reduceLT, Int.reduceEq, Int.reduceNe, Int.reduceAdd, Int.reduceSub, Int.reduceToNat, Int.reduceNeg, ↓reduceIte, reduceCtorEq]
   refine CT_ok (dcloneL L hL.short 900 i _) ?_
   rintro _ _ ⟨rfl, rfl⟩
   have hd := clone_deed hL i j 900
   have hs := (cloneA_may hL 900 i).short
   generalize cloneA L 900 i = r at hd hs
   obtain ⟨X, e⟩ := r
   simp only [outA, asets, lay, wk5, wk3, wk, iaddrV_map, Nat.reduceAdd, Nat.reduceSub, Nat.reduceMul, Nat.reduceLeDiff, Nat.reduceEqDiff, Nat.reduceBEq, Int.reduceLE, Int.reduceLT, Int.reduceEq, Int.reduceNe, Int.reduceAdd, Int.reduceSub, Int.reduceToNat, Int.reduceNeg, ↓reduceIte, reduceCtorEq]
   refine fin X e _ _ _ _ _ hd hs ?_
   simp only [asets, renL, ren, List.replicate_succ, List.replicate_zero, List.cons_append, List.nil_append, Tops_top, Tops_same, Tops_nil]
  ·simp only [lay, wk5, wk3, wk, iaddrV_map, Nat.reduceAdd, Nat.reduceSub, Nat.reduceMul, Nat.reduceLeDiff, Nat.reduceEqDiff, Nat.reduceBEq, Int.reduceLE, Int.reduceLT, Int.reduceEq, Int.reduceNe, Int.reduceAdd, Int.reduceSub, Int.reduceToNat, Int.reduceNeg, ↓reduceIte, reduceCtorEq]
   refine CT_ok (snapL L hL.short 900 i _) ?_
   rintro _ _ ⟨rfl, rfl⟩
   have hd := snap_deed hL i j 900
   have hs := (snapA_may hL 900 i).short
   generalize snapA L 900 i = r at hd hs
   obtain ⟨X, e⟩ := r
   simp only [outA, asets, lay, wk5, wk3, wk, iaddrV_map, Nat.reduceAdd, Nat.reduceSub, Nat.reduceMul, Nat.reduceLeDiff, Nat.reduceEqDiff, Nat.reduceBEq, Int.reduceLE, Int.reduceLT, Int.reduceEq, Int.reduceNe, Int.reduceAdd, Int.reduceSub, Int.reduceToNat, Int.reduceNeg, ↓reduceIte, reduceCtorEq]
   refine fin X e _ _ _ _ _ hd hs ?_
   simp only [asets, renL, ren, List.replicate_succ, List.replicate_zero, List.cons_append, List.nil_append, Tops_top, Tops_same, Tops_nil]
  ·simp only [lay, wk5, wk3, wk, iaddrV_map, Nat.reduceAdd, Nat.reduceSub, Nat.reduceMul, Nat.reduceLeDiff, Nat.reduceEqDiff, Nat.reduceBEq, Int.reduceLE, Int.reduceLT, Int.reduceEq, Int.reduceNe, Int.reduceAdd, Int.reduceSub, Int.reduceToNat, Int.reduceNeg, ↓reduceIte, reduceCtorEq]
   refine CT_ok (createL L hL.short 900 j _) ?_
   rintro _ _ ⟨rfl, rfl⟩
   have hd := create_deed hL i j 900
   have hs := (createA_may hL 900 j).short
   generalize createA L 900 j = r at hd hs
   obtain ⟨X, e⟩ := r
   simp only [outA, asets, lay, wk5, wk3, wk, iaddrV_map, Nat.reduceAdd, Nat.reduceSub, Nat.reduceMul, Nat.reduceLeDiff, Nat.reduceEqDiff, Nat.reduceBEq, Int.reduceLE, Int.reduceLT, Int.reduceEq, Int.reduceNe, Int.reduceAdd, Int.reduceSub, Int.reduceToNat, Int.reduceNeg, ↓reduceIte, reduceCtorEq]
   refine fin X e _ _ _ _ _ hd hs ?_
   simp only [asets, renL, ren, List.replicate_succ, List.replicate_zero, List.cons_append, List.nil_append, Tops_top, Tops_same, Tops_nil]
  ·simp only [lay, wk5, wk3, wk, iaddrV_map, Nat.reduceAdd, Nat.reduceSub, Nat.reduceMul, Nat.reduceLeDiff, Nat.reduceEqDiff, Nat.reduceBEq, Int.reduceLE, Int.reduceLT, Int.reduceEq, Int.reduceNe, Int.reduceAdd, Int.reduceSub, Int.reduceToNat, Int.reduceNeg, ↓reduceIte, reduceCtorEq]
   refine CT_ok (backL L hL.short i j _) ?_
   rintro _ _ ⟨rfl, rfl⟩
   have hd := back_deed hL i j
   have hs := (backA_may hL i j).short
   generalize backA L i j = r at hd hs
   obtain ⟨X, e⟩ := r
   simp only [outA, asets, lay, wk5, wk3, wk, iaddrV_map, Nat.reduceAdd, Nat.reduceSub, Nat.reduceMul, Nat.reduceLeDiff, Nat.reduceEqDiff, Nat.reduceBEq, Int.reduceLE, Int.reduceLT, Int.reduceEq, Int.reduceNe, Int.reduceAdd, Int.reduceSub, Int.reduceToNat, Int.reduceNeg, ↓reduceIte, reduceCtorEq]
   refine fin X e _ _ _ _ _ hd hs ?_
   simp only [asets, renL, ren, List.replicate_succ, List.replicate_zero, List.cons_append, List.nil_append, Tops_top, Tops_same, Tops_nil]
 rintro fr H ⟨X, e, hd, hXs, rfl, rfl⟩
 refine W_stp ?_
 simp only [asets, lay, wk5, wk3, wk, iaddrV_map, Nat.reduceAdd, Nat.reduceSub, Nat.reduceMul, Nat.reduceLeDiff, Nat.reduceEqDiff, Nat.reduceBEq, Int.reduceLE, Int.reduceLT, Int.reduceEq, Int.reduceNe, Int.reduceAdd, Int.reduceSub, Int.reduceToNat, Int.reduceNeg, ↓reduceIte, reduceCtorEq]
 by_cases he : e = 0
 case neg =>
  have hXe : X = L := hd.1 he
  subst hXe
  have hs : decide (X = X) = true := decide_eq_true rfl
  simp only [he, lay, wk5, wk3, wk, iaddrV_map, Nat.reduceAdd, Nat.reduceSub, Nat.reduceMul, Nat.reduceLeDiff, Nat.reduceEqDiff, Nat.reduceBEq, Int.reduceLE, Int.reduceLT, Int.reduceEq, Int.reduceNe, Int.reduceAdd, Int.reduceSub, Int.reduceToNat, Int.reduceNeg, ↓reduceIte, reduceCtorEq]
  refine CT_ok (sameS X X hL.short hL.short _) ?_
  rintro _ _ ⟨rfl, rfl⟩
  simp only [hs, lay, wk5, wk3, wk, iaddrV_map, Nat.reduceAdd, Nat.reduceSub, Nat.reduceMul, Nat.reduceLeDiff, Nat.reduceEqDiff, Nat.reduceBEq, Int.reduceLE, Int.reduceLT, Int.reduceEq, Int.reduceNe, Int.reduceAdd, Int.reduceSub, Int.reduceToNat, Int.reduceNeg, ↓reduceIte, reduceCtorEq]
 obtain ⟨h5s, hF⟩ := hd.2 he
 have hXM := hF.may
 simp only [he, lay, wk5, wk3, wk, iaddrV_map, Nat.reduceAdd, Nat.reduceSub, Nat.reduceMul, Nat.reduceLeDiff, Nat.reduceEqDiff, Nat.reduceBEq, Int.reduceLE, Int.reduceLT, Int.reduceEq, Int.reduceNe, Int.reduceAdd, Int.reduceSub, Int.reduceToNat, Int.reduceNeg, ↓reduceIte, reduceCtorEq]
 refine QStp_go (W_stp ?_)
 simp only [lay, wk5, wk3, wk, iaddrV_map, Nat.reduceAdd, Nat.reduceSub, Nat.reduceMul, Nat.reduceLeDiff, Nat.reduceEqDiff, Nat.reduceBEq, Int.reduceLE, Int.reduceLT, Int.reduceEq, Int.reduceNe, Int.reduceAdd, Int.reduceSub, Int.reduceToNat, Int.reduceNeg, ↓reduceIte, reduceCtorEq]
 have hlen0 := hL.len
 refine QStp_go (W_cut (fun fr H => H = [] ∧ fr = [.fz (l.map pbyte), .int .u8 a, .int .u8 b, .int .u8 what, .top, .top, .top, .top, .bool false, asets L, .int .i64 i, .int .i64 j, asets X, .int .i64 0, .int .i64 (wantA L.length w)] ++ List.replicate 197 .top) ?_ ?_)
 ·have wm : IntKind.i64.wrap ((L.length : Int) - 1) = (L.length : Int) - 1 := IntWalk.i64_in _ (by omega)
  have wp : IntKind.i64.wrap ((L.length : Int) + 1) = (L.length : Int) + 1 := IntWalk.i64_in _ (by omega)
  clear hF hd h5s
  have hcase : w = 0 ∨ w = 1 ∨ w = 2 ∨ w = 3 ∨ w = 4 ∨ w = 5 := by omega
  rcases hcase with rfl | rfl | rfl | rfl | rfl | rfl
  all_goals
   simp only [hw, wm, wp, lay, wk5, wk3, wk, iaddrV_map, Nat.reduceAdd, Nat.reduceSub, Nat.reduceMul, Nat.reduceLeDiff, Nat.reduceEqDiff, Nat.reduceBEq, Int.reduceLE, Int.reduceLT, Int.reduceEq, Int.reduceNe, Int.reduceAdd, Int.reduceSub, Int.reduceToNat, Int.reduceNeg, ↓reduceIte, reduceCtorEq]
   refine QCut_go ⟨rfl, rfl⟩ (Wk_tops ?_)
   simp only [wantA, asets, true_or, or_true, or_false, Int.reduceEq, if_true, if_false, List.replicate_succ, List.replicate_zero, List.cons_append, List.nil_append, Tops_top, Tops_same, Tops_nil]
 rintro fr H ⟨rfl, rfl⟩
 have hwn : wantA L.length w = X.length := hF.len.symm
 refine W_cut (fun fr H => H = [] ∧ fr = [.fz (l.map pbyte), .int .u8 a, .int .u8 b, .int .u8 what, .top, .top, .top, .top, .bool false, asets L, .int .i64 i, .int .i64 j, asets X, .int .i64 0, .int .i64 (wantA L.length w)] ++ List.replicate 197 .top) ?_ ?_
 ·simp only [wk5, wk3, wk, iaddrV_map, Nat.reduceAdd, Nat.reduceSub, Nat.reduceMul, Nat.reduceLeDiff, Nat.reduceEqDiff, Nat.reduceBEq, Int.reduceLE, Int.reduceLT, Int.reduceEq, Int.reduceNe, Int.reduceAdd, Int.reduceSub, Int.reduceToNat, Int.reduceNeg, ↓reduceIte, reduceCtorEq]
  refine WT_loop (W_wk (fr' := [.fz (l.map pbyte), .int .u8 a, .int .u8 b, .int .u8 what, .top, .top, .top, .top, .bool false, asets L, .int .i64 i, .int .i64 j, asets X, .int .i64 0, .int .i64 (wantA L.length w), .int .i64 (0 : Nat)] ++ List.replicate 196 .top) (Wk_tops ?_) (W_loop (fun nn fr H' => ∃ k : Nat, k ≤ L.length ∧ nn = L.length - k ∧ H' = [] ∧ fr = [.fz (l.map pbyte), .int .u8 a, .int .u8 b, .int .u8 what, .top, .top, .top, .top, .bool false, asets L, .int .i64 i, .int .i64 j, asets X, .int .i64 0, .int .i64 (wantA L.length w), .int .i64 k] ++ List.replicate 196 .top) L.length ⟨0, by omega, rfl, rfl, rfl⟩ ?_))
  ·simp only [asets, List.replicate_succ, List.replicate_zero, List.cons_append, List.nil_append, Tops_top, Tops_same, Tops_nil, Int.natCast_zero]
  rintro nn fr H' ⟨k, hk, rfl, rfl, rfl⟩
  refine WT_ok ?_
  simp only [asets, lay, wk5, wk3, wk, iaddrV_map, Nat.reduceAdd, Nat.reduceSub, Nat.reduceMul, Nat.reduceLeDiff, Nat.reduceEqDiff, Nat.reduceBEq, Int.reduceLE, Int.reduceLT, Int.reduceEq, Int.reduceNe, Int.reduceAdd, Int.reduceSub, Int.reduceToNat, Int.reduceNeg, ↓reduceIte, reduceCtorEq]
  by_cases h5 : (k : Int) < L.length
  ·have w4 : IntKind.i64.wrap ((k : Int) + 1) = (k : Int) + 1 := IntWalk.i64_in _ (by omega)
   have k0 : (0 : Int) ≤ k := by omega
   have hkl : k < L.length := by omega
   have e6' : ∀ x, (pdset x).length = 5 := fun _ => rfl
   have hm := dgetD_mem hkl
   generalize hde : L.getD k default = d at hm
   simp only [h5, k0, e6', hde, iaddr_dset, Int.toNat_natCast, pdset, lay, wk5, wk3, wk, iaddrV_map, Nat.reduceAdd, Nat.reduceSub, Nat.reduceMul, Nat.reduceLeDiff, Nat.reduceEqDiff, Nat.reduceBEq, Int.reduceLE, Int.reduceLT, Int.reduceEq, Int.reduceNe, Int.reduceAdd, Int.reduceSub, Int.reduceToNat, Int.reduceNeg, ↓reduceIte, reduceCtorEq]
   refine CT_ok (getL X hXM.short d.id _) ?_
   rintro _ _ ⟨rfl, rfl⟩
   have hdf := (hL.each d hm).files.len
   by_cases hg : w = 1 ∧ d.id = i
   ·rw [hF.gone hg.1 d hm hg.2]
    simp only [getV, hw, hg.1, hg.2, h5, k0, e6', hde, iaddr_dset, Int.toNat_natCast, pdset, w4, lay, wk5, wk3, wk, iaddrV_map, Nat.reduceAdd, Nat.reduceSub, Nat.reduceMul, Nat.reduceLeDiff, Nat.reduceEqDiff, Nat.reduceBEq, Int.reduceLE, Int.reduceLT, Int.reduceEq, Int.reduceNe, Int.reduceAdd, Int.reduceSub, Int.reduceToNat, Int.reduceNeg, ↓reduceIte, reduceCtorEq]
    refine QLoop_wk (n' := L.length - (k + 1)) (by omega) ⟨k + 1, by omega, rfl, rfl, rfl⟩ (Wk_clear ?_)
    simp only [hg.1, asets, renL, ren, List.replicate_succ, List.replicate_zero, List.cons_append, List.nil_append, Tops_top, Tops_same, Tops_nil, Int.natCast_add, Int.natCast_one]
   obtain ⟨d', g1, g2, g3, g4, g5⟩ := hF.kept d hm hg
   rw [g1]
   simp only [getV, cellD, aset, lay, wk5, wk3, wk, iaddrV_map, Nat.reduceAdd, Nat.reduceSub, Nat.reduceMul, Nat.reduceLeDiff, Nat.reduceEqDiff, Nat.reduceBEq, Int.reduceLE, Int.reduceLT, Int.reduceEq, Int.reduceNe, Int.reduceAdd, Int.reduceSub, Int.reduceToNat, Int.reduceNeg, ↓reduceIte, reduceCtorEq]
   have hdd : ∀ s : List Node, decide (s = s) = true := fun s => decide_eq_true rfl
   by_cases c1 : w = 1
   ·have c2 : ¬ d.id = i := fun h => hg ⟨c1, h⟩
    rw [if_neg (by omega)] at g5
    replace g4 := g4 (by omega)
    simp only [hw, c1, c2, h5, k0, e6', hde, iaddr_dset, Int.toNat_natCast, pdset, lay, wk5, wk3, wk, iaddrV_map, Nat.reduceAdd, Nat.reduceSub, Nat.reduceMul, Nat.reduceLeDiff, Nat.reduceEqDiff, Nat.reduceBEq, Int.reduceLE, Int.reduceLT, Int.reduceEq, Int.reduceNe, Int.reduceAdd, Int.reduceSub, Int.reduceToNat, Int.reduceNeg, ↓reduceIte, reduceCtorEq]
    refine WT_drawE ?_
    simp only [c1, c2, g2, g3, g5, lay, wk5, wk3, wk, iaddrV_map, Nat.reduceAdd, Nat.reduceSub, Nat.reduceMul, Nat.reduceLeDiff, Nat.reduceEqDiff, Nat.reduceBEq, Int.reduceLE, Int.reduceLT, Int.reduceEq, Int.reduceNe, Int.reduceAdd, Int.reduceSub, Int.reduceToNat, Int.reduceNeg, ↓reduceIte, reduceCtorEq]
    refine WDT_more 0 ?_
    simp only [c1, c2, g2, g3, g5, h5, k0, e6', hde, iaddr_dset, Int.toNat_natCast, pdset, lay, wk5, wk3, wk, iaddrV_map, Nat.reduceAdd, Nat.reduceSub, Nat.reduceMul, Nat.reduceLeDiff, Nat.reduceEqDiff, Nat.reduceBEq, Int.reduceLE, Int.reduceLT, Int.reduceEq, Int.reduceNe, Int.reduceAdd, Int.reduceSub, Int.reduceToNat, Int.reduceNeg, ↓reduceIte, reduceCtorEq]
    refine ⟨by rfl, ?_⟩
    refine WDT_more 0 ?_
    simp only [c1, c2, g2, g3, g5, h5, k0, e6', hde, iaddr_dset, Int.toNat_natCast, pdset, lay, wk5, wk3, wk, iaddrV_map, Nat.reduceAdd, Nat.reduceSub, Nat.reduceMul, Nat.reduceLeDiff, Nat.reduceEqDiff, Nat.reduceBEq, Int.reduceLE, Int.reduceLT, Int.reduceEq, Int.reduceNe, Int.reduceAdd, Int.reduceSub, Int.reduceToNat, Int.reduceNeg, ↓reduceIte, reduceCtorEq]
    refine ⟨by rfl, ?_⟩
    refine WDT_more 0 ?_
    simp only [c1, c2, g2, g3, g5, lay, wk5, wk3, wk, iaddrV_map, Nat.reduceAdd, Nat.reduceSub, Nat.reduceMul, Nat.reduceLeDiff, Nat.reduceEqDiff, Nat.reduceBEq, Int.reduceLE, Int.reduceLT, Int.reduceEq, Int.reduceNe, Int.reduceAdd, Int.reduceSub, Int.reduceToNat, Int.reduceNeg, ↓reduceIte, reduceCtorEq]
    refine ⟨by rfl, ?_⟩
    refine CT_ok (same33 d.files d.files (by omega) (by omega) _) ?_
    rintro _ _ ⟨rfl, rfl⟩
    simp only [c1, c2, hw, hdd, lay, wk5, wk3, wk, iaddrV_map, Nat.reduceAdd, Nat.reduceSub, Nat.reduceMul, Nat.reduceLeDiff, Nat.reduceEqDiff, Nat.reduceBEq, Int.reduceLE, Int.reduceLT, Int.reduceEq, Int.reduceNe, Int.reduceAdd, Int.reduceSub, Int.reduceToNat, Int.reduceNeg, ↓reduceIte, reduceCtorEq]
    refine WDT_more 0 ?_
    simp only [c1, c2, g4, h5, k0, e6', hde, iaddr_dset, Int.toNat_natCast, pdset, w4, lay, wk5, wk3, wk, iaddrV_map, Nat.reduceAdd, Nat.reduceSub, Nat.reduceMul, Nat.reduceLeDiff, Nat.reduceEqDiff, Nat.reduceBEq, Int.reduceLE, Int.reduceLT, Int.reduceEq, Int.reduceNe, Int.reduceAdd, Int.reduceSub, Int.reduceToNat, Int.reduceNeg, ↓reduceIte, reduceCtorEq]
    refine ⟨by rfl, ?_⟩
    refine QLoop_wk (n' := L.length - (k + 1)) (by omega) ⟨k + 1, by omega, rfl, rfl, rfl⟩ (Wk_clear ?_)
    simp only [c1, c2, asets, renL, ren, List.replicate_succ, List.replicate_zero, List.cons_append, List.nil_append, Tops_top, Tops_same, Tops_nil, Int.natCast_add, Int.natCast_one]
   by_cases c5 : w = 5
   ·replace g4 := g4 (by omega)
    by_cases c2 : d.id = i
    ·obtain ⟨s, hs⟩ := h5s c5
     rw [if_pos ⟨c5, c2⟩, hs] at g5
     replace g5 : d'.files = s.files := g5
     have hsf := (hL.each s (getA_mem hs).1).files.len
     simp only [hw, c5, c2, h5, k0, e6', hde, iaddr_dset, Int.toNat_natCast, pdset, lay, wk5, wk3, wk, iaddrV_map, Nat.reduceAdd, Nat.reduceSub, Nat.reduceMul, Nat.reduceLeDiff, Nat.reduceEqDiff, Nat.reduceBEq, Int.reduceLE, Int.reduceLT, Int.reduceEq, Int.reduceNe, Int.reduceAdd, Int.reduceSub, Int.reduceToNat, Int.reduceNeg, ↓reduceIte, reduceCtorEq]
     refine CT_ok (rgetL L hL.short.1 j _) ?_
     rintro _ _ ⟨rfl, rfl⟩
     rw [hs]
     simp only [getV, cellD, aset, lay, wk5, wk3, wk, iaddrV_map, Nat.reduceAdd, Nat.reduceSub, Nat.reduceMul, Nat.reduceLeDiff, Nat.reduceEqDiff, Nat.reduceBEq, Int.reduceLE, Int.reduceLT, Int.reduceEq, Int.reduceNe, Int.reduceAdd, Int.reduceSub, Int.reduceToNat, Int.reduceNeg, ↓reduceIte, reduceCtorEq]
     refine WT_drawE ?_
     simp only [c5, c2, g2, g3, g5, lay, wk5, wk3, wk, iaddrV_map, Nat.reduceAdd, Nat.reduceSub, Nat.reduceMul, Nat.reduceLeDiff, Nat.reduceEqDiff, Nat.reduceBEq, Int.reduceLE, Int.reduceLT, Int.reduceEq, Int.reduceNe, Int.reduceAdd, Int.reduceSub, Int.reduceToNat, Int.reduceNeg, ↓reduceIte, reduceCtorEq]
     refine WDT_more 0 ?_
     simp only [c5, c2, g2, g3, g5, h5, k0, e6', hde, iaddr_dset, Int.toNat_natCast, pdset, lay, wk5, wk3, wk, iaddrV_map, Nat.reduceAdd, Nat.reduceSub, Nat.reduceMul, Nat.reduceLeDiff, Nat.reduceEqDiff, Nat.reduceBEq, Int.reduceLE, Int.reduceLT, Int.reduceEq, Int.reduceNe, Int.reduceAdd, Int.reduceSub, Int.reduceToNat, Int.reduceNeg, ↓reduceIte, reduceCtorEq]
     refine ⟨by rfl, ?_⟩
     refine WDT_more 0 ?_
     simp only [c5, c2, g2, g3, g5, h5, k0, e6', hde, iaddr_dset, Int.toNat_natCast, pdset, lay, wk5, wk3, wk, iaddrV_map, Nat.reduceAdd, Nat.reduceSub, Nat.reduceMul, Nat.reduceLeDiff, Nat.reduceEqDiff, Nat.reduceBEq, Int.reduceLE, Int.reduceLT, Int.reduceEq, Int.reduceNe, Int.reduceAdd, Int.reduceSub, Int.reduceToNat, Int.reduceNeg, ↓reduceIte, reduceCtorEq]
     refine ⟨by rfl, ?_⟩
     refine WDT_more 0 ?_
     simp only [c5, c2, g2, g3, g5, lay, wk5, wk3, wk, iaddrV_map, Nat.reduceAdd, Nat.reduceSub, Nat.reduceMul, Nat.reduceLeDiff, Nat.reduceEqDiff, Nat.reduceBEq, Int.reduceLE, Int.reduceLT, Int.reduceEq, Int.reduceNe, Int.reduceAdd, Int.reduceSub, Int.reduceToNat, Int.reduceNeg, ↓reduceIte, reduceCtorEq]
     refine ⟨by rfl, ?_⟩
     refine CT_ok (same33 s.files s.files (by omega) (by omega) _) ?_
     rintro _ _ ⟨rfl, rfl⟩
     simp only [c5, c2, hw, hdd, lay, wk5, wk3, wk, iaddrV_map, Nat.reduceAdd, Nat.reduceSub, Nat.reduceMul, Nat.reduceLeDiff, Nat.reduceEqDiff, Nat.reduceBEq, Int.reduceLE, Int.reduceLT, Int.reduceEq, Int.reduceNe, Int.reduceAdd, Int.reduceSub, Int.reduceToNat, Int.reduceNeg, ↓reduceIte, reduceCtorEq]
     refine WDT_more 0 ?_
     simp only [c5, c2, g4, h5, k0, e6', hde, iaddr_dset, Int.toNat_natCast, pdset, w4, lay, wk5, wk3, wk, iaddrV_map, Nat.reduceAdd, Nat.reduceSub, Nat.reduceMul, Nat.reduceLeDiff, Nat.reduceEqDiff, Nat.reduceBEq, Int.reduceLE, Int.reduceLT, Int.reduceEq, Int.reduceNe, Int.reduceAdd, Int.reduceSub, Int.reduceToNat, Int.reduceNeg, ↓reduceIte, reduceCtorEq]
     refine ⟨by rfl, ?_⟩
     refine QLoop_wk (n' := L.length - (k + 1)) (by omega) ⟨k + 1, by omega, rfl, rfl, rfl⟩ (Wk_clear ?_)
     simp only [c5, c2, asets, renL, ren, List.replicate_succ, List.replicate_zero, List.cons_append, List.nil_append, Tops_top, Tops_same, Tops_nil, Int.natCast_add, Int.natCast_one]
    ·rw [if_neg (fun h => c2 h.2)] at g5
     simp only [hw, c5, c2, h5, k0, e6', hde, iaddr_dset, Int.toNat_natCast, pdset, lay, wk5, wk3, wk, iaddrV_map, Nat.reduceAdd, Nat.reduceSub, Nat.reduceMul, Nat.reduceLeDiff, Nat.reduceEqDiff, Nat.reduceBEq, Int.reduceLE, Int.reduceLT, Int.reduceEq, Int.reduceNe, Int.reduceAdd, Int.reduceSub, Int.reduceToNat, Int.reduceNeg, ↓reduceIte, reduceCtorEq]
     refine WT_drawE ?_
     simp only [c5, c2, g2, g3, g5, lay, wk5, wk3, wk, iaddrV_map, Nat.reduceAdd, Nat.reduceSub, Nat.reduceMul, Nat.reduceLeDiff, Nat.reduceEqDiff, Nat.reduceBEq, Int.reduceLE, Int.reduceLT, Int.reduceEq, Int.reduceNe, Int.reduceAdd, Int.reduceSub, Int.reduceToNat, Int.reduceNeg, ↓reduceIte, reduceCtorEq]
     refine WDT_more 0 ?_
     simp only [c5, c2, g2, g3, g5, h5, k0, e6', hde, iaddr_dset, Int.toNat_natCast, pdset, lay, wk5, wk3, wk, iaddrV_map, Nat.reduceAdd, Nat.reduceSub, Nat.reduceMul, Nat.reduceLeDiff, Nat.reduceEqDiff, Nat.reduceBEq, Int.reduceLE, Int.reduceLT, Int.reduceEq, Int.reduceNe, Int.reduceAdd, Int.reduceSub, Int.reduceToNat, Int.reduceNeg, ↓reduceIte, reduceCtorEq]
     refine ⟨by rfl, ?_⟩
     refine WDT_more 0 ?_
     simp only [c5, c2, g2, g3, g5, h5, k0, e6', hde, iaddr_dset, Int.toNat_natCast, pdset, lay, wk5, wk3, wk, iaddrV_map, Nat.reduceAdd, Nat.reduceSub, Nat.reduceMul, Nat.reduceLeDiff, Nat.reduceEqDiff, Nat.reduceBEq, Int.reduceLE, Int.reduceLT, Int.reduceEq, Int.reduceNe, Int.reduceAdd, Int.reduceSub, Int.reduceToNat, Int.reduceNeg, ↓reduceIte, reduceCtorEq]
     refine ⟨by rfl, ?_⟩
     refine WDT_more 0 ?_
     simp only [c5, c2, g2, g3, g5, lay, wk5, wk3, wk, iaddrV_map, Nat.reduceAdd, Nat.reduceSub, Nat.reduceMul, Nat.reduceLeDiff, Nat.reduceEqDiff, Nat.reduceBEq, Int.reduceLE, Int.reduceLT, Int.reduceEq, Int.reduceNe, Int.reduceAdd, Int.reduceSub, Int.reduceToNat, Int.reduceNeg, ↓reduceIte, reduceCtorEq]
     refine ⟨by rfl, ?_⟩
     refine CT_ok (same33 d.files d.files (by omega) (by omega) _) ?_
     rintro _ _ ⟨rfl, rfl⟩
     simp only [c5, c2, hw, hdd, lay, wk5, wk3, wk, iaddrV_map, Nat.reduceAdd, Nat.reduceSub, Nat.reduceMul, Nat.reduceLeDiff, Nat.reduceEqDiff, Nat.reduceBEq, Int.reduceLE, Int.reduceLT, Int.reduceEq, Int.reduceNe, Int.reduceAdd, Int.reduceSub, Int.reduceToNat, Int.reduceNeg, ↓reduceIte, reduceCtorEq]
     refine WDT_more 0 ?_
     simp only [c5, c2, g4, h5, k0, e6', hde, iaddr_dset, Int.toNat_natCast, pdset, w4, lay, wk5, wk3, wk, iaddrV_map, Nat.reduceAdd, Nat.reduceSub, Nat.reduceMul, Nat.reduceLeDiff, Nat.reduceEqDiff, Nat.reduceBEq, Int.reduceLE, Int.reduceLT, Int.reduceEq, Int.reduceNe, Int.reduceAdd, Int.reduceSub, Int.reduceToNat, Int.reduceNeg, ↓reduceIte, reduceCtorEq]
     refine ⟨by rfl, ?_⟩
     refine QLoop_wk (n' := L.length - (k + 1)) (by omega) ⟨k + 1, by omega, rfl, rfl, rfl⟩ (Wk_clear ?_)
     simp only [c5, c2, asets, renL, ren, List.replicate_succ, List.replicate_zero, List.cons_append, List.nil_append, Tops_top, Tops_same, Tops_nil, Int.natCast_add, Int.natCast_one]
   rw [if_neg (fun h => c5 h.1)] at g5
   by_cases c0 : w = 0
   ·simp only [hw, c0, h5, k0, e6', hde, iaddr_dset, Int.toNat_natCast, pdset, lay, wk5, wk3, wk, iaddrV_map, Nat.reduceAdd, Nat.reduceSub, Nat.reduceMul, Nat.reduceLeDiff, Nat.reduceEqDiff, Nat.reduceBEq, Int.reduceLE, Int.reduceLT, Int.reduceEq, Int.reduceNe, Int.reduceAdd, Int.reduceSub, Int.reduceToNat, Int.reduceNeg, ↓reduceIte, reduceCtorEq]
    refine WT_drawE ?_
    simp only [c0, g2, g3, g5, lay, wk5, wk3, wk, iaddrV_map, Nat.reduceAdd, Nat.reduceSub, Nat.reduceMul, Nat.reduceLeDiff, Nat.reduceEqDiff, Nat.reduceBEq, Int.reduceLE, Int.reduceLT, Int.reduceEq, Int.reduceNe, Int.reduceAdd, Int.reduceSub, Int.reduceToNat, Int.reduceNeg, ↓reduceIte, reduceCtorEq]
    refine WDT_more 0 ?_
    simp only [c0, g2, g3, g5, h5, k0, e6', hde, iaddr_dset, Int.toNat_natCast, pdset, lay, wk5, wk3, wk, iaddrV_map, Nat.reduceAdd, Nat.reduceSub, Nat.reduceMul, Nat.reduceLeDiff, Nat.reduceEqDiff, Nat.reduceBEq, Int.reduceLE, Int.reduceLT, Int.reduceEq, Int.reduceNe, Int.reduceAdd, Int.reduceSub, Int.reduceToNat, Int.reduceNeg, ↓reduceIte, reduceCtorEq]
    refine ⟨by rfl, ?_⟩
    refine WDT_more 0 ?_
    simp only [c0, g2, g3, g5, h5, k0, e6', hde, iaddr_dset, Int.toNat_natCast, pdset, lay, wk5, wk3, wk, iaddrV_map, Nat.reduceAdd, Nat.reduceSub, Nat.reduceMul, Nat.reduceLeDiff, Nat.reduceEqDiff, Nat.reduceBEq, Int.reduceLE, Int.reduceLT, Int.reduceEq, Int.reduceNe, Int.reduceAdd, Int.reduceSub, Int.reduceToNat, Int.reduceNeg, ↓reduceIte, reduceCtorEq]
    refine ⟨by rfl, ?_⟩
    refine WDT_more 0 ?_
    simp only [c0, g2, g3, g5, lay, wk5, wk3, wk, iaddrV_map, Nat.reduceAdd, Nat.reduceSub, Nat.reduceMul, Nat.reduceLeDiff, Nat.reduceEqDiff, Nat.reduceBEq, Int.reduceLE, Int.reduceLT, Int.reduceEq, Int.reduceNe, Int.reduceAdd, Int.reduceSub, Int.reduceToNat, Int.reduceNeg, ↓reduceIte, reduceCtorEq]
    refine ⟨by rfl, ?_⟩
    refine CT_ok (same33 d.files d.files (by omega) (by omega) _) ?_
    rintro _ _ ⟨rfl, rfl⟩
    simp only [c0, hw, hdd, lay, wk5, wk3, wk, iaddrV_map, Nat.reduceAdd, Nat.reduceSub, Nat.reduceMul, Nat.reduceLeDiff, Nat.reduceEqDiff, Nat.reduceBEq, Int.reduceLE, Int.reduceLT, Int.reduceEq, Int.reduceNe, Int.reduceAdd, Int.reduceSub, Int.reduceToNat, Int.reduceNeg, ↓reduceIte, reduceCtorEq]
    refine WDT_more 0 ?_
    simp only [c0, h5, k0, e6', hde, iaddr_dset, Int.toNat_natCast, pdset, w4, lay, wk5, wk3, wk, iaddrV_map, Nat.reduceAdd, Nat.reduceSub, Nat.reduceMul, Nat.reduceLeDiff, Nat.reduceEqDiff, Nat.reduceBEq, Int.reduceLE, Int.reduceLT, Int.reduceEq, Int.reduceNe, Int.reduceAdd, Int.reduceSub, Int.reduceToNat, Int.reduceNeg, ↓reduceIte, reduceCtorEq]
    refine ⟨by rfl, ?_⟩
    refine QLoop_wk (n' := L.length - (k + 1)) (by omega) ⟨k + 1, by omega, rfl, rfl, rfl⟩ (Wk_clear ?_)
    simp only [c0, asets, renL, ren, List.replicate_succ, List.replicate_zero, List.cons_append, List.nil_append, Tops_top, Tops_same, Tops_nil, Int.natCast_add, Int.natCast_one]
   ·replace g4 := g4 c0
    simp only [hw, c0, c1, c5, h5, k0, e6', hde, iaddr_dset, Int.toNat_natCast, pdset, lay, wk5, wk3, wk, iaddrV_map, Nat.reduceAdd, Nat.reduceSub, Nat.reduceMul, Nat.reduceLeDiff, Nat.reduceEqDiff, Nat.reduceBEq, Int.reduceLE, Int.reduceLT, Int.reduceEq, Int.reduceNe, Int.reduceAdd, Int.reduceSub, Int.reduceToNat, Int.reduceNeg, ↓reduceIte, reduceCtorEq]
    refine WT_drawE ?_
    simp only [c0, c1, c5, g2, g3, g5, lay, wk5, wk3, wk, iaddrV_map, Nat.reduceAdd, Nat.reduceSub, Nat.reduceMul, Nat.reduceLeDiff, Nat.reduceEqDiff, Nat.reduceBEq, Int.reduceLE, Int.reduceLT, Int.reduceEq, Int.reduceNe, Int.reduceAdd, Int.reduceSub, Int.reduceToNat, Int.reduceNeg, ↓reduceIte, reduceCtorEq]
    refine WDT_more 0 ?_
    simp only [c0, c1, c5, g2, g3, g5, h5, k0, e6', hde, iaddr_dset, Int.toNat_natCast, pdset, lay, wk5, wk3, wk, iaddrV_map, Nat.reduceAdd, Nat.reduceSub, Nat.reduceMul, Nat.reduceLeDiff, Nat.reduceEqDiff, Nat.reduceBEq, Int.reduceLE, Int.reduceLT, Int.reduceEq, Int.reduceNe, Int.reduceAdd, Int.reduceSub, Int.reduceToNat, Int.reduceNeg, ↓reduceIte, reduceCtorEq]
    refine ⟨by rfl, ?_⟩
    refine WDT_more 0 ?_
    simp only [c0, c1, c5, g2, g3, g5, h5, k0, e6', hde, iaddr_dset, Int.toNat_natCast, pdset, lay, wk5, wk3, wk, iaddrV_map, Nat.reduceAdd, Nat.reduceSub, Nat.reduceMul, Nat.reduceLeDiff, Nat.reduceEqDiff, Nat.reduceBEq, Int.reduceLE, Int.reduceLT, Int.reduceEq, Int.reduceNe, Int.reduceAdd, Int.reduceSub, Int.reduceToNat, Int.reduceNeg, ↓reduceIte, reduceCtorEq]
    refine ⟨by rfl, ?_⟩
    refine WDT_more 0 ?_
    simp only [c0, c1, c5, g2, g3, g5, lay, wk5, wk3, wk, iaddrV_map, Nat.reduceAdd, Nat.reduceSub, Nat.reduceMul, Nat.reduceLeDiff, Nat.reduceEqDiff, Nat.reduceBEq, Int.reduceLE, Int.reduceLT, Int.reduceEq, Int.reduceNe, Int.reduceAdd, Int.reduceSub, Int.reduceToNat, Int.reduceNeg, ↓reduceIte, reduceCtorEq]
    refine ⟨by rfl, ?_⟩
    refine CT_ok (same33 d.files d.files (by omega) (by omega) _) ?_
    rintro _ _ ⟨rfl, rfl⟩
    simp only [c0, c1, c5, hw, hdd, lay, wk5, wk3, wk, iaddrV_map, Nat.reduceAdd, Nat.reduceSub, Nat.reduceMul, Nat.reduceLeDiff, Nat.reduceEqDiff, Nat.reduceBEq, Int.reduceLE, Int.reduceLT, Int.reduceEq, Int.reduceNe, Int.reduceAdd, Int.reduceSub, Int.reduceToNat, Int.reduceNeg, ↓reduceIte, reduceCtorEq]
    refine WDT_more 0 ?_
    simp only [c0, c1, c5, g4, h5, k0, e6', hde, iaddr_dset, Int.toNat_natCast, pdset, w4, lay, wk5, wk3, wk, iaddrV_map, Nat.reduceAdd, Nat.reduceSub, Nat.reduceMul, Nat.reduceLeDiff, Nat.reduceEqDiff, Nat.reduceBEq, Int.reduceLE, Int.reduceLT, Int.reduceEq, Int.reduceNe, Int.reduceAdd, Int.reduceSub, Int.reduceToNat, Int.reduceNeg, ↓reduceIte, reduceCtorEq]
    refine ⟨by rfl, ?_⟩
    refine QLoop_wk (n' := L.length - (k + 1)) (by omega) ⟨k + 1, by omega, rfl, rfl, rfl⟩ (Wk_clear ?_)
    simp only [c0, c1, c5, asets, renL, ren, List.replicate_succ, List.replicate_zero, List.cons_append, List.nil_append, Tops_top, Tops_same, Tops_nil, Int.natCast_add, Int.natCast_one]
  ·have : k = L.length := by omega
   subst this
   simp only [h5, lay, wk5, wk3, wk, iaddrV_map, Nat.reduceAdd, Nat.reduceSub, Nat.reduceMul, Nat.reduceLeDiff, Nat.reduceEqDiff, Nat.reduceBEq, Int.reduceLE, Int.reduceLT, Int.reduceEq, Int.reduceNe, Int.reduceAdd, Int.reduceSub, Int.reduceToNat, Int.reduceNeg, ↓reduceIte, reduceCtorEq]
   refine QCut_go ⟨rfl, rfl⟩ (Wk_tops ?_)
   simp only [asets, List.replicate_succ, List.replicate_zero, List.cons_append, List.nil_append, Tops_top, Tops_same, Tops_nil]
 rintro fr H ⟨rfl, rfl⟩
 refine WT_ok ?_
 simp only [hwn, asets, lay, wk5, wk3, wk, iaddrV_map, Nat.reduceAdd, Nat.reduceSub, Nat.reduceMul, Nat.reduceLeDiff, Nat.reduceEqDiff, Nat.reduceBEq, Int.reduceLE, Int.reduceLT, Int.reduceEq, Int.reduceNe, Int.reduceAdd, Int.reduceSub, Int.reduceToNat, Int.reduceNeg, ↓reduceIte, reduceCtorEq]
 refine CT_ok (maysets X hXM _) ?_
 rintro _ _ ⟨rfl, rfl⟩
 simp only [lay, wk5, wk3, wk, iaddrV_map, Nat.reduceAdd, Nat.reduceSub, Nat.reduceMul, Nat.reduceLeDiff, Nat.reduceEqDiff, Nat.reduceBEq, Int.reduceLE, Int.reduceLT, Int.reduceEq, Int.reduceNe, Int.reduceAdd, Int.reduceSub, Int.reduceToNat, Int.reduceNeg, ↓reduceIte, reduceCtorEq]
end Go.Proofs.YtemjlopoffjmpaaGreat.Abs
set_option linter.unusedSimpArgs false
set_option linter.unusedVariables false
namespace Go.Proofs.YtemjlopoffjmpaaGreat.Abs
open Go Go.Proofs
theorem rep_row {w : World} {a : Option Addr} {len cap : Nat} {zs : List Int}
 (h : (a = none ∧ len = 0 ∧ cap = 0 ∧ zs = []) ∨ ∃ x, a = some x ∧ len ≤ cap ∧ cap ≤ maxLen ∧ zs.length = cap ∧ (∀ i, i < zs.length → w.cell? (x.add i) = some (.int .u8 (zs.getD i 0))) ∧ ∀ n ∈ zs, (Lit.int .u8 n).wf = true) :
 ∃ l : List UInt8, Rep (E0 w) (.fz (l.map pbyte)) (.slice a len cap) := by
 rcases h with ⟨rfl, rfl, rfl, rfl⟩ | ⟨x, rfl, hl, hm, hz, hcell, hwf⟩
 ·exact ⟨[], .pure (x := .fz []) (.fz0 _ _)⟩
 ·by_cases h0 : len = 0
  ·subst h0
   exact ⟨[], .pure (x := .fz []) (.fz0 _ _)⟩
  ·have hc0 := hcell 0 (by omega)
   obtain ⟨b, off, spot⟩ := x
   simp only [Addr.add, if_true, World.cell?] at hc0
   cases hb : w.heap[b]? with
   | none => rw [hb] at hc0; cases hc0
   | some o =>
     rw [hb] at hc0
     cases o with
     | cells c t q =>
       simp only at hc0
       split at hc0
       ·cases hc0
       ·rename_i hsp
        have hsp2 : spot = none := by cases spot with
         | none => rfl
         | some _ => simp at hsp
        subst hsp2
        have hci : ∀ i, i < zs.length → c[off + i]? = some (.int .u8 (zs.getD i 0)) := by
         intro i hi
         have := hcell i hi
         unfold Addr.add at this
         split at this
         ·rename_i e; subst e; simpa [World.cell?, hb] using this
         ·simpa [World.cell?, hb] using this
        refine ⟨(zs.take len).map fun n => UInt8.ofNat n.toNat, ?_⟩
        have hlen : (((zs.take len).map fun n => UInt8.ofNat n.toNat).map pbyte).length = len := by simp; omega
        have key := RepP.fz (F := (E0 w).F) (((zs.take len).map fun n => UInt8.ofNat n.toNat).map pbyte) b off cap 1 c t q hb (by rw [hlen]; exact hl) (by
         intro e he
         obtain ⟨y, _, rfl⟩ := List.mem_map.1 he
         rfl) (by
         rw [hlen]
         have h1 := hci (len - 1) (by omega)
         have : off + (len - 1) < c.size := by
          apply Classical.byContradiction
          intro h
          rw [Array.getElem?_eq_none (by omega)] at h1
          cases h1
         omega) (by
         intro i e k cc v he hk hv
         rw [List.map_map, List.getElem?_map] at he
         have hi : i < (zs.take len).length := by
          apply Classical.byContradiction
          intro h
          rw [List.getElem?_eq_none (by omega)] at he
          cases he
         rw [List.getElem?_eq_getElem hi] at he
         simp only [Option.map_some, Option.some.injEq, Function.comp] at he
         subst he
         have hk0 : k = 0 := by
          apply Classical.byContradiction
          intro h
          rw [List.getElem?_eq_none (by simp [pbyte]; omega)] at hk
          cases hk
         subst hk0
         simp only [pbyte, List.getElem?_cons_zero, Option.some.injEq] at hk
         subst hk
         rw [List.length_take] at hi
         rw [Nat.mul_one, Nat.add_zero, hci i (by omega)] at hv
         cases hv
         have hg : zs.getD i 0 = (zs.take len)[i]'(by rw [List.length_take]; exact hi) := by
          rw [List.getElem_take, List.getD_eq_getElem?_getD, List.getElem?_eq_getElem (by omega), Option.getD_some]
         rw [hg]
         have hw := hwf ((zs.take len)[i]'(by rw [List.length_take]; exact hi)) (List.mem_of_mem_take (List.getElem_mem _))
         generalize (zs.take len)[i]'(by rw [List.length_take]; exact hi) = n at hw
         have hn : 0 ≤ n ∧ n < 256 := by
          have := hw; simp [Lit.wf, IntKind.min, IntKind.max, IntKind.bits, IntKind.signed] at this; omega
         have : ((UInt8.ofNat n.toNat).toNat : Int) = n := by
          rw [UInt8.toNat_ofNat']
          omega
         rw [this]
         exact .int _ _)
        rw [hlen] at key
        exact .pure (x := .fz _) key
     | _ => simp at hc0
theorem repL_one {E : Env} {x : AV} {v : Value} (h : Rep E x v) : RepL E [x] #[v] := by
 refine ⟨rfl, fun i c u hc hu => ?_⟩
 match i, hc, hu with
 | 0, hc, hu => simp at hc hu; subst hc; subst hu; exact h
 | i + 1, hc, _ => simp at hc
end Go.Proofs.YtemjlopoffjmpaaGreat.Abs
