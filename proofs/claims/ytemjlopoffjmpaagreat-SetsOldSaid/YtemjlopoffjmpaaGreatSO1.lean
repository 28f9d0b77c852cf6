/-
  Part 1 of the proof: no condition. (Parts of the abstract layer, of the program's functions in its form, and of their contracts.)
-/
import Derived.Test.YtemjlopoffjmpaaGreatSOAbs22
import Derived.Test.YtemjlopoffjmpaaGreatProg
import Derived.KernelRfl
import Derived.Test.YtemjlopoffjmpaaGreatSOWk
import Derived.Test.YtemjlopoffjmpaaGreatSOAbs27
import Derived.IntWalk
import Derived.Shelf.Strings.Builder1
import Derived.Shelf.Strings.Builder2
import Derived.Shelf.Small.Strs
import Derived.Shelf.Strings.BuilderF
import Derived.Shelf.Strings.Search1
import Derived.Shelf.Strings.Prefix
import Derived.Shelf.Bits.Mul64
import Derived.Shelf.Strings.Repeat
import Derived.Test.YtemjlopoffjmpaaGreatSOAbs28
import Derived.Test.YtemjlopoffjmpaaGreatSOAbs29
import Derived.Test.YtemjlopoffjmpaaGreatSOWk3
import Derived.Test.YtemjlopoffjmpaaGreatSOAbs38
import Derived.Test.YtemjlopoffjmpaaGreatSOAbs36
import Derived.Test.YtemjlopoffjmpaaGreatSOAbs39
namespace Go.Proofs.YtemjlopoffjmpaaGreat.Abs
open Go
def c3 : ACode :=
 (.seq (.reg [I1 8 (.mv (.c (.bool false)))])
 (.seq (.seq (.reg [I1 18 (.call 12 []), I1 19 (.un .not (.t 18))])
 (.cond (.t 19)
 (.seq (.reg [I1 8 (.mv (.c (.bool false)))])
 .ret)
 .skip))
 (.seq (.seq (.reg [I0 20 0, I1 21 (.len false (.t 20)), I1 22 (.bini .gtr (.t 21) (KI 80)), I0 23 22, I5 24 23 1, I3 25 23 (.len false (.t 24)), I3 26 23 (.bini .gtr (.t 25) (KI 60)), I1 27 (.pick (.t 23) (.c (.bool true)) (.t 26))])
 (.cond (.t 27)
 (.seq (.reg [I1 8 (.mv (.c (.bool true)))])
 .ret)
 .skip))
 (.seq (.reg [I0 28 0, I1 29 (.call 13 [(.t 28)]), I1 30 (.call 14 [(.t 29), (KI 25)]), I0 9 30])
 (.seq (.reg [I0 31 1, I1 32 (.call 13 [(.t 31)]), I1 33 (.call 15 [(.t 32), (KI 25)]), I0 10 33])
 (.seq (.reg [I1 34 (.bslice 5 0 [.int .i64 0, .int .i64 0, .int .i64 0, .int .i64 0, .emp] []), I0 35 9, I1 36 (.append 5 56 [.int .i64 0, .int .i64 0, .int .i64 0, .int .i64 0, .emp] (.t 34) (.t 35)), I0 11 36])
 (.seq (.seq (.reg [I0 37 11, I1 38 (.iaddr 5 (.t 37) (KI 0)), I6 39 1 38, I7 40 39, I1 41 (.bini .eql (.t 40) (KI 1))])
 (.cond (.t 41)
 (.reg [I0 42 11, I0 43 3, I1 44 (.bini .rem (.t 43) (.c (.int .u8 20))), I1 45 (.convi .i64 (.t 44)), I1 46 (.iaddr 5 (.t 42) (KI 0)), I6 47 3 46, I9 1 47 45])
 .skip))
 (.seq (.reg [I0 48 2, I0 49 11, I1 50 (.iaddr 5 (.t 49) (KI 0)), I6 51 0 50, I7 52 51, I0 53 3, I1 54 (.bini .rem (.t 53) (.c (.int .u8 9))), I1 55 (.convi .i64 (.t 54)), I1 56 (.bini .add (KI 1) (.t 55)), I1 57 (.bslice 1 4 [.int .i64 0] [(0, (.t 48)), (1, (KI 1)), (2, (.t 52)), (3, (.t 56))]), I0 12 57])
 (.seq (.seq (.reg [I1 13 (.mv (KI 0))])
 (.block 0
 (.loop
 (.seq (.seq (.reg [I0 58 13, I1 59 (.bini .lss (.t 58) (KI 4))])
 (.cond (.t 59)
 .skip
 (.exit 0)))
 (.seq (.block 1
 (.seq (.reg [I0 63 11, I0 64 12, I0 65 13, I1 66 (.iaddr 1 (.t 64) (.t 65)), I7 67 66, I0 68 10, I1 69 (.call 16 [(.t 63), (.t 67), (.t 68)]), I0 62 69, I8 70 62 0, I8 71 62 1, I0 14 70, I0 15 71])
 (.seq (.reg [I0 73 11, I0 74 12, I0 75 13, I1 76 (.iaddr 1 (.t 74) (.t 75)), I7 77 76, I0 78 10, I1 79 (.call 17 [(.t 73), (.t 77), (.t 78)]), I0 72 79, I8 80 72 0, I8 81 72 1, I0 16 80, I0 17 81])
 (.seq (.reg [I0 82 15, I0 83 17, I1 84 (.bini .neq (.t 82) (.t 83)), I0 85 84, I5 86 85 14, I5 87 85 16, I3 88 85 (.call 18 [(.t 86), (.t 87)]), I3 89 85 (.un .not (.t 88)), I1 90 (.pick (.t 85) (.c (.bool true)) (.t 89))])
 (.cond (.t 90)
 (.seq (.reg [I1 8 (.mv (.c (.bool false)))])
 .ret)
 .skip)))))
 (.reg [I0 60 13, I1 61 (.bini .add (.t 60) (KI 1)), I0 13 61]))))))
 (.seq (.reg [I0 91 10, I1 92 (.call 19 [(.t 91)]), I0 93 10, I1 94 (.call 20 [(.t 93)]), I1 95 (.bini .eql (.t 92) (.t 94)), I0 96 95, I4 97 96 9, I2 98 96 (.call 21 [(.t 97)]), I4 99 96 9, I2 100 96 (.call 22 [(.t 99)]), I2 101 96 (.bini .eql (.t 98) (.t 100)), I1 102 (.pick (.t 96) (.t 101) (.c (.bool false))), I0 103 102, I2 104 103 (.call 21 [(.c (.emp))]), I2 105 103 (.bini .eql (.t 104) (KI 3)), I1 106 (.pick (.t 103) (.t 105) (.c (.bool false))), I0 8 106])
 .ret))))))))))
theorem d3 : FnD Tryz.prog 3 4 103 [.tmp 8] c3 := ⟨Tryz.f3, _, Tryz.func3, by kernel_rfl, rfl, rfl, by kernel_rfl, by kernel_rfl⟩
end Go.Proofs.YtemjlopoffjmpaaGreat.Abs
namespace Go.Proofs.YtemjlopoffjmpaaGreat.Abs
open Go
def c11 : ACode :=
 (.seq (.reg [I1 8 (.mv (.c (.bool false)))])
 (.seq (.seq (.reg [I1 16 (.call 23 []), I1 17 (.un .not (.t 16))])
 (.cond (.t 17)
 (.seq (.reg [I1 8 (.mv (.c (.bool false)))])
 .ret)
 .skip))
 (.seq (.seq (.reg [I0 18 0, I1 19 (.len false (.t 18)), I1 20 (.bini .gtr (.t 19) (KI 80))])
 (.cond (.t 20)
 (.seq (.reg [I1 8 (.mv (.c (.bool true)))])
 .ret)
 .skip))
 (.seq (.reg [I0 21 0, I1 22 (.call 13 [(.t 21)]), I1 23 (.call 14 [(.t 22), (KI 25)]), I0 9 23])
 (.seq (.reg [I0 24 9, I1 25 (.call 39 [(.t 24)]), I0 10 25])
 (.seq (.reg [I0 26 1, I1 27 (.bini .rem (.t 26) (.c (.int .u8 9))), I1 28 (.convi .i64 (.t 27)), I1 29 (.bini .add (KI 1) (.t 28)), I0 30 2, I1 31 (.bini .rem (.t 30) (.c (.int .u8 9))), I1 32 (.convi .i64 (.t 31)), I1 33 (.bini .add (KI 1) (.t 32)), I0 11 29, I0 12 33])
 (.seq (.reg [I1 13 (.mv (.c (.emp)))])
 (.seq (.seq (.reg [I0 34 3, I1 35 (.bini .rem (.t 34) (.c (.int .u8 6)))])
 (.block 0
 (.seq (.reg [I1 44 (.bini .eql (.t 35) (.c (.int .u8 0))), I0 43 44])
 (.cond (.t 43)
 (.reg [I0 46 9, I0 47 11, I1 48 (.call 29 [(.t 46), (.t 47)]), I0 45 48, I8 49 45 0, I8 50 45 1, I0 13 49])
 (.seq (.reg [I1 52 (.bini .eql (.t 35) (.c (.int .u8 1))), I0 51 52])
 (.cond (.t 51)
 (.reg [I0 54 9, I0 55 11, I1 56 (.call 32 [(.t 54), (.t 55)]), I0 53 56, I8 57 53 0, I8 58 53 1, I0 13 57])
 (.seq (.reg [I1 60 (.bini .eql (.t 35) (.c (.int .u8 2))), I0 59 60])
 (.cond (.t 59)
 (.reg [I0 62 9, I0 63 11, I1 64 (.call 25 [(.t 62), (KI 900), (.t 63)]), I0 61 64, I8 65 61 0, I8 66 61 1, I0 13 65])
 (.seq (.reg [I1 68 (.bini .eql (.t 35) (.c (.int .u8 3))), I0 67 68])
 (.cond (.t 67)
 (.reg [I0 70 9, I0 71 11, I1 72 (.call 24 [(.t 70), (KI 900), (.t 71)]), I0 69 72, I8 73 69 0, I8 74 69 1, I0 13 73])
 (.seq (.reg [I1 76 (.bini .eql (.t 35) (.c (.int .u8 4))), I0 75 76])
 (.cond (.t 75)
 (.reg [I0 78 9, I0 79 12, I1 80 (.call 37 [(.t 78), (KI 900), (.t 79)]), I0 77 80, I8 81 77 0, I8 82 77 1, I0 13 81])
 (.reg [I0 37 9, I0 38 11, I0 39 12, I1 40 (.call 38 [(.t 37), (.t 38), (.t 39)]), I0 36 40, I8 41 36 0, I8 42 36 1, I0 13 41])))))))))))))
 (.seq (.reg [I0 84 9, I0 85 9, I1 86 (.iaddr 5 (.t 85) (KI 0)), I6 87 0 86, I7 88 87, I1 89 (.call 27 [(.t 84), (.t 88)]), I0 83 89, I8 90 83 0, I8 91 83 1, I1 14 (.alloc [.int .i64 0, .int .i64 0, .int .i64 0, .int .i64 0, .emp]), I9 5 14 90, I0 15 91])
 (.seq (.seq (.reg [I0 92 13, I1 93 (.len false (.t 92)), I1 94 (.bini .eql (.t 93) (KI 0)), I0 95 94, I5 96 95 15, I3 97 95 (.un .not (.t 96)), I1 98 (.pick (.t 95) (.c (.bool true)) (.t 97)), I0 99 98, I3 100 99 (.faddr 4 (.t 14)), I3 101 99 (.load false 1 (.t 100)), I3 102 99 (.len false (.t 101)), I3 103 99 (.bini .eql (.t 102) (KI 0)), I1 104 (.pick (.t 99) (.c (.bool true)) (.t 103))])
 (.cond (.t 104)
 (.seq (.reg [I1 8 (.mv (.c (.bool false)))])
 .ret)
 .skip))
 (.seq (.reg [I0 105 13, I1 106 (.call 40 [(.t 105)])])
 (.seq (.reg [I1 107 (.load true 5 (.t 14)), I1 108 (.bslice 5 1 [.int .i64 0, .int .i64 0, .int .i64 0, .int .i64 0, .emp] [(0, (.t 107))]), I1 109 (.call 40 [(.t 108)])])
 (.seq (.reg [I0 110 9, I0 111 10, I1 112 (.call 18 [(.t 110), (.t 111)]), I0 8 112])
 .ret)))))))))))))
theorem d11 : FnD Tryz.prog 11 4 109 [.tmp 8] c11 := ⟨Tryz.f11, _, Tryz.func11, by kernel_rfl, rfl, rfl, by kernel_rfl, by kernel_rfl⟩
end Go.Proofs.YtemjlopoffjmpaaGreat.Abs
namespace Go.Proofs.YtemjlopoffjmpaaGreat.Abs
open Go
def c29 : ACode :=
 (.seq (.reg [I1 4 (.mv (.c (.emp))), I1 5 (.mv (KI 0))])
 (.seq (.reg [I0 14 0, I1 15 (.call 56 [(.t 14)]), I0 6 15])
 (.seq (.reg [I0 16 6, I0 7 16])
 (.seq (.reg [I0 17 7, I0 18 1, I1 19 (.call 59 [(.t 17), (.t 18)]), I0 8 19])
 (.seq (.block 0
 (.seq (.reg [I0 21 8, I1 22 (.bini .lss (.t 21) (KI 0)), I0 20 22])
 (.cond (.t 20)
 (.seq (.reg [I0 23 6, I0 4 23, I1 5 (.mv (KI 2))])
 .ret)
 (.seq (.reg [I0 25 7, I0 26 8, I1 27 (.iaddr 5 (.t 25) (.t 26)), I6 28 1 27, I7 29 28, I1 30 (.bini .neq (.t 29) (KI 1)), I0 31 30, I5 32 31 7, I5 33 31 8, I3 34 31 (.iaddr 5 (.t 32) (.t 33)), I3 35 31 (.faddr 2 (.t 34)), I3 36 31 (.load false 1 (.t 35)), I3 37 31 (.bini .eql (.t 36) (KI 0)), I1 38 (.pick (.t 31) (.c (.bool true)) (.t 37)), I0 24 38])
 (.cond (.t 24)
 (.seq (.reg [I0 39 6, I0 4 39, I1 5 (.mv (KI 1))])
 .ret)
 .skip)))))
 (.seq (.reg [I0 40 7, I0 41 7, I0 42 8, I1 43 (.iaddr 5 (.t 41) (.t 42)), I6 44 2 43, I7 45 44, I1 46 (.call 59 [(.t 40), (.t 45)]), I0 9 46])
 (.seq (.seq (.reg [I0 47 9, I1 48 (.bini .lss (.t 47) (KI 0)), I0 49 48, I5 50 49 7, I5 51 49 7, I5 52 49 9, I3 53 49 (.iaddr 5 (.t 51) (.t 52)), I3 54 49 (.faddr 2 (.t 53)), I3 55 49 (.load false 1 (.t 54)), I3 56 49 (.call 60 [(.t 50), (.t 55), (KI 1)]), I3 57 49 (.un .not (.t 56)), I1 58 (.pick (.t 49) (.c (.bool true)) (.t 57))])
 (.cond (.t 58)
 (.seq (.reg [I0 59 6, I0 4 59, I1 5 (.mv (KI 1))])
 .ret)
 .skip))
 (.seq (.reg [I0 60 7, I0 61 9, I1 62 (.iaddr 5 (.t 60) (.t 61)), I6 63 2 62, I7 64 63, I0 10 64])
 (.seq (.reg [I0 65 7, I0 66 10, I1 67 (.call 59 [(.t 65), (.t 66)]), I0 11 67])
 (.seq (.dregE [[(0, I0 68 7), (1, I0 69 8), (2, I0 70 7), (3, I0 71 11), (4, I0 72 7), (5, I0 73 11), (6, I1 74 (.iaddr 5 (.t 72) (.t 73))), (7, I6 75 2 74), (8, I7 76 75), (9, I0 77 7), (10, I0 78 9), (11, I1 79 (.iaddr 5 (.t 77) (.t 78))), (12, I6 80 0 79), (13, I7 81 80), (14, I1 82 (.iaddr 5 (.t 68) (.t 69))), (15, I6 83 2 82), (16, I9 1 83 76)], [(17, I1 84 (.iaddr 5 (.t 70) (.t 71)))], [(18, I6 85 2 84)], [(19, I9 1 85 81)]]
  [[], [], [], [], [], [], [4, 5], [4, 5, 6], [4, 5, 6, 7], [], [], [9, 10], [9, 10, 11], [9, 10, 11, 12], [0, 1, 4, 5, 6, 7, 8, 9, 10, 11, 12, 13], [0, 1, 4, 5, 6, 7, 8, 9, 10, 11, 12, 13, 14], [0, 1, 4, 5, 6, 7, 8, 9, 10, 11, 12, 13, 14, 15], [0, 1, 2, 3, 4, 5, 6, 7, 8, 9, 10, 11, 12, 13, 14, 15, 16], [0, 1, 2, 3, 4, 5, 6, 7, 8, 9, 10, 11, 12, 13, 14, 15, 16, 17], [0, 1, 2, 3, 4, 5, 6, 7, 8, 9, 10, 11, 12, 13, 14, 15, 16, 17, 18]])
 (.seq (.seq (.reg [I0 86 7, I1 87 (.len false (.t 86)), I1 88 (.mv (KI 0))])
 (.block 1
 (.loop
 (.seq (.reg [I1 89 (.bini .lss (.t 88) (.t 87))])
 (.seq (.cond (.t 89)
 .skip
 (.exit 1))
 (.seq (.block 2
 (.seq (.reg [I0 90 88, I1 91 (.iaddr 5 (.t 86) (.t 88)), I1 92 (.load true 5 (.t 91)), I1 13 (.alloc [.int .i64 0, .int .i64 0, .int .i64 0, .int .i64 0, .emp]), I0 12 90, I9 5 13 92])
 (.seq (.dreg [I6 93 1 13, I7 94 93, I1 95 (.bini .eql (.t 94) (KI 2)), I0 96 95, I2 97 96 (.faddr 2 (.t 13)), I2 98 96 (.load false 1 (.t 97)), I4 99 96 10, I2 100 96 (.bini .eql (.t 98) (.t 99)), I1 101 (.pick (.t 96) (.t 100) (.c (.bool false))), I0 102 101, I2 103 102 (.faddr 0 (.t 13)), I2 104 102 (.load false 1 (.t 103)), I4 105 102 7, I4 106 102 9, I2 107 102 (.iaddr 5 (.t 105) (.t 106)), I2 108 102 (.faddr 0 (.t 107)), I2 109 102 (.load false 1 (.t 108)), I2 110 102 (.bini .leq (.t 104) (.t 109)), I1 111 (.pick (.t 102) (.t 110) (.c (.bool false)))])
 (.cond (.t 111)
 (.reg [I0 112 7, I0 113 12, I0 114 1, I1 115 (.iaddr 5 (.t 112) (.t 113)), I6 116 2 115, I9 1 116 114])
 .skip))))
 (.reg [I1 117 (.bini .add (.t 88) (KI 1)), I0 88 117])))))))
 (.seq (.reg [I0 118 6, I0 4 118, I1 5 (.mv (KI 0))])
 .ret))))))))))))
theorem d29 : FnD Tryz.prog 29 2 117 [.tmp 4, .tmp 5] c29 := ⟨Tryz.f29, _, Tryz.func29, by kernel_rfl, rfl, rfl, by kernel_rfl, by kernel_rfl⟩
end Go.Proofs.YtemjlopoffjmpaaGreat.Abs
namespace Go.Proofs.YtemjlopoffjmpaaGreat.Abs
open Go
def c32 : ACode :=
 (.seq (.reg [I1 3 (.box (.t 1)), I1 4 (.mv (.c (.emp))), I1 5 (.mv (KI 0))])
 (.seq (.reg [I0 12 0, I1 13 (.call 56 [(.t 12)]), I0 6 13])
 (.seq (.reg [I0 14 6, I0 7 14])
 (.seq (.reg [I0 15 7, I7 16 3, I1 17 (.call 59 [(.t 15), (.t 16)]), I0 8 17])
 (.seq (.reg [I1 9 (.mv (KI 0))])
 (.seq (.seq (.reg [I0 18 7, I1 19 (.len false (.t 18)), I1 20 (.mv (KI 0))])
 (.block 0
 (.loop
 (.seq (.reg [I1 21 (.bini .lss (.t 20) (.t 19))])
 (.seq (.cond (.t 21)
 .skip
 (.exit 0))
 (.seq (.block 1
 (.seq (.reg [I1 22 (.iaddr 5 (.t 18) (.t 20)), I1 23 (.load true 5 (.t 22)), I1 11 (.alloc [.int .i64 0, .int .i64 0, .int .i64 0, .int .i64 0, .emp]), I9 5 11 23])
 (.seq (.reg [I6 24 1 11, I7 25 24, I1 26 (.bini .eql (.t 25) (KI 1))])
 (.cond (.t 26)
 (.reg [I0 27 9, I1 28 (.bini .add (.t 27) (KI 1)), I0 9 28])
 .skip))))
 (.reg [I1 29 (.bini .add (.t 20) (KI 1)), I0 20 29])))))))
 (.seq (.block 2
 (.seq (.reg [I0 31 8, I1 32 (.bini .lss (.t 31) (KI 0)), I0 30 32])
 (.cond (.t 30)
 (.seq (.reg [I0 33 6, I0 4 33, I1 5 (.mv (KI 2))])
 .ret)
 (.seq (.seq (.reg [I0 35 7, I1 36 (.mkfn (.func 64) [] [(.t 3)]), I1 37 (.call 63 [(.t 35), (.t 36)]), I0 34 37])
 (.cond (.t 34)
 .skip
 (.reg [I0 38 7, I0 39 8, I1 40 (.iaddr 5 (.t 38) (.t 39)), I6 41 1 40, I7 42 41, I1 43 (.bini .eql (.t 42) (KI 1)), I0 44 43, I4 45 44 9, I2 46 44 (.bini .eql (.t 45) (KI 1)), I1 47 (.pick (.t 44) (.t 46) (.c (.bool false))), I0 34 47])))
 (.cond (.t 34)
 (.seq (.reg [I0 48 6, I0 4 48, I1 5 (.mv (KI 10))])
 .ret)
 .skip)))))
 (.seq (.reg [I0 49 6, I0 50 8, I0 51 8, I1 52 (.bini .add (.t 51) (KI 1)), I1 53 (.call 65 [(.t 49), (.t 50), (.t 52)]), I0 4 53, I1 5 (.mv (KI 0))])
 .ret))))))))
theorem d32 : FnD Tryz.prog 32 2 52 [.tmp 4, .tmp 5] c32 := ⟨Tryz.f32, _, Tryz.func32, by kernel_rfl, rfl, rfl, by kernel_rfl, by kernel_rfl⟩
end Go.Proofs.YtemjlopoffjmpaaGreat.Abs
namespace Go.Proofs.YtemjlopoffjmpaaGreat.Abs
open Go
def c63 : ACode :=
 (.seq (.reg [I1 4 (.mv (.c (.bool false)))])
 (.seq (.reg [I0 5 0, I0 6 1, I1 7 (.call 101 [(.t 5), (.t 6)]), I1 8 (.bini .geq (.t 7) (KI 0)), I0 4 8])
 .ret))
theorem d63 : FnD Tryz.prog 63 2 7 [.tmp 4] c63 := ⟨Tryz.f63, _, Tryz.func63, by kernel_rfl, rfl, rfl, by kernel_rfl, by kernel_rfl⟩
end Go.Proofs.YtemjlopoffjmpaaGreat.Abs
namespace Go.Proofs.YtemjlopoffjmpaaGreat.Abs
open Go
def c64 : ACode :=
 (.seq (.reg [I1 2 (.box (.t 0)), I1 3 (.mv (.c (.bool false)))])
 (.seq (.reg [I6 4 2 2, I7 5 4, I7 6 1, I1 7 (.bini .eql (.t 5) (.t 6)), I0 3 7])
 .ret))
theorem d64 : FnD Tryz.prog 64 2 6 [.tmp 3] c64 := ⟨Tryz.f64, _, Tryz.func64, by kernel_rfl, rfl, rfl, by kernel_rfl, by kernel_rfl⟩
end Go.Proofs.YtemjlopoffjmpaaGreat.Abs
namespace Go.Proofs.YtemjlopoffjmpaaGreat.Abs
open Go
def c65 : ACode :=
 (.seq (.reg [I1 6 (.mv (.c (.emp)))])
 (.seq (.reg [I0 8 0, I0 9 1, I0 10 2, I0 11 0, I1 12 (.len false (.t 11)), I1 13 (.slice3 (.t 8) (.t 9) (.t 10) (.t 12))])
 (.seq (.seq (.reg [I0 14 1, I0 15 2, I1 16 (.bini .eql (.t 14) (.t 15))])
 (.cond (.t 16)
 (.seq (.reg [I0 17 0, I0 6 17])
 .ret)
 .skip))
 (.seq (.reg [I0 18 0, I1 19 (.len false (.t 18)), I0 7 19])
 (.seq (.dregE [[(0, I0 20 0), (1, I0 21 1), (2, I1 22 (.slicel 5 (.t 20) none (some (.t 21)))), (3, I0 23 0), (4, I0 24 2), (5, I1 25 (.slicel 5 (.t 23) (some (.t 24)) none))], [(6, I1 26 (.append 5 56 [.int .i64 0, .int .i64 0, .int .i64 0, .int .i64 0, .emp] (.t 22) (.t 25)))], [(7, I0 0 26)]]
  [[], [], [0, 1], [], [], [3, 4], [0, 1, 2, 3, 4, 5], [0, 1, 2, 3, 4, 5, 6]])
 (.seq (.reg [I0 27 0, I0 28 0, I1 29 (.len false (.t 28)), I0 30 7, I1 31 (.slicel 5 (.t 27) (some (.t 29)) (some (.t 30))), ⟨none, none, .clear 5 [.int .i64 0, .int .i64 0, .int .i64 0, .int .i64 0, .emp] (.t 31)⟩])
 (.seq (.reg [I0 32 0, I0 6 32])
 .ret)))))))
theorem d65 : FnD Tryz.prog 65 3 30 [.tmp 6] c65 := ⟨Tryz.f65, _, Tryz.func65, by kernel_rfl, rfl, rfl, by kernel_rfl, by kernel_rfl⟩
end Go.Proofs.YtemjlopoffjmpaaGreat.Abs
namespace Go.Proofs.YtemjlopoffjmpaaGreat.Abs
open Go
def c77 : ACode :=
 (.seq (.reg [I1 3 (.box (.t 0)), I1 4 (.mv (.c (.bool false)))])
 (.seq (.reg [I6 5 1 3, I7 6 5, I1 7 (.bini .eql (.t 6) (KI 2)), I0 8 7, I2 9 8 (.faddr 2 (.t 3)), I2 10 8 (.load false 1 (.t 9)), I2 11 8 (.load false 1 (.t 1)), I2 12 8 (.bini .eql (.t 10) (.t 11)), I1 13 (.pick (.t 8) (.t 12) (.c (.bool false))), I0 14 13, I2 15 14 (.faddr 0 (.t 3)), I2 16 14 (.load false 1 (.t 15)), I2 17 14 (.load false 1 (.t 2)), I2 18 14 (.bini .gtr (.t 16) (.t 17)), I1 19 (.pick (.t 14) (.t 18) (.c (.bool false))), I0 4 19])
 .ret))
theorem d77 : FnD Tryz.prog 77 3 17 [.tmp 4] c77 := ⟨Tryz.f77, _, Tryz.func77, by kernel_rfl, rfl, rfl, by kernel_rfl, by kernel_rfl⟩
end Go.Proofs.YtemjlopoffjmpaaGreat.Abs
namespace Go.Proofs.YtemjlopoffjmpaaGreat.Abs
open Go
def c24 : ACode :=
 (.seq (.reg [I1 6 (.mv (.c (.emp))), I1 7 (.mv (KI 0))])
 (.seq (.reg [I0 11 0, I0 12 2, I1 13 (.call 27 [(.t 11), (.t 12)]), I0 10 13, I8 14 10 0, I8 15 10 1, I1 8 (.alloc [.int .i64 0, .int .i64 0, .int .i64 0, .int .i64 0, .emp]), I9 5 8 14, I0 9 15])
 (.seq (.block 0
 (.seq (.reg [I0 17 9, I1 18 (.un .not (.t 17)), I0 16 18])
 (.cond (.t 16)
 (.seq (.reg [I0 19 0, I1 20 (.call 56 [(.t 19)]), I0 6 20, I1 7 (.mv (KI 2))])
 .ret)
 (.seq (.reg [I6 22 1 8, I7 23 22, I1 24 (.bini .eql (.t 23) (KI 2)), I0 21 24])
 (.cond (.t 21)
 (.seq (.reg [I0 25 0, I1 26 (.call 56 [(.t 25)]), I0 6 26, I1 7 (.mv (KI 11))])
 .ret)
 .skip)))))
 (.seq (.reg [I0 27 0, I0 28 1, I0 29 2, I6 30 4 8, I7 31 30, I1 32 (.build [.int .i64 0, .int .i64 0, .int .i64 0, .int .i64 0, .emp] [(1, 1, (KI 2)), (2, 1, (.t 29)), (4, 1, (.t 31))]), I1 33 (.call 57 [(.t 27), (.t 28), (.t 32)]), I8 34 33 0, I8 35 33 1, I0 6 34, I0 7 35])
 .ret))))
theorem d24 : FnD Tryz.prog 24 3 33 [.tmp 6, .tmp 7] c24 := ⟨Tryz.f24, _, Tryz.func24, by kernel_rfl, rfl, rfl, by kernel_rfl, by kernel_rfl⟩
end Go.Proofs.YtemjlopoffjmpaaGreat.Abs
namespace Go.Proofs.YtemjlopoffjmpaaGreat.Abs
open Go
def c25 : ACode :=
 (.seq (.reg [I1 6 (.mv (.c (.emp))), I1 7 (.mv (KI 0))])
 (.seq (.reg [I0 11 0, I0 12 2, I1 13 (.call 27 [(.t 11), (.t 12)]), I0 10 13, I8 14 10 0, I8 15 10 1, I1 8 (.alloc [.int .i64 0, .int .i64 0, .int .i64 0, .int .i64 0, .emp]), I9 5 8 14, I0 9 15])
 (.seq (.block 0
 (.seq (.reg [I0 17 9, I1 18 (.un .not (.t 17)), I0 16 18])
 (.cond (.t 16)
 (.seq (.reg [I0 19 0, I1 20 (.call 56 [(.t 19)]), I0 6 20, I1 7 (.mv (KI 2))])
 .ret)
 (.seq (.reg [I6 22 1 8, I7 23 22, I1 24 (.bini .neq (.t 23) (KI 2)), I0 21 24])
 (.cond (.t 21)
 (.seq (.reg [I0 25 0, I1 26 (.call 56 [(.t 25)]), I0 6 26, I1 7 (.mv (KI 1))])
 .ret)
 .skip)))))
 (.seq (.reg [I0 27 0, I0 28 1, I0 29 2, I6 30 4 8, I7 31 30, I1 32 (.build [.int .i64 0, .int .i64 0, .int .i64 0, .int .i64 0, .emp] [(1, 1, (KI 1)), (2, 1, (.t 29)), (4, 1, (.t 31))]), I1 33 (.call 57 [(.t 27), (.t 28), (.t 32)]), I8 34 33 0, I8 35 33 1, I0 6 34, I0 7 35])
 .ret))))
theorem d25 : FnD Tryz.prog 25 3 33 [.tmp 6, .tmp 7] c25 := ⟨Tryz.f25, _, Tryz.func25, by kernel_rfl, rfl, rfl, by kernel_rfl, by kernel_rfl⟩
end Go.Proofs.YtemjlopoffjmpaaGreat.Abs
namespace Go.Proofs.YtemjlopoffjmpaaGreat.Abs
open Go
def c27 : ACode :=
 (.seq (.reg [I1 4 (.alloc [.int .i64 0, .int .i64 0, .int .i64 0, .int .i64 0, .emp]), I1 5 (.mv (.c (.bool false)))])
 (.seq (.reg [I0 7 0, I1 8 (.call 56 [(.t 7)]), I0 0 8])
 (.seq (.reg [I0 9 0, I0 10 1, I1 11 (.call 59 [(.t 9), (.t 10)]), I0 6 11])
 (.seq (.seq (.reg [I0 12 6, I1 13 (.bini .lss (.t 12) (KI 0))])
 (.cond (.t 13)
 (.seq (.reg [I1 14 (.build [.int .i64 0, .int .i64 0, .int .i64 0, .int .i64 0, .emp] []), I9 5 4 14, I1 5 (.mv (.c (.bool false)))])
 .ret)
 .skip))
 (.seq (.reg [I0 15 0, I0 16 6, I1 17 (.iaddr 5 (.t 15) (.t 16)), I1 18 (.load true 5 (.t 17)), I9 5 4 18, I1 5 (.mv (.c (.bool true)))])
 .ret)))))
theorem d27 : FnD Tryz.prog 27 2 17 [.cell 4 true 5, .tmp 5] c27 := ⟨Tryz.f27, _, Tryz.func27, by kernel_rfl, rfl, rfl, by kernel_rfl, by kernel_rfl⟩
end Go.Proofs.YtemjlopoffjmpaaGreat.Abs
namespace Go.Proofs.YtemjlopoffjmpaaGreat.Abs
open Go
def c37 : ACode :=
 (.seq (.reg [I1 6 (.mv (.c (.emp))), I1 7 (.mv (KI 0))])
 (.seq (.seq (.reg [I0 8 2, I1 9 (.bini .lss (.t 8) (KI 0)), I0 10 9, I5 11 10 2, I3 12 10 (.bini .gtr (.t 11) (KI 255)), I1 13 (.pick (.t 10) (.c (.bool true)) (.t 12))])
 (.cond (.t 13)
 (.seq (.reg [I0 14 0, I1 15 (.call 56 [(.t 14)]), I0 6 15, I1 7 (.mv (KI 1))])
 .ret)
 .skip))
 (.seq (.reg [I0 16 0, I0 17 1, I0 18 2, I1 19 (.call 76 []), I1 20 (.build [.int .i64 0, .int .i64 0, .int .i64 0, .int .i64 0, .emp] [(1, 1, (KI 1)), (3, 1, (.t 18)), (4, 1, (.t 19))]), I1 21 (.call 57 [(.t 16), (.t 17), (.t 20)]), I8 22 21 0, I8 23 21 1, I0 6 22, I0 7 23])
 .ret)))
theorem d37 : FnD Tryz.prog 37 3 21 [.tmp 6, .tmp 7] c37 := ⟨Tryz.f37, _, Tryz.func37, by kernel_rfl, rfl, rfl, by kernel_rfl, by kernel_rfl⟩
end Go.Proofs.YtemjlopoffjmpaaGreat.Abs
namespace Go.Proofs.YtemjlopoffjmpaaGreat.Abs
open Go
def c57 : ACode :=
 (.seq (.reg [I1 5 (.box (.t 2)), I1 6 (.mv (.c (.emp))), I1 7 (.mv (KI 0))])
 (.seq (.reg [I0 9 0, I1 10 (.len false (.t 9)), I0 8 10])
 (.seq (.seq (.reg [I0 11 8, I1 12 (.bini .geq (.t 11) (KI 8)), I0 13 12, I5 14 13 1, I3 15 13 (.bini .lss (.t 14) (KI 1)), I1 16 (.pick (.t 13) (.c (.bool true)) (.t 15)), I0 17 16, I5 18 17 1, I3 19 17 (.bini .gtr (.t 18) (KI 65535)), I1 20 (.pick (.t 17) (.c (.bool true)) (.t 19)), I0 21 20, I5 22 21 8, I3 23 21 (.bini .gtr (.t 22) (KI 0)), I5 24 21 23, I4 25 24 1, I4 26 24 0, I4 27 24 8, I2 28 24 (.bini .sub (.t 27) (KI 1)), I2 29 24 (.iaddr 5 (.t 26) (.t 28)), I2 30 24 (.faddr 0 (.t 29)), I2 31 24 (.load false 1 (.t 30)), I2 32 24 (.bini .leq (.t 25) (.t 31)), I3 33 21 (.pick (.t 24) (.t 32) (.c (.bool false))), I1 34 (.pick (.t 21) (.c (.bool true)) (.t 33))])
 (.cond (.t 34)
 (.seq (.reg [I0 35 0, I1 36 (.call 56 [(.t 35)]), I0 6 36, I1 7 (.mv (KI 8))])
 .ret)
 .skip))
 (.seq (.reg [I0 37 1, I6 38 0 5, I9 1 38 37])
 (.seq (.dregE [[(0, I0 39 0), (2, I1 41 (.load true 5 (.t 5))), (3, I1 42 (.bslice 5 1 [.int .i64 0, .int .i64 0, .int .i64 0, .int .i64 0, .emp] [(0, (.t 41))])), (1, I1 40 (.call 48 [(.t 39)]))], [(4, I1 43 (.append 5 56 [.int .i64 0, .int .i64 0, .int .i64 0, .int .i64 0, .emp] (.t 40) (.t 42)))], [(5, I1 44 (.call 56 [(.t 43)]))], [(6, I0 6 44)], [(7, I1 7 (.mv (KI 0)))]]
  [[], [0], [], [2], [0, 1, 2, 3], [0, 1, 2, 3, 4], [0, 1, 2, 3, 4, 5], [0, 1, 2, 3, 4, 5, 6]])
 .ret)))))
theorem d57 : FnD Tryz.prog 57 3 42 [.tmp 6, .tmp 7] c57 := ⟨Tryz.f57, _, Tryz.func57, by kernel_rfl, rfl, rfl, by kernel_rfl, by kernel_rfl⟩
end Go.Proofs.YtemjlopoffjmpaaGreat.Abs
namespace Go.Proofs.YtemjlopoffjmpaaGreat.Abs
open Go
def c49 : ACode :=
 (.seq (.reg [I1 2 (.mv (.c (.emp)))])
 (.seq (.seq (.reg [I0 3 0, I1 4 (.eqnil false (.t 3))])
 (.cond (.t 4)
 (.seq (.reg [I1 2 (.mv (.c (.emp)))])
 .ret)
 .skip))
 (.seq (.reg [I1 5 (.bslice 5 0 [.int .i64 0, .int .i64 0, .str [], .str [], .int .i64 0] []), I0 6 0, I1 7 (.append 5 56 [.int .i64 0, .int .i64 0, .str [], .str [], .int .i64 0] (.t 5) (.t 6)), I0 2 7])
 .ret)))
theorem d49 : FnD Tryz.prog 49 1 7 [.tmp 2] c49 := ⟨Tryz.f49, _, Tryz.func49, by kernel_rfl, rfl, rfl, by kernel_rfl, by kernel_rfl⟩
end Go.Proofs.YtemjlopoffjmpaaGreat.Abs
namespace Go.Proofs.YtemjlopoffjmpaaGreat.Abs
open Go
def c56 : ACode :=
 (.seq (.reg [I1 2 (.mv (.c (.emp)))])
 (.seq (.reg [I0 4 0, I1 5 (.call 48 [(.t 4)]), I0 0 5])
 (.seq (.seq (.reg [I0 6 0, I1 7 (.len false (.t 6)), I1 8 (.mv (KI 0))])
 (.block 0
 (.loop
 (.seq (.reg [I1 9 (.bini .lss (.t 8) (.t 7))])
 (.seq (.cond (.t 9)
 .skip
 (.exit 0))
 (.seq (.block 1
 (.seq (.reg [I0 10 8, I0 3 10])
 (.reg [I0 11 0, I0 12 3, I0 13 0, I0 14 3, I1 15 (.iaddr 5 (.t 13) (.t 14)), I6 16 4 15, I7 17 16, I1 18 (.call 49 [(.t 17)]), I1 19 (.iaddr 5 (.t 11) (.t 12)), I6 20 4 19, I9 1 20 18])))
 (.reg [I1 21 (.bini .add (.t 8) (KI 1)), I0 8 21])))))))
 (.seq (.reg [I0 22 0, I0 2 22])
 .ret))))
theorem d56 : FnD Tryz.prog 56 1 22 [.tmp 2] c56 := ⟨Tryz.f56, _, Tryz.func56, by kernel_rfl, rfl, rfl, by kernel_rfl, by kernel_rfl⟩
end Go.Proofs.YtemjlopoffjmpaaGreat.Abs
namespace Go.Proofs.YtemjlopoffjmpaaGreat.Abs
open Go
end Go.Proofs.YtemjlopoffjmpaaGreat.Abs
namespace Go.Proofs.YtemjlopoffjmpaaGreat.Abs
open Go
def c18 : ACode :=
 (.seq (.reg [I1 4 (.mv (.c (.bool false)))])
 (.seq (.seq (.reg [I0 8 0, I1 9 (.len false (.t 8)), I0 10 1, I1 11 (.len false (.t 10)), I1 12 (.bini .neq (.t 9) (.t 11))])
 (.cond (.t 12)
 (.seq (.reg [I1 4 (.mv (.c (.bool false)))])
 .ret)
 .skip))
 (.seq (.seq (.reg [I1 5 (.mv (KI 0))])
 (.block 0
 (.loop
 (.seq (.seq (.reg [I0 13 5, I0 14 0, I1 15 (.len false (.t 14)), I1 16 (.bini .lss (.t 13) (.t 15))])
 (.cond (.t 16)
 .skip
 (.exit 0)))
 (.seq (.block 1
 (.seq (.dregE [[(0, I0 19 0), (1, I0 20 5), (2, I1 21 (.iaddr 5 (.t 19) (.t 20))), (3, I1 22 (.load true 5 (.t 21))), (4, I0 23 1), (5, I0 24 5), (6, I1 25 (.iaddr 5 (.t 23) (.t 24))), (7, I1 26 (.load true 5 (.t 25))), (8, I1 6 (.alloc [.int .i64 0, .int .i64 0, .int .i64 0, .int .i64 0, .emp])), (9, I1 7 (.alloc [.int .i64 0, .int .i64 0, .int .i64 0, .int .i64 0, .emp])), (10, I9 5 6 22)], [(11, I9 5 7 26)]]
  [[], [], [0, 1], [0, 1, 2], [], [], [4, 5], [4, 5, 6], [], [], [0, 1, 2, 3, 8, 9], [0, 1, 2, 3, 4, 5, 6, 7, 8, 9, 10]])
 (.seq (.reg [I6 27 0 6, I7 28 27, I6 29 0 7, I7 30 29, I1 31 (.bini .neq (.t 28) (.t 30)), I0 32 31, I3 33 32 (.faddr 1 (.t 6)), I3 34 32 (.load false 1 (.t 33)), I3 35 32 (.faddr 1 (.t 7)), I3 36 32 (.load false 1 (.t 35)), I3 37 32 (.bini .neq (.t 34) (.t 36)), I1 38 (.pick (.t 32) (.c (.bool true)) (.t 37)), I0 39 38, I3 40 39 (.faddr 2 (.t 6)), I3 41 39 (.load false 1 (.t 40)), I3 42 39 (.faddr 2 (.t 7)), I3 43 39 (.load false 1 (.t 42)), I3 44 39 (.bini .neq (.t 41) (.t 43)), I1 45 (.pick (.t 39) (.c (.bool true)) (.t 44)), I0 46 45, I3 47 46 (.faddr 3 (.t 6)), I3 48 46 (.load false 1 (.t 47)), I3 49 46 (.faddr 3 (.t 7)), I3 50 46 (.load false 1 (.t 49)), I3 51 46 (.bini .neq (.t 48) (.t 50)), I1 52 (.pick (.t 46) (.c (.bool true)) (.t 51)), I0 53 52, I3 54 53 (.faddr 4 (.t 6)), I3 55 53 (.load false 1 (.t 54)), I3 56 53 (.faddr 4 (.t 7)), I3 57 53 (.load false 1 (.t 56)), I3 58 53 (.call 28 [(.t 55), (.t 57)]), I3 59 53 (.un .not (.t 58)), I1 60 (.pick (.t 53) (.c (.bool true)) (.t 59))])
 (.cond (.t 60)
 (.seq (.reg [I1 4 (.mv (.c (.bool false)))])
 .ret)
 .skip))))
 (.reg [I0 17 5, I1 18 (.bini .add (.t 17) (KI 1)), I0 5 18]))))))
 (.seq (.reg [I1 4 (.mv (.c (.bool true)))])
 .ret))))
theorem d18 : FnD Tryz.prog 18 2 59 [.tmp 4] c18 := ⟨Tryz.f18, _, Tryz.func18, by kernel_rfl, rfl, rfl, by kernel_rfl, by kernel_rfl⟩
end Go.Proofs.YtemjlopoffjmpaaGreat.Abs
namespace Go.Proofs.YtemjlopoffjmpaaGreat.Abs
open Go
def c28 : ACode :=
 (.seq (.reg [I1 4 (.mv (.c (.bool false)))])
 (.seq (.seq (.reg [I0 6 0, I1 7 (.len false (.t 6)), I0 8 1, I1 9 (.len false (.t 8)), I1 10 (.bini .neq (.t 7) (.t 9))])
 (.cond (.t 10)
 (.seq (.reg [I1 4 (.mv (.c (.bool false)))])
 .ret)
 .skip))
 (.seq (.seq (.reg [I1 5 (.mv (KI 0))])
 (.block 0
 (.loop
 (.seq (.seq (.reg [I0 11 5, I0 12 0, I1 13 (.len false (.t 12)), I1 14 (.bini .lss (.t 11) (.t 13))])
 (.cond (.t 14)
 .skip
 (.exit 0)))
 (.seq (.block 1
 (.seq (.dreg [I0 17 0, I0 18 5, I1 19 (.iaddr 5 (.t 17) (.t 18)), I1 20 (.load true 5 (.t 19)), I0 21 1, I0 22 5, I1 23 (.iaddr 5 (.t 21) (.t 22)), I1 24 (.load true 5 (.t 23)), I1 25 (.eqs true [.i, .i, .s, .s, .i] (.t 20) (.t 24))])
 (.cond (.t 25)
 (.seq (.reg [I1 4 (.mv (.c (.bool false)))])
 .ret)
 .skip)))
 (.reg [I0 15 5, I1 16 (.bini .add (.t 15) (KI 1)), I0 5 16]))))))
 (.seq (.reg [I1 4 (.mv (.c (.bool true)))])
 .ret))))
theorem d28 : FnD Tryz.prog 28 2 24 [.tmp 4] c28 := ⟨Tryz.f28, _, Tryz.func28, by kernel_rfl, rfl, rfl, by kernel_rfl, by kernel_rfl⟩
end Go.Proofs.YtemjlopoffjmpaaGreat.Abs
namespace Go.Proofs.YtemjlopoffjmpaaGreat.Abs
open Go
def c30 : ACode :=
 (.seq (.reg [I1 4 (.alloc [.int .i64 0, .int .i64 0, .int .i64 0, .int .i64 0, .emp]), I1 5 (.mv (.c (.bool false)))])
 (.seq (.reg [I0 7 0, I0 8 1, I1 9 (.call 52 [(.t 7), (.t 8)]), I0 6 9])
 (.seq (.seq (.reg [I0 10 6, I1 11 (.bini .lss (.t 10) (KI 0))])
 (.cond (.t 11)
 (.seq (.reg [I1 12 (.build [.int .i64 0, .int .i64 0, .int .i64 0, .int .i64 0, .emp] []), I9 5 4 12, I1 5 (.mv (.c (.bool false)))])
 .ret)
 .skip))
 (.seq (.reg [I0 13 0, I0 14 6, I1 15 (.iaddr 5 (.t 13) (.t 14)), I1 16 (.load true 5 (.t 15)), I9 5 4 16, I1 5 (.mv (.c (.bool true)))])
 .ret))))
theorem d30 : FnD Tryz.prog 30 2 15 [.cell 4 true 5, .tmp 5] c30 := ⟨Tryz.f30, _, Tryz.func30, by kernel_rfl, rfl, rfl, by kernel_rfl, by kernel_rfl⟩
end Go.Proofs.YtemjlopoffjmpaaGreat.Abs
namespace Go.Proofs.YtemjlopoffjmpaaGreat.Abs
open Go
def c52 : ACode :=
 (.seq (.reg [I1 4 (.mv (KI 0))])
 (.seq (.seq (.reg [I1 5 (.mv (KI 0))])
 (.block 0
 (.loop
 (.seq (.seq (.reg [I0 6 5, I0 7 0, I1 8 (.len false (.t 7)), I1 9 (.bini .lss (.t 6) (.t 8))])
 (.cond (.t 9)
 .skip
 (.exit 0)))
 (.seq (.block 1
 (.seq (.reg [I0 12 0, I0 13 5, I1 14 (.iaddr 5 (.t 12) (.t 13)), I6 15 0 14, I7 16 15, I0 17 1, I1 18 (.bini .eql (.t 16) (.t 17))])
 (.cond (.t 18)
 (.seq (.reg [I0 19 5, I0 4 19])
 .ret)
 .skip)))
 (.reg [I0 10 5, I1 11 (.bini .add (.t 10) (KI 1)), I0 5 11]))))))
 (.seq (.reg [I1 4 (.mv (.c (.int .i64 (-1))))])
 .ret)))
theorem d52 : FnD Tryz.prog 52 2 18 [.tmp 4] c52 := ⟨Tryz.f52, _, Tryz.func52, by kernel_rfl, rfl, rfl, by kernel_rfl, by kernel_rfl⟩
end Go.Proofs.YtemjlopoffjmpaaGreat.Abs
namespace Go.Proofs.YtemjlopoffjmpaaGreat.Abs
open Go
def c61 : ACode :=
 (.seq (.reg [I1 2 (.mv (.c (.bool false)))])
 (.seq (.reg [I0 3 0, I1 4 (.bini .geq (.t 3) (KI 0)), I0 5 4, I4 6 5 0, I2 7 5 (.bini .leq (.t 6) (KI 65535)), I1 8 (.pick (.t 5) (.t 7) (.c (.bool false))), I0 2 8])
 .ret))
theorem d61 : FnD Tryz.prog 61 1 8 [.tmp 2] c61 := ⟨Tryz.f61, _, Tryz.func61, by kernel_rfl, rfl, rfl, by kernel_rfl, by kernel_rfl⟩
end Go.Proofs.YtemjlopoffjmpaaGreat.Abs
namespace Go.Proofs.YtemjlopoffjmpaaGreat.Abs
open Go
end Go.Proofs.YtemjlopoffjmpaaGreat.Abs
namespace Go.Proofs.YtemjlopoffjmpaaGreat.Abs
open Go
end Go.Proofs.YtemjlopoffjmpaaGreat.Abs
namespace Go.Proofs.YtemjlopoffjmpaaGreat.Abs
open Go
def c59 : ACode :=
 (.seq (.reg [I1 3 (.box (.t 1)), I1 4 (.mv (KI 0))])
 (.seq (.reg [I0 5 0, I1 6 (.mkfn (.func 102) [] [(.t 3)]), I1 7 (.call 101 [(.t 5), (.t 6)]), I0 4 7])
 .ret))
theorem d59 : FnD Tryz.prog 59 2 6 [.tmp 4] c59 := ⟨Tryz.f59, _, Tryz.func59, by kernel_rfl, rfl, rfl, by kernel_rfl, by kernel_rfl⟩
end Go.Proofs.YtemjlopoffjmpaaGreat.Abs
namespace Go.Proofs.YtemjlopoffjmpaaGreat.Abs
open Go
def c60 : ACode :=
 (.seq (.reg [I1 6 (.mv (.c (.bool false)))])
 (.seq (.reg [I0 8 0, I0 9 1, I1 10 (.call 59 [(.t 8), (.t 9)]), I0 7 10])
 (.seq (.reg [I0 11 7, I1 12 (.bini .geq (.t 11) (KI 0)), I0 13 12, I4 14 13 0, I4 15 13 7, I2 16 13 (.iaddr 5 (.t 14) (.t 15)), I2 17 13 (.faddr 1 (.t 16)), I2 18 13 (.load false 1 (.t 17)), I4 19 13 2, I2 20 13 (.bini .eql (.t 18) (.t 19)), I1 21 (.pick (.t 13) (.t 20) (.c (.bool false))), I0 6 21])
 .ret)))
theorem d60 : FnD Tryz.prog 60 3 19 [.tmp 6] c60 := ⟨Tryz.f60, _, Tryz.func60, by kernel_rfl, rfl, rfl, by kernel_rfl, by kernel_rfl⟩
end Go.Proofs.YtemjlopoffjmpaaGreat.Abs
namespace Go.Proofs.YtemjlopoffjmpaaGreat.Abs
open Go
def c101 : ACode :=
 (.seq (.reg [I1 4 (.mv (KI 0))])
 (.seq (.seq (.reg [I0 6 0, I1 7 (.len false (.t 6)), I1 8 (.mv (KI 0))])
 (.block 0
 (.loop
 (.seq (.reg [I1 9 (.bini .lss (.t 8) (.t 7))])
 (.seq (.cond (.t 9)
 .skip
 (.exit 0))
 (.seq (.block 1
 (.seq (.reg [I0 10 8, I0 5 10])
 (.seq (.reg [I0 11 1, I0 12 0, I0 13 5, I1 14 (.iaddr 5 (.t 12) (.t 13)), I1 15 (.load true 5 (.t 14)), I1 16 (.calld (.t 11) [(.t 15)])])
 (.cond (.t 16)
 (.seq (.reg [I0 17 5, I0 4 17])
 .ret)
 .skip))))
 (.reg [I1 18 (.bini .add (.t 8) (KI 1)), I0 8 18])))))))
 (.seq (.reg [I1 4 (.mv (.c (.int .i64 (-1))))])
 .ret)))
theorem d101 : FnD Tryz.prog 101 2 17 [.tmp 4] c101 := ⟨Tryz.f101, _, Tryz.func101, by kernel_rfl, rfl, rfl, by kernel_rfl, by kernel_rfl⟩
end Go.Proofs.YtemjlopoffjmpaaGreat.Abs
namespace Go.Proofs.YtemjlopoffjmpaaGreat.Abs
open Go
def c48 : ACode :=
 (.seq (.reg [I1 2 (.mv (.c (.emp)))])
 (.seq (.seq (.reg [I0 3 0, I1 4 (.eqnil false (.t 3))])
 (.cond (.t 4)
 (.seq (.reg [I1 2 (.mv (.c (.emp)))])
 .ret)
 .skip))
 (.seq (.reg [I1 5 (.bslice 5 0 [.int .i64 0, .int .i64 0, .int .i64 0, .int .i64 0, .emp] []), I0 6 0, I1 7 (.append 5 56 [.int .i64 0, .int .i64 0, .int .i64 0, .int .i64 0, .emp] (.t 5) (.t 6)), I0 2 7])
 .ret)))
theorem d48 : FnD Tryz.prog 48 1 7 [.tmp 2] c48 := ⟨Tryz.f48, _, Tryz.func48, by kernel_rfl, rfl, rfl, by kernel_rfl, by kernel_rfl⟩
end Go.Proofs.YtemjlopoffjmpaaGreat.Abs
namespace Go.Proofs.YtemjlopoffjmpaaGreat.Abs
open Go
end Go.Proofs.YtemjlopoffjmpaaGreat.Abs
namespace Go.Proofs.YtemjlopoffjmpaaGreat.Abs
open Go
def c102 : ACode :=
 (.seq (.reg [I1 2 (.box (.t 0)), I1 3 (.mv (.c (.bool false)))])
 (.seq (.reg [I6 4 0 2, I7 5 4, I7 6 1, I1 7 (.bini .eql (.t 5) (.t 6)), I0 3 7])
 .ret))
theorem d102 : FnD Tryz.prog 102 2 6 [.tmp 3] c102 := ⟨Tryz.f102, _, Tryz.func102, by kernel_rfl, rfl, rfl, by kernel_rfl, by kernel_rfl⟩
end Go.Proofs.YtemjlopoffjmpaaGreat.Abs
namespace Go.Proofs.YtemjlopoffjmpaaGreat.Abs
open Go
end Go.Proofs.YtemjlopoffjmpaaGreat.Abs
namespace Go.Proofs.YtemjlopoffjmpaaGreat.Abs
open Go
end Go.Proofs.YtemjlopoffjmpaaGreat.Abs
namespace Go.Proofs.YtemjlopoffjmpaaGreat.Abs
open Go
def c46 : ACode :=
 (.seq (.reg [I1 4 (.alloc [.int .i64 0, .int .i64 0, .int .i64 0, .int .i64 0, .int .i64 0, .str [], .str [], .str [], .emp])])
 (.seq (.dregE [[(0, I1 6 (.bslice 1 12 [.int .i64 0] [(0, (KI 1)), (1, (KI 1)), (2, (KI 1)), (3, (KI 2)), (4, (KI 3)), (5, (KI 3)), (6, (KI 4)), (7, (KI 4)), (8, (KI 4)), (9, (KI 5)), (10, (KI 1)), (11, (KI 4))])), (1, I0 7 0), (5, I0 11 1), (6, I0 12 0), (9, I1 5 (.alloc [.int .i64 0, .int .i64 0, .int .i64 0, .int .i64 0, .int .i64 0, .str [], .str [], .str [], .emp])), (2, I1 8 (.call 44 [(.t 7), (KI 12)])), (3, I1 9 (.iaddr 1 (.t 6) (.t 8))), (4, I7 10 9), (7, I1 13 (.call 84 [(.t 12)])), (8, I1 14 (.build [.int .i64 0, .int .i64 0, .int .i64 0, .int .i64 0, .int .i64 0, .str [], .str [], .str [], .emp] [(0, 1, (.t 10)), (1, 1, (.t 11)), (5, 1, (.t 13))]))], [(10, I9 9 5 14)]]
  [[], [], [1], [0, 1, 2], [0, 1, 2, 3], [], [], [1, 2, 6], [0, 1, 2, 3, 4, 5, 6, 7], [], [0, 1, 2, 3, 4, 5, 6, 7, 8, 9]])
 (.seq (.seq (.reg [I6 15 0 5, I7 16 15])
 (.block 0
 (.seq (.reg [I1 18 (.bini .eql (.t 16) (KI 1)), I0 17 18])
 (.cond (.t 17)
 (.seq (.reg [I0 19 0, I1 20 (.call 44 [(.t 19), (KI 2)]), I1 21 (.bini .add (KI 1) (.t 20)), I6 22 2 5, I9 1 22 21])
 (.seq (.reg [I0 23 0, I1 24 (.call 44 [(.t 23), (KI 16)]), I1 25 (.bini .eql (.t 24) (KI 0))])
 (.cond (.t 25)
 (.reg [I0 26 0, I1 27 (.call 44 [(.t 26), (KI 5)]), I6 28 2 5, I9 1 28 27])
 .skip)))
 (.seq (.reg [I1 30 (.bini .eql (.t 16) (KI 3)), I0 29 30])
 (.cond (.t 29)
 (.reg [I0 31 0, I1 32 (.call 84 [(.t 31)]), I6 33 6 5, I9 1 33 32])
 (.seq (.reg [I1 35 (.bini .eql (.t 16) (KI 4)), I0 34 35])
 (.cond (.t 34)
 (.dregE [[(0, I1 36 (.bslice 1 8 [.int .i64 0] [(0, (KI 0)), (1, (KI 0)), (2, (KI 1)), (3, (KI 31)), (4, (KI 32)), (5, (KI 64)), (6, (KI 100)), (7, (KI 130))])), (1, I0 37 0), (5, I0 41 0), (2, I1 38 (.call 44 [(.t 37), (KI 8)])), (3, I1 39 (.iaddr 1 (.t 36) (.t 38))), (4, I7 40 39), (7, I6 43 2 5), (6, I1 42 (.call 85 [(.t 41)]))], [(8, I9 1 43 40)], [(9, I6 44 7 5)], [(10, I9 1 44 42)]]
  [[], [], [1], [0, 1, 2], [0, 1, 2, 3], [], [1, 2, 5], [0, 1, 2, 3, 4], [0, 1, 2, 3, 4, 5, 6, 7], [0, 1, 2, 3, 4, 5, 6, 7, 8], [0, 1, 2, 3, 4, 5, 6, 7, 8, 9]])
 (.seq (.reg [I1 46 (.bini .eql (.t 16) (KI 5)), I0 45 46])
 (.cond (.t 45)
 (.reg [I1 47 (.bslice 1 8 [.int .i64 0] [(0, (KI 0)), (1, (KI 1)), (2, (KI 32)), (3, (KI 33)), (4, (KI 128)), (5, (KI 129)), (6, (KI 60)), (7, (KI 64))]), I0 48 0, I1 49 (.call 44 [(.t 48), (KI 8)]), I1 50 (.iaddr 1 (.t 47) (.t 49)), I7 51 50, I6 52 2 5, I9 1 52 51])
 .skip))))))))))
 (.seq (.reg [I1 53 (.load true 9 (.t 5)), I9 9 4 53])
 .ret))))
theorem d46 : FnD Tryz.prog 46 2 52 [.cell 4 true 9] c46 := ⟨Tryz.f46, _, Tryz.func46, by kernel_rfl, rfl, rfl, by kernel_rfl, by kernel_rfl⟩
end Go.Proofs.YtemjlopoffjmpaaGreat.Abs
namespace Go.Proofs.YtemjlopoffjmpaaGreat.Abs
open Go
end Go.Proofs.YtemjlopoffjmpaaGreat.Abs
namespace Go.Proofs.YtemjlopoffjmpaaGreat.Abs
open Go
def c109 : ACode :=
 (.seq (.reg [I1 2 (.mv (.c (.emp))), I1 3 (.mv (.c (.bool false)))])
 (.seq (.seq (.reg [I0 7 0, I1 8 (.bins .eql (.t 7) (.c (.str [])))])
 (.cond (.t 8)
 (.seq (.reg [I1 2 (.mv (.c (.emp))), I1 3 (.mv (.c (.bool true)))])
 .ret)
 .skip))
 (.seq (.reg [I1 4 (.mv (.c (.emp)))])
 (.seq (.reg [I1 5 (.mv (KI 0))])
 (.seq (.seq (.reg [I1 6 (.mv (KI 0))])
 (.block 0
 (.loop
 (.seq (.seq (.reg [I0 9 6, I0 10 0, I1 11 (.len true (.t 10)), I1 12 (.bini .leq (.t 9) (.t 11))])
 (.cond (.t 12)
 .skip
 (.exit 0)))
 (.seq (.block 1
 (.seq (.seq (.reg [I0 15 6, I0 16 0, I1 17 (.len true (.t 16)), I1 18 (.bini .lss (.t 15) (.t 17)), I0 19 18, I4 20 19 0, I4 21 19 6, I2 22 19 (.indexs (.t 20) (.t 21)), I2 23 19 (.bini .neq (.t 22) (.c (.int .u8 47))), I1 24 (.pick (.t 19) (.t 23) (.c (.bool false)))])
 (.cond (.t 24)
 (.exit 1)
 .skip))
 (.seq (.seq (.reg [I0 25 0, I0 26 5, I0 27 6, I1 28 (.slices (.t 25) (some (.t 26)) (some (.t 27))), I1 29 (.call 127 [(.t 28)]), I1 30 (.un .not (.t 29)), I0 31 30, I5 32 31 4, I3 33 31 (.len false (.t 32)), I3 34 31 (.bini .geq (.t 33) (KI 7)), I1 35 (.pick (.t 31) (.c (.bool true)) (.t 34))])
 (.cond (.t 35)
 (.seq (.reg [I1 2 (.mv (.c (.emp))), I1 3 (.mv (.c (.bool false)))])
 .ret)
 .skip))
 (.seq (.reg [I0 36 4, I0 37 0, I0 38 5, I0 39 6, I1 40 (.slices (.t 37) (some (.t 38)) (some (.t 39))), I1 41 (.bslice 1 1 [.str []] [(0, (.t 40))]), I1 42 (.append 1 16 [.str []] (.t 36) (.t 41)), I0 4 42])
 (.reg [I0 43 6, I1 44 (.bini .add (.t 43) (KI 1)), I0 5 44])))))
 (.reg [I0 13 6, I1 14 (.bini .add (.t 13) (KI 1)), I0 6 14]))))))
 (.seq (.reg [I0 45 4, I0 2 45, I1 3 (.mv (.c (.bool true)))])
 .ret))))))
theorem d109 : FnD Tryz.prog 109 1 45 [.tmp 2, .tmp 3] c109 := ⟨Tryz.f109, _, Tryz.func109, by kernel_rfl, rfl, rfl, by kernel_rfl, by kernel_rfl⟩
end Go.Proofs.YtemjlopoffjmpaaGreat.Abs
namespace Go.Proofs.YtemjlopoffjmpaaGreat.Abs
open Go
def c42 : ACode :=
 (.seq (.reg [I1 8 (.mv (.c (.emp))), I1 9 (.mv (KI 0))])
 (.seq (.reg [I0 15 0, I0 16 1, I1 17 (.call 82 [(.t 15), (.t 16)]), I0 14 17, I8 18 14 0, I8 19 14 1, I0 10 18, I0 11 19])
 (.seq (.seq (.reg [I0 20 11, I1 21 (.bini .neq (.t 20) (KI 0))])
 (.cond (.t 21)
 (.seq (.reg [I0 22 0, I0 23 11, I0 8 22, I0 9 23])
 .ret)
 .skip))
 (.seq (.seq (.reg [I0 24 2, I1 25 (.bini .lss (.t 24) (KI 0))])
 (.cond (.t 25)
 (.seq (.reg [I0 26 0, I0 8 26, I1 9 (.mv (KI 1))])
 .ret)
 .skip))
 (.seq (.seq (.reg [I0 27 2, I1 28 (.bini .gtr (.t 27) (KI 128)), I0 29 28, I5 30 29 3, I3 31 29 (.len true (.t 30)), I5 32 29 2, I3 33 29 (.bini .sub (KI 128) (.t 32)), I3 34 29 (.bini .gtr (.t 31) (.t 33)), I1 35 (.pick (.t 29) (.c (.bool true)) (.t 34))])
 (.cond (.t 35)
 (.seq (.reg [I0 36 0, I0 8 36, I1 9 (.mv (KI 8))])
 .ret)
 .skip))
 (.seq (.seq (.reg [I0 37 3, I1 38 (.bins .eql (.t 37) (.c (.str [])))])
 (.cond (.t 38)
 (.seq (.reg [I0 39 0, I0 8 39, I1 9 (.mv (KI 0))])
 .ret)
 .skip))
 (.seq (.reg [I0 40 0, I0 41 10, I1 42 (.iaddr 5 (.t 40) (.t 41)), I1 43 (.load true 5 (.t 42)), I1 12 (.alloc [.int .i64 0, .int .i64 0, .str [], .str [], .int .i64 0]), I9 5 12 43])
 (.seq (.reg [I6 44 3 12, I7 45 44, I6 46 3 12, I7 47 46, I1 48 (.len true (.t 47)), I0 49 2, I0 50 3, I1 51 (.len true (.t 50)), I1 52 (.bini .add (.t 49) (.t 51)), I1 53 (.max2 (.t 48) (.t 52)), I1 54 (.call 83 [(.t 45), (.t 53)]), I1 55 (.convsb (.t 54)), I0 13 55])
 (.seq (.reg [I0 56 13, I0 57 2, I1 58 (.slicel 1 (.t 56) (some (.t 57)) none), I0 59 3, I1 60 (.copy 1 (.t 58) (.t 59))])
 (.seq (.reg [I0 61 13, I1 62 (.convbs (.t 61)), I6 63 3 12, I9 1 63 62])
 (.seq (.reg [I0 64 0, I0 65 10, I1 66 (.load true 5 (.t 12)), I1 67 (.call 81 [(.t 64), (.t 65), (.t 66)]), I0 8 67, I1 9 (.mv (KI 0))])
 .ret)))))))))))
theorem d42 : FnD Tryz.prog 42 4 64 [.tmp 8, .tmp 9] c42 := ⟨Tryz.f42, _, Tryz.func42, by kernel_rfl, rfl, rfl, by kernel_rfl, by kernel_rfl⟩
end Go.Proofs.YtemjlopoffjmpaaGreat.Abs
namespace Go.Proofs.YtemjlopoffjmpaaGreat.Abs
open Go
def c98 : ACode :=
 (.seq (.reg [I1 4 (.mv (.c (.emp))), I1 5 (.mv (KI 0))])
 (.seq (.reg [I0 9 0, I0 10 1, I1 11 (.call 112 [(.t 9), (.t 10)]), I0 8 11, I8 12 8 0, I8 13 8 1, I0 6 12, I0 7 13])
 (.seq (.seq (.reg [I0 14 7, I1 15 (.bini .neq (.t 14) (KI 0))])
 (.cond (.t 15)
 (.seq (.reg [I0 16 0, I0 17 7, I0 4 16, I0 5 17])
 .ret)
 .skip))
 (.seq (.seq (.reg [I0 18 6, I1 19 (.bini .eql (.t 18) (KI 0))])
 (.cond (.t 19)
 (.seq (.reg [I0 20 0, I0 4 20, I1 5 (.mv (KI 4))])
 .ret)
 .skip))
 (.seq (.seq (.reg [I0 21 0, I0 22 6, I1 23 (.call 111 [(.t 21), (.t 22)]), I1 24 (.len false (.t 23)), I1 25 (.bini .gtr (.t 24) (KI 0))])
 (.cond (.t 25)
 (.seq (.reg [I0 26 0, I0 4 26, I1 5 (.mv (KI 6))])
 .ret)
 .skip))
 (.seq (.reg [I0 27 0, I0 28 6, I1 29 (.build [.int .i64 0, .int .i64 0, .str [], .str [], .int .i64 0] []), I1 30 (.call 81 [(.t 27), (.t 28), (.t 29)]), I0 4 30, I1 5 (.mv (KI 0))])
 .ret))))))
theorem d98 : FnD Tryz.prog 98 2 29 [.tmp 4, .tmp 5] c98 := ⟨Tryz.f98, _, Tryz.func98, by kernel_rfl, rfl, rfl, by kernel_rfl, by kernel_rfl⟩
end Go.Proofs.YtemjlopoffjmpaaGreat.Abs
namespace Go.Proofs.YtemjlopoffjmpaaGreat.Abs
open Go
def c99 : ACode :=
 (.seq (.reg [I1 6 (.mv (.c (.emp))), I1 7 (.mv (KI 0))])
 (.seq (.reg [I0 16 0, I0 17 1, I1 18 (.call 112 [(.t 16), (.t 17)]), I0 15 18, I8 19 15 0, I8 20 15 1, I0 8 19, I0 9 20])
 (.seq (.seq (.reg [I0 21 9, I1 22 (.bini .neq (.t 21) (KI 0))])
 (.cond (.t 22)
 (.seq (.reg [I0 23 0, I0 24 9, I0 6 23, I0 7 24])
 .ret)
 .skip))
 (.seq (.seq (.reg [I0 25 8, I1 26 (.bini .eql (.t 25) (KI 0))])
 (.cond (.t 26)
 (.seq (.reg [I0 27 0, I0 6 27, I1 7 (.mv (KI 4))])
 .ret)
 .skip))
 (.seq (.reg [I0 29 0, I0 30 2, I1 31 (.call 78 [(.t 29), (.t 30)]), I0 28 31, I8 32 28 0, I8 33 28 1, I8 34 28 2, I0 10 32, I0 11 33, I0 9 34])
 (.seq (.seq (.reg [I0 35 9, I1 36 (.bini .neq (.t 35) (KI 0))])
 (.cond (.t 36)
 (.seq (.reg [I0 37 0, I0 38 9, I0 6 37, I0 7 38])
 .ret)
 .skip))
 (.seq (.reg [I0 40 0, I0 41 10, I0 42 11, I1 43 (.call 79 [(.t 40), (.t 41), (.t 42)]), I0 39 43, I8 44 39 0, I8 45 39 1, I0 12 44, I0 13 45])
 (.seq (.seq (.reg [I0 46 13, I0 47 46, I4 48 47 12, I4 49 47 8, I2 50 47 (.bini .eql (.t 48) (.t 49)), I1 51 (.pick (.t 47) (.t 50) (.c (.bool false)))])
 (.cond (.t 51)
 (.seq (.reg [I0 52 0, I0 6 52, I1 7 (.mv (KI 0))])
 .ret)
 .skip))
 (.seq (.seq (.reg [I0 53 13])
 (.cond (.t 53)
 (.seq (.reg [I0 54 0, I0 6 54, I1 7 (.mv (KI 3))])
 .ret)
 .skip))
 (.seq (.seq (.reg [I0 55 0, I0 56 10, I0 57 8, I1 58 (.call 126 [(.t 55), (.t 56), (.t 57)])])
 (.cond (.t 58)
 (.seq (.reg [I0 59 0, I0 6 59, I1 7 (.mv (KI 7))])
 .ret)
 .skip))
 (.seq (.reg [I0 60 0, I0 61 8, I1 62 (.iaddr 5 (.t 60) (.t 61)), I1 63 (.load true 5 (.t 62)), I1 14 (.alloc [.int .i64 0, .int .i64 0, .str [], .str [], .int .i64 0]), I9 5 14 63])
 (.seq (.reg [I0 64 10, I0 65 11, I6 66 1 14, I9 1 66 64, I6 67 2 14, I9 1 67 65])
 (.seq (.reg [I0 68 0, I0 69 8, I1 70 (.load true 5 (.t 14)), I1 71 (.call 81 [(.t 68), (.t 69), (.t 70)]), I0 6 71, I1 7 (.mv (KI 0))])
 .ret)))))))))))))
theorem d99 : FnD Tryz.prog 99 3 69 [.tmp 6, .tmp 7] c99 := ⟨Tryz.f99, _, Tryz.func99, by kernel_rfl, rfl, rfl, by kernel_rfl, by kernel_rfl⟩
end Go.Proofs.YtemjlopoffjmpaaGreat.Abs
namespace Go.Proofs.YtemjlopoffjmpaaGreat.Abs
open Go
def c100 : ACode :=
 (.seq (.reg [I1 6 (.mv (.c (.emp))), I1 7 (.mv (KI 0))])
 (.seq (.reg [I0 12 0, I0 13 1, I1 14 (.call 82 [(.t 12), (.t 13)]), I0 11 14, I8 15 11 0, I8 16 11 1, I0 8 15, I0 9 16])
 (.seq (.seq (.reg [I0 17 9, I1 18 (.bini .neq (.t 17) (KI 0))])
 (.cond (.t 18)
 (.seq (.reg [I0 19 0, I0 20 9, I0 6 19, I0 7 20])
 .ret)
 .skip))
 (.seq (.seq (.reg [I0 21 2, I1 22 (.bini .lss (.t 21) (KI 0))])
 (.cond (.t 22)
 (.seq (.reg [I0 23 0, I0 6 23, I1 7 (.mv (KI 1))])
 .ret)
 .skip))
 (.seq (.seq (.reg [I0 24 2, I1 25 (.bini .gtr (.t 24) (KI 128))])
 (.cond (.t 25)
 (.seq (.reg [I0 26 0, I0 6 26, I1 7 (.mv (KI 8))])
 .ret)
 .skip))
 (.seq (.reg [I0 27 0, I0 28 8, I1 29 (.iaddr 5 (.t 27) (.t 28)), I1 30 (.load true 5 (.t 29)), I1 10 (.alloc [.int .i64 0, .int .i64 0, .str [], .str [], .int .i64 0]), I9 5 10 30])
 (.seq (.reg [I6 31 3 10, I7 32 31, I0 33 2, I1 34 (.call 83 [(.t 32), (.t 33)]), I6 35 3 10, I9 1 35 34])
 (.seq (.reg [I0 36 0, I0 37 8, I1 38 (.load true 5 (.t 10)), I1 39 (.call 81 [(.t 36), (.t 37), (.t 38)]), I0 6 39, I1 7 (.mv (KI 0))])
 .ret))))))))
theorem d100 : FnD Tryz.prog 100 3 37 [.tmp 6, .tmp 7] c100 := ⟨Tryz.f100, _, Tryz.func100, by kernel_rfl, rfl, rfl, by kernel_rfl, by kernel_rfl⟩
end Go.Proofs.YtemjlopoffjmpaaGreat.Abs
namespace Go.Proofs.YtemjlopoffjmpaaGreat.Abs
open Go
def c41 : ACode :=
 (.seq (.reg [I1 6 (.mv (.c (.emp))), I1 7 (.mv (KI 0))])
 (.seq (.seq (.reg [I0 15 2, I1 16 (.bini .neq (.t 15) (KI 1)), I0 17 16, I4 18 17 2, I2 19 17 (.bini .neq (.t 18) (KI 2)), I1 20 (.pick (.t 17) (.t 19) (.c (.bool false)))])
 (.cond (.t 20)
 (.seq (.reg [I0 21 0, I0 6 21, I1 7 (.mv (KI 1))])
 .ret)
 .skip))
 (.seq (.reg [I0 23 0, I0 24 1, I1 25 (.call 78 [(.t 23), (.t 24)]), I0 22 25, I8 26 22 0, I8 27 22 1, I8 28 22 2, I0 8 26, I0 9 27, I0 10 28])
 (.seq (.seq (.reg [I0 29 10, I1 30 (.bini .neq (.t 29) (KI 0))])
 (.cond (.t 30)
 (.seq (.reg [I0 31 0, I0 32 10, I0 6 31, I0 7 32])
 .ret)
 .skip))
 (.seq (.reg [I0 34 0, I0 35 8, I0 36 9, I1 37 (.call 79 [(.t 34), (.t 35), (.t 36)]), I0 33 37, I8 38 33 0, I8 39 33 1, I0 11 38, I0 12 39])
 (.seq (.seq (.reg [I0 40 12])
 (.cond (.t 40)
 (.seq (.reg [I0 41 0, I0 6 41, I1 7 (.mv (KI 3))])
 .ret)
 .skip))
 (.seq (.reg [I0 43 0, I1 44 (.call 80 [(.t 43)]), I0 42 44, I8 45 42 0, I8 46 42 1, I0 13 45, I0 14 46])
 (.seq (.seq (.reg [I0 47 14, I1 48 (.un .not (.t 47))])
 (.cond (.t 48)
 (.seq (.reg [I0 49 0, I0 6 49, I1 7 (.mv (KI 8))])
 .ret)
 .skip))
 (.seq (.reg [I0 50 0, I0 51 13, I0 52 2, I0 53 8, I0 54 9, I1 55 (.build [.int .i64 0, .int .i64 0, .str [], .str [], .int .i64 0] [(0, 1, (.t 52)), (1, 1, (.t 53)), (2, 1, (.t 54))]), I1 56 (.call 81 [(.t 50), (.t 51), (.t 55)]), I0 6 56, I1 7 (.mv (KI 0))])
 .ret)))))))))
theorem d41 : FnD Tryz.prog 41 3 54 [.tmp 6, .tmp 7] c41 := ⟨Tryz.f41, _, Tryz.func41, by kernel_rfl, rfl, rfl, by kernel_rfl, by kernel_rfl⟩
end Go.Proofs.YtemjlopoffjmpaaGreat.Abs
namespace Go.Proofs.YtemjlopoffjmpaaGreat.Abs
open Go
def c126 : ACode :=
 (.seq (.reg [I1 6 (.mv (.c (.bool false)))])
 (.seq (.seq (.reg [I0 8 0, I0 9 1, I1 10 (.call 157 [(.t 8), (.t 9)]), I1 11 (.un .not (.t 10)), I0 12 11, I5 13 12 0, I5 14 12 2, I3 15 12 (.call 157 [(.t 13), (.t 14)]), I3 16 12 (.un .not (.t 15)), I1 17 (.pick (.t 12) (.c (.bool true)) (.t 16))])
 (.cond (.t 17)
 (.seq (.reg [I1 6 (.mv (.c (.bool false)))])
 .ret)
 .skip))
 (.seq (.seq (.reg [I1 7 (.mv (KI 0))])
 (.block 0
 (.loop
 (.seq (.seq (.reg [I0 18 7, I0 19 0, I1 20 (.len false (.t 19)), I1 21 (.bini .lss (.t 18) (.t 20)), I0 22 21, I4 23 22 1, I4 24 22 2, I2 25 22 (.bini .neq (.t 23) (.t 24)), I1 26 (.pick (.t 22) (.t 25) (.c (.bool false))), I0 27 26, I4 28 27 1, I2 29 27 (.bini .neq (.t 28) (KI 0)), I1 30 (.pick (.t 27) (.t 29) (.c (.bool false)))])
 (.cond (.t 30)
 .skip
 (.exit 0)))
 (.seq (.block 1
 (.reg [I0 33 0, I0 34 1, I1 35 (.iaddr 5 (.t 33) (.t 34)), I6 36 1 35, I7 37 36, I0 1 37]))
 (.reg [I0 31 7, I1 32 (.bini .add (.t 31) (KI 1)), I0 7 32]))))))
 (.seq (.reg [I0 38 1, I0 39 2, I1 40 (.bini .eql (.t 38) (.t 39)), I0 6 40])
 .ret))))
theorem d126 : FnD Tryz.prog 126 3 38 [.tmp 6] c126 := ⟨Tryz.f126, _, Tryz.func126, by kernel_rfl, rfl, rfl, by kernel_rfl, by kernel_rfl⟩
end Go.Proofs.YtemjlopoffjmpaaGreat.Abs
namespace Go.Proofs.YtemjlopoffjmpaaGreat.Abs
open Go
def c78 : ACode :=
 (.seq (.reg [I1 4 (.mv (KI 0)), I1 5 (.mv (.c (.str []))), I1 6 (.mv (KI 0))])
 (.seq (.reg [I0 12 1, I1 13 (.call 109 [(.t 12)]), I0 11 13, I8 14 11 0, I8 15 11 1, I0 7 14, I0 8 15])
 (.seq (.seq (.reg [I0 16 8, I1 17 (.un .not (.t 16)), I0 18 17, I5 19 18 7, I3 20 18 (.len false (.t 19)), I3 21 18 (.bini .eql (.t 20) (KI 0)), I1 22 (.pick (.t 18) (.c (.bool true)) (.t 21))])
 (.cond (.t 22)
 (.seq (.reg [I1 4 (.mv (KI 0)), I1 5 (.mv (.c (.str []))), I1 6 (.mv (KI 1))])
 .ret)
 .skip))
 (.seq (.reg [I0 24 0, I0 25 7, I0 26 7, I1 27 (.len false (.t 26)), I1 28 (.bini .sub (.t 27) (KI 1)), I1 29 (.slicel 1 (.t 25) none (some (.t 28))), I1 30 (.call 110 [(.t 24), (.t 29)]), I0 23 30, I8 31 23 0, I8 32 23 1, I0 9 31, I0 10 32])
 (.seq (.seq (.reg [I0 33 10, I1 34 (.bini .neq (.t 33) (KI 0))])
 (.cond (.t 34)
 (.seq (.reg [I0 35 10, I1 4 (.mv (KI 0)), I1 5 (.mv (.c (.str []))), I0 6 35])
 .ret)
 .skip))
 (.seq (.seq (.reg [I0 36 9, I0 37 0, I1 38 (.len false (.t 37)), I1 39 (.bini .geq (.t 36) (.t 38)), I0 40 39, I5 41 40 0, I5 42 40 9, I3 43 40 (.iaddr 5 (.t 41) (.t 42)), I3 44 40 (.faddr 0 (.t 43)), I3 45 40 (.load false 1 (.t 44)), I3 46 40 (.bini .neq (.t 45) (KI 2)), I1 47 (.pick (.t 40) (.c (.bool true)) (.t 46))])
 (.cond (.t 47)
 (.seq (.reg [I1 4 (.mv (KI 0)), I1 5 (.mv (.c (.str []))), I1 6 (.mv (KI 5))])
 .ret)
 .skip))
 (.seq (.dreg [I0 48 9, I0 49 7, I0 50 7, I1 51 (.len false (.t 50)), I1 52 (.bini .sub (.t 51) (KI 1)), I1 53 (.iaddr 1 (.t 49) (.t 52)), I7 54 53, I0 4 48, I0 5 54, I1 6 (.mv (KI 0))])
 .ret)))))))
theorem d78 : FnD Tryz.prog 78 2 53 [.tmp 4, .tmp 5, .tmp 6] c78 := ⟨Tryz.f78, _, Tryz.func78, by kernel_rfl, rfl, rfl, by kernel_rfl, by kernel_rfl⟩
end Go.Proofs.YtemjlopoffjmpaaGreat.Abs
namespace Go.Proofs.YtemjlopoffjmpaaGreat.Abs
open Go
def c82 : ACode :=
 (.seq (.reg [I1 4 (.mv (KI 0)), I1 5 (.mv (KI 0))])
 (.seq (.reg [I0 9 0, I0 10 1, I1 11 (.call 112 [(.t 9), (.t 10)]), I0 8 11, I8 12 8 0, I8 13 8 1, I0 6 12, I0 7 13])
 (.seq (.seq (.reg [I0 14 7, I1 15 (.bini .eql (.t 14) (KI 0)), I0 16 15, I4 17 16 0, I4 18 16 6, I2 19 16 (.iaddr 5 (.t 17) (.t 18)), I2 20 16 (.faddr 0 (.t 19)), I2 21 16 (.load false 1 (.t 20)), I2 22 16 (.bini .eql (.t 21) (KI 2)), I1 23 (.pick (.t 16) (.t 22) (.c (.bool false)))])
 (.cond (.t 23)
 (.seq (.reg [I1 4 (.mv (KI 0)), I1 5 (.mv (KI 4))])
 .ret)
 .skip))
 (.seq (.reg [I0 24 6, I0 25 7, I0 4 24, I0 5 25])
 .ret))))
theorem d82 : FnD Tryz.prog 82 2 24 [.tmp 4, .tmp 5] c82 := ⟨Tryz.f82, _, Tryz.func82, by kernel_rfl, rfl, rfl, by kernel_rfl, by kernel_rfl⟩
end Go.Proofs.YtemjlopoffjmpaaGreat.Abs
namespace Go.Proofs.YtemjlopoffjmpaaGreat.Abs
open Go
def c112 : ACode :=
 (.seq (.reg [I1 4 (.mv (KI 0)), I1 5 (.mv (KI 0))])
 (.seq (.reg [I0 9 1, I1 10 (.call 109 [(.t 9)]), I0 8 10, I8 11 8 0, I8 12 8 1, I0 6 11, I0 7 12])
 (.seq (.seq (.reg [I0 13 7, I1 14 (.un .not (.t 13))])
 (.cond (.t 14)
 (.seq (.reg [I1 4 (.mv (KI 0)), I1 5 (.mv (KI 1))])
 .ret)
 .skip))
 (.seq (.reg [I0 15 0, I0 16 6, I1 17 (.call 110 [(.t 15), (.t 16)]), I8 18 17 0, I8 19 17 1, I0 4 18, I0 5 19])
 .ret))))
theorem d112 : FnD Tryz.prog 112 2 18 [.tmp 4, .tmp 5] c112 := ⟨Tryz.f112, _, Tryz.func112, by kernel_rfl, rfl, rfl, by kernel_rfl, by kernel_rfl⟩
end Go.Proofs.YtemjlopoffjmpaaGreat.Abs
namespace Go.Proofs.YtemjlopoffjmpaaGreat.Abs
open Go
def c79 : ACode :=
 (.seq (.reg [I1 6 (.mv (KI 0)), I1 7 (.mv (.c (.bool false)))])
 (.seq (.reg [I0 10 0, I0 11 1, I1 12 (.call 111 [(.t 10), (.t 11)]), I0 8 12])
 (.seq (.seq (.reg [I1 9 (.mv (KI 0))])
 (.block 0
 (.loop
 (.seq (.seq (.reg [I0 13 9, I0 14 8, I1 15 (.len false (.t 14)), I1 16 (.bini .lss (.t 13) (.t 15))])
 (.cond (.t 16)
 .skip
 (.exit 0)))
 (.seq (.block 1
 (.seq (.reg [I0 19 0, I0 20 8, I0 21 9, I1 22 (.iaddr 1 (.t 20) (.t 21)), I7 23 22, I1 24 (.iaddr 5 (.t 19) (.t 23)), I6 25 2 24, I7 26 25, I0 27 2, I1 28 (.bins .eql (.t 26) (.t 27))])
 (.cond (.t 28)
 (.seq (.reg [I0 29 8, I0 30 9, I1 31 (.iaddr 1 (.t 29) (.t 30)), I7 32 31, I0 6 32, I1 7 (.mv (.c (.bool true)))])
 .ret)
 .skip)))
 (.reg [I0 17 9, I1 18 (.bini .add (.t 17) (KI 1)), I0 9 18]))))))
 (.seq (.reg [I1 6 (.mv (KI 0)), I1 7 (.mv (.c (.bool false)))])
 .ret))))
theorem d79 : FnD Tryz.prog 79 3 30 [.tmp 6, .tmp 7] c79 := ⟨Tryz.f79, _, Tryz.func79, by kernel_rfl, rfl, rfl, by kernel_rfl, by kernel_rfl⟩
end Go.Proofs.YtemjlopoffjmpaaGreat.Abs
namespace Go.Proofs.YtemjlopoffjmpaaGreat.Abs
open Go
def c110 : ACode :=
 (.seq (.reg [I1 4 (.mv (KI 0)), I1 5 (.mv (KI 0))])
 (.seq (.reg [I1 6 (.mv (KI 0))])
 (.seq (.seq (.reg [I1 7 (.mv (KI 0))])
 (.block 0
 (.loop
 (.seq (.seq (.reg [I0 10 7, I0 11 1, I1 12 (.len false (.t 11)), I1 13 (.bini .lss (.t 10) (.t 12))])
 (.cond (.t 13)
 .skip
 (.exit 0)))
 (.seq (.block 1
 (.seq (.seq (.reg [I0 16 6, I0 17 0, I1 18 (.len false (.t 17)), I1 19 (.bini .geq (.t 16) (.t 18)), I0 20 19, I5 21 20 0, I5 22 20 6, I3 23 20 (.iaddr 5 (.t 21) (.t 22)), I3 24 20 (.faddr 0 (.t 23)), I3 25 20 (.load false 1 (.t 24)), I3 26 20 (.bini .neq (.t 25) (KI 2)), I1 27 (.pick (.t 20) (.c (.bool true)) (.t 26))])
 (.cond (.t 27)
 (.seq (.reg [I1 4 (.mv (KI 0)), I1 5 (.mv (KI 5))])
 .ret)
 .skip))
 (.seq (.reg [I0 29 0, I0 30 6, I0 31 1, I0 32 7, I1 33 (.iaddr 1 (.t 31) (.t 32)), I7 34 33, I1 35 (.call 79 [(.t 29), (.t 30), (.t 34)]), I0 28 35, I8 36 28 0, I8 37 28 1, I0 8 36, I0 9 37])
 (.seq (.seq (.reg [I0 38 9, I1 39 (.un .not (.t 38)), I0 40 39, I4 41 40 0, I2 42 40 (.call 129 [(.t 41)]), I1 43 (.pick (.t 40) (.t 42) (.c (.bool false)))])
 (.cond (.t 43)
 (.seq (.reg [I1 4 (.mv (KI 0)), I1 5 (.mv (KI 12))])
 .ret)
 .skip))
 (.seq (.seq (.reg [I0 44 9, I1 45 (.un .not (.t 44))])
 (.cond (.t 45)
 (.seq (.reg [I1 4 (.mv (KI 0)), I1 5 (.mv (KI 2))])
 .ret)
 .skip))
 (.reg [I0 46 8, I0 6 46]))))))
 (.reg [I0 14 7, I1 15 (.bini .add (.t 14) (KI 1)), I0 7 15]))))))
 (.seq (.reg [I0 47 6, I0 4 47, I1 5 (.mv (KI 0))])
 .ret))))
theorem d110 : FnD Tryz.prog 110 2 46 [.tmp 4, .tmp 5] c110 := ⟨Tryz.f110, _, Tryz.func110, by kernel_rfl, rfl, rfl, by kernel_rfl, by kernel_rfl⟩
end Go.Proofs.YtemjlopoffjmpaaGreat.Abs
namespace Go.Proofs.YtemjlopoffjmpaaGreat.Abs
open Go
def c111 : ACode :=
 (.seq (.reg [I1 4 (.mv (.c (.emp)))])
 (.seq (.reg [I1 5 (.mv (.c (.emp)))])
 (.seq (.seq (.reg [I1 6 (.mv (KI 1))])
 (.block 0
 (.loop
 (.seq (.seq (.reg [I0 8 6, I0 9 0, I1 10 (.len false (.t 9)), I1 11 (.bini .lss (.t 8) (.t 10))])
 (.cond (.t 11)
 .skip
 (.exit 0)))
 (.seq (.block 1
 (.seq (.seq (.reg [I0 14 0, I0 15 6, I1 16 (.iaddr 5 (.t 14) (.t 15)), I6 17 0 16, I7 18 17, I1 19 (.bini .neq (.t 18) (KI 1)), I0 20 19, I4 21 20 0, I4 22 20 6, I2 23 20 (.iaddr 5 (.t 21) (.t 22)), I2 24 20 (.faddr 0 (.t 23)), I2 25 20 (.load false 1 (.t 24)), I2 26 20 (.bini .neq (.t 25) (KI 2)), I1 27 (.pick (.t 20) (.t 26) (.c (.bool false))), I0 28 27, I5 29 28 0, I5 30 28 6, I3 31 28 (.iaddr 5 (.t 29) (.t 30)), I3 32 28 (.faddr 1 (.t 31)), I3 33 28 (.load false 1 (.t 32)), I5 34 28 1, I3 35 28 (.bini .neq (.t 33) (.t 34)), I1 36 (.pick (.t 28) (.c (.bool true)) (.t 35))])
 (.cond (.t 36)
 (.exit 1)
 .skip))
 (.seq (.reg [I0 37 5, I1 38 (.len false (.t 37)), I0 7 38])
 (.seq (.reg [I0 39 5, I0 40 6, I1 41 (.bslice 1 1 [.int .i64 0] [(0, (.t 40))]), I1 42 (.append 1 8 [.int .i64 0] (.t 39) (.t 41)), I0 5 42])
 (.block 2
 (.loop
 (.seq (.seq (.dreg [I0 43 7, I1 44 (.bini .gtr (.t 43) (KI 0)), I0 45 44, I4 46 45 0, I4 47 45 5, I4 48 45 7, I2 49 45 (.bini .sub (.t 48) (KI 1)), I2 50 45 (.iaddr 1 (.t 47) (.t 49)), I2 51 45 (.load false 1 (.t 50)), I2 52 45 (.iaddr 5 (.t 46) (.t 51)), I2 53 45 (.faddr 2 (.t 52)), I2 54 45 (.load false 1 (.t 53)), I4 55 45 0, I4 56 45 6, I2 57 45 (.iaddr 5 (.t 55) (.t 56)), I2 58 45 (.faddr 2 (.t 57)), I2 59 45 (.load false 1 (.t 58)), I2 60 45 (.bins .gtr (.t 54) (.t 59)), I1 61 (.pick (.t 45) (.t 60) (.c (.bool false)))])
 (.cond (.t 61)
 .skip
 (.exit 2)))
 (.block 3
 (.seq (.dregE [[(0, I0 62 5), (1, I0 63 7), (2, I1 64 (.bini .sub (.t 63) (KI 1))), (3, I0 65 5), (4, I0 66 7), (5, I0 67 5), (6, I0 68 7), (7, I1 69 (.iaddr 1 (.t 67) (.t 68))), (8, I7 70 69), (9, I0 71 5), (10, I0 72 7), (11, I1 73 (.bini .sub (.t 72) (KI 1))), (12, I1 74 (.iaddr 1 (.t 71) (.t 73))), (13, I7 75 74), (14, I1 76 (.iaddr 1 (.t 62) (.t 64))), (15, I9 1 76 70)], [(16, I1 77 (.iaddr 1 (.t 65) (.t 66)))], [(17, I9 1 77 75)]]
  [[], [], [1], [], [], [], [], [5, 6], [5, 6, 7], [], [], [10], [9, 10, 11], [9, 10, 11, 12], [0, 1, 2, 5, 6, 7, 8, 9, 10, 11, 12, 13], [0, 1, 2, 5, 6, 7, 8, 9, 10, 11, 12, 13, 14], [0, 1, 2, 3, 4, 5, 6, 7, 8, 9, 10, 11, 12, 13, 14, 15], [0, 1, 2, 3, 4, 5, 6, 7, 8, 9, 10, 11, 12, 13, 14, 15, 16]])
 (.reg [I0 78 7, I1 79 (.bini .sub (.t 78) (KI 1)), I0 7 79]))))))))))
 (.reg [I0 12 6, I1 13 (.bini .add (.t 12) (KI 1)), I0 6 13]))))))
 (.seq (.reg [I0 80 5, I0 4 80])
 .ret))))
theorem d111 : FnD Tryz.prog 111 2 79 [.tmp 4] c111 := ⟨Tryz.f111, _, Tryz.func111, by kernel_rfl, rfl, rfl, by kernel_rfl, by kernel_rfl⟩
end Go.Proofs.YtemjlopoffjmpaaGreat.Abs
namespace Go.Proofs.YtemjlopoffjmpaaGreat.Abs
open Go
def c85 : ACode :=
 (.seq (.reg [I1 2 (.mv (.c (.str [])))])
 (.seq (.reg [I1 7 (.bslice 1 8 [.int .i64 0] [(0, (KI 0)), (1, (KI 1)), (2, (KI 3)), (3, (KI 17)), (4, (KI 32)), (5, (KI 33)), (6, (KI 64)), (7, (KI 129))]), I0 8 0, I1 9 (.call 44 [(.t 8), (KI 8)]), I1 10 (.iaddr 1 (.t 7) (.t 9)), I7 11 10, I0 3 11])
 (.seq (.reg [I0 12 0, I1 13 (.call 44 [(.t 12), (KI 4)]), I1 14 (.bini .mul (.t 13) (KI 40)), I1 15 (.convi .u8 (.t 14)), I0 4 15])
 (.seq (.reg [I0 16 3, I1 17 (.mksl 1 1 [.int .u8 0] (.t 16) (.t 16)), I0 5 17])
 (.seq (.seq (.reg [I1 6 (.mv (KI 0))])
 (.block 0
 (.loop
 (.seq (.seq (.reg [I0 18 6, I0 19 3, I1 20 (.bini .lss (.t 18) (.t 19))])
 (.cond (.t 20)
 .skip
 (.exit 0)))
 (.seq (.block 1
 (.seq (.reg [I0 23 4, I1 24 (.bini .gtr (.t 23) (.c (.int .u8 0)))])
 (.cond (.t 24)
 (.reg [I0 25 5, I0 26 6, I0 27 4, I0 28 6, I1 29 (.bini .rem (.t 28) (KI 5)), I1 30 (.convi .u8 (.t 29)), I1 31 (.bini .add (.t 27) (.t 30)), I1 32 (.iaddr 1 (.t 25) (.t 26)), I9 1 32 31])
 .skip)))
 (.reg [I0 21 6, I1 22 (.bini .add (.t 21) (KI 1)), I0 6 22]))))))
 (.seq (.reg [I0 33 5, I1 34 (.convbs (.t 33)), I0 2 34])
 .ret))))))
theorem d85 : FnD Tryz.prog 85 1 34 [.tmp 2] c85 := ⟨Tryz.f85, _, Tryz.func85, by kernel_rfl, rfl, rfl, by kernel_rfl, by kernel_rfl⟩
end Go.Proofs.YtemjlopoffjmpaaGreat.Abs
namespace Go.Proofs.YtemjlopoffjmpaaGreat.Abs
open Go
def c157 : ACode :=
 (.seq (.reg [I1 4 (.mv (.c (.bool false)))])
 (.seq (.reg [I0 5 1, I1 6 (.bini .geq (.t 5) (KI 0)), I0 7 6, I4 8 7 1, I4 9 7 0, I2 10 7 (.len false (.t 9)), I2 11 7 (.bini .lss (.t 8) (.t 10)), I1 12 (.pick (.t 7) (.t 11) (.c (.bool false))), I0 13 12, I4 14 13 0, I4 15 13 1, I2 16 13 (.iaddr 5 (.t 14) (.t 15)), I2 17 13 (.faddr 0 (.t 16)), I2 18 13 (.load false 1 (.t 17)), I2 19 13 (.bini .neq (.t 18) (KI 0)), I1 20 (.pick (.t 13) (.t 19) (.c (.bool false))), I0 4 20])
 .ret))
theorem d157 : FnD Tryz.prog 157 2 19 [.tmp 4] c157 := ⟨Tryz.f157, _, Tryz.func157, by kernel_rfl, rfl, rfl, by kernel_rfl, by kernel_rfl⟩
end Go.Proofs.YtemjlopoffjmpaaGreat.Abs
namespace Go.Proofs.YtemjlopoffjmpaaGreat.Abs
open Go
def c127 : ACode :=
 (.seq (.reg [I1 2 (.mv (.c (.bool false)))])
 (.seq (.seq (.reg [I1 3 (.mv (KI 0))])
 (.block 0
 (.loop
 (.seq (.seq (.reg [I0 5 3, I0 6 0, I1 7 (.len true (.t 6)), I1 8 (.bini .lss (.t 5) (.t 7))])
 (.cond (.t 8)
 .skip
 (.exit 0)))
 (.seq (.block 1
 (.seq (.reg [I0 11 0, I0 12 3, I1 13 (.indexs (.t 11) (.t 12)), I0 4 13])
 (.seq (.reg [I0 14 4, I1 15 (.bini .geq (.t 14) (.c (.int .u8 97))), I0 16 15, I4 17 16 4, I2 18 16 (.bini .leq (.t 17) (.c (.int .u8 122))), I1 19 (.pick (.t 16) (.t 18) (.c (.bool false))), I0 20 19, I5 21 20 4, I3 22 20 (.bini .geq (.t 21) (.c (.int .u8 48))), I5 23 20 22, I4 24 23 4, I2 25 23 (.bini .leq (.t 24) (.c (.int .u8 57))), I3 26 20 (.pick (.t 23) (.t 25) (.c (.bool false))), I1 27 (.pick (.t 20) (.c (.bool true)) (.t 26)), I0 28 27, I5 29 28 4, I3 30 28 (.bini .eql (.t 29) (.c (.int .u8 46))), I1 31 (.pick (.t 28) (.c (.bool true)) (.t 30)), I0 32 31, I5 33 32 4, I3 34 32 (.bini .eql (.t 33) (.c (.int .u8 95))), I1 35 (.pick (.t 32) (.c (.bool true)) (.t 34)), I0 36 35, I5 37 36 4, I3 38 36 (.bini .eql (.t 37) (.c (.int .u8 45))), I1 39 (.pick (.t 36) (.c (.bool true)) (.t 38)), I1 40 (.un .not (.t 39))])
 (.cond (.t 40)
 (.seq (.reg [I1 2 (.mv (.c (.bool false)))])
 .ret)
 .skip))))
 (.reg [I0 9 3, I1 10 (.bini .add (.t 9) (KI 1)), I0 3 10]))))))
 (.seq (.reg [I0 41 0, I1 42 (.len true (.t 41)), I1 43 (.bini .geq (.t 42) (KI 1)), I0 44 43, I4 45 44 0, I2 46 44 (.len true (.t 45)), I2 47 44 (.bini .leq (.t 46) (KI 8)), I1 48 (.pick (.t 44) (.t 47) (.c (.bool false))), I0 49 48, I4 50 49 0, I2 51 49 (.bins .neq (.t 50) (.c (.str [46]))), I1 52 (.pick (.t 49) (.t 51) (.c (.bool false))), I0 53 52, I4 54 53 0, I2 55 53 (.bins .neq (.t 54) (.c (.str [46, 46]))), I1 56 (.pick (.t 53) (.t 55) (.c (.bool false))), I0 2 56])
 .ret)))
theorem d127 : FnD Tryz.prog 127 1 56 [.tmp 2] c127 := ⟨Tryz.f127, _, Tryz.func127, by kernel_rfl, rfl, rfl, by kernel_rfl, by kernel_rfl⟩
end Go.Proofs.YtemjlopoffjmpaaGreat.Abs
namespace Go.Proofs.YtemjlopoffjmpaaGreat.Abs
open Go
def c81 : ACode :=
 (.seq (.reg [I1 5 (.box (.t 2)), I1 6 (.mv (.c (.emp)))])
 (.seq (.reg [I1 8 (.bslice 5 0 [.int .i64 0, .int .i64 0, .str [], .str [], .int .i64 0] []), I0 9 0, I1 10 (.append 5 56 [.int .i64 0, .int .i64 0, .str [], .str [], .int .i64 0] (.t 8) (.t 9)), I0 7 10])
 (.seq (.seq (.reg [I0 11 1, I1 12 (.bini .geq (.t 11) (KI 0)), I0 13 12, I4 14 13 1, I4 15 13 7, I2 16 13 (.len false (.t 15)), I2 17 13 (.bini .lss (.t 14) (.t 16)), I1 18 (.pick (.t 13) (.t 17) (.c (.bool false)))])
 (.cond (.t 18)
 (.reg [I0 19 7, I0 20 1, I1 21 (.load true 5 (.t 5)), I1 22 (.iaddr 5 (.t 19) (.t 20)), I9 5 22 21])
 .skip))
 (.seq (.reg [I0 23 7, I0 6 23])
 .ret))))
theorem d81 : FnD Tryz.prog 81 3 21 [.tmp 6] c81 := ⟨Tryz.f81, _, Tryz.func81, by kernel_rfl, rfl, rfl, by kernel_rfl, by kernel_rfl⟩
end Go.Proofs.YtemjlopoffjmpaaGreat.Abs
namespace Go.Proofs.YtemjlopoffjmpaaGreat.Abs
open Go
def c84 : ACode :=
 (.seq (.reg [I1 2 (.mv (.c (.str [])))])
 (.seq (.reg [I1 3 (.bslice 1 15 [.str []] [(0, (.c (.str [97]))), (1, (.c (.str [98]))), (2, (.c (.str [99]))), (3, (.c (.str [97, 47, 98]))), (4, (.c (.str [97, 47, 99]))), (5, (.c (.str [98, 47, 97]))), (6, (.c (.str [97, 47, 98, 47, 99]))), (7, (.c (.str [100]))), (8, (.c (.str [99, 47, 100]))), (9, (.c (.str []))), (10, (.c (.str [47, 97]))), (11, (.c (.str [97, 47, 47, 98]))), (12, (.c (.str [116, 111, 111, 108, 111, 110, 103, 110, 97, 109, 101]))), (13, (.c (.str [65]))), (14, (.c (.str [46, 46])))]), I0 4 0, I1 5 (.call 44 [(.t 4), (KI 15)]), I1 6 (.iaddr 1 (.t 3) (.t 5)), I7 7 6, I0 2 7])
 .ret))
theorem d84 : FnD Tryz.prog 84 1 7 [.tmp 2] c84 := ⟨Tryz.f84, _, Tryz.func84, by kernel_rfl, rfl, rfl, by kernel_rfl, by kernel_rfl⟩
end Go.Proofs.YtemjlopoffjmpaaGreat.Abs
namespace Go.Proofs.YtemjlopoffjmpaaGreat.Abs
open Go
def c13 : ACode :=
 (.seq (.reg [I1 2 (.mv (.c (.nilp)))])
 (.seq (.reg [I0 3 0, I1 4 (.build [.emp, .int .i64 0] [(0, 1, (.t 3))]), I1 5 (.box (.t 4)), I0 2 5])
 .ret))
theorem d13 : FnD Tryz.prog 13 1 5 [.tmp 2] c13 := ⟨Tryz.f13, _, Tryz.func13, by kernel_rfl, rfl, rfl, by kernel_rfl, by kernel_rfl⟩
end Go.Proofs.YtemjlopoffjmpaaGreat.Abs
namespace Go.Proofs.YtemjlopoffjmpaaGreat.Abs
open Go
def c34 : ACode :=
 (.seq (.reg [I1 0 (.mv (.c (.emp)))])
 (.seq (.reg [I1 2 (.mksl 5 56 [.int .i64 0, .int .i64 0, .str [], .str [], .int .i64 0] (KI 8) (KI 8)), I0 1 2])
 (.seq (.reg [I0 3 1, I1 4 (.iaddr 5 (.t 3) (KI 0)), I6 5 0 4, ⟨none, none, .store 1 (.t 5) (KI 2)⟩])
 (.seq (.reg [I0 6 1, I0 0 6])
 .ret))))
theorem d34 : FnD Tryz.prog 34 0 7 [.tmp 0] c34 := ⟨Tryz.f34, _, Tryz.func34, by kernel_rfl, rfl, rfl, by kernel_rfl, by kernel_rfl⟩
end Go.Proofs.YtemjlopoffjmpaaGreat.Abs
namespace Go.Proofs.YtemjlopoffjmpaaGreat.Abs
open Go
def c44 : ACode :=
 (.seq (.reg [I1 4 (.mv (KI 0))])
 (.seq (.seq (.dreg [I0 5 0, I1 6 (.nilchk (.t 5)), I6 7 1 6, I7 8 7, I0 9 0, I1 10 (.nilchk (.t 9)), I6 11 0 10, I7 12 11, I1 13 (.len false (.t 12)), I1 14 (.bini .geq (.t 8) (.t 13)), I0 15 14, I5 16 15 1, I3 17 15 (.bini .lss (.t 16) (KI 1)), I1 18 (.pick (.t 15) (.c (.bool true)) (.t 17))])
 (.cond (.t 18)
 (.seq (.reg [I1 4 (.mv (KI 0))])
 .ret)
 .skip))
 (.seq (.reg [I0 19 0, I1 20 (.nilchk (.t 19)), I6 21 1 20, I7 22 21, I1 23 (.bini .add (.t 22) (KI 1)), I1 24 (.nilchk (.t 19)), I6 25 1 24, I9 1 25 23])
 (.seq (.dreg [I0 26 0, I1 27 (.nilchk (.t 26)), I6 28 0 27, I7 29 28, I0 30 0, I1 31 (.nilchk (.t 30)), I6 32 1 31, I7 33 32, I1 34 (.bini .sub (.t 33) (KI 1)), I1 35 (.iaddr 1 (.t 29) (.t 34)), I7 36 35, I1 37 (.convi .i64 (.t 36)), I0 38 1, I1 39 (.bini .rem (.t 37) (.t 38)), I0 4 39])
 .ret))))
theorem d44 : FnD Tryz.prog 44 2 38 [.tmp 4] c44 := ⟨Tryz.f44, _, Tryz.func44, by kernel_rfl, rfl, rfl, by kernel_rfl, by kernel_rfl⟩
end Go.Proofs.YtemjlopoffjmpaaGreat.Abs
namespace Go.Proofs.YtemjlopoffjmpaaGreat.Abs
open Go
def c80 : ACode :=
 (.seq (.reg [I1 2 (.mv (KI 0)), I1 3 (.mv (.c (.bool false)))])
 (.seq (.seq (.reg [I1 4 (.mv (KI 0))])
 (.block 0
 (.loop
 (.seq (.seq (.reg [I0 5 4, I0 6 0, I1 7 (.len false (.t 6)), I1 8 (.bini .lss (.t 5) (.t 7))])
 (.cond (.t 8)
 .skip
 (.exit 0)))
 (.seq (.block 1
 (.seq (.reg [I0 11 0, I0 12 4, I1 13 (.iaddr 5 (.t 11) (.t 12)), I6 14 0 13, I7 15 14, I1 16 (.bini .eql (.t 15) (KI 0))])
 (.cond (.t 16)
 (.seq (.reg [I0 17 4, I0 2 17, I1 3 (.mv (.c (.bool true)))])
 .ret)
 .skip)))
 (.reg [I0 9 4, I1 10 (.bini .add (.t 9) (KI 1)), I0 4 10]))))))
 (.seq (.reg [I1 2 (.mv (KI 0)), I1 3 (.mv (.c (.bool false)))])
 .ret)))
theorem d80 : FnD Tryz.prog 80 1 17 [.tmp 2, .tmp 3] c80 := ⟨Tryz.f80, _, Tryz.func80, by kernel_rfl, rfl, rfl, by kernel_rfl, by kernel_rfl⟩
end Go.Proofs.YtemjlopoffjmpaaGreat.Abs
namespace Go.Proofs.YtemjlopoffjmpaaGreat.Abs
open Go
def c129 : ACode :=
 (.seq (.reg [I1 2 (.mv (.c (.bool false)))])
 (.seq (.seq (.reg [I1 3 (.mv (KI 0))])
 (.block 0
 (.loop
 (.seq (.seq (.reg [I0 4 3, I0 5 0, I1 6 (.len false (.t 5)), I1 7 (.bini .lss (.t 4) (.t 6))])
 (.cond (.t 7)
 .skip
 (.exit 0)))
 (.seq (.block 1
 (.seq (.reg [I0 10 0, I0 11 3, I1 12 (.iaddr 5 (.t 10) (.t 11)), I6 13 0 12, I7 14 13, I1 15 (.bini .eql (.t 14) (KI 3))])
 (.cond (.t 15)
 (.seq (.reg [I1 2 (.mv (.c (.bool true)))])
 .ret)
 .skip)))
 (.reg [I0 8 3, I1 9 (.bini .add (.t 8) (KI 1)), I0 3 9]))))))
 (.seq (.reg [I1 2 (.mv (.c (.bool false)))])
 .ret)))
theorem d129 : FnD Tryz.prog 129 1 15 [.tmp 2] c129 := ⟨Tryz.f129, _, Tryz.func129, by kernel_rfl, rfl, rfl, by kernel_rfl, by kernel_rfl⟩
end Go.Proofs.YtemjlopoffjmpaaGreat.Abs
namespace Go.Proofs.YtemjlopoffjmpaaGreat.Abs
open Go
end Go.Proofs.YtemjlopoffjmpaaGreat.Abs
namespace Go.Proofs.YtemjlopoffjmpaaGreat.Abs
open Go
end Go.Proofs.YtemjlopoffjmpaaGreat.Abs
namespace Go.Proofs.YtemjlopoffjmpaaGreat.Abs
open Go
end Go.Proofs.YtemjlopoffjmpaaGreat.Abs
namespace Go.Proofs.YtemjlopoffjmpaaGreat.Abs
open Go
def c54 : ACode :=
 (.seq (.reg [I1 2 (.mv (KI 0))])
 (.seq (.reg [I1 3 (.mv (KI 0))])
 (.seq (.seq (.reg [I1 4 (.mv (KI 0))])
 (.block 0
 (.loop
 (.seq (.seq (.reg [I0 5 4, I1 6 (.bini .lss (.t 5) (KI 4))])
 (.cond (.t 6)
 .skip
 (.exit 0)))
 (.seq (.block 1
 (.seq (.reg [I0 9 0, I0 10 4, I1 11 (.call 97 [(.t 9), (.t 10)]), I1 12 (.bins .neq (.t 11) (.c (.str [])))])
 (.cond (.t 12)
 (.reg [I0 13 3, I1 14 (.bini .add (.t 13) (KI 1)), I0 3 14])
 .skip)))
 (.reg [I0 7 4, I1 8 (.bini .add (.t 7) (KI 1)), I0 4 8]))))))
 (.seq (.reg [I0 15 3, I0 2 15])
 .ret))))
theorem d54 : FnD Tryz.prog 54 1 15 [.tmp 2] c54 := ⟨Tryz.f54, _, Tryz.func54, by kernel_rfl, rfl, rfl, by kernel_rfl, by kernel_rfl⟩
end Go.Proofs.YtemjlopoffjmpaaGreat.Abs
namespace Go.Proofs.YtemjlopoffjmpaaGreat.Abs
open Go
def c97 : ACode :=
 (.seq (.reg [I1 4 (.mv (.c (.str [])))])
 (.seq (.seq (.reg [I0 6 1, I1 7 (.bini .lss (.t 6) (KI 0)), I0 8 7, I5 9 8 1, I3 10 8 (.bini .geq (.t 9) (KI 4)), I1 11 (.pick (.t 8) (.c (.bool true)) (.t 10)), I0 12 11, I5 13 12 0, I3 14 12 (.len true (.t 13)), I3 15 12 (.bini .gtr (.t 14) (KI 128)), I1 16 (.pick (.t 12) (.c (.bool true)) (.t 15))])
 (.cond (.t 16)
 (.seq (.reg [I1 4 (.mv (.c (.str [])))])
 .ret)
 .skip))
 (.seq (.reg [I0 17 0, I1 18 (.call 83 [(.t 17), (KI 128)]), I0 19 1, I1 20 (.bini .mul (.t 19) (KI 32)), I0 21 1, I1 22 (.bini .add (.t 21) (KI 1)), I1 23 (.bini .mul (.t 22) (KI 32)), I1 24 (.slices (.t 18) (some (.t 20)) (some (.t 23))), I0 5 24])
 (.seq (.seq (.reg [I0 25 5, I1 26 (.mksl 1 1 [.int .u8 0] (KI 32) (KI 32)), I1 27 (.convbs (.t 26)), I1 28 (.bins .eql (.t 25) (.t 27))])
 (.cond (.t 28)
 (.seq (.reg [I1 4 (.mv (.c (.str [])))])
 .ret)
 .skip))
 (.seq (.reg [I0 29 5, I0 4 29])
 .ret)))))
theorem d97 : FnD Tryz.prog 97 2 28 [.tmp 4] c97 := ⟨Tryz.f97, _, Tryz.func97, by kernel_rfl, rfl, rfl, by kernel_rfl, by kernel_rfl⟩
end Go.Proofs.YtemjlopoffjmpaaGreat.Abs
namespace Go.Proofs.YtemjlopoffjmpaaGreat.Abs
open Go
def c43 : ACode :=
 (.seq (.reg [I1 2 (.mv (.c (.bool false)))])
 (.seq (.dreg [I0 3 0, I1 4 (.nilchk (.t 3)), I6 5 1 4, I7 6 5, I0 7 0, I1 8 (.nilchk (.t 7)), I6 9 0 8, I7 10 9, I1 11 (.len false (.t 10)), I1 12 (.bini .geq (.t 6) (.t 11)), I0 2 12])
 .ret))
theorem d43 : FnD Tryz.prog 43 1 12 [.tmp 2] c43 := ⟨Tryz.f43, _, Tryz.func43, by kernel_rfl, rfl, rfl, by kernel_rfl, by kernel_rfl⟩
end Go.Proofs.YtemjlopoffjmpaaGreat.Abs
namespace Go.Proofs.YtemjlopoffjmpaaGreat.Abs
open Go
def c83 : ACode :=
 (.seq (.reg [I1 4 (.mv (.c (.str [])))])
 (.seq (.reg [I0 6 1, I1 7 (.mksl 1 1 [.int .u8 0] (.t 6) (.t 6)), I0 5 7])
 (.seq (.reg [I0 8 5, I0 9 0, I1 10 (.copy 1 (.t 8) (.t 9))])
 (.seq (.reg [I0 11 5, I1 12 (.convbs (.t 11)), I0 4 12])
 .ret))))
theorem d83 : FnD Tryz.prog 83 2 11 [.tmp 4] c83 := ⟨Tryz.f83, _, Tryz.func83, by kernel_rfl, rfl, rfl, by kernel_rfl, by kernel_rfl⟩
end Go.Proofs.YtemjlopoffjmpaaGreat.Abs
set_option linter.unusedSimpArgs false
set_option linter.unusedVariables false
namespace Go.Proofs.YtemjlopoffjmpaaGreat.Abs
open Go
structure Node where
 kind : Int
 up : Int
 name : List UInt8
 body : List UInt8
 bad : Int
 deriving DecidableEq, Inhabited
def pnode (x : Node) : List PV := [.int .i64 x.kind, .int .i64 x.up, .str x.name, .str x.body, .int .i64 x.bad]
def aset (s : List Node) : AV := .fz (s.map pnode)
theorem over_spec (l : List (List PV)) (n : Int) : C Tryz.prog 43 [.ptr 0 0 0 1] [some [[.fz l, .int .i64 n]]] (fun x H' => x = .bool (decide (l.length ≤ n)) ∧ H' = [some [[.fz l, .int .i64 n]]]) := by
 refine C_body d43 rfl (WT_ok ?_)
 delta c43 I0 I1 I2 I3 I4 I5 I6 I7 I8 I9 KI
 simp only [wk, iaddrV_map, seval]
 refine WT_draw ?_
 simp only [wk, iaddrV_map, seval]
def longA (s : List UInt8) (n : Nat) : List UInt8 := s.take n ++ List.replicate (n - s.length) 0
theorem bytesOf_map : ∀ s : List UInt8, bytesOf (s.map fun b => [AV.int .u8 b.toNat]) = some s
 | [] => rfl
 | b :: s => by
   have h := bytesOf_map s
   simp only [List.map_cons, bytesOf, h, Option.map_some, Int.toNat_natCast]
   simp
theorem longA_len (s : List UInt8) (n : Nat) : (longA s n).length = n := by simp [longA]; omega
theorem long_cells (s : List UInt8) (n : Nat) : List.take (min s.length n) (s.map fun b => [AV.int .u8 b.toNat]) ++ List.drop (min s.length n) (List.replicate n [AV.int .u8 0]) = (longA s n).map fun b => [AV.int .u8 b.toNat] := by
 unfold longA
 rw [List.map_append, List.map_replicate, List.map_take, List.drop_replicate]
 have hl : (s.map fun b => [AV.int .u8 (b.toNat : Int)]).length = s.length := List.length_map _
 have e1 : List.take (min s.length n) (s.map fun b => [AV.int .u8 (b.toNat : Int)]) = List.take n (s.map fun b => [AV.int .u8 (b.toNat : Int)]) := by
  rcases Nat.le_total s.length n with h | h
  ·rw [Nat.min_eq_left h, List.take_of_length_le (by omega), List.take_of_length_le (by omega)]
  ·rw [Nat.min_eq_right h]
 have e2 : n - min s.length n = n - s.length := by omega
 rw [e1, e2]
 rfl
theorem long_spec0 (s : List UInt8) (n : Nat) (h : n ≤ 1000000000) : C Tryz.prog 83 [.str s, .int .i64 n] [] (fun x H' => x = .str (longA s n)) := by
 refine C_body d83 rfl (WT_ok ?_)
 delta c83 I0 I1 I2 I3 I4 I5 I6 I7 I8 I9 KI
 simp only [wk, iaddrV_map, seval]
 refine ⟨⟨by omega, by omega, by omega⟩, by simp, ?_⟩
 rw [← List.length_append, long_cells, List.length_map, longA_len]
 simp only [wk, iaddrV_map, seval]
 rw [List.take_of_length_le (by simp [longA_len]), Option.bind_some, bytesOf_map]
 simp only [wk, iaddrV_map, seval]
theorem long_spec (s : List UInt8) (n : Nat) (h : n ≤ 1000000000) (H : AH) : C Tryz.prog 83 [.str s, .int .i64 n] H (fun x H' => x = .str (longA s n) ∧ H' = H) :=
 C_flat (K0 := fun x _ => x = .str (longA s n)) (long_spec0 s n h) (by rintro x H' rfl; exact ⟨rfl, rfl, rfl⟩)
end Go.Proofs.YtemjlopoffjmpaaGreat.Abs
set_option linter.unusedSimpArgs false
set_option linter.unusedVariables false
namespace Go.Proofs.YtemjlopoffjmpaaGreat.Abs
open Go
def partA (b : List UInt8) (k : Int) : List UInt8 :=
 if 0 ≤ k ∧ k < 4 ∧ b.length ≤ 128 then
  let p := ((longA b 128).take ((k + 1) * 32).toNat).drop (k * 32).toNat
  if p = List.replicate 32 0 then [] else p
 else []
theorem noughts_bytes (n : Nat) : bytesOf (List.replicate n [AV.int .u8 0]) = some (List.replicate n 0) := by
 have := bytesOf_map (List.replicate n 0)
 rw [List.map_replicate] at this
 exact this
theorem part_spec0 (b : List UInt8) (k : Int) : C Tryz.prog 97 [.str b, .int .i64 k] [] (fun x _ => x = .str (partA b k)) := by
 refine C_body d97 rfl (WT_ok ?_)
 delta c97 I0 I1 I2 I3 I4 I5 I6 I7 I8 I9 KI
 simp only [wk, iaddrV_map, seval]
 refine guard_both ?_ ?_ <;> intro h <;> simp only [hy] at h <;> simp only [h, wk, iaddrV_map, seval]
 ·refine guard_both ?_ ?_ <;> intro h2 <;> simp only [hy] at h2 <;> simp only [h, h2, wk, iaddrV_map, seval]
  ·refine guard_both ?_ ?_ <;> intro h3 <;> simp only [hy] at h3 <;> simp only [h, h2, h3, wk, iaddrV_map, seval]
   ·rw [partA, if_neg (by omega)]
   ·refine CT_ok (long_spec b 128 (by omega) _) ?_
    rintro _ _ ⟨rfl, rfl⟩
    have w1 : IntKind.i64.wrap (k * 32) = k * 32 := IntWalk.i64_in _ (by omega)
    have w2 : IntKind.i64.wrap (k + 1) = k + 1 := IntWalk.i64_in _ (by omega)
    have w3 : IntKind.i64.wrap ((k + 1) * 32) = (k + 1) * 32 := IntWalk.i64_in _ (by omega)
    simp only [w1, w2, w3, longA_len, noughts_bytes, Option.bind_some, wk, iaddrV_map, seval]
    refine ⟨by omega, by omega, ?_⟩
    have hb := noughts_bytes 32
    simp only [List.replicate_succ, List.replicate_zero] at hb
    simp only [hb, wk, iaddrV_map, seval]
    refine guard_both ?_ ?_ <;> intro h4 <;> simp only [hy] at h4 <;> simp only [h, h2, h3, h4, wk, iaddrV_map, seval]
    ·rw [partA, if_pos (by omega)]
     simp only [h4]
     rfl
    ·rw [partA, if_pos (by omega)]
     simp only [List.replicate_succ, List.replicate_zero, h4, if_false]
  ·rw [partA, if_neg (by omega)]
 ·rw [partA, if_neg (by omega)]
end Go.Proofs.YtemjlopoffjmpaaGreat.Abs
set_option linter.unusedSimpArgs false
set_option linter.unusedVariables false
namespace Go.Proofs.YtemjlopoffjmpaaGreat.Abs
open Go
theorem part_spec (b : List UInt8) (k : Int) (H : AH) : C Tryz.prog 97 [.str b, .int .i64 k] H (fun x H' => x = .str (partA b k) ∧ H' = H) :=
 C_flat (K0 := fun x _ => x = .str (partA b k)) (part_spec0 b k) (by rintro x _ rfl; exact ⟨rfl, rfl, rfl⟩)
def cnt (b : List UInt8) : Nat → Nat
 | 0 => 0
 | k + 1 => cnt b k + if partA b k = [] then 0 else 1
def countA (b : List UInt8) : Nat := cnt b 4
theorem cnt_le (b : List UInt8) : ∀ k, cnt b k ≤ k
 | 0 => Nat.le_refl _
 | k + 1 => by have := cnt_le b k; unfold cnt; split <;> omega
theorem count_spec (b : List UInt8) (H : AH) : C Tryz.prog 54 [.str b] H (fun x H' => x = .int .i64 (countA b) ∧ H' = H) := by
 refine C_body d54 rfl (WT_ok ?_)
 delta c54 I0 I1 I2 I3 I4 I5 I6 I7 I8 I9 KI
 simp only [wk, iaddrV_map, seval]
 refine WT_loop (W_loop (fun n fr H' => ∃ k : Nat, k ≤ 4 ∧ n = 4 - k ∧ H' = H ∧ fr = [.str b, .top, .int .i64 0, .int .i64 (cnt b k), .int .i64 k, .top, .top, .top, .top, .top, .top, .top, .top, .top, .top, .top]) 4 ⟨0, by omega, rfl, rfl, rfl⟩ ?_)
 rintro n fr H' ⟨k, hk, rfl, rfl, rfl⟩
 refine WT_ok ?_
 simp only [wk, iaddrV_map, seval]
 refine guard_both ?_ ?_ <;> intro h <;> simp only [hy] at h <;> simp only [h, wk, iaddrV_map, seval]
 ·refine CT_ok (part_spec b k _) ?_
  rintro _ _ ⟨rfl, rfl⟩
  simp only [wk, iaddrV_map, seval]
  have hc := cnt_le b k
  have w1 : IntKind.i64.wrap ((cnt b k : Int) + 1) = (cnt b k : Int) + 1 := IntWalk.i64_in _ (by omega)
  have w2 : IntKind.i64.wrap ((k : Int) + 1) = (k : Int) + 1 := IntWalk.i64_in _ (by omega)
  refine guard_both ?_ ?_ <;> intro h2 <;> simp only [hy] at h2 <;> simp only [h2, w1, w2, wk, iaddrV_map, seval]
  ·refine QLoop_go (n' := 4 - (k + 1)) (by omega) ⟨k + 1, by omega, rfl, rfl, rfl⟩ ?_
   simp only [Tops_top, Tops_same, Tops_nil, cnt, h2, Int.natCast_add, Int.natCast_one, if_false]
  ·refine QLoop_go (n' := 4 - (k + 1)) (by omega) ⟨k + 1, by omega, rfl, rfl, rfl⟩ ?_
   simp only [Tops_top, Tops_same, Tops_nil, cnt, h2, Int.natCast_add, Int.natCast_one, if_true, Nat.add_zero]
 ·have : k = 4 := by omega
  subst this
  rfl
end Go.Proofs.YtemjlopoffjmpaaGreat.Abs
namespace Go.Proofs
open Go.Shelf
end Go.Proofs
namespace Go.Proofs.YtemjlopoffjmpaaGreat.Abs
open Go
end Go.Proofs.YtemjlopoffjmpaaGreat.Abs
namespace Go.Proofs.YtemjlopoffjmpaaGreat.Abs
open Go
end Go.Proofs.YtemjlopoffjmpaaGreat.Abs
namespace Go.Proofs.YtemjlopoffjmpaaGreat.Abs
open Go
end Go.Proofs.YtemjlopoffjmpaaGreat.Abs
set_option linter.unusedSimpArgs false
set_option linter.unusedVariables false
namespace Go.Proofs.YtemjlopoffjmpaaGreat.Abs
open Go
def usedA (f : List UInt8 → Nat) (s : List Node) : Nat := (s.map fun x => f x.body).sum
theorem usedA_take (f : List UInt8 → Nat) (s : List Node) (i : Nat) (h : i < s.length) : usedA f (s.take (i + 1)) = usedA f (s.take i) + f (s.getD i default).body := by
 unfold usedA
 rw [List.take_add_one, List.getElem?_eq_getElem h, List.map_append, List.sum_append]
 simp only [List.getD_eq_getElem?_getD, List.getElem?_eq_getElem h, Option.getD_some, Option.toList_some, List.map_cons, List.map_nil, List.sum_cons, List.sum_nil, Nat.add_zero]
theorem usedA_le (f : List UInt8 → Nat) (hf : ∀ b, f b ≤ 4) : ∀ s, usedA f s ≤ 4 * s.length
 | [] => by simp [usedA]
 | x :: s => by
   have h1 := usedA_le f hf s
   have h2 := hf x.body
   simp only [usedA, List.map_cons, List.sum_cons, List.length_cons] at h1 ⊢
   omega
end Go.Proofs.YtemjlopoffjmpaaGreat.Abs
set_option linter.unusedSimpArgs false
set_option linter.unusedVariables false
namespace Go.Proofs.YtemjlopoffjmpaaGreat.Abs
open Go
structure Dset where
 id : Int
 kind : Int
 origin : Int
 quota : Int
 files : List Node
 deriving DecidableEq, Inhabited
def pdset (x : Dset) : List PV := [.int .i64 x.id, .int .i64 x.kind, .int .i64 x.origin, .int .i64 x.quota, .fz (x.files.map pnode)]
def asets (l : List Dset) : AV := .fz (l.map pdset)
def kinds (s : List Node) : Nat := s.countP fun x => decide (x.kind ≠ 0)
end Go.Proofs.YtemjlopoffjmpaaGreat.Abs
set_option linter.unusedSimpArgs false
set_option linter.unusedVariables false
namespace Go.Proofs.YtemjlopoffjmpaaGreat.Abs
open Go
end Go.Proofs.YtemjlopoffjmpaaGreat.Abs
set_option linter.unusedSimpArgs false
set_option linter.unusedVariables false
namespace Go.Proofs.YtemjlopoffjmpaaGreat.Abs
open Go Go.Proofs
end Go.Proofs.YtemjlopoffjmpaaGreat.Abs
set_option linter.unusedSimpArgs false
set_option linter.unusedVariables false
namespace Go.Proofs.YtemjlopoffjmpaaGreat.Abs
open Go Go.Proofs
theorem countA_le (b : List UInt8) : countA b ≤ 4 := cnt_le b 4
abbrev used (s : List Node) : Nat := usedA countA s
end Go.Proofs.YtemjlopoffjmpaaGreat.Abs
set_option linter.unusedSimpArgs false
set_option linter.unusedVariables false
namespace Go.Proofs.YtemjlopoffjmpaaGreat.Abs
open Go Go.Proofs
theorem free_spec (s : List Node) (hs : s.length ≤ 1000000) (H : AH) :
 C Tryz.prog 80 [aset s] H (fun x H' => H' = H ∧ ((∃ i : Nat, i < s.length ∧ (s.getD i default).kind = 0 ∧ x = .tuple [.int .i64 i, .bool true]) ∨ x = .tuple [.int .i64 0, .bool false])) := by
 refine C_body d80 rfl (WT_ok ?_)
 delta c80 I0 I1 I2 I3 I4 I5 I6 I7 I8 I9 KI
 simp only [aset, wk, iaddrV_map, seval]
 refine WT_loop (W_loop (fun n fr H' => ∃ i : Nat, i ≤ s.length ∧ n = s.length - i ∧ H' = H ∧ fr = [.fz (s.map pnode), .top, .int .i64 0, .bool false, .int .i64 i, .top, .top, .top, .top, .top, .top, .top, .top, .top, .top, .top, .top, .top]) s.length ⟨0, by omega, rfl, rfl, rfl⟩ ?_)
 rintro n fr H' ⟨i, hi, rfl, rfl, rfl⟩
 refine WT_ok ?_
 simp only [wk, iaddrV_map, seval]
 refine guard_both ?_ ?_ <;> intro h <;> simp only [hy] at h <;> simp only [h, wk, iaddrV_map, seval]
 ·have hil : i < s.length := by omega
  refine ⟨⟨by omega, rfl⟩, ?_⟩
  simp only [pnode, wk, iaddrV_map, seval]
  have w2 : IntKind.i64.wrap ((i : Int) + 1) = (i : Int) + 1 := IntWalk.i64_in _ (by omega)
  refine guard_both ?_ ?_ <;> intro h2 <;> simp only [hy] at h2 <;> simp only [h2, w2, wk, iaddrV_map, seval]
  ·exact .inl ⟨i, hil, h2, rfl⟩
  ·refine QLoop_go (n' := s.length - (i + 1)) (by omega) ⟨i + 1, by omega, rfl, rfl, rfl⟩ ?_
   simp only [Tops_top, Tops_same, Tops_nil, Int.natCast_add, Int.natCast_one]
 ·exact .inr trivial
theorem lost_spec (s : List Node) (hs : s.length ≤ 1000000) (H : AH) : C Tryz.prog 129 [aset s] H (fun x H' => x = .bool (s.any fun x => decide (x.kind = 3)) ∧ H' = H) := by
 refine C_body d129 rfl (WT_ok ?_)
 delta c129 I0 I1 I2 I3 I4 I5 I6 I7 I8 I9 KI
 simp only [aset, wk, iaddrV_map, seval]
 refine WT_loop (W_loop (fun n fr H' => ∃ i : Nat, i ≤ s.length ∧ n = s.length - i ∧ H' = H ∧ ((s.take i).any fun x => decide (x.kind = 3)) = false ∧ fr = [.fz (s.map pnode), .top, .bool false, .int .i64 i, .top, .top, .top, .top, .top, .top, .top, .top, .top, .top, .top, .top]) s.length ⟨0, by omega, rfl, rfl, rfl, rfl⟩ ?_)
 rintro n fr H' ⟨i, hi, rfl, rfl, hno, rfl⟩
 refine WT_ok ?_
 simp only [wk, iaddrV_map, seval]
 refine guard_both ?_ ?_ <;> intro h <;> simp only [hy] at h <;> simp only [h, wk, iaddrV_map, seval]
 ·have hil : i < s.length := by omega
  refine ⟨⟨by omega, rfl⟩, ?_⟩
  simp only [pnode, wk, iaddrV_map, seval]
  have w2 : IntKind.i64.wrap ((i : Int) + 1) = (i : Int) + 1 := IntWalk.i64_in _ (by omega)
  refine guard_both ?_ ?_ <;> intro h2 <;> simp only [hy] at h2 <;> simp only [h2, w2, wk, iaddrV_map, seval]
  ·have : (s.any fun x => decide (x.kind = 3)) = true := by
    rw [List.any_eq_true]
    refine ⟨s.getD i default, ?_, by simpa using h2⟩
    rw [List.getD_eq_getElem?_getD, List.getElem?_eq_getElem hil]
    exact List.getElem_mem _
   rw [this]
  ·refine QLoop_go (n' := s.length - (i + 1)) (by omega) ⟨i + 1, by omega, rfl, rfl, ?_, rfl⟩ ?_
   ·rw [List.take_add_one, List.getElem?_eq_getElem hil, List.any_append, hno]
    rw [List.getD_eq_getElem?_getD, List.getElem?_eq_getElem hil] at h2
    simpa using h2
   ·simp only [Tops_top, Tops_same, Tops_nil, Int.natCast_add, Int.natCast_one]
 ·have : i = s.length := by omega
  subst this
  rw [List.take_length] at hno
  rw [hno]
end Go.Proofs.YtemjlopoffjmpaaGreat.Abs
set_option linter.unusedSimpArgs false
set_option linter.unusedVariables false
namespace Go.Proofs.YtemjlopoffjmpaaGreat.Abs
open Go Go.Proofs
def pbyte (b : UInt8) : List PV := [.int .u8 b.toNat]
def picksH (l : List UInt8) (n : Int) : AH := [some [[.fz (l.map pbyte), .int .i64 n]]]
theorem num_spec (l : List UInt8) (n k : Int) (hn : 0 ≤ n) (hl : l.length ≤ 1000000) :
 C Tryz.prog 44 [.ptr 0 0 0 1, .int .i64 k] (picksH l n) (fun x H' => ∃ m n' : Int, x = .int .i64 m ∧ 0 ≤ m ∧ (1 ≤ k → m < k) ∧ (k < 1 → m = 0) ∧ n ≤ n' ∧ n' ≤ n + 1 ∧ H' = picksH l n') := by
 refine C_body d44 rfl (WT_ok ?_)
 delta c44 I0 I1 I2 I3 I4 I5 I6 I7 I8 I9 KI picksH
 simp only [wk, iaddrV_map, seval]
 refine WT_draw ?_
 simp only [wk, iaddrV_map, seval]
 refine guard_both ?_ ?_ <;> intro h <;> simp only [hy] at h <;> simp only [h, wk, iaddrV_map, seval]
 ·refine guard_both ?_ ?_ <;> intro h2 <;> simp only [hy] at h2 <;> simp only [h, h2, wk, iaddrV_map, seval]
  ·exact ⟨0, n, rfl, by omega, by omega, by omega, by omega, by omega, rfl⟩
  ·have w1 : IntKind.i64.wrap (n + 1) = n + 1 := IntWalk.i64_in _ (by omega)
   have w2 : IntKind.i64.wrap (n + 1 - 1) = n := by rw [IntWalk.i64_in _ (by omega)]; omega
   simp only [w1, w2, wk, iaddrV_map, seval]
   refine WT_draw ?_
   simp only [w1, w2, wk, iaddrV_map, seval]
   refine ⟨⟨by omega, rfl⟩, ?_⟩
   simp only [pbyte, wk, iaddrV_map, seval]
   have hb : (l.getD n.toNat default).toNat < 256 := UInt8.toNat_lt _
   have w3 : IntKind.i64.wrap ((l.getD n.toNat default).toNat : Int) = ((l.getD n.toNat default).toNat : Int) := IntWalk.i64_in _ (by omega)
   rw [w3]
   refine ⟨by omega, _, n + 1, rfl, Int.tmod_nonneg _ (by omega), fun _ => Int.tmod_lt_of_pos _ (by omega), by omega, by omega, by omega, rfl⟩
 ·exact ⟨0, n, rfl, by omega, by omega, by omega, by omega, by omega, rfl⟩
end Go.Proofs.YtemjlopoffjmpaaGreat.Abs
set_option linter.unusedSimpArgs false
set_option linter.unusedVariables false
namespace Go.Proofs.YtemjlopoffjmpaaGreat.Abs
open Go Go.Proofs
def newA : List Node := [⟨2, 0, [], [], 0⟩, ⟨0, 0, [], [], 0⟩, ⟨0, 0, [], [], 0⟩, ⟨0, 0, [], [], 0⟩, ⟨0, 0, [], [], 0⟩, ⟨0, 0, [], [], 0⟩, ⟨0, 0, [], [], 0⟩, ⟨0, 0, [], [], 0⟩]
theorem new_spec0 : C Tryz.prog 34 [] [] (fun x H' => x = aset newA ∧ H' = []) := by
 refine C_body' d34 rfl (WT_ok ?_)
 delta c34 I0 I1 I2 I3 I4 I5 I6 I7 I8 I9 KI
 simp only [wk, iaddrV_map, Nat.reduceAdd, Nat.reduceSub, Nat.reduceMul, Nat.reduceLeDiff, Nat.reduceEqDiff, Nat.reduceBEq, Int.reduceLE, Int.reduceLT, Int.reduceEq, Int.reduceNe, Int.reduceAdd, Int.reduceSub, Int.reduceToNat, Int.reduceNeg, ↓reduceIte, reduceCtorEq]
 exact ⟨by omega, KWk_frozen 0 (newA.map pnode) rfl (aset newA) rfl ⟨rfl, rfl⟩⟩
theorem new_spec (H : AH) : C Tryz.prog 34 [] H (fun x H' => x = aset newA ∧ H' = H) :=
 C_pure (K0 := fun x => x = aset newA) new_spec0 (fun _ => rfl) (by rintro x rfl τ; simp [aset, ren]) H
end Go.Proofs.YtemjlopoffjmpaaGreat.Abs
set_option linter.unusedSimpArgs false
set_option linter.unusedVariables false
namespace Go.Proofs.YtemjlopoffjmpaaGreat.Abs
open Go Go.Proofs
theorem made_spec (l : List UInt8) : C Tryz.prog 13 [.fz (l.map pbyte)] [] (fun x H' => x = .ptr 0 0 0 1 ∧ H' = picksH l 0) := by
 refine C_body d13 rfl (WT_ok ?_)
 delta c13 I0 I1 I2 I3 I4 I5 I6 I7 I8 I9 KI
 simp only [wk, iaddrV_map, seval]
 rfl
theorem num_at (l : List UInt8) (n k : Int) (hn : 0 ≤ n) (hl : l.length ≤ 1000000) (R : AH) :
 C Tryz.prog 44 [.ptr 0 0 0 1, .int .i64 k] (some [[.fz (l.map pbyte), .int .i64 n]] :: R) (fun x H' => ∃ m n' : Int, x = .int .i64 m ∧ 0 ≤ m ∧ (1 ≤ k → m < k) ∧ (k < 1 → m = 0) ∧ n ≤ n' ∧ n' ≤ n + 1 ∧ H' = some [[.fz (l.map pbyte), .int .i64 n']] :: R) := by
 refine C_call (K0 := fun x H' => ∃ m n' : Int, x = .int .i64 m ∧ 0 ≤ m ∧ (1 ≤ k → m < k) ∧ (k < 1 → m = 0) ∧ n ≤ n' ∧ n' ≤ n + 1 ∧ H' = picksH l n') [0] (by simp) (by simp) ?_ ?_
 ·exact num_spec l n k hn hl
 ·rintro _ _ ⟨m, n', rfl, h1, h2, h3, h4, h5, rfl⟩
  exact ⟨Nat.le_refl _, m, n', rfl, h1, h2, h3, h4, h5, by simp [back, setAll, picksH, renO, renL, ren]⟩
end Go.Proofs.YtemjlopoffjmpaaGreat.Abs
set_option linter.unusedSimpArgs false
set_option linter.unusedVariables false
namespace Go.Proofs.YtemjlopoffjmpaaGreat.Abs
open Go Go.Proofs
theorem pick_of (L : AObj) (p : List AV → Prop) (h : ∀ e ∈ L, p e) (i : Nat) (hi : i < L.length) : ∃ e, L[i]? = some e ∧ p e :=
 ⟨L[i], List.getElem?_eq_getElem hi, h _ (List.getElem_mem hi)⟩
theorem path_spec (l : List UInt8) (n : Int) (hn : 0 ≤ n) (hl : l.length ≤ 1000000) :
 C Tryz.prog 84 [.ptr 0 0 0 1] (picksH l n) (fun x H' => ∃ (p : List UInt8) (n' : Int), x = .str p ∧ p.length ≤ 11 ∧ n ≤ n' ∧ n' ≤ n + 1 ∧ H' = picksH l n') := by
 refine C_body' d84 rfl (WT_ok ?_)
 delta c84 I0 I1 I2 I3 I4 I5 I6 I7 I8 I9 KI picksH
 simp only [RT_bslice, bslC_some, chunks, List.flatten_cons, List.flatten_nil, wk, iaddrV_map, seval]
 refine CT_ok (num_at l n 15 hn hl _) ?_
 rintro _ _ ⟨m, n', rfl, h1, h2, h3, h4, h5, rfl⟩
 simp only [wk, iaddrV_map, seval]
 have h15 := h2 (by omega)
 obtain ⟨e, he, q, rfl, hq⟩ := pick_of [[AV.str [97]], [AV.str [98]], [AV.str [99]], [AV.str [97, 47, 98]], [AV.str [97, 47, 99]], [AV.str [98, 47, 97]], [AV.str [97, 47, 98, 47, 99]], [AV.str [100]], [AV.str [99, 47, 100]], [AV.str []], [AV.str [47, 97]], [AV.str [97, 47, 47, 98]], [AV.str [116, 111, 111, 108, 111, 110, 103, 110, 97, 109, 101]], [AV.str [65]], [AV.str [46, 46]]] (fun e => ∃ q : List UInt8, e = [.str q] ∧ q.length ≤ 11) (by simp) m.toNat (by simp; omega)
 refine ⟨⟨h1, h15⟩, ?_⟩
 simp only [he, wk, iaddrV_map, seval]
 refine ⟨.str q, _, (Wk_forget 1 (Nat.le_refl _)).trans (Wk_tops ⟨.inr rfl, trivial⟩), q, n', rfl, hq, h4, h5, rfl⟩
end Go.Proofs.YtemjlopoffjmpaaGreat.Abs
set_option linter.unusedSimpArgs false
set_option linter.unusedVariables false
namespace Go.Proofs.YtemjlopoffjmpaaGreat.Abs
open Go Go.Proofs
def withA (s : List Node) (n : Int) (x : Node) : List Node := if 0 ≤ n then s.set n.toNat x else s
def anode (x : Node) : AV := .agg ((pnode x).map emb)
theorem rows5 (s : List Node) : ((s.map pnode).map fun e => e.map emb).all (fun e => decide (e.length = 5)) = true := by
 simp [pnode]
theorem frozen_set {K : AV → AH → Prop} {H : AH} (r : Nat) (s : List Node) (hat : H.at r = some ((s.map pnode).map fun e => e.map emb)) (L : Nat) (hL : L = s.length) (hk : K (aset s) []) : KWk 0 K (.own r 5 0 L L) H := by
 subst hL
 refine KWk_frozen r (s.map pnode) hat (aset s) ?_ hk
 simp only [frzL, frz, renL, ren, aset, if_true, List.length_map, Nat.zero_add, Nat.le_refl, and_self, List.drop_zero]
 rw [List.take_of_length_le (by simp)]
theorem with_spec0 (s : List Node) (hs : s.length ≤ 1000000) (n : Int) (x : Node) : C Tryz.prog 81 [aset s, .int .i64 n, anode x] [] (fun y H' => y = aset (withA s n x) ∧ H' = []) := by
 refine C_body' d81 rfl (WT_ok ?_)
 delta c81 I0 I1 I2 I3 I4 I5 I6 I7 I8 I9 KI
 simp only [aset, anode, pnode, wk3, wk, iaddrV_map, seval]
 refine ⟨⟨rows5 s, by omega, by omega⟩, ?_⟩
 refine guard_both ?_ ?_ <;> intro h <;> simp only [hy] at h <;> simp only [h, wk3, wk, iaddrV_map, seval]
 ·refine guard_both ?_ ?_ <;> intro h2 <;> simp only [hy] at h2 <;> simp only [h, h2, wk3, wk, iaddrV_map, seval]
  ·have hg : s[n.toNat]? = some (s.getD n.toNat default) := by
    rw [List.getD_eq_getElem?_getD, List.getElem?_eq_getElem (show n.toNat < s.length by omega)]; rfl
   simp only [hg, pnode, wk3, wk, iaddrV_map, seval]
   refine frozen_set 1 (withA s n x) ?_ _ (by simp [withA, h]) ⟨rfl, rfl⟩
   simp [AH.at, withA, h, List.map_set, pnode, emb]
  ·refine frozen_set 1 (withA s n x) ?_ _ (by simp [withA, h]) ⟨rfl, rfl⟩
   have : s.set n.toNat x = s := List.set_eq_of_length_le (by omega)
   simp [AH.at, withA, h, this]
 ·refine frozen_set 1 (withA s n x) ?_ _ (by simp [withA, h]) ⟨rfl, rfl⟩
  simp [AH.at, withA, h]
theorem with_spec (s : List Node) (hs : s.length ≤ 1000000) (n : Int) (x : Node) (H : AH) : C Tryz.prog 81 [aset s, .int .i64 n, anode x] H (fun y H' => y = aset (withA s n x) ∧ H' = H) :=
 C_pure (K0 := fun y => y = aset (withA s n x)) (with_spec0 s hs n x) (fun τ => by simp [renL, ren, aset, anode, pnode, emb]) (by rintro y rfl τ; simp [aset, ren]) H
end Go.Proofs.YtemjlopoffjmpaaGreat.Abs
set_option linter.unusedSimpArgs false
set_option linter.unusedVariables false
namespace Go.Proofs.YtemjlopoffjmpaaGreat.Abs
open Go Go.Proofs
def okC (c : Nat) : Bool := decide (97 ≤ c ∧ c ≤ 122) || decide (48 ≤ c ∧ c ≤ 57) || decide (c = 46 ∨ c = 95 ∨ c = 45)
def mayN (s : List UInt8) : Bool := s.all (fun b => okC b.toNat) && decide (1 ≤ s.length ∧ s.length ≤ 8 ∧ s ≠ [46] ∧ s ≠ [46, 46])
theorem mayname_spec (s : List UInt8) (hs : s.length ≤ 1000000) (H : AH) : C Tryz.prog 127 [.str s] H (fun x H' => x = .bool (mayN s) ∧ H' = H) := by
 refine C_body d127 rfl (WT_ok ?_)
 delta c127 I0 I1 I2 I3 I4 I5 I6 I7 I8 I9 KI
 simp only [wk, iaddrV_map, seval]
 refine WT_loop (W_loop (fun n fr H' => ∃ i : Nat, i ≤ s.length ∧ n = s.length - i ∧ (s.take i).all (fun b => okC b.toNat) = true ∧ H' = H ∧ fr = [.str s, .top, .bool false, .int .i64 i] ++ List.replicate 53 .top) s.length ⟨0, by omega, rfl, rfl, rfl, rfl⟩ ?_)
 rintro n fr H' ⟨i, hi, rfl, hall, rfl, rfl⟩
 refine WT_ok ?_
 simp only [wk, iaddrV_map, seval]
 refine guard_both ?_ ?_ <;> intro h <;> simp only [hy] at h <;> simp only [h, wk, iaddrV_map, seval]
 ·have hil : i < s.length := by omega
  have w2 : IntKind.i64.wrap ((i : Int) + 1) = (i : Int) + 1 := IntWalk.i64_in _ (by omega)
  refine ⟨by omega, ?_⟩
  have hg : s.getD i 0 = s[i] := by rw [List.getD_eq_getElem?_getD, List.getElem?_eq_getElem hil]; rfl
  have yes : okC (s.getD i 0).toNat = true → (s.take (i + 1)).all (fun b => okC b.toNat) = true := fun h => by
   rw [List.take_add_one, List.getElem?_eq_getElem hil, List.all_append, hall]
   rw [hg] at h; simp [h]
  have no : okC (s.getD i 0).toNat = false → mayN s = false := fun h => by
   have : s.all (fun b => okC b.toNat) = false := by
    rw [← Bool.not_eq_true, List.all_eq_true]
    intro h2
    have := h2 s[i] (List.getElem_mem _)
    rw [← hg, h] at this
    cases this
   simp [mayN, this]
  generalize s.getD i 0 = b at yes no ⊢
  generalize b.toNat = c at yes no ⊢
  repeat' (refine guard_both ?_ ?_ <;> intro hh <;> simp only [hy] at hh <;> simp only [hh, w2, wk, iaddrV_map, seval])
  all_goals first
   | (refine QLoop_go (n' := s.length - (i + 1)) (by omega) ⟨i + 1, by omega, rfl, yes (by simp [okC]; omega), rfl, rfl⟩ ?_
      simp only [tq])
   | (rw [no (by simp [okC]; omega)]; done)
   | (rw [no (by simp [okC]; omega)]; trivial)
 ·have : i = s.length := by omega
  subst this
  rw [List.take_length] at hall
  repeat' (refine guard_both ?_ ?_ <;> intro hh <;> simp only [hy] at hh <;> simp only [hh, wk, iaddrV_map, seval])
  ·have h1 : 1 ≤ s.length ∧ s.length ≤ 8 := by omega
   simp [mayN, hall, h1, hh]
  ·subst hh; rfl
  ·have h1 : ¬ s.length ≤ 8 := by omega
   simp [mayN, h1]
  ·have h1 : ¬ 1 ≤ s.length := by omega
   simp [mayN, h1]
end Go.Proofs.YtemjlopoffjmpaaGreat.Abs
set_option linter.unusedSimpArgs false
set_option linter.unusedVariables false
namespace Go.Proofs.YtemjlopoffjmpaaGreat.Abs
open Go Go.Proofs
def there (s : List Node) (n : Int) : Bool := decide (0 ≤ n ∧ n < s.length) && decide ((s.getD n.toNat default).kind ≠ 0)
theorem there_spec (s : List Node) (n : Int) (H : AH) : C Tryz.prog 157 [aset s, .int .i64 n] H (fun x H' => x = .bool (there s n) ∧ H' = H) := by
 refine C_body d157 rfl (WT_ok ?_)
 delta c157 I0 I1 I2 I3 I4 I5 I6 I7 I8 I9 KI
 simp only [aset, pnode, wk, iaddrV_map, seval]
 refine guard_both ?_ ?_ <;> intro h <;> simp only [hy] at h <;> simp only [h, pnode, wk, iaddrV_map, seval]
 ·refine guard_both ?_ ?_ <;> intro h2 <;> simp only [hy] at h2 <;> simp only [h, h2, pnode, wk, iaddrV_map, seval]
  ·simp [there, h, h2]
  ·simp [there, h, h2]
 ·simp [there, h]
end Go.Proofs.YtemjlopoffjmpaaGreat.Abs
set_option linter.unusedSimpArgs false
set_option linter.unusedVariables false
namespace Go.Proofs.YtemjlopoffjmpaaGreat.Abs
open Go Go.Proofs
def Bytes (o : AObj) : Prop := ∃ s : List UInt8, o = s.map fun b => [AV.int .u8 b.toNat]
theorem Bytes.set {o : AObj} (h : Bytes o) (i : Nat) (v : Int) : Bytes (o.set i [AV.int .u8 (IntKind.u8.wrap v)]) := by
 obtain ⟨s, rfl⟩ := h
 refine ⟨s.set i (UInt8.ofNat (IntKind.u8.wrap v).toNat), ?_⟩
 rw [List.map_set]
 congr 1
 have h1 : 0 ≤ IntKind.u8.wrap v ∧ IntKind.u8.wrap v < 256 := by rw [IntKind.wrap_u8]; omega
 have h2 : (UInt8.ofNat (IntKind.u8.wrap v).toNat).toNat = (IntKind.u8.wrap v).toNat := by
  rw [UInt8.toNat_ofNat']
  omega
 rw [h2]
 congr 2
 omega
theorem Bytes.str {o : AObj} (h : Bytes o) : ∃ s : List UInt8, bytesOf o = some s ∧ s.length = o.length := by
 obtain ⟨s, rfl⟩ := h
 exact ⟨s, bytesOf_map s, by simp⟩
theorem Bytes.get {o : AObj} (h : Bytes o) (i : Nat) (hi : i < o.length) : ∃ x : Int, o[i]? = some [AV.int .u8 x] := by
 obtain ⟨s, rfl⟩ := h
 rw [List.length_map] at hi
 exact ⟨(s[i]).toNat, by rw [List.getElem?_map, List.getElem?_eq_getElem hi]; rfl⟩
theorem Bytes.zero (n : Nat) : Bytes (List.replicate n [AV.int .u8 0]) := ⟨List.replicate n 0, by rw [List.map_replicate]; rfl⟩
theorem text_spec (l : List UInt8) (n : Int) (hn : 0 ≤ n) (hl : l.length ≤ 1000000) :
 C Tryz.prog 85 [.ptr 0 0 0 1] (picksH l n) (fun x H' => ∃ (p : List UInt8) (n' : Int), x = .str p ∧ p.length ≤ 129 ∧ n ≤ n' ∧ n' ≤ n + 2 ∧ H' = picksH l n') := by
 refine C_body' d85 rfl (WT_ok ?_)
 delta c85 I0 I1 I2 I3 I4 I5 I6 I7 I8 I9 KI picksH
 simp only [wk3, wk, iaddrV_map, seval]
 refine CT_ok (num_at l n 8 hn hl _) ?_
 rintro _ _ ⟨m, n1, rfl, h1, h2, _, h4, h5, rfl⟩
 simp only [wk3, wk, iaddrV_map, seval]
 have h8 := h2 (by omega)
 obtain ⟨e, he, q, rfl, hq0, hq⟩ := pick_of [[AV.int .i64 0], [AV.int .i64 1], [AV.int .i64 3], [AV.int .i64 17], [AV.int .i64 32], [AV.int .i64 33], [AV.int .i64 64], [AV.int .i64 129]] (fun e => ∃ q : Int, e = [.int .i64 q] ∧ 0 ≤ q ∧ q ≤ 129) (by simp) m.toNat (by simp; omega)
 refine ⟨⟨h1, h8⟩, ?_⟩
 simp only [he, wk3, wk, iaddrV_map, seval]
 refine CT_ok (num_at l n1 4 (by omega) hl _) ?_
 rintro _ _ ⟨m2, n2, rfl, g1, g2, _, g4, g5, rfl⟩
 simp only [wk3, wk, iaddrV_map, seval]
 refine ⟨by omega, ?_⟩
 generalize hc : IntKind.u8.wrap (IntKind.i64.wrap (m2 * 40)) = c
 obtain ⟨Q, rfl⟩ : ∃ Q : Nat, q = Q := ⟨q.toNat, by omega⟩
 simp only [hc, Int.toNat_natCast]
 refine WT_loop (W_wk (fr' := [.ptr 0 0 0 1, .top, .str [], .int .i64 Q, .int .u8 c, .own 2 1 0 Q Q, .int .i64 0] ++ List.replicate 28 .top) (Wk_tops ?_) (W_loop (fun nn fr H' => ∃ (i : Nat) (o : AObj), i ≤ Q ∧ nn = Q - i ∧ Bytes o ∧ o.length = Q ∧ H' = [some [[.fz (l.map pbyte), .int .i64 n2]], some [[AV.int .i64 0], [AV.int .i64 1], [AV.int .i64 3], [AV.int .i64 17], [AV.int .i64 32], [AV.int .i64 33], [AV.int .i64 64], [AV.int .i64 129]], some o] ∧ fr = [.ptr 0 0 0 1, .top, .str [], .int .i64 Q, .int .u8 c, .own 2 1 0 Q Q, .int .i64 i] ++ List.replicate 28 .top) Q ⟨0, _, by omega, rfl, Bytes.zero Q, by simp, rfl, rfl⟩ ?_))
 ·simp only [tp]
 rintro nn fr H' ⟨i, o, hi, rfl, ho, hol, rfl, rfl⟩
 refine WT_ok ?_
 simp only [wk3, wk, iaddrV_map, seval]
 refine guard_both ?_ ?_ <;> intro h <;> simp only [hy] at h <;> simp only [h, wk3, wk, iaddrV_map, seval]
 ·have w2 : IntKind.i64.wrap ((i : Int) + 1) = (i : Int) + 1 := IntWalk.i64_in _ (by omega)
  refine guard_both ?_ ?_ <;> intro hh <;> simp only [hy] at hh <;> simp only [hh, w2, hol, wk3, wk, iaddrV_map, seval]
  ·obtain ⟨x, hx⟩ := ho.get i (by omega)
   refine ⟨⟨by omega, by omega⟩, ?_⟩
   simp only [hx, w2, hol, wk3, wk, iaddrV_map, seval]
   refine QLoop_go (n' := Q - (i + 1)) (by omega) ⟨i + 1, _, by omega, rfl, ho.set i (c + IntKind.u8.wrap ((i : Int).tmod 5)), by simp [hol], rfl, rfl⟩ ?_
   simp only [tq]
  ·refine QLoop_go (n' := Q - (i + 1)) (by omega) ⟨i + 1, o, by omega, rfl, ho, hol, rfl, rfl⟩ ?_
   simp only [tq]
 ·obtain ⟨r, hr, hrl⟩ := ho.str
  have ht : List.take Q o = o := List.take_of_length_le (by omega)
  simp only [hol, ht, hr, Option.bind_some, wk3, wk, iaddrV_map, seval]
  refine ⟨.str r, _, (Wk_forget 1 (Nat.le_refl _)).trans (Wk_tops ⟨.inr rfl, trivial⟩), r, n2, rfl, by omega, by omega, by omega, rfl⟩
end Go.Proofs.YtemjlopoffjmpaaGreat.Abs
set_option linter.unusedSimpArgs false
set_option linter.unusedVariables false
namespace Go.Proofs.YtemjlopoffjmpaaGreat.Abs
open Go Go.Proofs
structure OkAt (s : List Node) (x : Node) : Prop where
 bad : x.bad = 0
 kinds : x.kind = 0 ∨ x.kind = 1 ∨ x.kind = 2
 none : x.kind = 0 → x = ⟨0, 0, [], [], 0⟩
 fold : x.kind = 2 → x.body = []
 name : x.kind ≠ 0 → mayN x.name = true
 up : 0 ≤ x.up ∧ x.up < 8
 upf : x.kind ≠ 0 → (s.getD x.up.toNat default).kind = 2
 body : x.body.length ≤ 128
structure Wf (s : List Node) : Prop where
 len : s.length = 8
 top : s.getD 0 default = ⟨2, 0, [], [], 0⟩
 ok : ∀ i, 1 ≤ i → i < 8 → OkAt s (s.getD i default)
 uniq : ∀ i k, 1 ≤ i → i < 8 → 1 ≤ k → k < 8 → (s.getD i default).kind ≠ 0 → (s.getD k default).kind ≠ 0 → (s.getD i default).up = (s.getD k default).up → (s.getD i default).name = (s.getD k default).name → i = k
 tree : ∃ r : Nat → Nat, ∀ i, 1 ≤ i → i < 8 → (s.getD i default).kind ≠ 0 → r (s.getD i default).up.toNat < r i
theorem mem_getD {s : List Node} {x : Node} (h : x ∈ s) : ∃ n, n < s.length ∧ s.getD n default = x := by
 obtain ⟨n, hn, rfl⟩ := List.mem_iff_getElem.1 h
 exact ⟨n, hn, by rw [List.getD_eq_getElem?_getD, List.getElem?_eq_getElem hn]; rfl⟩
theorem Wf.root {s : List Node} (h : Wf s) : (s.getD 0 default).kind ≠ 0 := by rw [h.top]; decide
theorem Wf.root2 {s : List Node} (h : Wf s) : (s.getD 0 default).kind = 2 := by rw [h.top]
theorem Wf.upD {s : List Node} (h : Wf s) (n : Nat) (hn : n < s.length) : 0 ≤ (s.getD n default).up ∧ (s.getD n default).up < 8 := by
 by_cases h0 : n = 0
 ·subst h0; rw [h.top]; decide
 ·exact (h.ok n (by omega) (by have := h.len; omega)).up
theorem Wf.bodyD {s : List Node} (h : Wf s) (n : Nat) (hn : n < s.length) : (s.getD n default).body.length ≤ 128 := by
 by_cases h0 : n = 0
 ·subst h0; rw [h.top]; decide
 ·exact (h.ok n (by omega) (by have := h.len; omega)).body
theorem Wf.kindsD {s : List Node} (h : Wf s) (n : Nat) (hn : n < s.length) : (s.getD n default).kind = 0 ∨ (s.getD n default).kind = 1 ∨ (s.getD n default).kind = 2 := by
 by_cases h0 : n = 0
 ·subst h0; rw [h.top]; decide
 ·exact (h.ok n (by omega) (by have := h.len; omega)).kinds
theorem Wf.badD {s : List Node} (h : Wf s) (n : Nat) (hn : n < s.length) : (s.getD n default).bad = 0 := by
 by_cases h0 : n = 0
 ·subst h0; rw [h.top]
 ·exact (h.ok n (by omega) (by have := h.len; omega)).bad
theorem Wf.emptyD {s : List Node} (h : Wf s) (n : Nat) (hn : n < s.length) (hk : (s.getD n default).kind ≠ 1) : (s.getD n default).body = [] := by
 by_cases h0 : n = 0
 ·subst h0; rw [h.top]
 ·have := h.ok n (by omega) (by have := h.len; omega)
  rcases this.kinds with e | e | e
  ·rw [this.none e]
  ·exact absurd e hk
  ·exact this.fold e
theorem Wf.up {s : List Node} (h : Wf s) : ∀ x ∈ s, 0 ≤ x.up ∧ x.up < 8 := fun x hx => by
 obtain ⟨n, hn, rfl⟩ := mem_getD hx; exact h.upD n hn
theorem Wf.body {s : List Node} (h : Wf s) : ∀ x ∈ s, x.body.length ≤ 128 := fun x hx => by
 obtain ⟨n, hn, rfl⟩ := mem_getD hx; exact h.bodyD n hn
theorem Wf.none {s : List Node} (h : Wf s) : ∀ x ∈ s, x.kind = 0 → x.body = [] := fun x hx hk => by
 obtain ⟨n, hn, rfl⟩ := mem_getD hx; exact h.emptyD n hn (by omega)
theorem rank8 {s : List Node} (r : Nat → Nat) (hlen : s.length = 8) (hup : ∀ i, i < 8 → (s.getD i default).up.toNat < 8) (hr : ∀ i, 1 ≤ i → i < 8 → (s.getD i default).kind ≠ 0 → r (s.getD i default).up.toNat < r i) :
 ∃ r' : Nat → Nat, (∀ i, i < 8 → r' i < 8) ∧ ∀ i, 1 ≤ i → i < 8 → (s.getD i default).kind ≠ 0 → r' (s.getD i default).up.toNat < r' i := by
 have mono : ∀ (a b : Nat), a < b → ∀ (l : List Nat), (∃ j ∈ l, r j = a) → l.countP (fun j => decide (r j < a)) < l.countP (fun j => decide (r j < b)) := by
  intro a b hab l
  induction l with
  | nil => rintro ⟨j, hj, _⟩; cases hj
  | cons x l ih =>
    rintro ⟨j, hj, e⟩
    have le : l.countP (fun j => decide (r j < a)) ≤ l.countP (fun j => decide (r j < b)) := List.countP_mono_left (fun y _ h => by simp at h ⊢; omega)
    rw [List.countP_cons, List.countP_cons]
    rcases List.mem_cons.1 hj with rfl | hj
    ·rw [if_neg (by simp; omega), if_pos (by simp; omega)]; omega
    ·have := ih ⟨j, hj, e⟩
     by_cases h1 : r x < a
     ·rw [if_pos (by simpa using h1), if_pos (by simp; omega)]; omega
     ·rw [if_neg (by simpa using h1)]; omega
 refine ⟨fun i => (List.range 8).countP fun j => decide (r j < r i), fun i hi => ?_, fun i h1 h2 h3 => ?_⟩
 ·have h1 := mono (r i) (r i + 1) (by omega) (List.range 8) ⟨i, by simpa using hi, rfl⟩
  have h2 : (List.range 8).countP (fun j => decide (r j < r i + 1)) ≤ (List.range 8).length := List.countP_le_length
  simp at h2
  show (List.range 8).countP (fun j => decide (r j < r i)) < 8
  omega
 ·exact mono _ _ (hr i h1 h2 h3) (List.range 8) ⟨_, by simpa using hup i h2, rfl⟩
theorem getD_set (s : List Node) (n i : Nat) (x : Node) : (s.set n x).getD i default = if n = i ∧ i < s.length then x else s.getD i default := by
 rw [List.getD_eq_getElem?_getD, List.getElem?_set]
 by_cases h : n = i
 ·subst h
  by_cases h2 : n < s.length
  ·simp [h2]
  ·simp [h2]
 ·simp [h, List.getD_eq_getElem?_getD]
theorem Wf.put {s : List Node} (h : Wf s) {n : Nat} (h1 : 1 ≤ n) (hn : n < 8) {x : Node} (hx : OkAt s x)
 (hself : x.kind ≠ 0 → x.up.toNat ≠ n ∨ x.kind = 2)
 (hkids : x.kind = 2 ∨ ∀ i, 1 ≤ i → i < 8 → i ≠ n → (s.getD i default).kind ≠ 0 → (s.getD i default).up.toNat ≠ n)
 (huniq : x.kind ≠ 0 → ∀ i, 1 ≤ i → i < 8 → i ≠ n → (s.getD i default).kind ≠ 0 → (s.getD i default).up = x.up → (s.getD i default).name ≠ x.name)
 (r : Nat → Nat) (hr : ∀ i, 1 ≤ i → i < 8 → i ≠ n → (s.getD i default).kind ≠ 0 → r (s.getD i default).up.toNat < r i) (hrx : x.kind ≠ 0 → r x.up.toNat < r n) : Wf (s.set n x) := by
 have hlen := h.len
 have gn : (s.set n x).getD n default = x := by rw [getD_set, if_pos ⟨rfl, by omega⟩]
 have gi : ∀ i, i ≠ n → (s.set n x).getD i default = s.getD i default := fun i hi => by rw [getD_set, if_neg (by omega)]
 refine ⟨by rw [List.length_set]; exact hlen, by rw [gi 0 (by omega)]; exact h.top, fun i hi1 hi8 => ?_, fun i k hi1 hi8 hk1 hk8 hki hkk hu hnm => ?_, r, fun i hi1 hi8 hk => ?_⟩
 ·by_cases e : i = n
  ·subst e
   rw [gn]
   refine ⟨hx.bad, hx.kinds, hx.none, hx.fold, hx.name, hx.up, fun hk => ?_, hx.body⟩
   by_cases e2 : x.up.toNat = i
   ·rw [e2, gn]
    rcases hself hk with h' | h'
    ·exact absurd e2 h'
    ·exact h'
   ·rw [gi _ e2]; exact hx.upf hk
  ·rw [gi i e]
   have o := h.ok i hi1 hi8
   refine ⟨o.bad, o.kinds, o.none, o.fold, o.name, o.up, fun hk => ?_, o.body⟩
   by_cases e2 : (s.getD i default).up.toNat = n
   ·rw [e2, gn]
    rcases hkids with h' | h'
    ·exact h'
    ·exact absurd e2 (h' i hi1 hi8 e hk)
   ·rw [gi _ e2]; exact o.upf hk
 ·by_cases e : i = n
  ·by_cases e2 : k = n
   ·omega
   ·subst e
    rw [gn] at hki hu hnm; rw [gi k e2] at hkk hu hnm
    exact absurd hnm.symm (huniq hki k hk1 hk8 e2 hkk hu.symm)
  ·by_cases e2 : k = n
   ·subst e2
    rw [gn] at hkk hu hnm; rw [gi i e] at hki hu hnm
    exact absurd hnm (huniq hkk i hi1 hi8 e hki hu)
   ·rw [gi i e] at hki hu hnm; rw [gi k e2] at hkk hu hnm
    exact h.uniq i k hi1 hi8 hk1 hk8 hki hkk hu hnm
 ·by_cases e : i = n
  ·subst e; rw [gn] at hk ⊢; exact hrx hk
  ·rw [gi i e] at hk ⊢; exact hr i hi1 hi8 e hk
end Go.Proofs.YtemjlopoffjmpaaGreat.Abs
set_option linter.unusedSimpArgs false
set_option linter.unusedVariables false
namespace Go.Proofs.YtemjlopoffjmpaaGreat.Abs
open Go Go.Proofs
theorem Wk_empAt {n0 : Nat} {fr : List AV} {H : AH} (j sz : Nat) (h : fr[j]? = some .emp) : Wk n0 fr H (fr.set j (.own H.length sz 0 0 0)) (H ++ [some []]) := by
 intro E w vs hs hr
 refine ⟨E, LeN.refl _ _, hs.newEmpty, by rw [List.length_set]; exact hr.1, fun i c u hc hu => ?_⟩
 rw [List.getElem?_set] at hc
 by_cases hij : j = i
 ·subst hij
  rw [if_pos rfl] at hc
  split at hc
  ·cases hc
   obtain ⟨a, rfl⟩ := rep_emp (hr.2 j _ u h hu)
   exact .own0 _ _ _
  ·cases hc
 ·rw [if_neg hij] at hc
  exact hr.2 i c u hc hu
def kid (s : List Node) (n : Int) (i : Nat) : Prop := 1 ≤ i ∧ i < s.length ∧ ((s.getD i default).kind = 1 ∨ (s.getD i default).kind = 2) ∧ (s.getD i default).up = n
def cellI (i : Nat) : List AV := [.int .i64 i]
def pint (i : Nat) : List PV := [.int .i64 i]
theorem swap_mem (l : List Nat) (i j : Nat) (hi : i < l.length) (hj : j < l.length) (x : Nat) : x ∈ (l.set i (l.getD j 0)).set j (l.getD i 0) ↔ x ∈ l := by
 have gi : l.getD i 0 = l[i] := by rw [List.getD_eq_getElem?_getD, List.getElem?_eq_getElem hi]; rfl
 have gj : l.getD j 0 = l[j] := by rw [List.getD_eq_getElem?_getD, List.getElem?_eq_getElem hj]; rfl
 rw [gi, gj]
 simp only [List.mem_iff_getElem?, List.getElem?_set, List.length_set]
 constructor
 ·rintro ⟨k, hk⟩
  by_cases h1 : j = k
  ·subst h1
   rw [if_pos rfl, if_pos (by omega)] at hk
   exact ⟨i, by rw [← hk]; exact List.getElem?_eq_getElem hi⟩
  ·rw [if_neg h1] at hk
   by_cases h2 : i = k
   ·subst h2
    rw [if_pos rfl, if_pos hi] at hk
    exact ⟨j, by rw [← hk]; exact List.getElem?_eq_getElem hj⟩
   ·rw [if_neg h2] at hk
    exact ⟨k, hk⟩
 ·rintro ⟨k, hk⟩
  by_cases h1 : k = i
  ·subst h1
   refine ⟨j, ?_⟩
   rw [if_pos rfl, if_pos (by omega)]
   rw [List.getElem?_eq_getElem hi] at hk
   exact hk
  ·by_cases h2 : k = j
   ·subst h2
    refine ⟨i, ?_⟩
    rw [List.getElem?_eq_getElem hj] at hk
    rw [if_neg h1, if_pos rfl, if_pos hi]
    exact hk
   ·exact ⟨k, by rw [if_neg (Ne.symm h2), if_neg (Ne.symm h1)]; exact hk⟩
theorem iaddr_node (H : AH) (s : List Node) (k : IntKind) (n : Int) : iaddrV H 5 (.fz (s.map pnode)) (.int k n) = if 0 ≤ n ∧ n < s.length then some (.fptr (pnode (s.getD n.toNat default))) else none := by
 rw [iaddrV_map]
 have : (pnode (s.getD n.toNat default)).length = 5 := rfl
 simp only [this, and_true]
theorem set_cell (l : List Nat) (i x : Nat) : (List.map cellI l).set i [AV.int .i64 (x : Int)] = (l.set i x).map cellI := by rw [List.map_set]; rfl
theorem Wk_ints {fr fr' : List AV} {l : List Nat} {G : AH} (h : Tops fr' (renL (upTo 1) fr)) : Wk 0 fr (some (l.map cellI) :: G) fr' [some (l.map cellI)] := by
 have h1 := (Wk_forget (n0 := 0) (fr := fr) (H := some (l.map cellI) :: G) 1 (Nat.zero_le _)).trans (Wk_tops h)
 have e : mapH (renL (upTo 1)) ((some (l.map cellI) :: G).take 1) = [some (l.map cellI)] := by
  simp only [List.take_succ_cons, List.take_zero, mapH, List.map_cons, List.map_nil, Option.map_some, List.map_map]
  congr 2
 rwa [e] at h1
theorem kids_spec0 (s : List Node) (hs : s.length ≤ 1000000) (n : Int) :
 C Tryz.prog 111 [aset s, .int .i64 n] [] (fun x H' => ∃ l : List Nat, x = .fz (l.map pint) ∧ (∀ i, i ∈ l ↔ kid s n i) ∧ l.length ≤ s.length ∧ H' = []) := by
 refine C_body' d111 rfl (WT_ok ?_)
 delta c111 I0 I1 I2 I3 I4 I5 I6 I7 I8 I9 KI
 simp only [aset, iaddr_node, pnode, wk3, wk, Nat.reduceAdd, Nat.reduceSub, Nat.reduceMul, Nat.reduceLeDiff, Nat.reduceEqDiff, Nat.reduceBEq, Int.reduceLE, Int.reduceLT, Int.reduceEq, Int.reduceNe, Int.reduceAdd, Int.reduceSub, Int.reduceToNat, Int.reduceNeg, ↓reduceIte, reduceCtorEq]
 refine WT_loop (W_wk (Wk_empAt 5 1 rfl) (W_loop (fun nn fr H' => ∃ (i : Nat) (l : List Nat), 1 ≤ i ∧ (i ≤ s.length ∨ i = 1) ∧ nn = s.length - i ∧ (∀ j, j ∈ l ↔ kid s n j ∧ j < i) ∧ l.length < i ∧ H' = [some (l.map cellI)] ∧
  fr = [.fz (s.map pnode), .int .i64 n, .top, .top, .emp, .own 0 1 0 l.length l.length, .int .i64 i, .top] ++ List.replicate 73 .top) (s.length - 1) ⟨1, [], by omega, by omega, rfl, by simp [kid]; omega, by simp, rfl, rfl⟩ ?_))
 rintro nn fr H' ⟨i, l, hi1, hi, rfl, hmem, hll, rfl, rfl⟩
 refine WT_ok ?_
 simp only [iaddr_node, pnode, wk3, wk, Nat.reduceAdd, Nat.reduceSub, Nat.reduceMul, Nat.reduceLeDiff, Nat.reduceEqDiff, Nat.reduceBEq, Int.reduceLE, Int.reduceLT, Int.reduceEq, Int.reduceNe, Int.reduceAdd, Int.reduceSub, Int.reduceToNat, Int.reduceNeg, ↓reduceIte, reduceCtorEq]
 refine guard_both ?_ ?_ <;> intro h <;> simp only [hy] at h
 ·have hil : i < s.length := by omega
  have h0 : (0 : Int) ≤ i := by omega
  have w2 : IntKind.i64.wrap ((i : Int) + 1) = (i : Int) + 1 := IntWalk.i64_in _ (by omega)
  simp only [h0, h, iaddr_node, pnode, wk3, wk, Nat.reduceAdd, Nat.reduceSub, Nat.reduceMul, Nat.reduceLeDiff, Nat.reduceEqDiff, Nat.reduceBEq, Int.reduceLE, Int.reduceLT, Int.reduceEq, Int.reduceNe, Int.reduceAdd, Int.reduceSub, Int.reduceToNat, Int.reduceNeg, ↓reduceIte, reduceCtorEq]
  by_cases hk : kid s n i
  ·have hup : (s.getD i default).up = n := hk.2.2.2
   rcases hk.2.2.1 with h1 | h1 <;> simp only [h0, h, h1, hup, iaddr_node, pnode, wk3, wk, Nat.reduceAdd, Nat.reduceSub, Nat.reduceMul, Nat.reduceLeDiff, Nat.reduceEqDiff, Nat.reduceBEq, Int.reduceLE, Int.reduceLT, Int.reduceEq, Int.reduceNe, Int.reduceAdd, Int.reduceSub, Int.reduceToNat, Int.reduceNeg, ↓reduceIte, reduceCtorEq]
   all_goals
    have e : List.map cellI l ++ [[AV.int .i64 (i : Int)]] = (l ++ [i]).map cellI := by simp [cellI]
    have hmem2 : ∀ j, j ∈ l ++ [i] ↔ kid s n j ∧ j < i + 1 := by
     intro j
     rw [List.mem_append, hmem, List.mem_singleton]
     constructor
     ·rintro (⟨a, b⟩ | rfl)
      ·exact ⟨a, by omega⟩
      ·exact ⟨hk, by omega⟩
     ·rintro ⟨a, b⟩
      rcases Nat.lt_or_ge j i with h' | h'
      ·exact .inl ⟨a, h'⟩
      ·exact .inr (by omega)
    rw [e]
    refine ⟨⟨by omega, by omega⟩, ?_⟩
    refine WT_loop (W_wk (Wk_ints (fr' := [.fz (s.map pnode), .int .i64 n, .top, .top, .emp, .own 0 1 0 (l.length + 1) (l.length + 1), .int .i64 i, .int .i64 l.length] ++ List.replicate 73 .top) ?_) (W_loop (fun nn fr H' => ∃ (k : Nat) (l' : List Nat), k < l'.length ∧ l'.length = l.length + 1 ∧ nn = k ∧ (∀ j, j ∈ l' ↔ kid s n j ∧ j < i + 1) ∧ H' = [some (l'.map cellI)] ∧
     fr = [.fz (s.map pnode), .int .i64 n, .top, .top, .emp, .own 0 1 0 (l.length + 1) (l.length + 1), .int .i64 i, .int .i64 k] ++ List.replicate 73 .top) l.length ⟨l.length, l ++ [i], by simp, by simp, rfl, hmem2, rfl, rfl⟩ ?_))
    ·simp only [List.replicate_succ, List.replicate_zero, List.cons_append, List.nil_append, renL, ren, upTo, Nat.zero_lt_one, if_true, Tops_top, Tops_same, Tops_nil]
    rintro k fr H' ⟨_, l', hkl, hl', rfl, hm', rfl, rfl⟩
    refine WT_ok ?_
    simp only [iaddr_node, pnode, wk3, wk, Nat.reduceAdd, Nat.reduceSub, Nat.reduceMul, Nat.reduceLeDiff, Nat.reduceEqDiff, Nat.reduceBEq, Int.reduceLE, Int.reduceLT, Int.reduceEq, Int.reduceNe, Int.reduceAdd, Int.reduceSub, Int.reduceToNat, Int.reduceNeg, ↓reduceIte, reduceCtorEq]
    refine WT_draw ?_
    simp only [iaddr_node, pnode, wk3, wk, Nat.reduceAdd, Nat.reduceSub, Nat.reduceMul, Nat.reduceLeDiff, Nat.reduceEqDiff, Nat.reduceBEq, Int.reduceLE, Int.reduceLT, Int.reduceEq, Int.reduceNe, Int.reduceAdd, Int.reduceSub, Int.reduceToNat, Int.reduceNeg, ↓reduceIte, reduceCtorEq]
    refine guard_both ?_ ?_ <;> intro hk0 <;> simp only [hy] at hk0
    ·have hkp : 0 < k := by omega
     have hx := List.getElem?_eq_getElem (show k - 1 < l'.length by omega)
     have hy := List.getElem?_eq_getElem (show k < l'.length by omega)
     have hkx := (hm' l'[k - 1]).1 (List.getElem_mem _)
     generalize l'[k - 1] = xx at hx hkx
     generalize l'[k] = yy at hy
     have hxr := hkx.1.2.1
     have wk1 : IntKind.i64.wrap ((k : Int) - 1) = ((k - 1 : Nat) : Int) := by rw [IntWalk.i64_in _ (by omega)]; omega
     simp only [hk0, h0, h, hl', hx, wk1, cellI, iaddr_node, pnode, wk3, wk, Nat.reduceAdd, Nat.reduceSub, Nat.reduceMul, Nat.reduceLeDiff, Nat.reduceEqDiff, Nat.reduceBEq, Int.reduceLE, Int.reduceLT, Int.reduceEq, Int.reduceNe, Int.reduceAdd, Int.reduceSub, Int.reduceToNat, Int.reduceNeg, ↓reduceIte, reduceCtorEq]
     refine ⟨⟨by omega, by omega⟩, ⟨by omega, by omega⟩, ?_⟩
     refine guard_both ?_ ?_ <;> intro hb
     ·simp only [hb, iaddr_node, pnode, wk3, wk, Nat.reduceAdd, Nat.reduceSub, Nat.reduceMul, Nat.reduceLeDiff, Nat.reduceEqDiff, Nat.reduceBEq, Int.reduceLE, Int.reduceLT, Int.reduceEq, Int.reduceNe, Int.reduceAdd, Int.reduceSub, Int.reduceToNat, Int.reduceNeg, ↓reduceIte, reduceCtorEq]
      refine WT_drawE ?_
      refine WDT_more 0 ?_
      simp only [hl', hx, hy, wk1, cellI, iaddr_node, pnode, wk3, wk, Nat.reduceAdd, Nat.reduceSub, Nat.reduceMul, Nat.reduceLeDiff, Nat.reduceEqDiff, Nat.reduceBEq, Int.reduceLE, Int.reduceLT, Int.reduceEq, Int.reduceNe, Int.reduceAdd, Int.reduceSub, Int.reduceToNat, Int.reduceNeg, ↓reduceIte, reduceCtorEq]
      refine ⟨⟨by omega, by omega⟩, ⟨by omega, by omega⟩, ⟨by omega, by omega⟩, by omega, by rfl, ⟨by omega, by omega⟩, ?_⟩
      have hz : (l'.set (k - 1) yy)[k]? = some yy := by rw [List.getElem?_set_ne (by omega)]; exact hy
      have hsw : ∀ j, j ∈ (l'.set (k - 1) yy).set k xx ↔ kid s n j ∧ j < i + 1 := by
       intro j
       have := swap_mem l' (k - 1) k (by omega) (by omega) j
       rw [List.getD_eq_getElem?_getD, List.getD_eq_getElem?_getD, hx, hy] at this
       rw [← hm' j]; exact this
      rw [set_cell]
      simp only [hz, wk1, cellI, lay, List.getElem?_map, Option.map_some, iaddr_node, pnode, wk3, wk, Nat.reduceAdd, Nat.reduceSub, Nat.reduceMul, Nat.reduceLeDiff, Nat.reduceEqDiff, Nat.reduceBEq, Int.reduceLE, Int.reduceLT, Int.reduceEq, Int.reduceNe, Int.reduceAdd, Int.reduceSub, Int.reduceToNat, Int.reduceNeg, ↓reduceIte, reduceCtorEq]
      rw [set_cell]
      refine QLoop_go (n' := k - 1) (by omega) ⟨k - 1, (l'.set (k - 1) yy).set k xx, by simp; omega, by simp; omega, rfl, hsw, rfl, rfl⟩ ?_
      simp only [tp]
     ·simp only [hb, w2, iaddr_node, pnode, wk3, wk, Nat.reduceAdd, Nat.reduceSub, Nat.reduceMul, Nat.reduceLeDiff, Nat.reduceEqDiff, Nat.reduceBEq, Int.reduceLE, Int.reduceLT, Int.reduceEq, Int.reduceNe, Int.reduceAdd, Int.reduceSub, Int.reduceToNat, Int.reduceNeg, ↓reduceIte, reduceCtorEq]
      refine QLoop_go (n' := s.length - (i + 1)) (by omega) ⟨i + 1, l', by omega, by omega, rfl, hm', by omega, rfl, rfl⟩ ?_
      simp only [hl', tq]
    ·simp only [hk0, w2, iaddr_node, pnode, wk3, wk, Nat.reduceAdd, Nat.reduceSub, Nat.reduceMul, Nat.reduceLeDiff, Nat.reduceEqDiff, Nat.reduceBEq, Int.reduceLE, Int.reduceLT, Int.reduceEq, Int.reduceNe, Int.reduceAdd, Int.reduceSub, Int.reduceToNat, Int.reduceNeg, ↓reduceIte, reduceCtorEq]
     refine QLoop_go (n' := s.length - (i + 1)) (by omega) ⟨i + 1, l', by omega, by omega, rfl, hm', by omega, rfl, rfl⟩ ?_
     simp only [hl', tq]
  ·have fin : ∀ j, j ∈ l ↔ kid s n j ∧ j < i + 1 := by
    intro j
    rw [hmem]
    constructor
    ·exact fun ⟨a, b⟩ => ⟨a, by omega⟩
    ·rintro ⟨a, b⟩
     refine ⟨a, ?_⟩
     rcases Nat.lt_or_ge j i with h' | h'
     ·exact h'
     ·have : j = i := by omega
      subst this; exact absurd a hk
   by_cases h1 : (s.getD i default).kind = 1
   ·have h3 : ¬ (s.getD i default).up = n := fun e => hk ⟨hi1, hil, .inl h1, e⟩
    simp only [h0, h, h1, h3, w2, iaddr_node, pnode, wk3, wk, Nat.reduceAdd, Nat.reduceSub, Nat.reduceMul, Nat.reduceLeDiff, Nat.reduceEqDiff, Nat.reduceBEq, Int.reduceLE, Int.reduceLT, Int.reduceEq, Int.reduceNe, Int.reduceAdd, Int.reduceSub, Int.reduceToNat, Int.reduceNeg, ↓reduceIte, reduceCtorEq]
    refine QLoop_go (n' := s.length - (i + 1)) (by omega) ⟨i + 1, l, by omega, by omega, rfl, fin, by omega, rfl, rfl⟩ ?_
    simp only [tq]
   ·by_cases h2 : (s.getD i default).kind = 2
    ·have h3 : ¬ (s.getD i default).up = n := fun e => hk ⟨hi1, hil, .inr h2, e⟩
     simp only [h0, h, h2, h3, w2, iaddr_node, pnode, wk3, wk, Nat.reduceAdd, Nat.reduceSub, Nat.reduceMul, Nat.reduceLeDiff, Nat.reduceEqDiff, Nat.reduceBEq, Int.reduceLE, Int.reduceLT, Int.reduceEq, Int.reduceNe, Int.reduceAdd, Int.reduceSub, Int.reduceToNat, Int.reduceNeg, ↓reduceIte, reduceCtorEq]
     refine QLoop_go (n' := s.length - (i + 1)) (by omega) ⟨i + 1, l, by omega, by omega, rfl, fin, by omega, rfl, rfl⟩ ?_
     simp only [tq]
    ·simp only [h0, h, h1, h2, w2, iaddr_node, pnode, wk3, wk, Nat.reduceAdd, Nat.reduceSub, Nat.reduceMul, Nat.reduceLeDiff, Nat.reduceEqDiff, Nat.reduceBEq, Int.reduceLE, Int.reduceLT, Int.reduceEq, Int.reduceNe, Int.reduceAdd, Int.reduceSub, Int.reduceToNat, Int.reduceNeg, ↓reduceIte, reduceCtorEq]
     refine QLoop_go (n' := s.length - (i + 1)) (by omega) ⟨i + 1, l, by omega, by omega, rfl, fin, by omega, rfl, rfl⟩ ?_
     simp only [tq]
 ·simp only [h, iaddr_node, pnode, wk3, wk, Nat.reduceAdd, Nat.reduceSub, Nat.reduceMul, Nat.reduceLeDiff, Nat.reduceEqDiff, Nat.reduceBEq, Int.reduceLE, Int.reduceLT, Int.reduceEq, Int.reduceNe, Int.reduceAdd, Int.reduceSub, Int.reduceToNat, Int.reduceNeg, ↓reduceIte, reduceCtorEq]
  refine KWk_frozen 0 (l.map pint) ?_ (.fz (l.map pint)) ?_ ⟨l, rfl, fun j => ?_, by omega, rfl⟩
  ·simp [AH.at, cellI, pint, emb]
  ·simp only [frzL, frz, renL, ren, if_true, List.length_map, Nat.zero_add, Nat.le_refl, and_self, List.drop_zero]
   rw [List.take_of_length_le (by simp)]
  ·rw [hmem]
   constructor
   ·exact fun h => h.1
   ·intro hk
    have := hk.2.1
    exact ⟨hk, by omega⟩
theorem kids_spec (s : List Node) (hs : s.length ≤ 1000000) (n : Int) (H : AH) : C Tryz.prog 111 [aset s, .int .i64 n] H (fun x H' => (∃ l : List Nat, x = .fz (l.map pint) ∧ (∀ i, i ∈ l ↔ kid s n i) ∧ l.length ≤ s.length) ∧ H' = H) :=
 C_pure (K0 := fun x => ∃ l : List Nat, x = .fz (l.map pint) ∧ (∀ i, i ∈ l ↔ kid s n i) ∧ l.length ≤ s.length) ((kids_spec0 s hs n).mono fun x H' ⟨l, h1, h2, h3, h4⟩ => ⟨⟨l, h1, h2, h3⟩, h4⟩) (fun τ => by simp [renL, ren, aset]) (by rintro y ⟨l, rfl, _⟩ τ; simp [ren]) H
end Go.Proofs.YtemjlopoffjmpaaGreat.Abs
set_option linter.unusedSimpArgs false
set_option linter.unusedVariables false
namespace Go.Proofs.YtemjlopoffjmpaaGreat.Abs
open Go Go.Proofs
theorem iaddr_int (H : AH) (l : List Nat) (k : IntKind) (n : Int) : iaddrV H 1 (.fz (l.map pint)) (.int k n) = if 0 ≤ n ∧ n < l.length then some (.fptr (pint (l.getD n.toNat default))) else none := by
 rw [iaddrV_map]
 have : (pint (l.getD n.toNat default)).length = 1 := rfl
 simp only [this, and_true]
def pname (x : List UInt8) : List PV := [.str x]
theorem iaddr_name (H : AH) (l : List (List UInt8)) (k : IntKind) (n : Int) : iaddrV H 1 (.fz (l.map pname)) (.int k n) = if 0 ≤ n ∧ n < l.length then some (.fptr (pname (l.getD n.toNat default))) else none := by
 rw [iaddrV_map]
 have : (pname (l.getD n.toNat default)).length = 1 := rfl
 simp only [this, and_true]
theorem kid_spec (s : List Node) (hs : s.length ≤ 1000000) (n : Int) (nm : List UInt8) (H : AH) :
 C Tryz.prog 79 [aset s, .int .i64 n, .str nm] H (fun x H' => H' = H ∧ ((∃ k : Nat, kid s n k ∧ (s.getD k default).name = nm ∧ x = .tuple [.int .i64 k, .bool true]) ∨ (x = .tuple [.int .i64 0, .bool false] ∧ ∀ k, kid s n k → (s.getD k default).name ≠ nm))) := by
 refine C_body d79 rfl (WT_ok ?_)
 delta c79 I0 I1 I2 I3 I4 I5 I6 I7 I8 I9 KI
 simp only [aset, iaddr_node, pnode, wk3, wk, seval]
 refine CT_ok (kids_spec s hs n H) ?_
 rintro _ H ⟨⟨l, rfl, hl, hll⟩, rfl⟩
 simp only [iaddr_node, pnode, wk3, wk, seval]
 refine WT_loop (W_wk (fr' := [.fz (s.map pnode), .int .i64 n, .str nm, .top, .top, .top, .int .i64 0, .bool false, .fz (l.map pint), .int .i64 0] ++ List.replicate 23 .top) (Wk_tops ?_) (W_loop (fun nn fr H' => ∃ j : Nat, j ≤ l.length ∧ nn = l.length - j ∧ (∀ i, i < j → (s.getD (l.getD i 0) default).name ≠ nm) ∧ H' = H ∧ fr = [.fz (s.map pnode), .int .i64 n, .str nm, .top, .top, .top, .int .i64 0, .bool false, .fz (l.map pint), .int .i64 j] ++ List.replicate 23 .top) l.length ⟨0, by omega, rfl, fun i hi => by omega, rfl, rfl⟩ ?_))
 ·simp only [tp]
 rintro nn fr H ⟨j, hj, rfl, hno, rfl, rfl⟩
 refine WT_ok ?_
 simp only [iaddr_node, pnode, wk3, wk, seval]
 refine guard_both ?_ ?_ <;> intro h <;> simp only [hy] at h
 ·have hjl : j < l.length := by omega
  have h0 : (0 : Int) ≤ j := by omega
  have hmem : l.getD j 0 ∈ l := by rw [List.getD_eq_getElem?_getD, List.getElem?_eq_getElem hjl]; exact List.getElem_mem _
  have hk := (hl _).1 hmem
  have hd : l.getD j default = l.getD j 0 := rfl
  have hk2 := hk.2.1
  have h1 : (0 : Int) ≤ (l.getD j 0 : Nat) := by omega
  have h2 : ((l.getD j 0 : Nat) : Int) < s.length := by omega
  have w2 : IntKind.i64.wrap ((j : Int) + 1) = (j : Int) + 1 := IntWalk.i64_in _ (by omega)
  simp only [h0, h, h1, h2, hd, iaddr_int, pint, iaddr_node, pnode, wk3, wk, seval]
  refine guard_both ?_ ?_ <;> intro h3 <;> simp only [hy] at h3
  ·simp only [h3, h0, h, hd, iaddr_int, pint, iaddr_node, pnode, wk3, wk, seval]
   exact .inl ⟨_, hk, h3, rfl⟩
  ·simp only [h3, w2, iaddr_node, pnode, wk3, wk, seval]
   refine QLoop_go (n' := l.length - (j + 1)) (by omega) ⟨j + 1, by omega, rfl, fun i hi => ?_, rfl, rfl⟩ ?_
   ·rcases Nat.lt_or_ge i j with h' | h'
    ·exact hno i h'
    ·have : i = j := by omega
     subst this; exact h3
   ·simp only [tq]
 ·simp only [h, iaddr_node, pnode, wk3, wk, seval]
  refine .inr fun k hk => ?_
  obtain ⟨i, hi, he⟩ := List.mem_iff_getElem.1 ((hl k).2 hk)
  have := hno i (by omega)
  have hg : l.getD i 0 = k := by rw [List.getD_eq_getElem?_getD, List.getElem?_eq_getElem hi]; exact he
  rwa [hg] at this
def downR (s : List Node) : List (List UInt8) → Nat → Nat → Prop
 | [], a, b => a = b
 | x :: l, a, b => (s.getD a default).kind = 2 ∧ ∃ k, kid s a k ∧ (s.getD k default).name = x ∧ downR s l k b
def downF (s : List Node) (l : List (List UInt8)) : Prop := ∃ (l1 : List (List UInt8)) (x : List UInt8) (l2 : List (List UInt8)) (a : Nat), l = l1 ++ x :: l2 ∧ downR s l1 0 a ∧ a < s.length ∧ ((s.getD a default).kind ≠ 2 ∨ ∀ k, kid s a k → (s.getD k default).name ≠ x)
theorem downR_snoc {s : List Node} {x : List UInt8} : ∀ {l : List (List UInt8)} {a b k : Nat}, downR s l a b → (s.getD b default).kind = 2 → kid s b k → (s.getD k default).name = x → downR s (l ++ [x]) a k
 | [], a, b, k, h, h1, h2, h3 => by
   simp only [downR] at h; subst h
   exact ⟨h1, k, h2, h3, rfl⟩
 | y :: l, a, b, k, ⟨g1, m, g2, g3, g4⟩, h1, h2, h3 => ⟨g1, m, g2, g3, downR_snoc g4 h1 h2 h3⟩
theorem down_spec (s : List Node) (hs : s.length ≤ 1000000) (h0s : 0 < s.length) (l : List (List UInt8)) (hl : l.length ≤ 1000000) (H : AH) :
 C Tryz.prog 110 [aset s, .fz (l.map pname)] H (fun x H' => H' = H ∧ ((∃ k : Nat, k < s.length ∧ downR s l 0 k ∧ x = .tuple [.int .i64 k, .int .i64 0]) ∨ ∃ e : Int, e ≠ 0 ∧ downF s l ∧ x = .tuple [.int .i64 0, .int .i64 e])) := by
 refine C_body d110 rfl (WT_ok ?_)
 delta c110 I0 I1 I2 I3 I4 I5 I6 I7 I8 I9 KI
 simp only [aset, iaddr_node, pnode, wk3, wk, seval]
 refine WT_loop (W_loop (fun nn fr H' => ∃ (j a : Nat), j ≤ l.length ∧ nn = l.length - j ∧ a < s.length ∧ downR s (l.take j) 0 a ∧ H' = H ∧ fr = [.fz (s.map pnode), .fz (l.map pname), .top, .top, .int .i64 0, .int .i64 0, .int .i64 a, .int .i64 j] ++ List.replicate 40 .top) l.length ⟨0, 0, by omega, rfl, h0s, rfl, rfl, rfl⟩ ?_)
 rintro nn fr H ⟨j, a, hj, rfl, ha, hR, rfl, rfl⟩
 refine WT_ok ?_
 simp only [iaddr_node, pnode, wk3, wk, seval]
 refine guard_both ?_ ?_ <;> intro h <;> simp only [hy] at h
 ·have hjl : j < l.length := by omega
  have h0 : (0 : Int) ≤ j := by omega
  have h1 : (0 : Int) ≤ a := by omega
  have h2 : (a : Int) < s.length := by omega
  have h2' : ¬ (s.length : Int) ≤ a := by omega
  have w2 : IntKind.i64.wrap ((j : Int) + 1) = (j : Int) + 1 := IntWalk.i64_in _ (by omega)
  have hsplit : l = l.take j ++ l.getD j default :: l.drop (j + 1) := by
   rw [List.getD_eq_getElem?_getD, List.getElem?_eq_getElem hjl, Option.getD_some, List.getElem_cons_drop, List.take_append_drop]
  simp only [h0, h, h1, h2, h2', iaddr_name, pname, iaddr_node, pnode, wk3, wk, seval]
  by_cases hk : (s.getD a default).kind = 2
  ·simp only [hk, h0, h, h1, h2, iaddr_name, pname, iaddr_node, pnode, wk3, wk, seval]
   refine CT_ok (kid_spec s hs a (l.getD j default) H) ?_
   rintro _ H ⟨rfl, ⟨k, hk1, hk2, rfl⟩ | ⟨rfl, hno⟩⟩
   ·simp only [w2, iaddr_node, pnode, wk3, wk, seval]
    refine QLoop_go (n' := l.length - (j + 1)) (by omega) ⟨j + 1, k, by omega, rfl, hk1.2.1, ?_, rfl, rfl⟩ ?_
    ·rw [List.take_add_one, List.getElem?_eq_getElem hjl]
     refine downR_snoc hR hk hk1 ?_
     rw [hk2, List.getD_eq_getElem?_getD, List.getElem?_eq_getElem hjl]
     rfl
    ·simp only [tq]
   ·simp only [iaddr_node, pnode, wk3, wk, seval]
    refine CT_ok (lost_spec s hs H) ?_
    rintro _ _ ⟨rfl, rfl⟩
    simp only [iaddr_node, pnode, wk3, wk, seval]
    refine guard_both ?_ ?_ <;> intro h3 <;> simp only [h3, iaddr_node, pnode, wk3, wk, seval]
    ·exact .inr ⟨12, by omega, ⟨_, _, _, a, hsplit, hR, ha, .inr hno⟩, rfl⟩
    ·exact .inr ⟨2, by omega, ⟨_, _, _, a, hsplit, hR, ha, .inr hno⟩, rfl⟩
  ·simp only [hk, iaddr_node, pnode, wk3, wk, seval]
   exact .inr ⟨5, by omega, ⟨_, _, _, a, hsplit, hR, ha, .inl hk⟩, rfl⟩
 ·have : j = l.length := by omega
  subst this
  rw [List.take_length] at hR
  simp only [h, iaddr_node, pnode, wk3, wk, seval]
  exact .inl ⟨a, ha, hR, rfl⟩
end Go.Proofs.YtemjlopoffjmpaaGreat.Abs
set_option linter.unusedSimpArgs false
set_option linter.unusedVariables false
namespace Go.Proofs.YtemjlopoffjmpaaGreat.Abs
open Go Go.Proofs
def PartsC (path : List UInt8) (P : List (List UInt8) → Prop) (B : Prop) : Prop :=
 ∀ H, C Tryz.prog 109 [.str path] H (fun x H' => H' = H ∧ ((∃ l : List (List UInt8), P l ∧ l.length ≤ 7 ∧ x = .tuple [.fz (l.map pname), .bool true]) ∨ (B ∧ x = .tuple [.fz [], .bool false])))
theorem find_spec {path : List UInt8} {P : List (List UInt8) → Prop} {B : Prop} (hp : PartsC path P B) (s : List Node) (hs : s.length ≤ 1000000) (h0s : 0 < s.length) (H : AH) :
 C Tryz.prog 112 [aset s, .str path] H (fun x H' => H' = H ∧ ((∃ l, P l ∧ ∃ k : Nat, k < s.length ∧ downR s l 0 k ∧ x = .tuple [.int .i64 k, .int .i64 0]) ∨ ∃ e : Int, e ≠ 0 ∧ (B ∨ ∃ l, P l ∧ downF s l) ∧ x = .tuple [.int .i64 0, .int .i64 e])) := by
 refine C_body d112 rfl (WT_ok ?_)
 delta c112 I0 I1 I2 I3 I4 I5 I6 I7 I8 I9 KI
 simp only [aset, iaddr_node, pnode, wk3, wk, seval]
 refine CT_ok (hp H) ?_
 rintro _ H ⟨rfl, ⟨l, hl, hlen, rfl⟩ | ⟨hB, rfl⟩⟩
 ·simp only [iaddr_node, pnode, wk3, wk, seval]
  refine CT_ok (down_spec s hs h0s l (by omega) H) ?_
  rintro _ H ⟨rfl, ⟨k, hk, hR, rfl⟩ | ⟨e, he, hF, rfl⟩⟩
  ·simp only [iaddr_node, pnode, wk3, wk, seval]
   exact .inl ⟨l, hl, k, hk, hR, rfl⟩
  ·simp only [iaddr_node, pnode, wk3, wk, seval]
   exact .inr ⟨e, he, .inr ⟨l, hl, hF⟩, rfl⟩
 ·simp only [iaddr_node, pnode, wk3, wk, seval]
  exact .inr ⟨1, by omega, .inl hB, rfl⟩
theorem file_spec {path : List UInt8} {P : List (List UInt8) → Prop} {B : Prop} (hp : PartsC path P B) (s : List Node) (hs : s.length ≤ 1000000) (h0s : 0 < s.length) (H : AH) :
 C Tryz.prog 82 [aset s, .str path] H (fun x H' => H' = H ∧ ((∃ l, P l ∧ ∃ k : Nat, k < s.length ∧ downR s l 0 k ∧ (s.getD k default).kind ≠ 2 ∧ x = .tuple [.int .i64 k, .int .i64 0]) ∨
   ∃ e : Int, e ≠ 0 ∧ (B ∨ (∃ l, P l ∧ downF s l) ∨ ∃ l, P l ∧ ∃ k : Nat, k < s.length ∧ downR s l 0 k ∧ (s.getD k default).kind = 2) ∧ x = .tuple [.int .i64 0, .int .i64 e])) := by
 refine C_body d82 rfl (WT_ok ?_)
 delta c82 I0 I1 I2 I3 I4 I5 I6 I7 I8 I9 KI
 simp only [aset, iaddr_node, pnode, wk3, wk, seval]
 refine CT_ok (find_spec hp s hs h0s H) ?_
 rintro _ H ⟨rfl, ⟨l, hl, k, hk, hR, rfl⟩ | ⟨e, he, hF, rfl⟩⟩
 ·have h1 : (0 : Int) ≤ k := by omega
  have h2 : (k : Int) < s.length := by omega
  simp only [h1, h2, iaddr_node, pnode, wk3, wk, seval]
  refine guard_both ?_ ?_ <;> intro h3 <;> simp only [hy] at h3 <;> simp only [h3, iaddr_node, pnode, wk3, wk, seval]
  ·exact .inr ⟨4, by omega, .inr (.inr ⟨l, hl, k, hk, hR, h3⟩), rfl⟩
  ·exact .inl ⟨l, hl, k, hk, hR, h3, rfl⟩
 ·simp only [he, iaddr_node, pnode, wk3, wk, seval]
  refine .inr ⟨e, he, ?_, rfl⟩
  rcases hF with h | h
  ·exact .inl h
  ·exact .inr (.inl h)
theorem slicel_names (H : AH) (fr : List AV) (l : List (List UInt8)) (x : Opd) (n : Nat) (hn : n ≤ l.length) (h0 : evalA fr x = .fz (l.map pname)) (lo hi : Option Opd) (hlo : bnd (evalA fr) lo 0 n = some 0) (hhi : bnd (evalA fr) hi l.length l.length = some n) :
 aop0 (.slicel 1 x lo hi) (evalA fr) H = some (.fz ((l.take n).map pname)) := by
 simp only [aop0, h0, List.length_map, hhi, hlo, List.drop_zero]
 rw [if_pos, List.map_take]
 rw [List.all_eq_true]
 intro e he
 obtain ⟨y, _, rfl⟩ := List.mem_map.1 (List.mem_of_mem_take he)
 rfl
theorem RT_slicel_names {P : Program} (d : Option Nat) (rest : List AInstr) (K : List AV → AH → Prop) (fr : List AV) (H : AH) (l : List (List UInt8)) (x hi : Opd) (k : IntKind) (n : Nat) (hn : n ≤ l.length) (h0 : evalA fr x = .fz (l.map pname)) (h1 : evalA fr hi = .int k (n : Int)) (t u)
 (h : RT P rest K (setA fr d (.fz ((l.take n).map pname))) H .mk .mk) : RT P (⟨d, none, .slicel 1 x none (some hi)⟩ :: rest) K fr H t u := by
 have e := slicel_names H fr l x n hn h0 none (some hi) rfl (by simp only [bnd, h1, Int.toNat_natCast]; rw [if_pos (by omega)])
 show RA P _ K fr H
 unfold RA
 show onSome (aop (.slicel 1 x none (some hi)) (evalA fr) H) _
 unfold aop
 rw [e]
 exact h
theorem place_spec {path : List UInt8} {P : List (List UInt8) → Prop} {B : Prop} (hp : PartsC path P B) (s : List Node) (hs : s.length ≤ 1000000) (h0s : 0 < s.length) (H : AH) :
 C Tryz.prog 78 [aset s, .str path] H (fun x H' => H' = H ∧ ((∃ l a, P (l ++ [a]) ∧ ∃ k : Nat, k < s.length ∧ downR s l 0 k ∧ (s.getD k default).kind = 2 ∧ x = .tuple [.int .i64 k, .str a, .int .i64 0]) ∨
   ∃ e : Int, e ≠ 0 ∧ x = .tuple [.int .i64 0, .str [], .int .i64 e])) := by
 refine C_body d78 rfl (WT_ok ?_)
 delta c78 I0 I1 I2 I3 I4 I5 I6 I7 I8 I9 KI
 simp only [aset, iaddr_node, pnode, wk3, wk, seval]
 refine CT_ok (hp H) ?_
 rintro _ H ⟨rfl, ⟨l, hl, hlen, rfl⟩ | ⟨hB, rfl⟩⟩
 ·simp only [iaddr_node, pnode, wk3, wk, seval]
  refine guard_both ?_ ?_ <;> intro h3 <;> simp only [hy] at h3
  ·simp only [h3, iaddr_node, pnode, wk3, wk, seval]
   exact .inr ⟨1, by omega, rfl⟩
  ·have hl0 : 0 < l.length := by omega
   have w1 : IntKind.i64.wrap ((l.length : Int) - 1) = ((l.length - 1 : Nat) : Int) := by rw [IntWalk.i64_in _ (by omega)]; omega
   have hsplit : l = l.take (l.length - 1) ++ [l.getD (l.length - 1) default] := by
    rw [List.getD_eq_getElem?_getD, List.getElem?_eq_getElem (by omega), Option.getD_some]
    have := List.take_append_drop (l.length - 1) l
    rw [List.drop_eq_getElem_cons (by omega), List.drop_eq_nil_of_le (by omega)] at this
    exact this.symm
   simp only [h3, w1, iaddr_node, pnode, wk3, wk, seval]
   refine RT_slicel_names _ _ _ _ _ l _ _ _ (l.length - 1) (by omega) rfl rfl _ _ ?_
   simp only [h3, w1, iaddr_node, pnode, wk3, wk, seval]
   refine CT_ok (down_spec s hs h0s (l.take (l.length - 1)) (by simp; omega) H) ?_
   rintro _ H ⟨rfl, ⟨k, hk, hR, rfl⟩ | ⟨e, he, hF, rfl⟩⟩
   ·have h1 : (0 : Int) ≤ k := by omega
    have h2 : (k : Int) < s.length := by omega
    have h2' : ¬ (s.length : Int) ≤ k := by omega
    have h4 : (0 : Int) ≤ ((l.length - 1 : Nat) : Int) := by omega
    have h5 : ((l.length - 1 : Nat) : Int) < l.length := by omega
    simp only [h1, h2, h2', iaddr_node, pnode, wk3, wk, seval]
    refine guard_both ?_ ?_ <;> intro h6 <;> simp only [hy] at h6
    ·simp only [h6, iaddr_node, pnode, wk3, wk, seval]
     exact .inr ⟨5, by omega, rfl⟩
    ·simp only [h6, iaddr_node, pnode, wk3, wk, seval]
     refine WT_draw ?_
     simp only [w1, h4, h5, iaddr_name, pname, iaddr_node, pnode, wk3, wk, seval]
     refine .inl ⟨l.take (l.length - 1), _, ?_, k, hk, hR, by simpa using h6, rfl⟩
     rw [← hsplit]; exact hl
   ·simp only [he, iaddr_node, pnode, wk3, wk, seval]
    exact .inr ⟨e, he, rfl⟩
 ·simp only [iaddr_node, pnode, wk3, wk, seval]
  exact .inr ⟨1, by omega, rfl⟩
end Go.Proofs.YtemjlopoffjmpaaGreat.Abs
set_option linter.unusedSimpArgs false
set_option linter.unusedVariables false
namespace Go.Proofs.YtemjlopoffjmpaaGreat.Abs
open Go Go.Proofs
def itUp (s : List Node) : Nat → Nat → Nat
 | 0, i => i
 | m + 1, i => itUp s m (s.getD i default).up.toNat
theorem itUp_succ (s : List Node) : ∀ (m i : Nat), itUp s (m + 1) i = (s.getD (itUp s m i) default).up.toNat
 | 0, _ => rfl
 | m + 1, i => itUp_succ s m _
theorem itUp_add (s : List Node) : ∀ (m n i : Nat), itUp s (m + n) i = itUp s n (itUp s m i)
 | 0, n, i => by rw [Nat.zero_add]; rfl
 | m + 1, n, i => by rw [show m + 1 + n = (m + n) + 1 by omega]; exact itUp_add s m n _
theorem Wf.up8 {s : List Node} (h : Wf s) {i : Nat} (hi : i < 8) : (s.getD i default).up.toNat < 8 := by have := h.upD i (by have := h.len; omega); omega
theorem Wf.itUp0 {s : List Node} (h : Wf s) : ∀ m, itUp s m 0 = 0
 | 0 => rfl
 | m + 1 => by show itUp s m (s.getD 0 default).up.toNat = 0; rw [h.top]; exact h.itUp0 m
theorem Wf.itUp8 {s : List Node} (h : Wf s) : ∀ (m : Nat) {i : Nat}, i < 8 → itUp s m i < 8
 | 0, _, hi => hi
 | m + 1, _, hi => h.itUp8 m (h.up8 hi)
theorem Wf.upk {s : List Node} (h : Wf s) {i : Nat} (hi : i < 8) (hk : (s.getD i default).kind ≠ 0) : (s.getD (s.getD i default).up.toNat default).kind = 2 := by
 by_cases h0 : i = 0
 ·subst h0; rw [h.top]; exact h.root2
 ·exact (h.ok i (by omega) hi).upf hk
theorem Wf.itUpk {s : List Node} (h : Wf s) : ∀ (m : Nat) {i : Nat}, i < 8 → (s.getD i default).kind ≠ 0 → (s.getD (itUp s m i) default).kind ≠ 0
 | 0, _, _, hk => hk
 | m + 1, _, hi, hk => h.itUpk m (h.up8 hi) (by rw [h.upk hi hk]; decide)
theorem Wf.climb {s : List Node} (h : Wf s) {i : Nat} (hi : i < 8) (hk : (s.getD i default).kind ≠ 0) : itUp s 8 i = 0 := by
 obtain ⟨r0, hr0⟩ := h.tree
 obtain ⟨r, hr8, hr⟩ := rank8 r0 h.len (fun i hi => h.up8 hi) hr0
 have g : ∀ m, itUp s m i = 0 ∨ r (itUp s m i) + m ≤ r i := by
  intro m
  induction m with
  | zero => right; exact Nat.le_refl _
  | succ m ih =>
    rcases ih with ih | ih
    ·left; rw [itUp_succ, ih, h.top]; rfl
    ·by_cases h0 : itUp s m i = 0
     ·left; rw [itUp_succ, h0, h.top]; rfl
     ·right
      rw [itUp_succ]
      have := hr (itUp s m i) (by omega) (h.itUp8 m hi) (h.itUpk m hi hk)
      omega
 rcases g 8 with e | e
 ·exact e
 ·have := hr8 i hi; omega
theorem withA_nat (s : List Node) (n : Nat) (x : Node) : withA s n x = s.set n x := by
 unfold withA
 rw [if_pos (by omega), Int.toNat_natCast]
theorem Wf.kidOf {s : List Node} (h : Wf s) {i : Nat} {n : Int} (h1 : 1 ≤ i) (hi : i < 8) (hk : (s.getD i default).kind ≠ 0) (hu : (s.getD i default).up = n) : kid s n i :=
 ⟨h1, by have := h.len; omega, by rcases (h.ok i h1 hi).kinds with e | e; exact absurd e hk; exact e, hu⟩
theorem make_wf {s : List Node} (h : Wf s) {kind : Int} {up n : Nat} {a : List UInt8} (hup : up < 8) (hk2 : (s.getD up default).kind = 2) (hno : ∀ k, kid s up k → (s.getD k default).name ≠ a) (hn : n < 8) (hn0 : (s.getD n default).kind = 0) (hk : kind = 1 ∨ kind = 2) (ha : mayN a = true) :
 Wf (withA s n ⟨kind, up, a, [], 0⟩) := by
 rw [withA_nat]
 have hn1 : 1 ≤ n := by
  rcases Nat.eq_zero_or_pos n with e | e
  ·subst e; exact absurd hn0 h.root
  ·exact e
 have hk0 : kind ≠ 0 := by omega
 have hne : up ≠ n := by rintro rfl; omega
 have nou : ∀ i, 1 ≤ i → i < 8 → (s.getD i default).kind ≠ 0 → (s.getD i default).up.toNat ≠ n := fun i h1 h8 hki e => by
  have := h.upk h8 hki; rw [e] at this; omega
 obtain ⟨r, hr⟩ := h.tree
 refine h.put hn1 hn (x := ⟨kind, up, a, [], 0⟩) ⟨rfl, .inr hk, fun e => absurd e hk0, fun _ => rfl, fun _ => ha, ⟨by show (0 : Int) ≤ up; omega, by show (up : Int) < 8; omega⟩, fun _ => hk2, by show 0 ≤ 128; omega⟩ (fun _ => .inl hne) (.inr fun i h1 h8 _ hki => nou i h1 h8 hki) ?_ (fun i => if i = n then r up + 1 else r i) ?_ ?_
 ·intro _ i h1 h8 _ hki hu hnm
  exact hno i (h.kidOf h1 h8 hki hu) hnm
 ·intro i h1 h8 hin hki
  show (if _ then _ else _) < (if _ then _ else _)
  rw [if_neg (nou i h1 h8 hki), if_neg hin]
  exact hr i h1 h8 hki
 ·intro _
  show (if (up : Int).toNat = n then r up + 1 else r (up : Int).toNat) < (if n = n then r up + 1 else r n)
  rw [Int.toNat_natCast, if_neg hne, if_pos rfl]
  omega
theorem drop_wf {s : List Node} (h : Wf s) {k : Nat} (hk1 : k ≠ 0) (hk : k < 8) (hno : ∀ i, ¬ kid s k i) : Wf (withA s k ⟨0, 0, [], [], 0⟩) := by
 rw [withA_nat]
 obtain ⟨r, hr⟩ := h.tree
 refine h.put (by omega) hk (x := ⟨0, 0, [], [], 0⟩) ⟨rfl, .inl rfl, fun _ => rfl, fun e => absurd e (by decide), fun e => absurd rfl e, ⟨by decide, by decide⟩, fun e => absurd rfl e, by show 0 ≤ 128; omega⟩ (fun e => absurd rfl e) (.inr fun i h1 h8 _ hki e => ?_) (fun e => absurd rfl e) r (fun i h1 h8 _ hki => hr i h1 h8 hki) (fun e => absurd rfl e)
 have := h.upD i (by have := h.len; omega)
 exact hno i (h.kidOf h1 h8 hki (by omega))
theorem body_wf {s : List Node} (h : Wf s) {k : Nat} (hk : k < 8) (hk2 : (s.getD k default).kind ≠ 2) (hk0 : (s.getD k default).kind ≠ 0) {y : List UInt8} (hy : y.length ≤ 128) : Wf (withA s k ⟨(s.getD k default).kind, (s.getD k default).up, (s.getD k default).name, y, (s.getD k default).bad⟩) := by
 rw [withA_nat]
 have hk1 : k ≠ 0 := by rintro rfl; exact hk2 h.root2
 have o := h.ok k (by omega) hk
 obtain ⟨r, hr⟩ := h.tree
 refine h.put (by omega) hk (x := ⟨(s.getD k default).kind, (s.getD k default).up, (s.getD k default).name, y, (s.getD k default).bad⟩) ⟨o.bad, o.kinds, fun e => absurd e hk0, fun e => absurd e hk2, o.name, o.up, o.upf, hy⟩ (fun _ => .inl fun e => ?_) (.inr fun i h1 h8 _ hki e => ?_) (fun _ i h1 h8 hik hki hu hnm => ?_) r (fun i h1 h8 _ hki => hr i h1 h8 hki) (fun _ => hr k (by omega) hk hk0)
 ·have := h.upk hk hk0
  rw [show (s.getD k default).up.toNat = k from e] at this; exact hk2 this
 ·have := h.upk h8 hki
  rw [e] at this; exact hk2 this
 ·exact hik (h.uniq i k h1 h8 (by omega) hk hki hk0 hu hnm)
open Classical in
theorem move_wf {s : List Node} (h : Wf s) {k up : Nat} {a : List UInt8} (hk1 : k ≠ 0) (hk : k < 8) (hk0 : (s.getD k default).kind ≠ 0) (hup : up < 8) (hk2 : (s.getD up default).kind = 2) (hno : ∀ k, kid s up k → (s.getD k default).name ≠ a) (ha : mayN a = true)
 (hin : ∀ m, itUp s m up ≠ k) : Wf (withA s k ⟨(s.getD k default).kind, up, a, (s.getD k default).body, (s.getD k default).bad⟩) := by
 rw [withA_nat]
 have o := h.ok k (by omega) hk
 have hne : up ≠ k := hin 0
 obtain ⟨r, hr⟩ := h.tree
 refine h.put (by omega) hk (x := ⟨(s.getD k default).kind, up, a, (s.getD k default).body, (s.getD k default).bad⟩) ⟨o.bad, o.kinds, fun e => absurd e hk0, o.fold, fun _ => ha, ⟨by show (0 : Int) ≤ up; omega, by show (up : Int) < 8; omega⟩, fun _ => hk2, o.body⟩ (fun _ => .inl hne) ?_ ?_ (fun i => if (∃ m, itUp s m i = k) then r up + 1 + r i else r i) ?_ ?_
 ·by_cases e : (s.getD k default).kind = 2
  ·exact .inl e
  ·refine .inr fun i h1 h8 _ hki e2 => ?_
   have := h.upk h8 hki
   rw [e2] at this; exact e this
 ·intro _ i h1 h8 _ hki hu hnm
  exact hno i (h.kidOf h1 h8 hki hu) hnm
 ·intro i h1 h8 hik hki
  have hri := hr i h1 h8 hki
  have e : (∃ m, itUp s m (s.getD i default).up.toNat = k) ↔ ∃ m, itUp s m i = k := by
   constructor
   ·rintro ⟨m, hm⟩; exact ⟨m + 1, hm⟩
   ·rintro ⟨m, hm⟩
    cases m with
    | zero => exact absurd hm hik
    | succ m => exact ⟨m, hm⟩
  show (if _ then _ else _) < (if _ then _ else _)
  by_cases g : ∃ m, itUp s m i = k
  ·rw [if_pos (e.2 g), if_pos g]; omega
  ·rw [if_neg (fun h => g (e.1 h)), if_neg g]; exact hri
 ·intro _
  have g : ¬ ∃ m, itUp s m up = k := fun ⟨m, hm⟩ => hin m hm
  show (if ∃ m, itUp s m up = k then _ else r up) < (if _ then _ else _)
  rw [if_neg g, if_pos ⟨0, rfl⟩]; omega
end Go.Proofs.YtemjlopoffjmpaaGreat.Abs
set_option linter.unusedSimpArgs false
set_option linter.unusedVariables false
namespace Go.Proofs.YtemjlopoffjmpaaGreat.Abs
open Go Go.Proofs
theorem there_nat {s : List Node} {n : Nat} (hn : n < s.length) (hk : (s.getD n default).kind ≠ 0) : there s n = true := by
 unfold there
 rw [Bool.and_eq_true]
 exact ⟨decide_eq_true ⟨by omega, by omega⟩, decide_eq_true (by rw [Int.toNat_natCast]; exact hk)⟩
theorem within_spec (s : List Node) (hw : Wf s) (n top : Nat) (hn : n < s.length) (hnk : (s.getD n default).kind ≠ 0) (ht : top < s.length) (htk : (s.getD top default).kind ≠ 0) (H : AH) :
 C Tryz.prog 126 [aset s, .int .i64 n, .int .i64 top] H (fun x H' => ∃ b, x = .bool b ∧ (b = true ↔ ∃ m, itUp s m n = top) ∧ H' = H) := by
 have hlen := hw.len
 have t1 := there_nat hn hnk
 have t2 := there_nat ht htk
 refine C_body d126 rfl (WT_ok ?_)
 delta c126 I0 I1 I2 I3 I4 I5 I6 I7 I8 I9 KI
 simp only [aset, iaddr_node, pnode, wk3, wk, seval]
 refine CT_ok (there_spec s n H) ?_
 rintro _ H ⟨rfl, rfl⟩
 simp only [t1, iaddr_node, pnode, wk3, wk, seval]
 refine CT_ok (there_spec s top H) ?_
 rintro _ H ⟨rfl, rfl⟩
 simp only [t2, iaddr_node, pnode, wk3, wk, seval]
 refine WT_loop (W_wk (fr' := [.fz (s.map pnode), .int .i64 n, .int .i64 top, .top, .top, .top, .bool false, .int .i64 0] ++ List.replicate 33 .top) (Wk_tops ?_) (W_loop (fun nn fr H' => ∃ (k : Nat), k ≤ s.length ∧ nn = s.length - k ∧ (∀ j, j < k → itUp s j n ≠ top ∧ itUp s j n ≠ 0) ∧ H' = H ∧ fr = [.fz (s.map pnode), .int .i64 (itUp s k n : Nat), .int .i64 top, .top, .top, .top, .bool false, .int .i64 k] ++ List.replicate 33 .top) s.length ⟨0, by omega, rfl, fun j hj => by omega, rfl, rfl⟩ ?_))
 ·simp only [tp]
 rintro nn fr H ⟨k, hk, rfl, hj, rfl, rfl⟩
 refine WT_ok ?_
 simp only [iaddr_node, pnode, wk3, wk, seval]
 have ha : itUp s k n < 8 := hw.itUp8 k (by omega)
 have g1 : (0 : Int) ≤ (itUp s k n : Nat) := by omega
 have g2 : ((itUp s k n : Nat) : Int) < s.length := by omega
 have w2 : IntKind.i64.wrap ((k : Int) + 1) = (k : Int) + 1 := IntWalk.i64_in _ (by omega)
 have fin : (itUp s k n = 0 ∨ k = 8) → itUp s k n ≠ top → ¬ ∃ m, itUp s m n = top := by
  rintro h0 h1 ⟨m, hm⟩
  rcases Nat.lt_or_ge m k with h | h
  ·exact (hj m h).1 hm
  ·have e := itUp_add s k (m - k) n
   rw [show k + (m - k) = m by omega, hm] at e
   have z : itUp s k n = 0 := by
    rcases h0 with h0 | h0
    ·exact h0
    ·subst h0; exact hw.climb (by omega) hnk
   rw [z, hw.itUp0] at e
   omega
 refine guard_both ?_ ?_ <;> intro h3 <;> simp only [hy] at h3
 ·simp only [h3, iaddr_node, pnode, wk3, wk, seval]
  refine guard_both ?_ ?_ <;> intro h4 <;> simp only [hy] at h4
  ·simp only [h3, h4, iaddr_node, pnode, wk3, wk, seval]
   refine guard_both ?_ ?_ <;> intro h5 <;> simp only [hy] at h5
   ·simp only [h3, h4, h5, g1, g2, w2, iaddr_node, pnode, wk3, wk, seval]
    have hu := hw.upD (itUp s k n) (by omega)
    refine QLoop_go (n' := s.length - (k + 1)) (by omega) ⟨k + 1, by omega, rfl, fun j h => ?_, rfl, rfl⟩ ?_
    ·rcases Nat.lt_or_ge j k with h' | h'
     ·exact hj j h'
     ·have : j = k := by omega
      subst this
      exact ⟨by omega, by omega⟩
    ·have e : ((itUp s (k + 1) n : Nat) : Int) = (s.getD (itUp s k n) default).up := by rw [itUp_succ]; omega
     simp only [e, tq]
   ·simp only [h3, h4, h5, iaddr_node, pnode, wk3, wk, seval]
    refine ⟨_, rfl, ?_⟩
    have := fin (.inl (by omega)) (by omega)
    simp only [decide_eq_true_eq]
    exact ⟨fun e => absurd (by omega) h4, fun e => absurd e this⟩
  ·simp only [h3, h4, iaddr_node, pnode, wk3, wk, seval]
   exact ⟨_, rfl, ⟨fun _ => ⟨k, by omega⟩, fun _ => by simp⟩⟩
 ·simp only [h3, iaddr_node, pnode, wk3, wk, seval]
  refine ⟨_, rfl, ?_⟩
  simp only [decide_eq_true_eq]
  exact ⟨fun e => ⟨k, by omega⟩, fun e => Classical.byContradiction fun g => fin (.inr (by omega)) (by omega) e⟩
theorem make_spec {path : List UInt8} {P : List (List UInt8) → Prop} {B : Prop} (hp : PartsC path P B) (s : List Node) (hs : s.length ≤ 1000000) (h0s : 0 < s.length) (kind : Int) (H : AH) :
 C Tryz.prog 41 [aset s, .str path, .int .i64 kind] H (fun x H' => H' = H ∧ ((∃ e : Int, e ≠ 0 ∧ x = .tuple [aset s, .int .i64 e]) ∨
   ∃ l a up n, P (l ++ [a]) ∧ up < s.length ∧ downR s l 0 up ∧ (s.getD up default).kind = 2 ∧ (∀ k, kid s up k → (s.getD k default).name ≠ a) ∧ n < s.length ∧ (s.getD n default).kind = 0 ∧ (kind = 1 ∨ kind = 2) ∧ x = .tuple [aset (withA s n ⟨kind, up, a, [], 0⟩), .int .i64 0])) := by
 refine C_body d41 rfl (WT_ok ?_)
 delta c41 I0 I1 I2 I3 I4 I5 I6 I7 I8 I9 KI
 simp only [aset, iaddr_node, pnode, wk3, wk, seval]
 by_cases hk : kind = 1 ∨ kind = 2
 ·rcases hk with rfl | rfl
  all_goals
   simp only [iaddr_node, pnode, wk3, wk, seval]
   refine CT_ok (place_spec hp s hs h0s H) ?_
   rintro _ H ⟨rfl, ⟨l, a, hl, up, hup, hR, hk2, rfl⟩ | ⟨e, he, rfl⟩⟩
   ·simp only [iaddr_node, pnode, wk3, wk, seval]
    refine CT_ok (kid_spec s hs up a H) ?_
    rintro _ H ⟨rfl, ⟨k, hk, hnm, rfl⟩ | ⟨rfl, hno⟩⟩
    ·simp only [iaddr_node, pnode, wk3, wk, seval]
     exact .inl ⟨3, by omega, rfl⟩
    ·simp only [iaddr_node, pnode, wk3, wk, seval]
     refine CT_ok (free_spec s hs H) ?_
     rintro _ H ⟨rfl, ⟨n, hn, hn0, rfl⟩ | rfl⟩
     ·simp only [iaddr_node, pnode, wk3, wk, seval]
      refine CT_ok (with_spec s hs n ⟨_, up, a, [], 0⟩ H) ?_
      rintro _ H ⟨rfl, rfl⟩
      simp only [iaddr_node, pnode, wk3, wk, seval]
      exact .inr ⟨l, a, up, n, hl, hup, hR, hk2, hno, hn, hn0, by simp, rfl⟩
     ·simp only [iaddr_node, pnode, wk3, wk, seval]
      exact .inl ⟨8, by omega, rfl⟩
   ·simp only [he, iaddr_node, pnode, wk3, wk, seval]
    exact .inl ⟨e, he, rfl⟩
 ·have h1 : ¬ kind = 1 := fun e => hk (.inl e)
  have h2 : ¬ kind = 2 := fun e => hk (.inr e)
  simp only [h1, h2, iaddr_node, pnode, wk3, wk, seval]
  exact .inl ⟨1, by omega, rfl⟩
end Go.Proofs.YtemjlopoffjmpaaGreat.Abs
set_option linter.unusedSimpArgs false
set_option linter.unusedVariables false
namespace Go.Proofs.YtemjlopoffjmpaaGreat.Abs
open Go Go.Proofs
def NextW (s : List Node) (x : AV) : Prop := ∃ (t : List Node) (e : Int), Wf t ∧ x = .tuple [aset t, .int .i64 e]
theorem KWk_bare {K : AV → AH → Prop} {x : AV} {H : AH} (hx : bare x = true) (hk : K x []) : KWk 0 K x H := by
 refine ⟨x, [], ?_, hk⟩
 have := Wk_forget (n0 := 0) (fr := [x]) (H := H) 0 (Nat.le_refl _)
 rw [renL_bare _ _ (by simp [bareL, hx])] at this
 simpa [mapH] using this
theorem bare_next (t : List Node) (e : Int) : bare (.tuple [aset t, .int .i64 e]) = true := by simp [bare, bareL, aset]
theorem next_pure {f : FuncId} {args : List AV} {s : List Node} (h : C Tryz.prog f args [] (fun x H' => NextW s x ∧ H' = [])) (ha : bareL args = true) (H : AH) : C Tryz.prog f args H (fun x H' => H' = H ∧ NextW s x) :=
 (C_pure (K0 := fun x => NextW s x) h (fun τ => renL_bare τ _ ha) (by rintro x ⟨t, e, _, rfl⟩ τ; exact ren_bare τ _ (bare_next t e)) H).mono fun x H' h => ⟨h.2, h.1⟩
theorem downR_some {s : List Node} (h : Wf s) : ∀ {l : List (List UInt8)} {k : Nat}, downR s l 0 k → (s.getD k default).kind ≠ 0 := by
 have g : ∀ (l : List (List UInt8)) (a k : Nat), (s.getD a default).kind ≠ 0 → downR s l a k → (s.getD k default).kind ≠ 0 := by
  intro l
  induction l with
  | nil => intro a k ha hR; simp only [downR] at hR; subst hR; exact ha
  | cons x l ih =>
    rintro a k ha ⟨_, m, hm, _, hR⟩
    refine ih m k ?_ hR
    rcases hm.2.2.1 with e | e <;> rw [e] <;> decide
 exact fun {l k} => g l 0 k h.root
theorem drop_spec {path : List UInt8} {P : List (List UInt8) → Prop} {B : Prop} (hp : PartsC path P B) (s : List Node) (hw : Wf s) (H : AH) :
 C Tryz.prog 98 [aset s, .str path] H (fun x H' => H' = H ∧ NextW s x) := by
 have hlen := hw.len
 refine C_body d98 rfl (WT_ok ?_)
 delta c98 I0 I1 I2 I3 I4 I5 I6 I7 I8 I9 KI
 simp only [aset, iaddr_node, pnode, wk3, wk, seval]
 refine CT_ok (find_spec hp s (by omega) (by omega) H) ?_
 rintro _ H ⟨rfl, ⟨l, hl, k, hk, hR, rfl⟩ | ⟨e, he, hF, rfl⟩⟩
 ·simp only [iaddr_node, pnode, wk3, wk, seval]
  refine guard_both ?_ ?_ <;> intro h3 <;> simp only [hy] at h3
  ·simp only [h3, iaddr_node, pnode, wk3, wk, seval]
   exact ⟨s, 4, hw, rfl⟩
  ·simp only [h3, iaddr_node, pnode, wk3, wk, seval]
   refine CT_ok (kids_spec s (by omega) k H) ?_
   rintro _ H ⟨⟨l2, rfl, hl2, hll2⟩, rfl⟩
   simp only [iaddr_node, pnode, wk3, wk, seval]
   refine guard_both ?_ ?_ <;> intro h4 <;> simp only [hy] at h4
   ·simp only [h4, iaddr_node, pnode, wk3, wk, seval]
    exact ⟨s, 6, hw, rfl⟩
   ·simp only [h4, iaddr_node, pnode, wk3, wk, seval]
    refine CT_ok (with_spec s (by omega) k ⟨0, 0, [], [], 0⟩ H) ?_
    rintro _ H ⟨rfl, rfl⟩
    simp only [iaddr_node, pnode, wk3, wk, seval]
    refine ⟨_, 0, drop_wf hw (by omega) (by omega) (fun i hi => ?_), rfl⟩
    have := (hl2 i).2 hi
    have : l2 = [] := by
     have : ¬ 0 < l2.length := by omega
     exact List.eq_nil_of_length_eq_zero (by omega)
    subst this; cases (hl2 i).2 hi
 ·simp only [he, iaddr_node, pnode, wk3, wk, seval]
  exact ⟨s, e, hw, rfl⟩
theorem move_spec0 {path path2 : List UInt8} {P P' : List (List UInt8) → Prop} {B B' : Prop} (hp : PartsC path P B) (hp' : PartsC path2 P' B') (hP : ∀ l, P' l → ∀ x ∈ l, mayN x = true) (s : List Node) (hw : Wf s) :
 C Tryz.prog 99 [aset s, .str path, .str path2] [] (fun x H' => NextW s x ∧ H' = []) := by
 have hlen := hw.len
 refine C_body' d99 rfl (WT_ok ?_)
 delta c99 I0 I1 I2 I3 I4 I5 I6 I7 I8 I9 KI
 simp only [aset, iaddr_node, pnode, wk3, wk, seval]
 refine CT_ok (find_spec hp s (by omega) (by omega) []) ?_
 rintro _ _ ⟨rfl, ⟨l0, hl0, k, hk, hR0, rfl⟩ | ⟨e, he, hF, rfl⟩⟩
 ·simp only [iaddr_node, pnode, wk3, wk, seval]
  refine guard_both ?_ ?_ <;> intro h3 <;> simp only [hy] at h3
  ·simp only [h3, iaddr_node, pnode, wk3, wk, seval]
   exact KWk_bare (bare_next s _) ⟨⟨s, _, hw, rfl⟩, rfl⟩
  ·simp only [h3, iaddr_node, pnode, wk3, wk, seval]
   refine CT_ok (place_spec hp' s (by omega) (by omega) []) ?_
   rintro _ _ ⟨rfl, ⟨l, a, hl, up, hup, hR, hk2, rfl⟩ | ⟨e, he, rfl⟩⟩
   ·simp only [iaddr_node, pnode, wk3, wk, seval]
    have h1 : (0 : Int) ≤ k := by omega
    have h2 : (k : Int) < s.length := by omega
    refine CT_ok (kid_spec s (by omega) up a []) ?_
    rintro _ _ ⟨rfl, ⟨m, hm, hnm, rfl⟩ | ⟨rfl, hno⟩⟩
    ·simp only [iaddr_node, pnode, wk3, wk, seval]
     refine guard_both ?_ ?_ <;> intro h4 <;> simp only [hy] at h4
     ·simp only [h4, iaddr_node, pnode, wk3, wk, seval]
      exact KWk_bare (bare_next s _) ⟨⟨s, _, hw, rfl⟩, rfl⟩
     ·simp only [h4, iaddr_node, pnode, wk3, wk, seval]
      exact KWk_bare (bare_next s _) ⟨⟨s, _, hw, rfl⟩, rfl⟩
    ·simp only [iaddr_node, pnode, wk3, wk, seval]
     refine CT_ok (within_spec s hw up k hup (by omega) hk (downR_some hw hR0) []) ?_
     rintro _ _ ⟨b, rfl, hb, rfl⟩
     simp only [iaddr_node, pnode, wk3, wk, seval]
     cases b
     ·simp only [h1, h2, lay, iaddr_node, pnode, wk3, wk, seval]
      refine CT_ok (with_spec s (by omega) k ⟨(s.getD k default).kind, up, a, (s.getD k default).body, (s.getD k default).bad⟩ _) ?_
      rintro _ _ ⟨rfl, rfl⟩
      simp only [iaddr_node, pnode, wk3, wk, seval]
      have hin : ∀ m, itUp s m up ≠ k := fun m e => by
       have := hb.2 ⟨m, e⟩
       cases this
      exact KWk_bare (bare_next _ _) ⟨⟨_, _, move_wf hw (by omega) (by omega) (downR_some hw hR0) (by omega) hk2 hno (hP _ hl a (by simp)) hin, rfl⟩, rfl⟩
     ·simp only [iaddr_node, pnode, wk3, wk, seval]
      exact KWk_bare (bare_next s _) ⟨⟨s, _, hw, rfl⟩, rfl⟩
   ·simp only [he, iaddr_node, pnode, wk3, wk, seval]
    exact KWk_bare (bare_next s _) ⟨⟨s, _, hw, rfl⟩, rfl⟩
 ·simp only [he, iaddr_node, pnode, wk3, wk, seval]
  exact KWk_bare (bare_next s _) ⟨⟨s, _, hw, rfl⟩, rfl⟩
theorem move_spec {path path2 : List UInt8} {P P' : List (List UInt8) → Prop} {B B' : Prop} (hp : PartsC path P B) (hp' : PartsC path2 P' B') (hP : ∀ l, P' l → ∀ x ∈ l, mayN x = true) (s : List Node) (hw : Wf s) (H : AH) :
 C Tryz.prog 99 [aset s, .str path, .str path2] H (fun x H' => H' = H ∧ NextW s x) := next_pure (move_spec0 hp hp' hP s hw) (by simp [bareL, bare, aset]) H
theorem cut_spec0 {path : List UInt8} {P : List (List UInt8) → Prop} {B : Prop} (hp : PartsC path P B) (s : List Node) (hw : Wf s) (size : Int) :
 C Tryz.prog 100 [aset s, .str path, .int .i64 size] [] (fun x H' => NextW s x ∧ H' = []) := by
 have hlen := hw.len
 refine C_body' d100 rfl (WT_ok ?_)
 delta c100 I0 I1 I2 I3 I4 I5 I6 I7 I8 I9 KI
 simp only [aset, iaddr_node, pnode, wk3, wk, seval]
 refine CT_ok (file_spec hp s (by omega) (by omega) []) ?_
 rintro _ _ ⟨rfl, ⟨l, hl, k, hk, hR, hk2, rfl⟩ | ⟨e, he, hF, rfl⟩⟩
 ·simp only [iaddr_node, pnode, wk3, wk, seval]
  have h1 : (0 : Int) ≤ k := by omega
  have h2 : (k : Int) < s.length := by omega
  refine guard_both ?_ ?_ <;> intro h3 <;> simp only [hy] at h3
  ·simp only [h3, iaddr_node, pnode, wk3, wk, seval]
   exact KWk_bare (bare_next s _) ⟨⟨s, _, hw, rfl⟩, rfl⟩
  ·simp only [h3, iaddr_node, pnode, wk3, wk, seval]
   refine guard_both ?_ ?_ <;> intro h4 <;> simp only [hy] at h4
   ·simp only [h4, iaddr_node, pnode, wk3, wk, seval]
    exact KWk_bare (bare_next s _) ⟨⟨s, _, hw, rfl⟩, rfl⟩
   ·simp only [h1, h2, h4, lay, iaddr_node, pnode, wk3, wk, seval]
    obtain ⟨m, rfl⟩ : ∃ m : Nat, size = m := ⟨size.toNat, by omega⟩
    refine CT_ok (long_spec (s.getD k default).body m (by omega) _) ?_
    rintro _ _ ⟨rfl, rfl⟩
    simp only [lay, iaddr_node, pnode, wk3, wk, seval]
    refine CT_ok (with_spec s (by omega) k ⟨(s.getD k default).kind, (s.getD k default).up, (s.getD k default).name, longA (s.getD k default).body m, (s.getD k default).bad⟩ _) ?_
    rintro _ _ ⟨rfl, rfl⟩
    simp only [iaddr_node, pnode, wk3, wk, seval]
    exact KWk_bare (bare_next _ _) ⟨⟨_, _, body_wf hw (by omega) hk2 (downR_some hw hR) (y := longA (s.getD k default).body m) (by rw [longA_len]; omega), rfl⟩, rfl⟩
 ·simp only [he, iaddr_node, pnode, wk3, wk, seval]
  exact KWk_bare (bare_next s _) ⟨⟨s, _, hw, rfl⟩, rfl⟩
theorem cut_spec {path : List UInt8} {P : List (List UInt8) → Prop} {B : Prop} (hp : PartsC path P B) (s : List Node) (hw : Wf s) (size : Int) (H : AH) :
 C Tryz.prog 100 [aset s, .str path, .int .i64 size] H (fun x H' => H' = H ∧ NextW s x) := next_pure (cut_spec0 hp s hw size) (by simp [bareL, bare, aset]) H
end Go.Proofs.YtemjlopoffjmpaaGreat.Abs
set_option linter.unusedSimpArgs false
set_option linter.unusedVariables false
namespace Go.Proofs.YtemjlopoffjmpaaGreat.Abs
open Go Go.Proofs
def WriteR (P : List (List UInt8) → Prop) (B : Prop) (s : List Node) (off : Int) (text : List UInt8) (x : AV) : Prop :=
 (((B ∨ (∃ l, P l ∧ downF s l) ∨ ∃ l, P l ∧ ∃ k : Nat, k < s.length ∧ downR s l 0 k ∧ (s.getD k default).kind = 2) ∨ off < 0 ∨ 128 < off + text.length) ∧ ∃ e : Int, x = .tuple [aset s, .int .i64 e]) ∨ (text = [] ∧ x = .tuple [aset s, .int .i64 0]) ∨
   ∃ l, P l ∧ ∃ k : Nat, k < s.length ∧ downR s l 0 k ∧ (s.getD k default).kind ≠ 2 ∧ ∃ y, (y.length ≤ 128 ∧ (off = 0 → (s.getD k default).body = [] → y = text)) ∧ x = .tuple [aset (withA s k ⟨(s.getD k default).kind, (s.getD k default).up, (s.getD k default).name, y, (s.getD k default).bad⟩), .int .i64 0]
theorem slicel_own (H : AH) (fr : List AV) (r n : Nat) (x lo : Opd) (k : IntKind) (o : Nat) (ho : o < n) (h0 : evalA fr x = .own r 1 0 n n) (h1 : evalA fr lo = .int k (o : Int)) (hr : (liveO H r n).isSome = true) :
 aop0 (.slicel 1 x (some lo) none) (evalA fr) H = some (.own r 1 o (n - o) n) := by
 obtain ⟨ob, hob⟩ := Option.isSome_iff_exists.1 hr
 have hb : bnd (evalA fr) (some lo) 0 n = some o := by
  simp only [bnd, h1, Int.toNat_natCast]
  rw [if_pos (by omega)]
 have hb2 : bnd (evalA fr) none n (n - 0) = some n := rfl
 simp only [aop0, h0, hob]
 rw [if_pos ⟨Nat.zero_le _, trivial⟩]
 simp only [hb2, hb]
 by_cases h : o = 0
 ·subst h; simp
 ·rw [if_neg h, if_neg (by omega), Nat.zero_add]
theorem RT_slicel_own {P : Program} (d : Option Nat) (rest : List AInstr) (K : List AV → AH → Prop) (fr : List AV) (H : AH) (r n : Nat) (x lo : Opd) (k : IntKind) (o : Nat) (ho : o < n) (h0 : evalA fr x = .own r 1 0 n n) (h1 : evalA fr lo = .int k (o : Int)) (hr : (liveO H r n).isSome = true) (t u)
 (h : RT P rest K (setA fr d (.own r 1 o (n - o) n)) H .mk .mk) : RT P (⟨d, none, .slicel 1 x (some lo) none⟩ :: rest) K fr H t u := by
 have e := slicel_own H fr r n x lo k o ho h0 h1 hr
 show RA P _ K fr H
 unfold RA
 show onSome (aop (.slicel 1 x (some lo) none) (evalA fr) H) _
 unfold aop
 rw [e]
 exact h
def overA (b : List UInt8) (o : Nat) (t : List UInt8) : List UInt8 := b.take o ++ t ++ b.drop (o + t.length)
theorem overA_len (b : List UInt8) (o : Nat) (t : List UInt8) (h : o + t.length ≤ b.length) : (overA b o t).length = b.length := by
 unfold overA; simp only [List.length_append, List.length_take, List.length_drop]; omega
theorem over_cells (b : List UInt8) (o : Nat) (t : List UInt8) : List.take o (b.map fun b => [AV.int .u8 b.toNat]) ++ List.take t.length (t.map fun b => [AV.int .u8 b.toNat]) ++ List.drop (o + t.length) (b.map fun b => [AV.int .u8 b.toNat]) = (overA b o t).map fun b => [AV.int .u8 b.toNat] := by
 unfold overA
 rw [List.take_of_length_le (l := t.map _) (by simp)]
 simp only [List.map_append, List.map_take, List.map_drop]
theorem write_spec0 {path : List UInt8} {P : List (List UInt8) → Prop} {B : Prop} (hp : PartsC path P B) (s : List Node) (hw : Wf s) (off : Int) (text : List UInt8) (htl : text.length < 2 ^ 40) :
 C Tryz.prog 42 [aset s, .str path, .int .i64 off, .str text] [] (fun x H' => WriteR P B s off text x ∧ H' = []) := by
 have hlen := hw.len
 refine C_body' d42 rfl (WT_ok ?_)
 delta c42 I0 I1 I2 I3 I4 I5 I6 I7 I8 I9 KI
 simp only [aset, iaddr_node, pnode, wk3, wk, seval]
 refine CT_ok (file_spec hp s (by omega) (by omega) []) ?_
 rintro _ _ ⟨rfl, ⟨l, hl, k, hk, hR, hk2, rfl⟩ | ⟨e, he, hF, rfl⟩⟩
 ·simp only [iaddr_node, pnode, wk3, wk, seval]
  have h1 : (0 : Int) ≤ k := by omega
  have h2 : (k : Int) < s.length := by omega
  refine guard_both ?_ ?_ <;> intro h3 <;> simp only [hy] at h3
  ·simp only [h3, iaddr_node, pnode, wk3, wk, seval]
   exact KWk_bare (bare_next s _) ⟨.inl ⟨.inr (.inl h3), _, rfl⟩, rfl⟩
  ·simp only [h3, iaddr_node, pnode, wk3, wk, seval]
   by_cases h4 : (128 : Int) < off
   ·simp only [h4, iaddr_node, pnode, wk3, wk, seval]
    exact KWk_bare (bare_next s _) ⟨.inl ⟨.inr (.inr (by omega)), _, rfl⟩, rfl⟩
   ·have w1 : IntKind.i64.wrap ((128 : Int) - off) = 128 - off := IntWalk.i64_in _ (by omega)
    simp only [h4, w1, iaddr_node, pnode, wk3, wk, seval]
    refine guard_both ?_ ?_ <;> intro h5 <;> simp only [hy] at h5
    ·simp only [h5, iaddr_node, pnode, wk3, wk, seval]
     exact KWk_bare (bare_next s _) ⟨.inl ⟨.inr (.inr (by omega)), _, rfl⟩, rfl⟩
    ·simp only [h5, iaddr_node, pnode, wk3, wk, seval]
     refine guard_both ?_ ?_ <;> intro h6 <;> simp only [hy] at h6
     ·simp only [h6, iaddr_node, pnode, wk3, wk, seval]
      subst h6; exact KWk_bare (bare_next s _) ⟨.inr (.inl ⟨rfl, rfl⟩), rfl⟩
     ·obtain ⟨o, rfl⟩ : ∃ m : Nat, off = m := ⟨off.toNat, by omega⟩
      have w2 : IntKind.i64.wrap ((o : Int) + text.length) = ((o + text.length : Nat) : Int) := by rw [IntWalk.i64_in _ (by omega)]; omega
      have hb := hw.bodyD k hk
      simp only [h1, h2, h6, w2, lay, iaddr_node, pnode, wk3, wk, seval]
      rw [show (if ((o + text.length : Nat) : Int) > ((s.getD k default).body.length : Nat) then ((o + text.length : Nat) : Int) else ((s.getD k default).body.length : Nat)) = ((max (s.getD k default).body.length (o + text.length) : Nat) : Int) by split <;> omega]
      generalize hm : max (s.getD k default).body.length (o + text.length) = m
      have hm1 : o + text.length ≤ m := by omega
      have hm2 : m ≤ 128 := by omega
      have htp : 0 < text.length := List.length_pos_iff.2 h6
      refine CT_ok (long_spec (s.getD k default).body m (by omega) _) ?_
      rintro _ _ ⟨rfl, rfl⟩
      simp only [h6, lay, longA_len, iaddr_node, pnode, wk3, wk, seval]
      refine RT_slicel_own _ _ _ _ _ 1 m _ _ _ o (by omega) rfl rfl ?_ _ _ ?_
      ·simp [liveO, AH.at, longA_len]
      simp only [lay, longA_len, iaddr_node, pnode, wk3, wk, seval]
      refine ⟨⟨by omega, by simp⟩, ?_⟩
      rw [← List.length_append, ← List.length_append, show min text.length (m - o) = text.length by omega, over_cells, List.length_map, overA_len _ _ _ (by rw [longA_len]; omega), longA_len]
      simp only [iaddr_node, pnode, wk3, wk, seval]
      rw [List.take_of_length_le (by rw [List.length_map, overA_len _ _ _ (by rw [longA_len]; omega), longA_len]; omega), Option.bind_some, bytesOf_map]
      simp only [lay, iaddr_node, pnode, wk3, wk, seval]
      refine CT_ok (with_spec s (by omega) k ⟨(s.getD k default).kind, (s.getD k default).up, (s.getD k default).name, overA (longA (s.getD k default).body m) o text, (s.getD k default).bad⟩ _) ?_
      rintro _ _ ⟨rfl, rfl⟩
      simp only [iaddr_node, pnode, wk3, wk, seval]
      refine KWk_bare (bare_next _ _) ⟨.inr (.inr ⟨l, hl, k, hk, hR, hk2, overA (longA (s.getD k default).body m) o text, ⟨?_, fun h hb0 => ?_⟩, rfl⟩), rfl⟩
      ·rw [overA_len _ _ _ (by rw [longA_len]; omega), longA_len]; omega
      ·have : o = 0 := by omega
       subst this
       rw [hb0, List.length_nil] at hm
       have : m = text.length := by omega
       subst this
       rw [hb0]
       unfold overA
       rw [Nat.zero_add, List.drop_of_length_le (by rw [longA_len]; exact Nat.le_refl _)]
       simp
 ·simp only [he, iaddr_node, pnode, wk3, wk, seval]
  exact KWk_bare (bare_next s _) ⟨.inl ⟨.inl hF, _, rfl⟩, rfl⟩
theorem WriteR_bare {P : List (List UInt8) → Prop} {B : Prop} {s : List Node} {off : Int} {text : List UInt8} {x : AV} (h : WriteR P B s off text x) : ∃ t e, x = .tuple [aset t, .int .i64 e] := by
 rcases h with ⟨_, e, rfl⟩ | ⟨_, rfl⟩ | ⟨_, _, _, _, _, _, _, _, rfl⟩
 ·exact ⟨_, _, rfl⟩
 ·exact ⟨_, _, rfl⟩
 ·exact ⟨_, _, rfl⟩
theorem write_spec {path : List UInt8} {P : List (List UInt8) → Prop} {B : Prop} (hp : PartsC path P B) (s : List Node) (hw : Wf s) (off : Int) (text : List UInt8) (htl : text.length < 2 ^ 40) (H : AH) :
 C Tryz.prog 42 [aset s, .str path, .int .i64 off, .str text] H (fun x H' => H' = H ∧ WriteR P B s off text x) :=
 (C_pure (K0 := WriteR P B s off text) (write_spec0 hp s hw off text htl) (fun τ => renL_bare τ _ (by simp [bareL, bare, aset])) (by rintro x hx τ; obtain ⟨t, e, rfl⟩ := WriteR_bare hx; exact ren_bare τ _ (bare_next t e)) H).mono fun x H' h => ⟨h.2, h.1⟩
theorem WriteR_next {P : List (List UInt8) → Prop} {B : Prop} {s : List Node} (hw : Wf s) {off : Int} {text : List UInt8} {x : AV} (h : WriteR P B s off text x) : NextW s x := by
 rcases h with ⟨_, e, rfl⟩ | ⟨_, rfl⟩ | ⟨l, _, k, hk, hR, hk2, y, hy, rfl⟩
 ·exact ⟨_, _, hw, rfl⟩
 ·exact ⟨_, _, hw, rfl⟩
 ·exact ⟨_, _, body_wf hw (by have := hw.len; omega) hk2 (downR_some hw hR) hy.1, rfl⟩
end Go.Proofs.YtemjlopoffjmpaaGreat.Abs
set_option linter.unusedSimpArgs false
set_option linter.unusedVariables false
namespace Go.Proofs.YtemjlopoffjmpaaGreat.Abs
open Go Go.Proofs
def cellN (x : List UInt8) : List AV := [.str x]
theorem Wk_strs {fr fr' : List AV} {l : List (List UInt8)} {G : AH} (h : Tops fr' (renL (upTo 1) fr)) : Wk 0 fr (some (l.map cellN) :: G) fr' [some (l.map cellN)] := by
 have h1 := (Wk_forget (n0 := 0) (fr := fr) (H := some (l.map cellN) :: G) 1 (Nat.zero_le _)).trans (Wk_tops h)
 have e : mapH (renL (upTo 1)) ((some (l.map cellN) :: G).take 1) = [some (l.map cellN)] := by
  simp only [List.take_succ_cons, List.take_zero, mapH, List.map_cons, List.map_nil, Option.map_some, List.map_map]
  congr 2
 rwa [e] at h1
theorem KWk_none {K : AV → AH → Prop} {b : Bool} {H : AH} (hk : K (.tuple [.fz [], .bool b]) []) : KWk 0 K (.tuple [.emp, .bool b]) H := by
 have h1 := Wk_forget (n0 := 0) (fr := [.tuple [.emp, .bool b]]) (H := H) 0 (Nat.le_refl _)
 have e : renL (upTo 0) [.tuple [.emp, .bool b]] = [.tuple [.emp, .bool b]] := by simp [renL, ren]
 have e2 : mapH (renL (upTo 0)) (H.take 0) = [] := by simp [mapH]
 rw [e, e2] at h1
 refine ⟨_, [], h1.trans ?_, hk⟩
 intro E w vs hs hr
 refine ⟨E, LeN.refl _ _, hs, hr.1, fun i c u hc hu => ?_⟩
 match i, hc, hu with
 | 0, hc, hu =>
   simp at hc; subst hc
   obtain ⟨ws, rfl, hl, hw⟩ := rep_tuple (hr.2 0 _ u rfl hu)
   refine .tuple _ _ hl fun i c u hc hu => ?_
   match i, hc, hu with
   | 0, hc, hu =>
     simp at hc; subst hc
     obtain ⟨a, rfl⟩ := rep_emp (hw 0 _ u rfl hu)
     exact .pure (x := .fz []) (.fz0 _ _)
   | 1, hc, hu => simp at hc; subst hc; exact hw 1 _ u rfl hu
   | i + 2, hc, _ => simp at hc
 | i + 1, hc, _ => simp at hc
def partsGo : List UInt8 → List UInt8 → List (List UInt8) → Option (List (List UInt8))
 | [], cur, out => if mayN cur = true ∧ out.length < 7 then some (out ++ [cur]) else none
 | c :: r, cur, out => if c = 47 then (if mayN cur = true ∧ out.length < 7 then partsGo r [] (out ++ [cur]) else none) else partsGo r (cur ++ [c]) out
def partsA (path : List UInt8) : Option (List (List UInt8)) := if path = [] then some [] else partsGo path [] []
def partsV : Option (List (List UInt8)) → AV
 | some l => .tuple [.fz (l.map pname), .bool true]
 | none => .tuple [.fz [], .bool false]
theorem partsGo_ok : ∀ (r cur : List UInt8) (out l : List (List UInt8)), partsGo r cur out = some l → (∀ x ∈ out, mayN x = true) → out.length ≤ 7 → (∀ x ∈ l, mayN x = true) ∧ l.length ≤ 7
 | [], cur, out, l, h, ho, hl => by
   unfold partsGo at h
   split at h
   ·rename_i hc
    cases h
    refine ⟨fun x hx => ?_, by simp; omega⟩
    rcases List.mem_append.1 hx with hx | hx
    ·exact ho x hx
    ·rw [List.mem_singleton] at hx; subst hx; exact hc.1
   ·cases h
 | c :: r, cur, out, l, h, ho, hl => by
   unfold partsGo at h
   split at h
   ·split at h
    ·rename_i hc
     refine partsGo_ok r [] _ l h (fun x hx => ?_) (by simp; omega)
     rcases List.mem_append.1 hx with hx | hx
     ·exact ho x hx
     ·rw [List.mem_singleton] at hx; subst hx; exact hc.1
    ·cases h
   ·exact partsGo_ok r _ out l h ho hl
theorem partsA_ok {path : List UInt8} {l : List (List UInt8)} (h : partsA path = some l) : (∀ x ∈ l, mayN x = true) ∧ l.length ≤ 7 := by
 unfold partsA at h
 split at h
 ·cases h; exact ⟨fun x hx => (by cases hx), by simp⟩
 ·exact partsGo_ok _ _ _ _ h (fun x hx => by cases hx) (by simp)
theorem parts_spec0 (path : List UInt8) (hp : path.length ≤ 1000000) :
 C Tryz.prog 109 [.str path] [] (fun x H' => x = partsV (partsA path) ∧ H' = []) := by
 refine C_body' d109 rfl (WT_ok ?_)
 delta c109 I0 I1 I2 I3 I4 I5 I6 I7 I8 I9 KI
 simp only [iaddr_node, pnode, wk3, wk, seval]
 refine guard_both ?_ ?_ <;> intro h0 <;> simp only [hy] at h0
 ·simp only [h0, iaddr_node, pnode, wk3, wk, seval]
  refine KWk_none ⟨?_, rfl⟩
  simp [partsA, partsV]
 ·have hA : partsA path = partsGo path [] [] := by unfold partsA; rw [if_neg h0]
  simp only [h0, iaddr_node, pnode, wk3, wk, seval]
  refine WT_loop (W_wk (Wk_empAt 4 1 rfl) (W_wk (fr' := [.str path, .top, .emp, .bool false, .own 0 1 0 0 0, .int .i64 0, .int .i64 0] ++ List.replicate 39 .top) (Wk_tops ?_) (W_loop (fun nn fr H' => ∃ (i from' : Nat) (l : List (List UInt8)), from' ≤ i ∧ i ≤ path.length + 1 ∧ nn = path.length + 1 - i ∧ l.length ≤ 7 ∧
   (i ≤ path.length → partsA path = partsGo (path.drop i) (List.drop from' (List.take i path)) l) ∧ (i = path.length + 1 → partsA path = some l) ∧ H' = [some (l.map cellN)] ∧
   fr = [.str path, .top, .emp, .bool false, .own 0 1 0 l.length l.length, .int .i64 from', .int .i64 i] ++ List.replicate 39 .top) (path.length + 1) ⟨0, 0, [], by omega, by omega, rfl, by simp, fun _ => hA, fun h => by omega, rfl, rfl⟩ ?_)))
  ·simp only [List.replicate_succ, List.replicate_zero, List.set_cons_succ, List.set_cons_zero, List.cons_append, List.nil_append, List.length_nil, Tops_top, Tops_same, Tops_nil]
  rintro nn fr H' ⟨i, from', l, hfi, hi, rfl, hl, hgo, hend, rfl, rfl⟩
  refine WT_ok ?_
  simp only [iaddr_node, pnode, wk3, wk, seval]
  refine guard_both ?_ ?_ <;> intro h <;> simp only [hy] at h
  ·have g0 : (0 : Int) ≤ i := by omega
   have gf : (0 : Int) ≤ from' := by omega
   have gfi : (from' : Int) ≤ i := by omega
   have w2 : IntKind.i64.wrap ((i : Int) + 1) = ((i + 1 : Nat) : Int) := by rw [IntWalk.i64_in _ (by omega)]; omega
   have hgo' := hgo (by omega)
   generalize hcur : List.drop from' (List.take i path) = cur at hgo'
   by_cases h1 : (i : Int) < path.length
   ·have hil : i < path.length := by omega
    have hd : path.drop i = path[i] :: path.drop (i + 1) := List.drop_eq_getElem_cons hil
    have hgi : path.getD i 0 = path[i] := by rw [List.getD_eq_getElem?_getD, List.getElem?_eq_getElem hil]; rfl
    rw [hd] at hgo'
    unfold partsGo at hgo'
    simp only [h, h1, g0, gf, gfi, hgi, iaddr_node, pnode, wk3, wk, seval]
    refine guard_both ?_ ?_ <;> intro h2 <;> simp only [hy] at h2
    ·have h47 : ¬ path[i] = 47 := by
      intro e; rw [e] at h2; exact h2 rfl
     rw [if_neg h47] at hgo'
     simp only [h, h1, h2, w2, iaddr_node, pnode, wk3, wk, seval]
     refine QLoop_go (n' := path.length + 1 - (i + 1)) (by omega) ⟨i + 1, from', l, by omega, by omega, rfl, hl, fun _ => ?_, fun e => by omega, rfl, rfl⟩ (by simp only [tp])
     rw [hgo', ← hcur, List.take_add_one, List.getElem?_eq_getElem hil, List.drop_append_of_le_length (by simp; omega)]
     rfl
    ·have h47 : path[i] = 47 := by
      have h3 : path[i].toNat = 47 := by omega
      exact UInt8.toNat_inj.1 h3
     rw [if_pos h47] at hgo'
     simp only [h, h1, h2, g0, gf, gfi, hcur, iaddr_node, pnode, wk3, wk, seval]
     refine CT_ok (mayname_spec _ ?_ _) ?_
     ·rw [← hcur]; simp only [List.length_drop, List.length_take]; omega
     rintro _ H ⟨rfl, rfl⟩
     by_cases hm : mayN cur = true
     ·by_cases h3 : (7 : Int) ≤ l.length
      ·rw [if_neg (by omega)] at hgo'
       simp only [h, h1, h2, h3, hm, g0, gf, gfi, iaddr_node, pnode, wk3, wk, seval]
       refine KWk_none ⟨?_, rfl⟩
       rw [hgo']; rfl
      ·rw [if_pos ⟨hm, by omega⟩] at hgo'
       have e : List.map cellN l ++ [[AV.str cur]] = (l ++ [cur]).map cellN := by simp [cellN]
       simp only [h, h1, h2, h3, hm, g0, gf, gfi, w2, hcur, iaddr_node, pnode, wk3, wk, seval]
       rw [e]
       refine ⟨⟨by omega, by omega⟩, ?_⟩
       refine QLoop_wk (n' := path.length + 1 - (i + 1)) (by omega) ⟨i + 1, i + 1, l ++ [cur], by omega, by omega, rfl, by simp; omega, fun _ => ?_, fun e => by omega, rfl, rfl⟩ (Wk_strs ?_)
       ·rw [hgo', show List.drop (i + 1) (List.take (i + 1) path) = [] from List.drop_of_length_le (by simp; omega)]
       ·simp only [List.length_append, List.length_cons, List.length_nil, List.replicate_succ, List.replicate_zero, List.cons_append, List.nil_append, renL, ren, upTo, Nat.zero_add, Nat.zero_lt_one, if_true, Tops_top, Tops_same, Tops_nil]
     ·rw [if_neg (by simp [hm])] at hgo'
      rw [Bool.not_eq_true] at hm
      simp only [h, h1, h2, hm, g0, gf, gfi, iaddr_node, pnode, wk3, wk, seval]
      refine KWk_none ⟨?_, rfl⟩
      rw [hgo']; rfl
   ·have hil : i = path.length := by omega
    rw [List.drop_of_length_le (by omega)] at hgo'
    unfold partsGo at hgo'
    simp only [h, h1, g0, gf, gfi, hcur, iaddr_node, pnode, wk3, wk, seval]
    refine CT_ok (mayname_spec _ ?_ _) ?_
    ·rw [← hcur]; simp only [List.length_drop, List.length_take]; omega
    rintro _ H ⟨rfl, rfl⟩
    by_cases hm : mayN cur = true
    ·by_cases h3 : (7 : Int) ≤ l.length
     ·rw [if_neg (by omega)] at hgo'
      simp only [h, h1, h3, hm, g0, gf, gfi, iaddr_node, pnode, wk3, wk, seval]
      refine KWk_none ⟨?_, rfl⟩
      rw [hgo']; rfl
     ·rw [if_pos ⟨hm, by omega⟩] at hgo'
      have e : List.map cellN l ++ [[AV.str cur]] = (l ++ [cur]).map cellN := by simp [cellN]
      simp only [h, h1, h3, hm, g0, gf, gfi, w2, hcur, iaddr_node, pnode, wk3, wk, seval]
      rw [e]
      refine ⟨⟨by omega, by omega⟩, ?_⟩
      refine QLoop_wk (n' := path.length + 1 - (i + 1)) (by omega) ⟨i + 1, i + 1, l ++ [cur], by omega, by omega, rfl, by simp; omega, fun e => by omega, fun _ => hgo', rfl, rfl⟩ (Wk_strs ?_)
      simp only [List.length_append, List.length_cons, List.length_nil, List.replicate_succ, List.replicate_zero, List.cons_append, List.nil_append, renL, ren, upTo, Nat.zero_add, Nat.zero_lt_one, if_true, Tops_top, Tops_same, Tops_nil]
    ·rw [if_neg (by simp [hm])] at hgo'
     rw [Bool.not_eq_true] at hm
     simp only [h, h1, hm, g0, gf, gfi, iaddr_node, pnode, wk3, wk, seval]
     refine KWk_none ⟨?_, rfl⟩
     rw [hgo']; rfl
  ·have hA2 := hend (by omega)
   simp only [h, iaddr_node, pnode, wk3, wk, seval]
   refine KWk_frozen 0 (l.map pname) ?_ (.tuple [.fz (l.map pname), .bool true]) ?_ ⟨by rw [hA2]; rfl, rfl⟩
   ·simp [AH.at, cellN, pname, emb]
   ·simp only [frzL, frz, renL, ren, if_true, List.length_map, Nat.zero_add, Nat.le_refl, and_self, List.drop_zero]
    rw [List.take_of_length_le (by simp)]
theorem parts_exact (path : List UInt8) (hp : path.length ≤ 1000000) : PartsC path (fun l => partsA path = some l) (partsA path = none) := fun H =>
 (C_pure (K0 := fun x => x = partsV (partsA path)) (parts_spec0 path hp) (fun τ => renL_bare τ _ (by simp [bareL, bare])) (by rintro x rfl τ; cases partsA path <;> exact ren_bare τ _ (by simp [bare, bareL, partsV])) H).mono fun x H' h => ⟨h.2, by
  rw [h.1]
  cases e : partsA path with
  | some l => exact .inl ⟨l, rfl, (partsA_ok e).2, rfl⟩
  | none => exact .inr ⟨rfl, rfl⟩⟩
theorem PartsC.weak {path : List UInt8} {P P' : List (List UInt8) → Prop} {B B' : Prop} (h : PartsC path P B) (hP : ∀ l, P l → P' l) (hB : B → B') : PartsC path P' B' := fun H =>
 (h H).mono fun x H' g => ⟨g.1, g.2.elim (fun ⟨l, h1, h2, h3⟩ => .inl ⟨l, hP l h1, h2, h3⟩) (fun ⟨h1, h2⟩ => .inr ⟨hB h1, h2⟩)⟩
def Names (l : List (List UInt8)) : Prop := ∀ x ∈ l, mayN x = true
theorem parts_loose (path : List UInt8) (hp : path.length ≤ 1000000) : PartsC path Names True := (parts_exact path hp).weak (fun l h => (partsA_ok h).1) (fun _ => trivial)
end Go.Proofs.YtemjlopoffjmpaaGreat.Abs
set_option linter.unusedSimpArgs false
set_option linter.unusedVariables false
namespace Go.Proofs.YtemjlopoffjmpaaGreat.Abs
open Go Go.Proofs
theorem make_next {path : List UInt8} {P : List (List UInt8) → Prop} {B : Prop} (hp : PartsC path P B) (hP : ∀ l, P l → ∀ x ∈ l, mayN x = true) (s : List Node) (hw : Wf s) (kind : Int) (H : AH) :
 C Tryz.prog 41 [aset s, .str path, .int .i64 kind] H (fun x H' => H' = H ∧ NextW s x) := by
 have hlen := hw.len
 refine (make_spec hp s (by omega) (by omega) kind H).mono ?_
 rintro x H' ⟨rfl, ⟨e, _, rfl⟩ | ⟨l, a, up, n, hl, hup, _, hk2, hno, hn, hn0, hk, rfl⟩⟩
 ·exact ⟨rfl, _, _, hw, rfl⟩
 ·exact ⟨rfl, _, _, make_wf hw (by omega) hk2 hno (by omega) hn0 hk (hP _ hl a (by simp)), rfl⟩
theorem write_next {path : List UInt8} {P : List (List UInt8) → Prop} {B : Prop} (hp : PartsC path P B) (s : List Node) (hw : Wf s) (off : Int) (text : List UInt8) (htl : text.length < 2 ^ 40) (H : AH) :
 C Tryz.prog 42 [aset s, .str path, .int .i64 off, .str text] H (fun x H' => H' = H ∧ NextW s x) := (write_spec hp s hw off text htl H).mono fun x H' h => ⟨h.1, WriteR_next hw h.2⟩
end Go.Proofs.YtemjlopoffjmpaaGreat.Abs
set_option linter.unusedSimpArgs false
set_option linter.unusedVariables false
namespace Go.Proofs.YtemjlopoffjmpaaGreat.Abs
open Go Go.Proofs
def editA (k i n : Int) (p q t : List UInt8) : AV := .agg [.int .i64 k, .int .i64 i, .int .i64 n, .int .i64 0, .int .i64 0, .str p, .str q, .str t, .emp]
def EditR (l : List UInt8) (n : Int) (x : AV) (H' : AH) : Prop := ∃ (k i m n' : Int) (p q t : List UInt8), p.length ≤ 1000000 ∧ q.length ≤ 1000000 ∧ t.length ≤ 1000000 ∧ (n ≤ n' ∧ 1 ≤ k ∧ k ≤ 5) ∧ x = editA k i m p q t ∧ H' = picksH l n'
theorem KWk_edit {l : List UInt8} {n k i m n' : Int} {p q t : List UInt8} {R : AH} (hp : p.length ≤ 1000000) (hq : q.length ≤ 1000000) (ht : t.length ≤ 1000000) (hn : n ≤ n' ∧ 1 ≤ k ∧ k ≤ 5) :
 KWk 1 (EditR l n) (.agg [.int .i64 k, .int .i64 i, .int .i64 m, .int .i64 0, .int .i64 0, .str p, .str q, .str t, .emp]) (some [[.fz (l.map pbyte), .int .i64 n']] :: R) := by
 refine ⟨_, _, ?_, k, i, m, n', p, q, t, hp, hq, ht, hn, rfl, rfl⟩
 have h := Wk_forget (n0 := 1) (fr := [editA k i m p q t]) (H := some [[.fz (l.map pbyte), .int .i64 n']] :: R) 1 (Nat.le_refl _)
 simpa [mapH, renL, ren, editA, picksH] using h
theorem path_at (l : List UInt8) (n : Int) (hn : 0 ≤ n) (hl : l.length ≤ 1000000) (R : AH) :
 C Tryz.prog 84 [.ptr 0 0 0 1] (some [[.fz (l.map pbyte), .int .i64 n]] :: R) (fun x H' => ∃ (p : List UInt8) (n' : Int), x = .str p ∧ p.length ≤ 11 ∧ n ≤ n' ∧ H' = some [[.fz (l.map pbyte), .int .i64 n']] :: R) := by
 refine C_call (K0 := fun x H' => ∃ (p : List UInt8) (n' : Int), x = .str p ∧ p.length ≤ 11 ∧ n ≤ n' ∧ n' ≤ n + 1 ∧ H' = picksH l n') [0] (by simp) (by simp) ?_ ?_
 ·exact path_spec l n hn hl
 ·rintro _ _ ⟨p, n', rfl, h1, h2, h3, rfl⟩
  exact ⟨Nat.le_refl _, p, n', rfl, h1, h2, by simp [back, setAll, picksH, renO, renL, ren]⟩
section
variable {c : Nat} {late : List Loc → List Loc → Prop} {K : List Nat → Nat → AV → AH → Prop} {t : Tag K}
theorem CFT_num (l : List UInt8) (n k : Int) (hn : 0 ≤ n) (hl : l.length ≤ 1000000) {R : AH} (hc : 0 < c ∧ c ≤ R.length + 1) (hlate : late [.con 0] [.con 0, .len 0])
 (hk : ∀ m n' : Int, 0 ≤ m → (1 ≤ k → m < k) → (k < 1 → m = 0) → n ≤ n' → K [0] c (.int .i64 m) (some [[.fz (l.map pbyte), .int .i64 n']] :: R)) :
 CFT Tryz.prog 44 [.ptr 0 0 0 1, .int .i64 k] c (some [[.fz (l.map pbyte), .int .i64 n]] :: R) late K t := by
 refine CFT_ok [0] 0 (num_spec l n k hn hl) (by simp; omega) hlate ?_
 rintro _ _ ⟨m, n', rfl, h1, h2, h3, h4, h5, rfl⟩
 have := hk m n' h1 h2 h3 h4
 refine ⟨by simp [picksH], ?_⟩
 simpa [setAll, picksH, renO, renL, ren] using this
theorem CFT_path (l : List UInt8) (n : Int) (hn : 0 ≤ n) (hl : l.length ≤ 1000000) {R : AH} (hc : 0 < c ∧ c ≤ R.length + 1) (hlate : late [.con 0] [.con 0, .len 0])
 (hk : ∀ (p : List UInt8) (n' : Int), p.length ≤ 11 → n ≤ n' → K [0] c (.str p) (some [[.fz (l.map pbyte), .int .i64 n']] :: R)) :
 CFT Tryz.prog 84 [.ptr 0 0 0 1] c (some [[.fz (l.map pbyte), .int .i64 n]] :: R) late K t := by
 refine CFT_ok [0] 0 (path_spec l n hn hl) (by simp; omega) hlate ?_
 rintro _ _ ⟨m, n', rfl, h1, h2, h3, rfl⟩
 have := hk m n' h1 h2
 refine ⟨by simp [picksH], ?_⟩
 simpa [setAll, picksH, renO, renL, ren] using this
theorem CFT_text (l : List UInt8) (n : Int) (hn : 0 ≤ n) (hl : l.length ≤ 1000000) {R : AH} (hc : 0 < c ∧ c ≤ R.length + 1) (hlate : late [.con 0] [.con 0, .len 0])
 (hk : ∀ (p : List UInt8) (n' : Int), p.length ≤ 129 → n ≤ n' → K [0] c (.str p) (some [[.fz (l.map pbyte), .int .i64 n']] :: R)) :
 CFT Tryz.prog 85 [.ptr 0 0 0 1] c (some [[.fz (l.map pbyte), .int .i64 n]] :: R) late K t := by
 refine CFT_ok [0] 0 (text_spec l n hn hl) (by simp; omega) hlate ?_
 rintro _ _ ⟨m, n', rfl, h1, h2, h3, rfl⟩
 have := hk m n' h1 h2
 refine ⟨by simp [picksH], ?_⟩
 simpa [setAll, picksH, renO, renL, ren] using this
end
theorem ints_get (vs : List Int) (m : Int) (h0 : 0 ≤ m) (h : m < vs.length) : ∃ v, (vs.map fun v => [AV.int .i64 v])[m.toNat]? = some [AV.int .i64 v] ∧ v ∈ vs := by
 refine ⟨vs[m.toNat]'(by omega), ?_, List.getElem_mem _⟩
 rw [List.getElem?_map, List.getElem?_eq_getElem (by omega), Option.map_some]
theorem edit_spec (l : List UInt8) (n i : Int) (hn : 0 ≤ n) (hl : l.length ≤ 1000000) :
 C Tryz.prog 46 [.ptr 0 0 0 1, .int .i64 i] (picksH l n) (EditR l n) := by
 refine C_body' d46 rfl (WT_ok ?_)
 delta c46 I0 I1 I2 I3 I4 I5 I6 I7 I8 I9 KI
 simp only [picksH, iaddr_node, pnode, wk3, wk, Nat.reduceAdd, Nat.reduceSub, Nat.reduceMul, Nat.reduceLeDiff, Nat.reduceEqDiff, Nat.reduceBEq, Int.reduceLE, Int.reduceLT, Int.reduceEq, Int.reduceNe, Int.reduceAdd, Int.reduceSub, Int.reduceToNat, Int.reduceNeg, ↓reduceIte, reduceCtorEq]
 refine WT_drawE ?_
 refine WDT_more 2 ?_
 simp only [picksH, lay, iaddr_node, pnode, wk3, wk, Nat.reduceAdd, Nat.reduceSub, Nat.reduceMul, Nat.reduceLeDiff, Nat.reduceEqDiff, Nat.reduceBEq, Int.reduceLE, Int.reduceLT, Int.reduceEq, Int.reduceNe, Int.reduceAdd, Int.reduceSub, Int.reduceToNat, Int.reduceNeg, ↓reduceIte, reduceCtorEq]
 refine ⟨by omega, by omega, ?_⟩
 refine CFT_num l n 12 hn hl (by simp) ⟨by rfl, by rfl⟩ ?_
 intro m n' h1 h2 h3 h4
 have g1 : m < 12 := h2 (by omega)
 obtain ⟨v, hv, hvm⟩ := ints_get [1, 1, 1, 2, 3, 3, 4, 4, 4, 5, 1, 4] m h1 g1
 simp only [List.map_cons, List.map_nil] at hv
 have hvb : 1 ≤ v ∧ v ≤ 5 := by simp at hvm; omega
 simp only [ren, renL, h1, g1, hv, lay, iaddr_node, pnode, wk3, wk, Nat.reduceAdd, Nat.reduceSub, Nat.reduceMul, Nat.reduceLeDiff, Nat.reduceEqDiff, Nat.reduceBEq, Int.reduceLE, Int.reduceLT, Int.reduceEq, Int.reduceNe, Int.reduceAdd, Int.reduceSub, Int.reduceToNat, Int.reduceNeg, ↓reduceIte, reduceCtorEq]
 refine ⟨g1, ?_⟩
 refine CFT_path l n' (by omega) hl (by simp) ⟨by rfl, by rfl⟩ ?_
 intro p n1 hp hn1
 simp only [ren, renL, lay, iaddr_node, pnode, wk3, wk, Nat.reduceAdd, Nat.reduceSub, Nat.reduceMul, Nat.reduceLeDiff, Nat.reduceEqDiff, Nat.reduceBEq, Int.reduceLE, Int.reduceLT, Int.reduceEq, Int.reduceNe, Int.reduceAdd, Int.reduceSub, Int.reduceToNat, Int.reduceNeg, ↓reduceIte, reduceCtorEq]
 refine ⟨by rfl, ?_⟩
 by_cases v1 : v = 1
 ·simp only [v1, lay, iaddr_node, pnode, wk3, wk, Nat.reduceAdd, Nat.reduceSub, Nat.reduceMul, Nat.reduceLeDiff, Nat.reduceEqDiff, Nat.reduceBEq, Int.reduceLE, Int.reduceLT, Int.reduceEq, Int.reduceNe, Int.reduceAdd, Int.reduceSub, Int.reduceToNat, Int.reduceNeg, ↓reduceIte, reduceCtorEq]
  refine CT_ok (num_at l n1 2 (by omega) hl _) ?_
  rintro _ H ⟨m2, n2, rfl, k1, k2, k3, k4, _, rfl⟩
  simp only [lay, iaddr_node, pnode, wk3, wk, Nat.reduceAdd, Nat.reduceSub, Nat.reduceMul, Nat.reduceLeDiff, Nat.reduceEqDiff, Nat.reduceBEq, Int.reduceLE, Int.reduceLT, Int.reduceEq, Int.reduceNe, Int.reduceAdd, Int.reduceSub, Int.reduceToNat, Int.reduceNeg, ↓reduceIte, reduceCtorEq]
  refine CT_ok (num_at l n2 16 (by omega) hl _) ?_
  rintro _ H ⟨m3, n3, rfl, j1, j2, j3, j4, _, rfl⟩
  simp only [lay, iaddr_node, pnode, wk3, wk, Nat.reduceAdd, Nat.reduceSub, Nat.reduceMul, Nat.reduceLeDiff, Nat.reduceEqDiff, Nat.reduceBEq, Int.reduceLE, Int.reduceLT, Int.reduceEq, Int.reduceNe, Int.reduceAdd, Int.reduceSub, Int.reduceToNat, Int.reduceNeg, ↓reduceIte, reduceCtorEq]
  refine guard_both ?_ ?_ <;> intro b <;> simp only [hy] at b
  ·simp only [b, lay, iaddr_node, pnode, wk3, wk, Nat.reduceAdd, Nat.reduceSub, Nat.reduceMul, Nat.reduceLeDiff, Nat.reduceEqDiff, Nat.reduceBEq, Int.reduceLE, Int.reduceLT, Int.reduceEq, Int.reduceNe, Int.reduceAdd, Int.reduceSub, Int.reduceToNat, Int.reduceNeg, ↓reduceIte, reduceCtorEq]
   refine CT_ok (num_at l n3 5 (by omega) hl _) ?_
   rintro _ H ⟨m4, n4, rfl, i1, i2, i3, i4, _, rfl⟩
   simp only [lay, iaddr_node, pnode, wk3, wk, Nat.reduceAdd, Nat.reduceSub, Nat.reduceMul, Nat.reduceLeDiff, Nat.reduceEqDiff, Nat.reduceBEq, Int.reduceLE, Int.reduceLT, Int.reduceEq, Int.reduceNe, Int.reduceAdd, Int.reduceSub, Int.reduceToNat, Int.reduceNeg, ↓reduceIte, reduceCtorEq]
   exact KWk_edit (by omega) (by simp) (by simp) (by omega)
  ·simp only [b, lay, iaddr_node, pnode, wk3, wk, Nat.reduceAdd, Nat.reduceSub, Nat.reduceMul, Nat.reduceLeDiff, Nat.reduceEqDiff, Nat.reduceBEq, Int.reduceLE, Int.reduceLT, Int.reduceEq, Int.reduceNe, Int.reduceAdd, Int.reduceSub, Int.reduceToNat, Int.reduceNeg, ↓reduceIte, reduceCtorEq]
   exact KWk_edit (by omega) (by simp) (by simp) (by omega)
 by_cases v3 : v = 3
 ·simp only [v3, lay, iaddr_node, pnode, wk3, wk, Nat.reduceAdd, Nat.reduceSub, Nat.reduceMul, Nat.reduceLeDiff, Nat.reduceEqDiff, Nat.reduceBEq, Int.reduceLE, Int.reduceLT, Int.reduceEq, Int.reduceNe, Int.reduceAdd, Int.reduceSub, Int.reduceToNat, Int.reduceNeg, ↓reduceIte, reduceCtorEq]
  refine CT_ok (path_at l n1 (by omega) hl _) ?_
  rintro _ H ⟨q, n2, rfl, k1, k2, rfl⟩
  simp only [lay, iaddr_node, pnode, wk3, wk, Nat.reduceAdd, Nat.reduceSub, Nat.reduceMul, Nat.reduceLeDiff, Nat.reduceEqDiff, Nat.reduceBEq, Int.reduceLE, Int.reduceLT, Int.reduceEq, Int.reduceNe, Int.reduceAdd, Int.reduceSub, Int.reduceToNat, Int.reduceNeg, ↓reduceIte, reduceCtorEq]
  exact KWk_edit (by omega) (by omega) (by simp) (by omega)
 by_cases v4 : v = 4
 ·simp only [v4, lay, iaddr_node, pnode, wk3, wk, Nat.reduceAdd, Nat.reduceSub, Nat.reduceMul, Nat.reduceLeDiff, Nat.reduceEqDiff, Nat.reduceBEq, Int.reduceLE, Int.reduceLT, Int.reduceEq, Int.reduceNe, Int.reduceAdd, Int.reduceSub, Int.reduceToNat, Int.reduceNeg, ↓reduceIte, reduceCtorEq]
  refine WT_drawE ?_
  refine WDT_more 1 ?_
  simp only [ren, renL, lay, iaddr_node, pnode, wk3, wk, Nat.reduceAdd, Nat.reduceSub, Nat.reduceMul, Nat.reduceLeDiff, Nat.reduceEqDiff, Nat.reduceBEq, Int.reduceLE, Int.reduceLT, Int.reduceEq, Int.reduceNe, Int.reduceAdd, Int.reduceSub, Int.reduceToNat, Int.reduceNeg, ↓reduceIte, reduceCtorEq]
  refine ⟨by omega, ?_⟩
  refine CFT_num l n1 8 (by omega) hl (by simp) ⟨by rfl, by rfl⟩ ?_
  intro m2 n2 k1 k2 k3 k4
  have k5 : m2 < 8 := k2 (by omega)
  obtain ⟨u, hu, _⟩ := ints_get [0, 0, 1, 31, 32, 64, 100, 130] m2 k1 k5
  simp only [List.map_cons, List.map_nil] at hu
  simp only [ren, renL, k1, k5, hu, lay, iaddr_node, pnode, wk3, wk, Nat.reduceAdd, Nat.reduceSub, Nat.reduceMul, Nat.reduceLeDiff, Nat.reduceEqDiff, Nat.reduceBEq, Int.reduceLE, Int.reduceLT, Int.reduceEq, Int.reduceNe, Int.reduceAdd, Int.reduceSub, Int.reduceToNat, Int.reduceNeg, ↓reduceIte, reduceCtorEq]
  refine ⟨k5, ?_⟩
  refine CFT_text l n2 (by omega) hl (by simp) ⟨by rfl, by rfl⟩ ?_
  intro q n3 hq hn3
  simp only [ren, renL, lay, iaddr_node, pnode, wk3, wk, Nat.reduceAdd, Nat.reduceSub, Nat.reduceMul, Nat.reduceLeDiff, Nat.reduceEqDiff, Nat.reduceBEq, Int.reduceLE, Int.reduceLT, Int.reduceEq, Int.reduceNe, Int.reduceAdd, Int.reduceSub, Int.reduceToNat, Int.reduceNeg, ↓reduceIte, reduceCtorEq]
  refine ⟨by rfl, ?_⟩
  exact KWk_edit (by omega) (by simp) (by omega) (by omega)
 by_cases v5 : v = 5
 ·simp only [v5, lay, iaddr_node, pnode, wk3, wk, Nat.reduceAdd, Nat.reduceSub, Nat.reduceMul, Nat.reduceLeDiff, Nat.reduceEqDiff, Nat.reduceBEq, Int.reduceLE, Int.reduceLT, Int.reduceEq, Int.reduceNe, Int.reduceAdd, Int.reduceSub, Int.reduceToNat, Int.reduceNeg, ↓reduceIte, reduceCtorEq]
  refine CT_ok (num_at l n1 8 (by omega) hl _) ?_
  rintro _ H ⟨m2, n2, rfl, k1, k2, k3, k4, _, rfl⟩
  have k5 : m2 < 8 := k2 (by omega)
  obtain ⟨u, hu, _⟩ := ints_get [0, 1, 32, 33, 128, 129, 60, 64] m2 k1 k5
  simp only [List.map_cons, List.map_nil] at hu
  simp only [k1, k5, hu, lay, iaddr_node, pnode, wk3, wk, Nat.reduceAdd, Nat.reduceSub, Nat.reduceMul, Nat.reduceLeDiff, Nat.reduceEqDiff, Nat.reduceBEq, Int.reduceLE, Int.reduceLT, Int.reduceEq, Int.reduceNe, Int.reduceAdd, Int.reduceSub, Int.reduceToNat, Int.reduceNeg, ↓reduceIte, reduceCtorEq]
  first | exact KWk_edit (by omega) (by simp) (by simp) (by omega) | exact ⟨k5, KWk_edit (by omega) (by simp) (by simp) (by omega)⟩
 ·simp only [v1, v3, v4, v5, lay, iaddr_node, pnode, wk3, wk, Nat.reduceAdd, Nat.reduceSub, Nat.reduceMul, Nat.reduceLeDiff, Nat.reduceEqDiff, Nat.reduceBEq, Int.reduceLE, Int.reduceLT, Int.reduceEq, Int.reduceNe, Int.reduceAdd, Int.reduceSub, Int.reduceToNat, Int.reduceNeg, ↓reduceIte, reduceCtorEq]
  exact KWk_edit (by omega) (by simp) (by simp) (by omega)
end Go.Proofs.YtemjlopoffjmpaaGreat.Abs
set_option linter.unusedSimpArgs false
set_option linter.unusedVariables false
namespace Go.Proofs.YtemjlopoffjmpaaGreat.Abs
open Go Go.Proofs
theorem newA_get (i : Nat) (h1 : 1 ≤ i) (h8 : i < 8) : newA.getD i default = ⟨0, 0, [], [], 0⟩ := by
 rcases (by omega : i = 1 ∨ i = 2 ∨ i = 3 ∨ i = 4 ∨ i = 5 ∨ i = 6 ∨ i = 7) with rfl | rfl | rfl | rfl | rfl | rfl | rfl <;> rfl
theorem newA_wf : Wf newA := by
 refine ⟨rfl, rfl, fun i h1 h8 => ?_, fun i k h1 h8 _ _ hk => ?_, fun i => i, fun i h1 h8 hk => ?_⟩
 ·rw [newA_get i h1 h8]
  exact ⟨rfl, .inl rfl, fun _ => rfl, fun e => absurd e (by decide), fun e => absurd rfl e, ⟨by decide, by decide⟩, fun e => absurd rfl e, by show 0 ≤ 128; omega⟩
 ·rw [newA_get i h1 h8] at hk; exact absurd rfl hk
 ·rw [newA_get i h1 h8] at hk; exact absurd rfl hk
end Go.Proofs.YtemjlopoffjmpaaGreat.Abs
set_option linter.unusedSimpArgs false
set_option linter.unusedVariables false
namespace Go.Proofs.YtemjlopoffjmpaaGreat.Abs
open Go Go.Proofs
theorem clone_emp0 : C Tryz.prog 48 [.emp] [] (fun x H' => x = .own 0 5 0 0 0 ∧ H' = [some []]) := by
 refine C_body' d48 rfl (WT_ok ?_)
 delta c48 I0 I1 I2 I3 I4 I5 I6 I7 I8 I9 KI
 simp only [wk3, wk, iaddrV_map, seval]
 intro b
 cases b
 ·simp only [wk3, wk, iaddrV_map, seval]
  exact ⟨_, _, Wk.refl _ _ _, rfl, rfl⟩
 ·simp only [wk3, wk, iaddrV_map, seval]
  exact ⟨_, _, Wk_emp 5, rfl, rfl⟩
theorem clone2_emp0 : C Tryz.prog 49 [.emp] [] (fun x H' => x = .own 0 5 0 0 0 ∧ H' = [some []]) := by
 refine C_body' d49 rfl (WT_ok ?_)
 delta c49 I0 I1 I2 I3 I4 I5 I6 I7 I8 I9 KI
 simp only [wk3, wk, iaddrV_map, seval]
 intro b
 cases b
 ·simp only [wk3, wk, iaddrV_map, seval]
  exact ⟨_, _, Wk.refl _ _ _, rfl, rfl⟩
 ·simp only [wk3, wk, iaddrV_map, seval]
  exact ⟨_, _, Wk_emp 5, rfl, rfl⟩
theorem clone_emp (H : AH) : C Tryz.prog 48 [.emp] H (fun x H' => x = .own H.length 5 0 0 0 ∧ H' = H ++ [some []]) :=
 C_call [] List.nodup_nil (fun r hr => by cases hr) clone_emp0 (by rintro _ _ ⟨rfl, rfl⟩; exact ⟨Nat.zero_le _, by simp [ren, toCaller, back, setAll, renO]⟩)
theorem clone2_emp (H : AH) : C Tryz.prog 49 [.emp] H (fun x H' => x = .own H.length 5 0 0 0 ∧ H' = H ++ [some []]) :=
 C_call [] List.nodup_nil (fun r hr => by cases hr) clone2_emp0 (by rintro _ _ ⟨rfl, rfl⟩; exact ⟨Nat.zero_le _, by simp [ren, toCaller, back, setAll, renO]⟩)
def orcC : CallF := fun f args H =>
 if f = 48 ∨ f = 49 then
  match args with
  | [.emp] => some (.own H.length 5 0 0 0, H ++ [some []])
  | _ => none
 else none
theorem orcC_ok : EvOk Tryz.prog orcC := by
 intro f args H x H' h
 unfold orcC at h
 split at h
 ·rename_i hf
  split at h
  ·cases h
   rcases hf with rfl | rfl
   ·exact clone_emp H
   ·exact clone2_emp H
  ·cases h
 ·cases h
end Go.Proofs.YtemjlopoffjmpaaGreat.Abs
set_option linter.unusedSimpArgs false
set_option linter.unusedVariables false
namespace Go.Proofs.YtemjlopoffjmpaaGreat.Abs
open Go Go.Proofs
def cellD (d : Dset) : List AV := [.int .i64 d.id, .int .i64 d.kind, .int .i64 d.origin, .int .i64 d.quota, aset d.files]
theorem KWk_first {K : AV → AH → Prop} {x : AV} {o : AObj} {G : AH} (hx : bare x = true) (ho : o.map (renL (upTo 1)) = o) (hk : K x [some o]) : KWk 1 K x (some o :: G) := by
 refine ⟨x, [some o], ?_, hk⟩
 have h1 := Wk_forget (n0 := 1) (fr := [x]) (H := some o :: G) 1 (Nat.le_refl _)
 rw [renL_bare _ _ (by simp [bareL, hx])] at h1
 have e : mapH (renL (upTo 1)) ((some o :: G).take 1) = [some o] := by
  simp only [List.take_succ_cons, List.take_zero, mapH, List.map_cons, List.map_nil, Option.map_some, ho]
 rwa [e] at h1
theorem isId82 (d : Dset) (i : Int) : C Tryz.prog 102 [.agg (cellD d), .ptr 0 0 0 1] [some [[.int .i64 i]]] (fun x H' => x = .bool (decide (d.id = i)) ∧ H' = [some [[.int .i64 i]]]) := by
 refine C_body' d102 rfl (WT_ok ?_)
 delta c102 I0 I1 I2 I3 I4 I5 I6 I7 I8 I9 KI
 simp only [cellD, aset, lay, wk, iaddrV_map, seval]
 refine KWk_first (by simp [bare]) (by simp [renL, ren]) ⟨rfl, rfl⟩
end Go.Proofs.YtemjlopoffjmpaaGreat.Abs
set_option linter.unusedSimpArgs false
set_option linter.unusedVariables false
namespace Go.Proofs.YtemjlopoffjmpaaGreat.Abs
open Go Go.Proofs
theorem Wk_none {fr fr' : List AV} {H : AH} (h : Tops fr' (renL (upTo 0) fr)) : Wk 0 fr H fr' [] := by
 have h1 := (Wk_forget (n0 := 0) (fr := fr) (H := H) 0 (Nat.le_refl _)).trans (Wk_tops h)
 simpa [mapH] using h1
end Go.Proofs.YtemjlopoffjmpaaGreat.Abs
set_option linter.unusedSimpArgs false
set_option linter.unusedVariables false
namespace Go.Proofs.YtemjlopoffjmpaaGreat.Abs
open Go Go.Proofs
theorem cellD_emb (d : Dset) : (pdset d).map emb = cellD d := rfl
theorem cellsD (l : List Dset) : (l.map pdset).map (fun e => e.map emb) = l.map cellD := by rw [List.map_map]; rfl
theorem rows5D (l : List Dset) : (l.map cellD).all (fun e => decide (e.length = 5)) = true := by
 rw [List.all_eq_true]
 intro e he
 obtain ⟨d, _, rfl⟩ := List.mem_map.1 he
 rfl
theorem cloneL0 (l : List Dset) (hl : l.length ≤ 1000000) : C Tryz.prog 48 [asets l] [] (fun x H' => x = .own 0 5 0 l.length l.length ∧ H' = [some (l.map cellD)]) := by
 refine C_body' d48 rfl (WT_ok ?_)
 delta c48 I0 I1 I2 I3 I4 I5 I6 I7 I8 I9 KI
 cases l with
 | nil =>
   simp only [asets, wk3, wk, iaddrV_map, seval]
   intro b
   cases b
   ·simp only [wk3, wk, iaddrV_map, seval]
    exact ⟨_, _, Wk.refl _ _ _, rfl, rfl⟩
   ·simp only [wk3, wk, iaddrV_map, seval]
    exact ⟨_, _, Wk_emp 5, rfl, rfl⟩
 | cons d l =>
   simp only [List.length_cons] at hl
   have h5 := rows5D (d :: l)
   simp only [List.map_cons, List.all_cons] at h5
   simp only [asets, cellsD, cellD_emb, wk3, wk, iaddrV_map, seval]
   exact ⟨⟨h5, by omega, by omega⟩, _, _, Wk.refl _ _ _, rfl, rfl⟩
end Go.Proofs.YtemjlopoffjmpaaGreat.Abs
set_option linter.unusedSimpArgs false
set_option linter.unusedVariables false
namespace Go.Proofs.YtemjlopoffjmpaaGreat.Abs
open Go Go.Proofs
theorem renO_cells (τ : Nat → Option Nat) (l : List Dset) : renO τ (l.map cellD) = l.map cellD := by
 unfold renO
 rw [List.map_map]
 apply List.map_congr_left
 intro d _
 simp [cellD, aset, renL, ren]
theorem cloneL (l : List Dset) (hl : l.length ≤ 1000000) (H : AH) : C Tryz.prog 48 [asets l] H (fun x H' => x = .own H.length 5 0 l.length l.length ∧ H' = H ++ [some (l.map cellD)]) :=
 C_call [] List.nodup_nil (fun r hr => by cases hr) (by simpa [renL, ren, asets] using cloneL0 l hl) (by rintro _ _ ⟨rfl, rfl⟩; exact ⟨Nat.zero_le _, by simp [ren, toCaller, back, setAll, renO_cells]⟩)
theorem cell_at {l : List Dset} {k : Nat} (hk : k < l.length) : (l.map cellD)[k]? = some (cellD (l.getD k default)) := by
 rw [List.getElem?_map, List.getElem?_eq_getElem hk, List.getD_eq_getElem?_getD, List.getElem?_eq_getElem hk]; rfl
theorem cell_same {l : List Dset} {k : Nat} (hk : k < l.length) : (l.map cellD).set k (cellD (l.getD k default)) = l.map cellD := by
 apply List.ext_getElem?
 intro i
 rw [List.getElem?_set]
 by_cases h : k = i
 ·subst h; rw [if_pos rfl, if_pos (by simpa using hk), cell_at hk]
 ·rw [if_neg h]
def Short (l : List Dset) : Prop := l.length ≤ 1000000 ∧ ∀ d ∈ l, d.files.length ≤ 1000000
theorem Short.get {l : List Dset} (h : Short l) {k : Nat} (hk : k < l.length) : (l.getD k default).files.length ≤ 1000000 := by
 rw [List.getD_eq_getElem?_getD, List.getElem?_eq_getElem hk]; exact h.2 _ (List.getElem_mem hk)
end Go.Proofs.YtemjlopoffjmpaaGreat.Abs
set_option linter.unusedSimpArgs false
set_option linter.unusedVariables false
namespace Go.Proofs.YtemjlopoffjmpaaGreat.Abs
open Go Go.Proofs
def idxA (p : Dset → Bool) (l : List Dset) : Int := match l.findIdx? p with
 | some i => i
 | none => -1
theorem idxA_some {p : Dset → Bool} {l : List Dset} {k : Nat} (hk : k < l.length) (hp : p (l.getD k default) = true) (hn : ∀ j, j < k → p (l.getD j default) = false) : idxA p l = k := by
 have g : ∀ j (h : j < l.length), l.getD j default = l[j] := fun j h => by rw [List.getD_eq_getElem?_getD, List.getElem?_eq_getElem h]; rfl
 have : l.findIdx? p = some k := by
  rw [List.findIdx?_eq_some_iff_getElem]
  refine ⟨hk, by rw [← g k hk]; exact hp, fun j hj => ?_⟩
  rw [← g j (by omega), hn j hj]; decide
 unfold idxA
 rw [this]
theorem idxA_none {p : Dset → Bool} {l : List Dset} (hn : ∀ j, j < l.length → p (l.getD j default) = false) : idxA p l = -1 := by
 have : l.findIdx? p = none := by
  rw [List.findIdx?_eq_none_iff]
  intro x hx
  obtain ⟨j, hj, rfl⟩ := List.mem_iff_getElem.1 hx
  have := hn j hj
  rwa [List.getD_eq_getElem?_getD, List.getElem?_eq_getElem hj] at this
 unfold idxA
 rw [this]
theorem idxA_cases (p : Dset → Bool) (l : List Dset) : (idxA p l = -1 ∧ ∀ j, j < l.length → p (l.getD j default) = false) ∨ ∃ k : Nat, idxA p l = k ∧ k < l.length ∧ p (l.getD k default) = true ∧ ∀ j, j < k → p (l.getD j default) = false := by
 have g : ∀ j (h : j < l.length), l.getD j default = l[j] := fun j h => by rw [List.getD_eq_getElem?_getD, List.getElem?_eq_getElem h]; rfl
 unfold idxA
 cases e : l.findIdx? p with
 | none =>
   refine .inl ⟨rfl, fun j hj => ?_⟩
   rw [List.findIdx?_eq_none_iff] at e
   rw [g j hj]; exact e _ (List.getElem_mem hj)
 | some k =>
   rw [List.findIdx?_eq_some_iff_getElem] at e
   obtain ⟨h1, h2, h3⟩ := e
   refine .inr ⟨k, rfl, h1, by rw [g k h1]; exact h2, fun j hj => ?_⟩
   rw [g j (by omega)]
   have := h3 j hj
   simpa using this
def findA (l : List Dset) (i : Int) : Int := idxA (fun d => decide (d.id = i)) l
theorem find_of {l : List Dset} {i : Int} : (findA l i = -1 ∧ ∀ j, j < l.length → (l.getD j default).id ≠ i) ∨ ∃ k : Nat, findA l i = k ∧ k < l.length ∧ (l.getD k default).id = i ∧ ∀ j, j < k → (l.getD j default).id ≠ i := by
 rcases idxA_cases (fun d => decide (d.id = i)) l with ⟨h1, h2⟩ | ⟨k, h1, h2, h3, h4⟩
 ·exact .inl ⟨h1, fun j hj => by simpa using h2 j hj⟩
 ·exact .inr ⟨k, h1, h2, by simpa using h3, fun j hj => by simpa using h4 j hj⟩
def isA (l : List Dset) (i kind : Int) : Bool := decide (0 ≤ findA l i) && decide ((l.getD (findA l i).toNat default).kind = kind)
def laterA (i j : Int) (d : Dset) : Bool := decide (d.kind = 2) && decide (d.origin = i) && decide (j < d.id)
end Go.Proofs.YtemjlopoffjmpaaGreat.Abs
set_option linter.unusedSimpArgs false
set_option linter.unusedVariables false
namespace Go.Proofs.YtemjlopoffjmpaaGreat.Abs
open Go Go.Proofs
def zeroC : List AV := [.int .i64 0, .int .i64 0, .int .i64 0, .int .i64 0, .emp]
end Go.Proofs.YtemjlopoffjmpaaGreat.Abs
set_option linter.unusedSimpArgs false
set_option linter.unusedVariables false
namespace Go.Proofs.YtemjlopoffjmpaaGreat.Abs
open Go Go.Proofs
def addOk (l : List Dset) (next : Int) : Bool := decide (l.length < 8) && decide (1 ≤ next) && decide (next ≤ 65535) && (decide (l.length = 0) || decide ((l.getD (l.length - 1) default).id < next))
def addA (l : List Dset) (next : Int) (x : Dset) : List Dset × Int := if addOk l next = true then (l ++ [{ x with id := next }], 0) else (l, 8)
def outA (r : List Dset × Int) : AV := .tuple [asets r.1, .int .i64 r.2]
theorem Short.snoc {l : List Dset} (h : Short l) (h8 : l.length < 8) {x : Dset} (hx : x.files.length ≤ 1000000) : Short (l ++ [x]) := by
 refine ⟨by simp; omega, fun d hd => ?_⟩
 rcases List.mem_append.1 hd with hd | hd
 ·exact h.2 d hd
 ·rw [List.mem_singleton] at hd; subst hd; exact hx
theorem KWk_sets {K : AV → AH → Prop} {H : AH} (r : Nat) (l : List Dset) (e : Int) (L : Nat) (hL : L = l.length) (hat : H.at r = some (l.map cellD)) (hk : K (.tuple [asets l, .int .i64 e]) []) : KWk 0 K (.tuple [.own r 5 0 L L, .int .i64 e]) H := by
 subst hL
 refine KWk_frozen r (l.map pdset) (by rw [cellsD]; exact hat) _ ?_ hk
 simp only [frzL, frz, renL, ren, asets, if_true, List.length_map, Nat.zero_add, Nat.le_refl, and_self, List.drop_zero]
 rw [List.take_of_length_le (by simp)]
section
variable {c : Nat} {H : AH} {late : List Loc → List Loc → Prop} {K : List Nat → Nat → AV → AH → Prop} {t : Tag K}
theorem CFT_clone (l : List Dset) (hl : l.length ≤ 1000000) (hc : c < H.length) (hk : K [c] (c + 1) (.own c 5 0 l.length l.length) (H.set c (some (l.map cellD)))) : CFT Tryz.prog 48 [asets l] c H late K t := by
 refine CET_ok [] 1 (x := .own 0 5 0 l.length l.length) (H1 := [some (l.map cellD)]) (by simpa [renL, ren, asets] using cloneL0 l hl) (fun y G h => h) ⟨by simp, by simp, by omega, by simp⟩ ?_
 simpa [setAll, renO_cells, ren, toCl, List.range'] using hk
end
theorem outA_bare (r : List Dset × Int) : bare (outA r) = true := by simp [outA, bare, bareL, asets]
theorem C_any {f : FuncId} {args : List AV} {y : AV} (h : C Tryz.prog f args [] (fun x H' => x = y ∧ H' = [])) (ha : bareL args = true) (hy : bare y = true) (H : AH) : C Tryz.prog f args H (fun x H' => x = y ∧ H' = H) :=
 C_pure (K0 := fun x => x = y) h (fun τ => renL_bare τ _ ha) (by rintro x rfl τ; exact ren_bare τ _ hy) H
end Go.Proofs.YtemjlopoffjmpaaGreat.Abs
namespace Go.Proofs.YtemjlopoffjmpaaGreat.Abs
open Go
def c76 : ACode :=
 (.seq (.reg [I1 0 (.mv (.c (.emp)))])
 (.seq (.reg [I1 2 (.mksl 5 56 [.int .i64 0, .int .i64 0, .str [], .str [], .int .i64 0] (KI 8) (KI 8)), I0 1 2])
 (.seq (.reg [I0 3 1, I1 4 (.iaddr 5 (.t 3) (KI 0)), I6 5 0 4, ⟨none, none, .store 1 (.t 5) (KI 2)⟩])
 (.seq (.reg [I0 6 1, I0 0 6])
 .ret))))
theorem d76 : FnD Tryz.prog 76 0 7 [.tmp 0] c76 := ⟨Tryz.f76, _, Tryz.func76, by kernel_rfl, rfl, rfl, by kernel_rfl, by kernel_rfl⟩
end Go.Proofs.YtemjlopoffjmpaaGreat.Abs
set_option linter.unusedSimpArgs false
set_option linter.unusedVariables false
namespace Go.Proofs.YtemjlopoffjmpaaGreat.Abs
open Go Go.Proofs
def getA (l : List Dset) (i : Int) : Option Dset := if 0 ≤ findA l i then some (l.getD (findA l i).toNat default) else none
def getV : Option Dset → AV
 | some d => .tuple [.agg (cellD d), .bool true]
 | none => .tuple [.agg [.int .i64 0, .int .i64 0, .int .i64 0, .int .i64 0, .emp], .bool false]
theorem getV_bare (o : Option Dset) : bare (getV o) = true := by cases o <;> simp [getV, bare, bareL, cellD, aset]
theorem getA_mem {l : List Dset} {i : Int} {d : Dset} (h : getA l i = some d) : d ∈ l ∧ d.id = i := by
 unfold getA at h
 rcases find_of (l := l) (i := i) with ⟨e, _⟩ | ⟨k, e, hk, hid, _⟩
 ·rw [e] at h; cases h
 ·rw [e, if_pos (by omega), Int.toNat_natCast] at h
  cases h
  refine ⟨?_, hid⟩
  rw [List.getD_eq_getElem?_getD, List.getElem?_eq_getElem hk]; exact List.getElem_mem hk
theorem newN0 : C Tryz.prog 76 [] [] (fun x H' => x = aset newA ∧ H' = []) := by
 refine C_body' d76 rfl (WT_ok ?_)
 delta c76 I0 I1 I2 I3 I4 I5 I6 I7 I8 I9 KI
 simp only [lay, wk3, wk, iaddrV_map, Nat.reduceAdd, Nat.reduceSub, Nat.reduceMul, Nat.reduceLeDiff, Nat.reduceEqDiff, Nat.reduceBEq, Int.reduceLE, Int.reduceLT, Int.reduceEq, Int.reduceNe, Int.reduceAdd, Int.reduceSub, Int.reduceToNat, Int.reduceNeg, ↓reduceIte, reduceCtorEq]
 exact ⟨by omega, KWk_frozen 0 (newA.map pnode) rfl (aset newA) rfl ⟨rfl, rfl⟩⟩
theorem newN (H : AH) : C Tryz.prog 76 [] H (fun x H' => x = aset newA ∧ H' = H) := C_any newN0 rfl (by simp [aset, bare]) H
def createA (l : List Dset) (next q : Int) : List Dset × Int := if q < 0 ∨ 255 < q then (l, 1) else addA l next ⟨0, 1, 0, q, newA⟩
def snapA (l : List Dset) (next i : Int) : List Dset × Int := match getA l i with
 | none => (l, 2)
 | some d => if d.kind = 2 then (l, 11) else addA l next ⟨0, 2, i, 0, d.files⟩
def cloneA (l : List Dset) (next i : Int) : List Dset × Int := match getA l i with
 | none => (l, 2)
 | some d => if d.kind = 2 then addA l next ⟨0, 1, i, 0, d.files⟩ else (l, 1)
end Go.Proofs.YtemjlopoffjmpaaGreat.Abs
set_option linter.unusedSimpArgs false
set_option linter.unusedVariables false
namespace Go.Proofs.YtemjlopoffjmpaaGreat.Abs
open Go Go.Proofs
theorem iaddr_dset (H : AH) (l : List Dset) (k : IntKind) (n : Int) : iaddrV H 5 (.fz (l.map pdset)) (.int k n) = if 0 ≤ n ∧ n < l.length then some (.fptr (pdset (l.getD n.toNat default))) else none := by
 rw [iaddrV_map]
 have : (pdset (l.getD n.toNat default)).length = 5 := rfl
 simp only [this, and_true]
theorem rid68 (n : Int) (H : AH) : C Tryz.prog 61 [.int .i64 n] H (fun x H' => x = .bool (decide (0 ≤ n) && decide (n ≤ 65535)) ∧ H' = H) := by
 refine C_body d61 rfl (WT_ok ?_)
 delta c61 I0 I1 I2 I3 I4 I5 I6 I7 I8 I9 KI
 simp only [lay, wk3, wk, iaddrV_map, seval]
 refine guard_both ?_ ?_ <;> intro h <;> simp only [hy] at h <;> simp only [h, lay, Bool.false_and, wk3, wk, iaddrV_map, seval]
theorem rat85 (l : List Dset) (hl : l.length ≤ 1000000) (i : Int) (H : AH) : C Tryz.prog 52 [asets l, .int .i64 i] H (fun x H' => x = .int .i64 (findA l i) ∧ H' = H) := by
 refine C_body d52 rfl (WT_ok ?_)
 delta c52 I0 I1 I2 I3 I4 I5 I6 I7 I8 I9 KI
 simp only [asets, lay, wk3, wk, iaddrV_map, seval]
 refine WT_loop (W_loop (fun n fr H' => ∃ k : Nat, k ≤ l.length ∧ n = l.length - k ∧ (∀ j, j < k → (l.getD j default).id ≠ i) ∧ H' = H ∧ fr = [asets l, .int .i64 i, .top, .top, .int .i64 0, .int .i64 k] ++ List.replicate 14 .top) l.length ⟨0, by omega, rfl, fun j hj => by omega, rfl, rfl⟩ ?_)
 rintro n fr H' ⟨k, hk, rfl, hne, rfl, rfl⟩
 refine WT_ok ?_
 simp only [asets, lay, wk3, wk, iaddrV_map, seval]
 refine guard_both ?_ ?_ <;> intro h <;> simp only [hy] at h
 ·have hk2 : k < l.length := by omega
  have w2 : IntKind.i64.wrap ((k : Int) + 1) = (k : Int) + 1 := IntWalk.i64_in _ (by omega)
  have h0 : (0 : Int) ≤ k := by omega
  have e5 : (pdset (l.getD k default)).length = 5 := rfl
  simp only [h, h0, e5, pdset, lay, wk3, wk, iaddrV_map, seval]
  by_cases hid : (l.getD k default).id = i
  ·simp only [hid, lay, wk3, wk, iaddrV_map, seval]
   unfold findA
   rw [idxA_some hk2 (by simpa using hid) (fun j hj => by simpa using hne j hj)]
  ·simp only [hid, w2, lay, wk3, wk, iaddrV_map, seval]
   refine QLoop_go (n' := l.length - (k + 1)) (by omega) ⟨k + 1, by omega, rfl, fun j hj => ?_, rfl, rfl⟩ ?_
   ·rcases Nat.lt_or_ge j k with h' | h'
    ·exact hne j h'
    ·have : j = k := by omega
     subst this; exact hid
   ·simp only [asets, tq]
 ·simp only [h, lay, wk3, wk, iaddrV_map, seval]
  unfold findA
  rw [idxA_none fun j hj => by simpa using hne j (by omega)]
theorem rget0 (l : List Dset) (hl : l.length ≤ 1000000) (i : Int) : C Tryz.prog 30 [asets l, .int .i64 i] [] (fun x H' => x = getV (getA l i) ∧ H' = []) := by
 refine C_body' d30 rfl (WT_ok ?_)
 delta c30 I0 I1 I2 I3 I4 I5 I6 I7 I8 I9 KI
 simp only [lay, wk3, wk, iaddrV_map, seval]
 refine CT_ok (rat85 l hl i _) ?_
 rintro _ _ ⟨rfl, rfl⟩
 unfold getA
 rcases find_of (l := l) (i := i) with ⟨e, _⟩ | ⟨k, e, hk, _, _⟩
 ·simp only [e, asets, lay, wk3, wk, iaddrV_map, seval]
  exact KWk_bare (by simp [bare, bareL]) ⟨rfl, rfl⟩
 ·have h0 : (0 : Int) ≤ k := by omega
  have h1 : (k : Int) < l.length := by omega
  have h2 : ¬ (k : Int) < 0 := by omega
  have e5 : (pdset (l.getD k default)).length = 5 := rfl
  rw [e]
  simp only [h0, h1, h2, e5, asets, pdset, lay, wk3, wk, iaddrV_map, seval]
  exact KWk_bare (by simp [bare, bareL]) ⟨rfl, rfl⟩
theorem rgetL (l : List Dset) (hl : l.length ≤ 1000000) (i : Int) (H : AH) : C Tryz.prog 30 [asets l, .int .i64 i] H (fun x H' => x = getV (getA l i) ∧ H' = H) :=
 C_any (rget0 l hl i) (by simp [bareL, bare, asets]) (getV_bare _) H
theorem eqCells_node (x y : Node) : eqCells [.i, .i, .s, .s, .i] [.int .i64 x.kind, .int .i64 x.up, .str x.name, .str x.body, .int .i64 x.bad] [.int .i64 y.kind, .int .i64 y.up, .str y.name, .str y.body, .int .i64 y.bad] = some (decide (x = y)) := by
 simp only [eqCells, if_true, Option.map_some, Option.some.injEq]
 cases x; cases y
 simp only [Node.mk.injEq]
 rw [Bool.eq_iff_iff]
 simp only [Bool.and_eq_true, beq_iff_eq, decide_eq_true_eq, and_true]
theorem same33 (a b : List Node) (ha : a.length ≤ 1000000) (hb : b.length ≤ 1000000) (H : AH) : C Tryz.prog 28 [aset a, aset b] H (fun x H' => x = .bool (decide (a = b)) ∧ H' = H) := by
 refine C_body d28 rfl (WT_ok ?_)
 delta c28 I0 I1 I2 I3 I4 I5 I6 I7 I8 I9 KI
 simp only [aset, iaddr_node, pnode, wk3, wk, seval]
 by_cases hlen : a.length = b.length
 ·have hlen' : (a.length : Int) = b.length := by omega
  simp only [hlen', iaddr_node, pnode, wk3, wk, seval]
  refine WT_loop (W_wk (fr' := [aset a, aset b, .top, .top, .bool false, .int .i64 0] ++ List.replicate 20 .top) (Wk_tops ?_) (W_loop (fun n fr H' => ∃ i : Nat, i ≤ a.length ∧ n = a.length - i ∧ (∀ j, j < i → a.getD j default = b.getD j default) ∧ H' = H ∧ fr = [aset a, aset b, .top, .top, .bool false, .int .i64 i] ++ List.replicate 20 .top) a.length ⟨0, by omega, rfl, fun j hj => by omega, rfl, rfl⟩ ?_))
  ·simp only [aset, tp]
  rintro n fr H' ⟨i, hi, rfl, hj, rfl, rfl⟩
  refine WT_ok ?_
  simp only [aset, iaddr_node, pnode, wk3, wk, seval]
  refine guard_both ?_ ?_ <;> intro h <;> simp only [hy] at h
  ·have hil : i < a.length := by omega
   have h0 : (0 : Int) ≤ i := by omega
   have h1 : (i : Int) < b.length := by omega
   have w2 : IntKind.i64.wrap ((i : Int) + 1) = (i : Int) + 1 := IntWalk.i64_in _ (by omega)
   simp only [h, iaddr_node, pnode, wk3, wk, seval]
   refine WT_draw ?_
   by_cases h2 : a.getD i default = b.getD i default
   ·simp only [h, h0, h1, h2, eqCells_node, w2, iaddr_node, pnode, wk3, wk, seval]
    refine QLoop_go (n' := a.length - (i + 1)) (by omega) ⟨i + 1, by omega, rfl, fun j hj2 => ?_, rfl, rfl⟩ ?_
    ·rcases Nat.lt_or_ge j i with h' | h'
     ·exact hj j h'
     ·have : j = i := by omega
      subst this; exact h2
    ·simp only [aset, tq]
   ·have : ¬ a = b := fun e => h2 (by rw [e])
    simp only [h, h0, h1, h2, this, eqCells_node, w2, iaddr_node, pnode, wk3, wk, seval]
  ·have : a = b := by
    apply List.ext_getElem hlen
    intro j h1 h2
    have := hj j (by omega)
    rwa [List.getD_eq_getElem?_getD, List.getElem?_eq_getElem h1, List.getD_eq_getElem?_getD, List.getElem?_eq_getElem h2] at this
   have hd : decide (a = b) = true := decide_eq_true this
   simp only [h, hd, iaddr_node, pnode, wk3, wk, seval]
 ·have hlen' : ¬ (a.length : Int) = b.length := by omega
  have : ¬ a = b := fun e => hlen (by rw [e])
  simp only [hlen', this, iaddr_node, pnode, wk3, wk, seval]
end Go.Proofs.YtemjlopoffjmpaaGreat.Abs
