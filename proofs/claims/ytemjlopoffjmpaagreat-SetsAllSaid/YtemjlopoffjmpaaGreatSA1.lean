/-
  Part 1 of the proof: no condition. (Parts of the abstract layer, of the program's functions in its form, and of their contracts.)
-/
import Derived.Test.YtemjlopoffjmpaaGreatSAAbs22
import Derived.Test.YtemjlopoffjmpaaGreatProg
import Derived.KernelRfl
import Derived.Test.YtemjlopoffjmpaaGreatSAWk
import Derived.Test.YtemjlopoffjmpaaGreatSAAbs27
import Derived.IntWalk
import Derived.Shelf.Strings.Builder1
import Derived.Shelf.Strings.Builder2
import Derived.Shelf.Small.Strs
import Derived.Shelf.Strings.BuilderF
import Derived.Shelf.Strings.Search1
import Derived.Shelf.Strings.Prefix
import Derived.Shelf.Bits.Mul64
import Derived.Shelf.Strings.Repeat
import Derived.Test.YtemjlopoffjmpaaGreatSAAbs28
import Derived.Test.YtemjlopoffjmpaaGreatSAAbs29
import Derived.Test.YtemjlopoffjmpaaGreatSAWk3
import Derived.Test.YtemjlopoffjmpaaGreatSAAbs38
namespace Go.Proofs.YtemjlopoffjmpaaGreat.Abs
open Go
def c3 : ACode :=
 (.seq (.reg [I1 8 (.mv (.c (.bool false)))])
 (.seq (.seq (.reg [I1 18 (.call 12 []), I1 19 (.un .not (.t 18))])
 (.cond (.t 19)
 (.seq (.reg [I1 8 (.mv (.c (.bool false)))])
 .ret)
 .skip))
 (.seq (.seq (.reg [I0 20 0, I1 21 (.len false (.t 20)), I1 22 (.bini .gtr (.t 21) (KI 80)), I0 23 22, I5 24 23 1, I3 25 23 (.len false (.t 24)), I3 26 23 (.bini .gtr (.t 25) (KI 60)), I1 27 (.pick (.t 23) (.c (.bool true)) (.t 26))])
 (.cond (.t 27)
 (.seq (.reg [I1 8 (.mv (.c (.bool true)))])
 .ret)
 .skip))
 (.seq (.reg [I0 28 0, I1 29 (.call 13 [(.t 28)]), I1 30 (.call 14 [(.t 29), (KI 25)]), I0 9 30])
 (.seq (.reg [I0 31 1, I1 32 (.call 13 [(.t 31)]), I1 33 (.call 15 [(.t 32), (KI 25)]), I0 10 33])
 (.seq (.reg [I1 34 (.bslice 5 0 [.int .i64 0, .int .i64 0, .int .i64 0, .int .i64 0, .emp] []), I0 35 9, I1 36 (.append 5 56 [.int .i64 0, .int .i64 0, .int .i64 0, .int .i64 0, .emp] (.t 34) (.t 35)), I0 11 36])
 (.seq (.seq (.reg [I0 37 11, I1 38 (.iaddr 5 (.t 37) (KI 0)), I6 39 1 38, I7 40 39, I1 41 (.bini .eql (.t 40) (KI 1))])
 (.cond (.t 41)
 (.reg [I0 42 11, I0 43 3, I1 44 (.bini .rem (.t 43) (.c (.int .u8 20))), I1 45 (.convi .i64 (.t 44)), I1 46 (.iaddr 5 (.t 42) (KI 0)), I6 47 3 46, I9 1 47 45])
 .skip))
 (.seq (.reg [I0 48 2, I0 49 11, I1 50 (.iaddr 5 (.t 49) (KI 0)), I6 51 0 50, I7 52 51, I0 53 3, I1 54 (.bini .rem (.t 53) (.c (.int .u8 9))), I1 55 (.convi .i64 (.t 54)), I1 56 (.bini .add (KI 1) (.t 55)), I1 57 (.bslice 1 4 [.int .i64 0] [(0, (.t 48)), (1, (KI 1)), (2, (.t 52)), (3, (.t 56))]), I0 12 57])
 (.seq (.seq (.reg [I1 13 (.mv (KI 0))])
 (.block 0
 (.loop
 (.seq (.seq (.reg [I0 58 13, I1 59 (.bini .lss (.t 58) (KI 4))])
 (.cond (.t 59)
 .skip
 (.exit 0)))
 (.seq (.block 1
 (.seq (.reg [I0 63 11, I0 64 12, I0 65 13, I1 66 (.iaddr 1 (.t 64) (.t 65)), I7 67 66, I0 68 10, I1 69 (.call 16 [(.t 63), (.t 67), (.t 68)]), I0 62 69, I8 70 62 0, I8 71 62 1, I0 14 70, I0 15 71])
 (.seq (.reg [I0 73 11, I0 74 12, I0 75 13, I1 76 (.iaddr 1 (.t 74) (.t 75)), I7 77 76, I0 78 10, I1 79 (.call 17 [(.t 73), (.t 77), (.t 78)]), I0 72 79, I8 80 72 0, I8 81 72 1, I0 16 80, I0 17 81])
 (.seq (.reg [I0 82 15, I0 83 17, I1 84 (.bini .neq (.t 82) (.t 83)), I0 85 84, I5 86 85 14, I5 87 85 16, I3 88 85 (.call 18 [(.t 86), (.t 87)]), I3 89 85 (.un .not (.t 88)), I1 90 (.pick (.t 85) (.c (.bool true)) (.t 89))])
 (.cond (.t 90)
 (.seq (.reg [I1 8 (.mv (.c (.bool false)))])
 .ret)
 .skip)))))
 (.reg [I0 60 13, I1 61 (.bini .add (.t 60) (KI 1)), I0 13 61]))))))
 (.seq (.reg [I0 91 10, I1 92 (.call 19 [(.t 91)]), I0 93 10, I1 94 (.call 20 [(.t 93)]), I1 95 (.bini .eql (.t 92) (.t 94)), I0 96 95, I4 97 96 9, I2 98 96 (.call 21 [(.t 97)]), I4 99 96 9, I2 100 96 (.call 22 [(.t 99)]), I2 101 96 (.bini .eql (.t 98) (.t 100)), I1 102 (.pick (.t 96) (.t 101) (.c (.bool false))), I0 103 102, I2 104 103 (.call 21 [(.c (.emp))]), I2 105 103 (.bini .eql (.t 104) (KI 3)), I1 106 (.pick (.t 103) (.t 105) (.c (.bool false))), I0 8 106])
 .ret))))))))))
theorem d3 : FnD Tryz.prog 3 4 103 [.tmp 8] c3 := ⟨Tryz.f3, _, Tryz.func3, by kernel_rfl, rfl, rfl, by kernel_rfl, by kernel_rfl⟩
end Go.Proofs.YtemjlopoffjmpaaGreat.Abs
namespace Go.Proofs.YtemjlopoffjmpaaGreat.Abs
open Go
def c4 : ACode :=
 (.seq (.reg [I1 8 (.mv (.c (.bool false)))])
 (.seq (.seq (.reg [I1 16 (.call 12 []), I1 17 (.un .not (.t 16))])
 (.cond (.t 17)
 (.seq (.reg [I1 8 (.mv (.c (.bool false)))])
 .ret)
 .skip))
 (.seq (.seq (.reg [I0 18 0, I1 19 (.len false (.t 18)), I1 20 (.bini .gtr (.t 19) (KI 80)), I0 21 20, I5 22 21 1, I3 23 21 (.len false (.t 22)), I3 24 21 (.bini .gtr (.t 23) (KI 60)), I1 25 (.pick (.t 21) (.c (.bool true)) (.t 24))])
 (.cond (.t 25)
 (.seq (.reg [I1 8 (.mv (.c (.bool true)))])
 .ret)
 .skip))
 (.seq (.reg [I1 26 (.bslice 5 0 [.int .i64 0, .int .i64 0, .int .i64 0, .int .i64 0, .emp] []), I0 27 0, I1 28 (.call 13 [(.t 27)]), I1 29 (.call 14 [(.t 28), (KI 25)]), I1 30 (.append 5 56 [.int .i64 0, .int .i64 0, .int .i64 0, .int .i64 0, .emp] (.t 26) (.t 29)), I0 9 30])
 (.seq (.reg [I0 31 9, I0 32 2, I1 33 (.convi .i64 (.t 32)), I0 34 9, I1 35 (.len false (.t 34)), I1 36 (.bini .rem (.t 33) (.t 35)), I1 37 (.iaddr 5 (.t 31) (.t 36)), I1 38 (.load true 5 (.t 37)), I1 10 (.alloc [.int .i64 0, .int .i64 0, .int .i64 0, .int .i64 0, .emp]), I9 5 10 38])
 (.seq (.seq (.reg [I6 39 1 10, I7 40 39, I1 41 (.bini .eql (.t 40) (KI 1))])
 (.cond (.t 41)
 (.seq (.reg [I0 42 3, I1 43 (.bini .rem (.t 42) (.c (.int .u8 30))), I1 44 (.convi .i64 (.t 43)), I6 45 3 10, I9 1 45 44])
 (.dregE [[(0, I0 46 9), (1, I0 47 2), (2, I1 48 (.convi .i64 (.t 47))), (3, I0 49 9), (4, I1 50 (.len false (.t 49))), (5, I1 51 (.bini .rem (.t 48) (.t 50))), (6, I1 52 (.load true 5 (.t 10)))], [(7, I1 53 (.iaddr 5 (.t 46) (.t 51)))], [(8, I9 5 53 52)]]
  [[], [], [1], [], [3], [1, 2, 3, 4], [], [0, 1, 2, 3, 4, 5, 6], [0, 1, 2, 3, 4, 5, 6, 7]]))
 .skip))
 (.seq (.reg [I0 54 1, I1 55 (.call 13 [(.t 54)]), I1 56 (.call 15 [(.t 55), (KI 25)]), I0 11 56])
 (.seq (.reg [I0 58 9, I6 59 0 10, I7 60 59, I0 61 11, I1 62 (.call 16 [(.t 58), (.t 60), (.t 61)]), I0 57 62, I8 63 57 0, I8 64 57 1, I0 12 63, I0 13 64])
 (.seq (.seq (.reg [I0 65 12, I1 66 (.len false (.t 65)), I0 67 9, I1 68 (.len false (.t 67)), I1 69 (.bini .neq (.t 66) (.t 68)), I0 70 69, I5 71 70 13, I3 72 70 (.bini .eql (.t 71) (KI 11)), I3 73 70 (.faddr 1 (.t 10)), I3 74 70 (.load false 1 (.t 73)), I3 75 70 (.bini .eql (.t 74) (KI 2)), I3 76 70 (.eqb true (.t 72) (.t 75)), I1 77 (.pick (.t 70) (.c (.bool true)) (.t 76)), I0 78 77, I5 79 78 13, I3 80 78 (.bini .neq (.t 79) (KI 0)), I5 81 78 80, I4 82 81 12, I4 83 81 9, I2 84 81 (.call 18 [(.t 82), (.t 83)]), I2 85 81 (.un .not (.t 84)), I3 86 78 (.pick (.t 81) (.t 85) (.c (.bool false))), I1 87 (.pick (.t 78) (.c (.bool true)) (.t 86))])
 (.cond (.t 87)
 (.seq (.reg [I1 8 (.mv (.c (.bool false)))])
 .ret)
 .skip))
 (.seq (.seq (.reg [I0 88 13, I1 89 (.bini .neq (.t 88) (KI 0))])
 (.cond (.t 89)
 (.seq (.dregE [[(0, I0 90 13)], [(1, I1 91 (.bini .eql (.t 90) (KI 11)))], [(2, I0 92 91)], [(3, I5 93 92 13)], [(4, I3 94 92 (.bini .eql (.t 93) (KI 9)))], [(5, I5 95 92 94)], [(6, I4 96 95 11), (8, I2 98 95 (.faddr 4 (.t 10))), (9, I2 99 95 (.load false 1 (.t 98))), (7, I2 97 95 (.call 19 [(.t 96)]))], [(10, I2 100 95 (.call 19 [(.t 99)]))], [(11, I2 101 95 (.bini .gtr (.t 97) (.t 100)))], [(12, I3 102 92 (.pick (.t 95) (.t 101) (.c (.bool false))))], [(13, I5 103 92 102)], [(14, I4 104 103 11), (16, I2 106 103 (.faddr 3 (.t 10))), (17, I2 107 103 (.load false 1 (.t 106))), (15, I2 105 103 (.call 19 [(.t 104)]))], [(18, I2 108 103 (.bini .gtr (.t 105) (.t 107)))], [(19, I3 109 92 (.pick (.t 103) (.t 108) (.c (.bool false))))], [(20, I1 110 (.pick (.t 92) (.c (.bool true)) (.t 109)))], [(21, I0 8 110)]]
  [[], [0], [0, 1], [0, 1, 2], [0, 1, 2, 3], [0, 1, 2, 3, 4], [0, 1, 2, 3, 4, 5], [0, 1, 2, 3, 4, 5, 6], [0, 1, 2, 3, 4, 5], [0, 1, 2, 3, 4, 5, 8], [0, 1, 2, 3, 4, 5, 6, 7, 8, 9], [0, 1, 2, 3, 4, 5, 6, 7, 8, 9, 10], [0, 1, 2, 3, 4, 5, 6, 7, 8, 9, 10, 11], [0, 1, 2, 3, 4, 5, 6, 7, 8, 9, 10, 11, 12], [0, 1, 2, 3, 4, 5, 6, 7, 8, 9, 10, 11, 12, 13], [0, 1, 2, 3, 4, 5, 6, 7, 8, 9, 10, 11, 12, 13, 14], [0, 1, 2, 3, 4, 5, 6, 7, 8, 9, 10, 11, 12, 13], [0, 1, 2, 3, 4, 5, 6, 7, 8, 9, 10, 11, 12, 13, 16], [0, 1, 2, 3, 4, 5, 6, 7, 8, 9, 10, 11, 12, 13, 14, 15, 16, 17], [0, 1, 2, 3, 4, 5, 6, 7, 8, 9, 10, 11, 12, 13, 14, 15, 16, 17, 18], [0, 1, 2, 3, 4, 5, 6, 7, 8, 9, 10, 11, 12, 13, 14, 15, 16, 17, 18, 19], [0, 1, 2, 3, 4, 5, 6, 7, 8, 9, 10, 11, 12, 13, 14, 15, 16, 17, 18, 19, 20]])
 .ret)
 .skip))
 (.seq (.seq (.reg [I1 14 (.mv (KI 0))])
 (.block 0
 (.loop
 (.seq (.seq (.reg [I0 111 14, I0 112 9, I1 113 (.len false (.t 112)), I1 114 (.bini .lss (.t 111) (.t 113))])
 (.cond (.t 114)
 .skip
 (.exit 0)))
 (.seq (.block 1
 (.seq (.reg [I0 117 9, I0 118 14, I1 119 (.iaddr 5 (.t 117) (.t 118)), I1 120 (.load true 5 (.t 119)), I1 15 (.alloc [.int .i64 0, .int .i64 0, .int .i64 0, .int .i64 0, .emp]), I9 5 15 120])
 (.seq (.seq (.reg [I6 121 0 15, I7 122 121, I6 123 0 10, I7 124 123, I1 125 (.bini .eql (.t 122) (.t 124))])
 (.cond (.t 125)
 (.reg [I0 126 11, I6 127 4 15, I9 1 127 126])
 .skip))
 (.seq (.dregE [[(0, I0 128 12), (1, I0 129 14), (2, I0 130 14), (3, I1 131 (.bini .add (.t 130) (KI 1))), (4, I1 132 (.slicel 5 (.t 128) (some (.t 129)) (some (.t 131)))), (5, I1 133 (.load true 5 (.t 15))), (6, I1 134 (.bslice 5 1 [.int .i64 0, .int .i64 0, .int .i64 0, .int .i64 0, .emp] [(0, (.t 133))]))], [(7, I1 135 (.call 18 [(.t 132), (.t 134)]))], [(8, I1 136 (.un .not (.t 135)))]]
  [[], [], [], [2], [0, 1, 2, 3], [], [5], [0, 1, 2, 3, 4, 5, 6], [0, 1, 2, 3, 4, 5, 6, 7]])
 (.cond (.t 136)
 (.seq (.reg [I1 8 (.mv (.c (.bool false)))])
 .ret)
 .skip)))))
 (.reg [I0 115 14, I1 116 (.bini .add (.t 115) (KI 1)), I0 14 116]))))))
 (.seq (.reg [I1 8 (.mv (.c (.bool true)))])
 .ret))))))))))))
theorem d4 : FnD Tryz.prog 4 4 133 [.tmp 8] c4 := ⟨Tryz.f4, _, Tryz.func4, by kernel_rfl, rfl, rfl, by kernel_rfl, by kernel_rfl⟩
end Go.Proofs.YtemjlopoffjmpaaGreat.Abs
namespace Go.Proofs.YtemjlopoffjmpaaGreat.Abs
open Go
def c5 : ACode :=
 (.seq (.reg [I1 6 (.mv (.c (.bool false)))])
 (.seq (.seq (.reg [I1 24 (.call 23 []), I1 25 (.un .not (.t 24))])
 (.cond (.t 25)
 (.seq (.reg [I1 6 (.mv (.c (.bool false)))])
 .ret)
 .skip))
 (.seq (.seq (.reg [I0 26 0, I1 27 (.len false (.t 26)), I1 28 (.bini .gtr (.t 27) (KI 80)), I0 29 28, I5 30 29 1, I3 31 29 (.len false (.t 30)), I3 32 29 (.bini .gtr (.t 31) (KI 30)), I1 33 (.pick (.t 29) (.c (.bool true)) (.t 32))])
 (.cond (.t 33)
 (.seq (.reg [I1 6 (.mv (.c (.bool true)))])
 .ret)
 .skip))
 (.seq (.reg [I0 34 0, I1 35 (.call 13 [(.t 34)]), I1 36 (.call 14 [(.t 35), (KI 25)]), I0 7 36])
 (.seq (.reg [I0 37 7, I0 38 2, I1 39 (.convi .i64 (.t 38)), I0 40 7, I1 41 (.len false (.t 40)), I1 42 (.bini .rem (.t 39) (.t 41)), I1 43 (.iaddr 5 (.t 37) (.t 42)), I1 44 (.load true 5 (.t 43)), I1 8 (.alloc [.int .i64 0, .int .i64 0, .int .i64 0, .int .i64 0, .emp]), I9 5 8 44])
 (.seq (.reg [I0 46 7, I6 47 0 8, I7 48 47, I1 49 (.call 24 [(.t 46), (KI 1000), (.t 48)]), I0 45 49, I8 50 45 0, I8 51 45 1, I0 9 50, I0 10 51])
 (.seq (.seq (.reg [I0 52 10, I1 53 (.bini .neq (.t 52) (KI 0))])
 (.cond (.t 53)
 (.seq (.reg [I0 54 10, I1 55 (.bini .eql (.t 54) (KI 11)), I6 56 1 8, I7 57 56, I1 58 (.bini .eql (.t 57) (KI 2)), I1 59 (.eqb false (.t 55) (.t 58)), I0 60 59, I4 61 60 10, I2 62 60 (.bini .eql (.t 61) (KI 11)), I4 63 60 62, I5 64 63 10, I3 65 63 (.bini .eql (.t 64) (KI 8)), I5 66 63 65, I4 67 66 7, I2 68 66 (.len false (.t 67)), I2 69 66 (.bini .eql (.t 68) (KI 8)), I3 70 63 (.pick (.t 66) (.t 69) (.c (.bool false))), I2 71 60 (.pick (.t 63) (.c (.bool true)) (.t 70)), I1 72 (.pick (.t 60) (.t 71) (.c (.bool false))), I0 6 72])
 .ret)
 .skip))
 (.seq (.reg [I0 74 9, I1 75 (.call 25 [(.t 74), (KI 1001), (KI 1000)]), I0 73 75, I8 76 73 0, I8 77 73 1, I0 11 76, I0 12 77])
 (.seq (.seq (.reg [I0 78 12, I1 79 (.bini .neq (.t 78) (KI 0))])
 (.cond (.t 79)
 (.seq (.reg [I0 80 12, I1 81 (.bini .eql (.t 80) (KI 8)), I0 82 81, I4 83 82 9, I2 84 82 (.len false (.t 83)), I2 85 82 (.bini .eql (.t 84) (KI 8)), I1 86 (.pick (.t 82) (.t 85) (.c (.bool false))), I0 6 86])
 .ret)
 .skip))
 (.seq (.dregE [[(0, I0 87 1), (2, I6 89 4 8), (3, I7 90 89), (1, I1 88 (.call 13 [(.t 87)]))], [(4, I1 91 (.call 26 [(.t 88), (.t 90), (KI 15)]))], [(5, I0 13 91)]]
  [[], [0], [], [2], [0, 1, 2, 3], [0, 1, 2, 3, 4]])
 (.seq (.reg [I0 93 11, I0 94 13, I1 95 (.call 17 [(.t 93), (KI 1001), (.t 94)]), I0 92 95, I8 96 92 0, I8 97 92 1, I0 14 96, I0 15 97])
 (.seq (.reg [I0 99 14, I1 100 (.call 27 [(.t 99), (KI 1000)]), I0 98 100, I8 101 98 0, I8 102 98 1, I1 16 (.alloc [.int .i64 0, .int .i64 0, .int .i64 0, .int .i64 0, .emp]), I9 5 16 101, I0 17 102])
 (.seq (.reg [I0 104 14, I6 105 0 8, I7 106 105, I1 107 (.call 27 [(.t 104), (.t 106)]), I0 103 107, I8 108 103 0, I8 109 103 1, I1 18 (.alloc [.int .i64 0, .int .i64 0, .int .i64 0, .int .i64 0, .emp]), I9 5 18 108, I0 19 109])
 (.seq (.seq (.reg [I0 110 15, I1 111 (.bini .neq (.t 110) (KI 0)), I0 112 111, I5 113 112 17, I3 114 112 (.un .not (.t 113)), I1 115 (.pick (.t 112) (.c (.bool true)) (.t 114)), I0 116 115, I5 117 116 19, I3 118 116 (.un .not (.t 117)), I1 119 (.pick (.t 116) (.c (.bool true)) (.t 118)), I0 120 119, I3 121 120 (.faddr 4 (.t 16)), I3 122 120 (.load false 1 (.t 121)), I3 123 120 (.faddr 4 (.t 8)), I3 124 120 (.load false 1 (.t 123)), I3 125 120 (.call 28 [(.t 122), (.t 124)]), I3 126 120 (.un .not (.t 125)), I1 127 (.pick (.t 120) (.c (.bool true)) (.t 126)), I0 128 127, I3 129 128 (.faddr 4 (.t 18)), I3 130 128 (.load false 1 (.t 129)), I3 131 128 (.faddr 4 (.t 8)), I3 132 128 (.load false 1 (.t 131)), I3 133 128 (.call 28 [(.t 130), (.t 132)]), I3 134 128 (.un .not (.t 133)), I1 135 (.pick (.t 128) (.c (.bool true)) (.t 134))])
 (.cond (.t 135)
 (.seq (.reg [I1 6 (.mv (.c (.bool false)))])
 .ret)
 .skip))
 (.seq (.reg [I0 137 14, I1 138 (.call 29 [(.t 137), (KI 1001)]), I0 136 138, I8 139 136 0, I8 140 136 1, I0 20 139, I0 21 140])
 (.seq (.reg [I0 142 20, I1 143 (.call 27 [(.t 142), (KI 1001)]), I0 141 143, I8 144 141 0, I8 145 141 1, I1 22 (.alloc [.int .i64 0, .int .i64 0, .int .i64 0, .int .i64 0, .emp]), I9 5 22 144, I0 23 145])
 (.seq (.reg [I0 147 20, I1 148 (.call 27 [(.t 147), (KI 1000)]), I0 146 148, I8 149 146 0, I8 150 146 1, I9 5 16 149])
 (.seq (.reg [I0 152 20, I6 153 0 8, I7 154 153, I1 155 (.call 27 [(.t 152), (.t 154)]), I0 151 155, I8 156 151 0, I8 157 151 1, I9 5 18 156])
 (.seq (.reg [I0 158 21, I1 159 (.bini .eql (.t 158) (KI 0)), I0 160 159, I4 161 160 23, I1 162 (.pick (.t 160) (.t 161) (.c (.bool false))), I0 163 162, I2 164 163 (.faddr 4 (.t 22)), I2 165 163 (.load false 1 (.t 164)), I4 166 163 13, I2 167 163 (.call 28 [(.t 165), (.t 166)]), I1 168 (.pick (.t 163) (.t 167) (.c (.bool false))), I0 169 168, I2 170 169 (.faddr 2 (.t 16)), I2 171 169 (.load false 1 (.t 170)), I2 172 169 (.bini .eql (.t 171) (KI 1001)), I1 173 (.pick (.t 169) (.t 172) (.c (.bool false))), I0 174 173, I2 175 174 (.faddr 2 (.t 18)), I2 176 174 (.load false 1 (.t 175)), I2 177 174 (.bini .eql (.t 176) (KI 1000)), I1 178 (.pick (.t 174) (.t 177) (.c (.bool false))), I0 179 178, I2 180 179 (.faddr 2 (.t 22)), I2 181 179 (.load false 1 (.t 180)), I2 182 179 (.faddr 2 (.t 8)), I2 183 179 (.load false 1 (.t 182)), I2 184 179 (.bini .eql (.t 181) (.t 183)), I1 185 (.pick (.t 179) (.t 184) (.c (.bool false))), I0 186 185, I2 187 186 (.faddr 4 (.t 16)), I2 188 186 (.load false 1 (.t 187)), I2 189 186 (.faddr 4 (.t 8)), I2 190 186 (.load false 1 (.t 189)), I2 191 186 (.call 28 [(.t 188), (.t 190)]), I1 192 (.pick (.t 186) (.t 191) (.c (.bool false))), I0 193 192, I2 194 193 (.faddr 4 (.t 18)), I2 195 193 (.load false 1 (.t 194)), I2 196 193 (.faddr 4 (.t 8)), I2 197 193 (.load false 1 (.t 196)), I2 198 193 (.call 28 [(.t 195), (.t 197)]), I1 199 (.pick (.t 193) (.t 198) (.c (.bool false))), I0 6 199])
 .ret)))))))))))))))))))
theorem d5 : FnD Tryz.prog 5 3 197 [.tmp 6] c5 := ⟨Tryz.f5, _, Tryz.func5, by kernel_rfl, rfl, rfl, by kernel_rfl, by kernel_rfl⟩
end Go.Proofs.YtemjlopoffjmpaaGreat.Abs
namespace Go.Proofs.YtemjlopoffjmpaaGreat.Abs
open Go
def c6 : ACode :=
 (.seq (.reg [I1 4 (.mv (.c (.bool false)))])
 (.seq (.seq (.reg [I1 16 (.call 23 []), I1 17 (.un .not (.t 16))])
 (.cond (.t 17)
 (.seq (.reg [I1 4 (.mv (.c (.bool false)))])
 .ret)
 .skip))
 (.seq (.seq (.reg [I0 18 0, I1 19 (.len false (.t 18)), I1 20 (.bini .gtr (.t 19) (KI 80))])
 (.cond (.t 20)
 (.seq (.reg [I1 4 (.mv (.c (.bool true)))])
 .ret)
 .skip))
 (.seq (.reg [I0 21 0, I1 22 (.call 13 [(.t 21)]), I1 23 (.call 14 [(.t 22), (KI 25)]), I0 5 23])
 (.seq (.reg [I0 24 5, I0 25 1, I1 26 (.convi .i64 (.t 25)), I0 27 5, I1 28 (.len false (.t 27)), I1 29 (.bini .rem (.t 26) (.t 28)), I1 30 (.iaddr 5 (.t 24) (.t 29)), I1 31 (.load true 5 (.t 30)), I1 6 (.alloc [.int .i64 0, .int .i64 0, .int .i64 0, .int .i64 0, .emp]), I9 5 6 31])
 (.seq (.reg [I0 33 5, I6 34 0 6, I7 35 34, I1 36 (.call 29 [(.t 33), (.t 35)]), I0 32 36, I8 37 32 0, I8 38 32 1, I0 7 37, I0 8 38])
 (.seq (.seq (.reg [I6 39 1 6, I7 40 39, I1 41 (.bini .neq (.t 40) (KI 1)), I0 42 41, I3 43 42 (.faddr 2 (.t 6)), I3 44 42 (.load false 1 (.t 43)), I3 45 42 (.bini .eql (.t 44) (KI 0)), I1 46 (.pick (.t 42) (.c (.bool true)) (.t 45))])
 (.cond (.t 46)
 (.seq (.reg [I0 47 8, I1 48 (.bini .eql (.t 47) (KI 1)), I0 49 48, I4 50 49 7, I4 51 49 5, I2 52 49 (.call 18 [(.t 50), (.t 51)]), I1 53 (.pick (.t 49) (.t 52) (.c (.bool false))), I0 4 53])
 .ret)
 .skip))
 (.seq (.reg [I0 55 5, I6 56 2 6, I7 57 56, I1 58 (.call 30 [(.t 55), (.t 57)]), I0 54 58, I8 59 54 0, I8 60 54 1, I1 9 (.alloc [.int .i64 0, .int .i64 0, .int .i64 0, .int .i64 0, .emp]), I9 5 9 59, I0 10 60])
 (.seq (.seq (.reg [I1 11 (.mv (KI 0))])
 (.block 0
 (.loop
 (.seq (.seq (.reg [I0 61 11, I0 62 5, I1 63 (.len false (.t 62)), I1 64 (.bini .lss (.t 61) (.t 63))])
 (.cond (.t 64)
 .skip
 (.exit 0)))
 (.seq (.block 1
 (.seq (.dreg [I0 67 5, I0 68 11, I1 69 (.iaddr 5 (.t 67) (.t 68)), I6 70 1 69, I7 71 70, I1 72 (.bini .eql (.t 71) (KI 2)), I0 73 72, I4 74 73 5, I4 75 73 11, I2 76 73 (.iaddr 5 (.t 74) (.t 75)), I2 77 73 (.faddr 2 (.t 76)), I2 78 73 (.load false 1 (.t 77)), I2 79 73 (.faddr 0 (.t 6)), I2 80 73 (.load false 1 (.t 79)), I2 81 73 (.bini .eql (.t 78) (.t 80)), I1 82 (.pick (.t 73) (.t 81) (.c (.bool false))), I0 83 82, I4 84 83 5, I4 85 83 11, I2 86 83 (.iaddr 5 (.t 84) (.t 85)), I2 87 83 (.faddr 0 (.t 86)), I2 88 83 (.load false 1 (.t 87)), I2 89 83 (.faddr 0 (.t 9)), I2 90 83 (.load false 1 (.t 89)), I2 91 83 (.bini .leq (.t 88) (.t 90)), I1 92 (.pick (.t 83) (.t 91) (.c (.bool false)))])
 (.cond (.t 92)
 (.seq (.reg [I1 4 (.mv (.c (.bool true)))])
 .ret)
 .skip)))
 (.reg [I0 65 11, I1 66 (.bini .add (.t 65) (KI 1)), I0 11 66]))))))
 (.seq (.reg [I0 94 7, I6 95 2 9, I7 96 95, I1 97 (.call 30 [(.t 94), (.t 96)]), I0 93 97, I8 98 93 0, I8 99 93 1, I1 12 (.alloc [.int .i64 0, .int .i64 0, .int .i64 0, .int .i64 0, .emp]), I9 5 12 98, I0 13 99])
 (.seq (.reg [I0 101 7, I6 102 2 9, I7 103 102, I1 104 (.call 29 [(.t 101), (.t 103)]), I0 100 104, I8 105 100 0, I8 106 100 1, I0 14 105, I0 15 106])
 (.seq (.reg [I0 107 8, I1 108 (.bini .eql (.t 107) (KI 0)), I0 109 108, I4 110 109 7, I2 111 109 (.call 31 [(.t 110)]), I1 112 (.pick (.t 109) (.t 111) (.c (.bool false))), I0 113 112, I4 114 113 13, I1 115 (.pick (.t 113) (.t 114) (.c (.bool false))), I0 116 115, I2 117 116 (.faddr 2 (.t 12)), I2 118 116 (.load false 1 (.t 117)), I2 119 116 (.faddr 0 (.t 9)), I2 120 116 (.load false 1 (.t 119)), I2 121 116 (.bini .eql (.t 118) (.t 120)), I1 122 (.pick (.t 116) (.t 121) (.c (.bool false))), I0 123 122, I4 124 123 15, I2 125 123 (.bini .eql (.t 124) (KI 0)), I1 126 (.pick (.t 123) (.t 125) (.c (.bool false))), I0 127 126, I4 128 127 14, I4 129 127 5, I2 130 127 (.call 18 [(.t 128), (.t 129)]), I1 131 (.pick (.t 127) (.t 130) (.c (.bool false))), I0 4 131])
 .ret))))))))))))
theorem d6 : FnD Tryz.prog 6 2 130 [.tmp 4] c6 := ⟨Tryz.f6, _, Tryz.func6, by kernel_rfl, rfl, rfl, by kernel_rfl, by kernel_rfl⟩
end Go.Proofs.YtemjlopoffjmpaaGreat.Abs
namespace Go.Proofs.YtemjlopoffjmpaaGreat.Abs
open Go
def c8 : ACode :=
 (.seq (.reg [I1 14 (.mv (.c (.bool false)))])
 (.seq (.seq (.reg [I1 22 (.call 23 []), I1 23 (.un .not (.t 22))])
 (.cond (.t 23)
 (.seq (.reg [I1 14 (.mv (.c (.bool false)))])
 .ret)
 .skip))
 (.seq (.seq (.reg [I0 24 0, I1 25 (.len false (.t 24)), I1 26 (.bini .gtr (.t 25) (KI 80))])
 (.cond (.t 26)
 (.seq (.reg [I1 14 (.mv (.c (.bool true)))])
 .ret)
 .skip))
 (.seq (.reg [I0 27 0, I1 28 (.call 13 [(.t 27)]), I1 29 (.call 14 [(.t 28), (KI 25)]), I0 15 29])
 (.seq (.seq (.reg [I0 30 15, I1 31 (.call 33 [(.t 30)]), I1 32 (.un .not (.t 31))])
 (.cond (.t 32)
 (.seq (.reg [I1 14 (.mv (.c (.bool false)))])
 .ret)
 .skip))
 (.seq (.reg [I1 33 (.bslice 5 0 [.int .i64 0, .int .i64 0, .int .i64 0, .int .i64 0, .emp] []), I0 34 15, I1 35 (.append 5 56 [.int .i64 0, .int .i64 0, .int .i64 0, .int .i64 0, .emp] (.t 33) (.t 34)), I0 16 35])
 (.seq (.reg [I0 36 16, I0 37 2, I1 38 (.convi .i64 (.t 37)), I0 39 16, I1 40 (.len false (.t 39)), I1 41 (.bini .rem (.t 38) (.t 40)), I1 42 (.iaddr 5 (.t 36) (.t 41)), I0 17 42])
 (.seq (.seq (.reg [I0 43 1, I1 44 (.bini .rem (.t 43) (.c (.int .u8 8)))])
 (.block 0
 (.seq (.reg [I1 46 (.bini .eql (.t 44) (.c (.int .u8 0))), I0 45 46])
 (.cond (.t 45)
 (.reg [I0 47 17, I0 48 4, I1 49 (.nilchk (.t 47)), I6 50 0 49, I9 1 50 48])
 (.seq (.reg [I1 52 (.bini .eql (.t 44) (.c (.int .u8 1))), I0 51 52])
 (.cond (.t 51)
 (.reg [I0 53 17, I0 54 1, I1 55 (.bini .quo (.t 54) (.c (.int .u8 8))), I1 56 (.bini .rem (.t 55) (.c (.int .u8 4))), I1 57 (.convi .i64 (.t 56)), I1 58 (.nilchk (.t 53)), I6 59 1 58, I9 1 59 57])
 (.seq (.reg [I1 61 (.bini .eql (.t 44) (.c (.int .u8 2))), I0 60 61])
 (.cond (.t 60)
 (.reg [I0 62 17, I0 63 1, I1 64 (.bini .quo (.t 63) (.c (.int .u8 8))), I1 65 (.bini .rem (.t 64) (.c (.int .u8 10))), I1 66 (.convi .i64 (.t 65)), I1 67 (.nilchk (.t 62)), I6 68 2 67, I9 1 68 66])
 (.seq (.reg [I1 70 (.bini .eql (.t 44) (.c (.int .u8 3))), I0 69 70])
 (.cond (.t 69)
 (.reg [I0 71 17, I0 72 6, I1 73 (.nilchk (.t 71)), I6 74 3 73, I9 1 74 72])
 (.seq (.reg [I1 76 (.bini .eql (.t 44) (.c (.int .u8 4))), I0 75 76])
 (.cond (.t 75)
 (.reg [I0 77 17, I1 78 (.nilchk (.t 77)), I6 79 4 78, ⟨none, none, .store 1 (.t 79) (.c (.emp))⟩])
 (.seq (.reg [I1 81 (.bini .eql (.t 44) (.c (.int .u8 5))), I0 80 81])
 (.cond (.t 80)
 (.reg [I0 82 16, I0 83 3, I1 84 (.call 34 []), I1 85 (.build [.int .i64 0, .int .i64 0, .int .i64 0, .int .i64 0, .emp] [(0, 1, (.t 83)), (1, 1, (KI 1)), (4, 1, (.t 84))]), I1 86 (.bslice 5 1 [.int .i64 0, .int .i64 0, .int .i64 0, .int .i64 0, .emp] [(0, (.t 85))]), I1 87 (.append 5 56 [.int .i64 0, .int .i64 0, .int .i64 0, .int .i64 0, .emp] (.t 82) (.t 86)), I0 16 87])
 (.seq (.reg [I1 89 (.bini .eql (.t 44) (.c (.int .u8 6))), I0 88 89])
 (.cond (.t 88)
 (.reg [I0 90 17, I0 91 5, I1 92 (.nilchk (.t 90)), I6 93 2 92, I9 1 93 91])
 .skip))))))))))))))))
 (.seq (.seq (.reg [I0 94 16, I1 95 (.call 33 [(.t 94)]), I0 96 16, I1 97 (.call 31 [(.t 96)]), I1 98 (.eqb true (.t 95) (.t 97)), I0 99 98, I5 100 99 15, I5 101 99 16, I3 102 99 (.call 35 [(.t 100), (.t 101)]), I5 103 99 15, I5 104 99 16, I3 105 99 (.call 18 [(.t 103), (.t 104)]), I3 106 99 (.eqb true (.t 102) (.t 105)), I1 107 (.pick (.t 99) (.c (.bool true)) (.t 106))])
 (.cond (.t 107)
 (.seq (.reg [I1 14 (.mv (.c (.bool false)))])
 .ret)
 .skip))
 (.seq (.reg [I0 108 4, I0 109 2, I1 110 (.bini .rem (.t 109) (.c (.int .u8 9))), I1 111 (.convi .i64 (.t 110)), I1 112 (.bini .add (KI 1) (.t 111)), I0 113 1, I1 114 (.bini .rem (.t 113) (.c (.int .u8 9))), I1 115 (.convi .i64 (.t 114)), I1 116 (.bini .add (KI 1) (.t 115)), I1 117 (.bslice 1 4 [.int .i64 0] [(0, (.t 108)), (1, (.t 112)), (2, (.t 116)), (3, (KI 2))]), I0 18 117])
 (.seq (.reg [I0 118 5, I0 119 1, I1 120 (.bini .rem (.t 119) (.c (.int .u8 9))), I1 121 (.convi .i64 (.t 120)), I1 122 (.bini .add (KI 1) (.t 121)), I0 123 2, I1 124 (.bini .rem (.t 123) (.c (.int .u8 9))), I1 125 (.convi .i64 (.t 124)), I1 126 (.bini .add (KI 1) (.t 125)), I1 127 (.bslice 1 4 [.int .i64 0] [(0, (.t 118)), (1, (.t 122)), (2, (KI 2)), (3, (.t 126))]), I0 19 127])
 (.seq (.reg [I0 128 3, I1 129 (.bslice 1 4 [.int .i64 0] [(0, (.t 128)), (1, (KI 100)), (2, (KI 9)), (3, (KI 65536))]), I0 20 129])
 (.seq (.seq (.reg [I1 21 (.mv (KI 0))])
 (.block 1
 (.loop
 (.seq (.seq (.reg [I0 130 21, I1 131 (.bini .lss (.t 130) (KI 4))])
 (.cond (.t 131)
 .skip
 (.exit 1)))
 (.seq (.block 2
 (.seq (.dregE [[(0, I0 134 15), (1, I0 135 18), (2, I0 136 21), (3, I1 137 (.iaddr 1 (.t 135) (.t 136))), (4, I7 138 137), (5, I0 139 19), (6, I0 140 21), (7, I1 141 (.iaddr 1 (.t 139) (.t 140))), (8, I7 142 141), (9, I0 143 20), (10, I0 144 21), (11, I1 145 (.iaddr 1 (.t 143) (.t 144))), (12, I7 146 145), (13, I0 147 6)], [(14, I1 148 (.call 36 [(.t 134), (.t 138), (.t 142), (.t 146), (.t 147)]))], [(15, I1 149 (.un .not (.t 148)))]]
  [[], [], [], [1, 2], [1, 2, 3], [], [], [5, 6], [5, 6, 7], [], [], [9, 10], [9, 10, 11], [], [0, 1, 2, 3, 4, 5, 6, 7, 8, 9, 10, 11, 12, 13], [0, 1, 2, 3, 4, 5, 6, 7, 8, 9, 10, 11, 12, 13, 14]])
 (.cond (.t 149)
 (.seq (.reg [I1 14 (.mv (.c (.bool false)))])
 .ret)
 .skip)))
 (.reg [I0 132 21, I1 133 (.bini .add (.t 132) (KI 1)), I0 21 133]))))))
 (.seq (.reg [I1 14 (.mv (.c (.bool true)))])
 .ret))))))))))))))
theorem d8 : FnD Tryz.prog 8 7 143 [.tmp 14] c8 := ⟨Tryz.f8, _, Tryz.func8, by kernel_rfl, rfl, rfl, by kernel_rfl, by kernel_rfl⟩
end Go.Proofs.YtemjlopoffjmpaaGreat.Abs
namespace Go.Proofs.YtemjlopoffjmpaaGreat.Abs
open Go
def c18 : ACode :=
 (.seq (.reg [I1 4 (.mv (.c (.bool false)))])
 (.seq (.seq (.reg [I0 8 0, I1 9 (.len false (.t 8)), I0 10 1, I1 11 (.len false (.t 10)), I1 12 (.bini .neq (.t 9) (.t 11))])
 (.cond (.t 12)
 (.seq (.reg [I1 4 (.mv (.c (.bool false)))])
 .ret)
 .skip))
 (.seq (.seq (.reg [I1 5 (.mv (KI 0))])
 (.block 0
 (.loop
 (.seq (.seq (.reg [I0 13 5, I0 14 0, I1 15 (.len false (.t 14)), I1 16 (.bini .lss (.t 13) (.t 15))])
 (.cond (.t 16)
 .skip
 (.exit 0)))
 (.seq (.block 1
 (.seq (.dregE [[(0, I0 19 0), (1, I0 20 5), (2, I1 21 (.iaddr 5 (.t 19) (.t 20))), (3, I1 22 (.load true 5 (.t 21))), (4, I0 23 1), (5, I0 24 5), (6, I1 25 (.iaddr 5 (.t 23) (.t 24))), (7, I1 26 (.load true 5 (.t 25))), (8, I1 6 (.alloc [.int .i64 0, .int .i64 0, .int .i64 0, .int .i64 0, .emp])), (9, I1 7 (.alloc [.int .i64 0, .int .i64 0, .int .i64 0, .int .i64 0, .emp])), (10, I9 5 6 22)], [(11, I9 5 7 26)]]
  [[], [], [0, 1], [0, 1, 2], [], [], [4, 5], [4, 5, 6], [], [], [0, 1, 2, 3, 8, 9], [0, 1, 2, 3, 4, 5, 6, 7, 8, 9, 10]])
 (.seq (.reg [I6 27 0 6, I7 28 27, I6 29 0 7, I7 30 29, I1 31 (.bini .neq (.t 28) (.t 30)), I0 32 31, I3 33 32 (.faddr 1 (.t 6)), I3 34 32 (.load false 1 (.t 33)), I3 35 32 (.faddr 1 (.t 7)), I3 36 32 (.load false 1 (.t 35)), I3 37 32 (.bini .neq (.t 34) (.t 36)), I1 38 (.pick (.t 32) (.c (.bool true)) (.t 37)), I0 39 38, I3 40 39 (.faddr 2 (.t 6)), I3 41 39 (.load false 1 (.t 40)), I3 42 39 (.faddr 2 (.t 7)), I3 43 39 (.load false 1 (.t 42)), I3 44 39 (.bini .neq (.t 41) (.t 43)), I1 45 (.pick (.t 39) (.c (.bool true)) (.t 44)), I0 46 45, I3 47 46 (.faddr 3 (.t 6)), I3 48 46 (.load false 1 (.t 47)), I3 49 46 (.faddr 3 (.t 7)), I3 50 46 (.load false 1 (.t 49)), I3 51 46 (.bini .neq (.t 48) (.t 50)), I1 52 (.pick (.t 46) (.c (.bool true)) (.t 51)), I0 53 52, I3 54 53 (.faddr 4 (.t 6)), I3 55 53 (.load false 1 (.t 54)), I3 56 53 (.faddr 4 (.t 7)), I3 57 53 (.load false 1 (.t 56)), I3 58 53 (.call 28 [(.t 55), (.t 57)]), I3 59 53 (.un .not (.t 58)), I1 60 (.pick (.t 53) (.c (.bool true)) (.t 59))])
 (.cond (.t 60)
 (.seq (.reg [I1 4 (.mv (.c (.bool false)))])
 .ret)
 .skip))))
 (.reg [I0 17 5, I1 18 (.bini .add (.t 17) (KI 1)), I0 5 18]))))))
 (.seq (.reg [I1 4 (.mv (.c (.bool true)))])
 .ret))))
theorem d18 : FnD Tryz.prog 18 2 59 [.tmp 4] c18 := ⟨Tryz.f18, _, Tryz.func18, by kernel_rfl, rfl, rfl, by kernel_rfl, by kernel_rfl⟩
end Go.Proofs.YtemjlopoffjmpaaGreat.Abs
namespace Go.Proofs.YtemjlopoffjmpaaGreat.Abs
open Go
def c28 : ACode :=
 (.seq (.reg [I1 4 (.mv (.c (.bool false)))])
 (.seq (.seq (.reg [I0 6 0, I1 7 (.len false (.t 6)), I0 8 1, I1 9 (.len false (.t 8)), I1 10 (.bini .neq (.t 7) (.t 9))])
 (.cond (.t 10)
 (.seq (.reg [I1 4 (.mv (.c (.bool false)))])
 .ret)
 .skip))
 (.seq (.seq (.reg [I1 5 (.mv (KI 0))])
 (.block 0
 (.loop
 (.seq (.seq (.reg [I0 11 5, I0 12 0, I1 13 (.len false (.t 12)), I1 14 (.bini .lss (.t 11) (.t 13))])
 (.cond (.t 14)
 .skip
 (.exit 0)))
 (.seq (.block 1
 (.seq (.dreg [I0 17 0, I0 18 5, I1 19 (.iaddr 5 (.t 17) (.t 18)), I1 20 (.load true 5 (.t 19)), I0 21 1, I0 22 5, I1 23 (.iaddr 5 (.t 21) (.t 22)), I1 24 (.load true 5 (.t 23)), I1 25 (.eqs true [.i, .i, .s, .s, .i] (.t 20) (.t 24))])
 (.cond (.t 25)
 (.seq (.reg [I1 4 (.mv (.c (.bool false)))])
 .ret)
 .skip)))
 (.reg [I0 15 5, I1 16 (.bini .add (.t 15) (KI 1)), I0 5 16]))))))
 (.seq (.reg [I1 4 (.mv (.c (.bool true)))])
 .ret))))
theorem d28 : FnD Tryz.prog 28 2 24 [.tmp 4] c28 := ⟨Tryz.f28, _, Tryz.func28, by kernel_rfl, rfl, rfl, by kernel_rfl, by kernel_rfl⟩
end Go.Proofs.YtemjlopoffjmpaaGreat.Abs
namespace Go.Proofs.YtemjlopoffjmpaaGreat.Abs
open Go
def c36 : ACode :=
 (.seq (.reg [I1 10 (.mv (.c (.bool false)))])
 (.seq (.reg [I0 21 0, I0 22 1, I1 23 (.call 27 [(.t 21), (.t 22)]), I0 20 23, I8 24 20 0, I8 25 20 1, I1 11 (.alloc [.int .i64 0, .int .i64 0, .int .i64 0, .int .i64 0, .emp]), I9 5 11 24, I0 12 25])
 (.seq (.reg [I0 27 0, I0 28 1, I1 29 (.call 30 [(.t 27), (.t 28)]), I0 26 29, I8 30 26 0, I8 31 26 1, I1 13 (.alloc [.int .i64 0, .int .i64 0, .int .i64 0, .int .i64 0, .emp]), I9 5 13 30, I0 14 31])
 (.seq (.seq (.reg [I0 32 12, I0 33 14, I1 34 (.eqb true (.t 32) (.t 33)), I0 35 34, I3 36 35 (.load true 5 (.t 11)), I3 37 35 (.bslice 5 1 [.int .i64 0, .int .i64 0, .int .i64 0, .int .i64 0, .emp] [(0, (.t 36))]), I3 38 35 (.load true 5 (.t 13)), I3 39 35 (.bslice 5 1 [.int .i64 0, .int .i64 0, .int .i64 0, .int .i64 0, .emp] [(0, (.t 38))]), I3 40 35 (.call 18 [(.t 37), (.t 39)]), I3 41 35 (.un .not (.t 40)), I1 42 (.pick (.t 35) (.c (.bool true)) (.t 41))])
 (.cond (.t 42)
 (.seq (.reg [I1 10 (.mv (.c (.bool false)))])
 .ret)
 .skip))
 (.seq (.reg [I1 15 (.alloc [.emp, .emp, .emp, .emp, .emp, .emp]), I1 16 (.alloc [.emp, .emp, .emp, .emp, .emp, .emp])])
 (.seq (.reg [I1 17 (.alloc [.int .i64 0, .int .i64 0, .int .i64 0, .int .i64 0, .int .i64 0, .int .i64 0]), I1 18 (.alloc [.int .i64 0, .int .i64 0, .int .i64 0, .int .i64 0, .int .i64 0, .int .i64 0])])
 (.seq (.reg [I0 44 0, I0 45 3, I0 46 4, I1 47 (.call 37 [(.t 44), (.t 45), (.t 46)]), I0 43 47, I8 48 43 0, I8 49 43 1, I1 50 (.iaddra 6 1 (.t 15) (KI 0)), I9 1 50 48, I1 51 (.iaddra 6 1 (.t 17) (KI 0)), I9 1 51 49])
 (.seq (.reg [I0 53 0, I0 54 3, I0 55 4, I1 56 (.call 70 [(.t 53), (.t 54), (.t 55)]), I0 52 56, I8 57 52 0, I8 58 52 1, I1 59 (.iaddra 6 1 (.t 16) (KI 0)), I9 1 59 57, I1 60 (.iaddra 6 1 (.t 18) (KI 0)), I9 1 60 58])
 (.seq (.reg [I0 62 0, I0 63 3, I0 64 1, I1 65 (.call 24 [(.t 62), (.t 63), (.t 64)]), I0 61 65, I8 66 61 0, I8 67 61 1, I1 68 (.iaddra 6 1 (.t 15) (KI 1)), I9 1 68 66, I1 69 (.iaddra 6 1 (.t 17) (KI 1)), I9 1 69 67])
 (.seq (.reg [I0 71 0, I0 72 3, I0 73 1, I1 74 (.call 71 [(.t 71), (.t 72), (.t 73)]), I0 70 74, I8 75 70 0, I8 76 70 1, I1 77 (.iaddra 6 1 (.t 16) (KI 1)), I9 1 77 75, I1 78 (.iaddra 6 1 (.t 18) (KI 1)), I9 1 78 76])
 (.seq (.reg [I0 80 0, I0 81 3, I0 82 1, I1 83 (.call 25 [(.t 80), (.t 81), (.t 82)]), I0 79 83, I8 84 79 0, I8 85 79 1, I1 86 (.iaddra 6 1 (.t 15) (KI 2)), I9 1 86 84, I1 87 (.iaddra 6 1 (.t 17) (KI 2)), I9 1 87 85])
 (.seq (.reg [I0 89 0, I0 90 3, I0 91 1, I1 92 (.call 72 [(.t 89), (.t 90), (.t 91)]), I0 88 92, I8 93 88 0, I8 94 88 1, I1 95 (.iaddra 6 1 (.t 16) (KI 2)), I9 1 95 93, I1 96 (.iaddra 6 1 (.t 18) (KI 2)), I9 1 96 94])
 (.seq (.reg [I0 98 0, I0 99 1, I1 100 (.call 29 [(.t 98), (.t 99)]), I0 97 100, I8 101 97 0, I8 102 97 1, I1 103 (.iaddra 6 1 (.t 15) (KI 3)), I9 1 103 101, I1 104 (.iaddra 6 1 (.t 17) (KI 3)), I9 1 104 102])
 (.seq (.reg [I0 106 0, I0 107 1, I1 108 (.call 73 [(.t 106), (.t 107)]), I0 105 108, I8 109 105 0, I8 110 105 1, I1 111 (.iaddra 6 1 (.t 16) (KI 3)), I9 1 111 109, I1 112 (.iaddra 6 1 (.t 18) (KI 3)), I9 1 112 110])
 (.seq (.reg [I0 114 0, I0 115 1, I0 116 2, I1 117 (.call 38 [(.t 114), (.t 115), (.t 116)]), I0 113 117, I8 118 113 0, I8 119 113 1, I1 120 (.iaddra 6 1 (.t 15) (KI 4)), I9 1 120 118, I1 121 (.iaddra 6 1 (.t 17) (KI 4)), I9 1 121 119])
 (.seq (.reg [I0 123 0, I0 124 1, I0 125 2, I1 126 (.call 74 [(.t 123), (.t 124), (.t 125)]), I0 122 126, I8 127 122 0, I8 128 122 1, I1 129 (.iaddra 6 1 (.t 16) (KI 4)), I9 1 129 127, I1 130 (.iaddra 6 1 (.t 18) (KI 4)), I9 1 130 128])
 (.seq (.reg [I0 132 0, I0 133 1, I1 134 (.call 32 [(.t 132), (.t 133)]), I0 131 134, I8 135 131 0, I8 136 131 1, I1 137 (.iaddra 6 1 (.t 15) (KI 5)), I9 1 137 135, I1 138 (.iaddra 6 1 (.t 17) (KI 5)), I9 1 138 136])
 (.seq (.reg [I0 140 0, I0 141 1, I1 142 (.call 75 [(.t 140), (.t 141)]), I0 139 142, I8 143 139 0, I8 144 139 1, I1 145 (.iaddra 6 1 (.t 16) (KI 5)), I9 1 145 143, I1 146 (.iaddra 6 1 (.t 18) (KI 5)), I9 1 146 144])
 (.seq (.seq (.reg [I1 19 (.mv (KI 0))])
 (.block 0
 (.loop
 (.seq (.seq (.reg [I0 147 19, I1 148 (.bini .lss (.t 147) (KI 6))])
 (.cond (.t 148)
 .skip
 (.exit 0)))
 (.seq (.block 1
 (.seq (.dregE [[(0, I0 151 19), (1, I1 152 (.iaddra 6 1 (.t 17) (.t 151))), (2, I7 153 152), (3, I0 154 19), (4, I1 155 (.iaddra 6 1 (.t 18) (.t 154))), (5, I7 156 155)], [(6, I1 157 (.bini .neq (.t 153) (.t 156)))], [(7, I0 158 157)], [(8, I5 159 158 19), (9, I3 160 158 (.iaddra 6 1 (.t 15) (.t 159))), (10, I3 161 158 (.load false 1 (.t 160))), (11, I5 162 158 19), (12, I3 163 158 (.iaddra 6 1 (.t 16) (.t 162))), (13, I3 164 158 (.load false 1 (.t 163)))], [(14, I3 165 158 (.call 18 [(.t 161), (.t 164)]))], [(15, I3 166 158 (.un .not (.t 165)))], [(16, I1 167 (.pick (.t 158) (.c (.bool true)) (.t 166)))]]
  [[], [0], [0, 1], [], [3], [3, 4], [0, 1, 2, 3, 4, 5], [0, 1, 2, 3, 4, 5, 6], [0, 1, 2, 3, 4, 5, 6, 7], [0, 1, 2, 3, 4, 5, 6, 7, 8], [0, 1, 2, 3, 4, 5, 6, 7, 8, 9], [0, 1, 2, 3, 4, 5, 6, 7], [0, 1, 2, 3, 4, 5, 6, 7, 11], [0, 1, 2, 3, 4, 5, 6, 7, 11, 12], [0, 1, 2, 3, 4, 5, 6, 7, 8, 9, 10, 11, 12, 13], [0, 1, 2, 3, 4, 5, 6, 7, 8, 9, 10, 11, 12, 13, 14], [0, 1, 2, 3, 4, 5, 6, 7, 8, 9, 10, 11, 12, 13, 14, 15]])
 (.cond (.t 167)
 (.seq (.reg [I1 10 (.mv (.c (.bool false)))])
 .ret)
 .skip)))
 (.reg [I0 149 19, I1 150 (.bini .add (.t 149) (KI 1)), I0 19 150]))))))
 (.seq (.reg [I1 10 (.mv (.c (.bool true)))])
 .ret))))))))))))))))))))
theorem d36 : FnD Tryz.prog 36 5 163 [.tmp 10] c36 := ⟨Tryz.f36, _, Tryz.func36, by kernel_rfl, rfl, rfl, by kernel_rfl, by kernel_rfl⟩
end Go.Proofs.YtemjlopoffjmpaaGreat.Abs
namespace Go.Proofs.YtemjlopoffjmpaaGreat.Abs
open Go
def c35 : ACode :=
 (.seq (.reg [I1 4 (.mv (.c (.bool false)))])
 (.seq (.reg [I0 5 0, I0 6 1, I1 7 (.call 67 [(.t 5), (.t 6), (.c (.fn (.func 68) [] []))]), I0 4 7])
 .ret))
theorem d35 : FnD Tryz.prog 35 2 6 [.tmp 4] c35 := ⟨Tryz.f35, _, Tryz.func35, by kernel_rfl, rfl, rfl, by kernel_rfl, by kernel_rfl⟩
end Go.Proofs.YtemjlopoffjmpaaGreat.Abs
namespace Go.Proofs.YtemjlopoffjmpaaGreat.Abs
open Go
def c67 : ACode :=
 (.seq (.reg [I1 6 (.mv (.c (.bool false)))])
 (.seq (.seq (.reg [I0 10 0, I1 11 (.len false (.t 10)), I0 12 1, I1 13 (.len false (.t 12)), I1 14 (.bini .neq (.t 11) (.t 13))])
 (.cond (.t 14)
 (.seq (.reg [I1 6 (.mv (.c (.bool false)))])
 .ret)
 .skip))
 (.seq (.seq (.reg [I0 15 0, I1 16 (.len false (.t 15)), I1 17 (.mv (KI 0))])
 (.block 0
 (.loop
 (.seq (.reg [I1 18 (.bini .lss (.t 17) (.t 16))])
 (.seq (.cond (.t 18)
 .skip
 (.exit 0))
 (.seq (.block 1
 (.seq (.reg [I0 19 17, I1 20 (.iaddr 5 (.t 15) (.t 17)), I1 21 (.load true 5 (.t 20)), I1 8 (.alloc [.int .i64 0, .int .i64 0, .int .i64 0, .int .i64 0, .emp]), I0 7 19, I9 5 8 21])
 (.seq (.reg [I0 22 1, I0 23 7, I1 24 (.iaddr 5 (.t 22) (.t 23)), I1 25 (.load true 5 (.t 24)), I1 9 (.alloc [.int .i64 0, .int .i64 0, .int .i64 0, .int .i64 0, .emp]), I9 5 9 25])
 (.seq (.reg [I0 26 2, I1 27 (.load true 5 (.t 8)), I1 28 (.load true 5 (.t 9)), I1 29 (.calld (.t 26) [(.t 27), (.t 28)]), I1 30 (.un .not (.t 29))])
 (.cond (.t 30)
 (.seq (.reg [I1 6 (.mv (.c (.bool false)))])
 .ret)
 .skip)))))
 (.reg [I1 31 (.bini .add (.t 17) (KI 1)), I0 17 31])))))))
 (.seq (.reg [I1 6 (.mv (.c (.bool true)))])
 .ret))))
theorem d67 : FnD Tryz.prog 67 3 29 [.tmp 6] c67 := ⟨Tryz.f67, _, Tryz.func67, by kernel_rfl, rfl, rfl, by kernel_rfl, by kernel_rfl⟩
end Go.Proofs.YtemjlopoffjmpaaGreat.Abs
namespace Go.Proofs.YtemjlopoffjmpaaGreat.Abs
open Go
def c68 : ACode :=
 (.seq (.reg [I1 2 (.box (.t 0)), I1 3 (.box (.t 1)), I1 4 (.mv (.c (.bool false)))])
 (.seq (.reg [I6 5 0 2, I7 6 5, I6 7 0 3, I7 8 7, I1 9 (.bini .eql (.t 6) (.t 8)), I0 10 9, I2 11 10 (.faddr 1 (.t 2)), I2 12 10 (.load false 1 (.t 11)), I2 13 10 (.faddr 1 (.t 3)), I2 14 10 (.load false 1 (.t 13)), I2 15 10 (.bini .eql (.t 12) (.t 14)), I1 16 (.pick (.t 10) (.t 15) (.c (.bool false))), I0 17 16, I2 18 17 (.faddr 2 (.t 2)), I2 19 17 (.load false 1 (.t 18)), I2 20 17 (.faddr 2 (.t 3)), I2 21 17 (.load false 1 (.t 20)), I2 22 17 (.bini .eql (.t 19) (.t 21)), I1 23 (.pick (.t 17) (.t 22) (.c (.bool false))), I0 24 23, I2 25 24 (.faddr 3 (.t 2)), I2 26 24 (.load false 1 (.t 25)), I2 27 24 (.faddr 3 (.t 3)), I2 28 24 (.load false 1 (.t 27)), I2 29 24 (.bini .eql (.t 26) (.t 28)), I1 30 (.pick (.t 24) (.t 29) (.c (.bool false))), I0 31 30, I2 32 31 (.faddr 4 (.t 2)), I2 33 31 (.load false 1 (.t 32)), I2 34 31 (.faddr 4 (.t 3)), I2 35 31 (.load false 1 (.t 34)), I2 36 31 (.call 69 [(.t 33), (.t 35)]), I1 37 (.pick (.t 31) (.t 36) (.c (.bool false))), I0 4 37])
 .ret))
theorem d68 : FnD Tryz.prog 68 2 36 [.tmp 4] c68 := ⟨Tryz.f68, _, Tryz.func68, by kernel_rfl, rfl, rfl, by kernel_rfl, by kernel_rfl⟩
end Go.Proofs.YtemjlopoffjmpaaGreat.Abs
namespace Go.Proofs.YtemjlopoffjmpaaGreat.Abs
open Go
def c69 : ACode :=
 (.seq (.reg [I1 4 (.mv (.c (.bool false)))])
 (.seq (.reg [I0 5 0, I0 6 1, I1 7 (.call 107 [(.t 5), (.t 6)]), I0 4 7])
 .ret))
theorem d69 : FnD Tryz.prog 69 2 6 [.tmp 4] c69 := ⟨Tryz.f69, _, Tryz.func69, by kernel_rfl, rfl, rfl, by kernel_rfl, by kernel_rfl⟩
end Go.Proofs.YtemjlopoffjmpaaGreat.Abs
namespace Go.Proofs.YtemjlopoffjmpaaGreat.Abs
open Go
def c107 : ACode :=
 (.seq (.reg [I1 4 (.mv (.c (.bool false)))])
 (.seq (.seq (.reg [I0 6 0, I1 7 (.len false (.t 6)), I0 8 1, I1 9 (.len false (.t 8)), I1 10 (.bini .neq (.t 7) (.t 9))])
 (.cond (.t 10)
 (.seq (.reg [I1 4 (.mv (.c (.bool false)))])
 .ret)
 .skip))
 (.seq (.seq (.reg [I0 11 0, I1 12 (.len false (.t 11)), I1 13 (.mv (KI 0))])
 (.block 0
 (.loop
 (.seq (.reg [I1 14 (.bini .lss (.t 13) (.t 12))])
 (.seq (.cond (.t 14)
 .skip
 (.exit 0))
 (.seq (.block 1
 (.seq (.reg [I0 15 13, I0 5 15])
 (.seq (.dreg [I0 16 0, I0 17 5, I1 18 (.iaddr 5 (.t 16) (.t 17)), I1 19 (.load true 5 (.t 18)), I0 20 1, I0 21 5, I1 22 (.iaddr 5 (.t 20) (.t 21)), I1 23 (.load true 5 (.t 22)), I1 24 (.eqs true [.i, .i, .s, .s, .i] (.t 19) (.t 23))])
 (.cond (.t 24)
 (.seq (.reg [I1 4 (.mv (.c (.bool false)))])
 .ret)
 .skip))))
 (.reg [I1 25 (.bini .add (.t 13) (KI 1)), I0 13 25])))))))
 (.seq (.reg [I1 4 (.mv (.c (.bool true)))])
 .ret))))
theorem d107 : FnD Tryz.prog 107 2 24 [.tmp 4] c107 := ⟨Tryz.f107, _, Tryz.func107, by kernel_rfl, rfl, rfl, by kernel_rfl, by kernel_rfl⟩
end Go.Proofs.YtemjlopoffjmpaaGreat.Abs
namespace Go.Proofs.YtemjlopoffjmpaaGreat.Abs
open Go
def c31 : ACode :=
 (.seq (.reg [I1 2 (.mv (.c (.bool false)))])
 (.seq (.seq (.reg [I0 10 0, I1 11 (.len false (.t 10)), I1 12 (.bini .gtr (.t 11) (KI 8))])
 (.cond (.t 12)
 (.seq (.reg [I1 2 (.mv (.c (.bool false)))])
 .ret)
 .skip))
 (.seq (.seq (.reg [I1 3 (.mv (KI 0))])
 (.block 0
 (.loop
 (.seq (.seq (.reg [I0 13 3, I0 14 0, I1 15 (.len false (.t 14)), I1 16 (.bini .lss (.t 13) (.t 15))])
 (.cond (.t 16)
 .skip
 (.exit 0)))
 (.seq (.block 1
 (.seq (.reg [I0 19 0, I0 20 3, I1 21 (.iaddr 5 (.t 19) (.t 20)), I1 22 (.load true 5 (.t 21)), I1 4 (.alloc [.int .i64 0, .int .i64 0, .int .i64 0, .int .i64 0, .emp]), I9 5 4 22])
 (.seq (.seq (.dregE [[(0, I6 23 0 4)], [(1, I7 24 23)], [(2, I1 25 (.bini .lss (.t 24) (KI 1)))], [(3, I0 26 25)], [(4, I3 27 26 (.faddr 0 (.t 4)))], [(5, I3 28 26 (.load false 1 (.t 27)))], [(6, I3 29 26 (.call 61 [(.t 28)]))], [(7, I3 30 26 (.un .not (.t 29)))], [(8, I1 31 (.pick (.t 26) (.c (.bool true)) (.t 30)))], [(9, I0 32 31)], [(10, I5 33 32 3)], [(11, I3 34 32 (.bini .gtr (.t 33) (KI 0)))], [(12, I5 35 32 34)], [(13, I4 36 35 0), (14, I4 37 35 3), (15, I2 38 35 (.bini .sub (.t 37) (KI 1))), (16, I2 39 35 (.iaddr 5 (.t 36) (.t 38))), (17, I2 40 35 (.faddr 0 (.t 39))), (18, I2 41 35 (.load false 1 (.t 40))), (19, I2 42 35 (.faddr 0 (.t 4))), (20, I2 43 35 (.load false 1 (.t 42)))], [(21, I2 44 35 (.bini .geq (.t 41) (.t 43)))], [(22, I3 45 32 (.pick (.t 35) (.t 44) (.c (.bool false))))], [(23, I1 46 (.pick (.t 32) (.c (.bool true)) (.t 45)))], [(24, I0 47 46)], [(25, I3 48 47 (.faddr 4 (.t 4)))], [(26, I3 49 47 (.load false 1 (.t 48)))], [(27, I3 50 47 (.call 62 [(.t 49)]))], [(28, I3 51 47 (.un .not (.t 50)))], [(29, I1 52 (.pick (.t 47) (.c (.bool true)) (.t 51)))], [(30, I0 53 52)], [(31, I3 54 53 (.faddr 3 (.t 4)))], [(32, I3 55 53 (.load false 1 (.t 54)))], [(33, I3 56 53 (.bini .lss (.t 55) (KI 0)))], [(34, I1 57 (.pick (.t 53) (.c (.bool true)) (.t 56)))], [(35, I0 58 57)], [(36, I3 59 58 (.faddr 3 (.t 4)))], [(37, I3 60 58 (.load false 1 (.t 59)))], [(38, I3 61 58 (.bini .gtr (.t 60) (KI 255)))], [(39, I1 62 (.pick (.t 58) (.c (.bool true)) (.t 61)))]]
  [[], [0], [0, 1], [0, 1, 2], [0, 1, 2, 3], [0, 1, 2, 3, 4], [0, 1, 2, 3, 4, 5], [0, 1, 2, 3, 4, 5, 6], [0, 1, 2, 3, 4, 5, 6, 7], [0, 1, 2, 3, 4, 5, 6, 7, 8], [0, 1, 2, 3, 4, 5, 6, 7, 8, 9], [0, 1, 2, 3, 4, 5, 6, 7, 8, 9, 10], [0, 1, 2, 3, 4, 5, 6, 7, 8, 9, 10, 11], [0, 1, 2, 3, 4, 5, 6, 7, 8, 9, 10, 11, 12], [0, 1, 2, 3, 4, 5, 6, 7, 8, 9, 10, 11, 12], [0, 1, 2, 3, 4, 5, 6, 7, 8, 9, 10, 11, 12, 14], [0, 1, 2, 3, 4, 5, 6, 7, 8, 9, 10, 11, 12, 13, 14, 15], [0, 1, 2, 3, 4, 5, 6, 7, 8, 9, 10, 11, 12, 13, 14, 15, 16], [0, 1, 2, 3, 4, 5, 6, 7, 8, 9, 10, 11, 12, 13, 14, 15, 16, 17], [0, 1, 2, 3, 4, 5, 6, 7, 8, 9, 10, 11, 12], [0, 1, 2, 3, 4, 5, 6, 7, 8, 9, 10, 11, 12, 19], [0, 1, 2, 3, 4, 5, 6, 7, 8, 9, 10, 11, 12, 13, 14, 15, 16, 17, 18, 19, 20], [0, 1, 2, 3, 4, 5, 6, 7, 8, 9, 10, 11, 12, 13, 14, 15, 16, 17, 18, 19, 20, 21], [0, 1, 2, 3, 4, 5, 6, 7, 8, 9, 10, 11, 12, 13, 14, 15, 16, 17, 18, 19, 20, 21, 22], [0, 1, 2, 3, 4, 5, 6, 7, 8, 9, 10, 11, 12, 13, 14, 15, 16, 17, 18, 19, 20, 21, 22, 23], [0, 1, 2, 3, 4, 5, 6, 7, 8, 9, 10, 11, 12, 13, 14, 15, 16, 17, 18, 19, 20, 21, 22, 23, 24], [0, 1, 2, 3, 4, 5, 6, 7, 8, 9, 10, 11, 12, 13, 14, 15, 16, 17, 18, 19, 20, 21, 22, 23, 24, 25], [0, 1, 2, 3, 4, 5, 6, 7, 8, 9, 10, 11, 12, 13, 14, 15, 16, 17, 18, 19, 20, 21, 22, 23, 24, 25, 26], [0, 1, 2, 3, 4, 5, 6, 7, 8, 9, 10, 11, 12, 13, 14, 15, 16, 17, 18, 19, 20, 21, 22, 23, 24, 25, 26, 27], [0, 1, 2, 3, 4, 5, 6, 7, 8, 9, 10, 11, 12, 13, 14, 15, 16, 17, 18, 19, 20, 21, 22, 23, 24, 25, 26, 27, 28], [0, 1, 2, 3, 4, 5, 6, 7, 8, 9, 10, 11, 12, 13, 14, 15, 16, 17, 18, 19, 20, 21, 22, 23, 24, 25, 26, 27, 28, 29], [0, 1, 2, 3, 4, 5, 6, 7, 8, 9, 10, 11, 12, 13, 14, 15, 16, 17, 18, 19, 20, 21, 22, 23, 24, 25, 26, 27, 28, 29, 30], [0, 1, 2, 3, 4, 5, 6, 7, 8, 9, 10, 11, 12, 13, 14, 15, 16, 17, 18, 19, 20, 21, 22, 23, 24, 25, 26, 27, 28, 29, 30, 31], [0, 1, 2, 3, 4, 5, 6, 7, 8, 9, 10, 11, 12, 13, 14, 15, 16, 17, 18, 19, 20, 21, 22, 23, 24, 25, 26, 27, 28, 29, 30, 31, 32], [0, 1, 2, 3, 4, 5, 6, 7, 8, 9, 10, 11, 12, 13, 14, 15, 16, 17, 18, 19, 20, 21, 22, 23, 24, 25, 26, 27, 28, 29, 30, 31, 32, 33], [0, 1, 2, 3, 4, 5, 6, 7, 8, 9, 10, 11, 12, 13, 14, 15, 16, 17, 18, 19, 20, 21, 22, 23, 24, 25, 26, 27, 28, 29, 30, 31, 32, 33, 34], [0, 1, 2, 3, 4, 5, 6, 7, 8, 9, 10, 11, 12, 13, 14, 15, 16, 17, 18, 19, 20, 21, 22, 23, 24, 25, 26, 27, 28, 29, 30, 31, 32, 33, 34, 35], [0, 1, 2, 3, 4, 5, 6, 7, 8, 9, 10, 11, 12, 13, 14, 15, 16, 17, 18, 19, 20, 21, 22, 23, 24, 25, 26, 27, 28, 29, 30, 31, 32, 33, 34, 35, 36], [0, 1, 2, 3, 4, 5, 6, 7, 8, 9, 10, 11, 12, 13, 14, 15, 16, 17, 18, 19, 20, 21, 22, 23, 24, 25, 26, 27, 28, 29, 30, 31, 32, 33, 34, 35, 36, 37], [0, 1, 2, 3, 4, 5, 6, 7, 8, 9, 10, 11, 12, 13, 14, 15, 16, 17, 18, 19, 20, 21, 22, 23, 24, 25, 26, 27, 28, 29, 30, 31, 32, 33, 34, 35, 36, 37, 38]])
 (.cond (.t 62)
 (.seq (.reg [I1 2 (.mv (.c (.bool false)))])
 .ret)
 .skip))
 (.seq (.reg [I0 64 0, I6 65 2 4, I7 66 65, I1 67 (.call 30 [(.t 64), (.t 66)]), I0 63 67, I8 68 63 0, I8 69 63 1, I1 5 (.alloc [.int .i64 0, .int .i64 0, .int .i64 0, .int .i64 0, .emp]), I9 5 5 68, I0 6 69])
 (.seq (.reg [I6 70 1 4, I7 71 70])
 (.block 2
 (.seq (.reg [I1 73 (.bini .eql (.t 71) (KI 2)), I0 72 73])
 (.cond (.t 72)
 (.seq (.reg [I6 74 3 4, I7 75 74, I1 76 (.bini .neq (.t 75) (KI 0)), I0 77 76, I5 78 77 6, I3 79 77 (.un .not (.t 78)), I1 80 (.pick (.t 77) (.c (.bool true)) (.t 79)), I0 81 80, I3 82 81 (.faddr 1 (.t 5)), I3 83 81 (.load false 1 (.t 82)), I3 84 81 (.bini .neq (.t 83) (KI 1)), I1 85 (.pick (.t 81) (.c (.bool true)) (.t 84))])
 (.cond (.t 85)
 (.seq (.reg [I1 2 (.mv (.c (.bool false)))])
 .ret)
 .skip))
 (.seq (.reg [I1 87 (.bini .eql (.t 71) (KI 1)), I0 86 87])
 (.cond (.t 86)
 (.seq (.reg [I6 88 2 4, I7 89 88, I1 90 (.bini .neq (.t 89) (KI 0)), I0 91 90, I4 92 91 6, I2 93 91 (.un .not (.t 92)), I4 94 91 93, I3 95 94 (.faddr 1 (.t 5)), I3 96 94 (.load false 1 (.t 95)), I3 97 94 (.bini .neq (.t 96) (KI 2)), I2 98 91 (.pick (.t 94) (.c (.bool true)) (.t 97)), I1 99 (.pick (.t 91) (.t 98) (.c (.bool false)))])
 (.cond (.t 99)
 (.seq (.reg [I1 2 (.mv (.c (.bool false)))])
 .ret)
 .skip))
 (.seq (.reg [I1 2 (.mv (.c (.bool false)))])
 .ret)))))))))))
 (.reg [I0 17 3, I1 18 (.bini .add (.t 17) (KI 1)), I0 3 18]))))))
 (.seq (.seq (.reg [I1 7 (.mv (KI 0))])
 (.block 3
 (.loop
 (.seq (.seq (.reg [I0 100 7, I0 101 0, I1 102 (.len false (.t 101)), I1 103 (.bini .lss (.t 100) (.t 102))])
 (.cond (.t 103)
 .skip
 (.exit 3)))
 (.seq (.block 4
 (.seq (.reg [I0 106 0, I0 107 7, I1 108 (.iaddr 5 (.t 106) (.t 107)), I1 109 (.load true 5 (.t 108)), I1 8 (.alloc [.int .i64 0, .int .i64 0, .int .i64 0, .int .i64 0, .emp]), I9 5 8 109])
 (.seq (.seq (.reg [I1 9 (.mv (KI 0))])
 (.block 5
 (.loop
 (.seq (.seq (.reg [I0 110 9, I0 111 0, I1 112 (.len false (.t 111)), I1 113 (.bini .mul (KI 2) (.t 112)), I1 114 (.bini .leq (.t 110) (.t 113))])
 (.cond (.t 114)
 .skip
 (.exit 5)))
 (.seq (.block 6
 (.reg [I0 118 0, I6 119 2 8, I7 120 119, I1 121 (.call 30 [(.t 118), (.t 120)]), I0 117 121, I8 122 117 0, I8 123 117 1, I9 5 8 122]))
 (.reg [I0 115 9, I1 116 (.bini .add (.t 115) (KI 1)), I0 9 116]))))))
 (.seq (.reg [I6 124 0 8, I7 125 124, I1 126 (.bini .neq (.t 125) (KI 0))])
 (.cond (.t 126)
 (.seq (.reg [I1 2 (.mv (.c (.bool false)))])
 .ret)
 .skip)))))
 (.reg [I0 104 7, I1 105 (.bini .add (.t 104) (KI 1)), I0 7 105]))))))
 (.seq (.reg [I1 2 (.mv (.c (.bool true)))])
 .ret)))))
theorem d31 : FnD Tryz.prog 31 1 126 [.tmp 2] c31 := ⟨Tryz.f31, _, Tryz.func31, by kernel_rfl, rfl, rfl, by kernel_rfl, by kernel_rfl⟩
end Go.Proofs.YtemjlopoffjmpaaGreat.Abs
namespace Go.Proofs.YtemjlopoffjmpaaGreat.Abs
open Go
def c62 : ACode :=
 (.seq (.reg [I1 2 (.mv (.c (.bool false)))])
 (.seq (.reg [I0 3 0, I1 4 (.call 103 [(.t 3)]), I0 5 4, I4 6 5 0, I2 7 5 (.call 104 [(.t 6)]), I2 8 5 (.un .not (.t 7)), I1 9 (.pick (.t 5) (.t 8) (.c (.bool false))), I0 2 9])
 .ret))
theorem d62 : FnD Tryz.prog 62 1 9 [.tmp 2] c62 := ⟨Tryz.f62, _, Tryz.func62, by kernel_rfl, rfl, rfl, by kernel_rfl, by kernel_rfl⟩
end Go.Proofs.YtemjlopoffjmpaaGreat.Abs
namespace Go.Proofs.YtemjlopoffjmpaaGreat.Abs
open Go
def c103 : ACode :=
 (.seq (.reg [I1 2 (.mv (.c (.bool false)))])
 (.seq (.seq (.reg [I0 8 0, I1 9 (.len false (.t 8)), I1 10 (.bini .neq (.t 9) (KI 8)), I0 11 10, I5 12 11 0, I3 13 11 (.iaddr 5 (.t 12) (KI 0)), I3 14 11 (.load true 5 (.t 13)), I3 15 11 (.build [.int .i64 0, .int .i64 0, .str [], .str [], .int .i64 0] [(0, 1, (KI 2))]), I3 16 11 (.eqs true [.i, .i, .s, .s, .i] (.t 14) (.t 15)), I1 17 (.pick (.t 11) (.c (.bool true)) (.t 16))])
 (.cond (.t 17)
 (.seq (.reg [I1 2 (.mv (.c (.bool false)))])
 .ret)
 .skip))
 (.seq (.seq (.reg [I1 3 (.mv (KI 1))])
 (.block 0
 (.loop
 (.seq (.seq (.reg [I0 18 3, I0 19 0, I1 20 (.len false (.t 19)), I1 21 (.bini .lss (.t 18) (.t 20))])
 (.cond (.t 21)
 .skip
 (.exit 0)))
 (.seq (.block 1
 (.seq (.reg [I0 24 0, I0 25 3, I1 26 (.iaddr 5 (.t 24) (.t 25)), I1 27 (.load true 5 (.t 26)), I1 4 (.alloc [.int .i64 0, .int .i64 0, .str [], .str [], .int .i64 0]), I9 5 4 27])
 (.seq (.seq (.reg [I6 28 0 4, I7 29 28])
 (.block 2
 (.seq (.reg [I1 31 (.bini .eql (.t 29) (KI 0)), I0 30 31])
 (.cond (.t 30)
 (.seq (.seq (.reg [I1 32 (.load true 5 (.t 4)), I1 33 (.build [.int .i64 0, .int .i64 0, .str [], .str [], .int .i64 0] []), I1 34 (.eqs true [.i, .i, .s, .s, .i] (.t 32) (.t 33))])
 (.cond (.t 34)
 (.seq (.reg [I1 2 (.mv (.c (.bool false)))])
 .ret)
 .skip))
 (.exit 1))
 (.seq (.reg [I1 36 (.bini .eql (.t 29) (KI 3)), I0 35 36])
 (.cond (.t 35)
 (.seq (.seq (.reg [I1 37 (.load true 5 (.t 4)), I1 38 (.build [.int .i64 0, .int .i64 0, .str [], .str [], .int .i64 0] [(0, 1, (KI 3))]), I1 39 (.eqs true [.i, .i, .s, .s, .i] (.t 37) (.t 38))])
 (.cond (.t 39)
 (.seq (.reg [I1 2 (.mv (.c (.bool false)))])
 .ret)
 .skip))
 (.exit 1))
 (.seq (.reg [I1 41 (.bini .eql (.t 29) (KI 1)), I0 40 41])
 (.cond (.t 40)
 (.seq (.reg [I6 42 4 4, I7 43 42, I1 44 (.bini .lss (.t 43) (KI 0)), I0 45 44, I3 46 45 (.faddr 4 (.t 4)), I3 47 45 (.load false 1 (.t 46)), I3 48 45 (.bini .gtr (.t 47) (KI 15)), I1 49 (.pick (.t 45) (.c (.bool true)) (.t 48))])
 (.cond (.t 49)
 (.seq (.reg [I1 2 (.mv (.c (.bool false)))])
 .ret)
 .skip))
 (.seq (.reg [I1 51 (.bini .eql (.t 29) (KI 2)), I0 50 51])
 (.cond (.t 50)
 (.seq (.reg [I6 52 4 4, I7 53 52, I1 54 (.bini .neq (.t 53) (KI 0)), I0 55 54, I3 56 55 (.faddr 3 (.t 4)), I3 57 55 (.load false 1 (.t 56)), I3 58 55 (.bins .neq (.t 57) (.c (.str []))), I1 59 (.pick (.t 55) (.c (.bool true)) (.t 58))])
 (.cond (.t 59)
 (.seq (.reg [I1 2 (.mv (.c (.bool false)))])
 .ret)
 .skip))
 (.seq (.reg [I1 2 (.mv (.c (.bool false)))])
 .ret)))))))))))
 (.seq (.seq (.reg [I6 60 2 4, I7 61 60, I1 62 (.call 127 [(.t 61)]), I1 63 (.un .not (.t 62)), I0 64 63, I5 65 64 0, I3 66 64 (.faddr 1 (.t 4)), I3 67 64 (.load false 1 (.t 66)), I3 68 64 (.call 128 [(.t 65), (.t 67)]), I3 69 64 (.un .not (.t 68)), I1 70 (.pick (.t 64) (.c (.bool true)) (.t 69)), I0 71 70, I3 72 71 (.faddr 3 (.t 4)), I3 73 71 (.load false 1 (.t 72)), I3 74 71 (.len true (.t 73)), I3 75 71 (.bini .gtr (.t 74) (KI 128)), I1 76 (.pick (.t 71) (.c (.bool true)) (.t 75))])
 (.cond (.t 76)
 (.seq (.reg [I1 2 (.mv (.c (.bool false)))])
 .ret)
 .skip))
 (.seq (.seq (.reg [I1 5 (.mv (KI 1))])
 (.block 3
 (.loop
 (.seq (.seq (.reg [I0 77 5, I0 78 3, I1 79 (.bini .lss (.t 77) (.t 78))])
 (.cond (.t 79)
 .skip
 (.exit 3)))
 (.seq (.block 4
 (.seq (.dreg [I0 82 0, I0 83 5, I1 84 (.iaddr 5 (.t 82) (.t 83)), I6 85 0 84, I7 86 85, I1 87 (.bini .neq (.t 86) (KI 0)), I0 88 87, I4 89 88 0, I4 90 88 5, I2 91 88 (.iaddr 5 (.t 89) (.t 90)), I2 92 88 (.faddr 0 (.t 91)), I2 93 88 (.load false 1 (.t 92)), I2 94 88 (.bini .neq (.t 93) (KI 3)), I1 95 (.pick (.t 88) (.t 94) (.c (.bool false))), I0 96 95, I4 97 96 0, I4 98 96 5, I2 99 96 (.iaddr 5 (.t 97) (.t 98)), I2 100 96 (.faddr 1 (.t 99)), I2 101 96 (.load false 1 (.t 100)), I2 102 96 (.faddr 1 (.t 4)), I2 103 96 (.load false 1 (.t 102)), I2 104 96 (.bini .eql (.t 101) (.t 103)), I1 105 (.pick (.t 96) (.t 104) (.c (.bool false))), I0 106 105, I4 107 106 0, I4 108 106 5, I2 109 106 (.iaddr 5 (.t 107) (.t 108)), I2 110 106 (.faddr 2 (.t 109)), I2 111 106 (.load false 1 (.t 110)), I2 112 106 (.faddr 2 (.t 4)), I2 113 106 (.load false 1 (.t 112)), I2 114 106 (.bins .eql (.t 111) (.t 113)), I1 115 (.pick (.t 106) (.t 114) (.c (.bool false)))])
 (.cond (.t 115)
 (.seq (.reg [I1 2 (.mv (.c (.bool false)))])
 .ret)
 .skip)))
 (.reg [I0 80 5, I1 81 (.bini .add (.t 80) (KI 1)), I0 5 81]))))))
 (.seq (.reg [I0 116 3, I0 6 116])
 (.seq (.seq (.reg [I1 7 (.mv (KI 0))])
 (.block 5
 (.loop
 (.seq (.seq (.reg [I0 117 7, I0 118 0, I1 119 (.len false (.t 118)), I1 120 (.bini .lss (.t 117) (.t 119)), I0 121 120, I4 122 121 6, I2 123 121 (.bini .gtr (.t 122) (KI 0)), I1 124 (.pick (.t 121) (.t 123) (.c (.bool false))), I0 125 124, I4 126 125 6, I4 127 125 0, I2 128 125 (.len false (.t 127)), I2 129 125 (.bini .lss (.t 126) (.t 128)), I1 130 (.pick (.t 125) (.t 129) (.c (.bool false)))])
 (.cond (.t 130)
 .skip
 (.exit 5)))
 (.seq (.block 6
 (.reg [I0 133 0, I0 134 6, I1 135 (.iaddr 5 (.t 133) (.t 134)), I6 136 1 135, I7 137 136, I0 6 137]))
 (.reg [I0 131 7, I1 132 (.bini .add (.t 131) (KI 1)), I0 7 132]))))))
 (.seq (.reg [I0 138 6, I1 139 (.bini .neq (.t 138) (KI 0))])
 (.cond (.t 139)
 (.seq (.reg [I1 2 (.mv (.c (.bool false)))])
 .ret)
 .skip)))))))))
 (.reg [I0 22 3, I1 23 (.bini .add (.t 22) (KI 1)), I0 3 23]))))))
 (.seq (.reg [I1 2 (.mv (.c (.bool true)))])
 .ret))))
theorem d103 : FnD Tryz.prog 103 1 139 [.tmp 2] c103 := ⟨Tryz.f103, _, Tryz.func103, by kernel_rfl, rfl, rfl, by kernel_rfl, by kernel_rfl⟩
end Go.Proofs.YtemjlopoffjmpaaGreat.Abs
namespace Go.Proofs.YtemjlopoffjmpaaGreat.Abs
open Go
def c33 : ACode :=
 (.seq (.reg [I1 2 (.mv (.c (.bool false)))])
 (.seq (.reg [I1 3 (.mv (KI 0))])
 (.seq (.seq (.reg [I0 6 0, I1 7 (.len false (.t 6)), I1 8 (.mv (KI 0))])
 (.block 0
 (.loop
 (.seq (.reg [I1 9 (.bini .lss (.t 8) (.t 7))])
 (.seq (.cond (.t 9)
 .skip
 (.exit 0))
 (.seq (.block 1
 (.seq (.reg [I1 10 (.iaddr 5 (.t 6) (.t 8)), I1 11 (.load true 5 (.t 10)), I1 5 (.alloc [.int .i64 0, .int .i64 0, .int .i64 0, .int .i64 0, .emp]), I9 5 5 11])
 (.seq (.seq (.reg [I6 12 0 5, I7 13 12, I0 14 3, I1 15 (.bini .leq (.t 13) (.t 14)), I0 16 15, I3 17 16 (.load true 5 (.t 5)), I5 18 16 0, I3 19 16 (.build [.int .i64 0, .int .i64 0, .int .i64 0, .int .i64 0, .emp, .emp] [(0, 5, (.t 17)), (5, 1, (.t 18))]), I3 20 16 (.call 66 [(.t 19)]), I3 21 16 (.un .not (.t 20)), I1 22 (.pick (.t 16) (.c (.bool true)) (.t 21))])
 (.cond (.t 22)
 (.seq (.reg [I1 2 (.mv (.c (.bool false)))])
 .ret)
 .skip))
 (.reg [I6 23 0 5, I7 24 23, I0 3 24]))))
 (.reg [I1 25 (.bini .add (.t 8) (KI 1)), I0 8 25])))))))
 (.seq (.reg [I0 26 0, I1 27 (.len false (.t 26)), I1 28 (.bini .leq (.t 27) (KI 8)), I0 2 28])
 .ret))))
theorem d33 : FnD Tryz.prog 33 1 28 [.tmp 2] c33 := ⟨Tryz.f33, _, Tryz.func33, by kernel_rfl, rfl, rfl, by kernel_rfl, by kernel_rfl⟩
end Go.Proofs.YtemjlopoffjmpaaGreat.Abs
namespace Go.Proofs.YtemjlopoffjmpaaGreat.Abs
open Go
def c59 : ACode :=
 (.seq (.reg [I1 3 (.box (.t 1)), I1 4 (.mv (KI 0))])
 (.seq (.reg [I0 5 0, I1 6 (.mkfn (.func 102) [] [(.t 3)]), I1 7 (.call 101 [(.t 5), (.t 6)]), I0 4 7])
 .ret))
theorem d59 : FnD Tryz.prog 59 2 6 [.tmp 4] c59 := ⟨Tryz.f59, _, Tryz.func59, by kernel_rfl, rfl, rfl, by kernel_rfl, by kernel_rfl⟩
end Go.Proofs.YtemjlopoffjmpaaGreat.Abs
namespace Go.Proofs.YtemjlopoffjmpaaGreat.Abs
open Go
def c60 : ACode :=
 (.seq (.reg [I1 6 (.mv (.c (.bool false)))])
 (.seq (.reg [I0 8 0, I0 9 1, I1 10 (.call 59 [(.t 8), (.t 9)]), I0 7 10])
 (.seq (.reg [I0 11 7, I1 12 (.bini .geq (.t 11) (KI 0)), I0 13 12, I4 14 13 0, I4 15 13 7, I2 16 13 (.iaddr 5 (.t 14) (.t 15)), I2 17 13 (.faddr 1 (.t 16)), I2 18 13 (.load false 1 (.t 17)), I4 19 13 2, I2 20 13 (.bini .eql (.t 18) (.t 19)), I1 21 (.pick (.t 13) (.t 20) (.c (.bool false))), I0 6 21])
 .ret)))
theorem d60 : FnD Tryz.prog 60 3 19 [.tmp 6] c60 := ⟨Tryz.f60, _, Tryz.func60, by kernel_rfl, rfl, rfl, by kernel_rfl, by kernel_rfl⟩
end Go.Proofs.YtemjlopoffjmpaaGreat.Abs
namespace Go.Proofs.YtemjlopoffjmpaaGreat.Abs
open Go
def c66 : ACode :=
 (.seq (.reg [I1 1 (.box (.t 0)), I1 2 (.mv (.c (.bool false)))])
 (.seq (.seq (.reg [I6 3 0 1, I6 4 0 3, I7 5 4, I1 6 (.bini .lss (.t 5) (KI 1)), I0 7 6, I3 8 7 (.faddr 0 (.t 1)), I3 9 7 (.faddr 0 (.t 8)), I3 10 7 (.load false 1 (.t 9)), I3 11 7 (.bini .gtr (.t 10) (KI 65535)), I1 12 (.pick (.t 7) (.c (.bool true)) (.t 11)), I0 13 12, I3 14 13 (.faddr 0 (.t 1)), I3 15 13 (.faddr 4 (.t 14)), I3 16 13 (.load false 1 (.t 15)), I3 17 13 (.call 105 [(.t 16)]), I3 18 13 (.un .not (.t 17)), I1 19 (.pick (.t 13) (.c (.bool true)) (.t 18)), I0 20 19, I3 21 20 (.faddr 0 (.t 1)), I3 22 20 (.faddr 3 (.t 21)), I3 23 20 (.load false 1 (.t 22)), I3 24 20 (.bini .lss (.t 23) (KI 0)), I1 25 (.pick (.t 20) (.c (.bool true)) (.t 24)), I0 26 25, I3 27 26 (.faddr 0 (.t 1)), I3 28 26 (.faddr 3 (.t 27)), I3 29 26 (.load false 1 (.t 28)), I3 30 26 (.bini .gtr (.t 29) (KI 255)), I1 31 (.pick (.t 26) (.c (.bool true)) (.t 30))])
 (.cond (.t 31)
 (.seq (.reg [I1 2 (.mv (.c (.bool false)))])
 .ret)
 .skip))
 (.seq (.seq (.reg [I6 32 0 1, I6 33 1 32, I7 34 33])
 (.block 0
 (.seq (.reg [I1 36 (.bini .eql (.t 34) (KI 1)), I0 35 36])
 (.cond (.t 35)
 (.seq (.reg [I6 37 0 1, I6 38 2 37, I7 39 38, I1 40 (.bini .eql (.t 39) (KI 0)), I0 41 40, I3 42 41 (.faddr 5 (.t 1)), I3 43 41 (.load false 1 (.t 42)), I3 44 41 (.faddr 0 (.t 1)), I3 45 41 (.faddr 2 (.t 44)), I3 46 41 (.load false 1 (.t 45)), I3 47 41 (.call 60 [(.t 43), (.t 46), (KI 2)]), I5 48 41 47, I2 49 48 (.faddr 5 (.t 1)), I2 50 48 (.load false 1 (.t 49)), I2 51 48 (.faddr 0 (.t 1)), I2 52 48 (.faddr 0 (.t 51)), I2 53 48 (.load false 1 (.t 52)), I2 54 48 (.call 106 [(.t 50), (.t 53)]), I2 55 48 (.un .not (.t 54)), I3 56 41 (.pick (.t 48) (.t 55) (.c (.bool false))), I1 57 (.pick (.t 41) (.c (.bool true)) (.t 56)), I0 2 57])
 .ret)
 (.seq (.reg [I1 59 (.bini .eql (.t 34) (KI 2)), I0 58 59])
 (.cond (.t 58)
 (.seq (.reg [I6 60 0 1, I6 61 3 60, I7 62 61, I1 63 (.bini .eql (.t 62) (KI 0)), I0 64 63, I2 65 64 (.faddr 5 (.t 1)), I2 66 64 (.load false 1 (.t 65)), I2 67 64 (.faddr 0 (.t 1)), I2 68 64 (.faddr 2 (.t 67)), I2 69 64 (.load false 1 (.t 68)), I2 70 64 (.call 60 [(.t 66), (.t 69), (KI 1)]), I1 71 (.pick (.t 64) (.t 70) (.c (.bool false))), I0 2 71])
 .ret)
 .skip))))))
 (.seq (.reg [I1 2 (.mv (.c (.bool false)))])
 .ret))))
theorem d66 : FnD Tryz.prog 66 1 71 [.tmp 2] c66 := ⟨Tryz.f66, _, Tryz.func66, by kernel_rfl, rfl, rfl, by kernel_rfl, by kernel_rfl⟩
end Go.Proofs.YtemjlopoffjmpaaGreat.Abs
namespace Go.Proofs.YtemjlopoffjmpaaGreat.Abs
open Go
def c106 : ACode :=
 (.seq (.reg [I1 4 (.mv (.c (.bool false)))])
 (.seq (.reg [I0 7 1, I0 5 7])
 (.seq (.seq (.reg [I0 8 0, I1 9 (.len false (.t 8)), I1 10 (.mv (KI 0))])
 (.block 0
 (.loop
 (.seq (.reg [I1 11 (.bini .lss (.t 10) (.t 9))])
 (.seq (.cond (.t 11)
 .skip
 (.exit 0))
 (.seq (.block 1
 (.seq (.reg [I0 12 0, I0 13 5, I1 14 (.call 59 [(.t 12), (.t 13)]), I0 6 14])
 (.seq (.seq (.reg [I0 15 6, I1 16 (.bini .lss (.t 15) (KI 0))])
 (.cond (.t 16)
 (.seq (.reg [I1 4 (.mv (.c (.bool false)))])
 .ret)
 .skip))
 (.seq (.reg [I0 17 0, I0 18 6, I1 19 (.iaddr 5 (.t 17) (.t 18)), I6 20 2 19, I7 21 20, I0 5 21])
 (.seq (.reg [I0 22 5, I0 23 1, I1 24 (.bini .eql (.t 22) (.t 23))])
 (.cond (.t 24)
 (.seq (.reg [I1 4 (.mv (.c (.bool true)))])
 .ret)
 .skip))))))
 (.reg [I1 25 (.bini .add (.t 10) (KI 1)), I0 10 25])))))))
 (.seq (.reg [I1 4 (.mv (.c (.bool false)))])
 .ret))))
theorem d106 : FnD Tryz.prog 106 2 24 [.tmp 4] c106 := ⟨Tryz.f106, _, Tryz.func106, by kernel_rfl, rfl, rfl, by kernel_rfl, by kernel_rfl⟩
end Go.Proofs.YtemjlopoffjmpaaGreat.Abs
namespace Go.Proofs.YtemjlopoffjmpaaGreat.Abs
open Go
def c101 : ACode :=
 (.seq (.reg [I1 4 (.mv (KI 0))])
 (.seq (.seq (.reg [I0 6 0, I1 7 (.len false (.t 6)), I1 8 (.mv (KI 0))])
 (.block 0
 (.loop
 (.seq (.reg [I1 9 (.bini .lss (.t 8) (.t 7))])
 (.seq (.cond (.t 9)
 .skip
 (.exit 0))
 (.seq (.block 1
 (.seq (.reg [I0 10 8, I0 5 10])
 (.seq (.reg [I0 11 1, I0 12 0, I0 13 5, I1 14 (.iaddr 5 (.t 12) (.t 13)), I1 15 (.load true 5 (.t 14)), I1 16 (.calld (.t 11) [(.t 15)])])
 (.cond (.t 16)
 (.seq (.reg [I0 17 5, I0 4 17])
 .ret)
 .skip))))
 (.reg [I1 18 (.bini .add (.t 8) (KI 1)), I0 8 18])))))))
 (.seq (.reg [I1 4 (.mv (.c (.int .i64 (-1))))])
 .ret)))
theorem d101 : FnD Tryz.prog 101 2 17 [.tmp 4] c101 := ⟨Tryz.f101, _, Tryz.func101, by kernel_rfl, rfl, rfl, by kernel_rfl, by kernel_rfl⟩
end Go.Proofs.YtemjlopoffjmpaaGreat.Abs
namespace Go.Proofs.YtemjlopoffjmpaaGreat.Abs
open Go
def c105 : ACode :=
 (.seq (.reg [I1 2 (.mv (.c (.bool false)))])
 (.seq (.reg [I0 3 0, I1 4 (.build [.emp] [(0, 1, (.t 3))]), I1 5 (.call 131 [(.t 4)]), I0 2 5])
 .ret))
theorem d105 : FnD Tryz.prog 105 1 5 [.tmp 2] c105 := ⟨Tryz.f105, _, Tryz.func105, by kernel_rfl, rfl, rfl, by kernel_rfl, by kernel_rfl⟩
end Go.Proofs.YtemjlopoffjmpaaGreat.Abs
namespace Go.Proofs.YtemjlopoffjmpaaGreat.Abs
open Go
def c131 : ACode :=
 (.seq (.reg [I1 1 (.box (.t 0)), I1 2 (.mv (.c (.bool false)))])
 (.seq (.seq (.reg [I6 7 0 1, I7 8 7, I1 9 (.len false (.t 8)), I1 10 (.bini .neq (.t 9) (KI 8)), I0 11 10, I3 12 11 (.faddr 0 (.t 1)), I3 13 11 (.load false 1 (.t 12)), I3 14 11 (.iaddr 5 (.t 13) (KI 0)), I3 15 11 (.load true 5 (.t 14)), I3 16 11 (.build [.int .i64 0, .int .i64 0, .str [], .str [], .int .i64 0] [(0, 1, (KI 2))]), I3 17 11 (.eqs true [.i, .i, .s, .s, .i] (.t 15) (.t 16)), I1 18 (.pick (.t 11) (.c (.bool true)) (.t 17))])
 (.cond (.t 18)
 (.seq (.reg [I1 2 (.mv (.c (.bool false)))])
 .ret)
 .skip))
 (.seq (.seq (.reg [I6 19 0 1, I7 20 19, I1 21 (.slicel 5 (.t 20) (some (KI 1)) none), I1 22 (.len false (.t 21)), I1 23 (.mv (KI 0))])
 (.block 0
 (.loop
 (.seq (.reg [I1 24 (.bini .lss (.t 23) (.t 22))])
 (.seq (.cond (.t 24)
 .skip
 (.exit 0))
 (.seq (.block 1
 (.seq (.reg [I1 25 (.iaddr 5 (.t 21) (.t 23)), I1 26 (.load true 5 (.t 25)), I1 4 (.alloc [.int .i64 0, .int .i64 0, .str [], .str [], .int .i64 0]), I9 5 4 26])
 (.seq (.reg [I1 27 (.load true 5 (.t 4)), I1 28 (.build [.int .i64 0, .int .i64 0, .str [], .str [], .int .i64 0] []), I1 29 (.eqs true [.i, .i, .s, .s, .i] (.t 27) (.t 28)), I0 30 29, I2 31 30 (.load true 1 (.t 1)), I2 32 30 (.load true 5 (.t 4)), I2 33 30 (.call 158 [(.t 31), (.t 32)]), I2 34 30 (.un .not (.t 33)), I1 35 (.pick (.t 30) (.t 34) (.c (.bool false)))])
 (.cond (.t 35)
 (.seq (.reg [I1 2 (.mv (.c (.bool false)))])
 .ret)
 .skip))))
 (.reg [I1 36 (.bini .add (.t 23) (KI 1)), I0 23 36])))))))
 (.seq (.seq (.reg [I6 37 0 1, I7 38 37, I1 39 (.len false (.t 38)), I1 40 (.mv (KI 0))])
 (.block 2
 (.loop
 (.seq (.reg [I1 41 (.bini .lss (.t 40) (.t 39))])
 (.seq (.cond (.t 41)
 .skip
 (.exit 2))
 (.seq (.block 3
 (.seq (.reg [I0 42 40, I1 43 (.iaddr 5 (.t 38) (.t 40)), I1 44 (.load true 5 (.t 43)), I1 6 (.alloc [.int .i64 0, .int .i64 0, .str [], .str [], .int .i64 0]), I0 5 42, I9 5 6 44])
 (.seq (.reg [I0 45 5, I1 46 (.bini .gtr (.t 45) (KI 0)), I0 47 46, I2 48 47 (.faddr 0 (.t 6)), I2 49 47 (.load false 1 (.t 48)), I2 50 47 (.bini .neq (.t 49) (KI 0)), I1 51 (.pick (.t 47) (.t 50) (.c (.bool false))), I0 52 51, I2 53 52 (.load true 1 (.t 1)), I4 54 52 5, I2 55 52 (.call 159 [(.t 53), (.t 54)]), I2 56 52 (.un .not (.t 55)), I4 57 52 56, I3 58 57 (.load true 1 (.t 1)), I5 59 57 5, I3 60 57 (.call 160 [(.t 58), (.t 59)]), I2 61 52 (.pick (.t 57) (.c (.bool true)) (.t 60)), I1 62 (.pick (.t 52) (.t 61) (.c (.bool false)))])
 (.cond (.t 62)
 (.seq (.reg [I1 2 (.mv (.c (.bool false)))])
 .ret)
 .skip))))
 (.reg [I1 63 (.bini .add (.t 40) (KI 1)), I0 40 63])))))))
 (.seq (.reg [I1 2 (.mv (.c (.bool true)))])
 .ret)))))
theorem d131 : FnD Tryz.prog 131 1 63 [.tmp 2] c131 := ⟨Tryz.f131, _, Tryz.func131, by kernel_rfl, rfl, rfl, by kernel_rfl, by kernel_rfl⟩
end Go.Proofs.YtemjlopoffjmpaaGreat.Abs
namespace Go.Proofs.YtemjlopoffjmpaaGreat.Abs
open Go
def c158 : ACode :=
 (.seq (.reg [I1 2 (.box (.t 0)), I1 3 (.box (.t 1)), I1 4 (.mv (.c (.bool false)))])
 (.seq (.block 0
 (.seq (.reg [I6 6 4 3, I7 7 6, I1 8 (.bini .neq (.t 7) (KI 0)), I0 9 8, I3 10 9 (.faddr 2 (.t 3)), I3 11 9 (.load false 1 (.t 10)), I3 12 9 (.call 201 [(.t 11)]), I3 13 9 (.un .not (.t 12)), I1 14 (.pick (.t 9) (.c (.bool true)) (.t 13)), I0 15 14, I3 16 15 (.load true 1 (.t 2)), I3 17 15 (.faddr 1 (.t 3)), I3 18 15 (.load false 1 (.t 17)), I3 19 15 (.call 202 [(.t 16), (.t 18)]), I3 20 15 (.un .not (.t 19)), I1 21 (.pick (.t 15) (.c (.bool true)) (.t 20)), I0 5 21])
 (.cond (.t 5)
 (.seq (.reg [I1 4 (.mv (.c (.bool false)))])
 .ret)
 (.seq (.reg [I6 23 0 3, I7 24 23, I1 25 (.bini .eql (.t 24) (KI 1)), I0 22 25])
 (.cond (.t 22)
 (.seq (.reg [I6 26 3 3, I7 27 26, I1 28 (.len true (.t 27)), I1 29 (.bini .leq (.t 28) (KI 128)), I0 4 29])
 .ret)
 .skip)))))
 (.seq (.reg [I6 30 0 3, I7 31 30, I1 32 (.bini .eql (.t 31) (KI 2)), I0 33 32, I2 34 33 (.faddr 3 (.t 3)), I2 35 33 (.load false 1 (.t 34)), I2 36 33 (.bins .eql (.t 35) (.c (.str []))), I1 37 (.pick (.t 33) (.t 36) (.c (.bool false))), I0 4 37])
 .ret)))
theorem d158 : FnD Tryz.prog 158 2 36 [.tmp 4] c158 := ⟨Tryz.f158, _, Tryz.func158, by kernel_rfl, rfl, rfl, by kernel_rfl, by kernel_rfl⟩
end Go.Proofs.YtemjlopoffjmpaaGreat.Abs
namespace Go.Proofs.YtemjlopoffjmpaaGreat.Abs
open Go
def c159 : ACode :=
 (.seq (.reg [I1 2 (.box (.t 0)), I1 4 (.mv (.c (.bool false)))])
 (.seq (.seq (.reg [I6 5 0 2, I7 6 5, I1 7 (.len false (.t 6)), I1 8 (.mv (KI 0))])
 (.block 0
 (.loop
 (.seq (.reg [I1 9 (.bini .lss (.t 8) (.t 7))])
 (.seq (.cond (.t 9)
 .skip
 (.exit 0))
 (.seq (.block 1
 (.seq (.seq (.reg [I0 10 1, I1 11 (.bini .eql (.t 10) (KI 0))])
 (.cond (.t 11)
 (.seq (.reg [I1 4 (.mv (.c (.bool true)))])
 .ret)
 .skip))
 (.reg [I6 12 0 2, I7 13 12, I0 14 1, I1 15 (.iaddr 5 (.t 13) (.t 14)), I6 16 1 15, I7 17 16, I0 1 17])))
 (.reg [I1 18 (.bini .add (.t 8) (KI 1)), I0 8 18])))))))
 (.seq (.reg [I1 4 (.mv (.c (.bool false)))])
 .ret)))
theorem d159 : FnD Tryz.prog 159 2 17 [.tmp 4] c159 := ⟨Tryz.f159, _, Tryz.func159, by kernel_rfl, rfl, rfl, by kernel_rfl, by kernel_rfl⟩
end Go.Proofs.YtemjlopoffjmpaaGreat.Abs
namespace Go.Proofs.YtemjlopoffjmpaaGreat.Abs
open Go
def c160 : ACode :=
 (.seq (.reg [I1 2 (.box (.t 0)), I1 4 (.mv (.c (.bool false)))])
 (.seq (.seq (.reg [I6 7 0 2, I7 8 7, I1 9 (.len false (.t 8)), I1 10 (.mv (KI 0))])
 (.block 0
 (.loop
 (.seq (.reg [I1 11 (.bini .lss (.t 10) (.t 9))])
 (.seq (.cond (.t 11)
 .skip
 (.exit 0))
 (.seq (.block 1
 (.seq (.reg [I0 12 10, I1 13 (.iaddr 5 (.t 8) (.t 10)), I1 14 (.load true 5 (.t 13)), I1 6 (.alloc [.int .i64 0, .int .i64 0, .str [], .str [], .int .i64 0]), I0 5 12, I9 5 6 14])
 (.seq (.dreg [I0 15 5, I1 16 (.bini .gtr (.t 15) (KI 0)), I0 17 16, I4 18 17 5, I4 19 17 1, I2 20 17 (.bini .neq (.t 18) (.t 19)), I1 21 (.pick (.t 17) (.t 20) (.c (.bool false))), I0 22 21, I2 23 22 (.faddr 0 (.t 6)), I2 24 22 (.load false 1 (.t 23)), I2 25 22 (.bini .neq (.t 24) (KI 0)), I1 26 (.pick (.t 22) (.t 25) (.c (.bool false))), I0 27 26, I2 28 27 (.faddr 1 (.t 6)), I2 29 27 (.load false 1 (.t 28)), I2 30 27 (.faddr 0 (.t 2)), I2 31 27 (.load false 1 (.t 30)), I4 32 27 1, I2 33 27 (.iaddr 5 (.t 31) (.t 32)), I2 34 27 (.faddr 1 (.t 33)), I2 35 27 (.load false 1 (.t 34)), I2 36 27 (.bini .eql (.t 29) (.t 35)), I1 37 (.pick (.t 27) (.t 36) (.c (.bool false))), I0 38 37, I2 39 38 (.faddr 2 (.t 6)), I2 40 38 (.load false 1 (.t 39)), I2 41 38 (.faddr 0 (.t 2)), I2 42 38 (.load false 1 (.t 41)), I4 43 38 1, I2 44 38 (.iaddr 5 (.t 42) (.t 43)), I2 45 38 (.faddr 2 (.t 44)), I2 46 38 (.load false 1 (.t 45)), I2 47 38 (.bins .eql (.t 40) (.t 46)), I1 48 (.pick (.t 38) (.t 47) (.c (.bool false)))])
 (.cond (.t 48)
 (.seq (.reg [I1 4 (.mv (.c (.bool true)))])
 .ret)
 .skip))))
 (.reg [I1 49 (.bini .add (.t 10) (KI 1)), I0 10 49])))))))
 (.seq (.reg [I1 4 (.mv (.c (.bool false)))])
 .ret)))
theorem d160 : FnD Tryz.prog 160 2 48 [.tmp 4] c160 := ⟨Tryz.f160, _, Tryz.func160, by kernel_rfl, rfl, rfl, by kernel_rfl, by kernel_rfl⟩
end Go.Proofs.YtemjlopoffjmpaaGreat.Abs
namespace Go.Proofs.YtemjlopoffjmpaaGreat.Abs
open Go
def c201 : ACode :=
 (.seq (.reg [I1 2 (.mv (.c (.bool false)))])
 (.seq (.reg [I0 3 0, I1 4 (.bins .neq (.t 3) (.c (.str []))), I0 5 4, I4 6 5 0, I2 7 5 (.len true (.t 6)), I2 8 5 (.bini .leq (.t 7) (KI 8)), I1 9 (.pick (.t 5) (.t 8) (.c (.bool false))), I0 10 9, I4 11 10 0, I2 12 10 (.call 224 [(.t 11)]), I1 13 (.pick (.t 10) (.t 12) (.c (.bool false))), I0 14 13, I4 15 14 0, I2 16 14 (.bins .neq (.t 15) (.c (.str [46]))), I1 17 (.pick (.t 14) (.t 16) (.c (.bool false))), I0 18 17, I4 19 18 0, I2 20 18 (.bins .neq (.t 19) (.c (.str [46, 46]))), I1 21 (.pick (.t 18) (.t 20) (.c (.bool false))), I0 2 21])
 .ret))
theorem d201 : FnD Tryz.prog 201 1 21 [.tmp 2] c201 := ⟨Tryz.f201, _, Tryz.func201, by kernel_rfl, rfl, rfl, by kernel_rfl, by kernel_rfl⟩
end Go.Proofs.YtemjlopoffjmpaaGreat.Abs
namespace Go.Proofs.YtemjlopoffjmpaaGreat.Abs
open Go
def c202 : ACode :=
 (.seq (.reg [I1 2 (.box (.t 0)), I1 4 (.mv (.c (.bool false)))])
 (.seq (.reg [I0 5 1, I1 6 (.bini .geq (.t 5) (KI 0)), I0 7 6, I4 8 7 1, I2 9 7 (.faddr 0 (.t 2)), I2 10 7 (.load false 1 (.t 9)), I2 11 7 (.len false (.t 10)), I2 12 7 (.bini .lss (.t 8) (.t 11)), I1 13 (.pick (.t 7) (.t 12) (.c (.bool false))), I0 14 13, I2 15 14 (.faddr 0 (.t 2)), I2 16 14 (.load false 1 (.t 15)), I4 17 14 1, I2 18 14 (.iaddr 5 (.t 16) (.t 17)), I2 19 14 (.faddr 0 (.t 18)), I2 20 14 (.load false 1 (.t 19)), I2 21 14 (.bini .eql (.t 20) (KI 2)), I1 22 (.pick (.t 14) (.t 21) (.c (.bool false))), I0 4 22])
 .ret))
theorem d202 : FnD Tryz.prog 202 2 21 [.tmp 4] c202 := ⟨Tryz.f202, _, Tryz.func202, by kernel_rfl, rfl, rfl, by kernel_rfl, by kernel_rfl⟩
end Go.Proofs.YtemjlopoffjmpaaGreat.Abs
namespace Go.Proofs.YtemjlopoffjmpaaGreat.Abs
open Go
def c224 : ACode :=
 (.seq (.reg [I1 2 (.mv (.c (.bool false)))])
 (.seq (.seq (.reg [I0 5 0, I1 6 (.convsb (.t 5)), I1 7 (.len false (.t 6)), I1 8 (.mv (KI 0))])
 (.block 0
 (.loop
 (.seq (.reg [I1 9 (.bini .lss (.t 8) (.t 7))])
 (.seq (.cond (.t 9)
 .skip
 (.exit 0))
 (.seq (.block 1
 (.seq (.reg [I1 10 (.iaddr 1 (.t 6) (.t 8)), I7 11 10, I0 4 11])
 (.seq (.reg [I0 12 4, I1 13 (.call 229 [(.c (.str [97, 98, 99, 100, 101, 102, 103, 104, 105, 106, 107, 108, 109, 110, 111, 112, 113, 114, 115, 116, 117, 118, 119, 120, 121, 122, 48, 49, 50, 51, 52, 53, 54, 55, 56, 57, 46, 95, 45])), (.t 12)]), I1 14 (.bini .lss (.t 13) (KI 0))])
 (.cond (.t 14)
 (.seq (.reg [I1 2 (.mv (.c (.bool false)))])
 .ret)
 .skip))))
 (.reg [I1 15 (.bini .add (.t 8) (KI 1)), I0 8 15])))))))
 (.seq (.reg [I1 2 (.mv (.c (.bool true)))])
 .ret)))
theorem d224 : FnD Tryz.prog 224 1 15 [.tmp 2] c224 := ⟨Tryz.f224, _, Tryz.func224, by kernel_rfl, rfl, rfl, by kernel_rfl, by kernel_rfl⟩
end Go.Proofs.YtemjlopoffjmpaaGreat.Abs
namespace Go.Proofs.YtemjlopoffjmpaaGreat.Abs
open Go
def c14 : ACode :=
 (.seq (.reg [I1 4 (.mv (.c (.emp)))])
 (.seq (.reg [I1 9 (.build [.int .i64 0, .int .i64 0, .int .i64 0, .int .i64 0, .int .i64 0, .int .u32 0, .int .u32 0, .int .u32 0, .int .u32 0, .int .i64 0, .int .i64 0, .int .u32 0, .int .u32 0, .int .u32 0, .int .u32 0, .int .i64 0, .int .i64 0, .int .u32 0, .int .u32 0, .int .u32 0, .int .u32 0, .int .i64 0] [(1, 1, (KI 2))]), I1 10 (.call 34 []), I1 11 (.build [.int .i64 0, .int .i64 0, .int .i64 0, .int .i64 0, .emp] [(0, 1, (KI 1)), (1, 1, (KI 1)), (4, 1, (.t 10))]), I1 12 (.bslice 5 1 [.int .i64 0, .int .i64 0, .int .i64 0, .int .i64 0, .emp] [(0, (.t 11))]), I1 13 (.build [.emp, .emp, .int .i64 0, .int .i64 0, .bool false, .int .i64 0, .int .i64 0, .int .u32 0, .int .u32 0, .int .u32 0, .int .u32 0, .int .i64 0, .int .i64 0, .int .i64 0, .int .i64 0, .int .i64 0, .int .u32 0, .int .u32 0, .int .u32 0, .int .u32 0, .int .i64 0, .int .i64 0, .int .u32 0, .int .u32 0, .int .u32 0, .int .u32 0, .int .i64 0, .int .i64 0, .int .u32 0, .int .u32 0, .int .u32 0, .int .u32 0, .int .i64 0, .emp, .emp, .emp, .emp, .int .i64 0, .int .i64 0, .emp, .bool false] [(11, 22, (.t 9)), (39, 1, (.t 12))]), I1 5 (.alloc [.emp, .emp, .int .i64 0, .int .i64 0, .bool false, .int .i64 0, .int .i64 0, .int .u32 0, .int .u32 0, .int .u32 0, .int .u32 0, .int .i64 0, .int .i64 0, .int .i64 0, .int .i64 0, .int .i64 0, .int .u32 0, .int .u32 0, .int .u32 0, .int .u32 0, .int .i64 0, .int .i64 0, .int .u32 0, .int .u32 0, .int .u32 0, .int .u32 0, .int .i64 0, .int .i64 0, .int .u32 0, .int .u32 0, .int .u32 0, .int .u32 0, .int .i64 0, .emp, .emp, .emp, .emp, .int .i64 0, .int .i64 0, .emp, .bool false]), I9 41 5 13])
 (.seq (.seq (.reg [I1 6 (.mv (KI 0))])
 (.block 0
 (.loop
 (.seq (.seq (.reg [I0 14 6, I0 15 1, I1 16 (.bini .lss (.t 14) (.t 15)), I0 17 16, I4 18 17 0, I2 19 17 (.call 43 [(.t 18)]), I2 20 17 (.un .not (.t 19)), I1 21 (.pick (.t 17) (.t 20) (.c (.bool false)))])
 (.cond (.t 21)
 .skip
 (.exit 0)))
 (.seq (.block 1
 (.seq (.reg [I0 24 0, I1 25 (.call 44 [(.t 24), (KI 8)]), I1 26 (.bini .add (KI 1) (.t 25)), I0 7 26])
 (.seq (.reg [I0 27 0, I0 28 7, I1 29 (.call 45 [(.t 27), (.t 28)]), I1 8 (.alloc [.int .i64 0, .int .i64 0, .int .i64 0, .int .i64 0, .int .i64 0, .str [], .str [], .str [], .emp]), I9 9 8 29])
 (.seq (.seq (.reg [I0 30 0, I1 31 (.call 44 [(.t 30), (KI 3)]), I1 32 (.bini .gtr (.t 31) (KI 0))])
 (.cond (.t 32)
 (.reg [I0 33 0, I0 34 7, I1 35 (.call 46 [(.t 33), (.t 34)]), I9 9 8 35])
 .skip))
 (.reg [I1 37 (.load true 41 (.t 5)), I1 38 (.load true 9 (.t 8)), I1 39 (.call 47 [(.t 37), (.t 38)]), I0 36 39, I8 40 36 0, I8 41 36 1, I9 41 5 40])))))
 (.reg [I0 22 6, I1 23 (.bini .add (.t 22) (KI 1)), I0 6 23]))))))
 (.seq (.reg [I6 42 39 5, I7 43 42, I0 4 43])
 .ret))))
theorem d14 : FnD Tryz.prog 14 2 42 [.tmp 4] c14 := ⟨Tryz.f14, _, Tryz.func14, by kernel_rfl, rfl, rfl, by kernel_rfl, by kernel_rfl⟩
end Go.Proofs.YtemjlopoffjmpaaGreat.Abs
namespace Go.Proofs.YtemjlopoffjmpaaGreat.Abs
open Go
def c47 : ACode :=
 (.seq (.reg [I1 2 (.box (.t 0)), I1 3 (.box (.t 1)), I1 4 (.alloc [.emp, .emp, .int .i64 0, .int .i64 0, .bool false, .int .i64 0, .int .i64 0, .int .u32 0, .int .u32 0, .int .u32 0, .int .u32 0, .int .i64 0, .int .i64 0, .int .i64 0, .int .i64 0, .int .i64 0, .int .u32 0, .int .u32 0, .int .u32 0, .int .u32 0, .int .i64 0, .int .i64 0, .int .u32 0, .int .u32 0, .int .u32 0, .int .u32 0, .int .i64 0, .int .i64 0, .int .u32 0, .int .u32 0, .int .u32 0, .int .u32 0, .int .i64 0, .emp, .emp, .emp, .emp, .int .i64 0, .int .i64 0, .emp, .bool false]), I1 5 (.alloc [.int .i64 0, .str [], .int .i64 0, .int .i64 0, .int .i64 0, .int .i64 0, .emp, .int .i64 0])])
 (.seq (.seq (.reg [I6 9 0 3, I7 10 9, I1 11 (.bini .lss (.t 10) (KI 1)), I0 12 11, I3 13 12 (.faddr 0 (.t 3)), I3 14 12 (.load false 1 (.t 13)), I3 15 12 (.bini .gtr (.t 14) (KI 22)), I1 16 (.pick (.t 12) (.c (.bool true)) (.t 15))])
 (.cond (.t 16)
 (.seq (.reg [I1 17 (.load true 41 (.t 2)), I1 18 (.call 86 [(.t 17), (KI 1)]), I8 19 18 0, I8 20 18 1, I9 41 4 19, I9 8 5 20])
 .ret)
 .skip))
 (.seq (.seq (.reg [I6 21 40 2, I7 22 21, I0 23 22, I2 24 23 (.faddr 0 (.t 3)), I2 25 23 (.load false 1 (.t 24)), I2 26 23 (.call 87 [(.t 25)]), I1 27 (.pick (.t 23) (.t 26) (.c (.bool false)))])
 (.cond (.t 27)
 (.seq (.reg [I1 28 (.load true 41 (.t 2)), I1 29 (.call 86 [(.t 28), (KI 11)]), I8 30 29 0, I8 31 29 1, I9 41 4 30, I9 8 5 31])
 .ret)
 .skip))
 (.seq (.block 0
 (.seq (.reg [I6 33 0 3, I7 34 33, I1 35 (.bini .leq (.t 34) (KI 8)), I0 32 35])
 (.cond (.t 32)
 (.seq (.reg [I1 36 (.load true 41 (.t 2)), I1 37 (.load true 9 (.t 3)), I1 38 (.call 88 [(.t 36), (.t 37)]), I8 39 38 0, I8 40 38 1, I9 41 4 39, I9 8 5 40])
 .ret)
 (.seq (.reg [I6 42 0 3, I7 43 42, I1 44 (.bini .leq (.t 43) (KI 14)), I0 41 44])
 (.cond (.t 41)
 (.seq (.reg [I1 45 (.load true 41 (.t 2)), I1 46 (.load true 9 (.t 3)), I1 47 (.call 89 [(.t 45), (.t 46)]), I8 48 47 0, I8 49 47 1, I9 41 4 48, I9 8 5 49])
 .ret)
 .skip)))))
 (.seq (.reg [I1 50 (.build [.int .i64 0, .str [], .int .i64 0, .int .i64 0, .int .i64 0, .int .i64 0, .emp, .int .i64 0] []), I1 6 (.alloc [.int .i64 0, .str [], .int .i64 0, .int .i64 0, .int .i64 0, .int .i64 0, .emp, .int .i64 0]), I9 8 6 50])
 (.seq (.seq (.reg [I6 51 0 3, I7 52 51])
 (.block 1
 (.seq (.reg [I1 64 (.bini .eql (.t 52) (KI 15)), I0 63 64])
 (.cond (.t 63)
 (.seq (.seq (.reg [I6 65 2 3, I7 66 65, I1 67 (.bini .lss (.t 66) (KI 0)), I0 68 67, I3 69 68 (.faddr 2 (.t 3)), I3 70 68 (.load false 1 (.t 69)), I3 71 68 (.bini .gtr (.t 70) (KI 1)), I1 72 (.pick (.t 68) (.c (.bool true)) (.t 71))])
 (.cond (.t 72)
 (.seq (.reg [I1 73 (.load true 41 (.t 2)), I1 74 (.call 86 [(.t 73), (KI 1)]), I8 75 74 0, I8 76 74 1, I9 41 4 75, I9 8 5 76])
 .ret)
 .skip))
 (.seq (.reg [I1 78 (.load true 41 (.t 2)), I6 79 2 3, I7 80 79, I1 81 (.bini .eql (.t 80) (KI 1)), I1 82 (.call 90 [(.t 78), (.t 81)]), I0 77 82, I8 83 77 0, I8 84 77 1, I9 41 2 83, I6 85 0 6, I9 1 85 84])
 (.seq (.reg [I6 86 0 6, I7 87 86, I1 88 (.bini .eql (.t 87) (KI 0))])
 (.cond (.t 88)
 (.reg [I6 89 11 2, I6 90 0 89, I7 91 90, I6 92 7 6, I9 1 92 91])
 .skip))))
 (.seq (.reg [I1 94 (.bini .eql (.t 52) (KI 16)), I0 93 94])
 (.cond (.t 93)
 (.reg [I1 96 (.load true 41 (.t 2)), I1 97 (.call 91 [(.t 96)]), I0 95 97, I8 98 95 0, I8 99 95 1, I9 41 2 98, I6 100 0 6, I9 1 100 99])
 (.seq (.reg [I1 102 (.bini .eql (.t 52) (KI 17)), I0 101 102])
 (.cond (.t 101)
 (.reg [I1 104 (.load true 41 (.t 2)), I1 105 (.call 92 [(.t 104)]), I0 103 105, I8 106 103 0, I8 107 103 1, I9 41 2 106, I6 108 0 6, I9 1 108 107])
 (.seq (.reg [I1 110 (.bini .eql (.t 52) (KI 18)), I0 109 110])
 (.cond (.t 109)
 (.seq (.reg [I6 112 0 2, I1 113 (.load true 5 (.t 112)), I6 114 2 3, I7 115 114, I1 116 (.call 93 [(.t 113), (.t 115)]), I0 111 116, I8 117 111 0, I8 118 111 1, I1 7 (.alloc [.emp, .emp, .int .i64 0, .int .i64 0, .bool false, .int .i64 0, .int .i64 0, .int .u32 0, .int .u32 0, .int .u32 0, .int .u32 0, .int .i64 0, .int .i64 0, .int .i64 0, .int .i64 0, .int .i64 0, .int .u32 0, .int .u32 0, .int .u32 0, .int .u32 0, .int .i64 0, .int .i64 0, .int .u32 0, .int .u32 0, .int .u32 0, .int .u32 0, .int .i64 0, .int .i64 0, .int .u32 0, .int .u32 0, .int .u32 0, .int .u32 0, .int .i64 0, .emp, .emp, .emp, .emp, .int .i64 0, .int .i64 0, .emp, .bool false]), I9 41 7 117, I0 8 118])
 (.seq (.seq (.reg [I0 119 8, I1 120 (.bini .neq (.t 119) (KI 0))])
 (.cond (.t 120)
 (.seq (.reg [I6 121 0 7, I1 122 (.load true 5 (.t 121)), I6 123 0 2, I9 5 123 122])
 (.seq (.reg [I1 124 (.load true 41 (.t 2)), I0 125 8, I1 126 (.call 86 [(.t 124), (.t 125)]), I8 127 126 0, I8 128 126 1, I9 41 4 127, I9 8 5 128])
 .ret))
 .skip))
 (.dregE [[(0, I1 129 (.load true 41 (.t 7))), (1, I6 130 11 7), (2, I6 131 0 130), (3, I7 132 131), (4, I9 41 2 129)], [(5, I6 133 7 6)], [(6, I9 1 133 132)]]
  [[], [], [1], [1, 2], [0], [0, 1, 2, 3, 4], [0, 1, 2, 3, 4, 5]])))
 (.seq (.seq (.reg [I1 135 (.bini .eql (.t 52) (KI 19)), I0 134 135])
 (.cond (.t 134)
 .skip
 (.reg [I1 136 (.bini .eql (.t 52) (KI 20)), I0 134 136])))
 (.cond (.t 134)
 (.seq (.seq (.reg [I6 137 2 3, I7 138 137, I1 139 (.bini .lss (.t 138) (KI 0)), I0 140 139, I3 141 140 (.faddr 2 (.t 3)), I3 142 140 (.load false 1 (.t 141)), I3 143 140 (.bini .gtr (.t 142) (KI 200)), I1 144 (.pick (.t 140) (.c (.bool true)) (.t 143))])
 (.cond (.t 144)
 (.seq (.reg [I1 145 (.load true 41 (.t 2)), I1 146 (.call 86 [(.t 145), (KI 1)]), I8 147 146 0, I8 148 146 1, I9 41 4 147, I9 8 5 148])
 .ret)
 .skip))
 (.seq (.reg [I6 149 0 3, I7 150 149, I1 151 (.bini .eql (.t 150) (KI 19))])
 (.cond (.t 151)
 (.reg [I6 152 2 3, I7 153 152, I6 154 0 2, I6 155 3 154, I9 1 155 153])
 (.reg [I6 156 2 3, I7 157 156, I6 158 0 2, I6 159 2 158, I9 1 159 157]))))
 (.seq (.reg [I1 161 (.bini .eql (.t 52) (KI 21)), I0 160 161])
 (.cond (.t 160)
 (.reg [I6 162 0 2, I1 163 (.load true 5 (.t 162)), I6 164 8 3, I7 165 164, I1 166 (.call 94 [(.t 163), (.t 165)]), I1 167 (.build [.emp, .emp, .int .i64 0, .int .i64 0, .bool false, .int .i64 0, .int .i64 0, .int .u32 0, .int .u32 0, .int .u32 0, .int .u32 0, .int .i64 0, .int .i64 0, .int .i64 0, .int .i64 0, .int .i64 0, .int .u32 0, .int .u32 0, .int .u32 0, .int .u32 0, .int .i64 0, .int .i64 0, .int .u32 0, .int .u32 0, .int .u32 0, .int .u32 0, .int .i64 0, .int .i64 0, .int .u32 0, .int .u32 0, .int .u32 0, .int .u32 0, .int .i64 0, .emp, .emp, .emp, .emp, .int .i64 0, .int .i64 0, .emp, .bool false] [(0, 5, (.t 166))]), I9 41 2 167])
 (.reg [I6 53 0 2, I1 54 (.load true 5 (.t 53)), I6 55 2 3, I7 56 55, I6 57 3 3, I7 58 57, I6 59 4 3, I7 60 59, I1 61 (.call 95 [(.t 54), (.t 56), (.t 58), (.t 60)]), I6 62 0 2, I9 5 62 61])))))))))))))))
 (.seq (.dregE [[(0, I1 168 (.load true 41 (.t 2))), (1, I1 169 (.load true 8 (.t 6))), (2, I9 41 4 168)], [(3, I9 8 5 169)]]
  [[], [], [0], [0, 1, 2]])
 .ret)))))))
theorem d47 : FnD Tryz.prog 47 2 168 [.cell 4 true 41, .cell 5 true 8] c47 := ⟨Tryz.f47, _, Tryz.func47, by kernel_rfl, rfl, rfl, by kernel_rfl, by kernel_rfl⟩
end Go.Proofs.YtemjlopoffjmpaaGreat.Abs
namespace Go.Proofs.YtemjlopoffjmpaaGreat.Abs
open Go
def c89 : ACode :=
 (.seq (.reg [I1 2 (.box (.t 0)), I1 3 (.box (.t 1)), I1 4 (.alloc [.emp, .emp, .int .i64 0, .int .i64 0, .bool false, .int .i64 0, .int .i64 0, .int .u32 0, .int .u32 0, .int .u32 0, .int .u32 0, .int .i64 0, .int .i64 0, .int .i64 0, .int .i64 0, .int .i64 0, .int .u32 0, .int .u32 0, .int .u32 0, .int .u32 0, .int .i64 0, .int .i64 0, .int .u32 0, .int .u32 0, .int .u32 0, .int .u32 0, .int .i64 0, .int .i64 0, .int .u32 0, .int .u32 0, .int .u32 0, .int .u32 0, .int .i64 0, .emp, .emp, .emp, .emp, .int .i64 0, .int .i64 0, .emp, .bool false]), I1 5 (.alloc [.int .i64 0, .str [], .int .i64 0, .int .i64 0, .int .i64 0, .int .i64 0, .emp, .int .i64 0])])
 (.seq (.reg [I6 9 39 2, I7 10 9, I0 6 10, I1 7 (.mv (KI 0))])
 (.seq (.reg [I6 11 11 2, I6 12 1 11, I7 13 12, I0 8 13])
 (.seq (.seq (.reg [I6 14 0 3, I7 15 14])
 (.block 0
 (.seq (.reg [I1 24 (.bini .eql (.t 15) (KI 9)), I0 23 24])
 (.cond (.t 23)
 (.reg [I0 26 6, I0 27 8, I6 28 2 3, I7 29 28, I1 30 (.call 70 [(.t 26), (.t 27), (.t 29)]), I0 25 30, I8 31 25 0, I8 32 25 1, I0 6 31, I0 7 32])
 (.seq (.reg [I1 34 (.bini .eql (.t 15) (KI 10)), I0 33 34])
 (.cond (.t 33)
 (.reg [I0 36 6, I0 37 8, I6 38 1 3, I7 39 38, I1 40 (.call 71 [(.t 36), (.t 37), (.t 39)]), I0 35 40, I8 41 35 0, I8 42 35 1, I0 6 41, I0 7 42])
 (.seq (.reg [I1 44 (.bini .eql (.t 15) (KI 11)), I0 43 44])
 (.cond (.t 43)
 (.reg [I0 46 6, I0 47 8, I6 48 1 3, I7 49 48, I1 50 (.call 72 [(.t 46), (.t 47), (.t 49)]), I0 45 50, I8 51 45 0, I8 52 45 1, I0 6 51, I0 7 52])
 (.seq (.reg [I1 54 (.bini .eql (.t 15) (KI 12)), I0 53 54])
 (.cond (.t 53)
 (.reg [I0 56 6, I6 57 1 3, I7 58 57, I1 59 (.call 73 [(.t 56), (.t 58)]), I0 55 59, I8 60 55 0, I8 61 55 1, I0 6 60, I0 7 61])
 (.seq (.reg [I1 63 (.bini .eql (.t 15) (KI 13)), I0 62 63])
 (.cond (.t 62)
 (.reg [I0 65 6, I6 66 1 3, I7 67 66, I6 68 2 3, I7 69 68, I1 70 (.call 74 [(.t 65), (.t 67), (.t 69)]), I0 64 70, I8 71 64 0, I8 72 64 1, I0 6 71, I0 7 72])
 (.reg [I0 17 6, I6 18 1 3, I7 19 18, I1 20 (.call 75 [(.t 17), (.t 19)]), I0 16 20, I8 21 16 0, I8 22 16 1, I0 6 21, I0 7 22])))))))))))))
 (.seq (.seq (.reg [I0 73 7, I1 74 (.bini .neq (.t 73) (KI 0))])
 (.cond (.t 74)
 (.seq (.reg [I1 75 (.load true 41 (.t 2)), I0 76 7, I1 77 (.call 86 [(.t 75), (.t 76)]), I8 78 77 0, I8 79 77 1, I9 41 4 78, I9 8 5 79])
 .ret)
 .skip))
 (.seq (.reg [I0 80 6, I6 81 39 2, I9 1 81 80])
 (.seq (.seq (.reg [I6 82 0 3, I7 83 82, I1 84 (.bini .gtr (.t 83) (KI 11))])
 (.cond (.t 84)
 (.seq (.reg [I1 85 (.load true 41 (.t 2)), I1 86 (.build [.int .i64 0, .str [], .int .i64 0, .int .i64 0, .int .i64 0, .int .i64 0, .emp, .int .i64 0] []), I9 41 4 85, I9 8 5 86])
 .ret)
 .skip))
 (.seq (.reg [I0 87 8, I1 88 (.bini .add (.t 87) (KI 1)), I6 89 11 2, I6 90 1 89, I9 1 90 88])
 (.seq (.reg [I1 91 (.load true 41 (.t 2)), I0 92 8, I1 93 (.build [.int .i64 0, .str [], .int .i64 0, .int .i64 0, .int .i64 0, .int .i64 0, .emp, .int .i64 0] [(7, 1, (.t 92))]), I9 41 4 91, I9 8 5 93])
 .ret)))))))))
theorem d89 : FnD Tryz.prog 89 2 92 [.cell 4 true 41, .cell 5 true 8] c89 := ⟨Tryz.f89, _, Tryz.func89, by kernel_rfl, rfl, rfl, by kernel_rfl, by kernel_rfl⟩
end Go.Proofs.YtemjlopoffjmpaaGreat.Abs
namespace Go.Proofs.YtemjlopoffjmpaaGreat.Abs
open Go
def c88 : ACode :=
 (.seq (.reg [I1 2 (.box (.t 0)), I1 3 (.box (.t 1)), I1 4 (.alloc [.emp, .emp, .int .i64 0, .int .i64 0, .bool false, .int .i64 0, .int .i64 0, .int .u32 0, .int .u32 0, .int .u32 0, .int .u32 0, .int .i64 0, .int .i64 0, .int .i64 0, .int .i64 0, .int .i64 0, .int .u32 0, .int .u32 0, .int .u32 0, .int .u32 0, .int .i64 0, .int .i64 0, .int .u32 0, .int .u32 0, .int .u32 0, .int .u32 0, .int .i64 0, .int .i64 0, .int .u32 0, .int .u32 0, .int .u32 0, .int .u32 0, .int .i64 0, .emp, .emp, .emp, .emp, .int .i64 0, .int .i64 0, .emp, .bool false]), I1 5 (.alloc [.int .i64 0, .str [], .int .i64 0, .int .i64 0, .int .i64 0, .int .i64 0, .emp, .int .i64 0])])
 (.seq (.reg [I1 11 (.build [.int .i64 0, .str [], .int .i64 0, .int .i64 0, .int .i64 0, .int .i64 0, .emp, .int .i64 0] []), I1 6 (.alloc [.int .i64 0, .str [], .int .i64 0, .int .i64 0, .int .i64 0, .int .i64 0, .emp, .int .i64 0]), I9 8 6 11])
 (.seq (.reg [I6 13 39 2, I7 14 13, I6 15 1 3, I7 16 15, I1 17 (.call 30 [(.t 14), (.t 16)]), I0 12 17, I8 18 12 0, I8 19 12 1, I1 7 (.alloc [.int .i64 0, .int .i64 0, .int .i64 0, .int .i64 0, .emp]), I9 5 7 18, I0 8 19])
 (.seq (.seq (.reg [I0 20 8, I1 21 (.un .not (.t 20))])
 (.cond (.t 21)
 (.seq (.reg [I1 22 (.load true 41 (.t 2)), I1 23 (.call 86 [(.t 22), (KI 2)]), I8 24 23 0, I8 25 23 1, I9 41 4 24, I9 8 5 25])
 .ret)
 .skip))
 (.seq (.reg [I6 26 4 7, I7 27 26, I0 9 27, I1 10 (.mv (KI 0))])
 (.seq (.seq (.reg [I6 28 0 3, I7 29 28, I1 30 (.call 87 [(.t 29)]), I0 31 30, I2 32 31 (.faddr 1 (.t 7)), I2 33 31 (.load false 1 (.t 32)), I2 34 31 (.bini .eql (.t 33) (KI 2)), I1 35 (.pick (.t 31) (.t 34) (.c (.bool false)))])
 (.cond (.t 35)
 (.seq (.reg [I1 36 (.load true 41 (.t 2)), I1 37 (.call 86 [(.t 36), (KI 11)]), I8 38 37 0, I8 39 37 1, I9 41 4 38, I9 8 5 39])
 .ret)
 .skip))
 (.seq (.seq (.reg [I6 40 0 3, I7 41 40])
 (.block 0
 (.seq (.reg [I1 54 (.bini .eql (.t 41) (KI 1)), I0 53 54])
 (.cond (.t 53)
 (.reg [I0 56 9, I6 57 5 3, I7 58 57, I6 59 2 3, I7 60 59, I1 61 (.call 41 [(.t 56), (.t 58), (.t 60)]), I0 55 61, I8 62 55 0, I8 63 55 1, I0 9 62, I0 10 63])
 (.seq (.reg [I1 65 (.bini .eql (.t 41) (KI 2)), I0 64 65])
 (.cond (.t 64)
 (.reg [I0 67 9, I6 68 5 3, I7 69 68, I1 70 (.call 98 [(.t 67), (.t 69)]), I0 66 70, I8 71 66 0, I8 72 66 1, I0 9 71, I0 10 72])
 (.seq (.reg [I1 74 (.bini .eql (.t 41) (KI 3)), I0 73 74])
 (.cond (.t 73)
 (.reg [I0 76 9, I6 77 5 3, I7 78 77, I6 79 6 3, I7 80 79, I1 81 (.call 99 [(.t 76), (.t 78), (.t 80)]), I0 75 81, I8 82 75 0, I8 83 75 1, I0 9 82, I0 10 83])
 (.seq (.reg [I1 85 (.bini .eql (.t 41) (KI 4)), I0 84 85])
 (.cond (.t 84)
 (.reg [I0 87 9, I6 88 5 3, I7 89 88, I6 90 2 3, I7 91 90, I6 92 7 3, I7 93 92, I1 94 (.call 42 [(.t 87), (.t 89), (.t 91), (.t 93)]), I0 86 94, I8 95 86 0, I8 96 86 1, I0 9 95, I0 10 96])
 (.seq (.reg [I1 98 (.bini .eql (.t 41) (KI 5)), I0 97 98])
 (.cond (.t 97)
 (.reg [I0 100 9, I6 101 5 3, I7 102 101, I6 103 2 3, I7 104 103, I1 105 (.call 100 [(.t 100), (.t 102), (.t 104)]), I0 99 105, I8 106 99 0, I8 107 99 1, I0 9 106, I0 10 107])
 (.seq (.reg [I1 109 (.bini .eql (.t 41) (KI 6)), I0 108 109])
 (.cond (.t 108)
 (.seq (.reg [I0 111 9, I6 112 5 3, I7 113 112, I6 114 2 3, I7 115 114, I6 116 3 3, I7 117 116, I1 118 (.call 113 [(.t 111), (.t 113), (.t 115), (.t 117)]), I0 110 118, I8 119 110 0, I8 120 110 1, I6 121 1 6, I9 1 121 119, I6 122 0 6, I9 1 122 120])
 (.seq (.dregE [[(0, I1 123 (.load true 41 (.t 2))), (1, I1 124 (.load true 8 (.t 6))), (2, I9 41 4 123)], [(3, I9 8 5 124)]]
  [[], [], [0], [0, 1, 2]])
 .ret))
 (.seq (.reg [I1 126 (.bini .eql (.t 41) (KI 7)), I0 125 126])
 (.cond (.t 125)
 (.seq (.reg [I0 128 9, I6 129 5 3, I7 130 129, I1 131 (.call 114 [(.t 128), (.t 130)]), I0 127 131, I8 132 127 0, I8 133 127 1, I6 134 2 6, I9 4 134 132, I6 135 0 6, I9 1 135 133])
 (.seq (.dregE [[(0, I1 136 (.load true 41 (.t 2))), (1, I1 137 (.load true 8 (.t 6))), (2, I9 41 4 136)], [(3, I9 8 5 137)]]
  [[], [], [0], [0, 1, 2]])
 .ret))
 (.seq (.reg [I0 43 9, I6 44 5 3, I7 45 44, I1 46 (.call 115 [(.t 43), (.t 45)]), I0 42 46, I8 47 42 0, I8 48 42 1, I6 49 6 6, I9 1 49 47, I6 50 0 6, I9 1 50 48])
 (.seq (.dregE [[(0, I1 51 (.load true 41 (.t 2))), (1, I1 52 (.load true 8 (.t 6))), (2, I9 41 4 51)], [(3, I9 8 5 52)]]
  [[], [], [0], [0, 1, 2]])
 .ret))))))))))))))))))
 (.seq (.seq (.reg [I0 138 10, I1 139 (.bini .neq (.t 138) (KI 0))])
 (.cond (.t 139)
 (.seq (.reg [I1 140 (.load true 41 (.t 2)), I0 141 10, I1 142 (.call 86 [(.t 140), (.t 141)]), I8 143 142 0, I8 144 142 1, I9 41 4 143, I9 8 5 144])
 .ret)
 .skip))
 (.seq (.reg [I6 146 39 2, I7 147 146, I6 148 1 3, I7 149 148, I0 150 9, I1 151 (.call 17 [(.t 147), (.t 149), (.t 150)]), I0 145 151, I8 152 145 0, I8 153 145 1, I6 154 39 2, I9 1 154 152, I6 155 0 6, I9 1 155 153])
 (.seq (.dregE [[(0, I1 156 (.load true 41 (.t 2))), (1, I1 157 (.load true 8 (.t 6))), (2, I9 41 4 156)], [(3, I9 8 5 157)]]
  [[], [], [0], [0, 1, 2]])
 .ret))))))))))
theorem d88 : FnD Tryz.prog 88 2 156 [.cell 4 true 41, .cell 5 true 8] c88 := ⟨Tryz.f88, _, Tryz.func88, by kernel_rfl, rfl, rfl, by kernel_rfl, by kernel_rfl⟩
end Go.Proofs.YtemjlopoffjmpaaGreat.Abs
namespace Go.Proofs.YtemjlopoffjmpaaGreat.Abs
open Go
def c45 : ACode :=
 (.seq (.reg [I1 4 (.alloc [.int .i64 0, .int .i64 0, .int .i64 0, .int .i64 0, .int .i64 0, .str [], .str [], .str [], .emp])])
 (.seq (.reg [I0 6 0, I1 7 (.call 44 [(.t 6), (KI 6)]), I1 8 (.bini .add (KI 9) (.t 7)), I0 9 1, I1 10 (.build [.int .i64 0, .int .i64 0, .int .i64 0, .int .i64 0, .int .i64 0, .str [], .str [], .str [], .emp] [(0, 1, (.t 8)), (1, 1, (.t 9))]), I1 5 (.alloc [.int .i64 0, .int .i64 0, .int .i64 0, .int .i64 0, .int .i64 0, .str [], .str [], .str [], .emp]), I9 9 5 10])
 (.seq (.seq (.reg [I6 11 0 5, I7 12 11])
 (.block 0
 (.seq (.reg [I1 14 (.bini .eql (.t 12) (KI 9)), I0 13 14])
 (.cond (.t 13)
 (.reg [I0 15 0, I1 16 (.call 44 [(.t 15), (KI 9)]), I6 17 1 5, ⟨none, none, .store 1 (.t 17) (KI 0)⟩, I6 18 2 5, I9 1 18 16])
 (.seq (.reg [I1 20 (.bini .eql (.t 12) (KI 13)), I0 19 20])
 (.cond (.t 19)
 (.reg [I0 21 0, I1 22 (.call 44 [(.t 21), (KI 8)]), I1 23 (.bini .add (KI 1) (.t 22)), I6 24 2 5, I9 1 24 23])
 .skip))))))
 (.seq (.reg [I1 25 (.load true 9 (.t 5)), I9 9 4 25])
 .ret))))
theorem d45 : FnD Tryz.prog 45 2 24 [.cell 4 true 9] c45 := ⟨Tryz.f45, _, Tryz.func45, by kernel_rfl, rfl, rfl, by kernel_rfl, by kernel_rfl⟩
end Go.Proofs.YtemjlopoffjmpaaGreat.Abs
namespace Go.Proofs.YtemjlopoffjmpaaGreat.Abs
open Go
def c86 : ACode :=
 (.seq (.reg [I1 2 (.box (.t 0)), I1 4 (.alloc [.emp, .emp, .int .i64 0, .int .i64 0, .bool false, .int .i64 0, .int .i64 0, .int .u32 0, .int .u32 0, .int .u32 0, .int .u32 0, .int .i64 0, .int .i64 0, .int .i64 0, .int .i64 0, .int .i64 0, .int .u32 0, .int .u32 0, .int .u32 0, .int .u32 0, .int .i64 0, .int .i64 0, .int .u32 0, .int .u32 0, .int .u32 0, .int .u32 0, .int .i64 0, .int .i64 0, .int .u32 0, .int .u32 0, .int .u32 0, .int .u32 0, .int .i64 0, .emp, .emp, .emp, .emp, .int .i64 0, .int .i64 0, .emp, .bool false]), I1 5 (.alloc [.int .i64 0, .str [], .int .i64 0, .int .i64 0, .int .i64 0, .int .i64 0, .emp, .int .i64 0])])
 (.seq (.reg [I1 6 (.load true 41 (.t 2)), I0 7 1, I1 8 (.build [.int .i64 0, .str [], .int .i64 0, .int .i64 0, .int .i64 0, .int .i64 0, .emp, .int .i64 0] [(0, 1, (.t 7))]), I9 41 4 6, I9 8 5 8])
 .ret))
theorem d86 : FnD Tryz.prog 86 2 7 [.cell 4 true 41, .cell 5 true 8] c86 := ⟨Tryz.f86, _, Tryz.func86, by kernel_rfl, rfl, rfl, by kernel_rfl, by kernel_rfl⟩
end Go.Proofs.YtemjlopoffjmpaaGreat.Abs
namespace Go.Proofs.YtemjlopoffjmpaaGreat.Abs
open Go
def c87 : ACode :=
 (.seq (.reg [I1 2 (.mv (.c (.bool false)))])
 (.seq (.reg [I0 3 0, I1 4 (.bini .neq (.t 3) (KI 6)), I0 5 4, I4 6 5 0, I2 7 5 (.bini .neq (.t 6) (KI 7)), I1 8 (.pick (.t 5) (.t 7) (.c (.bool false))), I0 9 8, I4 10 9 0, I2 11 9 (.bini .neq (.t 10) (KI 8)), I1 12 (.pick (.t 9) (.t 11) (.c (.bool false))), I0 13 12, I4 14 13 0, I2 15 13 (.bini .leq (.t 14) (KI 17)), I1 16 (.pick (.t 13) (.t 15) (.c (.bool false))), I0 2 16])
 .ret))
theorem d87 : FnD Tryz.prog 87 1 16 [.tmp 2] c87 := ⟨Tryz.f87, _, Tryz.func87, by kernel_rfl, rfl, rfl, by kernel_rfl, by kernel_rfl⟩
end Go.Proofs.YtemjlopoffjmpaaGreat.Abs
namespace Go.Proofs.YtemjlopoffjmpaaGreat.Abs
open Go
def c73 : ACode :=
 (.seq (.reg [I1 4 (.mv (.c (.emp))), I1 5 (.mv (KI 0))])
 (.seq (.reg [I0 15 0, I0 16 1, I1 17 (.call 30 [(.t 15), (.t 16)]), I0 14 17, I8 18 14 0, I8 19 14 1, I1 6 (.alloc [.int .i64 0, .int .i64 0, .int .i64 0, .int .i64 0, .emp]), I9 5 6 18, I0 7 19])
 (.seq (.seq (.reg [I0 20 7, I1 21 (.un .not (.t 20))])
 (.cond (.t 21)
 (.seq (.reg [I0 22 0, I0 4 22, I1 5 (.mv (KI 2))])
 .ret)
 .skip))
 (.seq (.seq (.reg [I6 23 1 6, I7 24 23, I1 25 (.bini .neq (.t 24) (KI 1)), I0 26 25, I3 27 26 (.faddr 2 (.t 6)), I3 28 26 (.load false 1 (.t 27)), I3 29 26 (.bini .eql (.t 28) (KI 0)), I1 30 (.pick (.t 26) (.c (.bool true)) (.t 29))])
 (.cond (.t 30)
 (.seq (.reg [I0 31 0, I0 4 31, I1 5 (.mv (KI 1))])
 .ret)
 .skip))
 (.seq (.reg [I0 33 0, I6 34 2 6, I7 35 34, I1 36 (.call 30 [(.t 33), (.t 35)]), I0 32 36, I8 37 32 0, I8 38 32 1, I1 8 (.alloc [.int .i64 0, .int .i64 0, .int .i64 0, .int .i64 0, .emp]), I9 5 8 37, I0 9 38])
 (.seq (.reg [I0 40 0, I6 41 2 8, I7 42 41, I1 43 (.call 30 [(.t 40), (.t 42)]), I0 39 43, I8 44 39 0, I8 45 39 1, I1 10 (.alloc [.int .i64 0, .int .i64 0, .int .i64 0, .int .i64 0, .emp]), I9 5 10 44, I0 11 45])
 (.seq (.reg [I1 46 (.bslice 5 0 [.int .i64 0, .int .i64 0, .int .i64 0, .int .i64 0, .emp] []), I0 47 0, I1 48 (.append 5 56 [.int .i64 0, .int .i64 0, .int .i64 0, .int .i64 0, .emp] (.t 46) (.t 47)), I0 12 48])
 (.seq (.seq (.reg [I1 13 (.mv (KI 0))])
 (.block 0
 (.loop
 (.seq (.seq (.reg [I0 49 13, I0 50 12, I1 51 (.len false (.t 50)), I1 52 (.bini .lss (.t 49) (.t 51))])
 (.cond (.t 52)
 .skip
 (.exit 0)))
 (.seq (.block 1
 (.seq (.seq (.dreg [I0 55 12, I0 56 13, I1 57 (.iaddr 5 (.t 55) (.t 56)), I6 58 1 57, I7 59 58, I1 60 (.bini .eql (.t 59) (KI 2)), I0 61 60, I4 62 61 12, I4 63 61 13, I2 64 61 (.iaddr 5 (.t 62) (.t 63)), I2 65 61 (.faddr 2 (.t 64)), I2 66 61 (.load false 1 (.t 65)), I2 67 61 (.faddr 0 (.t 10)), I2 68 61 (.load false 1 (.t 67)), I2 69 61 (.bini .eql (.t 66) (.t 68)), I1 70 (.pick (.t 61) (.t 69) (.c (.bool false))), I0 71 70, I4 72 71 12, I4 73 71 13, I2 74 71 (.iaddr 5 (.t 72) (.t 73)), I2 75 71 (.faddr 0 (.t 74)), I2 76 71 (.load false 1 (.t 75)), I2 77 71 (.faddr 0 (.t 8)), I2 78 71 (.load false 1 (.t 77)), I2 79 71 (.bini .leq (.t 76) (.t 78)), I1 80 (.pick (.t 71) (.t 79) (.c (.bool false)))])
 (.cond (.t 80)
 (.reg [I0 81 12, I0 82 13, I0 83 1, I1 84 (.iaddr 5 (.t 81) (.t 82)), I6 85 2 84, I9 1 85 83])
 .skip))
 (.seq (.seq (.reg [I0 86 12, I0 87 13, I1 88 (.iaddr 5 (.t 86) (.t 87)), I6 89 0 88, I7 90 89, I0 91 1, I1 92 (.bini .eql (.t 90) (.t 91))])
 (.cond (.t 92)
 (.reg [I0 93 12, I0 94 13, I6 95 2 10, I7 96 95, I1 97 (.iaddr 5 (.t 93) (.t 94)), I6 98 2 97, I9 1 98 96])
 .skip))
 (.seq (.dreg [I0 99 12, I0 100 13, I1 101 (.iaddr 5 (.t 99) (.t 100)), I6 102 0 101, I7 103 102, I6 104 0 10, I7 105 104, I1 106 (.bini .eql (.t 103) (.t 105))])
 (.cond (.t 106)
 (.reg [I0 107 12, I0 108 13, I6 109 0 8, I7 110 109, I1 111 (.iaddr 5 (.t 107) (.t 108)), I6 112 2 111, I9 1 112 110])
 .skip)))))
 (.reg [I0 53 13, I1 54 (.bini .add (.t 53) (KI 1)), I0 13 54]))))))
 (.seq (.reg [I0 113 12, I0 4 113, I1 5 (.mv (KI 0))])
 .ret)))))))))
theorem d73 : FnD Tryz.prog 73 2 112 [.tmp 4, .tmp 5] c73 := ⟨Tryz.f73, _, Tryz.func73, by kernel_rfl, rfl, rfl, by kernel_rfl, by kernel_rfl⟩
end Go.Proofs.YtemjlopoffjmpaaGreat.Abs
namespace Go.Proofs.YtemjlopoffjmpaaGreat.Abs
open Go
def c75 : ACode :=
 (.seq (.reg [I1 4 (.mv (.c (.emp))), I1 5 (.mv (KI 0))])
 (.seq (.reg [I0 13 0, I0 14 1, I1 15 (.call 30 [(.t 13), (.t 14)]), I0 12 15, I8 16 12 0, I8 17 12 1, I1 6 (.alloc [.int .i64 0, .int .i64 0, .int .i64 0, .int .i64 0, .emp]), I9 5 6 16, I0 7 17])
 (.seq (.seq (.reg [I0 18 7, I1 19 (.un .not (.t 18))])
 (.cond (.t 19)
 (.seq (.reg [I0 20 0, I0 4 20, I1 5 (.mv (KI 2))])
 .ret)
 .skip))
 (.seq (.reg [I1 8 (.mv (KI 0)), I1 9 (.mv (.c (.bool false)))])
 (.seq (.reg [I1 10 (.mv (.c (.emp)))])
 (.seq (.seq (.reg [I1 11 (.mv (KI 0))])
 (.block 0
 (.loop
 (.seq (.seq (.reg [I0 21 11, I0 22 0, I1 23 (.len false (.t 22)), I1 24 (.bini .lss (.t 21) (.t 23))])
 (.cond (.t 24)
 .skip
 (.exit 0)))
 (.seq (.block 1
 (.seq (.seq (.reg [I0 27 0, I0 28 11, I1 29 (.iaddr 5 (.t 27) (.t 28)), I6 30 1 29, I7 31 30, I1 32 (.bini .eql (.t 31) (KI 1))])
 (.cond (.t 32)
 (.reg [I0 33 8, I1 34 (.bini .add (.t 33) (KI 1)), I0 8 34])
 .skip))
 (.seq (.reg [I0 35 9, I0 36 35, I5 37 36 0, I5 38 36 11, I3 39 36 (.iaddr 5 (.t 37) (.t 38)), I3 40 36 (.faddr 2 (.t 39)), I3 41 36 (.load false 1 (.t 40)), I5 42 36 1, I3 43 36 (.bini .eql (.t 41) (.t 42)), I1 44 (.pick (.t 36) (.c (.bool true)) (.t 43)), I0 9 44])
 (.seq (.reg [I0 45 0, I0 46 11, I1 47 (.iaddr 5 (.t 45) (.t 46)), I6 48 0 47, I7 49 48, I0 50 1, I1 51 (.bini .neq (.t 49) (.t 50))])
 (.cond (.t 51)
 (.reg [I0 52 10, I0 53 0, I0 54 11, I1 55 (.iaddr 5 (.t 53) (.t 54)), I1 56 (.load true 5 (.t 55)), I1 57 (.bslice 5 1 [.int .i64 0, .int .i64 0, .int .i64 0, .int .i64 0, .emp] [(0, (.t 56))]), I1 58 (.append 5 56 [.int .i64 0, .int .i64 0, .int .i64 0, .int .i64 0, .emp] (.t 52) (.t 57)), I0 10 58])
 .skip)))))
 (.reg [I0 25 11, I1 26 (.bini .add (.t 25) (KI 1)), I0 11 26]))))))
 (.seq (.seq (.reg [I0 59 9, I0 60 59, I3 61 60 (.faddr 1 (.t 6)), I3 62 60 (.load false 1 (.t 61)), I3 63 60 (.bini .eql (.t 62) (KI 1)), I5 64 60 63, I4 65 64 8, I2 66 64 (.bini .eql (.t 65) (KI 1)), I3 67 60 (.pick (.t 64) (.t 66) (.c (.bool false))), I1 68 (.pick (.t 60) (.c (.bool true)) (.t 67))])
 (.cond (.t 68)
 (.seq (.reg [I0 69 0, I0 4 69, I1 5 (.mv (KI 10))])
 .ret)
 .skip))
 (.seq (.reg [I0 70 10, I0 4 70, I1 5 (.mv (KI 0))])
 .ret))))))))
theorem d75 : FnD Tryz.prog 75 2 69 [.tmp 4, .tmp 5] c75 := ⟨Tryz.f75, _, Tryz.func75, by kernel_rfl, rfl, rfl, by kernel_rfl, by kernel_rfl⟩
end Go.Proofs.YtemjlopoffjmpaaGreat.Abs
namespace Go.Proofs.YtemjlopoffjmpaaGreat.Abs
open Go
def c74 : ACode :=
 (.seq (.reg [I1 6 (.mv (.c (.emp))), I1 7 (.mv (KI 0))])
 (.seq (.reg [I0 15 0, I0 16 1, I1 17 (.call 30 [(.t 15), (.t 16)]), I0 14 17, I8 18 14 0, I8 19 14 1, I1 8 (.alloc [.int .i64 0, .int .i64 0, .int .i64 0, .int .i64 0, .emp]), I9 5 8 18, I0 9 19])
 (.seq (.reg [I0 21 0, I0 22 2, I1 23 (.call 30 [(.t 21), (.t 22)]), I0 20 23, I8 24 20 0, I8 25 20 1, I1 10 (.alloc [.int .i64 0, .int .i64 0, .int .i64 0, .int .i64 0, .emp]), I9 5 10 24, I0 11 25])
 (.seq (.seq (.reg [I0 26 9, I1 27 (.un .not (.t 26)), I0 28 27, I5 29 28 11, I3 30 28 (.un .not (.t 29)), I1 31 (.pick (.t 28) (.c (.bool true)) (.t 30))])
 (.cond (.t 31)
 (.seq (.reg [I0 32 0, I0 6 32, I1 7 (.mv (KI 2))])
 .ret)
 .skip))
 (.seq (.seq (.reg [I6 33 1 8, I7 34 33, I1 35 (.bini .neq (.t 34) (KI 1)), I0 36 35, I3 37 36 (.faddr 1 (.t 10)), I3 38 36 (.load false 1 (.t 37)), I3 39 36 (.bini .neq (.t 38) (KI 2)), I1 40 (.pick (.t 36) (.c (.bool true)) (.t 39)), I0 41 40, I3 42 41 (.faddr 2 (.t 10)), I3 43 41 (.load false 1 (.t 42)), I5 44 41 1, I3 45 41 (.bini .neq (.t 43) (.t 44)), I1 46 (.pick (.t 41) (.c (.bool true)) (.t 45))])
 (.cond (.t 46)
 (.seq (.reg [I0 47 0, I0 6 47, I1 7 (.mv (KI 1))])
 .ret)
 .skip))
 (.seq (.seq (.reg [I1 12 (.mv (KI 0))])
 (.block 0
 (.loop
 (.seq (.seq (.reg [I0 48 12, I0 49 0, I1 50 (.len false (.t 49)), I1 51 (.bini .lss (.t 48) (.t 50))])
 (.cond (.t 51)
 .skip
 (.exit 0)))
 (.seq (.block 1
 (.seq (.reg [I0 54 0, I0 55 12, I1 56 (.iaddr 5 (.t 54) (.t 55)), I6 57 1 56, I7 58 57, I1 59 (.bini .eql (.t 58) (KI 2)), I0 60 59, I4 61 60 0, I4 62 60 12, I2 63 60 (.iaddr 5 (.t 61) (.t 62)), I2 64 60 (.faddr 2 (.t 63)), I2 65 60 (.load false 1 (.t 64)), I4 66 60 1, I2 67 60 (.bini .eql (.t 65) (.t 66)), I1 68 (.pick (.t 60) (.t 67) (.c (.bool false))), I0 69 68, I4 70 69 0, I4 71 69 12, I2 72 69 (.iaddr 5 (.t 70) (.t 71)), I2 73 69 (.faddr 0 (.t 72)), I2 74 69 (.load false 1 (.t 73)), I4 75 69 2, I2 76 69 (.bini .gtr (.t 74) (.t 75)), I1 77 (.pick (.t 69) (.t 76) (.c (.bool false)))])
 (.cond (.t 77)
 (.seq (.reg [I0 78 0, I0 6 78, I1 7 (.mv (KI 10))])
 .ret)
 .skip)))
 (.reg [I0 52 12, I1 53 (.bini .add (.t 52) (KI 1)), I0 12 53]))))))
 (.seq (.reg [I1 79 (.bslice 5 0 [.int .i64 0, .int .i64 0, .int .i64 0, .int .i64 0, .emp] []), I0 80 0, I1 81 (.append 5 56 [.int .i64 0, .int .i64 0, .int .i64 0, .int .i64 0, .emp] (.t 79) (.t 80)), I0 13 81])
 (.seq (.dregE [[(0, I0 82 13), (1, I0 83 0), (2, I0 84 1), (4, I6 86 4 10), (5, I7 87 86), (3, I1 85 (.call 52 [(.t 83), (.t 84)]))], [(6, I1 88 (.iaddr 5 (.t 82) (.t 85)))], [(7, I6 89 4 88)], [(8, I9 1 89 87)]]
  [[], [], [], [1, 2], [], [4], [0, 1, 2, 3, 4, 5], [0, 1, 2, 3, 4, 5, 6], [0, 1, 2, 3, 4, 5, 6, 7]])
 (.seq (.reg [I0 90 13, I0 6 90, I1 7 (.mv (KI 0))])
 .ret)))))))))
theorem d74 : FnD Tryz.prog 74 3 88 [.tmp 6, .tmp 7] c74 := ⟨Tryz.f74, _, Tryz.func74, by kernel_rfl, rfl, rfl, by kernel_rfl, by kernel_rfl⟩
end Go.Proofs.YtemjlopoffjmpaaGreat.Abs
namespace Go.Proofs.YtemjlopoffjmpaaGreat.Abs
open Go
def c17 : ACode :=
 (.seq (.reg [I1 6 (.mv (.c (.emp))), I1 7 (.mv (KI 0))])
 (.seq (.reg [I0 12 0, I0 13 1, I1 14 (.call 30 [(.t 12), (.t 13)]), I0 11 14, I8 15 11 0, I8 16 11 1, I1 8 (.alloc [.int .i64 0, .int .i64 0, .int .i64 0, .int .i64 0, .emp]), I9 5 8 15, I0 9 16])
 (.seq (.seq (.reg [I0 17 9, I1 18 (.un .not (.t 17))])
 (.cond (.t 18)
 (.seq (.reg [I0 19 0, I0 6 19, I1 7 (.mv (KI 2))])
 .ret)
 .skip))
 (.seq (.seq (.reg [I6 20 1 8, I7 21 20, I1 22 (.bini .eql (.t 21) (KI 2))])
 (.cond (.t 22)
 (.seq (.reg [I0 23 0, I0 6 23, I1 7 (.mv (KI 11))])
 .ret)
 .skip))
 (.seq (.seq (.dregE [[(0, I6 24 3 8)], [(1, I7 25 24)], [(2, I1 26 (.bini .gtr (.t 25) (KI 0)))], [(3, I0 27 26)], [(4, I4 28 27 2), (6, I2 30 27 (.faddr 3 (.t 8))), (7, I2 31 27 (.load false 1 (.t 30))), (5, I2 29 27 (.call 20 [(.t 28)]))], [(8, I2 32 27 (.bini .gtr (.t 29) (.t 31)))], [(9, I1 33 (.pick (.t 27) (.t 32) (.c (.bool false))))], [(10, I0 34 33)], [(11, I4 35 34 2), (13, I2 37 34 (.faddr 4 (.t 8))), (14, I2 38 34 (.load false 1 (.t 37))), (12, I2 36 34 (.call 20 [(.t 35)]))], [(15, I2 39 34 (.call 20 [(.t 38)]))], [(16, I2 40 34 (.bini .gtr (.t 36) (.t 39)))], [(17, I1 41 (.pick (.t 34) (.t 40) (.c (.bool false))))]]
  [[], [0], [0, 1], [0, 1, 2], [0, 1, 2, 3], [0, 1, 2, 3, 4], [0, 1, 2, 3], [0, 1, 2, 3, 6], [0, 1, 2, 3, 4, 5, 6, 7], [0, 1, 2, 3, 4, 5, 6, 7, 8], [0, 1, 2, 3, 4, 5, 6, 7, 8, 9], [0, 1, 2, 3, 4, 5, 6, 7, 8, 9, 10], [0, 1, 2, 3, 4, 5, 6, 7, 8, 9, 10, 11], [0, 1, 2, 3, 4, 5, 6, 7, 8, 9, 10], [0, 1, 2, 3, 4, 5, 6, 7, 8, 9, 10, 13], [0, 1, 2, 3, 4, 5, 6, 7, 8, 9, 10, 11, 12, 13, 14], [0, 1, 2, 3, 4, 5, 6, 7, 8, 9, 10, 11, 12, 13, 14, 15], [0, 1, 2, 3, 4, 5, 6, 7, 8, 9, 10, 11, 12, 13, 14, 15, 16]])
 (.cond (.t 41)
 (.seq (.reg [I0 42 0, I0 6 42, I1 7 (.mv (KI 9))])
 .ret)
 .skip))
 (.seq (.reg [I1 43 (.bslice 5 0 [.int .i64 0, .int .i64 0, .int .i64 0, .int .i64 0, .emp] []), I0 44 0, I1 45 (.append 5 56 [.int .i64 0, .int .i64 0, .int .i64 0, .int .i64 0, .emp] (.t 43) (.t 44)), I0 10 45])
 (.seq (.reg [I0 46 10, I0 47 0, I0 48 1, I1 49 (.call 52 [(.t 47), (.t 48)]), I1 50 (.bslice 5 0 [.int .i64 0, .int .i64 0, .str [], .str [], .int .i64 0] []), I0 51 2, I1 52 (.append 5 56 [.int .i64 0, .int .i64 0, .str [], .str [], .int .i64 0] (.t 50) (.t 51)), I1 53 (.iaddr 5 (.t 46) (.t 49)), I6 54 4 53, I9 1 54 52])
 (.seq (.reg [I0 55 10, I0 6 55, I1 7 (.mv (KI 0))])
 .ret))))))))
theorem d17 : FnD Tryz.prog 17 3 53 [.tmp 6, .tmp 7] c17 := ⟨Tryz.f17, _, Tryz.func17, by kernel_rfl, rfl, rfl, by kernel_rfl, by kernel_rfl⟩
end Go.Proofs.YtemjlopoffjmpaaGreat.Abs
namespace Go.Proofs.YtemjlopoffjmpaaGreat.Abs
open Go
def c20 : ACode :=
 (.seq (.reg [I1 2 (.mv (KI 0))])
 (.seq (.reg [I1 3 (.mv (KI 0))])
 (.seq (.seq (.reg [I1 4 (.mv (KI 0))])
 (.block 0
 (.loop
 (.seq (.seq (.reg [I0 5 4, I0 6 0, I1 7 (.len false (.t 6)), I1 8 (.bini .lss (.t 5) (.t 7))])
 (.cond (.t 8)
 .skip
 (.exit 0)))
 (.seq (.block 1
 (.reg [I0 11 3, I0 12 0, I0 13 4, I1 14 (.iaddr 5 (.t 12) (.t 13)), I6 15 3 14, I7 16 15, I1 17 (.call 54 [(.t 16)]), I1 18 (.bini .add (.t 11) (.t 17)), I0 3 18]))
 (.reg [I0 9 4, I1 10 (.bini .add (.t 9) (KI 1)), I0 4 10]))))))
 (.seq (.reg [I0 19 3, I0 2 19])
 .ret))))
theorem d20 : FnD Tryz.prog 20 1 19 [.tmp 2] c20 := ⟨Tryz.f20, _, Tryz.func20, by kernel_rfl, rfl, rfl, by kernel_rfl, by kernel_rfl⟩
end Go.Proofs.YtemjlopoffjmpaaGreat.Abs
namespace Go.Proofs.YtemjlopoffjmpaaGreat.Abs
open Go
def c104 : ACode :=
 (.seq (.reg [I1 2 (.mv (.c (.bool false)))])
 (.seq (.reg [I0 3 0, I1 4 (.call 129 [(.t 3)]), I0 5 4, I5 6 5 0, I3 7 5 (.call 130 [(.t 6)]), I1 8 (.pick (.t 5) (.c (.bool true)) (.t 7)), I0 2 8])
 .ret))
theorem d104 : FnD Tryz.prog 104 1 8 [.tmp 2] c104 := ⟨Tryz.f104, _, Tryz.func104, by kernel_rfl, rfl, rfl, by kernel_rfl, by kernel_rfl⟩
end Go.Proofs.YtemjlopoffjmpaaGreat.Abs
namespace Go.Proofs.YtemjlopoffjmpaaGreat.Abs
open Go
def c30 : ACode :=
 (.seq (.reg [I1 4 (.alloc [.int .i64 0, .int .i64 0, .int .i64 0, .int .i64 0, .emp]), I1 5 (.mv (.c (.bool false)))])
 (.seq (.reg [I0 7 0, I0 8 1, I1 9 (.call 52 [(.t 7), (.t 8)]), I0 6 9])
 (.seq (.seq (.reg [I0 10 6, I1 11 (.bini .lss (.t 10) (KI 0))])
 (.cond (.t 11)
 (.seq (.reg [I1 12 (.build [.int .i64 0, .int .i64 0, .int .i64 0, .int .i64 0, .emp] []), I9 5 4 12, I1 5 (.mv (.c (.bool false)))])
 .ret)
 .skip))
 (.seq (.reg [I0 13 0, I0 14 6, I1 15 (.iaddr 5 (.t 13) (.t 14)), I1 16 (.load true 5 (.t 15)), I9 5 4 16, I1 5 (.mv (.c (.bool true)))])
 .ret))))
theorem d30 : FnD Tryz.prog 30 2 15 [.cell 4 true 5, .tmp 5] c30 := ⟨Tryz.f30, _, Tryz.func30, by kernel_rfl, rfl, rfl, by kernel_rfl, by kernel_rfl⟩
end Go.Proofs.YtemjlopoffjmpaaGreat.Abs
namespace Go.Proofs.YtemjlopoffjmpaaGreat.Abs
open Go
def c52 : ACode :=
 (.seq (.reg [I1 4 (.mv (KI 0))])
 (.seq (.seq (.reg [I1 5 (.mv (KI 0))])
 (.block 0
 (.loop
 (.seq (.seq (.reg [I0 6 5, I0 7 0, I1 8 (.len false (.t 7)), I1 9 (.bini .lss (.t 6) (.t 8))])
 (.cond (.t 9)
 .skip
 (.exit 0)))
 (.seq (.block 1
 (.seq (.reg [I0 12 0, I0 13 5, I1 14 (.iaddr 5 (.t 12) (.t 13)), I6 15 0 14, I7 16 15, I0 17 1, I1 18 (.bini .eql (.t 16) (.t 17))])
 (.cond (.t 18)
 (.seq (.reg [I0 19 5, I0 4 19])
 .ret)
 .skip)))
 (.reg [I0 10 5, I1 11 (.bini .add (.t 10) (KI 1)), I0 5 11]))))))
 (.seq (.reg [I1 4 (.mv (.c (.int .i64 (-1))))])
 .ret)))
theorem d52 : FnD Tryz.prog 52 2 18 [.tmp 4] c52 := ⟨Tryz.f52, _, Tryz.func52, by kernel_rfl, rfl, rfl, by kernel_rfl, by kernel_rfl⟩
end Go.Proofs.YtemjlopoffjmpaaGreat.Abs
namespace Go.Proofs.YtemjlopoffjmpaaGreat.Abs
open Go
def c61 : ACode :=
 (.seq (.reg [I1 2 (.mv (.c (.bool false)))])
 (.seq (.reg [I0 3 0, I1 4 (.bini .geq (.t 3) (KI 0)), I0 5 4, I4 6 5 0, I2 7 5 (.bini .leq (.t 6) (KI 65535)), I1 8 (.pick (.t 5) (.t 7) (.c (.bool false))), I0 2 8])
 .ret))
theorem d61 : FnD Tryz.prog 61 1 8 [.tmp 2] c61 := ⟨Tryz.f61, _, Tryz.func61, by kernel_rfl, rfl, rfl, by kernel_rfl, by kernel_rfl⟩
end Go.Proofs.YtemjlopoffjmpaaGreat.Abs
namespace Go.Proofs.YtemjlopoffjmpaaGreat.Abs
open Go
def c128 : ACode :=
 (.seq (.reg [I1 4 (.mv (.c (.bool false)))])
 (.seq (.reg [I0 5 1, I1 6 (.bini .geq (.t 5) (KI 0)), I0 7 6, I4 8 7 1, I4 9 7 0, I2 10 7 (.len false (.t 9)), I2 11 7 (.bini .lss (.t 8) (.t 10)), I1 12 (.pick (.t 7) (.t 11) (.c (.bool false))), I0 13 12, I4 14 13 0, I4 15 13 1, I2 16 13 (.iaddr 5 (.t 14) (.t 15)), I2 17 13 (.faddr 0 (.t 16)), I2 18 13 (.load false 1 (.t 17)), I2 19 13 (.bini .eql (.t 18) (KI 2)), I4 20 13 19, I5 21 20 0, I5 22 20 1, I3 23 20 (.iaddr 5 (.t 21) (.t 22)), I3 24 20 (.faddr 0 (.t 23)), I3 25 20 (.load false 1 (.t 24)), I3 26 20 (.bini .eql (.t 25) (KI 3)), I2 27 13 (.pick (.t 20) (.c (.bool true)) (.t 26)), I1 28 (.pick (.t 13) (.t 27) (.c (.bool false))), I0 4 28])
 .ret))
theorem d128 : FnD Tryz.prog 128 2 27 [.tmp 4] c128 := ⟨Tryz.f128, _, Tryz.func128, by kernel_rfl, rfl, rfl, by kernel_rfl, by kernel_rfl⟩
end Go.Proofs.YtemjlopoffjmpaaGreat.Abs
namespace Go.Proofs.YtemjlopoffjmpaaGreat.Abs
open Go
def c130 : ACode :=
 (.seq (.reg [I1 2 (.mv (.c (.bool false)))])
 (.seq (.seq (.reg [I1 3 (.mv (KI 0))])
 (.block 0
 (.loop
 (.seq (.seq (.reg [I0 4 3, I0 5 0, I1 6 (.len false (.t 5)), I1 7 (.bini .lss (.t 4) (.t 6))])
 (.cond (.t 7)
 .skip
 (.exit 0)))
 (.seq (.block 1
 (.seq (.reg [I0 10 0, I0 11 3, I1 12 (.iaddr 5 (.t 10) (.t 11)), I6 13 4 12, I7 14 13, I1 15 (.bini .neq (.t 14) (KI 0))])
 (.cond (.t 15)
 (.seq (.reg [I1 2 (.mv (.c (.bool true)))])
 .ret)
 .skip)))
 (.reg [I0 8 3, I1 9 (.bini .add (.t 8) (KI 1)), I0 3 9]))))))
 (.seq (.reg [I1 2 (.mv (.c (.bool false)))])
 .ret)))
theorem d130 : FnD Tryz.prog 130 1 15 [.tmp 2] c130 := ⟨Tryz.f130, _, Tryz.func130, by kernel_rfl, rfl, rfl, by kernel_rfl, by kernel_rfl⟩
end Go.Proofs.YtemjlopoffjmpaaGreat.Abs
namespace Go.Proofs.YtemjlopoffjmpaaGreat.Abs
open Go
def c57 : ACode :=
 (.seq (.reg [I1 5 (.box (.t 2)), I1 6 (.mv (.c (.emp))), I1 7 (.mv (KI 0))])
 (.seq (.reg [I0 9 0, I1 10 (.len false (.t 9)), I0 8 10])
 (.seq (.seq (.reg [I0 11 8, I1 12 (.bini .geq (.t 11) (KI 8)), I0 13 12, I5 14 13 1, I3 15 13 (.bini .lss (.t 14) (KI 1)), I1 16 (.pick (.t 13) (.c (.bool true)) (.t 15)), I0 17 16, I5 18 17 1, I3 19 17 (.bini .gtr (.t 18) (KI 65535)), I1 20 (.pick (.t 17) (.c (.bool true)) (.t 19)), I0 21 20, I5 22 21 8, I3 23 21 (.bini .gtr (.t 22) (KI 0)), I5 24 21 23, I4 25 24 1, I4 26 24 0, I4 27 24 8, I2 28 24 (.bini .sub (.t 27) (KI 1)), I2 29 24 (.iaddr 5 (.t 26) (.t 28)), I2 30 24 (.faddr 0 (.t 29)), I2 31 24 (.load false 1 (.t 30)), I2 32 24 (.bini .leq (.t 25) (.t 31)), I3 33 21 (.pick (.t 24) (.t 32) (.c (.bool false))), I1 34 (.pick (.t 21) (.c (.bool true)) (.t 33))])
 (.cond (.t 34)
 (.seq (.reg [I0 35 0, I1 36 (.call 56 [(.t 35)]), I0 6 36, I1 7 (.mv (KI 8))])
 .ret)
 .skip))
 (.seq (.reg [I0 37 1, I6 38 0 5, I9 1 38 37])
 (.seq (.dregE [[(0, I0 39 0), (2, I1 41 (.load true 5 (.t 5))), (3, I1 42 (.bslice 5 1 [.int .i64 0, .int .i64 0, .int .i64 0, .int .i64 0, .emp] [(0, (.t 41))])), (1, I1 40 (.call 48 [(.t 39)]))], [(4, I1 43 (.append 5 56 [.int .i64 0, .int .i64 0, .int .i64 0, .int .i64 0, .emp] (.t 40) (.t 42)))], [(5, I1 44 (.call 56 [(.t 43)]))], [(6, I0 6 44)], [(7, I1 7 (.mv (KI 0)))]]
  [[], [0], [], [2], [0, 1, 2, 3], [0, 1, 2, 3, 4], [0, 1, 2, 3, 4, 5], [0, 1, 2, 3, 4, 5, 6]])
 .ret)))))
theorem d57 : FnD Tryz.prog 57 3 42 [.tmp 6, .tmp 7] c57 := ⟨Tryz.f57, _, Tryz.func57, by kernel_rfl, rfl, rfl, by kernel_rfl, by kernel_rfl⟩
end Go.Proofs.YtemjlopoffjmpaaGreat.Abs
namespace Go.Proofs.YtemjlopoffjmpaaGreat.Abs
open Go
def c65 : ACode :=
 (.seq (.reg [I1 6 (.mv (.c (.emp)))])
 (.seq (.reg [I0 8 0, I0 9 1, I0 10 2, I0 11 0, I1 12 (.len false (.t 11)), I1 13 (.slice3 (.t 8) (.t 9) (.t 10) (.t 12))])
 (.seq (.seq (.reg [I0 14 1, I0 15 2, I1 16 (.bini .eql (.t 14) (.t 15))])
 (.cond (.t 16)
 (.seq (.reg [I0 17 0, I0 6 17])
 .ret)
 .skip))
 (.seq (.reg [I0 18 0, I1 19 (.len false (.t 18)), I0 7 19])
 (.seq (.dregE [[(0, I0 20 0), (1, I0 21 1), (2, I1 22 (.slicel 5 (.t 20) none (some (.t 21)))), (3, I0 23 0), (4, I0 24 2), (5, I1 25 (.slicel 5 (.t 23) (some (.t 24)) none))], [(6, I1 26 (.append 5 56 [.int .i64 0, .int .i64 0, .int .i64 0, .int .i64 0, .emp] (.t 22) (.t 25)))], [(7, I0 0 26)]]
  [[], [], [0, 1], [], [], [3, 4], [0, 1, 2, 3, 4, 5], [0, 1, 2, 3, 4, 5, 6]])
 (.seq (.reg [I0 27 0, I0 28 0, I1 29 (.len false (.t 28)), I0 30 7, I1 31 (.slicel 5 (.t 27) (some (.t 29)) (some (.t 30))), ⟨none, none, .clear 5 [.int .i64 0, .int .i64 0, .int .i64 0, .int .i64 0, .emp] (.t 31)⟩])
 (.seq (.reg [I0 32 0, I0 6 32])
 .ret)))))))
theorem d65 : FnD Tryz.prog 65 3 30 [.tmp 6] c65 := ⟨Tryz.f65, _, Tryz.func65, by kernel_rfl, rfl, rfl, by kernel_rfl, by kernel_rfl⟩
end Go.Proofs.YtemjlopoffjmpaaGreat.Abs
namespace Go.Proofs.YtemjlopoffjmpaaGreat.Abs
open Go
def c63 : ACode :=
 (.seq (.reg [I1 4 (.mv (.c (.bool false)))])
 (.seq (.reg [I0 5 0, I0 6 1, I1 7 (.call 101 [(.t 5), (.t 6)]), I1 8 (.bini .geq (.t 7) (KI 0)), I0 4 8])
 .ret))
theorem d63 : FnD Tryz.prog 63 2 7 [.tmp 4] c63 := ⟨Tryz.f63, _, Tryz.func63, by kernel_rfl, rfl, rfl, by kernel_rfl, by kernel_rfl⟩
end Go.Proofs.YtemjlopoffjmpaaGreat.Abs
namespace Go.Proofs.YtemjlopoffjmpaaGreat.Abs
open Go
def c64 : ACode :=
 (.seq (.reg [I1 2 (.box (.t 0)), I1 3 (.mv (.c (.bool false)))])
 (.seq (.reg [I6 4 2 2, I7 5 4, I7 6 1, I1 7 (.bini .eql (.t 5) (.t 6)), I0 3 7])
 .ret))
theorem d64 : FnD Tryz.prog 64 2 6 [.tmp 3] c64 := ⟨Tryz.f64, _, Tryz.func64, by kernel_rfl, rfl, rfl, by kernel_rfl, by kernel_rfl⟩
end Go.Proofs.YtemjlopoffjmpaaGreat.Abs
namespace Go.Proofs.YtemjlopoffjmpaaGreat.Abs
open Go
def c77 : ACode :=
 (.seq (.reg [I1 3 (.box (.t 0)), I1 4 (.mv (.c (.bool false)))])
 (.seq (.reg [I6 5 1 3, I7 6 5, I1 7 (.bini .eql (.t 6) (KI 2)), I0 8 7, I2 9 8 (.faddr 2 (.t 3)), I2 10 8 (.load false 1 (.t 9)), I2 11 8 (.load false 1 (.t 1)), I2 12 8 (.bini .eql (.t 10) (.t 11)), I1 13 (.pick (.t 8) (.t 12) (.c (.bool false))), I0 14 13, I2 15 14 (.faddr 0 (.t 3)), I2 16 14 (.load false 1 (.t 15)), I2 17 14 (.load false 1 (.t 2)), I2 18 14 (.bini .gtr (.t 16) (.t 17)), I1 19 (.pick (.t 14) (.t 18) (.c (.bool false))), I0 4 19])
 .ret))
theorem d77 : FnD Tryz.prog 77 3 17 [.tmp 4] c77 := ⟨Tryz.f77, _, Tryz.func77, by kernel_rfl, rfl, rfl, by kernel_rfl, by kernel_rfl⟩
end Go.Proofs.YtemjlopoffjmpaaGreat.Abs
namespace Go.Proofs.YtemjlopoffjmpaaGreat.Abs
open Go
def c56 : ACode :=
 (.seq (.reg [I1 2 (.mv (.c (.emp)))])
 (.seq (.reg [I0 4 0, I1 5 (.call 48 [(.t 4)]), I0 0 5])
 (.seq (.seq (.reg [I0 6 0, I1 7 (.len false (.t 6)), I1 8 (.mv (KI 0))])
 (.block 0
 (.loop
 (.seq (.reg [I1 9 (.bini .lss (.t 8) (.t 7))])
 (.seq (.cond (.t 9)
 .skip
 (.exit 0))
 (.seq (.block 1
 (.seq (.reg [I0 10 8, I0 3 10])
 (.reg [I0 11 0, I0 12 3, I0 13 0, I0 14 3, I1 15 (.iaddr 5 (.t 13) (.t 14)), I6 16 4 15, I7 17 16, I1 18 (.call 49 [(.t 17)]), I1 19 (.iaddr 5 (.t 11) (.t 12)), I6 20 4 19, I9 1 20 18])))
 (.reg [I1 21 (.bini .add (.t 8) (KI 1)), I0 8 21])))))))
 (.seq (.reg [I0 22 0, I0 2 22])
 .ret))))
theorem d56 : FnD Tryz.prog 56 1 22 [.tmp 2] c56 := ⟨Tryz.f56, _, Tryz.func56, by kernel_rfl, rfl, rfl, by kernel_rfl, by kernel_rfl⟩
end Go.Proofs.YtemjlopoffjmpaaGreat.Abs
namespace Go.Proofs.YtemjlopoffjmpaaGreat.Abs
open Go
def c48 : ACode :=
 (.seq (.reg [I1 2 (.mv (.c (.emp)))])
 (.seq (.seq (.reg [I0 3 0, I1 4 (.eqnil false (.t 3))])
 (.cond (.t 4)
 (.seq (.reg [I1 2 (.mv (.c (.emp)))])
 .ret)
 .skip))
 (.seq (.reg [I1 5 (.bslice 5 0 [.int .i64 0, .int .i64 0, .int .i64 0, .int .i64 0, .emp] []), I0 6 0, I1 7 (.append 5 56 [.int .i64 0, .int .i64 0, .int .i64 0, .int .i64 0, .emp] (.t 5) (.t 6)), I0 2 7])
 .ret)))
theorem d48 : FnD Tryz.prog 48 1 7 [.tmp 2] c48 := ⟨Tryz.f48, _, Tryz.func48, by kernel_rfl, rfl, rfl, by kernel_rfl, by kernel_rfl⟩
end Go.Proofs.YtemjlopoffjmpaaGreat.Abs
namespace Go.Proofs.YtemjlopoffjmpaaGreat.Abs
open Go
def c49 : ACode :=
 (.seq (.reg [I1 2 (.mv (.c (.emp)))])
 (.seq (.seq (.reg [I0 3 0, I1 4 (.eqnil false (.t 3))])
 (.cond (.t 4)
 (.seq (.reg [I1 2 (.mv (.c (.emp)))])
 .ret)
 .skip))
 (.seq (.reg [I1 5 (.bslice 5 0 [.int .i64 0, .int .i64 0, .str [], .str [], .int .i64 0] []), I0 6 0, I1 7 (.append 5 56 [.int .i64 0, .int .i64 0, .str [], .str [], .int .i64 0] (.t 5) (.t 6)), I0 2 7])
 .ret)))
theorem d49 : FnD Tryz.prog 49 1 7 [.tmp 2] c49 := ⟨Tryz.f49, _, Tryz.func49, by kernel_rfl, rfl, rfl, by kernel_rfl, by kernel_rfl⟩
end Go.Proofs.YtemjlopoffjmpaaGreat.Abs
namespace Go.Proofs.YtemjlopoffjmpaaGreat.Abs
open Go
end Go.Proofs.YtemjlopoffjmpaaGreat.Abs
namespace Go.Proofs.YtemjlopoffjmpaaGreat.Abs
open Go
def c102 : ACode :=
 (.seq (.reg [I1 2 (.box (.t 0)), I1 3 (.mv (.c (.bool false)))])
 (.seq (.reg [I6 4 0 2, I7 5 4, I7 6 1, I1 7 (.bini .eql (.t 5) (.t 6)), I0 3 7])
 .ret))
theorem d102 : FnD Tryz.prog 102 2 6 [.tmp 3] c102 := ⟨Tryz.f102, _, Tryz.func102, by kernel_rfl, rfl, rfl, by kernel_rfl, by kernel_rfl⟩
end Go.Proofs.YtemjlopoffjmpaaGreat.Abs
namespace Go.Proofs.YtemjlopoffjmpaaGreat.Abs
open Go
end Go.Proofs.YtemjlopoffjmpaaGreat.Abs
namespace Go.Proofs.YtemjlopoffjmpaaGreat.Abs
open Go
end Go.Proofs.YtemjlopoffjmpaaGreat.Abs
namespace Go.Proofs.YtemjlopoffjmpaaGreat.Abs
open Go
def c46 : ACode :=
 (.seq (.reg [I1 4 (.alloc [.int .i64 0, .int .i64 0, .int .i64 0, .int .i64 0, .int .i64 0, .str [], .str [], .str [], .emp])])
 (.seq (.dregE [[(0, I1 6 (.bslice 1 12 [.int .i64 0] [(0, (KI 1)), (1, (KI 1)), (2, (KI 1)), (3, (KI 2)), (4, (KI 3)), (5, (KI 3)), (6, (KI 4)), (7, (KI 4)), (8, (KI 4)), (9, (KI 5)), (10, (KI 1)), (11, (KI 4))])), (1, I0 7 0), (5, I0 11 1), (6, I0 12 0), (9, I1 5 (.alloc [.int .i64 0, .int .i64 0, .int .i64 0, .int .i64 0, .int .i64 0, .str [], .str [], .str [], .emp])), (2, I1 8 (.call 44 [(.t 7), (KI 12)])), (3, I1 9 (.iaddr 1 (.t 6) (.t 8))), (4, I7 10 9), (7, I1 13 (.call 84 [(.t 12)])), (8, I1 14 (.build [.int .i64 0, .int .i64 0, .int .i64 0, .int .i64 0, .int .i64 0, .str [], .str [], .str [], .emp] [(0, 1, (.t 10)), (1, 1, (.t 11)), (5, 1, (.t 13))]))], [(10, I9 9 5 14)]]
  [[], [], [1], [0, 1, 2], [0, 1, 2, 3], [], [], [1, 2, 6], [0, 1, 2, 3, 4, 5, 6, 7], [], [0, 1, 2, 3, 4, 5, 6, 7, 8, 9]])
 (.seq (.seq (.reg [I6 15 0 5, I7 16 15])
 (.block 0
 (.seq (.reg [I1 18 (.bini .eql (.t 16) (KI 1)), I0 17 18])
 (.cond (.t 17)
 (.seq (.reg [I0 19 0, I1 20 (.call 44 [(.t 19), (KI 2)]), I1 21 (.bini .add (KI 1) (.t 20)), I6 22 2 5, I9 1 22 21])
 (.seq (.reg [I0 23 0, I1 24 (.call 44 [(.t 23), (KI 16)]), I1 25 (.bini .eql (.t 24) (KI 0))])
 (.cond (.t 25)
 (.reg [I0 26 0, I1 27 (.call 44 [(.t 26), (KI 5)]), I6 28 2 5, I9 1 28 27])
 .skip)))
 (.seq (.reg [I1 30 (.bini .eql (.t 16) (KI 3)), I0 29 30])
 (.cond (.t 29)
 (.reg [I0 31 0, I1 32 (.call 84 [(.t 31)]), I6 33 6 5, I9 1 33 32])
 (.seq (.reg [I1 35 (.bini .eql (.t 16) (KI 4)), I0 34 35])
 (.cond (.t 34)
 (.dregE [[(0, I1 36 (.bslice 1 8 [.int .i64 0] [(0, (KI 0)), (1, (KI 0)), (2, (KI 1)), (3, (KI 31)), (4, (KI 32)), (5, (KI 64)), (6, (KI 100)), (7, (KI 130))])), (1, I0 37 0), (5, I0 41 0), (2, I1 38 (.call 44 [(.t 37), (KI 8)])), (3, I1 39 (.iaddr 1 (.t 36) (.t 38))), (4, I7 40 39), (7, I6 43 2 5), (6, I1 42 (.call 85 [(.t 41)]))], [(8, I9 1 43 40)], [(9, I6 44 7 5)], [(10, I9 1 44 42)]]
  [[], [], [1], [0, 1, 2], [0, 1, 2, 3], [], [1, 2, 5], [0, 1, 2, 3, 4], [0, 1, 2, 3, 4, 5, 6, 7], [0, 1, 2, 3, 4, 5, 6, 7, 8], [0, 1, 2, 3, 4, 5, 6, 7, 8, 9]])
 (.seq (.reg [I1 46 (.bini .eql (.t 16) (KI 5)), I0 45 46])
 (.cond (.t 45)
 (.reg [I1 47 (.bslice 1 8 [.int .i64 0] [(0, (KI 0)), (1, (KI 1)), (2, (KI 32)), (3, (KI 33)), (4, (KI 128)), (5, (KI 129)), (6, (KI 60)), (7, (KI 64))]), I0 48 0, I1 49 (.call 44 [(.t 48), (KI 8)]), I1 50 (.iaddr 1 (.t 47) (.t 49)), I7 51 50, I6 52 2 5, I9 1 52 51])
 .skip))))))))))
 (.seq (.reg [I1 53 (.load true 9 (.t 5)), I9 9 4 53])
 .ret))))
theorem d46 : FnD Tryz.prog 46 2 52 [.cell 4 true 9] c46 := ⟨Tryz.f46, _, Tryz.func46, by kernel_rfl, rfl, rfl, by kernel_rfl, by kernel_rfl⟩
end Go.Proofs.YtemjlopoffjmpaaGreat.Abs
namespace Go.Proofs.YtemjlopoffjmpaaGreat.Abs
open Go
end Go.Proofs.YtemjlopoffjmpaaGreat.Abs
namespace Go.Proofs.YtemjlopoffjmpaaGreat.Abs
open Go
def c109 : ACode :=
 (.seq (.reg [I1 2 (.mv (.c (.emp))), I1 3 (.mv (.c (.bool false)))])
 (.seq (.seq (.reg [I0 7 0, I1 8 (.bins .eql (.t 7) (.c (.str [])))])
 (.cond (.t 8)
 (.seq (.reg [I1 2 (.mv (.c (.emp))), I1 3 (.mv (.c (.bool true)))])
 .ret)
 .skip))
 (.seq (.reg [I1 4 (.mv (.c (.emp)))])
 (.seq (.reg [I1 5 (.mv (KI 0))])
 (.seq (.seq (.reg [I1 6 (.mv (KI 0))])
 (.block 0
 (.loop
 (.seq (.seq (.reg [I0 9 6, I0 10 0, I1 11 (.len true (.t 10)), I1 12 (.bini .leq (.t 9) (.t 11))])
 (.cond (.t 12)
 .skip
 (.exit 0)))
 (.seq (.block 1
 (.seq (.seq (.reg [I0 15 6, I0 16 0, I1 17 (.len true (.t 16)), I1 18 (.bini .lss (.t 15) (.t 17)), I0 19 18, I4 20 19 0, I4 21 19 6, I2 22 19 (.indexs (.t 20) (.t 21)), I2 23 19 (.bini .neq (.t 22) (.c (.int .u8 47))), I1 24 (.pick (.t 19) (.t 23) (.c (.bool false)))])
 (.cond (.t 24)
 (.exit 1)
 .skip))
 (.seq (.seq (.reg [I0 25 0, I0 26 5, I0 27 6, I1 28 (.slices (.t 25) (some (.t 26)) (some (.t 27))), I1 29 (.call 127 [(.t 28)]), I1 30 (.un .not (.t 29)), I0 31 30, I5 32 31 4, I3 33 31 (.len false (.t 32)), I3 34 31 (.bini .geq (.t 33) (KI 7)), I1 35 (.pick (.t 31) (.c (.bool true)) (.t 34))])
 (.cond (.t 35)
 (.seq (.reg [I1 2 (.mv (.c (.emp))), I1 3 (.mv (.c (.bool false)))])
 .ret)
 .skip))
 (.seq (.reg [I0 36 4, I0 37 0, I0 38 5, I0 39 6, I1 40 (.slices (.t 37) (some (.t 38)) (some (.t 39))), I1 41 (.bslice 1 1 [.str []] [(0, (.t 40))]), I1 42 (.append 1 16 [.str []] (.t 36) (.t 41)), I0 4 42])
 (.reg [I0 43 6, I1 44 (.bini .add (.t 43) (KI 1)), I0 5 44])))))
 (.reg [I0 13 6, I1 14 (.bini .add (.t 13) (KI 1)), I0 6 14]))))))
 (.seq (.reg [I0 45 4, I0 2 45, I1 3 (.mv (.c (.bool true)))])
 .ret))))))
theorem d109 : FnD Tryz.prog 109 1 45 [.tmp 2, .tmp 3] c109 := ⟨Tryz.f109, _, Tryz.func109, by kernel_rfl, rfl, rfl, by kernel_rfl, by kernel_rfl⟩
end Go.Proofs.YtemjlopoffjmpaaGreat.Abs
namespace Go.Proofs.YtemjlopoffjmpaaGreat.Abs
open Go
def c42 : ACode :=
 (.seq (.reg [I1 8 (.mv (.c (.emp))), I1 9 (.mv (KI 0))])
 (.seq (.reg [I0 15 0, I0 16 1, I1 17 (.call 82 [(.t 15), (.t 16)]), I0 14 17, I8 18 14 0, I8 19 14 1, I0 10 18, I0 11 19])
 (.seq (.seq (.reg [I0 20 11, I1 21 (.bini .neq (.t 20) (KI 0))])
 (.cond (.t 21)
 (.seq (.reg [I0 22 0, I0 23 11, I0 8 22, I0 9 23])
 .ret)
 .skip))
 (.seq (.seq (.reg [I0 24 2, I1 25 (.bini .lss (.t 24) (KI 0))])
 (.cond (.t 25)
 (.seq (.reg [I0 26 0, I0 8 26, I1 9 (.mv (KI 1))])
 .ret)
 .skip))
 (.seq (.seq (.reg [I0 27 2, I1 28 (.bini .gtr (.t 27) (KI 128)), I0 29 28, I5 30 29 3, I3 31 29 (.len true (.t 30)), I5 32 29 2, I3 33 29 (.bini .sub (KI 128) (.t 32)), I3 34 29 (.bini .gtr (.t 31) (.t 33)), I1 35 (.pick (.t 29) (.c (.bool true)) (.t 34))])
 (.cond (.t 35)
 (.seq (.reg [I0 36 0, I0 8 36, I1 9 (.mv (KI 8))])
 .ret)
 .skip))
 (.seq (.seq (.reg [I0 37 3, I1 38 (.bins .eql (.t 37) (.c (.str [])))])
 (.cond (.t 38)
 (.seq (.reg [I0 39 0, I0 8 39, I1 9 (.mv (KI 0))])
 .ret)
 .skip))
 (.seq (.reg [I0 40 0, I0 41 10, I1 42 (.iaddr 5 (.t 40) (.t 41)), I1 43 (.load true 5 (.t 42)), I1 12 (.alloc [.int .i64 0, .int .i64 0, .str [], .str [], .int .i64 0]), I9 5 12 43])
 (.seq (.reg [I6 44 3 12, I7 45 44, I6 46 3 12, I7 47 46, I1 48 (.len true (.t 47)), I0 49 2, I0 50 3, I1 51 (.len true (.t 50)), I1 52 (.bini .add (.t 49) (.t 51)), I1 53 (.max2 (.t 48) (.t 52)), I1 54 (.call 83 [(.t 45), (.t 53)]), I1 55 (.convsb (.t 54)), I0 13 55])
 (.seq (.reg [I0 56 13, I0 57 2, I1 58 (.slicel 1 (.t 56) (some (.t 57)) none), I0 59 3, I1 60 (.copy 1 (.t 58) (.t 59))])
 (.seq (.reg [I0 61 13, I1 62 (.convbs (.t 61)), I6 63 3 12, I9 1 63 62])
 (.seq (.reg [I0 64 0, I0 65 10, I1 66 (.load true 5 (.t 12)), I1 67 (.call 81 [(.t 64), (.t 65), (.t 66)]), I0 8 67, I1 9 (.mv (KI 0))])
 .ret)))))))))))
theorem d42 : FnD Tryz.prog 42 4 64 [.tmp 8, .tmp 9] c42 := ⟨Tryz.f42, _, Tryz.func42, by kernel_rfl, rfl, rfl, by kernel_rfl, by kernel_rfl⟩
end Go.Proofs.YtemjlopoffjmpaaGreat.Abs
namespace Go.Proofs.YtemjlopoffjmpaaGreat.Abs
open Go
def c98 : ACode :=
 (.seq (.reg [I1 4 (.mv (.c (.emp))), I1 5 (.mv (KI 0))])
 (.seq (.reg [I0 9 0, I0 10 1, I1 11 (.call 112 [(.t 9), (.t 10)]), I0 8 11, I8 12 8 0, I8 13 8 1, I0 6 12, I0 7 13])
 (.seq (.seq (.reg [I0 14 7, I1 15 (.bini .neq (.t 14) (KI 0))])
 (.cond (.t 15)
 (.seq (.reg [I0 16 0, I0 17 7, I0 4 16, I0 5 17])
 .ret)
 .skip))
 (.seq (.seq (.reg [I0 18 6, I1 19 (.bini .eql (.t 18) (KI 0))])
 (.cond (.t 19)
 (.seq (.reg [I0 20 0, I0 4 20, I1 5 (.mv (KI 4))])
 .ret)
 .skip))
 (.seq (.seq (.reg [I0 21 0, I0 22 6, I1 23 (.call 111 [(.t 21), (.t 22)]), I1 24 (.len false (.t 23)), I1 25 (.bini .gtr (.t 24) (KI 0))])
 (.cond (.t 25)
 (.seq (.reg [I0 26 0, I0 4 26, I1 5 (.mv (KI 6))])
 .ret)
 .skip))
 (.seq (.reg [I0 27 0, I0 28 6, I1 29 (.build [.int .i64 0, .int .i64 0, .str [], .str [], .int .i64 0] []), I1 30 (.call 81 [(.t 27), (.t 28), (.t 29)]), I0 4 30, I1 5 (.mv (KI 0))])
 .ret))))))
theorem d98 : FnD Tryz.prog 98 2 29 [.tmp 4, .tmp 5] c98 := ⟨Tryz.f98, _, Tryz.func98, by kernel_rfl, rfl, rfl, by kernel_rfl, by kernel_rfl⟩
end Go.Proofs.YtemjlopoffjmpaaGreat.Abs
namespace Go.Proofs.YtemjlopoffjmpaaGreat.Abs
open Go
def c99 : ACode :=
 (.seq (.reg [I1 6 (.mv (.c (.emp))), I1 7 (.mv (KI 0))])
 (.seq (.reg [I0 16 0, I0 17 1, I1 18 (.call 112 [(.t 16), (.t 17)]), I0 15 18, I8 19 15 0, I8 20 15 1, I0 8 19, I0 9 20])
 (.seq (.seq (.reg [I0 21 9, I1 22 (.bini .neq (.t 21) (KI 0))])
 (.cond (.t 22)
 (.seq (.reg [I0 23 0, I0 24 9, I0 6 23, I0 7 24])
 .ret)
 .skip))
 (.seq (.seq (.reg [I0 25 8, I1 26 (.bini .eql (.t 25) (KI 0))])
 (.cond (.t 26)
 (.seq (.reg [I0 27 0, I0 6 27, I1 7 (.mv (KI 4))])
 .ret)
 .skip))
 (.seq (.reg [I0 29 0, I0 30 2, I1 31 (.call 78 [(.t 29), (.t 30)]), I0 28 31, I8 32 28 0, I8 33 28 1, I8 34 28 2, I0 10 32, I0 11 33, I0 9 34])
 (.seq (.seq (.reg [I0 35 9, I1 36 (.bini .neq (.t 35) (KI 0))])
 (.cond (.t 36)
 (.seq (.reg [I0 37 0, I0 38 9, I0 6 37, I0 7 38])
 .ret)
 .skip))
 (.seq (.reg [I0 40 0, I0 41 10, I0 42 11, I1 43 (.call 79 [(.t 40), (.t 41), (.t 42)]), I0 39 43, I8 44 39 0, I8 45 39 1, I0 12 44, I0 13 45])
 (.seq (.seq (.reg [I0 46 13, I0 47 46, I4 48 47 12, I4 49 47 8, I2 50 47 (.bini .eql (.t 48) (.t 49)), I1 51 (.pick (.t 47) (.t 50) (.c (.bool false)))])
 (.cond (.t 51)
 (.seq (.reg [I0 52 0, I0 6 52, I1 7 (.mv (KI 0))])
 .ret)
 .skip))
 (.seq (.seq (.reg [I0 53 13])
 (.cond (.t 53)
 (.seq (.reg [I0 54 0, I0 6 54, I1 7 (.mv (KI 3))])
 .ret)
 .skip))
 (.seq (.seq (.reg [I0 55 0, I0 56 10, I0 57 8, I1 58 (.call 126 [(.t 55), (.t 56), (.t 57)])])
 (.cond (.t 58)
 (.seq (.reg [I0 59 0, I0 6 59, I1 7 (.mv (KI 7))])
 .ret)
 .skip))
 (.seq (.reg [I0 60 0, I0 61 8, I1 62 (.iaddr 5 (.t 60) (.t 61)), I1 63 (.load true 5 (.t 62)), I1 14 (.alloc [.int .i64 0, .int .i64 0, .str [], .str [], .int .i64 0]), I9 5 14 63])
 (.seq (.reg [I0 64 10, I0 65 11, I6 66 1 14, I9 1 66 64, I6 67 2 14, I9 1 67 65])
 (.seq (.reg [I0 68 0, I0 69 8, I1 70 (.load true 5 (.t 14)), I1 71 (.call 81 [(.t 68), (.t 69), (.t 70)]), I0 6 71, I1 7 (.mv (KI 0))])
 .ret)))))))))))))
theorem d99 : FnD Tryz.prog 99 3 69 [.tmp 6, .tmp 7] c99 := ⟨Tryz.f99, _, Tryz.func99, by kernel_rfl, rfl, rfl, by kernel_rfl, by kernel_rfl⟩
end Go.Proofs.YtemjlopoffjmpaaGreat.Abs
namespace Go.Proofs.YtemjlopoffjmpaaGreat.Abs
open Go
def c100 : ACode :=
 (.seq (.reg [I1 6 (.mv (.c (.emp))), I1 7 (.mv (KI 0))])
 (.seq (.reg [I0 12 0, I0 13 1, I1 14 (.call 82 [(.t 12), (.t 13)]), I0 11 14, I8 15 11 0, I8 16 11 1, I0 8 15, I0 9 16])
 (.seq (.seq (.reg [I0 17 9, I1 18 (.bini .neq (.t 17) (KI 0))])
 (.cond (.t 18)
 (.seq (.reg [I0 19 0, I0 20 9, I0 6 19, I0 7 20])
 .ret)
 .skip))
 (.seq (.seq (.reg [I0 21 2, I1 22 (.bini .lss (.t 21) (KI 0))])
 (.cond (.t 22)
 (.seq (.reg [I0 23 0, I0 6 23, I1 7 (.mv (KI 1))])
 .ret)
 .skip))
 (.seq (.seq (.reg [I0 24 2, I1 25 (.bini .gtr (.t 24) (KI 128))])
 (.cond (.t 25)
 (.seq (.reg [I0 26 0, I0 6 26, I1 7 (.mv (KI 8))])
 .ret)
 .skip))
 (.seq (.reg [I0 27 0, I0 28 8, I1 29 (.iaddr 5 (.t 27) (.t 28)), I1 30 (.load true 5 (.t 29)), I1 10 (.alloc [.int .i64 0, .int .i64 0, .str [], .str [], .int .i64 0]), I9 5 10 30])
 (.seq (.reg [I6 31 3 10, I7 32 31, I0 33 2, I1 34 (.call 83 [(.t 32), (.t 33)]), I6 35 3 10, I9 1 35 34])
 (.seq (.reg [I0 36 0, I0 37 8, I1 38 (.load true 5 (.t 10)), I1 39 (.call 81 [(.t 36), (.t 37), (.t 38)]), I0 6 39, I1 7 (.mv (KI 0))])
 .ret))))))))
theorem d100 : FnD Tryz.prog 100 3 37 [.tmp 6, .tmp 7] c100 := ⟨Tryz.f100, _, Tryz.func100, by kernel_rfl, rfl, rfl, by kernel_rfl, by kernel_rfl⟩
end Go.Proofs.YtemjlopoffjmpaaGreat.Abs
namespace Go.Proofs.YtemjlopoffjmpaaGreat.Abs
open Go
def c41 : ACode :=
 (.seq (.reg [I1 6 (.mv (.c (.emp))), I1 7 (.mv (KI 0))])
 (.seq (.seq (.reg [I0 15 2, I1 16 (.bini .neq (.t 15) (KI 1)), I0 17 16, I4 18 17 2, I2 19 17 (.bini .neq (.t 18) (KI 2)), I1 20 (.pick (.t 17) (.t 19) (.c (.bool false)))])
 (.cond (.t 20)
 (.seq (.reg [I0 21 0, I0 6 21, I1 7 (.mv (KI 1))])
 .ret)
 .skip))
 (.seq (.reg [I0 23 0, I0 24 1, I1 25 (.call 78 [(.t 23), (.t 24)]), I0 22 25, I8 26 22 0, I8 27 22 1, I8 28 22 2, I0 8 26, I0 9 27, I0 10 28])
 (.seq (.seq (.reg [I0 29 10, I1 30 (.bini .neq (.t 29) (KI 0))])
 (.cond (.t 30)
 (.seq (.reg [I0 31 0, I0 32 10, I0 6 31, I0 7 32])
 .ret)
 .skip))
 (.seq (.reg [I0 34 0, I0 35 8, I0 36 9, I1 37 (.call 79 [(.t 34), (.t 35), (.t 36)]), I0 33 37, I8 38 33 0, I8 39 33 1, I0 11 38, I0 12 39])
 (.seq (.seq (.reg [I0 40 12])
 (.cond (.t 40)
 (.seq (.reg [I0 41 0, I0 6 41, I1 7 (.mv (KI 3))])
 .ret)
 .skip))
 (.seq (.reg [I0 43 0, I1 44 (.call 80 [(.t 43)]), I0 42 44, I8 45 42 0, I8 46 42 1, I0 13 45, I0 14 46])
 (.seq (.seq (.reg [I0 47 14, I1 48 (.un .not (.t 47))])
 (.cond (.t 48)
 (.seq (.reg [I0 49 0, I0 6 49, I1 7 (.mv (KI 8))])
 .ret)
 .skip))
 (.seq (.reg [I0 50 0, I0 51 13, I0 52 2, I0 53 8, I0 54 9, I1 55 (.build [.int .i64 0, .int .i64 0, .str [], .str [], .int .i64 0] [(0, 1, (.t 52)), (1, 1, (.t 53)), (2, 1, (.t 54))]), I1 56 (.call 81 [(.t 50), (.t 51), (.t 55)]), I0 6 56, I1 7 (.mv (KI 0))])
 .ret)))))))))
theorem d41 : FnD Tryz.prog 41 3 54 [.tmp 6, .tmp 7] c41 := ⟨Tryz.f41, _, Tryz.func41, by kernel_rfl, rfl, rfl, by kernel_rfl, by kernel_rfl⟩
end Go.Proofs.YtemjlopoffjmpaaGreat.Abs
namespace Go.Proofs.YtemjlopoffjmpaaGreat.Abs
open Go
def c126 : ACode :=
 (.seq (.reg [I1 6 (.mv (.c (.bool false)))])
 (.seq (.seq (.reg [I0 8 0, I0 9 1, I1 10 (.call 157 [(.t 8), (.t 9)]), I1 11 (.un .not (.t 10)), I0 12 11, I5 13 12 0, I5 14 12 2, I3 15 12 (.call 157 [(.t 13), (.t 14)]), I3 16 12 (.un .not (.t 15)), I1 17 (.pick (.t 12) (.c (.bool true)) (.t 16))])
 (.cond (.t 17)
 (.seq (.reg [I1 6 (.mv (.c (.bool false)))])
 .ret)
 .skip))
 (.seq (.seq (.reg [I1 7 (.mv (KI 0))])
 (.block 0
 (.loop
 (.seq (.seq (.reg [I0 18 7, I0 19 0, I1 20 (.len false (.t 19)), I1 21 (.bini .lss (.t 18) (.t 20)), I0 22 21, I4 23 22 1, I4 24 22 2, I2 25 22 (.bini .neq (.t 23) (.t 24)), I1 26 (.pick (.t 22) (.t 25) (.c (.bool false))), I0 27 26, I4 28 27 1, I2 29 27 (.bini .neq (.t 28) (KI 0)), I1 30 (.pick (.t 27) (.t 29) (.c (.bool false)))])
 (.cond (.t 30)
 .skip
 (.exit 0)))
 (.seq (.block 1
 (.reg [I0 33 0, I0 34 1, I1 35 (.iaddr 5 (.t 33) (.t 34)), I6 36 1 35, I7 37 36, I0 1 37]))
 (.reg [I0 31 7, I1 32 (.bini .add (.t 31) (KI 1)), I0 7 32]))))))
 (.seq (.reg [I0 38 1, I0 39 2, I1 40 (.bini .eql (.t 38) (.t 39)), I0 6 40])
 .ret))))
theorem d126 : FnD Tryz.prog 126 3 38 [.tmp 6] c126 := ⟨Tryz.f126, _, Tryz.func126, by kernel_rfl, rfl, rfl, by kernel_rfl, by kernel_rfl⟩
end Go.Proofs.YtemjlopoffjmpaaGreat.Abs
namespace Go.Proofs.YtemjlopoffjmpaaGreat.Abs
open Go
def c78 : ACode :=
 (.seq (.reg [I1 4 (.mv (KI 0)), I1 5 (.mv (.c (.str []))), I1 6 (.mv (KI 0))])
 (.seq (.reg [I0 12 1, I1 13 (.call 109 [(.t 12)]), I0 11 13, I8 14 11 0, I8 15 11 1, I0 7 14, I0 8 15])
 (.seq (.seq (.reg [I0 16 8, I1 17 (.un .not (.t 16)), I0 18 17, I5 19 18 7, I3 20 18 (.len false (.t 19)), I3 21 18 (.bini .eql (.t 20) (KI 0)), I1 22 (.pick (.t 18) (.c (.bool true)) (.t 21))])
 (.cond (.t 22)
 (.seq (.reg [I1 4 (.mv (KI 0)), I1 5 (.mv (.c (.str []))), I1 6 (.mv (KI 1))])
 .ret)
 .skip))
 (.seq (.reg [I0 24 0, I0 25 7, I0 26 7, I1 27 (.len false (.t 26)), I1 28 (.bini .sub (.t 27) (KI 1)), I1 29 (.slicel 1 (.t 25) none (some (.t 28))), I1 30 (.call 110 [(.t 24), (.t 29)]), I0 23 30, I8 31 23 0, I8 32 23 1, I0 9 31, I0 10 32])
 (.seq (.seq (.reg [I0 33 10, I1 34 (.bini .neq (.t 33) (KI 0))])
 (.cond (.t 34)
 (.seq (.reg [I0 35 10, I1 4 (.mv (KI 0)), I1 5 (.mv (.c (.str []))), I0 6 35])
 .ret)
 .skip))
 (.seq (.seq (.reg [I0 36 9, I0 37 0, I1 38 (.len false (.t 37)), I1 39 (.bini .geq (.t 36) (.t 38)), I0 40 39, I5 41 40 0, I5 42 40 9, I3 43 40 (.iaddr 5 (.t 41) (.t 42)), I3 44 40 (.faddr 0 (.t 43)), I3 45 40 (.load false 1 (.t 44)), I3 46 40 (.bini .neq (.t 45) (KI 2)), I1 47 (.pick (.t 40) (.c (.bool true)) (.t 46))])
 (.cond (.t 47)
 (.seq (.reg [I1 4 (.mv (KI 0)), I1 5 (.mv (.c (.str []))), I1 6 (.mv (KI 5))])
 .ret)
 .skip))
 (.seq (.dreg [I0 48 9, I0 49 7, I0 50 7, I1 51 (.len false (.t 50)), I1 52 (.bini .sub (.t 51) (KI 1)), I1 53 (.iaddr 1 (.t 49) (.t 52)), I7 54 53, I0 4 48, I0 5 54, I1 6 (.mv (KI 0))])
 .ret)))))))
theorem d78 : FnD Tryz.prog 78 2 53 [.tmp 4, .tmp 5, .tmp 6] c78 := ⟨Tryz.f78, _, Tryz.func78, by kernel_rfl, rfl, rfl, by kernel_rfl, by kernel_rfl⟩
end Go.Proofs.YtemjlopoffjmpaaGreat.Abs
namespace Go.Proofs.YtemjlopoffjmpaaGreat.Abs
open Go
def c82 : ACode :=
 (.seq (.reg [I1 4 (.mv (KI 0)), I1 5 (.mv (KI 0))])
 (.seq (.reg [I0 9 0, I0 10 1, I1 11 (.call 112 [(.t 9), (.t 10)]), I0 8 11, I8 12 8 0, I8 13 8 1, I0 6 12, I0 7 13])
 (.seq (.seq (.reg [I0 14 7, I1 15 (.bini .eql (.t 14) (KI 0)), I0 16 15, I4 17 16 0, I4 18 16 6, I2 19 16 (.iaddr 5 (.t 17) (.t 18)), I2 20 16 (.faddr 0 (.t 19)), I2 21 16 (.load false 1 (.t 20)), I2 22 16 (.bini .eql (.t 21) (KI 2)), I1 23 (.pick (.t 16) (.t 22) (.c (.bool false)))])
 (.cond (.t 23)
 (.seq (.reg [I1 4 (.mv (KI 0)), I1 5 (.mv (KI 4))])
 .ret)
 .skip))
 (.seq (.reg [I0 24 6, I0 25 7, I0 4 24, I0 5 25])
 .ret))))
theorem d82 : FnD Tryz.prog 82 2 24 [.tmp 4, .tmp 5] c82 := ⟨Tryz.f82, _, Tryz.func82, by kernel_rfl, rfl, rfl, by kernel_rfl, by kernel_rfl⟩
end Go.Proofs.YtemjlopoffjmpaaGreat.Abs
namespace Go.Proofs.YtemjlopoffjmpaaGreat.Abs
open Go
def c112 : ACode :=
 (.seq (.reg [I1 4 (.mv (KI 0)), I1 5 (.mv (KI 0))])
 (.seq (.reg [I0 9 1, I1 10 (.call 109 [(.t 9)]), I0 8 10, I8 11 8 0, I8 12 8 1, I0 6 11, I0 7 12])
 (.seq (.seq (.reg [I0 13 7, I1 14 (.un .not (.t 13))])
 (.cond (.t 14)
 (.seq (.reg [I1 4 (.mv (KI 0)), I1 5 (.mv (KI 1))])
 .ret)
 .skip))
 (.seq (.reg [I0 15 0, I0 16 6, I1 17 (.call 110 [(.t 15), (.t 16)]), I8 18 17 0, I8 19 17 1, I0 4 18, I0 5 19])
 .ret))))
theorem d112 : FnD Tryz.prog 112 2 18 [.tmp 4, .tmp 5] c112 := ⟨Tryz.f112, _, Tryz.func112, by kernel_rfl, rfl, rfl, by kernel_rfl, by kernel_rfl⟩
end Go.Proofs.YtemjlopoffjmpaaGreat.Abs
namespace Go.Proofs.YtemjlopoffjmpaaGreat.Abs
open Go
def c79 : ACode :=
 (.seq (.reg [I1 6 (.mv (KI 0)), I1 7 (.mv (.c (.bool false)))])
 (.seq (.reg [I0 10 0, I0 11 1, I1 12 (.call 111 [(.t 10), (.t 11)]), I0 8 12])
 (.seq (.seq (.reg [I1 9 (.mv (KI 0))])
 (.block 0
 (.loop
 (.seq (.seq (.reg [I0 13 9, I0 14 8, I1 15 (.len false (.t 14)), I1 16 (.bini .lss (.t 13) (.t 15))])
 (.cond (.t 16)
 .skip
 (.exit 0)))
 (.seq (.block 1
 (.seq (.reg [I0 19 0, I0 20 8, I0 21 9, I1 22 (.iaddr 1 (.t 20) (.t 21)), I7 23 22, I1 24 (.iaddr 5 (.t 19) (.t 23)), I6 25 2 24, I7 26 25, I0 27 2, I1 28 (.bins .eql (.t 26) (.t 27))])
 (.cond (.t 28)
 (.seq (.reg [I0 29 8, I0 30 9, I1 31 (.iaddr 1 (.t 29) (.t 30)), I7 32 31, I0 6 32, I1 7 (.mv (.c (.bool true)))])
 .ret)
 .skip)))
 (.reg [I0 17 9, I1 18 (.bini .add (.t 17) (KI 1)), I0 9 18]))))))
 (.seq (.reg [I1 6 (.mv (KI 0)), I1 7 (.mv (.c (.bool false)))])
 .ret))))
theorem d79 : FnD Tryz.prog 79 3 30 [.tmp 6, .tmp 7] c79 := ⟨Tryz.f79, _, Tryz.func79, by kernel_rfl, rfl, rfl, by kernel_rfl, by kernel_rfl⟩
end Go.Proofs.YtemjlopoffjmpaaGreat.Abs
namespace Go.Proofs.YtemjlopoffjmpaaGreat.Abs
open Go
def c110 : ACode :=
 (.seq (.reg [I1 4 (.mv (KI 0)), I1 5 (.mv (KI 0))])
 (.seq (.reg [I1 6 (.mv (KI 0))])
 (.seq (.seq (.reg [I1 7 (.mv (KI 0))])
 (.block 0
 (.loop
 (.seq (.seq (.reg [I0 10 7, I0 11 1, I1 12 (.len false (.t 11)), I1 13 (.bini .lss (.t 10) (.t 12))])
 (.cond (.t 13)
 .skip
 (.exit 0)))
 (.seq (.block 1
 (.seq (.seq (.reg [I0 16 6, I0 17 0, I1 18 (.len false (.t 17)), I1 19 (.bini .geq (.t 16) (.t 18)), I0 20 19, I5 21 20 0, I5 22 20 6, I3 23 20 (.iaddr 5 (.t 21) (.t 22)), I3 24 20 (.faddr 0 (.t 23)), I3 25 20 (.load false 1 (.t 24)), I3 26 20 (.bini .neq (.t 25) (KI 2)), I1 27 (.pick (.t 20) (.c (.bool true)) (.t 26))])
 (.cond (.t 27)
 (.seq (.reg [I1 4 (.mv (KI 0)), I1 5 (.mv (KI 5))])
 .ret)
 .skip))
 (.seq (.reg [I0 29 0, I0 30 6, I0 31 1, I0 32 7, I1 33 (.iaddr 1 (.t 31) (.t 32)), I7 34 33, I1 35 (.call 79 [(.t 29), (.t 30), (.t 34)]), I0 28 35, I8 36 28 0, I8 37 28 1, I0 8 36, I0 9 37])
 (.seq (.seq (.reg [I0 38 9, I1 39 (.un .not (.t 38)), I0 40 39, I4 41 40 0, I2 42 40 (.call 129 [(.t 41)]), I1 43 (.pick (.t 40) (.t 42) (.c (.bool false)))])
 (.cond (.t 43)
 (.seq (.reg [I1 4 (.mv (KI 0)), I1 5 (.mv (KI 12))])
 .ret)
 .skip))
 (.seq (.seq (.reg [I0 44 9, I1 45 (.un .not (.t 44))])
 (.cond (.t 45)
 (.seq (.reg [I1 4 (.mv (KI 0)), I1 5 (.mv (KI 2))])
 .ret)
 .skip))
 (.reg [I0 46 8, I0 6 46]))))))
 (.reg [I0 14 7, I1 15 (.bini .add (.t 14) (KI 1)), I0 7 15]))))))
 (.seq (.reg [I0 47 6, I0 4 47, I1 5 (.mv (KI 0))])
 .ret))))
theorem d110 : FnD Tryz.prog 110 2 46 [.tmp 4, .tmp 5] c110 := ⟨Tryz.f110, _, Tryz.func110, by kernel_rfl, rfl, rfl, by kernel_rfl, by kernel_rfl⟩
end Go.Proofs.YtemjlopoffjmpaaGreat.Abs
namespace Go.Proofs.YtemjlopoffjmpaaGreat.Abs
open Go
def c111 : ACode :=
 (.seq (.reg [I1 4 (.mv (.c (.emp)))])
 (.seq (.reg [I1 5 (.mv (.c (.emp)))])
 (.seq (.seq (.reg [I1 6 (.mv (KI 1))])
 (.block 0
 (.loop
 (.seq (.seq (.reg [I0 8 6, I0 9 0, I1 10 (.len false (.t 9)), I1 11 (.bini .lss (.t 8) (.t 10))])
 (.cond (.t 11)
 .skip
 (.exit 0)))
 (.seq (.block 1
 (.seq (.seq (.reg [I0 14 0, I0 15 6, I1 16 (.iaddr 5 (.t 14) (.t 15)), I6 17 0 16, I7 18 17, I1 19 (.bini .neq (.t 18) (KI 1)), I0 20 19, I4 21 20 0, I4 22 20 6, I2 23 20 (.iaddr 5 (.t 21) (.t 22)), I2 24 20 (.faddr 0 (.t 23)), I2 25 20 (.load false 1 (.t 24)), I2 26 20 (.bini .neq (.t 25) (KI 2)), I1 27 (.pick (.t 20) (.t 26) (.c (.bool false))), I0 28 27, I5 29 28 0, I5 30 28 6, I3 31 28 (.iaddr 5 (.t 29) (.t 30)), I3 32 28 (.faddr 1 (.t 31)), I3 33 28 (.load false 1 (.t 32)), I5 34 28 1, I3 35 28 (.bini .neq (.t 33) (.t 34)), I1 36 (.pick (.t 28) (.c (.bool true)) (.t 35))])
 (.cond (.t 36)
 (.exit 1)
 .skip))
 (.seq (.reg [I0 37 5, I1 38 (.len false (.t 37)), I0 7 38])
 (.seq (.reg [I0 39 5, I0 40 6, I1 41 (.bslice 1 1 [.int .i64 0] [(0, (.t 40))]), I1 42 (.append 1 8 [.int .i64 0] (.t 39) (.t 41)), I0 5 42])
 (.block 2
 (.loop
 (.seq (.seq (.dreg [I0 43 7, I1 44 (.bini .gtr (.t 43) (KI 0)), I0 45 44, I4 46 45 0, I4 47 45 5, I4 48 45 7, I2 49 45 (.bini .sub (.t 48) (KI 1)), I2 50 45 (.iaddr 1 (.t 47) (.t 49)), I2 51 45 (.load false 1 (.t 50)), I2 52 45 (.iaddr 5 (.t 46) (.t 51)), I2 53 45 (.faddr 2 (.t 52)), I2 54 45 (.load false 1 (.t 53)), I4 55 45 0, I4 56 45 6, I2 57 45 (.iaddr 5 (.t 55) (.t 56)), I2 58 45 (.faddr 2 (.t 57)), I2 59 45 (.load false 1 (.t 58)), I2 60 45 (.bins .gtr (.t 54) (.t 59)), I1 61 (.pick (.t 45) (.t 60) (.c (.bool false)))])
 (.cond (.t 61)
 .skip
 (.exit 2)))
 (.block 3
 (.seq (.dregE [[(0, I0 62 5), (1, I0 63 7), (2, I1 64 (.bini .sub (.t 63) (KI 1))), (3, I0 65 5), (4, I0 66 7), (5, I0 67 5), (6, I0 68 7), (7, I1 69 (.iaddr 1 (.t 67) (.t 68))), (8, I7 70 69), (9, I0 71 5), (10, I0 72 7), (11, I1 73 (.bini .sub (.t 72) (KI 1))), (12, I1 74 (.iaddr 1 (.t 71) (.t 73))), (13, I7 75 74), (14, I1 76 (.iaddr 1 (.t 62) (.t 64))), (15, I9 1 76 70)], [(16, I1 77 (.iaddr 1 (.t 65) (.t 66)))], [(17, I9 1 77 75)]]
  [[], [], [1], [], [], [], [], [5, 6], [5, 6, 7], [], [], [10], [9, 10, 11], [9, 10, 11, 12], [0, 1, 2, 5, 6, 7, 8, 9, 10, 11, 12, 13], [0, 1, 2, 5, 6, 7, 8, 9, 10, 11, 12, 13, 14], [0, 1, 2, 3, 4, 5, 6, 7, 8, 9, 10, 11, 12, 13, 14, 15], [0, 1, 2, 3, 4, 5, 6, 7, 8, 9, 10, 11, 12, 13, 14, 15, 16]])
 (.reg [I0 78 7, I1 79 (.bini .sub (.t 78) (KI 1)), I0 7 79]))))))))))
 (.reg [I0 12 6, I1 13 (.bini .add (.t 12) (KI 1)), I0 6 13]))))))
 (.seq (.reg [I0 80 5, I0 4 80])
 .ret))))
theorem d111 : FnD Tryz.prog 111 2 79 [.tmp 4] c111 := ⟨Tryz.f111, _, Tryz.func111, by kernel_rfl, rfl, rfl, by kernel_rfl, by kernel_rfl⟩
end Go.Proofs.YtemjlopoffjmpaaGreat.Abs
namespace Go.Proofs.YtemjlopoffjmpaaGreat.Abs
open Go
def c85 : ACode :=
 (.seq (.reg [I1 2 (.mv (.c (.str [])))])
 (.seq (.reg [I1 7 (.bslice 1 8 [.int .i64 0] [(0, (KI 0)), (1, (KI 1)), (2, (KI 3)), (3, (KI 17)), (4, (KI 32)), (5, (KI 33)), (6, (KI 64)), (7, (KI 129))]), I0 8 0, I1 9 (.call 44 [(.t 8), (KI 8)]), I1 10 (.iaddr 1 (.t 7) (.t 9)), I7 11 10, I0 3 11])
 (.seq (.reg [I0 12 0, I1 13 (.call 44 [(.t 12), (KI 4)]), I1 14 (.bini .mul (.t 13) (KI 40)), I1 15 (.convi .u8 (.t 14)), I0 4 15])
 (.seq (.reg [I0 16 3, I1 17 (.mksl 1 1 [.int .u8 0] (.t 16) (.t 16)), I0 5 17])
 (.seq (.seq (.reg [I1 6 (.mv (KI 0))])
 (.block 0
 (.loop
 (.seq (.seq (.reg [I0 18 6, I0 19 3, I1 20 (.bini .lss (.t 18) (.t 19))])
 (.cond (.t 20)
 .skip
 (.exit 0)))
 (.seq (.block 1
 (.seq (.reg [I0 23 4, I1 24 (.bini .gtr (.t 23) (.c (.int .u8 0)))])
 (.cond (.t 24)
 (.reg [I0 25 5, I0 26 6, I0 27 4, I0 28 6, I1 29 (.bini .rem (.t 28) (KI 5)), I1 30 (.convi .u8 (.t 29)), I1 31 (.bini .add (.t 27) (.t 30)), I1 32 (.iaddr 1 (.t 25) (.t 26)), I9 1 32 31])
 .skip)))
 (.reg [I0 21 6, I1 22 (.bini .add (.t 21) (KI 1)), I0 6 22]))))))
 (.seq (.reg [I0 33 5, I1 34 (.convbs (.t 33)), I0 2 34])
 .ret))))))
theorem d85 : FnD Tryz.prog 85 1 34 [.tmp 2] c85 := ⟨Tryz.f85, _, Tryz.func85, by kernel_rfl, rfl, rfl, by kernel_rfl, by kernel_rfl⟩
end Go.Proofs.YtemjlopoffjmpaaGreat.Abs
namespace Go.Proofs.YtemjlopoffjmpaaGreat.Abs
open Go
def c157 : ACode :=
 (.seq (.reg [I1 4 (.mv (.c (.bool false)))])
 (.seq (.reg [I0 5 1, I1 6 (.bini .geq (.t 5) (KI 0)), I0 7 6, I4 8 7 1, I4 9 7 0, I2 10 7 (.len false (.t 9)), I2 11 7 (.bini .lss (.t 8) (.t 10)), I1 12 (.pick (.t 7) (.t 11) (.c (.bool false))), I0 13 12, I4 14 13 0, I4 15 13 1, I2 16 13 (.iaddr 5 (.t 14) (.t 15)), I2 17 13 (.faddr 0 (.t 16)), I2 18 13 (.load false 1 (.t 17)), I2 19 13 (.bini .neq (.t 18) (KI 0)), I1 20 (.pick (.t 13) (.t 19) (.c (.bool false))), I0 4 20])
 .ret))
theorem d157 : FnD Tryz.prog 157 2 19 [.tmp 4] c157 := ⟨Tryz.f157, _, Tryz.func157, by kernel_rfl, rfl, rfl, by kernel_rfl, by kernel_rfl⟩
end Go.Proofs.YtemjlopoffjmpaaGreat.Abs
namespace Go.Proofs.YtemjlopoffjmpaaGreat.Abs
open Go
def c127 : ACode :=
 (.seq (.reg [I1 2 (.mv (.c (.bool false)))])
 (.seq (.seq (.reg [I1 3 (.mv (KI 0))])
 (.block 0
 (.loop
 (.seq (.seq (.reg [I0 5 3, I0 6 0, I1 7 (.len true (.t 6)), I1 8 (.bini .lss (.t 5) (.t 7))])
 (.cond (.t 8)
 .skip
 (.exit 0)))
 (.seq (.block 1
 (.seq (.reg [I0 11 0, I0 12 3, I1 13 (.indexs (.t 11) (.t 12)), I0 4 13])
 (.seq (.reg [I0 14 4, I1 15 (.bini .geq (.t 14) (.c (.int .u8 97))), I0 16 15, I4 17 16 4, I2 18 16 (.bini .leq (.t 17) (.c (.int .u8 122))), I1 19 (.pick (.t 16) (.t 18) (.c (.bool false))), I0 20 19, I5 21 20 4, I3 22 20 (.bini .geq (.t 21) (.c (.int .u8 48))), I5 23 20 22, I4 24 23 4, I2 25 23 (.bini .leq (.t 24) (.c (.int .u8 57))), I3 26 20 (.pick (.t 23) (.t 25) (.c (.bool false))), I1 27 (.pick (.t 20) (.c (.bool true)) (.t 26)), I0 28 27, I5 29 28 4, I3 30 28 (.bini .eql (.t 29) (.c (.int .u8 46))), I1 31 (.pick (.t 28) (.c (.bool true)) (.t 30)), I0 32 31, I5 33 32 4, I3 34 32 (.bini .eql (.t 33) (.c (.int .u8 95))), I1 35 (.pick (.t 32) (.c (.bool true)) (.t 34)), I0 36 35, I5 37 36 4, I3 38 36 (.bini .eql (.t 37) (.c (.int .u8 45))), I1 39 (.pick (.t 36) (.c (.bool true)) (.t 38)), I1 40 (.un .not (.t 39))])
 (.cond (.t 40)
 (.seq (.reg [I1 2 (.mv (.c (.bool false)))])
 .ret)
 .skip))))
 (.reg [I0 9 3, I1 10 (.bini .add (.t 9) (KI 1)), I0 3 10]))))))
 (.seq (.reg [I0 41 0, I1 42 (.len true (.t 41)), I1 43 (.bini .geq (.t 42) (KI 1)), I0 44 43, I4 45 44 0, I2 46 44 (.len true (.t 45)), I2 47 44 (.bini .leq (.t 46) (KI 8)), I1 48 (.pick (.t 44) (.t 47) (.c (.bool false))), I0 49 48, I4 50 49 0, I2 51 49 (.bins .neq (.t 50) (.c (.str [46]))), I1 52 (.pick (.t 49) (.t 51) (.c (.bool false))), I0 53 52, I4 54 53 0, I2 55 53 (.bins .neq (.t 54) (.c (.str [46, 46]))), I1 56 (.pick (.t 53) (.t 55) (.c (.bool false))), I0 2 56])
 .ret)))
theorem d127 : FnD Tryz.prog 127 1 56 [.tmp 2] c127 := ⟨Tryz.f127, _, Tryz.func127, by kernel_rfl, rfl, rfl, by kernel_rfl, by kernel_rfl⟩
end Go.Proofs.YtemjlopoffjmpaaGreat.Abs
namespace Go.Proofs.YtemjlopoffjmpaaGreat.Abs
open Go
def c81 : ACode :=
 (.seq (.reg [I1 5 (.box (.t 2)), I1 6 (.mv (.c (.emp)))])
 (.seq (.reg [I1 8 (.bslice 5 0 [.int .i64 0, .int .i64 0, .str [], .str [], .int .i64 0] []), I0 9 0, I1 10 (.append 5 56 [.int .i64 0, .int .i64 0, .str [], .str [], .int .i64 0] (.t 8) (.t 9)), I0 7 10])
 (.seq (.seq (.reg [I0 11 1, I1 12 (.bini .geq (.t 11) (KI 0)), I0 13 12, I4 14 13 1, I4 15 13 7, I2 16 13 (.len false (.t 15)), I2 17 13 (.bini .lss (.t 14) (.t 16)), I1 18 (.pick (.t 13) (.t 17) (.c (.bool false)))])
 (.cond (.t 18)
 (.reg [I0 19 7, I0 20 1, I1 21 (.load true 5 (.t 5)), I1 22 (.iaddr 5 (.t 19) (.t 20)), I9 5 22 21])
 .skip))
 (.seq (.reg [I0 23 7, I0 6 23])
 .ret))))
theorem d81 : FnD Tryz.prog 81 3 21 [.tmp 6] c81 := ⟨Tryz.f81, _, Tryz.func81, by kernel_rfl, rfl, rfl, by kernel_rfl, by kernel_rfl⟩
end Go.Proofs.YtemjlopoffjmpaaGreat.Abs
namespace Go.Proofs.YtemjlopoffjmpaaGreat.Abs
open Go
def c84 : ACode :=
 (.seq (.reg [I1 2 (.mv (.c (.str [])))])
 (.seq (.reg [I1 3 (.bslice 1 15 [.str []] [(0, (.c (.str [97]))), (1, (.c (.str [98]))), (2, (.c (.str [99]))), (3, (.c (.str [97, 47, 98]))), (4, (.c (.str [97, 47, 99]))), (5, (.c (.str [98, 47, 97]))), (6, (.c (.str [97, 47, 98, 47, 99]))), (7, (.c (.str [100]))), (8, (.c (.str [99, 47, 100]))), (9, (.c (.str []))), (10, (.c (.str [47, 97]))), (11, (.c (.str [97, 47, 47, 98]))), (12, (.c (.str [116, 111, 111, 108, 111, 110, 103, 110, 97, 109, 101]))), (13, (.c (.str [65]))), (14, (.c (.str [46, 46])))]), I0 4 0, I1 5 (.call 44 [(.t 4), (KI 15)]), I1 6 (.iaddr 1 (.t 3) (.t 5)), I7 7 6, I0 2 7])
 .ret))
theorem d84 : FnD Tryz.prog 84 1 7 [.tmp 2] c84 := ⟨Tryz.f84, _, Tryz.func84, by kernel_rfl, rfl, rfl, by kernel_rfl, by kernel_rfl⟩
end Go.Proofs.YtemjlopoffjmpaaGreat.Abs
namespace Go.Proofs.YtemjlopoffjmpaaGreat.Abs
open Go
def c13 : ACode :=
 (.seq (.reg [I1 2 (.mv (.c (.nilp)))])
 (.seq (.reg [I0 3 0, I1 4 (.build [.emp, .int .i64 0] [(0, 1, (.t 3))]), I1 5 (.box (.t 4)), I0 2 5])
 .ret))
theorem d13 : FnD Tryz.prog 13 1 5 [.tmp 2] c13 := ⟨Tryz.f13, _, Tryz.func13, by kernel_rfl, rfl, rfl, by kernel_rfl, by kernel_rfl⟩
end Go.Proofs.YtemjlopoffjmpaaGreat.Abs
namespace Go.Proofs.YtemjlopoffjmpaaGreat.Abs
open Go
def c34 : ACode :=
 (.seq (.reg [I1 0 (.mv (.c (.emp)))])
 (.seq (.reg [I1 2 (.mksl 5 56 [.int .i64 0, .int .i64 0, .str [], .str [], .int .i64 0] (KI 8) (KI 8)), I0 1 2])
 (.seq (.reg [I0 3 1, I1 4 (.iaddr 5 (.t 3) (KI 0)), I6 5 0 4, ⟨none, none, .store 1 (.t 5) (KI 2)⟩])
 (.seq (.reg [I0 6 1, I0 0 6])
 .ret))))
theorem d34 : FnD Tryz.prog 34 0 7 [.tmp 0] c34 := ⟨Tryz.f34, _, Tryz.func34, by kernel_rfl, rfl, rfl, by kernel_rfl, by kernel_rfl⟩
end Go.Proofs.YtemjlopoffjmpaaGreat.Abs
namespace Go.Proofs.YtemjlopoffjmpaaGreat.Abs
open Go
def c44 : ACode :=
 (.seq (.reg [I1 4 (.mv (KI 0))])
 (.seq (.seq (.dreg [I0 5 0, I1 6 (.nilchk (.t 5)), I6 7 1 6, I7 8 7, I0 9 0, I1 10 (.nilchk (.t 9)), I6 11 0 10, I7 12 11, I1 13 (.len false (.t 12)), I1 14 (.bini .geq (.t 8) (.t 13)), I0 15 14, I5 16 15 1, I3 17 15 (.bini .lss (.t 16) (KI 1)), I1 18 (.pick (.t 15) (.c (.bool true)) (.t 17))])
 (.cond (.t 18)
 (.seq (.reg [I1 4 (.mv (KI 0))])
 .ret)
 .skip))
 (.seq (.reg [I0 19 0, I1 20 (.nilchk (.t 19)), I6 21 1 20, I7 22 21, I1 23 (.bini .add (.t 22) (KI 1)), I1 24 (.nilchk (.t 19)), I6 25 1 24, I9 1 25 23])
 (.seq (.dreg [I0 26 0, I1 27 (.nilchk (.t 26)), I6 28 0 27, I7 29 28, I0 30 0, I1 31 (.nilchk (.t 30)), I6 32 1 31, I7 33 32, I1 34 (.bini .sub (.t 33) (KI 1)), I1 35 (.iaddr 1 (.t 29) (.t 34)), I7 36 35, I1 37 (.convi .i64 (.t 36)), I0 38 1, I1 39 (.bini .rem (.t 37) (.t 38)), I0 4 39])
 .ret))))
theorem d44 : FnD Tryz.prog 44 2 38 [.tmp 4] c44 := ⟨Tryz.f44, _, Tryz.func44, by kernel_rfl, rfl, rfl, by kernel_rfl, by kernel_rfl⟩
end Go.Proofs.YtemjlopoffjmpaaGreat.Abs
namespace Go.Proofs.YtemjlopoffjmpaaGreat.Abs
open Go
def c80 : ACode :=
 (.seq (.reg [I1 2 (.mv (KI 0)), I1 3 (.mv (.c (.bool false)))])
 (.seq (.seq (.reg [I1 4 (.mv (KI 0))])
 (.block 0
 (.loop
 (.seq (.seq (.reg [I0 5 4, I0 6 0, I1 7 (.len false (.t 6)), I1 8 (.bini .lss (.t 5) (.t 7))])
 (.cond (.t 8)
 .skip
 (.exit 0)))
 (.seq (.block 1
 (.seq (.reg [I0 11 0, I0 12 4, I1 13 (.iaddr 5 (.t 11) (.t 12)), I6 14 0 13, I7 15 14, I1 16 (.bini .eql (.t 15) (KI 0))])
 (.cond (.t 16)
 (.seq (.reg [I0 17 4, I0 2 17, I1 3 (.mv (.c (.bool true)))])
 .ret)
 .skip)))
 (.reg [I0 9 4, I1 10 (.bini .add (.t 9) (KI 1)), I0 4 10]))))))
 (.seq (.reg [I1 2 (.mv (KI 0)), I1 3 (.mv (.c (.bool false)))])
 .ret)))
theorem d80 : FnD Tryz.prog 80 1 17 [.tmp 2, .tmp 3] c80 := ⟨Tryz.f80, _, Tryz.func80, by kernel_rfl, rfl, rfl, by kernel_rfl, by kernel_rfl⟩
end Go.Proofs.YtemjlopoffjmpaaGreat.Abs
namespace Go.Proofs.YtemjlopoffjmpaaGreat.Abs
open Go
def c129 : ACode :=
 (.seq (.reg [I1 2 (.mv (.c (.bool false)))])
 (.seq (.seq (.reg [I1 3 (.mv (KI 0))])
 (.block 0
 (.loop
 (.seq (.seq (.reg [I0 4 3, I0 5 0, I1 6 (.len false (.t 5)), I1 7 (.bini .lss (.t 4) (.t 6))])
 (.cond (.t 7)
 .skip
 (.exit 0)))
 (.seq (.block 1
 (.seq (.reg [I0 10 0, I0 11 3, I1 12 (.iaddr 5 (.t 10) (.t 11)), I6 13 0 12, I7 14 13, I1 15 (.bini .eql (.t 14) (KI 3))])
 (.cond (.t 15)
 (.seq (.reg [I1 2 (.mv (.c (.bool true)))])
 .ret)
 .skip)))
 (.reg [I0 8 3, I1 9 (.bini .add (.t 8) (KI 1)), I0 3 9]))))))
 (.seq (.reg [I1 2 (.mv (.c (.bool false)))])
 .ret)))
theorem d129 : FnD Tryz.prog 129 1 15 [.tmp 2] c129 := ⟨Tryz.f129, _, Tryz.func129, by kernel_rfl, rfl, rfl, by kernel_rfl, by kernel_rfl⟩
end Go.Proofs.YtemjlopoffjmpaaGreat.Abs
namespace Go.Proofs.YtemjlopoffjmpaaGreat.Abs
open Go
end Go.Proofs.YtemjlopoffjmpaaGreat.Abs
namespace Go.Proofs.YtemjlopoffjmpaaGreat.Abs
open Go
end Go.Proofs.YtemjlopoffjmpaaGreat.Abs
namespace Go.Proofs.YtemjlopoffjmpaaGreat.Abs
open Go
end Go.Proofs.YtemjlopoffjmpaaGreat.Abs
namespace Go.Proofs.YtemjlopoffjmpaaGreat.Abs
open Go
def c54 : ACode :=
 (.seq (.reg [I1 2 (.mv (KI 0))])
 (.seq (.reg [I1 3 (.mv (KI 0))])
 (.seq (.seq (.reg [I1 4 (.mv (KI 0))])
 (.block 0
 (.loop
 (.seq (.seq (.reg [I0 5 4, I1 6 (.bini .lss (.t 5) (KI 4))])
 (.cond (.t 6)
 .skip
 (.exit 0)))
 (.seq (.block 1
 (.seq (.reg [I0 9 0, I0 10 4, I1 11 (.call 97 [(.t 9), (.t 10)]), I1 12 (.bins .neq (.t 11) (.c (.str [])))])
 (.cond (.t 12)
 (.reg [I0 13 3, I1 14 (.bini .add (.t 13) (KI 1)), I0 3 14])
 .skip)))
 (.reg [I0 7 4, I1 8 (.bini .add (.t 7) (KI 1)), I0 4 8]))))))
 (.seq (.reg [I0 15 3, I0 2 15])
 .ret))))
theorem d54 : FnD Tryz.prog 54 1 15 [.tmp 2] c54 := ⟨Tryz.f54, _, Tryz.func54, by kernel_rfl, rfl, rfl, by kernel_rfl, by kernel_rfl⟩
end Go.Proofs.YtemjlopoffjmpaaGreat.Abs
namespace Go.Proofs.YtemjlopoffjmpaaGreat.Abs
open Go
def c97 : ACode :=
 (.seq (.reg [I1 4 (.mv (.c (.str [])))])
 (.seq (.seq (.reg [I0 6 1, I1 7 (.bini .lss (.t 6) (KI 0)), I0 8 7, I5 9 8 1, I3 10 8 (.bini .geq (.t 9) (KI 4)), I1 11 (.pick (.t 8) (.c (.bool true)) (.t 10)), I0 12 11, I5 13 12 0, I3 14 12 (.len true (.t 13)), I3 15 12 (.bini .gtr (.t 14) (KI 128)), I1 16 (.pick (.t 12) (.c (.bool true)) (.t 15))])
 (.cond (.t 16)
 (.seq (.reg [I1 4 (.mv (.c (.str [])))])
 .ret)
 .skip))
 (.seq (.reg [I0 17 0, I1 18 (.call 83 [(.t 17), (KI 128)]), I0 19 1, I1 20 (.bini .mul (.t 19) (KI 32)), I0 21 1, I1 22 (.bini .add (.t 21) (KI 1)), I1 23 (.bini .mul (.t 22) (KI 32)), I1 24 (.slices (.t 18) (some (.t 20)) (some (.t 23))), I0 5 24])
 (.seq (.seq (.reg [I0 25 5, I1 26 (.mksl 1 1 [.int .u8 0] (KI 32) (KI 32)), I1 27 (.convbs (.t 26)), I1 28 (.bins .eql (.t 25) (.t 27))])
 (.cond (.t 28)
 (.seq (.reg [I1 4 (.mv (.c (.str [])))])
 .ret)
 .skip))
 (.seq (.reg [I0 29 5, I0 4 29])
 .ret)))))
theorem d97 : FnD Tryz.prog 97 2 28 [.tmp 4] c97 := ⟨Tryz.f97, _, Tryz.func97, by kernel_rfl, rfl, rfl, by kernel_rfl, by kernel_rfl⟩
end Go.Proofs.YtemjlopoffjmpaaGreat.Abs
namespace Go.Proofs.YtemjlopoffjmpaaGreat.Abs
open Go
def c43 : ACode :=
 (.seq (.reg [I1 2 (.mv (.c (.bool false)))])
 (.seq (.dreg [I0 3 0, I1 4 (.nilchk (.t 3)), I6 5 1 4, I7 6 5, I0 7 0, I1 8 (.nilchk (.t 7)), I6 9 0 8, I7 10 9, I1 11 (.len false (.t 10)), I1 12 (.bini .geq (.t 6) (.t 11)), I0 2 12])
 .ret))
theorem d43 : FnD Tryz.prog 43 1 12 [.tmp 2] c43 := ⟨Tryz.f43, _, Tryz.func43, by kernel_rfl, rfl, rfl, by kernel_rfl, by kernel_rfl⟩
end Go.Proofs.YtemjlopoffjmpaaGreat.Abs
namespace Go.Proofs.YtemjlopoffjmpaaGreat.Abs
open Go
def c83 : ACode :=
 (.seq (.reg [I1 4 (.mv (.c (.str [])))])
 (.seq (.reg [I0 6 1, I1 7 (.mksl 1 1 [.int .u8 0] (.t 6) (.t 6)), I0 5 7])
 (.seq (.reg [I0 8 5, I0 9 0, I1 10 (.copy 1 (.t 8) (.t 9))])
 (.seq (.reg [I0 11 5, I1 12 (.convbs (.t 11)), I0 4 12])
 .ret))))
theorem d83 : FnD Tryz.prog 83 2 11 [.tmp 4] c83 := ⟨Tryz.f83, _, Tryz.func83, by kernel_rfl, rfl, rfl, by kernel_rfl, by kernel_rfl⟩
end Go.Proofs.YtemjlopoffjmpaaGreat.Abs
set_option linter.unusedSimpArgs false
set_option linter.unusedVariables false
namespace Go.Proofs.YtemjlopoffjmpaaGreat.Abs
open Go
structure Node where
 kind : Int
 up : Int
 name : List UInt8
 body : List UInt8
 bad : Int
 deriving DecidableEq, Inhabited
def pnode (x : Node) : List PV := [.int .i64 x.kind, .int .i64 x.up, .str x.name, .str x.body, .int .i64 x.bad]
def aset (s : List Node) : AV := .fz (s.map pnode)
theorem over_spec (l : List (List PV)) (n : Int) : C Tryz.prog 43 [.ptr 0 0 0 1] [some [[.fz l, .int .i64 n]]] (fun x H' => x = .bool (decide (l.length ≤ n)) ∧ H' = [some [[.fz l, .int .i64 n]]]) := by
 refine C_body d43 rfl (WT_ok ?_)
 delta c43 I0 I1 I2 I3 I4 I5 I6 I7 I8 I9 KI
 simp only [wk, iaddrV_map, seval]
 refine WT_draw ?_
 simp only [wk, iaddrV_map, seval]
def longA (s : List UInt8) (n : Nat) : List UInt8 := s.take n ++ List.replicate (n - s.length) 0
theorem bytesOf_map : ∀ s : List UInt8, bytesOf (s.map fun b => [AV.int .u8 b.toNat]) = some s
 | [] => rfl
 | b :: s => by
   have h := bytesOf_map s
   simp only [List.map_cons, bytesOf, h, Option.map_some, Int.toNat_natCast]
   simp
theorem longA_len (s : List UInt8) (n : Nat) : (longA s n).length = n := by simp [longA]; omega
theorem long_cells (s : List UInt8) (n : Nat) : List.take (min s.length n) (s.map fun b => [AV.int .u8 b.toNat]) ++ List.drop (min s.length n) (List.replicate n [AV.int .u8 0]) = (longA s n).map fun b => [AV.int .u8 b.toNat] := by
 unfold longA
 rw [List.map_append, List.map_replicate, List.map_take, List.drop_replicate]
 have hl : (s.map fun b => [AV.int .u8 (b.toNat : Int)]).length = s.length := List.length_map _
 have e1 : List.take (min s.length n) (s.map fun b => [AV.int .u8 (b.toNat : Int)]) = List.take n (s.map fun b => [AV.int .u8 (b.toNat : Int)]) := by
  rcases Nat.le_total s.length n with h | h
  ·rw [Nat.min_eq_left h, List.take_of_length_le (by omega), List.take_of_length_le (by omega)]
  ·rw [Nat.min_eq_right h]
 have e2 : n - min s.length n = n - s.length := by omega
 rw [e1, e2]
 rfl
theorem long_spec0 (s : List UInt8) (n : Nat) (h : n ≤ 1000000000) : C Tryz.prog 83 [.str s, .int .i64 n] [] (fun x H' => x = .str (longA s n)) := by
 refine C_body d83 rfl (WT_ok ?_)
 delta c83 I0 I1 I2 I3 I4 I5 I6 I7 I8 I9 KI
 simp only [wk, iaddrV_map, seval]
 refine ⟨⟨by omega, by omega, by omega⟩, by simp, ?_⟩
 rw [← List.length_append, long_cells, List.length_map, longA_len]
 simp only [wk, iaddrV_map, seval]
 rw [List.take_of_length_le (by simp [longA_len]), Option.bind_some, bytesOf_map]
 simp only [wk, iaddrV_map, seval]
theorem long_spec (s : List UInt8) (n : Nat) (h : n ≤ 1000000000) (H : AH) : C Tryz.prog 83 [.str s, .int .i64 n] H (fun x H' => x = .str (longA s n) ∧ H' = H) :=
 C_flat (K0 := fun x _ => x = .str (longA s n)) (long_spec0 s n h) (by rintro x H' rfl; exact ⟨rfl, rfl, rfl⟩)
end Go.Proofs.YtemjlopoffjmpaaGreat.Abs
set_option linter.unusedSimpArgs false
set_option linter.unusedVariables false
namespace Go.Proofs.YtemjlopoffjmpaaGreat.Abs
open Go
def partA (b : List UInt8) (k : Int) : List UInt8 :=
 if 0 ≤ k ∧ k < 4 ∧ b.length ≤ 128 then
  let p := ((longA b 128).take ((k + 1) * 32).toNat).drop (k * 32).toNat
  if p = List.replicate 32 0 then [] else p
 else []
theorem noughts_bytes (n : Nat) : bytesOf (List.replicate n [AV.int .u8 0]) = some (List.replicate n 0) := by
 have := bytesOf_map (List.replicate n 0)
 rw [List.map_replicate] at this
 exact this
theorem part_spec0 (b : List UInt8) (k : Int) : C Tryz.prog 97 [.str b, .int .i64 k] [] (fun x _ => x = .str (partA b k)) := by
 refine C_body d97 rfl (WT_ok ?_)
 delta c97 I0 I1 I2 I3 I4 I5 I6 I7 I8 I9 KI
 simp only [wk, iaddrV_map, seval]
 refine guard_both ?_ ?_ <;> intro h <;> simp only [hy] at h <;> simp only [h, wk, iaddrV_map, seval]
 ·refine guard_both ?_ ?_ <;> intro h2 <;> simp only [hy] at h2 <;> simp only [h, h2, wk, iaddrV_map, seval]
  ·refine guard_both ?_ ?_ <;> intro h3 <;> simp only [hy] at h3 <;> simp only [h, h2, h3, wk, iaddrV_map, seval]
   ·rw [partA, if_neg (by omega)]
   ·refine CT_ok (long_spec b 128 (by omega) _) ?_
    rintro _ _ ⟨rfl, rfl⟩
    have w1 : IntKind.i64.wrap (k * 32) = k * 32 := IntWalk.i64_in _ (by omega)
    have w2 : IntKind.i64.wrap (k + 1) = k + 1 := IntWalk.i64_in _ (by omega)
    have w3 : IntKind.i64.wrap ((k + 1) * 32) = (k + 1) * 32 := IntWalk.i64_in _ (by omega)
    simp only [w1, w2, w3, longA_len, noughts_bytes, Option.bind_some, wk, iaddrV_map, seval]
    refine ⟨by omega, by omega, ?_⟩
    have hb := noughts_bytes 32
    simp only [List.replicate_succ, List.replicate_zero] at hb
    simp only [hb, wk, iaddrV_map, seval]
    refine guard_both ?_ ?_ <;> intro h4 <;> simp only [hy] at h4 <;> simp only [h, h2, h3, h4, wk, iaddrV_map, seval]
    ·rw [partA, if_pos (by omega)]
     simp only [h4]
     rfl
    ·rw [partA, if_pos (by omega)]
     simp only [List.replicate_succ, List.replicate_zero, h4, if_false]
  ·rw [partA, if_neg (by omega)]
 ·rw [partA, if_neg (by omega)]
end Go.Proofs.YtemjlopoffjmpaaGreat.Abs
set_option linter.unusedSimpArgs false
set_option linter.unusedVariables false
namespace Go.Proofs.YtemjlopoffjmpaaGreat.Abs
open Go
theorem part_spec (b : List UInt8) (k : Int) (H : AH) : C Tryz.prog 97 [.str b, .int .i64 k] H (fun x H' => x = .str (partA b k) ∧ H' = H) :=
 C_flat (K0 := fun x _ => x = .str (partA b k)) (part_spec0 b k) (by rintro x _ rfl; exact ⟨rfl, rfl, rfl⟩)
def cnt (b : List UInt8) : Nat → Nat
 | 0 => 0
 | k + 1 => cnt b k + if partA b k = [] then 0 else 1
def countA (b : List UInt8) : Nat := cnt b 4
theorem cnt_le (b : List UInt8) : ∀ k, cnt b k ≤ k
 | 0 => Nat.le_refl _
 | k + 1 => by have := cnt_le b k; unfold cnt; split <;> omega
theorem count_spec (b : List UInt8) (H : AH) : C Tryz.prog 54 [.str b] H (fun x H' => x = .int .i64 (countA b) ∧ H' = H) := by
 refine C_body d54 rfl (WT_ok ?_)
 delta c54 I0 I1 I2 I3 I4 I5 I6 I7 I8 I9 KI
 simp only [wk, iaddrV_map, seval]
 refine WT_loop (W_loop (fun n fr H' => ∃ k : Nat, k ≤ 4 ∧ n = 4 - k ∧ H' = H ∧ fr = [.str b, .top, .int .i64 0, .int .i64 (cnt b k), .int .i64 k, .top, .top, .top, .top, .top, .top, .top, .top, .top, .top, .top]) 4 ⟨0, by omega, rfl, rfl, rfl⟩ ?_)
 rintro n fr H' ⟨k, hk, rfl, rfl, rfl⟩
 refine WT_ok ?_
 simp only [wk, iaddrV_map, seval]
 refine guard_both ?_ ?_ <;> intro h <;> simp only [hy] at h <;> simp only [h, wk, iaddrV_map, seval]
 ·refine CT_ok (part_spec b k _) ?_
  rintro _ _ ⟨rfl, rfl⟩
  simp only [wk, iaddrV_map, seval]
  have hc := cnt_le b k
  have w1 : IntKind.i64.wrap ((cnt b k : Int) + 1) = (cnt b k : Int) + 1 := IntWalk.i64_in _ (by omega)
  have w2 : IntKind.i64.wrap ((k : Int) + 1) = (k : Int) + 1 := IntWalk.i64_in _ (by omega)
  refine guard_both ?_ ?_ <;> intro h2 <;> simp only [hy] at h2 <;> simp only [h2, w1, w2, wk, iaddrV_map, seval]
  ·refine QLoop_go (n' := 4 - (k + 1)) (by omega) ⟨k + 1, by omega, rfl, rfl, rfl⟩ ?_
   simp only [Tops_top, Tops_same, Tops_nil, cnt, h2, Int.natCast_add, Int.natCast_one, if_false]
  ·refine QLoop_go (n' := 4 - (k + 1)) (by omega) ⟨k + 1, by omega, rfl, rfl, rfl⟩ ?_
   simp only [Tops_top, Tops_same, Tops_nil, cnt, h2, Int.natCast_add, Int.natCast_one, if_true, Nat.add_zero]
 ·have : k = 4 := by omega
  subst this
  rfl
end Go.Proofs.YtemjlopoffjmpaaGreat.Abs
namespace Go.Proofs
open Go.Shelf
def Tryz.lays137_ren : Go.Shelf.Ren := ⟨fun | 137 => 229 | 217 => 230 | 266 => 231 | n => n, fun | 9 => 9 | 5 => 5 | 3 => 3 | n => n, fun | n => n⟩
theorem Tryz.lays137 : Go.Proofs.Lays.n137 Tryz.prog Tryz.lays137_ren := {
 mixed := by kernel_rfl
 f137 := Tryz.func229.trans (congrArg some (by kernel_rfl))
 f217 := Tryz.func230.trans (congrArg some (by kernel_rfl))
 f266 := Tryz.func231.trans (congrArg some (by kernel_rfl))
 t3 := Tryz.underlying3
 a3 := Tryz.isAgg3
 z3 := Tryz.sizeOf3
 v3 := Tryz.zeroValue3
 t5 := Tryz.underlying5
 a5 := Tryz.isAgg5
 z5 := Tryz.sizeOf5
 v5 := Tryz.zeroValue5
 t9 := Tryz.underlying9
 a9 := Tryz.isAgg9
 z9 := Tryz.sizeOf9
 v9 := Tryz.zeroValue9 }
open Go.RowKit in
theorem Tryz.strings_IndexByte (s : ByteArray) (c : Int) (w : World) :
 Calls Tryz.prog 229 #[.string s, .int .u8 c] w fun e w' => e = .returned (.int .i64 (Lib.indexByte s.data.toList c.toNat.toUInt8)) ∧ w' = w := Any.strings_IndexByte Tryz.lays137 s c w
end Go.Proofs
namespace Go.Proofs.YtemjlopoffjmpaaGreat.Abs
open Go
end Go.Proofs.YtemjlopoffjmpaaGreat.Abs
namespace Go.Proofs.YtemjlopoffjmpaaGreat.Abs
open Go
end Go.Proofs.YtemjlopoffjmpaaGreat.Abs
namespace Go.Proofs.YtemjlopoffjmpaaGreat.Abs
open Go
end Go.Proofs.YtemjlopoffjmpaaGreat.Abs
set_option linter.unusedSimpArgs false
set_option linter.unusedVariables false
namespace Go.Proofs.YtemjlopoffjmpaaGreat.Abs
open Go
def usedA (f : List UInt8 → Nat) (s : List Node) : Nat := (s.map fun x => f x.body).sum
theorem usedA_take (f : List UInt8 → Nat) (s : List Node) (i : Nat) (h : i < s.length) : usedA f (s.take (i + 1)) = usedA f (s.take i) + f (s.getD i default).body := by
 unfold usedA
 rw [List.take_add_one, List.getElem?_eq_getElem h, List.map_append, List.sum_append]
 simp only [List.getD_eq_getElem?_getD, List.getElem?_eq_getElem h, Option.getD_some, Option.toList_some, List.map_cons, List.map_nil, List.sum_cons, List.sum_nil, Nat.add_zero]
theorem usedA_le (f : List UInt8 → Nat) (hf : ∀ b, f b ≤ 4) : ∀ s, usedA f s ≤ 4 * s.length
 | [] => by simp [usedA]
 | x :: s => by
   have h1 := usedA_le f hf s
   have h2 := hf x.body
   simp only [usedA, List.map_cons, List.sum_cons, List.length_cons] at h1 ⊢
   omega
end Go.Proofs.YtemjlopoffjmpaaGreat.Abs
set_option linter.unusedSimpArgs false
set_option linter.unusedVariables false
namespace Go.Proofs.YtemjlopoffjmpaaGreat.Abs
open Go
structure Dset where
 id : Int
 kind : Int
 origin : Int
 quota : Int
 files : List Node
 deriving DecidableEq, Inhabited
def pdset (x : Dset) : List PV := [.int .i64 x.id, .int .i64 x.kind, .int .i64 x.origin, .int .i64 x.quota, .fz (x.files.map pnode)]
def asets (l : List Dset) : AV := .fz (l.map pdset)
def kinds (s : List Node) : Nat := s.countP fun x => decide (x.kind ≠ 0)
end Go.Proofs.YtemjlopoffjmpaaGreat.Abs
set_option linter.unusedSimpArgs false
set_option linter.unusedVariables false
namespace Go.Proofs.YtemjlopoffjmpaaGreat.Abs
open Go
end Go.Proofs.YtemjlopoffjmpaaGreat.Abs
set_option linter.unusedSimpArgs false
set_option linter.unusedVariables false
namespace Go.Proofs.YtemjlopoffjmpaaGreat.Abs
open Go Go.Proofs
end Go.Proofs.YtemjlopoffjmpaaGreat.Abs
set_option linter.unusedSimpArgs false
set_option linter.unusedVariables false
namespace Go.Proofs.YtemjlopoffjmpaaGreat.Abs
open Go Go.Proofs
theorem countA_le (b : List UInt8) : countA b ≤ 4 := cnt_le b 4
abbrev used (s : List Node) : Nat := usedA countA s
end Go.Proofs.YtemjlopoffjmpaaGreat.Abs
set_option linter.unusedSimpArgs false
set_option linter.unusedVariables false
namespace Go.Proofs.YtemjlopoffjmpaaGreat.Abs
open Go Go.Proofs
theorem free_spec (s : List Node) (hs : s.length ≤ 1000000) (H : AH) :
 C Tryz.prog 80 [aset s] H (fun x H' => H' = H ∧ ((∃ i : Nat, i < s.length ∧ (s.getD i default).kind = 0 ∧ x = .tuple [.int .i64 i, .bool true]) ∨ x = .tuple [.int .i64 0, .bool false])) := by
 refine C_body d80 rfl (WT_ok ?_)
 delta c80 I0 I1 I2 I3 I4 I5 I6 I7 I8 I9 KI
 simp only [aset, wk, iaddrV_map, seval]
 refine WT_loop (W_loop (fun n fr H' => ∃ i : Nat, i ≤ s.length ∧ n = s.length - i ∧ H' = H ∧ fr = [.fz (s.map pnode), .top, .int .i64 0, .bool false, .int .i64 i, .top, .top, .top, .top, .top, .top, .top, .top, .top, .top, .top, .top, .top]) s.length ⟨0, by omega, rfl, rfl, rfl⟩ ?_)
 rintro n fr H' ⟨i, hi, rfl, rfl, rfl⟩
 refine WT_ok ?_
 simp only [wk, iaddrV_map, seval]
 refine guard_both ?_ ?_ <;> intro h <;> simp only [hy] at h <;> simp only [h, wk, iaddrV_map, seval]
 ·have hil : i < s.length := by omega
  refine ⟨⟨by omega, rfl⟩, ?_⟩
  simp only [pnode, wk, iaddrV_map, seval]
  have w2 : IntKind.i64.wrap ((i : Int) + 1) = (i : Int) + 1 := IntWalk.i64_in _ (by omega)
  refine guard_both ?_ ?_ <;> intro h2 <;> simp only [hy] at h2 <;> simp only [h2, w2, wk, iaddrV_map, seval]
  ·exact .inl ⟨i, hil, h2, rfl⟩
  ·refine QLoop_go (n' := s.length - (i + 1)) (by omega) ⟨i + 1, by omega, rfl, rfl, rfl⟩ ?_
   simp only [Tops_top, Tops_same, Tops_nil, Int.natCast_add, Int.natCast_one]
 ·exact .inr trivial
theorem lost_spec (s : List Node) (hs : s.length ≤ 1000000) (H : AH) : C Tryz.prog 129 [aset s] H (fun x H' => x = .bool (s.any fun x => decide (x.kind = 3)) ∧ H' = H) := by
 refine C_body d129 rfl (WT_ok ?_)
 delta c129 I0 I1 I2 I3 I4 I5 I6 I7 I8 I9 KI
 simp only [aset, wk, iaddrV_map, seval]
 refine WT_loop (W_loop (fun n fr H' => ∃ i : Nat, i ≤ s.length ∧ n = s.length - i ∧ H' = H ∧ ((s.take i).any fun x => decide (x.kind = 3)) = false ∧ fr = [.fz (s.map pnode), .top, .bool false, .int .i64 i, .top, .top, .top, .top, .top, .top, .top, .top, .top, .top, .top, .top]) s.length ⟨0, by omega, rfl, rfl, rfl, rfl⟩ ?_)
 rintro n fr H' ⟨i, hi, rfl, rfl, hno, rfl⟩
 refine WT_ok ?_
 simp only [wk, iaddrV_map, seval]
 refine guard_both ?_ ?_ <;> intro h <;> simp only [hy] at h <;> simp only [h, wk, iaddrV_map, seval]
 ·have hil : i < s.length := by omega
  refine ⟨⟨by omega, rfl⟩, ?_⟩
  simp only [pnode, wk, iaddrV_map, seval]
  have w2 : IntKind.i64.wrap ((i : Int) + 1) = (i : Int) + 1 := IntWalk.i64_in _ (by omega)
  refine guard_both ?_ ?_ <;> intro h2 <;> simp only [hy] at h2 <;> simp only [h2, w2, wk, iaddrV_map, seval]
  ·have : (s.any fun x => decide (x.kind = 3)) = true := by
    rw [List.any_eq_true]
    refine ⟨s.getD i default, ?_, by simpa using h2⟩
    rw [List.getD_eq_getElem?_getD, List.getElem?_eq_getElem hil]
    exact List.getElem_mem _
   rw [this]
  ·refine QLoop_go (n' := s.length - (i + 1)) (by omega) ⟨i + 1, by omega, rfl, rfl, ?_, rfl⟩ ?_
   ·rw [List.take_add_one, List.getElem?_eq_getElem hil, List.any_append, hno]
    rw [List.getD_eq_getElem?_getD, List.getElem?_eq_getElem hil] at h2
    simpa using h2
   ·simp only [Tops_top, Tops_same, Tops_nil, Int.natCast_add, Int.natCast_one]
 ·have : i = s.length := by omega
  subst this
  rw [List.take_length] at hno
  rw [hno]
end Go.Proofs.YtemjlopoffjmpaaGreat.Abs
set_option linter.unusedSimpArgs false
set_option linter.unusedVariables false
namespace Go.Proofs.YtemjlopoffjmpaaGreat.Abs
open Go Go.Proofs
def pbyte (b : UInt8) : List PV := [.int .u8 b.toNat]
def picksH (l : List UInt8) (n : Int) : AH := [some [[.fz (l.map pbyte), .int .i64 n]]]
theorem num_spec (l : List UInt8) (n k : Int) (hn : 0 ≤ n) (hl : l.length ≤ 1000000) :
 C Tryz.prog 44 [.ptr 0 0 0 1, .int .i64 k] (picksH l n) (fun x H' => ∃ m n' : Int, x = .int .i64 m ∧ 0 ≤ m ∧ (1 ≤ k → m < k) ∧ (k < 1 → m = 0) ∧ n ≤ n' ∧ n' ≤ n + 1 ∧ H' = picksH l n') := by
 refine C_body d44 rfl (WT_ok ?_)
 delta c44 I0 I1 I2 I3 I4 I5 I6 I7 I8 I9 KI picksH
 simp only [wk, iaddrV_map, seval]
 refine WT_draw ?_
 simp only [wk, iaddrV_map, seval]
 refine guard_both ?_ ?_ <;> intro h <;> simp only [hy] at h <;> simp only [h, wk, iaddrV_map, seval]
 ·refine guard_both ?_ ?_ <;> intro h2 <;> simp only [hy] at h2 <;> simp only [h, h2, wk, iaddrV_map, seval]
  ·exact ⟨0, n, rfl, by omega, by omega, by omega, by omega, by omega, rfl⟩
  ·have w1 : IntKind.i64.wrap (n + 1) = n + 1 := IntWalk.i64_in _ (by omega)
   have w2 : IntKind.i64.wrap (n + 1 - 1) = n := by rw [IntWalk.i64_in _ (by omega)]; omega
   simp only [w1, w2, wk, iaddrV_map, seval]
   refine WT_draw ?_
   simp only [w1, w2, wk, iaddrV_map, seval]
   refine ⟨⟨by omega, rfl⟩, ?_⟩
   simp only [pbyte, wk, iaddrV_map, seval]
   have hb : (l.getD n.toNat default).toNat < 256 := UInt8.toNat_lt _
   have w3 : IntKind.i64.wrap ((l.getD n.toNat default).toNat : Int) = ((l.getD n.toNat default).toNat : Int) := IntWalk.i64_in _ (by omega)
   rw [w3]
   refine ⟨by omega, _, n + 1, rfl, Int.tmod_nonneg _ (by omega), fun _ => Int.tmod_lt_of_pos _ (by omega), by omega, by omega, by omega, rfl⟩
 ·exact ⟨0, n, rfl, by omega, by omega, by omega, by omega, by omega, rfl⟩
end Go.Proofs.YtemjlopoffjmpaaGreat.Abs
set_option linter.unusedSimpArgs false
set_option linter.unusedVariables false
namespace Go.Proofs.YtemjlopoffjmpaaGreat.Abs
open Go Go.Proofs
def newA : List Node := [⟨2, 0, [], [], 0⟩, ⟨0, 0, [], [], 0⟩, ⟨0, 0, [], [], 0⟩, ⟨0, 0, [], [], 0⟩, ⟨0, 0, [], [], 0⟩, ⟨0, 0, [], [], 0⟩, ⟨0, 0, [], [], 0⟩, ⟨0, 0, [], [], 0⟩]
theorem new_spec0 : C Tryz.prog 34 [] [] (fun x H' => x = aset newA ∧ H' = []) := by
 refine C_body' d34 rfl (WT_ok ?_)
 delta c34 I0 I1 I2 I3 I4 I5 I6 I7 I8 I9 KI
 simp only [wk, iaddrV_map, Nat.reduceAdd, Nat.reduceSub, Nat.reduceMul, Nat.reduceLeDiff, Nat.reduceEqDiff, Nat.reduceBEq, Int.reduceLE, Int.reduceLT, Int.reduceEq, Int.reduceNe, Int.reduceAdd, Int.reduceSub, Int.reduceToNat, Int.reduceNeg, ↓reduceIte, reduceCtorEq]
 exact ⟨by omega, KWk_frozen 0 (newA.map pnode) rfl (aset newA) rfl ⟨rfl, rfl⟩⟩
theorem new_spec (H : AH) : C Tryz.prog 34 [] H (fun x H' => x = aset newA ∧ H' = H) :=
 C_pure (K0 := fun x => x = aset newA) new_spec0 (fun _ => rfl) (by rintro x rfl τ; simp [aset, ren]) H
end Go.Proofs.YtemjlopoffjmpaaGreat.Abs
set_option linter.unusedSimpArgs false
set_option linter.unusedVariables false
namespace Go.Proofs.YtemjlopoffjmpaaGreat.Abs
open Go Go.Proofs
theorem made_spec (l : List UInt8) : C Tryz.prog 13 [.fz (l.map pbyte)] [] (fun x H' => x = .ptr 0 0 0 1 ∧ H' = picksH l 0) := by
 refine C_body d13 rfl (WT_ok ?_)
 delta c13 I0 I1 I2 I3 I4 I5 I6 I7 I8 I9 KI
 simp only [wk, iaddrV_map, seval]
 rfl
theorem num_at (l : List UInt8) (n k : Int) (hn : 0 ≤ n) (hl : l.length ≤ 1000000) (R : AH) :
 C Tryz.prog 44 [.ptr 0 0 0 1, .int .i64 k] (some [[.fz (l.map pbyte), .int .i64 n]] :: R) (fun x H' => ∃ m n' : Int, x = .int .i64 m ∧ 0 ≤ m ∧ (1 ≤ k → m < k) ∧ (k < 1 → m = 0) ∧ n ≤ n' ∧ n' ≤ n + 1 ∧ H' = some [[.fz (l.map pbyte), .int .i64 n']] :: R) := by
 refine C_call (K0 := fun x H' => ∃ m n' : Int, x = .int .i64 m ∧ 0 ≤ m ∧ (1 ≤ k → m < k) ∧ (k < 1 → m = 0) ∧ n ≤ n' ∧ n' ≤ n + 1 ∧ H' = picksH l n') [0] (by simp) (by simp) ?_ ?_
 ·exact num_spec l n k hn hl
 ·rintro _ _ ⟨m, n', rfl, h1, h2, h3, h4, h5, rfl⟩
  exact ⟨Nat.le_refl _, m, n', rfl, h1, h2, h3, h4, h5, by simp [back, setAll, picksH, renO, renL, ren]⟩
end Go.Proofs.YtemjlopoffjmpaaGreat.Abs
set_option linter.unusedSimpArgs false
set_option linter.unusedVariables false
namespace Go.Proofs.YtemjlopoffjmpaaGreat.Abs
open Go Go.Proofs
theorem pick_of (L : AObj) (p : List AV → Prop) (h : ∀ e ∈ L, p e) (i : Nat) (hi : i < L.length) : ∃ e, L[i]? = some e ∧ p e :=
 ⟨L[i], List.getElem?_eq_getElem hi, h _ (List.getElem_mem hi)⟩
theorem path_spec (l : List UInt8) (n : Int) (hn : 0 ≤ n) (hl : l.length ≤ 1000000) :
 C Tryz.prog 84 [.ptr 0 0 0 1] (picksH l n) (fun x H' => ∃ (p : List UInt8) (n' : Int), x = .str p ∧ p.length ≤ 11 ∧ n ≤ n' ∧ n' ≤ n + 1 ∧ H' = picksH l n') := by
 refine C_body' d84 rfl (WT_ok ?_)
 delta c84 I0 I1 I2 I3 I4 I5 I6 I7 I8 I9 KI picksH
 simp only [RT_bslice, bslC_some, chunks, List.flatten_cons, List.flatten_nil, wk, iaddrV_map, seval]
 refine CT_ok (num_at l n 15 hn hl _) ?_
 rintro _ _ ⟨m, n', rfl, h1, h2, h3, h4, h5, rfl⟩
 simp only [wk, iaddrV_map, seval]
 have h15 := h2 (by omega)
 obtain ⟨e, he, q, rfl, hq⟩ := pick_of [[AV.str [97]], [AV.str [98]], [AV.str [99]], [AV.str [97, 47, 98]], [AV.str [97, 47, 99]], [AV.str [98, 47, 97]], [AV.str [97, 47, 98, 47, 99]], [AV.str [100]], [AV.str [99, 47, 100]], [AV.str []], [AV.str [47, 97]], [AV.str [97, 47, 47, 98]], [AV.str [116, 111, 111, 108, 111, 110, 103, 110, 97, 109, 101]], [AV.str [65]], [AV.str [46, 46]]] (fun e => ∃ q : List UInt8, e = [.str q] ∧ q.length ≤ 11) (by simp) m.toNat (by simp; omega)
 refine ⟨⟨h1, h15⟩, ?_⟩
 simp only [he, wk, iaddrV_map, seval]
 refine ⟨.str q, _, (Wk_forget 1 (Nat.le_refl _)).trans (Wk_tops ⟨.inr rfl, trivial⟩), q, n', rfl, hq, h4, h5, rfl⟩
end Go.Proofs.YtemjlopoffjmpaaGreat.Abs
set_option linter.unusedSimpArgs false
set_option linter.unusedVariables false
namespace Go.Proofs.YtemjlopoffjmpaaGreat.Abs
open Go Go.Proofs
def withA (s : List Node) (n : Int) (x : Node) : List Node := if 0 ≤ n then s.set n.toNat x else s
def anode (x : Node) : AV := .agg ((pnode x).map emb)
theorem rows5 (s : List Node) : ((s.map pnode).map fun e => e.map emb).all (fun e => decide (e.length = 5)) = true := by
 simp [pnode]
theorem frozen_set {K : AV → AH → Prop} {H : AH} (r : Nat) (s : List Node) (hat : H.at r = some ((s.map pnode).map fun e => e.map emb)) (L : Nat) (hL : L = s.length) (hk : K (aset s) []) : KWk 0 K (.own r 5 0 L L) H := by
 subst hL
 refine KWk_frozen r (s.map pnode) hat (aset s) ?_ hk
 simp only [frzL, frz, renL, ren, aset, if_true, List.length_map, Nat.zero_add, Nat.le_refl, and_self, List.drop_zero]
 rw [List.take_of_length_le (by simp)]
theorem with_spec0 (s : List Node) (hs : s.length ≤ 1000000) (n : Int) (x : Node) : C Tryz.prog 81 [aset s, .int .i64 n, anode x] [] (fun y H' => y = aset (withA s n x) ∧ H' = []) := by
 refine C_body' d81 rfl (WT_ok ?_)
 delta c81 I0 I1 I2 I3 I4 I5 I6 I7 I8 I9 KI
 simp only [aset, anode, pnode, wk3, wk, iaddrV_map, seval]
 refine ⟨⟨rows5 s, by omega, by omega⟩, ?_⟩
 refine guard_both ?_ ?_ <;> intro h <;> simp only [hy] at h <;> simp only [h, wk3, wk, iaddrV_map, seval]
 ·refine guard_both ?_ ?_ <;> intro h2 <;> simp only [hy] at h2 <;> simp only [h, h2, wk3, wk, iaddrV_map, seval]
  ·have hg : s[n.toNat]? = some (s.getD n.toNat default) := by
    rw [List.getD_eq_getElem?_getD, List.getElem?_eq_getElem (show n.toNat < s.length by omega)]; rfl
   simp only [hg, pnode, wk3, wk, iaddrV_map, seval]
   refine frozen_set 1 (withA s n x) ?_ _ (by simp [withA, h]) ⟨rfl, rfl⟩
   simp [AH.at, withA, h, List.map_set, pnode, emb]
  ·refine frozen_set 1 (withA s n x) ?_ _ (by simp [withA, h]) ⟨rfl, rfl⟩
   have : s.set n.toNat x = s := List.set_eq_of_length_le (by omega)
   simp [AH.at, withA, h, this]
 ·refine frozen_set 1 (withA s n x) ?_ _ (by simp [withA, h]) ⟨rfl, rfl⟩
  simp [AH.at, withA, h]
theorem with_spec (s : List Node) (hs : s.length ≤ 1000000) (n : Int) (x : Node) (H : AH) : C Tryz.prog 81 [aset s, .int .i64 n, anode x] H (fun y H' => y = aset (withA s n x) ∧ H' = H) :=
 C_pure (K0 := fun y => y = aset (withA s n x)) (with_spec0 s hs n x) (fun τ => by simp [renL, ren, aset, anode, pnode, emb]) (by rintro y rfl τ; simp [aset, ren]) H
end Go.Proofs.YtemjlopoffjmpaaGreat.Abs
set_option linter.unusedSimpArgs false
set_option linter.unusedVariables false
namespace Go.Proofs.YtemjlopoffjmpaaGreat.Abs
open Go Go.Proofs
def okC (c : Nat) : Bool := decide (97 ≤ c ∧ c ≤ 122) || decide (48 ≤ c ∧ c ≤ 57) || decide (c = 46 ∨ c = 95 ∨ c = 45)
def mayN (s : List UInt8) : Bool := s.all (fun b => okC b.toNat) && decide (1 ≤ s.length ∧ s.length ≤ 8 ∧ s ≠ [46] ∧ s ≠ [46, 46])
theorem mayN_len {s : List UInt8} (h : mayN s = true) : 1 ≤ s.length ∧ s.length ≤ 8 := by
 simp only [mayN, Bool.and_eq_true, decide_eq_true_eq] at h
 exact ⟨h.2.1, h.2.2.1⟩
theorem mayname_spec (s : List UInt8) (hs : s.length ≤ 1000000) (H : AH) : C Tryz.prog 127 [.str s] H (fun x H' => x = .bool (mayN s) ∧ H' = H) := by
 refine C_body d127 rfl (WT_ok ?_)
 delta c127 I0 I1 I2 I3 I4 I5 I6 I7 I8 I9 KI
 simp only [wk, iaddrV_map, seval]
 refine WT_loop (W_loop (fun n fr H' => ∃ i : Nat, i ≤ s.length ∧ n = s.length - i ∧ (s.take i).all (fun b => okC b.toNat) = true ∧ H' = H ∧ fr = [.str s, .top, .bool false, .int .i64 i] ++ List.replicate 53 .top) s.length ⟨0, by omega, rfl, rfl, rfl, rfl⟩ ?_)
 rintro n fr H' ⟨i, hi, rfl, hall, rfl, rfl⟩
 refine WT_ok ?_
 simp only [wk, iaddrV_map, seval]
 refine guard_both ?_ ?_ <;> intro h <;> simp only [hy] at h <;> simp only [h, wk, iaddrV_map, seval]
 ·have hil : i < s.length := by omega
  have w2 : IntKind.i64.wrap ((i : Int) + 1) = (i : Int) + 1 := IntWalk.i64_in _ (by omega)
  refine ⟨by omega, ?_⟩
  have hg : s.getD i 0 = s[i] := by rw [List.getD_eq_getElem?_getD, List.getElem?_eq_getElem hil]; rfl
  have yes : okC (s.getD i 0).toNat = true → (s.take (i + 1)).all (fun b => okC b.toNat) = true := fun h => by
   rw [List.take_add_one, List.getElem?_eq_getElem hil, List.all_append, hall]
   rw [hg] at h; simp [h]
  have no : okC (s.getD i 0).toNat = false → mayN s = false := fun h => by
   have : s.all (fun b => okC b.toNat) = false := by
    rw [← Bool.not_eq_true, List.all_eq_true]
    intro h2
    have := h2 s[i] (List.getElem_mem _)
    rw [← hg, h] at this
    cases this
   simp [mayN, this]
  generalize s.getD i 0 = b at yes no ⊢
  generalize b.toNat = c at yes no ⊢
  repeat' (refine guard_both ?_ ?_ <;> intro hh <;> simp only [hy] at hh <;> simp only [hh, w2, wk, iaddrV_map, seval])
  all_goals first
   | (refine QLoop_go (n' := s.length - (i + 1)) (by omega) ⟨i + 1, by omega, rfl, yes (by simp [okC]; omega), rfl, rfl⟩ ?_
      simp only [tq])
   | (rw [no (by simp [okC]; omega)]; done)
   | (rw [no (by simp [okC]; omega)]; trivial)
 ·have : i = s.length := by omega
  subst this
  rw [List.take_length] at hall
  repeat' (refine guard_both ?_ ?_ <;> intro hh <;> simp only [hy] at hh <;> simp only [hh, wk, iaddrV_map, seval])
  ·have h1 : 1 ≤ s.length ∧ s.length ≤ 8 := by omega
   simp [mayN, hall, h1, hh]
  ·subst hh; rfl
  ·have h1 : ¬ s.length ≤ 8 := by omega
   simp [mayN, h1]
  ·have h1 : ¬ 1 ≤ s.length := by omega
   simp [mayN, h1]
end Go.Proofs.YtemjlopoffjmpaaGreat.Abs
set_option linter.unusedSimpArgs false
set_option linter.unusedVariables false
namespace Go.Proofs.YtemjlopoffjmpaaGreat.Abs
open Go Go.Proofs
def there (s : List Node) (n : Int) : Bool := decide (0 ≤ n ∧ n < s.length) && decide ((s.getD n.toNat default).kind ≠ 0)
theorem there_spec (s : List Node) (n : Int) (H : AH) : C Tryz.prog 157 [aset s, .int .i64 n] H (fun x H' => x = .bool (there s n) ∧ H' = H) := by
 refine C_body d157 rfl (WT_ok ?_)
 delta c157 I0 I1 I2 I3 I4 I5 I6 I7 I8 I9 KI
 simp only [aset, pnode, wk, iaddrV_map, seval]
 refine guard_both ?_ ?_ <;> intro h <;> simp only [hy] at h <;> simp only [h, pnode, wk, iaddrV_map, seval]
 ·refine guard_both ?_ ?_ <;> intro h2 <;> simp only [hy] at h2 <;> simp only [h, h2, pnode, wk, iaddrV_map, seval]
  ·simp [there, h, h2]
  ·simp [there, h, h2]
 ·simp [there, h]
end Go.Proofs.YtemjlopoffjmpaaGreat.Abs
set_option linter.unusedSimpArgs false
set_option linter.unusedVariables false
namespace Go.Proofs.YtemjlopoffjmpaaGreat.Abs
open Go Go.Proofs
def Bytes (o : AObj) : Prop := ∃ s : List UInt8, o = s.map fun b => [AV.int .u8 b.toNat]
theorem Bytes.set {o : AObj} (h : Bytes o) (i : Nat) (v : Int) : Bytes (o.set i [AV.int .u8 (IntKind.u8.wrap v)]) := by
 obtain ⟨s, rfl⟩ := h
 refine ⟨s.set i (UInt8.ofNat (IntKind.u8.wrap v).toNat), ?_⟩
 rw [List.map_set]
 congr 1
 have h1 : 0 ≤ IntKind.u8.wrap v ∧ IntKind.u8.wrap v < 256 := by rw [IntKind.wrap_u8]; omega
 have h2 : (UInt8.ofNat (IntKind.u8.wrap v).toNat).toNat = (IntKind.u8.wrap v).toNat := by
  rw [UInt8.toNat_ofNat']
  omega
 rw [h2]
 congr 2
 omega
theorem Bytes.str {o : AObj} (h : Bytes o) : ∃ s : List UInt8, bytesOf o = some s ∧ s.length = o.length := by
 obtain ⟨s, rfl⟩ := h
 exact ⟨s, bytesOf_map s, by simp⟩
theorem Bytes.get {o : AObj} (h : Bytes o) (i : Nat) (hi : i < o.length) : ∃ x : Int, o[i]? = some [AV.int .u8 x] := by
 obtain ⟨s, rfl⟩ := h
 rw [List.length_map] at hi
 exact ⟨(s[i]).toNat, by rw [List.getElem?_map, List.getElem?_eq_getElem hi]; rfl⟩
theorem Bytes.zero (n : Nat) : Bytes (List.replicate n [AV.int .u8 0]) := ⟨List.replicate n 0, by rw [List.map_replicate]; rfl⟩
theorem text_spec (l : List UInt8) (n : Int) (hn : 0 ≤ n) (hl : l.length ≤ 1000000) :
 C Tryz.prog 85 [.ptr 0 0 0 1] (picksH l n) (fun x H' => ∃ (p : List UInt8) (n' : Int), x = .str p ∧ p.length ≤ 129 ∧ n ≤ n' ∧ n' ≤ n + 2 ∧ H' = picksH l n') := by
 refine C_body' d85 rfl (WT_ok ?_)
 delta c85 I0 I1 I2 I3 I4 I5 I6 I7 I8 I9 KI picksH
 simp only [wk3, wk, iaddrV_map, seval]
 refine CT_ok (num_at l n 8 hn hl _) ?_
 rintro _ _ ⟨m, n1, rfl, h1, h2, _, h4, h5, rfl⟩
 simp only [wk3, wk, iaddrV_map, seval]
 have h8 := h2 (by omega)
 obtain ⟨e, he, q, rfl, hq0, hq⟩ := pick_of [[AV.int .i64 0], [AV.int .i64 1], [AV.int .i64 3], [AV.int .i64 17], [AV.int .i64 32], [AV.int .i64 33], [AV.int .i64 64], [AV.int .i64 129]] (fun e => ∃ q : Int, e = [.int .i64 q] ∧ 0 ≤ q ∧ q ≤ 129) (by simp) m.toNat (by simp; omega)
 refine ⟨⟨h1, h8⟩, ?_⟩
 simp only [he, wk3, wk, iaddrV_map, seval]
 refine CT_ok (num_at l n1 4 (by omega) hl _) ?_
 rintro _ _ ⟨m2, n2, rfl, g1, g2, _, g4, g5, rfl⟩
 simp only [wk3, wk, iaddrV_map, seval]
 refine ⟨by omega, ?_⟩
 generalize hc : IntKind.u8.wrap (IntKind.i64.wrap (m2 * 40)) = c
 obtain ⟨Q, rfl⟩ : ∃ Q : Nat, q = Q := ⟨q.toNat, by omega⟩
 simp only [hc, Int.toNat_natCast]
 refine WT_loop (W_wk (fr' := [.ptr 0 0 0 1, .top, .str [], .int .i64 Q, .int .u8 c, .own 2 1 0 Q Q, .int .i64 0] ++ List.replicate 28 .top) (Wk_tops ?_) (W_loop (fun nn fr H' => ∃ (i : Nat) (o : AObj), i ≤ Q ∧ nn = Q - i ∧ Bytes o ∧ o.length = Q ∧ H' = [some [[.fz (l.map pbyte), .int .i64 n2]], some [[AV.int .i64 0], [AV.int .i64 1], [AV.int .i64 3], [AV.int .i64 17], [AV.int .i64 32], [AV.int .i64 33], [AV.int .i64 64], [AV.int .i64 129]], some o] ∧ fr = [.ptr 0 0 0 1, .top, .str [], .int .i64 Q, .int .u8 c, .own 2 1 0 Q Q, .int .i64 i] ++ List.replicate 28 .top) Q ⟨0, _, by omega, rfl, Bytes.zero Q, by simp, rfl, rfl⟩ ?_))
 ·simp only [tp]
 rintro nn fr H' ⟨i, o, hi, rfl, ho, hol, rfl, rfl⟩
 refine WT_ok ?_
 simp only [wk3, wk, iaddrV_map, seval]
 refine guard_both ?_ ?_ <;> intro h <;> simp only [hy] at h <;> simp only [h, wk3, wk, iaddrV_map, seval]
 ·have w2 : IntKind.i64.wrap ((i : Int) + 1) = (i : Int) + 1 := IntWalk.i64_in _ (by omega)
  refine guard_both ?_ ?_ <;> intro hh <;> simp only [hy] at hh <;> simp only [hh, w2, hol, wk3, wk, iaddrV_map, seval]
  ·obtain ⟨x, hx⟩ := ho.get i (by omega)
   refine ⟨⟨by omega, by omega⟩, ?_⟩
   simp only [hx, w2, hol, wk3, wk, iaddrV_map, seval]
   refine QLoop_go (n' := Q - (i + 1)) (by omega) ⟨i + 1, _, by omega, rfl, ho.set i (c + IntKind.u8.wrap ((i : Int).tmod 5)), by simp [hol], rfl, rfl⟩ ?_
   simp only [tq]
  ·refine QLoop_go (n' := Q - (i + 1)) (by omega) ⟨i + 1, o, by omega, rfl, ho, hol, rfl, rfl⟩ ?_
   simp only [tq]
 ·obtain ⟨r, hr, hrl⟩ := ho.str
  have ht : List.take Q o = o := List.take_of_length_le (by omega)
  simp only [hol, ht, hr, Option.bind_some, wk3, wk, iaddrV_map, seval]
  refine ⟨.str r, _, (Wk_forget 1 (Nat.le_refl _)).trans (Wk_tops ⟨.inr rfl, trivial⟩), r, n2, rfl, by omega, by omega, by omega, rfl⟩
end Go.Proofs.YtemjlopoffjmpaaGreat.Abs
set_option linter.unusedSimpArgs false
set_option linter.unusedVariables false
namespace Go.Proofs.YtemjlopoffjmpaaGreat.Abs
open Go Go.Proofs
structure OkAt (s : List Node) (x : Node) : Prop where
 bad : x.bad = 0
 kinds : x.kind = 0 ∨ x.kind = 1 ∨ x.kind = 2
 none : x.kind = 0 → x = ⟨0, 0, [], [], 0⟩
 fold : x.kind = 2 → x.body = []
 name : x.kind ≠ 0 → mayN x.name = true
 up : 0 ≤ x.up ∧ x.up < 8
 upf : x.kind ≠ 0 → (s.getD x.up.toNat default).kind = 2
 body : x.body.length ≤ 128
structure Wf (s : List Node) : Prop where
 len : s.length = 8
 top : s.getD 0 default = ⟨2, 0, [], [], 0⟩
 ok : ∀ i, 1 ≤ i → i < 8 → OkAt s (s.getD i default)
 uniq : ∀ i k, 1 ≤ i → i < 8 → 1 ≤ k → k < 8 → (s.getD i default).kind ≠ 0 → (s.getD k default).kind ≠ 0 → (s.getD i default).up = (s.getD k default).up → (s.getD i default).name = (s.getD k default).name → i = k
 tree : ∃ r : Nat → Nat, ∀ i, 1 ≤ i → i < 8 → (s.getD i default).kind ≠ 0 → r (s.getD i default).up.toNat < r i
theorem getD_mem {s : List Node} {n : Nat} (h : n < s.length) : s.getD n default ∈ s := by
 rw [List.getD_eq_getElem?_getD, List.getElem?_eq_getElem h]
 exact List.getElem_mem h
theorem mem_getD {s : List Node} {x : Node} (h : x ∈ s) : ∃ n, n < s.length ∧ s.getD n default = x := by
 obtain ⟨n, hn, rfl⟩ := List.mem_iff_getElem.1 h
 exact ⟨n, hn, by rw [List.getD_eq_getElem?_getD, List.getElem?_eq_getElem hn]; rfl⟩
theorem Wf.root {s : List Node} (h : Wf s) : (s.getD 0 default).kind ≠ 0 := by rw [h.top]; decide
theorem Wf.root2 {s : List Node} (h : Wf s) : (s.getD 0 default).kind = 2 := by rw [h.top]
theorem Wf.upD {s : List Node} (h : Wf s) (n : Nat) (hn : n < s.length) : 0 ≤ (s.getD n default).up ∧ (s.getD n default).up < 8 := by
 by_cases h0 : n = 0
 ·subst h0; rw [h.top]; decide
 ·exact (h.ok n (by omega) (by have := h.len; omega)).up
theorem Wf.bodyD {s : List Node} (h : Wf s) (n : Nat) (hn : n < s.length) : (s.getD n default).body.length ≤ 128 := by
 by_cases h0 : n = 0
 ·subst h0; rw [h.top]; decide
 ·exact (h.ok n (by omega) (by have := h.len; omega)).body
theorem Wf.kindsD {s : List Node} (h : Wf s) (n : Nat) (hn : n < s.length) : (s.getD n default).kind = 0 ∨ (s.getD n default).kind = 1 ∨ (s.getD n default).kind = 2 := by
 by_cases h0 : n = 0
 ·subst h0; rw [h.top]; decide
 ·exact (h.ok n (by omega) (by have := h.len; omega)).kinds
theorem Wf.badD {s : List Node} (h : Wf s) (n : Nat) (hn : n < s.length) : (s.getD n default).bad = 0 := by
 by_cases h0 : n = 0
 ·subst h0; rw [h.top]
 ·exact (h.ok n (by omega) (by have := h.len; omega)).bad
theorem Wf.emptyD {s : List Node} (h : Wf s) (n : Nat) (hn : n < s.length) (hk : (s.getD n default).kind ≠ 1) : (s.getD n default).body = [] := by
 by_cases h0 : n = 0
 ·subst h0; rw [h.top]
 ·have := h.ok n (by omega) (by have := h.len; omega)
  rcases this.kinds with e | e | e
  ·rw [this.none e]
  ·exact absurd e hk
  ·exact this.fold e
theorem Wf.up {s : List Node} (h : Wf s) : ∀ x ∈ s, 0 ≤ x.up ∧ x.up < 8 := fun x hx => by
 obtain ⟨n, hn, rfl⟩ := mem_getD hx; exact h.upD n hn
theorem Wf.body {s : List Node} (h : Wf s) : ∀ x ∈ s, x.body.length ≤ 128 := fun x hx => by
 obtain ⟨n, hn, rfl⟩ := mem_getD hx; exact h.bodyD n hn
theorem Wf.none {s : List Node} (h : Wf s) : ∀ x ∈ s, x.kind = 0 → x.body = [] := fun x hx hk => by
 obtain ⟨n, hn, rfl⟩ := mem_getD hx; exact h.emptyD n hn (by omega)
theorem rank8 {s : List Node} (r : Nat → Nat) (hlen : s.length = 8) (hup : ∀ i, i < 8 → (s.getD i default).up.toNat < 8) (hr : ∀ i, 1 ≤ i → i < 8 → (s.getD i default).kind ≠ 0 → r (s.getD i default).up.toNat < r i) :
 ∃ r' : Nat → Nat, (∀ i, i < 8 → r' i < 8) ∧ ∀ i, 1 ≤ i → i < 8 → (s.getD i default).kind ≠ 0 → r' (s.getD i default).up.toNat < r' i := by
 have mono : ∀ (a b : Nat), a < b → ∀ (l : List Nat), (∃ j ∈ l, r j = a) → l.countP (fun j => decide (r j < a)) < l.countP (fun j => decide (r j < b)) := by
  intro a b hab l
  induction l with
  | nil => rintro ⟨j, hj, _⟩; cases hj
  | cons x l ih =>
    rintro ⟨j, hj, e⟩
    have le : l.countP (fun j => decide (r j < a)) ≤ l.countP (fun j => decide (r j < b)) := List.countP_mono_left (fun y _ h => by simp at h ⊢; omega)
    rw [List.countP_cons, List.countP_cons]
    rcases List.mem_cons.1 hj with rfl | hj
    ·rw [if_neg (by simp; omega), if_pos (by simp; omega)]; omega
    ·have := ih ⟨j, hj, e⟩
     by_cases h1 : r x < a
     ·rw [if_pos (by simpa using h1), if_pos (by simp; omega)]; omega
     ·rw [if_neg (by simpa using h1)]; omega
 refine ⟨fun i => (List.range 8).countP fun j => decide (r j < r i), fun i hi => ?_, fun i h1 h2 h3 => ?_⟩
 ·have h1 := mono (r i) (r i + 1) (by omega) (List.range 8) ⟨i, by simpa using hi, rfl⟩
  have h2 : (List.range 8).countP (fun j => decide (r j < r i + 1)) ≤ (List.range 8).length := List.countP_le_length
  simp at h2
  show (List.range 8).countP (fun j => decide (r j < r i)) < 8
  omega
 ·exact mono _ _ (hr i h1 h2 h3) (List.range 8) ⟨_, by simpa using hup i h2, rfl⟩
theorem getD_set (s : List Node) (n i : Nat) (x : Node) : (s.set n x).getD i default = if n = i ∧ i < s.length then x else s.getD i default := by
 rw [List.getD_eq_getElem?_getD, List.getElem?_set]
 by_cases h : n = i
 ·subst h
  by_cases h2 : n < s.length
  ·simp [h2]
  ·simp [h2]
 ·simp [h, List.getD_eq_getElem?_getD]
theorem Wf.put {s : List Node} (h : Wf s) {n : Nat} (h1 : 1 ≤ n) (hn : n < 8) {x : Node} (hx : OkAt s x)
 (hself : x.kind ≠ 0 → x.up.toNat ≠ n ∨ x.kind = 2)
 (hkids : x.kind = 2 ∨ ∀ i, 1 ≤ i → i < 8 → i ≠ n → (s.getD i default).kind ≠ 0 → (s.getD i default).up.toNat ≠ n)
 (huniq : x.kind ≠ 0 → ∀ i, 1 ≤ i → i < 8 → i ≠ n → (s.getD i default).kind ≠ 0 → (s.getD i default).up = x.up → (s.getD i default).name ≠ x.name)
 (r : Nat → Nat) (hr : ∀ i, 1 ≤ i → i < 8 → i ≠ n → (s.getD i default).kind ≠ 0 → r (s.getD i default).up.toNat < r i) (hrx : x.kind ≠ 0 → r x.up.toNat < r n) : Wf (s.set n x) := by
 have hlen := h.len
 have gn : (s.set n x).getD n default = x := by rw [getD_set, if_pos ⟨rfl, by omega⟩]
 have gi : ∀ i, i ≠ n → (s.set n x).getD i default = s.getD i default := fun i hi => by rw [getD_set, if_neg (by omega)]
 refine ⟨by rw [List.length_set]; exact hlen, by rw [gi 0 (by omega)]; exact h.top, fun i hi1 hi8 => ?_, fun i k hi1 hi8 hk1 hk8 hki hkk hu hnm => ?_, r, fun i hi1 hi8 hk => ?_⟩
 ·by_cases e : i = n
  ·subst e
   rw [gn]
   refine ⟨hx.bad, hx.kinds, hx.none, hx.fold, hx.name, hx.up, fun hk => ?_, hx.body⟩
   by_cases e2 : x.up.toNat = i
   ·rw [e2, gn]
    rcases hself hk with h' | h'
    ·exact absurd e2 h'
    ·exact h'
   ·rw [gi _ e2]; exact hx.upf hk
  ·rw [gi i e]
   have o := h.ok i hi1 hi8
   refine ⟨o.bad, o.kinds, o.none, o.fold, o.name, o.up, fun hk => ?_, o.body⟩
   by_cases e2 : (s.getD i default).up.toNat = n
   ·rw [e2, gn]
    rcases hkids with h' | h'
    ·exact h'
    ·exact absurd e2 (h' i hi1 hi8 e hk)
   ·rw [gi _ e2]; exact o.upf hk
 ·by_cases e : i = n
  ·by_cases e2 : k = n
   ·omega
   ·subst e
    rw [gn] at hki hu hnm; rw [gi k e2] at hkk hu hnm
    exact absurd hnm.symm (huniq hki k hk1 hk8 e2 hkk hu.symm)
  ·by_cases e2 : k = n
   ·subst e2
    rw [gn] at hkk hu hnm; rw [gi i e] at hki hu hnm
    exact absurd hnm (huniq hkk i hi1 hi8 e hki hu)
   ·rw [gi i e] at hki hu hnm; rw [gi k e2] at hkk hu hnm
    exact h.uniq i k hi1 hi8 hk1 hk8 hki hkk hu hnm
 ·by_cases e : i = n
  ·subst e; rw [gn] at hk ⊢; exact hrx hk
  ·rw [gi i e] at hk ⊢; exact hr i hi1 hi8 e hk
end Go.Proofs.YtemjlopoffjmpaaGreat.Abs
set_option linter.unusedSimpArgs false
set_option linter.unusedVariables false
namespace Go.Proofs.YtemjlopoffjmpaaGreat.Abs
open Go Go.Proofs
theorem Wk_empAt {n0 : Nat} {fr : List AV} {H : AH} (j sz : Nat) (h : fr[j]? = some .emp) : Wk n0 fr H (fr.set j (.own H.length sz 0 0 0)) (H ++ [some []]) := by
 intro E w vs hs hr
 refine ⟨E, LeN.refl _ _, hs.newEmpty, by rw [List.length_set]; exact hr.1, fun i c u hc hu => ?_⟩
 rw [List.getElem?_set] at hc
 by_cases hij : j = i
 ·subst hij
  rw [if_pos rfl] at hc
  split at hc
  ·cases hc
   obtain ⟨a, rfl⟩ := rep_emp (hr.2 j _ u h hu)
   exact .own0 _ _ _
  ·cases hc
 ·rw [if_neg hij] at hc
  exact hr.2 i c u hc hu
def kid (s : List Node) (n : Int) (i : Nat) : Prop := 1 ≤ i ∧ i < s.length ∧ ((s.getD i default).kind = 1 ∨ (s.getD i default).kind = 2) ∧ (s.getD i default).up = n
def cellI (i : Nat) : List AV := [.int .i64 i]
def pint (i : Nat) : List PV := [.int .i64 i]
theorem swap_mem (l : List Nat) (i j : Nat) (hi : i < l.length) (hj : j < l.length) (x : Nat) : x ∈ (l.set i (l.getD j 0)).set j (l.getD i 0) ↔ x ∈ l := by
 have gi : l.getD i 0 = l[i] := by rw [List.getD_eq_getElem?_getD, List.getElem?_eq_getElem hi]; rfl
 have gj : l.getD j 0 = l[j] := by rw [List.getD_eq_getElem?_getD, List.getElem?_eq_getElem hj]; rfl
 rw [gi, gj]
 simp only [List.mem_iff_getElem?, List.getElem?_set, List.length_set]
 constructor
 ·rintro ⟨k, hk⟩
  by_cases h1 : j = k
  ·subst h1
   rw [if_pos rfl, if_pos (by omega)] at hk
   exact ⟨i, by rw [← hk]; exact List.getElem?_eq_getElem hi⟩
  ·rw [if_neg h1] at hk
   by_cases h2 : i = k
   ·subst h2
    rw [if_pos rfl, if_pos hi] at hk
    exact ⟨j, by rw [← hk]; exact List.getElem?_eq_getElem hj⟩
   ·rw [if_neg h2] at hk
    exact ⟨k, hk⟩
 ·rintro ⟨k, hk⟩
  by_cases h1 : k = i
  ·subst h1
   refine ⟨j, ?_⟩
   rw [if_pos rfl, if_pos (by omega)]
   rw [List.getElem?_eq_getElem hi] at hk
   exact hk
  ·by_cases h2 : k = j
   ·subst h2
    refine ⟨i, ?_⟩
    rw [List.getElem?_eq_getElem hj] at hk
    rw [if_neg h1, if_pos rfl, if_pos hi]
    exact hk
   ·exact ⟨k, by rw [if_neg (Ne.symm h2), if_neg (Ne.symm h1)]; exact hk⟩
theorem iaddr_node (H : AH) (s : List Node) (k : IntKind) (n : Int) : iaddrV H 5 (.fz (s.map pnode)) (.int k n) = if 0 ≤ n ∧ n < s.length then some (.fptr (pnode (s.getD n.toNat default))) else none := by
 rw [iaddrV_map]
 have : (pnode (s.getD n.toNat default)).length = 5 := rfl
 simp only [this, and_true]
theorem set_cell (l : List Nat) (i x : Nat) : (List.map cellI l).set i [AV.int .i64 (x : Int)] = (l.set i x).map cellI := by rw [List.map_set]; rfl
theorem Wk_ints {fr fr' : List AV} {l : List Nat} {G : AH} (h : Tops fr' (renL (upTo 1) fr)) : Wk 0 fr (some (l.map cellI) :: G) fr' [some (l.map cellI)] := by
 have h1 := (Wk_forget (n0 := 0) (fr := fr) (H := some (l.map cellI) :: G) 1 (Nat.zero_le _)).trans (Wk_tops h)
 have e : mapH (renL (upTo 1)) ((some (l.map cellI) :: G).take 1) = [some (l.map cellI)] := by
  simp only [List.take_succ_cons, List.take_zero, mapH, List.map_cons, List.map_nil, Option.map_some, List.map_map]
  congr 2
 rwa [e] at h1
theorem kids_spec0 (s : List Node) (hs : s.length ≤ 1000000) (n : Int) :
 C Tryz.prog 111 [aset s, .int .i64 n] [] (fun x H' => ∃ l : List Nat, x = .fz (l.map pint) ∧ (∀ i, i ∈ l ↔ kid s n i) ∧ l.length ≤ s.length ∧ H' = []) := by
 refine C_body' d111 rfl (WT_ok ?_)
 delta c111 I0 I1 I2 I3 I4 I5 I6 I7 I8 I9 KI
 simp only [aset, iaddr_node, pnode, wk3, wk, Nat.reduceAdd, Nat.reduceSub, Nat.reduceMul, Nat.reduceLeDiff, Nat.reduceEqDiff, Nat.reduceBEq, Int.reduceLE, Int.reduceLT, Int.reduceEq, Int.reduceNe, Int.reduceAdd, Int.reduceSub, Int.reduceToNat, Int.reduceNeg, ↓reduceIte, reduceCtorEq]
 refine WT_loop (W_wk (Wk_empAt 5 1 rfl) (W_loop (fun nn fr H' => ∃ (i : Nat) (l : List Nat), 1 ≤ i ∧ (i ≤ s.length ∨ i = 1) ∧ nn = s.length - i ∧ (∀ j, j ∈ l ↔ kid s n j ∧ j < i) ∧ l.length < i ∧ H' = [some (l.map cellI)] ∧
  fr = [.fz (s.map pnode), .int .i64 n, .top, .top, .emp, .own 0 1 0 l.length l.length, .int .i64 i, .top] ++ List.replicate 73 .top) (s.length - 1) ⟨1, [], by omega, by omega, rfl, by simp [kid]; omega, by simp, rfl, rfl⟩ ?_))
 rintro nn fr H' ⟨i, l, hi1, hi, rfl, hmem, hll, rfl, rfl⟩
 refine WT_ok ?_
 simp only [iaddr_node, pnode, wk3, wk, Nat.reduceAdd, Nat.reduceSub, Nat.reduceMul, Nat.reduceLeDiff, Nat.reduceEqDiff, Nat.reduceBEq, Int.reduceLE, Int.reduceLT, Int.reduceEq, Int.reduceNe, Int.reduceAdd, Int.reduceSub, Int.reduceToNat, Int.reduceNeg, ↓reduceIte, reduceCtorEq]
 refine guard_both ?_ ?_ <;> intro h <;> simp only [hy] at h
 ·have hil : i < s.length := by omega
  have h0 : (0 : Int) ≤ i := by omega
  have w2 : IntKind.i64.wrap ((i : Int) + 1) = (i : Int) + 1 := IntWalk.i64_in _ (by omega)
  simp only [h0, h, iaddr_node, pnode, wk3, wk, Nat.reduceAdd, Nat.reduceSub, Nat.reduceMul, Nat.reduceLeDiff, Nat.reduceEqDiff, Nat.reduceBEq, Int.reduceLE, Int.reduceLT, Int.reduceEq, Int.reduceNe, Int.reduceAdd, Int.reduceSub, Int.reduceToNat, Int.reduceNeg, ↓reduceIte, reduceCtorEq]
  by_cases hk : kid s n i
  ·have hup : (s.getD i default).up = n := hk.2.2.2
   rcases hk.2.2.1 with h1 | h1 <;> simp only [h0, h, h1, hup, iaddr_node, pnode, wk3, wk, Nat.reduceAdd, Nat.reduceSub, Nat.reduceMul, Nat.reduceLeDiff, Nat.reduceEqDiff, Nat.reduceBEq, Int.reduceLE, Int.reduceLT, Int.reduceEq, Int.reduceNe, Int.reduceAdd, Int.reduceSub, Int.reduceToNat, Int.reduceNeg, ↓reduceIte, reduceCtorEq]
   all_goals
    have e : List.map cellI l ++ [[AV.int .i64 (i : Int)]] = (l ++ [i]).map cellI := by simp [cellI]
    have hmem2 : ∀ j, j ∈ l ++ [i] ↔ kid s n j ∧ j < i + 1 := by
     intro j
     rw [List.mem_append, hmem, List.mem_singleton]
     constructor
     ·rintro (⟨a, b⟩ | rfl)
      ·exact ⟨a, by omega⟩
      ·exact ⟨hk, by omega⟩
     ·rintro ⟨a, b⟩
      rcases Nat.lt_or_ge j i with h' | h'
      ·exact .inl ⟨a, h'⟩
      ·exact .inr (by omega)
    rw [e]
    refine ⟨⟨by omega, by omega⟩, ?_⟩
    refine WT_loop (W_wk (Wk_ints (fr' := [.fz (s.map pnode), .int .i64 n, .top, .top, .emp, .own 0 1 0 (l.length + 1) (l.length + 1), .int .i64 i, .int .i64 l.length] ++ List.replicate 73 .top) ?_) (W_loop (fun nn fr H' => ∃ (k : Nat) (l' : List Nat), k < l'.length ∧ l'.length = l.length + 1 ∧ nn = k ∧ (∀ j, j ∈ l' ↔ kid s n j ∧ j < i + 1) ∧ H' = [some (l'.map cellI)] ∧
     fr = [.fz (s.map pnode), .int .i64 n, .top, .top, .emp, .own 0 1 0 (l.length + 1) (l.length + 1), .int .i64 i, .int .i64 k] ++ List.replicate 73 .top) l.length ⟨l.length, l ++ [i], by simp, by simp, rfl, hmem2, rfl, rfl⟩ ?_))
    ·simp only [List.replicate_succ, List.replicate_zero, List.cons_append, List.nil_append, renL, ren, upTo, Nat.zero_lt_one, if_true, Tops_top, Tops_same, Tops_nil]
    rintro k fr H' ⟨_, l', hkl, hl', rfl, hm', rfl, rfl⟩
    refine WT_ok ?_
    simp only [iaddr_node, pnode, wk3, wk, Nat.reduceAdd, Nat.reduceSub, Nat.reduceMul, Nat.reduceLeDiff, Nat.reduceEqDiff, Nat.reduceBEq, Int.reduceLE, Int.reduceLT, Int.reduceEq, Int.reduceNe, Int.reduceAdd, Int.reduceSub, Int.reduceToNat, Int.reduceNeg, ↓reduceIte, reduceCtorEq]
    refine WT_draw ?_
    simp only [iaddr_node, pnode, wk3, wk, Nat.reduceAdd, Nat.reduceSub, Nat.reduceMul, Nat.reduceLeDiff, Nat.reduceEqDiff, Nat.reduceBEq, Int.reduceLE, Int.reduceLT, Int.reduceEq, Int.reduceNe, Int.reduceAdd, Int.reduceSub, Int.reduceToNat, Int.reduceNeg, ↓reduceIte, reduceCtorEq]
    refine guard_both ?_ ?_ <;> intro hk0 <;> simp only [hy] at hk0
    ·have hkp : 0 < k := by omega
     have hx := List.getElem?_eq_getElem (show k - 1 < l'.length by omega)
     have hy := List.getElem?_eq_getElem (show k < l'.length by omega)
     have hkx := (hm' l'[k - 1]).1 (List.getElem_mem _)
     generalize l'[k - 1] = xx at hx hkx
     generalize l'[k] = yy at hy
     have hxr := hkx.1.2.1
     have wk1 : IntKind.i64.wrap ((k : Int) - 1) = ((k - 1 : Nat) : Int) := by rw [IntWalk.i64_in _ (by omega)]; omega
     simp only [hk0, h0, h, hl', hx, wk1, cellI, iaddr_node, pnode, wk3, wk, Nat.reduceAdd, Nat.reduceSub, Nat.reduceMul, Nat.reduceLeDiff, Nat.reduceEqDiff, Nat.reduceBEq, Int.reduceLE, Int.reduceLT, Int.reduceEq, Int.reduceNe, Int.reduceAdd, Int.reduceSub, Int.reduceToNat, Int.reduceNeg, ↓reduceIte, reduceCtorEq]
     refine ⟨⟨by omega, by omega⟩, ⟨by omega, by omega⟩, ?_⟩
     refine guard_both ?_ ?_ <;> intro hb
     ·simp only [hb, iaddr_node, pnode, wk3, wk, Nat.reduceAdd, Nat.reduceSub, Nat.reduceMul, Nat.reduceLeDiff, Nat.reduceEqDiff, Nat.reduceBEq, Int.reduceLE, Int.reduceLT, Int.reduceEq, Int.reduceNe, Int.reduceAdd, Int.reduceSub, Int.reduceToNat, Int.reduceNeg, ↓reduceIte, reduceCtorEq]
      refine WT_drawE ?_
      refine WDT_more 0 ?_
      simp only [hl', hx, hy, wk1, cellI, iaddr_node, pnode, wk3, wk, Nat.reduceAdd, Nat.reduceSub, Nat.reduceMul, Nat.reduceLeDiff, Nat.reduceEqDiff, Nat.reduceBEq, Int.reduceLE, Int.reduceLT, Int.reduceEq, Int.reduceNe, Int.reduceAdd, Int.reduceSub, Int.reduceToNat, Int.reduceNeg, ↓reduceIte, reduceCtorEq]
      refine ⟨⟨by omega, by omega⟩, ⟨by omega, by omega⟩, ⟨by omega, by omega⟩, by omega, by rfl, ⟨by omega, by omega⟩, ?_⟩
      have hz : (l'.set (k - 1) yy)[k]? = some yy := by rw [List.getElem?_set_ne (by omega)]; exact hy
      have hsw : ∀ j, j ∈ (l'.set (k - 1) yy).set k xx ↔ kid s n j ∧ j < i + 1 := by
       intro j
       have := swap_mem l' (k - 1) k (by omega) (by omega) j
       rw [List.getD_eq_getElem?_getD, List.getD_eq_getElem?_getD, hx, hy] at this
       rw [← hm' j]; exact this
      rw [set_cell]
      simp only [hz, wk1, cellI, lay, List.getElem?_map, Option.map_some, iaddr_node, pnode, wk3, wk, Nat.reduceAdd, Nat.reduceSub, Nat.reduceMul, Nat.reduceLeDiff, Nat.reduceEqDiff, Nat.reduceBEq, Int.reduceLE, Int.reduceLT, Int.reduceEq, Int.reduceNe, Int.reduceAdd, Int.reduceSub, Int.reduceToNat, Int.reduceNeg, ↓reduceIte, reduceCtorEq]
      rw [set_cell]
      refine QLoop_go (n' := k - 1) (by omega) ⟨k - 1, (l'.set (k - 1) yy).set k xx, by simp; omega, by simp; omega, rfl, hsw, rfl, rfl⟩ ?_
      simp only [tp]
     ·simp only [hb, w2, iaddr_node, pnode, wk3, wk, Nat.reduceAdd, Nat.reduceSub, Nat.reduceMul, Nat.reduceLeDiff, Nat.reduceEqDiff, Nat.reduceBEq, Int.reduceLE, Int.reduceLT, Int.reduceEq, Int.reduceNe, Int.reduceAdd, Int.reduceSub, Int.reduceToNat, Int.reduceNeg, ↓reduceIte, reduceCtorEq]
      refine QLoop_go (n' := s.length - (i + 1)) (by omega) ⟨i + 1, l', by omega, by omega, rfl, hm', by omega, rfl, rfl⟩ ?_
      simp only [hl', tq]
    ·simp only [hk0, w2, iaddr_node, pnode, wk3, wk, Nat.reduceAdd, Nat.reduceSub, Nat.reduceMul, Nat.reduceLeDiff, Nat.reduceEqDiff, Nat.reduceBEq, Int.reduceLE, Int.reduceLT, Int.reduceEq, Int.reduceNe, Int.reduceAdd, Int.reduceSub, Int.reduceToNat, Int.reduceNeg, ↓reduceIte, reduceCtorEq]
     refine QLoop_go (n' := s.length - (i + 1)) (by omega) ⟨i + 1, l', by omega, by omega, rfl, hm', by omega, rfl, rfl⟩ ?_
     simp only [hl', tq]
  ·have fin : ∀ j, j ∈ l ↔ kid s n j ∧ j < i + 1 := by
    intro j
    rw [hmem]
    constructor
    ·exact fun ⟨a, b⟩ => ⟨a, by omega⟩
    ·rintro ⟨a, b⟩
     refine ⟨a, ?_⟩
     rcases Nat.lt_or_ge j i with h' | h'
     ·exact h'
     ·have : j = i := by omega
      subst this; exact absurd a hk
   by_cases h1 : (s.getD i default).kind = 1
   ·have h3 : ¬ (s.getD i default).up = n := fun e => hk ⟨hi1, hil, .inl h1, e⟩
    simp only [h0, h, h1, h3, w2, iaddr_node, pnode, wk3, wk, Nat.reduceAdd, Nat.reduceSub, Nat.reduceMul, Nat.reduceLeDiff, Nat.reduceEqDiff, Nat.reduceBEq, Int.reduceLE, Int.reduceLT, Int.reduceEq, Int.reduceNe, Int.reduceAdd, Int.reduceSub, Int.reduceToNat, Int.reduceNeg, ↓reduceIte, reduceCtorEq]
    refine QLoop_go (n' := s.length - (i + 1)) (by omega) ⟨i + 1, l, by omega, by omega, rfl, fin, by omega, rfl, rfl⟩ ?_
    simp only [tq]
   ·by_cases h2 : (s.getD i default).kind = 2
    ·have h3 : ¬ (s.getD i default).up = n := fun e => hk ⟨hi1, hil, .inr h2, e⟩
     simp only [h0, h, h2, h3, w2, iaddr_node, pnode, wk3, wk, Nat.reduceAdd, Nat.reduceSub, Nat.reduceMul, Nat.reduceLeDiff, Nat.reduceEqDiff, Nat.reduceBEq, Int.reduceLE, Int.reduceLT, Int.reduceEq, Int.reduceNe, Int.reduceAdd, Int.reduceSub, Int.reduceToNat, Int.reduceNeg, ↓reduceIte, reduceCtorEq]
     refine QLoop_go (n' := s.length - (i + 1)) (by omega) ⟨i + 1, l, by omega, by omega, rfl, fin, by omega, rfl, rfl⟩ ?_
     simp only [tq]
    ·simp only [h0, h, h1, h2, w2, iaddr_node, pnode, wk3, wk, Nat.reduceAdd, Nat.reduceSub, Nat.reduceMul, Nat.reduceLeDiff, Nat.reduceEqDiff, Nat.reduceBEq, Int.reduceLE, Int.reduceLT, Int.reduceEq, Int.reduceNe, Int.reduceAdd, Int.reduceSub, Int.reduceToNat, Int.reduceNeg, ↓reduceIte, reduceCtorEq]
     refine QLoop_go (n' := s.length - (i + 1)) (by omega) ⟨i + 1, l, by omega, by omega, rfl, fin, by omega, rfl, rfl⟩ ?_
     simp only [tq]
 ·simp only [h, iaddr_node, pnode, wk3, wk, Nat.reduceAdd, Nat.reduceSub, Nat.reduceMul, Nat.reduceLeDiff, Nat.reduceEqDiff, Nat.reduceBEq, Int.reduceLE, Int.reduceLT, Int.reduceEq, Int.reduceNe, Int.reduceAdd, Int.reduceSub, Int.reduceToNat, Int.reduceNeg, ↓reduceIte, reduceCtorEq]
  refine KWk_frozen 0 (l.map pint) ?_ (.fz (l.map pint)) ?_ ⟨l, rfl, fun j => ?_, by omega, rfl⟩
  ·simp [AH.at, cellI, pint, emb]
  ·simp only [frzL, frz, renL, ren, if_true, List.length_map, Nat.zero_add, Nat.le_refl, and_self, List.drop_zero]
   rw [List.take_of_length_le (by simp)]
  ·rw [hmem]
   constructor
   ·exact fun h => h.1
   ·intro hk
    have := hk.2.1
    exact ⟨hk, by omega⟩
theorem kids_spec (s : List Node) (hs : s.length ≤ 1000000) (n : Int) (H : AH) : C Tryz.prog 111 [aset s, .int .i64 n] H (fun x H' => (∃ l : List Nat, x = .fz (l.map pint) ∧ (∀ i, i ∈ l ↔ kid s n i) ∧ l.length ≤ s.length) ∧ H' = H) :=
 C_pure (K0 := fun x => ∃ l : List Nat, x = .fz (l.map pint) ∧ (∀ i, i ∈ l ↔ kid s n i) ∧ l.length ≤ s.length) ((kids_spec0 s hs n).mono fun x H' ⟨l, h1, h2, h3, h4⟩ => ⟨⟨l, h1, h2, h3⟩, h4⟩) (fun τ => by simp [renL, ren, aset]) (by rintro y ⟨l, rfl, _⟩ τ; simp [ren]) H
end Go.Proofs.YtemjlopoffjmpaaGreat.Abs
set_option linter.unusedSimpArgs false
set_option linter.unusedVariables false
namespace Go.Proofs.YtemjlopoffjmpaaGreat.Abs
open Go Go.Proofs
theorem iaddr_int (H : AH) (l : List Nat) (k : IntKind) (n : Int) : iaddrV H 1 (.fz (l.map pint)) (.int k n) = if 0 ≤ n ∧ n < l.length then some (.fptr (pint (l.getD n.toNat default))) else none := by
 rw [iaddrV_map]
 have : (pint (l.getD n.toNat default)).length = 1 := rfl
 simp only [this, and_true]
def pname (x : List UInt8) : List PV := [.str x]
theorem iaddr_name (H : AH) (l : List (List UInt8)) (k : IntKind) (n : Int) : iaddrV H 1 (.fz (l.map pname)) (.int k n) = if 0 ≤ n ∧ n < l.length then some (.fptr (pname (l.getD n.toNat default))) else none := by
 rw [iaddrV_map]
 have : (pname (l.getD n.toNat default)).length = 1 := rfl
 simp only [this, and_true]
theorem kid_spec (s : List Node) (hs : s.length ≤ 1000000) (n : Int) (nm : List UInt8) (H : AH) :
 C Tryz.prog 79 [aset s, .int .i64 n, .str nm] H (fun x H' => H' = H ∧ ((∃ k : Nat, kid s n k ∧ (s.getD k default).name = nm ∧ x = .tuple [.int .i64 k, .bool true]) ∨ (x = .tuple [.int .i64 0, .bool false] ∧ ∀ k, kid s n k → (s.getD k default).name ≠ nm))) := by
 refine C_body d79 rfl (WT_ok ?_)
 delta c79 I0 I1 I2 I3 I4 I5 I6 I7 I8 I9 KI
 simp only [aset, iaddr_node, pnode, wk3, wk, seval]
 refine CT_ok (kids_spec s hs n H) ?_
 rintro _ H ⟨⟨l, rfl, hl, hll⟩, rfl⟩
 simp only [iaddr_node, pnode, wk3, wk, seval]
 refine WT_loop (W_wk (fr' := [.fz (s.map pnode), .int .i64 n, .str nm, .top, .top, .top, .int .i64 0, .bool false, .fz (l.map pint), .int .i64 0] ++ List.replicate 23 .top) (Wk_tops ?_) (W_loop (fun nn fr H' => ∃ j : Nat, j ≤ l.length ∧ nn = l.length - j ∧ (∀ i, i < j → (s.getD (l.getD i 0) default).name ≠ nm) ∧ H' = H ∧ fr = [.fz (s.map pnode), .int .i64 n, .str nm, .top, .top, .top, .int .i64 0, .bool false, .fz (l.map pint), .int .i64 j] ++ List.replicate 23 .top) l.length ⟨0, by omega, rfl, fun i hi => by omega, rfl, rfl⟩ ?_))
 ·simp only [tp]
 rintro nn fr H ⟨j, hj, rfl, hno, rfl, rfl⟩
 refine WT_ok ?_
 simp only [iaddr_node, pnode, wk3, wk, seval]
 refine guard_both ?_ ?_ <;> intro h <;> simp only [hy] at h
 ·have hjl : j < l.length := by omega
  have h0 : (0 : Int) ≤ j := by omega
  have hmem : l.getD j 0 ∈ l := by rw [List.getD_eq_getElem?_getD, List.getElem?_eq_getElem hjl]; exact List.getElem_mem _
  have hk := (hl _).1 hmem
  have hd : l.getD j default = l.getD j 0 := rfl
  have hk2 := hk.2.1
  have h1 : (0 : Int) ≤ (l.getD j 0 : Nat) := by omega
  have h2 : ((l.getD j 0 : Nat) : Int) < s.length := by omega
  have w2 : IntKind.i64.wrap ((j : Int) + 1) = (j : Int) + 1 := IntWalk.i64_in _ (by omega)
  simp only [h0, h, h1, h2, hd, iaddr_int, pint, iaddr_node, pnode, wk3, wk, seval]
  refine guard_both ?_ ?_ <;> intro h3 <;> simp only [hy] at h3
  ·simp only [h3, h0, h, hd, iaddr_int, pint, iaddr_node, pnode, wk3, wk, seval]
   exact .inl ⟨_, hk, h3, rfl⟩
  ·simp only [h3, w2, iaddr_node, pnode, wk3, wk, seval]
   refine QLoop_go (n' := l.length - (j + 1)) (by omega) ⟨j + 1, by omega, rfl, fun i hi => ?_, rfl, rfl⟩ ?_
   ·rcases Nat.lt_or_ge i j with h' | h'
    ·exact hno i h'
    ·have : i = j := by omega
     subst this; exact h3
   ·simp only [tq]
 ·simp only [h, iaddr_node, pnode, wk3, wk, seval]
  refine .inr fun k hk => ?_
  obtain ⟨i, hi, he⟩ := List.mem_iff_getElem.1 ((hl k).2 hk)
  have := hno i (by omega)
  have hg : l.getD i 0 = k := by rw [List.getD_eq_getElem?_getD, List.getElem?_eq_getElem hi]; exact he
  rwa [hg] at this
def downR (s : List Node) : List (List UInt8) → Nat → Nat → Prop
 | [], a, b => a = b
 | x :: l, a, b => (s.getD a default).kind = 2 ∧ ∃ k, kid s a k ∧ (s.getD k default).name = x ∧ downR s l k b
def downF (s : List Node) (l : List (List UInt8)) : Prop := ∃ (l1 : List (List UInt8)) (x : List UInt8) (l2 : List (List UInt8)) (a : Nat), l = l1 ++ x :: l2 ∧ downR s l1 0 a ∧ a < s.length ∧ ((s.getD a default).kind ≠ 2 ∨ ∀ k, kid s a k → (s.getD k default).name ≠ x)
theorem downR_snoc {s : List Node} {x : List UInt8} : ∀ {l : List (List UInt8)} {a b k : Nat}, downR s l a b → (s.getD b default).kind = 2 → kid s b k → (s.getD k default).name = x → downR s (l ++ [x]) a k
 | [], a, b, k, h, h1, h2, h3 => by
   simp only [downR] at h; subst h
   exact ⟨h1, k, h2, h3, rfl⟩
 | y :: l, a, b, k, ⟨g1, m, g2, g3, g4⟩, h1, h2, h3 => ⟨g1, m, g2, g3, downR_snoc g4 h1 h2 h3⟩
theorem down_spec (s : List Node) (hs : s.length ≤ 1000000) (h0s : 0 < s.length) (l : List (List UInt8)) (hl : l.length ≤ 1000000) (H : AH) :
 C Tryz.prog 110 [aset s, .fz (l.map pname)] H (fun x H' => H' = H ∧ ((∃ k : Nat, k < s.length ∧ downR s l 0 k ∧ x = .tuple [.int .i64 k, .int .i64 0]) ∨ ∃ e : Int, e ≠ 0 ∧ downF s l ∧ x = .tuple [.int .i64 0, .int .i64 e])) := by
 refine C_body d110 rfl (WT_ok ?_)
 delta c110 I0 I1 I2 I3 I4 I5 I6 I7 I8 I9 KI
 simp only [aset, iaddr_node, pnode, wk3, wk, seval]
 refine WT_loop (W_loop (fun nn fr H' => ∃ (j a : Nat), j ≤ l.length ∧ nn = l.length - j ∧ a < s.length ∧ downR s (l.take j) 0 a ∧ H' = H ∧ fr = [.fz (s.map pnode), .fz (l.map pname), .top, .top, .int .i64 0, .int .i64 0, .int .i64 a, .int .i64 j] ++ List.replicate 40 .top) l.length ⟨0, 0, by omega, rfl, h0s, rfl, rfl, rfl⟩ ?_)
 rintro nn fr H ⟨j, a, hj, rfl, ha, hR, rfl, rfl⟩
 refine WT_ok ?_
 simp only [iaddr_node, pnode, wk3, wk, seval]
 refine guard_both ?_ ?_ <;> intro h <;> simp only [hy] at h
 ·have hjl : j < l.length := by omega
  have h0 : (0 : Int) ≤ j := by omega
  have h1 : (0 : Int) ≤ a := by omega
  have h2 : (a : Int) < s.length := by omega
  have h2' : ¬ (s.length : Int) ≤ a := by omega
  have w2 : IntKind.i64.wrap ((j : Int) + 1) = (j : Int) + 1 := IntWalk.i64_in _ (by omega)
  have hsplit : l = l.take j ++ l.getD j default :: l.drop (j + 1) := by
   rw [List.getD_eq_getElem?_getD, List.getElem?_eq_getElem hjl, Option.getD_some, List.getElem_cons_drop, List.take_append_drop]
  simp only [h0, h, h1, h2, h2', iaddr_name, pname, iaddr_node, pnode, wk3, wk, seval]
  by_cases hk : (s.getD a default).kind = 2
  ·simp only [hk, h0, h, h1, h2, iaddr_name, pname, iaddr_node, pnode, wk3, wk, seval]
   refine CT_ok (kid_spec s hs a (l.getD j default) H) ?_
   rintro _ H ⟨rfl, ⟨k, hk1, hk2, rfl⟩ | ⟨rfl, hno⟩⟩
   ·simp only [w2, iaddr_node, pnode, wk3, wk, seval]
    refine QLoop_go (n' := l.length - (j + 1)) (by omega) ⟨j + 1, k, by omega, rfl, hk1.2.1, ?_, rfl, rfl⟩ ?_
    ·rw [List.take_add_one, List.getElem?_eq_getElem hjl]
     refine downR_snoc hR hk hk1 ?_
     rw [hk2, List.getD_eq_getElem?_getD, List.getElem?_eq_getElem hjl]
     rfl
    ·simp only [tq]
   ·simp only [iaddr_node, pnode, wk3, wk, seval]
    refine CT_ok (lost_spec s hs H) ?_
    rintro _ _ ⟨rfl, rfl⟩
    simp only [iaddr_node, pnode, wk3, wk, seval]
    refine guard_both ?_ ?_ <;> intro h3 <;> simp only [h3, iaddr_node, pnode, wk3, wk, seval]
    ·exact .inr ⟨12, by omega, ⟨_, _, _, a, hsplit, hR, ha, .inr hno⟩, rfl⟩
    ·exact .inr ⟨2, by omega, ⟨_, _, _, a, hsplit, hR, ha, .inr hno⟩, rfl⟩
  ·simp only [hk, iaddr_node, pnode, wk3, wk, seval]
   exact .inr ⟨5, by omega, ⟨_, _, _, a, hsplit, hR, ha, .inl hk⟩, rfl⟩
 ·have : j = l.length := by omega
  subst this
  rw [List.take_length] at hR
  simp only [h, iaddr_node, pnode, wk3, wk, seval]
  exact .inl ⟨a, ha, hR, rfl⟩
end Go.Proofs.YtemjlopoffjmpaaGreat.Abs
