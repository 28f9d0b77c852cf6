/-
  Part 3 of the proof: no condition. (Parts of the abstract layer, of the program's functions in its form, and of their contracts.)
-/
import Derived.Test.YtemjlopoffjmpaaGreatSTAbs22
import Derived.Test.YtemjlopoffjmpaaGreatProg
import Derived.KernelRfl
import Derived.Test.YtemjlopoffjmpaaGreatSTWk
import Derived.Test.YtemjlopoffjmpaaGreatSTWk3
import Derived.Test.YtemjlopoffjmpaaGreatST2
import Derived.Test.YtemjlopoffjmpaaGreatST1
import Derived.Test.YtemjlopoffjmpaaGreatSTAbs39
import Derived.Test.YtemjlopoffjmpaaGreatSTAbs35
import Derived.Test.YtemjlopoffjmpaaGreatSTAbs37
import Derived.Test.YtemjlopoffjmpaaGreatSTAbs41
import Derived.Test.YtemjlopoffjmpaaGreatSTAbs38
import Derived.ProofKit
namespace Go.Proofs.YtemjlopoffjmpaaGreat.Abs
open Go
def c70 : ACode :=
 (.seq (.reg [⟨some 6, none, .mv (.c (.emp))⟩,
  ⟨some 7, none, .mv (.c (.int .i64 0))⟩])
 (.seq (.seq (.reg [⟨some 8, none, .mv (.t 2)⟩,
  ⟨some 9, none, .bini .lss (.t 8) (.c (.int .i64 0))⟩,
  ⟨some 10, none, .mv (.t 9)⟩,
  ⟨some 11, (some (10, false)), .mv (.t 2)⟩,
  ⟨some 12, (some (10, false)), .bini .gtr (.t 11) (.c (.int .i64 255))⟩,
  ⟨some 13, none, .pick (.t 10) (.c (.bool true)) (.t 12)⟩])
 (.cond (.t 13)
 (.seq (.reg [⟨some 14, none, .mv (.t 0)⟩,
  ⟨some 6, none, .mv (.t 14)⟩,
  ⟨some 7, none, .mv (.c (.int .i64 1))⟩])
 .ret)
 .skip))
 (.seq (.reg [⟨some 15, none, .mv (.t 0)⟩,
  ⟨some 16, none, .mv (.t 1)⟩,
  ⟨some 17, none, .mv (.t 2)⟩,
  ⟨some 18, none, .call 34 []⟩,
  ⟨some 19, none, .build [.int .i64 0, .int .i64 0, .int .i64 0, .int .i64 0, .emp] [(0, 1, (.t 16)), (1, 1, (.c (.int .i64 1))), (3, 1, (.t 17)), (4, 1, (.t 18))]⟩,
  ⟨some 20, none, .call 108 [(.t 15), (.t 19)]⟩,
  ⟨some 21, none, .ext (.t 20) 0⟩,
  ⟨some 22, none, .ext (.t 20) 1⟩,
  ⟨some 6, none, .mv (.t 21)⟩,
  ⟨some 7, none, .mv (.t 22)⟩])
 .ret)))
theorem d70 : FnD Tryz.prog 70 3 20 [.tmp 6, .tmp 7] c70 := ⟨Tryz.f70, _, Tryz.func70, by kernel_rfl, rfl, rfl, by kernel_rfl, by kernel_rfl⟩
end Go.Proofs.YtemjlopoffjmpaaGreat.Abs
namespace Go.Proofs.YtemjlopoffjmpaaGreat.Abs
open Go
def c71 : ACode :=
 (.seq (.reg [⟨some 6, none, .mv (.c (.emp))⟩,
  ⟨some 7, none, .mv (.c (.int .i64 0))⟩])
 (.seq (.reg [⟨some 11, none, .mv (.t 0)⟩,
  ⟨some 12, none, .mv (.t 2)⟩,
  ⟨some 13, none, .call 30 [(.t 11), (.t 12)]⟩,
  ⟨some 10, none, .mv (.t 13)⟩,
  ⟨some 14, none, .ext (.t 10) 0⟩,
  ⟨some 15, none, .ext (.t 10) 1⟩,
  ⟨some 8, none, .alloc [.int .i64 0, .int .i64 0, .int .i64 0, .int .i64 0, .emp]⟩,
  ⟨none, none, .store 5 (.t 8) (.t 14)⟩,
  ⟨some 9, none, .mv (.t 15)⟩])
 (.seq (.seq (.reg [⟨some 16, none, .mv (.t 9)⟩,
  ⟨some 17, none, .un .not (.t 16)⟩])
 (.cond (.t 17)
 (.seq (.reg [⟨some 18, none, .mv (.t 0)⟩,
  ⟨some 6, none, .mv (.t 18)⟩,
  ⟨some 7, none, .mv (.c (.int .i64 2))⟩])
 .ret)
 .skip))
 (.seq (.seq (.reg [⟨some 19, none, .faddr 1 (.t 8)⟩,
  ⟨some 20, none, .load false 1 (.t 19)⟩,
  ⟨some 21, none, .bini .eql (.t 20) (.c (.int .i64 2))⟩])
 (.cond (.t 21)
 (.seq (.reg [⟨some 22, none, .mv (.t 0)⟩,
  ⟨some 6, none, .mv (.t 22)⟩,
  ⟨some 7, none, .mv (.c (.int .i64 11))⟩])
 .ret)
 .skip))
 (.seq (.reg [⟨some 23, none, .mv (.t 0)⟩,
  ⟨some 24, none, .mv (.t 1)⟩,
  ⟨some 25, none, .mv (.t 2)⟩,
  ⟨some 26, none, .faddr 4 (.t 8)⟩,
  ⟨some 27, none, .load false 1 (.t 26)⟩,
  ⟨some 28, none, .build [.int .i64 0, .int .i64 0, .int .i64 0, .int .i64 0, .emp] [(0, 1, (.t 24)), (1, 1, (.c (.int .i64 2))), (2, 1, (.t 25)), (4, 1, (.t 27))]⟩,
  ⟨some 29, none, .call 108 [(.t 23), (.t 28)]⟩,
  ⟨some 30, none, .ext (.t 29) 0⟩,
  ⟨some 31, none, .ext (.t 29) 1⟩,
  ⟨some 6, none, .mv (.t 30)⟩,
  ⟨some 7, none, .mv (.t 31)⟩])
 .ret)))))
theorem d71 : FnD Tryz.prog 71 3 29 [.tmp 6, .tmp 7] c71 := ⟨Tryz.f71, _, Tryz.func71, by kernel_rfl, rfl, rfl, by kernel_rfl, by kernel_rfl⟩
end Go.Proofs.YtemjlopoffjmpaaGreat.Abs
namespace Go.Proofs.YtemjlopoffjmpaaGreat.Abs
open Go
def c72 : ACode :=
 (.seq (.reg [⟨some 6, none, .mv (.c (.emp))⟩,
  ⟨some 7, none, .mv (.c (.int .i64 0))⟩])
 (.seq (.reg [⟨some 11, none, .mv (.t 0)⟩,
  ⟨some 12, none, .mv (.t 2)⟩,
  ⟨some 13, none, .call 30 [(.t 11), (.t 12)]⟩,
  ⟨some 10, none, .mv (.t 13)⟩,
  ⟨some 14, none, .ext (.t 10) 0⟩,
  ⟨some 15, none, .ext (.t 10) 1⟩,
  ⟨some 8, none, .alloc [.int .i64 0, .int .i64 0, .int .i64 0, .int .i64 0, .emp]⟩,
  ⟨none, none, .store 5 (.t 8) (.t 14)⟩,
  ⟨some 9, none, .mv (.t 15)⟩])
 (.seq (.seq (.reg [⟨some 16, none, .mv (.t 9)⟩,
  ⟨some 17, none, .un .not (.t 16)⟩])
 (.cond (.t 17)
 (.seq (.reg [⟨some 18, none, .mv (.t 0)⟩,
  ⟨some 6, none, .mv (.t 18)⟩,
  ⟨some 7, none, .mv (.c (.int .i64 2))⟩])
 .ret)
 .skip))
 (.seq (.seq (.reg [⟨some 19, none, .faddr 1 (.t 8)⟩,
  ⟨some 20, none, .load false 1 (.t 19)⟩,
  ⟨some 21, none, .bini .neq (.t 20) (.c (.int .i64 2))⟩])
 (.cond (.t 21)
 (.seq (.reg [⟨some 22, none, .mv (.t 0)⟩,
  ⟨some 6, none, .mv (.t 22)⟩,
  ⟨some 7, none, .mv (.c (.int .i64 1))⟩])
 .ret)
 .skip))
 (.seq (.reg [⟨some 23, none, .mv (.t 0)⟩,
  ⟨some 24, none, .mv (.t 1)⟩,
  ⟨some 25, none, .mv (.t 2)⟩,
  ⟨some 26, none, .faddr 4 (.t 8)⟩,
  ⟨some 27, none, .load false 1 (.t 26)⟩,
  ⟨some 28, none, .build [.int .i64 0, .int .i64 0, .int .i64 0, .int .i64 0, .emp] [(0, 1, (.t 24)), (1, 1, (.c (.int .i64 1))), (2, 1, (.t 25)), (4, 1, (.t 27))]⟩,
  ⟨some 29, none, .call 108 [(.t 23), (.t 28)]⟩,
  ⟨some 30, none, .ext (.t 29) 0⟩,
  ⟨some 31, none, .ext (.t 29) 1⟩,
  ⟨some 6, none, .mv (.t 30)⟩,
  ⟨some 7, none, .mv (.t 31)⟩])
 .ret)))))
theorem d72 : FnD Tryz.prog 72 3 29 [.tmp 6, .tmp 7] c72 := ⟨Tryz.f72, _, Tryz.func72, by kernel_rfl, rfl, rfl, by kernel_rfl, by kernel_rfl⟩
end Go.Proofs.YtemjlopoffjmpaaGreat.Abs
namespace Go.Proofs.YtemjlopoffjmpaaGreat.Abs
open Go
def c108 : ACode :=
 (.seq (.reg [⟨some 3, none, .box (.t 1)⟩,
  ⟨some 4, none, .mv (.c (.emp))⟩,
  ⟨some 5, none, .mv (.c (.int .i64 0))⟩])
 (.seq (.seq (.dregE [[(0, ⟨some 6, none, .mv (.t 0)⟩)],
  [(1, ⟨some 7, none, .len false (.t 6)⟩)],
  [(2, ⟨some 8, none, .bini .geq (.t 7) (.c (.int .i64 8))⟩)],
  [(3, ⟨some 9, none, .mv (.t 8)⟩)],
  [(4, ⟨some 10, (some (9, false)), .faddr 0 (.t 3)⟩)],
  [(5, ⟨some 11, (some (9, false)), .load false 1 (.t 10)⟩)],
  [(6, ⟨some 12, (some (9, false)), .bini .lss (.t 11) (.c (.int .i64 1))⟩)],
  [(7, ⟨some 13, none, .pick (.t 9) (.c (.bool true)) (.t 12)⟩)],
  [(8, ⟨some 14, none, .mv (.t 13)⟩)],
  [(9, ⟨some 15, (some (14, false)), .faddr 0 (.t 3)⟩)],
  [(10, ⟨some 16, (some (14, false)), .load false 1 (.t 15)⟩)],
  [(11, ⟨some 17, (some (14, false)), .call 61 [(.t 16)]⟩)],
  [(12, ⟨some 18, (some (14, false)), .un .not (.t 17)⟩)],
  [(13, ⟨some 19, none, .pick (.t 14) (.c (.bool true)) (.t 18)⟩)],
  [(14, ⟨some 20, none, .mv (.t 19)⟩)],
  [(15, ⟨some 21, (some (20, false)), .mv (.t 0)⟩)],
  [(16, ⟨some 22, (some (20, false)), .len false (.t 21)⟩)],
  [(17, ⟨some 23, (some (20, false)), .bini .gtr (.t 22) (.c (.int .i64 0))⟩)],
  [(18, ⟨some 24, (some (20, false)), .mv (.t 23)⟩)],
  [(19, ⟨some 25, (some (24, true)), .mv (.t 0)⟩),
  (20, ⟨some 26, (some (24, true)), .mv (.t 0)⟩),
  (21, ⟨some 27, (some (24, true)), .len false (.t 26)⟩),
  (22, ⟨some 28, (some (24, true)), .bini .sub (.t 27) (.c (.int .i64 1))⟩),
  (23, ⟨some 29, (some (24, true)), .iaddr 5 (.t 25) (.t 28)⟩),
  (24, ⟨some 30, (some (24, true)), .faddr 0 (.t 29)⟩),
  (25, ⟨some 31, (some (24, true)), .load false 1 (.t 30)⟩),
  (26, ⟨some 32, (some (24, true)), .faddr 0 (.t 3)⟩),
  (27, ⟨some 33, (some (24, true)), .load false 1 (.t 32)⟩)],
  [(28, ⟨some 34, (some (24, true)), .bini .geq (.t 31) (.t 33)⟩)],
  [(29, ⟨some 35, (some (20, false)), .pick (.t 24) (.t 34) (.c (.bool false))⟩)],
  [(30, ⟨some 36, none, .pick (.t 20) (.c (.bool true)) (.t 35)⟩)]]
  [[], [0], [0, 1], [0, 1, 2], [0, 1, 2, 3], [0, 1, 2, 3, 4], [0, 1, 2, 3, 4, 5], [0, 1, 2, 3, 4, 5, 6], [0, 1, 2, 3, 4, 5, 6, 7], [0, 1, 2, 3, 4, 5, 6, 7, 8], [0, 1, 2, 3, 4, 5, 6, 7, 8, 9], [0, 1, 2, 3, 4, 5, 6, 7, 8, 9, 10], [0, 1, 2, 3, 4, 5, 6, 7, 8, 9, 10, 11], [0, 1, 2, 3, 4, 5, 6, 7, 8, 9, 10, 11, 12], [0, 1, 2, 3, 4, 5, 6, 7, 8, 9, 10, 11, 12, 13], [0, 1, 2, 3, 4, 5, 6, 7, 8, 9, 10, 11, 12, 13, 14], [0, 1, 2, 3, 4, 5, 6, 7, 8, 9, 10, 11, 12, 13, 14, 15], [0, 1, 2, 3, 4, 5, 6, 7, 8, 9, 10, 11, 12, 13, 14, 15, 16], [0, 1, 2, 3, 4, 5, 6, 7, 8, 9, 10, 11, 12, 13, 14, 15, 16, 17], [0, 1, 2, 3, 4, 5, 6, 7, 8, 9, 10, 11, 12, 13, 14, 15, 16, 17, 18], [0, 1, 2, 3, 4, 5, 6, 7, 8, 9, 10, 11, 12, 13, 14, 15, 16, 17, 18], [0, 1, 2, 3, 4, 5, 6, 7, 8, 9, 10, 11, 12, 13, 14, 15, 16, 17, 18, 20], [0, 1, 2, 3, 4, 5, 6, 7, 8, 9, 10, 11, 12, 13, 14, 15, 16, 17, 18, 20, 21], [0, 1, 2, 3, 4, 5, 6, 7, 8, 9, 10, 11, 12, 13, 14, 15, 16, 17, 18, 19, 20, 21, 22], [0, 1, 2, 3, 4, 5, 6, 7, 8, 9, 10, 11, 12, 13, 14, 15, 16, 17, 18, 19, 20, 21, 22, 23], [0, 1, 2, 3, 4, 5, 6, 7, 8, 9, 10, 11, 12, 13, 14, 15, 16, 17, 18, 19, 20, 21, 22, 23, 24], [0, 1, 2, 3, 4, 5, 6, 7, 8, 9, 10, 11, 12, 13, 14, 15, 16, 17, 18], [0, 1, 2, 3, 4, 5, 6, 7, 8, 9, 10, 11, 12, 13, 14, 15, 16, 17, 18, 26], [0, 1, 2, 3, 4, 5, 6, 7, 8, 9, 10, 11, 12, 13, 14, 15, 16, 17, 18, 19, 20, 21, 22, 23, 24, 25, 26, 27], [0, 1, 2, 3, 4, 5, 6, 7, 8, 9, 10, 11, 12, 13, 14, 15, 16, 17, 18, 19, 20, 21, 22, 23, 24, 25, 26, 27, 28], [0, 1, 2, 3, 4, 5, 6, 7, 8, 9, 10, 11, 12, 13, 14, 15, 16, 17, 18, 19, 20, 21, 22, 23, 24, 25, 26, 27, 28, 29]])
 (.cond (.t 36)
 (.seq (.reg [⟨some 37, none, .mv (.t 0)⟩,
  ⟨some 4, none, .mv (.t 37)⟩,
  ⟨some 5, none, .mv (.c (.int .i64 8))⟩])
 .ret)
 .skip))
 (.seq (.dregE [[(0, ⟨some 38, none, .bslice 5 0 [.int .i64 0, .int .i64 0, .int .i64 0, .int .i64 0, .emp] []⟩),
  (1, ⟨some 39, none, .mv (.t 0)⟩),
  (2, ⟨some 40, none, .append 5 56 [.int .i64 0, .int .i64 0, .int .i64 0, .int .i64 0, .emp] (.t 38) (.t 39)⟩),
  (3, ⟨some 41, none, .load true 5 (.t 3)⟩),
  (4, ⟨some 42, none, .bslice 5 1 [.int .i64 0, .int .i64 0, .int .i64 0, .int .i64 0, .emp] [(0, (.t 41))]⟩)],
  [(5, ⟨some 43, none, .append 5 56 [.int .i64 0, .int .i64 0, .int .i64 0, .int .i64 0, .emp] (.t 40) (.t 42)⟩)],
  [(6, ⟨some 4, none, .mv (.t 43)⟩)],
  [(7, ⟨some 5, none, .mv (.c (.int .i64 0))⟩)]]
  [[], [], [0, 1], [], [3], [0, 1, 2, 3, 4], [0, 1, 2, 3, 4, 5], [0, 1, 2, 3, 4, 5, 6]])
 .ret)))
theorem d108 : FnD Tryz.prog 108 2 42 [.tmp 4, .tmp 5] c108 := ⟨Tryz.f108, _, Tryz.func108, by kernel_rfl, rfl, rfl, by kernel_rfl, by kernel_rfl⟩
end Go.Proofs.YtemjlopoffjmpaaGreat.Abs
set_option linter.unusedSimpArgs false
set_option linter.unusedVariables false
namespace Go.Proofs.YtemjlopoffjmpaaGreat.Abs
open Go Go.Proofs
theorem newL (H : AH) : C Tryz.prog 34 [] H (fun x H' => x = aset newA ∧ H' = H) := new_spec H
theorem addOk_iff (l : List Dset) (n : Int) : addOk l n = true ↔ l.length < 8 ∧ 1 ≤ n ∧ n ≤ 65535 ∧ (l.length = 0 ∨ (l.getD (l.length - 1) default).id < n) := by
 unfold addOk
 rw [Bool.and_eq_true, Bool.and_eq_true, Bool.and_eq_true, Bool.or_eq_true, decide_eq_true_eq, decide_eq_true_eq, decide_eq_true_eq, decide_eq_true_eq, decide_eq_true_eq, and_assoc, and_assoc]
theorem addOk_no {l : List Dset} {n : Int} (h : ¬ (l.length < 8 ∧ 1 ≤ n ∧ n ≤ 65535 ∧ (l.length = 0 ∨ (l.getD (l.length - 1) default).id < n))) : addOk l n = false :=
 Bool.eq_false_iff.2 fun e => h ((addOk_iff l n).1 e)
theorem more0 (l : List Dset) (hl : Short l) (x : Dset) (hx : x.files.length ≤ 1000000) :
 C Tryz.prog 108 [asets l, .agg (cellD x)] [] (fun y H' => y = outA (addA l x.id x) ∧ H' = []) := by
 have hl1 := hl.1
 refine C_body' d108 rfl (WT_ok ?_)
 unfold c108
 have hyes : addOk l x.id = true → outA (addA l x.id x) = .tuple [asets (l ++ [x]), .int .i64 0] := fun h => by
  have : addA l x.id x = (l ++ [{ x with id := x.id }], 0) := if_pos h
  rw [this]; rfl
 have hno : addOk l x.id = false → outA (addA l x.id x) = .tuple [asets l, .int .i64 8] := fun h => by
  have : addA l x.id x = (l, 8) := if_neg (by rw [h]; decide)
  rw [this]; rfl
 have hidd := rid68 x.id
 by_cases g1 : (8 : Int) ≤ (l.length : Int)
 ·have hn := hno (addOk_no (by omega))
  simp only [asets, cellD, aset, lay, wk3, wk, iaddrV_map, Nat.reduceAdd, Nat.reduceSub, Nat.reduceMul, Nat.reduceLeDiff, Nat.reduceEqDiff, Nat.reduceBEq, Int.reduceLE, Int.reduceLT, Int.reduceEq, Int.reduceNe, Int.reduceAdd, Int.reduceSub, Int.reduceToNat, Int.reduceNeg, ↓reduceIte, reduceCtorEq]
  refine WT_drawE ?_
  simp only [g1, lay, wk3, wk, iaddrV_map, Nat.reduceAdd, Nat.reduceSub, Nat.reduceMul, Nat.reduceLeDiff, Nat.reduceEqDiff, Nat.reduceBEq, Int.reduceLE, Int.reduceLT, Int.reduceEq, Int.reduceNe, Int.reduceAdd, Int.reduceSub, Int.reduceToNat, Int.reduceNeg, ↓reduceIte, reduceCtorEq]
  refine WDT_more 0 ?_
  simp only [g1, lay, wk3, wk, iaddrV_map, Nat.reduceAdd, Nat.reduceSub, Nat.reduceMul, Nat.reduceLeDiff, Nat.reduceEqDiff, Nat.reduceBEq, Int.reduceLE, Int.reduceLT, Int.reduceEq, Int.reduceNe, Int.reduceAdd, Int.reduceSub, Int.reduceToNat, Int.reduceNeg, ↓reduceIte, reduceCtorEq]
  refine ⟨by rfl, ?_⟩
  exact KWk_bare (by simp [bare, bareL]) ⟨by rw [hn]; rfl, rfl⟩
 by_cases g2 : x.id < 1
 ·have hn := hno (addOk_no (by omega))
  simp only [asets, cellD, aset, lay, wk3, wk, iaddrV_map, Nat.reduceAdd, Nat.reduceSub, Nat.reduceMul, Nat.reduceLeDiff, Nat.reduceEqDiff, Nat.reduceBEq, Int.reduceLE, Int.reduceLT, Int.reduceEq, Int.reduceNe, Int.reduceAdd, Int.reduceSub, Int.reduceToNat, Int.reduceNeg, ↓reduceIte, reduceCtorEq]
  refine WT_drawE ?_
  simp only [g1, g2, lay, wk3, wk, iaddrV_map, Nat.reduceAdd, Nat.reduceSub, Nat.reduceMul, Nat.reduceLeDiff, Nat.reduceEqDiff, Nat.reduceBEq, Int.reduceLE, Int.reduceLT, Int.reduceEq, Int.reduceNe, Int.reduceAdd, Int.reduceSub, Int.reduceToNat, Int.reduceNeg, ↓reduceIte, reduceCtorEq]
  refine WDT_more 0 ?_
  simp only [g1, g2, lay, wk3, wk, iaddrV_map, Nat.reduceAdd, Nat.reduceSub, Nat.reduceMul, Nat.reduceLeDiff, Nat.reduceEqDiff, Nat.reduceBEq, Int.reduceLE, Int.reduceLT, Int.reduceEq, Int.reduceNe, Int.reduceAdd, Int.reduceSub, Int.reduceToNat, Int.reduceNeg, ↓reduceIte, reduceCtorEq]
  refine ⟨by rfl, ?_⟩
  exact KWk_bare (by simp [bare, bareL]) ⟨by rw [hn]; rfl, rfl⟩
 by_cases g3 : x.id ≤ 65535
 case neg =>
  have hn := hno (addOk_no (by omega))
  have he : (decide (0 ≤ x.id) && decide (x.id ≤ 65535)) = false := by simp; omega
  simp only [he] at hidd
  simp only [asets, cellD, aset, lay, wk3, wk, iaddrV_map, Nat.reduceAdd, Nat.reduceSub, Nat.reduceMul, Nat.reduceLeDiff, Nat.reduceEqDiff, Nat.reduceBEq, Int.reduceLE, Int.reduceLT, Int.reduceEq, Int.reduceNe, Int.reduceAdd, Int.reduceSub, Int.reduceToNat, Int.reduceNeg, ↓reduceIte, reduceCtorEq]
  refine WT_drawE ?_
  simp only [g1, g2, lay, wk3, wk, iaddrV_map, Nat.reduceAdd, Nat.reduceSub, Nat.reduceMul, Nat.reduceLeDiff, Nat.reduceEqDiff, Nat.reduceBEq, Int.reduceLE, Int.reduceLT, Int.reduceEq, Int.reduceNe, Int.reduceAdd, Int.reduceSub, Int.reduceToNat, Int.reduceNeg, ↓reduceIte, reduceCtorEq]
  refine CT_ok (hidd _) ?_
  rintro _ _ ⟨rfl, rfl⟩
  simp only [g1, g2, lay, wk3, wk, iaddrV_map, Nat.reduceAdd, Nat.reduceSub, Nat.reduceMul, Nat.reduceLeDiff, Nat.reduceEqDiff, Nat.reduceBEq, Int.reduceLE, Int.reduceLT, Int.reduceEq, Int.reduceNe, Int.reduceAdd, Int.reduceSub, Int.reduceToNat, Int.reduceNeg, ↓reduceIte, reduceCtorEq]
  refine WDT_more 0 ?_
  simp only [g1, g2, lay, wk3, wk, iaddrV_map, Nat.reduceAdd, Nat.reduceSub, Nat.reduceMul, Nat.reduceLeDiff, Nat.reduceEqDiff, Nat.reduceBEq, Int.reduceLE, Int.reduceLT, Int.reduceEq, Int.reduceNe, Int.reduceAdd, Int.reduceSub, Int.reduceToNat, Int.reduceNeg, ↓reduceIte, reduceCtorEq]
  refine ⟨by rfl, ?_⟩
  exact KWk_bare (by simp [bare, bareL]) ⟨by rw [hn]; rfl, rfl⟩
 have he : (decide (0 ≤ x.id) && decide (x.id ≤ 65535)) = true := by simp; omega
 simp only [he] at hidd
 have hml : (l ++ [x]).length = l.length + 1 := by simp
 rcases Nat.eq_zero_or_pos l.length with h0 | h0
 ·have hn := hyes ((addOk_iff _ _).2 ⟨by omega, by omega, by omega, by omega⟩)
  have g4 : ¬ (0 : Int) < (l.length : Int) := by omega
  simp only [asets, cellD, aset, lay, wk3, wk, iaddrV_map, Nat.reduceAdd, Nat.reduceSub, Nat.reduceMul, Nat.reduceLeDiff, Nat.reduceEqDiff, Nat.reduceBEq, Int.reduceLE, Int.reduceLT, Int.reduceEq, Int.reduceNe, Int.reduceAdd, Int.reduceSub, Int.reduceToNat, Int.reduceNeg, ↓reduceIte, reduceCtorEq]
  refine WT_drawE ?_
  simp only [g1, g2, lay, wk3, wk, iaddrV_map, Nat.reduceAdd, Nat.reduceSub, Nat.reduceMul, Nat.reduceLeDiff, Nat.reduceEqDiff, Nat.reduceBEq, Int.reduceLE, Int.reduceLT, Int.reduceEq, Int.reduceNe, Int.reduceAdd, Int.reduceSub, Int.reduceToNat, Int.reduceNeg, ↓reduceIte, reduceCtorEq]
  refine CT_ok (hidd _) ?_
  rintro _ _ ⟨rfl, rfl⟩
  simp only [g1, g2, g4, lay, wk3, wk, iaddrV_map, Nat.reduceAdd, Nat.reduceSub, Nat.reduceMul, Nat.reduceLeDiff, Nat.reduceEqDiff, Nat.reduceBEq, Int.reduceLE, Int.reduceLT, Int.reduceEq, Int.reduceNe, Int.reduceAdd, Int.reduceSub, Int.reduceToNat, Int.reduceNeg, ↓reduceIte, reduceCtorEq]
  refine WDT_more 0 ?_
  simp only [g1, g2, g4, lay, wk3, wk, iaddrV_map, Nat.reduceAdd, Nat.reduceSub, Nat.reduceMul, Nat.reduceLeDiff, Nat.reduceEqDiff, Nat.reduceBEq, Int.reduceLE, Int.reduceLT, Int.reduceEq, Int.reduceNe, Int.reduceAdd, Int.reduceSub, Int.reduceToNat, Int.reduceNeg, ↓reduceIte, reduceCtorEq]
  refine ⟨by rfl, ?_⟩
  refine WT_drawE ?_
  refine WDT_more 2 ?_
  simp only [cellsD, rows5D, lay, wk3, wk, iaddrV_map, Nat.reduceAdd, Nat.reduceSub, Nat.reduceMul, Nat.reduceLeDiff, Nat.reduceEqDiff, Nat.reduceBEq, Int.reduceLE, Int.reduceLT, Int.reduceEq, Int.reduceNe, Int.reduceAdd, Int.reduceSub, Int.reduceToNat, Int.reduceNeg, ↓reduceIte, reduceCtorEq]
  refine ⟨by omega, ?_⟩
  simp only [ren, renL, cellsD, rows5D, lay, wk3, wk, iaddrV_map, Nat.reduceAdd, Nat.reduceSub, Nat.reduceMul, Nat.reduceLeDiff, Nat.reduceEqDiff, Nat.reduceBEq, Int.reduceLE, Int.reduceLT, Int.reduceEq, Int.reduceNe, Int.reduceAdd, Int.reduceSub, Int.reduceToNat, Int.reduceNeg, ↓reduceIte, reduceCtorEq]
  refine ⟨⟨by omega, by omega⟩, by omega, by omega, by rfl, ⟨by omega, by omega⟩, ?_⟩
  rw [hn]
  exact KWk_sets 1 (l ++ [x]) 0 _ (by simp) (by rw [List.map_append]; rfl) ⟨rfl, rfl⟩
 ·have w1 : IntKind.i64.wrap ((l.length : Int) - 1) = ((l.length - 1 : Nat) : Int) := by rw [IntWalk.i64_in _ (by omega)]; omega
  have g4 : (0 : Int) < (l.length : Int) := by omega
  have g6 : (0 : Int) ≤ ((l.length - 1 : Nat) : Int) := by omega
  have g7 : ((l.length - 1 : Nat) : Int) < (l.length : Int) := by omega
  simp only [asets, cellD, aset, lay, wk3, wk, iaddrV_map, Nat.reduceAdd, Nat.reduceSub, Nat.reduceMul, Nat.reduceLeDiff, Nat.reduceEqDiff, Nat.reduceBEq, Int.reduceLE, Int.reduceLT, Int.reduceEq, Int.reduceNe, Int.reduceAdd, Int.reduceSub, Int.reduceToNat, Int.reduceNeg, ↓reduceIte, reduceCtorEq]
  refine WT_drawE ?_
  simp only [g1, g2, lay, wk3, wk, iaddrV_map, Nat.reduceAdd, Nat.reduceSub, Nat.reduceMul, Nat.reduceLeDiff, Nat.reduceEqDiff, Nat.reduceBEq, Int.reduceLE, Int.reduceLT, Int.reduceEq, Int.reduceNe, Int.reduceAdd, Int.reduceSub, Int.reduceToNat, Int.reduceNeg, ↓reduceIte, reduceCtorEq]
  refine CT_ok (hidd _) ?_
  rintro _ _ ⟨rfl, rfl⟩
  simp only [g1, g2, g4, lay, wk3, wk, iaddrV_map, Nat.reduceAdd, Nat.reduceSub, Nat.reduceMul, Nat.reduceLeDiff, Nat.reduceEqDiff, Nat.reduceBEq, Int.reduceLE, Int.reduceLT, Int.reduceEq, Int.reduceNe, Int.reduceAdd, Int.reduceSub, Int.reduceToNat, Int.reduceNeg, ↓reduceIte, reduceCtorEq]
  refine WDT_more 0 ?_
  simp only [g1, g2, g4, g6, g7, w1, iaddr_dset, pdset, lay, wk3, wk, iaddrV_map, Nat.reduceAdd, Nat.reduceSub, Nat.reduceMul, Nat.reduceLeDiff, Nat.reduceEqDiff, Nat.reduceBEq, Int.reduceLE, Int.reduceLT, Int.reduceEq, Int.reduceNe, Int.reduceAdd, Int.reduceSub, Int.reduceToNat, Int.reduceNeg, ↓reduceIte, reduceCtorEq]
  refine ⟨by rfl, ?_⟩
  by_cases g5 : x.id ≤ (l.getD (l.length - 1) default).id
  ·have hn := hno (addOk_no (by omega))
   simp only [g5, lay, wk3, wk, iaddrV_map, Nat.reduceAdd, Nat.reduceSub, Nat.reduceMul, Nat.reduceLeDiff, Nat.reduceEqDiff, Nat.reduceBEq, Int.reduceLE, Int.reduceLT, Int.reduceEq, Int.reduceNe, Int.reduceAdd, Int.reduceSub, Int.reduceToNat, Int.reduceNeg, ↓reduceIte, reduceCtorEq]
   exact KWk_bare (by simp [bare, bareL]) ⟨by rw [hn]; rfl, rfl⟩
  ·have hn := hyes ((addOk_iff _ _).2 ⟨by omega, by omega, by omega, by omega⟩)
   simp only [g5, lay, wk3, wk, iaddrV_map, Nat.reduceAdd, Nat.reduceSub, Nat.reduceMul, Nat.reduceLeDiff, Nat.reduceEqDiff, Nat.reduceBEq, Int.reduceLE, Int.reduceLT, Int.reduceEq, Int.reduceNe, Int.reduceAdd, Int.reduceSub, Int.reduceToNat, Int.reduceNeg, ↓reduceIte, reduceCtorEq]
   refine WT_drawE ?_
   refine WDT_more 2 ?_
   simp only [cellsD, rows5D, lay, wk3, wk, iaddrV_map, Nat.reduceAdd, Nat.reduceSub, Nat.reduceMul, Nat.reduceLeDiff, Nat.reduceEqDiff, Nat.reduceBEq, Int.reduceLE, Int.reduceLT, Int.reduceEq, Int.reduceNe, Int.reduceAdd, Int.reduceSub, Int.reduceToNat, Int.reduceNeg, ↓reduceIte, reduceCtorEq]
   refine ⟨by omega, ?_⟩
   simp only [ren, renL, cellsD, rows5D, lay, wk3, wk, iaddrV_map, Nat.reduceAdd, Nat.reduceSub, Nat.reduceMul, Nat.reduceLeDiff, Nat.reduceEqDiff, Nat.reduceBEq, Int.reduceLE, Int.reduceLT, Int.reduceEq, Int.reduceNe, Int.reduceAdd, Int.reduceSub, Int.reduceToNat, Int.reduceNeg, ↓reduceIte, reduceCtorEq]
   refine ⟨⟨by omega, by omega⟩, by omega, by omega, by rfl, ⟨by omega, by omega⟩, ?_⟩
   rw [hn]
   exact KWk_sets 1 (l ++ [x]) 0 _ (by simp) (by rw [List.map_append]; rfl) ⟨rfl, rfl⟩
theorem moreL (l : List Dset) (hl : Short l) (x : Dset) (hx : x.files.length ≤ 1000000) (H : AH) :
 C Tryz.prog 108 [asets l, .agg (cellD x)] H (fun y H' => y = outA (addA l x.id x) ∧ H' = H) :=
 C_any (more0 l hl x hx) (by simp [bareL, bare, asets, cellD, aset]) (outA_bare _) H
theorem addA_id (l : List Dset) (n : Int) (x y : Dset) (h : ({ x with id := n } : Dset) = y) : addA l n x = addA l n y := by
 subst h; rfl
theorem rcreate0 (l : List Dset) (hl : Short l) (next q : Int) : C Tryz.prog 70 [asets l, .int .i64 next, .int .i64 q] [] (fun x H' => x = outA (createA l next q) ∧ H' = []) := by
 refine C_body' d70 rfl (WT_ok ?_)
 unfold c70 createA
 by_cases h1 : q < 0
 ·rw [if_pos (.inl h1)]
  simp only [h1, lay, wk3, wk, iaddrV_map, Nat.reduceAdd, Nat.reduceSub, Nat.reduceMul, Nat.reduceLeDiff, Nat.reduceEqDiff, Nat.reduceBEq, Int.reduceLE, Int.reduceLT, Int.reduceEq, Int.reduceNe, Int.reduceAdd, Int.reduceSub, Int.reduceToNat, Int.reduceNeg, ↓reduceIte, reduceCtorEq]
  exact KWk_bare (by simp [bare, bareL, asets]) ⟨rfl, rfl⟩
 by_cases h2 : 255 < q
 ·rw [if_pos (.inr h2)]
  simp only [h1, h2, lay, wk3, wk, iaddrV_map, Nat.reduceAdd, Nat.reduceSub, Nat.reduceMul, Nat.reduceLeDiff, Nat.reduceEqDiff, Nat.reduceBEq, Int.reduceLE, Int.reduceLT, Int.reduceEq, Int.reduceNe, Int.reduceAdd, Int.reduceSub, Int.reduceToNat, Int.reduceNeg, ↓reduceIte, reduceCtorEq]
  exact KWk_bare (by simp [bare, bareL, asets]) ⟨rfl, rfl⟩
 ·rw [if_neg (fun h => h.elim h1 h2), addA_id l next _ ⟨next, 1, 0, q, newA⟩ rfl]
  simp only [h1, h2, lay, wk3, wk, iaddrV_map, Nat.reduceAdd, Nat.reduceSub, Nat.reduceMul, Nat.reduceLeDiff, Nat.reduceEqDiff, Nat.reduceBEq, Int.reduceLE, Int.reduceLT, Int.reduceEq, Int.reduceNe, Int.reduceAdd, Int.reduceSub, Int.reduceToNat, Int.reduceNeg, ↓reduceIte, reduceCtorEq]
  refine CT_ok (newL _) ?_
  rintro _ _ ⟨rfl, rfl⟩
  simp only [aset, lay, wk3, wk, iaddrV_map, Nat.reduceAdd, Nat.reduceSub, Nat.reduceMul, Nat.reduceLeDiff, Nat.reduceEqDiff, Nat.reduceBEq, Int.reduceLE, Int.reduceLT, Int.reduceEq, Int.reduceNe, Int.reduceAdd, Int.reduceSub, Int.reduceToNat, Int.reduceNeg, ↓reduceIte, reduceCtorEq]
  refine CT_ok (moreL l hl ⟨next, 1, 0, q, newA⟩ (show newA.length ≤ 1000000 by decide) _) ?_
  rintro _ _ ⟨rfl, rfl⟩
  simp only [outA, lay, wk3, wk, iaddrV_map, Nat.reduceAdd, Nat.reduceSub, Nat.reduceMul, Nat.reduceLeDiff, Nat.reduceEqDiff, Nat.reduceBEq, Int.reduceLE, Int.reduceLT, Int.reduceEq, Int.reduceNe, Int.reduceAdd, Int.reduceSub, Int.reduceToNat, Int.reduceNeg, ↓reduceIte, reduceCtorEq]
  exact KWk_bare (by simp [bare, bareL, asets]) ⟨rfl, rfl⟩
theorem rsnap0 (l : List Dset) (hl : Short l) (next i : Int) : C Tryz.prog 71 [asets l, .int .i64 next, .int .i64 i] [] (fun x H' => x = outA (snapA l next i) ∧ H' = []) := by
 refine C_body' d71 rfl (WT_ok ?_)
 unfold c71
 simp only [lay, wk3, wk, iaddrV_map, Nat.reduceAdd, Nat.reduceSub, Nat.reduceMul, Nat.reduceLeDiff, Nat.reduceEqDiff, Nat.reduceBEq, Int.reduceLE, Int.reduceLT, Int.reduceEq, Int.reduceNe, Int.reduceAdd, Int.reduceSub, Int.reduceToNat, Int.reduceNeg, ↓reduceIte, reduceCtorEq]
 refine CT_ok (rgetL l hl.1 i _) ?_
 rintro _ _ ⟨rfl, rfl⟩
 cases hg : getA l i with
 | none =>
   have e : snapA l next i = (l, 2) := by unfold snapA; rw [hg]
   rw [e]
   simp only [getV, lay, wk3, wk, iaddrV_map, Nat.reduceAdd, Nat.reduceSub, Nat.reduceMul, Nat.reduceLeDiff, Nat.reduceEqDiff, Nat.reduceBEq, Int.reduceLE, Int.reduceLT, Int.reduceEq, Int.reduceNe, Int.reduceAdd, Int.reduceSub, Int.reduceToNat, Int.reduceNeg, ↓reduceIte, reduceCtorEq]
   exact KWk_bare (by simp [bare, bareL, asets]) ⟨rfl, rfl⟩
 | some d =>
   have hd := hl.2 d (getA_mem hg).1
   by_cases h2 : d.kind = 2
   ·have e : snapA l next i = (l, 11) := by unfold snapA; rw [hg]; exact if_pos h2
    rw [e]
    simp only [getV, h2, cellD, aset, lay, wk3, wk, iaddrV_map, Nat.reduceAdd, Nat.reduceSub, Nat.reduceMul, Nat.reduceLeDiff, Nat.reduceEqDiff, Nat.reduceBEq, Int.reduceLE, Int.reduceLT, Int.reduceEq, Int.reduceNe, Int.reduceAdd, Int.reduceSub, Int.reduceToNat, Int.reduceNeg, ↓reduceIte, reduceCtorEq]
    exact KWk_bare (by simp [bare, bareL, asets]) ⟨rfl, rfl⟩
   ·have e : snapA l next i = addA l next ⟨next, 2, i, 0, d.files⟩ := by unfold snapA; rw [hg]; exact (if_neg h2).trans (addA_id l next _ _ rfl)
    rw [e]
    simp only [getV, h2, cellD, aset, lay, wk3, wk, iaddrV_map, Nat.reduceAdd, Nat.reduceSub, Nat.reduceMul, Nat.reduceLeDiff, Nat.reduceEqDiff, Nat.reduceBEq, Int.reduceLE, Int.reduceLT, Int.reduceEq, Int.reduceNe, Int.reduceAdd, Int.reduceSub, Int.reduceToNat, Int.reduceNeg, ↓reduceIte, reduceCtorEq]
    refine CT_ok (moreL l hl ⟨next, 2, i, 0, d.files⟩ hd _) ?_
    rintro _ _ ⟨rfl, rfl⟩
    simp only [outA, lay, wk3, wk, iaddrV_map, Nat.reduceAdd, Nat.reduceSub, Nat.reduceMul, Nat.reduceLeDiff, Nat.reduceEqDiff, Nat.reduceBEq, Int.reduceLE, Int.reduceLT, Int.reduceEq, Int.reduceNe, Int.reduceAdd, Int.reduceSub, Int.reduceToNat, Int.reduceNeg, ↓reduceIte, reduceCtorEq]
    exact KWk_bare (by simp [bare, bareL, asets]) ⟨rfl, rfl⟩
theorem rclone0 (l : List Dset) (hl : Short l) (next i : Int) : C Tryz.prog 72 [asets l, .int .i64 next, .int .i64 i] [] (fun x H' => x = outA (cloneA l next i) ∧ H' = []) := by
 refine C_body' d72 rfl (WT_ok ?_)
 unfold c72
 simp only [lay, wk3, wk, iaddrV_map, Nat.reduceAdd, Nat.reduceSub, Nat.reduceMul, Nat.reduceLeDiff, Nat.reduceEqDiff, Nat.reduceBEq, Int.reduceLE, Int.reduceLT, Int.reduceEq, Int.reduceNe, Int.reduceAdd, Int.reduceSub, Int.reduceToNat, Int.reduceNeg, ↓reduceIte, reduceCtorEq]
 refine CT_ok (rgetL l hl.1 i _) ?_
 rintro _ _ ⟨rfl, rfl⟩
 cases hg : getA l i with
 | none =>
   have e : cloneA l next i = (l, 2) := by unfold cloneA; rw [hg]
   rw [e]
   simp only [getV, lay, wk3, wk, iaddrV_map, Nat.reduceAdd, Nat.reduceSub, Nat.reduceMul, Nat.reduceLeDiff, Nat.reduceEqDiff, Nat.reduceBEq, Int.reduceLE, Int.reduceLT, Int.reduceEq, Int.reduceNe, Int.reduceAdd, Int.reduceSub, Int.reduceToNat, Int.reduceNeg, ↓reduceIte, reduceCtorEq]
   exact KWk_bare (by simp [bare, bareL, asets]) ⟨rfl, rfl⟩
 | some d =>
   have hd := hl.2 d (getA_mem hg).1
   by_cases h2 : d.kind = 2
   ·have e : cloneA l next i = addA l next ⟨next, 1, i, 0, d.files⟩ := by unfold cloneA; rw [hg]; exact (if_pos h2).trans (addA_id l next _ _ rfl)
    rw [e]
    simp only [getV, h2, cellD, aset, lay, wk3, wk, iaddrV_map, Nat.reduceAdd, Nat.reduceSub, Nat.reduceMul, Nat.reduceLeDiff, Nat.reduceEqDiff, Nat.reduceBEq, Int.reduceLE, Int.reduceLT, Int.reduceEq, Int.reduceNe, Int.reduceAdd, Int.reduceSub, Int.reduceToNat, Int.reduceNeg, ↓reduceIte, reduceCtorEq]
    refine CT_ok (moreL l hl ⟨next, 1, i, 0, d.files⟩ hd _) ?_
    rintro _ _ ⟨rfl, rfl⟩
    simp only [outA, lay, wk3, wk, iaddrV_map, Nat.reduceAdd, Nat.reduceSub, Nat.reduceMul, Nat.reduceLeDiff, Nat.reduceEqDiff, Nat.reduceBEq, Int.reduceLE, Int.reduceLT, Int.reduceEq, Int.reduceNe, Int.reduceAdd, Int.reduceSub, Int.reduceToNat, Int.reduceNeg, ↓reduceIte, reduceCtorEq]
    exact KWk_bare (by simp [bare, bareL, asets]) ⟨rfl, rfl⟩
   ·have e : cloneA l next i = (l, 1) := by unfold cloneA; rw [hg]; exact if_neg h2
    rw [e]
    simp only [getV, h2, cellD, aset, lay, wk3, wk, iaddrV_map, Nat.reduceAdd, Nat.reduceSub, Nat.reduceMul, Nat.reduceLeDiff, Nat.reduceEqDiff, Nat.reduceBEq, Int.reduceLE, Int.reduceLT, Int.reduceEq, Int.reduceNe, Int.reduceAdd, Int.reduceSub, Int.reduceToNat, Int.reduceNeg, ↓reduceIte, reduceCtorEq]
    exact KWk_bare (by simp [bare, bareL, asets]) ⟨rfl, rfl⟩
end Go.Proofs.YtemjlopoffjmpaaGreat.Abs
set_option linter.unusedSimpArgs false
set_option linter.unusedVariables false
namespace Go.Proofs.YtemjlopoffjmpaaGreat.Abs
open Go Go.Proofs
def StepR (l : List UInt8) (n : Int) (x : AV) (H' : AH) : Prop := ∃ (k i m n' : Int) (p q t : List UInt8), p.length ≤ 1000000 ∧ q.length ≤ 1000000 ∧ t.length ≤ 1000000 ∧ (n ≤ n' ∧ 1 ≤ k ∧ (k ≤ 5 ∨ 9 ≤ k) ∧ k ≤ 14) ∧ x = editA k i m p q t ∧ H' = picksH l n'
theorem KWk_step {l : List UInt8} {n k i m n' : Int} {p q t : List UInt8} {R : AH} (hp : p.length ≤ 1000000) (hq : q.length ≤ 1000000) (ht : t.length ≤ 1000000) (hn : n ≤ n' ∧ 1 ≤ k ∧ (k ≤ 5 ∨ 9 ≤ k) ∧ k ≤ 14) :
 KWk 1 (StepR l n) (.agg [.int .i64 k, .int .i64 i, .int .i64 m, .int .i64 0, .int .i64 0, .str p, .str q, .str t, .emp]) (some [[.fz (l.map pbyte), .int .i64 n']] :: R) := by
 refine ⟨_, _, ?_, k, i, m, n', p, q, t, hp, hq, ht, hn, rfl, rfl⟩
 have h := Wk_forget (n0 := 1) (fr := [editA k i m p q t]) (H := some [[.fz (l.map pbyte), .int .i64 n']] :: R) 1 (Nat.le_refl _)
 simpa [mapH, renL, ren, editA, picksH] using h
theorem set45 (l : List UInt8) (n i : Int) (hn : 0 ≤ n) (hl : l.length ≤ 1000000) :
 C Tryz.prog 45 [.ptr 0 0 0 1, .int .i64 i] (picksH l n) (StepR l n) := by
 refine C_body' d45 rfl (WT_ok ?_)
 unfold c45
 simp only [picksH, lay, iaddr_node, pnode, wk3, wk, seval]
 refine CT_ok (num_at l n 6 (by omega) hl _) ?_
 rintro _ H ⟨m, n1, rfl, k1, k2, k3, k4, _, rfl⟩
 have g1 : m < 6 := k2 (by omega)
 have w1 : IntKind.i64.wrap (9 + m) = 9 + m := IntWalk.i64_in _ (by omega)
 simp only [w1, lay, iaddr_node, pnode, wk3, wk, seval]
 by_cases v9 : 9 + m = 9
 ·simp only [v9, lay, iaddr_node, pnode, wk3, wk, seval]
  refine CT_ok (num_at l n1 9 (by omega) hl _) ?_
  rintro _ H ⟨m2, n2, rfl, j1, j2, j3, j4, _, rfl⟩
  simp only [lay, iaddr_node, pnode, wk3, wk, seval]
  exact KWk_step (by simp) (by simp) (by simp) (by omega)
 by_cases v13 : 9 + m = 13
 ·simp only [v13, lay, iaddr_node, pnode, wk3, wk, seval]
  refine CT_ok (num_at l n1 8 (by omega) hl _) ?_
  rintro _ H ⟨m2, n2, rfl, j1, j2, j3, j4, _, rfl⟩
  have w2 : IntKind.i64.wrap (1 + m2) = 1 + m2 := IntWalk.i64_in _ (by omega)
  simp only [w2, lay, iaddr_node, pnode, wk3, wk, seval]
  exact KWk_step (by simp) (by simp) (by simp) (by omega)
 ·simp only [v9, v13, lay, iaddr_node, pnode, wk3, wk, seval]
  exact KWk_step (by simp) (by simp) (by simp) (by omega)
def poolC (nx : Int) (v : AV) : List AV := [.emp, .emp, .int .i64 0, .int .i64 0, .bool false, .int .i64 0, .int .i64 0, .int .u32 0, .int .u32 0, .int .u32 0, .int .u32 0, .int .i64 0, .int .i64 nx, .int .i64 0, .int .i64 0, .int .i64 0, .int .u32 0, .int .u32 0, .int .u32 0, .int .u32 0, .int .i64 0, .int .i64 0, .int .u32 0, .int .u32 0, .int .u32 0, .int .u32 0, .int .i64 0, .int .i64 0, .int .u32 0, .int .u32 0, .int .u32 0, .int .u32 0, .int .i64 0, .emp, .emp, .emp, .emp, .int .i64 0, .int .i64 0, v, .bool false]
def ansC (e m : Int) : List AV := [.int .i64 e, .str [], .int .i64 0, .int .i64 0, .int .i64 0, .int .i64 0, .emp, .int .i64 m]
def toldA (nx : Int) (l : List Dset) (e m : Int) : AV := .tuple [.agg (poolC nx (asets l)), .agg (ansC e m)]
theorem told_bare (nx : Int) (l : List Dset) (e m : Int) : bare (toldA nx l e m) = true := by simp [toldA, poolC, ansC, bare, bareL, asets]
theorem tells86 (nx : Int) (l : List Dset) (e : Int) (H : AH) : C Tryz.prog 86 [.agg (poolC nx (asets l)), .int .i64 e] H (fun x H' => x = toldA nx l e 0 ∧ H' = H) := by
 refine C_any ?_ (by simp [bareL, bare, asets, poolC]) (told_bare _ _ _ _) H
 refine C_body' d86 rfl (WT_ok ?_)
 unfold c86
 simp only [poolC, asets, lay, slicelV_own, slicelV_fz, onLive_some, RT_slicel, RE_slicel, slice3V_eq, room3_some, roomOf_own, roomOf_fz, RT_slice3, RT_calld, apI_some, clC_some, clearV_own, clearV_fz, wk3, wk, iaddrV_map, seval]
 exact KWk_bare (by simp [bare, bareL]) ⟨rfl, rfl⟩
theorem changes87 (k : Int) (hk : k ≤ 5 ∨ 9 ≤ k) (hk2 : k ≤ 14) (H : AH) : C Tryz.prog 87 [.int .i64 k] H (fun x H' => x = .bool true ∧ H' = H) := by
 refine C_body d87 rfl (WT_ok ?_)
 unfold c87
 have h6 : ¬ k = 6 := by omega
 have h7 : ¬ k = 7 := by omega
 have h8 : ¬ k = 8 := by omega
 have h17 : k ≤ 17 := by omega
 simp only [h6, h7, h8, h17, lay, slicelV_own, slicelV_fz, onLive_some, RT_slicel, RE_slicel, slice3V_eq, room3_some, roomOf_own, roomOf_fz, RT_slice3, RT_calld, apI_some, clC_some, clearV_own, clearV_fz, wk3, wk, iaddrV_map, seval]
end Go.Proofs.YtemjlopoffjmpaaGreat.Abs
set_option linter.unusedSimpArgs false
set_option linter.unusedVariables false
namespace Go.Proofs.YtemjlopoffjmpaaGreat.Abs
open Go Go.Proofs
theorem filesA_may {l : List Dset} (h : MayL l) (i : Int) {s : List Node} (hs : Wf s) : MayL (filesA l i s).1 ∧ (filesA l i s).1.length = l.length := by
 unfold filesA
 cases hg : getA l i with
 | none => exact ⟨h, rfl⟩
 | some d =>
   simp only
   split
   ·exact ⟨h, rfl⟩
   ·split
    ·exact ⟨h, rfl⟩
    ·refine ⟨?_, List.length_set⟩
     rcases find_of (l := l) (i := i) with ⟨e, _⟩ | ⟨k, e, hk, hid, _⟩
     ·rw [getA_no e] at hg; cases hg
     rw [getA_of e] at hg
     have hd := Option.some.inj hg
     rw [e, Int.toNat_natCast, ← hd]
     show MayL (l.set k _)
     rw [set_map h hk (fun d => { d with files := s })]
     obtain ⟨r, hr⟩ := h.tree
     refine h.map _ (fun d _ => by split <;> rfl) (fun d _ => by split <;> rfl) (fun d _ => by split <;> rfl) (fun d hd => ?_) (fun d hd e => ?_) (fun d hd e => ?_) r (fun d hd o ho e => ?_)
     ·split
      ·exact hs
      ·exact (h.each d hd).files
     ·have := ((h.each d hd).snap e).2
      split <;> exact this
     ·have := (h.each d hd).live e
      split <;> exact this
     ·have : o.id = d.origin := by
       rw [e]; split <;> rfl
      exact hr d hd o ho this
theorem filesL (l : List Dset) (hl : Short l) (i : Int) (s : List Node) (hs : s.length ≤ 1000000) (H : AH) :
 C Tryz.prog 17 [asets l, .int .i64 i, aset s] H (fun y H' => y = outA (filesA l i s) ∧ H' = H) :=
 C_any (filesA0 l hl i s hs) (by simp [bareL, bare, asets, aset]) (outA_bare _) H
def StepN (nx nx' : Int) (l l' : List Dset) : Prop := (l ≠ [] → l' ≠ []) ∧ ((∀ d ∈ l, d.id < nx) → ∀ d ∈ l', d.id < nx')
theorem StepN.refl (nx : Int) (l : List Dset) : StepN nx nx l l := ⟨fun h => h, fun h => h⟩
theorem filesA_ids {l : List Dset} (i : Int) (s : List Node) {nx : Int} (h : ∀ d ∈ l, d.id < nx) : ∀ d ∈ (filesA l i s).1, d.id < nx := by
 unfold filesA
 cases hg : getA l i with
 | none => exact h
 | some d =>
   simp only
   split
   ·exact h
   ·split
    ·exact h
    ·intro x hx
     rcases List.mem_or_eq_of_mem_set hx with hx | rfl
     ·exact h x hx
     ·exact h d (getA_mem hg).1
def PoolR (nx : Int) (l : List Dset) (y : AV) : Prop := ∃ (l' : List Dset) (nx' e m : Int), MayL l' ∧ StepN nx nx' l l' ∧ nx ≤ nx' ∧ nx' ≤ nx + 1 ∧ y = toldA nx' l' e m
theorem PoolR.bare {nx : Int} {l : List Dset} {y : AV} (h : PoolR nx l y) : bare y = true := by
 obtain ⟨l', nx', e, m, _, _, _, _, rfl⟩ := h
 exact told_bare _ _ _ _
set_option maxHeartbeats 2000000 in
theorem files88_0 (l : List Dset) (hM : MayL l) (nx k i m : Int) (hk : 1 ≤ k ∧ k ≤ 5) (p q t : List UInt8) (hp : p.length ≤ 1000000) (hq : q.length ≤ 1000000) (ht : t.length ≤ 1000000) :
 C Tryz.prog 88 [.agg (poolC nx (asets l)), editA k i m p q t] [] (fun y H' => PoolR nx l y ∧ H' = []) := by
 have hl := hM.short
 have told : ∀ e : Int, PoolR nx l (toldA nx l e 0) := fun e => ⟨l, nx, e, 0, hM, StepN.refl _ _, Int.le_refl _, by omega, rfl⟩
 have put : ∀ u, Wf u → PoolR nx l (toldA nx (filesA l i u).1 (filesA l i u).2 0) := fun u hu => by
  obtain ⟨h1, h2⟩ := filesA_may hM i hu
  exact ⟨_, nx, _, 0, h1, ⟨fun h e => h (List.length_eq_zero_iff.1 (by rw [← h2, e]; rfl)), filesA_ids i u⟩, Int.le_refl _, by omega, rfl⟩
 refine C_body' d88 rfl (WT_ok ?_)
 unfold c88
 simp only [poolC, editA, asets, lay, iaddr_node, pnode, wk3, wk, Nat.reduceAdd, Nat.reduceSub, Nat.reduceMul, Nat.reduceLeDiff, Nat.reduceEqDiff, Nat.reduceBEq, Int.reduceLE, Int.reduceLT, Int.reduceEq, Int.reduceNe, Int.reduceAdd, Int.reduceSub, Int.reduceToNat, Int.reduceNeg, ↓reduceIte, reduceCtorEq]
 refine CT_ok (rgetL l hl.1 i _) ?_
 rintro _ _ ⟨rfl, rfl⟩
 cases hg : getA l i with
 | none =>
   simp only [getV, lay, iaddr_node, pnode, wk3, wk, Nat.reduceAdd, Nat.reduceSub, Nat.reduceMul, Nat.reduceLeDiff, Nat.reduceEqDiff, Nat.reduceBEq, Int.reduceLE, Int.reduceLT, Int.reduceEq, Int.reduceNe, Int.reduceAdd, Int.reduceSub, Int.reduceToNat, Int.reduceNeg, ↓reduceIte, reduceCtorEq]
   refine CT_ok (tells86 nx l 2 _) ?_
   rintro _ _ ⟨rfl, rfl⟩
   simp only [toldA, poolC, ansC, asets, lay, iaddr_node, pnode, wk3, wk, Nat.reduceAdd, Nat.reduceSub, Nat.reduceMul, Nat.reduceLeDiff, Nat.reduceEqDiff, Nat.reduceBEq, Int.reduceLE, Int.reduceLT, Int.reduceEq, Int.reduceNe, Int.reduceAdd, Int.reduceSub, Int.reduceToNat, Int.reduceNeg, ↓reduceIte, reduceCtorEq]
   exact KWk_bare (told_bare nx l 2 0) ⟨told 2, rfl⟩
 | some d =>
 have hd := hM.each d (getA_mem hg).1
 simp only [getV, cellD, aset, lay, iaddr_node, pnode, wk3, wk, Nat.reduceAdd, Nat.reduceSub, Nat.reduceMul, Nat.reduceLeDiff, Nat.reduceEqDiff, Nat.reduceBEq, Int.reduceLE, Int.reduceLT, Int.reduceEq, Int.reduceNe, Int.reduceAdd, Int.reduceSub, Int.reduceToNat, Int.reduceNeg, ↓reduceIte, reduceCtorEq]
 refine CT_ok (changes87 k (by omega) (by omega) _) ?_
 rintro _ _ ⟨rfl, rfl⟩
 by_cases h2 : d.kind = 2
 ·simp only [h2, lay, iaddr_node, pnode, wk3, wk, Nat.reduceAdd, Nat.reduceSub, Nat.reduceMul, Nat.reduceLeDiff, Nat.reduceEqDiff, Nat.reduceBEq, Int.reduceLE, Int.reduceLT, Int.reduceEq, Int.reduceNe, Int.reduceAdd, Int.reduceSub, Int.reduceToNat, Int.reduceNeg, ↓reduceIte, reduceCtorEq]
  refine CT_ok (tells86 nx l 11 _) ?_
  rintro _ _ ⟨rfl, rfl⟩
  simp only [toldA, poolC, ansC, asets, lay, iaddr_node, pnode, wk3, wk, Nat.reduceAdd, Nat.reduceSub, Nat.reduceMul, Nat.reduceLeDiff, Nat.reduceEqDiff, Nat.reduceBEq, Int.reduceLE, Int.reduceLT, Int.reduceEq, Int.reduceNe, Int.reduceAdd, Int.reduceSub, Int.reduceToNat, Int.reduceNeg, ↓reduceIte, reduceCtorEq]
  exact KWk_bare (told_bare nx l 11 0) ⟨told 11, rfl⟩
 by_cases h_1 : k = 1
 ·simp only [h2, h_1, lay, iaddr_node, pnode, wk3, wk, Nat.reduceAdd, Nat.reduceSub, Nat.reduceMul, Nat.reduceLeDiff, Nat.reduceEqDiff, Nat.reduceBEq, Int.reduceLE, Int.reduceLT, Int.reduceEq, Int.reduceNe, Int.reduceAdd, Int.reduceSub, Int.reduceToNat, Int.reduceNeg, ↓reduceIte, reduceCtorEq]
  refine CT_ok (make_next (parts_loose p hp) (fun _ h => h) d.files hd.files m _) ?_
  rintro _ _ ⟨rfl, u, e, hu, rfl⟩
  by_cases he : e = 0
  ·simp only [aset, he, lay, iaddr_node, pnode, wk3, wk, Nat.reduceAdd, Nat.reduceSub, Nat.reduceMul, Nat.reduceLeDiff, Nat.reduceEqDiff, Nat.reduceBEq, Int.reduceLE, Int.reduceLT, Int.reduceEq, Int.reduceNe, Int.reduceAdd, Int.reduceSub, Int.reduceToNat, Int.reduceNeg, ↓reduceIte, reduceCtorEq]
   refine CT_ok (filesL l hl i u (by have := hu.len; omega) _) ?_
   rintro _ _ ⟨rfl, rfl⟩
   simp only [outA, asets, lay, iaddr_node, pnode, wk3, wk, Nat.reduceAdd, Nat.reduceSub, Nat.reduceMul, Nat.reduceLeDiff, Nat.reduceEqDiff, Nat.reduceBEq, Int.reduceLE, Int.reduceLT, Int.reduceEq, Int.reduceNe, Int.reduceAdd, Int.reduceSub, Int.reduceToNat, Int.reduceNeg, ↓reduceIte, reduceCtorEq]
   refine WT_drawE ?_
   refine WDT_more 0 ?_
   simp only [lay, iaddr_node, pnode, wk3, wk, Nat.reduceAdd, Nat.reduceSub, Nat.reduceMul, Nat.reduceLeDiff, Nat.reduceEqDiff, Nat.reduceBEq, Int.reduceLE, Int.reduceLT, Int.reduceEq, Int.reduceNe, Int.reduceAdd, Int.reduceSub, Int.reduceToNat, Int.reduceNeg, ↓reduceIte, reduceCtorEq]
   refine ⟨by omega, by rfl, ?_⟩
   exact KWk_bare (told_bare nx (filesA l i u).1 (filesA l i u).2 0) ⟨put u hu, rfl⟩
  ·simp only [aset, he, lay, iaddr_node, pnode, wk3, wk, Nat.reduceAdd, Nat.reduceSub, Nat.reduceMul, Nat.reduceLeDiff, Nat.reduceEqDiff, Nat.reduceBEq, Int.reduceLE, Int.reduceLT, Int.reduceEq, Int.reduceNe, Int.reduceAdd, Int.reduceSub, Int.reduceToNat, Int.reduceNeg, ↓reduceIte, reduceCtorEq]
   refine CT_ok (tells86 nx l e _) ?_
   rintro _ _ ⟨rfl, rfl⟩
   simp only [toldA, poolC, ansC, asets, lay, iaddr_node, pnode, wk3, wk, Nat.reduceAdd, Nat.reduceSub, Nat.reduceMul, Nat.reduceLeDiff, Nat.reduceEqDiff, Nat.reduceBEq, Int.reduceLE, Int.reduceLT, Int.reduceEq, Int.reduceNe, Int.reduceAdd, Int.reduceSub, Int.reduceToNat, Int.reduceNeg, ↓reduceIte, reduceCtorEq]
   exact KWk_bare (told_bare nx l e 0) ⟨told e, rfl⟩
 by_cases h_2 : k = 2
 ·simp only [h2, h_2, lay, iaddr_node, pnode, wk3, wk, Nat.reduceAdd, Nat.reduceSub, Nat.reduceMul, Nat.reduceLeDiff, Nat.reduceEqDiff, Nat.reduceBEq, Int.reduceLE, Int.reduceLT, Int.reduceEq, Int.reduceNe, Int.reduceAdd, Int.reduceSub, Int.reduceToNat, Int.reduceNeg, ↓reduceIte, reduceCtorEq]
  refine CT_ok (drop_spec (parts_loose p hp) d.files hd.files _) ?_
  rintro _ _ ⟨rfl, u, e, hu, rfl⟩
  by_cases he : e = 0
  ·simp only [aset, he, lay, iaddr_node, pnode, wk3, wk, Nat.reduceAdd, Nat.reduceSub, Nat.reduceMul, Nat.reduceLeDiff, Nat.reduceEqDiff, Nat.reduceBEq, Int.reduceLE, Int.reduceLT, Int.reduceEq, Int.reduceNe, Int.reduceAdd, Int.reduceSub, Int.reduceToNat, Int.reduceNeg, ↓reduceIte, reduceCtorEq]
   refine CT_ok (filesL l hl i u (by have := hu.len; omega) _) ?_
   rintro _ _ ⟨rfl, rfl⟩
   simp only [outA, asets, lay, iaddr_node, pnode, wk3, wk, Nat.reduceAdd, Nat.reduceSub, Nat.reduceMul, Nat.reduceLeDiff, Nat.reduceEqDiff, Nat.reduceBEq, Int.reduceLE, Int.reduceLT, Int.reduceEq, Int.reduceNe, Int.reduceAdd, Int.reduceSub, Int.reduceToNat, Int.reduceNeg, ↓reduceIte, reduceCtorEq]
   refine WT_drawE ?_
   refine WDT_more 0 ?_
   simp only [lay, iaddr_node, pnode, wk3, wk, Nat.reduceAdd, Nat.reduceSub, Nat.reduceMul, Nat.reduceLeDiff, Nat.reduceEqDiff, Nat.reduceBEq, Int.reduceLE, Int.reduceLT, Int.reduceEq, Int.reduceNe, Int.reduceAdd, Int.reduceSub, Int.reduceToNat, Int.reduceNeg, ↓reduceIte, reduceCtorEq]
   refine ⟨by omega, by rfl, ?_⟩
   exact KWk_bare (told_bare nx (filesA l i u).1 (filesA l i u).2 0) ⟨put u hu, rfl⟩
  ·simp only [aset, he, lay, iaddr_node, pnode, wk3, wk, Nat.reduceAdd, Nat.reduceSub, Nat.reduceMul, Nat.reduceLeDiff, Nat.reduceEqDiff, Nat.reduceBEq, Int.reduceLE, Int.reduceLT, Int.reduceEq, Int.reduceNe, Int.reduceAdd, Int.reduceSub, Int.reduceToNat, Int.reduceNeg, ↓reduceIte, reduceCtorEq]
   refine CT_ok (tells86 nx l e _) ?_
   rintro _ _ ⟨rfl, rfl⟩
   simp only [toldA, poolC, ansC, asets, lay, iaddr_node, pnode, wk3, wk, Nat.reduceAdd, Nat.reduceSub, Nat.reduceMul, Nat.reduceLeDiff, Nat.reduceEqDiff, Nat.reduceBEq, Int.reduceLE, Int.reduceLT, Int.reduceEq, Int.reduceNe, Int.reduceAdd, Int.reduceSub, Int.reduceToNat, Int.reduceNeg, ↓reduceIte, reduceCtorEq]
   exact KWk_bare (told_bare nx l e 0) ⟨told e, rfl⟩
 by_cases h_3 : k = 3
 ·simp only [h2, h_3, lay, iaddr_node, pnode, wk3, wk, Nat.reduceAdd, Nat.reduceSub, Nat.reduceMul, Nat.reduceLeDiff, Nat.reduceEqDiff, Nat.reduceBEq, Int.reduceLE, Int.reduceLT, Int.reduceEq, Int.reduceNe, Int.reduceAdd, Int.reduceSub, Int.reduceToNat, Int.reduceNeg, ↓reduceIte, reduceCtorEq]
  refine CT_ok (move_spec (parts_loose p hp) (parts_loose q hq) (fun _ h => h) d.files hd.files _) ?_
  rintro _ _ ⟨rfl, u, e, hu, rfl⟩
  by_cases he : e = 0
  ·simp only [aset, he, lay, iaddr_node, pnode, wk3, wk, Nat.reduceAdd, Nat.reduceSub, Nat.reduceMul, Nat.reduceLeDiff, Nat.reduceEqDiff, Nat.reduceBEq, Int.reduceLE, Int.reduceLT, Int.reduceEq, Int.reduceNe, Int.reduceAdd, Int.reduceSub, Int.reduceToNat, Int.reduceNeg, ↓reduceIte, reduceCtorEq]
   refine CT_ok (filesL l hl i u (by have := hu.len; omega) _) ?_
   rintro _ _ ⟨rfl, rfl⟩
   simp only [outA, asets, lay, iaddr_node, pnode, wk3, wk, Nat.reduceAdd, Nat.reduceSub, Nat.reduceMul, Nat.reduceLeDiff, Nat.reduceEqDiff, Nat.reduceBEq, Int.reduceLE, Int.reduceLT, Int.reduceEq, Int.reduceNe, Int.reduceAdd, Int.reduceSub, Int.reduceToNat, Int.reduceNeg, ↓reduceIte, reduceCtorEq]
   refine WT_drawE ?_
   refine WDT_more 0 ?_
   simp only [lay, iaddr_node, pnode, wk3, wk, Nat.reduceAdd, Nat.reduceSub, Nat.reduceMul, Nat.reduceLeDiff, Nat.reduceEqDiff, Nat.reduceBEq, Int.reduceLE, Int.reduceLT, Int.reduceEq, Int.reduceNe, Int.reduceAdd, Int.reduceSub, Int.reduceToNat, Int.reduceNeg, ↓reduceIte, reduceCtorEq]
   refine ⟨by omega, by rfl, ?_⟩
   exact KWk_bare (told_bare nx (filesA l i u).1 (filesA l i u).2 0) ⟨put u hu, rfl⟩
  ·simp only [aset, he, lay, iaddr_node, pnode, wk3, wk, Nat.reduceAdd, Nat.reduceSub, Nat.reduceMul, Nat.reduceLeDiff, Nat.reduceEqDiff, Nat.reduceBEq, Int.reduceLE, Int.reduceLT, Int.reduceEq, Int.reduceNe, Int.reduceAdd, Int.reduceSub, Int.reduceToNat, Int.reduceNeg, ↓reduceIte, reduceCtorEq]
   refine CT_ok (tells86 nx l e _) ?_
   rintro _ _ ⟨rfl, rfl⟩
   simp only [toldA, poolC, ansC, asets, lay, iaddr_node, pnode, wk3, wk, Nat.reduceAdd, Nat.reduceSub, Nat.reduceMul, Nat.reduceLeDiff, Nat.reduceEqDiff, Nat.reduceBEq, Int.reduceLE, Int.reduceLT, Int.reduceEq, Int.reduceNe, Int.reduceAdd, Int.reduceSub, Int.reduceToNat, Int.reduceNeg, ↓reduceIte, reduceCtorEq]
   exact KWk_bare (told_bare nx l e 0) ⟨told e, rfl⟩
 by_cases h_4 : k = 4
 ·simp only [h2, h_4, lay, iaddr_node, pnode, wk3, wk, Nat.reduceAdd, Nat.reduceSub, Nat.reduceMul, Nat.reduceLeDiff, Nat.reduceEqDiff, Nat.reduceBEq, Int.reduceLE, Int.reduceLT, Int.reduceEq, Int.reduceNe, Int.reduceAdd, Int.reduceSub, Int.reduceToNat, Int.reduceNeg, ↓reduceIte, reduceCtorEq]
  refine CT_ok (write_next (parts_loose p hp) d.files hd.files m t (by omega) _) ?_
  rintro _ _ ⟨rfl, u, e, hu, rfl⟩
  by_cases he : e = 0
  ·simp only [aset, he, lay, iaddr_node, pnode, wk3, wk, Nat.reduceAdd, Nat.reduceSub, Nat.reduceMul, Nat.reduceLeDiff, Nat.reduceEqDiff, Nat.reduceBEq, Int.reduceLE, Int.reduceLT, Int.reduceEq, Int.reduceNe, Int.reduceAdd, Int.reduceSub, Int.reduceToNat, Int.reduceNeg, ↓reduceIte, reduceCtorEq]
   refine CT_ok (filesL l hl i u (by have := hu.len; omega) _) ?_
   rintro _ _ ⟨rfl, rfl⟩
   simp only [outA, asets, lay, iaddr_node, pnode, wk3, wk, Nat.reduceAdd, Nat.reduceSub, Nat.reduceMul, Nat.reduceLeDiff, Nat.reduceEqDiff, Nat.reduceBEq, Int.reduceLE, Int.reduceLT, Int.reduceEq, Int.reduceNe, Int.reduceAdd, Int.reduceSub, Int.reduceToNat, Int.reduceNeg, ↓reduceIte, reduceCtorEq]
   refine WT_drawE ?_
   refine WDT_more 0 ?_
   simp only [lay, iaddr_node, pnode, wk3, wk, Nat.reduceAdd, Nat.reduceSub, Nat.reduceMul, Nat.reduceLeDiff, Nat.reduceEqDiff, Nat.reduceBEq, Int.reduceLE, Int.reduceLT, Int.reduceEq, Int.reduceNe, Int.reduceAdd, Int.reduceSub, Int.reduceToNat, Int.reduceNeg, ↓reduceIte, reduceCtorEq]
   refine ⟨by omega, by rfl, ?_⟩
   exact KWk_bare (told_bare nx (filesA l i u).1 (filesA l i u).2 0) ⟨put u hu, rfl⟩
  ·simp only [aset, he, lay, iaddr_node, pnode, wk3, wk, Nat.reduceAdd, Nat.reduceSub, Nat.reduceMul, Nat.reduceLeDiff, Nat.reduceEqDiff, Nat.reduceBEq, Int.reduceLE, Int.reduceLT, Int.reduceEq, Int.reduceNe, Int.reduceAdd, Int.reduceSub, Int.reduceToNat, Int.reduceNeg, ↓reduceIte, reduceCtorEq]
   refine CT_ok (tells86 nx l e _) ?_
   rintro _ _ ⟨rfl, rfl⟩
   simp only [toldA, poolC, ansC, asets, lay, iaddr_node, pnode, wk3, wk, Nat.reduceAdd, Nat.reduceSub, Nat.reduceMul, Nat.reduceLeDiff, Nat.reduceEqDiff, Nat.reduceBEq, Int.reduceLE, Int.reduceLT, Int.reduceEq, Int.reduceNe, Int.reduceAdd, Int.reduceSub, Int.reduceToNat, Int.reduceNeg, ↓reduceIte, reduceCtorEq]
   exact KWk_bare (told_bare nx l e 0) ⟨told e, rfl⟩
 have h_5 : k = 5 := by omega
 ·simp only [h2, h_1, h_2, h_3, h_4, h_5, lay, iaddr_node, pnode, wk3, wk, Nat.reduceAdd, Nat.reduceSub, Nat.reduceMul, Nat.reduceLeDiff, Nat.reduceEqDiff, Nat.reduceBEq, Int.reduceLE, Int.reduceLT, Int.reduceEq, Int.reduceNe, Int.reduceAdd, Int.reduceSub, Int.reduceToNat, Int.reduceNeg, ↓reduceIte, reduceCtorEq]
  refine CT_ok (cut_spec (parts_loose p hp) d.files hd.files m _) ?_
  rintro _ _ ⟨rfl, u, e, hu, rfl⟩
  by_cases he : e = 0
  ·simp only [aset, he, lay, iaddr_node, pnode, wk3, wk, Nat.reduceAdd, Nat.reduceSub, Nat.reduceMul, Nat.reduceLeDiff, Nat.reduceEqDiff, Nat.reduceBEq, Int.reduceLE, Int.reduceLT, Int.reduceEq, Int.reduceNe, Int.reduceAdd, Int.reduceSub, Int.reduceToNat, Int.reduceNeg, ↓reduceIte, reduceCtorEq]
   refine CT_ok (filesL l hl i u (by have := hu.len; omega) _) ?_
   rintro _ _ ⟨rfl, rfl⟩
   simp only [outA, asets, lay, iaddr_node, pnode, wk3, wk, Nat.reduceAdd, Nat.reduceSub, Nat.reduceMul, Nat.reduceLeDiff, Nat.reduceEqDiff, Nat.reduceBEq, Int.reduceLE, Int.reduceLT, Int.reduceEq, Int.reduceNe, Int.reduceAdd, Int.reduceSub, Int.reduceToNat, Int.reduceNeg, ↓reduceIte, reduceCtorEq]
   refine WT_drawE ?_
   refine WDT_more 0 ?_
   simp only [lay, iaddr_node, pnode, wk3, wk, Nat.reduceAdd, Nat.reduceSub, Nat.reduceMul, Nat.reduceLeDiff, Nat.reduceEqDiff, Nat.reduceBEq, Int.reduceLE, Int.reduceLT, Int.reduceEq, Int.reduceNe, Int.reduceAdd, Int.reduceSub, Int.reduceToNat, Int.reduceNeg, ↓reduceIte, reduceCtorEq]
   refine ⟨by omega, by rfl, ?_⟩
   exact KWk_bare (told_bare nx (filesA l i u).1 (filesA l i u).2 0) ⟨put u hu, rfl⟩
  ·simp only [aset, he, lay, iaddr_node, pnode, wk3, wk, Nat.reduceAdd, Nat.reduceSub, Nat.reduceMul, Nat.reduceLeDiff, Nat.reduceEqDiff, Nat.reduceBEq, Int.reduceLE, Int.reduceLT, Int.reduceEq, Int.reduceNe, Int.reduceAdd, Int.reduceSub, Int.reduceToNat, Int.reduceNeg, ↓reduceIte, reduceCtorEq]
   refine CT_ok (tells86 nx l e _) ?_
   rintro _ _ ⟨rfl, rfl⟩
   simp only [toldA, poolC, ansC, asets, lay, iaddr_node, pnode, wk3, wk, Nat.reduceAdd, Nat.reduceSub, Nat.reduceMul, Nat.reduceLeDiff, Nat.reduceEqDiff, Nat.reduceBEq, Int.reduceLE, Int.reduceLT, Int.reduceEq, Int.reduceNe, Int.reduceAdd, Int.reduceSub, Int.reduceToNat, Int.reduceNeg, ↓reduceIte, reduceCtorEq]
   exact KWk_bare (told_bare nx l e 0) ⟨told e, rfl⟩
end Go.Proofs.YtemjlopoffjmpaaGreat.Abs
set_option linter.unusedSimpArgs false
set_option linter.unusedVariables false
namespace Go.Proofs.YtemjlopoffjmpaaGreat.Abs
open Go Go.Proofs
theorem hgB_hangs (l : List Dset) (i : Int) : hgB l i = hangsA l i := by
 unfold hgB hangsA
 rcases idxA_cases (fun d => decide (d.origin = i)) l with ⟨h1, h2⟩ | ⟨k, h1, h2, h3, _⟩
 ·rw [h1, decide_eq_false (by decide), List.any_eq_false]
  intro d hd
  obtain ⟨n, hn, rfl⟩ := mem_dgetD hd
  rw [h2 n hn]; decide
 ·rw [h1, decide_eq_true (by omega), List.any_eq_true]
  exact ⟨_, dgetD_mem h2, h3⟩
theorem filter_erase {l : List Dset} (h : MayL l) {k : Nat} (hk : k < l.length) : l.filter (notA (l.getD k default).id) = l.eraseIdx k := by
 have e : l = l.take k ++ l.getD k default :: l.drop (k + 1) := by
  have : l.drop k = l.getD k default :: l.drop (k + 1) := by
   rw [List.drop_eq_getElem_cons hk, List.getD_eq_getElem?_getD, List.getElem?_eq_getElem hk]; rfl
  rw [← this, List.take_append_drop]
 have h1 : ∀ d ∈ l.take k, notA (l.getD k default).id d = true := fun d hd => by
  obtain ⟨j, hj, rfl⟩ := List.mem_iff_getElem.1 hd
  rw [List.length_take] at hj
  have hj2 : j < l.length := by omega
  have := h.lt (i := j) (j := k) (by omega) hk
  unfold notA
  rw [List.getElem_take, decide_eq_false]; rfl
  intro hh
  rw [List.getD_eq_getElem?_getD, List.getElem?_eq_getElem hj2] at this
  have h3 : (l[j]).id < (l.getD k default).id := this
  omega
 have h2 : ∀ d ∈ l.drop (k + 1), notA (l.getD k default).id d = true := fun d hd => by
  obtain ⟨j, hj, rfl⟩ := List.mem_iff_getElem.1 hd
  rw [List.length_drop] at hj
  have hj2 : k + 1 + j < l.length := by omega
  have := h.lt (i := k) (j := k + 1 + j) (by omega) hj2
  unfold notA
  rw [List.getElem_drop, decide_eq_false]; rfl
  intro hh
  rw [List.getD_eq_getElem?_getD (l := l) (i := k + 1 + j), List.getElem?_eq_getElem hj2] at this
  have h3 : (l.getD k default).id < (l[k + 1 + j]).id := this
  omega
 have h3 : notA (l.getD k default).id (l.getD k default) = false := by unfold notA; simp
 refine (congrArg (List.filter (notA (l.getD k default).id)) e).trans ?_
 rw [List.filter_append, List.filter_cons, List.filter_eq_self.2 h1, List.filter_eq_self.2 h2, h3, if_neg (by decide), List.eraseIdx_eq_take_drop_succ]
theorem destR_eq {l : List Dset} (h : MayL l) (i : Int) : destR l i = destroyA l i := by
 unfold destR destroyA
 rcases find_of (l := l) (i := i) with ⟨e, _⟩ | ⟨k, e, hk, hid, _⟩
 ·rw [getA_no e, if_pos (by omega)]
 ·rw [getA_of e, if_neg (by omega), e, Int.toNat_natCast, hgB_hangs, ← hid, filter_erase h hk]
theorem addA_ne {l : List Dset} (h : l ≠ []) (n : Int) (x : Dset) : (addA l n x).1 ≠ [] := by
 unfold addA
 split
 ·simp
 ·exact h
theorem createA_ne {l : List Dset} (h : l ≠ []) (n q : Int) : (createA l n q).1 ≠ [] := by
 unfold createA
 split
 ·exact h
 ·exact addA_ne h _ _
theorem snapA_ne {l : List Dset} (h : l ≠ []) (n i : Int) : (snapA l n i).1 ≠ [] := by
 unfold snapA
 cases getA l i with
 | none => exact h
 | some d => simp only; split; exact h; exact addA_ne h _ _
theorem cloneA_ne {l : List Dset} (h : l ≠ []) (n i : Int) : (cloneA l n i).1 ≠ [] := by
 unfold cloneA
 cases getA l i with
 | none => exact h
 | some d => simp only; split; exact addA_ne h _ _; exact h
theorem ne_len {l l' : List Dset} (h : l ≠ []) (e : l'.length = l.length) : l' ≠ [] := fun e2 => h (List.length_eq_zero_iff.1 (by rw [← e, e2]; rfl))
theorem backA_ne {l : List Dset} (h : l ≠ []) (i j : Int) : (backA l i j).1 ≠ [] := by
 unfold backA
 split
 ·exact h
 ·simp only
  split
  ·exact h
  ·split
   ·exact h
   ·exact ne_len h List.length_set
theorem promoteA_ne {l : List Dset} (hM : MayL l) (h : l ≠ []) (i : Int) : (promoteA l i).1 ≠ [] := by
 rcases promote_facts hM i with ⟨hA, _⟩ | ⟨c, _, ⟨_, hA⟩ | ⟨_, _, s, o, _, _, hA⟩⟩
 ·rw [hA]; exact h
 ·rw [hA]; exact h
 ·rw [hA]; exact ne_len h (List.length_map _)
theorem destroyA_ne {l : List Dset} (hM : MayL l) (h : l ≠ []) (i : Int) : (destroyA l i).1 ≠ [] := by
 unfold destroyA
 split
 ·exact h
 ·rename_i h1
  split
  ·exact h
  ·rename_i h2
   rcases find_of (l := l) (i := i) with ⟨e, _⟩ | ⟨k, e, hk, hid, _⟩
   ·omega
   rw [e, Int.toNat_natCast] at h2 ⊢
   intro e2
   have hlen := List.length_eraseIdx (l := l) (i := k)
   rw [if_pos hk] at hlen
   have e3 : (l.eraseIdx k).length = 0 := by rw [show l.eraseIdx k = [] from e2]; rfl
   have h4 : l.length = 1 := by omega
   obtain ⟨d, rfl⟩ := List.length_eq_one_iff.1 h4
   have hk0 : k = 0 := by simp at hk; omega
   subst hk0
   have hd := hM.each d (by simp)
   have hk1 : d.kind = 1 := by
    rcases hd.kinds with hh | hh
    ·exact hh
    ·obtain ⟨_, o, ho, _, hok⟩ := hd.snap hh
     rw [List.mem_singleton] at ho
     subst ho; omega
   exact h2 (.inr ⟨hk1, by unfold livesA; simp [hk1]⟩)
theorem addA_ids {l : List Dset} (n : Int) (x : Dset) (h : ∀ d ∈ l, d.id < n) : ∀ d ∈ (addA l n x).1, d.id < n + 1 := by
 unfold addA
 intro d hd
 split at hd
 ·rcases List.mem_append.1 hd with hd | hd
  ·have := h d hd; omega
  ·rw [List.mem_singleton] at hd; subst hd; show n < n + 1; omega
 ·have := h d hd; omega
theorem lt_more {l : List Dset} {n : Int} (h : ∀ d ∈ l, d.id < n) : ∀ d ∈ l, d.id < n + 1 := fun d hd => by have := h d hd; omega
theorem createA_ids {l : List Dset} (n q : Int) (h : ∀ d ∈ l, d.id < n) : ∀ d ∈ (createA l n q).1, d.id < n + 1 := by
 unfold createA
 split
 ·exact lt_more h
 ·exact addA_ids _ _ h
theorem snapA_ids {l : List Dset} (n i : Int) (h : ∀ d ∈ l, d.id < n) : ∀ d ∈ (snapA l n i).1, d.id < n + 1 := by
 unfold snapA
 cases getA l i with
 | none => exact lt_more h
 | some d =>
   simp only
   split
   ·exact lt_more h
   ·exact addA_ids _ _ h
theorem cloneA_ids {l : List Dset} (n i : Int) (h : ∀ d ∈ l, d.id < n) : ∀ d ∈ (cloneA l n i).1, d.id < n + 1 := by
 unfold cloneA
 cases getA l i with
 | none => exact lt_more h
 | some d =>
   simp only
   split
   ·exact addA_ids _ _ h
   ·exact lt_more h
theorem backA_ids {l : List Dset} (i j : Int) {n : Int} (h : ∀ d ∈ l, d.id < n) : ∀ d ∈ (backA l i j).1, d.id < n := by
 unfold backA
 split
 ·exact h
 ·rename_i h1
  simp only
  split
  ·exact h
  ·split
   ·exact h
   ·intro x hx
    rcases find_of (l := l) (i := i) with ⟨e, _⟩ | ⟨k, e, hk, _, _⟩
    ·omega
    ·rcases List.mem_or_eq_of_mem_set hx with hx | rfl
     ·exact h x hx
     ·show (l.getD (findA l i).toNat default).id < n
      rw [e, Int.toNat_natCast]; exact h _ (dgetD_mem hk)
theorem promoteA_ids {l : List Dset} (hM : MayL l) (i : Int) {n : Int} (h : ∀ d ∈ l, d.id < n) : ∀ d ∈ (promoteA l i).1, d.id < n := by
 rcases promote_facts hM i with ⟨hA, _⟩ | ⟨c, _, ⟨_, hA⟩ | ⟨_, _, s, o, _, _, hA⟩⟩
 ·rw [hA]; exact h
 ·rw [hA]; exact h
 ·rw [hA]
  intro d hd
  obtain ⟨x, hx, rfl⟩ := List.mem_map.1 hd
  exact h x hx
theorem destroyA_ids {l : List Dset} (i : Int) {n : Int} (h : ∀ d ∈ l, d.id < n) : ∀ d ∈ (destroyA l i).1, d.id < n := by
 unfold destroyA
 split
 ·exact h
 ·split
  ·exact h
  ·exact fun d hd => h d (List.mem_of_mem_eraseIdx hd)
section
variable (l : List Dset)
theorem rcreateL (hl : Short l) (next q : Int) (H : AH) : C Tryz.prog 70 [asets l, .int .i64 next, .int .i64 q] H (fun x H' => x = outA (createA l next q) ∧ H' = H) := C_any (rcreate0 l hl next q) (by simp [bareL, bare, asets]) (outA_bare _) H
theorem rsnapL (hl : Short l) (next q : Int) (H : AH) : C Tryz.prog 71 [asets l, .int .i64 next, .int .i64 q] H (fun x H' => x = outA (snapA l next q) ∧ H' = H) := C_any (rsnap0 l hl next q) (by simp [bareL, bare, asets]) (outA_bare _) H
theorem rcloneL (hl : Short l) (next q : Int) (H : AH) : C Tryz.prog 72 [asets l, .int .i64 next, .int .i64 q] H (fun x H' => x = outA (cloneA l next q) ∧ H' = H) := C_any (rclone0 l hl next q) (by simp [bareL, bare, asets]) (outA_bare _) H
theorem rpromoteL (hM : MayL l) (i : Int) (H : AH) : C Tryz.prog 73 [asets l, .int .i64 i] H (fun x H' => x = outA (promoteA l i) ∧ H' = H) := C_any (rpromote0 l hM i) (by simp [bareL, bare, asets]) (outA_bare _) H
theorem rbackL (hl : Short l) (i j : Int) (H : AH) : C Tryz.prog 74 [asets l, .int .i64 i, .int .i64 j] H (fun x H' => x = outA (backA l i j) ∧ H' = H) := C_any (rback0 l hl i j) (by simp [bareL, bare, asets]) (outA_bare _) H
theorem rdestroyL (hM : MayL l) (i : Int) (H : AH) : C Tryz.prog 75 [asets l, .int .i64 i] H (fun x H' => x = outA (destroyA l i) ∧ H' = H) := by
 rw [← destR_eq hM i]
 exact C_any (rdestroy0 l hM.short i) (by simp [bareL, bare, asets]) (outA_bare _) H
end
set_option maxHeartbeats 2000000 in
theorem sets89_0 (l : List Dset) (hM : MayL l) (nx k i m : Int) (hk : 9 ≤ k ∧ k ≤ 14) (hnx : 0 ≤ nx ∧ nx ≤ 1000000) (p q t : List UInt8) :
 C Tryz.prog 89 [.agg (poolC nx (asets l)), editA k i m p q t] [] (fun y H' => PoolR nx l y ∧ H' = []) := by
 have hl := hM.short
 have told : ∀ e : Int, PoolR nx l (toldA nx l e 0) := fun e => ⟨l, nx, e, 0, hM, StepN.refl _ _, Int.le_refl _, by omega, rfl⟩
 have w1 : IntKind.i64.wrap (nx + 1) = nx + 1 := IntWalk.i64_in _ (by omega)
 refine C_body' d89 rfl (WT_ok ?_)
 unfold c89
 simp only [poolC, editA, asets, lay, iaddr_node, pnode, wk3, wk, seval]
 by_cases h_9 : k = 9
 ·simp only [h_9, lay, iaddr_node, pnode, wk3, wk, seval]
  refine CT_ok (rcreateL l hl nx m _) ?_
  rintro _ _ ⟨rfl, rfl⟩
  have hm := createA_may hM nx m
  have hne : StepN nx (nx + 1) l (createA l nx m).1 := ⟨fun h => createA_ne h nx m, createA_ids nx m⟩
  generalize createA l nx m = r at hm hne
  obtain ⟨l', e⟩ := r
  by_cases he : e = 0
  ·simp only [outA, asets, he, h_9, w1, lay, iaddr_node, pnode, wk3, wk, seval]
   exact KWk_bare (told_bare (nx + 1) l' 0 nx) ⟨⟨l', nx + 1, 0, nx, hm, hne, by omega, Int.le_refl _, rfl⟩, rfl⟩
  ·simp only [outA, asets, he, lay, iaddr_node, pnode, wk3, wk, seval]
   refine CT_ok (tells86 nx l e _) ?_
   rintro _ _ ⟨rfl, rfl⟩
   simp only [toldA, poolC, ansC, asets, lay, iaddr_node, pnode, wk3, wk, seval]
   exact KWk_bare (told_bare nx l e 0) ⟨told e, rfl⟩
 by_cases h_10 : k = 10
 ·simp only [h_10, lay, iaddr_node, pnode, wk3, wk, seval]
  refine CT_ok (rsnapL l hl nx i _) ?_
  rintro _ _ ⟨rfl, rfl⟩
  have hm := snapA_may hM nx i
  have hne : StepN nx (nx + 1) l (snapA l nx i).1 := ⟨fun h => snapA_ne h nx i, snapA_ids nx i⟩
  generalize snapA l nx i = r at hm hne
  obtain ⟨l', e⟩ := r
  by_cases he : e = 0
  ·simp only [outA, asets, he, h_10, w1, lay, iaddr_node, pnode, wk3, wk, seval]
   exact KWk_bare (told_bare (nx + 1) l' 0 nx) ⟨⟨l', nx + 1, 0, nx, hm, hne, by omega, Int.le_refl _, rfl⟩, rfl⟩
  ·simp only [outA, asets, he, lay, iaddr_node, pnode, wk3, wk, seval]
   refine CT_ok (tells86 nx l e _) ?_
   rintro _ _ ⟨rfl, rfl⟩
   simp only [toldA, poolC, ansC, asets, lay, iaddr_node, pnode, wk3, wk, seval]
   exact KWk_bare (told_bare nx l e 0) ⟨told e, rfl⟩
 by_cases h_11 : k = 11
 ·simp only [h_11, lay, iaddr_node, pnode, wk3, wk, seval]
  refine CT_ok (rcloneL l hl nx i _) ?_
  rintro _ _ ⟨rfl, rfl⟩
  have hm := cloneA_may hM nx i
  have hne : StepN nx (nx + 1) l (cloneA l nx i).1 := ⟨fun h => cloneA_ne h nx i, cloneA_ids nx i⟩
  generalize cloneA l nx i = r at hm hne
  obtain ⟨l', e⟩ := r
  by_cases he : e = 0
  ·simp only [outA, asets, he, h_11, w1, lay, iaddr_node, pnode, wk3, wk, seval]
   exact KWk_bare (told_bare (nx + 1) l' 0 nx) ⟨⟨l', nx + 1, 0, nx, hm, hne, by omega, Int.le_refl _, rfl⟩, rfl⟩
  ·simp only [outA, asets, he, lay, iaddr_node, pnode, wk3, wk, seval]
   refine CT_ok (tells86 nx l e _) ?_
   rintro _ _ ⟨rfl, rfl⟩
   simp only [toldA, poolC, ansC, asets, lay, iaddr_node, pnode, wk3, wk, seval]
   exact KWk_bare (told_bare nx l e 0) ⟨told e, rfl⟩
 by_cases h_12 : k = 12
 ·simp only [h_12, lay, iaddr_node, pnode, wk3, wk, seval]
  refine CT_ok (rpromoteL l hM i _) ?_
  rintro _ _ ⟨rfl, rfl⟩
  have hm := promoteA_may hM i
  have hne : StepN nx nx l (promoteA l i).1 := ⟨fun h => promoteA_ne hM h i, promoteA_ids hM i⟩
  generalize promoteA l i = r at hm hne
  obtain ⟨l', e⟩ := r
  by_cases he : e = 0
  ·simp only [outA, asets, he, h_12, w1, lay, iaddr_node, pnode, wk3, wk, seval]
   exact KWk_bare (told_bare nx l' 0 0) ⟨⟨l', nx, 0, 0, hm, hne, Int.le_refl _, by omega, rfl⟩, rfl⟩
  ·simp only [outA, asets, he, lay, iaddr_node, pnode, wk3, wk, seval]
   refine CT_ok (tells86 nx l e _) ?_
   rintro _ _ ⟨rfl, rfl⟩
   simp only [toldA, poolC, ansC, asets, lay, iaddr_node, pnode, wk3, wk, seval]
   exact KWk_bare (told_bare nx l e 0) ⟨told e, rfl⟩
 by_cases h_13 : k = 13
 ·simp only [h_13, lay, iaddr_node, pnode, wk3, wk, seval]
  refine CT_ok (rbackL l hl i m _) ?_
  rintro _ _ ⟨rfl, rfl⟩
  have hm := backA_may hM i m
  have hne : StepN nx nx l (backA l i m).1 := ⟨fun h => backA_ne h i m, backA_ids i m⟩
  generalize backA l i m = r at hm hne
  obtain ⟨l', e⟩ := r
  by_cases he : e = 0
  ·simp only [outA, asets, he, h_13, w1, lay, iaddr_node, pnode, wk3, wk, seval]
   exact KWk_bare (told_bare nx l' 0 0) ⟨⟨l', nx, 0, 0, hm, hne, Int.le_refl _, by omega, rfl⟩, rfl⟩
  ·simp only [outA, asets, he, lay, iaddr_node, pnode, wk3, wk, seval]
   refine CT_ok (tells86 nx l e _) ?_
   rintro _ _ ⟨rfl, rfl⟩
   simp only [toldA, poolC, ansC, asets, lay, iaddr_node, pnode, wk3, wk, seval]
   exact KWk_bare (told_bare nx l e 0) ⟨told e, rfl⟩
 have h_14 : k = 14 := by omega
 ·simp only [h_14, lay, iaddr_node, pnode, wk3, wk, seval]
  refine CT_ok (rdestroyL l hM i _) ?_
  rintro _ _ ⟨rfl, rfl⟩
  have hm := destroyA_may hM i
  have hne : StepN nx nx l (destroyA l i).1 := ⟨fun h => destroyA_ne hM h i, destroyA_ids i⟩
  generalize destroyA l i = r at hm hne
  obtain ⟨l', e⟩ := r
  by_cases he : e = 0
  ·simp only [outA, asets, he, h_14, w1, lay, iaddr_node, pnode, wk3, wk, seval]
   exact KWk_bare (told_bare nx l' 0 0) ⟨⟨l', nx, 0, 0, hm, hne, Int.le_refl _, by omega, rfl⟩, rfl⟩
  ·simp only [outA, asets, he, lay, iaddr_node, pnode, wk3, wk, seval]
   refine CT_ok (tells86 nx l e _) ?_
   rintro _ _ ⟨rfl, rfl⟩
   simp only [toldA, poolC, ansC, asets, lay, iaddr_node, pnode, wk3, wk, seval]
   exact KWk_bare (told_bare nx l e 0) ⟨told e, rfl⟩
end Go.Proofs.YtemjlopoffjmpaaGreat.Abs
set_option linter.unusedSimpArgs false
set_option linter.unusedVariables false
namespace Go.Proofs.YtemjlopoffjmpaaGreat.Abs
open Go Go.Proofs
structure FilesR (l x : List Dset) (w i : Int) (fs : List Node) (n : Int) : Prop where
 may : MayL x
 len : (x.length : Int) = n
 gone : w = 1 → ∀ d ∈ l, d.id = i → getA x d.id = none
 kept : ∀ d ∈ l, ¬ (w = 1 ∧ d.id = i) → ∃ d', getA x d.id = some d' ∧ d'.kind = d.kind ∧ d'.quota = d.quota ∧ (w ≠ 0 → d'.origin = d.origin) ∧ d'.files = if w = 5 ∧ d.id = i then fs else d.files
section
variable {l : List Dset} (h : MayL l) (i j : Int)
include h
end
end Go.Proofs.YtemjlopoffjmpaaGreat.Abs
set_option linter.unusedSimpArgs false
set_option linter.unusedVariables false
namespace Go.Proofs.YtemjlopoffjmpaaGreat.Abs
open Go Go.Proofs
theorem find_mem {l : List Dset} (h : MayL l) {d : Dset} (hd : d ∈ l) : ∃ k : Nat, findA l d.id = k ∧ k < l.length ∧ l.getD k default = d := by
 have hf := h.find hd
 rcases find_of (l := l) (i := d.id) with ⟨e, _⟩ | ⟨k, e, hk, _⟩
 ·rw [getA_no e] at hf; cases hf
 ·rw [getA_of e] at hf
  exact ⟨k, e, hk, Option.some.inj hf⟩
def putsF (i : Int) (t : List Node) (x : Dset) : Dset := if x.id = i then { x with files := t } else x
theorem filesA_ok {l : List Dset} (h : MayL l) {d : Dset} (hd : d ∈ l) (t : List Node) (h0 : (filesA l d.id t).2 = 0) : filesA l d.id t = (l.map (putsF d.id t), 0) ∧ d.kind = 1 := by
 obtain ⟨k, e, hk, rfl⟩ := find_mem h hd
 unfold filesA at h0 ⊢
 rw [h.find (dgetD_mem hk)] at h0 ⊢
 simp only at h0 ⊢
 split
 ·rename_i h1; rw [if_pos h1] at h0; cases h0
 ·rename_i h1
  rw [if_neg h1] at h0
  split
  ·rename_i h2; rw [if_pos h2] at h0; cases h0
  ·rw [e, Int.toNat_natCast]
   refine ⟨?_, by rcases (h.each _ (dgetD_mem hk)).kinds with q | q; exact q; exact absurd q h1⟩
   have := set_map h hk (fun d => { d with files := t })
   exact congrArg (·, (0 : Int)) this
end Go.Proofs.YtemjlopoffjmpaaGreat.Abs
set_option linter.unusedSimpArgs false
set_option linter.unusedVariables false
namespace Go.Proofs.YtemjlopoffjmpaaGreat.Abs
open Go Go.Proofs
theorem addA_yes {l : List Dset} {n : Int} (x : Dset) (h8 : l.length < 8) (hn : 1 ≤ n ∧ n ≤ 65535) (hid : ∀ d ∈ l, d.id < n) : addA l n x = (l ++ [{ x with id := n }], 0) := by
 unfold addA
 rw [if_pos]
 unfold addOk
 simp only [Bool.and_eq_true, Bool.or_eq_true, decide_eq_true_eq]
 refine ⟨⟨⟨h8, hn.1⟩, hn.2⟩, ?_⟩
 rcases Nat.eq_zero_or_pos l.length with h0 | h0
 ·exact .inl h0
 ·exact .inr (hid _ (dgetD_mem (by omega)))
theorem addA_full {l : List Dset} {n : Int} (x : Dset) (h8 : ¬ l.length < 8) : addA l n x = (l, 8) := by
 unfold addA
 rw [if_neg]
 unfold addOk
 simp [h8]
theorem snap_tell {l : List Dset} (h : MayL l) (hid : ∀ d ∈ l, d.id < 900) {d : Dset} (hd : d ∈ l) :
 (d.kind = 2 → snapA l 1000 d.id = (l, 11)) ∧ (d.kind = 1 → l.length = 8 → snapA l 1000 d.id = (l, 8)) ∧ (d.kind = 1 → l.length < 8 → snapA l 1000 d.id = (l ++ [⟨1000, 2, d.id, 0, d.files⟩], 0)) := by
 unfold snapA
 rw [h.find hd]
 simp only
 refine ⟨fun hk => if_pos hk, fun hk h8 => ?_, fun hk h8 => ?_⟩
 ·rw [if_neg (by omega), addA_full _ (by omega)]
 ·rw [if_neg (by omega), addA_yes _ h8 (by omega) (fun d hd => by have := hid d hd; omega)]
theorem stay_facts {l : List Dset} (h : MayL l) (hid : ∀ d ∈ l, d.id < 900) {d : Dset} (hd : d ∈ l) (hk : d.kind = 1) (h8 : l.length < 8) :
 let x := l ++ [⟨1000, 2, d.id, 0, d.files⟩]
 MayL x ∧ (x.length = 8 → cloneA x 1001 1000 = (x, 8)) ∧ (x.length < 8 → ∃ y, cloneA x 1001 1000 = (y, 0) ∧ MayL y ∧ y = x ++ [⟨1001, 1, 1000, 0, d.files⟩]) := by
 intro x
 have hs := (snap_tell h hid hd).2.2 hk h8
 have hM : MayL x := by have := snapA_may h 1000 d.id; rw [hs] at this; exact this
 have hg : getA x 1000 = some ⟨1000, 2, d.id, 0, d.files⟩ := hM.find (d := ⟨1000, 2, d.id, 0, d.files⟩) (by simp [x])
 have hc : cloneA x 1001 1000 = addA x 1001 ⟨1001, 1, 1000, 0, d.files⟩ := by
  unfold cloneA; rw [hg]; exact (if_pos rfl).trans (addA_id x 1001 _ _ rfl)
 refine ⟨hM, fun q => ?_, fun q => ?_⟩
 ·rw [hc, addA_full _ (by omega)]
 ·have hy := addA_yes (l := x) (n := 1001) ⟨1001, 1, 1000, 0, d.files⟩ q (by omega) (fun z hz => by
   rcases List.mem_append.1 hz with hz | hz
   ·have := hid z hz; omega
   ·rw [List.mem_singleton] at hz; subst hz; show (1000 : Int) < 1001; omega)
  have hM2 := cloneA_may hM 1001 1000
  rw [hc, hy] at hM2
  exact ⟨_, hc.trans hy, hM2, rfl⟩
theorem stay_end {l : List Dset} (hid : ∀ d ∈ l, d.id < 900) {d : Dset} (hd : d ∈ l) (hk : d.kind = 1)
 {y : List Dset} (hy : MayL y) (hye : y = l ++ [⟨1000, 2, d.id, 0, d.files⟩] ++ [⟨1001, 1, 1000, 0, d.files⟩]) {t : List Node} (ht : Wf t) :
 ∃ z, filesA y 1001 t = (z, 0) ∧ MayL z ∧ ∃ s o, getA z 1000 = some s ∧ s.files = d.files ∧ getA z d.id = some o ∧ o.files = d.files ∧
   ∃ u, promoteA z 1001 = (u, 0) ∧ MayL u ∧ ∃ c s' o', getA u 1001 = some c ∧ c.files = t ∧ c.origin = d.origin ∧ getA u 1000 = some s' ∧ s'.origin = 1001 ∧ s'.files = d.files ∧ getA u d.id = some o' ∧ o'.origin = 1000 ∧ o'.files = d.files := by
 have hdi := hid d hd
 have mc : (⟨1001, 1, 1000, 0, d.files⟩ : Dset) ∈ y := by rw [hye]; simp
 have ms : (⟨1000, 2, d.id, 0, d.files⟩ : Dset) ∈ y := by rw [hye]; simp
 have md : d ∈ y := by rw [hye]; simp [hd]
 have h0 : (filesA y 1001 t).2 = 0 := by
  unfold filesA
  rw [show getA y 1001 = some ⟨1001, 1, 1000, 0, d.files⟩ from hy.find mc]
  simp only
  rw [if_neg (by decide), if_neg (fun q => by omega)]
 have hz := (filesA_ok hy mc t h0).1
 have hM := (filesA_may hy 1001 ht).1
 replace hz : filesA y 1001 t = (y.map (putsF 1001 t), 0) := hz
 rw [hz] at hM
 replace hM : MayL (y.map (putsF 1001 t)) := hM
 have pd : putsF 1001 t d = d := by unfold putsF; rw [if_neg (by omega)]
 have zs : (⟨1000, 2, d.id, 0, d.files⟩ : Dset) ∈ y.map (putsF 1001 t) := List.mem_map.2 ⟨_, ms, rfl⟩
 have zc : (⟨1001, 1, 1000, 0, t⟩ : Dset) ∈ y.map (putsF 1001 t) := List.mem_map.2 ⟨_, mc, rfl⟩
 have zd : d ∈ y.map (putsF 1001 t) := List.mem_map.2 ⟨d, md, pd⟩
 have gc : getA (y.map (putsF 1001 t)) 1001 = some ⟨1001, 1, 1000, 0, t⟩ := hM.find zc
 have gs : getA (y.map (putsF 1001 t)) 1000 = some ⟨1000, 2, d.id, 0, d.files⟩ := hM.find zs
 have gd := hM.find zd
 refine ⟨_, hz, hM, _, _, gs, rfl, gd, rfl, ?_⟩
 have hU := promoteA_may hM 1001
 rcases promote_facts hM 1001 with ⟨_, hg⟩ | ⟨c, hg, ⟨hbad, _⟩ | ⟨_, _, s, o, gs2, go2, hA⟩⟩
 ·rw [gc] at hg; cases hg
 ·rw [gc] at hg
  have := Option.some.inj hg
  subst this
  rcases hbad with q | q
  ·exact absurd rfl q
  ·exact absurd (show (1000 : Int) = 0 from q) (by decide)
 ·rw [gc] at hg
  have e1 := Option.some.inj hg
  subst e1
  rw [show (⟨1001, 1, 1000, 0, t⟩ : Dset).origin = 1000 from rfl, gs] at gs2
  have e2 := Option.some.inj gs2
  subst e2
  rw [show (⟨1000, 2, d.id, 0, d.files⟩ : Dset).origin = d.id from rfl, gd] at go2
  have e3 := Option.some.inj go2
  subst e3
  rw [hA] at hU
  replace hU : MayL ((y.map (putsF 1001 t)).map (proR 1001 1000 d.id d.origin)) := hU
  have fc := hU.find (List.mem_map.2 ⟨_, zc, rfl⟩)
  have fs := hU.find (List.mem_map.2 ⟨_, zs, rfl⟩)
  have fd := hU.find (List.mem_map.2 ⟨_, zd, rfl⟩)
  refine ⟨_, hA, hU, _, _, _, fc, rfl, ?_, fs, ?_, rfl, fd, ?_, rfl⟩
  ·unfold proR reorig
   show (if (1001 : Int) = d.id then _ else if (1001 : Int) = 1001 then d.origin else _) = d.origin
   rw [if_neg (by omega), if_pos rfl]
  ·unfold proR reorig
   show (if (1000 : Int) = d.id then _ else if (1000 : Int) = 1001 then _ else if (2 : Int) = 2 ∧ d.id = d.id ∧ (1000 : Int) ≤ 1000 then 1001 else _) = 1001
   rw [if_neg (by omega), if_neg (by decide), if_pos ⟨rfl, rfl, Int.le_refl _⟩]
  ·unfold proR reorig
   show (if d.id = d.id then (1000 : Int) else _) = 1000
   rw [if_pos rfl]
end Go.Proofs.YtemjlopoffjmpaaGreat.Abs
namespace Go.Proofs.YtemjlopoffjmpaaGreat.Abs
open Go
end Go.Proofs.YtemjlopoffjmpaaGreat.Abs
namespace Go.Proofs.YtemjlopoffjmpaaGreat.Abs
open Go
def c14 : ACode :=
 (.seq (.reg [⟨some 4, none, .mv (.c (.emp))⟩])
 (.seq (.reg [⟨some 9, none, .build [.int .i64 0, .int .i64 0, .int .i64 0, .int .i64 0, .int .i64 0, .int .u32 0, .int .u32 0, .int .u32 0, .int .u32 0, .int .i64 0, .int .i64 0, .int .u32 0, .int .u32 0, .int .u32 0, .int .u32 0, .int .i64 0, .int .i64 0, .int .u32 0, .int .u32 0, .int .u32 0, .int .u32 0, .int .i64 0] [(1, 1, (.c (.int .i64 2)))]⟩,
  ⟨some 10, none, .call 34 []⟩,
  ⟨some 11, none, .build [.int .i64 0, .int .i64 0, .int .i64 0, .int .i64 0, .emp] [(0, 1, (.c (.int .i64 1))), (1, 1, (.c (.int .i64 1))), (4, 1, (.t 10))]⟩,
  ⟨some 12, none, .bslice 5 1 [.int .i64 0, .int .i64 0, .int .i64 0, .int .i64 0, .emp] [(0, (.t 11))]⟩,
  ⟨some 13, none, .build [.emp, .emp, .int .i64 0, .int .i64 0, .bool false, .int .i64 0, .int .i64 0, .int .u32 0, .int .u32 0, .int .u32 0, .int .u32 0, .int .i64 0, .int .i64 0, .int .i64 0, .int .i64 0, .int .i64 0, .int .u32 0, .int .u32 0, .int .u32 0, .int .u32 0, .int .i64 0, .int .i64 0, .int .u32 0, .int .u32 0, .int .u32 0, .int .u32 0, .int .i64 0, .int .i64 0, .int .u32 0, .int .u32 0, .int .u32 0, .int .u32 0, .int .i64 0, .emp, .emp, .emp, .emp, .int .i64 0, .int .i64 0, .emp, .bool false] [(11, 22, (.t 9)), (39, 1, (.t 12))]⟩,
  ⟨some 5, none, .alloc [.emp, .emp, .int .i64 0, .int .i64 0, .bool false, .int .i64 0, .int .i64 0, .int .u32 0, .int .u32 0, .int .u32 0, .int .u32 0, .int .i64 0, .int .i64 0, .int .i64 0, .int .i64 0, .int .i64 0, .int .u32 0, .int .u32 0, .int .u32 0, .int .u32 0, .int .i64 0, .int .i64 0, .int .u32 0, .int .u32 0, .int .u32 0, .int .u32 0, .int .i64 0, .int .i64 0, .int .u32 0, .int .u32 0, .int .u32 0, .int .u32 0, .int .i64 0, .emp, .emp, .emp, .emp, .int .i64 0, .int .i64 0, .emp, .bool false]⟩,
  ⟨none, none, .store 41 (.t 5) (.t 13)⟩])
 (.seq (.seq (.reg [⟨some 6, none, .mv (.c (.int .i64 0))⟩])
 (.block 0
 (.loop
 (.seq (.seq (.reg [⟨some 14, none, .mv (.t 6)⟩,
  ⟨some 15, none, .mv (.t 1)⟩,
  ⟨some 16, none, .bini .lss (.t 14) (.t 15)⟩,
  ⟨some 17, none, .mv (.t 16)⟩,
  ⟨some 18, (some (17, true)), .mv (.t 0)⟩,
  ⟨some 19, (some (17, true)), .call 43 [(.t 18)]⟩,
  ⟨some 20, (some (17, true)), .un .not (.t 19)⟩,
  ⟨some 21, none, .pick (.t 17) (.t 20) (.c (.bool false))⟩])
 (.cond (.t 21)
 .skip
 (.exit 0)))
 (.seq (.block 1
 (.seq (.reg [⟨some 24, none, .mv (.t 0)⟩,
  ⟨some 25, none, .call 44 [(.t 24), (.c (.int .i64 8))]⟩,
  ⟨some 26, none, .bini .add (.c (.int .i64 1)) (.t 25)⟩,
  ⟨some 7, none, .mv (.t 26)⟩])
 (.seq (.reg [⟨some 27, none, .mv (.t 0)⟩,
  ⟨some 28, none, .mv (.t 7)⟩,
  ⟨some 29, none, .call 45 [(.t 27), (.t 28)]⟩,
  ⟨some 8, none, .alloc [.int .i64 0, .int .i64 0, .int .i64 0, .int .i64 0, .int .i64 0, .str [], .str [], .str [], .emp]⟩,
  ⟨none, none, .store 9 (.t 8) (.t 29)⟩])
 (.seq (.seq (.reg [⟨some 30, none, .mv (.t 0)⟩,
  ⟨some 31, none, .call 44 [(.t 30), (.c (.int .i64 3))]⟩,
  ⟨some 32, none, .bini .gtr (.t 31) (.c (.int .i64 0))⟩])
 (.cond (.t 32)
 (.reg [⟨some 33, none, .mv (.t 0)⟩,
  ⟨some 34, none, .mv (.t 7)⟩,
  ⟨some 35, none, .call 46 [(.t 33), (.t 34)]⟩,
  ⟨none, none, .store 9 (.t 8) (.t 35)⟩])
 .skip))
 (.reg [⟨some 37, none, .load true 41 (.t 5)⟩,
  ⟨some 38, none, .load true 9 (.t 8)⟩,
  ⟨some 39, none, .call 47 [(.t 37), (.t 38)]⟩,
  ⟨some 36, none, .mv (.t 39)⟩,
  ⟨some 40, none, .ext (.t 36) 0⟩,
  ⟨some 41, none, .ext (.t 36) 1⟩,
  ⟨none, none, .store 41 (.t 5) (.t 40)⟩])))))
 (.reg [⟨some 22, none, .mv (.t 6)⟩,
  ⟨some 23, none, .bini .add (.t 22) (.c (.int .i64 1))⟩,
  ⟨some 6, none, .mv (.t 23)⟩]))))))
 (.seq (.reg [⟨some 42, none, .faddr 39 (.t 5)⟩,
  ⟨some 43, none, .load false 1 (.t 42)⟩,
  ⟨some 4, none, .mv (.t 43)⟩])
 .ret))))
theorem d14 : FnD Tryz.prog 14 2 42 [.tmp 4] c14 := ⟨Tryz.f14, _, Tryz.func14, by kernel_rfl, rfl, rfl, by kernel_rfl, by kernel_rfl⟩
end Go.Proofs.YtemjlopoffjmpaaGreat.Abs
namespace Go.Proofs.YtemjlopoffjmpaaGreat.Abs
open Go
def c47 : ACode :=
 (.seq (.reg [⟨some 2, none, .box (.t 0)⟩,
  ⟨some 3, none, .box (.t 1)⟩,
  ⟨some 4, none, .alloc [.emp, .emp, .int .i64 0, .int .i64 0, .bool false, .int .i64 0, .int .i64 0, .int .u32 0, .int .u32 0, .int .u32 0, .int .u32 0, .int .i64 0, .int .i64 0, .int .i64 0, .int .i64 0, .int .i64 0, .int .u32 0, .int .u32 0, .int .u32 0, .int .u32 0, .int .i64 0, .int .i64 0, .int .u32 0, .int .u32 0, .int .u32 0, .int .u32 0, .int .i64 0, .int .i64 0, .int .u32 0, .int .u32 0, .int .u32 0, .int .u32 0, .int .i64 0, .emp, .emp, .emp, .emp, .int .i64 0, .int .i64 0, .emp, .bool false]⟩,
  ⟨some 5, none, .alloc [.int .i64 0, .str [], .int .i64 0, .int .i64 0, .int .i64 0, .int .i64 0, .emp, .int .i64 0]⟩])
 (.seq (.seq (.reg [⟨some 9, none, .faddr 0 (.t 3)⟩,
  ⟨some 10, none, .load false 1 (.t 9)⟩,
  ⟨some 11, none, .bini .lss (.t 10) (.c (.int .i64 1))⟩,
  ⟨some 12, none, .mv (.t 11)⟩,
  ⟨some 13, (some (12, false)), .faddr 0 (.t 3)⟩,
  ⟨some 14, (some (12, false)), .load false 1 (.t 13)⟩,
  ⟨some 15, (some (12, false)), .bini .gtr (.t 14) (.c (.int .i64 22))⟩,
  ⟨some 16, none, .pick (.t 12) (.c (.bool true)) (.t 15)⟩])
 (.cond (.t 16)
 (.seq (.reg [⟨some 17, none, .load true 41 (.t 2)⟩,
  ⟨some 18, none, .call 86 [(.t 17), (.c (.int .i64 1))]⟩,
  ⟨some 19, none, .ext (.t 18) 0⟩,
  ⟨some 20, none, .ext (.t 18) 1⟩,
  ⟨none, none, .store 41 (.t 4) (.t 19)⟩,
  ⟨none, none, .store 8 (.t 5) (.t 20)⟩])
 .ret)
 .skip))
 (.seq (.seq (.reg [⟨some 21, none, .faddr 40 (.t 2)⟩,
  ⟨some 22, none, .load false 1 (.t 21)⟩,
  ⟨some 23, none, .mv (.t 22)⟩,
  ⟨some 24, (some (23, true)), .faddr 0 (.t 3)⟩,
  ⟨some 25, (some (23, true)), .load false 1 (.t 24)⟩,
  ⟨some 26, (some (23, true)), .call 87 [(.t 25)]⟩,
  ⟨some 27, none, .pick (.t 23) (.t 26) (.c (.bool false))⟩])
 (.cond (.t 27)
 (.seq (.reg [⟨some 28, none, .load true 41 (.t 2)⟩,
  ⟨some 29, none, .call 86 [(.t 28), (.c (.int .i64 11))]⟩,
  ⟨some 30, none, .ext (.t 29) 0⟩,
  ⟨some 31, none, .ext (.t 29) 1⟩,
  ⟨none, none, .store 41 (.t 4) (.t 30)⟩,
  ⟨none, none, .store 8 (.t 5) (.t 31)⟩])
 .ret)
 .skip))
 (.seq (.block 0
 (.seq (.reg [⟨some 33, none, .faddr 0 (.t 3)⟩,
  ⟨some 34, none, .load false 1 (.t 33)⟩,
  ⟨some 35, none, .bini .leq (.t 34) (.c (.int .i64 8))⟩,
  ⟨some 32, none, .mv (.t 35)⟩])
 (.cond (.t 32)
 (.seq (.reg [⟨some 36, none, .load true 41 (.t 2)⟩,
  ⟨some 37, none, .load true 9 (.t 3)⟩,
  ⟨some 38, none, .call 88 [(.t 36), (.t 37)]⟩,
  ⟨some 39, none, .ext (.t 38) 0⟩,
  ⟨some 40, none, .ext (.t 38) 1⟩,
  ⟨none, none, .store 41 (.t 4) (.t 39)⟩,
  ⟨none, none, .store 8 (.t 5) (.t 40)⟩])
 .ret)
 (.seq (.reg [⟨some 42, none, .faddr 0 (.t 3)⟩,
  ⟨some 43, none, .load false 1 (.t 42)⟩,
  ⟨some 44, none, .bini .leq (.t 43) (.c (.int .i64 14))⟩,
  ⟨some 41, none, .mv (.t 44)⟩])
 (.cond (.t 41)
 (.seq (.reg [⟨some 45, none, .load true 41 (.t 2)⟩,
  ⟨some 46, none, .load true 9 (.t 3)⟩,
  ⟨some 47, none, .call 89 [(.t 45), (.t 46)]⟩,
  ⟨some 48, none, .ext (.t 47) 0⟩,
  ⟨some 49, none, .ext (.t 47) 1⟩,
  ⟨none, none, .store 41 (.t 4) (.t 48)⟩,
  ⟨none, none, .store 8 (.t 5) (.t 49)⟩])
 .ret)
 .skip)))))
 (.seq (.reg [⟨some 50, none, .build [.int .i64 0, .str [], .int .i64 0, .int .i64 0, .int .i64 0, .int .i64 0, .emp, .int .i64 0] []⟩,
  ⟨some 6, none, .alloc [.int .i64 0, .str [], .int .i64 0, .int .i64 0, .int .i64 0, .int .i64 0, .emp, .int .i64 0]⟩,
  ⟨none, none, .store 8 (.t 6) (.t 50)⟩])
 (.seq (.seq (.reg [⟨some 51, none, .faddr 0 (.t 3)⟩,
  ⟨some 52, none, .load false 1 (.t 51)⟩])
 (.block 1
 (.seq (.reg [⟨some 64, none, .bini .eql (.t 52) (.c (.int .i64 15))⟩,
  ⟨some 63, none, .mv (.t 64)⟩])
 (.cond (.t 63)
 (.seq (.seq (.reg [⟨some 65, none, .faddr 2 (.t 3)⟩,
  ⟨some 66, none, .load false 1 (.t 65)⟩,
  ⟨some 67, none, .bini .lss (.t 66) (.c (.int .i64 0))⟩,
  ⟨some 68, none, .mv (.t 67)⟩,
  ⟨some 69, (some (68, false)), .faddr 2 (.t 3)⟩,
  ⟨some 70, (some (68, false)), .load false 1 (.t 69)⟩,
  ⟨some 71, (some (68, false)), .bini .gtr (.t 70) (.c (.int .i64 1))⟩,
  ⟨some 72, none, .pick (.t 68) (.c (.bool true)) (.t 71)⟩])
 (.cond (.t 72)
 (.seq (.reg [⟨some 73, none, .load true 41 (.t 2)⟩,
  ⟨some 74, none, .call 86 [(.t 73), (.c (.int .i64 1))]⟩,
  ⟨some 75, none, .ext (.t 74) 0⟩,
  ⟨some 76, none, .ext (.t 74) 1⟩,
  ⟨none, none, .store 41 (.t 4) (.t 75)⟩,
  ⟨none, none, .store 8 (.t 5) (.t 76)⟩])
 .ret)
 .skip))
 (.seq (.reg [⟨some 78, none, .load true 41 (.t 2)⟩,
  ⟨some 79, none, .faddr 2 (.t 3)⟩,
  ⟨some 80, none, .load false 1 (.t 79)⟩,
  ⟨some 81, none, .bini .eql (.t 80) (.c (.int .i64 1))⟩,
  ⟨some 82, none, .call 90 [(.t 78), (.t 81)]⟩,
  ⟨some 77, none, .mv (.t 82)⟩,
  ⟨some 83, none, .ext (.t 77) 0⟩,
  ⟨some 84, none, .ext (.t 77) 1⟩,
  ⟨none, none, .store 41 (.t 2) (.t 83)⟩,
  ⟨some 85, none, .faddr 0 (.t 6)⟩,
  ⟨none, none, .store 1 (.t 85) (.t 84)⟩])
 (.seq (.reg [⟨some 86, none, .faddr 0 (.t 6)⟩,
  ⟨some 87, none, .load false 1 (.t 86)⟩,
  ⟨some 88, none, .bini .eql (.t 87) (.c (.int .i64 0))⟩])
 (.cond (.t 88)
 (.reg [⟨some 89, none, .faddr 11 (.t 2)⟩,
  ⟨some 90, none, .faddr 0 (.t 89)⟩,
  ⟨some 91, none, .load false 1 (.t 90)⟩,
  ⟨some 92, none, .faddr 7 (.t 6)⟩,
  ⟨none, none, .store 1 (.t 92) (.t 91)⟩])
 .skip))))
 (.seq (.reg [⟨some 94, none, .bini .eql (.t 52) (.c (.int .i64 16))⟩,
  ⟨some 93, none, .mv (.t 94)⟩])
 (.cond (.t 93)
 (.reg [⟨some 96, none, .load true 41 (.t 2)⟩,
  ⟨some 97, none, .call 91 [(.t 96)]⟩,
  ⟨some 95, none, .mv (.t 97)⟩,
  ⟨some 98, none, .ext (.t 95) 0⟩,
  ⟨some 99, none, .ext (.t 95) 1⟩,
  ⟨none, none, .store 41 (.t 2) (.t 98)⟩,
  ⟨some 100, none, .faddr 0 (.t 6)⟩,
  ⟨none, none, .store 1 (.t 100) (.t 99)⟩])
 (.seq (.reg [⟨some 102, none, .bini .eql (.t 52) (.c (.int .i64 17))⟩,
  ⟨some 101, none, .mv (.t 102)⟩])
 (.cond (.t 101)
 (.reg [⟨some 104, none, .load true 41 (.t 2)⟩,
  ⟨some 105, none, .call 92 [(.t 104)]⟩,
  ⟨some 103, none, .mv (.t 105)⟩,
  ⟨some 106, none, .ext (.t 103) 0⟩,
  ⟨some 107, none, .ext (.t 103) 1⟩,
  ⟨none, none, .store 41 (.t 2) (.t 106)⟩,
  ⟨some 108, none, .faddr 0 (.t 6)⟩,
  ⟨none, none, .store 1 (.t 108) (.t 107)⟩])
 (.seq (.reg [⟨some 110, none, .bini .eql (.t 52) (.c (.int .i64 18))⟩,
  ⟨some 109, none, .mv (.t 110)⟩])
 (.cond (.t 109)
 (.seq (.reg [⟨some 112, none, .faddr 0 (.t 2)⟩,
  ⟨some 113, none, .load true 5 (.t 112)⟩,
  ⟨some 114, none, .faddr 2 (.t 3)⟩,
  ⟨some 115, none, .load false 1 (.t 114)⟩,
  ⟨some 116, none, .call 93 [(.t 113), (.t 115)]⟩,
  ⟨some 111, none, .mv (.t 116)⟩,
  ⟨some 117, none, .ext (.t 111) 0⟩,
  ⟨some 118, none, .ext (.t 111) 1⟩,
  ⟨some 7, none, .alloc [.emp, .emp, .int .i64 0, .int .i64 0, .bool false, .int .i64 0, .int .i64 0, .int .u32 0, .int .u32 0, .int .u32 0, .int .u32 0, .int .i64 0, .int .i64 0, .int .i64 0, .int .i64 0, .int .i64 0, .int .u32 0, .int .u32 0, .int .u32 0, .int .u32 0, .int .i64 0, .int .i64 0, .int .u32 0, .int .u32 0, .int .u32 0, .int .u32 0, .int .i64 0, .int .i64 0, .int .u32 0, .int .u32 0, .int .u32 0, .int .u32 0, .int .i64 0, .emp, .emp, .emp, .emp, .int .i64 0, .int .i64 0, .emp, .bool false]⟩,
  ⟨none, none, .store 41 (.t 7) (.t 117)⟩,
  ⟨some 8, none, .mv (.t 118)⟩])
 (.seq (.seq (.reg [⟨some 119, none, .mv (.t 8)⟩,
  ⟨some 120, none, .bini .neq (.t 119) (.c (.int .i64 0))⟩])
 (.cond (.t 120)
 (.seq (.reg [⟨some 121, none, .faddr 0 (.t 7)⟩,
  ⟨some 122, none, .load true 5 (.t 121)⟩,
  ⟨some 123, none, .faddr 0 (.t 2)⟩,
  ⟨none, none, .store 5 (.t 123) (.t 122)⟩])
 (.seq (.reg [⟨some 124, none, .load true 41 (.t 2)⟩,
  ⟨some 125, none, .mv (.t 8)⟩,
  ⟨some 126, none, .call 86 [(.t 124), (.t 125)]⟩,
  ⟨some 127, none, .ext (.t 126) 0⟩,
  ⟨some 128, none, .ext (.t 126) 1⟩,
  ⟨none, none, .store 41 (.t 4) (.t 127)⟩,
  ⟨none, none, .store 8 (.t 5) (.t 128)⟩])
 .ret))
 .skip))
 (.dregE [[(0, ⟨some 129, none, .load true 41 (.t 7)⟩),
  (1, ⟨some 130, none, .faddr 11 (.t 7)⟩),
  (2, ⟨some 131, none, .faddr 0 (.t 130)⟩),
  (3, ⟨some 132, none, .load false 1 (.t 131)⟩),
  (4, ⟨none, none, .store 41 (.t 2) (.t 129)⟩)],
  [(5, ⟨some 133, none, .faddr 7 (.t 6)⟩)],
  [(6, ⟨none, none, .store 1 (.t 133) (.t 132)⟩)]]
  [[], [], [1], [1, 2], [0], [0, 1, 2, 3, 4], [0, 1, 2, 3, 4, 5]])))
 (.seq (.seq (.reg [⟨some 135, none, .bini .eql (.t 52) (.c (.int .i64 19))⟩,
  ⟨some 134, none, .mv (.t 135)⟩])
 (.cond (.t 134)
 .skip
 (.reg [⟨some 136, none, .bini .eql (.t 52) (.c (.int .i64 20))⟩,
  ⟨some 134, none, .mv (.t 136)⟩])))
 (.cond (.t 134)
 (.seq (.seq (.reg [⟨some 137, none, .faddr 2 (.t 3)⟩,
  ⟨some 138, none, .load false 1 (.t 137)⟩,
  ⟨some 139, none, .bini .lss (.t 138) (.c (.int .i64 0))⟩,
  ⟨some 140, none, .mv (.t 139)⟩,
  ⟨some 141, (some (140, false)), .faddr 2 (.t 3)⟩,
  ⟨some 142, (some (140, false)), .load false 1 (.t 141)⟩,
  ⟨some 143, (some (140, false)), .bini .gtr (.t 142) (.c (.int .i64 200))⟩,
  ⟨some 144, none, .pick (.t 140) (.c (.bool true)) (.t 143)⟩])
 (.cond (.t 144)
 (.seq (.reg [⟨some 145, none, .load true 41 (.t 2)⟩,
  ⟨some 146, none, .call 86 [(.t 145), (.c (.int .i64 1))]⟩,
  ⟨some 147, none, .ext (.t 146) 0⟩,
  ⟨some 148, none, .ext (.t 146) 1⟩,
  ⟨none, none, .store 41 (.t 4) (.t 147)⟩,
  ⟨none, none, .store 8 (.t 5) (.t 148)⟩])
 .ret)
 .skip))
 (.seq (.reg [⟨some 149, none, .faddr 0 (.t 3)⟩,
  ⟨some 150, none, .load false 1 (.t 149)⟩,
  ⟨some 151, none, .bini .eql (.t 150) (.c (.int .i64 19))⟩])
 (.cond (.t 151)
 (.reg [⟨some 152, none, .faddr 2 (.t 3)⟩,
  ⟨some 153, none, .load false 1 (.t 152)⟩,
  ⟨some 154, none, .faddr 0 (.t 2)⟩,
  ⟨some 155, none, .faddr 3 (.t 154)⟩,
  ⟨none, none, .store 1 (.t 155) (.t 153)⟩])
 (.reg [⟨some 156, none, .faddr 2 (.t 3)⟩,
  ⟨some 157, none, .load false 1 (.t 156)⟩,
  ⟨some 158, none, .faddr 0 (.t 2)⟩,
  ⟨some 159, none, .faddr 2 (.t 158)⟩,
  ⟨none, none, .store 1 (.t 159) (.t 157)⟩]))))
 (.seq (.reg [⟨some 161, none, .bini .eql (.t 52) (.c (.int .i64 21))⟩,
  ⟨some 160, none, .mv (.t 161)⟩])
 (.cond (.t 160)
 (.reg [⟨some 162, none, .faddr 0 (.t 2)⟩,
  ⟨some 163, none, .load true 5 (.t 162)⟩,
  ⟨some 164, none, .faddr 8 (.t 3)⟩,
  ⟨some 165, none, .load false 1 (.t 164)⟩,
  ⟨some 166, none, .call 94 [(.t 163), (.t 165)]⟩,
  ⟨some 167, none, .build [.emp, .emp, .int .i64 0, .int .i64 0, .bool false, .int .i64 0, .int .i64 0, .int .u32 0, .int .u32 0, .int .u32 0, .int .u32 0, .int .i64 0, .int .i64 0, .int .i64 0, .int .i64 0, .int .i64 0, .int .u32 0, .int .u32 0, .int .u32 0, .int .u32 0, .int .i64 0, .int .i64 0, .int .u32 0, .int .u32 0, .int .u32 0, .int .u32 0, .int .i64 0, .int .i64 0, .int .u32 0, .int .u32 0, .int .u32 0, .int .u32 0, .int .i64 0, .emp, .emp, .emp, .emp, .int .i64 0, .int .i64 0, .emp, .bool false] [(0, 5, (.t 166))]⟩,
  ⟨none, none, .store 41 (.t 2) (.t 167)⟩])
 (.reg [⟨some 53, none, .faddr 0 (.t 2)⟩,
  ⟨some 54, none, .load true 5 (.t 53)⟩,
  ⟨some 55, none, .faddr 2 (.t 3)⟩,
  ⟨some 56, none, .load false 1 (.t 55)⟩,
  ⟨some 57, none, .faddr 3 (.t 3)⟩,
  ⟨some 58, none, .load false 1 (.t 57)⟩,
  ⟨some 59, none, .faddr 4 (.t 3)⟩,
  ⟨some 60, none, .load false 1 (.t 59)⟩,
  ⟨some 61, none, .call 95 [(.t 54), (.t 56), (.t 58), (.t 60)]⟩,
  ⟨some 62, none, .faddr 0 (.t 2)⟩,
  ⟨none, none, .store 5 (.t 62) (.t 61)⟩])))))))))))))))
 (.seq (.dregE [[(0, ⟨some 168, none, .load true 41 (.t 2)⟩),
  (1, ⟨some 169, none, .load true 8 (.t 6)⟩),
  (2, ⟨none, none, .store 41 (.t 4) (.t 168)⟩)],
  [(3, ⟨none, none, .store 8 (.t 5) (.t 169)⟩)]]
  [[], [], [0], [0, 1, 2]])
 .ret)))))))
theorem d47 : FnD Tryz.prog 47 2 168 [.cell 4 true 41, .cell 5 true 8] c47 := ⟨Tryz.f47, _, Tryz.func47, by kernel_rfl, rfl, rfl, by kernel_rfl, by kernel_rfl⟩
end Go.Proofs.YtemjlopoffjmpaaGreat.Abs
set_option linter.unusedSimpArgs false
set_option linter.unusedVariables false
namespace Go.Proofs.YtemjlopoffjmpaaGreat.Abs
open Go Go.Proofs
theorem files88 (l : List Dset) (hM : MayL l) (nx k i m : Int) (hk : 1 ≤ k ∧ k ≤ 5) (p q t : List UInt8) (hp : p.length ≤ 1000000) (hq : q.length ≤ 1000000) (ht : t.length ≤ 1000000) (H : AH) :
 C Tryz.prog 88 [.agg (poolC nx (asets l)), editA k i m p q t] H (fun y H' => H' = H ∧ PoolR nx l y) :=
 (C_pure (K0 := PoolR nx l) (files88_0 l hM nx k i m hk p q t hp hq ht) (fun τ => renL_bare τ _ (by simp [bareL, bare, asets, poolC, editA])) (by intro x hx τ; exact ren_bare _ _ hx.bare) H).mono fun y H' h => ⟨h.2, h.1⟩
theorem sets89 (l : List Dset) (hM : MayL l) (nx k i m : Int) (hk : 9 ≤ k ∧ k ≤ 14) (hnx : 0 ≤ nx ∧ nx ≤ 1000000) (p q t : List UInt8) (H : AH) :
 C Tryz.prog 89 [.agg (poolC nx (asets l)), editA k i m p q t] H (fun y H' => H' = H ∧ PoolR nx l y) :=
 (C_pure (K0 := PoolR nx l) (sets89_0 l hM nx k i m hk hnx p q t) (fun τ => renL_bare τ _ (by simp [bareL, bare, asets, poolC, editA])) (by intro x hx τ; exact ren_bare _ _ hx.bare) H).mono fun y H' h => ⟨h.2, h.1⟩
set_option maxRecDepth 8000 in
set_option maxHeartbeats 2000000 in
theorem do47_0 (l : List Dset) (hM : MayL l) (nx k i m : Int) (hk : 1 ≤ k ∧ (k ≤ 5 ∨ 9 ≤ k) ∧ k ≤ 14) (hnx : 0 ≤ nx ∧ nx ≤ 1000000) (p q t : List UInt8) (hp : p.length ≤ 1000000) (hq : q.length ≤ 1000000) (ht : t.length ≤ 1000000) :
 C Tryz.prog 47 [.agg (poolC nx (asets l)), editA k i m p q t] [] (fun y H' => PoolR nx l y ∧ H' = []) := by
 have h1 : ¬ k < 1 := by omega
 have h22 : ¬ 22 < k := by omega
 have h14 : k ≤ 14 := hk.2.2
 refine C_body' d47 rfl (WT_ok ?_)
 unfold c47
 by_cases h8 : k ≤ 8
 ·simp only [h1, h22, h8, poolC, editA, asets, lay, iaddr_node, pnode, wk3, wk, seval]
  refine CT_ok (files88 l hM nx k i m (by omega) p q t hp hq ht _) ?_
  rintro _ _ ⟨rfl, l', nx', e, m', r1, r2, r3, r4, rfl⟩
  simp only [toldA, poolC, ansC, asets, lay, iaddr_node, pnode, wk3, wk, seval]
  exact KWk_bare (told_bare nx' l' e m') ⟨⟨l', nx', e, m', r1, r2, r3, r4, rfl⟩, rfl⟩
 ·simp only [h1, h22, h8, h14, poolC, editA, asets, lay, iaddr_node, pnode, wk3, wk, seval]
  refine CT_ok (sets89 l hM nx k i m (by omega) hnx p q t _) ?_
  rintro _ _ ⟨rfl, l', nx', e, m', r1, r2, r3, r4, rfl⟩
  simp only [toldA, poolC, ansC, asets, lay, iaddr_node, pnode, wk3, wk, seval]
  exact KWk_bare (told_bare nx' l' e m') ⟨⟨l', nx', e, m', r1, r2, r3, r4, rfl⟩, rfl⟩
theorem do47 (l : List Dset) (hM : MayL l) (nx k i m : Int) (hk : 1 ≤ k ∧ (k ≤ 5 ∨ 9 ≤ k) ∧ k ≤ 14) (hnx : 0 ≤ nx ∧ nx ≤ 1000000) (p q t : List UInt8) (hp : p.length ≤ 1000000) (hq : q.length ≤ 1000000) (ht : t.length ≤ 1000000) (H : AH) :
 C Tryz.prog 47 [.agg (poolC nx (asets l)), editA k i m p q t] H (fun y H' => H' = H ∧ PoolR nx l y) :=
 (C_pure (K0 := PoolR nx l) (do47_0 l hM nx k i m hk hnx p q t hp hq ht) (fun τ => renL_bare τ _ (by simp [bareL, bare, asets, poolC, editA])) (by intro x hx τ; exact ren_bare _ _ hx.bare) H).mono fun y H' h => ⟨h.2, h.1⟩
end Go.Proofs.YtemjlopoffjmpaaGreat.Abs
set_option linter.unusedSimpArgs false
set_option linter.unusedVariables false
namespace Go.Proofs.YtemjlopoffjmpaaGreat.Abs
open Go Go.Proofs
def StepAt (l : List UInt8) (n : Int) (R : AH) (x : AV) (H' : AH) : Prop := ∃ (k i m n' : Int) (p q t : List UInt8), p.length ≤ 1000000 ∧ q.length ≤ 1000000 ∧ t.length ≤ 1000000 ∧ (n ≤ n' ∧ 1 ≤ k ∧ (k ≤ 5 ∨ 9 ≤ k) ∧ k ≤ 14) ∧ x = editA k i m p q t ∧ H' = some [[.fz (l.map pbyte), .int .i64 n']] :: R
theorem set_at45 (l : List UInt8) (n i : Int) (hn : 0 ≤ n) (hl : l.length ≤ 1000000) (R : AH) :
 C Tryz.prog 45 [.ptr 0 0 0 1, .int .i64 i] (some [[.fz (l.map pbyte), .int .i64 n]] :: R) (StepAt l n R) := by
 refine C_call (K0 := StepR l n) [0] (by simp) (by simp) ?_ ?_
 ·exact set45 l n i hn hl
 ·rintro _ _ ⟨k, i', m, n', p, q, t, h1, h2, h3, h4, rfl, rfl⟩
  exact ⟨Nat.le_refl _, k, i', m, n', p, q, t, h1, h2, h3, h4, by simp [editA, ren, renL], by simp [back, setAll, picksH, renO, renL, ren]⟩
theorem edit_at (l : List UInt8) (n i : Int) (hn : 0 ≤ n) (hl : l.length ≤ 1000000) (R : AH) :
 C Tryz.prog 46 [.ptr 0 0 0 1, .int .i64 i] (some [[.fz (l.map pbyte), .int .i64 n]] :: R) (StepAt l n R) := by
 refine C_call (K0 := EditR l n) [0] (by simp) (by simp) ?_ ?_
 ·exact edit_spec l n i hn hl
 ·rintro _ _ ⟨k, i', m, n', p, q, t, h1, h2, h3, h4, rfl, rfl⟩
  exact ⟨Nat.le_refl _, k, i', m, n', p, q, t, h1, h2, h3, by omega, by simp [editA, ren, renL], by simp [back, setAll, picksH, renO, renL, ren]⟩
theorem over_at (l : List UInt8) (n : Int) (R : AH) :
 C Tryz.prog 43 [.ptr 0 0 0 1] (some [[.fz (l.map pbyte), .int .i64 n]] :: R) (fun x H' => x = .bool (decide ((l.map pbyte).length ≤ n)) ∧ H' = some [[.fz (l.map pbyte), .int .i64 n]] :: R) := by
 refine C_call (K0 := fun x H' => x = .bool (decide ((l.map pbyte).length ≤ n)) ∧ H' = [some [[.fz (l.map pbyte), .int .i64 n]]]) [0] (by simp) (by simp) ?_ ?_
 ·exact over_spec (l.map pbyte) n
 ·rintro _ _ ⟨rfl, rfl⟩
  exact ⟨Nat.le_refl _, by simp [ren], by simp [back, setAll, renO, renL, ren]⟩
theorem Wk_three {fr fr' : List AV} {o o' : AObj} {G : AH} (ho : o.map (renL (upTo 3)) = o) (ho' : o'.map (renL (upTo 3)) = o') (h : Tops fr' (renL (upTo 3) fr)) : Wk 1 fr (some o :: none :: some o' :: G) fr' [some o, none, some o'] := by
 have h1 := (Wk_forget (n0 := 1) (fr := fr) (H := some o :: none :: some o' :: G) 3 (by omega)).trans (Wk_tops h)
 have e : mapH (renL (upTo 3)) ((some o :: none :: some o' :: G).take 3) = [some o, none, some o'] := by
  simp only [List.take_succ_cons, List.take_zero, mapH, List.map_cons, List.map_nil, Option.map_some, Option.map_none, ho, ho']
 rwa [e] at h1
theorem renO_pool (τ : Nat → Option Nat) (nx : Int) (l : List Dset) : List.map (renL τ) [poolC nx (asets l)] = [poolC nx (asets l)] := by simp [poolC, asets, renL, ren]
theorem renO_picks (τ : Nat → Option Nat) (l : List UInt8) (n : Int) : List.map (renL τ) [[AV.fz (l.map pbyte), .int .i64 n]] = [[AV.fz (l.map pbyte), .int .i64 n]] := by simp [renL, ren]
def firstD : Dset := ⟨1, 1, 0, 0, newA⟩
theorem firstD_may : MayL [firstD] := by
 refine ⟨by decide, by simp, fun d hd => ?_, fun i => i.toNat, fun d hd o ho e => ?_⟩
 ·rw [List.mem_singleton] at hd
  subst hd
  exact ⟨⟨by decide, by decide⟩, ⟨by decide, by decide⟩, newA_wf, .inl rfl, fun e => absurd e (by decide), fun _ => .inl rfl⟩
 ·rw [List.mem_singleton] at hd ho
  subst hd; subst ho
  exact absurd e (by decide)
def SetsR (l : List UInt8) (n : Int) (x : AV) (H' : AH) : Prop := ∃ L n', MayL L ∧ L ≠ [] ∧ (n ≤ n' ∧ ∀ d ∈ L, d.id < 900) ∧ x = asets L ∧ H' = picksH l n'
theorem KWk_list {l : List UInt8} {n n' : Int} {L : List Dset} {R : AH} (h : MayL L) (hne : L ≠ []) (hn : n ≤ n' ∧ ∀ d ∈ L, d.id < 900) : KWk 1 (SetsR l n) (asets L) (some [[.fz (l.map pbyte), .int .i64 n']] :: R) := by
 refine ⟨_, _, ?_, L, n', h, hne, hn, rfl, rfl⟩
 have h := Wk_forget (n0 := 1) (fr := [asets L]) (H := some [[.fz (l.map pbyte), .int .i64 n']] :: R) 1 (Nat.le_refl _)
 simpa [mapH, renL, ren, asets, picksH] using h
theorem Wk_first {fr fr' : List AV} (l : List UInt8) (n : Int) (h : Tops fr' (renL (upTo 3) (frzL 1 [pdset firstD] fr))) :
 Wk 1 fr [some [[.fz (l.map pbyte), .int .i64 n]], some [cellD firstD], some [poolC 2 (.own 1 5 0 1 1)]] fr' [some [[.fz (l.map pbyte), .int .i64 n]], none, some [poolC 2 (asets [firstD])]] := by
 have h1 := Wk_freeze (n0 := 1) (fr := fr) (H := [some [[.fz (l.map pbyte), .int .i64 n]], some [cellD firstD], some [poolC 2 (.own 1 5 0 1 1)]]) 1 [pdset firstD] rfl
 have e : mapH (frzL 1 [pdset firstD]) (List.set [some [[AV.fz (l.map pbyte), .int .i64 n]], some [cellD firstD], some [poolC 2 (.own 1 5 0 1 1)]] 1 none) = [some [[.fz (l.map pbyte), .int .i64 n]], none, some [poolC 2 (asets [firstD])]] := by
  simp [mapH, frzL, frz, poolC, asets]
 rw [e] at h1
 exact h1.trans (Wk_three (renO_picks _ l n) (renO_pool _ _ _) h)
set_option maxRecDepth 8000 in
set_option maxHeartbeats 4000000 in
theorem sets14 (l : List UInt8) (n : Int) (most : Nat) (hm : most ≤ 100) (hn : 0 ≤ n) (hl : l.length ≤ 1000000) :
 C Tryz.prog 14 [.ptr 0 0 0 1, .int .i64 most] (picksH l n) (SetsR l n) := by
 refine C_body' d14 rfl (WT_ok ?_)
 unfold c14
 simp only [picksH, lay, iaddr_node, pnode, wk3, wk, seval]
 refine CT_ok (new_spec _) ?_
 rintro _ _ ⟨rfl, rfl⟩
 simp only [aset, lay, iaddr_node, pnode, wk3, wk, seval]
 refine WT_loop (W_wk (fr' := [.ptr 0 0 0 1, .int .i64 most, .top, .top, .emp, .ptr 2 0 0 1, .int .i64 (0 : Nat)] ++ List.replicate 37 .top) (Wk_first l n ?_) (W_loop (fun nn fr H' => ∃ (j : Nat) (L : List Dset) (nx n' : Int), j ≤ most ∧ nn = most - j ∧ MayL L ∧ L ≠ [] ∧ ((0 ≤ nx ∧ nx ≤ 2 + j) ∧ ∀ d ∈ L, d.id < nx) ∧ n ≤ n' ∧ H' = [some [[.fz (l.map pbyte), .int .i64 n']], none, some [poolC nx (asets L)]] ∧
  fr = [.ptr 0 0 0 1, .int .i64 most, .top, .top, .emp, .ptr 2 0 0 1, .int .i64 j] ++ List.replicate 37 .top) most ⟨0, [firstD], 2, n, by omega, rfl, firstD_may, by simp, ⟨by omega, by simp [firstD]⟩, by omega, rfl, rfl⟩ ?_))
 ·simp only [frzL, frz, renL, ren, upTo, show (0 : Nat) < 3 by omega, show (2 : Nat) < 3 by omega, show ¬ (0 : Nat) = 1 by omega, show ¬ (2 : Nat) = 1 by omega, if_true, if_false, List.replicate_succ, List.replicate_zero, List.cons_append, List.nil_append, Tops_top, Tops_same, Tops_nil, Int.natCast_zero]
 rintro nn fr H ⟨j, L, nx, n', hj, rfl, hL, hne, ⟨hnx, hid⟩, hn', rfl, rfl⟩
 have hid9 : ∀ d ∈ L, d.id < 900 := fun d hd => by have := hid d hd; omega
 refine WT_ok ?_
 simp only [poolC, asets, lay, iaddr_node, pnode, wk3, wk, seval]
 by_cases h : (j : Int) < most
 case neg =>
  simp only [h, lay, iaddr_node, pnode, wk3, wk, seval]
  exact KWk_list hL hne ⟨hn', hid9⟩
 simp only [h, lay, iaddr_node, pnode, wk3, wk, seval]
 refine CT_ok (over_at l n' _) ?_
 rintro _ _ ⟨rfl, rfl⟩
 simp only [h, lay, iaddr_node, pnode, wk3, wk, seval]
 refine guard_both ?_ ?_ <;> intro h2 <;> simp only [hy] at h2
 ·simp only [h, h2, lay, iaddr_node, pnode, wk3, wk, seval]
  have w2 : IntKind.i64.wrap ((j : Int) + 1) = (j : Int) + 1 := IntWalk.i64_in _ (by omega)
  refine CT_ok (num_at l n' 8 (by omega) hl _) ?_
  rintro _ H ⟨m1, n1, rfl, k1, k2, k3, k4, _, rfl⟩
  have g1 : m1 < 8 := k2 (by omega)
  have w1 : IntKind.i64.wrap (1 + m1) = 1 + m1 := IntWalk.i64_in _ (by omega)
  simp only [w1, lay, iaddr_node, pnode, wk3, wk, seval]
  refine CT_ok (set_at45 l n1 (1 + m1) (by omega) hl _) ?_
  rintro _ H ⟨k, i, m, n2, p, q, t, hp, hq, ht, hk, rfl, rfl⟩
  simp only [editA, lay, iaddr_node, pnode, wk3, wk, seval]
  refine CT_ok (num_at l n2 3 (by omega) hl _) ?_
  rintro _ H ⟨m3, n3, rfl, j1, j2, j3, j4, _, rfl⟩
  simp only [lay, iaddr_node, pnode, wk3, wk, seval]
  by_cases h3 : 0 < m3
  ·simp only [h3, lay, iaddr_node, pnode, wk3, wk, seval]
   refine CT_ok (edit_at l n3 (1 + m1) (by omega) hl _) ?_
   rintro _ H ⟨k, i, m, n4, p, q, t, hp, hq, ht, hk, rfl, rfl⟩
   simp only [editA, lay, iaddr_node, pnode, wk3, wk, seval]
   refine CT_ok (do47 L hL nx k i m hk.2 (by omega) p q t hp hq ht _) ?_
   rintro _ _ ⟨rfl, L', nx', e, m', r1, r2, r3, r4, rfl⟩
   simp only [toldA, poolC, ansC, asets, w2, lay, iaddr_node, pnode, wk3, wk, seval]
   refine QLoop_wk (n' := most - (j + 1)) (by omega) ⟨j + 1, L', nx', n4, by omega, rfl, r1, r2.1 hne, ⟨by omega, r2.2 hid⟩, by omega, rfl, rfl⟩ (Wk_three (renO_picks _ l _) (renO_pool _ nx' L') ?_)
   simp only [renL, ren, upTo, show (0 : Nat) < 3 by omega, show (2 : Nat) < 3 by omega, if_true, List.replicate_succ, List.replicate_zero, List.cons_append, List.nil_append, Tops_top, Tops_same, Tops_nil, Int.natCast_add, Int.natCast_one]
  ·simp only [h3, lay, iaddr_node, pnode, wk3, wk, seval]
   refine CT_ok (do47 L hL nx k i m hk.2 (by omega) p q t hp hq ht _) ?_
   rintro _ _ ⟨rfl, L', nx', e, m', r1, r2, r3, r4, rfl⟩
   simp only [toldA, poolC, ansC, asets, w2, lay, iaddr_node, pnode, wk3, wk, seval]
   refine QLoop_wk (n' := most - (j + 1)) (by omega) ⟨j + 1, L', nx', n3, by omega, rfl, r1, r2.1 hne, ⟨by omega, r2.2 hid⟩, by omega, rfl, rfl⟩ (Wk_three (renO_picks _ l _) (renO_pool _ nx' L') ?_)
   simp only [renL, ren, upTo, show (0 : Nat) < 3 by omega, show (2 : Nat) < 3 by omega, if_true, List.replicate_succ, List.replicate_zero, List.cons_append, List.nil_append, Tops_top, Tops_same, Tops_nil, Int.natCast_add, Int.natCast_one]
 ·simp only [h, h2, lay, iaddr_node, pnode, wk3, wk, seval]
  exact KWk_list hL hne ⟨hn', hid9⟩
end Go.Proofs.YtemjlopoffjmpaaGreat.Abs
namespace Go.Proofs.YtemjlopoffjmpaaGreat.Abs
open Go
end Go.Proofs.YtemjlopoffjmpaaGreat.Abs
set_option linter.unusedSimpArgs false
set_option linter.unusedVariables false
namespace Go.Proofs.YtemjlopoffjmpaaGreat.Abs
open Go Go.Proofs
end Go.Proofs.YtemjlopoffjmpaaGreat.Abs
set_option linter.unusedSimpArgs false
set_option linter.unusedVariables false
namespace Go.Proofs.YtemjlopoffjmpaaGreat.Abs
open Go Go.Proofs
section
variable (l : List Dset) (hl : Short l) (a b : Int) (H : AH)
include hl
theorem snapL : C Tryz.prog 24 [asets l, .int .i64 a, .int .i64 b] H (fun x H' => x = outA (snapA l a b) ∧ H' = H) := C_any (snap0 l hl a b) (by simp [bareL, asets_bare, bare]) (outA_bare _) H
theorem dcloneL : C Tryz.prog 25 [asets l, .int .i64 a, .int .i64 b] H (fun x H' => x = outA (cloneA l a b) ∧ H' = H) := C_any (dclone0 l hl a b) (by simp [bareL, asets_bare, bare]) (outA_bare _) H
theorem promoteL : C Tryz.prog 29 [asets l, .int .i64 a] H (fun x H' => x = outA (promoteA l a) ∧ H' = H) := C_any (promote0 l hl a) (by simp [bareL, asets_bare, bare]) (outA_bare _) H
end
end Go.Proofs.YtemjlopoffjmpaaGreat.Abs
namespace Go.Proofs.YtemjlopoffjmpaaGreat.Abs
open Go
def c105 : ACode :=
 (.seq (.reg [⟨some 2, none, .mv (.c (.bool false))⟩])
 (.seq (.reg [⟨some 3, none, .mv (.t 0)⟩,
  ⟨some 4, none, .build [.emp] [(0, 1, (.t 3))]⟩,
  ⟨some 5, none, .call 131 [(.t 4)]⟩,
  ⟨some 2, none, .mv (.t 5)⟩])
 .ret))
theorem d105 : FnD Tryz.prog 105 1 5 [.tmp 2] c105 := ⟨Tryz.f105, _, Tryz.func105, by kernel_rfl, rfl, rfl, by kernel_rfl, by kernel_rfl⟩
end Go.Proofs.YtemjlopoffjmpaaGreat.Abs
namespace Go.Proofs.YtemjlopoffjmpaaGreat.Abs
open Go
def c106 : ACode :=
 (.seq (.reg [⟨some 4, none, .mv (.c (.bool false))⟩])
 (.seq (.reg [⟨some 7, none, .mv (.t 1)⟩,
  ⟨some 5, none, .mv (.t 7)⟩])
 (.seq (.seq (.reg [⟨some 8, none, .mv (.t 0)⟩,
  ⟨some 9, none, .len false (.t 8)⟩,
  ⟨some 10, none, .mv (.c (.int .i64 0))⟩])
 (.block 0
 (.loop
 (.seq (.reg [⟨some 11, none, .bini .lss (.t 10) (.t 9)⟩])
 (.seq (.cond (.t 11)
 .skip
 (.exit 0))
 (.seq (.block 1
 (.seq (.reg [⟨some 12, none, .mv (.t 0)⟩,
  ⟨some 13, none, .mv (.t 5)⟩,
  ⟨some 14, none, .call 59 [(.t 12), (.t 13)]⟩,
  ⟨some 6, none, .mv (.t 14)⟩])
 (.seq (.seq (.reg [⟨some 15, none, .mv (.t 6)⟩,
  ⟨some 16, none, .bini .lss (.t 15) (.c (.int .i64 0))⟩])
 (.cond (.t 16)
 (.seq (.reg [⟨some 4, none, .mv (.c (.bool false))⟩])
 .ret)
 .skip))
 (.seq (.reg [⟨some 17, none, .mv (.t 0)⟩,
  ⟨some 18, none, .mv (.t 6)⟩,
  ⟨some 19, none, .iaddr 5 (.t 17) (.t 18)⟩,
  ⟨some 20, none, .faddr 2 (.t 19)⟩,
  ⟨some 21, none, .load false 1 (.t 20)⟩,
  ⟨some 5, none, .mv (.t 21)⟩])
 (.seq (.reg [⟨some 22, none, .mv (.t 5)⟩,
  ⟨some 23, none, .mv (.t 1)⟩,
  ⟨some 24, none, .bini .eql (.t 22) (.t 23)⟩])
 (.cond (.t 24)
 (.seq (.reg [⟨some 4, none, .mv (.c (.bool true))⟩])
 .ret)
 .skip))))))
 (.reg [⟨some 25, none, .bini .add (.t 10) (.c (.int .i64 1))⟩,
  ⟨some 10, none, .mv (.t 25)⟩])))))))
 (.seq (.reg [⟨some 4, none, .mv (.c (.bool false))⟩])
 .ret))))
theorem d106 : FnD Tryz.prog 106 2 24 [.tmp 4] c106 := ⟨Tryz.f106, _, Tryz.func106, by kernel_rfl, rfl, rfl, by kernel_rfl, by kernel_rfl⟩
end Go.Proofs.YtemjlopoffjmpaaGreat.Abs
namespace Go.Proofs.YtemjlopoffjmpaaGreat.Abs
open Go
def c107 : ACode :=
 (.seq (.reg [⟨some 4, none, .mv (.c (.bool false))⟩])
 (.seq (.seq (.reg [⟨some 6, none, .mv (.t 0)⟩,
  ⟨some 7, none, .len false (.t 6)⟩,
  ⟨some 8, none, .mv (.t 1)⟩,
  ⟨some 9, none, .len false (.t 8)⟩,
  ⟨some 10, none, .bini .neq (.t 7) (.t 9)⟩])
 (.cond (.t 10)
 (.seq (.reg [⟨some 4, none, .mv (.c (.bool false))⟩])
 .ret)
 .skip))
 (.seq (.seq (.reg [⟨some 11, none, .mv (.t 0)⟩,
  ⟨some 12, none, .len false (.t 11)⟩,
  ⟨some 13, none, .mv (.c (.int .i64 0))⟩])
 (.block 0
 (.loop
 (.seq (.reg [⟨some 14, none, .bini .lss (.t 13) (.t 12)⟩])
 (.seq (.cond (.t 14)
 .skip
 (.exit 0))
 (.seq (.block 1
 (.seq (.reg [⟨some 15, none, .mv (.t 13)⟩,
  ⟨some 5, none, .mv (.t 15)⟩])
 (.seq (.dreg [⟨some 16, none, .mv (.t 0)⟩,
  ⟨some 17, none, .mv (.t 5)⟩,
  ⟨some 18, none, .iaddr 5 (.t 16) (.t 17)⟩,
  ⟨some 19, none, .load true 5 (.t 18)⟩,
  ⟨some 20, none, .mv (.t 1)⟩,
  ⟨some 21, none, .mv (.t 5)⟩,
  ⟨some 22, none, .iaddr 5 (.t 20) (.t 21)⟩,
  ⟨some 23, none, .load true 5 (.t 22)⟩,
  ⟨some 24, none, .eqs true [.i, .i, .s, .s, .i] (.t 19) (.t 23)⟩])
 (.cond (.t 24)
 (.seq (.reg [⟨some 4, none, .mv (.c (.bool false))⟩])
 .ret)
 .skip))))
 (.reg [⟨some 25, none, .bini .add (.t 13) (.c (.int .i64 1))⟩,
  ⟨some 13, none, .mv (.t 25)⟩])))))))
 (.seq (.reg [⟨some 4, none, .mv (.c (.bool true))⟩])
 .ret))))
theorem d107 : FnD Tryz.prog 107 2 24 [.tmp 4] c107 := ⟨Tryz.f107, _, Tryz.func107, by kernel_rfl, rfl, rfl, by kernel_rfl, by kernel_rfl⟩
end Go.Proofs.YtemjlopoffjmpaaGreat.Abs
namespace Go.Proofs.YtemjlopoffjmpaaGreat.Abs
open Go
def c131 : ACode :=
 (.seq (.reg [⟨some 1, none, .box (.t 0)⟩,
  ⟨some 2, none, .mv (.c (.bool false))⟩])
 (.seq (.seq (.reg [⟨some 7, none, .faddr 0 (.t 1)⟩,
  ⟨some 8, none, .load false 1 (.t 7)⟩,
  ⟨some 9, none, .len false (.t 8)⟩,
  ⟨some 10, none, .bini .neq (.t 9) (.c (.int .i64 8))⟩,
  ⟨some 11, none, .mv (.t 10)⟩,
  ⟨some 12, (some (11, false)), .faddr 0 (.t 1)⟩,
  ⟨some 13, (some (11, false)), .load false 1 (.t 12)⟩,
  ⟨some 14, (some (11, false)), .iaddr 5 (.t 13) (.c (.int .i64 0))⟩,
  ⟨some 15, (some (11, false)), .load true 5 (.t 14)⟩,
  ⟨some 16, (some (11, false)), .build [.int .i64 0, .int .i64 0, .str [], .str [], .int .i64 0] [(0, 1, (.c (.int .i64 2)))]⟩,
  ⟨some 17, (some (11, false)), .eqs true [.i, .i, .s, .s, .i] (.t 15) (.t 16)⟩,
  ⟨some 18, none, .pick (.t 11) (.c (.bool true)) (.t 17)⟩])
 (.cond (.t 18)
 (.seq (.reg [⟨some 2, none, .mv (.c (.bool false))⟩])
 .ret)
 .skip))
 (.seq (.seq (.reg [⟨some 19, none, .faddr 0 (.t 1)⟩,
  ⟨some 20, none, .load false 1 (.t 19)⟩,
  ⟨some 21, none, .slicel 5 (.t 20) (some (.c (.int .i64 1))) none⟩,
  ⟨some 22, none, .len false (.t 21)⟩,
  ⟨some 23, none, .mv (.c (.int .i64 0))⟩])
 (.block 0
 (.loop
 (.seq (.reg [⟨some 24, none, .bini .lss (.t 23) (.t 22)⟩])
 (.seq (.cond (.t 24)
 .skip
 (.exit 0))
 (.seq (.block 1
 (.seq (.reg [⟨some 25, none, .iaddr 5 (.t 21) (.t 23)⟩,
  ⟨some 26, none, .load true 5 (.t 25)⟩,
  ⟨some 4, none, .alloc [.int .i64 0, .int .i64 0, .str [], .str [], .int .i64 0]⟩,
  ⟨none, none, .store 5 (.t 4) (.t 26)⟩])
 (.seq (.reg [⟨some 27, none, .load true 5 (.t 4)⟩,
  ⟨some 28, none, .build [.int .i64 0, .int .i64 0, .str [], .str [], .int .i64 0] []⟩,
  ⟨some 29, none, .eqs true [.i, .i, .s, .s, .i] (.t 27) (.t 28)⟩,
  ⟨some 30, none, .mv (.t 29)⟩,
  ⟨some 31, (some (30, true)), .load true 1 (.t 1)⟩,
  ⟨some 32, (some (30, true)), .load true 5 (.t 4)⟩,
  ⟨some 33, (some (30, true)), .call 158 [(.t 31), (.t 32)]⟩,
  ⟨some 34, (some (30, true)), .un .not (.t 33)⟩,
  ⟨some 35, none, .pick (.t 30) (.t 34) (.c (.bool false))⟩])
 (.cond (.t 35)
 (.seq (.reg [⟨some 2, none, .mv (.c (.bool false))⟩])
 .ret)
 .skip))))
 (.reg [⟨some 36, none, .bini .add (.t 23) (.c (.int .i64 1))⟩,
  ⟨some 23, none, .mv (.t 36)⟩])))))))
 (.seq (.seq (.reg [⟨some 37, none, .faddr 0 (.t 1)⟩,
  ⟨some 38, none, .load false 1 (.t 37)⟩,
  ⟨some 39, none, .len false (.t 38)⟩,
  ⟨some 40, none, .mv (.c (.int .i64 0))⟩])
 (.block 2
 (.loop
 (.seq (.reg [⟨some 41, none, .bini .lss (.t 40) (.t 39)⟩])
 (.seq (.cond (.t 41)
 .skip
 (.exit 2))
 (.seq (.block 3
 (.seq (.reg [⟨some 42, none, .mv (.t 40)⟩,
  ⟨some 43, none, .iaddr 5 (.t 38) (.t 40)⟩,
  ⟨some 44, none, .load true 5 (.t 43)⟩,
  ⟨some 6, none, .alloc [.int .i64 0, .int .i64 0, .str [], .str [], .int .i64 0]⟩,
  ⟨some 5, none, .mv (.t 42)⟩,
  ⟨none, none, .store 5 (.t 6) (.t 44)⟩])
 (.seq (.reg [⟨some 45, none, .mv (.t 5)⟩,
  ⟨some 46, none, .bini .gtr (.t 45) (.c (.int .i64 0))⟩,
  ⟨some 47, none, .mv (.t 46)⟩,
  ⟨some 48, (some (47, true)), .faddr 0 (.t 6)⟩,
  ⟨some 49, (some (47, true)), .load false 1 (.t 48)⟩,
  ⟨some 50, (some (47, true)), .bini .neq (.t 49) (.c (.int .i64 0))⟩,
  ⟨some 51, none, .pick (.t 47) (.t 50) (.c (.bool false))⟩,
  ⟨some 52, none, .mv (.t 51)⟩,
  ⟨some 53, (some (52, true)), .load true 1 (.t 1)⟩,
  ⟨some 54, (some (52, true)), .mv (.t 5)⟩,
  ⟨some 55, (some (52, true)), .call 159 [(.t 53), (.t 54)]⟩,
  ⟨some 56, (some (52, true)), .un .not (.t 55)⟩,
  ⟨some 57, (some (52, true)), .mv (.t 56)⟩,
  ⟨some 58, (some (57, false)), .load true 1 (.t 1)⟩,
  ⟨some 59, (some (57, false)), .mv (.t 5)⟩,
  ⟨some 60, (some (57, false)), .call 160 [(.t 58), (.t 59)]⟩,
  ⟨some 61, (some (52, true)), .pick (.t 57) (.c (.bool true)) (.t 60)⟩,
  ⟨some 62, none, .pick (.t 52) (.t 61) (.c (.bool false))⟩])
 (.cond (.t 62)
 (.seq (.reg [⟨some 2, none, .mv (.c (.bool false))⟩])
 .ret)
 .skip))))
 (.reg [⟨some 63, none, .bini .add (.t 40) (.c (.int .i64 1))⟩,
  ⟨some 40, none, .mv (.t 63)⟩])))))))
 (.seq (.reg [⟨some 2, none, .mv (.c (.bool true))⟩])
 .ret)))))
theorem d131 : FnD Tryz.prog 131 1 63 [.tmp 2] c131 := ⟨Tryz.f131, _, Tryz.func131, by kernel_rfl, rfl, rfl, by kernel_rfl, by kernel_rfl⟩
end Go.Proofs.YtemjlopoffjmpaaGreat.Abs
namespace Go.Proofs.YtemjlopoffjmpaaGreat.Abs
open Go
def c158 : ACode :=
 (.seq (.reg [⟨some 2, none, .box (.t 0)⟩,
  ⟨some 3, none, .box (.t 1)⟩,
  ⟨some 4, none, .mv (.c (.bool false))⟩])
 (.seq (.block 0
 (.seq (.reg [⟨some 6, none, .faddr 4 (.t 3)⟩,
  ⟨some 7, none, .load false 1 (.t 6)⟩,
  ⟨some 8, none, .bini .neq (.t 7) (.c (.int .i64 0))⟩,
  ⟨some 9, none, .mv (.t 8)⟩,
  ⟨some 10, (some (9, false)), .faddr 2 (.t 3)⟩,
  ⟨some 11, (some (9, false)), .load false 1 (.t 10)⟩,
  ⟨some 12, (some (9, false)), .call 201 [(.t 11)]⟩,
  ⟨some 13, (some (9, false)), .un .not (.t 12)⟩,
  ⟨some 14, none, .pick (.t 9) (.c (.bool true)) (.t 13)⟩,
  ⟨some 15, none, .mv (.t 14)⟩,
  ⟨some 16, (some (15, false)), .load true 1 (.t 2)⟩,
  ⟨some 17, (some (15, false)), .faddr 1 (.t 3)⟩,
  ⟨some 18, (some (15, false)), .load false 1 (.t 17)⟩,
  ⟨some 19, (some (15, false)), .call 202 [(.t 16), (.t 18)]⟩,
  ⟨some 20, (some (15, false)), .un .not (.t 19)⟩,
  ⟨some 21, none, .pick (.t 15) (.c (.bool true)) (.t 20)⟩,
  ⟨some 5, none, .mv (.t 21)⟩])
 (.cond (.t 5)
 (.seq (.reg [⟨some 4, none, .mv (.c (.bool false))⟩])
 .ret)
 (.seq (.reg [⟨some 23, none, .faddr 0 (.t 3)⟩,
  ⟨some 24, none, .load false 1 (.t 23)⟩,
  ⟨some 25, none, .bini .eql (.t 24) (.c (.int .i64 1))⟩,
  ⟨some 22, none, .mv (.t 25)⟩])
 (.cond (.t 22)
 (.seq (.reg [⟨some 26, none, .faddr 3 (.t 3)⟩,
  ⟨some 27, none, .load false 1 (.t 26)⟩,
  ⟨some 28, none, .len true (.t 27)⟩,
  ⟨some 29, none, .bini .leq (.t 28) (.c (.int .i64 128))⟩,
  ⟨some 4, none, .mv (.t 29)⟩])
 .ret)
 .skip)))))
 (.seq (.reg [⟨some 30, none, .faddr 0 (.t 3)⟩,
  ⟨some 31, none, .load false 1 (.t 30)⟩,
  ⟨some 32, none, .bini .eql (.t 31) (.c (.int .i64 2))⟩,
  ⟨some 33, none, .mv (.t 32)⟩,
  ⟨some 34, (some (33, true)), .faddr 3 (.t 3)⟩,
  ⟨some 35, (some (33, true)), .load false 1 (.t 34)⟩,
  ⟨some 36, (some (33, true)), .bins .eql (.t 35) (.c (.str []))⟩,
  ⟨some 37, none, .pick (.t 33) (.t 36) (.c (.bool false))⟩,
  ⟨some 4, none, .mv (.t 37)⟩])
 .ret)))
theorem d158 : FnD Tryz.prog 158 2 36 [.tmp 4] c158 := ⟨Tryz.f158, _, Tryz.func158, by kernel_rfl, rfl, rfl, by kernel_rfl, by kernel_rfl⟩
end Go.Proofs.YtemjlopoffjmpaaGreat.Abs
namespace Go.Proofs.YtemjlopoffjmpaaGreat.Abs
open Go
def c159 : ACode :=
 (.seq (.reg [⟨some 2, none, .box (.t 0)⟩,
  ⟨some 4, none, .mv (.c (.bool false))⟩])
 (.seq (.seq (.reg [⟨some 5, none, .faddr 0 (.t 2)⟩,
  ⟨some 6, none, .load false 1 (.t 5)⟩,
  ⟨some 7, none, .len false (.t 6)⟩,
  ⟨some 8, none, .mv (.c (.int .i64 0))⟩])
 (.block 0
 (.loop
 (.seq (.reg [⟨some 9, none, .bini .lss (.t 8) (.t 7)⟩])
 (.seq (.cond (.t 9)
 .skip
 (.exit 0))
 (.seq (.block 1
 (.seq (.seq (.reg [⟨some 10, none, .mv (.t 1)⟩,
  ⟨some 11, none, .bini .eql (.t 10) (.c (.int .i64 0))⟩])
 (.cond (.t 11)
 (.seq (.reg [⟨some 4, none, .mv (.c (.bool true))⟩])
 .ret)
 .skip))
 (.reg [⟨some 12, none, .faddr 0 (.t 2)⟩,
  ⟨some 13, none, .load false 1 (.t 12)⟩,
  ⟨some 14, none, .mv (.t 1)⟩,
  ⟨some 15, none, .iaddr 5 (.t 13) (.t 14)⟩,
  ⟨some 16, none, .faddr 1 (.t 15)⟩,
  ⟨some 17, none, .load false 1 (.t 16)⟩,
  ⟨some 1, none, .mv (.t 17)⟩])))
 (.reg [⟨some 18, none, .bini .add (.t 8) (.c (.int .i64 1))⟩,
  ⟨some 8, none, .mv (.t 18)⟩])))))))
 (.seq (.reg [⟨some 4, none, .mv (.c (.bool false))⟩])
 .ret)))
theorem d159 : FnD Tryz.prog 159 2 17 [.tmp 4] c159 := ⟨Tryz.f159, _, Tryz.func159, by kernel_rfl, rfl, rfl, by kernel_rfl, by kernel_rfl⟩
end Go.Proofs.YtemjlopoffjmpaaGreat.Abs
namespace Go.Proofs.YtemjlopoffjmpaaGreat.Abs
open Go
def c160 : ACode :=
 (.seq (.reg [⟨some 2, none, .box (.t 0)⟩,
  ⟨some 4, none, .mv (.c (.bool false))⟩])
 (.seq (.seq (.reg [⟨some 7, none, .faddr 0 (.t 2)⟩,
  ⟨some 8, none, .load false 1 (.t 7)⟩,
  ⟨some 9, none, .len false (.t 8)⟩,
  ⟨some 10, none, .mv (.c (.int .i64 0))⟩])
 (.block 0
 (.loop
 (.seq (.reg [⟨some 11, none, .bini .lss (.t 10) (.t 9)⟩])
 (.seq (.cond (.t 11)
 .skip
 (.exit 0))
 (.seq (.block 1
 (.seq (.reg [⟨some 12, none, .mv (.t 10)⟩,
  ⟨some 13, none, .iaddr 5 (.t 8) (.t 10)⟩,
  ⟨some 14, none, .load true 5 (.t 13)⟩,
  ⟨some 6, none, .alloc [.int .i64 0, .int .i64 0, .str [], .str [], .int .i64 0]⟩,
  ⟨some 5, none, .mv (.t 12)⟩,
  ⟨none, none, .store 5 (.t 6) (.t 14)⟩])
 (.seq (.dreg [⟨some 15, none, .mv (.t 5)⟩,
  ⟨some 16, none, .bini .gtr (.t 15) (.c (.int .i64 0))⟩,
  ⟨some 17, none, .mv (.t 16)⟩,
  ⟨some 18, (some (17, true)), .mv (.t 5)⟩,
  ⟨some 19, (some (17, true)), .mv (.t 1)⟩,
  ⟨some 20, (some (17, true)), .bini .neq (.t 18) (.t 19)⟩,
  ⟨some 21, none, .pick (.t 17) (.t 20) (.c (.bool false))⟩,
  ⟨some 22, none, .mv (.t 21)⟩,
  ⟨some 23, (some (22, true)), .faddr 0 (.t 6)⟩,
  ⟨some 24, (some (22, true)), .load false 1 (.t 23)⟩,
  ⟨some 25, (some (22, true)), .bini .neq (.t 24) (.c (.int .i64 0))⟩,
  ⟨some 26, none, .pick (.t 22) (.t 25) (.c (.bool false))⟩,
  ⟨some 27, none, .mv (.t 26)⟩,
  ⟨some 28, (some (27, true)), .faddr 1 (.t 6)⟩,
  ⟨some 29, (some (27, true)), .load false 1 (.t 28)⟩,
  ⟨some 30, (some (27, true)), .faddr 0 (.t 2)⟩,
  ⟨some 31, (some (27, true)), .load false 1 (.t 30)⟩,
  ⟨some 32, (some (27, true)), .mv (.t 1)⟩,
  ⟨some 33, (some (27, true)), .iaddr 5 (.t 31) (.t 32)⟩,
  ⟨some 34, (some (27, true)), .faddr 1 (.t 33)⟩,
  ⟨some 35, (some (27, true)), .load false 1 (.t 34)⟩,
  ⟨some 36, (some (27, true)), .bini .eql (.t 29) (.t 35)⟩,
  ⟨some 37, none, .pick (.t 27) (.t 36) (.c (.bool false))⟩,
  ⟨some 38, none, .mv (.t 37)⟩,
  ⟨some 39, (some (38, true)), .faddr 2 (.t 6)⟩,
  ⟨some 40, (some (38, true)), .load false 1 (.t 39)⟩,
  ⟨some 41, (some (38, true)), .faddr 0 (.t 2)⟩,
  ⟨some 42, (some (38, true)), .load false 1 (.t 41)⟩,
  ⟨some 43, (some (38, true)), .mv (.t 1)⟩,
  ⟨some 44, (some (38, true)), .iaddr 5 (.t 42) (.t 43)⟩,
  ⟨some 45, (some (38, true)), .faddr 2 (.t 44)⟩,
  ⟨some 46, (some (38, true)), .load false 1 (.t 45)⟩,
  ⟨some 47, (some (38, true)), .bins .eql (.t 40) (.t 46)⟩,
  ⟨some 48, none, .pick (.t 38) (.t 47) (.c (.bool false))⟩])
 (.cond (.t 48)
 (.seq (.reg [⟨some 4, none, .mv (.c (.bool true))⟩])
 .ret)
 .skip))))
 (.reg [⟨some 49, none, .bini .add (.t 10) (.c (.int .i64 1))⟩,
  ⟨some 10, none, .mv (.t 49)⟩])))))))
 (.seq (.reg [⟨some 4, none, .mv (.c (.bool false))⟩])
 .ret)))
theorem d160 : FnD Tryz.prog 160 2 48 [.tmp 4] c160 := ⟨Tryz.f160, _, Tryz.func160, by kernel_rfl, rfl, rfl, by kernel_rfl, by kernel_rfl⟩
end Go.Proofs.YtemjlopoffjmpaaGreat.Abs
namespace Go.Proofs.YtemjlopoffjmpaaGreat.Abs
open Go
def c201 : ACode :=
 (.seq (.reg [⟨some 2, none, .mv (.c (.bool false))⟩])
 (.seq (.reg [⟨some 3, none, .mv (.t 0)⟩,
  ⟨some 4, none, .bins .neq (.t 3) (.c (.str []))⟩,
  ⟨some 5, none, .mv (.t 4)⟩,
  ⟨some 6, (some (5, true)), .mv (.t 0)⟩,
  ⟨some 7, (some (5, true)), .len true (.t 6)⟩,
  ⟨some 8, (some (5, true)), .bini .leq (.t 7) (.c (.int .i64 8))⟩,
  ⟨some 9, none, .pick (.t 5) (.t 8) (.c (.bool false))⟩,
  ⟨some 10, none, .mv (.t 9)⟩,
  ⟨some 11, (some (10, true)), .mv (.t 0)⟩,
  ⟨some 12, (some (10, true)), .call 224 [(.t 11)]⟩,
  ⟨some 13, none, .pick (.t 10) (.t 12) (.c (.bool false))⟩,
  ⟨some 14, none, .mv (.t 13)⟩,
  ⟨some 15, (some (14, true)), .mv (.t 0)⟩,
  ⟨some 16, (some (14, true)), .bins .neq (.t 15) (.c (.str [46]))⟩,
  ⟨some 17, none, .pick (.t 14) (.t 16) (.c (.bool false))⟩,
  ⟨some 18, none, .mv (.t 17)⟩,
  ⟨some 19, (some (18, true)), .mv (.t 0)⟩,
  ⟨some 20, (some (18, true)), .bins .neq (.t 19) (.c (.str [46, 46]))⟩,
  ⟨some 21, none, .pick (.t 18) (.t 20) (.c (.bool false))⟩,
  ⟨some 2, none, .mv (.t 21)⟩])
 .ret))
theorem d201 : FnD Tryz.prog 201 1 21 [.tmp 2] c201 := ⟨Tryz.f201, _, Tryz.func201, by kernel_rfl, rfl, rfl, by kernel_rfl, by kernel_rfl⟩
end Go.Proofs.YtemjlopoffjmpaaGreat.Abs
namespace Go.Proofs.YtemjlopoffjmpaaGreat.Abs
open Go
def c202 : ACode :=
 (.seq (.reg [⟨some 2, none, .box (.t 0)⟩,
  ⟨some 4, none, .mv (.c (.bool false))⟩])
 (.seq (.reg [⟨some 5, none, .mv (.t 1)⟩,
  ⟨some 6, none, .bini .geq (.t 5) (.c (.int .i64 0))⟩,
  ⟨some 7, none, .mv (.t 6)⟩,
  ⟨some 8, (some (7, true)), .mv (.t 1)⟩,
  ⟨some 9, (some (7, true)), .faddr 0 (.t 2)⟩,
  ⟨some 10, (some (7, true)), .load false 1 (.t 9)⟩,
  ⟨some 11, (some (7, true)), .len false (.t 10)⟩,
  ⟨some 12, (some (7, true)), .bini .lss (.t 8) (.t 11)⟩,
  ⟨some 13, none, .pick (.t 7) (.t 12) (.c (.bool false))⟩,
  ⟨some 14, none, .mv (.t 13)⟩,
  ⟨some 15, (some (14, true)), .faddr 0 (.t 2)⟩,
  ⟨some 16, (some (14, true)), .load false 1 (.t 15)⟩,
  ⟨some 17, (some (14, true)), .mv (.t 1)⟩,
  ⟨some 18, (some (14, true)), .iaddr 5 (.t 16) (.t 17)⟩,
  ⟨some 19, (some (14, true)), .faddr 0 (.t 18)⟩,
  ⟨some 20, (some (14, true)), .load false 1 (.t 19)⟩,
  ⟨some 21, (some (14, true)), .bini .eql (.t 20) (.c (.int .i64 2))⟩,
  ⟨some 22, none, .pick (.t 14) (.t 21) (.c (.bool false))⟩,
  ⟨some 4, none, .mv (.t 22)⟩])
 .ret))
theorem d202 : FnD Tryz.prog 202 2 21 [.tmp 4] c202 := ⟨Tryz.f202, _, Tryz.func202, by kernel_rfl, rfl, rfl, by kernel_rfl, by kernel_rfl⟩
end Go.Proofs.YtemjlopoffjmpaaGreat.Abs
namespace Go.Proofs.YtemjlopoffjmpaaGreat.Abs
open Go
def c224 : ACode :=
 (.seq (.reg [⟨some 2, none, .mv (.c (.bool false))⟩])
 (.seq (.seq (.reg [⟨some 5, none, .mv (.t 0)⟩,
  ⟨some 6, none, .convsb (.t 5)⟩,
  ⟨some 7, none, .len false (.t 6)⟩,
  ⟨some 8, none, .mv (.c (.int .i64 0))⟩])
 (.block 0
 (.loop
 (.seq (.reg [⟨some 9, none, .bini .lss (.t 8) (.t 7)⟩])
 (.seq (.cond (.t 9)
 .skip
 (.exit 0))
 (.seq (.block 1
 (.seq (.reg [⟨some 10, none, .iaddr 1 (.t 6) (.t 8)⟩,
  ⟨some 11, none, .load false 1 (.t 10)⟩,
  ⟨some 4, none, .mv (.t 11)⟩])
 (.seq (.reg [⟨some 12, none, .mv (.t 4)⟩,
  ⟨some 13, none, .call 229 [(.c (.str [97, 98, 99, 100, 101, 102, 103, 104, 105, 106, 107, 108, 109, 110, 111, 112, 113, 114, 115, 116, 117, 118, 119, 120, 121, 122, 48, 49, 50, 51, 52, 53, 54, 55, 56, 57, 46, 95, 45])), (.t 12)]⟩,
  ⟨some 14, none, .bini .lss (.t 13) (.c (.int .i64 0))⟩])
 (.cond (.t 14)
 (.seq (.reg [⟨some 2, none, .mv (.c (.bool false))⟩])
 .ret)
 .skip))))
 (.reg [⟨some 15, none, .bini .add (.t 8) (.c (.int .i64 1))⟩,
  ⟨some 8, none, .mv (.t 15)⟩])))))))
 (.seq (.reg [⟨some 2, none, .mv (.c (.bool true))⟩])
 .ret)))
theorem d224 : FnD Tryz.prog 224 1 15 [.tmp 2] c224 := ⟨Tryz.f224, _, Tryz.func224, by kernel_rfl, rfl, rfl, by kernel_rfl, by kernel_rfl⟩
end Go.Proofs.YtemjlopoffjmpaaGreat.Abs
namespace Go.Proofs.YtemjlopoffjmpaaGreat.Abs
open Go
def c23 : ACode :=
 (.seq (.reg [⟨some 0, none, .mv (.c (.bool false))⟩])
 (.seq (.reg [⟨some 14, none, .call 37 [(.c (.emp)), (.c (.int .i64 1)), (.c (.int .i64 0))]⟩,
  ⟨some 13, none, .mv (.t 14)⟩,
  ⟨some 15, none, .ext (.t 13) 0⟩,
  ⟨some 16, none, .ext (.t 13) 1⟩,
  ⟨some 1, none, .mv (.t 15)⟩,
  ⟨some 2, none, .mv (.t 16)⟩])
 (.seq (.reg [⟨some 18, none, .mv (.t 1)⟩,
  ⟨some 19, none, .call 24 [(.t 18), (.c (.int .i64 2)), (.c (.int .i64 1))]⟩,
  ⟨some 17, none, .mv (.t 19)⟩,
  ⟨some 20, none, .ext (.t 17) 0⟩,
  ⟨some 21, none, .ext (.t 17) 1⟩,
  ⟨some 3, none, .mv (.t 20)⟩,
  ⟨some 4, none, .mv (.t 21)⟩])
 (.seq (.reg [⟨some 23, none, .mv (.t 3)⟩,
  ⟨some 24, none, .call 25 [(.t 23), (.c (.int .i64 3)), (.c (.int .i64 2))]⟩,
  ⟨some 22, none, .mv (.t 24)⟩,
  ⟨some 25, none, .ext (.t 22) 0⟩,
  ⟨some 26, none, .ext (.t 22) 1⟩,
  ⟨some 5, none, .mv (.t 25)⟩,
  ⟨some 6, none, .mv (.t 26)⟩])
 (.seq (.reg [⟨some 28, none, .mv (.t 5)⟩,
  ⟨some 29, none, .call 29 [(.t 28), (.c (.int .i64 3))]⟩,
  ⟨some 27, none, .mv (.t 29)⟩,
  ⟨some 30, none, .ext (.t 27) 0⟩,
  ⟨some 31, none, .ext (.t 27) 1⟩,
  ⟨some 7, none, .mv (.t 30)⟩,
  ⟨some 8, none, .mv (.t 31)⟩])
 (.seq (.reg [⟨some 33, none, .mv (.t 7)⟩,
  ⟨some 34, none, .call 32 [(.t 33), (.c (.int .i64 2))]⟩,
  ⟨some 32, none, .mv (.t 34)⟩,
  ⟨some 35, none, .ext (.t 32) 0⟩,
  ⟨some 36, none, .ext (.t 32) 1⟩,
  ⟨some 9, none, .mv (.t 35)⟩,
  ⟨some 10, none, .mv (.t 36)⟩])
 (.seq (.reg [⟨some 38, none, .mv (.t 7)⟩,
  ⟨some 39, none, .call 27 [(.t 38), (.c (.int .i64 1))]⟩,
  ⟨some 37, none, .mv (.t 39)⟩,
  ⟨some 40, none, .ext (.t 37) 0⟩,
  ⟨some 41, none, .ext (.t 37) 1⟩,
  ⟨some 11, none, .alloc [.int .i64 0, .int .i64 0, .int .i64 0, .int .i64 0, .emp]⟩,
  ⟨none, none, .store 5 (.t 11) (.t 40)⟩,
  ⟨some 12, none, .mv (.t 41)⟩])
 (.seq (.reg [⟨some 42, none, .mv (.t 2)⟩,
  ⟨some 43, none, .bini .eql (.t 42) (.c (.int .i64 0))⟩,
  ⟨some 44, none, .mv (.t 43)⟩,
  ⟨some 45, (some (44, true)), .mv (.t 4)⟩,
  ⟨some 46, (some (44, true)), .bini .eql (.t 45) (.c (.int .i64 0))⟩,
  ⟨some 47, none, .pick (.t 44) (.t 46) (.c (.bool false))⟩,
  ⟨some 48, none, .mv (.t 47)⟩,
  ⟨some 49, (some (48, true)), .mv (.t 6)⟩,
  ⟨some 50, (some (48, true)), .bini .eql (.t 49) (.c (.int .i64 0))⟩,
  ⟨some 51, none, .pick (.t 48) (.t 50) (.c (.bool false))⟩,
  ⟨some 52, none, .mv (.t 51)⟩,
  ⟨some 53, (some (52, true)), .mv (.t 8)⟩,
  ⟨some 54, (some (52, true)), .bini .eql (.t 53) (.c (.int .i64 0))⟩,
  ⟨some 55, none, .pick (.t 52) (.t 54) (.c (.bool false))⟩,
  ⟨some 56, none, .mv (.t 55)⟩,
  ⟨some 57, (some (56, true)), .mv (.t 10)⟩,
  ⟨some 58, (some (56, true)), .bini .eql (.t 57) (.c (.int .i64 10))⟩,
  ⟨some 59, none, .pick (.t 56) (.t 58) (.c (.bool false))⟩,
  ⟨some 60, none, .mv (.t 59)⟩,
  ⟨some 61, (some (60, true)), .mv (.t 12)⟩,
  ⟨some 62, none, .pick (.t 60) (.t 61) (.c (.bool false))⟩,
  ⟨some 63, none, .mv (.t 62)⟩,
  ⟨some 64, (some (63, true)), .faddr 2 (.t 11)⟩,
  ⟨some 65, (some (63, true)), .load false 1 (.t 64)⟩,
  ⟨some 66, (some (63, true)), .bini .eql (.t 65) (.c (.int .i64 2))⟩,
  ⟨some 67, none, .pick (.t 63) (.t 66) (.c (.bool false))⟩,
  ⟨some 68, none, .mv (.t 67)⟩,
  ⟨some 69, (some (68, true)), .mv (.t 7)⟩,
  ⟨some 70, (some (68, true)), .call 33 [(.t 69)]⟩,
  ⟨some 71, none, .pick (.t 68) (.t 70) (.c (.bool false))⟩,
  ⟨some 72, none, .mv (.t 71)⟩,
  ⟨some 73, (some (72, true)), .build [.int .i64 0, .int .i64 0, .int .i64 0, .int .i64 0, .emp] []⟩,
  ⟨some 74, (some (72, true)), .bslice 5 1 [.int .i64 0, .int .i64 0, .int .i64 0, .int .i64 0, .emp] [(0, (.t 73))]⟩,
  ⟨some 75, (some (72, true)), .call 33 [(.t 74)]⟩,
  ⟨some 76, (some (72, true)), .un .not (.t 75)⟩,
  ⟨some 77, none, .pick (.t 72) (.t 76) (.c (.bool false))⟩,
  ⟨some 78, none, .mv (.t 77)⟩,
  ⟨some 79, (some (78, true)), .mv (.t 7)⟩,
  ⟨some 80, (some (78, true)), .mv (.t 7)⟩,
  ⟨some 81, (some (78, true)), .call 35 [(.t 79), (.t 80)]⟩,
  ⟨some 82, none, .pick (.t 78) (.t 81) (.c (.bool false))⟩,
  ⟨some 83, none, .mv (.t 82)⟩,
  ⟨some 84, (some (83, true)), .mv (.t 7)⟩,
  ⟨some 85, (some (83, true)), .mv (.t 5)⟩,
  ⟨some 86, (some (83, true)), .call 35 [(.t 84), (.t 85)]⟩,
  ⟨some 87, (some (83, true)), .un .not (.t 86)⟩,
  ⟨some 88, none, .pick (.t 83) (.t 87) (.c (.bool false))⟩,
  ⟨some 0, none, .mv (.t 88)⟩])
 .ret))))))))
theorem d23 : FnD Tryz.prog 23 0 89 [.tmp 0] c23 := ⟨Tryz.f23, _, Tryz.func23, by kernel_rfl, rfl, rfl, by kernel_rfl, by kernel_rfl⟩
end Go.Proofs.YtemjlopoffjmpaaGreat.Abs
namespace Go.Proofs.YtemjlopoffjmpaaGreat.Abs
open Go
def c33 : ACode :=
 (.seq (.reg [⟨some 2, none, .mv (.c (.bool false))⟩])
 (.seq (.reg [⟨some 3, none, .mv (.c (.int .i64 0))⟩])
 (.seq (.seq (.reg [⟨some 6, none, .mv (.t 0)⟩,
  ⟨some 7, none, .len false (.t 6)⟩,
  ⟨some 8, none, .mv (.c (.int .i64 0))⟩])
 (.block 0
 (.loop
 (.seq (.reg [⟨some 9, none, .bini .lss (.t 8) (.t 7)⟩])
 (.seq (.cond (.t 9)
 .skip
 (.exit 0))
 (.seq (.block 1
 (.seq (.reg [⟨some 10, none, .iaddr 5 (.t 6) (.t 8)⟩,
  ⟨some 11, none, .load true 5 (.t 10)⟩,
  ⟨some 5, none, .alloc [.int .i64 0, .int .i64 0, .int .i64 0, .int .i64 0, .emp]⟩,
  ⟨none, none, .store 5 (.t 5) (.t 11)⟩])
 (.seq (.seq (.reg [⟨some 12, none, .faddr 0 (.t 5)⟩,
  ⟨some 13, none, .load false 1 (.t 12)⟩,
  ⟨some 14, none, .mv (.t 3)⟩,
  ⟨some 15, none, .bini .leq (.t 13) (.t 14)⟩,
  ⟨some 16, none, .mv (.t 15)⟩,
  ⟨some 17, (some (16, false)), .load true 5 (.t 5)⟩,
  ⟨some 18, (some (16, false)), .mv (.t 0)⟩,
  ⟨some 19, (some (16, false)), .build [.int .i64 0, .int .i64 0, .int .i64 0, .int .i64 0, .emp, .emp] [(0, 5, (.t 17)), (5, 1, (.t 18))]⟩,
  ⟨some 20, (some (16, false)), .call 66 [(.t 19)]⟩,
  ⟨some 21, (some (16, false)), .un .not (.t 20)⟩,
  ⟨some 22, none, .pick (.t 16) (.c (.bool true)) (.t 21)⟩])
 (.cond (.t 22)
 (.seq (.reg [⟨some 2, none, .mv (.c (.bool false))⟩])
 .ret)
 .skip))
 (.reg [⟨some 23, none, .faddr 0 (.t 5)⟩,
  ⟨some 24, none, .load false 1 (.t 23)⟩,
  ⟨some 3, none, .mv (.t 24)⟩]))))
 (.reg [⟨some 25, none, .bini .add (.t 8) (.c (.int .i64 1))⟩,
  ⟨some 8, none, .mv (.t 25)⟩])))))))
 (.seq (.reg [⟨some 26, none, .mv (.t 0)⟩,
  ⟨some 27, none, .len false (.t 26)⟩,
  ⟨some 28, none, .bini .leq (.t 27) (.c (.int .i64 8))⟩,
  ⟨some 2, none, .mv (.t 28)⟩])
 .ret))))
theorem d33 : FnD Tryz.prog 33 1 28 [.tmp 2] c33 := ⟨Tryz.f33, _, Tryz.func33, by kernel_rfl, rfl, rfl, by kernel_rfl, by kernel_rfl⟩
end Go.Proofs.YtemjlopoffjmpaaGreat.Abs
namespace Go.Proofs.YtemjlopoffjmpaaGreat.Abs
open Go
def c35 : ACode :=
 (.seq (.reg [⟨some 4, none, .mv (.c (.bool false))⟩])
 (.seq (.reg [⟨some 5, none, .mv (.t 0)⟩,
  ⟨some 6, none, .mv (.t 1)⟩,
  ⟨some 7, none, .call 67 [(.t 5), (.t 6), (.c (.fn (.func 68) [] []))]⟩,
  ⟨some 4, none, .mv (.t 7)⟩])
 .ret))
theorem d35 : FnD Tryz.prog 35 2 6 [.tmp 4] c35 := ⟨Tryz.f35, _, Tryz.func35, by kernel_rfl, rfl, rfl, by kernel_rfl, by kernel_rfl⟩
end Go.Proofs.YtemjlopoffjmpaaGreat.Abs
namespace Go.Proofs.YtemjlopoffjmpaaGreat.Abs
open Go
def c66 : ACode :=
 (.seq (.reg [⟨some 1, none, .box (.t 0)⟩,
  ⟨some 2, none, .mv (.c (.bool false))⟩])
 (.seq (.seq (.reg [⟨some 3, none, .faddr 0 (.t 1)⟩,
  ⟨some 4, none, .faddr 0 (.t 3)⟩,
  ⟨some 5, none, .load false 1 (.t 4)⟩,
  ⟨some 6, none, .bini .lss (.t 5) (.c (.int .i64 1))⟩,
  ⟨some 7, none, .mv (.t 6)⟩,
  ⟨some 8, (some (7, false)), .faddr 0 (.t 1)⟩,
  ⟨some 9, (some (7, false)), .faddr 0 (.t 8)⟩,
  ⟨some 10, (some (7, false)), .load false 1 (.t 9)⟩,
  ⟨some 11, (some (7, false)), .bini .gtr (.t 10) (.c (.int .i64 65535))⟩,
  ⟨some 12, none, .pick (.t 7) (.c (.bool true)) (.t 11)⟩,
  ⟨some 13, none, .mv (.t 12)⟩,
  ⟨some 14, (some (13, false)), .faddr 0 (.t 1)⟩,
  ⟨some 15, (some (13, false)), .faddr 4 (.t 14)⟩,
  ⟨some 16, (some (13, false)), .load false 1 (.t 15)⟩,
  ⟨some 17, (some (13, false)), .call 105 [(.t 16)]⟩,
  ⟨some 18, (some (13, false)), .un .not (.t 17)⟩,
  ⟨some 19, none, .pick (.t 13) (.c (.bool true)) (.t 18)⟩,
  ⟨some 20, none, .mv (.t 19)⟩,
  ⟨some 21, (some (20, false)), .faddr 0 (.t 1)⟩,
  ⟨some 22, (some (20, false)), .faddr 3 (.t 21)⟩,
  ⟨some 23, (some (20, false)), .load false 1 (.t 22)⟩,
  ⟨some 24, (some (20, false)), .bini .lss (.t 23) (.c (.int .i64 0))⟩,
  ⟨some 25, none, .pick (.t 20) (.c (.bool true)) (.t 24)⟩,
  ⟨some 26, none, .mv (.t 25)⟩,
  ⟨some 27, (some (26, false)), .faddr 0 (.t 1)⟩,
  ⟨some 28, (some (26, false)), .faddr 3 (.t 27)⟩,
  ⟨some 29, (some (26, false)), .load false 1 (.t 28)⟩,
  ⟨some 30, (some (26, false)), .bini .gtr (.t 29) (.c (.int .i64 255))⟩,
  ⟨some 31, none, .pick (.t 26) (.c (.bool true)) (.t 30)⟩])
 (.cond (.t 31)
 (.seq (.reg [⟨some 2, none, .mv (.c (.bool false))⟩])
 .ret)
 .skip))
 (.seq (.seq (.reg [⟨some 32, none, .faddr 0 (.t 1)⟩,
  ⟨some 33, none, .faddr 1 (.t 32)⟩,
  ⟨some 34, none, .load false 1 (.t 33)⟩])
 (.block 0
 (.seq (.reg [⟨some 36, none, .bini .eql (.t 34) (.c (.int .i64 1))⟩,
  ⟨some 35, none, .mv (.t 36)⟩])
 (.cond (.t 35)
 (.seq (.reg [⟨some 37, none, .faddr 0 (.t 1)⟩,
  ⟨some 38, none, .faddr 2 (.t 37)⟩,
  ⟨some 39, none, .load false 1 (.t 38)⟩,
  ⟨some 40, none, .bini .eql (.t 39) (.c (.int .i64 0))⟩,
  ⟨some 41, none, .mv (.t 40)⟩,
  ⟨some 42, (some (41, false)), .faddr 5 (.t 1)⟩,
  ⟨some 43, (some (41, false)), .load false 1 (.t 42)⟩,
  ⟨some 44, (some (41, false)), .faddr 0 (.t 1)⟩,
  ⟨some 45, (some (41, false)), .faddr 2 (.t 44)⟩,
  ⟨some 46, (some (41, false)), .load false 1 (.t 45)⟩,
  ⟨some 47, (some (41, false)), .call 60 [(.t 43), (.t 46), (.c (.int .i64 2))]⟩,
  ⟨some 48, (some (41, false)), .mv (.t 47)⟩,
  ⟨some 49, (some (48, true)), .faddr 5 (.t 1)⟩,
  ⟨some 50, (some (48, true)), .load false 1 (.t 49)⟩,
  ⟨some 51, (some (48, true)), .faddr 0 (.t 1)⟩,
  ⟨some 52, (some (48, true)), .faddr 0 (.t 51)⟩,
  ⟨some 53, (some (48, true)), .load false 1 (.t 52)⟩,
  ⟨some 54, (some (48, true)), .call 106 [(.t 50), (.t 53)]⟩,
  ⟨some 55, (some (48, true)), .un .not (.t 54)⟩,
  ⟨some 56, (some (41, false)), .pick (.t 48) (.t 55) (.c (.bool false))⟩,
  ⟨some 57, none, .pick (.t 41) (.c (.bool true)) (.t 56)⟩,
  ⟨some 2, none, .mv (.t 57)⟩])
 .ret)
 (.seq (.reg [⟨some 59, none, .bini .eql (.t 34) (.c (.int .i64 2))⟩,
  ⟨some 58, none, .mv (.t 59)⟩])
 (.cond (.t 58)
 (.seq (.reg [⟨some 60, none, .faddr 0 (.t 1)⟩,
  ⟨some 61, none, .faddr 3 (.t 60)⟩,
  ⟨some 62, none, .load false 1 (.t 61)⟩,
  ⟨some 63, none, .bini .eql (.t 62) (.c (.int .i64 0))⟩,
  ⟨some 64, none, .mv (.t 63)⟩,
  ⟨some 65, (some (64, true)), .faddr 5 (.t 1)⟩,
  ⟨some 66, (some (64, true)), .load false 1 (.t 65)⟩,
  ⟨some 67, (some (64, true)), .faddr 0 (.t 1)⟩,
  ⟨some 68, (some (64, true)), .faddr 2 (.t 67)⟩,
  ⟨some 69, (some (64, true)), .load false 1 (.t 68)⟩,
  ⟨some 70, (some (64, true)), .call 60 [(.t 66), (.t 69), (.c (.int .i64 1))]⟩,
  ⟨some 71, none, .pick (.t 64) (.t 70) (.c (.bool false))⟩,
  ⟨some 2, none, .mv (.t 71)⟩])
 .ret)
 .skip))))))
 (.seq (.reg [⟨some 2, none, .mv (.c (.bool false))⟩])
 .ret))))
theorem d66 : FnD Tryz.prog 66 1 71 [.tmp 2] c66 := ⟨Tryz.f66, _, Tryz.func66, by kernel_rfl, rfl, rfl, by kernel_rfl, by kernel_rfl⟩
end Go.Proofs.YtemjlopoffjmpaaGreat.Abs
namespace Go.Proofs.YtemjlopoffjmpaaGreat.Abs
open Go
def c67 : ACode :=
 (.seq (.reg [⟨some 6, none, .mv (.c (.bool false))⟩])
 (.seq (.seq (.reg [⟨some 10, none, .mv (.t 0)⟩,
  ⟨some 11, none, .len false (.t 10)⟩,
  ⟨some 12, none, .mv (.t 1)⟩,
  ⟨some 13, none, .len false (.t 12)⟩,
  ⟨some 14, none, .bini .neq (.t 11) (.t 13)⟩])
 (.cond (.t 14)
 (.seq (.reg [⟨some 6, none, .mv (.c (.bool false))⟩])
 .ret)
 .skip))
 (.seq (.seq (.reg [⟨some 15, none, .mv (.t 0)⟩,
  ⟨some 16, none, .len false (.t 15)⟩,
  ⟨some 17, none, .mv (.c (.int .i64 0))⟩])
 (.block 0
 (.loop
 (.seq (.reg [⟨some 18, none, .bini .lss (.t 17) (.t 16)⟩])
 (.seq (.cond (.t 18)
 .skip
 (.exit 0))
 (.seq (.block 1
 (.seq (.reg [⟨some 19, none, .mv (.t 17)⟩,
  ⟨some 20, none, .iaddr 5 (.t 15) (.t 17)⟩,
  ⟨some 21, none, .load true 5 (.t 20)⟩,
  ⟨some 8, none, .alloc [.int .i64 0, .int .i64 0, .int .i64 0, .int .i64 0, .emp]⟩,
  ⟨some 7, none, .mv (.t 19)⟩,
  ⟨none, none, .store 5 (.t 8) (.t 21)⟩])
 (.seq (.reg [⟨some 22, none, .mv (.t 1)⟩,
  ⟨some 23, none, .mv (.t 7)⟩,
  ⟨some 24, none, .iaddr 5 (.t 22) (.t 23)⟩,
  ⟨some 25, none, .load true 5 (.t 24)⟩,
  ⟨some 9, none, .alloc [.int .i64 0, .int .i64 0, .int .i64 0, .int .i64 0, .emp]⟩,
  ⟨none, none, .store 5 (.t 9) (.t 25)⟩])
 (.seq (.reg [⟨some 26, none, .mv (.t 2)⟩,
  ⟨some 27, none, .load true 5 (.t 8)⟩,
  ⟨some 28, none, .load true 5 (.t 9)⟩,
  ⟨some 29, none, .calld (.t 26) [(.t 27), (.t 28)]⟩,
  ⟨some 30, none, .un .not (.t 29)⟩])
 (.cond (.t 30)
 (.seq (.reg [⟨some 6, none, .mv (.c (.bool false))⟩])
 .ret)
 .skip)))))
 (.reg [⟨some 31, none, .bini .add (.t 17) (.c (.int .i64 1))⟩,
  ⟨some 17, none, .mv (.t 31)⟩])))))))
 (.seq (.reg [⟨some 6, none, .mv (.c (.bool true))⟩])
 .ret))))
theorem d67 : FnD Tryz.prog 67 3 29 [.tmp 6] c67 := ⟨Tryz.f67, _, Tryz.func67, by kernel_rfl, rfl, rfl, by kernel_rfl, by kernel_rfl⟩
end Go.Proofs.YtemjlopoffjmpaaGreat.Abs
namespace Go.Proofs.YtemjlopoffjmpaaGreat.Abs
open Go
def c68 : ACode :=
 (.seq (.reg [⟨some 2, none, .box (.t 0)⟩,
  ⟨some 3, none, .box (.t 1)⟩,
  ⟨some 4, none, .mv (.c (.bool false))⟩])
 (.seq (.reg [⟨some 5, none, .faddr 0 (.t 2)⟩,
  ⟨some 6, none, .load false 1 (.t 5)⟩,
  ⟨some 7, none, .faddr 0 (.t 3)⟩,
  ⟨some 8, none, .load false 1 (.t 7)⟩,
  ⟨some 9, none, .bini .eql (.t 6) (.t 8)⟩,
  ⟨some 10, none, .mv (.t 9)⟩,
  ⟨some 11, (some (10, true)), .faddr 1 (.t 2)⟩,
  ⟨some 12, (some (10, true)), .load false 1 (.t 11)⟩,
  ⟨some 13, (some (10, true)), .faddr 1 (.t 3)⟩,
  ⟨some 14, (some (10, true)), .load false 1 (.t 13)⟩,
  ⟨some 15, (some (10, true)), .bini .eql (.t 12) (.t 14)⟩,
  ⟨some 16, none, .pick (.t 10) (.t 15) (.c (.bool false))⟩,
  ⟨some 17, none, .mv (.t 16)⟩,
  ⟨some 18, (some (17, true)), .faddr 2 (.t 2)⟩,
  ⟨some 19, (some (17, true)), .load false 1 (.t 18)⟩,
  ⟨some 20, (some (17, true)), .faddr 2 (.t 3)⟩,
  ⟨some 21, (some (17, true)), .load false 1 (.t 20)⟩,
  ⟨some 22, (some (17, true)), .bini .eql (.t 19) (.t 21)⟩,
  ⟨some 23, none, .pick (.t 17) (.t 22) (.c (.bool false))⟩,
  ⟨some 24, none, .mv (.t 23)⟩,
  ⟨some 25, (some (24, true)), .faddr 3 (.t 2)⟩,
  ⟨some 26, (some (24, true)), .load false 1 (.t 25)⟩,
  ⟨some 27, (some (24, true)), .faddr 3 (.t 3)⟩,
  ⟨some 28, (some (24, true)), .load false 1 (.t 27)⟩,
  ⟨some 29, (some (24, true)), .bini .eql (.t 26) (.t 28)⟩,
  ⟨some 30, none, .pick (.t 24) (.t 29) (.c (.bool false))⟩,
  ⟨some 31, none, .mv (.t 30)⟩,
  ⟨some 32, (some (31, true)), .faddr 4 (.t 2)⟩,
  ⟨some 33, (some (31, true)), .load false 1 (.t 32)⟩,
  ⟨some 34, (some (31, true)), .faddr 4 (.t 3)⟩,
  ⟨some 35, (some (31, true)), .load false 1 (.t 34)⟩,
  ⟨some 36, (some (31, true)), .call 69 [(.t 33), (.t 35)]⟩,
  ⟨some 37, none, .pick (.t 31) (.t 36) (.c (.bool false))⟩,
  ⟨some 4, none, .mv (.t 37)⟩])
 .ret))
theorem d68 : FnD Tryz.prog 68 2 36 [.tmp 4] c68 := ⟨Tryz.f68, _, Tryz.func68, by kernel_rfl, rfl, rfl, by kernel_rfl, by kernel_rfl⟩
end Go.Proofs.YtemjlopoffjmpaaGreat.Abs
namespace Go.Proofs.YtemjlopoffjmpaaGreat.Abs
open Go
def c69 : ACode :=
 (.seq (.reg [⟨some 4, none, .mv (.c (.bool false))⟩])
 (.seq (.reg [⟨some 5, none, .mv (.t 0)⟩,
  ⟨some 6, none, .mv (.t 1)⟩,
  ⟨some 7, none, .call 107 [(.t 5), (.t 6)]⟩,
  ⟨some 4, none, .mv (.t 7)⟩])
 .ret))
theorem d69 : FnD Tryz.prog 69 2 6 [.tmp 4] c69 := ⟨Tryz.f69, _, Tryz.func69, by kernel_rfl, rfl, rfl, by kernel_rfl, by kernel_rfl⟩
end Go.Proofs.YtemjlopoffjmpaaGreat.Abs
namespace Go.Proofs.YtemjlopoffjmpaaGreat.Abs
open Go
def tabForms : List (Nat × FD) := [
 (59, ⟨2, 6, [.tmp 4], c59⟩),
 (102, ⟨2, 6, [.tmp 3], c102⟩),
 (101, ⟨2, 17, [.tmp 4], c101⟩),
 (60, ⟨3, 19, [.tmp 6], c60⟩),
 (56, ⟨1, 22, [.tmp 2], c56⟩),
 (48, ⟨1, 7, [.tmp 2], c48⟩),
 (49, ⟨1, 7, [.tmp 2], c49⟩),
 (57, ⟨3, 42, [.tmp 6, .tmp 7], c57⟩),
 (37, ⟨3, 21, [.tmp 6, .tmp 7], c37⟩),
 (24, ⟨3, 33, [.tmp 6, .tmp 7], c24⟩),
 (25, ⟨3, 33, [.tmp 6, .tmp 7], c25⟩),
 (29, ⟨2, 117, [.tmp 4, .tmp 5], c29⟩),
 (38, ⟨3, 69, [.tmp 6, .tmp 7], c38⟩),
 (32, ⟨2, 52, [.tmp 4, .tmp 5], c32⟩),
 (27, ⟨2, 17, [.cell 4 true 5, .tmp 5], c27⟩),
 (33, ⟨1, 28, [.tmp 2], c33⟩),
 (66, ⟨1, 71, [.tmp 2], c66⟩),
 (105, ⟨1, 5, [.tmp 2], c105⟩),
 (131, ⟨1, 63, [.tmp 2], c131⟩),
 (158, ⟨2, 36, [.tmp 4], c158⟩),
 (159, ⟨2, 17, [.tmp 4], c159⟩),
 (160, ⟨2, 48, [.tmp 4], c160⟩),
 (202, ⟨2, 21, [.tmp 4], c202⟩),
 (106, ⟨2, 24, [.tmp 4], c106⟩),
 (35, ⟨2, 6, [.tmp 4], c35⟩),
 (67, ⟨3, 29, [.tmp 6], c67⟩),
 (68, ⟨2, 36, [.tmp 4], c68⟩),
 (69, ⟨2, 6, [.tmp 4], c69⟩),
 (107, ⟨2, 24, [.tmp 4], c107⟩),
 (76, ⟨0, 7, [.tmp 0], c76⟩),
 (77, ⟨3, 17, [.tmp 4], c77⟩),
 (63, ⟨2, 7, [.tmp 4], c63⟩),
 (64, ⟨2, 6, [.tmp 3], c64⟩),
 (65, ⟨3, 30, [.tmp 6], c65⟩),
 (201, ⟨1, 21, [.tmp 2], c201⟩),
 (224, ⟨1, 15, [.tmp 2], c224⟩),
 (23, ⟨0, 89, [.tmp 0], c23⟩)]
theorem tabForms_ok : ∀ p ∈ tabForms, FnD Tryz.prog p.1 p.2.np p.2.nt p.2.res p.2.ac := by
 intro p hp
 simp only [tabForms, List.mem_cons, List.not_mem_nil, or_false] at hp
 rcases hp with rfl | rfl | rfl | rfl | rfl | rfl | rfl | rfl | rfl | rfl | rfl | rfl | rfl | rfl | rfl | rfl | rfl | rfl | rfl | rfl | rfl | rfl | rfl | rfl | rfl | rfl | rfl | rfl | rfl | rfl | rfl | rfl | rfl | rfl | rfl | rfl | rfl
 ·exact d59
 ·exact d102
 ·exact d101
 ·exact d60
 ·exact d56
 ·exact d48
 ·exact d49
 ·exact d57
 ·exact d37
 ·exact d24
 ·exact d25
 ·exact d29
 ·exact d38
 ·exact d32
 ·exact d27
 ·exact d33
 ·exact d66
 ·exact d105
 ·exact d131
 ·exact d158
 ·exact d159
 ·exact d160
 ·exact d202
 ·exact d106
 ·exact d35
 ·exact d67
 ·exact d68
 ·exact d69
 ·exact d107
 ·exact d76
 ·exact d77
 ·exact d63
 ·exact d64
 ·exact d65
 ·exact d201
 ·exact d224
 ·exact d23
end Go.Proofs.YtemjlopoffjmpaaGreat.Abs
namespace Go.Proofs.YtemjlopoffjmpaaGreat.Abs
open Go
def nf : PV := .fz [[.int .i64 2, .int .i64 0, .str [], .str [], .int .i64 0], [.int .i64 0, .int .i64 0, .str [], .str [], .int .i64 0], [.int .i64 0, .int .i64 0, .str [], .str [], .int .i64 0], [.int .i64 0, .int .i64 0, .str [], .str [], .int .i64 0], [.int .i64 0, .int .i64 0, .str [], .str [], .int .i64 0], [.int .i64 0, .int .i64 0, .str [], .str [], .int .i64 0], [.int .i64 0, .int .i64 0, .str [], .str [], .int .i64 0], [.int .i64 0, .int .i64 0, .str [], .str [], .int .i64 0]]
def fzF (f : Nat) : Bool := f == 76 || f == 49 || f == 37 || f == 24 || f == 25 || f == 29 || f == 38 || f == 32 || f == 27
theorem ev_ok : EvOk Tryz.prog (evF tabForms orcC fzF 40 40) := evF_ok tabForms_ok orcC_ok fzF 40 40
def m0 : Memo := ⟨37, [.emp, .int .i64 1, .int .i64 0], .tuple [.fz [[.int .i64 1, .int .i64 1, .int .i64 0, .int .i64 0, nf]], .int .i64 0]⟩
theorem m0_so : m0.so Tryz.prog := Memo.of ev_ok m0 (by kernel_rfl)
def m1 : Memo := ⟨24, [.fz [[.int .i64 1, .int .i64 1, .int .i64 0, .int .i64 0, nf]], .int .i64 2, .int .i64 1], .tuple [.fz [[.int .i64 1, .int .i64 1, .int .i64 0, .int .i64 0, nf], [.int .i64 2, .int .i64 2, .int .i64 1, .int .i64 0, nf]], .int .i64 0]⟩
theorem m1_so : m1.so Tryz.prog := Memo.of ev_ok m1 (by kernel_rfl)
def m2 : Memo := ⟨25, [.fz [[.int .i64 1, .int .i64 1, .int .i64 0, .int .i64 0, nf], [.int .i64 2, .int .i64 2, .int .i64 1, .int .i64 0, nf]], .int .i64 3, .int .i64 2], .tuple [.fz [[.int .i64 1, .int .i64 1, .int .i64 0, .int .i64 0, nf], [.int .i64 2, .int .i64 2, .int .i64 1, .int .i64 0, nf], [.int .i64 3, .int .i64 1, .int .i64 2, .int .i64 0, nf]], .int .i64 0]⟩
theorem m2_so : m2.so Tryz.prog := Memo.of ev_ok m2 (by kernel_rfl)
def m3 : Memo := ⟨29, [.fz [[.int .i64 1, .int .i64 1, .int .i64 0, .int .i64 0, nf], [.int .i64 2, .int .i64 2, .int .i64 1, .int .i64 0, nf], [.int .i64 3, .int .i64 1, .int .i64 2, .int .i64 0, nf]], .int .i64 3], .tuple [.fz [[.int .i64 1, .int .i64 1, .int .i64 2, .int .i64 0, nf], [.int .i64 2, .int .i64 2, .int .i64 3, .int .i64 0, nf], [.int .i64 3, .int .i64 1, .int .i64 0, .int .i64 0, nf]], .int .i64 0]⟩
theorem m3_so : m3.so Tryz.prog := Memo.of ev_ok m3 (by kernel_rfl)
def m4 : Memo := ⟨32, [.fz [[.int .i64 1, .int .i64 1, .int .i64 2, .int .i64 0, nf], [.int .i64 2, .int .i64 2, .int .i64 3, .int .i64 0, nf], [.int .i64 3, .int .i64 1, .int .i64 0, .int .i64 0, nf]], .int .i64 2], .tuple [.fz [[.int .i64 1, .int .i64 1, .int .i64 2, .int .i64 0, nf], [.int .i64 2, .int .i64 2, .int .i64 3, .int .i64 0, nf], [.int .i64 3, .int .i64 1, .int .i64 0, .int .i64 0, nf]], .int .i64 10]⟩
theorem m4_so : m4.so Tryz.prog := Memo.of ev_ok m4 (by kernel_rfl)
def m5 : Memo := ⟨33, [.fz [[.int .i64 1, .int .i64 1, .int .i64 2, .int .i64 0, nf], [.int .i64 2, .int .i64 2, .int .i64 3, .int .i64 0, nf], [.int .i64 3, .int .i64 1, .int .i64 0, .int .i64 0, nf]]], .bool true⟩
theorem m5_so : m5.so Tryz.prog := Memo.of ev_ok m5 (by kernel_rfl)
def m6 : Memo := ⟨35, [.fz [[.int .i64 1, .int .i64 1, .int .i64 2, .int .i64 0, nf], [.int .i64 2, .int .i64 2, .int .i64 3, .int .i64 0, nf], [.int .i64 3, .int .i64 1, .int .i64 0, .int .i64 0, nf]], .fz [[.int .i64 1, .int .i64 1, .int .i64 2, .int .i64 0, nf], [.int .i64 2, .int .i64 2, .int .i64 3, .int .i64 0, nf], [.int .i64 3, .int .i64 1, .int .i64 0, .int .i64 0, nf]]], .bool true⟩
theorem m6_so : m6.so Tryz.prog := Memo.of ev_ok m6 (by kernel_rfl)
def m7 : Memo := ⟨35, [.fz [[.int .i64 1, .int .i64 1, .int .i64 2, .int .i64 0, nf], [.int .i64 2, .int .i64 2, .int .i64 3, .int .i64 0, nf], [.int .i64 3, .int .i64 1, .int .i64 0, .int .i64 0, nf]], .fz [[.int .i64 1, .int .i64 1, .int .i64 0, .int .i64 0, nf], [.int .i64 2, .int .i64 2, .int .i64 1, .int .i64 0, nf], [.int .i64 3, .int .i64 1, .int .i64 2, .int .i64 0, nf]]], .bool false⟩
theorem m7_so : m7.so Tryz.prog := Memo.of ev_ok m7 (by kernel_rfl)
def memoB : List Memo := [m0, m1, m2, m3, m4, m5, m6, m7]
theorem memoB_so : ∀ m ∈ memoB, m.so Tryz.prog := by
 intro m hm
 simp only [memoB, List.mem_cons, List.not_mem_nil, or_false] at hm
 rcases hm with rfl | rfl | rfl | rfl | rfl | rfl | rfl | rfl
 ·exact m0_so
 ·exact m1_so
 ·exact m2_so
 ·exact m3_so
 ·exact m4_so
 ·exact m5_so
 ·exact m6_so
 ·exact m7_so
def m100 : Memo := ⟨23, [], .bool true⟩
theorem m100_so : m100.so Tryz.prog := Memo.of (evF_ok tabForms_ok (memo_ok orcC_ok memoB_so) fzF 40 40) m100 (by kernel_rfl)
end Go.Proofs.YtemjlopoffjmpaaGreat.Abs
set_option linter.unusedSimpArgs false
set_option linter.unusedVariables false
namespace Go.Proofs.YtemjlopoffjmpaaGreat.Abs
open Go Go.Proofs
theorem pick_index {n : Int} (hn : 0 ≤ n) {m : Nat} (hm : 0 < m) : ∃ k : Nat, n.tmod (m : Int) = k ∧ k < m := by
 have h1 := Int.tmod_nonneg (m : Int) hn
 have h2 := Int.tmod_lt_of_pos n (show (0 : Int) < m by omega)
 exact ⟨(n.tmod (m : Int)).toNat, by omega, by omega⟩
end Go.Proofs.YtemjlopoffjmpaaGreat.Abs
set_option linter.unusedSimpArgs false
set_option linter.unusedVariables false
namespace Go.Proofs.YtemjlopoffjmpaaGreat.Abs
open Go Go.Proofs
section
variable {c : Nat} {H : AH} {late : List Loc → List Loc → Prop} {K : List Nat → Nat → AV → AH → Prop} {t : Tag K}
theorem CFT_made (l : List UInt8) (hc : c < H.length) (hk : K [c] (c + 1) (.ptr c 0 0 1) (H.set c (some [[.fz (l.map pbyte), .int .i64 0]]))) : CFT Tryz.prog 13 [.fz (l.map pbyte)] c H late K t := by
 refine CET_ok [] 1 (x := .ptr 0 0 0 1) (H1 := picksH l 0) (by simpa [renL, ren] using made_spec l) (fun y G h => h) ⟨by simp, by simp, by omega, by simp [picksH]⟩ ?_
 simpa [setAll, picksH, renO, renL, ren, toCl, List.range'] using hk
end
def LastA (L : List Dset) (i : Int) (j : Nat) (last : Int) : Prop :=
 (∀ y, y < j → (L.getD y default).kind = 2 → (L.getD y default).origin = i → (L.getD y default).id ≤ last) ∧
  ((last = 0 ∧ ∀ y, y < j → ¬ ((L.getD y default).kind = 2 ∧ (L.getD y default).origin = i)) ∨ ∃ y, y < j ∧ (L.getD y default).kind = 2 ∧ (L.getD y default).origin = i ∧ (L.getD y default).id = last)
theorem LastA.skip {L : List Dset} {i : Int} {j : Nat} {last : Int} (h : LastA L i j last) (hno : ¬ ((L.getD j default).kind = 2 ∧ (L.getD j default).origin = i)) : LastA L i (j + 1) last := by
 refine ⟨fun y hy h1 h2 => ?_, ?_⟩
 ·rcases Nat.lt_or_ge y j with h' | h'
  ·exact h.1 y h' h1 h2
  ·have : y = j := by omega
   subst this; exact absurd ⟨h1, h2⟩ hno
 ·rcases h.2 with ⟨e, h2⟩ | ⟨y, hy, h2⟩
  ·refine .inl ⟨e, fun y hy => ?_⟩
   rcases Nat.lt_or_ge y j with h' | h'
   ·exact h2 y h'
   ·have : y = j := by omega
    subst this; exact hno
  ·exact .inr ⟨y, by omega, h2⟩
theorem LastA.take {L : List Dset} {i : Int} {j : Nat} {last : Int} (hM : MayL L) (hj : j < L.length) (h : LastA L i j last) (h1 : (L.getD j default).kind = 2) (h2 : (L.getD j default).origin = i) : LastA L i (j + 1) (L.getD j default).id := by
 refine ⟨fun y hy _ _ => ?_, .inr ⟨j, by omega, h1, h2, rfl⟩⟩
 rcases Nat.lt_or_ge y j with h' | h'
 ·have := hM.lt h' hj; omega
 ·have : y = j := by omega
  subst this; exact Int.le_refl _
end Go.Proofs.YtemjlopoffjmpaaGreat.Abs
set_option linter.unusedSimpArgs false
set_option linter.unusedVariables false
namespace Go.Proofs.YtemjlopoffjmpaaGreat.Abs
open Go Go.Proofs
theorem grown_at (l : List UInt8) (n : Int) (hn : 0 ≤ n) (hl : l.length ≤ 1000000) (s : List Node) (hw : Wf s) (most : Nat) (hm : most ≤ 1000000) (r : Nat) (H : AH) (hr : H.at r = some [[.fz (l.map pbyte), .int .i64 n]]) :
 C Tryz.prog 26 [.ptr r 0 0 1, aset s, .int .i64 most] H (fun x H' => ∃ t n', Wf t ∧ n ≤ n' ∧ x = aset t ∧ H' = H.set r (some [[.fz (l.map pbyte), .int .i64 n']])) := by
 refine C_call [r] (by simp) (by simpa using at_lt hr) (K0 := fun x H' => ∃ t n', Wf t ∧ n ≤ n' ∧ x = aset t ∧ H' = picksH l n') ?_ ?_
 ·simpa [renL, ren, toCallee, aset, hr, renO, picksH] using grown_spec l n s hw most hm hn hl
 ·rintro _ _ ⟨u, n', hu, hn', rfl, rfl⟩
  refine ⟨by simp [picksH], u, n', hu, hn', by simp [aset, ren], ?_⟩
  simp [back, setAll, picksH, renO, renL, ren]
set_option maxRecDepth 10000 in
set_option maxHeartbeats 8000000 in
theorem setsStay_spec (l m : List UInt8) (n : Int) (hn : 0 ≤ n ∧ n ≤ 255) : C Tryz.prog 5 [.fz (l.map pbyte), .fz (m.map pbyte), .int .u8 n] [] (fun x _ => x = .bool true) := by
 refine C_body d5 rfl ?_
 unfold c5
 refine W_stp ?_
 simp only [wk5, wk3, wk, iaddrV_map, Nat.reduceAdd, Nat.reduceSub, Nat.reduceMul, Nat.reduceLeDiff, Nat.reduceEqDiff, Nat.reduceBEq, Int.reduceLE, Int.reduceLT, Int.reduceEq, Int.reduceNe, Int.reduceAdd, Int.reduceSub, Int.reduceToNat, Int.reduceNeg, ↓reduceIte, reduceCtorEq]
 refine QStp_go (W_stp ?_)
 simp only [wk5, wk3, wk, iaddrV_map, Nat.reduceAdd, Nat.reduceSub, Nat.reduceMul, Nat.reduceLeDiff, Nat.reduceEqDiff, Nat.reduceBEq, Int.reduceLE, Int.reduceLT, Int.reduceEq, Int.reduceNe, Int.reduceAdd, Int.reduceSub, Int.reduceToNat, Int.reduceNeg, ↓reduceIte, reduceCtorEq]
 refine CT_ok (Memo.any m100_so []) ?_
 rintro _ _ ⟨rfl, rfl⟩
 simp only [m100, wk5, wk3, wk, iaddrV_map, Nat.reduceAdd, Nat.reduceSub, Nat.reduceMul, Nat.reduceLeDiff, Nat.reduceEqDiff, Nat.reduceBEq, Int.reduceLE, Int.reduceLT, Int.reduceEq, Int.reduceNe, Int.reduceAdd, Int.reduceSub, Int.reduceToNat, Int.reduceNeg, ↓reduceIte, reduceCtorEq]
 refine QStp_go (W_stp ?_)
 simp only [wk5, wk3, wk, iaddrV_map, Nat.reduceAdd, Nat.reduceSub, Nat.reduceMul, Nat.reduceLeDiff, Nat.reduceEqDiff, Nat.reduceBEq, Int.reduceLE, Int.reduceLT, Int.reduceEq, Int.reduceNe, Int.reduceAdd, Int.reduceSub, Int.reduceToNat, Int.reduceNeg, ↓reduceIte, reduceCtorEq]
 by_cases h1 : (80 : Int) < l.length
 ·simp only [h1, wk5, wk3, wk, iaddrV_map, Nat.reduceAdd, Nat.reduceSub, Nat.reduceMul, Nat.reduceLeDiff, Nat.reduceEqDiff, Nat.reduceBEq, Int.reduceLE, Int.reduceLT, Int.reduceEq, Int.reduceNe, Int.reduceAdd, Int.reduceSub, Int.reduceToNat, Int.reduceNeg, ↓reduceIte, reduceCtorEq]
 by_cases h1m : (30 : Int) < m.length
 ·simp only [h1, h1m, wk5, wk3, wk, iaddrV_map, Nat.reduceAdd, Nat.reduceSub, Nat.reduceMul, Nat.reduceLeDiff, Nat.reduceEqDiff, Nat.reduceBEq, Int.reduceLE, Int.reduceLT, Int.reduceEq, Int.reduceNe, Int.reduceAdd, Int.reduceSub, Int.reduceToNat, Int.reduceNeg, ↓reduceIte, reduceCtorEq]
 simp only [h1, h1m, wk5, wk3, wk, iaddrV_map, Nat.reduceAdd, Nat.reduceSub, Nat.reduceMul, Nat.reduceLeDiff, Nat.reduceEqDiff, Nat.reduceBEq, Int.reduceLE, Int.reduceLT, Int.reduceEq, Int.reduceNe, Int.reduceAdd, Int.reduceSub, Int.reduceToNat, Int.reduceNeg, ↓reduceIte, reduceCtorEq]
 refine QStp_go (W_stp ?_)
 simp only [wk5, wk3, wk, iaddrV_map, Nat.reduceAdd, Nat.reduceSub, Nat.reduceMul, Nat.reduceLeDiff, Nat.reduceEqDiff, Nat.reduceBEq, Int.reduceLE, Int.reduceLT, Int.reduceEq, Int.reduceNe, Int.reduceAdd, Int.reduceSub, Int.reduceToNat, Int.reduceNeg, ↓reduceIte, reduceCtorEq]
 refine CT_ok (made_spec l) ?_
 rintro _ _ ⟨rfl, rfl⟩
 simp only [wk5, wk3, wk, iaddrV_map, Nat.reduceAdd, Nat.reduceSub, Nat.reduceMul, Nat.reduceLeDiff, Nat.reduceEqDiff, Nat.reduceBEq, Int.reduceLE, Int.reduceLT, Int.reduceEq, Int.reduceNe, Int.reduceAdd, Int.reduceSub, Int.reduceToNat, Int.reduceNeg, ↓reduceIte, reduceCtorEq]
 refine CT_ok (sets14 l 0 25 (by omega) (by omega) (by omega)) ?_
 rintro _ _ ⟨L, n0, hL, hne0, ⟨_, hid⟩, rfl, rfl⟩
 simp only [wk5, wk3, wk, iaddrV_map, Nat.reduceAdd, Nat.reduceSub, Nat.reduceMul, Nat.reduceLeDiff, Nat.reduceEqDiff, Nat.reduceBEq, Int.reduceLE, Int.reduceLT, Int.reduceEq, Int.reduceNe, Int.reduceAdd, Int.reduceSub, Int.reduceToNat, Int.reduceNeg, ↓reduceIte, reduceCtorEq]
 refine QStp_go (W_stp ?_)
 have hpos : 0 < L.length := List.length_pos_iff.2 hne0
 have hlen0 := hL.len
 have wn : IntKind.i64.wrap n = n := IntWalk.i64_in _ (by omega)
 obtain ⟨k, hk, hkl⟩ := pick_index hn.1 hpos
 have k0 : (0 : Int) ≤ k := by omega
 have k1 : (k : Int) < L.length := by omega
 have kz : ¬ (L.length : Int) = 0 := by omega
 have e5 : (pdset (L.getD k default)).length = 5 := rfl
 have hc := dgetD_mem hkl
 simp only [asets, picksH, wn, hk, kz, k0, k1, e5, iaddr_dset, Int.toNat_natCast, pdset, lay, wk5, wk3, wk, iaddrV_map, Nat.reduceAdd, Nat.reduceSub, Nat.reduceMul, Nat.reduceLeDiff, Nat.reduceEqDiff, Nat.reduceBEq, Int.reduceLE, Int.reduceLT, Int.reduceEq, Int.reduceNe, Int.reduceAdd, Int.reduceSub, Int.reduceToNat, Int.reduceNeg, ↓reduceIte, reduceCtorEq]
 generalize L.getD k default = c at *
 have hcw := (hL.each c hc).files
 have hcl := hcw.len
 refine QStp_go (W_stp ?_)
 simp only [lay, wk5, wk3, wk, iaddrV_map, Nat.reduceAdd, Nat.reduceSub, Nat.reduceMul, Nat.reduceLeDiff, Nat.reduceEqDiff, Nat.reduceBEq, Int.reduceLE, Int.reduceLT, Int.reduceEq, Int.reduceNe, Int.reduceAdd, Int.reduceSub, Int.reduceToNat, Int.reduceNeg, ↓reduceIte, reduceCtorEq]
 refine CT_ok (snapL L hL.short 1000 c.id _) ?_
 rintro _ _ ⟨rfl, rfl⟩
 have ht := snap_tell hL hid hc
 by_cases q2 : c.kind = 2
 ·rw [ht.1 q2]
  simp only [outA, asets, lay, wk5, wk3, wk, iaddrV_map, Nat.reduceAdd, Nat.reduceSub, Nat.reduceMul, Nat.reduceLeDiff, Nat.reduceEqDiff, Nat.reduceBEq, Int.reduceLE, Int.reduceLT, Int.reduceEq, Int.reduceNe, Int.reduceAdd, Int.reduceSub, Int.reduceToNat, Int.reduceNeg, ↓reduceIte, reduceCtorEq]
  refine QStp_go (W_stp ?_)
  simp only [q2, lay, wk5, wk3, wk, iaddrV_map, Nat.reduceAdd, Nat.reduceSub, Nat.reduceMul, Nat.reduceLeDiff, Nat.reduceEqDiff, Nat.reduceBEq, Int.reduceLE, Int.reduceLT, Int.reduceEq, Int.reduceNe, Int.reduceAdd, Int.reduceSub, Int.reduceToNat, Int.reduceNeg, ↓reduceIte, reduceCtorEq]
 have q1 : c.kind = 1 := by rcases (hL.each c hc).kinds with e | e; exact e; exact absurd e q2
 by_cases h8 : L.length = 8
 ·have h8' : (L.length : Int) = 8 := by omega
  rw [ht.2.1 q1 h8]
  simp only [outA, asets, lay, wk5, wk3, wk, iaddrV_map, Nat.reduceAdd, Nat.reduceSub, Nat.reduceMul, Nat.reduceLeDiff, Nat.reduceEqDiff, Nat.reduceBEq, Int.reduceLE, Int.reduceLT, Int.reduceEq, Int.reduceNe, Int.reduceAdd, Int.reduceSub, Int.reduceToNat, Int.reduceNeg, ↓reduceIte, reduceCtorEq]
  refine QStp_go (W_stp ?_)
  simp only [q1, h8', lay, wk5, wk3, wk, iaddrV_map, Nat.reduceAdd, Nat.reduceSub, Nat.reduceMul, Nat.reduceLeDiff, Nat.reduceEqDiff, Nat.reduceBEq, Int.reduceLE, Int.reduceLT, Int.reduceEq, Int.reduceNe, Int.reduceAdd, Int.reduceSub, Int.reduceToNat, Int.reduceNeg, ↓reduceIte, reduceCtorEq]
 have hlt : L.length < 8 := by omega
 rw [ht.2.2 q1 hlt]
 have hst := stay_facts hL hid hc q1 hlt
 have hend := fun (y : List Dset) (hy : MayL y) (hye : y = L ++ [⟨1000, 2, c.id, 0, c.files⟩] ++ [⟨1001, 1, 1000, 0, c.files⟩]) (u : List Node) (hu : Wf u) => stay_end hid hc q1 hy hye hu
 generalize hX : L ++ [(⟨1000, 2, c.id, 0, c.files⟩ : Dset)] = X at hst hend
 obtain ⟨hXM, hfull, hfree⟩ := hst
 simp only [outA, asets, lay, wk5, wk3, wk, iaddrV_map, Nat.reduceAdd, Nat.reduceSub, Nat.reduceMul, Nat.reduceLeDiff, Nat.reduceEqDiff, Nat.reduceBEq, Int.reduceLE, Int.reduceLT, Int.reduceEq, Int.reduceNe, Int.reduceAdd, Int.reduceSub, Int.reduceToNat, Int.reduceNeg, ↓reduceIte, reduceCtorEq]
 refine QStp_go (W_stp ?_)
 simp only [lay, wk5, wk3, wk, iaddrV_map, Nat.reduceAdd, Nat.reduceSub, Nat.reduceMul, Nat.reduceLeDiff, Nat.reduceEqDiff, Nat.reduceBEq, Int.reduceLE, Int.reduceLT, Int.reduceEq, Int.reduceNe, Int.reduceAdd, Int.reduceSub, Int.reduceToNat, Int.reduceNeg, ↓reduceIte, reduceCtorEq]
 refine QStp_go (W_stp ?_)
 simp only [lay, wk5, wk3, wk, iaddrV_map, Nat.reduceAdd, Nat.reduceSub, Nat.reduceMul, Nat.reduceLeDiff, Nat.reduceEqDiff, Nat.reduceBEq, Int.reduceLE, Int.reduceLT, Int.reduceEq, Int.reduceNe, Int.reduceAdd, Int.reduceSub, Int.reduceToNat, Int.reduceNeg, ↓reduceIte, reduceCtorEq]
 refine CT_ok (dcloneL X hXM.short 1001 1000 _) ?_
 rintro _ _ ⟨rfl, rfl⟩
 by_cases h9 : X.length = 8
 ·have h9' : (X.length : Int) = 8 := by omega
  rw [hfull h9]
  simp only [outA, asets, lay, wk5, wk3, wk, iaddrV_map, Nat.reduceAdd, Nat.reduceSub, Nat.reduceMul, Nat.reduceLeDiff, Nat.reduceEqDiff, Nat.reduceBEq, Int.reduceLE, Int.reduceLT, Int.reduceEq, Int.reduceNe, Int.reduceAdd, Int.reduceSub, Int.reduceToNat, Int.reduceNeg, ↓reduceIte, reduceCtorEq]
  refine QStp_go (W_stp ?_)
  simp only [h9', lay, wk5, wk3, wk, iaddrV_map, Nat.reduceAdd, Nat.reduceSub, Nat.reduceMul, Nat.reduceLeDiff, Nat.reduceEqDiff, Nat.reduceBEq, Int.reduceLE, Int.reduceLT, Int.reduceEq, Int.reduceNe, Int.reduceAdd, Int.reduceSub, Int.reduceToNat, Int.reduceNeg, ↓reduceIte, reduceCtorEq]
 have hXl := hXM.len
 obtain ⟨Y, hY, hYM, hYe⟩ := hfree (by omega)
 replace hend := hend Y hYM hYe
 rw [hY]
 simp only [outA, asets, lay, wk5, wk3, wk, iaddrV_map, Nat.reduceAdd, Nat.reduceSub, Nat.reduceMul, Nat.reduceLeDiff, Nat.reduceEqDiff, Nat.reduceBEq, Int.reduceLE, Int.reduceLT, Int.reduceEq, Int.reduceNe, Int.reduceAdd, Int.reduceSub, Int.reduceToNat, Int.reduceNeg, ↓reduceIte, reduceCtorEq]
 refine QStp_go (W_stp ?_)
 simp only [lay, wk5, wk3, wk, iaddrV_map, Nat.reduceAdd, Nat.reduceSub, Nat.reduceMul, Nat.reduceLeDiff, Nat.reduceEqDiff, Nat.reduceBEq, Int.reduceLE, Int.reduceLT, Int.reduceEq, Int.reduceNe, Int.reduceAdd, Int.reduceSub, Int.reduceToNat, Int.reduceNeg, ↓reduceIte, reduceCtorEq]
 refine QStp_go (W_stp (WT_drawE ?_))
 refine WDT_more 1 ?_
 simp only [cellD, aset, lay, wk5, wk3, wk, iaddrV_map, Nat.reduceAdd, Nat.reduceSub, Nat.reduceMul, Nat.reduceLeDiff, Nat.reduceEqDiff, Nat.reduceBEq, Int.reduceLE, Int.reduceLT, Int.reduceEq, Int.reduceNe, Int.reduceAdd, Int.reduceSub, Int.reduceToNat, Int.reduceNeg, ↓reduceIte, reduceCtorEq]
 refine CFT_made m (by simp) ?_
 simp only [lay, wk5, wk3, wk, iaddrV_map, Nat.reduceAdd, Nat.reduceSub, Nat.reduceMul, Nat.reduceLeDiff, Nat.reduceEqDiff, Nat.reduceBEq, Int.reduceLE, Int.reduceLT, Int.reduceEq, Int.reduceNe, Int.reduceAdd, Int.reduceSub, Int.reduceToNat, Int.reduceNeg, ↓reduceIte, reduceCtorEq]
 refine ⟨by rfl, ?_⟩
 refine CT_ok (grown_at m 0 (by omega) (by omega) c.files hcw 15 (by omega) 2 _ rfl) ?_
 rintro _ _ ⟨u, n', hu, _, rfl, rfl⟩
 simp only [aset, lay, wk5, wk3, wk, iaddrV_map, Nat.reduceAdd, Nat.reduceSub, Nat.reduceMul, Nat.reduceLeDiff, Nat.reduceEqDiff, Nat.reduceBEq, Int.reduceLE, Int.reduceLT, Int.reduceEq, Int.reduceNe, Int.reduceAdd, Int.reduceSub, Int.reduceToNat, Int.reduceNeg, ↓reduceIte, reduceCtorEq]
 refine QStp_go (W_stp ?_)
 have hul := hu.len
 obtain ⟨Z, hZ, hZM, s, o, gs, fs, go, fo, U, hU, hUM, c', s', o', gc', fc', oc', gs', os', fs', go', oo', fo'⟩ := hend u hu
 simp only [lay, wk5, wk3, wk, iaddrV_map, Nat.reduceAdd, Nat.reduceSub, Nat.reduceMul, Nat.reduceLeDiff, Nat.reduceEqDiff, Nat.reduceBEq, Int.reduceLE, Int.reduceLT, Int.reduceEq, Int.reduceNe, Int.reduceAdd, Int.reduceSub, Int.reduceToNat, Int.reduceNeg, ↓reduceIte, reduceCtorEq]
 refine CT_ok (filesL Y hYM.short 1001 u (by omega) _) ?_
 rintro _ _ ⟨rfl, rfl⟩
 rw [hZ]
 simp only [outA, asets, lay, wk5, wk3, wk, iaddrV_map, Nat.reduceAdd, Nat.reduceSub, Nat.reduceMul, Nat.reduceLeDiff, Nat.reduceEqDiff, Nat.reduceBEq, Int.reduceLE, Int.reduceLT, Int.reduceEq, Int.reduceNe, Int.reduceAdd, Int.reduceSub, Int.reduceToNat, Int.reduceNeg, ↓reduceIte, reduceCtorEq]
 refine QStp_go (W_stp ?_)
 simp only [lay, wk5, wk3, wk, iaddrV_map, Nat.reduceAdd, Nat.reduceSub, Nat.reduceMul, Nat.reduceLeDiff, Nat.reduceEqDiff, Nat.reduceBEq, Int.reduceLE, Int.reduceLT, Int.reduceEq, Int.reduceNe, Int.reduceAdd, Int.reduceSub, Int.reduceToNat, Int.reduceNeg, ↓reduceIte, reduceCtorEq]
 refine CT_ok (getL Z hZM.short 1000 _) ?_
 rintro _ _ ⟨rfl, rfl⟩
 rw [gs]
 simp only [getV, cellD, aset, lay, wk5, wk3, wk, iaddrV_map, Nat.reduceAdd, Nat.reduceSub, Nat.reduceMul, Nat.reduceLeDiff, Nat.reduceEqDiff, Nat.reduceBEq, Int.reduceLE, Int.reduceLT, Int.reduceEq, Int.reduceNe, Int.reduceAdd, Int.reduceSub, Int.reduceToNat, Int.reduceNeg, ↓reduceIte, reduceCtorEq]
 refine QStp_go (W_stp ?_)
 simp only [lay, wk5, wk3, wk, iaddrV_map, Nat.reduceAdd, Nat.reduceSub, Nat.reduceMul, Nat.reduceLeDiff, Nat.reduceEqDiff, Nat.reduceBEq, Int.reduceLE, Int.reduceLT, Int.reduceEq, Int.reduceNe, Int.reduceAdd, Int.reduceSub, Int.reduceToNat, Int.reduceNeg, ↓reduceIte, reduceCtorEq]
 refine CT_ok (getL Z hZM.short c.id _) ?_
 rintro _ _ ⟨rfl, rfl⟩
 rw [go]
 simp only [getV, cellD, aset, lay, wk5, wk3, wk, iaddrV_map, Nat.reduceAdd, Nat.reduceSub, Nat.reduceMul, Nat.reduceLeDiff, Nat.reduceEqDiff, Nat.reduceBEq, Int.reduceLE, Int.reduceLT, Int.reduceEq, Int.reduceNe, Int.reduceAdd, Int.reduceSub, Int.reduceToNat, Int.reduceNeg, ↓reduceIte, reduceCtorEq]
 refine QStp_go (W_stp ?_)
 have hd : decide (c.files = c.files) = true := decide_eq_true rfl
 have hdu : decide (u = u) = true := decide_eq_true rfl
 simp only [fs, fo, lay, wk5, wk3, wk, iaddrV_map, Nat.reduceAdd, Nat.reduceSub, Nat.reduceMul, Nat.reduceLeDiff, Nat.reduceEqDiff, Nat.reduceBEq, Int.reduceLE, Int.reduceLT, Int.reduceEq, Int.reduceNe, Int.reduceAdd, Int.reduceSub, Int.reduceToNat, Int.reduceNeg, ↓reduceIte, reduceCtorEq]
 refine CT_ok (same33 c.files c.files (by omega) (by omega) _) ?_
 rintro _ _ ⟨rfl, rfl⟩
 simp only [hd, lay, wk5, wk3, wk, iaddrV_map, Nat.reduceAdd, Nat.reduceSub, Nat.reduceMul, Nat.reduceLeDiff, Nat.reduceEqDiff, Nat.reduceBEq, Int.reduceLE, Int.reduceLT, Int.reduceEq, Int.reduceNe, Int.reduceAdd, Int.reduceSub, Int.reduceToNat, Int.reduceNeg, ↓reduceIte, reduceCtorEq]
 refine CT_ok (same33 c.files c.files (by omega) (by omega) _) ?_
 rintro _ _ ⟨rfl, rfl⟩
 simp only [hd, lay, wk5, wk3, wk, iaddrV_map, Nat.reduceAdd, Nat.reduceSub, Nat.reduceMul, Nat.reduceLeDiff, Nat.reduceEqDiff, Nat.reduceBEq, Int.reduceLE, Int.reduceLT, Int.reduceEq, Int.reduceNe, Int.reduceAdd, Int.reduceSub, Int.reduceToNat, Int.reduceNeg, ↓reduceIte, reduceCtorEq]
 refine QStp_go (W_stp ?_)
 simp only [lay, wk5, wk3, wk, iaddrV_map, Nat.reduceAdd, Nat.reduceSub, Nat.reduceMul, Nat.reduceLeDiff, Nat.reduceEqDiff, Nat.reduceBEq, Int.reduceLE, Int.reduceLT, Int.reduceEq, Int.reduceNe, Int.reduceAdd, Int.reduceSub, Int.reduceToNat, Int.reduceNeg, ↓reduceIte, reduceCtorEq]
 refine CT_ok (promoteL Z hZM.short 1001 _) ?_
 rintro _ _ ⟨rfl, rfl⟩
 rw [hU]
 simp only [outA, asets, lay, wk5, wk3, wk, iaddrV_map, Nat.reduceAdd, Nat.reduceSub, Nat.reduceMul, Nat.reduceLeDiff, Nat.reduceEqDiff, Nat.reduceBEq, Int.reduceLE, Int.reduceLT, Int.reduceEq, Int.reduceNe, Int.reduceAdd, Int.reduceSub, Int.reduceToNat, Int.reduceNeg, ↓reduceIte, reduceCtorEq]
 refine QStp_go (W_stp ?_)
 simp only [lay, wk5, wk3, wk, iaddrV_map, Nat.reduceAdd, Nat.reduceSub, Nat.reduceMul, Nat.reduceLeDiff, Nat.reduceEqDiff, Nat.reduceBEq, Int.reduceLE, Int.reduceLT, Int.reduceEq, Int.reduceNe, Int.reduceAdd, Int.reduceSub, Int.reduceToNat, Int.reduceNeg, ↓reduceIte, reduceCtorEq]
 refine CT_ok (getL U hUM.short 1001 _) ?_
 rintro _ _ ⟨rfl, rfl⟩
 rw [gc']
 simp only [getV, cellD, aset, lay, wk5, wk3, wk, iaddrV_map, Nat.reduceAdd, Nat.reduceSub, Nat.reduceMul, Nat.reduceLeDiff, Nat.reduceEqDiff, Nat.reduceBEq, Int.reduceLE, Int.reduceLT, Int.reduceEq, Int.reduceNe, Int.reduceAdd, Int.reduceSub, Int.reduceToNat, Int.reduceNeg, ↓reduceIte, reduceCtorEq]
 refine QStp_go (W_stp ?_)
 simp only [lay, wk5, wk3, wk, iaddrV_map, Nat.reduceAdd, Nat.reduceSub, Nat.reduceMul, Nat.reduceLeDiff, Nat.reduceEqDiff, Nat.reduceBEq, Int.reduceLE, Int.reduceLT, Int.reduceEq, Int.reduceNe, Int.reduceAdd, Int.reduceSub, Int.reduceToNat, Int.reduceNeg, ↓reduceIte, reduceCtorEq]
 refine CT_ok (getL U hUM.short 1000 _) ?_
 rintro _ _ ⟨rfl, rfl⟩
 rw [gs']
 simp only [getV, cellD, aset, lay, wk5, wk3, wk, iaddrV_map, Nat.reduceAdd, Nat.reduceSub, Nat.reduceMul, Nat.reduceLeDiff, Nat.reduceEqDiff, Nat.reduceBEq, Int.reduceLE, Int.reduceLT, Int.reduceEq, Int.reduceNe, Int.reduceAdd, Int.reduceSub, Int.reduceToNat, Int.reduceNeg, ↓reduceIte, reduceCtorEq]
 refine QStp_go (W_stp ?_)
 simp only [lay, wk5, wk3, wk, iaddrV_map, Nat.reduceAdd, Nat.reduceSub, Nat.reduceMul, Nat.reduceLeDiff, Nat.reduceEqDiff, Nat.reduceBEq, Int.reduceLE, Int.reduceLT, Int.reduceEq, Int.reduceNe, Int.reduceAdd, Int.reduceSub, Int.reduceToNat, Int.reduceNeg, ↓reduceIte, reduceCtorEq]
 refine CT_ok (getL U hUM.short c.id _) ?_
 rintro _ _ ⟨rfl, rfl⟩
 rw [go']
 simp only [getV, cellD, aset, lay, wk5, wk3, wk, iaddrV_map, Nat.reduceAdd, Nat.reduceSub, Nat.reduceMul, Nat.reduceLeDiff, Nat.reduceEqDiff, Nat.reduceBEq, Int.reduceLE, Int.reduceLT, Int.reduceEq, Int.reduceNe, Int.reduceAdd, Int.reduceSub, Int.reduceToNat, Int.reduceNeg, ↓reduceIte, reduceCtorEq]
 refine QStp_go (W_stp ?_)
 simp only [fs', fo', fc', os', oo', oc', lay, wk5, wk3, wk, iaddrV_map, Nat.reduceAdd, Nat.reduceSub, Nat.reduceMul, Nat.reduceLeDiff, Nat.reduceEqDiff, Nat.reduceBEq, Int.reduceLE, Int.reduceLT, Int.reduceEq, Int.reduceNe, Int.reduceAdd, Int.reduceSub, Int.reduceToNat, Int.reduceNeg, ↓reduceIte, reduceCtorEq]
 refine CT_ok (same33 u u (by omega) (by omega) _) ?_
 rintro _ _ ⟨rfl, rfl⟩
 simp only [hdu, os', oo', oc', lay, wk5, wk3, wk, iaddrV_map, Nat.reduceAdd, Nat.reduceSub, Nat.reduceMul, Nat.reduceLeDiff, Nat.reduceEqDiff, Nat.reduceBEq, Int.reduceLE, Int.reduceLT, Int.reduceEq, Int.reduceNe, Int.reduceAdd, Int.reduceSub, Int.reduceToNat, Int.reduceNeg, ↓reduceIte, reduceCtorEq]
 refine CT_ok (same33 c.files c.files (by omega) (by omega) _) ?_
 rintro _ _ ⟨rfl, rfl⟩
 simp only [hd, lay, wk5, wk3, wk, iaddrV_map, Nat.reduceAdd, Nat.reduceSub, Nat.reduceMul, Nat.reduceLeDiff, Nat.reduceEqDiff, Nat.reduceBEq, Int.reduceLE, Int.reduceLT, Int.reduceEq, Int.reduceNe, Int.reduceAdd, Int.reduceSub, Int.reduceToNat, Int.reduceNeg, ↓reduceIte, reduceCtorEq]
 refine CT_ok (same33 c.files c.files (by omega) (by omega) _) ?_
 rintro _ _ ⟨rfl, rfl⟩
 simp only [hd, lay, wk5, wk3, wk, iaddrV_map, Nat.reduceAdd, Nat.reduceSub, Nat.reduceMul, Nat.reduceLeDiff, Nat.reduceEqDiff, Nat.reduceBEq, Int.reduceLE, Int.reduceLT, Int.reduceEq, Int.reduceNe, Int.reduceAdd, Int.reduceSub, Int.reduceToNat, Int.reduceNeg, ↓reduceIte, reduceCtorEq]
 refine QStp_go (WT_ok ?_)
 simp only [lay, wk5, wk3, wk, iaddrV_map, Nat.reduceAdd, Nat.reduceSub, Nat.reduceMul, Nat.reduceLeDiff, Nat.reduceEqDiff, Nat.reduceBEq, Int.reduceLE, Int.reduceLT, Int.reduceEq, Int.reduceNe, Int.reduceAdd, Int.reduceSub, Int.reduceToNat, Int.reduceNeg, ↓reduceIte, reduceCtorEq]
end Go.Proofs.YtemjlopoffjmpaaGreat.Abs
set_option linter.unusedSimpArgs false
set_option linter.unusedVariables false
namespace Go.Proofs.YtemjlopoffjmpaaGreat.Abs
open Go Go.Proofs
theorem rep_row {w : World} {a : Option Addr} {len cap : Nat} {zs : List Int}
 (h : (a = none ∧ len = 0 ∧ cap = 0 ∧ zs = []) ∨ ∃ x, a = some x ∧ len ≤ cap ∧ cap ≤ maxLen ∧ zs.length = cap ∧ (∀ i, i < zs.length → w.cell? (x.add i) = some (.int .u8 (zs.getD i 0))) ∧ ∀ n ∈ zs, (Lit.int .u8 n).wf = true) :
 ∃ l : List UInt8, Rep (E0 w) (.fz (l.map pbyte)) (.slice a len cap) := by
 rcases h with ⟨rfl, rfl, rfl, rfl⟩ | ⟨x, rfl, hl, hm, hz, hcell, hwf⟩
 ·exact ⟨[], .pure (x := .fz []) (.fz0 _ _)⟩
 ·by_cases h0 : len = 0
  ·subst h0
   exact ⟨[], .pure (x := .fz []) (.fz0 _ _)⟩
  ·have hc0 := hcell 0 (by omega)
   obtain ⟨b, off, spot⟩ := x
   simp only [Addr.add, if_true, World.cell?] at hc0
   cases hb : w.heap[b]? with
   | none => rw [hb] at hc0; cases hc0
   | some o =>
     rw [hb] at hc0
     cases o with
     | cells c t q =>
       simp only at hc0
       split at hc0
       ·cases hc0
       ·rename_i hsp
        have hsp2 : spot = none := by cases spot with
         | none => rfl
         | some _ => simp at hsp
        subst hsp2
        have hci : ∀ i, i < zs.length → c[off + i]? = some (.int .u8 (zs.getD i 0)) := by
         intro i hi
         have := hcell i hi
         unfold Addr.add at this
         split at this
         ·rename_i e; subst e; simpa [World.cell?, hb] using this
         ·simpa [World.cell?, hb] using this
        refine ⟨(zs.take len).map fun n => UInt8.ofNat n.toNat, ?_⟩
        have hlen : (((zs.take len).map fun n => UInt8.ofNat n.toNat).map pbyte).length = len := by simp; omega
        have key := RepP.fz (F := (E0 w).F) (((zs.take len).map fun n => UInt8.ofNat n.toNat).map pbyte) b off cap 1 c t q hb (by rw [hlen]; exact hl) (by
         intro e he
         obtain ⟨y, _, rfl⟩ := List.mem_map.1 he
         rfl) (by
         rw [hlen]
         have h1 := hci (len - 1) (by omega)
         have : off + (len - 1) < c.size := by
          apply Classical.byContradiction
          intro h
          rw [Array.getElem?_eq_none (by omega)] at h1
          cases h1
         omega) (by
         intro i e k cc v he hk hv
         rw [List.map_map, List.getElem?_map] at he
         have hi : i < (zs.take len).length := by
          apply Classical.byContradiction
          intro h
          rw [List.getElem?_eq_none (by omega)] at he
          cases he
         rw [List.getElem?_eq_getElem hi] at he
         simp only [Option.map_some, Option.some.injEq, Function.comp] at he
         subst he
         have hk0 : k = 0 := by
          apply Classical.byContradiction
          intro h
          rw [List.getElem?_eq_none (by simp [pbyte]; omega)] at hk
          cases hk
         subst hk0
         simp only [pbyte, List.getElem?_cons_zero, Option.some.injEq] at hk
         subst hk
         rw [List.length_take] at hi
         rw [Nat.mul_one, Nat.add_zero, hci i (by omega)] at hv
         cases hv
         have hg : zs.getD i 0 = (zs.take len)[i]'(by rw [List.length_take]; exact hi) := by
          rw [List.getElem_take, List.getD_eq_getElem?_getD, List.getElem?_eq_getElem (by omega), Option.getD_some]
         rw [hg]
         have hw := hwf ((zs.take len)[i]'(by rw [List.length_take]; exact hi)) (List.mem_of_mem_take (List.getElem_mem _))
         generalize (zs.take len)[i]'(by rw [List.length_take]; exact hi) = n at hw
         have hn : 0 ≤ n ∧ n < 256 := by
          have := hw; simp [Lit.wf, IntKind.min, IntKind.max, IntKind.bits, IntKind.signed] at this; omega
         have : ((UInt8.ofNat n.toNat).toNat : Int) = n := by
          rw [UInt8.toNat_ofNat']
          omega
         rw [this]
         exact .int _ _)
        rw [hlen] at key
        exact .pure (x := .fz _) key
     | _ => simp at hc0
theorem repL_one {E : Env} {x : AV} {v : Value} (h : Rep E x v) : RepL E [x] #[v] := by
 refine ⟨rfl, fun i c u hc hu => ?_⟩
 match i, hc, hu with
 | 0, hc, hu => simp at hc hu; subst hc; subst hu; exact h
 | i + 1, hc, _ => simp at hc
end Go.Proofs.YtemjlopoffjmpaaGreat.Abs
