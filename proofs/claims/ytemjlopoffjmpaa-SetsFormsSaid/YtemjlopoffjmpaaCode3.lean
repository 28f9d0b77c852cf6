/-
  The code of some functions in the abstract layer's form, each checked against the program's own. Written by gen.py.
-/
import Derived.Test.YtemjlopoffjmpaaAbs22
import Derived.Test.YtemjlopoffjmpaaProg
import Derived.KernelRfl
namespace Go.Proofs.Ytemjlopoffjmpaa.Abs
open Go

/-- palimp/data.Parts -/
def c39 : ACode :=
 (.seq (.reg [⟨some 2, none, .mv (.c (.int .i64 0))⟩])
 (.seq (.reg [⟨some 3, none, .mv (.c (.int .i64 0))⟩])
 (.seq (.seq (.reg [⟨some 5, none, .mv (.c (.int .i64 0))⟩])
 (.block 0
 (.loop
 (.seq (.reg [⟨some 6, none, .bini .lss (.t 5) (.c (.int .i64 4))⟩])
 (.seq (.cond (.t 6)
 .skip
 (.exit 0))
 (.seq (.block 1
 (.seq (.reg [⟨some 7, none, .mv (.t 5)⟩,
  ⟨some 4, none, .mv (.t 7)⟩])
 (.seq (.reg [⟨some 8, none, .mv (.t 0)⟩,
  ⟨some 9, none, .mv (.t 4)⟩,
  ⟨some 10, none, .call 73 [(.t 8), (.t 9)]⟩,
  ⟨some 11, none, .bins .neq (.t 10) (.c (.str []))⟩])
 (.cond (.t 11)
 (.reg [⟨some 12, none, .mv (.t 3)⟩,
  ⟨some 13, none, .bini .add (.t 12) (.c (.int .i64 1))⟩,
  ⟨some 3, none, .mv (.t 13)⟩])
 .skip))))
 (.reg [⟨some 14, none, .bini .add (.t 5) (.c (.int .i64 1))⟩,
  ⟨some 5, none, .mv (.t 14)⟩])))))))
 (.seq (.reg [⟨some 15, none, .mv (.t 3)⟩,
  ⟨some 2, none, .mv (.t 15)⟩])
 .ret))))
theorem d39 : FnD Try.prog 39 1 15 [.tmp 2] c39 := ⟨Try.f39, _, Try.func39, by kernel_rfl, rfl, rfl, by kernel_rfl, by kernel_rfl⟩

/-- slices.Clone(()palimp/api.Dset,palimp/api.Dset) -/
def c40 : ACode :=
 (.seq (.reg [⟨some 2, none, .mv (.c (.emp))⟩])
 (.seq (.seq (.reg [⟨some 3, none, .mv (.t 0)⟩,
  ⟨some 4, none, .eqnil false (.t 3)⟩])
 (.cond (.t 4)
 (.seq (.reg [⟨some 2, none, .mv (.c (.emp))⟩])
 .ret)
 .skip))
 (.seq (.reg [⟨some 5, none, .bslice 5 0 [.int .i64 0, .int .i64 0, .int .i64 0, .int .i64 0, .emp] []⟩,
  ⟨some 6, none, .mv (.t 0)⟩,
  ⟨some 7, none, .append 5 56 [.int .i64 0, .int .i64 0, .int .i64 0, .int .i64 0, .emp] (.t 5) (.t 6)⟩,
  ⟨some 2, none, .mv (.t 7)⟩])
 .ret)))
theorem d40 : FnD Try.prog 40 1 7 [.tmp 2] c40 := ⟨Try.f40, _, Try.func40, by kernel_rfl, rfl, rfl, by kernel_rfl, by kernel_rfl⟩

/-- slices.Clone(palimp/api.Set,palimp/api.Node) -/
def c41 : ACode :=
 (.seq (.reg [⟨some 2, none, .mv (.c (.emp))⟩])
 (.seq (.seq (.reg [⟨some 3, none, .mv (.t 0)⟩,
  ⟨some 4, none, .eqnil false (.t 3)⟩])
 (.cond (.t 4)
 (.seq (.reg [⟨some 2, none, .mv (.c (.emp))⟩])
 .ret)
 .skip))
 (.seq (.reg [⟨some 5, none, .bslice 5 0 [.int .i64 0, .int .i64 0, .str [], .str [], .int .i64 0] []⟩,
  ⟨some 6, none, .mv (.t 0)⟩,
  ⟨some 7, none, .append 5 56 [.int .i64 0, .int .i64 0, .str [], .str [], .int .i64 0] (.t 5) (.t 6)⟩,
  ⟨some 2, none, .mv (.t 7)⟩])
 .ret)))
theorem d41 : FnD Try.prog 41 1 7 [.tmp 2] c41 := ⟨Try.f41, _, Try.func41, by kernel_rfl, rfl, rfl, by kernel_rfl, by kernel_rfl⟩

/-- palimp/dset.Get -/
def c42 : ACode :=
 (.seq (.reg [⟨some 4, none, .alloc [.int .i64 0, .int .i64 0, .int .i64 0, .int .i64 0, .emp]⟩,
  ⟨some 5, none, .mv (.c (.bool false))⟩])
 (.seq (.reg [⟨some 7, none, .mv (.t 0)⟩,
  ⟨some 8, none, .call 59 [(.t 7)]⟩,
  ⟨some 0, none, .mv (.t 8)⟩])
 (.seq (.reg [⟨some 9, none, .mv (.t 0)⟩,
  ⟨some 10, none, .mv (.t 1)⟩,
  ⟨some 11, none, .call 62 [(.t 9), (.t 10)]⟩,
  ⟨some 6, none, .mv (.t 11)⟩])
 (.seq (.seq (.reg [⟨some 12, none, .mv (.t 6)⟩,
  ⟨some 13, none, .bini .lss (.t 12) (.c (.int .i64 0))⟩])
 (.cond (.t 13)
 (.seq (.reg [⟨some 14, none, .build [.int .i64 0, .int .i64 0, .int .i64 0, .int .i64 0, .emp] []⟩,
  ⟨none, none, .store 5 (.t 4) (.t 14)⟩,
  ⟨some 5, none, .mv (.c (.bool false))⟩])
 .ret)
 .skip))
 (.seq (.reg [⟨some 15, none, .mv (.t 0)⟩,
  ⟨some 16, none, .mv (.t 6)⟩,
  ⟨some 17, none, .iaddr 5 (.t 15) (.t 16)⟩,
  ⟨some 18, none, .load true 5 (.t 17)⟩,
  ⟨none, none, .store 5 (.t 4) (.t 18)⟩,
  ⟨some 5, none, .mv (.c (.bool true))⟩])
 .ret)))))
theorem d42 : FnD Try.prog 42 2 17 [.cell 4 true 5, .tmp 5] c42 := ⟨Try.f42, _, Try.func42, by kernel_rfl, rfl, rfl, by kernel_rfl, by kernel_rfl⟩

/-- slices.IndexFunc(()palimp/api.Dset,palimp/api.Dset) -/
def c43 : ACode :=
 (.seq (.reg [⟨some 4, none, .mv (.c (.int .i64 0))⟩])
 (.seq (.seq (.reg [⟨some 6, none, .mv (.t 0)⟩,
  ⟨some 7, none, .len false (.t 6)⟩,
  ⟨some 8, none, .mv (.c (.int .i64 0))⟩])
 (.block 0
 (.loop
 (.seq (.reg [⟨some 9, none, .bini .lss (.t 8) (.t 7)⟩])
 (.seq (.cond (.t 9)
 .skip
 (.exit 0))
 (.seq (.block 1
 (.seq (.reg [⟨some 10, none, .mv (.t 8)⟩,
  ⟨some 5, none, .mv (.t 10)⟩])
 (.seq (.reg [⟨some 11, none, .mv (.t 1)⟩,
  ⟨some 12, none, .mv (.t 0)⟩,
  ⟨some 13, none, .mv (.t 5)⟩,
  ⟨some 14, none, .iaddr 5 (.t 12) (.t 13)⟩,
  ⟨some 15, none, .load true 5 (.t 14)⟩,
  ⟨some 16, none, .calld (.t 11) [(.t 15)]⟩])
 (.cond (.t 16)
 (.seq (.reg [⟨some 17, none, .mv (.t 5)⟩,
  ⟨some 4, none, .mv (.t 17)⟩])
 .ret)
 .skip))))
 (.reg [⟨some 18, none, .bini .add (.t 8) (.c (.int .i64 1))⟩,
  ⟨some 8, none, .mv (.t 18)⟩])))))))
 (.seq (.reg [⟨some 4, none, .mv (.c (.int .i64 (-1)))⟩])
 .ret)))
theorem d43 : FnD Try.prog 43 2 17 [.tmp 4] c43 := ⟨Try.f43, _, Try.func43, by kernel_rfl, rfl, rfl, by kernel_rfl, by kernel_rfl⟩

/-- palimp/acct.Put$1 -/
def c44 : ACode :=
 (.seq (.reg [⟨some 2, none, .box (.t 0)⟩,
  ⟨some 3, none, .mv (.c (.bool false))⟩])
 (.seq (.reg [⟨some 4, none, .faddr 0 (.t 2)⟩,
  ⟨some 5, none, .load false 1 (.t 4)⟩,
  ⟨some 6, none, .load false 1 (.t 1)⟩,
  ⟨some 7, none, .bini .eql (.t 5) (.t 6)⟩,
  ⟨some 3, none, .mv (.t 7)⟩])
 .ret))
theorem d44 : FnD Try.prog 44 2 6 [.tmp 3] c44 := ⟨Try.f44, _, Try.func44, by kernel_rfl, rfl, rfl, by kernel_rfl, by kernel_rfl⟩

/-- (*palimp/palimpmade.Picks).Grown -/
def c45 : ACode :=
 (.seq (.reg [⟨some 6, none, .mv (.c (.emp))⟩])
 (.seq (.seq (.reg [⟨some 7, none, .mv (.c (.int .i64 0))⟩])
 (.block 0
 (.loop
 (.seq (.seq (.reg [⟨some 8, none, .mv (.t 7)⟩,
  ⟨some 9, none, .mv (.t 2)⟩,
  ⟨some 10, none, .bini .lss (.t 8) (.t 9)⟩,
  ⟨some 11, none, .mv (.t 10)⟩,
  ⟨some 12, (some (11, true)), .mv (.t 0)⟩,
  ⟨some 13, (some (11, true)), .call 11 [(.t 12)]⟩,
  ⟨some 14, (some (11, true)), .un .not (.t 13)⟩,
  ⟨some 15, none, .pick (.t 11) (.t 14) (.c (.bool false))⟩])
 (.cond (.t 15)
 .skip
 (.exit 0)))
 (.seq (.block 1
 (.reg [⟨some 19, none, .mv (.t 1)⟩,
  ⟨some 20, none, .mv (.t 0)⟩,
  ⟨some 21, none, .call 13 [(.t 20), (.c (.int .i64 1))]⟩,
  ⟨some 22, none, .call 12 [(.t 19), (.t 21)]⟩,
  ⟨some 18, none, .mv (.t 22)⟩,
  ⟨some 23, none, .ext (.t 18) 0⟩,
  ⟨some 24, none, .ext (.t 18) 1⟩,
  ⟨some 1, none, .mv (.t 23)⟩]))
 (.reg [⟨some 16, none, .mv (.t 7)⟩,
  ⟨some 17, none, .bini .add (.t 16) (.c (.int .i64 1))⟩,
  ⟨some 7, none, .mv (.t 17)⟩]))))))
 (.seq (.reg [⟨some 25, none, .mv (.t 1)⟩,
  ⟨some 6, none, .mv (.t 25)⟩])
 .ret)))
theorem d45 : FnD Try.prog 45 3 23 [.tmp 6] c45 := ⟨Try.f45, _, Try.func45, by kernel_rfl, rfl, rfl, by kernel_rfl, by kernel_rfl⟩

/-- palimp/palimpref11.Place -/
def c46 : ACode :=
 (.seq (.reg [⟨some 4, none, .mv (.c (.int .i64 0))⟩,
  ⟨some 5, none, .mv (.c (.str []))⟩,
  ⟨some 6, none, .mv (.c (.int .i64 0))⟩])
 (.seq (.reg [⟨some 12, none, .mv (.t 1)⟩,
  ⟨some 13, none, .call 74 [(.t 12)]⟩,
  ⟨some 11, none, .mv (.t 13)⟩,
  ⟨some 14, none, .ext (.t 11) 0⟩,
  ⟨some 15, none, .ext (.t 11) 1⟩,
  ⟨some 7, none, .mv (.t 14)⟩,
  ⟨some 8, none, .mv (.t 15)⟩])
 (.seq (.seq (.reg [⟨some 16, none, .mv (.t 8)⟩,
  ⟨some 17, none, .un .not (.t 16)⟩,
  ⟨some 18, none, .mv (.t 17)⟩,
  ⟨some 19, (some (18, false)), .mv (.t 7)⟩,
  ⟨some 20, (some (18, false)), .len false (.t 19)⟩,
  ⟨some 21, (some (18, false)), .bini .eql (.t 20) (.c (.int .i64 0))⟩,
  ⟨some 22, none, .pick (.t 18) (.c (.bool true)) (.t 21)⟩])
 (.cond (.t 22)
 (.seq (.reg [⟨some 4, none, .mv (.c (.int .i64 0))⟩,
  ⟨some 5, none, .mv (.c (.str []))⟩,
  ⟨some 6, none, .mv (.c (.int .i64 1))⟩])
 .ret)
 .skip))
 (.seq (.reg [⟨some 24, none, .mv (.t 0)⟩,
  ⟨some 25, none, .mv (.t 7)⟩,
  ⟨some 26, none, .mv (.t 7)⟩,
  ⟨some 27, none, .len false (.t 26)⟩,
  ⟨some 28, none, .bini .sub (.t 27) (.c (.int .i64 1))⟩,
  ⟨some 29, none, .slicel 1 (.t 25) none (some (.t 28))⟩,
  ⟨some 30, none, .call 75 [(.t 24), (.t 29)]⟩,
  ⟨some 23, none, .mv (.t 30)⟩,
  ⟨some 31, none, .ext (.t 23) 0⟩,
  ⟨some 32, none, .ext (.t 23) 1⟩,
  ⟨some 9, none, .mv (.t 31)⟩,
  ⟨some 10, none, .mv (.t 32)⟩])
 (.seq (.seq (.reg [⟨some 33, none, .mv (.t 10)⟩,
  ⟨some 34, none, .bini .neq (.t 33) (.c (.int .i64 0))⟩])
 (.cond (.t 34)
 (.seq (.reg [⟨some 35, none, .mv (.t 10)⟩,
  ⟨some 4, none, .mv (.c (.int .i64 0))⟩,
  ⟨some 5, none, .mv (.c (.str []))⟩,
  ⟨some 6, none, .mv (.t 35)⟩])
 .ret)
 .skip))
 (.seq (.seq (.reg [⟨some 36, none, .mv (.t 9)⟩,
  ⟨some 37, none, .mv (.t 0)⟩,
  ⟨some 38, none, .len false (.t 37)⟩,
  ⟨some 39, none, .bini .geq (.t 36) (.t 38)⟩,
  ⟨some 40, none, .mv (.t 39)⟩,
  ⟨some 41, (some (40, false)), .mv (.t 0)⟩,
  ⟨some 42, (some (40, false)), .mv (.t 9)⟩,
  ⟨some 43, (some (40, false)), .iaddr 5 (.t 41) (.t 42)⟩,
  ⟨some 44, (some (40, false)), .faddr 0 (.t 43)⟩,
  ⟨some 45, (some (40, false)), .load false 1 (.t 44)⟩,
  ⟨some 46, (some (40, false)), .bini .neq (.t 45) (.c (.int .i64 2))⟩,
  ⟨some 47, none, .pick (.t 40) (.c (.bool true)) (.t 46)⟩])
 (.cond (.t 47)
 (.seq (.reg [⟨some 4, none, .mv (.c (.int .i64 0))⟩,
  ⟨some 5, none, .mv (.c (.str []))⟩,
  ⟨some 6, none, .mv (.c (.int .i64 5))⟩])
 .ret)
 .skip))
 (.seq (.dreg [⟨some 48, none, .mv (.t 9)⟩,
  ⟨some 49, none, .mv (.t 7)⟩,
  ⟨some 50, none, .mv (.t 7)⟩,
  ⟨some 51, none, .len false (.t 50)⟩,
  ⟨some 52, none, .bini .sub (.t 51) (.c (.int .i64 1))⟩,
  ⟨some 53, none, .iaddr 1 (.t 49) (.t 52)⟩,
  ⟨some 54, none, .load false 1 (.t 53)⟩,
  ⟨some 4, none, .mv (.t 48)⟩,
  ⟨some 5, none, .mv (.t 54)⟩,
  ⟨some 6, none, .mv (.c (.int .i64 0))⟩])
 .ret)))))))
theorem d46 : FnD Try.prog 46 2 53 [.tmp 4, .tmp 5, .tmp 6] c46 := ⟨Try.f46, _, Try.func46, by kernel_rfl, rfl, rfl, by kernel_rfl, by kernel_rfl⟩

/-- palimp/palimpref11.Kid -/
def c47 : ACode :=
 (.seq (.reg [⟨some 6, none, .mv (.c (.int .i64 0))⟩,
  ⟨some 7, none, .mv (.c (.bool false))⟩])
 (.seq (.reg [⟨some 10, none, .mv (.t 0)⟩,
  ⟨some 11, none, .mv (.t 1)⟩,
  ⟨some 12, none, .call 71 [(.t 10), (.t 11)]⟩,
  ⟨some 8, none, .mv (.t 12)⟩])
 (.seq (.seq (.reg [⟨some 9, none, .mv (.c (.int .i64 0))⟩])
 (.block 0
 (.loop
 (.seq (.seq (.reg [⟨some 13, none, .mv (.t 9)⟩,
  ⟨some 14, none, .mv (.t 8)⟩,
  ⟨some 15, none, .len false (.t 14)⟩,
  ⟨some 16, none, .bini .lss (.t 13) (.t 15)⟩])
 (.cond (.t 16)
 .skip
 (.exit 0)))
 (.seq (.block 1
 (.seq (.reg [⟨some 19, none, .mv (.t 0)⟩,
  ⟨some 20, none, .mv (.t 8)⟩,
  ⟨some 21, none, .mv (.t 9)⟩,
  ⟨some 22, none, .iaddr 1 (.t 20) (.t 21)⟩,
  ⟨some 23, none, .load false 1 (.t 22)⟩,
  ⟨some 24, none, .iaddr 5 (.t 19) (.t 23)⟩,
  ⟨some 25, none, .faddr 2 (.t 24)⟩,
  ⟨some 26, none, .load false 1 (.t 25)⟩,
  ⟨some 27, none, .mv (.t 2)⟩,
  ⟨some 28, none, .bins .eql (.t 26) (.t 27)⟩])
 (.cond (.t 28)
 (.seq (.reg [⟨some 29, none, .mv (.t 8)⟩,
  ⟨some 30, none, .mv (.t 9)⟩,
  ⟨some 31, none, .iaddr 1 (.t 29) (.t 30)⟩,
  ⟨some 32, none, .load false 1 (.t 31)⟩,
  ⟨some 6, none, .mv (.t 32)⟩,
  ⟨some 7, none, .mv (.c (.bool true))⟩])
 .ret)
 .skip)))
 (.reg [⟨some 17, none, .mv (.t 9)⟩,
  ⟨some 18, none, .bini .add (.t 17) (.c (.int .i64 1))⟩,
  ⟨some 9, none, .mv (.t 18)⟩]))))))
 (.seq (.reg [⟨some 6, none, .mv (.c (.int .i64 0))⟩,
  ⟨some 7, none, .mv (.c (.bool false))⟩])
 .ret))))
theorem d47 : FnD Try.prog 47 3 30 [.tmp 6, .tmp 7] c47 := ⟨Try.f47, _, Try.func47, by kernel_rfl, rfl, rfl, by kernel_rfl, by kernel_rfl⟩

/-- palimp/palimpref11.Free -/
def c48 : ACode :=
 (.seq (.reg [⟨some 2, none, .mv (.c (.int .i64 0))⟩,
  ⟨some 3, none, .mv (.c (.bool false))⟩])
 (.seq (.seq (.reg [⟨some 4, none, .mv (.c (.int .i64 0))⟩])
 (.block 0
 (.loop
 (.seq (.seq (.reg [⟨some 5, none, .mv (.t 4)⟩,
  ⟨some 6, none, .mv (.t 0)⟩,
  ⟨some 7, none, .len false (.t 6)⟩,
  ⟨some 8, none, .bini .lss (.t 5) (.t 7)⟩])
 (.cond (.t 8)
 .skip
 (.exit 0)))
 (.seq (.block 1
 (.seq (.reg [⟨some 11, none, .mv (.t 0)⟩,
  ⟨some 12, none, .mv (.t 4)⟩,
  ⟨some 13, none, .iaddr 5 (.t 11) (.t 12)⟩,
  ⟨some 14, none, .faddr 0 (.t 13)⟩,
  ⟨some 15, none, .load false 1 (.t 14)⟩,
  ⟨some 16, none, .bini .eql (.t 15) (.c (.int .i64 0))⟩])
 (.cond (.t 16)
 (.seq (.reg [⟨some 17, none, .mv (.t 4)⟩,
  ⟨some 2, none, .mv (.t 17)⟩,
  ⟨some 3, none, .mv (.c (.bool true))⟩])
 .ret)
 .skip)))
 (.reg [⟨some 9, none, .mv (.t 4)⟩,
  ⟨some 10, none, .bini .add (.t 9) (.c (.int .i64 1))⟩,
  ⟨some 4, none, .mv (.t 10)⟩]))))))
 (.seq (.reg [⟨some 2, none, .mv (.c (.int .i64 0))⟩,
  ⟨some 3, none, .mv (.c (.bool false))⟩])
 .ret)))
theorem d48 : FnD Try.prog 48 1 17 [.tmp 2, .tmp 3] c48 := ⟨Try.f48, _, Try.func48, by kernel_rfl, rfl, rfl, by kernel_rfl, by kernel_rfl⟩

/-- palimp/palimpref11.with -/
def c49 : ACode :=
 (.seq (.reg [⟨some 5, none, .box (.t 2)⟩,
  ⟨some 6, none, .mv (.c (.emp))⟩])
 (.seq (.reg [⟨some 8, none, .bslice 5 0 [.int .i64 0, .int .i64 0, .str [], .str [], .int .i64 0] []⟩,
  ⟨some 9, none, .mv (.t 0)⟩,
  ⟨some 10, none, .append 5 56 [.int .i64 0, .int .i64 0, .str [], .str [], .int .i64 0] (.t 8) (.t 9)⟩,
  ⟨some 7, none, .mv (.t 10)⟩])
 (.seq (.seq (.reg [⟨some 11, none, .mv (.t 1)⟩,
  ⟨some 12, none, .bini .geq (.t 11) (.c (.int .i64 0))⟩,
  ⟨some 13, none, .mv (.t 12)⟩,
  ⟨some 14, (some (13, true)), .mv (.t 1)⟩,
  ⟨some 15, (some (13, true)), .mv (.t 7)⟩,
  ⟨some 16, (some (13, true)), .len false (.t 15)⟩,
  ⟨some 17, (some (13, true)), .bini .lss (.t 14) (.t 16)⟩,
  ⟨some 18, none, .pick (.t 13) (.t 17) (.c (.bool false))⟩])
 (.cond (.t 18)
 (.reg [⟨some 19, none, .mv (.t 7)⟩,
  ⟨some 20, none, .mv (.t 1)⟩,
  ⟨some 21, none, .load true 5 (.t 5)⟩,
  ⟨some 22, none, .iaddr 5 (.t 19) (.t 20)⟩,
  ⟨none, none, .store 5 (.t 22) (.t 21)⟩])
 .skip))
 (.seq (.reg [⟨some 23, none, .mv (.t 7)⟩,
  ⟨some 6, none, .mv (.t 23)⟩])
 .ret))))
theorem d49 : FnD Try.prog 49 3 21 [.tmp 6] c49 := ⟨Try.f49, _, Try.func49, by kernel_rfl, rfl, rfl, by kernel_rfl, by kernel_rfl⟩

/-- palimp/palimpref11.file -/
def c50 : ACode :=
 (.seq (.reg [⟨some 4, none, .mv (.c (.int .i64 0))⟩,
  ⟨some 5, none, .mv (.c (.int .i64 0))⟩])
 (.seq (.reg [⟨some 9, none, .mv (.t 0)⟩,
  ⟨some 10, none, .mv (.t 1)⟩,
  ⟨some 11, none, .call 56 [(.t 9), (.t 10)]⟩,
  ⟨some 8, none, .mv (.t 11)⟩,
  ⟨some 12, none, .ext (.t 8) 0⟩,
  ⟨some 13, none, .ext (.t 8) 1⟩,
  ⟨some 6, none, .mv (.t 12)⟩,
  ⟨some 7, none, .mv (.t 13)⟩])
 (.seq (.seq (.reg [⟨some 14, none, .mv (.t 7)⟩,
  ⟨some 15, none, .bini .eql (.t 14) (.c (.int .i64 0))⟩,
  ⟨some 16, none, .mv (.t 15)⟩,
  ⟨some 17, (some (16, true)), .mv (.t 0)⟩,
  ⟨some 18, (some (16, true)), .mv (.t 6)⟩,
  ⟨some 19, (some (16, true)), .iaddr 5 (.t 17) (.t 18)⟩,
  ⟨some 20, (some (16, true)), .faddr 0 (.t 19)⟩,
  ⟨some 21, (some (16, true)), .load false 1 (.t 20)⟩,
  ⟨some 22, (some (16, true)), .bini .eql (.t 21) (.c (.int .i64 2))⟩,
  ⟨some 23, none, .pick (.t 16) (.t 22) (.c (.bool false))⟩])
 (.cond (.t 23)
 (.seq (.reg [⟨some 4, none, .mv (.c (.int .i64 0))⟩,
  ⟨some 5, none, .mv (.c (.int .i64 4))⟩])
 .ret)
 .skip))
 (.seq (.reg [⟨some 24, none, .mv (.t 6)⟩,
  ⟨some 25, none, .mv (.t 7)⟩,
  ⟨some 4, none, .mv (.t 24)⟩,
  ⟨some 5, none, .mv (.t 25)⟩])
 .ret))))
theorem d50 : FnD Try.prog 50 2 24 [.tmp 4, .tmp 5] c50 := ⟨Try.f50, _, Try.func50, by kernel_rfl, rfl, rfl, by kernel_rfl, by kernel_rfl⟩

end Go.Proofs.Ytemjlopoffjmpaa.Abs
