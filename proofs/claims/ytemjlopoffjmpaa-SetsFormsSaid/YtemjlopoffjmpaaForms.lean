/-
  The deeds of the closed statement, each run by itself. Written by forms.py.
-/
import Derived.Test.YtemjlopoffjmpaaTabForms
import Derived.Test.YtemjlopoffjmpaaClone
import Derived.Test.YtemjlopoffjmpaaAbs37
import Derived.KernelRfl
namespace Go.Proofs.Ytemjlopoffjmpaa.Abs
open Go
/-- The files of a new set. -/
def nf : PV := .fz [[.int .i64 2, .int .i64 0, .str [], .str [], .int .i64 0], [.int .i64 0, .int .i64 0, .str [], .str [], .int .i64 0], [.int .i64 0, .int .i64 0, .str [], .str [], .int .i64 0], [.int .i64 0, .int .i64 0, .str [], .str [], .int .i64 0], [.int .i64 0, .int .i64 0, .str [], .str [], .int .i64 0], [.int .i64 0, .int .i64 0, .str [], .str [], .int .i64 0], [.int .i64 0, .int .i64 0, .str [], .str [], .int .i64 0], [.int .i64 0, .int .i64 0, .str [], .str [], .int .i64 0]]
def fzF (f : Nat) : Bool := f == 61 || f == 41 || f == 25 || f == 26 || f == 27 || f == 28 || f == 29 || f == 30 || f == 42
theorem ev_ok : EvOk Try.prog (evF tabForms orcC fzF 40 40) := evF_ok tabForms_ok orcC_ok fzF 40 40
def m0 : Memo := ⟨25, [.emp, .int .i64 1, .int .i64 0], .tuple [.fz [[.int .i64 1, .int .i64 1, .int .i64 0, .int .i64 0, nf]], .int .i64 0]⟩
theorem m0_so : m0.so Try.prog := Memo.of ev_ok m0 (by kernel_rfl)
def m1 : Memo := ⟨26, [.fz [[.int .i64 1, .int .i64 1, .int .i64 0, .int .i64 0, nf]], .int .i64 2, .int .i64 1], .tuple [.fz [[.int .i64 1, .int .i64 1, .int .i64 0, .int .i64 0, nf], [.int .i64 2, .int .i64 2, .int .i64 1, .int .i64 0, nf]], .int .i64 0]⟩
theorem m1_so : m1.so Try.prog := Memo.of ev_ok m1 (by kernel_rfl)
def m2 : Memo := ⟨27, [.fz [[.int .i64 1, .int .i64 1, .int .i64 0, .int .i64 0, nf], [.int .i64 2, .int .i64 2, .int .i64 1, .int .i64 0, nf]], .int .i64 3, .int .i64 2], .tuple [.fz [[.int .i64 1, .int .i64 1, .int .i64 0, .int .i64 0, nf], [.int .i64 2, .int .i64 2, .int .i64 1, .int .i64 0, nf], [.int .i64 3, .int .i64 1, .int .i64 2, .int .i64 0, nf]], .int .i64 0]⟩
theorem m2_so : m2.so Try.prog := Memo.of ev_ok m2 (by kernel_rfl)
def m3 : Memo := ⟨28, [.fz [[.int .i64 1, .int .i64 1, .int .i64 0, .int .i64 0, nf], [.int .i64 2, .int .i64 2, .int .i64 1, .int .i64 0, nf], [.int .i64 3, .int .i64 1, .int .i64 2, .int .i64 0, nf]], .int .i64 3], .tuple [.fz [[.int .i64 1, .int .i64 1, .int .i64 2, .int .i64 0, nf], [.int .i64 2, .int .i64 2, .int .i64 3, .int .i64 0, nf], [.int .i64 3, .int .i64 1, .int .i64 0, .int .i64 0, nf]], .int .i64 0]⟩
theorem m3_so : m3.so Try.prog := Memo.of ev_ok m3 (by kernel_rfl)
def m4 : Memo := ⟨30, [.fz [[.int .i64 1, .int .i64 1, .int .i64 2, .int .i64 0, nf], [.int .i64 2, .int .i64 2, .int .i64 3, .int .i64 0, nf], [.int .i64 3, .int .i64 1, .int .i64 0, .int .i64 0, nf]], .int .i64 2], .tuple [.fz [[.int .i64 1, .int .i64 1, .int .i64 2, .int .i64 0, nf], [.int .i64 2, .int .i64 2, .int .i64 3, .int .i64 0, nf], [.int .i64 3, .int .i64 1, .int .i64 0, .int .i64 0, nf]], .int .i64 10]⟩
theorem m4_so : m4.so Try.prog := Memo.of ev_ok m4 (by kernel_rfl)
def m5 : Memo := ⟨57, [.fz [[.int .i64 1, .int .i64 1, .int .i64 2, .int .i64 0, nf], [.int .i64 2, .int .i64 2, .int .i64 3, .int .i64 0, nf], [.int .i64 3, .int .i64 1, .int .i64 0, .int .i64 0, nf]]], .bool true⟩
theorem m5_so : m5.so Try.prog := Memo.of ev_ok m5 (by kernel_rfl)
def m6 : Memo := ⟨58, [.fz [[.int .i64 1, .int .i64 1, .int .i64 2, .int .i64 0, nf], [.int .i64 2, .int .i64 2, .int .i64 3, .int .i64 0, nf], [.int .i64 3, .int .i64 1, .int .i64 0, .int .i64 0, nf]], .fz [[.int .i64 1, .int .i64 1, .int .i64 2, .int .i64 0, nf], [.int .i64 2, .int .i64 2, .int .i64 3, .int .i64 0, nf], [.int .i64 3, .int .i64 1, .int .i64 0, .int .i64 0, nf]]], .bool true⟩
theorem m6_so : m6.so Try.prog := Memo.of ev_ok m6 (by kernel_rfl)
def m7 : Memo := ⟨58, [.fz [[.int .i64 1, .int .i64 1, .int .i64 2, .int .i64 0, nf], [.int .i64 2, .int .i64 2, .int .i64 3, .int .i64 0, nf], [.int .i64 3, .int .i64 1, .int .i64 0, .int .i64 0, nf]], .fz [[.int .i64 1, .int .i64 1, .int .i64 0, .int .i64 0, nf], [.int .i64 2, .int .i64 2, .int .i64 1, .int .i64 0, nf], [.int .i64 3, .int .i64 1, .int .i64 2, .int .i64 0, nf]]], .bool false⟩
theorem m7_so : m7.so Try.prog := Memo.of ev_ok m7 (by kernel_rfl)
def m8 : Memo := ⟨26, [.fz [[.int .i64 1, .int .i64 1, .int .i64 0, .int .i64 0, nf], [.int .i64 2, .int .i64 2, .int .i64 1, .int .i64 0, nf]], .int .i64 3, .int .i64 1], .tuple [.fz [[.int .i64 1, .int .i64 1, .int .i64 0, .int .i64 0, nf], [.int .i64 2, .int .i64 2, .int .i64 1, .int .i64 0, nf], [.int .i64 3, .int .i64 2, .int .i64 1, .int .i64 0, nf]], .int .i64 0]⟩
theorem m8_so : m8.so Try.prog := Memo.of ev_ok m8 (by kernel_rfl)
def m9 : Memo := ⟨27, [.fz [[.int .i64 1, .int .i64 1, .int .i64 0, .int .i64 0, nf], [.int .i64 2, .int .i64 2, .int .i64 1, .int .i64 0, nf], [.int .i64 3, .int .i64 2, .int .i64 1, .int .i64 0, nf]], .int .i64 4, .int .i64 3], .tuple [.fz [[.int .i64 1, .int .i64 1, .int .i64 0, .int .i64 0, nf], [.int .i64 2, .int .i64 2, .int .i64 1, .int .i64 0, nf], [.int .i64 3, .int .i64 2, .int .i64 1, .int .i64 0, nf], [.int .i64 4, .int .i64 1, .int .i64 3, .int .i64 0, nf]], .int .i64 0]⟩
theorem m9_so : m9.so Try.prog := Memo.of ev_ok m9 (by kernel_rfl)
def m10 : Memo := ⟨25, [.fz [[.int .i64 1, .int .i64 1, .int .i64 0, .int .i64 0, nf], [.int .i64 2, .int .i64 2, .int .i64 1, .int .i64 0, nf], [.int .i64 3, .int .i64 2, .int .i64 1, .int .i64 0, nf], [.int .i64 4, .int .i64 1, .int .i64 3, .int .i64 0, nf]], .int .i64 4, .int .i64 0], .tuple [.fz [[.int .i64 1, .int .i64 1, .int .i64 0, .int .i64 0, nf], [.int .i64 2, .int .i64 2, .int .i64 1, .int .i64 0, nf], [.int .i64 3, .int .i64 2, .int .i64 1, .int .i64 0, nf], [.int .i64 4, .int .i64 1, .int .i64 3, .int .i64 0, nf]], .int .i64 8]⟩
theorem m10_so : m10.so Try.prog := Memo.of ev_ok m10 (by kernel_rfl)
def m11 : Memo := ⟨25, [.fz [[.int .i64 1, .int .i64 1, .int .i64 0, .int .i64 0, nf], [.int .i64 2, .int .i64 2, .int .i64 1, .int .i64 0, nf], [.int .i64 3, .int .i64 2, .int .i64 1, .int .i64 0, nf], [.int .i64 4, .int .i64 1, .int .i64 3, .int .i64 0, nf]], .int .i64 65536, .int .i64 0], .tuple [.fz [[.int .i64 1, .int .i64 1, .int .i64 0, .int .i64 0, nf], [.int .i64 2, .int .i64 2, .int .i64 1, .int .i64 0, nf], [.int .i64 3, .int .i64 2, .int .i64 1, .int .i64 0, nf], [.int .i64 4, .int .i64 1, .int .i64 3, .int .i64 0, nf]], .int .i64 8]⟩
theorem m11_so : m11.so Try.prog := Memo.of ev_ok m11 (by kernel_rfl)
def m12 : Memo := ⟨25, [.fz [[.int .i64 1, .int .i64 1, .int .i64 0, .int .i64 0, nf], [.int .i64 2, .int .i64 2, .int .i64 1, .int .i64 0, nf], [.int .i64 3, .int .i64 2, .int .i64 1, .int .i64 0, nf], [.int .i64 4, .int .i64 1, .int .i64 3, .int .i64 0, nf]], .int .i64 5, .int .i64 256], .tuple [.fz [[.int .i64 1, .int .i64 1, .int .i64 0, .int .i64 0, nf], [.int .i64 2, .int .i64 2, .int .i64 1, .int .i64 0, nf], [.int .i64 3, .int .i64 2, .int .i64 1, .int .i64 0, nf], [.int .i64 4, .int .i64 1, .int .i64 3, .int .i64 0, nf]], .int .i64 1]⟩
theorem m12_so : m12.so Try.prog := Memo.of ev_ok m12 (by kernel_rfl)
def m13 : Memo := ⟨26, [.fz [[.int .i64 1, .int .i64 1, .int .i64 0, .int .i64 0, nf], [.int .i64 2, .int .i64 2, .int .i64 1, .int .i64 0, nf], [.int .i64 3, .int .i64 2, .int .i64 1, .int .i64 0, nf], [.int .i64 4, .int .i64 1, .int .i64 3, .int .i64 0, nf]], .int .i64 5, .int .i64 2], .tuple [.fz [[.int .i64 1, .int .i64 1, .int .i64 0, .int .i64 0, nf], [.int .i64 2, .int .i64 2, .int .i64 1, .int .i64 0, nf], [.int .i64 3, .int .i64 2, .int .i64 1, .int .i64 0, nf], [.int .i64 4, .int .i64 1, .int .i64 3, .int .i64 0, nf]], .int .i64 11]⟩
theorem m13_so : m13.so Try.prog := Memo.of ev_ok m13 (by kernel_rfl)
def m14 : Memo := ⟨26, [.fz [[.int .i64 1, .int .i64 1, .int .i64 0, .int .i64 0, nf], [.int .i64 2, .int .i64 2, .int .i64 1, .int .i64 0, nf], [.int .i64 3, .int .i64 2, .int .i64 1, .int .i64 0, nf], [.int .i64 4, .int .i64 1, .int .i64 3, .int .i64 0, nf]], .int .i64 5, .int .i64 9], .tuple [.fz [[.int .i64 1, .int .i64 1, .int .i64 0, .int .i64 0, nf], [.int .i64 2, .int .i64 2, .int .i64 1, .int .i64 0, nf], [.int .i64 3, .int .i64 2, .int .i64 1, .int .i64 0, nf], [.int .i64 4, .int .i64 1, .int .i64 3, .int .i64 0, nf]], .int .i64 2]⟩
theorem m14_so : m14.so Try.prog := Memo.of ev_ok m14 (by kernel_rfl)
def m15 : Memo := ⟨27, [.fz [[.int .i64 1, .int .i64 1, .int .i64 0, .int .i64 0, nf], [.int .i64 2, .int .i64 2, .int .i64 1, .int .i64 0, nf], [.int .i64 3, .int .i64 2, .int .i64 1, .int .i64 0, nf], [.int .i64 4, .int .i64 1, .int .i64 3, .int .i64 0, nf]], .int .i64 5, .int .i64 1], .tuple [.fz [[.int .i64 1, .int .i64 1, .int .i64 0, .int .i64 0, nf], [.int .i64 2, .int .i64 2, .int .i64 1, .int .i64 0, nf], [.int .i64 3, .int .i64 2, .int .i64 1, .int .i64 0, nf], [.int .i64 4, .int .i64 1, .int .i64 3, .int .i64 0, nf]], .int .i64 1]⟩
theorem m15_so : m15.so Try.prog := Memo.of ev_ok m15 (by kernel_rfl)
def m16 : Memo := ⟨28, [.fz [[.int .i64 1, .int .i64 1, .int .i64 0, .int .i64 0, nf], [.int .i64 2, .int .i64 2, .int .i64 1, .int .i64 0, nf], [.int .i64 3, .int .i64 2, .int .i64 1, .int .i64 0, nf], [.int .i64 4, .int .i64 1, .int .i64 3, .int .i64 0, nf]], .int .i64 1], .tuple [.fz [[.int .i64 1, .int .i64 1, .int .i64 0, .int .i64 0, nf], [.int .i64 2, .int .i64 2, .int .i64 1, .int .i64 0, nf], [.int .i64 3, .int .i64 2, .int .i64 1, .int .i64 0, nf], [.int .i64 4, .int .i64 1, .int .i64 3, .int .i64 0, nf]], .int .i64 1]⟩
theorem m16_so : m16.so Try.prog := Memo.of ev_ok m16 (by kernel_rfl)
def m17 : Memo := ⟨28, [.fz [[.int .i64 1, .int .i64 1, .int .i64 0, .int .i64 0, nf], [.int .i64 2, .int .i64 2, .int .i64 1, .int .i64 0, nf], [.int .i64 3, .int .i64 2, .int .i64 1, .int .i64 0, nf], [.int .i64 4, .int .i64 1, .int .i64 3, .int .i64 0, nf]], .int .i64 2], .tuple [.fz [[.int .i64 1, .int .i64 1, .int .i64 0, .int .i64 0, nf], [.int .i64 2, .int .i64 2, .int .i64 1, .int .i64 0, nf], [.int .i64 3, .int .i64 2, .int .i64 1, .int .i64 0, nf], [.int .i64 4, .int .i64 1, .int .i64 3, .int .i64 0, nf]], .int .i64 1]⟩
theorem m17_so : m17.so Try.prog := Memo.of ev_ok m17 (by kernel_rfl)
def m18 : Memo := ⟨29, [.fz [[.int .i64 1, .int .i64 1, .int .i64 0, .int .i64 0, nf], [.int .i64 2, .int .i64 2, .int .i64 1, .int .i64 0, nf], [.int .i64 3, .int .i64 2, .int .i64 1, .int .i64 0, nf], [.int .i64 4, .int .i64 1, .int .i64 3, .int .i64 0, nf]], .int .i64 1, .int .i64 2], .tuple [.fz [[.int .i64 1, .int .i64 1, .int .i64 0, .int .i64 0, nf], [.int .i64 2, .int .i64 2, .int .i64 1, .int .i64 0, nf], [.int .i64 3, .int .i64 2, .int .i64 1, .int .i64 0, nf], [.int .i64 4, .int .i64 1, .int .i64 3, .int .i64 0, nf]], .int .i64 10]⟩
theorem m18_so : m18.so Try.prog := Memo.of ev_ok m18 (by kernel_rfl)
def m19 : Memo := ⟨29, [.fz [[.int .i64 1, .int .i64 1, .int .i64 0, .int .i64 0, nf], [.int .i64 2, .int .i64 2, .int .i64 1, .int .i64 0, nf], [.int .i64 3, .int .i64 2, .int .i64 1, .int .i64 0, nf], [.int .i64 4, .int .i64 1, .int .i64 3, .int .i64 0, nf]], .int .i64 1, .int .i64 3], .tuple [.fz [[.int .i64 1, .int .i64 1, .int .i64 0, .int .i64 0, nf], [.int .i64 2, .int .i64 2, .int .i64 1, .int .i64 0, nf], [.int .i64 3, .int .i64 2, .int .i64 1, .int .i64 0, nf], [.int .i64 4, .int .i64 1, .int .i64 3, .int .i64 0, nf]], .int .i64 0]⟩
theorem m19_so : m19.so Try.prog := Memo.of ev_ok m19 (by kernel_rfl)
def m20 : Memo := ⟨29, [.fz [[.int .i64 1, .int .i64 1, .int .i64 0, .int .i64 0, nf], [.int .i64 2, .int .i64 2, .int .i64 1, .int .i64 0, nf], [.int .i64 3, .int .i64 2, .int .i64 1, .int .i64 0, nf], [.int .i64 4, .int .i64 1, .int .i64 3, .int .i64 0, nf]], .int .i64 4, .int .i64 3], .tuple [.fz [[.int .i64 1, .int .i64 1, .int .i64 0, .int .i64 0, nf], [.int .i64 2, .int .i64 2, .int .i64 1, .int .i64 0, nf], [.int .i64 3, .int .i64 2, .int .i64 1, .int .i64 0, nf], [.int .i64 4, .int .i64 1, .int .i64 3, .int .i64 0, nf]], .int .i64 1]⟩
theorem m20_so : m20.so Try.prog := Memo.of ev_ok m20 (by kernel_rfl)
def m21 : Memo := ⟨29, [.fz [[.int .i64 1, .int .i64 1, .int .i64 0, .int .i64 0, nf], [.int .i64 2, .int .i64 2, .int .i64 1, .int .i64 0, nf], [.int .i64 3, .int .i64 2, .int .i64 1, .int .i64 0, nf], [.int .i64 4, .int .i64 1, .int .i64 3, .int .i64 0, nf]], .int .i64 1, .int .i64 9], .tuple [.fz [[.int .i64 1, .int .i64 1, .int .i64 0, .int .i64 0, nf], [.int .i64 2, .int .i64 2, .int .i64 1, .int .i64 0, nf], [.int .i64 3, .int .i64 2, .int .i64 1, .int .i64 0, nf], [.int .i64 4, .int .i64 1, .int .i64 3, .int .i64 0, nf]], .int .i64 2]⟩
theorem m21_so : m21.so Try.prog := Memo.of ev_ok m21 (by kernel_rfl)
def m22 : Memo := ⟨30, [.fz [[.int .i64 1, .int .i64 1, .int .i64 0, .int .i64 0, nf], [.int .i64 2, .int .i64 2, .int .i64 1, .int .i64 0, nf], [.int .i64 3, .int .i64 2, .int .i64 1, .int .i64 0, nf], [.int .i64 4, .int .i64 1, .int .i64 3, .int .i64 0, nf]], .int .i64 1], .tuple [.fz [[.int .i64 1, .int .i64 1, .int .i64 0, .int .i64 0, nf], [.int .i64 2, .int .i64 2, .int .i64 1, .int .i64 0, nf], [.int .i64 3, .int .i64 2, .int .i64 1, .int .i64 0, nf], [.int .i64 4, .int .i64 1, .int .i64 3, .int .i64 0, nf]], .int .i64 10]⟩
theorem m22_so : m22.so Try.prog := Memo.of ev_ok m22 (by kernel_rfl)
def m23 : Memo := ⟨30, [.fz [[.int .i64 1, .int .i64 1, .int .i64 0, .int .i64 0, nf], [.int .i64 2, .int .i64 2, .int .i64 1, .int .i64 0, nf], [.int .i64 3, .int .i64 2, .int .i64 1, .int .i64 0, nf], [.int .i64 4, .int .i64 1, .int .i64 3, .int .i64 0, nf]], .int .i64 3], .tuple [.fz [[.int .i64 1, .int .i64 1, .int .i64 0, .int .i64 0, nf], [.int .i64 2, .int .i64 2, .int .i64 1, .int .i64 0, nf], [.int .i64 3, .int .i64 2, .int .i64 1, .int .i64 0, nf], [.int .i64 4, .int .i64 1, .int .i64 3, .int .i64 0, nf]], .int .i64 10]⟩
theorem m23_so : m23.so Try.prog := Memo.of ev_ok m23 (by kernel_rfl)
def m24 : Memo := ⟨30, [.fz [[.int .i64 1, .int .i64 1, .int .i64 0, .int .i64 0, nf], [.int .i64 2, .int .i64 2, .int .i64 1, .int .i64 0, nf], [.int .i64 3, .int .i64 2, .int .i64 1, .int .i64 0, nf], [.int .i64 4, .int .i64 1, .int .i64 3, .int .i64 0, nf]], .int .i64 4], .tuple [.fz [[.int .i64 1, .int .i64 1, .int .i64 0, .int .i64 0, nf], [.int .i64 2, .int .i64 2, .int .i64 1, .int .i64 0, nf], [.int .i64 3, .int .i64 2, .int .i64 1, .int .i64 0, nf]], .int .i64 0]⟩
theorem m24_so : m24.so Try.prog := Memo.of ev_ok m24 (by kernel_rfl)
def m25 : Memo := ⟨30, [.fz [[.int .i64 1, .int .i64 1, .int .i64 0, .int .i64 0, nf], [.int .i64 2, .int .i64 2, .int .i64 1, .int .i64 0, nf], [.int .i64 3, .int .i64 2, .int .i64 1, .int .i64 0, nf], [.int .i64 4, .int .i64 1, .int .i64 3, .int .i64 0, nf]], .int .i64 2], .tuple [.fz [[.int .i64 1, .int .i64 1, .int .i64 0, .int .i64 0, nf], [.int .i64 3, .int .i64 2, .int .i64 1, .int .i64 0, nf], [.int .i64 4, .int .i64 1, .int .i64 3, .int .i64 0, nf]], .int .i64 0]⟩
theorem m25_so : m25.so Try.prog := Memo.of ev_ok m25 (by kernel_rfl)
def m26 : Memo := ⟨28, [.fz [[.int .i64 1, .int .i64 1, .int .i64 0, .int .i64 0, nf], [.int .i64 2, .int .i64 2, .int .i64 1, .int .i64 0, nf], [.int .i64 3, .int .i64 2, .int .i64 1, .int .i64 0, nf], [.int .i64 4, .int .i64 1, .int .i64 3, .int .i64 0, nf]], .int .i64 4], .tuple [.fz [[.int .i64 1, .int .i64 1, .int .i64 3, .int .i64 0, nf], [.int .i64 2, .int .i64 2, .int .i64 4, .int .i64 0, nf], [.int .i64 3, .int .i64 2, .int .i64 4, .int .i64 0, nf], [.int .i64 4, .int .i64 1, .int .i64 0, .int .i64 0, nf]], .int .i64 0]⟩
theorem m26_so : m26.so Try.prog := Memo.of ev_ok m26 (by kernel_rfl)
def m27 : Memo := ⟨30, [.fz [[.int .i64 1, .int .i64 1, .int .i64 0, .int .i64 0, nf]], .int .i64 1], .tuple [.fz [[.int .i64 1, .int .i64 1, .int .i64 0, .int .i64 0, nf]], .int .i64 10]⟩
theorem m27_so : m27.so Try.prog := Memo.of ev_ok m27 (by kernel_rfl)
def m28 : Memo := ⟨30, [.fz [[.int .i64 1, .int .i64 1, .int .i64 0, .int .i64 0, nf]], .int .i64 2], .tuple [.fz [[.int .i64 1, .int .i64 1, .int .i64 0, .int .i64 0, nf]], .int .i64 2]⟩
theorem m28_so : m28.so Try.prog := Memo.of ev_ok m28 (by kernel_rfl)
def m29 : Memo := ⟨25, [.emp, .int .i64 0, .int .i64 0], .tuple [.fz [], .int .i64 8]⟩
theorem m29_so : m29.so Try.prog := Memo.of ev_ok m29 (by kernel_rfl)
def memoB : List Memo := [m0, m1, m2, m3, m4, m5, m6, m7]
theorem memoB_so : ∀ m ∈ memoB, m.so Try.prog := by
  intro m hm
  simp only [memoB, List.mem_cons, List.not_mem_nil, or_false] at hm
  rcases hm with rfl | rfl | rfl | rfl | rfl | rfl | rfl | rfl
  · exact m0_so
  · exact m1_so
  · exact m2_so
  · exact m3_so
  · exact m4_so
  · exact m5_so
  · exact m6_so
  · exact m7_so
def m100 : Memo := ⟨23, [], .bool true⟩
theorem m100_so : m100.so Try.prog := Memo.of (evF_ok tabForms_ok (memo_ok orcC_ok memoB_so) fzF 40 40) m100 (by kernel_rfl)
def memoF : List Memo := [m0, m1, m8, m9, m10, m11, m12, m13, m14, m15, m16, m17, m18, m19, m20, m21, m22, m23, m24, m25, m26, m27, m28, m29]
theorem memoF_so : ∀ m ∈ memoF, m.so Try.prog := by
  intro m hm
  simp only [memoF, List.mem_cons, List.not_mem_nil, or_false] at hm
  rcases hm with rfl | rfl | rfl | rfl | rfl | rfl | rfl | rfl | rfl | rfl | rfl | rfl | rfl | rfl | rfl | rfl | rfl | rfl | rfl | rfl | rfl | rfl | rfl | rfl
  · exact m0_so
  · exact m1_so
  · exact m8_so
  · exact m9_so
  · exact m10_so
  · exact m11_so
  · exact m12_so
  · exact m13_so
  · exact m14_so
  · exact m15_so
  · exact m16_so
  · exact m17_so
  · exact m18_so
  · exact m19_so
  · exact m20_so
  · exact m21_so
  · exact m22_so
  · exact m23_so
  · exact m24_so
  · exact m25_so
  · exact m26_so
  · exact m27_so
  · exact m28_so
  · exact m29_so
def memoA : List Memo := m100 :: memoF
theorem memoA_so : ∀ m ∈ memoA, m.so Try.prog := by
  intro m hm
  simp only [memoA, List.mem_cons] at hm
  rcases hm with rfl | hm
  · exact m100_so
  · exact memoF_so m hm
def m101 : Memo := ⟨7, [], .bool true⟩
theorem m101_so : m101.so Try.prog := Memo.of (evF_ok tabForms_ok (memo_ok orcC_ok memoA_so) fzF 40 40) m101 (by kernel_rfl)
end Go.Proofs.Ytemjlopoffjmpaa.Abs
