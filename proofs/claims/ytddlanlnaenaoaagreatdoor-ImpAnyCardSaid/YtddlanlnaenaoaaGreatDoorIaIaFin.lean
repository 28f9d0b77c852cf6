/-
  The closed facts of ImpAny's card, each by the kernel (no condition).
-/
import Derived.Test.YtddlanlnaenaoaaGreatDoorRows
import Derived.Test.YtddlanlnaenaoaaGreatDoorCards
import Derived.KernelRfl
namespace Go.Proofs.YtddlanlnaenaoaaGreatDoor.impAny
open Go
theorem wfText:Rows.impAnyRow.wfByText (OpenSpec.ofChange Rows.impAnySpec)=true:=by kernel_rfl
theorem mainText:Tryz.pinned.checked.prog.mainIs=some (((true,"9356bf069f0de9ba39ca95fcbf2e1cafdc8fd3eaaa26c6840062d2cc9f5c536e"):Bool×String).1,((true,"9356bf069f0de9ba39ca95fcbf2e1cafdc8fd3eaaa26c6840062d2cc9f5c536e"):Bool×String).2.toList):=by kernel_rfl
theorem goesText:false=Rows.impAnyRow.goesBy Tryz.pinned.checked.prog:=by kernel_rfl
end Go.Proofs.YtddlanlnaenaoaaGreatDoor.impAny
