/-
  The closed facts of ImpAny's row, each by the kernel (no condition).
-/
import Derived.Test.YtddlanlnaenaoaaGreatDoorRows
import Derived.JoinedCond
import Derived.KernelRfl
namespace Go.Proofs.YtddlanlnaenaoaaGreatDoor.impAny
open Go
theorem andT{a b:Bool}(ha:a=true)(hb:b=true):(a&&b)=true:=by rw[ha,hb];rfl
theorem named:Tryz.prog.funcNamed Rows.impAnyRow.func=some 3:=by kernel_rfl
theorem fact0:(Rows.impAnyRow.wf (OpenSpec.ofChange Rows.impAnySpec))=true:=by kernel_rfl
theorem fact1:(laidOutB Tryz.prog)=true:=by kernel_rfl
theorem fact2:(mapsRowed Tryz.prog)=true:=by kernel_rfl
theorem fact3:(Tryz.f3.params.all (Tryz.prog.readableRec ·))=true:=by kernel_rfl
theorem fact4:(namedTie Tryz.prog Rows.impAnyRow.named Rows.impAnySpec.vars)=true:=by kernel_rfl
theorem fact5:((Rows.impAnyRow.stops==[]))=true:=by kernel_rfl
theorem fact6:((Tryz.prog.stops==[]))=true:=by kernel_rfl
theorem fact7:((Rows.impAnyRow.knobs==[]))=true:=by kernel_rfl
theorem fact8:((Tryz.prog.stopKnobs==[]))=true:=by kernel_rfl
theorem fact9:((Rows.impAnyRow.inPlace==Tryz.prog.inPlace 3))=true:=by kernel_rfl
theorem fact10:((Rows.impAnyRow.unfollowed==Tryz.prog.unfollowed 3))=true:=by kernel_rfl
theorem fact11:((Rows.impAnyRow.recurses==Tryz.prog.recurses 3))=true:=by kernel_rfl
theorem fact12:((Rows.impAnyRow.named==Tryz.prog.varsNamed 3))=true:=by kernel_rfl
theorem fact13:((Rows.impAnyRow.maps==(Tryz.f3.params.toList++Rows.impAnySpec.plain.varTypes Tryz.prog).any (Tryz.prog.mapsRec ·)))=true:=by kernel_rfl
theorem fact14:((Rows.impAnyRow.ifaces==(Tryz.f3.params.toList++Rows.impAnySpec.plain.varTypes Tryz.prog).any (Tryz.prog.ifacesRec ·)))=true:=by kernel_rfl
theorem fact15:((Rows.impAnyRow.mapsOut==Tryz.prog.mapsAmong Tryz.f3.resultTypes.toList))=true:=by kernel_rfl
theorem fact16:((Rows.impAnyRow.loops==(Tryz.f3.params.toList++Rows.impAnySpec.plain.varTypes Tryz.prog).any (Tryz.prog.loopsFrom ·)))=true:=by kernel_rfl
theorem fact17:((Rows.impAnyRow.wideKeys==(Tryz.f3.params.toList++Rows.impAnySpec.plain.varTypes Tryz.prog++Tryz.f3.resultTypes.toList).any (Tryz.prog.wideKeysFrom ·)))=true:=by kernel_rfl
theorem fact18:(Rows.impAnySpec.vars.all (Tryz.prog.varReadable ·))=true:=by kernel_rfl
theorem fact19:(Tryz.f3.resultTypes.all (λt=>Tryz.prog.readableRec t&&decide (t<Tryz.prog.types.size)))=true:=by kernel_rfl
theorem fact20:((Rows.impAnyRow.ifacesOut==Tryz.f3.resultTypes.toList.any (Tryz.prog.ifacesRec ·)))=true:=by kernel_rfl
theorem fact21:((Rows.impAnyRow.loopsOut==Tryz.f3.resultTypes.toList.any (Tryz.prog.loopsFrom ·)))=true:=by kernel_rfl
theorem fact22:((Rows.impAnyRow.plainKeys==Tryz.prog.plainKeys))=true:=by kernel_rfl
theorem fact23:(Rows.impAnyRow.shortTexts.isNone)=true:=by kernel_rfl
theorem fact24:(Tryz.prog.stopsHeard)=true:=by kernel_rfl
theorem fact25:(Tryz.prog.mayEnter)=true:=by kernel_rfl
theorem fact26:((Rows.impAnyRow.lifted==Tryz.prog.liftsFinal))=true:=by kernel_rfl
theorem fact27:((Tryz.prog.make==some Rows.impAnyRow.make))=true:=by kernel_rfl
theorem fact28:((Rows.impAnyRow.kinds==(if Rows.impAnyRow.domain.isEmpty then []else Tryz.f3.params.toList.map λt=>match Tryz.prog.underlying t with|some (.int k)=>some k|_=>none)))=true:=by kernel_rfl
theorem fact29:((Rows.impAnyRow.pinned==Rows.impAnyRow.pinnedBy))=true:=by kernel_rfl
theorem fact30:((Rows.impAnyRow.veiled==(Tryz.f3.params.toList++Rows.impAnySpec.plain.varTypes Tryz.prog++Tryz.f3.resultTypes.toList).any (Tryz.prog.veiledRec ·)))=true:=by kernel_rfl
theorem fact31:(Rows.impAnyRow.veiledFits Tryz.prog Tryz.f3.params.toList (Tryz.f3.params.toList++Rows.impAnySpec.plain.varTypes Tryz.prog++Tryz.f3.resultTypes.toList))=true:=by kernel_rfl
end Go.Proofs.YtddlanlnaenaoaaGreatDoor.impAny
