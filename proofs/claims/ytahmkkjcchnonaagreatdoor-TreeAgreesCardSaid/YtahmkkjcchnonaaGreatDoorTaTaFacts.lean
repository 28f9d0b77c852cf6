/-
  The closed facts of TreeAgrees's row, each by the kernel (no condition).
-/
import Derived.Test.YtahmkkjcchnonaaGreatDoorRows
import Derived.JoinedCond
import Derived.KernelRfl
namespace Go.Proofs.YtahmkkjcchnonaaGreatDoor.treeAgrees
open Go
theorem andT{a b:Bool}(ha:a=true)(hb:b=true):(a&&b)=true:=by rw[ha,hb];rfl
theorem named:Tryz.prog.funcNamed Rows.treeAgreesRow.func=some 3:=by kernel_rfl
theorem fact0:(Rows.treeAgreesRow.wf (OpenSpec.ofChange Rows.treeAgreesSpec))=true:=by kernel_rfl
theorem fact1:(laidOutB Tryz.prog)=true:=by kernel_rfl
theorem fact2:(mapsRowed Tryz.prog)=true:=by kernel_rfl
theorem fact3:(Tryz.f3.params.all (Tryz.prog.readableRec ·))=true:=by kernel_rfl
theorem fact4:(namedTie Tryz.prog Rows.treeAgreesRow.named Rows.treeAgreesSpec.vars)=true:=by kernel_rfl
theorem fact5:((Rows.treeAgreesRow.stops==[]))=true:=by kernel_rfl
theorem fact6:((Tryz.prog.stops==[]))=true:=by kernel_rfl
theorem fact7:((Rows.treeAgreesRow.knobs==[]))=true:=by kernel_rfl
theorem fact8:((Tryz.prog.stopKnobs==[]))=true:=by kernel_rfl
theorem fact9:((Rows.treeAgreesRow.inPlace==Tryz.prog.inPlace 3))=true:=by kernel_rfl
theorem fact10:((Rows.treeAgreesRow.unfollowed==Tryz.prog.unfollowed 3))=true:=by kernel_rfl
theorem fact11:((Rows.treeAgreesRow.recurses==Tryz.prog.recurses 3))=true:=by kernel_rfl
theorem fact12:((Rows.treeAgreesRow.named==Tryz.prog.varsNamed 3))=true:=by kernel_rfl
theorem fact13:((Rows.treeAgreesRow.maps==(Tryz.f3.params.toList++Rows.treeAgreesSpec.plain.varTypes Tryz.prog).any (Tryz.prog.mapsRec ·)))=true:=by kernel_rfl
theorem fact14:((Rows.treeAgreesRow.ifaces==(Tryz.f3.params.toList++Rows.treeAgreesSpec.plain.varTypes Tryz.prog).any (Tryz.prog.ifacesRec ·)))=true:=by kernel_rfl
theorem fact15:((Rows.treeAgreesRow.mapsOut==Tryz.prog.mapsAmong Tryz.f3.resultTypes.toList))=true:=by kernel_rfl
theorem fact16:((Rows.treeAgreesRow.loops==(Tryz.f3.params.toList++Rows.treeAgreesSpec.plain.varTypes Tryz.prog).any (Tryz.prog.loopsFrom ·)))=true:=by kernel_rfl
theorem fact17:((Rows.treeAgreesRow.wideKeys==(Tryz.f3.params.toList++Rows.treeAgreesSpec.plain.varTypes Tryz.prog++Tryz.f3.resultTypes.toList).any (Tryz.prog.wideKeysFrom ·)))=true:=by kernel_rfl
theorem fact18:(Rows.treeAgreesSpec.vars.all (Tryz.prog.varReadable ·))=true:=by kernel_rfl
theorem fact19:(Tryz.f3.resultTypes.all (λt=>Tryz.prog.readableRec t&&decide (t<Tryz.prog.types.size)))=true:=by kernel_rfl
theorem fact20:((Rows.treeAgreesRow.ifacesOut==Tryz.f3.resultTypes.toList.any (Tryz.prog.ifacesRec ·)))=true:=by kernel_rfl
theorem fact21:((Rows.treeAgreesRow.loopsOut==Tryz.f3.resultTypes.toList.any (Tryz.prog.loopsFrom ·)))=true:=by kernel_rfl
theorem fact22:((Rows.treeAgreesRow.plainKeys==Tryz.prog.plainKeys))=true:=by kernel_rfl
theorem fact23:(Rows.treeAgreesRow.shortTexts.isNone)=true:=by kernel_rfl
theorem fact24:(Tryz.prog.stopsHeard)=true:=by kernel_rfl
theorem fact25:(Tryz.prog.mayEnter)=true:=by kernel_rfl
theorem fact26:((Rows.treeAgreesRow.lifted==Tryz.prog.liftsFinal))=true:=by kernel_rfl
theorem fact27:((Tryz.prog.make==some Rows.treeAgreesRow.make))=true:=by kernel_rfl
theorem fact28:((Rows.treeAgreesRow.kinds==(if Rows.treeAgreesRow.domain.isEmpty then []else Tryz.f3.params.toList.map λt=>match Tryz.prog.underlying t with|some (.int k)=>some k|_=>none)))=true:=by kernel_rfl
theorem fact29:((Rows.treeAgreesRow.pinned==Rows.treeAgreesRow.pinnedBy))=true:=by kernel_rfl
theorem fact30:((Rows.treeAgreesRow.veiled==(Tryz.f3.params.toList++Rows.treeAgreesSpec.plain.varTypes Tryz.prog++Tryz.f3.resultTypes.toList).any (Tryz.prog.veiledRec ·)))=true:=by kernel_rfl
theorem fact31:(Rows.treeAgreesRow.veiledFits Tryz.prog Tryz.f3.params.toList (Tryz.f3.params.toList++Rows.treeAgreesSpec.plain.varTypes Tryz.prog++Tryz.f3.resultTypes.toList))=true:=by kernel_rfl
end Go.Proofs.YtahmkkjcchnonaaGreatDoor.treeAgrees
