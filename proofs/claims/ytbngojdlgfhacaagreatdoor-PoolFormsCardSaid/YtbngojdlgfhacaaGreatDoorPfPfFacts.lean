/-
  The closed facts of PoolForms's row, each by the kernel (no condition).
-/
import Derived.Test.YtbngojdlgfhacaaGreatDoorRows
import Derived.JoinedCond
import Derived.KernelRfl
namespace Go.Proofs.YtbngojdlgfhacaaGreatDoor.poolForms
open Go
theorem andT{a b:Bool}(ha:a=true)(hb:b=true):(a&&b)=true:=by rw[ha,hb];rfl
theorem named:Tryz.prog.funcNamed Rows.poolFormsRow.func=some 3:=by kernel_rfl
theorem fact0:(Rows.poolFormsRow.wf (OpenSpec.ofChange Rows.poolFormsSpec))=true:=by kernel_rfl
theorem fact1:(laidOutB Tryz.prog)=true:=by kernel_rfl
theorem fact2:(mapsRowed Tryz.prog)=true:=by kernel_rfl
theorem fact3:(Tryz.f3.params.all (Tryz.prog.readableRec ·))=true:=by kernel_rfl
theorem fact4:(namedTie Tryz.prog Rows.poolFormsRow.named Rows.poolFormsSpec.vars)=true:=by kernel_rfl
theorem fact5:((Rows.poolFormsRow.stops==[]))=true:=by kernel_rfl
theorem fact6:((Tryz.prog.stops==[]))=true:=by kernel_rfl
theorem fact7:((Rows.poolFormsRow.knobs==[]))=true:=by kernel_rfl
theorem fact8:((Tryz.prog.stopKnobs==[]))=true:=by kernel_rfl
theorem fact9:((Rows.poolFormsRow.inPlace==Tryz.prog.inPlace 3))=true:=by kernel_rfl
theorem fact10:((Rows.poolFormsRow.unfollowed==Tryz.prog.unfollowed 3))=true:=by kernel_rfl
theorem fact11:((Rows.poolFormsRow.recurses==Tryz.prog.recurses 3))=true:=by kernel_rfl
theorem fact12:((Rows.poolFormsRow.named==Tryz.prog.varsNamed 3))=true:=by kernel_rfl
theorem fact13:((Rows.poolFormsRow.maps==(Tryz.f3.params.toList++Rows.poolFormsSpec.plain.varTypes Tryz.prog).any (Tryz.prog.mapsRec ·)))=true:=by kernel_rfl
theorem fact14:((Rows.poolFormsRow.ifaces==(Tryz.f3.params.toList++Rows.poolFormsSpec.plain.varTypes Tryz.prog).any (Tryz.prog.ifacesRec ·)))=true:=by kernel_rfl
theorem fact15:((Rows.poolFormsRow.mapsOut==Tryz.prog.mapsAmong Tryz.f3.resultTypes.toList))=true:=by kernel_rfl
theorem fact16:((Rows.poolFormsRow.loops==(Tryz.f3.params.toList++Rows.poolFormsSpec.plain.varTypes Tryz.prog).any (Tryz.prog.loopsFrom ·)))=true:=by kernel_rfl
theorem fact17:((Rows.poolFormsRow.wideKeys==(Tryz.f3.params.toList++Rows.poolFormsSpec.plain.varTypes Tryz.prog++Tryz.f3.resultTypes.toList).any (Tryz.prog.wideKeysFrom ·)))=true:=by kernel_rfl
theorem fact18:(Rows.poolFormsSpec.vars.all (Tryz.prog.varReadable ·))=true:=by kernel_rfl
theorem fact19:(Tryz.f3.resultTypes.all (λt=>Tryz.prog.readableRec t&&decide (t<Tryz.prog.types.size)))=true:=by kernel_rfl
theorem fact20:((Rows.poolFormsRow.ifacesOut==Tryz.f3.resultTypes.toList.any (Tryz.prog.ifacesRec ·)))=true:=by kernel_rfl
theorem fact21:((Rows.poolFormsRow.loopsOut==Tryz.f3.resultTypes.toList.any (Tryz.prog.loopsFrom ·)))=true:=by kernel_rfl
theorem fact22:((Rows.poolFormsRow.plainKeys==Tryz.prog.plainKeys))=true:=by kernel_rfl
theorem fact23:(Rows.poolFormsRow.shortTexts.isNone)=true:=by kernel_rfl
theorem fact24:(Tryz.prog.stopsHeard)=true:=by kernel_rfl
theorem fact25:(Tryz.prog.mayEnter)=true:=by kernel_rfl
theorem fact26:((Rows.poolFormsRow.lifted==Tryz.prog.liftsFinal))=true:=by kernel_rfl
theorem fact27:((Tryz.prog.make==some Rows.poolFormsRow.make))=true:=by kernel_rfl
theorem fact28:((Rows.poolFormsRow.kinds==(if Rows.poolFormsRow.domain.isEmpty then []else Tryz.f3.params.toList.map λt=>match Tryz.prog.underlying t with|some (.int k)=>some k|_=>none)))=true:=by kernel_rfl
theorem fact29:((Rows.poolFormsRow.pinned==Rows.poolFormsRow.pinnedBy))=true:=by kernel_rfl
theorem fact30:((Rows.poolFormsRow.veiled==(Tryz.f3.params.toList++Rows.poolFormsSpec.plain.varTypes Tryz.prog++Tryz.f3.resultTypes.toList).any (Tryz.prog.veiledRec ·)))=true:=by kernel_rfl
theorem fact31:(Rows.poolFormsRow.veiledFits Tryz.prog Tryz.f3.params.toList (Tryz.f3.params.toList++Rows.poolFormsSpec.plain.varTypes Tryz.prog++Tryz.f3.resultTypes.toList))=true:=by kernel_rfl
end Go.Proofs.YtbngojdlgfhacaaGreatDoor.poolForms
