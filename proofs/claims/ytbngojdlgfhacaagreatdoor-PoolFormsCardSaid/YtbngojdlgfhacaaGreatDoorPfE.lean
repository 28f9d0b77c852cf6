/-
  Part of the proof: no condition. (That the trees are the program's code.)
-/
import Derived.Test.YtbngojdlgfhacaaGreatDoorPf3
import Derived.Test.YtbngojdlgfhacaaGreatDoorProg
import Derived.KernelRfl
set_option maxRecDepth 100000
set_option maxHeartbeats 8000000
set_option linter.unusedSimpArgs false
set_option linter.unusedVariables false
set_option linter.unusedSectionVars false
namespace Go.Proofs.YtbngojdlgfhacaaGreatDoor.Abs
abbrev JJ(n:Nat)(g:FT):Prop:=g.is Tryz.prog n
noncomputable def chk (g:FT) (fn:Func):Bool:= !(fn.name == "runtime.NumGoroutine")&&(match fn.body with|some code=>fitC Tryz.prog (Ho g.sl g.tc) code|none=>false)&&decide (fn.ntmps=g.np+g.nt)&&fitRs Tryz.prog (g.res.map (Uq g.sl)) fn.results.toList&&g.ok
theorem hI{g:FT}{n:Nat}{fn:Func}(h:Tryz.prog.funcs[n]?=some fn)(k:chk g fn=true:=by kernel_rfl):JJ n g:=by
 unfold chk at k;simp only[e5v,e5h,e5n]at k;obtain⟨⟨⟨⟨k1,k2⟩,k3⟩,k4⟩,k5⟩:=k;cases hb:fn.body with
 |none=>rw[hb]at k2;cases k2
 |some code=>rw[hb]at k2;exact⟨⟨fn,code,h,k1,hb,k3,k2,k4⟩,k5⟩
end Go.Proofs.YtbngojdlgfhacaaGreatDoor.Abs
