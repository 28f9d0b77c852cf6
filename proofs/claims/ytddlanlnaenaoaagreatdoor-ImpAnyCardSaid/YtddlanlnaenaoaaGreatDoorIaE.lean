/-
  Part of the proof: no condition. (That the trees are the program's code.)
-/
import Derived.Test.YtddlanlnaenaoaaGreatDoorIa3
import Derived.Test.YtddlanlnaenaoaaGreatDoorProg
import Derived.KernelRfl
set_option maxRecDepth 100000
set_option maxHeartbeats 8000000
set_option linter.unusedSimpArgs false
set_option linter.unusedVariables false
set_option linter.unusedSectionVars false
set_option linter.defProp false
namespace Go.Proofs.YtddlanlnaenaoaaGreatDoor.Abs
open Tryz
abbrev JJ(n:Nat)(g:FT):Prop:=g.is Tryz.prog n
noncomputable def chk (g:FT) (b:Func):Bool:= !(b.name == "runtime.NumGoroutine")&&(match b.body with|some a=>fitC Tryz.prog (Kc g.sl g.tc) a|none=>false)&&decide (b.ntmps=g.np+g.nt)&&fitRs Tryz.prog (g.res.map (Wz g.sl)) b.results.toList&&g.ok
def hI{n:Nat}{b:Func}(h:Tryz.prog.funcs[n]?=some b)(g:FT)(k:chk g b=true:=by kernel_rfl):JJ n g:=by
 unfold chk at k;simp only[f32,f2f,f2o]at k;have⟨⟨⟨⟨e,c⟩,f⟩,i⟩,j⟩:=k;cases d:b.body with
 |none=>rw[d]at c;cases c
 |some a=>rw[d]at c;exact⟨⟨b,a,h,e,d,f,c,i⟩,j⟩
end Go.Proofs.YtddlanlnaenaoaaGreatDoor.Abs
