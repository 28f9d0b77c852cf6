/-
  Part 7 of the proof: no condition. (Parts of the abstract layer, of the program's functions in its form, and of their contracts.)
-/
import Derived.Test.YtddlanlnaenaoaaGreatDoorIa3
import Derived.Test.YtddlanlnaenaoaaGreatDoorProg
import Derived.KernelRfl
import Derived.RangeFuncBox
import Derived.RangeFuncLeaves
import Derived.RangeFuncNested
import Derived.RangeFuncBound
import Derived.RangeFuncCalls
import Derived.Shelf.Abstract
import Derived.Shelf.RegionOpen
import Derived.WalkKit
import Derived.OwnWalkIn
import Derived.TacticsInMore
import Derived.LoopNIn
import Derived.LoopIn
import Derived.Test.YtddlanlnaenaoaaGreatDoorIa4
import Derived.Test.YtddlanlnaenaoaaGreatDoorIa6
import Derived.Test.YtddlanlnaenaoaaGreatDoorIaG
import Derived.Test.YtddlanlnaenaoaaGreatDoorIaH
set_option maxRecDepth 100000
set_option maxHeartbeats 8000000
set_option linter.unusedSimpArgs false
set_option linter.unusedVariables false
set_option linter.unusedSectionVars false
set_option linter.defProp false
namespace Go.Proofs.YtddlanlnaenaoaaGreatDoor.Abs
section
open Tryz
def aC{P:Program}{n:Nat}{d:FT}{l:List (Nat×FT)}(h:d.is P n)(b:∀ p∈l,p.2.is P p.1):∀ p∈(n,d)::l,p.2.is P p.1:=by
 intro p a;rcases f5h.1 a with rfl|a
 ·exact h
 ·exact b p a
def all_nil{P:Program}:∀ p∈([]:List (Nat×FT)),p.2.is P p.1:=λ_ h=>by cases h
def d71:∀ p∈tab,p.2.is Tryz.prog p.1:=
 aC h3<|aC h4<|aC h5<|aC h6<|aC h7<|aC h8<|aC h9<|aC Xt<|aC h11<|aC R7<|aC h13<|aC Xs<|aC h15<|aC Vo<|aC h17<|aC h18<|aC h19<|aC h20<|aC h21<|aC h22<|aC h23<|aC h24<|aC h25<|aC h26<|aC h27<|aC h28<|aC h29<|aC Ma<|aC h31<|aC Ud<|aC h33<|aC h34<|aC h35<|aC h36<|aC h37<|aC h43<|aC h44<|aC h45<|aC h46<|aC h47<|aC h48<|aC h49<|aC h50<|aC h51<|aC h52<|aC h53<|aC h54<|aC h55<|aC h56<|aC h57<|aC h58<|aC h59<|aC h60<|aC h61<|aC h62<|aC h63<|aC h65<|aC h66<|aC h67<|aC h68<|aC h73<|aC h74<|aC h75<|aC h76<|aC h77<|aC h78<|aC h79<|aC h80<|aC h81<|aC h82<|aC h94<|aC h95<|aC h96<|aC h97<|aC h98<|aC h99<|aC ef2<|aC ef1<|aC ef0<|aC ee9<|aC ee8<|aC ee7<|aC ee6<|aC ee5<|aC ee4<|aC ee3<|aC ee2<|aC ee1<|aC ee0<|aC ed9<|aC ed8<|aC ed7<|aC ed6<|aC ed5<|aC ed4<|aC ed3<|aC ed2<|aC ed1<|aC ed0<|aC ec9<|aC ec8<|aC a01<|aC ec7<|aC ec6<|aC ec5<|aC ec4<|aC ec3<|aC ec2<|aC ec1<|aC ec0<|aC eb9<|aC eb8<|aC eb7<|aC eb6<|aC eb5<|aC eb4<|aC eb3<|aC eb1<|aC eb0<|aC ea9<|aC ea8<|aC ea7<|aC ea6<|aC ea5<|aC ea4<|aC ea3<|aC ea2<|aC ea0<|aC e9z<|aC e9y<|aC e9x<|aC e9w<|aC e9v<|aC e9u<|aC e9t<|aC e9s<|aC e9r<|aC e9q<|aC e9p<|aC e9n<|aC e9m<|aC e9l<|aC e9j<|aC e9i<|aC e9h<|aC e9g<|aC e9f<|aC e9d<|aC e9c<|aC e9b<|aC e9a<|aC e99<|aC e98<|aC e97<|aC e96<|aC e95<|aC c91<|aC e93<|aC e92<|aC e91<|aC e90<|aC e8z<|aC e8y<|aC e8x<|aC e8v<|aC e8u<|aC e8t<|aC e8s<|aC e8r<|aC e8q<|aC e8p<|aC e8o<|aC e8n<|aC e8m<|aC e8k<|aC e8i<|aC e8h<|aC e8f<|aC e8e<|aC e8d<|aC e8c<|aC e8b<|aC e8a<|aC e89<|aC e88<|aC e87<|aC e86<|aC e85<|aC e84<|aC e83<|aC e82<|aC e81<|aC e80<|aC e7z<|aC e7y<|aC e7w<|aC e7v<|aC e7u<|aC e7t<|aC e7s<|aC e7r<|aC e7q<|aC e7p<|aC e7o<|aC e7n<|aC e7m<|aC e7l<|aC e7k<|aC e7j<|aC e7i<|aC e7h<|aC e7f<|aC e7e<|aC e7d<|aC e7c<|aC e7b<|aC e7a<|aC e79<|aC e78<|aC e77<|aC e75<|aC e74<|aC e73<|aC e72<|aC e71<|aC e6z<|aC e6y<|aC e6x<|aC e6v<|aC e6u<|aC e6t<|aC e6s<|aC e6q<|aC e6p<|aC e6n<|aC e6m<|aC e6l<|aC e6k<|aC e6j<|aC e6i<|aC e6h<|all_nil
end
end Go.Proofs.YtddlanlnaenaoaaGreatDoor.Abs
section
namespace Go.Proofs
open Go.RowKit Go.Shelf
attribute [local go_sem] Oper.semAt_some
def Tryz.down{α:Type}(f:Nat->α)(len k:Nat):List α:=(List.range k).map λj=>f (len-1-j)
theorem Tryz.down_succ{α:Type}(f:Nat->α)(len k:Nat):Tryz.down f len (k+1)=Tryz.down f len k++[f (len-1-k)]:=by simp[Tryz.down,List.range_succ]
theorem Tryz.down_length{α:Type}(f:Nat->α)(len k:Nat):(Tryz.down f len k).length=k:=by simp[Tryz.down]
abbrev Tryz.PutV:=Int×ByteArray
def Tryz.encPut(x:Nat×Tryz.PutV):Array Value:= #[.int .i64 (x.1:Int),.agg #[.int .i64 x.2.1,.string x.2.2]]
theorem Tryz.back1_in(F:Fence)(n:Nat)(h8:F.fn 162)(hro:F.round=none)(hn:1<=n)(l Bs n₀ b off len cap:Nat)(zs:List Tryz.PutV)(hreach:len*24<=140737488351232)(hb:b<n₀)(J Jx:List (Nat×Tryz.PutV)->World->Prop)
 (hY:∀ pre x W,J pre W->pre.length<len->YieldAt F (n-1) Tryz.prog l (Tryz.encPut x) W λe W' => (e=.returned (.bool true)/\J (pre++[x]) W'/\Below n₀ W W')\/(e=.returned (.bool false)/\Jx (pre++[x]) W'))
 (W:World) (hBs:W.cell? ⟨Bs,0,none⟩=some (.slice (some ⟨b,off,none⟩) len cap)) (hBn:Bs<n₀)
 (hc:∀ j,j<len->W.cell? ⟨b,off+j*2,none⟩=some (.int .i64 (zs[j]?.getD default).1)/\W.cell? ⟨b,off+j*2+1,none⟩=some (.string (zs[j]?.getD default).2)) (h0:J [] W) :
 CallsIn F n Tryz.prog 162 #[.func (.yield l) #[] #[],.pointer (some ⟨Bs,0,none⟩)] W λe W'=>(∃ v,e=.returned v)/\
  ((∃ ys,ys=Tryz.down (λj=>(j,zs[j]?.getD default)) len len/\J ys W')\/(∃ pre,(∃ k,k<=len/\pre=Tryz.down (λj=>(j,zs[j]?.getD default)) len k)/\Jx pre W')):=by
 refine callsIn_of_wp Tryz.func162 rfl h8 ?_ hro;simp only[Tryz.f162,List.size_toArray,List.length_cons,List.length_nil,Nat.reduceAdd,Nat.reduceSub,Array.replicate_succ,Array.replicate_zero,List.push_toArray,List.append_toArray,List.nil_append,List.cons_append]
 gi_wp2
 gi_loopw [3] (λi wr=>∃ k:Nat,k<=len/\i=.int .i64 ((len:Int)-1-k)/\J (Tryz.down (λj=>(j,zs[j]?.getD default)) len k) wr/\Below n₀ W wr)
  (λi _=>(intOf i+1).toNat)
 case atStart=>exact⟨0,Nat.zero_le _,by simp,h0,Below.refl _ _⟩
 case round=>
  obtain⟨k,hk,rfl,hJs,hnx⟩:=hrel;have hBx:wr.cell? ⟨Bs,0,none⟩=some (.slice (some ⟨b,off,none⟩) len cap):=(hnx.cell (p:=⟨Bs,0,none⟩) hBn).trans hBs;by_cases hlt:k<len
  ·obtain⟨m,rfl⟩:∃ m,len=m+k+1:=⟨len-k-1,by omega⟩;have hm:((m+k+1:Nat):Int)-1-k=(m:Int):=(by omega);rw[hm]at *;have hc1:=(hnx.cell (p:=⟨b,off+m*2,none⟩) hb).trans (hc m (by omega)).1;have hc2:=(hnx.cell (p:=⟨b,off+m*2+1,none⟩) hb).trans (hc m (by omega)).2;obtain⟨fn,tmps,assign,body,hy,hR⟩:=hY _ (m,zs[m]?.getD default) wr hJs (by rw[Tryz.down_length];omega);dsimp only[Tryz.encPut]at hy
   gi_wp2
   have hdn:Tryz.down (λj=>(j,zs[j]?.getD default)) (m+k+1) (k+1)=Tryz.down (λj=>(j,zs[j]?.getD default)) (m+k+1) k++[(m,zs[m]?.getD default)]:=by
    rw[Tryz.down_succ,show m+k+1-1-k=m by omega]
   refine hR.mono ?_;rintro e W3 (⟨rfl,hJ3,hk3⟩|⟨rfl,hJx3⟩)
   ·gi_wp2
    go_roundw
    case rel=>exact⟨.int .i64 ((m:Int)-1),_,_,_,_,_,_,_,_,_,_,_,_,⟨k+1,by omega,congrArg (Value.int .i64) (by omega),by rw[hdn];exact hJ3,hnx.trans hk3⟩,by rw[show((m+k+1:Nat):Int)-1=(m:Int)+k by omega];rfl⟩
    case measure=>first|(simp[intOf];done)|(simp[intOf];omega)
   ·gi_wp2
    refine bodyPost_ret (results_none rfl _ _ _) rfl ?_;exact⟨⟨_,rfl⟩,.inr ⟨_,⟨k+1,by omega,hdn.symm⟩,hJx3⟩⟩
  ·obtain rfl:k=len:=by omega
   gi_wp2
   go_end0
   exact⟨⟨_,rfl⟩,.inl ⟨_,rfl,hJs⟩⟩
end Go.Proofs
end
section
namespace Go.Proofs
open Go.RowKit Go.Shelf
attribute [local go_sem] Oper.semAt_some
theorem Tryz.back0_in(F:Fence)(n:Nat)(h8:F.fn 162)(hro:F.round=none)(l Bs cap:Nat)(a:Option Addr)(J:List (Nat×Tryz.PutV)->World->Prop)
 (W:World) (hBs:W.cell? ⟨Bs,0,none⟩=some (.slice a 0 cap)) (h0:J [] W) :
 CallsIn F n Tryz.prog 162 #[.func (.yield l) #[] #[],.pointer (some ⟨Bs,0,none⟩)] W λe W'=>(∃ v,e=.returned v)/\J [] W':=by
 refine callsIn_of_wp Tryz.func162 rfl h8 ?_ hro;simp only[Tryz.f162,List.size_toArray,List.length_cons,List.length_nil,Nat.reduceAdd,Nat.reduceSub,Array.replicate_succ,Array.replicate_zero,List.push_toArray,List.append_toArray,List.nil_append,List.cons_append]
 gi_wp2
 gi_loopw [3] (λi wr=>i=.int .i64 (-1)/\J [] wr) (λ_ _=>0)
 case atStart=>exact⟨rfl,h0⟩
 case round=>
  obtain⟨rfl,hJs⟩:=hrel
  gi_wp2
  go_end0
  exact⟨⟨_,rfl⟩,hJs⟩
def Tryz.Puts(n₀:Nat)(W:World)(sv:Value)(zs:List Tryz.PutV):Prop:=
 (∃ a cap,sv=.slice a 0 cap/\zs=[])\/∃ b off cap,sv=.slice (some ⟨b,off,none⟩) zs.length cap/\b<n₀/\∀ j,j<zs.length->W.cell? ⟨b,off+j*2,none⟩=some (.int .i64 (zs[j]?.getD default).1)/\W.cell? ⟨b,off+j*2+1,none⟩=some (.string (zs[j]?.getD default).2)
theorem Tryz.Puts.below{n₀:Nat}{A B:World}(h:Below n₀ A B){sv:Value}{zs:List Tryz.PutV}:Tryz.Puts n₀ A sv zs->Tryz.Puts n₀ B sv zs
 |.inl e=>.inl e
 |.inr ⟨b,off,cap,e,hb,hc⟩=>.inr ⟨b,off,cap,e,hb,λj hj=>⟨(h.cell (p:=⟨b,off+j*2,none⟩) hb).trans (hc j hj).1,(h.cell (p:=⟨b,off+j*2+1,none⟩) hb).trans (hc j hj).2⟩⟩
theorem Tryz.back_stops(F:Fence)(n:Nat)(h8:F.fn 162)(hro:F.round=none)(hn:1<=n)(Bs n₀:Nat)(sv:Value)(zs:List Tryz.PutV)(hreach:zs.length*24<=140737488351232)(w:World)(hBs:Bs<n₀)(hn₀:n₀<=w.heap.size)
 (hc:w.cell? ⟨Bs,0,none⟩=some sv) (hI:Tryz.Puts n₀ w sv zs) :
 SeqStopsK F n Tryz.prog 162 #[.pointer (some ⟨Bs,0,none⟩)] Tryz.encPut (Below n₀) (λys=>ys=Tryz.down (λj=>(j,zs[j]?.getD default)) zs.length zs.length)
  (λpre=>∃ k,k<=zs.length/\pre=Tryz.down (λj=>(j,zs[j]?.getD default)) zs.length k) zs.length w:=λl J Jx W hW _ _ hY h0=>by
 have hc':=(hW.cell (p:=⟨Bs,0,none⟩) (Nat.lt_of_lt_of_le hBs hn₀)).trans hc;rcases hI.below (hW.mono hn₀)with ⟨a,cap,rfl,rfl⟩|⟨b,off,cap,rfl,hb,hcs⟩
 ·exact(Tryz.back0_in F n h8 hro l Bs cap a J W hc' h0).mono λe W' ⟨he,hj⟩=>⟨he,.inl ⟨_,rfl,hj⟩⟩
 ·exact Tryz.back1_in F n h8 hro hn l Bs n₀ b off zs.length cap zs hreach hb J Jx hY W hc' hBs hcs h0
theorem Tryz.back_in(F:Fence)(n:Nat)(h6:F.fn 104)(hro:F.round=none)(a:Option Addr)(len cap:Nat)(w:World) :
 CallsIn F n Tryz.prog 104 #[.slice a len cap] w λe w'=>e=.returned (.func (.func 162) #[] #[.pointer (some ⟨w.heap.size,0,none⟩)])/\w'=w.alloc (.cells #[.slice a len cap] 25):=by
 refine callsIn_of_wp Tryz.func104 rfl h6 ?_ hro;simp only[Tryz.f104,List.size_toArray,List.length_cons,List.length_nil,Nat.reduceAdd,Nat.reduceSub,Array.replicate_succ,Array.replicate_zero,List.push_toArray,List.append_toArray,List.nil_append,List.cons_append]
 gi_wp2
 go_ret
 exact⟨rfl,rfl⟩
end Go.Proofs
end
section
namespace Go.Proofs
open Go.RowKit Go.Shelf
attribute [local go_sem] Oper.semAt_some
theorem Tryz.has_in(F:Fence)(n:Nat)(h6:F.fn 103)(hro:F.round=none)(a wl:Option Addr)(len cap wn wc:Nat)(lies arm i:Int)(down:Bool)(w:World) :
 CallsIn F n Tryz.prog 103 #[.agg #[.slice a len cap,.slice wl wn wc,.int .i64 lies,.int .i64 arm,.bool down],.int .i64 i] w λe w'=>e=.returned (.bool (decide (0<=i)&&decide (i<len)))/\w'=w.alloc (.cells #[.slice a len cap,.slice wl wn wc,.int .i64 lies,.int .i64 arm,.bool down] 27):=by
 refine callsIn_of_wp Tryz.func103 rfl h6 ?_ hro;simp only[Tryz.f103,List.size_toArray,List.length_cons,List.length_nil,Nat.reduceAdd,Nat.reduceSub,Array.replicate_succ,Array.replicate_zero,List.push_toArray,List.append_toArray,List.nil_append,List.cons_append]
 gi_wp2
 all_goals
  go_ret
  refine⟨?_,rfl⟩
  first
  |(have h1:i<0:=by assumption
    rw[decide_eq_false (by omega)];rfl)
  |(have h1:0<=i:=by assumption
    rw[decide_eq_true h1];rfl)
theorem Tryz.read_in(F:Fence)(n:Nat)(hr:F.fn 64)(hh:F.fn 103)(hb:F.fn 104)(hb1:F.fn 162)(hro:F.round=none)(hn:3<=n)(a wl:Option Addr)(len cap wn wc:Nat)(lies arm i:Int)(zs:List Tryz.PutV)(hreach:zs.length*24<=140737488351232)(w:World)(hI:Tryz.Puts w.heap.size w (.slice wl wn wc) zs)
 (s:ByteArray) (hs:0<=i->i<len->∃ b o,a=some ⟨b,o,none⟩/\b<w.heap.size/\w.cell? ⟨b,o+i.toNat,none⟩=some (.string s)) :
 CallsIn F n Tryz.prog 64 #[.agg #[.slice a len cap,.slice wl wn wc,.int .i64 lies,.int .i64 arm,.bool false],.int .i64 i] w λe w'=>(∃ t ok,e=.returned (.tuple #[.string t,.bool ok])/\((¬ (0<=i/\i<len)/\t=⟨#[]⟩/\ok=false)\/((0<=i/\i<len)/\ok=true/\(((∀ j,j<zs.length->(zs[j]?.getD default).1≠i)/\t=s)\/∃ k,k<zs.length/\(zs[zs.length-1-k]?.getD default).1=i/\t=(zs[zs.length-1-k]?.getD default).2/\∀ j,j<k->(zs[zs.length-1-j]?.getD default).1≠i))))/\Below w.heap.size w w':=by
 have h1:1<=n:=by omega
 refine callsIn_of_wp_marks Tryz.func64 rfl hr ?_ hro;simp only[Tryz.f64,List.size_toArray,List.length_cons,List.length_nil,Nat.reduceAdd,Nat.reduceSub,Array.replicate_succ,Array.replicate_zero,List.push_toArray,List.append_toArray,List.nil_append,List.cons_append]
 gi_wp2_with (first|(gi_at_call 103;refine(Tryz.has_in F (n-1) hh hro _ _ _ _ _ _ _ _ _ _ _).mono ?_;rintro e w' ⟨rfl,rfl⟩)|(gi_at_call 104;refine(Tryz.back_in F (n-1) hb hro _ _ _ _).mono ?_;rintro e w' ⟨rfl,rfl⟩))
 ·have hno:¬ (0<=i/\i<(len:Int)):=by
   have h:(!decide (0<=i))=true\/(!decide (i<(len:Int)))=true:=(by assumption);intro hc;rcases h with h|h
   ·simp at h;omega
   ·simp at h;omega
  have bS:=((Boxed.new ((w.alloc (.cells #[.slice a len cap,.slice wl wn wc,.int .i64 lies,.int .i64 arm,.bool false] 27)).alloc (.cells #[.int .i64 i] 3)) 9 (.string ⟨#[]⟩)).alloc (.cells #[.bool false] 4)).alloc (.cells #[.slice a len cap,.slice wl wn wc,.int .i64 lies,.int .i64 arm,.bool false] 27);have bB:=(Boxed.new (((w.alloc (.cells #[.slice a len cap,.slice wl wn wc,.int .i64 lies,.int .i64 arm,.bool false] 27)).alloc (.cells #[.int .i64 i] 3)).alloc (.cells #[.string ⟨#[]⟩] 9)) 4 (.bool false)).alloc (.cells #[.slice a len cap,.slice wl wn wc,.int .i64 lies,.int .i64 arm,.bool false] 27);simp only[World.size_alloc]at bS bB;have c4:=bS.cell;have c5:=bB.cell;refine⟨.tuple #[.string ⟨#[]⟩,.bool false],?_,⟨_,_,rfl,.inl ⟨hno,rfl,rfl⟩⟩,(((((Below.refl _ w).alloc (Nat.le_refl _) _).alloc (by simp) _).alloc (by simp;omega) _).alloc (by simp;omega) _).alloc (by simp;omega) _⟩;simp[results,Tryz.f64,go_sem,c4,c5]
 ·have hsz:((((((w.alloc (.cells #[.slice a len cap,.slice wl wn wc,.int .i64 lies,.int .i64 arm,.bool false] 27)).alloc (.cells #[.int .i64 i] 3)).alloc (.cells #[.string ⟨#[]⟩] 9)).alloc (.cells #[.bool false] 4)).alloc (.cells #[.slice a len cap,.slice wl wn wc,.int .i64 lies,.int .i64 arm,.bool false] 27)).alloc (.cells #[.slice wl wn wc] 25)).heap.size=w.heap.size+6:=by simp
  have hB0:Below w.heap.size w ((((((w.alloc (.cells #[.slice a len cap,.slice wl wn wc,.int .i64 lies,.int .i64 arm,.bool false] 27)).alloc (.cells #[.int .i64 i] 3)).alloc (.cells #[.string ⟨#[]⟩] 9)).alloc (.cells #[.bool false] 4)).alloc (.cells #[.slice a len cap,.slice wl wn wc,.int .i64 lies,.int .i64 arm,.bool false] 27)).alloc (.cells #[.slice wl wn wc] 25)):=((((((Below.refl _ w).alloc (Nat.le_refl _) _).alloc (by simp) _).alloc (by simp;omega) _).alloc (by simp;omega) _).alloc (by simp;omega) _).alloc (by simp;omega) _;have bD:=World.alloc_heap_new w (.cells #[.slice a len cap,.slice wl wn wc,.int .i64 lies,.int .i64 arm,.bool false] 27);have bN:=Boxed.new (((((w.alloc (.cells #[.slice a len cap,.slice wl wn wc,.int .i64 lies,.int .i64 arm,.bool false] 27)).alloc (.cells #[.int .i64 i] 3)).alloc (.cells #[.string ⟨#[]⟩] 9)).alloc (.cells #[.bool false] 4)).alloc (.cells #[.slice a len cap,.slice wl wn wc,.int .i64 lies,.int .i64 arm,.bool false] 27)) 25 (.slice wl wn wc);have bI:=((((Boxed.new (w.alloc (.cells #[.slice a len cap,.slice wl wn wc,.int .i64 lies,.int .i64 arm,.bool false] 27)) 3 (.int .i64 i)).alloc (.cells #[.string ⟨#[]⟩] 9)).alloc (.cells #[.bool false] 4)).alloc (.cells #[.slice a len cap,.slice wl wn wc,.int .i64 lies,.int .i64 arm,.bool false] 27)).alloc (.cells #[.slice wl wn wc] 25);have bS:=(((Boxed.new ((w.alloc (.cells #[.slice a len cap,.slice wl wn wc,.int .i64 lies,.int .i64 arm,.bool false] 27)).alloc (.cells #[.int .i64 i] 3)) 9 (.string ⟨#[]⟩)).alloc (.cells #[.bool false] 4)).alloc (.cells #[.slice a len cap,.slice wl wn wc,.int .i64 lies,.int .i64 arm,.bool false] 27)).alloc (.cells #[.slice wl wn wc] 25);have bB:=((Boxed.new (((w.alloc (.cells #[.slice a len cap,.slice wl wn wc,.int .i64 lies,.int .i64 arm,.bool false] 27)).alloc (.cells #[.int .i64 i] 3)).alloc (.cells #[.string ⟨#[]⟩] 9)) 4 (.bool false)).alloc (.cells #[.slice a len cap,.slice wl wn wc,.int .i64 lies,.int .i64 arm,.bool false] 27)).alloc (.cells #[.slice wl wn wc] 25);simp only[World.size_alloc]at bN bI bS bB;obtain⟨W0,hW0⟩:∃ W0,((((((w.alloc (.cells #[.slice a len cap,.slice wl wn wc,.int .i64 lies,.int .i64 arm,.bool false] 27)).alloc (.cells #[.int .i64 i] 3)).alloc (.cells #[.string ⟨#[]⟩] 9)).alloc (.cells #[.bool false] 4)).alloc (.cells #[.slice a len cap,.slice wl wn wc,.int .i64 lies,.int .i64 arm,.bool false] 27)).alloc (.cells #[.slice wl wn wc] 25))=W0:=⟨_,rfl⟩;rw[hW0]at hsz hB0 bN bI bS bB ⊢;have bD1:W0.heap[w.heap.size]?=some (.cells #[.slice a len cap,.slice wl wn wc,.int .i64 lies,.int .i64 arm,.bool false] 27 (0,0)):=by
   rw[<-hW0];exact((((((Below.refl (w.heap.size+1) (w.alloc (.cells #[.slice a len cap,.slice wl wn wc,.int .i64 lies,.int .i64 arm,.bool false] 27))).alloc (by simp) _).alloc (by simp) _).alloc (by simp) _).alloc (by simp) _).alloc (by simp) _).block w.heap.size (by omega) |>.trans (World.alloc_heap_new w _)
  clear hW0;have hI0:Tryz.Puts W0.heap.size W0 (.slice wl wn wc) zs:=by
   rcases hI.below hB0 with h|⟨b,off,cap,e,hb,hc⟩
   ·exact .inl h
   ·exact .inr ⟨b,off,cap,e,by omega,hc⟩
  refine wpIn_rangeFunc_ownH hro h1 (gf:=162) (lb:= #[.pointer (some ⟨w.heap.size+1+1+1+1+1,0,none⟩)]) rfl hb1 (enters_of Tryz.func162 (by kernel_rfl) rfl)
   (Tryz.back_stops F (n-1) hb1 hro (by omega) (w.heap.size+1+1+1+1+1) W0.heap.size (.slice wl wn wc) zs hreach W0 (by omega) (Nat.le_refl _) bN.cell hI0) belowK_t (belowK_b (Nat.le_refl _)) (Below.refl _ _) (λ_=>rfl)
   (λpre W=>(∀ p∈pre,p.2.1≠i)/\Below W0.heap.size W0 W)
   (λc pre W=>(c=.ret/\∃ ini last,pre=ini++[last]/\(∀ p∈ini,p.2.1≠i)/\last.2.1=i/\Boxed W (w.heap.size+1+1) 9 (.string last.2.2)/\Boxed W (w.heap.size+1+1+1) 4 (.bool true))/\Below w.heap.size w W)
   (OwnFrom.and (Own.from (λs A B row hs hg hr=>hs) _) (ownFrom_below (Nat.le_refl _) (Nat.le_refl _)))
   (λc=>OwnFrom.and (Own.from (λs A B row hs hg hr=>by obtain⟨hc,ini,last,e1,e2,e3,e4,e5⟩:=hs;exact⟨hc,ini,last,e1,e2,e3,boxed_own _ 9 (λ(_:Unit)=>Value.string last.2.2) () A B row e4 hg hr,boxed_own _ 4 (λ(_:Unit)=>Value.bool true) () A B row e5 hg hr⟩) _) (ownFrom_below (by omega) (by omega)))
   ⟨by simp,Below.refl _ _⟩
   (λx a' W=>∃ Bx,W.heap[Bx]?=some (.cells #[.int .i64 x.2.1,.string x.2.2] 61 (0,0))/\a'={ tmps:= #[.agg #[.slice a len cap,.slice wl wn wc,.int .i64 lies,.int .i64 arm,.bool false],.int .i64 i,.pointer (some ⟨w.heap.size,0,none⟩),.pointer (some ⟨w.heap.size+1,0,none⟩),.pointer (some ⟨w.heap.size+1+1,0,none⟩),.pointer (some ⟨w.heap.size+1+1+1,0,none⟩),undef,.pointer (some ⟨Bx,0,none⟩),.pointer (some ⟨w.heap.size,4,none⟩),.bool false,.bool false,.agg #[.slice a len cap,.slice wl wn wc,.int .i64 lies,.int .i64 arm,.bool false],.int .i64 i,.bool (decide (0<=i)&&decide (i<len)),.bool false,.bool false,.pointer (some ⟨w.heap.size,1,none⟩),.slice wl wn wc,.func (.func 162) #[] #[.pointer (some ⟨w.heap.size+1+1+1+1+1,0,none⟩)],.int .i64 (x.1:Int),.agg #[.int .i64 x.2.1,.string x.2.2],undef,undef,undef,undef,undef,undef,undef,undef,undef,undef,undef],defers:=[] })
   ?hax ?assign ?body ?done ?stop
  case hax=>
   intro x a' s' X Y row hs' hg hr';obtain⟨Bx,e1,e2⟩:=hs';refine⟨Bx,(hg.block Bx (Array.getElem?_eq_some_iff.1 e1).1 (λe=>?_)).trans e1,e2⟩;obtain⟨_,o,ho,hc⟩:=hr' Bx e.symm;rw[e1]at ho;cases ho;cases hc
  case assign=>
   rintro l pre x W K ⟨hp,hB⟩ hK;dsimp only[Tryz.encPut]
   gi_wp2
   exact hK _ _ ((KeepsOthers.alloc _ _).from _) ((Below.refl _ W).alloc hB.size _) ⟨hp,hB.alloc hB.size _⟩ ⟨W.heap.size,World.alloc_heap_new _ _,rfl⟩
  case body=>
   rintro l pre x a' W hl ⟨r,hr'⟩ ⟨hp,hB⟩ ⟨Bx,hx,rfl⟩ hlt;have bI':Boxed W (w.heap.size+1) 3 (.int .i64 i):=(hB.block _ (by omega)).trans bI;have bS':Boxed W (w.heap.size+1+1) 9 (.string ⟨#[]⟩):=(hB.block _ (by omega)).trans bS;have bB':Boxed W (w.heap.size+1+1+1) 4 (.bool false):=(hB.block _ (by omega)).trans bB;have cI:=bI'.cell;have cS:=bS'.cell;have cB:=bB'.cell;have fS:=bS'.frozen;have fB:=bB'.frozen;have c1:W.cell? ⟨Bx,0,none⟩=some (.int .i64 x.2.1):=(by simp only[World.cell?,hx];rfl);have c2:W.cell? ⟨Bx,1,none⟩=some (.string x.2.2):=(by simp only[World.cell?,hx];rfl);have hBw:Below w.heap.size w W:=hB0.trans (hB.mono (by omega))
   gi_wp2
   ·have hxi:x.2.1=i:=by
     have h:(x.2.1==i)=true:=(by assumption);simpa using h
    exact⟨((KeepsOthers.setCell _ _ _).trans (KeepsOthers.setCell _ _ _)).from _,⟨rfl,pre,x,rfl,hp,hxi,(bS'.set _).other (by omega) _,(bB'.other (by omega) _).set _⟩,(hBw.setCell (p:=⟨w.heap.size+1+1,0,none⟩) (by show w.heap.size<=w.heap.size+1+1;omega) _).setCell (p:=⟨w.heap.size+1+1+1,0,none⟩) (by show w.heap.size<=w.heap.size+1+1+1;omega) _⟩
   ·have hxi:¬ x.2.1=i:=by
     have h:(x.2.1==i)=false:=(by assumption);simpa using h
    exact⟨KeepsFrom.refl _ _,Below.refl _ _,λp hp'=>(List.mem_append.1 hp').elim (hp p) (λe=>by simp at e;subst e;exact hxi),hB⟩
  case done=>
   rintro D ys W hD rfl ⟨hne,hB⟩ hK;have hin:0<=i/\i<(len:Int):=by
    have h:(!decide (0<=i))=false/\(!decide (i<(len:Int)))=false:=(by assumption);simpa using h
   obtain⟨b,o,rfl,hbl,hcs⟩:=hs hin.1 hin.2;have hBw:Below w.heap.size w W:=hB0.trans (hB.mono (by omega));have bI':Boxed W (w.heap.size+1) 3 (.int .i64 i):=(hB.block _ (by omega)).trans bI;have bS':Boxed W (w.heap.size+1+1) 9 (.string ⟨#[]⟩):=(hB.block _ (by omega)).trans bS;have bB':Boxed W (w.heap.size+1+1+1) 4 (.bool false):=(hB.block _ (by omega)).trans bB;have bD':W.heap[w.heap.size]?=some (.cells #[.slice (some ⟨b,o,none⟩) len cap,.slice wl wn wc,.int .i64 lies,.int .i64 arm,.bool false] 27 (0,0)):=(hB.block _ (by omega)).trans bD1;have cD:W.cell? ⟨w.heap.size,0,none⟩=some (.slice (some ⟨b,o,none⟩) len cap):=(by simp only[World.cell?,bD'];rfl);have cI:=bI'.cell;have cS:=bS'.cell;have cB:=bB'.cell;have fS:=bS'.frozen;have fB:=bB'.frozen;have hcW:=(hBw.cell (p:=⟨b,o+i.toNat,none⟩) hbl).trans hcs;obtain⟨m,rfl⟩:∃ m:Nat,i=(m:Int):=⟨i.toNat,by omega⟩;rw[Int.toNat_natCast]at hcW
   gi_wp2
   have hK1:=(KeepsOthers.setCell W ⟨w.heap.size+1+1,0,none⟩ (.string s)).same D _ hK rfl;have hK2:=(KeepsOthers.setCell _ ⟨w.heap.size+1+1+1,0,none⟩ (.bool true)).same D _ hK1 rfl;refine⟨by simp,.inl ⟨_,_,rfl,run_takeDeferred hK2,?_⟩⟩;have bS2:=(bS'.set (.string s)).other (B':=w.heap.size+1+1+1) (by omega) (.bool true);have bB2:=(bB'.other (B':=w.heap.size+1+1) (by omega) (.string s)).set (.bool true);have h4:=cell_kept bS2.cell (grownBy_putObj' _ D (.deferred none)) (λr e=>by cases e;exact⟨_,hK2,rfl⟩);have h5:=cell_kept bB2.cell (grownBy_putObj' _ D (.deferred none)) (λr e=>by cases e;exact⟨_,hK2,rfl⟩);have hB2:Below w.heap.size w ((W.setCell ⟨w.heap.size+1+1,0,none⟩ (.string s)).setCell ⟨w.heap.size+1+1+1,0,none⟩ (.bool true)):=(hBw.setCell (p:=⟨w.heap.size+1+1,0,none⟩) (by show w.heap.size<=w.heap.size+1+1;omega) _).setCell (p:=⟨w.heap.size+1+1+1,0,none⟩) (by show w.heap.size<=w.heap.size+1+1+1;omega) _;refine⟨.tuple #[.string s,.bool true],?_,⟨_,_,rfl,.inr ⟨hin,rfl,.inl ⟨λj hj=>?_,rfl⟩⟩⟩,hB2.trans (belowK_b (w:=w) (Nat.le_refl _) _ D _ _ (by omega) hK2 rfl rfl)⟩
   ·simp[results,Tryz.f64,go_sem,h4,h5]
   ·have hx:=hne (j,zs[j]?.getD default) (by
     simp only[Tryz.down,List.mem_map,List.mem_range];exact⟨zs.length-1-j,by omega,by rw[show zs.length-1-(zs.length-1-j)=j by omega]⟩)
    exact hx
  case stop=>
   rintro D c pre W hD ⟨k,hk,rfl⟩ ⟨⟨rfl,ini,last,e1,e2,e3,bS2,bB2⟩,hBw⟩ hK
   gi_wp2
   refine⟨by simp,.inl ⟨_,_,rfl,run_takeDeferred hK,?_⟩⟩;have h4:=cell_kept bS2.cell (grownBy_putObj' _ D (.deferred none)) (λr e=>by cases e;exact⟨_,hK,rfl⟩);have h5:=cell_kept bB2.cell (grownBy_putObj' _ D (.deferred none)) (λr e=>by cases e;exact⟨_,hK,rfl⟩);obtain⟨k',rfl⟩:∃ k',k=k'+1:=by
    cases k with
    |zero=>simp[Tryz.down]at e1
    |succ k'=>exact⟨k',rfl⟩
   rw[Tryz.down_succ]at e1;obtain⟨rfl,e5⟩:=List.append_inj' e1 rfl;obtain rfl:(zs.length-1-k',zs[zs.length-1-k']?.getD default)=last:=(by simpa using e5);refine⟨.tuple #[.string (zs[zs.length-1-k']?.getD default).2,.bool true],?_,⟨_,_,rfl,.inr ⟨?_,rfl,.inr ⟨k',by omega,e3,rfl,λj hj=>e2 (zs.length-1-j,zs[zs.length-1-j]?.getD default) (by simp only[Tryz.down,List.mem_map,List.mem_range];exact⟨j,hj,rfl⟩)⟩⟩⟩,hBw.trans (belowK_b (w:=w) (Nat.le_refl _) W D _ _ (by omega) hK rfl rfl)⟩
   ·simp[results,Tryz.f64,go_sem,h4,h5]
   ·have h:(!decide (0<=i))=false/\(!decide (i<(len:Int)))=false:=(by assumption);simpa using h
end Go.Proofs
end
section
namespace Go.Proofs
open Go.RowKit Go.Shelf
attribute [local go_sem] Oper.semAt_some
theorem Tryz.read_down_in(F:Fence)(n:Nat)(hr:F.fn 64)(hh:F.fn 103)(hro:F.round=none)(a wl:Option Addr)(len cap wn wc:Nat)(lies arm i:Int)(w:World) :
 CallsIn F n Tryz.prog 64 #[.agg #[.slice a len cap,.slice wl wn wc,.int .i64 lies,.int .i64 arm,.bool true],.int .i64 i] w λe w'=>e=.returned (.tuple #[.string ⟨#[]⟩,.bool false])/\Below w.heap.size w w':=by
 refine callsIn_of_wp_marks Tryz.func64 rfl hr ?_ hro;simp only[Tryz.f64,List.size_toArray,List.length_cons,List.length_nil,Nat.reduceAdd,Nat.reduceSub,Array.replicate_succ,Array.replicate_zero,List.push_toArray,List.append_toArray,List.nil_append,List.cons_append]
 gi_wp2
 have bS:=(Boxed.new ((w.alloc (.cells #[.slice a len cap,.slice wl wn wc,.int .i64 lies,.int .i64 arm,.bool true] 27)).alloc (.cells #[.int .i64 i] 3)) 9 (.string ⟨#[]⟩)).alloc (.cells #[.bool false] 4);have bB:=(Boxed.new (((w.alloc (.cells #[.slice a len cap,.slice wl wn wc,.int .i64 lies,.int .i64 arm,.bool true] 27)).alloc (.cells #[.int .i64 i] 3)).alloc (.cells #[.string ⟨#[]⟩] 9)) 4 (.bool false));simp only[World.size_alloc]at bS bB;have c4:=bS.cell;have c5:=bB.cell;refine⟨.tuple #[.string ⟨#[]⟩,.bool false],?_,rfl,((((Below.refl _ w).alloc (Nat.le_refl _) _).alloc (by simp) _).alloc (by simp;omega) _).alloc (by simp;omega) _⟩;simp[results,Tryz.f64,go_sem,c4,c5]
end Go.Proofs
end
namespace Go.Proofs.YtddlanlnaenaoaaGreatDoor.Abs
section
open Go Go.Proofs Go.RowKit
def c3o(i:Int)(s:Bytes):∀ (w:List (Int×Bytes)),(∀ p∈w,p.1≠i)->Sw w i s=s:=by
 intro w
 induction w generalizing s with
 |nil=>intro _;rfl
 |cons p w b=>
   intro h;show List.foldl _ (if p.1=i then p.2 else s) w=s;rw[iN (h p sm)];exact b s λq a=>h q (by simp[a])
def dt4(a b:List (Int×Bytes))(i:Int)(s:Bytes):Sw (a++b) i s=Sw b i (Sw a i s):=f2y
def dt3(w:List (Int×Bytes))(i:Int)(s:Bytes)(m:Nat)(b:m<w.length)(a:(w[m]?.getD df).1=i)(c:∀ j,m<j->j<w.length->(w[j]?.getD df).1≠i):Sw w i s=(w[m]?.getD df).2:=by
 have e:w=w.take m++(w[m]::w.drop (m+1)):=by rw[<-ey9 b,f0l]
 rw[e,dt4];show List.foldl _ (if w[m].1=i then w[m].2 else _) (w.drop (m+1))=_;rw[<-e];rw[ez2 b,f31]at a ⊢;rw[iP a];refine c3o i _ _ λp f=>?_;obtain⟨j,d,rfl⟩:=f0z.1 f;rw[f38]at d
 have:=c (m+1+j) om om;rw[ez2 om,f31]at this;rw[List.getElem_drop];exact this
def by1:∀ {a:List LP} {l:List (Int×Bytes)},X8 a=some l->a=l.map Ay
 |[],l,h=>by cases h;rfl
 |e::a,l,h=>by
   match e,h with
   |[.int .i64 n,.str s],h=>
     rw[X8]at h;obtain⟨c,b,rfl⟩:=f09.1 h;rw[f5b,<-by1 b];rfl
def c9e{E:Env}{w:World}{H:AH}(D:Sim E w H){x:AV}{d:List LP}{v:Value}(m:Kg x=some d)(o:Rep E x v) :
 ∃ a cap,v=.slice a d.length cap/\(d≠[]->∃ b off sz,a=some ⟨b,off,none⟩/\b<w.heap.size/\(∀ e∈d,e.length=sz)/\∀ (i:Nat) e (k:Nat) c,d[i]?=some e->e[k]?=some c->∃ u,w.cell? ⟨b,off+(i*sz+k),none⟩=some u/\RepP E.F c u):=by
 cases x with
 |emp=>
   cases m;obtain⟨a,rfl⟩:=Jc o;exact⟨a,0,rfl,λh=>absurd rfl h⟩
 |fz r =>
   cases m;obtain⟨a,cap,rfl,n,z⟩:=Qu o;refine⟨a,cap,rfl,λs=>?_⟩;obtain⟨b,off,sz,cells,t,q,rfl,y,g,B,A⟩:=z s;have p:=D.frz b _ (.inl y);refine⟨b,off,sz,rfl,T9 p,g,λi e k c j l=>?_⟩;have hi:i<d.length:=by
    apply ey8;intro h;rw[f0e om]at j;cases j
   have C:k<sz:=by
    have G:=g e (f0q j);apply ey8;intro h;rw[f0e om]at l;cases l
   have f:off+(i*sz+k)<cells.size:=by
    have:i*sz+sz<=d.length*sz:=by
     rw[<-f63];exact f0r _ hi
    omega
   refine⟨cells[off+(i*sz+k)],?_,A i e k c _ j l (ey4 f)⟩;show World.cell? w ⟨b,off+(i*sz+k),none⟩=_;simp only[World.cell?,p];exact ey4 f
 |_=>cases m
def bs8{F:Nat->Option Obj}{s:Bytes}{v:Value}(h:RepP F (.str s) v):v=.string ⟨s.toArray⟩:=by cases h;rfl
def d97{F:Nat->Option Obj}{k:IntKind}{n:Int}{v:Value}(h:RepP F (.int k n) v):v=.int k n:=by cases h;rfl
def d77{E:Env}{w:World}{H:AH}(p:Sim E w H){x:AV}{e:List LP}{l:List Bytes}{v:Value}(q:Kg x=some e)(k:Tn e=some l)(n:Rep E x v) :
 ∃ a cap,v=.slice a l.length cap/\∀ i,i<l.length->∃ b o,a=some ⟨b,o,none⟩/\b<w.heap.size/\w.cell? ⟨b,o+i,none⟩=some (.string ⟨(l.getD i df).toArray⟩):=by
 obtain rfl:=b1k k;obtain⟨a,cap,rfl,h⟩:=c9e p q n;refine⟨a,cap,by rw[f3z],λi hi=>?_⟩;obtain⟨b,off,sz,rfl,g,c,j⟩:=h (by cases l with|nil=>cases hi|cons=>simp);have f:1=sz:=c (B4 l[i]) (f62.2 ⟨_,f3e hi,rfl⟩);subst f;have⟨u,d,m⟩:=j i (B4 l[i]) 0 (.str l[i]) (by rw[f2i,ez2 hi];rfl) rfl;refine⟨b,off,rfl,g,?_⟩;rw[bs8 m]at d;rw[f6p,f5y]at d;rw[d,ex9,ez2 hi,f31]
def d9r{E:Env}{w:World}{H:AH}(t:Sim E w H){x:AV}{g:List LP}{l:List (Int×Bytes)}{v:Value}(y:Kg x=some g)(q:X8 g=some l)(s:Rep E x v) :
 ∃ a cap,v=.slice a l.length cap/\Tryz.Puts w.heap.size w v (l.map λp=>(p.1,⟨p.2.toArray⟩)):=by
 obtain rfl:=by1 q;obtain⟨a,cap,rfl,h⟩:=c9e t y s;refine⟨a,cap,by rw[f3z],?_⟩;by_cases i:l=[]
 ·subst i;exact .inl ⟨a,cap,rfl,rfl⟩
 ·obtain⟨b,off,sz,rfl,o,f,k⟩:=h (by simpa using i);refine .inr ⟨b,off,cap,by simp,o,λj c=>?_⟩;rw[f3z]at c;have n:2=sz:=f (Ay l[j]) (f62.2 ⟨_,f3e c,rfl⟩);subst n;have⟨u,m,r⟩:=k j (Ay l[j]) 0 (.N l[j].1) (by rw[f2i,ez2 c];rfl) rfl;have⟨z,d,e⟩:=k j (Ay l[j]) 1 (.str l[j].2) (by rw[f2i,ez2 c];rfl) rfl;rw[d97 r]at m;rw[bs8 e]at d;rw[f2i,ez2 c];exact⟨by rw[<-f5y (off+j*2),f5c];exact m,by rw[f5c];exact d⟩
def bx6{x z:AV}{O P:List LP}{l:List Bytes}{b:List (Int×Bytes)}(hx:Kg x=some O)(V:Tn O=some l)(hz:Kg z=some P)(W:X8 P=some b)(hn:b.length<=1000000)(g m i:Int)(down:Bool)(s:Bytes)(ok:Bool)
 (h:(Gg ⟨some l,some b,0,0,down⟩ i=some s/\ok=true)\/(Gg ⟨some l,some b,0,0,down⟩ i=none/\s=[]/\ok=false)) :
 C Tryz.prog 64 [.agg [x,z,.N g,.N m,.bool down],.N i] [] (λy' T=>y'=.tuple [.str s,.bool ok]/\T=[]):=by
 refine ak5 ⟨Tryz.f64,Tryz.func64,kk,kk⟩ (v:=.tuple #[.string ⟨s.toArray⟩,.bool ok]) ?_ λE=>.tuple _ _ rfl λk c v f D=>?_
 ·intro E w vs S Z;obtain⟨v,u,rfl,Q,U⟩:=Z.two;rw[Fm U];obtain⟨⟨vl⟩,rfl,B,d⟩:=a1q Q
  match vl,B,d with
  |[v0,v1,v2,v3,v4],_,d=>
    have r0:=d 0 _ _ rfl rfl;have r1:=d 1 _ _ rfl rfl;have r2:=Fm (d 2 _ _ rfl rfl);have r3:=Fm (d 3 _ _ rfl rfl);have r4:=Se (d 4 _ _ rfl rfl);subst r2 r3 r4;obtain⟨a,cap,rfl,Y⟩:=d77 S hx V r0;obtain⟨M,L,rfl,I⟩:=d9r S hz W r1;have J:Tryz.Puts w.heap.size w (.slice M b.length L) (b.map λp=>(p.1,(⟨p.2.toArray⟩:ByteArray))):=I;refine(callsIn_wide (n:=3)).1 ?_;cases down with
    |true=>
      have q:Gg ⟨some l,some b,0,0,true⟩ i=none:=(by rw[Gg,iN sm]);obtain⟨rfl,rfl⟩:s=[]/\ok=false:=by
       rcases h with h|h
       ·rw[q]at h;cases h.1
       ·exact h.2
      refine(Tryz.read_down_in Fence.wide 3 trivial trivial rfl a M l.length cap b.length L g m i w).mono ?_;rintro e w' ⟨rfl,G⟩;exact⟨rfl,G⟩
    |false=>
      refine(Tryz.read_in Fence.wide 3 trivial trivial trivial trivial rfl (f6o _) a M l.length cap b.length L g m i (b.map λp=>(p.1,(⟨p.2.toArray⟩:ByteArray))) (by rw[f3z];omega) w J ⟨(l.getD i.toNat df).toArray⟩ (λh0 Q=>Y i.toNat om)).mono ?_;rintro e w' ⟨⟨t,a0,rfl,f⟩,G⟩;refine⟨?_,G⟩;rcases f with ⟨H,rfl,rfl⟩|⟨r,rfl,f⟩
      ·have q:Gg ⟨some l,some b,0,0,false⟩ i=none:=(by rw[Gg,iN (by simp only[Az];intro f;exact H f.2)]);obtain⟨rfl,rfl⟩:s=[]/\ok=false:=by
        rcases h with h|h
        ·rw[q]at h;cases h.1
        ·exact h.2
       rfl
      ·have q:Gg ⟨some l,some b,0,0,false⟩ i=some (Sw b i (l.getD i.toNat df)):=(by rw[Gg,iP ⟨rfl,r.1,r.2⟩];rfl);obtain⟨rfl,rfl⟩:Sw b i (l.getD i.toNat df)=s/\ok=true:=by
        rcases h with h|h
        ·rw[q]at h;exact⟨f4a h.1,h.2⟩
        ·rw[q]at h;cases h.1
       have K:t=⟨(Sw b i (l.getD i.toNat df)).toArray⟩:=by
        rw[f3z]at f;rcases f with ⟨o,rfl⟩|⟨k,hk,A,rfl,o⟩
        ·rw[c3o];intro p I;obtain⟨j,R,rfl⟩:=f0z.1 I
         have:=o j R
         rwa [f2i,ez2 R]at this
        ·have F:b.length-1-k<b.length:=om;rw[f2i,ez2 F]at A ⊢;rw[dt3 b i _ (b.length-1-k) F (by rw[ez2 F];exact A) (λj X y=>by
          have:=o (b.length-1-j) om;rw[show b.length-1-(b.length-1-j)=j by omega,f2i,ez2 y]at this
          rwa [ez2 y]),ez2 F]
         rfl
       rw[K]
 ·match k,f,D with
  |0,f,D=>cases f;cases D;exact .pure (x:=.str _) (.str _)
  |1,f,D=>cases f;cases D;exact .pure (x:=.bool _) (.bool _)
  |k+2,f,_=>cases f
def d9i{a:LA}{H:AH}{y:AV}{G:AH}(h:a1u 64 a H=some (y,G)):C Tryz.prog 64 a H (λp m=>p=y/\m=G):=by
 unfold a1u at h;split at h
 ·rename_i x z b c down i;have⟨l,n,h⟩:=f01.1 h;have⟨q,j,f⟩:=f01.1 n;have⟨t,o,h⟩:=f01.1 h;have⟨r,k,g⟩:=f01.1 o;split at h
  ·rename_i e;split at h
   ·rename_i s d;cases h;exact bx6 j f k g e.2 b c i down s true (.inl ⟨d,rfl⟩)
   ·rename_i d;cases h;exact bx6 j f k g e.2 b c i down [] false (.inr ⟨d,rfl,rfl⟩)
  ·cases h
 ·cases h
end
def impAny_C(a:Sl UInt8)(h:Int)(b:0<=h/\h<256):C Tryz.prog 3 [A4 pu8 a,.int .u8 h] [] (λx _=>x=.bool true):=
 (ew1 d71 (de9 df0 (λ_ _ _ _ h=>d9i h)) (e53 a h b [])).mono λ_ _ h=>h.1
end Go.Proofs.YtddlanlnaenaoaaGreatDoor.Abs
