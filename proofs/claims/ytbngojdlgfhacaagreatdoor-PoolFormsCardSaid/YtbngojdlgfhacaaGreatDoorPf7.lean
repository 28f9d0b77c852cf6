/-
  Part 7 of the proof: no condition. (Parts of the abstract layer, of the program's functions in its form, and of their contracts.)
-/
import Derived.Test.YtbngojdlgfhacaaGreatDoorPf3
import Derived.Test.YtbngojdlgfhacaaGreatDoorProg
import Derived.KernelRfl
import Derived.RangeFuncBox
import Derived.RangeFuncLeaves
import Derived.RangeFuncNested
import Derived.RangeFuncBound
import Derived.RangeFuncCalls
import Derived.Shelf.Abstract
import Derived.Shelf.RegionOpen
import Derived.WalkKit
import Derived.OwnWalkIn
import Derived.TacticsInMore
import Derived.LoopNIn
import Derived.LoopIn
import Derived.Test.YtbngojdlgfhacaaGreatDoorPf4
import Derived.Test.YtbngojdlgfhacaaGreatDoorPf5
import Derived.Test.YtbngojdlgfhacaaGreatDoorPf6
import Derived.Test.YtbngojdlgfhacaaGreatDoorPfG
import Derived.Test.YtbngojdlgfhacaaGreatDoorPfH
set_option maxRecDepth 100000
set_option maxHeartbeats 8000000
set_option linter.unusedSimpArgs false
set_option linter.unusedVariables false
set_option linter.unusedSectionVars false
namespace Go.Proofs.YtbngojdlgfhacaaGreatDoor.Abs
theorem all_cons{P:Program}{n:Nat}{d:FT}{l:List (Nat×FT)}(h:d.is P n)(hl:∀ p∈l,p.2.is P p.1):∀ p∈(n,d)::l,p.2.is P p.1:=by
 intro p hp;rcases e79.1 hp with rfl|hp
 ·exact h
 ·exact hl p hp
theorem all_nil{P:Program}:∀ p∈([]:List (Nat×FT)),p.2.is P p.1:=λ_ h=>by cases h
theorem d0q:∀ p∈tab,p.2.is Tryz.prog p.1:=
 all_cons h3<|all_cons h4<|all_cons h5<|all_cons h6<|all_cons h7<|all_cons h8<|all_cons h9<|all_cons Va<|all_cons h11<|all_cons S4<|all_cons h13<|all_cons h14<|all_cons h15<|all_cons T6<|all_cons h17<|all_cons h18<|all_cons h19<|all_cons h20<|all_cons h21<|all_cons h22<|all_cons h23<|all_cons h24<|all_cons h25<|all_cons h26<|all_cons h27<|all_cons h28<|all_cons h29<|all_cons Xv<|all_cons h31<|all_cons S3<|all_cons h33<|all_cons h34<|all_cons h35<|all_cons h36<|all_cons h37<|all_cons h38<|all_cons h39<|all_cons h40<|all_cons h41<|all_cons h42<|all_cons h43<|all_cons h44<|all_cons h45<|all_cons h46<|all_cons h47<|all_cons h48<|all_cons h49<|all_cons h50<|all_cons h51<|all_cons h57<|all_cons h58<|all_cons h59<|all_cons h60<|all_cons h61<|all_cons h62<|all_cons h63<|all_cons h64<|all_cons h65<|all_cons h66<|all_cons h67<|all_cons h68<|all_cons h69<|all_cons h70<|all_cons h72<|all_cons h73<|all_cons h74<|all_cons h75<|all_cons h76<|all_cons h77<|all_cons h78<|all_cons h79<|all_cons h80<|all_cons h81<|all_cons h82<|all_cons h83<|all_cons h84<|all_cons h85<|all_cons h86<|all_cons h87<|all_cons h88<|all_cons h89<|all_cons h90<|all_cons h91<|all_cons h92<|all_cons h93<|all_cons h94<|all_cons h95<|all_cons h96<|all_cons h97<|all_cons dx4<|all_cons dx3<|all_cons dx2<|all_cons dx1<|all_cons dx0<|all_cons dw9<|all_cons dw8<|all_cons dw7<|all_cons dw6<|all_cons dw5<|all_cons dw4<|all_cons dw3<|all_cons dw2<|all_cons dw1<|all_cons dw0<|all_cons dv9<|all_cons dv8<|all_cons dv7<|all_cons dv6<|all_cons dv5<|all_cons dv4<|all_cons dv3<|all_cons dv2<|all_cons dv1<|all_cons dv0<|all_cons du9<|all_cons du8<|all_cons du7<|all_cons du6<|all_cons du5<|all_cons du4<|all_cons du3<|all_cons du2<|all_cons du1<|all_cons du0<|all_cons dt9<|all_cons dt8<|all_cons dt7<|all_cons dt6<|all_cons dt5<|all_cons dt4<|all_cons dt3<|all_cons dt2<|all_cons dt1<|all_cons dt0<|all_cons ds9<|all_cons ds8<|all_cons ds7<|all_cons ds6<|all_cons ds5<|all_cons ds4<|all_cons ds3<|all_cons ds2<|all_cons ds1<|all_cons ds0<|all_cons dr9<|all_cons dr8<|all_cons dr6<|all_cons dr5<|all_cons dr4<|all_cons dr3<|all_cons dr2<|all_cons dr1<|all_cons dq9<|all_cons dq8<|all_cons dq7<|all_cons dq6<|all_cons dq5<|all_cons dq4<|all_cons dq3<|all_cons dq2<|all_cons dq0<|all_cons dp9<|all_cons dp8<|all_cons dp7<|all_cons dp6<|all_cons dp5<|all_cons dp4<|all_cons dp2<|all_cons dp1<|all_cons dp0<|all_nil
end Go.Proofs.YtbngojdlgfhacaaGreatDoor.Abs
section
namespace Go.Proofs
open Go.RowKit Go.Shelf
attribute [local go_sem] Oper.semAt_some
def Tryz.down{α:Type}(f:Nat->α)(len k:Nat):List α:=(List.range k).map λj=>f (len-1-j)
theorem Tryz.down_succ{α:Type}(f:Nat->α)(len k:Nat):Tryz.down f len (k+1)=Tryz.down f len k++[f (len-1-k)]:=by simp[Tryz.down,List.range_succ]
theorem Tryz.down_length{α:Type}(f:Nat->α)(len k:Nat):(Tryz.down f len k).length=k:=by simp[Tryz.down]
abbrev Tryz.PutV:=Int×ByteArray
def Tryz.encPut(x:Nat×Tryz.PutV):Array Value:= #[.int .i64 (x.1:Int),.agg #[.int .i64 x.2.1,.string x.2.2]]
theorem Tryz.back1_in(F:Fence)(n:Nat)(h8:F.fn 194)(hro:F.round=none)(hn:1<=n)(l Bs n₀ b off len cap:Nat)(zs:List Tryz.PutV)(hreach:len*24<=140737488351232)(hb:b<n₀)(J Jx:List (Nat×Tryz.PutV)->World->Prop)
 (hY:∀ pre x W,J pre W->pre.length<len->YieldAt F (n-1) Tryz.prog l (Tryz.encPut x) W λe W' => (e=.returned (.bool true)/\J (pre++[x]) W'/\Below n₀ W W')\/(e=.returned (.bool false)/\Jx (pre++[x]) W'))
 (W:World) (hBs:W.cell? ⟨Bs,0,none⟩=some (.slice (some ⟨b,off,none⟩) len cap)) (hBn:Bs<n₀)
 (hc:∀ j,j<len->W.cell? ⟨b,off+j*2,none⟩=some (.int .i64 (zs[j]?.getD default).1)/\W.cell? ⟨b,off+j*2+1,none⟩=some (.string (zs[j]?.getD default).2)) (h0:J [] W) :
 CallsIn F n Tryz.prog 194 #[.func (.yield l) #[] #[],.pointer (some ⟨Bs,0,none⟩)] W λe W'=>(∃ v,e=.returned v)/\
  ((∃ ys,ys=Tryz.down (λj=>(j,zs[j]?.getD default)) len len/\J ys W')\/(∃ pre,(∃ k,k<=len/\pre=Tryz.down (λj=>(j,zs[j]?.getD default)) len k)/\Jx pre W')):=by
 refine callsIn_of_wp Tryz.func194 rfl h8 ?_ hro;simp only[Tryz.f194,List.size_toArray,List.length_cons,List.length_nil,Nat.reduceAdd,Nat.reduceSub,Array.replicate_succ,Array.replicate_zero,List.push_toArray,List.append_toArray,List.nil_append,List.cons_append]
 gi_wp2
 gi_loopw [3] (λi wr=>∃ k:Nat,k<=len/\i=.int .i64 ((len:Int)-1-k)/\J (Tryz.down (λj=>(j,zs[j]?.getD default)) len k) wr/\Below n₀ W wr)
  (λi _=>(intOf i+1).toNat)
 case atStart=>exact⟨0,Nat.zero_le _,by simp,h0,Below.refl _ _⟩
 case round=>
  obtain⟨k,hk,rfl,hJs,hnx⟩:=hrel;have hBx:wr.cell? ⟨Bs,0,none⟩=some (.slice (some ⟨b,off,none⟩) len cap):=(hnx.cell (p:=⟨Bs,0,none⟩) hBn).trans hBs;by_cases hlt:k<len
  ·obtain⟨m,rfl⟩:∃ m,len=m+k+1:=⟨len-k-1,by omega⟩;have hm:((m+k+1:Nat):Int)-1-k=(m:Int):=(by omega);rw[hm]at *;have hc1:=(hnx.cell (p:=⟨b,off+m*2,none⟩) hb).trans (hc m (by omega)).1;have hc2:=(hnx.cell (p:=⟨b,off+m*2+1,none⟩) hb).trans (hc m (by omega)).2;obtain⟨fn,tmps,assign,body,hy,hR⟩:=hY _ (m,zs[m]?.getD default) wr hJs (by rw[Tryz.down_length];omega);dsimp only[Tryz.encPut]at hy
   gi_wp2
   have hdn:Tryz.down (λj=>(j,zs[j]?.getD default)) (m+k+1) (k+1)=Tryz.down (λj=>(j,zs[j]?.getD default)) (m+k+1) k++[(m,zs[m]?.getD default)]:=by
    rw[Tryz.down_succ,show m+k+1-1-k=m by omega]
   refine hR.mono ?_;rintro e W3 (⟨rfl,hJ3,hk3⟩|⟨rfl,hJx3⟩)
   ·gi_wp2
    go_roundw
    case rel=>exact⟨.int .i64 ((m:Int)-1),_,_,_,_,_,_,_,_,_,_,_,_,⟨k+1,by omega,congrArg (Value.int .i64) (by omega),by rw[hdn];exact hJ3,hnx.trans hk3⟩,by rw[show((m+k+1:Nat):Int)-1=(m:Int)+k by omega];rfl⟩
    case measure=>first|(simp[intOf];done)|(simp[intOf];omega)
   ·gi_wp2
    refine bodyPost_ret (results_none rfl _ _ _) rfl ?_;exact⟨⟨_,rfl⟩,.inr ⟨_,⟨k+1,by omega,hdn.symm⟩,hJx3⟩⟩
  ·obtain rfl:k=len:=by omega
   gi_wp2
   go_end0
   exact⟨⟨_,rfl⟩,.inl ⟨_,rfl,hJs⟩⟩
end Go.Proofs
end
section
namespace Go.Proofs
open Go.RowKit Go.Shelf
attribute [local go_sem] Oper.semAt_some
theorem Tryz.back0_in(F:Fence)(n:Nat)(h8:F.fn 194)(hro:F.round=none)(l Bs cap:Nat)(a:Option Addr)(J:List (Nat×Tryz.PutV)->World->Prop)
 (W:World) (hBs:W.cell? ⟨Bs,0,none⟩=some (.slice a 0 cap)) (h0:J [] W) :
 CallsIn F n Tryz.prog 194 #[.func (.yield l) #[] #[],.pointer (some ⟨Bs,0,none⟩)] W λe W'=>(∃ v,e=.returned v)/\J [] W':=by
 refine callsIn_of_wp Tryz.func194 rfl h8 ?_ hro;simp only[Tryz.f194,List.size_toArray,List.length_cons,List.length_nil,Nat.reduceAdd,Nat.reduceSub,Array.replicate_succ,Array.replicate_zero,List.push_toArray,List.append_toArray,List.nil_append,List.cons_append]
 gi_wp2
 gi_loopw [3] (λi wr=>i=.int .i64 (-1)/\J [] wr) (λ_ _=>0)
 case atStart=>exact⟨rfl,h0⟩
 case round=>
  obtain⟨rfl,hJs⟩:=hrel
  gi_wp2
  go_end0
  exact⟨⟨_,rfl⟩,hJs⟩
def Tryz.Puts(n₀:Nat)(W:World)(sv:Value)(zs:List Tryz.PutV):Prop:=
 (∃ a cap,sv=.slice a 0 cap/\zs=[])\/∃ b off cap,sv=.slice (some ⟨b,off,none⟩) zs.length cap/\b<n₀/\∀ j,j<zs.length->W.cell? ⟨b,off+j*2,none⟩=some (.int .i64 (zs[j]?.getD default).1)/\W.cell? ⟨b,off+j*2+1,none⟩=some (.string (zs[j]?.getD default).2)
theorem Tryz.Puts.below{n₀:Nat}{A B:World}(h:Below n₀ A B){sv:Value}{zs:List Tryz.PutV}:Tryz.Puts n₀ A sv zs->Tryz.Puts n₀ B sv zs
 |.inl e=>.inl e
 |.inr ⟨b,off,cap,e,hb,hc⟩=>.inr ⟨b,off,cap,e,hb,λj hj=>⟨(h.cell (p:=⟨b,off+j*2,none⟩) hb).trans (hc j hj).1,(h.cell (p:=⟨b,off+j*2+1,none⟩) hb).trans (hc j hj).2⟩⟩
theorem Tryz.back_stops(F:Fence)(n:Nat)(h8:F.fn 194)(hro:F.round=none)(hn:1<=n)(Bs n₀:Nat)(sv:Value)(zs:List Tryz.PutV)(hreach:zs.length*24<=140737488351232)(w:World)(hBs:Bs<n₀)(hn₀:n₀<=w.heap.size)
 (hc:w.cell? ⟨Bs,0,none⟩=some sv) (hI:Tryz.Puts n₀ w sv zs) :
 SeqStopsK F n Tryz.prog 194 #[.pointer (some ⟨Bs,0,none⟩)] Tryz.encPut (Below n₀) (λys=>ys=Tryz.down (λj=>(j,zs[j]?.getD default)) zs.length zs.length)
  (λpre=>∃ k,k<=zs.length/\pre=Tryz.down (λj=>(j,zs[j]?.getD default)) zs.length k) zs.length w:=λl J Jx W hW _ _ hY h0=>by
 have hc':=(hW.cell (p:=⟨Bs,0,none⟩) (Nat.lt_of_lt_of_le hBs hn₀)).trans hc;rcases hI.below (hW.mono hn₀)with ⟨a,cap,rfl,rfl⟩|⟨b,off,cap,rfl,hb,hcs⟩
 ·exact(Tryz.back0_in F n h8 hro l Bs cap a J W hc' h0).mono λe W' ⟨he,hj⟩=>⟨he,.inl ⟨_,rfl,hj⟩⟩
 ·exact Tryz.back1_in F n h8 hro hn l Bs n₀ b off zs.length cap zs hreach hb J Jx hY W hc' hBs hcs h0
theorem Tryz.back_in(F:Fence)(n:Nat)(h6:F.fn 169)(hro:F.round=none)(a:Option Addr)(len cap:Nat)(w:World) :
 CallsIn F n Tryz.prog 169 #[.slice a len cap] w λe w'=>e=.returned (.func (.func 194) #[] #[.pointer (some ⟨w.heap.size,0,none⟩)])/\w'=w.alloc (.cells #[.slice a len cap] 24):=by
 refine callsIn_of_wp Tryz.func169 rfl h6 ?_ hro;simp only[Tryz.f169,List.size_toArray,List.length_cons,List.length_nil,Nat.reduceAdd,Nat.reduceSub,Array.replicate_succ,Array.replicate_zero,List.push_toArray,List.append_toArray,List.nil_append,List.cons_append]
 gi_wp2
 go_ret
 exact⟨rfl,rfl⟩
end Go.Proofs
end
section
namespace Go.Proofs
open Go.RowKit Go.Shelf
attribute [local go_sem] Oper.semAt_some
theorem Tryz.has_in(F:Fence)(n:Nat)(h6:F.fn 74)(hro:F.round=none)(a wl:Option Addr)(len cap wn wc:Nat)(lies arm i:Int)(down:Bool)(w:World) :
 CallsIn F n Tryz.prog 74 #[.agg #[.slice a len cap,.slice wl wn wc,.int .i64 lies,.int .i64 arm,.bool down],.int .i64 i] w λe w'=>e=.returned (.bool (decide (0<=i)&&decide (i<len)))/\w'=w.alloc (.cells #[.slice a len cap,.slice wl wn wc,.int .i64 lies,.int .i64 arm,.bool down] 26):=by
 refine callsIn_of_wp Tryz.func74 rfl h6 ?_ hro;simp only[Tryz.f74,List.size_toArray,List.length_cons,List.length_nil,Nat.reduceAdd,Nat.reduceSub,Array.replicate_succ,Array.replicate_zero,List.push_toArray,List.append_toArray,List.nil_append,List.cons_append]
 gi_wp2
 all_goals
  go_ret
  refine⟨?_,rfl⟩
  first
  |(have h1:i<0:=by assumption
    rw[decide_eq_false (by omega)];rfl)
  |(have h1:0<=i:=by assumption
    rw[decide_eq_true h1];rfl)
theorem Tryz.read_in(F:Fence)(n:Nat)(hr:F.fn 132)(hh:F.fn 74)(hb:F.fn 169)(hb1:F.fn 194)(hro:F.round=none)(hn:3<=n)(a wl:Option Addr)(len cap wn wc:Nat)(lies arm i:Int)(zs:List Tryz.PutV)(hreach:zs.length*24<=140737488351232)(w:World)(hI:Tryz.Puts w.heap.size w (.slice wl wn wc) zs)
 (s:ByteArray) (hs:0<=i->i<len->∃ b o,a=some ⟨b,o,none⟩/\b<w.heap.size/\w.cell? ⟨b,o+i.toNat,none⟩=some (.string s)) :
 CallsIn F n Tryz.prog 132 #[.agg #[.slice a len cap,.slice wl wn wc,.int .i64 lies,.int .i64 arm,.bool false],.int .i64 i] w λe w'=>(∃ t ok,e=.returned (.tuple #[.string t,.bool ok])/\((¬ (0<=i/\i<len)/\t=⟨#[]⟩/\ok=false)\/((0<=i/\i<len)/\ok=true/\(((∀ j,j<zs.length->(zs[j]?.getD default).1≠i)/\t=s)\/∃ k,k<zs.length/\(zs[zs.length-1-k]?.getD default).1=i/\t=(zs[zs.length-1-k]?.getD default).2/\∀ j,j<k->(zs[zs.length-1-j]?.getD default).1≠i))))/\Below w.heap.size w w':=by
 have h1:1<=n:=by omega
 refine callsIn_of_wp_marks Tryz.func132 rfl hr ?_ hro;simp only[Tryz.f132,List.size_toArray,List.length_cons,List.length_nil,Nat.reduceAdd,Nat.reduceSub,Array.replicate_succ,Array.replicate_zero,List.push_toArray,List.append_toArray,List.nil_append,List.cons_append]
 gi_wp2_with (first|(gi_at_call 74;refine(Tryz.has_in F (n-1) hh hro _ _ _ _ _ _ _ _ _ _ _).mono ?_;rintro e w' ⟨rfl,rfl⟩)|(gi_at_call 169;refine(Tryz.back_in F (n-1) hb hro _ _ _ _).mono ?_;rintro e w' ⟨rfl,rfl⟩))
 ·have hno:¬ (0<=i/\i<(len:Int)):=by
   have h:(!decide (0<=i))=true\/(!decide (i<(len:Int)))=true:=(by assumption);intro hc;rcases h with h|h
   ·simp at h;omega
   ·simp at h;omega
  have bS:=((Boxed.new ((w.alloc (.cells #[.slice a len cap,.slice wl wn wc,.int .i64 lies,.int .i64 arm,.bool false] 26)).alloc (.cells #[.int .i64 i] 3)) 9 (.string ⟨#[]⟩)).alloc (.cells #[.bool false] 4)).alloc (.cells #[.slice a len cap,.slice wl wn wc,.int .i64 lies,.int .i64 arm,.bool false] 26);have bB:=(Boxed.new (((w.alloc (.cells #[.slice a len cap,.slice wl wn wc,.int .i64 lies,.int .i64 arm,.bool false] 26)).alloc (.cells #[.int .i64 i] 3)).alloc (.cells #[.string ⟨#[]⟩] 9)) 4 (.bool false)).alloc (.cells #[.slice a len cap,.slice wl wn wc,.int .i64 lies,.int .i64 arm,.bool false] 26);simp only[World.size_alloc]at bS bB;have c4:=bS.cell;have c5:=bB.cell;refine⟨.tuple #[.string ⟨#[]⟩,.bool false],?_,⟨_,_,rfl,.inl ⟨hno,rfl,rfl⟩⟩,(((((Below.refl _ w).alloc (Nat.le_refl _) _).alloc (by simp) _).alloc (by simp;omega) _).alloc (by simp;omega) _).alloc (by simp;omega) _⟩;simp[results,Tryz.f132,go_sem,c4,c5]
 ·have hsz:((((((w.alloc (.cells #[.slice a len cap,.slice wl wn wc,.int .i64 lies,.int .i64 arm,.bool false] 26)).alloc (.cells #[.int .i64 i] 3)).alloc (.cells #[.string ⟨#[]⟩] 9)).alloc (.cells #[.bool false] 4)).alloc (.cells #[.slice a len cap,.slice wl wn wc,.int .i64 lies,.int .i64 arm,.bool false] 26)).alloc (.cells #[.slice wl wn wc] 24)).heap.size=w.heap.size+6:=by simp
  have hB0:Below w.heap.size w ((((((w.alloc (.cells #[.slice a len cap,.slice wl wn wc,.int .i64 lies,.int .i64 arm,.bool false] 26)).alloc (.cells #[.int .i64 i] 3)).alloc (.cells #[.string ⟨#[]⟩] 9)).alloc (.cells #[.bool false] 4)).alloc (.cells #[.slice a len cap,.slice wl wn wc,.int .i64 lies,.int .i64 arm,.bool false] 26)).alloc (.cells #[.slice wl wn wc] 24)):=((((((Below.refl _ w).alloc (Nat.le_refl _) _).alloc (by simp) _).alloc (by simp;omega) _).alloc (by simp;omega) _).alloc (by simp;omega) _).alloc (by simp;omega) _;have bD:=World.alloc_heap_new w (.cells #[.slice a len cap,.slice wl wn wc,.int .i64 lies,.int .i64 arm,.bool false] 26);have bN:=Boxed.new (((((w.alloc (.cells #[.slice a len cap,.slice wl wn wc,.int .i64 lies,.int .i64 arm,.bool false] 26)).alloc (.cells #[.int .i64 i] 3)).alloc (.cells #[.string ⟨#[]⟩] 9)).alloc (.cells #[.bool false] 4)).alloc (.cells #[.slice a len cap,.slice wl wn wc,.int .i64 lies,.int .i64 arm,.bool false] 26)) 24 (.slice wl wn wc);have bI:=((((Boxed.new (w.alloc (.cells #[.slice a len cap,.slice wl wn wc,.int .i64 lies,.int .i64 arm,.bool false] 26)) 3 (.int .i64 i)).alloc (.cells #[.string ⟨#[]⟩] 9)).alloc (.cells #[.bool false] 4)).alloc (.cells #[.slice a len cap,.slice wl wn wc,.int .i64 lies,.int .i64 arm,.bool false] 26)).alloc (.cells #[.slice wl wn wc] 24);have bS:=(((Boxed.new ((w.alloc (.cells #[.slice a len cap,.slice wl wn wc,.int .i64 lies,.int .i64 arm,.bool false] 26)).alloc (.cells #[.int .i64 i] 3)) 9 (.string ⟨#[]⟩)).alloc (.cells #[.bool false] 4)).alloc (.cells #[.slice a len cap,.slice wl wn wc,.int .i64 lies,.int .i64 arm,.bool false] 26)).alloc (.cells #[.slice wl wn wc] 24);have bB:=((Boxed.new (((w.alloc (.cells #[.slice a len cap,.slice wl wn wc,.int .i64 lies,.int .i64 arm,.bool false] 26)).alloc (.cells #[.int .i64 i] 3)).alloc (.cells #[.string ⟨#[]⟩] 9)) 4 (.bool false)).alloc (.cells #[.slice a len cap,.slice wl wn wc,.int .i64 lies,.int .i64 arm,.bool false] 26)).alloc (.cells #[.slice wl wn wc] 24);simp only[World.size_alloc]at bN bI bS bB;obtain⟨W0,hW0⟩:∃ W0,((((((w.alloc (.cells #[.slice a len cap,.slice wl wn wc,.int .i64 lies,.int .i64 arm,.bool false] 26)).alloc (.cells #[.int .i64 i] 3)).alloc (.cells #[.string ⟨#[]⟩] 9)).alloc (.cells #[.bool false] 4)).alloc (.cells #[.slice a len cap,.slice wl wn wc,.int .i64 lies,.int .i64 arm,.bool false] 26)).alloc (.cells #[.slice wl wn wc] 24))=W0:=⟨_,rfl⟩;rw[hW0]at hsz hB0 bN bI bS bB ⊢;have bD1:W0.heap[w.heap.size]?=some (.cells #[.slice a len cap,.slice wl wn wc,.int .i64 lies,.int .i64 arm,.bool false] 26 (0,0)):=by
   rw[<-hW0]
   exact((((((Below.refl (w.heap.size+1) (w.alloc (.cells #[.slice a len cap,.slice wl wn wc,.int .i64 lies,.int .i64 arm,.bool false] 26))).alloc (by simp) _).alloc (by simp) _).alloc (by simp) _).alloc (by simp) _).alloc (by simp) _).block w.heap.size (by omega) |>.trans (World.alloc_heap_new w _)
  clear hW0;have hI0:Tryz.Puts W0.heap.size W0 (.slice wl wn wc) zs:=by
   rcases hI.below hB0 with h|⟨b,off,cap,e,hb,hc⟩
   ·exact .inl h
   ·exact .inr ⟨b,off,cap,e,by omega,hc⟩
  refine wpIn_rangeFunc_ownH hro h1 (gf:=194) (lb:= #[.pointer (some ⟨w.heap.size+1+1+1+1+1,0,none⟩)]) rfl hb1 (enters_of Tryz.func194 (by kernel_rfl) rfl)
   (Tryz.back_stops F (n-1) hb1 hro (by omega) (w.heap.size+1+1+1+1+1) W0.heap.size (.slice wl wn wc) zs hreach W0 (by omega) (Nat.le_refl _) bN.cell hI0) belowK_t (belowK_b (Nat.le_refl _)) (Below.refl _ _) (λ_=>rfl)
   (λpre W=>(∀ p∈pre,p.2.1≠i)/\Below W0.heap.size W0 W)
   (λc pre W=>(c=.ret/\∃ ini last,pre=ini++[last]/\(∀ p∈ini,p.2.1≠i)/\last.2.1=i/\Boxed W (w.heap.size+1+1) 9 (.string last.2.2)/\Boxed W (w.heap.size+1+1+1) 4 (.bool true))/\Below w.heap.size w W)
   (OwnFrom.and (Own.from (λs A B row hs hg hr=>hs) _) (ownFrom_below (Nat.le_refl _) (Nat.le_refl _)))
   (λc=>OwnFrom.and (Own.from (λs A B row hs hg hr=>by obtain⟨hc,ini,last,e1,e2,e3,e4,e5⟩:=hs;exact⟨hc,ini,last,e1,e2,e3,boxed_own _ 9 (λ(_:Unit)=>Value.string last.2.2) () A B row e4 hg hr,boxed_own _ 4 (λ(_:Unit)=>Value.bool true) () A B row e5 hg hr⟩) _) (ownFrom_below (by omega) (by omega)))
   ⟨by simp,Below.refl _ _⟩
   (λx a' W=>∃ Bx,W.heap[Bx]?=some (.cells #[.int .i64 x.2.1,.string x.2.2] 69 (0,0))/\a'={ tmps:= #[.agg #[.slice a len cap,.slice wl wn wc,.int .i64 lies,.int .i64 arm,.bool false],.int .i64 i,.pointer (some ⟨w.heap.size,0,none⟩),.pointer (some ⟨w.heap.size+1,0,none⟩),.pointer (some ⟨w.heap.size+1+1,0,none⟩),.pointer (some ⟨w.heap.size+1+1+1,0,none⟩),undef,.pointer (some ⟨Bx,0,none⟩),.pointer (some ⟨w.heap.size,4,none⟩),.bool false,.bool false,.agg #[.slice a len cap,.slice wl wn wc,.int .i64 lies,.int .i64 arm,.bool false],.int .i64 i,.bool (decide (0<=i)&&decide (i<len)),.bool false,.bool false,.pointer (some ⟨w.heap.size,1,none⟩),.slice wl wn wc,.func (.func 194) #[] #[.pointer (some ⟨w.heap.size+1+1+1+1+1,0,none⟩)],.int .i64 (x.1:Int),.agg #[.int .i64 x.2.1,.string x.2.2],undef,undef,undef,undef,undef,undef,undef,undef,undef,undef,undef],defers:=[] })
   ?hax ?assign ?body ?done ?stop
  case hax=>
   intro x a' s' X Y row hs' hg hr';obtain⟨Bx,e1,e2⟩:=hs';refine⟨Bx,(hg.block Bx (Array.getElem?_eq_some_iff.1 e1).1 (λe=>?_)).trans e1,e2⟩;obtain⟨_,o,ho,hc⟩:=hr' Bx e.symm;rw[e1]at ho;cases ho;cases hc
  case assign=>
   rintro l pre x W K ⟨hp,hB⟩ hK;dsimp only[Tryz.encPut]
   gi_wp2
   exact hK _ _ ((KeepsOthers.alloc _ _).from _) ((Below.refl _ W).alloc hB.size _) ⟨hp,hB.alloc hB.size _⟩ ⟨W.heap.size,World.alloc_heap_new _ _,rfl⟩
  case body=>
   rintro l pre x a' W hl ⟨r,hr'⟩ ⟨hp,hB⟩ ⟨Bx,hx,rfl⟩ hlt;have bI':Boxed W (w.heap.size+1) 3 (.int .i64 i):=(hB.block _ (by omega)).trans bI;have bS':Boxed W (w.heap.size+1+1) 9 (.string ⟨#[]⟩):=(hB.block _ (by omega)).trans bS;have bB':Boxed W (w.heap.size+1+1+1) 4 (.bool false):=(hB.block _ (by omega)).trans bB;have cI:=bI'.cell;have cS:=bS'.cell;have cB:=bB'.cell;have fS:=bS'.frozen;have fB:=bB'.frozen;have c1:W.cell? ⟨Bx,0,none⟩=some (.int .i64 x.2.1):=(by simp only[World.cell?,hx];rfl);have c2:W.cell? ⟨Bx,1,none⟩=some (.string x.2.2):=(by simp only[World.cell?,hx];rfl);have hBw:Below w.heap.size w W:=hB0.trans (hB.mono (by omega))
   gi_wp2
   ·have hxi:x.2.1=i:=by
     have h:(x.2.1==i)=true:=(by assumption);simpa using h
    exact⟨((KeepsOthers.setCell _ _ _).trans (KeepsOthers.setCell _ _ _)).from _,⟨rfl,pre,x,rfl,hp,hxi,(bS'.set _).other (by omega) _,(bB'.other (by omega) _).set _⟩,(hBw.setCell (p:=⟨w.heap.size+1+1,0,none⟩) (by show w.heap.size<=w.heap.size+1+1;omega) _).setCell (p:=⟨w.heap.size+1+1+1,0,none⟩) (by show w.heap.size<=w.heap.size+1+1+1;omega) _⟩
   ·have hxi:¬ x.2.1=i:=by
     have h:(x.2.1==i)=false:=(by assumption);simpa using h
    exact⟨KeepsFrom.refl _ _,Below.refl _ _,λp hp'=>(List.mem_append.1 hp').elim (hp p) (λe=>by simp at e;subst e;exact hxi),hB⟩
  case done=>
   rintro D ys W hD rfl ⟨hne,hB⟩ hK;have hin:0<=i/\i<(len:Int):=by
    have h:(!decide (0<=i))=false/\(!decide (i<(len:Int)))=false:=(by assumption);simpa using h
   obtain⟨b,o,rfl,hbl,hcs⟩:=hs hin.1 hin.2;have hBw:Below w.heap.size w W:=hB0.trans (hB.mono (by omega));have bI':Boxed W (w.heap.size+1) 3 (.int .i64 i):=(hB.block _ (by omega)).trans bI;have bS':Boxed W (w.heap.size+1+1) 9 (.string ⟨#[]⟩):=(hB.block _ (by omega)).trans bS;have bB':Boxed W (w.heap.size+1+1+1) 4 (.bool false):=(hB.block _ (by omega)).trans bB;have bD':W.heap[w.heap.size]?=some (.cells #[.slice (some ⟨b,o,none⟩) len cap,.slice wl wn wc,.int .i64 lies,.int .i64 arm,.bool false] 26 (0,0)):=(hB.block _ (by omega)).trans bD1;have cD:W.cell? ⟨w.heap.size,0,none⟩=some (.slice (some ⟨b,o,none⟩) len cap):=(by simp only[World.cell?,bD'];rfl);have cI:=bI'.cell;have cS:=bS'.cell;have cB:=bB'.cell;have fS:=bS'.frozen;have fB:=bB'.frozen;have hcW:=(hBw.cell (p:=⟨b,o+i.toNat,none⟩) hbl).trans hcs;obtain⟨m,rfl⟩:∃ m:Nat,i=(m:Int):=⟨i.toNat,by omega⟩;rw[Int.toNat_natCast]at hcW
   gi_wp2
   have hK1:=(KeepsOthers.setCell W ⟨w.heap.size+1+1,0,none⟩ (.string s)).same D _ hK rfl;have hK2:=(KeepsOthers.setCell _ ⟨w.heap.size+1+1+1,0,none⟩ (.bool true)).same D _ hK1 rfl;refine⟨by simp,.inl ⟨_,_,rfl,run_takeDeferred hK2,?_⟩⟩;have bS2:=(bS'.set (.string s)).other (B':=w.heap.size+1+1+1) (by omega) (.bool true);have bB2:=(bB'.other (B':=w.heap.size+1+1) (by omega) (.string s)).set (.bool true);have h4:=cell_kept bS2.cell (grownBy_putObj' _ D (.deferred none)) (λr e=>by cases e;exact⟨_,hK2,rfl⟩);have h5:=cell_kept bB2.cell (grownBy_putObj' _ D (.deferred none)) (λr e=>by cases e;exact⟨_,hK2,rfl⟩);have hB2:Below w.heap.size w ((W.setCell ⟨w.heap.size+1+1,0,none⟩ (.string s)).setCell ⟨w.heap.size+1+1+1,0,none⟩ (.bool true)):=(hBw.setCell (p:=⟨w.heap.size+1+1,0,none⟩) (by show w.heap.size<=w.heap.size+1+1;omega) _).setCell (p:=⟨w.heap.size+1+1+1,0,none⟩) (by show w.heap.size<=w.heap.size+1+1+1;omega) _;refine⟨.tuple #[.string s,.bool true],?_,⟨_,_,rfl,.inr ⟨hin,rfl,.inl ⟨λj hj=>?_,rfl⟩⟩⟩,hB2.trans (belowK_b (w:=w) (Nat.le_refl _) _ D _ _ (by omega) hK2 rfl rfl)⟩
   ·simp[results,Tryz.f132,go_sem,h4,h5]
   ·have hx:=hne (j,zs[j]?.getD default) (by
     simp only[Tryz.down,List.mem_map,List.mem_range];exact⟨zs.length-1-j,by omega,by rw[show zs.length-1-(zs.length-1-j)=j by omega]⟩)
    exact hx
  case stop=>
   rintro D c pre W hD ⟨k,hk,rfl⟩ ⟨⟨rfl,ini,last,e1,e2,e3,bS2,bB2⟩,hBw⟩ hK
   gi_wp2
   refine⟨by simp,.inl ⟨_,_,rfl,run_takeDeferred hK,?_⟩⟩;have h4:=cell_kept bS2.cell (grownBy_putObj' _ D (.deferred none)) (λr e=>by cases e;exact⟨_,hK,rfl⟩);have h5:=cell_kept bB2.cell (grownBy_putObj' _ D (.deferred none)) (λr e=>by cases e;exact⟨_,hK,rfl⟩);obtain⟨k',rfl⟩:∃ k',k=k'+1:=by
    cases k with
    |zero=>simp[Tryz.down]at e1
    |succ k'=>exact⟨k',rfl⟩
   rw[Tryz.down_succ]at e1;obtain⟨rfl,e5⟩:=List.append_inj' e1 rfl;obtain rfl:(zs.length-1-k',zs[zs.length-1-k']?.getD default)=last:=(by simpa using e5);refine⟨.tuple #[.string (zs[zs.length-1-k']?.getD default).2,.bool true],?_,⟨_,_,rfl,.inr ⟨?_,rfl,.inr ⟨k',by omega,e3,rfl,λj hj=>e2 (zs.length-1-j,zs[zs.length-1-j]?.getD default) (by simp only[Tryz.down,List.mem_map,List.mem_range];exact⟨j,hj,rfl⟩)⟩⟩⟩,hBw.trans (belowK_b (w:=w) (Nat.le_refl _) W D _ _ (by omega) hK rfl rfl)⟩
   ·simp[results,Tryz.f132,go_sem,h4,h5]
   ·have h:(!decide (0<=i))=false/\(!decide (i<(len:Int)))=false:=(by assumption);simpa using h
end Go.Proofs
end
section
namespace Go.Proofs
open Go.RowKit Go.Shelf
attribute [local go_sem] Oper.semAt_some
theorem Tryz.read_down_in(F:Fence)(n:Nat)(hr:F.fn 132)(hh:F.fn 74)(hro:F.round=none)(a wl:Option Addr)(len cap wn wc:Nat)(lies arm i:Int)(w:World) :
 CallsIn F n Tryz.prog 132 #[.agg #[.slice a len cap,.slice wl wn wc,.int .i64 lies,.int .i64 arm,.bool true],.int .i64 i] w λe w'=>e=.returned (.tuple #[.string ⟨#[]⟩,.bool false])/\Below w.heap.size w w':=by
 refine callsIn_of_wp_marks Tryz.func132 rfl hr ?_ hro;simp only[Tryz.f132,List.size_toArray,List.length_cons,List.length_nil,Nat.reduceAdd,Nat.reduceSub,Array.replicate_succ,Array.replicate_zero,List.push_toArray,List.append_toArray,List.nil_append,List.cons_append]
 gi_wp2
 have bS:=(Boxed.new ((w.alloc (.cells #[.slice a len cap,.slice wl wn wc,.int .i64 lies,.int .i64 arm,.bool true] 26)).alloc (.cells #[.int .i64 i] 3)) 9 (.string ⟨#[]⟩)).alloc (.cells #[.bool false] 4);have bB:=(Boxed.new (((w.alloc (.cells #[.slice a len cap,.slice wl wn wc,.int .i64 lies,.int .i64 arm,.bool true] 26)).alloc (.cells #[.int .i64 i] 3)).alloc (.cells #[.string ⟨#[]⟩] 9)) 4 (.bool false));simp only[World.size_alloc]at bS bB;have c4:=bS.cell;have c5:=bB.cell;refine⟨.tuple #[.string ⟨#[]⟩,.bool false],?_,rfl,((((Below.refl _ w).alloc (Nat.le_refl _) _).alloc (by simp) _).alloc (by simp;omega) _).alloc (by simp;omega) _⟩;simp[results,Tryz.f132,go_sem,c4,c5]
end Go.Proofs
end
namespace Go.Proofs.YtbngojdlgfhacaaGreatDoor.Abs
section
open Go Go.Proofs Go.RowKit
theorem bw3(i:Int)(s:Bytes):∀ (w:List (Int×Bytes)),(∀ p∈w,p.1≠i)->Qk w i s=s:=by
 intro w
 induction w generalizing s with
 |nil=>intro _;rfl
 |cons p w ih=>
   intro h;show List.foldl _ (if p.1=i then p.2 else s) w=s;rw[if_neg (h p (by simp))];exact ih s λq hq=>h q (by simp[hq])
theorem d78(a b:List (Int×Bytes))(i:Int)(s:Bytes):Qk (a++b) i s=Qk b i (Qk a i s):=List.foldl_append
theorem d77(w:List (Int×Bytes))(i:Int)(s:Bytes)(m:Nat)(hm:m<w.length)(h1:(w[m]?.getD default).1=i)(h2:∀ j,m<j->j<w.length->(w[j]?.getD default).1≠i):Qk w i s=(w[m]?.getD default).2:=by
 have e:w=w.take m++(w[m]::w.drop (m+1)):=by rw[<-e46 hm,e4p]
 rw[e,d78];show List.foldl _ (if w[m].1=i then w[m].2 else _) (w.drop (m+1))=_;rw[<-e];rw[e47 hm,e5u]at h1 ⊢;rw[if_pos h1];refine bw3 i _ _ λp hp=>?_;obtain⟨j,hj,rfl⟩:=e4v.1 hp;rw[e60]at hj
 have:=h2 (m+1+j) om om;rw[e47 om,e5u]at this;rw[List.getElem_drop];exact this
theorem bj8:∀ {es:List (List PV)} {l:List (Int×Bytes)},Uv es=some l->es=l.map B2
 |[],l,h=>by cases h;rfl
 |e::es,l,h=>by
   match e,h with
   |[.int .i64 n,.str s],h=>
     rw[Uv]at h;obtain⟨m',hm,rfl⟩:=e4g.1 h;rw[e75,<-bj8 hm];rfl
theorem c47{E:Env}{w:World}{H:AH}(hs:Sim E w H){x:AV}{es:List (List PV)}{v:Value}(hx:Ht x=some es)(hr:Rep E x v) :
 ∃ a cap,v=.slice a es.length cap/\(es≠[]->∃ b off sz,a=some ⟨b,off,none⟩/\b<w.heap.size/\(∀ e∈es,e.length=sz)/\∀ (i:Nat) e (k:Nat) c,es[i]?=some e->e[k]?=some c->∃ u,w.cell? ⟨b,off+(i*sz+k),none⟩=some u/\RepP E.F c u):=by
 cases x with
 |emp=>
   cases hx;obtain⟨a,rfl⟩:=Hg hr;exact⟨a,0,rfl,λh=>absurd rfl h⟩
 |fz es' =>
   cases hx;obtain⟨a,cap,rfl,hcap,hb⟩:=Oe hr;refine⟨a,cap,rfl,λh0=>?_⟩;obtain⟨b,off,sz,cells,t,q,rfl,hF,hsz,hin,hc⟩:=hb h0;have hw:=hs.frz b _ (.inl hF);refine⟨b,off,sz,rfl,Sb hw,hsz,λi e k c he hk=>?_⟩;have hi:i<es.length:=by
    apply e45;intro h;rw[e4j om]at he;cases he
   have hke:k<sz:=by
    have e1:=hsz e (e4q he);apply e45;intro h;rw[e4j om]at hk;cases hk
   have hlt:off+(i*sz+k)<cells.size:=by
    have:i*sz+sz<=es.length*sz:=by
     rw[<-Nat.succ_mul];exact e4r _ hi
    omega
   refine⟨cells[off+(i*sz+k)],?_,hc i e k c _ he hk (e44 hlt)⟩;show World.cell? w ⟨b,off+(i*sz+k),none⟩=_;simp only[World.cell?,hw];exact e44 hlt
 |_=>cases hx
theorem be5{F:Nat->Option Obj}{s:Bytes}{v:Value}(h:RepP F (.str s) v):v=.string ⟨s.toArray⟩:=by cases h;rfl
theorem d2c{F:Nat->Option Obj}{k:IntKind}{n:Int}{v:Value}(h:RepP F (.int k n) v):v=.int k n:=by cases h;rfl
theorem d0v{E:Env}{w:World}{H:AH}(hs:Sim E w H){x:AV}{es:List (List PV)}{l:List Bytes}{v:Value}(hx:Ht x=some es)(he:Ri es=some l)(hr:Rep E x v) :
 ∃ a cap,v=.slice a l.length cap/\∀ i,i<l.length->∃ b o,a=some ⟨b,o,none⟩/\b<w.heap.size/\w.cell? ⟨b,o+i,none⟩=some (.string ⟨(l.getD i default).toArray⟩):=by
 obtain rfl:=av7 he;obtain⟨a,cap,rfl,h⟩:=c47 hs hx hr;refine⟨a,cap,by rw[e6i],λi hi=>?_⟩;obtain⟨b,off,sz,rfl,hb,hsz,hc⟩:=h (by cases l with|nil=>cases hi|cons=>simp);have h1:1=sz:=hsz (B1 l[i]) (e7o.2 ⟨_,e63 hi,rfl⟩);subst h1;obtain⟨u,hu,hp⟩:=hc i (B1 l[i]) 0 (.str l[i]) (by rw[e5j,e47 hi];rfl) rfl;refine⟨b,off,rfl,hb,?_⟩;rw[be5 hp]at hu;rw[Nat.mul_one,e7l]at hu;rw[hu,e42,e47 hi,e5u]
theorem d2p{E:Env}{w:World}{H:AH}(hs:Sim E w H){x:AV}{es:List (List PV)}{l:List (Int×Bytes)}{v:Value}(hx:Ht x=some es)(he:Uv es=some l)(hr:Rep E x v) :
 ∃ a cap,v=.slice a l.length cap/\Tryz.Puts w.heap.size w v (l.map λp=>(p.1,⟨p.2.toArray⟩)):=by
 obtain rfl:=bj8 he;obtain⟨a,cap,rfl,h⟩:=c47 hs hx hr;refine⟨a,cap,by rw[e6i],?_⟩;by_cases h0:l=[]
 ·subst h0;exact .inl ⟨a,cap,rfl,rfl⟩
 ·obtain⟨b,off,sz,rfl,hb,hsz,hc⟩:=h (by simpa using h0);refine .inr ⟨b,off,cap,by simp,hb,λj hj=>?_⟩;rw[e6i]at hj;have h2:2=sz:=hsz (B2 l[j]) (e7o.2 ⟨_,e63 hj,rfl⟩);subst h2;obtain⟨u,hu,hp⟩:=hc j (B2 l[j]) 0 (.int .i64 l[j].1) (by rw[e5j,e47 hj];rfl) rfl;obtain⟨u2,hu2,hp2⟩:=hc j (B2 l[j]) 1 (.str l[j].2) (by rw[e5j,e47 hj];rfl) rfl;rw[d2c hp]at hu;rw[be5 hp2]at hu2;rw[e5j,e47 hj];exact⟨by rw[<-e7l (off+j*2),Nat.add_assoc];exact hu,by rw[Nat.add_assoc];exact hu2⟩
theorem bj4{x z:AV}{es fs:List (List PV)}{l:List Bytes}{ws:List (Int×Bytes)}(hx:Ht x=some es)(he:Ri es=some l)(hz:Ht z=some fs)(hf:Uv fs=some ws)(hn:ws.length<=1000000)(lies arm i:Int)(down:Bool)(s:Bytes)(ok:Bool)
 (h:(Gp ⟨some l,some ws,0,0,down⟩ i=some s/\ok=true)\/(Gp ⟨some l,some ws,0,0,down⟩ i=none/\s=[]/\ok=false)) :
 C Tryz.prog 132 [.agg [x,z,.int .i64 lies,.int .i64 arm,.bool down],.int .i64 i] [] (λy' G'=>y'=.tuple [.str s,.bool ok]/\G'=[]):=by
 refine a7b ⟨Tryz.f132,Tryz.func132,kk,kk⟩ (v:=.tuple #[.string ⟨s.toArray⟩,.bool ok]) ?_ λE=>.tuple _ _ rfl λk c v hc hv=>?_
 ·intro E w vs hs hr;obtain⟨v,u,rfl,h1,h2⟩:=hr.two;rw[Ec h2];obtain⟨⟨vl⟩,rfl,hlen,hcs⟩:=a01 h1
  match vl,hlen,hcs with
  |[v0,v1,v2,v3,v4],_,hcs=>
    have r0:=hcs 0 _ _ rfl rfl;have r1:=hcs 1 _ _ rfl rfl;have r2:=Ec (hcs 2 _ _ rfl rfl);have r3:=Ec (hcs 3 _ _ rfl rfl);have r4:=Q4 (hcs 4 _ _ rfl rfl);subst r2 r3 r4;obtain⟨a,cap,rfl,hl⟩:=d0v hs hx he r0;obtain⟨wl,wc,rfl,hp⟩:=d2p hs hz hf r1;have hp':Tryz.Puts w.heap.size w (.slice wl ws.length wc) (ws.map λp=>(p.1,(⟨p.2.toArray⟩:ByteArray))):=hp
    refine(callsIn_wide (n:=3)).1 ?_;cases down with
    |true=>
      have hD:Gp ⟨some l,some ws,0,0,true⟩ i=none:=(by rw[Gp,if_neg (by simp)]);obtain⟨rfl,rfl⟩:s=[]/\ok=false:=by
       rcases h with h|h
       ·rw[hD]at h;cases h.1
       ·exact h.2
      refine(Tryz.read_down_in Fence.wide 3 trivial trivial rfl a wl l.length cap ws.length wc lies arm i w).mono ?_;rintro e w' ⟨rfl,hb⟩;exact⟨rfl,hb⟩
    |false=>
      refine(Tryz.read_in Fence.wide 3 trivial trivial trivial trivial rfl (e7y _) a wl l.length cap ws.length wc lies arm i (ws.map λp=>(p.1,(⟨p.2.toArray⟩:ByteArray))) (by rw[e6i];omega) w hp' ⟨(l.getD i.toNat default).toArray⟩ (λh0 h1=>hl i.toNat om)).mono ?_;rintro e w' ⟨⟨t,ok',rfl,hc⟩,hb⟩;refine⟨?_,hb⟩;rcases hc with ⟨hno,rfl,rfl⟩|⟨hin,rfl,hc⟩
      ·have hD:Gp ⟨some l,some ws,0,0,false⟩ i=none:=(by rw[Gp,if_neg (by simp only[Az];intro hc;exact hno hc.2)]);obtain⟨rfl,rfl⟩:s=[]/\ok=false:=by
        rcases h with h|h
        ·rw[hD]at h;cases h.1
        ·exact h.2
       rfl
      ·have hD:Gp ⟨some l,some ws,0,0,false⟩ i=some (Qk ws i (l.getD i.toNat default)):=(by rw[Gp,if_pos ⟨rfl,hin.1,hin.2⟩];rfl);obtain⟨rfl,rfl⟩:Qk ws i (l.getD i.toNat default)=s/\ok=true:=by
        rcases h with h|h
        ·rw[hD]at h;exact⟨Option.some.inj h.1,h.2⟩
        ·rw[hD]at h;cases h.1
       have key:t=⟨(Qk ws i (l.getD i.toNat default)).toArray⟩:=by
        rw[e6i]at hc;rcases hc with ⟨hne,rfl⟩|⟨k,hk,hki,rfl,hne⟩
        ·rw[bw3];intro p hp;obtain⟨j,hj,rfl⟩:=e4v.1 hp
         have:=hne j hj
         rwa [e5j,e47 hj]at this
        ·have hm:ws.length-1-k<ws.length:=om;rw[e5j,e47 hm]at hki ⊢;rw[d77 ws i _ (ws.length-1-k) hm (by rw[e47 hm];exact hki) (λj hj1 hj2=>by
          have:=hne (ws.length-1-j) om;rw[show ws.length-1-(ws.length-1-j)=j by omega,e5j,e47 hj2]at this
          rwa [e47 hj2]),e47 hm]
         rfl
       rw[key]
 ·match k,hc,hv with
  |0,hc,hv=>cases hc;cases hv;exact .pure (x:=.str _) (.str _)
  |1,hc,hv=>cases hc;cases hv;exact .pure (x:=.bool _) (.bool _)
  |k+2,hc,_=>cases hc
theorem d2m{args:List AV}{H:AH}{y:AV}{G:AH}(h:a05 132 args H=some (y,G)):C Tryz.prog 132 args H (λy' G'=>y'=y/\G'=G):=by
 unfold a05 at h;split at h
 ·rename_i x z lies arm down i;obtain⟨l,hl,h⟩:=e4c.1 h;obtain⟨es,hx,he⟩:=e4c.1 hl;obtain⟨ws,hw,h⟩:=e4c.1 h;obtain⟨fs,hz,hf⟩:=e4c.1 hw;split at h
  ·rename_i hc;split at h
   ·rename_i s hs;cases h;exact bj4 hx he hz hf hc.2 lies arm i down s true (.inl ⟨hs,rfl⟩)
   ·rename_i hs;cases h;exact bj4 hx he hz hf hc.2 lies arm i down [] false (.inr ⟨hs,rfl,rfl⟩)
  ·cases h
 ·cases h
end
theorem poolForms_C:C Tryz.prog 3 [] [] (λx _=>x=.bool true):=
 (e3u d0q (d41 d42 (λ_ _ _ _ h=>d2m h)) (d3f [])).mono λ_ _ h=>h.1
#print axioms poolForms_C
end Go.Proofs.YtbngojdlgfhacaaGreatDoor.Abs
