/-
  Part 5 of the proof: no condition. (Parts of the abstract layer, of the program's functions in its form, and of their contracts.)
-/
import Derived.Test.YtddlanlnaenaoaaGreatDoorIa4
import Derived.KernelRfl
import Derived.Test.YtddlanlnaenaoaaGreatDoorIa3
set_option maxRecDepth 100000
set_option maxHeartbeats 8000000
set_option linter.unusedSimpArgs false
set_option linter.unusedVariables false
set_option linter.unusedSectionVars false
set_option linter.defProp false
namespace Go.Proofs.YtddlanlnaenaoaaGreatDoor.Abs
section
section
variable (bl:List Block) (bp:List Ptr) (hb:bl.length=bp.length) (hbl:bl.length<=1000) (pk:Sl UInt8) (hl:(els pk).length<=1000000)
include hb hbl hl
theorem dq2(n:Nat)(hn:n<=80000)(i P:Int)(hi:0<=i/\i<=100) :
 ∃ q:Bytes×Nat,q.1.length<=1000/\q.2<=n+40/\Ev tab A6 A5 21 [.ptr 0 0 0 1,.ptr 3 0 0 1,.N 3,.N i,.N P] (Eh bl bp pk n)=some (.str q.1,Eh bl bp pk q.2):=by
 refine Yd (λs h=>Bz l21 rfl h) ?_;unfold Eh;have L:[[AV.N 0,.N 0,.M 0,.M 0,.M 0,.M 0],[AV.N 0,.N 0,.M 0,.M 0,.M 0,.M 0],[AV.N 0,.N 0,.M 0,.M 0,.M 0,.M 0],[AV.N 0,.N 0,.M 0,.M 0,.M 0,.M 0],[AV.N 0,.N 0,.M 0,.M 0,.M 0,.M 0],[AV.N 0,.N 0,.M 0,.M 0,.M 0,.M 0],[AV.N 0,.N 0,.M 0,.M 0,.M 0,.M 0],[AV.N 0,.N 0,.M 0,.M 0,.M 0,.M 0]]=(Af 8).map Ac:=rfl;simp(disch:=try exact dq)only[tx,seval,Ht,L,Bc,Bb,Av,Aw,f3z];generalize hr:Aj _ _ _=r;refine a2e (Q:=λr=>∃ a:Bytes×Nat,a.1.length<=1000/\a.2<=n+40/\E5 _ _ _ (Bm _ _ (Bi _ (Bm _ _ (Bi _ r))))=some (.str a.1,[some [[.own 1 3 0 bl.length bl.length,.own 2 6 0 bp.length bp.length]],some (bl.map D5),some (bp.map Ac),some [[A4 pu8 pk,.N a.2]]])) hr bl.length
  (λj G H=>∃ ls:LT,ls.length=8/\G=[.ptr 0 0 0 1,.ptr 3 0 0 1,U,U,U,U,U,U,U,.own 4 6 0 8 8,.N ((bl.length:Int)-1-j),U,U,U,U,U,U,U,U,U,U,U,U,U,U,U,U,U,U,U,U,U,U,U,U,U,U,U,U,U,U,U,U,U,U,U,U,U,U]/\H=[some [[.own 1 3 0 bl.length bl.length,.own 2 6 0 bp.length bp.length]],some (bl.map D5),some (bp.map Ac),some [[A4 pu8 pk,.N n]],some (ls.map Ac)]) ?_ ?_ ?_
 ·exact⟨Af 8,by simp[Af],by rw[f3u,Int.sub_zero,f52 _ om],rfl⟩
 ·rintro j hj G H ⟨ls,b,rfl,rfl⟩;have d:(0:Int)<=(bl.length:Int)-1-j:=om;have p:((bl.length:Int)-1-j).toNat=bl.length-1-j:=om;have O:(bl.length:Int)-1-((j+1:Nat):Int)=(bl.length:Int)-1-j-1:=om;have m:(bl.map D5)[bl.length-1-j]?=some [.N (bl.getD (bl.length-1-j) df).kind,.N (bl.getD (bl.length-1-j) df).birth,.str (bl.getD (bl.length-1-j) df).load]:=Fc om D5;have K:=T2 bp (bl.length-1-j) om;have I:=T2 ls 0 om;generalize bl.getD (bl.length-1-j) df=x at *;generalize bp.getD (bl.length-1-j) df=y at *;rw[O];have o:(bl.length:Int)-1-j<bl.length:=om;have Z:(bl.length:Int)-1-j<=1000:=om;generalize (bl.length:Int)-1-j=i at *;by_cases F:x.kind=2
  ·by_cases R:(x.load.length:Int)=93
   ·simp(disch:=try exact dq)only[tx,seval,d,p,o,m,K,I,F,R,b,<-hb,Bc,Bb,Av,Aw,J9,f3z,f3v,f52]
    first|exact⟨ls.set 0 y,by rw[f3v];exact b,rfl,rfl⟩|exact⟨ls.set 0 y,by rw[f3v];exact b,rfl⟩
   ·simp(disch:=try exact dq)only[tx,seval,d,p,o,m,F,R,b,Bc,Bb,Av,Aw,J9,f3z,f3v,f52]
    first|exact⟨ls,b,rfl,rfl⟩|exact⟨ls,b,rfl⟩
  ·simp(disch:=try exact dq)only[tx,seval,d,p,o,m,F,b,Bc,Bb,Av,Aw,J9,f3z,f3v,f52]
   first|exact⟨ls,b,rfl,rfl⟩|exact⟨ls,b,rfl⟩
 ·rintro G H ⟨ls,b,rfl,rfl⟩;have d:¬ (0:Int)<=(bl.length:Int)-1-bl.length:=om;have g:=Dt pk hl n om 3 om;have W:=Du (els pk) n 3 om;have S:=Dv (els pk) n 3;generalize D8 (els pk) n 3=a1 at *;generalize Cy (els pk) n 3=n1 at *;obtain⟨⟨f,D⟩,B,e⟩:=Qn bl bp hb hbl pk hl n1 om 2;simp only[Eh,Ac]at B e;have A:=T2 (ls) (1+a1).toNat (by first|omega|(simp only[f3v];omega));have k:=Dt pk hl D om 6 om;have X:=Du (els pk) D 6 om;have T:=Dv (els pk) D 6;generalize D8 (els pk) D 6=a2 at *;generalize Cy (els pk) D 6=v at *;by_cases c:a2=5
  ·have w:=Dt pk hl v om 8 om;have Y:=Du (els pk) v 8 om;have V:=Dv (els pk) v 8;generalize D8 (els pk) v 8=a3 at *;generalize Cy (els pk) v 8=n4 at *;obtain⟨⟨E,n5⟩,C,l⟩:=Qn bl bp hb hbl pk hl n4 om 2;simp only[Eh,Ac]at C l;have J:=T2 (ls.set (1+a1).toNat f) a3.toNat (by first|omega|(simp only[f3v];omega));have z:=b2o (some ((ls.set (1+a1).toNat f).set a3.toNat E)) (by rw[Az];simp only[f3v];omega);rw[B5]at z;have u:=λH=>Ku 3 ((ls.set (1+a1).toNat f).set a3.toNat E) H;have t:List.take 8 (((ls.set (1+a1).toNat f).set a3.toNat E).map Ac)=((ls.set (1+a1).toNat f).set a3.toNat E).map Ac:=f0a (by simp only[f3z,f3v];omega);simp(disch:=try exact dq)only[tx,seval,KQ 20 rfl,KQ 51 rfl,Am,Bc,Bb,Av,Aw,J9,f3z,f3v,f52,b0k,F8,g,e,A,k,w,l,J,c,d,z,u,t,b];exact⟨(Gt ((ls.set (1+a1).toNat f).set a3.toNat E),n5),a6o _,by simp only;omega,rfl⟩
  ·have z:=b2o (some (ls.set (1+a1).toNat f)) (by rw[Az];simp only[f3v];omega);rw[B5]at z;have u:=λH=>Ku 3 (ls.set (1+a1).toNat f) H;have t:List.take 8 ((ls.set (1+a1).toNat f).map Ac)=(ls.set (1+a1).toNat f).map Ac:=f0a (by simp only[f3z,f3v];omega);simp(disch:=try exact dq)only[tx,seval,KQ 20 rfl,KQ 51 rfl,Am,Bc,Bb,Av,Aw,J9,f3z,f3v,f52,b0k,F8,g,e,A,k,c,d,z,u,t,b];exact⟨(Gt (ls.set (1+a1).toNat f),v),a6o _,by simp only;omega,rfl⟩
theorem dq3(n:Nat)(P:n<=80000)(i b:Int)(Q:0<=b/\b<=1000)(a:Int)(K:a≠1/\a≠2/\a≠3/\a≠4/\a≠5) :
 ∃ q:Bytes×Nat,q.1.length<=1000/\q.2<=n+40/\Ev tab A6 A5 21 [.ptr 0 0 0 1,.ptr 3 0 0 1,.N a,.N i,.N b] (Eh bl bp pk n)=some (.str q.1,Eh bl bp pk q.2):=by
 refine Yd (λs h=>Bz l21 rfl h) ?_;unfold Eh;obtain⟨E,F,G,H,I⟩:=K;have j:=Dt pk hl n om 12 om;have B:=Du (els pk) n 12 om;have x:=Dv (els pk) n 12;generalize D8 (els pk) n 12=a1 at *;generalize Cy (els pk) n 12=L at *;have A:a1.tdiv 11=a1/11:=ey2 om;obtain⟨⟨f,M⟩,o,d⟩:=Qn bl bp hb hbl pk hl L om 4;simp only[Eh,Ac]at o d;obtain⟨⟨g,t⟩,p,e⟩:=Qn bl bp hb hbl pk hl M om 5;simp only[Eh,Ac]at p e;have k:=Dt pk hl t om 2 om;have C:=Du (els pk) t 2 om;have y:=Dv (els pk) t 2;generalize D8 (els pk) t 2=a2 at *;generalize Cy (els pk) t 2=J at *;by_cases c:a2=1
 ·obtain⟨⟨w,u⟩,r,m⟩:=Qn bl bp hb hbl pk hl J om 6;simp only[Eh,Ac]at r m;have v:=Dt pk hl u om 3 om;have D:=Du (els pk) u 3 om;have z:=Dv (els pk) u 3;generalize D8 (els pk) u 3=a3 at *;generalize Cy (els pk) u 3=O at *;have l:=b2r ⟨b+a1/11,3,7,f,g,w,a3⟩;simp only[Sc,Ah,UInt32.toNat_zero,f3u]at l;simp(disch:=try exact dq)only[tx,seval,Ht,KQ 20 rfl,KQ 51 rfl,Am,Bc,Bb,Av,Aw,f3z,f52,j,d,e,k,A,E,F,G,H,I,m,v,c,l];exact⟨(Jt ⟨b+a1/11,3,7,f,g,w,a3⟩,O),b2q ⟨b+a1/11,3,7,f,g,w,a3⟩,by simp only;omega,rfl⟩
 ·have l:=b2r ⟨b+a1/11,3,7,f,g,Ah,0⟩;simp only[Sc,Ah,UInt32.toNat_zero,f3u]at l;simp(disch:=try exact dq)only[tx,seval,Ht,KQ 20 rfl,KQ 51 rfl,Am,Bc,Bb,Av,Aw,f3z,f52,j,d,e,k,A,E,F,G,H,I,c,l];exact⟨(Jt ⟨b+a1/11,3,7,f,g,Ah,0⟩,J),b2q ⟨b+a1/11,3,7,f,g,Ah,0⟩,by simp only;omega,rfl⟩
theorem dq0(n:Nat)(J:n<=80000)(i v:Int) :
 ∃ q:Bytes×Nat,q.1.length<=1000/\q.2<=n+40/\Ev tab A6 A5 21 [.ptr 0 0 0 1,.ptr 3 0 0 1,.N 4,.N i,.N v] (Eh bl bp pk n)=some (.str q.1,Eh bl bp pk q.2):=by
 refine Yd (λs h=>Bz l21 rfl h) ?_;unfold Eh;have j:=Dt pk hl n om 9 om;have B:=Du (els pk) n 9 om;have w:=Dv (els pk) n 9;generalize D8 (els pk) n 9=a1 at *;generalize Cy (els pk) n 9=G at *;obtain⟨⟨r,o⟩,l,d⟩:=Qn bl bp hb hbl pk hl G om 3;simp only[Eh,Ac]at l d;have k:=Dt pk hl o om 2 om;have C:=Du (els pk) o 2 om;have x:=Dv (els pk) o 2;generalize D8 (els pk) o 2=a2 at *;generalize Cy (els pk) o 2=e at *;have A:a1.tdiv 8=a1/8:=ey2 om;by_cases c:a2=1
 ·have f:=Dt pk hl e om 7 om;have D:=Du (els pk) e 7 om;have y:=Dv (els pk) e 7;generalize D8 (els pk) e 7=a3 at *;generalize Cy (els pk) e 7=p at *;have g:=Dt pk hl p om 8 om;have E:=Du (els pk) p 8 om;have z:=Dv (els pk) p 8;generalize D8 (els pk) p 8=a4 at *;generalize Cy (els pk) p 8=H at *;obtain⟨⟨F,I⟩,m,a⟩:=Qn bl bp hb hbl pk hl H om 3;simp only[Eh,Ac]at m a;have t:a3.tdiv 6=a3/6:=ey2 om;have u:a4.tdiv 7=a4/7:=ey2 om;have b:=b2n (some [(⟨1,1+a1/8,0,0,none⟩:Dset),(⟨2,2,1+a3/6,a4/7,none⟩:Dset)]) [r,F] (by simp[els]) (by simp);rw[B5,B5,Az]at b;simp only[f5b,f5x,Ao,Al,Lt]at b;simp(disch:=try exact dq)only[tx,seval,Ht,KQ 20 rfl,KQ 51 rfl,Am,Bc,Bb,Av,Aw,f3z,f52,b8d,F8,j,d,k,A,f,g,a,t,u,c,b];exact⟨(Fo (List.map Bj [(⟨1,1+a1/8,0,0,none⟩:Dset),(⟨2,2,1+a3/6,a4/7,none⟩:Dset)]) [r,F],I),a6n _ _,by simp only;omega,rfl⟩
 ·have b:=b2n (some [(⟨1,1+a1/8,0,0,none⟩:Dset)]) [r] (by simp[els]) (by simp);rw[B5,B5,Az]at b;simp only[f5b,f5x,Ao,Al,Lt]at b;simp(disch:=try exact dq)only[tx,seval,Ht,KQ 20 rfl,KQ 51 rfl,Am,Bc,Bb,Av,Aw,f3z,f52,b8d,F8,j,d,k,A,c,b];exact⟨(Fo (List.map Bj [(⟨1,1+a1/8,0,0,none⟩:Dset)]) [r],e),a6n _ _,by simp only;omega,rfl⟩
end
end
def dm8(H:AH):K tab A6 A5 81 [] H=some (.fz (Jw.map Ap),H):=by
 refine Ae l81 rfl rfl rfl ?_ H;simp(disch:=try exact dq)only[tx,seval,g81,List.replicate];rfl
def dp4(s:Sl Node)(f:(els s).length<=1000000)(H:AH):K tab A6 A5 120 [A4 Ap s] H=some (.bool ((els s).any λx=>decide (x.kind=3)),H):=by
 refine Ae e3s rfl (by simp[Aa,Ab,Ai]) rfl ?_ H;simp(disch:=try exact dq)only[tx,seval,ae6];generalize e:Aj _ _ _=r;refine B6 e (els s).length (λj=>[A4 Ap s,U,.N j])
  (λj=>[]) (λj=>((els s).any λx=>decide (x.kind=3))=(((els s).drop j).any λx=>decide (x.kind=3))) ?_ ?_ ?_ ?_ ?_
 ·rfl
 ·rfl
 ·rfl
 ·intro j d hI;have a:((j:Int)<((els s).length:Int)):=om;rw[F7 d,f5r]at hI;generalize b:(els s).getD j df=x at *;by_cases c:x.kind=3
  ·simp(disch:=try exact dq)only[tx,seval,a,Ad,Ap,b,c,f52];rw[hI];simp[c]
  ·simp(disch:=try exact dq)only[tx,seval,a,Ad,Ap,b,c,f52];exact⟨rfl,by rw[hI];simp[c]⟩
 ·intro hI;rw[f3n]at hI;simp(disch:=try exact dq)only[tx,seval,f5q];rw[hI];rfl
def er1(s:Sl Node)(f:(els s).length<=1000000)(H:AH):K tab A6 A5 121 [A4 Ap s] H=some (.bool ((els s).any λx=> !decide (x.bad=0)),H):=by
 refine Ae e3r rfl (by simp[Aa,Ab,Ai]) rfl ?_ H;simp(disch:=try exact dq)only[tx,seval,ae5];generalize e:Aj _ _ _=r;refine B6 e (els s).length (λj=>[A4 Ap s,U,.N j])
  (λj=>[]) (λj=>((els s).any λx=> !decide (x.bad=0))=(((els s).drop j).any λx=> !decide (x.bad=0))) ?_ ?_ ?_ ?_ ?_
 ·rfl
 ·rfl
 ·rfl
 ·intro j d hI;have a:((j:Int)<((els s).length:Int)):=om;rw[F7 d,f5r]at hI;generalize b:(els s).getD j df=x at *;by_cases c:x.bad=0
  ·simp(disch:=try exact dq)only[tx,seval,a,Ad,Ap,b,c,f52];exact⟨rfl,by rw[hI];simp[c]⟩
  ·simp(disch:=try exact dq)only[tx,seval,a,Ad,Ap,b,c,f52];rw[hI];simp[c]
 ·intro hI;rw[f3n]at hI;simp(disch:=try exact dq)only[tx,seval,f5q];rw[hI];rfl
def a10(s:LO):Bool:=(s.any λx=>decide (x.kind=3))||s.any λx=> !decide (x.bad=0)
def eq0(s:Sl Node)(b:(els s).length<=1000000)(H:AH):K tab A6 A5 77 [A4 Ap s] H=some (.bool (a10 (els s)),H):=by
 refine Ae l77 rfl (by simp[Aa,Ab,Ai]) rfl ?_ H;have a:=dp4 s b;have d:=er1 s b;unfold a10;cases c:(els s).any λx=>decide (x.kind=3)<;>rw[c]at a
 all_goals simp(disch:=try exact dq)only[tx,seval,g77,a,d,f6e,f5o]
def d8e(l m:Sl Node)(p:(els l).length<=1000000)(q:(els m).length<=1000000)(H:AH):K tab A6 A5 154 [A4 Ap l,A4 Ap m] H=some (.bool (decide (els l=els m)),H):=by
 refine Ae e3j rfl (by simp[Aa,Ab,Ai]) rfl ?_ H;by_cases c:((els l).length:Int)=(els m).length
 ·simp(disch:=try exact dq)only[tx,seval,a3w,c];generalize k:Aj _ _ _=r;refine B6 k (els l).length (λj=>[A4 Ap l,A4 Ap m,U,.N j])
   (λj=>[]) (λj=>(els l).take j=(els m).take j) ?_ ?_ ?_ ?_ ?_
  ·rfl
  ·rfl
  ·rfl
  ·intro j i hI;have d:((j:Int)<((els l).length:Int)):=om;have f:((j:Int)<((els m).length:Int)):=om;rw[Et i,Et (show j<(els m).length by omega),hI];have a:(els l).getD j df≠(els m).getD j df->els l≠els m:=λh e=>h (by rw[e]);generalize n:(els l).getD j df=x at *;generalize o:(els m).getD j df=y at *;simp(disch:=try exact dq)only[tx,seval,d,f,Ad,Ap,f52,n,o,ax5];by_cases b:x=y
   ·subst b;exact⟨λh=>absurd h (by simp),λ_=>⟨rfl,rfl⟩⟩
   ·have g:=a b;exact⟨λ_=>by simp[g],λh=>(h (by simp[b])).elim⟩
  ·intro hI;rw[f3m,f0a om]at hI;simp(disch:=try exact dq)only[tx,seval,f5q,c];simp[hI]
 ·simp(disch:=try exact dq)only[tx,seval,a3w,c];have a:¬ els l=els m:=λe=>c (by rw[e]);simp[a]
def eh4(s:Sl Node)(d:(els s).length<=1000000)(n:Int)(H:AH):K tab A6 A5 33 [A4 Ap s,.N n] H=some (.bool (folderT (els s) n),H):=by
 refine Ae l33 rfl (by simp[Aa,Ab,Ai]) rfl ?_ H;unfold folderT E6;by_cases a:0<=n
 ·by_cases b:n<(els s).length
  ·by_cases c:((els s).getD n.toNat df).kind=2
   ·simp(disch:=try exact dq)only[tx,seval,Xx,a,b,c,Ad,Ap]
    try simp[a,b]
   ·simp(disch:=try exact dq)only[tx,seval,Xx,a,b,c,Ad,Ap]
    try simp[a,b]
  ·simp(disch:=try exact dq)only[tx,seval,Xx,a,b,Ad,Ap]
   try simp[b]
 ·simp(disch:=try exact dq)only[tx,seval,Xx,a,Ad,Ap]
  try simp[a]
def do9(s:Bytes)(m:s.length<=1000000)(H:AH):K tab A6 A5 32 [.str s] H=some (.bool (mayName s),H):=by
 refine Ae l32 rfl rfl rfl ?_ H;simp(disch:=try exact dq)only[tx,seval,g32];generalize k:Aj _ _ _=r;refine B6 k s.length (λj=>[.str s,U,.N j,U])
  (λj=>[]) (λj=>s.all Sq=(s.drop j).all Sq) ?_ ?_ ?_ ?_ ?_
 ·rfl
 ·rfl
 ·rfl
 ·intro j i hI;have f:((j:Int)<(s.length:Int)):=om;rw[F7 i,f5k]at hI;have l:s.getD j 0=s.getD j df:=rfl;generalize s.getD j df=c at *;simp(disch:=try exact dq)only[tx,seval,f,l,f52];have n:=c.toNat_lt;cases e:Sq c with
  |false=>
    have g:mayName s=false:=(by unfold mayName;rw[hI,e];simp);refine⟨λ_=>by rw[g],λh=>(h ?_).elim⟩;rw[f2s]at e;simp only[Sq,ne_eq,f44,f2f]at e;simp only[f2o,f2s,ne_eq,f44,f32,f2f];omega
  |true=>
    refine⟨λh=>?_,λ_=>⟨rfl,by rw[hI,e,f5e]⟩⟩;simp only[Sq,f44,f2f]at e;simp only[f2o,f2s,ne_eq,f44,f32,f2f]at h;omega
 ·intro hI;rw[f3n]at hI;simp(disch:=try exact dq)only[tx,seval,f5q]
  congr 2
  unfold mayName;rw[hI,f4d];simp only[f6c,f5e,f32,f2f,f2o,f02];constructor<;>(rintro⟨⟨⟨a,b⟩,c⟩,d⟩;exact⟨⟨⟨by omega,by omega⟩,c⟩,d⟩)
def Eg(d:Dev):LA:=[A4 B4 d.last,A4 Ay d.wait,.N d.lies,.N d.arm,.bool d.down]
def Gm(s:Bytes):LA:=[.str s]
def Fe(p:Int×Bytes):LA:=[.N p.1,.str p.2]
def Gs(l:List Bytes):refsO (some (l.map Gm))=[]:=J2 l _ λ_=>rfl
def Ki(τ:Nat->Option Nat)(l:List Bytes):renO τ (l.map Gm)=l.map Gm:=Pz τ l _ λ_=>rfl
def Um(r:Nat)(a:List LP)(l:List Bytes):(l.map Gm).map (C5 r a)=l.map Gm:=T4 _ _ _ λe b=>by obtain⟨p,_,rfl⟩:=f62.1 b;rfl
def Th(l:List Bytes):Cx (l.map Gm)=some (l.map B4):=Ka _ _ (λ_=>rfl) l
def Fv(l:List (Int×Bytes)):refsO (some (l.map Fe))=[]:=J2 l _ λ_=>rfl
def Hi(τ:Nat->Option Nat)(l:List (Int×Bytes)):renO τ (l.map Fe)=l.map Fe:=Pz τ l _ λ_=>rfl
def L8(r:Nat)(a:List LP)(l:List (Int×Bytes)):(l.map Fe).map (C5 r a)=l.map Fe:=T4 _ _ _ λe b=>by obtain⟨p,_,rfl⟩:=f62.1 b;rfl
def Kb(l:List (Int×Bytes)):Cx (l.map Fe)=some (l.map Ay):=Ka _ _ (λ_=>rfl) l
def Vj(l:List (Int×Bytes)):(l.map λa=>(Ay a).map emb)=l.map Fe:=rfl
def a58(l:List (Int×Bytes)):((l.map Fe).all λe=>decide (e.length=2))=true:=by
 rw[f35];intro e a;obtain⟨x,_,rfl⟩:=f62.1 a;rfl
def at3(l:List Bytes):(l.map λa=>(B4 a).map emb)=l.map Gm:=rfl
def es7(l:List Bytes):((l.map Gm).all λe=>decide (e.length=1))=true:=by
 rw[f35];intro e a;obtain⟨x,_,rfl⟩:=f62.1 a;rfl
def es3(h:Int):IntKind.i64.wrap ((BitVec.ofInt IntKind.i64.bits h &&& BitVec.ofInt IntKind.i64.bits 3).toNat:Int)=h%4:=by
 have e:(BitVec.ofInt 64 h &&& BitVec.ofInt 64 3).toNat=(h%4).toNat:=by
  rw[BitVec.toNat_and,f2c,f2c];have h3:((3:Int)%((2 ^ 64:Nat):Int)).toNat=2 ^ 2-1:=by decide
  rw[h3,Nat.and_two_pow_sub_one_eq_mod];have:((2 ^ 64:Nat):Int)=18446744073709551616:=by decide
  rw[this];omega
 show IntKind.i64.wrap ((BitVec.ofInt 64 h &&& BitVec.ofInt 64 3).toNat:Int)=h%4;rw[e];rw[f52 _ om];omega
def A0:IntKind.i64.wrap ((BitVec.ofInt IntKind.i64.bits 0 &&& BitVec.ofInt IntKind.i64.bits 1).toNat:Int)=0:=by decide +kernel
def A1:IntKind.i64.wrap ((BitVec.ofInt IntKind.i64.bits 1 &&& BitVec.ofInt IntKind.i64.bits 1).toNat:Int)=1:=by decide +kernel
def A2:IntKind.i64.wrap ((BitVec.ofInt IntKind.i64.bits 2 &&& BitVec.ofInt IntKind.i64.bits 1).toNat:Int)=0:=by decide +kernel
def A3:IntKind.i64.wrap ((BitVec.ofInt IntKind.i64.bits 3 &&& BitVec.ofInt IntKind.i64.bits 1).toNat:Int)=1:=by decide +kernel
def B2:IntKind.i64.wrap ((BitVec.ofInt IntKind.i64.bits 2 &&& BitVec.ofInt IntKind.i64.bits 2).toNat:Int)=2:=by decide +kernel
def B3:IntKind.i64.wrap ((BitVec.ofInt IntKind.i64.bits 3 &&& BitVec.ofInt IntKind.i64.bits 2).toNat:Int)=2:=by decide +kernel
def a1i(o:List Bytes)(i:Nat)(y:Bytes):(o.map Gm).set i [.str y]=(o.set i y).map Gm:=by rw[f6i];rfl
def bo2{α:Type}[Inhabited α](o:List α){i:Nat}(h:i<o.length):o.set i (o.getD i df)=o:=by
 rw[ex9,ez2 h];exact List.set_getElem_self h
def c3r:∀ (w:List (Int×Bytes)) (b:List Bytes) (a:LI) (j:Nat),j<w.length->Kn b (w.take (j+1)) a=Zr (Kn b (w.take j) a) (w.getD j df) (a.getD j 0%4)
 |[],_,_,j,h=>by simp at h
 |p::w,b,a,0,_=>by
   simp only[f12,f4u,Kn,f1g];cases a<;>rfl
 |p::w,b,a,j+1,h=>by
   rw[f12,Kn,f12,Kn,c3r w _ a.tail j (by simpa using h),f1b];cases a<;>rfl
def b3g(n:Int)(h:-100000<=n)(i:n<=100000)(H:AH):K tab A6 A5 16 [.N n] H=some (.agg (Eg (Di n)),H):=by
 refine Ae l16 rfl rfl (by simp[Eg,Aa,Ab,Ai]) ?_ H;have b:=b3e (orc:=A6) 256 om;rw[show(256:Int).toNat=256 from rfl]at b;simp(disch:=try exact dq)only[tx,seval,g16];generalize g:Aj _ _ _=r;refine B6 g (if n<=268 then n.toNat else 0)
  (λj=>[.N n,.ptr 0 0 0 1,.ptr 1 0 0 1,.N j,U])
  (λj=>[some [[.emp,.emp,.N 0,.N 0,.bool false]],some [[.own 2 1 0 j j,.emp,.N 0,.N 0,.bool false]],some ((List.replicate j (zs 256)).map Gm)]) (λj=>True) ?_ ?_ trivial ?_ ?_
 ·rfl
 ·rfl
 ·intro j f _;by_cases c:n<=268
  ·rw[iP c]at f;have a:((j:Int)<n):=om;have d:(List.replicate j (zs 256)).length=j:=f0j;rw[f0w];generalize List.replicate j (zs 256)=o at *;simp(disch:=try exact dq)only[tx,seval,a,c,b,f52,Gs,f3z,d];exact⟨rfl,by rw[f4c];rfl⟩
  ·rw[iN c]at f;omega
 ·intro _;unfold Di;by_cases c:n<=268
  ·rw[iP c,iP c];have a:¬ ((n.toNat:Int)<n):=om;have d:(List.replicate n.toNat (zs 256)).length=n.toNat:=f0j;generalize List.replicate n.toNat (zs 256)=o at *;have e:List.take n.toNat (List.map B4 o)=List.map B4 o:=(by rw[<-d];exact Gf o B4);simp(disch:=try exact dq)only[tx,seval,a,c,f52,Gs,Ki,Um,Th,f3z,d,e];rfl
  ·rw[iN c,iN c];simp(disch:=try exact dq)only[tx,seval,c,f52,Gs,Ki,Um,Th,f3z];rfl
def b7w(d:Dev)(l:Sl (Int×Bytes))(G:(els l).length<=100000)(I:(els d.wait).length<=100000)(D:(els d.last).length<=100000)(F:d.arm<=1000000000000)(H:AH) :
 K tab A6 A5 13 [.agg [A4 B4 d.last,A4 Ay d.wait,.N d.lies,.N d.arm,.bool d.down],A4 Ay l] H=some (.tuple [.agg (Eg (Co d (els l)).1),.bool (Co d (els l)).2],H):=by
 refine Ae l13 rfl (by simp[Aa,Ab,Ai]) (by simp[Eg,Aa,Ab,Ai]) ?_ H;unfold Co;cases g:d.down with
 |true=>
   simp(disch:=try exact dq)only[tx,seval,g13];simp[Eg,g]
 |false=>
   rw[iN f2d];simp(disch:=try exact dq)only[tx,seval,g13];generalize E:Aj _ _ _=r;refine B6 E (els l).length
    (λj=>[U,A4 Ay l,.ptr 0 0 0 1,.ptr 1 0 0 1,U,.N j,U,U,U])
    (λj=>[some [[A4 B4 d.last,A4 Ay (Hl d ((els l).take j)).wait,.N d.lies,.N (Hl d ((els l).take j)).arm,.bool false]],some [[.emp,.emp,.N 0,.N 0,.bool false]]])
    (λj=>Dl d (els l)=Dl (Hl d ((els l).take j)) ((els l).drop j)) ?_ ?_ ?_ ?_ ?_
   ·rfl
   ·rfl
   ·rfl
   ·intro j z hI;have c:((j:Int)<((els l).length:Int)):=om;have v:=ag3 ((els l).take j) d;rw[f3l]at v;rw[ca9 z];rw[F7 z]at hI;generalize Hl d ((els l).take j)=e at *;obtain⟨a,o,t,B,C⟩:=v;generalize p:(els l).getD j df=x at *;have f:Ay x=[.N x.1,.str x.2]:=rfl;have b:(els e.wait).map Fe++[[.N x.1,.str x.2]]=(els e.wait++[x]).map Fe:=(by rw[f4c];rfl);have k:Je e x=true↔(0<=x.1/\x.1<(els d.last).length/\x.2.length=256):=by
     simp only[Je,a,f32,f2f];omega
    have m:List.take ((els e.wait).length+1) (List.map Ay (els e.wait++[x]))=List.map Ay (els e.wait++[x]):=f0a (by simp);by_cases n:x.1<0
    ·have i:Je e x=false:=f2s.2 (λh=>by have:=k.1 h;omega);rw[ak8 _ i]at hI;rw[hI];simp(disch:=try exact dq)only[tx,seval,n,c,p,Ad,f,Vj,a58,b,a,Fv,L8,Kb,f52,Az,f3z,f1q,f33,f3w];simp only[Eg,a,o,t,g]
    by_cases q:(els d.last).length<=x.1
    ·have i:Je e x=false:=f2s.2 (λh=>by have:=k.1 h;omega);rw[ak8 _ i]at hI;rw[hI];simp(disch:=try exact dq)only[tx,seval,n,q,c,p,Ad,f,Vj,a58,b,a,Fv,L8,Kb,f52,Az,f3z,f1q,f33,f3w];simp only[Eg,a,o,t,g]
    by_cases u:(x.2.length:Int)=256
    ·have i:Je e x=true:=k.2 om;by_cases s:0<e.arm
     ·by_cases w:e.arm=1
      ·rw[b7y _ i w]at hI;rw[hI];simp(disch:=try exact dq)only[tx,seval,n,q,u,s,w,c,p,Ad,f,Vj,a58,b,a,Fv,L8,Kb,f52,Az,f3z,f1q,f33,f3w];simp only[Eg,a,o,m,B5]
      ·rw[ak7 _ i w]at hI;have A:¬ e.arm-1=0:=om;have y:Ir e x=⟨e.last,some (els e.wait++[x]),e.lies,e.arm-1,e.down⟩:=(by unfold Ir;rw[iP s]);rw[y]at hI ⊢;simp(disch:=try exact dq)only[tx,seval,n,q,u,s,A,c,p,Ad,f,Vj,a58,b,a,Fv,L8,Kb,f52,Az,f3z,f1q,f33,f3w];exact⟨rfl,by rw[m],by rw[hI,a]⟩
     ·rw[ak7 _ i om]at hI;have y:Ir e x=S2 e x:=(by unfold Ir;rw[iN s]);rw[y]at hI ⊢;unfold S2 at hI ⊢;simp(disch:=try exact dq)only[tx,seval,n,q,u,s,c,p,Ad,f,Vj,a58,b,a,Fv,L8,Kb,f52,Az,f3z,f1q,f33,f3w];exact⟨rfl,by rw[m],by rw[hI,a]⟩
    ·have i:Je e x=false:=f2s.2 (λh=>by have:=k.1 h;omega);rw[ak8 _ i]at hI;rw[hI];simp(disch:=try exact dq)only[tx,seval,n,q,u,c,p,Ad,f,Vj,a58,b,a,Fv,L8,Kb,f52,Az,f3z,f1q,f33,f3w];simp only[Eg,a,o,t,g]
   ·intro hI;rw[f3m,f3n]at hI;rw[f3m];have v:=ag3 (els l) d;generalize Hl d (els l)=e at *;obtain⟨a,o,t,B,C⟩:=v;rw[hI];simp(disch:=try exact dq)only[tx,seval,f5q];simp only[Dl,Eg,a,o,t,g]
def Vc(n:Int):LP:=[.N n]
def dt0(d:Dev)(a:Sl Int)(O:(els d.last).length<=100000)(P:(els d.wait).length<=1000000)(M:(els a).length<=1000000)(H:AH) :
 K tab A6 A5 62 [.agg [A4 B4 d.last,A4 Ay d.wait,.N d.lies,.N d.arm,.bool d.down],A4 Vc a] H=some (A4 B4 (some (Kn (els d.last) (els d.wait) (els a))),H):=by
 refine Ae l62 rfl (by simp[Aa,Ab,Ai]) (Ai _ _) ?_ H;simp(disch:=try exact dq)only[tx,seval,g62,at3,es7,f3z];generalize L:Aj _ _ _=r;refine B6 L (els d.wait).length
  (λj=>[U,A4 Vc a,.ptr 0 0 0 1,U,.own 1 1 0 (els d.last).length (els d.last).length,.N j,U,U,U])
  (λj=>[some [[A4 B4 d.last,A4 Ay d.wait,.N d.lies,.N d.arm,.bool d.down]],some ((Kn (els d.last) ((els d.wait).take j) (els a)).map Gm)])
  (λj=>True) ?_ ?_ trivial ?_ ?_
 ·rfl
 ·rfl
 ·intro j J _;have c:((j:Int)<((els d.wait).length:Int)):=om;rw[c3r _ _ _ j J];have b:=a79 ((els d.wait).take j) (els d.last) (els a);generalize Kn (els d.last) ((els d.wait).take j) (els a)=o at *;generalize t:(els d.wait).getD j df=x at *;have f:Ay x=[.N x.1,.str x.2]:=rfl;unfold Zr;by_cases q:x.1<0
  ·rw[iN om];simp(disch:=try exact dq)only[tx,seval,c,t,q,Ad,f,Gs,b,f52,f3z];rfl
  by_cases u:(els d.last).length<=x.1
  ·rw[iN om];simp(disch:=try exact dq)only[tx,seval,c,t,q,u,Ad,f,Gs,b,f52,f3z];rfl
  by_cases w:(x.2.length:Int)=256
  ·have C:x.1.toNat<o.length:=om;have A:(o.map Gm)[x.1.toNat]?=some [.str (o.getD x.1.toNat df)]:=Fc C Gm;by_cases G:((o.getD x.1.toNat df).length:Int)=256
   ·rw[iP om];have g:x.2.length=256:=om;have i:(o.getD x.1.toNat df).length=256:=om;generalize z:o.getD x.1.toNat df=k at *;have l:∀ y:Bytes,((o.set x.1.toNat y).map Gm)[x.1.toNat]?=some [.str y]:=λy=>by
     rw[f2i,f04 C];rfl
    have n:k.take 256=k:=f0a om;have p:x.2.take 256=x.2:=f0a om;have D:(els a).getD j 0=(els a).getD j df:=rfl;by_cases m:((j:Int)<((els a).length:Int))
    ·have B:=es3 ((els a).getD j df);rw[D];have F:(els a).getD j df%4=0\/(els a).getD j df%4=1\/(els a).getD j df%4=2\/(els a).getD j df%4=3:=om;generalize s:(els a).getD j df=h at *;rcases F with v|v|v|v<;>rw[v]
     ·simp(disch:=try exact dq)only[tx,seval,c,t,q,u,w,A,l,a1i,n,p,g,i,Ad,f,Vc,Gs,b,f52,f3z,f3v,f1q,f3l,f38,f6j,m,s,B,v,A0];refine⟨rfl,?_⟩;have e:M0 k x.2 0=k:=(by unfold M0;simp);rw[e,<-z,bo2 o C]
     ·simp(disch:=try exact dq)only[tx,seval,c,t,q,u,w,A,l,a1i,n,p,g,i,Ad,f,Vc,Gs,b,f52,f3z,f3v,f1q,f3l,f38,f6j,m,s,B,v,A1];exact⟨rfl,by simp[M0,g,i]⟩
     ·simp(disch:=try exact dq)only[tx,seval,c,t,q,u,w,A,l,a1i,n,p,g,i,Ad,f,Vc,Gs,b,f52,f3z,f3v,f1q,f3l,f38,f6j,m,s,B,v,A2,B2];exact⟨rfl,by simp[M0,g,i]⟩
     ·simp(disch:=try exact dq)only[tx,seval,c,t,q,u,w,A,l,a1i,n,p,g,i,Ad,f,Vc,Gs,b,f52,f3z,f3v,f1q,f3l,f38,f6j,m,s,B,v,A3,B3];exact⟨rfl,by simp[M0,g,i]⟩
    ·have I:(els a).getD j 0=0:=(by rw[ex9,f0e om];rfl);rw[I];show Rd _ _ _ [_,some ((o.set x.1.toNat (M0 k x.2 0)).map Gm)] _;simp(disch:=try exact dq)only[tx,seval,c,t,q,u,w,A,l,a1i,n,p,g,i,Ad,f,Vc,Gs,b,f52,f3z,f3v,f1q,f3l,f38,f6j,m,A0];refine⟨rfl,?_⟩;have e:M0 k x.2 0=k:=(by unfold M0;simp);rw[e,<-z,bo2 o C]
   ·rw[iN om];generalize z:o.getD x.1.toNat df=k at *;simp(disch:=try exact dq)only[tx,seval,c,t,q,u,w,G,A,Ad,f,Gs,b,f52,f3z];rfl
  ·rw[iN om];simp(disch:=try exact dq)only[tx,seval,c,t,q,u,w,Ad,f,Gs,b,f52,f3z];rfl
 ·intro _;rw[f3m];have b:=a79 (els d.wait) (els d.last) (els a);generalize Kn (els d.last) (els d.wait) (els a)=o at *;have E:List.take (els d.last).length (List.map B4 o)=List.map B4 o:=by rw[<-b];exact Gf o B4
  simp(disch:=try exact dq)only[tx,seval,f5q,Gs,Ki,Um,Th,f3z,b,E]
def Nx(n j:Nat):LI:=List.replicate j 3++List.replicate (n-j) 0
def e57{n j:Nat}(h:j<n):(Nx n j).set j 3=Nx n (j+1):=by
 unfold Nx;rw[f4j,iN (by simp),f0j,f6g,show n-j=(n-(j+1))+1 by omega,f13,f1z,f0w];simp
def e58{n j:Nat}(h:j<=n):(Nx n j).length=n:=by unfold Nx;simp;omega
def e59(n:Nat):Nx n n=List.replicate n 3:=by unfold Nx;simp
def d96(n:Nat):List.replicate n [AV.N 0]=(Nx n 0).map cI:=by unfold Nx;rw[f18,f41,f60,f1x];rfl
def cb1(d:Dev)(p:(els d.last).length<=100000)(k:(els d.wait).length<=1000000)(q:-1000000000000<=d.lies/\d.lies<=1000000000000)(H:AH) :
 K tab A6 A5 26 [.agg [A4 B4 d.last,A4 Ay d.wait,.N d.lies,.N d.arm,.bool d.down]] H=some (.tuple [.agg (Eg (T5 d).1),.bool (T5 d).2],H):=by
 refine Ae l26 rfl (by simp[Aa,Ab,Ai]) (by simp[Eg,Aa,Ab,Ai]) ?_ H;unfold T5;cases a:d.down with
 |true=>
   simp(disch:=try exact dq)only[tx,seval,Oe];simp[Eg,a]
 |false=>
   rw[iN f2d];by_cases c:0<d.lies
   ·rw[iP c];simp(disch:=try exact dq)only[tx,seval,Oe,c,f52];simp[Eg,a]
   ·rw[iN c];have b:=dt0 d (some (List.replicate (els d.wait).length 3)) p k (by rw[Az,f0j];exact k);rw[Az,a]at b;have e:∀ j,j<=(els d.wait).length->(Nx (els d.wait).length j).length=(els d.wait).length:=λj h=>e58 h;simp(disch:=try exact dq)only[tx,seval,Oe,c,f52,d96,f2v];generalize s:Aj _ _ _=r;generalize t:(els d.wait).length=n at *;refine Hr (Q:=λr=>E5 _ _ _ (Bm _ _ (Lg _ _ (Bi _ r)))=_) s n
     (λj=>[U,.ptr 0 0 0 1,.ptr 1 0 0 1,U,.own 2 1 0 n n,.N j,U,U,U,U])
     (λj=>[some [[A4 B4 d.last,A4 Ay d.wait,.N d.lies,.N d.arm,.bool false]],some [[.emp,.emp,.N 0,.N 0,.bool false]],some ((Nx n j).map cI)])
     (λj=>True) ?_ ?_ trivial ?_ ?_
    ·rfl
    ·rfl
    ·intro j m _;have g:((j:Int)<(n:Int)):=om;have f:=e j om;rw[<-e57 m];have l:((Nx n j).map cI)[j]?=some [.N ((Nx n j).getD j df)]:=Fc om cI;generalize Nx n j=o at *;simp(disch:=try exact dq)only[tx,seval,g,f,l,bo3,f52,Aq,f3z];rfl
    ·intro _;rw[e59];have f:(List.replicate n (3:Int)).length=n:=f0j;generalize List.replicate n (3:Int)=o at *;have i:List.take n (List.map (λn:Int=>[PV.int IntKind.i64 n]) o)=List.map Vc o:=(by rw[<-f];exact Gf o Vc);rw[B5]at b;simp(disch:=try exact dq)only[tx,seval,f5q,b,f,i,f52,Aq,Ax,Lk,Jj,f3z];rfl
def d4x(d:Dev)(l:Sl (Int×Bytes))(j:(els l).length<=100000)(k:(els d.wait).length<=100000)(c:(els d.last).length<=100000)(m:d.arm<=1000000000000)(i:-1000000000000<=d.lies/\d.lies<=1000000000000)(H:AH) :
 K tab A6 A5 80 [.agg [A4 B4 d.last,A4 Ay d.wait,.N d.lies,.N d.arm,.bool d.down],A4 Ay l] H =
   some (if(Co d (els l)).2=true then .tuple [.agg (Eg (T5 (Co d (els l)).1).1),.bool (T5 (Co d (els l)).1).2]else .tuple [.agg (Eg (Co d (els l)).1),.bool false],H):=by
 refine Ae l80 rfl (by simp[Aa,Ab,Ai]) (by split<;>simp[Eg,Aa,Ab,Ai]) ?_ H;have a:=b7w d l j k c m;have g:(Co d (els l)).1.last=d.last/\(els (Co d (els l)).1.wait).length<=(els d.wait).length+(els l).length/\(Co d (els l)).1.lies=d.lies:=by
  unfold Co;split
  ·exact⟨rfl,Nat.le_add_right _ _,rfl⟩
  ·have:=Ys (els l) d;exact⟨this.1,this.2.1,Yr _ _⟩
 have h:(els (Co d (els l)).1.wait).length<=1000000:=f61 g.2.1 (show _+_<=1000000 from f61 (Nat.add_le_add k j) (by decide));have f:=cb1 (Co d (els l)).1 (by rw[g.1];exact c) h (by rw[g.2.2];exact i);generalize n:Co d (els l)=q at *;obtain⟨e,b⟩:=q;cases b with
 |false=>
   unfold Eg at a ⊢;simp(disch:=try exact dq)only[tx,seval,g80,a,f2d]
 |true=>
   unfold Eg at a f ⊢;rw[iP rfl];simp only[]at a f ⊢;simp(disch:=try exact dq)only[tx,seval,g80,a,f]
def Iu(b:Int)(u:Uber)(a:Int):Sl (Int×Bytes):=
 if Ek b=true/\mayUber u=true/\0<=a/\a<=1 then some [(Px b a u.seat,Js u),(Px b (a+2) u.seat,Js u)]else none
def c0d(h i t g s a b:Int)(c d e f:UInt32)(H:AH):K tab A6 A5 127 [.N h,.agg [.N t,.N g,.N s,.N a,.N b,.M c.toNat,.M d.toNat,.M e.toNat,.M f.toNat],.N i] H=some (A4 Ay (Iu h ⟨t,g,s,⟨a,b,⟨c,d,e,f⟩⟩⟩ i),H):=by
 refine Ae e3l rfl rfl (Ai _ _) ?_ H;have j:=λH=>Xm (orc:=A6) (lk:=A5) h H;have k:=λH=>c2e (orc:=A6) t g s a b c d e f H;have h3:=λH=>b2m (orc:=A6) t g s a b c d e f H;unfold Iu;cases n:Ek h with
 |false=>
   rw[n]at j;simp(disch:=try exact dq)only[tx,seval,Vu,j]
   (try first|done|rfl|exact⟨rfl,rfl⟩|exact⟨rfl,rfl,rfl⟩)
 |true=>
   rw[n]at j;cases l:mayUber ⟨t,g,s,⟨a,b,⟨c,d,e,f⟩⟩⟩with
   |false=>
     rw[l]at k;simp(disch:=try exact dq)only[tx,seval,Vu,j,k]
     (try first|done|rfl|exact⟨rfl,rfl⟩|exact⟨rfl,rfl,rfl⟩)
   |true=>
     rw[l]at k;have r:0<=s/\s<6:=(by simp only[mayUber,f32,f2f]at l;exact⟨l.1.1.1.2,l.1.1.2⟩);by_cases m:i<0
     ·simp(disch:=try exact dq)only[tx,seval,Vu,j,k,m]
      try rw[iN om]
      (try first|done|rfl|exact⟨rfl,rfl⟩|exact⟨rfl,rfl,rfl⟩)
     by_cases o:1<i
     ·simp(disch:=try exact dq)only[tx,seval,Vu,j,k,m,o]
      try rw[iN om]
      (try first|done|rfl|exact⟨rfl,rfl⟩|exact⟨rfl,rfl,rfl⟩)
     have p:=ao1 h i s om;have q:=ao1 h (i+2) s om;rw[iP ⟨rfl,rfl,by omega,by omega⟩];simp(disch:=try exact dq)only[tx,seval,Vu,j,k,h3,p,q,m,o,f52];rfl
def c35(d:List Block)(e:LT)(g:d.length=e.length)(c:d.length<=1000)(f:Sl UInt8)(h:(els f).length<=1000000)(n:Nat)(j:n<=80000)(a:Int)(l:1<=a/\a<=6)(i b:Int)(hi:0<=i/\i<=100)(k:0<=b/\b<=1000) :
 ∃ q:Bytes×Nat,q.1.length<=1000/\q.2<=n+40/\Ev tab A6 A5 21 [.ptr 0 0 0 1,.ptr 3 0 0 1,.N a,.N i,.N b] (Eh d e f n)=some (.str q.1,Eh d e f q.2):=by
 have:a=1\/a=2\/a=3\/a=4\/a=5\/a=6:=om;rcases this with rfl|rfl|rfl|rfl|rfl|rfl
 ·exact dq4 d e g c f h n j i b
 ·exact dq5 d e g c f h n j i b hi
 ·exact dq2 d e g c f h n j i b hi
 ·exact dq0 d e g c f h n j i b
 ·exact dq1 d e g c f h n j i b
 ·exact dq3 d e g c f h n j i b k 6 (by decide)
def e4c(a:Int)(h:0<=a/\a<7):∃ z:Int,(1<=z/\z<=6)/\([[AV.N 1],[AV.N 2],[AV.N 2],[AV.N 3],[AV.N 4],[AV.N 5],[AV.N 6]]:List LA)[a.toNat]?=some [.N z]:=by
 have:a=0\/a=1\/a=2\/a=3\/a=4\/a=5\/a=6:=om;rcases this with rfl|rfl|rfl|rfl|rfl|rfl|rfl<;>exact⟨_,by decide,rfl⟩
def Lz(o:List (Int×Bytes)):Dev:=(T5 (Co (Di 68) o).1).1
def c55(o:List (Int×Bytes))(m:o.length<=100000):DevOk (Lz o):=by
 have i:Co (Di 68) o=Dl (Di 68) o:=rfl;obtain⟨j,d,h3⟩:=Ys o (Di 68);have k:els (Di 68).last=List.replicate 68 (zs 256):=rfl;have g:els (Di 68).wait=[]:=rfl;rw[g,f3w,f66]at d;unfold Lz;rw[i];generalize (Dl (Di 68) o).1=e at *;have a:els e.last=List.replicate 68 (zs 256):=by rw[j,k]
 have b:∀ s∈els e.last,s.length<=256:=by
  intro s f;rw[a]at f;rw[(List.mem_replicate.1 f).2,zs,f0j];exact f6o _
 have c:∀ p∈els e.wait,p.2.length<=256:=by
  intro p l;rcases h3 p l with h|h
  ·rw[g]at h;cases h
  ·omega
 unfold T5;split
 ·exact⟨by show(els e.last).length<=1000;rw[a,f0j];decide,f61 d om,b,c⟩
 ·split
  ·exact⟨by show(els e.last).length<=1000;rw[a,f0j];decide,by show(els e.wait).length<=1000000;exact f61 d om,b,c⟩
  ·refine⟨?_,by simp[els],?_,by simp[els]⟩
   ·show(Kn (els e.last) (els e.wait) _).length<=1000;rw[a79,a,f0j];decide
   ·exact c3q (f6o _) _ _ _ b
def Uo(r:Nat)(a:List LP)(l:List Block):(l.map D5).map (C5 r a)=l.map D5:=T4 _ _ _ λe b=>by obtain⟨p,_,rfl⟩:=f62.1 b;rfl
def e4g(o:List (Int×Bytes)):(Co (Di 68) o).1.lies=0:=by
 show(Dl (Di 68) o).1.lies=0;rw[Yr];rfl
def e4h(e:Sl UInt8)(z:(els e).length<=1000000) :
 ∃ q:List (Int×Bytes)×LT×Nat,q.1.length<=1000/\q.2.1.length=21/\Ev tab A6 A5 7 [.ptr 0 0 0 1] [some [[A4 pu8 e,.N 0]]]=some (.tuple [.agg (Eg (Lz q.1)),.own 1 6 0 21 21],[some [[A4 pu8 e,.N q.2.2]],some (q.2.1.map Ac)]):=by
 refine Yd (λs h=>Bz l7 rfl h) ?_;simp(disch:=try exact dq)only[tx,seval,g7];generalize hr:Aj _ _ _=r;refine a2e (Q:=λr=>∃ a:List (Int×Bytes)×LT×Nat,a.1.length<=1000/\a.2.1.length=21/\E5 _ _ _ (Bm _ _ (Bi _ r))=some (.tuple [.agg (Eg (Lz a.1)),.own 1 6 0 21 21],[some [[A4 pu8 e,.N a.2.2]],some (a.2.1.map Ac)])) hr 4
  (λj V H=>∃ (o:List (Int×Bytes)) (n:Nat),o.length=j/\n<=j/\V=[.ptr 0 0 0 1,.ptr 1 0 0 1,U,.own 2 2 0 o.length o.length,.N j,U,U,U,U,U,U,U,U,U,U,U,U,U,U,U,U,U]/\H=[some [[A4 pu8 e,.N (n:Nat)]],some [[.emp,.emp,.N 0,.N 0,.bool false]],some (o.map Fe)]) ?_ ?_ ?_
 ·exact⟨[],0,rfl,f6o _,rfl,rfl⟩
 ·rintro j hj V H ⟨o,n,ho,hn,rfl,rfl⟩;have u:((j:Int)<4):=om;have hN:=Dt e z n om 8 om;have hv:=Du (els e) n 8 om;have ai:=Dv (els e) n 8;generalize D8 (els e) n 8=v at *;generalize Cy (els e) n 8=T at *;have hu:v.tdiv 7=v/7:=ey2 om;have hA:=λH=>a56 (orc:=A6) (lk:=A5) 40 j H (λH=>Xm 40 H);have hC:=λH=>cm5 (orc:=A6) (7+v/7) 40 H;have af:o.map Fe++[[.N (Fr 40 j),.str (K3 (7+v/7) 40)]]=(o++[(Fr 40 j,K3 (7+v/7) 40)]).map Fe:=by rw[f4c];rfl
  simp(disch:=try exact dq)only[tx,seval,u,KQ 20 rfl,Am,hN,hu,hA,hC,af,Fv,Hi,f3z,f1q,f33,f3w,f52];exact⟨o++[(Fr 40 j,K3 (7+v/7) 40)],T,by simp[ho],by omega,by rw[f1q];rfl,rfl⟩
 ·rintro V H ⟨o,n,ho,hn,rfl,rfl⟩;simp(disch:=try exact dq)only[tx,seval,Fv,Hi,f3z];generalize aj:Aj _ _ _=r2;refine a2e (Q:=λr=>∃ a:List (Int×Bytes)×LT×Nat,a.1.length<=1000/\a.2.1.length=21/\E5 _ _ _ (Bm _ _ (Lg _ _ (Bi _ r)))=some (.tuple [.agg (Eg (Lz a.1)),.own 1 6 0 21 21],[some [[A4 pu8 e,.N a.2.2]],some (a.2.1.map Ac)])) aj 21
   (λj V H=>∃ (o:List (Int×Bytes)) (n:Nat) (g:List Block) (k:LT),g.length=j/\k.length=j/\o.length<=4+2*j/\n<=4+100*j/\V=[.ptr 0 0 0 1,.ptr 1 0 0 1,U,.own 2 2 0 o.length o.length,U,.ptr 3 0 0 1,.N j,U,U,U,U,U,U,U,U,U,U,U,U,U,U,U]/\H=[some [[A4 pu8 e,.N (n:Nat)]],some [[.emp,.emp,.N 0,.N 0,.bool false]],some (o.map Fe),some [[.own 4 3 0 g.length g.length,.own 5 6 0 g.length g.length]],some (g.map D5),some (k.map Ac)]) ?_ ?_ ?_
  ·exact⟨o,n,[],[],rfl,rfl,by omega,by omega,rfl,rfl⟩
  ·rintro j hj V H ⟨o,n,g,k,p,t,ho,hn,rfl,rfl⟩;have u:((j:Int)<21):=om;have L:(j:Int).tdiv 7=(j:Int)/7:=ey2 om;have O:(j:Int).tmod 7=(j:Int)%7:=ey3 om;obtain⟨C,al,K⟩:=e4c ((j:Int)%7) om;have hN:=Dt e z n om 16 om;have hv:=Du (els e) n 16 om;have ai:=Dv (els e) n 16;generalize D8 (els e) n 16=v at *;generalize Cy (els e) n 16=T at *;by_cases E:v=15
   ·have a7:=Dt e z T om 6 om;have ao:=Du (els e) T 6 om;have an:=Dv (els e) T 6;generalize D8 (els e) T 6=D at *;generalize Cy (els e) T 6=n2 at *;obtain⟨⟨ld,w⟩,a3,a4,y⟩:=c35 g k om om e z n2 om (1+D) om j (1+(j:Int)/7) om om;simp only[Eh]at a3 a4 y;have a2:k.length=g.length:=om;rw[a2]at y;have G:=λH=>a4v (orc:=A6) (14+(j:Int)) (1+D) (1+(j:Int)/7) ld om H;simp only[Ac]at G;have m:=λH=>Xa (orc:=A6) (1+D) (1+(j:Int)/7) ld om H;generalize Hp (14+(j:Int)) ⟨1+D,1+(j:Int)/7,ld⟩=Q at *;generalize Dh ⟨1+D,1+(j:Int)/7,ld⟩=PB at *;have l:g.map D5++[[.N (1+D),.N (1+(j:Int)/7),.str ld]]=(g++[(⟨1+D,1+(j:Int)/7,ld⟩:Block)]).map D5:=(by rw[f4c];rfl);have x:k.map Ac++[[.N Q.addr,.N Q.birth,.M Q.sum.a.toNat,.M Q.sum.b.toNat,.M Q.sum.c.toNat,.M Q.sum.d.toNat]]=(k++[Q]).map Ac:=(by rw[f4c];rfl);have app:∀ (o:List (Int×Bytes)) (a:Int) (b:Bytes),o.map Fe++[[.N a,.str b]]=(o++[(a,b)]).map Fe:=λo a b=>(by rw[f4c];rfl);by_cases F:1+D=6
    ·have Z:=Dt e z w om 9 om;have ac:=Du (els e) w 9 om;have a9:=Dv (els e) w 9;generalize D8 (els e) w 9=R at *;generalize Cy (els e) w 9=A at *;have a0:=Dt e z A om 9 om;have ad:=Du (els e) A 9 om;have aa:=Dv (els e) A 9;generalize D8 (els e) A 9=S at *;generalize Cy (els e) A 9=B at *;have a1:=Dt e z B om 4 om;have ae:=Du (els e) B 4 om;have ab:=Dv (els e) B 4;generalize D8 (els e) B 4=w3 at *;generalize Cy (els e) B 4=m3 at *;have a5:R.tdiv 8=R/8:=ey2 om;have a6:S.tdiv 8=S/8:=ey2 om;have Y:=ao1 40 w3 (1+(j:Int)/7) om;have X:=λH=>b2m (orc:=A6) (1+(j:Int)/7+R/8) (7+S/8) (1+(j:Int)/7) Q.addr Q.birth Q.sum.a Q.sum.b Q.sum.c Q.sum.d H;generalize Js ⟨1+(j:Int)/7+R/8,7+S/8,1+(j:Int)/7,⟨Q.addr,Q.birth,⟨Q.sum.a,Q.sum.b,Q.sum.c,Q.sum.d⟩⟩⟩=PU at *;have i:=l;rw[F]at y G m i;simp(disch:=try exact dq)only[tx,seval,u,L,O,K,KQ 20 rfl,KQ 21 rfl,Dz (f:=20) rfl,Bl,Bo,Am,hN,a7,E,y,G,m,l,x,app,Fv,Hi,Bc,Bb,Av,Aw,f3z,f1q,f33,f3w,f3t,f52,F,i,Z,a0,a1,a5,a6,Y,X];exact⟨o++[(Q.addr,PB)]++[(Px 40 w3 (1+(j:Int)/7),PU)],m3,g++[(⟨1+D,1+(j:Int)/7,ld⟩:Block)],k++[Q],by simp[p],by simp[t],by simp only[f1q,f33,f3w];omega,by omega,by simp only[f1q,f33,f3w];try rfl,by simp only[f1q,f33,f3w,F]⟩
    ·simp(disch:=try exact dq)only[tx,seval,u,L,O,K,KQ 20 rfl,KQ 21 rfl,Dz (f:=20) rfl,Bl,Bo,Am,hN,a7,E,y,G,m,l,x,app,Fv,Hi,Bc,Bb,Av,Aw,f3z,f1q,f33,f3w,f3t,f52,F];exact⟨o++[(Q.addr,PB)],w,g++[(⟨1+D,1+(j:Int)/7,ld⟩:Block)],k++[Q],by simp[p],by simp[t],by simp only[f1q,f33,f3w];omega,by omega,by simp only[f1q,f33,f3w];try rfl,by simp only[f1q,f33,f3w]⟩
   ·obtain⟨⟨ld,w⟩,a3,a4,y⟩:=c35 g k om om e z T om (C) om j (1+(j:Int)/7) om om;simp only[Eh]at a3 a4 y;have a2:k.length=g.length:=om;rw[a2]at y;have G:=λH=>a4v (orc:=A6) (14+(j:Int)) (C) (1+(j:Int)/7) ld om H;simp only[Ac]at G;have m:=λH=>Xa (orc:=A6) (C) (1+(j:Int)/7) ld om H;generalize Hp (14+(j:Int)) ⟨C,1+(j:Int)/7,ld⟩=Q at *;generalize Dh ⟨C,1+(j:Int)/7,ld⟩=PB at *;have l:g.map D5++[[.N (C),.N (1+(j:Int)/7),.str ld]]=(g++[(⟨C,1+(j:Int)/7,ld⟩:Block)]).map D5:=(by rw[f4c];rfl);have x:k.map Ac++[[.N Q.addr,.N Q.birth,.M Q.sum.a.toNat,.M Q.sum.b.toNat,.M Q.sum.c.toNat,.M Q.sum.d.toNat]]=(k++[Q]).map Ac:=(by rw[f4c];rfl);have app:∀ (o:List (Int×Bytes)) (a:Int) (b:Bytes),o.map Fe++[[.N a,.str b]]=(o++[(a,b)]).map Fe:=λo a b=>(by rw[f4c];rfl);by_cases F:C=6
    ·have Z:=Dt e z w om 9 om;have ac:=Du (els e) w 9 om;have a9:=Dv (els e) w 9;generalize D8 (els e) w 9=R at *;generalize Cy (els e) w 9=A at *;have a0:=Dt e z A om 9 om;have ad:=Du (els e) A 9 om;have aa:=Dv (els e) A 9;generalize D8 (els e) A 9=S at *;generalize Cy (els e) A 9=B at *;have a1:=Dt e z B om 4 om;have ae:=Du (els e) B 4 om;have ab:=Dv (els e) B 4;generalize D8 (els e) B 4=w3 at *;generalize Cy (els e) B 4=m3 at *;have a5:R.tdiv 8=R/8:=ey2 om;have a6:S.tdiv 8=S/8:=ey2 om;have Y:=ao1 40 w3 (1+(j:Int)/7) om;have X:=λH=>b2m (orc:=A6) (1+(j:Int)/7+R/8) (7+S/8) (1+(j:Int)/7) Q.addr Q.birth Q.sum.a Q.sum.b Q.sum.c Q.sum.d H;generalize Js ⟨1+(j:Int)/7+R/8,7+S/8,1+(j:Int)/7,⟨Q.addr,Q.birth,⟨Q.sum.a,Q.sum.b,Q.sum.c,Q.sum.d⟩⟩⟩=PU at *;have i:=l;rw[F]at y G m i;simp(disch:=try exact dq)only[tx,seval,u,L,O,K,KQ 20 rfl,KQ 21 rfl,Dz (f:=20) rfl,Bl,Bo,Am,hN,E,y,G,m,l,x,app,Fv,Hi,Bc,Bb,Av,Aw,f3z,f1q,f33,f3w,f3t,f52,F,i,Z,a0,a1,a5,a6,Y,X];exact⟨o++[(Q.addr,PB)]++[(Px 40 w3 (1+(j:Int)/7),PU)],m3,g++[(⟨C,1+(j:Int)/7,ld⟩:Block)],k++[Q],by simp[p],by simp[t],by simp only[f1q,f33,f3w];omega,by omega,by simp only[f1q,f33,f3w];try rfl,by simp only[f1q,f33,f3w,F]⟩
    ·simp(disch:=try exact dq)only[tx,seval,u,L,O,K,KQ 20 rfl,KQ 21 rfl,Dz (f:=20) rfl,Bl,Bo,Am,hN,E,y,G,m,l,x,app,Fv,Hi,Bc,Bb,Av,Aw,f3z,f1q,f33,f3w,f3t,f52,F];exact⟨o++[(Q.addr,PB)],w,g++[(⟨C,1+(j:Int)/7,ld⟩:Block)],k++[Q],by simp[p],by simp[t],by simp only[f1q,f33,f3w];omega,by omega,by simp only[f1q,f33,f3w];try rfl,by simp only[f1q,f33,f3w]⟩
  ·rintro V H ⟨o,n,g,k,p,t,ho,hn,rfl,rfl⟩;have a8:=λH=>b3g 68 om om H;have h0:Co (Di 68) o=Dl (Di 68) o:=rfl;obtain⟨h1,h2,h3⟩:=Ys o (Di 68);have am:(els (Di 68).last).length=68:=(by rw[show els (Di 68).last=List.replicate 68 (zs 256)from rfl,f0j]);have ap:(els (Di 68).wait).length=0:=rfl;have ak:(Di 68).arm=0:=rfl;have P:=λH=>b7w (Di 68) (some o) (by show o.length<=_;omega) om om om H;have ah:=e4g o;have I:=λH=>cb1 (Co (Di 68) o).1 (by rw[h0,h1];omega) (by rw[h0];omega) (by rw[ah];omega) H;rw[Az]at P;have ag:(T5 (Co (Di 68) o).1).1=Lz o:=rfl;rw[ag]at I;generalize hJ:Lz o=J at I;generalize (Co (Di 68) o).2=b2 at *;generalize (Co (Di 68) o).1=W at *;generalize Di 68=N0 at *;simp only[B5]at P;simp only[Eg]at a8 P I;simp(disch:=try exact dq)only[tx,seval,a8,P,I,Kb,M2,Uo,Av,Aw,Bc,Bb];have e3:Lz o=J:=hJ;exact⟨(o,k,n),by show o.length<=1000;omega,t,by rw[p,e3];rfl⟩
def Pt(s:LO)(a:Int):Nat->Int
 |0=>a
 |k+1=>(E6 s (Pt s a k)).up
def ay4(s:LO)(k:Nat)(a:Int)(h:¬ (0<a/\a<s.length)):Lc s k a=a:=by
 cases k with
 |zero=>rfl
 |succ k=>rw[Lc,iN h]
def bf1(s:Sl Node)(hs:(els s).length<=1000000)(ab:∀ x∈els s,x.name.length<=1000000)(ac:∀ x∈els s,-1000000000000<=x.up/\x.up<=1000000000000)(H:AH):K tab A6 A5 10 [A4 Ap s] H=some (.bool (tornNodes (els s)),H):=by
 refine Ae l10 rfl (by simp[Aa,Ab,Ai]) rfl ?_ H;by_cases n:((els s).length:Int)=8
 ·have Y:(els s).length=8:=om;have a8:(0:Int)<(els s).length:=om;have e0:=b5m ((els s).getD 0 df);by_cases cf:(els s).getD 0 df=foldN
  ·have a9:∀ j,j<8->(els s).getD j df∈els s:=λj hj=>by
    rw[ex9,ez2 (show j<(els s).length by omega)];exact f3e _
   have V:∀ j,0<j->j<8->F9 (els s) j=false->tornNodes (els s)=false:=λj R hj C=>by
    unfold tornNodes;rw[f2s];intro h;simp only[f32,f35,f4q,f44,f2f]at h;rcases h.2 j om with G|G
    ·omega
    ·rw[C]at G;cases G
   rw[cf]at e0;have Z:(!(decide (foldN.kind=2)&&(decide (foldN.up=0)&&(decide (foldN.name=[])&&(decide (foldN.body=[])&&decide (foldN.bad=0))))))=false:=(by decide);simp(disch:=try exact dq)only[tx,seval,Ou,n,a8,Ad,Ap,cf,f5a,Z];generalize hr:Aj _ _ _=r;refine B6 hr 7
    (λj=>[A4 Ap s,U,.N ((j:Int)+1),U,U,U,U,U,U,U,U,U,U])
    (λj=>[]) (λj=>∀ i,0<i->i<j+1->F9 (els s) i=true) ?_ ?_ ?_ ?_ ?_
   ·rfl
   ·rfl
   ·intro i h1 G;omega
   ·intro j hj hI;have o:((j:Int)+1<8):=om;have E:((j:Int)+1).toNat=j+1:=om;have D:=a9 (j+1) om;have aa:=ab _ D;have ad:=ac _ D;have v:F9 (els s) (j+1)=true->∀ i,0<i->i<j+1+1->F9 (els s) i=true:=λh i R h1=>by
     rcases f5u i (j+1)with G|G
     ·exact hI i R G
     ·rw[show i=j+1 by omega];exact h
    have f:=V (j+1) om om;have e:F9 (els s) (j+1)=if((els s).getD (j+1) df).kind=0 then decide ((els s).getD (j+1) df=node0)else
     if((els s).getD (j+1) df).kind=3 then decide ((els s).getD (j+1) df=lostN)else
     Jg ((els s).getD (j+1) df)&&mayName ((els s).getD (j+1) df).name&&folderT (els s) ((els s).getD (j+1) df).up&&decide (((els s).getD (j+1) df).body.length<=128)&&Rc (els s) (j+1)&&decide (Lc (els s) (els s).length ((j+1:Nat):Int)=0):=rfl
    generalize z:(els s).getD (j+1) df=x at *;have ez:=ax4 x;have el:=cf2 x;by_cases w:x.kind=0
    ·rw[iP w]at e;simp(disch:=try exact dq)only[tx,seval,o,E,n,Ad,Ap,z,w,f52];rw[w]at ez;simp only[f6s,f5e]at ez;rw[ez];by_cases W:x=node0
     ·refine⟨λh=>absurd h (by simp[W]),λ_=>⟨rfl,v (by rw[e];simp[W])⟩⟩
     ·refine⟨λ_=>by rw[f (by rw[e];simp[W])],λh=>(h (by simp[W])).elim⟩
    by_cases A:x.kind=3
    ·rw[iN w,iP A]at e;simp(disch:=try exact dq)only[tx,seval,o,E,n,Ad,Ap,z,A,f52];rw[A]at el;simp only[f6s,f5e]at el;rw[el];by_cases W:x=lostN
     ·refine⟨λh=>absurd h (by simp[W]),λ_=>⟨rfl,v (by rw[e];simp[W])⟩⟩
     ·refine⟨λ_=>by rw[f (by rw[e];simp[W])],λh=>(h (by simp[W])).elim⟩
    have J:=do9 x.name aa;have S:=eh4 s hs x.up;have P:((j+1:Nat):Int)=(j:Int)+1:=rfl;rw[iN w,iN A]at e;by_cases I:x.kind=1
    ·by_cases F:x.bad<0
     ·have:Jg x=false:=(by unfold Jg;rw[f2s];simp only[ne_eq,f44,f32,f2f];omega);have l:F9 (els s) (j+1)=false:=(by rw[e];rw[this];rfl);rw[f l];simp(disch:=try exact dq)only[tx,seval,o,E,P,n,Ad,Ap,z,w,A,I,F,f52]
     by_cases b2:15<x.bad
     ·have:Jg x=false:=(by unfold Jg;rw[f2s];simp only[ne_eq,f44,f32,f2f];omega);have l:F9 (els s) (j+1)=false:=(by rw[e];rw[this];rfl);rw[f l];simp(disch:=try exact dq)only[tx,seval,o,E,P,n,Ad,Ap,z,w,A,I,F,b2,f52]
     have a4:Jg x=true:=(by unfold Jg;simp only[f44,f32,f2f];omega);rw[a4,f5e]at e;cases u:mayName x.name with
     |false=>
       rw[u]at J e;have l:F9 (els s) (j+1)=false:=(by rw[e];rfl);rw[f l];simp(disch:=try exact dq)only[tx,seval,o,E,P,n,Ad,Ap,z,w,A,I,F,b2,J,f52]
     |true=>
     rw[u,f5e]at e;rw[u]at J;cases t:folderT (els s) x.up with
     |false=>
       rw[t]at S e;have l:F9 (els s) (j+1)=false:=(by rw[e];rfl);rw[f l];simp(disch:=try exact dq)only[tx,seval,o,E,P,n,Ad,Ap,z,w,A,I,F,b2,J,S,f52]
     |true=>
     rw[t,f5e]at e;rw[t]at S;by_cases T:128<x.body.length
     ·have a01:decide (x.body.length<=128)=false:=(by simp;omega);rw[a01]at e;have l:F9 (els s) (j+1)=false:=(by rw[e];rfl);rw[f l];simp(disch:=try exact dq)only[tx,seval,o,E,P,n,Ad,Ap,z,w,A,I,F,b2,J,S,T,f52]
     have a01:decide (x.body.length<=128)=true:=(by simp;omega);rw[a01,f5e]at e;simp(disch:=try exact dq)only[tx,seval,o,E,P,n,Ad,Ap,z,w,A,I,F,b2,J,S,T,f52];have L:Rc (els s) (j+1)=true↔∀ m,0<m->m<j+1->¬ (((els s).getD m df).kind≠0/\((els s).getD m df).kind≠3/\((els s).getD m df).up=x.up/\((els s).getD m df).name=x.name):=by
      unfold Rc;rw[z];simp only[f35,f4q,f44,f2o,f2f,f02];constructor
      ·rintro h m R D ⟨a,b,c,d⟩;rcases h m D with (((h|h)|h)|h)|h
       ·omega
       ·exact a h
       ·exact b h
       ·exact h c
       ·exact h d
      ·intro h m D;by_cases m0:m=0
       ·exact .inl (.inl (.inl (.inl m0)))
       have:=h m om D;by_cases a:((els s).getD m df).kind=0
       ·exact .inl (.inl (.inl (.inr a)))
       by_cases b:((els s).getD m df).kind=3
       ·exact .inl (.inl (.inr b))
       by_cases c:((els s).getD m df).up=x.up
       ·exact .inr (λd=>this ⟨a,b,c,d⟩)
       ·exact .inl (.inr c)
     generalize a6:Aj _ _ _=r1;refine Hr (Q:=λr=>Rd _ _ _ _ (G3 _ _ (Bm _ _ (Bi _ (Bm _ _ (Bi _ r)))))) a6 j
      (λk=>[A4 Ap s,U,.N ((j:Int)+1),.ptr 0 0 0 1,.N ((k:Int)+1),U,U,U,U,U,U,U,U])
      (λk=>_) (λk=>∀ m,0<m->m<k+1->¬ (((els s).getD m df).kind≠0/\((els s).getD m df).kind≠3/\((els s).getD m df).up=x.up/\((els s).getD m df).name=x.name)) ?_ rfl ?_ ?_ ?_
     ·rfl
     ·intro m R D;omega
     ·intro k hk B;have a3:((k:Int)+1<(j:Int)+1):=om;have v1:((k:Int)+1).toNat=k+1:=om;have p:((k:Int)+1<8):=om;have M:¬ (((els s).getD (k+1) df).kind≠0/\((els s).getD (k+1) df).kind≠3/\((els s).getD (k+1) df).up=x.up/\((els s).getD (k+1) df).name=x.name)->∀ m,0<m->m<k+1+1->¬ (((els s).getD m df).kind≠0/\((els s).getD m df).kind≠3/\((els s).getD m df).up=x.up/\((els s).getD m df).name=x.name):=λh m R D=>by
       rcases f5u m (k+1)with G|G
       ·exact B m R G
       ·rw[show m=k+1 by omega];exact h
      have O:=λh:_/\_/\_/\_=>λl:Rc (els s) (j+1)=true=>L.1 l (k+1) om om h;generalize hy:(els s).getD (k+1) df=y at M O;simp(disch:=try exact dq)only[tx,seval,a3,p,v1,hy,n,Ad,Ap,f52];refine⟨λh=>?_,λh=>⟨rfl,M (λc=>h ?_)⟩⟩
      ·have l:F9 (els s) (j+1)=false:=by
        rw[e,f2s];intro hc;simp only[f32]at hc;refine O ?_ hc.1;simp only[f32,f2f,f2o,f02]at h;exact⟨h.1.1.1,h.1.1.2,h.1.2,h.2⟩
       rw[f l]
      ·simp only[f32,f2f,f2o,f02];exact⟨⟨⟨c.1,c.2.1⟩,c.2.2.1⟩,c.2.2.2⟩
     ·intro B;have a0:=L.2 B;rw[a0,f5e]at e;simp(disch:=try exact dq)only[tx,seval,f5q,n,Ad,Ap,f52];generalize a7:Aj _ _ _=r2;refine Hr (Q:=λr=>Rd _ _ _ _ (G3 _ _ (Bm _ _ (Bi _ (Bm _ _ (Bi _ r)))))) a7 8
       (λk=>[A4 Ap s,U,.N ((j:Int)+1),U,U,.N (Pt (els s) ((j:Int)+1) k),.N k,U,U,U,U,U,U])
       (λk=>_) (λk=>Lc (els s) (els s).length ((j+1:Nat):Int)=Lc (els s) (8-k) (Pt (els s) ((j:Int)+1) k)) ?_ rfl ?_ ?_ ?_
      ·rfl
      ·rw[Y];rfl
      ·intro k hk g;have p:((k:Int)<8):=om;rw[show 8-k=(7-k)+1 by omega]at g;rw[show Pt (els s) ((j:Int)+1) (k+1)=(E6 (els s) (Pt (els s) ((j:Int)+1) k)).up from rfl,show 8-(k+1)=7-k by omega];generalize Pt (els s) ((j:Int)+1) k=a at *;by_cases a1:0<a
       ·by_cases a2:a<8
        ·rw[Lc,iP ⟨a1,by omega⟩]at g;have a5:(els s).getD a.toNat df=E6 (els s) a:=rfl;simp(disch:=try exact dq)only[tx,seval,p,a1,a2,a5,n,Ad,Ap,f52];exact⟨rfl,g⟩
        ·rw[ay4 (els s) (7-k+1) a om]at g;have q:¬ a=0:=om;have l:F9 (els s) (j+1)=false:=(by rw[e,g];simp[q]);rw[f l];simp(disch:=try exact dq)only[tx,seval,p,a1,a2,q,n,f52]
       ·rw[ay4 (els s) (7-k+1) a om]at g;by_cases q:a=0
        ·have C:F9 (els s) (j+1)=true:=(by rw[e,g];simp[q]);simp(disch:=try exact dq)only[tx,seval,p,a1,q,n,f52]
         first|exact v C|exact⟨rfl,v C⟩
        ·have l:F9 (els s) (j+1)=false:=(by rw[e,g];simp[q]);rw[f l];simp(disch:=try exact dq)only[tx,seval,p,a1,q,n,f52]
      ·intro g;rw[show 8-8=0 from rfl,Lc]at g;generalize Pt (els s) ((j:Int)+1) 8=a at *;by_cases q:a=0
       ·have C:F9 (els s) (j+1)=true:=(by rw[e,g];simp[q]);simp(disch:=try exact dq)only[tx,seval,f5q,q,n,f52]
        first|exact v C|exact⟨rfl,v C⟩
       ·have l:F9 (els s) (j+1)=false:=(by rw[e,g];simp[q]);rw[f l];simp(disch:=try exact dq)only[tx,seval,f5q,q,n,f52]
    by_cases X:x.kind=2
    ·by_cases F:x.bad=0
     case neg=>
      have:Jg x=false:=(by unfold Jg;rw[f2s];simp only[ne_eq,f44,f32,f2f];omega);have l:F9 (els s) (j+1)=false:=(by rw[e];rw[this];rfl);rw[f l];simp(disch:=try exact dq)only[tx,seval,o,E,P,n,Ad,Ap,z,w,A,I,X,F,f52]
     by_cases b2:x.body=[]
     case neg=>
      have:Jg x=false:=(by unfold Jg;rw[f2s];simp only[ne_eq,f44,f32,f2f];rintro(h|h);omega;exact b2 h.2);have l:F9 (els s) (j+1)=false:=(by rw[e];rw[this];rfl);rw[f l];simp(disch:=try exact dq)only[tx,seval,o,E,P,n,Ad,Ap,z,w,A,I,X,F,b2,f52]
     have a4:Jg x=true:=(by unfold Jg;simp only[f44,f32,f2f];exact .inr ⟨⟨X,F⟩,b2⟩);rw[a4,f5e]at e;cases u:mayName x.name with
     |false=>
       rw[u]at J e;have l:F9 (els s) (j+1)=false:=(by rw[e];rfl);rw[f l];simp(disch:=try exact dq)only[tx,seval,o,E,P,n,Ad,Ap,z,w,A,I,X,F,b2,J,f52]
     |true=>
     rw[u,f5e]at e;rw[u]at J;cases t:folderT (els s) x.up with
     |false=>
       rw[t]at S e;have l:F9 (els s) (j+1)=false:=(by rw[e];rfl);rw[f l];simp(disch:=try exact dq)only[tx,seval,o,E,P,n,Ad,Ap,z,w,A,I,X,F,b2,J,S,f52]
     |true=>
     rw[t,f5e]at e;rw[t]at S;have T:¬ 128<x.body.length:=(by rw[b2];decide);have a01:decide (x.body.length<=128)=true:=(by simp;omega);rw[a01,f5e]at e;simp(disch:=try exact dq)only[tx,seval,o,E,P,n,Ad,Ap,z,w,A,I,X,F,b2,J,S,T,f52];have L:Rc (els s) (j+1)=true↔∀ m,0<m->m<j+1->¬ (((els s).getD m df).kind≠0/\((els s).getD m df).kind≠3/\((els s).getD m df).up=x.up/\((els s).getD m df).name=x.name):=by
      unfold Rc;rw[z];simp only[f35,f4q,f44,f2o,f2f,f02];constructor
      ·rintro h m R D ⟨a,b,c,d⟩;rcases h m D with (((h|h)|h)|h)|h
       ·omega
       ·exact a h
       ·exact b h
       ·exact h c
       ·exact h d
      ·intro h m D;by_cases m0:m=0
       ·exact .inl (.inl (.inl (.inl m0)))
       have:=h m om D;by_cases a:((els s).getD m df).kind=0
       ·exact .inl (.inl (.inl (.inr a)))
       by_cases b:((els s).getD m df).kind=3
       ·exact .inl (.inl (.inr b))
       by_cases c:((els s).getD m df).up=x.up
       ·exact .inr (λd=>this ⟨a,b,c,d⟩)
       ·exact .inl (.inr c)
     generalize a6:Aj _ _ _=r1;refine Hr (Q:=λr=>Rd _ _ _ _ (G3 _ _ (Bm _ _ (Bi _ (Bm _ _ (Bi _ r)))))) a6 j
      (λk=>[A4 Ap s,U,.N ((j:Int)+1),.ptr 0 0 0 1,.N ((k:Int)+1),U,U,U,U,U,U,U,U])
      (λk=>_) (λk=>∀ m,0<m->m<k+1->¬ (((els s).getD m df).kind≠0/\((els s).getD m df).kind≠3/\((els s).getD m df).up=x.up/\((els s).getD m df).name=x.name)) ?_ rfl ?_ ?_ ?_
     ·rfl
     ·intro m R D;omega
     ·intro k hk B;have a3:((k:Int)+1<(j:Int)+1):=om;have v1:((k:Int)+1).toNat=k+1:=om;have p:((k:Int)+1<8):=om;have M:¬ (((els s).getD (k+1) df).kind≠0/\((els s).getD (k+1) df).kind≠3/\((els s).getD (k+1) df).up=x.up/\((els s).getD (k+1) df).name=x.name)->∀ m,0<m->m<k+1+1->¬ (((els s).getD m df).kind≠0/\((els s).getD m df).kind≠3/\((els s).getD m df).up=x.up/\((els s).getD m df).name=x.name):=λh m R D=>by
       rcases f5u m (k+1)with G|G
       ·exact B m R G
       ·rw[show m=k+1 by omega];exact h
      have O:=λh:_/\_/\_/\_=>λl:Rc (els s) (j+1)=true=>L.1 l (k+1) om om h;generalize hy:(els s).getD (k+1) df=y at M O;simp(disch:=try exact dq)only[tx,seval,a3,p,v1,hy,n,Ad,Ap,f52];refine⟨λh=>?_,λh=>⟨rfl,M (λc=>h ?_)⟩⟩
      ·have l:F9 (els s) (j+1)=false:=by
        rw[e,f2s];intro hc;simp only[f32]at hc;refine O ?_ hc.1;simp only[f32,f2f,f2o,f02]at h;exact⟨h.1.1.1,h.1.1.2,h.1.2,h.2⟩
       rw[f l]
      ·simp only[f32,f2f,f2o,f02];exact⟨⟨⟨c.1,c.2.1⟩,c.2.2.1⟩,c.2.2.2⟩
     ·intro B;have a0:=L.2 B;rw[a0,f5e]at e;simp(disch:=try exact dq)only[tx,seval,f5q,n,Ad,Ap,f52];generalize a7:Aj _ _ _=r2;refine Hr (Q:=λr=>Rd _ _ _ _ (G3 _ _ (Bm _ _ (Bi _ (Bm _ _ (Bi _ r)))))) a7 8
       (λk=>[A4 Ap s,U,.N ((j:Int)+1),U,U,.N (Pt (els s) ((j:Int)+1) k),.N k,U,U,U,U,U,U])
       (λk=>_) (λk=>Lc (els s) (els s).length ((j+1:Nat):Int)=Lc (els s) (8-k) (Pt (els s) ((j:Int)+1) k)) ?_ rfl ?_ ?_ ?_
      ·rfl
      ·rw[Y];rfl
      ·intro k hk g;have p:((k:Int)<8):=om;rw[show 8-k=(7-k)+1 by omega]at g;rw[show Pt (els s) ((j:Int)+1) (k+1)=(E6 (els s) (Pt (els s) ((j:Int)+1) k)).up from rfl,show 8-(k+1)=7-k by omega];generalize Pt (els s) ((j:Int)+1) k=a at *;by_cases a1:0<a
       ·by_cases a2:a<8
        ·rw[Lc,iP ⟨a1,by omega⟩]at g;have a5:(els s).getD a.toNat df=E6 (els s) a:=rfl;simp(disch:=try exact dq)only[tx,seval,p,a1,a2,a5,n,Ad,Ap,f52];exact⟨rfl,g⟩
        ·rw[ay4 (els s) (7-k+1) a om]at g;have q:¬ a=0:=om;have l:F9 (els s) (j+1)=false:=(by rw[e,g];simp[q]);rw[f l];simp(disch:=try exact dq)only[tx,seval,p,a1,a2,q,n,f52]
       ·rw[ay4 (els s) (7-k+1) a om]at g;by_cases q:a=0
        ·have C:F9 (els s) (j+1)=true:=(by rw[e,g];simp[q]);simp(disch:=try exact dq)only[tx,seval,p,a1,q,n,f52]
         first|exact v C|exact⟨rfl,v C⟩
        ·have l:F9 (els s) (j+1)=false:=(by rw[e,g];simp[q]);rw[f l];simp(disch:=try exact dq)only[tx,seval,p,a1,q,n,f52]
      ·intro g;rw[show 8-8=0 from rfl,Lc]at g;generalize Pt (els s) ((j:Int)+1) 8=a at *;by_cases q:a=0
       ·have C:F9 (els s) (j+1)=true:=(by rw[e,g];simp[q]);simp(disch:=try exact dq)only[tx,seval,f5q,q,n,f52]
        first|exact v C|exact⟨rfl,v C⟩
       ·have l:F9 (els s) (j+1)=false:=(by rw[e,g];simp[q]);rw[f l];simp(disch:=try exact dq)only[tx,seval,f5q,q,n,f52]
    ·have:Jg x=false:=(by unfold Jg;simp[I,X]);rw[this]at e;rw[f (by rw[e];rfl)];simp(disch:=try exact dq)only[tx,seval,o,E,n,Ad,Ap,z,w,I,X,A,f52]
   ·intro hI;have C:tornNodes (els s)=true:=by
     unfold tornNodes;rw[Y,cf];simp only[f6s,f5e,f35,f4q,f44,f2f];intro i hi;rcases f1o i with h|h
     ·exact .inl h
     ·exact .inr (hI i h om)
    rw[C];simp(disch:=try exact dq)only[tx,seval,n,f52]
  ·have Z:(!(decide (((els s).getD 0 df).kind=2)&&(decide (((els s).getD 0 df).up=0)&&(decide (((els s).getD 0 df).name=[])&&(decide (((els s).getD 0 df).body=[])&&decide (((els s).getD 0 df).bad=0))))))=true:=(by rw[e0,f4e cf];rfl);simp(disch:=try exact dq)only[tx,seval,Ou,n,a8,Ad,Ap,f5a,Z];unfold tornNodes;rw[f4e cf];simp
 ·simp(disch:=try exact dq)only[tx,seval,Ou,n];have:¬ (els s).length=8:=om;unfold tornNodes;simp[this]
def dn2(s:LO)(h:a10 s=false):Df s=s:=by
 have c:∀ x∈s,x.kind≠3/\x.bad=0:=by
  intro x b;unfold a10 at h;rw[Bool.or_eq_false_iff]at h;constructor
  ·intro a;have:(s.any λx=>decide (x.kind=3))=true:=f3j.2 ⟨x,b,by simp[a]⟩;rw[this]at h;cases h.1
  ·refine ey8 λa=>?_;have:(s.any λx=> !decide (x.bad=0))=true:=f3j.2 ⟨x,b,by simp[a]⟩;rw[this]at h;cases h.2
 have d:∀ n,n<=s.length->Dn s n=s:=by
  intro n
  induction n with
  |zero=>intro _;rfl
  |succ n g=>
    intro i;rw[Dn,g om];have f:s.getD n df∈s:=by rw[ex9,ez2 (show n<s.length by omega)];exact f3e _
    have:=c _ f;unfold Su;rw[iN om,iN];rintro⟨e,_⟩;rw[e]at this;exact this.1 rfl
 exact d _ (f6o _)
def do6(s:LO):(tornNodes s&&!a10 s)=mayNodes s:=by
 rw[f4d,f32];constructor
 ·rintro⟨g,j⟩;have k:a10 s=false:=by simpa using j
  rw[<-dn2 s k,b18];exact g
 ·intro h;refine⟨dn9 h,?_⟩;have b:=c27 h;rw[f2o];unfold a10;rw[Bool.or_eq_false_iff];unfold mayNodes at h;simp only[f32,f2f,f35,f44]at h;have c:∀ x∈s,x.kind≠3/\x.bad=0:=by
   intro x c;obtain⟨i,hi,rfl⟩:=f0z.1 c;rcases f1o i with f|f
   ·subst f;have e:s[0]=foldN:=by
     have:=h.1.1.2;rw[ex9,ez2 hi]at this;exact this
    rw[e];exact⟨by decide,rfl⟩
   ·have l:s[i]∈s.drop 1:=by
     rw[f0z];exact⟨i-1,by rw[f38];omega,by rw[List.getElem_drop];congr 1;omega⟩
    rcases h.1.2 _ l with e|e
    ·rw[e];exact⟨by decide,rfl⟩
    ·unfold J8 at e;simp only[f32,f2f]at e;refine⟨?_,e.1.1.1⟩;intro h3
     have:=e.2;rw[iN om]at this;simp only[f32,f2f]at this;omega
  constructor
  ·rw[f2s];intro d;obtain⟨x,b,a⟩:=f3j.1 d;exact(c x b).1 (f2w a)
  ·rw[f2s];intro d;obtain⟨x,b,a⟩:=f3j.1 d;rw[(c x b).2]at a;exact absurd a (by decide)
def dp3(s:Sl Node)(e:(els s).length<=1000000)(a:∀ x∈els s,x.name.length<=1000000)(b:∀ x∈els s,-1000000000000<=x.up/\x.up<=1000000000000)(H:AH):K tab A6 A5 35 [A4 Ap s] H=some (.bool (mayNodes (els s)),H):=by
 refine Ae l35 rfl (by simp[Aa,Ab,Ai]) rfl ?_ H;have d:=bf1 s e a b;have f:=eq0 s e;rw[<-do6];cases c:tornNodes (els s)<;>rw[c]at d
 all_goals simp(disch:=try exact dq)only[tx,seval,g35,d,f,f4x,f5e]
def b5e(n:Int):∀ (l:LD) (j:Nat),j<=l.length->(∀ i,i<j->(l.getD i df).id≠n)->Gl l n=if Gl (l.drop j) n<0 then -1 else j+Gl (l.drop j) n
 |l,0,_,_=>by
   have:=ag5 l n;rw[f4p];split<;>omega
 |[],j+1,h,_=>by simp at h
 |d::l,j+1,h,hb=>by
   have a:=hb 0 om;rw[f1g]at a;have b:=b5e n l j (by simpa using h) λi hi=>(by have:=hb (i+1) om;rwa [f1b]at this);rw[Gl,iN a,f19,b]
   have:=ag5 (l.drop j) n;by_cases c:Gl (l.drop j) n<0
   ·simp[c]
   ·rw[iN c,iN c,iN om];omega
def er5(l:Sl Dset)(m:(els l).length<=1000000)(n:Int)(H:AH):K tab A6 A5 78 [A4 Ao l,.N n] H=some (.N (Gl (els l) n),H):=by
 refine Ae l78 rfl (by simp[Aa,Ab,Ai]) rfl ?_ H;simp(disch:=try exact dq)only[tx,seval,g78];generalize k:Aj _ _ _=r;refine B6 k (els l).length (λj=>[A4 Ao l,.N n,U,.N j])
  (λj=>[]) (λj=>∀ i,i<j->((els l).getD i df).id≠n) ?_ ?_ ?_ ?_ ?_
 ·rfl
 ·rfl
 ·exact λi h=>absurd h (f4f i)
 ·intro j g hI;have b:((j:Int)<((els l).length:Int)):=om;have a:=b5e n (els l) j om hI;rw[F7 g,Gl]at a;have d:((els l).getD j df).id≠n->∀ i,i<j+1->((els l).getD i df).id≠n:=λh i hi=>by
   rcases f5u i j with e|e
   ·exact hI i e
   ·rw[show i=j by omega];exact h
  generalize f:(els l).getD j df=x at a d;by_cases c:x.id=n
  ·rw[iP c,iN om,f6k]at a;rw[a];simp(disch:=try exact dq)only[tx,seval,b,Ad,Ao,f,c,f52]
  ·simp(disch:=try exact dq)only[tx,seval,b,Ad,Ao,f,c,f52];exact⟨rfl,d c⟩
 ·intro hI;have a:=b5e n (els l) (els l).length (f6o _) hI;rw[f3n,Gl,iP om]at a;rw[a];simp(disch:=try exact dq)only[tx,seval,f5q]
def Kt(d:Dset):LA:=[.N d.id,.N d.kind,.N d.origin,.N d.quota,A4 Ap d.files]
def c9a(l:Sl Dset)(a:(els l).length<=1000000)(n:Int)(H:AH):K tab A6 A5 36 [A4 Ao l,.N n] H=some (.tuple [.agg (Kt ((getA (els l) n).getD Iw)),.bool (getA (els l) n).isSome],H):=by
 refine Ae l36 rfl (by simp[Aa,Ab,Ai]) (by simp[Kt,Aa,Ab,Ai]) ?_ H;have h:=er5 l a n;have b:=ag5 (els l) n;unfold getA;by_cases c:Gl (els l) n<0
 ·rw[iN om];simp(disch:=try exact dq)only[tx,seval,g36,h,c];rfl
 ·rw[iP om];generalize Gl (els l) n=i at *;generalize d:(els l).getD i.toNat df=x at *;simp(disch:=try exact dq)only[tx,seval,g36,h,c,Ad,Ao,d];rfl
def FilesOk(s:LO):Prop:=s.length<=1000000/\∀ x∈s,x.name.length<=1000000/\ -1000000000000<=x.up/\x.up<=1000000000000
def b3o(l:Sl Dset)(hl:(els l).length<=1000000)(hf:∀ d∈els l,FilesOk (els d.files))(H:AH):K tab A6 A5 11 [A4 Ao l] H=some (.bool (Nj (els l)),H):=by
 refine Ae l11 rfl (by simp[Aa,Ab,Ai]) rfl ?_ H;by_cases A:8<((els l).length:Int)
 ·have:Nj (els l)=false:=by unfold Nj;rw[show decide ((els l).length<=8)=false by simp;omega];rfl
  rw[this];simp(disch:=try exact dq)only[tx,seval,g11,A]
 simp(disch:=try exact dq)only[tx,seval,g11,A];generalize hr:Aj _ _ _=r;have Z:∀ j,j<(els l).length->(els l).getD j df∈els l:=λj hj=>by
  rw[ex9,ez2 hj];exact f3e _
 refine B6 hr (els l).length
  (λj=>[A4 Ao l,U,.N j,U,U,U,U,U,U,U,U,U,U,U,U,U,U,U,U,U,U])
  (λj=>[]) (λj=>∀ i,i<j->Dm (els l) i=true) ?_ ?_ ?_ ?_ ?_
 ·rfl
 ·rfl
 ·exact λi h=>absurd h (f4f i)
 ·intro j hj hI;have q:((j:Int)<((els l).length:Int)):=om;have F:(((j:Int)-1)).toNat=j-1:=om;have R:Dm (els l) j=true->∀ i,i<j+1->Dm (els l) i=true:=λh i hi=>by
   rcases f5u i j with L|L
   ·exact hI i L
   ·rw[show i=j by omega];exact h
  have p:Dm (els l) j=false->Nj (els l)=false:=λh=>by
   unfold Nj;rw[f2s];intro hc;simp only[f32,f35,f4q]at hc
   have:=hc.2.1 j hj;rw[h]at this;cases this
  have m:Dm (els l) j=true↔(1<=((els l).getD j df).id/\((els l).getD j df).id<=65535/\(j=0\/((els l).getD (j-1) df).id<((els l).getD j df).id)/\mayNodes (els ((els l).getD j df).files)=true/\0<=((els l).getD j df).quota/\((els l).getD j df).quota<=255/\(if((els l).getD j df).kind=2 then((els l).getD j df).quota=0/\Jh (els l) ((els l).getD j df).origin 1=true else if((els l).getD j df).kind=1 then((els l).getD j df).origin=0\/Jh (els l) ((els l).getD j df).origin 2=true else False)):=by
   unfold Dm;simp only[f32,f44,f2f];constructor
   ·rintro⟨⟨⟨⟨⟨⟨a,b⟩,c⟩,d⟩,e⟩,f⟩,g⟩;refine⟨a,b,c,d,e,f,?_⟩;split at g
    ·rw[iP (by assumption)];simpa using g
    ·split at g
     ·rw[iN (by assumption),iP (by assumption)];simpa using g
     ·cases g
   ·rintro⟨a,b,c,d,e,f,g⟩;refine⟨⟨⟨⟨⟨⟨a,b⟩,c⟩,d⟩,e⟩,f⟩,?_⟩;split at g
    ·rw[iP (by assumption)];simpa using g
    ·split at g
     ·rw[iN (by assumption),iP (by assumption)];simpa using g
     ·cases g
  have a0:=hf _ (Z j hj);have B:=dp3 ((els l).getD j df).files a0.1 (λx v=>(a0.2 x v).1) (λx v=>(a0.2 x v).2);have t:=c9a l hl ((els l).getD j df).origin;generalize v:(els l).getD j df=x at *;generalize E:(els l).getD (j-1) df=y at *;have C:=b4f x.id;by_cases D:x.id<1
  ·have n:Dm (els l) j=false:=f2s.2 (λh=>by have:=m.1 h;(try simp only[f0m,f32,f2f,f02]at *);omega);rw[p n];simp(disch:=try exact dq)only[tx,seval,q,Ad,Ao,v,E,F,f52,A,D]
  cases V:(decide (0<=x.id)&&decide (x.id<=65535))with
  |false=>
    rw[V]at C;have n:Dm (els l) j=false:=f2s.2 (λh=>by have:=m.1 h;(try simp only[f0m,f32,f2f,f02]at *);omega);rw[p n];simp(disch:=try exact dq)only[tx,seval,q,Ad,Ao,v,E,F,f52,A,D,C]
  |true=>
    rw[V]at C;by_cases J:0<(j:Int)
    ·by_cases S:x.id<=y.id
     ·have n:Dm (els l) j=false:=f2s.2 (λh=>by have:=m.1 h;(try simp only[f0m,f32,f2f,f02]at *);omega);rw[p n];simp(disch:=try exact dq)only[tx,seval,q,Ad,Ao,v,E,F,f52,A,D,C,J,S]
     cases T:mayNodes (els x.files)with
     |false=>
       rw[T]at B;have n:Dm (els l) j=false:=f2s.2 (λh=>by have:=(m.1 h).2.2.2.1;rw[T]at this;cases this);rw[p n];simp(disch:=try exact dq)only[tx,seval,q,Ad,Ao,v,E,F,f52,A,D,C,J,S,B]
     |true=>
       rw[T]at B;by_cases O:x.quota<0
       ·have n:Dm (els l) j=false:=f2s.2 (λh=>by have:=m.1 h;(try simp only[f0m,f32,f2f,f02]at *);omega);rw[p n];simp(disch:=try exact dq)only[tx,seval,q,Ad,Ao,v,E,F,f52,A,D,C,J,S,B,O]
       by_cases P:255<x.quota
       ·have n:Dm (els l) j=false:=f2s.2 (λh=>by have:=m.1 h;(try simp only[f0m,f32,f2f,f02]at *);omega);rw[p n];simp(disch:=try exact dq)only[tx,seval,q,Ad,Ao,v,E,F,f52,A,D,C,J,S,B,O,P]
       by_cases w:x.kind=2
       ·cases s:getA (els l) x.origin with
        |none=>
          rw[s]at t;simp only[f3r,f1m,Kt,Iw]at t;by_cases u:x.quota=0
          ·have n:Dm (els l) j=false:=f2s.2 (λh=>by have:=(m.1 h).2.2.2.2.2.2;rw[iP w]at this;have L:=this.2;unfold Jh at L;rw[s]at L;cases L);rw[p n];simp(disch:=try exact dq)only[tx,seval,q,Ad,Ao,v,E,F,f52,A,D,C,J,S,B,O,P,w,u,t]
          ·have n:Dm (els l) j=false:=f2s.2 (λh=>by have:=(m.1 h).2.2.2.2.2.2;rw[iP w]at this;have L:=this.2;unfold Jh at L;rw[s]at L;cases L);rw[p n];simp(disch:=try exact dq)only[tx,seval,q,Ad,Ao,v,E,F,f52,A,D,C,J,S,B,O,P,w,u,t]
        |some o=>
          rw[s]at t;simp only[f31,f1n,Kt]at t;by_cases u:x.quota=0
          case neg=>
           have n:Dm (els l) j=false:=f2s.2 (λh=>by have:=(m.1 h).2.2.2.2.2.2;rw[iP w]at this;exact u this.1);rw[p n];simp(disch:=try exact dq)only[tx,seval,q,Ad,Ao,v,E,F,f52,A,D,C,J,S,B,O,P,w,u,t]
          by_cases X:o.kind=1
          ·have I:Dm (els l) j=true:=m.2 ⟨by omega,by simp only[f32,f2f]at V;omega,.inr om,T,by omega,by omega,by rw[iP w];exact⟨u,L5.2 ⟨o,s,X⟩⟩⟩;simp(disch:=try exact dq)only[tx,seval,q,Ad,Ao,v,E,F,f52,A,D,C,J,S,B,O,P,w,u,t,X];exact⟨rfl,R I⟩
          ·have n:Dm (els l) j=false:=f2s.2 (λh=>by have:=(m.1 h).2.2.2.2.2.2;rw[iP w]at this;obtain⟨o',G,L⟩:=L5.1 this.2;rw[s]at G;cases G;exact X L);rw[p n];simp(disch:=try exact dq)only[tx,seval,q,Ad,Ao,v,E,F,f52,A,D,C,J,S,B,O,P,w,u,t,X]
       by_cases M:x.kind=1
       ·cases s:getA (els l) x.origin with
        |none=>
          rw[s]at t;simp only[f3r,f1m,Kt,Iw]at t;by_cases u:x.origin=0
          ·have I:Dm (els l) j=true:=m.2 ⟨by omega,by simp only[f32,f2f]at V;omega,.inr om,T,by omega,by omega,by rw[iN w,iP M];exact .inl u⟩;rw[u]at t;simp(disch:=try exact dq)only[tx,seval,q,Ad,Ao,v,E,F,f52,A,D,C,J,S,B,O,P,M,t,u];exact⟨rfl,R I⟩
          ·have n:Dm (els l) j=false:=f2s.2 (λh=>by have:=(m.1 h).2.2.2.2.2.2;rw[iN w,iP M]at this;rcases this with G|G;exact u G;unfold Jh at G;rw[s]at G;cases G);rw[p n];simp(disch:=try exact dq)only[tx,seval,q,Ad,Ao,v,E,F,f52,A,D,C,J,S,B,O,P,M,t,u]
        |some o=>
          rw[s]at t;simp only[f31,f1n,Kt]at t;by_cases u:x.origin=0
          ·have I:Dm (els l) j=true:=m.2 ⟨by omega,by simp only[f32,f2f]at V;omega,.inr om,T,by omega,by omega,by rw[iN w,iP M];exact .inl u⟩;rw[u]at t;simp(disch:=try exact dq)only[tx,seval,q,Ad,Ao,v,E,F,f52,A,D,C,J,S,B,O,P,M,t,u];exact⟨rfl,R I⟩
          by_cases Y:o.kind=2
          ·have I:Dm (els l) j=true:=m.2 ⟨by omega,by simp only[f32,f2f]at V;omega,.inr om,T,by omega,by omega,by rw[iN w,iP M];exact .inr (L5.2 ⟨o,s,Y⟩)⟩;simp(disch:=try exact dq)only[tx,seval,q,Ad,Ao,v,E,F,f52,A,D,C,J,S,B,O,P,M,t,u,Y];exact⟨rfl,R I⟩
          ·have n:Dm (els l) j=false:=f2s.2 (λh=>by have:=(m.1 h).2.2.2.2.2.2;rw[iN w,iP M]at this;rcases this with G|G;exact u G;obtain⟨o',G,L⟩:=L5.1 G;rw[s]at G;cases G;exact Y L);rw[p n];simp(disch:=try exact dq)only[tx,seval,q,Ad,Ao,v,E,F,f52,A,D,C,J,S,B,O,P,M,t,u,Y]
       cases s:getA (els l) x.origin with
       |none=>
         rw[s]at t;simp only[f3r,f1m,Kt,Iw]at t;have n:Dm (els l) j=false:=f2s.2 (λh=>by have:=(m.1 h).2.2.2.2.2.2;rw[iN w,iN M]at this;exact this);rw[p n];simp(disch:=try exact dq)only[tx,seval,q,Ad,Ao,v,E,F,f52,A,D,C,J,S,B,O,P,M,w,t]
       |some o=>
         rw[s]at t;simp only[f31,f1n,Kt]at t;have n:Dm (els l) j=false:=f2s.2 (λh=>by have:=(m.1 h).2.2.2.2.2.2;rw[iN w,iN M]at this;exact this);rw[p n];simp(disch:=try exact dq)only[tx,seval,q,Ad,Ao,v,E,F,f52,A,D,C,J,S,B,O,P,M,w,t]
    ·cases T:mayNodes (els x.files)with
     |false=>
       rw[T]at B;have n:Dm (els l) j=false:=f2s.2 (λh=>by have:=(m.1 h).2.2.2.1;rw[T]at this;cases this);rw[p n];simp(disch:=try exact dq)only[tx,seval,q,Ad,Ao,v,E,F,f52,A,D,C,J,B]
     |true=>
       rw[T]at B;by_cases O:x.quota<0
       ·have n:Dm (els l) j=false:=f2s.2 (λh=>by have:=m.1 h;(try simp only[f0m,f32,f2f,f02]at *);omega);rw[p n];simp(disch:=try exact dq)only[tx,seval,q,Ad,Ao,v,E,F,f52,A,D,C,J,B,O]
       by_cases P:255<x.quota
       ·have n:Dm (els l) j=false:=f2s.2 (λh=>by have:=m.1 h;(try simp only[f0m,f32,f2f,f02]at *);omega);rw[p n];simp(disch:=try exact dq)only[tx,seval,q,Ad,Ao,v,E,F,f52,A,D,C,J,B,O,P]
       by_cases w:x.kind=2
       ·cases s:getA (els l) x.origin with
        |none=>
          rw[s]at t;simp only[f3r,f1m,Kt,Iw]at t;by_cases u:x.quota=0
          ·have n:Dm (els l) j=false:=f2s.2 (λh=>by have:=(m.1 h).2.2.2.2.2.2;rw[iP w]at this;have L:=this.2;unfold Jh at L;rw[s]at L;cases L);rw[p n];simp(disch:=try exact dq)only[tx,seval,q,Ad,Ao,v,E,F,f52,A,D,C,J,B,O,P,w,u,t]
          ·have n:Dm (els l) j=false:=f2s.2 (λh=>by have:=(m.1 h).2.2.2.2.2.2;rw[iP w]at this;have L:=this.2;unfold Jh at L;rw[s]at L;cases L);rw[p n];simp(disch:=try exact dq)only[tx,seval,q,Ad,Ao,v,E,F,f52,A,D,C,J,B,O,P,w,u,t]
        |some o=>
          rw[s]at t;simp only[f31,f1n,Kt]at t;by_cases u:x.quota=0
          case neg=>
           have n:Dm (els l) j=false:=f2s.2 (λh=>by have:=(m.1 h).2.2.2.2.2.2;rw[iP w]at this;exact u this.1);rw[p n];simp(disch:=try exact dq)only[tx,seval,q,Ad,Ao,v,E,F,f52,A,D,C,J,B,O,P,w,u,t]
          by_cases X:o.kind=1
          ·have I:Dm (els l) j=true:=m.2 ⟨by omega,by simp only[f32,f2f]at V;omega,.inl om,T,by omega,by omega,by rw[iP w];exact⟨u,L5.2 ⟨o,s,X⟩⟩⟩;simp(disch:=try exact dq)only[tx,seval,q,Ad,Ao,v,E,F,f52,A,D,C,J,B,O,P,w,u,t,X];exact⟨rfl,R I⟩
          ·have n:Dm (els l) j=false:=f2s.2 (λh=>by have:=(m.1 h).2.2.2.2.2.2;rw[iP w]at this;obtain⟨o',G,L⟩:=L5.1 this.2;rw[s]at G;cases G;exact X L);rw[p n];simp(disch:=try exact dq)only[tx,seval,q,Ad,Ao,v,E,F,f52,A,D,C,J,B,O,P,w,u,t,X]
       by_cases M:x.kind=1
       ·cases s:getA (els l) x.origin with
        |none=>
          rw[s]at t;simp only[f3r,f1m,Kt,Iw]at t;by_cases u:x.origin=0
          ·have I:Dm (els l) j=true:=m.2 ⟨by omega,by simp only[f32,f2f]at V;omega,.inl om,T,by omega,by omega,by rw[iN w,iP M];exact .inl u⟩;rw[u]at t;simp(disch:=try exact dq)only[tx,seval,q,Ad,Ao,v,E,F,f52,A,D,C,J,B,O,P,M,t,u];exact⟨rfl,R I⟩
          ·have n:Dm (els l) j=false:=f2s.2 (λh=>by have:=(m.1 h).2.2.2.2.2.2;rw[iN w,iP M]at this;rcases this with G|G;exact u G;unfold Jh at G;rw[s]at G;cases G);rw[p n];simp(disch:=try exact dq)only[tx,seval,q,Ad,Ao,v,E,F,f52,A,D,C,J,B,O,P,M,t,u]
        |some o=>
          rw[s]at t;simp only[f31,f1n,Kt]at t;by_cases u:x.origin=0
          ·have I:Dm (els l) j=true:=m.2 ⟨by omega,by simp only[f32,f2f]at V;omega,.inl om,T,by omega,by omega,by rw[iN w,iP M];exact .inl u⟩;rw[u]at t;simp(disch:=try exact dq)only[tx,seval,q,Ad,Ao,v,E,F,f52,A,D,C,J,B,O,P,M,t,u];exact⟨rfl,R I⟩
          by_cases Y:o.kind=2
          ·have I:Dm (els l) j=true:=m.2 ⟨by omega,by simp only[f32,f2f]at V;omega,.inl om,T,by omega,by omega,by rw[iN w,iP M];exact .inr (L5.2 ⟨o,s,Y⟩)⟩;simp(disch:=try exact dq)only[tx,seval,q,Ad,Ao,v,E,F,f52,A,D,C,J,B,O,P,M,t,u,Y];exact⟨rfl,R I⟩
          ·have n:Dm (els l) j=false:=f2s.2 (λh=>by have:=(m.1 h).2.2.2.2.2.2;rw[iN w,iP M]at this;rcases this with G|G;exact u G;obtain⟨o',G,L⟩:=L5.1 G;rw[s]at G;cases G;exact Y L);rw[p n];simp(disch:=try exact dq)only[tx,seval,q,Ad,Ao,v,E,F,f52,A,D,C,J,B,O,P,M,t,u,Y]
       cases s:getA (els l) x.origin with
       |none=>
         rw[s]at t;simp only[f3r,f1m,Kt,Iw]at t;have n:Dm (els l) j=false:=f2s.2 (λh=>by have:=(m.1 h).2.2.2.2.2.2;rw[iN w,iN M]at this;exact this);rw[p n];simp(disch:=try exact dq)only[tx,seval,q,Ad,Ao,v,E,F,f52,A,D,C,J,B,O,P,M,w,t]
       |some o=>
         rw[s]at t;simp only[f31,f1n,Kt]at t;have n:Dm (els l) j=false:=f2s.2 (λh=>by have:=(m.1 h).2.2.2.2.2.2;rw[iN w,iN M]at this;exact this);rw[p n];simp(disch:=try exact dq)only[tx,seval,q,Ad,Ao,v,E,F,f52,A,D,C,J,B,O,P,M,w,t]
 ·intro hI;simp(disch:=try exact dq)only[tx,seval,f5q,A];generalize a1:Aj _ _ _=r2;refine B6 a1 (els l).length
   (λj=>[A4 Ao l,U,U,U,U,U,.N j,U,U,U,U,U,U,U,U,U,U,U,U,U,U])
   (λj=>[]) (λj=>∀ i,i<j->(Cz (els l) (2*(els l).length+1) ((els l).getD i df)).id=0) ?_ ?_ ?_ ?_ ?_
  ·rfl
  ·rfl
  ·exact λi h=>absurd h (f4f i)
  ·intro j hj hJ;have q:((j:Int)<((els l).length:Int)):=om;have R:(Cz (els l) (2*(els l).length+1) ((els l).getD j df)).id=0->∀ i,i<j+1->(Cz (els l) (2*(els l).length+1) ((els l).getD i df)).id=0:=λh i hi=>by
    rcases f5u i j with L|L
    ·exact hJ i L
    ·rw[show i=j by omega];exact h
   have p:(Cz (els l) (2*(els l).length+1) ((els l).getD j df)).id≠0->Nj (els l)=false:=λh=>by
    unfold Nj;rw[f2s];intro hc;simp only[f32,f35,f2f]at hc;exact h (hc.2.2 _ (Z j hj))
   generalize v:(els l).getD j df=x at *;simp(disch:=try exact dq)only[tx,seval,q,Ad,Ao,v,f52];generalize a2:Aj _ _ _=r3;refine Hr (Q:=λr=>Rd _ _ _ _ (G3 _ _ (Bm _ _ (Bi _ (Bm _ _ (Bi _ r)))))) a2 (2*(els l).length+1)
    (λk=>[A4 Ao l,U,U,U,U,U,.N j,.ptr 0 0 0 1,.N k,U,U,U,U,U,U,U,U,U,U,U,U])
    (λk=>[some [Kt (Cz (els l) k x)]]) (λ_=>True) ?_ ?_ trivial ?_ ?_
   ·rfl
   ·rfl
   ·intro k hk _;have W:((k:Int)<=2*((els l).length:Int)):=om;rw[a7e];have t:=c9a l hl (Cz (els l) k x).origin;unfold Hq;generalize Cz (els l) k x=y at *;generalize (getA (els l) y.origin).getD Iw=z at *;unfold Kt at t ⊢;simp(disch:=try exact dq)only[tx,seval,W,t,f52];rfl
   ·intro _;generalize Cz (els l) (2*(els l).length+1) x=y at *;have W:¬ (((2*(els l).length+1:Nat):Int)<=2*((els l).length:Int)):=om;unfold Kt;by_cases y0:y.id=0
    ·simp(disch:=try exact dq)only[tx,seval,W,y0,f52]
     first|exact⟨rfl,R y0⟩|exact R y0
    ·rw[p y0];simp(disch:=try exact dq)only[tx,seval,W,y0,f52]
  ·intro hJ;have ht:Nj (els l)=true:=by
    unfold Nj;simp only[f32,f35,f2f,f4q];refine⟨by omega,hI,λd hd=>?_⟩;obtain⟨i,hi,rfl⟩:=f0z.1 hd
    have:=hJ i hi;rw[ex9,ez2 hi]at this;exact this
   rw[ht];simp(disch:=try exact dq)only[tx,seval,f5q]
def d8b(l:Sl Dset)(i:(els l).length<=1000000)(e:∀ d∈els l,(els d.files).length<=1000000)(H:AH):K tab A6 A5 95 [A4 Ao l,A4 Ao l] H=some (.bool true,H):=by
 refine Ae l95 rfl (by simp[Aa,Ab,Ai]) rfl ?_ H;simp(disch:=try exact dq)only[tx,seval,g95];generalize g:Aj _ _ _=r;refine B6 g (els l).length
  (λj=>[A4 Ao l,A4 Ao l,U,.N j,U,U])
  (λj=>[]) (λ_=>True) ?_ ?_ trivial ?_ ?_
 ·rfl
 ·rfl
 ·intro j f _;have b:((j:Int)<((els l).length:Int)):=om;have a:(els l).getD j df∈els l:=by
   rw[ex9,ez2 f];exact f3e _
  generalize h:(els l).getD j df=x at *;have c:=d8e x.files x.files (e x a) (e x a);rw[f51 rfl]at c;simp(disch:=try exact dq)only[tx,seval,b,Ad,Ao,h,c,f52];rfl
 ·intro _;simp(disch:=try exact dq)only[tx,seval,f5q]
def a5d(n:Node):Prop:=n.name.length<=8/\0<=n.up/\n.up<8
def df5{d:Dev}{n:Nat}{p:Ptr}{x:Node}{l:LT}(h:Xg d n p=some (x,l)):a5d x:=by
 unfold Xg at h;split at h
 ·rename_i y z m c;rw[ex2]at h;obtain⟨s,_,e⟩:=f01.1 c;have a:=b1e e;have b:=congrArg Prod.fst (f4a h.2);simp only at b;subst b;exact⟨a.1.2.2.2,a.1.2.1,a.1.2.2.1⟩
 ·cases h
def d7q(d:Dev)(n:Nat)(p:Ptr):a5d (V4 d n p).1:=by
 unfold V4;split
 ·split
  ·rename_i x l h;exact df5 h
  ·simp only[];split
   ·exact⟨by decide,by decide,by decide⟩
   ·exact⟨by decide,by decide,by decide⟩
 ·exact⟨by decide,by decide,by decide⟩
def bm3(d:Dev):∀ (l:LT) (n:Nat),∀ x∈Kf d n l,a5d x.1
 |[],_,x,h=>by simp[Kf]at h
 |p::l,n,x,h=>by
   rw[Kf,f5h]at h;rcases h with rfl|h
   ·exact d7q d n p
   ·exact bm3 d l (n+1) x h
def c31:∀ x∈Xo,a5d x:=by
 intro x a;simp only[Xo,f5h,f3c,f6z]at a;rcases a with rfl|rfl|rfl|rfl|rfl|rfl|rfl|rfl<;>exact⟨by decide,by decide,by decide⟩
def d9h(d:Dev)(p:Ptr):(Bt d p).set.length=8/\∀ x∈(Bt d p).set,a5d x:=by
 unfold Bt;split
 ·exact⟨rfl,c31⟩
 ·rename_i l a;obtain⟨s,_,b⟩:=f01.1 a;have h8:=(b1d b).1;unfold ag7;split
  ·refine⟨by rw[f3z,ao0,h8],λx c=>?_⟩;obtain⟨y,e,rfl⟩:=f62.1 c;exact bm3 d l 0 y e
  ·exact⟨rfl,c31⟩
def d4t{l:List DsetH}{m:List FilesR}{x:Dset}(h:x∈List.zipWith (λx f=>Jy x f.set) l m):∃ a b,b∈m/\Jy a b.set=x:=by
 induction l generalizing m with
 |nil=>simp at h
 |cons a l i=>
   cases m with
   |nil=>simp at h
   |cons b m=>
     rw[f0b,f5h]at h;rcases h with h|h
     ·exact⟨a,b,by simp,h.symm⟩
     ·obtain⟨c,d,e,g⟩:=i h;exact⟨c,d,by simp[e],g⟩
def bo1(d:Dev)(l:List DsetH)(q:LT):∀ x∈List.zipWith (λx f=>Jy x f.set) l (q.map (Bt d)),(els x.files).length=8/\∀ n∈els x.files,a5d n:=by
 intro x e;obtain⟨a,b,c,rfl⟩:=d4t e;obtain⟨p,_,rfl⟩:=f62.1 c;exact d9h d p
def d4u(l:List DsetH):∀ m:List FilesR,List.zipWith Od l m=(List.zipWith (λx f=>Jy x f.set) l m).map λa=>(Ao a).map emb:=by
 induction l with
 |nil=>intro m;rfl
 |cons a l c=>
   intro m;cases m with
   |nil=>rfl
   |cons b m=>rw[f0b,f0b,f5b,c m];rfl
def d80(d:Dev)(l:List DsetH)(q:LT)(b:l.length=q.length):setsJ d l q l.length=(List.zipWith (λx f=>Jy x f.set) l (q.map (Bt d))).map λa=>(Ao a).map emb:=by
 unfold setsJ;rw[show q.take l.length=q by rw[b];exact f3m,f3n,f5x,f42];exact d4u l _
def a15(d:Dev)(p:Ptr):AV:=match Ff d p with
 |some v=>.tuple [.agg (Ft v.r (A4 A8 (B8 v.s.held)) (A4 A8 (B8 v.s.one)) (A4 A8 (B8 v.s.two)) (A4 A8 (B8 v.s.kept)) v),.bool true]
 |none=>.tuple [.agg K8,.bool false]
def d58(d:Dev)(p:Ptr):Ab (a15 d p)=true:=by
 unfold a15;split
 ·simp[Ft,Cm,Ab,Aa,Ai]
 ·rfl
def al4(r sz o l t:Nat)(H:AH):K tab A6 A5 114 [.own r sz o l t] H=Gr tab A6 A5 114 [.own r sz o l t] H (Aa (B9 H [.own r sz o l t])) (K tab A6 A5 114 (B9 H [.own r sz o l t]) H):=Hy _ _ _ rfl _ _
def d6k(n:Int):S6 n []=none:=by
 have:E9 n []=none:=by
  unfold E9;rw[iN];rintro⟨h,a,_⟩;have b:40<=n/\n<=240:=by unfold Ic at h;simpa using h
  rw[f3w]at a;omega
 unfold S6;rw[this]
def c9o(r:Nat)(b:List LP)(A:LD):(A.map λa=>(Ao a).map emb).map (C5 r b)=A.map λa=>(Ao a).map emb:=T4 _ _ _ λe c=>by
 obtain⟨a,_,rfl⟩:=f62.1 c;show Aa [AV.N a.id,.N a.kind,.N a.origin,.N a.quota,emb (Lt Ap a.files)]=true;rw[Ks];simp[Aa,Ab,Ai]
def b86(d:Dev)(v:DevOk d)(p:Ptr)(H:AH):K tab A6 A5 73 [.agg [A4 B4 d.last,A4 Ay d.wait,.N d.lies,.N d.arm,.bool d.down],.agg [.N p.addr,.N p.birth,.M p.sum.a.toNat,.M p.sum.b.toNat,.M p.sum.c.toNat,.M p.sum.d.toNat]] H=some (a15 d p,H):=by
 refine Ae l73 rfl (by simp[Aa,Ab,Ai]) (d58 d p) ?_ H;unfold a15 Ff;cases J:R6 d p with
 |none=>
   have m:=c8p d v p J;simp(disch:=try exact dq)only[tx,seval,Uh,m,K8]
 |some x=>
   obtain⟨r,l,q⟩:=x;have m:=c8o d v p J;obtain⟨k,L⟩:=b4g J;have j:=ce3 d v r l q k L;rw[d80 d l q k]at j;have tB:=bf7 d q l.length k;have Z:=bf6 d q l.length k;have O:=bo1 d l q;have R:∀ s,K7 (r,l,q) s (q.map (Bt d))=⟨r,s,List.zipWith (λx f=>Jy x f.set) l (q.map (Bt d)),q,q.map λp=>(Bt d p).node,q.map λp=>(Bt d p).part⟩:=λs=>by
    simp[K7,f6a]
   simp only[R];have E:(List.zipWith (λx f=>Jy x f.set) l (q.map (Bt d))).length=l.length:=(by simp;omega);have X:(q.map λp=>(Bt d p).node).length=l.length:=(by simp;omega);have Y:(q.map λp=>(Bt d p).part).length=l.length:=(by simp;omega);generalize List.zipWith (λx f=>Jy x f.set) l (q.map (Bt d))=A at *;generalize (q.map λp=>(Bt d p).node)=B at *;generalize (q.map λp=>(Bt d p).part)=C at *;have o:=b5t (some A) (by rw[Az];omega) (λx Q=>⟨by have:=(O x Q).1;omega,λn S=>by have:=((O x Q).2 n S).1;omega⟩);rw[Az,B5]at o;have T:List.take l.length (A.map Ao)=A.map Ao:=f0a (by rw[f3z];omega);have U:List.take l.length (B.map Lu)=B.map Lu:=f0a (by rw[f3z];omega);have V:List.take l.length (C.map Lu)=C.map Lu:=f0a (by rw[f3z];omega);have W:List.take l.length (q.map Al)=q.map Al:=f0a (by rw[f3z];omega);have D:List.take l.length (A.map λa=>(Ao a).map emb)=A.map λa=>(Ao a).map emb:=f0a (by rw[f3z];omega);have vA:∀ H,(A.map λa=>(Ao a).map emb).map (λe=>e.map (Db H 3))=A.map Ao:=λH=>b0r H A Ao;have i:=a2d d v r.space 5;have h3:=v.last;have z:=ck8 d.last d.wait d.lies d.arm d.down om;have e:Fd ⟨d.last,d.wait,d.lies,d.arm,d.down⟩=Fd d:=rfl;rw[e]at z;have hb:Fd d<=1000/\ -100<=Fd d:=(by unfold Fd;omega);unfold Cm at j;cases t:((q.map (Bt d)).all λf=> !f.torn)with
   |false=>
     rw[t]at j;have G:¬ ((q.map (Bt d)).any (·.torn)=false/\maySetsP A=true):=λh=>by
      have:((q.map (Bt d)).all λf=> !f.torn)=true:=by
       rw[f35];intro f I
       have:=h.1;rw[f2x]at this
       have:=this f I;simpa using this
      rw[t]at this;cases this
     rw[iN G];simp(disch:=try exact dq)only[tx,seval,Uh,KQ 113 rfl,m,<-k,j,Cm,Am,Ky,Av,Kj,Aw,Va,V9,V8,V7,V6,f41,f3z];rfl
   |true=>
     rw[t]at j;have u:(q.map (Bt d)).any (·.torn)=false:=by
      rw[f2x];intro f I;rw[f35]at t
      have:=t f I;simpa using this
     cases w:maySetsP A with
     |false=>
       rw[w]at o;rw[iN (λh=>f2d h.2)];simp(disch:=try exact dq)only[tx,seval,Uh,KQ 113 rfl,m,<-k,j,Cm,Am,Ky,Av,Kj,Aw,Va,V9,V8,V7,V6,f41,f3z,al4,F8,E,D,vA,o];rfl
     |true=>
       rw[w]at o;rw[iP ⟨u,rfl⟩];have y:∀ s:Bytes,s.length<=249->∀ H,K tab A6 A5 116 [.N (Fd d),.str s] H=some (Lm (S6 (Fd d) s),H):=λs hs=>d6n (Fd d) om om s om;cases F:Kl d r.space 5 with
       |none=>
         rw[F]at i;have g:=y [] (by simp);rw[d6k]at g;unfold Lm at g;simp(disch:=try exact dq)only[tx,seval,Uh,KQ 113 rfl,m,<-k,j,Cm,Am,Ky,Av,Kj,Aw,Va,V9,V8,V7,V6,f41,f3z,al4,F8,E,D,vA,o,i,Ej,z,g,f3r,f1m];rfl
       |some s=>
         rw[F]at i;have g:=y s (a6z F);simp only[f36];cases P:S6 (Fd d) s with
         |none=>
           rw[P]at g;unfold Lm at g;simp(disch:=try exact dq)only[tx,seval,Uh,KQ 113 rfl,m,<-k,j,Cm,Am,Ky,Av,Kj,Aw,Va,V9,V8,V7,V6,f41,f3z,al4,F8,E,D,vA,o,i,Ej,z,g,f31,f1n];rfl
         |some sp=>
           rw[P]at g;unfold Lm at g;simp only[f3y];simp(disch:=try exact dq)only[tx,seval,Uh,KQ 113 rfl,m,<-k,j,Cm,Am,Ky,Av,Kj,Aw,Va,V9,V8,V7,V6,f41,f3z,al4,F8,E,D,vA,o,i,Ej,z,g,f31,f1n,am3,c9o,f3x,f36,f3y,tB,Z,Qo,X,Y,T,U,V,W,c9q,M2];rfl

def bm4(d:Dev):∀ (n:Nat) (l:LT),(((Kf d n l).map (·.2.1)).flatten).length=4*l.length
 |_,[]=>rfl
 |n,p::l=>by rw[Kf,f5b,f2k,f1q,bm4 d (n+1) l,(b1x d n p).1,f33];omega
def aq1(d:Dev)(p:Ptr):(Bt d p).node.length=8/\(Bt d p).part.length=32:=by
 unfold Bt;split
 ·exact⟨by simp[Af],by simp[Af]⟩
 ·rename_i l a;obtain⟨s,_,b⟩:=f01.1 a;have h8:=(b1d b).1;have c:=bm4 d 0 l;unfold ag7;split
  ·exact⟨h8,by show(((Kf d 0 l).map (·.2.1)).flatten).length=32;omega⟩
  ·exact⟨h8,by show(((Kf d 0 l).map (·.2.1)).flatten).length=32;omega⟩
def d6l{n:Int}{s:Bytes}{v:SpaceL}(h:S6 n s=some v):v.held.length<=500/\v.one.length<=500/\v.two.length<=500/\v.kept.length<=500:=by
 unfold S6 at h;split at h
 ·rename_i a r d;split at h
  ·rename_i b j f;split at h
   ·rename_i c k g;split at h
    ·rename_i e l i;split at h
     ·obtain rfl:=f4a h;exact⟨(Mj d).2,(Mj f).2,(Mj g).2,(Mj i).2⟩
     ·cases h
    ·cases h
   ·cases h
  ·cases h
 ·cases h
structure ViewOk(v:ViewL):Prop where
 n:v.sets.length<=8
 f:∀ x∈v.sets,FilesOk (els x.files)
 set:v.set.length<=8
 node:∀ l∈v.node,l.length<=8
 part:∀ l∈v.part,l.length<=32
 noden:v.node.length<=8
 partn:v.part.length<=8
def b8x(d:Dev){p:Ptr}{q:Root×List DsetH×LT}(h:R6 d p=some q)(s:SpaceL):ViewOk (K7 q s (q.2.2.map (Bt d))):=by
 obtain⟨r,l,q⟩:=q;obtain⟨m,i⟩:=b4g h;have j:=bo1 d l q;refine⟨?_,λx e=>?_,?_,?_,?_,?_,?_⟩
 ·simp only[K7,f1h,f3z];omega
 ·obtain⟨k,g⟩:=j x e;exact⟨by omega,λy f=>by obtain⟨a,b,c⟩:=g y f;exact⟨by omega,by omega,by omega⟩⟩
 ·simp only[K7];omega
 ·intro x e;simp only[K7]at e;obtain⟨y,f,rfl⟩:=f62.1 e;obtain⟨z,_,rfl⟩:=f62.1 f;exact f67 (aq1 d z).1
 ·intro x e;simp only[K7]at e;obtain⟨y,f,rfl⟩:=f62.1 e;obtain⟨z,_,rfl⟩:=f62.1 f;exact f67 (aq1 d z).2
 ·simp only[K7,f3z];omega
 ·simp only[K7,f3z];omega
def bs4{d:Dev}{p:Ptr}{v:ViewL}(h:Ln d p=some v):ViewOk v:=by
 obtain⟨q,a,rfl⟩:=f09.1 h;exact b8x d a _
def b0h{d:Dev}{p:Ptr}{v:ViewL}(h:Ff d p=some v):ViewOk v/\v.s.held.length<=500/\v.s.one.length<=500/\v.s.two.length<=500/\v.s.kept.length<=500:=by
 unfold Ff at h;split at h
 ·rename_i q a;split at h
  ·obtain⟨s,b,rfl⟩:=f09.1 h;obtain⟨t,_,c⟩:=f01.1 b;exact⟨b8x d a s,d6l c⟩
  ·cases h
 ·cases h
def b0t:∀ (n:Nat) (a:Int),Ei (n+1) a=Ei n a++[a+n]
 |0,a=>by simp[Ei]
 |n+1,a=>by
   rw[Ei,b0t n (a+1),Ei,f3d]
   congr 3;omega
def b9a:∀ (k n:Nat) (a:Int),(Ei n a).take k=Ei (min k n) a
 |0,n,a=>by rw[Nat.zero_min];rfl
 |k+1,0,a=>by simp[Ei]
 |k+1,n+1,a=>by rw[Ei,f12,b9a k n (a+1),show min (k+1) (n+1)=min k n+1 by omega,Ei]
def es9(l:LR)(r:Rn):Gb (l++[r])=Gb l++Ei (r.b-r.a).toNat r.a:=by simp[Gb]
def cc9(l:LR)(r:Rn)(n:Nat):(Gb (l++[r])).take n=(Gb l).take n++Ei (min (r.b-r.a).toNat (n-((Gb l).take n).length)) r.a:=by
 rw[es9,List.take_append,b9a,f3l]
 congr 2
 omega
def Vy(l:LR)(n:Int):LA:=match aw3 l n with
 |some o=>[.fz (o.map λx=>[.N x]),.bool true]
 |none=>[.emp,.bool false]
def ei3(l:Sl Rn)(t:Wg (els l))(n:Int)(G:n<=1000000)(H:AH):K tab A6 A5 194 [A4 A8 l,.N n] H=some (.tuple (Vy (els l) n),H):=by
 refine Ae e2l rfl (by simp[Aa,Ab,Ai]) (by unfold Vy;split<;>simp[Ab,Aa]) ?_ H;have y:=cm0 l t;unfold Vy aw3;by_cases f:n<0
 ·simp(disch:=try exact dq)only[tx,seval,a0g,f];simp[f]
 ·by_cases w:Eo (els l)<n
  ·rw[iP om];simp(disch:=try exact dq)only[tx,seval,a0g,f,y,w]
  ·rw[iN om];simp(disch:=try exact dq)only[tx,seval,a0g,f,y,w];generalize C:Aj _ _ _=r;refine B6 C (els l).length (λi=>[A4 A8 l,.N n,U,U,.own 0 1 0 ((Gb ((els l).take i)).take n.toNat).length ((Gb ((els l).take i)).take n.toNat).length,.N i,U])
    (λi=>[some (((Gb ((els l).take i)).take n.toNat).map cI)]) (λ_=>True) ?_ ?_ trivial ?_ ?_
   ·simp[Gb]
   ·simp[Gb]
   ·intro i hi _;have c:((i:Int)<((els l).length:Int)):=om;have A:=t.1;have e:(els l).getD i df∈els l:=by
     rw[ex9,ez2 hi];exact f3e _
    have E:=t.2 _ e;have D:(els l).take (i+1)=(els l).take i++[(els l).getD i df]:=by
     rw[f2r,ex9,ez2 hi];rfl
    rw[D,cc9];have B:((Gb ((els l).take i)).take n.toNat).length<=n.toNat:=(by rw[f3l];omega);generalize g:(els l).getD i df=x at *;generalize (Gb ((els l).take i)).take n.toNat=o at *;simp(disch:=try exact dq)only[tx,seval,c,g,Ad,A8,f52];generalize v:Aj _ _ _=I;refine Hr (Q:=λr=>Rd _ _ _ _ (G3 _ _ (Bm _ _ (Bi _ (Bi _ r))))) v (min (x.b-x.a).toNat (n.toNat-o.length))
     (λj=>[A4 A8 l,.N n,U,U,.own 0 1 0 (o.length+j) (o.length+j),.N i,.N (x.a+j)])
     (λj=>[some ((o++Ei j x.a).map cI)]) (λ_=>True) ?_ ?_ trivial ?_ ?_
    ·simp
    ·simp[Ei]
    ·intro j F _;have q:x.a+(j:Int)<x.b:=om;have s:((o.length:Int)+(j:Int))<n:=om;have p:(o++Ei j x.a).map cI++[[.N (x.a+(j:Int))]]=(o++Ei (j+1) x.a).map cI:=(by rw[b0t,<-f2p,f4c (l₁:=o++Ei j x.a)];rfl);have d:(o++Ei j x.a).length=o.length+j:=(by rw[f1q,V1]);simp(disch:=try exact dq)only[tx,seval,c,g,q,s,Ad,A8,f52,p,Aq,f3z,d,f4l];rw[Int.add_assoc];rfl
    ·intro _;have u:¬ (x.a+((min (x.b-x.a).toNat (n.toNat-o.length):Nat):Int)<x.b/\(o.length:Int)+((min (x.b-x.a).toNat (n.toNat-o.length):Nat):Int)<n):=om;generalize min (x.b-x.a).toNat (n.toNat-o.length)=m at *;by_cases k:x.a+(m:Int)<x.b
     ·have z:¬ (o.length:Int)+(m:Int)<n:=λh=>u ⟨k,h⟩;simp(disch:=try exact dq)only[tx,seval,c,g,k,z,Ad,A8,f52,Aq,f3z,f4l,V1]
     ·simp(disch:=try exact dq)only[tx,seval,c,g,k,Ad,A8,f52,Aq,f3z,f4l,V1]
   ·intro _;rw[f3m];simp(disch:=try exact dq)only[tx,seval,f5q,Aq,Ax,Lk,Jj]
def Xq(t:Ptr)(f:Int)(free:LI)(e g:Nat):LA:=[.own 1 3 0 e e,.own 2 1 0 e e,.N t.addr,.N t.birth,.M t.sum.a.toNat,.M t.sum.b.toNat,.M t.sum.c.toNat,.M t.sum.d.toNat,.emp,.emp,.N f,.fz (free.map λx=>[.N x]),.own 3 1 0 g g,.bool false,.own 4 30 0 1 1]
def a7a:LA:=[.N 0,.N 0,.N 0,.N 0,.N 0,.M 0,.M 0,.M 0,.M 0,.N 0,.N 0,.M 0,.M 0,.M 0,.M 0,.N 0,.N 0,.M 0,.M 0,.M 0,.M 0,.N 0,.emp,.emp,.emp,.emp,.own 5 5 0 0 0,.emp,.own 6 1 0 0 0,.own 7 1 0 0 0]
def Nt(t:Ptr)(b:Int)(free:LI)(c:List Block)(a all:LI):AH:=[some [Xq t b free c.length all.length],some (c.map D5),some (a.map cI),some (all.map cI),some [a7a],some [],some [],some []]
def ds2(t:Ptr)(b:Int)(free:LI)(c:List Block)(a all:LI)(e:a.length=c.length)(f:all.length<=1000000)(p:Ptr) :
 Ev tab A6 A5 269 [.ptr 0 0 0 1,.agg (Ac p)] (Nt t b free c a all)=some (.agg (Ac p),Nt t b free c a (all++[p.addr])):=by
 refine Bz c3x rfl ?_;have d:all.map cI++[[.N p.addr]]=(all++[p.addr]).map cI:=by rw[f4c];rfl
 unfold Nt Xq a7a;simp(disch:=try exact dq)only[tx,seval,a3i,Ac,Aq,Ax,Bc,Bb,f3z,f1q,f33,f3w,d,e]
def K6(free:LI)(c a:Int)(b:Bytes)(n:Nat):Ptr:=Hp (free.getD n df) ⟨a,c,b⟩
def c3m(t:Ptr)(d:Int)(free:LI)(f:List Block)(e all:LI)(m:e.length=f.length)(n:all.length<=1000000)(q:f.length<free.length)(r:free.length<=1000000)(c:Int)(b:Bytes)(k:b.length<=1000000) :
 Ev tab A6 A5 199 [.ptr 0 0 0 1,.N c,.str b] (Nt t d free f e all)=some (.agg (Ac (K6 free d c b f.length)),Nt t d free (f++[⟨c,d,b⟩]) (e++[free.getD f.length df]) (all++[(K6 free d c b f.length).addr])):=by
 refine Bz c41 rfl ?_;unfold K6;generalize o:free.getD f.length df=a at *;have i:=ds2 t d free (f++[⟨c,d,b⟩]) (e++[a]) all (by simp[m]) n (Hp a ⟨c,d,b⟩);have l:=λH=>a4v (orc:=A6) a c d b om H;generalize Hp a ⟨c,d,b⟩=p at *;have g:f.map D5++[[.N c,.N d,.str b]]=(f++[(⟨c,d,b⟩:Block)]).map D5:=by rw[f4c];rfl
 have h:e.map cI++[[.N a]]=(e++[a]).map cI:=by rw[f4c];rfl
 have j:¬ ((free.length:Int)<=(f.length:Int)):=om;unfold Nt Xq a7a at i ⊢;simp only[Ac,f1q,f33,f3w,f66]at i l ⊢;simp(disch:=try exact dq)only[tx,seval,a3o,KQ 269 rfl,Am,i,l,j,o,g,h,Aq,Ax,Bc,Bb,f3z,f1q,f33,f3w,m,B0]
def aq3:List.range 9=[0,1,2,3,4,5,6,7,8]:=qq
def ds7(t:Ptr)(b:Int)(free:LI)(c:List Block)(d all:LI)(m:d.length=c.length)(v:all.length<=1000000)(o:c.length<free.length)(u:free.length<=1000000)(n:Int)(x:Node)(q:LT)(A:q.length=4)(z:x.name.length<=1000)(s:x.body.length<=1000)(g:(Dx ⟨x.kind,x.up,x.name⟩ x.body.length q).length<=1000000) :
 Ev tab A6 A5 197 [.ptr 0 0 0 1,.N n,.agg [.N x.kind,.N x.up,.str x.name,.str x.body,.N x.bad],.own 8 6 0 4 4] (Nt t b free c d all++[some (q.map Ac)])=some (.agg (Ac (K6 free b 2 (Dx ⟨x.kind,x.up,x.name⟩ x.body.length q) c.length)),Nt t b free (c++[⟨2,b,Dx ⟨x.kind,x.up,x.name⟩ x.body.length q⟩]) (d++[free.getD c.length df]) (all++[(K6 free b 2 (Dx ⟨x.kind,x.up,x.name⟩ x.body.length q) c.length).addr])++[some (q.map Ac)]):=by
 refine Bz e2j rfl ?_;have e:=c3m t b free c d all m v o u 2 _ g;have l:=Q1 x.kind x.up x.name x.body x.bad x.body.length (some q) om (by show q.length<=_;omega);rw[Az,B5]at l;generalize Dx ⟨x.kind,x.up,x.name⟩ x.body.length q=ld at *;generalize K6 free b 2 ld c.length=p at *;generalize free.getD c.length df=a at *;have h:List.take 4 (List.map Ac q)=List.map Ac q:=f0a (by rw[f3z];omega);unfold Nt Xq a7a at e ⊢;simp only[Ac,f3d,f41,f1q,f33,f3w,f66]at e ⊢;simp(disch:=try exact dq)only[tx,seval,ac0,Aq,Ax,Bc,Bb,Av,Aw,f3z];generalize w:Aj _ _ _=r;refine B6 w 1 (λj=>[.ptr 0 0 0 1,.N n,U,.own 8 6 0 4 4,.ptr 9 0 0 1,.ptr 10 0 0 1,.own 4 30 0 1 1,.N j,U,U,U,U,U,U]) (λ_=>_) (λ_=>True) ?_ rfl trivial ?_ ?_
 ·rfl
 ·intro j y _;have f:((j:Int)<1):=om;obtain rfl:j=0:=om;simp(disch:=try exact dq)only[tx,seval,f,Aq,Ax,Bc,Bb,Av,Aw,f3z];generalize i:Aj _ _ _=B;refine Vl (Q:=λr=>Rd _ _ _ _ (G3 _ _ (Bm _ _ (Bi _ (Bi _ r))))) i ?_;simp(disch:=try exact dq)only[tx,seval,f5q,Aq,Ax,Bc,Bb,Av,Aw,f3z];rfl
 ·intro _;have k:=λH=>Ku 3 q H;simp(disch:=try exact dq)only[tx,seval,f5q,aq3,KQ 199 rfl,Am,Ps,F8,k,h,l,e,Aq,Ax,Bc,Bb,Av,Aw,f3z]
def ds4(t:Ptr)(b:Int)(free:LI)(c:List Block)(d all:LI)(m:d.length=c.length)(s:all.length<=1000000)(n:c.length<free.length)(o:free.length<=1000000)(q:LT)(w:q.length=8)(g:(Gt q).length<=1000000) :
 Ev tab A6 A5 198 [.ptr 0 0 0 1,.own 8 6 0 8 8] (Nt t b free c d all++[some (q.map Ac)])=some (.agg (Ac (K6 free b 3 (Gt q) c.length)),Nt t b free (c++[⟨3,b,Gt q⟩]) (d++[free.getD c.length df]) (all++[(K6 free b 3 (Gt q) c.length).addr])++[some (q.map Ac)]):=by
 refine Bz e2i rfl ?_;have e:=c3m t b free c d all m s n o 3 _ g;have l:=b2o (some q) (by show q.length<=_;omega);rw[Az,B5]at l;generalize Gt q=ld at *;generalize K6 free b 3 ld c.length=p at *;generalize free.getD c.length df=a at *;have h:List.take 8 (List.map Ac q)=List.map Ac q:=f0a (by rw[f3z];omega);unfold Nt Xq a7a at e ⊢;simp only[Ac,f3d,f41,f1q,f33,f3w,f66]at e ⊢;simp(disch:=try exact dq)only[tx,seval,ab9,Aq,Ax,Bc,Bb,Av,Aw,f3z];generalize u:Aj _ _ _=r;refine B6 u 1 (λj=>[.ptr 0 0 0 1,.own 8 6 0 8 8,.ptr 9 0 0 1,.own 4 30 0 1 1,.N j,U]) (λ_=>_) (λ_=>True) ?_ rfl trivial ?_ ?_
 ·rfl
 ·intro j v _;have f:((j:Int)<1):=om;obtain rfl:j=0:=om;simp(disch:=try exact dq)only[tx,seval,f,Aq,Ax,Bc,Bb,Av,Aw,f3z];generalize i:Aj _ _ _=x;refine Vl (Q:=λr=>Rd _ _ _ _ (G3 _ _ (Bm _ _ (Bi _ (Bi _ r))))) i ?_;simp(disch:=try exact dq)only[tx,seval,f5q,Aq,Ax,Bc,Bb,Av,Aw,f3z];rfl
 ·intro _;have k:=λH=>Ku 3 q H;simp(disch:=try exact dq)only[tx,seval,f5q,aq3,KQ 199 rfl,Am,b0k,F8,k,h,l,e,Aq,Ax,Bc,Bb,Av,Aw,f3z]
def dp9(H:AH):K tab A6 A5 211 [.str [],.N 128] H=some (.str (zs 128),H):=by
 refine Ae e2e rfl rfl rfl ?_ H;simp(disch:=try exact dq)only[tx,seval,ab6]
 kernel_rfl
def ep5:J6 [z8,z8,z8,z8,z8,z8,z8,z8,z8,z8,z8,z8,z8,z8,z8,z8,z8,z8,z8,z8,z8,z8,z8,z8,z8,z8,z8,z8,z8,z8,z8,z8]=some (zs 32):=qq
def c0j(k:Nat)(j:k<4)(H:AH):K tab A6 A5 195 [.str [],.N (k:Int)] H=some (.str [],H):=by
 refine Ae e2k rfl rfl rfl ?_ H;have i:=dp9;have b:¬ (4<=(k:Int)):=om;have a:¬ ((k:Int)<0):=om;have c:IntKind.i64.wrap ((k:Int)*32)=32*(k:Int):=by rw[f52 _ om];omega
 have d:IntKind.i64.wrap (IntKind.i64.wrap ((k:Int)+1)*32)=32*(k:Int)+32:=by rw[f52 ((k:Int)+1) om,f52 _ om];omega
 have e:List.drop (32*(k:Int)).toNat (List.take (32*(k:Int)+32).toNat (zs 128))=zs 32:=by
  have:k=0\/k=1\/k=2\/k=3:=om;rcases this with rfl|rfl|rfl|rfl<;>decide +kernel
 have f:(List.length (zs 128):Int)=128:=by decide +kernel
 have g:(0:Int)<=32*(k:Int)+32/\32*(k:Int)+32<=128:=om;have h:(0:Int)<=32*(k:Int)/\32*(k:Int)<=32*(k:Int)+32:=om;simp(disch:=try exact dq)only[tx,seval,ac1,i,b,a,ep5,c,d,e,f,g,h]
def ej7(l:Sl Rn)(Z:(els l).length<=9000)(s t:Int)(M:AObj)(z:M=[[.N s,.N t]]):Ev tab A6 A5 279 [A4 A8 l,.own 0 2 0 1 1] [some M]=some (.fz ((Ga (els l) [⟨s,t⟩]).map λn=>[.N n]),[some M]):=by
 refine Bz c3w rfl ?_;have X:M.length=1:=by rw[z];rfl
 have g:refsO (some M)=[]:=by rw[z];rfl
 have c:∀ r W,M.map (C5 r W)=M:=by intro r W;rw[z];rfl
 have d:∀ τ,renO τ M=M:=by intro τ;rw[z];rfl
 simp(disch:=try exact dq)only[tx,seval,a3g,X];generalize Y:Aj _ _ _=r;have S:Ga (els l) [⟨s,t⟩]=([⟨s,t⟩]:LR).foldl D4 ((els l).foldl D4 []):=by unfold Ga;rw[f2y]
 refine B6 Y (els l).length
  (λj=>[A4 A8 l,(.own 0 2 0 1 1),U,iV 1 (((els l).take j).foldl D4 []),.N j,U])
  (λj=>some M::iH (((els l).take j).foldl D4 [])) (λ_=>True) ?_ ?_ trivial ?_ ?_
 ·rfl
 ·rfl
 ·intro j H _;have i:((j:Int)<((els l).length:Int)):=om;have w:=Qg ((els l).take j) [];rw[f3l,f3w]at w;rw[a44 H];generalize ((els l).take j).foldl D4 []=o at *;generalize B:(els l).getD j df=x at *;unfold D4;have y:=Nu x.b (A7 x.a o);have m:=Nu x.a o;have Q:iV 1 (A7 x.b (A7 x.a o))=.own 1 1 0 (A7 x.b (A7 x.a o)).length (A7 x.b (A7 x.a o)).length:=iN y;have R:iH (A7 x.b (A7 x.a o))=[some ((A7 x.b (A7 x.a o)).map cI)]:=iN y;rw[Q,R];have T:∀ (n:Int) (e:LI),(A7 n e).length<=e.length+1:=a2n;have F:=T x.a o;have u:=Dz (f:=325) rfl;have v:=Jo (f:=325) rfl;by_cases q:o=[]
  ·subst q;have L:A7 x.a []=[x.a]:=rfl;rw[L]at *;rw[show iV 1 []=.emp from rfl,show iH []=[]from rfl];have p:=a1o x.a;rcases Hh [x.a] (by simp) (by simp) x.b with h|h
   ·simp only[f0n,f5b,f5x,cI]at h;simp(disch:=try exact dq)only[tx,seval,KQ 325 rfl,Am,u,v,En,Ep,Bl,Bo,p,h,i,B,Ad,A8,f52,g,d,c,Aq,Ax,f3t,f37,f41,f42];rfl
   ·simp only[f0n,f5b,f5x,cI]at h;simp(disch:=try exact dq)only[tx,seval,KQ 325 rfl,Am,u,v,En,Ep,Bl,Bo,p,h,i,B,Ad,A8,f52,g,d,c,Aq,Ax,f3t,f37,f41,f42];rfl
  ·have C:iV 1 o=.own 1 1 0 o.length o.length:=iN q;have D:iH o=[some (o.map cI)]:=iN q;rw[C,D];rcases Hh o q om x.a with p|p
   ·rcases Hh (A7 x.a o) m om x.b with h|h
    ·simp(disch:=try exact dq)only[tx,seval,KQ 325 rfl,Am,u,v,En,Ep,Bl,Bo,p,h,i,B,Ad,A8,f52,g,d,c,Aq,Ax,f3t,f37,f41,f42];rfl
    ·simp(disch:=try exact dq)only[tx,seval,KQ 325 rfl,Am,u,v,En,Ep,Bl,Bo,p,h,i,B,Ad,A8,f52,g,d,c,Aq,Ax,f3t,f37,f41,f42];rfl
   ·rcases Hh (A7 x.a o) m om x.b with h|h
    ·simp(disch:=try exact dq)only[tx,seval,KQ 325 rfl,Am,u,v,En,Ep,Bl,Bo,p,h,i,B,Ad,A8,f52,g,d,c,Aq,Ax,f3t,f37,f41,f42];rfl
    ·simp(disch:=try exact dq)only[tx,seval,KQ 325 rfl,Am,u,v,En,Ep,Bl,Bo,p,h,i,B,Ad,A8,f52,g,d,c,Aq,Ax,f3t,f37,f41,f42];rfl
 ·intro _;rw[f3m];have I:=Qg (els l) [];rw[f3w]at I;rw[S];generalize (els l).foldl D4 []=E at *;by_cases G:E=[]
  ·subst G;rw[show iV 1 []=.emp from rfl,show iH []=[]from rfl];simp(disch:=try exact dq)only[tx,seval,f5q];generalize K:Aj _ _ _=h;refine B6 K ([⟨s,t⟩]:LR).length
    (λj=>[U,(.own 0 2 0 1 1),U,iV 1 ((([⟨s,t⟩]:LR).take j).foldl D4 ([]:LI)),U,.N j])
    (λj=>some M::iH ((([⟨s,t⟩]:LR).take j).foldl D4 ([]:LI))) (λ_=>True) ?_ ?_ trivial ?_ ?_
   ·rfl
   ·rfl
   ·intro j H _;have V:j<1:=H;obtain rfl:j=0:=om;have i:(((0:Nat):Int)<1):=om;have w:=Qg (([⟨s,t⟩]:LR).take 0) ([]:LI);rw[f3l]at w;rw[a44 H];generalize (([⟨s,t⟩]:LR).take 0).foldl D4 ([]:LI)=o at *;generalize B:(([⟨s,t⟩]:LR).getD 0 df)=x at *;have k:M[0]?=some [.N x.a,.N x.b]:=(by rw[z,<-B];rfl);unfold D4;have y:=Nu x.b (A7 x.a o);have m:=Nu x.a o;have Q:iV 1 (A7 x.b (A7 x.a o))=.own 1 1 0 (A7 x.b (A7 x.a o)).length (A7 x.b (A7 x.a o)).length:=iN y;have R:iH (A7 x.b (A7 x.a o))=[some ((A7 x.b (A7 x.a o)).map cI)]:=iN y;rw[Q,R];have F:=a2n x.a o;have u:=Dz (f:=325) rfl;have v:=Jo (f:=325) rfl;by_cases q:o=[]
    ·subst q;have L:A7 x.a []=[x.a]:=rfl;rw[L]at *;rw[show iV 1 []=.emp from rfl,show iH []=[]from rfl];have p:=a1o x.a;rcases Hh [x.a] (by simp) (by simp) x.b with h|h
     ·simp only[f0n,f5b,f5x,cI]at h;simp(disch:=try exact dq)only[tx,seval,KQ 325 rfl,Am,u,v,En,Ep,Bl,Bo,p,h,i,k,Ad,A8,f52,g,d,c,Aq,Ax,f3t,f37,f41,f42]
     ·simp only[f0n,f5b,f5x,cI]at h;simp(disch:=try exact dq)only[tx,seval,KQ 325 rfl,Am,u,v,En,Ep,Bl,Bo,p,h,i,k,Ad,A8,f52,g,d,c,Aq,Ax,f3t,f37,f41,f42]
    ·have C:iV 1 o=.own 1 1 0 o.length o.length:=iN q;have D:iH o=[some (o.map cI)]:=iN q;rw[C,D];rcases Hh o q om x.a with p|p
     ·rcases Hh (A7 x.a o) m om x.b with h|h
      ·simp(disch:=try exact dq)only[tx,seval,KQ 325 rfl,Am,u,v,En,Ep,Bl,Bo,p,h,i,k,Ad,A8,f52,g,d,c,Aq,Ax,f3t,f37,f41,f42]
      ·simp(disch:=try exact dq)only[tx,seval,KQ 325 rfl,Am,u,v,En,Ep,Bl,Bo,p,h,i,k,Ad,A8,f52,g,d,c,Aq,Ax,f3t,f37,f41,f42]
     ·rcases Hh (A7 x.a o) m om x.b with h|h
      ·simp(disch:=try exact dq)only[tx,seval,KQ 325 rfl,Am,u,v,En,Ep,Bl,Bo,p,h,i,k,Ad,A8,f52,g,d,c,Aq,Ax,f3t,f37,f41,f42]
      ·simp(disch:=try exact dq)only[tx,seval,KQ 325 rfl,Am,u,v,En,Ep,Bl,Bo,p,h,i,k,Ad,A8,f52,g,d,c,Aq,Ax,f3t,f37,f41,f42]
   ·intro _;rw[f3m];have J:=Qg ([⟨s,t⟩]:LR) ([]:LI);have A:([⟨s,t⟩]:LR).foldl D4 ([]:LI)≠[]:=Nu _ _;generalize ([⟨s,t⟩]:LR).foldl D4 ([]:LI)=o at *;by_cases q:o=[]
    ·exact absurd q A
    ·have C:iV 1 o=.own 1 1 0 o.length o.length:=iN q;have D:iH o=[some (o.map cI)]:=iN q;rw[C,D];simp(disch:=try exact dq)only[tx,seval,f5q,q,g,d,c,Aq,Ax,Lk,Jj,f3z]
  ·have O:iV 1 E=.own 1 1 0 E.length E.length:=iN G;have P:iH E=[some (E.map cI)]:=iN G;rw[O,P];simp(disch:=try exact dq)only[tx,seval,f5q,g,d,c,Aq];generalize K:Aj _ _ _=h;refine B6 K ([⟨s,t⟩]:LR).length
    (λj=>[U,(.own 0 2 0 1 1),U,iV 1 ((([⟨s,t⟩]:LR).take j).foldl D4 E),U,.N j])
    (λj=>some M::iH ((([⟨s,t⟩]:LR).take j).foldl D4 E)) (λ_=>True) ?_ ?_ trivial ?_ ?_
   ·rw[f4u,f59,O];rfl
   ·rw[f4u,f59,P]
   ·intro j H _;have V:j<1:=H;obtain rfl:j=0:=om;have i:(((0:Nat):Int)<1):=om;have w:=Qg (([⟨s,t⟩]:LR).take 0) E;rw[f3l]at w;rw[a44 H];generalize (([⟨s,t⟩]:LR).take 0).foldl D4 E=o at *;generalize B:(([⟨s,t⟩]:LR).getD 0 df)=x at *;have k:M[0]?=some [.N x.a,.N x.b]:=(by rw[z,<-B];rfl);unfold D4;have y:=Nu x.b (A7 x.a o);have m:=Nu x.a o;have Q:iV 1 (A7 x.b (A7 x.a o))=.own 1 1 0 (A7 x.b (A7 x.a o)).length (A7 x.b (A7 x.a o)).length:=iN y;have R:iH (A7 x.b (A7 x.a o))=[some ((A7 x.b (A7 x.a o)).map cI)]:=iN y;rw[Q,R];have F:=a2n x.a o;have u:=Dz (f:=325) rfl;have v:=Jo (f:=325) rfl;by_cases q:o=[]
    ·subst q;have L:A7 x.a []=[x.a]:=rfl;rw[L]at *;rw[show iV 1 []=.emp from rfl,show iH []=[]from rfl];have p:=a1o x.a;rcases Hh [x.a] (by simp) (by simp) x.b with h|h
     ·simp only[f0n,f5b,f5x,cI]at h;simp(disch:=try exact dq)only[tx,seval,KQ 325 rfl,Am,u,v,En,Ep,Bl,Bo,p,h,i,k,Ad,A8,f52,g,d,c,Aq,Ax,f3t,f37,f41,f42]
     ·simp only[f0n,f5b,f5x,cI]at h;simp(disch:=try exact dq)only[tx,seval,KQ 325 rfl,Am,u,v,En,Ep,Bl,Bo,p,h,i,k,Ad,A8,f52,g,d,c,Aq,Ax,f3t,f37,f41,f42]
    ·have C:iV 1 o=.own 1 1 0 o.length o.length:=iN q;have D:iH o=[some (o.map cI)]:=iN q;rw[C,D];rcases Hh o q om x.a with p|p
     ·rcases Hh (A7 x.a o) m om x.b with h|h
      ·simp(disch:=try exact dq)only[tx,seval,KQ 325 rfl,Am,u,v,En,Ep,Bl,Bo,p,h,i,k,Ad,A8,f52,g,d,c,Aq,Ax,f3t,f37,f41,f42]
      ·simp(disch:=try exact dq)only[tx,seval,KQ 325 rfl,Am,u,v,En,Ep,Bl,Bo,p,h,i,k,Ad,A8,f52,g,d,c,Aq,Ax,f3t,f37,f41,f42]
     ·rcases Hh (A7 x.a o) m om x.b with h|h
      ·simp(disch:=try exact dq)only[tx,seval,KQ 325 rfl,Am,u,v,En,Ep,Bl,Bo,p,h,i,k,Ad,A8,f52,g,d,c,Aq,Ax,f3t,f37,f41,f42]
      ·simp(disch:=try exact dq)only[tx,seval,KQ 325 rfl,Am,u,v,En,Ep,Bl,Bo,p,h,i,k,Ad,A8,f52,g,d,c,Aq,Ax,f3t,f37,f41,f42]
   ·intro _;rw[f3m];have J:=Qg ([⟨s,t⟩]:LR) E;have A:([⟨s,t⟩]:LR).foldl D4 E≠[]:=Nu _ _;generalize ([⟨s,t⟩]:LR).foldl D4 E=o at *;by_cases q:o=[]
    ·exact absurd q A
    ·have C:iV 1 o=.own 1 1 0 o.length o.length:=iN q;have D:iH o=[some (o.map cI)]:=iN q;rw[C,D];simp(disch:=try exact dq)only[tx,seval,f5q,q,g,d,c,Aq,Ax,Lk,Jj,f3z]
def al3(r sz o l t:Nat)(x:AV)(H:AH):K tab A6 A5 159 [.own r sz o l t,x] H=Gr tab A6 A5 159 [.own r sz o l t,x] H (Aa (B9 H [.own r sz o l t,x])) (K tab A6 A5 159 (B9 H [.own r sz o l t,x]) H):=Hy _ _ _ rfl _ _
def db9(so:Bool->Bool->Bool)(T:so=λa b=>a||b)(l:Sl Rn)(hn:(els l).length<=9000)(d g:Int)(M:AObj)(h:M=[[.N d,.N g]]):Ev tab A6 A5 227 [A4 A8 l,.own 0 2 0 1 1,.N 0] [some M]=some (A4 A8 (some (M8 so (els l) [⟨d,g⟩])),[some M]):=by
 refine Bz c3z rfl ?_;have J:M.length=1:=by rw[h];rfl
 have w:List.take 1 M=M:=by rw[h];rfl
 have s:refsO (some M)=[]:=by rw[h];rfl
 have t:∀ r V,M.map (C5 r V)=M:=by intro r V;rw[h];rfl
 have p:∀ τ,renO τ M=M:=by intro τ;rw[h];rfl
 have u:∀ (n:Nat) (H:AH),M.map (λe=>e.map (Db H n))=[A8 ⟨d,g⟩]:=by intro n H;rw[h];cases n<;>rfl
 have he:=ej7 l hn d g M h;have a1:(Ga (els l) ([⟨d,g⟩]:LR)).length<=20000:=by
  rw[<-ah9];have I:=Uu (Dg (G9 (els l++([⟨d,g⟩]:LR)))) _ (f6o _);rw[f3m,Pw,ah6,f1q,f0n]at I;omega
 rw[ar9];generalize Z:Ga (els l) ([⟨d,g⟩]:LR)=E at *;have a0:E≠[]:=by rw[<-Z];intro Y;have I:=(a29 (l:=els l) (m:=[⟨d,g⟩]) (x:=d)).2 ⟨⟨d,g⟩,by simp,.inl rfl⟩;rw[Y]at I;cases I
 simp(disch:=try exact dq)only[tx,seval,a0e,KQ 279 rfl,Am,he,s,p];generalize hr:Aj _ _ _=r;refine B6 hr (E.length-1)
  (λj=>[A4 A8 l,(.own 0 2 0 1 1),.N 0,U,.fz (E.map λn=>[.N n]),.own 1 2 0 (Ha so (els l) ([⟨d,g⟩]:LR) E j).length (Ha so (els l) ([⟨d,g⟩]:LR) E j).length,.N j,U,U,U,U,U])
  (λj=>[some M,some ((Ha so (els l) ([⟨d,g⟩]:LR) E j).map Cv)]) (λj=>True) ?_ ?_ trivial ?_ ?_
 ·rfl
 ·rfl
 ·intro j hj _;have z:((j:Int)+1<(E.length:Int)):=om;have Q:((j:Int)+1).toNat=j+1:=om;have P:(j:Int).toNat=j:=om;have v:=a7i l om (E.getD j 0);have k:=a7i (some [⟨d,g⟩]) (by show 1<=1000000;omega) (E.getD j 0);rw[Az,B5]at k;simp only[f5b,f5x]at k;have K:∀ i,E.getD i df=E.getD i 0:=λ_=>rfl;have a2:=a6v so (els l) ([⟨d,g⟩]:LR) E j;rw[Ha];generalize L:E.getD j 0=x at *;generalize O:E.getD (j+1) 0=y at *;generalize Ha so (els l) ([⟨d,g⟩]:LR) E j=o at *;cases ha:hasR (els l) x<;>cases hb:hasR ([⟨d,g⟩]:LR) x<;>rw[ha]at v<;>rw[hb]at k
  all_goals
   subst T
   all_goals
    simp only[f5n,f6d,f5o,f6e,f4w,f5f,f4x,f5e,f5d,f4s,if_true,f1k,if_false]
  all_goals first
   |(simp(disch:=try exact dq)only[tx,seval,al3,F8,J,w,v,k,z,Q,P,K,L,O,B0,f3z,f52,s,p,t,u,G7]
     rfl)
   |skip
  all_goals
   by_cases S:o=[]
   ·subst S;rw[show Da [] (⟨x,y⟩:Rn)=[⟨x,y⟩]from rfl];simp(disch:=try exact dq)only[tx,seval,al3,F8,J,w,v,k,z,Q,P,K,L,O,B0,f3z,f5x,f3w,f52,s,p,t,u,G7]
    (try first|done|rfl|exact⟨rfl,rfl⟩|exact⟨rfl,rfl,rfl⟩)
   ·obtain⟨f,q,rfl⟩:∃ f q,o=f++[q]:=⟨o.dropLast,o.getLast S,(ex4 S).symm⟩;have hp:0<(f++[q]).length:=(by simp);have W:((f++[q]).map Cv)[(f++[q]).length-1]?=some [.N q.a,.N q.b]:=(by simp[Cv]);have X:((f++[q]).map Cv).set ((f++[q]).length-1) [.N q.a,.N y]=(f++[(⟨q.a,y⟩:Rn)]).map Cv:=(by simp[Cv]);have B:(f++[q]).map Cv++[[.N x,.N y]]=(f++[q,⟨x,y⟩]).map Cv:=(by simp[Cv]);have D:(f++[(⟨q.a,y⟩:Rn)]).length=(f++[q]).length:=(by simp);have F:(f++[q,⟨x,y⟩]).length=(f++[q]).length+1:=(by simp);rw[ai9];have G:(((f++[q]).length:Int)-1).toNat=(f++[q]).length-1:=om;generalize A:(f++[q]).length=n at *;by_cases c:q.b=x
    ·have C:=W;rw[c]at C;rw[iP c];simp(disch:=try exact dq)only[tx,seval,al3,F8,J,w,v,k,z,Q,P,K,L,O,B0,f3z,f52,s,p,t,u,G7,A,C,X,B,D,F,G];rfl
    ·rw[iN c];simp(disch:=try exact dq)only[tx,seval,al3,F8,J,w,v,k,z,Q,P,K,L,O,B0,f3z,f52,s,p,t,u,G7,A,W,X,B,D,F,G,c];rfl
 ·intro _;generalize Ha so (els l) ([⟨d,g⟩]:LR) E (E.length-1)=o at *;have R:¬ (((E.length-1:Nat):Int)+1<(E.length:Int)):=om;simp(disch:=try exact dq)only[tx,seval,R,f52,f3z,s,p,t,u,G7,H7,a5n,ag2]
def et2(l:Sl Rn)(e:(els l).length<=9000)(c d:Int):Ev tab A6 A5 202 [A4 A8 l,.own 0 2 0 1 1] [some [[.N c,.N d]]]=some (A4 A8 (some (Dk (els l) [⟨c,d⟩])),[some [[.N c,.N d]]]):=by
 refine Bz c40 rfl ?_;have h:=db9 (λa b=>a||b) rfl l e c d _ rfl;simp(disch:=try exact dq)only[tx,seval,a3n,KQ 227 rfl,Am,h];rfl
def U1(l:LI):Nat->Sl Rn
 |0=>none
 |j+1=>if 0<=l.getD j df/\l.getD j df<1073741824 then some (Dk (els (U1 l j)) [⟨l.getD j df,l.getD j df+1⟩])else U1 l j
def ch9(l:LI):∀ j,j<=l.length->els (U1 l j)=N8 (l.take j)
 |0,_=>rfl
 |j+1,h=>by
   rw[U1,Et (show j<l.length by omega)];unfold N8;rw[f2y,f40,f59];have a:=ch9 l j om;unfold N8 at a;split<;>simp[els,<-a]
def dk7(l:LI)(j:Nat)(h:j<=l.length):(els (U1 l j)).length<=j:=by
 rw[ch9 l j h]
 have:=b3a (l.take j);rw[f3l]at this;omega
def dk8(l:LI)(n:l.length<=9000)(g:∀ x∈l,-1000000000000<=x/\x<=1000000000000):Ev tab A6 A5 200 [.own 0 1 0 l.length l.length] [some (l.map cI)]=some (A4 A8 (U1 l l.length),[some (l.map cI)]):=by
 refine Bz e2g rfl ?_;simp(disch:=try exact dq)only[tx,seval,ab8];generalize m:Aj _ _ _=r;refine B6 m l.length (λj=>[.own 0 1 0 l.length l.length,U,A4 A8 (U1 l j),.N j]) (λ_=>[some (l.map cI)]) (λ_=>True) ?_ ?_ trivial ?_ ?_
 ·rfl
 ·rfl
 ·intro j i _;have a:((j:Int)<(l.length:Int)):=om;have e:(l.map cI)[j]?=some [.N (l.getD j df)]:=Fc om cI;have c:l.getD j df∈l:=by
   rw[ex9,ez2 i];exact f3e _
  have p:=g _ c;have k:=dk7 l j om;rw[U1];generalize l.getD j df=x at *;generalize U1 l j=o at *;have f:=et2 o om x (x+1);by_cases b:0<=x
  ·by_cases d:x<1073741824
   ·rw[iP ⟨b,d⟩];simp(disch:=try exact dq)only[tx,seval,a,e,b,d,KQ 202 rfl,Am,f,Aq,Ax,f52];rfl
   ·rw[iN (λh=>d h.2)];simp(disch:=try exact dq)only[tx,seval,a,e,b,d,Aq,Ax,f52];rfl
  ·rw[iN (λh=>b h.1)];simp(disch:=try exact dq)only[tx,seval,a,e,b,Aq,Ax,f52];rfl
 ·intro _;simp(disch:=try exact dq)only[tx,seval,f5q,Aq,Ax]
def b40:LA:=[.N 0,.N 0,.N 0,.N 0,.N 0,.M 0,.M 0,.M 0,.M 0,.N 0,.N 0,.M 0,.M 0,.M 0,.M 0,.N 0,.N 0,.M 0,.M 0,.M 0,.M 0,.N 0,.emp,.emp,.emp,.emp,.own 5 5 0 1 1,.own 6 6 0 1 1,.own 7 1 0 1 1,.own 8 1 0 1 1]
def a2h(t:Ptr)(b:Int)(free:LI)(c:List Block)(a all:LI)(x y z w:AObj):AH:=[some [Xq t b free c.length all.length],some (c.map D5),some (a.map cI),some (all.map cI),some [b40],some x,some y,some z,some w]
def ds3(x y z w:AObj)(f:refsO (some x)=[]/\∀ τ,renO τ x=x)(g:refsO (some y)=[]/\∀ τ,renO τ y=y)(h:refsO (some z)=[]/\∀ τ,renO τ z=z)(e:refsO (some w)=[]/\∀ τ,renO τ w=w)(t:Ptr)(b:Int)(free:LI)(c:List Block)(a all:LI)(i:a.length=c.length)(j:all.length<=1000000)(p:Ptr) :
 Ev tab A6 A5 269 [.ptr 0 0 0 1,.agg (Ac p)] (a2h t b free c a all x y z w)=some (.agg (Ac p),a2h t b free c a (all++[p.addr]) x y z w):=by
 refine Bz c3x rfl ?_;have d:all.map cI++[[.N p.addr]]=(all++[p.addr]).map cI:=by rw[f4c];rfl
 unfold a2h Xq b40;simp(disch:=try exact dq)only[tx,seval,a3i,Ac,f.1,f.2,g.1,g.2,h.1,h.2,e.1,e.2,aq3,Aq,Ax,Bc,Bb,f3z,f1q,f33,f3w,d,i]
def ds8(x y z w:AObj)(m:refsO (some x)=[]/\∀ τ,renO τ x=x)(n:refsO (some y)=[]/\∀ τ,renO τ y=y)(o:refsO (some z)=[]/\∀ τ,renO τ z=z)(l:refsO (some w)=[]/\∀ τ,renO τ w=w)(t:Ptr)(d:Int)(free:LI)(f:List Block)(e all:LI)(r:e.length=f.length)(s:all.length<=1000000)(v:f.length<free.length)(A:free.length<=1000000)(c:Int)(b:Bytes)(k:b.length<=1000000) :
 Ev tab A6 A5 199 [.ptr 0 0 0 1,.N c,.str b] (a2h t d free f e all x y z w)=some (.agg (Ac (K6 free d c b f.length)),a2h t d free (f++[⟨c,d,b⟩]) (e++[free.getD f.length df]) (all++[(K6 free d c b f.length).addr]) x y z w):=by
 refine Bz c41 rfl ?_;unfold K6;generalize u:free.getD f.length df=a at *;have i:=ds3 x y z w m n o l t d free (f++[⟨c,d,b⟩]) (e++[a]) all (by simp[r]) s (Hp a ⟨c,d,b⟩);have q:=λH=>a4v (orc:=A6) a c d b om H;generalize Hp a ⟨c,d,b⟩=p at *;have g:f.map D5++[[.N c,.N d,.str b]]=(f++[(⟨c,d,b⟩:Block)]).map D5:=by rw[f4c];rfl
 have h:e.map cI++[[.N a]]=(e++[a]).map cI:=by rw[f4c];rfl
 have j:¬ ((free.length:Int)<=(f.length:Int)):=om;unfold a2h Xq b40 at i ⊢;simp only[Ac,f1q,f33,f3w,f66]at i q ⊢;simp(disch:=try exact dq)only[tx,seval,a3o,KQ 269 rfl,Am,i,q,j,u,g,h,m.1,m.2,n.1,n.2,o.1,o.2,l.1,l.2,aq3,Aq,Ax,Bc,Bb,f3z,f1q,f33,f3w,r,B0]
def b2w(x:Block):LP:=[.N x.kind,.N x.birth,.str x.load]
def am4(l:List Block):Cx (l.map D5)=some (l.map b2w):=Ka _ _ (λ_=>rfl) l
def U7{Q:R3->Prop}{a:LA->AH->R3}{b:LA}{H:AH}{r:R3}(c:Aj a b H=r)(h:Q (Vg a (a b H))):Q r:=by
 subst c;rw[U8];exact h






structure Calm(x:AObj):Prop where
 refs:refsO (some x)=[]
 ren:∀ τ,renO τ x=x
def N3(b:Bytes)(k:Nat):Bytes:=
 if List.drop (32*k) (List.take (32*k+32) (b++zs (128-b.length)))=zs 32 then []else List.drop (32*k) (List.take (32*k+32) (b++zs (128-b.length)))
def b2x(b:Bytes)(k:Nat):(N3 b k).length<=32:=by
 unfold N3;split
 ·simp
 ·rw[f38,f3l];omega
structure OldW where
 d:Dset
 set:Ptr
 node:LT
 part:LT
structure LW where
 bl:List Block
 at':LI
 held:LI
 olds:List OldW
instance:Inhabited OldW:=⟨⟨⟨0,0,0,0,none⟩,Ah,[],[]⟩⟩
def LW.point(w:LW)(p:Ptr):LW:=⟨w.bl,w.at',w.held++[p.addr],w.olds⟩
def addrW(free:LI)(n:Nat):Int:=if n<free.length then free.getD n df else 0
def LW.put(c:Int)(free:LI)(w:LW)(a:Int)(b:Bytes):Ptr×LW:=
 (Hp (addrW free w.bl.length) ⟨a,c,b⟩,⟨w.bl++[⟨a,c,b⟩],w.at'++[addrW free w.bl.length],w.held++[addrW free w.bl.length],w.olds⟩)
def a2u(o:OldW)(n:Nat):Bool:=decide (n<(els o.d.files).length)&&decide ((n+1)*4<=o.part.length)
def c0i(o:OldW)(n:Nat):LT:=if a2u o n=true then(o.part.drop (n*4)).take 4 else []
def Zo(n k:Nat)(s:Bytes)(o:OldW):Bool:=a2u o n&&decide (N3 ((els o.d.files).getD n df).body k=s)
def LW.part(a:Int)(free:LI)(w:LW)(n k:Nat)(s:Bytes):Ptr×LW:=
 if s=[]then(Ah,w)else match w.olds.find? (Zo n k s)with
  |some o=>(o.part.getD (n*4+k) df,w.point (o.part.getD (n*4+k) df))
  |none=>w.put a free 1 s
def LW.partJ(b:Int)(free:LI)(w:LW)(n:Nat)(a:Bytes):Nat->LT×LW
 |0=>([],w)
 |j+1=>((LW.partJ b free w n a j).1++[((LW.partJ b free w n a j).2.part b free n j (N3 a j)).1],((LW.partJ b free w n a j).2.part b free n j (N3 a j)).2)
def Zp(n:Nat)(x:Node)(l:LT)(o:OldW):Bool:=decide (c0i o n=l)&&decide (n<o.node.length) &&
 (decide (((els o.d.files).getD n df).kind=x.kind)&&decide (((els o.d.files).getD n df).up=x.up)&&decide (((els o.d.files).getD n df).name=x.name)&&decide (((els o.d.files).getD n df).body.length=x.body.length))
def LW.node1(a:Int)(free:LI)(w:LW)(n:Nat)(x:Node)(l:LT):Ptr×LW:=match w.olds.find? (Zp n x l)with
 |some o=>(o.node.getD n df,w.point (o.node.getD n df))
 |none=>w.put a free 2 (Dx ⟨x.kind,x.up,x.name⟩ x.body.length l)
def LW.node(a:Int)(free:LI)(w:LW)(n:Nat)(x:Node):(Ptr×LT)×LW:=
 if x.kind=0 then((Ah,Af 4),w)else
  (((((LW.partJ a free w n x.body 4).2.node1 a free n x (LW.partJ a free w n x.body 4).1).1),(LW.partJ a free w n x.body 4).1),((LW.partJ a free w n x.body 4).2.node1 a free n x (LW.partJ a free w n x.body 4).1).2)
def LW.nodes(a:Int)(free:LI)(w:LW)(l:LT):Ptr×LW:=match w.olds.find? (λo=>decide (o.node=l))with
 |some o=>(o.set,w.point o.set)
 |none=>w.put a free 3 (Gt l)
def LW.setJ(a:Int)(free:LI)(w:LW)(f:LO):Nat->(LT×LT)×LW
 |0=>(([],[]),w)
 |j+1=>(((LW.setJ a free w f j).1.1++[((LW.setJ a free w f j).2.node a free j (f.getD j df)).1.1],(LW.setJ a free w f j).1.2++((LW.setJ a free w f j).2.node a free j (f.getD j df)).1.2),((LW.setJ a free w f j).2.node a free j (f.getD j df)).2)
def LW.old(w:LW)(o:OldW):LW:=⟨w.bl,w.at',w.held,w.olds++[o]⟩
def LW.set(a:Int)(free:LI)(w:LW)(x:Dset):Ptr×LW:=
 let q:=LW.setJ a free w (els x.files) (els x.files).length;let r:=q.2.nodes a free q.1.1
 (r.1,r.2.old ⟨x,r.1,q.1.1,q.1.2⟩)
def LW.setsJ(a:Int)(free:LI)(w:LW)(l:LD):Nat->LT×LW
 |0=>([],w)
 |j+1=>((LW.setsJ a free w l j).1++[((LW.setsJ a free w l j).2.set a free (l.getD j df)).1],((LW.setsJ a free w l j).2.set a free (l.getD j df)).2)
def cr1(k b:Int)(l:Bytes)(a:l.length<=1000000)(H:AH):K tab A6 A5 267 [.agg [.N k,.N b,.str l]] H=some (.str (Dh ⟨k,b,l⟩),H):=by
 refine Ae e1e rfl rfl rfl ?_ H;simp(disch:=try exact dq)only[tx,seval,a9v,a4w]
def b6l(a k b:Int)(l:Bytes)(c:l.length<=1000000)(H:AH):K tab A6 A5 266 [.N a,.agg [.N k,.N b,.str l]] H=some (.agg (Ac (Hp a ⟨k,b,l⟩)),H):=by
 refine Ae e1f rfl rfl rfl ?_ H;have h:=ar2 ⟨k,b,l⟩;simp(disch:=try exact dq)only[tx,seval,a9w,cr1,d64,Ac,Hp]
def bm9(b k c:Int)(i:c<=1000)(H:AH):K tab A6 A5 65 [.N b,.N k,.N c] H=some (.N (Px b k c),H):=by
 refine Ae l65 rfl rfl rfl ?_ H;have g:=λH=>ct7 (orc:=A6) (lk:=A5) b k H;have h:=ct8 b k;unfold Px;generalize Fr b k=a at *;by_cases d:a<0
 ·simp(disch:=try exact dq)only[tx,seval,Xu,g,d]
  try simp[d]
 ·by_cases e:c<0
  ·simp(disch:=try exact dq)only[tx,seval,Xu,g,d,e]
   try simp[e]
  ·by_cases f:6<=c
   ·simp(disch:=try exact dq)only[tx,seval,Xu,g,d,e,f]
    try simp[f]
   ·simp(disch:=try exact dq)only[tx,seval,Xu,g,d,e,f,f52]
    try simp[d,e,f]
def dd4(a b c d:Int)(H:AH):K tab A6 A5 167 [.str [52,52,52,52],.fz [[.N a],[.N b],[.N c],[.N d]]] H=some (.str (Ba [4,4,4,4] [a,b,c,d]),H):=Sh _ (by decide) (some [a,b,c,d]) H
def dd8(a b c:Int)(H:AH):K tab A6 A5 167 [.str [49,52,50],.fz [[.N a],[.N b],[.N c]]] H=some (.str (Ba [1,4,2] [a,b,c]),H):=Sh _ (by decide) (some [a,b,c]) H
def dd7(a b c d:Int)(H:AH):K tab A6 A5 167 [.str [49,52,52,49],.fz [[.N a],[.N b],[.N c],[.N d]]] H=some (.str (Ba [1,4,4,1] [a,b,c,d]),H):=Sh _ (by decide) (some [a,b,c,d]) H
def bp3(s:Bytes)(g:s.length<=240)(H:AH):K tab A6 A5 166 [.str s] H=some (.str (Z3 s),H):=by
 refine Ae e37 rfl rfl rfl ?_ H;have u:∀ x:UInt32,x.toNat<4294967296:=λx=>x.toNat_lt;have h:=u (Dc s).a;have i:=u (Dc s).b;have j:=u (Dc s).c;have k:=u (Dc s).d;have Vo:(Ba [4,4,4,4] (a5w (Dc s))).length=16:=Ew _ _ rfl;unfold Z3;unfold a5w at Vo ⊢;have f:=λH=>b1h s om H;generalize Dc s=S at *;simp(disch:=try exact dq)only[tx,seval,ac9,b8c,f]
 iterate 5 (rw[U8];simp(disch:=first|omega|decide)only[t0,seval,f52])
 simp(disch:=try exact dq)only[tx,seval,b0m,dd4,Vo,a6f,Wl,f52];have e:(256-((s.length+16:Nat):Int)).toNat=240-s.length:=om;rw[e]
def d8x(t g s a b:Int)(c d e f:UInt32)(H:AH):K tab A6 A5 323 [.agg [.N t,.N g,.N s,.N a,.N b,.M c.toNat,.M d.toNat,.M e.toNat,.M f.toNat]] H=some (.bool (mayUber ⟨t,g,s,⟨a,b,⟨c,d,e,f⟩⟩⟩),H):=by
 refine Ae e0b rfl rfl rfl ?_ H;simp(disch:=try exact dq)only[tx,seval,a93,b0w]
def em6(b a:Int)(H:AH):K tab A6 A5 161 [.N b,.N a] H=some (.str (K3 b a),H):=by
 refine Ae e3b rfl rfl rfl ?_ H;have h7:(Ba [1,4,2] [172,b,a]).length=7:=Ew _ _ rfl;simp(disch:=try exact dq)only[tx,seval,ad4,bp3,J5,b0m,dd8,h7,f52];unfold K3 Ek;simp only[f44,f32,f2f];by_cases c:((b<0\/1073741824<b)\/a<40)\/240<a
 ·rw[iP c,iN om]
 ·rw[iN c,iP om]
def b9c(t g s a b:Int)(c d e f:UInt32)(H:AH):K tab A6 A5 108 [.agg [.N t,.N g,.N s,.N a,.N b,.M c.toNat,.M d.toNat,.M e.toNat,.M f.toNat]] H=some (.str (Js ⟨t,g,s,⟨a,b,⟨c,d,e,f⟩⟩⟩),H):=by
 refine Ae e43 rfl rfl rfl ?_ H;have Xt:(Ba [1,4,4,1] [171,t,g,s]).length=10:=Ew _ _ rfl;have i:=X9 [⟨a,b,⟨c,d,e,f⟩⟩];simp only[f33,f3w]at i;have k:(Ba [1,4,4,1] [171,t,g,s]++Fp [⟨a,b,⟨c,d,e,f⟩⟩]).length<=240:=by rw[f1q,Xt];omega
 simp(disch:=try exact dq)only[tx,seval,af4,b0w,J5,dd7,Wn,c02,bp3,Xt];unfold Js;cases h:mayUber ⟨t,g,s,⟨a,b,⟨c,d,e,f⟩⟩⟩with
 |false=>rfl
 |true=>
   have j:C4 ⟨a,b,⟨c,d,e,f⟩⟩=true:=(by simp only[mayUber,f32]at h;exact h.1.2);simp[Fp,j]
def Qh{α:Type}{f:FuncId}{sz:Nat}(p:α->LP)(g:∀ a,(p a).length=sz)(c:A9 tab f=none)(e:∀ b H,A6 f b H=Hn sz true f b H)(l:Sl α)(d:(els l).length<=1000000) :
 Ev tab A6 A5 f [A4 p l] []=some (.own 0 sz 0 (els l).length (els l).length,[some ((els l).map λa=>(p a).map emb)]):=by
 refine Yq c ?_;rw[e];cases l with
 |none=>rfl
 |some l=>
   rw[Az]at d;simp only[B5,Hn,Az];rw[iP ⟨by simp[g],by rw[f3z];exact d,.inr trivial⟩,f3z,f6a];rfl
def N4{f:FuncId}(b:A5 f=false){a:LA}(c:Aa a=true){sz n:Nat}{o:AObj}(d:∀ τ,renO τ o=o)(h:Ev tab A6 A5 f a []=some (.own 0 sz 0 n n,[some o]))(H:AH) :
 K tab A6 A5 f a H=some (.own H.length sz 0 n n,H++[some o]):=by
 rw[a13 b c h H];simp only[Tt,Ws,f3w,f4f,if_false,f60,f5y,Tz,f5b,f5x,f3y,d]
def Uv{f:FuncId}{a:LQ}{c:Nat}{V:Opd->AV}{H:AH}{sz n:Nat}{o:AObj}{b:LA}(i:a.map V=b)(d:A5 f=false)(e:Aa b=true)(g:∀ τ,renO τ o=o)(h:Ev tab A6 A5 f b []=some (.own 0 sz 0 n n,[some o]))(j:c+1<=H.length) :
 clK c H (Ke A5 (K tab A6 A5) f a c V H) (some (.own 0 sz 0 n n,[some o]))=some ([.con c],[.con c,.len c],c+1,.own c sz 0 n n,Cp H [c] [some o]):=by
 subst i;show Ke A5 (K tab A6 A5) f a c V H=_;rw[cn3 (x:=.own 0 sz 0 n n) (H1:=[some o]) e (N4 d e g h []) j];simp only[f33,f3w,f66,List.range'_one,f5b,f5x,f3d,f41,Tt,am6,ez7,Tz,f3y,g]
def twD(d:Dev):Dev:=⟨some (els d.last),some (els d.wait),d.lies,d.arm,d.down⟩
def a2s(l:List Bytes):∀ τ,renO τ (l.map Gm)=l.map Gm:=λτ=>Ki τ l
def a2t(l:List (Int×Bytes)):∀ τ,renO τ (l.map Fe)=l.map Fe:=λτ=>Hi τ l
def ci7(d:Dev)(n:(els d.last).length<=100000)(j:(els d.wait).length<=1000000) :
 Ev tab A6 A5 319 [.agg [A4 B4 d.last,A4 Ay d.wait,.N d.lies,.N d.arm,.bool d.down]] []=some (.agg [.own 0 1 0 (els d.last).length (els d.last).length,.own 1 2 0 (els d.wait).length (els d.wait).length,.N d.lies,.N d.arm,.bool d.down],[some ((els d.last).map Gm),some ((els d.wait).map Fe)]):=by
 refine Bz e0g rfl ?_;have b:=Qh (f:=71) B4 (λ_=>rfl) b3c (λ_ _=>b31 _ _) d.last om;have e:=Qh (f:=72) Ay (λ_=>rfl) b3d (λ_ _=>b32 _ _) d.wait j;rw[at3]at b;rw[Vj]at e;have k:=N4 (f:=71) rfl (by simp[Aa,Ai]) (a2s _) b;have i:=N4 (f:=72) rfl (by simp[Aa,Ai]) (a2t _) e;have l:=λa c V H g h=>Uv (f:=71) (a:=a) (c:=c) (V:=V) (H:=H) g rfl (by simp[Aa,Ai]) (a2s _) b h;have m:=λa c V H g h=>Uv (f:=72) (a:=a) (c:=c) (V:=V) (H:=H) g rfl (by simp[Aa,Ai]) (a2t _) e h;simp(disch:=try exact dq)only[tx,seval,a98,k,i,f41,f3w];rw[l _ _ _ _ rfl (by simp)];simp(disch:=try exact dq)only[tx,seval,i,f41,f3w];rw[m _ _ _ _ rfl (by simp)];simp(disch:=try exact dq)only[tx,seval,Gs,Ki,Fv,Hi,f41,f3w]
def Hz(a:List Bytes)(w:List (Int×Bytes))(h:Nat->Int):Nat->List Bytes
 |0=>a
 |j+1=>if 0<=(w.getD j df).1/\(w.getD j df).1<(Hz a w h j).length then(Hz a w h j).set (w.getD j df).1.toNat (M0 ((Hz a w h j).getD (w.getD j df).1.toNat df) (w.getD j df).2 (h j))else Hz a w h j
def Z1(a:List Bytes)(w:List (Int×Bytes))(h:Nat->Int):∀ j,(Hz a w h j).length=a.length
 |0=>rfl
 |j+1=>by
   rw[Hz];split
   ·rw[f3v,Z1]
   ·exact Z1 a w h j
def cb2(k:Int)(H:AH):K tab A6 A5 321 [.N k] H=some (.N 3,H):=by
 refine Ae e0d rfl rfl rfl ?_ H;simp(disch:=try exact dq)only[tx,seval,a95]
def d6e(l:Bytes)(n:Nat):List.take (min n l.length) l=List.take n l:=by
 rw[List.take_eq_take_iff];omega
def ek4(l:Bytes)(n:Nat):List.drop (min n l.length) l=List.drop n l:=by
 by_cases h:n<=l.length
 ·rw[f4h h]
 ·rw[Nat.min_eq_right om,f3n,List.drop_eq_nil_of_le om]
def dn0(l:Bytes):(if((l.length:Nat):Int)<128 then((l.length:Nat):Int)else 128)=((min 128 l.length:Nat):Int):=by
 split<;>omega
def D0:Int.fdiv 0 (2 ^ min 1 IntKind.i64.bits)=0:=by decide +kernel
def D1:Int.fdiv 1 (2 ^ min 1 IntKind.i64.bits)=0:=by decide +kernel
def D2:Int.fdiv 2 (2 ^ min 1 IntKind.i64.bits)=1:=by decide +kernel
def D3:Int.fdiv 3 (2 ^ min 1 IntKind.i64.bits)=1:=by decide +kernel
def el1(c b:Bytes)(a:Int)(d:a=0\/a=1\/a=2\/a=3)(h:c.length<=1000000)(g:b.length<=1000000)(H:AH):K tab A6 A5 350 [.str c,.str b,.N a] H=some (.str (M0 c b a),H):=by
 refine Ae dy9 rfl rfl rfl ?_ H;have e:(0:Int).toNat=0:=rfl;have f:(1:Int).toNat=1:=rfl;rcases d with rfl|rfl|rfl|rfl
 all_goals
  unfold M0;simp(disch:=try exact dq)only[tx,seval,a8m,A0,A1,A2,A3,D0,D1,D2,D3,e,f,f5z,Nat.one_mul,f4p,f19,f12,f4u,ez7,f31,dn0,d6e,ek4,f2v,f3m,f3l,f38]
def ci9(d:Dev)(i:Int)(a:(els d.last).length<=1000000)(H:AH):K tab A6 A5 103 [.agg [A4 B4 d.last,A4 Ay d.wait,.N d.lies,.N d.arm,.bool d.down],.N i] H=some (.bool (decide (0<=i)&&decide (i<(els d.last).length)),H):=by
 refine Ae e47 rfl (by simp[Aa,Ab,Ai]) rfl ?_ H;simp(disch:=try exact dq)only[tx,seval,af8]
def b0n(x y z w:AV)(r sz o l t:Nat)(i:AV)(H:AH):K tab A6 A5 103 [.agg [x,.own r sz o l t,y,z,w],i] H=Gr tab A6 A5 103 [.agg [x,.own r sz o l t,y,z,w],i] H (Aa (B9 H [.agg [x,.own r sz o l t,y,z,w],i])) (K tab A6 A5 103 (B9 H [.agg [x,.own r sz o l t,y,z,w],i]) H):=Hy _ _ _ rfl _ _
def b0p(H:AH)(l:List (Int×Bytes)):(l.map Fe).map (λe=>e.map (Db H 3))=l.map Ay:=by rw[f6a];rfl
def b8l(H:AH)(l:List Bytes):(l.map Gm).map (λe=>e.map (Db H 3))=l.map B4:=by rw[f6a];rfl
def b58:∀ (l:List (Int×Bytes)) (d:Dev),d.wait≠none->(Hl d l).wait≠none
 |[],_,h=>h
 |p::l,d,_=>b58 l (Ir d p) (by rw[(bj5 d p).2.2.2.2];exact λh=>by cases h)
def cu2{α:Type}(p:α->LP){s:Sl α}(h:s≠none):A4 p s=.fz ((els s).map p):=by
 cases s with
 |none=>exact absurd rfl h
 |some l=>rfl
def el0(d:Dev)(l:Sl (Int×Bytes))(T:(els l).length<=100000)(V:(els d.wait).length<=100000)(A:(els d.last).length<=100000)(S:d.arm<=1000000000000)(H:AH) :
 K tab A6 A5 264 [.agg [A4 B4 d.last,A4 Ay d.wait,.N d.lies,.N d.arm,.bool d.down],A4 Ay l] H=some (.tuple [.agg (Eg (Co (twD d) (els l)).1),.bool (Co (twD d) (els l)).2],H):=by
 refine Ae e1h rfl (by simp[Aa,Ab,Ai]) (by simp[Eg,Aa,Ab,Ai]) ?_ H;have v:=ci7 d A om;have O:List.take (els d.last).length ((els d.last).map B4)=(els d.last).map B4:=Gf _ _;have M:List.take (els d.wait).length ((els d.wait).map Ay)=(els d.wait).map Ay:=Gf _ _;obtain⟨a,b⟩:∃ a,a=twD d:=⟨_,rfl⟩;rw[<-b];have p:a.last=some (els d.last):=by rw[b];rfl
 have i:a.wait=some (els d.wait):=by rw[b];rfl
 have o:a.lies=d.lies:=by rw[b];rfl
 have n:a.arm=d.arm:=by rw[b];rfl
 have k:a.down=d.down:=by rw[b];rfl
 unfold Co;rw[k];cases f:d.down with
 |true=>
   rw[f]at v;simp(disch:=try exact dq)only[tx,seval,a3j,KQ 319 rfl,Am,v,Gs,Ki,Fv,Hi,Th,Kb,Um,L8,O,M,f3z];simp only[Eg,p,i,o,n,k,f,B5]
 |false=>
   rw[f]at v;rw[iN f2d];simp(disch:=try exact dq)only[tx,seval,a3j,KQ 319 rfl,Am,v,Gs,Ki,Fv,Hi,Th,Kb,Um,L8,O,M,f3z];generalize Q:Aj _ _ _=r;refine B6 Q (els l).length
    (λj=>[U,U,.ptr 0 0 0 1,.ptr 1 0 0 1,U,U,A4 Ay l,.N (els l).length,.N j,U,U,U,U,U,U])
    (λj=>[some [[.fz ((els d.last).map B4),.own 3 2 0 (els (Hl a ((els l).take j)).wait).length (els (Hl a ((els l).take j)).wait).length,.N d.lies,.N (Hl a ((els l).take j)).arm,.bool false]],some [[.emp,.emp,.N 0,.N 0,.bool false]],none,some ((els (Hl a ((els l).take j)).wait).map Fe)])
    (λj=>Dl a (els l)=Dl (Hl a ((els l).take j)) ((els l).drop j)) ?_ ?_ ?_ ?_ ?_
   ·rfl
   ·simp only[f4u,Hl,f59,i,n,Az]
   ·rfl
   ·intro j L hI;have z:((j:Int)<((els l).length:Int)):=om;have u:=ag3 ((els l).take j) a;have E:=cu2 Ay (b58 ((els l).take j) a (by rw[i];exact λh=>by cases h));rw[f3l]at u;rw[ca9 L];rw[F7 L]at hI;generalize Hl a ((els l).take j)=e at *;obtain⟨m,q,s,G,I⟩:=u;rw[p]at m;rw[o]at q;rw[k]at s;rw[n]at G;rw[i,Az]at I;generalize R:(els l).getD j df=x at *;have D:Ay x=[.N x.1,.str x.2]:=rfl;have y:(els e.wait).map Fe++[[.N x.1,.str x.2]]=(els e.wait++[x]).map Fe:=(by rw[f4c];rfl);have C:Je e x=true↔(0<=x.1/\x.1<(els d.last).length/\x.2.length=256):=by
     simp only[Je,m,Az,f32,f2f];omega
    have g:List.take (els e.wait).length (List.map Ay (els e.wait))=List.map Ay (els e.wait):=Gf _ _;have B:List.take ((els e.wait).length+1) (List.map Ay (els e.wait++[x]))=List.map Ay (els e.wait++[x]):=f0a (by simp);have t:=λH=>ci9 ⟨some (els d.last),some (els e.wait),d.lies,e.arm,false⟩ x.1 (by rw[Az];omega) H;simp only[B5]at t;simp(disch:=try exact dq)only[tx,seval,z,R,Ad,D,y,b0n,b0p,t,Fv,Hi,L8,Kb,f52,Az,g,f3z,f1q,f33,f3w];have J:(decide ((!(decide (0<=x.1)&&decide (x.1<((els d.last).length:Int))))=true)||!decide ((x.2.length:Int)=256))=true↔Je e x=false:=by
     rw[<-f3p (Je e x),C];simp only[f44,f2o,f0m,f2f,f02];omega
    refine⟨λc=>?_,λc=>?_⟩
    ·rw[ak8 _ (J.1 c)]at hI;rw[hI];simp only[Eg,m,q,s,f,B5,E]
    ·rw[J,Bool.not_eq_false]at c;refine⟨λP=>?_,λP=>⟨λF=>?_,λF=>?_⟩⟩
     ·rw[ak7 _ c om]at hI;have w:Ir e x=S2 e x:=(by unfold Ir;rw[iN om]);rw[w]at hI ⊢;exact⟨rfl,by simp[S2,m,q,s,Az],hI⟩
     ·rw[b7y _ c om]at hI;rw[hI];simp only[Eg,m,q,B,B5,F]
     ·rw[ak7 _ c om]at hI;have w:Ir e x=⟨e.last,some (els e.wait++[x]),e.lies,e.arm-1,e.down⟩:=(by unfold Ir;rw[iP om]);rw[w]at hI ⊢;exact⟨rfl,by simp[Az],hI⟩
   ·intro hI;rw[f3m,f3n]at hI;rw[f3m];have u:=ag3 (els l) a;have E:=cu2 Ay (b58 (els l) a (by rw[i];exact λh=>by cases h));generalize Hl a (els l)=e at *;obtain⟨m,q,s,G,I⟩:=u;rw[hI];have g:List.take (els e.wait).length (List.map Ay (els e.wait))=List.map Ay (els e.wait):=Gf _ _;simp(disch:=try exact dq)only[tx,seval,f5q,Fv,Hi,L8,Kb,g];simp only[Dl,Eg,m,q,s,f,p,o,k,E,B5]
def ep0{lk:FuncId->Bool}{E:CallF}{f:FuncId}{d:Opd}{a:LQ}{b:LA}{c:Nat}{V:Opd->AV}{H:AH}{y:AV}(e:V d=.fn (.func f) [] [])(g:a.map V=b)(h:Aa b=true)(j:E f b []=some (y,[]))(k:Ab y=true)(i:c<=H.length) :
 C7 lk E (.calld d a) c V H=some ([],[],c,y,H):=by
 subst g;unfold C7;simp only[e,f41,f42,b6e h j,Lp _ _ k];simp[Cp,i]
def b21(a:List Bytes)(w:List (Int×Bytes))(h:Nat->Int)(d:∀ s∈a,s.length<=1000000)(f:∀ q∈w,q.2.length<=1000000):∀ j i,i<(Hz a w h j).length->((Hz a w h j).getD i df).length<=1000000
 |0,i,hi=>by
   rw[Hz]at hi ⊢;rw[ex9,ez2 hi];exact d _ (f3e _)
 |j+1,i,hi=>by
   have b:=b21 a w h d f j;rw[Hz]at hi ⊢;split at hi
   ·rename_i c;rw[iP c];rw[f3v]at hi;rw[ex9,f2e];split
    ·rename_i e;subst e;rw[iP hi];have k:=b _ hi;have l:(w.getD j df).2.length<=1000000:=by
      by_cases g:j<w.length
      ·rw[ex9,ez2 g];exact f _ (f3e _)
      ·rw[ex9,f0e om];decide
     simp only[f31,M0,f1q];split<;>split<;>simp only[f3l,f38]<;>omega
    ·rw[<-ex9];exact b i hi
   ·rename_i c;rw[iN c];exact b i hi
def d7u(L:List Bytes)(w:List (Int×Bytes))(a b:Int)(c:Bool)(C:L.length<=100000)(D:w.length<=1000000)(z:∀ s∈L,s.length<=1000000)(v:∀ q∈w,q.2.length<=1000000) :
 Ev tab A6 A5 320 [.ptr 0 0 0 1,.fn (.func 321) [] []] [some [[.own 1 1 0 L.length L.length,.own 2 2 0 w.length w.length,.N a,.N b,.bool c]],some (L.map Gm),some (w.map Fe)] =
  some (.tuple [],[some [[.own 1 1 0 L.length L.length,.emp,.N a,.N b,.bool c]],some ((Hz L w (λ_=>3) w.length).map Gm),some (w.map Fe)]):=by
 refine Bz e0e rfl ?_;simp(disch:=try exact dq)only[tx,seval,a96,Fv,Hi,Gs,Ki,f3z];generalize B:Aj _ _ _=r;refine B6 B w.length
  (λj=>[.ptr 0 0 0 1,.fn (.func 321) [] [],U,U,.own 2 2 0 w.length w.length,.N w.length,.N j,U,U,U,U])
  (λj=>[some [[.own 1 1 0 L.length L.length,.own 2 2 0 w.length w.length,.N a,.N b,.bool c]],some ((Hz L w (λ_=>3) j).map Gm),some (w.map Fe)])
  (λ_=>True) ?_ ?_ trivial ?_ ?_
 ·rfl
 ·rfl
 ·intro j A _;have h:((j:Int)<(w.length:Int)):=om;have f:=Z1 L w (λ_=>3) j;have k:∀ i,i<(Hz L w (λ_=>3) j).length->((Hz L w (λ_=>3) j).getD i df).length<=1000000:=λi hi=>b21 L w _ z v j i hi;rw[Hz];generalize Hz L w (λ_=>3) j=o at *;obtain⟨x,p⟩:∃ x,w.getD j df=x:=⟨_,rfl⟩;rw[p];have t:x.2.length<=1000000:=by rw[<-p];exact v _ (by rw[ex9,ez2 A];exact f3e _)
  have l:Fe x=[.N x.1,.str x.2]:=rfl;have d:=λH=>ci9 ⟨some o,some w,a,b,c⟩ x.1 (by rw[Az];omega) H;simp only[B5,Az]at d;have m:List.take L.length (o.map Gm)=o.map Gm:=f0a (by rw[f3z];omega);by_cases g:0<=x.1/\x.1<o.length
  ·have e:(decide (0<=x.1)&&decide (x.1<(o.length:Int)))=true:=(by simp[g]);rw[e]at d;rw[iP g];have n:x.1.toNat<o.length:=om;have y:(o.map Gm)[x.1.toNat]?=some [.str (o.getD x.1.toNat df)]:=Fc n Gm;have u:=λH=>el1 (o.getD x.1.toNat df) x.2 3 om (k x.1.toNat n) t H;simp(disch:=try exact dq)only[tx,seval,h,p,Fc,l,b0n,b0p,b8l,m,d,y,u,cb2,Fv,Hi,Gs,Ki,f52,f3z,f,g.1,g.2];rw[ep0 rfl rfl rfl (cb2 _ []) rfl (by simp)];simp(disch:=try exact dq)only[tx,seval,u,y,a1i,Fv,Hi,Gs,Ki,f52,f3z,f];rfl
  ·have e:(decide (0<=x.1)&&decide (x.1<(o.length:Int)))=false:=(by simp;omega);rw[e]at d;rw[iN g];simp(disch:=try exact dq)only[tx,seval,h,p,Fc,l,b0n,b0p,b8l,m,d,Fv,Hi,Gs,Ki,f52,f3z,f];rfl
 ·intro _;simp(disch:=try exact dq)only[tx,seval,f5q,Fv,Hi,Gs,Ki,f3z];rfl
def Uq(d:Dev):Dev×Bool:=if d.down=true then(twD d,false)else if 0<d.lies then(⟨some (els d.last),some (els d.wait),d.lies-1,d.arm,d.down⟩,true)
 else(⟨some (Hz (els d.last) (els d.wait) (λ_=>3) (els d.wait).length),none,d.lies,d.arm,d.down⟩,true)
def el2(d:Dev)(g:(els d.last).length<=100000)(h:(els d.wait).length<=1000000)(i:∀ s∈els d.last,s.length<=1000000)(l:∀ q∈els d.wait,q.2.length<=1000000)(m:-1000000000000<=d.lies/\d.lies<=1000000000000)(H:AH) :
 K tab A6 A5 265 [.agg [A4 B4 d.last,A4 Ay d.wait,.N d.lies,.N d.arm,.bool d.down]] H=some (.tuple [.agg (Eg (Uq d).1),.bool (Uq d).2],H):=by
 refine Ae e1g rfl (by simp[Aa,Ab,Ai]) (by simp[Eg,Aa,Ab,Ai]) ?_ H;have b:=ci7 d g h;have f:List.take (els d.last).length ((els d.last).map B4)=(els d.last).map B4:=Gf _ _;have e:List.take (els d.wait).length ((els d.wait).map Ay)=(els d.wait).map Ay:=Gf _ _;have j:=d7u (els d.last) (els d.wait) d.lies d.arm false g h i l;have k:=Z1 (els d.last) (els d.wait) (λ_=>3) (els d.wait).length;unfold Uq;cases a:d.down with
 |true=>
   rw[a]at b;rw[iP rfl];simp(disch:=try exact dq)only[tx,seval,a0a,KQ 319 rfl,Am,b,Gs,Ki,Fv,Hi,Th,Kb,Um,L8,f,e,f3z];simp only[Eg,twD,a,B5]
 |false=>
   rw[a]at b;rw[iN f2d];by_cases c:0<d.lies
   ·rw[iP c];simp(disch:=try exact dq)only[tx,seval,a0a,KQ 319 rfl,Am,b,Gs,Ki,Fv,Hi,Th,Kb,Um,L8,f,e,c,f52,f3z];simp only[Eg,B5]
   ·rw[iN c];have n:List.take (els d.last).length ((Hz (els d.last) (els d.wait) (λ_=>3) (els d.wait).length).map B4)=(Hz (els d.last) (els d.wait) (λ_=>3) (els d.wait).length).map B4:=f0a (by rw[f3z];omega);generalize Hz (els d.last) (els d.wait) (λ_=>3) (els d.wait).length=T at *;simp(disch:=try exact dq)only[tx,seval,a0a,KQ 319 rfl,KQ 320 rfl,Am,b,j,Gs,Ki,Fv,Hi,Th,Kb,Um,L8,f,e,n,c,f52,f3z];rfl
def cf3(l m:Sl Ptr)(G:(els l).length<=1000000)(I:(els m).length<=1000000)(H:AH):K tab A6 A5 372 [A4 Al l,A4 Al m] H=some (.bool (decide (els l=els m)),H):=by
 refine Ae dx9 rfl (by simp[Aa,Ab,Ai]) rfl ?_ H;by_cases c:((els l).length:Int)=(els m).length
 ·simp(disch:=try exact dq)only[tx,seval,a33,c];generalize q:Aj _ _ _=r;refine B6 q (els l).length (λj=>[A4 Al l,A4 Al m,U,U,.N (els m).length,.N j,U])
   (λj=>[]) (λj=>(els l).take j=(els m).take j) rfl rfl rfl ?_ ?_
  ·intro j p hI;have k:((j:Int)<((els l).length:Int)):=om;have n:((j:Int)<((els m).length:Int)):=om;rw[Et p,Et (show j<(els m).length by omega),hI];have f:(els l).getD j df≠(els m).getD j df->els l≠els m:=λh e=>h (by rw[e]);generalize s:(els l).getD j df=x at *;generalize t:(els m).getD j df=y at *;have i:(decide (x.addr=y.addr)&&(decide (x.birth=y.birth)&&(decide ((x.sum.a.toNat:Int)=y.sum.a.toNat)&&(decide ((x.sum.b.toNat:Int)=y.sum.b.toNat)&&(decide ((x.sum.c.toNat:Int)=y.sum.c.toNat)&&decide ((x.sum.d.toNat:Int)=y.sum.d.toNat))))))=decide (x=y):=by
    obtain⟨a,b,⟨w,z,A,B⟩⟩:=x;obtain⟨u,v,⟨C,D,E,F⟩⟩:=y
    try rw[f4d]
    try simp only[f32,f2f,Ptr.mk.injEq,Sum.mk.injEq,Int.natCast_inj,UInt32.toNat_inj]
   simp(disch:=try exact dq)only[tx,seval,k,n,Ad,Al,f52,s,t,i];by_cases g:x=y
   ·subst g;simp
   ·have o:=f g;simp[o,g]
  ·intro hI;rw[f3m,f0a om]at hI;simp(disch:=try exact dq)only[tx,seval,f5q,c];simp[hI]
 ·simp(disch:=try exact dq)only[tx,seval,a33,c];have f:¬ els l=els m:=λe=>c (by rw[e]);simp[f]
def d5p(t g s a b:Int)(c d e f:UInt32)(H:AH):K tab A6 A5 324 [.agg [.N t,.N g,.N s,.N a,.N b,.M c.toNat,.M d.toNat,.M e.toNat,.M f.toNat]] H=some (.str (Js ⟨t,g,s,⟨a,b,⟨c,d,e,f⟩⟩⟩),H):=by
 refine Ae e0a rfl rfl rfl ?_ H;simp(disch:=try exact dq)only[tx,seval,a92,b9c]
def ci4(n:Int)(b:n<=1000000)(H:AH):K tab A6 A5 382 [.N n] H=some (.str (zs n.toNat),H):=by
 refine Ae dx5 rfl rfl rfl ?_ H;have a:(if 0>n then 0 else n).toNat=n.toNat:=by split<;>omega
 simp(disch:=try exact dq)only[tx,seval,a8e,a6f,a]
def em4(l:Sl Rn)(a:(els l).length<=1000000)(H:AH):K tab A6 A5 318 [A4 A8 l] H=some (A4 A8 (some (els l)),H):=by
 refine Ae e0h rfl (by simp[Aa,Ab,Ai]) (Ai _ _) ?_ H;simp(disch:=try exact dq)only[tx,seval,a99];rw[iP ⟨by omega,by omega,by simp[A8]⟩]
def c0e(j i t g s a b:Int)(c d e f:UInt32)(H:AH):K tab A6 A5 268 [.N j,.agg [.N t,.N g,.N s,.N a,.N b,.M c.toNat,.M d.toNat,.M e.toNat,.M f.toNat],.N i] H=some (A4 Ay (Iu j ⟨t,g,s,⟨a,b,⟨c,d,e,f⟩⟩⟩ i),H):=by
 refine Ae e1d rfl rfl (Ai _ _) ?_ H;have l:=λH=>c3s (orc:=A6) (lk:=A5) j H;have m:=λH=>d8x t g s a b c d e f H;have h3:=λH=>d5p t g s a b c d e f H;unfold Iu;by_cases q:Ek j=true/\mayUber ⟨t,g,s,⟨a,b,⟨c,d,e,f⟩⟩⟩=true/\0<=i/\i<=1
 ·rw[iP q];obtain⟨p,n,o,r⟩:=q;rw[p]at l;rw[n]at m;have u:s<=1000:=by simp only[mayUber,f32,f2f]at n;omega
  have w:=λk H=>bm9 j k s u H;have v:i=0\/i=1:=om;rcases v with rfl|rfl
  all_goals
   simp(disch:=try exact dq)only[tx,seval,Vr,l,m]
   iterate 3 (rw[U8];simp(disch:=try exact dq)only[tx,seval,h3,w,f52,f41,f3d,f33,f3w])
   rfl
 ·rw[iN q];cases p:Ek j with
  |false=>
    rw[p]at l;simp(disch:=try exact dq)only[tx,seval,Vr,l]
    try rfl
  |true=>
    rw[p]at l;cases n:mayUber ⟨t,g,s,⟨a,b,⟨c,d,e,f⟩⟩⟩with
    |false=>
      rw[n]at m;simp(disch:=try exact dq)only[tx,seval,Vr,l,m]
      try rfl
    |true=>
      rw[n]at m;have o:i<0\/¬ i<0/\1<i:=by
       have:¬ (0<=i/\i<=1):=λh=>q ⟨p,n,h⟩;omega
      rcases o with o|⟨o,r⟩
      ·simp(disch:=try exact dq)only[tx,seval,Vr,l,m,o]
       try rfl
      ·simp(disch:=try exact dq)only[tx,seval,Vr,l,m,o,r]
       try rfl
def c0k(b:Bytes)(k:Nat)(q:b.length<=128)(r:k<4)(H:AH):K tab A6 A5 371 [.str b,.N (k:Int)] H=some (.str (N3 b k),H):=by
 refine Ae dy0 rfl rfl rfl ?_ H;have a:(b++zs (128-b.length)).length=128:=by rw[f1q,Wl];omega
 have l:(128-(b.length:Int)).toNat=128-b.length:=om;have m:(32:Int).toNat=32:=rfl;have i:=λH=>ci4 (128-(b.length:Int)) om H;have j:=λH=>ci4 32 om H;rw[l]at i;rw[m]at j;have d:((b++zs (128-b.length)).length:Int)=128:=om;unfold N3;obtain⟨B,h⟩:∃ B,b++zs (128-b.length)=B:=⟨_,rfl⟩;rw[h]at a d ⊢;have g:¬ (4<=(k:Int)):=om;have f:¬ ((k:Int)<0):=om;have e:¬ (128<(b.length:Int)):=om;have n:((k:Int)*32).toNat=32*k:=om;have tB:List.take 128 B=B:=f0a om;have p:(32:Int)<=((128-32*k:Nat):Int):=om;have o:List.take 32 (List.drop (32*k) B)=List.drop (32*k) (List.take (32*k+32) B):=by rw[List.drop_take,Nat.add_sub_cancel_left]
 simp(disch:=try exact dq)only[tx,seval,a8g,i,j,g,f,e,Wl,h,a,d,f38,tB,n,o,p,f52];by_cases c:List.drop (32*k) (List.take (32*k+32) B)=zs 32
 ·simp[c]
 ·simp[c]
def bl0(s:Space)(g:SpOk s)(n:Int)(e:-100000<=n)(f:n<=100000)(H:AH):K tab A6 A5 260 [.N n,.agg [A4 A8 s.held,A4 A8 s.one,A4 A8 s.two,A4 A8 s.kept]] H=some (A4 A8 (B8 (Gk n s.n)),H):=by
 refine Ae e1l rfl (by simp[Aa,Ab,Ai]) (Ai _ _) ?_ H;have d:=λH=>bl2 s g n e f H;have j:=λH=>bl1 s n e f H;have i:=λH=>bl3 s H;unfold Gk;cases c:Ct n s.n with
 |false=>
   rw[c]at d;simp(disch:=try exact dq)only[tx,seval,a3k,d];rfl
 |true=>
   rw[c]at d;obtain⟨l,m,l3,l4⟩:=g;have p:=S3 (λa b=>a&&!b) (Dq n) (els s.held);have h:=S3 (λa b=>a&&!b) (Br (Dq n) (els s.held)) (els s.one);have k:=S3 (λa b=>a&&!b) (Br (Br (Dq n) (els s.held)) (els s.one)) (els s.two);have o:(Dq n).length=1:=rfl;have a1:=λH=>Mr (some (Dq n)) s.held (by rw[Az];omega) H;have a2:=λH=>Mr (B8 (Br (Dq n) (els s.held))) s.one (by rw[Dp];unfold Br;omega) H;have a3:=λH=>Mr (B8 (Br (Br (Dq n) (els s.held)) (els s.one))) s.two (by rw[Dp];unfold Br at h ⊢;omega) H;have a4:=λH=>Mr (B8 (Br (Br (Br (Dq n) (els s.held)) (els s.one)) (els s.two))) s.kept (by rw[Dp];unfold Br at h k ⊢;omega) H;rw[Az]at a1;rw[Dp]at a2 a3 a4;simp only[B5]at a1;simp(disch:=try exact dq)only[tx,seval,a3k,d,j,i]
   iterate 5 (rw[U8];simp(disch:=try exact dq)only[tx,seval,a1,a2,a3,a4,f52])
   rfl
def bd7(s:Space)(a:Sl Rn):Space:=⟨some (els a),B8 (Br (els s.held) (els a)),B8 (Br (Br (els s.one) (els a)) (Br (els s.held) (els a))),some (els s.kept)⟩
def d7l(s:Space)(d:SpOk s)(c:Sl Rn)(e:(els c).length<=500)(H:AH):K tab A6 A5 262 [.agg [A4 A8 s.held,A4 A8 s.one,A4 A8 s.two,A4 A8 s.kept],A4 A8 c] H=some (.agg (V3 (bd7 s c)),H):=by
 refine Ae e1j rfl (by simp[Aa,Ab,Ai]) (by simp[V3,Aa,Ab,Ai]) ?_ H;have f:=d.held;have g:=d.one;have l4:=d.kept;have a1:=λH=>Mr s.held c om H;have a2:=λH=>Mr s.one c om H;have h:=S3 (λa b=>a&&!b) (els s.held) (els c);have i:=S3 (λa b=>a&&!b) (els s.one) (els c);have a3:=λH=>Mr (B8 (Br (els s.one) (els c))) (B8 (Br (els s.held) (els c))) (by rw[Dp,Dp];unfold Br;omega) H;rw[Dp,Dp]at a3;simp(disch:=try exact dq)only[tx,seval,a9y,a1,a2,a3,em4];rfl
def ei0(l:Sl Rn)(t:Wg (els l))(n:Int)(G:n<=1000000)(H:AH):K tab A6 A5 312 [A4 A8 l,.N n] H=some (.tuple (Vy (els l) n),H):=by
 refine Ae e0n rfl (by simp[Aa,Ab,Ai]) (by unfold Vy;split<;>simp[Ab,Aa]) ?_ H;have y:=b1s l t;unfold Vy aw3;by_cases f:n<0
 ·simp(disch:=try exact dq)only[tx,seval,a07,f];simp[f]
 ·by_cases w:Eo (els l)<n
  ·rw[iP om];simp(disch:=try exact dq)only[tx,seval,a07,f,y,w]
  ·rw[iN om];simp(disch:=try exact dq)only[tx,seval,a07,f,y,w];generalize C:Aj _ _ _=r;refine B6 C (els l).length (λi=>[U,.N n,U,U,.own 0 1 0 ((Gb ((els l).take i)).take n.toNat).length ((Gb ((els l).take i)).take n.toNat).length,U,U,A4 A8 l,.N (els l).length,.N i,U,U])
    (λi=>[some (((Gb ((els l).take i)).take n.toNat).map cI)]) (λ_=>True) ?_ ?_ trivial ?_ ?_
   ·simp[Gb]
   ·simp[Gb]
   ·intro i hi _;have c:((i:Int)<((els l).length:Int)):=om;have A:=t.1;have e:(els l).getD i df∈els l:=by
     rw[ex9,ez2 hi];exact f3e _
    have E:=t.2 _ e;have D:(els l).take (i+1)=(els l).take i++[(els l).getD i df]:=by
     rw[f2r,ex9,ez2 hi];rfl
    rw[D,cc9];have B:((Gb ((els l).take i)).take n.toNat).length<=n.toNat:=(by rw[f3l];omega);generalize g:(els l).getD i df=x at *;generalize (Gb ((els l).take i)).take n.toNat=o at *;simp(disch:=try exact dq)only[tx,seval,c,g,Ad,A8,f52];generalize v:Aj _ _ _=I;refine Hr (Q:=λr=>Rd _ _ _ _ (G3 _ _ (Bm _ _ (Bi _ (Bi _ r))))) v (min (x.b-x.a).toNat (n.toNat-o.length))
     (λj=>[U,.N n,U,U,.own 0 1 0 (o.length+j) (o.length+j),.ptr 1 0 0 1,.N (x.a+j),A4 A8 l,.N (els l).length,.N i,U,U])
     (λj=>[some ((o++Ei j x.a).map cI),some [[.N x.a,.N x.b]]]) (λ_=>True) ?_ ?_ trivial ?_ ?_
    ·simp
    ·simp[Ei]
    ·intro j F _;have q:x.a+(j:Int)<x.b:=om;have s:((o.length:Int)+(j:Int))<n:=om;have p:(o++Ei j x.a).map cI++[[.N (x.a+(j:Int))]]=(o++Ei (j+1) x.a).map cI:=(by rw[b0t,<-f2p,f4c (l₁:=o++Ei j x.a)];rfl);have d:(o++Ei j x.a).length=o.length+j:=(by rw[f1q,V1]);simp(disch:=try exact dq)only[tx,seval,c,g,q,s,Ad,A8,f52,p,Aq,f3z,d,f4l];rw[Int.add_assoc];rfl
    ·intro _;have u:¬ (x.a+((min (x.b-x.a).toNat (n.toNat-o.length):Nat):Int)<x.b/\(o.length:Int)+((min (x.b-x.a).toNat (n.toNat-o.length):Nat):Int)<n):=om;generalize min (x.b-x.a).toNat (n.toNat-o.length)=m at *;by_cases k:x.a+(m:Int)<x.b
     ·have z:¬ (o.length:Int)+(m:Int)<n:=λh=>u ⟨k,h⟩;simp(disch:=try exact dq)only[tx,seval,c,g,k,z,Ad,A8,f52,Aq,f3z,f4l,V1]
     ·simp(disch:=try exact dq)only[tx,seval,c,g,k,Ad,A8,f52,Aq,f3z,f4l,V1]
   ·intro _;rw[f3m];simp(disch:=try exact dq)only[tx,seval,f5q,Aq,Ax,Lk,Jj]
def b2v(o:OldW):LP:=[.N o.d.id,.N o.d.kind,.N o.d.origin,.N o.d.quota,Lt Ap o.d.files]++Al o.set++[.fz (o.node.map Al),.fz (o.part.map Al)]
def Gn(o:OldW):LA:=(b2v o).map emb
def Yg(o:OldW):Gn o=[.N o.d.id,.N o.d.kind,.N o.d.origin,.N o.d.quota,A4 Ap o.d.files,.N o.set.addr,.N o.set.birth,.M o.set.sum.a.toNat,.M o.set.sum.b.toNat,.M o.set.sum.c.toNat,.M o.set.sum.d.toNat,.fz (o.node.map Al),.fz (o.part.map Al)]:=by
 unfold Gn b2v Al;rw[<-Ks];rfl
def F3(l:List OldW):refsO (some (l.map Gn))=[]:=J2 l _ λ_=>a1t _
def Ez(τ:Nat->Option Nat)(l:List OldW):renO τ (l.map Gn)=l.map Gn:=V8 τ l b2v
def Lh(t:Ptr)(f:Int)(free:LI)(e no g:Nat):LA:=[.own 1 3 0 e e,.own 2 1 0 e e,.N t.addr,.N t.birth,.M t.sum.a.toNat,.M t.sum.b.toNat,.M t.sum.c.toNat,.M t.sum.d.toNat,.emp,.emp,.N f,.fz (free.map λx=>[.N x]),.own 3 13 0 no no,.own 4 1 0 g g]
def G0(t:Ptr)(a:Int)(free:LI)(w:LW):AH:=[some [Lh t a free w.bl.length w.olds.length w.held.length],some (w.bl.map D5),some (w.at'.map cI),some (w.olds.map Gn),some (w.held.map cI)]
structure LWok(w:LW)(n:Nat):Prop where
 at':w.at'.length=w.bl.length
 bl:w.bl.length<=n
 held:w.held.length<=n
 olds:w.olds.length<=n
def LWok.point{w:LW}{n:Nat}(h:LWok w n)(p:Ptr):LWok (w.point p) (n+1):=⟨h.at',f30 h.bl,by simp only[LW.point,f1q,f33,f3w];have:=h.held;omega,f30 h.olds⟩
def LWok.put{w:LW}{n:Nat}(h:LWok w n)(c:Int)(free:LI)(a:Int)(b:Bytes):LWok (w.put c free a b).2 (n+1):=by
 obtain⟨d,e,h3,h4⟩:=h;exact⟨by simp[LW.put,d],by simp only[LW.put,f1q,f33,f3w];omega,by simp only[LW.put,f1q,f33,f3w];omega,f30 h4⟩
def ar4(t:Ptr)(a:Int)(free:LI)(w:LW){n:Nat}(d:LWok w n)(f:n<=900000)(p:Ptr) :
 Ev tab A6 A5 349 [.ptr 0 0 0 1,.agg (Ac p)] (G0 t a free w)=some (.agg (Ac p),G0 t a free (w.point p)):=by
 refine Bz dz1 rfl ?_;obtain⟨c,e,h3,h4⟩:=d;have b:w.held.map cI++[[.N p.addr]]=(w.held++[p.addr]).map cI:=by rw[f4c];rfl
 unfold G0 Lh LW.point;simp(disch:=try exact dq)only[tx,seval,a8o,Ac,Aq,Ax,Bc,Bb,F3,Ez,f3z,f1q,f33,f3w,b,c]
def aq6(t:Ptr)(f:Int)(free:LI)(s:free.length<=1000000)(w:LW){n:Nat}(q:LWok w n)(u:n<=800000)(d:Int)(b:Bytes)(j:b.length<=1000000) :
 Ev tab A6 A5 315 [.ptr 0 0 0 1,.N d,.str b] (G0 t f free w)=some (.agg (Ac (w.put f free d b).1),G0 t f free (w.put f free d b).2):=by
 refine Bz e0k rfl ?_;obtain⟨m,r,h3,h4⟩:=q;have k:=λH=>b6l (addrW free w.bl.length) d f b j H;have o:(Hp (addrW free w.bl.length) ⟨d,f,b⟩).addr=addrW free w.bl.length:=rfl;have g:=ar4 t f free ⟨w.bl++[⟨d,f,b⟩],w.at'++[addrW free w.bl.length],w.held,w.olds⟩ (n:=n+1) ⟨by simp[m],by simp;omega,by simp;omega,by simp;omega⟩ om (Hp (addrW free w.bl.length) ⟨d,f,b⟩);have h:w.bl.map D5++[[.N d,.N f,.str b]]=(w.bl++[(⟨d,f,b⟩:Block)]).map D5:=by rw[f4c];rfl
 have i:∀ a:Int,w.at'.map cI++[[.N a]]=(w.at'++[a]).map cI:=λa=>by rw[f4c];rfl
 unfold LW.point at g;unfold LW.put;simp only[]at g ⊢;rw[o]at g;generalize Hp (addrW free w.bl.length) ⟨d,f,b⟩=p at *;unfold G0 Lh at g ⊢;simp only[Ac,f1q,f33,f3w,f66]at g k ⊢;by_cases c:w.bl.length<free.length
 ·have l:((w.bl.length:Int)<(free.length:Int)):=om;have e:addrW free w.bl.length=free.getD w.bl.length df:=iP c;simp only[e]at g k ⊢;simp(disch:=try exact dq)only[tx,seval,a3a,KQ 349 rfl,Am,g,k,l,h,i,Aq,Ax,Bc,Bb,F3,Ez,f3z,f1q,f33,f3w,m,B0]
 ·have l:¬ ((w.bl.length:Int)<(free.length:Int)):=om;have e:addrW free w.bl.length=0:=iN c;simp only[e]at g k ⊢;simp(disch:=try exact dq)only[tx,seval,a3a,KQ 349 rfl,Am,g,k,l,h,i,Aq,Ax,Bc,Bb,F3,Ez,f3z,f1q,f33,f3w,m,B0]
def ar6(o:OldW)(n:Nat):Sl Ptr:=if a2u o n=true then some ((o.part.drop (n*4)).take 4)else none
def c0h(o:OldW)(n:Nat)(j:n<=1000000)(h:(els o.d.files).length<=1000000)(i:o.part.length<=1000000)(H:AH):K tab A6 A5 373 [.agg (Gn o),.N (n:Int)] H=some (A4 Al (ar6 o n),H):=by
 refine Ae dx8 rfl (by simp[Aa,Ab,Yg,Ai]) (Ai _ _) ?_ H;rw[Yg];unfold ar6 a2u;by_cases c:n<(els o.d.files).length/\(n+1)*4<=o.part.length
 ·have a:¬ (((els o.d.files).length:Int)<=(n:Int)):=om;have b:¬ ((o.part.length:Int)<((n:Int)+1)*4):=om;have u:((n:Int)*4).toNat=n*4:=om;have a1:((o.part.map Al).drop (n*4)).all (λe=>decide (e.length=6))=true:=by
   rw[<-f5t,f35];intro e f;obtain⟨x,_,rfl⟩:=f62.1 f;rfl
  have a2:(((o.part.map Al).drop (n*4)).take 4).all (λe=>decide (e.length=6))=true:=by
   rw[<-f5t,<-f5g,f35];intro e f;obtain⟨x,_,rfl⟩:=f62.1 f;rfl
  have g:(o.part.map Al).take o.part.length=o.part.map Al:=Gf _ _;rw[iP (by simp[c.1,c.2])];simp(disch:=try exact dq)only[tx,seval,a05,f52,a,b,Ik,Fh,u,a1,a2,g,f3z,f38,f4p];rw[f5g,f5t]
 ·rw[iN (by simp;omega)];by_cases a:((els o.d.files).length:Int)<=(n:Int)
  ·simp(disch:=try exact dq)only[tx,seval,a05,f52,a]
  ·have b:((o.part.length:Int)<((n:Int)+1)*4):=om;simp(disch:=try exact dq)only[tx,seval,a05,f52,a,b]
def aw5{α:Type}[Inhabited α]{p:α->Bool}:∀ {l:List α} {j:Nat},j<l.length->(∀ i,i<j->p (l.getD i df)=false)->p (l.getD j df)=true->l.find? p=some (l.getD j df)
 |x::l,0,_,_,h2=>by rw[f1g]at h2 ⊢;rw[List.find?_cons_of_pos h2]
 |x::l,j+1,hj,h,h2=>by
   have a:=h 0 om;rw[f1g]at a;rw[f1b]at h2 ⊢;rw[List.find?_cons_of_neg (by rw[a];exact f2d)];exact aw5 (by simpa using hj) (λi hi=>by have:=h (i+1) om;rwa [f1b]at this) h2
def b5c{α:Type}[Inhabited α]{p:α->Bool}{l:List α}(h:∀ i,i<l.length->p (l.getD i df)=false):l.find? p=none:=by
 rw[List.find?_eq_none];intro x a;obtain⟨i,hi,rfl⟩:=f1i a
 have:=h i hi;rw[ex9,ez2 hi]at this;rw[show(some l[i]).getD df=l[i]from rfl]at this;rw[this];exact f2d
structure OldOk(o:OldW):Prop where
 files:(els o.d.files).length=8
 body:∀ x∈els o.d.files,x.body.length<=128
 node:o.node.length=8
 part:o.part.length=32
def OldOk.has{o:OldW}(h:OldOk o){n:Nat}(a:n<8):a2u o n=true:=by
 unfold a2u;rw[h.files,h.part];simp;omega
def O1{α:Type}[Inhabited α]{l:List α}{j:Nat}(h:j<l.length):l.getD j df∈l:=by
 rw[ex9,ez2 h];exact f3e _
def d52(t:Ptr)(a:Int)(free:LI)(W:free.length<=1000000)(w:LW){m:Nat}(D:LWok w m)(Y:m<=800000)(ho:∀ o∈w.olds,OldOk o)(n k:Nat)(Z:n<8)(R:k<4)(s:Bytes)(hs:s.length<=1000000) :
 Ev tab A6 A5 370 [.ptr 0 0 0 1,.N (n:Int),.N (k:Int),.str s] (G0 t a free w)=some (.agg (Ac (w.part a free n k s).1),G0 t a free (w.part a free n k s).2):=by
 refine Bz dy1 rfl ?_;have c:=D.at';unfold LW.part;by_cases E:s=[]
 ·rw[iP E];unfold G0 Lh;simp(disch:=try exact dq)only[tx,seval,a34,E,Aq,Ax,Bc,Bb,F3,Ez,f3z,c];rfl
 ·rw[iN E];have I:=aq6 t a free W w D Y 1 s hs;have Q:=λp=>ar4 t a free w D om p;have a0:=D.olds;unfold G0 Lh at I Q ⊢;simp(disch:=try exact dq)only[tx,seval,a34,E,Aq,Ax,Bc,Bb,F3,Ez,f3z,c];generalize hr:Aj _ _ _=r;refine B6 hr w.olds.length (λj=>[.ptr 0 0 0 1,.N (n:Int),.N (k:Int),.str s,.ptr 5 0 0 1,U,U,.own 3 13 0 w.olds.length w.olds.length,.N w.olds.length,.N (j:Int),U,U]) (λ_=>_) (λj=>∀ i,i<j->Zo n k s (w.olds.getD i df)=false) ?_ rfl ?_ ?_ ?_
  ·rfl
  ·exact λi hi=>absurd hi (f4f _)
  ·intro j L G;have z:((j:Int)<(w.olds.length:Int)):=om;have b:=ho _ (O1 L);have v:=aw5 (p:=Zo n k s) L G;have e:Zo n k s (w.olds.getD j df)=false->∀ i,i<j+1->Zo n k s (w.olds.getD i df)=false:=λh i hi=>by
    rcases f5u i j with P|P
    ·exact G i P
    ·rw[show i=j by omega];exact h
   obtain⟨o,T⟩:∃ o,w.olds.getD j df=o:=⟨_,rfl⟩;have J:(w.olds.map Gn)[j]?=some (Gn o):=(by rw[Fc L Gn,T]);rw[T]at b v e;have f:=λH=>c0h o n om (by have:=b.files;omega) (by have:=b.part;omega) H;rw[Yg]at J f;have O:=b.has Z;have V:ar6 o n=some ((o.part.drop (n*4)).take 4):=iP O;have M:Zo n k s o=decide (N3 ((els o.d.files).getD n df).body k=s):=(by unfold Zo;rw[O,f5e]);rw[V,B5]at f;rw[M]at v e;have X:=b.files;have S:=b.part;have B:((n:Int)<((els o.d.files).length:Int)):=om;have x:((o.part.drop (n*4)).take 4).length=4:=(by rw[f3l,f38];omega);have K:((o.part.drop (n*4)).take 4).getD k df=o.part.getD (n*4+k) df:=by
    rw[ex9,f1w,iP R,f1l,<-ex9]
   have A:((k:Int)<4):=om;have y:=λH=>c0k ((els o.d.files).getD n df).body k (b.body _ (O1 om)) R H;generalize (o.part.drop (n*4)).take 4=l at *;have C:List.map Al l≠[]:=λh=>(by have:=congrArg List.length h;rw[f3z,x]at this;cases this);by_cases F:N3 ((els o.d.files).getD n df).body k=s
   ·rw[v (by simpa using F)];simp only[];have u:=Q (o.part.getD (n*4+k) df);rw[<-K]at u ⊢;simp only[Ac]at u;simp(disch:=try exact dq)only[tx,seval,z,J,f,C,B,y,F,x,A,Ad,B0,Ap,Al,KQ 349 rfl,Am,u,Aq,Ax,Bc,Bb,F3,Ez,f3z,c];rfl
   ·simp(disch:=try exact dq)only[tx,seval,z,J,f,C,B,y,F,x,A,Ad,B0,Ap,Al,Aq,Ax,Bc,Bb,F3,Ez,f52,f3z,c];exact⟨rfl,e (f4e F)⟩
  ·intro G;rw[b5c G];simp only[];have g:=(D.put a free 1 s).at';generalize w.put a free 1 s=q at *;obtain⟨p2,w2⟩:=q;simp only[Ac]at I g ⊢;simp(disch:=try exact dq)only[tx,seval,f5q,KQ 315 rfl,Am,I,Aq,Ax,Bc,Bb,F3,Ez,f3z,c,g]
def d53(t:Ptr)(a:Int)(free:LI)(E:free.length<=1000000)(w:LW){m:Nat}(n:LWok w m)(G:m<=800000)(I:∀ o∈w.olds,OldOk o)(l:LT)(F:l.length=8) :
 Ev tab A6 A5 348 [.ptr 0 0 0 1,.fz (l.map Al)] (G0 t a free w)=some (.agg (Ac (w.nodes a free l).1),G0 t a free (w.nodes a free l).2):=by
 refine Bz dz2 rfl ?_;have b:=n.at';unfold LW.nodes;have x:=aq6 t a free E w n G 3 (Gt l) (by have:=a6o l;omega);have C:=λp=>ar4 t a free w n om p;have J:=n.olds;have B:=λH=>d9e (some l) (by rw[Az];omega) H;rw[Az,B5]at B;unfold G0 Lh at x C ⊢;simp(disch:=try exact dq)only[tx,seval,a8p,Aq,Ax,Bc,Bb,F3,Ez,f3z,b];generalize K:Aj _ _ _=r;refine B6 K w.olds.length (λj=>[.ptr 0 0 0 1,.fz (l.map Al),.ptr 5 0 0 1,U,.own 3 13 0 w.olds.length w.olds.length,.N w.olds.length,.N (j:Int),U,U]) (λ_=>_) (λj=>∀ i,i<j->decide ((w.olds.getD i df).node=l)=false) ?_ rfl ?_ ?_ ?_
 ·rfl
 ·exact λi hi=>absurd hi (f4f _)
 ·intro j z v;have g:((j:Int)<(w.olds.length:Int)):=om;have k:=I _ (O1 z);have f:=aw5 (p:=λo=>decide (o.node=l)) z v;have d:decide ((w.olds.getD j df).node=l)=false->∀ i,i<j+1->decide ((w.olds.getD i df).node=l)=false:=λh i hi=>by
   rcases f5u i j with A|A
   ·exact v i A
   ·rw[show i=j by omega];exact h
  obtain⟨o,D⟩:∃ o,w.olds.getD j df=o:=⟨_,rfl⟩;have y:(w.olds.map Gn)[j]?=some (Gn o):=by rw[Fc z Gn,D]
  rw[D]at k f d;rw[Yg]at y;have u:=λH=>cf3 (some o.node) (some l) (by rw[Az,k.node];omega) (by rw[Az,F];omega) H;rw[Az,Az,B5,B5]at u;by_cases s:o.node=l
  ·rw[f (f51 s)];simp only[];have e:=C o.set;simp only[Ac]at e;simp only[f51 s]at u;simp(disch:=try exact dq)only[tx,seval,g,y,u,KQ 349 rfl,Am,e,Aq,Ax,Bc,Bb,F3,Ez,f3z,b];rfl
  ·simp(disch:=try exact dq)only[tx,seval,g,y,u,s,Aq,Ax,Bc,Bb,F3,Ez,f52,f3z,b];exact⟨rfl,d (f4e s)⟩
 ·intro v;rw[b5c v];simp only[];have c:=(n.put a free 3 (Gt l)).at';generalize w.put a free 3 (Gt l)=q at *;obtain⟨L,M⟩:=q;simp only[Ac]at x c ⊢;simp(disch:=try exact dq)only[tx,seval,f5q,B,KQ 315 rfl,Am,x,Aq,Ax,Bc,Bb,F3,Ez,f3z,b,c]
def ar7(a:Int)(free:LI)(w:LW)(n:Nat)(b:Bytes):∀ j,(LW.partJ a free w n b j).1.length=j
 |0=>rfl
 |j+1=>by rw[LW.partJ,f1q,ar7 a free w n b j];rfl
def LWok.part{w:LW}{m:Nat}(h:LWok w m)(a:Int)(free:LI)(n k:Nat)(s:Bytes):LWok (w.part a free n k s).2 (m+1):=by
 unfold LW.part;split
 ·exact⟨h.at',f30 h.bl,f30 h.held,f30 h.olds⟩
 ·split
  ·exact h.point _
  ·exact h.put _ _ _ _
def LW.part_olds(w:LW)(a:Int)(free:LI)(n k:Nat)(s:Bytes):(w.part a free n k s).2.olds=w.olds:=by
 unfold LW.part;split
 ·rfl
 ·split<;>rfl
def LWok.partJ{w:LW}{m:Nat}(h:LWok w m)(a:Int)(free:LI)(n:Nat)(b:Bytes):∀ j,LWok (LW.partJ a free w n b j).2 (m+j)
 |0=>h
 |j+1=>(LWok.partJ h a free n b j).part _ _ _ _ _
def LW.partJ_olds(w:LW)(a:Int)(free:LI)(n:Nat)(b:Bytes):∀ j,(LW.partJ a free w n b j).2.olds=w.olds
 |0=>rfl
 |j+1=>by rw[LW.partJ];exact(LW.part_olds _ _ _ _ _ _).trans (LW.partJ_olds w a free n b j)
def Tx(l:LT):LT:=l++List.replicate (4-l.length) Ah
def dd2{l:LT}(h:l.length<=4):(Tx l).length=4:=by unfold Tx;rw[f1q,f0j];omega
def dd1{l:LT}(h:l.length<4)(p:Ptr):(Tx l).set l.length p=Tx (l++[p]):=by
 unfold Tx;rw[f4j,iN om,f6g,show 4-l.length=(4-(l++[p]).length)+1 by simp;omega,f13,f1z];simp
def dd3{l:LT}(h:l.length=4):Tx l=l:=by unfold Tx;rw[h];simp
def a5j(H:AH)(l:LT):(l.map Ac).map (λe=>e.map (Db H 3))=l.map Al:=by rw[f6a];rfl
def b8e(a:AV)(r sz o l t:Nat)(H:AH):K tab A6 A5 372 [a,.own r sz o l t] H=Gr tab A6 A5 372 [a,.own r sz o l t] H (Aa (B9 H [a,.own r sz o l t])) (K tab A6 A5 372 (B9 H [a,.own r sz o l t]) H):=Hy _ _ _ rfl _ _
def d5c(a b:AV)(r sz o l t:Nat)(H:AH):K tab A6 A5 331 [a,b,.own r sz o l t] H=Gr tab A6 A5 331 [a,b,.own r sz o l t] H (Aa (B9 H [a,b,.own r sz o l t])) (K tab A6 A5 331 (B9 H [a,b,.own r sz o l t]) H):=Hy _ _ _ rfl _ _
def d54(t:Ptr)(a:Int)(free:LI)(hf:free.length<=1000000)(w:LW){m:Nat}(hw:LWok w m)(hm:m<=700000)(ho:∀ o∈w.olds,OldOk o)(n:Nat)(X:n<8)(x:Node)(hx:x.body.length<=128)(a6:x.name.length<=1000000) :
 Ev tab A6 A5 347 [.ptr 0 0 0 1,.N (n:Int),.agg [.N x.kind,.N x.up,.str x.name,.str x.body,.N x.bad]] (G0 t a free w) =
  some (.tuple [.agg (Ac (w.node a free n x).1.1),.own 5 6 0 4 4],G0 t a free (w.node a free n x).2++[some ((w.node a free n x).1.2.map Ac)]):=by
 refine Bz dz3 rfl ?_;have I:=hw.at';unfold LW.node;by_cases L:x.kind=0
 ·rw[iP L];unfold G0 Lh;simp(disch:=try exact dq)only[tx,seval,a36,L,Aq,Ax,Bc,Bb,F3,Ez,f3z,I];rfl
 ·rw[iN L];unfold G0 Lh;simp(disch:=try exact dq)only[tx,seval,a36,L,Aq,Ax,Bc,Bb,F3,Ez,f3z,I];generalize hr:Aj _ _ _=r;refine B6 hr 4 (λj=>[.ptr 0 0 0 1,.N (n:Int),U,.ptr 5 0 0 1,.ptr 6 0 0 1,U,.own 7 6 0 4 4,U,U,U,U,U,.N 4,.N (j:Int),U,U,U,U,U,U,U,U,U,U,U,U,U,U])
   (λj=>G0 t a free (LW.partJ a free w n x.body j).2++[some [[.N x.kind,.N x.up,.str x.name,.str x.body,.N x.bad]],some [[.N 0,.N 0,.M 0,.M 0,.M 0,.M 0]],some ((Tx (LW.partJ a free w n x.body j).1).map Ac)]) (λ_=>True) ?_ ?_ trivial ?_ ?_
  ·rfl
  ·rfl
  ·intro j E _;have B:((j:Int)<4):=om;have b:=hw.partJ a free n x.body j;have s:=LW.partJ_olds w a free n x.body j;have g:=ar7 a free w n x.body j;have hS:LW.partJ a free w n x.body (j+1)=((LW.partJ a free w n x.body j).1++[((LW.partJ a free w n x.body j).2.part a free n j (N3 x.body j)).1],((LW.partJ a free w n x.body j).2.part a free n j (N3 x.body j)).2):=rfl;generalize LW.partJ a free w n x.body j=q at *;obtain⟨lj,wj⟩:=q;simp only[]at b s g hS ⊢;have R:=λH=>c0k x.body j hx E H;have a5:=b2x x.body j;have f:=d52 t a free hf wj b om (by rw[s];exact ho) n j X E (N3 x.body j) om;have J:=(b.part a free n j (N3 x.body j)).at';have S:=b.at';have u:=λp=>dd1 (l:=lj) om p;rw[g]at u;have a1:(Tx lj).length=4:=dd2 om;have V:=T2 (Tx lj) j om;generalize wj.part a free n j (N3 x.body j)=q2 at *;obtain⟨p2,w2⟩:=q2;simp only[Ac]at f J u ⊢;unfold G0 Lh at f ⊢;simp only[f3d,f41];simp(disch:=try exact dq)only[tx,seval,B,R,KQ 370 rfl,Am,f,V,J9,u,a1,Aq,Ax,Bc,Bb,F3,Ez,Av,Aw,f52,f3z,S,J];rw[hS];exact⟨rfl,rfl⟩
  ·intro _;have b:=hw.partJ a free n x.body 4;have s:=LW.partJ_olds w a free n x.body 4;have g:=ar7 a free w n x.body 4;generalize LW.partJ a free w n x.body 4=q at *;obtain⟨l,v⟩:=q;simp only[]at b s g ⊢;rw[dd3 g];rw[<-s]at ho;have z:=b.at';unfold LW.node1;have hN:=λH=>bx3 x.kind x.up x.name x.body x.bad (x.body.length:Int) (some l) om (by rw[Az];omega) H;rw[Az,B5]at hN;have Q:=aq6 t a free hf v b om 2 (Dx ⟨x.kind,x.up,x.name⟩ x.body.length l) (by have:=Ls ⟨x.kind,x.up,x.name⟩ x.body.length l;omega);have hT:=λp=>ar4 t a free v b om p;have a4:=b.olds;have D:List.take 4 (l.map Ac)=l.map Ac:=f0a (by rw[f3z];omega);unfold G0 Lh at Q hT ⊢;simp only[f3d,f41];simp(disch:=try exact dq)only[tx,seval,f5q,Aq,Ax,Bc,Bb,F3,Ez,Av,Aw,f3z,z];generalize a2:Aj _ _ _=r2;refine B6 a2 v.olds.length (λj=>[.ptr 0 0 0 1,.N (n:Int),U,.ptr 5 0 0 1,.ptr 6 0 0 1,U,.own 7 6 0 4 4,U,U,U,U,U,U,U,U,U,U,U,.own 3 13 0 v.olds.length v.olds.length,.N v.olds.length,.N (j:Int),U,U,U,U,U,U,U])
    (λ_=>_) (λj=>∀ i,i<j->Zp n x l (v.olds.getD i df)=false) ?_ rfl ?_ ?_ ?_
   ·rfl
   ·exact λi hi=>absurd hi (f4f _)
   ·intro j E P;have B:((j:Int)<(v.olds.length:Int)):=om;have k:=ho _ (O1 E);have A:=aw5 (p:=Zp n x l) E P;have e:Zp n x l (v.olds.getD j df)=false->∀ i,i<j+1->Zp n x l (v.olds.getD i df)=false:=λh i hi=>by
     rcases f5u i j with h'|h'
     ·exact P i h'
     ·rw[show i=j by omega];exact h
    obtain⟨o,K⟩:∃ o,v.olds.getD j df=o:=⟨_,rfl⟩;have T:(v.olds.map Gn)[j]?=some (Gn o):=(by rw[Fc E Gn,K]);rw[K]at k A e;have f:=λH=>c0h o n om (by have:=k.files;omega) (by have:=k.part;omega) H;rw[Yg]at T f;have c1:=k.has X;have hV:ar6 o n=some ((o.part.drop (n*4)).take 4):=iP c1;have hW:c0i o n=(o.part.drop (n*4)).take 4:=iP c1;rw[hV,B5]at f;have a3:=k.files;have a0:=k.node;have Y:((n:Int)<((els o.d.files).length:Int)):=om;have Z:¬ ((o.node.length:Int)<=(n:Int)):=om;have F:=λH=>cf3 (some ((o.part.drop (n*4)).take 4)) (some l) (by rw[Az,f3l];omega) (by rw[Az];omega) H;rw[Az,Az,B5,B5]at F;obtain⟨y,hy⟩:∃ y,(els o.d.files).getD n df=y:=⟨_,rfl⟩;have W:Zp n x l o=(decide ((o.part.drop (n*4)).take 4=l)&&(decide (y.kind=x.kind)&&decide (y.up=x.up)&&decide (y.name=x.name)&&decide (y.body.length=x.body.length))):=by
     unfold Zp;rw[hW,a0,hy,f51 X,f5f]
    rw[W]at A e;have G:=hT (o.node.getD n df);simp only[Ac]at G;cases O:decide ((o.part.drop (n*4)).take 4=l)with
    |false=>
      rw[O]at e;simp only[O]at F;simp(disch:=try exact dq)only[tx,seval,B,T,f,b8e,F8,a5j,D,Am,F,Aq,Ax,Bc,Bb,F3,Ez,Av,Aw,f52,f3z,z,g];exact⟨rfl,e rfl⟩
    |true=>
      rw[O]at A e;simp only[O]at F;simp(disch:=try exact dq)only[tx,seval,B,T,f,b8e,F8,a5j,D,Am,F,Y,Z,hy,Ad,B0,Ap,Al,KQ 349 rfl,G,Aq,Ax,Bc,Bb,F3,Ez,Av,Aw,f52,f3z,z,g];have hb:(decide ((decide ((decide (y.kind=x.kind)&&decide (y.up=x.up))=true)&&decide (y.name=x.name))=true)&&decide ((y.body.length:Int)=(x.body.length:Int)))=(true&&(decide (y.kind=x.kind)&&decide (y.up=x.up)&&decide (y.name=x.name)&&decide (y.body.length=x.body.length))):=(by simp[Int.natCast_inj]);refine⟨λc=>?_,λc=>⟨rfl,e ?_⟩⟩
      ·rw[A (by rw[<-hb];exact c)];rfl
      ·rw[<-hb];exact f2s.2 c
   ·intro P;rw[b5c P];simp only[];have C:=(b.put a free 2 (Dx ⟨x.kind,x.up,x.name⟩ x.body.length l)).at';generalize v.put a free 2 (Dx ⟨x.kind,x.up,x.name⟩ x.body.length l)=q at *;obtain⟨p2,w2⟩:=q;simp only[Ac]at Q C ⊢;simp(disch:=try exact dq)only[tx,seval,f5q,d5c,F8,a5j,D,hN,KQ 315 rfl,Am,Q,Aq,Ax,Bc,Bb,F3,Ez,Av,Aw,f3z,z,C,g]
def LWok.node1{w:LW}{m:Nat}(h:LWok w m)(a:Int)(free:LI)(n:Nat)(x:Node)(l:LT):LWok (w.node1 a free n x l).2 (m+1):=by
 unfold LW.node1;split
 ·exact h.point _
 ·exact h.put _ _ _ _
def LW.node1_olds(w:LW)(a:Int)(free:LI)(n:Nat)(x:Node)(l:LT):(w.node1 a free n x l).2.olds=w.olds:=by
 unfold LW.node1;split<;>rfl
def LWok.node{w:LW}{m:Nat}(h:LWok w m)(a:Int)(free:LI)(n:Nat)(x:Node):LWok (w.node a free n x).2 (m+5):=by
 unfold LW.node;split
 ·exact⟨h.at',f0d h.bl,f0d h.held,f0d h.olds⟩
 ·exact(h.partJ a free n x.body 4).node1 _ _ _ _ _
def LW.node_olds(w:LW)(a:Int)(free:LI)(n:Nat)(x:Node):(w.node a free n x).2.olds=w.olds:=by
 unfold LW.node;split
 ·rfl
 ·exact(LW.node1_olds _ _ _ _ _ _).trans (LW.partJ_olds w a free n x.body 4)
def LW.node_len(w:LW)(a:Int)(free:LI)(n:Nat)(x:Node):(w.node a free n x).1.2.length=4:=by
 unfold LW.node;split
 ·rfl
 ·exact ar7 a free w n x.body 4
def LWok.setJ{w:LW}{m:Nat}(h:LWok w m)(a:Int)(free:LI)(f:LO):∀ j,LWok (LW.setJ a free w f j).2 (m+5*j)
 |0=>h
 |j+1=>(LWok.setJ h a free f j).node _ _ _ _
def LW.setJ_olds(w:LW)(a:Int)(free:LI)(f:LO):∀ j,(LW.setJ a free w f j).2.olds=w.olds
 |0=>rfl
 |j+1=>by rw[LW.setJ];exact(LW.node_olds _ _ _ _ _).trans (LW.setJ_olds w a free f j)
def LW.setJ_len(w:LW)(a:Int)(free:LI)(f:LO):∀ j,(LW.setJ a free w f j).1.1.length=j/\(LW.setJ a free w f j).1.2.length=4*j
 |0=>⟨rfl,rfl⟩
 |j+1=>by
   have b:=LW.setJ_len w a free f j;rw[LW.setJ];simp only[f1q,f33,f3w,LW.node_len];omega
def LWok.nodes{w:LW}{m:Nat}(h:LWok w m)(a:Int)(free:LI)(l:LT):LWok (w.nodes a free l).2 (m+1):=by
 unfold LW.nodes;split
 ·exact h.point _
 ·exact h.put _ _ _ _
def LW.nodes_olds(w:LW)(a:Int)(free:LI)(l:LT):(w.nodes a free l).2.olds=w.olds:=by
 unfold LW.nodes;split<;>rfl
def LWok.set{w:LW}{m:Nat}(h:LWok w m)(a:Int)(free:LI)(x:Dset):LWok (w.set a free x).2 (m+5*(els x.files).length+2):=by
 have b:=(h.setJ a free (els x.files) (els x.files).length).nodes a free (LW.setJ a free w (els x.files) (els x.files).length).1.1;exact⟨b.at',f30 b.bl,f30 b.held,by simp only[LW.set,LW.old,f1q,f33,f3w];have:=b.olds;omega⟩
def er0(o:OldW):Aa (Gn o)=true:=by rw[Yg];simp[Aa,Ab,Ai]
def c9v(r:Nat)(b:List LP)(l:List OldW):(l.map Gn).map (C5 r b)=l.map Gn:=T4 _ _ _ λe c=>by
 obtain⟨a,_,rfl⟩:=f62.1 c;exact er0 a
def d4v(t:Ptr)(f:Int)(free:LI)(W:free.length<=1000000)(w:LW){m:Nat}(R:LWok w m)(hm:m<=600000)(P:∀ o∈w.olds,OldOk o)(x:Dset)(hx:(els x.files).length=8)(Y:∀ y∈els x.files,y.body.length<=128/\y.name.length<=1000000) :
 Ev tab A6 A5 314 [.ptr 0 0 0 1,.agg [.N x.id,.N x.kind,.N x.origin,.N x.quota,A4 Ap x.files]] (G0 t f free w) =
  some (.agg (Ac (w.set f free x).1),G0 t f free (w.set f free x).2):=by
 refine Bz e0l rfl ?_;have J:=R.at';unfold LW.set;rw[hx];unfold G0 Lh;simp(disch:=try exact dq)only[tx,seval,a9c,Aq,Ax,Bc,Bb,F3,Ez,f3z,J];generalize hr:Aj _ _ _=r;refine B6 hr 8 (λj=>[.ptr 0 0 0 1,U,U,.ptr 6 0 0 1,.ptr 7 0 0 1,U,U,U,U,U,A4 Ap x.files,.N (els x.files).length,.N (j:Int),U,U,U,U,U,U,U])
  (λj=>G0 t f free (LW.setJ f free w (els x.files) j).2++[some [[.N x.id,.N x.kind,.N x.origin,.N x.quota,A4 Ap x.files]],some [[.N 0,.N 0,.M 0,.M 0,.M 0,.M 0]],some [[.N x.id,.N x.kind,.N x.origin,.N x.quota,A4 Ap x.files,.N 0,.N 0,.M 0,.M 0,.M 0,.M 0,.own 8 6 0 j j,.own 9 6 0 (4*j) (4*j)]],some ((LW.setJ f free w (els x.files) j).1.1.map Ac),some ((LW.setJ f free w (els x.files) j).1.2.map Ac)]) (λ_=>True) ?_ ?_ trivial ?_ ?_
 ·rfl
 ·rfl
 ·intro j hj _;have L:((j:Int)<8):=om;have s:((els x.files).length:Int)=8:=om;have g:=R.setJ f free (els x.files) j;have i:=LW.setJ_olds w f free (els x.files) j;have h:=LW.setJ_len w f free (els x.files) j;have F:LW.setJ f free w (els x.files) (j+1)=(((LW.setJ f free w (els x.files) j).1.1++[((LW.setJ f free w (els x.files) j).2.node f free j ((els x.files).getD j df)).1.1],(LW.setJ f free w (els x.files) j).1.2++((LW.setJ f free w (els x.files) j).2.node f free j ((els x.files).getD j df)).1.2),((LW.setJ f free w (els x.files) j).2.node f free j ((els x.files).getD j df)).2):=rfl;obtain⟨y,X⟩:∃ y,(els x.files).getD j df=y:=⟨_,rfl⟩;have u:=Y _ (O1 (show j<(els x.files).length by omega));rw[X]at F u;generalize LW.setJ f free w (els x.files) j=q at *;obtain⟨⟨n,D⟩,V⟩:=q;simp only[]at g i h F ⊢;have l:=d54 t f free W V g om (by rw[i];exact P) j hj y u.1 u.2;have k:=(g.node f free j y).at';have A:=LW.node_len V f free j y;have G:=g.at';generalize V.node f free j y=T at *;obtain⟨⟨p,S⟩,E⟩:=T;simp only[Ac]at l k A ⊢;unfold G0 Lh at l ⊢;simp only[f3d,f41]at l ⊢;have H:(S.map Ac).all (λe=>decide (e.length=6))=true:=by
   rw[f35];intro e Z;obtain⟨z,_,rfl⟩:=f62.1 Z;rfl
  have Q:List.take 4 (S.map Ac)=S.map Ac:=f0a (by rw[f3z];omega);simp(disch:=try exact dq)only[tx,seval,L,s,X,Ad,Ap,H,Q,KQ 347 rfl,Am,l,Aq,Ax,Bc,Bb,F3,Ez,Av,Aw,f52,f3z,G,k,A,h];rw[F];refine⟨rfl,?_⟩;rw[show 4*(j+1)=4*j+4 by omega];simp only[f4c];rfl
 ·intro _;have g:=R.setJ f free (els x.files) 8;have i:=LW.setJ_olds w f free (els x.files) 8;have h:=LW.setJ_len w f free (els x.files) 8;have s:((els x.files).length:Int)=8:=om;generalize LW.setJ f free w (els x.files) 8=q at *;obtain⟨⟨n,D⟩,v⟩:=q;simp only[]at g i h ⊢;rw[<-i]at P;have l:=d53 t f free W v g om P n h.1;have k:=(g.nodes f free n).at';have B:=LW.nodes_olds v f free n;have a0:=g.olds;have K:=g.at';generalize v.nodes f free n=T at *;obtain⟨p,E⟩:=T;simp only[Ac]at l k B ⊢;unfold LW.old;unfold G0 Lh at l ⊢;simp only[f3d,f41]at l ⊢;have tn:List.take 8 (n.map Al)=n.map Al:=f0a (by rw[f3z];omega);have tp:List.take 32 (D.map Al)=D.map Al:=f0a (by rw[f3z];omega);have Ud:4*8=32:=rfl;have a1:E.olds.length<=700000:=by rw[B];omega
  have I:E.olds.map Gn++[[.N x.id,.N x.kind,.N x.origin,.N x.quota,A4 Ap x.files,.N p.addr,.N p.birth,.M p.sum.a.toNat,.M p.sum.b.toNat,.M p.sum.c.toNat,.M p.sum.d.toNat,.fz (n.map Al),.fz (D.map Al)]]=(E.olds++[(⟨x,p,n,D⟩:OldW)]).map Gn:=by rw[f4c,f5b,f5x,Yg]
  have O:=h.1;have C:=h.2;simp(disch:=try exact dq)only[tx,seval,f5q,s,Ud,KQ 348 rfl,Am,l,Aq,Ax,Bc,Bb,F3,Ez,Av,Aw,Qo,M2,Uo,Jj,c9v,tn,tp,I,f1q,f33,f3w,f52,f3z,K,k,O,C]
structure OldV where
 r:Root
 h1:Sl Rn
 h2:Sl Rn
 h3:Sl Rn
 h4:Sl Rn
 v:ViewL
def Hk(o:OldV):LA:=Ft o.r (A4 A8 o.h1) (A4 A8 o.h2) (A4 A8 o.h3) (A4 A8 o.h4) o.v
def c1f(l:List OldV):Calm (l.map Hk):=by
 refine⟨J2 l _ λo=>?_,λτ=>?_⟩
 ·simp[Hk,Ft,Cm,Cn,Dd,b2k]
 ·unfold renO;rw[f6a];exact f16 λo _=>by simp[Hk,Ft,Cm,Ck,ren,Jr]
def Jv(v:ViewL):Nat->List OldW
 |0=>[]
 |j+1=>if(j<v.set.length/\j<v.node.length)/\j<v.part.length then Jv v j++[⟨v.sets.getD j df,v.set.getD j df,v.node.getD j [],v.part.getD j []⟩]else Jv v j
def b38(v:ViewL):∀ j,(Jv v j).length<=j
 |0=>f6o _
 |j+1=>by
   have a:=b38 v j;rw[Jv];split
   ·rw[f1q,f33,f3w];omega
   ·omega
def Ch(l:List OldV):Nat->List OldW
 |0=>[]
 |i+1=>match l[i]? with
   |some o=>Ch l i++Jv o.v o.v.sets.length
   |none=>Ch l i
def Zj(l:List OldV){k:Nat}(h:∀ o∈l,o.v.sets.length<=k):∀ i,(Ch l i).length<=k*i
 |0=>f6o _
 |i+1=>by
   have d:=Zj l h i;rw[Ch];split
   ·rename_i o a;have b:=b38 o.v o.v.sets.length;have c:=h o (f0q a);rw[f1q,Nat.mul_succ];omega
   ·rw[Nat.mul_succ];omega
def G6(l:List OldV):refsO (some (l.map Hk))=[]:=(c1f l).refs
def G4(τ:Nat->Option Nat)(l:List OldV):renO τ (l.map Hk)=l.map Hk:=(c1f l).ren τ
def df8(l:List OldV)(S:l.length<=100)(G:∀ o∈l,o.v.sets.length<=1000) :
 Ev tab A6 A5 311 [.own 0 30 0 l.length l.length] [some (l.map Hk)]=some (.own 1 13 0 (Ch l l.length).length (Ch l l.length).length,[some (l.map Hk),some ((Ch l l.length).map Gn)]):=by
 refine Bz e0o rfl ?_;simp(disch:=try exact dq)only[tx,seval,a9e,G6,G4,f3z];generalize P:Aj _ _ _=r;refine B6 P l.length (λi=>[U,U,.own 1 13 0 (Ch l i).length (Ch l i).length,U,U,U,.own 0 30 0 l.length l.length,.N l.length,.N (i:Int),U,U,U,U,U,U,U,U])
  (λi=>[some (l.map Hk),some ((Ch l i).map Gn)]) (λ_=>True) ?_ ?_ trivial ?_ ?_
 ·rfl
 ·rfl
 ·intro i hi _;have y:((i:Int)<(l.length:Int)):=om;have J:=G _ (f3e hi);have E:(l.map Hk)[i]?=some (Hk l[i]):=by rw[f2i,ez2 hi];rfl
  have I:Ch l (i+1)=Ch l i++Jv l[i].v l[i].v.sets.length:=by rw[Ch,ez2 hi]
  have K:=Zj l G i;have z:=b38 l[i].v;rw[I];generalize l[i]=o at *;generalize Ch l i=O at *;simp only[Hk,Ft,Cm]at E;simp(disch:=try exact dq)only[tx,seval,y,E,G6,G4,F3,Ez,f3z];generalize A:Aj _ _ _=T;refine Hr (Q:=λr=>Rd _ _ _ _ (G3 _ _ (Bm _ _ (Bi _ (Bi _ r))))) A o.v.sets.length (λj=>[U,U,.own 1 13 0 (O++Jv o.v j).length (O++Jv o.v j).length,.ptr 2 0 0 1,U,U,.own 0 30 0 l.length l.length,.N l.length,.N (i:Int),U,U,.fz (o.v.sets.map Ao),.N o.v.sets.length,.N (j:Int),U,U,U])
   (λj=>[some (l.map Hk),some ((O++Jv o.v j).map Gn),some [Ft o.r (A4 A8 o.h1) (A4 A8 o.h2) (A4 A8 o.h3) (A4 A8 o.h4) o.v]]) (λ_=>True) ?_ ?_ trivial ?_ ?_
  ·simp[Jv]
  ·simp[Jv,Ft,Cm]
  ·intro j R _;have m:((j:Int)<(o.v.sets.length:Int)):=om;have F:=z j;unfold Ft Cm;obtain⟨g,e⟩:∃ g,o.v.sets.getD j df=g:=⟨_,rfl⟩;obtain⟨f,w⟩:∃ f,o.v.set.getD j df=f:=⟨_,rfl⟩;obtain⟨n,q⟩:∃ n,o.v.node.getD j []=n:=⟨_,rfl⟩;obtain⟨p,t⟩:∃ p,o.v.part.getD j []=p:=⟨_,rfl⟩;have s:o.v.node.getD j df=n:=q;have u:o.v.part.getD j df=p:=t;have k:Jv o.v (j+1)=if(j<o.v.set.length/\j<o.v.node.length)/\j<o.v.part.length then Jv o.v j++[⟨g,f,n,p⟩]else Jv o.v j:=(by rw[<-e,<-w,<-q,<-t];rfl);have x:∀ L:List OldW,L.map Gn++[[.N g.id,.N g.kind,.N g.origin,.N g.quota,A4 Ap g.files,.N f.addr,.N f.birth,.M f.sum.a.toNat,.M f.sum.b.toNat,.M f.sum.c.toNat,.M f.sum.d.toNat,.fz (n.map Al),.fz (p.map Al)]]=(L++[(⟨g,f,n,p⟩:OldW)]).map Gn:=λL=>(by rw[f4c,f5b,f5x,Yg]);by_cases B:j<o.v.set.length
   ·have c1':((j:Int)<(o.v.set.length:Int)):=om;by_cases C:j<o.v.node.length
    ·have c2':((j:Int)<(o.v.node.length:Int)):=om;by_cases D:j<o.v.part.length
     ·have c3':((j:Int)<(o.v.part.length:Int)):=om;rw[k,iP ⟨⟨B,C⟩,D⟩,<-f2p];have H:(O++Jv o.v j).length<=200000:=(by rw[f1q];have:=J;omega);generalize O++Jv o.v j=L at *;simp(disch:=try exact dq)only[tx,seval,m,e,c1',c2',c3',w,s,u,Ao,Ks,Lu,Al,B0,x,G6,G4,F3,Ez,f52,f3z,f1q,f33,f3w];rfl
     ·have c3':¬ ((j:Int)<(o.v.part.length:Int)):=om;rw[k,iN (λh=>D h.2)];simp(disch:=try exact dq)only[tx,seval,m,e,c1',c2',c3',Ao,Ks,B0,G6,G4,F3,Ez,f52,f3z];rfl
    ·have c2':¬ ((j:Int)<(o.v.node.length:Int)):=om;rw[k,iN (λh=>C h.1.2)];simp(disch:=try exact dq)only[tx,seval,m,e,c1',c2',Ao,Ks,B0,G6,G4,F3,Ez,f52,f3z];rfl
   ·have c1':¬ ((j:Int)<(o.v.set.length:Int)):=om;rw[k,iN (λh=>B h.1.1)];simp(disch:=try exact dq)only[tx,seval,m,e,c1',Ao,Ks,B0,G6,G4,F3,Ez,f52,f3z];rfl
  ·intro _;unfold Ft Cm;simp(disch:=try exact dq)only[tx,seval,f5q,G6,G4,F3,Ez,f52,f3z];rfl
 ·intro _;simp(disch:=try exact dq)only[tx,seval,f5q,G6,G4,F3,Ez,f52,f3z]
def LWok.setsJ{w:LW}{m:Nat}(h:LWok w m)(a:Int)(free:LI)(l:LD)(c:∀ x∈l,(els x.files).length=8):∀ j,j<=l.length->LWok (LW.setsJ a free w l j).2 (m+42*j)
 |0,_=>h
 |j+1,hj=>by
   have d:=LWok.setsJ h a free l c j om;have h8:=c _ (O1 (show j<l.length by omega));have b:=d.set a free (l.getD j df);rw[h8]at b;have e:(LW.setsJ a free w l (j+1)).2=((LW.setsJ a free w l j).2.set a free (l.getD j df)).2:=rfl;rw[e,show m+42*(j+1)=m+42*j+5*8+2 by omega];exact b
def LW.setsJ_len(a:Int)(free:LI)(w:LW)(l:LD):∀ j,(LW.setsJ a free w l j).1.length=j
 |0=>rfl
 |j+1=>by rw[LW.setsJ];simp only[f1q,f33,f3w,LW.setsJ_len a free w l j]
def em3{l:LR}(h:Gu l=true):0<=Eo l:=by
 have:=cw6 (b3p h).1;omega
def do7{s:LO}(h:mayNodes s=true):s.length=8/\∀ y∈s,y.body.length<=128:=by
 unfold mayNodes at h;simp only[f32,f2f]at h;obtain⟨⟨⟨d,c⟩,h3⟩,_⟩:=h;refine⟨d,λy b=>?_⟩;cases s with
 |nil=>cases b
 |cons a r=>
   rw[f1g]at c;rw[f19,f4p,f35]at h3;rcases f5h.1 b with rfl|b
   ·rw[c];decide
   ·have:=h3 y b;simp only[f44,f2f]at this;rcases this with rfl|h4
    ·decide
    ·unfold J8 at h4;simp only[f32]at h4;have h5:=h4.2;split at h5
     ·exact f2w h5
     ·simp only[f32,f2f]at h5;rw[h5.2];decide
def b2a{l:LD}:∀ {r:LD} {a:Int},Sd l a r=true->∀ x∈r,U3 l x=true
 |d::r,a,h,x,b=>by
   rw[Sd]at h;simp only[f32]at h;rcases f5h.1 b with rfl|b
   ·exact h.1.2
   ·exact b2a h.2 x b
def a2a{l:LD}(h:maySetsP l=true):∀ x∈l,(els x.files).length=8/\∀ y∈els x.files,y.body.length<=128:=by
 intro x a;unfold maySetsP at h;simp only[f32]at h
 have:=b2a h.1 x a;unfold U3 at this;simp only[f32]at this;exact do7 this.1.1.1.2
def Xl{l:LD}(h:maySetsP l=true):l.length<=8:=by
 unfold maySetsP at h;simp only[f32,f2f]at h;exact h.2
def d82(a:Int)(free:LI)(w:LW)(x:Dset)(b:(els x.files).length=8)(d:∀ y∈els x.files,y.body.length<=128)(e:∀ o∈w.olds,OldOk o):∀ o∈(w.set a free x).2.olds,OldOk o:=by
 intro o h;simp only[LW.set,LW.old,LW.nodes_olds,LW.setJ_olds,f43,f1t]at h;rcases h with h|rfl
 ·exact e o h
 ·have c:=LW.setJ_len w a free (els x.files) (els x.files).length;exact⟨b,d,by rw[c.1,b],by rw[c.2,b]⟩
def bo0(a:Int)(free:LI)(w:LW)(l:LD)(b:∀ x∈l,(els x.files).length=8/\∀ y∈els x.files,y.body.length<=128)(c:∀ o∈w.olds,OldOk o):∀ j,j<=l.length->∀ o∈(LW.setsJ a free w l j).2.olds,OldOk o
 |0,_=>c
 |j+1,hj=>by
   have d:=bo0 a free w l b c j om;have h8:=b _ (O1 (show j<l.length by omega));exact d82 a free _ _ h8.1 h8.2 d
structure PlanP where
 bl:List Block
 at':LI
 table:Ptr
 held:Sl Rn
 rest:LI
def Eb(free:LR):LI:=(Gb free).take (min (Eo free) 331).toNat
def a74(b:Int)(fr:LI)(l:LD)(a:List OldW):LT×LW:=LW.setsJ b fr ⟨[],[],[],a⟩ l l.length
def K1(b:Int)(fr:LI)(l:LD)(a:List OldW):Ptr×LW:=(a74 b fr l a).2.put b fr 4 (Fo (l.map Bj) (a74 b fr l a).1)
def a78(a:Int)(free:LR)(l:LD):Bool:=maySetsP l&&decide (1<=a)&&decide (a<=1073741824)&&Gu free
def Qa(b:Int)(free:LR)(l:LD)(a:List OldW):Option PlanP:=
 if a78 b free l=true/\(K1 b (Eb free) l a).2.bl.length+2<=(Eb free).length then
  some ⟨(K1 b (Eb free) l a).2.bl,(K1 b (Eb free) l a).2.at',(K1 b (Eb free) l a).1,B8 (N8 ((K1 b (Eb free) l a).2.held++((Eb free).drop (K1 b (Eb free) l a).2.bl.length).take 2)),((Eb free).drop (K1 b (Eb free) l a).2.bl.length).take 2⟩
 else none
def Xe:LA:=[.emp,.emp,.N 0,.N 0,.M 0,.M 0,.M 0,.M 0,.emp,.emp]
def Xd(b:Nat)(p:PlanP):LA:=[.own b 3 0 p.bl.length p.bl.length,.own (b+1) 1 0 p.bl.length p.bl.length,.N p.table.addr,.N p.table.birth,.M p.table.sum.a.toNat,.M p.table.sum.b.toNat,.M p.table.sum.c.toNat,.M p.table.sum.d.toNat,A4 A8 p.held,.fz (p.rest.map λx=>[.N x])]
def b3y(b:Nat)(p:Option PlanP):AV:=match p with
 |some p=>.tuple [.agg (Xd b p),.bool true]
 |none=>.tuple [.agg Xe,.bool false]
def Xc(p:Option PlanP):AH:=match p with
 |some p=>[some (p.bl.map D5),some (p.at'.map cI)]
 |none=>[]
def SetsOk(l:LD):Prop:=l.length<=1000/\∀ x∈l,(els x.files).length<=1000/\∀ y∈els x.files,y.name.length<=1000
def Ul(r:Nat)(a:List LP)(l:List OldV):(l.map Hk).map (C5 r a)=l.map Hk:=T4 _ _ _ λe b=>by
 obtain⟨o,_,rfl⟩:=f62.1 b;simp[Hk,Ft,Cm,Aa,Ab,Ai]
def b8a(a:AV)(f g h i j:Nat)(H:AH):K tab A6 A5 237 [a,.own f g h i j] H=Gr tab A6 A5 237 [a,.own f g h i j] H (Aa (B9 H [a,.own f g h i j])) (K tab A6 A5 237 (B9 H [a,.own f g h i j]) H):=Hy _ _ _ rfl _ _
def dr9(v:List OldV)(hv:v.length<=4)(hs:∀ o∈v,o.v.sets.length<=8)(a8:∀ o∈Ch v v.length,OldOk o)(a:Int)(free:Sl Rn)(hf:Wg (els free))(l:Sl Dset)(V:SetsOk (els l)) :
 Ev tab A6 A5 259 [.N a,A4 A8 free,A4 Ao l,.own 0 30 0 v.length v.length] [some (v.map Hk)]=some (b3y 1 (Qa a (els free) (els l) (Ch v v.length)),[some (v.map Hk)]++Xc (Qa a (els free) (els l) (Ch v v.length))):=by
 refine Bz e1n rfl ?_;have m:=λH=>b5t l (by have:=V.1;omega) (λx w=>⟨by have:=(V.2 x w).1;omega,λn hn=>by have:=(V.2 x w).2 n hn;omega⟩) H;have S:=λH=>a1f free (by have:=hf.1;omega) H;unfold Qa a78;cases O:maySetsP (els l)with
 |false=>
   rw[O]at m;rw[iN (by simp)];simp(disch:=try exact dq)only[tx,seval,Vs,m,G6,G4,f3z];rfl
 |true=>
   rw[O]at m;by_cases Q:a<1
   ·rw[iN (by simp;omega)];simp(disch:=try exact dq)only[tx,seval,Vs,m,Q,G6,G4,f3z];rfl
   by_cases X:1073741824<a
   ·rw[iN (by simp;omega)];simp(disch:=try exact dq)only[tx,seval,Vs,m,Q,X,G6,G4,f3z];rfl
   cases Y:Gu (els free)with
   |false=>
     rw[Y]at S;rw[iN (by simp)];simp(disch:=try exact dq)only[tx,seval,Vs,m,S,Q,X,G6,G4,f3z];rfl
   |true=>
     rw[Y]at S;have a0:=λH=>b1s free hf H;have C:=λH=>ei0 free hf (min (Eo (els free)) 331) om H;have D:(if 331<Eo (els free)then 331 else Eo (els free))=min (Eo (els free)) 331:=(by split<;>omega);have ae:0<=Eo (els free):=em3 Y;have a5:Vy (els free) (min (Eo (els free)) 331)=[.fz ((Eb (els free)).map λx=>[.N x]),.bool true]:=by
      unfold Vy aw3 Eb;rw[iN om]
     simp only[a5]at C;have hO:=df8 v om (λo ho=>by have:=hs o ho;omega);have ac:=Zj v hs v.length;simp(disch:=try exact dq)only[tx,seval,Vs,m,S,Q,X,a0,D,C,KQ 311 rfl,Am,hO,G6,G4,F3,Ez,f3z];generalize hr:Aj _ _ _=r;have af:(Eb (els free)).length<=331:=(by unfold Eb;rw[f3l];omega);unfold K1 a74;generalize Eb (els free)=fr at *;have s:=a2a O;have ab:(els l).length<=8:=Xl O;have aa:LWok ⟨[],[],[],(Ch v v.length)⟩ (Ch v v.length).length:=⟨rfl,f6m _,f6m _,f6o _⟩;have G:=aa.setsJ a fr (els l) (λx w=>(s x w).1);have I:=LW.setsJ_len a fr ⟨[],[],[],(Ch v v.length)⟩ (els l);have a9:=bo0 a fr ⟨[],[],[],(Ch v v.length)⟩ (els l) s a8;refine B6 hr (els l).length (λj=>[U,U,A4 Ao l,U,.ptr 1 0 0 1,U,.ptr 3 0 0 1,.own 7 6 0 j j,U,U,U,U,U,U,A4 Ao l,.N (els l).length,.N (j:Int),U,U,U,U,U,U])
      (λj=>[some (v.map Hk)]++[some [Xe],some ((LW.setsJ a fr ⟨[],[],[],(Ch v v.length)⟩ (els l) j).2.olds.map Gn),some [[.own 4 3 0 (LW.setsJ a fr ⟨[],[],[],(Ch v v.length)⟩ (els l) j).2.bl.length (LW.setsJ a fr ⟨[],[],[],(Ch v v.length)⟩ (els l) j).2.bl.length,.own 5 1 0 (LW.setsJ a fr ⟨[],[],[],(Ch v v.length)⟩ (els l) j).2.bl.length (LW.setsJ a fr ⟨[],[],[],(Ch v v.length)⟩ (els l) j).2.bl.length,.N 0,.N 0,.M 0,.M 0,.M 0,.M 0,.emp,.emp,.N a,.fz (fr.map λx=>[.N x]),.own 2 13 0 (LW.setsJ a fr ⟨[],[],[],(Ch v v.length)⟩ (els l) j).2.olds.length (LW.setsJ a fr ⟨[],[],[],(Ch v v.length)⟩ (els l) j).2.olds.length,.own 6 1 0 (LW.setsJ a fr ⟨[],[],[],(Ch v v.length)⟩ (els l) j).2.held.length (LW.setsJ a fr ⟨[],[],[],(Ch v v.length)⟩ (els l) j).2.held.length]],some ((LW.setsJ a fr ⟨[],[],[],(Ch v v.length)⟩ (els l) j).2.bl.map D5),some ((LW.setsJ a fr ⟨[],[],[],(Ch v v.length)⟩ (els l) j).2.at'.map cI),some ((LW.setsJ a fr ⟨[],[],[],(Ch v v.length)⟩ (els l) j).2.held.map cI),some ((LW.setsJ a fr ⟨[],[],[],(Ch v v.length)⟩ (els l) j).1.map Ac)]) (λ_=>True) ?_ ?_ trivial ?_ ?_
     ·rfl
     ·rfl
     ·intro j hj _;have a7:((j:Int)<((els l).length:Int)):=om;have b:=G j om;have F:=a9 j om;have d:=I j;have hS:LW.setsJ a fr ⟨[],[],[],(Ch v v.length)⟩ (els l) (j+1)=((LW.setsJ a fr ⟨[],[],[],(Ch v v.length)⟩ (els l) j).1++[((LW.setsJ a fr ⟨[],[],[],(Ch v v.length)⟩ (els l) j).2.set a fr ((els l).getD j df)).1],((LW.setsJ a fr ⟨[],[],[],(Ch v v.length)⟩ (els l) j).2.set a fr ((els l).getD j df)).2):=rfl;have z:=s _ (O1 hj);have L:=(V.2 _ (O1 hj)).2;obtain⟨x,w⟩:∃ x,(els l).getD j df=x:=⟨_,rfl⟩;rw[w]at hS z L;generalize LW.setsJ a fr ⟨[],[],[],(Ch v v.length)⟩ (els l) j=q at *;obtain⟨pj,wj⟩:=q;simp only[]at b F d hS ⊢;have i:=d4v Ah a fr om wj b om F x z.1 (λy hy=>⟨z.2 y hy,by have:=L y hy;omega⟩);have K:=(b.set a fr x).at';have k:=b.at';generalize wj.set a fr x=q2 at *;obtain⟨p2,c⟩:=q2;simp only[Ac]at i K ⊢;unfold G0 Lh at i;unfold Xe;have z0:(((0:UInt32).toNat:Nat):Int)=0:=rfl;simp only[f3d,f41,Ah,z0]at i ⊢;simp(disch:=try exact dq)only[tx,seval,a7,w,Ad,Ao,Ks,KQ 314 rfl,Am,i,G6,G4,Aq,Ax,Bc,Bb,F3,Ez,Av,Aw,f52,f3z,k,K,d];rw[hS];refine⟨rfl,?_⟩;simp only[f4c];rfl
     ·intro _;have b:=G (els l).length om;have d:=I (els l).length;generalize LW.setsJ a fr ⟨[],[],[],(Ch v v.length)⟩ (els l) (els l).length=q at *;obtain⟨P,W⟩:=q;simp only[]at b d ⊢;have p:=λH=>bi8 l (some P) om (by rw[Az];omega) H;rw[Az,B5]at p;have ad:=a6n ((els l).map Bj) P;generalize Fo ((els l).map Bj) P=T at *;have i:=aq6 Ah a fr om W b om 4 T om;have u:=b.put a fr 4 T;have k:=b.at';generalize W.put a fr 4 T=q2 at *;obtain⟨p2,c⟩:=q2;have g:=u.at';have a4:=u.bl;have a6:=u.held;simp only[Ac]at i g a4 a6 ⊢;unfold G0 Lh at i;unfold Xe;have z0:(((0:UInt32).toNat:Nat):Int)=0:=rfl;simp only[f3d,f41,Ah,z0]at i ⊢;have J:List.take (els l).length (P.map Ac)=P.map Ac:=f0a (by rw[f3z];omega);by_cases c5:c.bl.length+2<=fr.length
      ·rw[iP ⟨by simp;omega,c5⟩];have c5':¬ ((fr.length:Int)<(c.bl.length:Int)+2):=om;have a1:((fr.map λx=>[PV.N x]).drop c.bl.length).all (λe=>decide (e.length=1))=true:=by
        rw[<-f5t,f35];intro e he;obtain⟨x,_,rfl⟩:=f62.1 he;rfl
       have mp:((fr.map λx=>[PV.N x]).drop c.bl.length).take 2=((fr.drop c.bl.length).take 2).map λx=>[PV.N x]:=(by rw[<-f5t,<-f5g]);have t:((fr.drop c.bl.length).take 2).length=2:=(by rw[f3l,f38];omega);have u2:(2:Int)<=((fr.length-c.bl.length:Nat):Int):=om;have u3:(c.bl.length:Int)<=(fr.length:Int):=om;have tl:(fr.map λx=>[PV.N x]).take fr.length=fr.map λx=>[PV.N x]:=Gf _ _;generalize (fr.drop c.bl.length).take 2=R at *;have a2:(R.map λx=>[PV.N x]).all (λe=>decide (e.length=1))=true:=by
        rw[f35];intro e he;obtain⟨x,_,rfl⟩:=f62.1 he;rfl
       have B:=Qh (f:=303) (λx:Int=>[PV.N x]) (λ_=>rfl) c1x (λ_ _=>c0v _ _) (some R) (by rw[Az];omega);rw[Az,B5,t]at B;have Z:=N4 (f:=303) rfl (by simp[Aa,Ab]) (λτ=>Ax τ R) B;have E:=b39 (c.held++R) (by rw[f1q];omega);rw[f1q,t]at E;have a3:c.held.map cI++R.map cI=(c.held++R).map cI:=(by rw[f4c]);have kR:List.take 2 (R.map λx=>[PV.N x])=R.map λx=>[PV.N x]:=f0a (by rw[f3z];omega);have A:(R.map λx=>[PV.N x]).map (λe=>e.map emb)=R.map cI:=(by rw[f6a];rfl);have aC:(R.map cI).all (λe=>decide (e.length=1))=true:=b6w R;simp(disch:=try exact dq)only[tx,seval,f5q,b8a,F8,a5j,J,p,d,KQ 315 rfl,Am,i,c5',Ik,Fh,a1,a2,mp,u2,u3,tl,Z,t,kR,aC,a3,A,E,KQ 250 rfl,Dz (f:=250) rfl,Jo (f:=250) rfl,Bl,Bo,f3t,f37,f3x,Lk,Jj,Uo,c9v,M2,Ul,f38,f4p,f41,G6,G4,Aq,Ax,Bc,Bb,F3,Ez,Av,Aw,f52,f3z,k,g];rfl
      ·rw[iN (λh=>c5 h.2)];have c5':((fr.length:Int)<(c.bl.length:Int)+2):=om;simp(disch:=try exact dq)only[tx,seval,f5q,b8a,F8,a5j,J,p,d,KQ 315 rfl,Am,i,c5',G6,G4,Aq,Ax,Bc,Bb,F3,Ez,Av,Aw,f52,f3z,k,g];rfl
structure Pool where
 d:Dev
 at':Ptr
 r:Root
 s:Space
 seat:Int
 last:Int
 sets:Sl Dset
 only:Bool
def C1(p:Pool):LA:=[A4 B4 p.d.last,A4 Ay p.d.wait,.N p.d.lies,.N p.d.arm,.bool p.d.down,.N p.at'.addr,.N p.at'.birth,.M p.at'.sum.a.toNat,.M p.at'.sum.b.toNat,.M p.at'.sum.c.toNat,.M p.at'.sum.d.toNat,.N p.r.txg,.N p.r.next,.N p.r.guid,.N p.r.table.addr,.N p.r.table.birth,.M p.r.table.sum.a.toNat,.M p.r.table.sum.b.toNat,.M p.r.table.sum.c.toNat,.M p.r.table.sum.d.toNat,.N p.r.space.addr,.N p.r.space.birth,.M p.r.space.sum.a.toNat,.M p.r.space.sum.b.toNat,.M p.r.space.sum.c.toNat,.M p.r.space.sum.d.toNat,.N p.r.kept.addr,.N p.r.kept.birth,.M p.r.kept.sum.a.toNat,.M p.r.kept.sum.b.toNat,.M p.r.kept.sum.c.toNat,.M p.r.kept.sum.d.toNat,.N p.r.keptTxg,A4 A8 p.s.held,A4 A8 p.s.one,A4 A8 p.s.two,A4 A8 p.s.kept,.N p.seat,.N p.last,A4 Ao p.sets,.bool p.only]
def K9(d:Dset):Dset:=⟨d.id,d.kind,d.origin,d.quota,some (els d.files)⟩
def twS(s:Space):Space:=⟨some (els s.held),some (els s.one),some (els s.two),some (els s.kept)⟩
def Md(p:Pool):Pool:=⟨twD p.d,p.at',p.r,twS p.s,p.seat,p.last,some ((els p.sets).map K9),p.only⟩
structure PoolB(p:Pool):Prop where
 last:(els p.d.last).length<=100000
 wait:(els p.d.wait).length<=100000
 held:(els p.s.held).length<=500
 one:(els p.s.one).length<=500
 two:(els p.s.two).length<=500
 kept:(els p.s.kept).length<=500
 sets:(els p.sets).length<=1000
 files:∀ x∈els p.sets,(els x.files).length<=1000
def Yk(p:Pool):Aa (C1 p)=true:=by simp[C1,Aa,Ab,Ai]
def K4(x:Dset):LA:=[.N x.id,.N x.kind,.N x.origin,.N x.quota,A4 Ap x.files]
def ai6(x:Dset):(Ao x).map emb=K4 x:=by show [_,_,_,_,emb (Lt Ap x.files)]=_;rw[Ks];rfl
def aq0(l:LD):refsO (some (l.map K4))=[]:=J2 l _ λd=>by rw[<-ai6];exact a1t _
def a6j(τ:Nat->Option Nat)(l:LD):renO τ (l.map K4)=l.map K4:=by
 rw[show K4=λd=>(Ao d).map emb from funext λd=>(ai6 d).symm];exact V8 τ l Ao
def Sb(l:LD)(j:Nat):LD:=(l.take j).map K9++l.drop j
def d7w(l:LD)(j:Nat):(Sb l j).length=l.length:=by unfold Sb;rw[f1q,f3z,f3l,f38];omega
def d7x{l:LD}{j:Nat}(h:j<l.length):(Sb l j).getD j df=l.getD j df:=by
 unfold Sb;rw[ex9,ex6 (by rw[f3z,f3l];omega),f3z,f3l,f4h om,f6g,f1l,f5y,<-ex9]
def d7v{l:LD}{j:Nat}(h:j<l.length):(Sb l j).set j (K9 (l.getD j df))=Sb l (j+1):=by
 unfold Sb;rw[Et h,f4c,f4j,iN (by rw[f3z,f3l];omega),f3z,f3l,f4h om,f6g,F7 h,f1z,f2p];rfl
def d7y(l:LD):Sb l l.length=l.map K9:=by unfold Sb;rw[f3m,f3n,f42]
def d6a(l:LD):Cx (l.map K4)=some (l.map Ao):=by
 rw[show K4=λd=>(Ao d).map emb from funext λd=>(ai6 d).symm];exact am3 l Ao
def b52(r:Nat)(a:List LP)(l:LD):(l.map K4).map (C5 r a)=l.map K4:=by
 rw[show K4=λd=>(Ao d).map emb from funext λd=>(ai6 d).symm];exact c9o r a l
def eg5(r:Nat)(S:LD)(j:Nat)(x:Dset):((S.map K4).set j [.N x.id,.N x.kind,.N x.origin,.N x.quota,.own r 5 0 (els x.files).length (els x.files).length]).map (C5 r ((els x.files).map Ap))=(S.set j (K9 x)).map K4:=by
 have h:C5 r ((els x.files).map Ap) [.N x.id,.N x.kind,.N x.origin,.N x.quota,.own r 5 0 (els x.files).length (els x.files).length]=K4 (K9 x):=by
  simp[C5,frz,K4,K9];exact congrArg AV.fz (Gf _ _)
 rw[f6i,b52,h,f6i]
def dc0(p:Pool)(A:PoolB p)(H:AH):K tab A6 A5 188 [.agg (C1 p)] H=some (.agg (C1 (Md p)),H):=by
 refine Ae e2s rfl (by simp only[Aa,Ab,Yk,f5m]) (by simp only[Ab,Yk]) ?_ H;obtain⟨b1,b2,b3,b4,b5,b6,b7,y⟩:=A;have k:=Qh (f:=71) B4 (λ_=>rfl) b3c (λ_ _=>b31 _ _) p.d.last om;have m:=Qh (f:=72) Ay (λ_=>rfl) b3d (λ_ _=>b32 _ _) p.d.wait om;have h3:=Qh (f:=256) A8 (λ_=>rfl) as4 (λ_ _=>as0 _ _) p.s.held om;have h4:=Qh (f:=256) A8 (λ_=>rfl) as4 (λ_ _=>as0 _ _) p.s.one om;have h5:=Qh (f:=256) A8 (λ_=>rfl) as4 (λ_ _=>as0 _ _) p.s.two om;have h6:=Qh (f:=256) A8 (λ_=>rfl) as4 (λ_ _=>as0 _ _) p.s.kept om;have h7:=Qh (f:=257) Ao (λ_=>rfl) dl9 (λ_ _=>de8 _ _) p.sets om;have z:∀ l:LR,(l.map λa=>(A8 a).map emb)=l.map Cv:=λl=>rfl;rw[at3]at k;rw[Vj]at m;rw[z]at h3 h4 h5 h6;rw[show(λa=>(Ao a).map emb)=K4 from funext ai6]at h7;have D:=N4 (f:=71) rfl (by simp[Aa,Ai]) (a2s _) k;have E:=N4 (f:=256) rfl (by simp[Aa,Ai]) (λτ=>H7 τ _) h3;have F:=N4 (f:=256) rfl (by simp[Aa,Ai]) (λτ=>H7 τ _) h4;have G:=N4 (f:=256) rfl (by simp[Aa,Ai]) (λτ=>H7 τ _) h5;have I:=N4 (f:=256) rfl (by simp[Aa,Ai]) (λτ=>H7 τ _) h6;have Q:=λa c V H e g=>Uv (f:=256) (a:=a) (c:=c) (V:=V) (H:=H) e rfl (by simp[Aa,Ai]) (λτ=>H7 τ _) h3 g;have R:=λa c V H e g=>Uv (f:=256) (a:=a) (c:=c) (V:=V) (H:=H) e rfl (by simp[Aa,Ai]) (λτ=>H7 τ _) h4 g;have T:=λa c V H e g=>Uv (f:=256) (a:=a) (c:=c) (V:=V) (H:=H) e rfl (by simp[Aa,Ai]) (λτ=>H7 τ _) h5 g;have J:=N4 (f:=257) rfl (by simp[Aa,Ai]) (λτ=>a6j τ _) h7;have O:=λa c V H e g=>Uv (f:=71) (a:=a) (c:=c) (V:=V) (H:=H) e rfl (by simp[Aa,Ai]) (a2s _) k g;have P:=λa c V H e g=>Uv (f:=72) (a:=a) (c:=c) (V:=V) (H:=H) e rfl (by simp[Aa,Ai]) (a2t _) m g;have w:=N4 (f:=72) rfl (by simp[Aa,Ai]) (a2t _) m;unfold C1;simp(disch:=try exact dq)only[tx,seval,ac4,D,w,f41,f3w];rw[O _ _ _ _ rfl (by simp)];simp(disch:=try exact dq)only[tx,seval,w,f41,f3w];rw[P _ _ _ _ rfl (by simp)];simp(disch:=try exact dq)only[tx,seval,E,f41,f3w];rw[Q _ _ _ _ rfl (by simp)];simp(disch:=try exact dq)only[tx,seval,F,f41,f3w];rw[R _ _ _ _ rfl (by simp)];simp(disch:=try exact dq)only[tx,seval,G,f41,f3w];rw[T _ _ _ _ rfl (by simp)];simp(disch:=try exact dq)only[tx,seval,I,f41,f3w];have X:List.take (els p.d.last).length ((els p.d.last).map B4)=(els p.d.last).map B4:=Gf _ _;have Y:List.take (els p.d.wait).length ((els p.d.wait).map Ay)=(els p.d.wait).map Ay:=Gf _ _;have Z:List.take (els p.s.held).length ((els p.s.held).map A8)=(els p.s.held).map A8:=Gf _ _;have t4:List.take (els p.s.one).length ((els p.s.one).map A8)=(els p.s.one).map A8:=Gf _ _;have t5:List.take (els p.s.two).length ((els p.s.two).map A8)=(els p.s.two).map A8:=Gf _ _;have t6:List.take (els p.s.kept).length ((els p.s.kept).map A8)=(els p.s.kept).map A8:=Gf _ _;simp(disch:=try exact dq)only[tx,seval,X,Y,Z,t4,t5,t6,J,aq0,a6j,Gs,Ki,Fv,Hi,G7,H7,Th,Kb,a5n,Um,L8,ag2,f3z];generalize B:Aj _ _ _=r;refine B6 B (els p.sets).length (λj=>[U,.ptr 0 0 0 1,.ptr 1 0 0 1,U,U,U,.N (els p.sets).length,.N (j:Int),U,U])
  (λj=>[some [[.fz ((els p.d.last).map B4),.fz ((els p.d.wait).map Ay),.N p.d.lies,.N p.d.arm,.bool p.d.down,.N p.at'.addr,.N p.at'.birth,.M p.at'.sum.a.toNat,.M p.at'.sum.b.toNat,.M p.at'.sum.c.toNat,.M p.at'.sum.d.toNat,.N p.r.txg,.N p.r.next,.N p.r.guid,.N p.r.table.addr,.N p.r.table.birth,.M p.r.table.sum.a.toNat,.M p.r.table.sum.b.toNat,.M p.r.table.sum.c.toNat,.M p.r.table.sum.d.toNat,.N p.r.space.addr,.N p.r.space.birth,.M p.r.space.sum.a.toNat,.M p.r.space.sum.b.toNat,.M p.r.space.sum.c.toNat,.M p.r.space.sum.d.toNat,.N p.r.kept.addr,.N p.r.kept.birth,.M p.r.kept.sum.a.toNat,.M p.r.kept.sum.b.toNat,.M p.r.kept.sum.c.toNat,.M p.r.kept.sum.d.toNat,.N p.r.keptTxg,.fz ((els p.s.held).map A8),.fz ((els p.s.one).map A8),.fz ((els p.s.two).map A8),.fz ((els p.s.kept).map A8),.N p.seat,.N p.last,.own 63 5 0 (els p.sets).length (els p.sets).length,.bool p.only]],some [[.emp,.emp,.N 0,.N 0,.bool false,.N 0,.N 0,.M 0,.M 0,.M 0,.M 0,.N 0,.N 0,.N 0,.N 0,.N 0,.M 0,.M 0,.M 0,.M 0,.N 0,.N 0,.M 0,.M 0,.M 0,.M 0,.N 0,.N 0,.M 0,.M 0,.M 0,.M 0,.N 0,.emp,.emp,.emp,.emp,.N 0,.N 0,.emp,.bool false]]]++(List.replicate 61 none++[some ((Sb (els p.sets) j).map K4)])) (λ_=>True) ?_ ?_ trivial ?_ ?_
 ·rfl
 ·rfl
 ·intro j o _;have q:((j:Int)<((els p.sets).length:Int)):=om;have v:=d7w (els p.sets) j;have h:=d7x o;have i:=d7v o;obtain⟨x,C⟩:∃ x,(els p.sets).getD j df=x:=⟨_,rfl⟩;have t:=y _ (O1 o);rw[C]at h i t;generalize Sb (els p.sets) j=S at *;have u:(S.map K4)[j]?=some [.N x.id,.N x.kind,.N x.origin,.N x.quota,A4 Ap x.files]:=by rw[Fc om K4,h];rfl
  have n:=Qh (f:=258) Ap (λ_=>rfl) c1w (λ_ _=>c0u _ _) x.files om;rw[show(λa=>(Ap a).map emb)=Cr from rfl]at n;have L:=N4 (f:=258) rfl (by simp[Aa,Ai]) (λτ=>G5 τ _) n;have W:=λa c V H e g=>Uv (f:=258) (a:=a) (c:=c) (V:=V) (H:=H) e rfl (by simp[Aa,Ai]) (λτ=>G5 τ _) n g;have tC:List.take (els x.files).length ((els x.files).map Ap)=(els x.files).map Ap:=Gf _ _;simp(disch:=try exact dq)only[tx,seval,q,v,u,L,f52,f41,f3w,aq0,a6j,f3z];rw[W _ _ _ _ rfl (by simp)];simp(disch:=try exact dq)only[tx,seval,v,u,aq0,a6j,F4,G5,Ti,Un,b52,tC,eg5,i,f52,f3z];rfl
 ·intro _;rw[d7y];have tS:List.take (els p.sets).length (((els p.sets).map K9).map Ao)=((els p.sets).map K9).map Ao:=f0a (by simp);simp(disch:=try exact dq)only[tx,seval,f5q,aq0,a6j,d6a,b52,tS,f3z];rfl
def a7l(l:Sl Bytes)(a:LP)(b:(els l).length<=1000000)(H:AH):K tab A6 A5 261 [.fptr (Lt B4 l::a)] H=some (.N ((els l).length-28),H):=by
 refine Ae e1k rfl rfl rfl ?_ H;simp(disch:=try exact dq)only[tx,seval,a9z,Ks,f52]
structure DevB(d:Dev)(n:Nat):Prop where
 last:(els d.last).length<=100000
 wait:(els d.wait).length<=n
 sec:∀ s∈els d.last,s.length<=1000000
 put:∀ q∈els d.wait,q.2.length<=1000000
 arm:d.arm<=1000000000000
 lies:-1000000000000<=d.lies/\d.lies<=1000000000000
def Im(d:Dev)(l:List (Int×Bytes)):Dev×Bool:=if(Co (twD d) l).2=true then Uq (Co (twD d) l).1 else((Co (twD d) l).1,false)
def b4l(p:Pool){n:Nat}(o:DevB p.d n)(v:n<=50000)(l:Sl (Int×Bytes))(u:(els l).length<=40000)(w:∀ q∈els l,q.2.length<=1000000) :
 Ev tab A6 A5 190 [.ptr 0 0 0 1,A4 Ay l] [some [C1 p]]=some (.bool (Im p.d (els l)).2,[some [C1 ⟨(Im p.d (els l)).1,p.at',p.r,p.s,p.seat,p.last,p.sets,p.only⟩]]):=by
 refine Bz e2p rfl ?_;obtain⟨g,b2,j,i,k,m⟩:=o;have c:=λH=>el0 p.d l om om g k H;unfold Im;have a:(Co (twD p.d) (els l)).1.last=some (els p.d.last)/\(els (Co (twD p.d) (els l)).1.wait).length<=(els p.d.wait).length+(els l).length/\(∀ q∈els (Co (twD p.d) (els l)).1.wait,q.2.length<=1000000)/\(Co (twD p.d) (els l)).1.lies=p.d.lies:=by
  unfold Co;split
  ·exact⟨rfl,Nat.le_add_right _ _,i,rfl⟩
  ·have:=Ys (els l) (twD p.d);refine⟨this.1,this.2.1,λq t=>?_,Yr _ _⟩;rcases this.2.2 q t with h|h
   ·exact i q h
   ·omega
 have f:=λH=>el2 (Co (twD p.d) (els l)).1 (by rw[a.1];exact g) (by have:=a.2.1;omega) (by rw[a.1];exact j) a.2.2.1 (by rw[a.2.2.2];exact m) H;generalize Co (twD p.d) (els l)=q at *;obtain⟨e,b⟩:=q;unfold Eg at c f;simp only[]at c f ⊢;unfold C1;cases b with
 |false=>
   simp(disch:=try exact dq)only[tx,seval,a3q,c,f2d]
 |true=>
   simp(disch:=try exact dq)only[tx,seval,a3q,c,f]
def d4w(d:Dev)(l:List (Int×Bytes)):(els (Im d l).1.last).length=(els d.last).length:=by
 have a:(Co (twD d) l).1.last=some (els d.last):=by
  unfold Co;split
  ·rfl
  ·exact(Ys l (twD d)).1
 unfold Im;split
 ·unfold Uq;split
  ·show(els (some (els (Co (twD d) l).1.last))).length=_;rw[Az,a,Az]
  ·split
   ·show(els (some (els (Co (twD d) l).1.last))).length=_;rw[Az,a,Az]
   ·show(els (some (Hz (els (Co (twD d) l).1.last) _ _ _))).length=_;rw[Az,Z1,a,Az]
 ·rw[a,Az]
def b0e:∀ (l:List (Int×Bytes)) (d:Dev),(Dl d l).1.arm<=max d.arm 0
 |[],d=>by show d.arm<=_;omega
 |p::l,d=>by
   rw[Dl];split
   ·split
    ·split
     ·simp only[];omega
     ·have:=b0e l ⟨d.last,some (els d.wait++[p]),d.lies,d.arm-1,d.down⟩;simp only[]at this;omega
    ·have:=b0e l (S2 d p);simp only[S2]at this;exact this
   ·simp only[];omega
def eh7{d:Dev}{n:Nat}(h:DevB d n):DevB (Uq d).1 n:=by
 obtain⟨a,b2,b,c,e,f⟩:=h;unfold Uq;split
 ·exact⟨a,b2,b,c,e,f⟩
 ·split
  ·exact⟨a,b2,b,c,e,by simp only[];omega⟩
  ·refine⟨?_,f6m _,?_,λq g=>by simp[els]at g,e,f⟩
   ·rw[Az,Z1];exact a
   ·rw[Az];intro s j;obtain⟨i,hi,rfl⟩:=f1i j
    have:=b21 (els d.last) (els d.wait) (λ_=>3) b c (els d.wait).length i hi
    rwa [ex9,ez2 hi]at this
def b80{d:Dev}{n:Nat}(h:DevB d n)(l:List (Int×Bytes)):DevB (Co (twD d) l).1 (n+l.length):=by
 obtain⟨b,b2,c,e,g,f⟩:=h;unfold Co;split
 ·exact⟨b,f0d b2,c,e,g,f⟩
 ·have a:=Ys l (twD d);have j:=b0e l (twD d);have h3:(twD d).arm=d.arm:=rfl;have h4:=Yr l (twD d);have h5:(els (twD d).wait).length=(els d.wait).length:=rfl;refine⟨by rw[a.1];exact b,by have:=a.2.1;omega,by rw[a.1];exact c,λq i=>?_,by omega,by rw[h4];exact f⟩;rcases a.2.2 q i with h|h
  ·exact e q h
  ·omega
def b7z{d:Dev}{n:Nat}(h:DevB d n)(l:List (Int×Bytes)):DevB (Im d l).1 (n+l.length):=by
 unfold Im;split
 ·exact eh7 (b80 h l)
 ·exact b80 h l
def Ut(d:Dev)(u:Uber):Dev×Bool:=if(Im d (els (Iu ((els d.last).length-28) u 0))).2=true then Im (Im d (els (Iu ((els d.last).length-28) u 0))).1 (els (Iu ((els d.last).length-28) u 1))else Im d (els (Iu ((els d.last).length-28) u 0))
def d9s(u:Uber):(Js u).length<=1000000:=by
 unfold Js Z3;split
 ·simp only[f1q,Ew _ _ (show([4,4,4,4]:lN).length=(a5w (Dc (Ba [1,4,4,1] [171,u.txg,u.guid,u.seat]++Fb u.root))).length from rfl),Ew _ _ (show([1,4,4,1]:lN).length=[171,u.txg,u.guid,u.seat].length from rfl),Tv,Wl];simp
 ·exact f6m _
def el5(H:AH)(n:Nat):∀ x:AV,Ab x=true->Ii H n x=[]:=λx h=>by
 cases n with
 |zero=>rfl
 |succ n=>cases x<;>first|rfl|cases h
def cj0(H:AH)(n:Nat):∀ l:LA,Aa l=true->l.flatMap (Ii H n)=[]
 |[],_=>rfl
 |x::l,h=>by
   simp only[Aa,f32]at h;rw[f2t,el5 H n x h.1,cj0 H n l h.2];rfl
def dpE(H:AH)(e:LA):Bool->lN
 |true=>[]
 |false=>e.flatMap (Ii H 3)
def dpF(H:AH)(j:Nat):Option LA->lN
 |some e=>dpE H (e.drop j) (Aa (e.drop j))
 |none=>[]
def dpG(H:AH)(i j:Nat):Option AObj->lN
 |some o=>dpF H j (o[i]?)
 |none=>[]
def a0v(H:AH)(e:LA):dpE H e true=[]:=qq
def a0u(H:AH)(j:Nat)(e:LA):dpF H j (some e)=dpE H (e.drop j) (Aa (e.drop j)):=qq
def a0t(H:AH)(i j:Nat)(o:AObj):dpG H i j (some o)=dpF H j (o[i]?):=qq
def a0w(H:AH)(r i j tot:Nat):M5 H (.ptr r i j tot)=r::dpG H i j (B1 H r tot):=by
 simp only[M5,Ii];cases B1 H r tot with
 |none=>rfl
 |some o=>
   simp only[dpG];cases o[i]? with
   |none=>rfl
   |some e=>
     simp only[dpF];cases a:Aa (e.drop j)with
     |true=>rw[cj0 H 3 _ a];rfl
     |false=>rfl
def a0y(E:CallF)(a:LQ)(c:Nat)(V:Opd->AV)(H:AH)(b:LA):Ld A5 E 261 a c V H b false=W8 (Ke A5 E 261 a c V H) (Gy H b) c H (E 261 (B9 H b) []):=a4q rfl _ _ _ _ _ _
def c0c(n:Int)(u:Uber)(h:Int):(els (Iu n u h)).length<=2/\∀ q∈els (Iu n u h),q.2.length<=1000000:=by
 have:=d9s u;unfold Iu;split
 ·refine⟨by simp[els],λq a=>?_⟩;simp only[Az,f5h,f3c,f6z]at a;rcases a with rfl|rfl<;>exact this
 ·exact⟨by simp[els],λq a=>by simp[els]at a⟩
def ef9(p:Pool){n:Nat}(v:DevB p.d n)(I:n<=40000)(t g s a b:Int)(c d e f:UInt32) :
 Ev tab A6 A5 192 [.ptr 0 0 0 1,.agg [.N t,.N g,.N s,.N a,.N b,.M c.toNat,.M d.toNat,.M e.toNat,.M f.toNat]] [some [C1 p]] =
  some (.bool (Ut p.d ⟨t,g,s,⟨a,b,⟨c,d,e,f⟩⟩⟩).2,[some [C1 ⟨(Ut p.d ⟨t,g,s,⟨a,b,⟨c,d,e,f⟩⟩⟩).1,p.at',p.r,p.s,p.seat,p.last,p.sets,p.only⟩]]):=by
 refine Bz e2n rfl ?_;obtain⟨j,k⟩:∃ x:Int,x=(els p.d.last).length-28:=⟨_,rfl⟩;have E:=v.last;have y:=λH=>c0e j 0 t g s a b c d e f H;have D:=λH=>c0e j 1 t g s a b c d e f H;unfold Ut;rw[<-k];have F:=c0c j ⟨t,g,s,⟨a,b,⟨c,d,e,f⟩⟩⟩ 0;have G:=c0c j ⟨t,g,s,⟨a,b,⟨c,d,e,f⟩⟩⟩ 1;generalize Iu j ⟨t,g,s,⟨a,b,⟨c,d,e,f⟩⟩⟩ 0=m at *;generalize Iu j ⟨t,g,s,⟨a,b,⟨c,d,e,f⟩⟩⟩ 1=B at *;have l:=b4l p v om m om F.2;have A:=d4w p.d (els m);have z:=b7z v (els m);generalize Im p.d (els m)=q at *;obtain⟨w,C⟩:=q;simp only[]at l A z ⊢;have o:=b4l ⟨w,p.at',p.r,p.s,p.seat,p.last,p.sets,p.only⟩ z om B om G.2;simp only[]at o;have h:=λH u=>a7l p.d.last u om H;have i:=λH u=>a7l w.last u om H;rw[A]at i;rw[<-k]at h i;unfold C1 at l o ⊢;simp only[]at l o;cases C with
 |false=>
   simp(disch:=try exact dq)only[tx,seval,a3p,a0w,a0t,a0u,a0v,a0y,h,y,KQ 190 rfl,Dz (f:=190) rfl,Jo (f:=190) rfl,Bl,Bo,Am,l,f3t,f37,f3x,f2d]
 |true=>
   simp(disch:=try exact dq)only[tx,seval,a3p,a0w,a0t,a0u,a0v,a0y,h,i,y,D,KQ 190 rfl,Dz (f:=190) rfl,Jo (f:=190) rfl,Bl,Bo,Am,l,o,f3t,f37,f3x]
def W6(p:Pool):Int:=(els p.d.last).length-28
def Qp(p:Pool):Block:=⟨5,p.last+1,Jd (W6 p) p.s.n⟩
def Xj(p:Pool)(q:PlanP):Root:=⟨p.last+1,p.r.next,p.r.guid,q.table,Hp (q.rest.getD 0 df) (Qp p),p.r.kept,p.r.keptTxg⟩
def Qt(p:Pool)(q:PlanP):Block:=⟨6,p.last+1,Jt (Xj p q)⟩
def Xk(p:Pool)(q:PlanP):Pool:=⟨p.d,Hp (q.rest.getD 1 df) (Qt p q),Xj p q,p.s,(p.seat+1).tmod 6,p.last+1,p.sets,p.only⟩
def Nf(p:Pool)(q:PlanP):List (Int×Bytes):=List.zipWith (λa b=>(a,Dh b)) (q.at'++q.rest) (q.bl++[Qp p,Qt p q])
structure PlanOk(q:PlanP):Prop where
 at':q.at'.length=q.bl.length
 bl:q.bl.length<=1000
 rest:q.rest.length=2
 load:∀ x∈q.bl,x.load.length<=1000000
def ef7(p:Pool)(G:PoolB p)(hs:-1000000000<=p.seat/\p.seat<=1000000000)(hl:-1000000000000<=p.last/\p.last<=1000000000000)(q:PlanP)(hq:PlanOk q) :
 Ev tab A6 A5 191 [.ptr 0 0 0 1,.agg (Xd 1 q)] [some [C1 p],some (q.bl.map D5),some (q.at'.map cI)] =
  some (.fz ((Nf p q).map Ay),[some [C1 (Xk p q)],some ((q.bl++[Qp p,Qt p q]).map D5),some ((q.at'++q.rest).map cI)]):=by
 refine Bz e2o rfl ?_;obtain⟨q1,q2,q3,q4⟩:=hq;have a3:=G.last;have hG:=λH cs=>a7l p.d.last cs om H;obtain⟨K,D⟩:∃ x:Int,x=(els p.d.last).length-28:=⟨_,rfl⟩;rw[<-D]at hG;have z:=λH=>bi9 p.s ⟨G.held,G.one,G.two,G.kept⟩ K om om H;have Q:Qp p=⟨5,p.last+1,Jd K p.s.n⟩:=by unfold Qp W6;rw[D]
 have a0:=d9v K p.s.n om;obtain⟨g,a1⟩:∃ s,s=Jd K p.s.n:=⟨_,rfl⟩;rw[<-a1]at z Q a0;have k:=λH=>b6l (q.rest.getD 0 df) 5 (p.last+1) g om H;obtain⟨t,I⟩:∃ x:Ptr,x=Hp (q.rest.getD 0 df) (Qp p):=⟨_,rfl⟩;rw[<-Q,<-I]at k;have hR:Xj p q=⟨p.last+1,p.r.next,p.r.guid,q.table,t,p.r.kept,p.r.keptTxg⟩:=by unfold Xj;rw[I]
 have y:=λH=>bj0 (Xj p q) H;have Z:=b2q (Xj p q);obtain⟨f,o⟩:∃ s,s=Jt (Xj p q):=⟨_,rfl⟩;have w:Qt p q=⟨6,p.last+1,f⟩:=by unfold Qt;rw[o]
 rw[<-o,hR]at y;rw[<-o]at Z;have l:=λH=>b6l (q.rest.getD 1 df) 6 (p.last+1) f om H;obtain⟨u,J⟩:∃ x:Ptr,x=Hp (q.rest.getD 1 df) (Qt p q):=⟨_,rfl⟩;rw[<-w,<-J]at l;unfold Nf Xk;rw[<-J,hR,Q,w];simp only[Ac]at k l;unfold C1 Xd;have X:(0:Int)<(q.rest.length:Int):=om;have Y:(1:Int)<(q.rest.length:Int):=om;have v:(q.rest.map λx=>[PV.N x]).map (λe=>e.map emb)=q.rest.map cI:=by rw[f6a];rfl
 have aC:(q.rest.map cI).all (λe=>decide (e.length=1))=true:=b6w q.rest;have B:q.at'.map cI++q.rest.map cI=(q.at'++q.rest).map cI:=by rw[f4c]
 have C:q.bl.map D5++[[.N 5,.N (p.last+1),.str g],[.N 6,.N (p.last+1),.str f]]=(q.bl++[⟨5,p.last+1,g⟩,⟨6,p.last+1,f⟩]:List Block).map D5:=by rw[f4c];rfl
 simp(disch:=try exact dq)only[tx,seval,ac3,v,aC,B,C,a0w,a0t,a0u,a0v,a0y,hG,z,k,y,l,X,Y,B0,Bc,Bb,Aq,Ax,f52,f3z,q1,q3];have R:∀ x∈(q.bl++[⟨5,p.last+1,g⟩,⟨6,p.last+1,f⟩]:List Block),x.load.length<=1000000:=by
  intro x hx;simp only[f43,f5h,f3c,f6z]at hx;rcases hx with h|rfl|rfl
  ·exact q4 x h
  ·simp only[];omega
  ·simp only[];omega
 have m:(q.bl++[⟨5,p.last+1,g⟩,⟨6,p.last+1,f⟩]:List Block).length=q.bl.length+2:=by simp
 have i:(q.at'++q.rest).length=q.bl.length+2:=by rw[f1q];omega
 generalize (q.bl++[⟨5,p.last+1,g⟩,⟨6,p.last+1,f⟩]:List Block)=T at *;generalize q.at'++q.rest=A at *;have P:(List.zipWith (λ(a:Int) b=>(a,Dh b)) A T).length=q.bl.length+2:=by rw[f1h,m,i,Nat.min_self]
 have O:∀ j,j<q.bl.length+2->(List.zipWith (λ(a:Int) b=>(a,Dh b)) A T).getD j df=(A.getD j df,Dh (T.getD j df)):=λj hj=>by
  rw[ex9,ez2 om,f11,ex9,ez2 om,ex9,ez2 om];rfl
 generalize hL:List.zipWith (λ(a:Int) b=>(a,Dh b)) A T=L at *;generalize hr:Aj _ _ _=r;refine B6 hr (q.bl.length+2) (λj=>[U,U,U,U,U,U,.own 2 1 0 (q.bl.length+2) (q.bl.length+2),.own 67 2 0 j j,U,U,.own 1 3 0 (q.bl.length+2) (q.bl.length+2),.N (q.bl.length+2:Nat),.N (j:Int),U,U,U])
  (λj=>[some [[A4 B4 p.d.last,A4 Ay p.d.wait,.N p.d.lies,.N p.d.arm,.bool p.d.down,.N u.addr,.N u.birth,.M u.sum.a.toNat,.M u.sum.b.toNat,.M u.sum.c.toNat,.M u.sum.d.toNat,.N (p.last+1),.N p.r.next,.N p.r.guid,.N q.table.addr,.N q.table.birth,.M q.table.sum.a.toNat,.M q.table.sum.b.toNat,.M q.table.sum.c.toNat,.M q.table.sum.d.toNat,.N t.addr,.N t.birth,.M t.sum.a.toNat,.M t.sum.b.toNat,.M t.sum.c.toNat,.M t.sum.d.toNat,.N p.r.kept.addr,.N p.r.kept.birth,.M p.r.kept.sum.a.toNat,.M p.r.kept.sum.b.toNat,.M p.r.kept.sum.c.toNat,.M p.r.kept.sum.d.toNat,.N p.r.keptTxg,A4 A8 p.s.held,A4 A8 p.s.one,A4 A8 p.s.two,A4 A8 p.s.kept,.N ((p.seat+1).tmod 6),.N (p.last+1),A4 Ao p.sets,.bool p.only]],some (T.map D5),some (A.map cI),some [[.own 1 3 0 q.bl.length q.bl.length,.own 2 1 0 q.bl.length q.bl.length,.N q.table.addr,.N q.table.birth,.M q.table.sum.a.toNat,.M q.table.sum.b.toNat,.M q.table.sum.c.toNat,.M q.table.sum.d.toNat,A4 A8 q.held,.fz (q.rest.map λx=>[.N x])]],some [[.N 5,.N (p.last+1),.str g]]]++(List.replicate 36 none++(some [[.N 6,.N (p.last+1),.str f]]::(List.replicate 24 none++[some [[.N 5,.N (p.last+1),.str g],[.N 6,.N (p.last+1),.str f]],some ((L.take j).map Fe)])))) (λ_=>True) ?_ ?_ trivial ?_ ?_
 ·rfl
 ·rfl
 ·intro j hj _;have V:((j:Int)<((q.bl.length+2:Nat):Int)):=om;have E:(T.map D5)[j]?=some (D5 (T.getD j df)):=Fc om D5;have F:(A.map cI)[j]?=some (cI (A.getD j df)):=Fc om cI;have a2:=R _ (O1 (show j<T.length by omega));have hS:L.take (j+1)=L.take j++[L.getD j df]:=Et om;rw[O j hj]at hS;have W:(L.take j).length=j:=by rw[f3l];omega
  generalize T.getD j df=x at *;generalize A.getD j df=a at *;rw[hS];generalize L.take j=M at *;have hB:=λH=>cr1 x.kind x.birth x.load a2 H;have S:M.map Fe++[[.N a,.str (Dh x)]]=(M++[(a,Dh x)]).map Fe:=by rw[f4c];rfl
  simp only[D5,cI]at E F;simp(disch:=try exact dq)only[tx,seval,V,E,F,hB,S,m,i,Bc,Bb,Aq,Ax,Fv,Hi,f52,f3z,W];rfl
 ·intro _;have hM:L.take (q.bl.length+2)=L:=f0a om;rw[hM];have kP:List.take (q.bl.length+2) (L.map Ay)=L.map Ay:=f0a (by rw[f3z];omega);simp(disch:=try exact dq)only[tx,seval,f5q,Bc,Bb,Aq,Ax,Fv,Hi,Kb,L8,Jj,Uo,kP,f3z,P,m,i]
structure InD(n:Int)(l:LR):Prop where
 sep:SepR l
 has:∀ x,hasR l x=true->14<=x/\x<14+n
def bo9:∀ {l:LR} {a b:Int},SepR l->(∀ r∈l,a<=r.a/\r.b<=b)->(l.length:Int)<=max (b-a) 0
 |[],a,b,_,_=>by simp only[f3w];omega
 |r::l,a,b,h,hr=>by
   have e:=hr r (by simp);have g:=bo9 (l:=l) (a:=r.b+1) (b:=b) h.2.2 (λq c=>⟨by have:=h.2.1 q c;omega,(hr q (by simp[c])).2⟩);have f:=h.1;rw[f33];by_cases d:l=[]
   ·subst d;simp only[f3w];omega
   ·obtain⟨q,c⟩:=List.exists_mem_of_ne_nil _ d;have h3:=h.2.1 q c;have h4:=(hr q (by simp[c])).2;have h5:=h.2.2.pos q c;omega
def InD.runs{n:Int}{l:LR}(h:InD n l):∀ r∈l,14<=r.a/\r.b<=14+n:=λr c=>by
 have f:=h.sep.pos r c;have d:=h.has r.a (Nz.2 ⟨r,c,by omega,by omega⟩);have e:=h.has (r.b-1) (Nz.2 ⟨r,c,by omega,by omega⟩);omega
def InD.len{n:Int}{l:LR}(h:InD n l)(a:n<=240):l.length<=240:=by
 have:=bo9 h.sep h.runs;omega
def InD.ok{n:Int}{l:LR}(h:InD n l)(b:n<=240):Wg l:=by
 refine⟨by have:=h.len b;omega,λr a=>?_⟩;have c:=h.runs r a;have d:=h.sep.pos r a;omega
def InD.less{n:Int}{l:LR}(h:InD n l)(m:LR):InD n (Br l m):=⟨Yu _ _ _,λx a=>by rw[av1,f32]at a;exact h.has x a.1⟩
def al1{n:Int}{l:LR}(h:Es n l=true):InD n l:=by
 unfold Es at h;simp only[f32,f2f]at h;refine⟨(c2g.1 h.1).1,λx a=>?_⟩
 have:=c3g.1 h.2 x a;rw[av0]at this;simpa using this
def b3m{n:Int}{s:SpaceL}(h:Ct n s=true):n<=240/\InD n s.held/\InD n s.one/\InD n s.two/\InD n s.kept:=by
 unfold Ct Ic at h;simp only[f32,f2f]at h;obtain⟨⟨⟨a,b,h3,h4,h5⟩,_⟩,_⟩:=h;exact⟨a.2,al1 b,al1 h3,al1 h4,al1 h5⟩
def ca5(n:Int)(s:SpaceL):Wg (Gk n s):=by
 by_cases h:Ct n s=true
 ·have b:=b3m h;have:InD n (Gk n s):=⟨ca4 n s,λx a=>by
   rw[c8t h]at a;simp only[f32,f2f]at a;exact a.1.1.1.1⟩
  exact this.ok b.1
 ·rw[Gk,iN h];exact⟨by decide,λr c=>by cases c⟩
def a41(p:Pool):Int:=Eo (Gk (W6 p) p.s.n)
def dc8(p:Pool)(a:PoolB p)(H:AH):K tab A6 A5 263 [.agg (C1 p)] H=some (.N (a41 p),H):=by
 refine Ae e1i rfl (by simp only[Aa,Ab,Yk,f5m]) rfl ?_ H;have i:=a.last;have f:=λH g=>a7l p.d.last g om H;unfold a41 W6;obtain⟨c,b⟩:∃ x:Int,x=(els p.d.last).length-28:=⟨_,rfl⟩;rw[<-b]at f ⊢;have h:=λH=>bl0 p.s ⟨a.held,a.one,a.two,a.kept⟩ c om om H;have e:=λH=>b1s (B8 (Gk c p.s.n)) (by rw[Dp];exact ca5 _ _) H;rw[Dp]at e;unfold C1;simp(disch:=try exact dq)only[tx,seval,a9x,a0w,a0t,a0u,a0v,a0y,f,h,e]
def Fu(p:Pool)(q:PlanP):Pool:=⟨p.d,p.at',p.r,bd7 p.s q.held,p.seat,p.last,p.sets,p.only⟩
def a1y(p:Pool)(a:List OldW):Option PlanP:=Qa (p.last+1) (Gk (W6 p) p.s.n) (els p.sets) a
def a6t(p:Pool)(H6:Bool)(b:Nat)(o:Option PlanP):AV:=match o with
 |some q=>.tuple [.agg (Xd b q),.bool (H6||decide (6<=a41 (Fu p q)))]
 |none=>.tuple [.agg Xe,.bool false]
def a6u(p:Pool)(o:Option PlanP):Pool:=match o with
 |some q=>Fu p q
 |none=>p
def c3l{b:Int}{free:LR}{l:LD}{a:List OldW}{q:PlanP}(h:Qa b free l a=some q)(o:a.length<=32)(p:SetsOk l):(els q.held).length<=500:=by
 unfold Qa at h;split at h
 ·rename_i i;have d:maySetsP l=true:=by have:=i.1;unfold a78 at this;simp only[f32]at this;exact this.1.1.1
  have c:=a2a d;have f:=Xl d;have g:=(LWok.setsJ (w:=⟨[],[],[],a⟩) (m:=a.length) ⟨rfl,f6m _,f6m _,f6o _⟩ b (Eb free) l (λx k=>(c x k).1) l.length (f6o _)).put b (Eb free) 4 (Fo (l.map Bj) (a74 b (Eb free) l a).1);have j:=g.held;cases h;rw[Dp];have e:=b3a ((K1 b (Eb free) l a).2.held++((Eb free).drop (K1 b (Eb free) l a).2.bl.length).take 2);rw[f1q,f3l]at e;have n:(K1 b (Eb free) l a).2.held.length<=a.length+42*l.length+1:=j;omega
 ·cases h
def bd6{p:Pool}(a:PoolB p){n:Int}(b:n<=240)(hI:InD n p.s.n.held/\InD n p.s.n.one/\InD n p.s.n.two/\InD n p.s.n.kept)(q:PlanP)(e:(els q.held).length<=500):PoolB (Fu p q):=by
 have c:=(hI.1.less (els q.held)).len b;have d:=((hI.2.1.less (els q.held)).less (Br (els p.s.held) (els q.held))).len b;exact⟨a.last,a.wait,e,by show(els (B8 _)).length<=_;rw[Dp];exact f61 c (by decide),by show(els (B8 _)).length<=_;rw[Dp];exact f61 d (by decide),a.kept,a.sets,a.files⟩
def c3k{b n:Int}{s:SpaceL}{l:LD}{a:List OldW}{q:PlanP}(h:Qa b (Gk n s) l a=some q):Ct n s=true:=by
 unfold Qa at h;split at h
 ·rename_i c;rw[<-Bool.not_eq_false];intro d;have:Gk n s=[]:=by rw[Gk,iN (by rw[d];exact f2d)]
  rw[this]at c;have e:=c.2;have:(Eb []).length=0:=rfl;omega
 ·cases h
def ef6(v:List OldV)(C:v.length<=4)(w:∀ o∈v,o.v.sets.length<=8)(t:∀ o∈Ch v v.length,OldOk o)(p:Pool)(b:PoolB p)(E:-1000000000000<=p.last/\p.last<=1000000000000)(i:SetsOk (els p.sets))(H6:Bool) :
 Ev tab A6 A5 189 [.ptr 0 0 0 1,.bool H6,.own 1 30 0 v.length v.length] ([some [C1 p]]++[some (v.map Hk)])=some (a6t p H6 2 (a1y p (Ch v v.length)),[some [C1 (a6u p (a1y p (Ch v v.length)))]]++[some (v.map Hk)]++Xc (a1y p (Ch v v.length))):=by
 refine Bz e2r rfl ?_;have z:=b.last;have k:=λH y=>a7l p.d.last y om H;obtain⟨j,g⟩:∃ x:Int,x=W6 p:=⟨_,rfl⟩;have h:(els p.d.last).length-28=j:=g.symm;rw[h]at k;have m:=λH=>bl0 p.s ⟨b.held,b.one,b.two,b.kept⟩ j om om H;have c:=dr9 v C w t (p.last+1) (B8 (Gk j p.s.n)) (by rw[Dp];exact ca5 _ _) p.sets i;rw[Dp]at c;unfold a1y;rw[<-g];cases l:Qa (p.last+1) (Gk j p.s.n) (els p.sets) (Ch v v.length)with
 |none=>
   rw[l]at c;simp only[b3y,Xc,Xe,f41,f3d,f42]at c;unfold a6t a6u Xc C1 Xe;simp only[f41,f3d,f42];simp(disch:=try exact dq)only[tx,seval,a0h,a0w,a0t,a0u,a0v,a0y,k,m,KQ 259 rfl,Dz (f:=259) rfl,Jo (f:=259) rfl,Bl,Bo,Am,c,G6,G4,f3t,f37,f3x,f52,f3z]
 |some q=>
   have B:=c3k l;have hI:=b3m B;have A:=c3l l (by have:=Zj v w v.length;omega) i;have e:=λH=>d7l p.s ⟨b.held,b.one,b.two,b.kept⟩ q.held om H;have u:PoolB (Fu p q):=bd6 b hI.1 hI.2 q A;have a:=λH=>dc8 (Fu p q) u H;rw[l]at c;unfold a6t a6u Xc;simp only[];obtain⟨D,r⟩:∃ x,x=a41 (Fu p q):=⟨_,rfl⟩;rw[<-r]at a ⊢;simp only[b3y,Xc,Xd,f41,f3d,f42]at c;unfold Fu C1 at a ⊢;unfold Xd;unfold V3 at e;simp only[f41,f3d,f42]at a ⊢;cases H6 with
   |true=>
     simp(disch:=try exact dq)only[tx,seval,a0h,a0w,a0t,a0u,a0v,a0y,k,m,KQ 259 rfl,Dz (f:=259) rfl,Jo (f:=259) rfl,Bl,Bo,Am,c,e,a,G6,G4,Bc,Bb,Aq,Ax,f3t,f37,f3x,f52,f3z]
   |false=>
     simp(disch:=try exact dq)only[tx,seval,a0h,a0w,a0t,a0u,a0v,a0y,k,m,KQ 259 rfl,Dz (f:=259) rfl,Jo (f:=259) rfl,Bl,Bo,Am,c,e,a,G6,G4,Bc,Bb,Aq,Ax,f3t,f37,f3x,f52,f3z]
def Gc(w:LW):Prop:=∀ x∈w.bl,x.load.length<=1000
def Gc.put{w:LW}(h:Gc w)(d:Int)(free:LI)(b:Int)(a:Bytes)(e:a.length<=1000):Gc (w.put d free b a).2:=by
 intro x c;simp only[LW.put,f43,f1t]at c;rcases c with c|rfl
 ·exact h x c
 ·exact e
def Gc.part{w:LW}(h:Gc w)(a:Int)(free:LI)(n k:Nat)(s:Bytes)(b:s.length<=1000):Gc (w.part a free n k s).2:=by
 unfold LW.part;split
 ·exact h
 ·split
  ·exact h
  ·exact h.put _ _ _ _ b
def Gc.partJ{w:LW}(h:Gc w)(a:Int)(free:LI)(n:Nat)(b:Bytes):∀ j,Gc (LW.partJ a free w n b j).2
 |0=>h
 |j+1=>(Gc.partJ h a free n b j).part _ _ _ _ _ (by have:=b2x b j;omega)
def Gc.node{w:LW}(h:Gc w)(a:Int)(free:LI)(n:Nat)(x:Node):Gc (w.node a free n x).2:=by
 unfold LW.node;split
 ·exact h
 ·show Gc (LW.node1 a free _ n x _).2;unfold LW.node1;split
  ·exact h.partJ _ _ _ _ _
  ·exact(h.partJ _ _ _ _ _).put _ _ _ _ (Ls _ _ _)
def Gc.setJ{w:LW}(h:Gc w)(a:Int)(free:LI)(f:LO):∀ j,Gc (LW.setJ a free w f j).2
 |0=>h
 |j+1=>(Gc.setJ h a free f j).node _ _ _ _
def Gc.set{w:LW}(h:Gc w)(a:Int)(free:LI)(x:Dset):Gc (w.set a free x).2:=by
 have b:Gc ((LW.setJ a free w (els x.files) (els x.files).length).2.nodes a free (LW.setJ a free w (els x.files) (els x.files).length).1.1).2:=by
  unfold LW.nodes;split
  ·exact h.setJ _ _ _ _
  ·exact(h.setJ _ _ _ _).put _ _ _ _ (a6o _)
 exact b
def Gc.setsJ{w:LW}(h:Gc w)(a:Int)(free:LI)(l:LD):∀ j,Gc (LW.setsJ a free w l j).2
 |0=>h
 |j+1=>(Gc.setsJ h a free l j).set _ _ _
def c3j{b:Int}{free:LR}{l:LD}{a:List OldW}{q:PlanP}(h:Qa b free l a=some q)(n:a.length<=32):PlanOk q:=by
 unfold Qa at h;split at h
 ·rename_i g;have e:maySetsP l=true:=by have:=g.1;unfold a78 at this;simp only[f32]at this;exact this.1.1.1
  have d:=a2a e;have j:=Xl e;have f:=(LWok.setsJ (w:=⟨[],[],[],a⟩) (m:=a.length) ⟨rfl,f6m _,f6m _,f6o _⟩ b (Eb free) l (λx c=>(d x c).1) l.length (f6o _)).put b (Eb free) 4 (Fo (l.map Bj) (a74 b (Eb free) l a).1);have i:Gc (K1 b (Eb free) l a).2:=(Gc.setsJ (w:=⟨[],[],[],a⟩) (λx c=>by cases c) b (Eb free) l l.length).put _ _ _ _ (a6n _ _);have k:(K1 b (Eb free) l a).2.bl.length<=a.length+42*l.length+1:=f.bl;have h3:(K1 b (Eb free) l a).2.at'.length=(K1 b (Eb free) l a).2.bl.length:=f.at';have h4:=g.2;cases h;refine⟨h3,by show(K1 b (Eb free) l a).2.bl.length<=1000;omega,?_,λx c=>by have:=i x c;omega⟩;show(((Eb free).drop _).take 2).length=2;rw[f3l,f38];omega
 ·cases h
def dm5(p:Pool)(q:PlanP)(a:PlanOk q):(Nf p q).length<=2000/\∀ x∈Nf p q,x.2.length<=1000000:=by
 obtain⟨c,d,h3,h4⟩:=a;unfold Nf;refine⟨by rw[f1h,f1q];omega,λx b=>?_⟩;obtain⟨i,hi,rfl⟩:=f1i b;rw[f11];exact f61 (ar2 _) (by decide)
structure PoolT(p:Pool):Prop where
 b:PoolB p
 dev:DevB p.d 10000
 seat:-1000000000<=p.seat/\p.seat<=1000000000
 last:-1000000000000<=p.last/\p.last<=1000000000000
 sets:SetsOk (els p.sets)
def d5x{p:Pool}(h:PoolT p):PoolT (Md p):=by
 obtain⟨⟨c,b2,d,e,f,g,i,j⟩,⟨k,m,n,o,q,r⟩,s,l,t,u⟩:=h;refine⟨⟨c,b2,d,e,f,g,by show((els p.sets).map K9).length<=_;rw[f3z];exact i,λx a=>?_⟩,⟨k,m,n,o,q,r⟩,s,l,by show((els p.sets).map K9).length<=_;rw[f3z];exact t,λx a=>?_⟩
 ·obtain⟨y,b,rfl⟩:=f62.1 a;exact j y b
 ·obtain⟨y,b,rfl⟩:=f62.1 a;exact u y b
def Yt(p:Pool)(d:Dev):Pool:=⟨d,p.at',p.r,p.s,p.seat,p.last,p.sets,p.only⟩
def ubG(n:Pool):Uber:=⟨n.last,n.r.guid,n.seat,n.at'⟩
def a4i(t:Pool)(q:PlanP):Pool×Int:=
 if(Im t.d (Nf (Fu t q) q)).2=true then
  (if(Ut (Im t.d (Nf (Fu t q) q)).1 (ubG (Xk (Fu t q) q))).2=true then(Yt (Xk (Fu t q) q) (Ut (Im t.d (Nf (Fu t q) q)).1 (ubG (Xk (Fu t q) q))).1,0) else(Yt t (Ut (Im t.d (Nf (Fu t q) q)).1 (ubG (Xk (Fu t q) q))).1,13))
 else(Yt t (Im t.d (Nf (Fu t q) q)).1,13)
def Tg(p:Pool)(H6:Bool)(a:List OldW):Pool×Int:=
 if p.d.down=true then(Md p,13)else if p.only=true then(Md p,11)else if maySetsP (els p.sets)=false then(Md p,1)else if 1073741824<=p.last then(Md p,8)
 else match a1y (Md p) a with
  |none=>(Md p,8)
  |some q=>if(H6||decide (6<=a41 (Fu (Md p) q)))=true then a4i (Md p) q else(Md p,8)
def d5z(v:List OldV)(hv:v.length<=4)(K:∀ o∈v,o.v.sets.length<=8)(S:∀ o∈Ch v v.length,OldOk o)(p:Pool)(C:PoolT p)(H6:Bool) :
 Ev tab A6 A5 119 [.agg (C1 p),.bool H6,.own 0 30 0 v.length v.length] [some (v.map Hk)]=some (.tuple [.agg (C1 (Tg p H6 (Ch v v.length)).1),.N (Tg p H6 (Ch v v.length)).2],[some (v.map Hk)]):=by
 refine Bz e3u rfl ?_;have j:=d5x C;have e:=λH=>dc0 p C.b H;have m:=λH=>b5t p.sets (by have:=C.sets.1;omega) (λx W=>⟨by have:=(C.sets.2 x W).1;omega,λn J=>by have:=(C.sets.2 x W).2 n J;omega⟩) H;have a0:=C.last;unfold Tg;obtain⟨t,ht⟩:∃ t,t=Md p:=⟨_,rfl⟩;rw[<-ht]at j e ⊢;by_cases i:p.d.down=true
 ·rw[iP i];unfold C1 at e ⊢;simp only[i]at e ⊢;simp(disch:=try exact dq)only[tx,seval,Qe,e,G6,G4,Ul,f3z]
 rw[iN i];rw[f3p]at i;by_cases k:p.only=true
 ·rw[iP k];unfold C1 at e ⊢;simp only[i,k]at e ⊢;simp(disch:=try exact dq)only[tx,seval,Qe,e,G6,G4,Ul,f3z]
 rw[iN k];rw[f3p]at k;cases U:maySetsP (els p.sets)with
 |false=>
   rw[U]at m;rw[iP rfl];unfold C1 at e ⊢;simp only[i,k]at e ⊢;simp(disch:=try exact dq)only[tx,seval,Qe,e,m,G6,G4,Ul,f3z]
 |true=>
   rw[U]at m;rw[iN (by simp)];by_cases y:1073741824<=p.last
   ·rw[iP y];unfold C1 at e ⊢;simp only[i,k]at e ⊢;simp(disch:=try exact dq)only[tx,seval,Qe,e,m,y,G6,G4,Ul,f3z]
   rw[iN y];have g:=ef6 v hv K S t j.b j.last j.sets H6;cases D:a1y t (Ch v v.length)with
   |none=>
     rw[D]at g;simp only[a6t,a6u,Xc,Xe,f41,f3d,f42]at g;unfold C1 at e g ⊢;simp only[i,k]at e ⊢;simp(disch:=try exact dq)only[tx,seval,Qe,e,m,y,KQ 189 rfl,Am,g,G6,G4,Ul,f3z]
   |some q=>
     rw[D]at g;simp only[a6t,a6u,Xc,Xd,f41,f3d,f42]at g;have h:Dr AV.top=some .top:=rfl;have B:=(c3j D (by have:=Zj v K v.length;omega)).at';have O:List.take q.bl.length (q.bl.map b2w)=q.bl.map b2w:=Gf _ _;have M:List.take q.bl.length (q.at'.map λx=>[PV.N x])=q.at'.map λx=>[PV.N x]:=f0a (by rw[f3z];omega);cases I:(H6||decide (6<=a41 (Fu t q)))with
     |false=>
       rw[I]at g;simp only[];rw[I,iN f2d];unfold Fu C1 at g;unfold C1 at e ⊢;simp only[i,k]at e ⊢;simp(disch:=try exact dq)only[tx,seval,Qe,e,m,y,KQ 189 rfl,Am,g,G6,G4,Ul,Bc,Bb,Uo,Aq,Ax,Jj,am4,Lk,h,O,M,f3z]
     |true=>
       rw[I]at g;simp only[];rw[I,iP rfl];have F:=c3j D (by have:=Zj v K v.length;omega);have Z:=c3l D (by have:=Zj v K v.length;omega) j.sets;have hI:=b3m (c3k D);have Y:=bd6 j.b hI.1 hI.2 q Z;have u:=ef7 (Fu t q) Y j.seat j.last q F;have R:=dm5 (Fu t q) q F;unfold a4i;obtain⟨n,J⟩:∃ n,n=Xk (Fu t q) q:=⟨_,rfl⟩;have E:n.d=t.d:=(by rw[J];rfl);rw[<-J]at u ⊢;generalize Nf (Fu t q) q=L at *;have A:=b4l n (n:=10000) (by rw[E];exact j.dev) om (some L) (by rw[Az];omega) R.2;rw[Az,B5,E]at A;have G:=b7z j.dev L;generalize Im t.d L=w at *;obtain⟨V,X⟩:=w;simp only[]at A G ⊢;have z:=ef9 ⟨V,n.at',n.r,n.s,n.seat,n.last,n.sets,n.only⟩ G om n.last n.r.guid n.seat n.at'.addr n.at'.birth n.at'.sum.a n.at'.sum.b n.at'.sum.c n.at'.sum.d;have T:ubG n=⟨n.last,n.r.guid,n.seat,⟨n.at'.addr,n.at'.birth,⟨n.at'.sum.a,n.at'.sum.b,n.at'.sum.c,n.at'.sum.d⟩⟩⟩:=rfl;rw[<-T]at z;simp only[]at z;generalize Ut V (ubG n)=w at *;obtain⟨d2,b2⟩:=w;simp only[]at z ⊢;simp only[Xd,f1q,f33,f3w]at u;obtain⟨BL,Q⟩:∃ l,l=q.bl++[Qp (Fu t q),Qt (Fu t q) q]:=⟨_,rfl⟩;obtain⟨AL,P⟩:∃ l,l=q.at'++q.rest:=⟨_,rfl⟩;rw[<-Q,<-P]at u;unfold Fu at g u;unfold C1 at e g u A z ⊢;simp only[i,k]at e ⊢;simp only[]at g u A z;cases X with
       |false=>
         rw[iN f2d];unfold Yt;simp(disch:=try exact dq)only[tx,seval,Qe,e,m,y,KQ 189 rfl,KQ 191 rfl,KQ 190 rfl,Dz (f:=191) rfl,Jo (f:=191) rfl,Bl,Bo,f3t,f37,f3x,Am,g,u,A,B,G6,G4,Ul,Bc,Bb,Uo,Aq,Ax,Jj,am4,Lk,h,O,M,f3z]
       |true=>
         rw[iP rfl];unfold Yt;cases b2 with
         |false=>
           rw[iN f2d];simp(disch:=try exact dq)only[tx,seval,Qe,e,m,y,KQ 189 rfl,KQ 191 rfl,KQ 190 rfl,KQ 192 rfl,Dz (f:=191) rfl,Jo (f:=191) rfl,Dz (f:=192) rfl,Jo (f:=192) rfl,Bl,Bo,f3t,f37,f3x,Am,g,u,A,z,B,G6,G4,Ul,Bc,Bb,Uo,Aq,Ax,Jj,am4,Lk,h,O,M,f3z]
         |true=>
           rw[iP rfl];simp(disch:=try exact dq)only[tx,seval,Qe,e,m,y,KQ 189 rfl,KQ 191 rfl,KQ 190 rfl,KQ 192 rfl,Dz (f:=191) rfl,Jo (f:=191) rfl,Dz (f:=192) rfl,Jo (f:=192) rfl,Bl,Bo,f3t,f37,f3x,Am,g,u,A,z,B,G6,G4,Ul,Bc,Bb,Uo,Aq,Ax,Jj,am4,Lk,h,O,M,f3z]
def a16{d:Dev}{p:Ptr}{v:ViewL}(h:Ff d p=some v):maySetsP v.sets=true/\(∀ q∈v.node,q.length=8)/\∀ q∈v.part,q.length=32:=by
 unfold Ff at h;split at h
 ·rename_i q c;split at h
  ·rename_i b;obtain⟨s,_,rfl⟩:=f09.1 h;refine⟨b.2,λl a=>?_,λl a=>?_⟩
   ·simp only[K7,f6a,f62]at a;obtain⟨x,_,rfl⟩:=a;exact(aq1 d x).1
   ·simp only[K7,f6a,f62]at a;obtain⟨x,_,rfl⟩:=a;exact(aq1 d x).2
  ·cases h
 ·cases h
def c98{α:Type}{l:List α}{j:Nat}{d:α}(h:j<l.length):l.getD j d∈l:=by
 rw[ex9,ez2 h];exact f3e _
def c1e{v:ViewL}(b:maySetsP v.sets=true)(d:∀ q∈v.node,q.length=8)(h3:∀ q∈v.part,q.length=32):∀ j,j<=v.sets.length->∀ o∈Jv v j,OldOk o
 |0,_,o,a=>by cases a
 |j+1,hj,o,a=>by
   have e:=c1e b d h3 j om;rw[Jv]at a;split at a
   ·rename_i c;rw[f43,f1t]at a;rcases a with a|rfl
    ·exact e o a
    ·have h8:=a2a b _ (O1 (show j<v.sets.length by omega));exact⟨h8.1,h8.2,d _ (c98 c.1.2),h3 _ (c98 c.2)⟩
   ·exact e o a
def c1d{l:List OldV}(h:∀ o∈l,maySetsP o.v.sets=true/\(∀ q∈o.v.node,q.length=8)/\∀ q∈o.v.part,q.length=32):∀ i,∀ o∈Ch l i,OldOk o
 |0,o,a=>by cases a
 |i+1,o,a=>by
   have b:=c1d h i;rw[Ch]at a;split at a
   ·rename_i x c;rw[f43]at a
    have:=h x (f0q c);rcases a with a|a
    ·exact b o a
    ·exact c1e this.1 this.2.1 this.2.2 _ (f6o _) o a
   ·exact b o a
def Sn(v:ViewL):OldV:=⟨v.r,B8 v.s.held,B8 v.s.one,B8 v.s.two,B8 v.s.kept,v⟩
def S0:Pool:=⟨⟨none,none,0,0,false⟩,Ah,⟨0,0,0,Ah,Ah,Ah,0⟩,⟨none,none,none,none⟩,0,0,none,false⟩
structure PoolC(p:Pool):Prop where
 last:(els p.d.last).length<=1000000
 wait:(els p.d.wait).length<=1000000
 held:(els p.s.held).length<=1000000
 one:(els p.s.one).length<=1000000
 two:(els p.s.two).length<=1000000
 kept:(els p.s.kept).length<=1000000
 sets:(els p.sets).length<=1000000
 files:∀ x∈els p.sets,(els x.files).length<=1000000
def a1d(s:Bytes):Option Uber:=match Iq [49,52,52,49] s with
 |some ([_,a,b,c],r)=>match Ip 1 r with
   |some ([p],_)=>if Js ⟨a,b,c,p⟩=s then some ⟨a,b,c,p⟩else none
   |_=>none
 |_=>none
def am9(o:Option Uber):AV:=match o with
 |some u=>.tuple [.agg [.N u.txg,.N u.guid,.N u.seat,.N u.root.addr,.N u.root.birth,.M u.root.sum.a.toNat,.M u.root.sum.b.toNat,.M u.root.sum.c.toNat,.M u.root.sum.d.toNat],.bool true]
 |none=>.tuple [.agg [.N 0,.N 0,.N 0,.N 0,.N 0,.M 0,.M 0,.M 0,.M 0],.bool false]
def d5o(s:Bytes)(E:s.length<=1000000)(H:AH):K tab A6 A5 66 [.str s] H=some (am9 (a1d s),H):=by
 refine Ae l66 rfl rfl (by unfold am9;split<;>rfl) ?_ H;have d:=λH=>S7 (orc:=A6) (lk:=A5) [49,52,52,49] (by decide) s H;have y:Iq [49,52,52,49] s=if 10<=s.length then some (Bq [1,4,4,1] s,s.drop 10)else none:=rfl;unfold Mg at d;unfold a1d;rw[y]at d ⊢;by_cases h3:10<=s.length
 ·rw[iP h3]at d ⊢;have A:Bq [1,4,4,1] s=[Bk (s.take 1),Bk ((s.drop 1).take 4),Bk ((s.drop 5).take 4),Bk ((s.drop 9).take 1)]:=by simp[Bq,f4o]
  rw[A]at d ⊢;simp only[f5b,f5x,Ea]at d;simp only[];have C:(s.drop 10).length=s.length-10:=f38;have u:s≠[]:=λh=>by rw[h]at h3;simp at h3
  generalize Bk ((s.drop 9).take 1)=c at *;generalize Bk ((s.drop 5).take 4)=b at *;generalize Bk ((s.drop 1).take 4)=a at *;generalize Bk (s.take 1)=z at *;generalize s.drop 10=r at *;have e:=λH=>a5u (orc:=A6) (lk:=A5) r om 1 (by decide) H;unfold Tj at e;rw[show(1:Int).toNat=1 from rfl]at e;cases v:Ip 1 r with
  |none=>
    rw[v]at e;simp(disch:=try exact dq)only[tx,seval,Vq,d,e,Gv];rfl
  |some q=>
    obtain⟨l,w⟩:=q;rw[v]at e;obtain⟨D,_,B⟩:=a5t v;obtain⟨p,rfl⟩:∃ p,l=[p]:=by
     match l,B with
     |[p],_=>exact⟨p,rfl⟩
    simp only[f5b,f5x,Al]at e ⊢;obtain⟨i,j,⟨k,m,n,o⟩⟩:=p;have g:=λH=>b0w (orc:=A6) (lk:=A5) a b c i j k m n o H;have x:=λH=>b9c a b c i j k m n o H;cases t:mayUber ⟨a,b,c,⟨i,j,⟨k,m,n,o⟩⟩⟩with
    |false=>
      have f:Js ⟨a,b,c,⟨i,j,⟨k,m,n,o⟩⟩⟩≠s:=(by unfold Js;rw[t];exact λh=>u h.symm);rw[iN f];rw[t]at g;simp(disch:=try exact dq)only[tx,seval,Vq,d,e,g,Gv];rfl
    |true=>
      rw[t]at g;by_cases f:Js ⟨a,b,c,⟨i,j,⟨k,m,n,o⟩⟩⟩=s
      ·simp(disch:=try exact dq)only[tx,seval,Vq,d,e,g,x,f,Gv];rfl
      ·rw[iN f];simp(disch:=try exact dq)only[tx,seval,Vq,d,e,g,x,f,Gv];rfl
 ·rw[iN h3]at d ⊢;simp(disch:=try exact dq)only[tx,seval,Vq,d];rfl
def a5v(s:Bytes):Option (Int×Int):=match Iq [49,52,50] s with
 |some ([_,a,b],_)=>if K3 a b=s then some (a,b)else none
 |_=>none
def a5p(o:Option (Int×Int)):AV:=match o with
 |some (a,b)=>.tuple [.N a,.N b,.bool true]
 |none=>.tuple [.N 0,.N 0,.bool false]
def d6y(s:Bytes)(h:s.length<=1000000)(H:AH):K tab A6 A5 102 [.str s] H=some (a5p (a5v s),H):=by
 refine Ae e48 rfl rfl (by unfold a5p;split<;>rfl) ?_ H;have c:=λH=>S7 (orc:=A6) (lk:=A5) [49,52,50] (by decide) s H;have f:Iq [49,52,50] s=if 7<=s.length then some (Bq [1,4,2] s,s.drop 7)else none:=rfl;unfold Mg at c;unfold a5v;rw[f]at c ⊢;by_cases h3:7<=s.length
 ·rw[iP h3]at c ⊢;have g:Bq [1,4,2] s=[Bk (s.take 1),Bk ((s.drop 1).take 4),Bk ((s.drop 5).take 2)]:=by simp[Bq,f4o]
  rw[g]at c ⊢;simp only[f5b,f5x,Ea]at c;simp only[];generalize Bk ((s.drop 5).take 2)=b at *;generalize Bk ((s.drop 1).take 4)=a at *;generalize Bk (s.take 1)=z at *;have e:=λH=>em6 a b H;by_cases d:K3 a b=s
  ·simp(disch:=try exact dq)only[tx,seval,a0l,c,e,d,Gv];rfl
  ·rw[iN d];simp(disch:=try exact dq)only[tx,seval,a0l,c,e,d,Gv];rfl
 ·rw[iN h3]at c ⊢;simp(disch:=try exact dq)only[tx,seval,a0l,c];rfl
def cn9(d:Dev)(k:Nat):Option Int:=match Gg d (Fr (Fd d) (k:Int))with
 |none=>none
 |some s=>match a5v s with
   |some (g,n)=>if n=Fd d then some g else none
   |none=>none
def a43(d:Dev)(j:Nat):Nat->Option Int
 |0=>none
 |n+1=>match cn9 d j with
   |some g=>some g
   |none=>a43 d (j+1) n
def a42(d:Dev):Option Int:=a43 d 0 4
def a1n(d:Dev)(g:Int)(k s:Nat):Option Uber:=match a1d ((Gg d (Px (Fd d) (k:Int) (s:Int))).getD [])with
 |some u=>if u.guid=g/\u.seat=(s:Int)then some u else none
 |none=>none
def Qk(l:List Uber):Option Uber->List Uber
 |some u=>if l.any (λv=>decide (v.txg=u.txg))=true then l else l++[u]
 |none=>l
def Py(d:Dev)(g:Int)(k:Nat)(l:List Uber):Nat->List Uber
 |0=>l
 |s+1=>Qk (Py d g k l s) (a1n d g k s)
def L4(d:Dev)(g:Int):Nat->List Uber
 |0=>[]
 |k+1=>Py d g k (L4 d g k) 6
def R5(x:Uber):List Uber->List Uber
 |[]=>[x]
 |y::l=>if y.txg<=x.txg then x::y::l else y::R5 x l
def Sa(l:List Uber):List Uber:=l.foldr R5 []
def Wy(d:Dev):List Uber:=match a42 d with
 |some g=>Sa (L4 d g 4)
 |none=>[]
def Hu(look:Ptr->Option ViewL):List Uber->Option (Uber×ViewL)
 |[]=>none
 |u::l=>match look u.root with
   |some v=>if v.r.guid=u.guid/\v.r.txg=u.txg then some (u,v)else Hu look l
   |none=>Hu look l
def G1(v:ViewL):Space:=⟨B8 v.s.held,B8 v.s.one,B8 v.s.two,B8 v.s.kept⟩
def J1:Space:=⟨none,none,none,none⟩
def Zg(d:Dev)(a:Int)(u:Uber)(v:ViewL)(s:Space)(only:Bool):Pool:=⟨twD d,u.root,v.r,s,u.seat,a,some v.sets,only⟩
def Wd(d:Dev):Pool:=⟨twD d,Ah,⟨0,0,0,Ah,Ah,Ah,0⟩,J1,0,0,none,false⟩
def b59(s:Space):Space:=⟨B8 (Dk (els s.held) (els s.kept)),B8 (Br (els s.one) (els s.kept)),B8 (Br (els s.two) (els s.kept)),none⟩
def a4z(d:Dev)(a:Int)(u:Uber)(v k:ViewL):Pool:=⟨twD d,u.root,⟨v.r.txg,v.r.next,v.r.guid,v.r.table,v.r.space,Ah,0⟩,b59 (G1 v),u.seat,a,some k.sets,false⟩
def a2l(d:Dev)(a:Int)(u:Uber)(v:ViewL):Pool×Int:=
 if v.r.kept=Ah then(S0,2)else match Ff d v.r.kept with
  |none=>(S0,12)
  |some k=>Tg (a4z d a u v k) true (Ch [Sn v,Sn k] 2)
def Q9(d:Dev)(a:Int)(p:Ptr):Option ViewL:=if a=3 then Ln d p else Ff d p
def J3(d:Dev)(b:Int)(l:List Uber)(a:Int):Pool×Int:=
 match Hu (Q9 d a) (if a=0 then l.take 1 else l)with
 |none=>(S0,if a=0 then 12 else 14)
 |some (u,v)=>if a=2 then a2l d b u v else(Zg d b u v (if a=3 then J1 else G1 v) (decide (a=3)),0)
def L6(d:Dev)(a:Int):Pool×Int:=
 if a<0\/3<a then(Wd d,1)else if d.down=true then(Wd d,13)else match Wy d with
  |[]=>(Wd d,14)
  |r::l=>
    let q:=J3 d r.txg (r::l) a
    if q.2=0 then q else(if q.2=13 then Yt (Wd d) q.1.d else Wd d,q.2)
def Vz{look:Ptr->Option ViewL}:∀ {l:List Uber} {u:Uber} {v:ViewL},Hu look l=some (u,v)->look u.root=some v/\u∈l
 |[],_,_,h=>by cases h
 |a::l,u,v,h=>by
   rw[Hu]at h;split at h
   ·rename_i w b;split at h
    ·cases h;exact⟨b,f1u ..⟩
    ·exact⟨(Vz h).1,f0y _ (Vz h).2⟩
   ·exact⟨(Vz h).1,f0y _ (Vz h).2⟩
def d89(l m:Sl Bytes)(p:(els l).length<=1000000)(q:(els m).length<=1000000)(H:AH):K tab A6 A5 30 [A4 B4 l,A4 B4 m] H=some (.bool (decide (els l=els m)),H):=by
 refine Ae l30 rfl (by simp[Aa,Ab,Ai]) rfl ?_ H;by_cases c:((els l).length:Int)=(els m).length
 ·simp(disch:=try exact dq)only[tx,seval,g30,c];generalize k:Aj _ _ _=r;refine B6 k (els l).length (λj=>[A4 B4 l,A4 B4 m,U,.N j])
   (λj=>[]) (λj=>(els l).take j=(els m).take j) ?_ ?_ ?_ ?_ ?_
  ·rfl
  ·rfl
  ·rfl
  ·intro j i hI;have d:((j:Int)<((els l).length:Int)):=om;have f:((j:Int)<((els m).length:Int)):=om;rw[Et i,Et (show j<(els m).length by omega),hI];have a:(els l).getD j df≠(els m).getD j df->els l≠els m:=λh e=>h (by rw[e]);generalize n:(els l).getD j df=x at *;generalize o:(els m).getD j df=y at *;simp(disch:=try exact dq)only[tx,seval,d,f,Ad,B4,f52,n,o];by_cases b:x=y
   ·subst b;exact⟨λh=>absurd h (by simp),λ_=>⟨rfl,rfl⟩⟩
   ·have g:=a b;exact⟨λ_=>by simp[g],λh=>(h (by simp[b])).elim⟩
  ·intro hI;rw[f3m,f0a om]at hI;simp(disch:=try exact dq)only[tx,seval,f5q,c];simp[hI]
 ·have a:els l≠els m:=λe=>c (by rw[e]);simp(disch:=try exact dq)only[tx,seval,g30,c];simp[a]
def d8c(l m:Sl (Int×Bytes))(v:(els l).length<=1000000)(w:(els m).length<=1000000)(H:AH):K tab A6 A5 31 [A4 Ay l,A4 Ay m] H=some (.bool (decide (els l=els m)),H):=by
 refine Ae l31 rfl (by simp[Aa,Ab,Ai]) rfl ?_ H;by_cases c:((els l).length:Int)=(els m).length
 ·simp(disch:=try exact dq)only[tx,seval,g31,c];generalize p:Aj _ _ _=r;refine B6 p (els l).length (λj=>[A4 Ay l,A4 Ay m,U,.N j])
   (λj=>[]) (λj=>(els l).take j=(els m).take j) ?_ ?_ ?_ ?_ ?_
  ·rfl
  ·rfl
  ·rfl
  ·intro j o hI;have i:((j:Int)<((els l).length:Int)):=om;have k:((j:Int)<((els m).length:Int)):=om;rw[Et o,Et (show j<(els m).length by omega),hI];have d:(els l).getD j df≠(els m).getD j df->els l≠els m:=λh e=>h (by rw[e]);generalize q:(els l).getD j df=x at *;generalize s:(els m).getD j df=y at *;simp(disch:=try exact dq)only[tx,seval,i,k,Ad,Ay,f52,q,s];have g:(decide (x.1=y.1)&&decide (x.2=y.2))=decide (x=y):=by
    obtain⟨a,b⟩:=x;obtain⟨t,u⟩:=y;rw[f4d];simp only[f32,f2f,f5j]
   rw[g];by_cases f:x=y
   ·subst f;exact⟨λh=>absurd h (by simp),λ_=>⟨rfl,rfl⟩⟩
   ·have n:=d f;exact⟨λ_=>by simp[n],λh=>(h (by simp[f])).elim⟩
  ·intro hI;rw[f3m,f0a om]at hI;simp(disch:=try exact dq)only[tx,seval,f5q,c];simp[hI]
 ·have d:els l≠els m:=λe=>c (by rw[e]);simp(disch:=try exact dq)only[tx,seval,g31,c];simp[d]
def ao8(d e:Dev):Bool:=decide (els d.last=els e.last)&&decide (els d.wait=els e.wait)&&decide (d.lies=e.lies)&&decide (d.arm=e.arm)&&(d.down==e.down)
def a63{d e:Dev}(h:twD d=twD e):ao8 d e=true:=by
 unfold twD at h;simp only[Dev.mk.injEq,f2h]at h;obtain⟨a,b,c,f,g⟩:=h;unfold ao8;rw[a,b,c,f,g];simp
def a64(d e:Dev)(a:(els d.last).length<=1000000)(b:(els d.wait).length<=1000000)(h3:(els e.last).length<=1000000)(h4:(els e.wait).length<=1000000)(H:AH) :
 K tab A6 A5 9 [.agg [A4 B4 d.last,A4 Ay d.wait,.N d.lies,.N d.arm,.bool d.down],.agg [A4 B4 e.last,A4 Ay e.wait,.N e.lies,.N e.arm,.bool e.down]] H=some (.bool (ao8 d e),H):=by
 refine Ae l9 rfl (by simp[Aa,Ab,Ai]) rfl ?_ H;have a1:=λH=>d89 d.last e.last a h3 H;have a2:=λH=>d8c d.wait e.wait b h4 H;unfold ao8;simp(disch:=try exact dq)only[tx,seval,g9,a1,a2];simp only[f1e]
def do5{s:LO}(h:mayNodes s=true):∀ y∈s,y.name.length<=8:=by
 unfold mayNodes at h;simp only[f32,f2f]at h;obtain⟨⟨⟨d,c⟩,h3⟩,_⟩:=h;intro y b;cases s with
 |nil=>cases b
 |cons a r=>
   rw[f1g]at c;rw[f19,f4p,f35]at h3;rcases f5h.1 b with rfl|b
   ·rw[c];decide
   ·have:=h3 y b;simp only[f44,f2f]at this;rcases this with rfl|h4
    ·decide
    ·unfold J8 mayName at h4;simp only[f32,f2f]at h4;omega
def do0{l:LD}(h:maySetsP l=true):SetsOk l:=by
 have h8:=a2a h;refine⟨by have:=Xl h;omega,λx b=>⟨by have:=(h8 x b).1;omega,λy c=>?_⟩⟩;unfold maySetsP at h;simp only[f32]at h;have a:=b2a h.1 x b;unfold U3 at a;simp only[f32]at a
 have:=do5 a.1.1.1.2 y c;omega
def bp0:∀ {l:LR} {lo hi:Int},SepR l->(∀ r∈l,lo<=r.a/\r.b<=hi)->l=[]\/2*(l.length:Int)<=hi-lo+1
 |[],_,_,_,_=>.inl rfl
 |r::l,lo,hi,h,hb=>by
   obtain⟨f,e,h3⟩:=h;have g:=hb r (f1u ..);have d:=bp0 (lo:=r.b+1) (hi:=hi) h3 (λq c=>⟨by have:=e q c;omega,(hb q (f0y _ c)).2⟩);right;rw[f33];rcases d with rfl|d
   ·simp only[f3w];omega
   ·omega
def d87{l:LR}{lo hi:Int}(h:SepR l)(e:∀ x,hasR l x=true->lo<=x/\x<hi):∀ r∈l,lo<=r.a/\r.b<=hi:=by
 intro r c;have d:r.a<r.b:=by
  clear e
  induction l with
  |nil=>cases c
  |cons q l g=>
    obtain⟨f,_,h3⟩:=h;rcases f5h.1 c with rfl|c
    ·exact f
    ·exact g h3 c
 have a1:=e r.a (Nz.2 ⟨r,c,f6u _,d⟩);have a2:=e (r.b-1) (Nz.2 ⟨r,c,by omega,by omega⟩);omega
def an0{n:Int}{s:Bytes}{l:LR}{r:Bytes}(h:E9 n s=some (l,r)):SepR l/\∀ x,hasR l x=true->14<=x/\x<254:=by
 unfold E9 at h;split at h
 ·rename_i b;have d:40<=n/\n<=240:=by have:=b.1;unfold Ic at this;simpa using this
  cases h;refine⟨c1m _,λx a=>?_⟩;rw[c8s]at a;simp only[f62,List.mem_filter,f4q,f2f]at a;obtain⟨⟨i,⟨c,_⟩,rfl⟩,_,_⟩:=a;omega
 ·cases h
def d6m{n:Int}{s:Bytes}{v:SpaceL}(h:S6 n s=some v):(SepR v.held/\∀ x,hasR v.held x=true->14<=x/\x<254)/\(SepR v.one/\∀ x,hasR v.one x=true->14<=x/\x<254)/\(SepR v.two/\∀ x,hasR v.two x=true->14<=x/\x<254)/\(SepR v.kept/\∀ x,hasR v.kept x=true->14<=x/\x<254):=by
 unfold S6 at h;split at h
 ·rename_i a r d;split at h
  ·rename_i b j f;split at h
   ·rename_i c k g;split at h
    ·rename_i e l i;split at h
     ·obtain rfl:=f4a h;exact⟨an0 d,an0 f,an0 g,an0 i⟩
     ·cases h
    ·cases h
   ·cases h
  ·cases h
 ·cases h
def d57{d:Dev}{p:Ptr}{v:ViewL}(h:Ff d p=some v):(SepR v.s.held/\∀ x,hasR v.s.held x=true->14<=x/\x<254)/\(SepR v.s.one/\∀ x,hasR v.s.one x=true->14<=x/\x<254)/\(SepR v.s.two/\∀ x,hasR v.s.two x=true->14<=x/\x<254)/\(SepR v.s.kept/\∀ x,hasR v.s.kept x=true->14<=x/\x<254):=by
 unfold Ff at h;split at h
 ·rename_i q c;split at h
  ·obtain⟨s,a,rfl⟩:=f09.1 h;obtain⟨t,_,b⟩:=f01.1 a;exact d6m b
  ·cases h
 ·cases h
def b0j{so:Bool->Bool->Bool}(a:so false false=false){l m:LR}(g:∀ x,hasR l x=true->14<=x/\x<254)(h:∀ x,hasR m x=true->14<=x/\x<254):(M8 so l m).length<=500:=by
 have f:=Yu so l m
 have:=bp0 f (d87 (lo:=14) (hi:=254) f (λx d=>by
  rw[Zy a]at d;by_cases b:hasR l x=true
  ·exact g x b
  ·by_cases c:hasR m x=true
   ·exact h x c
   ·rw[f3p]at b c;rw[b,c,a]at d;cases d))
 rcases this with e|e
 ·rw[e];exact f6m _
 ·omega
def d6g{s:Bytes}{u:Uber}(h:a1d s=some u):mayUber u=true:=by
 unfold a1d at h;split at h
 ·rename_i r b;split at h
  ·split at h
   ·rename_i a;cases h;cases c:mayUber _ with
    |true=>rfl
    |false=>
      unfold Js at a;rw[c]at a;rw[<-a]at b;cases b
   ·cases h
  ·cases h
 ·cases h
def d8y{d:Dev}{g:Int}{k s:Nat}{u:Uber}(h:a1n d g k s=some u):mayUber u=true:=by
 unfold a1n at h;split at h
 ·rename_i v a;split at h
  ·cases h;exact d6g a
  ·cases h
 ·cases h
structure UbsOk(l:List Uber):Prop where
 may:∀ u∈l,mayUber u=true
 dif:l.Pairwise λa b=>a.txg≠b.txg
def et0{l:List Uber}(h:UbsOk l)(o:Option Uber)(i:∀ u,o=some u->mayUber u=true):UbsOk (Qk l o):=by
 unfold Qk;split
 ·rename_i u;split
  ·exact h
  ·rename_i g;refine⟨λv c=>?_,?_⟩
   ·rcases f43.1 c with c|c
    ·exact h.may v c
    ·rw[f1t.1 c];exact i u rfl
   ·rw[f0x];refine⟨h.dif,List.pairwise_singleton _ _,λa d b f=>?_⟩;rw[f1t.1 f];intro e;exact g (f3j.2 ⟨a,d,by simpa using e⟩)
 ·exact h
def et1(l:List Uber)(o:Option Uber):(Qk l o).length<=l.length+1:=by
 unfold Qk;split
 ·split
  ·exact Nat.le_succ _
  ·rw[f1q];exact f6o _
 ·exact Nat.le_succ _
def bp2{d:Dev}{g:Int}{k:Nat}{l:List Uber}(h:UbsOk l):∀ s,UbsOk (Py d g k l s)
 |0=>h
 |s+1=>et0 (bp2 h s) _ λ_ a=>d8y a
def b27(d:Dev)(g:Int)(k:Nat)(l:List Uber):∀ s,(Py d g k l s).length<=l.length+s
 |0=>f6o _
 |s+1=>by have:=et1 (Py d g k l s) (a1n d g k s);have:=b27 d g k l s;rw[Py];omega
def au2(d:Dev)(g:Int):∀ k,UbsOk (L4 d g k)
 |0=>⟨λ_ h=>(by cases h),List.Pairwise.nil⟩
 |k+1=>bp2 (au2 d g k) 6
def au3(d:Dev)(g:Int):∀ k,(L4 d g k).length<=6*k
 |0=>f6o _
 |k+1=>by have:=b27 d g k (L4 d g k) 6;have:=au3 d g k;rw[L4];omega
def c7x{x u:Uber}:∀ {l:List Uber},u∈R5 x l->u=x\/u∈l
 |[],h=>by rw[R5,f1t]at h;exact .inl h
 |y::l,h=>by
   rw[R5]at h;split at h
   ·exact f5h.1 h
   ·rcases f5h.1 h with rfl|h
    ·exact .inr (f1u ..)
    ·rcases c7x h with h|h
     ·exact .inl h
     ·exact .inr (f0y _ h)
def bm0{u:Uber}:∀ {l:List Uber},u∈Sa l->u∈l
 |[],h=>h
 |x::l,h=>by
   rcases c7x (show u∈R5 x (Sa l)from h)with rfl|h
   ·exact f1u ..
   ·exact f0y _ (bm0 h)
def c7y(x:Uber):∀ l:List Uber,(R5 x l).length=l.length+1
 |[]=>rfl
 |y::l=>by
   rw[R5];split
   ·rfl
   ·rw[f33,c7y x l];rfl
def b1u:∀ l:List Uber,(Sa l).length=l.length
 |[]=>rfl
 |x::l=>by show(R5 x (Sa l)).length=_;rw[c7y,b1u l];rfl
def d8u{d:Dev}:∀ u∈Wy d,mayUber u=true:=by
 intro u a;unfold Wy at a;split at a
 ·exact(au2 d _ 4).may u (bm0 a)
 ·cases a
def d8v(d:Dev):(Wy d).length<=24:=by
 unfold Wy;split
 ·rw[b1u];exact au3 d _ 4
 ·exact f6m _
def b3k{u:Uber}(h:mayUber u=true):1<=u.txg/\u.txg<=1073741824/\0<=u.seat/\u.seat<6:=by
 unfold mayUber at h;simp only[f32,f2f]at h;omega
def av8(d:Dev):AV:=match a42 d with
 |some g=>.tuple [.N g,.N (Fd d),.bool true]
 |none=>.tuple [.N 0,.N 0,.bool false]
def eh2(d:Dev)(k:DevOk d)(H:AH):K tab A6 A5 63 [.agg [A4 B4 d.last,A4 Ay d.wait,.N d.lies,.N d.arm,.bool d.down]] H=some (av8 d,H):=by
 refine Ae l63 rfl (by simp[Aa,Ab,Ai]) (by unfold av8;split<;>rfl) ?_ H;have w:=k.last;have x:=k.wait;have l:Fd d=((els d.last).length:Int)-28:=rfl;unfold av8 a42;simp(disch:=try exact dq)only[tx,seval,g63,f52];rw[<-l];generalize m:a43 d 0 4=F;generalize u:Aj _ _ _=r;refine B6 u 4 (λj=>[U,.ptr 0 0 0 1,U,U,U,.N (Fd d),U,U,U,U,U,U,.N j,U,U,U,U,U,U,U,U]) (λ_=>_) (λj=>F=a43 d j (4-j)) ?_ rfl ?_ ?_ ?_
 ·rfl
 ·exact m.symm
 ·intro j v b;clear m;have e:((j:Int)<4):=om;rw[show 4-j=(3-j)+1 by omega,a43]at b;have h:=λH=>ct7 (orc:=A6) (lk:=A5) (Fd d) (j:Int) H;have t:=λi H=>b5x d.last d.wait d.lies d.arm d.down i om om H;have h3:=λs o H=>d6y s o H;unfold cn9 at b;generalize Fr (Fd d) (j:Int)=a at *;have h4:=t a;rw[show(⟨d.last,d.wait,d.lies,d.arm,d.down⟩:Dev)=d from rfl]at h4;cases f:Gg d a with
  |none=>
    rw[f]at h4 b;have h5:=h3 [] (by simp);rw[show a5v []=none from rfl]at h5;simp only[a5p]at h5;simp only[f3r,f1m]at h4;simp only[]at b;simp(disch:=try exact dq)only[tx,seval,e,h,h4,h5,f52];exact⟨rfl,b⟩
  |some s=>
    rw[f]at h4 b;have o:s.length<=256:=b2l k f;have h5:=h3 s om;simp only[f31,f1n]at h4;simp only[]at b;cases p:a5v s with
    |none=>
      rw[p]at h5 b;simp only[a5p]at h5;simp only[]at b;simp(disch:=try exact dq)only[tx,seval,e,h,h4,h5,f52];exact⟨rfl,b⟩
    |some q=>
      obtain⟨g,n⟩:=q;rw[p]at h5 b;simp only[a5p]at h5;simp only[]at b;by_cases c:n=Fd d
      ·rw[iP c]at b;simp only[]at b;rw[b];simp(disch:=try exact dq)only[tx,seval,e,h,h4,h5,c,f52]
      ·rw[iN c]at b;simp only[]at b;simp(disch:=try exact dq)only[tx,seval,e,h,h4,h5,c,f52];exact⟨rfl,b⟩
 ·intro b;rw[b,show 4-4=0 from rfl,a43];simp(disch:=try exact dq)only[tx,seval,f5q]
def Ds(u:Uber):LP:=[.N u.txg,.N u.guid,.N u.seat,.N u.root.addr,.N u.root.birth,.M u.root.sum.a.toNat,.M u.root.sum.b.toNat,.M u.root.sum.c.toNat,.M u.root.sum.d.toNat]
def C8(u:Uber):LA:=[.N u.txg,.N u.guid,.N u.seat,.N u.root.addr,.N u.root.birth,.M u.root.sum.a.toNat,.M u.root.sum.b.toNat,.M u.root.sum.c.toNat,.M u.root.sum.d.toNat]
def X7(l:List Uber):refsO (some (l.map C8))=[]:=J2 l _ λ_=>rfl
def X6(τ:Nat->Option Nat)(l:List Uber):renO τ (l.map C8)=l.map C8:=Pz τ l _ λ_=>rfl
def d69(l:List Uber):Cx (l.map C8)=some (l.map Ds):=Ka _ _ (λ_=>rfl) l
def b8m(n:Nat)(l:List Uber)(H:AH):(l.map C8).map (λe=>e.map (Db H n))=l.map Ds:=by
 rw[f6a];exact f16 λ_ _=>by cases n<;>rfl
def d8w(x u:Uber)(H:AH):K tab A6 A5 67 [.agg (C8 x),.fptr (Ds u)] H=some (.bool (decide (x.txg=u.txg)),H):=by
 refine Ae l67 rfl rfl rfl ?_ H;unfold C8 Ds;simp(disch:=try exact dq)only[tx,seval,g67]
def e4w(l:Sl Uber)(i:(els l).length<=1000000)(u:Uber)(H:AH):K tab A6 A5 109 [A4 Ds l,.fn (.func 67) [] [.fptr (Ds u)]] H=some (.N (Ec (λv:Uber=>decide (v.txg=u.txg)) (els l)),H):=by
 refine Ae e42 rfl (by simp[Aa,Ab,Ai]) rfl ?_ H;simp(disch:=try exact dq)only[tx,seval,af3];generalize h:Aj _ _ _=r;refine B6 h (els l).length (λj=>[A4 Ds l,.fn (.func 67) [] [.fptr (Ds u)],U,U,.N (els l).length,.N j,U])
  (λj=>[]) (λj=>Ec (λv:Uber=>decide (v.txg=u.txg)) (els l)=if Ec (λv:Uber=>decide (v.txg=u.txg)) ((els l).drop j)<0 then -1 else j+Ec (λv:Uber=>decide (v.txg=u.txg)) ((els l).drop j)) ?_ ?_ ?_ ?_ ?_
 ·rfl
 ·rfl
 ·have:=Ub (λv:Uber=>decide (v.txg=u.txg)) (els l);rw[f4p];split<;>omega
 ·intro j g hI;have c:((j:Int)<((els l).length:Int)):=om;rw[F7 g,Ec]at hI;have b:=λH=>d8w ((els l).getD j df) u H;have f:=Ub (λv:Uber=>decide (v.txg=u.txg)) ((els l).drop (j+1));cases d:decide (((els l).getD j df).txg=u.txg)with
  |true=>
    rw[d]at b;simp only[d,if_true]at hI;simp only[C8,Ds]at b;simp(disch:=try exact dq)only[tx,seval,c,f52,Ad,Ds,b];rw[iN om,f6k]at hI;rw[hI]
  |false=>
    rw[d]at b;simp only[d,f1k,if_false]at hI;simp only[C8,Ds]at b;simp(disch:=try exact dq)only[tx,seval,c,f52,Ad,Ds,b];refine⟨rfl,?_⟩;rw[hI];generalize Ec _ (List.drop (j+1) (els l))=a at *;by_cases e:a<0
    ·simp[e]
    ·rw[iN e,iN e,iN om];omega
 ·intro hI;rw[f3n,Ec,iP om]at hI;simp(disch:=try exact dq)only[tx,seval,f5q,hI]
def em5(l:Sl Uber)(a:(els l).length<=1000000)(u:Uber)(H:AH):K tab A6 A5 68 [A4 Ds l,.fn (.func 67) [] [.fptr (Ds u)]] H=some (.bool ((els l).any λv=>decide (v.txg=u.txg)),H):=by
 refine Ae l68 rfl (by simp[Aa,Ab,Ai]) rfl ?_ H;have h:=λH=>e4w l a u H;rw[<-au8];simp(disch:=try exact dq)only[tx,seval,g68,h]
def b8f(r sz o l t:Nat)(f:Fn)(a i j b:Nat)(H:AH):K tab A6 A5 68 [.own r sz o l t,.fn f [] [.ptr a i j b]] H=Gr tab A6 A5 68 [.own r sz o l t,.fn f [] [.ptr a i j b]] H (Aa (B9 H [.own r sz o l t,.fn f [] [.ptr a i j b]])) (K tab A6 A5 68 (B9 H [.own r sz o l t,.fn f [] [.ptr a i j b]]) H):=Hy _ _ _ rfl _ _
def d8n{u:Uber}(h:mayUber u=true):V5 (C8 u)=true:=by
 have:=b3k h;unfold V5 C8;simp only[f32,f2f];omega
def c7t(x:Uber):∀ l:List Uber,Ua (C8 x) (l.map C8)=(R5 x l).map C8
 |[]=>rfl
 |y::l=>by
   rw[f5b,Ua,R5];show(if y.txg<=x.txg then _ else _)=_;split
   ·rfl
   ·rw[c7t x l];rfl
def bl7:∀ l:List Uber,sortU (l.map C8)=(Sa l).map C8
 |[]=>rfl
 |x::l=>by
   show Ua (C8 x) (sortU (l.map C8))=(R5 x (Sa l)).map C8;rw[bl7 l,c7t]
def ci6:∀ {l:List Uber},l.Pairwise (λa b=>a.txg≠b.txg)->a4j (l.map C8)=true
 |[],_=>rfl
 |x::l,h=>by
   obtain⟨c,d⟩:=f2a.1 h;rw[f5b,a4j,ci6 d,f5f,f35];intro y g;obtain⟨v,f,rfl⟩:=f62.1 g;exact f51 λe=>c v f e.symm
def d7n(l:List Uber)(h:UbsOk l)(d:l.length<=100000):Ev tab A6 A5 69 [.own 0 9 0 l.length l.length,.fn (.func 70) [] []] [some (l.map C8)]=some (.tuple [],[some ((Sa l).map C8)]):=by
 refine Yq dl1 ?_;rw[de0];have a:(l.map C8).all V5=true:=by
  rw[f35];intro e c;obtain⟨u,f,rfl⟩:=f62.1 c;exact d8n (h.may u f)
 have b:=ci6 h.dif;rw[<-bl7];show(if _ then _ else _)=_;rw[iP ⟨rfl,rfl,rfl,by rw[f3z],by rw[f3z];exact d,a,b⟩]
def Ts(d:Dev):Sl Uber:=match a42 d with
 |some g=>some (Sa (L4 d g 4))
 |none=>none
def d8s(d:Dev)(O:DevOk d)(H:AH):K tab A6 A5 27 [.agg [A4 B4 d.last,A4 Ay d.wait,.N d.lies,.N d.arm,.bool d.down]] H=some (A4 Ds (Ts d),H):=by
 refine Ae l27 rfl (by simp[Aa,Ab,Ai]) (Ai _ _) ?_ H;have o:=λH=>eh2 d O H;have hl:=O.last;have hw:=O.wait;unfold av8 at o;unfold Ts;cases W:a42 d with
 |none=>
   rw[W]at o;simp only[]at o;simp(disch:=try exact dq)only[tx,seval,g27,o]
 |some g=>
   rw[W]at o;simp only[]at o;simp(disch:=try exact dq)only[tx,seval,g27,o];generalize hr:Aj _ _ _=r;refine B6 hr 4 (λk=>[U,.ptr 0 0 0 1,U,.N g,.N (Fd d),U,.own 1 9 0 (L4 d g k).length (L4 d g k).length,U,U,U,U,U,U,U,U,U,U,U,.N k,U,U,U,U,U,U,U,U])
    (λk=>[some [[A4 B4 d.last,A4 Ay d.wait,.N d.lies,.N d.arm,.bool d.down]],some ((L4 d g k).map C8)]) (λ_=>True) ?_ ?_ trivial ?_ ?_
   ·rfl
   ·rfl
   ·intro k hk _;have R:((k:Int)<4):=om;have a0:=au3 d g k;have a1:=au2 d g k;have e:L4 d g (k+1)=Py d g k (L4 d g k) 6:=rfl;rw[e];generalize L4 d g k=l at *;simp(disch:=try exact dq)only[tx,seval,R,X7,X6,f3z];generalize T:Aj _ _ _=r2;refine Hr (Q:=λr=>Rd _ _ _ _ (G3 _ _ (Bm _ _ (Bi _ (Bi _ r))))) T 6 (λs=>[U,.ptr 0 0 0 1,U,.N g,.N (Fd d),U,.own 1 9 0 (Py d g k l s).length (Py d g k l s).length,.N k,U,U,U,U,U,U,U,U,U,U,.N k,U,.N s,U,U,U,U,U,U])
     (λs=>[some [[A4 B4 d.last,A4 Ay d.wait,.N d.lies,.N d.arm,.bool d.down]],some ((Py d g k l s).map C8)]) (λ_=>True) ?_ ?_ trivial ?_ ?_
    ·rfl
    ·rfl
    ·intro s hs _;have f:((s:Int)<6):=om;have X:=b27 d g k l s;have Z:Py d g k l (s+1)=Qk (Py d g k l s) (a1n d g k s):=rfl;rw[Z];generalize Py d g k l s=m at *;have x:=λH=>bm9 (Fd d) (k:Int) (s:Int) om H;have h2:=λi H=>b5x d.last d.wait d.lies d.arm d.down i om om H;unfold a1n;generalize Px (Fd d) (k:Int) (s:Int)=a at *;have h3:=h2 a;rw[show(⟨d.last,d.wait,d.lies,d.arm,d.down⟩:Dev)=d from rfl]at h3;have V:((Gg d a).getD []).length<=1000000:=by
      cases hq:Gg d a with
      |none=>exact f6m _
      |some q=>have:=b2l O hq;show q.length<=_;omega
     generalize (Gg d a).getD []=I at *;generalize (Gg d a).isSome=bb at *;have h4:=λH=>d5o I V H;cases Y:a1d I with
     |none=>
       rw[Y]at h4;simp only[am9]at h4;simp only[Qk];simp(disch:=try exact dq)only[tx,seval,f,x,h3,h4,X7,X6,f3z,f52];rfl
     |some u=>
       rw[Y]at h4;simp only[am9]at h4;simp only[];have n:=λH=>em5 (some m) (by rw[Az];omega) u H;rw[Az,B5]at n;have j:m.map C8++[C8 u]=(m++[u]).map C8:=(by rw[f4c];rfl);simp only[Ds]at n;have y:C8 u=[.N u.txg,.N u.guid,.N u.seat,.N u.root.addr,.N u.root.birth,.M u.root.sum.a.toNat,.M u.root.sum.b.toNat,.M u.root.sum.c.toNat,.M u.root.sum.d.toNat]:=rfl;rw[y]at j;clear y;by_cases p:u.guid=g
       ·by_cases w:u.seat=(s:Int)
        ·rw[iP ⟨p,w⟩];obtain⟨t,J,us,⟨F,G,⟨B,C,D,E⟩⟩⟩:=u;simp only[]at p w h4 n j;subst p;subst w;have A:Cd [some [[A4 B4 d.last,A4 Ay d.wait,.N d.lies,.N d.arm,.bool d.down]],some (m.map C8),none,none,none,none,none,none,none,none,none,none,none,none,some [[.N t,.N J,.N (s:Int),.N F,.N G,.M B.toNat,.M C.toNat,.M D.toNat,.M E.toNat]]] (.fn (.func 67) [] [.ptr 14 0 0 1])=.fn (.func 67) [] [.fptr [.N t,.N J,.N (s:Int),.N F,.N G,.M B.toNat,.M C.toNat,.M D.toNat,.M E.toNat]]:=rfl;cases L:(m.any λv=>decide (v.txg=t))with
         |true=>
           rw[L]at n;have P:Qk m (some ⟨t,J,(s:Int),⟨F,G,⟨B,C,D,E⟩⟩⟩)=m:=(by unfold Qk;simp only[];rw[iP L]);rw[P];simp(disch:=try exact dq)only[tx,seval,f,x,h3,h4,b8f,b8m,A,n,X7,X6,f3z,f52];rfl
         |false=>
           rw[L]at n;have P:Qk m (some ⟨t,J,(s:Int),⟨F,G,⟨B,C,D,E⟩⟩⟩)=m++[⟨t,J,(s:Int),⟨F,G,⟨B,C,D,E⟩⟩⟩]:=(by unfold Qk;simp only[];rw[iN (by rw[L];exact f2d)]);rw[P];simp(disch:=try exact dq)only[tx,seval,f,x,h3,h4,b8f,b8m,A,n,j,X7,X6,f3z,f1q,f33,f3w,f52];rfl
        ·rw[iN (λh=>w h.2)];simp only[Qk];simp(disch:=try exact dq)only[tx,seval,f,x,h3,h4,p,w,X7,X6,f3z,f52];rfl
       ·rw[iN (λh=>p h.1)];simp only[Qk];simp(disch:=try exact dq)only[tx,seval,f,x,h3,h4,p,X7,X6,f3z,f52];rfl
    ·intro _;simp(disch:=try exact dq)only[tx,seval,f5q,X7,X6,f3z,f52];rfl
   ·intro _;have hE:=d7n (L4 d g 4) (au2 d g 4) (by have:=au3 d g 4;omega);have z:=b1u (L4 d g 4);generalize L4 d g 4=l at *;have S:List.take l.length ((Sa l).map Ds)=(Sa l).map Ds:=f0a (by rw[f3z,z];exact f6o _);simp(disch:=try exact dq)only[tx,seval,f5q,KQ 69 rfl,Am,hE,X7,X6,d69,S,f3z,z]
    try rfl
def d88(p q:Pool)(a:p.r.next=q.r.next)(b:p.r.guid=q.r.guid)(h3:p.sets=q.sets)(h4:p.only=q.only)(e:(els p.sets).length<=1000000)(c:∀ d∈els p.sets,(els d.files).length<=1000000)(H:AH) :
 K tab A6 A5 45 [.agg (C1 p),.agg (C1 q)] H=some (.bool true,H):=by
 refine Ae l45 rfl (by simp only[Aa,Ab,Yk,f5m]) rfl ?_ H;have f:=λH=>d8b p.sets e c H;unfold C1;simp only[<-a,<-b,<-h3,<-h4];simp(disch:=try exact dq)only[tx,seval,g45,f,eq_self,f6s]
 try simp
def d8d(p q:Pool)(l:twD p.d=twD q.d)(k:p.at'=q.at')(a:p.r=q.r)(v:p.s.n=q.s.n)(m:p.seat=q.seat)(t:p.last=q.last)(e:p.sets=q.sets)(c:p.only=q.only)
 (h:(els p.d.last).length<=1000000) (b2:(els p.d.wait).length<=1000000) (i:(els q.d.last).length<=1000000) (j:(els q.d.wait).length<=1000000) (w:SpOk p.s) (x:SpOk q.s) (u:(els p.sets).length<=1000000) (o:∀ d∈els p.sets,(els d.files).length<=1000000) (H:AH) :
 K tab A6 A5 17 [.agg (C1 p),.agg (C1 q)] H=some (.bool true,H):=by
 refine Ae l17 rfl (by simp only[Aa,Ab,Yk,f5m]) rfl ?_ H;have f:=λH=>a64 p.d q.d h b2 i j H;have g:=λH=>d8a p.s q.s w x H;have b:=λH=>d88 p q (by rw[a]) (by rw[a]) e c u o H;rw[a63 l]at f;rw[f51 v]at g;unfold C1 at b ⊢;simp only[<-k,<-a,<-m,<-t,<-e,<-c]at b ⊢;simp(disch:=try exact dq)only[tx,seval,g17,f,g,b,eq_self,f6s]
 try simp
def E7(d:Dev)(l:Sl Uber)(a:Int):LA:=[A4 B4 d.last,A4 Ay d.wait,.N d.lies,.N d.arm,.bool d.down,A4 Ds l,.N a]
def b6p(d:Dev)(l:Sl Uber)(a:Int):Aa (E7 d l a)=true:=by simp[E7,Aa,Ab,Ai]
def W2(u:Uber)(r:Root)(s:Space)(t:Sl Dset)(b:Sl Ptr)(c e:Sl LT):LA:=C8 u++Cm r (A4 A8 s.held) (A4 A8 s.one) (A4 A8 s.two) (A4 A8 s.kept) (A4 Ao t) (A4 Al b) (A4 Lu c) (A4 Lu e)
def eq9(u:Uber)(r:Root)(s:Space)(t:Sl Dset)(b:Sl Ptr)(c e:Sl LT):Aa (W2 u r s t b c e)=true:=by simp[W2,C8,Cm,Aa,Ab,Ai]
def b4c(d:Dev)(w:(els d.last).length<=100000)(x:(els d.wait).length<=100000)(l:Sl Uber)(g:Int)(u:Uber)(r:Root)(s:Space)(t:Sl Dset)(b:Sl Ptr)(c e:Sl LT)(H:AH) :
 K tab A6 A5 28 [.agg (E7 d l g),.agg (W2 u r s t b c e)] H=some (.agg (C1 ⟨twD d,u.root,r,s,u.seat,g,t,false⟩),H):=by
 refine Ae l28 rfl (by simp only[Aa,Ab,b6p,eq9 u r s t b c e,f5m]) (by simp only[Ab,Yk]) ?_ H;have h:=Qh (f:=71) B4 (λ_=>rfl) b3c (λ_ _=>b31 _ _) d.last om;have i:=Qh (f:=72) Ay (λ_=>rfl) b3d (λ_ _=>b32 _ _) d.wait om;rw[at3]at h;rw[Vj]at i;have n:=N4 (f:=71) rfl (by simp[Aa,Ai]) (a2s _) h;have m:=N4 (f:=72) rfl (by simp[Aa,Ai]) (a2t _) i;have o:=λa c V H j k=>Uv (f:=71) (a:=a) (c:=c) (V:=V) (H:=H) j rfl (by simp[Aa,Ai]) (a2s _) h k;have p:=λa c V H j k=>Uv (f:=72) (a:=a) (c:=c) (V:=V) (H:=H) j rfl (by simp[Aa,Ai]) (a2t _) i k;have q:List.take (els d.last).length ((els d.last).map B4)=(els d.last).map B4:=Gf _ _;have v:List.take (els d.wait).length ((els d.wait).map Ay)=(els d.wait).map Ay:=Gf _ _;unfold C1 E7 W2 Cm C8;simp only[f3d,f41];simp(disch:=try exact dq)only[tx,seval,g28,n,m,f41,f3w];rw[o _ _ _ _ rfl (by simp)];simp(disch:=try exact dq)only[tx,seval,m,f41,f3w];rw[p _ _ _ _ rfl (by simp)];simp(disch:=try exact dq)only[tx,seval,q,v,Gs,Ki,Fv,Hi,Th,Kb,Um,L8,f41,f3w,f3z]
 try rfl
def Li(v:ViewL)(s:Space):LA:=Ft v.r (A4 A8 s.held) (A4 A8 s.one) (A4 A8 s.two) (A4 A8 s.kept) v
def O2(o:Option (Uber×ViewL))(a:ViewL->Space):AV:=match o with
 |some (u,v)=>.tuple [.agg (C8 u++Li v (a v)),.bool true]
 |none=>.tuple [.agg (C8 ⟨0,0,0,Ah⟩++K8),.bool false]
def ca7(o:Option (Uber×ViewL))(a:ViewL->Space):Ab (O2 o a)=true:=by
 unfold O2;split
 ·simp[Li,Ft,Cm,C8,Ab,Aa,Ai]
 ·rfl
def ei1(d:Dev)(n:DevOk d)(L:Sl Uber)(g:Int)(l:Sl Uber)(s:(els l).length<=1000)(H:AH) :
 K tab A6 A5 75 [.agg (E7 d L g),A4 Ds l,.fn (.func 73) [] []] H=some (O2 (Hu (Ff d) (els l)) G1,H):=by
 refine Ae l75 rfl (by simp[Aa,Ab,Ai,E7]) (ca7 _ _) ?_ H;have m:=λp H=>b86 d n p H;unfold E7;simp(disch:=try exact dq)only[tx,seval,g75];generalize q:Aj _ _ _=r;refine B6 q (els l).length (λj=>[U,U,.fn (.func 73) [] [],.ptr 0 0 0 1,.ptr 1 0 0 1,U,U,U,U,A4 Ds l,.N (els l).length,.N j,U,U,U,U,U]) (λ_=>_) (λj=>Hu (Ff d) (els l)=Hu (Ff d) ((els l).drop j)) ?_ rfl ?_ ?_ ?_
 ·rfl
 ·rfl
 ·intro j o b;have c:((j:Int)<((els l).length:Int)):=om;rw[F7 o,Hu]at b;obtain⟨u,f⟩:∃ u,(els l).getD j df=u:=⟨_,rfl⟩;rw[f]at b;have a:=m u.root;unfold a15 at a;cases k:Ff d u.root with
  |none=>
    rw[k]at a b;simp only[K8]at a;simp only[]at b;simp(disch:=try exact dq)only[tx,seval,c,Ad,Ds,f,a,f52];exact⟨rfl,b⟩
  |some v=>
    rw[k]at a b;simp only[Ft,Cm]at a;simp only[]at b;by_cases e:v.r.guid=u.guid
    ·by_cases i:v.r.txg=u.txg
     ·rw[iP ⟨e,i⟩]at b;rw[b];unfold O2 Li Ft Cm C8;simp(disch:=try exact dq)only[tx,seval,c,Ad,Ds,f,a,e,i,f52]
      try rfl
     ·rw[iN (λh=>i h.2)]at b;simp(disch:=try exact dq)only[tx,seval,c,Ad,Ds,f,a,e,i,f52];exact⟨rfl,b⟩
    ·rw[iN (λh=>e h.1)]at b;simp(disch:=try exact dq)only[tx,seval,c,Ad,Ds,f,a,e,f52];exact⟨rfl,b⟩
 ·intro b;rw[f3n,Hu]at b;rw[b];simp(disch:=try exact dq)only[tx,seval,f5q]
  try rfl
def ei2(d:Dev)(n:DevOk d)(L:Sl Uber)(g:Int)(l:Sl Uber)(s:(els l).length<=1000)(H:AH) :
 K tab A6 A5 75 [.agg (E7 d L g),A4 Ds l,.fn (.func 74) [] []] H=some (O2 (Hu (Ln d) (els l)) (λ_=>J1),H):=by
 refine Ae l75 rfl (by simp[Aa,Ab,Ai,E7]) (ca7 _ _) ?_ H;have m:=λp H=>d8z d n p H;unfold E7;simp(disch:=try exact dq)only[tx,seval,g75];generalize q:Aj _ _ _=r;refine B6 q (els l).length (λj=>[U,U,.fn (.func 74) [] [],.ptr 0 0 0 1,.ptr 1 0 0 1,U,U,U,U,A4 Ds l,.N (els l).length,.N j,U,U,U,U,U]) (λ_=>_) (λj=>Hu (Ln d) (els l)=Hu (Ln d) ((els l).drop j)) ?_ rfl ?_ ?_ ?_
 ·rfl
 ·rfl
 ·intro j o b;have c:((j:Int)<((els l).length:Int)):=om;rw[F7 o,Hu]at b;obtain⟨u,f⟩:∃ u,(els l).getD j df=u:=⟨_,rfl⟩;rw[f]at b;have a:=m u.root;unfold a6d at a;cases k:Ln d u.root with
  |none=>
    rw[k]at a b;simp only[K8]at a;simp only[]at b;simp(disch:=try exact dq)only[tx,seval,c,Ad,Ds,f,a,f52];exact⟨rfl,b⟩
  |some v=>
    rw[k]at a b;simp only[Ft,Cm]at a;simp only[]at b;by_cases e:v.r.guid=u.guid
    ·by_cases i:v.r.txg=u.txg
     ·rw[iP ⟨e,i⟩]at b;rw[b];unfold O2 Li Ft Cm C8;simp(disch:=try exact dq)only[tx,seval,c,Ad,Ds,f,a,e,i,f52]
      try rfl
     ·rw[iN (λh=>i h.2)]at b;simp(disch:=try exact dq)only[tx,seval,c,Ad,Ds,f,a,e,i,f52];exact⟨rfl,b⟩
    ·rw[iN (λh=>e h.1)]at b;simp(disch:=try exact dq)only[tx,seval,c,Ad,Ds,f,a,e,f52];exact⟨rfl,b⟩
 ·intro b;rw[f3n,Hu]at b;rw[b];simp(disch:=try exact dq)only[tx,seval,f5q]
  try rfl
def eh5(s:Space)(a:SpOk s)(H:AH):K tab A6 A5 118 [.agg [A4 A8 s.held,A4 A8 s.one,A4 A8 s.two,A4 A8 s.kept]] H=some (.agg (V3 (b59 s)),H):=by
 refine Ae e3v rfl (by simp[Aa,Ab,Ai]) (by simp[V3,Aa,Ab,Ai]) ?_ H;have b:=a.held;have c:=a.one;have l3:=a.two;have l4:=a.kept;have a1:=λH=>bk9 s.held s.kept om H;have a2:=λH=>Mr s.one s.kept om H;have a3:=λH=>Mr s.two s.kept om H;simp(disch:=try exact dq)only[tx,seval,ae8,a1,a2,a3]
 try rfl
def er2{d:Dev}(b:DevB d 10000){a:Int}(c:1<=a/\a<=1073741824){u:Uber}(h:mayUber u=true){p:Ptr}{v k:ViewL}(j:Ff d p=some v){m:Ptr}(g:Ff d m=some k):PoolT (a4z d a u v k):=by
 have hi:=d57 j;have e:=do0 (a16 g).1;have i:=b3k h;obtain⟨⟨y,n⟩,⟨z,o⟩,⟨h3,q⟩,⟨h4,f⟩⟩:=hi;have r:(Dk v.s.held v.s.kept).length<=500:=b0j rfl n f;have t:(Br v.s.one v.s.kept).length<=500:=b0j rfl o f;have w:(Br v.s.two v.s.kept).length<=500:=b0j rfl q f;refine⟨⟨b.last,by have:=b.wait;show(els d.wait).length<=100000;omega,?_,?_,?_,f6m _,e.1,λx l=>(e.2 x l).1⟩,⟨b.last,b.wait,b.sec,b.put,b.arm,b.lies⟩,?_,?_,e⟩
 ·show(els (B8 (Dk (els (B8 v.s.held)) (els (B8 v.s.kept))))).length<=500;rw[Dp,Dp,Dp];exact r
 ·show(els (B8 (Br (els (B8 v.s.one)) (els (B8 v.s.kept))))).length<=500;rw[Dp,Dp,Dp];exact t
 ·show(els (B8 (Br (els (B8 v.s.two)) (els (B8 v.s.kept))))).length<=500;rw[Dp,Dp,Dp];exact w
 ·show -1000000000<=u.seat/\u.seat<=1000000000;omega
 ·show -1000000000000<=a/\a<=1000000000000;omega
def d59{d:Dev}{p:Ptr}{v:ViewL}(h:Ff d p=some v):SpOk (G1 v):=by
 obtain⟨_,a,b,c,e⟩:=b0h h;exact⟨by show(els (B8 _)).length<=500;rw[Dp];exact a,by show(els (B8 _)).length<=500;rw[Dp];exact b,by show(els (B8 _)).length<=500;rw[Dp];exact c,by show(els (B8 _)).length<=500;rw[Dp];exact e⟩
def Lv(q:Pool×Int):AV:=.tuple [.agg (C1 q.1),.N q.2]
def c09(q:Pool×Int):Ab (Lv q)=true:=by simp only[Lv,Aa,Ab,Yk,f5m]
def e4d(d:Dev)(B:DevOk d)(w:DevB d 10000)(L:Sl Uber)(f:Int)(i:1<=f/\f<=1073741824)(u:Uber)(C:mayUber u=true)(p:Ptr)(v:ViewL)(z:Ff d p=some v)(H:AH) :
 K tab A6 A5 76 [.agg (E7 d L f),.agg (C8 u++Li v (G1 v))] H=some (Lv (a2l d f u v),H):=by
 have x:Aa (C8 u++Li v (G1 v))=true:=by simp[Li,Ft,Cm,C8,Ab,Aa,Ai]
 refine Ae l76 rfl (by simp only[Aa,Ab,b6p,x,f5m]) (c09 _) ?_ H;have g:=λH=>b86 d B v.r.kept H;have s:=λH=>eh5 (G1 v) (d59 z) H;have t:=λH=>b4c d w.last (by have:=w.wait;omega) L f u v.r (G1 v) (some v.sets) (some v.set) (some v.node) (some v.part) H;unfold a2l Lv;unfold a15 at g;by_cases c:v.r.kept=Ah
 ·rw[iP c];have m:(decide (v.r.kept.addr=0)&&(decide (v.r.kept.birth=0)&&(decide ((v.r.kept.sum.a.toNat:Int)=0)&&(decide ((v.r.kept.sum.b.toNat:Int)=0)&&(decide ((v.r.kept.sum.c.toNat:Int)=0)&&decide ((v.r.kept.sum.d.toNat:Int)=0))))))=true:=by rw[b5l,c];rfl
  unfold E7 C8 Li Ft Cm;simp only[f3d,f41];simp(disch:=try exact dq)only[tx,seval,Oa,m]
  try rfl
 ·rw[iN c];have m:(decide (v.r.kept.addr=0)&&(decide (v.r.kept.birth=0)&&(decide ((v.r.kept.sum.a.toNat:Int)=0)&&(decide ((v.r.kept.sum.b.toNat:Int)=0)&&(decide ((v.r.kept.sum.c.toNat:Int)=0)&&decide ((v.r.kept.sum.d.toNat:Int)=0))))))=false:=by rw[b5l];simp[c]
  cases n:Ff d v.r.kept with
  |none=>
    rw[n]at g;simp only[K8]at g;unfold E7 C8 Li Ft Cm;simp only[f3d,f41];simp(disch:=try exact dq)only[tx,seval,Oa,m,g]
    try rfl
  |some k=>
    rw[n]at g;simp only[Ft,Cm]at g;have A:=a16 z;have l:=a16 n;have j:=d5z [Sn v,Sn k] (by simp) (λo h=>by
     rcases f5h.1 h with rfl|h
     ·exact Xl A.1
     ·obtain rfl:=f1t.1 h;exact Xl l.1) (c1d (λo h=>by
     rcases f5h.1 h with rfl|h
     ·exact A
     ·obtain rfl:=f1t.1 h;exact l) 2) (a4z d f u v k) (er2 w i C z n) true
    rw[show [Sn v,Sn k].length=2 from rfl]at j;simp only[];generalize Tg (a4z d f u v k) true (Ch [Sn v,Sn k] 2)=q at *;obtain⟨E,e⟩:=q;unfold E7 W2 Cm C8 C1 at t;unfold V3 at s;simp only[f3d,f41,twD,B5,G1]at t;simp only[f5b,f5x,Hk,Sn,Ft,Cm]at j;generalize y:b59 (G1 v)=D at *;unfold a4z C1 at j;rw[y]at j;simp only[G1]at s;simp only[twD,B5,G1,show Ah.addr=0 from rfl,show Ah.birth=0 from rfl,show((Ah.sum.a.toNat:Nat):Int)=0 from rfl,show((Ah.sum.b.toNat:Nat):Int)=0 from rfl,show((Ah.sum.c.toNat:Nat):Int)=0 from rfl,show((Ah.sum.d.toNat:Nat):Int)=0 from rfl]at j;unfold E7 C8 Li Ft Cm C1;simp only[f3d,f41,G1];simp(disch:=try exact dq)only[tx,seval,Oa,m,g,t,s,KQ 119 rfl,Am,j]
    try rfl
def df3(d:Dev)(F:DevOk d)(E:DevB d 10000)(f:Int)(z:1<=f/\f<=1073741824)(l:List Uber)(I:l.length<=1000)(J:l≠[])(w:∀ u∈l,mayUber u=true)(i:Int)(R:0<=i/\i<=3)(H:AH) :
 K tab A6 A5 29 [.agg (E7 d (some l) f),.N i] H=some (Lv (J3 d f l i),H):=by
 refine Ae l29 rfl (by simp only[Aa,Ab,b6p,f5m]) (c09 _) ?_ H;have M:=E.last;have b2:=E.wait;have D:=λ(u:Uber) (v:ViewL) (s:Space) H=>b4c d M om (some l) f u v.r s (some v.sets) (some v.set) (some v.node) (some v.part) H;have y:=λm w H=>ei1 d F (some l) f (some m) w H;have G:=λm w H=>ei2 d F (some l) f (some m) w H;have O:=λu L p v B H=>e4d d F E (some l) f z u L p v B H;rcases(by omega:i=0\/i=1\/i=2\/i=3)with rfl|rfl|rfl|rfl
 ·have j:Q9 d 0=Ff d:=by funext p;unfold Q9;simp
  have g:=y (l.take 1) (by rw[Az,f3l];omega);have Q:1<=l.length:=by cases l with|nil=>exact absurd rfl J|cons=>simp
  rw[Az]at g;have t:∀ u∈l.take 1,mayUber u=true:=λu L=>w u (f0s L);have C:List.take 1 (l.map Ds)=(l.take 1).map Ds:=(f5g ..).symm;have x:((l.take 1).map Ds).all (λe=>decide (e.length=9))=true:=by rw[f35];intro e P;obtain⟨u,_,rfl⟩:=f62.1 P;rfl
  have o:∀ q,Hu (Ff d) (l.take 1)=q->J3 d f l 0=(match q with|none=>(S0,12)|some (u,v)=>(Zg d f u v (G1 v) false,0)):=by
   intro q A;unfold J3;rw[j,iP rfl,A];rcases q with _|⟨u,v⟩<;>rfl
  generalize S:l.take 1=m at *;cases h:Hu (Ff d) m with
  |none=>
    rw[h]at g;rw[o _ h];simp only[O2,C8,K8,E7,B5,Er,f3d,f41,show Ah.addr=0 from rfl,show Ah.birth=0 from rfl,show((Ah.sum.a.toNat:Nat):Int)=0 from rfl,show((Ah.sum.b.toNat:Nat):Int)=0 from rfl,show((Ah.sum.c.toNat:Nat):Int)=0 from rfl,show((Ah.sum.d.toNat:Nat):Int)=0 from rfl]at g;simp only[E7,Lv,C1,S0,B5,Er,f3d,f41,show Ah.addr=0 from rfl,show Ah.birth=0 from rfl,show((Ah.sum.a.toNat:Nat):Int)=0 from rfl,show((Ah.sum.b.toNat:Nat):Int)=0 from rfl,show((Ah.sum.c.toNat:Nat):Int)=0 from rfl,show((Ah.sum.d.toNat:Nat):Int)=0 from rfl];simp(disch:=try exact dq)only[tx,seval,Rb,g,Ik,Fh,C,x]
    try rfl
  |some q=>
    obtain⟨u,v⟩:=q;rw[h]at g;obtain⟨B,k⟩:=Vz h;rw[o _ h];simp only[O2,C8,Li,Ft,Cm,G1,J1,E7,B5,Er,f3d,f41]at g;have n:=λH=>D u v (G1 v) H;simp only[E7,W2,C8,Cm,C1,G1,J1,twD,B5,Er,f3d,f41]at n;simp only[E7,Lv,Zg,C1,G1,J1,twD,B5,Er,f3d,f41];simp(disch:=try exact dq)only[tx,seval,Rb,g,n,Ik,Fh,C,x]
    try rfl
 ·have j:Q9 d 1=Ff d:=by funext p;unfold Q9;simp
  have g:=y l (by rw[Az];exact I);rw[Az]at g;have t:=w;have o:∀ q,Hu (Ff d) l=q->J3 d f l 1=(match q with|none=>(S0,14)|some (u,v)=>(Zg d f u v (G1 v) false,0)):=by
   intro q A;unfold J3;rw[j,iN (by decide),A];rcases q with _|⟨u,v⟩<;>rfl
  cases h:Hu (Ff d) l with
  |none=>
    rw[h]at g;rw[o _ h];simp only[O2,C8,K8,E7,B5,Er,f3d,f41,show Ah.addr=0 from rfl,show Ah.birth=0 from rfl,show((Ah.sum.a.toNat:Nat):Int)=0 from rfl,show((Ah.sum.b.toNat:Nat):Int)=0 from rfl,show((Ah.sum.c.toNat:Nat):Int)=0 from rfl,show((Ah.sum.d.toNat:Nat):Int)=0 from rfl]at g;simp only[E7,Lv,C1,S0,B5,Er,f3d,f41,show Ah.addr=0 from rfl,show Ah.birth=0 from rfl,show((Ah.sum.a.toNat:Nat):Int)=0 from rfl,show((Ah.sum.b.toNat:Nat):Int)=0 from rfl,show((Ah.sum.c.toNat:Nat):Int)=0 from rfl,show((Ah.sum.d.toNat:Nat):Int)=0 from rfl];simp(disch:=try exact dq)only[tx,seval,Rb,g]
    try rfl
  |some q=>
    obtain⟨u,v⟩:=q;rw[h]at g;obtain⟨B,k⟩:=Vz h;rw[o _ h];simp only[O2,C8,Li,Ft,Cm,G1,J1,E7,B5,Er,f3d,f41]at g;have n:=λH=>D u v (G1 v) H;simp only[E7,W2,C8,Cm,C1,G1,J1,twD,B5,Er,f3d,f41]at n;simp only[E7,Lv,Zg,C1,G1,J1,twD,B5,Er,f3d,f41];simp(disch:=try exact dq)only[tx,seval,Rb,g,n]
    try rfl
 ·have j:Q9 d 2=Ff d:=by funext p;unfold Q9;simp
  have g:=y l (by rw[Az];exact I);rw[Az]at g;have t:=w;have o:∀ q,Hu (Ff d) l=q->J3 d f l 2=(match q with|none=>(S0,14)|some (u,v)=>a2l d f u v):=by
   intro q A;unfold J3;rw[j,iN (by decide),A];rcases q with _|⟨u,v⟩<;>rfl
  cases h:Hu (Ff d) l with
  |none=>
    rw[h]at g;rw[o _ h];simp only[O2,C8,K8,E7,B5,Er,f3d,f41,show Ah.addr=0 from rfl,show Ah.birth=0 from rfl,show((Ah.sum.a.toNat:Nat):Int)=0 from rfl,show((Ah.sum.b.toNat:Nat):Int)=0 from rfl,show((Ah.sum.c.toNat:Nat):Int)=0 from rfl,show((Ah.sum.d.toNat:Nat):Int)=0 from rfl]at g;simp only[E7,Lv,C1,S0,B5,Er,f3d,f41,show Ah.addr=0 from rfl,show Ah.birth=0 from rfl,show((Ah.sum.a.toNat:Nat):Int)=0 from rfl,show((Ah.sum.b.toNat:Nat):Int)=0 from rfl,show((Ah.sum.c.toNat:Nat):Int)=0 from rfl,show((Ah.sum.d.toNat:Nat):Int)=0 from rfl];simp(disch:=try exact dq)only[tx,seval,Rb,g]
    try rfl
  |some q=>
    obtain⟨u,v⟩:=q;rw[h]at g;obtain⟨B,k⟩:=Vz h;rw[o _ h];simp only[O2,C8,Li,Ft,Cm,G1,J1,E7,B5,Er,f3d,f41]at g;have n:=λH=>O u (t u k) u.root v B H;simp only[];generalize a2l d f u v=q at *;obtain⟨T,U⟩:=q;simp only[E7,C8,Li,Ft,Cm,Lv,C1,G1,J1,B5,Er,f3d,f41]at n;simp only[E7,Lv,C1,B5,Er,f3d,f41];simp(disch:=try exact dq)only[tx,seval,Rb,g,n]
    try rfl
 ·have j:Q9 d 3=Ln d:=by funext p;unfold Q9;simp
  have g:=G l (by rw[Az];exact I);rw[Az]at g;have t:=w;have o:∀ q,Hu (Ln d) l=q->J3 d f l 3=(match q with|none=>(S0,14)|some (u,v)=>(Zg d f u v J1 true,0)):=by
   intro q A;unfold J3;rw[j,iN (by decide),A];rcases q with _|⟨u,v⟩<;>rfl
  cases h:Hu (Ln d) l with
  |none=>
    rw[h]at g;rw[o _ h];simp only[O2,C8,K8,E7,B5,Er,f3d,f41,show Ah.addr=0 from rfl,show Ah.birth=0 from rfl,show((Ah.sum.a.toNat:Nat):Int)=0 from rfl,show((Ah.sum.b.toNat:Nat):Int)=0 from rfl,show((Ah.sum.c.toNat:Nat):Int)=0 from rfl,show((Ah.sum.d.toNat:Nat):Int)=0 from rfl]at g;simp only[E7,Lv,C1,S0,B5,Er,f3d,f41,show Ah.addr=0 from rfl,show Ah.birth=0 from rfl,show((Ah.sum.a.toNat:Nat):Int)=0 from rfl,show((Ah.sum.b.toNat:Nat):Int)=0 from rfl,show((Ah.sum.c.toNat:Nat):Int)=0 from rfl,show((Ah.sum.d.toNat:Nat):Int)=0 from rfl];simp(disch:=try exact dq)only[tx,seval,Rb,g]
    try rfl
  |some q=>
    obtain⟨u,v⟩:=q;rw[h]at g;obtain⟨B,k⟩:=Vz h;rw[o _ h];simp only[O2,C8,Li,Ft,Cm,G1,J1,E7,B5,Er,f3d,f41]at g;have n:=λH=>D u v J1 H;simp only[E7,W2,C8,Cm,C1,G1,J1,twD,B5,Er,f3d,f41]at n;simp only[E7,Lv,Zg,C1,G1,J1,twD,B5,Er,f3d,f41];simp(disch:=try exact dq)only[tx,seval,Rb,g,n]
    try rfl
def d8t(d:Dev):els (Ts d)=Wy d:=by unfold Ts Wy;cases a42 d<;>rfl
def a2p(d:Dev)(J:DevOk d)(C:DevB d 10000)(e:Int)(H:AH) :
 K tab A6 A5 8 [.agg [A4 B4 d.last,A4 Ay d.wait,.N d.lies,.N d.arm,.bool d.down],.N e] H=some (.tuple [.agg (C1 (L6 d e).1),.N (L6 d e).2],H):=by
 refine Ae l8 rfl (by simp[Aa,Ab,Ai]) (by simp only[Aa,Ab,Yk,f5m]) ?_ H;have Q:=C.last;have b2:=C.wait;have i:=λH=>d8s d J H;have f:=λH=>b4c d Q om (Ts d) 0 ⟨0,0,0,Ah⟩ ⟨0,0,0,Ah,Ah,Ah,0⟩ J1 none none none none H;have B:(⟨twD d,(⟨0,0,0,Ah⟩:Uber).root,⟨0,0,0,Ah,Ah,Ah,0⟩,J1,(⟨0,0,0,Ah⟩:Uber).seat,0,none,false⟩:Pool)=Wd d:=rfl;rw[B]at f;have E:E7 d (Ts d) 0=[A4 B4 d.last,A4 Ay d.wait,.N d.lies,.N d.arm,.bool d.down,A4 Ds (Ts d),.N 0]:=rfl;have D:W2 ⟨0,0,0,Ah⟩ ⟨0,0,0,Ah,Ah,Ah,0⟩ J1 none none none none=C8 ⟨0,0,0,Ah⟩++K8:=rfl;rw[E,D]at f;unfold L6;have g:=d8t d;have o:=d8u (d:=d);have y:=d8v d;simp only[C8,K8,B5,Er,f3d,f41,show Ah.addr=0 from rfl,show Ah.birth=0 from rfl,show((Ah.sum.a.toNat:Nat):Int)=0 from rfl,show((Ah.sum.b.toNat:Nat):Int)=0 from rfl,show((Ah.sum.c.toNat:Nat):Int)=0 from rfl,show((Ah.sum.d.toNat:Nat):Int)=0 from rfl]at f;have j:C1 (Wd d)=[.fz ((els d.last).map B4),.fz ((els d.wait).map Ay),.N d.lies,.N d.arm,.bool d.down,.N 0,.N 0,.M 0,.M 0,.M 0,.M 0,.N 0,.N 0,.N 0,.N 0,.N 0,.M 0,.M 0,.M 0,.M 0,.N 0,.N 0,.M 0,.M 0,.M 0,.M 0,.N 0,.N 0,.M 0,.M 0,.M 0,.M 0,.N 0,.emp,.emp,.emp,.emp,.N 0,.N 0,.emp,.bool false]:=rfl;rw[j]at f;by_cases m:e<0\/3<e
 ·rw[iP m];simp only[j];rcases m with m|m
  ·simp(disch:=try exact dq)only[tx,seval,g8,i,f,m]
   try rfl
  ·by_cases t:e<0
   ·omega
   ·simp(disch:=try exact dq)only[tx,seval,g8,i,f,t,m]
    try rfl
 rw[iN m];have t:¬ e<0:=λh=>m (.inl h);have v:¬ 3<e:=λh=>m (.inr h);by_cases p:d.down=true
 ·rw[iP p];simp only[j];simp only[p]at i f ⊢;simp(disch:=try exact dq)only[tx,seval,g8,i,f,t,v]
  try rfl
 rw[iN p];rw[f3p]at p;cases G:Wy d with
 |nil=>
   rw[G]at g;simp only[j];simp only[p]at i f ⊢;have F:(((els (Ts d)).length:Nat):Int)=0:=(by rw[g];rfl);simp(disch:=try exact dq)only[tx,seval,g8,i,f,t,v,F]
   try rfl
 |cons r l=>
   rw[G]at g o y;have I:Ts d=some (r::l):=by
    cases O:Ts d with
    |none=>rw[O]at g;cases g
    |some q=>rw[O]at g;exact congrArg some g
   rw[I]at i f;have z:=b3k (o r (f1u ..));have s:=λH=>df3 d J C r.txg ⟨z.1,z.2.1⟩ (r::l) om (by simp) o e om H;simp only[];generalize J3 d r.txg (r::l) e=q at *;obtain⟨S,P⟩:=q;obtain⟨L,x⟩:∃ L,L=r::l:=⟨_,rfl⟩;have u:L.getD 0 df=r:=(by rw[x];rfl);have k:¬ (((L.length:Nat):Int)=0):=(by rw[x,f33];omega);have R:0<L.length:=(by rw[x,f33];omega);have n:(List.map Ds L)[0]?=some (Ds r):=(by rw[x];rfl);rw[<-x]at i f s;simp only[E7,Lv,B5]at s;simp only[B5]at i f;simp only[Ds]at n;clear g o y I G;by_cases w:P=0
   ·rw[iP w];simp only[C1,p]at i f s ⊢;simp(disch:=try exact dq)only[tx,seval,g8,i,f,s,t,v,w,B0,f3z,k,u,n,Ds]
   ·rw[iN w];by_cases A:P=13
    ·rw[iP A];simp only[C1,Yt,Wd,J1,p,B5,Er,f3d,f41,show Ah.addr=0 from rfl,show Ah.birth=0 from rfl,show((Ah.sum.a.toNat:Nat):Int)=0 from rfl,show((Ah.sum.b.toNat:Nat):Int)=0 from rfl,show((Ah.sum.c.toNat:Nat):Int)=0 from rfl,show((Ah.sum.d.toNat:Nat):Int)=0 from rfl]at i f s ⊢;simp(disch:=try exact dq)only[tx,seval,g8,i,f,s,t,v,w,A,B0,f3z,k,u,n,Ds]
     try rfl
    ·rw[iN A];simp only[j];simp only[C1,p]at i f s ⊢;simp(disch:=try exact dq)only[tx,seval,g8,i,f,s,t,v,w,A,B0,f3z,k,u,n,Ds]
     try rfl
def a6s(p:Pool):Bool:=decide ((els p.d.last).length<=1000)&&decide ((els p.d.wait).length<=1000)&&(els p.d.last).all (λs=>decide (s.length<=256))&&(els p.d.wait).all (λq=>decide (q.2.length<=256))&&decide (p.d.arm<=1000)&&decide (-1000<=p.d.lies)&&decide (p.d.lies<=1000)&&decide (-1000<=p.seat)&&decide (p.seat<=1000)&&decide (-1000000000000<=p.last)&&decide (p.last<=1000000000000)&&decide ((els p.s.held).length<=500)&&decide ((els p.s.one).length<=500)&&decide ((els p.s.two).length<=500)&&decide ((els p.s.kept).length<=500)&&decide ((els p.sets).length<=1000)&&(els p.sets).all (λx=>decide ((els x.files).length<=1000)&&(els x.files).all (λn=>decide (n.name.length<=1000)))
def c08{p:Pool}(h:a6s p=true):PoolT p/\DevOk p.d/\PoolC p:=by
 unfold a6s at h;simp only[f32,f2f,f35]at h;obtain⟨⟨⟨⟨⟨⟨⟨⟨⟨⟨⟨⟨⟨⟨⟨⟨b,f⟩,h3⟩,h4⟩,h5⟩,h6⟩,h7⟩,h8⟩,h9⟩,Xt⟩,h11⟩,R7⟩,h13⟩,Xs⟩,h15⟩,Vo⟩,h17⟩:=h;refine⟨⟨⟨by omega,by omega,R7,h13,Xs,h15,Vo,λx a=>(h17 x a).1⟩,⟨by omega,by omega,λs e=>f61 (h3 s e) (by decide),λq c=>f61 (h4 q c) (by decide),by omega,by omega⟩,by omega,by omega,Vo,λx a=>h17 x a⟩,⟨b,by omega,h3,h4⟩,⟨by omega,by omega,by omega,by omega,by omega,by omega,by omega,λx a=>by have:=(h17 x a).1;omega⟩⟩
def Zh(x:Block):LP:=[.N x.kind,.N x.birth,.str x.load]
def d6b(l:List Block):Cx (l.map D5)=some (l.map Zh):=Ka _ _ (λ_=>rfl) l
def d5d(a:AV)(d b o' c e:Nat)(H:AH):K tab A6 A5 54 [a,.own d b o' c e] H=Gr tab A6 A5 54 [a,.own d b o' c e] H (Aa (B9 H [a,.own d b o' c e])) (K tab A6 A5 54 (B9 H [a,.own d b o' c e]) H):=Hy _ _ _ rfl _ _
def b3u:LI:=Ei 60 14
def c2z:Ptr:=K6 b3u 1 2 (Dx ⟨2,0,[]⟩ 0 (Af 4)) 0
def at5:LT:=(Af 8).set 0 c2z
def c2y:Ptr:=K6 b3u 1 3 (Gt at5) 1
def at4:Bytes:=Fo [⟨1,1,0,0⟩] [c2y]
def L3:Ptr:=K6 b3u 1 4 at4 2
def Xn:List Block:=[⟨2,1,Dx ⟨2,0,[]⟩ 0 (Af 4)⟩,⟨3,1,Gt at5⟩,⟨4,1,at4⟩]
def Zq:LI:=[14,15,16]
def at6:Sl Rn:=U1 [14,15,16,17,18] 5
def b3t:AV:=.tuple [.agg [.fz (Xn.map Zh),.fz (Zq.map λx=>[.N x]),.N L3.addr,.N L3.birth,.M L3.sum.a.toNat,.M L3.sum.b.toNat,.M L3.sum.c.toNat,.M L3.sum.d.toNat,A4 A8 at6,.fz [[.N 17],[.N 18]]],.bool true]
def c24:FilesOk Jw:=by
 refine⟨by decide,?_⟩;intro x a;have h:x=foldN\/x=node0:=by simpa [Jw]using a
 rcases h with rfl|rfl<;>decide
def d8m:Wg [⟨14,74⟩]:=by
 refine⟨by decide,?_⟩;intro x a;obtain rfl:=f1t.1 a;decide
def ds9(N:Sl Node)(hN:N=some Jw)(L:Sl Dset)(hL:L=some [⟨1,1,0,0,N⟩])(R:Sl Rn)(hR:R=some [⟨14,74⟩])(H:AH):K tab A6 A5 123 [.N 1,A4 A8 R,A4 Ao L,.emp] H=some (b3t,H):=by
 refine Ae e3p rfl (by simp[Aa,Ab,Ai]) (by simp[b3t,Aa,Ab,Ai]) ?_ H;have h1:=λH=>b3o L (by rw[hL];show 1<=1000000;omega) (by rw[hL,hN];intro d hd;obtain rfl:=f1t.1 hd;exact c24) H;have e1:Nj (els L)=true:=by rw[hL,hN];decide +kernel
 rw[e1]at h1;have h2:=λH=>c2h R (by rw[hR];decide) H;have e2:Gu (els R)=true:=by rw[hR];decide +kernel
 rw[e2]at h2;have ap:Wg (els R):=by
  rw[hR];exact d8m
 have h3:=λH=>cm0 R ap H;have e3:Eo (els R)=60:=by rw[hR];decide +kernel
 rw[e3]at h3;have h4:=λH=>ei3 R ap 60 om H;have e4:Vy (els R) 60=[.fz ((Ei 60 14).map λx=>[.N x]),.bool true]:=by rw[hR];rfl
 rw[e4]at h4;have hF:(Ei 60 14).length=60:=V1 _ _;generalize t:Ei 60 14=F at *;have br:(els L).length=1:=by rw[hL];rfl
 have z:((els L).length:Int)=1:=by rw[hL];rfl
 have W:(els L).getD 0 df=⟨1,1,0,0,N⟩:=by rw[hL];rfl
 have bs:(els N).length=8:=by rw[hN];rfl
 have X:((els N).length:Int)=8:=by rw[hN];rfl
 have bc:(els N).getD 0 df=⟨2,0,[],[],0⟩:=by rw[hN];rfl
 have bd:∀ j,0<j->j<8->(els N).getD j df=⟨0,0,[],[],0⟩:=by
  rw[hN];intro j h0 h8;have:j=1\/j=2\/j=3\/j=4\/j=5\/j=6\/j=7:=om;rcases this with rfl|rfl|rfl|rfl|rfl|rfl|rfl<;>rfl
 simp(disch:=try exact dq)only[tx,seval,ae3,h1,h2,h3,h4,z];generalize hr:Aj _ _ _=r;refine U7 (Q:=λr=>E5 _ _ _ (Bm _ _ (Bi _ r))=_) hr ?_;simp(disch:=try exact dq)only[tx,seval,z,Ad,W,Ao,Ks,X];generalize bm:Aj _ _ _=r2;have bq:=Ls ⟨2,0,[]⟩ 0 (Af 4);have au:=ds7 Ah 1 F [] [] [] rfl (by decide) (by rw[hF];decide) om 0 ⟨2,0,[],[],0⟩ (Af 4) rfl (by decide) (by decide) (by show(Dx ⟨2,0,[]⟩ 0 (Af 4)).length<=1000000;omega);obtain⟨B,hB⟩:∃ B:List Block,B=[⟨2,1,Dx ⟨2,0,[]⟩ 0 (Af 4)⟩]:=⟨_,rfl⟩;obtain⟨v,ag⟩:∃ p:Ptr,p=K6 F 1 2 (Dx ⟨2,0,[]⟩ 0 (Af 4)) 0:=⟨_,rfl⟩;obtain⟨A,hA⟩:∃ A:LI,A=[F.getD 0 df]:=⟨_,rfl⟩;obtain⟨C,hC⟩:∃ C:LI,C=[v.addr]:=⟨_,rfl⟩;have av:Ev tab A6 A5 197 [.ptr 0 0 0 1,.N 0,.agg [.N 2,.N 0,.str [],.str [],.N 0],.own 8 6 0 4 4] (Nt Ah 1 F [] [] []++[some ((Af 4).map Ac)])=some (.agg (Ac v),Nt Ah 1 F B A C++[some ((Af 4).map Ac)]):=by
  rw[hC,ag,hB,hA];exact au
 clear au;have S:B.length=1:=by rw[hB];rfl
 have b8:A.length=1:=by rw[hA];rfl
 have ba:C.length=1:=by rw[hC];rfl
 obtain⟨P,u⟩:∃ f:Nat->List Block,f=λj=>if j=0 then []else B:=⟨_,rfl⟩
 obtain⟨y,i⟩:∃ f:Nat->LI,f=λj=>if j=0 then []else A:=⟨_,rfl⟩
 obtain⟨q,h⟩:∃ f:Nat->LI,f=λj=>if j=0 then []else C:=⟨_,rfl⟩
 obtain⟨D,o⟩:∃ f:Nat->LT,f=λj=>if j=0 then Af 8 else(Af 8).set 0 v:=⟨_,rfl⟩
 refine Hr (Q:=λr=>E5 _ _ _ (Bm _ _ (Bi _ (Vg _ (G3 _ _ (Bm _ _ (Bi _ (Bm _ _ (Bi _ r))))))))=_) bm 8
  (λj=>[U,U,A4 Ao L,U,.ptr 0 0 0 1,U,.fz (F.map λx=>[.N x]),U,.ptr 3 0 0 1,.N 0,.own 10 6 0 0 0,.N 0,.own 11 6 0 8 8,.own 12 6 0 (4*j) (4*j),.N j,U,U,U,U,U,U,U,U,U,U,U,U,U,U,U,U,U,U,U,U,U,U,U])
  (λj=>[some [[.emp,.emp,.N 0,.N 0,.M 0,.M 0,.M 0,.M 0,.emp,.emp]],some [[.N 0,.N 0,.N 0,.N 0,.N 0,.M 0,.M 0,.M 0,.M 0,.N 0,.N 0,.M 0,.M 0,.M 0,.M 0,.N 0,.N 0,.M 0,.M 0,.M 0,.M 0,.N 0,.emp,.emp,.emp,.emp,.own 7 5 0 0 0,.emp,.own 8 1 0 0 0,.own 9 1 0 0 0]],some [[.N 0,.N 0,.N 0,.N 0,.N 0,.M 0,.M 0,.M 0,.M 0,.N 0,.N 0,.M 0,.M 0,.M 0,.M 0,.N 0,.N 0,.M 0,.M 0,.M 0,.M 0,.N 0,.emp,.emp,.emp,.emp,.emp,.emp,.emp,.emp]],some [[.own 4 3 0 (P j).length (P j).length,.own 5 1 0 (P j).length (P j).length,.N 0,.N 0,.M 0,.M 0,.M 0,.M 0,.emp,.emp,.N 1,.fz (F.map λx=>[.N x]),.own 6 1 0 (q j).length (q j).length,.bool false,.own 1 30 0 1 1]],some ((P j).map D5),some ((y j).map cI),some ((q j).map cI),some [],some [],some [],some [],some ((D j).map Ac),some ((Af (4*j)).map Ac)]) (λ_=>True) ?_ ?_ trivial ?_ ?_
 ·rfl
 ·rw[u,i,h,o];rfl
 ·intro j hj _;have ar:((j:Int)<8):=om;have b4:∀ m n,(Af m).map Ac++(Af n).map Ac=(Af (m+n)).map Ac:=λm n=>by rw[<-f4c];unfold Af;rw[ew6]
  have b5:[[.N 0,.N 0,.M 0,.M 0,.M 0,.M 0],[.N 0,.N 0,.M 0,.M 0,.M 0,.M 0],[.N 0,.N 0,.M 0,.M 0,.M 0,.M 0],[.N 0,.N 0,.M 0,.M 0,.M 0,.M 0]]=(Af 4).map Ac:=rfl;have ao:(Af (4*j)).length=4*j:=by simp[Af]
  by_cases j0:j=0
  ·subst j0;have b1:P 0=[]:=(by rw[u];rfl);have b2:P (0+1)=B:=(by rw[u];rfl);have a1:y 0=[]:=(by rw[i];rfl);have a2:y (0+1)=A:=(by rw[i];rfl);have c1:q 0=[]:=(by rw[h];rfl);have c2:q (0+1)=C:=(by rw[h];rfl);have n1:D 0=Af 8:=(by rw[o];rfl);have n2:D (0+1)=(Af 8).set 0 v:=(by rw[o];rfl);rw[b1,b2,a1,a2,c1,c2,n1,n2];clear b1 b2 a1 a2 c1 c2 n1 n2;have bk:Ev tab A6 A5 197 [.ptr 0 0 0 1,.N 0,.agg [.N 2,.N 0,.str [],.str [],.N 0],.own 8 6 0 4 4] [some [[.own 1 3 0 0 0,.own 2 1 0 0 0,.N 0,.N 0,.M 0,.M 0,.M 0,.M 0,.emp,.emp,.N 1,.fz (F.map λx=>[.N x]),.own 3 1 0 0 0,.bool false,.own 4 30 0 1 1]],some [],some [],some [],some [[.N 0,.N 0,.N 0,.N 0,.N 0,.M 0,.M 0,.M 0,.M 0,.N 0,.N 0,.M 0,.M 0,.M 0,.M 0,.N 0,.N 0,.M 0,.M 0,.M 0,.M 0,.N 0,.emp,.emp,.emp,.emp,.own 5 5 0 0 0,.emp,.own 6 1 0 0 0,.own 7 1 0 0 0]],some [],some [],some [],some ((Af 4).map Ac)]=some (.agg [.N v.addr,.N v.birth,.M v.sum.a.toNat,.M v.sum.b.toNat,.M v.sum.c.toNat,.M v.sum.d.toNat],[some [[.own 1 3 0 B.length B.length,.own 2 1 0 B.length B.length,.N 0,.N 0,.M 0,.M 0,.M 0,.M 0,.emp,.emp,.N 1,.fz (F.map λx=>[.N x]),.own 3 1 0 C.length C.length,.bool false,.own 4 30 0 1 1]],some (B.map D5),some (A.map cI),some (C.map cI),some [[.N 0,.N 0,.N 0,.N 0,.N 0,.M 0,.M 0,.M 0,.M 0,.N 0,.N 0,.M 0,.M 0,.M 0,.M 0,.N 0,.N 0,.M 0,.M 0,.M 0,.M 0,.N 0,.emp,.emp,.emp,.emp,.own 5 5 0 0 0,.emp,.own 6 1 0 0 0,.own 7 1 0 0 0]],some [],some [],some [],some ((Af 4).map Ac)]):=av;simp(disch:=try exact dq)only[tx,seval,ar,z,Ad,W,Ao,Ks,X,bc,Ap,b5,Av,Aw,Aq,Ax,Bc,Bb,f3z,Nat.mul_zero];generalize ah:Aj _ _ _=r3;refine Hr (Q:=λr=>Rd _ _ _ _ (G3 _ _ (Bm _ _ (Bi _ (Bm _ _ (Bi _ r)))))) ah 4 (λk=>[U,U,A4 Ao L,U,.ptr 0 0 0 1,U,.fz (F.map λx=>[.N x]),U,.ptr 3 0 0 1,.N 0,.own 10 6 0 0 0,.N 0,.own 11 6 0 8 8,.own 12 6 0 0 0,.N 0,.ptr 13 0 0 1,.own 14 6 0 4 4,.N k,U,U,U,U,U,U,U,U,U,U,U,U,U,U,U,U,U,U,U,U]) (λ_=>_) (λ_=>True) ?_ rfl trivial ?_ ?_
   ·rfl
   ·intro k hk _;have ae:((k:Int)<4):=om;have hP:=c0j k hk;simp(disch:=try exact dq)only[tx,seval,ae,hP,f52,Av,Aw,Aq,Ax,Bc,Bb,f3z];rfl
   ·intro _;have q4:List.take 4 ((Af 4).map Ac)=(Af 4).map Ac:=rfl;have ad:(((Af 4).map Ac).all λe=>decide (e.length=6))=true:=rfl;have af:((Af 4).map Ac).length=4:=rfl;have bh:((Af 8).map Ac)[0]?=some [.N 0,.N 0,.M 0,.M 0,.M 0,.M 0]:=rfl;simp(disch:=try exact dq)only[tx,seval,KQ 197 rfl,Am,bk,bh,J9,b4,q4,ad,af,ao,f52,Av,Aw,Aq,Ax,Bc,Bb,f3z]
  ·have b1:P j=B:=(by rw[u];exact iN j0);have b2:P (j+1)=B:=(by rw[u];exact iN om);have a1:y j=A:=(by rw[i];exact iN j0);have a2:y (j+1)=A:=(by rw[i];exact iN om);have c1:q j=C:=(by rw[h];exact iN j0);have c2:q (j+1)=C:=(by rw[h];exact iN om);have n1:D j=(Af 8).set 0 v:=(by rw[o];exact iN j0);have n2:D (j+1)=(Af 8).set 0 v:=(by rw[o];exact iN om);have hx:=bd j om hj;rw[b1,b2,a1,a2,c1,c2,n1,n2];clear b1 b2 a1 a2 c1 c2 n1 n2;simp(disch:=try exact dq)only[tx,seval,ar,z,Ad,W,Ao,Ks,X,hx,Ap,b5,Av,Aw,Aq,Ax,Bc,Bb,f3z];generalize ah:Aj _ _ _=r3;refine Hr (Q:=λr=>Rd _ _ _ _ (G3 _ _ (Bm _ _ (Bi _ (Bm _ _ (Bi _ r)))))) ah 4 (λk=>[U,U,A4 Ao L,U,.ptr 0 0 0 1,U,.fz (F.map λx=>[.N x]),U,.ptr 3 0 0 1,.N 0,.own 10 6 0 0 0,.N 0,.own 11 6 0 8 8,.own 12 6 0 (4*j) (4*j),.N j,.ptr 13 0 0 1,.own 14 6 0 4 4,.N k,U,U,U,U,U,U,U,U,U,U,U,U,U,U,U,U,U,U,U,U]) (λ_=>_) (λ_=>True) ?_ rfl trivial ?_ ?_
   ·rfl
   ·intro k hk _;have ae:((k:Int)<4):=om;have hP:=c0j k hk;simp(disch:=try exact dq)only[tx,seval,ae,hP,f52,Av,Aw,Aq,Ax,Bc,Bb,f3z];rfl
   ·intro _;have q4:List.take 4 ((Af 4).map Ac)=(Af 4).map Ac:=rfl;have ad:(((Af 4).map Ac).all λe=>decide (e.length=6))=true:=rfl;have af:((Af 4).map Ac).length=4:=rfl;simp(disch:=try exact dq)only[tx,seval,b4,q4,ad,af,ao,f52,Av,Aw,Aq,Ax,Bc,Bb,f3z];rw[show 4*j+4=4*(j+1) by omega];exact⟨rfl,rfl⟩
 ·intro _;have b1:P 8=B:=by rw[u];rfl
  have a1:y 8=A:=by rw[i];rfl
  have c1:q 8=C:=by rw[h];rfl
  have n1:D 8=(Af 8).set 0 v:=by rw[o];rfl
  rw[b1,a1,c1,n1];clear b1 a1 c1 n1 u i h o av;obtain⟨E,ab⟩:∃ l:LT,l=(Af 8).set 0 v:=⟨_,rfl⟩;obtain⟨PT,an⟩:∃ l:LT,l=Af (4*8):=⟨_,rfl⟩;rw[<-ab,<-an];have J:E.length=8:=by rw[ab];rfl
  have a6:PT.length=32:=by rw[an];rfl
  have b6:=ds4 Ah 1 F B A C om om om om E J (by have:=a6o E;omega);obtain⟨g,Y⟩:∃ p:Ptr,p=K6 F 1 3 (Gt E) B.length:=⟨_,rfl⟩;obtain⟨B2,a9⟩:∃ b:List Block,b=B++[⟨3,1,Gt E⟩]:=⟨_,rfl⟩;obtain⟨A2,a7⟩:∃ A2:LI,A2=A++[F.getD B.length df]:=⟨_,rfl⟩;obtain⟨G,T⟩:∃ G:LI,G=C++[g.addr]:=⟨_,rfl⟩;have bo:Ev tab A6 A5 198 [.ptr 0 0 0 1,.own 8 6 0 8 8] [some [[.own 1 3 0 B.length B.length,.own 2 1 0 B.length B.length,.N 0,.N 0,.M 0,.M 0,.M 0,.M 0,.emp,.emp,.N 1,.fz (F.map λx=>[.N x]),.own 3 1 0 C.length C.length,.bool false,.own 4 30 0 1 1]],some (B.map D5),some (A.map cI),some (C.map cI),some [[.N 0,.N 0,.N 0,.N 0,.N 0,.M 0,.M 0,.M 0,.M 0,.N 0,.N 0,.M 0,.M 0,.M 0,.M 0,.N 0,.N 0,.M 0,.M 0,.M 0,.M 0,.N 0,.emp,.emp,.emp,.emp,.own 5 5 0 0 0,.emp,.own 6 1 0 0 0,.own 7 1 0 0 0]],some [],some [],some [],some (E.map Ac)]=some (.agg [.N g.addr,.N g.birth,.M g.sum.a.toNat,.M g.sum.b.toNat,.M g.sum.c.toNat,.M g.sum.d.toNat],[some [[.own 1 3 0 B2.length B2.length,.own 2 1 0 B2.length B2.length,.N 0,.N 0,.M 0,.M 0,.M 0,.M 0,.emp,.emp,.N 1,.fz (F.map λx=>[.N x]),.own 3 1 0 G.length G.length,.bool false,.own 4 30 0 1 1]],some (B2.map D5),some (A2.map cI),some (G.map cI),some [[.N 0,.N 0,.N 0,.N 0,.N 0,.M 0,.M 0,.M 0,.M 0,.N 0,.N 0,.M 0,.M 0,.M 0,.M 0,.N 0,.N 0,.M 0,.M 0,.M 0,.M 0,.N 0,.emp,.emp,.emp,.emp,.own 5 5 0 0 0,.emp,.own 6 1 0 0 0,.own 7 1 0 0 0]],some [],some [],some [],some (E.map Ac)]):=by
   rw[Y]at T;rw[T,Y,a9,a7];exact b6
  clear b6;have bu:(E.map Ac).length=8:=by rw[f3z];exact J
  have bv:(PT.map Ac).length=32:=by rw[f3z];exact a6
  simp(disch:=try exact dq)only[tx,seval,f5q,z,Ad,W,Ao,Ks,X,KQ 198 rfl,Am,bo,Qo,M2,Uo,Jj,Av,Aw,Aq,Ax,Bc,Bb,f3z,J,a6];generalize bn:Aj _ _ _=r5;refine Vl (Q:=λr=>E5 _ _ _ (Bm _ _ (Bi _ r))=_) bn ?_;have w:B2.length=2:=by rw[a9,f1q,S];rfl
  have ai:A2.length=2:=by rw[a7,f1q,b8];rfl
  have am:G.length=2:=by rw[T,f1q,ba];rfl
  obtain⟨TT,ac⟩:∃ s:Bytes,s=Fo ((els L).map Bj) [g]:=⟨_,rfl⟩;have bt:TT.length<=1000:=by rw[ac];exact a6n _ _
  have O:=λH=>b2n L [g] om (by show 1<=1000000;omega) H;rw[<-ac,B5]at O;simp only[f5b,f5x,Al]at O;have aw:=ds8 [[.N 1,.N 1,.N 0,.N 0,A4 Ap N]] [[.N g.addr,.N g.birth,.M g.sum.a.toNat,.M g.sum.b.toNat,.M g.sum.c.toNat,.M g.sum.d.toNat]] [[.fz (List.take 8 (List.map Al E))]] [[.fz (List.take 32 (List.map Al PT))]] ⟨by cases N<;>rfl,λτ=>by cases N<;>rfl⟩ ⟨rfl,λτ=>rfl⟩ ⟨rfl,λτ=>rfl⟩ ⟨rfl,λτ=>rfl⟩ Ah 1 F B2 A2 G om om om om 4 TT om;obtain⟨p2,Z⟩:∃ p:Ptr,p=K6 F 1 4 TT B2.length:=⟨_,rfl⟩;obtain⟨B3,aa⟩:∃ b:List Block,b=B2++[⟨4,1,TT⟩]:=⟨_,rfl⟩;obtain⟨A3,a8⟩:∃ A3:LI,A3=A2++[F.getD B2.length df]:=⟨_,rfl⟩;obtain⟨I,V⟩:∃ I:LI,I=G++[p2.addr]:=⟨_,rfl⟩;have ax:Ev tab A6 A5 199 [.ptr 0 0 0 1,.N 4,.str TT] [some [[.own 1 3 0 B2.length B2.length,.own 2 1 0 B2.length B2.length,.N 0,.N 0,.M 0,.M 0,.M 0,.M 0,.emp,.emp,.N 1,.fz (F.map λx=>[.N x]),.own 3 1 0 G.length G.length,.bool false,.own 4 30 0 1 1]],some (B2.map D5),some (A2.map cI),some (G.map cI),some [[.N 0,.N 0,.N 0,.N 0,.N 0,.M 0,.M 0,.M 0,.M 0,.N 0,.N 0,.M 0,.M 0,.M 0,.M 0,.N 0,.N 0,.M 0,.M 0,.M 0,.M 0,.N 0,.emp,.emp,.emp,.emp,.own 5 5 0 1 1,.own 6 6 0 1 1,.own 7 1 0 1 1,.own 8 1 0 1 1]],some [[.N 1,.N 1,.N 0,.N 0,A4 Ap N]],some [[.N g.addr,.N g.birth,.M g.sum.a.toNat,.M g.sum.b.toNat,.M g.sum.c.toNat,.M g.sum.d.toNat]],some [[.fz (List.take 8 (List.map Al E))]],some [[.fz (List.take 32 (List.map Al PT))]]]=some (.agg [.N p2.addr,.N p2.birth,.M p2.sum.a.toNat,.M p2.sum.b.toNat,.M p2.sum.c.toNat,.M p2.sum.d.toNat],[some [[.own 1 3 0 B3.length B3.length,.own 2 1 0 B3.length B3.length,.N 0,.N 0,.M 0,.M 0,.M 0,.M 0,.emp,.emp,.N 1,.fz (F.map λx=>[.N x]),.own 3 1 0 I.length I.length,.bool false,.own 4 30 0 1 1]],some (B3.map D5),some (A3.map cI),some (I.map cI),some [[.N 0,.N 0,.N 0,.N 0,.N 0,.M 0,.M 0,.M 0,.M 0,.N 0,.N 0,.M 0,.M 0,.M 0,.M 0,.N 0,.N 0,.M 0,.M 0,.M 0,.M 0,.N 0,.emp,.emp,.emp,.emp,.own 5 5 0 1 1,.own 6 6 0 1 1,.own 7 1 0 1 1,.own 8 1 0 1 1]],some [[.N 1,.N 1,.N 0,.N 0,A4 Ap N]],some [[.N g.addr,.N g.birth,.M g.sum.a.toNat,.M g.sum.b.toNat,.M g.sum.c.toNat,.M g.sum.d.toNat]],some [[.fz (List.take 8 (List.map Al E))]],some [[.fz (List.take 32 (List.map Al PT))]]]):=by
   rw[Z]at V;rw[V,Z,aa,a8];exact aw
  clear aw;have a0:B3.length=3:=by rw[aa,f1q,w];rfl
  have ak:A3.length=3:=by rw[a8,f1q,ai];rfl
  have a4:I.length=3:=by rw[V,f1q,am];rfl
  have a3:I=[14,15,16]:=by
   rw[V,T,hC,ag,Y,Z];show [F.getD 0 df,F.getD B.length df,F.getD B2.length df]=_;rw[S,w,<-t];rfl
  have bf:F.getD 3 df=17:=by rw[<-t];rfl
  have bg:F.getD 4 df=18:=by rw[<-t];rfl
  have b7:Dr AV.top=some .top:=rfl;have bi:List.take 3 (B3.map Zh)=B3.map Zh:=f0a (by rw[f3z];omega);have bj:List.take 3 (A3.map λx=>[PV.N x])=A3.map λx=>[PV.N x]:=f0a (by rw[f3z];omega);have bp:(IntKind.i64.wrap 4).toNat=4:=by decide
  have bb:(F.length:Int)=60:=by rw[hF];rfl
  have be:I.map cI++[[.N 17],[.N 18]]=(I++[17,18]).map cI:=by rw[f4c];rfl
  have b9:(I++[17,18]).length=5:=by rw[f1q,a4];rfl
  have ay:=dk8 (I++[17,18]) om (by rw[a3];intro x hx;simp at hx;omega);rw[b9]at ay;rw[a0,a4]at ax;simp(disch:=try exact dq)only[tx,seval,f5q,z,KQ 199 rfl,Am,ax,a0,ak,bb,bf,bg,be,ay,B0,KQ 200 rfl,bp,Dz (f:=200) rfl,Jo (f:=200) rfl,Bl,Bo,f3t,f37,f3x,b7,bi,bj,Lk,d6b,Jj,Uo,M2,d5d,F8,O,Av,Aw,Aq,Ax,Bc,Bb,f3z];have az:v=c2z:=by rw[ag,<-t];rfl
  have a5:E=at5:=by rw[ab,az];rfl
  have b0:g=c2y:=by rw[Y,a5,S,<-t];rfl
  have aq:TT=at4:=by rw[ac,hL,b0];rfl
  have b3:p2=L3:=by rw[Z,aq,w,<-t];rfl
  have al:B3=Xn:=by rw[aa,a9,hB,a5,aq];rfl
  have aj:A3=Zq:=by
   rw[a8,a7,hA];show [F.getD 0 df,F.getD B.length df,F.getD B2.length df]=_;rw[S,w,<-t];rfl
  rw[a3,al,aj,b3];rfl
end Go.Proofs.YtddlanlnaenaoaaGreatDoor.Abs
