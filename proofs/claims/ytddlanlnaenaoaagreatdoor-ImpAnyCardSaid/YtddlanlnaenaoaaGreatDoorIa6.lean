/-
  Part 6 of the proof: no condition. (Parts of the abstract layer, of the program's functions in its form, and of their contracts.)
-/
import Derived.Test.YtddlanlnaenaoaaGreatDoorIa5
set_option maxRecDepth 100000
set_option maxHeartbeats 8000000
set_option linter.unusedSimpArgs false
set_option linter.unusedVariables false
set_option linter.unusedSectionVars false
set_option linter.defProp false
namespace Go.Proofs.YtddlanlnaenaoaaGreatDoor.Abs
def S1(d:Dev)(l:List (Int×Bytes)):Dev×Bool:=if(Co d l).2=true then T5 (Co d l).1 else((Co d l).1,false)
def av5:List (Int×Bytes):=[(Fr 60 0,K3 7 60),(Fr 60 1,K3 7 60),(Fr 60 2,K3 7 60),(Fr 60 3,K3 7 60)]
def Kp:Dev:=(S1 (Di 88) av5).1
def K2:Space:=b15 ⟨none,none,none,none⟩ at6
def b4q:Block:=⟨5,1,Jd 60 K2.n⟩
def Bp:Root:=⟨1,2,7,L3,Hp 17 b4q,Ah,0⟩
def c9d:Block:=⟨6,1,Jt Bp⟩
def Gw:Uber:=⟨1,7,1,Hp 18 c9d⟩
def gPq:List (Int×Bytes):=List.zipWith (λa b=>(a,Dh b)) Zq Xn
def av4:List (Int×Bytes):=gPq++[(17,Dh b4q),(18,Dh c9d)]
def Uf:Dev:=(S1 Kp av4).1
def a7m:Dev:=(S1 Uf (els (Iu 60 Gw 0))).1
def Fq:Dev:=(S1 a7m (els (Iu 60 Gw 1))).1
def d51:(S1 (Di 88) av5).2=true:=by decide +kernel
def d50:(S1 Kp av4).2=true:=by decide +kernel
def d4z:(S1 Uf (els (Iu 60 Gw 0))).2=true:=by decide +kernel
def d4y:(S1 a7m (els (Iu 60 Gw 1))).2=true:=by decide +kernel
def a5e(d:Dev):Bool:=decide ((els d.wait).length<=100000)&&decide ((els d.last).length<=100000)&&decide (d.arm<=1000)&&decide (0<=d.lies)&&decide (d.lies<=1000)
def ek3:a5e (Di 88)=true:=by decide +kernel
def ek2:a5e Kp=true:=by decide +kernel
def ek1:a5e Uf=true:=by decide +kernel
def ek0:a5e a7m=true:=by decide +kernel
def c36:(els Kp.last).length=88:=by decide +kernel
def ek8:Kp.down=false:=by decide +kernel
def eh1:b54 60 ⟨none,none,none,none⟩=some [⟨14,74⟩]:=by decide +kernel
def ak9(d:Dev)(h:a5e d=true)(l:Sl (Int×Bytes))(i:(els l).length<=100000)(e:Dev)(b:(S1 d (els l)).1=e)(a:(S1 d (els l)).2=true)(H:AH) :
 K tab A6 A5 80 [.agg [A4 B4 d.last,A4 Ay d.wait,.N d.lies,.N d.arm,.bool d.down],A4 Ay l] H=some (.tuple [.agg [A4 B4 e.last,A4 Ay e.wait,.N e.lies,.N e.arm,.bool e.down],.bool true],H):=by
 unfold a5e at h;simp only[f32,f2f]at h;obtain⟨⟨⟨⟨f,g⟩,h3⟩,h4⟩,h5⟩:=h;rw[d4x d l i f g om om H];unfold S1 at b a;split at a
 ·rename_i c;rw[iP c]at b ⊢;rw[a,b];rfl
 ·cases a
def em0(d:Dev)(h:(els d.last).length<=1000000)(H:AH):K tab A6 A5 122 [.agg [A4 B4 d.last,A4 Ay d.wait,.N d.lies,.N d.arm,.bool d.down]] H=some (.N ((els d.last).length-28),H):=by
 refine Ae e3q rfl (by simp[Aa,Ab,Ai]) rfl ?_ H;simp(disch:=try exact dq)only[tx,seval,ae4,f52]
def d60(L:Sl Dset)(E:L=some [⟨1,1,0,0,some Jw⟩])(H:AH):K tab A6 A5 82 [.agg [A4 B4 Kp.last,A4 Ay Kp.wait,.N Kp.lies,.N Kp.arm,.bool Kp.down,.N 0,.N 0,.M 0,.M 0,.M 0,.M 0,.N 0,.N 2,.N 7,.N 0,.N 0,.M 0,.M 0,.M 0,.M 0,.N 0,.N 0,.M 0,.M 0,.M 0,.M 0,.N 0,.N 0,.M 0,.M 0,.M 0,.M 0,.N 0,.emp,.emp,.emp,.emp,.N 0,.N 0,A4 Ao L,.bool false],.bool true,.emp] H=some (.tuple [.agg [A4 B4 Fq.last,A4 Ay Fq.wait,.N Fq.lies,.N Fq.arm,.bool Fq.down,.N Gw.root.addr,.N Gw.root.birth,.M Gw.root.sum.a.toNat,.M Gw.root.sum.b.toNat,.M Gw.root.sum.c.toNat,.M Gw.root.sum.d.toNat,.N Bp.txg,.N Bp.next,.N Bp.guid,.N Bp.table.addr,.N Bp.table.birth,.M Bp.table.sum.a.toNat,.M Bp.table.sum.b.toNat,.M Bp.table.sum.c.toNat,.M Bp.table.sum.d.toNat,.N Bp.space.addr,.N Bp.space.birth,.M Bp.space.sum.a.toNat,.M Bp.space.sum.b.toNat,.M Bp.space.sum.c.toNat,.M Bp.space.sum.d.toNat,.N Bp.kept.addr,.N Bp.kept.birth,.M Bp.kept.sum.a.toNat,.M Bp.kept.sum.b.toNat,.M Bp.kept.sum.c.toNat,.M Bp.kept.sum.d.toNat,.N Bp.keptTxg,A4 A8 K2.held,A4 A8 K2.one,A4 A8 K2.two,A4 A8 K2.kept,.N 1,.N 1,A4 Ao L,.bool false],.N 0],H):=by
 refine Ae l82 rfl (by simp[Aa,Ab,Ai]) (by simp[Aa,Ab,Ai]) ?_ H;have am:(els L).length=1:=by rw[E];rfl
 have h1:=λH=>b3o L (by rw[E];show 1<=1000000;omega) (by rw[E];intro d hd;obtain rfl:=f1t.1 hd;exact c24) H;have Z:Nj (els L)=true:=by rw[E];decide +kernel
 rw[Z]at h1;have A:=λH=>em0 Kp (by rw[c36];omega) H;rw[c36]at A;have B:=ek8;rw[B]at A;have s0:SpOk ⟨none,none,none,none⟩:=⟨by decide,by decide,by decide,by decide⟩;have C:=λH=>eh0 ⟨none,none,none,none⟩ s0 60 om om H;obtain⟨R,hR⟩:∃ R:Sl Rn,R=some [⟨14,74⟩]:=⟨_,rfl⟩;rw[eh1,<-hR]at C;have G:=λH=>ds9 (some Jw) rfl L E R hR H;have t:=λH=>d61 ⟨none,none,none,none⟩ s0 at6 (by decide +kernel) H;have a6:b15 ⟨none,none,none,none⟩ at6=K2:=rfl;rw[a6]at t;have sg:SpOk K2:=⟨by decide +kernel,by decide +kernel,by decide +kernel,by decide +kernel⟩;have O:=λH=>by4 K2 sg 60 om om H;simp only[Er]at C t;simp only[V3]at t;obtain⟨V,e⟩:∃ s:Bytes,s=Jd 60 K2.n:=⟨_,rfl⟩;rw[<-e]at O;unfold b3t at G;have y:=λH=>a4v (orc:=A6) 17 5 1 V (by rw[e];decide +kernel) H;obtain⟨u,f⟩:∃ p:Ptr,p=Hp 17 ⟨5,1,V⟩:=⟨_,rfl⟩;rw[<-f]at y;simp only[Ac]at y;obtain⟨rT,g⟩:∃ s:Bytes,s=Jt ⟨1,2,7,L3,u,Ah,0⟩:=⟨_,rfl⟩;have ai:∀ H,K tab A6 A5 57 [.agg [.N 1,.N 2,.N 7,.N L3.addr,.N L3.birth,.M L3.sum.a.toNat,.M L3.sum.b.toNat,.M L3.sum.c.toNat,.M L3.sum.d.toNat,.N u.addr,.N u.birth,.M u.sum.a.toNat,.M u.sum.b.toNat,.M u.sum.c.toNat,.M u.sum.d.toNat,.N 0,.N 0,.M 0,.M 0,.M 0,.M 0,.N 0]] H=some (.str rT,H):=by
  rw[g];exact λH=>b2r ⟨1,2,7,L3,u,Ah,0⟩ H
 have z:=λH=>a4v (orc:=A6) 18 6 1 rT (by rw[g,f,e];decide +kernel) H;obtain⟨k,q⟩:∃ p:Ptr,p=Hp 18 ⟨6,1,rT⟩:=⟨_,rfl⟩;rw[<-q]at z;simp only[Ac]at z;have P:(IntKind.i64.wrap 1).tmod 6=1:=by decide
 have S:(1:Int).tmod 6=1:=by decide
 have i:IntKind.i64.wrap 1=1:=by decide
 simp(disch:=try exact dq)only[tx,seval,g82,i,Gv,A,B,h1,C,G,t,O,y,ai,z,P,S];have al:Xn.length=3:=rfl;have l:(Xn.length:Int)=3:=rfl;have ak:Zq.length=3:=rfl;obtain⟨W,v⟩:∃ s:Bytes,s=Dx ⟨2,0,[]⟩ 0 (Af 4):=⟨_,rfl⟩;obtain⟨X,w⟩:∃ s:Bytes,s=Gt at5:=⟨_,rfl⟩;obtain⟨Y,x⟩:∃ s:Bytes,s=at4:=⟨_,rfl⟩;have a3:Xn.getD 0 df=⟨2,1,W⟩:=by rw[v];rfl
 have a4:Xn.getD 1 df=⟨3,1,X⟩:=by rw[w];rfl
 have a5:Xn.getD 2 df=⟨4,1,Y⟩:=by rw[x];rfl
 have a0:Zq.getD 0 df=14:=rfl;have a1:Zq.getD 1 df=15:=rfl;have a2:Zq.getD 2 df=16:=rfl;have a7:=λH=>Xa (orc:=A6) 2 1 W (by rw[v];decide +kernel) H;have a8:=λH=>Xa (orc:=A6) 3 1 X (by rw[w];decide +kernel) H;have a9:=λH=>Xa (orc:=A6) 4 1 Y (by rw[x];decide +kernel) H;have aa:=λH=>Xa (orc:=A6) 5 1 V (by rw[e];decide +kernel) H;have ab:=λH=>Xa (orc:=A6) 6 1 rT (by rw[g,f,e];decide +kernel) H;have hY:[(14,Dh ⟨2,1,W⟩),(15,Dh ⟨3,1,X⟩),(16,Dh ⟨4,1,Y⟩),(17,Dh ⟨5,1,V⟩),(18,Dh ⟨6,1,rT⟩)]=av4:=by rw[v,w,x,g,f,e];rfl
 generalize Dh ⟨2,1,W⟩=Y0 at *;generalize Dh ⟨3,1,X⟩=Y1 at *;generalize Dh ⟨4,1,Y⟩=Y2 at *;generalize Dh ⟨5,1,V⟩=Y3 at *;generalize Dh ⟨6,1,rT⟩=Y4 at *;have aj:∀ H,K tab A6 A5 80 [.agg [A4 B4 Kp.last,A4 Ay Kp.wait,.N Kp.lies,.N Kp.arm,.bool false],.fz [[.N 14,.str Y0],[.N 15,.str Y1],[.N 16,.str Y2],[.N 17,.str Y3],[.N 18,.str Y4]]] H=some (.tuple [.agg [A4 B4 Uf.last,A4 Ay Uf.wait,.N Uf.lies,.N Uf.arm,.bool Uf.down],.bool true],H):=by
  intro H;have h:=ak9 Kp ek2 (some av4) (by decide +kernel) Uf rfl d50 H;rw[B,B5,<-hY]at h;exact h
 obtain⟨F0,m⟩:∃ F:Sl (Int×Bytes),F=Iu 60 Gw 0:=⟨_,rfl⟩;obtain⟨F1,o⟩:∃ F:Sl (Int×Bytes),F=Iu 60 Gw 1:=⟨_,rfl⟩;have I:∀ H,K tab A6 A5 127 [.N 60,.agg [.N 1,.N 7,.N 1,.N k.addr,.N k.birth,.M k.sum.a.toNat,.M k.sum.b.toNat,.M k.sum.c.toNat,.M k.sum.d.toNat],.N 0] H=some (A4 Ay F0,H):=by
  intro H;rw[m,q,g,f,e];exact c0d 60 0 1 7 1 _ _ _ _ _ _ H
 have J:∀ H,K tab A6 A5 127 [.N 60,.agg [.N 1,.N 7,.N 1,.N k.addr,.N k.birth,.M k.sum.a.toNat,.M k.sum.b.toNat,.M k.sum.c.toNat,.M k.sum.d.toNat],.N 1] H=some (A4 Ay F1,H):=by
  intro H;rw[o,q,g,f,e];exact c0d 60 1 1 7 1 _ _ _ _ _ _ H
 have T:=λH=>ak9 Uf ek1 F0 (by rw[m];decide +kernel) a7m (by rw[m];rfl) (by rw[m];exact d4z) H;have U:=λH=>ak9 a7m ek0 F1 (by rw[o];decide +kernel) Fq (by rw[o];rfl) (by rw[o];exact d4y) H;have j:IntKind.i64.wrap 2=2:=by decide
 have D:IntKind.i64.wrap 3=3:=by decide
 generalize hr:Aj _ _ _=r;refine U7 (Q:=λr=>E5 _ _ _ (Bm _ _ (Bi _ r))=_) hr ?_;simp(disch:=try exact dq)only[tx,seval,l,B0,Zh,a3,a0,a7];generalize ac:Aj _ _ _=r2;refine U7 (Q:=λr=>E5 _ _ _ (Bm _ _ (Bi _ r))=_) ac ?_;simp(disch:=try exact dq)only[tx,seval,l,i,j,D,B0,Zh,a4,a1,a8];generalize ad:Aj _ _ _=r3;refine U7 (Q:=λr=>E5 _ _ _ (Bm _ _ (Bi _ r))=_) ad ?_;simp(disch:=try exact dq)only[tx,seval,l,i,j,D,B0,Zh,a5,a2,a9];generalize ae:Aj _ _ _=r4;refine Vl (Q:=λr=>E5 _ _ _ (Bm _ _ (Bi _ r))=_) ae ?_;simp(disch:=try exact dq)only[tx,seval,l,i,j,D,f5q,Gv,aa,ab,aj];generalize af:Aj _ _ _=r5;refine U7 (Q:=λr=>E5 _ _ _ (Bm _ _ (Bi _ r))=_) af ?_;simp(disch:=try exact dq)only[tx,seval,i,j,I,T];generalize ag:Aj _ _ _=r6;refine U7 (Q:=λr=>E5 _ _ _ (Bm _ _ (Bi _ r))=_) ag ?_;simp(disch:=try exact dq)only[tx,seval,i,j,J,U];generalize ah:Aj _ _ _=r7;refine Vl (Q:=λr=>E5 _ _ _ (Bm _ _ (Bi _ r))=_) ah ?_;simp(disch:=try exact dq)only[tx,seval,i,j,f5q];have Z:u=Hp 17 b4q:=by rw[f,e];rfl
 have e2:k=Gw.root:=by rw[q,g,Z];rfl
 rw[Z,e2];rfl
def dm6(L:Sl Dset)(n:L=some [⟨1,1,0,0,some Jw⟩])(H:AH):K tab A6 A5 37 [.N 60,.N 7] H=some (.tuple [.agg [A4 B4 Fq.last,A4 Ay Fq.wait,.N Fq.lies,.N Fq.arm,.bool Fq.down,.N Gw.root.addr,.N Gw.root.birth,.M Gw.root.sum.a.toNat,.M Gw.root.sum.b.toNat,.M Gw.root.sum.c.toNat,.M Gw.root.sum.d.toNat,.N Bp.txg,.N Bp.next,.N Bp.guid,.N Bp.table.addr,.N Bp.table.birth,.M Bp.table.sum.a.toNat,.M Bp.table.sum.b.toNat,.M Bp.table.sum.c.toNat,.M Bp.table.sum.d.toNat,.N Bp.space.addr,.N Bp.space.birth,.M Bp.space.sum.a.toNat,.M Bp.space.sum.b.toNat,.M Bp.space.sum.c.toNat,.M Bp.space.sum.d.toNat,.N Bp.kept.addr,.N Bp.kept.birth,.M Bp.kept.sum.a.toNat,.M Bp.kept.sum.b.toNat,.M Bp.kept.sum.c.toNat,.M Bp.kept.sum.d.toNat,.N Bp.keptTxg,A4 A8 K2.held,A4 A8 K2.one,A4 A8 K2.two,A4 A8 K2.kept,.N 1,.N 1,A4 Ao L,.bool false],.bool true],H):=by
 refine Ae l37 rfl rfl (by simp[Aa,Ab,Ai]) ?_ H;have l:=λH=>c1v 7 H;have m:=λH=>b3g 88 om om H;simp only[Eg]at m;have o:=λH=>a56 (orc:=A6) (lk:=A5) 60 0 H (λH=>Xm 60 H);have p:=λH=>a56 (orc:=A6) (lk:=A5) 60 1 H (λH=>Xm 60 H);have q:=λH=>a56 (orc:=A6) (lk:=A5) 60 2 H (λH=>Xm 60 H);have s:=λH=>a56 (orc:=A6) (lk:=A5) 60 3 H (λH=>Xm 60 H);have i:=λH=>cm5 (orc:=A6) 7 60 H;have A:[(Fr 60 0,K3 7 60),(Fr 60 1,K3 7 60),(Fr 60 2,K3 7 60),(Fr 60 3,K3 7 60)]=av5:=rfl;have k:=λH=>ak9 (Di 88) ek3 (some av5) (by decide) Kp rfl d51 H;rw[B5,<-A]at k;have t:=λH=>dm8 H;have j:=λH=>d60 L n H;rw[n,B5]at j;generalize K3 7 60=C at *;generalize Fr 60 0=a0 at *;generalize Fr 60 1=a1 at *;generalize Fr 60 2=a2 at *;generalize Fr 60 3=a3 at *;simp only[f5b,f5x,Ay,Ao]at k j;have u:Lt Ap (some Jw)=.fz (Jw.map Ap):=rfl;rw[u]at j;have e:IntKind.i64.wrap 1=1:=by decide
 have f:IntKind.i64.wrap 2=2:=by decide
 have g:IntKind.i64.wrap 3=3:=by decide
 have h:IntKind.i64.wrap 4=4:=by decide
 have z:IntKind.i64.wrap 88=88:=by decide
 simp(disch:=try exact dq)only[tx,seval,g37,z,l,m];generalize B:Aj _ _ _=r;refine U7 (Q:=λr=>E5 _ _ _ (Bm _ _ (Lg _ _ (Bi _ r)))=_) B ?_;simp(disch:=try exact dq)only[tx,seval,e,f,g,h,o,i];generalize v:Aj _ _ _=D;refine U7 (Q:=λr=>E5 _ _ _ (Bm _ _ (Lg _ _ (Bi _ r)))=_) v ?_;simp(disch:=try exact dq)only[tx,seval,e,f,g,h,p,i];generalize w:Aj _ _ _=E;refine U7 (Q:=λr=>E5 _ _ _ (Bm _ _ (Lg _ _ (Bi _ r)))=_) w ?_;simp(disch:=try exact dq)only[tx,seval,e,f,g,h,q,i];generalize x:Aj _ _ _=F;refine U7 (Q:=λr=>E5 _ _ _ (Bm _ _ (Lg _ _ (Bi _ r)))=_) x ?_;simp(disch:=try exact dq)only[tx,seval,e,f,g,h,s,i];generalize y:Aj _ _ _=G;refine Vl (Q:=λr=>E5 _ _ _ (Bm _ _ (Lg _ _ (Bi _ r)))=_) y ?_;simp(disch:=try exact dq)only[tx,seval,e,f,g,h,f5q,k,t,j];rw[n];rfl
def dc5(L:Sl Dset)(g:L=some [⟨1,1,0,0,some Jw⟩])(f:Sl UInt8):Ev tab A6 A5 12 [.ptr 0 0 0 1,.N 60,.N 0] [some [[A4 pu8 f,.N 0]]]=some (.agg [A4 B4 Fq.last,A4 Ay Fq.wait,.N Fq.lies,.N Fq.arm,.bool Fq.down,.N Gw.root.addr,.N Gw.root.birth,.M Gw.root.sum.a.toNat,.M Gw.root.sum.b.toNat,.M Gw.root.sum.c.toNat,.M Gw.root.sum.d.toNat,.N Bp.txg,.N Bp.next,.N Bp.guid,.N Bp.table.addr,.N Bp.table.birth,.M Bp.table.sum.a.toNat,.M Bp.table.sum.b.toNat,.M Bp.table.sum.c.toNat,.M Bp.table.sum.d.toNat,.N Bp.space.addr,.N Bp.space.birth,.M Bp.space.sum.a.toNat,.M Bp.space.sum.b.toNat,.M Bp.space.sum.c.toNat,.M Bp.space.sum.d.toNat,.N Bp.kept.addr,.N Bp.kept.birth,.M Bp.kept.sum.a.toNat,.M Bp.kept.sum.b.toNat,.M Bp.kept.sum.c.toNat,.M Bp.kept.sum.d.toNat,.N Bp.keptTxg,A4 A8 K2.held,A4 A8 K2.one,A4 A8 K2.two,A4 A8 K2.kept,.N 1,.N 1,A4 Ao L,.bool false],[some [[A4 pu8 f,.N 0]]]):=by
 refine Bz l12 rfl ?_;have e:=λH=>dm6 L g H;simp(disch:=try exact dq)only[tx,seval,g12,e];generalize h:Aj _ _ _=r;refine Vl (Q:=λr=>E5 _ _ _ (Bm _ _ (Bi _ r))=_) h ?_;simp(disch:=try exact dq)only[tx,seval,f5q]
 try rfl
def Sm:Pool:=⟨Fq,Gw.root,Bp,K2,1,1,some [⟨1,1,0,0,some Jw⟩],false⟩
def iA:Pool×Int:=L6 Fq 0
def iB:Pool×Int:=L6 Fq 3
def iCk:Bool:=decide (iA.2=0)&&decide (twD iA.1.d=twD Sm.d)&&decide (iA.1.at'=Sm.at')&&decide (iA.1.r=Sm.r)&&decide (iA.1.s.n=Sm.s.n)&&decide (iA.1.seat=Sm.seat)&&decide (iA.1.last=Sm.last)&&decide (iA.1.sets=Sm.sets)&&decide (iA.1.only=Sm.only) &&
 decide (iB.2=0)&&decide (iB.1.only=true)&&decide (((els iB.1.sets).length:Int)=1)&&decide ((L6 (Di 68) 1).2=14)&&decide ((L6 Fq 2).2=2)&&decide ((L6 Fq 4).2=1)&&a6s iA.1&&a6s Sm&&a6s iB.1
def e55:iCk=true:=by decide +kernel
def ay0(d:Dev):Bool:=decide ((els d.last).length<=1000)&&decide ((els d.wait).length<=1000)&&(els d.last).all (λs=>decide (s.length<=256))&&(els d.wait).all (λq=>decide (q.2.length<=256))&&decide (d.arm<=1000)&&decide (-1000<=d.lies)&&decide (d.lies<=1000)
def ci8{d:Dev}(h:ay0 d=true):DevOk d/\DevB d 10000:=by
 unfold ay0 at h;simp only[f32,f2f,f35]at h;obtain⟨⟨⟨⟨⟨⟨a,e⟩,h3⟩,h4⟩,h5⟩,h6⟩,h7⟩:=h;exact⟨⟨a,by omega,h3,h4⟩,⟨by omega,by omega,λs c=>f61 (h3 s c) (by decide),λq b=>f61 (h4 q b) (by decide),by omega,by omega⟩⟩
def em2:ay0 Fq=true:=by decide +kernel
def em1:ay0 (Di 68)=true:=by decide +kernel
def eq5(H:AH):K tab A6 A5 5 [] H=some (.bool true,H):=by
 refine Ae l5 rfl rfl rfl ?_ H;have j:=e55;unfold iCk at j;simp only[f32,f2f]at j;obtain⟨⟨⟨⟨⟨⟨⟨⟨⟨⟨⟨⟨⟨⟨⟨⟨⟨D,F⟩,G⟩,I⟩,J⟩,M⟩,N⟩,O⟩,P⟩,o⟩,p⟩,q⟩,r⟩,s⟩,t⟩,u⟩,v⟩,E⟩:=j;obtain⟨e,V,f⟩:=c08 u;obtain⟨g,W,z⟩:=c08 v;obtain⟨h,i⟩:=ci8 em2;obtain⟨Q,R⟩:=ci8 em1;have x:=c2x none;obtain⟨L,w⟩:∃ L:Sl Dset,L=some [⟨1,1,0,0,some Jw⟩]:=⟨_,rfl⟩;have y:=dc5 L w none;have k:=λH=>a2p Fq h i 0 H;have d:=λH=>a2p Fq h i 3 H;have l:=λH=>a2p (Di 68) Q R 1 H;have m:=λH=>a2p Fq h i 2 H;have n:=λH=>a2p Fq h i 4 H;have a:=λH=>b3g 68 om om H;rw[show L6 Fq 0=iA from rfl,D]at k;rw[show L6 Fq 3=iB from rfl,o]at d;rw[r]at l;rw[s]at m;rw[t]at n;have c:=λH=>d8d iA.1 Sm F G I J M N O P f.last f.wait z.last z.wait ⟨e.b.held,e.b.one,e.b.two,e.b.kept⟩ ⟨g.b.held,g.b.one,g.b.two,g.b.kept⟩ f.sets f.files H;generalize (L6 (Di 68) 1).1=S at *;generalize (L6 Fq 2).1=T at *;generalize (L6 Fq 4).1=U at *;generalize Di 68=C at *;unfold Sm at c;rw[Er]at x y;generalize iA.1=A at *;generalize iB.1=B at *;unfold C1 at k d l m n c;simp only[Eg,p]at a d;simp only[<-w]at c;simp(disch:=try exact dq)only[tx,seval,g5,KQ 6 rfl,KQ 12 rfl,Am,x,y,k,d,l,m,n,a,c,q]
section
structure Rdy(n:Nat)(d:Dev):Prop where
 down:d.down=false
 arm:d.arm<=0
 len:(els d.last).length=n
def b07(n:Nat)(p:Int×Bytes):Prop:=0<=p.1/\p.1<n/\p.2.length=256
theorem b7x{n:Nat}:∀ (l:List (Int×Bytes)) {d:Dev},Rdy n d->(∀ p∈l,b07 n p)->(Dl d l).2=true/\Rdy n (Dl d l).1
 |[],d,h,_=>⟨rfl,h⟩
 |p::l,d,h,hp=>by
   obtain⟨c,e,h3⟩:=hp p (f1u ..);have a:Je d p=true:=by
    unfold Je
    have:=h.len;simp only[f32,f2f];omega
   rw[Dl,iP a,iN (by have:=h.arm;omega)];exact b7x l (d:=S2 d p) ⟨h.down,h.arm,h.len⟩ (λq b=>hp q (f0y _ b))
theorem eh6{n:Nat}{d:Dev}(h:Rdy n d):(Uq d).2=true/\Rdy n (Uq d).1:=by
 unfold Uq;rw[iN (by rw[h.down];exact f2d)];split
 ·exact⟨rfl,h.down,h.arm,h.len⟩
 ·exact⟨rfl,h.down,h.arm,by show(Hz _ _ _ _).length=n;rw[Z1];exact h.len⟩
theorem b0f{n:Nat}{d:Dev}(h:Rdy n d)(l:List (Int×Bytes))(c:∀ p∈l,b07 n p):(Im d l).2=true/\Rdy n (Im d l).1:=by
 have b:Rdy n (twD d):=⟨h.down,h.arm,h.len⟩;have e:Co (twD d) l=Dl (twD d) l:=by unfold Co;rw[iN (by rw[b.down];exact f2d)]
 have a:=b7x l b c;unfold Im;rw[e,iP a.1];exact eh6 a.2
theorem d9t{u:Uber}(h:mayUber u=true):(Js u).length=256:=by
 unfold Js Z3;rw[iP h];simp only[f1q,Ew _ _ (show([4,4,4,4]:lN).length=(a5w (Dc (Ba [1,4,4,1] [171,u.txg,u.guid,u.seat]++Fb u.root))).length from rfl),Ew _ _ (show([1,4,4,1]:lN).length=[171,u.txg,u.guid,u.seat].length from rfl),Tv,Wl];simp
theorem bm8{n k s:Int}(a:Ek n=true)(d:0<=k/\k<4)(e:0<=s/\s<6):0<=Px n k s/\Px n k s<n+28:=by
 have c:40<=n/\n<=240:=by unfold Ek at a;simpa using a
 have b:Fr n k=if 2<=k then k*7+n else k*7:=by
  unfold Fr;rw[iN (by rw[a];simp;omega)]
 unfold Px;rw[b];split<;>split<;>omega
theorem c0b{n:Nat}(u:Uber)(a:Int)(f:a=0\/a=1):∀ p∈els (Iu ((n:Int)-28) u a),b07 n p:=by
 intro p b;unfold Iu at b;split at b
 ·rename_i c;have d:=c.2.1;have e:0<=u.seat/\u.seat<6:=by unfold mayUber at d;simp only[f32,f2f]at d;omega
  have h6:=d9t d;simp only[Az,f5h,f3c,f6z]at b;rcases b with rfl|rfl
  ·have:=bm8 (k:=a) c.1 om e;exact⟨this.1,by omega,h6⟩
  ·have:=bm8 (k:=a+2) c.1 om e;exact⟨this.1,by omega,h6⟩
 ·cases b
theorem ej8{n:Nat}{d:Dev}(h:Rdy n d)(u:Uber):(Ut d u).2=true/\Rdy n (Ut d u).1:=by
 have a:=b0f h _ (c0b (n:=n) u 0 (.inl rfl));unfold Ut;rw[h.len];rw[iP a.1];exact b0f a.2 _ (c0b (n:=n) u 1 (.inr rfl))
variable {txg:Int} {free:List Int}
structure LWg(txg:Int)(free:LI)(w:LW):Prop where
 at':w.at'=(List.range w.bl.length).map (addrW free)
 bl:∀ x∈w.bl,mayBlock x=true
theorem LWg.point{w:LW}(h:LWg txg free w)(p:Ptr):LWg txg free (w.point p):=⟨h.at',h.bl⟩
theorem LWg.put{w:LW}(h:LWg txg free w)(f:1<=txg/\txg<=1073741824){a:Int}(d:1<=a/\a<=6){b:Bytes}(e:b.length<=249):LWg txg free (w.put txg free a b).2:=by
 refine⟨?_,?_⟩
 ·simp only[LW.put,f1q,f33,f3w,f66,f4g,f4c,f5b,f5x];rw[h.at']
 ·intro x c;simp only[LW.put,f43,f1t]at c;rcases c with c|rfl
  ·exact h.bl x c
  ·unfold mayBlock;simp only[f32,f2f];omega
theorem LWg.part{w:LW}(h:LWg txg free w)(b:1<=txg/\txg<=1073741824)(n k:Nat){s:Bytes}(a:s.length<=249):LWg txg free (w.part txg free n k s).2:=by
 unfold LW.part;split
 ·exact h
 ·split
  ·exact h.point _
  ·exact h.put b om a
theorem LWg.partJ{w:LW}(h:LWg txg free w)(a:1<=txg/\txg<=1073741824)(n:Nat)(b:Bytes):∀ j,LWg txg free (LW.partJ txg free w n b j).2
 |0=>h
 |j+1=>by rw[LW.partJ];exact(LWg.partJ h a n b j).part a n j (f61 (b2x b j) om)
theorem db3(x:NodeH)(z:Int)(l:LT):(Dx x z l).length<=249:=by
 unfold Dx;split
 ·rename_i h;simp only[f1q,a47,Ew [1,1,1] [x.kind,x.up,(x.name.length:Int)] rfl,Ew [2] [z] rfl,h.2.2.2.1]
  have:=h.1.2.2.2;simp;omega
 ·simp
theorem d9y(l:LT):(Gt l).length<=249:=by
 unfold Gt;split
 ·rename_i h
  have:=X9 l;omega
 ·simp
theorem d9u(l:List DsetH)(p:LT):(Fo l p).length<=249:=by
 unfold Fo;split
 ·rename_i h;rw[f1q,Uw]
  have:=a6p l p;omega
 ·simp
theorem da0(r:Root):(Jt r).length<=249:=by
 unfold Jt;split
 ·simp only[f1q,Tv,Ew [4,4,4] [r.txg,r.next,r.guid] rfl,Ew [4] [r.keptTxg] rfl];simp
 ·simp
theorem ar0(n:Int)(l:LR):(Mz n l).length<=30:=by
 unfold Mz;split
 ·rename_i h;have a:40<=n/\n<=240:=by have:=h.1;unfold Ic at this;simpa using this
  unfold Yj;rw[f3z,f2z];omega
 ·simp
theorem d9x(n:Int)(s:SpaceL):(Jd n s).length<=249:=by
 unfold Jd;split
 ·have a:=ar0 n s.held;have b:=ar0 n s.one;have h3:=ar0 n s.two;have h4:=ar0 n s.kept;simp only[f1q];omega
 ·simp
theorem LWg.node1{w:LW}(h:LWg txg free w)(a:1<=txg/\txg<=1073741824)(n:Nat)(x:Node)(l:LT):LWg txg free (w.node1 txg free n x l).2:=by
 unfold LW.node1;split
 ·exact h.point _
 ·exact h.put a om (db3 _ _ _)
theorem LWg.node{w:LW}(h:LWg txg free w)(a:1<=txg/\txg<=1073741824)(n:Nat)(x:Node):LWg txg free (w.node txg free n x).2:=by
 unfold LW.node;split
 ·exact h
 ·exact(h.partJ a n x.body 4).node1 a n x _
theorem LWg.nodes{w:LW}(h:LWg txg free w)(a:1<=txg/\txg<=1073741824)(l:LT):LWg txg free (w.nodes txg free l).2:=by
 unfold LW.nodes;split
 ·exact h.point _
 ·exact h.put a om (d9y _)
theorem LWg.setJ{w:LW}(h:LWg txg free w)(a:1<=txg/\txg<=1073741824)(f:LO):∀ j,LWg txg free (LW.setJ txg free w f j).2
 |0=>h
 |j+1=>by rw[LW.setJ];exact(LWg.setJ h a f j).node a j _
theorem LWg.set{w:LW}(h:LWg txg free w)(a:1<=txg/\txg<=1073741824)(x:Dset):LWg txg free (w.set txg free x).2:=by
 have:=(h.setJ a (els x.files) (els x.files).length).nodes a (LW.setJ txg free w (els x.files) (els x.files).length).1.1;exact⟨this.at',this.bl⟩
theorem LWg.setsJ{w:LW}(h:LWg txg free w)(a:1<=txg/\txg<=1073741824)(l:LD):∀ j,LWg txg free (LW.setsJ txg free w l j).2
 |0=>h
 |j+1=>by rw[LW.setsJ];exact(LWg.setsJ h a l j).set a _
theorem ds5(b:1<=txg/\txg<=1073741824)(l:LD)(a:List OldW):LWg txg free (K1 txg free l a).2:=by
 have c:LWg txg free ⟨[],[],[],a⟩:=⟨rfl,λ_ h=>by cases h⟩;exact(c.setsJ b l l.length).put b om (d9u _ _)
structure PlanG(n:Int)(q:PlanP):Prop where
 len:q.at'.length=q.bl.length
 rest:q.rest.length=2
 bl:∀ x∈q.bl,mayBlock x=true
 at':∀ a∈q.at'++q.rest,14<=a/\a<14+n
theorem eg8{n:Int}{s:SpaceL}{x:Int}(h:hasR (Gk n s) x=true):14<=x/\x<14+n:=by
 unfold Gk at h;split at h
 ·simp only[av1,f32]at h
  have:=h.1.1.1.1;rw[Dq,Nz]at this;obtain⟨q,c,a,b⟩:=this;obtain rfl:=f1t.1 c;exact⟨a,b⟩
 ·cases h
theorem ds6{n:Int}{s:SpaceL}{l:LD}{b:List OldW}{q:PlanP}(h:Qa txg (Gk n s) l b=some q):PlanG n q/\1<=txg/\txg<=1073741824:=by
 unfold Qa at h;split at h
 ·rename_i j;obtain⟨e,m⟩:=j;unfold a78 at e;simp only[f32,f2f]at e;have g:1<=txg/\txg<=1073741824:=⟨e.1.1.2,e.1.2⟩;have f:=ds5 (free:=Eb (Gk n s)) g l b;have d:∀ x∈Eb (Gk n s),14<=x/\x<14+n:=λx k=>eg8 (dn8.1 (f0s k));generalize K1 txg (Eb (Gk n s)) l b=w at *;generalize Eb (Gk n s)=fr at *;cases h;refine⟨⟨?_,?_,f.bl,?_⟩,g⟩
  ·show w.2.at'.length=w.2.bl.length;rw[f.at',f3z,f2z]
  ·show((fr.drop _).take 2).length=2;rw[f3l,f38];omega
  ·intro a c;rcases f43.1 c with c|c
   ·have c:a∈w.2.at':=c;rw[f.at',f62]at c;obtain⟨i,hi,rfl⟩:=c;rw[f4q]at hi;unfold addrW;rw[iP om];exact d _ (O1 om)
   ·exact d _ (f0t (f0s c))
 ·cases h
theorem dm4{n:Nat}{p:Pool}{q:PlanP}(d:PlanG ((n:Int)-28) q)(g:1<=p.last+1/\p.last+1<=1073741824):∀ x∈Nf p q,b07 n x:=by
 intro x e;unfold Nf at e;obtain⟨i,hi,rfl⟩:=f1i e;rw[f11];have b:i<(q.at'++q.rest).length:=by rw[f1h]at hi;omega
 have c:i<(q.bl++[Qp p,Qt p q]).length:=by rw[f1h]at hi;omega
 have f:=d.at' _ (f3e b);refine⟨by show 0<=_;omega,by show _<_;omega,bz7 ?_⟩;have a:(q.bl++[Qp p,Qt p q])[i]∈q.bl++[Qp p,Qt p q]:=f3e c;generalize (q.bl++[Qp p,Qt p q])[i]=y at *;rcases f43.1 a with a|a
 ·exact d.bl y a
 ·simp only[f5h,f3c,f6z]at a;rcases a with rfl|rfl
  ·have:=d9x (W6 p) p.s.n;unfold mayBlock Qp;simp only[f32,f2f];omega
  ·have:=da0 (Xj p q);unfold mayBlock Qt;simp only[f32,f2f];omega
theorem ek7{n:Nat}{p:Pool}{q:PlanP}(c:Rdy n p.d)(e:PlanG ((n:Int)-28) q)(f:1<=p.last+1/\p.last+1<=1073741824):(a4i p q).2=0/\(a4i p q).1.sets=p.sets/\(a4i p q).1.only=p.only:=by
 have a:=b0f c (Nf (Fu p q) q) (dm4 (p:=Fu p q) e f);have b:=ej8 a.2 (ubG (Xk (Fu p q) q));unfold a4i;rw[iP a.1,iP b.1];exact⟨rfl,rfl,rfl⟩
theorem d5y{n:Nat}{p:Pool}(e:Rdy n p.d)(g:p.only=false)(i:maySetsP (els p.sets)=true)(a:List OldW) :
 (Tg p true a).2=8\/((Tg p true a).2=0/\els (Tg p true a).1.sets=(els p.sets).map K9/\(Tg p true a).1.only=false):=by
 unfold Tg;rw[iN (by rw[e.down];exact f2d),iN (by rw[g];exact f2d),iN (by rw[i];exact λh=>by cases h)];split
 ·exact .inl rfl
 ·split
  ·exact .inl rfl
  ·rename_i q j;rw[iP (by rw[f6e])];have f:=ds6 j;have c:Rdy n (Md p).d:=⟨e.down,e.arm,e.len⟩;have b:W6 (Md p)=(n:Int)-28:=(by unfold W6;rw[c.len]);rw[b]at f
   have:=ek7 c f.1 f.2;exact .inr ⟨this.1,by rw[this.2.1];rfl,by rw[this.2.2];exact g⟩
end
def b0d:∀ (l:List (Int×Bytes)) {d:Dev} {n:Nat},Rdy n d->Rdy n (Dl d l).1
 |[],_,_,h=>h
 |p::l,d,n,h=>by
   rw[Dl];split
   ·rw[iN (by have:=h.arm;omega)];exact b0d l (d:=S2 d p) ⟨h.down,h.arm,h.len⟩
   ·exact h
def c54(o:List (Int×Bytes)):Rdy 68 (Lz o):=by
 have b:Rdy 68 (Di 68):=⟨rfl,f6u _,by decide⟩;have c:Co (Di 68) o=Dl (Di 68) o:=rfl;have a:=b0d o b;unfold Lz;rw[c];generalize (Dl (Di 68) o).1=e at *;unfold T5;rw[iN (by rw[a.down];exact f2d)];split
 ·exact⟨a.down,a.arm,a.len⟩
 ·exact⟨a.down,a.arm,by show(Kn _ _ _).length=68;rw[a79];exact a.len⟩
def e4i(o:List (Int×Bytes))(l:o.length<=1000):DevB (Lz o) 10000:=by
 have a:=c55 o om;have j:=c54 o;have d:(els (Lz o).wait).length<=1000/\(Lz o).lies=0:=by
  have f:Rdy 68 (Di 68):=⟨rfl,f6u _,by decide⟩;have g:Co (Di 68) o=Dl (Di 68) o:=rfl;have c:=Yr o (Di 68);have h:=b0d o f;have b:(Di 68).lies=0:=rfl;unfold Lz;rw[g];rw[b]at c;generalize (Dl (Di 68) o).1=e at *;unfold T5;rw[iN (by rw[h.down];exact f2d),iN om];exact⟨f6m _,c⟩
 exact⟨by have:=a.last;omega,by have:=d.1;omega,λs k=>f61 (a.ltx s k) (by decide),λq i=>f61 (a.wtx q i) (by decide),by have:=j.arm;omega,by have:=d.2;omega⟩
def b85{d:Dev}{p:Ptr}{v:ViewL}(h:Ff d p=some v):∀ x∈v.sets,tornNodes (els x.files)=true:=by
 obtain⟨w,b,a,_,_⟩:=d56 h
 have:=bs3 b;rw[<-a];exact this
def d90{d:Dev}{p:Ptr}{v:ViewL}(h:Ln d p=some v):v.sets.length<=8:=(bs4 h).n
structure AnyR(d:Dev)(how:Int)(r:Pool×Int):Prop where
 bad:r.2≠0->(r.2=14\/(r.2=12/\(how=0\/how=2))\/(how=2/\(r.2=2\/r.2=8)))/\els r.1.sets=[]/\twD r.1.d=twD d
 torn:r.2=0->∀ x∈els r.1.sets,tornNodes (els x.files)=true
 only:r.2=0->r.1.only=decide (how=3)
 same:r.2=0->how≠2->twD r.1.d=twD d
 may:r.2=0->how≠3->maySetsP (els r.1.sets)=true
 len:r.2=0->(els r.1.sets).length<=8
 files:r.2=0->∀ x∈els r.1.sets,FilesOk (els x.files)
def am0{l:LD}(h:maySetsP l=true):l.map K9=l:=by
 have h8:=a2a h
 conv=>rhs;rw[<-f6r l]
 refine f16 λx d=>?_;obtain⟨a,b,c,e,f⟩:=x
 have:=(h8 _ d).1;cases f with
 |none=>cases this
 |some f=>rfl
def df2{n:Nat}{d:Dev}(j:Rdy n d)(b:Int)(l:List Uber)(a:Int) :
 ((J3 d b l a).2≠0->((J3 d b l a).2=14\/((J3 d b l a).2=12/\(a=0\/a=2))\/(a=2/\((J3 d b l a).2=2\/(J3 d b l a).2=8))))/\((J3 d b l a).2=0->AnyR d a (J3 d b l a)):=by
 unfold J3;split
 ·by_cases c:a=0
  ·subst c;exact⟨λ_=>.inr (.inl ⟨rfl,.inl rfl⟩),λh=>(by cases h)⟩
  ·rw[iN c];exact⟨λ_=>.inl rfl,λh=>(by cases h)⟩
 ·rename_i u v q;have g:=(Vz q).1;by_cases o:a=2
  ·subst o;rw[iP rfl];unfold a2l;split
   ·exact⟨λ_=>.inr (.inr ⟨rfl,.inl rfl⟩),λh=>(by cases h)⟩
   ·split
    ·exact⟨λ_=>.inr (.inl ⟨rfl,.inr rfl⟩),λh=>(by cases h)⟩
    ·rename_i k m;have i:=(a16 m).1;have p:Rdy n (a4z d b u v k).d:=⟨j.down,j.arm,j.len⟩;rcases d5y p rfl i (Ch [Sn v,Sn k] 2)with e|⟨e1,e2,e3⟩
     ·exact⟨λ_=>.inr (.inr ⟨rfl,.inr e⟩),λh=>by rw[e]at h;cases h⟩
     ·refine⟨λh=>absurd e1 h,λ_=>⟨λh=>absurd e1 h,λ_=>?_,λ_=>?_,λ_ h=>absurd rfl h,λ_ _=>?_,λ_=>?_,λ_=>?_⟩⟩
      ·rw[e2];show ∀ x∈k.sets.map K9,_;rw[am0 i];exact b85 m
      ·rw[e3];decide
      ·rw[e2];show maySetsP (k.sets.map K9)=true;rw[am0 i];exact i
      ·rw[e2];show(k.sets.map K9).length<=8;rw[am0 i];exact Xl i
      ·rw[e2];show ∀ x∈k.sets.map K9,_;rw[am0 i];exact(b0h m).1.f
  ·rw[iN o];refine⟨λh=>absurd rfl h,λ_=>⟨λh=>absurd rfl h,λ_=>?_,λ_=>rfl,λ_ _=>rfl,λ_ h3=>?_,λ_=>?_,λ_=>?_⟩⟩
   ·unfold Q9 at g;split at g
    ·exact bs3 g
    ·exact b85 g
   ·unfold Q9 at g;rw[iN h3]at g;exact(a16 g).1
   ·unfold Q9 at g;split at g
    ·exact d90 g
    ·exact Xl (a16 g).1
   ·unfold Q9 at g;split at g
    ·exact(bs4 g).f
    ·exact(b0h g).1.f
def e52{n:Nat}{d:Dev}(b:Rdy n d)(a:Int)(g:0<=a/\a<=3):AnyR d a (L6 d a):=by
 unfold L6;rw[iN om,iN (by rw[b.down];exact f2d)];have Xs:AnyR d a (Wd d,14):=⟨λ_=>⟨.inl rfl,rfl,rfl⟩,λh=>(by cases h),λh=>(by cases h),λh=>(by cases h),λh=>(by cases h),λh=>(by cases h),λh=>(by cases h)⟩;split
 ·exact Xs
 ·rename_i r l _;have e:=df2 b r.txg (r::l) a;simp only[];generalize J3 d r.txg (r::l) a=q at *;by_cases c:q.2=0
  ·rw[iP c];exact e.2 c
  ·rw[iN c];have f:=e.1 c;refine⟨λ_=>⟨f,?_,?_⟩,λh=>absurd h c,λh=>absurd h c,λh=>absurd h c,λh=>absurd h c,λh=>absurd h c,λh=>absurd h c⟩
   ·split<;>rfl
   ·rw[iN om];rfl
def e53(M:Sl UInt8)(h:Int)(hh:0<=h/\h<256)(H:AH):K tab A6 A5 3 [A4 pu8 M,.int .u8 h] H=some (.bool true,H):=by
 refine Ae l3 rfl (by simp[Aa,Ab,Ai]) rfl ?_ H;have E:=λH=>eq5 H;by_cases B:200<((els M).length:Int)
 ·simp(disch:=try exact dq)only[tx,seval,g3,E,B]
 ·obtain⟨⟨o,l,n⟩,v,I,z⟩:=e4h M om;simp only[]at v I z;have G:=c2x M;have S:=c55 o om;have Y:=c54 o;have T:=e4i o om;generalize Lz o=D at *;have f:IntKind.u8.wrap (h.tmod 4)=h%4:=by
   have:h.tmod 4=h%4:=ey3 om;rw[this];exact IntWalk.u8_in _ om
  have g:IntKind.i64.wrap (h%4)=h%4:=f52 _ om;obtain⟨k,hk⟩:∃ k:Int,k=h%4:=⟨_,rfl⟩;have X:0<=k/\k<=3:=om;rw[<-hk]at f g;have hI:=λH=>a2p D S T k H;have hA:=e52 Y k X;have q:(els D.last).length<=1000000:=by have:=S.last;omega
  have s:(els D.wait).length<=1000000:=S.wait;generalize L6 D k=r at *;obtain⟨P,e⟩:=r;obtain⟨a1,a2,a3,a4,a5,a6,a7⟩:=hA;simp only[]at a1 a2 a3 a4 a5 a6 a7 hI;simp only[Eg]at z;have m:h.tmod 4=k:=by rw[hk];exact ey3 om
  have p:IntKind.u8.wrap k=k:=IntWalk.u8_in _ om;unfold C1 at hI;have w:(els P.d.last).length<=1000000/\(els P.d.wait).length<=1000000\/¬ (e≠0\/k≠2):=by
   by_cases c:e≠0\/k≠2
   ·left;have J:twD P.d=twD D:=by
     by_cases C:e=0
     ·exact a4 C (by rcases c with c|c;exact absurd C c;exact c)
     ·exact(a1 C).2.2
    unfold twD at J;simp only[Dev.mk.injEq,f2h]at J;rw[J.1,J.2.1];exact⟨q,s⟩
   ·exact .inr c
  by_cases C:e=0
  ·subst C;have b2:=a2 rfl;have b6:=a6 rfl;have b7:=a7 rfl;have i:=λH=>b3o P.sets om (λx L=>b7 x L) H;simp(disch:=try exact dq)only[tx,seval,g3,E,B,KQ 6 rfl,KQ 7 rfl,Am,G,z,m,f,g,p,hI,Aw,Av];generalize hr:Aj _ _ _=r;refine B6 hr (els P.sets).length (λj=>[U,U,U,.ptr 2 0 0 1,U,.N k,.ptr 3 0 0 1,U,.N j,U,U,U,U,U,U]) (λ_=>_) (λ_=>True) ?_ rfl trivial ?_ ?_
   ·rfl
   ·intro j V _;have W:((j:Int)<((els P.sets).length:Int)):=om;obtain⟨x,L⟩:∃ x,(els P.sets).getD j df=x:=⟨_,rfl⟩;have A:x∈els P.sets:=(by rw[<-L];exact O1 V);have F:=b7 x A;have hT:=λH=>bf1 x.files F.1 (λy Z=>(F.2 y Z).1) (λy Z=>(F.2 y Z).2) H;rw[b2 x A]at hT;simp(disch:=try exact dq)only[tx,seval,W,L,hT,Ad,Ao,Ks,f52,Av,Aw]
    try rfl
   ·intro _;have u:(((els P.sets).length:Nat):Int)<=8:=om;rcases(by omega:k=0\/k=1\/k=2\/k=3)with rfl|rfl|rfl|rfl
    ·have v:P.only=false:=(a3 rfl).trans (by decide);have b:(els P.d.last).length<=1000000/\(els P.d.wait).length<=1000000:=by
      rcases w with h|h
      ·exact h
      ·exact absurd (.inr (by decide)) h
     have a:=λH=>a64 P.d D b.1 b.2 q s H;rw[a63 (a4 rfl (by decide))]at a;rw[<-b3n,a5 rfl (by decide)]at i;simp(disch:=try exact dq)only[tx,seval,f5q,v,a,i,u,f52,Av,Aw]
     try rfl
    ·have v:P.only=false:=(a3 rfl).trans (by decide);have b:(els P.d.last).length<=1000000/\(els P.d.wait).length<=1000000:=by
      rcases w with h|h
      ·exact h
      ·exact absurd (.inr (by decide)) h
     have a:=λH=>a64 P.d D b.1 b.2 q s H;rw[a63 (a4 rfl (by decide))]at a;rw[<-b3n,a5 rfl (by decide)]at i;simp(disch:=try exact dq)only[tx,seval,f5q,v,a,i,u,f52,Av,Aw]
     try rfl
    ·have v:P.only=false:=(a3 rfl).trans (by decide);rw[<-b3n,a5 rfl (by decide)]at i;simp(disch:=try exact dq)only[tx,seval,f5q,v,i,u,f52,Av,Aw]
     try rfl
    ·have v:P.only=true:=(a3 rfl).trans (by decide);have b:(els P.d.last).length<=1000000/\(els P.d.wait).length<=1000000:=by
      rcases w with h|h
      ·exact h
      ·exact absurd (.inr (by decide)) h
     have a:=λH=>a64 P.d D b.1 b.2 q s H;rw[a63 (a4 rfl (by decide))]at a;simp(disch:=try exact dq)only[tx,seval,f5q,v,a,u,f52,Av,Aw]
     try rfl
  ·have hE:=a1 C;obtain⟨O,Q,R⟩:=hE;have t:(((els P.sets).length:Nat):Int)=0:=(by rw[Q];rfl);have b:(els P.d.last).length<=1000000/\(els P.d.wait).length<=1000000:=by
    rcases w with h|h
    ·exact h
    ·exact absurd (.inl C) h
   have a:=λH=>a64 P.d D b.1 b.2 q s H;rw[a63 R]at a;rcases O with rfl|⟨rfl,rfl|rfl⟩|⟨rfl,rfl|rfl⟩
   ·simp(disch:=try exact dq)only[tx,seval,g3,E,B,KQ 6 rfl,KQ 7 rfl,Am,G,z,m,f,g,p,hI,t,a,Aw,Av]
    try rfl
   ·simp(disch:=try exact dq)only[tx,seval,g3,E,B,KQ 6 rfl,KQ 7 rfl,Am,G,z,m,f,g,p,hI,t,a,Aw,Av]
    try rfl
   ·simp(disch:=try exact dq)only[tx,seval,g3,E,B,KQ 6 rfl,KQ 7 rfl,Am,G,z,m,f,g,p,hI,t,a,Aw,Av]
    try rfl
   ·simp(disch:=try exact dq)only[tx,seval,g3,E,B,KQ 6 rfl,KQ 7 rfl,Am,G,z,m,f,g,p,hI,t,a,Aw,Av]
    try rfl
   ·simp(disch:=try exact dq)only[tx,seval,g3,E,B,KQ 6 rfl,KQ 7 rfl,Am,G,z,m,f,g,p,hI,t,a,Aw,Av]
    try rfl
end Go.Proofs.YtddlanlnaenaoaaGreatDoor.Abs
