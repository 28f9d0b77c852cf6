/-
  Part 4 of the proof: no condition. (Parts of the abstract layer, of the program's functions in its form, and of their contracts.)
-/
import Derived.Test.YtddlanlnaenaoaaGreatDoorIa3
import Derived.Test.YtddlanlnaenaoaaGreatDoorIa2
import Derived.Test.YtddlanlnaenaoaaGreatDoorProg
import Derived.Shelf.SlSortCmp.NoneTotal
import Derived.Ground.SlsfProg
import Derived.Shelf.Spec.SlicesGrow
set_option maxRecDepth 100000
set_option maxHeartbeats 8000000
set_option linter.unusedSimpArgs false
set_option linter.unusedVariables false
set_option linter.unusedSectionVars false
set_option linter.defProp false
namespace Go.Proofs.YtddlanlnaenaoaaGreatDoor.Abs
def au9(l:LI):DsetH:=match l with
 |[a,b,c,d]=>⟨a,b,c,d⟩
 |_=>⟨0,0,0,0⟩
def Sk(s:Bytes)(j:Nat):List DsetH:=(List.range j).map λi=>au9 (Bq [2,1,2,1] (s.drop (28*i)))
def Sj(s:Bytes)(j:Nat):LT:=(List.range j).map λi=>Jf (Bq H9 (s.drop (28*i+6)))
def dc4(s:Bytes)(j:Nat):Sk s (j+1)=Sk s j++[au9 (Bq [2,1,2,1] (s.drop (28*j)))]:=by simp[Sk,f4g]
def dc2(s:Bytes)(j:Nat):Sj s (j+1)=Sj s j++[Jf (Bq H9 (s.drop (28*j+6)))]:=by simp[Sj,f4g]
def c06(s:Bytes)(j:Nat):(Sk s j).length=j:=by simp[Sk]
def c05(s:Bytes)(j:Nat):(Sj s j).length=j:=by simp[Sj]
def Qi(x:DsetH):LA:=[.N x.id,.N x.kind,.N x.origin,.N x.quota,.emp]
def b6r(x:DsetH):Dset:=⟨x.id,x.kind,x.origin,x.quota,none⟩
def d6t(n:Nat)(s:Bytes):Tl (n+1) s=if 6<=s.length then(if 22<=(s.drop 6).length/\C4 (Jf (Bq H9 (s.drop 6)))=true then (match Tl n (s.drop 28)with|some (l,q,u)=>some (au9 (Bq [2,1,2,1] s)::l,Jf (Bq H9 (s.drop 6))::q,u)|none=>none)else none)else none:=by
 rw[Tl];have b:Iq [50,49,50,49] s=if 6<=s.length then some (Bq [2,1,2,1] s,s.drop 6)else none:=rfl;rw[b];by_cases h:6<=s.length
 ·rw[iP h,iP h];simp only[Bq];unfold Yx;by_cases a:22<=(s.drop 6).length/\C4 (Jf (Bq H9 (s.drop 6)))=true
  ·rw[iP a,iP a];simp only[f4o];cases Tl n (s.drop (6+22))<;>rfl
  ·rw[iN a,iN a]
 ·rw[iN h,iN h]
def b8b(a b c d e f g h i j:Nat)(H:AH):K tab A6 A5 237 [.own a b c d e,.own f g h i j] H=Gr tab A6 A5 237 [.own a b c d e,.own f g h i j] H (Aa (B9 H [.own a b c d e,.own f g h i j])) (K tab A6 A5 237 (B9 H [.own a b c d e,.own f g h i j]) H):=Hy _ _ _ rfl _ _
def b8o(l:List DsetH)(H:AH):(l.map Qi).map (λe=>e.map (Db H 3))=(l.map b6r).map Ao:=by
 rw[f6a,f6a];rfl
def b8n(l:LT)(H:AH):(l.map Ac).map (λe=>e.map (Db H 3))=l.map Al:=by
 rw[f6a];rfl
def Ky(l:List DsetH):refsO (some (l.map Qi))=[]:=J2 l _ λ_=>rfl
def Av(l:LT):refsO (some (l.map Ac))=[]:=J2 l _ λ_=>rfl
def Kj(τ:Nat->Option Nat)(l:List DsetH):renO τ (l.map Qi)=l.map Qi:=Pz τ l _ λ_=>rfl
def Aw(τ:Nat->Option Nat)(l:LT):renO τ (l.map Ac)=l.map Ac:=Pz τ l _ λ_=>rfl
def bh5(o:Option (List DsetH×LT)):AV×AH:=match o with
 |some (l,p)=>(.tuple [.own 0 5 0 l.length l.length,.own 1 6 0 p.length p.length,.bool true],[some (l.map Qi),some (p.map Ac)])
 |none=>(.tuple [.emp,.emp,.bool false],[])
def bi3(s:Bytes)(T:s.length<=100000):Ev tab A6 A5 180 [.str s] []=some (bh5 (Tk s)):=by
 refine Bz e30 rfl ?_;have g:=S7 (orc:=A6) (lk:=A5) [49] (by decide) s;have G:Iq [49] s=if 1<=s.length then some (Bq [1] s,s.drop 1)else none:=rfl;unfold Mg at g;unfold Tk;rw[G]at g ⊢;by_cases h3:1<=s.length
 ·rw[iP h3]at g ⊢;have L:Bq [1] s=[Bk (s.take 1)]:=rfl;rw[L]at g ⊢;simp only[f5b,f5x,Ea]at g;simp only[];have R:(s.drop 1).length=s.length-1:=f38;have O:=Wr (s.take 1);have D:=b9b (s.take 1) 1 (by rw[f3l];omega);obtain⟨n,M⟩:∃ n:Nat,Bk (s.take 1)=n:=⟨(Bk (s.take 1)).toNat,by omega⟩;rw[M]at g D ⊢;rw[f2v];generalize s.drop 1=r at *;simp(disch:=try exact dz)only[a3t,t0,seval,g,Gv,iP,iN];generalize P:Aj _ _ _=V;refine B6 P n
   (λj=>[.str s,.own 0 5 0 j j,.own 1 6 0 j j,U,U,.str (r.drop (28*j)),U,U,U,U,U,U,U,U,.N n,.N j,U,U,U,U,U,U,U,U,U,U,U])
   (λj=>[some ((Sk r j).map Qi),some ((Sj r j).map Ac)])
   (λj=>Tl n r=(Tl (n-j) (r.drop (28*j))).map λq=>(Sk r j++q.1,Sj r j++q.2.1,q.2.2)) ?_ ?_ ?_ ?_ ?_
  ·simp
  ·simp[Sk,Sj]
  ·simp[Sk,Sj]
  ·intro j S hI;have l:((j:Int)<(n:Int)):=om;rw[show n-j=(n-(j+1))+1 by omega,d6t,f4o,f4o,show 28*j+28=28*(j+1) by omega]at hI;rw[dc4,dc2];have C:r.drop (28*(j+1))=(r.drop (28*j)).drop 28:=(by rw[f4o];rfl);have B:r.drop (28*j+6)=(r.drop (28*j)).drop 6:=(by rw[f4o]);rw[B]at hI ⊢;have e:=c06 r j;have f:=c05 r j;have Q:(r.drop (28*j)).length<=100000:=(by rw[f38];omega);have i:=S7 (orc:=A6) (lk:=A5) [50,49,50,49] (by decide) (r.drop (28*j));have I:Iq [50,49,50,49] (r.drop (28*j))=if 6<=(r.drop (28*j)).length then some (Bq [2,1,2,1] (r.drop (28*j)),(r.drop (28*j)).drop 6)else none:=rfl;unfold Mg at i;rw[I]at i;rw[C]at hI ⊢;generalize Sk r j=m at *;generalize Sj r j=v at *;generalize r.drop (28*j)=t at *;have A:Bq [2,1,2,1] t=[Bk (t.take 2),Bk ((t.drop 2).take 1),Bk ((t.drop 3).take 2),Bk ((t.drop 5).take 1)]:=(by simp[Bq,f4o]);rw[A]at i hI ⊢;by_cases h6:6<=t.length
   ·rw[iP h6]at i hI;simp only[f5b,f5x,Ea,au9]at i hI ⊢;generalize Bk ((t.drop 5).take 1)=d at *;generalize Bk ((t.drop 3).take 2)=c at *;generalize Bk ((t.drop 2).take 1)=b at *;generalize Bk (t.take 2)=a at *;have k:=λH=>a5u (orc:=A6) (lk:=A5) (t.drop 6) (by rw[f38];omega) 1 om H;have J:Ip 1 (t.drop 6)=if 22<=(t.drop 6).length/\C4 (Jf (Bq H9 (t.drop 6)))=true then some ([Jf (Bq H9 (t.drop 6))],(t.drop 6).drop 22)else none:=by
     rw[Ip];unfold Yx;by_cases h:22<=(t.drop 6).length/\C4 (Jf (Bq H9 (t.drop 6)))=true
     ·rw[iP h,iP h];rfl
     ·rw[iN h,iN h]
    unfold Tj at k;rw[show(1:Int).toNat=1 from rfl,J]at k;by_cases h22:22<=(t.drop 6).length/\C4 (Jf (Bq H9 (t.drop 6)))=true
    ·rw[iP h22]at k hI;have w:(t.drop 6).drop 22=t.drop 28:=(by rw[f4o]);rw[w]at k;simp only[f5b,f5x,Al]at k;generalize Jf (Bq H9 (t.drop 6))=p at *;simp(disch:=try exact dz)only[t0,seval,l,i,k,Gv,f3z,e,f,f52,Ky,Av];refine⟨rfl,?_,?_⟩
     ·rw[f4c,f4c];rfl
     ·rw[hI];cases Tl (n-(j+1)) (t.drop 28)with
      |none=>rfl
      |some q=>obtain⟨x,y,z⟩:=q;simp
    ·rw[iN h22]at k hI;simp(disch:=try exact dz)only[t0,seval,l,i,k,Gv];rw[hI];rfl
   ·rw[iN h6]at i hI;simp(disch:=try exact dz)only[t0,seval,l,i,Gv];rw[hI];rfl
  ·intro hI;rw[f6g,Tl]at hI;rw[hI];simp only[f3y,f42];have e:=c06 r n;have f:=c05 r n;generalize Sk r n=m at *;generalize Sj r n=v at *;have u:=λH=>bi8 (some (m.map b6r)) (some v) (by rw[Az,f3z];omega) (by rw[Az];omega) H;have K:(m.map b6r).map Bj=m:=(by rw[f6a];exact(f16 λx _=>rfl).trans (f6r _));rw[Az,Az,K]at u;simp only[B5]at u;have E:(m.map Qi).take n=m.map Qi:=f0a (by rw[f3z];omega);have F:(v.map Ac).take n=v.map Ac:=f0a (by rw[f3z];omega);by_cases o:Fo m v=s
   ·rw[iP o];rw[o]at u;simp(disch:=try exact dz)only[t0,seval,f5q,b8b,ap3,av9,An,Ky,Av,Kj,Aw,b8o,b8n,u,E,F,o,f3z,e,f];simp only[bh5,e,f]
   ·rw[iN o];simp(disch:=try exact dz)only[t0,seval,f5q,b8b,ap3,av9,An,Ky,Av,Kj,Aw,b8o,b8n,u,E,F,o,f3z,e,f];rfl
 ·rw[iN h3]at g ⊢;simp(disch:=try exact dz)only[a3t,t0,seval,g];rfl
def Cr(x:Node):LA:=[.N x.kind,.N x.up,.str x.name,.str x.body,.N x.bad]
def Jw:LO:=[foldN,node0,node0,node0,node0,node0,node0,node0]
def b0q(n:Nat)(l:LO)(H:AH):(l.map Cr).map (λe=>e.map (Db H n))=l.map Ap:=by
 rw[f6a];cases n<;>rfl
def Ku(n:Nat)(l:LT)(H:AH):(l.map Ac).map (λe=>e.map (Db H n))=l.map Al:=by
 rw[f6a];cases n<;>rfl
def F4(l:LO):refsO (some (l.map Cr))=[]:=J2 l _ λ_=>rfl
def G5(τ:Nat->Option Nat)(l:LO):renO τ (l.map Cr)=l.map Cr:=Pz τ l _ λ_=>rfl
def Un(r:Nat)(a:List LP)(l:LO):(l.map Cr).map (C5 r a)=l.map Cr:=by
 rw[f6a];exact f16 λ_ _=>rfl
def M2(r:Nat)(a:List LP)(l:LT):(l.map Ac).map (C5 r a)=l.map Ac:=by
 rw[f6a];exact f16 λ_ _=>rfl
def Ti(l:LO):Cx (l.map Cr)=some (l.map Ap):=Ka _ _ (λ_=>rfl) l
def Qo(l:LT):Cx (l.map Ac)=some (l.map Al):=Ka _ _ (λ_=>rfl) l
def vwP(H:AH)(n off len tot:Nat):Option AObj->PV
 |some o=>if off+len<=tot then .fz (((o.drop off).take len).map λe=>e.map (Db H n))else .top
 |none=>.top
def F8(H:AH)(n off len tot:Nat)(o:AObj):vwP H n off len tot (some o)=if off+len<=tot then .fz (((o.drop off).take len).map λe=>e.map (Db H n))else .top:=rfl
def dm7:Ev tab A6 A5 238 [] []=some (.own 0 5 0 8 8,[some (Jw.map Cr)]):=by
 refine Bz e26 rfl ?_;simp(disch:=omega)only[ab1,t0,seval,iP,iN,An];rfl
def b17(n:Int)(a:n<=1000000)(H:AH):K tab A6 A5 334 [.N n] H=some (.str (zs n.toNat),H):=by
 refine Ae e05 rfl rfl rfl ?_ H;by_cases h:n<0
 ·have e:n.toNat=0:=om;simp(disch:=omega)only[a38,t0,seval,iP,iN,a6f,h];rw[e]
 ·simp(disch:=omega)only[a38,t0,seval,iP,iN,a6f,h]
def e4v(c:UInt8)(s:Bytes)(a:s.length<=1000000)(H:AH):K tab A6 A5 353 [.str s,.int .u8 c.toNat] H=some (.N (Vm c s),H):=by
 refine ak3 dl7 rfl rfl ?_ H;rw[de6]
 have:=c.toNat_lt;simp only[a7g];rw[iP ⟨a,by omega,by omega⟩];have e:UInt8.ofNat ((c.toNat:Int)).toNat=c:=by simp
 rw[e]
def ao4:Bytes:=[97,98,99,100,101,102,103,104,105,106,107,108,109,110,111,112,113,114,115,116,117,118,119,120,121,122,48,49,50,51,52,53,54,55,56,57,46,95,45]
def d7t(c:UInt8):Sq c=decide (¬ Vm c ao4<0):=by
 have h:∀ n,n<256->Sq (UInt8.ofNat n)=decide (¬ Vm (UInt8.ofNat n) ao4<0):=by decide +kernel
 have:=h c.toNat c.toNat_lt
 rwa [UInt8.ofNat_toNat]at this
def dc7(s:Bytes)(k:s.length<=1000000)(H:AH):K tab A6 A5 333 [.str s] H=some (.bool (s.all Sq),H):=by
 refine Ae e06 rfl rfl rfl ?_ H;simp(disch:=try exact dz)only[a90,t0,seval,iP,iN];generalize g:Aj _ _ _=r;refine B6 g s.length (λj=>[U,U,U,.own 0 1 0 s.length s.length,.N s.length,.N j,U])
  (λj=>[some (s.map λb=>[.int .u8 b.toNat])]) (λj=>s.all Sq=(s.drop j).all Sq) ?_ ?_ ?_ ?_ ?_
 ·simp
 ·simp
 ·simp
 ·intro j f hI;have e:((j:Int)<(s.length:Int)):=om;rw[F7 f,f5k]at hI;have c:=e4v (s.getD j df) ao4 dc;have a:=d7t (s.getD j df);unfold ao4 at c a;generalize d:s.getD j df=i at *;simp(disch:=try exact dz)only[t0,e,f52,Fc,f3z,d,c];refine⟨λh=>?_,λh=>⟨rfl,?_⟩⟩
  ·rw[hI,a,f4e (by simpa using h)];rfl
  ·rw[hI,a,f51 h,f5e]
 ·intro hI;rw[f3n]at hI;simp(disch:=try exact dz)only[t0,f5q];rw[hI];rfl
def c25(s:Bytes)(e:s.length<=1000000)(H:AH):K tab A6 A5 295 [.str s] H=some (.bool (mayName s),H):=by
 refine Ae e12 rfl rfl rfl ?_ H;simp(disch:=try exact dz)only[a9n,t0,seval,iP,iN,dc7];unfold mayName;cases s with
 |nil=>rfl
 |cons c s=>
   congr 2
   rw[f4d];simp only[f1e,f32,f2f,f2o,f02,f33,reduceCtorEq,f2u,f73];constructor
   ·rintro⟨⟨⟨a,b⟩,c⟩,d⟩;exact⟨⟨⟨⟨b,by omega⟩,by omega⟩,c⟩,d⟩
   ·rintro⟨⟨⟨⟨b,_⟩,a⟩,c⟩,d⟩;exact⟨⟨⟨by omega,b⟩,c⟩,d⟩
def dm0(p:Ptr)(H:AH):K tab A6 A5 294 [.agg (Ac p)] H=some (.bool (!decide (p=Ah)),H):=by
 refine Ae e13 rfl rfl rfl ?_ H;simp(disch:=omega)only[a9o,t0,seval,iP,iN,Ac];have f:=a1x p.addr p.birth p.sum.a p.sum.b p.sum.c p.sum.d;rw[Vb]at f;have e:decide (p=Ah)=(decide (p.addr=0)&&(decide (p.birth=0)&&(decide ((p.sum.a.toNat:Int)=0)&&(decide ((p.sum.b.toNat:Int)=0)&&(decide ((p.sum.c.toNat:Int)=0)&&decide ((p.sum.d.toNat:Int)=0)))))):=by
  rw[<-f4i,<-f4i,<-f4i,<-f4i,<-f4i];exact f3k.2 f
 rw[e]
def es2(l:Sl Ptr)(f:(els l).length<=1000000)(H:AH):K tab A6 A5 293 [A4 Al l,.fn (.func 294) [] []] H=some (.bool (!((els l).all λp=>decide (p=Ah))),H):=by
 have hi:∀ H,K tab A6 A5 332 [A4 Al l,.fn (.func 294) [] []] H=some (.N (if((els l).all λp=>decide (p=Ah))=true then -1 else((els l).takeWhile λp=>decide (p=Ah)).length),H):=by
  intro H;refine Ae e07 rfl (by simp[Aa,Ab,Ai]) rfl ?_ H;simp(disch:=try exact dz)only[a91,t0,seval,iP,iN];generalize e:Aj _ _ _=r;refine B6 e (els l).length (λj=>[A4 Al l,.fn (.func 294) [] [],U,U,.N (els l).length,.N j,U])
   (λj=>[]) (λj=>((els l).all λp=>decide (p=Ah))=(((els l).drop j).all λp=>decide (p=Ah))/\((els l).takeWhile λp=>decide (p=Ah)).length=j+(((els l).drop j).takeWhile λp=>decide (p=Ah)).length) ?_ ?_ ?_ ?_ ?_
  ·simp
  ·simp
  ·simp
  ·intro j d hI;have a:((j:Int)<((els l).length:Int)):=om;rw[F7 d,f5k,List.takeWhile_cons]at hI;have b:=dm0 ((els l).getD j df);simp only[Ac]at b;cases c:decide ((els l).getD j df=Ah)with
   |true=>
     rw[c]at b;simp only[c,if_true,f33,f5e]at hI;simp(disch:=try exact dz)only[t0,a,f52,Ad,Al,b];refine⟨rfl,hI.1,by omega⟩
   |false=>
     rw[c]at b;simp only[c,f1k,if_false,f3w,f4x]at hI;simp(disch:=try exact dz)only[t0,a,f52,Ad,Al,b];rw[hI.1,hI.2];rfl
  ·intro hI;rw[f3n]at hI;simp(disch:=try exact dz)only[t0,f5q];rw[hI.1];rfl
 refine Ae e14 rfl (by simp[Aa,Ab,Ai]) rfl ?_ H;simp(disch:=try exact dz)only[a9p,t0,seval,iP,iN,hi];cases h:(els l).all λp=>decide (p=Ah)with
 |true=>rfl
 |false=>simp
def cq8(d:Dev)(a:Int):∀ (k:Nat) (l:LT) (p:Ptr),J7 d a k (l++[p])=((J7 d a k l).1++(Tw d a (k+l.length) p).1,(J7 d a k l).2+(Tw d a (k+l.length) p).2)
 |k,[],p=>by simp[J7]
 |k,x::l,p=>by
   rw[f3d,J7,cq8 d a (k+1) l p,J7,f33];rw[show k+1+l.length=k+(l.length+1) by omega];simp only[f2p,f5c]
def dd0(d:Dev)(a:Int)(k:Nat)(p:Ptr):(Tw d a k p).2=0\/(Tw d a k p).2=2 ^ k:=by
 unfold Tw;split
 ·exact .inl rfl
 ·split
  ·split
   ·exact .inl rfl
   ·exact .inr rfl
  ·exact .inr rfl
def cq9(d:Dev)(a:Int):∀ (k:Nat) (l:LT),(J7 d a k l).2+2 ^ k<=2 ^ (k+l.length)
 |k,[]=>by simp[J7]
 |k,p::l=>by
   have e:=cq9 d a (k+1) l;have c:=dd0 d a k p;rw[J7,f33,show k+(l.length+1)=k+1+l.length by omega];simp only;have:2 ^ (k+1)=2 ^ k+2 ^ k:=(by rw[Nat.pow_succ];omega);have b:0<2 ^ k:=Nat.pow_pos om;rcases c with h|h<;>rw[h]<;>omega
def e56(a k:Nat)(b:a<2 ^ k)(c:k<8):IntKind.i64.wrap (((BitVec.ofInt IntKind.i64.bits (a:Int) ||| BitVec.ofInt IntKind.i64.bits (IntKind.i64.wrap (1*2 ^ min k IntKind.i64.bits))).toNat:Nat):Int)=((a+2 ^ k:Nat):Int):=by
 have h:∀ k:Nat,k<8->∀ a:Nat,a<2 ^ k->IntKind.i64.wrap (((BitVec.ofInt IntKind.i64.bits (a:Int) ||| BitVec.ofInt IntKind.i64.bits (IntKind.i64.wrap (1*2 ^ min k IntKind.i64.bits))).toNat:Nat):Int)=((a+2 ^ k:Nat):Int):=by
  intro k c;have e:2 ^ k<=128:=by
   have:2 ^ k<=2 ^ 7:=f10 om om;omega
  have d:∀ k:Nat,k<8->∀ a:Nat,a<128->a<2 ^ k->IntKind.i64.wrap (((BitVec.ofInt IntKind.i64.bits (a:Int) ||| BitVec.ofInt IntKind.i64.bits (IntKind.i64.wrap (1*2 ^ min k IntKind.i64.bits))).toNat:Nat):Int)=((a+2 ^ k:Nat):Int):=by decide +kernel
  intro a b;exact d k c a om b
 exact h k c a b
def d4s{s:Bytes}:(s.all λc=>decide (c=0))=true↔s=zs s.length:=by
 rw[f35];constructor
 ·intro h;exact List.eq_replicate_iff.2 ⟨rfl,λb d=>by simpa using h b d⟩
 ·intro h c a;rw[h]at a
  have:=ez5 a;simp[this]
def b6n{s:Bytes}(e:s.length=32)(x:Int)(b:Nat)(a:(b:Int)=if 32<(if x<0 then 0 else x)then 32 else(if x<0 then 0 else x)):(s.drop b=zs (32-b))↔((s.drop x.toNat).all λc=>decide (c=0))=true:=by
 rw[d4s,f38,e];rcases f6h 32 x with h|h
 ·have:b=32:=by
   rw[iN (show ¬ x<0 by omega),iP h]at a;omega
  subst this;rw[f0c om,f0c om,show 32-x.toNat=0 by omega]
 ·have:b=x.toNat:=by
   by_cases d:x<0
   ·rw[iP d,iN (show ¬ (32:Int)<0 by omega)]at a;omega
   ·rw[iN d,iN (show ¬ 32<x by omega)]at a;omega
  rw[this]
def Us(p:Ptr):(decide (p.addr=0)&&(decide (p.birth=0)&&(decide ((p.sum.a.toNat:Int)=0)&&(decide ((p.sum.b.toNat:Int)=0)&&(decide ((p.sum.c.toNat:Int)=0)&&decide ((p.sum.d.toNat:Int)=0))))))=decide (p=Ah):=by
 have e:=a1x p.addr p.birth p.sum.a p.sum.b p.sum.c p.sum.d;rw[Vb]at e;rw[<-f4i,<-f4i,<-f4i,<-f4i,<-f4i];exact(f3k.2 e).symm
def Qm(r i j t:Nat)(a b:AV)(H:AH):K tab A6 A5 296 [.ptr r i j t,a,b] H=Gr tab A6 A5 296 [.ptr r i j t,a,b] H (Aa (B9 H [.ptr r i j t,a,b])) (K tab A6 A5 296 (B9 H [.ptr r i j t,a,b]) H):=Hy _ _ _ rfl _ _
def Uz:(zs 32).length=32:=rfl
def eq2(d:Dev)(R:DevOk d)(L M O P:PV)(a:Int)(W:0<=a)(X:a<=128)(l:LT)(Y:l.length=4)(H:AH):K tab A6 A5 296 [.fptr [Lt B4 d.last,Lt Ay d.wait,.N d.lies,.N d.arm,.bool d.down,L,M,O,P],.N a,.fz (l.map Al)] H =
 some (.tuple [.str (b6j d a l).1,.N (b6j d a l).2],H):=by
 refine Ae e11 rfl rfl rfl ?_ H;simp(disch:=try exact dz)only[a9m,t0,seval,iP,iN];generalize T:Aj _ _ _=r;refine B6 T l.length
  (λj=>[.fptr [Lt B4 d.last,Lt Ay d.wait,.N d.lies,.N d.arm,.bool d.down,L,M,O,P],.N a,U,.str (J7 d a 0 (l.take j)).1,.N (J7 d a 0 (l.take j)).2,U,U,U,U,U,.fz (l.map Al),.N l.length,.N j,U,U,U,U,U,U,U,U])
  (λj=>[]) (λj=>True) ?_ ?_ trivial ?_ ?_
 ·simp[J7]
 ·simp
 ·intro j S _;have k:((j:Int)<(l.length:Int)):=om;have V:=Et S;have C:(l.take j).length=j:=by rw[f3l];omega
  have e:=b6i d a 0 (l.take j);have u:=cq9 d a 0 (l.take j);rw[C]at e u;rw[V,cq8,C,f66];have m:=e56 (J7 d a 0 (l.take j)).2 j (by rw[f66]at u;omega) om;have g:=a2d d R (l.getD j df) 1;have b:=c0l d a j (l.getD j df);have f:=b17 32 om;rw[show(32:Int).toNat=32 from rfl]at f;generalize J7 d a 0 (l.take j)=B at *;generalize i:l.getD j df=p at *;unfold Tw at b ⊢;by_cases F:p=Ah
  ·have E:(p=Ah)=True:=eq_true F;rw[iP F];cases A:Kl d p 1 with
   |none=>
     rw[A]at g;simp(disch:=try exact dz)only[t0,seval,k,i,f52,B0,Al,g,Ej,f,Us,m,Uz,e,b,E,f3r,f1m];rfl
   |some s=>
     rw[A]at g;simp(disch:=try exact dz)only[t0,seval,k,i,f52,B0,Al,g,Ej,f,Us,m,Uz,e,b,E,f31,f1n];rfl
  ·have n:(p=Ah)=False:=eq_false F;rw[iN F]at b ⊢;cases A:Kl d p 1 with
   |none=>
     rw[A]at g b;simp only[]at b ⊢;simp(disch:=try exact dz)only[t0,seval,k,i,f52,B0,Al,g,Ej,f,Us,m,Uz,e,b,n,f3r,f1m];rfl
   |some s=>
     rw[A]at g b;simp only[]at b ⊢;by_cases v:(s.length:Int)=32
     ·by_cases q:s=zs 32
      ·rw[iN (λh=>h.2.1 q)];simp(disch:=try exact dz)only[t0,seval,k,i,f52,B0,Al,g,Ej,f,Us,m,Uz,e,b,n,f31,f1n,v,q];rfl
      ·have o:s.length=32:=om;have D:=b17 0 om;rw[show a-32*(j:Int)=a-(j:Int)*32 by omega]at b ⊢;generalize G:a-(j:Int)*32=x at *;have t:=b17 (32-x);rcases f6h x 0 with I|I
       ·have z:=b6n o x 0 (by rw[iP I,iN om];rfl);rw[f4p]at z;rw[iN (λh=>q (z.2 h.2.2))]at b ⊢;have w:(s.take s.length=zs 32)=False:=eq_false (by rw[f3m];exact q);simp(disch:=try exact dz)only[t0,seval,k,i,f52,B0,Al,g,Ej,f,Us,m,Uz,e,b,n,f31,f1n,v,q,w,G,D];rfl
       ·rcases f6h 32 x with J|J
        ·have z:=b6n o x 32 (by rw[iN (show ¬ x<0 by omega),iP J];rfl);have y:((s.drop x.toNat).all λc=>decide (c=0))=true:=by
          rw[f0c om];rfl
         rw[iP ⟨o,q,y⟩]at b ⊢;have w:((s.take 32).drop 32=zs 0)=True:=eq_true (by rw[f0c (by rw[f3l];omega)];rfl);simp(disch:=try exact dz)only[t0,seval,k,i,f52,B0,Al,g,Ej,f,Us,m,Uz,e,b,n,f31,f1n,v,q,G,D,w];rfl
        ·have z:=b6n o x x.toNat (by rw[iN (show ¬ x<0 by omega),iN (show ¬ 32<x by omega)];omega);have t:=t om;by_cases y:((s.drop x.toNat).all λc=>decide (c=0))=true
         ·rw[iP ⟨o,q,y⟩]at b ⊢;have w:((s.take 32).drop x.toNat=zs (32-x).toNat)=True:=eq_true (by rw[f0a om,z.2 y];congr 1;omega);simp(disch:=try exact dz)only[t0,seval,k,i,f52,B0,Al,g,Ej,f,Us,m,Uz,e,b,n,f31,f1n,v,q,G,t,w];rfl
         ·rw[iN (λh=>y h.2.2)]at b ⊢;have w:((s.take s.length).drop x.toNat=zs (32-x).toNat)=False:=eq_false (by rw[f3m,show(32-x).toNat=32-x.toNat by omega];exact λh=>y (z.1 h));simp(disch:=try exact dz)only[t0,seval,k,i,f52,B0,Al,g,Ej,f,Us,m,Uz,e,b,n,f31,f1n,v,q,G,t,w];rfl
     ·rw[iN (λh=>v om)];simp(disch:=try exact dz)only[t0,seval,k,i,f52,B0,Al,g,Ej,f,Us,m,Uz,e,b,n,f31,f1n,v];rfl
 ·intro _;rw[f3m];have Q:=b6i d a 0 l;simp(disch:=try exact dz)only[t0,seval,f5q];rfl
section
def spl(P:LT)(n:Nat)(l:LT):LT:=P.take (4*n)++l++P.drop (4*n+4)
theorem df6{d:Dev}{n:Nat}{p:Ptr}{x:Node}{l:LT}(h:Xg d n p=some (x,l)):l.length=4/\x.name.length<=8:=by
 unfold Xg at h;split at h
 ·rename_i y z m f;rw[ex2]at h;obtain⟨s,_,hs⟩:=f01.1 f;have c:=b1e hs;have e:=f4a h.2;have a:=congrArg Prod.fst e;have b:=congrArg Prod.snd e;simp only at a b;subst a;subst b;exact⟨c.2.2.2.1,c.1.2.2.2⟩
 ·cases h
theorem b1x(d:Dev)(n:Nat)(p:Ptr):(V4 d n p).2.1.length=4/\(V4 d n p).1.name.length<=8:=by
 unfold V4;split
 ·split
  ·rename_i x l h;exact df6 h
  ·refine⟨rfl,?_⟩;split<;>simp[foldN,lostN]
 ·exact⟨rfl,by simp[node0]⟩
theorem ao0(d:Dev):∀ (n:Nat) (l:LT),(Kf d n l).length=l.length
 |_,[]=>rfl
 |n,p::l=>by rw[Kf,f33,f33,ao0 d (n+1) l]
theorem b1v(d:Dev):∀ (n:Nat) (l:LT) (j:Nat),j<l.length->(Kf d n l)[j]?=some (V4 d (n+j) (l.getD j df))
 |n,[],j,h=>by simp at h
 |n,p::l,0,_=>by simp[Kf]
 |n,p::l,j+1,h=>by
   rw[Kf,ez9,b1v d (n+1) l j (by simpa using h),f1b,show n+1+j=n+(j+1) by omega]
def Vh:LO:=[foldN,node0,node0,node0,node0,node0,node0,node0]
section
set_option linter.unusedSectionVars false
variable (g:List (Node×List Ptr×Bool))
def SJ(j:Nat):LO:=(g.take j).map (·.1)++Vh.drop j
def PJ(j:Nat):LT:=((g.take j).map (·.2.1)).flatten++Af (32-4*j)
def TJ(j:Nat):Bool:=(g.take j).any (·.2.2)
variable {g} {j:Nat} {s:Node×List Ptr×Bool} (hg:g.length=8) (h4:∀ x∈g,x.2.1.length=4) (hj:j<8) (hs:g[j]?=some s)
include hg hj hs
theorem a5r:g.take (j+1)=g.take j++[s]:=by rw[f2r,hs];rfl
theorem eu7:SJ g (j+1)=(SJ g j).set j s.1:=by
 unfold SJ;rw[a5r hg hj hs,f4c,f5b,f5x,f2p,f4j,iN (by simp;omega)];have e:(Vh.drop j)=Vh.getD j df::Vh.drop (j+1):=by
  rw[ey9 (by simp[Vh];omega),ex9,ez2 (by simp[Vh];omega)];rfl
 rw[e,show j-((g.take j).map (·.1)).length=0 by simp;omega,f1z];rfl
theorem eu5:TJ g (j+1)=(TJ g j||s.2.2):=by
 unfold TJ;rw[a5r hg hj hs,List.any_append,f5r,List.any_nil,f5n]
theorem eu9:(SJ g j).length=8:=by
 unfold SJ;simp[Vh];omega
theorem eu8(a:0<j)(b:s.1=node0):SJ g (j+1)=SJ g j:=by
 have e:∀ j,j<8->0<j->Vh.drop j=node0::Vh.drop (j+1):=by decide
 unfold SJ;rw[a5r hg hj hs,f4c,f5b,f5x,f2p,b,e j hj a];rfl
include h4
theorem b77:(((g.take j).map (·.2.1)).flatten).length=4*j:=by
 have:∀ l:List (Node×LT×Bool),(∀ x∈l,x.2.1.length=4)->((l.map (·.2.1)).flatten).length=4*l.length:=by
  intro l
  induction l with
  |nil=>intro _;rfl
  |cons x l c=>
    intro h;rw[f5b,f2k,f1q,h x sm,c (λy b=>h y (by simp[b])),f33];omega
 rw[this _ (λx a=>h4 x (f0s a)),f3l,hg,f4h om]
theorem ev6:(PJ g j).length=32:=by
 unfold PJ;rw[f1q,b77 hg h4 hj hs,Af,f0j];omega
theorem ev4:PJ g (j+1)=spl (PJ g j) j s.2.1:=by
 have c:=b77 hg h4 hj hs;unfold PJ spl;rw[a5r hg hj hs,f4c,f1c,f5b,f5x,f2k,f3i,f42];have a:List.take (4*j) (((g.take j).map (·.2.1)).flatten++Af (32-4*j))=((g.take j).map (·.2.1)).flatten:=by
  rw[List.take_append_of_le_length om,f0a om]
 have b:List.drop (4*j+4) (((g.take j).map (·.2.1)).flatten++Af (32-4*j))=Af (32-4*(j+1)):=by
  rw[List.drop_append,f0c om,f41,c,Af,List.drop_replicate,Af]
  congr 1;omega
 rw[a,b]
theorem ev5(a:s.2.1=Af 4):PJ g (j+1)=PJ g j:=by
 have b:=b77 hg h4 hj hs;unfold PJ;rw[a5r hg hj hs,f4c,f1c,f5b,f5x,f2k,f3i,f42,a,f2p,Af,Af,ew6,Af]
 congr 2;omega
end
theorem ev0{g:List (Node×LT×Bool)}(hg:g.length=8):SJ g 8=g.map (·.1):=by
 unfold SJ;rw[f0a om];exact f42 _
theorem d1a{g:List (Node×LT×Bool)}(hg:g.length=8):PJ g 8=(g.map (·.2.1)).flatten:=by
 unfold PJ;rw[f0a om];exact f42 _
theorem eu6{g:List (Node×LT×Bool)}(hg:g.length=8):TJ g 8=g.any (·.2.2):=by
 unfold TJ;rw[f0a om]
end
def a24(H:AH):K tab A6 A5 238 [] H=some (.own H.length 5 0 8 8,H++[some (Jw.map Cr)]):=by
 rw[b06 tab A6 A5 rfl];rw[show Cn ([]:LA)=[] by simp[Cn],aq2];rw[Am _ _ _ _ _ ⟨f4v,by simp⟩,show Ck (Bh []) ([]:LA)=[] by simp[Ck],f5x,dm7,au7,iP sm];simp only[Tt,Ws,az4,f3w,f4f,if_false,f60,f5y,Tz,ao5,f4p,f5b,f5x,f3y,G5]
def a2c(j:Nat):LO:=match j with
 |0=>[foldN,node0,node0,node0,node0,node0,node0,node0]
 |1=>[foldN,lostN,node0,node0,node0,node0,node0,node0]
 |2=>[foldN,lostN,lostN,node0,node0,node0,node0,node0]
 |3=>[foldN,lostN,lostN,lostN,node0,node0,node0,node0]
 |4=>[foldN,lostN,lostN,lostN,lostN,node0,node0,node0]
 |5=>[foldN,lostN,lostN,lostN,lostN,lostN,node0,node0]
 |6=>[foldN,lostN,lostN,lostN,lostN,lostN,lostN,node0]
 |_=>Xo
def Me:Iy []=.tuple []:=qq
def c32{j:Nat}(h:j<7):(a2c j).length=8/\((a2c j).map Cr)[j+1]?=some [.N 0,.N 0,.str [],.str [],.N 0]/\((a2c j).map Cr).set (j+1) [.N 3,.N 0,.str [],.str [],.N 0]=(a2c (j+1)).map Cr:=by
 rcases(show j=0\/j=1\/j=2\/j=3\/j=4\/j=5\/j=6 by omega)with rfl|rfl|rfl|rfl|rfl|rfl|rfl<;>exact⟨rfl,rfl,rfl⟩
def dp5(d:Dev)(ls:LO)(ln g:LT)(t:Bool):Ev tab A6 A5 240 [.ptr 0 0 0 1] [some [[A4 B4 d.last,A4 Ay d.wait,.N d.lies,.N d.arm,.bool d.down,.own 1 5 0 8 8,.own 2 6 0 8 8,.own 3 6 0 32 32,.bool t]],some (ls.map Cr),some (ln.map Ac),some (g.map Ac)] =
 some (.tuple [],[some [[A4 B4 d.last,A4 Ay d.wait,.N d.lies,.N d.arm,.bool d.down,.own 4 5 0 8 8,.own 2 6 0 8 8,.own 3 6 0 32 32,.bool true]],some (ls.map Cr),some (ln.map Ac),some (g.map Ac),some (Xo.map Cr)]):=by
 refine Bz c3y rfl ?_;simp(disch:=try exact dz)only[a3m,t0,seval,iP,iN,An,a24,F4,Av];generalize i:Aj _ _ _=r;refine Hr (Q:=λr=>E5 _ _ _ (Bi _ r)=_) i 7
  (λj=>[.ptr 0 0 0 1,.N ((j:Int)+1),U,U,U])
  (λj=>[some [[A4 B4 d.last,A4 Ay d.wait,.N d.lies,.N d.arm,.bool d.down,.own 4 5 0 8 8,.own 2 6 0 8 8,.own 3 6 0 32 32,.bool true]],some (ls.map Cr),some (ln.map Ac),some (g.map Ac),some ((a2c j).map Cr)]) (λj=>True) ?_ ?_ trivial ?_ ?_
 ·rfl
 ·rfl
 ·intro j h _;obtain⟨c,a,e⟩:=c32 h;have f:((j:Int)+1).toNat=j+1:=om;have b:(j:Int)+1<8:=om;simp(disch:=try exact dz)only[t0,seval,f52,F4,Av,c,b,f,a,e];rfl
 ·intro _;simp(disch:=try exact dz)only[t0,seval,f52,F4,Av,Me,An,G5,Aw];rfl
def dp6(d:Dev)(ls:LO)(y:List LP)(g:LT)(t:Bool):Ev tab A6 A5 240 [.ptr 0 0 0 1] [some [[A4 B4 d.last,A4 Ay d.wait,.N d.lies,.N d.arm,.bool d.down,.own 1 5 0 8 8,.fz y,.own 2 6 0 32 32,.bool t]],some (ls.map Cr),some (g.map Ac)] =
 some (.tuple [],[some [[A4 B4 d.last,A4 Ay d.wait,.N d.lies,.N d.arm,.bool d.down,.own 3 5 0 8 8,.fz y,.own 2 6 0 32 32,.bool true]],some (ls.map Cr),some (g.map Ac),some (Xo.map Cr)]):=by
 refine Bz c3y rfl ?_;simp(disch:=try exact dz)only[a3m,t0,seval,iP,iN,An,a24,F4,Av];generalize i:Aj _ _ _=r;refine Hr (Q:=λr=>E5 _ _ _ (Bi _ r)=_) i 7
  (λj=>[.ptr 0 0 0 1,.N ((j:Int)+1),U,U,U])
  (λj=>[some [[A4 B4 d.last,A4 Ay d.wait,.N d.lies,.N d.arm,.bool d.down,.own 3 5 0 8 8,.fz y,.own 2 6 0 32 32,.bool true]],some (ls.map Cr),some (g.map Ac),some ((a2c j).map Cr)]) (λj=>True) ?_ ?_ trivial ?_ ?_
 ·rfl
 ·rfl
 ·intro j h _;obtain⟨c,a,e⟩:=c32 h;have f:((j:Int)+1).toNat=j+1:=om;have b:(j:Int)+1<8:=om;simp(disch:=try exact dz)only[t0,seval,f52,F4,Av,c,b,f,a,e];rfl
 ·intro _;simp(disch:=try exact dz)only[t0,seval,f52,F4,Av,Me,An,G5,Aw];rfl
def b35(d:Dev)(l:LT)(n:Nat)(S:LO)(P:LT)(t:Bool):AH:=match Xg d n (l.getD n df)with
 |some (x,l')=>[some [[A4 B4 d.last,A4 Ay d.wait,.N d.lies,.N d.arm,.bool d.down,.own 1 5 0 8 8,.fz (l.map Al),.own 2 6 0 32 32,.bool (t||!decide (x.bad=0))]],some ((S.set n x).map Cr),some ((spl P n l').map Ac)]
 |none=>[some [[A4 B4 d.last,A4 Ay d.wait,.N d.lies,.N d.arm,.bool d.down,.own 1 5 0 8 8,.fz (l.map Al),.own 2 6 0 32 32,.bool true]],some ((S.set n (if n=0 then foldN else lostN)).map Cr),some (P.map Ac)]
def Ik(ev:Opd->AV)(H:AH)(s:Nat)(x:Opd)(l h:Option Opd):E8 (.slicel s x l h) ev H=same (Z0 H s ev (ev x) l h) H:=by
 have e:Be (.slicel s x l h) ev H=Z0 H s ev (ev x) l h:=rfl;unfold E8 same;rw[e];cases Z0 H s ev (ev x) l h<;>rfl
def Qc{S:LO}{n:Nat}(h:n<S.length):(S.map Cr)[n]?=some [.N (S.getD n df).kind,.N (S.getD n df).up,.str (S.getD n df).name,.str (S.getD n df).body,.N (S.getD n df).bad]:=by
 simp[f2i,ex9,ez2 h,Cr]
def Ja(S:LO)(n:Nat)(k u:Int)(c b:Bytes)(a:Nat):(S.map Cr).set n [.N k,.N u,.str c,.str b,.N a]=(S.set n ⟨k,u,c,b,a⟩).map Cr:=by
 rw[f6i];rfl
def Jq(S:LO)(n:Nat)(k u:Int)(a b:Bytes):(S.map Cr).set n [.N k,.N u,.str a,.str b,.N 0]=(S.set n ⟨k,u,a,b,0⟩).map Cr:=Ja S n k u a b 0
def Ra{S:LO}{n:Nat}(h:n<S.length)(x:Node):((S.set n x).map Cr)[n]?=some [.N x.kind,.N x.up,.str x.name,.str x.body,.N x.bad]:=by
 simp[f2i,f2e,h,Cr]
def df4(d:Dev)(O:DevOk d)(l:LT)(y:l.length=8)(n:Nat)(hn:n<8)(S:LO)(w:S.length=8)(P:LT)(v:P.length=32)(t:Bool):Ev tab A6 A5 241 [.ptr 0 0 0 1,.N n] [some [[A4 B4 d.last,A4 Ay d.wait,.N d.lies,.N d.arm,.bool d.down,.own 1 5 0 8 8,.fz (l.map Al),.own 2 6 0 32 32,.bool t]],some (S.map Cr),some (P.map Ac)] =
 some (.tuple [],b35 d l n S P t):=by
 refine Bz e23 rfl ?_;have k:(n:Int)<8:=om;have i:=a2d d O (l.getD n df) 2;unfold b35 Xg;have m:((n:Int)*4).toNat=4*n:=om;have g:min 4 (32-4*n)=4:=om;have f:∀ q:LT,(q.map Al).map (λe=>e.map emb)=q.map Ac:=λq=>by rw[f6a];rfl
 generalize j:l.getD n df=p at *;cases J:Kl d p 2 with
 |none=>
   rw[J]at i;have h:=λH=>bx2 [] sm H;rw[show V2 []=none from by decide]at h;by_cases C:n=0
   ·subst C;simp(disch:=try exact dz)only[L7,t0,seval,iP,iN,An,F4,Av,w,v,y,k,i,Ej,h,Mh,Qc,Ra,Ja,Jq,f6j,B0,Al,j,Me,G5,Aw,f3r,f1m,f31,f1n,f3s,f36,f52,m,Gz,H4,g,f,Ik,Jp,Ju,Qm,Cb,Ca,Cc,f3z,f3l];rfl
   ·simp(disch:=try exact dz)only[L7,t0,seval,iP,iN,An,F4,Av,w,v,y,k,i,Ej,h,Mh,Qc,Ra,Ja,Jq,f6j,B0,Al,j,Me,G5,Aw,f3r,f1m,f31,f1n,f3s,f36,f52,m,Gz,H4,g,f,Ik,Jp,Ju,Qm,Cb,Ca,Cc,f3z,f3l,C];rfl
 |some s=>
   rw[J]at i;have h:=λH=>bx2 s (by have:=a6z J;omega) H;cases u:V2 s with
   |none=>
     rw[u]at h;by_cases C:n=0
     ·subst C;simp(disch:=try exact dz)only[L7,t0,seval,iP,iN,An,F4,Av,w,v,y,k,i,Ej,h,Mh,Qc,Ra,Ja,Jq,f6j,B0,Al,j,Me,G5,Aw,f3r,f1m,f31,f1n,f3s,f36,f52,m,Gz,H4,g,f,Ik,Jp,Ju,Qm,Cb,Ca,Cc,f3z,f3l,u];rfl
     ·simp(disch:=try exact dz)only[L7,t0,seval,iP,iN,An,F4,Av,w,v,y,k,i,Ej,h,Mh,Qc,Ra,Ja,Jq,f6j,B0,Al,j,Me,G5,Aw,f3r,f1m,f31,f1n,f3s,f36,f52,m,Gz,H4,g,f,Ik,Jp,Ju,Qm,Cb,Ca,Cc,f3z,f3l,C,u];rfl
   |some q=>
     have⟨x,z,D⟩:=q;rw[u]at h;have R:=b1e u;have⟨⟨hk,V,W,T⟩,K,L,r,M⟩:=R;have A:=λX Y Z x4 H=>eq2 d O X Y Z x4 z K L D r H;have h6:((D.map Ac).all λe=>decide (e.length=6))=true:=(by simp[Ac]);have Ud:(4*n+(32-4*n)<=32)=True:=eq_true om;have o:List.take (4*n) (P.map Ac)++List.take 4 (D.map Ac)++List.drop (4*n+4) (P.map Ac)=(spl P n D).map Ac:=by
      rw[show List.take 4 (D.map Ac)=D.map Ac from f0a (by rw[f3z];omega),<-f5g,<-f5t,<-f4c,<-f4c];rfl
     by_cases C:n=0
     ·subst C;have E:=es2 (some D) (by rw[Az];omega);rw[B5,Az]at E;simp only[Nat.mul_zero,f66,f4u,f41]at o Ud;by_cases I:x=Yv
      ·subst I;by_cases Q:z=0
       ·subst Q;cases F:(D.all λp=>decide (p=Ah))with
        |false=>
          rw[F]at E;simp(disch:=try exact dz)only[L7,t0,seval,iP,iN,An,F4,Av,w,v,y,k,i,Ej,h,Mh,Qc,Ra,Ja,Jq,f6j,B0,Al,j,Me,G5,Aw,f3r,f1m,f31,f1n,f3s,f36,f52,m,Gz,H4,g,f,Ik,Jp,Ju,Qm,Cb,Ca,Cc,r,f3z,f3l,u,F,E,Yv]
          first
          |rfl
          |simp only[Xi,f5o,f6e]
        |true=>
          rw[F]at E;cases t
          ·simp(disch:=try exact dz)only[L7,t0,seval,iP,iN,An,F4,Av,w,v,y,k,i,Ej,h,Mh,Qc,Ra,Ja,Jq,f6j,B0,Al,j,Me,G5,Aw,f3r,f1m,f31,f1n,f3s,f36,f52,m,Gz,H4,g,f,Ik,Jp,Ju,Qm,Cb,Ca,Cc,r,f3z,f3l,u,h6,Ud,o,A,F,E,Yv]
           first
           |rfl
           |simp only[Xi,f5o,f6e]
          ·simp(disch:=try exact dz)only[L7,t0,seval,iP,iN,An,F4,Av,w,v,y,k,i,Ej,h,Mh,Qc,Ra,Ja,Jq,f6j,B0,Al,j,Me,G5,Aw,f3r,f1m,f31,f1n,f3s,f36,f52,m,Gz,H4,g,f,Ik,Jp,Ju,Qm,Cb,Ca,Cc,r,f3z,f3l,u,h6,Ud,o,A,F,E,Yv]
           first
           |rfl
           |simp only[Xi,f5o,f6e]
       ·simp(disch:=try exact dz)only[L7,t0,seval,iP,iN,An,F4,Av,w,v,y,k,i,Ej,h,Mh,Qc,Ra,Ja,Jq,f6j,B0,Al,j,Me,G5,Aw,f3r,f1m,f31,f1n,f3s,f36,f52,m,Gz,H4,g,f,Ik,Jp,Ju,Qm,Cb,Ca,Cc,r,f3z,f3l,u,Q,Yv]
        first
        |rfl
        |simp only[Xi,f5o,f6e]
      ·have U:(decide (x.kind=2)&&(decide (x.up=0)&&decide (x.name=[])))=false:=by
        cases x with|mk a b c=>simp only[Yv,NodeH.mk.injEq,not_and]at I;simp only[Bool.and_eq_false_imp,f2f,f02];exact I
       simp(disch:=try exact dz)only[L7,t0,seval,iP,iN,An,F4,Av,w,v,y,k,i,Ej,h,Mh,Qc,Ra,Ja,Jq,f6j,B0,Al,j,Me,G5,Aw,f3r,f1m,f31,f1n,f3s,f36,f52,m,Gz,H4,g,f,Ik,Jp,Ju,Qm,Cb,Ca,Cc,r,f3z,f3l,u,U,I]
       first
       |rfl
       |simp only[Xi,f5o,f6e]
     ·have B:=c25 x.name om;cases G:mayName x.name with
      |false=>
        rw[G]at B;simp(disch:=try exact dz)only[L7,t0,seval,iP,iN,An,F4,Av,w,v,y,k,i,Ej,h,Mh,Qc,Ra,Ja,Jq,f6j,B0,Al,j,Me,G5,Aw,f3r,f1m,f31,f1n,f3s,f36,f52,m,Gz,H4,g,f,Ik,Jp,Ju,Qm,Cb,Ca,Cc,r,f3z,f3l,C,u,B,G,h6,Ud,o,A];rfl
      |true=>
        rw[G]at B;cases t
        ·simp(disch:=try exact dz)only[L7,t0,seval,iP,iN,An,F4,Av,w,v,y,k,i,Ej,h,Mh,Qc,Ra,Ja,Jq,f6j,B0,Al,j,Me,G5,Aw,f3r,f1m,f31,f1n,f3s,f36,f52,m,Gz,H4,g,f,Ik,Jp,Ju,Qm,Cb,Ca,Cc,r,f3z,f3l,C,u,B,G,h6,Ud,o,A]
         first
         |rfl
         |simp only[Xi,f5o,f6e]
        ·simp(disch:=try exact dz)only[L7,t0,seval,iP,iN,An,F4,Av,w,v,y,k,i,Ej,h,Mh,Qc,Ra,Ja,Jq,f6j,B0,Al,j,Me,G5,Aw,f3r,f1m,f31,f1n,f3s,f36,f52,m,Gz,H4,g,f,Ik,Jp,Ju,Qm,Cb,Ca,Cc,r,f3z,f3l,C,u,B,G,h6,Ud,o,A]
         first
         |rfl
         |simp only[Xi,f5o,f6e]
def eh3(l:Sl Node)(n:Int)(d:(els l).length<=1000000)(H:AH):K tab A6 A5 357 [.agg [A4 Ap l],.N n] H=some (.bool (Vx (els l) n),H):=by
 refine Ae dy6 rfl (by simp[Aa,Ab,Ai]) rfl ?_ H;unfold Vx E6;by_cases a:0<=n
 ·by_cases b:n<(els l).length
  ·have c:n.toNat<(els l).length:=om;simp(disch:=omega)only[a06,t0,seval,iP,iN,a,b,Ad,Ap]
  ·simp(disch:=omega)only[a06,t0,seval,iP,iN,a,b]
 ·simp(disch:=omega)only[a06,t0,seval,iP,iN,a]
def es4(l:Sl Node)(x:Node)(f:(els l).length<=1000000)(g:x.name.length<=1000000)(H:AH):K tab A6 A5 336 [.agg [A4 Ap l],.agg [.N x.kind,.N x.up,.str x.name,.str x.body,.N x.bad]] H=some (.bool (J8 (els l) x),H):=by
 refine Ae e03 rfl (by simp[Aa,Ab,Ai]) rfl ?_ H;have a:=c25 x.name g;have c:=eh3 l x.up f;unfold J8;by_cases b:x.bad=0
 ·cases d:mayName x.name with
  |false=>
    rw[d]at a;simp(disch:=omega)only[Ui,t0,seval,iP,iN,b,a]
  |true=>
    rw[d]at a;cases e:Vx (els l) x.up with
    |false=>
      rw[e]at c;simp(disch:=omega)only[Ui,t0,seval,iP,iN,b,a,c]
    |true=>
      rw[e]at c;by_cases h3:x.kind=1
      ·simp(disch:=omega)only[Ui,t0,seval,iP,iN,b,a,c,h3];rw[show decide ((x.body.length:Int)<=128)=decide (x.body.length<=128)from f3k.2 om]
      ·by_cases h4:x.kind=2
       ·simp(disch:=omega)only[Ui,t0,seval,iP,iN,b,a,c,h3,h4]
       ·simp(disch:=omega)only[Ui,t0,seval,iP,iN,b,a,c,h3,h4]
 ·simp(disch:=omega)only[Ui,t0,seval,iP,iN,b]
def dm3{s:LO}{a:Int}(h:0<=a/\a<s.length):E6 s a∈s:=by
 unfold E6;rw[ex9,ez2 om];exact f3e _
def dr0(l:Sl Node)(n:Int)(p:(els l).length<=1000000)(f:0<=n/\n<(els l).length)(h:∀ x∈els l,0<=x.up/\x.up<(els l).length)(H:AH):K tab A6 A5 337 [.agg [A4 Ap l],.N n] H=some (.bool (Ns (els l) (els l).length n),H):=by
 refine Ae e02 rfl (by simp[Aa,Ab,Ai]) rfl ?_ H;simp(disch:=try exact dz)only[a8y,t0,seval,iP,iN];generalize g:Aj _ _ _=r;have b:∀ t,upIt (els l) (t+1) n=(E6 (els l) (upIt (els l) t n)).up:=λt=>by rw[al7];rfl
 have e:∀ t,0<=upIt (els l) t n/\upIt (els l) t n<(els l).length:=by
  intro t
  induction t with
  |zero=>exact f
  |succ t i=>rw[b];exact h _ (dm3 i)
 refine B6 g (els l).length
  (λj=>[U,.N (upIt (els l) j n),.ptr 0 0 0 1,U,.N (els l).length,.N j,U])
  (λj=>[some [[A4 Ap l]]]) (λj=>Ns (els l) (els l).length n=Ns (els l) ((els l).length-j) (upIt (els l) j n)) ?_ ?_ ?_ ?_ ?_
 ·simp[upIt]
 ·simp
 ·simp[upIt]
 ·intro j o hI;have c:((j:Int)<((els l).length:Int)):=om;have⟨k,m⟩:=e j;rw[show(els l).length-j=(els l).length-(j+1)+1 by omega,Ns]at hI;rw[b];unfold E6 at hI ⊢;generalize upIt (els l) j n=a at *;by_cases d:a=0
  ·rw[iP d]at hI;simp(disch:=try exact dz)only[t0,c,f52,Ad,Ap,d];rw[hI]
  ·rw[iN d]at hI;simp(disch:=try exact dz)only[t0,c,f52,Ad,Ap,d];exact⟨rfl,hI⟩
 ·intro hI;rw[f6g,Ns]at hI;simp(disch:=try exact dz)only[t0,f5q,hI]
def tw1(s:LO)(n:Int)(i:Nat):Bool:=decide (0<i)&&!decide ((i:Int)=n)&&!decide ((s.getD i df).kind=0)&&decide ((s.getD i df).up=(E6 s n).up)&&decide ((s.getD i df).name=(E6 s n).name)
def d5v(s:LO)(n:Int):S4 s n=(List.range s.length).any (tw1 s n):=rfl
def d5u(l:Sl Node)(n:Int)(g:(els l).length<=1000000)(i:0<=n/\n<(els l).length)(H:AH):K tab A6 A5 338 [.agg [A4 Ap l],.N n] H=some (.bool (S4 (els l) n),H):=by
 refine Ae e01 rfl (by simp[Aa,Ab,Ai]) rfl ?_ H;simp(disch:=try exact dz)only[a8x,t0,seval,iP,iN];generalize e:Aj _ _ _=r;refine B6 e (els l).length
  (λj=>[U,.N n,.ptr 0 0 0 1,U,U,U,A4 Ap l,.N (els l).length,.N j,U,U,U])
  (λj=>[some [[A4 Ap l]]]) (λj=>S4 (els l) n=((List.range (els l).length).drop j).any (tw1 (els l) n)) ?_ ?_ ?_ ?_ ?_
 ·simp
 ·simp
 ·simp[d5v]
 ·intro j f hI;have a:((j:Int)<((els l).length:Int)):=om;have c:(List.range (els l).length).drop j=j::(List.range (els l).length).drop (j+1):=by
   rw[ey9 (by rw[f2z];omega),f1v]
  rw[c,f5r]at hI;simp(disch:=try exact dz)only[t0,a,f52,Ad,Ap];have d:∀ b:Bool,(tw1 (els l) n j=b)=((decide
          ((decide
           ((decide ((decide (0<(j:Int))&&!decide ((j:Int)=n))=true) &&
            !decide (((els l).getD j df).kind=0)) =
             true) &&
           decide (((els l).getD j df).up=((els l).getD n.toNat df).up)) =
            true) &&
   decide (((els l).getD j df).name=((els l).getD n.toNat df).name))=b):=by
   intro b;simp only[f1e,tw1,E6,show decide (0<(j:Int))=decide (0<j)from f3k.2 om]
   congr
  constructor
  ·intro h;rw[hI,(d true).mpr h];rfl
  ·intro h;refine⟨rfl,?_⟩;rw[f3p]at h;rw[hI,(d false).mpr h];rfl
 ·intro hI;rw[f0c sm]at hI;simp(disch:=try exact dz)only[t0,f5q];rw[hI];rfl
def c57(n:Int)(a:0<=n)(b:n<=9)(H:AH):K tab A6 A5 356 [.N n] H=some (.str (Fj n.toNat),H):=by
 refine ak3 dl6 rfl rfl ?_ H;rw[de5];simp only[a7d];rw[iP ⟨a,b⟩]
def a13{f:FuncId}(d:A5 f=false){a:LA}(c:Aa a=true){x:AV}{b:AH}(h:Ev tab A6 A5 f a []=some (x,b))(H:AH) :
 K tab A6 A5 f a H=some (ren (Iz [] H.length) x,H++b.map λo=>o.map (renO (Iz [] H.length))):=by
 rw[b06 tab A6 A5 d,Qv a c,aq2,Am _ _ _ _ _ ⟨f4v,by simp⟩,Kk _ _ c,f5x,h,au7,iP sm];simp only[az4,ao5,f3w,f4p]
def en9(s:LO)(b:s≠[])(a:s.length<=1000000)(H:AH):K tab A6 A5 258 [.fz (s.map Ap)] H=some (.own H.length 5 0 s.length s.length,H++[some (s.map Cr)]):=by
 have e:Ev tab A6 A5 258 [.fz (s.map Ap)] []=some (.own 0 5 0 s.length s.length,[some (s.map Cr)]):=by
  refine Yq c1w ?_;rw[c0u];simp only[Hn];rw[iP ⟨by simp[Ap],by simpa using a,.inr trivial⟩,f3z,f6a];rfl
 rw[a13 rfl rfl e H];simp only[Tt,Ws,f3w,f4f,if_false,f60,f5y,Tz,f5b,f5x,f3y,G5]
def d7g(x:Node)(n:Int)(a:0<=n)(b:n<=9):Ev tab A6 A5 355 [.agg [.N x.kind,.N x.up,.str x.name,.str x.body,.N x.bad],.ptr 0 0 0 1] [some [[.N n]]]=some (.bool (decide (x.name=Fj n.toNat)),[some [[.N n]]]):=by
 refine Bz dy7 rfl ?_;simp(disch:=try exact dq)only[a8k,t0,seval,iP,iN,An,c57,Ar,Au,f3s]
def Ec{α:Type}(g:α->Bool):List α->Int
 |[]=>-1
 |p::l=>if g p=true then 0 else if Ec g l<0 then -1 else Ec g l+1
def Ub{α:Type}(g:α->Bool):∀ l:List α,-1<=Ec g l/\Ec g l<l.length
 |[]=>by simp[Ec]
 |p::l=>by
   have:=Ub g l;rw[Ec,f33];split
   ·omega
   ·split<;>omega
def au8{α:Type}(g:α->Bool):∀ l:List α,decide (0<=Ec g l)=l.any g
 |[]=>rfl
 |p::l=>by
   have a:=au8 g l;rw[Ec,f5r];cases b:g p with
   |true=>simp
   |false=>
     rw[iN sm,f5o,<-a];split
     ·rw[f4e om,f4e om]
     ·exact f3k.2 om
def d7h(x:Node)(n:Int)(a:0<=n)(b:n<=9):K tab A6 A5 355 [.agg [.N x.kind,.N x.up,.str x.name,.str x.body,.N x.bad],.ptr 0 0 0 1] [some [[.N n]]]=some (.bool (decide (x.name=Fj n.toNat)),[some [[.N n]]]):=by
 have h:=d7g x n a b;simp(disch:=try exact dq)only[KQ 355 rfl,t0,seval,iP,iN,An,Ar,Au,f3s,Am,h]
def e4z(l:Sl Node)(m:(els l).length<=1000000)(n:Int)(f:0<=n)(g:n<=9):Ev tab A6 A5 376 [A4 Ap l,.fn (.func 355) [] [.ptr 0 0 0 1]] [some [[.N n]]]=some (.N (Ec (λx=>decide (x.name=Fj n.toNat)) (els l)),[some [[.N n]]]):=by
 refine Bz dx6 rfl ?_;simp(disch:=try exact dq)only[a8f,t0,seval,iP,iN,An,Ar,Au,f3s];generalize k:Aj _ _ _=r;refine B6 k (els l).length (λj=>[A4 Ap l,.fn (.func 355) [] [.ptr 0 0 0 1],U,U,.N (els l).length,.N j,U])
  (λj=>[some [[.N n]]]) (λj=>Ec (λx=>decide (x.name=Fj n.toNat)) (els l)=if Ec (λx=>decide (x.name=Fj n.toNat)) ((els l).drop j)<0 then -1 else j+Ec (λx=>decide (x.name=Fj n.toNat)) ((els l).drop j)) ?_ ?_ ?_ ?_ ?_
 ·simp
 ·simp
 ·have:=Ub (λx:Node=>decide (x.name=Fj n.toNat)) (els l);rw[f4p];split<;>omega
 ·intro j i hI;have b:((j:Int)<((els l).length:Int)):=om;rw[F7 i,Ec]at hI;have c:=d7h ((els l).getD j df) n f g;have h:=Ub (λx:Node=>decide (x.name=Fj n.toNat)) ((els l).drop (j+1));cases d:decide (((els l).getD j df).name=Fj n.toNat)with
  |true=>
    rw[d]at c;simp only[d,if_true]at hI;simp(disch:=try exact dq)only[t0,An,Ar,Au,f3s,b,f52,Ad,Ap,c];rw[iN om,f6k]at hI;rw[hI]
  |false=>
    rw[d]at c;simp only[d,f1k,if_false]at hI;simp(disch:=try exact dq)only[t0,An,Ar,Au,f3s,b,f52,Ad,Ap,c];refine⟨rfl,?_⟩;rw[hI];generalize Ec _ (List.drop (j+1) (els l))=a at *;by_cases e:a<0
    ·simp[e]
    ·rw[iN e,iN e,iN om];omega
 ·intro hI;rw[f3n,Ec,iP om]at hI;simp(disch:=try exact dq)only[t0,An,Ar,Au,f3s,f5q,hI]
def cv6(l:Sl Node)(c:(els l).length<=1000000)(n:Int)(a:0<=n)(b:n<=9):Ev tab A6 A5 354 [A4 Ap l,.fn (.func 355) [] [.ptr 0 0 0 1]] [some [[.N n]]]=some (.bool ((els l).any λx=>decide (x.name=Fj n.toNat)),[some [[.N n]]]):=by
 have h:=e4z l c n a b;refine Bz dy8 rfl ?_;rw[<-au8];simp(disch:=try exact dq)only[a8l,KQ 376 rfl,t0,seval,iP,iN,An,Ar,Au,f3s,Am,h]
def d7f(l:Sl Node)(g:(els l).length<=8)(H:AH):K tab A6 A5 335 [.agg [A4 Ap l]] H=some (.str (Fj (J0 (els l))),H):=by
 refine Ae e04 rfl (by simp[Aa,Ab,Ai]) rfl ?_ H;simp(disch:=try exact dq)only[a8z,t0,seval,iP,iN,An,Ar,Au,f3s];generalize i:Aj _ _ _=r;have⟨h8,c⟩:=an6 (els l) g;have a:=(b1q ((els l).map (·.name)) 9 0).1;refine B6 i (J0 (els l)) (λj=>[U,.ptr 0 0 0 1,U,.ptr 1 0 0 1])
  (λj=>[some [[A4 Ap l]],some [[.N j]]]) (λj=>True) ?_ ?_ trivial ?_ ?_
 ·simp
 ·simp
 ·intro j f _;have b:((els l).any λx=>decide (x.name=Fj j))=true:=by
   have⟨x,d,e⟩:=f62.1 (a j (f6m _) f);exact f3j.2 ⟨x,d,by simpa using e⟩
  have h:=cv6 l om j om om;rw[show(j:Int).toNat=j by omega,b]at h;simp(disch:=try exact dq)only[KQ 354 rfl,t0,seval,iP,iN,An,Ar,Au,f3s,Am,h,f52];rfl
 ·intro _;have b:((els l).any λx=>decide (x.name=Fj (J0 (els l))))=false:=by
   rw[f2x];intro x d e;exact c (f62.2 ⟨x,d,by simpa using e⟩)
  have h:=cv6 l om (J0 (els l)) om om;rw[show(J0 (els l):Int).toNat=J0 (els l) by omega,b]at h;have hi:=c57 (J0 (els l)) om om;rw[show(J0 (els l):Int).toNat=J0 (els l) by omega]at hi;simp(disch:=try exact dq)only[KQ 354 rfl,t0,seval,iP,iN,An,Ar,Au,f3s,Am,h,hi,f52]
def ax5(x y:Node):(decide (x.kind=y.kind)&&(decide (x.up=y.up)&&(decide (x.name=y.name)&&(decide (x.body=y.body)&&decide (x.bad=y.bad)))))=decide (x=y):=by
 rw[<-f4i,<-f4i,<-f4i,<-f4i];refine f3k.2 ?_;cases x;cases y;simp
def b5m(x:Node):(decide (x.kind=2)&&(decide (x.up=0)&&(decide (x.name=[])&&(decide (x.body=[])&&decide (x.bad=0)))))=decide (x=foldN):=ax5 x foldN
def ax4(x:Node):(decide (x.kind=0)&&(decide (x.up=0)&&(decide (x.name=[])&&(decide (x.body=[])&&decide (x.bad=0)))))=decide (x=node0):=ax5 x node0
def cf2(x:Node):(decide (x.kind=3)&&(decide (x.up=0)&&(decide (x.name=[])&&(decide (x.body=[])&&decide (x.bad=0)))))=decide (x=lostN):=ax5 x lostN
def b3l(s:LO)(n:Nat):Bool:=decide (n=0)||decide ((s.getD n df).kind=0)||(Ns s s.length n&&!S4 s n)
def do8{s:LO}(a:s.length=8):mayNodes s=(decide (s.getD 0 df=foldN)&&((s.drop 1).all λx=>decide (x=node0)||J8 s x)&&(List.range 8).all (b3l s)):=by
 unfold mayNodes;rw[f51 a,f5e,<-a];rfl
def es5{s:LO}{x:Node}(h:J8 s x=true):0<=x.up/\x.up<s.length:=by
 unfold J8 Vx at h;simp only[f32,f2f]at h;exact⟨h.1.2.1.1,h.1.2.1.2⟩
def bq2(s:LO)(c:s.length=8)(D:∀ x∈s,x.name.length<=1000000)(H:AH):K tab A6 A5 298 [.agg [.fz (s.map Ap)]] H=some (.bool (mayNodes s),H):=by
 refine Ae c3v rfl rfl rfl ?_ H;have i:=do8 c;generalize mayNodes s=I at *;have B:List.drop 1 (List.take 8 (s.map Ap))=(s.drop 1).map Ap:=by
  rw[f0a (by rw[f3z];omega),f5t]
 have h5:(((s.drop 1).map Ap).all λe=>decide (e.length=5))=true:=by
  rw[f35];intro e J;obtain⟨x,_,rfl⟩:=f62.1 J;rfl
 have v:(s.drop 1).length=7:=by simp[c]
 cases m:decide (s.getD 0 df=foldN)with
 |true=>
   rw[m,f5e]at i;have o:∀ j,j<s.length->s.getD j df∈s:=λj g=>by
    rw[ex9,ez2 g];exact f3e _
   have k:∀ j,(s.drop 1).getD j df=s.getD (j+1) df:=λj=>by
    rw[ex9,f1l,ex9,f65]
   have G:∀ x∈s.drop 1,x∈s:=λx D=>f0t D;generalize s.drop 1=t at *;simp(disch:=try exact dq)only[a09,t0,seval,iP,iN,An,Ar,Au,f3s,c,v,B,h5,B0,Ap,b5m,m,Ik,Fh,Cb,Ca,Cc,f3z];generalize F:Aj _ _ _=r;refine B6 F 7
    (λj=>[U,.ptr 0 0 0 1,U,U,U,U,.fz ((t).map Ap),.N 7,.N j,U,U,U,U,U,U,U,U])
    (λj=>[some [[.fz (s.map Ap)]]]) (λj=>((t).all λx=>decide (x=node0)||J8 s x)=(((t).drop j).all λx=>decide (x=node0)||J8 s x)) ?_ ?_ ?_ ?_ ?_
   ·rfl
   ·rfl
   ·rw[f4p]
   ·intro j g hI;have a:((j:Int)<7):=om;rw[F7 om,f5k,k]at hI;have d:=es4 (some s) (s.getD (j+1) df) (by rw[Az];omega) (D _ (o _ om));rw[Az,B5]at d;have y:=k j;cases q:decide (s.getD (j+1) df=node0)with
    |true=>
      rw[q,f6e,f5e]at hI;simp(disch:=try exact dq)only[t0,seval,An,Ar,Au,f3s,a,v,f52,B0,Ap,y,ax4,q,f3z];exact⟨rfl,hI⟩
    |false=>
      cases u:J8 s (s.getD (j+1) df)with
      |true=>
        rw[u,f6d,f5e]at hI;rw[u]at d;simp(disch:=try exact dq)only[t0,seval,An,Ar,Au,f3s,a,v,f52,B0,Ap,y,ax4,q,d,f3z];exact⟨rfl,hI⟩
      |false=>
        rw[q,u,f5n,f4x]at hI;rw[hI,f4x]at i;rw[u]at d;simp(disch:=try exact dq)only[t0,seval,An,Ar,Au,f3s,a,v,f52,B0,Ap,y,ax4,q,d,i,f3z]
   ·intro hI;rw[f0c om,f6c]at hI;rw[hI,f5e]at i;have C:∀ x∈s,0<=x.up/\x.up<s.length:=by
     intro x E;obtain⟨n,L,rfl⟩:=f0z.1 E;have e:s.getD n df=s[n]:=(by rw[ex9,ez2 L];rfl);rw[<-e];rcases f1o n with rfl|M
     ·rw[f2w m];exact⟨by decide,by rw[c];decide⟩
     ·have g:=f35.1 hI (s.getD n df) (by
       have:=k (n-1);rw[show n-1+1=n by omega]at this;rw[<-this,ex9,ez2 om];exact f3e _)
      simp only[f44,f2f]at g;rcases g with g|g
      ·rw[g];exact⟨by decide,by rw[c];decide⟩
      ·exact es5 g
    simp(disch:=try exact dq)only[t0,seval,An,Ar,Au,f3s,f5q,c,f52,B0,Ap,f3z];generalize A:Aj _ _ _=O;clear F hI;obtain⟨R,w⟩:∃ R,R=List.range 8:=⟨_,rfl⟩;rw[<-w]at i;refine B6 A 8
     (λj=>[U,.ptr 0 0 0 1,U,U,U,U,U,U,U,U,U,.fz (s.map Ap),.N 8,.N j,U,U,U])
     (λj=>[some [[.fz (s.map Ap)]]]) (λj=>I=(R.drop j).all (b3l s)) ?_ ?_ ?_ ?_ ?_
    ·rfl
    ·rfl
    ·rw[f4p];exact i
    ·intro j g hI;have a:((j:Int)<8):=om;have z:R.drop j=j::R.drop (j+1):=by
      rw[w,ey9 (by rw[f2z];omega),f1v]
     rw[z,f5k]at hI;have b:=dr0 (some s) j (by rw[Az];omega) (by rw[Az];omega) (by rw[Az];exact C);have f:=d5u (some s) j (by rw[Az];omega) (by rw[Az];omega);rw[Az,B5]at b f;have p:b3l s j=(decide (j=0)||decide ((s.getD j df).kind=0)||(Ns s s.length j&&!S4 s j)):=rfl;rw[p]at hI;clear p;by_cases h:j=0
     ·rw[f51 h,f6e,f6e,f5e]at hI;simp(disch:=try exact dq)only[t0,seval,An,Ar,Au,f3s,h,c,f52,B0,Ap,f3z];subst h;exact hI
     ·by_cases l:(s.getD j df).kind=0
      ·rw[f51 l,f6d,f6e,f5e]at hI;simp(disch:=try exact dq)only[t0,seval,An,Ar,Au,f3s,a,h,l,c,f52,B0,Ap,f3z];exact⟨rfl,hI⟩
      ·rw[f4e l,f4e h,f5n,f5o]at hI;cases h3:Ns s s.length j with
       |false=>
         rw[h3]at b hI;rw[f4x,f4x]at hI;simp(disch:=try exact dq)only[t0,seval,An,Ar,Au,f3s,a,h,l,b,hI,c,f52,B0,Ap,f3z]
       |true=>
         rw[h3]at b hI;cases h4:S4 s j with
         |false=>
           rw[h4]at f hI;rw[f4s,f5f,f5e]at hI;simp(disch:=try exact dq)only[t0,seval,An,Ar,Au,f3s,a,h,l,b,f,c,f52,B0,Ap,f3z];exact⟨rfl,hI⟩
         |true=>
           rw[h4]at f hI;rw[f5d,f4w,f4x]at hI;simp(disch:=try exact dq)only[t0,seval,An,Ar,Au,f3s,a,h,l,b,f,hI,c,f52,B0,Ap,f3z]
    ·intro hI;rw[w,f0c (by simp),f6c]at hI;simp(disch:=try exact dq)only[t0,seval,An,Ar,Au,f3s,f5q,hI]
 |false=>
   rw[m,f4x,f4x]at i;simp(disch:=try exact dq)only[a09,t0,seval,iP,iN,An,Ar,Au,f3s,c,B0,Ap,b5m,m,i,Ik,Fh,Cb,Ca,Cc,f3z]
def d8p(l:Sl Node)(c:(els l).length<=1000000)(b:∀ x∈els l,x.name.length<=1000000)(H:AH):K tab A6 A5 298 [.agg [A4 Ap l]] H=some (.bool (mayNodes (els l)),H):=by
 by_cases h8:(els l).length=8
 ·cases l with
  |none=>simp[els]at h8
  |some s=>exact bq2 s h8 b H
 ·refine Ae c3v rfl (by simp[Aa,Ab,Ai]) rfl ?_ H;have e:mayNodes (els l)=false:=by
   unfold mayNodes;rw[f4e h8];simp
  have a:(((els l).length:Int)=8)=False:=eq_false om;simp(disch:=omega)only[a09,t0,seval,iP,iN,An,Ar,Au,f3s,a,e]
def dm2(l:Sl Node)(a:(els l).length<=1000000)(b:∀ x∈els l,x.name.length<=1000000)(H:AH):K tab A6 A5 243 [A4 Ap l] H=some (.bool (mayNodes (els l)),H):=by
 refine Ae e21 rfl (by simp[Aa,Ab,Ai]) rfl ?_ H;have h:=d8p l a b;simp(disch:=omega)only[aa9,t0,seval,iP,iN,An,Ar,Au,f3s,h]
def c29(s:LO)(b:∀ x∈s,x.name.length<=1000000):∀ n,∀ x∈Dn s n,x.name.length<=1000000
 |0=>b
 |n+1=>by
   have a:=c29 s b n;rw[Dn];unfold Su;intro x h;split at h
   ·rename_i e;rcases ey6 h with h|rfl
    ·exact a x h
    ·by_cases d:n<(Dn s n).length
     ·have c:(Dn s n).getD n df∈Dn s n:=by rw[ex9,ez2 d];exact f3e _
      have:=a _ c;exact this
     ·rw[List.set_eq_of_length_le om]at h;exact a _ h
   ·split at h
    ·rcases ey6 h with h|rfl
     ·exact a x h
     ·simp[Fj]
    ·exact a x h
def eo7(E:CallF)(a:LQ)(c:Nat)(V:Opd->AV)(H:AH)(b:LA):Ld A5 E 335 a c V H b false=W8 (Ke A5 E 335 a c V H) (Gy H b) c H (E 335 (B9 H b) []):=a4q rfl _ _ _ _ _ _
def el4(H:AH)(m:LO):List.flatMap (λe=>List.flatMap (Ii H 3) e) (m.map Cr)=[]:=by
 rw[f03];intro e a;obtain⟨x,_,rfl⟩:=f62.1 a;simp only[Cr,f2t,List.flatMap_nil,b5z,b5y,f42]
def dn4(s:LO)(f:s.length=8)(H:AH):K tab A6 A5 297 [.agg [.fz (s.map Ap)]] H=some (.agg [.fz ((Df s).map Ap)],H):=by
 refine Ae e10 rfl rfl rfl ?_ H;have w:=en9 s (by intro h;rw[h]at f;simp at f) om;simp(disch:=try exact dq)only[a9l,t0,seval,iP,iN,An,Ar,Au,f3s,w,f];generalize y:Aj _ _ _=r;refine B6 y 8
  (λj=>[U,U,.ptr 1 0 0 1,.ptr 3 0 0 1,U,U,U,.own 2 5 0 8 8,.N 8,.N j,U,U,U,U,U])
  (λj=>[some [[.fz (s.map Ap)]],some [[.emp]],some ((Dn s j).map Cr),some [[.own 2 5 0 8 8]]]) (λj=>True) ?_ ?_ trivial ?_ ?_
 ·rfl
 ·rfl
 ·intro j z _;have b:((j:Int)<8):=om;have a:(Dn s j).length=8:=by rw[Ss];exact f
  have o:=d7f (some (Dn s j)) (by rw[Az];omega);rw[Az,B5]at o;rw[Dn];unfold Su;have k:=Qc (S:=Dn s j) (n:=j) om;have d:=cf2 ((Dn s j).getD j df);have u:List.take 8 ((Dn s j).map Cr)=(Dn s j).map Cr:=f0a (by rw[f3z];omega);have g:List.take 8 ((Dn s j).map Ap)=(Dn s j).map Ap:=f0a (by rw[f3z];omega);generalize Dn s j=m at *;generalize A:m.getD j df=x at *;have l:(j:Int).toNat=j:=om;by_cases c:x.kind=1
  ·by_cases p:0<x.bad
   ·by_cases t:x.bad<=15
    ·rw[iP ⟨c,p,t⟩];simp(disch:=try exact dq)only[t0,seval,An,Ar,Au,f3s,b,a,k,l,c,p,t,f52,Ja,Jq,F4];rfl
    ·rw[iN (λh=>t h.2.2),iN (λh=>by rw[h.1]at c;revert c;decide)];simp(disch:=try exact dq)only[t0,seval,An,Ar,Au,f3s,b,a,k,l,c,p,t,f52,Ja,Jq,F4];rfl
   ·rw[iN (λh=>p h.2.1),iN (λh=>by rw[h.1]at c;revert c;decide)];simp(disch:=try exact dq)only[t0,seval,An,Ar,Au,f3s,b,a,k,l,c,p,f52,Ja,Jq,F4];rfl
  ·rw[iN (λh=>c h.1)];cases q:decide (x=lostN)with
   |true=>
     rw[q]at d;have e:=f2w q;by_cases v:0<j
     ·rw[iP ⟨e,v⟩];have i:(0:Int)<(j:Int):=om;simp(disch:=try exact dq)only[t0,seval,An,Ar,Au,f3s,b,a,k,l,c,d,i,eo7,b0q,el4,u,g,o,f52,Ja,Jq,F4];rfl
     ·rw[iN (λh=>v h.2)];have i:¬ (0:Int)<(j:Int):=om;simp(disch:=try exact dq)only[t0,seval,An,Ar,Au,f3s,b,a,k,l,c,d,i,f52,Ja,Jq,F4];rfl
   |false=>
     rw[q]at d;have e:=of_decide_eq_false q;rw[iN (λh=>e h.1)];simp(disch:=try exact dq)only[t0,seval,An,Ar,Au,f3s,b,a,k,l,c,d,f52,Ja,Jq,F4];rfl
 ·intro _;have a:(Dn s 8).length=8:=by rw[Ss];exact f
  have g:List.take 8 ((Dn s 8).map Ap)=(Dn s 8).map Ap:=f0a (by rw[f3z];omega);simp(disch:=try exact dq)only[t0,seval,An,Ar,Au,f3s,f5q,f,Ti,Un,a,g,f36];rw[Df,f]
def d62(s:LO)(a:s.length=8)(d:∀ x∈s,x.name.length<=1000000)(H:AH):K tab A6 A5 242 [.fz (s.map Ap)] H=some (.bool (tornNodes s),H):=by
 refine Ae e22 rfl rfl rfl ?_ H;have c:=dn4 s a;have b:=bq2 (Df s) (by rw[U2];exact a) (c29 s d _);rw[b18]at b;simp(disch:=omega)only[ab0,t0,seval,iP,iN,An,Ar,Au,f3s,c,b]
def cn3{lk:FuncId->Bool}{E:CallF}{f:FuncId}{a:LQ}{c:Nat}{V:Opd->AV}{H:AH}{x:AV}{H1:AH}(b:Aa (a.map V)=true)(h:E f (a.map V) []=some (x,H1))(d:c+H1.length<=H.length) :
 Ke lk E f a c V H=some ((List.range' c H1.length).map .con,(List.range' c H1.length).map .con++(List.range' c H1.length).map .len,c+H1.length,ren (Bg (List.range' c H1.length)) x,Cp H (List.range' c H1.length) (H1.map λo=>o.map (renO (Bg (List.range' c H1.length))))):=by
 unfold Ke C7 M6;have e:L0 H (H.length*4+40) (Cn (a.map V)) []=[]:=by rw[Qv _ b];rfl
 simp only[b,Bool.true_eq_false,and_false,if_false,e,f5x,Kk _ _ b,h];rw[iP sm];simp only[f3w,f6m,if_true,f60,f41];rw[iP ⟨by simp,d⟩]
def b67(c:Nat)(V:Opd->AV)(H:AH)(a:c+1<=H.length):clK c H (Ke A5 (K tab A6 A5) 238 [] c V H) (some (.own 0 5 0 8 8,[some (Jw.map Cr)]))=some ([.con c],[.con c,.len c],c+1,.own c 5 0 8 8,Cp H [c] [some (Jw.map Cr)]):=by
 show Ke A5 (K tab A6 A5) 238 [] c V H=_;have h:=a24 [];rw[cn3 (x:=.own 0 5 0 8 8) (H1:=[some (Jw.map Cr)]) rfl h a];simp only[f33,f3w,f66,List.range'_one,f5b,f5x,f3d,f41,Tt,am6,ez7,Tz,f3y,G5]
def Jk{α:Type}(r:Nat)(a:List LP)(p:α->LP)(x:Sl α):frz r a (A4 p x)=A4 p x:=by rw[<-Ks];exact av7 r a _
def b89(r sz o l t:Nat)(H:AH):K tab A6 A5 242 [.own r sz o l t] H=Gr tab A6 A5 242 [.own r sz o l t] H (Aa (B9 H [.own r sz o l t])) (K tab A6 A5 242 (B9 H [.own r sz o l t]) H):=Hy _ _ _ rfl _ _
def b5l(p:Ptr):(decide (p.addr=0)&&(decide (p.birth=0)&&(decide ((p.sum.a.toNat:Int)=0)&&(decide ((p.sum.b.toNat:Int)=0)&&(decide ((p.sum.c.toNat:Int)=0)&&decide ((p.sum.d.toNat:Int)=0))))))=decide (p=Ah):=Us p
def aw9(d:Dev)(f:FilesR):AV:=.agg [A4 B4 d.last,A4 Ay d.wait,.N d.lies,.N d.arm,.bool d.down,.fz (f.set.map Ap),.fz (f.node.map Al),.fz (f.part.map Al),.bool f.torn]
theorem d9f(d:Dev)(hd:DevOk d)(p:Ptr)(H:AH):K tab A6 A5 181 [.agg [A4 B4 d.last,A4 Ay d.wait,.int .i64 d.lies,.int .i64 d.arm,.bool d.down],.agg [.int .i64 p.addr,.int .i64 p.birth,.int .u32 p.sum.a.toNat,.int .u32 p.sum.b.toNat,.int .u32 p.sum.c.toNat,.int .u32 p.sum.d.toNat]] H=some (aw9 d (Bt d p),H):=by
 refine Ae e2z rfl (by simp[Aa,Ab,Ai]) (by simp[aw9,Aa,Ab,Ai]) ?_ H;have hld:=a2d d hd p 3;unfold Bt;have hlo:=λt=>dp5 d Jw (Af 8) (Af 32) t;have e8:(Af 8).map Ac=[[AV.int .i64 0,.int .i64 0,.int .u32 0,.int .u32 0,.int .u32 0,.int .u32 0],[AV.int .i64 0,.int .i64 0,.int .u32 0,.int .u32 0,.int .u32 0,.int .u32 0],[AV.int .i64 0,.int .i64 0,.int .u32 0,.int .u32 0,.int .u32 0,.int .u32 0],[AV.int .i64 0,.int .i64 0,.int .u32 0,.int .u32 0,.int .u32 0,.int .u32 0],[AV.int .i64 0,.int .i64 0,.int .u32 0,.int .u32 0,.int .u32 0,.int .u32 0],[AV.int .i64 0,.int .i64 0,.int .u32 0,.int .u32 0,.int .u32 0,.int .u32 0],[AV.int .i64 0,.int .i64 0,.int .u32 0,.int .u32 0,.int .u32 0,.int .u32 0],[AV.int .i64 0,.int .i64 0,.int .u32 0,.int .u32 0,.int .u32 0,.int .u32 0]]:=rfl;have e32:(Af 32).map Ac=[[AV.int .i64 0,.int .i64 0,.int .u32 0,.int .u32 0,.int .u32 0,.int .u32 0],[AV.int .i64 0,.int .i64 0,.int .u32 0,.int .u32 0,.int .u32 0,.int .u32 0],[AV.int .i64 0,.int .i64 0,.int .u32 0,.int .u32 0,.int .u32 0,.int .u32 0],[AV.int .i64 0,.int .i64 0,.int .u32 0,.int .u32 0,.int .u32 0,.int .u32 0],[AV.int .i64 0,.int .i64 0,.int .u32 0,.int .u32 0,.int .u32 0,.int .u32 0],[AV.int .i64 0,.int .i64 0,.int .u32 0,.int .u32 0,.int .u32 0,.int .u32 0],[AV.int .i64 0,.int .i64 0,.int .u32 0,.int .u32 0,.int .u32 0,.int .u32 0],[AV.int .i64 0,.int .i64 0,.int .u32 0,.int .u32 0,.int .u32 0,.int .u32 0],[AV.int .i64 0,.int .i64 0,.int .u32 0,.int .u32 0,.int .u32 0,.int .u32 0],[AV.int .i64 0,.int .i64 0,.int .u32 0,.int .u32 0,.int .u32 0,.int .u32 0],[AV.int .i64 0,.int .i64 0,.int .u32 0,.int .u32 0,.int .u32 0,.int .u32 0],[AV.int .i64 0,.int .i64 0,.int .u32 0,.int .u32 0,.int .u32 0,.int .u32 0],[AV.int .i64 0,.int .i64 0,.int .u32 0,.int .u32 0,.int .u32 0,.int .u32 0],[AV.int .i64 0,.int .i64 0,.int .u32 0,.int .u32 0,.int .u32 0,.int .u32 0],[AV.int .i64 0,.int .i64 0,.int .u32 0,.int .u32 0,.int .u32 0,.int .u32 0],[AV.int .i64 0,.int .i64 0,.int .u32 0,.int .u32 0,.int .u32 0,.int .u32 0],[AV.int .i64 0,.int .i64 0,.int .u32 0,.int .u32 0,.int .u32 0,.int .u32 0],[AV.int .i64 0,.int .i64 0,.int .u32 0,.int .u32 0,.int .u32 0,.int .u32 0],[AV.int .i64 0,.int .i64 0,.int .u32 0,.int .u32 0,.int .u32 0,.int .u32 0],[AV.int .i64 0,.int .i64 0,.int .u32 0,.int .u32 0,.int .u32 0,.int .u32 0],[AV.int .i64 0,.int .i64 0,.int .u32 0,.int .u32 0,.int .u32 0,.int .u32 0],[AV.int .i64 0,.int .i64 0,.int .u32 0,.int .u32 0,.int .u32 0,.int .u32 0],[AV.int .i64 0,.int .i64 0,.int .u32 0,.int .u32 0,.int .u32 0,.int .u32 0],[AV.int .i64 0,.int .i64 0,.int .u32 0,.int .u32 0,.int .u32 0,.int .u32 0],[AV.int .i64 0,.int .i64 0,.int .u32 0,.int .u32 0,.int .u32 0,.int .u32 0],[AV.int .i64 0,.int .i64 0,.int .u32 0,.int .u32 0,.int .u32 0,.int .u32 0],[AV.int .i64 0,.int .i64 0,.int .u32 0,.int .u32 0,.int .u32 0,.int .u32 0],[AV.int .i64 0,.int .i64 0,.int .u32 0,.int .u32 0,.int .u32 0,.int .u32 0],[AV.int .i64 0,.int .i64 0,.int .u32 0,.int .u32 0,.int .u32 0,.int .u32 0],[AV.int .i64 0,.int .i64 0,.int .u32 0,.int .u32 0,.int .u32 0,.int .u32 0],[AV.int .i64 0,.int .i64 0,.int .u32 0,.int .u32 0,.int .u32 0,.int .u32 0],[AV.int .i64 0,.int .i64 0,.int .u32 0,.int .u32 0,.int .u32 0,.int .u32 0]]:=rfl;rw[e8,e32]at hlo;cases hL:Kl d p 3 with
 |none=>
   rw[hL]at hld;have htk:=λH=>bx1 [] (by simp) H;rw[show Yw []=none from by decide]at htk;simp(disch:=try exact dq)only[a0j,KQ 240 rfl,t0,seval,if_pos,if_neg,An,Ar,Au,f3s,Am,hld,Ej,htk,a5o,a24,b67,f41,f3r,f1m,hlo,F4,Av,G5,Aw,Ti,Qo,Un,M2,Jk,f3x,f36,f3y];rfl
 |some s=>
   rw[hL]at hld;have hls:=a6z hL;have htk:=λH=>bx1 s om H;simp only[f36];cases hT:Yw s with
   |none=>
     rw[hT]at htk;simp(disch:=try exact dq)only[a0j,KQ 240 rfl,t0,seval,if_pos,if_neg,An,Ar,Au,f3s,Am,hld,Ej,htk,a5o,a24,b67,f41,f3r,f1m,f31,f1n,hlo,F4,Av,G5,Aw,Ti,Qo,Un,M2,Jk,f3x,f36,f3y];rfl
   |some l=>
     rw[hT]at htk;have hl8:l.length=8:=(b1d hT).1;have hgl:(Kf d 0 l).length=8:=(by rw[ao0];exact hl8);have hg4:∀ x∈Kf d 0 l,x.2.1.length=4:=by
      intro x hx;obtain⟨n,hn,rfl⟩:=f0z.1 hx
      have:=b1v d 0 l n (by rw[ao0]at hn;exact hn);rw[ez2 hn]at this;rw[f4a this];exact(b1x _ _ _).1
     simp(disch:=try exact dq)only[a0j,t0,seval,if_pos,if_neg,An,Ar,Au,f3s,Am,hld,Ej,htk,a5o,a24,b67,f41,f3r,f1m,f31,f1n,hlo,F4,Av,G5,Aw,Ti,Qo,Un,M2,Jk,f3x,f36,f3y,hl8];generalize hr:Aj _ _ _=r;generalize hgg:Kf d 0 l=g at *;have hget:∀ j,j<8->g[j]?=some (V4 d j (l.getD j default)):=λj hj=>by
      rw[<-hgg,b1v d 0 l j om,f66]
     refine B6 hr 8
      (λj=>[.top,.top,.top,.top,.ptr 2 0 0 1,.ptr 5 0 0 1,.top,.top,.top,.top,.top,.top,.top,.top,.top,.top,.top,.top,.top,.top,.fz (l.map Al),.int .i64 8,.int .i64 j,.top,.top,.top,.top,.top])
      (λj=>[some [[A4 B4 d.last,A4 Ay d.wait,.int .i64 d.lies,.int .i64 d.arm,.bool d.down]],some [[.int .i64 p.addr,.int .i64 p.birth,.int .u32 p.sum.a.toNat,.int .u32 p.sum.b.toNat,.int .u32 p.sum.c.toNat,.int .u32 p.sum.d.toNat]],some [[.emp,.emp,.int .i64 0,.int .i64 0,.bool false,.emp,.emp,.emp,.bool false]],some [[AV.int .i64 0,.int .i64 0,.int .u32 0,.int .u32 0,.int .u32 0,.int .u32 0],[AV.int .i64 0,.int .i64 0,.int .u32 0,.int .u32 0,.int .u32 0,.int .u32 0],[AV.int .i64 0,.int .i64 0,.int .u32 0,.int .u32 0,.int .u32 0,.int .u32 0],[AV.int .i64 0,.int .i64 0,.int .u32 0,.int .u32 0,.int .u32 0,.int .u32 0],[AV.int .i64 0,.int .i64 0,.int .u32 0,.int .u32 0,.int .u32 0,.int .u32 0],[AV.int .i64 0,.int .i64 0,.int .u32 0,.int .u32 0,.int .u32 0,.int .u32 0],[AV.int .i64 0,.int .i64 0,.int .u32 0,.int .u32 0,.int .u32 0,.int .u32 0],[AV.int .i64 0,.int .i64 0,.int .u32 0,.int .u32 0,.int .u32 0,.int .u32 0]],some ((PJ g j).map Ac),some [[A4 B4 d.last,A4 Ay d.wait,.int .i64 d.lies,.int .i64 d.arm,.bool d.down,.own 6 5 0 8 8,.fz (l.map Al),.own 4 6 0 32 32,.bool (TJ g j)]],some ((SJ g j).map Cr)]) (λj=>True) ?_ ?_ trivial ?_ ?_
     ·rfl
     ·rfl
     ·intro j hj _;have hj':((j:Int)<8):=om;have hs:=hget j hj;have hS:=eu9 hgl hj hs;have hP:=ev6 hgl hg4 hj hs;have h1:=df4 d hd l hl8 j hj (SJ g j) hS (PJ g j) hP (TJ g j);have a1:=eu7 hgl hj hs;have a2:=ev4 hgl hg4 hj hs;have a3:=eu5 hgl hj hs;have a4:=eu8 hgl hj hs;have a5:=ev5 hgl hg4 hj hs;have hk:(j:Int).toNat=j:=om;unfold V4 at a1 a2 a3 a4 a5;unfold b35 at h1;have hpz:=b5l (l.getD j default);generalize SJ g (j+1)=S' at *;generalize PJ g (j+1)=P' at *;generalize TJ g (j+1)=T' at *;generalize SJ g j=S at *;generalize PJ g j=P at *;generalize TJ g j=T at *;generalize hx:l.getD j default=x at *;have h1':(j=0\/x≠Ah)->Ev tab A6 A5 241 [.ptr 0 0 0 1,.int .i64 j] [some [[A4 B4 d.last,A4 Ay d.wait,.int .i64 d.lies,.int .i64 d.arm,.bool d.down,.own 1 5 0 8 8,.fz (l.map Al),.own 2 6 0 32 32,.bool T]],some (S.map Cr),some (P.map Ac)] =
       some (.tuple [],[some [[A4 B4 d.last,A4 Ay d.wait,.int .i64 d.lies,.int .i64 d.arm,.bool d.down,.own 1 5 0 8 8,.fz (l.map Al),.own 2 6 0 32 32,.bool T']],some (S'.map Cr),some (P'.map Ac)]):=by
       intro c;rw[h1];rw[if_pos c]at a1 a2 a3 a5;cases ho:Xg d j x with
       |none=>
         rw[ho]at a1 a2 a3 a5;simp only[forall_const]at a1 a2 a3 a5;rw[a1,a5,a3,f6d]
       |some q=>
         obtain⟨y,m⟩:=q;rw[ho]at a1 a2 a3 a5;simp only at a1 a2 a3 a5;rw[a1,a2,a3];have:decide (y.bad≠0)= !decide (y.bad=0):=(by by_cases h:y.bad=0<;>simp[h]);rw[this]
      by_cases c0:j=0
      ·subst c0;have h1':=h1' (.inl rfl);rw[show((0:Nat):Int)=0 from rfl]at h1';simp(disch:=try exact dq)only[KQ 241 rfl,t0,seval,if_pos,if_neg,An,Ar,Au,f3s,Am,f41,F4,Av,G5,Aw,Ti,Qo,Un,M2,Jk,f3x,f36,f3y,hj',hk,hl8,hx,B0,Al,h1'];rfl
      ·have c0':((j:Int)=0)=False:=eq_false om;cases cx:decide (x=Ah)with
       |false=>
         rw[cx]at hpz;have h1':=h1' (.inr (of_decide_eq_false cx));simp(disch:=try exact dq)only[KQ 241 rfl,t0,seval,if_pos,if_neg,An,Ar,Au,f3s,Am,f41,F4,Av,G5,Aw,Ti,Qo,Un,M2,Jk,f3x,f36,f3y,hj',hk,hl8,hx,c0',hpz,B0,Al,h1',f52];rfl
       |true=>
         rw[cx]at hpz;have cn:¬ (j=0\/x≠Ah):=λh=>h.elim c0 λh=>h (f2w cx);rw[if_neg cn]at a1 a2 a3 a4 a5;rw[a4 om rfl,a5 rfl,a3,f5n];simp(disch:=try exact dq)only[t0,seval,An,Ar,Au,f3s,Am,f41,F4,Av,G5,Aw,Ti,Qo,Un,M2,Jk,f3x,f36,f3y,hj',hk,hl8,hx,c0',hpz,B0,Al,f52];rfl
     ·intro _;rw[ev0 hgl,d1a hgl,eu6 hgl];have hnm:∀ x∈g.map (·.1),x.name.length<=1000000:=by
       intro x hx;obtain⟨y,hy,rfl⟩:=f62.1 hx;obtain⟨n,hn,rfl⟩:=f0z.1 hy
       have:=hget n om;rw[ez2 hn]at this;rw[f4a this]
       have:=(b1x d n (l.getD n default)).2;omega
      have hto:=d62 (g.map (·.1)) (by rw[f3z];exact hgl) hnm;have hgm:(g.map (·.1)).length=8:=(by rw[f3z];exact hgl);have hpm:((g.map (·.2.1)).flatten).length=32:=by
       rw[<-d1a hgl];unfold PJ;rw[f0a om];have:∀ l:List (Node×List Ptr×Bool),(∀ x∈l,x.2.1.length=4)->((l.map (·.2.1)).flatten).length=4*l.length:=by
        intro l
        induction l with
        |nil=>intro _;rfl
        |cons x l ih=>
          intro h;rw[f5b,f2k,f1q,h x (by simp),ih (λy hy=>h y (by simp[hy])),f33];omega
       rw[f1q,this g hg4,hgl,Af,f0j]
      have t1:List.take 8 ((g.map (·.1)).map Ap)=(g.map (·.1)).map Ap:=f0a (by rw[f3z];omega);have t2:List.take 32 (((g.map (·.2.1)).flatten).map Al)=((g.map (·.2.1)).flatten).map Al:=f0a (by rw[f3z];omega);have t3:List.take 8 ((g.map (·.1)).map Cr)=(g.map (·.1)).map Cr:=f0a (by rw[f3z];omega);have hlz:=dp6 d (g.map (·.1)) (l.map Al) ((g.map (·.2.1)).flatten) (g.any (·.2.2));unfold ag7 aw9;generalize g.map (·.1)=S at *;generalize (g.map (·.2.1)).flatten=P at *;generalize g.any (·.2.2)=T at *;cases ht:tornNodes S with
      |true=>
        rw[ht]at hto;simp(disch:=try exact dq)only[b89,b0q,t0,seval,if_pos,if_neg,An,Ar,Au,f3s,Am,f41,F4,Av,G5,Aw,Ti,Qo,Un,M2,Jk,f3x,f36,f3y,hgm,hpm,t1,t2,t3,hto]
      |false=>
        rw[ht]at hto;simp(disch:=try exact dq)only[b89,b0q,KQ 240 rfl,t0,seval,if_pos,if_neg,An,Ar,Au,f3s,Am,f41,F4,Av,G5,Aw,Ti,Qo,Un,M2,Jk,f3x,f36,f3y,hgm,hpm,t1,t2,t3,hto,hlz];rfl
def d6i(s:Bytes)(a:s.length<=100000){l:List DsetH}{q:LT}(h:Tk s=some (l,q))(H:AH):K tab A6 A5 180 [.str s] H=some (.tuple [.own H.length 5 0 l.length l.length,.own (H.length+1) 6 0 q.length q.length,.bool true],H++[some (l.map Qi),some (q.map Ac)]):=by
 have e:=bi3 s a;rw[h]at e;rw[a13 rfl rfl e H];simp only[a1r,Zd,Zc,Tt,a1s,Ws,f3w,f4f,if_false,f60,f5y,Tz,f5b,f5x,f3y,Kj,Aw]
def bi2(s:Bytes)(a:s.length<=100000)(h:Tk s=none)(H:AH):K tab A6 A5 180 [.str s] H=some (.tuple [.emp,.emp,.bool false],H):=by
 have e:=bi3 s a;rw[h]at e;rw[a13 rfl rfl e H];simp only[a1r,Zd,Zc,a6i,a1s,f5x,f42]
def K8:LA:=[.N 0,.N 0,.N 0,.N 0,.N 0,.M 0,.M 0,.M 0,.M 0,.N 0,.N 0,.M 0,.M 0,.M 0,.M 0,.N 0,.N 0,.M 0,.M 0,.M 0,.M 0,.N 0,.emp,.emp,.emp,.emp,.emp,.emp,.emp,.emp]
def Cm(r:Root)(a b c d e f g h:AV):LA:=[.N r.txg,.N r.next,.N r.guid,.N r.table.addr,.N r.table.birth,.M r.table.sum.a.toNat,.M r.table.sum.b.toNat,.M r.table.sum.c.toNat,.M r.table.sum.d.toNat,.N r.space.addr,.N r.space.birth,.M r.space.sum.a.toNat,.M r.space.sum.b.toNat,.M r.space.sum.c.toNat,.M r.space.sum.d.toNat,.N r.kept.addr,.N r.kept.birth,.M r.kept.sum.a.toNat,.M r.kept.sum.b.toNat,.M r.kept.sum.c.toNat,.M r.kept.sum.d.toNat,.N r.keptTxg,a,b,c,d,e,f,g,h]
def c8r(o:Option (Root×List DsetH×LT)):AV×AH:=match o with
 |some (r,l,q)=>(.tuple [.agg (Cm r .emp .emp .emp .emp (.own 0 5 0 l.length l.length) (.own 1 6 0 q.length q.length) .emp .emp),.bool true],[some (l.map Qi),some (q.map Ac)])
 |none=>(.tuple [.agg K8,.bool false],[])
def c8q(d:Dev)(t:DevOk d)(p:Ptr):Ev tab A6 A5 112 [.agg [A4 B4 d.last,A4 Ay d.wait,.N d.lies,.N d.arm,.bool d.down],.agg [.N p.addr,.N p.birth,.M p.sum.a.toNat,.M p.sum.b.toNat,.M p.sum.c.toNat,.M p.sum.d.toNat]] []=some (c8r (R6 d p)):=by
 refine Bz e40 rfl ?_;unfold R6;have f:=a2d d t p 6;cases m:Kl d p 6 with
 |none=>
   rw[m]at f;have e:=λH=>bi4 [] sm H;rw[show a5s []=none from by decide]at e;simp(disch:=try exact dq)only[Uk,t0,seval,iP,iN,An,Ar,Au,f3s,Am,f,Ej,e,Wt,Sc,Z5,f41,f3r,f1m,f31,f1n,Av,Aw,Ky,Kj];rfl
 |some s=>
   rw[m]at f;have v:=a6z m;have e:=λH=>bi4 s om H;simp only[f36];cases o:a5s s with
   |none=>
     rw[o]at e;simp(disch:=try exact dq)only[Uk,t0,seval,iP,iN,An,Ar,Au,f3s,Am,f,Ej,e,Wt,Sc,Z5,f41,f3r,f1m,f31,f1n,Av,Aw,Ky,Kj];rfl
   |some r=>
     rw[o]at e;by_cases j:r.txg=p.birth
     ·simp only[iP j];have g:=a2d d t r.table 4;cases i:Kl d r.table 4 with
      |none=>
        rw[i]at g;have h:=bi2 [] sm dc;simp(disch:=try exact dq)only[Uk,t0,seval,iP,iN,An,Ar,Au,f3s,Am,f,Ej,e,Wt,Sc,Z5,f41,f3r,f1m,f31,f1n,Av,Aw,Ky,Kj,j,g,h];rfl
      |some n=>
        rw[i]at g;have u:=a6z i;simp only[f36];cases k:Tk n with
        |none=>
          have h:=bi2 n om k;simp(disch:=try exact dq)only[Uk,t0,seval,iP,iN,An,Ar,Au,f3s,Am,f,Ej,e,Wt,Sc,Z5,f41,f3r,f1m,f31,f1n,Av,Aw,Ky,Kj,j,g,h];rfl
        |some q=>
          have⟨l,q⟩:=q;have h:=d6i n om k;simp(disch:=try exact dq)only[Uk,t0,seval,iP,iN,An,Ar,Au,f3s,Am,f,Ej,e,Wt,Sc,Z5,f41,f3r,f1m,f31,f1n,Av,Aw,Ky,Kj,j,g,h];simp only[c8r,Cm,j]
     ·simp only[iN j];simp(disch:=try exact dq)only[Uk,t0,seval,iP,iN,An,Ar,Au,f3s,Am,f,Ej,e,Wt,Sc,Z5,f41,f3r,f1m,f31,f1n,Av,Aw,Ky,Kj,j];rfl
section
def Od(x:DsetH)(f:FilesR):LA:=[.N x.id,.N x.kind,.N x.origin,.N x.quota,.fz (f.set.map Ap)]
def setsJ(d:Dev)(l:List DsetH)(q:LT)(j:Nat):AObj:=List.zipWith Od l ((q.take j).map (Bt d))++(l.drop j).map Qi
def Lw(d:Dev)(q:LT)(j:Nat):AObj:=(q.take j).map λp=>[.fz ((Bt d p).node.map Al)]
def Q3(d:Dev)(q:LT)(j:Nat):AObj:=(q.take j).map λp=>[.fz ((Bt d p).part.map Al)]
section
variable {d:Dev} {l:List DsetH} {q:List Ptr} (hl:l.length=q.length) {j:Nat} (hj:j<l.length)
include hl
theorem setsJ_len(hj:j<=l.length):(setsJ d l q j).length=l.length:=by
 simp[setsJ];omega
include hj
theorem d81:(setsJ d l q j)[j]?=some [.N (l.getD j df).id,.N (l.getD j df).kind,.N (l.getD j df).origin,.N (l.getD j df).quota,.emp]:=by
 unfold setsJ;rw[ex6 (by simp;omega),show j-(List.zipWith Od l ((q.take j).map (Bt d))).length=0 by simp;omega,f2i,f1l,f5y,ez2 hj,ex9,ez2 hj];rfl
theorem d7z:(setsJ d l q j).set j [.N (l.getD j df).id,.N (l.getD j df).kind,.N (l.getD j df).origin,.N (l.getD j df).quota,.fz ((Bt d (q.getD j df)).set.map Ap)]=setsJ d l q (j+1):=by
 have f:List.zipWith Od l ((q.take (j+1)).map (Bt d))=List.zipWith Od l ((q.take j).map (Bt d))++[Od (l.getD j df) (Bt d (q.getD j df))]:=by
  have a:∀ (A B:List DsetH) (C D:List FilesR),A.length=C.length->List.zipWith Od (A++B) (C++D)=List.zipWith Od A C++List.zipWith Od B D:=λA B C D h=>List.zipWith_append h;have e:l=l.take j++(l.getD j df::l.drop (j+1)):=by rw[<-F7 hj,f0l]
  have b:(l.take j).length=((q.take j).map (Bt d)).length:=by rw[f3z,f3l,f3l];omega
  rw[Et om,f4c];generalize (q.take j).map (Bt d)=m at *;have c:List.zipWith Od l m=List.zipWith Od (l.take j) m:=by
   have h:=a (l.take j) (l.getD j df::l.drop (j+1)) m [] b;rw[<-e,f42]at h;rw[h];simp
  have h:=a (l.take j) (l.getD j df::l.drop (j+1)) m ([q.getD j df].map (Bt d)) b;rw[<-e]at h;rw[h,c];simp only[f5b,f5x,f0b,List.zipWith_nil_right]
 unfold setsJ;rw[f4j,iN (by simp;omega),show j-(List.zipWith Od l ((q.take j).map (Bt d))).length=0 by simp;omega,f,F7 hj,f5b,f1z,f2p];rfl
end
theorem b22(d:Dev)(l:List DsetH)(q:LT)(j:Nat):∀ e∈setsJ d l q j,Aa e=true:=by
 intro e a;unfold setsJ at a;rcases f43.1 a with h|h
 ·rw[f0z]at h;obtain⟨n,b,rfl⟩:=h;rw[f11];rfl
 ·obtain⟨x,_,rfl⟩:=f62.1 h;rfl
theorem ap9(d:Dev)(l:List DsetH)(q:LT)(j:Nat):refsO (some (setsJ d l q j))=[]:=by
 simp only[refsO,f03];exact λe a=>Qv e (b22 d l q j e a)
theorem ap6(τ:Nat->Option Nat)(d:Dev)(l:List DsetH)(q:LT)(j:Nat):renO τ (setsJ d l q j)=setsJ d l q j:=by
 unfold renO
 conv=>rhs;rw[<-f6r (setsJ d l q j)]
 exact f16 λe a=>Kk τ e (b22 d l q j e a)
theorem Va(d:Dev)(q:LT)(j:Nat):refsO (some (Lw d q j))=[]:=J2 _ _ λ_=>rfl
theorem V9(d:Dev)(q:LT)(j:Nat):refsO (some (Q3 d q j))=[]:=J2 _ _ λ_=>rfl
theorem V7(τ:Nat->Option Nat)(d:Dev)(q:LT)(j:Nat):renO τ (Lw d q j)=Lw d q j:=Pz τ _ _ λ_=>rfl
theorem V6(τ:Nat->Option Nat)(d:Dev)(q:LT)(j:Nat):renO τ (Q3 d q j)=Q3 d q j:=Pz τ _ _ λ_=>rfl
theorem ce3(d:Dev)(v:DevOk d)(r:Root)(l:List DsetH)(q:LT)(hl:l.length=q.length)(z:l.length<=8):Ev tab A6 A5 113 [.agg [A4 B4 d.last,A4 Ay d.wait,.N d.lies,.N d.arm,.bool d.down],.ptr 0 0 0 1] [some [Cm r .emp .emp .emp .emp (.own 1 5 0 l.length l.length) (.own 2 6 0 l.length l.length) .emp .emp],some (l.map Qi),some (q.map Ac)] =
 some (.bool ((q.map (Bt d)).all λf=> !f.torn),[some [Cm r .emp .emp .emp .emp (.own 1 5 0 l.length l.length) (.own 2 6 0 l.length l.length) (.own 3 1 0 l.length l.length) (.own 4 1 0 l.length l.length)],some (setsJ d l q l.length),some (q.map Ac),some (Lw d q l.length),some (Q3 d q l.length)]):=by
 refine Bz e3z rfl ?_;simp(disch:=try exact dq)only[af2,t0,seval,iP,iN,An,Ar,Au,f3s,Cm,Ky,Av,Kj,Aw];generalize x:Aj _ _ _=A;refine B6 x l.length
  (λj=>[U,.ptr 0 0 0 1,.ptr 3 0 0 1,U,.bool (((q.take j).map (Bt d)).all λf=> !f.torn),U,U,U,.own 2 6 0 l.length l.length,.N l.length,.N j,U,U,U,U])
  (λj=>[some [Cm r .emp .emp .emp .emp (.own 1 5 0 l.length l.length) (.own 2 6 0 l.length l.length) (.own 4 1 0 j j) (.own 5 1 0 j j)],some (setsJ d l q j),some (q.map Ac),some [[A4 B4 d.last,A4 Ay d.wait,.N d.lies,.N d.arm,.bool d.down]],some (Lw d q j),some (Q3 d q j)]) (λj=>True) ?_ ?_ trivial ?_ ?_
 ·rfl
 ·simp[setsJ,Lw,Q3,Cm]
 ·intro j hj _;have h:((j:Int)<(l.length:Int)):=om;have w:((j:Int)<(q.length:Int)):=om;have n:(j:Int).toNat=j:=om;have e:=d9f d v (q.getD j df);have s:=setsJ_len (d:=d) hl (Nat.le_of_lt hj);have t:=d81 (d:=d) hl hj;have u:=d7z (d:=d) hl hj;have o:(Lw d q j).length=j:=by simp[Lw];omega
  have p:(Q3 d q j).length=j:=by simp[Q3];omega
  have k:Lw d q (j+1)=Lw d q j++[[.fz ((Bt d (q.getD j df)).node.map Al)]]:=by
   unfold Lw;rw[Et om,f4c];rfl
  have m:Q3 d q (j+1)=Q3 d q j++[[.fz ((Bt d (q.getD j df)).part.map Al)]]:=by
   unfold Q3;rw[Et om,f4c];rfl
  have y:((q.take (j+1)).map (Bt d)).all (λf=> !f.torn)=((((q.take j).map (Bt d)).all λf=> !f.torn)&&!(Bt d (q.getD j df)).torn):=by
   rw[Et om,f4c,f4k];simp
  have g:(q.map Ac)[j]?=some [.N (q.getD j df).addr,.N (q.getD j df).birth,.M (q.getD j df).sum.a.toNat,.M (q.getD j df).sum.b.toNat,.M (q.getD j df).sum.c.toNat,.M (q.getD j df).sum.d.toNat]:=by
   rw[f2i,ez2 om,ex9,ez2 om];rfl
  have i:(q.map Ac).length=l.length:=by rw[f3z];exact hl.symm
  rw[y];have k:=k.symm;have m:=m.symm;unfold aw9 at e;generalize (((q.take j).map (Bt d)).all λf=> !f.torn)=b at *;cases b
  ·simp(disch:=try exact dq)only[t0,seval,An,Ar,Au,f3s,h,n,s,t,o,p,g,i,e,u,k,m,f52,Cm,Av,Aw,ap9,ap6,Va,V9,V7,V6];rfl
  ·simp(disch:=try exact dq)only[t0,seval,An,Ar,Au,f3s,h,n,s,t,o,p,g,i,e,u,k,m,f52,Cm,Av,Aw,ap9,ap6,Va,V9,V7,V6];rfl
 ·intro _;rw[hl,f3m,<-hl];simp(disch:=try exact dq)only[t0,seval,An,Ar,Au,f3s,f5q,Cm,Av,Aw,ap9,ap6,Va,V9,V7,V6]
end
def c8o(d:Dev)(f:DevOk d)(p:Ptr){r:Root}{l:List DsetH}{q:LT}(h:R6 d p=some (r,l,q))(H:AH):K tab A6 A5 112 [.agg [A4 B4 d.last,A4 Ay d.wait,.N d.lies,.N d.arm,.bool d.down],.agg [.N p.addr,.N p.birth,.M p.sum.a.toNat,.M p.sum.b.toNat,.M p.sum.c.toNat,.M p.sum.d.toNat]] H =
 some (.tuple [.agg (Cm r .emp .emp .emp .emp (.own H.length 5 0 l.length l.length) (.own (H.length+1) 6 0 q.length q.length) .emp .emp),.bool true],H++[some (l.map Qi),some (q.map Ac)]):=by
 have e:=c8q d f p;rw[h]at e;rw[a13 rfl (by simp[Aa,Ab,Ai]) e H];simp only[Cm,a1r,ap8,Zd,Zc,Tt,a1s,a6h,a6i,Ws,f3w,f4f,if_false,f60,f5y,Tz,f5b,f5x,f3y,Kj,Aw]
def c8p(d:Dev)(f:DevOk d)(p:Ptr)(h:R6 d p=none)(H:AH):K tab A6 A5 112 [.agg [A4 B4 d.last,A4 Ay d.wait,.N d.lies,.N d.arm,.bool d.down],.agg [.N p.addr,.N p.birth,.M p.sum.a.toNat,.M p.sum.b.toNat,.M p.sum.c.toNat,.M p.sum.d.toNat]] H =
 some (.tuple [.agg K8,.bool false],H):=by
 have e:=c8q d f p;rw[h]at e;rw[a13 rfl (by simp[Aa,Ab,Ai]) e H];simp only[K8,a1r,ap8,Zd,Zc,a1s,a6h,a6i,f5x,f42]
def Lu(l:LT):LP:=[.fz (l.map Al)]
def Ft(r:Root)(a b c e:AV)(v:ViewL):LA:=Cm r a b c e (.fz (v.sets.map Ao)) (.fz (v.set.map Al)) (.fz (v.node.map Lu)) (.fz (v.part.map Lu))
def a6d(d:Dev)(p:Ptr):AV:=match Ln d p with
 |some v=>.tuple [.agg (Ft v.r .emp .emp .emp .emp v),.bool true]
 |none=>.tuple [.agg K8,.bool false]
def b4g{d:Dev}{p:Ptr}{r:Root}{l:List DsetH}{q:LT}(h:R6 d p=some (r,l,q)):l.length=q.length/\l.length<=8:=by
 unfold R6 at h;split at h
 ·split at h
  ·have⟨x,i,e⟩:=f09.1 h;obtain⟨s,_,g⟩:=f01.1 i;have⟨a,b⟩:=x;have c:=congrArg (λy=>y.2.1) e;have f:=congrArg (λy=>y.2.2) e;simp only at c f;subst c;subst f
   have:=d6j g;exact⟨this.1,this.2.1⟩
  ·cases h
 ·cases h
def bf4:∀ (l:List DsetH) (m:List FilesR),Cx (List.zipWith Od l m)=some ((List.zipWith (λx f=>Jy x f.set) l m).map Ao)
 |[],_=>rfl
 |_::_,[]=>rfl
 |x::l,f::m=>by
   rw[f0b,a1b,bf4 l m,show(Od x f).mapM Dr=some (Ao (Jy x f.set))from rfl];rfl
def d66(d:Dev)(l:List DsetH)(q:LT)(a:l.length=q.length):Cx (setsJ d l q l.length)=some ((List.zipWith (λx f=>Jy x f.set) l (q.map (Bt d))).map Ao):=by
 unfold setsJ;rw[show q.take l.length=q by rw[a];exact f3m,f3n,f5x,f42];exact bf4 l _
def bf7(d:Dev)(q:LT)(n:Nat)(h:n=q.length):Cx (Lw d q n)=some ((q.map λp=>(Bt d p).node).map Lu):=by
 subst h;unfold Lw;rw[f3m,f6a];exact Ka _ _ (λ_=>rfl) q
def bf6(d:Dev)(q:LT)(n:Nat)(h:n=q.length):Cx (Q3 d q n)=some ((q.map λp=>(Bt d p).part).map Lu):=by
 subst h;unfold Q3;rw[f3m,f6a];exact Ka _ _ (λ_=>rfl) q
mutual
def eg6(r:Nat)(a:List LP):∀ x:AV,Ab x=true->frz r a x=x
 |.own ..,h=>by simp[Ab]at h
 |.ptr ..,h=>by simp[Ab]at h
 |.agg cs,h=>by simp only[Ab]at h;simp only[frz,a40 r a cs h]
 |.tuple cs,h=>by simp only[Ab]at h;simp only[frz,a40 r a cs h]
 |.fn f first cap,h=>by
   simp only[Ab,f32]at h;simp only[frz,a40 r a first h.1,a40 r a cap h.2]
 |.top,_=>by simp[frz]
 |.bool _,_=>by simp[frz]
 |.int _ _,_=>by simp[frz]
 |.str _,_=>by simp[frz]
 |.nilp,_=>by simp[frz]
 |.emp,_=>by simp[frz]
 |.fz _,_=>by simp[frz]
 |.fptr _,_=>by simp[frz]
 |.nilfn,_=>by simp[frz]
def a40(r:Nat)(b:List LP):∀ a:LA,Aa a=true->C5 r b a=a
 |[],_=>by simp[C5]
 |x::a,h=>by
   simp only[Aa,f32]at h;simp only[C5,eg6 r b x h.1,a40 r b a h.2]
end
def T4(r:Nat)(a:List LP)(o:AObj)(h:∀ e∈o,Aa e=true):o.map (C5 r a)=o:=by
 conv=>rhs;rw[<-f6r o]
 exact f16 λe b=>a40 r a e (h e b)
def eg4(r:Nat)(a:List LP)(d:Dev)(l:List DsetH)(q:LT)(j:Nat):(setsJ d l q j).map (C5 r a)=setsJ d l q j:=T4 _ _ _ (b22 d l q j)
def c9q(r:Nat)(a:List LP)(d:Dev)(q:LT)(j:Nat):(Lw d q j).map (C5 r a)=Lw d q j:=T4 _ _ _ λe b=>by obtain⟨p,_,rfl⟩:=f62.1 b;rfl
def d91(d:Dev)(p:Ptr):Ab (a6d d p)=true:=by
 unfold a6d;split<;>rfl
def d8z(d:Dev)(h:DevOk d)(p:Ptr)(H:AH):K tab A6 A5 74 [.agg [A4 B4 d.last,A4 Ay d.wait,.N d.lies,.N d.arm,.bool d.down],.agg [.N p.addr,.N p.birth,.M p.sum.a.toNat,.M p.sum.b.toNat,.M p.sum.c.toNat,.M p.sum.d.toNat]] H=some (a6d d p,H):=by
 refine Ae l74 rfl (by simp[Aa,Ab,Ai]) (d91 d p) ?_ H;unfold a6d Ln;cases i:R6 d p with
 |none=>
   have g:=c8p d h p i;simp(disch:=try exact dq)only[g74,t0,seval,iP,iN,An,Ar,Au,f3s,g,K8];rfl
 |some x=>
   have⟨r,l,q⟩:=x;have g:=c8o d h p i;have⟨e,j⟩:=b4g i;have k:=ce3 d h r l q e j;have tA:=d66 d l q e;have tB:=bf7 d q l.length e;have y:=bf6 d q l.length e;have m:K7 (r,l,q) ⟨[],[],[],[]⟩ (q.map (Bt d))=⟨r,⟨[],[],[],[]⟩,List.zipWith (λx f=>Jy x f.set) l (q.map (Bt d)),q,q.map λp=>(Bt d p).node,q.map λp=>(Bt d p).part⟩:=by
    simp[K7,f6a]
   simp only[f3y,m];have u:(List.zipWith (λx f=>Jy x f.set) l (q.map (Bt d))).length=l.length:=(by simp;omega);have v:(q.map λp=>(Bt d p).node).length=l.length:=(by simp;omega);have w:(q.map λp=>(Bt d p).part).length=l.length:=(by simp;omega);generalize List.zipWith (λx f=>Jy x f.set) l (q.map (Bt d))=A at *;generalize (q.map λp=>(Bt d p).node)=B at *;generalize (q.map λp=>(Bt d p).part)=C at *;have n:List.take l.length (A.map Ao)=A.map Ao:=f0a (by rw[f3z];omega);have o:List.take l.length (B.map Lu)=B.map Lu:=f0a (by rw[f3z];omega);have s:List.take l.length (C.map Lu)=C.map Lu:=f0a (by rw[f3z];omega);have t:List.take l.length (q.map Al)=q.map Al:=f0a (by rw[f3z];omega);unfold Cm at k;simp(disch:=try exact dq)only[g74,KQ 113 rfl,t0,seval,iP,iN,An,Ar,Au,f3s,g,<-e,k,Cm,Am,Ky,Av,Kj,Aw,ap9,Va,V9,ap6,V7,V6,f41,tA,tB,y,Qo,f3z,u,v,w,n,o,s,t,eg4,c9q,M2,Jk,f3x,f36,f3y];rfl
def b5d(i:Int):∀ l:LD,Gl l i=Ec (λd=>decide (d.id=i)) l
 |[]=>rfl
 |d::l=>by
   rw[Gl,Ec,b5d i l];by_cases h:d.id=i
   ·rw[iP h,iP (by simpa using h)]
   ·rw[iN h,iN (show ¬ (decide (d.id=i))=true by simpa using h)]
def ei4(x:Dset)(n:Int):K tab A6 A5 340 [.agg [.N x.id,.N x.kind,.N x.origin,.N x.quota,A4 Ap x.files],.ptr 0 0 0 1] [some [[.N n]]]=some (.bool (decide (x.id=n)),[some [[.N n]]]):=by
 have h:Ev tab A6 A5 340 [.agg [.N x.id,.N x.kind,.N x.origin,.N x.quota,A4 Ap x.files],.ptr 0 0 0 1] [some [[.N n]]]=some (.bool (decide (x.id=n)),[some [[.N n]]]):=by
  refine Bz dz8 rfl ?_;simp(disch:=try exact dq)only[a8u,t0,seval,iP,iN,An,Ar,Au,f3s,Jk,Jr]
 simp(disch:=try exact dq)only[KQ 340 rfl,t0,seval,iP,iN,An,Ar,Au,f3s,Am,h,Jr]
def e50(l:Sl Dset)(i:(els l).length<=1000000)(n:Int):Ev tab A6 A5 339 [A4 Ao l,.fn (.func 340) [] [.ptr 0 0 0 1]] [some [[.N n]]]=some (.N (Gl (els l) n),[some [[.N n]]]):=by
 rw[b5d];refine Bz e00 rfl ?_;simp(disch:=try exact dq)only[a8w,t0,seval,iP,iN,An,Ar,Au,f3s];generalize h:Aj _ _ _=r;refine B6 h (els l).length (λj=>[A4 Ao l,.fn (.func 340) [] [.ptr 0 0 0 1],U,U,.N (els l).length,.N j,U])
  (λj=>[some [[.N n]]]) (λj=>Ec (λx=>decide (x.id=n)) (els l)=if Ec (λx:Dset=>decide (x.id=n)) ((els l).drop j)<0 then -1 else j+Ec (λx=>decide (x.id=n)) ((els l).drop j)) ?_ ?_ ?_ ?_ ?_
 ·simp
 ·simp
 ·have:=Ub (λx:Dset=>decide (x.id=n)) (els l);rw[f4p];split<;>omega
 ·intro j g hI;have b:((j:Int)<((els l).length:Int)):=om;rw[F7 g,Ec]at hI;have c:=ei4 ((els l).getD j df) n;have f:=Ub (λx:Dset=>decide (x.id=n)) ((els l).drop (j+1));cases d:decide (((els l).getD j df).id=n)with
  |true=>
    rw[d]at c;simp only[d,if_true]at hI;simp(disch:=try exact dq)only[t0,An,Ar,Au,f3s,b,f52,Ad,Ao,c];rw[iN om,f6k]at hI;rw[hI]
  |false=>
    rw[d]at c;simp only[d,f1k,if_false]at hI;simp(disch:=try exact dq)only[t0,An,Ar,Au,f3s,b,f52,Ad,Ao,c];refine⟨rfl,?_⟩;rw[hI];generalize Ec _ (List.drop (j+1) (els l))=a at *;by_cases e:a<0
    ·simp[e]
    ·rw[iN e,iN e,iN om];omega
 ·intro hI;rw[f3n,Ec,iP om]at hI;simp(disch:=try exact dq)only[t0,An,Ar,Au,f3s,f5q,hI]
def cd1(l:Sl Dset)(a:(els l).length<=1000000)(n:Int)(H:AH):K tab A6 A5 299 [A4 Ao l,.N n] H=some (.N (Gl (els l) n),H):=by
 refine Ae e0z rfl (by simp[Aa,Ab,Ai]) rfl ?_ H;have h:=e50 l a n;simp(disch:=try exact dq)only[a9k,KQ 339 rfl,t0,seval,iP,iN,An,Ar,Au,f3s,Am,h,Jr]
def ag5(l:LD)(i:Int):-1<=Gl l i/\Gl l i<l.length:=by
 rw[b5d];exact Ub _ _
def c5d(l:Sl Dset)(c:(els l).length<=1000000)(i k:Int)(H:AH):K tab A6 A5 244 [A4 Ao l,.N i,.N k] H=some (.bool (Jh (els l) i k),H):=by
 refine Ae e20 rfl (by simp[Aa,Ab,Ai]) rfl ?_ H;have h:=cd1 l c i;have d:=ag5 (els l) i;unfold Jh getA;generalize Gl (els l) i=a at *;by_cases b:0<=a
 ·rw[iP b];simp(disch:=omega)only[a3l,t0,seval,iP,iN,An,Ar,Au,f3s,h,b,Ad,Ao]
 ·rw[iN b];simp(disch:=omega)only[a3l,t0,seval,iP,iN,An,Ar,Au,f3s,h,b]
def Wb(l:LD)(i:Int):Nat->Int
 |0=>i
 |j+1=>match getA l (Wb l i j)with|some o=>o.origin|none=>0
def d8r(l:Sl Dset)(g:(els l).length<=1000000)(i:Int)(H:AH):K tab A6 A5 245 [A4 Ao l,.N i] H=some (.bool (Mu (els l) i (els l).length i),H):=by
 refine Ae e1z rfl (by simp[Aa,Ab,Ai]) rfl ?_ H;simp(disch:=try exact dq)only[aa8,t0,seval,iP,iN,An,Ar,Au,f3s];generalize k:Aj _ _ _=r;refine B6 k (els l).length
  (λj=>[A4 Ao l,.N i,U,.N (Wb (els l) i j),U,.N (els l).length,.N j,U])
  (λj=>[]) (λj=>Mu (els l) i (els l).length i=Mu (els l) i ((els l).length-j) (Wb (els l) i j)) ?_ ?_ ?_ ?_ ?_
 ·rfl
 ·rfl
 ·simp[Wb]
 ·intro j p hI;have d:((j:Int)<((els l).length:Int)):=om;rw[show(els l).length-j=(els l).length-(j+1)+1 by omega,Mu]at hI;have h:=cd1 l g (Wb (els l) i j);have n:=ag5 (els l) (Wb (els l) i j);have m:Wb (els l) i (j+1)=match getA (els l) (Wb (els l) i j)with|some o=>o.origin|none=>0:=rfl
  rw[m];unfold getA at hI ⊢;generalize Wb (els l) i j=a at *;generalize Gl (els l) a=b at *;by_cases c:0<=b
  ·rw[iP c]at hI;simp only[iP c];by_cases e:((els l).getD b.toNat df).origin=i
   ·simp only[iP e]at hI;simp(disch:=try exact dq)only[t0,An,Ar,Au,f3s,d,h,c,e,hI,Ad,Ao,f52]
   ·simp only[iN e]at hI;simp(disch:=try exact dq)only[t0,An,Ar,Au,f3s,d,h,c,e,Ad,Ao,f52];exact⟨rfl,hI⟩
  ·rw[iN c]at hI;have f:b<0:=om;simp(disch:=try exact dq)only[t0,An,Ar,Au,f3s,d,h,f,hI,f52]
 ·intro hI;rw[f6g,Mu]at hI;simp(disch:=try exact dq)only[t0,An,Ar,Au,f3s,f5q,hI]
def cz0(x:Dset):Prop:=(els x.files).length<=1000000/\∀ n∈els x.files,n.name.length<=1000000
def dn7(l:Sl Dset)(j:(els l).length<=1000000)(x:Dset)(m:cz0 x)(H:AH):K tab A6 A5 182 [.agg [.N x.id,.N x.kind,.N x.origin,.N x.quota,A4 Ap x.files,A4 Ao l]] H=some (.bool (U3 (els l) x),H):=by
 refine Ae e2y rfl (by simp[Aa,Ab,Ai]) rfl ?_ H;have b:=dm2 x.files m.1 m.2;have n:=c5d l j x.origin 1;have i:=c5d l j x.origin 2;have h3:=d8r l j x.id;unfold U3;by_cases a:1<=x.id
 ·by_cases c:x.id<=65535
  ·cases k:mayNodes (els x.files)with
   |false=>
     rw[k]at b;simp(disch:=omega)only[M1,t0,seval,iP,iN,An,Ar,Au,f3s,a,c,b]
   |true=>
     rw[k]at b;by_cases d:0<=x.quota
     ·by_cases e:x.quota<=255
      ·by_cases g:x.kind=1
       ·by_cases f:x.origin=0
        ·simp(disch:=omega)only[M1,t0,seval,iP,iN,An,Ar,Au,f3s,a,c,b,d,e,g,f]
        ·cases h:Jh (els l) x.origin 2 with
         |false=>
           rw[h]at i;simp(disch:=omega)only[M1,t0,seval,iP,iN,An,Ar,Au,f3s,a,c,b,d,e,g,f,i]
         |true=>
           rw[h]at i;simp(disch:=omega)only[M1,t0,seval,iP,iN,An,Ar,Au,f3s,a,c,b,d,e,g,f,i,h3]
       ·by_cases f:x.kind=2
        ·by_cases h:x.quota=0
         ·simp(disch:=omega)only[M1,t0,seval,iP,iN,An,Ar,Au,f3s,a,c,b,d,e,g,f,h,n]
         ·simp(disch:=omega)only[M1,t0,seval,iP,iN,An,Ar,Au,f3s,a,c,b,d,e,g,f,h]
        ·simp(disch:=omega)only[M1,t0,seval,iP,iN,An,Ar,Au,f3s,a,c,b,d,e,g,f]
      ·simp(disch:=omega)only[M1,t0,seval,iP,iN,An,Ar,Au,f3s,a,c,b,d,e]
     ·simp(disch:=omega)only[M1,t0,seval,iP,iN,An,Ar,Au,f3s,a,c,b,d]
  ·simp(disch:=omega)only[M1,t0,seval,iP,iN,An,Ar,Au,f3s,a,c]
 ·simp(disch:=omega)only[M1,t0,seval,iP,iN,An,Ar,Au,f3s,a]
def a2j(l:LD)(j:Nat):Int:=if j=0 then 0 else(l.getD (j-1) df).id
def b5t(l:Sl Dset)(f:(els l).length<=1000000)(i:∀ x∈els l,cz0 x)(H:AH):K tab A6 A5 114 [A4 Ao l] H=some (.bool (maySetsP (els l)),H):=by
 refine Ae e3y rfl (by simp[Aa,Ab,Ai]) rfl ?_ H;simp(disch:=try exact dq)only[af1,t0,seval,iP,iN,An,Ar,Au,f3s];generalize g:Aj _ _ _=r;refine B6 g (els l).length
  (λj=>[A4 Ao l,U,.N (a2j (els l) j),U,A4 Ao l,.N (els l).length,.N j,U,U])
  (λj=>[]) (λj=>Sd (els l) 0 (els l)=Sd (els l) (a2j (els l) j) ((els l).drop j)) ?_ ?_ ?_ ?_ ?_
 ·rfl
 ·rfl
 ·simp[a2j]
 ·intro j e hI;have a:((j:Int)<((els l).length:Int)):=om;rw[F7 e,Sd]at hI;have d:=dn7 l f ((els l).getD j df) (i _ (ax9 e));have h:a2j (els l) (j+1)=((els l).getD j df).id:=by simp[a2j]
  rw[h];unfold maySetsP;by_cases b:a2j (els l) j<((els l).getD j df).id
  ·cases c:U3 (els l) ((els l).getD j df)with
   |true=>
     rw[c,f51 b,f5e,f5e]at hI;rw[c]at d;simp(disch:=try exact dq)only[t0,An,Ar,Au,f3s,a,d,b,Ad,Ao,f52];exact⟨rfl,hI⟩
   |false=>
     rw[c,f4w,f4x]at hI;rw[c]at d;simp(disch:=try exact dq)only[t0,An,Ar,Au,f3s,a,d,b,hI,Ad,Ao,f52]
  ·rw[f4e b,f4x,f4x]at hI;simp(disch:=try exact dq)only[t0,An,Ar,Au,f3s,a,b,hI,Ad,Ao,f52]
 ·intro hI;rw[f3n,Sd]at hI;unfold maySetsP;simp(disch:=try exact dq)only[t0,An,Ar,Au,f3s,f5q,hI];rw[show decide (((els l).length:Int)<=8)=decide ((els l).length<=8)from f3k.2 om]
def A8(r:Rn):LP:=[.N r.a,.N r.b]
def Sx(r:Rn)(x:Int):Bool:=decide (r.a<=x)&&decide (x<r.b)
def e5a(r:Rn)(n:Int):K tab A6 A5 344 [.agg [.N r.a,.N r.b],.ptr 0 0 0 1] [some [[.N n]]]=some (.bool (Sx r n),[some [[.N n]]]):=by
 have h:Ev tab A6 A5 344 [.agg [.N r.a,.N r.b],.ptr 0 0 0 1] [some [[.N n]]]=some (.bool (Sx r n),[some [[.N n]]]):=by
  refine Bz dz5 rfl ?_;have c:=λH=>d8l (orc:=A6) (lk:=A5) r.a r.b n H;unfold Sx;simp(disch:=try exact dq)only[a8r,t0,seval,iP,iN,An,Ar,Au,f3s,c]
 simp(disch:=try exact dq)only[KQ 344 rfl,t0,seval,iP,iN,An,Ar,Au,f3s,Am,h]
def e4x(l:Sl Rn)(i:(els l).length<=1000000)(n:Int):Ev tab A6 A5 368 [A4 A8 l,.fn (.func 344) [] [.ptr 0 0 0 1]] [some [[.N n]]]=some (.N (Ec (λr=>Sx r n) (els l)),[some [[.N n]]]):=by
 refine Bz dy3 rfl ?_;simp(disch:=try exact dq)only[a8i,t0,seval,iP,iN,An,Ar,Au,f3s];generalize h:Aj _ _ _=r;refine B6 h (els l).length (λj=>[A4 A8 l,.fn (.func 344) [] [.ptr 0 0 0 1],U,U,.N (els l).length,.N j,U])
  (λj=>[some [[.N n]]]) (λj=>Ec (λr=>Sx r n) (els l)=if Ec (λr=>Sx r n) ((els l).drop j)<0 then -1 else j+Ec (λr=>Sx r n) ((els l).drop j)) ?_ ?_ ?_ ?_ ?_
 ·simp
 ·simp
 ·have:=Ub (λr=>Sx r n) (els l);rw[f4p];split<;>omega
 ·intro j g hI;have b:((j:Int)<((els l).length:Int)):=om;rw[F7 g,Ec]at hI;have c:=e5a ((els l).getD j df) n;have f:=Ub (λr=>Sx r n) ((els l).drop (j+1));cases d:Sx ((els l).getD j df) n with
  |true=>
    rw[d]at c;simp only[d,if_true]at hI;simp(disch:=try exact dq)only[t0,An,Ar,Au,f3s,b,f52,Ad,A8,c];rw[iN om,f6k]at hI;rw[hI]
  |false=>
    rw[d]at c;simp only[d,f1k,if_false]at hI;simp(disch:=try exact dq)only[t0,An,Ar,Au,f3s,b,f52,Ad,A8,c];refine⟨rfl,?_⟩;rw[hI];generalize Ec _ (List.drop (j+1) (els l))=a at *;by_cases e:a<0
    ·simp[e]
    ·rw[iN e,iN e,iN om];omega
 ·intro hI;rw[f3n,Ec,iP om]at hI;simp(disch:=try exact dq)only[t0,An,Ar,Au,f3s,f5q,hI]
def es1(l:Sl Rn)(a:(els l).length<=1000000)(n:Int):Ev tab A6 A5 343 [A4 A8 l,.fn (.func 344) [] [.ptr 0 0 0 1]] [some [[.N n]]]=some (.bool (hasR (els l) n),[some [[.N n]]]):=by
 have h:=e4x l a n;refine Bz dz6 rfl ?_;rw[show hasR (els l) n=(els l).any (λr=>Sx r n)from rfl,<-au8];simp(disch:=try exact dq)only[a8s,KQ 368 rfl,t0,seval,iP,iN,An,Ar,Au,f3s,Am,h,Jr]
def b1r(l:Sl Rn)(a:(els l).length<=1000000)(n:Int)(H:AH):K tab A6 A5 309 [A4 A8 l,.N n] H=some (.bool (hasR (els l) n),H):=by
 refine Ae e0r rfl (by simp[Aa,Ab,Ai]) rfl ?_ H;have h:=es1 l a n;simp(disch:=try exact dq)only[a9g,KQ 343 rfl,t0,seval,iP,iN,An,Ar,Au,f3s,Am,h,Jr]
def a2i(l:LR)(j:Nat):Int:=if j=0 then -1 else(l.getD (j-1) df).b
def a1f(l:Sl Rn)(m:(els l).length<=1000000)(H:AH):K tab A6 A5 308 [A4 A8 l] H=some (.bool (Gu (els l)),H):=by
 refine Ae e0s rfl (by simp[Aa,Ab,Ai]) rfl ?_ H;unfold Gu;simp(disch:=try exact dq)only[a9h,t0,seval,iP,iN,An,Ar,Au,f3s];generalize i:Aj _ _ _=r;refine B6 i (els l).length
  (λj=>[U,U,.N (a2i (els l) j),U,A4 A8 l,.N (els l).length,.N j,U,U])
  (λj=>[]) (λj=>Q8 (-1) (els l)=Q8 (a2i (els l) j) ((els l).drop j)) ?_ ?_ ?_ ?_ ?_
 ·rfl
 ·rfl
 ·simp[a2i]
 ·intro j h hI;have c:((j:Int)<((els l).length:Int)):=om;rw[F7 h,Q8]at hI;have k:a2i (els l) (j+1)=((els l).getD j df).b:=by simp[a2i]
  rw[k];generalize a2i (els l) j=a at *;generalize g:(els l).getD j df=x at *;by_cases d:a<x.a
  ·by_cases e:x.a<x.b
   ·by_cases f:x.b<=1073741824
    ·simp(disch:=try exact dq)only[t0,An,Ar,Au,f3s,c,d,e,f,g,Ad,A8,f52];refine⟨rfl,?_⟩;rw[hI,f51 d,f51 e,f51 f];simp
    ·simp(disch:=try exact dq)only[t0,An,Ar,Au,f3s,c,d,e,f,g,Ad,A8,f52];rw[hI];simp[d,e,f]
   ·simp(disch:=try exact dq)only[t0,An,Ar,Au,f3s,c,d,e,g,Ad,A8,f52];rw[hI];simp[d,e]
  ·simp(disch:=try exact dq)only[t0,An,Ar,Au,f3s,c,d,g,Ad,A8,f52];rw[hI];simp[d]
 ·intro hI;rw[f3n,Q8]at hI;simp(disch:=try exact dq)only[t0,An,Ar,Au,f3s,f5q,hI]
def cl9(l m:LR):Eo (l++m)=Eo l+Eo m:=by
 induction l with
 |nil=>simp[Eo]
 |cons r l a=>rw[f3d,Eo,Eo,a];omega
def Wg(l:LR):Prop:=l.length<=10000/\∀ r∈l,-1000000000000<=r.a/\r.a<=1000000000000/\ -1000000000000<=r.b/\r.b<=1000000000000
def cl8{l:LR}(h:∀ r∈l,-1000000000000<=r.a/\r.a<=1000000000000/\ -1000000000000<=r.b/\r.b<=1000000000000):-(2000000000000*(l.length:Int))<=Eo l/\Eo l<=2000000000000*l.length:=by
 induction l with
 |nil=>simp[Eo]
 |cons r l d=>
   have:=d (λx c=>h x (by simp[c]));have e:=h r sm;rw[Eo,f33];omega
def b1s(l:Sl Rn)(c:Wg (els l))(H:AH):K tab A6 A5 313 [A4 A8 l] H=some (.N (Eo (els l)),H):=by
 refine Ae e0m rfl (by simp[Aa,Ab,Ai]) rfl ?_ H;simp(disch:=try exact dq)only[a9d,t0,seval,iP,iN,An,Ar,Au,f3s];generalize d:Aj _ _ _=r;have f:=c.1;refine B6 d (els l).length
  (λj=>[U,U,.N (Eo ((els l).take j)),U,A4 A8 l,.N (els l).length,.N j,U,U])
  (λj=>[]) (λj=>True) ?_ ?_ trivial ?_ ?_
 ·simp[Eo]
 ·rfl
 ·intro j e _;have b:((j:Int)<((els l).length:Int)):=om;have k:=cl8 (l:=(els l).take j) λr d=>c.2 r (f0s d);have g:(((els l).take j).length:Int)<=10000:=by rw[f3l];omega
  have i:=c.2 ((els l).getD j df) (by rw[ex9,ez2 e];exact f3e _);rw[Et e,cl9];generalize Eo ((els l).take j)=a at *;generalize h:(els l).getD j df=x at *;simp only[Eo,f6k];simp(disch:=try exact dq)only[t0,An,Ar,Au,f3s,b,h,Ad,A8,f52];rfl
 ·intro _;rw[f3m];simp(disch:=try exact dq)only[t0,An,Ar,Au,f3s,f5q]
def Cv(r:Rn):LA:=[.N r.a,.N r.b]
def G7(l:LR):refsO (some (l.map Cv))=[]:=J2 l _ λ_=>rfl
def H7(τ:Nat->Option Nat)(l:LR):renO τ (l.map Cv)=l.map Cv:=Pz τ l _ λ_=>rfl
def a5n(l:LR):Cx (l.map Cv)=some (l.map A8):=Ka _ _ (λ_=>rfl) l
def ag2(r:Nat)(a:List LP)(l:LR):(l.map Cv).map (C5 r a)=l.map Cv:=T4 _ _ _ λe b=>by obtain⟨p,_,rfl⟩:=f62.1 b;rfl
def eq4(a b:Int):Ev tab A6 A5 306 [.emp,.agg [.N a,.N b]] []=some (.own 0 2 0 1 1,[some [[.N a,.N b]]]):=by
 refine Bz c3u rfl ?_;simp(disch:=try exact dq)only[a08,t0,seval,iP,iN,An,Ar,Au,f3s]
def ai9:∀ (m:LR) (q r:Rn),Da (m++[q]) r=if q.b=r.a then m++[⟨q.a,r.b⟩]else m++[q,r]
 |[],q,r=>by
   rw[f41,Da];rfl
 |[x],q,r=>by
   rw[f3d,f41,Da,Da];split<;>rfl
 |x::y::m,q,r=>by
   have c:=ai9 (y::m) q r;rw[f3d,f3d,Da];rw[f3d]at c;rw[c];split<;>rfl
def cr8(l:LR)(j:l≠[])(o:l.length<=1000000)(r:Rn):Ev tab A6 A5 306 [.own 0 2 0 l.length l.length,.agg [.N r.a,.N r.b]] [some (l.map Cv)]=some (.own 0 2 0 (Da l r).length (Da l r).length,[some ((Da l r).map Cv)]):=by
 refine Bz c3u rfl ?_;obtain⟨m,q,rfl⟩:∃ m q,l=m++[q]:=⟨l.dropLast,l.getLast j,(ex4 j).symm⟩;have p:0<(m++[q]).length:=by simp
 have i:((m++[q]).map Cv)[(m++[q]).length-1]?=some [.N q.a,.N q.b]:=by
  simp[Cv]
 have k:((m++[q]).map Cv).set ((m++[q]).length-1) [.N q.a,.N r.b]=(m++[(⟨q.a,r.b⟩:Rn)]).map Cv:=by
  simp[Cv]
 have e:(m++[q]).map Cv++[[.N r.a,.N r.b]]=(m++[q,r]).map Cv:=by simp[Cv]
 have f:(m++[(⟨q.a,r.b⟩:Rn)]).length=(m++[q]).length:=by simp
 have g:(m++[q,r]).length=(m++[q]).length+1:=by simp
 rw[ai9];have h:(((m++[q]).length:Int)-1).toNat=(m++[q]).length-1:=om;generalize d:(m++[q]).length=n at *;by_cases c:q.b=r.a
 ·simp(disch:=try exact dq)only[a08,t0,seval,iP,iN,An,Ar,Au,f3s,G7,H7,f3z,d,i,k,e,f,g,h,c,f52]
 ·simp(disch:=try exact dq)only[a08,t0,seval,iP,iN,An,Ar,Au,f3s,G7,H7,f3z,d,i,k,e,f,g,h,c,f52]
def dd(l:LI):LI:=l.foldl (λa x=>if a.getLast?=some x then a else a++[x]) []
def b60(l:LI)(x:Int):dd (l++[x])=if(dd l).getLast?=some x then dd l else dd l++[x]:=by
 unfold dd;rw[f2y];rfl
def el6:∀ (l:LI) (x:Int),(dd (l++[x])).getLast?=some x:=by
 intro l x;rw[b60];split
 ·assumption
 ·simp
def ck5{l:LI}(h:l≠[]):(dd l).getLast?=l.getLast?:=by
 obtain⟨m,x,rfl⟩:∃ m x,l=m++[x]:=⟨l.dropLast,l.getLast h,(ex4 h).symm⟩;rw[el6];simp
def ay1(l:LI){n:Nat}(h:n<l.length)(c:0<n):dd (l.take (n+1))=if l.getD n 0=l.getD (n-1) 0 then dd (l.take n)else dd (l.take n)++[l.getD n 0]:=by
 have e:l.take (n+1)=l.take n++[l.getD n 0]:=by
  rw[f2r,ex9,ez2 h];rfl
 rw[e,b60,ck5 (by intro b;have:=congrArg List.length b;rw[f3l,f3w]at this;omega)];have:(l.take n).getLast?=some (l.getD (n-1) 0):=by
  rw[ez1,f3l,f4h om,f1w,iP om,ex9,ez2 om];rfl
 rw[this];by_cases a:l.getD n 0=l.getD (n-1) 0
 ·rw[iP a,iP (by rw[a])]
 ·rw[iN a,iN (λb=>a (f4a b).symm)]
def Uu(l:LI):∀ n,n<=l.length->(dd (l.take n)).length<=n
 |0,_=>by simp[dd]
 |n+1,h=>by
   rcases f1o n with rfl|a
   ·have:l.take 1=[]++[l.getD 0 0]:=by
     rw[f2r,ex9,ez2 om];rfl
    rw[this,b60];simp[dd]
   ·have:=Uu l n om;rw[ay1 l om a];split<;>simp<;>omega
def Ix(l:LI)(n:Nat):LI:=dd (l.take n)++l.drop (dd (l.take n)).length
def ck6(l:LI){n:Nat}(h:n<=l.length):(Ix l n).length=l.length:=by
 have:=Uu l n h;simp[Ix];omega
def ck7(l:LI){n i:Nat}(h:n<=l.length)(hi:(dd (l.take n)).length<=i):(Ix l n)[i]?=l[i]?:=by
 unfold Ix;rw[ex6 hi,f1l]
 congr 1;omega
def el8(l:LI){n:Nat}(h:n<l.length)(a:0<n)(b:l.getD n 0=l.getD (n-1) 0):Ix l (n+1)=Ix l n/\(dd (l.take (n+1))).length=(dd (l.take n)).length:=by
 unfold Ix;rw[ay1 l h a,iP b];exact⟨rfl,rfl⟩
def el9(l:LI){n:Nat}(h:n<l.length)(a:0<n)(b:¬ l.getD n 0=l.getD (n-1) 0):Ix l (n+1)=(Ix l n).set (dd (l.take n)).length (l.getD n 0)/\(dd (l.take (n+1))).length=(dd (l.take n)).length+1:=by
 have c:=Uu l n om;unfold Ix;rw[ay1 l h a,iN b];refine⟨?_,by simp⟩;rw[f1q,f33,f3w,f4j,iN om,f6g,f2p]
 congr 1
 rw[ey9 (show(dd (l.take n)).length<l.length by omega),f1z];rfl
def cI(n:Int):LA:=[.N n]
def Aq(l:LI):refsO (some (l.map cI))=[]:=J2 l _ λ_=>rfl
def Ax(τ:Nat->Option Nat)(l:LI):renO τ (l.map cI)=l.map cI:=Pz τ l _ λ_=>rfl
def b4n{l:LI}{n:Nat}(h:n<l.length):(l.map cI)[n]?=some [.N (l.getD n 0)]:=by
 rw[f2i,ex9,ez2 h];rfl
def bo3(l:LI)(n:Nat)(x:Int):(l.map cI).set n [.N x]=(l.set n x).map cI:=by rw[f6i];rfl
def cm7(l:LI)(W:l.length<=1000000):Ev tab A6 A5 305 [.own 0 1 0 l.length l.length] [some (l.map cI)]=some (.own 0 1 0 (dd l).length l.length,[some ((dd l++List.replicate (l.length-(dd l).length) 0).map cI)]):=by
 refine Bz e0u rfl ?_;by_cases v:(l.length:Int)<2
 ·have e:dd l=l:=by
   match l,v with
   |[],_=>rfl
   |[x],_=>rfl
   |_::_::_,h=>simp at h;omega
  simp(disch:=try exact dq)only[a3d,t0,seval,iP,iN,An,Ar,Au,f3s,v,Aq,Ax,f3z,e,f6g,f18,f42]
 ·simp(disch:=try exact dq)only[a3d,t0,seval,iP,iN,An,Ar,Au,f3s,v,Aq,Ax,f3z];generalize T:Aj _ _ _=r;have d:2<=l.length:=om;refine B6 T (l.length-1)
   (λj=>[.own 0 1 0 l.length l.length,U,.N ((j:Int)+1),U,U,U,U,U])
   (λj=>[some (l.map cI)]) (λj=>dd (l.take (j+1))=l.take (j+1)) ?_ ?_ ?_ ?_ ?_
  ·rfl
  ·rfl
  ·rw[f2r,f4u,ez2 om];rfl
  ·intro j V hI;have K:((j:Int)+1)<(l.length:Int):=om;have o:=b4n (l:=l) (n:=j+1) om;have m:=b4n (l:=l) (n:=j) om;have s:((j:Int)+1).toNat=j+1:=om;have q:((j:Int)+1-1).toNat=j:=om;have c:=ay1 l (n:=j+1) om om;rw[show j+1-1=j by omega]at c;by_cases t:l.getD (j+1) 0=l.getD j 0
   ·simp(disch:=try exact dq)only[t0,An,Ar,Au,f3s,K,o,m,s,q,t,Aq,f3z,f52,Ik,Jp,Ju,Cb,Ca,Cc];generalize B:Aj _ _ _=X;have G:dd (l.take (j+2))=l.take (j+1):=(by rw[show j+2=j+1+1 by omega,c,iP t,hI]);have a0:Ix l (j+2)=l:=by
     unfold Ix;rw[G,f3l,f4h om,f0l]
    refine Hr (Q:=λr=>Rd _ _ _ _ (G3 _ _ (Bm _ _ (Bi _ (Bm _ _ (Bi _ r)))))) B (l.length-j-2)
     (λi=>[.own 0 1 0 l.length l.length,U,.N (dd (l.take (j+2+i))).length,.own 0 1 (j+1) (l.length-(j+1)) l.length,.N ((i:Int)+1),U,U,U])
     (λi=>[some ((Ix l (j+2+i)).map cI)]) (λi=>(dd (l.take (j+2+i))).length<=j+1+i) ?_ ?_ ?_ ?_ ?_
    ·rw[f5y,G,f3l,f4h om];rfl
    ·rw[f5y,a0]
    ·rw[f5y,G,f3l];omega
    ·intro i hi J;have z:j+2+i<l.length:=om;have p:((i:Int)+1)<((l.length-(j+1):Nat):Int):=om;have f:=ck6 l (n:=j+2+i) om;have P:=ck7 l (n:=j+2+i) (i:=j+1+(i+1)) om om;have O:=ck7 l (n:=j+2+i) (i:=j+1+i) om om;have I:((Ix l (j+2+i)).map cI)[j+1+(i+1)]?=some [.N (l.getD (j+2+i) 0)]:=by
      rw[f2i,P,show j+1+(i+1)=j+2+i by omega,ex9,ez2 z];rfl
     have H:((Ix l (j+2+i)).map cI)[j+1+i]?=some [.N (l.getD (j+1+i) 0)]:=by
      rw[f2i,O,ex9,ez2 om];rfl
     have a:=el9 l z om;have b:=el8 l z om;rw[show j+2+i-1=j+1+i by omega]at a b;have M:((i:Int)+1).toNat=i+1:=om;have L:((i:Int)+1-1).toNat=i:=om;have R:=b4n (l:=Ix l (j+2+i)) (n:=(dd (l.take (j+2+i))).length) om;have F:(((dd (l.take (j+2+i))).length:Nat):Int).toNat=(dd (l.take (j+2+i))).length:=om;rw[show j+2+(i+1)=j+2+i+1 by omega];by_cases u:l.getD (j+2+i) 0=l.getD (j+1+i) 0
     ·have⟨D,E⟩:=b u;rw[D,E];simp(disch:=try exact dq)only[t0,An,Ar,Au,f3s,p,I,H,M,L,u,f,Aq,f3z,f52];exact⟨rfl,by omega⟩
     ·have⟨D,E⟩:=a u;rw[D,E];generalize Ix l (j+2+i)=A at *;generalize (dd (l.take (j+2+i))).length=w at *;simp(disch:=try exact dq)only[t0,An,Ar,Au,f3s,p,I,H,M,L,u,f,R,F,bo3,Aq,f3z,f52];exact⟨rfl,by omega⟩
    ·intro J;rw[show j+2+(l.length-j-2)=l.length by omega,f3m]at J ⊢;have f:=ck6 l (n:=l.length) om;have g:Ix l l.length=dd l++l.drop (dd l).length:=(by unfold Ix;rw[f3m]);have F:(((dd l).length:Nat):Int).toNat=(dd l).length:=om;have y:List.take (dd l).length ((Ix l l.length).map cI)++List.replicate (l.length-(dd l).length) [AV.N 0]++List.drop ((dd l).length+(l.length-(dd l).length)) ((Ix l l.length).map cI)=(dd l++List.replicate (l.length-(dd l).length) 0).map cI:=by
      rw[<-f5g,g,List.take_left',f0c (by rw[f3z,<-g,f];omega),f42,f4c,f1x]
      ·rfl
      ·rfl
     have k:((dd l++List.replicate (l.length-(dd l).length) 0).map cI).length=l.length:=by
      rw[f3z,f1q,f0j];omega
     have C:¬ (dd l).length=0:=by
      intro S
      have:=ck5 (l:=l) (by intro h;rw[h]at d;simp at d);rw[ez8.1 S,ez1,ez1,ez2 (show l.length-1<l.length by omega)]at this;simp at this
     simp(disch:=try exact dq)only[t0,An,Ar,Au,f3s,f,F,C,Aq,Ax,f52,Ik,Jp,Ju,Cb,Ca,Cc,eo5,eo8,f66,y,k]
   ·simp(disch:=try exact dq)only[t0,An,Ar,Au,f3s,K,o,m,s,q,t,Aq,f3z,f52];refine⟨rfl,?_⟩;rw[c,iN t,hI,f2r (i:=j+1),ex9,ez2 om];rfl
  ·intro hI;simp(disch:=try exact dq)only[t0,An,Ar,Au,f3s,f5q,Aq,Ax,f3z,f52];rw[show l.length-1+1=l.length by omega,f3m]at hI;rw[hI,f6g,f18,f42]
def b3j{n y:Int}:∀ {l:LI},y∈Ko n l↔y=n\/y∈l
 |[]=>by simp[Ko]
 |x::l=>by
   rw[Ko];split
   ·simp
   ·rw[f5h,b3j (l:=l),f5h];constructor
    ·rintro(h|h|h)<;>simp[h]
    ·rintro(h|h|h)<;>simp[h]
def c7u{n:Int}:∀ {l:LI},l.Pairwise (·<=·)->(Ko n l).Pairwise (·<=·)
 |[],_=>by simp[Ko]
 |x::l,h=>by
   rw[Ko];rw[f2a]at h;split
   ·rename_i b;rw[f2a];refine⟨λy a=>?_,f2a.2 h⟩;rcases f5h.1 a with rfl|a
    ·exact b
    ·exact f68 b (h.1 y a)
   ·rename_i b;rw[f2a];refine⟨λy a=>?_,c7u h.2⟩;rcases b3j.1 a with rfl|a
    ·omega
    ·exact h.1 y a
def c7v(n:Int):∀ l:LI,(Ko n l).length=l.length+1
 |[]=>rfl
 |x::l=>by
   rw[Ko];split
   ·simp
   ·rw[f33,c7v n l,f33]
def bl8:∀ l:LI,(Dg l).Pairwise (·<=·)
 |[]=>List.Pairwise.nil
 |x::l=>c7u (bl8 l)
def c2b{y:Int}:∀ {l:LI},y∈Dg l↔y∈l
 |[]=>Iff.rfl
 |x::l=>by
   show y∈Ko x (Dg l)↔_;rw[b3j,c2b (l:=l),f5h]
def Pw:∀ l:LI,(Dg l).length=l.length
 |[]=>rfl
 |x::l=>by
   show(Ko x (Dg l)).length=_;rw[c7v,Pw l,f33]
def el7(l:LI):∀ b:LI,b.Pairwise (· < ·)->l.Pairwise (·<=·)->(∀ x∈b,∀ y∈l,x<=y)->
 (l.foldl (λb x=>if b.getLast?=some x then b else b++[x]) b).Pairwise (· < ·)/\∀ x,x∈l.foldl (λb x=>if b.getLast?=some x then b else b++[x]) b↔x∈b\/x∈l:=by
 induction l with
 |nil=>intro b h _ _;exact⟨h,by simp⟩
 |cons a l r=>
   intro b h g f;rw[f2a]at g;rw[f40];split
   ·rename_i n;have u:=List.mem_of_getLast? n;have⟨i,j⟩:=r b h g.2 (λx d y e=>f x d y (by simp[e]));refine⟨i,λx=>?_⟩;rw[j];constructor
    ·rintro(h|h)<;>simp[h]
    ·rintro(h|h)
     ·exact .inl h
     ·rcases f5h.1 h with rfl|h
      ·exact .inl u
      ·exact .inr h
   ·rename_i n;have o:∀ x∈b,x<a:=by
     intro x d;have s:=f x d a sm;rcases Int.lt_or_eq_of_le s with k|k
     ·exact k
     ·exfalso
      apply n;subst k;have c:b≠[]:=(by intro h;rw[h]at d;simp at d);rw[ex0 c]
      congr 1
      have h3:=f (b.getLast c) (List.getLast_mem c) x sm;obtain⟨m,q,p⟩:∃ m q,b=m++[q]:=⟨b.dropLast,b.getLast c,(ex4 c).symm⟩;have t:b.getLast c=q:=(by simp[p]);rw[t]at h3 ⊢;rw[p]at d h;rcases f43.1 d with h4|h4
      ·have:=(f0x.1 h).2.2 x h4 q sm;omega
      ·simp at h4;exact h4.symm
    have⟨i,j⟩:=r (b++[a]) (f0x.2 ⟨h,by simp,λx d y e=>by simp at e;subst e;exact o x d⟩) g.2 (λx d y e=>by
     rcases f43.1 d with h|h
     ·exact f x h y (by simp[e])
     ·simp at h;subst h;exact g.1 y e)
    refine⟨i,λx=>?_⟩;rw[j,f43,f5h];simp only[f5h,f3c,f6z];constructor
    ·rintro((h|h)|h)<;>simp[h]
    ·rintro(h|h|h)<;>simp[h]
def a4k(l:LI):(dd (Dg l)).Pairwise (· < ·)/\∀ x,x∈dd (Dg l)↔x∈l:=by
 have⟨a,b⟩:=el7 (Dg l) [] List.Pairwise.nil (bl8 l) (λ_ h=>by cases h);refine⟨a,λx=>?_⟩
 have:=b x;rw[c2b]at this;unfold dd;rw[this];simp
def G9(l:LR):LI:=l.flatMap λr=>[r.a,r.b]
def ah9(l m:LR):dd (Dg (G9 (l++m)))=Ga l m:=by
 refine bl4 (a4k _).1 (b5s l m) λx=>?_;rw[(a4k _).2,a29];unfold G9;rw[f3b];simp
def Lk(l:LI):Cx (l.map cI)=some (l.map λn=>[.N n]):=Ka _ _ (λ_=>rfl) l
def bl5(l:LI)(a:l.length<=100000):Ev tab A6 A5 304 [.own 0 1 0 l.length l.length] [some (l.map cI)]=some (.tuple [],[some ((Dg l).map cI)]):=by
 refine Yq dl2 ?_;rw[de1];have e:Zt (l.map cI)=some l:=c7q l;simp only[a60];rw[iP (by simp[a]),e];rfl
def em7(l m:Sl Rn)(a:(els l).length+(els m).length<=1000000):Ev tab A6 A5 346 [.own 0 1 0 2 2] [some [[A4 A8 l],[A4 A8 m]]]=some (.fz ((els l++els m).map A8),[some [[A4 A8 l],[A4 A8 m]]]):=by
 refine Yq dl8 ?_;rw[de7];simp only[ai2,b1y,f36];rw[iP ⟨by simp[A8],by simpa using a⟩,f4c]
def ej9(l m:Sl Rn)(v:(els l).length+(els m).length<=10000)(H:AH):K tab A6 A5 310 [.agg [A4 A8 l,A4 A8 m]] H=some (.fz ((Ga (els l) (els m)).map λn=>[.N n]),H):=by
 refine Ae e0p rfl (by simp[Aa,Ab,Ai]) rfl ?_ H;have t:=em7 l m om;simp(disch:=try exact dq)only[a9f,KQ 346 rfl,t0,seval,iP,iN,An,Ar,Au,f3s,Am,t,Jr,f3z];generalize q:Aj _ _ _=r;have e:∀ L:LR,(G9 L).length=2*L.length:=by
  intro L
  induction L with
  |nil=>rfl
  |cons r L s=>rw[G9,f2t,f1q];unfold G9 at s;rw[s,f33];simp;omega
 have g:(els l++els m).length=(els l).length+(els m).length:=f1q;have h:=ah9 (els l) (els m);rw[<-g]at q v;generalize els l++els m=L at *;refine B6 q L.length
  (λj=>[U,U,U,.own 2 1 0 (2*j) (2*j),U,.fz (L.map A8),.N L.length,.N j,U,U,U])
  (λj=>[some [[A4 A8 l,A4 A8 m]],some [[A4 A8 l],[A4 A8 m]],some ((G9 (L.take j)).map cI)]) (λj=>True) ?_ ?_ trivial ?_ ?_
 ·rfl
 ·rfl
 ·intro j u _;have i:((j:Int)<(L.length:Int)):=om;have x:=Et u;have w:(G9 (L.take (j+1))).map cI=(G9 (L.take j)).map cI++[[.N (L.getD j df).a],[.N (L.getD j df).b]]:=by
   rw[x];unfold G9;rw[f1f,f4c];rfl
  have k:((G9 (L.take j)).map cI).length=2*j:=by rw[f3z,e,f3l];omega
  rw[w];have o:=Aq (G9 (L.take j));generalize (G9 (L.take j)).map cI=A at *;simp(disch:=try exact dq)only[t0,seval,An,Ar,Au,f3s,i,k,B0,A8,o,f3z,f52];rfl
 ·intro _;rw[f3m];have d:=e L;have p:=bl5 (G9 L) om;have f:=cm7 (Dg (G9 L)) (by rw[Pw];omega);rw[Pw]at f;have c:=Uu (Dg (G9 L)) (Dg (G9 L)).length (f6o _);rw[f3m,Pw]at c;rw[h]at f c;rw[d]at p f c;generalize Ga (els l) (els m)=E at *;have y:(E++List.replicate (2*L.length-E.length) 0).length=2*L.length:=by rw[f1q,f0j];omega
  have z:List.take E.length ((E++List.replicate (2*L.length-E.length) 0).map λn=>[PV.N n])=E.map λn=>[PV.N n]:=by
   rw[f4c,List.take_left' (by rw[f3z])]
  simp(disch:=try exact dq)only[KQ 304 rfl,KQ 305 rfl,t0,seval,iP,iN,An,Ar,Au,f3s,Am,f5q,p,f,Jr,Aq,Ax,Lk,f3z,d,Pw,y,z,Jk,f36,f3y]
def Ha(so:Bool->Bool->Bool)(l m:LR)(E:LI):Nat->LR
 |0=>[]
 |j+1=>if so (hasR l (E.getD j 0)) (hasR m (E.getD j 0))=true then Da (Ha so l m E j) ⟨E.getD j 0,E.getD (j+1) 0⟩else Ha so l m E j
def b87(so:Bool->Bool->Bool)(l m:LR):∀ (E:LI) (c:LR) (j:Nat),j+1<E.length->M9 so l m (E.take (j+2)) c=(let o:=M9 so l m (E.take (j+1)) c;if so (hasR l (E.getD j 0)) (hasR m (E.getD j 0))=true then Da o ⟨E.getD j 0,E.getD (j+1) 0⟩else o)
 |[],_,j,h=>by simp at h
 |[_],_,j,h=>by simp at h
 |a::b::e,c,0,_=>by simp[M9]
 |a::b::e,c,j+1,h=>by
   have d:=b87 so l m (b::e) (if so (hasR l a) (hasR m a)=true then Da c ⟨a,b⟩else c) j (by simpa using h);simp only[f12,M9,f1b]at d ⊢;exact d
def c0p(so:Bool->Bool->Bool)(l m:LR)(E:LI):∀ j,j<E.length->Ha so l m E j=M9 so l m (E.take (j+1)) []
 |0,h=>by
   cases E with
   |nil=>simp at h
   |cons a e=>rfl
 |j+1,h=>by
   rw[Ha,b87 so l m E [] j h,c0p so l m E j om]
def ar9(so:Bool->Bool->Bool)(l m:LR):M8 so l m=Ha so l m (Ga l m) ((Ga l m).length-1):=by
 unfold M8;generalize Ga l m=E;cases E with
 |nil=>rfl
 |cons a e=>
   rw[c0p so l m (a::e) _ sm];rw[f0a sm]
def az2(l:LR)(r:Rn):Da l r≠[]:=by
 unfold Da;split<;>simp;split<;>simp
def ah6:∀ L:LR,(G9 L).length=2*L.length
 |[]=>rfl
 |r::L=>by
   have a:=ah6 L;unfold G9 at a ⊢;rw[f2t,f1q,a,f33];simp;omega
def cdV(E:CallF)(v:AV)(a:LA)(H:AH):Option (AV×AH):=match v with
 |.fn (.func f) first cap=>E f (first++a++cap) H
 |_=>none
def b05(E:CallF)(x:Opd)(a:LQ)(V:Opd->AV)(H:AH):Cq E (.calld x a) V H=cdV E (V x) (a.map V) H:=qq
def ay8(E:CallF)(f:FuncId)(a c b:LA)(H:AH):cdV E (.fn (.func f) a c) b H=E f (a++b++c) H:=qq
def cs0(a b:Int)(H:AH):K tab A6 A5 306 [.emp,.agg [.N a,.N b]] H=some (.own H.length 2 0 1 1,H++[some [[.N a,.N b]]]):=by
 rw[a13 rfl rfl (eq4 a b) H];simp only[Tt,Ws,f3w,f4f,if_false,f60,f5y,Tz,f5b,f5x,f3y,b2f,b2e,Zd,Zc,a6h]
def cr9(l:LR)(r:Rn):(Da l r).length<=l.length+1:=by
 by_cases h:l=[]
 ·subst h;simp[Da]
 ·obtain⟨m,q,rfl⟩:∃ m q,l=m++[q]:=⟨l.dropLast,l.getLast h,(ex4 h).symm⟩;rw[ai9];split<;>simp
def a6v(so:Bool->Bool->Bool)(l m:LR)(E:LI):∀ j,(Ha so l m E j).length<=j
 |0=>f6o _
 |j+1=>by
   have a:=a6v so l m E j;rw[Ha];split
   ·have:=cr9 (Ha so l m E j) ⟨E.getD j 0,E.getD (j+1) 0⟩;omega
   ·omega
def B8(w:LR):Sl Rn:=if w=[]then none else some w
def Dp(w:LR):els (B8 w)=w:=by
 unfold B8;split
 ·rename_i h;rw[h];rfl
 ·rfl
def oV(k:Nat)(o:LR):AV:=if o=[]then .emp else .own k 2 0 o.length o.length
def oH(a:AH)(n:Nat)(o:LR):AH:=if o=[]then a else a++List.replicate n none++[some (o.map Cv)]
def b0i(f:FuncId)(so:Bool->Bool->Bool)(B:∀ a b H,K tab A6 A5 f [.bool a,.bool b] H=some (.bool (so a b),H))(l m:Sl Rn)(I:(els l).length+(els m).length<=10000)(H:AH) :
 K tab A6 A5 253 [.agg [A4 A8 l,A4 A8 m],.fn (.func f) [] []] H=some (A4 A8 (B8 (M8 so (els l) (els m))),H):=by
 refine Ae e1q rfl (by simp[Aa,Ab,Ai]) (Ai _ _) ?_ H;have G:=ej9 l m I;rw[ar9];unfold B8;simp(disch:=try exact dq)only[aa2,t0,seval,iP,iN,An,Ar,Au,f3s,G];generalize L:Aj _ _ _=r;have F:(Ga (els l) (els m)).length<=20000:=by
  rw[<-ah9];have D:=Uu (Dg (G9 (els l++els m))) _ (f6o _);rw[f3m,Pw,ah6,f1q]at D;omega
 generalize P:Ga (els l) (els m)=E at *;refine B6 L (E.length-1)
  (λj=>[U,.fn (.func f) [] [],.ptr 0 0 0 1,U,oV 25 (Ha so (els l) (els m) E j),.fz (E.map λn=>[.N n]),.N ((j:Int)+1),U])
  (λj=>oH [some [[A4 A8 l,A4 A8 m]]] 24 (Ha so (els l) (els m) E j)) (λj=>True) ?_ ?_ trivial ?_ ?_
 ·rfl
 ·rfl
 ·intro j Q _;have k:((j:Int)+1<(E.length:Int)):=om;have w:((j:Int)+1).toNat=j+1:=om;have v:((j:Int)+1-1).toNat=j:=om;have g:=b1r l om (E.getD j 0);have h:=b1r m om (E.getD j 0);have p:=B (hasR (els l) (E.getD j 0)) (hasR (els m) (E.getD j 0));rw[Ha];have s:∀ i,E.getD i df=E.getD i 0:=λ_=>rfl;generalize t:E.getD j 0=x at *;generalize u:E.getD (j+1) 0=y at *;have J:=a6v so (els l) (els m) E j;generalize Ha so (els l) (els m) E j=o at *;cases C:so (hasR (els l) x) (hasR (els m) x)with
  |false=>
    rw[C]at p;rw[iN f2d];by_cases c:o=[]
    ·subst c;have d:oV 25 []=.emp:=rfl;have e:oH [some [[A4 A8 l,A4 A8 m]]] 24 []=[some [[A4 A8 l,A4 A8 m]]]:=rfl;rw[d,e];simp(disch:=try exact dq)only[t0,seval,An,Ar,Au,f3s,k,w,v,g,h,p,s,t,u,b05,ay8,f42,f41,B0,f3z,f52];rfl
    ·have d:oV 25 o=.own 25 2 0 o.length o.length:=iN c;have e:oH [some [[A4 A8 l,A4 A8 m]]] 24 o=[some [[A4 A8 l,A4 A8 m]],none,none,none,none,none,none,none,none,none,none,none,none,none,none,none,none,none,none,none,none,none,none,none,none,some (o.map Cv)]:=(by unfold oH;rw[iN c];rfl);rw[d,e];simp(disch:=try exact dq)only[t0,seval,An,Ar,Au,f3s,k,w,v,g,h,p,s,t,u,b05,ay8,f42,f41,B0,f3z,f52,G7];rfl
  |true=>
    rw[C]at p;rw[iP rfl];have M:oV 25 (Da o ⟨x,y⟩)=.own 25 2 0 (Da o ⟨x,y⟩).length (Da o ⟨x,y⟩).length:=iN (az2 _ _);have O:oH [some [[A4 A8 l,A4 A8 m]]] 24 (Da o ⟨x,y⟩)=[some [[A4 A8 l,A4 A8 m]],none,none,none,none,none,none,none,none,none,none,none,none,none,none,none,none,none,none,none,none,none,none,none,none,some ((Da o ⟨x,y⟩).map Cv)]:=(by unfold oH;rw[iN (az2 _ _)];rfl);rw[M,O];by_cases c:o=[]
    ·subst c;have z:=cs0 x y;have d:oV 25 []=.emp:=rfl;have e:oH [some [[A4 A8 l,A4 A8 m]]] 24 []=[some [[A4 A8 l,A4 A8 m]]]:=rfl;rw[d,e,show Da [] (⟨x,y⟩:Rn)=[⟨x,y⟩]from rfl];simp(disch:=try exact dq)only[t0,seval,An,Ar,Au,f3s,z,k,w,v,g,h,p,s,t,u,b05,ay8,f42,f41,B0,f3z,f52,G7];exact⟨rfl,rfl⟩
    ·have q:o.length<=1000000:=om;have A:=cr8 o c q ⟨x,y⟩;have d:oV 25 o=.own 25 2 0 o.length o.length:=iN c;have e:oH [some [[A4 A8 l,A4 A8 m]]] 24 o=[some [[A4 A8 l,A4 A8 m]],none,none,none,none,none,none,none,none,none,none,none,none,none,none,none,none,none,none,none,none,none,none,none,none,some (o.map Cv)]:=(by unfold oH;rw[iN c];rfl);rw[d,e];simp(disch:=try exact dq)only[KQ 306 rfl,t0,seval,iP,iN,An,Ar,Au,f3s,Am,A,k,w,v,g,h,p,s,t,u,b05,ay8,f42,f41,B0,f3z,f52,G7,H7];rfl
 ·intro _;generalize Ha so (els l) (els m) E (E.length-1)=o at *;have R:((E.length-1:Nat):Int)+1=(if E.length=0 then 1 else(E.length:Int)):=by split<;>omega
  by_cases c:o=[]
  ·subst c;have d:oV 25 []=.emp:=rfl;have e:oH [some [[A4 A8 l,A4 A8 m]]] 24 []=[some [[A4 A8 l,A4 A8 m]]]:=rfl;rw[d,e];simp(disch:=try exact dq)only[t0,seval,An,Ar,Au,f3s,f3z,Jk,f36,f3y]
  ·have d:oV 25 o=.own 25 2 0 o.length o.length:=iN c;have e:oH [some [[A4 A8 l,A4 A8 m]]] 24 o=[some [[A4 A8 l,A4 A8 m]],none,none,none,none,none,none,none,none,none,none,none,none,none,none,none,none,none,none,none,none,none,none,none,none,some (o.map Cv)]:=(by unfold oH;rw[iN c];rfl);rw[d,e];simp(disch:=try exact dq)only[t0,seval,An,Ar,Au,f3s,f3z,G7,H7,a5n,ag2,Jk,f36,f3y]
def d7k(a b:Bool)(H:AH):K tab A6 A5 254 [.bool a,.bool b] H=some (.bool (a||b),H):=by
 refine Ae e1p rfl rfl rfl ?_ H;cases a<;>cases b
 all_goals simp(disch:=omega)only[aa1,t0,seval,iP,iN,An,Ar,Au,f3s]
def bk9(l m:Sl Rn)(c:(els l).length+(els m).length<=10000)(H:AH):K tab A6 A5 186 [A4 A8 l,A4 A8 m] H=some (A4 A8 (B8 (Dk (els l) (els m))),H):=by
 refine Ae e2u rfl (by simp[Aa,Ab,Ai]) (Ai _ _) ?_ H;have h:=b0i 254 (λa b=>a||b) d7k l m c;simp(disch:=omega)only[ac6,t0,seval,iP,iN,An,Ar,Au,f3s,h];rfl
def d7i(a b:Bool)(H:AH):K tab A6 A5 255 [.bool a,.bool b] H=some (.bool (a&&!b),H):=by
 refine Ae e1o rfl rfl rfl ?_ H;cases a<;>cases b
 all_goals simp(disch:=omega)only[aa0,t0,seval,iP,iN,An,Ar,Au,f3s]
def Mr(l m:Sl Rn)(c:(els l).length+(els m).length<=10000)(H:AH):K tab A6 A5 187 [A4 A8 l,A4 A8 m] H=some (A4 A8 (B8 (Br (els l) (els m))),H):=by
 refine Ae e2t rfl (by simp[Aa,Ab,Ai]) (Ai _ _) ?_ H;have h:=b0i 255 (λa b=>a&&!b) d7i l m c;simp(disch:=omega)only[ac5,t0,seval,iP,iN,An,Ar,Au,f3s,h];rfl
def d7j(a b:Bool)(H:AH):K tab A6 A5 367 [.bool a,.bool b] H=some (.bool (a&&b),H):=by
 refine Ae dy4 rfl rfl rfl ?_ H;cases a<;>cases b
 all_goals simp(disch:=omega)only[a8j,t0,seval,iP,iN,An,Ar,Au,f3s]
def bk8(l m:Sl Rn)(c:(els l).length+(els m).length<=10000)(H:AH):K tab A6 A5 342 [A4 A8 l,A4 A8 m] H=some (A4 A8 (B8 (K5 (els l) (els m))),H):=by
 refine Ae dz7 rfl (by simp[Aa,Ab,Ai]) (Ai _ _) ?_ H;have h:=b0i 367 (λa b=>a&&b) d7j l m c;simp(disch:=omega)only[a8t,t0,seval,iP,iN,An,Ar,Au,f3s,h];rfl
def Jj(r:Nat)(a:List LP)(l:LI):(l.map cI).map (C5 r a)=l.map cI:=T4 _ _ _ λe b=>by obtain⟨p,_,rfl⟩:=f62.1 b;rfl
def b6w(l:LI):((l.map cI).all λe=>decide (e.length=1))=true:=by
 rw[f35];intro e a;obtain⟨x,_,rfl⟩:=f62.1 a;rfl
def eo1(l:LI)(b:l.length<=1000000):Ev tab A6 A5 303 [.own 0 1 0 l.length l.length] [some (l.map cI)]=some (.own 1 1 0 l.length l.length,[some (l.map cI),some (l.map cI)]):=by
 refine Yq c1x ?_;rw[c0v];unfold Hn;simp only[];have c:=Aq l;have a:(l.map cI).length<=1000000:=by rw[f3z];exact b
 rw[iP ⟨trivial,trivial,trivial,by simp,b6w l,c,a,.inr trivial⟩]
def N5(E:LI):Nat->LR
 |0=>[]
 |j+1=>if 0<=E.getD j 0/\E.getD j 0<1073741824 then Da (N5 E j) ⟨E.getD j 0,E.getD j 0+1⟩else N5 E j
def c1o:∀ (l:LI) (x:Int) (a:LR),R1 (l++[x]) a=(if 0<=x/\x<1073741824 then Da (R1 l a) ⟨x,x+1⟩else R1 l a)
 |[],x,a=>rfl
 |n::l,x,a=>by rw[f3d,R1,R1,c1o l x]
def b30(E:LI):∀ j,j<=E.length->N5 E j=R1 (E.take j) []
 |0,_=>rfl
 |j+1,h=>by
   have e:E.take (j+1)=E.take j++[E.getD j 0]:=by
    rw[f2r,ex9,ez2 om];rfl
   rw[N5,e,c1o,b30 E j om]
def b2z(E:LI):∀ j,(N5 E j).length<=j
 |0=>f6o _
 |j+1=>by
   have a:=b2z E j;rw[N5];split
   ·have:=cr9 (N5 E j) ⟨E.getD j 0,E.getD j 0+1⟩;omega
   ·omega
def b39(l:LI)(P:l.length<=10000):Ev tab A6 A5 250 [.own 0 1 0 l.length l.length] [some (l.map cI)]=some (A4 A8 (B8 (N8 l)),[some (l.map cI)]):=by
 refine Bz e1t rfl ?_;have I:=eo1 l om;have J:=bl5 l om;have h3:=cm7 (Dg l) (by rw[Pw];omega);rw[Pw]at h3;have A:=Uu (Dg l) (Dg l).length (f6o _);rw[f3m,Pw]at A;have p:(dd (Dg l)).length+(l.length-(dd (Dg l)).length)=l.length:=om;have C:N8 l=N5 (dd (Dg l)) (dd (Dg l)).length:=by
  rw[b30 _ _ (f6o _),f3m];exact(c1p l _ (a4k l).1 (a4k l).2).symm
 rw[C];generalize dd (Dg l)=E at *;simp(disch:=try exact dq)only[aa4,KQ 303 rfl,KQ 304 rfl,KQ 305 rfl,t0,seval,iP,iN,An,Ar,Au,f3s,Am,I,J,h3,p,Aq,Ax,f3z,f1q,f0j];generalize L:Aj _ _ _=r;have w:(E++List.replicate (l.length-E.length) 0).length=l.length:=by rw[f1q,f0j];exact p
 have B:∀ j,j<E.length->((E++List.replicate (l.length-E.length) 0).map cI)[j]?=some [.N (E.getD j 0)]:=by
  intro j t;rw[f2i,ey5 t,ex9,ez2 t];rfl
 have g:((E++List.replicate (l.length-E.length) 0).map cI).length=l.length:=by rw[f3z];exact w
 have a:=Aq (E++List.replicate (l.length-E.length) 0);obtain⟨G,n⟩:∃ G,Cx ((E++List.replicate (l.length-E.length) 0).map cI)=some G:=⟨_,Lk _⟩;have m:=λr H=>Jj r H (E++List.replicate (l.length-E.length) 0);generalize (E++List.replicate (l.length-E.length) 0).map cI=Z at *;refine B6 L E.length
  (λj=>[U,U,oV 2 (N5 E j),U,U,.own 1 1 0 E.length l.length,.N E.length,.N j,U])
  (λj=>oH [some (l.map cI),some Z] 0 (N5 E j)) (λj=>True) ?_ ?_ trivial ?_ ?_
 ·rfl
 ·rfl
 ·intro j t _;have d:((j:Int)<(E.length:Int)):=om;have k:(j:Int).toNat=j:=om;have b:=B j t;have K:=b2z E j;rw[N5];generalize i:E.getD j 0=x at *;generalize N5 E j=o at *;have u:oH [some (l.map cI),some Z] 0 []=[some (l.map cI),some Z]:=rfl;by_cases c:0<=x/\x<1073741824
  ·rw[iP c];have⟨D,F⟩:=c;have M:oV 2 (Da o ⟨x,x+1⟩)=.own 2 2 0 (Da o ⟨x,x+1⟩).length (Da o ⟨x,x+1⟩).length:=iN (az2 _ _);have O:oH [some (l.map cI),some Z] 0 (Da o ⟨x,x+1⟩)=[some (l.map cI),some Z,some ((Da o ⟨x,x+1⟩).map Cv)]:=(by unfold oH;rw[iN (az2 _ _)];rfl);rw[M,O];by_cases e:o=[]
   ·subst e;have y:=cs0 x (x+1);rw[u,show oV 2 []=.emp from rfl,show Da [] (⟨x,x+1⟩:Rn)=[⟨x,x+1⟩]from rfl];simp(disch:=try exact dq)only[t0,An,Ar,Au,f3s,y,D,F,d,k,b,g,i,Aq,a,G7,H7,B0,f3z,f52];exact⟨rfl,rfl⟩
   ·have z:=cr8 o e om ⟨x,x+1⟩;have q:oV 2 o=.own 2 2 0 o.length o.length:=iN e;have s:oH [some (l.map cI),some Z] 0 o=[some (l.map cI),some Z,some (o.map Cv)]:=(by unfold oH;rw[iN e];rfl);rw[q,s];simp(disch:=try exact dq)only[KQ 306 rfl,t0,seval,iP,iN,An,Ar,Au,f3s,Am,z,D,F,d,k,b,g,i,Aq,a,G7,H7,B0,f3z,f52];rfl
  ·rw[iN c];by_cases e:o=[]
   ·subst e;rw[u,show oV 2 []=.emp from rfl];rcases f6h x 0 with f|f
    ·simp(disch:=try exact dq)only[t0,An,Ar,Au,f3s,f,d,k,b,g,i,Aq,a,G7,H7,B0,f3z,f52];rfl
    ·have v:¬ x<1073741824:=λh=>c ⟨f,h⟩;simp(disch:=try exact dq)only[t0,An,Ar,Au,f3s,f,v,d,k,b,g,i,Aq,a,G7,H7,B0,f3z,f52];rfl
   ·have q:oV 2 o=.own 2 2 0 o.length o.length:=iN e;have s:oH [some (l.map cI),some Z] 0 o=[some (l.map cI),some Z,some (o.map Cv)]:=(by unfold oH;rw[iN e];rfl);rw[q,s];rcases f6h x 0 with f|f
    ·simp(disch:=try exact dq)only[t0,An,Ar,Au,f3s,f,d,k,b,g,i,Aq,a,G7,H7,B0,f3z,f52];rfl
    ·have v:¬ x<1073741824:=λh=>c ⟨f,h⟩;simp(disch:=try exact dq)only[t0,An,Ar,Au,f3s,f,v,d,k,b,g,i,Aq,a,G7,H7,B0,f3z,f52];rfl
 ·intro _;unfold B8;generalize N5 E E.length=o at *;by_cases e:o=[]
  ·subst e;have u:oH [some (l.map cI),some Z] 0 []=[some (l.map cI),some Z]:=rfl;rw[u,show oV 2 []=.emp from rfl];simp(disch:=try exact dq)only[t0,An,Ar,Au,f3s,f5q,g,n,m,Jj,Aq,Ax]
  ·have q:oV 2 o=.own 2 2 0 o.length o.length:=iN e;have s:oH [some (l.map cI),some Z] 0 o=[some (l.map cI),some Z,some (o.map Cv)]:=(by unfold oH;rw[iN e];rfl);rw[q,s];simp(disch:=try exact dq)only[t0,An,Ar,Au,f3s,f5q,g,a,n,m,Jj,Aq,Ax,G7,H7,a5n,ag2]
def dk5:Ev tab A6 A5 250 [.own 0 1 0 0 0] [some []]=some (.emp,[some []]):=b39 [] dc
def Bo(a:lN)(c:Nat)(H:AH):Option (AV×AH)->Option (List Loc×List Loc×Nat×AV×AH)
 |some (x,H1)=>if a.length<=H1.length then(if(∀ r∈a,r<c)/\c+(H1.length-a.length)<=H.length then some ((a++List.range' c (H1.length-a.length)).map .con,(a++List.range' c (H1.length-a.length)).map .con++(a++List.range' c (H1.length-a.length)).map .len,c+(H1.length-a.length),ren (Bg (a++List.range' c (H1.length-a.length))) x,Cp H (a++List.range' c (H1.length-a.length)) (H1.map λo=>o.map (renO (Bg (a++List.range' c (H1.length-a.length))))))else none)else none
 |none=>none
def Bl(E:CallF)(f:FuncId)(b:LA)(c:Nat)(H:AH)(a:lN):Option (List Loc×List Loc×Nat×AV×AH):=
 if a.Nodup/\(∀ r∈a,r<H.length)then Bo a c H (E f (Ck (Bh a) b) (a.map λr=>(H.at r).map (renO (Bh a))))else none
def Dz{f:FuncId}(e:A5 f=false)(E:CallF)(a:LQ)(c:Nat)(V:Opd->AV)(H:AH)(b:LA):Ld A5 E f a c V H b false=Bl E f (a.map V) c H (L0 H (H.length*4+40) (Cn (a.map V)) []):=by
 unfold Ld;rw[iN (by simp[e])];unfold C7 M6 Bl Bo;simp only[e,f1k,f6y,if_false];split
 ·rename_i h;split at h
  ·rename_i d;rw[iP d];split at h
   ·rename_i x H1 h3;rw[h3];split at h
    ·rename_i h4;obtain⟨rfl,rfl,rfl⟩:=(by simpa using h);simp only[iP h4]
    ·cases h
   ·cases h
  ·cases h
 ·rename_i h;split at h
  ·rename_i d;rw[iP d];split at h
   ·rename_i x H1 h3;rw[h3];split at h
    ·cases h
    ·rename_i h4;simp only[iN h4]
   ·rename_i h3;rw[h3]
  ·rename_i d;rw[iN d]
def c9n(r:Nat)(a:List LP)(q i j t:Nat)(h:q≠r):frz r a (.ptr q i j t)=.ptr q i j t:=by
 simp only[frz,iN h]
def tx:type_of% @t0/\type_of% @An/\type_of% @Ar/\type_of% @Au/\type_of% @cr7/\type_of% @Jk/\type_of% @Jr/\type_of% @c9n:=⟨@t0,@An,@Ar,@Au,@cr7,@Jk,@Jr,@c9n⟩
def b33:CallF:=λ_ _ _=>none
def lkN:FuncId->Bool:=λ_=>false
def c0w(P:Program):Il P b33:=λ_ _ _ _ _ h=>by cases h
mutual
def eq8:∀ x:AV,Dd x=[]->Ab x=true
 |.own ..,h=>by simp[Dd]at h
 |.ptr ..,h=>by simp[Dd]at h
 |.agg cs,h=>by simp only[Dd]at h;simp only[Ab];exact a4y cs h
 |.tuple cs,h=>by simp only[Dd]at h;simp only[Ab];exact a4y cs h
 |.fn f first cap,h=>by
   simp only[Dd,f08]at h;simp only[Ab,a4y first h.1,a4y cap h.2,f5m]
 |.top,_=>by simp[Ab]
 |.bool _,_=>by simp[Ab]
 |.int _ _,_=>by simp[Ab]
 |.str _,_=>by simp[Ab]
 |.nilp,_=>by simp[Ab]
 |.emp,_=>by simp[Ab]
 |.fz _,_=>by simp[Ab]
 |.fptr _,_=>by simp[Ab]
 |.nilfn,_=>by simp[Ab]
def a4y:∀ a:LA,Cn a=[]->Aa a=true
 |[],_=>by simp[Aa]
 |x::a,h=>by
   simp only[Cn,f08]at h;simp only[Aa,eq8 x h.1,a4y a h.2,f5m]
end
def d9b(τ:Nat->Option Nat){o:AObj}(h:refsO (some o)=[]):renO τ o=o:=by
 simp only[refsO,f03]at h;unfold renO
 conv=>rhs;rw[<-f6r o]
 exact f16 λe a=>Kk τ _ (a4y e (h e a))
def b6q(e:LP):Aa (e.map emb)=true:=by
 induction e with
 |nil=>rfl
 |cons x l a=>rw[f5b,Aa,a,az3];rfl
def a6k(l:List LP):refsO (some (l.map λe=>e.map emb))=[]:=J2 l (λe=>e.map emb) λe=>Qv _ (b6q e)
def ap7(τ:Nat->Option Nat)(l:List LP):renO τ (l.map λe=>e.map emb)=l.map λe=>e.map emb:=Pz τ l _ λe=>b6q e
def cw5{sz:Nat}(l:List LP)(h:(l.all λe=>decide (e.length=sz))=true):((l.map λe=>e.map emb).all λe=>decide (e.length=sz))=true:=by
 rw[List.all_map];rw[f35]at h ⊢;intro e a
 have:=h e a;simpa using this
def gC(sz b:Nat)(z:LA):FT:=⟨1,7,[.tmp 1],[0,2],false,(.seq (.reg 0 [y 1 (.emp)]) (.seq (.ifc 3 [] (.op (.eqnil false (.t 0)) [(v 0)]) (.seq (.reg 0 [y 1 (.emp)]) .ret) .skip) (.seq (.reg 5 [m 1 (.op (.append sz b z (.t 0) (.t 1)) [(.op (.bslice sz 0 z []) []),(v 0)])]) .ret)))⟩
def en4{f:FuncId}(sz b:Nat)(z:LA)(j:A9 Kd f=some (gC sz b z))(i:b<=100)(x:LP)(l:List LP)(a:((x::l).all λe=>decide (e.length=sz))=true)(g:(x::l).length<=1000000):Ev Kd b33 lkN f [.fz (x::l)] []=some (.own 0 sz 0 (x::l).length (x::l).length,[some ((x::l).map λe=>e.map emb)]):=by
 refine Bz j rfl ?_;have h:=cw5 l (by rw[f5k,f32]at a;exact a.2);have d:decide (x.length=sz)=true:=by rw[f5k,f32]at a;exact a.1
 have c:x.length=sz:=f2w d;have h3:=a6k l;rw[f33]at g;have h4:(l.length+1)*b<=1000000000000:=f61 (f54 g i) (by decide);have h5:l.length<=999999999:=om;have h6:Cn (x.map emb)=[]:=Qv _ (b6q x);have h7:=λτ=>ap7 τ (x::l);rw[f5b]at h7;have h8:=a6k (x::l);rw[f5b]at h8;simp(disch:=try exact dq)only[tx,seval,gC,h,d,c,h3,h4,h5,h6,h7,h8,f5f,f5m,eq_self,f74,if_true]
def en2{f:FuncId}(sz b:Nat)(z:LA)(h:A9 Kd f=some (gC sz b z))(g:b<=100)(x:LA)(l:AObj)(d:((x::l).all λe=>decide (e.length=sz))=true)(c:refsO (some (x::l))=[])(a:(x::l).length<=1000000):Ev Kd b33 lkN f [.own 0 sz 0 (x::l).length (x::l).length] [some (x::l)]=some (.own 1 sz 0 (x::l).length (x::l).length,[some (x::l),some (x::l)]):=by
 refine Bz h rfl ?_;have h7:=λτ=>d9b τ c;have h4:(l.length+1)*b<=1000000000000:=f61 (f54 (show l.length+1<=1000000 from a) g) dc;have h5:l.length<=999999999:=by rw[f33]at a;omega
 have h9:List.take (l.length+1) (x::l)=x::l:=f0a sm;rw[f5k]at d;simp(disch:=try exact dq)only[tx,gC,d,c,h4,h5,h7,h9,f5f,f5m,eq_self,f74,if_true]
abbrev oD:=tB @Rm @Rq @Ro @Ry @Rx @Rz @Rs @Rp<|tB @R8 @R9 @R4 @Qz @Qy @Rt @N1 @N2<|tB @Nc @Nd @Oo @Om @Ol @Pf @P0 @P7<|tB @P4 @P3 @Pe @P5 @Pc @P6 @P8 @P9<|tB @Pa @Pb @P2 @P1 @Ok @Oy @Ox @Oq<|tB @O9 @Mb @Oh @Mt @Cb @Ca @Cc @N6<|tB @N7 @O4 @O5 @O3 @Nv @O6 @Np @Nr<|tB @Ly @Nq @Ni @Nk @B0 @Nw @Ru @Rg<|tB @Rh @Qs @Mw @Rw @Oi @Oj @Mk @Mm<|tB @Ml @Og @Nh @Gz @H4 @Mn @Mp @Mq<|tB @Mo @M4 @Oc @O8 @Mv @Mx @Nl @Nn<|tB @Rv @Nb @Na @N9 @Q4 @Pi @Pm @Ph<|tA @Pj<|tA @Pk<|tA @Pl<|@Pn
def oC:type_of% oD:=oD
def en1{f:FuncId}(sz b:Nat)(z:LA)(d:(gC sz b z).is Tryz.prog f):C Tryz.prog f [.own 0 sz 0 0 0] [some []] (λy G=>y=.own 1 sz 0 0 0/\G=[some [],some []]):=by
 refine b0a d.1 rfl ?_;show W _ _ (ACode.seq (ACode.reg [{ dst:=some 2,guard:=none,op:=AOp.mv (Opd.c AV.emp) }]) (ACode.seq (ACode.seq (ACode.reg [{ dst:=some 3,guard:=none,op:=AOp.mv (Opd.t 0) },{ dst:=some 4,guard:=none,op:=AOp.eqnil false (Opd.t 3) }]) (ACode.cond (Opd.t 4) (ACode.seq (ACode.reg [{ dst:=some 2,guard:=none,op:=AOp.mv (Opd.c AV.emp) }]) ACode.ret) ACode.skip)) (ACode.seq (ACode.reg [{ dst:=some 5,guard:=none,op:=AOp.bslice sz 0 z [] },{ dst:=some 6,guard:=none,op:=AOp.mv (Opd.t 0) },{ dst:=some 7,guard:=none,op:=AOp.append sz b z (Opd.t 5) (Opd.t 6) },{ dst:=some 2,guard:=none,op:=AOp.mv (Opd.t 7) }]) ACode.ret))) (a5b [ARes.tmp 2] _) [.own 0 sz 0 0 0,U,U,U,U,U,U,U] _
 refine b74 ?_;simp only[oC,ez9,ez7,f31,f1y,f1z,f3z,f33,f3w,f12,f4u,f19,f4p,f5b,f5x,emb,Fg,f3y,f3d,f41,f13,f18,f2f,f02,if_true,if_false,f1k,Fs,Hd,Hx,Iy,ge_iff_le,f2h,exists_eq_left',f2o,f2b,f5d,f4s,f6s,f6b,f6l,f5s,forall_const,f70,f73,f2j,f2u,f6m,f6o,f2v,f5y,f66,cellsOf,cellA,f5k,f6c,f5f,f5e,lay,f1q,f3v,f0j,ne_eq,D9,Qx,Aa,Bg,f4y,f5p,R0];rw[iN (Nat.lt_irrefl 0),Q4];intro q;cases q
 ·simp only[oC,ez9,ez7,f31,f1y,f1z,f3z,f33,f3w,f12,f4u,f19,f4p,f5b,f5x,emb,Fg,f3y,f3d,f41,f13,f18,f2f,f02,if_true,if_false,f1k,Fs,Hd,Hx,Iy,ge_iff_le,f2h,exists_eq_left',f2o,f2b,f5d,f4s,f6s,f6b,f6l,f5s,forall_const,f70,f73,f2j,f2u,f6m,f6o,f2v,f5y,f66,cellsOf,cellA,f5k,f6c,f5f,f5e,lay,f1q,f3v,f0j,ne_eq,D9,Qx,Aa,Bg,f4y,f5p,R0,b75,ai8,aj0,Ym,aj1,aj5,f2k,f3i,f41,f42];have a:chunks sz 0 ([]:LA)=[]:=rfl;simp only[oC,a,f3i,f3w,if_true,Ym,f5x,f42,ez9,ez7,f31,f1y,f1z,f3z,f33,f3w,f12,f4u,f19,f4p,f5b,f5x,emb,Fg,f3y,f3d,f41,f13,f18,f2f,f02,if_true,if_false,f1k,Fs,Hd,Hx,Iy,ge_iff_le,f2h,exists_eq_left',f2o,f2b,f5d,f4s,f6s,f6b,f6l,f5s,forall_const,f70,f73,f2j,f2u,f6m,f6o,f2v,f5y,f66,cellsOf,cellA,f5k,f6c,f5f,f5e,lay,f1q,f3v,f0j,ne_eq,D9,Qx,Aa,Bg,f4y,f5p,R0];exact⟨by omega,_,_,Wk.refl _ _ _,rfl,rfl⟩
 ·simp only[oC,ez9,ez7,f31,f1y,f1z,f3z,f33,f3w,f12,f4u,f19,f4p,f5b,f5x,emb,Fg,f3y,f3d,f41,f13,f18,f2f,f02,if_true,if_false,f1k,Fs,Hd,Hx,Iy,ge_iff_le,f2h,exists_eq_left',f2o,f2b,f5d,f4s,f6s,f6b,f6l,f5s,forall_const,f70,f73,f2j,f2u,f6m,f6o,f2v,f5y,f66,cellsOf,cellA,f5k,f6c,f5f,f5e,lay,f1q,f3v,f0j,ne_eq,D9,Qx,Aa,Bg,f4y,f5p,R0];exact⟨_,_,b70 sz,rfl,rfl⟩
def en5{f:FuncId}(sz b:Nat)(z:LA)(d:(gC sz b z).is Tryz.prog f):C Tryz.prog f [.emp] [] (λy G=>y=.own 0 sz 0 0 0/\G=[some []]):=by
 refine b0a d.1 rfl ?_;show W _ _ (ACode.seq (ACode.reg [{ dst:=some 2,guard:=none,op:=AOp.mv (Opd.c AV.emp) }]) (ACode.seq (ACode.seq (ACode.reg [{ dst:=some 3,guard:=none,op:=AOp.mv (Opd.t 0) },{ dst:=some 4,guard:=none,op:=AOp.eqnil false (Opd.t 3) }]) (ACode.cond (Opd.t 4) (ACode.seq (ACode.reg [{ dst:=some 2,guard:=none,op:=AOp.mv (Opd.c AV.emp) }]) ACode.ret) ACode.skip)) (ACode.seq (ACode.reg [{ dst:=some 5,guard:=none,op:=AOp.bslice sz 0 z [] },{ dst:=some 6,guard:=none,op:=AOp.mv (Opd.t 0) },{ dst:=some 7,guard:=none,op:=AOp.append sz b z (Opd.t 5) (Opd.t 6) },{ dst:=some 2,guard:=none,op:=AOp.mv (Opd.t 7) }]) ACode.ret))) (a5b [ARes.tmp 2] _) [.emp,U,U,U,U,U,U,U] _
 refine b74 ?_;simp only[oC,ez9,ez7,f31,f1y,f1z,f3z,f33,f3w,f12,f4u,f19,f4p,f5b,f5x,emb,Fg,f3y,f3d,f41,f13,f18,f2f,f02,if_true,if_false,f1k,Fs,Hd,Hx,Iy,ge_iff_le,f2h,exists_eq_left',f2o,f2b,f5d,f4s,f6s,f6b,f6l,f5s,forall_const,f70,f73,f2j,f2u,f6m,f6o,f2v,f5y,f66,cellsOf,cellA,f5k,f6c,f5f,f5e,lay,f1q,f3v,f0j,ne_eq,D9,Qx,Aa,Bg,f4y,f5p,R0]
 skip
 intro q;cases q
 ·simp only[oC,ez9,ez7,f31,f1y,f1z,f3z,f33,f3w,f12,f4u,f19,f4p,f5b,f5x,emb,Fg,f3y,f3d,f41,f13,f18,f2f,f02,if_true,if_false,f1k,Fs,Hd,Hx,Iy,ge_iff_le,f2h,exists_eq_left',f2o,f2b,f5d,f4s,f6s,f6b,f6l,f5s,forall_const,f70,f73,f2j,f2u,f6m,f6o,f2v,f5y,f66,cellsOf,cellA,f5k,f6c,f5f,f5e,lay,f1q,f3v,f0j,ne_eq,D9,Qx,Aa,Bg,f4y,f5p,R0,b75,ai8,aj0,Ym,aj1,aj5,f2k,f3i,f41,f42];have a:chunks sz 0 ([]:LA)=[]:=rfl;simp only[oC,a,f3i,f3w,if_true,Ym,f5x,f42,ez9,ez7,f31,f1y,f1z,f3z,f33,f3w,f12,f4u,f19,f4p,f5b,f5x,emb,Fg,f3y,f3d,f41,f13,f18,f2f,f02,if_true,if_false,f1k,Fs,Hd,Hx,Iy,ge_iff_le,f2h,exists_eq_left',f2o,f2b,f5d,f4s,f6s,f6b,f6l,f5s,forall_const,f70,f73,f2j,f2u,f6m,f6o,f2v,f5y,f66,cellsOf,cellA,f5k,f6c,f5f,f5e,lay,f1q,f3v,f0j,ne_eq,D9,Qx,Aa,Bg,f4y,f5p,R0];exact⟨by omega,_,_,Wk.refl _ _ _,rfl,rfl⟩
 ·simp only[oC,ez9,ez7,f31,f1y,f1z,f3z,f33,f3w,f12,f4u,f19,f4p,f5b,f5x,emb,Fg,f3y,f3d,f41,f13,f18,f2f,f02,if_true,if_false,f1k,Fs,Hd,Hx,Iy,ge_iff_le,f2h,exists_eq_left',f2o,f2b,f5d,f4s,f6s,f6b,f6l,f5s,forall_const,f70,f73,f2j,f2u,f6m,f6o,f2v,f5y,f66,cellsOf,cellA,f5k,f6c,f5f,f5e,lay,f1q,f3v,f0j,ne_eq,D9,Qx,Aa,Bg,f4y,f5p,R0];exact⟨_,_,b70 sz,rfl,rfl⟩
def en3{f:FuncId}(sz b:Nat)(z:LA)(d:(gC sz b z).is Tryz.prog f):C Tryz.prog f [.fz []] [] (λy G=>y=.own 0 sz 0 0 0/\G=[some []]):=by
 refine b0a d.1 rfl ?_;show W _ _ (ACode.seq (ACode.reg [{ dst:=some 2,guard:=none,op:=AOp.mv (Opd.c AV.emp) }]) (ACode.seq (ACode.seq (ACode.reg [{ dst:=some 3,guard:=none,op:=AOp.mv (Opd.t 0) },{ dst:=some 4,guard:=none,op:=AOp.eqnil false (Opd.t 3) }]) (ACode.cond (Opd.t 4) (ACode.seq (ACode.reg [{ dst:=some 2,guard:=none,op:=AOp.mv (Opd.c AV.emp) }]) ACode.ret) ACode.skip)) (ACode.seq (ACode.reg [{ dst:=some 5,guard:=none,op:=AOp.bslice sz 0 z [] },{ dst:=some 6,guard:=none,op:=AOp.mv (Opd.t 0) },{ dst:=some 7,guard:=none,op:=AOp.append sz b z (Opd.t 5) (Opd.t 6) },{ dst:=some 2,guard:=none,op:=AOp.mv (Opd.t 7) }]) ACode.ret))) (a5b [ARes.tmp 2] _) [.fz [],U,U,U,U,U,U,U] _
 refine b74 ?_;simp only[oC,ez9,ez7,f31,f1y,f1z,f3z,f33,f3w,f12,f4u,f19,f4p,f5b,f5x,emb,Fg,f3y,f3d,f41,f13,f18,f2f,f02,if_true,if_false,f1k,Fs,Hd,Hx,Iy,ge_iff_le,f2h,exists_eq_left',f2o,f2b,f5d,f4s,f6s,f6b,f6l,f5s,forall_const,f70,f73,f2j,f2u,f6m,f6o,f2v,f5y,f66,cellsOf,cellA,f5k,f6c,f5f,f5e,lay,f1q,f3v,f0j,ne_eq,D9,Qx,Aa,Bg,f4y,f5p,R0]
 skip
 intro q;cases q
 ·simp only[oC,ez9,ez7,f31,f1y,f1z,f3z,f33,f3w,f12,f4u,f19,f4p,f5b,f5x,emb,Fg,f3y,f3d,f41,f13,f18,f2f,f02,if_true,if_false,f1k,Fs,Hd,Hx,Iy,ge_iff_le,f2h,exists_eq_left',f2o,f2b,f5d,f4s,f6s,f6b,f6l,f5s,forall_const,f70,f73,f2j,f2u,f6m,f6o,f2v,f5y,f66,cellsOf,cellA,f5k,f6c,f5f,f5e,lay,f1q,f3v,f0j,ne_eq,D9,Qx,Aa,Bg,f4y,f5p,R0,b75,ai8,aj0,Ym,aj1,aj5,f2k,f3i,f41,f42];have a:chunks sz 0 ([]:LA)=[]:=rfl;simp only[oC,a,f3i,f3w,if_true,Ym,f5x,f42,ez9,ez7,f31,f1y,f1z,f3z,f33,f3w,f12,f4u,f19,f4p,f5b,f5x,emb,Fg,f3y,f3d,f41,f13,f18,f2f,f02,if_true,if_false,f1k,Fs,Hd,Hx,Iy,ge_iff_le,f2h,exists_eq_left',f2o,f2b,f5d,f4s,f6s,f6b,f6l,f5s,forall_const,f70,f73,f2j,f2u,f6m,f6o,f2v,f5y,f66,cellsOf,cellA,f5k,f6c,f5f,f5e,lay,f1q,f3v,f0j,ne_eq,D9,Qx,Aa,Bg,f4y,f5p,R0];exact⟨by omega,_,_,Wk.refl _ _ _,rfl,rfl⟩
 ·simp only[oC,ez9,ez7,f31,f1y,f1z,f3z,f33,f3w,f12,f4u,f19,f4p,f5b,f5x,emb,Fg,f3y,f3d,f41,f13,f18,f2f,f02,if_true,if_false,f1k,Fs,Hd,Hx,Iy,ge_iff_le,f2h,exists_eq_left',f2o,f2b,f5d,f4s,f6s,f6b,f6l,f5s,forall_const,f70,f73,f2j,f2u,f6m,f6o,f2v,f5y,f66,cellsOf,cellA,f5k,f6c,f5f,f5e,lay,f1q,f3v,f0j,ne_eq,D9,Qx,Aa,Bg,f4y,f5p,R0];exact⟨_,_,b70 sz,rfl,rfl⟩
def a4o{f:FuncId}(sz b:Nat)(z:LA)(q:Bool)(g:(gC sz b z).is Tryz.prog f)(j:A9 Kd f=some (gC sz b z))(i:b<=100){a:LA}{H:AH}{y:AV}{G:AH}(h:Hn sz q f a H=some (y,G)):C Tryz.prog f a H (λp k=>p=y/\k=G):=by
 unfold Hn at h;split at h
 ·rename_i m;split at h
  ·rename_i c;cases h
   match m,c with
   |x::l,c=>exact b08 b1f (c0w _) _ _ _ _ _ (en4 sz b z j i x l c.1 c.2.1)
   |[],c=>exact en3 sz b z g
  ·cases h
 ·split at h
  ·cases h;exact en5 sz b z g
  ·cases h
 ·rename_i r s n t o;split at h
  ·rename_i c;obtain⟨rfl,rfl,rfl,rfl,d,e,h3,h4⟩:=c;cases h
   match o,d,e,h3,h4 with
   |x::l,d,e,h3,h4=>exact b08 b1f (c0w _) _ _ _ _ _ (en2 s b z j i x l d e h3)
   |[],d,e,h3,h4=>exact en1 s b z g
  ·cases h
 ·cases h
def en6{a:LA}{H:AH}{y:AV}{G:AH}(h:Hn 1 true 71 a H=some (y,G)):C Tryz.prog 71 a H (λc b=>c=y/\b=G):=a4o 1 16 [.str []] true h71 dr3 dc h
def en8{a:LA}{H:AH}{y:AV}{G:AH}(h:Hn 2 true 72 a H=some (y,G)):C Tryz.prog 72 a H (λc b=>c=y/\b=G):=a4o 2 24 [.N 0,.str []] true h72 dr2 dc h
def en7{a:LA}{H:AH}{y:AV}{G:AH}(h:Hn 2 true 256 a H=some (y,G)):C Tryz.prog 256 a H (λc b=>c=y/\b=G):=a4o 2 16 [.N 0,.N 0] true c90 dr8 dc h
def eo3{a:LA}{H:AH}{y:AV}{G:AH}(h:Hn 5 true 257 a H=some (y,G)):C Tryz.prog 257 a H (λc b=>c=y/\b=G):=a4o 5 56 [.N 0,.N 0,.N 0,.N 0,.emp] true c8z dr7 dc h
def eo0{a:LA}{H:AH}{y:AV}{G:AH}(h:Hn 5 true 258 a H=some (y,G)):C Tryz.prog 258 a H (λc b=>c=y/\b=G):=a4o 5 56 [.N 0,.N 0,.str [],.str [],.N 0] true c8y dr6 dc h
def eo2{a:LA}{H:AH}{y:AV}{G:AH}(h:Hn 1 true 303 a H=some (y,G)):C Tryz.prog 303 a H (λc b=>c=y/\b=G):=a4o 1 8 [.N 0] true c8x dr5 dc h
def a7k(sz:Nat):CallF:=λ_ a H=>match a,H with
 |[.emp,.int .i64 n],[]=>if 0<=n/\n<=1000000 then some (.own 0 sz 0 0 0,[some []])else none
 |_,_=>none
def Xf:CallF:=λf a H=>
 if f=369 then a7k 2 f a H else
  none
def bn2{p:PV}{a:List LP}(h:Kg (emb p)=some a):(p=.emp/\a=[])\/p=.fz a:=by
 cases p<;>simp[emb,Kg]at h<;>simp[h]
def c2q:∀ e:LP,(e.map emb).mapM Dr=some e
 |[]=>rfl
 |p::e=>by rw[f5b,f4r,am5,c2q e];rfl
def d67(l:List LP):Cx (l.map λe=>e.map emb)=some l:=by
 have h:=Ka (λe:LP=>e.map emb) (λe=>e) c2q l
 rwa [List.map_id']at h
def cb5(L:List (PV×List LP))(i:Nat)(hi:i<L.length):(L.take (i+1)).flatMap (·.2)=(L.take i).flatMap (·.2)++(L.getD i df).2:=by
 rw[Et hi,f1f];simp
def eo9(L:List (PV×List LP))(C:∀ p∈L,Kg (emb p.1)=some p.2)(I:L.length<=1000000)(D:((L.flatMap (·.2)).all λe=>decide (e.length=2))=true)(F:(L.flatMap (·.2)).length<=1000000):Ev Kd Xf lkN 346 [.own 0 1 0 L.length L.length] [some (L.map λp=>[emb p.1])]=some (.fz (L.flatMap (·.2)),[some (L.map λp=>[emb p.1])]):=by
 refine Bz dr4 rfl ?_;have l:∀ i,i<=L.length->((L.take i).flatMap (·.2)).length<=1000000:=by
  intro i hi;have q:L.flatMap (·.2)=(L.take i).flatMap (·.2)++(L.drop i).flatMap (·.2):=by rw[<-f1f,f0l]
  rw[q,f1q]at F;omega
 have d:refsO (some (L.map λp=>[emb p.1]))=[]:=J2 L (λp=>[emb p.1]) λp=>Qv _ (by simp[Aa,az3]);have c:∀ τ,renO τ (L.map λp=>[emb p.1])=L.map λp=>[emb p.1]:=λτ=>Pz τ L _ λp=>by simp[Aa,az3]
 have s:∀ r B,(L.map λp=>[emb p.1]).map (C5 r B)=L.map λp=>[emb p.1]:=λr B=>T4 _ _ _ λe E=>by obtain⟨p,_,rfl⟩:=f62.1 E;simp[Aa,az3]
 simp(disch:=try exact dq)only[tx,av6];generalize G:Aj _ _ _=r;have H:∀ i,i<=L.length->(((L.take i).flatMap (·.2)).all λe=>decide (e.length=2))=true:=by
  intro i hi;have q:L.flatMap (·.2)=(L.take i).flatMap (·.2)++(L.drop i).flatMap (·.2):=by rw[<-f1f,f0l]
  rw[q,f4k,f32]at D;exact D.1
 refine B6 G L.length (λi=>[.own 0 1 0 L.length L.length,U,.N ((L.take i).flatMap (·.2)).length,U,U,U,.own 0 1 0 L.length L.length,.N L.length,.N i,U,U,U,U,U,U]) (λ_=>[some (L.map λp=>[emb p.1])]) (λ_=>True) ?_ rfl trivial ?_ ?_
 ·rfl
 ·intro i hi _;have g:((i:Int)<(L.length:Int)):=om;have h:L.getD i df∈L:=by
   rw[ex9,ez2 hi];exact f3e _
  have n:=C _ h;have k:(L.map λp=>[emb p.1])[i]?=some [emb (L.getD i df).1]:=Fc om _;have j:=l (i+1) om;rw[cb5 L i hi]at j ⊢;generalize L.getD i df=A at *;have⟨x,a⟩:=A;simp only[]at n j k ⊢;generalize (L.take i).flatMap (·.2)=o at *;rw[f1q]at j ⊢;have w:¬ ((o.length:Int)+(a.length:Int)<0):=om;have y:=bn2 n;rcases y with ⟨rfl,rfl⟩|rfl
  ·have b:(L.map λp=>[emb p.1])[i]?=some [.emp]:=k;have m:¬ ((o.length:Int)<0):=om;simp(disch:=try exact dq)only[tx,g,b,d,c,m,f3z,f52,f6k,f3w,f5y]
   try rfl
  ·have b:(L.map λp=>[emb p.1])[i]?=some [.fz a]:=k;simp(disch:=try exact dq)only[tx,g,b,d,c,w,f3z,f52]
   try rfl
 ·intro _;rw[f3m];have u:Ev Kd Xf lkN 369 [.emp,.N (L.flatMap (·.2)).length] []=some (.own 0 2 0 0 0,[some []]):=by
   refine Yq (kk) ?_;rw[show Xf 369 [.emp,.N (L.flatMap (·.2)).length] []=a7k 2 369 [.emp,.N (L.flatMap (·.2)).length] []from by first|exact iP rfl|exact(iN dc).trans (iP rfl)];unfold a7k;simp only[];rw[iP om]
  have v:=b06 Kd Xf lkN (f:=369) rfl;simp(disch:=try exact dq)only[tx,f5q,d,c,v,Am,u];generalize z:Aj _ _ _=J;refine B6 z L.length (λi=>[U,U,U,U,.own 1 2 0 ((L.take i).flatMap (·.2)).length ((L.take i).flatMap (·.2)).length,U,U,U,U,U,U,.own 0 1 0 L.length L.length,.N L.length,.N i,U]) (λi=>[some (L.map λp=>[emb p.1]),some (((L.take i).flatMap (·.2)).map λe=>e.map emb)]) (λ_=>True) ?_ ?_ trivial ?_ ?_
  ·rfl
  ·rfl
  ·intro i hi _;have g:((i:Int)<(L.length:Int)):=om;have h:L.getD i df∈L:=by
    rw[ex9,ez2 hi];exact f3e _
   have n:=C _ h;have k:(L.map λp=>[emb p.1])[i]?=some [emb (L.getD i df).1]:=Fc om _;have j:=l (i+1) om;have h3:=H (i+1) om;rw[cb5 L i hi]at j h3 ⊢;generalize L.getD i df=A at *;have⟨x,a⟩:=A;simp only[]at n j h3 k ⊢;generalize (L.take i).flatMap (·.2)=o at *;rw[f4k,f32]at h3;have h4:=cw5 a h3.2;rw[f1q]at j;have y:=bn2 n;rcases y with ⟨rfl,rfl⟩|rfl
   ·have b:(L.map λp=>[emb p.1])[i]?=some [.emp]:=k;simp(disch:=try exact dq)only[tx,g,b,d,c,a6k,ap7,f3z,f52,f42]
    try rfl
   ·have b:(L.map λp=>[emb p.1])[i]?=some [.fz a]:=k;have t:(o.map λe=>e.map emb)++(a.map λe=>e.map emb)=(o++a).map λe=>e.map emb:=(by rw[f4c]);simp(disch:=try exact dq)only[tx,g,b,d,c,h4,t,a6k,ap7,f3z,f1q,f52]
    try rfl
  ·intro _;rw[f3m];simp(disch:=try exact dq)only[tx,f5q,d,c,s,d67,a6k,ap7,f3z];rw[f3m]

def c7r:∀ {o:AObj} {l:LI},Zt o=some l->o=l.map λn=>[.N n]
 |[],l,h=>by cases h;rfl
 |e::es,l,h=>by
   match e,h with
   |[.int .i64 n],h=>
     rw[Zt]at h;obtain⟨b,a,rfl⟩:=f09.1 h;rw[f5b,<-c7r a]
def c0g:∀ {l m:LI},l.Pairwise (·<=·)->m.Pairwise (·<=·)->l.Perm m->l=m
 |[],m,_,_,h=>(List.nil_perm.1 h).symm
 |a::l,[],_,_,h=>by have:=h.length_eq;simp at this
 |a::l,b::m,h1,h2,h=>by
   have f:a∈b::m:=h.subset (f1u ..);have g:b∈a::l:=h.symm.subset (f1u ..);have e:b<=a:=by
    rcases f5h.1 f with rfl|c
    ·exact f6u _
    ·exact(f2a.1 h2).1 a c
   have d:a<=b:=by
    rcases f5h.1 g with rfl|c
    ·exact f6u _
    ·exact(f2a.1 h1).1 b c
   obtain rfl:a=b:=Int.le_antisymm d e;rw[c0g (f2a.1 h1).2 (f2a.1 h2).2 (List.perm_cons a |>.1 h)]
def b4b(n:Int):∀ l:LI,(Ko n l).Perm (n::l)
 |[]=>f55 _
 |x::l=>by
   rw[Ko];split
   ·exact f55 _
   ·exact((b4b n l).cons x).trans (List.Perm.swap n x l)
def c7w(n:Int):∀ {l:LI},l.Pairwise (·<=·)->(Ko n l).Pairwise (·<=·)
 |[],_=>by simp[Ko]
 |x::l,h=>by
   rw[Ko];have⟨b,d⟩:=f2a.1 h;split
   ·rename_i c;exact f2a.2 ⟨λy a=>by
     rcases f5h.1 a with rfl|a
     ·exact c
     ·exact f68 c (b y a),h⟩
   ·rename_i c;exact f2a.2 ⟨λy a=>by
     rcases f5h.1 ((b4b n l).subset a)with rfl|a
     ·omega
     ·exact b y a,c7w n d⟩
def b1t:∀ l:LI,(Dg l).Perm l
 |[]=>f55 _
 |x::l=>(b4b x (Dg l)).trans ((b1t l).cons x)
def bl9:∀ l:LI,(Dg l).Pairwise (·<=·)
 |[]=>List.Pairwise.nil
 |x::l=>c7w x (bl9 l)
def dn1(l:LI):(l.mergeSort λx y=>decide (x<=y))=Dg l:=by
 refine c0g ?_ (bl9 l) ((List.mergeSort_perm l _).trans (b1t l).symm)
 have:=List.pairwise_mergeSort (le:=λx y:Int=>decide (x<=y)) (λa b c d e=>by simp at *;omega) (λa b=>by simp;omega) l;exact this.imp λh=>by simpa using h
def c2w{w:World}{b:Nat}{cells:Array Value}{t:TypeId}{q:Nat×Nat}(f:Array Value->Array Value)(h:w.heap[b]?=some (.cells cells t q)):Sort.mapBlock w b f=Gh w b (.cells (f cells) t q):=by
 unfold Sort.mapBlock Gh
 congr 1
 apply f1j;intro k;rw[Array.getElem?_modify,ex3];by_cases a:b=k
 ·subst a;rw[iP rfl,iP rfl,h,iP (T9 h)];rfl
 ·rw[iN a,iN a]
theorem by2(d:Array Int)(cells:Array Value)(i:Nat):(Sort.putCells (Value.int .i64) 0 d cells)[i]?=cells[i]?.map λx=>if 0<=i/\i<0+d.size then Value.int .i64 d[i-0]! else x:=by
 unfold Sort.putCells;rw[Array.getElem?_mapIdx]
theorem d7p{m:List AV}{H:AH}{y:AV}{G:AH}(h:a60 304 m H=some (y,G)):C Tryz.prog 304 m H (λy' G'=>y'=y/\G'=G):=by
 have K:ak4 Tryz.prog 304:=⟨Tryz.f304,Tryz.func304,kk,kk⟩;have ht:∀ E,Rep E (.tuple []) (.tuple #[]):=λE=>.tuple [] #[] rfl λi c v S=>by cases i<;>cases S
 unfold a60 at h;split at h
 ·cases h;refine⟨K,λE w vs D hr=>?_⟩;obtain⟨v,rfl,W⟩:=hr.one;obtain⟨a,rfl⟩:=Jc W;refine(Tryz.slices_Sort_int_none a 0 w).mono ?_;rintro e w' ⟨rfl,rfl⟩;exact⟨_,E,_,_,rfl,⟨rfl,rfl⟩,LeN.refl _ _,D,ht E⟩
 ·rename_i r n t o;split at h
  ·rename_i S;obtain⟨rfl,rfl,rfl,L⟩:=S;obtain⟨l,hl,hy⟩:=f09.1 h;cases hy;have ho:=c7r hl;subst ho;rw[f3z]at L;refine⟨K,λE w vs D hr=>?_⟩;obtain⟨v,rfl,W⟩:=hr.one;have B:∀ x,E.ρ 0=some x->x.t=(l.map λn=>[AV.int .i64 n]).length:=by
    intro x f;rcases D.obj 0 _ rfl with I|⟨x',g,X⟩
    ·rw[I.2]at f;cases f
    ·rw[g]at f;cases f;exact X.t
   rcases Kh W B with ⟨a,_,J,_,rfl⟩|⟨x,cap,f,d,_,a4,_,a5,rfl⟩
   ·have Y:l=[]:=(by cases l with|nil=>rfl|cons _ _=>simp at J);subst Y;refine(Tryz.slices_Sort_int_none a 0 w).mono ?_;rintro e w' ⟨rfl,rfl⟩;exact⟨_,E,_,_,rfl,⟨rfl,rfl⟩,LeN.refl _ _,D,ht E⟩
   ·obtain⟨x',g,M⟩:∃ x',E.ρ 0=some x'/\Lies E w (l.map λn=>[AV.int .i64 n]) x':=by
     rcases D.obj 0 _ rfl with I|I
     ·rw[I.2]at f;cases f
     ·exact I
    rw[f]at g;cases g;obtain⟨cells,t,q,V,hn,hq,O,P⟩:=M.blk;have s:=M.fits;rw[d,f3z,f6p]at s;have p:∀ j,j<l.length->cells[j]?=some (.int .i64 (l.getD j 0)):=by
     intro j U;have N:j<cells.size:=om;have h2:=P j [.int .i64 (l.getD j 0)] 0 (.int .i64 (l.getD j 0)) cells[j] (by rw[f2i,ex9,ez2 U];rfl) rfl (by rw[d,f6p,f5y];exact ey4 N);rw[ey4 N,Fm h2]
    have hH:Sort.Holds (Value.int .i64) w x.b 0 l.toArray:=by
     intro j U;rw[List.size_toArray]at U;constructor
     ·show World.cell? w ⟨x.b,0+j,none⟩=_;simp only[World.cell?,V,f66];rw[if_neg (by simp),p j U]
      congr 2
      rw[List.getElem!_toArray];simp[ex9,ew8]
     ·show World.frozen? w ⟨x.b,0+j,none⟩=false;obtain⟨q1,q2⟩:=q;simp only[World.frozen?,V,f66];rcases hq with J|J
      ·cases J;simp
      ·simp only[f0m,f02];left;simp only at J;omega
    rw[f3z];have a3:=Tryz.slices_Sort_int x.b 0 cap l w hH (T9 V) om;rw[f5z];refine a3.mono ?_;rintro e w' ⟨rfl,n,os,rfl⟩;rw[dn1];have a0:Sim E (Sort.ahead w n) [some (l.map λn=>[AV.int .i64 n])]:=D.drawn _;have a1:(Sort.ahead w n).heap[x.b]?=some (.cells cells t q):=V;have R:(Dg l).length=l.length:=(b1t l).length_eq;have a2:=a0.write (r:=0) (o':=(Dg l).map λn=>[AV.int .i64 n]) rfl f (Sort.putCells (Value.int .i64) 0 (Dg l).toArray cells) t q (by simp[Sort.putCells,hn]) hq (by simp[R]) (by intro e T;obtain⟨z,_,rfl⟩:=f62.1 T;exact d.symm) (by simp[R,d];omega) ?_ ?_
    ·obtain⟨Z,Q⟩:=a2;have e2:Sort.putRow (Value.int .i64) (Sort.ahead w n) x.b 0 (Dg l).toArray=Gh (Sort.ahead w n) x.b (.cells (Sort.putCells (Value.int .i64) 0 (Dg l).toArray cells) t q):=c2w _ a1;refine⟨_,_,_,_,rfl,⟨rfl,rfl⟩,Z.toN _,?_,ht _⟩;rw[e2];refine Q.below ⟨rfl,rfl,rfl,?_,λk A=>?_⟩
     ·show _<=((Gh _ _ _).heap++os).size;rw[f2l];omega
     ·show((Gh _ _ _).heap++os)[k]?=_;exact ex7 A
    ·intro i v F;rw[by2]at F;obtain⟨u,hu,rfl⟩:=f09.1 F;split
     ·rfl
     ·exact O i u hu
    ·intro i e k c v T A F;rw[d]at F;rw[f2i]at T;obtain⟨z,hz,rfl⟩:=f09.1 T;have hi:i<(Dg l).length:=by
      apply ey8;intro S;rw[f0e om]at hz;cases hz
     match k,A with
     |0,A=>
       cases A;rw[f6p,f5y,by2]at F;obtain⟨u,hu,rfl⟩:=f09.1 F;rw[if_pos (by rw[List.size_toArray];omega)];have e1:(Dg l).toArray[i-0]! =z:=by
        rw[f60,List.getElem!_toArray,ew8,hz];rfl
       rw[e1];exact .pure (x:=.int _ _) (.int _ _)
     |k+1,A=>cases A
  ·cases h
 ·cases h
end Go.Proofs.YtddlanlnaenaoaaGreatDoor.Abs
section
namespace Go.Proofs
open Go.Shelf
def Tryz.sortU_ren:Go.Shelf.Ren:=⟨fun|6=>69|15=>111|14=>110|28=>177|29=>178|20=>169|21=>170|22=>171|23=>172|24=>173|25=>174|26=>175|27=>176|46=>231|47=>232|48=>233|49=>234|50=>235|57=>287|n=>n,fun|22=>88|24=>84|25=>143|3=>3|39=>183|0=>0|53=>33|55=>250|4=>4|46=>242|45=>241|50=>246|5=>5|9=>9|66=>306|70=>310|76=>352|77=>353|n=>n,fun|n=>n⟩
theorem Tryz.sortU:Go.Proofs.SlLaysF0.n6 Tryz.prog Tryz.sortU_ren:={
 mixed:=by kernel_rfl
 f6:=⟨Tryz.f69.name,by decide,Tryz.func69.trans (congrArg some (by kernel_rfl))⟩
 f14:=⟨Tryz.f110.name,by decide,Tryz.func110.trans (congrArg some (by kernel_rfl))⟩
 f15:=Tryz.func111.trans (congrArg some (by kernel_rfl))
 f20:=⟨Tryz.f169.name,by decide,Tryz.func169.trans (congrArg some (by kernel_rfl))⟩
 f21:=⟨Tryz.f170.name,by decide,Tryz.func170.trans (congrArg some (by kernel_rfl))⟩
 f22:=⟨Tryz.f171.name,by decide,Tryz.func171.trans (congrArg some (by kernel_rfl))⟩
 f23:=⟨Tryz.f172.name,by decide,Tryz.func172.trans (congrArg some (by kernel_rfl))⟩
 f24:=⟨Tryz.f173.name,by decide,Tryz.func173.trans (congrArg some (by kernel_rfl))⟩
 f25:=⟨Tryz.f174.name,by decide,Tryz.func174.trans (congrArg some (by kernel_rfl))⟩
 f26:=⟨Tryz.f175.name,by decide,Tryz.func175.trans (congrArg some (by kernel_rfl))⟩
 f27:=⟨Tryz.f176.name,by decide,Tryz.func176.trans (congrArg some (by kernel_rfl))⟩
 f28:=Tryz.func177.trans (congrArg some (by kernel_rfl))
 f29:=Tryz.func178.trans (congrArg some (by kernel_rfl))
 f46:=⟨Tryz.f231.name,by decide,Tryz.func231.trans (congrArg some (by kernel_rfl))⟩
 f47:=Tryz.func232.trans (congrArg some (by kernel_rfl))
 f48:=Tryz.func233.trans (congrArg some (by kernel_rfl))
 f49:=⟨Tryz.f234.name,by decide,Tryz.func234.trans (congrArg some (by kernel_rfl))⟩
 f50:=⟨Tryz.f235.name,by decide,Tryz.func235.trans (congrArg some (by kernel_rfl))⟩
 f57:=⟨Tryz.f287.name,by decide,Tryz.func287.trans (congrArg some (by kernel_rfl))⟩
 t0:=Tryz.underlying0
 a0:=Tryz.isAgg0
 z0:=Tryz.sizeOf0
 v0:=Tryz.zeroValue0
 t3:=Tryz.underlying3
 a3:=Tryz.isAgg3
 z3:=Tryz.sizeOf3
 v3:=Tryz.zeroValue3
 t4:=Tryz.underlying4
 a4:=Tryz.isAgg4
 z4:=Tryz.sizeOf4
 v4:=Tryz.zeroValue4
 t5:=Tryz.underlying5
 a5:=Tryz.isAgg5
 z5:=Tryz.sizeOf5
 v5:=Tryz.zeroValue5
 t9:=Tryz.underlying9
 a9:=Tryz.isAgg9
 z9:=Tryz.sizeOf9
 v9:=Tryz.zeroValue9
 t22:=Tryz.underlying88
 a22:=Tryz.isAgg88
 z22:=Tryz.sizeOf88
 v22:=Tryz.zeroValue88
 t25:=Tryz.underlying143
 a25:=Tryz.isAgg143
 z25:=Tryz.sizeOf143
 v25:=Tryz.zeroValue143
 t39:=Tryz.underlying183
 a39:=Tryz.isAgg183
 z39:=Tryz.sizeOf183
 v39:=Tryz.zeroValue183
 t45:=Tryz.underlying241
 a45:=Tryz.isAgg241
 z45:=Tryz.sizeOf241
 v45:=Tryz.zeroValue241
 t46:=Tryz.underlying242
 a46:=Tryz.isAgg242
 z46:=Tryz.sizeOf242
 v46:=Tryz.zeroValue242
 t50:=Tryz.underlying246
 a50:=Tryz.isAgg246
 z50:=Tryz.sizeOf246
 v50:=Tryz.zeroValue246
 t53:=Tryz.underlying33
 a53:=Tryz.isAgg33
 z53:=Tryz.sizeOf33
 v53:=Tryz.zeroValue33
 t55:=Tryz.underlying250
 a55:=Tryz.isAgg250
 z55:=Tryz.sizeOf250
 v55:=Tryz.zeroValue250
 t66:=Tryz.underlying306
 a66:=Tryz.isAgg306
 z66:=Tryz.sizeOf306
 v66:=Tryz.zeroValue306
 t70:=Tryz.underlying310
 a70:=Tryz.isAgg310
 z70:=Tryz.sizeOf310
 v70:=Tryz.zeroValue310
 t76:=Tryz.underlying352
 a76:=Tryz.isAgg352
 z76:=Tryz.sizeOf352
 v76:=Tryz.zeroValue352
 t77:=Tryz.underlying353
 a77:=Tryz.isAgg353
 z77:=Tryz.sizeOf353
 v77:=Tryz.zeroValue353 }
end Go.Proofs
end
namespace Go.Proofs.YtddlanlnaenaoaaGreatDoor.Abs
section
open Go Go.Proofs Go.Sort
def al6:AV->Value
 |.int k n=>.int k n
 |_=>.int .i64 0
abbrev Td:={e:LA // V5 e=true}
instance:Inhabited Td:=⟨⟨[.N 0,.N 0,.N 0,.N 0,.N 0,.M 0,.M 0,.M 0,.M 0],by decide⟩⟩
def M3(x:Td):List Value:=x.1.map al6
def Ow(x y:Td):Int:=Gj y.1-Gj x.1
def a6c{e:LA}(h:V5 e=true):∃ a b c d f g i j k:Int,e=[.N a,.N b,.N c,.N d,.N f,.M g,.M i,.M j,.M k]/\0<=a/\a<=1099511627776:=by
 unfold V5 at h;split at h
 ·simp only[f32,f2f]at h;exact⟨_,_,_,_,_,_,_,_,_,rfl,h.1,h.2⟩
 ·cases h
def cg2(x:Td):(M3 x).length=9:=by
 have⟨e,h⟩:=x;obtain⟨a,b,c,d,f,g,i,j,k,rfl,_⟩:=a6c h;rfl
theorem cg1(x:Td):∀ v∈M3 x,v.oneCell'=true:=by
 intro v hv;obtain⟨y,_,rfl⟩:=f62.1 hv;cases y<;>rfl
def ltU(x y:Td):ltOf Ow x y=decide (Gj y.1<Gj x.1):=by
 unfold ltOf Ow;exact f3k.2 om
def d72:SWO (ltOf Ow)where
 irrefl x:=by rw[ltU];simp
 trans x y z h1 h2:=by rw[ltU]at *;simp at *;omega
 ntrans x y z h1 h2:=by rw[ltU]at *;simp at *;omega
theorem en0(x y:Td)(W:World):Calls Tryz.prog 70 #[.agg (M3 x).toArray,.agg (M3 y).toArray] W λe w'=>e=.returned (.int .i64 (Ow x y))/\∃ q os',w'=grow (W.drewN q) os':=by
 obtain⟨e,h⟩:=x;obtain⟨e',h'⟩:=y;obtain⟨a,b,c,d,f,g,i,j,k,rfl,h1,h2⟩:=a6c h;obtain⟨a',b',c',d',f',g',i',j',k',rfl,h1',h2'⟩:=a6c h';have hw:IntKind.i64.wrap (a'-a)=a'-a:=f52 _ om;simp only[M3,Ow,Gj,f5b,f5x,al6]
 go_enter Tryz.func70,Tryz.ntmps70
 go_wp2
 go_ret
 exact⟨rfl,0,_,by rw[alloc_eq_grow,alloc_eq_grow,grow_grow];rfl⟩
def em9(b off a:Nat)(w:World):CmpLays Tryz.prog 70 #[] M3 9 Ow b off a w:=
 λ_ _ _ _ x y=>en0 x y _
def bq1{e:LA}(h:V5 e=true):∀ c∈e,∃ k n,c=.int k n:=by
 obtain⟨a,b,c,d,f,g,i,j,k,rfl,_⟩:=a6c h;intro x l;simp only[f5h,f3c,f6z]at l;rcases l with rfl|rfl|rfl|rfl|rfl|rfl|rfl|rfl|rfl<;>exact⟨_,_,rfl⟩
def bq0{e:LA}(h:V5 e=true):e.length=9:=by
 obtain⟨a,b,c,d,f,g,i,j,k,rfl,_⟩:=a6c h;rfl
def b4a(n:LA):∀ l:AObj,(Ua n l).Perm (n::l)
 |[]=>f55 _
 |x::l=>by
   rw[Ua];split
   ·exact f55 _
   ·exact((b4a n l).cons x).trans (List.Perm.swap n x l)
def c7s(n:LA):∀ {l:AObj},l.Pairwise (λa b=>Gj b<=Gj a)->(Ua n l).Pairwise (λa b=>Gj b<=Gj a)
 |[],_=>by simp[Ua]
 |x::l,h=>by
   rw[Ua];have⟨e,f⟩:=f2a.1 h;split
   ·rename_i c;exact f2a.2 ⟨λy d=>by
     rcases f5h.1 d with rfl|d
     ·exact c
     ·exact f68 (e y d) c,h⟩
   ·rename_i c;exact f2a.2 ⟨λy d=>by
     rcases f5h.1 ((b4a n l).subset d)with rfl|d
     ·omega
     ·exact e y d,c7s n f⟩
def an7:∀ l:AObj,(sortU l).Perm l
 |[]=>f55 _
 |x::l=>(b4a x (sortU l)).trans ((an7 l).cons x)
def bl6:∀ l:AObj,(sortU l).Pairwise (λa b=>Gj b<=Gj a)
 |[]=>List.Pairwise.nil
 |x::l=>c7s x (bl6 l)
def ci5:∀ {l:AObj},a4j l=true->l.Pairwise (λa b=>Gj a≠Gj b)
 |[],_=>List.Pairwise.nil
 |x::l,h=>by
   rw[a4j,f32,f35]at h;exact f2a.2 ⟨λy c e=>by have:=h.1 y c;simp at this;exact this e.symm,ci5 h.2⟩
def c0f:∀ {l m:AObj},l.Pairwise (λa b=>Gj b<=Gj a)->m.Pairwise (λa b=>Gj b<=Gj a)->l.Pairwise (λa b=>Gj a≠Gj b)->l.Perm m->l=m
 |[],m,_,_,_,h=>(List.nil_perm.1 h).symm
 |a::l,[],_,_,_,h=>by have:=h.length_eq;simp at this
 |a::l,b::m,h1,h2,hd,h=>by
   have f:a∈b::m:=h.subset (f1u ..);have g:b∈a::l:=h.symm.subset (f1u ..);have e:Gj a<=Gj b:=by
    rcases f5h.1 f with rfl|c
    ·exact f6u _
    ·exact(f2a.1 h2).1 a c
   have d:a=b:=by
    rcases f5h.1 g with rfl|c
    ·rfl
    ·have h3:=(f2a.1 h1).1 b c;exact absurd (Int.le_antisymm e h3) ((f2a.1 hd).1 b c)
   subst d;rw[c0f (f2a.1 h1).2 (f2a.1 h2).2 (f2a.1 hd).2 (List.perm_cons a |>.1 h)]
def by3(d:Array Value)(cells:Array Value)(i:Nat):(Sort.putCells (id:Value->Value) 0 d cells)[i]?=cells[i]?.map λx=>if 0<=i/\i<0+d.size then d[i-0]! else x:=by
 unfold Sort.putCells;rw[Array.getElem?_mapIdx];rfl
def cg3(x:Td){k:Nat}{c:AV}(h:x.1[k]?=some c):(M3 x)[k]! =al6 c:=by
 rw[ew8];show((x.1.map al6)[k]?).getD _=_;rw[f2i,h];rfl
def d7o{l:LA}{H:AH}{y:AV}{G:AH}(h:an8 69 l H=some (y,G)):C Tryz.prog 69 l H (λy' G'=>y'=y/\G'=G):=by
 have W:ak4 Tryz.prog 69:=⟨Tryz.f69,Tryz.func69,kk,kk⟩;have ht:∀ E,Rep E (.tuple []) (.tuple #[]):=λE=>.tuple [] #[] rfl λi c v L=>by cases i<;>cases L
 unfold an8 at h;split at h
 ·cases h;refine⟨W,λE w vs N hr=>?_⟩;obtain⟨v,u,rfl,h1,h2⟩:=hr.two;obtain⟨a,rfl⟩:=Jc h1;refine(AnyF.slices_SortFunc_none Tryz.sortU a 0 u w).mono ?_;rintro e w' ⟨rfl,rfl⟩;exact⟨_,E,_,_,rfl,⟨rfl,rfl⟩,LeN.refl _ _,N,ht E⟩
 ·rename_i r n t g o;split at h
  ·rename_i L;obtain⟨rfl,rfl,rfl,Y,am,p,U⟩:=L;cases h;rw[f35]at p;refine⟨W,λE w vs N hr=>?_⟩;obtain⟨v,u,rfl,h1,h2⟩:=hr.two;obtain⟨ai,aj,rfl,l1,l2,_,_⟩:=b2c h2;obtain rfl:ai= #[]:=ew9 l1.symm;obtain rfl:aj= #[]:=ew9 l2.symm;subst Y;have K:∀ x,E.ρ 0=some x->x.t=o.length:=by
    intro x D;rcases N.obj 0 _ rfl with P|⟨x',F,a9⟩
    ·rw[P.2]at D;cases D
    ·rw[F]at D;cases D;exact a9.t
   rcases Kh h1 K with ⟨a,_,Q,_,rfl⟩|⟨x,cap,D,s,_,ak,_,al,rfl⟩
   ·have aa:o=[]:=(by cases o with|nil=>rfl|cons _ _=>simp at Q);subst aa;refine(AnyF.slices_SortFunc_none Tryz.sortU a 0 _ w).mono ?_;rintro e w' ⟨rfl,rfl⟩;exact⟨_,E,_,_,rfl,⟨rfl,rfl⟩,LeN.refl _ _,N,ht E⟩
   ·obtain⟨x',F,Z⟩:∃ x',E.ρ 0=some x'/\Lies E w o x':=by
     rcases N.obj 0 _ rfl with P|P
     ·rw[P.2]at D;cases D
     ·exact P
    rw[D]at F;cases F;have⟨cells,t,q,hw,hn,hq,a0,ac⟩:=Z.blk;have m:=Z.fits;rw[s]at m;obtain⟨d,hd⟩:∃ d:Array Td,d=(o.pmap (λe h=>(⟨e,h⟩:Td)) p).toArray:=⟨_,rfl⟩;have J:d.size=o.length:=(by rw[hd];simp);have V:d.toList.map (·.1)=o:=by
     rw[hd];simp[List.map_pmap]
    have a5:∀ i,i<o.length->o[i]?=some (d[i]!).1:=by
     intro i hi;have:(d.toList.map (·.1))[i]?=o[i]?:=(by rw[V]);rw[<-this,f2i,f0i,ey4 om,getElem!_pos d i om];rfl
    have hH:HoldsK M3 9 w x.b 0 d:=by
     intro j M;rw[size_flatK]at M;have a8:j/9<o.length:=om;constructor
     ·show World.cell? w ⟨x.b,0+j,none⟩=some (flatK M3 9 d)[j]!;rw[get_flatK _ _ _ _ M];simp only[World.cell?,hw,f66];rw[iN sm];have B:j<cells.size:=om;have hm:j%9<(d[j/9]!).1.length:=(by rw[bq0 (d[j/9]!).2];omega);have L:=ez2 hm;have h3:=ac (j/9) _ (j%9) _ cells[j] (a5 _ a8) L (by rw[s,show j/9*9+j%9=j by omega];exact ey4 B);rw[cg3 _ L];have⟨kk,nn,e⟩:=bq1 (d[j/9]!).2 _ (f3e hm);rw[e]at h3 ⊢;rw[ey4 B,Fm h3];rfl
     ·show World.frozen? w ⟨x.b,0+j,none⟩=false;have⟨q1,q2⟩:=q;simp only[World.frozen?,hw,f66];rcases hq with Q|Q
      ·cases Q;simp
      ·simp only[f0m,f02];left;simp only at Q;omega
    have eg:∀ l w,(callFunc 70 l).run Tryz.prog w=.ok (.enter 70 l) w:=enters_of Tryz.func70 (kk) rfl;have a4:=AnyQ.slices_SortFunc Tryz.sortU 9 Tryz.isAgg84 Tryz.sizeOf84 M3 cg2 cg1 Ow d72 70 #[] x.b 0 cap d w eg (em9 x.b 0 d.size w) hH (T9 hw) om;rw[J]at a4;rw[f5z];refine a4.mono ?_;rintro e w' ⟨rfl,f,n,os,hp,ae,rfl⟩;have S:f.size=o.length:=(by rw[hp.1,J]);have a1:(f.toList.map (·.1)).Perm o:=by
     have h3:=hp.2.2;have e1:(f.extract 0 o.length).toList=f.toList:=(by rw[<-S];simp);have e2:(d.extract 0 o.length).toList=d.toList:=(by rw[<-J];simp);rw[e1,e2]at h3
     have:=h3.map (λx:Td=>x.1)
     rwa [V]at this
    have af:(f.toList.map (·.1)).Pairwise (λa b=>Gj b<=Gj a):=by
     rw[f2q,ez0];intro i j hi M a7;have h3:=ae i j (f6m _) a7 (by rw[Array.length_toList]at M;omega);rw[ltU]at h3;rw[Array.length_toList]at hi M;rw[getElem!_pos f i hi,getElem!_pos f j M]at h3;simp at h3;simpa using h3
    have hE:f.toList.map (·.1)=sortU o:=c0f af (bl6 o) ((ci5 U).perm a1.symm (λh=>Ne.symm h)) (a1.trans (an7 o).symm);have R:∀ i e,(sortU o)[i]?=some e->i<o.length/\(f[i]!).1=e:=by
     intro i e A;rw[<-hE,f2i]at A;obtain⟨z,hz,rfl⟩:=f09.1 A;rw[f0i]at hz;obtain⟨hi,rfl⟩:=ey0.1 hz;exact⟨by omega,by rw[getElem!_pos f i hi]⟩
    have ad:Sim E (Sort.ahead w n) [some o]:=N.drawn _;have ag:(Sort.ahead w n).heap[x.b]?=some (.cells cells t q):=hw;have a3:(sortU o).length=o.length:=(an7 o).length_eq;have I:∀ e∈sortU o,e.length=9:=λe A=>bq0 (p e ((an7 o).subset A));have ah:=ad.write (r:=0) (o':=sortU o) rfl D (Sort.putCells id 0 (flatK M3 9 f) cells) t q (by simp[Sort.putCells,hn]) hq (by rw[a3];exact f6o _) (by intro e A;rw[s];exact I e A) (by rw[a3,s];exact m) ?_ ?_
    ·have⟨ab,a2⟩:=ah;have e2:putRowK M3 9 (Sort.ahead w n) x.b 0 f=Gh (Sort.ahead w n) x.b (.cells (Sort.putCells id 0 (flatK M3 9 f) cells) t q):=c2w _ ag;refine⟨_,_,_,_,rfl,⟨rfl,rfl⟩,ab.toN _,?_,ht _⟩;unfold sortWorldK;rw[e2];refine a2.below ⟨rfl,rfl,rfl,?_,λk X=>?_⟩
     ·show _<=((Gh _ _ _).heap++os).size;rw[f2l];omega
     ·show((Gh _ _ _).heap++os)[k]?=_;exact ex7 X
    ·intro i v O;rw[by3]at O;obtain⟨u,hu,rfl⟩:=f09.1 O;split
     ·rename_i hi;have a6:i<f.size*9:=(by have:=hi.2;rw[size_flatK]at this;omega);rw[f60,get_flatK _ _ _ _ a6];have hm:i%9<(M3 (f[i/9]!)).length:=(by rw[cg2];omega);rw[getElem!_pos (M3 (f[i/9]!)) (i%9) hm];exact cg1 _ _ (f3e hm)
     ·exact a0 i u hu
    ·intro i e k c v A X O;rw[s]at O;have⟨hi,T⟩:=R i e A;have an:k<9:=by
      have h3:=List.getElem?_eq_some_iff.1 X;have h4:=I e (f0q A);obtain⟨h5,_⟩:=h3;omega
     rw[by3]at O;obtain⟨u,hu,rfl⟩:=f09.1 O;have B:i*9+k<f.size*9:=om;rw[iP (by rw[size_flatK];omega),f60,get_flatK _ _ _ _ B,show(i*9+k)/9=i by omega,show(i*9+k)%9=k by omega];rw[cg3 _ (by rw[T];exact X)];obtain⟨kk,nn,rfl⟩:=bq1 (f[i]!).2 c (by rw[T];exact f0q X);exact .pure (x:=.int _ _) (.int _ _)
  ·cases h
 ·cases h
end
def bn1{x:AV}{a:List LP}(h:Kg x=some a):∃ p:PV,x=emb p:=by
 cases x<;>simp[Kg]at h
 ·exact⟨.emp,rfl⟩
 ·exact⟨.fz _,rfl⟩
def em8(l:Il Tryz.prog Xf){c:LA}{H:AH}{y:AV}{G:AH}(h:ai2 2 346 c H=some (y,G)):C Tryz.prog 346 c H (λm j=>m=y/\j=G):=by
 unfold ai2 at h;split at h
 ·rename_i x z;have⟨a,f,h⟩:=f01.1 h;have⟨b,g,h⟩:=f01.1 h;split at h
  ·rename_i i;cases h;obtain⟨p,rfl⟩:=bn1 f;obtain⟨q,rfl⟩:=bn1 g;have e:=eo9 [(p,a),(q,b)] (by intro r d;rcases f5h.1 d with rfl|d;exact f;rw[f1t.1 d];exact g) (by show 2<=1000000;omega) (by simpa using i.1) (by simpa using i.2);have k:([(p,a),(q,b)]:List (PV×List LP)).flatMap (·.2)=a++b:=(by simp);rw[k]at e;exact b08 b1f l _ _ _ _ _ e
  ·cases h
 ·cases h
def de9(c:Il Tryz.prog Xf)(d:∀ a H y G,a1u 64 a H=some (y,G)->C Tryz.prog 64 a H (λg b=>g=y/\b=G)):Il Tryz.prog A6:=by
 intro f a H x i h;unfold A6 at h;by_cases e:f=280
 ·rw[iP e]at h;subst e;exact e4k h
 rw[iN e]at h;by_cases e:f=229
 ·rw[iP e]at h;subst e;exact d92 h
 rw[iN e]at h;by_cases e:f=353
 ·rw[iP e]at h;subst e;exact e4y h
 rw[iN e]at h;by_cases e:f=356
 ·rw[iP e]at h;subst e;exact e4m h
 rw[iN e]at h;by_cases e:f=71
 ·rw[iP e]at h;subst e;exact en6 h
 rw[iN e]at h;by_cases e:f=72
 ·rw[iP e]at h;subst e;exact en8 h
 rw[iN e]at h;by_cases e:f=256
 ·rw[iP e]at h;subst e;exact en7 h
 rw[iN e]at h;by_cases e:f=257
 ·rw[iP e]at h;subst e;exact eo3 h
 rw[iN e]at h;by_cases e:f=258
 ·rw[iP e]at h;subst e;exact eo0 h
 rw[iN e]at h;by_cases e:f=303
 ·rw[iP e]at h;subst e;exact eo2 h
 rw[iN e]at h;by_cases e:f=346
 ·rw[iP e]at h;subst e;exact em8 c h
 rw[iN e]at h;by_cases e:f=304
 ·rw[iP e]at h;subst e;exact d7p h
 rw[iN e]at h;by_cases e:f=69
 ·rw[iP e]at h;subst e;exact d7o h
 rw[iN e]at h;by_cases e:f=64
 ·rw[iP e]at h;subst e;exact d _ _ _ _ h
 rw[iN e]at h;cases h
end Go.Proofs.YtddlanlnaenaoaaGreatDoor.Abs
section
namespace Go.Proofs
open Go.Shelf
def Tryz.growR_ren:Go.Shelf.Ren:=⟨fun|4=>369|n=>n,fun|22=>40|25=>167|3=>3|4=>4|9=>9|20=>20|0=>0|2=>3|n=>n,fun|n=>n⟩
theorem Tryz.growR:Go.Proofs.Lays8.n4 Tryz.prog Tryz.growR_ren:={
 mixed:=by kernel_rfl
 f4:=⟨Tryz.f369.name,by decide,Tryz.func369.trans (congrArg some (by kernel_rfl))⟩
 t0:=Tryz.underlying0
 a0:=Tryz.isAgg0
 z0:=Tryz.sizeOf0
 v0:=Tryz.zeroValue0
 t3:=Tryz.underlying3
 a3:=Tryz.isAgg3
 z3:=Tryz.sizeOf3
 v3:=Tryz.zeroValue3
 t4:=Tryz.underlying4
 a4:=Tryz.isAgg4
 z4:=Tryz.sizeOf4
 v4:=Tryz.zeroValue4
 t9:=Tryz.underlying9
 a9:=Tryz.isAgg9
 z9:=Tryz.sizeOf9
 v9:=Tryz.zeroValue9
 t20:=Tryz.underlying20
 a20:=Tryz.isAgg20
 z20:=Tryz.sizeOf20
 v20:=Tryz.zeroValue20
 t22:=Tryz.underlying40
 a22:=Tryz.isAgg40
 z22:=Tryz.sizeOf40
 v22:=Tryz.zeroValue40 }
end Go.Proofs
end
namespace Go.Proofs.YtddlanlnaenaoaaGreatDoor.Abs
theorem e4u:(Tryz.prog.info? (Tryz.growR_ren.t 25)).map (λi=>(i.zero.map (λz=>z.cells),i.size,i.bytes))=some (some #[.int .i64 0,.int .i64 0],2,16):=kk
def ef5{b:LA}{H:AH}{y:AV}{G:AH}(h:a7k 2 369 b H=some (y,G)):C Tryz.prog 369 b H (λT J=>T=y/\J=G):=by
 unfold a7k at h;split at h
 ·rename_i n;split at h
  ·rename_i U;cases h;obtain⟨k,rfl⟩:∃ k:Nat,n=(k:Int):=⟨n.toNat,by omega⟩;have⟨R,q,l⟩:=f09.1 e4u;simp only[f5j]at l;have⟨Q,P,p⟩:=l;have⟨z,B,o⟩:=f09.1 Q;refine⟨⟨Tryz.f369,Tryz.func369,kk,kk⟩,λE w V I O=>?_⟩;obtain⟨v,u,rfl,K,L⟩:=O.two;obtain⟨a,rfl⟩:=Jc K;rw[Fm L];by_cases S:k=0
   ·subst S;refine(Any8.slices_Grow_room Tryz.growR a 0 0 0 w (f6o _) om om (f6o _)).mono ?_;rintro e w' ⟨rfl,rfl⟩;exact⟨_,E,_,_,rfl,⟨rfl,rfl⟩,LeN.refl _ _,I.newEmpty,.own0 _ _ _⟩
   ·refine(Any8.slices_Grow_grow Tryz.growR R z q B om a 0 0 k [] w (f6o _) om (by rw[p];omega) om sm (λ_=>rfl) (λ_ _ j v A=>by simp at A)).mono ?_;rintro e w' ⟨rfl,rfl⟩;generalize grownCap w (0+k) 0 (Tryz.growR_ren.t 25)=cap;have s:Sim E w.drew []:=I.drawn (w.drawn+1);have F:RepL E [.N 0,.N 0] z.cells:=by
     rw[o];refine⟨rfl,λi x u d f=>?_⟩
     match i,d,f with
     |0,d,f=>cases d;cases f;exact .pure (x:=.int _ _) (.int _ _)
     |1,d,f=>cases d;cases f;exact .pure (x:=.int _ _) (.int _ _)
     |i+2,d,f=>simp at d
    have g:([.N 0,.N 0]:LA).all cellA=true:=rfl;have⟨r,m⟩:=s.new [] 2 ([].toArray++Builtin.zeroCells z.cells (0+k-0)++Builtin.zeroCells z.cells (cap-(0+k))) (Tryz.growR_ren.t 25) (0,0) dc (.inl rfl) (λe M=>by cases M) sm (U0 (U0 (λi v A=>by simp at A) (V0 F g _)) (V0 F g _)) (λi e k c v hi=>by simp at hi);refine⟨_,_,_,_,rfl,⟨rfl,rfl⟩,r.toN _,m,?_⟩;exact Rep.own 0 2 0 0 0 cap _ (Env.with_same _ _ _) rfl rfl (f6o _) (f6m _) (f6m _) (by
     have D:z.cells.size=2:=(by rw[o];rfl);simp only[f2l,f4t,D];simp;omega)
  ·cases h
 ·cases h
def df0:Il Tryz.prog Xf:=by
 intro f a H x b h;unfold Xf at h;by_cases e:f=369
 ·rw[iP e]at h;subst e;exact ef5 h
 rw[iN e]at h;cases h
def Kv(o:Option (LR×Bytes)):AV:=match o with
 |some (l,r)=>.tuple [A4 A8 (B8 l),.str r,.bool true]
 |none=>.tuple [.emp,.str [],.bool false]
def Po(s:Bytes)(j:Nat):LI:=((List.range j).filter (Ta s)).map λi:Nat=>14+(i:Int)
def ct9(s:Bytes)(j:Nat):Po s (j+1)=if Ta s j=true then Po s j++[14+(j:Int)]else Po s j:=by
 unfold Po;rw[f4g,List.filter_append,f4c];by_cases h:Ta s j=true
 ·rw[iP h,List.filter_cons_of_pos h];rfl
 ·rw[iN h,List.filter_cons_of_neg h];simp
def cu0(s:Bytes)(j:Nat):(Po s j).length<=j:=by
 unfold Po;rw[f3z];exact f61 (List.length_filter_le _ _) sm
def cu1(s:Bytes):∀ (m k:Nat),(∀ i,i<m->Ta s i=true->i<k)->k<=m->Po s m=Po s k
 |0,k,_,h=>by have:k=0:=om
              rw[this]
 |m+1,k,hb,h=>by
   rcases f5u k (m+1)with h1|h1
   ·rw[ct9,iN (λa=>by have:=hb m om a;omega),cu1 s m k (λi hi=>hb i om) om]
   ·rw[show k=m+1 by omega]
def d5s:∀ (a:_root_.Fin 256) (k:_root_.Fin 8),IntKind.u8.wrap ((BitVec.ofInt IntKind.u8.bits (((a.val:Nat):Int).fdiv (2 ^ (min k.val IntKind.u8.bits))) &&& BitVec.ofInt IntKind.u8.bits 1).toNat:Int)=if a.val.testBit k.val=true then 1 else 0:=by decide +kernel
def ep7(s:Bytes)(j:Nat):IntKind.u8.wrap ((BitVec.ofInt IntKind.u8.bits (((s.getD (j/8) 0).toNat:Int).fdiv (2 ^ (min (j%8) IntKind.u8.bits))) &&& BitVec.ofInt IntKind.u8.bits 1).toNat:Int)=if Ta s j=true then 1 else 0:=
 d5s ⟨(s.getD (j/8) 0).toNat,(s.getD (j/8) 0).toNat_lt⟩ ⟨j%8,f6w _ om⟩
def Ms(n:Int)(F:n<=100000)(s:Bytes)(G:s.length<=1000000)(H:AH):K tab A6 A5 184 [.N n,.str s] H=some (Kv (E9 n s),H):=by
 refine Ae e2w rfl rfl (by unfold Kv;split<;>simp[Ab,Aa,Ai]) ?_ H;have l:=λH=>bm2 (orc:=A6) (lk:=A5) n H;by_cases c:Ek n=true
 ·have D:40<=n/\n<=240:=by unfold Ek at c;simpa using c
  have m:=λH=>bm1 (orc:=A6) (lk:=A5) n om om H;rw[c]at l;by_cases t:(s.length:Int)<(n+7)/8
  ·have e:E9 n s=none:=by
    unfold E9;rw[iN];rintro⟨_,h,_⟩;omega
   rw[e];simp(disch:=try exact dq)only[tx,seval,a0i,l,m,t];rfl
  ·simp(disch:=try exact dq)only[tx,seval,a0i,l,m,t,f52];generalize y:Aj _ _ _=r;refine B6 y (8*((n.toNat+7)/8))
    (λj=>[.N n,.str s,U,U,U,.own 0 1 0 (Po s j).length (Po s j).length,U,.N (8*((n+7)/8)),.N j,U])
    (λj=>[some ((Po s j).map cI)]) (λj=>∀ i,i<j->Ta s i=true->i<n.toNat) ?_ ?_ ?_ ?_ ?_
   ·rfl
   ·rfl
   ·exact λi h=>absurd h (f4f i)
   ·intro j v hI;have b:((j:Int)<8*((n+7)/8)):=om;have E:((j/8:Nat):Int)<s.length:=om;have w:=cu0 s j;rw[ct9];generalize Po s j=o at *;have z:(j:Int).tdiv 8=((j/8:Nat):Int):=(f56 j 8).symm;have A:(j:Int).tmod 8=((j%8:Nat):Int):=(f58 j 8).symm;have B:((j/8:Nat):Int).toNat=j/8:=f2v _;have C:((j%8:Nat):Int).toNat=j%8:=f2v _;have p:=ep7 s j;simp(disch:=try exact dq)only[tx,seval,b,f52,Aq,z,A,B,C,p];cases d:Ta s j with
    |false=>
      simp only[f1k,if_false,f6l,not_true,f5s,f70];refine⟨rfl,trivial,λi hi a=>?_⟩;rcases f5u i j with h|h
      ·exact hI i h a
      ·have:i=j:=om;subst this;rw[d]at a;cases a
    |true=>
      simp only[if_true,Int.one_ne_zero,f5s,f73,f2u,f6l];refine⟨λq=>?_,λq=>⟨?_,?_,λi hi a=>?_⟩⟩
      ·have e:E9 n s=none:=by
        unfold E9;rw[iN];rintro⟨_,_,h⟩
        have:=h j v d;omega
       rw[e];rfl
      ·rw[f1q];rfl
      ·rw[f4c];rfl
      ·rcases f5u i j with h|h
       ·exact hI i h a
       ·omega
   ·intro hI;have e:E9 n s=some (N8 (Po s (8*((n.toNat+7)/8))),s.drop ((n.toNat+7)/8)):=by
     unfold E9;rw[iP ⟨by unfold Ic;unfold Ek at c;exact c,by omega,hI⟩,cu1 s _ _ hI om];rfl
    rw[e];have w:=cu0 s (8*((n.toNat+7)/8));generalize Po s (8*((n.toNat+7)/8))=o at *;have u:((n+7)/8).toNat=(n.toNat+7)/8:=om;have b:¬ ((8*((n.toNat+7)/8):Nat):Int)<8*((n+7)/8):=om;by_cases x:o=[]
    ·subst x;have k:=dk5;have g:=Dz (f:=250) rfl;simp(disch:=try exact dq)only[tx,seval,b,KQ 250 rfl,Am,g,Bl,Bo,k,m,u,Aq,Ax,f3t,f37,Jr,f41,f42,f3z];rw[f3m];rfl
    ·have k:=b39 o om;have g:=Dz (f:=250) rfl;simp(disch:=try exact dq)only[tx,seval,b,KQ 250 rfl,Am,g,Bl,Bo,k,m,u,Aq,Ax,f3t,f37,Jr,f41,f42,f3z];rw[f3m];rfl
 ·have e:E9 n s=none:=by
   unfold E9;rw[iN];rintro⟨h,_⟩;exact c (by unfold Ic at h;unfold Ek;exact h)
  rw[f3p]at c;rw[c]at l;rw[e];simp(disch:=try exact dq)only[tx,seval,a0i,l];rfl
def Ho(so:Nat->Bool)(j i:Nat):Nat:=((List.range 8).map λk=>if 8*i+k<j/\so (8*i+k)=true then 2 ^ k else 0).sum
def ep8(so:Nat->Bool)(i:Nat):Ho so 0 i=0:=by
 unfold Ho;simp only[f4f,f6y,if_false];rfl
def cq6(so:Nat->Bool)(j i:Nat):Ho so (j+1) i=Ho so j i+(if i=j/8/\so j=true then 2 ^ (j%8)else 0):=by
 unfold Ho;simp only[show List.range 8=[0,1,2,3,4,5,6,7]from rfl,f5b,f5x,f5l,f6f];by_cases h:i=j/8
 ·have g:j=8*i+j%8:=om;have l:j%8<8:=f6w _ om;generalize j%8=r at *;subst g;have e:i=(8*i+r)/8:=om;simp only[<-e,f73];have b:∀ k,(8*i+k<8*i+r+1)=(k<r+1):=λk=>propext om;have d:∀ k,(8*i+k<8*i+r)=(k<r):=λk=>propext om;simp only[b,d]
  match r,l with
  |0,_=>simp
  |1,_=>simp
  |2,_=>simp;omega
  |3,_=>simp;omega
  |4,_=>simp;omega
  |5,_=>simp;omega
  |6,_=>simp;omega
  |7,_=>simp;omega
 ·have f:(if i=j/8/\so j=true then 2 ^ (j%8)else 0)=0:=iN (λc=>h c.1);rw[f];have a:∀ k,k<8->(8*i+k<j+1↔8*i+k<j):=by intro k a;omega
  simp only[propext (a 0 om),propext (a 1 om),propext (a 2 om),propext (a 3 om),propext (a 4 om),propext (a 5 om),propext (a 6 om),propext (a 7 om),f5y,show(8*i<j+1)=(8*i<j)from propext om]
def ep9(so:Nat->Bool)(j:Nat):Ho so j (j/8)<2 ^ (j%8):=by
 unfold Ho;have b:j=8*(j/8)+j%8:=om;have c:j%8<8:=f6w _ om;generalize j%8=r at *;generalize j/8=i at *;subst b;have a:∀ k,(8*i+k<8*i+r)=(k<r):=λk=>propext om;simp only[show List.range 8=[0,1,2,3,4,5,6,7]from rfl,f5b,f5x,f5l,f6f,a];have q:∀ (p:Prop) [Decidable p] (n:Nat),(if p then n else 0)<=n:=by intro p _ n;split<;>omega
 match r,c with
 |0,_=>simp
 |1,_=>simp;have:=q (so (8*i)=true) 1;omega
 |2,_=>simp;have:=q (so (8*i)=true) 1;have:=q (so (8*i+1)=true) 2;omega
 |3,_=>simp;have:=q (so (8*i)=true) 1;have:=q (so (8*i+1)=true) 2;have:=q (so (8*i+2)=true) 4;omega
 |4,_=>simp;have:=q (so (8*i)=true) 1;have:=q (so (8*i+1)=true) 2;have:=q (so (8*i+2)=true) 4;have:=q (so (8*i+3)=true) 8;omega
 |5,_=>simp;have:=q (so (8*i)=true) 1;have:=q (so (8*i+1)=true) 2;have:=q (so (8*i+2)=true) 4;have:=q (so (8*i+3)=true) 8;have:=q (so (8*i+4)=true) 16;omega
 |6,_=>simp;have:=q (so (8*i)=true) 1;have:=q (so (8*i+1)=true) 2;have:=q (so (8*i+2)=true) 4;have:=q (so (8*i+3)=true) 8;have:=q (so (8*i+4)=true) 16;have:=q (so (8*i+5)=true) 32;omega
 |7,_=>simp;have:=q (so (8*i)=true) 1;have:=q (so (8*i+1)=true) 2;have:=q (so (8*i+2)=true) 4;have:=q (so (8*i+3)=true) 8;have:=q (so (8*i+4)=true) 16;have:=q (so (8*i+5)=true) 32;have:=q (so (8*i+6)=true) 64;omega
def cq7(so:Nat->Bool)(j i:Nat):Ho so j i<256:=by
 unfold Ho;simp only[show List.range 8=[0,1,2,3,4,5,6,7]from rfl,f5b,f5x,f5l,f6f];have q:∀ (p:Prop) [Decidable p] (n:Nat),(if p then n else 0)<=n:=by intro p _ n;split<;>omega
 have a:=q (8*i+0<j/\so (8*i+0)=true) (2 ^ 0);have b:=q (8*i+1<j/\so (8*i+1)=true) (2 ^ 1);have c:=q (8*i+2<j/\so (8*i+2)=true) (2 ^ 2);have h3:=q (8*i+3<j/\so (8*i+3)=true) (2 ^ 3);have h4:=q (8*i+4<j/\so (8*i+4)=true) (2 ^ 4);have h5:=q (8*i+5<j/\so (8*i+5)=true) (2 ^ 5);have h6:=q (8*i+6<j/\so (8*i+6)=true) (2 ^ 6);have h7:=q (8*i+7<j/\so (8*i+7)=true) (2 ^ 7);omega
def Gq(so:Nat->Bool)(m j:Nat):Bytes:=(List.range m).map λi=>UInt8.ofNat (Ho so j i)
def az1(so:Nat->Bool)(m j:Nat):(Gq so m j).length=m:=by simp[Gq]
def cr2(so:Nat->Bool)(m:Nat):Gq so m 0=zs m:=by
 unfold Gq zs;simp only[ep8];rw[List.map_const',f2z];rfl
def cr5(so:Nat->Bool)(m j i:Nat)(h:i<m):(Gq so m j).getD i df=UInt8.ofNat (Ho so j i):=by
 unfold Gq;simp[ex9,h]
def cr4(so:Nat->Bool)(m j:Nat)(h:so j=false):Gq so m (j+1)=Gq so m j:=by
 unfold Gq;refine f16 λi _=>?_;rw[cq6,iN (λc=>by rw[h]at c;exact absurd c.2 sm),f5y]
def cr3(so:Nat->Bool)(m j:Nat)(h:so j=true):Gq so m (j+1)=(Gq so m j).set (j/8) (UInt8.ofNat (Ho so j (j/8)+2 ^ (j%8))):=by
 unfold Gq;refine List.ext_getElem sm λi a b=>?_;simp only[List.getElem_map,f1v,List.getElem_set];rw[cq6];by_cases e:i=j/8
 ·rw[iP ⟨e,h⟩,iP e.symm,e]
 ·rw[iN (λc=>e c.1),iN (λc=>e c.symm),f5y]
def cr6(so:Nat->Bool)(n:Nat):Gq so ((n+7)/8) n=Yj n so:=rfl
def cB(b:UInt8):LA:=[.int .u8 b.toNat]
def Sg(l:Bytes):refsO (some (l.map cB))=[]:=J2 l _ λ_=>rfl
def a4s(l:Bytes):J6 (l.map cB)=some l:=ay9 l
def Z9(m:Nat):List.replicate m z8=(zs m).map cB:=by unfold zs;rw[f1x];rfl
def d5q:∀ (a:_root_.Fin 256) (k:_root_.Fin 8),IntKind.u8.wrap ((BitVec.ofInt IntKind.u8.bits ((a.val:Nat):Int) ||| BitVec.ofInt IntKind.u8.bits (IntKind.u8.wrap (1*2 ^ (min k.val IntKind.u8.bits)))).toNat:Int)=(((a.val ||| 2 ^ k.val:Nat)):Int):=by decide +kernel
def c0x{a k:Nat}(h:a<2 ^ k):a ||| 2 ^ k=a+2 ^ k:=by
 have:=Nat.two_pow_add_eq_or_of_lt h 1;rw[f6p]at this;rw[Nat.or_comm,<-this,f65]
def cq5(so:Nat->Bool)(j:Nat):IntKind.u8.wrap ((BitVec.ofInt IntKind.u8.bits ((UInt8.ofNat (Ho so j (j/8))).toNat:Int) ||| BitVec.ofInt IntKind.u8.bits (IntKind.u8.wrap (1*2 ^ (min (j%8) IntKind.u8.bits)))).toNat:Int)=(((UInt8.ofNat (Ho so j (j/8)+2 ^ (j%8))).toNat:Nat):Int):=by
 have a:=ep9 so j;have b:Ho so j (j/8)<256:=cq7 so j _;have h3:Ho so (j+1) (j/8)<256:=cq7 so (j+1) _;have c:(UInt8.ofNat (Ho so j (j/8))).toNat=Ho so j (j/8):=by simp;omega
 have h4:=d5q ⟨Ho so j (j/8),b⟩ ⟨j%8,f6w _ om⟩;simp only[]at h4;rw[c,h4,c0x a];have h5:Ho so j (j/8)+2 ^ (j%8)<256:=by
  have:=c0x a;rw[<-this];exact Nat.or_lt_two_pow (n:=8) b (Nat.pow_lt_pow_right om (f6w _ om))
 have d:(UInt8.ofNat (Ho so j (j/8)+2 ^ (j%8))).toNat=Ho so j (j/8)+2 ^ (j%8):=by simp;omega
 rw[d]
def an9(n:Int)(J:-100000<=n)(P:n<=100000)(l:Sl Rn)(M:(els l).length<=9000)(H:AH):K tab A6 A5 252 [.N n,A4 A8 l] H=some (.str (Mz n (els l)),H):=by
 refine Ae e1r rfl (by simp[Aa,Ab,Ai]) rfl ?_ H;have f:=λH=>bm2 (orc:=A6) (lk:=A5) n H;have c:=λH=>a1f l om H;have h3:=λH=>Mr l (some [⟨14,14+n⟩]) (show(els l).length+1<=10000 by omega) H;have D:A4 A8 (some [(⟨14,14+n⟩:Rn)])=.fz [[.N 14,.N (14+n)]]:=rfl;have w:Br (els l) (els (some [(⟨14,14+n⟩:Rn)]))=Br (els l) (Dq n):=rfl;rw[D,w]at h3;unfold Mz Es;by_cases d:Ek n=true
 ·have k:40<=n/\n<=240:=by unfold Ek at d;simpa using d
  have h4:=λH=>bm1 (orc:=A6) (lk:=A5) n om om H;have c1':Ic n=true:=d;rw[d]at f;by_cases g:Gu (els l)=true
  ·rw[g]at c;by_cases s:Br (els l) (Dq n)=[]
   ·have c3':B8 (Br (els l) (Dq n))=none:=(by rw[s];rfl);rw[c3',Er]at h3;simp(disch:=try exact dq)only[tx,seval,Xz,f,c,h3,h4,f52,Z9];have e:(if Ic n=true/\(Gu (els l)&&decide (Br (els l) (Dq n)=[]))=true then Yj n.toNat λi=>hasR (els l) (14+↑i)else [])=Gq (λi=>hasR (els l) (14+↑i)) ((n+7)/8).toNat n.toNat:=by
     rw[iP ⟨c1',by simp[g,s]⟩,<-cr6,show((n+7)/8).toNat=(n.toNat+7)/8 by omega]
    rw[e];generalize z:(λi:Nat=>hasR (els l) (14+(i:Int)))=so;have o:∀ (j:Nat) (H:AH),K tab A6 A5 309 [A4 A8 l,.N (14+(j:Int))] H=some (.bool (so j),H):=λj H=>by
     rw[b1r l om,<-z]
    have O:(n+7)/8=(((n+7)/8).toNat:Int):=om;have B:n.toNat<=8*((n+7)/8).toNat:=om;generalize ((n+7)/8).toNat=m at *;generalize C:Aj _ _ _=r;refine B6 C n.toNat
     (λj=>[U,A4 A8 l,U,U,.own 1 1 0 m m,U,U,.N n,.N j,U,U,U])
     (λj=>[none,some ((Gq so m j).map cB)]) (λ_=>True) ?_ ?_ trivial ?_ ?_
    ·rfl
    ·rw[cr2]
    ·intro j L _;have p:((j:Int)<n):=om;have E:(j:Int).tdiv 8=((j/8:Nat):Int):=(f56 j 8).symm;have F:(j:Int).tmod 8=((j%8:Nat):Int):=(f58 j 8).symm;have G:((j/8:Nat):Int).toNat=j/8:=f2v _;have I:((j%8:Nat):Int).toNat=j%8:=f2v _;have a:=az1 so m j;have x:j/8<m:=om;have t:=o j;cases k:so j with
     |false=>
       rw[k]at t;rw[cr4 so m j k];generalize Gq so m j=b at *;simp(disch:=try exact dq)only[tx,seval,p,t,f52,Sg];rfl
     |true=>
       rw[k]at t;have y:=cq5 so j;have A:((Gq so m j).map cB)[j/8]?=some [.int .u8 (UInt8.ofNat (Ho so j (j/8))).toNat]:=by
        rw[Fc om cB,cr5 so m j _ x];rfl
       rw[cr3 so m j k];generalize Gq so m j=b at *;simp(disch:=try exact dq)only[tx,seval,p,t,f52,Sg,E,F,G,I,A,a,y,f3z];exact⟨rfl,by rw[f6i];rfl⟩
    ·intro _;have a:=az1 so m n.toNat;have u:=a4s (Gq so m n.toNat);generalize Gq so m n.toNat=b at *;have v:List.take m (List.map cB b)=List.map cB b:=(by rw[<-a];exact Gf b cB);simp(disch:=try exact dq)only[tx,seval,u,v,a,Sg,f3z,show ¬ ((n.toNat:Int)<n) by omega]
   ·have e:(if Ic n=true/\(Gu (els l)&&decide (Br (els l) (Dq n)=[]))=true then Yj n.toNat λi=>hasR (els l) (14+↑i)else [])=[]:=iN (λh=>by have c:=h.2;simp only[f32,f2f]at c;exact s c.2);rw[e];have q:0<((els (B8 (Br (els l) (Dq n)))).length:Int):=by
     rw[Dp]
     have:=f1d.2 s;omega
    simp(disch:=try exact dq)only[tx,seval,Xz,f,c,h3,h4,f52,q]
  ·rw[f3p]at g;rw[g]at c;simp(disch:=try exact dq)only[tx,seval,Xz,f,c,h3,h4,f52];simp[g]
 ·have c1':¬ Ic n=true:=d;rw[f3p]at d;rw[d]at f;simp(disch:=try exact dq)only[tx,seval,Xz,f,f52];simp[c1']
def S3(so:Bool->Bool->Bool)(l m:LR):(M8 so l m).length<=2*(l.length+m.length):=by
 rw[ar9];have h:=a6v so l m (Ga l m) ((Ga l m).length-1);have b:(Ga l m).length<=2*(l.length+m.length):=by
  rw[<-ah9];have a:=Uu (Dg (G9 (l++m))) _ (f6o _);rw[f3m,Pw,ah6,f1q]at a;omega
 omega
def V3(s:Space):LA:=[A4 A8 s.held,A4 A8 s.one,A4 A8 s.two,A4 A8 s.kept]
def bl1(s:Space)(n:Int)(a:-100000<=n)(b:n<=100000)(H:AH):K tab A6 A5 316 [.agg [A4 A8 s.held,A4 A8 s.one,A4 A8 s.two,A4 A8 s.kept,.N n]] H=some (A4 A8 (some (Dq n)),H):=by
 refine Ae e0j rfl (by simp[Aa,Ab,Ai]) (Ai _ _) ?_ H;simp(disch:=try exact dq)only[tx,seval,a9b,f52];rfl
def bl3(s:Space)(H:AH):K tab A6 A5 317 [.agg [A4 A8 s.held,A4 A8 s.one,A4 A8 s.two,A4 A8 s.kept]] H=some (.agg [A4 A8 s.held,A4 A8 s.one,A4 A8 s.two,A4 A8 s.kept],H):=by
 refine Ae e0i rfl (by simp[Aa,Ab,Ai]) (by simp[Aa,Ab,Ai]) ?_ H;simp(disch:=try exact dq)only[tx,a9a]
structure SpOk(s:Space):Prop where
 held:(els s.held).length<=500
 one:(els s.one).length<=500
 two:(els s.two).length<=500
 kept:(els s.kept).length<=500
def bl2(s:Space)(p:SpOk s)(n:Int)(F:-100000<=n)(v:n<=100000)(H:AH):K tab A6 A5 307 [.agg [A4 A8 s.held,A4 A8 s.one,A4 A8 s.two,A4 A8 s.kept,.N n]] H=some (.bool (Ct n s.n),H):=by
 refine Ae e0t rfl (by simp[Aa,Ab,Ai]) rfl ?_ H;have o:=bl1 s n F v;have x:=bl3 s;have M:=p.held;have O:=p.one;have l3:=p.two;by_cases c:Ic n=true
 ·have y:40<=n/\n<=240:=by unfold Ic at c;simpa using c
  have z:¬ n<40:=om;have A:¬ 240<n:=om;simp(disch:=try exact dq)only[tx,seval,a3c,x,z,A];generalize J:Aj _ _ _=r;refine B6 J 4
   (λj=>[U,.ptr 0 0 0 1,U,U,.agg [A4 A8 s.held,A4 A8 s.one,A4 A8 s.two,A4 A8 s.kept],.N j,U])
   (λ_=>[some [[A4 A8 s.held,A4 A8 s.one,A4 A8 s.two,A4 A8 s.kept,.N n]]])
   (λj=>(0<j->Es n (els s.held)=true)/\(1<j->Es n (els s.one)=true)/\(2<j->Es n (els s.two)=true)/\(3<j->Es n (els s.kept)=true)) ?_ ?_ ?_ ?_ ?_
  ·rfl
  ·rfl
  ·exact⟨λh=>absurd h om,λh=>absurd h om,λh=>absurd h om,λh=>absurd h om⟩
  ·intro j L hI;obtain rfl|rfl|rfl|rfl:j=0\/j=1\/j=2\/j=3:=om
   ·have g:=a1f s.held (by have:=p.held;omega);have i:=Mr s.held (some (Dq n)) (show(els s.held).length+1<=10000 by have:=p.held;omega);rw[Az,B5]at i;have d:Es n (els s.held)=(Gu (els s.held)&&decide (Br (els s.held) (Dq n)=[])):=rfl;by_cases k:Gu (els s.held)=true
    ·rw[k]at g;by_cases l:Br (els s.held) (Dq n)=[]
     ·rw[l]at i;rw[show B8 []=none from rfl]at i;simp(disch:=try exact dq)only[tx,seval,g,i,o,Er];refine⟨rfl,?_⟩;rw[k,l]at d;have m:Es n (els s.held)=true:=(by rw[d];rfl);exact⟨λ_=>m,λh=>absurd h (by decide),λh=>absurd h (by decide),λh=>absurd h (by decide)⟩
     ·have e:0<((els (B8 (Br (els s.held) (Dq n)))).length:Int):=by
       rw[Dp]
       have:=f1d.2 l;omega
      simp(disch:=try exact dq)only[tx,seval,g,i,o,e];have f:Es n (els s.held)=false:=(by rw[d];simp[l]);rw[show Ct n s.n=false by simp only[Ct,Space.n,f,f4x,f4w]]
    ·rw[f3p]at k;rw[k]at g;simp(disch:=try exact dq)only[tx,seval,g,o];have f:Es n (els s.held)=false:=(by rw[d,k];rfl);rw[show Ct n s.n=false by simp only[Ct,Space.n,f,f4x,f4w]]
   ·have g:=a1f s.one (by have:=p.one;omega);have i:=Mr s.one (some (Dq n)) (show(els s.one).length+1<=10000 by have:=p.one;omega);rw[Az,B5]at i;have d:Es n (els s.one)=(Gu (els s.one)&&decide (Br (els s.one) (Dq n)=[])):=rfl;by_cases k:Gu (els s.one)=true
    ·rw[k]at g;by_cases l:Br (els s.one) (Dq n)=[]
     ·rw[l]at i;rw[show B8 []=none from rfl]at i;simp(disch:=try exact dq)only[tx,seval,g,i,o,Er];refine⟨rfl,?_⟩;rw[k,l]at d;have m:Es n (els s.one)=true:=(by rw[d];rfl);exact⟨λ_=>hI.1 om,λ_=>m,λh=>absurd h (by decide),λh=>absurd h (by decide)⟩
     ·have e:0<((els (B8 (Br (els s.one) (Dq n)))).length:Int):=by
       rw[Dp]
       have:=f1d.2 l;omega
      simp(disch:=try exact dq)only[tx,seval,g,i,o,e];have f:Es n (els s.one)=false:=(by rw[d];simp[l]);rw[show Ct n s.n=false by simp only[Ct,Space.n,f,f4x,f4w]]
    ·rw[f3p]at k;rw[k]at g;simp(disch:=try exact dq)only[tx,seval,g,o];have f:Es n (els s.one)=false:=(by rw[d,k];rfl);rw[show Ct n s.n=false by simp only[Ct,Space.n,f,f4x,f4w]]
   ·have g:=a1f s.two (by have:=p.two;omega);have i:=Mr s.two (some (Dq n)) (show(els s.two).length+1<=10000 by have:=p.two;omega);rw[Az,B5]at i;have d:Es n (els s.two)=(Gu (els s.two)&&decide (Br (els s.two) (Dq n)=[])):=rfl;by_cases k:Gu (els s.two)=true
    ·rw[k]at g;by_cases l:Br (els s.two) (Dq n)=[]
     ·rw[l]at i;rw[show B8 []=none from rfl]at i;simp(disch:=try exact dq)only[tx,seval,g,i,o,Er];refine⟨rfl,?_⟩;rw[k,l]at d;have m:Es n (els s.two)=true:=(by rw[d];rfl);exact⟨λ_=>hI.1 om,λ_=>hI.2.1 om,λ_=>m,λh=>absurd h (by decide)⟩
     ·have e:0<((els (B8 (Br (els s.two) (Dq n)))).length:Int):=by
       rw[Dp]
       have:=f1d.2 l;omega
      simp(disch:=try exact dq)only[tx,seval,g,i,o,e];have f:Es n (els s.two)=false:=(by rw[d];simp[l]);rw[show Ct n s.n=false by simp only[Ct,Space.n,f,f4x,f4w]]
    ·rw[f3p]at k;rw[k]at g;simp(disch:=try exact dq)only[tx,seval,g,o];have f:Es n (els s.two)=false:=(by rw[d,k];rfl);rw[show Ct n s.n=false by simp only[Ct,Space.n,f,f4x,f4w]]
   ·have g:=a1f s.kept (by have:=p.kept;omega);have i:=Mr s.kept (some (Dq n)) (show(els s.kept).length+1<=10000 by have:=p.kept;omega);rw[Az,B5]at i;have d:Es n (els s.kept)=(Gu (els s.kept)&&decide (Br (els s.kept) (Dq n)=[])):=rfl;by_cases k:Gu (els s.kept)=true
    ·rw[k]at g;by_cases l:Br (els s.kept) (Dq n)=[]
     ·rw[l]at i;rw[show B8 []=none from rfl]at i;simp(disch:=try exact dq)only[tx,seval,g,i,o,Er];refine⟨rfl,?_⟩;rw[k,l]at d;have m:Es n (els s.kept)=true:=(by rw[d];rfl);exact⟨λ_=>hI.1 om,λ_=>hI.2.1 om,λ_=>hI.2.2.1 om,λ_=>m⟩
     ·have e:0<((els (B8 (Br (els s.kept) (Dq n)))).length:Int):=by
       rw[Dp]
       have:=f1d.2 l;omega
      simp(disch:=try exact dq)only[tx,seval,g,i,o,e];have f:Es n (els s.kept)=false:=(by rw[d];simp[l]);rw[show Ct n s.n=false by simp only[Ct,Space.n,f,f4x,f4w]]
    ·rw[f3p]at k;rw[k]at g;simp(disch:=try exact dq)only[tx,seval,g,o];have f:Es n (els s.kept)=false:=(by rw[d,k];rfl);rw[show Ct n s.n=false by simp only[Ct,Space.n,f,f4x,f4w]]
  ·intro hI;have B:=hI.1 om;have C:=hI.2.1 om;have D:=hI.2.2.1 om;have E:=hI.2.2.2 om;have I:Ct n s.n=(decide (K5 (els s.held) (els s.one)=[])&&decide (K5 (Dk (els s.held) (els s.one)) (els s.two)=[])):=by
    rw[f4d];simp[Ct,Space.n,B,C,D,E,c];exact⟨λh=>⟨f2w h.1,f2w h.2⟩,λh=>⟨f51 h.1,f51 h.2⟩⟩
   rw[I];have q:=bk8 s.held s.one om;have a1:=bk9 s.held s.one om;have G:=S3 (λa b=>a||b) (els s.held) (els s.one);have b2:=bk8 (B8 (Dk (els s.held) (els s.one))) s.two (by rw[Dp];unfold Dk;omega);rw[Dp]at b2;by_cases t:K5 (els s.held) (els s.one)=[]
   ·rw[t,show B8 []=none from rfl]at q;by_cases u:K5 (Dk (els s.held) (els s.one)) (els s.two)=[]
    ·rw[u,show B8 []=none from rfl]at b2;simp(disch:=try exact dq)only[tx,seval,q,a1,b2,Er];simp[t,u]
    ·have e:¬ ((els (B8 (K5 (Dk (els s.held) (els s.one)) (els s.two)))).length:Int)=0:=by
      rw[Dp]
      have:=f1d.2 u;omega
     simp(disch:=try exact dq)only[tx,seval,q,a1,b2,Er,e];simp[u]
   ·have e:¬ ((els (B8 (K5 (els s.held) (els s.one)))).length:Int)=0:=by
     rw[Dp]
     have:=f1d.2 t;omega
    simp(disch:=try exact dq)only[tx,seval,q,a1,b2,Er,e];simp[t]
 ·have v:Ct n s.n=false:=by unfold Ct;rw[f3p]at c;rw[c];rfl
  rw[v];have y:n<40\/240<n:=by
   rcases f6h n 40 with h|h
   ·exact .inl h
   ·rcases f6h 240 n with w|w
    ·exact .inr w
    ·exact absurd (by unfold Ic;simp;omega) c
  simp(disch:=try exact dq)only[tx,seval,a3c,x,o];rw[iP (by simpa using y)]
def d7m(s:Space)(c:SpOk s)(n:Int)(a:-100000<=n)(b:n<=100000)(H:AH):K tab A6 A5 251 [.N n,.agg [A4 A8 s.held,A4 A8 s.one,A4 A8 s.two,A4 A8 s.kept]] H=some (.bool (Ct n s.n),H):=by
 refine Ae e1s rfl (by simp[Aa,Ab,Ai]) rfl ?_ H;have h:=bl2 s c n a b;simp(disch:=try exact dq)only[tx,aa3,h]
def Vl{Q:R3->Prop}{a:LA->AH->R3}{b:LA}{H:AH}{r:R3}(e:Aj a b H=r)(c:Rd Q False b H (a b H)):Q r:=
 Hr e 0 (λ_=>b) (λ_=>H) (λ_=>True) rfl rfl trivial (λ_ d=>absurd d (f4f _)) (λ_=>c)
def b3a(l:LI):(N8 l).length<=l.length:=by
 have b:N8 l=N5 (dd (Dg l)) (dd (Dg l)).length:=by
  rw[b30 _ _ (f6o _),f3m];exact(c1p l _ (a4k l).1 (a4k l).2).symm
 rw[b];have c:=b2z (dd (Dg l)) (dd (Dg l)).length;have a:=Uu (Dg l) (Dg l).length (f6o _);rw[f3m,Pw]at a;omega
def Qw(n:Int)(l:LR)(a:n<=100000):(Mz n l).length<=20000:=by
 unfold Mz;split
 ·unfold Yj;rw[f3z,f2z];omega
 ·simp
def d9v(n:Int)(s:SpaceL)(a:n<=100000):(Jd n s).length<=80000:=by
 unfold Jd;split
 ·simp only[f1q];have b:=Qw n s.held a;have c:=Qw n s.one a;have h3:=Qw n s.two a;have h4:=Qw n s.kept a;omega
 ·simp
def bi9(s:Space)(d:SpOk s)(n:Int)(b:-100000<=n)(a:n<=100000)(H:AH):K tab A6 A5 185 [.N n,.agg [A4 A8 s.held,A4 A8 s.one,A4 A8 s.two,A4 A8 s.kept]] H=some (.str (Jd n s.n),H):=by
 refine Ae e2v rfl (by simp[Aa,Ab,Ai]) rfl ?_ H;have h:=d7m s d n b a;have j:=d.held;have k:=d.one;have l3:=d.two;have l4:=d.kept;have e:=an9 n b a s.held om;have f:=an9 n b a s.one om;have g:=an9 n b a s.two om;have i:=an9 n b a s.kept om;unfold Jd;cases c:Ct n s.n with
 |false=>
   rw[c]at h;simp(disch:=try exact dq)only[tx,seval,a3s,h]
 |true=>
   rw[c]at h;have l:=Qw n (els s.held) a;have m:=Qw n (els s.one) a;have o:=Qw n (els s.two) a;have p:=Qw n (els s.kept) a;simp(disch:=try exact dq)only[tx,seval,a3s,h,e,f,g,i,f1q];rfl
def Mj{n:Int}{s:Bytes}{l:LR}{r:Bytes}(h:E9 n s=some (l,r)):r.length<=s.length/\l.length<=500:=by
 unfold E9 at h;split at h
 ·rename_i b;have c:40<=n/\n<=240:=by have:=b.1;unfold Ic at this;simpa using this
  cases h;refine⟨by rw[f38];omega,?_⟩
  have:=b3a (((List.range n.toNat).filter (Ta s)).map λi:Nat=>14+(i:Int));rw[f3z]at this;have a:=List.length_filter_le (Ta s) (List.range n.toNat);rw[f2z]at a;omega
 ·cases h
def Lm(o:Option SpaceL):AV:=match o with
 |some s=>.tuple [.agg [A4 A8 (B8 s.held),A4 A8 (B8 s.one),A4 A8 (B8 s.two),A4 A8 (B8 s.kept)],.bool true]
 |none=>.tuple [.agg [.emp,.emp,.emp,.emp],.bool false]
def d6s(n:Int)(d:-100000<=n)(a:n<=100000)(s:Bytes)(e:s.length<=1000000) (c:E9 n s=none)(H:AH):K tab A6 A5 116 [.N n,.str s] H=some (Lm none,H):=by
 refine Ae a7b rfl rfl (by unfold Lm;split<;>simp[Ab,Aa,Ai]) ?_ H;have t0:=Ms n a s om;rw[c]at t0;unfold Kv at t0;simp only[]at t0;simp(disch:=try exact dq)only[tx,Vv];generalize b:Aj _ _ _=r;refine Vl (Q:=λr=>E5 _ _ _ (Bm _ _ (Bi _ r))=_) b ?_;simp(disch:=try exact dq)only[tx,t0];rfl
def d6r(n:Int)(i:-100000<=n)(d:n<=100000)(s:Bytes)(l:s.length<=1000000)(a:LR)(c:Bytes)(e:E9 n s=some (a,c))(g:E9 n c=none)(H:AH):K tab A6 A5 116 [.N n,.str s] H=some (Lm none,H):=by
 refine Ae a7b rfl rfl (by unfold Lm;split<;>simp[Ab,Aa,Ai]) ?_ H;have t0:=Ms n d s om;rw[e]at t0;unfold Kv at t0;simp only[]at t0;have h:=Mj e;have b:=Ms n d c om;rw[g]at b;unfold Kv at b;simp only[]at b;simp(disch:=try exact dq)only[tx,Vv];generalize f:Aj _ _ _=r;refine B6 f 1 (λj=>match j with|0=>[.N n,.str s,.ptr 0 0 0 1,U,.ptr 1 0 0 1,.str s,U,U,U,.N 0,U,U,U,U,U,U,U]|_=>[.N n,.str s,.ptr 0 0 0 1,U,.ptr 1 0 0 1,.str c,U,U,U,.N 1,U,U,U,U,U,U,U] ) (λj=>match j with|0=>[some [[.emp,.emp,.emp,.emp]],some [[.emp,.emp,.emp,.emp]]]|_=>[some [[.emp,.emp,.emp,.emp]],some [[A4 A8 (B8 a),.emp,.emp,.emp]]] ) (λ_=>True) ?_ ?_ trivial ?_ ?_
 ·rfl
 ·rfl
 ·intro j k _;obtain rfl:j=0:=om;simp(disch:=try exact dq)only[tx,t0,b]
  first|exact⟨rfl,rfl⟩|rfl
 ·intro _;simp(disch:=try exact dq)only[tx,t0,b];rfl
def d6q(n:Int)(p:-100000<=n)(g:n<=100000)(s:Bytes)(t:s.length<=1000000)(a b:LR)(e f:Bytes)(h:E9 n s=some (a,e))(i:E9 n e=some (b,f))(l:E9 n f=none)(H:AH):K tab A6 A5 116 [.N n,.str s] H=some (Lm none,H):=by
 refine Ae a7b rfl rfl (by unfold Lm;split<;>simp[Ab,Aa,Ai]) ?_ H;have t0:=Ms n g s om;rw[h]at t0;unfold Kv at t0;simp only[]at t0;have m:=Mj h;have c:=Ms n g e om;rw[i]at c;unfold Kv at c;simp only[]at c;have o:=Mj i;have d:=Ms n g f om;rw[l]at d;unfold Kv at d;simp only[]at d;simp(disch:=try exact dq)only[tx,Vv];generalize k:Aj _ _ _=r;refine B6 k 2 (λj=>match j with|0=>[.N n,.str s,.ptr 0 0 0 1,U,.ptr 1 0 0 1,.str s,U,U,U,.N 0,U,U,U,U,U,U,U]|1=>[.N n,.str s,.ptr 0 0 0 1,U,.ptr 1 0 0 1,.str e,U,U,U,.N 1,U,U,U,U,U,U,U]|_=>[.N n,.str s,.ptr 0 0 0 1,U,.ptr 1 0 0 1,.str f,U,U,U,.N 2,U,U,U,U,U,U,U] ) (λj=>match j with|0=>[some [[.emp,.emp,.emp,.emp]],some [[.emp,.emp,.emp,.emp]]]|1=>[some [[.emp,.emp,.emp,.emp]],some [[A4 A8 (B8 a),.emp,.emp,.emp]]]|_=>[some [[.emp,.emp,.emp,.emp]],some [[A4 A8 (B8 a),A4 A8 (B8 b),.emp,.emp]]] ) (λ_=>True) ?_ ?_ trivial ?_ ?_
 ·rfl
 ·rfl
 ·intro j q _;obtain rfl|rfl:j=0\/j=1:=om
  ·simp(disch:=try exact dq)only[tx,t0,c,d]
   first|exact⟨rfl,rfl⟩|rfl
  ·simp(disch:=try exact dq)only[tx,t0,c,d]
   first|exact⟨rfl,rfl⟩|rfl
 ·intro _;simp(disch:=try exact dq)only[tx,t0,c,d];rfl
def d6p(n:Int)(v:-100000<=n)(g:n<=100000)(s:Bytes)(x:s.length<=1000000)(a b c:LR)(h i k:Bytes)(l:E9 n s=some (a,h))(m:E9 n h=some (b,i))(o:E9 n i=some (c,k))(q:E9 n k=none)(H:AH):K tab A6 A5 116 [.N n,.str s] H=some (Lm none,H):=by
 refine Ae a7b rfl rfl (by unfold Lm;split<;>simp[Ab,Aa,Ai]) ?_ H;have t0:=Ms n g s om;rw[l]at t0;unfold Kv at t0;simp only[]at t0;have t:=Mj l;have d:=Ms n g h om;rw[m]at d;unfold Kv at d;simp only[]at d;have u:=Mj m;have e:=Ms n g i om;rw[o]at e;unfold Kv at e;simp only[]at e;have b2:=Mj o;have f:=Ms n g k om;rw[q]at f;unfold Kv at f;simp only[]at f;simp(disch:=try exact dq)only[tx,Vv];generalize p:Aj _ _ _=r;refine B6 p 3 (λj=>match j with|0=>[.N n,.str s,.ptr 0 0 0 1,U,.ptr 1 0 0 1,.str s,U,U,U,.N 0,U,U,U,U,U,U,U]|1=>[.N n,.str s,.ptr 0 0 0 1,U,.ptr 1 0 0 1,.str h,U,U,U,.N 1,U,U,U,U,U,U,U]|2=>[.N n,.str s,.ptr 0 0 0 1,U,.ptr 1 0 0 1,.str i,U,U,U,.N 2,U,U,U,U,U,U,U]|_=>[.N n,.str s,.ptr 0 0 0 1,U,.ptr 1 0 0 1,.str k,U,U,U,.N 3,U,U,U,U,U,U,U] ) (λj=>match j with|0=>[some [[.emp,.emp,.emp,.emp]],some [[.emp,.emp,.emp,.emp]]]|1=>[some [[.emp,.emp,.emp,.emp]],some [[A4 A8 (B8 a),.emp,.emp,.emp]]]|2=>[some [[.emp,.emp,.emp,.emp]],some [[A4 A8 (B8 a),A4 A8 (B8 b),.emp,.emp]]]|_=>[some [[.emp,.emp,.emp,.emp]],some [[A4 A8 (B8 a),A4 A8 (B8 b),A4 A8 (B8 c),.emp]]] ) (λ_=>True) ?_ ?_ trivial ?_ ?_
 ·rfl
 ·rfl
 ·intro j w _;obtain rfl|rfl|rfl:j=0\/j=1\/j=2:=om
  ·simp(disch:=try exact dq)only[tx,t0,d,e,f]
   first|exact⟨rfl,rfl⟩|rfl
  ·simp(disch:=try exact dq)only[tx,t0,d,e,f]
   first|exact⟨rfl,rfl⟩|rfl
  ·simp(disch:=try exact dq)only[tx,t0,d,e,f]
   first|exact⟨rfl,rfl⟩|rfl
 ·intro _;simp(disch:=try exact dq)only[tx,t0,d,e,f];rfl
def d6o(n:Int)(A:-100000<=n)(h:n<=100000)(s:Bytes)(D:s.length<=1000000)(a b c e:LR)(l m o v:Bytes)(p:E9 n s=some (a,l))(q:E9 n l=some (b,m))(t:E9 n m=some (c,o))(u:E9 n o=some (e,v))(H:AH):K tab A6 A5 116 [.N n,.str s] H=some (Lm (if Jd n ⟨a,b,c,e⟩=s then some ⟨a,b,c,e⟩else none),H):=by
 refine Ae a7b rfl rfl (by unfold Lm;split<;>simp[Ab,Aa,Ai]) ?_ H;have t0:=Ms n h s om;rw[p]at t0;unfold Kv at t0;simp only[]at t0;have w:=Mj p;have d:=Ms n h l om;rw[q]at d;unfold Kv at d;simp only[]at d;have x:=Mj q;have f:=Ms n h m om;rw[t]at f;unfold Kv at f;simp only[]at f;have b2:=Mj t;have g:=Ms n h o om;rw[u]at g;unfold Kv at g;simp only[]at g;have y:=Mj u;simp(disch:=try exact dq)only[tx,seval,Vv];generalize B:Aj _ _ _=r;refine B6 B 4 (λj=>match j with|0=>[.N n,.str s,.ptr 0 0 0 1,U,.ptr 1 0 0 1,.str s,U,U,U,.N 0,U,U,U,U,U,U,U]|1=>[.N n,.str s,.ptr 0 0 0 1,U,.ptr 1 0 0 1,.str l,U,U,U,.N 1,U,U,U,U,U,U,U]|2=>[.N n,.str s,.ptr 0 0 0 1,U,.ptr 1 0 0 1,.str m,U,U,U,.N 2,U,U,U,U,U,U,U]|3=>[.N n,.str s,.ptr 0 0 0 1,U,.ptr 1 0 0 1,.str o,U,U,U,.N 3,U,U,U,U,U,U,U]|_=>[.N n,.str s,.ptr 0 0 0 1,U,.ptr 1 0 0 1,.str v,U,U,U,.N 4,U,U,U,U,U,U,U] ) (λj=>match j with|0=>[some [[.emp,.emp,.emp,.emp]],some [[.emp,.emp,.emp,.emp]]]|1=>[some [[.emp,.emp,.emp,.emp]],some [[A4 A8 (B8 a),.emp,.emp,.emp]]]|2=>[some [[.emp,.emp,.emp,.emp]],some [[A4 A8 (B8 a),A4 A8 (B8 b),.emp,.emp]]]|3=>[some [[.emp,.emp,.emp,.emp]],some [[A4 A8 (B8 a),A4 A8 (B8 b),A4 A8 (B8 c),.emp]]]|_=>[some [[.emp,.emp,.emp,.emp]],some [[A4 A8 (B8 a),A4 A8 (B8 b),A4 A8 (B8 c),A4 A8 (B8 e)]]] ) (λ_=>True) ?_ ?_ trivial ?_ ?_
 ·rfl
 ·rfl
 ·intro j C _;obtain rfl|rfl|rfl|rfl:j=0\/j=1\/j=2\/j=3:=om
  ·simp(disch:=try exact dq)only[tx,seval,t0,d,f,g]
   first|exact⟨rfl,rfl⟩|rfl
  ·simp(disch:=try exact dq)only[tx,seval,t0,d,f,g]
   first|exact⟨rfl,rfl⟩|rfl
  ·simp(disch:=try exact dq)only[tx,seval,t0,d,f,g]
   first|exact⟨rfl,rfl⟩|rfl
  ·simp(disch:=try exact dq)only[tx,seval,t0,d,f,g]
   first|exact⟨rfl,rfl⟩|rfl
 ·intro _;have k:=bi9 ⟨B8 a,B8 b,B8 c,B8 e⟩ ⟨by rw[Dp];exact w.2,by rw[Dp];exact x.2,by rw[Dp];exact b2.2,by rw[Dp];exact y.2⟩ n A h;have z:Space.n ⟨B8 a,B8 b,B8 c,B8 e⟩=⟨a,b,c,e⟩:=by simp only[Space.n,Dp]
  rw[z]at k;simp only[]at k;by_cases i:Jd n ⟨a,b,c,e⟩=s
  ·rw[iP i];simp(disch:=try exact dq)only[tx,seval,k,i];rfl
  ·rw[iN i];simp(disch:=try exact dq)only[tx,seval,k,i];rfl
def d6n(n:Int)(d:-100000<=n)(f:n<=100000)(s:Bytes)(g:s.length<=1000000)(H:AH):K tab A6 A5 116 [.N n,.str s] H=some (Lm (S6 n s),H):=by
 unfold S6;cases h:E9 n s with
 |none=>exact d6s n d f s g h H
 |some p=>
   have⟨a,i⟩:=p;simp only[];cases j:E9 n i with
   |none=>exact d6r n d f s g a i h j H
   |some q=>
     have⟨b,k⟩:=q;simp only[];cases l:E9 n k with
     |none=>exact d6q n d f s g a b i k h j l H
     |some r=>
       have⟨c,m⟩:=r;simp only[];cases o:E9 n m with
       |none=>exact d6p n d f s g a b c i k m h j l o H
       |some t=>
         have⟨e,u⟩:=t;exact d6o n d f s g a b c e i k m u h j l o H
def Je(d:Dev)(p:Int×Bytes):Bool:=decide (0<=p.1)&&decide (p.1<(els d.last).length)&&decide (p.2.length=256)
def S2(d:Dev)(p:Int×Bytes):Dev:=⟨d.last,some (els d.wait++[p]),d.lies,d.arm,d.down⟩
def Dl:Dev->List (Int×Bytes)->Dev×Bool
 |d,[]=>(d,true)
 |d,p::l=>if Je d p=true then(if 0<d.arm then(if d.arm=1 then(⟨d.last,some (els d.wait++[p]),d.lies,0,true⟩,false)else Dl ⟨d.last,some (els d.wait++[p]),d.lies,d.arm-1,d.down⟩ l)else Dl (S2 d p) l)else(d,false)
def Co(d:Dev)(l:List (Int×Bytes)):Dev×Bool:=if d.down=true then(d,false)else Dl d l
def M0(c b:Bytes)(a:Int):Bytes:=(if a%2=1 then b.take 128 else c.take 128)++(if a/2%2=1 then b.drop 128 else c.drop 128)
def Zr(a:List Bytes)(p:Int×Bytes)(h:Int):List Bytes:=
 if 0<=p.1/\p.1<a.length/\p.2.length=256/\(a.getD p.1.toNat df).length=256 then a.set p.1.toNat (M0 (a.getD p.1.toNat df) p.2 h)else a
def Kn:List Bytes->List (Int×Bytes)->LI->List Bytes
 |out,[],_=>out
 |out,p::w,how=>Kn (Zr out p (how.headD 0%4)) w how.tail
def T5(d:Dev):Dev×Bool:=if d.down=true then(d,false)else if 0<d.lies then(⟨d.last,d.wait,d.lies-1,d.arm,d.down⟩,true)
 else(⟨some (Kn (els d.last) (els d.wait) (List.replicate (els d.wait).length 3)),none,d.lies,d.arm,d.down⟩,true)
def Di(n:Int):Dev:=⟨some (if n<=268 then List.replicate n.toNat (zs 256)else []),none,0,0,false⟩
def dt2(a:List Bytes)(p:Int×Bytes)(h:Int):(Zr a p h).length=a.length:=by
 unfold Zr;split
 ·rw[f3v]
 ·rfl
def a79:∀ (w:List (Int×Bytes)) (a:List Bytes) (b:LI),(Kn a w b).length=a.length
 |[],_,_=>rfl
 |p::w,a,b=>by rw[Kn,a79 w,dt2]
def e5b{a b:Bytes}(d:a.length=256)(e:b.length=256)(c:Int):(M0 a b c).length=256:=by
 unfold M0;rw[f1q];split<;>split<;>simp[f3l,f38,d,e]
def dt1{n:Nat}(e:256<=n){a:List Bytes}(d:∀ s∈a,s.length<=n)(p:Int×Bytes)(h:Int):∀ s∈Zr a p h,s.length<=n:=by
 unfold Zr;split
 ·rename_i c;intro s f;rcases ey6 f with b|b
  ·exact d s b
  ·rw[b,e5b c.2.2.2 c.2.2.1];exact e
 ·exact d
def c3q{n:Nat}(c:256<=n):∀ (w:List (Int×Bytes)) (a:List Bytes) (b:LI),(∀ s∈a,s.length<=n)->∀ s∈Kn a w b,s.length<=n
 |[],_,_,h=>h
 |p::w,a,b,h=>by rw[Kn];exact c3q c w _ _ (dt1 c h p _)
def Ys:∀ (l:List (Int×Bytes)) (d:Dev),(Dl d l).1.last=d.last/\(els (Dl d l).1.wait).length<=(els d.wait).length+l.length/\∀ q∈els (Dl d l).1.wait,q∈els d.wait\/q.2.length=256
 |[],d=>⟨rfl,by simp[Dl],λq h=>.inl h⟩
 |p::l,d=>by
   rw[Dl];have f:∀ e:Dev,e.last=d.last->e.wait=some (els d.wait++[p])->Je d p=true->(Dl e l).1.last=d.last/\(els (Dl e l).1.wait).length<=(els d.wait).length+(p::l).length/\∀ q∈els (Dl e l).1.wait,q∈els d.wait\/q.2.length=256:=by
    intro e j i h3;have⟨a,b,c⟩:=Ys l e;rw[i,Az,f1q,f0n]at b;refine⟨a.trans j,by rw[f33];omega,λq g=>?_⟩;rcases c q g with h4|h4
    ·rw[i,Az,f43,f1t]at h4;rcases h4 with h4|h4
     ·exact .inl h4
     ·subst h4;simp only[Je,f32,f2f]at h3;exact .inr h3.2
    ·exact .inr h4
   split
   ·rename_i h3;split
    ·split
     ·refine⟨rfl,by simp[els],λq g=>?_⟩;rw[Az,f43,f1t]at g;rcases g with h4|h4
      ·exact .inl h4
      ·subst h4;simp only[Je,f32,f2f]at h3;exact .inr h3.2
     ·exact f _ rfl rfl h3
    ·exact f _ rfl rfl h3
   ·exact⟨rfl,by simp,λq h=>.inl h⟩
def Yr:∀ (l:List (Int×Bytes)) (d:Dev),(Dl d l).1.lies=d.lies
 |[],d=>rfl
 |p::l,d=>by
   rw[Dl];split
   ·split
    ·split
     ·rfl
     ·rw[Yr l]
    ·rw[Yr l];rfl
   ·rfl
def Ir(d:Dev)(p:Int×Bytes):Dev:=if 0<d.arm then⟨d.last,some (els d.wait++[p]),d.lies,d.arm-1,d.down⟩else S2 d p
def ak7{d:Dev}{p:Int×Bytes}(l:List (Int×Bytes))(h:Je d p=true)(a:d.arm≠1):Dl d (p::l)=Dl (Ir d p) l:=by
 simp only[Dl,h,if_true,Ir,a,if_false];split<;>rfl
def ak8{d:Dev}{p:Int×Bytes}(l:List (Int×Bytes))(h:Je d p=false):Dl d (p::l)=(d,false):=by
 rw[Dl,iN (by rw[h];simp)]
def b7y{d:Dev}{p:Int×Bytes}(l:List (Int×Bytes))(h:Je d p=true)(a:d.arm=1):Dl d (p::l)=(⟨d.last,some (els d.wait++[p]),d.lies,0,true⟩,false):=by
 rw[Dl,iP h,iP om,iP a]
def Hl(d:Dev)(l:List (Int×Bytes)):Dev:=l.foldl Ir d
def ca9{l:List (Int×Bytes)}{j:Nat}(a:j<l.length)(d:Dev):Hl d (l.take (j+1))=Ir (Hl d (l.take j)) (l.getD j df):=by
 unfold Hl;rw[Et a,f2y];rfl
def bj5(d:Dev)(p:Int×Bytes):(Ir d p).last=d.last/\(Ir d p).lies=d.lies/\(Ir d p).down=d.down/\(Ir d p).arm<=d.arm/\(Ir d p).wait=some (els d.wait++[p]):=by
 unfold Ir S2;split
 ·exact⟨rfl,rfl,rfl,by simp only;omega,rfl⟩
 ·exact⟨rfl,rfl,rfl,f6u _,rfl⟩
def ag3:∀ (l:List (Int×Bytes)) (d:Dev),(Hl d l).last=d.last/\(Hl d l).lies=d.lies/\(Hl d l).down=d.down/\(Hl d l).arm<=d.arm/\(els (Hl d l).wait).length=(els d.wait).length+l.length
 |[],d=>⟨rfl,rfl,rfl,f6u _,rfl⟩
 |p::l,d=>by
   have⟨a,b,c,e,f⟩:=ag3 l (Ir d p);have⟨a2,b2,g,j,i⟩:=bj5 d p;have h:Hl d (p::l)=Hl (Ir d p) l:=rfl;rw[h];refine⟨a.trans a2,b.trans b2,c.trans g,by omega,?_⟩;rw[f,i,Az,f1q,f33,f33,f3w];omega
def D8(l:List UInt8)(n:Nat)(m:Int):Int:=if l.length<=n\/m<1 then 0 else((l.getD n df).toNat:Int)%m
def Cy(l:List UInt8)(n:Nat)(m:Int):Nat:=if l.length<=n\/m<1 then n else n+1
def Du(l:List UInt8)(n:Nat)(m:Int)(h:1<=m):0<=D8 l n m/\D8 l n m<m:=by
 unfold D8;split
 ·omega
 ·exact⟨Int.emod_nonneg _ om,Int.emod_lt_of_pos _ om⟩
def Dv(l:List UInt8)(n:Nat)(m:Int):Cy l n m<=n+1:=by unfold Cy;split<;>omega
def pu8(c:UInt8):LP:=[.int .u8 c.toNat]
def Dt(l:Sl UInt8)(e:(els l).length<=1000000)(n:Nat)(g:n<=1000000)(m:Int)(f:m<=1000000) :
 Ev tab A6 A5 20 [.ptr 0 0 0 1,.N m] [some [[A4 pu8 l,.N n]]]=some (.N (D8 (els l) n m),[some [[A4 pu8 l,.N (Cy (els l) n m)]]]):=by
 refine Bz l20 rfl ?_;unfold D8 Cy;by_cases a:(els l).length<=n
 ·have c1':((els l).length:Int)<=(n:Int):=om;simp(disch:=try exact dq)only[tx,Ot,a,c1',Jk,Jr];simp
 ·have c1':¬ ((els l).length:Int)<=(n:Int):=om;by_cases b:m<1
  ·simp(disch:=try exact dq)only[tx,Ot,a,c1',b,Jk,Jr]
  ·have d:((n:Int)+1-1).toNat=n:=om;simp(disch:=try exact dq)only[tx,Ot,a,c1',b,Jk,Jr,Ad,pu8,f52,d];have c:IntKind.i64.wrap (((els l).getD n df).toNat:Int)=(((els l).getD n df).toNat:Int):=f52 _ (by have:=((els l).getD n df).toNat_lt;omega);rw[c,ey3 om];rfl
def c2x(l:Sl UInt8):Ev tab A6 A5 6 [A4 pu8 l] []=some (.ptr 0 0 0 1,[some [[A4 pu8 l,.N 0]]]):=by
 refine Bz l6 rfl ?_;simp(disch:=try exact dq)only[tx,g6,Jk,Jr]
def Px(b k a:Int):Int:=if Fr b k<0\/a<0\/6<=a then -1 else Fr b k+1+a
def ct8(a k:Int):-1<=Fr a k/\Fr a k<=300:=by
 unfold Fr;split
 ·omega
 ·rename_i h;have b:Ek a=true:=by cases d:Ek a<;>simp_all
  have c:40<=a/\a<=240:=by unfold Ek at b;simpa using b
  simp only[not_or]at h;split<;>omega
def ao1(b k c:Int)(i:c<=1000)(H:AH):K tab A6 A5 24 [.N b,.N k,.N c] H=some (.N (Px b k c),H):=by
 refine Ae l24 rfl rfl rfl ?_ H;have g:=λH=>a56 (orc:=A6) (lk:=A5) b k H (λH=>Xm b H);have h:=ct8 b k;unfold Px;generalize Fr b k=a at *;by_cases d:a<0
 ·simp(disch:=try exact dq)only[tx,Y7,g,d]
  try simp[d]
 ·by_cases e:c<0
  ·simp(disch:=try exact dq)only[tx,Y7,g,d,e]
   try simp[e]
  ·by_cases f:6<=c
   ·simp(disch:=try exact dq)only[tx,Y7,g,d,e,f]
    try simp[f]
   ·simp(disch:=try exact dq)only[tx,Y7,g,d,e,f,f52]
    try simp[d,e,f]
def b3q(l:LR):Gu l=true↔∀ j,j<l.length->0<=(l.getD j df).a/\(l.getD j df).a<(l.getD j df).b/\(l.getD j df).b<=1073741824/\(0<j->(l.getD (j-1) df).b<(l.getD j df).a):=by
 have f:∀ (l:LR) (c:Int),-1<=c->(Q8 c l=true↔∀ j,j<l.length->(if j=0 then c else(l.getD (j-1) df).b)<(l.getD j df).a/\0<=(l.getD j df).a/\(l.getD j df).a<(l.getD j df).b/\(l.getD j df).b<=1073741824):=by
  intro l
  induction l with
  |nil=>intro c _;simp[Q8]
  |cons r l g=>
    intro c m;simp only[Q8,f32,f2f];constructor
    ·rintro⟨i,k,h3,h4⟩ j d;cases j with
     |zero=>simp only[if_true,f1g];exact⟨i,by omega,k,h3⟩
     |succ j=>
       have:=(g r.b om).1 h4 j (by simpa using d);rw[iN om,f1b,show j+1-1=j by omega];cases j with
       |zero=>simpa using this
       |succ j=>rw[iN om]at this;rw[f1b];exact this
    ·intro h;have e:=h 0 sm;simp only[if_true,f1g]at e;refine⟨e.1,e.2.2.1,e.2.2.2,(g r.b om).2 λj d=>?_⟩
     have:=h (j+1) (by simpa using d);rw[iN om,f1b,show j+1-1=j by omega]at this;cases j with
     |zero=>simpa using this
     |succ j=>rw[iN om];rw[f1b]at this;exact this
 rw[Gu,f l (-1) om];constructor
 ·intro h j d
  have:=h j d;refine⟨this.2.1,this.2.2.1,this.2.2.2,λe=>?_⟩;rw[iN om]at this;exact this.1
 ·intro h j d
  have:=h j d;refine⟨?_,this.1,this.2.1,this.2.2.1⟩;split
  ·omega
  ·exact this.2.2.2 om
def c2h(l:Sl Rn)(q:(els l).length<=1000000)(H:AH):K tab A6 A5 193 [A4 A8 l] H=some (.bool (Gu (els l)),H):=by
 refine Ae e2m rfl (by simp[Aa,Ab,Ai]) rfl ?_ H;simp(disch:=try exact dq)only[tx,ac2];generalize p:Aj _ _ _=r;refine B6 p (els l).length (λj=>[A4 A8 l,U,.N j])
  (λj=>[]) (λj=>∀ i,i<j->0<=((els l).getD i df).a/\((els l).getD i df).a<((els l).getD i df).b/\((els l).getD i df).b<=1073741824/\(0<i->((els l).getD (i-1) df).b<((els l).getD i df).a)) ?_ ?_ ?_ ?_ ?_
 ·rfl
 ·rfl
 ·exact λi h=>absurd h (f4f i)
 ·intro j k hI;have d:((j:Int)<((els l).length:Int)):=om;have o:((j:Int)-1).toNat=j-1:=om;by_cases n:0<(j:Int)
  ·simp(disch:=try exact dq)only[tx,d,Ad,A8,f52,o,n];generalize e:(els l).getD j df=x at *;generalize m:(els l).getD (j-1) df=y at *;refine⟨λh=>?_,λh=>⟨rfl,λi hi=>?_⟩⟩
   ·have f:Gu (els l)=false:=by
     rw[<-f3p];intro g
     have:=(b3q (els l)).1 g j k;rw[e,m]at this;simp only[f44,f32,f2f]at h;omega
    rw[f]
   ·rcases f5u i j with c|c
    ·exact hI i c
    ·obtain rfl:i=j:=om;rw[e,m];simp only[f44,f32,f2f]at h;omega
  ·simp(disch:=try exact dq)only[tx,d,Ad,A8,f52,o,n];generalize e:(els l).getD j df=x at *;refine⟨λh=>?_,λh=>⟨rfl,λi hi=>?_⟩⟩
   ·have f:Gu (els l)=false:=by
     rw[<-f3p];intro g
     have:=(b3q (els l)).1 g j k;rw[e]at this;simp only[f44,f32,f2f]at h;omega
    rw[f]
   ·rcases f5u i j with c|c
    ·exact hI i c
    ·obtain rfl:i=j:=om;rw[e];simp only[f44,f32,f2f]at h;omega
 ·intro hI;rw[(b3q (els l)).2 hI];simp(disch:=try exact dq)only[tx,f5q]
def a7i(l:Sl Rn)(i:(els l).length<=1000000)(n:Int)(H:AH):K tab A6 A5 159 [A4 A8 l,.N n] H=some (.bool (hasR (els l) n),H):=by
 refine Ae e3e rfl (by simp[Aa,Ab,Ai]) rfl ?_ H;simp(disch:=try exact dq)only[tx,ad7];generalize h:Aj _ _ _=r;refine B6 h (els l).length (λj=>[A4 A8 l,.N n,U,.N j])
  (λj=>[]) (λj=>hasR (els l) n=hasR ((els l).drop j) n) ?_ ?_ ?_ ?_ ?_
 ·rfl
 ·rfl
 ·rfl
 ·intro j g hI;have c:((j:Int)<((els l).length:Int)):=om;rw[F7 g,O0]at hI;generalize f:(els l).getD j df=x at *;by_cases d:x.a<=n
  ·by_cases e:n<x.b
   ·rw[hI];simp(disch:=try exact dq)only[tx,c,Ad,A8,f52,f,d,e]
   ·simp(disch:=try exact dq)only[tx,c,Ad,A8,f52,f,d,e];refine⟨rfl,?_⟩;rw[hI];simp[e]
  ·simp(disch:=try exact dq)only[tx,c,Ad,A8,f52,f,d];refine⟨rfl,?_⟩;rw[hI];simp[d]
 ·intro hI;rw[f3n]at hI;simp(disch:=try exact dq)only[tx,f5q];rw[hI];rfl
def cm0(l:Sl Rn)(d:Wg (els l))(H:AH):K tab A6 A5 126 [A4 A8 l] H=some (.N (Eo (els l)),H):=by
 refine Ae e3m rfl (by simp[Aa,Ab,Ai]) rfl ?_ H;simp(disch:=try exact dq)only[tx,ae1];generalize e:Aj _ _ _=r;have g:=d.1;refine B6 e (els l).length (λj=>[A4 A8 l,U,.N (Eo ((els l).take j)),.N j])
  (λj=>[]) (λj=>True) ?_ ?_ trivial ?_ ?_
 ·simp[Eo]
 ·rfl
 ·intro j f _;have c:((j:Int)<((els l).length:Int)):=om;have m:=cl8 (l:=(els l).take j) λr e=>d.2 r (f0s e);have h:(((els l).take j).length:Int)<=10000:=by rw[f3l];omega
  have k:=d.2 ((els l).getD j df) (by rw[ex9,ez2 f];exact f3e _);rw[Et f,cl9];generalize Eo ((els l).take j)=a at *;generalize i:(els l).getD j df=x at *;simp only[Eo,f6k];simp(disch:=try exact dq)only[tx,c,i,Ad,A8,f52];rw[show a+x.b-x.a=a+(x.b-x.a) by omega];rfl
 ·intro _;rw[f3m];simp(disch:=try exact dq)only[tx,f5q]
def iV(r:Nat)(o:LI):AV:=if o=[]then .emp else .own r 1 0 o.length o.length
def iH(o:LI):AH:=if o=[]then []else [some (o.map cI)]
def au5(n:Int):∀ (l:LI) (j:Nat),j<=l.length->(∀ i,i<j->l.getD i df<n)->A7 n l=l.take j++A7 n (l.drop j)
 |l,0,_,_=>rfl
 |[],j+1,h,_=>by simp at h
 |x::l,j+1,h,hb=>by
   have a:=hb 0 om;rw[f1g]at a;rw[A7,iN om,iN om,f12,f19,f3d,<-au5 n l j (by simpa using h) λi hi=>by have:=hb (i+1) om;rwa [f1b]at this]
def Nu(n:Int)(l:LI):A7 n l≠[]:=by
 cases l with
 |nil=>simp[A7]
 |cons x l=>rw[A7];split;simp;split<;>simp
def Ep(c:Nat)(H:AH)(o:OE)(x:AV)(h:Option AObj)(H1:AH):clK c H o (some (x,h::H1))=o:=rfl
def Jo{f:FuncId}(b:A5 f=false)(E:CallF)(a:LQ)(c:Nat)(V:Opd->AV)(H:AH):Ke A5 E f a c V H=Bl E f (a.map V) c H (L0 H (H.length*4+40) (Cn (a.map V)) []):=by
 have h:=Dz b E a c V H [];unfold Ld at h;rw[iN (by simp[b])]at h;exact h
def En(tab:List (Nat×FT))(orc:CallF)(lk:FuncId->Bool)(a:lN)(N n0:Nat):(cx tab orc lk a N n0).n0=n0:=qq
def cc8(P:Nat->Prop):∀ n,(∃ i,i<n/\¬ P i)->∃ k,k<n/\¬ P k/\∀ i,i<k->P i
 |0,⟨_,h,_⟩=>absurd h (f4f _)
 |n+1,⟨i,hi,hp⟩=>by
   by_cases h:∃ i,i<n/\¬ P i
   ·have⟨k,c,a,h3⟩:=cc8 P n h;exact⟨k,by omega,a,h3⟩
   ·have:i=n:=by
     rcases f5u i n with a|a
     ·exact absurd ⟨i,a,hp⟩ h
     ·omega
    subst this;exact⟨i,by omega,hp,λj b=>ey8 λa=>h ⟨j,b,a⟩⟩
def es8(m:LI):((m.map cI).all λe=>decide (e.length=1))=true:=by
 rw[f35];intro e a;obtain⟨x,_,rfl⟩:=f62.1 a;rfl
def Fy(ev:Opd->AV)(H:AH)(s:Nat)(x:Opd)(l h:Option Opd):Be (.slicel s x l h) ev H=Z0 H s ev (ev x) l h:=qq
def a1o(n:Int):Ev tab A6 A5 325 [.emp,.N n] []=some (.own 0 1 0 1 1,[some [[.N n]]]):=by
 refine Bz b41 rfl ?_;simp(disch:=try exact dq)only[tx,seval,Xy];generalize b:Aj _ _ _=r;refine B6 b 0 (λ_=>_) (λ_=>_) (λ_=>True) rfl rfl trivial (λj a=>absurd a (f4f _)) ?_;intro _;simp(disch:=try exact dq)only[tx,seval]
def Hh(l:LI)(D:l≠[])(E:l.length<=100000)(n:Int) :
 Ev tab A6 A5 325 [.own 0 1 0 l.length l.length,.N n] [some (l.map cI)]=some (.own 0 1 0 (A7 n l).length (A7 n l).length,[some ((A7 n l).map cI)])\/
 Ev tab A6 A5 325 [.own 0 1 0 l.length l.length,.N n] [some (l.map cI)]=some (.own 1 1 0 (A7 n l).length (A7 n l).length,[some (l.map cI),some ((A7 n l).map cI)]):=by
 by_cases z:∃ j,j<l.length/\(∀ i,i<j->l.getD i df<n)/\n<l.getD j df
 ·obtain⟨k,s,b,u⟩:=z;refine .inr (Bz b41 rfl ?_);have o:A7 n l=l.take k++n::l.drop k:=by
   rw[au5 n l k om b,F7 s,A7,iN om,iP u]
  have d:(A7 n l).length=l.length+1:=by rw[o];simp;omega
  rw[d,o];simp(disch:=try exact dq)only[tx,seval,Xy];generalize v:Aj _ _ _=r;refine B6 v k (λj=>[.own 0 1 0 l.length l.length,.N n,U,.N j]) (λ_=>[some (l.map cI)]) (λ_=>True) ?_ ?_ trivial ?_ ?_
  ·rfl
  ·rfl
  ·intro j q _;have a:((j:Int)<(l.length:Int)):=om;have A:=b j q;have f:(l.map cI)[j]?=some [.N (l.getD j df)]:=Fc om cI;generalize l.getD j df=x at *;simp(disch:=try exact dq)only[tx,seval,a,f,Aq,f3z,f52];rfl
  ·intro _;have a:((k:Int)<(l.length:Int)):=om;have f:(l.map cI)[k]?=some [.N (l.getD k df)]:=Fc om cI;have w:List.take k (l.map cI)=(l.take k).map cI:=f5g.symm;have Bj:List.take (l.length-k) (List.drop k (l.map cI))=(l.drop k).map cI:=by
    rw[<-f5t,f0a (by simp)]
   have g:min k l.length=k:=om;have p:∀ m:LI,((m.map cI).all λe=>decide (e.length=1))=true:=es8;generalize l.getD k df=x at *;rcases f1o k with B|B
   ·subst B;simp(disch:=try exact dq)only[tx,seval,a,f,Aq,f3z,f3l,f52,Fy,Jp,Ju,Dy,C9,w,Bj,g,p,f38];simp only[Ax,f65 1];rfl
   ·have y:¬ k=0:=om;simp(disch:=try exact dq)only[tx,seval,a,y,f,Aq,f3z,f3l,f52,Fy,Jp,Ju,Dy,C9,w,Bj,g,p,f38];simp only[Ax,f4c,f5b,f2p,List.singleton_append,show k+1+(l.length-k)=l.length+1 by omega];rfl
 ·refine .inl (Bz b41 rfl ?_);by_cases c:∀ i,i<l.length->l.getD i df<n
  ·have o:A7 n l=l++[n]:=(by rw[au5 n l l.length (f6o _) c,f3n,f3m];rfl);have d:(A7 n l).length=l.length+1:=(by rw[o];simp);rw[d,o];simp(disch:=try exact dq)only[tx,seval,Xy];generalize v:Aj _ _ _=r;refine B6 v l.length (λj=>[.own 0 1 0 l.length l.length,.N n,U,.N j]) (λ_=>[some (l.map cI)]) (λ_=>True) ?_ ?_ trivial ?_ ?_
   ·rfl
   ·rfl
   ·intro j q _;have a:((j:Int)<(l.length:Int)):=om;have A:=c j q;have f:(l.map cI)[j]?=some [.N (l.getD j df)]:=Fc om cI;generalize l.getD j df=x at *;simp(disch:=try exact dq)only[tx,seval,a,f,Aq,f3z,f52];rfl
   ·intro _;simp(disch:=try exact dq)only[tx,seval,f5q,Aq,f3z,f52,Ax];rw[f4c];rfl
  ·obtain⟨k,s,u,b⟩:=cc8 (λi=>l.getD i df<n) l.length (by
    refine ey8 λh=>c λi hi=>ey8 λC=>h ⟨i,hi,C⟩)
   have t:l.getD k df=n:=by
    rcases f6h n (l.getD k df)with h|h
    ·exact absurd ⟨k,s,b,h⟩ z
    ·omega
   have o:A7 n l=l:=by
    rw[au5 n l k om b,F7 s,A7,iP t,<-F7 s,f0l]
   rw[o];simp(disch:=try exact dq)only[tx,seval,Xy];generalize v:Aj _ _ _=r;refine B6 v k (λj=>[.own 0 1 0 l.length l.length,.N n,U,.N j]) (λ_=>[some (l.map cI)]) (λ_=>True) ?_ ?_ trivial ?_ ?_
   ·rfl
   ·rfl
   ·intro j q _;have a:((j:Int)<(l.length:Int)):=om;have A:=b j q;have f:(l.map cI)[j]?=some [.N (l.getD j df)]:=Fc om cI;generalize l.getD j df=x at *;simp(disch:=try exact dq)only[tx,seval,a,f,Aq,f3z,f52];rfl
   ·intro _;have a:((k:Int)<(l.length:Int)):=om;have f:(l.map cI)[k]?=some [.N n]:=(by rw[Fc om cI,t];rfl);simp(disch:=try exact dq)only[tx,seval,a,f,Aq,f3z,f52,Ax]
def a2n(n:Int)(l:LI):(A7 n l).length<=l.length+1:=by
 induction l with
 |nil=>simp[A7]
 |cons x l a=>
   rw[A7];split
   ·simp
   ·split
    ·simp
    ·rw[f33,f33];omega
def e4s(e:LI)(r:Rn):(D4 e r).length<=e.length+2:=by
 have c:∀ (l:LI) (n:Int),(A7 n l).length<=l.length+1:=by
  intro l n
  induction l with
  |nil=>simp[A7]
  |cons x l g=>
    rw[A7];split
    ·simp
    ·split
     ·simp
     ·rw[f33,f33];omega
 have d:=c e r.a;have f:=c (A7 r.a e) r.b;unfold D4;omega
def Qg:∀ (l:LR) (e:LI),(l.foldl D4 e).length<=e.length+2*l.length
 |[],e=>by simp
 |r::l,e=>by
   have a:=Qg l (D4 e r);have b:=e4s e r;rw[f40,f33];omega
def a44{l:LR}{j:Nat}(a:j<l.length)(e:LI):(l.take (j+1)).foldl D4 e=D4 ((l.take j).foldl D4 e) (l.getD j df):=by
 rw[Et a,f2y];rfl
def ej6(l m:Sl Rn)(P:(els l).length+(els m).length<=10000)(H:AH):K tab A6 A5 279 [A4 A8 l,A4 A8 m] H=some (if Ga (els l) (els m)=[]then .emp else .fz ((Ga (els l) (els m)).map λn=>[.N n]),H):=by
 refine Ae c3w rfl (by simp[Aa,Ab,Ai]) (by split<;>rfl) ?_ H;simp(disch:=try exact dq)only[tx,seval,a3g];generalize O:Aj _ _ _=r;have L:Ga (els l) (els m)=(els m).foldl D4 ((els l).foldl D4 []):=by unfold Ga;rw[f2y]
 refine B6 O (els l).length
  (λj=>[A4 A8 l,A4 A8 m,U,iV 0 (((els l).take j).foldl D4 []),.N j,U])
  (λj=>iH (((els l).take j).foldl D4 [])) (λ_=>True) ?_ ?_ trivial ?_ ?_
 ·rfl
 ·rfl
 ·intro j D _;have d:((j:Int)<((els l).length:Int)):=om;have s:=Qg ((els l).take j) [];rw[f3l,f3w]at s;rw[a44 D];generalize ((els l).take j).foldl D4 []=o at *;generalize q:(els l).getD j df=x at *;unfold D4;have t:=Nu x.b (A7 x.a o);have g:=Nu x.a o;have I:iV 0 (A7 x.b (A7 x.a o))=.own 0 1 0 (A7 x.b (A7 x.a o)).length (A7 x.b (A7 x.a o)).length:=iN t;have J:iH (A7 x.b (A7 x.a o))=[some ((A7 x.b (A7 x.a o)).map cI)]:=iN t;rw[I,J];have M:∀ (n:Int) (e:LI),(A7 n e).length<=e.length+1:=a2n;have w:=M x.a o;have k:=Dz (f:=325) rfl;have p:=Jo (f:=325) rfl;by_cases i:o=[]
  ·subst i;have C:A7 x.a []=[x.a]:=rfl;rw[C]at *;rw[show iV 0 []=.emp from rfl,show iH []=[]from rfl];have h:=a1o x.a;rcases Hh [x.a] (by simp) (by simp) x.b with c|c
   ·simp only[f0n,f5b,f5x,cI]at c;simp(disch:=try exact dq)only[tx,seval,KQ 325 rfl,Am,k,p,En,Ep,Bl,Bo,h,c,d,q,Ad,A8,f52,Aq,Ax,f3t,f37,f41,f42];rfl
   ·simp only[f0n,f5b,f5x,cI]at c;simp(disch:=try exact dq)only[tx,seval,KQ 325 rfl,Am,k,p,En,Ep,Bl,Bo,h,c,d,q,Ad,A8,f52,Aq,Ax,f3t,f37,f41,f42];rfl
  ·have u:iV 0 o=.own 0 1 0 o.length o.length:=iN i;have v:iH o=[some (o.map cI)]:=iN i;rw[u,v];rcases Hh o i om x.a with h|h
   ·rcases Hh (A7 x.a o) g om x.b with c|c
    ·simp(disch:=try exact dq)only[tx,seval,KQ 325 rfl,Am,k,p,En,Ep,Bl,Bo,h,c,d,q,Ad,A8,f52,Aq,Ax,f3t,f37,f41,f42];rfl
    ·simp(disch:=try exact dq)only[tx,seval,KQ 325 rfl,Am,k,p,En,Ep,Bl,Bo,h,c,d,q,Ad,A8,f52,Aq,Ax,f3t,f37,f41,f42];rfl
   ·rcases Hh (A7 x.a o) g om x.b with c|c
    ·simp(disch:=try exact dq)only[tx,seval,KQ 325 rfl,Am,k,p,En,Ep,Bl,Bo,h,c,d,q,Ad,A8,f52,Aq,Ax,f3t,f37,f41,f42];rfl
    ·simp(disch:=try exact dq)only[tx,seval,KQ 325 rfl,Am,k,p,En,Ep,Bl,Bo,h,c,d,q,Ad,A8,f52,Aq,Ax,f3t,f37,f41,f42];rfl
 ·intro _;rw[f3m];have z:=Qg (els l) [];rw[f3w]at z;rw[L];generalize (els l).foldl D4 []=E at *;by_cases y:E=[]
  ·subst y;rw[show iV 0 []=.emp from rfl,show iH []=[]from rfl];simp(disch:=try exact dq)only[tx,seval,f5q];generalize B:Aj _ _ _=c;refine B6 B (els m).length
    (λj=>[U,A4 A8 m,U,iV 0 (((els m).take j).foldl D4 ([]:LI)),U,.N j])
    (λj=>iH (((els m).take j).foldl D4 ([]:LI))) (λ_=>True) ?_ ?_ trivial ?_ ?_
   ·rfl
   ·rfl
   ·intro j D _;have d:((j:Int)<((els m).length:Int)):=om;have s:=Qg ((els m).take j) ([]:LI);rw[f3l]at s;rw[a44 D];generalize ((els m).take j).foldl D4 ([]:LI)=o at *;generalize q:(els m).getD j df=x at *;unfold D4;have t:=Nu x.b (A7 x.a o);have g:=Nu x.a o;have I:iV 0 (A7 x.b (A7 x.a o))=.own 0 1 0 (A7 x.b (A7 x.a o)).length (A7 x.b (A7 x.a o)).length:=iN t;have J:iH (A7 x.b (A7 x.a o))=[some ((A7 x.b (A7 x.a o)).map cI)]:=iN t;rw[I,J];have w:=a2n x.a o;have k:=Dz (f:=325) rfl;have p:=Jo (f:=325) rfl;by_cases i:o=[]
    ·subst i;have C:A7 x.a []=[x.a]:=rfl;rw[C]at *;rw[show iV 0 []=.emp from rfl,show iH []=[]from rfl];have h:=a1o x.a;rcases Hh [x.a] (by simp) (by simp) x.b with c|c
     ·simp only[f0n,f5b,f5x,cI]at c;simp(disch:=try exact dq)only[tx,seval,KQ 325 rfl,Am,k,p,En,Ep,Bl,Bo,h,c,d,q,Ad,A8,f52,Aq,Ax,f3t,f37,f41,f42];rfl
     ·simp only[f0n,f5b,f5x,cI]at c;simp(disch:=try exact dq)only[tx,seval,KQ 325 rfl,Am,k,p,En,Ep,Bl,Bo,h,c,d,q,Ad,A8,f52,Aq,Ax,f3t,f37,f41,f42];rfl
    ·have u:iV 0 o=.own 0 1 0 o.length o.length:=iN i;have v:iH o=[some (o.map cI)]:=iN i;rw[u,v];rcases Hh o i om x.a with h|h
     ·rcases Hh (A7 x.a o) g om x.b with c|c
      ·simp(disch:=try exact dq)only[tx,seval,KQ 325 rfl,Am,k,p,En,Ep,Bl,Bo,h,c,d,q,Ad,A8,f52,Aq,Ax,f3t,f37,f41,f42];rfl
      ·simp(disch:=try exact dq)only[tx,seval,KQ 325 rfl,Am,k,p,En,Ep,Bl,Bo,h,c,d,q,Ad,A8,f52,Aq,Ax,f3t,f37,f41,f42];rfl
     ·rcases Hh (A7 x.a o) g om x.b with c|c
      ·simp(disch:=try exact dq)only[tx,seval,KQ 325 rfl,Am,k,p,En,Ep,Bl,Bo,h,c,d,q,Ad,A8,f52,Aq,Ax,f3t,f37,f41,f42];rfl
      ·simp(disch:=try exact dq)only[tx,seval,KQ 325 rfl,Am,k,p,En,Ep,Bl,Bo,h,c,d,q,Ad,A8,f52,Aq,Ax,f3t,f37,f41,f42];rfl
   ·intro _;rw[f3m];have A:=Qg (els m) ([]:LI);generalize (els m).foldl D4 ([]:LI)=o at *;by_cases i:o=[]
    ·subst i;rw[show iV 0 []=.emp from rfl,show iH []=[]from rfl];simp(disch:=try exact dq)only[tx,seval,f5q]
    ·have u:iV 0 o=.own 0 1 0 o.length o.length:=iN i;have v:iH o=[some (o.map cI)]:=iN i;rw[u,v];simp(disch:=try exact dq)only[tx,seval,f5q,i,Aq,Ax,Lk,Jj,f3z]
  ·have F:iV 0 E=.own 0 1 0 E.length E.length:=iN y;have G:iH E=[some (E.map cI)]:=iN y;rw[F,G];simp(disch:=try exact dq)only[tx,seval,f5q,Aq];generalize B:Aj _ _ _=c;refine B6 B (els m).length
    (λj=>[U,A4 A8 m,U,iV 0 (((els m).take j).foldl D4 E),U,.N j])
    (λj=>iH (((els m).take j).foldl D4 E)) (λ_=>True) ?_ ?_ trivial ?_ ?_
   ·rw[f4u,f59,F];rfl
   ·rw[f4u,f59,G]
   ·intro j D _;have d:((j:Int)<((els m).length:Int)):=om;have s:=Qg ((els m).take j) E;rw[f3l]at s;rw[a44 D];generalize ((els m).take j).foldl D4 E=o at *;generalize q:(els m).getD j df=x at *;unfold D4;have t:=Nu x.b (A7 x.a o);have g:=Nu x.a o;have I:iV 0 (A7 x.b (A7 x.a o))=.own 0 1 0 (A7 x.b (A7 x.a o)).length (A7 x.b (A7 x.a o)).length:=iN t;have J:iH (A7 x.b (A7 x.a o))=[some ((A7 x.b (A7 x.a o)).map cI)]:=iN t;rw[I,J];have w:=a2n x.a o;have k:=Dz (f:=325) rfl;have p:=Jo (f:=325) rfl;by_cases i:o=[]
    ·subst i;have C:A7 x.a []=[x.a]:=rfl;rw[C]at *;rw[show iV 0 []=.emp from rfl,show iH []=[]from rfl];have h:=a1o x.a;rcases Hh [x.a] (by simp) (by simp) x.b with c|c
     ·simp only[f0n,f5b,f5x,cI]at c;simp(disch:=try exact dq)only[tx,seval,KQ 325 rfl,Am,k,p,En,Ep,Bl,Bo,h,c,d,q,Ad,A8,f52,Aq,Ax,f3t,f37,f41,f42];rfl
     ·simp only[f0n,f5b,f5x,cI]at c;simp(disch:=try exact dq)only[tx,seval,KQ 325 rfl,Am,k,p,En,Ep,Bl,Bo,h,c,d,q,Ad,A8,f52,Aq,Ax,f3t,f37,f41,f42];rfl
    ·have u:iV 0 o=.own 0 1 0 o.length o.length:=iN i;have v:iH o=[some (o.map cI)]:=iN i;rw[u,v];rcases Hh o i om x.a with h|h
     ·rcases Hh (A7 x.a o) g om x.b with c|c
      ·simp(disch:=try exact dq)only[tx,seval,KQ 325 rfl,Am,k,p,En,Ep,Bl,Bo,h,c,d,q,Ad,A8,f52,Aq,Ax,f3t,f37,f41,f42];rfl
      ·simp(disch:=try exact dq)only[tx,seval,KQ 325 rfl,Am,k,p,En,Ep,Bl,Bo,h,c,d,q,Ad,A8,f52,Aq,Ax,f3t,f37,f41,f42];rfl
     ·rcases Hh (A7 x.a o) g om x.b with c|c
      ·simp(disch:=try exact dq)only[tx,seval,KQ 325 rfl,Am,k,p,En,Ep,Bl,Bo,h,c,d,q,Ad,A8,f52,Aq,Ax,f3t,f37,f41,f42];rfl
      ·simp(disch:=try exact dq)only[tx,seval,KQ 325 rfl,Am,k,p,En,Ep,Bl,Bo,h,c,d,q,Ad,A8,f52,Aq,Ax,f3t,f37,f41,f42];rfl
   ·intro _;rw[f3m];have A:=Qg (els m) E;generalize (els m).foldl D4 E=o at *;by_cases i:o=[]
    ·subst i;rw[show iV 0 []=.emp from rfl,show iH []=[]from rfl];simp(disch:=try exact dq)only[tx,seval,f5q]
    ·have u:iV 0 o=.own 0 1 0 o.length o.length:=iN i;have v:iH o=[some (o.map cI)]:=iN i;rw[u,v];simp(disch:=try exact dq)only[tx,seval,f5q,i,Aq,Ax,Lk,Jj,f3z]
def b2t(k:Int)(so:Bool->Bool->Bool)(T:(k=0/\so=λa b=>a||b)\/(k=1/\so=λa b=>a&&!b)\/(k=2/\so=λa b=>a&&b))(l m:Sl Rn)(V:(els l).length+(els m).length<=10000)(H:AH) :
 K tab A6 A5 227 [A4 A8 l,A4 A8 m,.N k] H=some (A4 A8 (some (M8 so (els l) (els m))),H):=by
 refine Ae c3z rfl (by simp[Aa,Ab,Ai]) (Ai _ _) ?_ H;have A:=ej6 l m V;have P:(Ga (els l) (els m)).length<=20000:=by
  rw[<-ah9];have O:=Uu (Dg (G9 (els l++els m))) _ (f6o _);rw[f3m,Pw,ah6,f1q]at O;omega
 rw[ar9];generalize X:Ga (els l) (els m)=E at *;by_cases h:E=[]
 ·rw[iP h]at A;subst h;simp(disch:=try exact dq)only[tx,seval,a0e,A];generalize J:Aj _ _ _=r;refine Vl (Q:=λr=>E5 _ _ _ (Bm _ _ (Bi _ r))=_) J ?_;simp(disch:=try exact dq)only[tx,seval];rfl
 ·rw[iN h]at A;simp(disch:=try exact dq)only[tx,seval,a0e,A];generalize J:Aj _ _ _=r;refine B6 J (E.length-1)
   (λj=>[A4 A8 l,A4 A8 m,.N k,U,.fz (E.map λn=>[.N n]),.own 0 2 0 (Ha so (els l) (els m) E j).length (Ha so (els l) (els m) E j).length,.N j,U,U,U,U,U])
   (λj=>[some ((Ha so (els l) (els m) E j).map Cv)]) (λj=>True) ?_ ?_ trivial ?_ ?_
  ·rfl
  ·rfl
  ·intro j Y _;have g:((j:Int)+1<(E.length:Int)):=om;have F:((j:Int)+1).toNat=j+1:=om;have D:(j:Int).toNat=j:=om;have e:=a7i l om (E.getD j 0);have f:=a7i m om (E.getD j 0);have z:∀ i,E.getD i df=E.getD i 0:=λ_=>rfl;have W:=a6v so (els l) (els m) E j;rw[Ha];generalize B:E.getD j 0=x at *;generalize C:E.getD (j+1) 0=y at *;generalize Ha so (els l) (els m) E j=o at *;cases R:hasR (els l) x<;>cases S:hasR (els m) x<;>rw[R]at e<;>rw[S]at f
   all_goals
    rcases T with ⟨rfl,rfl⟩|⟨rfl,rfl⟩|⟨rfl,rfl⟩
    all_goals
     simp only[f5n,f6d,f5o,f6e,f4w,f5f,f4x,f5e,f5d,f4s,if_true,f1k,if_false]
   all_goals first
    |(simp(disch:=try exact dq)only[tx,seval,e,f,g,F,D,z,B,C,B0,f3z,f52,G7]
      rfl)
    |skip
   all_goals
    by_cases I:o=[]
    ·subst I;rw[show Da [] (⟨x,y⟩:Rn)=[⟨x,y⟩]from rfl];simp(disch:=try exact dq)only[tx,seval,e,f,g,F,D,z,B,C,B0,f3z,f5x,f3w,f52,G7]
     (try first|done|rfl|exact⟨rfl,rfl⟩|exact⟨rfl,rfl,rfl⟩)
    ·obtain⟨d,q,rfl⟩:∃ d q,o=d++[q]:=⟨o.dropLast,o.getLast I,(ex4 I).symm⟩;have Z:0<(d++[q]).length:=(by simp);have L:((d++[q]).map Cv)[(d++[q]).length-1]?=some [.N q.a,.N q.b]:=(by simp[Cv]);have M:((d++[q]).map Cv).set ((d++[q]).length-1) [.N q.a,.N y]=(d++[(⟨q.a,y⟩:Rn)]).map Cv:=(by simp[Cv]);have s:(d++[q]).map Cv++[[.N x,.N y]]=(d++[q,⟨x,y⟩]).map Cv:=(by simp[Cv]);have u:(d++[(⟨q.a,y⟩:Rn)]).length=(d++[q]).length:=(by simp);have v:(d++[q,⟨x,y⟩]).length=(d++[q]).length+1:=(by simp);rw[ai9];have w:(((d++[q]).length:Int)-1).toNat=(d++[q]).length-1:=om;generalize p:(d++[q]).length=n at *;by_cases c:q.b=x
     ·have t:=L;rw[c]at t;rw[iP c];simp(disch:=try exact dq)only[tx,seval,e,f,g,F,D,z,B,C,B0,f3z,f52,G7,p,t,M,s,u,v,w];rfl
     ·rw[iN c];simp(disch:=try exact dq)only[tx,seval,e,f,g,F,D,z,B,C,B0,f3z,f52,G7,p,L,M,s,u,v,w,c];rfl
  ·intro _;generalize Ha so (els l) (els m) E (E.length-1)=o at *;have G:¬ (((E.length-1:Nat):Int)+1<(E.length:Int)):=om;simp(disch:=try exact dq)only[tx,seval,G,f52,f3z,G7,H7,a5n,ag2]
def aj6(l m:Sl Rn)(c:(els l).length+(els m).length<=10000)(H:AH):K tab A6 A5 202 [A4 A8 l,A4 A8 m] H=some (A4 A8 (some (Dk (els l) (els m))),H):=by
 refine Ae c40 rfl (by simp[Aa,Ab,Ai]) (Ai _ _) ?_ H;have h:=b2t 0 (λa b=>a||b) (.inl ⟨rfl,rfl⟩) l m c;simp(disch:=try exact dq)only[tx,seval,a3n,h];rfl
def at9(l m:Sl Rn)(c:(els l).length+(els m).length<=10000)(H:AH):K tab A6 A5 201 [A4 A8 l,A4 A8 m] H=some (A4 A8 (some (Br (els l) (els m))),H):=by
 refine Ae e2f rfl (by simp[Aa,Ab,Ai]) (Ai _ _) ?_ H;have h:=b2t 1 (λa b=>a&&!b) (.inr (.inl ⟨rfl,rfl⟩)) l m c;simp(disch:=try exact dq)only[tx,seval,ab7,h];rfl
def b6h(l m:Sl Rn)(c:(els l).length+(els m).length<=10000)(H:AH):K tab A6 A5 158 [A4 A8 l,A4 A8 m] H=some (A4 A8 (some (K5 (els l) (els m))),H):=by
 refine Ae e3f rfl (by simp[Aa,Ab,Ai]) (Ai _ _) ?_ H;have h:=b2t 2 (λa b=>a&&b) (.inr (.inr ⟨rfl,rfl⟩)) l m c;simp(disch:=try exact dq)only[tx,seval,ad8,h];rfl
def a5g(n:Int)(f:0<n)(o:n<=100000)(l:Sl Rn)(i:(els l).length<=1000000)(H:AH):K tab A6 A5 157 [.N n,A4 A8 l] H=some (.bool (Es n (els l)),H):=by
 refine Ae e3g rfl (by simp[Aa,Ab,Ai]) rfl ?_ H;have h:=c2h l i;unfold Es;by_cases c:Gu (els l)=true
 ·rw[c]at h;rw[d55 f c,c];by_cases b:els l=[]
  ·have a:((els l).length:Int)=0:=(by rw[b];rfl);simp(disch:=try exact dq)only[tx,seval,a0k,h,a,f52];rw[b];rfl
  ·have p:0<(els l).length:=f1d.2 b;have a:¬ ((els l).length:Int)=0:=om;have k:(((els l).length:Int)-1).toNat=(els l).length-1:=om;have d:(els l).headD df=(els l).getD 0 df:=by
    cases g:els l with
    |nil=>exact absurd g b
    |cons x m=>rfl
   have e:(els l).getLastD df=(els l).getD ((els l).length-1) df:=by
    rw[ex9,List.getLastD_eq_getLast?,ez1]
   rw[d,e];have j:(0:Int)<(els l).length:=om;simp(disch:=try exact dq)only[tx,seval,a0k,h,a,k,Ad,A8,f52,f5a];simp[b]
 ·rw[f3p]at c;rw[c]at h;simp(disch:=try exact dq)only[tx,seval,a0k,h,f52];rw[c];rfl
def ao9(l m:Sl Rn)(t:(els l).length<=1000000)(u:(els m).length<=1000000)(H:AH):K tab A6 A5 94 [A4 A8 l,A4 A8 m] H=some (.bool (decide (els l=els m)),H):=by
 refine Ae l94 rfl (by simp[Aa,Ab,Ai]) rfl ?_ H;by_cases c:((els l).length:Int)=(els m).length
 ·simp(disch:=try exact dq)only[tx,seval,g94,c];generalize p:Aj _ _ _=r;refine B6 p (els l).length (λj=>[A4 A8 l,A4 A8 m,U,.N j])
   (λj=>[]) (λj=>(els l).take j=(els m).take j) ?_ ?_ ?_ ?_ ?_
  ·rfl
  ·rfl
  ·rfl
  ·intro j o hI;have g:((j:Int)<((els l).length:Int)):=om;have i:((j:Int)<((els m).length:Int)):=om;rw[Et o,Et (show j<(els m).length by omega),hI];have d:(els l).getD j df≠(els m).getD j df->els l≠els m:=λh e=>h (by rw[e]);generalize q:(els l).getD j df=x at *;generalize s:(els m).getD j df=y at *;simp(disch:=try exact dq)only[tx,seval,g,i,Ad,A8,f52,q,s];by_cases f:x=y
   ·subst f;refine⟨λh=>absurd h (by simp),λ_=>⟨rfl,rfl⟩⟩
   ·have k:¬ (x.a=y.a/\x.b=y.b):=λh=>f (by cases x;cases y;simp only[Rn.mk.injEq];exact h);have n:=d f;refine⟨λ_=>by simp[n],λh=>(h ?_).elim⟩;rw[f2o,f2s];intro h3;simp only[f32,f2f]at h3;exact k h3
  ·intro hI;rw[f3m,f0a om]at hI;simp(disch:=try exact dq)only[tx,seval,f5q,c];simp[hI]
 ·simp(disch:=try exact dq)only[tx,seval,g94,c];have d:¬ els l=els m:=λe=>c (by rw[e]);simp[d]
def ar1(n:Int)(G:-100000<=n)(z:n<=100000)(l:Sl Rn)(J:(els l).length<=9000)(H:AH):K tab A6 A5 99 [.N n,A4 A8 l] H=some (.str (Mz n (els l)),H):=by
 refine Ae l99 rfl (by simp[Aa,Ab,Ai]) rfl ?_ H;have d:=λH=>c2l (orc:=A6) (lk:=A5) n H;unfold Mz;by_cases c:Ek n=true
 ·have e:40<=n/\n<=240:=by unfold Ek at c;simpa using c
  have c1':Ic n=true:=c;have h:=a5g n om z l om;rw[c]at d;cases v:Es n (els l)with
  |false=>
    rw[v]at h;simp(disch:=try exact dq)only[tx,seval,Mc,d,h,f52]
  |true=>
    rw[v]at h;have B:(n+7).tdiv 8=(n+7)/8:=ey2 om;have q:(if Ic n=true/\true=true then Yj n.toNat λi=>hasR (els l) (14+↑i)else [])=Gq (λi=>hasR (els l) (14+↑i)) ((n+7)/8).toNat n.toNat:=by
     rw[iP ⟨c1',rfl⟩,<-cr6,show((n+7)/8).toNat=(n.toNat+7)/8 by omega]
    rw[q];generalize u:(λi:Nat=>hasR (els l) (14+(i:Int)))=so;have f:∀ (j:Nat) (H:AH),K tab A6 A5 159 [A4 A8 l,.N (14+(j:Int))] H=some (.bool (so j),H):=λj H=>by
     rw[a7i l om,<-u]
    have L:(n+7)/8=(((n+7)/8).toNat:Int):=om;have x:n.toNat<=8*((n+7)/8).toNat:=om;have y:((n+7)/8).toNat<=1000:=om;simp(disch:=try exact dq)only[tx,seval,Mc,d,h,f52,Z9,B];generalize ((n+7)/8).toNat=m at *;generalize A:Aj _ _ _=r;refine B6 A n.toNat
     (λj=>[.N n,A4 A8 l,U,.own 0 1 0 m m,.N j,U])
     (λj=>[some ((Gq so m j).map cB)]) (λ_=>True) ?_ ?_ trivial ?_ ?_
    ·rfl
    ·rw[cr2]
    ·intro j I _;have g:((j:Int)<n):=om;have C:(j:Int).tdiv 8=((j/8:Nat):Int):=(f56 j 8).symm;have D:(j:Int).tmod 8=((j%8:Nat):Int):=(f58 j 8).symm;have E:((j/8:Nat):Int).toNat=j/8:=f2v _;have F:((j%8:Nat):Int).toNat=j%8:=f2v _;have a:=az1 so m j;have s:j/8<m:=om;have k:=f j;cases e:so j with
     |false=>
       rw[e]at k;rw[cr4 so m j e];generalize Gq so m j=b at *;simp(disch:=try exact dq)only[tx,seval,g,k,f52,Sg];rfl
     |true=>
       rw[e]at k;have t:=cq5 so j;have w:((Gq so m j).map cB)[j/8]?=some [.int .u8 (UInt8.ofNat (Ho so j (j/8))).toNat]:=by
        rw[Fc om cB,cr5 so m j _ s];rfl
       rw[cr3 so m j e];generalize Gq so m j=b at *;simp(disch:=try exact dq)only[tx,seval,g,k,f52,Sg,C,D,E,F,w,a,t,f3z];exact⟨rfl,by rw[f6i];rfl⟩
    ·intro _;have a:=az1 so m n.toNat;have o:=a4s (Gq so m n.toNat);generalize Gq so m n.toNat=b at *;have p:List.take m (List.map cB b)=List.map cB b:=(by rw[<-a];exact Gf b cB);simp(disch:=try exact dq)only[tx,seval,o,p,a,Sg,f3z,show ¬ ((n.toNat:Int)<n) by omega]
 ·have c1':¬ Ic n=true:=c;rw[f3p]at c;rw[c]at d;simp(disch:=try exact dq)only[tx,seval,Mc,d,f52];simp[c1']
def c2f(s:Space)(p:SpOk s)(n:Int)(o:n<=100000)(H:AH):K tab A6 A5 98 [.N n,.agg [A4 A8 s.held,A4 A8 s.one,A4 A8 s.two,A4 A8 s.kept]] H=some (.bool (Ct n s.n),H):=by
 refine Ae l98 rfl (by simp[Aa,Ab,Ai]) rfl ?_ H;have d:=λH=>c2l (orc:=A6) (lk:=A5) n H;have v:=p.held;have w:=p.one;have l3:=p.two;have l4:=p.kept;cases f:Ek n with
 |false=>
   rw[f]at d;have c1':Ic n=false:=f;simp(disch:=try exact dq)only[tx,seval,Ug,d];rw[show Ct n s.n=false by simp only[Ct,c1',f4x]]
 |true=>
   rw[f]at d;have c1':Ic n=true:=f;have u:40<=n/\n<=240:=(by unfold Ek at f;simpa using f);have e:=a5g n om o s.held om;have g:=a5g n om o s.one om;have i:=a5g n om o s.two om;have w4:=a5g n om o s.kept om;cases j:Es n (els s.held)with
   |false=>
     rw[j]at e;simp(disch:=try exact dq)only[tx,seval,Ug,d,e];rw[show Ct n s.n=false by simp only[Ct,Space.n,j,f4x,f4w]]
   |true=>
     rw[j]at e;cases k:Es n (els s.one)with
     |false=>
       rw[k]at g;simp(disch:=try exact dq)only[tx,seval,Ug,d,e,g];rw[show Ct n s.n=false by simp only[Ct,Space.n,k,f4x,f4w]]
     |true=>
       rw[k]at g;cases l:Es n (els s.two)with
       |false=>
         rw[l]at i;simp(disch:=try exact dq)only[tx,seval,Ug,d,e,g,i];rw[show Ct n s.n=false by simp only[Ct,Space.n,l,f4x,f4w]]
       |true=>
         rw[l]at i;cases m:Es n (els s.kept)with
         |false=>
           rw[m]at w4;simp(disch:=try exact dq)only[tx,seval,Ug,d,e,g,i,w4];rw[show Ct n s.n=false by simp only[Ct,Space.n,m,f4x,f4w]]
         |true=>
           rw[m]at w4;have q:=b6h s.held s.one om;have b2:=b6h s.held s.two om;have r:=b6h s.one s.two om;have t:Ct n s.n=(decide (K5 (els s.held) (els s.one)=[])&&decide (K5 (els s.held) (els s.two)=[])&&decide (K5 (els s.one) (els s.two)=[])):=by
            rw[f4d];simp[Ct,Space.n,j,k,l,m,c1',eq1];constructor
            ·rintro⟨a,b,c⟩;exact⟨⟨f2w a,b⟩,c⟩
            ·rintro⟨⟨a,b⟩,c⟩;exact⟨f51 a,b,c⟩
           rw[t];have ln:∀ x:LR,((x.length:Int)=0)=(x=[]):=λx=>propext ⟨λh=>ez8.1 om,λh=>by rw[h];rfl⟩;simp(disch:=try exact dq)only[tx,seval,Ug,d,e,g,i,w4,q,b2,r]
           congr 2
           rw[f4d];simp only[f32,f2f,ln]
def b54(n:Int)(s:Space):Sl Rn:=if Ct n s.n=true then some (Gk n s.n)else none
def eh0(s:Space)(d:SpOk s)(n:Int)(l:-100000<=n)(g:n<=100000)(H:AH):K tab A6 A5 124 [.N n,.agg [A4 A8 s.held,A4 A8 s.one,A4 A8 s.two,A4 A8 s.kept]] H=some (A4 A8 (b54 n s),H):=by
 refine Ae e3o rfl (by simp[Aa,Ab,Ai]) (Ai _ _) ?_ H;have e:=c2f s d n g;have m:=d.held;have o:=d.one;have l3:=d.two;have l4:=d.kept;unfold b54;cases c:Ct n s.n with
 |false=>
   rw[c]at e;simp(disch:=try exact dq)only[tx,seval,a3y,e]
   try rfl
 |true=>
   rw[c]at e;have a1:=aj6 s.held s.one om;have a2:=aj6 s.two s.kept om;have p:=S3 (λa b=>a||b) (els s.held) (els s.one);have q:=S3 (λa b=>a||b) (els s.two) (els s.kept);have r:=S3 (λa b=>a||b) (Dk (els s.held) (els s.one)) (Dk (els s.two) (els s.kept));have i:(Dk (els s.held) (els s.one)).length<=2000:=(by unfold Dk;omega);have j:(Dk (els s.two) (els s.kept)).length<=2000:=(by unfold Dk;omega);have k:(Dk (Dk (els s.held) (els s.one)) (Dk (els s.two) (els s.kept))).length<=8000:=by
    show(M8 (λa b=>a||b) (Dk (els s.held) (els s.one)) (Dk (els s.two) (els s.kept))).length<=8000;omega
   have a3:=aj6 (some (Dk (els s.held) (els s.one))) (some (Dk (els s.two) (els s.kept))) (by rw[Az,Az];omega);rw[Az,Az]at a3;have a4:=at9 (some (Dq n)) (some (Dk (Dk (els s.held) (els s.one)) (Dk (els s.two) (els s.kept)))) (by rw[Az,Az];show 1+_<=10000;omega);rw[Az,Az]at a4;have f:Gk n s.n=Br (Dq n) (Dk (Dk (els s.held) (els s.one)) (Dk (els s.two) (els s.kept))):=eg9 c;rw[f];rw[B5]at a1 a2;rw[B5,B5]at a3;rw[B5,B5]at a4;have h:(Dq n).map A8=[[.N 14,.N (14+n)]]:=rfl;rw[h]at a4;simp(disch:=try exact dq)only[tx,seval,a3y,e,a1,a2,a3,a4,f52]
def d8a(a b:Space)(c:SpOk a)(d:SpOk b)(H:AH):K tab A6 A5 44 [.agg [A4 A8 a.held,A4 A8 a.one,A4 A8 a.two,A4 A8 a.kept],.agg [A4 A8 b.held,A4 A8 b.one,A4 A8 b.two,A4 A8 b.kept]] H=some (.bool (decide (a.n=b.n)),H):=by
 refine Ae l44 rfl (by simp[Aa,Ab,Ai]) rfl ?_ H;have e:=ao9 a.held b.held (by have:=c.held;omega) (by have:=d.held;omega);have f:=ao9 a.one b.one (by have:=c.one;omega) (by have:=d.one;omega);have g:=ao9 a.two b.two (by have:=c.two;omega) (by have:=d.two;omega);have h:=ao9 a.kept b.kept (by have:=c.kept;omega) (by have:=d.kept;omega);simp(disch:=try exact dq)only[tx,seval,g44,e,f,g,h]
 congr 2
 rw[f4d];simp only[f32,f2f,Space.n,SpaceL.mk.injEq,and_assoc]
def b15(s:Space)(a:Sl Rn):Space:=⟨some (Dk (els a) []),some (Br (els s.held) (els a)),some (Br (Br (els s.one) (els a)) (Br (els s.held) (els a))),some (Dk (els s.kept) [])⟩
def d61(s:Space)(d:SpOk s)(c:Sl Rn)(e:(els c).length<=500)(H:AH):K tab A6 A5 125 [.agg [A4 A8 s.held,A4 A8 s.one,A4 A8 s.two,A4 A8 s.kept],A4 A8 c] H=some (.agg (V3 (b15 s c)),H):=by
 refine Ae e3n rfl (by simp[Aa,Ab,Ai]) (by simp[V3,Aa,Ab,Ai]) ?_ H;have f:=d.held;have g:=d.one;have l4:=d.kept;have a1:=at9 s.held c om;have a2:=at9 s.one c om;have h:=S3 (λa b=>a&&!b) (els s.held) (els c);have i:=S3 (λa b=>a&&!b) (els s.one) (els c);have a3:=at9 (some (Br (els s.one) (els c))) (some (Br (els s.held) (els c))) (by rw[Az,Az];unfold Br;omega);rw[Az,Az]at a3;have a4:=aj6 c none (by rw[a4h];simp;omega);have a5:=aj6 s.kept none (by rw[a4h];simp;omega);rw[a4h,Er]at a4 a5;rw[B5]at a1 a2;rw[B5,B5]at a3;simp(disch:=try exact dq)only[tx,seval,ae2,a1,a2,a3,a4,a5];rfl
def at0(l:Sl Ptr)(k:(els l).length<=1000000)(H:AH):K tab A6 A5 97 [A4 Al l] H=some (.bool ((els l).all C4),H):=by
 refine Ae l97 rfl (by simp[Aa,Ab,Ai]) rfl ?_ H;simp(disch:=try exact dq)only[tx,seval,g97];generalize i:Aj _ _ _=r;refine B6 i (els l).length (λj=>[A4 Al l,U,.N j])
  (λj=>[]) (λj=>(els l).all C4=((els l).drop j).all C4) ?_ ?_ ?_ ?_ ?_
 ·rfl
 ·rfl
 ·rfl
 ·intro j h hI;have e:((j:Int)<((els l).length:Int)):=om;rw[F7 h,f5k]at hI;have f:=b3r (orc:=A6) ((els l).getD j df).addr ((els l).getD j df).birth ((els l).getD j df).sum.a ((els l).getD j df).sum.b ((els l).getD j df).sum.c ((els l).getD j df).sum.d;rw[Vb]at f;generalize g:(els l).getD j df=x at *;cases c:C4 x with
  |false=>
    rw[c]at f;rw[hI,c];simp(disch:=try exact dq)only[tx,seval,e,Ad,Al,g,f,f52]
  |true=>
    rw[c]at f;simp(disch:=try exact dq)only[tx,seval,e,Ad,Al,g,f,f52];exact⟨rfl,by rw[hI,c,f5e]⟩
 ·intro hI;rw[f3n]at hI;simp(disch:=try exact dq)only[tx,seval,f5q];rw[hI];rfl
def Gp(E:CallF)(a:LQ)(c:Nat)(V:Opd->AV)(H:AH)(b:LA):Ld A5 E 61 a c V H b false=W8 (Ke A5 E 61 a c V H) (Gy H b) c H (E 61 (B9 H b) []):=a4q rfl _ _ _ _ _ _
def d5h(r sz o l t:Nat)(H:AH):K tab A6 A5 97 [.own r sz o l t] H=Gr tab A6 A5 97 [.own r sz o l t] H (Aa (B9 H [.own r sz o l t])) (K tab A6 A5 97 (B9 H [.own r sz o l t]) H):=Hy _ _ _ rfl _ _
def da7(a b c:Int)(H:AH):K tab A6 A5 49 [.str [49,49,49],.fz [[.N a],[.N b],[.N c]]] H=some (.str (Ba [1,1,1] [a,b,c]),H):=Tu _ (by decide) (some [a,b,c]) H
def da4(a:Int)(H:AH):K tab A6 A5 49 [.str [50],.fz [[.N a]]] H=some (.str (Ba [2] [a]),H):=Tu _ (by decide) (some [a]) H
def da8(a:Int)(H:AH):K tab A6 A5 49 [.str [49],.fz [[.N a]]] H=some (.str (Ba [1] [a]),H):=Tu _ (by decide) (some [a]) H
def da5(a:Int)(H:AH):K tab A6 A5 49 [.str [52],.fz [[.N a]]] H=some (.str (Ba [4] [a]),H):=Tu _ (by decide) (some [a]) H
def da2(a b c:Int)(H:AH):K tab A6 A5 49 [.str [52,52,52],.fz [[.N a],[.N b],[.N c]]] H=some (.str (Ba [4,4,4] [a,b,c]),H):=Tu _ (by decide) (some [a,b,c]) H
def H8(a b c d:Int)(H:AH):K tab A6 A5 49 [.str [50,49,50,49],.fz [[.N a],[.N b],[.N c],[.N d]]] H=some (.str (Ba [2,1,2,1] [a,b,c,d]),H):=Tu _ (by decide) (some [a,b,c,d]) H
def Q1(k u:Int)(a c:Bytes)(f b:Int)(l:Sl Ptr)(p:a.length<=1000000)(i:(els l).length<=1000000)(H:AH):K tab A6 A5 52 [.agg [.N k,.N u,.str a,.str c,.N f],.N b,A4 Al l] H=some (.str (Dx ⟨k,u,a⟩ b (els l)),H):=by
 refine Ae l52 rfl (by simp[Aa,Ab,Ai]) rfl ?_ H;have n:=λH=>a6q (orc:=A6) l i H;have g:=at0 l i;have o:=X9 (els l);have h3:(Ba [1,1,1] [k,u,(a.length:Int)]).length=3:=Ew _ _ rfl;have j:(Ba [2] [b]).length=2:=Ew _ _ rfl;simp(disch:=try exact dq)only[tx,seval,g52,g,n,Fx,Gp,da7,da4,f52,h3,j,f1q];unfold Dx;simp only[];cases m:(els l).all C4 with
 |false=>
   rw[iP (by simp),iN (by simp)]
 |true=>
   have e:=Ze m;by_cases d:((k=1\/k=2)/\0<=u/\u<8/\a.length<=8)/\(0<=b/\b<=128/\(els l).length=4)
   ·rw[iN (by simp only[f2f,f44,f32,f2o,f02,f5d,f1k,f6z];omega),iP ⟨d.1,d.2.1,d.2.2.1,d.2.2.2,rfl⟩,e]
   ·rw[iP (by simp only[f2f,f44,f32,f2o,f02,f5d,f1k,f6z];omega),iN (λh=>d ⟨h.1,h.2.1,h.2.2.1,h.2.2.2.1⟩)]
def b2o(l:Sl Ptr)(f:(els l).length<=1000000)(H:AH):K tab A6 A5 53 [A4 Al l] H=some (.str (Gt (els l)),H):=by
 refine Ae l53 rfl (by simp[Aa,Ab,Ai]) rfl ?_ H;have e:=λH=>a6q (orc:=A6) l f H;have a:=at0 l f;unfold Gt;by_cases c:(els l).length=8
 ·have b:((els l).length:Int)=8:=om;rw[iP c];cases d:(els l).all C4 with
  |false=>
    rw[d]at a;simp(disch:=try exact dq)only[tx,seval,Ob,a,e,b];rw[Fp,iN (by rw[d];simp)]
  |true=>
    rw[d]at a;simp(disch:=try exact dq)only[tx,seval,Ob,a,e,b]
 ·have b:¬ ((els l).length:Int)=8:=om;rw[iN c];simp(disch:=try exact dq)only[tx,seval,Ob,a,e,b]
def b4f(n:Int)(H:AH):K tab A6 A5 34 [.N n] H=some (.bool (decide (0<=n)&&decide (n<=65535)),H):=by
 refine Ae l34 rfl rfl rfl ?_ H;simp(disch:=try exact dq)only[tx,seval,g34]
def c1v(n:Int)(H:AH):K tab A6 A5 79 [.N n] H=some (.bool (decide (0<=n)&&decide (n<=1073741824)),H):=by
 refine Ae l79 rfl rfl rfl ?_ H;simp(disch:=try exact dq)only[tx,seval,g79]
def by4(s:Space)(b:SpOk s)(n:Int)(d:-100000<=n)(a:n<=100000)(H:AH):K tab A6 A5 55 [.N n,.agg [A4 A8 s.held,A4 A8 s.one,A4 A8 s.two,A4 A8 s.kept]] H=some (.str (Jd n s.n),H):=by
 refine Ae l55 rfl (by simp[Aa,Ab,Ai]) rfl ?_ H;have h:=c2f s b n a;have j:=b.held;have k:=b.one;have l3:=b.two;have l4:=b.kept;have e:=ar1 n d a s.held om;have f:=ar1 n d a s.one om;have g:=ar1 n d a s.two om;have i:=ar1 n d a s.kept om;unfold Jd;cases c:Ct n s.n with
 |false=>
   rw[c]at h;simp(disch:=try exact dq)only[tx,seval,g55,h]
 |true=>
   rw[c]at h;have l:=Qw n (els s.held) a;have m:=Qw n (els s.one) a;have o:=Qw n (els s.two) a;have p:=Qw n (els s.kept) a;simp(disch:=try exact dq)only[tx,seval,g55,h,e,f,g,i,f1q];rfl
def b2r(r:Root)(H:AH):K tab A6 A5 57 [.agg (Sc r)] H=some (.str (Jt r),H):=by
 refine Ae l57 rfl rfl rfl ?_ H;have R7:(Ba [4,4,4] [r.txg,r.next,r.guid]).length=12:=Ew _ _ rfl;have h4:(Ba [4] [r.keptTxg]).length=4:=Ew _ _ rfl;have f:=X9 [r.table,r.space,r.kept];simp only[f33,f3w]at f;have a:=at0 (some [r.table,r.space,r.kept]) (by simp[els]);have d:=λH=>a6q (orc:=A6) (some [r.table,r.space,r.kept]) (by simp[els]) H;rw[Az,B5]at a d;simp only[f5b,f5x,Al]at a d;unfold Sc;simp(disch:=try exact dq)only[tx,seval,g57,a,d,c1v,d5h,Fx,Gp,da2,da5,f52,R7,h4,f1q];unfold Jt Sv;rw[f4n (C4 r.table)];have c:(C4 r.table&&(C4 r.space&&C4 r.kept))=true->Fp [r.table,r.space,r.kept]=Fb r.table++(Fb r.space++Fb r.kept):=λg=>by
  have e:=Ze (l:=[r.table,r.space,r.kept]) (by simpa [f5k,f4n]using g);simpa using e
 generalize (C4 r.table&&(C4 r.space&&C4 r.kept))=b at *;by_cases h:1<=r.txg/\r.txg<=1073741824/\0<=r.next/\r.next<=1073741824/\0<=r.guid/\r.guid<=1073741824/\0<=r.keptTxg/\r.keptTxg<=1073741824
 ·rw[iN (by simp only[f2f,f44,f32,f2o,f0m,f02];omega)];cases b with
  |false=>rw[iP (by simp),iN (by simp)]
  |true=>
    rw[iN (by simp),iP (by simp only[f5f,f32,f2f];omega),c rfl]
 ·rw[iP (by simp only[f2f,f44,f32,f2o,f0m,f02];omega),iN (by simp only[f32,f2f];omega)]
def do3(f:Int)(x:DsetH)(p:Ptr)(i:C4 p=true):U4 f x p=true↔(f<x.id/\x.id<=65535/\(x.kind=1\/x.kind=2)/\0<=x.origin/\x.origin<=65535/\0<=x.quota/\x.quota<=255/\p.addr≠0):=by
 have l:p=Ah↔p.addr=0:=by
  constructor
  ·intro h;rw[h];rfl
  ·intro h;unfold C4 at i;rw[iP h]at i;exact f2w i
 simp only[U4,f32,f44,f2f,f2o,f02,i,l];constructor
 ·rintro⟨⟨⟨⟨⟨⟨a,b⟩,c⟩,d⟩,e⟩,-⟩,g⟩;exact⟨a,b,c,d.1,d.2,e.1,e.2,g⟩
 ·rintro⟨a,b,c,d,j,e,k,g⟩;exact⟨⟨⟨⟨⟨⟨a,b⟩,c⟩,d,j⟩,e,k⟩,trivial⟩,g⟩
def c2i:∀ (l:List DsetH) (q:LT) (a:Int),l.length=q.length->Q7 a l q=true->q.all C4=true
 |[],[],_,_,_=>rfl
 |[],_::_,_,h,_=>by simp at h
 |_::_,[],_,h,_=>by simp at h
 |x::l,p::q,a,h,hm=>by
   simp only[Q7,f32]at hm;have b:C4 p=true:=by
    have:=hm.1;simp only[U4,f32]at this;exact this.1.2
   rw[f5k,b,c2i l q x.id (by simpa using h) hm.2];rfl
def da9(p:Ptr)(H:AH):K tab A6 A5 61 [.fz [[.N p.addr,.N p.birth,.M p.sum.a.toNat,.M p.sum.b.toNat,.M p.sum.c.toNat,.M p.sum.d.toNat]]] H=some (.str (Fp [p]),H):=a6q (some [p]) (by simp[els]) H
def d5f(a:AV)(r sz o l t:Nat)(H:AH):K tab A6 A5 49 [a,.own r sz o l t] H=Gr tab A6 A5 49 [a,.own r sz o l t] H (Aa (B9 H [a,.own r sz o l t])) (K tab A6 A5 49 (B9 H [a,.own r sz o l t]) H):=Hy _ _ _ rfl _ _
def b2n(l:Sl Dset)(q:LT)(hl:(els l).length<=1000000)(hq:q.length<=1000000)(H:AH):K tab A6 A5 54 [A4 Ao l,A4 Al (some q)] H=some (.str (Fo ((els l).map Bj) q),H):=by
 refine Ae l54 rfl (by simp[Aa,Ai]) rfl ?_ H;have no:¬ ((els l).length<=8/\(els l).length=q.length/\q.all C4=true)->Fo ((els l).map Bj) q=[]:=λh=>by
  unfold Fo;rw[iN (λc=>h ⟨by simpa using c.1,by simpa using c.2.1,c2i _ _ _ c.2.1 c.2.2⟩)]
 have W:=at0 (some q) hq;rw[Az,B5]at W;by_cases c1:8<((els l).length:Int)
 ·rw[no om];simp(disch:=try exact dq)only[tx,seval,Xv,c1]
 by_cases c2:(q.length:Int)=(els l).length
 ·cases c3:q.all C4 with
  |false=>
    rw[c3]at W;rw[no (by rw[c3];simp)];simp(disch:=try exact dq)only[tx,seval,Xv,c1,c2,W,b3x,Az]
  |true=>
    rw[c3]at W;have aa:((els l).map Bj).length=(els l).length:=f3z _;simp(disch:=try exact dq)only[tx,seval,Xv,c1,c2,W,d5f,da8,f52,f3z];generalize hr:Aj _ _ _=r;refine B6 hr (els l).length
     (λj=>[A4 Ao l,.fz (q.map Al),U,.str (Ba [1] [((els l).length:Int)]++G8 (((els l).map Bj).take j) (q.take j)),.N j,U,U,U])
     (λj=>[]) (λj=>0<=Iv ((els l).map Bj) j/\(Q7 (Iv ((els l).map Bj) j) (((els l).map Bj).drop j) (q.drop j)=true->Fo ((els l).map Bj) q=Ba [1] [((els l).length:Int)]++G8 (((els l).map Bj).take j) (q.take j)++G8 (((els l).map Bj).drop j) (q.drop j))/\(Q7 (Iv ((els l).map Bj) j) (((els l).map Bj).drop j) (q.drop j)=false->Fo ((els l).map Bj) q=[])) ?_ ?_ ?_ ?_ ?_
    ·simp[G8]
    ·simp
    ·unfold Fo;have:((els l).length:Nat)<=8:=om;have c2':(els l).length=q.length:=om;have h8:q.length<=8:=om;refine⟨by simp[Iv],λh=>?_,λh=>?_⟩
     ·simp only[Iv,if_true,f4p]at h;simp[this,c2',h8,h,G8,Ba]
     ·simp only[Iv,if_true,f4p]at h;simp[h]
    ·intro j hj hI;obtain⟨a7,hI⟩:=hI;have o:((j:Int)<((els l).length:Int)):=om;have Q:j<q.length:=om;have a4:j<((els l).map Bj).length:=om;rw[by5 a4 Q];rw[F7 a4,F7 Q]at hI;simp only[Q7,G8]at hI;have a2:((els l).map Bj).getD j df=Bj ((els l).getD j df):=b3s hj Bj;have v:List.drop j (List.take (j+1) (q.map Al))=[Al (q.getD j df)]:=by
      rw[<-f5g,<-f5t,Et Q,List.drop_append,f0c (by simp;omega)];simp[f3l,f4h (Nat.le_of_lt Q)]
     rw[a2]at hI ⊢;have a3:=a6p (((els l).map Bj).take j) (q.take j);rw[f3l]at a3;have t:(Ba [1] [((els l).length:Int)]).length=1:=rfl;have s:∀ a b c d:Int,(Ba [2,1,2,1] [a,b,c,d]).length=6:=λa b c d=>Ew _ _ rfl;have n:(q.map Al)[j]?=some (Al (q.getD j df)):=Fc Q Al;have a5:C4 (q.getD j df)=true:=by
      rw[f35]at c3;exact c3 _ (by rw[ex9,ez2 Q];exact f3e _)
     have m:=da9 (q.getD j df);have a9:Fp [q.getD j df]=Fb (q.getD j df):=(by rw[Ze (by simp only[f5k,a5,f6c,f5m])];simp);rw[a9]at m;have u:=Tv (q.getD j df);have g:=do3 (Iv ((els l).map Bj) j) (Bj ((els l).getD j df)) (q.getD j df) a5;generalize U4 (Iv ((els l).map Bj) j) (Bj ((els l).getD j df)) (q.getD j df)=z at hI g;have i:z=false->Fo ((els l).map Bj) q=[]:=λh=>hI.2 (by rw[h];rfl);have Z:z=true->(Q7 (Iv ((els l).map Bj) (j+1)) (((els l).map Bj).drop (j+1)) (q.drop (j+1))=true->Fo ((els l).map Bj) q=Ba [1] [((els l).length:Int)]++(G8 (((els l).map Bj).take j) (q.take j)++putRow (Bj ((els l).getD j df)) (q.getD j df))++G8 (((els l).map Bj).drop (j+1)) (q.drop (j+1)))/\(Q7 (Iv ((els l).map Bj) (j+1)) (((els l).map Bj).drop (j+1)) (q.drop (j+1))=false->Fo ((els l).map Bj) q=[]):=λh=>by
      rw[b3z,a2];rw[h,f5e]at hI;exact⟨λh2=>by rw[hI.1 h2];simp,hI.2⟩
     have Y:Iv ((els l).map Bj) (j+1)=((els l).getD j df).id:=(by rw[b3z,a2];rfl);have V:Iv ((els l).map Bj) j=if j=0 then 0 else((els l).getD (j-1) df).id:=by
      unfold Iv;split
      ·rfl
      ·rw[b3s om Bj];rfl
     have a1:putRow (Bj ((els l).getD j df)) (q.getD j df)=Ba [2,1,2,1] [((els l).getD j df).id,((els l).getD j df).kind,((els l).getD j df).origin,((els l).getD j df).quota]++Fb (q.getD j df):=rfl;have X:((Bj ((els l).getD j df)).id=((els l).getD j df).id)/\((Bj ((els l).getD j df)).kind=((els l).getD j df).kind)/\((Bj ((els l).getD j df)).origin=((els l).getD j df).origin)/\((Bj ((els l).getD j df)).quota=((els l).getD j df).quota):=⟨rfl,rfl,rfl,rfl⟩;rw[X.1,X.2.1,X.2.2.1,X.2.2.2,V]at g;rw[V]at a7;clear hI;generalize D:(els l).getD j df=x at *;generalize C:q.getD j df=p at *;generalize E:((els l).getD (j-1) df)=y at *;generalize G8 (((els l).map Bj).take j) (q.take j)=S at *;have G:(((j:Int)-1)).toNat=j-1:=om;have I:(((j:Int)+1)).toNat=j+1:=om;have f:([Al p].all λe=>decide (e.length=6))=true:=rfl;unfold Al at f;have A:=b4f x.id;have w:=b4f x.origin;by_cases B:x.id<1
     ·have k:z=false:=f2s.2 (λh=>by have:=g.1 h;(try simp only[f0m,f32,f2f,f02]at *);omega);rw[i k];simp(disch:=try exact dq)only[tx,seval,o,Ad,B0,Ao,Al,D,C,E,G,I,f,n,v,m,f52,Fh,Fy,Cb,Ca,Cc,Dy,Fx,Gp,H8,s,t,u,f1q,f3z,B]
     cases e1:(decide (0<=x.id)&&decide (x.id<=65535))with
     |false=>
       rw[e1]at A;have k:z=false:=f2s.2 (λh=>by have:=g.1 h;(try simp only[f0m,f32,f2f,f02]at *);omega);rw[i k];simp(disch:=try exact dq)only[tx,seval,o,Ad,B0,Ao,Al,D,C,E,G,I,f,n,v,m,f52,Fh,Fy,Cb,Ca,Cc,Dy,Fx,Gp,H8,s,t,u,f1q,f3z,B,A]
     |true=>
       rw[e1]at A;by_cases J:0<(j:Int)
       ·rw[iN om]at g;by_cases R:x.id<=y.id
        ·have k:z=false:=f2s.2 (λh=>by have:=g.1 h;(try simp only[f0m,f32,f2f,f02]at *);omega);rw[i k];simp(disch:=try exact dq)only[tx,seval,o,Ad,B0,Ao,Al,D,C,E,G,I,f,n,v,m,f52,Fh,Fy,Cb,Ca,Cc,Dy,Fx,Gp,H8,s,t,u,f1q,f3z,B,A,J,R]
        by_cases F:x.kind=1
        ·cases T:(decide (0<=x.origin)&&decide (x.origin<=65535))with
         |false=>
           rw[T]at w;have k:z=false:=f2s.2 (λh=>by have:=g.1 h;(try simp only[f0m,f32,f2f,f02]at *);omega);rw[i k];simp(disch:=try exact dq)only[tx,seval,o,Ad,B0,Ao,Al,D,C,E,G,I,f,n,v,m,f52,Fh,Fy,Cb,Ca,Cc,Dy,Fx,Gp,H8,s,t,u,f1q,f3z,B,A,J,R,F,w]
         |true=>
           rw[T]at w;by_cases L:x.quota<0
           ·have k:z=false:=f2s.2 (λh=>by have:=g.1 h;(try simp only[f0m,f32,f2f,f02]at *);omega);rw[i k];simp(disch:=try exact dq)only[tx,seval,o,Ad,B0,Ao,Al,D,C,E,G,I,f,n,v,m,f52,Fh,Fy,Cb,Ca,Cc,Dy,Fx,Gp,H8,s,t,u,f1q,f3z,B,A,J,R,F,w,L]
           by_cases P:255<x.quota
           ·have k:z=false:=f2s.2 (λh=>by have:=g.1 h;(try simp only[f0m,f32,f2f,f02]at *);omega);rw[i k];simp(disch:=try exact dq)only[tx,seval,o,Ad,B0,Ao,Al,D,C,E,G,I,f,n,v,m,f52,Fh,Fy,Cb,Ca,Cc,Dy,Fx,Gp,H8,s,t,u,f1q,f3z,B,A,J,R,F,w,L,P]
           by_cases a0:p.addr=0
           ·have k:z=false:=f2s.2 (λh=>by have:=g.1 h;(try simp only[f0m,f32,f2f,f02]at *);omega);rw[i k];simp(disch:=try exact dq)only[tx,seval,o,Ad,B0,Ao,Al,D,C,E,G,I,f,n,v,m,f52,Fh,Fy,Cb,Ca,Cc,Dy,Fx,Gp,H8,s,t,u,f1q,f3z,B,A,J,R,F,w,L,P,a0]
           ·have M:z=true:=g.2 (by(try simp only[f32,f2f]at *);omega);simp(disch:=try exact dq)only[tx,seval,o,Ad,B0,Ao,Al,D,C,E,G,I,f,n,v,m,f52,Fh,Fy,Cb,Ca,Cc,Dy,Fx,Gp,H8,s,t,u,f1q,f3z,B,A,J,R,F,w,L,P,a0];refine⟨?_,by rw[Y];omega,Z M⟩;rw[a1,F];simp only[f2p];rfl
        ·by_cases O:x.kind=2
         ·cases T:(decide (0<=x.origin)&&decide (x.origin<=65535))with
          |false=>
            rw[T]at w;have k:z=false:=f2s.2 (λh=>by have:=g.1 h;(try simp only[f0m,f32,f2f,f02]at *);omega);rw[i k];simp(disch:=try exact dq)only[tx,seval,o,Ad,B0,Ao,Al,D,C,E,G,I,f,n,v,m,f52,Fh,Fy,Cb,Ca,Cc,Dy,Fx,Gp,H8,s,t,u,f1q,f3z,B,A,J,R,F,O,w]
          |true=>
            rw[T]at w;by_cases L:x.quota<0
            ·have k:z=false:=f2s.2 (λh=>by have:=g.1 h;(try simp only[f0m,f32,f2f,f02]at *);omega);rw[i k];simp(disch:=try exact dq)only[tx,seval,o,Ad,B0,Ao,Al,D,C,E,G,I,f,n,v,m,f52,Fh,Fy,Cb,Ca,Cc,Dy,Fx,Gp,H8,s,t,u,f1q,f3z,B,A,J,R,F,O,w,L]
            by_cases P:255<x.quota
            ·have k:z=false:=f2s.2 (λh=>by have:=g.1 h;(try simp only[f0m,f32,f2f,f02]at *);omega);rw[i k];simp(disch:=try exact dq)only[tx,seval,o,Ad,B0,Ao,Al,D,C,E,G,I,f,n,v,m,f52,Fh,Fy,Cb,Ca,Cc,Dy,Fx,Gp,H8,s,t,u,f1q,f3z,B,A,J,R,F,O,w,L,P]
            by_cases a0:p.addr=0
            ·have k:z=false:=f2s.2 (λh=>by have:=g.1 h;(try simp only[f0m,f32,f2f,f02]at *);omega);rw[i k];simp(disch:=try exact dq)only[tx,seval,o,Ad,B0,Ao,Al,D,C,E,G,I,f,n,v,m,f52,Fh,Fy,Cb,Ca,Cc,Dy,Fx,Gp,H8,s,t,u,f1q,f3z,B,A,J,R,F,O,w,L,P,a0]
            ·have M:z=true:=g.2 (by(try simp only[f32,f2f]at *);omega);simp(disch:=try exact dq)only[tx,seval,o,Ad,B0,Ao,Al,D,C,E,G,I,f,n,v,m,f52,Fh,Fy,Cb,Ca,Cc,Dy,Fx,Gp,H8,s,t,u,f1q,f3z,B,A,J,R,F,O,w,L,P,a0];refine⟨?_,by rw[Y];omega,Z M⟩;rw[a1,O];simp only[f2p];rfl
         ·have k:z=false:=f2s.2 (λh=>by have:=g.1 h;(try simp only[f0m,f32,f2f,f02]at *);omega);rw[i k];simp(disch:=try exact dq)only[tx,seval,o,Ad,B0,Ao,Al,D,C,E,G,I,f,n,v,m,f52,Fh,Fy,Cb,Ca,Cc,Dy,Fx,Gp,H8,s,t,u,f1q,f3z,B,A,J,R,F,O]
       ·rw[iP om]at g;by_cases F:x.kind=1
        ·cases T:(decide (0<=x.origin)&&decide (x.origin<=65535))with
         |false=>
           rw[T]at w;have k:z=false:=f2s.2 (λh=>by have:=g.1 h;(try simp only[f0m,f32,f2f,f02]at *);omega);rw[i k];simp(disch:=try exact dq)only[tx,seval,o,Ad,B0,Ao,Al,D,C,E,G,I,f,n,v,m,f52,Fh,Fy,Cb,Ca,Cc,Dy,Fx,Gp,H8,s,t,u,f1q,f3z,B,A,J,F,w]
         |true=>
           rw[T]at w;by_cases L:x.quota<0
           ·have k:z=false:=f2s.2 (λh=>by have:=g.1 h;(try simp only[f0m,f32,f2f,f02]at *);omega);rw[i k];simp(disch:=try exact dq)only[tx,seval,o,Ad,B0,Ao,Al,D,C,E,G,I,f,n,v,m,f52,Fh,Fy,Cb,Ca,Cc,Dy,Fx,Gp,H8,s,t,u,f1q,f3z,B,A,J,F,w,L]
           by_cases P:255<x.quota
           ·have k:z=false:=f2s.2 (λh=>by have:=g.1 h;(try simp only[f0m,f32,f2f,f02]at *);omega);rw[i k];simp(disch:=try exact dq)only[tx,seval,o,Ad,B0,Ao,Al,D,C,E,G,I,f,n,v,m,f52,Fh,Fy,Cb,Ca,Cc,Dy,Fx,Gp,H8,s,t,u,f1q,f3z,B,A,J,F,w,L,P]
           by_cases a0:p.addr=0
           ·have k:z=false:=f2s.2 (λh=>by have:=g.1 h;(try simp only[f0m,f32,f2f,f02]at *);omega);rw[i k];simp(disch:=try exact dq)only[tx,seval,o,Ad,B0,Ao,Al,D,C,E,G,I,f,n,v,m,f52,Fh,Fy,Cb,Ca,Cc,Dy,Fx,Gp,H8,s,t,u,f1q,f3z,B,A,J,F,w,L,P,a0]
           ·have M:z=true:=g.2 (by(try simp only[f32,f2f]at *);omega);simp(disch:=try exact dq)only[tx,seval,o,Ad,B0,Ao,Al,D,C,E,G,I,f,n,v,m,f52,Fh,Fy,Cb,Ca,Cc,Dy,Fx,Gp,H8,s,t,u,f1q,f3z,B,A,J,F,w,L,P,a0];refine⟨?_,by rw[Y];omega,Z M⟩;rw[a1,F];simp only[f2p];rfl
        ·by_cases O:x.kind=2
         ·cases T:(decide (0<=x.origin)&&decide (x.origin<=65535))with
          |false=>
            rw[T]at w;have k:z=false:=f2s.2 (λh=>by have:=g.1 h;(try simp only[f0m,f32,f2f,f02]at *);omega);rw[i k];simp(disch:=try exact dq)only[tx,seval,o,Ad,B0,Ao,Al,D,C,E,G,I,f,n,v,m,f52,Fh,Fy,Cb,Ca,Cc,Dy,Fx,Gp,H8,s,t,u,f1q,f3z,B,A,J,F,O,w]
          |true=>
            rw[T]at w;by_cases L:x.quota<0
            ·have k:z=false:=f2s.2 (λh=>by have:=g.1 h;(try simp only[f0m,f32,f2f,f02]at *);omega);rw[i k];simp(disch:=try exact dq)only[tx,seval,o,Ad,B0,Ao,Al,D,C,E,G,I,f,n,v,m,f52,Fh,Fy,Cb,Ca,Cc,Dy,Fx,Gp,H8,s,t,u,f1q,f3z,B,A,J,F,O,w,L]
            by_cases P:255<x.quota
            ·have k:z=false:=f2s.2 (λh=>by have:=g.1 h;(try simp only[f0m,f32,f2f,f02]at *);omega);rw[i k];simp(disch:=try exact dq)only[tx,seval,o,Ad,B0,Ao,Al,D,C,E,G,I,f,n,v,m,f52,Fh,Fy,Cb,Ca,Cc,Dy,Fx,Gp,H8,s,t,u,f1q,f3z,B,A,J,F,O,w,L,P]
            by_cases a0:p.addr=0
            ·have k:z=false:=f2s.2 (λh=>by have:=g.1 h;(try simp only[f0m,f32,f2f,f02]at *);omega);rw[i k];simp(disch:=try exact dq)only[tx,seval,o,Ad,B0,Ao,Al,D,C,E,G,I,f,n,v,m,f52,Fh,Fy,Cb,Ca,Cc,Dy,Fx,Gp,H8,s,t,u,f1q,f3z,B,A,J,F,O,w,L,P,a0]
            ·have M:z=true:=g.2 (by(try simp only[f32,f2f]at *);omega);simp(disch:=try exact dq)only[tx,seval,o,Ad,B0,Ao,Al,D,C,E,G,I,f,n,v,m,f52,Fh,Fy,Cb,Ca,Cc,Dy,Fx,Gp,H8,s,t,u,f1q,f3z,B,A,J,F,O,w,L,P,a0];refine⟨?_,by rw[Y];omega,Z M⟩;rw[a1,O];simp only[f2p];rfl
         ·have k:z=false:=f2s.2 (λh=>by have:=g.1 h;(try simp only[f0m,f32,f2f,f02]at *);omega);rw[i k];simp(disch:=try exact dq)only[tx,seval,o,Ad,B0,Ao,Al,D,C,E,G,I,f,n,v,m,f52,Fh,Fy,Cb,Ca,Cc,Dy,Fx,Gp,H8,s,t,u,f1q,f3z,B,A,J,F,O]
    ·intro hI;obtain⟨_,hI,_⟩:=hI;have ht:q.take (els l).length=q:=f0a om;have a6:((els l).map Bj).take (els l).length=(els l).map Bj:=f0a om;have hd:q.drop (els l).length=[]:=f0c om;have a8:((els l).map Bj).drop (els l).length=[]:=f0c om;rw[ht,a6,hd,a8]at hI;rw[ht,a6];simp(disch:=try exact dq)only[tx,seval,f5q];rw[hI rfl];simp[G8]
 ·rw[no om];simp(disch:=try exact dq)only[tx,seval,Xv,c1,c2]
def ce4{α:Sort _}{P A B:α->Prop}(h:∀ a,A a->B a):(∃ a,P a/\A a)->∃ a,P a/\B a:=λ⟨a,b,c⟩=>⟨a,b,h a c⟩
def Yd{α:Sort _}{P R A B:α->Prop}(h:∀ a,A a->B a):(∃ a,P a/\R a/\A a)->∃ a,P a/\R a/\B a:=λ⟨a,b,c,h3⟩=>⟨a,b,c,h a h3⟩
def d83(o:Bytes)(i:Nat)(y:UInt8):(o.map cB).set i [.int .u8 y.toNat]=(o.set i y).map cB:=by rw[f6i];rfl
def d5r(n:Int)(a:0<=n)(b:n<256):IntKind.u8.wrap n=((UInt8.ofNat n.toNat).toNat:Int):=by
 rw[IntWalk.u8_in n ⟨a,by omega⟩];simp;omega
def dc9(l:Sl UInt8)(z:(els l).length<=1000000)(n:Nat)(C:n<=100000) :
 ∃ s:Bytes,s.length<=32/\Ev tab A6 A5 50 [.ptr 0 0 0 1] [some [[A4 pu8 l,.N n]]]=some (.str s,[some [[A4 pu8 l,.N (Cy (els l) n 9:Nat)]]]):=by
 have x:=Dt l z n om 9 om;have D:=Du (els l) n 9 om;generalize D8 (els l) n 9=v at *;generalize Cy (els l) n 9=w at *;refine ce4 (λs h=>Bz l50 rfl h) ?_;simp(disch:=try exact dq)only[tx,seval,g50,KQ 20 rfl,Am,x,Z9];generalize A:Aj _ _ _=r;refine a2e (Q:=λr=>∃ s:Bytes,s.length<=32/\E5 _ _ _ (Bm _ _ (Bi _ r))=some (.str s,[some [[A4 pu8 l,.N (w:Nat)]]])) A (if v=8 then 0 else 32)
  (λj o H=>∃ b:Bytes,b.length=32/\o=[U,U,.own 1 1 0 32 32,.N v,.N j,U,U,U]/\H=[some [[A4 pu8 l,.N (w:Nat)]],some (b.map cB)]) ?_ ?_ ?_
 ·exact⟨zs 32,by simp[zs],rfl,rfl⟩
 ·rintro j u o H ⟨b,i,rfl,rfl⟩;by_cases c:v=8
  ·rw[iP c]at u;omega
  rw[iN c]at u;have q:((j:Int)<32):=om;have B:(j:Int).tmod 3=((j%3:Nat):Int):=(f58 j 3).symm;have p:=d5r (v+((j%3:Nat):Int)+1) om om;have y:(b.map cB)[j]?=some [.int .u8 (b.getD j df).toNat]:=Fc om cB;simp(disch:=try exact dq)only[tx,seval,q,c,B,p,y,Sg,i,d83,f3z,f52];exact⟨_,by rw[f3v];exact i,rfl,rfl⟩
 ·rintro o H ⟨b,i,rfl,rfl⟩;have f:List.take 32 (List.map cB b)=List.map cB b:=f0a (by rw[f3z];omega);have e:List.take 31 (List.drop 1 (List.map cB b))=(b.drop 1).map cB:=by rw[<-f5t,f0a (by rw[f3z,f38];omega)]
  have d:List.take 16 (List.map cB b)=(b.take 16).map cB:=f5g.symm;have k:List.take 16 (List.map cB (zs 16))=(zs 16).map cB:=f0a (by simp[zs]);have a:(zs 16).length=16:=by simp[zs]
  have g:J6 [z8,z8,z8,z8,z8,z8,z8,z8,z8,z8,z8,z8,z8,z8,z8,z8]=some (zs 16):=rfl;by_cases c:v=8
  ·rw[iP c];simp(disch:=try exact dq)only[tx,seval,c,Sg,i,f,e,d,k,a,g,Z9,a4s,f1q,f3l,f3z,f52];exact⟨b,by omega,rfl⟩
  ·rw[iN c];by_cases m:v=7
   ·simp(disch:=try exact dq)only[tx,seval,c,m,Sg,i,f,e,d,k,a,g,Z9,a4s,f1q,f3l,Fy,Ik,Jp,Ju,Cb,Ca,Cc,Dy,f3z,f52];exact⟨b.drop 1,by rw[f38];omega,rfl⟩
   by_cases t:v=6
   ·simp(disch:=try exact dq)only[tx,seval,c,m,t,Sg,i,f,e,d,k,a,g,Z9,a4s,f1q,f3l,Fy,Ik,Jp,Ju,Cb,Ca,Cc,Dy,f3z,f52];exact⟨b.take 16++zs 16,by rw[f1q,f3l,a];omega,rfl⟩
   simp(disch:=try exact dq)only[tx,seval,c,m,t,Sg,i,f,e,d,k,a,g,Z9,a4s,f1q,f3l,f3z,f52];exact⟨b,by omega,rfl⟩
def D5(x:Block):LA:=[.N x.kind,.N x.birth,.str x.load]
def Bc(l:List Block):refsO (some (l.map D5))=[]:=J2 l _ λ_=>rfl
def Bb(τ:Nat->Option Nat)(l:List Block):renO τ (l.map D5)=l.map D5:=Pz τ l _ λ_=>rfl
def Eh(a:List Block)(b:LT)(c:Sl UInt8)(n:Nat):AH:=[some [[.own 1 3 0 a.length a.length,.own 2 6 0 b.length b.length]],some (a.map D5),some (b.map Ac),some [[A4 pu8 c,.N n]]]
def Qn(e:List Block)(k:LT)(V:e.length=k.length)(Y:e.length<=1000)(g:Sl UInt8)(O:(els g).length<=1000000)(n:Nat)(hn:n<=100000)(t:Int) :
 ∃ q:Ptr×Nat,q.2<=n+2/\Ev tab A6 A5 51 [.ptr 0 0 0 1,.ptr 3 0 0 1,.N t] (Eh e k g n)=some (.agg (Ac q.1),Eh e k g q.2):=by
 refine ce4 (λs h=>Bz l51 rfl h) ?_;unfold Eh;rw[<-V];have G:=Dt g O n om 12 om;have hv:=Du (els g) n 12 om;have a1:=Dv (els g) n 12;generalize D8 (els g) n 12=v at *;generalize Cy (els g) n 12=l at *;by_cases F:v=11
 ·simp(disch:=try exact dq)only[tx,seval,Xw,KQ 20 rfl,Am,G,F,Bc,Bb,Av,Aw];exact⟨(Ah,l),by simp only;omega,rfl⟩
 by_cases I:((e.length:Nat):Int)=0
 ·simp(disch:=try exact dq)only[tx,seval,Xw,KQ 20 rfl,Am,G,F,I,Bc,Bb,Av,Aw,f3z];exact⟨(Ah,l),by simp only;omega,rfl⟩
 by_cases T:v=10
 ·have z:=Dt g O l om e.length om;have S:=Du (els g) l e.length om;have P:=Dv (els g) l e.length;generalize D8 (els g) l e.length=w at *;generalize Cy (els g) l e.length=E at *;have W:(k.map Ac)[w.toNat]?=some (Ac (k.getD w.toNat df)):=Fc om Ac;have Z:∀ p:Ptr,Ac p=[.N p.addr,.N p.birth,.M p.sum.a.toNat,.M p.sum.b.toNat,.M p.sum.c.toNat,.M p.sum.d.toNat]:=λ_=>rfl;rw[Z]at W;simp(disch:=try exact dq)only[tx,seval,Xw,KQ 20 rfl,Dz (f:=20) rfl,Bl,Bo,Am,G,z,W,F,I,T,Bc,Bb,Av,Aw,f3z,f3t];exact⟨(k.getD w.toNat df,E),by simp only;omega,rfl⟩
 have z:=Dt g O l om 5 om;have S:=Du (els g) l 5 om;have P:=Dv (els g) l 5;generalize D8 (els g) l 5=w at *;generalize Cy (els g) l 5=E at *;simp(disch:=try exact dq)only[tx,seval,Xw,KQ 20 rfl,Am,G,z,F,I,T,Bc,Bb,Av,Aw,f3z,f52];generalize X:Aj _ _ _=r;have K:w.tdiv 3=w/3:=ey2 om;rw[K]at X;have D:w/3=0\/w/3=1:=om;generalize w/3=m at *;refine a2e (Q:=λr=>∃ a:Ptr×Nat,a.2<=n+2/\E5 _ _ _ (Bm _ _ (Bi _ r))=some (.agg (Ac a.1),[some [[.own 1 3 0 e.length e.length,.own 2 6 0 e.length e.length]],some (e.map D5),some (k.map Ac),some [[A4 pu8 g,.N a.2]]])) X e.length
  (λj J H=>∃ back:Int,(back=0\/back=1)/\J=[.ptr 0 0 0 1,U,.N t,.ptr 4 0 0 1,U,.N back,.N ((e.length:Int)-1-j)]/\H=[some [[.own 1 3 0 e.length e.length,.own 2 6 0 e.length e.length]],some (e.map D5),some (k.map Ac),some [[A4 pu8 g,.N E]],some [[.N 0,.N 0,.M 0,.M 0,.M 0,.M 0]]]) ?_ ?_ ?_
 ·exact⟨m,D,by rw[f3u,Int.sub_zero,f52 m om],rfl⟩
 ·rintro j hj J H ⟨back,u,rfl,rfl⟩;have o:(0:Int)<=(e.length:Int)-1-j:=om;have C:((e.length:Int)-1-j).toNat=e.length-1-j:=om;have R:(e.length:Int)-1-((j+1:Nat):Int)=(e.length:Int)-1-j-1:=om;have A:(e.map D5)[e.length-1-j]?=some [.N (e.getD (e.length-1-j) df).kind,.N (e.getD (e.length-1-j) df).birth,.str (e.getD (e.length-1-j) df).load]:=Fc om D5;have L:(k.map Ac)[e.length-1-j]?=some [.N (k.getD (e.length-1-j) df).addr,.N (k.getD (e.length-1-j) df).birth,.M (k.getD (e.length-1-j) df).sum.a.toNat,.M (k.getD (e.length-1-j) df).sum.b.toNat,.M (k.getD (e.length-1-j) df).sum.c.toNat,.M (k.getD (e.length-1-j) df).sum.d.toNat]:=Fc om Ac;generalize e.getD (e.length-1-j) df=x at *;generalize k.getD (e.length-1-j) df=y at *;rw[R];have B:(e.length:Int)-1-j<e.length:=om;have a0:(e.length:Int)-1-j<=1000:=om;generalize (e.length:Int)-1-j=i at *;by_cases c:x.kind=t
  ·rcases u with rfl|rfl
   ·simp(disch:=try exact dq)only[tx,seval,o,C,B,A,L,c,Bc,Bb,Av,Aw,f3z,<-V,f52];exact⟨(y,E),by simp only;omega,rfl⟩
   ·simp(disch:=try exact dq)only[tx,seval,o,C,B,A,c,Bc,Bb,Av,Aw,f3z,f52]
    first|exact⟨0,.inl rfl,rfl,rfl⟩|exact⟨0,.inl rfl,rfl⟩
  ·simp(disch:=try exact dq)only[tx,seval,o,C,B,A,c,Bc,Bb,Av,Aw,f3z,f52]
   first|exact⟨back,u,rfl,rfl⟩|exact⟨back,u,rfl⟩
 ·rintro J H ⟨back,u,rfl,rfl⟩;have o:¬ (0:Int)<=(e.length:Int)-1-e.length:=om;simp(disch:=try exact dq)only[tx,seval,o,Bc,Bb,Av,Aw,f3z];exact⟨(Ah,E),by simp only;omega,rfl⟩
def d8f(b:Sl UInt8)(p:(els b).length<=1000000)(n:Nat)(S:n<=90000) :
 ∃ q:LR×Nat,q.1.length<=4/\q.2<=n+10/\Ev tab A6 A5 56 [.ptr 0 0 0 1,.N 4] [some [[A4 pu8 b,.N n]]]=some (.own 1 2 0 q.1.length q.1.length,[some [[A4 pu8 b,.N q.2]],some (q.1.map Cv)]):=by
 refine Yd (λs h=>Bz l56 rfl h) ?_;have C:=Dt b p n om 5 om;have T:=Du (els b) n 5 om;have E:=Dv (els b) n 5;generalize D8 (els b) n 5=v at *;generalize Cy (els b) n 5=l at *;have u:=Dt b p l om 5 om;have K:=Du (els b) l 5 om;have F:=Dv (els b) l 5;generalize D8 (els b) l 5=g at *;generalize Cy (els b) l 5=B at *;simp(disch:=try exact dq)only[tx,seval,g56,KQ 20 rfl,Am,C,u,f52];generalize J:Aj _ _ _=r;refine a2e (Q:=λr=>∃ a:LR×Nat,a.1.length<=4/\a.2<=n+10/\E5 _ _ _ (Bm _ _ (Bi _ r))=some (.own 1 2 0 a.1.length a.1.length,[some [[A4 pu8 b,.N a.2]],some (a.1.map Cv)])) J g.toNat
  (λj t H=>∃ (o:LR) (m:Nat) (a:Int),o.length=j/\m<=B+2*j/\0<=a/\a<=1000+100*j/\t=[.ptr 0 0 0 1,U,U,.own 1 2 0 o.length o.length,.N a,.N (g-j),U,U]/\H=[some [[A4 pu8 b,.N m]],some (o.map Cv)]) ?_ ?_ ?_
 ·exact⟨[],B,14+v,rfl,by omega,by omega,by omega,by rw[f3u,Int.sub_zero];rfl,rfl⟩
 ·rintro j R t H ⟨o,m,a,A,D,x,y,rfl,rfl⟩;have d:0<g-(j:Int):=om;have k:=Dt b p m om 4 om;have L:=Du (els b) m 4 om;have G:=Dv (els b) m 4;generalize D8 (els b) m 4=z at *;generalize Cy (els b) m 4=i at *;have w:=Dt b p i om 6 om;have M:=Du (els b) i 6 om;have I:=Dv (els b) i 6;generalize D8 (els b) i 6=P at *;generalize Cy (els b) i 6=O at *;by_cases c:54<a+1+z
  ·simp(disch:=try exact dq)only[tx,seval,d,c,KQ 20 rfl,Dz (f:=20) rfl,Bl,Bo,Am,k,G7,H7,f3z,f52];exact⟨(o,i),by simp only;omega,by simp only;omega,rfl⟩
  ·simp(disch:=try exact dq)only[tx,seval,d,c,KQ 20 rfl,Dz (f:=20) rfl,Bl,Bo,Am,k,w,G7,H7,f3z,f3t,f52];have e:g-((j+1:Nat):Int)=g-j-1:=om;rw[e];exact⟨o++[⟨a,a+1+z⟩],O,a+1+z+1+P,by simp[A],by omega,by omega,by omega,by rw[f1q];rfl,by rw[f4c];rfl⟩
 ·rintro t H ⟨o,m,a,A,D,x,y,rfl,rfl⟩;have d:¬ 0<g-(g.toNat:Int):=om;simp(disch:=try exact dq)only[tx,seval,d,G7,H7,f3z];exact⟨(o,m),by simp only;omega,by simp only;omega,rfl⟩
section
theorem Ps(a b:AV)(r sz o l t:Nat)(H:AH):K tab A6 A5 52 [a,b,.own r sz o l t] H=Gr tab A6 A5 52 [a,b,.own r sz o l t] H (Aa (B9 H [a,b,.own r sz o l t])) (K tab A6 A5 52 (B9 H [a,b,.own r sz o l t]) H):=Hy _ _ _ rfl _ _
theorem b0k(r sz o l t:Nat)(H:AH):K tab A6 A5 53 [.own r sz o l t] H=Gr tab A6 A5 53 [.own r sz o l t] H (Aa (B9 H [.own r sz o l t])) (K tab A6 A5 53 (B9 H [.own r sz o l t]) H):=Hy _ _ _ rfl _ _
theorem b8d(r sz o l t c a o' b d:Nat)(H:AH):K tab A6 A5 54 [.own r sz o l t,.own c a o' b d] H=Gr tab A6 A5 54 [.own r sz o l t,.own c a o' b d] H (Aa (B9 H [.own r sz o l t,.own c a o' b d])) (K tab A6 A5 54 (B9 H [.own r sz o l t,.own c a o' b d]) H):=Hy _ _ _ rfl _ _
theorem d5e(a:AV)(r sz o l t:Nat)(x y z:AV)(H:AH):K tab A6 A5 55 [a,.agg [.own r sz o l t,x,y,z]] H=Gr tab A6 A5 55 [a,.agg [.own r sz o l t,x,y,z]] H (Aa (B9 H [a,.agg [.own r sz o l t,x,y,z]])) (K tab A6 A5 55 (B9 H [a,.agg [.own r sz o l t,x,y,z]]) H):=Hy _ _ _ rfl _ _
theorem J9(o:LT)(i:Nat)(q:Ptr):(o.map Ac).set i [.N q.addr,.N q.birth,.M q.sum.a.toNat,.M q.sum.b.toNat,.M q.sum.c.toNat,.M q.sum.d.toNat]=(o.set i q).map Ac:=by rw[f6i];rfl
theorem T2(o:LT)(i:Nat)(h:i<o.length):(o.map Ac)[i]?=some [.N (o.getD i df).addr,.N (o.getD i df).birth,.M (o.getD i df).sum.a.toNat,.M (o.getD i df).sum.b.toNat,.M (o.getD i df).sum.c.toNat,.M (o.getD i df).sum.d.toNat]:=Fc h Ac
theorem Qr(o:LT)(i:Nat):(o.map Ac).set i [AV.N 0,.N 0,.M 0,.M 0,.M 0,.M 0]=(o.set i Ah).map Ac:=by rw[f6i];rfl
theorem Ls(x:NodeH)(z:Int)(l:LT):(Dx x z l).length<=1000:=by
 unfold Dx;split
 ·rename_i h;simp only[f1q,a47,Ew [1,1,1] [x.kind,x.up,(x.name.length:Int)] rfl,Ew [2] [z] rfl,h.2.2.2.1]
  have:=h.1.2.2.2;simp;omega
 ·simp
theorem a6o(l:LT):(Gt l).length<=1000:=by
 unfold Gt;split
 ·rename_i h
  have:=X9 l;omega
 ·simp
theorem a6n(l:List DsetH)(p:LT):(Fo l p).length<=1000:=by
 unfold Fo;split
 ·rename_i h;rw[f1q,Uw]
  have:=a6p l p;omega
 ·simp
theorem b2q(r:Root):(Jt r).length<=1000:=by
 unfold Jt;split
 ·simp only[f1q,Tv,Ew [4,4,4] [r.txg,r.next,r.guid] rfl,Ew [4] [r.keptTxg] rfl];simp
 ·simp
theorem d9w(s:SpaceL):(Jd 40 s).length<=1000:=by
 have a:∀ l,(Mz 40 l).length<=5:=by
  intro l;unfold Mz;split
  ·unfold Yj;rw[f3z,f2z];decide
  ·simp
 unfold Jd;split
 ·simp only[f1q];have b:=a s.held;have c:=a s.one;have h3:=a s.two;have h4:=a s.kept;omega
 ·simp
section
variable (bl:List Block) (bp:List Ptr) (hb:bl.length=bp.length) (hbl:bl.length<=1000) (pk:Sl UInt8) (hl:(els pk).length<=1000000)
include hb hbl hl
theorem dq4(n:Nat)(d:n<=80000)(i a:Int) :
 ∃ q:Bytes×Nat,q.1.length<=1000/\q.2<=n+40/\Ev tab A6 A5 21 [.ptr 0 0 0 1,.ptr 3 0 0 1,.N 1,.N i,.N a] (Eh bl bp pk n)=some (.str q.1,Eh bl bp pk q.2):=by
 refine Yd (λs h=>Bz l21 rfl h) ?_;unfold Eh;obtain⟨s,e,b⟩:=dc9 pk hl n om;have c:=Dv (els pk) n 9;simp(disch:=try exact dq)only[tx,seval,Ht,KQ 50 rfl,Am,b,Bc,Bb,Av,Aw];exact⟨(s,Cy (els pk) n 9),by simp only;omega,by simp only;omega,rfl⟩
theorem dq1(n:Nat)(j:n<=80000)(i a:Int) :
 ∃ q:Bytes×Nat,q.1.length<=1000/\q.2<=n+40/\Ev tab A6 A5 21 [.ptr 0 0 0 1,.ptr 3 0 0 1,.N 5,.N i,.N a] (Eh bl bp pk n)=some (.str q.1,Eh bl bp pk q.2):=by
 refine Yd (λs h=>Bz l21 rfl h) ?_;unfold Eh;obtain⟨⟨o,m⟩,f,d,b⟩:=d8f pk hl n om;simp only[]at f d b;have c:=by4 ⟨some o,none,none,none⟩ ⟨by rw[Az];omega,by simp[els],by simp[els],by simp[els]⟩ 40 om om;simp only[B5,Er]at c;have g:∀ H,(o.map Cv).map (λe=>e.map (Db H 3))=o.map A8:=λH=>by rw[f6a];rfl
 simp(disch:=try exact dq)only[tx,seval,Ht,KQ 56 rfl,Am,b,Bc,Bb,Av,Aw,G7,H7,d5e,g,c,f3m,f3z];exact⟨(Jd 40 (Space.n ⟨some o,none,none,none⟩),m),d9w _,by simp only;omega,rfl⟩
end
end
section
theorem dm9(a:Int)(h:0<=a/\a<6):∃ b:Bytes,b.length<=1/\([[AV.str [97]],[AV.str [97]],[AV.str [97]],[AV.str [98]],[AV.str [65]],[AV.str []]]:List LA)[a.toNat]?=some [.str b]:=by
 have:a=0\/a=1\/a=2\/a=3\/a=4\/a=5:=om;rcases this with rfl|rfl|rfl|rfl|rfl|rfl<;>exact⟨_,by decide,rfl⟩
theorem d7r(a:Int)(h:0<=a/\a<7):∃ z:Int,(0<=z/\z<=128)/\([[AV.N 32],[AV.N 32],[AV.N 40],[AV.N 5],[AV.N 20],[AV.N 128],[AV.N 0]]:List LA)[a.toNat]?=some [.N z]:=by
 have:a=0\/a=1\/a=2\/a=3\/a=4\/a=5\/a=6:=om;rcases this with rfl|rfl|rfl|rfl|rfl|rfl|rfl<;>exact⟨_,by decide,rfl⟩
section
variable (bl:List Block) (bp:List Ptr) (hb:bl.length=bp.length) (hbl:bl.length<=1000) (pk:Sl UInt8) (hl:(els pk).length<=1000000)
include hb hbl hl
theorem dq5(n:Nat)(hn:n<=80000)(i am:Int)(hi:0<=i/\i<=100) :
 ∃ q:Bytes×Nat,q.1.length<=1000/\q.2<=n+40/\Ev tab A6 A5 21 [.ptr 0 0 0 1,.ptr 3 0 0 1,.N 2,.N i,.N am] (Eh bl bp pk n)=some (.str q.1,Eh bl bp pk q.2):=by
 refine Yd (λs h=>Bz l21 rfl h) ?_;unfold Eh;have l:[[AV.N 0,.N 0,.M 0,.M 0,.M 0,.M 0],[AV.N 0,.N 0,.M 0,.M 0,.M 0,.M 0],[AV.N 0,.N 0,.M 0,.M 0,.M 0,.M 0],[AV.N 0,.N 0,.M 0,.M 0,.M 0,.M 0]]=(Af 4).map Ac:=rfl;have g:i.tmod 7=i%7:=ey3 hi.1;by_cases O:i%7=2
 ·have x:=Dt pk hl n om 6 om;have ap:=Du (els pk) n 6 om;have ag:=Dv (els pk) n 6;generalize D8 (els pk) n 6=a1 at *;generalize Cy (els pk) n 6=v at *;have y:=Dt pk hl v om 10 om;have aq:=Du (els pk) v 10 om;have a5:=Dv (els pk) v 10;generalize D8 (els pk) v 10=a2 at *;generalize Cy (els pk) v 10=V at *;have A:=Dt pk hl V om 7 om;have ar:=Du (els pk) V 7 om;have a6:=Dv (els pk) V 7;generalize D8 (els pk) V 7=a3 at *;generalize Cy (els pk) V 7=n3 at *;obtain⟨w,ax,G⟩:=dm9 a1 om;obtain⟨z,hz,I⟩:=d7r a3 om;have hu:a2.tdiv 9=a2/9:=ey2 om;have B:=Dt pk hl n3 om 5 om;have au:=Du (els pk) n3 5 om;have an:=Dv (els pk) n3 5;generalize D8 (els pk) n3 5=a4 at *;generalize Cy (els pk) n3 5=n4 at *;have F:a4.tdiv 2=a4/2:=ey2 om;have aw:0<=a4/2/\a4/2<3:=om;obtain⟨⟨a,n5⟩,ah,t⟩:=Qn bl bp hb hbl pk hl n4 om 1;simp only[Eh,Ac]at ah t;obtain⟨⟨c,n6⟩,ai,u⟩:=Qn bl bp hb hbl pk hl n5 om 1;simp only[Eh,Ac]at ai u;have D:=T2 (Af 4) (a4/2).toNat (by first|(simp[Af];done)|(simp[Af];omega));have E:=T2 ((Af 4).set (a4/2).toNat a) 3 (by first|(simp[Af];done)|(simp[Af];omega));have C:=Dt pk hl n6 om 2 om;have av:=Du (els pk) n6 2 om;have ao:=Dv (els pk) n6 2;generalize D8 (els pk) n6 2=a7 at *;generalize Cy (els pk) n6 2=S at *;by_cases X:a7=0
  ·have U:=T2 (((Af 4).set (a4/2).toNat a).set 3 c) 3 (by first|(simp[Af];done)|(simp[Af];omega));have T:=Dt pk hl S om 12 om;have ak:=Du (els pk) S 12 om;have aj:=Dv (els pk) S 12;generalize D8 (els pk) S 12=b at *;generalize Cy (els pk) S 12=m at *;by_cases k:b=11
   ·have al:=Dt pk hl m om 3 om;have a9:=Du (els pk) m 3 om;have Q:=Dv (els pk) m 3;generalize D8 (els pk) m 3=R at *;generalize Cy (els pk) m 3=n9 at *;have j:=Q1 1 (a2/9) [120] [] 0 R (some ((((Af 4).set (a4/2).toNat a).set 3 c).set 3 Ah)) (by first|omega|(simp;done)) (by simp[els,Af]);rw[B5]at j;have e:=λH=>Ku 3 ((((Af 4).set (a4/2).toNat a).set 3 c).set 3 Ah) H;have d:List.take 4 (((((Af 4).set (a4/2).toNat a).set 3 c).set 3 Ah).map Ac)=((((Af 4).set (a4/2).toNat a).set 3 c).set 3 Ah).map Ac:=f0a (by simp[Af]);simp(disch:=try exact dq)only[tx,seval,Ht,KQ 20 rfl,KQ 51 rfl,Dz (f:=20) rfl,Bl,Bo,Am,l,Bc,Bb,Av,Aw,J9,Qr,f3z,f3v,f3t,f52,Ps,F8,x,y,A,G,I,hu,B,F,t,u,D,E,C,U,T,al,O,X,g,k,j,e,d];exact⟨(Dx ⟨1,(a2/9),[120]⟩ R ((((Af 4).set (a4/2).toNat a).set 3 c).set 3 Ah),n9),Ls ⟨1,(a2/9),[120]⟩ R ((((Af 4).set (a4/2).toNat a).set 3 c).set 3 Ah),by simp only;omega,rfl⟩
   by_cases o:b=10
   ·have ab:=Dt pk hl m om 4 om;have a8:=Du (els pk) m 4 om;have Q:=Dv (els pk) m 4;generalize D8 (els pk) m 4=p at *;generalize Cy (els pk) m 4=n9 at *;obtain⟨⟨r,aa⟩,J,Y⟩:=Qn bl bp hb hbl pk hl n9 om 1;simp only[Eh,Ac]at J Y;have P:=T2 ((((Af 4).set (a4/2).toNat a).set 3 c).set 3 Ah) p.toNat (by first|(simp[Af];done)|(simp[Af];omega));have j:=Q1 1 (a2/9) w [] 0 z (some (((((Af 4).set (a4/2).toNat a).set 3 c).set 3 Ah).set p.toNat r)) (by first|omega|(simp;done)) (by simp[els,Af]);rw[B5]at j;have e:=λH=>Ku 3 (((((Af 4).set (a4/2).toNat a).set 3 c).set 3 Ah).set p.toNat r) H;have d:List.take 4 ((((((Af 4).set (a4/2).toNat a).set 3 c).set 3 Ah).set p.toNat r).map Ac)=(((((Af 4).set (a4/2).toNat a).set 3 c).set 3 Ah).set p.toNat r).map Ac:=f0a (by simp[Af]);simp(disch:=try exact dq)only[tx,seval,Ht,KQ 20 rfl,KQ 51 rfl,Dz (f:=20) rfl,Bl,Bo,Am,l,Bc,Bb,Av,Aw,J9,Qr,f3z,f3v,f3t,f52,Ps,F8,x,y,A,G,I,hu,B,F,t,u,D,E,C,U,T,ab,Y,P,O,X,g,k,o,j,e,d];exact⟨(Dx ⟨1,(a2/9),w⟩ z (((((Af 4).set (a4/2).toNat a).set 3 c).set 3 Ah).set p.toNat r),aa),Ls ⟨1,(a2/9),w⟩ z (((((Af 4).set (a4/2).toNat a).set 3 c).set 3 Ah).set p.toNat r),by simp only;omega,rfl⟩
   by_cases W:b=9
   ·have j:=Q1 2 (a2/9) w [] 0 z (some ((((Af 4).set (a4/2).toNat a).set 3 c).set 3 Ah)) (by first|omega|(simp;done)) (by simp[els,Af]);rw[B5]at j;have e:=λH=>Ku 3 ((((Af 4).set (a4/2).toNat a).set 3 c).set 3 Ah) H;have d:List.take 4 (((((Af 4).set (a4/2).toNat a).set 3 c).set 3 Ah).map Ac)=((((Af 4).set (a4/2).toNat a).set 3 c).set 3 Ah).map Ac:=f0a (by simp[Af]);simp(disch:=try exact dq)only[tx,seval,Ht,KQ 20 rfl,KQ 51 rfl,Dz (f:=20) rfl,Bl,Bo,Am,l,Bc,Bb,Av,Aw,J9,Qr,f3z,f3v,f3t,f52,Ps,F8,x,y,A,G,I,hu,B,F,t,u,D,E,C,U,T,O,X,g,k,o,W,j,e,d];exact⟨(Dx ⟨2,(a2/9),w⟩ z ((((Af 4).set (a4/2).toNat a).set 3 c).set 3 Ah),m),Ls ⟨2,(a2/9),w⟩ z ((((Af 4).set (a4/2).toNat a).set 3 c).set 3 Ah),by simp only;omega,rfl⟩
   have j:=Q1 1 (a2/9) w [] 0 z (some ((((Af 4).set (a4/2).toNat a).set 3 c).set 3 Ah)) (by first|omega|(simp;done)) (by simp[els,Af]);rw[B5]at j;have e:=λH=>Ku 3 ((((Af 4).set (a4/2).toNat a).set 3 c).set 3 Ah) H;have d:List.take 4 (((((Af 4).set (a4/2).toNat a).set 3 c).set 3 Ah).map Ac)=((((Af 4).set (a4/2).toNat a).set 3 c).set 3 Ah).map Ac:=f0a (by simp[Af]);simp(disch:=try exact dq)only[tx,seval,Ht,KQ 20 rfl,KQ 51 rfl,Dz (f:=20) rfl,Bl,Bo,Am,l,Bc,Bb,Av,Aw,J9,Qr,f3z,f3v,f3t,f52,Ps,F8,x,y,A,G,I,hu,B,F,t,u,D,E,C,U,T,O,X,g,k,o,W,j,e,d];exact⟨(Dx ⟨1,(a2/9),w⟩ z ((((Af 4).set (a4/2).toNat a).set 3 c).set 3 Ah),m),Ls ⟨1,(a2/9),w⟩ z ((((Af 4).set (a4/2).toNat a).set 3 c).set 3 Ah),by simp only;omega,rfl⟩
  ·have K:=Dt pk hl S om 12 om;have ak:=Du (els pk) S 12 om;have aj:=Dv (els pk) S 12;generalize D8 (els pk) S 12=b at *;generalize Cy (els pk) S 12=m at *;by_cases k:b=11
   ·have ac:=Dt pk hl m om 3 om;have a9:=Du (els pk) m 3 om;have Q:=Dv (els pk) m 3;generalize D8 (els pk) m 3=R at *;generalize Cy (els pk) m 3=n9 at *;have j:=Q1 1 (a2/9) [120] [] 0 R (some (((Af 4).set (a4/2).toNat a).set 3 c)) (by first|omega|(simp;done)) (by simp[els,Af]);rw[B5]at j;have e:=λH=>Ku 3 (((Af 4).set (a4/2).toNat a).set 3 c) H;have d:List.take 4 ((((Af 4).set (a4/2).toNat a).set 3 c).map Ac)=(((Af 4).set (a4/2).toNat a).set 3 c).map Ac:=f0a (by simp[Af]);simp(disch:=try exact dq)only[tx,seval,Ht,KQ 20 rfl,KQ 51 rfl,Dz (f:=20) rfl,Bl,Bo,Am,l,Bc,Bb,Av,Aw,J9,Qr,f3z,f3v,f3t,f52,Ps,F8,x,y,A,G,I,hu,B,F,t,u,D,E,C,K,ac,O,X,g,k,j,e,d];exact⟨(Dx ⟨1,(a2/9),[120]⟩ R (((Af 4).set (a4/2).toNat a).set 3 c),n9),Ls ⟨1,(a2/9),[120]⟩ R (((Af 4).set (a4/2).toNat a).set 3 c),by simp only;omega,rfl⟩
   by_cases o:b=10
   ·have ad:=Dt pk hl m om 4 om;have a8:=Du (els pk) m 4 om;have Q:=Dv (els pk) m 4;generalize D8 (els pk) m 4=p at *;generalize Cy (els pk) m 4=n9 at *;obtain⟨⟨r,aa⟩,J,Z⟩:=Qn bl bp hb hbl pk hl n9 om 1;simp only[Eh,Ac]at J Z;have P:=T2 (((Af 4).set (a4/2).toNat a).set 3 c) p.toNat (by first|(simp[Af];done)|(simp[Af];omega));have j:=Q1 1 (a2/9) w [] 0 z (some ((((Af 4).set (a4/2).toNat a).set 3 c).set p.toNat r)) (by first|omega|(simp;done)) (by simp[els,Af]);rw[B5]at j;have e:=λH=>Ku 3 ((((Af 4).set (a4/2).toNat a).set 3 c).set p.toNat r) H;have d:List.take 4 (((((Af 4).set (a4/2).toNat a).set 3 c).set p.toNat r).map Ac)=((((Af 4).set (a4/2).toNat a).set 3 c).set p.toNat r).map Ac:=f0a (by simp[Af]);simp(disch:=try exact dq)only[tx,seval,Ht,KQ 20 rfl,KQ 51 rfl,Dz (f:=20) rfl,Bl,Bo,Am,l,Bc,Bb,Av,Aw,J9,Qr,f3z,f3v,f3t,f52,Ps,F8,x,y,A,G,I,hu,B,F,t,u,D,E,C,K,ad,Z,P,O,X,g,k,o,j,e,d];exact⟨(Dx ⟨1,(a2/9),w⟩ z ((((Af 4).set (a4/2).toNat a).set 3 c).set p.toNat r),aa),Ls ⟨1,(a2/9),w⟩ z ((((Af 4).set (a4/2).toNat a).set 3 c).set p.toNat r),by simp only;omega,rfl⟩
   by_cases W:b=9
   ·have j:=Q1 2 (a2/9) w [] 0 z (some (((Af 4).set (a4/2).toNat a).set 3 c)) (by first|omega|(simp;done)) (by simp[els,Af]);rw[B5]at j;have e:=λH=>Ku 3 (((Af 4).set (a4/2).toNat a).set 3 c) H;have d:List.take 4 ((((Af 4).set (a4/2).toNat a).set 3 c).map Ac)=(((Af 4).set (a4/2).toNat a).set 3 c).map Ac:=f0a (by simp[Af]);simp(disch:=try exact dq)only[tx,seval,Ht,KQ 20 rfl,KQ 51 rfl,Dz (f:=20) rfl,Bl,Bo,Am,l,Bc,Bb,Av,Aw,J9,Qr,f3z,f3v,f3t,f52,Ps,F8,x,y,A,G,I,hu,B,F,t,u,D,E,C,K,O,X,g,k,o,W,j,e,d];exact⟨(Dx ⟨2,(a2/9),w⟩ z (((Af 4).set (a4/2).toNat a).set 3 c),m),Ls ⟨2,(a2/9),w⟩ z (((Af 4).set (a4/2).toNat a).set 3 c),by simp only;omega,rfl⟩
   have j:=Q1 1 (a2/9) w [] 0 z (some (((Af 4).set (a4/2).toNat a).set 3 c)) (by first|omega|(simp;done)) (by simp[els,Af]);rw[B5]at j;have e:=λH=>Ku 3 (((Af 4).set (a4/2).toNat a).set 3 c) H;have d:List.take 4 ((((Af 4).set (a4/2).toNat a).set 3 c).map Ac)=(((Af 4).set (a4/2).toNat a).set 3 c).map Ac:=f0a (by simp[Af]);simp(disch:=try exact dq)only[tx,seval,Ht,KQ 20 rfl,KQ 51 rfl,Dz (f:=20) rfl,Bl,Bo,Am,l,Bc,Bb,Av,Aw,J9,Qr,f3z,f3v,f3t,f52,Ps,F8,x,y,A,G,I,hu,B,F,t,u,D,E,C,K,O,X,g,k,o,W,j,e,d];exact⟨(Dx ⟨1,(a2/9),w⟩ z (((Af 4).set (a4/2).toNat a).set 3 c),m),Ls ⟨1,(a2/9),w⟩ z (((Af 4).set (a4/2).toNat a).set 3 c),by simp only;omega,rfl⟩
 ·have L:=Dt pk hl n om 12 om;have ak:=Du (els pk) n 12 om;have ag:=Dv (els pk) n 12;generalize D8 (els pk) n 12=b at *;generalize Cy (els pk) n 12=v at *;by_cases k:b=11
  ·have ae:=Dt pk hl v om 3 om;have a9:=Du (els pk) v 3 om;have a5:=Dv (els pk) v 3;generalize D8 (els pk) v 3=R at *;generalize Cy (els pk) v 3=V at *;have j:=Q1 2 0 [120] [] 0 R (some (Af 4)) (by first|omega|(simp;done)) (by simp[els,Af]);rw[B5]at j;have e:=λH=>Ku 3 (Af 4) H;have d:List.take 4 ((Af 4).map Ac)=(Af 4).map Ac:=f0a (by simp[Af]);simp(disch:=try exact dq)only[tx,seval,Ht,KQ 20 rfl,KQ 51 rfl,Dz (f:=20) rfl,Bl,Bo,Am,l,Bc,Bb,Av,Aw,J9,Qr,f3z,f3v,f3t,f52,Ps,F8,L,ae,O,g,k,j,e,d];exact⟨(Dx ⟨2,0,[120]⟩ R (Af 4),V),Ls ⟨2,0,[120]⟩ R (Af 4),by simp only;omega,rfl⟩
  by_cases o:b=10
  ·have af:=Dt pk hl v om 4 om;have a8:=Du (els pk) v 4 om;have a5:=Dv (els pk) v 4;generalize D8 (els pk) v 4=p at *;generalize Cy (els pk) v 4=V at *;obtain⟨⟨r,n3⟩,a6,a0⟩:=Qn bl bp hb hbl pk hl V om 1;simp only[Eh,Ac]at a6 a0;have P:=T2 (Af 4) p.toNat (by first|(simp[Af];done)|(simp[Af];omega));have j:=Q1 2 0 [] [] 0 0 (some ((Af 4).set p.toNat r)) (by first|omega|(simp;done)) (by simp[els,Af]);rw[B5]at j;have e:=λH=>Ku 3 ((Af 4).set p.toNat r) H;have d:List.take 4 (((Af 4).set p.toNat r).map Ac)=((Af 4).set p.toNat r).map Ac:=f0a (by simp[Af]);simp(disch:=try exact dq)only[tx,seval,Ht,KQ 20 rfl,KQ 51 rfl,Dz (f:=20) rfl,Bl,Bo,Am,l,Bc,Bb,Av,Aw,J9,Qr,f3z,f3v,f3t,f52,Ps,F8,L,af,a0,P,O,g,k,o,j,e,d];exact⟨(Dx ⟨2,0,[]⟩ 0 ((Af 4).set p.toNat r),n3),Ls ⟨2,0,[]⟩ 0 ((Af 4).set p.toNat r),by simp only;omega,rfl⟩
  by_cases W:b=9
  ·have j:=Q1 1 0 [] [] 0 0 (some (Af 4)) (by first|omega|(simp;done)) (by simp[els,Af]);rw[B5]at j;have e:=λH=>Ku 3 (Af 4) H;have d:List.take 4 ((Af 4).map Ac)=(Af 4).map Ac:=f0a (by simp[Af]);simp(disch:=try exact dq)only[tx,seval,Ht,KQ 20 rfl,KQ 51 rfl,Dz (f:=20) rfl,Bl,Bo,Am,l,Bc,Bb,Av,Aw,J9,Qr,f3z,f3v,f3t,f52,Ps,F8,L,O,g,k,o,W,j,e,d];exact⟨(Dx ⟨1,0,[]⟩ 0 (Af 4),v),Ls ⟨1,0,[]⟩ 0 (Af 4),by simp only;omega,rfl⟩
  have j:=Q1 2 0 [] [] 0 0 (some (Af 4)) (by first|omega|(simp;done)) (by simp[els,Af]);rw[B5]at j;have e:=λH=>Ku 3 (Af 4) H;have d:List.take 4 ((Af 4).map Ac)=(Af 4).map Ac:=f0a (by simp[Af]);simp(disch:=try exact dq)only[tx,seval,Ht,KQ 20 rfl,KQ 51 rfl,Dz (f:=20) rfl,Bl,Bo,Am,l,Bc,Bb,Av,Aw,J9,Qr,f3z,f3v,f3t,f52,Ps,F8,L,O,g,k,o,W,j,e,d];exact⟨(Dx ⟨2,0,[]⟩ 0 (Af 4),v),Ls ⟨2,0,[]⟩ 0 (Af 4),by simp only;omega,rfl⟩
end
end
end Go.Proofs.YtddlanlnaenaoaaGreatDoor.Abs
