/-
  Part 5 of the proof: no condition. (Parts of the abstract layer, of the program's functions in its form, and of their contracts.)
-/
import Derived.Test.YtahmkkjcchnonaaGreatDoorTa4
import Derived.Test.YtahmkkjcchnonaaGreatDoorTa2
import Derived.Test.YtahmkkjcchnonaaGreatDoorProg
import Derived.Shelf.Spec.SlicesGrow
import Derived.Test.YtahmkkjcchnonaaGreatDoorTa3
set_option maxRecDepth 100000
set_option maxHeartbeats 8000000
set_option linter.unusedSimpArgs false
set_option linter.unusedVariables false
set_option linter.unusedSectionVars false
namespace Go.Proofs.YtahmkkjcchnonaaGreatDoor.Abs
def Fm(so:Bool->Bool->Bool)(l m:List Rn)(E:List Int):Nat->List Rn
 |0=>[]
 |j+1=>if so (B5 l (E.getD j 0)) (B5 m (E.getD j 0))=true then Cs (Fm so l m E j) ⟨E.getD j 0,E.getD (j+1) 0⟩else Fm so l m E j
theorem b38(so:Bool->Bool->Bool)(l m:List Rn):∀ (E:List Int) (out:List Rn) (j:Nat),j+1<E.length->Kj so l m (E.take (j+2)) out=(let o:=Kj so l m (E.take (j+1)) out;if so (B5 l (E.getD j 0)) (B5 m (E.getD j 0))=true then Cs o ⟨E.getD j 0,E.getD (j+1) 0⟩else o)
 |[],_,j,h=>by simp at h
 |[_],_,j,h=>by simp at h
 |a::b::e,out,0,_=>by simp[Kj]
 |a::b::e,out,j+1,h=>by
   have ih:=b38 so l m (b::e) (if so (B5 l a) (B5 m a)=true then Cs out ⟨a,b⟩else out) j (by simpa using h);simp only[e08,Kj,e0d]at ih ⊢;exact ih
theorem b6s(so:Bool->Bool->Bool)(l m:List Rn)(E:List Int):∀ j,j<E.length->Fm so l m E j=Kj so l m (E.take (j+1)) []
 |0,h=>by
   cases E with
   |nil=>simp at h
   |cons a e=>rfl
 |j+1,h=>by
   rw[Fm,b38 so l m E [] j h,b6s so l m E j om]
theorem a7b(so:Bool->Bool->Bool)(l m:List Rn):Ll so l m=Fm so l m (Eu l m) ((Eu l m).length-1):=by
 unfold Ll;generalize Eu l m=E;cases E with
 |nil=>rfl
 |cons a e=>
   rw[b6s so l m (a::e) _ (by simp)];rw[dz1 (by simp)]
theorem aj4(l:List Rn)(r:Rn):Cs l r≠[]:=by
 unfold Cs;split<;>simp;split<;>simp
theorem a3d:∀ L:List Rn,(Et L).length=2*L.length
 |[]=>rfl
 |r::L=>by
   have ih:=a3d L;unfold Et at ih ⊢;rw[List.flatMap_cons,e0l,ih,e15];simp;omega
def cdV(E:CallF)(v:AV)(args:List AV)(H:AH):Option (AV×AH):=match v with
 |.fn (.func f) first cap=>E f (first++args++cap) H
 |_=>none
theorem ao1(E:CallF)(x:Opd)(args:List Opd)(V:Opd->AV)(H:AH):Fq E (.calld x args) V H=cdV E (V x) (args.map V) H:=qq
theorem aj0(E:CallF)(f:FuncId)(a c args:List AV)(H:AH):cdV E (.fn (.func f) a c) args H=E f (a++args++c) H:=qq
theorem bi5(a b:Int)(H:AH):K tab A5 A4 97 [.emp,.agg [.int .i64 a,.int .i64 b]] H=some (.own H.length 2 0 1 1,H++[some [[.int .i64 a,.int .i64 b]]]):=by
 rw[Zi rfl rfl (db8 a b) H];simp only[U6,Vv,e1n,e1z,if_false,Nat.sub_zero,e2p,Uc,e2c,e2o,e1p,b5r,b5p,Wm,Wl,a6y]
theorem bi4(l:List Rn)(r:Rn):(Cs l r).length<=l.length+1:=by
 by_cases h:l=[]
 ·subst h;simp[Cs]
 ·obtain⟨m,q,rfl⟩:∃ m q,l=m++[q]:=⟨l.dropLast,l.getLast h,(dx1 h).symm⟩;rw[a4h];split<;>simp
theorem a12(so:Bool->Bool->Bool)(l m:List Rn)(E:List Int):∀ j,(Fm so l m E j).length<=j
 |0=>e2z _
 |j+1=>by
   have ih:=a12 so l m E j;rw[Fm];split
   ·have:=bi4 (Fm so l m E j) ⟨E.getD j 0,E.getD (j+1) 0⟩;omega
   ·omega
def Ba(w:List Rn):Sl Rn:=if w=[]then none else some w
theorem Gz(w:List Rn):els (Ba w)=w:=by
 unfold Ba;split
 ·rename_i h;rw[h];rfl
 ·rfl
def oV(k:Nat)(o:List Rn):AV:=if o=[]then .emp else .own k 2 0 o.length o.length
def oH(pre:AH)(n:Nat)(o:List Rn):AH:=if o=[]then pre else pre++List.replicate n none++[some (o.map Cv)]
theorem ap1(f:FuncId)(so:Bool->Bool->Bool)(hso:∀ a b H,K tab A5 A4 f [.bool a,.bool b] H=some (.bool (so a b),H))(l m:Sl Rn)(hn:(els l).length+(els m).length<=10000)(H:AH) :
 K tab A5 A4 248 [.agg [A0 A6 l,A0 A6 m],.fn (.func f) [] []] H=some (A0 A6 (Ba (Ll so (els l) (els m))),H):=by
 refine Ah cj3 rfl (by simp[Ac,A8,Ap]) (Ap _ _) ?_ H;have he:=d7u l m hn;rw[a7b];unfold Ba
 simp(disch:=try exact dq)only[a9o,t0,seval,if_pos,if_neg,Af,Ai,Aj,e1j,he];generalize hr:Ad _ _ _=r;have hEl:(Eu (els l) (els m)).length<=20000:=by
  rw[<-a3h];have h1:=Pi (Cy (Et (els l++els m))) _ (e2z _);rw[e1g,Lr,a3d,e0l]at h1;omega
 generalize hE:Eu (els l) (els m)=E at *;refine B7 hr (E.length-1)
  (λj=>[.top,.fn (.func f) [] [],.ptr 0 0 0 1,.top,oV 25 (Fm so (els l) (els m) E j),.fz (E.map λn=>[.int .i64 n]),.int .i64 ((j:Int)+1),.top])
  (λj=>oH [some [[A0 A6 l,A0 A6 m]]] 24 (Fm so (els l) (els m) E j)) (λj=>True) ?_ ?_ trivial ?_ ?_
 ·rfl
 ·rfl
 ·intro j hj _;have hj':((j:Int)+1<(E.length:Int)):=om;have u1:((j:Int)+1).toNat=j+1:=om;have u0:((j:Int)+1-1).toNat=j:=om;have hh1:=as2 l om (E.getD j 0);have hh2:=as2 m om (E.getD j 0);have hs:=hso (B5 (els l) (E.getD j 0)) (B5 (els m) (E.getD j 0));rw[Fm];have hd:∀ i,E.getD i default=E.getD i 0:=λ_=>rfl;generalize hx:E.getD j 0=x at *;generalize hy:E.getD (j+1) 0=y at *;have hol:=a12 so (els l) (els m) E j;generalize Fm so (els l) (els m) E j=o at *;cases hb:so (B5 (els l) x) (B5 (els m) x)with
  |false=>
    rw[hb]at hs;rw[if_neg Bool.false_ne_true];by_cases ho:o=[]
    ·subst ho;have v1:oV 25 []=.emp:=rfl;have v2:oH [some [[A0 A6 l,A0 A6 m]]] 24 []=[some [[A0 A6 l,A0 A6 m]]]:=rfl;rw[v1,v2]
     simp(disch:=try exact dq)only[t0,seval,Af,Ai,Aj,e1j,hj',u1,u0,hh1,hh2,hs,hd,hx,hy,ao1,aj0,e1t,e1s,Ax,e1q,e2b];rfl
    ·have v1:oV 25 o=.own 25 2 0 o.length o.length:=if_neg ho;have v2:oH [some [[A0 A6 l,A0 A6 m]]] 24 o=[some [[A0 A6 l,A0 A6 m]],none,none,none,none,none,none,none,none,none,none,none,none,none,none,none,none,none,none,none,none,none,none,none,none,some (o.map Cv)]:=(by unfold oH;rw[if_neg ho];rfl);rw[v1,v2]
     simp(disch:=try exact dq)only[t0,seval,Af,Ai,Aj,e1j,hj',u1,u0,hh1,hh2,hs,hd,hx,hy,ao1,aj0,e1t,e1s,Ax,e1q,e2b,F4];rfl
  |true=>
    rw[hb]at hs;rw[if_pos rfl];have w1:oV 25 (Cs o ⟨x,y⟩)=.own 25 2 0 (Cs o ⟨x,y⟩).length (Cs o ⟨x,y⟩).length:=if_neg (aj4 _ _);have w2:oH [some [[A0 A6 l,A0 A6 m]]] 24 (Cs o ⟨x,y⟩)=[some [[A0 A6 l,A0 A6 m]],none,none,none,none,none,none,none,none,none,none,none,none,none,none,none,none,none,none,none,none,none,none,none,none,some ((Cs o ⟨x,y⟩).map Cv)]:=(by unfold oH;rw[if_neg (aj4 _ _)];rfl);rw[w1,w2];by_cases ho:o=[]
    ·subst ho;have hbe:=bi5 x y;have v1:oV 25 []=.emp:=rfl;have v2:oH [some [[A0 A6 l,A0 A6 m]]] 24 []=[some [[A0 A6 l,A0 A6 m]]]:=rfl;rw[v1,v2,show Cs [] (⟨x,y⟩:Rn)=[⟨x,y⟩]from rfl]
     simp(disch:=try exact dq)only[t0,seval,Af,Ai,Aj,e1j,hbe,hj',u1,u0,hh1,hh2,hs,hd,hx,hy,ao1,aj0,e1t,e1s,Ax,e1q,e2b,F4];exact⟨rfl,rfl⟩
    ·have hlen:o.length<=1000000:=om;have hbo:=bi3 o ho hlen ⟨x,y⟩;have v1:oV 25 o=.own 25 2 0 o.length o.length:=if_neg ho;have v2:oH [some [[A0 A6 l,A0 A6 m]]] 24 o=[some [[A0 A6 l,A0 A6 m]],none,none,none,none,none,none,none,none,none,none,none,none,none,none,none,none,none,none,none,none,none,none,none,none,some (o.map Cv)]:=(by unfold oH;rw[if_neg ho];rfl);rw[v1,v2]
     simp(disch:=try exact dq)only[KQ 97 rfl,t0,seval,if_pos,if_neg,Af,Ai,Aj,e1j,An,hbo,hj',u1,u0,hh1,hh2,hs,hd,hx,hy,ao1,aj0,e1t,e1s,Ax,e1q,e2b,F4,Iq];rfl
 ·intro _;generalize Fm so (els l) (els m) E (E.length-1)=o at *;have ub:((E.length-1:Nat):Int)+1=(if E.length=0 then 1 else(E.length:Int)):=by split<;>omega
  by_cases ho:o=[]
  ·subst ho;have v1:oV 25 []=.emp:=rfl;have v2:oH [some [[A0 A6 l,A0 A6 m]]] 24 []=[some [[A0 A6 l,A0 A6 m]]]:=rfl;rw[v1,v2]
   simp(disch:=try exact dq)only[t0,seval,Af,Ai,Aj,e1j,e1q,Hk,e17,e1p]
  ·have v1:oV 25 o=.own 25 2 0 o.length o.length:=if_neg ho;have v2:oH [some [[A0 A6 l,A0 A6 m]]] 24 o=[some [[A0 A6 l,A0 A6 m]],none,none,none,none,none,none,none,none,none,none,none,none,none,none,none,none,none,none,none,none,none,none,none,none,some (o.map Cv)]:=(by unfold oH;rw[if_neg ho];rfl);rw[v1,v2]
   simp(disch:=try exact dq)only[t0,seval,Af,Ai,Aj,e1j,e1q,F4,Iq,a66,Hk,e17,e1p]
theorem c1v(a b:Bool)(H:AH):K tab A5 A4 287 [.bool a,.bool b] H=some (.bool (a||b),H):=by
 refine Ah ci0 rfl rfl rfl ?_ H;cases a<;>cases b
 all_goals simp(disch:=try exact dq)only[a9e,t0,seval,if_pos,if_neg,Af,Ai,Aj,e1j]
theorem c1u(l m:Sl Rn)(hn:(els l).length+(els m).length<=10000)(H:AH):K tab A5 A4 247 [A0 A6 l,A0 A6 m] H=some (A0 A6 (Ba (D8 (els l) (els m))),H):=by
 refine Ah cj4 rfl (by simp[Ac,A8,Ap]) (Ap _ _) ?_ H;have h:=ap1 287 (λa b=>a||b) c1v l m hn
 simp(disch:=try exact dq)only[a9p,t0,seval,if_pos,if_neg,Af,Ai,Aj,e1j,h];rfl
theorem c1s(a b:Bool)(H:AH):K tab A5 A4 249 [.bool a,.bool b] H=some (.bool (a&&!b),H):=by
 refine Ah cj2 rfl rfl rfl ?_ H;cases a<;>cases b
 all_goals simp(disch:=try exact dq)only[a9n,t0,seval,if_pos,if_neg,Af,Ai,Aj,e1j]
theorem a0c(l m:Sl Rn)(hn:(els l).length+(els m).length<=10000)(H:AH):K tab A5 A4 183 [A0 A6 l,A0 A6 m] H=some (A0 A6 (Ba (Da (els l) (els m))),H):=by
 refine Ah cm4 rfl (by simp[Ac,A8,Ap]) (Ap _ _) ?_ H;have h:=ap1 249 (λa b=>a&&!b) c1s l m hn
 simp(disch:=try exact dq)only[ab3,t0,seval,if_pos,if_neg,Af,Ai,Aj,e1j,h];rfl
theorem c1t(a b:Bool)(H:AH):K tab A5 A4 286 [.bool a,.bool b] H=some (.bool (a&&b),H):=by
 refine Ah ci1 rfl rfl rfl ?_ H;cases a<;>cases b
 all_goals simp(disch:=try exact dq)only[a9f,t0,seval,if_pos,if_neg,Af,Ai,Aj,e1j]
theorem b4k(l m:Sl Rn)(hn:(els l).length+(els m).length<=10000)(H:AH):K tab A5 A4 246 [A0 A6 l,A0 A6 m] H=some (A0 A6 (Ba (Ic (els l) (els m))),H):=by
 refine Ah cj5 rfl (by simp[Ac,A8,Ap]) (Ap _ _) ?_ H;have h:=ap1 286 (λa b=>a&&b) c1t l m hn
 simp(disch:=try exact dq)only[a9q,t0,seval,if_pos,if_neg,Af,Ai,Aj,e1j,h];rfl
theorem O9(r:Nat)(es:List (List PV))(l:List Int):(l.map cI).map (Ce r es)=l.map cI:=V2 _ _ _ λe he=>by obtain⟨p,_,rfl⟩:=e2r.1 he;rfl
theorem df7(l:List Int):((l.map cI).all λe=>decide (e.length=1))=true:=by
 rw[e16];intro e he;obtain⟨x,_,rfl⟩:=e2r.1 he;rfl
theorem d94(l:List Int)(hn:l.length<=1000000):Ev tab A5 A4 94 [.own 0 1 0 l.length l.length] [some (l.map cI)]=some (.own 1 1 0 l.length l.length,[some (l.map cI),some (l.map cI)]):=by
 refine Pt c8m ?_;rw[c6j];unfold Pj;simp only[];have hr:=Au l;have hn':(l.map cI).length<=1000000:=by rw[e1q];exact hn
 rw[if_pos ⟨trivial,trivial,trivial,by simp,df7 l,hr,hn',.inr trivial⟩]
def Kv(E:List Int):Nat->List Rn
 |0=>[]
 |j+1=>if 0<=E.getD j 0/\E.getD j 0<1073741824 then Cs (Kv E j) ⟨E.getD j 0,E.getD j 0+1⟩else Kv E j
theorem b76:∀ (l:List Int) (x:Int) (out:List Rn),Mw (l++[x]) out=(if 0<=x/\x<1073741824 then Cs (Mw l out) ⟨x,x+1⟩else Mw l out)
 |[],x,out=>rfl
 |n::l,x,out=>by rw[e1b,Mw,Mw,b76 l x]
theorem aw6(E:List Int):∀ j,j<=E.length->Kv E j=Mw (E.take j) []
 |0,_=>rfl
 |j+1,h=>by
   have e:E.take (j+1)=E.take j++[E.getD j 0]:=by
    rw[e0y,dx5,dy1 om];rfl
   rw[Kv,e,b76,aw6 E j om]
theorem aw5(E:List Int):∀ j,(Kv E j).length<=j
 |0=>e2z _
 |j+1=>by
   have ih:=aw5 E j;rw[Kv];split
   ·have:=bi4 (Kv E j) ⟨E.getD j 0,E.getD j 0+1⟩;omega
   ·omega
theorem ax1(l:List Int)(hn:l.length<=10000):Ev tab A5 A4 46 [.own 0 1 0 l.length l.length] [some (l.map cI)]=some (A0 A6 (Ba (Jl l)),[some (l.map cI)]):=by
 refine Cd l46 rfl ?_;have h1:=d94 l om;have h2:=b4m l om;have h3:=bf9 (Cy l) (by rw[Lr];omega);rw[Lr]at h3;have hdl:=Pi (Cy l) (Cy l).length (e2z _);rw[e1g,Lr]at hdl;have hdd:(dd (Cy l)).length+(l.length-(dd (Cy l)).length)=l.length:=om;have hof:Jl l=Kv (dd (Cy l)) (dd (Cy l)).length:=by
  rw[aw6 _ _ (e2z _),e1g]
  exact(b77 l _ (Ya l).1 (Ya l).2).symm
 rw[hof];generalize dd (Cy l)=E at *
 simp(disch:=try exact dq)only[g46,KQ 94 rfl,KQ 95 rfl,KQ 96 rfl,t0,seval,if_pos,if_neg,Af,Ai,Aj,e1j,An,h1,h2,h3,hdd,Au,B8,e1q,e0l,dz7];generalize hr:Ad _ _ _=r;have hZl:(E++List.replicate (l.length-E.length) 0).length=l.length:=by rw[e0l,dz7];exact hdd
 have hge:∀ j,j<E.length->((E++List.replicate (l.length-E.length) 0).map cI)[j]?=some [.int .i64 (E.getD j 0)]:=by
  intro j hj;rw[e0t,List.getElem?_append_left hj,dx5,dy1 hj];rfl
 have hZ:((E++List.replicate (l.length-E.length) 0).map cI).length=l.length:=by rw[e1q];exact hZl
 have hrZ:=Au (E++List.replicate (l.length-E.length) 0);obtain⟨zp,hZt⟩:∃ zp,Ct ((E++List.replicate (l.length-E.length) 0).map cI)=some zp:=⟨_,Px _⟩;have hZf:=λr es=>O9 r es (E++List.replicate (l.length-E.length) 0)
 generalize (E++List.replicate (l.length-E.length) 0).map cI=Z at *;refine B7 hr E.length
  (λj=>[.top,.top,oV 2 (Kv E j),.top,.top,.own 1 1 0 E.length l.length,.int .i64 E.length,.int .i64 j,.top])
  (λj=>oH [some (l.map cI),some Z] 0 (Kv E j)) (λj=>True) ?_ ?_ trivial ?_ ?_
 ·rfl
 ·rfl
 ·intro j hj _;have hj':((j:Int)<(E.length:Int)):=om;have u0:(j:Int).toNat=j:=om;have fz':=hge j hj;have hol:=aw5 E j;rw[Kv];generalize hx:E.getD j 0=x at *;generalize Kv E j=o at *;have p1:oH [some (l.map cI),some Z] 0 []=[some (l.map cI),some Z]:=rfl;by_cases c:0<=x/\x<1073741824
  ·rw[if_pos c];obtain⟨c1,c2⟩:=c;have w1:oV 2 (Cs o ⟨x,x+1⟩)=.own 2 2 0 (Cs o ⟨x,x+1⟩).length (Cs o ⟨x,x+1⟩).length:=if_neg (aj4 _ _);have w2:oH [some (l.map cI),some Z] 0 (Cs o ⟨x,x+1⟩)=[some (l.map cI),some Z,some ((Cs o ⟨x,x+1⟩).map Cv)]:=(by unfold oH;rw[if_neg (aj4 _ _)];rfl);rw[w1,w2];by_cases ho:o=[]
   ·subst ho;have hbe:=bi5 x (x+1);rw[p1,show oV 2 []=.emp from rfl,show Cs [] (⟨x,x+1⟩:Rn)=[⟨x,x+1⟩]from rfl]
    simp(disch:=try exact dq)only[t0,seval,Af,Ai,Aj,e1j,hbe,c1,c2,hj',u0,fz',hZ,hx,Au,hrZ,F4,Iq,Ax,e1q,e2b];exact⟨rfl,rfl⟩
   ·have hbo:=bi3 o ho om ⟨x,x+1⟩;have v1:oV 2 o=.own 2 2 0 o.length o.length:=if_neg ho;have v2:oH [some (l.map cI),some Z] 0 o=[some (l.map cI),some Z,some (o.map Cv)]:=(by unfold oH;rw[if_neg ho];rfl);rw[v1,v2]
    simp(disch:=try exact dq)only[KQ 97 rfl,t0,seval,if_pos,if_neg,Af,Ai,Aj,e1j,An,hbo,c1,c2,hj',u0,fz',hZ,hx,Au,hrZ,F4,Iq,Ax,e1q,e2b];rfl
  ·rw[if_neg c];by_cases ho:o=[]
   ·subst ho;rw[p1,show oV 2 []=.emp from rfl];rcases Int.lt_or_le x 0 with d1|d1
    ·simp(disch:=try exact dq)only[t0,seval,Af,Ai,Aj,e1j,d1,hj',u0,fz',hZ,hx,Au,hrZ,F4,Iq,Ax,e1q,e2b];rfl
    ·have d2:¬ x<1073741824:=λh=>c ⟨d1,h⟩
     simp(disch:=try exact dq)only[t0,seval,Af,Ai,Aj,e1j,d1,d2,hj',u0,fz',hZ,hx,Au,hrZ,F4,Iq,Ax,e1q,e2b];rfl
   ·have v1:oV 2 o=.own 2 2 0 o.length o.length:=if_neg ho;have v2:oH [some (l.map cI),some Z] 0 o=[some (l.map cI),some Z,some (o.map Cv)]:=(by unfold oH;rw[if_neg ho];rfl);rw[v1,v2];rcases Int.lt_or_le x 0 with d1|d1
    ·simp(disch:=try exact dq)only[t0,seval,Af,Ai,Aj,e1j,d1,hj',u0,fz',hZ,hx,Au,hrZ,F4,Iq,Ax,e1q,e2b];rfl
    ·have d2:¬ x<1073741824:=λh=>c ⟨d1,h⟩
     simp(disch:=try exact dq)only[t0,seval,Af,Ai,Aj,e1j,d1,d2,hj',u0,fz',hZ,hx,Au,hrZ,F4,Iq,Ax,e1q,e2b];rfl
 ·intro _;unfold Ba;generalize Kv E E.length=o at *;by_cases ho:o=[]
  ·subst ho;have p1:oH [some (l.map cI),some Z] 0 []=[some (l.map cI),some Z]:=rfl;rw[p1,show oV 2 []=.emp from rfl]
   simp(disch:=try exact dq)only[t0,seval,Af,Ai,Aj,e1j,e2k,hZ,hZt,hZf,O9,Au,B8]
  ·have v1:oV 2 o=.own 2 2 0 o.length o.length:=if_neg ho;have v2:oH [some (l.map cI),some Z] 0 o=[some (l.map cI),some Z,some (o.map Cv)]:=(by unfold oH;rw[if_neg ho];rfl);rw[v1,v2]
   simp(disch:=try exact dq)only[t0,seval,Af,Ai,Aj,e1j,e2k,hZ,hrZ,hZt,hZf,O9,Au,B8,F4,Iq,a66]
theorem b72:Ev tab A5 A4 46 [.own 0 1 0 0 0] [some []]=some (.emp,[some []]):=ax1 [] (by decide)
def Bq(rs:List Nat)(c:Nat)(H:AH):Option (AV×AH)->Option (List Loc×List Loc×Nat×AV×AH)
 |some (x,H1)=>if rs.length<=H1.length then(if(∀ r∈rs,r<c)/\c+(H1.length-rs.length)<=H.length then some ((rs++List.range' c (H1.length-rs.length)).map .con,(rs++List.range' c (H1.length-rs.length)).map .con++(rs++List.range' c (H1.length-rs.length)).map .len,c+(H1.length-rs.length),ren (Bg (rs++List.range' c (H1.length-rs.length))) x,Cm H (rs++List.range' c (H1.length-rs.length)) (H1.map λo=>o.map (Av (Bg (rs++List.range' c (H1.length-rs.length))))))else none)else none
 |none=>none
def Bo(E:CallF)(f:FuncId)(args:List AV)(c:Nat)(H:AH)(rs:List Nat):Option (List Loc×List Loc×Nat×AV×AH):=
 if rs.Nodup/\(∀ r∈rs,r<H.length)then Bq rs c H (E f (Ca (B9 rs) args) (rs.map λr=>(H.at r).map (Av (B9 rs))))else none
theorem Eg{f:FuncId}(hl:A4 f=false)(E:CallF)(a:List Opd)(c:Nat)(V:Opd->AV)(H:AH)(args:List AV):Kc A4 E f a c V H args false=Bo E f (a.map V) c H (Ji H (H.length*4+40) (Cb (a.map V)) []):=by
 unfold Kc;rw[if_neg (by simp[hl])];unfold D5 Kd Bo Bq;simp only[hl,e0f,false_and,if_false];split
 ·rename_i h;split at h
  ·rename_i h2;rw[if_pos h2];split at h
   ·rename_i x H1 h3;rw[h3];split at h
    ·rename_i h4;obtain⟨rfl,rfl,rfl⟩:=(by simpa using h);simp only[if_pos h4]
    ·cases h
   ·cases h
  ·cases h
 ·rename_i h;split at h
  ·rename_i h2;rw[if_pos h2];split at h
   ·rename_i x H1 h3;rw[h3];split at h
    ·cases h
    ·rename_i h4;simp only[if_neg h4]
   ·rename_i h3;rw[h3]
  ·rename_i h2;rw[if_neg h2]
theorem bc6(r:Nat)(es:List (List PV))(q i j t:Nat)(h:q≠r):frz r es (.ptr q i j t)=.ptr q i j t:=by
 simp only[frz,if_neg h]
theorem tx:type_of% @t0/\type_of% @Af/\type_of% @Ai/\type_of% @Aj/\type_of% @bi2/\type_of% @Hk/\type_of% @Jf/\type_of% @bc6:=⟨@t0,@Af,@Ai,@Aj,@bi2,@Hk,@Jf,@bc6⟩
def a13:CallF:=λ_ _ _=>none
def M2:FuncId->Bool:=λ_=>false
theorem a7c(P:Program):Gd P a13:=λ_ _ _ _ _ h=>by cases h
mutual
theorem dc3:∀ x:AV,Cw x=[]->A8 x=true
 |.own ..,h=>by simp[Cw]at h
 |.ptr ..,h=>by simp[Cw]at h
 |.agg cs,h=>by simp only[Cw]at h;simp only[A8];exact Yg cs h
 |.tuple cs,h=>by simp only[Cw]at h;simp only[A8];exact Yg cs h
 |.fn f first cap,h=>by
   simp only[Cw,List.append_eq_nil_iff]at h;simp only[A8,Yg first h.1,Yg cap h.2,Bool.and_self]
 |.top,_=>by simp[A8]
 |.bool _,_=>by simp[A8]
 |.int _ _,_=>by simp[A8]
 |.str _,_=>by simp[A8]
 |.nilp,_=>by simp[A8]
 |.emp,_=>by simp[A8]
 |.fz _,_=>by simp[A8]
 |.fptr _,_=>by simp[A8]
 |.nilfn,_=>by simp[A8]
theorem Yg:∀ xs:List AV,Cb xs=[]->Ac xs=true
 |[],_=>by simp[Ac]
 |x::xs,h=>by
   simp only[Cb,List.append_eq_nil_iff]at h;simp only[Ac,dc3 x h.1,Yg xs h.2,Bool.and_self]
end
theorem b5o(τ:Nat->Option Nat){o:AObj}(h:Cf (some o)=[]):Av τ o=o:=by
 simp only[Cf,List.flatMap_eq_nil_iff]at h;unfold Av
 conv=>rhs;rw[<-List.map_id o]
 exact e0a λe he=>Kt τ _ (Yg e (h e he))
theorem a4p(e:List PV):Ac (e.map emb)=true:=by
 induction e with
 |nil=>rfl
 |cons x l ih=>rw[e2c,Ac,ih,aj5];rfl
theorem Jg(l:List (List PV)):Cf (some (l.map λe=>e.map emb))=[]:=K4 l (λe=>e.map emb) λe=>Lt _ (a4p e)
theorem Ks(τ:Nat->Option Nat)(l:List (List PV)):Av τ (l.map λe=>e.map emb)=l.map λe=>e.map emb:=Mr τ l _ λe=>a4p e
theorem T0{sz:Nat}(l:List (List PV))(h:(l.all λe=>decide (e.length=sz))=true):((l.map λe=>e.map emb).all λe=>decide (e.length=sz))=true:=by
 rw[List.all_map];rw[e16]at h ⊢;intro e he
 have:=h e he;simpa using this
theorem d95(x:List PV)(l:List (List PV))(hs:((x::l).all λe=>decide (e.length=1))=true)(hn:(x::l).length<=1000000):Ev H9 a13 M2 94 [.fz (x::l)] []=some (.own 0 1 0 (x::l).length (x::l).length,[some ((x::l).map λe=>e.map emb)]):=by
 refine Cd b8f rfl ?_;have h1:=T0 l (by rw[e2h,e14]at hs;exact hs.2);have h2:decide (x.length=1)=true:=by rw[e2h,e14]at hs;exact hs.1
 have h3:=Jg l;rw[e15]at hn;have h4:(l.length+1)*8<=1000000000000:=om;have h5:l.length<=999999999:=om;have h6:Cb (x.map emb)=[]:=Lt _ (a4p x);have h7:=λτ=>Ks τ (x::l);rw[e2c]at h7;have h8:=Jg (x::l);rw[e2c]at h8
 simp(disch:=try exact dq)only[tx,seval,g94,h1,h2,h3,h4,h5,h6,h7,h8,e2f,Bool.and_self,eq_self,and_self,if_true]
theorem d90(x:List AV)(l:AObj)(hs:((x::l).all λe=>decide (e.length=1))=true)(hr:Cf (some (x::l))=[])(hn:(x::l).length<=1000000):Ev H9 a13 M2 94 [.own 0 1 0 (x::l).length (x::l).length] [some (x::l)]=some (.own 1 1 0 (x::l).length (x::l).length,[some (x::l),some (x::l)]):=by
 refine Cd b8f rfl ?_;have h7:=λτ=>b5o τ hr;have h4:(l.length+1)*8<=1000000000000:=by rw[e15]at hn;omega
 have h5:l.length<=999999999:=by rw[e15]at hn;omega
 have h9:List.take (l.length+1) (x::l)=x::l:=dz1 (by simp);rw[e2h]at hs
 simp(disch:=try exact dq)only[tx,seval,g94,hs,hr,h4,h5,h7,h9,e2f,Bool.and_self,eq_self,and_self,if_true]
theorem d91(x:List PV)(l:List (List PV))(hs:((x::l).all λe=>decide (e.length=5))=true)(hn:(x::l).length<=1000000):Ev H9 a13 M2 234 [.fz (x::l)] []=some (.own 0 5 0 (x::l).length (x::l).length,[some ((x::l).map λe=>e.map emb)]):=by
 refine Cd b8h rfl ?_;have h1:=T0 l (by rw[e2h,e14]at hs;exact hs.2);have h2:decide (x.length=5)=true:=by rw[e2h,e14]at hs;exact hs.1
 have h3:=Jg l;rw[e15]at hn;have h4:(l.length+1)*56<=1000000000000:=om;have h5:l.length<=999999999:=om;have h6:Cb (x.map emb)=[]:=Lt _ (a4p x);have h7:=λτ=>Ks τ (x::l);rw[e2c]at h7;have h8:=Jg (x::l);rw[e2c]at h8
 simp(disch:=try exact dq)only[tx,seval,a2h,h1,h2,h3,h4,h5,h6,h7,h8,e2f,Bool.and_self,eq_self,and_self,if_true]
theorem d8z(x:List AV)(l:AObj)(hs:((x::l).all λe=>decide (e.length=5))=true)(hr:Cf (some (x::l))=[])(hn:(x::l).length<=1000000):Ev H9 a13 M2 234 [.own 0 5 0 (x::l).length (x::l).length] [some (x::l)]=some (.own 1 5 0 (x::l).length (x::l).length,[some (x::l),some (x::l)]):=by
 refine Cd b8h rfl ?_;have h7:=λτ=>b5o τ hr;have h4:(l.length+1)*56<=1000000000000:=by rw[e15]at hn;omega
 have h5:l.length<=999999999:=by rw[e15]at hn;omega
 have h9:List.take (l.length+1) (x::l)=x::l:=dz1 (by simp);rw[e2h]at hs
 simp(disch:=try exact dq)only[tx,seval,a2h,hs,hr,h4,h5,h7,h9,e2f,Bool.and_self,eq_self,and_self,if_true]
theorem d8y:C Tryz.prog 94 [.own 0 1 0 0 0] [some []] (λy G=>y=.own 1 1 0 0 0/\G=[some [],some []]):=by
 refine bm7 h94.1 rfl ?_;show W _ _ (ACode.seq (ACode.reg [{ dst:=some 2,guard:=none,op:=AOp.mv (Opd.c AV.emp) }]) (ACode.seq (ACode.seq (ACode.reg [{ dst:=some 3,guard:=none,op:=AOp.mv (Opd.t 0) },{ dst:=some 4,guard:=none,op:=AOp.eqnil false (Opd.t 3) }]) (ACode.cond (Opd.t 4) (ACode.seq (ACode.reg [{ dst:=some 2,guard:=none,op:=AOp.mv (Opd.c AV.emp) }]) ACode.ret) ACode.skip)) (ACode.seq (ACode.reg [{ dst:=some 5,guard:=none,op:=AOp.bslice 1 0 [AV.int IntKind.i64 0] [] },{ dst:=some 6,guard:=none,op:=AOp.mv (Opd.t 0) },{ dst:=some 7,guard:=none,op:=AOp.append 1 8 [AV.int IntKind.i64 0] (Opd.t 5) (Opd.t 6) },{ dst:=some 2,guard:=none,op:=AOp.mv (Opd.t 7) }]) ACode.ret))) (an9 [ARes.tmp 2] _) [.own 0 1 0 0 0,.top,.top,.top,.top,.top,.top,.top] _
 refine di8 ?_;simp only[ak4,ak7,ak5,an7,an6,an8,ak8,ak6,a8a,a8b,a81,a7f,an1,a10,a11,a1a,a1b,a3x,a3w,a3v,a4g,a41,a49,a45,a44,a4f,a47,a4e,a48,a4a,a4b,a4c,a4d,a43,a42,a3u,a40,a3z,a3y,Zu,a3j,a0e,Cj,Ci,Ck,a15,a16,a2z,a30,a2y,a1u,a33,a1k,a1n,X5,a1m,a1d,a1f,Ax,a1x,an2,ag8,ag9,a6o,a0v,dy5,dy3,e13,List.set_cons_succ,e0o,e1q,e15,e1n,e08,e26,e0c,e23,e2c,e2o,emb,Ge,e1p,e1b,e1s,e09,e0b,e0r,dy7,if_true,if_false,e0f,Hm,Ke,M9,Ou,ge_iff_le,e0s,exists_eq_left',e0w,Bool.not_eq_false',e2d,e25,decide_true,decide_false,true_implies,false_implies,forall_const,and_true,true_and,not_true_eq_false,not_false_eq_true,Nat.reduceAdd,Nat.reduceSub,Nat.reduceMul,Nat.reduceLeDiff,Nat.reduceEqDiff,Nat.reduceBEq,e2x,e2z,Int.reduceLE,Int.reduceLT,Int.reduceEq,Int.reduceNe,Int.reduceAdd,Int.reduceSub,Int.reduceToNat,Int.reduceNeg,↓reduceIte,reduceCtorEq,e10,e2p,e2s,an4,a3r,a3s,a01,a04,a03,a3i,a1c,J3,J4,a06,a08,a09,a07,Y9,a3f,a3a,cellsOf,cellA,a0u,a0w,a1i,a1j,e2h,List.all_nil,e2f,e2e,lay,e0l,e1m,dz7,ne_eq,Dr,an3,a19,a18,a14,a7e,a4j,a4n,a4i,a4k,a4l,a4m,a4o,Ac,Bg,Bool.bne_false,Bool.bne_true,a7h];rw[if_neg (Nat.lt_irrefl 0),a14];intro b;cases b
 ·simp only[ak4,ak7,ak5,an7,an6,an8,ak8,ak6,a8a,a8b,a81,a7f,an1,a10,a11,a1a,a1b,a3x,a3w,a3v,a4g,a41,a49,a45,a44,a4f,a47,a4e,a48,a4a,a4b,a4c,a4d,a43,a42,a3u,a40,a3z,a3y,Zu,a3j,a0e,Cj,Ci,Ck,a15,a16,a2z,a30,a2y,a1u,a33,a1k,a1n,X5,a1m,a1d,a1f,Ax,a1x,an2,ag8,ag9,a6o,a0v,dy5,dy3,e13,List.set_cons_succ,e0o,e1q,e15,e1n,e08,e26,e0c,e23,e2c,e2o,emb,Ge,e1p,e1b,e1s,e09,e0b,e0r,dy7,if_true,if_false,e0f,Hm,Ke,M9,Ou,ge_iff_le,e0s,exists_eq_left',e0w,Bool.not_eq_false',e2d,e25,decide_true,decide_false,true_implies,false_implies,forall_const,and_true,true_and,not_true_eq_false,not_false_eq_true,Nat.reduceAdd,Nat.reduceSub,Nat.reduceMul,Nat.reduceLeDiff,Nat.reduceEqDiff,Nat.reduceBEq,e2x,e2z,Int.reduceLE,Int.reduceLT,Int.reduceEq,Int.reduceNe,Int.reduceAdd,Int.reduceSub,Int.reduceToNat,Int.reduceNeg,↓reduceIte,reduceCtorEq,e10,e2p,e2s,an4,a3r,a3s,a01,a04,a03,a3i,a1c,J3,J4,a06,a08,a09,a07,Y9,a3f,a3a,cellsOf,cellA,a0u,a0w,a1i,a1j,e2h,List.all_nil,e2f,e2e,lay,e0l,e1m,dz7,ne_eq,Dr,an3,a19,a18,a14,a7e,a4j,a4n,a4i,a4k,a4l,a4m,a4o,Ac,Bg,Bool.bne_false,Bool.bne_true,a7h,dk7,bh3,bj7,b29,bj8,bk2,e0u,List.flatten_nil,e1s,e1t];have hc:chunks 1 0 ([]:List AV)=[]:=rfl;simp only[hc,e1n,if_true,b29,e2o,e1t,ak4,ak7,ak5,an7,an6,an8,ak8,ak6,a8a,a8b,a81,a7f,an1,a10,a11,a1a,a1b,a3x,a3w,a3v,a4g,a41,a49,a45,a44,a4f,a47,a4e,a48,a4a,a4b,a4c,a4d,a43,a42,a3u,a40,a3z,a3y,Zu,a3j,a0e,Cj,Ci,Ck,a15,a16,a2z,a30,a2y,a1u,a33,a1k,a1n,X5,a1m,a1d,a1f,Ax,a1x,an2,ag8,ag9,a6o,a0v,dy5,dy3,e13,List.set_cons_succ,e0o,e1q,e15,e1n,e08,e26,e0c,e23,e2c,e2o,emb,Ge,e1p,e1b,e1s,e09,e0b,e0r,dy7,if_true,if_false,e0f,Hm,Ke,M9,Ou,ge_iff_le,e0s,exists_eq_left',e0w,Bool.not_eq_false',e2d,e25,decide_true,decide_false,true_implies,false_implies,forall_const,and_true,true_and,not_true_eq_false,not_false_eq_true,Nat.reduceAdd,Nat.reduceSub,Nat.reduceMul,Nat.reduceLeDiff,Nat.reduceEqDiff,Nat.reduceBEq,e2x,e2z,Int.reduceLE,Int.reduceLT,Int.reduceEq,Int.reduceNe,Int.reduceAdd,Int.reduceSub,Int.reduceToNat,Int.reduceNeg,↓reduceIte,reduceCtorEq,e10,e2p,e2s,an4,a3r,a3s,a01,a04,a03,a3i,a1c,J3,J4,a06,a08,a09,a07,Y9,a3f,a3a,cellsOf,cellA,a0u,a0w,a1i,a1j,e2h,List.all_nil,e2f,e2e,lay,e0l,e1m,dz7,ne_eq,Dr,an3,a19,a18,a14,a7e,a4j,a4n,a4i,a4k,a4l,a4m,a4o,Ac,Bg,Bool.bne_false,Bool.bne_true,a7h];exact⟨_,_,Wk.refl _ _ _,rfl,rfl⟩
 ·simp only[ak4,ak7,ak5,an7,an6,an8,ak8,ak6,a8a,a8b,a81,a7f,an1,a10,a11,a1a,a1b,a3x,a3w,a3v,a4g,a41,a49,a45,a44,a4f,a47,a4e,a48,a4a,a4b,a4c,a4d,a43,a42,a3u,a40,a3z,a3y,Zu,a3j,a0e,Cj,Ci,Ck,a15,a16,a2z,a30,a2y,a1u,a33,a1k,a1n,X5,a1m,a1d,a1f,Ax,a1x,an2,ag8,ag9,a6o,a0v,dy5,dy3,e13,List.set_cons_succ,e0o,e1q,e15,e1n,e08,e26,e0c,e23,e2c,e2o,emb,Ge,e1p,e1b,e1s,e09,e0b,e0r,dy7,if_true,if_false,e0f,Hm,Ke,M9,Ou,ge_iff_le,e0s,exists_eq_left',e0w,Bool.not_eq_false',e2d,e25,decide_true,decide_false,true_implies,false_implies,forall_const,and_true,true_and,not_true_eq_false,not_false_eq_true,Nat.reduceAdd,Nat.reduceSub,Nat.reduceMul,Nat.reduceLeDiff,Nat.reduceEqDiff,Nat.reduceBEq,e2x,e2z,Int.reduceLE,Int.reduceLT,Int.reduceEq,Int.reduceNe,Int.reduceAdd,Int.reduceSub,Int.reduceToNat,Int.reduceNeg,↓reduceIte,reduceCtorEq,e10,e2p,e2s,an4,a3r,a3s,a01,a04,a03,a3i,a1c,J3,J4,a06,a08,a09,a07,Y9,a3f,a3a,cellsOf,cellA,a0u,a0w,a1i,a1j,e2h,List.all_nil,e2f,e2e,lay,e0l,e1m,dz7,ne_eq,Dr,an3,a19,a18,a14,a7e,a4j,a4n,a4i,a4k,a4l,a4m,a4o,Ac,Bg,Bool.bne_false,Bool.bne_true,a7h];exact⟨_,_,di3 1,rfl,rfl⟩
theorem d96{args:List AV}{H:AH}{y:AV}{G:AH}(h:Pj 1 true 94 args H=some (y,G)):C Tryz.prog 94 args H (λy' G'=>y'=y/\G'=G):=by
 unfold Pj at h;split at h
 ·rename_i es;split at h
  ·rename_i hc;cases h
   match es,hc with
   |x::l,hc=>exact Tk Tv (a7c _) _ _ _ _ _ (d95 x l hc.1 hc.2.1)
  ·cases h
 ·rename_i r s n t o;split at h
  ·rename_i hc;obtain⟨rfl,rfl,rfl,rfl,h1,h2,h3,h4⟩:=hc;cases h
   match o,h1,h2,h3,h4 with
   |x::l,h1,h2,h3,h4=>exact Tk Tv (a7c _) _ _ _ _ _ (d90 x l h1 h2 h3)
   |[],h1,h2,h3,h4=>exact d8y
  ·cases h
 ·cases h
theorem d93{args:List AV}{H:AH}{y:AV}{G:AH}(h:Pj 5 false 234 args H=some (y,G)):C Tryz.prog 234 args H (λy' G'=>y'=y/\G'=G):=by
 unfold Pj at h;split at h
 ·rename_i es;split at h
  ·rename_i hc;cases h
   match es,hc with
   |x::l,hc=>exact Tk Tv (a7c _) _ _ _ _ _ (d91 x l hc.1 hc.2.1)
  ·cases h
 ·rename_i r s n t o;split at h
  ·rename_i hc;obtain⟨rfl,rfl,rfl,rfl,h1,h2,h3,h4⟩:=hc;cases h
   match o,h1,h2,h3,h4 with
   |x::l,h1,h2,h3,h4=>exact Tk Tv (a7c _) _ _ _ _ _ (d8z x l h1 h2 h3)
   |[],h1,h2,h3,h4=>rcases h4 with h|h<;>cases h
  ·cases h
 ·cases h
def N3(sz:Nat):CallF:=λ_ args H=>match args,H with
 |[.emp,.int .i64 n],[]=>if 0<=n/\n<=1000000 then some (.own 0 sz 0 0 0,[some []])else none
 |_,_=>none
def It:CallF:=λf args H=>if f=93 then N3 6 f args H else if f=307 then N3 2 f args H else none
theorem a6k{p:PV}{a:List (List PV)}(h:Gv (emb p)=some a):(p=.emp/\a=[])\/p=.fz a:=by
 cases p<;>simp[emb,Gv]at h<;>simp[h]
theorem b5a:∀ {es:List (List PV)} {r:List (List PV)},Wf es=some r->∃ L:List (PV×List (List PV)),es=L.map (λp=>[p.1])/\(∀ p∈L,Gv (emb p.1)=some p.2)/\r=L.flatMap (·.2)
 |[],r,h=>by cases h;exact⟨[],rfl,λp hp=>absurd hp (e1a),rfl⟩
 |e::es,r,h=>by
   match e,h with
   |[x],h=>
     rw[Wf]at h;obtain⟨a,ha,h⟩:=dy6.1 h;obtain⟨b,hb,rfl⟩:=dz0.1 h;obtain⟨L,rfl,hL,rfl⟩:=b5a hb;exact⟨(x,a)::L,rfl,λp hp=>(e2g.1 hp).elim (λe=>e▸ha) (hL p),rfl⟩
theorem b7w:∀ e:List PV,(e.map emb).mapM Dc=some e
 |[]=>rfl
 |p::e=>by rw[e2c,List.mapM_cons,b40,b7w e];rfl
theorem a65(l:List (List PV)):Ct (l.map λe=>e.map emb)=some l:=by
 have h:=Lp (λe:List PV=>e.map emb) (λe=>e) b7w l
 rwa [List.map_id']at h
theorem af7(L:List (PV×List (List PV)))(i:Nat)(hi:i<L.length):(L.take (i+1)).flatMap (·.2)=(L.take i).flatMap (·.2)++(L.getD i default).2:=by
 rw[En hi,List.flatMap_append];simp
theorem da1(L:List (PV×List (List PV)))(hL:∀ p∈L,Gv (emb p.1)=some p.2)(hn:L.length<=1000000)(hs:((L.flatMap (·.2)).all λe=>decide (e.length=6))=true)(hl:(L.flatMap (·.2)).length<=1000000):Ev H9 It M2 45 [.fz (L.map λp=>[p.1])] []=some (.fz (L.flatMap (·.2)),[]):=by
 refine Cd b8g rfl ?_;have hle:∀ i,i<=L.length->((L.take i).flatMap (·.2)).length<=1000000:=by
  intro i hi;have h1:L.flatMap (·.2)=(L.take i).flatMap (·.2)++(L.drop i).flatMap (·.2):=by rw[<-List.flatMap_append,dz9]
  rw[h1,e0l]at hl;omega
 simp(disch:=try exact dq)only[tx,seval,g45];generalize hr:Ad _ _ _=r;have hz:∀ i,i<=L.length->(((L.take i).flatMap (·.2)).all λe=>decide (e.length=6))=true:=by
  intro i hi;have h1:L.flatMap (·.2)=(L.take i).flatMap (·.2)++(L.drop i).flatMap (·.2):=by rw[<-List.flatMap_append,dz9]
  rw[h1,List.all_append,e14]at hs;exact hs.1
 refine B7 hr L.length (λi=>[.fz (L.map λp=>[p.1]),.top,.int .i64 ((L.take i).flatMap (·.2)).length,.top,.top,.top,.fz (L.map λp=>[p.1]),.int .i64 L.length,.int .i64 i,.top,.top,.top,.top,.top,.top]) (λ_=>[]) (λ_=>True) ?_ rfl trivial ?_ ?_
 ·rfl
 ·intro i hi _;have hi':((i:Int)<(L.length:Int)):=om;have hmem:L.getD i default∈L:=by
   rw[dx5,dy1 hi];exact e1c _
  have hp:=hL _ hmem;have h2:=hle (i+1) om;rw[af7 L i hi]at h2 ⊢;generalize hx:L.getD i default=xa at *;obtain⟨x,a⟩:=xa;simp only[]at hp h2 ⊢
  generalize (L.take i).flatMap (·.2)=o at *;rw[e0l]at h2 ⊢;have hnn:¬ ((o.length:Int)+(a.length:Int)<0):=om;rcases a6k hp with ⟨rfl,rfl⟩|rfl
  ·have hnn2:¬ ((o.length:Int)<0):=om
   simp(disch:=try exact dq)only[tx,seval,hi',hx,Ax,hnn2,e1q,e2b,Int.add_zero,e1n,e2p]
   try rfl
  ·simp(disch:=try exact dq)only[tx,seval,hi',hx,Ax,hnn,e1q,e2b]
   try rfl
 ·intro _;rw[e1g];have hgr:Ev H9 It M2 93 [.emp,.int .i64 (L.flatMap (·.2)).length] []=some (.own 0 6 0 0 0,[some []]):=by
   refine Pt (kk) ?_;rw[show It 93 [.emp,.int .i64 (L.flatMap (·.2)).length] []=N3 6 93 [.emp,.int .i64 (L.flatMap (·.2)).length] []from if_pos rfl];unfold N3;simp only[];rw[if_pos om]
  have hki:=Zj H9 It M2 (f:=93) rfl
  simp(disch:=try exact dq)only[tx,seval,e2k,hki,An,hgr];generalize hr2:Ad _ _ _=r2;refine B7 hr2 L.length (λi=>[.top,.top,.top,.top,.own 0 6 0 ((L.take i).flatMap (·.2)).length ((L.take i).flatMap (·.2)).length,.top,.top,.top,.top,.top,.top,.fz (L.map λp=>[p.1]),.int .i64 L.length,.int .i64 i,.top]) (λi=>[some (((L.take i).flatMap (·.2)).map λe=>e.map emb)]) (λ_=>True) ?_ ?_ trivial ?_ ?_
  ·rfl
  ·rfl
  ·intro i hi _;have hi':((i:Int)<(L.length:Int)):=om;have hmem:L.getD i default∈L:=by
    rw[dx5,dy1 hi];exact e1c _
   have hp:=hL _ hmem;have h2:=hle (i+1) om;have h3:=hz (i+1) om;rw[af7 L i hi]at h2 h3 ⊢;generalize hx:L.getD i default=xa at *;obtain⟨x,a⟩:=xa;simp only[]at hp h2 h3 ⊢
   generalize (L.take i).flatMap (·.2)=o at *;rw[List.all_append,e14]at h3;have h4:=T0 a h3.2;rw[e0l]at h2;rcases a6k hp with ⟨rfl,rfl⟩|rfl
   ·simp(disch:=try exact dq)only[tx,seval,hi',hx,Ax,Jg,Ks,e1q,e2b,e1t]
    try rfl
   ·have hap:(o.map λe=>e.map emb)++(a.map λe=>e.map emb)=(o++a).map λe=>e.map emb:=by rw[e1w]
    simp(disch:=try exact dq)only[tx,seval,hi',hx,Ax,h4,hap,Jg,Ks,e1q,e0l,e2b]
    try rfl
  ·intro _;rw[e1g]
   simp(disch:=try exact dq)only[tx,seval,e2k,a65,Jg,Ks,e1q];rw[e1g]
theorem d9z(L:List (PV×List (List PV)))(hL:∀ p∈L,Gv (emb p.1)=some p.2)(hn:L.length<=1000000)(hs:((L.flatMap (·.2)).all λe=>decide (e.length=2))=true)(hl:(L.flatMap (·.2)).length<=1000000):Ev H9 It M2 302 [.own 0 1 0 L.length L.length] [some (L.map λp=>[emb p.1])]=some (.fz (L.flatMap (·.2)),[some (L.map λp=>[emb p.1])]):=by
 refine Cd cb6 rfl ?_;have hle:∀ i,i<=L.length->((L.take i).flatMap (·.2)).length<=1000000:=by
  intro i hi;have h1:L.flatMap (·.2)=(L.take i).flatMap (·.2)++(L.drop i).flatMap (·.2):=by rw[<-List.flatMap_append,dz9]
  rw[h1,e0l]at hl;omega
 have hRr:Cf (some (L.map λp=>[emb p.1]))=[]:=K4 L (λp=>[emb p.1]) λp=>Lt _ (by simp[Ac,aj5]);have hRn:∀ τ,Av τ (L.map λp=>[emb p.1])=L.map λp=>[emb p.1]:=λτ=>Mr τ L _ λp=>by simp[Ac,aj5]
 have hRf:∀ r es,(L.map λp=>[emb p.1]).map (Ce r es)=L.map λp=>[emb p.1]:=λr es=>V2 _ _ _ λe he=>by obtain⟨p,_,rfl⟩:=e2r.1 he;simp[Ac,aj5]
 simp(disch:=try exact dq)only[tx,seval,a98];generalize hr:Ad _ _ _=r;have hz:∀ i,i<=L.length->(((L.take i).flatMap (·.2)).all λe=>decide (e.length=2))=true:=by
  intro i hi;have h1:L.flatMap (·.2)=(L.take i).flatMap (·.2)++(L.drop i).flatMap (·.2):=by rw[<-List.flatMap_append,dz9]
  rw[h1,List.all_append,e14]at hs;exact hs.1
 refine B7 hr L.length (λi=>[.own 0 1 0 L.length L.length,.top,.int .i64 ((L.take i).flatMap (·.2)).length,.top,.top,.top,.own 0 1 0 L.length L.length,.int .i64 L.length,.int .i64 i,.top,.top,.top,.top,.top,.top]) (λ_=>[some (L.map λp=>[emb p.1])]) (λ_=>True) ?_ rfl trivial ?_ ?_
 ·rfl
 ·intro i hi _;have hi':((i:Int)<(L.length:Int)):=om;have hmem:L.getD i default∈L:=by
   rw[dx5,dy1 hi];exact e1c _
  have hp:=hL _ hmem;have hg:(L.map λp=>[emb p.1])[i]?=some [emb (L.getD i default).1]:=G9 om _;have h2:=hle (i+1) om;rw[af7 L i hi]at h2 ⊢;generalize L.getD i default=xa at *;obtain⟨x,a⟩:=xa;simp only[]at hp h2 hg ⊢
  generalize (L.take i).flatMap (·.2)=o at *;rw[e0l]at h2 ⊢;have hnn:¬ ((o.length:Int)+(a.length:Int)<0):=om;have hq:=a6k hp;rcases hq with ⟨rfl,rfl⟩|rfl
  ·have hg2:(L.map λp=>[emb p.1])[i]?=some [.emp]:=hg;have hnn2:¬ ((o.length:Int)<0):=om
   simp(disch:=try exact dq)only[tx,seval,hi',hg2,hRr,hRn,hnn2,e1q,e2b,Int.add_zero,e1n,e2p]
   try rfl
  ·have hg2:(L.map λp=>[emb p.1])[i]?=some [.fz a]:=hg
   simp(disch:=try exact dq)only[tx,seval,hi',hg2,hRr,hRn,hnn,e1q,e2b]
   try rfl
 ·intro _;rw[e1g];have hgr:Ev H9 It M2 307 [.emp,.int .i64 (L.flatMap (·.2)).length] []=some (.own 0 2 0 0 0,[some []]):=by
   refine Pt (kk) ?_;rw[show It 307 [.emp,.int .i64 (L.flatMap (·.2)).length] []=N3 2 307 [.emp,.int .i64 (L.flatMap (·.2)).length] []from (if_neg (by decide)).trans (if_pos rfl)];unfold N3;simp only[];rw[if_pos om]
  have hki:=Zj H9 It M2 (f:=307) rfl
  simp(disch:=try exact dq)only[tx,seval,e2k,hRr,hRn,hki,An,hgr];generalize hr2:Ad _ _ _=r2;refine B7 hr2 L.length (λi=>[.top,.top,.top,.top,.own 1 2 0 ((L.take i).flatMap (·.2)).length ((L.take i).flatMap (·.2)).length,.top,.top,.top,.top,.top,.top,.own 0 1 0 L.length L.length,.int .i64 L.length,.int .i64 i,.top]) (λi=>[some (L.map λp=>[emb p.1]),some (((L.take i).flatMap (·.2)).map λe=>e.map emb)]) (λ_=>True) ?_ ?_ trivial ?_ ?_
  ·rfl
  ·rfl
  ·intro i hi _;have hi':((i:Int)<(L.length:Int)):=om;have hmem:L.getD i default∈L:=by
    rw[dx5,dy1 hi];exact e1c _
   have hp:=hL _ hmem;have hg:(L.map λp=>[emb p.1])[i]?=some [emb (L.getD i default).1]:=G9 om _;have h2:=hle (i+1) om;have h3:=hz (i+1) om;rw[af7 L i hi]at h2 h3 ⊢;generalize L.getD i default=xa at *;obtain⟨x,a⟩:=xa;simp only[]at hp h2 h3 hg ⊢
   generalize (L.take i).flatMap (·.2)=o at *;rw[List.all_append,e14]at h3;have h4:=T0 a h3.2;rw[e0l]at h2;have hq:=a6k hp;rcases hq with ⟨rfl,rfl⟩|rfl
   ·have hg2:(L.map λp=>[emb p.1])[i]?=some [.emp]:=hg
    simp(disch:=try exact dq)only[tx,seval,hi',hg2,hRr,hRn,Jg,Ks,e1q,e2b,e1t]
    try rfl
   ·have hg2:(L.map λp=>[emb p.1])[i]?=some [.fz a]:=hg;have hap:(o.map λe=>e.map emb)++(a.map λe=>e.map emb)=(o++a).map λe=>e.map emb:=by rw[e1w]
    simp(disch:=try exact dq)only[tx,seval,hi',hg2,hRr,hRn,h4,hap,Jg,Ks,e1q,e0l,e2b]
    try rfl
  ·intro _;rw[e1g]
   simp(disch:=try exact dq)only[tx,seval,e2k,hRr,hRn,hRf,a65,Jg,Ks,e1q];rw[e1g]
theorem Sb{Q:R3->Prop}{step:List AV->AH->R3}{cf:List AV}{H:AH}{r:R3}(hl:Ad step cf H=r)(h:Q (Wt step (step cf H))):Q r:=by
 subst hl;rw[Sc];exact h
theorem b8c{Q:R3->Prop}{step:List AV->AH->R3}{cf:List AV}{H:AH}{r:R3}(hl:Ad step cf H=r)(he:Rd Q False cf H (step cf H)):Q r:=
 G7 hl 0 (λ_=>cf) (λ_=>H) (λ_=>True) rfl rfl trivial (λ_ hj=>absurd hj (e1z _)) (λ_=>he)
theorem da0(a b c e:List (List PV))(o:AObj)(ho:o=a.map λe=>e.map emb)(hal:a.length=3)(hs:((a++(b++(c++e))).all λe=>decide (e.length=6))=true)(hl:(a++(b++(c++e))).length<=1000000):Ev H9 It M2 45 [.own 0 1 0 4 4] [some [[.own 1 6 0 3 3],[.fz b],[.fz c],[.fz e]],some o]=some (.fz (a++(b++(c++e))),[some [[.own 1 6 0 3 3],[.fz b],[.fz c],[.fz e]],some o]):=by
 refine Cd b8g rfl ?_;have hol:o.length=3:=by rw[ho,e1q];exact hal
 have hot:List.take 3 o=o:=dz1 om;have hor:Cf (some o)=[]:=by rw[ho];exact Jg a
 have hon:∀ τ,Av τ o=o:=by intro τ;rw[ho];exact Ks τ a
 have hof:∀ r es,o.map (Ce r es)=o:=λr es=>by rw[ho];exact V2 _ _ _ λe he=>by obtain⟨p,_,rfl⟩:=e2r.1 he;exact a4p p
 simp only[List.all_append,e14]at hs;simp only[e0l]at hl;have ha:=T0 a hs.1;rw[<-ho]at ha;have hb:=T0 b hs.2.1;have hc:=T0 c hs.2.2.1;have he:=T0 e hs.2.2.2;have hto:Ct o=some a:=by rw[ho];exact a65 a
 have hw1:IntKind.i64.wrap 1=1:=by decide
 have hw2:IntKind.i64.wrap 2=2:=by decide
 have hw3:IntKind.i64.wrap 3=3:=by decide
 have hw4:IntKind.i64.wrap 4=4:=by decide
 have n1:¬ ((3:Int)+(b.length:Int)<0):=om;have n2:¬ ((3:Int)+(b.length:Int)+(c.length:Int)<0):=om;have n3:¬ ((3:Int)+(b.length:Int)+(c.length:Int)+(e.length:Int)<0):=om
 simp(disch:=try exact dq)only[tx,seval,g45];generalize hr0:Ad _ _ _=r0;refine Sb (Q:=λr=>Cg _ _ _ (Be _ _ (B0 _ r))=_) hr0 ?_
 simp(disch:=try exact dq)only[tx,seval,hw1,hw2,hw3,hw4,hol,hot,n1,n2,n3,hor,hon,e2b,e2v];generalize hr1:Ad _ _ _=r1;refine Sb (Q:=λr=>Cg _ _ _ (Be _ _ (B0 _ r))=_) hr1 ?_
 simp(disch:=try exact dq)only[tx,seval,hw1,hw2,hw3,hw4,hol,hot,n1,n2,n3,hor,hon,e2b,e2v];generalize hr2:Ad _ _ _=r2;refine Sb (Q:=λr=>Cg _ _ _ (Be _ _ (B0 _ r))=_) hr2 ?_
 simp(disch:=try exact dq)only[tx,seval,hw1,hw2,hw3,hw4,hol,hot,n1,n2,n3,hor,hon,e2b,e2v];generalize hr3:Ad _ _ _=r3;refine Sb (Q:=λr=>Cg _ _ _ (Be _ _ (B0 _ r))=_) hr3 ?_
 simp(disch:=try exact dq)only[tx,seval,hw1,hw2,hw3,hw4,hol,hot,n1,n2,n3,hor,hon,e2b,e2v];generalize hr4:Ad _ _ _=r4;refine b8c (Q:=λr=>Cg _ _ _ (Be _ _ (B0 _ r))=_) hr4 ?_;have hgr:∀ n:Int,0<=n->n<=1000000->Ev H9 It M2 93 [.emp,.int .i64 n] []=some (.own 0 6 0 0 0,[some []]):=by
  intro n h0 h1;refine Pt (kk) ?_;rw[show It 93 [.emp,.int .i64 n] []=N3 6 93 [.emp,.int .i64 n] []from if_pos rfl];unfold N3;simp only[];rw[if_pos ⟨h0,h1⟩]
 have hg:=hgr (3+(b.length:Int)+(c.length:Int)+(e.length:Int)) om om;have hki:=Zj H9 It M2 (f:=93) rfl
 simp(disch:=try exact dq)only[tx,seval,hw1,hw2,hw3,hw4,hol,hot,n1,n2,n3,hor,hon,e2b,e2v,e2k,hki,An,hg];generalize hs0:Ad _ _ _=s0;refine Sb (Q:=λr=>Cg _ _ _ (Be _ _ (B0 _ r))=_) hs0 ?_
 simp(disch:=try exact dq)only[tx,seval,hw1,hw2,hw3,hw4,hol,hot,n1,n2,n3,hor,hon,e2b,e2v,ha,hb,hc,he,e1q,e1s,Jg,Ks];generalize hs1:Ad _ _ _=s1;refine Sb (Q:=λr=>Cg _ _ _ (Be _ _ (B0 _ r))=_) hs1 ?_
 simp(disch:=try exact dq)only[tx,seval,hw1,hw2,hw3,hw4,hol,hot,n1,n2,n3,hor,hon,e2b,e2v,ha,hb,hc,he,e1q,e1s,Jg,Ks];generalize hs2:Ad _ _ _=s2;refine Sb (Q:=λr=>Cg _ _ _ (Be _ _ (B0 _ r))=_) hs2 ?_
 simp(disch:=try exact dq)only[tx,seval,hw1,hw2,hw3,hw4,hol,hot,n1,n2,n3,hor,hon,e2b,e2v,ha,hb,hc,he,e1q,e1s,Jg,Ks];generalize hs3:Ad _ _ _=s3;refine Sb (Q:=λr=>Cg _ _ _ (Be _ _ (B0 _ r))=_) hs3 ?_
 simp(disch:=try exact dq)only[tx,seval,hw1,hw2,hw3,hw4,hol,hot,n1,n2,n3,hor,hon,e2b,e2v,ha,hb,hc,he,e1q,e1s,Jg,Ks];generalize hs4:Ad _ _ _=s4;refine b8c (Q:=λr=>Cg _ _ _ (Be _ _ (B0 _ r))=_) hs4 ?_
 simp(disch:=try exact dq)only[tx,seval,hw1,hw2,hw3,hw4,hol,hot,n1,n2,n3,hor,hon,e2b,e2v,ha,hb,hc,he,e1q,e1s,Jg,Ks,e2k,hto,hof,a65,e17,e1p,e0x];have hk:List.take (3+b.length+c.length+e.length) (a++(b++(c++e)))=a++(b++(c++e)):=dz1 (by simp;omega);rw[hk]
theorem ba1:∀ {o:AObj} {l:List Int},Ul o=some l->o=l.map λn=>[.int .i64 n]
 |[],l,h=>by cases h;rfl
 |e::es,l,h=>by
   match e,h with
   |[.int .i64 n],h=>
     rw[Ul]at h;obtain⟨m',hm,rfl⟩:=dz0.1 h;rw[e2c,<-ba1 hm]
theorem b6m:∀ {l m:List Int},l.Pairwise (·<=·)->m.Pairwise (·<=·)->l.Perm m->l=m
 |[],m,_,_,h=>(List.nil_perm.1 h).symm
 |a::l,[],_,_,h=>by have:=h.length_eq;simp at this
 |a::l,b::m,h1,h2,h=>by
   have ha:a∈b::m:=h.subset (e0n ..);have hb:b∈a::l:=h.symm.subset (e0n ..);have hba:b<=a:=by
    rcases e2g.1 ha with rfl|h'
    ·exact e30 _
    ·exact(e0p.1 h2).1 a h'
   have hab:a<=b:=by
    rcases e2g.1 hb with rfl|h'
    ·exact e30 _
    ·exact(e0p.1 h1).1 b h'
   obtain rfl:a=b:=Int.le_antisymm hab hba;rw[b6m (e0p.1 h1).2 (e0p.1 h2).2 (List.perm_cons a |>.1 h)]
theorem b01(n:Int):∀ l:List Int,(Ix n l).Perm (n::l)
 |[]=>List.Perm.refl _
 |x::l=>by
   rw[Ix];split
   ·exact List.Perm.refl _
   ·exact((b01 n l).cons x).trans (List.Perm.swap n x l)
theorem ba4(n:Int):∀ {l:List Int},l.Pairwise (·<=·)->(Ix n l).Pairwise (·<=·)
 |[],_=>by simp[Ix]
 |x::l,h=>by
   rw[Ix];obtain⟨h1,h2⟩:=e0p.1 h;split
   ·rename_i c;exact e0p.2 ⟨λy hy=>by
     rcases e2g.1 hy with rfl|hy
     ·exact c
     ·exact Int.le_trans c (h1 y hy),h⟩
   ·rename_i c;exact e0p.2 ⟨λy hy=>by
     rcases e2g.1 ((b01 n l).subset hy)with rfl|hy
     ·omega
     ·exact h1 y hy,ba4 n h2⟩
theorem as4:∀ l:List Int,(Cy l).Perm l
 |[]=>List.Perm.refl _
 |x::l=>(b01 x (Cy l)).trans ((as4 l).cons x)
theorem b4o:∀ l:List Int,(Cy l).Pairwise (·<=·)
 |[]=>List.Pairwise.nil
 |x::l=>ba4 x (b4o l)
theorem c8z(l:List Int):(l.mergeSort λx y=>decide (x<=y))=Cy l:=by
 refine b6m ?_ (b4o l) ((List.mergeSort_perm l _).trans (as4 l).symm)
 have:=List.pairwise_mergeSort (le:=λx y:Int=>decide (x<=y)) (λa b c h1 h2=>by simp at *;omega) (λa b=>by simp;omega) l;exact this.imp λh=>by simpa using h
theorem c9s{w:World}{b:Nat}{cells:Array Value}{t:TypeId}{q:Nat×Nat}(f:Array Value->Array Value)(h:w.heap[b]?=some (.cells cells t q)):Sort.mapBlock w b f=Fz w b (.cells (f cells) t q):=by
 unfold Sort.mapBlock Fz
 congr 1
 apply Array.ext_getElem?;intro k;rw[Array.getElem?_modify,dx0];by_cases hk:b=k
 ·subst hk;rw[if_pos rfl,if_pos rfl,h,if_pos (Pk h)];rfl
 ·rw[if_neg hk,if_neg hk]
theorem b63(d:Array Int)(cells:Array Value)(i:Nat):(Sort.putCells (Value.int .i64) 0 d cells)[i]?=cells[i]?.map λx=>if 0<=i/\i<0+d.size then Value.int .i64 d[i-0]! else x:=by
 unfold Sort.putCells;rw[Array.getElem?_mapIdx]
theorem c20{args:List AV}{H:AH}{y:AV}{G:AH}(h:a0d 95 args H=some (y,G)):C Tryz.prog 95 args H (λy' G'=>y'=y/\G'=G):=by
 have hen:ao3 Tryz.prog 95:=⟨Tryz.f95,Tryz.func95,kk,kk⟩;have ht:∀ E,Rep E (.tuple []) (.tuple #[]):=λE=>.tuple [] #[] rfl λi c v hc=>by cases i<;>cases hc
 unfold a0d at h;split at h
 ·cases h;refine⟨hen,λE w vs hs hr=>?_⟩;obtain⟨v,rfl,h1⟩:=hr.one;obtain⟨a,rfl⟩:=Hc h1
  refine(Tryz.slices_Sort_int_none a 0 w).mono ?_;rintro e w' ⟨rfl,rfl⟩;exact⟨_,E,_,_,rfl,⟨rfl,rfl⟩,LeN.refl _ _,hs,ht E⟩
 ·rename_i r n t o;split at h
  ·rename_i hc;obtain⟨rfl,rfl,rfl,hlen⟩:=hc;obtain⟨l,hl,hy⟩:=dz0.1 h;cases hy;have ho:=ba1 hl;subst ho;rw[e1q]at hlen;refine⟨hen,λE w vs hs hr=>?_⟩;obtain⟨v,rfl,h1⟩:=hr.one;have hlive:∀ x,E.ρ 0=some x->x.t=(l.map λn=>[AV.int .i64 n]).length:=by
    intro x hx;rcases hs.obj 0 _ rfl with h'|⟨x',hx',hl'⟩
    ·rw[h'.2]at hx;cases hx
    ·rw[hx']at hx;cases hx;exact hl'.t
   rcases Je h1 hlive with ⟨a,_,h0,_,rfl⟩|⟨x,cap,hx,hsz,_,hcap,_,hfit,rfl⟩
   ·have hl0:l=[]:=(by cases l with|nil=>rfl|cons _ _=>simp at h0);subst hl0
    refine(Tryz.slices_Sort_int_none a 0 w).mono ?_;rintro e w' ⟨rfl,rfl⟩;exact⟨_,E,_,_,rfl,⟨rfl,rfl⟩,LeN.refl _ _,hs,ht E⟩
   ·obtain⟨x',hx',hli⟩:∃ x',E.ρ 0=some x'/\Lies E w (l.map λn=>[AV.int .i64 n]) x':=by
     rcases hs.obj 0 _ rfl with h'|h'
     ·rw[h'.2]at hx;cases hx
     ·exact h'
    rw[hx]at hx';cases hx';obtain⟨cells,t,q,hw,hn,hq,hone,hrow⟩:=hli.blk;have hfit2:=hli.fits;rw[hsz,e1q,Nat.mul_one]at hfit2;have hcell:∀ j,j<l.length->cells[j]?=some (.int .i64 (l.getD j 0)):=by
     intro j hj;have hlt:j<cells.size:=om;have h2:=hrow j [.int .i64 (l.getD j 0)] 0 (.int .i64 (l.getD j 0)) cells[j] (by rw[e0t,dx5,dy1 hj];rfl) rfl (by rw[hsz,Nat.mul_one,e2p];exact dx8 hlt);rw[dx8 hlt,Ec h2]
    have hH:Sort.Holds (Value.int .i64) w x.b 0 l.toArray:=by
     intro j hj;rw[List.size_toArray]at hj;constructor
     ·show World.cell? w ⟨x.b,0+j,none⟩=_;simp only[World.cell?,hw,e2s];rw[if_neg (by simp),hcell j hj]
      congr 2
      rw[List.getElem!_toArray];simp[dx5,List.getElem!_eq_getElem?_getD]
     ·show World.frozen? w ⟨x.b,0+j,none⟩=false;obtain⟨q1,q2⟩:=q;simp only[World.frozen?,hw,e2s];rcases hq with h0|h0
      ·cases h0;simp
      ·simp only[e00,dy7];left;simp only at h0;omega
    rw[e1q];have key:=Tryz.slices_Sort_int x.b 0 cap l w hH (Pk hw) om;rw[Nat.zero_mul];refine key.mono ?_;rintro e w' ⟨rfl,n,os,rfl⟩;rw[c8z];have hsd:Sim E (Sort.ahead w n) [some (l.map λn=>[AV.int .i64 n])]:=hs.drawn _;have hwd:(Sort.ahead w n).heap[x.b]?=some (.cells cells t q):=hw;have hsl:(Cy l).length=l.length:=(as4 l).length_eq;have hwr:=hsd.write (r:=0) (o':=(Cy l).map λn=>[AV.int .i64 n]) rfl hx (Sort.putCells (Value.int .i64) 0 (Cy l).toArray cells) t q (by simp[Sort.putCells,hn]) hq (by simp[hsl]) (by intro e he;obtain⟨z,_,rfl⟩:=e2r.1 he;exact hsz.symm) (by simp[hsl,hsz];omega) ?_ ?_
    ·obtain⟨hle,hsim⟩:=hwr;have e2:Sort.putRow (Value.int .i64) (Sort.ahead w n) x.b 0 (Cy l).toArray=Fz (Sort.ahead w n) x.b (.cells (Sort.putCells (Value.int .i64) 0 (Cy l).toArray cells) t q):=c9s _ hwd;refine⟨_,_,_,_,rfl,⟨rfl,rfl⟩,hle.toN _,?_,ht _⟩;rw[e2];refine hsim.below ⟨rfl,rfl,rfl,?_,λk hk=>?_⟩
     ·show _<=((Fz _ _ _).heap++os).size;rw[Array.size_append];omega
     ·show((Fz _ _ _).heap++os)[k]?=_;exact dx4 hk
    ·intro i v hv;rw[b63]at hv;obtain⟨u,hu,rfl⟩:=dz0.1 hv;split
     ·rfl
     ·exact hone i u hu
    ·intro i e k c v he hk hv;rw[hsz]at hv;rw[e0t]at he;obtain⟨z,hz,rfl⟩:=dz0.1 he;have hi:i<(Cy l).length:=by
      apply dx9;intro hc;rw[dz3 om]at hz;cases hz
     match k,hk with
     |0,hk=>
       cases hk;rw[Nat.mul_one,e2p,b63]at hv;obtain⟨u,hu,rfl⟩:=dz0.1 hv;rw[if_pos (by rw[List.size_toArray];omega)];have e1:(Cy l).toArray[i-0]! =z:=by
        rw[Nat.sub_zero,List.getElem!_toArray,List.getElem!_eq_getElem?_getD,hz];rfl
       rw[e1];exact .pure (x:=.int _ _) (.int _ _)
     |k+1,hk=>cases hk
  ·cases h
 ·cases h
theorem b4x{x:AV}{a:List (List PV)}(h:Gv x=some a):∃ p:PV,x=emb p:=by
 cases x<;>simp[Gv]at h
 ·exact⟨.emp,rfl⟩
 ·exact⟨.fz _,rfl⟩
theorem d8x(hG:Gd Tryz.prog It){args:List AV}{H:AH}{y:AV}{G:AH}(h:a3k 2 302 args H=some (y,G)):C Tryz.prog 302 args H (λy' G'=>y'=y/\G'=G):=by
 unfold a3k at h;split at h
 ·rename_i x z;obtain⟨a,ha,h⟩:=dy6.1 h;obtain⟨b,hb,h⟩:=dy6.1 h;split at h
  ·rename_i hc;cases h;obtain⟨p,rfl⟩:=b4x ha;obtain⟨q,rfl⟩:=b4x hb;have e:=d9z [(p,a),(q,b)] (by intro r hr;rcases e2g.1 hr with rfl|hr;exact ha;rw[e0m.1 hr];exact hb) (by show 2<=1000000;omega) (by simpa using hc.1) (by simpa using hc.2);have e2:([(p,a),(q,b)]:List (PV×List (List PV))).flatMap (·.2)=a++b:=(by simp);rw[e2]at e;exact Tk Tv hG _ _ _ _ _ e
  ·cases h
 ·cases h
theorem da2(hG:Gd Tryz.prog It){args:List AV}{H:AH}{y:AV}{G:AH}(h:a3p 6 45 args H=some (y,G)):C Tryz.prog 45 args H (λy' G'=>y'=y/\G'=G):=by
 unfold a3p at h;split at h
 ·rename_i es;obtain⟨r,hr,h⟩:=dy6.1 h;split at h
  ·rename_i hc;cases h;obtain⟨L,rfl,hL,rfl⟩:=b5a hr;have hn:L.length<=1000000:=(by have:=hc.2.2;rwa [e1q]at this);exact Tk Tv hG _ _ _ _ _ (da1 L hL hn hc.1 hc.2.1)
  ·cases h
 ·rename_i s b c d o;split at h
  ·rename_i hq;obtain⟨rfl,ho3⟩:=hq;obtain⟨a,ha,h⟩:=dy6.1 h;split at h
   ·rename_i hc;cases h;have ho:=aq6 ha;have hal:a.length=3:=(by rw[ho,e1q]at ho3;exact ho3);exact Tk Tv hG _ _ _ _ _ (da0 a b c d o ho hal hc.1 hc.2)
   ·cases h
  ·cases h
 ·cases h
theorem c6k(hG:Gd Tryz.prog It)(hR:∀ args H y G,Wn 115 args H=some (y,G)->C Tryz.prog 115 args H (λy' G'=>y'=y/\G'=G)):Gd Tryz.prog A5:=by
 intro f args H x H' h;unfold A5 at h;split at h
 ·rename_i e;subst e;exact ct6 h
 split at h
 ·rename_i e;subst e;exact c3j h
 split at h
 ·rename_i e;subst e;exact cz7 h
 split at h
 ·rename_i e;subst e;exact ct8 h
 split at h
 ·rename_i e;subst e;exact d93 h
 split at h
 ·rename_i e;subst e;exact d96 h
 split at h
 ·rename_i e;subst e;exact d8x hG h
 split at h
 ·rename_i e;subst e;exact da2 hG h
 split at h
 ·rename_i e;subst e;exact c20 h
 split at h
 ·rename_i e;subst e;exact hR _ _ _ _ h
 ·cases h
end Go.Proofs.YtahmkkjcchnonaaGreatDoor.Abs
section
namespace Go.Proofs
open Go.Shelf
def Tryz.growP_ren:Go.Shelf.Ren:=⟨fun|4=>93|n=>n,fun|22=>28|25=>37|3=>3|4=>4|9=>9|20=>20|0=>0|n=>n,fun|n=>n⟩
theorem Tryz.growP:Go.Proofs.Lays8.n4 Tryz.prog Tryz.growP_ren:={
 mixed:=by kernel_rfl
 f4:=⟨Tryz.f93.name,by decide,Tryz.func93.trans (congrArg some (by kernel_rfl))⟩
 t0:=Tryz.underlying0
 a0:=Tryz.isAgg0
 z0:=Tryz.sizeOf0
 v0:=Tryz.zeroValue0
 t3:=Tryz.underlying3
 a3:=Tryz.isAgg3
 z3:=Tryz.sizeOf3
 v3:=Tryz.zeroValue3
 t4:=Tryz.underlying4
 a4:=Tryz.isAgg4
 z4:=Tryz.sizeOf4
 v4:=Tryz.zeroValue4
 t9:=Tryz.underlying9
 a9:=Tryz.isAgg9
 z9:=Tryz.sizeOf9
 v9:=Tryz.zeroValue9
 t20:=Tryz.underlying20
 a20:=Tryz.isAgg20
 z20:=Tryz.sizeOf20
 v20:=Tryz.zeroValue20
 t22:=Tryz.underlying28
 a22:=Tryz.isAgg28
 z22:=Tryz.sizeOf28
 v22:=Tryz.zeroValue28 }
def Tryz.growR_ren:Go.Shelf.Ren:=⟨fun|4=>307|n=>n,fun|22=>40|25=>122|3=>3|4=>4|9=>9|20=>20|0=>0|2=>3|n=>n,fun|n=>n⟩
theorem Tryz.growR:Go.Proofs.Lays8.n4 Tryz.prog Tryz.growR_ren:={
 mixed:=by kernel_rfl
 f4:=⟨Tryz.f307.name,by decide,Tryz.func307.trans (congrArg some (by kernel_rfl))⟩
 t0:=Tryz.underlying0
 a0:=Tryz.isAgg0
 z0:=Tryz.sizeOf0
 v0:=Tryz.zeroValue0
 t3:=Tryz.underlying3
 a3:=Tryz.isAgg3
 z3:=Tryz.sizeOf3
 v3:=Tryz.zeroValue3
 t4:=Tryz.underlying4
 a4:=Tryz.isAgg4
 z4:=Tryz.sizeOf4
 v4:=Tryz.zeroValue4
 t9:=Tryz.underlying9
 a9:=Tryz.isAgg9
 z9:=Tryz.sizeOf9
 v9:=Tryz.zeroValue9
 t20:=Tryz.underlying20
 a20:=Tryz.isAgg20
 z20:=Tryz.sizeOf20
 v20:=Tryz.zeroValue20
 t22:=Tryz.underlying40
 a22:=Tryz.isAgg40
 z22:=Tryz.sizeOf40
 v22:=Tryz.zeroValue40 }
end Go.Proofs
end
namespace Go.Proofs.YtahmkkjcchnonaaGreatDoor.Abs
theorem cz3:(Tryz.prog.info? (Tryz.growP_ren.t 25)).map (λi=>(i.zero.map (λz=>z.cells),i.size,i.bytes))=some (some #[.int .i64 0,.int .i64 0,.int .u32 0,.int .u32 0,.int .u32 0,.int .u32 0],6,32):=kk
theorem d5a{args:List AV}{H:AH}{y:AV}{G:AH}(h:N3 6 93 args H=some (y,G)):C Tryz.prog 93 args H (λy' G'=>y'=y/\G'=G):=by
 unfold N3 at h;split at h
 ·rename_i n;split at h
  ·rename_i hc;cases h;obtain⟨k,rfl⟩:∃ k:Nat,n=(k:Int):=⟨n.toNat,by omega⟩;obtain⟨i0,hi0,hi1⟩:=dz0.1 cz3;simp only[Prod.mk.injEq]at hi1;obtain⟨hz,hsz,hby⟩:=hi1;obtain⟨z,hz0,hzc⟩:=dz0.1 hz;refine⟨⟨Tryz.f93,Tryz.func93,kk,kk⟩,λE w vs hs hr=>?_⟩;obtain⟨v,u,rfl,h1,h2⟩:=hr.two;obtain⟨a,rfl⟩:=Hc h1;rw[Ec h2];by_cases k0:k=0
   ·subst k0
    refine(Any8.slices_Grow_room Tryz.growP a 0 0 0 w (e2z _) om om (e2z _)).mono ?_;rintro e w' ⟨rfl,rfl⟩;exact⟨_,E,_,_,rfl,⟨rfl,rfl⟩,LeN.refl _ _,hs.newEmpty,.own0 _ _ _⟩
   ·refine(Any8.slices_Grow_grow Tryz.growP i0 z hi0 hz0 om a 0 0 k [] w (e2z _) om (by rw[hby];omega) om (by simp) (λ_=>rfl) (λ_ _ j v hv=>by simp at hv)).mono ?_;rintro e w' ⟨rfl,rfl⟩;generalize grownCap w (0+k) 0 (Tryz.growP_ren.t 25)=cap;have hsd:Sim E w.drew []:=hs.drawn (w.drawn+1);have hR:RepL E [.int .i64 0,.int .i64 0,.int .u32 0,.int .u32 0,.int .u32 0,.int .u32 0] z.cells:=by
     rw[hzc];refine⟨rfl,λi x u hx hu=>?_⟩
     match i,hx,hu with
     |0,hx,hu=>cases hx;cases hu;exact .pure (x:=.int _ _) (.int _ _)
     |1,hx,hu=>cases hx;cases hu;exact .pure (x:=.int _ _) (.int _ _)
     |2,hx,hu=>cases hx;cases hu;exact .pure (x:=.int _ _) (.int _ _)
     |3,hx,hu=>cases hx;cases hu;exact .pure (x:=.int _ _) (.int _ _)
     |4,hx,hu=>cases hx;cases hu;exact .pure (x:=.int _ _) (.int _ _)
     |5,hx,hu=>cases hx;cases hu;exact .pure (x:=.int _ _) (.int _ _)
     |i+6,hx,hu=>simp at hx
    have hal:([.int .i64 0,.int .i64 0,.int .u32 0,.int .u32 0,.int .u32 0,.int .u32 0]:List AV).all cellA=true:=rfl;obtain⟨hle,hsim⟩:=hsd.new [] 6 ([].toArray++Builtin.zeroCells z.cells (0+k-0)++Builtin.zeroCells z.cells (cap-(0+k))) (Tryz.growP_ren.t 25) (0,0) (by decide) (.inl rfl) (λe he=>by cases he) (by simp) (Mv (Mv (λi v hv=>by simp at hv) (Ni hR hal _)) (Ni hR hal _)) (λi e k c v hi=>by simp at hi);refine⟨_,_,_,_,rfl,⟨rfl,rfl⟩,hle.toN _,hsim,?_⟩;exact Rep.own 0 6 0 0 0 cap _ (Env.with_same _ _ _) rfl rfl (e2z _) (e2x _) (e2x _) (by
     have hz6:z.cells.size=6:=(by rw[hzc];rfl);simp only[Array.size_append,size_zeroCells,hz6];simp;omega)
  ·cases h
 ·cases h
theorem cz2:(Tryz.prog.info? (Tryz.growR_ren.t 25)).map (λi=>(i.zero.map (λz=>z.cells),i.size,i.bytes))=some (some #[.int .i64 0,.int .i64 0],2,16):=kk
theorem d59{args:List AV}{H:AH}{y:AV}{G:AH}(h:N3 2 307 args H=some (y,G)):C Tryz.prog 307 args H (λy' G'=>y'=y/\G'=G):=by
 unfold N3 at h;split at h
 ·rename_i n;split at h
  ·rename_i hc;cases h;obtain⟨k,rfl⟩:∃ k:Nat,n=(k:Int):=⟨n.toNat,by omega⟩;obtain⟨i0,hi0,hi1⟩:=dz0.1 cz2;simp only[Prod.mk.injEq]at hi1;obtain⟨hz,hsz,hby⟩:=hi1;obtain⟨z,hz0,hzc⟩:=dz0.1 hz;refine⟨⟨Tryz.f307,Tryz.func307,kk,kk⟩,λE w vs hs hr=>?_⟩;obtain⟨v,u,rfl,h1,h2⟩:=hr.two;obtain⟨a,rfl⟩:=Hc h1;rw[Ec h2];by_cases k0:k=0
   ·subst k0
    refine(Any8.slices_Grow_room Tryz.growR a 0 0 0 w (e2z _) om om (e2z _)).mono ?_;rintro e w' ⟨rfl,rfl⟩;exact⟨_,E,_,_,rfl,⟨rfl,rfl⟩,LeN.refl _ _,hs.newEmpty,.own0 _ _ _⟩
   ·refine(Any8.slices_Grow_grow Tryz.growR i0 z hi0 hz0 om a 0 0 k [] w (e2z _) om (by rw[hby];omega) om (by simp) (λ_=>rfl) (λ_ _ j v hv=>by simp at hv)).mono ?_;rintro e w' ⟨rfl,rfl⟩;generalize grownCap w (0+k) 0 (Tryz.growR_ren.t 25)=cap;have hsd:Sim E w.drew []:=hs.drawn (w.drawn+1);have hR:RepL E [.int .i64 0,.int .i64 0] z.cells:=by
     rw[hzc];refine⟨rfl,λi x u hx hu=>?_⟩
     match i,hx,hu with
     |0,hx,hu=>cases hx;cases hu;exact .pure (x:=.int _ _) (.int _ _)
     |1,hx,hu=>cases hx;cases hu;exact .pure (x:=.int _ _) (.int _ _)
     |i+2,hx,hu=>simp at hx
    have hal:([.int .i64 0,.int .i64 0]:List AV).all cellA=true:=rfl;obtain⟨hle,hsim⟩:=hsd.new [] 2 ([].toArray++Builtin.zeroCells z.cells (0+k-0)++Builtin.zeroCells z.cells (cap-(0+k))) (Tryz.growR_ren.t 25) (0,0) (by decide) (.inl rfl) (λe he=>by cases he) (by simp) (Mv (Mv (λi v hv=>by simp at hv) (Ni hR hal _)) (Ni hR hal _)) (λi e k c v hi=>by simp at hi);refine⟨_,_,_,_,rfl,⟨rfl,rfl⟩,hle.toN _,hsim,?_⟩;exact Rep.own 0 2 0 0 0 cap _ (Env.with_same _ _ _) rfl rfl (e2z _) (e2x _) (e2x _) (by
     have hz6:z.cells.size=2:=(by rw[hzc];rfl);simp only[Array.size_append,size_zeroCells,hz6];simp;omega)
  ·cases h
 ·cases h
theorem c6l:Gd Tryz.prog It:=by
 intro f args H x H' h;unfold It at h;split at h
 ·rename_i e;subst e;exact d5a h
 split at h
 ·rename_i e;subst e;exact d59 h
 ·cases h
def Ja(o:Option (List Rn×Bytes)):AV:=match o with
 |some (l,r)=>.tuple [A0 A6 (Ba l),.str r,.bool true]
 |none=>.tuple [.emp,.str [],.bool false]
def La(s:Bytes)(j:Nat):List Int:=((List.range j).filter (Oe s)).map λi:Nat=>14+(i:Int)
theorem bj3(s:Bytes)(j:Nat):La s (j+1)=if Oe s j=true then La s j++[14+(j:Int)]else La s j:=by
 unfold La;rw[List.range_succ,List.filter_append,e1w];by_cases h:Oe s j=true
 ·rw[if_pos h,List.filter_cons_of_pos h];rfl
 ·rw[if_neg h,List.filter_cons_of_neg h];simp
theorem bj4(s:Bytes)(j:Nat):(La s j).length<=j:=by
 unfold La;rw[e1q];exact e2q (List.length_filter_le _ _) (by simp)
theorem bj5(s:Bytes):∀ (m k:Nat),(∀ i,i<m->Oe s i=true->i<k)->k<=m->La s m=La s k
 |0,k,_,h=>by have:k=0:=om
              rw[this]
 |m+1,k,hb,h=>by
   rcases e2l k (m+1)with h1|h1
   ·rw[bj3,if_neg (λhm=>by have:=hb m om hm;omega),bj5 s m k (λi hi=>hb i om) om]
   ·rw[show k=m+1 by omega]
theorem bt0:∀ (a:_root_.Fin 256) (k:_root_.Fin 8),IntKind.u8.wrap ((BitVec.ofInt IntKind.u8.bits (((a.val:Nat):Int).fdiv (2 ^ (min k.val IntKind.u8.bits))) &&& BitVec.ofInt IntKind.u8.bits 1).toNat:Int)=if a.val.testBit k.val=true then 1 else 0:=by decide +kernel
theorem db1(s:Bytes)(j:Nat):IntKind.u8.wrap ((BitVec.ofInt IntKind.u8.bits (((s.getD (j/8) 0).toNat:Int).fdiv (2 ^ (min (j%8) IntKind.u8.bits))) &&& BitVec.ofInt IntKind.u8.bits 1).toNat:Int)=if Oe s j=true then 1 else 0:=
 bt0 ⟨(s.getD (j/8) 0).toNat,(s.getD (j/8) 0).toNat_lt⟩ ⟨j%8,Nat.mod_lt _ om⟩
theorem Kq(n:Int)(hn:n<=100000)(s:Bytes)(hs:s.length<=1000000)(H:AH):K tab A5 A4 70 [.int .i64 n,.str s] H=some (Ja (Dm n s),H):=by
 refine Ah l70 rfl rfl (by unfold Ja;split<;>simp[A8,Ac,Ap]) ?_ H;have h1:=λH=>b4q (orc:=A5) (lk:=A4) n H;by_cases c:F6 n=true
 ·have hb:40<=n/\n<=240:=by unfold F6 at c;simpa using c
  have h2:=λH=>b4p (orc:=A5) (lk:=A4) n om om H;rw[c]at h1;by_cases c2:(s.length:Int)<(n+7)/8
  ·have e:Dm n s=none:=by
    unfold Dm;rw[if_neg];rintro⟨_,h,_⟩;omega
   rw[e]
   simp(disch:=try exact dq)only[tx,seval,Xh,h1,h2,c2];rfl
  ·simp(disch:=try exact dq)only[tx,seval,Xh,h1,h2,c2,e2b];generalize hr:Ad _ _ _=r;refine B7 hr (8*((n.toNat+7)/8))
    (λj=>[.int .i64 n,.str s,.top,.top,.top,.own 0 1 0 (La s j).length (La s j).length,.top,.int .i64 (8*((n+7)/8)),.int .i64 j,.top])
    (λj=>[some ((La s j).map cI)]) (λj=>∀ i,i<j->Oe s i=true->i<n.toNat) ?_ ?_ ?_ ?_ ?_
   ·rfl
   ·rfl
   ·exact λi h=>absurd h (e1z i)
   ·intro j hj hI;have hj':((j:Int)<8*((n+7)/8)):=om;have hg:((j/8:Nat):Int)<s.length:=om;have hl:=bj4 s j;rw[bj3];generalize La s j=o at *;have q1:(j:Int).tdiv 8=((j/8:Nat):Int):=(Int.ofNat_tdiv j 8).symm;have q2:(j:Int).tmod 8=((j%8:Nat):Int):=(Int.ofNat_tmod j 8).symm;have q3:((j/8:Nat):Int).toNat=j/8:=e10 _;have q4:((j%8:Nat):Int).toNat=j%8:=e10 _;have hb8:=db1 s j
    simp(disch:=try exact dq)only[tx,seval,hj',e2b,Au,q1,q2,q3,q4,hb8];cases hbit:Oe s j with
    |false=>
      simp only[e0f,if_false,true_implies,not_true,false_implies,and_true];refine⟨rfl,trivial,λi hi hbi=>?_⟩;rcases e2l i j with h|h
      ·exact hI i h hbi
      ·have:i=j:=om;subst this;rw[hbit]at hbi;cases hbi
    |true=>
      simp only[if_true,Int.one_ne_zero,false_implies,true_and,not_false_eq_true,true_implies];refine⟨λhnj=>?_,λhnj=>⟨?_,?_,λi hi hbi=>?_⟩⟩
      ·have e:Dm n s=none:=by
        unfold Dm;rw[if_neg];rintro⟨_,_,h⟩
        have:=h j hj hbit;omega
       rw[e];rfl
      ·rw[e0l];rfl
      ·rw[e1w];rfl
      ·rcases e2l i j with h|h
       ·exact hI i h hbi
       ·omega
   ·intro hI;have e:Dm n s=some (Jl (La s (8*((n.toNat+7)/8))),s.drop ((n.toNat+7)/8)):=by
     unfold Dm;rw[if_pos ⟨by unfold Hf;unfold F6 at c;exact c,by omega,hI⟩,bj5 s _ _ hI om];rfl
    rw[e];have hl:=bj4 s (8*((n.toNat+7)/8));generalize La s (8*((n.toNat+7)/8))=o at *;have u1:((n+7)/8).toNat=(n.toNat+7)/8:=om;have hj':¬ ((8*((n.toNat+7)/8):Nat):Int)<8*((n+7)/8):=om;by_cases ho:o=[]
    ·subst ho;have hof:=b72;have hcl:=Eg (f:=46) rfl
     simp(disch:=try exact dq)only[tx,seval,hj',KQ 46 rfl,An,hcl,Bo,Bq,hof,h2,u1,Au,B8,e1l,e18,Jf,e1s,e1t,e1q];rw[e1g];rfl
    ·have hof:=ax1 o om;have hcl:=Eg (f:=46) rfl
     simp(disch:=try exact dq)only[tx,seval,hj',KQ 46 rfl,An,hcl,Bo,Bq,hof,h2,u1,Au,B8,e1l,e18,Jf,e1s,e1t,e1q];rw[e1g];rfl
 ·have e:Dm n s=none:=by
   unfold Dm;rw[if_neg];rintro⟨h,_⟩;exact c (by unfold Hf at h;unfold F6;exact h)
  rw[e1k]at c;rw[c]at h1;rw[e]
  simp(disch:=try exact dq)only[tx,seval,Xh,h1];rfl
def G1(so:Nat->Bool)(j i:Nat):Nat:=((List.range 8).map λk=>if 8*i+k<j/\so (8*i+k)=true then 2 ^ k else 0).sum
theorem db2(so:Nat->Bool)(i:Nat):G1 so 0 i=0:=by
 unfold G1;simp only[e1z,false_and,if_false];rfl
theorem bh1(so:Nat->Bool)(j i:Nat):G1 so (j+1) i=G1 so j i+(if i=j/8/\so j=true then 2 ^ (j%8)else 0):=by
 unfold G1;simp only[show List.range 8=[0,1,2,3,4,5,6,7]from rfl,e2c,e2o,e2i,List.sum_nil];by_cases h:i=j/8
 ·have hj:j=8*i+j%8:=om;have hr:j%8<8:=Nat.mod_lt _ om;generalize j%8=r at *;subst hj;have e:i=(8*i+r)/8:=om;simp only[<-e,true_and];have hk1:∀ k,(8*i+k<8*i+r+1)=(k<r+1):=λk=>propext om;have hk2:∀ k,(8*i+k<8*i+r)=(k<r):=λk=>propext om;simp only[hk1,hk2]
  match r,hr with
  |0,_=>simp
  |1,_=>simp
  |2,_=>simp;omega
  |3,_=>simp;omega
  |4,_=>simp;omega
  |5,_=>simp;omega
  |6,_=>simp;omega
  |7,_=>simp;omega
 ·have e0:(if i=j/8/\so j=true then 2 ^ (j%8)else 0)=0:=if_neg (λc=>h c.1);rw[e0];have hk:∀ k,k<8->(8*i+k<j+1↔8*i+k<j):=by intro k hk;omega
  simp only[propext (hk 0 om),propext (hk 1 om),propext (hk 2 om),propext (hk 3 om),propext (hk 4 om),propext (hk 5 om),propext (hk 6 om),propext (hk 7 om),e2p,show(8*i<j+1)=(8*i<j)from propext om]
theorem db3(so:Nat->Bool)(j:Nat):G1 so j (j/8)<2 ^ (j%8):=by
 unfold G1;have hj:j=8*(j/8)+j%8:=om;have hr:j%8<8:=Nat.mod_lt _ om;generalize j%8=r at *;generalize j/8=i at *;subst hj;have hk2:∀ k,(8*i+k<8*i+r)=(k<r):=λk=>propext om;simp only[show List.range 8=[0,1,2,3,4,5,6,7]from rfl,e2c,e2o,e2i,List.sum_nil,hk2];have q:∀ (p:Prop) [Decidable p] (n:Nat),(if p then n else 0)<=n:=by intro p _ n;split<;>omega
 match r,hr with
 |0,_=>simp
 |1,_=>simp;have:=q (so (8*i)=true) 1;omega
 |2,_=>simp;have:=q (so (8*i)=true) 1;have:=q (so (8*i+1)=true) 2;omega
 |3,_=>simp;have:=q (so (8*i)=true) 1;have:=q (so (8*i+1)=true) 2;have:=q (so (8*i+2)=true) 4;omega
 |4,_=>simp;have:=q (so (8*i)=true) 1;have:=q (so (8*i+1)=true) 2;have:=q (so (8*i+2)=true) 4;have:=q (so (8*i+3)=true) 8;omega
 |5,_=>simp;have:=q (so (8*i)=true) 1;have:=q (so (8*i+1)=true) 2;have:=q (so (8*i+2)=true) 4;have:=q (so (8*i+3)=true) 8;have:=q (so (8*i+4)=true) 16;omega
 |6,_=>simp;have:=q (so (8*i)=true) 1;have:=q (so (8*i+1)=true) 2;have:=q (so (8*i+2)=true) 4;have:=q (so (8*i+3)=true) 8;have:=q (so (8*i+4)=true) 16;have:=q (so (8*i+5)=true) 32;omega
 |7,_=>simp;have:=q (so (8*i)=true) 1;have:=q (so (8*i+1)=true) 2;have:=q (so (8*i+2)=true) 4;have:=q (so (8*i+3)=true) 8;have:=q (so (8*i+4)=true) 16;have:=q (so (8*i+5)=true) 32;have:=q (so (8*i+6)=true) 64;omega
theorem bh2(so:Nat->Bool)(j i:Nat):G1 so j i<256:=by
 unfold G1;simp only[show List.range 8=[0,1,2,3,4,5,6,7]from rfl,e2c,e2o,e2i,List.sum_nil];have q:∀ (p:Prop) [Decidable p] (n:Nat),(if p then n else 0)<=n:=by intro p _ n;split<;>omega
 have h0:=q (8*i+0<j/\so (8*i+0)=true) (2 ^ 0);have h1:=q (8*i+1<j/\so (8*i+1)=true) (2 ^ 1);have h2:=q (8*i+2<j/\so (8*i+2)=true) (2 ^ 2);have h3:=q (8*i+3<j/\so (8*i+3)=true) (2 ^ 3);have h4:=q (8*i+4<j/\so (8*i+4)=true) (2 ^ 4);have h5:=q (8*i+5<j/\so (8*i+5)=true) (2 ^ 5);have h6:=q (8*i+6<j/\so (8*i+6)=true) (2 ^ 6);have h7:=q (8*i+7<j/\so (8*i+7)=true) (2 ^ 7);omega
def F9(so:Nat->Bool)(m j:Nat):Bytes:=(List.range m).map λi=>UInt8.ofNat (G1 so j i)
theorem aj3(so:Nat->Bool)(m j:Nat):(F9 so m j).length=m:=by simp[F9]
theorem bh7(so:Nat->Bool)(m:Nat):F9 so m 0=zs m:=by
 unfold F9 zs;simp only[db2];rw[List.map_const',List.length_range];rfl
theorem bi0(so:Nat->Bool)(m j i:Nat)(h:i<m):(F9 so m j).getD i default=UInt8.ofNat (G1 so j i):=by
 unfold F9;simp[dx5,h]
theorem bh9(so:Nat->Bool)(m j:Nat)(h:so j=false):F9 so m (j+1)=F9 so m j:=by
 unfold F9;refine e0a λi _=>?_;rw[bh1,if_neg (λc=>by rw[h]at c;exact absurd c.2 (by simp)),e2p]
theorem bh8(so:Nat->Bool)(m j:Nat)(h:so j=true):F9 so m (j+1)=(F9 so m j).set (j/8) (UInt8.ofNat (G1 so j (j/8)+2 ^ (j%8))):=by
 unfold F9;refine List.ext_getElem (by simp) λi h1 h2=>?_;simp only[List.getElem_map,List.getElem_range,List.getElem_set];rw[bh1];by_cases e:i=j/8
 ·rw[if_pos ⟨e,h⟩,if_pos e.symm,e]
 ·rw[if_neg (λc=>e c.1),if_neg (λc=>e c.symm),e2p]
theorem bi1(so:Nat->Bool)(n:Nat):F9 so ((n+7)/8) n=Vd n so:=rfl
def cB(b:UInt8):List AV:=[.int .u8 b.toNat]
theorem Nt(l:Bytes):Cf (some (l.map cB))=[]:=K4 l _ λ_=>rfl
theorem Yc(l:Bytes):Ib (l.map cB)=some l:=b1w l
theorem U4(m:Nat):List.replicate m [AV.int IntKind.u8 0]=(zs m).map cB:=by unfold zs;rw[List.map_replicate];rfl
theorem bs8:∀ (a:_root_.Fin 256) (k:_root_.Fin 8),IntKind.u8.wrap ((BitVec.ofInt IntKind.u8.bits ((a.val:Nat):Int) ||| BitVec.ofInt IntKind.u8.bits (IntKind.u8.wrap (1*2 ^ (min k.val IntKind.u8.bits)))).toNat:Int)=(((a.val ||| 2 ^ k.val:Nat)):Int):=by decide +kernel
theorem b6u{a k:Nat}(h:a<2 ^ k):a ||| 2 ^ k=a+2 ^ k:=by
 have:=Nat.two_pow_add_eq_or_of_lt h 1;rw[Nat.mul_one]at this;rw[Nat.or_comm,<-this,Nat.add_comm]
theorem bh0(so:Nat->Bool)(j:Nat):IntKind.u8.wrap ((BitVec.ofInt IntKind.u8.bits ((UInt8.ofNat (G1 so j (j/8))).toNat:Int) ||| BitVec.ofInt IntKind.u8.bits (IntKind.u8.wrap (1*2 ^ (min (j%8) IntKind.u8.bits)))).toNat:Int)=(((UInt8.ofNat (G1 so j (j/8)+2 ^ (j%8))).toNat:Nat):Int):=by
 have h1:=db3 so j;have h2:G1 so j (j/8)<256:=bh2 so j _;have h3:G1 so (j+1) (j/8)<256:=bh2 so (j+1) _;have e1:(UInt8.ofNat (G1 so j (j/8))).toNat=G1 so j (j/8):=by simp;omega
 have h4:=bs8 ⟨G1 so j (j/8),h2⟩ ⟨j%8,Nat.mod_lt _ om⟩;simp only[]at h4;rw[e1,h4,b6u h1];have h5:G1 so j (j/8)+2 ^ (j%8)<256:=by
  have:=b6u h1;rw[<-this];exact Nat.or_lt_two_pow (n:=8) h2 (Nat.pow_lt_pow_right om (Nat.mod_lt _ om))
 have e2:(UInt8.ofNat (G1 so j (j/8)+2 ^ (j%8))).toNat=G1 so j (j/8)+2 ^ (j%8):=by simp;omega
 rw[e2]
theorem a6h(n:Int)(h0:-100000<=n)(hn:n<=100000)(l:Sl Rn)(hl:(els l).length<=9000)(H:AH):K tab A5 A4 121 [.int .i64 n,A0 A6 l] H=some (.str (Mu n (els l)),H):=by
 refine Ah cq4 rfl (by simp[Ac,A8,Ap]) rfl ?_ H;have h1:=λH=>b4q (orc:=A5) (lk:=A4) n H;have h2:=λH=>a0b l om H;have h3:=λH=>a0c l (some [⟨14,14+n⟩]) (show(els l).length+1<=10000 by omega) H;have hw:A0 A6 (some [(⟨14,14+n⟩:Rn)])=.fz [[.int .i64 14,.int .i64 (14+n)]]:=rfl;have hel:Da (els l) (els (some [(⟨14,14+n⟩:Rn)]))=Da (els l) (E5 n):=rfl;rw[hw,hel]at h3;unfold Mu Dz;by_cases c1:F6 n=true
 ·have hb:40<=n/\n<=240:=by unfold F6 at c1;simpa using c1
  have h4:=λH=>b4p (orc:=A5) (lk:=A4) n om om H;have Am:Hf n=true:=c1;rw[c1]at h1;by_cases c2:G6 (els l)=true
  ·rw[c2]at h2;by_cases c3:Da (els l) (E5 n)=[]
   ·have Sy:Ba (Da (els l) (E5 n))=none:=(by rw[c3];rfl);rw[Sy,Lb]at h3
    simp(disch:=try exact dq)only[tx,seval,Uz,h1,h2,h3,h4,e2b,U4];have hif:(if Hf n=true/\(G6 (els l)&&decide (Da (els l) (E5 n)=[]))=true then Vd n.toNat λi=>B5 (els l) (14+↑i)else [])=F9 (λi=>B5 (els l) (14+↑i)) ((n+7)/8).toNat n.toNat:=by
     rw[if_pos ⟨Am,by simp[c2,c3]⟩,<-bi1,show((n+7)/8).toNat=(n.toNat+7)/8 by omega]
    rw[hif];generalize hso:(λi:Nat=>B5 (els l) (14+(i:Int)))=so;have hhas:∀ (j:Nat) (H:AH),K tab A5 A4 184 [A0 A6 l,.int .i64 (14+(j:Int))] H=some (.bool (so j),H):=λj H=>by
     rw[as2 l om,<-hso]
    have hm:(n+7)/8=(((n+7)/8).toNat:Int):=om;have hm2:n.toNat<=8*((n+7)/8).toNat:=om
    generalize ((n+7)/8).toNat=m at *;generalize hr:Ad _ _ _=r;refine B7 hr n.toNat
     (λj=>[.top,A0 A6 l,.top,.top,.own 1 1 0 m m,.top,.top,.int .i64 n,.int .i64 j,.top,.top,.top])
     (λj=>[none,some ((F9 so m j).map cB)]) (λ_=>True) ?_ ?_ trivial ?_ ?_
    ·rfl
    ·rw[bh7]
    ·intro j hj _;have hj':((j:Int)<n):=om;have q1:(j:Int).tdiv 8=((j/8:Nat):Int):=(Int.ofNat_tdiv j 8).symm;have q2:(j:Int).tmod 8=((j%8:Nat):Int):=(Int.ofNat_tmod j 8).symm;have q3:((j/8:Nat):Int).toNat=j/8:=e10 _;have q4:((j%8:Nat):Int).toNat=j%8:=e10 _;have hbl:=aj3 so m j;have hjm:j/8<m:=om;have hh:=hhas j;cases hb:so j with
     |false=>
       rw[hb]at hh;rw[bh9 so m j hb];generalize F9 so m j=b at *
       simp(disch:=try exact dq)only[tx,seval,hj',hh,e2b,Nt];rfl
     |true=>
       rw[hb]at hh;have hor:=bh0 so j;have hg:((F9 so m j).map cB)[j/8]?=some [.int .u8 (UInt8.ofNat (G1 so j (j/8))).toNat]:=by
        rw[G9 om cB,bi0 so m j _ hjm];rfl
       rw[bh8 so m j hb];generalize F9 so m j=b at *
       simp(disch:=try exact dq)only[tx,seval,hj',hh,e2b,Nt,q1,q2,q3,q4,hg,hbl,hor,e1q];exact⟨rfl,by rw[List.map_set];rfl⟩
    ·intro _;have hbl:=aj3 so m n.toNat;have hbo:=Yc (F9 so m n.toNat);generalize F9 so m n.toNat=b at *;have hbt:List.take m (List.map cB b)=List.map cB b:=by rw[<-hbl];exact Tq b cB
     simp(disch:=try exact dq)only[tx,seval,hbo,hbt,hbl,Nt,e1q,show ¬ ((n.toNat:Int)<n) by omega]
   ·have hif:(if Hf n=true/\(G6 (els l)&&decide (Da (els l) (E5 n)=[]))=true then Vd n.toNat λi=>B5 (els l) (14+↑i)else [])=[]:=if_neg (λh=>by have h2:=h.2;simp only[e14,e0r]at h2;exact c3 h2.2);rw[hif];have hpos:0<((els (Ba (Da (els l) (E5 n)))).length:Int):=by
     rw[Gz]
     have:=e0e.2 c3;omega
    simp(disch:=try exact dq)only[tx,seval,Uz,h1,h2,h3,h4,e2b,hpos]
  ·rw[e1k]at c2;rw[c2]at h2
   simp(disch:=try exact dq)only[tx,seval,Uz,h1,h2,h3,h4,e2b];simp[c2]
 ·have Am:¬ Hf n=true:=c1;rw[e1k]at c1;rw[c1]at h1
  simp(disch:=try exact dq)only[tx,seval,Uz,h1,e2b];simp[Am]
theorem Vr(so:Bool->Bool->Bool)(l m:List Rn):(Ll so l m).length<=2*(l.length+m.length):=by
 rw[a7b];have h:=a12 so l m (Eu l m) ((Eu l m).length-1);have h2:(Eu l m).length<=2*(l.length+m.length):=by
  rw[<-a3h];have h1:=Pi (Cy (Et (l++m))) _ (e2z _);rw[e1g,Lr,a3d,e0l]at h1;omega
 omega
def as3(s:Space):List AV:=[A0 A6 s.held,A0 A6 s.one,A0 A6 s.two,A0 A6 s.kept]
theorem c1x(s:Space)(n:Int)(h0:-100000<=n)(hn:n<=100000)(H:AH):K tab A5 A4 245 [.agg [A0 A6 s.held,A0 A6 s.one,A0 A6 s.two,A0 A6 s.kept,.int .i64 n]] H=some (A0 A6 (some (E5 n)),H):=by
 refine Ah cj6 rfl (by simp[Ac,A8,Ap]) (Ap _ _) ?_ H
 simp(disch:=try exact dq)only[tx,seval,a9r,e2b];rfl
theorem c1z(s:Space)(H:AH):K tab A5 A4 244 [.agg [A0 A6 s.held,A0 A6 s.one,A0 A6 s.two,A0 A6 s.kept]] H=some (.agg [A0 A6 s.held,A0 A6 s.one,A0 A6 s.two,A0 A6 s.kept],H):=by
 refine Ah cj7 rfl (by simp[Ac,A8,Ap]) (by simp[Ac,A8,Ap]) ?_ H
 simp(disch:=try exact dq)only[tx,seval,a9s]
structure SpOk(s:Space):Prop where
 held:(els s.held).length<=500
 one:(els s.one).length<=500
 two:(els s.two).length<=500
 kept:(els s.kept).length<=500
theorem c1y(s:Space)(hs:SpOk s)(n:Int)(h0:-100000<=n)(hn:n<=100000)(H:AH):K tab A5 A4 181 [.agg [A0 A6 s.held,A0 A6 s.one,A0 A6 s.two,A0 A6 s.kept,.int .i64 n]] H=some (.bool (Cz n s.n),H):=by
 refine Ah cm6 rfl (by simp[Ac,A8,Ap]) rfl ?_ H;have hw:=c1x s n h0 hn;have ha:=c1z s;have l1:=hs.held;have l2:=hs.one;have l3:=hs.two;by_cases c:Hf n=true
 ·have hb:40<=n/\n<=240:=by unfold Hf at c;simpa using c
  have c1:¬ n<40:=om;have c2:¬ 240<n:=om
  simp(disch:=try exact dq)only[tx,seval,a2l,ha,c1,c2];generalize hr:Ad _ _ _=r;refine B7 hr 4
   (λj=>[.top,.ptr 0 0 0 1,.top,.top,.agg [A0 A6 s.held,A0 A6 s.one,A0 A6 s.two,A0 A6 s.kept],.int .i64 j,.top])
   (λ_=>[some [[A0 A6 s.held,A0 A6 s.one,A0 A6 s.two,A0 A6 s.kept,.int .i64 n]]])
   (λj=>(0<j->Dz n (els s.held)=true)/\(1<j->Dz n (els s.one)=true)/\(2<j->Dz n (els s.two)=true)/\(3<j->Dz n (els s.kept)=true)) ?_ ?_ ?_ ?_ ?_
  ·rfl
  ·rfl
  ·exact⟨λh=>absurd h om,λh=>absurd h om,λh=>absurd h om,λh=>absurd h om⟩
  ·intro j hj hI;obtain rfl|rfl|rfl|rfl:j=0\/j=1\/j=2\/j=3:=om
   ·have m1:=a0b s.held (by have:=hs.held;omega);have m2:=a0c s.held (some (E5 n)) (show(els s.held).length+1<=10000 by have:=hs.held;omega);rw[Bn,C1]at m2;have hwi:Dz n (els s.held)=(G6 (els s.held)&&decide (Da (els s.held) (E5 n)=[])):=rfl;by_cases w1:G6 (els s.held)=true
    ·rw[w1]at m1;by_cases w2:Da (els s.held) (E5 n)=[]
     ·rw[w2]at m2;rw[show Ba []=none from rfl]at m2
      simp(disch:=try exact dq)only[tx,seval,m1,m2,hw,Lb];refine⟨rfl,?_⟩;rw[w1,w2]at hwi;have hwt:Dz n (els s.held)=true:=(by rw[hwi];rfl);exact⟨λ_=>hwt,λh=>absurd h (by decide),λh=>absurd h (by decide),λh=>absurd h (by decide)⟩
     ·have hpos:0<((els (Ba (Da (els s.held) (E5 n)))).length:Int):=by
       rw[Gz]
       have:=e0e.2 w2;omega
      simp(disch:=try exact dq)only[tx,seval,m1,m2,hw,hpos];have hwf:Dz n (els s.held)=false:=(by rw[hwi];simp[w2]);rw[show Cz n s.n=false by simp only[Cz,Space.n,hwf,e29,e27]]
    ·rw[e1k]at w1;rw[w1]at m1
     simp(disch:=try exact dq)only[tx,seval,m1,hw];have hwf:Dz n (els s.held)=false:=(by rw[hwi,w1];rfl);rw[show Cz n s.n=false by simp only[Cz,Space.n,hwf,e29,e27]]
   ·have m1:=a0b s.one (by have:=hs.one;omega);have m2:=a0c s.one (some (E5 n)) (show(els s.one).length+1<=10000 by have:=hs.one;omega);rw[Bn,C1]at m2;have hwi:Dz n (els s.one)=(G6 (els s.one)&&decide (Da (els s.one) (E5 n)=[])):=rfl;by_cases w1:G6 (els s.one)=true
    ·rw[w1]at m1;by_cases w2:Da (els s.one) (E5 n)=[]
     ·rw[w2]at m2;rw[show Ba []=none from rfl]at m2
      simp(disch:=try exact dq)only[tx,seval,m1,m2,hw,Lb];refine⟨rfl,?_⟩;rw[w1,w2]at hwi;have hwt:Dz n (els s.one)=true:=(by rw[hwi];rfl);exact⟨λ_=>hI.1 om,λ_=>hwt,λh=>absurd h (by decide),λh=>absurd h (by decide)⟩
     ·have hpos:0<((els (Ba (Da (els s.one) (E5 n)))).length:Int):=by
       rw[Gz]
       have:=e0e.2 w2;omega
      simp(disch:=try exact dq)only[tx,seval,m1,m2,hw,hpos];have hwf:Dz n (els s.one)=false:=(by rw[hwi];simp[w2]);rw[show Cz n s.n=false by simp only[Cz,Space.n,hwf,e29,e27]]
    ·rw[e1k]at w1;rw[w1]at m1
     simp(disch:=try exact dq)only[tx,seval,m1,hw];have hwf:Dz n (els s.one)=false:=(by rw[hwi,w1];rfl);rw[show Cz n s.n=false by simp only[Cz,Space.n,hwf,e29,e27]]
   ·have m1:=a0b s.two (by have:=hs.two;omega);have m2:=a0c s.two (some (E5 n)) (show(els s.two).length+1<=10000 by have:=hs.two;omega);rw[Bn,C1]at m2;have hwi:Dz n (els s.two)=(G6 (els s.two)&&decide (Da (els s.two) (E5 n)=[])):=rfl;by_cases w1:G6 (els s.two)=true
    ·rw[w1]at m1;by_cases w2:Da (els s.two) (E5 n)=[]
     ·rw[w2]at m2;rw[show Ba []=none from rfl]at m2
      simp(disch:=try exact dq)only[tx,seval,m1,m2,hw,Lb];refine⟨rfl,?_⟩;rw[w1,w2]at hwi;have hwt:Dz n (els s.two)=true:=(by rw[hwi];rfl);exact⟨λ_=>hI.1 om,λ_=>hI.2.1 om,λ_=>hwt,λh=>absurd h (by decide)⟩
     ·have hpos:0<((els (Ba (Da (els s.two) (E5 n)))).length:Int):=by
       rw[Gz]
       have:=e0e.2 w2;omega
      simp(disch:=try exact dq)only[tx,seval,m1,m2,hw,hpos];have hwf:Dz n (els s.two)=false:=(by rw[hwi];simp[w2]);rw[show Cz n s.n=false by simp only[Cz,Space.n,hwf,e29,e27]]
    ·rw[e1k]at w1;rw[w1]at m1
     simp(disch:=try exact dq)only[tx,seval,m1,hw];have hwf:Dz n (els s.two)=false:=(by rw[hwi,w1];rfl);rw[show Cz n s.n=false by simp only[Cz,Space.n,hwf,e29,e27]]
   ·have m1:=a0b s.kept (by have:=hs.kept;omega);have m2:=a0c s.kept (some (E5 n)) (show(els s.kept).length+1<=10000 by have:=hs.kept;omega);rw[Bn,C1]at m2;have hwi:Dz n (els s.kept)=(G6 (els s.kept)&&decide (Da (els s.kept) (E5 n)=[])):=rfl;by_cases w1:G6 (els s.kept)=true
    ·rw[w1]at m1;by_cases w2:Da (els s.kept) (E5 n)=[]
     ·rw[w2]at m2;rw[show Ba []=none from rfl]at m2
      simp(disch:=try exact dq)only[tx,seval,m1,m2,hw,Lb];refine⟨rfl,?_⟩;rw[w1,w2]at hwi;have hwt:Dz n (els s.kept)=true:=(by rw[hwi];rfl);exact⟨λ_=>hI.1 om,λ_=>hI.2.1 om,λ_=>hI.2.2.1 om,λ_=>hwt⟩
     ·have hpos:0<((els (Ba (Da (els s.kept) (E5 n)))).length:Int):=by
       rw[Gz]
       have:=e0e.2 w2;omega
      simp(disch:=try exact dq)only[tx,seval,m1,m2,hw,hpos];have hwf:Dz n (els s.kept)=false:=(by rw[hwi];simp[w2]);rw[show Cz n s.n=false by simp only[Cz,Space.n,hwf,e29,e27]]
    ·rw[e1k]at w1;rw[w1]at m1
     simp(disch:=try exact dq)only[tx,seval,m1,hw];have hwf:Dz n (els s.kept)=false:=(by rw[hwi,w1];rfl);rw[show Cz n s.n=false by simp only[Cz,Space.n,hwf,e29,e27]]
  ·intro hI;have e1:=hI.1 om;have e2:=hI.2.1 om;have e3:=hI.2.2.1 om;have e4:=hI.2.2.2 om;have hm:Cz n s.n=(decide (Ic (els s.held) (els s.one)=[])&&decide (Ic (D8 (els s.held) (els s.one)) (els s.two)=[])):=by
    rw[e1x];simp[Cz,Space.n,e1,e2,e3,e4,c];exact⟨λh=>⟨e11 h.1,e11 h.2⟩,λh=>⟨e2a h.1,e2a h.2⟩⟩
   rw[hm];have b1:=b4k s.held s.one om;have a1:=c1u s.held s.one om;have hal:=Vr (λa b=>a||b) (els s.held) (els s.one);have b2:=b4k (Ba (D8 (els s.held) (els s.one))) s.two (by rw[Gz];unfold D8;omega);rw[Gz]at b2;by_cases d1:Ic (els s.held) (els s.one)=[]
   ·rw[d1,show Ba []=none from rfl]at b1;by_cases d2:Ic (D8 (els s.held) (els s.one)) (els s.two)=[]
    ·rw[d2,show Ba []=none from rfl]at b2
     simp(disch:=try exact dq)only[tx,seval,b1,a1,b2,Lb];simp[d1,d2]
    ·have hpos:¬ ((els (Ba (Ic (D8 (els s.held) (els s.one)) (els s.two)))).length:Int)=0:=by
      rw[Gz]
      have:=e0e.2 d2;omega
     simp(disch:=try exact dq)only[tx,seval,b1,a1,b2,Lb,hpos];simp[d2]
   ·have hpos:¬ ((els (Ba (Ic (els s.held) (els s.one)))).length:Int)=0:=by
     rw[Gz]
     have:=e0e.2 d1;omega
    simp(disch:=try exact dq)only[tx,seval,b1,a1,b2,Lb,hpos];simp[d1]
 ·have hn:Cz n s.n=false:=by unfold Cz;rw[e1k]at c;rw[c];rfl
  rw[hn];have hb:n<40\/240<n:=by
   rcases Int.lt_or_le n 40 with h|h
   ·exact .inl h
   ·rcases Int.lt_or_le 240 n with h2|h2
    ·exact .inr h2
    ·exact absurd (by unfold Hf;simp;omega) c
  simp(disch:=try exact dq)only[tx,seval,a2l,ha,hw];rw[if_pos (by simpa using hb)]
theorem c1w(s:Space)(hs:SpOk s)(n:Int)(h0:-100000<=n)(hn:n<=100000)(H:AH):K tab A5 A4 120 [.int .i64 n,.agg [A0 A6 s.held,A0 A6 s.one,A0 A6 s.two,A0 A6 s.kept]] H=some (.bool (Cz n s.n),H):=by
 refine Ah cq5 rfl (by simp[Ac,A8,Ap]) rfl ?_ H;have h:=c1y s hs n h0 hn
 simp(disch:=try exact dq)only[tx,seval,ae6,h]
theorem Qh{Q:R3->Prop}{step:List AV->AH->R3}{cf:List AV}{H:AH}{r:R3}(hl:Ad step cf H=r)(he:Rd Q False cf H (step cf H)):Q r:=
 G7 hl 0 (λ_=>cf) (λ_=>H) (λ_=>True) rfl rfl trivial (λ_ hj=>absurd hj (e1z _)) (λ_=>he)
theorem b74(l:List Int):(Jl l).length<=l.length:=by
 have hof:Jl l=Kv (dd (Cy l)) (dd (Cy l)).length:=by
  rw[aw6 _ _ (e2z _),e1g]
  exact(b77 l _ (Ya l).1 (Ya l).2).symm
 rw[hof];have h1:=aw5 (dd (Cy l)) (dd (Cy l)).length;have hdl:=Pi (Cy l) (Cy l).length (e2z _);rw[e1g,Lr]at hdl;omega
theorem Rz(n:Int)(l:List Rn)(hn:n<=100000):(Mu n l).length<=20000:=by
 unfold Mu;split
 ·unfold Vd;rw[e1q,List.length_range];omega
 ·simp
theorem c10(s:Space)(hs:SpOk s)(n:Int)(h0:-100000<=n)(hn:n<=100000)(H:AH):K tab A5 A4 71 [.int .i64 n,.agg [A0 A6 s.held,A0 A6 s.one,A0 A6 s.two,A0 A6 s.kept]] H=some (.str (Mt n s.n),H):=by
 refine Ah l71 rfl (by simp[Ac,A8,Ap]) rfl ?_ H;have h:=c1w s hs n h0 hn;have l1:=hs.held;have l2:=hs.one;have l3:=hs.two;have l4:=hs.kept;have p1:=a6h n h0 hn s.held om;have p2:=a6h n h0 hn s.one om;have p3:=a6h n h0 hn s.two om;have p4:=a6h n h0 hn s.kept om;unfold Mt;cases c:Cz n s.n with
 |false=>
   rw[c]at h
   simp(disch:=try exact dq)only[tx,seval,g71,h]
 |true=>
   rw[c]at h;have q1:=Rz n (els s.held) hn;have q2:=Rz n (els s.one) hn;have q3:=Rz n (els s.two) hn;have q4:=Rz n (els s.kept) hn
   simp(disch:=try exact dq)only[tx,seval,g71,h,p1,p2,p3,p4,e0l];rfl
theorem Ko{n:Int}{s:Bytes}{l:List Rn}{r:Bytes}(h:Dm n s=some (l,r)):r.length<=s.length/\l.length<=500:=by
 unfold Dm at h;split at h
 ·rename_i hc;have hb:40<=n/\n<=240:=by have:=hc.1;unfold Hf at this;simpa using this
  cases h;refine⟨by rw[e19];omega,?_⟩
  have:=b74 (((List.range n.toNat).filter (Oe s)).map λi:Nat=>14+(i:Int));rw[e1q]at this;have h2:=List.length_filter_le (Oe s) (List.range n.toNat);rw[List.length_range]at h2;omega
 ·cases h
def K1(o:Option SpaceL):AV:=match o with
 |some s=>.tuple [.agg [A0 A6 (Ba s.held),A0 A6 (Ba s.one),A0 A6 (Ba s.two),A0 A6 (Ba s.kept)],.bool true]
 |none=>.tuple [.agg [.emp,.emp,.emp,.emp],.bool false]
theorem c0r(n:Int)(h0:-100000<=n)(hn:n<=100000)(s:Bytes)(hs:s.length<=1000000) (m0:Dm n s=none)(H:AH):K tab A5 A4 31 [.int .i64 n,.str s] H=some (K1 none,H):=by
 refine Ah l31 rfl rfl (by unfold K1;split<;>simp[A8,Ac,Ap]) ?_ H;have t0:=Kq n hn s om;rw[m0]at t0;unfold Ja at t0;simp only[]at t0
 simp(disch:=try exact dq)only[tx,seval,Sj];generalize hr:Ad _ _ _=r;refine Qh (Q:=λr=>Cg _ _ _ (Be _ _ (B0 _ r))=_) hr ?_
 simp(disch:=try exact dq)only[tx,seval,t0];rfl
theorem c0q(n:Int)(h0:-100000<=n)(hn:n<=100000)(s:Bytes)(hs:s.length<=1000000)(a:List Rn)(r1:Bytes)(m0:Dm n s=some (a,r1))(m1:Dm n r1=none)(H:AH):K tab A5 A4 31 [.int .i64 n,.str s] H=some (K1 none,H):=by
 refine Ah l31 rfl rfl (by unfold K1;split<;>simp[A8,Ac,Ap]) ?_ H;have t0:=Kq n hn s om;rw[m0]at t0;unfold Ja at t0;simp only[]at t0;have b0:=Ko m0;have t1:=Kq n hn r1 om;rw[m1]at t1;unfold Ja at t1;simp only[]at t1
 simp(disch:=try exact dq)only[tx,seval,Sj];generalize hr:Ad _ _ _=r;refine B7 hr 1 (λj=>match j with|0=>[.int .i64 n,.str s,.ptr 0 0 0 1,.top,.ptr 1 0 0 1,.str s,.top,.top,.top,.int .i64 0,.top,.top,.top,.top,.top,.top,.top]|_=>[.int .i64 n,.str s,.ptr 0 0 0 1,.top,.ptr 1 0 0 1,.str r1,.top,.top,.top,.int .i64 1,.top,.top,.top,.top,.top,.top,.top] ) (λj=>match j with|0=>[some [[.emp,.emp,.emp,.emp]],some [[.emp,.emp,.emp,.emp]]]|_=>[some [[.emp,.emp,.emp,.emp]],some [[A0 A6 (Ba a),.emp,.emp,.emp]]] ) (λ_=>True) ?_ ?_ trivial ?_ ?_
 ·rfl
 ·rfl
 ·intro j hj _;obtain rfl:j=0:=om
  simp(disch:=try exact dq)only[tx,seval,t0,t1]
  first|exact⟨rfl,rfl⟩|rfl
 ·intro _
  simp(disch:=try exact dq)only[tx,seval,t0,t1];rfl
theorem c0p(n:Int)(h0:-100000<=n)(hn:n<=100000)(s:Bytes)(hs:s.length<=1000000)(a b:List Rn)(r1 r2:Bytes)(m0:Dm n s=some (a,r1))(m1:Dm n r1=some (b,r2))(m2:Dm n r2=none)(H:AH):K tab A5 A4 31 [.int .i64 n,.str s] H=some (K1 none,H):=by
 refine Ah l31 rfl rfl (by unfold K1;split<;>simp[A8,Ac,Ap]) ?_ H;have t0:=Kq n hn s om;rw[m0]at t0;unfold Ja at t0;simp only[]at t0;have b0:=Ko m0;have t1:=Kq n hn r1 om;rw[m1]at t1;unfold Ja at t1;simp only[]at t1;have b1:=Ko m1;have t2:=Kq n hn r2 om;rw[m2]at t2;unfold Ja at t2;simp only[]at t2
 simp(disch:=try exact dq)only[tx,seval,Sj];generalize hr:Ad _ _ _=r;refine B7 hr 2 (λj=>match j with|0=>[.int .i64 n,.str s,.ptr 0 0 0 1,.top,.ptr 1 0 0 1,.str s,.top,.top,.top,.int .i64 0,.top,.top,.top,.top,.top,.top,.top]|1=>[.int .i64 n,.str s,.ptr 0 0 0 1,.top,.ptr 1 0 0 1,.str r1,.top,.top,.top,.int .i64 1,.top,.top,.top,.top,.top,.top,.top]|_=>[.int .i64 n,.str s,.ptr 0 0 0 1,.top,.ptr 1 0 0 1,.str r2,.top,.top,.top,.int .i64 2,.top,.top,.top,.top,.top,.top,.top] ) (λj=>match j with|0=>[some [[.emp,.emp,.emp,.emp]],some [[.emp,.emp,.emp,.emp]]]|1=>[some [[.emp,.emp,.emp,.emp]],some [[A0 A6 (Ba a),.emp,.emp,.emp]]]|_=>[some [[.emp,.emp,.emp,.emp]],some [[A0 A6 (Ba a),A0 A6 (Ba b),.emp,.emp]]] ) (λ_=>True) ?_ ?_ trivial ?_ ?_
 ·rfl
 ·rfl
 ·intro j hj _;obtain rfl|rfl:j=0\/j=1:=om
  ·simp(disch:=try exact dq)only[tx,seval,t0,t1,t2]
   first|exact⟨rfl,rfl⟩|rfl
  ·simp(disch:=try exact dq)only[tx,seval,t0,t1,t2]
   first|exact⟨rfl,rfl⟩|rfl
 ·intro _
  simp(disch:=try exact dq)only[tx,seval,t0,t1,t2];rfl
theorem c0o(n:Int)(h0:-100000<=n)(hn:n<=100000)(s:Bytes)(hs:s.length<=1000000)(a b c:List Rn)(r1 r2 r3:Bytes)(m0:Dm n s=some (a,r1))(m1:Dm n r1=some (b,r2))(m2:Dm n r2=some (c,r3))(m3:Dm n r3=none)(H:AH):K tab A5 A4 31 [.int .i64 n,.str s] H=some (K1 none,H):=by
 refine Ah l31 rfl rfl (by unfold K1;split<;>simp[A8,Ac,Ap]) ?_ H;have t0:=Kq n hn s om;rw[m0]at t0;unfold Ja at t0;simp only[]at t0;have b0:=Ko m0;have t1:=Kq n hn r1 om;rw[m1]at t1;unfold Ja at t1;simp only[]at t1;have b1:=Ko m1;have t2:=Kq n hn r2 om;rw[m2]at t2;unfold Ja at t2;simp only[]at t2;have b2:=Ko m2;have t3:=Kq n hn r3 om;rw[m3]at t3;unfold Ja at t3;simp only[]at t3
 simp(disch:=try exact dq)only[tx,seval,Sj];generalize hr:Ad _ _ _=r;refine B7 hr 3 (λj=>match j with|0=>[.int .i64 n,.str s,.ptr 0 0 0 1,.top,.ptr 1 0 0 1,.str s,.top,.top,.top,.int .i64 0,.top,.top,.top,.top,.top,.top,.top]|1=>[.int .i64 n,.str s,.ptr 0 0 0 1,.top,.ptr 1 0 0 1,.str r1,.top,.top,.top,.int .i64 1,.top,.top,.top,.top,.top,.top,.top]|2=>[.int .i64 n,.str s,.ptr 0 0 0 1,.top,.ptr 1 0 0 1,.str r2,.top,.top,.top,.int .i64 2,.top,.top,.top,.top,.top,.top,.top]|_=>[.int .i64 n,.str s,.ptr 0 0 0 1,.top,.ptr 1 0 0 1,.str r3,.top,.top,.top,.int .i64 3,.top,.top,.top,.top,.top,.top,.top] ) (λj=>match j with|0=>[some [[.emp,.emp,.emp,.emp]],some [[.emp,.emp,.emp,.emp]]]|1=>[some [[.emp,.emp,.emp,.emp]],some [[A0 A6 (Ba a),.emp,.emp,.emp]]]|2=>[some [[.emp,.emp,.emp,.emp]],some [[A0 A6 (Ba a),A0 A6 (Ba b),.emp,.emp]]]|_=>[some [[.emp,.emp,.emp,.emp]],some [[A0 A6 (Ba a),A0 A6 (Ba b),A0 A6 (Ba c),.emp]]] ) (λ_=>True) ?_ ?_ trivial ?_ ?_
 ·rfl
 ·rfl
 ·intro j hj _;obtain rfl|rfl|rfl:j=0\/j=1\/j=2:=om
  ·simp(disch:=try exact dq)only[tx,seval,t0,t1,t2,t3]
   first|exact⟨rfl,rfl⟩|rfl
  ·simp(disch:=try exact dq)only[tx,seval,t0,t1,t2,t3]
   first|exact⟨rfl,rfl⟩|rfl
  ·simp(disch:=try exact dq)only[tx,seval,t0,t1,t2,t3]
   first|exact⟨rfl,rfl⟩|rfl
 ·intro _
  simp(disch:=try exact dq)only[tx,seval,t0,t1,t2,t3];rfl
theorem c0n(n:Int)(h0:-100000<=n)(hn:n<=100000)(s:Bytes)(hs:s.length<=1000000)(a b c e:List Rn)(r1 r2 r3 r4:Bytes)(m0:Dm n s=some (a,r1))(m1:Dm n r1=some (b,r2))(m2:Dm n r2=some (c,r3))(m3:Dm n r3=some (e,r4))(H:AH):K tab A5 A4 31 [.int .i64 n,.str s] H=some (K1 (if Mt n ⟨a,b,c,e⟩=s then some ⟨a,b,c,e⟩else none),H):=by
 refine Ah l31 rfl rfl (by unfold K1;split<;>simp[A8,Ac,Ap]) ?_ H;have t0:=Kq n hn s om;rw[m0]at t0;unfold Ja at t0;simp only[]at t0;have b0:=Ko m0;have t1:=Kq n hn r1 om;rw[m1]at t1;unfold Ja at t1;simp only[]at t1;have b1:=Ko m1;have t2:=Kq n hn r2 om;rw[m2]at t2;unfold Ja at t2;simp only[]at t2;have b2:=Ko m2;have t3:=Kq n hn r3 om;rw[m3]at t3;unfold Ja at t3;simp only[]at t3;have b3:=Ko m3
 simp(disch:=try exact dq)only[tx,seval,Sj];generalize hr:Ad _ _ _=r;refine B7 hr 4 (λj=>match j with|0=>[.int .i64 n,.str s,.ptr 0 0 0 1,.top,.ptr 1 0 0 1,.str s,.top,.top,.top,.int .i64 0,.top,.top,.top,.top,.top,.top,.top]|1=>[.int .i64 n,.str s,.ptr 0 0 0 1,.top,.ptr 1 0 0 1,.str r1,.top,.top,.top,.int .i64 1,.top,.top,.top,.top,.top,.top,.top]|2=>[.int .i64 n,.str s,.ptr 0 0 0 1,.top,.ptr 1 0 0 1,.str r2,.top,.top,.top,.int .i64 2,.top,.top,.top,.top,.top,.top,.top]|3=>[.int .i64 n,.str s,.ptr 0 0 0 1,.top,.ptr 1 0 0 1,.str r3,.top,.top,.top,.int .i64 3,.top,.top,.top,.top,.top,.top,.top]|_=>[.int .i64 n,.str s,.ptr 0 0 0 1,.top,.ptr 1 0 0 1,.str r4,.top,.top,.top,.int .i64 4,.top,.top,.top,.top,.top,.top,.top] ) (λj=>match j with|0=>[some [[.emp,.emp,.emp,.emp]],some [[.emp,.emp,.emp,.emp]]]|1=>[some [[.emp,.emp,.emp,.emp]],some [[A0 A6 (Ba a),.emp,.emp,.emp]]]|2=>[some [[.emp,.emp,.emp,.emp]],some [[A0 A6 (Ba a),A0 A6 (Ba b),.emp,.emp]]]|3=>[some [[.emp,.emp,.emp,.emp]],some [[A0 A6 (Ba a),A0 A6 (Ba b),A0 A6 (Ba c),.emp]]]|_=>[some [[.emp,.emp,.emp,.emp]],some [[A0 A6 (Ba a),A0 A6 (Ba b),A0 A6 (Ba c),A0 A6 (Ba e)]]] ) (λ_=>True) ?_ ?_ trivial ?_ ?_
 ·rfl
 ·rfl
 ·intro j hj _;obtain rfl|rfl|rfl|rfl:j=0\/j=1\/j=2\/j=3:=om
  ·simp(disch:=try exact dq)only[tx,seval,t0,t1,t2,t3]
   first|exact⟨rfl,rfl⟩|rfl
  ·simp(disch:=try exact dq)only[tx,seval,t0,t1,t2,t3]
   first|exact⟨rfl,rfl⟩|rfl
  ·simp(disch:=try exact dq)only[tx,seval,t0,t1,t2,t3]
   first|exact⟨rfl,rfl⟩|rfl
  ·simp(disch:=try exact dq)only[tx,seval,t0,t1,t2,t3]
   first|exact⟨rfl,rfl⟩|rfl
 ·intro _;have hS:=c10 ⟨Ba a,Ba b,Ba c,Ba e⟩ ⟨by rw[Gz];exact b0.2,by rw[Gz];exact b1.2,by rw[Gz];exact b2.2,by rw[Gz];exact b3.2⟩ n h0 hn;have en:Space.n ⟨Ba a,Ba b,Ba c,Ba e⟩=⟨a,b,c,e⟩:=by simp only[Space.n,Gz]
  rw[en]at hS;simp only[]at hS;by_cases hE:Mt n ⟨a,b,c,e⟩=s
  ·rw[if_pos hE]
   simp(disch:=try exact dq)only[tx,seval,hS,hE];rfl
  ·rw[if_neg hE]
   simp(disch:=try exact dq)only[tx,seval,hS,hE];rfl
theorem c0m(n:Int)(h0:-100000<=n)(hn:n<=100000)(s:Bytes)(hs:s.length<=1000000)(H:AH):K tab A5 A4 31 [.int .i64 n,.str s] H=some (K1 (Pz n s),H):=by
 unfold Pz;cases m0:Dm n s with
 |none=>exact c0r n h0 hn s hs m0 H
 |some q0=>
   obtain⟨a,r1⟩:=q0;simp only[];cases m1:Dm n r1 with
   |none=>exact c0q n h0 hn s hs a r1 m0 m1 H
   |some q1=>
     obtain⟨b,r2⟩:=q1;simp only[];cases m2:Dm n r2 with
     |none=>exact c0p n h0 hn s hs a b r1 r2 m0 m1 m2 H
     |some q2=>
       obtain⟨c,r3⟩:=q2;simp only[];cases m3:Dm n r3 with
       |none=>exact c0o n h0 hn s hs a b c r1 r2 r3 m0 m1 m2 m3 H
       |some q3=>
         obtain⟨e,r4⟩:=q3;exact c0n n h0 hn s hs a b c e r1 r2 r3 r4 m0 m1 m2 m3 H
def Lu(d:Dev)(p:Int×Bytes):Bool:=decide (0<=p.1)&&decide (p.1<(els d.last).length)&&decide (p.2.length=256)
def Zn(d:Dev)(p:Int×Bytes):Dev:=⟨d.last,some (els d.wait++[p]),d.lies,d.arm,d.down⟩
def Ey:Dev->List (Int×Bytes)->Dev×Bool
 |d,[]=>(d,true)
 |d,p::l=>if Lu d p=true then(if 0<d.arm then(if d.arm=1 then(⟨d.last,some (els d.wait++[p]),d.lies,0,true⟩,false)else Ey ⟨d.last,some (els d.wait++[p]),d.lies,d.arm-1,d.down⟩ l)else Ey (Zn d p) l)else(d,false)
def Fh(d:Dev)(l:List (Int×Bytes)):Dev×Bool:=if d.down=true then(d,false)else Ey d l
def O8(was b:Bytes)(how:Int):Bytes:=(if how%2=1 then b.take 128 else was.take 128)++(if how/2%2=1 then b.drop 128 else was.drop 128)
def Uj(out:List Bytes)(p:Int×Bytes)(h:Int):List Bytes:=
 if 0<=p.1/\p.1<out.length/\p.2.length=256/\(out.getD p.1.toNat default).length=256 then out.set p.1.toNat (O8 (out.getD p.1.toNat default) p.2 h)else out
def Jn:List Bytes->List (Int×Bytes)->List Int->List Bytes
 |out,[],_=>out
 |out,p::w,how=>Jn (Uj out p (how.headD 0%4)) w how.tail
def Qt(d:Dev):Dev×Bool:=if d.down=true then(d,false)else if 0<d.lies then(⟨d.last,d.wait,d.lies-1,d.arm,d.down⟩,true)
 else(⟨some (Jn (els d.last) (els d.wait) (List.replicate (els d.wait).length 3)),none,d.lies,d.arm,d.down⟩,true)
def Es(n:Int):Dev:=⟨some (if n<=268 then List.replicate n.toNat (zs 256)else []),none,0,0,false⟩
theorem cc5(out:List Bytes)(p:Int×Bytes)(h:Int):(Uj out p h).length=out.length:=by
 unfold Uj;split
 ·rw[e1m]
 ·rfl
theorem a7z:∀ (w:List (Int×Bytes)) (out:List Bytes) (how:List Int),(Jn out w how).length=out.length
 |[],_,_=>rfl
 |p::w,out,how=>by rw[Jn,a7z w,cc5]
theorem d0n{was b:Bytes}(h1:was.length=256)(h2:b.length=256)(how:Int):(O8 was b how).length=256:=by
 unfold O8;rw[e0l];split<;>split<;>simp[e1f,e19,h1,h2]
theorem cc4{n:Nat}(hn:256<=n){out:List Bytes}(ho:∀ s∈out,s.length<=n)(p:Int×Bytes)(h:Int):∀ s∈Uj out p h,s.length<=n:=by
 unfold Uj;split
 ·rename_i hc;intro s hs;rcases List.mem_or_eq_of_mem_set hs with h1|h1
  ·exact ho s h1
  ·rw[h1,d0n hc.2.2.2 hc.2.2.1];exact hn
 ·exact ho
theorem b8m{n:Nat}(hn:256<=n):∀ (w:List (Int×Bytes)) (out:List Bytes) (how:List Int),(∀ s∈out,s.length<=n)->∀ s∈Jn out w how,s.length<=n
 |[],_,_,h=>h
 |p::w,out,how,h=>by rw[Jn];exact b8m hn w _ _ (cc4 hn h p _)
theorem a5s:∀ (l:List (Int×Bytes)) (d:Dev),(Ey d l).1.last=d.last/\(els (Ey d l).1.wait).length<=(els d.wait).length+l.length/\∀ q∈els (Ey d l).1.wait,q∈els d.wait\/q.2.length=256
 |[],d=>⟨rfl,by simp[Ey],λq h=>.inl h⟩
 |p::l,d=>by
   rw[Ey];have key:∀ d':Dev,d'.last=d.last->d'.wait=some (els d.wait++[p])->Lu d p=true->(Ey d' l).1.last=d.last/\(els (Ey d' l).1.wait).length<=(els d.wait).length+(p::l).length/\∀ q∈els (Ey d' l).1.wait,q∈els d.wait\/q.2.length=256:=by
    intro d' h1 h2 h3;obtain⟨a,b,c⟩:=a5s l d';rw[h2,Bn,e0l,e01]at b;refine⟨a.trans h1,by rw[e15];omega,λq hq=>?_⟩;rcases c q hq with h4|h4
    ·rw[h2,Bn,e1u,e0m]at h4;rcases h4 with h4|h4
     ·exact .inl h4
     ·subst h4;simp only[Lu,e14,e0r]at h3;exact .inr h3.2
    ·exact .inr h4
   split
   ·rename_i h3;split
    ·split
     ·refine⟨rfl,by simp[els],λq hq=>?_⟩;rw[Bn,e1u,e0m]at hq;rcases hq with h4|h4
      ·exact .inl h4
      ·subst h4;simp only[Lu,e14,e0r]at h3;exact .inr h3.2
     ·exact key _ rfl rfl h3
    ·exact key _ rfl rfl h3
   ·exact⟨rfl,by simp,λq h=>.inl h⟩
theorem a5r:∀ (l:List (Int×Bytes)) (d:Dev),(Ey d l).1.lies=d.lies
 |[],d=>rfl
 |p::l,d=>by
   rw[Ey];split
   ·split
    ·split
     ·rfl
     ·rw[a5r l]
    ·rw[a5r l];rfl
   ·rfl
def Jc(d:Dev)(p:Int×Bytes):Dev:=if 0<d.arm then⟨d.last,some (els d.wait++[p]),d.lies,d.arm-1,d.down⟩else Zn d p
theorem b32{d:Dev}{p:Int×Bytes}(l:List (Int×Bytes))(h:Lu d p=true)(ha:d.arm≠1):Ey d (p::l)=Ey (Jc d p) l:=by
 simp only[Ey,h,if_true,Jc,ha,if_false];split<;>rfl
theorem ao7{d:Dev}{p:Int×Bytes}(l:List (Int×Bytes))(h:Lu d p=false):Ey d (p::l)=(d,false):=by
 rw[Ey,if_neg (by rw[h];simp)]
theorem bo1{d:Dev}{p:Int×Bytes}(l:List (Int×Bytes))(h:Lu d p=true)(ha:d.arm=1):Ey d (p::l)=(⟨d.last,some (els d.wait++[p]),d.lies,0,true⟩,false):=by
 rw[Ey,if_pos h,if_pos om,if_pos ha]
def Ka(d:Dev)(l:List (Int×Bytes)):Dev:=l.foldl Jc d
theorem d6a{l:List (Int×Bytes)}{j:Nat}(hj:j<l.length)(d:Dev):Ka d (l.take (j+1))=Jc (Ka d (l.take j)) (l.getD j default):=by
 unfold Ka;rw[En hj,e12];rfl
theorem c1g(d:Dev)(p:Int×Bytes):(Jc d p).last=d.last/\(Jc d p).lies=d.lies/\(Jc d p).down=d.down/\(Jc d p).arm<=d.arm/\(Jc d p).wait=some (els d.wait++[p]):=by
 unfold Jc Zn;split
 ·exact⟨rfl,rfl,rfl,by simp only;omega,rfl⟩
 ·exact⟨rfl,rfl,rfl,e30 _,rfl⟩
theorem b0r:∀ (l:List (Int×Bytes)) (d:Dev),(Ka d l).last=d.last/\(Ka d l).lies=d.lies/\(Ka d l).down=d.down/\(Ka d l).arm<=d.arm/\(els (Ka d l).wait).length=(els d.wait).length+l.length
 |[],d=>⟨rfl,rfl,rfl,e30 _,rfl⟩
 |p::l,d=>by
   obtain⟨a,b,c,e,f⟩:=b0r l (Jc d p);obtain⟨a2,b2,c2,e2,f2⟩:=c1g d p;have h:Ka d (p::l)=Ka (Jc d p) l:=rfl;rw[h];refine⟨a.trans a2,b.trans b2,c.trans c2,by omega,?_⟩;rw[f,f2,Bn,e0l,e15,e15,e1n];omega
def Cr(l:List UInt8)(n:Nat)(m:Int):Int:=if l.length<=n\/m<1 then 0 else((l.getD n default).toNat:Int)%m
def Cn(l:List UInt8)(n:Nat)(m:Int):Nat:=if l.length<=n\/m<1 then n else n+1
theorem D3(l:List UInt8)(n:Nat)(m:Int)(h:1<=m):0<=Cr l n m/\Cr l n m<m:=by
 unfold Cr;split
 ·omega
 ·exact⟨Int.emod_nonneg _ om,Int.emod_lt_of_pos _ om⟩
theorem D4(l:List UInt8)(n:Nat)(m:Int):Cn l n m<=n+1:=by unfold Cn;split<;>omega
def pu8(c:UInt8):List PV:=[.int .u8 c.toNat]
theorem D2(l:Sl UInt8)(hl:(els l).length<=1000000)(n:Nat)(hn:n<=1000000)(m:Int)(hm:m<=1000000) :
 Ev tab A5 A4 18 [.ptr 0 0 0 1,.int .i64 m] [some [[A0 pu8 l,.int .i64 n]]]=some (.int .i64 (Cr (els l) n m),[some [[A0 pu8 l,.int .i64 (Cn (els l) n m)]]]):=by
 refine Cd l18 rfl ?_;unfold Cr Cn;by_cases c1:(els l).length<=n
 ·have Am:((els l).length:Int)<=(n:Int):=om
  simp(disch:=try exact dq)only[tx,seval,Uy,c1,Am,Hk,Jf];simp
 ·have Am:¬ ((els l).length:Int)<=(n:Int):=om;by_cases c2:m<1
  ·simp(disch:=try exact dq)only[tx,seval,Uy,c1,Am,c2,Hk,Jf]
  ·have u0:((n:Int)+1-1).toNat=n:=om
   simp(disch:=try exact dq)only[tx,seval,Uy,c1,Am,c2,Hk,Jf,Aa,pu8,e2b,u0];have e1:IntKind.i64.wrap (((els l).getD n default).toNat:Int)=(((els l).getD n default).toNat:Int):=e2b _ (by have:=((els l).getD n default).toNat_lt;omega);rw[e1,Int.tmod_eq_emod_of_nonneg om];rfl
theorem b7z(l:Sl UInt8):Ev tab A5 A4 5 [A0 pu8 l] []=some (.ptr 0 0 0 1,[some [[A0 pu8 l,.int .i64 0]]]):=by
 refine Cd l5 rfl ?_
 simp(disch:=try exact dq)only[tx,seval,g5,Hk,Jf]
def Vy(data k seat:Int):Int:=if Gc data k<0\/seat<0\/6<=seat then -1 else Gc data k+1+seat
theorem dd3(data k:Int):-1<=Gc data k/\Gc data k<=300:=by
 unfold Gc;split
 ·omega
 ·rename_i h;have h1:F6 data=true:=by cases hm:F6 data<;>simp_all
  have hb:40<=data/\data<=240:=by unfold F6 at h1;simpa using h1
  simp only[not_or]at h;split<;>omega
theorem a6j(data k seat:Int)(hs:seat<=1000)(H:AH):K tab A5 A4 22 [.int .i64 data,.int .i64 k,.int .i64 seat] H=some (.int .i64 (Vy data k seat),H):=by
 refine Ah l22 rfl rfl rfl ?_ H;have h1:=λH=>Yj (orc:=A5) (lk:=A4) data k H (λH=>S7 data H);have hb:=dd3 data k;unfold Vy;generalize Gc data k=a at *;by_cases c1:a<0
 ·simp(disch:=try exact dq)only[tx,seval,Ux,h1,c1]
  try simp[c1]
 ·by_cases c2:seat<0
  ·simp(disch:=try exact dq)only[tx,seval,Ux,h1,c1,c2]
   try simp[c2]
  ·by_cases c3:6<=seat
   ·simp(disch:=try exact dq)only[tx,seval,Ux,h1,c1,c2,c3]
    try simp[c3]
   ·simp(disch:=try exact dq)only[tx,seval,Ux,h1,c1,c2,c3,e2b]
    try simp[c1,c2,c3]
theorem ay2(l:List Rn):G6 l=true↔∀ j,j<l.length->0<=(l.getD j default).a/\(l.getD j default).a<(l.getD j default).b/\(l.getD j default).b<=1073741824/\(0<j->(l.getD (j-1) default).b<(l.getD j default).a):=by
 have key:∀ (l:List Rn) (last:Int),-1<=last->(M1 last l=true↔∀ j,j<l.length->(if j=0 then last else(l.getD (j-1) default).b)<(l.getD j default).a/\0<=(l.getD j default).a/\(l.getD j default).a<(l.getD j default).b/\(l.getD j default).b<=1073741824):=by
  intro l
  induction l with
  |nil=>intro last _;simp[M1]
  |cons r l ih=>
    intro last hl;simp only[M1,e14,e0r];constructor
    ·rintro⟨h1,h2,h3,h4⟩ j hj;cases j with
     |zero=>simp only[if_true,List.getD_cons_zero];exact⟨h1,by omega,h2,h3⟩
     |succ j=>
       have:=(ih r.b om).1 h4 j (by simpa using hj);rw[if_neg om,e0d,show j+1-1=j by omega];cases j with
       |zero=>simpa using this
       |succ j=>rw[if_neg om]at this;rw[e0d];exact this
    ·intro h;have h0:=h 0 (by simp);simp only[if_true,List.getD_cons_zero]at h0;refine⟨h0.1,h0.2.2.1,h0.2.2.2,(ih r.b om).2 λj hj=>?_⟩
     have:=h (j+1) (by simpa using hj);rw[if_neg om,e0d,show j+1-1=j by omega]at this;cases j with
     |zero=>simpa using this
     |succ j=>rw[if_neg om];rw[e0d]at this;exact this
 rw[G6,key l (-1) om];constructor
 ·intro h j hj
  have:=h j hj;refine⟨this.2.1,this.2.2.1,this.2.2.2,λh0=>?_⟩;rw[if_neg om]at this;exact this.1
 ·intro h j hj
  have:=h j hj;refine⟨?_,this.1,this.2.1,this.2.2.1⟩;split
  ·omega
  ·exact this.2.2.2 om
theorem b7q(l:Sl Rn)(hl:(els l).length<=1000000)(H:AH):K tab A5 A4 185 [A0 A6 l] H=some (.bool (G6 (els l)),H):=by
 refine Ah cm2 rfl (by simp[Ac,A8,Ap]) rfl ?_ H
 simp(disch:=try exact dq)only[tx,seval,ab1];generalize hr:Ad _ _ _=r;refine B7 hr (els l).length (λj=>[A0 A6 l,.top,.int .i64 j])
  (λj=>[]) (λj=>∀ i,i<j->0<=((els l).getD i default).a/\((els l).getD i default).a<((els l).getD i default).b/\((els l).getD i default).b<=1073741824/\(0<i->((els l).getD (i-1) default).b<((els l).getD i default).a)) ?_ ?_ ?_ ?_ ?_
 ·rfl
 ·rfl
 ·exact λi h=>absurd h (e1z i)
 ·intro j hj hI;have hj':((j:Int)<((els l).length:Int)):=om;have u1:((j:Int)-1).toNat=j-1:=om;by_cases j0:0<(j:Int)
  ·simp(disch:=try exact dq)only[tx,seval,hj',Aa,A6,e2b,u1,j0];generalize hx:(els l).getD j default=x at *;generalize hy:(els l).getD (j-1) default=y at *;refine⟨λh=>?_,λh=>⟨rfl,λi hi=>?_⟩⟩
   ·have hf:G6 (els l)=false:=by
     rw[<-e1k];intro hm
     have:=(ay2 (els l)).1 hm j hj;rw[hx,hy]at this;simp only[e1v,e14,e0r]at h;omega
    rw[hf]
   ·rcases e2l i j with h1|h1
    ·exact hI i h1
    ·obtain rfl:i=j:=om;rw[hx,hy];simp only[e1v,e14,e0r]at h;omega
  ·simp(disch:=try exact dq)only[tx,seval,hj',Aa,A6,e2b,u1,j0];generalize hx:(els l).getD j default=x at *;refine⟨λh=>?_,λh=>⟨rfl,λi hi=>?_⟩⟩
   ·have hf:G6 (els l)=false:=by
     rw[<-e1k];intro hm
     have:=(ay2 (els l)).1 hm j hj;rw[hx]at this;simp only[e1v,e14,e0r]at h;omega
    rw[hf]
   ·rcases e2l i j with h1|h1
    ·exact hI i h1
    ·obtain rfl:i=j:=om;rw[hx];simp only[e1v,e14,e0r]at h;omega
 ·intro hI;rw[(ay2 (els l)).2 hI]
  simp(disch:=try exact dq)only[tx,seval,e2k]
theorem a1y(l:Sl Rn)(hl:(els l).length<=1000000)(n:Int)(H:AH):K tab A5 A4 158 [A0 A6 l,.int .i64 n] H=some (.bool (B5 (els l) n),H):=by
 refine Ah co9 rfl (by simp[Ac,A8,Ap]) rfl ?_ H
 simp(disch:=try exact dq)only[tx,seval,ad4];generalize hr:Ad _ _ _=r;refine B7 hr (els l).length (λj=>[A0 A6 l,.int .i64 n,.top,.int .i64 j])
  (λj=>[]) (λj=>B5 (els l) n=B5 ((els l).drop j) n) ?_ ?_ ?_ ?_ ?_
 ·rfl
 ·rfl
 ·rfl
 ·intro j hj hI;have hj':((j:Int)<((els l).length:Int)):=om;rw[Ew hj,L3]at hI;generalize hx:(els l).getD j default=x at *;by_cases c1:x.a<=n
  ·by_cases c2:n<x.b
   ·rw[hI]
    simp(disch:=try exact dq)only[tx,seval,hj',Aa,A6,e2b,hx,c1,c2]
   ·simp(disch:=try exact dq)only[tx,seval,hj',Aa,A6,e2b,hx,c1,c2];refine⟨rfl,?_⟩;rw[hI];simp[c2]
  ·simp(disch:=try exact dq)only[tx,seval,hj',Aa,A6,e2b,hx,c1];refine⟨rfl,?_⟩;rw[hI];simp[c1]
 ·intro hI;rw[e1h]at hI
  simp(disch:=try exact dq)only[tx,seval,e2k];rw[hI];rfl
theorem b1h(l:Sl Rn)(hl:a5m (els l))(H:AH):K tab A5 A4 14 [A0 A6 l] H=some (.int .i64 (H4 (els l)),H):=by
 refine Ah l14 rfl (by simp[Ac,A8,Ap]) rfl ?_ H
 simp(disch:=try exact dq)only[tx,seval,g14];generalize hr:Ad _ _ _=r;have hl1:=hl.1;refine B7 hr (els l).length (λj=>[A0 A6 l,.top,.int .i64 (H4 ((els l).take j)),.int .i64 j])
  (λj=>[]) (λj=>True) ?_ ?_ trivial ?_ ?_
 ·simp[H4]
 ·rfl
 ·intro j hj _;have hj':((j:Int)<((els l).length:Int)):=om;have hb:=d8r (l:=(els l).take j) λr hr=>hl.2 r (e04 hr);have hlt:(((els l).take j).length:Int)<=10000:=by rw[e1f];omega
  have hx2:=hl.2 ((els l).getD j default) (by rw[dx5,dy1 hj];exact e1c _);rw[En hj,d8s];generalize H4 ((els l).take j)=a at *;generalize hx:(els l).getD j default=x at *;simp only[H4,Int.add_zero]
  simp(disch:=try exact dq)only[tx,seval,hj',hx,Aa,A6,e2b];rw[show a+x.b-x.a=a+(x.b-x.a) by omega];rfl
 ·intro _;rw[e1g]
  simp(disch:=try exact dq)only[tx,seval,e2k]
def iV(r:Nat)(o:List Int):AV:=if o=[]then .emp else .own r 1 0 o.length o.length
def iH(o:List Int):AH:=if o=[]then []else [some (o.map cI)]
theorem a82(n:Int):∀ (l:List Int) (j:Nat),j<=l.length->(∀ i,i<j->l.getD i default<n)->A1 n l=l.take j++A1 n (l.drop j)
 |l,0,_,_=>rfl
 |[],j+1,h,_=>by simp at h
 |x::l,j+1,h,hb=>by
   have h0:=hb 0 om;rw[List.getD_cons_zero]at h0;rw[A1,if_neg om,if_neg om,e08,e0c,e1b,<-a82 n l j (by simpa using h) λi hi=>by have:=hb (i+1) om;rwa [e0d]at this]
theorem L0(n:Int)(l:List Int):A1 n l≠[]:=by
 cases l with
 |nil=>simp[A1]
 |cons x l=>rw[A1];split;simp;split<;>simp
theorem Dk(c:Nat)(H:AH)(o:OE)(x:AV)(h:Option AObj)(H1:AH):clK c H o (some (x,h::H1))=o:=rfl
theorem Rp{f:FuncId}(hl:A4 f=false)(E:CallF)(a:List Opd)(c:Nat)(V:Opd->AV)(H:AH):Kp A4 E f a c V H=Bo E f (a.map V) c H (Ji H (H.length*4+40) (Cb (a.map V)) []):=by
 have h:=Eg hl E a c V H [];unfold Kc at h;rw[if_neg (by simp[hl])]at h;exact h
theorem Dj(tab:List (Nat×FT))(orc:CallF)(lk:FuncId->Bool)(sl:List Nat)(N n0:Nat):(cx tab orc lk sl N n0).n0=n0:=qq
theorem bd5(P:Nat->Prop):∀ n,(∃ i,i<n/\¬ P i)->∃ k,k<n/\¬ P k/\∀ i,i<k->P i
 |0,⟨_,h,_⟩=>absurd h (e1z _)
 |n+1,⟨i,hi,hp⟩=>by
   by_cases h:∃ i,i<n/\¬ P i
   ·obtain⟨k,h1,h2,h3⟩:=bd5 P n h;exact⟨k,by omega,h2,h3⟩
   ·have:i=n:=by
     rcases e2l i n with h2|h2
     ·exact absurd ⟨i,h2,hp⟩ h
     ·omega
    subst this;exact⟨i,by omega,hp,λj hj=>dx9 λh2=>h ⟨j,hj,h2⟩⟩
theorem df5(m:List Int):((m.map cI).all λe=>decide (e.length=1))=true:=by
 rw[e16];intro e he;obtain⟨x,_,rfl⟩:=e2r.1 he;rfl
theorem Ej(ev:Opd->AV)(H:AH)(s:Nat)(x:Opd)(l h:Option Opd):B4 (.slicel s x l h) ev H=Tw H s ev (ev x) l h:=qq
theorem Wg(n:Int):Ev tab A5 A4 293 [.emp,.int .i64 n] []=some (.own 0 1 0 1 1,[some [[.int .i64 n]]]):=by
 refine Cd az2 rfl ?_
 simp(disch:=try exact dq)only[tx,seval,Uw];generalize hr:Ad _ _ _=r;refine B7 hr 0 (λ_=>_) (λ_=>_) (λ_=>True) rfl rfl trivial (λj hj=>absurd hj (e1z _)) ?_;intro _
 simp(disch:=try exact dq)only[tx,seval]
theorem Fw(l:List Int)(h0:l≠[])(hl:l.length<=100000)(n:Int) :
 Ev tab A5 A4 293 [.own 0 1 0 l.length l.length,.int .i64 n] [some (l.map cI)]=some (.own 0 1 0 (A1 n l).length (A1 n l).length,[some ((A1 n l).map cI)])\/
 Ev tab A5 A4 293 [.own 0 1 0 l.length l.length,.int .i64 n] [some (l.map cI)]=some (.own 1 1 0 (A1 n l).length (A1 n l).length,[some (l.map cI),some ((A1 n l).map cI)]):=by
 by_cases hc:∃ j,j<l.length/\(∀ i,i<j->l.getD i default<n)/\n<l.getD j default
 ·obtain⟨k,hk,hkb,hkn⟩:=hc;refine .inr (Cd az2 rfl ?_);have he:A1 n l=l.take k++n::l.drop k:=by
   rw[a82 n l k om hkb,Ew hk,A1,if_neg om,if_pos hkn]
  have hlen:(A1 n l).length=l.length+1:=by rw[he];simp;omega
  rw[hlen,he]
  simp(disch:=try exact dq)only[tx,seval,Uw];generalize hr:Ad _ _ _=r;refine B7 hr k (λj=>[.own 0 1 0 l.length l.length,.int .i64 n,.top,.int .i64 j]) (λ_=>[some (l.map cI)]) (λ_=>True) ?_ ?_ trivial ?_ ?_
  ·rfl
  ·rfl
  ·intro j hj _;have hj':((j:Int)<(l.length:Int)):=om;have hx:=hkb j hj;have hg:(l.map cI)[j]?=some [.int .i64 (l.getD j default)]:=G9 om cI;generalize l.getD j default=x at *
   simp(disch:=try exact dq)only[tx,seval,hj',hg,Au,e1q,e2b];rfl
  ·intro _;have hj':((k:Int)<(l.length:Int)):=om;have hg:(l.map cI)[k]?=some [.int .i64 (l.getD k default)]:=G9 om cI;have htm:List.take k (l.map cI)=(l.take k).map cI:=List.map_take.symm;have Bf:List.take (l.length-k) (List.drop k (l.map cI))=(l.drop k).map cI:=by
    rw[<-List.map_drop,dz1 (by simp)]
   have hmin:min k l.length=k:=om;have hc1:∀ m:List Int,((m.map cI).all λe=>decide (e.length=1))=true:=df5;generalize l.getD k default=x at *;rcases e0j k with k0|k0
   ·subst k0
    simp(disch:=try exact dq)only[tx,seval,hj',hg,Au,e1q,e1f,e2b,Ej,Hr,Hw,D7,Bu,htm,Bf,hmin,hc1,e19];simp only[B8,Nat.add_comm 1];rfl
   ·have k0':¬ k=0:=om
    simp(disch:=try exact dq)only[tx,seval,hj',k0',hg,Au,e1q,e1f,e2b,Ej,Hr,Hw,D7,Bu,htm,Bf,hmin,hc1,e19];simp only[B8,e1w,e2c,e0x,List.singleton_append,show k+1+(l.length-k)=l.length+1 by omega];rfl
 ·refine .inl (Cd az2 rfl ?_);by_cases hall:∀ i,i<l.length->l.getD i default<n
  ·have he:A1 n l=l++[n]:=(by rw[a82 n l l.length (e2z _) hall,e1h,e1g];rfl);have hlen:(A1 n l).length=l.length+1:=(by rw[he];simp);rw[hlen,he]
   simp(disch:=try exact dq)only[tx,seval,Uw];generalize hr:Ad _ _ _=r;refine B7 hr l.length (λj=>[.own 0 1 0 l.length l.length,.int .i64 n,.top,.int .i64 j]) (λ_=>[some (l.map cI)]) (λ_=>True) ?_ ?_ trivial ?_ ?_
   ·rfl
   ·rfl
   ·intro j hj _;have hj':((j:Int)<(l.length:Int)):=om;have hx:=hall j hj;have hg:(l.map cI)[j]?=some [.int .i64 (l.getD j default)]:=G9 om cI;generalize l.getD j default=x at *
    simp(disch:=try exact dq)only[tx,seval,hj',hg,Au,e1q,e2b];rfl
   ·intro _
    simp(disch:=try exact dq)only[tx,seval,e2k,Au,e1q,e2b,B8];rw[e1w];rfl
  ·obtain⟨k,hk,hkn,hkb⟩:=bd5 (λi=>l.getD i default<n) l.length (by
    refine dx9 λh=>hall λi hi=>dx9 λh2=>h ⟨i,hi,h2⟩)
   have hke:l.getD k default=n:=by
    rcases Int.lt_or_le n (l.getD k default)with h|h
    ·exact absurd ⟨k,hk,hkb,h⟩ hc
    ·omega
   have he:A1 n l=l:=by
    rw[a82 n l k om hkb,Ew hk,A1,if_pos hke,<-Ew hk,dz9]
   rw[he]
   simp(disch:=try exact dq)only[tx,seval,Uw];generalize hr:Ad _ _ _=r;refine B7 hr k (λj=>[.own 0 1 0 l.length l.length,.int .i64 n,.top,.int .i64 j]) (λ_=>[some (l.map cI)]) (λ_=>True) ?_ ?_ trivial ?_ ?_
   ·rfl
   ·rfl
   ·intro j hj _;have hj':((j:Int)<(l.length:Int)):=om;have hx:=hkb j hj;have hg:(l.map cI)[j]?=some [.int .i64 (l.getD j default)]:=G9 om cI;generalize l.getD j default=x at *
    simp(disch:=try exact dq)only[tx,seval,hj',hg,Au,e1q,e2b];rfl
   ·intro _;have hj':((k:Int)<(l.length:Int)):=om;have hg:(l.map cI)[k]?=some [.int .i64 n]:=by rw[G9 om cI,hke];rfl
    simp(disch:=try exact dq)only[tx,seval,hj',hg,Au,e1q,e2b,B8]
theorem Xb(n:Int)(l:List Int):(A1 n l).length<=l.length+1:=by
 induction l with
 |nil=>simp[A1]
 |cons x l ih=>
   rw[A1];split
   ·simp
   ·split
    ·simp
    ·rw[e15,e15];omega
theorem cz0(e:List Int)(r:Rn):(Cp e r).length<=e.length+2:=by
 have key:∀ (l:List Int) (n:Int),(A1 n l).length<=l.length+1:=by
  intro l n
  induction l with
  |nil=>simp[A1]
  |cons x l ih=>
    rw[A1];split
    ·simp
    ·split
     ·simp
     ·rw[e15,e15];omega
 have h1:=key e r.a;have h2:=key (A1 r.a e) r.b;unfold Cp;omega
theorem M7:∀ (l:List Rn) (e:List Int),(l.foldl Cp e).length<=e.length+2*l.length
 |[],e=>by simp
 |r::l,e=>by
   have h1:=M7 l (Cp e r);have h2:=cz0 e r;rw[e1r,e15];omega
theorem Xx{l:List Rn}{j:Nat}(hj:j<l.length)(e:List Int):(l.take (j+1)).foldl Cp e=Cp ((l.take j).foldl Cp e) (l.getD j default):=by
 rw[En hj,e12];rfl
theorem d7j(l m:Sl Rn)(hl:(els l).length+(els m).length<=10000)(H:AH):K tab A5 A4 273 [A0 A6 l,A0 A6 m] H=some (if Eu (els l) (els m)=[]then .emp else .fz ((Eu (els l) (els m)).map λn=>[.int .i64 n]),H):=by
 refine Ah b8p rfl (by simp[Ac,A8,Ap]) (by split<;>rfl) ?_ H
 simp(disch:=try exact dq)only[tx,seval,a2e];generalize hr:Ad _ _ _=r;have hed:Eu (els l) (els m)=(els m).foldl Cp ((els l).foldl Cp []):=by unfold Eu;rw[e12]
 refine B7 hr (els l).length
  (λj=>[A0 A6 l,A0 A6 m,.top,iV 0 (((els l).take j).foldl Cp []),.int .i64 j,.top])
  (λj=>iH (((els l).take j).foldl Cp [])) (λ_=>True) ?_ ?_ trivial ?_ ?_
 ·rfl
 ·rfl
 ·intro j hj _;have hj':((j:Int)<((els l).length:Int)):=om;have hlen:=M7 ((els l).take j) [];rw[e1f,e1n]at hlen;rw[Xx hj]
  generalize ((els l).take j).foldl Cp []=o at *;generalize hx:(els l).getD j default=x at *;unfold Cp;have hne:=L0 x.b (A1 x.a o);have hne1:=L0 x.a o;have v2:iV 0 (A1 x.b (A1 x.a o))=.own 0 1 0 (A1 x.b (A1 x.a o)).length (A1 x.b (A1 x.a o)).length:=if_neg hne;have w2:iH (A1 x.b (A1 x.a o))=[some ((A1 x.b (A1 x.a o)).map cI)]:=if_neg hne;rw[v2,w2];have hil:∀ (n:Int) (e:List Int),(A1 n e).length<=e.length+1:=Xb;have hil1:=hil x.a o;have c1:=Eg (f:=293) rfl;have c2:=Rp (f:=293) rfl;by_cases ho:o=[]
  ·subst ho;have e1:A1 x.a []=[x.a]:=rfl;rw[e1]at *;rw[show iV 0 []=.emp from rfl,show iH []=[]from rfl];have r1:=Wg x.a;rcases Fw [x.a] (by simp) (by simp) x.b with r2|r2
   ·simp only[e01,e2c,e2o,cI]at r2
    simp(disch:=try exact dq)only[tx,seval,KQ 293 rfl,An,c1,c2,Dj,Dk,Bo,Bq,r1,r2,hj',hx,Aa,A6,e2b,Au,B8,e1l,e18,e1s,e1t];rfl
   ·simp only[e01,e2c,e2o,cI]at r2
    simp(disch:=try exact dq)only[tx,seval,KQ 293 rfl,An,c1,c2,Dj,Dk,Bo,Bq,r1,r2,hj',hx,Aa,A6,e2b,Au,B8,e1l,e18,e1s,e1t];rfl
  ·have v1:iV 0 o=.own 0 1 0 o.length o.length:=if_neg ho;have w1:iH o=[some (o.map cI)]:=if_neg ho;rw[v1,w1];rcases Fw o ho om x.a with r1|r1
   ·rcases Fw (A1 x.a o) hne1 om x.b with r2|r2
    ·simp(disch:=try exact dq)only[tx,seval,KQ 293 rfl,An,c1,c2,Dj,Dk,Bo,Bq,r1,r2,hj',hx,Aa,A6,e2b,Au,B8,e1l,e18,e1s,e1t];rfl
    ·simp(disch:=try exact dq)only[tx,seval,KQ 293 rfl,An,c1,c2,Dj,Dk,Bo,Bq,r1,r2,hj',hx,Aa,A6,e2b,Au,B8,e1l,e18,e1s,e1t];rfl
   ·rcases Fw (A1 x.a o) hne1 om x.b with r2|r2
    ·simp(disch:=try exact dq)only[tx,seval,KQ 293 rfl,An,c1,c2,Dj,Dk,Bo,Bq,r1,r2,hj',hx,Aa,A6,e2b,Au,B8,e1l,e18,e1s,e1t];rfl
    ·simp(disch:=try exact dq)only[tx,seval,KQ 293 rfl,An,c1,c2,Dj,Dk,Bo,Bq,r1,r2,hj',hx,Aa,A6,e2b,Au,B8,e1l,e18,e1s,e1t];rfl
 ·intro _;rw[e1g];have hlen0:=M7 (els l) [];rw[e1n]at hlen0;rw[hed]
  generalize (els l).foldl Cp []=E at *;by_cases hE0:E=[]
  ·subst hE0;rw[show iV 0 []=.emp from rfl,show iH []=[]from rfl]
   simp(disch:=try exact dq)only[tx,seval,e2k];generalize hr2:Ad _ _ _=r2;refine B7 hr2 (els m).length
    (λj=>[.top,A0 A6 m,.top,iV 0 (((els m).take j).foldl Cp ([]:List Int)),.top,.int .i64 j])
    (λj=>iH (((els m).take j).foldl Cp ([]:List Int))) (λ_=>True) ?_ ?_ trivial ?_ ?_
   ·rfl
   ·rfl
   ·intro j hj _;have hj':((j:Int)<((els m).length:Int)):=om;have hlen:=M7 ((els m).take j) ([]:List Int);rw[e1f]at hlen;rw[Xx hj]
    generalize ((els m).take j).foldl Cp ([]:List Int)=o at *;generalize hx:(els m).getD j default=x at *;unfold Cp;have hne:=L0 x.b (A1 x.a o);have hne1:=L0 x.a o;have v2:iV 0 (A1 x.b (A1 x.a o))=.own 0 1 0 (A1 x.b (A1 x.a o)).length (A1 x.b (A1 x.a o)).length:=if_neg hne;have w2:iH (A1 x.b (A1 x.a o))=[some ((A1 x.b (A1 x.a o)).map cI)]:=if_neg hne;rw[v2,w2];have hil1:=Xb x.a o;have c1:=Eg (f:=293) rfl;have c2:=Rp (f:=293) rfl;by_cases ho:o=[]
    ·subst ho;have e1:A1 x.a []=[x.a]:=rfl;rw[e1]at *;rw[show iV 0 []=.emp from rfl,show iH []=[]from rfl];have r1:=Wg x.a;rcases Fw [x.a] (by simp) (by simp) x.b with r2|r2
     ·simp only[e01,e2c,e2o,cI]at r2
      simp(disch:=try exact dq)only[tx,seval,KQ 293 rfl,An,c1,c2,Dj,Dk,Bo,Bq,r1,r2,hj',hx,Aa,A6,e2b,Au,B8,e1l,e18,e1s,e1t];rfl
     ·simp only[e01,e2c,e2o,cI]at r2
      simp(disch:=try exact dq)only[tx,seval,KQ 293 rfl,An,c1,c2,Dj,Dk,Bo,Bq,r1,r2,hj',hx,Aa,A6,e2b,Au,B8,e1l,e18,e1s,e1t];rfl
    ·have v1:iV 0 o=.own 0 1 0 o.length o.length:=if_neg ho;have w1:iH o=[some (o.map cI)]:=if_neg ho;rw[v1,w1];rcases Fw o ho om x.a with r1|r1
     ·rcases Fw (A1 x.a o) hne1 om x.b with r2|r2
      ·simp(disch:=try exact dq)only[tx,seval,KQ 293 rfl,An,c1,c2,Dj,Dk,Bo,Bq,r1,r2,hj',hx,Aa,A6,e2b,Au,B8,e1l,e18,e1s,e1t];rfl
      ·simp(disch:=try exact dq)only[tx,seval,KQ 293 rfl,An,c1,c2,Dj,Dk,Bo,Bq,r1,r2,hj',hx,Aa,A6,e2b,Au,B8,e1l,e18,e1s,e1t];rfl
     ·rcases Fw (A1 x.a o) hne1 om x.b with r2|r2
      ·simp(disch:=try exact dq)only[tx,seval,KQ 293 rfl,An,c1,c2,Dj,Dk,Bo,Bq,r1,r2,hj',hx,Aa,A6,e2b,Au,B8,e1l,e18,e1s,e1t];rfl
      ·simp(disch:=try exact dq)only[tx,seval,KQ 293 rfl,An,c1,c2,Dj,Dk,Bo,Bq,r1,r2,hj',hx,Aa,A6,e2b,Au,B8,e1l,e18,e1s,e1t];rfl
   ·intro _;rw[e1g];have hlen1:=M7 (els m) ([]:List Int)
    generalize (els m).foldl Cp ([]:List Int)=o at *;by_cases ho:o=[]
    ·subst ho;rw[show iV 0 []=.emp from rfl,show iH []=[]from rfl]
     simp(disch:=try exact dq)only[tx,seval,e2k]
    ·have v1:iV 0 o=.own 0 1 0 o.length o.length:=if_neg ho;have w1:iH o=[some (o.map cI)]:=if_neg ho;rw[v1,w1]
     simp(disch:=try exact dq)only[tx,seval,e2k,ho,Au,B8,Px,O9,e1q]
  ·have hv0:iV 0 E=.own 0 1 0 E.length E.length:=if_neg hE0;have hw0:iH E=[some (E.map cI)]:=if_neg hE0;rw[hv0,hw0]
   simp(disch:=try exact dq)only[tx,seval,e2k,Au];generalize hr2:Ad _ _ _=r2;refine B7 hr2 (els m).length
    (λj=>[.top,A0 A6 m,.top,iV 0 (((els m).take j).foldl Cp E),.top,.int .i64 j])
    (λj=>iH (((els m).take j).foldl Cp E)) (λ_=>True) ?_ ?_ trivial ?_ ?_
   ·rw[e26,List.foldl_nil,hv0];rfl
   ·rw[e26,List.foldl_nil,hw0]
   ·intro j hj _;have hj':((j:Int)<((els m).length:Int)):=om;have hlen:=M7 ((els m).take j) E;rw[e1f]at hlen;rw[Xx hj]
    generalize ((els m).take j).foldl Cp E=o at *;generalize hx:(els m).getD j default=x at *;unfold Cp;have hne:=L0 x.b (A1 x.a o);have hne1:=L0 x.a o;have v2:iV 0 (A1 x.b (A1 x.a o))=.own 0 1 0 (A1 x.b (A1 x.a o)).length (A1 x.b (A1 x.a o)).length:=if_neg hne;have w2:iH (A1 x.b (A1 x.a o))=[some ((A1 x.b (A1 x.a o)).map cI)]:=if_neg hne;rw[v2,w2];have hil1:=Xb x.a o;have c1:=Eg (f:=293) rfl;have c2:=Rp (f:=293) rfl;by_cases ho:o=[]
    ·subst ho;have e1:A1 x.a []=[x.a]:=rfl;rw[e1]at *;rw[show iV 0 []=.emp from rfl,show iH []=[]from rfl];have r1:=Wg x.a;rcases Fw [x.a] (by simp) (by simp) x.b with r2|r2
     ·simp only[e01,e2c,e2o,cI]at r2
      simp(disch:=try exact dq)only[tx,seval,KQ 293 rfl,An,c1,c2,Dj,Dk,Bo,Bq,r1,r2,hj',hx,Aa,A6,e2b,Au,B8,e1l,e18,e1s,e1t];rfl
     ·simp only[e01,e2c,e2o,cI]at r2
      simp(disch:=try exact dq)only[tx,seval,KQ 293 rfl,An,c1,c2,Dj,Dk,Bo,Bq,r1,r2,hj',hx,Aa,A6,e2b,Au,B8,e1l,e18,e1s,e1t];rfl
    ·have v1:iV 0 o=.own 0 1 0 o.length o.length:=if_neg ho;have w1:iH o=[some (o.map cI)]:=if_neg ho;rw[v1,w1];rcases Fw o ho om x.a with r1|r1
     ·rcases Fw (A1 x.a o) hne1 om x.b with r2|r2
      ·simp(disch:=try exact dq)only[tx,seval,KQ 293 rfl,An,c1,c2,Dj,Dk,Bo,Bq,r1,r2,hj',hx,Aa,A6,e2b,Au,B8,e1l,e18,e1s,e1t];rfl
      ·simp(disch:=try exact dq)only[tx,seval,KQ 293 rfl,An,c1,c2,Dj,Dk,Bo,Bq,r1,r2,hj',hx,Aa,A6,e2b,Au,B8,e1l,e18,e1s,e1t];rfl
     ·rcases Fw (A1 x.a o) hne1 om x.b with r2|r2
      ·simp(disch:=try exact dq)only[tx,seval,KQ 293 rfl,An,c1,c2,Dj,Dk,Bo,Bq,r1,r2,hj',hx,Aa,A6,e2b,Au,B8,e1l,e18,e1s,e1t];rfl
      ·simp(disch:=try exact dq)only[tx,seval,KQ 293 rfl,An,c1,c2,Dj,Dk,Bo,Bq,r1,r2,hj',hx,Aa,A6,e2b,Au,B8,e1l,e18,e1s,e1t];rfl
   ·intro _;rw[e1g];have hlen1:=M7 (els m) E
    generalize (els m).foldl Cp E=o at *;by_cases ho:o=[]
    ·subst ho;rw[show iV 0 []=.emp from rfl,show iH []=[]from rfl]
     simp(disch:=try exact dq)only[tx,seval,e2k]
    ·have v1:iV 0 o=.own 0 1 0 o.length o.length:=if_neg ho;have w1:iH o=[some (o.map cI)]:=if_neg ho;rw[v1,w1]
     simp(disch:=try exact dq)only[tx,seval,e2k,ho,Au,B8,Px,O9,e1q]
theorem aw0(k:Int)(so:Bool->Bool->Bool)(hk:(k=0/\so=λa b=>a||b)\/(k=1/\so=λa b=>a&&!b)\/(k=2/\so=λa b=>a&&b))(l m:Sl Rn)(hn:(els l).length+(els m).length<=10000)(H:AH) :
 K tab A5 A4 228 [A0 A6 l,A0 A6 m,.int .i64 k] H=some (A0 A6 (some (Ll so (els l) (els m))),H):=by
 refine Ah b8r rfl (by simp[Ac,A8,Ap]) (Ap _ _) ?_ H;have he:=d7j l m hn;have hEl:(Eu (els l) (els m)).length<=20000:=by
  rw[<-a3h];have h1:=Pi (Cy (Et (els l++els m))) _ (e2z _);rw[e1g,Lr,a3d,e0l]at h1;omega
 rw[a7b];generalize hE:Eu (els l) (els m)=E at *;by_cases hE0:E=[]
 ·rw[if_pos hE0]at he;subst hE0
  simp(disch:=try exact dq)only[tx,seval,Xm,he];generalize hr:Ad _ _ _=r;refine Qh (Q:=λr=>Cg _ _ _ (Be _ _ (B0 _ r))=_) hr ?_
  simp(disch:=try exact dq)only[tx,seval];rfl
 ·rw[if_neg hE0]at he
  simp(disch:=try exact dq)only[tx,seval,Xm,he];generalize hr:Ad _ _ _=r;refine B7 hr (E.length-1)
   (λj=>[A0 A6 l,A0 A6 m,.int .i64 k,.top,.fz (E.map λn=>[.int .i64 n]),.own 0 2 0 (Fm so (els l) (els m) E j).length (Fm so (els l) (els m) E j).length,.int .i64 j,.top,.top,.top,.top,.top])
   (λj=>[some ((Fm so (els l) (els m) E j).map Cv)]) (λj=>True) ?_ ?_ trivial ?_ ?_
  ·rfl
  ·rfl
  ·intro j hj _;have hj':((j:Int)+1<(E.length:Int)):=om;have u1:((j:Int)+1).toNat=j+1:=om;have u0:(j:Int).toNat=j:=om;have hh1:=a1y l om (E.getD j 0);have hh2:=a1y m om (E.getD j 0);have hd:∀ i,E.getD i default=E.getD i 0:=λ_=>rfl;have hol:=a12 so (els l) (els m) E j;rw[Fm];generalize hx:E.getD j 0=x at *;generalize hy:E.getD (j+1) 0=y at *;generalize Fm so (els l) (els m) E j=o at *;cases ha:B5 (els l) x<;>cases hb:B5 (els m) x<;>rw[ha]at hh1<;>rw[hb]at hh2
   all_goals
    rcases hk with ⟨rfl,rfl⟩|⟨rfl,rfl⟩|⟨rfl,rfl⟩
    all_goals
     simp only[Bool.or_false,Bool.or_true,e2j,e2u,e27,e2f,e29,e2e,e2d,e25,if_true,e0f,if_false]
   all_goals first
    |(simp(disch:=try exact dq)only[tx,seval,hh1,hh2,hj',u1,u0,hd,hx,hy,Ax,e1q,e2b,F4]
      rfl)
    |skip
   all_goals
    by_cases ho:o=[]
    ·subst ho;rw[show Cs [] (⟨x,y⟩:Rn)=[⟨x,y⟩]from rfl]
     simp(disch:=try exact dq)only[tx,seval,hh1,hh2,hj',u1,u0,hd,hx,hy,Ax,e1q,e2o,e1n,e2b,F4]
     (try first|done|rfl|exact⟨rfl,rfl⟩|exact⟨rfl,rfl,rfl⟩)
    ·obtain⟨m',q,rfl⟩:∃ m' q,o=m'++[q]:=⟨o.dropLast,o.getLast ho,(dx1 ho).symm⟩;have hp:0<(m'++[q]).length:=(by simp);have hg:((m'++[q]).map Cv)[(m'++[q]).length-1]?=some [.int .i64 q.a,.int .i64 q.b]:=(by simp[Cv]);have hs:((m'++[q]).map Cv).set ((m'++[q]).length-1) [.int .i64 q.a,.int .i64 y]=(m'++[(⟨q.a,y⟩:Rn)]).map Cv:=(by simp[Cv]);have hap:(m'++[q]).map Cv++[[.int .i64 x,.int .i64 y]]=(m'++[q,⟨x,y⟩]).map Cv:=(by simp[Cv]);have hl1:(m'++[(⟨q.a,y⟩:Rn)]).length=(m'++[q]).length:=(by simp);have hl2:(m'++[q,⟨x,y⟩]).length=(m'++[q]).length+1:=(by simp);rw[a4h];have hnt:(((m'++[q]).length:Int)-1).toNat=(m'++[q]).length-1:=om;generalize hLL:(m'++[q]).length=n at *;by_cases c:q.b=x
     ·have hg':=hg;rw[c]at hg';rw[if_pos c]
      simp(disch:=try exact dq)only[tx,seval,hh1,hh2,hj',u1,u0,hd,hx,hy,Ax,e1q,e2b,F4,hLL,hg',hs,hap,hl1,hl2,hnt];rfl
     ·rw[if_neg c]
      simp(disch:=try exact dq)only[tx,seval,hh1,hh2,hj',u1,u0,hd,hx,hy,Ax,e1q,e2b,F4,hLL,hg,hs,hap,hl1,hl2,hnt,c];rfl
  ·intro _;generalize Fm so (els l) (els m) E (E.length-1)=o at *;have hnj:¬ (((E.length-1:Nat):Int)+1<(E.length:Int)):=om
   simp(disch:=try exact dq)only[tx,seval,hnj,e2b,e1q,F4,Iq,a66]
theorem a4s(l m:Sl Rn)(hn:(els l).length+(els m).length<=10000)(H:AH):K tab A5 A4 194 [A0 A6 l,A0 A6 m] H=some (A0 A6 (some (D8 (els l) (els m))),H):=by
 refine Ah b8s rfl (by simp[Ac,A8,Ap]) (Ap _ _) ?_ H;have h:=aw0 0 (λa b=>a||b) (.inl ⟨rfl,rfl⟩) l m hn
 simp(disch:=try exact dq)only[tx,seval,a2j,h];rfl
theorem a7w(l m:Sl Rn)(hn:(els l).length+(els m).length<=10000)(H:AH):K tab A5 A4 193 [A0 A6 l,A0 A6 m] H=some (A0 A6 (some (Da (els l) (els m))),H):=by
 refine Ah cl6 rfl (by simp[Ac,A8,Ap]) (Ap _ _) ?_ H;have h:=aw0 1 (λa b=>a&&!b) (.inr (.inl ⟨rfl,rfl⟩)) l m hn
 simp(disch:=try exact dq)only[tx,seval,aa6,h];rfl
theorem b1z(l m:Sl Rn)(hn:(els l).length+(els m).length<=10000)(H:AH):K tab A5 A4 157 [A0 A6 l,A0 A6 m] H=some (A0 A6 (some (Ic (els l) (els m))),H):=by
 refine Ah cp0 rfl (by simp[Ac,A8,Ap]) (Ap _ _) ?_ H;have h:=aw0 2 (λa b=>a&&b) (.inr (.inr ⟨rfl,rfl⟩)) l m hn
 simp(disch:=try exact dq)only[tx,seval,ad5,h];rfl
theorem Zm(n:Int)(h0:0<n)(hn:n<=100000)(l:Sl Rn)(hl:(els l).length<=1000000)(H:AH):K tab A5 A4 156 [.int .i64 n,A0 A6 l] H=some (.bool (Dz n (els l)),H):=by
 refine Ah cp1 rfl (by simp[Ac,A8,Ap]) rfl ?_ H;have h:=b7q l hl;unfold Dz;by_cases c:G6 (els l)=true
 ·rw[c]at h;rw[bo7 h0 c,c];by_cases ce:els l=[]
  ·have ce':((els l).length:Int)=0:=by rw[ce];rfl
   simp(disch:=try exact dq)only[tx,seval,Xp,h,ce',e2b];rw[ce];rfl
  ·have hp:0<(els l).length:=e0e.2 ce;have ce':¬ ((els l).length:Int)=0:=om;have u1:(((els l).length:Int)-1).toNat=(els l).length-1:=om;have e1:(els l).headD default=(els l).getD 0 default:=by
    cases hh:els l with
    |nil=>exact absurd hh ce
    |cons x m=>rfl
   have e2:(els l).getLastD default=(els l).getD ((els l).length-1) default:=by
    rw[dx5,List.getLastD_eq_getLast?,List.getLast?_eq_getElem?]
   rw[e1,e2];have hpi:(0:Int)<(els l).length:=om
   simp(disch:=try exact dq)only[tx,seval,Xp,h,ce',u1,Aa,A6,e2b,Int.toNat_zero];simp[ce]
 ·rw[e1k]at c;rw[c]at h
  simp(disch:=try exact dq)only[tx,seval,Xp,h,e2b];rw[c];rfl
theorem a6r(l m:Sl Rn)(hl:(els l).length<=1000000)(hm:(els m).length<=1000000)(H:AH):K tab A5 A4 72 [A0 A6 l,A0 A6 m] H=some (.bool (decide (els l=els m)),H):=by
 refine Ah l72 rfl (by simp[Ac,A8,Ap]) rfl ?_ H;by_cases c:((els l).length:Int)=(els m).length
 ·simp(disch:=try exact dq)only[tx,seval,g72,c];generalize hr:Ad _ _ _=r;refine B7 hr (els l).length (λj=>[A0 A6 l,A0 A6 m,.top,.int .i64 j])
   (λj=>[]) (λj=>(els l).take j=(els m).take j) ?_ ?_ ?_ ?_ ?_
  ·rfl
  ·rfl
  ·rfl
  ·intro j hj hI;have hj':((j:Int)<((els l).length:Int)):=om;have hj2:((j:Int)<((els m).length:Int)):=om;rw[En hj,En (show j<(els m).length by omega),hI];have hne:(els l).getD j default≠(els m).getD j default->els l≠els m:=λh e=>h (by rw[e]);generalize hx:(els l).getD j default=x at *;generalize hy:(els m).getD j default=y at *
   simp(disch:=try exact dq)only[tx,seval,hj',hj2,Aa,A6,e2b,hx,hy];by_cases hxy:x=y
   ·subst hxy;refine⟨λh=>absurd h (by simp),λ_=>⟨rfl,rfl⟩⟩
   ·have hn2:¬ (x.a=y.a/\x.b=y.b):=λh=>hxy (by cases x;cases y;simp only[Rn.mk.injEq];exact h);have hf:=hne hxy;refine⟨λ_=>by simp[hf],λh=>(h ?_).elim⟩;rw[e0w,e0z];intro h3;simp only[e14,e0r]at h3;exact hn2 h3
  ·intro hI;rw[e1g,dz1 om]at hI
   simp(disch:=try exact dq)only[tx,seval,e2k,c];simp[hI]
 ·simp(disch:=try exact dq)only[tx,seval,g72,c];have hne:¬ els l=els m:=λe=>c (by rw[e]);simp[hne]
theorem a79(n:Int)(h0:-100000<=n)(hn:n<=100000)(l:Sl Rn)(hl:(els l).length<=9000)(H:AH):K tab A5 A4 101 [.int .i64 n,A0 A6 l] H=some (.str (Mu n (els l)),H):=by
 refine Ah cs4 rfl (by simp[Ac,A8,Ap]) rfl ?_ H;have h1:=λH=>b7v (orc:=A5) (lk:=A4) n H;unfold Mu;by_cases c1:F6 n=true
 ·have hb:40<=n/\n<=240:=by unfold F6 at c1;simpa using c1
  have Am:Hf n=true:=c1;have h2:=Zm n om hn l om;rw[c1]at h1;cases c2:Dz n (els l)with
  |false=>
    rw[c2]at h2
    simp(disch:=try exact dq)only[tx,seval,Xt,h1,h2,e2b]
  |true=>
    rw[c2]at h2;have q0:(n+7).tdiv 8=(n+7)/8:=dx7 om;have hif:(if Hf n=true/\true=true then Vd n.toNat λi=>B5 (els l) (14+↑i)else [])=F9 (λi=>B5 (els l) (14+↑i)) ((n+7)/8).toNat n.toNat:=by
     rw[if_pos ⟨Am,rfl⟩,<-bi1,show((n+7)/8).toNat=(n.toNat+7)/8 by omega]
    rw[hif];generalize hso:(λi:Nat=>B5 (els l) (14+(i:Int)))=so;have hhas:∀ (j:Nat) (H:AH),K tab A5 A4 158 [A0 A6 l,.int .i64 (14+(j:Int))] H=some (.bool (so j),H):=λj H=>by
     rw[a1y l om,<-hso]
    have hm:(n+7)/8=(((n+7)/8).toNat:Int):=om;have hm2:n.toNat<=8*((n+7)/8).toNat:=om;have hm3:((n+7)/8).toNat<=1000:=om
    simp(disch:=try exact dq)only[tx,seval,Xt,h1,h2,e2b,U4,q0]
    generalize ((n+7)/8).toNat=m at *;generalize hr:Ad _ _ _=r;refine B7 hr n.toNat
     (λj=>[.int .i64 n,A0 A6 l,.top,.own 0 1 0 m m,.int .i64 j,.top])
     (λj=>[some ((F9 so m j).map cB)]) (λ_=>True) ?_ ?_ trivial ?_ ?_
    ·rfl
    ·rw[bh7]
    ·intro j hj _;have hj':((j:Int)<n):=om;have q1:(j:Int).tdiv 8=((j/8:Nat):Int):=(Int.ofNat_tdiv j 8).symm;have q2:(j:Int).tmod 8=((j%8:Nat):Int):=(Int.ofNat_tmod j 8).symm;have q3:((j/8:Nat):Int).toNat=j/8:=e10 _;have q4:((j%8:Nat):Int).toNat=j%8:=e10 _;have hbl:=aj3 so m j;have hjm:j/8<m:=om;have hh:=hhas j;cases hb:so j with
     |false=>
       rw[hb]at hh;rw[bh9 so m j hb];generalize F9 so m j=b at *
       simp(disch:=try exact dq)only[tx,seval,hj',hh,e2b,Nt];rfl
     |true=>
       rw[hb]at hh;have hor:=bh0 so j;have hg:((F9 so m j).map cB)[j/8]?=some [.int .u8 (UInt8.ofNat (G1 so j (j/8))).toNat]:=by
        rw[G9 om cB,bi0 so m j _ hjm];rfl
       rw[bh8 so m j hb];generalize F9 so m j=b at *
       simp(disch:=try exact dq)only[tx,seval,hj',hh,e2b,Nt,q1,q2,q3,q4,hg,hbl,hor,e1q];exact⟨rfl,by rw[List.map_set];rfl⟩
    ·intro _;have hbl:=aj3 so m n.toNat;have hbo:=Yc (F9 so m n.toNat);generalize F9 so m n.toNat=b at *;have hbt:List.take m (List.map cB b)=List.map cB b:=by rw[<-hbl];exact Tq b cB
     simp(disch:=try exact dq)only[tx,seval,hbo,hbt,hbl,Nt,e1q,show ¬ ((n.toNat:Int)<n) by omega]
 ·have Am:¬ Hf n=true:=c1;rw[e1k]at c1;rw[c1]at h1
  simp(disch:=try exact dq)only[tx,seval,Xt,h1,e2b];simp[Am]
theorem b7p(s:Space)(hs:SpOk s)(n:Int)(hn:n<=100000)(H:AH):K tab A5 A4 100 [.int .i64 n,.agg [A0 A6 s.held,A0 A6 s.one,A0 A6 s.two,A0 A6 s.kept]] H=some (.bool (Cz n s.n),H):=by
 refine Ah cs5 rfl (by simp[Ac,A8,Ap]) rfl ?_ H;have h1:=λH=>b7v (orc:=A5) (lk:=A4) n H;have l1:=hs.held;have l2:=hs.one;have l3:=hs.two;have l4:=hs.kept;cases c1:F6 n with
 |false=>
   rw[c1]at h1;have Am:Hf n=false:=c1
   simp(disch:=try exact dq)only[tx,seval,Qp,h1];rw[show Cz n s.n=false by simp only[Cz,Am,e29]]
 |true=>
   rw[c1]at h1;have Am:Hf n=true:=c1;have hb:40<=n/\n<=240:=(by unfold F6 at c1;simpa using c1);have w1:=Zm n om hn s.held om;have w2:=Zm n om hn s.one om;have w3:=Zm n om hn s.two om;have w4:=Zm n om hn s.kept om;cases d1:Dz n (els s.held)with
   |false=>
     rw[d1]at w1
     simp(disch:=try exact dq)only[tx,seval,Qp,h1,w1];rw[show Cz n s.n=false by simp only[Cz,Space.n,d1,e29,e27]]
   |true=>
     rw[d1]at w1;cases d2:Dz n (els s.one)with
     |false=>
       rw[d2]at w2
       simp(disch:=try exact dq)only[tx,seval,Qp,h1,w1,w2];rw[show Cz n s.n=false by simp only[Cz,Space.n,d2,e29,e27]]
     |true=>
       rw[d2]at w2;cases d3:Dz n (els s.two)with
       |false=>
         rw[d3]at w3
         simp(disch:=try exact dq)only[tx,seval,Qp,h1,w1,w2,w3];rw[show Cz n s.n=false by simp only[Cz,Space.n,d3,e29,e27]]
       |true=>
         rw[d3]at w3;cases d4:Dz n (els s.kept)with
         |false=>
           rw[d4]at w4
           simp(disch:=try exact dq)only[tx,seval,Qp,h1,w1,w2,w3,w4];rw[show Cz n s.n=false by simp only[Cz,Space.n,d4,e29,e27]]
         |true=>
           rw[d4]at w4;have b1:=b1z s.held s.one om;have b2:=b1z s.held s.two om;have b3:=b1z s.one s.two om;have hm:Cz n s.n=(decide (Ic (els s.held) (els s.one)=[])&&decide (Ic (els s.held) (els s.two)=[])&&decide (Ic (els s.one) (els s.two)=[])):=by
            rw[e1x];simp[Cz,Space.n,d1,d2,d3,d4,Am,db5];constructor
            ·rintro⟨a,b,c⟩;exact⟨⟨e11 a,b⟩,c⟩
            ·rintro⟨⟨a,b⟩,c⟩;exact⟨e2a a,b,c⟩
           rw[hm];have ln:∀ x:List Rn,((x.length:Int)=0)=(x=[]):=λx=>propext ⟨λh=>dy4.1 om,λh=>by rw[h];rfl⟩
           simp(disch:=try exact dq)only[tx,seval,Qp,h1,w1,w2,w3,w4,b1,b2,b3]
           congr 2
           rw[e1x];simp only[e14,e0r,ln]
def b0n(n:Int)(s:Space):Sl Rn:=if Cz n s.n=true then some (V3 n s.n)else none
theorem d65(s:Space)(hs:SpOk s)(n:Int)(h0:-100000<=n)(hn:n<=100000)(H:AH):K tab A5 A4 126 [.int .i64 n,.agg [A0 A6 s.held,A0 A6 s.one,A0 A6 s.two,A0 A6 s.kept]] H=some (A0 A6 (b0n n s),H):=by
 refine Ah cp9 rfl (by simp[Ac,A8,Ap]) (Ap _ _) ?_ H;have h1:=b7p s hs n hn;have l1:=hs.held;have l2:=hs.one;have l3:=hs.two;have l4:=hs.kept;unfold b0n;cases c:Cz n s.n with
 |false=>
   rw[c]at h1
   simp(disch:=try exact dq)only[tx,seval,a2o,h1]
   try rfl
 |true=>
   rw[c]at h1;have a1:=a4s s.held s.one om;have a2:=a4s s.two s.kept om;have w1:=Vr (λa b=>a||b) (els s.held) (els s.one);have w2:=Vr (λa b=>a||b) (els s.two) (els s.kept);have w3:=Vr (λa b=>a||b) (D8 (els s.held) (els s.one)) (D8 (els s.two) (els s.kept));have e1:(D8 (els s.held) (els s.one)).length<=2000:=(by unfold D8;omega);have e2:(D8 (els s.two) (els s.kept)).length<=2000:=(by unfold D8;omega);have e3:(D8 (D8 (els s.held) (els s.one)) (D8 (els s.two) (els s.kept))).length<=8000:=by
    show(Ll (λa b=>a||b) (D8 (els s.held) (els s.one)) (D8 (els s.two) (els s.kept))).length<=8000;omega
   have a3:=a4s (some (D8 (els s.held) (els s.one))) (some (D8 (els s.two) (els s.kept))) (by rw[Bn,Bn];omega);rw[Bn,Bn]at a3;have a4:=a7w (some (E5 n)) (some (D8 (D8 (els s.held) (els s.one)) (D8 (els s.two) (els s.kept)))) (by rw[Bn,Bn];show 1+_<=10000;omega);rw[Bn,Bn]at a4;have hfr:V3 n s.n=Da (E5 n) (D8 (D8 (els s.held) (els s.one)) (D8 (els s.two) (els s.kept))):=d64 c;rw[hfr];rw[C1]at a1 a2;rw[C1,C1]at a3;rw[C1,C1]at a4;have hw:(E5 n).map A6=[[.int .i64 14,.int .i64 (14+n)]]:=rfl;rw[hw]at a4
   simp(disch:=try exact dq)only[tx,seval,a2o,h1,a1,a2,a3,a4,e2b]
theorem c2m(a b:Space)(ha:SpOk a)(hb:SpOk b)(H:AH):K tab A5 A4 33 [.agg [A0 A6 a.held,A0 A6 a.one,A0 A6 a.two,A0 A6 a.kept],.agg [A0 A6 b.held,A0 A6 b.one,A0 A6 b.two,A0 A6 b.kept]] H=some (.bool (decide (a.n=b.n)),H):=by
 refine Ah l33 rfl (by simp[Ac,A8,Ap]) rfl ?_ H;have s1:=a6r a.held b.held (by have:=ha.held;omega) (by have:=hb.held;omega);have s2:=a6r a.one b.one (by have:=ha.one;omega) (by have:=hb.one;omega);have s3:=a6r a.two b.two (by have:=ha.two;omega) (by have:=hb.two;omega);have s4:=a6r a.kept b.kept (by have:=ha.kept;omega) (by have:=hb.kept;omega)
 simp(disch:=try exact dq)only[tx,seval,g33,s1,s2,s3,s4]
 congr 2
 rw[e1x];simp only[e14,e0r,Space.n,SpaceL.mk.injEq,and_assoc]
def aq2(s:Space)(held:Sl Rn):Space:=⟨some (D8 (els held) []),some (Da (els s.held) (els held)),some (Da (Da (els s.one) (els held)) (Da (els s.held) (els held))),some (D8 (els s.kept) [])⟩
theorem by5(s:Space)(hs:SpOk s)(held:Sl Rn)(hh:(els held).length<=500)(H:AH):K tab A5 A4 127 [.agg [A0 A6 s.held,A0 A6 s.one,A0 A6 s.two,A0 A6 s.kept],A0 A6 held] H=some (.agg (as3 (aq2 s held)),H):=by
 refine Ah cp8 rfl (by simp[Ac,A8,Ap]) (by simp[as3,Ac,A8,Ap]) ?_ H;have l1:=hs.held;have l2:=hs.one;have l4:=hs.kept;have a1:=a7w s.held held om;have a2:=a7w s.one held om;have w1:=Vr (λa b=>a&&!b) (els s.held) (els held);have w2:=Vr (λa b=>a&&!b) (els s.one) (els held);have a3:=a7w (some (Da (els s.one) (els held))) (some (Da (els s.held) (els held))) (by rw[Bn,Bn];unfold Da;omega);rw[Bn,Bn]at a3;have a4:=a4s held none (by rw[ah9];simp;omega);have a5:=a4s s.kept none (by rw[ah9];simp;omega);rw[ah9,Lb]at a4 a5;rw[C1]at a1 a2;rw[C1,C1]at a3
 simp(disch:=try exact dq)only[tx,seval,ae1,a1,a2,a3,a4,a5];rfl
theorem a7q(l:Sl Ptr)(hl:(els l).length<=1000000)(H:AH):K tab A5 A4 99 [A0 Ae l] H=some (.bool ((els l).all Bt),H):=by
 refine Ah l99 rfl (by simp[Ac,A8,Ap]) rfl ?_ H
 simp(disch:=try exact dq)only[tx,seval,g99];generalize hr:Ad _ _ _=r;refine B7 hr (els l).length (λj=>[A0 Ae l,.top,.int .i64 j])
  (λj=>[]) (λj=>(els l).all Bt=((els l).drop j).all Bt) ?_ ?_ ?_ ?_ ?_
 ·rfl
 ·rfl
 ·rfl
 ·intro j hj hI;have hj':((j:Int)<((els l).length:Int)):=om;rw[Ew hj,e2h]at hI;have hm:=ay3 (orc:=A5) ((els l).getD j default).addr ((els l).getD j default).birth ((els l).getD j default).sum.a ((els l).getD j default).sum.b ((els l).getD j default).sum.c ((els l).getD j default).sum.d;rw[Q8]at hm;generalize hx:(els l).getD j default=x at *;cases c:Bt x with
  |false=>
    rw[c]at hm;rw[hI,c]
    simp(disch:=try exact dq)only[tx,seval,hj',Aa,Ae,hx,hm,e2b]
  |true=>
    rw[c]at hm
    simp(disch:=try exact dq)only[tx,seval,hj',Aa,Ae,hx,hm,e2b];exact⟨rfl,by rw[hI,c,e2e]⟩
 ·intro hI;rw[e1h]at hI
  simp(disch:=try exact dq)only[tx,seval,e2k];rw[hI];rfl
theorem F8(E:CallF)(a:List Opd)(c:Nat)(V:Opd->AV)(H:AH)(args:List AV):Kc A4 E 63 a c V H args false=Sv (Kp A4 E 63 a c V H) (Fs H args) c H (E 63 (Bc H args) []):=a3m rfl _ _ _ _ _ _
theorem bp8(r sz o l t:Nat)(H:AH):K tab A5 A4 99 [.own r sz o l t] H=Gs tab A5 A4 99 [.own r sz o l t] H (Ac (Bc H [.own r sz o l t])) (K tab A5 A4 99 (Bc H [.own r sz o l t]) H):=J7 _ _ _ rfl _ _
theorem c5a(a b c:Int)(H:AH):K tab A5 A4 50 [.str [49,49,49],.fz [[.int .i64 a],[.int .i64 b],[.int .i64 c]]] H=some (.str (B6 [1,1,1] [a,b,c]),H):=P0 _ (by decide) (some [a,b,c]) H
theorem c57(a:Int)(H:AH):K tab A5 A4 50 [.str [50],.fz [[.int .i64 a]]] H=some (.str (B6 [2] [a]),H):=P0 _ (by decide) (some [a]) H
theorem c5b(a:Int)(H:AH):K tab A5 A4 50 [.str [49],.fz [[.int .i64 a]]] H=some (.str (B6 [1] [a]),H):=P0 _ (by decide) (some [a]) H
theorem c58(a:Int)(H:AH):K tab A5 A4 50 [.str [52],.fz [[.int .i64 a]]] H=some (.str (B6 [4] [a]),H):=P0 _ (by decide) (some [a]) H
theorem c55(a b c:Int)(H:AH):K tab A5 A4 50 [.str [52,52,52],.fz [[.int .i64 a],[.int .i64 b],[.int .i64 c]]] H=some (.str (B6 [4,4,4] [a,b,c]),H):=P0 _ (by decide) (some [a,b,c]) H
theorem Fk(a b c d:Int)(H:AH):K tab A5 A4 50 [.str [50,49,50,49],.fz [[.int .i64 a],[.int .i64 b],[.int .i64 c],[.int .i64 d]]] H=some (.str (B6 [2,1,2,1] [a,b,c,d]),H):=P0 _ (by decide) (some [a,b,c,d]) H
theorem Lw(k u:Int)(name body:Bytes)(bad size:Int)(l:Sl Ptr)(hn:name.length<=1000000)(hl:(els l).length<=1000000)(H:AH):K tab A5 A4 53 [.agg [.int .i64 k,.int .i64 u,.str name,.str body,.int .i64 bad],.int .i64 size,A0 Ae l] H=some (.str (Dv ⟨k,u,name⟩ size (els l)),H):=by
 refine Ah l53 rfl (by simp[Ac,A8,Ap]) rfl ?_ H;have hp:=λH=>a0x (orc:=A5) l hl H;have hma:=a7q l hl;have hpl:=Wp (els l);have h3:(B6 [1,1,1] [k,u,(name.length:Int)]).length=3:=G5 _ _ rfl;have h2:(B6 [2] [size]).length=2:=G5 _ _ rfl
 simp(disch:=try exact dq)only[tx,seval,g53,hma,hp,Ei,F8,c5a,c57,e2b,h3,h2,e0l];unfold Dv;simp only[];cases hb:(els l).all Bt with
 |false=>
   rw[if_pos (by simp),if_neg (by simp)]
 |true=>
   have e:=U8 hb;by_cases hc:((k=1\/k=2)/\0<=u/\u<8/\name.length<=8)/\(0<=size/\size<=128/\(els l).length=4)
   ·rw[if_neg (by simp only[e0r,e1v,e14,e0w,dy7,e2d,e0f,or_false];omega),if_pos ⟨hc.1,hc.2.1,hc.2.2.1,hc.2.2.2,rfl⟩,e]
   ·rw[if_pos (by simp only[e0r,e1v,e14,e0w,dy7,e2d,e0f,or_false];omega),if_neg (λh=>hc ⟨h.1,h.2.1,h.2.2.1,h.2.2.2.1⟩)]
theorem av5(l:Sl Ptr)(hl:(els l).length<=1000000)(H:AH):K tab A5 A4 54 [A0 Ae l] H=some (.str (Hv (els l)),H):=by
 refine Ah l54 rfl (by simp[Ac,A8,Ap]) rfl ?_ H;have hp:=λH=>a0x (orc:=A5) l hl H;have hma:=a7q l hl;unfold Hv;by_cases c:(els l).length=8
 ·have c':((els l).length:Int)=8:=om;rw[if_pos c];cases ca:(els l).all Bt with
  |false=>
    rw[ca]at hma
    simp(disch:=try exact dq)only[tx,seval,Xj,hma,hp,c'];rw[Er,if_neg (by rw[ca];simp)]
  |true=>
    rw[ca]at hma
    simp(disch:=try exact dq)only[tx,seval,Xj,hma,hp,c']
 ·have c':¬ ((els l).length:Int)=8:=om;rw[if_neg c]
  simp(disch:=try exact dq)only[tx,seval,Xj,hma,hp,c']
theorem b07(n:Int)(H:AH):K tab A5 A4 36 [.int .i64 n] H=some (.bool (decide (0<=n)&&decide (n<=65535)),H):=by
 refine Ah l36 rfl rfl rfl ?_ H
 simp(disch:=try exact dq)only[tx,seval,g36]
theorem b79(n:Int)(H:AH):K tab A5 A4 76 [.int .i64 n] H=some (.bool (decide (0<=n)&&decide (n<=1073741824)),H):=by
 refine Ah l76 rfl rfl rfl ?_ H
 simp(disch:=try exact dq)only[tx,seval,g76]
theorem b64(s:Space)(hs:SpOk s)(n:Int)(h0:-100000<=n)(hn:n<=100000)(H:AH):K tab A5 A4 56 [.int .i64 n,.agg [A0 A6 s.held,A0 A6 s.one,A0 A6 s.two,A0 A6 s.kept]] H=some (.str (Mt n s.n),H):=by
 refine Ah l56 rfl (by simp[Ac,A8,Ap]) rfl ?_ H;have h:=b7p s hs n hn;have l1:=hs.held;have l2:=hs.one;have l3:=hs.two;have l4:=hs.kept;have p1:=a79 n h0 hn s.held om;have p2:=a79 n h0 hn s.one om;have p3:=a79 n h0 hn s.two om;have p4:=a79 n h0 hn s.kept om;unfold Mt;cases c:Cz n s.n with
 |false=>
   rw[c]at h
   simp(disch:=try exact dq)only[tx,seval,g56,h]
 |true=>
   rw[c]at h;have q1:=Rz n (els s.held) hn;have q2:=Rz n (els s.one) hn;have q3:=Rz n (els s.two) hn;have q4:=Rz n (els s.kept) hn
   simp(disch:=try exact dq)only[tx,seval,g56,h,p1,p2,p3,p4,e0l];rfl
theorem av7(r:Root)(H:AH):K tab A5 A4 58 [.agg (Nq r)] H=some (.str (Ku r),H):=by
 refine Ah l58 rfl rfl rfl ?_ H;have Pb:(B6 [4,4,4] [r.txg,r.next,r.guid]).length=12:=G5 _ _ rfl;have h4:(B6 [4] [r.keptTxg]).length=4:=G5 _ _ rfl;have hpl:=Wp [r.table,r.space,r.kept];simp only[e15,e1n]at hpl;have hma:=a7q (some [r.table,r.space,r.kept]) (by simp[els]);have hp:=λH=>a0x (orc:=A5) (some [r.table,r.space,r.kept]) (by simp[els]) H;rw[Bn,C1]at hma hp;simp only[e2c,e2o,Ae]at hma hp;unfold Nq
 simp(disch:=try exact dq)only[tx,seval,g58,hma,hp,b79,bp8,Ei,F8,c55,c58,e2b,Pb,h4,e0l];unfold Ku O3;rw[Bool.and_assoc (Bt r.table)];have hall:(Bt r.table&&(Bt r.space&&Bt r.kept))=true->Er [r.table,r.space,r.kept]=Ed r.table++(Ed r.space++Ed r.kept):=λhb=>by
  have e:=U8 (l:=[r.table,r.space,r.kept]) (by simpa [e2h,Bool.and_assoc]using hb);simpa using e
 generalize (Bt r.table&&(Bt r.space&&Bt r.kept))=b at *;by_cases hc:1<=r.txg/\r.txg<=1073741824/\0<=r.next/\r.next<=1073741824/\0<=r.guid/\r.guid<=1073741824/\0<=r.keptTxg/\r.keptTxg<=1073741824
 ·rw[if_neg (by simp only[e0r,e1v,e14,e0w,e00,dy7];omega)];cases b with
  |false=>rw[if_pos (by simp),if_neg (by simp)]
  |true=>
    rw[if_neg (by simp),if_pos (by simp only[e2f,e14,e0r];omega),hall rfl]
 ·rw[if_pos (by simp only[e0r,e1v,e14,e0w,e00,dy7];omega),if_neg (by simp only[e14,e0r];omega)]
theorem c9b(last:Int)(x:DsetH)(p:Ptr)(hp:Bt p=true):P5 last x p=true↔(last<x.id/\x.id<=65535/\(x.kind=1\/x.kind=2)/\0<=x.origin/\x.origin<=65535/\0<=x.quota/\x.quota<=255/\p.addr≠0):=by
 have h0:p=Bb↔p.addr=0:=by
  constructor
  ·intro h;rw[h];rfl
  ·intro h;unfold Bt at hp;rw[if_pos h]at hp;exact e11 hp
 simp only[P5,e14,e1v,e0r,e0w,dy7,hp,h0];constructor
 ·rintro⟨⟨⟨⟨⟨⟨a,b⟩,c⟩,d⟩,e⟩,-⟩,g⟩;exact⟨a,b,c,d.1,d.2,e.1,e.2,g⟩
 ·rintro⟨a,b,c,d,d2,e,e2,g⟩;exact⟨⟨⟨⟨⟨⟨a,b⟩,c⟩,d,d2⟩,e,e2⟩,trivial⟩,g⟩
theorem b7r:∀ (l:List DsetH) (q:List Ptr) (last:Int),l.length=q.length->M0 last l q=true->q.all Bt=true
 |[],[],_,_,_=>rfl
 |[],_::_,_,h,_=>by simp at h
 |_::_,[],_,h,_=>by simp at h
 |x::l,p::q,last,h,hm=>by
   simp only[M0,e14]at hm;have hp:Bt p=true:=by
    have:=hm.1;simp only[P5,e14]at this;exact this.1.2
   rw[e2h,hp,b7r l q x.id (by simpa using h) hm.2];rfl
theorem c5c(p:Ptr)(H:AH):K tab A5 A4 63 [.fz [[.int .i64 p.addr,.int .i64 p.birth,.int .u32 p.sum.a.toNat,.int .u32 p.sum.b.toNat,.int .u32 p.sum.c.toNat,.int .u32 p.sum.d.toNat]]] H=some (.str (Er [p]),H):=a0x (some [p]) (by simp[els]) H
theorem bp5(a:AV)(r sz o l t:Nat)(H:AH):K tab A5 A4 50 [a,.own r sz o l t] H=Gs tab A5 A4 50 [a,.own r sz o l t] H (Ac (Bc H [a,.own r sz o l t])) (K tab A5 A4 50 (Bc H [a,.own r sz o l t]) H):=J7 _ _ _ rfl _ _
theorem av3(l:Sl Dset)(q:List Ptr)(hl:(els l).length<=1000000)(hq:q.length<=1000000)(H:AH):K tab A5 A4 55 [A0 Ak l,A0 Ae (some q)] H=some (.str (Fx ((els l).map Bf) q),H):=by
 refine Ah l55 rfl (by simp[Ac,Ap]) rfl ?_ H;have no:¬ ((els l).length<=8/\(els l).length=q.length/\q.all Bt=true)->Fx ((els l).map Bf) q=[]:=λh=>by
  unfold Fx;rw[if_neg (λc=>h ⟨by simpa using c.1,by simpa using c.2.1,b7r _ _ _ c.2.1 c.2.2⟩)]
 have hma:=a7q (some q) hq;rw[Bn,C1]at hma;by_cases c1:8<((els l).length:Int)
 ·rw[no om]
  simp(disch:=try exact dq)only[tx,seval,Ut,c1]
 by_cases c2:(q.length:Int)=(els l).length
 ·cases c3:q.all Bt with
  |false=>
    rw[c3]at hma;rw[no (by rw[c3];simp)]
    simp(disch:=try exact dq)only[tx,seval,Ut,c1,c2,hma,b8e,Bn]
  |true=>
    rw[c3]at hma;have hhl:((els l).map Bf).length=(els l).length:=e1q _
    simp(disch:=try exact dq)only[tx,seval,Ut,c1,c2,hma,bp5,c5b,e2b,e1q];generalize hr:Ad _ _ _=r;refine B7 hr (els l).length
     (λj=>[A0 Ak l,.fz (q.map Ae),.top,.str (B6 [1] [((els l).length:Int)]++Ep (((els l).map Bf).take j) (q.take j)),.int .i64 j,.top,.top,.top])
     (λj=>[]) (λj=>0<=Gm ((els l).map Bf) j/\(M0 (Gm ((els l).map Bf) j) (((els l).map Bf).drop j) (q.drop j)=true->Fx ((els l).map Bf) q=B6 [1] [((els l).length:Int)]++Ep (((els l).map Bf).take j) (q.take j)++Ep (((els l).map Bf).drop j) (q.drop j))/\(M0 (Gm ((els l).map Bf) j) (((els l).map Bf).drop j) (q.drop j)=false->Fx ((els l).map Bf) q=[])) ?_ ?_ ?_ ?_ ?_
    ·simp[Ep]
    ·simp
    ·unfold Fx;have:((els l).length:Nat)<=8:=om;have B1:(els l).length=q.length:=om;have h8:q.length<=8:=om;refine⟨by simp[Gm],λh=>?_,λh=>?_⟩
     ·simp only[Gm,if_true,e23]at h;simp[this,B1,h8,h,Ep,B6]
     ·simp only[Gm,if_true,e23]at h;simp[h]
    ·intro j hj hI;obtain⟨hI0,hI⟩:=hI;have hj':((j:Int)<((els l).length:Int)):=om;have hjq:j<q.length:=om;have hjh:j<((els l).map Bf).length:=om;rw[b65 hjh hjq];rw[Ew hjh,Ew hjq]at hI;simp only[M0,Ep]at hI;have hgd:((els l).map Bf).getD j default=Bf ((els l).getD j default):=ay5 hj Bf;have hsl:List.drop j (List.take (j+1) (q.map Ae))=[Ae (q.getD j default)]:=by
      rw[<-List.map_take,<-List.map_drop,En hjq,List.drop_append,dz2 (by simp;omega)];simp[e1f,Nat.min_eq_left (Nat.le_of_lt hjq)]
     rw[hgd]at hI ⊢;have hlen1:=a74 (((els l).map Bf).take j) (q.take j);rw[e1f]at hlen1;have hlp:(B6 [1] [((els l).length:Int)]).length=1:=rfl;have hl6:∀ a b c d:Int,(B6 [2,1,2,1] [a,b,c,d]).length=6:=λa b c d=>G5 _ _ rfl;have hgq:(q.map Ae)[j]?=some (Ae (q.getD j default)):=G9 hjq Ae;have hmp:Bt (q.getD j default)=true:=by
      rw[e16]at c3;exact c3 _ (by rw[dx5,dy1 hjq];exact e1c _)
     have hpo:=c5c (q.getD j default);have hpe:Er [q.getD j default]=Ed (q.getD j default):=(by rw[U8 (by simp only[e2h,hmp,List.all_nil,Bool.and_self])];simp);rw[hpe]at hpo;have hpl:=U9 (q.getD j default);have hrow:=c9b (Gm ((els l).map Bf) j) (Bf ((els l).getD j default)) (q.getD j default) hmp;generalize P5 (Gm ((els l).map Bf) j) (Bf ((els l).getD j default)) (q.getD j default)=mr at hI hrow;have hfail:mr=false->Fx ((els l).map Bf) q=[]:=λh=>hI.2 (by rw[h];rfl);have hok:mr=true->(M0 (Gm ((els l).map Bf) (j+1)) (((els l).map Bf).drop (j+1)) (q.drop (j+1))=true->Fx ((els l).map Bf) q=B6 [1] [((els l).length:Int)]++(Ep (((els l).map Bf).take j) (q.take j)++putRow (Bf ((els l).getD j default)) (q.getD j default))++Ep (((els l).map Bf).drop (j+1)) (q.drop (j+1)))/\(M0 (Gm ((els l).map Bf) (j+1)) (((els l).map Bf).drop (j+1)) (q.drop (j+1))=false->Fx ((els l).map Bf) q=[]):=λh=>by
      rw[az0,hgd];rw[h,e2e]at hI;exact⟨λh2=>by rw[hI.1 h2];simp,hI.2⟩
     have hl1:Gm ((els l).map Bf) (j+1)=((els l).getD j default).id:=(by rw[az0,hgd];rfl);have hlast:Gm ((els l).map Bf) j=if j=0 then 0 else((els l).getD (j-1) default).id:=by
      unfold Gm;split
      ·rfl
      ·rw[ay5 om Bf];rfl
     have hrw:putRow (Bf ((els l).getD j default)) (q.getD j default)=B6 [2,1,2,1] [((els l).getD j default).id,((els l).getD j default).kind,((els l).getD j default).origin,((els l).getD j default).quota]++Ed (q.getD j default):=rfl;have hid:((Bf ((els l).getD j default)).id=((els l).getD j default).id)/\((Bf ((els l).getD j default)).kind=((els l).getD j default).kind)/\((Bf ((els l).getD j default)).origin=((els l).getD j default).origin)/\((Bf ((els l).getD j default)).quota=((els l).getD j default).quota):=⟨rfl,rfl,rfl,rfl⟩;rw[hid.1,hid.2.1,hid.2.2.1,hid.2.2.2,hlast]at hrow;rw[hlast]at hI0;clear hI;generalize hx:(els l).getD j default=x at *;generalize hp:q.getD j default=p at *;generalize hy:((els l).getD (j-1) default)=y at *;generalize Ep (((els l).map Bf).take j) (q.take j)=S at *;have u1:(((j:Int)-1)).toNat=j-1:=om;have u2:(((j:Int)+1)).toNat=j+1:=om;have hall1:([Ae p].all λe=>decide (e.length=6))=true:=rfl;unfold Ae at hall1;have i1:=b07 x.id;have i2:=b07 x.origin;by_cases b1:x.id<1
     ·have hmf:mr=false:=e0z.2 (λh=>by have:=hrow.1 h;(try simp only[e00,e14,e0r,dy7]at *);omega);rw[hfail hmf]
      simp(disch:=try exact dq)only[tx,seval,hj',Aa,Ax,Ak,Ae,hx,hp,hy,u1,u2,hall1,hgq,hsl,hpo,e2b,F2,Ej,Cj,Ci,Ck,D7,Ei,F8,Fk,hl6,hlp,hpl,e0l,e1q,b1]
     cases e1:(decide (0<=x.id)&&decide (x.id<=65535))with
     |false=>
       rw[e1]at i1;have hmf:mr=false:=e0z.2 (λh=>by have:=hrow.1 h;(try simp only[e00,e14,e0r,dy7]at *);omega);rw[hfail hmf]
       simp(disch:=try exact dq)only[tx,seval,hj',Aa,Ax,Ak,Ae,hx,hp,hy,u1,u2,hall1,hgq,hsl,hpo,e2b,F2,Ej,Cj,Ci,Ck,D7,Ei,F8,Fk,hl6,hlp,hpl,e0l,e1q,b1,i1]
     |true=>
       rw[e1]at i1;by_cases j0:0<(j:Int)
       ·rw[if_neg om]at hrow;by_cases c4:x.id<=y.id
        ·have hmf:mr=false:=e0z.2 (λh=>by have:=hrow.1 h;(try simp only[e00,e14,e0r,dy7]at *);omega);rw[hfail hmf]
         simp(disch:=try exact dq)only[tx,seval,hj',Aa,Ax,Ak,Ae,hx,hp,hy,u1,u2,hall1,hgq,hsl,hpo,e2b,F2,Ej,Cj,Ci,Ck,D7,Ei,F8,Fk,hl6,hlp,hpl,e0l,e1q,b1,i1,j0,c4]
        by_cases k1:x.kind=1
        ·cases e2:(decide (0<=x.origin)&&decide (x.origin<=65535))with
         |false=>
           rw[e2]at i2;have hmf:mr=false:=e0z.2 (λh=>by have:=hrow.1 h;(try simp only[e00,e14,e0r,dy7]at *);omega);rw[hfail hmf]
           simp(disch:=try exact dq)only[tx,seval,hj',Aa,Ax,Ak,Ae,hx,hp,hy,u1,u2,hall1,hgq,hsl,hpo,e2b,F2,Ej,Cj,Ci,Ck,D7,Ei,F8,Fk,hl6,hlp,hpl,e0l,e1q,b1,i1,j0,c4,k1,i2]
         |true=>
           rw[e2]at i2;by_cases q0:x.quota<0
           ·have hmf:mr=false:=e0z.2 (λh=>by have:=hrow.1 h;(try simp only[e00,e14,e0r,dy7]at *);omega);rw[hfail hmf]
            simp(disch:=try exact dq)only[tx,seval,hj',Aa,Ax,Ak,Ae,hx,hp,hy,u1,u2,hall1,hgq,hsl,hpo,e2b,F2,Ej,Cj,Ci,Ck,D7,Ei,F8,Fk,hl6,hlp,hpl,e0l,e1q,b1,i1,j0,c4,k1,i2,q0]
           by_cases q1:255<x.quota
           ·have hmf:mr=false:=e0z.2 (λh=>by have:=hrow.1 h;(try simp only[e00,e14,e0r,dy7]at *);omega);rw[hfail hmf]
            simp(disch:=try exact dq)only[tx,seval,hj',Aa,Ax,Ak,Ae,hx,hp,hy,u1,u2,hall1,hgq,hsl,hpo,e2b,F2,Ej,Cj,Ci,Ck,D7,Ei,F8,Fk,hl6,hlp,hpl,e0l,e1q,b1,i1,j0,c4,k1,i2,q0,q1]
           by_cases a0:p.addr=0
           ·have hmf:mr=false:=e0z.2 (λh=>by have:=hrow.1 h;(try simp only[e00,e14,e0r,dy7]at *);omega);rw[hfail hmf]
            simp(disch:=try exact dq)only[tx,seval,hj',Aa,Ax,Ak,Ae,hx,hp,hy,u1,u2,hall1,hgq,hsl,hpo,e2b,F2,Ej,Cj,Ci,Ck,D7,Ei,F8,Fk,hl6,hlp,hpl,e0l,e1q,b1,i1,j0,c4,k1,i2,q0,q1,a0]
           ·have hmt:mr=true:=hrow.2 (by(try simp only[e14,e0r]at *);omega)
            simp(disch:=try exact dq)only[tx,seval,hj',Aa,Ax,Ak,Ae,hx,hp,hy,u1,u2,hall1,hgq,hsl,hpo,e2b,F2,Ej,Cj,Ci,Ck,D7,Ei,F8,Fk,hl6,hlp,hpl,e0l,e1q,b1,i1,j0,c4,k1,i2,q0,q1,a0];refine⟨?_,by rw[hl1];omega,hok hmt⟩;rw[hrw,k1];simp only[e0x];rfl
        ·by_cases k2:x.kind=2
         ·cases e2:(decide (0<=x.origin)&&decide (x.origin<=65535))with
          |false=>
            rw[e2]at i2;have hmf:mr=false:=e0z.2 (λh=>by have:=hrow.1 h;(try simp only[e00,e14,e0r,dy7]at *);omega);rw[hfail hmf]
            simp(disch:=try exact dq)only[tx,seval,hj',Aa,Ax,Ak,Ae,hx,hp,hy,u1,u2,hall1,hgq,hsl,hpo,e2b,F2,Ej,Cj,Ci,Ck,D7,Ei,F8,Fk,hl6,hlp,hpl,e0l,e1q,b1,i1,j0,c4,k1,k2,i2]
          |true=>
            rw[e2]at i2;by_cases q0:x.quota<0
            ·have hmf:mr=false:=e0z.2 (λh=>by have:=hrow.1 h;(try simp only[e00,e14,e0r,dy7]at *);omega);rw[hfail hmf]
             simp(disch:=try exact dq)only[tx,seval,hj',Aa,Ax,Ak,Ae,hx,hp,hy,u1,u2,hall1,hgq,hsl,hpo,e2b,F2,Ej,Cj,Ci,Ck,D7,Ei,F8,Fk,hl6,hlp,hpl,e0l,e1q,b1,i1,j0,c4,k1,k2,i2,q0]
            by_cases q1:255<x.quota
            ·have hmf:mr=false:=e0z.2 (λh=>by have:=hrow.1 h;(try simp only[e00,e14,e0r,dy7]at *);omega);rw[hfail hmf]
             simp(disch:=try exact dq)only[tx,seval,hj',Aa,Ax,Ak,Ae,hx,hp,hy,u1,u2,hall1,hgq,hsl,hpo,e2b,F2,Ej,Cj,Ci,Ck,D7,Ei,F8,Fk,hl6,hlp,hpl,e0l,e1q,b1,i1,j0,c4,k1,k2,i2,q0,q1]
            by_cases a0:p.addr=0
            ·have hmf:mr=false:=e0z.2 (λh=>by have:=hrow.1 h;(try simp only[e00,e14,e0r,dy7]at *);omega);rw[hfail hmf]
             simp(disch:=try exact dq)only[tx,seval,hj',Aa,Ax,Ak,Ae,hx,hp,hy,u1,u2,hall1,hgq,hsl,hpo,e2b,F2,Ej,Cj,Ci,Ck,D7,Ei,F8,Fk,hl6,hlp,hpl,e0l,e1q,b1,i1,j0,c4,k1,k2,i2,q0,q1,a0]
            ·have hmt:mr=true:=hrow.2 (by(try simp only[e14,e0r]at *);omega)
             simp(disch:=try exact dq)only[tx,seval,hj',Aa,Ax,Ak,Ae,hx,hp,hy,u1,u2,hall1,hgq,hsl,hpo,e2b,F2,Ej,Cj,Ci,Ck,D7,Ei,F8,Fk,hl6,hlp,hpl,e0l,e1q,b1,i1,j0,c4,k1,k2,i2,q0,q1,a0];refine⟨?_,by rw[hl1];omega,hok hmt⟩;rw[hrw,k2];simp only[e0x];rfl
         ·have hmf:mr=false:=e0z.2 (λh=>by have:=hrow.1 h;(try simp only[e00,e14,e0r,dy7]at *);omega);rw[hfail hmf]
          simp(disch:=try exact dq)only[tx,seval,hj',Aa,Ax,Ak,Ae,hx,hp,hy,u1,u2,hall1,hgq,hsl,hpo,e2b,F2,Ej,Cj,Ci,Ck,D7,Ei,F8,Fk,hl6,hlp,hpl,e0l,e1q,b1,i1,j0,c4,k1,k2]
       ·rw[if_pos om]at hrow;by_cases k1:x.kind=1
        ·cases e2:(decide (0<=x.origin)&&decide (x.origin<=65535))with
         |false=>
           rw[e2]at i2;have hmf:mr=false:=e0z.2 (λh=>by have:=hrow.1 h;(try simp only[e00,e14,e0r,dy7]at *);omega);rw[hfail hmf]
           simp(disch:=try exact dq)only[tx,seval,hj',Aa,Ax,Ak,Ae,hx,hp,hy,u1,u2,hall1,hgq,hsl,hpo,e2b,F2,Ej,Cj,Ci,Ck,D7,Ei,F8,Fk,hl6,hlp,hpl,e0l,e1q,b1,i1,j0,k1,i2]
         |true=>
           rw[e2]at i2;by_cases q0:x.quota<0
           ·have hmf:mr=false:=e0z.2 (λh=>by have:=hrow.1 h;(try simp only[e00,e14,e0r,dy7]at *);omega);rw[hfail hmf]
            simp(disch:=try exact dq)only[tx,seval,hj',Aa,Ax,Ak,Ae,hx,hp,hy,u1,u2,hall1,hgq,hsl,hpo,e2b,F2,Ej,Cj,Ci,Ck,D7,Ei,F8,Fk,hl6,hlp,hpl,e0l,e1q,b1,i1,j0,k1,i2,q0]
           by_cases q1:255<x.quota
           ·have hmf:mr=false:=e0z.2 (λh=>by have:=hrow.1 h;(try simp only[e00,e14,e0r,dy7]at *);omega);rw[hfail hmf]
            simp(disch:=try exact dq)only[tx,seval,hj',Aa,Ax,Ak,Ae,hx,hp,hy,u1,u2,hall1,hgq,hsl,hpo,e2b,F2,Ej,Cj,Ci,Ck,D7,Ei,F8,Fk,hl6,hlp,hpl,e0l,e1q,b1,i1,j0,k1,i2,q0,q1]
           by_cases a0:p.addr=0
           ·have hmf:mr=false:=e0z.2 (λh=>by have:=hrow.1 h;(try simp only[e00,e14,e0r,dy7]at *);omega);rw[hfail hmf]
            simp(disch:=try exact dq)only[tx,seval,hj',Aa,Ax,Ak,Ae,hx,hp,hy,u1,u2,hall1,hgq,hsl,hpo,e2b,F2,Ej,Cj,Ci,Ck,D7,Ei,F8,Fk,hl6,hlp,hpl,e0l,e1q,b1,i1,j0,k1,i2,q0,q1,a0]
           ·have hmt:mr=true:=hrow.2 (by(try simp only[e14,e0r]at *);omega)
            simp(disch:=try exact dq)only[tx,seval,hj',Aa,Ax,Ak,Ae,hx,hp,hy,u1,u2,hall1,hgq,hsl,hpo,e2b,F2,Ej,Cj,Ci,Ck,D7,Ei,F8,Fk,hl6,hlp,hpl,e0l,e1q,b1,i1,j0,k1,i2,q0,q1,a0];refine⟨?_,by rw[hl1];omega,hok hmt⟩;rw[hrw,k1];simp only[e0x];rfl
        ·by_cases k2:x.kind=2
         ·cases e2:(decide (0<=x.origin)&&decide (x.origin<=65535))with
          |false=>
            rw[e2]at i2;have hmf:mr=false:=e0z.2 (λh=>by have:=hrow.1 h;(try simp only[e00,e14,e0r,dy7]at *);omega);rw[hfail hmf]
            simp(disch:=try exact dq)only[tx,seval,hj',Aa,Ax,Ak,Ae,hx,hp,hy,u1,u2,hall1,hgq,hsl,hpo,e2b,F2,Ej,Cj,Ci,Ck,D7,Ei,F8,Fk,hl6,hlp,hpl,e0l,e1q,b1,i1,j0,k1,k2,i2]
          |true=>
            rw[e2]at i2;by_cases q0:x.quota<0
            ·have hmf:mr=false:=e0z.2 (λh=>by have:=hrow.1 h;(try simp only[e00,e14,e0r,dy7]at *);omega);rw[hfail hmf]
             simp(disch:=try exact dq)only[tx,seval,hj',Aa,Ax,Ak,Ae,hx,hp,hy,u1,u2,hall1,hgq,hsl,hpo,e2b,F2,Ej,Cj,Ci,Ck,D7,Ei,F8,Fk,hl6,hlp,hpl,e0l,e1q,b1,i1,j0,k1,k2,i2,q0]
            by_cases q1:255<x.quota
            ·have hmf:mr=false:=e0z.2 (λh=>by have:=hrow.1 h;(try simp only[e00,e14,e0r,dy7]at *);omega);rw[hfail hmf]
             simp(disch:=try exact dq)only[tx,seval,hj',Aa,Ax,Ak,Ae,hx,hp,hy,u1,u2,hall1,hgq,hsl,hpo,e2b,F2,Ej,Cj,Ci,Ck,D7,Ei,F8,Fk,hl6,hlp,hpl,e0l,e1q,b1,i1,j0,k1,k2,i2,q0,q1]
            by_cases a0:p.addr=0
            ·have hmf:mr=false:=e0z.2 (λh=>by have:=hrow.1 h;(try simp only[e00,e14,e0r,dy7]at *);omega);rw[hfail hmf]
             simp(disch:=try exact dq)only[tx,seval,hj',Aa,Ax,Ak,Ae,hx,hp,hy,u1,u2,hall1,hgq,hsl,hpo,e2b,F2,Ej,Cj,Ci,Ck,D7,Ei,F8,Fk,hl6,hlp,hpl,e0l,e1q,b1,i1,j0,k1,k2,i2,q0,q1,a0]
            ·have hmt:mr=true:=hrow.2 (by(try simp only[e14,e0r]at *);omega)
             simp(disch:=try exact dq)only[tx,seval,hj',Aa,Ax,Ak,Ae,hx,hp,hy,u1,u2,hall1,hgq,hsl,hpo,e2b,F2,Ej,Cj,Ci,Ck,D7,Ei,F8,Fk,hl6,hlp,hpl,e0l,e1q,b1,i1,j0,k1,k2,i2,q0,q1,a0];refine⟨?_,by rw[hl1];omega,hok hmt⟩;rw[hrw,k2];simp only[e0x];rfl
         ·have hmf:mr=false:=e0z.2 (λh=>by have:=hrow.1 h;(try simp only[e00,e14,e0r,dy7]at *);omega);rw[hfail hmf]
          simp(disch:=try exact dq)only[tx,seval,hj',Aa,Ax,Ak,Ae,hx,hp,hy,u1,u2,hall1,hgq,hsl,hpo,e2b,F2,Ej,Cj,Ci,Ck,D7,Ei,F8,Fk,hl6,hlp,hpl,e0l,e1q,b1,i1,j0,k1,k2]
    ·intro hI;obtain⟨_,hI,_⟩:=hI;have ht:q.take (els l).length=q:=dz1 om;have ht2:((els l).map Bf).take (els l).length=(els l).map Bf:=dz1 om;have hd:q.drop (els l).length=[]:=dz2 om;have hd2:((els l).map Bf).drop (els l).length=[]:=dz2 om;rw[ht,ht2,hd,hd2]at hI;rw[ht,ht2]
     simp(disch:=try exact dq)only[tx,seval,e2k];rw[hI rfl];simp[Ep]
 ·rw[no om]
  simp(disch:=try exact dq)only[tx,seval,Ut,c1,c2]
theorem be0{α:Sort _}{P A B:α->Prop}(h:∀ a,A a->B a):(∃ a,P a/\A a)->∃ a,P a/\B a:=λ⟨a,h1,h2⟩=>⟨a,h1,h a h2⟩
theorem Sq{α:Sort _}{P R A B:α->Prop}(h:∀ a,A a->B a):(∃ a,P a/\R a/\A a)->∃ a,P a/\R a/\B a:=λ⟨a,h1,h2,h3⟩=>⟨a,h1,h2,h a h3⟩
theorem c2e(o:Bytes)(i:Nat)(y:UInt8):(o.map cB).set i [.int .u8 y.toNat]=(o.set i y).map cB:=by rw[List.map_set];rfl
theorem bs9(n:Int)(h0:0<=n)(h1:n<256):IntKind.u8.wrap n=((UInt8.ofNat n.toNat).toNat:Int):=by
 rw[IntWalk.u8_in n ⟨h0,by omega⟩];simp;omega
theorem c62(l:Sl UInt8)(hl:(els l).length<=1000000)(n:Nat)(hn:n<=100000) :
 ∃ s:Bytes,s.length<=32/\Ev tab A5 A4 51 [.ptr 0 0 0 1] [some [[A0 pu8 l,.int .i64 n]]]=some (.str s,[some [[A0 pu8 l,.int .i64 (Cn (els l) n 9:Nat)]]]):=by
 have hN:=D2 l hl n om 9 om;have hv:=D3 (els l) n 9 om;generalize Cr (els l) n 9=v at *;generalize Cn (els l) n 9=n' at *;refine be0 (λs h=>Cd l51 rfl h) ?_
 simp(disch:=try exact dq)only[tx,seval,g51,KQ 18 rfl,An,hN,U4];generalize hr:Ad _ _ _=r;refine X3 (Q:=λr=>∃ s:Bytes,s.length<=32/\Cg _ _ _ (Be _ _ (B0 _ r))=some (.str s,[some [[A0 pu8 l,.int .i64 (n':Nat)]]])) hr (if v=8 then 0 else 32)
  (λj cf H=>∃ b:Bytes,b.length=32/\cf=[.top,.top,.own 1 1 0 32 32,.int .i64 v,.int .i64 j,.top,.top,.top]/\H=[some [[A0 pu8 l,.int .i64 (n':Nat)]],some (b.map cB)]) ?_ ?_ ?_
 ·exact⟨zs 32,by simp[zs],rfl,rfl⟩
 ·rintro j hj cf H ⟨b,hb,rfl,rfl⟩;by_cases c:v=8
  ·rw[if_pos c]at hj;omega
  rw[if_neg c]at hj;have hj':((j:Int)<32):=om;have q2:(j:Int).tmod 3=((j%3:Nat):Int):=(Int.ofNat_tmod j 3).symm;have hcv:=bs9 (v+((j%3:Nat):Int)+1) om om;have hg:(b.map cB)[j]?=some [.int .u8 (b.getD j default).toNat]:=G9 om cB
  simp(disch:=try exact dq)only[tx,seval,hj',c,q2,hcv,hg,Nt,hb,c2e,e1q,e2b];exact⟨_,by rw[e1m];exact hb,rfl,rfl⟩
 ·rintro cf H ⟨b,hb,rfl,rfl⟩;have hbt:List.take 32 (List.map cB b)=List.map cB b:=dz1 (by rw[e1q];omega);have hb7:List.take 31 (List.drop 1 (List.map cB b))=(b.drop 1).map cB:=by rw[<-List.map_drop,dz1 (by rw[e1q,e19];omega)]
  have hb6:List.take 16 (List.map cB b)=(b.take 16).map cB:=List.map_take.symm;have hz:List.take 16 (List.map cB (zs 16))=(zs 16).map cB:=dz1 (by simp[zs]);have hzl:(zs 16).length=16:=by simp[zs]
  have hzb:Ib [[AV.int IntKind.u8 0],[AV.int IntKind.u8 0],[AV.int IntKind.u8 0],[AV.int IntKind.u8 0],[AV.int IntKind.u8 0],[AV.int IntKind.u8 0],[AV.int IntKind.u8 0],[AV.int IntKind.u8 0],[AV.int IntKind.u8 0],[AV.int IntKind.u8 0],[AV.int IntKind.u8 0],[AV.int IntKind.u8 0],[AV.int IntKind.u8 0],[AV.int IntKind.u8 0],[AV.int IntKind.u8 0],[AV.int IntKind.u8 0]]=some (zs 16):=rfl;by_cases c:v=8
  ·rw[if_pos c]
   simp(disch:=try exact dq)only[tx,seval,c,Nt,hb,hbt,hb7,hb6,hz,hzl,hzb,U4,Yc,e0l,e1f,e1q,e2b];exact⟨b,by omega,rfl⟩
  ·rw[if_neg c];by_cases c7:v=7
   ·simp(disch:=try exact dq)only[tx,seval,c,c7,Nt,hb,hbt,hb7,hb6,hz,hzl,hzb,U4,Yc,e0l,e1f,Ej,Ig,Hr,Hw,Cj,Ci,Ck,D7,e1q,e2b];exact⟨b.drop 1,by rw[e19];omega,rfl⟩
   by_cases c6:v=6
   ·simp(disch:=try exact dq)only[tx,seval,c,c7,c6,Nt,hb,hbt,hb7,hb6,hz,hzl,hzb,U4,Yc,e0l,e1f,Ej,Ig,Hr,Hw,Cj,Ci,Ck,D7,e1q,e2b];exact⟨b.take 16++zs 16,by rw[e0l,e1f,hzl];omega,rfl⟩
   simp(disch:=try exact dq)only[tx,seval,c,c7,c6,Nt,hb,hbt,hb7,hb6,hz,hzl,hzb,U4,Yc,e0l,e1f,e1q,e2b];exact⟨b,by omega,rfl⟩
def E8(x:Block):List AV:=[.int .i64 x.kind,.int .i64 x.birth,.str x.load]
theorem Bw(l:List Block):Cf (some (l.map E8))=[]:=K4 l _ λ_=>rfl
theorem Bv(τ:Nat->Option Nat)(l:List Block):Av τ (l.map E8)=l.map E8:=Mr τ l _ λ_=>rfl
def Dg(bl:List Block)(bp:List Ptr)(pk:Sl UInt8)(n:Nat):AH:=[some [[.own 1 3 0 bl.length bl.length,.own 2 6 0 bp.length bp.length]],some (bl.map E8),some (bp.map A7),some [[A0 pu8 pk,.int .i64 n]]]
theorem Mj(bl:List Block)(bp:List Ptr)(hb:bl.length=bp.length)(hbl:bl.length<=1000)(pk:Sl UInt8)(hl:(els pk).length<=1000000)(n:Nat)(hn:n<=100000)(kind:Int) :
 ∃ q:Ptr×Nat,q.2<=n+2/\Ev tab A5 A4 52 [.ptr 0 0 0 1,.ptr 3 0 0 1,.int .i64 kind] (Dg bl bp pk n)=some (.agg (A7 q.1),Dg bl bp pk q.2):=by
 refine be0 (λs h=>Cd l52 rfl h) ?_;unfold Dg;rw[<-hb];have hN:=D2 pk hl n om 12 om;have hv:=D3 (els pk) n 12 om;have hn1:=D4 (els pk) n 12;generalize Cr (els pk) n 12=v at *;generalize Cn (els pk) n 12=n1 at *;by_cases c1:v=11
 ·simp(disch:=try exact dq)only[tx,seval,Uu,KQ 18 rfl,An,hN,c1,Bw,Bv,Ar,Aw];exact⟨(Bb,n1),by simp only;omega,rfl⟩
 by_cases c2:((bl.length:Nat):Int)=0
 ·simp(disch:=try exact dq)only[tx,seval,Uu,KQ 18 rfl,An,hN,c1,c2,Bw,Bv,Ar,Aw,e1q];exact⟨(Bb,n1),by simp only;omega,rfl⟩
 by_cases c3:v=10
 ·have hN2:=D2 pk hl n1 om bl.length om;have hv2:=D3 (els pk) n1 bl.length om;have hn2:=D4 (els pk) n1 bl.length;generalize Cr (els pk) n1 bl.length=v2 at *;generalize Cn (els pk) n1 bl.length=n2 at *;have hg:(bp.map A7)[v2.toNat]?=some (A7 (bp.getD v2.toNat default)):=G9 om A7;have hc:∀ p:Ptr,A7 p=[.int .i64 p.addr,.int .i64 p.birth,.int .u32 p.sum.a.toNat,.int .u32 p.sum.b.toNat,.int .u32 p.sum.c.toNat,.int .u32 p.sum.d.toNat]:=λ_=>rfl;rw[hc]at hg
  simp(disch:=try exact dq)only[tx,seval,Uu,KQ 18 rfl,Eg (f:=18) rfl,Bo,Bq,An,hN,hN2,hg,c1,c2,c3,Bw,Bv,Ar,Aw,e1q,e1l];exact⟨(bp.getD v2.toNat default,n2),by simp only;omega,rfl⟩
 have hN2:=D2 pk hl n1 om 5 om;have hv2:=D3 (els pk) n1 5 om;have hn2:=D4 (els pk) n1 5;generalize Cr (els pk) n1 5=v2 at *;generalize Cn (els pk) n1 5=n2 at *
 simp(disch:=try exact dq)only[tx,seval,Uu,KQ 18 rfl,An,hN,hN2,c1,c2,c3,Bw,Bv,Ar,Aw,e1q,e2b];generalize hr:Ad _ _ _=r;have hb3:v2.tdiv 3=v2/3:=dx7 om;rw[hb3]at hr;have hb01:v2/3=0\/v2/3=1:=om;generalize v2/3=back0 at *;refine X3 (Q:=λr=>∃ a:Ptr×Nat,a.2<=n+2/\Cg _ _ _ (Be _ _ (B0 _ r))=some (.agg (A7 a.1),[some [[.own 1 3 0 bl.length bl.length,.own 2 6 0 bl.length bl.length]],some (bl.map E8),some (bp.map A7),some [[A0 pu8 pk,.int .i64 a.2]]])) hr bl.length
  (λj cf H=>∃ Gk:Int,(Gk=0\/Gk=1)/\cf=[.ptr 0 0 0 1,.top,.int .i64 kind,.ptr 4 0 0 1,.top,.int .i64 Gk,.int .i64 ((bl.length:Int)-1-j)]/\H=[some [[.own 1 3 0 bl.length bl.length,.own 2 6 0 bl.length bl.length]],some (bl.map E8),some (bp.map A7),some [[A0 pu8 pk,.int .i64 n2]],some [[.int .i64 0,.int .i64 0,.int .u32 0,.int .u32 0,.int .u32 0,.int .u32 0]]]) ?_ ?_ ?_
 ·exact⟨back0,hb01,by rw[Int.natCast_zero,Int.sub_zero,e2b back0 om],rfl⟩
 ·rintro j hj cf H ⟨Gk,hbk,rfl,rfl⟩;have hi0:(0:Int)<=(bl.length:Int)-1-j:=om;have hiu:((bl.length:Int)-1-j).toNat=bl.length-1-j:=om;have hnx:(bl.length:Int)-1-((j+1:Nat):Int)=(bl.length:Int)-1-j-1:=om;have hgb:(bl.map E8)[bl.length-1-j]?=some [.int .i64 (bl.getD (bl.length-1-j) default).kind,.int .i64 (bl.getD (bl.length-1-j) default).birth,.str (bl.getD (bl.length-1-j) default).load]:=G9 om E8;have hgp:(bp.map A7)[bl.length-1-j]?=some [.int .i64 (bp.getD (bl.length-1-j) default).addr,.int .i64 (bp.getD (bl.length-1-j) default).birth,.int .u32 (bp.getD (bl.length-1-j) default).sum.a.toNat,.int .u32 (bp.getD (bl.length-1-j) default).sum.b.toNat,.int .u32 (bp.getD (bl.length-1-j) default).sum.c.toNat,.int .u32 (bp.getD (bl.length-1-j) default).sum.d.toNat]:=G9 om A7;generalize bl.getD (bl.length-1-j) default=x at *;generalize bp.getD (bl.length-1-j) default=y at *;rw[hnx];have hil:(bl.length:Int)-1-j<bl.length:=om;have him:(bl.length:Int)-1-j<=1000:=om
  generalize (bl.length:Int)-1-j=i at *;by_cases c:x.kind=kind
  ·rcases hbk with rfl|rfl
   ·simp(disch:=try exact dq)only[tx,seval,hi0,hiu,hil,hgb,hgp,c,Bw,Bv,Ar,Aw,e1q,<-hb,e2b];exact⟨(y,n2),by simp only;omega,rfl⟩
   ·simp(disch:=try exact dq)only[tx,seval,hi0,hiu,hil,hgb,c,Bw,Bv,Ar,Aw,e1q,e2b]
    first|exact⟨0,.inl rfl,rfl,rfl⟩|exact⟨0,.inl rfl,rfl⟩
  ·simp(disch:=try exact dq)only[tx,seval,hi0,hiu,hil,hgb,c,Bw,Bv,Ar,Aw,e1q,e2b]
   first|exact⟨Gk,hbk,rfl,rfl⟩|exact⟨Gk,hbk,rfl⟩
 ·rintro cf H ⟨Gk,hbk,rfl,rfl⟩;have hi0:¬ (0:Int)<=(bl.length:Int)-1-bl.length:=om
  simp(disch:=try exact dq)only[tx,seval,hi0,Bw,Bv,Ar,Aw,e1q];exact⟨(Bb,n2),by simp only;omega,rfl⟩
theorem c2q(pk:Sl UInt8)(hl:(els pk).length<=1000000)(n:Nat)(hn:n<=90000) :
 ∃ q:List Rn×Nat,q.1.length<=4/\q.2<=n+10/\Ev tab A5 A4 57 [.ptr 0 0 0 1,.int .i64 4] [some [[A0 pu8 pk,.int .i64 n]]]=some (.own 1 2 0 q.1.length q.1.length,[some [[A0 pu8 pk,.int .i64 q.2]],some (q.1.map Cv)]):=by
 refine Sq (λs h=>Cd l57 rfl h) ?_;have hN:=D2 pk hl n om 5 om;have hv:=D3 (els pk) n 5 om;have hn1:=D4 (els pk) n 5;generalize Cr (els pk) n 5=v at *;generalize Cn (els pk) n 5=n1 at *;have hN2:=D2 pk hl n1 om 5 om;have hv2:=D3 (els pk) n1 5 om;have hn2:=D4 (els pk) n1 5;generalize Cr (els pk) n1 5=v2 at *;generalize Cn (els pk) n1 5=n2 at *
 simp(disch:=try exact dq)only[tx,seval,g57,KQ 18 rfl,An,hN,hN2,e2b];generalize hr:Ad _ _ _=r;refine X3 (Q:=λr=>∃ a:List Rn×Nat,a.1.length<=4/\a.2<=n+10/\Cg _ _ _ (Be _ _ (B0 _ r))=some (.own 1 2 0 a.1.length a.1.length,[some [[A0 pu8 pk,.int .i64 a.2]],some (a.1.map Cv)])) hr v2.toNat
  (λj cf H=>∃ (o:List Rn) (m:Nat) (a:Int),o.length=j/\m<=n2+2*j/\0<=a/\a<=1000+100*j/\cf=[.ptr 0 0 0 1,.top,.top,.own 1 2 0 o.length o.length,.int .i64 a,.int .i64 (v2-j),.top,.top]/\H=[some [[A0 pu8 pk,.int .i64 m]],some (o.map Cv)]) ?_ ?_ ?_
 ·exact⟨[],n2,14+v,rfl,by omega,by omega,by omega,by rw[Int.natCast_zero,Int.sub_zero];rfl,rfl⟩
 ·rintro j hj cf H ⟨o,m,a,ho,hm,ha0,ha1,rfl,rfl⟩;have hj':0<v2-(j:Int):=om;have hN3:=D2 pk hl m om 4 om;have hv3:=D3 (els pk) m 4 om;have hn3:=D4 (els pk) m 4;generalize Cr (els pk) m 4=v3 at *;generalize Cn (els pk) m 4=n3 at *;have hN4:=D2 pk hl n3 om 6 om;have hv4:=D3 (els pk) n3 6 om;have hn4:=D4 (els pk) n3 6;generalize Cr (els pk) n3 6=v4 at *;generalize Cn (els pk) n3 6=n4 at *;by_cases c:54<a+1+v3
  ·simp(disch:=try exact dq)only[tx,seval,hj',c,KQ 18 rfl,Eg (f:=18) rfl,Bo,Bq,An,hN3,F4,Iq,e1q,e2b];exact⟨(o,n3),by simp only;omega,by simp only;omega,rfl⟩
  ·simp(disch:=try exact dq)only[tx,seval,hj',c,KQ 18 rfl,Eg (f:=18) rfl,Bo,Bq,An,hN3,hN4,F4,Iq,e1q,e1l,e2b];have e:v2-((j+1:Nat):Int)=v2-j-1:=om;rw[e];exact⟨o++[⟨a,a+1+v3⟩],n4,a+1+v3+1+v4,by simp[ho],by omega,by omega,by omega,by rw[e0l];rfl,by rw[e1w];rfl⟩
 ·rintro cf H ⟨o,m,a,ho,hm,ha0,ha1,rfl,rfl⟩;have hj':¬ 0<v2-(v2.toNat:Int):=om
  simp(disch:=try exact dq)only[tx,seval,hj',F4,Iq,e1q];exact⟨(o,m),by simp only;omega,by simp only;omega,rfl⟩
section
theorem Lm(a b:AV)(r sz o l t:Nat)(H:AH):K tab A5 A4 53 [a,b,.own r sz o l t] H=Gs tab A5 A4 53 [a,b,.own r sz o l t] H (Ac (Bc H [a,b,.own r sz o l t])) (K tab A5 A4 53 (Bc H [a,b,.own r sz o l t]) H):=J7 _ _ _ rfl _ _
theorem ap2(r sz o l t:Nat)(H:AH):K tab A5 A4 54 [.own r sz o l t] H=Gs tab A5 A4 54 [.own r sz o l t] H (Ac (Bc H [.own r sz o l t])) (K tab A5 A4 54 (Bc H [.own r sz o l t]) H):=J7 _ _ _ rfl _ _
theorem b3c(r sz o l t r' sz' o' l' t':Nat)(H:AH):K tab A5 A4 55 [.own r sz o l t,.own r' sz' o' l' t'] H=Gs tab A5 A4 55 [.own r sz o l t,.own r' sz' o' l' t'] H (Ac (Bc H [.own r sz o l t,.own r' sz' o' l' t'])) (K tab A5 A4 55 (Bc H [.own r sz o l t,.own r' sz' o' l' t']) H):=J7 _ _ _ rfl _ _
theorem bp4(a:AV)(r sz o l t:Nat)(x y z:AV)(H:AH):K tab A5 A4 56 [a,.agg [.own r sz o l t,x,y,z]] H=Gs tab A5 A4 56 [a,.agg [.own r sz o l t,x,y,z]] H (Ac (Bc H [a,.agg [.own r sz o l t,x,y,z]])) (K tab A5 A4 56 (Bc H [a,.agg [.own r sz o l t,x,y,z]]) H):=J7 _ _ _ rfl _ _
theorem Hs(o:List Ptr)(i:Nat)(q:Ptr):(o.map A7).set i [.int .i64 q.addr,.int .i64 q.birth,.int .u32 q.sum.a.toNat,.int .u32 q.sum.b.toNat,.int .u32 q.sum.c.toNat,.int .u32 q.sum.d.toNat]=(o.set i q).map A7:=by rw[List.map_set];rfl
theorem Pd(o:List Ptr)(i:Nat)(h:i<o.length):(o.map A7)[i]?=some [.int .i64 (o.getD i default).addr,.int .i64 (o.getD i default).birth,.int .u32 (o.getD i default).sum.a.toNat,.int .u32 (o.getD i default).sum.b.toNat,.int .u32 (o.getD i default).sum.c.toNat,.int .u32 (o.getD i default).sum.d.toNat]:=G9 h A7
theorem Mn(o:List Ptr)(i:Nat):(o.map A7).set i [AV.int .i64 0,.int .i64 0,.int .u32 0,.int .u32 0,.int .u32 0,.int .u32 0]=(o.set i Bb).map A7:=by rw[List.map_set];rfl
theorem Lv(x:NodeH)(z:Int)(l:List Ptr):(Dv x z l).length<=1000:=by
 unfold Dv;split
 ·rename_i h;simp only[e0l,a2t,G5 [1,1,1] [x.kind,x.up,(x.name.length:Int)] rfl,G5 [2] [z] rfl,h.2.2.2.1]
  have:=h.1.2.2.2;simp;omega
 ·simp
theorem av4(l:List Ptr):(Hv l).length<=1000:=by
 unfold Hv;split
 ·rename_i h
  have:=Wp l;omega
 ·simp
theorem av2(l:List DsetH)(p:List Ptr):(Fx l p).length<=1000:=by
 unfold Fx;split
 ·rename_i h;rw[e0l,Qz]
  have:=a74 l p;omega
 ·simp
theorem b67(r:Root):(Ku r).length<=1000:=by
 unfold Ku;split
 ·simp only[e0l,U9,G5 [4,4,4] [r.txg,r.next,r.guid] rfl,G5 [4] [r.keptTxg] rfl];simp
 ·simp
theorem c52(s:SpaceL):(Mt 40 s).length<=1000:=by
 have key:∀ l,(Mu 40 l).length<=5:=by
  intro l;unfold Mu;split
  ·unfold Vd;rw[e1q,List.length_range];decide
  ·simp
 unfold Mt;split
 ·simp only[e0l];have h1:=key s.held;have h2:=key s.one;have h3:=key s.two;have h4:=key s.kept;omega
 ·simp
section
variable (bl:List Block) (bp:List Ptr) (hb:bl.length=bp.length) (hbl:bl.length<=1000) (pk:Sl UInt8) (hl:(els pk).length<=1000000)
include hb hbl hl
theorem ca3(n:Nat)(hn:n<=80000)(i txg:Int) :
 ∃ q:Bytes×Nat,q.1.length<=1000/\q.2<=n+40/\Ev tab A5 A4 19 [.ptr 0 0 0 1,.ptr 3 0 0 1,.int .i64 1,.int .i64 i,.int .i64 txg] (Dg bl bp pk n)=some (.str q.1,Dg bl bp pk q.2):=by
 refine Sq (λs h=>Cd X9 rfl h) ?_;unfold Dg;obtain⟨s,hs,hE⟩:=c62 pk hl n om;have hn1:=D4 (els pk) n 9
 simp(disch:=try exact dq)only[tx,seval,Ga,KQ 51 rfl,An,hE,Bw,Bv,Ar,Aw];exact⟨(s,Cn (els pk) n 9),by simp only;omega,by simp only;omega,rfl⟩
theorem ca0(n:Nat)(hn:n<=80000)(i txg:Int) :
 ∃ q:Bytes×Nat,q.1.length<=1000/\q.2<=n+40/\Ev tab A5 A4 19 [.ptr 0 0 0 1,.ptr 3 0 0 1,.int .i64 5,.int .i64 i,.int .i64 txg] (Dg bl bp pk n)=some (.str q.1,Dg bl bp pk q.2):=by
 refine Sq (λs h=>Cd X9 rfl h) ?_;unfold Dg;obtain⟨⟨o,m⟩,ho,hm,hE⟩:=c2q pk hl n om;simp only[]at ho hm hE;have hP:=b64 ⟨some o,none,none,none⟩ ⟨by rw[Bn];omega,by simp[els],by simp[els],by simp[els]⟩ 40 om om;simp only[C1,Lb]at hP;have hv:∀ H,(o.map Cv).map (λe=>e.map (D9 H 3))=o.map A6:=λH=>by rw[e2t];rfl
 simp(disch:=try exact dq)only[tx,seval,Ga,KQ 57 rfl,An,hE,Bw,Bv,Ar,Aw,F4,Iq,bp4,hv,hP,e1g,e1q];exact⟨(Mt 40 (Space.n ⟨some o,none,none,none⟩),m),c52 _,by simp only;omega,rfl⟩
end
end
section
theorem c8y(a:Int)(h:0<=a/\a<6):∃ nm:Bytes,nm.length<=1/\([[AV.str [97]],[AV.str [97]],[AV.str [97]],[AV.str [98]],[AV.str [65]],[AV.str []]]:List (List AV))[a.toNat]?=some [.str nm]:=by
 have:a=0\/a=1\/a=2\/a=3\/a=4\/a=5:=om;rcases this with rfl|rfl|rfl|rfl|rfl|rfl<;>exact⟨_,by decide,rfl⟩
theorem c24(a:Int)(h:0<=a/\a<7):∃ z:Int,(0<=z/\z<=128)/\([[AV.int .i64 32],[AV.int .i64 32],[AV.int .i64 40],[AV.int .i64 5],[AV.int .i64 20],[AV.int .i64 128],[AV.int .i64 0]]:List (List AV))[a.toNat]?=some [.int .i64 z]:=by
 have:a=0\/a=1\/a=2\/a=3\/a=4\/a=5\/a=6:=om;rcases this with rfl|rfl|rfl|rfl|rfl|rfl|rfl<;>exact⟨_,by decide,rfl⟩
section
variable (bl:List Block) (bp:List Ptr) (hb:bl.length=bp.length) (hbl:bl.length<=1000) (pk:Sl UInt8) (hl:(els pk).length<=1000000)
include hb hbl hl
theorem ca4(n:Nat)(hn:n<=80000)(i txg:Int)(hi:0<=i/\i<=100) :
 ∃ q:Bytes×Nat,q.1.length<=1000/\q.2<=n+40/\Ev tab A5 A4 19 [.ptr 0 0 0 1,.ptr 3 0 0 1,.int .i64 2,.int .i64 i,.int .i64 txg] (Dg bl bp pk n)=some (.str q.1,Dg bl bp pk q.2):=by
 refine Sq (λs h=>Cd X9 rfl h) ?_;unfold Dg;have hl4:[[AV.int .i64 0,.int .i64 0,.int .u32 0,.int .u32 0,.int .u32 0,.int .u32 0],[AV.int .i64 0,.int .i64 0,.int .u32 0,.int .u32 0,.int .u32 0,.int .u32 0],[AV.int .i64 0,.int .i64 0,.int .u32 0,.int .u32 0,.int .u32 0,.int .u32 0],[AV.int .i64 0,.int .i64 0,.int .u32 0,.int .u32 0,.int .u32 0,.int .u32 0]]=(Ab 4).map A7:=rfl;have hmod:i.tmod 7=i%7:=Int.tmod_eq_emod_of_nonneg hi.1;by_cases i7:i%7=2
 ·have hN1:=D2 pk hl n om 6 om;have hva1:=D3 (els pk) n 6 om;have hsn1:=D4 (els pk) n 6;generalize Cr (els pk) n 6=a1 at *;generalize Cn (els pk) n 6=n1 at *;have hN2:=D2 pk hl n1 om 10 om;have hva2:=D3 (els pk) n1 10 om;have hsn2:=D4 (els pk) n1 10;generalize Cr (els pk) n1 10=a2 at *;generalize Cn (els pk) n1 10=n2 at *;have hN3:=D2 pk hl n2 om 7 om;have hva3:=D3 (els pk) n2 7 om;have hsn3:=D4 (els pk) n2 7;generalize Cr (els pk) n2 7=a3 at *;generalize Cn (els pk) n2 7=n3 at *;obtain⟨nm,hnm,hnx⟩:=c8y a1 om;obtain⟨z,hz,hzx⟩:=c24 a3 om;have hu:a2.tdiv 9=a2/9:=dx7 om;have hN4:=D2 pk hl n3 om 5 om;have hva4:=D3 (els pk) n3 5 om;have hsn4:=D4 (els pk) n3 5;generalize Cr (els pk) n3 5=a4 at *;generalize Cn (els pk) n3 5=n4 at *;have hix:a4.tdiv 2=a4/2:=dx7 om;have ha4:0<=a4/2/\a4/2<3:=om;obtain⟨⟨q1,n5⟩,hsn5,hT5⟩:=Mj bl bp hb hbl pk hl n4 om 1;simp only[Dg,A7]at hsn5 hT5;obtain⟨⟨q2,n6⟩,hsn6,hT6⟩:=Mj bl bp hb hbl pk hl n5 om 1;simp only[Dg,A7]at hsn6 hT6;have hg1:=Pd (Ab 4) (a4/2).toNat (by first|(simp[Ab];done)|(simp[Ab];omega));have hg2:=Pd ((Ab 4).set (a4/2).toNat q1) 3 (by first|(simp[Ab];done)|(simp[Ab];omega));have hN7:=D2 pk hl n6 om 2 om;have hva7:=D3 (els pk) n6 2 om;have hsn7:=D4 (els pk) n6 2;generalize Cr (els pk) n6 2=a7 at *;generalize Cn (els pk) n6 2=n7 at *;by_cases c7:a7=0
  ·have hg3:=Pd (((Ab 4).set (a4/2).toNat q1).set 3 q2) 3 (by first|(simp[Ab];done)|(simp[Ab];omega));have hN8:=D2 pk hl n7 om 12 om;have hvb:=D3 (els pk) n7 12 om;have hsn8:=D4 (els pk) n7 12;generalize Cr (els pk) n7 12=b at *;generalize Cn (els pk) n7 12=n8 at *;by_cases b11:b=11
   ·have hN9:=D2 pk hl n8 om 3 om;have hvz2:=D3 (els pk) n8 3 om;have hsn9:=D4 (els pk) n8 3;generalize Cr (els pk) n8 3=z2 at *;generalize Cn (els pk) n8 3=n9 at *;have hP:=Lw 1 (a2/9) [120] [] 0 z2 (some ((((Ab 4).set (a4/2).toNat q1).set 3 q2).set 3 Bb)) (by first|omega|(simp;done)) (by simp[els,Ab]);rw[C1]at hP;have hvw:=λH=>J8 3 ((((Ab 4).set (a4/2).toNat q1).set 3 q2).set 3 Bb) H;have htk:List.take 4 (((((Ab 4).set (a4/2).toNat q1).set 3 q2).set 3 Bb).map A7)=((((Ab 4).set (a4/2).toNat q1).set 3 q2).set 3 Bb).map A7:=dz1 (by simp[Ab])
    simp(disch:=try exact dq)only[tx,seval,Ga,KQ 18 rfl,KQ 52 rfl,Eg (f:=18) rfl,Bo,Bq,An,hl4,Bw,Bv,Ar,Aw,Hs,Mn,e1q,e1m,e1l,e2b,Lm,Ez,hN1,hN2,hN3,hnx,hzx,hu,hN4,hix,hT5,hT6,hg1,hg2,hN7,hg3,hN8,hN9,i7,c7,hmod,b11,hP,hvw,htk];exact⟨(Dv ⟨1,(a2/9),[120]⟩ z2 ((((Ab 4).set (a4/2).toNat q1).set 3 q2).set 3 Bb),n9),Lv ⟨1,(a2/9),[120]⟩ z2 ((((Ab 4).set (a4/2).toNat q1).set 3 q2).set 3 Bb),by simp only;omega,rfl⟩
   by_cases b10:b=10
   ·have hN10:=D2 pk hl n8 om 4 om;have hvx4:=D3 (els pk) n8 4 om;have hsn9:=D4 (els pk) n8 4;generalize Cr (els pk) n8 4=x4 at *;generalize Cn (els pk) n8 4=n9 at *;obtain⟨⟨q9,n10⟩,hsn10,hT11⟩:=Mj bl bp hb hbl pk hl n9 om 1;simp only[Dg,A7]at hsn10 hT11;have hgx:=Pd ((((Ab 4).set (a4/2).toNat q1).set 3 q2).set 3 Bb) x4.toNat (by first|(simp[Ab];done)|(simp[Ab];omega));have hP:=Lw 1 (a2/9) nm [] 0 z (some (((((Ab 4).set (a4/2).toNat q1).set 3 q2).set 3 Bb).set x4.toNat q9)) (by first|omega|(simp;done)) (by simp[els,Ab]);rw[C1]at hP;have hvw:=λH=>J8 3 (((((Ab 4).set (a4/2).toNat q1).set 3 q2).set 3 Bb).set x4.toNat q9) H;have htk:List.take 4 ((((((Ab 4).set (a4/2).toNat q1).set 3 q2).set 3 Bb).set x4.toNat q9).map A7)=(((((Ab 4).set (a4/2).toNat q1).set 3 q2).set 3 Bb).set x4.toNat q9).map A7:=dz1 (by simp[Ab])
    simp(disch:=try exact dq)only[tx,seval,Ga,KQ 18 rfl,KQ 52 rfl,Eg (f:=18) rfl,Bo,Bq,An,hl4,Bw,Bv,Ar,Aw,Hs,Mn,e1q,e1m,e1l,e2b,Lm,Ez,hN1,hN2,hN3,hnx,hzx,hu,hN4,hix,hT5,hT6,hg1,hg2,hN7,hg3,hN8,hN10,hT11,hgx,i7,c7,hmod,b11,b10,hP,hvw,htk];exact⟨(Dv ⟨1,(a2/9),nm⟩ z (((((Ab 4).set (a4/2).toNat q1).set 3 q2).set 3 Bb).set x4.toNat q9),n10),Lv ⟨1,(a2/9),nm⟩ z (((((Ab 4).set (a4/2).toNat q1).set 3 q2).set 3 Bb).set x4.toNat q9),by simp only;omega,rfl⟩
   by_cases b9:b=9
   ·have hP:=Lw 2 (a2/9) nm [] 0 z (some ((((Ab 4).set (a4/2).toNat q1).set 3 q2).set 3 Bb)) (by first|omega|(simp;done)) (by simp[els,Ab]);rw[C1]at hP;have hvw:=λH=>J8 3 ((((Ab 4).set (a4/2).toNat q1).set 3 q2).set 3 Bb) H;have htk:List.take 4 (((((Ab 4).set (a4/2).toNat q1).set 3 q2).set 3 Bb).map A7)=((((Ab 4).set (a4/2).toNat q1).set 3 q2).set 3 Bb).map A7:=dz1 (by simp[Ab])
    simp(disch:=try exact dq)only[tx,seval,Ga,KQ 18 rfl,KQ 52 rfl,Eg (f:=18) rfl,Bo,Bq,An,hl4,Bw,Bv,Ar,Aw,Hs,Mn,e1q,e1m,e1l,e2b,Lm,Ez,hN1,hN2,hN3,hnx,hzx,hu,hN4,hix,hT5,hT6,hg1,hg2,hN7,hg3,hN8,i7,c7,hmod,b11,b10,b9,hP,hvw,htk];exact⟨(Dv ⟨2,(a2/9),nm⟩ z ((((Ab 4).set (a4/2).toNat q1).set 3 q2).set 3 Bb),n8),Lv ⟨2,(a2/9),nm⟩ z ((((Ab 4).set (a4/2).toNat q1).set 3 q2).set 3 Bb),by simp only;omega,rfl⟩
   have hP:=Lw 1 (a2/9) nm [] 0 z (some ((((Ab 4).set (a4/2).toNat q1).set 3 q2).set 3 Bb)) (by first|omega|(simp;done)) (by simp[els,Ab]);rw[C1]at hP;have hvw:=λH=>J8 3 ((((Ab 4).set (a4/2).toNat q1).set 3 q2).set 3 Bb) H;have htk:List.take 4 (((((Ab 4).set (a4/2).toNat q1).set 3 q2).set 3 Bb).map A7)=((((Ab 4).set (a4/2).toNat q1).set 3 q2).set 3 Bb).map A7:=dz1 (by simp[Ab])
   simp(disch:=try exact dq)only[tx,seval,Ga,KQ 18 rfl,KQ 52 rfl,Eg (f:=18) rfl,Bo,Bq,An,hl4,Bw,Bv,Ar,Aw,Hs,Mn,e1q,e1m,e1l,e2b,Lm,Ez,hN1,hN2,hN3,hnx,hzx,hu,hN4,hix,hT5,hT6,hg1,hg2,hN7,hg3,hN8,i7,c7,hmod,b11,b10,b9,hP,hvw,htk];exact⟨(Dv ⟨1,(a2/9),nm⟩ z ((((Ab 4).set (a4/2).toNat q1).set 3 q2).set 3 Bb),n8),Lv ⟨1,(a2/9),nm⟩ z ((((Ab 4).set (a4/2).toNat q1).set 3 q2).set 3 Bb),by simp only;omega,rfl⟩
  ·have hN12:=D2 pk hl n7 om 12 om;have hvb:=D3 (els pk) n7 12 om;have hsn8:=D4 (els pk) n7 12;generalize Cr (els pk) n7 12=b at *;generalize Cn (els pk) n7 12=n8 at *;by_cases b11:b=11
   ·have hN13:=D2 pk hl n8 om 3 om;have hvz2:=D3 (els pk) n8 3 om;have hsn9:=D4 (els pk) n8 3;generalize Cr (els pk) n8 3=z2 at *;generalize Cn (els pk) n8 3=n9 at *;have hP:=Lw 1 (a2/9) [120] [] 0 z2 (some (((Ab 4).set (a4/2).toNat q1).set 3 q2)) (by first|omega|(simp;done)) (by simp[els,Ab]);rw[C1]at hP;have hvw:=λH=>J8 3 (((Ab 4).set (a4/2).toNat q1).set 3 q2) H;have htk:List.take 4 ((((Ab 4).set (a4/2).toNat q1).set 3 q2).map A7)=(((Ab 4).set (a4/2).toNat q1).set 3 q2).map A7:=dz1 (by simp[Ab])
    simp(disch:=try exact dq)only[tx,seval,Ga,KQ 18 rfl,KQ 52 rfl,Eg (f:=18) rfl,Bo,Bq,An,hl4,Bw,Bv,Ar,Aw,Hs,Mn,e1q,e1m,e1l,e2b,Lm,Ez,hN1,hN2,hN3,hnx,hzx,hu,hN4,hix,hT5,hT6,hg1,hg2,hN7,hN12,hN13,i7,c7,hmod,b11,hP,hvw,htk];exact⟨(Dv ⟨1,(a2/9),[120]⟩ z2 (((Ab 4).set (a4/2).toNat q1).set 3 q2),n9),Lv ⟨1,(a2/9),[120]⟩ z2 (((Ab 4).set (a4/2).toNat q1).set 3 q2),by simp only;omega,rfl⟩
   by_cases b10:b=10
   ·have hN14:=D2 pk hl n8 om 4 om;have hvx4:=D3 (els pk) n8 4 om;have hsn9:=D4 (els pk) n8 4;generalize Cr (els pk) n8 4=x4 at *;generalize Cn (els pk) n8 4=n9 at *;obtain⟨⟨q9,n10⟩,hsn10,hT15⟩:=Mj bl bp hb hbl pk hl n9 om 1;simp only[Dg,A7]at hsn10 hT15;have hgx:=Pd (((Ab 4).set (a4/2).toNat q1).set 3 q2) x4.toNat (by first|(simp[Ab];done)|(simp[Ab];omega));have hP:=Lw 1 (a2/9) nm [] 0 z (some ((((Ab 4).set (a4/2).toNat q1).set 3 q2).set x4.toNat q9)) (by first|omega|(simp;done)) (by simp[els,Ab]);rw[C1]at hP;have hvw:=λH=>J8 3 ((((Ab 4).set (a4/2).toNat q1).set 3 q2).set x4.toNat q9) H;have htk:List.take 4 (((((Ab 4).set (a4/2).toNat q1).set 3 q2).set x4.toNat q9).map A7)=((((Ab 4).set (a4/2).toNat q1).set 3 q2).set x4.toNat q9).map A7:=dz1 (by simp[Ab])
    simp(disch:=try exact dq)only[tx,seval,Ga,KQ 18 rfl,KQ 52 rfl,Eg (f:=18) rfl,Bo,Bq,An,hl4,Bw,Bv,Ar,Aw,Hs,Mn,e1q,e1m,e1l,e2b,Lm,Ez,hN1,hN2,hN3,hnx,hzx,hu,hN4,hix,hT5,hT6,hg1,hg2,hN7,hN12,hN14,hT15,hgx,i7,c7,hmod,b11,b10,hP,hvw,htk];exact⟨(Dv ⟨1,(a2/9),nm⟩ z ((((Ab 4).set (a4/2).toNat q1).set 3 q2).set x4.toNat q9),n10),Lv ⟨1,(a2/9),nm⟩ z ((((Ab 4).set (a4/2).toNat q1).set 3 q2).set x4.toNat q9),by simp only;omega,rfl⟩
   by_cases b9:b=9
   ·have hP:=Lw 2 (a2/9) nm [] 0 z (some (((Ab 4).set (a4/2).toNat q1).set 3 q2)) (by first|omega|(simp;done)) (by simp[els,Ab]);rw[C1]at hP;have hvw:=λH=>J8 3 (((Ab 4).set (a4/2).toNat q1).set 3 q2) H;have htk:List.take 4 ((((Ab 4).set (a4/2).toNat q1).set 3 q2).map A7)=(((Ab 4).set (a4/2).toNat q1).set 3 q2).map A7:=dz1 (by simp[Ab])
    simp(disch:=try exact dq)only[tx,seval,Ga,KQ 18 rfl,KQ 52 rfl,Eg (f:=18) rfl,Bo,Bq,An,hl4,Bw,Bv,Ar,Aw,Hs,Mn,e1q,e1m,e1l,e2b,Lm,Ez,hN1,hN2,hN3,hnx,hzx,hu,hN4,hix,hT5,hT6,hg1,hg2,hN7,hN12,i7,c7,hmod,b11,b10,b9,hP,hvw,htk];exact⟨(Dv ⟨2,(a2/9),nm⟩ z (((Ab 4).set (a4/2).toNat q1).set 3 q2),n8),Lv ⟨2,(a2/9),nm⟩ z (((Ab 4).set (a4/2).toNat q1).set 3 q2),by simp only;omega,rfl⟩
   have hP:=Lw 1 (a2/9) nm [] 0 z (some (((Ab 4).set (a4/2).toNat q1).set 3 q2)) (by first|omega|(simp;done)) (by simp[els,Ab]);rw[C1]at hP;have hvw:=λH=>J8 3 (((Ab 4).set (a4/2).toNat q1).set 3 q2) H;have htk:List.take 4 ((((Ab 4).set (a4/2).toNat q1).set 3 q2).map A7)=(((Ab 4).set (a4/2).toNat q1).set 3 q2).map A7:=dz1 (by simp[Ab])
   simp(disch:=try exact dq)only[tx,seval,Ga,KQ 18 rfl,KQ 52 rfl,Eg (f:=18) rfl,Bo,Bq,An,hl4,Bw,Bv,Ar,Aw,Hs,Mn,e1q,e1m,e1l,e2b,Lm,Ez,hN1,hN2,hN3,hnx,hzx,hu,hN4,hix,hT5,hT6,hg1,hg2,hN7,hN12,i7,c7,hmod,b11,b10,b9,hP,hvw,htk];exact⟨(Dv ⟨1,(a2/9),nm⟩ z (((Ab 4).set (a4/2).toNat q1).set 3 q2),n8),Lv ⟨1,(a2/9),nm⟩ z (((Ab 4).set (a4/2).toNat q1).set 3 q2),by simp only;omega,rfl⟩
 ·have hN16:=D2 pk hl n om 12 om;have hvb:=D3 (els pk) n 12 om;have hsn1:=D4 (els pk) n 12;generalize Cr (els pk) n 12=b at *;generalize Cn (els pk) n 12=n1 at *;by_cases b11:b=11
  ·have hN17:=D2 pk hl n1 om 3 om;have hvz2:=D3 (els pk) n1 3 om;have hsn2:=D4 (els pk) n1 3;generalize Cr (els pk) n1 3=z2 at *;generalize Cn (els pk) n1 3=n2 at *;have hP:=Lw 2 0 [120] [] 0 z2 (some (Ab 4)) (by first|omega|(simp;done)) (by simp[els,Ab]);rw[C1]at hP;have hvw:=λH=>J8 3 (Ab 4) H;have htk:List.take 4 ((Ab 4).map A7)=(Ab 4).map A7:=dz1 (by simp[Ab])
   simp(disch:=try exact dq)only[tx,seval,Ga,KQ 18 rfl,KQ 52 rfl,Eg (f:=18) rfl,Bo,Bq,An,hl4,Bw,Bv,Ar,Aw,Hs,Mn,e1q,e1m,e1l,e2b,Lm,Ez,hN16,hN17,i7,hmod,b11,hP,hvw,htk];exact⟨(Dv ⟨2,0,[120]⟩ z2 (Ab 4),n2),Lv ⟨2,0,[120]⟩ z2 (Ab 4),by simp only;omega,rfl⟩
  by_cases b10:b=10
  ·have hN18:=D2 pk hl n1 om 4 om;have hvx4:=D3 (els pk) n1 4 om;have hsn2:=D4 (els pk) n1 4;generalize Cr (els pk) n1 4=x4 at *;generalize Cn (els pk) n1 4=n2 at *;obtain⟨⟨q9,n3⟩,hsn3,hT19⟩:=Mj bl bp hb hbl pk hl n2 om 1;simp only[Dg,A7]at hsn3 hT19;have hgx:=Pd (Ab 4) x4.toNat (by first|(simp[Ab];done)|(simp[Ab];omega));have hP:=Lw 2 0 [] [] 0 0 (some ((Ab 4).set x4.toNat q9)) (by first|omega|(simp;done)) (by simp[els,Ab]);rw[C1]at hP;have hvw:=λH=>J8 3 ((Ab 4).set x4.toNat q9) H;have htk:List.take 4 (((Ab 4).set x4.toNat q9).map A7)=((Ab 4).set x4.toNat q9).map A7:=dz1 (by simp[Ab])
   simp(disch:=try exact dq)only[tx,seval,Ga,KQ 18 rfl,KQ 52 rfl,Eg (f:=18) rfl,Bo,Bq,An,hl4,Bw,Bv,Ar,Aw,Hs,Mn,e1q,e1m,e1l,e2b,Lm,Ez,hN16,hN18,hT19,hgx,i7,hmod,b11,b10,hP,hvw,htk];exact⟨(Dv ⟨2,0,[]⟩ 0 ((Ab 4).set x4.toNat q9),n3),Lv ⟨2,0,[]⟩ 0 ((Ab 4).set x4.toNat q9),by simp only;omega,rfl⟩
  by_cases b9:b=9
  ·have hP:=Lw 1 0 [] [] 0 0 (some (Ab 4)) (by first|omega|(simp;done)) (by simp[els,Ab]);rw[C1]at hP;have hvw:=λH=>J8 3 (Ab 4) H;have htk:List.take 4 ((Ab 4).map A7)=(Ab 4).map A7:=dz1 (by simp[Ab])
   simp(disch:=try exact dq)only[tx,seval,Ga,KQ 18 rfl,KQ 52 rfl,Eg (f:=18) rfl,Bo,Bq,An,hl4,Bw,Bv,Ar,Aw,Hs,Mn,e1q,e1m,e1l,e2b,Lm,Ez,hN16,i7,hmod,b11,b10,b9,hP,hvw,htk];exact⟨(Dv ⟨1,0,[]⟩ 0 (Ab 4),n1),Lv ⟨1,0,[]⟩ 0 (Ab 4),by simp only;omega,rfl⟩
  have hP:=Lw 2 0 [] [] 0 0 (some (Ab 4)) (by first|omega|(simp;done)) (by simp[els,Ab]);rw[C1]at hP;have hvw:=λH=>J8 3 (Ab 4) H;have htk:List.take 4 ((Ab 4).map A7)=(Ab 4).map A7:=dz1 (by simp[Ab])
  simp(disch:=try exact dq)only[tx,seval,Ga,KQ 18 rfl,KQ 52 rfl,Eg (f:=18) rfl,Bo,Bq,An,hl4,Bw,Bv,Ar,Aw,Hs,Mn,e1q,e1m,e1l,e2b,Lm,Ez,hN16,i7,hmod,b11,b10,b9,hP,hvw,htk];exact⟨(Dv ⟨2,0,[]⟩ 0 (Ab 4),n1),Lv ⟨2,0,[]⟩ 0 (Ab 4),by simp only;omega,rfl⟩
end
end
section
section
variable (bl:List Block) (bp:List Ptr) (hb:bl.length=bp.length) (hbl:bl.length<=1000) (pk:Sl UInt8) (hl:(els pk).length<=1000000)
include hb hbl hl
theorem ca1(n:Nat)(hn:n<=80000)(i txg:Int)(hi:0<=i/\i<=100) :
 ∃ q:Bytes×Nat,q.1.length<=1000/\q.2<=n+40/\Ev tab A5 A4 19 [.ptr 0 0 0 1,.ptr 3 0 0 1,.int .i64 3,.int .i64 i,.int .i64 txg] (Dg bl bp pk n)=some (.str q.1,Dg bl bp pk q.2):=by
 refine Sq (λs h=>Cd X9 rfl h) ?_;unfold Dg;have hl8:[[AV.int .i64 0,.int .i64 0,.int .u32 0,.int .u32 0,.int .u32 0,.int .u32 0],[AV.int .i64 0,.int .i64 0,.int .u32 0,.int .u32 0,.int .u32 0,.int .u32 0],[AV.int .i64 0,.int .i64 0,.int .u32 0,.int .u32 0,.int .u32 0,.int .u32 0],[AV.int .i64 0,.int .i64 0,.int .u32 0,.int .u32 0,.int .u32 0,.int .u32 0],[AV.int .i64 0,.int .i64 0,.int .u32 0,.int .u32 0,.int .u32 0,.int .u32 0],[AV.int .i64 0,.int .i64 0,.int .u32 0,.int .u32 0,.int .u32 0,.int .u32 0],[AV.int .i64 0,.int .i64 0,.int .u32 0,.int .u32 0,.int .u32 0,.int .u32 0],[AV.int .i64 0,.int .i64 0,.int .u32 0,.int .u32 0,.int .u32 0,.int .u32 0]]=(Ab 8).map A7:=rfl
 simp(disch:=try exact dq)only[tx,seval,Ga,hl8,Bw,Bv,Ar,Aw,e1q];generalize hr:Ad _ _ _=r;refine X3 (Q:=λr=>∃ a:Bytes×Nat,a.1.length<=1000/\a.2<=n+40/\Cg _ _ _ (Be _ _ (B0 _ (Be _ _ (B0 _ r))))=some (.str a.1,[some [[.own 1 3 0 bl.length bl.length,.own 2 6 0 bp.length bp.length]],some (bl.map E8),some (bp.map A7),some [[A0 pu8 pk,.int .i64 a.2]]])) hr bl.length
  (λj cf H=>∃ ls:List Ptr,ls.length=8/\cf=[.ptr 0 0 0 1,.ptr 3 0 0 1,.top,.top,.top,.top,.top,.top,.top,.own 4 6 0 8 8,.int .i64 ((bl.length:Int)-1-j),.top,.top,.top,.top,.top,.top,.top,.top,.top,.top,.top,.top,.top,.top,.top,.top,.top,.top,.top,.top,.top,.top,.top,.top,.top,.top,.top,.top,.top,.top,.top,.top,.top,.top,.top,.top,.top,.top]/\H=[some [[.own 1 3 0 bl.length bl.length,.own 2 6 0 bp.length bp.length]],some (bl.map E8),some (bp.map A7),some [[A0 pu8 pk,.int .i64 n]],some (ls.map A7)]) ?_ ?_ ?_
 ·exact⟨Ab 8,by simp[Ab],by rw[Int.natCast_zero,Int.sub_zero,e2b _ om],rfl⟩
 ·rintro j hj cf H ⟨ls,hls,rfl,rfl⟩;have hi0:(0:Int)<=(bl.length:Int)-1-j:=om;have hiu:((bl.length:Int)-1-j).toNat=bl.length-1-j:=om;have hnx:(bl.length:Int)-1-((j+1:Nat):Int)=(bl.length:Int)-1-j-1:=om;have hgb:(bl.map E8)[bl.length-1-j]?=some [.int .i64 (bl.getD (bl.length-1-j) default).kind,.int .i64 (bl.getD (bl.length-1-j) default).birth,.str (bl.getD (bl.length-1-j) default).load]:=G9 om E8;have hgp:=Pd bp (bl.length-1-j) om;have hg0:=Pd ls 0 om;generalize bl.getD (bl.length-1-j) default=x at *;generalize bp.getD (bl.length-1-j) default=y at *;rw[hnx];have hil:(bl.length:Int)-1-j<bl.length:=om;have him:(bl.length:Int)-1-j<=1000:=om
  generalize (bl.length:Int)-1-j=i at *;by_cases c1:x.kind=2
  ·by_cases c2:(x.load.length:Int)=93
   ·simp(disch:=try exact dq)only[tx,seval,hi0,hiu,hil,hgb,hgp,hg0,c1,c2,hls,<-hb,Bw,Bv,Ar,Aw,Hs,e1q,e1m,e2b]
    first|exact⟨ls.set 0 y,by rw[e1m];exact hls,rfl,rfl⟩|exact⟨ls.set 0 y,by rw[e1m];exact hls,rfl⟩
   ·simp(disch:=try exact dq)only[tx,seval,hi0,hiu,hil,hgb,c1,c2,hls,Bw,Bv,Ar,Aw,Hs,e1q,e1m,e2b]
    first|exact⟨ls,hls,rfl,rfl⟩|exact⟨ls,hls,rfl⟩
  ·simp(disch:=try exact dq)only[tx,seval,hi0,hiu,hil,hgb,c1,hls,Bw,Bv,Ar,Aw,Hs,e1q,e1m,e2b]
   first|exact⟨ls,hls,rfl,rfl⟩|exact⟨ls,hls,rfl⟩
 ·rintro cf H ⟨ls,hls,rfl,rfl⟩;have hi0:¬ (0:Int)<=(bl.length:Int)-1-bl.length:=om;have hN13:=D2 pk hl n om 3 om;have hva1:=D3 (els pk) n 3 om;have hsn1:=D4 (els pk) n 3;generalize Cr (els pk) n 3=a1 at *;generalize Cn (els pk) n 3=n1 at *;obtain⟨⟨q1,n2⟩,hsn2,hT14⟩:=Mj bl bp hb hbl pk hl n1 om 2;simp only[Dg,A7]at hsn2 hT14;have hg1:=Pd (ls) (1+a1).toNat (by first|omega|(simp only[e1m];omega));have hN15:=D2 pk hl n2 om 6 om;have hva2:=D3 (els pk) n2 6 om;have hsn3:=D4 (els pk) n2 6;generalize Cr (els pk) n2 6=a2 at *;generalize Cn (els pk) n2 6=n3 at *;by_cases c:a2=5
  ·have hN16:=D2 pk hl n3 om 8 om;have hva3:=D3 (els pk) n3 8 om;have hsn4:=D4 (els pk) n3 8;generalize Cr (els pk) n3 8=a3 at *;generalize Cn (els pk) n3 8=n4 at *;obtain⟨⟨q2,n5⟩,hsn5,hT17⟩:=Mj bl bp hb hbl pk hl n4 om 2;simp only[Dg,A7]at hsn5 hT17;have hg2:=Pd (ls.set (1+a1).toNat q1) a3.toNat (by first|omega|(simp only[e1m];omega));have hP:=av5 (some ((ls.set (1+a1).toNat q1).set a3.toNat q2)) (by rw[Bn];simp only[e1m];omega);rw[C1]at hP;have hvw:=λH=>J8 3 ((ls.set (1+a1).toNat q1).set a3.toNat q2) H;have htk:List.take 8 (((ls.set (1+a1).toNat q1).set a3.toNat q2).map A7)=((ls.set (1+a1).toNat q1).set a3.toNat q2).map A7:=dz1 (by simp only[e1q,e1m];omega)
   simp(disch:=try exact dq)only[tx,seval,KQ 18 rfl,KQ 52 rfl,An,Bw,Bv,Ar,Aw,Hs,e1q,e1m,e2b,ap2,Ez,hN13,hT14,hg1,hN15,hN16,hT17,hg2,c,hi0,hP,hvw,htk,hls];exact⟨(Hv ((ls.set (1+a1).toNat q1).set a3.toNat q2),n5),av4 _,by simp only;omega,rfl⟩
  ·have hP:=av5 (some (ls.set (1+a1).toNat q1)) (by rw[Bn];simp only[e1m];omega);rw[C1]at hP;have hvw:=λH=>J8 3 (ls.set (1+a1).toNat q1) H;have htk:List.take 8 ((ls.set (1+a1).toNat q1).map A7)=(ls.set (1+a1).toNat q1).map A7:=dz1 (by simp only[e1q,e1m];omega)
   simp(disch:=try exact dq)only[tx,seval,KQ 18 rfl,KQ 52 rfl,An,Bw,Bv,Ar,Aw,Hs,e1q,e1m,e2b,ap2,Ez,hN13,hT14,hg1,hN15,c,hi0,hP,hvw,htk,hls];exact⟨(Hv (ls.set (1+a1).toNat q1),n3),av4 _,by simp only;omega,rfl⟩
theorem ca2(n:Nat)(hn:n<=80000)(i txg:Int)(ht:0<=txg/\txg<=1000)(kind:Int)(hk:kind≠1/\kind≠2/\kind≠3/\kind≠4/\kind≠5) :
 ∃ q:Bytes×Nat,q.1.length<=1000/\q.2<=n+40/\Ev tab A5 A4 19 [.ptr 0 0 0 1,.ptr 3 0 0 1,.int .i64 kind,.int .i64 i,.int .i64 txg] (Dg bl bp pk n)=some (.str q.1,Dg bl bp pk q.2):=by
 refine Sq (λs h=>Cd X9 rfl h) ?_;unfold Dg;obtain⟨k1,k2,k3,k4,k5⟩:=hk;have hN1:=D2 pk hl n om 12 om;have hva1:=D3 (els pk) n 12 om;have hsn1:=D4 (els pk) n 12;generalize Cr (els pk) n 12=a1 at *;generalize Cn (els pk) n 12=n1 at *;have hu:a1.tdiv 11=a1/11:=dx7 om;obtain⟨⟨q1,n2⟩,hsn2,hT2⟩:=Mj bl bp hb hbl pk hl n1 om 4;simp only[Dg,A7]at hsn2 hT2;obtain⟨⟨q2,n3⟩,hsn3,hT3⟩:=Mj bl bp hb hbl pk hl n2 om 5;simp only[Dg,A7]at hsn3 hT3;have hN4:=D2 pk hl n3 om 2 om;have hva2:=D3 (els pk) n3 2 om;have hsn4:=D4 (els pk) n3 2;generalize Cr (els pk) n3 2=a2 at *;generalize Cn (els pk) n3 2=n4 at *;by_cases c:a2=1
 ·obtain⟨⟨q3,n5⟩,hsn5,hT5⟩:=Mj bl bp hb hbl pk hl n4 om 6;simp only[Dg,A7]at hsn5 hT5;have hN6:=D2 pk hl n5 om 3 om;have hva3:=D3 (els pk) n5 3 om;have hsn6:=D4 (els pk) n5 3;generalize Cr (els pk) n5 3=a3 at *;generalize Cn (els pk) n5 3=n6 at *;have hR:=av7 ⟨txg+a1/11,3,7,q1,q2,q3,a3⟩;simp only[Nq,Bb,UInt32.toNat_zero,Int.natCast_zero]at hR
  simp(disch:=try exact dq)only[tx,seval,Ga,KQ 18 rfl,KQ 52 rfl,An,Bw,Bv,Ar,Aw,e1q,e2b,hN1,hT2,hT3,hN4,hu,k1,k2,k3,k4,k5,hT5,hN6,c,hR];exact⟨(Ku ⟨txg+a1/11,3,7,q1,q2,q3,a3⟩,n6),b67 ⟨txg+a1/11,3,7,q1,q2,q3,a3⟩,by simp only;omega,rfl⟩
 ·have hR:=av7 ⟨txg+a1/11,3,7,q1,q2,Bb,0⟩;simp only[Nq,Bb,UInt32.toNat_zero,Int.natCast_zero]at hR
  simp(disch:=try exact dq)only[tx,seval,Ga,KQ 18 rfl,KQ 52 rfl,An,Bw,Bv,Ar,Aw,e1q,e2b,hN1,hT2,hT3,hN4,hu,k1,k2,k3,k4,k5,c,hR];exact⟨(Ku ⟨txg+a1/11,3,7,q1,q2,Bb,0⟩,n4),b67 ⟨txg+a1/11,3,7,q1,q2,Bb,0⟩,by simp only;omega,rfl⟩
theorem c9z(n:Nat)(hn:n<=80000)(i txg:Int) :
 ∃ q:Bytes×Nat,q.1.length<=1000/\q.2<=n+40/\Ev tab A5 A4 19 [.ptr 0 0 0 1,.ptr 3 0 0 1,.int .i64 4,.int .i64 i,.int .i64 txg] (Dg bl bp pk n)=some (.str q.1,Dg bl bp pk q.2):=by
 refine Sq (λs h=>Cd X9 rfl h) ?_;unfold Dg;have hN7:=D2 pk hl n om 9 om;have hva1:=D3 (els pk) n 9 om;have hsn1:=D4 (els pk) n 9;generalize Cr (els pk) n 9=a1 at *;generalize Cn (els pk) n 9=n1 at *;obtain⟨⟨q1,n2⟩,hsn2,hT8⟩:=Mj bl bp hb hbl pk hl n1 om 3;simp only[Dg,A7]at hsn2 hT8;have hN9:=D2 pk hl n2 om 2 om;have hva2:=D3 (els pk) n2 2 om;have hsn3:=D4 (els pk) n2 2;generalize Cr (els pk) n2 2=a2 at *;generalize Cn (els pk) n2 2=n3 at *;have hu:a1.tdiv 8=a1/8:=dx7 om;by_cases c:a2=1
 ·have hN10:=D2 pk hl n3 om 7 om;have hva3:=D3 (els pk) n3 7 om;have hsn4:=D4 (els pk) n3 7;generalize Cr (els pk) n3 7=a3 at *;generalize Cn (els pk) n3 7=n4 at *;have hN11:=D2 pk hl n4 om 8 om;have hva4:=D3 (els pk) n4 8 om;have hsn5:=D4 (els pk) n4 8;generalize Cr (els pk) n4 8=a4 at *;generalize Cn (els pk) n4 8=n5 at *;obtain⟨⟨q2,n6⟩,hsn6,hT12⟩:=Mj bl bp hb hbl pk hl n5 om 3;simp only[Dg,A7]at hsn6 hT12;have hu2:a3.tdiv 6=a3/6:=dx7 om;have hu3:a4.tdiv 7=a4/7:=dx7 om;have hP:=av3 (some [(⟨1,1+a1/8,0,0,none⟩:Dset),(⟨2,2,1+a3/6,a4/7,none⟩:Dset)]) [q1,q2] (by simp[els]) (by simp);rw[C1,C1,Bn]at hP;simp only[e2c,e2o,Ak,Ae,Nv]at hP
  simp(disch:=try exact dq)only[tx,seval,Ga,KQ 18 rfl,KQ 52 rfl,An,Bw,Bv,Ar,Aw,e1q,e2b,b3c,Ez,hN7,hT8,hN9,hu,hN10,hN11,hT12,hu2,hu3,c,hP];exact⟨(Fx (List.map Bf [(⟨1,1+a1/8,0,0,none⟩:Dset),(⟨2,2,1+a3/6,a4/7,none⟩:Dset)]) [q1,q2],n6),av2 _ _,by simp only;omega,rfl⟩
 ·have hP:=av3 (some [(⟨1,1+a1/8,0,0,none⟩:Dset)]) [q1] (by simp[els]) (by simp);rw[C1,C1,Bn]at hP;simp only[e2c,e2o,Ak,Ae,Nv]at hP
  simp(disch:=try exact dq)only[tx,seval,Ga,KQ 18 rfl,KQ 52 rfl,An,Bw,Bv,Ar,Aw,e1q,e2b,b3c,Ez,hN7,hT8,hN9,hu,c,hP];exact⟨(Fx (List.map Bf [(⟨1,1+a1/8,0,0,none⟩:Dset)]) [q1],n3),av2 _ _,by simp only;omega,rfl⟩
end
end
theorem c8x(H:AH):K tab A5 A4 78 [] H=some (.fz (Iu.map Ao),H):=by
 refine Ah l78 rfl rfl rfl ?_ H
 simp(disch:=try exact dq)only[tx,seval,g78,List.replicate];rfl
theorem c9t(s:Sl Node)(hs:(els s).length<=1000000)(H:AH):K tab A5 A4 122 [A0 Ao s] H=some (.bool ((els s).any λx=>decide (x.kind=3)),H):=by
 refine Ah cq3 rfl (by simp[Ac,A8,Ap]) rfl ?_ H
 simp(disch:=try exact dq)only[tx,seval,ae5];generalize hr:Ad _ _ _=r;refine B7 hr (els s).length (λj=>[A0 Ao s,.top,.int .i64 j])
  (λj=>[]) (λj=>((els s).any λx=>decide (x.kind=3))=(((els s).drop j).any λx=>decide (x.kind=3))) ?_ ?_ ?_ ?_ ?_
 ·rfl
 ·rfl
 ·rfl
 ·intro j hj hI;have hj':((j:Int)<((els s).length:Int)):=om;rw[Ew hj,List.any_cons]at hI;generalize hx:(els s).getD j default=x at *;by_cases c:x.kind=3
  ·simp(disch:=try exact dq)only[tx,seval,hj',Aa,Ao,hx,c,e2b];rw[hI];simp[c]
  ·simp(disch:=try exact dq)only[tx,seval,hj',Aa,Ao,hx,c,e2b];exact⟨rfl,by rw[hI];simp[c]⟩
 ·intro hI;rw[e1h]at hI
  simp(disch:=try exact dq)only[tx,seval,e2k];rw[hI];rfl
theorem dc8(s:Sl Node)(hs:(els s).length<=1000000)(H:AH):K tab A5 A4 123 [A0 Ao s] H=some (.bool ((els s).any λx=> !decide (x.bad=0)),H):=by
 refine Ah cq2 rfl (by simp[Ac,A8,Ap]) rfl ?_ H
 simp(disch:=try exact dq)only[tx,seval,ae4];generalize hr:Ad _ _ _=r;refine B7 hr (els s).length (λj=>[A0 Ao s,.top,.int .i64 j])
  (λj=>[]) (λj=>((els s).any λx=> !decide (x.bad=0))=(((els s).drop j).any λx=> !decide (x.bad=0))) ?_ ?_ ?_ ?_ ?_
 ·rfl
 ·rfl
 ·rfl
 ·intro j hj hI;have hj':((j:Int)<((els s).length:Int)):=om;rw[Ew hj,List.any_cons]at hI;generalize hx:(els s).getD j default=x at *;by_cases c:x.bad=0
  ·simp(disch:=try exact dq)only[tx,seval,hj',Aa,Ao,hx,c,e2b];exact⟨rfl,by rw[hI];simp[c]⟩
  ·simp(disch:=try exact dq)only[tx,seval,hj',Aa,Ao,hx,c,e2b];rw[hI];simp[c]
 ·intro hI;rw[e1h]at hI
  simp(disch:=try exact dq)only[tx,seval,e2k];rw[hI];rfl
def Vb(s:List Node):Bool:=(s.any λx=>decide (x.kind=3))||s.any λx=> !decide (x.bad=0)
theorem db4(s:Sl Node)(hs:(els s).length<=1000000)(H:AH):K tab A5 A4 74 [A0 Ao s] H=some (.bool (Vb (els s)),H):=by
 refine Ah l74 rfl (by simp[Ac,A8,Ap]) rfl ?_ H;have h1:=c9t s hs;have h2:=dc8 s hs;unfold Vb;cases c:(els s).any λx=>decide (x.kind=3)<;>rw[c]at h1
 all_goals simp(disch:=try exact dq)only[tx,seval,g74,h1,h2,e2u,e2j]
theorem c2p(l m:Sl Node)(hl:(els l).length<=1000000)(hm:(els m).length<=1000000)(H:AH):K tab A5 A4 73 [A0 Ao l,A0 Ao m] H=some (.bool (decide (els l=els m)),H):=by
 refine Ah l73 rfl (by simp[Ac,A8,Ap]) rfl ?_ H;by_cases c:((els l).length:Int)=(els m).length
 ·simp(disch:=try exact dq)only[tx,seval,g73,c];generalize hr:Ad _ _ _=r;refine B7 hr (els l).length (λj=>[A0 Ao l,A0 Ao m,.top,.int .i64 j])
   (λj=>[]) (λj=>(els l).take j=(els m).take j) ?_ ?_ ?_ ?_ ?_
  ·rfl
  ·rfl
  ·rfl
  ·intro j hj hI;have hj':((j:Int)<((els l).length:Int)):=om;have hj2:((j:Int)<((els m).length:Int)):=om;rw[En hj,En (show j<(els m).length by omega),hI];have hne:(els l).getD j default≠(els m).getD j default->els l≠els m:=λh e=>h (by rw[e]);generalize hx:(els l).getD j default=x at *;generalize hy:(els m).getD j default=y at *
   simp(disch:=try exact dq)only[tx,seval,hj',hj2,Aa,Ao,e2b,hx,hy,ah5];by_cases hxy:x=y
   ·subst hxy;exact⟨λh=>absurd h (by simp),λ_=>⟨rfl,rfl⟩⟩
   ·have hf:=hne hxy;exact⟨λ_=>by simp[hf],λh=>(h (by simp[hxy])).elim⟩
  ·intro hI;rw[e1g,dz1 om]at hI
   simp(disch:=try exact dq)only[tx,seval,e2k,c];simp[hI]
 ·simp(disch:=try exact dq)only[tx,seval,g73,c];have hne:¬ els l=els m:=λe=>c (by rw[e]);simp[hne]
theorem d69(s:Sl Node)(hs:(els s).length<=1000000)(n:Int)(H:AH):K tab A5 A4 40 [A0 Ao s,.int .i64 n] H=some (.bool (folderT (els s) n),H):=by
 refine Ah l40 rfl (by simp[Ac,A8,Ap]) rfl ?_ H;unfold folderT Dd;by_cases c1:0<=n
 ·by_cases c2:n<(els s).length
  ·by_cases c3:((els s).getD n.toNat default).kind=2
   ·simp(disch:=try exact dq)only[tx,seval,Uv,c1,c2,c3,Aa,Ao]
    try simp[c1,c2]
   ·simp(disch:=try exact dq)only[tx,seval,Uv,c1,c2,c3,Aa,Ao]
    try simp[c1,c2]
  ·simp(disch:=try exact dq)only[tx,seval,Uv,c1,c2,Aa,Ao]
   try simp[c2]
 ·simp(disch:=try exact dq)only[tx,seval,Uv,c1,Aa,Ao]
  try simp[c1]
theorem c9f(s:Bytes)(hs:s.length<=1000000)(H:AH):K tab A5 A4 39 [.str s] H=some (.bool (mayName s),H):=by
 refine Ah l39 rfl rfl rfl ?_ H
 simp(disch:=try exact dq)only[tx,seval,g39];generalize hr:Ad _ _ _=r;refine B7 hr s.length (λj=>[.str s,.top,.int .i64 j,.top])
  (λj=>[]) (λj=>s.all Ny=(s.drop j).all Ny) ?_ ?_ ?_ ?_ ?_
 ·rfl
 ·rfl
 ·rfl
 ·intro j hj hI;have hj':((j:Int)<(s.length:Int)):=om;rw[Ew hj,e2h]at hI;have hx:s.getD j 0=s.getD j default:=rfl;generalize s.getD j default=c at *
  simp(disch:=try exact dq)only[tx,seval,hj',hx,e2b];have hu:=c.toNat_lt;cases ho:Ny c with
  |false=>
    have hf:mayName s=false:=(by unfold mayName;rw[hI,ho];simp);refine⟨λ_=>by rw[hf],λh=>(h ?_).elim⟩;rw[e0z]at ho;simp only[Ny,ne_eq,e1v,e0r]at ho;simp only[e0w,e0z,ne_eq,e1v,e14,e0r];omega
  |true=>
    refine⟨λh=>?_,λ_=>⟨rfl,by rw[hI,ho,e2e]⟩⟩;simp only[Ny,e1v,e0r]at ho;simp only[e0w,e0z,ne_eq,e1v,e14,e0r]at h;omega
 ·intro hI;rw[e1h]at hI
  simp(disch:=try exact dq)only[tx,seval,e2k]
  congr 2
  unfold mayName;rw[hI,e1x];simp only[List.all_nil,e2e,e14,e0r,e0w,dy7];constructor<;>(rintro⟨⟨⟨a,b⟩,c⟩,d⟩;exact⟨⟨⟨by omega,by omega⟩,c⟩,d⟩)
def Fr(d:Dev):List AV:=[A0 Bh d.last,A0 Bi d.wait,.int .i64 d.lies,.int .i64 d.arm,.bool d.down]
def L6(s:Bytes):List AV:=[.str s]
def Hz(p:Int×Bytes):List AV:=[.int .i64 p.1,.str p.2]
theorem Ls(l:List Bytes):Cf (some (l.map L6))=[]:=K4 l _ λ_=>rfl
theorem au6(τ:Nat->Option Nat)(l:List Bytes):Av τ (l.map L6)=l.map L6:=Mr τ l _ λ_=>rfl
theorem aq7(l:List Bytes):Ct (l.map L6)=some (l.map Bh):=Lp _ _ (λ_=>rfl) l
theorem Ms(l:List (Int×Bytes)):Cf (some (l.map Hz))=[]:=K4 l _ λ_=>rfl
theorem Wi(τ:Nat->Option Nat)(l:List (Int×Bytes)):Av τ (l.map Hz)=l.map Hz:=Mr τ l _ λ_=>rfl
theorem Xu(r:Nat)(es:List (List PV))(l:List (Int×Bytes)):(l.map Hz).map (Ce r es)=l.map Hz:=V2 _ _ _ λe he=>by obtain⟨p,_,rfl⟩:=e2r.1 he;rfl
theorem Tp(l:List (Int×Bytes)):Ct (l.map Hz)=some (l.map Bi):=Lp _ _ (λ_=>rfl) l
theorem Wx(l:List (Int×Bytes)):(l.map λa=>(Bi a).map emb)=l.map Hz:=rfl
theorem Yl(l:List (Int×Bytes)):((l.map Hz).all λe=>decide (e.length=2))=true:=by
 rw[e16];intro e he;obtain⟨x,_,rfl⟩:=e2r.1 he;rfl
theorem c9r(l:List Bytes):(l.map λa=>(Bh a).map emb)=l.map L6:=rfl
theorem df4(l:List Bytes):((l.map L6).all λe=>decide (e.length=1))=true:=by
 rw[e16];intro e he;obtain⟨x,_,rfl⟩:=e2r.1 he;rfl
theorem df0(h:Int):IntKind.i64.wrap ((BitVec.ofInt IntKind.i64.bits h &&& BitVec.ofInt IntKind.i64.bits 3).toNat:Int)=h%4:=by
 have e:(BitVec.ofInt 64 h &&& BitVec.ofInt 64 3).toNat=(h%4).toNat:=by
  rw[BitVec.toNat_and,BitVec.toNat_ofInt,BitVec.toNat_ofInt];have h3:((3:Int)%((2 ^ 64:Nat):Int)).toNat=2 ^ 2-1:=by decide
  rw[h3,Nat.and_two_pow_sub_one_eq_mod];have:((2 ^ 64:Nat):Int)=18446744073709551616:=by decide
  rw[this];omega
 show IntKind.i64.wrap ((BitVec.ofInt 64 h &&& BitVec.ofInt 64 3).toNat:Int)=h%4;rw[e];rw[e2b _ om];omega
theorem A2:IntKind.i64.wrap ((BitVec.ofInt IntKind.i64.bits 2 &&& BitVec.ofInt IntKind.i64.bits 1).toNat:Int)=0:=by decide +kernel
theorem A3:IntKind.i64.wrap ((BitVec.ofInt IntKind.i64.bits 3 &&& BitVec.ofInt IntKind.i64.bits 1).toNat:Int)=1:=by decide +kernel
theorem B2:IntKind.i64.wrap ((BitVec.ofInt IntKind.i64.bits 2 &&& BitVec.ofInt IntKind.i64.bits 2).toNat:Int)=2:=by decide +kernel
theorem B3:IntKind.i64.wrap ((BitVec.ofInt IntKind.i64.bits 3 &&& BitVec.ofInt IntKind.i64.bits 2).toNat:Int)=2:=by decide +kernel
theorem a0h(o:List Bytes)(i:Nat)(y:Bytes):(o.map L6).set i [.str y]=(o.set i y).map L6:=by rw[List.map_set];rfl
theorem b50{α:Type}[Inhabited α](o:List α){i:Nat}(h:i<o.length):o.set i (o.getD i default)=o:=by
 rw[dx5,dy1 h];exact List.set_getElem_self h
theorem b8n:∀ (w:List (Int×Bytes)) (out:List Bytes) (how:List Int) (j:Nat),j<w.length->Jn out (w.take (j+1)) how=Uj (Jn out (w.take j) how) (w.getD j default) (how.getD j 0%4)
 |[],_,_,j,h=>by simp at h
 |p::w,out,how,0,_=>by
   simp only[e08,e26,Jn,List.getD_cons_zero];cases how<;>rfl
 |p::w,out,how,j+1,h=>by
   rw[e08,Jn,e08,Jn,b8n w _ how.tail j (by simpa using h),e0d];cases how<;>rfl
theorem b7e(n:Int)(h0:-100000<=n)(hn:n<=100000)(H:AH):K tab A5 A4 25 [.int .i64 n] H=some (.agg (Fr (Es n)),H):=by
 refine Ah l25 rfl rfl (by simp[Fr,Ac,A8,Ap]) ?_ H;have hnz:=ax4 (orc:=A5) 256 om;rw[show(256:Int).toNat=256 from rfl]at hnz
 simp(disch:=try exact dq)only[tx,seval,g25];generalize hr:Ad _ _ _=r;refine B7 hr (if n<=268 then n.toNat else 0)
  (λj=>[.int .i64 n,.ptr 0 0 0 1,.ptr 1 0 0 1,.int .i64 j,.top])
  (λj=>[some [[.emp,.emp,.int .i64 0,.int .i64 0,.bool false]],some [[.own 2 1 0 j j,.emp,.int .i64 0,.int .i64 0,.bool false]],some ((List.replicate j (zs 256)).map L6)]) (λj=>True) ?_ ?_ trivial ?_ ?_
 ·rfl
 ·rfl
 ·intro j hj _;by_cases c:n<=268
  ·rw[if_pos c]at hj;have hj':((j:Int)<n):=om;have hl:(List.replicate j (zs 256)).length=j:=dz7;rw[List.replicate_succ'];generalize List.replicate j (zs 256)=o at *
   simp(disch:=try exact dq)only[tx,seval,hj',c,hnz,e2b,Ls,e1q,hl];exact⟨rfl,by rw[e1w];rfl⟩
  ·rw[if_neg c]at hj;omega
 ·intro _;unfold Es;by_cases c:n<=268
  ·rw[if_pos c,if_pos c];have hj':¬ ((n.toNat:Int)<n):=om;have hl:(List.replicate n.toNat (zs 256)).length=n.toNat:=dz7;generalize List.replicate n.toNat (zs 256)=o at *;have hlt:List.take n.toNat (List.map Bh o)=List.map Bh o:=by rw[<-hl];exact Tq o Bh
   simp(disch:=try exact dq)only[tx,seval,hj',c,e2b,Ls,au6,aq7,e1q,hl,hlt];rfl
  ·rw[if_neg c,if_neg c]
   simp(disch:=try exact dq)only[tx,seval,c,e2b,Ls,au6,aq7,e1q];rfl
theorem b31(d:Dev)(l:Sl (Int×Bytes))(hl:(els l).length<=100000)(hw:(els d.wait).length<=100000)(hla:(els d.last).length<=100000)(ha:d.arm<=1000000000000)(H:AH) :
 K tab A5 A4 24 [.agg [A0 Bh d.last,A0 Bi d.wait,.int .i64 d.lies,.int .i64 d.arm,.bool d.down],A0 Bi l] H=some (.tuple [.agg (Fr (Fh d (els l)).1),.bool (Fh d (els l)).2],H):=by
 refine Ah l24 rfl (by simp[Ac,A8,Ap]) (by simp[Fr,Ac,A8,Ap]) ?_ H;unfold Fh;cases hdn:d.down with
 |true=>
   simp(disch:=try exact dq)only[tx,seval,g24];simp[Fr,hdn]
 |false=>
   rw[if_neg Bool.false_ne_true]
   simp(disch:=try exact dq)only[tx,seval,g24];generalize hr:Ad _ _ _=r;refine B7 hr (els l).length
    (λj=>[.top,A0 Bi l,.ptr 0 0 0 1,.ptr 1 0 0 1,.top,.int .i64 j,.top,.top,.top])
    (λj=>[some [[A0 Bh d.last,A0 Bi (Ka d ((els l).take j)).wait,.int .i64 d.lies,.int .i64 (Ka d ((els l).take j)).arm,.bool false]],some [[.emp,.emp,.int .i64 0,.int .i64 0,.bool false]]])
    (λj=>Ey d (els l)=Ey (Ka d ((els l).take j)) ((els l).drop j)) ?_ ?_ ?_ ?_ ?_
   ·rfl
   ·rfl
   ·rfl
   ·intro j hj hI;have hj':((j:Int)<((els l).length:Int)):=om;have hf:=b0r ((els l).take j) d;rw[e1f]at hf;rw[d6a hj];rw[Ew hj]at hI;generalize Ka d ((els l).take j)=e at *;obtain⟨f1,f2,f3,f4,f5⟩:=hf;generalize hx:(els l).getD j default=x at *;have hpx:Bi x=[.int .i64 x.1,.str x.2]:=rfl;have hap:(els e.wait).map Hz++[[.int .i64 x.1,.str x.2]]=(els e.wait++[x]).map Hz:=(by rw[e1w];rfl);have hok:Lu e x=true↔(0<=x.1/\x.1<(els d.last).length/\x.2.length=256):=by
     simp only[Lu,f1,e14,e0r];omega
    have hlt:List.take ((els e.wait).length+1) (List.map Bi (els e.wait++[x]))=List.map Bi (els e.wait++[x]):=dz1 (by simp);by_cases c1:x.1<0
    ·have ho:Lu e x=false:=e0z.2 (λh=>by have:=hok.1 h;omega);rw[ao7 _ ho]at hI;rw[hI]
     simp(disch:=try exact dq)only[tx,seval,c1,hj',hx,Aa,hpx,Wx,Yl,hap,f1,Ms,Xu,Tp,e2b,Bn,e1q,e0l,e15,e1n];simp only[Fr,f1,f2,f3,hdn]
    by_cases c2:(els d.last).length<=x.1
    ·have ho:Lu e x=false:=e0z.2 (λh=>by have:=hok.1 h;omega);rw[ao7 _ ho]at hI;rw[hI]
     simp(disch:=try exact dq)only[tx,seval,c1,c2,hj',hx,Aa,hpx,Wx,Yl,hap,f1,Ms,Xu,Tp,e2b,Bn,e1q,e0l,e15,e1n];simp only[Fr,f1,f2,f3,hdn]
    by_cases c3:(x.2.length:Int)=256
    ·have ho:Lu e x=true:=hok.2 om;by_cases c4:0<e.arm
     ·by_cases c5:e.arm=1
      ·rw[bo1 _ ho c5]at hI;rw[hI]
       simp(disch:=try exact dq)only[tx,seval,c1,c2,c3,c4,c5,hj',hx,Aa,hpx,Wx,Yl,hap,f1,Ms,Xu,Tp,e2b,Bn,e1q,e0l,e15,e1n];simp only[Fr,f1,f2,hlt,C1]
      ·rw[b32 _ ho c5]at hI;have c6:¬ e.arm-1=0:=om;have es:Jc e x=⟨e.last,some (els e.wait++[x]),e.lies,e.arm-1,e.down⟩:=(by unfold Jc;rw[if_pos c4]);rw[es]at hI ⊢
       simp(disch:=try exact dq)only[tx,seval,c1,c2,c3,c4,c6,hj',hx,Aa,hpx,Wx,Yl,hap,f1,Ms,Xu,Tp,e2b,Bn,e1q,e0l,e15,e1n];exact⟨rfl,by rw[hlt],by rw[hI,f1]⟩
     ·rw[b32 _ ho om]at hI;have es:Jc e x=Zn e x:=(by unfold Jc;rw[if_neg c4]);rw[es]at hI ⊢;unfold Zn at hI ⊢
      simp(disch:=try exact dq)only[tx,seval,c1,c2,c3,c4,hj',hx,Aa,hpx,Wx,Yl,hap,f1,Ms,Xu,Tp,e2b,Bn,e1q,e0l,e15,e1n];exact⟨rfl,by rw[hlt],by rw[hI,f1]⟩
    ·have ho:Lu e x=false:=e0z.2 (λh=>by have:=hok.1 h;omega);rw[ao7 _ ho]at hI;rw[hI]
     simp(disch:=try exact dq)only[tx,seval,c1,c2,c3,hj',hx,Aa,hpx,Wx,Yl,hap,f1,Ms,Xu,Tp,e2b,Bn,e1q,e0l,e15,e1n];simp only[Fr,f1,f2,f3,hdn]
   ·intro hI;rw[e1g,e1h]at hI;rw[e1g];have hf:=b0r (els l) d;generalize Ka d (els l)=e at *;obtain⟨f1,f2,f3,f4,f5⟩:=hf;rw[hI]
    simp(disch:=try exact dq)only[tx,seval,e2k];simp only[Ey,Fr,f1,f2,f3,hdn]
def Q9(n:Int):List PV:=[.int .i64 n]
theorem cc3(d:Dev)(how:Sl Int)(hl:(els d.last).length<=100000)(hw:(els d.wait).length<=1000000)(hh:(els how).length<=1000000)(H:AH) :
 K tab A5 A4 64 [.agg [A0 Bh d.last,A0 Bi d.wait,.int .i64 d.lies,.int .i64 d.arm,.bool d.down],A0 Q9 how] H=some (A0 Bh (some (Jn (els d.last) (els d.wait) (els how))),H):=by
 refine Ah l64 rfl (by simp[Ac,A8,Ap]) (Ap _ _) ?_ H
 simp(disch:=try exact dq)only[tx,seval,g64,c9r,df4,e1q];generalize hr:Ad _ _ _=r;refine B7 hr (els d.wait).length
  (λj=>[.top,A0 Q9 how,.ptr 0 0 0 1,.top,.own 1 1 0 (els d.last).length (els d.last).length,.int .i64 j,.top,.top,.top])
  (λj=>[some [[A0 Bh d.last,A0 Bi d.wait,.int .i64 d.lies,.int .i64 d.arm,.bool d.down]],some ((Jn (els d.last) ((els d.wait).take j) (els how)).map L6)])
  (λj=>True) ?_ ?_ trivial ?_ ?_
 ·rfl
 ·rfl
 ·intro j hj _;have hj':((j:Int)<((els d.wait).length:Int)):=om;rw[b8n _ _ _ j hj];have hol:=a7z ((els d.wait).take j) (els d.last) (els how);generalize Jn (els d.last) ((els d.wait).take j) (els how)=o at *;generalize hx:(els d.wait).getD j default=x at *;have hpx:Bi x=[.int .i64 x.1,.str x.2]:=rfl;unfold Uj;by_cases c1:x.1<0
  ·rw[if_neg om]
   simp(disch:=try exact dq)only[tx,seval,hj',hx,c1,Aa,hpx,Ls,hol,e2b,e1q];rfl
  by_cases c2:(els d.last).length<=x.1
  ·rw[if_neg om]
   simp(disch:=try exact dq)only[tx,seval,hj',hx,c1,c2,Aa,hpx,Ls,hol,e2b,e1q];rfl
  by_cases c3:(x.2.length:Int)=256
  ·have ho:x.1.toNat<o.length:=om;have hg:(o.map L6)[x.1.toNat]?=some [.str (o.getD x.1.toNat default)]:=G9 ho L6;by_cases c4:((o.getD x.1.toNat default).length:Int)=256
   ·rw[if_pos om];have c3n:x.2.length=256:=om;have c4n:(o.getD x.1.toNat default).length=256:=om;generalize hw2:o.getD x.1.toNat default=was at *;have hg2:∀ y:Bytes,((o.set x.1.toNat y).map L6)[x.1.toNat]?=some [.str y]:=λy=>by
     rw[e0t,List.getElem?_set_self ho];rfl
    have htw:was.take 256=was:=dz1 om;have htx:x.2.take 256=x.2:=dz1 om;have hh0:(els how).getD j 0=(els how).getD j default:=rfl;by_cases hin:((j:Int)<((els how).length:Int))
    ·have hA:=df0 ((els how).getD j default);rw[hh0];have hmr:(els how).getD j default%4=0\/(els how).getD j default%4=1\/(els how).getD j default%4=2\/(els how).getD j default%4=3:=om;generalize hhx:(els how).getD j default=h at *;rcases hmr with hm|hm|hm|hm<;>rw[hm]
     ·simp(disch:=try exact dq)only[tx,seval,hj',hx,c1,c2,c3,hg,hg2,a0h,htw,htx,c3n,c4n,Aa,hpx,Q9,Ls,hol,e2b,e1q,e1m,e0l,e1f,e19,e2w,hin,hhx,hA,hm];refine⟨rfl,?_⟩;have e:O8 was x.2 0=was:=(by unfold O8;simp);rw[e,<-hw2,b50 o ho]
     ·simp(disch:=try exact dq)only[tx,seval,hj',hx,c1,c2,c3,hg,hg2,a0h,htw,htx,c3n,c4n,Aa,hpx,Q9,Ls,hol,e2b,e1q,e1m,e0l,e1f,e19,e2w,hin,hhx,hA,hm];exact⟨rfl,by simp[O8,c3n,c4n]⟩
     ·simp(disch:=try exact dq)only[tx,seval,hj',hx,c1,c2,c3,hg,hg2,a0h,htw,htx,c3n,c4n,Aa,hpx,Q9,Ls,hol,e2b,e1q,e1m,e0l,e1f,e19,e2w,hin,hhx,hA,hm,A2,B2];exact⟨rfl,by simp[O8,c3n,c4n]⟩
     ·simp(disch:=try exact dq)only[tx,seval,hj',hx,c1,c2,c3,hg,hg2,a0h,htw,htx,c3n,c4n,Aa,hpx,Q9,Ls,hol,e2b,e1q,e1m,e0l,e1f,e19,e2w,hin,hhx,hA,hm,A3,B3];exact⟨rfl,by simp[O8,c3n,c4n]⟩
    ·have h0:(els how).getD j 0=0:=(by rw[dx5,dz3 om];rfl);rw[h0];show Rd _ _ _ [_,some ((o.set x.1.toNat (O8 was x.2 0)).map L6)] _
     simp(disch:=try exact dq)only[tx,seval,hj',hx,c1,c2,c3,hg,hg2,a0h,htw,htx,c3n,c4n,Aa,hpx,Q9,Ls,hol,e2b,e1q,e1m,e0l,e1f,e19,e2w,hin];refine⟨rfl,?_⟩;have e:O8 was x.2 0=was:=(by unfold O8;simp);rw[e,<-hw2,b50 o ho]
   ·rw[if_neg om];generalize hw2:o.getD x.1.toNat default=was at *
    simp(disch:=try exact dq)only[tx,seval,hj',hx,c1,c2,c3,c4,hg,Aa,hpx,Ls,hol,e2b,e1q];rfl
  ·rw[if_neg om]
   simp(disch:=try exact dq)only[tx,seval,hj',hx,c1,c2,c3,Aa,hpx,Ls,hol,e2b,e1q];rfl
 ·intro _;rw[e1g];have hol:=a7z (els d.wait) (els d.last) (els how);generalize Jn (els d.last) (els d.wait) (els how)=o at *;have hlt:List.take (els d.last).length (List.map Bh o)=List.map Bh o:=by rw[<-hol];exact Tq o Bh
  simp(disch:=try exact dq)only[tx,seval,e2k,Ls,au6,aq7,e1q,hol,hlt]
def L1(n j:Nat):List Int:=List.replicate j 3++List.replicate (n-j) 0
theorem d08{n j:Nat}(h:j<n):(L1 n j).set j 3=L1 n (j+1):=by
 unfold L1;rw[List.set_append,if_neg (by simp),dz7,Nat.sub_self,show n-j=(n-(j+1))+1 by omega,e09,e0o,List.replicate_succ'];simp
theorem d09{n j:Nat}(h:j<=n):(L1 n j).length=n:=by unfold L1;simp;omega
theorem d0a(n:Nat):L1 n n=List.replicate n 3:=by unfold L1;simp
theorem c3o(n:Nat):List.replicate n [AV.int .i64 0]=(L1 n 0).map cI:=by unfold L1;rw[e0b,e1s,Nat.sub_zero,List.map_replicate];rfl
theorem bd1(d:Dev)(hl:(els d.last).length<=100000)(hw:(els d.wait).length<=1000000)(hli:-1000000000000<=d.lies/\d.lies<=1000000000000)(H:AH) :
 K tab A5 A4 26 [.agg [A0 Bh d.last,A0 Bi d.wait,.int .i64 d.lies,.int .i64 d.arm,.bool d.down]] H=some (.tuple [.agg (Fr (Qt d).1),.bool (Qt d).2],H):=by
 refine Ah l26 rfl (by simp[Ac,A8,Ap]) (by simp[Fr,Ac,A8,Ap]) ?_ H;unfold Qt;cases hdn:d.down with
 |true=>
   simp(disch:=try exact dq)only[tx,seval,Xl];simp[Fr,hdn]
 |false=>
   rw[if_neg Bool.false_ne_true];by_cases c:0<d.lies
   ·rw[if_pos c]
    simp(disch:=try exact dq)only[tx,seval,Xl,c,e2b];simp[Fr,hdn]
   ·rw[if_neg c];have hla:=cc3 d (some (List.replicate (els d.wait).length 3)) hl hw (by rw[Bn,dz7];exact hw);rw[Bn,hdn]at hla;have hlen:∀ j,j<=(els d.wait).length->(L1 (els d.wait).length j).length=(els d.wait).length:=λj h=>d09 h
    simp(disch:=try exact dq)only[tx,seval,Xl,c,e2b,c3o,e10];generalize hr:Ad _ _ _=r;generalize hn:(els d.wait).length=n at *;refine G7 (Q:=λr=>Cg _ _ _ (Be _ _ (Mb _ _ (B0 _ r)))=_) hr n
     (λj=>[.top,.ptr 0 0 0 1,.ptr 1 0 0 1,.top,.own 2 1 0 n n,.int .i64 j,.top,.top,.top,.top])
     (λj=>[some [[A0 Bh d.last,A0 Bi d.wait,.int .i64 d.lies,.int .i64 d.arm,.bool false]],some [[.emp,.emp,.int .i64 0,.int .i64 0,.bool false]],some ((L1 n j).map cI)])
     (λj=>True) ?_ ?_ trivial ?_ ?_
    ·rfl
    ·rfl
    ·intro j hj _;have hj':((j:Int)<(n:Int)):=om;have h1:=hlen j om;rw[<-d08 hj];have hg:((L1 n j).map cI)[j]?=some [.int .i64 ((L1 n j).getD j default)]:=G9 om cI;generalize L1 n j=o at *
     simp(disch:=try exact dq)only[tx,seval,hj',h1,hg,b51,e2b,Au,e1q];rfl
    ·intro _;rw[d0a];have h1:(List.replicate n (3:Int)).length=n:=dz7;generalize List.replicate n (3:Int)=o at *;have hlt:List.take n (List.map (λn:Int=>[PV.int IntKind.i64 n]) o)=List.map Q9 o:=(by rw[<-h1];exact Tq o Q9);rw[C1]at hla
     simp(disch:=try exact dq)only[tx,seval,e2k,hla,h1,hlt,e2b,Au,B8,Px,O9,e1q];rfl
theorem bo2(d:Dev)(l:Sl (Int×Bytes))(hl:(els l).length<=100000)(hw:(els d.wait).length<=100000)(hla:(els d.last).length<=100000)(ha:d.arm<=1000000000000)(hli:-1000000000000<=d.lies/\d.lies<=1000000000000)(H:AH) :
 K tab A5 A4 77 [.agg [A0 Bh d.last,A0 Bi d.wait,.int .i64 d.lies,.int .i64 d.arm,.bool d.down],A0 Bi l] H =
   some (if(Fh d (els l)).2=true then .tuple [.agg (Fr (Qt (Fh d (els l)).1).1),.bool (Qt (Fh d (els l)).1).2]else .tuple [.agg (Fr (Fh d (els l)).1),.bool false],H):=by
 refine Ah l77 rfl (by simp[Ac,A8,Ap]) (by split<;>simp[Fr,Ac,A8,Ap]) ?_ H;have h1:=b31 d l hl hw hla ha;have hf:(Fh d (els l)).1.last=d.last/\(els (Fh d (els l)).1.wait).length<=(els d.wait).length+(els l).length/\(Fh d (els l)).1.lies=d.lies:=by
  unfold Fh;split
  ·exact⟨rfl,Nat.le_add_right _ _,rfl⟩
  ·have:=a5s (els l) d;exact⟨this.1,this.2.1,a5r _ _⟩
 have hf2:(els (Fh d (els l)).1.wait).length<=1000000:=e2q hf.2.1 (show _+_<=1000000 from e2q (Nat.add_le_add hw hl) (by decide));have h2:=bd1 (Fh d (els l)).1 (by rw[hf.1];exact hla) hf2 (by rw[hf.2.2];exact hli);generalize hq:Fh d (els l)=q at *;obtain⟨e,b⟩:=q;cases b with
 |false=>
   unfold Fr at h1 ⊢
   simp(disch:=try exact dq)only[tx,seval,g77,h1,Bool.false_ne_true]
 |true=>
   unfold Fr at h1 h2 ⊢;rw[if_pos rfl];simp only[]at h1 h2 ⊢
   simp(disch:=try exact dq)only[tx,seval,g77,h1,h2]
def S2(data:Int)(u:Uber)(half:Int):Sl (Int×Bytes):=
 if F6 data=true/\S6 u=true/\0<=half/\half<=1 then some [(Vy data half u.seat,Wo u),(Vy data (half+2) u.seat,Wo u)]else none
theorem b6l(data half t g s a b:Int)(c d e f:UInt32)(H:AH):K tab A5 A4 128 [.int .i64 data,.agg [.int .i64 t,.int .i64 g,.int .i64 s,.int .i64 a,.int .i64 b,.int .u32 c.toNat,.int .u32 d.toNat,.int .u32 e.toNat,.int .u32 f.toNat],.int .i64 half] H=some (A0 Bi (S2 data ⟨t,g,s,⟨a,b,⟨c,d,e,f⟩⟩⟩ half),H):=by
 refine Ah cp7 rfl rfl (Ap _ _) ?_ H;have h1:=λH=>S7 (orc:=A5) (lk:=A4) data H;have h2:=λH=>b7o (orc:=A5) t g s a b c d e f H;have h3:=λH=>av1 (orc:=A5) t g s a b c d e f H;unfold S2;cases c1:F6 data with
 |false=>
   rw[c1]at h1
   simp(disch:=try exact dq)only[tx,seval,Sk,h1]
   (try first|done|rfl|exact⟨rfl,rfl⟩|exact⟨rfl,rfl,rfl⟩)
 |true=>
   rw[c1]at h1;cases c2:S6 ⟨t,g,s,⟨a,b,⟨c,d,e,f⟩⟩⟩with
   |false=>
     rw[c2]at h2
     simp(disch:=try exact dq)only[tx,seval,Sk,h1,h2]
     (try first|done|rfl|exact⟨rfl,rfl⟩|exact⟨rfl,rfl,rfl⟩)
   |true=>
     rw[c2]at h2;have hs:0<=s/\s<6:=(by simp only[S6,e14,e0r]at c2;exact⟨c2.1.1.1.2,c2.1.1.2⟩);by_cases c3:half<0
     ·simp(disch:=try exact dq)only[tx,seval,Sk,h1,h2,c3]
      try rw[if_neg om]
      (try first|done|rfl|exact⟨rfl,rfl⟩|exact⟨rfl,rfl,rfl⟩)
     by_cases c4:1<half
     ·simp(disch:=try exact dq)only[tx,seval,Sk,h1,h2,c3,c4]
      try rw[if_neg om]
      (try first|done|rfl|exact⟨rfl,rfl⟩|exact⟨rfl,rfl,rfl⟩)
     have s1:=a6j data half s om;have s2:=a6j data (half+2) s om;rw[if_pos ⟨rfl,rfl,by omega,by omega⟩]
     simp(disch:=try exact dq)only[tx,seval,Sk,h1,h2,h3,s1,s2,c3,c4,e2b];rfl
theorem b87(bl:List Block)(bp:List Ptr)(hb:bl.length=bp.length)(hbl:bl.length<=1000)(pk:Sl UInt8)(hl:(els pk).length<=1000000)(n:Nat)(hn:n<=80000)(kind:Int)(hk:1<=kind/\kind<=6)(i txg:Int)(hi:0<=i/\i<=100)(ht:0<=txg/\txg<=1000) :
 ∃ q:Bytes×Nat,q.1.length<=1000/\q.2<=n+40/\Ev tab A5 A4 19 [.ptr 0 0 0 1,.ptr 3 0 0 1,.int .i64 kind,.int .i64 i,.int .i64 txg] (Dg bl bp pk n)=some (.str q.1,Dg bl bp pk q.2):=by
 have:kind=1\/kind=2\/kind=3\/kind=4\/kind=5\/kind=6:=om;rcases this with rfl|rfl|rfl|rfl|rfl|rfl
 ·exact ca3 bl bp hb hbl pk hl n hn i txg
 ·exact ca4 bl bp hb hbl pk hl n hn i txg hi
 ·exact ca1 bl bp hb hbl pk hl n hn i txg hi
 ·exact c9z bl bp hb hbl pk hl n hn i txg
 ·exact ca0 bl bp hb hbl pk hl n hn i txg
 ·exact ca2 bl bp hb hbl pk hl n hn i txg ht 6 (by decide)
theorem cs7(a:Int)(h:0<=a/\a<7):∃ z:Int,(1<=z/\z<=6)/\([[AV.int .i64 1],[AV.int .i64 2],[AV.int .i64 2],[AV.int .i64 3],[AV.int .i64 4],[AV.int .i64 5],[AV.int .i64 6]]:List (List AV))[a.toNat]?=some [.int .i64 z]:=by
 have:a=0\/a=1\/a=2\/a=3\/a=4\/a=5\/a=6:=om;rcases this with rfl|rfl|rfl|rfl|rfl|rfl|rfl<;>exact⟨_,by decide,rfl⟩
def Qi(o:List (Int×Bytes)):Dev:=(Qt (Fh (Es 68) o).1).1
theorem ct4(o:List (Int×Bytes))(ho:o.length<=100000):DevOk (Qi o):=by
 have h0:Fh (Es 68) o=Ey (Es 68) o:=rfl;obtain⟨h1,h2,h3⟩:=a5s o (Es 68);have hl:els (Es 68).last=List.replicate 68 (zs 256):=rfl;have hw:els (Es 68).wait=[]:=rfl;rw[hw,e1n,e2s]at h2;unfold Qi;rw[h0]
 generalize (Ey (Es 68) o).1=e at *;have hel:els e.last=List.replicate 68 (zs 256):=by rw[h1,hl]
 have htx:∀ s∈els e.last,s.length<=256:=by
  intro s hs;rw[hel]at hs;rw[(List.mem_replicate.1 hs).2,zs,dz7];exact e2z _
 have hwt:∀ p∈els e.wait,p.2.length<=256:=by
  intro p hp;rcases h3 p hp with h|h
  ·rw[hw]at h;cases h
  ·omega
 unfold Qt;split
 ·exact⟨by show(els e.last).length<=1000;rw[hel,dz7];decide,e2q h2 om,htx,hwt⟩
 ·split
  ·exact⟨by show(els e.last).length<=1000;rw[hel,dz7];decide,by show(els e.wait).length<=1000000;exact e2q h2 om,htx,hwt⟩
  ·refine⟨?_,by simp[els],?_,by simp[els]⟩
   ·show(Jn (els e.last) (els e.wait) _).length<=1000;rw[a7z,hel,dz7];decide
   ·exact b8m (e2z _) _ _ _ htx
theorem b0l(r:Nat)(es:List (List PV))(l:List Block):(l.map E8).map (Ce r es)=l.map E8:=V2 _ _ _ λe he=>by obtain⟨p,_,rfl⟩:=e2r.1 he;rfl
theorem ct2(o:List (Int×Bytes)):(Fh (Es 68) o).1.lies=0:=by
 show(Ey (Es 68) o).1.lies=0;rw[a5r];rfl
theorem ct3(pk:Sl UInt8)(hl:(els pk).length<=1000000) :
 ∃ q:List (Int×Bytes)×List Ptr×Nat,q.1.length<=1000/\q.2.1.length=21/\Ev tab A5 A4 6 [.ptr 0 0 0 1] [some [[A0 pu8 pk,.int .i64 0]]]=some (.tuple [.agg (Fr (Qi q.1)),.own 1 6 0 21 21],[some [[A0 pu8 pk,.int .i64 q.2.2]],some (q.2.1.map A7)]):=by
 refine Sq (λs h=>Cd l6 rfl h) ?_
 simp(disch:=try exact dq)only[tx,seval,g6];generalize hr:Ad _ _ _=r;refine X3 (Q:=λr=>∃ a:List (Int×Bytes)×List Ptr×Nat,a.1.length<=1000/\a.2.1.length=21/\Cg _ _ _ (Be _ _ (B0 _ r))=some (.tuple [.agg (Fr (Qi a.1)),.own 1 6 0 21 21],[some [[A0 pu8 pk,.int .i64 a.2.2]],some (a.2.1.map A7)])) hr 4
  (λj cf H=>∃ (o:List (Int×Bytes)) (n:Nat),o.length=j/\n<=j/\cf=[.ptr 0 0 0 1,.ptr 1 0 0 1,.top,.own 2 2 0 o.length o.length,.int .i64 j,.top,.top,.top,.top,.top,.top,.top,.top,.top,.top,.top,.top,.top,.top,.top,.top,.top]/\H=[some [[A0 pu8 pk,.int .i64 (n:Nat)]],some [[.emp,.emp,.int .i64 0,.int .i64 0,.bool false]],some (o.map Hz)]) ?_ ?_ ?_
 ·exact⟨[],0,rfl,e2z _,rfl,rfl⟩
 ·rintro j hj cf H ⟨o,n,ho,hn,rfl,rfl⟩;have hj':((j:Int)<4):=om;have hN:=D2 pk hl n om 8 om;have hv:=D3 (els pk) n 8 om;have hn1:=D4 (els pk) n 8;generalize Cr (els pk) n 8=v at *;generalize Cn (els pk) n 8=n1 at *;have hu:v.tdiv 7=v/7:=dx7 om;have hA:=λH=>Yj (orc:=A5) (lk:=A4) 40 j H (λH=>S7 40 H);have hC:=λH=>bf7 (orc:=A5) (7+v/7) 40 H;have hap:o.map Hz++[[.int .i64 (Gc 40 j),.str (L8 (7+v/7) 40)]]=(o++[(Gc 40 j,L8 (7+v/7) 40)]).map Hz:=by rw[e1w];rfl
  simp(disch:=try exact dq)only[tx,seval,hj',KQ 18 rfl,An,hN,hu,hA,hC,hap,Ms,Wi,e1q,e0l,e15,e1n,e2b];exact⟨o++[(Gc 40 j,L8 (7+v/7) 40)],n1,by simp[ho],by omega,by rw[e0l];rfl,rfl⟩
 ·rintro cf H ⟨o,n,ho,hn,rfl,rfl⟩
  simp(disch:=try exact dq)only[tx,seval,Ms,Wi,e1q];generalize hr2:Ad _ _ _=r2;refine X3 (Q:=λr=>∃ a:List (Int×Bytes)×List Ptr×Nat,a.1.length<=1000/\a.2.1.length=21/\Cg _ _ _ (Be _ _ (Mb _ _ (B0 _ r)))=some (.tuple [.agg (Fr (Qi a.1)),.own 1 6 0 21 21],[some [[A0 pu8 pk,.int .i64 a.2.2]],some (a.2.1.map A7)])) hr2 21
   (λj cf H=>∃ (o:List (Int×Bytes)) (n:Nat) (bl:List Block) (bp:List Ptr),bl.length=j/\bp.length=j/\o.length<=4+2*j/\n<=4+100*j/\cf=[.ptr 0 0 0 1,.ptr 1 0 0 1,.top,.own 2 2 0 o.length o.length,.top,.ptr 3 0 0 1,.int .i64 j,.top,.top,.top,.top,.top,.top,.top,.top,.top,.top,.top,.top,.top,.top,.top]/\H=[some [[A0 pu8 pk,.int .i64 (n:Nat)]],some [[.emp,.emp,.int .i64 0,.int .i64 0,.bool false]],some (o.map Hz),some [[.own 4 3 0 bl.length bl.length,.own 5 6 0 bl.length bl.length]],some (bl.map E8),some (bp.map A7)]) ?_ ?_ ?_
  ·exact⟨o,n,[],[],rfl,rfl,by omega,by omega,rfl,rfl⟩
  ·rintro j hj cf H ⟨o,n,bl,bp,hbl,hbp,ho,hn,rfl,rfl⟩;have hj':((j:Int)<21):=om;have hu1:(j:Int).tdiv 7=(j:Int)/7:=dx7 om;have hu2:(j:Int).tmod 7=(j:Int)%7:=Int.tmod_eq_emod_of_nonneg om;obtain⟨kd,hkd,hkx⟩:=cs7 ((j:Int)%7) om;have hN:=D2 pk hl n om 16 om;have hv:=D3 (els pk) n 16 om;have hn1:=D4 (els pk) n 16;generalize Cr (els pk) n 16=v at *;generalize Cn (els pk) n 16=n1 at *;by_cases c15:v=15
   ·have hN2:=D2 pk hl n1 om 6 om;have hv2:=D3 (els pk) n1 6 om;have hn2:=D4 (els pk) n1 6;generalize Cr (els pk) n1 6=v2 at *;generalize Cn (els pk) n1 6=n2 at *;obtain⟨⟨ld,m0⟩,hld,hm0,hL⟩:=b87 bl bp om om pk hl n2 om (1+v2) om j (1+(j:Int)/7) om om;simp only[Dg]at hld hm0 hL;have hbb:bp.length=bl.length:=om;rw[hbb]at hL;have hB:=λH=>Ye (orc:=A5) (14+(j:Int)) (1+v2) (1+(j:Int)/7) ld om H;simp only[A7]at hB;have hPB:=λH=>S0 (orc:=A5) (1+v2) (1+(j:Int)/7) ld om H;generalize L9 (14+(j:Int)) ⟨1+v2,1+(j:Int)/7,ld⟩=Q at *;generalize Dn ⟨1+v2,1+(j:Int)/7,ld⟩=PB at *;have apl:bl.map E8++[[.int .i64 (1+v2),.int .i64 (1+(j:Int)/7),.str ld]]=(bl++[(⟨1+v2,1+(j:Int)/7,ld⟩:Block)]).map E8:=(by rw[e1w];rfl);have apq:bp.map A7++[[.int .i64 Q.addr,.int .i64 Q.birth,.int .u32 Q.sum.a.toNat,.int .u32 Q.sum.b.toNat,.int .u32 Q.sum.c.toNat,.int .u32 Q.sum.d.toNat]]=(bp++[Q]).map A7:=(by rw[e1w];rfl);have app:∀ (o:List (Int×Bytes)) (a:Int) (b:Bytes),o.map Hz++[[.int .i64 a,.str b]]=(o++[(a,b)]).map Hz:=λo a b=>(by rw[e1w];rfl);by_cases c6:1+v2=6
    ·have hW1:=D2 pk hl m0 om 9 om;have hvw1:=D3 (els pk) m0 9 om;have hsm1:=D4 (els pk) m0 9;generalize Cr (els pk) m0 9=w1 at *;generalize Cn (els pk) m0 9=m1 at *;have hW2:=D2 pk hl m1 om 9 om;have hvw2:=D3 (els pk) m1 9 om;have hsm2:=D4 (els pk) m1 9;generalize Cr (els pk) m1 9=w2 at *;generalize Cn (els pk) m1 9=m2 at *;have hW3:=D2 pk hl m2 om 4 om;have hvw3:=D3 (els pk) m2 4 om;have hsm3:=D4 (els pk) m2 4;generalize Cr (els pk) m2 4=w3 at *;generalize Cn (els pk) m2 4=m3 at *;have hx1:w1.tdiv 8=w1/8:=dx7 om;have hx2:w2.tdiv 8=w2/8:=dx7 om;have hSl:=a6j 40 w3 (1+(j:Int)/7) om;have hPU:=λH=>av1 (orc:=A5) (1+(j:Int)/7+w1/8) (7+w2/8) (1+(j:Int)/7) Q.addr Q.birth Q.sum.a Q.sum.b Q.sum.c Q.sum.d H;generalize Wo ⟨1+(j:Int)/7+w1/8,7+w2/8,1+(j:Int)/7,⟨Q.addr,Q.birth,⟨Q.sum.a,Q.sum.b,Q.sum.c,Q.sum.d⟩⟩⟩=PU at *;have apl6:=apl;rw[c6]at hL hB hPB apl6
     simp(disch:=try exact dq)only[tx,seval,hj',hu1,hu2,hkx,KQ 18 rfl,KQ 19 rfl,Eg (f:=18) rfl,Bo,Bq,An,hN,hN2,c15,hL,hB,hPB,apl,apq,app,Ms,Wi,Bw,Bv,Ar,Aw,e1q,e0l,e15,e1n,e1l,e2b,c6,apl6,hW1,hW2,hW3,hx1,hx2,hSl,hPU];exact⟨o++[(Q.addr,PB)]++[(Vy 40 w3 (1+(j:Int)/7),PU)],m3,bl++[(⟨1+v2,1+(j:Int)/7,ld⟩:Block)],bp++[Q],by simp[hbl],by simp[hbp],by simp only[e0l,e15,e1n];omega,by omega,by simp only[e0l,e15,e1n];try rfl,by simp only[e0l,e15,e1n,c6]⟩
    ·simp(disch:=try exact dq)only[tx,seval,hj',hu1,hu2,hkx,KQ 18 rfl,KQ 19 rfl,Eg (f:=18) rfl,Bo,Bq,An,hN,hN2,c15,hL,hB,hPB,apl,apq,app,Ms,Wi,Bw,Bv,Ar,Aw,e1q,e0l,e15,e1n,e1l,e2b,c6];exact⟨o++[(Q.addr,PB)],m0,bl++[(⟨1+v2,1+(j:Int)/7,ld⟩:Block)],bp++[Q],by simp[hbl],by simp[hbp],by simp only[e0l,e15,e1n];omega,by omega,by simp only[e0l,e15,e1n];try rfl,by simp only[e0l,e15,e1n]⟩
   ·obtain⟨⟨ld,m0⟩,hld,hm0,hL⟩:=b87 bl bp om om pk hl n1 om (kd) om j (1+(j:Int)/7) om om;simp only[Dg]at hld hm0 hL;have hbb:bp.length=bl.length:=om;rw[hbb]at hL;have hB:=λH=>Ye (orc:=A5) (14+(j:Int)) (kd) (1+(j:Int)/7) ld om H;simp only[A7]at hB;have hPB:=λH=>S0 (orc:=A5) (kd) (1+(j:Int)/7) ld om H;generalize L9 (14+(j:Int)) ⟨kd,1+(j:Int)/7,ld⟩=Q at *;generalize Dn ⟨kd,1+(j:Int)/7,ld⟩=PB at *;have apl:bl.map E8++[[.int .i64 (kd),.int .i64 (1+(j:Int)/7),.str ld]]=(bl++[(⟨kd,1+(j:Int)/7,ld⟩:Block)]).map E8:=(by rw[e1w];rfl);have apq:bp.map A7++[[.int .i64 Q.addr,.int .i64 Q.birth,.int .u32 Q.sum.a.toNat,.int .u32 Q.sum.b.toNat,.int .u32 Q.sum.c.toNat,.int .u32 Q.sum.d.toNat]]=(bp++[Q]).map A7:=(by rw[e1w];rfl);have app:∀ (o:List (Int×Bytes)) (a:Int) (b:Bytes),o.map Hz++[[.int .i64 a,.str b]]=(o++[(a,b)]).map Hz:=λo a b=>(by rw[e1w];rfl);by_cases c6:kd=6
    ·have hW1:=D2 pk hl m0 om 9 om;have hvw1:=D3 (els pk) m0 9 om;have hsm1:=D4 (els pk) m0 9;generalize Cr (els pk) m0 9=w1 at *;generalize Cn (els pk) m0 9=m1 at *;have hW2:=D2 pk hl m1 om 9 om;have hvw2:=D3 (els pk) m1 9 om;have hsm2:=D4 (els pk) m1 9;generalize Cr (els pk) m1 9=w2 at *;generalize Cn (els pk) m1 9=m2 at *;have hW3:=D2 pk hl m2 om 4 om;have hvw3:=D3 (els pk) m2 4 om;have hsm3:=D4 (els pk) m2 4;generalize Cr (els pk) m2 4=w3 at *;generalize Cn (els pk) m2 4=m3 at *;have hx1:w1.tdiv 8=w1/8:=dx7 om;have hx2:w2.tdiv 8=w2/8:=dx7 om;have hSl:=a6j 40 w3 (1+(j:Int)/7) om;have hPU:=λH=>av1 (orc:=A5) (1+(j:Int)/7+w1/8) (7+w2/8) (1+(j:Int)/7) Q.addr Q.birth Q.sum.a Q.sum.b Q.sum.c Q.sum.d H;generalize Wo ⟨1+(j:Int)/7+w1/8,7+w2/8,1+(j:Int)/7,⟨Q.addr,Q.birth,⟨Q.sum.a,Q.sum.b,Q.sum.c,Q.sum.d⟩⟩⟩=PU at *;have apl6:=apl;rw[c6]at hL hB hPB apl6
     simp(disch:=try exact dq)only[tx,seval,hj',hu1,hu2,hkx,KQ 18 rfl,KQ 19 rfl,Eg (f:=18) rfl,Bo,Bq,An,hN,c15,hL,hB,hPB,apl,apq,app,Ms,Wi,Bw,Bv,Ar,Aw,e1q,e0l,e15,e1n,e1l,e2b,c6,apl6,hW1,hW2,hW3,hx1,hx2,hSl,hPU];exact⟨o++[(Q.addr,PB)]++[(Vy 40 w3 (1+(j:Int)/7),PU)],m3,bl++[(⟨kd,1+(j:Int)/7,ld⟩:Block)],bp++[Q],by simp[hbl],by simp[hbp],by simp only[e0l,e15,e1n];omega,by omega,by simp only[e0l,e15,e1n];try rfl,by simp only[e0l,e15,e1n,c6]⟩
    ·simp(disch:=try exact dq)only[tx,seval,hj',hu1,hu2,hkx,KQ 18 rfl,KQ 19 rfl,Eg (f:=18) rfl,Bo,Bq,An,hN,c15,hL,hB,hPB,apl,apq,app,Ms,Wi,Bw,Bv,Ar,Aw,e1q,e0l,e15,e1n,e1l,e2b,c6];exact⟨o++[(Q.addr,PB)],m0,bl++[(⟨kd,1+(j:Int)/7,ld⟩:Block)],bp++[Q],by simp[hbl],by simp[hbp],by simp only[e0l,e15,e1n];omega,by omega,by simp only[e0l,e15,e1n];try rfl,by simp only[e0l,e15,e1n]⟩
  ·rintro cf H ⟨o,n,bl,bp,hbl,hbp,ho,hn,rfl,rfl⟩;have hnw:=λH=>b7e 68 om om H;have h0:Fh (Es 68) o=Ey (Es 68) o:=rfl;obtain⟨h1,h2,h3⟩:=a5s o (Es 68);have hll:(els (Es 68).last).length=68:=(by rw[show els (Es 68).last=List.replicate 68 (zs 256)from rfl,dz7]);have hww:(els (Es 68).wait).length=0:=rfl;have har:(Es 68).arm=0:=rfl;have hwr:=λH=>b31 (Es 68) (some o) (by show o.length<=_;omega) om om om H;have hli:=ct2 o;have hfl:=λH=>bd1 (Fh (Es 68) o).1 (by rw[h0,h1];omega) (by rw[h0];omega) (by rw[hli];omega) H;rw[Bn]at hwr;have hjd:(Qt (Fh (Es 68) o).1).1=Qi o:=rfl;rw[hjd]at hfl;generalize hJ:Qi o=J at hfl
   generalize (Fh (Es 68) o).2=b2 at *
   generalize (Fh (Es 68) o).1=W at *;generalize Es 68=N0 at *;simp only[C1]at hwr;simp only[Fr]at hnw hwr hfl
   simp(disch:=try exact dq)only[tx,seval,hnw,hwr,hfl,Tp,M5,b0l,Ar,Aw,Bw,Bv];have e3:Qi o=J:=hJ;exact⟨(o,bp,n),by show o.length<=1000;omega,hbp,by rw[hbl,e3];rfl⟩
def Ln(s:List Node)(a:Int):Nat->Int
 |0=>a
 |k+1=>(Dd s (Ln s a k)).up
theorem ai6(s:List Node)(k:Nat)(a:Int)(h:¬ (0<a/\a<s.length)):Jt s k a=a:=by
 cases k with
 |zero=>rfl
 |succ k=>rw[Jt,if_neg h]
theorem b3s(s:Sl Node)(hs:(els s).length<=1000000)(hnm:∀ x∈els s,x.name.length<=1000000)(hup:∀ x∈els s,-1000000000000<=x.up/\x.up<=1000000000000)(H:AH):K tab A5 A4 12 [A0 Ao s] H=some (.bool (H7 (els s)),H):=by
 refine Ah l12 rfl (by simp[Ac,A8,Ap]) rfl ?_ H;by_cases c8:((els s).length:Int)=8
 ·have c8n:(els s).length=8:=om;have h00:(0:Int)<(els s).length:=om;have e0:=b17 ((els s).getD 0 default);by_cases cf:(els s).getD 0 default=foldN
  ·have hmem:∀ j,j<8->(els s).getD j default∈els s:=λj hj=>by
    rw[dx5,dy1 (show j<(els s).length by omega)];exact e1c _
   have hfalse:∀ j,0<j->j<8->E6 (els s) j=false->H7 (els s)=false:=λj h0 hj ht=>by
    unfold H7;rw[e0z];intro h;simp only[e14,e16,e24,e1v,e0r]at h;rcases h.2 j om with h2|h2
    ·omega
    ·rw[ht]at h2;cases h2
   rw[cf]at e0;have hd0:(!(decide (foldN.kind=2)&&(decide (foldN.up=0)&&(decide (foldN.name=[])&&(decide (foldN.body=[])&&decide (foldN.bad=0))))))=false:=by decide
   simp(disch:=try exact dq)only[tx,seval,Xq,c8,h00,Aa,Ao,cf,Int.toNat_zero,hd0];generalize hr:Ad _ _ _=r;refine B7 hr 7
    (λj=>[A0 Ao s,.top,.int .i64 ((j:Int)+1),.top,.top,.top,.top,.top,.top,.top,.top,.top,.top])
    (λj=>[]) (λj=>∀ i,0<i->i<j+1->E6 (els s) i=true) ?_ ?_ ?_ ?_ ?_
   ·rfl
   ·rfl
   ·intro i h1 h2;omega
   ·intro j hj hI;have hj':((j:Int)+1<8):=om;have u1:((j:Int)+1).toNat=j+1:=om;have hm:=hmem (j+1) om;have hn1:=hnm _ hm;have hu1:=hup _ hm;have hok:E6 (els s) (j+1)=true->∀ i,0<i->i<j+1+1->E6 (els s) i=true:=λh i h0 h1=>by
     rcases e2l i (j+1)with h2|h2
     ·exact hI i h0 h2
     ·rw[show i=j+1 by omega];exact h
    have hbad:=hfalse (j+1) om om;have hta:E6 (els s) (j+1)=if((els s).getD (j+1) default).kind=0 then decide ((els s).getD (j+1) default=node0)else
     if((els s).getD (j+1) default).kind=3 then decide ((els s).getD (j+1) default=lostN)else
     Hh ((els s).getD (j+1) default)&&mayName ((els s).getD (j+1) default).name&&folderT (els s) ((els s).getD (j+1) default).up&&decide (((els s).getD (j+1) default).body.length<=128)&&N6 (els s) (j+1)&&decide (Jt (els s) (els s).length ((j+1:Nat):Int)=0):=rfl
    generalize hx:(els s).getD (j+1) default=x at *;have ez:=ah4 x;have el:=be4 x;by_cases k0:x.kind=0
    ·rw[if_pos k0]at hta
     simp(disch:=try exact dq)only[tx,seval,hj',u1,c8,Aa,Ao,hx,k0,e2b];rw[k0]at ez;simp only[decide_true,e2e]at ez;rw[ez];by_cases xz:x=node0
     ·refine⟨λh=>absurd h (by simp[xz]),λ_=>⟨rfl,hok (by rw[hta];simp[xz])⟩⟩
     ·refine⟨λ_=>by rw[hbad (by rw[hta];simp[xz])],λh=>(h (by simp[xz])).elim⟩
    by_cases k3:x.kind=3
    ·rw[if_neg k0,if_pos k3]at hta
     simp(disch:=try exact dq)only[tx,seval,hj',u1,c8,Aa,Ao,hx,k3,e2b];rw[k3]at el;simp only[decide_true,e2e]at el;rw[el];by_cases xz:x=lostN
     ·refine⟨λh=>absurd h (by simp[xz]),λ_=>⟨rfl,hok (by rw[hta];simp[xz])⟩⟩
     ·refine⟨λ_=>by rw[hbad (by rw[hta];simp[xz])],λh=>(h (by simp[xz])).elim⟩
    have hN:=c9f x.name hn1;have hF:=d69 s hs x.up;have u2:((j+1:Nat):Int)=(j:Int)+1:=rfl;rw[if_neg k0,if_neg k3]at hta;by_cases k1:x.kind=1
    ·by_cases b1:x.bad<0
     ·have:Hh x=false:=(by unfold Hh;rw[e0z];simp only[ne_eq,e1v,e14,e0r];omega);have hf:E6 (els s) (j+1)=false:=(by rw[hta];rw[this];rfl);rw[hbad hf]
      simp(disch:=try exact dq)only[tx,seval,hj',u1,u2,c8,Aa,Ao,hx,k0,k3,k1,b1,e2b]
     by_cases b2:15<x.bad
     ·have:Hh x=false:=(by unfold Hh;rw[e0z];simp only[ne_eq,e1v,e14,e0r];omega);have hf:E6 (els s) (j+1)=false:=(by rw[hta];rw[this];rfl);rw[hbad hf]
      simp(disch:=try exact dq)only[tx,seval,hj',u1,u2,c8,Aa,Ao,hx,k0,k3,k1,b1,b2,e2b]
     have hkt:Hh x=true:=(by unfold Hh;simp only[e1v,e14,e0r];omega);rw[hkt,e2e]at hta;cases hnam:mayName x.name with
     |false=>
       rw[hnam]at hN hta;have hf:E6 (els s) (j+1)=false:=(by rw[hta];rfl);rw[hbad hf]
       simp(disch:=try exact dq)only[tx,seval,hj',u1,u2,c8,Aa,Ao,hx,k0,k3,k1,b1,b2,hN,e2b]
     |true=>
     rw[hnam,e2e]at hta;rw[hnam]at hN;cases hfol:folderT (els s) x.up with
     |false=>
       rw[hfol]at hF hta;have hf:E6 (els s) (j+1)=false:=(by rw[hta];rfl);rw[hbad hf]
       simp(disch:=try exact dq)only[tx,seval,hj',u1,u2,c8,Aa,Ao,hx,k0,k3,k1,b1,b2,hN,hF,e2b]
     |true=>
     rw[hfol,e2e]at hta;rw[hfol]at hF;by_cases hbo:128<x.body.length
     ·have Ur:decide (x.body.length<=128)=false:=(by simp;omega);rw[Ur]at hta;have hf:E6 (els s) (j+1)=false:=(by rw[hta];rfl);rw[hbad hf]
      simp(disch:=try exact dq)only[tx,seval,hj',u1,u2,c8,Aa,Ao,hx,k0,k3,k1,b1,b2,hN,hF,hbo,e2b]
     have Ur:decide (x.body.length<=128)=true:=(by simp;omega);rw[Ur,e2e]at hta
     simp(disch:=try exact dq)only[tx,seval,hj',u1,u2,c8,Aa,Ao,hx,k0,k3,k1,b1,b2,hN,hF,hbo,e2b];have hff:N6 (els s) (j+1)=true↔∀ m,0<m->m<j+1->¬ (((els s).getD m default).kind≠0/\((els s).getD m default).kind≠3/\((els s).getD m default).up=x.up/\((els s).getD m default).name=x.name):=by
      unfold N6;rw[hx];simp only[e16,e24,e1v,e0w,e0r,dy7];constructor
      ·rintro h m h0 hm ⟨a,b,c,d⟩;rcases h m hm with (((h|h)|h)|h)|h
       ·omega
       ·exact a h
       ·exact b h
       ·exact h c
       ·exact h d
      ·intro h m hm;by_cases m0:m=0
       ·exact .inl (.inl (.inl (.inl m0)))
       have:=h m om hm;by_cases a:((els s).getD m default).kind=0
       ·exact .inl (.inl (.inl (.inr a)))
       by_cases b:((els s).getD m default).kind=3
       ·exact .inl (.inl (.inr b))
       by_cases c:((els s).getD m default).up=x.up
       ·exact .inr (λd=>this ⟨a,b,c,d⟩)
       ·exact .inl (.inr c)
     generalize hr1:Ad _ _ _=r1;refine G7 (Q:=λr=>Rd _ _ _ _ (F3 _ _ (Be _ _ (B0 _ (Be _ _ (B0 _ r)))))) hr1 j
      (λk=>[A0 Ao s,.top,.int .i64 ((j:Int)+1),.ptr 0 0 0 1,.int .i64 ((k:Int)+1),.top,.top,.top,.top,.top,.top,.top,.top])
      (λk=>_) (λk=>∀ m,0<m->m<k+1->¬ (((els s).getD m default).kind≠0/\((els s).getD m default).kind≠3/\((els s).getD m default).up=x.up/\((els s).getD m default).name=x.name)) ?_ rfl ?_ ?_ ?_
     ·rfl
     ·intro m h0 hm;omega
     ·intro k hk hI1;have hk':((k:Int)+1<(j:Int)+1):=om;have v1:((k:Int)+1).toNat=k+1:=om;have hk8:((k:Int)+1<8):=om;have hfk:¬ (((els s).getD (k+1) default).kind≠0/\((els s).getD (k+1) default).kind≠3/\((els s).getD (k+1) default).up=x.up/\((els s).getD (k+1) default).name=x.name)->∀ m,0<m->m<k+1+1->¬ (((els s).getD m default).kind≠0/\((els s).getD m default).kind≠3/\((els s).getD m default).up=x.up/\((els s).getD m default).name=x.name):=λh m h0 hm=>by
       rcases e2l m (k+1)with h2|h2
       ·exact hI1 m h0 h2
       ·rw[show m=k+1 by omega];exact h
      have hfn:=λh:_/\_/\_/\_=>λhf:N6 (els s) (j+1)=true=>hff.1 hf (k+1) om om h;generalize hy:(els s).getD (k+1) default=y at hfk hfn
      simp(disch:=try exact dq)only[tx,seval,hk',hk8,v1,hy,c8,Aa,Ao,e2b];refine⟨λh=>?_,λh=>⟨rfl,hfk (λc=>h ?_)⟩⟩
      ·have hf:E6 (els s) (j+1)=false:=by
        rw[hta,e0z];intro hc;simp only[e14]at hc;refine hfn ?_ hc.1;simp only[e14,e0r,e0w,dy7]at h;exact⟨h.1.1.1,h.1.1.2,h.1.2,h.2⟩
       rw[hbad hf]
      ·simp only[e14,e0r,e0w,dy7];exact⟨⟨⟨c.1,c.2.1⟩,c.2.2.1⟩,c.2.2.2⟩
     ·intro hI1;have hfr:=hff.2 hI1;rw[hfr,e2e]at hta
      simp(disch:=try exact dq)only[tx,seval,e2k,c8,Aa,Ao,e2b];generalize hr2:Ad _ _ _=r2;refine G7 (Q:=λr=>Rd _ _ _ _ (F3 _ _ (Be _ _ (B0 _ (Be _ _ (B0 _ r)))))) hr2 8
       (λk=>[A0 Ao s,.top,.int .i64 ((j:Int)+1),.top,.top,.int .i64 (Ln (els s) ((j:Int)+1) k),.int .i64 k,.top,.top,.top,.top,.top,.top])
       (λk=>_) (λk=>Jt (els s) (els s).length ((j+1:Nat):Int)=Jt (els s) (8-k) (Ln (els s) ((j:Int)+1) k)) ?_ rfl ?_ ?_ ?_
      ·rfl
      ·rw[c8n];rfl
      ·intro k hk hI2;have hk8:((k:Int)<8):=om;rw[show 8-k=(7-k)+1 by omega]at hI2;rw[show Ln (els s) ((j:Int)+1) (k+1)=(Dd (els s) (Ln (els s) ((j:Int)+1) k)).up from rfl,show 8-(k+1)=7-k by omega];generalize Ln (els s) ((j:Int)+1) k=a at *;by_cases a1:0<a
       ·by_cases a2:a<8
        ·rw[Jt,if_pos ⟨a1,by omega⟩]at hI2;have hna:(els s).getD a.toNat default=Dd (els s) a:=rfl
         simp(disch:=try exact dq)only[tx,seval,hk8,a1,a2,hna,c8,Aa,Ao,e2b];exact⟨rfl,hI2⟩
        ·rw[ai6 (els s) (7-k+1) a om]at hI2;have az:¬ a=0:=om;have hf:E6 (els s) (j+1)=false:=(by rw[hta,hI2];simp[az]);rw[hbad hf]
         simp(disch:=try exact dq)only[tx,seval,hk8,a1,a2,az,c8,e2b]
       ·rw[ai6 (els s) (7-k+1) a om]at hI2;by_cases az:a=0
        ·have ht:E6 (els s) (j+1)=true:=by rw[hta,hI2];simp[az]
         simp(disch:=try exact dq)only[tx,seval,hk8,a1,az,c8,e2b]
         first|exact hok ht|exact⟨rfl,hok ht⟩
        ·have hf:E6 (els s) (j+1)=false:=(by rw[hta,hI2];simp[az]);rw[hbad hf]
         simp(disch:=try exact dq)only[tx,seval,hk8,a1,az,c8,e2b]
      ·intro hI2;rw[show 8-8=0 from rfl,Jt]at hI2;generalize Ln (els s) ((j:Int)+1) 8=a at *;by_cases az:a=0
       ·have ht:E6 (els s) (j+1)=true:=by rw[hta,hI2];simp[az]
        simp(disch:=try exact dq)only[tx,seval,e2k,az,c8,e2b]
        first|exact hok ht|exact⟨rfl,hok ht⟩
       ·have hf:E6 (els s) (j+1)=false:=(by rw[hta,hI2];simp[az]);rw[hbad hf]
        simp(disch:=try exact dq)only[tx,seval,e2k,az,c8,e2b]
    by_cases k2:x.kind=2
    ·by_cases b1:x.bad=0
     case neg=>
      have:Hh x=false:=(by unfold Hh;rw[e0z];simp only[ne_eq,e1v,e14,e0r];omega);have hf:E6 (els s) (j+1)=false:=(by rw[hta];rw[this];rfl);rw[hbad hf]
      simp(disch:=try exact dq)only[tx,seval,hj',u1,u2,c8,Aa,Ao,hx,k0,k3,k1,k2,b1,e2b]
     by_cases b2:x.body=[]
     case neg=>
      have:Hh x=false:=(by unfold Hh;rw[e0z];simp only[ne_eq,e1v,e14,e0r];rintro(h|h);omega;exact b2 h.2);have hf:E6 (els s) (j+1)=false:=(by rw[hta];rw[this];rfl);rw[hbad hf]
      simp(disch:=try exact dq)only[tx,seval,hj',u1,u2,c8,Aa,Ao,hx,k0,k3,k1,k2,b1,b2,e2b]
     have hkt:Hh x=true:=(by unfold Hh;simp only[e1v,e14,e0r];exact .inr ⟨⟨k2,b1⟩,b2⟩);rw[hkt,e2e]at hta;cases hnam:mayName x.name with
     |false=>
       rw[hnam]at hN hta;have hf:E6 (els s) (j+1)=false:=(by rw[hta];rfl);rw[hbad hf]
       simp(disch:=try exact dq)only[tx,seval,hj',u1,u2,c8,Aa,Ao,hx,k0,k3,k1,k2,b1,b2,hN,e2b]
     |true=>
     rw[hnam,e2e]at hta;rw[hnam]at hN;cases hfol:folderT (els s) x.up with
     |false=>
       rw[hfol]at hF hta;have hf:E6 (els s) (j+1)=false:=(by rw[hta];rfl);rw[hbad hf]
       simp(disch:=try exact dq)only[tx,seval,hj',u1,u2,c8,Aa,Ao,hx,k0,k3,k1,k2,b1,b2,hN,hF,e2b]
     |true=>
     rw[hfol,e2e]at hta;rw[hfol]at hF;have hbo:¬ 128<x.body.length:=(by rw[b2];decide);have Ur:decide (x.body.length<=128)=true:=(by simp;omega);rw[Ur,e2e]at hta
     simp(disch:=try exact dq)only[tx,seval,hj',u1,u2,c8,Aa,Ao,hx,k0,k3,k1,k2,b1,b2,hN,hF,hbo,e2b];have hff:N6 (els s) (j+1)=true↔∀ m,0<m->m<j+1->¬ (((els s).getD m default).kind≠0/\((els s).getD m default).kind≠3/\((els s).getD m default).up=x.up/\((els s).getD m default).name=x.name):=by
      unfold N6;rw[hx];simp only[e16,e24,e1v,e0w,e0r,dy7];constructor
      ·rintro h m h0 hm ⟨a,b,c,d⟩;rcases h m hm with (((h|h)|h)|h)|h
       ·omega
       ·exact a h
       ·exact b h
       ·exact h c
       ·exact h d
      ·intro h m hm;by_cases m0:m=0
       ·exact .inl (.inl (.inl (.inl m0)))
       have:=h m om hm;by_cases a:((els s).getD m default).kind=0
       ·exact .inl (.inl (.inl (.inr a)))
       by_cases b:((els s).getD m default).kind=3
       ·exact .inl (.inl (.inr b))
       by_cases c:((els s).getD m default).up=x.up
       ·exact .inr (λd=>this ⟨a,b,c,d⟩)
       ·exact .inl (.inr c)
     generalize hr1:Ad _ _ _=r1;refine G7 (Q:=λr=>Rd _ _ _ _ (F3 _ _ (Be _ _ (B0 _ (Be _ _ (B0 _ r)))))) hr1 j
      (λk=>[A0 Ao s,.top,.int .i64 ((j:Int)+1),.ptr 0 0 0 1,.int .i64 ((k:Int)+1),.top,.top,.top,.top,.top,.top,.top,.top])
      (λk=>_) (λk=>∀ m,0<m->m<k+1->¬ (((els s).getD m default).kind≠0/\((els s).getD m default).kind≠3/\((els s).getD m default).up=x.up/\((els s).getD m default).name=x.name)) ?_ rfl ?_ ?_ ?_
     ·rfl
     ·intro m h0 hm;omega
     ·intro k hk hI1;have hk':((k:Int)+1<(j:Int)+1):=om;have v1:((k:Int)+1).toNat=k+1:=om;have hk8:((k:Int)+1<8):=om;have hfk:¬ (((els s).getD (k+1) default).kind≠0/\((els s).getD (k+1) default).kind≠3/\((els s).getD (k+1) default).up=x.up/\((els s).getD (k+1) default).name=x.name)->∀ m,0<m->m<k+1+1->¬ (((els s).getD m default).kind≠0/\((els s).getD m default).kind≠3/\((els s).getD m default).up=x.up/\((els s).getD m default).name=x.name):=λh m h0 hm=>by
       rcases e2l m (k+1)with h2|h2
       ·exact hI1 m h0 h2
       ·rw[show m=k+1 by omega];exact h
      have hfn:=λh:_/\_/\_/\_=>λhf:N6 (els s) (j+1)=true=>hff.1 hf (k+1) om om h;generalize hy:(els s).getD (k+1) default=y at hfk hfn
      simp(disch:=try exact dq)only[tx,seval,hk',hk8,v1,hy,c8,Aa,Ao,e2b];refine⟨λh=>?_,λh=>⟨rfl,hfk (λc=>h ?_)⟩⟩
      ·have hf:E6 (els s) (j+1)=false:=by
        rw[hta,e0z];intro hc;simp only[e14]at hc;refine hfn ?_ hc.1;simp only[e14,e0r,e0w,dy7]at h;exact⟨h.1.1.1,h.1.1.2,h.1.2,h.2⟩
       rw[hbad hf]
      ·simp only[e14,e0r,e0w,dy7];exact⟨⟨⟨c.1,c.2.1⟩,c.2.2.1⟩,c.2.2.2⟩
     ·intro hI1;have hfr:=hff.2 hI1;rw[hfr,e2e]at hta
      simp(disch:=try exact dq)only[tx,seval,e2k,c8,Aa,Ao,e2b];generalize hr2:Ad _ _ _=r2;refine G7 (Q:=λr=>Rd _ _ _ _ (F3 _ _ (Be _ _ (B0 _ (Be _ _ (B0 _ r)))))) hr2 8
       (λk=>[A0 Ao s,.top,.int .i64 ((j:Int)+1),.top,.top,.int .i64 (Ln (els s) ((j:Int)+1) k),.int .i64 k,.top,.top,.top,.top,.top,.top])
       (λk=>_) (λk=>Jt (els s) (els s).length ((j+1:Nat):Int)=Jt (els s) (8-k) (Ln (els s) ((j:Int)+1) k)) ?_ rfl ?_ ?_ ?_
      ·rfl
      ·rw[c8n];rfl
      ·intro k hk hI2;have hk8:((k:Int)<8):=om;rw[show 8-k=(7-k)+1 by omega]at hI2;rw[show Ln (els s) ((j:Int)+1) (k+1)=(Dd (els s) (Ln (els s) ((j:Int)+1) k)).up from rfl,show 8-(k+1)=7-k by omega];generalize Ln (els s) ((j:Int)+1) k=a at *;by_cases a1:0<a
       ·by_cases a2:a<8
        ·rw[Jt,if_pos ⟨a1,by omega⟩]at hI2;have hna:(els s).getD a.toNat default=Dd (els s) a:=rfl
         simp(disch:=try exact dq)only[tx,seval,hk8,a1,a2,hna,c8,Aa,Ao,e2b];exact⟨rfl,hI2⟩
        ·rw[ai6 (els s) (7-k+1) a om]at hI2;have az:¬ a=0:=om;have hf:E6 (els s) (j+1)=false:=(by rw[hta,hI2];simp[az]);rw[hbad hf]
         simp(disch:=try exact dq)only[tx,seval,hk8,a1,a2,az,c8,e2b]
       ·rw[ai6 (els s) (7-k+1) a om]at hI2;by_cases az:a=0
        ·have ht:E6 (els s) (j+1)=true:=by rw[hta,hI2];simp[az]
         simp(disch:=try exact dq)only[tx,seval,hk8,a1,az,c8,e2b]
         first|exact hok ht|exact⟨rfl,hok ht⟩
        ·have hf:E6 (els s) (j+1)=false:=(by rw[hta,hI2];simp[az]);rw[hbad hf]
         simp(disch:=try exact dq)only[tx,seval,hk8,a1,az,c8,e2b]
      ·intro hI2;rw[show 8-8=0 from rfl,Jt]at hI2;generalize Ln (els s) ((j:Int)+1) 8=a at *;by_cases az:a=0
       ·have ht:E6 (els s) (j+1)=true:=by rw[hta,hI2];simp[az]
        simp(disch:=try exact dq)only[tx,seval,e2k,az,c8,e2b]
        first|exact hok ht|exact⟨rfl,hok ht⟩
       ·have hf:E6 (els s) (j+1)=false:=(by rw[hta,hI2];simp[az]);rw[hbad hf]
        simp(disch:=try exact dq)only[tx,seval,e2k,az,c8,e2b]
    ·have:Hh x=false:=(by unfold Hh;simp[k1,k2]);rw[this]at hta;rw[hbad (by rw[hta];rfl)]
     simp(disch:=try exact dq)only[tx,seval,hj',u1,c8,Aa,Ao,hx,k0,k1,k2,k3,e2b]
   ·intro hI;have ht:H7 (els s)=true:=by
     unfold H7;rw[c8n,cf];simp only[decide_true,e2e,e16,e24,e1v,e0r];intro i hi;rcases e0j i with h|h
     ·exact .inl h
     ·exact .inr (hI i h om)
    rw[ht]
    simp(disch:=try exact dq)only[tx,seval,c8,e2b]
  ·have hd0:(!(decide (((els s).getD 0 default).kind=2)&&(decide (((els s).getD 0 default).up=0)&&(decide (((els s).getD 0 default).name=[])&&(decide (((els s).getD 0 default).body=[])&&decide (((els s).getD 0 default).bad=0))))))=true:=by rw[e0,e1y cf];rfl
   simp(disch:=try exact dq)only[tx,seval,Xq,c8,h00,Aa,Ao,Int.toNat_zero,hd0];unfold H7;rw[e1y cf];simp
 ·simp(disch:=try exact dq)only[tx,seval,Xq,c8];have:¬ (els s).length=8:=om;unfold H7;simp[this]
theorem c90(s:List Node)(h:Vb s=false):Cx s=s:=by
 have h1:∀ x∈s,x.kind≠3/\x.bad=0:=by
  intro x hx;unfold Vb at h;rw[Bool.or_eq_false_iff]at h;constructor
  ·intro hk;have:(s.any λx=>decide (x.kind=3))=true:=List.any_eq_true.2 ⟨x,hx,by simp[hk]⟩;rw[this]at h;cases h.1
  ·refine dx9 λhk=>?_;have:(s.any λx=> !decide (x.bad=0))=true:=List.any_eq_true.2 ⟨x,hx,by simp[hk]⟩;rw[this]at h;cases h.2
 have h2:∀ n,n<=s.length->D1 s n=s:=by
  intro n
  induction n with
  |zero=>intro _;rfl
  |succ n ih=>
    intro hn;rw[D1,ih om];have hm:s.getD n default∈s:=by rw[dx5,dy1 (show n<s.length by omega)];exact e1c _
    have:=h1 _ hm;unfold O2;rw[if_neg om,if_neg];rintro⟨e,_⟩;rw[e]at this;exact this.1 rfl
 exact h2 _ (e2z _)
theorem c9d(s:List Node):(H7 s&&!Vb s)=mayNodes s:=by
 rw[e1x,e14];constructor
 ·rintro⟨h1,h2⟩;have hb:Vb s=false:=by simpa using h2
  rw[<-c90 s hb,aq5];exact h1
 ·intro h;refine⟨c96 h,?_⟩;have hm:=b7h h;rw[e0w];unfold Vb;rw[Bool.or_eq_false_iff];unfold mayNodes at h;simp only[e14,e0r,e16,e1v]at h;have hx:∀ x∈s,x.kind≠3/\x.bad=0:=by
   intro x hx;obtain⟨i,hi,rfl⟩:=e07.1 hx;rcases e0j i with h0|h0
   ·subst h0;have e:s[0]=foldN:=by
     have:=h.1.1.2;rw[dx5,dy1 hi]at this;exact this
    rw[e];exact⟨by decide,rfl⟩
   ·have hd:s[i]∈s.drop 1:=by
     rw[e07];exact⟨i-1,by rw[e19];omega,by rw[List.getElem_drop];congr 1;omega⟩
    rcases h.1.2 _ hd with e|e
    ·rw[e];exact⟨by decide,rfl⟩
    ·unfold Ih at e;simp only[e14,e0r]at e;refine⟨?_,e.1.1.1⟩;intro h3
     have:=e.2;rw[if_neg om]at this;simp only[e14,e0r]at this;omega
  constructor
  ·rw[e0z];intro ha;obtain⟨x,hm,hk⟩:=List.any_eq_true.1 ha
   exact(hx x hm).1 (e11 hk)
  ·rw[e0z];intro ha;obtain⟨x,hm,hk⟩:=List.any_eq_true.1 ha;rw[(hx x hm).2]at hk;exact absurd hk (by decide)
theorem c9j(s:Sl Node)(hs:(els s).length<=1000000)(hnm:∀ x∈els s,x.name.length<=1000000)(hup:∀ x∈els s,-1000000000000<=x.up/\x.up<=1000000000000)(H:AH):K tab A5 A4 37 [A0 Ao s] H=some (.bool (mayNodes (els s)),H):=by
 refine Ah l37 rfl (by simp[Ac,A8,Ap]) rfl ?_ H;have h1:=b3s s hs hnm hup;have h2:=db4 s hs;rw[<-c9d];cases c:H7 (els s)<;>rw[c]at h1
 all_goals simp(disch:=try exact dq)only[tx,seval,g37,h1,h2,e29,e2e]
theorem at9(l m:Sl Ptr)(hl:(els l).length<=1000000)(hm:(els m).length<=1000000)(H:AH):K tab A5 A4 35 [A0 Ae l,A0 Ae m] H=some (.bool (decide (els l=els m)),H):=by
 refine Ah l35 rfl (by simp[Ac,A8,Ap]) rfl ?_ H;by_cases c:((els l).length:Int)=(els m).length
 ·simp(disch:=try exact dq)only[tx,seval,g35,c];generalize hr:Ad _ _ _=r;refine B7 hr (els l).length (λj=>[A0 Ae l,A0 Ae m,.top,.int .i64 j])
   (λj=>[]) (λj=>(els l).take j=(els m).take j) ?_ ?_ ?_ ?_ ?_
  ·rfl
  ·rfl
  ·rfl
  ·intro j hj hI;have hj':((j:Int)<((els l).length:Int)):=om;have hj2:((j:Int)<((els m).length:Int)):=om;rw[En hj,En (show j<(els m).length by omega),hI];have hne:(els l).getD j default≠(els m).getD j default->els l≠els m:=λh e=>h (by rw[e]);generalize hx:(els l).getD j default=x at *;generalize hy:(els m).getD j default=y at *
   simp(disch:=try exact dq)only[tx,seval,hj',hj2,Aa,Ae,e2b,hx,hy];have hch:(decide (x.addr=y.addr)&&(decide (x.birth=y.birth)&&(decide ((x.sum.a.toNat:Int)=y.sum.a.toNat)&&(decide ((x.sum.b.toNat:Int)=y.sum.b.toNat)&&(decide ((x.sum.c.toNat:Int)=y.sum.c.toNat)&&decide ((x.sum.d.toNat:Int)=y.sum.d.toNat))))))=decide (x=y):=by
    obtain⟨a,b,⟨c1,c2,c3,c4⟩⟩:=x;obtain⟨a',b',⟨d1,d2,d3,d4⟩⟩:=y;rw[e1x];simp only[e14,e0r,Ptr.mk.injEq,Sum.mk.injEq,Int.natCast_inj,UInt32.toNat_inj]
   rw[hch];by_cases hxy:x=y
   ·subst hxy;exact⟨λh=>absurd h (by simp),λ_=>⟨rfl,rfl⟩⟩
   ·have hf:=hne hxy;exact⟨λ_=>by simp[hf],λh=>(h (by simp[hxy])).elim⟩
  ·intro hI;rw[e1g,dz1 om]at hI
   simp(disch:=try exact dq)only[tx,seval,e2k,c];simp[hI]
 ·simp(disch:=try exact dq)only[tx,seval,g35,c];have hne:¬ els l=els m:=λe=>c (by rw[e]);simp[hne]
theorem b0w(n:Int):∀ (l:List Dset) (j:Nat),j<=l.length->(∀ i,i<j->(l.getD i default).id≠n)->F7 l n=if F7 (l.drop j) n<0 then -1 else j+F7 (l.drop j) n
 |l,0,_,_=>by
   have:=a2v l n;rw[e23];split<;>omega
 |[],j+1,h,_=>by simp at h
 |d::l,j+1,h,hb=>by
   have h0:=hb 0 om;rw[List.getD_cons_zero]at h0;have ih:=b0w n l j (by simpa using h) λi hi=>(by have:=hb (i+1) om;rwa [e0d]at this);rw[F7,if_neg h0,e0c,ih]
   have:=a2v (l.drop j) n;by_cases c:F7 (l.drop j) n<0
   ·simp[c]
   ·rw[if_neg c,if_neg c,if_neg om];omega
theorem dd4(l:Sl Dset)(hl:(els l).length<=1000000)(n:Int)(H:AH):K tab A5 A4 75 [A0 Ak l,.int .i64 n] H=some (.int .i64 (F7 (els l) n),H):=by
 refine Ah l75 rfl (by simp[Ac,A8,Ap]) rfl ?_ H
 simp(disch:=try exact dq)only[tx,seval,g75];generalize hr:Ad _ _ _=r;refine B7 hr (els l).length (λj=>[A0 Ak l,.int .i64 n,.top,.int .i64 j])
  (λj=>[]) (λj=>∀ i,i<j->((els l).getD i default).id≠n) ?_ ?_ ?_ ?_ ?_
 ·rfl
 ·rfl
 ·exact λi h=>absurd h (e1z i)
 ·intro j hj hI;have hj':((j:Int)<((els l).length:Int)):=om;have hf:=b0w n (els l) j om hI;rw[Ew hj,F7]at hf;have hnx:((els l).getD j default).id≠n->∀ i,i<j+1->((els l).getD i default).id≠n:=λh i hi=>by
   rcases e2l i j with h2|h2
   ·exact hI i h2
   ·rw[show i=j by omega];exact h
  generalize hx:(els l).getD j default=x at hf hnx;by_cases c:x.id=n
  ·rw[if_pos c,if_neg om,Int.add_zero]at hf;rw[hf]
   simp(disch:=try exact dq)only[tx,seval,hj',Aa,Ak,hx,c,e2b]
  ·simp(disch:=try exact dq)only[tx,seval,hj',Aa,Ak,hx,c,e2b];exact⟨rfl,hnx c⟩
 ·intro hI;have hf:=b0w n (els l) (els l).length (e2z _) hI;rw[e1h,F7,if_pos om]at hf;rw[hf]
  simp(disch:=try exact dq)only[tx,seval,e2k]
def J2(d:Dset):List AV:=[.int .i64 d.id,.int .i64 d.kind,.int .i64 d.origin,.int .i64 d.quota,A0 Ao d.files]
theorem bc1(l:Sl Dset)(hl:(els l).length<=1000000)(n:Int)(H:AH):K tab A5 A4 38 [A0 Ak l,.int .i64 n] H=some (.tuple [.agg (J2 ((getA (els l) n).getD Gp)),.bool (getA (els l) n).isSome],H):=by
 refine Ah l38 rfl (by simp[Ac,A8,Ap]) (by simp[J2,Ac,A8,Ap]) ?_ H;have h:=dd4 l hl n;have hlt:=a2v (els l) n;unfold getA;by_cases c:F7 (els l) n<0
 ·rw[if_neg om]
  simp(disch:=try exact dq)only[tx,seval,g38,h,c];rfl
 ·rw[if_pos om];generalize F7 (els l) n=i at *;generalize hx:(els l).getD i.toNat default=x at *
  simp(disch:=try exact dq)only[tx,seval,g38,h,c,Aa,Ak,hx];rfl
def FilesOk(s:List Node):Prop:=s.length<=1000000/\∀ x∈s,x.name.length<=1000000/\ -1000000000000<=x.up/\x.up<=1000000000000
theorem ay1(l:Sl Dset)(hl:(els l).length<=1000000)(hf:∀ d∈els l,FilesOk (els d.files))(H:AH):K tab A5 A4 11 [A0 Ak l] H=some (.bool (Kx (els l)),H):=by
 refine Ah l11 rfl (by simp[Ac,A8,Ap]) rfl ?_ H;by_cases c8:8<((els l).length:Int)
 ·have:Kx (els l)=false:=by unfold Kx;rw[show decide ((els l).length<=8)=false by simp;omega];rfl
  rw[this]
  simp(disch:=try exact dq)only[tx,seval,g11,c8]
 simp(disch:=try exact dq)only[tx,seval,g11,c8];generalize hr:Ad _ _ _=r;have hmem:∀ j,j<(els l).length->(els l).getD j default∈els l:=λj hj=>by
  rw[dx5,dy1 hj];exact e1c _
 refine B7 hr (els l).length
  (λj=>[A0 Ak l,.top,.int .i64 j,.top,.top,.top,.top,.top,.top,.top,.top,.top,.top,.top,.top,.top,.top,.top,.top,.top,.top])
  (λj=>[]) (λj=>∀ i,i<j->D0 (els l) i=true) ?_ ?_ ?_ ?_ ?_
 ·rfl
 ·rfl
 ·exact λi h=>absurd h (e1z i)
 ·intro j hj hI;have hj':((j:Int)<((els l).length:Int)):=om;have u1:(((j:Int)-1)).toNat=j-1:=om;have hok:D0 (els l) j=true->∀ i,i<j+1->D0 (els l) i=true:=λh i hi=>by
   rcases e2l i j with h2|h2
   ·exact hI i h2
   ·rw[show i=j by omega];exact h
  have hbad:D0 (els l) j=false->Kx (els l)=false:=λh=>by
   unfold Kx;rw[e0z];intro hc;simp only[e14,e16,e24]at hc
   have:=hc.2.1 j hj;rw[h]at this;cases this
  have hrow:D0 (els l) j=true↔(1<=((els l).getD j default).id/\((els l).getD j default).id<=65535/\(j=0\/((els l).getD (j-1) default).id<((els l).getD j default).id)/\mayNodes (els ((els l).getD j default).files)=true/\0<=((els l).getD j default).quota/\((els l).getD j default).quota<=255/\(if((els l).getD j default).kind=2 then((els l).getD j default).quota=0/\Hi (els l) ((els l).getD j default).origin 1=true else if((els l).getD j default).kind=1 then((els l).getD j default).origin=0\/Hi (els l) ((els l).getD j default).origin 2=true else False)):=by
   unfold D0;simp only[e14,e1v,e0r];constructor
   ·rintro⟨⟨⟨⟨⟨⟨a,b⟩,c⟩,d⟩,e⟩,f⟩,g⟩;refine⟨a,b,c,d,e,f,?_⟩;split at g
    ·rw[if_pos (by assumption)];simpa using g
    ·split at g
     ·rw[if_neg (by assumption),if_pos (by assumption)];simpa using g
     ·cases g
   ·rintro⟨a,b,c,d,e,f,g⟩;refine⟨⟨⟨⟨⟨⟨a,b⟩,c⟩,d⟩,e⟩,f⟩,?_⟩;split at g
    ·rw[if_pos (by assumption)];simpa using g
    ·split at g
     ·rw[if_neg (by assumption),if_pos (by assumption)];simpa using g
     ·cases g
  have hfl:=hf _ (hmem j hj);have hM:=c9j ((els l).getD j default).files hfl.1 (λx hx=>(hfl.2 x hx).1) (λx hx=>(hfl.2 x hx).2);have hG:=bc1 l hl ((els l).getD j default).origin;generalize hx:(els l).getD j default=x at *;generalize hy:(els l).getD (j-1) default=y at *;have i1:=b07 x.id;by_cases b1:x.id<1
  ·have hmf:D0 (els l) j=false:=e0z.2 (λh=>by have:=hrow.1 h;(try simp only[e00,e14,e0r,dy7]at *);omega);rw[hbad hmf]
   simp(disch:=try exact dq)only[tx,seval,hj',Aa,Ak,hx,hy,u1,e2b,c8,b1]
  cases e1:(decide (0<=x.id)&&decide (x.id<=65535))with
  |false=>
    rw[e1]at i1;have hmf:D0 (els l) j=false:=e0z.2 (λh=>by have:=hrow.1 h;(try simp only[e00,e14,e0r,dy7]at *);omega);rw[hbad hmf]
    simp(disch:=try exact dq)only[tx,seval,hj',Aa,Ak,hx,hy,u1,e2b,c8,b1,i1]
  |true=>
    rw[e1]at i1;by_cases j0:0<(j:Int)
    ·by_cases c4:x.id<=y.id
     ·have hmf:D0 (els l) j=false:=e0z.2 (λh=>by have:=hrow.1 h;(try simp only[e00,e14,e0r,dy7]at *);omega);rw[hbad hmf]
      simp(disch:=try exact dq)only[tx,seval,hj',Aa,Ak,hx,hy,u1,e2b,c8,b1,i1,j0,c4]
     cases cM:mayNodes (els x.files)with
     |false=>
       rw[cM]at hM;have hmf:D0 (els l) j=false:=e0z.2 (λh=>by have:=(hrow.1 h).2.2.2.1;rw[cM]at this;cases this);rw[hbad hmf]
       simp(disch:=try exact dq)only[tx,seval,hj',Aa,Ak,hx,hy,u1,e2b,c8,b1,i1,j0,c4,hM]
     |true=>
       rw[cM]at hM;by_cases q0:x.quota<0
       ·have hmf:D0 (els l) j=false:=e0z.2 (λh=>by have:=hrow.1 h;(try simp only[e00,e14,e0r,dy7]at *);omega);rw[hbad hmf]
        simp(disch:=try exact dq)only[tx,seval,hj',Aa,Ak,hx,hy,u1,e2b,c8,b1,i1,j0,c4,hM,q0]
       by_cases q1:255<x.quota
       ·have hmf:D0 (els l) j=false:=e0z.2 (λh=>by have:=hrow.1 h;(try simp only[e00,e14,e0r,dy7]at *);omega);rw[hbad hmf]
        simp(disch:=try exact dq)only[tx,seval,hj',Aa,Ak,hx,hy,u1,e2b,c8,b1,i1,j0,c4,hM,q0,q1]
       by_cases k2:x.kind=2
       ·cases hgo:getA (els l) x.origin with
        |none=>
          rw[hgo]at hG;simp only[e1i,e0h,J2,Gp]at hG;by_cases z0:x.quota=0
          ·have hmf:D0 (els l) j=false:=e0z.2 (λh=>by have:=(hrow.1 h).2.2.2.2.2.2;rw[if_pos k2]at this;have h2:=this.2;unfold Hi at h2;rw[hgo]at h2;cases h2);rw[hbad hmf]
           simp(disch:=try exact dq)only[tx,seval,hj',Aa,Ak,hx,hy,u1,e2b,c8,b1,i1,j0,c4,hM,q0,q1,k2,z0,hG]
          ·have hmf:D0 (els l) j=false:=e0z.2 (λh=>by have:=(hrow.1 h).2.2.2.2.2.2;rw[if_pos k2]at this;have h2:=this.2;unfold Hi at h2;rw[hgo]at h2;cases h2);rw[hbad hmf]
           simp(disch:=try exact dq)only[tx,seval,hj',Aa,Ak,hx,hy,u1,e2b,c8,b1,i1,j0,c4,hM,q0,q1,k2,z0,hG]
        |some o=>
          rw[hgo]at hG;simp only[e13,e0i,J2]at hG;by_cases z0:x.quota=0
          case neg=>
           have hmf:D0 (els l) j=false:=e0z.2 (λh=>by have:=(hrow.1 h).2.2.2.2.2.2;rw[if_pos k2]at this;exact z0 this.1);rw[hbad hmf]
           simp(disch:=try exact dq)only[tx,seval,hj',Aa,Ak,hx,hy,u1,e2b,c8,b1,i1,j0,c4,hM,q0,q1,k2,z0,hG]
          by_cases o1:o.kind=1
          ·have hmt:D0 (els l) j=true:=hrow.2 ⟨by omega,by simp only[e14,e0r]at e1;omega,.inr om,cM,by omega,by omega,by rw[if_pos k2];exact⟨z0,Jo.2 ⟨o,hgo,o1⟩⟩⟩
           simp(disch:=try exact dq)only[tx,seval,hj',Aa,Ak,hx,hy,u1,e2b,c8,b1,i1,j0,c4,hM,q0,q1,k2,z0,hG,o1];exact⟨rfl,hok hmt⟩
          ·have hmf:D0 (els l) j=false:=e0z.2 (λh=>by have:=(hrow.1 h).2.2.2.2.2.2;rw[if_pos k2]at this;obtain⟨o',h1,h2⟩:=Jo.1 this.2;rw[hgo]at h1;cases h1;exact o1 h2);rw[hbad hmf]
           simp(disch:=try exact dq)only[tx,seval,hj',Aa,Ak,hx,hy,u1,e2b,c8,b1,i1,j0,c4,hM,q0,q1,k2,z0,hG,o1]
       by_cases k1:x.kind=1
       ·cases hgo:getA (els l) x.origin with
        |none=>
          rw[hgo]at hG;simp only[e1i,e0h,J2,Gp]at hG;by_cases z0:x.origin=0
          ·have hmt:D0 (els l) j=true:=hrow.2 ⟨by omega,by simp only[e14,e0r]at e1;omega,.inr om,cM,by omega,by omega,by rw[if_neg k2,if_pos k1];exact .inl z0⟩;rw[z0]at hG
           simp(disch:=try exact dq)only[tx,seval,hj',Aa,Ak,hx,hy,u1,e2b,c8,b1,i1,j0,c4,hM,q0,q1,k1,hG,z0];exact⟨rfl,hok hmt⟩
          ·have hmf:D0 (els l) j=false:=e0z.2 (λh=>by have:=(hrow.1 h).2.2.2.2.2.2;rw[if_neg k2,if_pos k1]at this;rcases this with h1|h1;exact z0 h1;unfold Hi at h1;rw[hgo]at h1;cases h1);rw[hbad hmf]
           simp(disch:=try exact dq)only[tx,seval,hj',Aa,Ak,hx,hy,u1,e2b,c8,b1,i1,j0,c4,hM,q0,q1,k1,hG,z0]
        |some o=>
          rw[hgo]at hG;simp only[e13,e0i,J2]at hG;by_cases z0:x.origin=0
          ·have hmt:D0 (els l) j=true:=hrow.2 ⟨by omega,by simp only[e14,e0r]at e1;omega,.inr om,cM,by omega,by omega,by rw[if_neg k2,if_pos k1];exact .inl z0⟩;rw[z0]at hG
           simp(disch:=try exact dq)only[tx,seval,hj',Aa,Ak,hx,hy,u1,e2b,c8,b1,i1,j0,c4,hM,q0,q1,k1,hG,z0];exact⟨rfl,hok hmt⟩
          by_cases o2:o.kind=2
          ·have hmt:D0 (els l) j=true:=hrow.2 ⟨by omega,by simp only[e14,e0r]at e1;omega,.inr om,cM,by omega,by omega,by rw[if_neg k2,if_pos k1];exact .inr (Jo.2 ⟨o,hgo,o2⟩)⟩
           simp(disch:=try exact dq)only[tx,seval,hj',Aa,Ak,hx,hy,u1,e2b,c8,b1,i1,j0,c4,hM,q0,q1,k1,hG,z0,o2];exact⟨rfl,hok hmt⟩
          ·have hmf:D0 (els l) j=false:=e0z.2 (λh=>by have:=(hrow.1 h).2.2.2.2.2.2;rw[if_neg k2,if_pos k1]at this;rcases this with h1|h1;exact z0 h1;obtain⟨o',h1,h2⟩:=Jo.1 h1;rw[hgo]at h1;cases h1;exact o2 h2);rw[hbad hmf]
           simp(disch:=try exact dq)only[tx,seval,hj',Aa,Ak,hx,hy,u1,e2b,c8,b1,i1,j0,c4,hM,q0,q1,k1,hG,z0,o2]
       cases hgo:getA (els l) x.origin with
       |none=>
         rw[hgo]at hG;simp only[e1i,e0h,J2,Gp]at hG;have hmf:D0 (els l) j=false:=e0z.2 (λh=>by have:=(hrow.1 h).2.2.2.2.2.2;rw[if_neg k2,if_neg k1]at this;exact this);rw[hbad hmf]
         simp(disch:=try exact dq)only[tx,seval,hj',Aa,Ak,hx,hy,u1,e2b,c8,b1,i1,j0,c4,hM,q0,q1,k1,k2,hG]
       |some o=>
         rw[hgo]at hG;simp only[e13,e0i,J2]at hG;have hmf:D0 (els l) j=false:=e0z.2 (λh=>by have:=(hrow.1 h).2.2.2.2.2.2;rw[if_neg k2,if_neg k1]at this;exact this);rw[hbad hmf]
         simp(disch:=try exact dq)only[tx,seval,hj',Aa,Ak,hx,hy,u1,e2b,c8,b1,i1,j0,c4,hM,q0,q1,k1,k2,hG]
    ·cases cM:mayNodes (els x.files)with
     |false=>
       rw[cM]at hM;have hmf:D0 (els l) j=false:=e0z.2 (λh=>by have:=(hrow.1 h).2.2.2.1;rw[cM]at this;cases this);rw[hbad hmf]
       simp(disch:=try exact dq)only[tx,seval,hj',Aa,Ak,hx,hy,u1,e2b,c8,b1,i1,j0,hM]
     |true=>
       rw[cM]at hM;by_cases q0:x.quota<0
       ·have hmf:D0 (els l) j=false:=e0z.2 (λh=>by have:=hrow.1 h;(try simp only[e00,e14,e0r,dy7]at *);omega);rw[hbad hmf]
        simp(disch:=try exact dq)only[tx,seval,hj',Aa,Ak,hx,hy,u1,e2b,c8,b1,i1,j0,hM,q0]
       by_cases q1:255<x.quota
       ·have hmf:D0 (els l) j=false:=e0z.2 (λh=>by have:=hrow.1 h;(try simp only[e00,e14,e0r,dy7]at *);omega);rw[hbad hmf]
        simp(disch:=try exact dq)only[tx,seval,hj',Aa,Ak,hx,hy,u1,e2b,c8,b1,i1,j0,hM,q0,q1]
       by_cases k2:x.kind=2
       ·cases hgo:getA (els l) x.origin with
        |none=>
          rw[hgo]at hG;simp only[e1i,e0h,J2,Gp]at hG;by_cases z0:x.quota=0
          ·have hmf:D0 (els l) j=false:=e0z.2 (λh=>by have:=(hrow.1 h).2.2.2.2.2.2;rw[if_pos k2]at this;have h2:=this.2;unfold Hi at h2;rw[hgo]at h2;cases h2);rw[hbad hmf]
           simp(disch:=try exact dq)only[tx,seval,hj',Aa,Ak,hx,hy,u1,e2b,c8,b1,i1,j0,hM,q0,q1,k2,z0,hG]
          ·have hmf:D0 (els l) j=false:=e0z.2 (λh=>by have:=(hrow.1 h).2.2.2.2.2.2;rw[if_pos k2]at this;have h2:=this.2;unfold Hi at h2;rw[hgo]at h2;cases h2);rw[hbad hmf]
           simp(disch:=try exact dq)only[tx,seval,hj',Aa,Ak,hx,hy,u1,e2b,c8,b1,i1,j0,hM,q0,q1,k2,z0,hG]
        |some o=>
          rw[hgo]at hG;simp only[e13,e0i,J2]at hG;by_cases z0:x.quota=0
          case neg=>
           have hmf:D0 (els l) j=false:=e0z.2 (λh=>by have:=(hrow.1 h).2.2.2.2.2.2;rw[if_pos k2]at this;exact z0 this.1);rw[hbad hmf]
           simp(disch:=try exact dq)only[tx,seval,hj',Aa,Ak,hx,hy,u1,e2b,c8,b1,i1,j0,hM,q0,q1,k2,z0,hG]
          by_cases o1:o.kind=1
          ·have hmt:D0 (els l) j=true:=hrow.2 ⟨by omega,by simp only[e14,e0r]at e1;omega,.inl om,cM,by omega,by omega,by rw[if_pos k2];exact⟨z0,Jo.2 ⟨o,hgo,o1⟩⟩⟩
           simp(disch:=try exact dq)only[tx,seval,hj',Aa,Ak,hx,hy,u1,e2b,c8,b1,i1,j0,hM,q0,q1,k2,z0,hG,o1];exact⟨rfl,hok hmt⟩
          ·have hmf:D0 (els l) j=false:=e0z.2 (λh=>by have:=(hrow.1 h).2.2.2.2.2.2;rw[if_pos k2]at this;obtain⟨o',h1,h2⟩:=Jo.1 this.2;rw[hgo]at h1;cases h1;exact o1 h2);rw[hbad hmf]
           simp(disch:=try exact dq)only[tx,seval,hj',Aa,Ak,hx,hy,u1,e2b,c8,b1,i1,j0,hM,q0,q1,k2,z0,hG,o1]
       by_cases k1:x.kind=1
       ·cases hgo:getA (els l) x.origin with
        |none=>
          rw[hgo]at hG;simp only[e1i,e0h,J2,Gp]at hG;by_cases z0:x.origin=0
          ·have hmt:D0 (els l) j=true:=hrow.2 ⟨by omega,by simp only[e14,e0r]at e1;omega,.inl om,cM,by omega,by omega,by rw[if_neg k2,if_pos k1];exact .inl z0⟩;rw[z0]at hG
           simp(disch:=try exact dq)only[tx,seval,hj',Aa,Ak,hx,hy,u1,e2b,c8,b1,i1,j0,hM,q0,q1,k1,hG,z0];exact⟨rfl,hok hmt⟩
          ·have hmf:D0 (els l) j=false:=e0z.2 (λh=>by have:=(hrow.1 h).2.2.2.2.2.2;rw[if_neg k2,if_pos k1]at this;rcases this with h1|h1;exact z0 h1;unfold Hi at h1;rw[hgo]at h1;cases h1);rw[hbad hmf]
           simp(disch:=try exact dq)only[tx,seval,hj',Aa,Ak,hx,hy,u1,e2b,c8,b1,i1,j0,hM,q0,q1,k1,hG,z0]
        |some o=>
          rw[hgo]at hG;simp only[e13,e0i,J2]at hG;by_cases z0:x.origin=0
          ·have hmt:D0 (els l) j=true:=hrow.2 ⟨by omega,by simp only[e14,e0r]at e1;omega,.inl om,cM,by omega,by omega,by rw[if_neg k2,if_pos k1];exact .inl z0⟩;rw[z0]at hG
           simp(disch:=try exact dq)only[tx,seval,hj',Aa,Ak,hx,hy,u1,e2b,c8,b1,i1,j0,hM,q0,q1,k1,hG,z0];exact⟨rfl,hok hmt⟩
          by_cases o2:o.kind=2
          ·have hmt:D0 (els l) j=true:=hrow.2 ⟨by omega,by simp only[e14,e0r]at e1;omega,.inl om,cM,by omega,by omega,by rw[if_neg k2,if_pos k1];exact .inr (Jo.2 ⟨o,hgo,o2⟩)⟩
           simp(disch:=try exact dq)only[tx,seval,hj',Aa,Ak,hx,hy,u1,e2b,c8,b1,i1,j0,hM,q0,q1,k1,hG,z0,o2];exact⟨rfl,hok hmt⟩
          ·have hmf:D0 (els l) j=false:=e0z.2 (λh=>by have:=(hrow.1 h).2.2.2.2.2.2;rw[if_neg k2,if_pos k1]at this;rcases this with h1|h1;exact z0 h1;obtain⟨o',h1,h2⟩:=Jo.1 h1;rw[hgo]at h1;cases h1;exact o2 h2);rw[hbad hmf]
           simp(disch:=try exact dq)only[tx,seval,hj',Aa,Ak,hx,hy,u1,e2b,c8,b1,i1,j0,hM,q0,q1,k1,hG,z0,o2]
       cases hgo:getA (els l) x.origin with
       |none=>
         rw[hgo]at hG;simp only[e1i,e0h,J2,Gp]at hG;have hmf:D0 (els l) j=false:=e0z.2 (λh=>by have:=(hrow.1 h).2.2.2.2.2.2;rw[if_neg k2,if_neg k1]at this;exact this);rw[hbad hmf]
         simp(disch:=try exact dq)only[tx,seval,hj',Aa,Ak,hx,hy,u1,e2b,c8,b1,i1,j0,hM,q0,q1,k1,k2,hG]
       |some o=>
         rw[hgo]at hG;simp only[e13,e0i,J2]at hG;have hmf:D0 (els l) j=false:=e0z.2 (λh=>by have:=(hrow.1 h).2.2.2.2.2.2;rw[if_neg k2,if_neg k1]at this;exact this);rw[hbad hmf]
         simp(disch:=try exact dq)only[tx,seval,hj',Aa,Ak,hx,hy,u1,e2b,c8,b1,i1,j0,hM,q0,q1,k1,k2,hG]
 ·intro hI
  simp(disch:=try exact dq)only[tx,seval,e2k,c8];generalize hr2:Ad _ _ _=r2;refine B7 hr2 (els l).length
   (λj=>[A0 Ak l,.top,.top,.top,.top,.top,.int .i64 j,.top,.top,.top,.top,.top,.top,.top,.top,.top,.top,.top,.top,.top,.top])
   (λj=>[]) (λj=>∀ i,i<j->(Co (els l) (2*(els l).length+1) ((els l).getD i default)).id=0) ?_ ?_ ?_ ?_ ?_
  ·rfl
  ·rfl
  ·exact λi h=>absurd h (e1z i)
  ·intro j hj hJ;have hj':((j:Int)<((els l).length:Int)):=om;have hok:(Co (els l) (2*(els l).length+1) ((els l).getD j default)).id=0->∀ i,i<j+1->(Co (els l) (2*(els l).length+1) ((els l).getD i default)).id=0:=λh i hi=>by
    rcases e2l i j with h2|h2
    ·exact hJ i h2
    ·rw[show i=j by omega];exact h
   have hbad:(Co (els l) (2*(els l).length+1) ((els l).getD j default)).id≠0->Kx (els l)=false:=λh=>by
    unfold Kx;rw[e0z];intro hc;simp only[e14,e16,e0r]at hc;exact h (hc.2.2 _ (hmem j hj))
   generalize hx:(els l).getD j default=x at *
   simp(disch:=try exact dq)only[tx,seval,hj',Aa,Ak,hx,e2b];generalize hr3:Ad _ _ _=r3;refine G7 (Q:=λr=>Rd _ _ _ _ (F3 _ _ (Be _ _ (B0 _ (Be _ _ (B0 _ r)))))) hr3 (2*(els l).length+1)
    (λk=>[A0 Ak l,.top,.top,.top,.top,.top,.int .i64 j,.ptr 0 0 0 1,.int .i64 k,.top,.top,.top,.top,.top,.top,.top,.top,.top,.top,.top,.top])
    (λk=>[some [J2 (Co (els l) k x)]]) (λ_=>True) ?_ ?_ trivial ?_ ?_
   ·rfl
   ·rfl
   ·intro k hk _;have hk':((k:Int)<=2*((els l).length:Int)):=om;rw[a1s];have hG:=bc1 l hl (Co (els l) k x).origin;unfold G4;generalize Co (els l) k x=y at *
    generalize (getA (els l) y.origin).getD Gp=z at *;unfold J2 at hG ⊢
    simp(disch:=try exact dq)only[tx,seval,hk',hG,e2b];rfl
   ·intro _;generalize Co (els l) (2*(els l).length+1) x=y at *;have hk':¬ (((2*(els l).length+1:Nat):Int)<=2*((els l).length:Int)):=om;unfold J2;by_cases y0:y.id=0
    ·simp(disch:=try exact dq)only[tx,seval,hk',y0,e2b]
     first|exact⟨rfl,hok y0⟩|exact hok y0
    ·rw[hbad y0]
     simp(disch:=try exact dq)only[tx,seval,hk',y0,e2b]
  ·intro hJ;have ht:Kx (els l)=true:=by
    unfold Kx;simp only[e14,e16,e0r,e24];refine⟨by omega,hI,λd hd=>?_⟩;obtain⟨i,hi,rfl⟩:=e07.1 hd
    have:=hJ i hi;rw[dx5,dy1 hi]at this;exact this
   rw[ht]
   simp(disch:=try exact dq)only[tx,seval,e2k]
theorem c2o(l:Sl Dset)(hl:(els l).length<=1000000)(hf:∀ d∈els l,(els d.files).length<=1000000)(H:AH):K tab A5 A4 34 [A0 Ak l,A0 Ak l] H=some (.bool true,H):=by
 refine Ah l34 rfl (by simp[Ac,A8,Ap]) rfl ?_ H
 simp(disch:=try exact dq)only[tx,seval,g34];generalize hr:Ad _ _ _=r;refine B7 hr (els l).length
  (λj=>[A0 Ak l,A0 Ak l,.top,.int .i64 j,.top,.top])
  (λj=>[]) (λ_=>True) ?_ ?_ trivial ?_ ?_
 ·rfl
 ·rfl
 ·intro j hj _;have hj':((j:Int)<((els l).length:Int)):=om;have hmem:(els l).getD j default∈els l:=by
   rw[dx5,dy1 hj];exact e1c _
  generalize hx:(els l).getD j default=x at *;have hS:=c2p x.files x.files (hf x hmem) (hf x hmem);rw[e2a rfl]at hS
  simp(disch:=try exact dq)only[tx,seval,hj',Aa,Ak,hx,hS,e2b];rfl
 ·intro _
  simp(disch:=try exact dq)only[tx,seval,e2k]
def Zh(n:Node):Prop:=n.name.length<=8/\0<=n.up/\n.up<8
theorem c6q{d:Dev}{n:Nat}{p:Ptr}{x:Node}{l:List Ptr}(h:S3 d n p=some (x,l)):Zh x:=by
 unfold S3 at h;split at h
 ·rename_i y z m hm;rw[Option.ite_none_right_eq_some]at h;obtain⟨s,_,hs⟩:=dy6.1 hm;have hc:=ar2 hs;have e1:=congrArg Prod.fst (Option.some.inj h.2);simp only at e1;subst e1;exact⟨hc.1.2.2.2,hc.1.2.1,hc.1.2.2.1⟩
 ·cases h
theorem c21(d:Dev)(n:Nat)(p:Ptr):Zh (Q2 d n p).1:=by
 unfold Q2;split
 ·split
  ·rename_i x l h;exact c6q h
  ·simp only[];split
   ·exact⟨by decide,by decide,by decide⟩
   ·exact⟨by decide,by decide,by decide⟩
 ·exact⟨by decide,by decide,by decide⟩
theorem b4r(d:Dev):∀ (l:List Ptr) (n:Nat),∀ x∈Ip d n l,Zh x.1
 |[],_,x,h=>by simp[Ip]at h
 |p::l,n,x,h=>by
   rw[Ip,e2g]at h;rcases h with rfl|h
   ·exact c21 d n p
   ·exact b4r d l (n+1) x h
theorem b83:∀ x∈S9,Zh x:=by
 intro x hx;simp only[S9,e2g,e1a,or_false]at hx;rcases hx with rfl|rfl|rfl|rfl|rfl|rfl|rfl|rfl<;>exact⟨by decide,by decide,by decide⟩
theorem c4w(d:Dev)(p:Ptr):(Bj d p).set.length=8/\∀ x∈(Bj d p).set,Zh x:=by
 unfold Bj;split
 ·exact⟨rfl,b83⟩
 ·rename_i l hl;obtain⟨s,_,hs⟩:=dy6.1 hl;have h8:=(ar1 hs).1;unfold a2x;split
  ·refine⟨by rw[e1q,a6i,h8],λx hx=>?_⟩;obtain⟨y,hy,rfl⟩:=e2r.1 hx;exact b4r d l 0 y hy
  ·exact⟨rfl,b83⟩
theorem bn1{l:List DsetH}{m:List FilesR}{x:Dset}(h:x∈List.zipWith (λx f=>Hx x f.set) l m):∃ a b,b∈m/\Hx a b.set=x:=by
 induction l generalizing m with
 |nil=>simp at h
 |cons a l ih=>
   cases m with
   |nil=>simp at h
   |cons b m=>
     rw[List.zipWith_cons_cons,e2g]at h;rcases h with h|h
     ·exact⟨a,b,by simp,h.symm⟩
     ·obtain⟨a',b',h1,h2⟩:=ih h;exact⟨a',b',by simp[h1],h2⟩
theorem b4z(d:Dev)(l:List DsetH)(q:List Ptr):∀ x∈List.zipWith (λx f=>Hx x f.set) l (q.map (Bj d)),(els x.files).length=8/\∀ n∈els x.files,Zh n:=by
 intro x hx;obtain⟨a,b,hb,rfl⟩:=bn1 hx;obtain⟨p,_,rfl⟩:=e2r.1 hb;exact c4w d p
theorem bn2(l:List DsetH):∀ m:List FilesR,List.zipWith L7 l m=(List.zipWith (λx f=>Hx x f.set) l m).map λa=>(Ak a).map emb:=by
 induction l with
 |nil=>intro m;rfl
 |cons a l ih=>
   intro m;cases m with
   |nil=>rfl
   |cons b m=>rw[List.zipWith_cons_cons,List.zipWith_cons_cons,e2c,ih m];rfl
theorem c2b(d:Dev)(l:List DsetH)(q:List Ptr)(hl:l.length=q.length):Gf d l q l.length=(List.zipWith (λx f=>Hx x f.set) l (q.map (Bj d))).map λa=>(Ak a).map emb:=by
 unfold Gf;rw[show q.take l.length=q by rw[hl];exact e1g,e1h,e2o,e1t];exact bn2 l _
def Mh(d:Dev)(p:Ptr):AV:=match Lk d p with
 |some v=>.tuple [.agg (Fb v.r (A0 A6 (Ba v.s.held)) (A0 A6 (Ba v.s.one)) (A0 A6 (Ba v.s.two)) (A0 A6 (Ba v.s.kept)) v),.bool true]
 |none=>.tuple [.agg J9,.bool false]
theorem bo8(d:Dev)(p:Ptr):A8 (Mh d p)=true:=by
 unfold Mh;split
 ·simp[Fb,Db,A8,Ac,Ap]
 ·rfl
theorem a5x(r sz o l t:Nat)(H:AH):K tab A5 A4 29 [.own r sz o l t] H=Gs tab A5 A4 29 [.own r sz o l t] H (Ac (Bc H [.own r sz o l t])) (K tab A5 A4 29 (Bc H [.own r sz o l t]) H):=J7 _ _ _ rfl _ _
theorem c0k(n:Int):Pz n []=none:=by
 have:Dm n []=none:=by
  unfold Dm;rw[if_neg];rintro⟨h,h2,_⟩;have hb:40<=n/\n<=240:=by unfold Hf at h;simpa using h
  rw[e1n]at h2;omega
 unfold Pz;rw[this]
theorem ap0(d:Dev)(hd:DevOk d)(p:Ptr)(H:AH):K tab A5 A4 7 [.agg [A0 Bh d.last,A0 Bi d.wait,.int .i64 d.lies,.int .i64 d.arm,.bool d.down],.agg [.int .i64 p.addr,.int .i64 p.birth,.int .u32 p.sum.a.toNat,.int .u32 p.sum.b.toNat,.int .u32 p.sum.c.toNat,.int .u32 p.sum.d.toNat]] H=some (Mh d p,H):=by
 refine Ah l7 rfl (by simp[Ac,A8,Ap]) (bo8 d p) ?_ H;unfold Mh Lk;cases hh:N2 d p with
 |none=>
   have h1:=bb2 d hd p hh
   simp(disch:=try exact dq)only[tx,seval,g7,h1,J9]
 |some x=>
   obtain⟨r,l,q⟩:=x;have h1:=bb1 d hd p hh;obtain⟨hl,hl8⟩:=b09 hh;have h2:=bd9 d hd r l q hl hl8;rw[c2b d l q hl]at h2;have tB:=b3x d q l.length hl;have tC:=b3w d q l.length hl;have hA:=b4z d l q;have eV:∀ s,Jw (r,l,q) s (q.map (Bj d))=⟨r,s,List.zipWith (λx f=>Hx x f.set) l (q.map (Bj d)),q,q.map λp=>(Bj d p).node,q.map λp=>(Bj d p).part⟩:=λs=>by
    simp[Jw,e2t]
   simp only[eV];have lA:(List.zipWith (λx f=>Hx x f.set) l (q.map (Bj d))).length=l.length:=(by simp;omega);have lB:(q.map λp=>(Bj d p).node).length=l.length:=(by simp;omega);have lC:(q.map λp=>(Bj d p).part).length=l.length:=(by simp;omega);generalize List.zipWith (λx f=>Hx x f.set) l (q.map (Bj d))=A at *
   generalize (q.map λp=>(Bj d p).node)=B at *
   generalize (q.map λp=>(Bj d p).part)=C at *;have hM:=d80 (some A) (by rw[Bn];omega) (λx hx=>⟨by have:=(hA x hx).1;omega,λn hn=>by have:=((hA x hx).2 n hn).1;omega⟩);rw[Bn,C1]at hM;have kA:List.take l.length (A.map Ak)=A.map Ak:=dz1 (by rw[e1q];omega);have kB:List.take l.length (B.map Hd)=B.map Hd:=dz1 (by rw[e1q];omega);have kC:List.take l.length (C.map Hd)=C.map Hd:=dz1 (by rw[e1q];omega);have kQ:List.take l.length (q.map Ae)=q.map Ae:=dz1 (by rw[e1q];omega);have kE:List.take l.length (A.map λa=>(Ak a).map emb)=A.map λa=>(Ak a).map emb:=dz1 (by rw[e1q];omega);have vA:∀ H,(A.map λa=>(Ak a).map emb).map (λe=>e.map (D9 H 3))=A.map Ak:=λH=>bq6 H A Ak;have hld:=Wz d hd r.space 5;have h3:=hd.last;have hq:=bf6 d.last d.wait d.lies d.arm d.down om;have e:Hl ⟨d.last,d.wait,d.lies,d.arm,d.down⟩=Hl d:=rfl;rw[e]at hq;have hb:Hl d<=1000/\ -100<=Hl d:=(by unfold Hl;omega);unfold Db at h2;cases hT:((q.map (Bj d)).all λf=> !f.torn)with
   |false=>
     rw[hT]at h2;have hT2:¬ ((q.map (Bj d)).any (·.torn)=false/\P4 A=true):=λh=>by
      have:((q.map (Bj d)).all λf=> !f.torn)=true:=by
       rw[e16];intro f hf
       have:=h.1;rw[List.any_eq_false]at this
       have:=this f hf;simpa using this
      rw[hT]at this;cases this
     rw[if_neg hT2]
     simp(disch:=try exact dq)only[tx,seval,g7,KQ 28 rfl,h1,<-hl,h2,Db,An,Jh,Ar,Ir,Aw,Q7,Q6,Wj,Q5,Q4,e1s,e1q];rfl
   |true=>
     rw[hT]at h2;have hany:(q.map (Bj d)).any (·.torn)=false:=by
      rw[List.any_eq_false];intro f hf;rw[e16]at hT
      have:=hT f hf;simpa using this
     cases hmy:P4 A with
     |false=>
       rw[hmy]at hM;rw[if_neg (λh=>Bool.false_ne_true h.2)]
       simp(disch:=try exact dq)only[tx,seval,g7,KQ 28 rfl,h1,<-hl,h2,Db,An,Jh,Ar,Ir,Aw,Q7,Q6,Wj,Q5,Q4,e1s,e1q,a5x,Ez,lA,kE,vA,hM];rfl
     |true=>
       rw[hmy]at hM;rw[if_pos ⟨hany,rfl⟩];have hsp:∀ s:Bytes,s.length<=249->∀ H,K tab A5 A4 31 [.int .i64 (Hl d),.str s] H=some (K1 (Pz (Hl d) s),H):=λs hs=>c0m (Hl d) om om s om;cases hL:Iv d r.space 5 with
       |none=>
         rw[hL]at hld;have hs0:=hsp [] (by simp);rw[c0k]at hs0;unfold K1 at hs0
         simp(disch:=try exact dq)only[tx,seval,g7,KQ 28 rfl,h1,<-hl,h2,Db,An,Jh,Ar,Ir,Aw,Q7,Q6,Wj,Q5,Q4,e1s,e1q,a5x,Ez,lA,kE,vA,hM,hld,Di,hq,hs0,e1i,e0h];rfl
       |some s=>
         rw[hL]at hld;have hs0:=hsp s (a1g hL);simp only[e17];cases hS:Pz (Hl d) s with
         |none=>
           rw[hS]at hs0;unfold K1 at hs0
           simp(disch:=try exact dq)only[tx,seval,g7,KQ 28 rfl,h1,<-hl,h2,Db,An,Jh,Ar,Ir,Aw,Q7,Q6,Wj,Q5,Q4,e1s,e1q,a5x,Ez,lA,kE,vA,hM,hld,Di,hq,hs0,e13,e0i];rfl
         |some sp=>
           rw[hS]at hs0;unfold K1 at hs0;simp only[e1p]
           simp(disch:=try exact dq)only[tx,seval,g7,KQ 28 rfl,h1,<-hl,h2,Db,An,Jh,Ar,Ir,Aw,Q7,Q6,Wj,Q5,Q4,e1s,e1q,a5x,Ez,lA,kE,vA,hM,hld,Di,hq,hs0,e13,e0i,b3z,e1o,e17,e1p,tB,tC,Mk,lB,lC,kA,kB,kC,kQ,bc7,M5];rfl
end Go.Proofs.YtahmkkjcchnonaaGreatDoor.Abs
