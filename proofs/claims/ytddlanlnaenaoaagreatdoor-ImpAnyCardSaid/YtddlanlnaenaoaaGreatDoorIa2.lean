/-
  Part 2 of the proof: no condition. (Parts of the abstract layer, of the program's functions in its form, and of their contracts.)
-/
import Derived.Test.YtddlanlnaenaoaaGreatDoorIa1
set_option maxRecDepth 100000
set_option maxHeartbeats 8000000
set_option linter.unusedSimpArgs false
set_option linter.unusedVariables false
set_option linter.unusedSectionVars false
set_option linter.defProp false
namespace Go.Proofs.YtddlanlnaenaoaaGreatDoor.Abs
section
section
variable {P:Program}
def a4t(H:AH)(sz len:Nat):Option LA->Option (AV×AH)
 |some cells=>if cells.all cellA=true then some (.own H.length sz 0 len len,H++[some (chunks sz len cells)])else none
 |none=>none
theorem ai8(H:AH)(sz len:Nat)(cells:LA):a4t H sz len (some cells)=if cells.all cellA=true then some (.own H.length sz 0 len len,H++[some (chunks sz len cells)])else none:=qq
theorem b75(d:Option Nat)(b:List AInstr)(K:LA->AH->Prop)(fr:LA)(H:AH)(sz len:Nat)(zero:LA)(a:List (Nat×Opd))(t u):RT P (⟨d,none,.bslice sz len zero a⟩::b) K fr H t u=Zi (a4t H sz len (D9 (evalA fr) (List.replicate len zero).flatten (a.map λx=>(x.1*sz,sz,x.2)))) (λv c=>RT P b K (Bd fr d v) c .mk .mk) .mk:=by
 rw[d04 (λ_ _ _ _ _=>rfl) (λ_ _=>rfl)];simp only[Cw];cases D9 (evalA fr) (List.replicate len zero).flatten (a.map λx=>(x.1*sz,sz,x.2))<;>rfl
def apF(H:AH)(sz a r tot:Nat):Option (List LA)->Option AObj->Option (AV×AH)
 |some news,some o=>if news.all (λe=>decide (e.length=sz))=true/\(tot+news.length)*a<=1000000000000/\tot+news.length<=1000000000 then some (.own r sz 0 (tot+news.length) (tot+news.length),H.set r (some (o++news)))else none
 |_,_=>none
theorem Ym(H:AH)(sz a r tot:Nat)(news:List LA)(o:AObj):apF H sz a r tot (some news) (some o)=if news.all (λe=>decide (e.length=sz))=true/\(tot+news.length)*a<=1000000000000/\tot+news.length<=1000000000 then some (.own r sz 0 (tot+news.length) (tot+news.length),H.set r (some (o++news)))else none:=qq
theorem aj0(H:AH)(sz a:Nat)(zero:LA)(r tot:Nat)(y:AV):Yl H sz a zero (.own r sz 0 tot tot) y=apF H sz a r tot (E4 H y) (B1 H r tot):=by
 unfold Yl;cases E4 H y with
 |none=>simp only[];unfold apF;split<;>simp_all
 |some news=>
   simp only[];cases B1 H r tot with
   |none=>rfl
   |some o=>
     simp only[apF];cases b:news.all (λe=>decide (e.length=sz))with
     |false=>simp
     |true=>simp
def apE(H:AH)(sz a:Nat):Option (List LA)->Option (AV×AH)
 |some news=>if news.length*a<=1000000000000/\news.length<=1000000000/\news.all (λe=>decide (e.length=sz))=true then some (.own H.length sz 0 news.length news.length,H++[some news])else none
 |none=>none
theorem aj5(H:AH)(sz a:Nat)(news:List LA):apE H sz a (some news)=if news.length*a<=1000000000000/\news.length<=1000000000/\news.all (λe=>decide (e.length=sz))=true then some (.own H.length sz 0 news.length news.length,H++[some news])else none:=qq
theorem aj1(H:AH)(sz a:Nat)(zero:LA)(y:AV):Yl H sz a zero .emp y=apE H sz a (E4 H y):=by
 unfold Yl;cases E4 H y<;>rfl
end
end
section
def Bg(all:lN)(i:Nat):Option Nat:=all[i]?
open Classical in
def b55{E:Env}{w:World}{H:AH}(C:Sim E w H)(g R:lN)(T:(g++R).Nodup)(ac:∀ r∈g++R,r<H.length)(aa:∀ r∈R,E.ρ r=none) :
 ∃ E0:Env,Sim E0 w (g.map λr=>(H.at r).map (renO (Bh g)))/\(∀ xs vs,RepL E xs vs->RepL E0 (Ck (Bh g) xs) vs)/\
   ∀ (G:Env) (w':World) (H1:AH),LeN g.length E0 G->Sim G w' H1->H1.length=(g++R).length->
     ∃ m:Env,Le E m/\Sim m w' (Cp H (g++R) (H1.map λo=>o.map (renO (Bg (g++R)))))/\(∀ x v,Rep G x v->Rep m (ren (Bg (g++R)) x) v)/\∀ r,r∉g++R->m.ρ r=E.ρ r:=by
 have P:g.Nodup:=(f2m.1 T).1;have az:∀ r∈g,r<H.length:=λr hr=>ac r (f0v _ hr);let f:Nat->Prop:=λb=>∃ r o x,r∉g/\H.at r=some o/\E.ρ r=some x/\x.b=b;let E0:Env:={ F:=E.F,X:=λb=>match E.X b with|some o=>some o|none=>if f b then w.heap[b]? else none,ρ:=λi=>(g[i]?).bind E.ρ,os:=E.os,tape:=E.tape,output:=E.output };let H0:AH:=g.map λr=>(H.at r).map (renO (Bh g));have hτ:∀ r A y,Bh g r=some A->E.ρ r=some y->E0.ρ A=some y:=by
  intro r A y k D;simp only[E0,Ll k,f36,D]
 have a6:∀ b,¬ f b->E0.X b=E.X b:=by
  intro b e;simp only[E0];split
  ·rename_i h;rw[h]
  ·rename_i h;rw[iN e,h]
 have a7:∀ b,f b->E0.X b=w.heap[b]?:=by
  intro b e;simp only[E0];split
  ·rename_i o h;exact(C.frz b o (.inr h)).symm
  ·rw[iP e]
 have O:∀ i o0,AH.at H0 i=some o0->∃ r o,g[i]?=some r/\H.at r=some o/\o0=renO (Bh g) o:=by
  intro i o0 h;simp only[AH.at,H0,f2i]at h;cases a:g[i]? with
  |none=>rw[a]at h;cases h
  |some r=>
    rw[a]at h;simp only[f3y,f3a]at h;cases M:H.at r with
    |none=>simp only[AH.at]at M;rw[M]at h;cases h
    |some o=>simp only[AH.at]at M;rw[M]at h;cases h;exact⟨r,o,rfl,M,rfl⟩
 have ak:Sim E0 w H0:=by
  refine⟨C.os,C.tape,C.output,λb o e=>?_,λb o e=>?_,λi x hi=>?_,λi o0 M=>?_,λi i' K o2 x1 x2 k D h3 h4 e=>?_⟩
  ·rcases e with e|e
   ·exact C.frz b o (.inl e)
   ·by_cases z:f b
    ·rw[a7 b z]at e;exact e
    ·rw[a6 b z]at e;exact C.frz b o (.inr e)
  ·by_cases z:f b
   ·obtain⟨r,o',x,L,ad,hx,rfl⟩:=z
    have:=(Hs C ad hx).out.1
    change E.F x.b=some o at e
    rw[this]at e;cases e
   ·rw[a6 b z];exact C.disj b o e
  ·simp only[E0]at hi;cases a:g[i]? with
   |none=>rw[a]at hi;cases hi
   |some r=>
     rcases f5u i g.length with I|I
     ·simpa [H0]using I
     ·rw[f0e I]at a;cases a
  ·obtain⟨r,o,a,U,rfl⟩:=O i o0 M;rcases C.obj r o U with ⟨rfl,hn⟩|⟨x,hx,Q⟩
   ·exact .inl ⟨rfl,by simp only[E0,a,f36,hn]⟩
   ·refine .inr ⟨x,by simp only[E0,a,f36,hx],Lies.ren (E:=E) (E0:=E0) (λ_ _ h=>h) hτ Q ⟨Q.out.1,?_⟩ rfl⟩;rw[a6 x.b ?_]
    ·exact Q.out.2
    ·rintro⟨A,o',x',L,ad,av,an⟩
     have:=C.inj A r o' o x' x ad U av hx an;subst this;exact L (f0q a)
  ·obtain⟨r,o,a,U,rfl⟩:=O i K k;obtain⟨A,o',a5,aj,rfl⟩:=O i' o2 D;simp only[E0,a,f36]at h3;simp only[E0,a5,f36]at h4
   have:=C.inj r A o o' x1 x2 U aj h3 h4 e;subst this;have e1:=Mf P a;have e2:=Mf P a5;rw[e1]at e2;cases e2;rfl
 refine⟨E0,ak,λxs vs hr=>?_,λG w' H1 ar l ay=>?_⟩
 ·rw[Lq];refine⟨by simpa using hr.1,λi c u p hu=>?_⟩;rw[f2i]at p;cases a9:xs[i]? with
  |none=>rw[a9]at p;cases p
  |some c'=>rw[a9]at p;cases p;exact Z7 (E:=E) (E0:=E0) (λ_ _ h=>h) hτ (hr.2 i c' u a9 hu)
 have d:Le E0 G:=ar.full ak (by simp[H0]);generalize W:g++R=all at *;let ρ':Nat->Option Own:=λr=>match Bh all r with
  |some i=>G.ρ i
  |none=>E.ρ r
 let m:Env:={ F:=G.F,X:=E.X,ρ:=ρ',os:=E.os,tape:=E.tape,output:=E.output };have hσ:∀ i A y,Bg all i=some A->G.ρ i=some y->m.ρ A=some y:=by
  intro i A y k D;simp only[m,ρ',Mf T k,D]
 have ae:∀ b o,G.F b=some o->m.F b=some o:=λ_ _ h=>h;have aq:∀ r i,Bh all r=some i->(r∈g/\Bh g r=some i)\/(r∈R/\g.length<=i):=by
  intro r i p;have a:=Ll p;rw[<-W]at a;rcases f5u i g.length with I|I
  ·rw[ey5 I]at a;exact .inl ⟨f0q a,Mf P a⟩
  ·rw[ex6 I]at a;exact .inr ⟨f0q a,I⟩
 have V:Le E m:=by
  refine⟨λb o e=>d.F b o e,λr y B=>?_,rfl,rfl,rfl,rfl⟩;cases p:Bh all r with
  |some i=>
    rcases aq r i p with ⟨_,ap⟩|⟨L,_⟩
    ·have⟨y',aw,h⟩:=d.ρ i y (hτ r i y ap B);exact⟨y',by simp only[m,ρ',p];exact aw,h⟩
    ·rw[aa r L]at B;cases B
  |none=>exact⟨y,by simp only[m,ρ',p];exact B,.inl rfl⟩
 have ab:∀ r o y,r∉g->H.at r=some o->E.ρ r=some y->w'.heap[y.b]?=w.heap[y.b]?/\G.F y.b=none:=by
  intro r o y L M B;have z:f y.b:=⟨r,o,y,L,M,B,rfl⟩;have k:=a7 y.b z;obtain⟨cells,t,q,e,_⟩:=(Hs C M B).blk;rw[e]at k;have D:G.X y.b=some (.cells cells t q):=by rw[d.X];exact k
  refine⟨(l.frz _ _ (.inr D)).trans e.symm,?_⟩;cases hF:G.F y.b with
  |none=>rfl
  |some o'=>have:=l.disj _ _ hF;rw[D]at this;cases this
 have a0:∀ r,r∉all->r∉g:=λr h I=>h (by rw[<-W];exact f0v _ I);have a8:∀ r o,AH.at (Cp H all (H1.map λo=>o.map (renO (Bg all)))) r=some o->(∃ i K,Bg all i=some r/\H1.at i=some K/\o=renO (Bg all) K)\/(r∉all/\H.at r=some o):=by
  intro r o h;unfold AH.at at h;cases p:Bh all r with
  |none=>
    have s:=bh1 p;rw[a1j all _ _ r s]at h;exact .inr ⟨s,h⟩
  |some i=>
    have a:=Ll p;have b0:i<all.length:=by
     rcases f5u i all.length with I|I
     ·exact I
     ·rw[f0e I]at a;cases a
    rw[b24 all _ _ i r T a (by simp;omega) (ac r (f0q a)),f2i]at h;left;cases k:H1[i]? with
    |none=>rw[k]at h;cases h
    |some oo=>
      rw[k]at h;simp only[f3y,f3a]at h;cases oo with
      |none=>cases h
      |some K=>cases h;exact⟨i,K,a,by unfold AH.at;rw[k];rfl,rfl⟩
 have J:∀ i r y,Bg all i=some r->m.ρ r=some y->G.ρ i=some y:=by
  intro i r y k D;simp only[m,ρ',Mf T k]at D;exact D
 have n:∀ r,r∉all->m.ρ r=E.ρ r:=by
  intro r k;have au:Bh all r=none:=by
   cases p:Bh all r with
   |none=>rfl
   |some j=>exact absurd (f0q (Ll p)) k
  simp only[m,ρ',au]
 have af:∀ b,E0.X b=none->E.X b=none:=by
  intro b this;simp only[E0]at this;split at this
  ·cases this
  ·assumption
 refine⟨m,V,?_,λx v hx=>Z7 ae hσ hx,n⟩;refine⟨l.os.trans d.os,l.tape.trans d.tape,l.output.trans d.output,λb o e=>?_,λb o e=>?_,λr y B=>?_,λr o M=>?_,λr A o o' y y' k D h3 h4 e=>?_⟩
 ·rcases e with e|e
  ·exact l.frz b o (.inl e)
  ·have:E0.X b=some o:=by
    change E.X b=some o at e
    simp only[E0,e]
   exact l.frz b o (.inr (by rw[d.X];exact this))
 ·have:=l.disj b o e;rw[d.X]at this;exact af b this
 ·rw[Z2];cases p:Bh all r with
  |some i=>exact ac r (f0q (Ll p))
  |none=>simp only[m,ρ',p]at B;exact C.dom r y B
 ·rcases a8 r o M with ⟨i,K,hi,k,rfl⟩|⟨s,k⟩
  ·rcases l.obj i K k with ⟨rfl,hn⟩|⟨y,B,Q⟩
   ·left;refine⟨rfl,?_⟩;cases B:m.ρ r with
    |none=>rfl
    |some y=>have:=J i r y hi B;rw[hn]at this;cases this
   ·right;refine⟨y,hσ i r y hi B,Q.ren (E0:=m) ae hσ ⟨Q.out.1,?_⟩ rfl⟩
    have:=Q.out.2;rw[d.X]at this;exact af _ this
  ·rcases C.obj r o k with ⟨rfl,hn⟩|⟨y,B,Q⟩
   ·exact .inl ⟨rfl,(n r s).trans hn⟩
   ·right;have⟨k1,k2⟩:=ab r o y (a0 r s) k B;exact⟨y,(n r s).trans B,Q.mono V ⟨k2,Q.out.2⟩ k1⟩
 ·have N:∀ i K r y r2 o2 y2,Bg all i=some r->H1.at i=some K->m.ρ r=some y->r2∉all->H.at r2=some o2->m.ρ r2=some y2->y.b≠y2.b:=by
   intro i K r y r2 o2 y2 a1 a2 a3 b1 b3 b4 ao;have ax:=J i r y a1 a3;have al:=(n r2 b1).symm.trans b4;have z:f y2.b:=⟨r2,o2,y2,a0 r2 b1,b3,al,rfl⟩;obtain⟨cells,t,q,ag,_⟩:=(Hs C b3 al).blk;have D:G.X y2.b=some (.cells cells t q):=by rw[d.X,a7 _ z];exact ag
   have:=(Hs l a2 ax).out.2;rw[ao,D]at this;cases this
  rcases a8 r o k with ⟨i,K,hi,ai,rfl⟩|⟨s,ah⟩<;>rcases a8 A o' D with ⟨i',am,S,Z,rfl⟩|⟨a4,Y⟩
  ·have:=l.inj i i' K am y y' ai Z (J i r y hi h3) (J i' A y' S h4) e;subst this;rw[hi]at S;cases S;rfl
  ·exact absurd e (N i K r y A o' y' hi ai h3 a4 Y h4)
  ·exact absurd e.symm (N i' am A y' r o y S Z h4 s ah h3)
  ·exact C.inj r A o o' y y' ah Y ((n r s).symm.trans h3) ((n A a4).symm.trans h4) e
mutual
def Ab:AV->Bool
 |.own .. =>false
 |.ptr .. =>false
 |.agg cs=>Aa cs
 |.tuple cs=>Aa cs
 |.fn _ first cap=>Aa first&&Aa cap
 |_=>true
def Aa:LA->Bool
 |[]=>true
 |x::xs=>Ab x&&Aa xs
end
mutual
theorem Lp(τ:Nat->Option Nat):∀ x:AV,Ab x=true->ren τ x=x
 |.own ..,h=>by simp[Ab]at h
 |.ptr ..,h=>by simp[Ab]at h
 |.agg cs,h=>by simp only[Ab]at h;simp only[ren,Kk τ cs h]
 |.tuple cs,h=>by simp only[Ab]at h;simp only[ren,Kk τ cs h]
 |.fn f first cap,h=>by
   simp only[Ab,f32]at h;simp only[ren,Kk τ first h.1,Kk τ cap h.2]
 |.top,_=>by simp[ren]
 |.bool _,_=>by simp[ren]
 |.int _ _,_=>by simp[ren]
 |.str _,_=>by simp[ren]
 |.nilp,_=>by simp[ren]
 |.emp,_=>by simp[ren]
 |.fz _,_=>by simp[ren]
 |.fptr _,_=>by simp[ren]
 |.nilfn,_=>by simp[ren]
theorem Kk(τ:Nat->Option Nat):∀ a:List AV,Aa a=true->Ck τ a=a
 |[],_=>by simp[Ck]
 |x::a,h=>by
   simp only[Aa,f32]at h;simp only[Ck,Lp τ x h.1,Kk τ a h.2]
end
def Pi(k:IntKind)(n:Int):Ab (.int k n)=true:=by simp[Ab]
def Pm(b:Bool):Ab (.bool b)=true:=by simp[Ab]
def Ph(s:List UInt8):Ab (.str s)=true:=by simp[Ab]
def Pj(a:List LP):Ab (.fz a)=true:=by simp[Ab]
def Pk(a:LP):Ab (.fptr a)=true:=by simp[Ab]
def Pl:Ab .emp=true:=by simp[Ab]
def az3(p:PV):Ab (emb p)=true:=by cases p<;>simp[emb,Ab]
def Pn(a:LA):Ab (.agg a)=Aa a:=by simp[Ab]
end
section
inductive Loc where
 |slot (t:Nat)
 |len (r:Nat)
 |con (r:Nat)
 deriving DecidableEq
inductive Look where
 |av (x:Option AV)
 |len (n:Option Nat)
 |con (o:Option AObj) (f:Bool)
structure St where
 fr:LA
 H:AH
 free:Nat->Bool
def St.look(σ:St):Loc->Look
 |.slot t=>.av σ.fr[t]?
 |.len r=>.len ((σ.H.at r).map List.length)
 |.con r=>.con (σ.H.at r) (σ.free r)
structure Tr where
 R:List Loc
 W:List Loc
 d:Option Nat
 v:AV
 rs:lN
 os:List (Option AObj)
def Tr.app(τ:Tr)(σ:St):St:=⟨Bd σ.fr τ.d τ.v,Cp σ.H τ.rs τ.os,λr=>σ.free r&&!τ.rs.contains r⟩
structure Agree(R:List Loc)(σ σ':St):Prop where
 fr:σ.fr.length=σ'.fr.length
 H:σ.H.length=σ'.H.length
 on:∀ l∈R,σ.look l=σ'.look l
theorem Agree.refl(R:List Loc)(σ:St):Agree R σ σ:=⟨rfl,rfl,λ_ _=>rfl⟩
theorem Agree.trans{R:List Loc}{a b c:St}(h:Agree R a b)(d:Agree R b c):Agree R a c:=⟨h.fr.trans d.fr,h.H.trans d.H,λl e=>(h.on l e).trans (d.on l e)⟩
theorem Agree.symm{R:List Loc}{a b:St}(h:Agree R a b):Agree R b a:=⟨h.fr.symm,h.H.symm,λl c=>(h.on l c).symm⟩
structure Rl(E:Env)(w:World)(a:Act)(σ:St):Prop where
 sim:Sim E w σ.H
 rep:RepL E σ.fr a.tmps
 defers:a.defers=[]
 free:∀ r,σ.free r=true->E.ρ r=none
section
variable {P:Program} {n0:Nat}
structure Does(P:Program)(n0:Nat)(E0:Env)(ops:Array Oper)(QQ:Exit->Act->World->Prop)(i:Nat)(τ:Tr)(σ0:St):Prop where
 snd:∀ σ,Agree τ.R σ σ0->∀ (E:Env) (w:World) (a:Act) (next:Act->World->Prop),LeN n0 E0 E->Rl E w a σ->(∀ E' a' w',LeN n0 E0 E'->Rl E' w' a' (τ.app σ)->next a' w')->wpOp P ops QQ i next a w
 wf:∀ σ,Agree τ.R σ σ0->∀ l,l∉τ.W->(τ.app σ).look l=σ.look l
 wd:∀ t,τ.d=some t->.slot t∈τ.W
 wr:∀ r∈τ.rs,.con r∈τ.W
structure DoesF(P:Program)(n0:Nat)(E0:Env)(ops:Array Oper)(QQ:Exit->Act->World->Prop)(i:Nat)(T:Tr)(F:Tr->Prop)(σ0:St):Prop where
 snd:∀ σ,Agree T.R σ σ0->∀ (E:Env) (w:World) (a:Act) (next:Act->World->Prop),LeN n0 E0 E->Rl E w a σ->(∀ τ E' a' w',F τ->LeN n0 E0 E'->Rl E' w' a' (τ.app σ)->next a' w')->wpOp P ops QQ i next a w
 shape:∀ τ,F τ->τ.R=T.R/\τ.W=T.W/\τ.d=T.d/\τ.rs=T.rs
 wf:∀ τ,F τ->∀ σ l,l∉T.W->(τ.app σ).look l=σ.look l
 wd:∀ t,T.d=some t->.slot t∈T.W
 wr:∀ r∈T.rs,.con r∈T.W
theorem aj2(τ:Tr)(σ:St):(τ.app σ).fr.length=σ.fr.length:=b25 _ _ _
theorem aj3(τ:Tr)(σ:St):(τ.app σ).H.length=σ.H.length:=Z2 _ _ _
theorem Does.agree{E0:Env}{a:Array Oper}{QQ:Exit->Act->World->Prop}{i:Nat}{τ:Tr}{σ d:St}(h:Does P n0 E0 a QQ i τ σ)(c:Agree τ.R d σ):Does P n0 E0 a QQ i τ d :=
 ⟨λρ b=>h.snd ρ (b.trans c),λρ b=>h.wf ρ (b.trans c),h.wd,h.wr⟩
structure Indep(a b:Tr):Prop where
 wr:∀ l∈a.W,l∉b.R
 ww:∀ l∈a.W,l∉b.W
 rw:∀ l∈b.W,l∉a.R
def Chain(P:Program)(n0:Nat)(E0:Env)(a:Array Oper)(QQ:Exit->Act->World->Prop):List (Nat×Tr)->St->St->Prop
 |[],σ,b=>σ=b
 |(i,τ)::l,σ,b=>Does P n0 E0 a QQ i τ σ/\Chain P n0 E0 a QQ l (τ.app σ) b
theorem d86(H:AH):∀ (d b:lN) (a c:List (Option AObj)),(∀ r∈d,r∉b)->Cp (Cp H d a) b c=Cp (Cp H b c) d a:=by
 have one:∀ (d:lN) (a:List (Option AObj)) (H:AH) (r:Nat) (o:Option AObj),r∉d->Cp (H.set r o) d a=(Cp H d a).set r o:=by
  intro d
  induction d with
  |nil=>intro a H r o _;cases a<;>rfl
  |cons s d f=>
    intro a H r o e;simp only[f5h,not_or]at e;cases a with
    |nil=>rfl
    |cons p a=>rw[Cp,Cp,List.set_comm _ _ e.1,f a _ r o e.2]
 intro d
 induction d generalizing H with
 |nil=>intro b a c _;cases a<;>rfl
 |cons s d f=>
   intro b a c h;cases a with
   |nil=>rfl
   |cons p a=>
     rw[Cp,Cp,f _ b a c (λr e=>h r (by simp[e])),one b c H s p (h s sm)]
theorem cu6{a b:Tr}{σ:St}(g:∀ t,a.d=some t->b.d≠some t)(h:∀ r∈a.rs,r∉b.rs):b.app (a.app σ)=a.app (b.app σ):=by
 unfold Tr.app;simp only[St.mk.injEq];refine⟨?_,d86 _ _ _ _ _ h,?_⟩
 ·cases c:a.d with
  |none=>rfl
  |some t=>
    cases f:b.d with
    |none=>rfl
    |some u=>
      simp only[Bd];exact List.set_comm _ _ (λe=>g t c (by rw[f,e]))
 ·funext r;cases σ.free r<;>cases a.rs.contains r<;>cases b.rs.contains r<;>rfl
theorem swap{E0:Env}{c:Array Oper}{QQ:Exit->Act->World->Prop}{i j:Nat}{a b:Tr}{σ:St}(e:Does P n0 E0 c QQ i a σ)(g:Does P n0 E0 c QQ j b (a.app σ))(hi:Indep a b) :
 Does P n0 E0 c QQ j b σ/\Does P n0 E0 c QQ i a (b.app σ)/\b.app (a.app σ)=a.app (b.app σ):=by
 have n:Agree b.R σ (a.app σ):=⟨(aj2 a σ).symm,(aj3 a σ).symm,λl k=>(e.wf σ (Agree.refl _ _) l (λm=>hi.wr l m k)).symm⟩;have d:=g.agree n;have o:Agree a.R (b.app σ) σ:=⟨aj2 b σ,aj3 b σ,λl k=>d.wf σ (Agree.refl _ _) l (λm=>hi.rw l m k)⟩;exact⟨d,e.agree o,cu6 (λt h f=>hi.ww _ (e.wd t h) (g.wd t f)) (λr h f=>hi.ww _ (e.wr r h) (g.wr r f))⟩
theorem cn8{E0:Env}{c:Array Oper}{QQ:Exit->Act->World->Prop}{i:Nat}{T τ:Tr}{F:Tr->Prop}{p B:St}(e:DoesF P n0 E0 c QQ i T F B)(o:F τ):∀ (d:List (Nat×Tr)) (σ:St),Chain P n0 E0 c QQ d σ p->
 (∀ x∈d,Indep x.2 T)->Agree T.R σ p/\Chain P n0 E0 c QQ d (τ.app σ) (τ.app p)
 |[],σ,h,_=>by
   simp only[Chain]at h;subst h;exact⟨Agree.refl _ _,rfl⟩
 |(j,a)::d,σ,h,hi=>by
   have⟨f,u⟩:=h;have b:=hi (j,a) sm;have⟨h3,h4⟩:=cn8 e o d _ u (λx y=>hi x (by simp[y]));have⟨C,D,z,A⟩:=e.shape τ o;have q:Agree T.R σ (a.app σ):=⟨(aj2 a σ).symm,(aj3 a σ).symm,λl g=>(f.wf σ (Agree.refl _ _) l (λn=>b.wr l n g)).symm⟩;have s:Agree a.R (τ.app σ) σ:=⟨aj2 τ σ,aj3 τ σ,λl g=>e.wf τ o σ l (λn=>b.rw l n g)⟩;have g3:τ.app (a.app σ)=a.app (τ.app σ):=cu6 (λt w m=>b.ww _ (f.wd t w) (e.wd t (by rw[<-z];exact m))) (λr v k=>b.ww _ (f.wr r v) (e.wr r (by rw[<-A];exact k)));refine⟨q.trans h3,f.agree s,?_⟩;rw[<-g3];exact h4
theorem cn7{E0:Env}{b:Array Oper}{QQ:Exit->Act->World->Prop}{e f:St}{d:List (Nat×Tr)}:∀ (c:List (Nat×Tr)) (σ:St),Chain P n0 E0 b QQ c σ e->Chain P n0 E0 b QQ d e f->Chain P n0 E0 b QQ (c++d) σ f
 |[],σ,h,h'=>by
   simp only[Chain]at h;subst h;exact h'
 |(j,a)::c,σ,h,h'=>⟨h.1,cn7 c _ h.2 h'⟩
theorem c01{E0:Env}{d:Array Oper}{QQ:Exit->Act->World->Prop}{i:Nat}{τ:Tr}{c:List (Nat×Tr)}{e:St}:∀ (b:List (Nat×Tr)) (σ:St),Chain P n0 E0 d QQ (b++(i,τ)::c) σ e->
 (∀ x∈b,Indep x.2 τ)->Does P n0 E0 d QQ i τ σ/\Chain P n0 E0 d QQ (b++c) (τ.app σ) e
 |[],σ,h,_=>h
 |(j,a)::b,σ,h,hi=>by
   have⟨k,l⟩:=h;have⟨h3,h4⟩:=c01 b _ l (λx m=>hi x (by simp[m]));have⟨f,g,g3⟩:=swap k h3 (hi (j,a) sm);refine⟨f,g,?_⟩;rw[<-g3];exact h4
def anT(tab:List lN)(j i:Nat):Bool:=(tab.getD j []).contains i
theorem bj1{b:Array Oper}{tab:List lN}(s:Yy b tab=true){a:Array Bool}
 (n:∀ (j:Nat) (o:Oper),b[j]?=some o->a.getD j false=true->∀ e∈o.after,Region.binds .any e=true->a.getD e.on false=true) :
 ∀ (j i:Nat),anT tab j i=true->(a.getD j false=true\/∃ o,b[j]?=some o/\∀ e∈o.after,Region.binds .any e=true->a.getD e.on false=true)->a.getD i false=true:=by
 unfold Yy at s;simp only[f32,f2f]at s;intro j
 induction j using Nat.strongRecOn with
 |ind j t=>
   intro i hi d;have f:j<b.size:=by
    rcases f5u j tab.length with h|h
    ·omega
    ·unfold anT at hi;rw[ex9,f0e h]at hi;simp at hi
   have r:=ey4 f;have m:=f35.1 s.2 j (f4q.2 f);simp only[r,f32]at m;have h3:=f35.1 m.2 i (by simpa [anT]using hi);have⟨e,p,c⟩:=f1s.1 h3;simp only[f32,f44,beq_iff_eq]at c;have q:e.on<j:=by
    have:=ew5.1 m.1 e p;simpa [c.1]using this
   have g:a.getD e.on false=true:=by
    rcases d with d|⟨o,k,d⟩
    ·exact n j _ r d e p c.1
    ·rw[r]at k;cases k;exact d e p c.1
   rcases c.2 with l|l
   ·rw[<-l];exact g
   ·exact t e.on q i l (.inl g)
end
end
section
def Fa:AV->List Loc
 |.own r _ _ _ _=>[.len r]
 |.ptr r _ _ _=>[.len r]
 |_=>[]
def Ia:AV->List Loc
 |.own r _ _ _ _=>[.con r]
 |.ptr r _ _ _=>[.con r]
 |_=>[]
def J4(op:AOp)(ev:Opd->AV):List Loc:=
 match op with
 |.load _ _ x=>Ia (ev x)
 |.convbs x=>Ia (ev x)
 |.nilchk x=>Fa (ev x)
 |.faddr _ x=>Fa (ev x)
 |.len _ x=>Fa (ev x)
 |.slicel _ x _ _=>Fa (ev x)
 |.slicez x=>Fa (ev x)
 |.slice3 x _ _ _=>Fa (ev x)
 |.iaddr _ x _=>Fa (ev x)
 |.iaddra _ _ x _=>Fa (ev x)
 |_=>[]
theorem Xp{H a:AH}{r:Nat}(h:(H.at r).map List.length=(a.at r).map List.length)(tot:Nat){α:Type}(c:α):(B1 H r tot).map (λ_=>c)=(B1 a r tot).map (λ_=>c):=by
 grind [B1,Option.some.injEq]
theorem c3b{H a:AH}{r:Nat}(h:(H.at r).map List.length=(a.at r).map List.length){tot:Nat}:(∃ o,B1 H r tot=some o)->∃ o,B1 a r tot=some o:=by
 grind [B1]
theorem a73{H a:AH}{r:Nat}(h:H.at r=a.at r)(tot:Nat):B1 H r tot=B1 a r tot:=by unfold B1;rw[h]
theorem es0{op:AOp}{ev:Opd->AV}{H j:AH}{v:AV}(d:∀ r,.len r∈J4 op ev->(H.at r).map List.length=(j.at r).map List.length)(l:∀ r,.con r∈J4 op ev->H.at r=j.at r)
 (h:Be op ev H=some v):Be op ev j=some v:=by
 rw[<-h];cases op
 case load m n x=>
  simp only[Be];simp only[J4]at l;cases f:ev x<;>simp only[Lr]
  grind [a73,Ia]
 case convbs x=>
  simp only[Be];simp only[J4]at l;cases f:ev x<;>simp only[Ih]
  grind [a73,Ia]
 case nilchk x=>
  simp only[Be];simp only[J4]at d;cases f:ev x<;>simp only[];rw[f]at d;exact Xp (d _ (by simp[Fa])).symm _ _
 case faddr off x=>
  simp only[Be];simp only[J4]at d;cases f:ev x<;>simp only[];rw[f]at d;exact Xp (d _ (by simp[Fa])).symm _ _
 case len k x=>
  simp only[J4]at d;cases k<;>simp only[Be];cases f:ev x<;>simp only[];rw[f]at d;exact Xp (d _ (by simp[Fa])).symm _ _
 case slicel sz x lo hi=>
  grind [Be,J4,Fa,B1]
 case slicez x=>
  simp only[Be];simp only[J4]at d;cases f:ev x<;>simp only[];rw[f]at d;exact Xp (d _ (by simp[Fa])).symm _ _
 case slice3 x lo hi o=>
  simp only[Be];simp only[J4]at d;have:Z6 H (ev x)=Z6 j (ev x):=by
   cases f:ev x<;>simp only[Z6];rw[f]at d;exact Xp (d _ (by simp[Fa])) _ _
  rw[this]
 case iaddr sz x i=>
  simp only[J4]at d;simp only[Be];generalize ev i=y at *;cases f:ev x with
  |own r a b c e=>
    rw[f]at d;have g:=d r (by simp[Fa]);cases y<;>first|rfl|(simp only[];rw[Xp g.symm])
  |_=>cases y<;>rfl
 case iaddra len sz x i=>
  simp only[J4]at d;simp only[Be];generalize ev i=y at *;cases f:ev x with
  |ptr r a b c=>
    rw[f]at d;have g:=d r (by simp[Fa]);cases y<;>first|rfl|(simp only[];rw[Xp g.symm])
  |_=>cases y<;>rfl
 all_goals rfl
section
variable {P:Program} {n0:Nat}
theorem U5{σ a:St}{r:Nat}(h:σ.look (.con r)=a.look (.con r)):σ.H.at r=a.H.at r/\σ.free r=a.free r:=by
 simpa [St.look]using h
theorem dp7{σ a:St}{r:Nat}(h:σ.look (.len r)=a.look (.len r)):(σ.H.at r).map List.length=(a.H.at r).map List.length:=by
 simpa [St.look]using h
theorem c34{σ a:St}{t:Nat}(h:σ.look (.slot t)=a.look (.slot t)):σ.fr[t]?=a.fr[t]?:=by
 simpa [St.look]using h
theorem Vk{τ:Tr}{σ:St}{l:Loc}(a:∀ t,τ.d=some t->l≠.slot t)(b:∀ r∈τ.rs,l≠.con r/\l≠.len r):(τ.app σ).look l=σ.look l:=by
 cases l with
 |slot t=>
   grind [St.look,Tr.app,a62]
 |len r=>
   grind [St.look,Tr.app,AH.at,a1j]
 |con r=>
   grind [St.look,Tr.app,AH.at,a1j]
theorem Tf{e:Array Oper}{i:Nat}{o:Oper}{A7:AInstr}{QQ:Exit->Act->World->Prop}{next:Act->World->Prop}{E:Env}{w:World}{a:Act}{σ:St}(p:e[i]?=some o)(u:fitI P e A7 o=true)(t:Rl E w a σ)
 (m:∀ g c,A7.guard=some (g,c)->σ.fr[g]?=some (.bool c)) (h:o.wp P a w next QQ):wpOp P e QQ i next a w:=by
 have b:L9 e A7.guard o.guard=true:=by
  grind [fitI]
 unfold wpOp;rw[p];simp only[];cases f:A7.guard with
 |none=>
   rw[f]at b;cases d:o.guard with
   |some g=>rw[d]at b;simp[L9]at b
   |none=>
     rw[iP (by simp[Region.wanted,d])];exact .inl h
 |some g=>
   have⟨s,c⟩:=g;have q:=m s c f;rw[f]at b;cases d:o.guard with
   |none=>rw[d]at b;simp[L9]at b
   |some l =>
     have⟨j,k⟩:=l;rw[d]at b;simp only[L9,f32,beq_iff_eq,f2f]at b;obtain⟨rfl,n⟩:=b;have r:yielded e a.tmps j=some c:=ak6 t.rep q n;rw[iP (by simp[Region.wanted,d,r])];exact .inl h
theorem b83{c:Array Oper}{i:Nat}{o:Oper}{A7:AInstr}{QQ:Exit->Act->World->Prop}{next:Act->World->Prop}{E:Env}{w:World}{a:Act}{σ:St}{g:Nat}{f:Bool}(t:c[i]?=some o)(x:fitI P c A7 o=true)(q:Rl E w a σ)
 (l:A7.guard=some (g,f)) (u:(∃ b,σ.fr[g]?=some (.bool b)/\b≠f)\/σ.fr[g]?=some (.tuple [])) (h:next (a.put o.dst undef) w):wpOp P c QQ i next a w:=by
 have d:L9 c A7.guard o.guard=true:=by
  grind [fitI]
 unfold wpOp;rw[t];simp only[];rw[l]at d;cases e:o.guard with
 |none=>rw[e]at d;simp[L9]at d
 |some r =>
   have⟨j,n⟩:=r;rw[e]at d;simp only[L9,f32,beq_iff_eq,f2f]at d;obtain⟨rfl,p⟩:=d;have v:Region.wanted o (yielded c a.tmps)=false:=by
    rcases u with ⟨b,k,s⟩|k
    ·have m:yielded c a.tmps j=some b:=ak6 q.rep k p;simp only[Region.wanted,e,m]
     grind
    ·have m:yielded c a.tmps j=none:=b0c q.rep k p;simp only[Region.wanted,e,m];rfl
   rw[iN (by rw[v];simp)];exact h
theorem Ur{a:Array Oper}{A7:AInstr}{o:Oper}(b:fitI P a A7 o=true):A7.dst=o.dst:=by
 grind [fitI]
def Pq(fr:LA)(g:Option (Nat×Bool)):Prop:=∀ s a,g=some (s,a)->fr[s]?=some (.bool a)
def Hf(A7:AInstr):List Loc:=(slotsI A7).map .slot
def Cl(d:Option Nat):List Loc:=d.toList.map .slot
theorem Yn{A7:AInstr}{R:List Loc}{σ σ0:St}(h:Agree R σ σ0)(d:∀ l∈Hf A7,l∈R):(∀ x∈Ex A7.op,evalA σ.fr x=evalA σ0.fr x)/\∀ s a,A7.guard=some (s,a)->σ.fr[s]?=σ0.fr[s]?:=by
 have c:∀ t∈slotsI A7,σ.fr[t]?=σ0.fr[t]?:=λt b=>c34 (h.on _ (d _ (f62.2 ⟨t,b,rfl⟩)));exact⟨ce7 λt b=>c t (f0v _ b),λs a e=>c s (f0k _ (by rw[e];simp))⟩
theorem Does.skip{E0:Env}{d:Array Oper}{QQ:Exit->Act->World->Prop}{i:Nat}{o:Oper}{A7:AInstr}{σ0:St}{g:Nat}{c:Bool}(v:d[i]?=some o)(p:fitI P d A7 o=true)(k:A7.guard=some (g,c))
 (x:(∃ b,σ0.fr[g]?=some (.bool b)/\b≠c)\/σ0.fr[g]?=some (.tuple [])):Does P n0 E0 d QQ i ⟨[.slot g],Cl A7.dst,A7.dst,.tuple [],[],[]⟩ σ0:=by
 refine⟨λσ q E w a next m h s=>?_,λσ _ l u=>?_,λt f=>?_,λr e=>by cases e⟩
 ·have j:=c34 (q.on (.slot g) sm);refine b83 v p h k (by rw[j];exact x) (s E _ w m ?_);refine⟨h.sim,?_,L2 h.defers _ _,λr e=>h.free r (by simpa [Tr.app]using e)⟩;rw[<-Ur p];exact L1 h.rep (ap4 E) _
 ·refine Vk (λt f n=>u ?_) (λr e=>by cases e);simp only at f;rw[n];simp[Cl,f]
 ·simp only at f;simp[Cl,f]
theorem eh9{a:AOp}{o:Op}(b:Ci P a o=true)(ev:Opd->AV)(H:AH):Be a ev H=none:=by
 cases a<;>first|rfl|(cases o<;>simp only[Ci,f1k]at b)
theorem aw2{a:AOp}{o:Op}(b:B7 P a o=true)(ev:Opd->AV)(H:AH):Cw a ev H=none:=by
 cases a<;>first|rfl|(cases o<;>simp only[B7,f1k]at b)
theorem aw1{c:Array Oper}{A7:AInstr}{o:Oper}(b:fitI P c A7 o=true)(a:(∃ ev H v,Be A7.op ev H=some v)\/∃ ev H v,Cw A7.op ev H=some v):(B7 P A7.op o.op||Ci P A7.op o.op)=true:=by
 unfold fitI at b;rw[f32,f32]at b;have b:=b.2;have⟨d,g,op⟩:=A7;simp only at a b ⊢;cases op
 case call=>rcases a with ⟨_,_,_,h⟩|⟨_,_,_,h⟩<;>cases h
 case calld=>rcases a with ⟨_,_,_,h⟩|⟨_,_,_,h⟩<;>cases h
 case eqnil=>rcases a with ⟨_,_,_,h⟩|⟨_,_,_,h⟩<;>cases h
 case bad=>rcases a with ⟨_,_,_,h⟩|⟨_,_,_,h⟩<;>cases h
 all_goals
  revert b
  cases o.op<;>intro b<;>first|exact b|(simp at b;done)
theorem Does.val{E0:Env}{d:Array Oper}{QQ:Exit->Act->World->Prop}{i:Nat}{o:Oper}{A7:AInstr}{σ0:St}{v:AV}(F:d[i]?=some o)(m:fitI P d A7 o=true)(y:Pq σ0.fr A7.guard)
 (B:Be A7.op (evalA σ0.fr) σ0.H=some v):Does P n0 E0 d QQ i ⟨Hf A7++J4 A7.op (evalA σ0.fr),Cl A7.dst,A7.dst,v,[],[]⟩ σ0:=by
 refine⟨λσ j E w a next s e D=>?_,λσ _ l q=>?_,λt h=>?_,λr b=>by cases b⟩
 ·have⟨k,p⟩:=Yn (A7:=A7) j (λl q=>f0v _ q);refine Tf F m e (λg c A=>by rw[p g c A];exact y g c A) ?_;have C:=aw1 m (.inl ⟨_,_,_,B⟩);have n:B7 P A7.op o.op=true:=by
   grind [eh9]
  have G:Be A7.op (evalA σ0.fr) σ.H=some v:=es0 (λr b=>(dp7 (j.on _ (f0k _ b))).symm) (λr b=>(U5 (j.on _ (f0k _ b))).1.symm) B;have z:Be A7.op (evalA σ.fr) σ.H=some v:=by
   have J:=b6v (op:=A7.op) σ.H k
   grind [cv4,E8,aw2,Be,evalA]
  have⟨u,f,I⟩:=c1h n E w σ.H σ.fr a v o rfl e.sim e.rep z;unfold Oper.wp;rw[f];refine D E _ w s ⟨e.sim,?_,L2 e.defers _ _,λr b=>e.free r (by simpa [Tr.app]using b)⟩;rw[<-Ur m];exact L1 e.rep I _
 ·refine Vk (λt h x=>q ?_) (λr b=>by cases b);simp only at h;rw[x];simp[Cl,h]
 ·simp only at h;simp[Cl,h]
theorem dg0{n:Nat}{p x:Opd}{o:Op}(S:Ci P (.store n p x) o=true){E:Env}{w:World}{H:AH}{fr:LA}{a:Act}{d:Oper}(ho:d.op=o)(g:Sim E w H)(X:RepL E fr a.tmps)
 {r i j tot:Nat} {h e:LA} {A:AObj} (Z:evalA fr p=.ptr r i j tot) (D:cellsOf (evalA fr x)=some h) (hl:B1 H r tot=some A) (R:A[i]?=some e) (K:h.length=n/\j+n<=e.length/\h.all cellA=true) :
 ∃ w' C,(execOp a.eval d).run P w=.ok .skip w'/\Le E C/\Sim C w' (H.set r (some (A.set i (lay e j h))))/\∀ s,E.ρ s=none->C.ρ s=none:=by
 cases o<;>simp only[Ci,f1k,f32]at S;rename_i t p' x';have⟨⟨ht,h1⟩,h2⟩:=S;have V:=Bv X h1;have hx:=Bv X h2;obtain⟨it,I,U⟩:∃ i,P.info? t=some i/\i.size=n:=by
  grind
 rw[Z]at V;have⟨k,T,M⟩:=Ie g hl;have⟨a0,a2,c⟩:=K;have⟨y,N,L⟩:=Z8 V M;have b:=Hs g k N;have⟨cells,te,q,hb,f,W,m,u⟩:=b.blk;have B:=ai5 hx D;have G:i<A.length:=by
  grind
 have a1:=b.sz e (f0q R);have h3:=Ng (sz:=y.sz) G;have l:=b.fits;have Q:=B.1;have v:=bp7 (P:=P) I (w:=w) (off:=i*y.sz+j) hb (by rw[f];exact W) (by rw[U,f];omega) (a.eval x') (by rw[U];omega) (as6 B c);have⟨J,z⟩:=g.write k N (o':=A.set i (lay e j h)) (splice cells (i*y.sz+j) (a.eval x').cells.toList) te q (by rw[Wv];exact f) W sm
  (by
   intro Y F;rcases ey6 F with O|O
   ·exact b.sz Y O
   grind [au1])
  (by simpa using l) (a1e m _ _ (as6 B c) (by simp;omega)) (D6.lay u b.sz om R B j om)
 refine⟨_,_,?_,J,z,λs g=>?_⟩
 ·simp only[execOp,ho,Instr.storeAt,L,Instr.sureAddr,f5v,f5w,Result.andThen,v]
 ·rw[Env.with_ne _ _ (λe=>by rw[e,N]at g;cases g)];exact g
theorem Does.store{E0:Env}{q:Array Oper}{QQ:Exit->Act->World->Prop}{k:Nat}{o:Oper}{d:Option Nat}{gd:Option (Nat×Bool)}{n:Nat}{p x:Opd}{σ0:St}(ho:q[k]?=some o)(K:fitI P q ⟨d,gd,.store n p x⟩ o=true)(Q:Pq σ0.fr gd)
 {r i j tot:Nat} {v e:LA} {s:AObj} (S:evalA σ0.fr p=.ptr r i j tot) (y:cellsOf (evalA σ0.fr x)=some v) (I:B1 σ0.H r tot=some s) (T:s[i]?=some e) (C:v.length=n/\j+n<=e.length/\v.all cellA=true) :
 Does P n0 E0 q QQ k ⟨Hf ⟨d,gd,.store n p x⟩++[.con r],Cl d++[.con r],d,U,[r],[some (s.set i (lay e j v))]⟩ σ0:=by
 refine⟨λσ G E w a next N u Y=>?_,λσ G l A=>?_,λt F=>?_,λJ c=>by simp at c;simp[c]⟩
 ·obtain⟨z,M⟩:=Yn (A7:=⟨d,gd,.store n p x⟩) G (λl I=>f0v _ I);have b:=U5 (G.on (.con r) (by simp));refine Tf ho K u (λg m V=>by rw[M g m V];exact Q g m V) ?_;have L:Ci P (.store n p x) o.op=true:=by
   have:=aw1 K (.inr ⟨evalA σ0.fr,σ0.H,(U,σ0.H.set r (some (s.set i (lay e j v)))),by simp only[Cw,S,y,I,T];rw[iP C]⟩);rw[f44]at this;rcases this with h|h
   ·have:=aw2 h (evalA σ0.fr) σ0.H
    grind [Cw]
   ·exact h
  obtain⟨w',W,D,f,R,Z⟩:=dg0 L rfl u.sim u.rep (by rw[z p (by simp[Ex]),S]) (by rw[z x (by simp[Ex]),y]) (by rw[a73 b.1];exact I) T C;unfold Oper.wp;rw[D];refine Y W _ w' (N.trans (f.toN n0)) ⟨R,?_,L2 u.defers _ _,λJ c=>Z J (u.free J ?_)⟩
  ·rw[<-Ur K];exact L1 (u.rep.mono f) (.top _) _
  ·simp only[Tr.app,f32]at c;exact c.1
 ·have b:=U5 (G.on (.con r) (by simp));by_cases B:l=.len r
  ·subst B;simp only[St.look,Tr.app,Cp];obtain⟨X,h2⟩:σ0.H.at r=some s/\True:=by
    grind [B1]
   have h3:σ.H.at r=some s:=b.1.trans X;rw[a52 _ (Tc h3),h3];simp
  ·refine Vk (λt F O=>A ?_) (λJ c=>⟨λe=>A ?_,λe=>B ?_⟩)
   ·simp only at F;rw[O];simp[Cl,F]
   ·simp at c;rw[e,c];simp
   ·simp at c;rw[e,c]
 ·simp only at F;simp[Cl,F]
def Qf:AOp->Bool
 |.alloc _=>true
 |.box _=>true
 |.bslice _ _ _ _=>true
 |.convsb _=>true
 |.mksl _ _ _ _ _=>true
 |_=>false
theorem ca3{op:AOp}(h:Qf op=true)(ev:Opd->AV)(H:AH):Be op ev H=none:=by
 cases op<;>first|rfl|simp[Qf]at h
def a5a(P:Program)(o:Op)(e:AOp):Prop:=
 ∀ (E:Env) (w:World) (H:AH) (fr:LA) (a:Act) (v:AV) (d:AObj) (b:Oper) (r:Nat),b.op=o->Sim E w H->RepL E fr a.tmps->r<H.length->E.ρ r=none->Cw e (evalA fr) []=some (v,[some d])->
   ∃ u w' c,((execOp a.eval b).run P w=.ok (.value u) w'\/((execOp a.eval b).run P w=.ok .skip w'/\u=undef))/\Le E c/\(∀ s,s≠r->c.ρ s=E.ρ s)/\Sim c w' (H.set r (some d))/\Rep c (ren (Bg [r]) v) u
theorem dk1{P:Program}{b:LA}{o:Op}(n:Ci P (.alloc b) o=true):a5a P o (.alloc b):=by
 intro E w H fr a v C m r q j B i x f;cases o<;>simp only[Ci,f1k]at n;rename_i t;obtain⟨k,z,g,u,c⟩:∃ k z,P.info? t=some k/\k.zero=some z/\(repCs b z.cells.toList&&b.all cellA)=true:=by
  grind
 rw[f32]at c;have d:RepL E b z.cells:=by have:=Sf (E:=E) c.1;simpa using this
 simp only[Cw]at f;split at f
 ·rename_i p;simp only[f3w,f41,f2h,f5j,f4b,f70]at f;obtain⟨rfl,rfl⟩:=f;have A:=d.1;have⟨h,e⟩:=j.renew i [b] b.length z.cells t (0,0) (λy l=>by rw[x]at l;cases l) om (.inl rfl) sm (by simp;omega) (ones d c.2) (D6.of d rfl);refine⟨.pointer (some ⟨w.heap.size,0,none⟩),_,_,.inl ?_,h,λs j=>Env.with_ne _ _ j,e,?_⟩
  ·simp only[execOp,q];apply Ey;simp only[Instr.alloc,zeroValue,typeInfo,f5v,g,u,Result.andThen,f5w,newVar,newRow,program,Sem.run,newObj];rfl
  ·have:=Rep.ptr (E:=E.with r ⟨w.heap.size,b.length,z.cells.size,[b].length⟩) r 0 0 1 _ (Env.with_same _ _ _) rfl
   grind [ren,Bg]
 ·cases f
theorem dj5{P:Program}{x:Opd}{o:Op}(k:Ci P (.box x) o=true):a5a P o (.box x):=by
 intro E w H fr a v A m r n j p i u b;cases o<;>simp only[Ci,f1k]at k;rename_i t y;have q:=Bv p k;simp only[Cw]at b;split at b
 ·rename_i d f;have e:=ai5 q f;split at b
  ·rename_i h;simp only[f3w,f41,f2h,f5j,f4b,f70]at b;obtain⟨rfl,rfl⟩:=b;have z:=e.1;have⟨g,c⟩:=j.renew i [d] d.length (a.eval y).cells t (0,0) (λy l=>by rw[u]at l;cases l) om (.inl rfl) sm (by simp;omega) (ones e h.2) (D6.of e rfl);refine⟨.pointer (some ⟨w.heap.size,0,none⟩),_,_,.inl ?_,g,λs j=>Env.with_ne _ _ j,c,?_⟩
   ·simp only[execOp,n];apply Ey;simp only[Instr.box,f5v,Result.andThen,f5w,newVar,newRow,Sem.run,newObj];rfl
   ·have:=Rep.ptr (E:=E.with r ⟨w.heap.size,d.length,(a.eval y).cells.size,[d].length⟩) r 0 0 1 _ (Env.with_same _ _ _) rfl
    grind [ren,Bg]
  ·cases b
 ·cases b
theorem dj3{P:Program}{sz len:Nat}{zero:LA}{d:List (Nat×Opd)}{o:Op}(R:Ci P (.bslice sz len zero d) o=true):a5a P o (.bslice sz len zero d):=by
 intro E w H fr a v ob W r ho L hr K hρ h;cases o<;>simp only[Ci,f1k,f32,f2f]at R;rename_i t n O;obtain⟨⟨⟨rfl,F⟩,q⟩,hp⟩:=R;obtain⟨e,i,z,T,hi,M,m,u,a0,hz,N⟩:∃ e i z,P.underlying t=some (.slice e)/\P.info? e=some i/\i.size=sz/\0<sz/\zero.length=sz/\zero.all cellA=true/\i.zero=some z/\repCs zero z.cells.toList=true:=by
  split at q
  ·rename_i e T;split at q
   ·rename_i i hi;unfold Yf at q
    grind
   ·cases q
  ·cases q
 have A:RepL E zero z.cells:=by have:=Sf (E:=E) N;simpa using this
 simp only[Cw]at h;split at h
 ·rename_i cells c;split at h
  ·rename_i j;simp only[f3w,f41,f2h,f5j,f4b,f70]at h;obtain⟨rfl,rfl⟩:=h;have b:=a5f A n;have B:z.cells.size=sz:=(by rw[<-A.1,u]);rw[B]at b;have⟨C,G,D⟩:=ag6 (P:=P) hr (λi=>some (i*sz,sz)) _ O.toList _ _ cells hp b c;have S:cells.length=n*sz:=(by rw[b5i _ c];simp[u]);have⟨J,p⟩:=L.renew K (chunks sz n cells) sz C e (0,0) (λy U=>by rw[hρ]at U;cases U) m (.inl rfl) (by
    intro e' I;have⟨V,k⟩:=f0h.1 I;have l:V<n:=by
     grind [Nat.lt_or_ge,List.getElem?_eq_none,Yh]
    rw[ay6 _ _ _ _ l]at k;cases k;have:(V+1)*sz<=n*sz:=f0r _ l
    grind) (by rw[Yh];have:=D.1;omega) (ones D j) (D6.chunks D)
   refine⟨.slice (some ⟨w.heap.size,0,none⟩) n n,_,_,.inl ?_,J,λs L=>Env.with_ne _ _ L,p,?_⟩
   ·simp only[execOp,ho];apply Ey;have Q:(O.map λ(i,x)=>(i,a.eval x)).toList=O.toList.map λx=>(x.1,a.eval x.2):=(by simp);simp only[Instr.buildSlice,f5v,f4m T,Result.andThen,Hg hi,M];rw[iN om];by_cases Y:n*sz=0
    ·have Z:n=0:=by
      grind [Nat.mul_eq_zero.1]
     subst Z;simp only[f5z,if_true,f5w,f5v,Result.andThen];simp only[f5z]at G;rw[Q];have X:∀ f g:Nat->Value,(Array.range 0).map f=(Array.range 0).map g:=λf g=>(by simp);rw[X _ (λx=>z.cells[x%sz]!)];simp only[G];simp only[newRow,newObj,f5v,Sem.run,Result.andThen,f5w];rfl
    ·simp only[iN Y,zeroValue,typeInfo,f5v,hi,hz,Result.andThen,f5w,program,Sem.run,B];rw[Q];simp only[G];simp only[newRow,newObj,f5v,Sem.run,Result.andThen,f5w];rfl
   ·have:=Rep.own (E:=E.with r ⟨w.heap.size,sz,C.size,(chunks sz n cells).length⟩) r sz 0 n n n _ (Env.with_same _ _ _) (Yh _ _ _) rfl om (f6o _) om (by have:=D.1;simp;omega)
    grind [ren,Bg]
  ·cases h
 ·cases h
theorem dh0{P:Program}{sz b:Nat}{zero:LA}{l c:Opd}{o:Op}(hf:Ci P (.mksl sz b zero l c) o=true):a5a P o (.mksl sz b zero l c):=by
 intro E w H fr a v ob a6 r ho Z hr Y hρ B;cases o<;>simp only[Ci,f1k,f32]at hf;rename_i t l' c';have⟨⟨ht,h1⟩,h2⟩:=hf;have hl:=Bv hr h1;have hc:=Bv hr h2;obtain⟨e,a1,d⟩:∃ e,P.underlying t=some (.slice e)/\El P e sz b zero:=by
  grind [ah8]
 have⟨i,z,hi,a0,S,hz,a4⟩:=d.ex;have q:RepL E zero z.cells:=by have:=Sf (E:=E) a4;simpa using this
 have A:z.cells.size=sz:=by rw[<-q.1,d.len]
 simp only[Cw]at B;split at B
 ·rename_i k m k' n e1 Q;rw[e1]at hl;rw[Q]at hc;split at B
  ·rename_i X;have⟨h0,a8,hn,a7⟩:=X;simp only[f3w,f41,f2h,f5j,f4b,f70]at B;obtain⟨rfl,rfl⟩:=B;have h:=a5f q n.toNat;rw[A]at h;have p:m.toNat*sz<=n.toNat*sz:=f0r _ om;have L:D6 E sz ((Array.range (n.toNat*sz)).map (z.cells[· % sz]!)) (List.replicate m.toNat zero):=by
    intro j e' kk cc u D hk O;have G:j<m.toNat:=by
     grind
    rw[f00,iP G]at D;cases D;have I:kk<sz:=by
     rcases f5u kk zero.length with R|R
     ·rw[d.len]at R;exact R
     grind
    have:=Ng (sz:=sz) G;have F:(j*sz+kk)%sz=kk:=by
     rw[f65,ex8];exact f39 I
    rw[f1p,f0u,iP om]at O;simp only[f3y,f2h,F]at O;have J:kk<z.cells.size:=(by rw[A];exact I);rw[getElem!_pos z.cells kk J]at O;exact q.2 kk cc u hk (by rw[<-O];exact ey4 J)
   have K:∀ (j:Nat) u,((Array.range (n.toNat*sz)).map (z.cells[· % sz]!))[j]?=some u->u.oneCell'=true:=by
    have:=V0 q d.all n.toNat;unfold Builtin.zeroCells at this;rw[A]at this;exact this
   have⟨V,M⟩:=Z.renew Y (List.replicate m.toNat zero) sz ((Array.range (n.toNat*sz)).map (z.cells[· % sz]!)) e (0,0) (λy hy=>by rw[hρ]at hy;cases hy) d.pos (.inl rfl)
    (λe' U=>by rw[ez5 U,d.len]) (by simp;exact p) K L
   refine⟨.slice (some ⟨w.heap.size,0,none⟩) m.toNat n.toNat,_,_,.inl ?_,V,λs Z=>Env.with_ne _ _ Z,M,?_⟩
   ·simp only[execOp,ho,Fm hl,Fm hc];apply Ey;have N:(typeInfo e).run P w=.ok i w:=by
     unfold typeInfo;simp only[f5v,program,Sem.run,Result.andThen,hi];rfl
    have a5:(zeroValue e).run P w=.ok z w:=by
     unfold zeroValue;simp only[f5v,N,Result.andThen,hz,f5w]
    have a2:=al0 (n:=m) h0 om;have a3:=al0 (n:=n) om hn;have W:(b:Int)*n<=10000*1000000000:=by
     refine f68 (ew7 (c:=n) (show(b:Int)<=10000 by omega) om) ?_;omega
    have T:((decide (n<0)||decide ((b:Int)*n>2 ^ 48))=true\/decide (m<0)=true\/decide (m>n)=true)=False:=by
     simp;omega
    unfold Instr.makeSlice;simp only[f5v,f4m a1,Result.andThen,asInt,asIntOf,f5w,N,S,a2,a3];rw[iN (by simp;omega)];simp only[f5v,b28,Result.andThen,Hg hi,a0];by_cases C:n.toNat*sz=0
    ·simp only[C,if_true,f5w,f5v,Result.andThen,newRow,newObj,Sem.run];have Q:∀ f g:Nat->Value,(Array.range 0).map f=(Array.range 0).map g:=λf g=>(by simp);rw[Q _ (λx=>z.cells[x%sz]!)];rfl
    ·simp only[iN C,f5v,a5,Result.andThen,f5w,newRow,newObj,Sem.run,A];rfl
   ·have:=Rep.own (E:=E.with r ⟨w.heap.size,sz,((Array.range (n.toNat*sz)).map (z.cells[· % sz]!)).size,(List.replicate m.toNat zero).length⟩) r sz 0 m.toNat m.toNat n.toNat _ (Env.with_same _ _ _) sm rfl om om om sm;simpa [ren,Bg]using this
  ·cases B
 ·cases B
theorem di6{P:Program}{x:Opd}{o:Op}(K:Ci P (.convsb x) o=true):a5a P o (.convsb x):=by
 intro E w H fr a v Y N r S C T B U f;cases o<;>simp only[Ci,f1k,f32]at K;rename_i s t y;have⟨⟨W,X⟩,h3⟩:=K;have L:=Bv T h3;have I:P.underlying s=some .string:=by
  grind
 obtain⟨e,J,G⟩:∃ e,P.underlying t=some (.slice e)/\P.underlying e=some (.int .u8):=by
  grind
 simp only[Cw]at f;split at f
 ·rename_i d O;rw[O]at L;simp only[f3w,f41,f2h,f5j,f4b,f70]at f;obtain⟨rfl,rfl⟩:=f;have n:(⟨d.toArray⟩:ByteArray).size=d.length:=by simp[ByteArray.size]
  have g:=run_bytes_of_string (P:=P) w s t e ⟨d.toArray⟩ I J G;rw[n]at g;have h:d.length<=grownCap w d.length 0 e:=grownCap_ge w _ _ _;generalize R:grownCap w d.length 0 e=j at h g;let cells:Array Value:=(d.toArray.map λb=>Value.int .u8 b.toNat)++Array.replicate (j-d.length) (.int .u8 0);have p:cells.size=j:=by simp[cells];omega
  have z:bytesRow ⟨d.toArray⟩ j=cells:=by
   simp only[bytesRow,cells,n]
  rw[z,p]at g;have D:Sim E w.drew H:=C.drawn (w.drawn+1);have⟨A,q⟩:=D.renew B (d.map λb=>[AV.int .u8 b.toNat]) 1 cells e (j,j+1) (λy M=>by rw[U]at M;cases M) om (.inr om) sm (by simp;omega)
   (by
    intro i v f;simp only[cells]at f;rw[f0f]at f;split at f
    ·rw[f1p]at f;cases l:d.toArray[i]? with
     |none=>rw[l]at f;cases f
     |some b=>rw[l]at f;cases f;rfl
    ·rw[ez6]at f;split at f
     ·cases f;rfl
     ·cases f)
   (by
    intro i V k c u hi m F;rw[f2i]at hi;cases l:d[i]? with
    |none=>rw[l]at hi;cases hi
    |some b=>
      rw[l]at hi;cases hi;have Q:i<d.length:=by
       grind
      match k,m with
      |0,m=>
        simp at m;subst m;simp only[cells]at F;rw[ex7 (by simp;omega),f6p,f5y,f1p,f0g,l]at F;cases F;exact .pure (x:=.int _ _) (.int _ _)
      |k+1,m=>simp at m)
  refine⟨.slice (some ⟨w.heap.size,0,none⟩) d.length j,_,_,.inl ?_,A,λs C=>Env.with_ne _ _ C,q,?_⟩
  ·simp only[execOp,S,Lo L];simp_all
  ·have:=Rep.own (E:=E.with r ⟨w.drew.heap.size,1,cells.size,(d.map λb=>[AV.int .u8 b.toNat]).length⟩) r 1 0 d.length d.length j _ (Env.with_same _ _ _) sm rfl om h om (by simp[p]);simpa [ren,Bg]using this
 ·cases f
theorem dk3{a:AOp}{o:Op}(c:Qf a=true)(b:Ci P a o=true):a5a P o a:=by
 cases a<;>simp only[Qf,f1k]at c
 case alloc=>exact dk1 b
 case box=>exact dj5 b
 case bslice=>exact dj3 b
 case mksl=>exact dh0 b
 grind [di6]
theorem Does.fresh{E0:Env}{m:Array Oper}{QQ:Exit->Act->World->Prop}{k:Nat}{o:Oper}{A7:AInstr}{σ0:St}(T:m[k]?=some o)(C:fitI P m A7 o=true)(J:Pq σ0.fr A7.guard)
 (F:Qf A7.op=true) {v:AV} {x:AObj} (U:Cw A7.op (evalA σ0.fr) []=some (v,[some x])) {c:Nat} (Q:c<σ0.H.length) (i:σ0.free c=true) :
 Does P n0 E0 m QQ k ⟨Hf A7++[.con c],Cl A7.dst++[.con c,.len c],A7.dst,ren (Bg [c]) v,[c],[some x]⟩ σ0:=by
 refine⟨λσ y E w a next q n O=>?_,λσ y l j=>?_,λt s=>?_,λz f=>by simp at f;simp[f]⟩
 ·have⟨B,G⟩:=Yn (A7:=A7) y (λl R=>f0v _ R);have p:=U5 (y.on (.con c) sm);refine Tf T C n (λg h N=>by rw[G g h N];exact J g h N) ?_;have D:Ci P A7.op o.op=true:=by
   have:=aw1 C (.inr ⟨_,_,_,U⟩)
   grind [aw2]
  have L:Cw A7.op (evalA σ.fr) []=some (v,[some x]):=by
   have V:=b6v (op:=A7.op) [] B
   grind [E8,ca3]
  have⟨u,w',A,b,d,S,K,M⟩:=dk3 F D E w σ.H σ.fr a v x o c rfl n.sim n.rep (by rw[y.H];exact Q) (n.free c (by rw[p.2];exact i)) L;have r:Rl A w' (a.put o.dst u) (Tr.app ⟨Hf A7++[.con c],Cl A7.dst++[.con c,.len c],A7.dst,ren (Bg [c]) v,[c],[some x]⟩ σ):=by
   refine⟨K,?_,L2 n.defers _ _,λz f=>?_⟩
   ·rw[<-Ur C];exact L1 (n.rep.mono d) M _
   ·simp only[Tr.app,f32]at f;rw[S z (by simpa using f.2)];exact n.free z f.1
  unfold Oper.wp;rcases b with b|⟨b,rfl⟩
  ·rw[b];exact O A _ w' (q.trans (d.toN n0)) r
  ·rw[b];exact O A _ w' (q.trans (d.toN n0)) r
 ·refine Vk (λt s I=>j ?_) (λz f=>⟨λe=>j ?_,λe=>j ?_⟩)
  ·simp only at s;rw[I];simp[Cl,s]
  ·simp at f;rw[e,f];simp
  ·simp at f;rw[e,f];simp
 ·simp only at s;simp[Cl,s]
theorem b3f{a:lN}{c k:Nat}(b:a.Nodup)(d:∀ r∈a,r<c):(a++List.range' c k).Nodup:=by
 grind
theorem b53{a:lN}{c k:Nat}(b:∀ r∈a,r<c):(λr=>decide (c<=r)&&!(a++List.range' c k).contains r)=λr=>decide (c+k<=r):=by
 grind
theorem Does.call{E0:Env}{J:Array Oper}{QQ:Exit->Act->World->Prop}{k:Nat}{o:Oper}{d:Option Nat}{gd:Option (Nat×Bool)}{f:FuncId}{c:LQ}{σ0:St}(ho:J[k]?=some o)(N:fitI P J ⟨d,gd,.call f c⟩ o=true)(a2:Pq σ0.fr gd)
 {b h:lN} (a1:(b++h).Nodup) (B:∀ r∈b++h,r<σ0.H.length) (z:∀ r∈h,σ0.free r=true) {x:AV} {H1:AH} (Q:H1.length=(b++h).length)
 (X:C P f (Ck (Bh b) (c.map (evalA σ0.fr))) (b.map λr=>(σ0.H.at r).map (renO (Bh b))) (λy G=>y=x/\G=H1)) :
 Does P n0 E0 J QQ k ⟨Hf ⟨d,gd,.call f c⟩++(b++h).map .con,Cl d++((b++h).map .con++(b++h).map .len),d,ren (Bg (b++h)) x,b++h,H1.map λo=>o.map (renO (Bg (b++h)))⟩ σ0:=by
 refine⟨λσ U E w a next a0 L hk=>?_,λσ U l A=>?_,λt T=>?_,λK i=>?_⟩
 ·have⟨Y,Z⟩:=Yn (A7:=⟨d,gd,.call f c⟩) U (λl hl=>f0v _ hl);have p:∀ r∈b++h,σ.H.at r=σ0.H.at r/\σ.free r=σ0.free r:=λr i=>U5 (U.on (.con r) (f0k _ (f62.2 ⟨r,i,rfl⟩)));refine Tf ho N L (λg q hg=>by rw[Z g q hg];exact a2 g q hg) ?_;have⟨Ef,S,D,v⟩:=b55 L.sim b h a1 (λr i=>by rw[U.H];exact B r i) (λr i=>L.free r (by rw[(p r (f0k _ i)).2];exact z r i));have e0:(b.map λr=>(σ.H.at r).map (renO (Bh b)))=b.map λr=>(σ0.H.at r).map (renO (Bh b)):=f16 λr i=>by rw[(p r (f0v _ i)).1]
  rw[e0]at S;have W:c.map (evalA σ0.fr)=c.map (evalA σ.fr):=f16 λy hy=>(Y y (by simpa [Ex]using hy)).symm;rw[W]at X;have a3:∀ (n:Env) (w':World) (u:Value),Le E n->Sim n w' (Cp σ.H (b++h) (H1.map λo=>o.map (renO (Bg (b++h)))))->Rep n (ren (Bg (b++h)) x) u->(∀ r,r∉b++h->n.ρ r=E.ρ r)->
   Rl n w' (a.put o.dst u) (Tr.app ⟨Hf ⟨d,gd,.call f c⟩++(b++h).map .con,Cl d++((b++h).map .con++(b++h).map .len),d,ren (Bg (b++h)) x,b++h,H1.map λo=>o.map (renO (Bg (b++h)))⟩ σ):=by
   intro n w' u j F I hn;refine⟨F,?_,L2 L.defers _ _,λK i=>?_⟩
   ·have:=Ur N;simp only at this;rw[<-this];exact L1 (L.rep.mono j) I _
   ·simp only[Tr.app,f32]at i;rw[hn K (by simpa using i.2)];exact L.free K i.1
  unfold fitI at N;rw[f32,f32]at N;have m:=N.2;simp only at m;split at m
  ·rename_i f' V g as a6 W e2;cases W;rw[f32,f2f]at m;obtain⟨rfl,s⟩:=m;have M:=a48 L.rep _ as.toList s;have e3:(as.toList.map a.eval).toArray=as.map a.eval:=(by apply f6v;simp);rw[e3]at M;have R:(execOp a.eval o).run P w=.ok (.enter f (as.map a.eval)) w:=by
    simp only[execOp,e2,resolve,Deferred.ofValue,show ∀ g,a.eval (.func g)=.func (.func g) #[] #[]from λ_=>rfl,f5v,f5w,Result.andThen,invoke];rw[show(#[]++as.map a.eval++ #[]:Array Value)=as.map a.eval from by simp];exact a1m X.1 _ _
   unfold Oper.wp;rw[R];refine(X.2 Ef w _ S (D _ _ M)).mono ?_;rintro e w' ⟨u,E1,y,G,rfl,⟨rfl,rfl⟩,O,a4,a5⟩;have⟨n,j,F,I,hn⟩:=v E1 w' G (by simpa using O) a4 Q;exact hk n _ w' (a0.trans (j.toN n0)) (a3 n w' u j F (I _ _ a5) hn)
  all_goals first|(rename_i e _;cases e;done)|(rename_i e;cases e;done)|(simp at m;done)|(simp_all;done)
 ·refine Vk (λt T B=>A ?_) (λK i=>⟨λe=>A ?_,λe=>A ?_⟩)
  ·simp only at T;rw[B];simp[Cl,T]
  ·rw[e];exact f0k _ (f0v _ (f62.2 ⟨K,i,rfl⟩))
  ·rw[e];exact f0k _ (f0k _ (f62.2 ⟨K,i,rfl⟩))
 ·simp only at T;simp[Cl,T]
 ·exact f0k _ (f0v _ (f62.2 ⟨K,i,rfl⟩))
theorem Does.look{E0:Env}{p:Array Oper}{QQ:Exit->Act->World->Prop}{k:Nat}{o:Oper}{d:Option Nat}{gd:Option (Nat×Bool)}{f:FuncId}{b:LQ}{σ0:St}(Y:p[k]?=some o)(v:fitI P p ⟨d,gd,.call f b⟩ o=true)(O:Pq σ0.fr gd)
 {x:AV} (Z:Ed x=true) (G:C P f (B9 σ0.H (b.map (evalA σ0.fr))) [] (λy _=>y=x)) :
 Does P n0 E0 p QQ k ⟨Hf ⟨d,gd,.call f b⟩++(Gy σ0.H (b.map (evalA σ0.fr))).map .con,Cl d,d,x,[],[]⟩ σ0:=by
 refine⟨λσ I E w a next M q W=>?_,λσ I l L=>?_,λt A=>?_,λS n=>by cases n⟩
 ·have⟨J,K⟩:=Yn (A7:=⟨d,gd,.call f b⟩) I (λl X=>f0v _ X);refine Tf Y v q (λg j T=>by rw[K g j T];exact O g j T) ?_;have D:b.map (evalA σ0.fr)=b.map (evalA σ.fr):=f16 λy hy=>(J y (by simpa [Ex]using hy)).symm;have F:B9 σ0.H (b.map (evalA σ0.fr))=B9 σ.H (b.map (evalA σ0.fr)):=a18 _ λr n=>(U5 (I.on (.con r) (f0k _ (f62.2 ⟨r,n,rfl⟩)))).1.symm;rw[F,D]at G;have i:=Ur v;simp only at i;unfold fitI at v;rw[f32,f32]at v;have c:=v.2;simp only at c;split at c
  ·rename_i f' B g as U D F;cases D;rw[f32,f2f]at c;obtain⟨rfl,m⟩:=c;have s:=a48 q.rep _ as.toList m;have V:(as.toList.map a.eval).toArray=as.map a.eval:=(by apply f6v;simp);rw[V]at s;have z:(execOp a.eval o).run P w=.ok (.enter f (as.map a.eval)) w:=by
    simp only[execOp,F,resolve,Deferred.ofValue,show ∀ g,a.eval (.func g)=.func (.func g) #[] #[]from λ_=>rfl,f5v,f5w,Result.andThen,invoke];rw[show(#[]++as.map a.eval++ #[]:Array Value)=as.map a.eval from by simp];exact a1m G.1 _ _
   unfold Oper.wp;rw[z];refine(d4r G (λy _ h=>by rw[h];exact Z) E w _ q.sim s).mono ?_;rintro e w' ⟨u,y,H1,rfl,rfl,Q,R⟩;refine W E _ w' M ⟨Q,?_,L2 q.defers _ _,λS n=>q.free S (by simpa [Tr.app]using n)⟩;rw[<-i];exact L1 q.rep R _
  all_goals first|(rename_i e _;cases e;done)|(rename_i e;cases e;done)|(simp at c;done)|(simp_all;done)
 ·refine Vk (λt A N=>L ?_) (λS n=>by cases n);simp only at A;rw[N];simp[Cl,A]
 ·simp only at A;simp[Cl,A]
theorem Does.calld{E0:Env}{K:Array Oper}{QQ:Exit->Act->World->Prop}{k:Nat}{o:Oper}{d:Option Nat}{gd:Option (Nat×Bool)}{f:FuncId}{M:Opd}{first cap:LA}{c:LQ}{σ0:St}(ho:K[k]?=some o)(R:fitI P K ⟨d,gd,.calld M c⟩ o=true)(a5:Pq σ0.fr gd)(a8:evalA σ0.fr M=.fn (.func f) first cap)
 {b h:lN} (a4:(b++h).Nodup) (D:∀ r∈b++h,r<σ0.H.length) (A:∀ r∈h,σ0.free r=true) {x:AV} {H1:AH} (T:H1.length=(b++h).length)
 (hC:C P f (Ck (Bh b) (first++c.map (evalA σ0.fr)++cap)) (b.map λr=>(σ0.H.at r).map (renO (Bh b))) (λy G=>y=x/\G=H1)) :
 Does P n0 E0 K QQ k ⟨Hf ⟨d,gd,.calld M c⟩++(b++h).map .con,Cl d++((b++h).map .con++(b++h).map .len),d,ren (Bg (b++h)) x,b++h,H1.map λo=>o.map (renO (Bg (b++h)))⟩ σ0:=by
 refine⟨λσ Z E w a next a3 q hk=>?_,λσ Z l B=>?_,λt W=>?_,λL i=>?_⟩
 ·have⟨Q,a2⟩:=Yn (A7:=⟨d,gd,.calld M c⟩) Z (λl hl=>f0v _ hl);have p:∀ r∈b++h,σ.H.at r=σ0.H.at r/\σ.free r=σ0.free r:=λr i=>U5 (Z.on (.con r) (f0k _ (f62.2 ⟨r,i,rfl⟩)));refine Tf ho R q (λg s hg=>by rw[a2 g s hg];exact a5 g s hg) ?_;have⟨Ef,V,F,z⟩:=b55 q.sim b h a4 (λr i=>by rw[Z.H];exact D r i) (λr i=>q.free r (by rw[(p r (f0k _ i)).2];exact A r i));have e0:(b.map λr=>(σ.H.at r).map (renO (Bh b)))=b.map λr=>(σ0.H.at r).map (renO (Bh b)):=f16 λr i=>by rw[(p r (f0v _ i)).1]
  rw[e0]at V;have e1:c.map (evalA σ0.fr)=c.map (evalA σ.fr):=f16 λy hy=>(Q y (by simp[Ex,hy])).symm;rw[e1]at hC;have a6:∀ (n:Env) (w':World) (u:Value),Le E n->Sim n w' (Cp σ.H (b++h) (H1.map λo=>o.map (renO (Bg (b++h)))))->Rep n (ren (Bg (b++h)) x) u->(∀ r,r∉b++h->n.ρ r=E.ρ r)->
   Rl n w' (a.put o.dst u) (Tr.app ⟨Hf ⟨d,gd,.calld M c⟩++(b++h).map .con,Cl d++((b++h).map .con++(b++h).map .len),d,ren (Bg (b++h)) x,b++h,H1.map λo=>o.map (renO (Bg (b++h)))⟩ σ):=by
   intro n w' u j I J hn;refine⟨I,?_,L2 q.defers _ _,λL i=>?_⟩
   ·have:=Ur R;simp only at this;rw[<-this];exact L1 (q.rep.mono j) J _
   ·simp only[Tr.app,f32]at i;rw[hn L (by simpa using i.2)];exact q.free L i.1
  unfold fitI at R;rw[f32,f32]at R;have m:=R.2;simp only at m;split at m
  ·rename_i e _;cases e
  ·rename_i x' a0 yo as ab a1 e2;cases a1;rw[f32]at m;have⟨aa,v⟩:=m;have Y:=Bv q.rep aa;rw[Q M (by simp[Ex]),a8]at Y;have⟨vs,ws,X,l1,l2,i1,i2⟩:=b2c Y;have O:=a48 q.rep _ as.toList v;have e3:(as.toList.map a.eval).toArray=as.map a.eval:=(by apply f6v;simp);rw[e3]at O;have N:=RepL.append (RepL.append (show RepL E first vs from ⟨l1,i1⟩) O) (show RepL E cap ws from ⟨l2,i2⟩);have U:(execOp a.eval o).run P w=.ok (.enter f (vs++as.map a.eval++ws)) w:=by
    simp only[execOp,e2,resolve,X,Deferred.ofValue,f5v,f5w,Result.andThen,invoke];exact a1m hC.1 _ _
   unfold Oper.wp;rw[U];refine(hC.2 Ef w _ V (F _ _ N)).mono ?_;rintro e w' ⟨u,E1,y,G,rfl,⟨rfl,rfl⟩,S,a7,a9⟩;have⟨n,j,I,J,hn⟩:=z E1 w' G (by simpa using S) a7 T;exact hk n _ w' (a3.trans (j.toN n0)) (a6 n w' u j I (J _ _ a9) hn)
  all_goals first|(rename_i e _;cases e;done)|(rename_i e;cases e;done)|(simp at m;done)|(simp_all;done)
 ·refine Vk (λt W D=>B ?_) (λL i=>⟨λe=>B ?_,λe=>B ?_⟩)
  ·simp only at W;rw[D];simp[Cl,W]
  ·rw[e];exact f0k _ (f0v _ (f62.2 ⟨L,i,rfl⟩))
  ·rw[e];exact f0k _ (f0k _ (f62.2 ⟨L,i,rfl⟩))
 ·simp only at W;simp[Cl,W]
 ·exact f0k _ (f0v _ (f62.2 ⟨L,i,rfl⟩))
theorem DoesF.call{E0:Env}{J:Array Oper}{QQ:Exit->Act->World->Prop}{k:Nat}{o:Oper}{d:Option Nat}{gd:Option (Nat×Bool)}{f:FuncId}{c:LQ}{σ0:St}(ho:J[k]?=some o)(N:fitI P J ⟨d,gd,.call f c⟩ o=true)(a4:Pq σ0.fr gd)
 {b h:lN} (a3:(b++h).Nodup) (B:∀ r∈b++h,r<σ0.H.length) (z:∀ r∈h,σ0.free r=true) {K0:AV->AH->Prop} (Q:∀ y G,K0 y G->G.length=(b++h).length)
 (Y:C P f (Ck (Bh b) (c.map (evalA σ0.fr))) (b.map λr=>(σ0.H.at r).map (renO (Bh b))) K0) :
 DoesF P n0 E0 J QQ k ⟨Hf ⟨d,gd,.call f c⟩++(b++h).map .con,Cl d++((b++h).map .con++(b++h).map .len),d,U,b++h,[]⟩
  (λτ=>∃ y G,K0 y G/\τ=⟨Hf ⟨d,gd,.call f c⟩++(b++h).map .con,Cl d++((b++h).map .con++(b++h).map .len),d,ren (Bg (b++h)) y,b++h,G.map λo=>o.map (renO (Bg (b++h)))⟩) σ0:=by
 refine⟨λσ Z E w a next a2 L hk=>?_,λτ hτ=>?_,λτ hτ σ l A=>?_,λt T=>?_,λK i=>?_⟩
 ·have⟨a0,a1⟩:=Yn (A7:=⟨d,gd,.call f c⟩) Z (λl hl=>f0v _ hl);have p:∀ r∈b++h,σ.H.at r=σ0.H.at r/\σ.free r=σ0.free r:=λr i=>U5 (Z.on (.con r) (f0k _ (f62.2 ⟨r,i,rfl⟩)));refine Tf ho N L (λg q hg=>by rw[a1 g q hg];exact a4 g q hg) ?_;have⟨Ef,S,D,v⟩:=b55 L.sim b h a3 (λr i=>by rw[Z.H];exact B r i) (λr i=>L.free r (by rw[(p r (f0k _ i)).2];exact z r i));have e0:(b.map λr=>(σ.H.at r).map (renO (Bh b)))=b.map λr=>(σ0.H.at r).map (renO (Bh b)):=f16 λr i=>by rw[(p r (f0v _ i)).1]
  rw[e0]at S;have X:c.map (evalA σ0.fr)=c.map (evalA σ.fr):=f16 λy V=>(a0 y (by simpa [Ex]using V)).symm;rw[X]at Y;have a5:∀ (x:AV) (H1:AH) (n:Env) (w':World) (u:Value),Le E n->Sim n w' (Cp σ.H (b++h) (H1.map λo=>o.map (renO (Bg (b++h)))))->Rep n (ren (Bg (b++h)) x) u->(∀ r,r∉b++h->n.ρ r=E.ρ r)->
   Rl n w' (a.put o.dst u) (Tr.app ⟨Hf ⟨d,gd,.call f c⟩++(b++h).map .con,Cl d++((b++h).map .con++(b++h).map .len),d,ren (Bg (b++h)) x,b++h,H1.map λo=>o.map (renO (Bg (b++h)))⟩ σ):=by
   intro x H1 n w' u j F I hn;refine⟨F,?_,L2 L.defers _ _,λK i=>?_⟩
   ·have:=Ur N;simp only at this;rw[<-this];exact L1 (L.rep.mono j) I _
   ·simp only[Tr.app,f32]at i;rw[hn K (by simpa using i.2)];exact L.free K i.1
  unfold fitI at N;rw[f32,f32]at N;have m:=N.2;simp only at m;split at m
  ·rename_i f' W g as a8 X e2;cases X;rw[f32,f2f]at m;obtain⟨rfl,s⟩:=m;have M:=a48 L.rep _ as.toList s;have e3:(as.toList.map a.eval).toArray=as.map a.eval:=(by apply f6v;simp);rw[e3]at M;have R:(execOp a.eval o).run P w=.ok (.enter f (as.map a.eval)) w:=by
    simp only[execOp,e2,resolve,Deferred.ofValue,show ∀ g,a.eval (.func g)=.func (.func g) #[] #[]from λ_=>rfl,f5v,f5w,Result.andThen,invoke];rw[show(#[]++as.map a.eval++ #[]:Array Value)=as.map a.eval from by simp];exact a1m Y.1 _ _
   unfold Oper.wp;rw[R];refine(Y.2 Ef w _ S (D _ _ M)).mono ?_;rintro e w' ⟨u,E1,y,G,rfl,V,O,a6,a7⟩;have⟨n,j,F,I,hn⟩:=v E1 w' G (by simpa using O) a6 (Q y G V);exact hk _ n _ w' ⟨y,G,V,rfl⟩ (a2.trans (j.toN n0)) (a5 y G n w' u j F (I _ _ a7) hn)
  all_goals first|(rename_i e _;cases e;done)|(rename_i e;cases e;done)|(simp at m;done)|(simp_all;done)
 ·obtain⟨y,G,_,rfl⟩:=hτ;exact⟨rfl,rfl,rfl,rfl⟩
 ·obtain⟨y,G,_,rfl⟩:=hτ;refine Vk (λt T B=>A ?_) (λK i=>⟨λe=>A ?_,λe=>A ?_⟩)
  ·simp only at T;rw[B];simp[Cl,T]
  ·rw[e];exact f0k _ (f0v _ (f62.2 ⟨K,i,rfl⟩))
  ·rw[e];exact f0k _ (f0k _ (f62.2 ⟨K,i,rfl⟩))
 ·simp only at T;simp[Cl,T]
 ·exact f0k _ (f0v _ (f62.2 ⟨K,i,rfl⟩))
end
end
section
theorem er7{P:Program}{E:Env}{w:World}{H:AH}(B:Sim E w H){t u e:TypeId}{sz a:Nat}{zero:LA}(R:TypeId)(Z:P.underlying t=some (.slice e))(c:El P e sz a zero)
 (hu:∃ d,P.underlying u=some d/\∀ k,d≠.int k) {y:AV} {T:Value} (I:Rep E y T) {news:List LA} (h:E4 H y=some news) (f:∀ e∈news,e.length=sz) (L:0<news.length)
 (U:news.length*a<=1000000000000) (hl:news.length<=1000000000) (G:Option Addr) (r:Nat) (Y:r<H.length) (V:∀ x,E.ρ r=some x->x.t=0) :
 ∃ S w' F,(Builtin.append_ #[t,u] R #[.slice G 0 0,T]).run P w=.ok S w'/\Le E F/\Sim F w' (H.set r (some news))/\Rep F (.own r sz 0 news.length news.length) S/\∀ s,s≠r->E.ρ s=none->F.ρ s=none:=by
 obtain⟨_,_,_,_,n,_⟩:=Tp (P:=P) B I h sz f;have M:Sim E w.drew H:=B.drawn (w.drawn+1);obtain⟨D,l,q,p,_,J⟩:=Tp (P:=P) M I h sz f;have g:=J news.length (f6o _);have j:D.extract 0 (news.length*sz)=D:=by rw[<-l];simp
 rw[j]at g;have o:(Builtin.firstCells sz 0 (.slice G 0 0)).run P w.drew=.ok #[] w.drew:=by
  cases G<;>simp[Builtin.firstCells,f5w,loadCells,loadCellsFrom]
 have⟨m,k,z,X,Q,A⟩:=ap1 (P:=P) (w:=w) R Z c hu n g o (base:=G) (len:=0) (cap:=0) om om (by simpa using U);have b:D6 E sz (#[]++D++Builtin.zeroCells z.cells (m-(0+news.length))) ([]++news):=D6.append3 (λi e k v u hi=>by simp at hi) q sm l sm f;rw[f41]at b;have N:Sim E { w with drawn:=k } H:=B.drawn k;have⟨K,C⟩:=N.renew Y news sz (#[]++D++Builtin.zeroCells z.cells (m-(0+news.length))) e (0,0) (λy I=>by rw[V y I];exact L) c.pos (.inl rfl) f (by simp;omega)
  (U0 (U0 (λi v hv=>by simp at hv) (as8 p)) (V0 Q c.all _)) b
 refine⟨_,_,_,A,K,C,?_,λs B W=>(Env.with_ne _ _ B).trans W⟩;have O:z.cells.size=sz:=by rw[<-Q.1,c.len]
 have:=Rep.own (E:=E.with r ⟨w.heap.size,sz,(#[]++D++Builtin.zeroCells z.cells (m-(0+news.length))).size,news.length⟩) r sz 0 news.length news.length m _ (Env.with_same _ _ _) rfl rfl om om om
  (by
   simp only[f2l,f4t,O,l];have:(0+m)*sz=news.length*sz+(m-(0+news.length))*sz:=(by rw[<-f6n];congr 1;omega);simp only[this];exact f67 sm)
 simpa using this
theorem dj9{P:Program}{sz B:Nat}{zero:LA}{x y:Opd}{o:Op}(hf:Ci P (.append sz B zero x y) o=true){E:Env}{w:World}{H:AH}{fr:LA}{a:Act}{j:Oper}(ho:j.op=o)(L:Sim E w H)(hr:RepL E fr a.tmps)
 {r len:Nat} {news:List LA} {A:AObj} (e1:evalA fr x=.own r sz 0 len len\/(evalA fr x=.emp/\len=0)) (S:E4 H (evalA fr y)=some news) (hl:B1 H r len=some A) (av:news.all (λe=>decide (e.length=sz))=true/\(len+news.length)*B<=1000000000000/\len+news.length<=1000000000) :
 ∃ u w' E',(execOp a.eval j).run P w=.ok (.value u) w'/\Le E E'/\Sim E' w' (H.set r (some (A++news)))/\Rep E' (.own r sz 0 (len+news.length) (len+news.length)) u/\∀ s,s≠r->E.ρ s=none->E'.ρ s=none:=by
 have⟨a3,hb,ao⟩:=av;cases o<;>simp only[Ci,f1k]at hf;rename_i c;have⟨V,ac,ts⟩:=c;cases V<;>try (simp only[Ci,f1k]at hf;done)
 rename_i b;cases b<;>simp only[Ci,f1k]at hf;split at hf
 ·rename_i x' y' t u C aa;simp only[f32]at hf;have⟨⟨⟨ht,hu⟩,h1⟩,h2⟩:=hf;have hx:=Bv hr h1;have hy:=Bv hr h2;have C:ac= #[x',y']:=by apply f6v;simpa using C
  have aa:ts= #[t,u]:=by apply f6v;simpa using aa
  subst C;subst aa;obtain⟨e,X,D⟩:∃ e,P.underlying t=some (.slice e)/\El P e sz B zero:=by
   split at ht
   ·exact⟨_,by assumption,ah8 ht⟩
   ·cases ht
  have hu:=cc7 hu;have Cj:∀ {s:Value} {u':Value} {w':World},a.eval x'=s->(Builtin.append_ #[t,u] j.type #[s,a.eval y']).run P w=.ok u' w'->(execOp a.eval j).run P w=.ok (.value u') w':=by
   intro s u' w' ay f;subst ay;simp only[execOp,ho,resolve,f5v,f5w,Result.andThen,invoke,builtin,f34,f5b,f5x,f]
  replace hx:Rep E (.own r sz 0 len len) (a.eval x'):=by
   rcases e1 with e1|⟨e1,rfl⟩
   ·rwa [e1]at hx
   ·rw[e1]at hx;have⟨M,he⟩:=Jc hx;rw[he];exact .own0 _ _ _
  have⟨N,m,Y⟩:=Ie L hl;have I:=az8 a3;have⟨us,ab,ak,a2,l,aq⟩:=Tp (P:=P) L hy S sz I;have J:=aq news.length (f6o _);have a5:us.extract 0 (news.length*sz)=us:=by rw[<-ab];simp
  rw[a5]at J;rcases f1o news.length with h0|aj
  ·have ah:news=[]:=ez8.1 h0;subst ah;obtain⟨M,cap,p,ar⟩:∃ M cap,a.eval x'=.slice M len cap/\len<=cap:=by
    rcases Kh hx Y with ⟨M,_,rfl,_,he⟩|⟨x2,cap,_,_,_,g,_,_,he⟩
    ·exact⟨M,0,he,f6o _⟩
    ·exact⟨_,cap,he,g⟩
   have f:(Builtin.append_ #[t,u] j.type #[.slice M len cap,a.eval y']).run P w=.ok (.slice M len cap) w:=by
    obtain⟨i,z,hi,az,_⟩:=D.ex;have⟨d,hd,ap⟩:=hu;have hm:(match d with|.int _=>true|_=>false)=false:=by
     cases d<;>first|rfl|exact absurd rfl (ap _)
    have am:us.toList=[]:=by
     have:us.size=0:=(by simpa using ab);simpa using this
    rw[f3w]at J l;unfold Builtin.append_;simp only[f0g,ez7,ez9,f5v,f4m X,Result.andThen,Hg hi,az,f4m hd,f5w,hm,f1k,if_false,l,f5y,ar,if_true,f4s,J]
    cases M with
    |none=>simp[f5w,Sem.run]
    |some M=>simp only[am,storeCells,f5v,f5w,Result.andThen]
   refine⟨_,w,E,Cj p f,Le.refl E,?_,?_,λs _ h=>h⟩
   ·rw[f42,a61 N];exact L
   ·rw[<-p];simpa using hx
  ·rcases Kh hx Y with ⟨M,_,rfl,_,p⟩|⟨x2,cap,an,n,g1,g2,g3,g4,p⟩
   ·have ho:A=[]:=ez8.1 m;subst ho;have⟨u',w',E',h1,h2,h3,h4,h5⟩:=er7 (P:=P) L j.type X D hu hy S I aj (by simpa using hb) om M r (Tc N) (λx b1=>Y x b1);exact⟨u',w',E',Cj p h1,h2,by simpa using h3,by simpa using h4,h5⟩
   ·have F:=Hs L N an;have⟨cells,te,q,a0,ae,hq,O,Q⟩:=F.blk;have T:∀ e∈A,e.length=sz:=(by rw[<-n];exact F.sz);rw[f5z]at p;rw[f66,n]at g4;have b3:len*sz<=cap*sz:=f0r _ g2;by_cases G:len+news.length<=cap
    ·have ag:(len+news.length)*sz<=cap*sz:=f0r _ G;rw[f6n]at ag;have f:=b29 (P:=P) j.type X D hu l J a2 (off:=0) a0 (by rw[ae];exact hq) G om;rw[f66]at f;have al:=D6.splice (E:=E) (sz:=sz) (cells:=cells) (o:=A) (news:=news) (by rw[<-n];exact Q) T I ak ab A.length (f6o _) (by rw[m,f6n];omega);have e4:A.take A.length++news++A.drop (A.length+news.length)=A++news:=(by simp);rw[e4,m]at al;have⟨a6,R⟩:=L.write N an (o':=A++news) (splice cells (len*sz) us.toList) te q (by rw[Wv];exact ae) hq sm
      (by
       intro e' a4;rcases f43.1 a4 with h'|h'
       ·exact F.sz e' h'
       ·rw[n];exact I e' h')
      (by rw[f1q,m,n,f6n];omega) (a1e O _ _ a2 (by simp;omega)) (by rw[n];exact al)
     refine⟨_,_,_,Cj p f,a6,R,?_,λs L hn=>(Env.with_ne _ _ L).trans hn⟩
     have:=Rep.own (E:=E.with r { x2 with t:=(A++news).length }) r sz 0 (len+news.length) (len+news.length) cap _ (Env.with_same _ _ _) (by simp;omega) n om G om (by rw[f66];simp only[n];omega);simpa using this
    ·have ax:Sim E w.drew H:=L.drawn (w.drawn+1);obtain⟨Z,U,a8,a7,_,af⟩:=Tp (P:=P) ax hy S sz I;have a1:=af news.length (f6o _);have W:Z.extract 0 (news.length*sz)=Z:=(by rw[<-U];simp);rw[W]at a1;have ai:(Builtin.firstCells sz len (.slice (some ⟨x2.b,0,none⟩) len cap)).run P w.drew=.ok (cells.extract 0 (0+len*sz)) w.drew:=by
      simp only[Builtin.firstCells];exact a67 P (w:=w.drew) a0 0 _ om
     have⟨nc,k,z,au,hz,f⟩:=ap1 (P:=P) (w:=w) j.type X D hu l a1 ai (base:=some ⟨x2.b,0,none⟩) (len:=len) (cap:=cap) om om hb;have aw:D6 E sz (cells.extract 0 (0+len*sz)) A:=by
      intro i e' k' c u' hi hk K;rw[f06]at K;split at K
      ·rw[f66]at K;rw[<-n]at K;exact Q i e' k' c u' hi hk K
      ·cases K
     have a9:=D6.append3 (c:=Builtin.zeroCells z.cells (nc-(len+news.length))) aw a8 (by simp;rw[m];omega) U T I;have b0:Sim E { w with drawn:=k } H:=L.drawn k;have⟨a6,R⟩:=b0.renew (Tc N) (A++news) sz (cells.extract 0 (0+len*sz)++Z++Builtin.zeroCells z.cells (nc-(len+news.length))) e (0,0)
      (λy hy=>by rw[Y y hy];simp;omega) D.pos (.inl rfl)
      (by
       intro e' a4;rcases f43.1 a4 with h'|h'
       ·exact T e' h'
       ·exact I e' h')
      (by rw[f1q,f6n,m];simp;omega)
      (U0 (U0 (λi v hv=>by
       rw[f06]at hv;split at hv
       ·exact O _ v hv
       ·cases hv) (as8 a7)) (V0 hz D.all _)) a9
     refine⟨_,_,_,Cj p f,a6,R,?_,λs L hn=>(Env.with_ne _ _ L).trans hn⟩;have b2:z.cells.size=sz:=by rw[<-hz.1,D.len]
     have:=Rep.own (E:=E.with r ⟨w.heap.size,sz,(cells.extract 0 (0+len*sz)++Z++Builtin.zeroCells z.cells (nc-(len+news.length))).size,(A++news).length⟩) r sz 0 (len+news.length) (len+news.length) nc _ (Env.with_same _ _ _)
      (by simp;omega) rfl om au om
      (by
       simp only[f2l,f4t,b2,U];have e6:(0+nc)*sz=len*sz+news.length*sz+(nc-(len+news.length))*sz:=(by rw[<-f6n,<-f6n];congr 1;omega);rw[e6];have:(cells.extract 0 (0+len*sz)).size=len*sz:=(by simp;omega);rw[this];exact f6o _)
     simpa using this
 ·cases hf
theorem d7e{H a:AH}{y:AV}(h:∀ r,.con r∈Ia y->H.at r=a.at r):E4 H y=E4 a y:=by
 cases y<;>first|rfl|skip
 rename_i r sz off len tot;simp only[E4,Ih];rw[a73 (h r (by simp[Ia]))]
section
variable {P:Program} {n0:Nat}
theorem Does.append{E0:Env}{q:Array Oper}{QQ:Exit->Act->World->Prop}{k:Nat}{o:Oper}{d:Option Nat}{gd:Option (Nat×Bool)}{sz b:Nat}{zero:LA}{x y:Opd}{σ0:St}(ho:q[k]?=some o)(L:fitI P q ⟨d,gd,.append sz b zero x y⟩ o=true)(R:Pq σ0.fr gd)
 {r len:Nat} {news:List LA} {W:AObj} (s:evalA σ0.fr x=.own r sz 0 len len\/(evalA σ0.fr x=.emp/\len=0)) (i:E4 σ0.H (evalA σ0.fr y)=some news) (J:B1 σ0.H r len=some W) (f:news.all (λe=>decide (e.length=sz))=true/\(len+news.length)*b<=1000000000000/\len+news.length<=1000000000) :
 Does P n0 E0 q QQ k ⟨Hf ⟨d,gd,.append sz b zero x y⟩++.con r::Ia (evalA σ0.fr y),Cl d++[.con r,.len r],d,.own r sz 0 (len+news.length) (len+news.length),[r],[some (W++news)]⟩ σ0:=by
 refine⟨λσ I E w a next O A Z=>?_,λσ I l n=>?_,λt F=>?_,λz c=>by simp at c;simp[c]⟩
 ·obtain⟨C,N⟩:=Yn (A7:=⟨d,gd,.append sz b zero x y⟩) I (λl J=>f0v _ J);have B:=U5 (I.on (.con r) (by simp));refine Tf ho L A (λg m V=>by rw[N g m V];exact R g m V) ?_;have M:Ci P (.append sz b zero x y) o.op=true:=by
   have G:∃ v U,Cw (.append sz b zero x y) (evalA σ0.fr) σ0.H=some (v,U):=by
    rcases s with s|⟨s,Y⟩
    ·simp only[Cw,s,i,J,f.1];rw[iN (by simp),iP (by simp),iP f.2];exact⟨_,_,rfl⟩
    ·subst Y;have K:=f.2;rw[f66]at K;simp only[Cw,s,i];rw[iP ⟨K.1,K.2,f.1⟩];exact⟨_,_,rfl⟩
   obtain⟨v,U,G⟩:=G
   have:=aw1 L (.inr ⟨evalA σ0.fr,σ0.H,_,G⟩);rw[f44]at this;rcases this with h|h
   ·rw[aw2 h]at G;cases G
   ·exact h
  have p:E4 σ.H (evalA σ.fr y)=some news:=by
   rw[C y (by simp[Ex]),<-i];exact d7e λz c=>(U5 (I.on (.con z) (by simp only[f43,f5h];exact .inr (.inr c)))).1
  obtain⟨u,w',X,D,j,S,T,hn⟩:=dj9 M rfl A.sim A.rep (by rw[C x (by simp[Ex])];exact s) p (by rw[a73 B.1];exact J) f;unfold Oper.wp;rw[D];refine Z X _ w' (O.trans (j.toN n0)) ⟨S,?_,L2 A.defers _ _,λz c=>?_⟩
  ·rw[<-Ur L];exact L1 (A.rep.mono j) T _
  ·simp only[Tr.app,f32]at c;refine hn z ?_ (A.free z c.1);rintro rfl;simp at c
 ·refine Vk (λt F Q=>n ?_) (λz c=>⟨λe=>n ?_,λe=>n ?_⟩)
  ·simp only at F;rw[Q];simp[Cl,F]
  ·simp at c;rw[e,c];simp
  ·simp at c;rw[e,c];simp
 ·simp only at F;simp[Cl,F]
end
end
section
abbrev Jm:=Nat×List Loc×List Loc
def logOf(x:Nat×Tr):Jm:=(x.1,x.2.R,x.2.W)
def au6(a b:Jm):Bool:=a.2.2.all (λl=> !b.2.1.contains l&&!b.2.2.contains l)&&b.2.2.all λl=> !a.2.1.contains l
def confOK(tab:List lN):List Jm->Bool
 |[]=>true
 |a::l=>l.all (λb=>anT tab b.1 a.1||au6 a b)&&confOK tab l
def Wu(P:Program)(op:AOp)(d:Option Nat)(c:Nat)(fr:LA)(H:AH)(K:List Loc->List Loc->Nat->LA->AH->Prop):Prop:=
 match op with
 |.call f args=>∃ (a:lN) (k:Nat) (x:AV) (H1:AH),a.Nodup/\(∀ r∈a,r<c)/\c+k<=H.length/\H1.length=a.length+k/\
  C P f (Ck (Bh a) (args.map (evalA fr))) (a.map λr=>(H.at r).map (renO (Bh a))) (λy G=>y=x/\G=H1)/\
  K ((a++List.range' c k).map .con) ((a++List.range' c k).map .con++(a++List.range' c k).map .len) (c+k) (Bd fr d (ren (Bg (a++List.range' c k)) x))
    (Cp H (a++List.range' c k) (H1.map λo=>o.map (renO (Bg (a++List.range' c k)))))
 |.store n p x=>∃ (r i j tot:Nat) (b e:LA) (o:AObj),evalA fr p=.ptr r i j tot/\cellsOf (evalA fr x)=some b/\B1 H r tot=some o/\o[i]?=some e/\(b.length=n/\j+n<=e.length/\b.all cellA=true)/\r<c/\
  K [.con r] [.con r] c (Bd fr d .top) (H.set r (some (o.set i (lay e j b))))
 |.append sz bytes zero x y=>∃ (r len:Nat) (news:List LA) (o:AObj),(evalA fr x=.own r sz 0 len len\/(evalA fr x=.emp/\len=0))/\E4 H (evalA fr y)=some news/\B1 H r len=some o/\(news.all (λe=>decide (e.length=sz))=true/\(len+news.length)*bytes<=1000000000000/\len+news.length<=1000000000)/\r<c/\
  K (.con r::Ia (evalA fr y)) [.con r,.len r] c (Bd fr d (.own r sz 0 (len+news.length) (len+news.length))) (H.set r (some (o++news)))
 |.calld x0 args=>∃ (f:FuncId) (first cap:LA),evalA fr x0=.fn (.func f) first cap/\∃ (a:lN) (k:Nat) (x:AV) (H1:AH),a.Nodup/\(∀ r∈a,r<c)/\c+k<=H.length/\H1.length=a.length+k/\
  C P f (Ck (Bh a) (first++args.map (evalA fr)++cap)) (a.map λr=>(H.at r).map (renO (Bh a))) (λy G=>y=x/\G=H1)/\
  K ((a++List.range' c k).map .con) ((a++List.range' c k).map .con++(a++List.range' c k).map .len) (c+k) (Bd fr d (ren (Bg (a++List.range' c k)) x))
    (Cp H (a++List.range' c k) (H1.map λo=>o.map (renO (Bg (a++List.range' c k)))))
 |.eqnil _ _=>False
 |.bad=>False
 |op=>
   if Qf op then ∃ (v:AV) (o:AObj),Cw op (evalA fr) []=some (v,[some o])/\c<H.length/\
    K [.con c] [.con c,.len c] (c+1) (Bd fr d (ren (Bg [c]) v)) (H.set c (some o))
   else ∃ v,Be op (evalA fr) H=some v/\K (J4 op (evalA fr)) [] c (Bd fr d v) H
def b1o(P:Program)(op:AOp)(d:Option Nat)(c:Nat)(fr:LA)(H:AH)(b:List Loc->List Loc->Prop)(K:List Loc->List Loc->Nat->LA->AH->Prop):Prop:=
 match op with
 |.call f args=>∃ (a:lN) (k:Nat) (K0:AV->AH->Prop),a.Nodup/\(∀ r∈a,r<c)/\c+k<=H.length/\b ((a++List.range' c k).map .con) ((a++List.range' c k).map .con++(a++List.range' c k).map .len)/\
  C P f (Ck (Bh a) (args.map (evalA fr))) (a.map λr=>(H.at r).map (renO (Bh a))) K0/\
  ∀ y G,K0 y G->G.length=a.length+k/\K ((a++List.range' c k).map .con) ((a++List.range' c k).map .con++(a++List.range' c k).map .len) (c+k) (Bd fr d (ren (Bg (a++List.range' c k)) y))
    (Cp H (a++List.range' c k) (G.map λo=>o.map (renO (Bg (a++List.range' c k)))))
 |_=>False
def F6(i:Nat)(A7:AInstr)(R W:List Loc):Jm:=(i,Hf A7++R,Cl A7.dst++W)
def b79(tab:List lN)(b:List Jm)(i:Nat)(A7:AInstr)(a:List (Nat×AInstr))(R W:List Loc):Prop:=
 confOK tab (b++[F6 i A7 R W])=true/\a.all (λy=>anT tab y.1 i)=true
def RE0(P:Program)(tab:List lN):List (Nat×AInstr)->Nat->List Jm->(LA->AH->Prop)->LA->AH->Prop
 |[],_,lg,K,fr,H=>confOK tab lg=true/\K fr H
 |(i,A7)::rest,c,lg,K,fr,H=>
   match A7.guard with
   |none=>Wu P A7.op A7.dst c fr H (λR W d a b=>RE0 P tab rest d (lg++[F6 i A7 R W]) K a b)\/
    b1o P A7.op A7.dst c fr H (b79 tab lg i A7 rest) (λR W d a b=>RE0 P tab rest d (lg++[F6 i A7 R W]) K a b)
   |some (g,want)=>Ue (fr[g]?) want (Wu P A7.op A7.dst c fr H λR W d a b=>RE0 P tab rest d (lg++[F6 i A7 R W]) K a b)
    (RE0 P tab rest c (lg++[(i,[.slot g],Cl A7.dst)]) K (Bd fr A7.dst (.tuple [])) H)
def a5y(P:Program)(op:AOp)(d:Option Nat)(c:Nat)(fr:LA)(H:AH)(K:List Loc->List Loc->Nat->LA->AH->Prop):Prop:=
 match op with
 |.call f args=>∃ x,Ed x=true/\C P f (B9 H (args.map (evalA fr))) [] (λy _=>y=x)/\K ((Gy H (args.map (evalA fr))).map .con) [] c (Bd fr d x) H
 |_=>False
def RE(P:Program)(tab:List lN):List (Nat×AInstr)->Nat->List Jm->(LA->AH->Prop)->LA->AH->Prop
 |[],_,lg,K,fr,H=>confOK tab lg=true/\K fr H
 |(i,A7)::rest,c,lg,K,fr,H=>
   match A7.guard with
   |none=>Wu P A7.op A7.dst c fr H (λR W d a b=>RE P tab rest d (lg++[F6 i A7 R W]) K a b)\/
    b1o P A7.op A7.dst c fr H (b79 tab lg i A7 rest) (λR W d a b=>RE P tab rest d (lg++[F6 i A7 R W]) K a b)\/
    a5y P A7.op A7.dst c fr H (λR W d a b=>RE P tab rest d (lg++[F6 i A7 R W]) K a b)
   |some (g,want)=>Ue (fr[g]?) want (Wu P A7.op A7.dst c fr H (λR W d a b=>RE P tab rest d (lg++[F6 i A7 R W]) K a b)\/a5y P A7.op A7.dst c fr H (λR W d a b=>RE P tab rest d (lg++[F6 i A7 R W]) K a b))
    (RE P tab rest c (lg++[(i,[.slot g],Cl A7.dst)]) K (Bd fr A7.dst (.tuple [])) H)
section
variable {P:Program} {n0:Nat}
theorem d7c{A7:AInstr}{o:Oper}{m:Array Oper}{E0:Env}{QQ:Exit->Act->World->Prop}{i c:Nat}{fr:LA}{H:AH}{K:List Loc->List Loc->Nat->LA->AH->Prop}(u:m[i]?=some o)(t:fitI P m A7 o=true)(g:Pq fr A7.guard)
 (h:Wu P A7.op A7.dst c fr H K):∃ (τ:Tr) (R W:List Loc) (q:Nat),τ.R=Hf A7++R/\τ.W=Cl A7.dst++W/\Does P n0 E0 m QQ i τ ⟨fr,H,λr=>decide (c<=r)⟩/\c<=q /\
  τ.app ⟨fr,H,λr=>decide (c<=r)⟩=⟨(τ.app ⟨fr,H,λr=>decide (c<=r)⟩).fr,(τ.app ⟨fr,H,λr=>decide (c<=r)⟩).H,λr=>decide (q<=r)⟩/\
  K R W q (τ.app ⟨fr,H,λr=>decide (c<=r)⟩).fr (τ.app ⟨fr,H,λr=>decide (c<=r)⟩).H:=by
 have⟨d,gd,op⟩:=A7;have z:((if Qf op then ∃ (v:AV) (o:AObj),Cw op (evalA fr) []=some (v,[some o])/\c<H.length/\ K [.con c] [.con c,.len c] (c+1) (Bd fr d (ren (Bg [c]) v)) (H.set c (some o)) else ∃ v,Be op (evalA fr) H=some v/\K (J4 op (evalA fr)) [] c (Bd fr d v) H))->∃ (τ:Tr) (R W:List Loc) (q:Nat),τ.R=Hf ⟨d,gd,op⟩++R/\τ.W=Cl d++W/\Does P n0 E0 m QQ i τ ⟨fr,H,λr=>decide (c<=r)⟩/\c<=q /\
   τ.app ⟨fr,H,λr=>decide (c<=r)⟩=⟨(τ.app ⟨fr,H,λr=>decide (c<=r)⟩).fr,(τ.app ⟨fr,H,λr=>decide (c<=r)⟩).H,λr=>decide (q<=r)⟩/\
   K R W q (τ.app ⟨fr,H,λr=>decide (c<=r)⟩).fr (τ.app ⟨fr,H,λr=>decide (c<=r)⟩).H:=by
  intro h;split at h
  ·rename_i C;have⟨v,J,F,L,D⟩:=h;refine⟨_,[.con c],[.con c,.len c],c+1,rfl,rfl,Does.fresh u t g C F L sm,by omega,?_,D⟩;simp only[Tr.app,St.mk.injEq,f73];funext r;by_cases l:r=c
   ·subst l;simp
   ·by_cases b:c<=r
    ·have:c+1<=r:=om;simp[l,b,this]
    ·have:¬ c+1<=r:=om;simp[b,this]
  ·have⟨v,F,D⟩:=h;refine⟨_,J4 op (evalA fr),[],c,rfl,by simp,Does.val u t g F,by omega,?_,D⟩;simp[Tr.app]
 cases op
 case call f w=>
  have⟨I,k,x,H1,l,b,h3,h4,h5,h6⟩:=h;have s:(I++List.range' c k).Nodup:=b3f l b;refine⟨_,_,_,c+k,rfl,rfl,Does.call u t g s (λr a=>?_) (λr a=>?_) (by simp;omega) h5,by omega,?_,h6⟩
  ·rw[f43,f2n]at a;simp only;rcases a with a|a
   ·have:=b r a;omega
   ·omega
  ·rw[f2n]at a;simp;omega
  ·simp only[Tr.app,St.mk.injEq,f73];exact b53 b
 case store n p x=>
  have⟨r,N,j,tot,M,e,J,l,b,h3,h4,h5,E,h6⟩:=h;refine⟨_,_,_,c,rfl,rfl,Does.store u t g l b h3 h4 h5,by omega,?_,h6⟩;simp only[Tr.app,St.mk.injEq,f73];funext A;by_cases h7:A=r
  ·subst h7;have:¬ c<=A:=om;simp[this]
  ·simp[h7]
 case append sz B zero x y=>
  have⟨r,len,news,J,l,b,h3,h4,E,h6⟩:=h;refine⟨_,_,_,c,rfl,rfl,Does.append u t g l b h3 h4,by omega,?_,h6⟩;simp only[Tr.app,St.mk.injEq,f73];funext A;by_cases h7:A=r
  ·subst h7;have:¬ c<=A:=om;simp[this]
  ·simp[h7]
 case calld O w=>
  have⟨f,first,cap,G,I,k,x,H1,l,b,h3,h4,h5,h6⟩:=h;have s:(I++List.range' c k).Nodup:=b3f l b;refine⟨_,_,_,c+k,rfl,rfl,Does.calld u t g G s (λr a=>?_) (λr a=>?_) (by simp;omega) h5,by omega,?_,h6⟩
  ·rw[f43,f2n]at a;simp only;rcases a with a|a
   ·have:=b r a;omega
   ·omega
  ·rw[f2n]at a;simp;omega
  ·simp only[Tr.app,St.mk.injEq,f73];exact b53 b
 case eqnil=>exact h.elim
 case bad=>exact h.elim
 all_goals exact z h
inductive Run (P:Program) (n0:Nat) (E0:Env) (ops:Array Oper) (QQ:Exit->Act->World->Prop) (tab:List (List Nat)) (K:List AV->AH->Prop):List Nat->List (Nat×Tr)->St->Prop
 |done (lg:List (Nat×Tr)) (σ:St) (hc:confOK tab (lg.map logOf)=true) (hk:K σ.fr σ.H):Run P n0 E0 ops QQ tab K [] lg σ
 |exact(i:Nat) (τ:Tr) (is:List Nat) (lg:List (Nat×Tr)) (σ:St) (hd:Does P n0 E0 ops QQ i τ σ) (hr:Run P n0 E0 ops QQ tab K is (lg++[(i,τ)]) (τ.app σ)):Run P n0 E0 ops QQ tab K (i::is) lg σ
 |fork (i:Nat) (T:Tr) (F:Tr->Prop) (is:List Nat) (lg:List (Nat×Tr)) (σ:St) (hc:confOK tab ((lg++[(i,T)]).map logOf)=true) (hl:∀ j∈is,anT tab j i=true) (hd:DoesF P n0 E0 ops QQ i T F σ)
  (hr:∀ τ,F τ->Run P n0 E0 ops QQ tab K is (lg++[(i,τ)]) (τ.app σ)):Run P n0 E0 ops QQ tab K (i::is) lg σ
theorem ak2{tab:List lN}{s:Array Oper}{E0:Env}{QQ:Exit->Act->World->Prop}{K:LA->AH->Prop}:∀ (is:List (Nat×AInstr)) (c:Nat) (m:List (Nat×Tr)) (fr:LA) (H:AH),
 (∀ x∈is,∃ o,s[x.1]?=some o/\fitI P s x.2 o=true)->RE P tab is c (m.map logOf) K fr H->
 Run P n0 E0 s QQ tab K (is.map Prod.fst) m ⟨fr,H,λr=>decide (c<=r)⟩
 |[],c,m,fr,H,_,h=>.done m _ h.1 h.2
 |(i,A7)::rest,c,m,fr,H,hfit,h=>by
   have⟨o,J,F⟩:=hfit (i,A7) sm;simp only at J F;have q:∀ x∈rest,∃ o,s[x.1]?=some o/\fitI P s x.2 o=true:=λx T=>hfit x (by simp[T]);have Y:Pq fr A7.guard->Wu P A7.op A7.dst c fr H (λR W w u C=>RE P tab rest w (m.map logOf++[F6 i A7 R W]) K u C)->
    Run P n0 E0 s QQ tab K (((i,A7)::rest).map Prod.fst) m ⟨fr,H,λr=>decide (c<=r)⟩:=by
    intro p h;obtain⟨τ,R,W,w,E,z,h3,_,h4,h5⟩:=d7c (n0:=n0) (E0:=E0) (QQ:=QQ) J F p h;refine .exact i τ _ m _ h3 ?_;rw[h4];refine ak2 rest w _ _ _ q ?_;have e:(m++[(i,τ)]).map logOf=m.map logOf++[F6 i A7 R W]:=(by simp[logOf,F6,E,z]);rw[e];exact h5
   have D:Pq fr A7.guard->a5y P A7.op A7.dst c fr H (λR W w u C=>RE P tab rest w (m.map logOf++[F6 i A7 R W]) K u C)->
    Run P n0 E0 s QQ tab K (((i,A7)::rest).map Prod.fst) m ⟨fr,H,λr=>decide (c<=r)⟩:=by
    intro p h;have⟨d,gd,op⟩:=A7;cases op with
    |call f a=>
      have⟨x,E,z,h3⟩:=h;have Q:=Does.look (n0:=n0) (E0:=E0) (QQ:=QQ) (σ0:=⟨fr,H,λr=>decide (c<=r)⟩) J F p E z;refine .exact i _ _ m _ Q ?_;have:Tr.app ⟨Hf ⟨d,gd,.call f a⟩++(Gy H (a.map (evalA fr))).map .con,Cl d,d,x,[],[]⟩ ⟨fr,H,λr=>decide (c<=r)⟩=⟨Bd fr d x,H,λr=>decide (c<=r)⟩:=by
       simp[Tr.app,Cp]
      rw[this];refine ak2 rest c _ _ _ q ?_;have e:(m++[(i,(⟨Hf ⟨d,gd,.call f a⟩++(Gy H (a.map (evalA fr))).map .con,Cl d,d,x,[],[]⟩:Tr))]).map logOf=m.map logOf++[F6 i ⟨d,gd,.call f a⟩ ((Gy H (a.map (evalA fr))).map .con) []]:=(by simp[logOf,F6]);rw[e];exact h3
    |_=>exact h.elim
   have N:Pq fr A7.guard->b1o P A7.op A7.dst c fr H (b79 tab (m.map logOf) i A7 rest) (λR W w u C=>RE P tab rest w (m.map logOf++[F6 i A7 R W]) K u C)->
    Run P n0 E0 s QQ tab K (((i,A7)::rest).map Prod.fst) m ⟨fr,H,λr=>decide (c<=r)⟩:=by
    intro p h;have⟨d,gd,op⟩:=A7;cases op with
    |call f a=>
      have⟨l,k,K0,E,z,h3,⟨h4,O⟩,h5,h6⟩:=h;have S:(l++List.range' c k).Nodup:=b3f E z;have hT:logOf (i,(⟨Hf ⟨d,gd,.call f a⟩++(l++List.range' c k).map .con,Cl d++((l++List.range' c k).map .con++(l++List.range' c k).map .len),d,U,l++List.range' c k,[]⟩:Tr)) =
       F6 i ⟨d,gd,.call f a⟩ ((l++List.range' c k).map .con) ((l++List.range' c k).map .con++(l++List.range' c k).map .len):=rfl
      refine .fork i ⟨Hf ⟨d,gd,.call f a⟩++(l++List.range' c k).map .con,Cl d++((l++List.range' c k).map .con++(l++List.range' c k).map .len),d,U,l++List.range' c k,[]⟩
       (λτ=>∃ y G,K0 y G/\τ=⟨Hf ⟨d,gd,.call f a⟩++(l++List.range' c k).map .con,Cl d++((l++List.range' c k).map .con++(l++List.range' c k).map .len),d,ren (Bg (l++List.range' c k)) y,l++List.range' c k,G.map λo=>o.map (renO (Bg (l++List.range' c k)))⟩)
       _ m _ ?_ ?_ ?_ ?_
      ·rw[f4c,f5b,f5x,hT];exact h4
      ·intro j hj;obtain⟨x,T,rfl⟩:=f62.1 hj;exact f35.1 O x T
      ·refine DoesF.call J F p S (λr B=>?_) (λr B=>?_) (λy G V=>?_) h5
       ·rw[f43,f2n]at B;simp only;rcases B with B|B
        ·have:=z r B;omega
        ·omega
       ·rw[f2n]at B;simp;omega
       ·have:=(h6 y G V).1;simp;omega
      ·rintro τ ⟨y,G,V,rfl⟩;have hk:=(h6 y G V).2;have Z:Tr.app ⟨Hf ⟨d,gd,.call f a⟩++(l++List.range' c k).map .con,Cl d++((l++List.range' c k).map .con++(l++List.range' c k).map .len),d,ren (Bg (l++List.range' c k)) y,l++List.range' c k,G.map λo=>o.map (renO (Bg (l++List.range' c k)))⟩ ⟨fr,H,λr=>decide (c<=r)⟩ =
        ⟨Bd fr d (ren (Bg (l++List.range' c k)) y),Cp H (l++List.range' c k) (G.map λo=>o.map (renO (Bg (l++List.range' c k)))),λr=>decide (c+k<=r)⟩:=by
        simp only[Tr.app,St.mk.injEq,f73];exact b53 z
       rw[Z];refine ak2 rest (c+k) _ _ _ q ?_;have e:(m++[(i,(⟨Hf ⟨d,gd,.call f a⟩++(l++List.range' c k).map .con,Cl d++((l++List.range' c k).map .con++(l++List.range' c k).map .len),d,ren (Bg (l++List.range' c k)) y,l++List.range' c k,G.map λo=>o.map (renO (Bg (l++List.range' c k)))⟩:Tr))]).map logOf =
        m.map logOf++[F6 i ⟨d,gd,.call f a⟩ ((l++List.range' c k).map .con) ((l++List.range' c k).map .con++(l++List.range' c k).map .len)]:=by simp[logOf,F6]
       rw[e];exact hk
    |_=>exact h.elim
   have skip:∀ g n,A7.guard=some (g,n)->((∃ b,fr[g]?=some (.bool b)/\b≠n)\/fr[g]?=some (.tuple []))->RE P tab rest c (m.map logOf++[(i,[.slot g],Cl A7.dst)]) K (Bd fr A7.dst (.tuple [])) H->
    Run P n0 E0 s QQ tab K (((i,A7)::rest).map Prod.fst) m ⟨fr,H,λr=>decide (c<=r)⟩:=by
    intro g n t hs h;have Q:=Does.skip (n0:=n0) (E0:=E0) (QQ:=QQ) (σ0:=⟨fr,H,λr=>decide (c<=r)⟩) J F t hs;refine .exact i _ _ m _ Q ?_;have:Tr.app ⟨[.slot g],Cl A7.dst,A7.dst,.tuple [],[],[]⟩ ⟨fr,H,λr=>decide (c<=r)⟩=⟨Bd fr A7.dst (.tuple []),H,λr=>decide (c<=r)⟩:=by
     simp[Tr.app,Cp]
    rw[this];refine ak2 rest c _ _ _ q ?_;have e:(m++[(i,(⟨[.slot g],Cl A7.dst,A7.dst,.tuple [],[],[]⟩:Tr))]).map logOf=m.map logOf++[(i,[.slot g],Cl A7.dst)]:=(by simp[logOf]);rw[e];exact h
   unfold RE at h;cases t:A7.guard with
   |none=>
     rw[t]at h;have p:Pq fr A7.guard:=λg n I=>(by rw[t]at I;cases I);rcases h with h|h|h
     ·exact Y p h
     ·exact N p h
     ·exact D p h
   |some gw=>
     have⟨g,n⟩:=gw;rw[t]at h;rcases h with ⟨b,M,L,A⟩|⟨M,A⟩
     ·by_cases v:b=n
      ·have p:Pq fr A7.guard:=λg' X I=>(by rw[t]at I;cases I;rw[<-v];exact M);rcases L v with h|h
       ·exact Y p h
       ·exact D p h
      ·exact skip g n t (.inl ⟨b,M,v⟩) (A v)
     ·exact skip g n t (.inr M) A
def WD(P:Program)(tab:List lN):List (List (Nat×AInstr))->(LA->AH->Prop)->LA->AH->Prop
 |[],K,fr,H=>K fr H
 |[(_,A7)]::rest,K,fr,H=>RA P [A7] (WD P tab rest K) fr H
 |seg::rest,K,fr,H=>∃ m,RE P tab seg H.length [] (WD P tab rest K) fr (H++List.replicate m none)
theorem cm6{tab:List lN}:∀ (l:List Jm),confOK tab l=true->l.Pairwise λa b=>anT tab b.1 a.1=true\/au6 a b=true
 |[],_=>.nil
 |a::l,h=>by
   simp only[confOK,f32]at h;refine .cons (λb c=>?_) (cm6 l h.2)
   have:=f35.1 h.1 b c;simpa using this
theorem e51{a b:Nat×Tr}(h:au6 (logOf a) (logOf b)=true):Indep a.2 b.2:=by
 unfold au6 logOf at h;simp only[f32,f35,f2o]at h;refine⟨λl c d=>?_,λl c d=>?_,λl c d=>?_⟩
 ·have:=(h.1 l c).1;simp at this;exact this d
 ·have:=(h.1 l c).2;simp at this;exact this d
 ·have:=h.2 l c;simp at this;exact this d
theorem Sim.reserves{E:Env}{w:World}{H:AH}(h:Sim E w H):∀ m,Sim E w (H++List.replicate m none)
 |0=>by simpa using h
 |m+1=>by
   have:=(Sim.reserves h m).reserve
   rwa [f2p,show List.replicate m none++[none]=List.replicate (m+1) (none:Option AObj)from by rw[f0w]]at this
end
end
section
section
variable {P:Program} {n0:Nat}
def Fin(P:Program)(n0:Nat)(E0:Env)(b:Array Oper)(QQ:Exit->Act->World->Prop)(tab:List lN)(K:LA->AH->Prop)(is:lN)(c:List (Nat×Tr))(σ:St):Prop:=
 (is=[]/\confOK tab (c.map logOf)=true/\K σ.fr σ.H)\/
 ∃ (i:Nat) (T:Tr) (F:Tr->Prop) (a:lN),is=i::a/\confOK tab ((c++[(i,T)]).map logOf)=true/\(∀ j∈a,anT tab j i=true)/\DoesF P n0 E0 b QQ i T F σ/\∀ τ,F τ->Run P n0 E0 b QQ tab K a (c++[(i,τ)]) (τ.app σ)
theorem Run.norm{E0:Env}{d:Array Oper}{QQ:Exit->Act->World->Prop}{tab:List lN}{K:LA->AH->Prop}{is:lN}{c:List (Nat×Tr)}{σ:St}(h:Run P n0 E0 d QQ tab K is c σ) :
 ∃ (b:List (Nat×Tr)) (a:lN) (e:St),is=b.map Prod.fst++a/\Chain P n0 E0 d QQ b σ e/\Fin P n0 E0 d QQ tab K a (c++b) e:=by
 induction h with
 |done c σ f n=>exact⟨[],[],σ,rfl,rfl,.inl ⟨rfl,by simpa using f,n⟩⟩
 |exact i τ is c σ g j k=>
   have⟨b,a,e,l,m,h3⟩:=k;refine⟨(i,τ)::b,a,e,by simp[l],⟨g,m⟩,?_⟩;rw[show c++(i,τ)::b=c++[(i,τ)]++b from by simp];exact h3
 |fork i T F is c σ f o g j k=>exact⟨[],i::is,σ,rfl,rfl,.inr ⟨i,T,F,is,rfl,by simpa using f,o,g,by simpa using j⟩⟩
structure At(P:Program)(n0:Nat)(E0:Env)(ops:Array Oper)(tab:List lN)(Q:APost)(listed:Array Bool)(a:Act)(w:World)(ds:List (Nat×Tr))(is:lN)(lg:List (Nat×Tr))(rest:List (List (Nat×AInstr))):Prop where
 ex:∃ (σ σ1:St) (E:Env),Chain P n0 E0 ops (lft n0 E0 Q) ds σ σ1/\Fin P n0 E0 ops (lft n0 E0 Q) tab (WD P tab rest (Q .normal)) is lg σ1/\Rl E w a σ/\LeN n0 E0 E
 sub:ds.Sublist lg
 list:∀ j,j<ops.size->(listed.getD j true=false↔(j∈ds.map Prod.fst\/j∈is\/j∈rest.flatten.map Prod.fst))
 nd:(ds.map Prod.fst++(is++rest.flatten.map Prod.fst)).Nodup
 lt:∀ j∈ds.map Prod.fst++(is++rest.flatten.map Prod.fst),j<ops.size
 sep:sepOK tab rest=true
 late:∀ j∈rest.flatten.map Prod.fst,∀ i∈ds.map Prod.fst++is,anT tab j i=true
 fit:∀ x∈rest.flatten,∃ o,ops[x.1]?=some o/\fitI P ops x.2 o=true
 cl:∀ (j:Nat) (o:Oper),ops[j]?=some o->listed.getD j false=true->∀ e∈o.after,Region.binds .any e=true->listed.getD e.on false=true
theorem b4o{a:Array Bool}{j:Nat}(h:j<a.size):a.getD j true=a.getD j false:=by
 grind
theorem b66{b:Array Oper}{a:Array Bool}{i:Nat}{o:Oper}(m:b[i]?=some o)(c:∀ e∈o.after,Region.binds .any e=true->a.getD e.on false=true)
 (h:∀ (j:Nat) (o:Oper),b[j]?=some o->a.getD j false=true->∀ e∈o.after,Region.binds .any e=true->a.getD e.on false=true) :
 ∀ (j:Nat) (o:Oper),b[j]?=some o->(a.setIfInBounds i true).getD j false=true->∀ e∈o.after,Region.binds .any e=true->(a.setIfInBounds i true).getD e.on false=true:=by
 intro j o' f l e k g;by_cases d:i=j
 ·subst d;rw[m]at f;cases f;exact f5i (c e k g)
 ·rw[f6q false d]at l;exact f5i (h j o' f l e k g)
theorem ct4{E0:Env}{m:Array Oper}{tab:List lN}{Q:APost}{c:Array Bool}{a:Act}{w:World}{g:List (Nat×Tr)}{is:lN}{A:List (Nat×Tr)}{b:List (List (Nat×AInstr))}(h:At P n0 E0 m tab Q c a w g is A b)
 (r:∀ j,j<m.size->c.getD j true=true):lft n0 E0 Q .normal a w:=by
 have⟨σ,B,E,k,l,f,p⟩:=h.ex;have d:∀ j∈g.map Prod.fst++(is++b.flatten.map Prod.fst),False:=by
  intro j t;have q:=h.lt j t
  have:=(h.list j q).2 (by simpa [f43]using t)
  grind
 have n:g=[]:=by
  cases g with
  |nil=>rfl
  |cons x g=>exact(d x.1 sm).elim
 have o:is=[]:=by
  cases is with
  |nil=>rfl
  |cons x is=>exact(d x sm).elim
 have e:b=[]:=by
  cases b with
  |nil=>rfl
  |cons s b=>
    have u:=h.sep;simp only[sepOK,f32]at u;cases s with
    |nil=>simp at u
    |cons x s=>exact(d x.1 sm).elim
 subst n;subst o;subst e;simp only[Chain]at k;subst k;rcases l with ⟨_,_,y⟩|⟨i,T,F,z,v,_⟩
 ·exact⟨E,σ.fr,σ.H,.normal,rfl,y,p,f.sim,f.rep,f.defers⟩
 ·cases v
theorem b23{a:Array Bool}{n i:Nat}(k:a.size=n){A B:Nat->Prop}(e:A i)(d:∀ j,B j↔A j/\j≠i)(g:∀ j,j<n->(a.getD j true=false↔A j)) :
 ∀ j,j<n->((a.setIfInBounds i true).getD j true=false↔B j):=by
 intro j f;rw[d];by_cases b:i=j
 ·subst b;have c:(a.setIfInBounds i true).getD i true=true:=by
   simp_all
  rw[c];simp
 ·rw[f6q true b,g j f];constructor
  ·exact λh=>⟨h,Ne.symm b⟩
  ·exact λh=>h.1
theorem b2y{tab:List lN}{c:List (Nat×Tr)}(h:confOK tab (c.map logOf)=true):c.Pairwise λa b=>anT tab b.1 a.1=true\/Indep a.2 b.2:=by
 have:=cm6 _ h;rw[f2q]at this;exact this.imp λh=>h.imp id e51
theorem ct2{E0:Env}{p:Array Oper}{tab:List lN}{Q:APost}{f:Array Bool}{a:Act}{w:World}{g:List (Nat×Tr)}{is:lN}{lg:List (Nat×Tr)}{d:List (List (Nat×AInstr))}(a7:Yy p tab=true)
 (h:At P n0 E0 p tab Q f a w g is lg d) (a3:f.size=p.size) (G:g.map Prod.fst++is≠[]) {next:Act->World->Prop} {i:Nat} (hi:i∈Region.ready .any p f)
 (hk:∀ V w',(∃ a9 n ah U,At P n0 E0 p tab Q (f.setIfInBounds i true) V w' a9 n ah U)->next V w'):wpOp P p (lft n0 E0 Q) i next a w:=by
 have⟨h0,o,ho,B⟩:=f6x.1 hi;have ad:i<p.size:=(ey0.1 ho).1;have⟨σ,σ1,E,M,C,a6,a2⟩:=h.ex;have r:∀ j,j∈g.map Prod.fst++(is++d.flatten.map Prod.fst)->anT tab i j=true->False:=by
  intro j c aa;have ae:=h.lt j c
  have:=bj1 a7 h.cl i j aa (.inr ⟨o,ho,B⟩);rw[<-b4o om,(h.list j ae).2 (by simpa [f43]using c)]at this;cases this
 have af:lg.Pairwise λa b=>anT tab b.1 a.1=true\/Indep a.2 b.2:=by
  rcases C with ⟨_,W,_⟩|⟨_,T,F,_,_,W,_⟩
  ·exact b2y W
  ·exact(f0x.1 (b2y W)).1
 have v:=h.nd;rcases(h.list i ad).1 h0 with q|q|q
 ·
  have⟨x,hx,a8⟩:=f62.1 q;have⟨S,τ⟩:=x;simp only at a8;subst a8;obtain⟨z,u,rfl⟩:=List.append_of_mem hx;have s:∀ y∈z,Indep y.2 τ:=by
   intro y O;have a4:=af.sublist h.sub;rw[f0x]at a4;rcases a4.2.2 y O (S,τ) (by simp)with m|m
   ·exact(r y.1 (f0v _ (f62.2 ⟨y,by simp[O],rfl⟩)) m).elim
   ·exact m
  have⟨hd,X⟩:=c01 z σ M s;have t:(z++u).Sublist (z++(S,τ)::u):=List.Sublist.append_left (List.sublist_cons_self _ _) _;refine hd.snd σ (Agree.refl _ _) E w a next a2 a6 λE' V w' D H=>hk V w' ⟨z++u,is,lg,d,?_⟩;refine⟨⟨_,σ1,E',X,C,H,D⟩,t.trans h.sub,?_,v.sublist (ey7 (t.map _) _),λj c=>h.lt j ((ey7 (t.map _) _).subset c),h.sep,λj c i hi=>h.late j c i ((ey7 (t.map _) _).subset hi),h.fit,b66 ho B h.cl⟩
  refine b23 a3 (A:=λj=>j∈(z++(S,τ)::u).map Prod.fst\/j∈is\/j∈d.flatten.map Prod.fst) (.inl q) (λj=>?_) h.list;rw[f4c,f5b,f2p,f3d,f2m]at v;have⟨n1,K,n3⟩:=v;rw[f45]at K;simp only[f4c,f5b,f43,f5h];constructor
  ·rintro((c|c)|c)
   ·exact⟨.inl (.inl c),λe=>n3 j c S sm e⟩
   ·exact⟨.inl (.inr (.inr c)),λe=>K.1 (by rw[<-e];exact f0v _ c)⟩
   ·exact⟨.inr c,λe=>K.1 (by rw[<-e];simp only[f43];exact .inr (by simpa using c))⟩
  ·rintro⟨(c|c|c)|c,G⟩
   ·exact .inl (.inl c)
   ·exact absurd c G
   ·exact .inl (.inr c)
   ·exact .inr c
 ·
  rcases C with ⟨rfl,_,_⟩|⟨S,T,F,ai,rfl,W,hl,hd,hr⟩
  ·cases q
  have ac:i=S:=by
   rcases f5h.1 q with m|m
   ·exact m
   ·exact(r S sm (hl i m)).elim
  subst ac;have a5:=f0x.1 (b2y W);have s:∀ y∈g,Indep y.2 T:=by
   intro y O;rcases a5.2.2 y (h.sub.subset O) (i,T) (by simp)with m|m
   ·exact(r y.1 (f0v _ (f62.2 ⟨y,O,rfl⟩)) m).elim
   ·exact m
  have J:Agree T.R σ σ1:=by
   have ag:∀ (g:List (Nat×Tr)) (σ:St),Chain P n0 E0 p (lft n0 E0 Q) g σ σ1->(∀ y∈g,Indep y.2 T)->Agree T.R σ σ1:=by
    intro g
    induction g with
    |nil=>intro σ h _;simp only[Chain]at h;subst h;exact Agree.refl _ _
    |cons x g ih=>
      have⟨j,b⟩:=x;intro σ h hi;have ab:=hi (j,b) sm;have g1:Agree T.R σ (b.app σ):=⟨(aj2 b σ).symm,(aj3 b σ).symm,λl hl=>(h.1.wf σ (Agree.refl _ _) l (λhw=>ab.wr l hw hl)).symm⟩;exact g1.trans (ih _ h.2 (λy O=>hi y (by simp[O])))
   exact ag g σ M s
  refine hd.snd σ J E w a next a2 a6 λτ E' V w' hτ D H=>?_;have⟨L,n,σ2,e1,Z,N⟩:=(hr τ hτ).norm;have Y:=(cn8 hd hτ g σ M s).2;refine hk V w' ⟨g++L,n,lg++[(i,τ)]++L,d,?_⟩;subst e1;have I:(g.map Prod.fst++(L.map Prod.fst++n++d.flatten.map Prod.fst)).Sublist (g.map Prod.fst++(i::(L.map Prod.fst++n)++d.flatten.map Prod.fst)):=
   List.Sublist.append_left (ey7 (List.sublist_cons_self _ _) _) _
  have eN:(g++L).map Prod.fst++(n++d.flatten.map Prod.fst)=g.map Prod.fst++(L.map Prod.fst++n++d.flatten.map Prod.fst):=by simp
  refine⟨⟨_,σ2,E',cn7 g _ Y Z,N,H,D⟩,?_,?_,?_,?_,h.sep,?_,h.fit,b66 ho B h.cl⟩
  ·refine List.Sublist.append ?_ (List.Sublist.refl _);exact h.sub.trans (List.sublist_append_left _ _)
  ·refine b23 a3 (A:=λj=>j∈g.map Prod.fst\/j∈i::(L.map Prod.fst++n)\/j∈d.flatten.map Prod.fst) (.inr (.inl sm)) (λj=>?_) h.list;rw[f3d,f2m]at v;have⟨n1,K,n3⟩:=v;rw[f45]at K;simp only[f4c,f43,f5h];constructor
   ·rintro((c|c)|c|c)
    ·exact⟨.inl c,λe=>n3 j c i sm e⟩
    ·exact⟨.inr (.inl (.inr (.inl c))),λe=>K.1 (by rw[<-e];simp only[f43];exact .inl (.inl c))⟩
    ·exact⟨.inr (.inl (.inr (.inr c))),λe=>K.1 (by rw[<-e];simp only[f43];exact .inl (.inr c))⟩
    ·exact⟨.inr (.inr c),λe=>K.1 (by rw[<-e];simp only[f43];exact .inr c)⟩
   ·rintro⟨c|(c|c|c)|c,G⟩
    ·exact .inl (.inl c)
    ·exact absurd c G
    ·exact .inl (.inr c)
    ·exact .inr (.inl c)
    ·exact .inr (.inr c)
  ·rw[eN];exact v.sublist I
  ·intro j c;rw[eN]at c;exact h.lt j (I.subset c)
  ·intro j c k a0;refine h.late j c k ?_;simp only[f4c,f43,f5h]at a0 ⊢;rcases a0 with (m|m)|m
   ·exact .inl m
   ·exact .inr (.inr (.inl m))
   ·exact .inr (.inr (.inr m))
 ·
  exfalso
  cases hx:g.map Prod.fst++is with
  |nil=>exact G hx
  |cons k l=>
    have a1:k∈g.map Prod.fst++is:=(by rw[hx];simp);refine r k ?_ (h.late i q k a1);rw[<-f2p];exact f0v _ a1
theorem er4{E0:Env}{f:Array Oper}{tab:List lN}{Q:APost}{d:Array Bool}{a:Act}{w:World}{ds:List (Nat×Tr)}{is:lN}{lg:List (Nat×Tr)}{c:List (List (Nat×AInstr))}(L:Yy f tab=true)
 (h:At P n0 E0 f tab Q d a w ds is lg c) (a1:d.size=f.size) {next:Act->World->Prop} {i:Nat} (hi:i∈Region.ready .any f d)
 (hk:∀ N w',(∃ aa U ah a3,At P n0 E0 f tab Q (d.setIfInBounds i true) N w' aa U ah a3)->next N w'):wpOp P f (lft n0 E0 Q) i next a w:=by
 by_cases J:ds.map Prod.fst++is=[]
 case neg=>exact ct2 L h a1 J hi hk
 have⟨h0,o,ho,V⟩:=f6x.1 hi;have W:i<f.size:=(ey0.1 ho).1;have ab:ds=[]:=by
  have:=(f08.1 J).1;simpa using this
 have ad:is=[]:=(f08.1 J).2;subst ab;subst ad;have⟨σ,σ1,E,a4,a6,n,a0⟩:=h.ex;simp only[Chain]at a4;subst a4;have q:WD P tab c (Q .normal) σ.fr σ.H:=by
  rcases a6 with ⟨_,_,hk⟩|⟨i,T,F,aj,he,_⟩
  ·exact hk
  ·cases he
 have X:=h.sep;have v:=h.nd;simp only[f5x,f41]at v;have l:∀ j,j<f.size->(d.getD j true=false↔j∈c.flatten.map Prod.fst):=λj p=>by
  have:=h.list j p;simpa using this
 have S:∀ j∈c.flatten.map Prod.fst,j<f.size:=λj p=>h.lt j (by simpa using p);cases c with
 |nil=>
   exfalso
   have:=(l i W).1 h0;simp at this
 |cons s c=>
   simp only[sepOK,f32]at X;simp only[f2k,f4c]at v l S;have I:∀ j∈c.flatten.map Prod.fst,∀ k∈s.map Prod.fst,anT tab j k=true:=by
    intro j p k u;obtain⟨y,hy,rfl⟩:=f62.1 p;obtain⟨x,hx,rfl⟩:=f62.1 u;exact f35.1 (f35.1 X.1.2 y hy) x hx
   have D:∀ x∈s,∃ o,f[x.1]?=some o/\fitI P f x.2 o=true:=λx hx=>h.fit x (by simp[hx]);have C:∀ x∈c.flatten,∃ o,f[x.1]?=some o/\fitI P f x.2 o=true:=λx hx=>h.fit x (by
    rw[f2k];exact f0k _ hx)
   by_cases h1:∃ x,s=[x]
   ·obtain⟨⟨b,A7⟩,rfl⟩:=h1;have ac:i=b:=by
     have:=(l i W).1 h0;simp only[f5b,f5x,f43,f1t]at this;rcases this with h2|h2
     ·exact h2
     ·exfalso
      have hl:=I i h2 b sm;have h3:=bj1 L h.cl i b hl (.inr ⟨o,ho,V⟩);have hb:=S b sm;rw[<-b4o om,(l b hb).2 sm]at h3;cases h3
    subst ac;have⟨o',a2,hf⟩:=D (i,A7) sm;simp only at a2 hf;rw[ho]at a2;cases a2;have O:∀ (Z:Env) (N:Act) (w':World) (t:LA) (H':AH),WD P tab c (Q .normal) t H'->LeN n0 E0 Z->Sim Z w' H'->RepL Z t N.tmps->N.defers=[]->next N w':=by
     intro Z N w' t H' g1 g2 g3 g4 g5;refine hk N w' ⟨[],[],[],c,⟨⟨⟨t,H',λ_=>false⟩,_,Z,rfl,.inl ⟨rfl,rfl,g1⟩,⟨g3,g4,g5,λr hr=>by cases hr⟩,g2⟩,.slnil,?_,?_,?_,X.2,λj _ k u=>by simp at u,C,b66 ho V h.cl⟩⟩
     ·simp only[f5b,f5x,f3d,f41,f45]at v;refine b23 a1 (A:=λj=>j∈[i]++c.flatten.map Prod.fst) sm (λj=>?_) l;simp only[f5x,f3c,false_or,f3d,f41,f5h];constructor
      ·exact λp=>⟨.inr p,λe=>v.1 (by rw[<-e];exact p)⟩
      ·rintro⟨p|p,J⟩
       ·exact absurd p J
       ·exact p
     ·simpa using (f2m.1 v).2.1
     ·intro j p;exact S j (by simp at p ⊢;exact .inr p)
    have q:RA P [A7] (WD P tab c (Q .normal)) σ.fr σ.H:=q;have Y:Qq P A7 (WD P tab c (Q .normal)) σ.fr σ.H->o.wp P a w next (lft n0 E0 Q):=λag=>
     b1m hf n.sim n.rep n.defers a0 ag λZ t H' N w' g1 g2 g3 g4 g5=>O Z N w' t H' g1 g2 g3 g4 g5
    unfold RA at q;cases G:A7.guard with
    |none=>
      rw[G]at q;exact Tf ho hf n (λg M hg=>by rw[G]at hg;cases hg) (Y q)
    |some gw=>
      have⟨g,M⟩:=gw;rw[G]at q;have skip:((∃ b,σ.fr[g]?=some (.bool b)/\b≠M)\/σ.fr[g]?=some (.tuple []))->WD P tab c (Q .normal) (Bd σ.fr A7.dst (.tuple [])) σ.H->wpOp P f (lft n0 E0 Q) i next a w:=λaf K=>
       b83 ho hf n G af (O E _ w _ _ K a0 n.sim (by rw[<-Ur hf];exact L1 n.rep (ap4 E) _) (L2 n.defers _ _))
      rcases q with ⟨bv,hb,a9,K⟩|⟨hb,K⟩
      ·by_cases R:bv=M
       ·exact Tf ho hf n (λg' ai hg=>by rw[G]at hg;cases hg;rw[<-R];exact hb) (Y (a9 R))
       ·exact skip (.inl ⟨bv,hb,R⟩) (K R)
      ·exact skip (.inr hb) K
   ·have a8:∃ m,RE P tab s σ.H.length [] (WD P tab c (Q .normal)) σ.fr (σ.H++List.replicate m none):=by
     match s,h1,X,q with
     |[],_,X,_=>exact absurd X.1.1 sm
     |[x],h1,_,_=>exact absurd ⟨x,rfl⟩ h1
     |x::y::z,_,_,q=>exact q
    have⟨m,ae⟩:=a8;have⟨es,U,σ2,e1,a5,B⟩:=(ak2 (n0:=n0) (E0:=E0) (QQ:=lft n0 E0 Q) s σ.H.length [] σ.fr _ D ae).norm;rw[f41]at B;have O:At P n0 E0 f tab Q d a w es U es c:=by
     refine⟨⟨⟨σ.fr,σ.H++List.replicate m none,λr=>decide (σ.H.length<=r)⟩,σ2,E,a5,B,⟨n.sim.reserves m,n.rep,n.defers,λr hr=>?_⟩,a0⟩,List.Sublist.refl _,λj p=>?_,?_,?_,X.2,?_,C,h.cl⟩
     ·simp only[f2f]at hr;cases hρ:E.ρ r with
      |none=>rfl
      |some x=>have:=n.sim.dom r x hρ;omega
     ·rw[l j p,e1];simp only[f43,or_assoc]
     ·rw[<-f2p,<-e1];exact v
     ·intro j p;rw[<-f2p,<-e1]at p;exact S j p
     ·intro j p k u;rw[<-e1]at u;exact I j p k u
    have a7:es.map Prod.fst++U≠[]:=by
     rw[<-e1];intro e;have:s=[]:=(by simpa using e);subst this;exact absurd X.1.1 sm
    exact ct2 L O a1 a7 hi hk
theorem ek6{E0:Env}{c:Array Oper}{tab:List lN}{Q:APost}(m:Yy c tab=true):∀ (fuel:Nat) (b:Array Bool) (a:Act) (w:World),b.size=c.size->(List.range c.size).countP (λj=> !b.getD j true)<=fuel->
 (∃ y is F f,At P n0 E0 c tab Q b a w y is F f)->wpAny P .any c (lft n0 E0 Q) fuel b a w:=by
 have h:∀ (b:Array Bool),b.size=c.size->Region.ready .any c b=[]->∀ j,j<c.size->b.getD j true=true:=by
  intro b d v j
  induction j using Nat.strongRecOn with
  |ind j E=>
    intro l;cases A:b.getD j true with
    |true=>rfl
    |false=>
      have s:=ey4 l;have I:j∈Region.ready .any c b:=f6x.2 ⟨A,_,s,λe L K=>by
       have C:=m;unfold Yy at C;simp only[f32]at C;have G:=f35.1 C.2 j (f4q.2 l);simp only[s,f32]at G;have h3:=ew5.1 G.1 e L;have B:e.on<j:=(by simpa [K]using h3);rw[<-b4o om];exact E e.on B om⟩
      rw[v]at I;cases I
 intro fuel
 induction fuel with
 |zero=>
   rintro b a w d t ⟨y,is,F,f,g⟩;have k:∀ j,j<c.size->b.getD j true=true:=by
    intro j l;have r:(List.range c.size).countP (λj=> !b.getD j true)=0:=om
    have:=List.countP_eq_zero.1 r j (f4q.2 l);simpa using this
   refine⟨?_,ct4 g k⟩;cases v:Region.ready .any c b with
   |nil=>rfl
   |cons x M=>
     have D:x∈Region.ready .any c b:=(by rw[v];simp);obtain⟨r,o,s,_⟩:=f6x.1 D
     have:=k x (ey0.1 s).1;rw[this]at r;cases r
 |succ fuel E=>
   rintro b a w d t ⟨y,is,F,f,g⟩;refine⟨λv=>ct4 g (h b d v),λi hi=>?_⟩;have⟨r,o,s,H⟩:=f6x.1 hi;have z:i<c.size:=(ey0.1 s).1;refine er4 m g d hi λJ w' D=>E _ J w' (by simp[d]) ?_ D
   have:=b63 (p:=λj=> !b.getD j true) (q:=λj=> !(b.setIfInBounds i true).getD j true) (List.range c.size) i (f4q.2 z) (λj l=>by
    by_cases u:i=j
    ·subst u;have n:i<b.size:=om;simp[ex5,n]at l
    ·rw[f6q true u]at l;exact l) (by simp[r]) (by
     have n:i<b.size:=om;simp[ex5,n])
   omega
theorem eu4{b:List (List (Nat×AInstr))}{tab:List lN}{Q:APost}{fr:LA}{H:AH}(h:WD P tab b (Q .normal) fr H):W P n0 (.dregE b tab) Q fr H:=by
 intro c E w a q g v B;cases c<;>try (simp only[fitC,f1k]at q;done)
 rename_i id e l;cases l<;>simp only[fitC,f1k,f32]at q;have⟨D,d,n,m⟩:=q;unfold bp1 at d;simp only[f32,f2f]at d;have⟨⟨z,u⟩,y⟩:=d;have i:∀ x∈b.flatten,∃ o,e[x.1]?=some o/\fitI P e x.2 o=true:=by
  grind
 have s:∀ j∈b.flatten.map Prod.fst,j<e.size:=by
  grind
 have A:∀ j,j<e.size->j∈b.flatten.map Prod.fst:=λj p=>by
  simp_all
 refine wp_region_any D ?_;refine ek6 n e.size _ a _ sm (f61 (List.countP_le_length) sm) ⟨[],[],[],b,⟨⟨⟨fr,H,λ_=>false⟩,_,E,rfl,.inl ⟨rfl,rfl,h⟩,⟨?_,v,B,λr v=>by cases v⟩,LeN.refl _ _⟩,.slnil,λj p=>?_,by simpa using u,λj p=>s j (by simpa using p),m,λj _ k C=>by simp at C,i,λj o p f=>?_⟩⟩
 ·exact⟨g.os,g.tape,g.output,g.frz,g.disj,g.dom,λr o h=>by
   rcases g.obj r o h with h|⟨x,F,f⟩
   ·exact .inl h
   ·exact .inr ⟨x,F,⟨f.t,f.pos,f.out,f.blk,f.sz,f.fits⟩⟩,g.inj⟩
 ·simp_all
 ·simp[ex5,ez6]at f
  grind
end
end
section
theorem b6y{n0:Nat}{fr:LA}{H:AH}(b:lN)(l:b.Nodup)(G:∀ r,r<n0->b[r]?=some r):Wk n0 fr H (Ck (Bh b) fr) (b.map λr=>(H.at r).map (renO (Bh b))):=by
 intro E w R k K;rw[Lq];let d:Env:={ E with ρ:=λi=>(b[i]?).bind E.ρ };have D:∀ r p y,Bh b r=some p->E.ρ r=some y->d.ρ p=some y:=by
  intro r p y s t;simp only[d,Ll s,f36,t]
 have v:∀ c u,Rep E c u->Rep d (ren (Bh b) c) u:=λc u h=>Z7 (E:=E) (E0:=d) (λ_ _ h=>h) D h;have e:∀ i n,AH.at (b.map λr=>(H.at r).map (renO (Bh b))) i=some n->∃ r o,b[i]?=some r/\H.at r=some o/\n=renO (Bh b) o:=by
  intro i n h;simp only[AH.at,f2i]at h;cases a:b[i]? with
  |none=>rw[a]at h;cases h
  |some r=>
    rw[a]at h;simp only[f3y,f3a]at h;cases g:H.at r with
    |none=>simp only[AH.at]at g;rw[g]at h;cases h
    |some o=>simp only[AH.at]at g;rw[g]at h;cases h;exact⟨r,o,rfl,g,rfl⟩
 refine⟨d,⟨λ_ _ h=>h,λr x z A=>⟨x,by simp only[d,G r z,f36];exact A,.inl rfl⟩,rfl,rfl,rfl,rfl⟩,?_,K.mapped v⟩;refine⟨k.os,k.tape,k.output,k.frz,k.disj,λi x hi=>?_,λi n g=>?_,λi L M N O Q s t h3 h4 I=>?_⟩
 ·simp only[d]at hi;cases a:b[i]? with
  |none=>rw[a]at hi;cases hi
  |some r=>
    rcases f5u i b.length with q|q
    ·simpa using q
    ·rw[f0e q]at a;cases a
 ·obtain⟨r,o,a,j,rfl⟩:=e i n g;rcases k.obj r o j with ⟨rfl,J⟩|⟨x,A,C⟩
  ·exact .inl ⟨rfl,by simp only[d,a,f36,J]⟩
  ·exact .inr ⟨x,by simp only[d,a,f36,A],Lies.ren (E:=E) (E0:=d) (λ_ _ h=>h) D C C.out rfl⟩
 ·obtain⟨r,o,a,j,rfl⟩:=e i M s;obtain⟨p,o',f,m,rfl⟩:=e L N t;simp only[d,a,f36]at h3;simp only[d,f,f36]at h4
  have:=k.inj r p o o' O Q j m h3 h4 I;subst this;have F:=Mf l a;have B:=Mf l f;rw[F]at B;cases B;rfl
mutual
def Dd:AV->lN
 |.own r _ _ _ _=>[r]
 |.ptr r _ _ _=>[r]
 |.agg cs=>Cn cs
 |.tuple cs=>Cn cs
 |.fn _ first cap=>Cn first++Cn cap
 |_=>[]
def Cn:LA->lN
 |[]=>[]
 |x::xs=>Dd x++Cn xs
end
def refsO:Option AObj->lN
 |some o=>o.flatMap Cn
 |none=>[]
def L0(H:AH):Nat->lN->lN->lN
 |0,_,acc=>acc
 |_+1,[],acc=>acc
 |n+1,r::todo,acc=>if acc.contains r then L0 H n todo acc else L0 H n (refsO (H.at r)++todo) (acc++[r])
abbrev CallF:=FuncId->LA->AH->Option (AV×AH)
def Ee(call:CallF)(op:AOp)(fr:LA)(H:AH):Option (AV×AH):=
 match op with
 |.call f args=>call f (args.map (evalA fr)) H
 |.calld x args=>
   match evalA fr x with
   |.fn (.func f) first cap=>call f (first++args.map (evalA fr)++cap) H
   |_=>none
 |.eqnil neg x=>
   match Q6 H (evalA fr x)with
   |some (some b)=>some (.bool (b != neg),H)
   |_=>none
 |op=>E8 op (evalA fr) H
def getF:LA->Nat->AV
 |[],_=>.top
 |x::_,0=>x
 |_::l,n+1=>getF l n
theorem Hc:∀ (l:LA) (n:Nat),getF l n=(l[n]?).getD .top
 |[],n=>by simp[getF]
 |x::l,0=>rfl
 |x::l,n+1=>by
   rw[getF,Hc l n];rfl
def Hj(fr:LA)(d:Option Nat)(v:AV):LA:=
 match d with
 |none=>fr
 |some d=>fr.set d v
theorem Zf(fr:LA)(d:Option Nat)(v:AV):Hj fr d v=Bd fr d v:=by
 cases d<;>rfl
def Ak(fr:LA)(x:Opd):AV:=
 match x with
 |.t n=>getF fr n
 |.c v=>v
theorem Bn:Ak=evalA:=by
 funext fr x;cases x with
 |t n=>exact Hc fr n
 |c v=>rfl
abbrev Dw:=CallF->LA->AH->Option (AV×AH)
def same(x:Option AV)(H:AH):Option (AV×AH):=x.map λv=>(v,H)
def kMv(x:Opd):Dw:=λ_ fr H=>some (Ak fr x,H)
def b43(c a b:Opd):Dw:=λ_ fr H=>same (pickV (Ak fr c) (Ak fr a) (Ak fr b)) H
def e4f(a:LA):Dw:=λ_ _ H=>if a.length≠0 then some (.ptr H.length 0 0 1,H++[some [a]])else none
def c50(x:Opd):Dw:=λ_ fr H=>a4u H (Ak fr x)
def c4y(zero:LA)(a:List (Nat×Nat×Opd)):Dw:=λ_ fr H=>same ((D9 (Ak fr) zero a).map .agg) H
def c4z(sz len:Nat)(zero:LA)(a:List (Nat×Opd)):Dw:=λ_ fr H=>a4t H sz len (D9 (Ak fr) (List.replicate len zero).flatten (a.map λx=>(x.1*sz,sz,x.2)))
def c4e(a:Bool)(n:Nat)(x:Opd):Dw:=λ_ fr H=>same ((Lr H n (Ak fr x)).map (Fg a)) H
def c47(n:Nat)(p x:Opd):Dw:=λ_ fr H=>a5x H n (Ak fr p) (Ak fr x)
def c49(x:Opd):Dw:=λ_ fr H=>same (Zm H (Ak fr x)) H
def c52(op:BinOp)(x y:Opd):Dw:=λ_ fr H=>same (Tb op (Ak fr x) (Ak fr y)) H
def c51(op:BinOp)(x y:Opd):Dw:=λ_ fr H=>same (a4x op (Ak fr x) (Ak fr y)) H
def c4p(a:Bool)(x y:Opd):Dw:=λ_ fr H=>same (a4g a (Ak fr x) (Ak fr y)) H
def c4o(a:Bool)(b:List EK)(x y:Opd):Dw:=λ_ fr H=>same (a4f H a b (Ak fr x) (Ak fr y)) H
def kUn(op:UnOp)(x:Opd):Dw:=λ_ fr H=>same (Wq op (Ak fr x)) H
def c4t(k:IntKind)(x:Opd):Dw:=λ_ fr H=>same (a4m k (Ak fr x)) H
def c4s(x:Opd):Dw:=λ_ fr H=>ai1 H (Ak fr x)
def c4u(x:Opd):Dw:=λ_ fr H=>same (((Ih H (Ak fr x)).bind J6).map .str) H
def c4r(x:Opd):Dw:=λ_ fr H=>same (a4l (Ak fr x)) H
def c4a(sz a:Nat)(zero:LA)(l c:Opd):Dw:=λ_ fr H=>a6x H sz a zero (Ak fr l) (Ak fr c)
def c48(x:Opd)(lo hi:Option Opd):Dw:=λ_ fr H=>same (Yz (Ak fr) (Ak fr x) lo hi) H
def a2m(op:AOp):Dw:=λ_ fr H=>E8 op (Ak fr) H
def c4l(off:Nat)(x:Opd):Dw:=λ_ fr H=>same (a0p H off (Ak fr x)) H
def c4k(a:Bool)(off n:Nat)(x:Opd):Dw:=λ_ fr H=>same (a49 a off n (Ak fr x)) H
def c4j(sz:Nat)(x i:Opd):Dw:=λ_ fr H=>same (T0 H sz (Ak fr x) (Ak fr i)) H
def c4i(len sz:Nat)(x i:Opd):Dw:=λ_ fr H=>same (Zx H len sz (Ak fr x) (Ak fr i)) H
def c4g(x i:Opd):Dw:=λ_ fr H=>same (Zu (Ak fr x) (Ak fr i)) H
def a2o(a:Bool)(len sz:Nat)(x i:AV):Option AV:=match x,i with
 |.agg cs,.int _ n=>if 0<=n/\n<len/\n.toNat*sz+sz<=cs.length then some (Fg a ((cs.drop (n.toNat*sz)).take sz))else none
 |_,_=>none
def a4r(x:AV):Option AV:=match x with
 |.emp=>some (.N 0)
 |_=>none
def c4h(a:Bool)(len sz:Nat)(x i:Opd):Dw:=λ_ fr H=>same (a2o a len sz (Ak fr x) (Ak fr i)) H
def c4w(x:Opd):Dw:=λ_ fr H=>same (a4r (Ak fr x)) H
def c4m(x:Opd)(i:Nat):Dw:=λ_ fr H=>same (a4a (Ak fr x) i) H
def c4f(a:Bool)(x:Opd):Dw:=λ_ fr H=>same (if a then a2g (Ak fr x)else U9 H (Ak fr x)) H
def c53(sz a:Nat)(zero:LA)(x y:Opd):Dw:=λ_ fr H=>Yl H sz a zero (Ak fr x) (Ak fr y)
def c4q(sz:Nat)(x y:Opd):Dw:=λ_ fr H=>ai0 H sz (Ak fr x) (Ak fr y)
def c4v(sz:Nat)(zero:LA)(x:Opd):Dw:=λ_ fr H=>ai3 H sz zero (Ak fr x)
def c4c(x y:Opd):Dw:=λ_ fr H=>same (a26 (Ak fr x) (Ak fr y)) H
def c4d(x y:Opd):Dw:=λ_ fr H=>same (a2b (Ak fr x) (Ak fr y)) H
def c4b(f:Fn)(first cap:LQ):Dw:=λ_ fr H=>some (.fn f (first.map (Ak fr)) (cap.map (Ak fr)),H)
def c4x(f:FuncId)(a:LQ):Dw:=λcall fr H=>call f (a.map (Ak fr)) H
def au4(x:Opd)(a:LQ):Dw:=λcall fr H=>
    match Ak fr x with
    |.fn (.func f) first cap=>call f (first++a.map (Ak fr)++cap) H
    |_=>none
def b45(a:Bool)(x:Opd):Dw:=λ_ fr H=>
    match Q6 H (Ak fr x)with
    |some (some b)=>some (.bool (b != a),H)
    |_=>none
def e4e:Dw:=λ_ _ _=>none
def C6:AOp->Dw
 |.mv x=>kMv x
 |.pick c a b=>b43 c a b
 |.alloc cs=>e4f cs
 |.box x=>c50 x
 |.build z p=>c4y z p
 |.bslice s l z p=>c4z s l z p
 |.load g n x=>c4e g n x
 |.store n p x=>c47 n p x
 |.nilchk x=>c49 x
 |.bini o x y=>c52 o x y
 |.bins o x y=>c51 o x y
 |.eqb n x y=>c4p n x y
 |.eqs n k x y=>c4o n k x y
 |.un o x=>kUn o x
 |.convi k x=>c4t k x
 |.convsb x=>c4s x
 |.convbs x=>c4u x
 |.convss x=>c4r x
 |.mksl s b z l c=>c4a s b z l c
 |.slices x l h=>c48 x l h
 |.slicel s x l h=>a2m (.slicel s x l h)
 |.slicez x=>a2m (.slicez x)
 |.slice3 x l h m=>a2m (.slice3 x l h m)
 |.eqnil n x=>b45 n x
 |.faddr o x=>c4l o x
 |.field g o n x=>c4k g o n x
 |.iaddr s x i=>c4j s x i
 |.iaddra l s x i=>c4i l s x i
 |.indexs x i=>c4g x i
 |.indexa g l s x i=>c4h g l s x i
 |.cap x=>c4w x
 |.ext x i=>c4m x i
 |.len s x=>c4f s x
 |.append s b z x y=>c53 s b z x y
 |.copy s x y=>c4q s x y
 |.clear s z x=>c4v s z x
 |.min2 x y=>c4c x y
 |.max2 x y=>c4d x y
 |.mkfn f a c=>c4b f a c
 |.call f a=>c4x f a
 |.calld x a=>au4 x a
 |.bad=>e4e
theorem Cs{op:AOp}{ev:Opd->AV}{H:AH}(x:Option AV)(h:Be op ev H=x)(a:Cw op ev H=none):E8 op ev H=same x H:=by
 unfold E8 same;rw[h];cases x with
 |none=>exact a
 |some v=>rfl
theorem b34(call:CallF)(op:AOp)(fr:LA)(H:AH):C6 op call fr H=Ee call op fr H:=by
 cases op
 case alloc=>rfl
 case box=>simp only[C6,c50,Bn];rfl
 case bslice sz len zero a=>
  simp only[C6,c4z,Bn,Ee];unfold E8;simp only[Be,Cw];cases D9 (evalA fr) (List.replicate len zero).flatten (a.map λx=>(x.1*sz,sz,x.2))<;>rfl
 case store=>simp only[C6,c47,Bn];rfl
 case convsb=>simp only[C6,c4s,Bn];rfl
 case mksl=>simp only[C6,c4a,Bn];rfl
 case append=>simp only[C6,c53,Bn];rfl
 case copy=>simp only[C6,c4q,Bn];rfl
 case clear=>simp only[C6,c4v,Bn];rfl
 case slicel=>simp only[C6,a2m,Bn];rfl
 case slicez=>simp only[C6,a2m,Bn];rfl
 case slice3=>simp only[C6,a2m,Bn];rfl
 case mv=>simp only[C6,kMv,Bn];rfl
 case mkfn=>simp only[C6,c4b,Bn];rfl
 case call=>simp only[C6,c4x,Bn];rfl
 case calld=>simp only[C6,au4,Bn];rfl
 case eqnil=>simp only[C6,b45,Bn];rfl
 case bad=>rfl
 case len b x=>cases b<;>(simp only[C6,c4f,Bn,if_true,if_false,f1k];simp only[Ee];symm;apply Cs<;>rfl)
 case pick=>simp only[C6,b43,Bn];simp only[Ee];symm;apply Cs<;>rfl
 case build=>simp only[C6,c4y,Bn];simp only[Ee];symm;apply Cs<;>rfl
 case load=>simp only[C6,c4e,Bn];simp only[Ee];symm;apply Cs<;>rfl
 case nilchk=>simp only[C6,c49,Bn];simp only[Ee];symm;apply Cs<;>rfl
 case bini=>simp only[C6,c52,Bn];simp only[Ee];symm;apply Cs<;>rfl
 case bins=>simp only[C6,c51,Bn];simp only[Ee];symm;apply Cs<;>rfl
 case eqb=>simp only[C6,c4p,Bn];simp only[Ee];symm;apply Cs<;>rfl
 case eqs=>simp only[C6,c4o,Bn];simp only[Ee];symm;apply Cs<;>rfl
 case un=>simp only[C6,kUn,Bn];simp only[Ee];symm;apply Cs<;>rfl
 case convi=>simp only[C6,c4t,Bn];simp only[Ee];symm;apply Cs<;>rfl
 case convbs=>simp only[C6,c4u,Bn];simp only[Ee];symm;apply Cs<;>rfl
 case convss=>simp only[C6,c4r,Bn];simp only[Ee];symm;apply Cs<;>rfl
 case slices=>simp only[C6,c48,Bn];simp only[Ee];symm;apply Cs<;>rfl
 case faddr=>simp only[C6,c4l,Bn];simp only[Ee];symm;apply Cs<;>rfl
 case field=>simp only[C6,c4k,Bn];simp only[Ee];symm;apply Cs<;>rfl
 case iaddr=>simp only[C6,c4j,Bn];simp only[Ee];symm;apply Cs<;>rfl
 case iaddra=>simp only[C6,c4i,Bn];simp only[Ee];symm;apply Cs<;>rfl
 case indexs=>simp only[C6,c4g,Bn];simp only[Ee];symm;apply Cs<;>rfl
 case indexa=>simp only[C6,c4h,Bn];simp only[Ee];symm;apply Cs<;>rfl
 case cap=>simp only[C6,c4w,Bn];simp only[Ee];symm;apply Cs<;>rfl
 case ext=>simp only[C6,c4m,Bn];simp only[Ee];symm;apply Cs<;>rfl
 case min2=>simp only[C6,c4c,Bn];simp only[Ee];symm;apply Cs<;>rfl
 case max2=>simp only[C6,c4d,Bn];simp only[Ee];symm;apply Cs<;>rfl
def Hm(call:CallF):List AInstr->LA->AH->Option (LA×AH)
 |[],fr,H=>some (fr,H)
 |i::rest,fr,H=>
   match i.guard with
   |none=>
     match C6 i.op call fr H with
     |some (v,H')=>Hm call rest (Hj fr i.dst v) H'
     |none=>none
   |some (g,want)=>
     match getF fr g with
     |.bool b=>
       if b=want then
        match C6 i.op call fr H with
        |some (v,H')=>Hm call rest (Hj fr i.dst v) H'
        |none=>none
       else Hm call rest (Hj fr i.dst (.tuple [])) H
     |.tuple []=>Hm call rest (Hj fr i.dst (.tuple [])) H
     |_=>none
def O7:List AInstr->LA->AH->Option LA
 |[],fr,_=>some fr
 |i::rest,fr,H=>
   match i.guard with
   |none=>
     match Be i.op (evalA fr) H with
     |some v=>O7 rest (Bd fr i.dst v) H
     |none=>none
   |some (g,want)=>
     match fr[g]? with
     |some (.bool b)=>
       if b=want then
        match Be i.op (evalA fr) H with
        |some v=>O7 rest (Bd fr i.dst v) H
        |none=>none
       else O7 rest (Bd fr i.dst (.tuple [])) H
     |some (.tuple [])=>O7 rest (Bd fr i.dst (.tuple [])) H
     |_=>none
def M6(ev:CallF)(f:FuncId)(a:LA)(H:AH):Option (lN×AV×AH):=
 let b:=L0 H (H.length*4+40) (Cn a) []
 if b.Nodup/\(∀ r∈b,r<H.length)then
  match ev f (Ck (Bh b) a) (b.map λr=>(H.at r).map (renO (Bh b)))with
  |some (x,H1)=>if b.length<=H1.length then some (b,x,H1)else none
  |none=>none
 else none
def Ri(ev:CallF):CallF:=λf a H=>
 match M6 ev f a H with
 |some (rs,x,H1)=>some (ren (Iz rs H.length) x,back rs H H1)
 |none=>none
def a0s(H:AH):Nat->Option Nat
 |0=>none
 |c+1=>match H.at c with
   |some []=>some c
   |_=>a0s H c
def Lb(lk:FuncId->Bool)(ev:CallF)(op:AOp)(c:Nat)(fr:LA)(H:AH):Option (List Loc×List Loc×Nat×AV×AH):=
 match op with
 |.call f args=>
   if lk f=true/\Aa (args.map (evalA fr))=false then
    match ev f (B9 H (args.map (evalA fr))) []with
    |some (x,H1)=>if Ed x=true then some ((Gy H (args.map (evalA fr))).map .con,[],c,x,H)else none
    |none=>none
   else
   match M6 ev f (args.map (evalA fr)) H with
   |some (rs,x,H1)=>
     if(∀ r∈rs,r<c)/\c+(H1.length-rs.length)<=H.length then
      let all:=rs++List.range' c (H1.length-rs.length)
      some (all.map .con,all.map .con++all.map .len,c+(H1.length-rs.length),ren (Bg all) x,Cp H all (H1.map λo=>o.map (renO (Bg all))))
     else none
   |none=>none
 |.store n p x=>
   match evalA fr p,cellsOf (evalA fr x)with
   |.ptr r i j tot,some cs=>
     match B1 H r tot with
     |some o=>
       match o[i]? with
       |some e=>if(cs.length=n/\j+n<=e.length/\cs.all cellA=true)/\r<c then some ([.con r],[.con r],c,U,H.set r (some (o.set i (lay e j cs))))else none
       |none=>none
     |none=>none
   |_,_=>none
 |.calld x0 args=>
   match evalA fr x0 with
   |.fn (.func f) first cap=>
     match M6 ev f (first++args.map (evalA fr)++cap) H with
     |some (rs,x,H1)=>
       if(∀ r∈rs,r<c)/\c+(H1.length-rs.length)<=H.length then
        let all:=rs++List.range' c (H1.length-rs.length)
        some (all.map .con,all.map .con++all.map .len,c+(H1.length-rs.length),ren (Bg all) x,Cp H all (H1.map λo=>o.map (renO (Bg all))))
       else none
     |none=>none
   |_=>none
 |.append sz bytes _ x y=>
   match (match evalA fr x with
    |.own r sz' 0 len tot=>if sz'=sz/\len=tot then some (r,len)else none
    |.emp=>(a0s H c).map λr=>(r,0)
    |_=>none),E4 H (evalA fr y)with
   |some (r,len),some news=>
     match B1 H r len with
     |some o=>
       if(news.all (λe=>decide (e.length=sz))=true/\(len+news.length)*bytes<=1000000000000/\len+news.length<=1000000000)/\r<c then
        some (.con r::Ia (evalA fr y),[.con r,.len r],c,.own r sz 0 (len+news.length) (len+news.length),H.set r (some (o++news)))
       else none
     |none=>none
   |_,_=>none
 |.eqnil _ _=>none
 |.bad=>none
 |op=>
   if Qf op then
    if c<H.length then
     match Cw op (evalA fr) []with
     |some (v,[some o])=>some ([.con c],[.con c,.len c],c+1,ren (Bg [c]) v,H.set c (some o))
     |_=>none
    else none
   else
    match Be op (evalA fr) H with
    |some v=>some (J4 op (evalA fr),[],c,v,H)
    |none=>none
def Hv(lk:FuncId->Bool)(ev:CallF)(tab:List lN):List (Nat×AInstr)->Nat->List Jm->LA->AH->Option (LA×AH)
 |[],_,lg,fr,H=>if confOK tab lg=true then some (fr,H)else none
 |(i,A7)::rest,c,lg,fr,H=>
   match A7.guard with
   |none=>
     match Lb lk ev A7.op c fr H with
     |some (R,W,c',v,H')=>Hv lk ev tab rest c' (lg++[F6 i A7 R W]) (Bd fr A7.dst v) H'
     |none=>none
   |some (g,want)=>
     match fr[g]? with
     |some (.bool b)=>
       if b=want then
        match Lb lk ev A7.op c fr H with
        |some (R,W,c',v,H')=>Hv lk ev tab rest c' (lg++[F6 i A7 R W]) (Bd fr A7.dst v) H'
        |none=>none
       else Hv lk ev tab rest c (lg++[(i,[.slot g],Cl A7.dst)]) (Bd fr A7.dst (.tuple [])) H
     |some (.tuple [])=>Hv lk ev tab rest c (lg++[(i,[.slot g],Cl A7.dst)]) (Bd fr A7.dst (.tuple [])) H
     |_=>none
def H6:List (Nat×AInstr)->Nat
 |[]=>0
 |i::rest=>(match i.2.op with
   |.call _ _=>12
   |op=>if Qf op then 1 else 0)+H6 rest
def Gx(lk:FuncId->Bool)(ev:CallF)(tab:List lN):List (List (Nat×AInstr))->LA->AH->Option (LA×AH)
 |[],fr,H=>some (fr,H)
 |[(_,A7)]::rest,fr,H=>
   match Hm ev [A7] fr H with
   |some (fr',H')=>Gx lk ev tab rest fr' H'
   |none=>none
 |seg::rest,fr,H=>
   match Hv lk ev tab seg H.length [] fr (H++List.replicate (H6 seg) none)with
   |some (fr',H')=>Gx lk ev tab rest fr' H'
   |none=>none
def Jb(f:LA->AH->Option (AExit×LA×AH)):Nat->LA->AH->Option (AExit×LA×AH)
 |0,_,_=>none
 |n+1,fr,H=>
   match f fr H with
   |some (.normal,fr',H')=>Jb f n fr' H'
   |r=>r
def Cx(o:AObj):Option (List LP):=o.mapM λe=>e.mapM Dr
def Xr(r:Nat)(x:AV)(H:AH):AV×AH:=
 match (H.at r).bind Cx with
 |some a=>(frz r a x,Jz (C5 r a) (H.set r none))
 |none=>(x,H)
section
variable {P:Program}
def Il(P:Program)(call:CallF):Prop:=∀ f a H x b,call f a H=some (x,b)->C P f a H λy G=>y=x/\G=b
theorem b6c{ev:CallF}(c:Il P ev){f:FuncId}{a:LA}{H:AH}{b:lN}{x:AV}{H1:AH}(h:M6 ev f a H=some (b,x,H1)) :
 b.Nodup/\(∀ r∈b,r<H.length)/\b.length<=H1.length/\C P f (Ck (Bh b) a) (b.map λr=>(H.at r).map (renO (Bh b))) λy G=>y=x/\G=H1:=by
 unfold M6 at h;simp only[]at h;split at h
 ·rename_i d;split at h
  ·rename_i x' e g;split at h
   ·cases h;exact⟨d.1,d.2,by assumption,c _ _ _ _ _ g⟩
   ·cases h
  ·cases h
 ·cases h
theorem ep1{ev:CallF}(a:Il P ev):Il P (Ri ev):=by
 intro f b H x i h;unfold Ri at h;split at h
 ·rename_i g y H1 e;cases h;have⟨c,d,h3,h4⟩:=b6c a e;refine b7c g c d h4 ?_;rintro _ _ ⟨rfl,rfl⟩;exact⟨h3,rfl,rfl⟩
 ·cases h
theorem ei9{call:CallF}(k:Il P call){i:AInstr}{fr:LA}{H:AH}{v:AV}{a:AH}{K:LA->AH->Prop}(h:Ee call i.op fr H=some (v,a))(l:K (Bd fr i.dst v) a):Qq P i K fr H:=by
 have⟨d,g,op⟩:=i;have j:E8 op (evalA fr) H=some (v,a)->Xh (E8 op (evalA fr) H) λv a=>K (Bd fr d v) a:=λh=>by rw[h];exact l
 cases op
 case call f e=>exact(k _ _ _ _ _ h).mono λx G ⟨h1,h2⟩=>by rw[h1,h2];exact l
 case calld x e=>
  simp only[Ee]at h;split at h
  ·rename_i f first cap m
   exact⟨f,first,cap,m,(k _ _ _ _ _ h).mono λx G ⟨h1,h2⟩=>by rw[h1,h2];exact l⟩
  ·cases h
 case eqnil n x=>
  simp only[Ee]at h;split at h
  ·rename_i b m;cases h;exact⟨_,m,λc k=>by rw[k b rfl];exact l⟩
  ·cases h
 all_goals exact j h
theorem c95{fr:LA}{g:Nat}{x:AV}(h:getF fr g=x)(b:x≠.top):fr[g]?=some x:=by
 rw[Hc]at h;cases a:fr[g]? with
 |none=>rw[a]at h;exact absurd h.symm b
 |some y=>rw[a]at h;rw[<-h];rfl
theorem a0r{call:CallF}(f:Il P call){K:LA->AH->Prop}:∀ {is:List AInstr} {fr:LA} {H:AH} {a:LA} {c:AH},Hm call is fr H=some (a,c)->K a c->RA P is K fr H
 |[],fr,H,a,c,h,hk=>by
   simp only[Hm,f2h,f5j]at h;unfold RA;rw[h.1,h.2];exact hk
 |i::rest,fr,H,a,c,h,hk=>by
   unfold RA;unfold Hm at h;simp only[b34,Zf]at h;have l:(match Ee call i.op fr H with|some (v,c)=>Hm call rest (Bd fr i.dst v) c|none=>none)=some (a,c)->Qq P i (RA P rest K) fr H:=by
    intro h;split at h
    ·rename_i v q k;exact ei9 f k (a0r f h hk)
    ·cases h
   cases m:i.guard with
   |none=>rw[m]at h;exact l h
   |some o=>
     have⟨g,n⟩:=o;rw[m]at h;simp only at h;split at h
     ·rename_i b j;have e:=c95 j sm;split at h
      ·rename_i d;exact .inl ⟨b,e,λ_=>l h,λp=>absurd d p⟩
      ·rename_i d;exact .inl ⟨b,e,λk=>absurd k d,λ_=>a0r f h hk⟩
     ·rename_i j;exact .inr ⟨c95 j sm,a0r f h hk⟩
     ·cases h
theorem d7b{op:AOp}{ev:Opd->AV}{H:AH}{v:AV}(h:Be op ev H=some v):Kw P op ev H v:=by
 have:=cv4 h;cases op<;>first|exact this|cases h
theorem a4b{K:LA->Prop}:∀ {is:List AInstr} {fr:LA} {H:AH} {a:LA},O7 is fr H=some a->K a->Te P is K fr H
 |[],fr,H,a,h,hk=>by
   simp only[O7,f2h]at h;unfold Te;rw[h];exact hk
 |i::rest,fr,H,a,h,hk=>by
   unfold Te;unfold O7 at h;have f:(match Be i.op (evalA fr) H with|some v=>O7 rest (Bd fr i.dst v) H|none=>none)=some a->∃ v,Kw P i.op (evalA fr) H v/\Te P rest K (Bd fr i.dst v) H:=by
    intro h;split at h
    ·rename_i v e;exact⟨v,d7b e,a4b h hk⟩
    ·cases h
   cases j:i.guard with
   |none=>rw[j]at h;exact f h
   |some l=>
     have⟨g,k⟩:=l;rw[j]at h;simp only at h;split at h
     ·rename_i b d;split at h
      ·rename_i c;exact .inl ⟨b,d,λ_=>f h,λm=>absurd c m⟩
      ·rename_i c;exact .inl ⟨b,d,λe=>absurd e c,λ_=>a4b h hk⟩
     ·rename_i d;exact .inr ⟨d,a4b h hk⟩
     ·cases h
theorem ej2{lk:FuncId->Bool}{ev:CallF}(g:Il P ev){op:AOp}{d:Option Nat}{c:Nat}{fr:LA}{H:AH}{R W:List Loc}{B:Nat}{v:AV}{z:AH}{K:List Loc->List Loc->Nat->LA->AH->Prop}(h:Lb lk ev op c fr H=some (R,W,B,v,z))(k:K R W B (Bd fr d v) z) :
 Wu P op d c fr H K\/a5y P op d c fr H K:=by
 have q:(if Qf op then if c<H.length then match Cw op (evalA fr) []with
   |some (v,[some o])=>some ([Loc.con c],[.con c,.len c],c+1,ren (Bg [c]) v,H.set c (some o))
   |_=>none else none else match Be op (evalA fr) H with
   |some v=>some (J4 op (evalA fr),[],c,v,H)
   |none=>none)=some (R,W,B,v,z)->
   (if Qf op then ∃ (v:AV) (o:AObj),Cw op (evalA fr) []=some (v,[some o])/\c<H.length/\ K [.con c] [.con c,.len c] (c+1) (Bd fr d (ren (Bg [c]) v)) (H.set c (some o)) else ∃ v,Be op (evalA fr) H=some v/\K (J4 op (evalA fr)) [] c (Bd fr d v) H):=by
  intro h;split at h
  ·rename_i E;rw[iP E];split at h
   ·rename_i b;split at h
    ·rename_i Q o u;cases h;exact⟨Q,o,u,b,k⟩
    ·cases h
   ·cases h
  ·rename_i E;rw[iN E];split at h
   ·rename_i Q u;cases h;exact⟨_,u,k⟩
   ·cases h
 cases op
 case call f m=>
  simp only[Lb]at h;split at h
  ·split at h
   ·rename_i x H1 t;split at h
    ·rename_i F;cases h;refine .inr ⟨_,F,?_,k⟩;exact(g _ _ _ _ _ t).mono λy G M=>M.1
    ·cases h
   ·cases h
  ·split at h
   ·rename_i w x H1 t;have⟨C,D,h3,h4⟩:=b6c g t;split at h
    ·rename_i b;cases h;exact .inl ⟨w,H1.length-w.length,x,H1,C,b.1,b.2,by omega,h4,k⟩
    ·cases h
   ·cases h
 case store n p x=>
  simp only[Lb]at h;split at h
  ·rename_i r i j tot S s T;split at h
   ·rename_i o I;split at h
    ·rename_i e u;split at h
     ·rename_i a;cases h;exact .inl ⟨r,i,j,tot,S,e,o,s,T,I,u,a.1,a.2,k⟩
     ·cases h
    ·cases h
   ·cases h
  ·cases h
 case append sz A zero x y=>
  simp only[Lb]at h;split at h
  ·rename_i r len news l M;split at h
   ·rename_i o I;split at h
    ·rename_i a;cases h;refine .inl ⟨r,len,news,o,?_,M,I,a.1,a.2,k⟩;split at l
     ·rename_i U V N O s;split at l
      ·rename_i J;obtain⟨rfl,rfl⟩:=J;cases l;exact .inl s
      ·cases l
     ·rename_i s;obtain⟨U,_,D⟩:=f09.1 l;cases D;exact .inr ⟨s,rfl⟩
     ·cases l
    ·cases h
   ·cases h
  ·cases h
 case calld X m=>
  simp only[Lb]at h;split at h
  ·rename_i f first cap L
   split at h
   ·rename_i w x H1 t;have⟨C,D,h3,h4⟩:=b6c g t;split at h
    ·rename_i b;cases h;exact .inl ⟨f,first,cap,L,w,H1.length-w.length,x,H1,C,b.1,b.2,by omega,h4,k⟩
    ·cases h
   ·cases h
  ·cases h
 case eqnil=>cases h
 case bad=>cases h
 all_goals exact .inl (q h)
theorem ah3{lk:FuncId->Bool}{ev:CallF}(e:Il P ev){tab:List lN}{K:LA->AH->Prop}:∀ {is:List (Nat×AInstr)} {c:Nat} {j:List Jm} {fr:LA} {H:AH} {a:LA} {d:AH},Hv lk ev tab is c j fr H=some (a,d)->K a d->RE P tab is c j K fr H
 |[],c,j,fr,H,a,d,h,hk=>by
   unfold Hv at h;unfold RE;split at h
   ·rename_i r;cases h;exact⟨r,hk⟩
   ·cases h
 |(i,A7)::rest,c,j,fr,H,a,d,h,hk=>by
   unfold RE;unfold Hv at h;have n:(match Lb lk ev A7.op c fr H with|some (R,W,f,v,d)=>Hv lk ev tab rest f (j++[F6 i A7 R W]) (Bd fr A7.dst v) d|none=>none)=some (a,d)->
    (Wu P A7.op A7.dst c fr H λR W f a d=>RE P tab rest f (j++[F6 i A7 R W]) K a d)\/a5y P A7.op A7.dst c fr H λR W f a d=>RE P tab rest f (j++[F6 i A7 R W]) K a d:=by
    intro h;split at h
    ·rename_i R W f v t m;exact ej2 (K:=λR W f a d=>RE P tab rest f (j++[F6 i A7 R W]) K a d) e m (ah3 e h hk)
    ·cases h
   cases o:A7.guard with
   |none=>rw[o]at h;exact(n h).elim .inl λh=>.inr (.inr h)
   |some q=>
     have⟨g,p⟩:=q;rw[o]at h;simp only at h;split at h
     ·rename_i b l;split at h
      ·rename_i k;exact .inl ⟨b,l,λ_=>n h,λs=>absurd k s⟩
      ·rename_i k;exact .inl ⟨b,l,λm=>absurd m k,λ_=>ah3 e h hk⟩
     ·rename_i l;exact .inr ⟨l,ah3 e h hk⟩
     ·cases h
theorem ax1{lk:FuncId->Bool}{ev:CallF}(b:Il P ev){tab:List lN}{K:LA->AH->Prop}:∀ {c:List (List (Nat×AInstr))} {fr:LA} {H:AH} {a:LA} {d:AH},Gx lk ev tab c fr H=some (a,d)->K a d->WD P tab c K fr H
 |[],fr,H,a,d,h,hk=>by
   simp only[Gx,f2h,f5j]at h;unfold WD;rw[h.1,h.2];exact hk
 |[(_,A7)]::rest,fr,H,a,d,h,hk=>by
   unfold WD;unfold Gx at h;split at h
   ·rename_i g f e;exact a0r b e (ax1 b h hk)
   ·cases h
 |[]::rest,fr,H,a,d,h,hk=>by
   unfold WD;unfold Gx at h;split at h
   ·rename_i g f e;exact⟨_,ah3 b e (ax1 b h hk)⟩
   ·cases h
 |(x::y::z)::rest,fr,H,a,d,h,hk=>by
   unfold WD;unfold Gx at h;split at h
   ·rename_i g f e;exact⟨_,ah3 b e (ax1 b h hk)⟩
   ·cases h
def Is(e:AExit)(fr:LA)(H:AH):APost:=λc a b=>c=e/\a=fr/\b=H
theorem c2r:∀ {e:LA} {p:LP},e.mapM Dr=some p->e=p.map emb
 |[],p,h=>by simp at h;subst h;rfl
 |x::e,p,h=>by
   simp only[f4r,Option.bind_eq_bind,f01,Option.pure_def,f2h]at h;obtain⟨q,b,c,a,rfl⟩:=h;rw[f5b,<-c2r a,<-bs6 b]
theorem bg0:∀ {o:AObj} {a:List LP},Cx o=some a->o=a.map λe=>e.map emb
 |[],a,h=>by simp[Cx]at h;subst h;rfl
 |x::o,a,h=>by
   unfold Cx at h;simp only[f4r,Option.bind_eq_bind,f01,Option.pure_def,f2h]at h;obtain⟨q,c,d,b,rfl⟩:=h;rw[f5b,<-bg0 b,<-c2r c]
theorem et6(n0 r:Nat)(x:AV)(H:AH):Wk n0 [x] H [(Xr r x H).1] (Xr r x H).2:=by
 unfold Xr;split
 ·rename_i a b;have⟨o,c,d⟩:=f01.1 b
  have:=cy4 (n0:=n0) (fr:=[x]) r a (by rw[c,bg0 d]);exact this
 ·exact Wk.refl _ _ _
end
end
section
def Qx(c:Nat)(H:AH)(n r i j:Nat)(a:LA)(x:Option AObj)(K:Nat->AH->Prop):Prop:=
 match x with
 |some o=>
   match o[i]? with
   |some e=>(a.length=n/\j+n<=e.length/\a.all cellA=true)/\r<c/\K r (H.set r (some (o.set i (lay e j a))))
   |none=>False
 |none=>False
def onQ(q:Option (Option Bool))(K:Bool->Prop)(_:Tag K):Prop:=∃ c,q=some c/\∀ b,(∀ d,c=some d->b=d)->K b
section
variable {P:Program} {n0:Nat} {tab:List (List Nat)}
variable (d:Option Nat) (rest:List (Nat×AInstr)) (i c:Nat) (lg:List Jm) (K:List AV->AH->Prop) (fr:List AV) (H:AH)
variable (ii cc:Nat)
variable (restA:List AInstr)
theorem Rv(a:Bool)(x:Opd)(t u):RT P (⟨d,none,.eqnil a x⟩::restA) K fr H t u=onQ (Q6 H (evalA fr x)) (λb=>RT P restA K (Bd fr d (.bool (b != a))) H .mk .mk) .mk:=qq
theorem Nb:Q6 H .emp=some none:=qq
theorem Na(a:List LP):Q6 H (.fz a)=some (if a=[]then none else some false):=by cases a<;>rfl
theorem N9(r sz off len tot:Nat):Q6 H (.own r sz off len tot)=(B1 H r tot).map λ_=>if 0<len then some false else none:=qq
theorem Q4(K:Bool->Prop)(m):onQ (some none) K m=∀ b,K b:=by simp[onQ]
theorem b70{n0:Nat}{H:AH}(sz:Nat):Wk n0 [.emp] H [.own H.length sz 0 0 0] (H++[some []]):=by
 intro E w h g f;refine⟨E,LeN.refl _ _,g.newEmpty,f.1,λi x u b e=>?_⟩
 match i,b,e with
 |0,b,e=>
   simp at b;subst b;obtain⟨a,rfl⟩:=Jc (f.2 0 _ u rfl e);exact .own0 _ _ _
 |i+1,b,_=>simp at b
end
end
section
structure Memo where
 f:Nat
 args:LA
 x:AV
def Memo.so(P:Program)(m:Memo):Prop:=C P m.f m.args [] (λx a=>x=m.x/\a=[])/\Aa m.args=true/\Ab m.x=true
section
variable {P:Program}
theorem Memo.any{m:Memo}(h:m.so P)(H:AH):C P m.f m.args H λx a=>x=m.x/\a=H:=by
 refine b7c (K0:=λx a=>x=m.x/\a=[]) [] f4v (λr b=>by cases b) ?_ ?_
 ·rw[Kk _ _ h.2.1];exact h.1
 ·rintro x _ ⟨rfl,rfl⟩;refine⟨f6o _,?_⟩;rw[Lp _ _ h.2.2];exact⟨rfl,by simp[back,Cp]⟩
end
end
section
open Go Go.RowKit
def E0(w:World):Env:={ F:=λb=>w.heap[b]?,X:=λ_=>none,ρ:=λ_=>none,os:=w.os,tape:=w.tape,output:=w.output }
def ct3(r:Nat):AH.at [] r=none:=rfl
def ev9(w:World):Sim (E0 w) w []:=by
 refine⟨rfl,rfl,rfl,λb o h=>?_,λ_ _ _=>rfl,λr x h=>?_,λr o h=>?_,λr a o o' x x' h=>?_⟩
 ·rcases h with h|h
  ·exact h
  ·cases h
 ·cases h
 ·rw[ct3]at h;cases h
 ·rw[ct3]at h;cases h
def C_top{P:Program}{f:FuncId}{b:LA}{g:Array Value}{w:World}(j:C P f b [] (λx _=>x=.bool true))(m:RepL (E0 w) b g) :
 Calls P f g w λe w'=>e=.returned (.bool true)/\Below w.heap.size w w':=by
 refine(j.2 (E0 w) w g (ev9 w) m).mono ?_;rintro e w' ⟨v,o,x,p,rfl,rfl,a,d,n⟩;have c:∀ k,k<w.heap.size->w'.heap[k]?=w.heap[k]?:=λk l=>by
  have i:(E0 w).F k=some w.heap[k]:=ey4 l;rw[d.frz k _ (.inl (a.F k _ i))];exact i.symm
 refine⟨by rw[Se n],d.os.trans a.os,d.tape.trans a.tape,d.output.trans a.output,?_,c⟩;rcases f5u w'.heap.size w.heap.size with h|h
 ·have:=c w'.heap.size h;rw[f05 (f6o _),ey4 h]at this;cases this
 ·exact h
end
def opMap(g:Opd->Opd):AOp->AOp
 |.mv x=>.mv (g x)
 |.pick c a b=>.pick (g c) (g a) (g b)
 |.alloc cs=>.alloc cs
 |.box x=>.box (g x)
 |.build z p=>.build z (p.map λq=>(q.1,q.2.1,g q.2.2))
 |.bslice s l z p=>.bslice s l z (p.map λq=>(q.1,g q.2))
 |.load a n x=>.load a n (g x)
 |.store n p x=>.store n (g p) (g x)
 |.nilchk x=>.nilchk (g x)
 |.bini o x y=>.bini o (g x) (g y)
 |.bins o x y=>.bins o (g x) (g y)
 |.eqb n x y=>.eqb n (g x) (g y)
 |.eqs n k x y=>.eqs n k (g x) (g y)
 |.un o x=>.un o (g x)
 |.convi k x=>.convi k (g x)
 |.convsb x=>.convsb (g x)
 |.convbs x=>.convbs (g x)
 |.convss x=>.convss (g x)
 |.mksl s b z l c=>.mksl s b z (g l) (g c)
 |.slices x l h=>.slices (g x) (l.map g) (h.map g)
 |.slicel s x l h=>.slicel s (g x) (l.map g) (h.map g)
 |.slicez x=>.slicez (g x)
 |.slice3 x l h m=>.slice3 (g x) (g l) (g h) (g m)
 |.eqnil n x=>.eqnil n (g x)
 |.faddr o x=>.faddr o (g x)
 |.field a o n x=>.field a o n (g x)
 |.iaddr s x i=>.iaddr s (g x) (g i)
 |.iaddra l s x i=>.iaddra l s (g x) (g i)
 |.indexs x i=>.indexs (g x) (g i)
 |.indexa a l s x i=>.indexa a l s (g x) (g i)
 |.cap x=>.cap (g x)
 |.ext x i=>.ext (g x) i
 |.len s x=>.len s (g x)
 |.append s b z x y=>.append s b z (g x) (g y)
 |.copy s x y=>.copy s (g x) (g y)
 |.clear s z x=>.clear s z (g x)
 |.min2 x y=>.min2 (g x) (g y)
 |.max2 x y=>.max2 (g x) (g y)
 |.mkfn f a c=>.mkfn f (a.map g) (c.map g)
 |.call f a=>.call f (a.map g)
 |.calld x a=>.calld (g x) (a.map g)
 |.bad=>.bad
def b5h(g:Opd->Opd)(ev:Opd->AV):∀ (p:List (Nat×Nat×Opd)) (z:LA),D9 ev z (p.map λq=>(q.1,q.2.1,g q.2.2))=D9 (λx=>ev (g x)) z p
 |[],z=>rfl
 |(a,b,x)::p,z=>by
   simp only[f5b,D9];cases cellsOf (ev (g x))with
   |none=>rfl
   |some c=>simp only[b5h g ev p]
def cr0(g:Opd->Opd)(ev:Opd->AV)(x:Option Opd)(a b:Nat):C9 ev (x.map g) a b=C9 (λx=>ev (g x)) x a b:=by cases x<;>rfl
def cv5(g:Opd->Opd)(ev:Opd->AV)(o:AOp)(H:AH):Be (opMap g o) ev H=Be o (λx=>ev (g x)) H:=by
 cases o
 case build z p=>simp only[opMap,Be,b5h]
 case slices x l h=>simp only[opMap,Be,cr0]
 case slicel s x l h=>simp only[opMap,Be,cr0]
 case mkfn f a c=>simp only[opMap,Be,f6a,Function.comp_def]
 case len s x=>cases s<;>rfl
 all_goals rfl
def er9(g:Opd->Opd)(ev:Opd->AV)(o:AOp)(H:AH):Cw (opMap g o) ev H=Cw o (λx=>ev (g x)) H:=by
 cases o
 case bslice s l z p=>
  have h:=b5h g ev (p.map λx=>(x.1*s,s,x.2)) (List.replicate l z).flatten;simp only[f6a,Function.comp_def]at h;simp only[opMap,Cw,f6a,Function.comp_def,h]
 all_goals rfl
def er8(g:Opd->Opd)(ev:Opd->AV)(o:AOp)(H:AH):E8 (opMap g o) ev H=E8 o (λx=>ev (g x)) H:=by
 unfold E8;rw[cv5,er9]
def ar5:AOp->Bool
 |.call .. =>false
 |.calld .. =>false
 |.eqnil .. =>false
 |_=>true
def ce9(call:CallF){o:AOp}(h:ar5 o=true)(fr:LA)(H:AH):Ee call o fr H=E8 o (evalA fr) H:=by
 cases o<;>first|rfl|cases h
def dc6(g:Opd->Opd)(o:AOp):ar5 (opMap g o)=ar5 o:=by cases o<;>rfl
theorem ej0(call:CallF)(g:Opd->Opd){fr b:LA}(h:∀ x,evalA fr (g x)=evalA b x)(o:AOp)(H:AH):Ee call (opMap g o) fr H=Ee call o b H:=by
 have e:(λx=>evalA fr (g x))=evalA b:=funext h;have d:∀ l:LQ,(l.map g).map (evalA fr)=l.map (evalA b):=λl=>by rw[f6a];exact f16 λx _=>h x
 cases c:ar5 o with
 |true=>rw[ce9 call c,ce9 call (by rw[dc6,c]),er8,e]
 |false=>
   cases o
   case call f a=>simp only[opMap,Ee,d]
   case calld x a=>simp only[opMap,Ee,h,d]
   case eqnil n x=>simp only[opMap,Ee,h]
   all_goals cases c
inductive TE where
 |v (i:Nat)
 |d (i:Nat)
 |c (x:AV)
 |op (o:AOp) (args:List TE)
 |and (a b:TE)
 |or (a b:TE)
inductive TS where
 |put (d:Option Nat) (o:AOp) (args:List TE)
inductive Act where
 |fz (i:Nat)
 |fzC (i off:Nat)
 |emp (i sz:Nat)
 |empC (i off sz:Nat)
 |empL (i off c sz:Nat)
 |keep (live:List Nat)
inductive TC where
 |skip
 |ret
 |exit (id:Nat)
 |reg (n:Nat) (l:List TS)
 |dreg (n:Nat) (l:List TS)
 |raw (l:List AInstr)
 |rawD (l:List AInstr)
 |rawE (segs:List (List (Nat×AInstr))) (tab:List (List Nat))
 |seq (a b:TC)
 |ifc (n:Nat) (l:List TS) (e:TE) (a b:TC)
 |ifd (n:Nat) (l:List TS) (e:TE) (a b:TC)
 |ifv (i:Nat) (a b:TC)
 |ifk (q:Bool) (a b:TC)
 |bad
 |block (id:Nat) (b:TC)
 |loop (live:List Nat) (em:List (Nat×Nat)) (b:TC)
 |pre (l:List Act) (b:TC)
 |after (l:List Act) (b:TC)
def slot(a:lN)(i:Nat):Nat:=a.getD i 0
def nx(a:lN):Nat->Nat->Nat
 |0,n=>n
 |k+1,n=>if a.contains n then nx a k (n+1)else n
def Fw(a:lN)(n:Nat):Nat:=nx a a.length n
def as1(a:LQ):Opd->Opd
 |.t k=>(a[k]?).getD (.c .top)
 |.c x=>.c x
mutual
def Ce(e:lN)(g:Option (Nat×Bool)):TE->Nat->List AInstr×Opd×Nat
 |.v i,n=>([⟨some (Fw e n),g,.mv (.t (slot e i))⟩],.t (Fw e n),Fw e n+1)
 |.d i,n=>([],.t (slot e i),n)
 |.c x,n=>([],.c x,n)
 |.op o as,n=>
   let r:=Ig e g as n
   (r.1++[⟨some (Fw e r.2.2),g,opMap (as1 r.2.1) o⟩],.t (Fw e r.2.2),Fw e r.2.2+1)
 |.and a b,n=>
   let r:=Ce e g a n;let m:=Fw e r.2.2;let q:=Ce e (some (m,true)) b (m+1)
   (r.1++⟨some m,g,.mv r.2.1⟩::(q.1++[⟨some (Fw e q.2.2),g,.pick (.t m) q.2.1 (.c (.bool false))⟩]),.t (Fw e q.2.2),Fw e q.2.2+1)
 |.or a b,n=>
   let r:=Ce e g a n;let m:=Fw e r.2.2;let q:=Ce e (some (m,false)) b (m+1)
   (r.1++⟨some m,g,.mv r.2.1⟩::(q.1++[⟨some (Fw e q.2.2),g,.pick (.t m) (.c (.bool true)) q.2.1⟩]),.t (Fw e q.2.2),Fw e q.2.2+1)
def Ig(a:lN)(g:Option (Nat×Bool)):List TE->Nat->List AInstr×LQ×Nat
 |[],n=>([],[],n)
 |e::es,n=>
   let r:=Ce a g e n;let q:=Ig a g es r.2.2
   (r.1++q.1,r.2.1::q.2.1,q.2.2)
end
def flS(a:lN):TS->Nat->List AInstr×Nat
 |.put d o as,n=>
   let r:=Ig a none as n
   (r.1++[⟨d.map (slot a),none,opMap (as1 r.2.1) o⟩],r.2.2)
def T6(a:lN):List TS->Nat->List AInstr×Nat
 |[],n=>([],n)
 |s::l,n=>
   let r:=flS a s n;let q:=T6 a l r.2
   (r.1++q.1,q.2)
def Kc(d:lN):TC->ACode
 |.skip=>.skip
 |.ret=>.ret
 |.exit i=>.exit i
 |.reg n l=>.reg (T6 d l n).1
 |.dreg n l=>.dreg (T6 d l n).1
 |.raw l=>.reg l
 |.rawD l=>.dreg l
 |.rawE s t=>.dregE s t
 |.seq a b=>.seq (Kc d a) (Kc d b)
 |.ifc n l e a b=>
   let r:=T6 d l n;let q:=Ce d none e r.2
   .seq (.reg (r.1++q.1)) (.cond q.2.1 (Kc d a) (Kc d b))
 |.ifd n l e a b=>
   let r:=T6 d l n;let q:=Ce d none e r.2
   .seq (.dreg (r.1++q.1)) (.cond q.2.1 (Kc d a) (Kc d b))
 |.ifv i a b=>.cond (.t (slot d i)) (Kc d a) (Kc d b)
 |.ifk q a b=>.cond (.c (.bool q)) (Kc d a) (Kc d b)
 |.bad=>.bad
 |.block i b=>.block i (Kc d b)
 |.loop _ _ b=>.loop (Kc d b)
 |.pre _ b=>Kc d b
 |.after _ b=>Kc d b
abbrev StepF:=AOp->LA->AH->Option (AV×AH)
def Fl(f:StepF):List AInstr->LA->AH->Option (LA×AH)
 |[],fr,H=>some (fr,H)
 |i::rest,fr,H=>
   match i.guard with
   |none=>(f i.op fr H).bind λr=>Fl f rest (Bd fr i.dst r.1) r.2
   |some (g,want)=>
     match fr[g]? with
     |some (.bool b)=>if b=want then(f i.op fr H).bind λr=>Fl f rest (Bd fr i.dst r.1) r.2 else Fl f rest (Bd fr i.dst (.tuple [])) H
     |some (.tuple [])=>Fl f rest (Bd fr i.dst (.tuple [])) H
     |_=>none
def a6b(f:StepF):∀ (a b:List AInstr) (fr:LA) (H:AH),Fl f (a++b) fr H=(Fl f a fr H).bind λr=>Fl f b r.1 r.2
 |[],b,fr,H=>rfl
 |i::a,b,fr,H=>by
   simp only[f3d,Fl];cases i.guard with
   |none=>
     simp only[];cases f i.op fr H with
     |none=>rfl
     |some r=>simp only[f36,a6b f a b]
   |some d=>
     have⟨g,c⟩:=d;simp only[];split
     ·split
      ·cases f i.op fr H with
       |none=>rfl
       |some r=>simp only[f36,a6b f a b]
      ·exact a6b f a b _ _
     ·exact a6b f a b _ _
     ·rfl
mutual
def Bu(f:StepF)(e:LA):TE->AH->Option (AV×AH)
 |.v i,H=>some (getF e i,H)
 |.d i,H=>some (getF e i,H)
 |.c x,H=>some (x,H)
 |.op o as,H=>(E3 f e as H).bind λr=>f o r.1 r.2
 |.and a b,H=>(Bu f e a H).bind λr=>match r.1 with
   |.bool true=>Bu f e b r.2
   |.bool false=>some (.bool false,r.2)
   |_=>none
 |.or a b,H=>(Bu f e a H).bind λr=>match r.1 with
   |.bool true=>some (.bool true,r.2)
   |.bool false=>Bu f e b r.2
   |_=>none
def E3(f:StepF)(a:LA):List TE->AH->Option (LA×AH)
 |[],H=>some ([],H)
 |e::es,H=>(Bu f a e H).bind λr=>(E3 f a es r.2).bind λq=>some (r.1::q.1,q.2)
end
def tvS(f:StepF)(a:LA)(H:AH):TS->Option (LA×AH)
 |.put d o as=>(E3 f a as H).bind λr=>(f o r.1 r.2).bind λq=>some (Hj a d q.1,q.2)
def Ge(f:StepF):List TS->LA->AH->Option (LA×AH)
 |[],cf,H=>some (cf,H)
 |s::l,cf,H=>(tvS f cf H s).bind λr=>Ge f l r.1 r.2
structure Ag(sl:lN)(cf fr:LA):Prop where
 len:cf.length=sl.length
 at':∀ i,i<sl.length->fr[slot sl i]?=some (getF cf i)
 nd:sl.Nodup
def Ag.put{sl:lN}{cf fr:LA}(h:Ag sl cf fr){i:Nat}(hi:i<sl.length)(x:AV):Ag sl (cf.set i x) (fr.set (slot sl i) x):=by
 refine⟨by simpa using h.len,λj hj=>?_,h.nd⟩;rw[f2e];by_cases hij:i=j
 ·subst hij
  have:=h.at' i hi;have hlt:slot sl i<fr.length:=by
   rcases f5u (slot sl i) fr.length with h'|h'
   ·exact h'
   ·rw[f0e h']at this;cases this
  rw[iP rfl,iP hlt,Hc,f2e,iP rfl,iP (by rw[h.len];exact hi)];rfl
 ·have hne:slot sl i≠slot sl j:=by
   intro e;have e1:sl[i]'hi=sl[j]'hj:=by
    simp only[slot,ex9,ez2 hi,ez2 hj,f31]at e;exact e
   exact hij ((List.getElem_inj h.nd).1 e1)
  rw[iN hne,Hc,f2e,iN hij,<-Hc];exact h.at' j hj
def Ag.tmp{b:lN}{c fr:LA}(h:Ag b c fr){n:Nat}(d:n∉b)(x:AV):Ag b c (fr.set n x):=by
 refine⟨h.len,λj a=>?_,h.nd⟩;rw[f2e,iN ?_]
 ·exact h.at' j a
 ·intro e;apply d;rw[e];simp only[slot,ex9,ez2 a,f31];exact f3e a
def On(fr:LA):Option (Nat×Bool)->Prop
 |none=>True
 |some (s,b)=>fr[s]?=some (.bool b)
def Off(fr:LA):Option (Nat×Bool)->Prop
 |none=>False
 |some (s,b)=>fr[s]?=some (.bool !b)\/fr[s]?=some (.tuple [])
mutual
def Q5(k:Nat):TE->Bool
 |.v i=>decide (i<k)
 |.d i=>decide (i<k)
 |.c _=>true
 |.op _ as=>a6w k as
 |.and a b=>Q5 k a&&Q5 k b
 |.or a b=>Q5 k a&&Q5 k b
def a6w(k:Nat):List TE->Bool
 |[]=>true
 |e::es=>Q5 k e&&a6w k es
end
section
theorem c1q(sl:lN):∀ k n,n<=nx sl k n
 |0,n=>f6o n
 |k+1,n=>by
   unfold nx;split
   ·exact f61 (Nat.le_succ n) (c1q sl k (n+1))
   ·exact f6o n
theorem R2(sl:lN)(n:Nat):n<=Fw sl n:=c1q sl _ n
structure Keeps(sl:lN)(n:Nat)(fr fr':LA):Prop where
 k:∀ s,s<n\/s∈sl->fr'[s]?=fr[s]?
 len:fr'.length=fr.length
theorem Keeps.refl(sl:lN)(n:Nat)(fr:LA):Keeps sl n fr fr:=⟨λ_ _=>rfl,rfl⟩
theorem Keeps.trans{sl:lN}{n m:Nat}{a b c:LA}(h:Keeps sl n a b)(d:Keeps sl m b c)(g:n<=m):Keeps sl n a c:=
 ⟨λs e=>(d.k s (e.imp (λh=>f1r h g) id)).trans (h.k s e),d.len.trans h.len⟩
theorem Keeps.set{sl:lN}{n m:Nat}{fr:LA}(x:AV)(b:m∉sl)(c:n<=m):Keeps sl n fr (fr.set m x):=by
 refine⟨λs a=>?_,by simp⟩;rw[f2e,iN];rintro rfl;rcases a with a|a
 ·omega
 ·exact b a
theorem bm5{sl:lN}{i:Nat}(hi:i<sl.length):slot sl i∈sl:=by
 simp only[slot,ex9,ez2 hi,f31];exact f3e hi
theorem Ag.keep{sl:lN}{n:Nat}{b fr a:LA}(h:Ag sl b fr)(c:Keeps sl n fr a):Ag sl b a :=
 ⟨h.len,λi hi=>(c.k _ (.inr (bm5 hi))).trans (h.at' i hi),h.nd⟩
theorem Ag.get{sl:lN}{a fr:LA}(h:Ag sl a fr){i:Nat}(hi:i<sl.length):evalA fr (.t (slot sl i))=getF a i:=by
 simp only[evalA,h.at' i hi,f31]
def Wj(n:Nat):Option (Nat×Bool)->Prop
 |none=>True
 |some (s,_)=>s<n
theorem Wj.mono{n m:Nat}(h:n<=m):∀ {g},Wj n g->Wj m g
 |none,_=>trivial
 |some (_,_),h'=>f1r h' h
theorem On.keep{sl:lN}{n:Nat}{fr a:LA}(b:Keeps sl n fr a):∀ {g},Wj n g->On fr g->On a g
 |none,_,_=>trivial
 |some (_,_),hl,h=>(b.k _ (.inl hl)).trans h
theorem Off.keep{sl:lN}{n:Nat}{fr a:LA}(b:Keeps sl n fr a):∀ {g},Wj n g->Off fr g->Off a g
 |none,_,h=>h
 |some (_,_),hl,h=>h.imp (λh=>(b.k _ (.inl hl)).trans h) (λh=>(b.k _ (.inl hl)).trans h)
def Pd(sl:lN)(n:Nat):Opd->Prop
 |.t t=>t<n\/t∈sl
 |.c _=>True
theorem Pd.mono{sl:lN}{n m:Nat}(h:n<=m):∀ {o},Pd sl n o->Pd sl m o
 |.t _,a=>a.imp (λa=>f1r a h) id
 |.c _,_=>trivial
theorem Pd.keep{sl:lN}{n:Nat}{fr a:LA}(b:Keeps sl n fr a):∀ {o},Pd sl n o->evalA a o=evalA fr o
 |.t t,h=>by simp only[evalA,b.k t h]
 |.c _,_=>rfl
def Tm(sl:lN)(N:Nat)(l:List AInstr):Prop:=∀ i∈l,∀ d,i.dst=some d->d∉sl/\d<N
theorem Tm.left{sl:lN}{N:Nat}{a b:List AInstr}(h:Tm sl N (a++b)):Tm sl N a:=λi hi=>h i (f0v _ hi)
theorem Tm.right{sl:lN}{N:Nat}{a b:List AInstr}(h:Tm sl N (a++b)):Tm sl N b:=λi hi=>h i (f0k _ hi)
structure StepOK(f:StepF):Prop where
 map:∀ (g:Opd->Opd) (fr vs:LA),(∀ x,evalA fr (g x)=evalA vs x)->∀ o H,f (opMap g o) fr H=f o vs H
 mv:∀ x fr H,f (.mv x) fr H=some (evalA fr x,H)
 pick:∀ c a b fr H,f (.pick c a b) fr H=same (pickV (evalA fr c) (evalA fr a) (evalA fr b)) H
section
variable {f:StepF} {sl:List Nat}
theorem Z4{g:Option (Nat×Bool)}{m:Option Nat}{op:AOp}{fr:LA}{H:AH}{y:AV}{c:AH}(e:On fr g)(h:f op fr H=some (y,c))(a:List AInstr):Fl f (⟨m,g,op⟩::a) fr H=Fl f a (Bd fr m y) c:=by
 conv=>lhs;unfold Fl
 cases g with
 |none=>simp only[h,f36]
 |some d=>
   have⟨s,b⟩:=d;simp only[show fr[s]?=some (.bool b)from e,if_true,h,f36]
theorem a1k{g:Option (Nat×Bool)}{m:Option Nat}{op:AOp}{fr:LA}{H:AH}(c:Off fr g)(a:List AInstr):Fl f (⟨m,g,op⟩::a) fr H=Fl f a (Bd fr m (.tuple [])) H:=by
 conv=>lhs;unfold Fl
 cases g with
 |none=>exact c.elim
 |some d=>
   have⟨s,b⟩:=d;rcases c with c|c
   ·simp only[c];rw[iN (by cases b<;>simp)]
   ·simp only[c]
theorem Lf{a b:List AInstr}{fr c d:LA}{H e g:AH}(h:Fl f a fr H=some (c,e))(i:Fl f b c e=some (d,g)):Fl f (a++b) fr H=some (d,g):=by
 rw[a6b,h];exact i
theorem Ww{fr:LA}{m:Nat}(h:m<fr.length)(x:AV):(fr.set m x)[m]?=some x:=by
 rw[f2e,iP rfl,iP h]
mutual
theorem a0o(N:Nat):∀ (e:TE) (g:Option (Nat×Bool)) (n:Nat) (fr:LA) (H:AH),Tm sl N (Ce sl g e n).1->fr.length=N->Off fr g->Wj n g->
 n<=(Ce sl g e n).2.2/\∃ s,Fl f (Ce sl g e n).1 fr H=some (s,H)/\Keeps sl n fr s
 |.v i,g,n,fr,H,ht,hN,hg,hl=>by
   simp only[Ce]at ht ⊢;have l:=R2 sl n;have⟨h,h3⟩:=ht _ (f1t.2 rfl) _ rfl;exact⟨by omega,_,by rw[a1k hg];rfl,Keeps.set _ h l⟩
 |.d i,g,n,fr,H,ht,hN,hg,hl=>by
   simp only[Ce];exact⟨f6o _,fr,rfl,.refl _ _ _⟩
 |.c x,g,n,fr,H,ht,hN,hg,hl=>by
   simp only[Ce];exact⟨f6o _,fr,rfl,.refl _ _ _⟩
 |.op o as,g,n,fr,H,ht,hN,hg,hl=>by
   simp only[Ce]at ht ⊢;have⟨t,k,l,h⟩:=cc6 N as g n fr H ht.left hN hg hl;have h3:=R2 sl (Ig sl g as n).2.2;have⟨h4,h5⟩:=ht.right _ (f1t.2 rfl) _ rfl;exact⟨by omega,_,Lf l (by rw[a1k (hg.keep h hl)];rfl),h.trans (Keeps.set _ h4 h3) t⟩
 |.and a b,g,n,fr,H,ht,hN,hg,hl=>by
   simp only[Ce]at ht ⊢;have⟨t,k,l,h⟩:=a0o N a g n fr H ht.left hN hg hl;have h3:=R2 sl (Ce sl g a n).2.2;generalize Ce sl g a n=r at *;generalize A:Fw sl r.2.2=m at *;have⟨h4,h5⟩:=ht.right _ (f1u) _ rfl;have p:Tm sl N (Ce sl (some (m,true)) b (m+1)).1:=λi hi=>ht.right i (f0y _ (f0v _ hi));have⟨z,j,w,y⟩:=a0o N b (some (m,true)) (m+1) (k.set m (.tuple [])) H p (by simp[h.len,hN]) (.inr (Ww (by rw[h.len,hN];exact h5) _)) (f3f _);have h6:=R2 sl (Ce sl (some (m,true)) b (m+1)).2.2;generalize Ce sl (some (m,true)) b (m+1)=q at *;have⟨h7,h8⟩:=ht.right _ (f0y _ (f0k _ (f1t.2 rfl))) _ rfl;have u:Keeps sl n fr j:=(h.trans (Keeps.set _ h4 h3) t).trans y om;refine⟨by omega,j.set (Fw sl q.2.2) (.tuple []),Lf l ?_,u.trans (Keeps.set _ h7 h6) om⟩;rw[a1k (hg.keep h hl)];exact Lf w (by rw[a1k (hg.keep u hl)];rfl)
 |.or a b,g,n,fr,H,ht,hN,hg,hl=>by
   simp only[Ce]at ht ⊢;have⟨t,k,l,h⟩:=a0o N a g n fr H ht.left hN hg hl;have h3:=R2 sl (Ce sl g a n).2.2;generalize Ce sl g a n=r at *;generalize A:Fw sl r.2.2=m at *;have⟨h4,h5⟩:=ht.right _ (f1u) _ rfl;have p:Tm sl N (Ce sl (some (m,false)) b (m+1)).1:=λi hi=>ht.right i (f0y _ (f0v _ hi));have⟨z,j,w,y⟩:=a0o N b (some (m,false)) (m+1) (k.set m (.tuple [])) H p (by simp[h.len,hN]) (.inr (Ww (by rw[h.len,hN];exact h5) _)) (f3f _);have h6:=R2 sl (Ce sl (some (m,false)) b (m+1)).2.2;generalize Ce sl (some (m,false)) b (m+1)=q at *;have⟨h7,h8⟩:=ht.right _ (f0y _ (f0k _ (f1t.2 rfl))) _ rfl;have u:Keeps sl n fr j:=(h.trans (Keeps.set _ h4 h3) t).trans y om;refine⟨by omega,j.set (Fw sl q.2.2) (.tuple []),Lf l ?_,u.trans (Keeps.set _ h7 h6) om⟩;rw[a1k (hg.keep h hl)];exact Lf w (by rw[a1k (hg.keep u hl)];rfl)
theorem cc6(N:Nat):∀ (a:List TE) (g:Option (Nat×Bool)) (n:Nat) (fr:LA) (H:AH),Tm sl N (Ig sl g a n).1->fr.length=N->Off fr g->Wj n g->
 n<=(Ig sl g a n).2.2/\∃ b,Fl f (Ig sl g a n).1 fr H=some (b,H)/\Keeps sl n fr b
 |[],g,n,fr,H,ht,hN,hg,hl=>by
   simp only[Ig];exact⟨f6o _,fr,rfl,.refl _ _ _⟩
 |e::a,g,n,fr,H,ht,hN,hg,hl=>by
   simp only[Ig]at ht ⊢;have⟨i,c,l,h⟩:=a0o N e g n fr H ht.left hN hg hl;have⟨m,d,j,k⟩:=cc6 N a g _ c H ht.right (h.len.trans hN) (hg.keep h hl) (hl.mono i);exact⟨by omega,d,Lf l j,h.trans k i⟩
end
theorem c14{fr b:LA}{a:LQ}(h:a.map (evalA fr)=b):∀ x,evalA fr (as1 a x)=evalA b x
 |.t k=>by
   subst h;simp only[as1,evalA,f2i];cases a[k]?<;>rfl
 |.c x=>rfl
mutual
theorem a0n(B:StepOK f)(N:Nat){P:LA}:∀ (e:TE) (g:Option (Nat×Bool)) (n:Nat) (fr:LA) (H:AH) (x:AV) (z:AH),Q5 sl.length e=true->Tm sl N (Ce sl g e n).1->fr.length=N->Ag sl P fr->On fr g->Wj n g->
 Bu f P e H=some (x,z)->
 n<=(Ce sl g e n).2.2/\Pd sl (Ce sl g e n).2.2 (Ce sl g e n).2.1/\∃ F,Fl f (Ce sl g e n).1 fr H=some (F,z)/\Keeps sl n fr F/\evalA F (Ce sl g e n).2.1=x
 |.v i,g,n,fr,H,x,z,hok,ht,hN,ha,hg,hl,h=>by
   simp only[Ce]at ht ⊢;simp only[Q5,f2f]at hok;cases h;have G:=R2 sl n;have⟨s,h3⟩:=ht _ (f1t.2 rfl) _ rfl;refine⟨by omega,.inl (f3f _),_,by rw[Z4 hg (B.mv _ _ _)];rfl,Keeps.set _ s G,?_⟩;simp only[evalA,Ww (by omega:Fw sl n<fr.length),f31];exact ha.get hok
 |.d i,g,n,fr,H,x,z,hok,ht,hN,ha,hg,hl,h=>by
   simp only[Ce];simp only[Q5,f2f]at hok;cases h;exact⟨f6o _,.inr (bm5 hok),fr,rfl,.refl _ _ _,ha.get hok⟩
 |.c y,g,n,fr,H,x,z,hok,ht,hN,ha,hg,hl,h=>by
   simp only[Ce];cases h;exact⟨f6o _,trivial,fr,rfl,.refl _ _ _,rfl⟩
 |.op o as,g,n,fr,H,x,z,hok,ht,hN,ha,hg,hl,h=>by
   simp only[Ce]at ht ⊢;simp only[Q5]at hok;simp only[Bu,f01]at h;have⟨r,M,h⟩:=h;obtain⟨K,_,l,G,s,h3⟩:=b5a B N as g n fr H r.1 r.2 hok ht.left hN ha hg hl M;have h4:=R2 sl (Ig sl g as n).2.2;have⟨h5,h6⟩:=ht.right _ (f1t.2 rfl) _ rfl;have h7:=B.map _ _ _ (c14 h3) o r.2;rw[h]at h7;refine⟨by omega,.inl (f3f _),_,Lf G (by rw[Z4 (hg.keep s hl) h7];rfl),s.trans (Keeps.set _ h5 h4) K,?_⟩;simp only[evalA,Bd,Ww (by rw[s.len];omega:Fw sl (Ig sl g as n).2.2<l.length),f31]
 |.and a b,g,n,fr,H,x,z,hok,ht,hN,ha,hg,hl,h=>by
   simp only[Ce]at ht ⊢;simp only[Q5,f32]at hok;simp only[Bu,f01]at h;have⟨⟨y,H1⟩,M,h⟩:=h;obtain⟨K,_,l,G,s,h3⟩:=a0n B N a g n fr H y H1 hok.1 ht.left hN ha hg hl M;have h4:=R2 sl (Ce sl g a n).2.2;generalize Ce sl g a n=r at *;generalize Q:Fw sl r.2.2=m at *;have⟨h5,h6⟩:=ht.right _ (f1u) _ rfl;have D:Tm sl N (Ce sl (some (m,true)) b (m+1)).1:=λi hi=>ht.right i (f0y _ (f0v _ hi));have C:=B.mv r.2.1 l H1;rw[h3]at C;have O:Keeps sl n fr (l.set m y):=s.trans (Keeps.set _ h5 h4) K;have p:=Ww (fr:=l) (m:=m) (by rw[s.len,hN];exact h6) y;have h7:=R2 sl (Ce sl (some (m,true)) b (m+1)).2.2;have⟨h8,h9⟩:=ht.right _ (f0y _ (f0k _ (f1t.2 rfl))) _ rfl;have J:m+1<=(Ce sl (some (m,true)) b (m+1)).2.2/\∃ j,Fl f (Ce sl (some (m,true)) b (m+1)).1 (l.set m y) H1=some (j,z)/\Keeps sl (m+1) (l.set m y) j/\
    pickV (evalA j (.t m)) (evalA j (Ce sl (some (m,true)) b (m+1)).2.1) (.bool false)=some x:=by
    split at h
    ·rename_i w;have w:y=.bool true:=w;subst w;obtain⟨E,_,j,A,u,g3⟩:=a0n B N b (some (m,true)) (m+1) (l.set m (.bool true)) H1 x z hok.2 D (by simp[s.len,hN]) (ha.keep O) p (f3f _) h;refine⟨E,j,A,u,?_⟩;simp only[evalA]at g3 ⊢;rw[u.k m (.inl (f3f _)),p];simp only[f31,pickV];exact congrArg some g3
    ·rename_i w;have w:y=.bool false:=w;subst w;cases h;have⟨E,j,A,u⟩:=a0o (f:=f) N b (some (m,true)) (m+1) (l.set m (.bool false)) H1 D (by simp[s.len,hN]) (.inl p) (f3f _);refine⟨E,j,A,u,?_⟩;simp only[evalA];rw[u.k m (.inl (f3f _)),p];rfl
    ·cases h
   have⟨E,j,A,u,g3⟩:=J;generalize Ce sl (some (m,true)) b (m+1)=q at *;have I:Keeps sl n fr j:=O.trans u om;have L:=B.pick (.t m) q.2.1 (.c (.bool false)) j z;rw[show evalA j (.c (.bool false))=AV.bool false from rfl,g3]at L;refine⟨by omega,.inl (f3f _),j.set (Fw sl q.2.2) x,Lf G ?_,I.trans (Keeps.set (m:=Fw sl q.2.2) x h8 h7) om,?_⟩
   ·rw[Z4 (hg.keep s hl) C];exact Lf A (by rw[Z4 (hg.keep I hl) L];rfl)
   ·simp only[evalA,Ww (by rw[I.len];omega:Fw sl q.2.2<j.length),f31]
 |.or a b,g,n,fr,H,x,z,hok,ht,hN,ha,hg,hl,h=>by
   simp only[Ce]at ht ⊢;simp only[Q5,f32]at hok;simp only[Bu,f01]at h;have⟨⟨y,H1⟩,M,h⟩:=h;obtain⟨K,_,l,G,s,h3⟩:=a0n B N a g n fr H y H1 hok.1 ht.left hN ha hg hl M;have h4:=R2 sl (Ce sl g a n).2.2;generalize Ce sl g a n=r at *;generalize Q:Fw sl r.2.2=m at *;have⟨h5,h6⟩:=ht.right _ (f1u) _ rfl;have D:Tm sl N (Ce sl (some (m,false)) b (m+1)).1:=λi hi=>ht.right i (f0y _ (f0v _ hi));have C:=B.mv r.2.1 l H1;rw[h3]at C;have O:Keeps sl n fr (l.set m y):=s.trans (Keeps.set _ h5 h4) K;have p:=Ww (fr:=l) (m:=m) (by rw[s.len,hN];exact h6) y;have h7:=R2 sl (Ce sl (some (m,false)) b (m+1)).2.2;have⟨h8,h9⟩:=ht.right _ (f0y _ (f0k _ (f1t.2 rfl))) _ rfl;have J:m+1<=(Ce sl (some (m,false)) b (m+1)).2.2/\∃ j,Fl f (Ce sl (some (m,false)) b (m+1)).1 (l.set m y) H1=some (j,z)/\Keeps sl (m+1) (l.set m y) j/\
    pickV (evalA j (.t m)) (.bool true) (evalA j (Ce sl (some (m,false)) b (m+1)).2.1)=some x:=by
    split at h
    ·rename_i w;have w:y=.bool true:=w;subst w;cases h;have⟨E,j,A,u⟩:=a0o (f:=f) N b (some (m,false)) (m+1) (l.set m (.bool true)) H1 D (by simp[s.len,hN]) (.inl p) (f3f _);refine⟨E,j,A,u,?_⟩;simp only[evalA];rw[u.k m (.inl (f3f _)),p];rfl
    ·rename_i w;have w:y=.bool false:=w;subst w;obtain⟨E,_,j,A,u,g3⟩:=a0n B N b (some (m,false)) (m+1) (l.set m (.bool false)) H1 x z hok.2 D (by simp[s.len,hN]) (ha.keep O) p (f3f _) h;refine⟨E,j,A,u,?_⟩;simp only[evalA]at g3 ⊢;rw[u.k m (.inl (f3f _)),p];simp only[f31,pickV];exact congrArg some g3
    ·cases h
   have⟨E,j,A,u,g3⟩:=J;generalize Ce sl (some (m,false)) b (m+1)=q at *;have I:Keeps sl n fr j:=O.trans u om;have L:=B.pick (.t m) (.c (.bool true)) q.2.1 j z;rw[show evalA j (.c (.bool true))=AV.bool true from rfl,g3]at L;refine⟨by omega,.inl (f3f _),j.set (Fw sl q.2.2) x,Lf G ?_,I.trans (Keeps.set (m:=Fw sl q.2.2) x h8 h7) om,?_⟩
   ·rw[Z4 (hg.keep s hl) C];exact Lf A (by rw[Z4 (hg.keep I hl) L];rfl)
   ·simp only[evalA,Ww (by rw[I.len];omega:Fw sl q.2.2<j.length),f31]
theorem b5a(s:StepOK f)(N:Nat){p:LA}:∀ (a:List TE) (g:Option (Nat×Bool)) (n:Nat) (fr:LA) (H:AH) (j:LA) (d:AH),a6w sl.length a=true->Tm sl N (Ig sl g a n).1->fr.length=N->Ag sl p fr->On fr g->Wj n g->
 E3 f p a H=some (j,d)->
 n<=(Ig sl g a n).2.2/\(∀ o∈(Ig sl g a n).2.1,Pd sl (Ig sl g a n).2.2 o)/\∃ b,Fl f (Ig sl g a n).1 fr H=some (b,d)/\Keeps sl n fr b/\(Ig sl g a n).2.1.map (evalA b)=j
 |[],g,n,fr,H,j,d,hok,ht,hN,ha,hg,hl,h=>by
   simp only[Ig];cases h;exact⟨f6o _,λo c=>(by cases c),fr,rfl,.refl _ _ _,rfl⟩
 |e::a,g,n,fr,H,j,d,hok,ht,hN,ha,hg,hl,h=>by
   simp only[Ig]at ht ⊢;simp only[a6w,f32]at hok;simp only[E3,f01]at h;have⟨⟨y,H1⟩,x,⟨z,t⟩,m,h⟩:=h;cases h;have⟨r,h3,k,w,i,h4⟩:=a0n s N e g n fr H y H1 hok.1 ht.left hN ha hg hl x;have⟨u,g3,l,v,q,g4⟩:=b5a s N a g _ k H1 z t hok.2 ht.right (i.len.trans hN) (ha.keep i) (hg.keep i hl) (hl.mono r) m;refine⟨by omega,λo c=>?_,l,Lf w v,i.trans q r,?_⟩
   ·rcases f5h.1 c with rfl|c
    ·exact h3.mono u
    ·exact g3 o c
   ·rw[f5b,g4,h3.keep q,h4]
end
def okS(k:Nat):TS->Bool
 |.put d _ as=>a6w k as&&(match d with
   |some i=>decide (i<k)
   |none=>true)
def tmB(sl:lN)(N:Nat)(l:List AInstr):Bool:=l.all λi=>match i.dst with
 |some d=> !sl.contains d&&decide (d<N)
 |none=>true
theorem b1c{sl:lN}{N:Nat}{l:List AInstr}(h:tmB sl N l=true):Tm sl N l:=by
 intro i hi d a
 have:=f35.1 h i hi;simp only[a,f32,f2o,List.contains_eq_mem,f02,f2f]at this;exact this
def Zk(sl:lN)(N:Nat):List TS->Nat->Bool
 |[],_=>true
 |.put d o as::l,n=>okS sl.length (.put d o as)&&tmB sl N (Ig sl none as n).1&&Zk sl N l (Ig sl none as n).2.2
theorem ag4(s:StepOK f)(N:Nat):∀ (l:List TS) (n:Nat) (fr e:LA) (H:AH) (a:LA) (c:AH),Zk sl N l n=true->fr.length=N->Ag sl e fr->
 Ge f l e H=some (a,c)->∃ b,Fl f (T6 sl l n).1 fr H=some (b,c)/\b.length=N/\Ag sl a b
 |[],n,fr,e,H,a,c,hok,hN,ha,h=>by
   cases h;exact⟨fr,rfl,hN,ha⟩
 |.put d o as::l,n,fr,e,H,a,c,hok,hN,ha,h=>by
   simp only[Zk,okS,f32]at hok;simp only[Ge,tvS,f01]at h;have⟨r,⟨⟨B,H1⟩,v,⟨y,t⟩,w,h3⟩,h4⟩:=h;cases h3;obtain⟨C,_,j,u,p,g3⟩:=b5a s N as none n fr H B H1 hok.1.1.1 (b1c hok.1.2) hN ha trivial trivial v;have h7:=s.map _ _ _ (c14 g3) o H1;rw[w]at h7;have q:Ag sl (Hj e d y) (Bd j (d.map (slot sl)) y):=by
    cases d with
    |none=>exact ha.keep p
    |some i=>exact(ha.keep p).put (by simpa using hok.1.1.2) y
   have k:(Bd j (d.map (slot sl)) y).length=N:=by
    cases d<;>simp[Bd,p.len,hN]
   have⟨m,x,z,A⟩:=ag4 s N l (Ig sl none as n).2.2 _ _ t a c hok.2 k q h4;refine⟨m,?_,z,A⟩;simp only[T6,flS];exact Lf (Lf u (by rw[Z4 (g:=none) trivial h7];rfl)) x
end
end
section
def Ij(lk:FuncId->Bool)(E:CallF):CallF:=λf a H=>
 if lk f then
  match E f (B9 H a) []with
  |some (x,H1)=>if Ed x then some (x,H)else if Aa a&&(Ab x&&H1.isEmpty)then some (x,H)else none
  |none=>none
 else Ri E f a H
mutual
theorem b97(H:AH):∀ x:AV,Ab x=true->Cd H x=x
 |.own ..,h=>by simp[Ab]at h
 |.ptr ..,h=>by simp[Ab]at h
 |.agg cs,h=>by simp only[Ab]at h;simp only[Cd,Wo H cs h]
 |.tuple cs,h=>by simp only[Ab]at h;simp only[Cd,Wo H cs h]
 |.fn f first cap,h=>by
   simp only[Ab,f32]at h;simp only[Cd,Wo H first h.1,Wo H cap h.2]
 |.top,_=>by simp[Cd]
 |.bool _,_=>by simp[Cd]
 |.int _ _,_=>by simp[Cd]
 |.str _,_=>by simp[Cd]
 |.nilp,_=>by simp[Cd]
 |.emp,_=>by simp[Cd]
 |.fz _,_=>by simp[Cd]
 |.fptr _,_=>by simp[Cd]
 |.nilfn,_=>by simp[Cd]
theorem Wo(H:AH):∀ a:LA,Aa a=true->B9 H a=a
 |[],_=>by simp[B9]
 |x::a,h=>by
   simp only[Aa,f32]at h;simp only[B9,b97 H x h.1,Wo H a h.2]
end
section
variable {P:Program}
theorem ew4{f:FuncId}{a:LA}{x:AV}(h:C P f a [] λy G=>y=x/\G=[])(b:Aa a=true)(d:Ab x=true)(H:AH):C P f a H λy G=>y=x/\G=H:=by
 refine b7c (K0:=λy G=>y=x/\G=[]) [] f4v (λr c=>by cases c) ?_ ?_
 ·rw[Kk _ _ b];exact h
 ·rintro y _ ⟨rfl,rfl⟩;refine⟨f6o _,?_⟩;rw[Lp _ _ d];exact⟨rfl,by simp[back,Cp]⟩
theorem ai7{lk:FuncId->Bool}{E:CallF}(a:Il P E):Il P (Ij lk E):=by
 intro f d H x j h;unfold Ij at h;split at h
 ·split at h
  ·rename_i y H1 b;split at h
   ·rename_i c;cases h;exact ew2 (a _ _ _ _ _ b) (by rintro y _ ⟨rfl,rfl⟩;exact⟨c,rfl,rfl⟩)
   ·split at h
    ·rename_i g;cases h;simp only[f32,List.isEmpty_iff]at g;obtain⟨e,i,rfl⟩:=g;rw[Wo H _ e]at b;exact ew4 (a _ _ _ _ _ b) e i H
    ·cases h
  ·cases h
 ·exact ep1 a _ _ _ _ _ h
end
def Ji(b:lN)(N:Nat)(a:LA):LA:=(List.range N).map λs=>match b.idxOf? s with
 |some i=>getF a i
 |none=>.top
def Xb(a:lN)(fr:LA):LA:=a.map (getF fr)
def Eu(a:lN):Nat->LA->LA
 |_,[]=>[]
 |i,x::xs=>(if a.contains i then x else .top)::Eu a (i+1) xs
def Km(n0:Nat)(b:LA)(H:AH):LA×AH:=
 if H.length<=n0 then(b,H)else
 let a:=L0 H (H.length*4+40) ((List.range n0).flatMap (λr=>refsO (H.at r))++Cn b) (List.range n0)
 if a.Nodup/\(∀ r∈List.range n0,a[r]?=some r)then(Ck (Bh a) b,a.map λr=>(H.at r).map (renO (Bh a)))else(b,H)
def W4(i sz:Nat)(a:LA)(H:AH):AV->LA×AH
 |.emp=>(Hj a (some i) (.own H.length sz 0 0 0),H++[some []])
 |_=>(a,H)
def T8:List (Nat×Nat)->LA×AH->LA×AH
 |[],q=>q
 |(i,sz)::l,q=>T8 l (W4 i sz q.1 q.2 (getF q.1 i))
def Gi(k:Nat):lN->Nat
 |[]=>k
 |r::l=>Gi (if k<=r then r+1 else k) l
def Kz(H:AH):lN:=H.flatMap refsO
def Pu(H:AH):Nat->Nat->Nat
 |0,k=>k
 |n+1,k=>Pu H n (Gi k (Kz (H.take k)))
def He(n0:Nat)(a:LA)(H:AH):LA×AH:=
 if H.length<=Gi n0 (Cn a)then(a,H)else
 if Gi (Pu H 4 (Gi n0 (Cn a))) (Kz (H.take (Pu H 4 (Gi n0 (Cn a)))))=Pu H 4 (Gi n0 (Cn a))then(a,H.take (Pu H 4 (Gi n0 (Cn a))))else(a,H)
def enter(n0:Nat)(a:lN)(c:List (Nat×Nat))(b:LA)(H:AH):LA×AH:=He n0 (T8 c (Eu a 0 b,H)).1 (T8 c (Eu a 0 b,H)).2
def W5(r a c sz:Nat)(b:LA)(H:AH):LA×AH:=
 match H.at r with
 |some o=>match o[a]? with
   |some e=>match e[c]? with
     |some .emp=>(b,H.set r (some (o.set a (e.set c (.own H.length sz 0 0 0))))++[some []])
     |_=>(b,H)
   |none=>(b,H)
 |none=>(b,H)
def Y9(n0:Nat)(a:LA)(H:AH):AV->LA×AH
 |.own r _ _ _ _=>if n0<=r then match (H.at r).bind Cx with
   |some b=>(C5 r b a,Jz (C5 r b) (H.set r none))
   |none=>(a,H)else(a,H)
 |_=>(a,H)
def aj9(off sz:Nat)(b:LA)(H:AH):AV->LA×AH
 |.ptr r a j _=>W5 r a (j+off) sz b H
 |_=>(b,H)
def aj7(c sz:Nat)(a:LA)(H:AH):AV->LA×AH
 |.own r _ off len _=>W5 r (off+len-1) c sz a H
 |_=>(a,H)
def Yi(H:AH)(r a c:Nat):AV:=(((H.at r).bind λo=>o[a]?).bind λe=>e[c]?).getD .top
def aj8(off c sz:Nat)(b:LA)(H:AH):AV->LA×AH
 |.ptr r a j _=>aj7 c sz b H (Yi H r a (j+off))
 |_=>(b,H)
def ag1(n0 off:Nat)(b:LA)(H:AH):AV->LA×AH
 |.ptr r a j _=>Y9 n0 b H (Yi H r a (j+off))
 |_=>(b,H)
def Rk(n0:Nat):Act->LA->AH->LA×AH
 |.fzC i off,cf,H=>ag1 n0 off cf H (getF cf i)
 |.fz i,cf,H=>Y9 n0 cf H (getF cf i)
 |.emp i sz,cf,H=>W4 i sz cf H (getF cf i)
 |.empC i off sz,cf,H=>aj9 off sz cf H (getF cf i)
 |.empL i off c sz,cf,H=>aj8 off c sz cf H (getF cf i)
 |.keep live,cf,H=>Km n0 (Eu live 0 cf) H
def Ql(n0:Nat):List Act->LA->AH->LA×AH
 |[],cf,H=>(cf,H)
 |a::l,cf,H=>Ql n0 l (Rk n0 a cf H).1 (Rk n0 a cf H).2
def Lg(n0:Nat)(l:List Act):Option (AExit×LA×AH)->Option (AExit×LA×AH)
 |some (.normal,cf,H)=>some (.normal,(Ql n0 l cf H).1,(Ql n0 l cf H).2)
 |r=>r
abbrev LoopF:=(LA->AH->Option (AExit×LA×AH))->LA->AH->Option (AExit×LA×AH)
structure TCtx where
 lk:FuncId->Bool
 E:CallF
 lp:LoopF
 sl:lN
 N:Nat
 n0:Nat
def C0(lk:FuncId->Bool)(E:CallF):StepF:=λo a H=>C6 o (Ij lk E) a H
def fD:StepF:=λo a H=>same (Be o (evalA a) H) H
def Sp(r:Option (LA×AH)):Option (AExit×LA×AH):=r.map λq=>(.normal,q.1,q.2)
def Mi(r:Option (AExit×LA×AH))(k:LA->AH->Option (AExit×LA×AH)):Option (AExit×LA×AH):=
 match r with
 |some (.normal,cf,H)=>k cf H
 |r=>r
def Sy(x:AV)(a b:Option (AExit×LA×AH)):Option (AExit×LA×AH):=
 match x with
 |.bool b'=>if b'=true then a else b
 |_=>none
def Bi(id:Nat)(r:Option (AExit×LA×AH)):Option (AExit×LA×AH):=
 match r with
 |some (.exit j,cf,H)=>if j=id then some (.normal,cf,H)else some (.exit j,cf,H)
 |r=>r
def Rj:List (List (Nat×AInstr))->Nat
 |[]=>0
 |s::l=>(s.filter λi=>match i.2.op with
   |.append .. =>true
   |_=>false).length+Rj l
def Bf(X:TCtx):TC->LA->AH->Option (AExit×LA×AH)
 |.skip,c,H=>some (.normal,c,H)
 |.ret,c,H=>some (.ret,c,H)
 |.exit i,c,H=>some (.exit i,c,H)
 |.reg _ l,c,H=>Sp (Ge (C0 X.lk X.E) l c H)
 |.dreg _ l,c,H=>Sp (Ge fD l c H)
 |.raw l,c,H=>(Hm (Ij X.lk X.E) l (Ji X.sl X.N c) H).map λr=>(.normal,Xb X.sl r.1,r.2)
 |.rawD l,c,H=>(O7 l (Ji X.sl X.N c) H).map λr=>(.normal,Xb X.sl r,H)
 |.rawE s t,c,H=>(Gx X.lk (Ij X.lk X.E) t s (Ji X.sl X.N c) (H++List.replicate (Rj s) (some []))).map λr=>(.normal,Xb X.sl r.1,r.2)
 |.seq a b,c,H=>Mi (Bf X a c H) λc H=>Bf X b c H
 |.ifc _ l e a b,c,H=>(Ge (C0 X.lk X.E) l c H).bind λr=>(Bu (C0 X.lk X.E) r.1 e r.2).bind λq=>Sy q.1 (Bf X a r.1 q.2) (Bf X b r.1 q.2)
 |.ifd _ l e a b,c,H=>(Ge fD l c H).bind λr=>(Bu fD r.1 e r.2).bind λq=>Sy q.1 (Bf X a r.1 q.2) (Bf X b r.1 q.2)
 |.ifv i a b,c,H=>Sy (getF c i) (Bf X a c H) (Bf X b c H)
 |.ifk q a b,c,H=>if q=true then Bf X a c H else Bf X b c H
 |.bad,_,_=>none
 |.block i b,c,H=>Bi i (Bf X b c H)
 |.loop live em b,c,H=>
   let q:=enter X.n0 live em c H
   X.lp (λc H=>Mi (Bf X b c H) λc H=>let q:=He X.n0 (Eu live 0 c) H;some (.normal,q.1,q.2)) q.1 q.2
 |.pre l b,c,H=>Bf X b (Ql X.n0 l c H).1 (Ql X.n0 l c H).2
 |.after l b,c,H=>Lg X.n0 l (Bf X b c H)
def Hb(c:lN)(N:Nat):TC->Bool
 |.reg n l=>Zk c N l n
 |.dreg n l=>Zk c N l n
 |.seq a b=>Hb c N a&&Hb c N b
 |.ifc n l e a b=>Zk c N l n&&Q5 c.length e&&tmB c N (Ce c none e (T6 c l n).2).1&&Hb c N a&&Hb c N b
 |.ifd n l e a b=>Zk c N l n&&Q5 c.length e&&tmB c N (Ce c none e (T6 c l n).2).1&&Hb c N a&&Hb c N b
 |.ifv i a b=>decide (i<c.length)&&Hb c N a&&Hb c N b
 |.ifk _ a b=>Hb c N a&&Hb c N b
 |.block _ b=>Hb c N b
 |.loop _ _ b=>Hb c N b
 |.pre _ b=>Hb c N b
 |.after _ b=>Hb c N b
 |_=>true
theorem ag8(lk:FuncId->Bool)(E:CallF):StepOK (C0 lk E):=by
 refine⟨λg fr d h o H=>?_,λx fr H=>?_,λc a b fr H=>?_⟩
 ·grind [C0,b34,ej0]
 ·simp only[C0,C6,kMv,Bn]
 ·simp only[C0,C6,b43,Bn]
theorem ag9:StepOK fD:=by
 refine⟨λg fr d h o H=>?_,λx fr H=>rfl,λc a b fr H=>rfl⟩;simp only[fD,cv5,funext h]
theorem bm6{a:lN}{b fr:LA}(h:Ag a b fr){i:Nat}(hi:i<a.length):slot a i<fr.length:=by
 have:=h.at' i hi
 grind
theorem e54{a:lN}(h:a.Nodup){i:Nat}(hi:i<a.length):a.idxOf? (slot a i)=some i:=by
 have b:a[i]?=some (slot a i):=by simp only[slot,ex9,ez2 hi,f31]
 exact Mf h b
theorem Vw(b:lN)(N:Nat)(a:LA):(Ji b N a).length=N:=by simp[Ji]
theorem c9j{b:lN}{N:Nat}{c fr:LA}(h:Ag b c fr)(d:fr.length=N){a:LA}(e:a.length=c.length):Ag b a (Ji b N a):=by
 refine⟨e.trans h.len,λi hi=>?_,h.nd⟩
 have:=bm6 h hi;simp only[Ji,f2i,f17 (d▸this),f3y,e54 h.nd hi]
theorem cy9:∀ {a b:LA},a.length=b.length->(∀ i,i<a.length->a[i]?=some .top\/a[i]?=b[i]?)->Yp a b
 |[],[],_,_=>trivial
 |x::a,y::b,hl,h=>by
   refine⟨?_,cy9 (by simpa using hl) λi hi=>?_⟩
   ·have:=h 0 sm;simpa using this
   ·have:=h (i+1) (by simpa using hi);simpa using this
 |[],_::_,hl,_=>by cases hl
 |_::_,[],hl,_=>by cases hl
theorem b51{b:lN}{N:Nat}{c fr:LA}(h:Ag b c fr)(f:fr.length=N){a:LA}(k:∀ i,i<b.length->getF a i=.top\/getF a i=getF c i):Yp (Ji b N a) fr:=by
 refine cy9 (by rw[Vw,f]) λs d=>?_;rw[Vw]at d;simp only[Ji,f2i,f17 d,f3y];cases g:b.idxOf? s with
 |none=>exact .inl rfl
 |some i=>
   have e:=Ll g;have hi:i<b.length:=by
    grind
   have j:slot b i=s:=(by simp only[slot,ex9,e,f31]);have h3:=h.at' i hi
   grind
theorem dc1{a:lN}{fr:LA}(b:a.Nodup)(c:∀ i,i<a.length->slot a i<fr.length):Ag a (Xb a fr) fr:=by
 refine⟨by simp[Xb],λi hi=>?_,b⟩;have d:a[i]?=some (slot a i):=by simp only[slot,ex9,ez2 hi,f31]
 grind [Xb,Hc,List.getElem?_eq_getElem]
theorem c44(a:lN):∀ (b:LA) (n i:Nat),getF (Eu a n b) i=.top\/getF (Eu a n b) i=getF b i
 |[],_,i=>.inr rfl
 |x::xs,n,0=>by
   grind [Eu,getF]
 |x::xs,n,i+1=>by
   simp only[Eu,getF];exact c44 a xs (n+1) i
theorem c43(a:lN):∀ (b:LA) (n:Nat),(Eu a n b).length=b.length
 |[],_=>rfl
 |x::xs,n=>by simp[Eu,c43 a xs]
theorem Ag.ren{c:lN}{a fr:LA}(h:Ag c a fr)(τ:Nat->Option Nat):Ag c (Ck τ a) (Ck τ fr):=by
 refine⟨by rw[Lq];simpa using h.len,λi hi=>?_,h.nd⟩;have b:i<a.length:=by rw[h.len];exact hi
 rw[Lq,f2i,h.at' i hi,Lq,Hc (a.map _),f2i,Hc,ez2 b];rfl
theorem at1:∀ (l:lN) (k:Nat),k<=Gi k l
 |[],k=>f6o k
 |r::l,k=>by
   unfold Gi;refine f61 ?_ (at1 l _);split<;>omega
theorem b3v:∀ (l:lN) (k r:Nat),r∈l->r<Gi k l
 |x::l,k,r,h=>by
   unfold Gi;rcases f5h.1 h with rfl|h
   ·grind [Nat.lt_of_lt_of_le,at1]
   ·exact b3v l _ r h
theorem bf2(H:AH):∀ (n k:Nat),k<=Pu H n k
 |0,k=>f6o k
 |n+1,k=>f61 (at1 _ k) (bf2 H n _)
mutual
theorem d99{τ:Nat->Option Nat}:∀ x:AV,(∀ r∈Dd x,τ r=some r)->ren τ x=x
 |.own r _ _ _ _,h=>by simp[ren,h r (by simp[Dd])]
 |.ptr r _ _ _,h=>by simp[ren,h r (by simp[Dd])]
 |.agg cs,h=>by simp only[Dd]at h;simp only[ren,Zb cs h]
 |.tuple cs,h=>by simp only[Dd]at h;simp only[ren,Zb cs h]
 |.fn f first cap,h=>by
   simp only[Dd,f43]at h;simp only[ren,Zb first λr a=>h r (.inl a),Zb cap λr a=>h r (.inr a)]
 |.top,_=>by simp[ren]
 |.bool _,_=>by simp[ren]
 |.int _ _,_=>by simp[ren]
 |.str _,_=>by simp[ren]
 |.nilp,_=>by simp[ren]
 |.emp,_=>by simp[ren]
 |.fz _,_=>by simp[ren]
 |.fptr _,_=>by simp[ren]
 |.nilfn,_=>by simp[ren]
theorem Zb{τ:Nat->Option Nat}:∀ a:LA,(∀ r∈Cn a,τ r=some r)->Ck τ a=a
 |[],_=>by simp[Ck]
 |x::a,h=>by
   simp only[Cn,f43]at h;simp only[Ck,d99 x λr b=>h r (.inl b),Zb a λr b=>h r (.inr b)]
end
theorem d9a{τ:Nat->Option Nat}(o:AObj)(h:∀ r∈refsO (some o),τ r=some r):renO τ o=o:=by
 unfold renO
 conv=>rhs;rw[<-f6r o]
 refine f16 λe a=>?_;exact Zb e λr b=>h r (f3b.2 ⟨e,a,b⟩)
theorem d6f{H:AH}{k:Nat}(h:k<=H.length)(d:∀ r∈Kz (H.take k),r<k):(List.range k).map (λr=>(H.at r).map (renO (Bh (List.range k))))=H.take k:=by
 refine List.ext_getElem (by simp;omega) λi b g=>?_;have hi:i<k:=by simpa using b
 have c:i<H.length:=om;simp only[List.getElem_map,f1v,List.getElem_take,AH.at,ez2 c,f3a];cases e:H[i]with
 |none=>rfl
 |some o=>
   simp only[f3y];rw[d9a o λr f=>?_];have a:r<k:=d r (f3b.2 ⟨some o,by rw[<-e];exact List.mem_take_iff_getElem.2 ⟨i,by omega,rfl⟩,f⟩);exact Mf f3g (f17 a)
theorem d9c:∀ {f:lN} {N:Nat} {a:LA} (r:Nat),r∈Cn (Ji f N a)->r∈Cn a:=by
 have e:∀ (b a:LA) (r:Nat),(∀ x∈b,x=.top\/x∈a)->r∈Cn b->r∈Cn a:=by
  intro b
  induction b with
  |nil=>intro a r _ h;simp[Cn]at h
  |cons x b d=>
    intro a r c h;simp only[Cn,f43]at h;rcases h with h|h
    ·rcases c x (by simp)with rfl|hm
     ·simp[Dd]at h
     ·clear d c
      induction a with
      |nil=>cases hm
      |cons y a d=>
        grind [Cn,List.mem_cons.1]
    grind
 grind [Ji,Hc,Nat.lt_or_ge,List.getElem?_eq_getElem,List.getElem_mem,List.getElem?_eq_none]
theorem be0{g:lN}{N:Nat}{a fr:LA}(h:Ag g a fr)(d:fr.length=N)(n0:Nat)(H:AH) :
 ∃ b,Wk n0 fr H b (He n0 a H).2/\Ag g (He n0 a H).1 b/\b.length=N:=by
 unfold He;split
 ·exact⟨fr,Wk.refl _ _ _,h,d⟩
 ·rename_i s;split
  ·rename_i o;generalize p:Pu H 4 (Gi n0 (Cn a))=k at *;have f:Gi n0 (Cn a)<=k:=p▸bf2 H 4 _;have n:Wk n0 fr H (Ji g N a) H:=az9 (b51 h d λi _=>.inr rfl);rcases f5u H.length k with l|j
   ·have e:H.take k=H:=f0a (Nat.le_of_lt l);rw[e];exact⟨fr,Wk.refl _ _ _,h,d⟩
   ·have q:n0<=k:=f61 (at1 _ n0) f;have c:∀ r∈Kz (H.take k),r<k:=λr c=>(by have:=b3v _ k r c;rwa [o]at this);have m:=b6y (n0:=n0) (fr:=Ji g N a) (H:=H) (List.range k) f3g λr c=>f17 om;rw[d6f j c,Zb (Ji g N a) λr c=>Mf f3g (f17 (f1r (b3v _ n0 r (d9c r c)) f))]at m;exact⟨_,n.trans m,c9j h d rfl,Vw _ _ _⟩
  ·exact⟨fr,Wk.refl _ _ _,h,d⟩
theorem b42{e:lN}{N:Nat}{c fr:LA}(h:Ag e c fr)(d:fr.length=N)(n0:Nat)(a:lN)(H:AH) :
 ∃ b,Wk n0 fr H b H/\Ag e (Eu a 0 c) b/\b.length=N:=
 ⟨_,az9 (b51 h d λi _=>c44 a c 0 i),c9j h d (c43 _ _ _),Vw _ _ _⟩
theorem eu0{n0:Nat}{fr:LA}{H:AH}{i:Nat}(h:fr[i]?=some .emp)(sz:Nat):Wk n0 fr H (fr.set i (.own H.length sz 0 0 0)) (H++[some []]):=by
 intro E w g f d;refine⟨E,LeN.refl _ _,f.newEmpty,by simpa using d.1,λj x u b e=>?_⟩;rw[f2e]at b;split at b
 ·rename_i c;subst c;split at b
  ·cases b;obtain⟨a,rfl⟩:=Jc (d.2 i _ u h e);exact .own0 _ _ _
  ·cases b
 ·exact d.2 j x u b e
theorem b6z{n0:Nat}(fr:LA)(H:AH):∀ k:Nat,Wk n0 fr H fr (H++List.replicate k (some []))
 |0=>by rw[f18,f42];exact Wk.refl _ _ _
 |k+1=>by
   have a:Wk n0 fr (H++List.replicate k (some [])) fr (H++List.replicate (k+1) (some [])):=by
    intro E w d c b;rw[f0w,<-f2p];exact⟨E,LeN.refl _ _,c.newEmpty,b⟩
   exact(b6z fr H k).trans a
theorem ax6{b:lN}{N n0:Nat}:∀ (d:List (Nat×Nat)) (q:LA×AH) (fr:LA),Ag b q.1 fr->fr.length=N->∃ a,Wk n0 fr q.2 a (T8 d q).2/\Ag b (T8 d q).1 a/\a.length=N
 |[],q,fr,ha,hN=>⟨fr,Wk.refl _ _ _,ha,hN⟩
 |(i,sz)::l,q,fr,ha,hN=>by
   unfold T8;cases c:getF q.1 i with
   |emp=>
     have hi:i<b.length:=by
      rcases f5u i b.length with h|h
      ·exact h
      ·rw[Hc,f0e (by rw[ha.len];exact h)]at c;cases c
     have e:=ha.at' i hi;rw[c]at e;obtain⟨a,f,g,g3⟩:=ax6 l (W4 i sz q.1 q.2 .emp) (fr.set (slot b i) (.own q.2.length sz 0 0 0)) (ha.put hi _) (by simpa using hN);exact⟨a,(eu0 e sz).trans f,g,g3⟩
   |_=>exact ax6 l q fr ha hN
theorem et4{n0:Nat}{fr:LA}{H:AH}(r:Nat){o o':AObj}(m:H.at r=some o)(F:o'.length=o.length)
 (L:∀ (i:Nat) f,o'[i]?=some f->∃ e,o[i]?=some e/\f.length=e.length/\∀ (k:Nat) n,f[k]?=some n->∃ c,e[k]?=some c/\∀ E v,Rep E c v->Rep E n v):Wk n0 fr H fr (H.set r (some o')):=by
 intro E w W d J;refine⟨E,LeN.refl _ _,?_,J⟩;have I:=Tc m;have b:AH.at (H.set r (some o')) r=some o':=a52 (some o') I;have l:∀ a,a≠r->AH.at (H.set r (some o')) a=H.at a:=λa h=>Ux (some o') h.symm;refine⟨d.os,d.tape,d.output,d.frz,d.disj,λa x K=>by rw[f3v];exact d.dom a x K,λa q p=>?_,λM N q U x x' y z h3 h4 h5=>?_⟩
 ·by_cases e:a=r
  ·subst e;rw[b]at p;cases p;rcases d.obj a o m with ⟨y,z⟩|⟨x,K,j⟩
   ·left;refine⟨ez8.1 (by rw[F,y];rfl),z⟩
   ·right;have⟨cells,t,q,O,b2,Q,R,S⟩:=j.blk;refine⟨x,K,j.t.trans F.symm,j.pos,j.out,⟨cells,t,q,O,b2,Q,R,λi f k n v s u g3=>?_⟩,λf D=>?_,by rw[F];exact j.fits⟩
    ·obtain⟨e,C,_,T⟩:=L i f s;have⟨c,A,B⟩:=T k n u;exact B E v (S i e k c v C A g3)
    ·obtain⟨i,hi,rfl⟩:=f0z.1 D;obtain⟨e,C,G,_⟩:=L i _ (ez2 hi);rw[G];exact j.sz e (f0q C)
  ·rw[l a e]at p;exact d.obj a q p
 ·have g:∀ a q,AH.at (H.set r (some o')) a=some q->∃ V,H.at a=some V:=λa q h=>by
   grind
  obtain⟨_,s⟩:=g M q y;obtain⟨_,u⟩:=g N U z;exact d.inj M N _ _ x x' s u h3 h4 h5
theorem et9{n0:Nat}{fr:LA}{H:AH}{r a c:Nat}{o:AObj}{e:LA}(f:H.at r=some o)(m:o[a]?=some e)(l:e[c]?=some .emp)(sz:Nat) :
 Wk n0 fr H fr (H.set r (some (o.set a (e.set c (.own H.length sz 0 0 0))))++[some []]):=by
 have g:Wk n0 fr H fr (H.set r (some (o.set a (e.set c (.own H.length sz 0 0 0))))):=by
  refine et4 r f sm λi q h=>?_;rw[f2e]at h;split at h
  ·rename_i hi;subst hi;split at h
   ·cases h;refine⟨e,m,by simp,λk p d=>?_⟩;rw[f2e]at d;split at d
    ·rename_i hi;subst hi;split at d
     ·cases d;refine⟨.emp,l,λE v n=>?_⟩;obtain⟨b,rfl⟩:=Jc n;exact .own0 _ _ _
     ·cases d
    grind
   ·cases h
  grind
 have j:=b6z (n0:=n0) fr (H.set r (some (o.set a (e.set c (.own H.length sz 0 0 0))))) 1;exact g.trans j
theorem ch3{e:lN}{N n0:Nat}{d fr:LA}(g:Ag e d fr)(f:fr.length=N)(r a c sz:Nat)(H:AH):∃ b,Wk n0 fr H b (W5 r a c sz d H).2/\Ag e (W5 r a c sz d H).1 b/\b.length=N:=by
 grind [W5,et9,Wk.refl]
theorem d68{o:AObj}{c:List LP}(h:Cx o=some c):o=c.map λe=>e.map emb:=by
 have one:∀ (e:LA) (p:LP),e.mapM Dr=some p->e=p.map emb:=by
  intro e
  induction e with
  |nil=>intro p h;rw[List.mapM_nil]at h;cases h;rfl
  |cons x e d=>
    intro p h;rw[f4r]at h;cases a:Dr x with
    |none=>rw[a]at h;cases h
    |some y=>
      cases b:e.mapM Dr with
      |none=>rw[a,b]at h;cases h
      |some f=>
        rw[a,b]at h;cases h;rw[f5b,<-d f b]
        congr 1
        cases x<;>simp[Dr]at a<;>subst a<;>rfl
 revert c
 induction o with
 |nil=>intro c h;unfold Cx at h;rw[List.mapM_nil]at h;cases h;rfl
 |cons e o d=>
   intro c h;unfold Cx at h;rw[f4r]at h;cases a:e.mapM Dr with
   |none=>rw[a]at h;cases h
   |some y=>
     cases b:o.mapM (λe=>e.mapM Dr)with
     |none=>rw[a,b]at h;cases h
     |some f=>
       rw[a,b]at h;cases h;rw[f5b,<-d b,<-one e y a]
theorem eg7{d:lN}{a fr:LA}(h:Ag d a fr)(r:Nat)(b:List LP):Ag d (C5 r b a) (C5 r b fr):=by
 have e:∀ l:LA,C5 r b l=l.map (frz r b):=by
  intro l
  induction l with
  |nil=>simp[C5]
  |cons x l f=>simp[C5,f]
 rw[e,e];refine⟨by simpa using h.len,λi hi=>?_,h.nd⟩;have c:i<a.length:=by rw[h.len];exact hi
 rw[f2i,h.at' i hi,Hc (a.map _),f2i,Hc,ez2 c];rfl
theorem dq9{e:lN}{N:Nat}{c fr:LA}(h:Ag e c fr)(d:fr.length=N)(n0:Nat)(H:AH) :
 ∃ a,Wk n0 fr H a (Km n0 c H).2/\Ag e (Km n0 c H).1 a/\a.length=N:=by
 unfold Km;split
 ·exact⟨fr,Wk.refl _ _ _,h,d⟩
 ·simp only[];split
  ·rename_i b;exact⟨_,b6y _ b.1 λr f=>b.2 r (f4q.2 f),h.ren _,by rw[Lq,f3z];exact d⟩
  ·exact⟨fr,Wk.refl _ _ _,h,d⟩
theorem c9g{g:lN}{N n0:Nat}{c fr:LA}(k:Ag g c fr)(j:fr.length=N)(H:AH)(x:AV):∃ a,Wk n0 fr H a (Y9 n0 c H x).2/\Ag g (Y9 n0 c H x).1 a/\a.length=N:=by
 have b:∃ a,Wk n0 fr H a H/\Ag g c a/\a.length=N:=⟨fr,Wk.refl _ _ _,k,j⟩;have i:∀ (r:Nat) (d:List LP) (l:LA),(C5 r d l).length=l.length:=by
  intro r d l
  induction l with
  |nil=>simp[C5]
  |cons x l n=>simp[C5,n]
 cases x with
 |own r sz off len tot=>
   unfold Y9;simp only[];by_cases h:n0<=r
   ·rw[iP h];cases f:(H.at r).bind Cx with
    |none=>exact b
    |some d=>
      have⟨o,m,f⟩:=f01.1 f;have e:=d68 f;have p:=cy4 (n0:=n0) (fr:=fr) r d (m.trans (congrArg some e))
      grind [eg7]
   grind
 |_=>exact b
theorem et3{g:lN}{N n0:Nat}(a:Act){d fr:LA}(k:Ag g d fr)(h:fr.length=N)(H:AH):∃ b,Wk n0 fr H b (Rk n0 a d H).2/\Ag g (Rk n0 a d H).1 b/\b.length=N:=by
 have e:∃ b,Wk n0 fr H b H/\Ag g d b/\b.length=N:=⟨fr,Wk.refl _ _ _,k,h⟩;cases a with
 |fz i=>exact c9g k h H (getF d i)
 |fzC i off=>
   show ∃ b,Wk n0 fr H b (ag1 n0 off d H (getF d i)).2/\Ag g (ag1 n0 off d H (getF d i)).1 b/\b.length=N;cases getF d i with
   |ptr r a j t=>exact c9g k h H _
   |_=>exact e
 |emp i sz=>
   have:=ax6 (n0:=n0) [(i,sz)] (d,H) fr k h;exact this
 |empC i off sz=>
   show ∃ b,Wk n0 fr H b (aj9 off sz d H (getF d i)).2/\Ag g (aj9 off sz d H (getF d i)).1 b/\b.length=N;cases getF d i with
   |ptr r a j t=>exact ch3 k h _ _ _ _ _
   |_=>exact e
 |empL i off c sz=>
   show ∃ b,Wk n0 fr H b (aj8 off c sz d H (getF d i)).2/\Ag g (aj8 off c sz d H (getF d i)).1 b/\b.length=N;cases getF d i with
   |ptr r a j t=>
     show ∃ b,Wk n0 fr H b (aj7 c sz d H (Yi H r a (j+off))).2/\Ag g (aj7 c sz d H (Yi H r a (j+off))).1 b/\b.length=N;cases Yi H r a (j+off)with
     |own=>exact ch3 k h _ _ _ _ _
     |_=>exact e
   |_=>exact e
 |keep f=>
   show ∃ b,Wk n0 fr H b (Km n0 (Eu f 0 d) H).2/\Ag g (Km n0 (Eu f 0 d) H).1 b/\b.length=N;have⟨m,p,q,h3⟩:=b42 k h n0 f H;have⟨l,n,o,g3⟩:=dq9 q h3 n0 H;exact⟨l,p.trans n,o,g3⟩
theorem b6x{e:lN}{N n0:Nat}:∀ (l:List Act) {c fr:LA} (_:Ag e c fr) (_:fr.length=N) (H:AH),∃ b,Wk n0 fr H b (Ql n0 l c H).2/\Ag e (Ql n0 l c H).1 b/\b.length=N
 |[],c,fr,ha,hN,H=>⟨fr,Wk.refl _ _ _,ha,hN⟩
 |a::l,c,fr,ha,hN,H=>by
   obtain⟨f,i,j,h3⟩:=et3 (n0:=n0) a ha hN H;obtain⟨d,g,h,g3⟩:=b6x l j h3 (Rk n0 a c H).2;exact⟨d,i.trans g,h,g3⟩
section
variable {P:Program}
theorem a6a{call:CallF}:∀ {is:List AInstr} {fr:LA} {H:AH} {r:LA×AH},Fl (λo fr H=>C6 o call fr H) is fr H=some r->Hm call is fr H=some r
 |[],fr,H,r,h=>h
 |i::rest,fr,H,r,h=>by
   unfold Fl at h;unfold Hm;have j:((C6 i.op call fr H).bind λq=>Fl (λo fr H=>C6 o call fr H) rest (Bd fr i.dst q.1) q.2)=some r->(match C6 i.op call fr H with|some (v,H')=>Hm call rest (Hj fr i.dst v) H'|none=>none)=some r:=by
    intro h;cases e:C6 i.op call fr H with
    |none=>rw[e]at h;cases h
    |some q=>
      rw[e]at h;simp only[Zf];exact a6a h
   cases d:i.guard with
   |none=>rw[d]at h;exact j h
   |some k=>
     have⟨g,f⟩:=k;rw[d]at h;simp only at h ⊢;split at h
     ·rename_i b a;rw[Hc,a];simp only[f31];split at h
      ·grind
      ·rename_i c;rw[iN c,Zf];exact a6a h
     ·rename_i a;rw[Hc,a];simp only[f31,Zf];exact a6a h
     ·cases h
theorem a69:∀ {is:List AInstr} {fr:LA} {H:AH} {r:LA×AH},Fl fD is fr H=some r->O7 is fr H=some r.1/\r.2=H
 |[],fr,H,r,h=>by cases h;exact⟨rfl,rfl⟩
 |i::rest,fr,H,r,h=>by
   unfold Fl at h;unfold O7;have j:((fD i.op fr H).bind λq=>Fl fD rest (Bd fr i.dst q.1) q.2)=some r->(match Be i.op (evalA fr) H with|some v=>O7 rest (Bd fr i.dst v) H|none=>none)=some r.1/\r.2=H:=by
    intro h;unfold fD same at h;cases e:Be i.op (evalA fr) H with
    |none=>rw[e]at h;cases h
    |some q=>
      rw[e]at h;exact a69 h
   cases d:i.guard with
   |none=>rw[d]at h;exact j h
   |some k=>
     have⟨g,f⟩:=k;rw[d]at h;simp only at h ⊢;split at h
     ·rename_i b a
      try rw[a]
      try simp only
      split at h
      ·grind
      ·rename_i c;rw[iN c];exact a69 h
     ·rename_i a
      try rw[a]
      exact a69 h
     ·cases h
def IsT(f:lN)(N:Nat)(e:AExit)(c:LA)(H:AH):APost:=λd a b=>d=e/\b=H/\a.length=N/\Ag f c a
def b78(c:LoopF):Prop:=∀ a b H r,c a b H=some r->∃ k,Jb a k b H=some r
theorem a4c{call:CallF}:∀ {is:List AInstr} {fr:LA} {H:AH} {r:LA×AH},Hm call is fr H=some r->r.1.length=fr.length
 |[],fr,H,r,h=>by cases h;rfl
 |i::rest,fr,H,r,h=>by
   have a:∀ v,(Hj fr i.dst v).length=fr.length:=λv=>(by cases i.dst<;>simp[Hj]);unfold Hm at h;split at h
   ·split at h
    ·exact(a4c h).trans (a _)
    ·cases h
   ·split at h
    ·split at h
     ·split at h
      ·exact(a4c h).trans (a _)
      ·cases h
     ·exact(a4c h).trans (a _)
    ·exact(a4c h).trans (a _)
    ·cases h
theorem ah0:∀ {is:List AInstr} {fr:LA} {H:AH} {r:LA},O7 is fr H=some r->r.length=fr.length
 |[],fr,H,r,h=>by cases h;rfl
 |i::rest,fr,H,r,h=>by
   have a:∀ v,(Bd fr i.dst v).length=fr.length:=λv=>(by cases i.dst<;>simp[Bd]);unfold O7 at h;split at h
   ·split at h
    ·exact(ah0 h).trans (a _)
    ·cases h
   ·split at h
    ·split at h
     ·split at h
      ·exact(ah0 h).trans (a _)
      ·cases h
     ·exact(ah0 h).trans (a _)
    ·exact(ah0 h).trans (a _)
    ·cases h
theorem a4d{lk:FuncId->Bool}{ev:CallF}{tab:List lN}:∀ {is:List (Nat×AInstr)} {c:Nat} {b:List Jm} {fr:LA} {H:AH} {r:LA×AH},Hv lk ev tab is c b fr H=some r->r.1.length=fr.length
 |[],c,b,fr,H,r,h=>by
   grind [Hv]
 |(i,A7)::rest,c,b,fr,H,r,h=>by
   have a:∀ v,(Bd fr A7.dst v).length=fr.length:=λv=>(by cases A7.dst<;>simp[Bd]);unfold Hv at h;split at h
   ·split at h
    ·exact(a4d h).trans (a _)
    ·cases h
   ·split at h
    ·split at h
     ·split at h
      ·exact(a4d h).trans (a _)
      ·cases h
     ·exact(a4d h).trans (a _)
    ·exact(a4d h).trans (a _)
    ·cases h
theorem ax3{lk:FuncId->Bool}{ev:CallF}{tab:List lN}:∀ {b:List (List (Nat×AInstr))} {fr:LA} {H:AH} {r:LA×AH},Gx lk ev tab b fr H=some r->r.1.length=fr.length
 |[],fr,H,r,h=>by cases h;rfl
 |[(_,A7)]::rest,fr,H,r,h=>by
   unfold Gx at h;split at h
   ·rename_i a;exact(ax3 h).trans (a4c a)
   ·cases h
 |[]::rest,fr,H,r,h=>by
   unfold Gx at h;split at h
   ·rename_i a;exact(ax3 h).trans (a4d a)
   ·cases h
 |(x::y::z)::rest,fr,H,r,h=>by
   unfold Gx at h;split at h
   ·rename_i a;exact(ax3 h).trans (a4d a)
   ·cases h
theorem b71{b:lN}{N:Nat}{g fr:LA}(c:Ag b g fr)(j:fr.length=N){n0:Nat}{f:ACode}{a:LA}{H d:AH}(h:W P n0 f (Is .normal a d) (Ji b N g) H)(k:a.length=N) :
 W P n0 f (IsT b N .normal (Xb b a) d) fr H:=by
 refine b01 (az9 (b51 c j λi _=>.inr rfl)) (Wf h ?_);rintro e m l ⟨rfl,rfl,rfl⟩;exact⟨rfl,rfl,k,dc1 c.nd λi hi=>by rw[k,<-j];exact bm6 c hi⟩
theorem Jn(X:TCtx)(v:Il P X.E)(m:b78 X.lp):∀ (c:TC) (d fr:LA) (H:AH) (e:AExit) (f:LA) (u:AH),Hb X.sl X.N c=true->fr.length=X.N->Ag X.sl d fr->Bf X c d H=some (e,f,u)->
 W P X.n0 (Kc X.sl c) (IsT X.sl X.N e f u) fr H
 |.skip,d,fr,H,e,f,u,hok,hN,g,h=>by cases h;exact cy6 ⟨rfl,rfl,hN,g⟩
 |.ret,d,fr,H,e,f,u,hok,hN,g,h=>by cases h;exact cy7 ⟨rfl,rfl,hN,g⟩
 |.exit i,d,fr,H,e,f,u,hok,hN,g,h=>by cases h;exact cy8 ⟨rfl,rfl,hN,g⟩
 |.reg n l,d,fr,H,e,f,u,hok,hN,g,h=>by
   simp only[Bf,Sp,f09]at h;obtain⟨⟨w,H1⟩,A,h⟩:=h;cases h;obtain⟨z,p,o,h3⟩:=ag4 (ag8 X.lk X.E) X.N l n fr d H w H1 hok hN g A;exact b02 (a0r (ai7 v) (a6a p) ⟨rfl,rfl,o,h3⟩)
 |.dreg n l,d,fr,H,e,f,u,hok,hN,g,h=>by
   simp only[Bf,Sp,f09]at h;obtain⟨⟨w,H1⟩,A,h⟩:=h;cases h;obtain⟨z,p,o,h3⟩:=ag4 ag9 X.N l n fr d H w H1 hok hN g A;obtain⟨h4,h5⟩:=a69 p;exact b72 (a4b h4 ⟨rfl,h5.symm,o,h3⟩)
 |.raw l,d,fr,H,e,f,u,hok,hN,g,h=>by
   simp only[Bf,f09]at h;obtain⟨⟨w,H1⟩,A,h⟩:=h;cases h;exact b71 g hN (b02 (a0r (ai7 v) A ⟨rfl,rfl,rfl⟩)) ((a4c A).trans (Vw _ _ _))
 |.rawD l,d,fr,H,e,f,u,hok,hN,g,h=>by
   simp only[Bf,f09]at h;obtain⟨w,A,h⟩:=h;cases h;exact b71 g hN (b72 (a4b A ⟨rfl,rfl,rfl⟩)) ((ah0 A).trans (Vw _ _ _))
 |.rawE s t,d,fr,H,e,f,u,hok,hN,g,h=>by
   simp only[Bf,f09]at h;obtain⟨⟨w,H1⟩,A,h⟩:=h;cases h;exact b01 (b6z fr H (Rj s)) (b71 g hN (eu4 (ax1 (ai7 v) A ⟨rfl,rfl,rfl⟩)) ((ax3 A).trans (Vw _ _ _)))
 |.seq a b,d,fr,H,e,f,u,hok,hN,g,h=>by
   simp only[Hb,f32]at hok;simp only[Bf]at h;unfold Mi at h;split at h
   ·rename_i w H1 Y;refine ak0 (Wf (Jn X v m a d fr H _ _ _ hok.1 hN g Y) ?_);rintro _ R _ ⟨rfl,rfl,p,o⟩;exact Jn X v m b w R _ _ _ _ hok.2 p o h
   ·rename_i M;refine ak0 (Wf (Jn X v m a d fr H _ _ _ hok.1 hN g h) ?_);rintro Q R O K;obtain⟨rfl,rfl,p,o⟩:=K;cases Q with
    |normal=>exact absurd h (M _ _)
    |exit i=>exact⟨rfl,rfl,p,o⟩
    |ret=>exact⟨rfl,rfl,p,o⟩
 |.ifc n l x a b,d,fr,H,e,f,u,hok,hN,g,h=>by
   simp only[Hb,f32]at hok;simp only[Bf,f01]at h;obtain⟨⟨w,H1⟩,A,⟨y,H2⟩,K,h⟩:=h;obtain⟨B,p,o,h3⟩:=ag4 (ag8 X.lk X.E) X.N l n fr d H w H1 hok.1.1.1.1 hN g A;obtain⟨_,_,z,L,F,g3⟩:=a0n (ag8 X.lk X.E) X.N x none (T6 X.sl l n).2 B H1 y H2 hok.1.1.1.2 (b1c hok.1.1.2) o h3 trivial trivial K;refine ak0 (b02 (a0r (ai7 v) (a6a (Lf p L)) ?_));have G:=h3.keep F;have J:=F.len.trans o;unfold Sy at h;split at h
   ·rename_i S I;refine ak1 S (g3.trans I) (λC=>?_) (λC=>?_)
    ·rw[iP C]at h;exact Jn X v m a w z _ _ _ _ hok.1.2 J G h
    ·rw[iN (by rw[C];simp)]at h;exact Jn X v m b w z _ _ _ _ hok.2 J G h
   ·cases h
 |.ifd n l x a b,d,fr,H,e,f,u,hok,hN,g,h=>by
   simp only[Hb,f32]at hok;simp only[Bf,f01]at h;obtain⟨⟨w,H1⟩,A,⟨y,H2⟩,K,h⟩:=h;obtain⟨B,p,o,h3⟩:=ag4 ag9 X.N l n fr d H w H1 hok.1.1.1.1 hN g A;obtain⟨_,_,z,L,F,g3⟩:=a0n ag9 X.N x none (T6 X.sl l n).2 B H1 y H2 hok.1.1.1.2 (b1c hok.1.1.2) o h3 trivial trivial K;obtain⟨k1,Z⟩:=a69 (Lf p L);refine ak0 (b72 (a4b k1 ?_));have G:=h3.keep F;have J:=F.len.trans o;replace Z:H2=H:=Z;subst Z;unfold Sy at h;split at h
   ·rename_i S I;refine ak1 S (g3.trans I) (λC=>?_) (λC=>?_)
    ·rw[iP C]at h;exact Jn X v m a w z _ _ _ _ hok.1.2 J G h
    ·rw[iN (by rw[C];simp)]at h;exact Jn X v m b w z _ _ _ _ hok.2 J G h
   ·cases h
 |.ifv i a b,d,fr,H,e,f,u,hok,hN,g,h=>by
   simp only[Hb,f32,f2f]at hok;simp only[Bf]at h;unfold Sy at h;split at h
   ·rename_i S I;refine ak1 S ((g.get hok.1.1).trans I) (λC=>?_) (λC=>?_)
    ·rw[iP C]at h;exact Jn X v m a d fr _ _ _ _ hok.1.2 hN g h
    ·rw[iN (by rw[C];simp)]at h;exact Jn X v m b d fr _ _ _ _ hok.2 hN g h
   ·cases h
 |.ifk q a b,d,fr,H,e,f,u,hok,hN,g,h=>by
   simp only[Hb,f32]at hok;simp only[Bf]at h;refine ak1 q rfl (λC=>?_) (λC=>?_)
   ·rw[iP C]at h;exact Jn X v m a d fr _ _ _ _ hok.1 hN g h
   ·rw[iN (by rw[C];simp)]at h;exact Jn X v m b d fr _ _ _ _ hok.2 hN g h
 |.bad,d,fr,H,e,f,u,hok,hN,g,h=>by cases h
 |.block i b,d,fr,H,e,f,u,hok,hN,g,h=>by
   simp only[Hb]at hok;simp only[Bf]at h;unfold Bi at h;split at h
   ·rename_i j w H1 Y;refine b73 (Wf (Jn X v m b d fr H _ _ _ hok hN g Y) ?_);rintro _ R _ ⟨rfl,rfl,p,o⟩;simp only[b04];split at h
    ·rename_i hj;cases h;rw[iP hj];exact⟨rfl,rfl,p,o⟩
    ·rename_i hj;cases h;rw[iN hj];exact⟨rfl,rfl,p,o⟩
   ·rename_i M;refine b73 (Wf (Jn X v m b d fr H _ _ _ hok hN g h) ?_);rintro Q R O K;obtain⟨rfl,rfl,p,o⟩:=K;cases Q with
    |normal=>exact⟨rfl,rfl,p,o⟩
    |exit i=>exact absurd h (M _ _ _)
    |ret=>exact⟨rfl,rfl,p,o⟩
 |.loop live em b,d,fr,H,e,f,u,hok,hN,g,h=>by
   simp only[Hb]at hok;simp only[Bf,enter]at h;obtain⟨k,D⟩:=m _ _ _ _ h;obtain⟨a0,a1,a2,a3⟩:=b42 g hN X.n0 live H;obtain⟨a4,T,U,V⟩:=ax6 (n0:=X.n0) em (Eu live 0 d,H) a0 a2 a3;obtain⟨B,p,o,h3⟩:=be0 U V X.n0 (T8 em (Eu live 0 d,H)).2;refine b01 ((a1.trans T).trans p) ?_;refine eu3 (λk fr H=>∃ d,fr.length=X.N/\Ag X.sl d fr/\Jb (λd H=>Mi (Bf X b d H) λd H=>some (.normal,(He X.n0 (Eu live 0 d) H).1,(He X.n0 (Eu live 0 d) H).2)) k d H=some (e,f,u)) k ⟨_,h3,o,D⟩ ?_;rintro k fr H ⟨d,hl,g,D⟩;cases k with
   |zero=>cases D
   |succ k=>
     unfold Jb at D;cases hs:Bf X b d H with
     |none=>rw[hs]at D;cases D
     |some r=>
       obtain⟨e1,w,H1⟩:=r;refine Wf (Jn X v m b d fr H _ _ _ hok hl g hs) ?_;rintro Q R O K;obtain⟨rfl,rfl,L,F⟩:=K;rw[hs]at D;cases Q with
       |normal=>
         obtain⟨z,j1,j2,j3⟩:=b42 F L X.n0 live O;obtain⟨a5,k1,Z,k3⟩:=be0 j2 j3 X.n0 O;exact⟨_,_,j1.trans k1,k,f3f _,_,k3,Z,D⟩
       |exit i=>simp only[Mi]at D;cases D;exact⟨rfl,rfl,L,F⟩
       |ret=>simp only[Mi]at D;cases D;exact⟨rfl,rfl,L,F⟩
 |.pre l b,d,fr,H,e,f,u,hok,hN,g,h=>by
   simp only[Hb]at hok;simp only[Bf]at h;obtain⟨B,p,o,h3⟩:=b6x (n0:=X.n0) l g hN H;exact b01 p (Jn X v m b _ _ _ _ _ _ hok h3 o h)
 |.after l b,d,fr,H,e,f,u,hok,hN,g,h=>by
   simp only[Hb]at hok;simp only[Bf]at h;unfold Lg at h;split at h
   ·rename_i w H1 Y;cases h;refine eu2 (Wf (Jn X v m b d fr H _ _ _ hok hN g Y) ?_);rintro Q R O K;obtain⟨rfl,rfl,L,F⟩:=K;obtain⟨B,p,o,h3⟩:=b6x (n0:=X.n0) l F L O;exact⟨B,_,p,rfl,rfl,h3,o⟩
   ·exact Jn X v m b d fr H _ _ _ hok hN g h
structure FT where
 np:Nat
 nt:Nat
 res:List ARes
 sl:lN
 fz:Bool
 tc:TC
def Wz(b:lN):ARes->ARes
 |.tmp i=>.tmp (slot b i)
 |.cell i a n=>.cell (slot b i) a n
def a6e(k:Nat):ARes->Bool
 |.tmp i=>decide (i<k)
 |.cell i _ _=>decide (i<k)
def FT.ok(d:FT):Bool:=decide d.sl.Nodup&&(d.sl.take d.np==List.range d.np)&&(d.sl.drop d.np).all (λs=>decide (d.np<=s)&&decide (s<d.np+d.nt))&&decide (d.np<=d.sl.length)&&Hb d.sl (d.np+d.nt) d.tc&&d.res.all (a6e d.sl.length)
def FT.is(P:Program)(f:FuncId)(d:FT):Prop:=FnD P f d.np d.nt (d.res.map (Wz d.sl)) (Kc d.sl d.tc)/\d.ok=true
def T1(n0:Nat)(y:AV):Nat->AV×AH->AV×AH
 |0,q=>q
 |k+1,q=>T1 n0 y k (if n0<=k then Xr k q.1 q.2 else q)
def Ny(n0:Nat)(x:AV)(H:AH):AV×AH:=
 if H.length<=n0 then(x,H)else
 let q:=T1 n0 x H.length (x,H)
 if Ab q.1 then q else
 let q:=T1 n0 x H.length q
 if Ab q.1 then q else T1 n0 x H.length q
def Cj(a:Bool)(n0:Nat)(y:AV)(H:AH):Option (AV×AH):=
 if n0=0/\Ab y=true then some (y,[])else
 let q:=if a then Ny n0 y H else(y,H)
 if n0=0/\Ab q.1=true then some (q.1,[])else
 match Km n0 [q.1] q.2 with
 |([x],H2)=>some (x,H2)
 |_=>none
def Wx(lk:FuncId->Bool)(E:CallF)(b:LoopF)(d:FT)(a:LA)(H:AH):Option (AV×AH):=
 if a.length=d.np then
  (Bf ⟨lk,E,b,d.sl,d.np+d.nt,H.length⟩ d.tc (a++List.replicate (d.sl.length-d.np) .top) H).bind λr=>match r.1 with
   |.exit _=>none
   |_=>(Fs d.res r.2.1 r.2.2).bind λy=>Cj d.fz H.length y r.2.2
 else none
theorem er6{c:lN}{d fr:LA}(h:Ag c d fr)(H:AH)(b:List ARes)(f:b.all (a6e c.length)=true):Fs (b.map (Wz c)) fr H=Fs b d H:=by
 have one:∀ r,a6e c.length r=true->Hx fr H (Wz c r)=Hx d H r:=by
  intro r e;cases r with
  |tmp i=>simp only[a6e,f2f]at e;simp only[Wz,Hx,h.at' i e,Hc,f31]
  |cell i a n=>simp only[a6e,f2f]at e;simp only[Wz,Hx,h.at' i e,Hc,f31]
 have all:Hd fr H (b.map (Wz c))=Hd d H b:=by
  induction b with
  |nil=>rfl
  |cons r b g=>
    grind [Hd]
 unfold Fs;rw[all]
theorem b00(n0:Nat)(y:AV):∀ (k:Nat) (q:AV×AH),Wk n0 [q.1] q.2 [(T1 n0 y k q).1] (T1 n0 y k q).2
 |0,q=>Wk.refl _ _ _
 |k+1,q=>by
   unfold T1;have h:=b00 n0 y k (if n0<=k then Xr k q.1 q.2 else q);split at h
   ·rename_i a;rw[iP a];exact(et6 n0 k q.1 q.2).trans h
   grind
theorem et7(n0:Nat)(x:AV)(H:AH):Wk n0 [x] H [(Ny n0 x H).1] (Ny n0 x H).2:=by
 unfold Ny;split
 ·exact Wk.refl _ _ _
 ·have a:=b00 n0 x H.length (x,H);simp only[];split
  ·exact a
  ·have b:=a.trans (b00 n0 x H.length _);split
   ·exact b
   ·exact b.trans (b00 n0 x H.length _)
theorem et5(n0:Nat)(a:LA)(H:AH):Wk n0 a H (Km n0 a H).1 (Km n0 a H).2:=by
 grind [Km,Wk.refl,b6y,List.mem_range.2]
theorem cy5{y:AV}(H:AH)(a:Ab y=true):Wk 0 [y] H [y] []:=
 eu1 (by
  rw[show Ck (Wp 0) [y]=[y]from Kk _ _ (by simp[Aa,a])];exact⟨.inr rfl,trivial⟩)
theorem ei5{a:Bool}{n0:Nat}{y:AV}{H:AH}{x:AV}{b:AH}(h:Cj a n0 y H=some (x,b)):Wk n0 [y] H [x] b:=by
 unfold Cj at h;split at h
 ·grind [cy5]
 simp only[]at h;have c:Wk n0 [y] H [(if a then Ny n0 y H else(y,H)).1] (if a then Ny n0 y H else(y,H)).2:=by
  grind [et7,Wk.refl]
 generalize (if a then Ny n0 y H else(y,H))=q at *;split at h
 ·rename_i e;obtain⟨rfl,d⟩:=e;cases h;exact c.trans (cy5 q.2 d)
 ·split at h
  ·rename_i i g f;cases h
   have:=et5 n0 [q.1] q.2;rw[f]at this;exact c.trans this
  ·cases h
theorem d8j{lk:FuncId->Bool}{E:CallF}{t:LoopF}(B:Il P E)(q:b78 t){f:FuncId}{d:FT}(F:d.is P f){a:LA}{H:AH}{x:AV}{j:AH}(h:Wx lk E t d a H=some (x,j)):C P f a H λy G=>y=x/\G=j:=by
 have⟨p,k⟩:=F;simp only[FT.ok,f32,f2f,beq_iff_eq]at k;have⟨⟨⟨⟨⟨r,s⟩,Bj⟩,I⟩,D⟩,l⟩:=k;unfold Wx at h;split at h
 ·rename_i c;simp only[f01]at h;have⟨⟨e,u,v⟩,K,h⟩:=h;have o:Ag d.sl (a++List.replicate (d.sl.length-d.np) .top) (a++List.replicate d.nt .top):=by
   refine⟨by simp[c];omega,λi hi=>?_,r⟩;rcases f5u i d.np with m|m
   ·have w:slot d.sl i=i:=by
     have:(d.sl.take d.np)[i]?=some i:=(by rw[s];exact f17 m);rw[f1w,iP m]at this;simp only[slot,ex9,this,f31]
    grind [Hc,List.getElem?_append_left,List.getElem?_eq_getElem]
   ·have w:d.np<=slot d.sl i/\slot d.sl i<d.np+d.nt:=by
     have M:slot d.sl i∈d.sl.drop d.np:=by
      rw[f0h];refine⟨i-d.np,?_⟩;rw[f1l,show d.np+(i-d.np)=i by omega];simp only[slot,ex9,ez2 hi,f31]
     grind
    grind [Hc,List.getElem?_append_right]
  refine b0a p c (Wf (Jn ⟨lk,E,t,d.sl,d.np+d.nt,H.length⟩ B q d.tc _ _ H e u v D (by simp[c]) o K) ?_);rintro z A g J;obtain⟨rfl,rfl,_,n⟩:=J;have b:((Fs d.res u g).bind λy=>Cj d.fz H.length y g)=some (x,j)->∃ x',Fs (d.res.map (Wz d.sl)) A g=some x'/\KWk H.length (λy G=>y=x/\G=j) x' g:=by
   intro h;rw[er6 n g d.res l];simp only[f01]at h;have⟨y,L,h⟩:=h;exact⟨y,L,x,j,ei5 h,rfl,rfl⟩
  cases z with
  |normal=>exact b h
  |ret=>exact b h
  |exit i=>cases h
 ·cases h
end
end
section
def Cf(p:Nat->Prop):Prop:=∃ n,∀ m,n<=m->p m
theorem Cf.mono{p q:Nat->Prop}(h:Cf p)(c:∀ m,p m->q m):Cf q:=h.imp λ_ h m b=>c m (h m b)
theorem Cf.and{p q:Nat->Prop}(h:Cf p)(c:Cf q):Cf λm=>p m/\q m:=by
 have⟨a,d⟩:=h;have⟨b,e⟩:=c;exact⟨max a b,λm g=>⟨d m om,e m om⟩⟩
theorem Cf.all{p:Nat->Prop}(h:∀ m,p m):Cf p:=⟨0,λm _=>h m⟩
theorem Cf.bind{α β:Type}{x:Option α}{c:Nat->Option α}{k:α->Option β}{b:Nat->α->Option β}(j:∀ a,x=some a->Cf λm=>c m=some a)(i:∀ a r,k a=some r->Cf λm=>b m a=some r)
 {r:β} (h:x.bind k=some r):Cf λm=>(c m).bind (b m)=some r:=by
 have⟨a,g,h⟩:=f01.1 h;refine((j a g).and (i a r h)).mono ?_;rintro m ⟨d,e⟩;rw[d];exact e
theorem ap2{f:LA->AH->Option (AExit×LA×AH)}:∀ {k c:Nat} {b:LA} {H:AH} {r:AExit×LA×AH},Jb f k b H=some r->k<=c->Jb f c b H=some r
 |0,_,_,_,_,h,_=>by cases h
 |k+1,0,_,_,_,_,hk=>by omega
 |k+1,c+1,b,H,r,h,hk=>by
   unfold Jb at h ⊢;split at h
   ·exact ap2 h om
   ·exact h
open Classical in
noncomputable def Aj:LoopF:=λb c H=>if h:∃ r,∃ k,Jb b k c H=some r then some (Classical.choose h)else none
theorem a2f{b:LA->AH->Option (AExit×LA×AH)}{d:LA}{H:AH}{r:AExit×LA×AH}:Aj b d H=some r↔∃ k,Jb b k d H=some r:=by
 unfold Aj;constructor
 ·intro h;split at h
  ·rename_i c;cases h;exact Classical.choose_spec c
  ·cases h
 ·intro h;have c:∃ r,∃ k,Jb b k d H=some r:=⟨r,h⟩;rw[dif_pos c];have⟨k,l⟩:=h;have⟨i,e⟩:=Classical.choose_spec c;have j:=ap2 l (Nat.le_max_left k i);have g:=ap2 e (Nat.le_max_right k i);rw[j]at g;exact g.symm
def fuel(m:Nat):LoopF:=λb c H=>Jb b m c H
theorem eg3(m:Nat):b78 (fuel m):=λ_ _ _ _ h=>⟨m,h⟩
section
variable {E:CallF} {Em:Nat->CallF} (hL:∀ f a H r,E f a H=some r->Cf λm=>Em m f a H=some r)
include hL
theorem b6d{f:FuncId}{a:LA}{H:AH}{r}(h:M6 E f a H=some r):Cf λm=>M6 (Em m) f a H=some r:=by
 unfold M6 at h ⊢;simp only[]at h ⊢;split at h
 ·rename_i b;split at h
  ·rename_i x H1 c;refine(hL _ _ _ _ c).mono λm d=>?_;rw[iP b,d];exact h
  ·cases h
 ·cases h
theorem ep2:∀ f a H r,Ri E f a H=some r->Cf λm=>Ri (Em m) f a H=some r:=by
 intro f a H r h;unfold Ri at h ⊢;split at h
 ·rename_i d x H1 b;refine(b6d hL b).mono λm c=>?_;rw[c];exact h
 ·cases h
theorem b6b(lk:FuncId->Bool):∀ f a H r,Ij lk E f a H=some r->Cf λm=>Ij lk (Em m) f a H=some r:=by
 intro f a H r h;unfold Ij at h ⊢;split at h
 ·rename_i b;simp only[b,if_true];split at h
  ·rename_i x H1 c;refine(hL _ _ _ _ c).mono λm d=>?_;rw[d];exact h
  ·cases h
 ·rename_i b;simp only[b];exact ep2 hL _ _ _ _ h
theorem c18{o:AOp}{fr:LA}{H:AH}{r:AV×AH}(h:C6 o E fr H=some r):Cf λm=>C6 o (Em m) fr H=some r:=by
 cases o
 case call f a=>exact hL _ _ _ _ h
 case calld x a=>
  simp only[C6,au4]at h ⊢;split at h
  ·exact hL _ _ _ _ h
  ·cases h
 all_goals exact⟨0,λ_ _=>h⟩
theorem ah1:∀ {is:List AInstr} {fr:LA} {H:AH} {r:LA×AH},Hm E is fr H=some r->Cf λm=>Hm (Em m) is fr H=some r
 |[],fr,H,r,h=>⟨0,λ_ _=>h⟩
 |i::rest,fr,H,r,h=>by
   unfold Hm at h ⊢;have d:(match C6 i.op E fr H with|some (v,c)=>Hm E rest (Hj fr i.dst v) c|none=>none)=some r->Cf λm=>(match C6 i.op (Em m) fr H with|some (v,c)=>Hm (Em m) rest (Hj fr i.dst v) c|none=>none)=some r:=by
    intro h;split at h
    ·rename_i v c p;refine((c18 hL p).and (ah1 h)).mono ?_;rintro m ⟨l,n⟩;rw[l];exact n
    ·cases h
   cases e:i.guard with
   |none=>rw[e]at h;exact d h
   |some k=>
     have⟨g,j⟩:=k;rw[e]at h;simp only at h ⊢;split at h
     ·split at h
      ·rename_i b;simp only[b,if_true];exact d h
      ·rename_i b;simp only[b,if_false];exact ah1 h
     ·exact ah1 h
     ·cases h
theorem ej3{lk:FuncId->Bool}{op:AOp}{c:Nat}{fr:LA}{H:AH}{r}(h:Lb lk E op c fr H=some r):Cf λm=>Lb lk (Em m) op c fr H=some r:=by
 cases op
 case call f a=>
  simp only[Lb]at h ⊢;split at h
  ·rename_i e;simp only[iP e];split at h
   ·rename_i x H1 b;refine(hL _ _ _ _ b).mono λm d=>?_;rw[d];exact h
   ·cases h
  ·rename_i e;simp only[iN e];split at h
   ·rename_i g x H1 b;refine(b6d hL b).mono λm d=>?_;rw[d];exact h
   ·cases h
 case calld i a=>
  simp only[Lb]at h ⊢;split at h
  ·split at h
   ·rename_i g x H1 b;refine(b6d hL b).mono λm d=>?_;rw[d];exact h
   ·cases h
  ·cases h
 all_goals exact⟨0,λ_ _=>h⟩
theorem ah4{lk:FuncId->Bool}{tab:List lN}:∀ {is:List (Nat×AInstr)} {c:Nat} {d:List Jm} {fr:LA} {H:AH} {r:LA×AH},Hv lk E tab is c d fr H=some r->Cf λm=>Hv lk (Em m) tab is c d fr H=some r
 |[],c,d,fr,H,r,h=>⟨0,λ_ _=>h⟩
 |(i,A7)::rest,c,d,fr,H,r,h=>by
   unfold Hv at h ⊢;have k:(match Lb lk E A7.op c fr H with|some (R,W,j,v,e)=>Hv lk E tab rest j (d++[F6 i A7 R W]) (Bd fr A7.dst v) e|none=>none)=some r->
    Cf λm=>(match Lb lk (Em m) A7.op c fr H with|some (R,W,j,v,e)=>Hv lk (Em m) tab rest j (d++[F6 i A7 R W]) (Bd fr A7.dst v) e|none=>none)=some r:=by
    intro h;split at h
    ·rename_i R W j v e t;refine((ej3 hL t).and (ah4 h)).mono ?_;rintro m ⟨q,s⟩;rw[q];exact s
    ·cases h
   cases l:A7.guard with
   |none=>rw[l]at h;exact k h
   |some p=>
     have⟨g,n⟩:=p;rw[l]at h;simp only at h ⊢;split at h
     ·split at h
      ·rename_i b;simp only[b,if_true];exact k h
      ·rename_i b;simp only[b,if_false];exact ah4 h
     ·exact ah4 h
     ·cases h
theorem ax2{lk:FuncId->Bool}{tab:List lN}:∀ {b:List (List (Nat×AInstr))} {fr:LA} {H:AH} {r:LA×AH},Gx lk E tab b fr H=some r->Cf λm=>Gx lk (Em m) tab b fr H=some r
 |[],fr,H,r,h=>⟨0,λ_ _=>h⟩
 |[(_,A7)]::rest,fr,H,r,h=>by
   unfold Gx at h ⊢;split at h
   ·rename_i e;refine((ah1 hL e).and (ax2 h)).mono ?_;rintro m ⟨c,d⟩;rw[c];exact d
   ·cases h
 |[]::rest,fr,H,r,h=>by
   unfold Gx at h ⊢;split at h
   ·rename_i e;refine((ah4 hL e).and (ax2 h)).mono ?_;rintro m ⟨c,d⟩;rw[c];exact d
   ·cases h
 |(x::y::z)::rest,fr,H,r,h=>by
   unfold Gx at h ⊢;split at h
   ·rename_i e;refine((ah4 hL e).and (ax2 h)).mono ?_;rintro m ⟨c,d⟩;rw[c];exact d
   ·cases h
end
section
variable {f:StepF} {fm:Nat->StepF} (hf:∀ o vs H r,f o vs H=some r->Cf λm=>fm m o vs H=some r)
include hf
mutual
theorem a1a(j:LA):∀ (e:TE) (H:AH) (r:AV×AH),Bu f j e H=some r->Cf λm=>Bu (fm m) j e H=some r
 |.v i,H,r,h=>⟨0,λ_ _=>h⟩
 |.d i,H,r,h=>⟨0,λ_ _=>h⟩
 |.c x,H,r,h=>⟨0,λ_ _=>h⟩
 |.op o as,H,r,h=>Cf.bind (λa l=>b13 j as H a l) (λa r g=>hf _ _ _ _ g) h
 |.and a b,H,r,h=>Cf.bind (λx k=>a1a j a H x k) (λx r g=>by
  have⟨y,H1⟩:=x;cases y with
  |bool t=>cases t with
    |true=>exact a1a j b _ _ g
    |false=>exact⟨0,λ_ _=>g⟩
  |_=>cases g) h
 |.or a b,H,r,h=>Cf.bind (λx k=>a1a j a H x k) (λx r g=>by
  have⟨y,H1⟩:=x;cases y with
  |bool t=>cases t with
    |true=>exact⟨0,λ_ _=>g⟩
    |false=>exact a1a j b _ _ g
  |_=>cases g) h
theorem b13(c:LA):∀ (d:List TE) (H:AH) (r:LA×AH),E3 f c d H=some r->Cf λm=>E3 (fm m) c d H=some r
 |[],H,r,h=>⟨0,λ_ _=>h⟩
 |e::d,H,r,h=>Cf.bind (λa i=>a1a c e H a i) (λa r g=>Cf.bind (λb j=>b13 c d _ b j) (λb r g=>⟨0,λ_ _=>g⟩) g) h
end
theorem b0z:∀ (l:List TS) (e:LA) (H:AH) (r:LA×AH),Ge f l e H=some r->Cf λm=>Ge (fm m) l e H=some r
 |[],e,H,r,h=>⟨0,λ_ _=>h⟩
 |.put d o as::l,e,H,r,h=>Cf.bind (λa i=>Cf.bind (λb j=>b13 hf e as H b j) (λb r g=>Cf.bind (λc k=>hf _ _ _ _ k) (λc r g=>⟨0,λ_ _=>g⟩) g) i) (λa r g=>b0z l _ _ r g) h
end
section
variable {lk:FuncId->Bool} {E:CallF} {Em:Nat->CallF} (hL:∀ f a H r,E f a H=some r->Cf λm=>Em m f a H=some r)
include hL
theorem b5k:∀ o vs H r,C0 lk E o vs H=some r->Cf λm=>C0 lk (Em m) o vs H=some r:=λ_ _ _ _ h=>c18 (b6b hL lk) h
omit hL in
theorem bh6{x:Option (AExit×LA×AH)}{j:Nat->Option (AExit×LA×AH)}{k:LA->AH->Option (AExit×LA×AH)}{g:Nat->LA->AH->Option (AExit×LA×AH)}
 (p:∀ a,x=some a->Cf λm=>j m=some a) (n:∀ c H r,k c H=some r->Cf λm=>g m c H=some r) {r} (h:Mi x k=some r):Cf λm=>Mi (j m) (g m)=some r:=by
 cases x with
 |none=>cases h
 |some a=>
   have⟨e,c,H⟩:=a;have b:=p _ rfl;cases e with
   |normal=>
     refine(b.and (n c H r h)).mono ?_;rintro m ⟨b,l⟩;rw[b];exact l
   |exit i=>exact b.mono λm d=>by rw[d];exact h
   |ret=>exact b.mono λm d=>by rw[d];exact h
omit hL in
theorem b4d{x:AV}{a b:Option (AExit×LA×AH)}{d bm:Nat->Option (AExit×LA×AH)}(e:∀ r,a=some r->Cf λm=>d m=some r)(g:∀ r,b=some r->Cf λm=>bm m=some r){r}(h:Sy x a b=some r) :
 Cf λm=>Sy x (d m) (bm m)=some r:=by
 unfold Sy at h ⊢;split at h
 ·split at h
  ·rename_i c;simp only[c,if_true];exact e _ h
  ·rename_i c;simp only[c];exact g _ h
 ·cases h
theorem Lj(g:lN)(N n0:Nat):∀ (c:TC) (d:LA) (H:AH) (r:AExit×LA×AH),Bf ⟨lk,E,Aj,g,N,n0⟩ c d H=some r->Cf λm=>Bf ⟨lk,Em m,fuel m,g,N,n0⟩ c d H=some r
 |.skip,d,H,r,h=>⟨0,λ_ _=>h⟩
 |.ret,d,H,r,h=>⟨0,λ_ _=>h⟩
 |.exit i,d,H,r,h=>⟨0,λ_ _=>h⟩
 |.reg n l,d,H,r,h=>by
   simp only[Bf,Sp,f09]at h ⊢;have⟨a,v,h⟩:=h;exact(b0z (b5k hL) l d H a v).mono λm p=>⟨a,p,h⟩
 |.dreg n l,d,H,r,h=>⟨0,λ_ _=>h⟩
 |.raw l,d,H,r,h=>by
   simp only[Bf,f09]at h ⊢;have⟨a,v,h⟩:=h;exact(ah1 (b6b hL lk) v).mono λm p=>⟨a,p,h⟩
 |.rawD l,d,H,r,h=>⟨0,λ_ _=>h⟩
 |.rawE s t,d,H,r,h=>by
   simp only[Bf,f09]at h ⊢;have⟨a,v,h⟩:=h;exact(ax2 (b6b hL lk) v).mono λm p=>⟨a,p,h⟩
 |.seq a b,d,H,r,h=>bh6 (Lj g N n0 a d H) (λd H r j=>Lj g N n0 b d H r j) h
 |.ifc n l e a b,d,H,r,h=>Cf.bind (λx u=>b0z (b5k hL) l d H x u) (λx r j=>Cf.bind (λy D=>a1a (b5k hL) x.1 e x.2 y D) (λy r j=>b4d (Lj g N n0 a x.1 y.2) (Lj g N n0 b x.1 y.2) j) j) h
 |.ifd n l e a b,d,H,r,h=>Cf.bind (λx u=>⟨0,λ_ _=>u⟩) (λx r j=>Cf.bind (λy D=>⟨0,λ_ _=>D⟩) (λy r j=>b4d (Lj g N n0 a x.1 y.2) (Lj g N n0 b x.1 y.2) j) j) h
 |.ifv i a b,d,H,r,h=>b4d (Lj g N n0 a d H) (Lj g N n0 b d H) h
 |.ifk q a b,d,H,r,h=>by
   simp only[Bf]at h ⊢;split at h
   ·rename_i C;simp only[C,if_true];exact Lj g N n0 a d H r h
   ·rename_i C;simp only[C];exact Lj g N n0 b d H r h
 |.bad,d,H,r,h=>by cases h
 |.block i b,d,H,r,h=>by
   simp only[Bf]at h ⊢;cases u:Bf ⟨lk,E,Aj,g,N,n0⟩ b d H with
   |none=>rw[u]at h;cases h
   |some x=>
     refine(Lj g N n0 b d H x u).mono λm p=>?_;rw[p,<-u];exact h
 |.loop live em b,d,H,r,h=>by
   simp only[Bf]at h ⊢;have⟨k,I⟩:=a2f.1 h;have w:∀ d H r,Mi (Bf ⟨lk,E,Aj,g,N,n0⟩ b d H) (λd H=>some (.normal,(He n0 (Eu live 0 d) H).1,(He n0 (Eu live 0 d) H).2))=some r->
    Cf λm=>Mi (Bf ⟨lk,Em m,fuel m,g,N,n0⟩ b d H) (λd H=>some (.normal,(He n0 (Eu live 0 d) H).1,(He n0 (Eu live 0 d) H).2))=some r:=
    λd H r j=>bh6 (Lj g N n0 b d H) (λd H r j=>⟨0,λ_ _=>j⟩) j
   have j:∀ (k:Nat) d H,Jb (λd H=>Mi (Bf ⟨lk,E,Aj,g,N,n0⟩ b d H) (λd H=>some (.normal,(He n0 (Eu live 0 d) H).1,(He n0 (Eu live 0 d) H).2))) k d H=some r->
    Cf λm=>Jb (λd H=>Mi (Bf ⟨lk,Em m,fuel m,g,N,n0⟩ b d H) (λd H=>some (.normal,(He n0 (Eu live 0 d) H).1,(He n0 (Eu live 0 d) H).2))) k d H=some r:=by
    intro k
    induction k with
    |zero=>intro d H h;cases h
    |succ k J=>
      intro d H h;simp only[Jb]at h ⊢;split at h
      ·rename_i F H1 G;refine((w _ _ _ G).and (J _ _ h)).mono ?_;rintro m ⟨z,A⟩;rw[z];exact A
      ·rename_i B;refine(w _ _ _ h).mono λm p=>?_;rw[p];have⟨e,F,H1⟩:=r;cases e with
       |normal=>exact absurd h (B _ _)
       |exit i=>rfl
       |ret=>rfl
   refine((j k _ _ I).and (⟨k,λ_ h=>h⟩:Cf λm=>k<=m)).mono ?_;rintro m ⟨z,A⟩;exact ap2 z A
 |.pre l b,d,H,r,h=>by
   simp only[Bf]at h ⊢;exact Lj g N n0 b _ _ r h
 |.after l b,d,H,r,h=>by
   simp only[Bf]at h ⊢;cases u:Bf ⟨lk,E,Aj,g,N,n0⟩ b d H with
   |none=>rw[u]at h;cases h
   |some x=>
     refine(Lj g N n0 b d H x u).mono λm p=>?_;rw[p,<-u];exact h
theorem d8k{d:FT}{b:LA}{H:AH}{r:AV×AH}(h:Wx lk E Aj d b H=some r):Cf λm=>Wx lk (Em m) (fuel m) d b H=some r:=by
 unfold Wx at h ⊢;split at h
 ·rename_i c;simp only[c,if_true];exact Cf.bind (λx g=>Lj hL _ _ _ _ _ _ x g) (λx r e=>⟨0,λ_ _=>e⟩) h
 ·cases h
end
def A9(l:List (Nat×FT))(f:Nat):Option FT:=
 match l with
 |[]=>none
 |(g,d)::rest=>if g==f then some d else A9 rest f
theorem dp8{l:List (Nat×FT)}{f:Nat}{d:FT}(h:A9 l f=some d):(f,d)∈l:=by
 induction l with
 |nil=>cases h
 |cons x l c=>
   have⟨g,e⟩:=x;unfold A9 at h;split at h
   ·rename_i b;cases h;rw[beq_iff_eq]at b;subst b;simp
   ·exact f0y _ (c h)
def Ov(tab:List (Nat×FT))(orc:CallF)(lk:FuncId->Bool):Nat->CallF
 |0=>λ_ _ _=>none
 |n+1=>λf b H=>
   match A9 tab f with
   |some d=>Wx lk (Ov tab orc lk n) (fuel n) d b H
   |none=>orc f b H
def EvR(tab:List (Nat×FT))(orc:CallF)(lk:FuncId->Bool)(f:FuncId)(b:LA)(H:AH)(r:AV×AH):Prop:=Cf λm=>Ov tab orc lk m f b H=some r
open Classical in
noncomputable def Ev (tab:List (Nat×FT)) (orc:CallF) (lk:FuncId->Bool):CallF:=λf b H=>if h:∃ r,EvR tab orc lk f b H r then some (Classical.choose h)else none
section
variable {tab:List (Nat×FT)} {orc:CallF} {lk:FuncId->Bool}
theorem b09{f:FuncId}{b:LA}{H:AH}{r:AV×AH}:Ev tab orc lk f b H=some r↔EvR tab orc lk f b H r:=by
 unfold Ev;constructor
 ·intro h;split at h
  ·rename_i c;cases h;exact Classical.choose_spec c
  ·cases h
 ·intro h;have c:∃ r,EvR tab orc lk f b H r:=⟨r,h⟩;rw[dif_pos c];have⟨n,g⟩:=h.and (Classical.choose_spec c);have⟨e,d⟩:=g n (f6o n);rw[e]at d;exact d.symm
theorem ev8{f:FuncId}{d:FT}(c:A9 tab f=some d){b:LA}{H:AH}{r:AV×AH}(h:Wx lk (Ev tab orc lk) Aj d b H=some r):Ev tab orc lk f b H=some r:=by
 refine b09.2 ?_;have⟨n,e⟩:=d8k (Em:=Ov tab orc lk) (λf a H r h=>b09.1 h) h;refine⟨n+1,λm g=>?_⟩;obtain⟨m,rfl⟩:∃ k,m=k+1:=⟨m-1,by omega⟩;simp only[Ov,c];exact e m om
theorem Yq{f:FuncId}(c:A9 tab f=none){b:LA}{H:AH}{r:AV×AH}(h:orc f b H=some r):Ev tab orc lk f b H=some r:=by
 refine b09.2 ⟨1,λm d=>?_⟩;obtain⟨m,rfl⟩:∃ k,m=k+1:=⟨m-1,by omega⟩;simp only[Ov,c];exact h
theorem ce8{P:Program}(c:∀ p∈tab,p.2.is P p.1)(b:Il P orc):∀ n,Il P (Ov tab orc lk n)
 |0,f,args,H,x,H',h=>by cases h
 |n+1,f,args,H,x,H',h=>by
   unfold Ov at h;split at h
   ·rename_i d e;exact d8j (ce8 c b n) (eg3 n) (c _ (dp8 e)) h
   ·exact b _ _ _ _ _ h
theorem b08{P:Program}(e:∀ p∈tab,p.2.is P p.1)(d:Il P orc):Il P (Ev tab orc lk):=by
 intro f b H x g h;have⟨n,c⟩:=b09.1 h;exact ce8 e d n _ _ _ _ _ (c n (f6o n))
end
end
def v(i:Nat):TE:=.v i
def d(i:Nat):TE:=.d i
def k(n:Int):TE:=.c (.N n)
def mv(a:TE):TE:=.op (.mv (.t 0)) [a]
def no(a:TE):TE:=.op (.un .not (.t 0)) [a]
def b2(o:BinOp)(a b:TE):TE:=.op (.bini o (.t 0) (.t 1)) [a,b]
def bk(o:BinOp)(n:Int)(a:TE):TE:=.op (.bini o (.t 0) (.c (.N n))) [a]
def bs(o:BinOp)(a b:TE):TE:=.op (.bins o (.t 0) (.t 1)) [a,b]
def ln(a:TE):TE:=.op (.len false (.t 0)) [a]
def ls(a:TE):TE:=.op (.len true (.t 0)) [a]
def ex(n:Nat)(a:TE):TE:=.op (.ext (.t 0) n) [a]
def ld(a:TE):TE:=.op (.load false 1 (.t 0)) [a]
def la(n:Nat)(a:TE):TE:=.op (.load true n (.t 0)) [a]
def fa(n:Nat)(a:TE):TE:=.op (.faddr n (.t 0)) [a]
def ia(n:Nat)(a b:TE):TE:=.op (.iaddr n (.t 0) (.t 1)) [a,b]
def ik(n:Nat)(j:Int)(a:TE):TE:=.op (.iaddr n (.t 0) (.c (.N j))) [a]
def fi(n:Nat)(a:TE):TE:=.op (.field false n 1 (.t 0)) [a]
def fg(n m:Nat)(a:TE):TE:=.op (.field true n m (.t 0)) [a]
def cv(n:IntKind)(a:TE):TE:=.op (.convi n (.t 0)) [a]
def ix(a b:TE):TE:=.op (.indexs (.t 0) (.t 1)) [a,b]
def c0'(f:FuncId):TE:=.op (.call f []) []
def c1'(f:FuncId)(a:TE):TE:=.op (.call f [.t 0]) [a]
def c2'(f:FuncId)(a b:TE):TE:=.op (.call f [.t 0,.t 1]) [a,b]
def c3'(f:FuncId)(a b c:TE):TE:=.op (.call f [.t 0,.t 1,.t 2]) [a,b,c]
def c4'(f:FuncId)(a b c e:TE):TE:=.op (.call f [.t 0,.t 1,.t 2,.t 3]) [a,b,c,e]
def c5'(f:FuncId)(a b c e g:TE):TE:=.op (.call f [.t 0,.t 1,.t 2,.t 3,.t 4]) [a,b,c,e,g]
def c6'(f:FuncId)(a b c e g h:TE):TE:=.op (.call f [.t 0,.t 1,.t 2,.t 3,.t 4,.t 5]) [a,b,c,e,g,h]
def m(i:Nat)(a:TE):TS:=.put (some i) (.mv (.t 0)) [a]
def s(n:Nat)(a b:TE):TS:=.put none (.store n (.t 0) (.t 1)) [a,b]
def e(o:AOp)(l:List TE):TS:=.put none o l
def z(i:Nat)(n:Int):TS:=.put (some i) (.mv (.c (.N n))) []
def y(i:Nat)(x:AV):TS:=.put (some i) (.mv (.c x)) []
def p(i:Nat)(a:TE):TS:=match a with
 |.op o l=>.put (some i) o l
 |a=>.put (some i) (.mv (.t 0)) [a]
section
def be4(n0:Nat)(q:LA×AH):LA×AH:=He n0 q.1 q.2
abbrev R3:=Option (AExit×LA×AH)
def Bm(X:TCtx)(b:TC)(r:R3):R3:=Mi r λcf H=>Bf X b cf H
def Sz(X:TCtx)(a b:TC)(cf:LA)(q:Option (AV×AH)):R3:=q.bind λq=>Sy q.1 (Bf X a cf q.2) (Bf X b cf q.2)
def ifE(X:TCtx)(f:StepF)(e:TE)(a b:TC)(r:Option (LA×AH)):R3:=r.bind λr=>Sz X a b r.1 (Bu f r.1 e r.2)
def Lx(f:StepF)(l:List TS)(r:Option (LA×AH)):Option (LA×AH):=r.bind λr=>Ge f l r.1 r.2
def Kx(cf:LA)(d:Option Nat)(q:Option (AV×AH)):Option (LA×AH):=q.bind λq=>some (Hj cf d q.1,q.2)
def by8(f:StepF)(cf:LA)(d:Option Nat)(o:AOp)(r:Option (LA×AH)):Option (LA×AH):=r.bind λr=>Kx cf d (f o r.1 r.2)
def F5(f:StepF)(o:AOp)(r:Option (LA×AH)):Option (AV×AH):=r.bind λr=>f o r.1 r.2
def Wc(f:StepF)(cf:LA)(b:TE)(r:Option (AV×AH)):Option (AV×AH):=r.bind λr=>match r.1 with
 |.bool true=>Bu f cf b r.2
 |.bool false=>some (.bool false,r.2)
 |_=>none
def Vf(f:StepF)(cf:LA)(b:TE)(r:Option (AV×AH)):Option (AV×AH):=r.bind λr=>match r.1 with
 |.bool true=>some (.bool true,r.2)
 |.bool false=>Bu f cf b r.2
 |_=>none
def a0x(x:AV)(r:Option (LA×AH)):Option (LA×AH):=r.bind λq=>some (x::q.1,q.2)
def a4n(f:StepF)(cf:LA)(d:List TE)(r:Option (AV×AH)):Option (LA×AH):=r.bind λr=>a0x r.1 (E3 f cf d r.2)
def G3(n0:Nat)(d:lN)(r:R3):R3:=Mi r λcf H=>some (.normal,(He n0 (Eu d 0 cf) H).1,(He n0 (Eu d 0 cf) H).2)
def b1n(X:TCtx)(d:lN)(b:TC)(cf:LA)(H:AH):R3:=G3 X.n0 d (Bf X b cf H)
def c33(X:TCtx)(d:lN)(g:List (Nat×Nat))(b:TC)(cf:LA)(H:AH):R3:=X.lp (b1n X d b) (enter X.n0 d g cf H).1 (enter X.n0 d g cf H).2
section
variable (X:TCtx) (f:StepF) (cf:List AV) (H:AH) (b:TC) (a c:TC) (r:R3) (i:Nat) (l:List TS) (n:Nat) (e:TE)
theorem bc1:Bf X .skip cf H=some (.normal,cf,H):=qq
theorem bc3:Bf X .ret cf H=some (.ret,cf,H):=qq
theorem bd2:Bf X (.exit i) cf H=some (.exit i,cf,H):=qq
theorem bc4:Bf X (.reg n l) cf H=Sp (Ge (C0 X.lk X.E) l cf H):=qq
theorem bd3:Bf X (.dreg n l) cf H=Sp (Ge fD l cf H):=qq
theorem bc2:Bf X (.seq a b) cf H=Bm X b (Bf X a cf H):=qq
theorem bd1:Bf X (.ifc n l e a b) cf H=ifE X (C0 X.lk X.E) e a b (Ge (C0 X.lk X.E) l cf H):=qq
theorem bd0:Bf X (.ifd n l e a b) cf H=ifE X fD e a b (Ge fD l cf H):=qq
theorem bc8:Bf X (.ifv i a b) cf H=Sz X a b cf (some (getF cf i,H)):=qq
theorem bd4:Bf X (.block i b) cf H=Bi i (Bf X b cf H):=qq
theorem bc7(d:lN)(g:List (Nat×Nat)):Bf X (.loop d g b) cf H=c33 X d g b cf H:=qq
theorem c1j:Sp (some (cf,H))=some (.normal,cf,H):=qq
theorem bh8:Bm X b (some (.normal,cf,H))=Bf X b cf H:=qq
theorem bh7:Bm X b (some (.ret,cf,H))=some (.ret,cf,H):=qq
theorem bi0:Bm X b (some (.exit i,cf,H))=some (.exit i,cf,H):=qq
theorem c0r:Bi i (some (.normal,cf,H))=some (.normal,cf,H):=qq
theorem c0q:Bi i (some (.ret,cf,H))=some (.ret,cf,H):=qq
theorem c0t(j:Nat):Bi i (some (.exit j,cf,H))=if j=i then some (.normal,cf,H)else some (.exit j,cf,H):=qq
theorem c86(q:Bool):Sz X a b cf (some (.bool q,H))=if q=true then Bf X a cf H else Bf X b cf H:=by
 cases q<;>rfl
theorem c81:ifE X f e a b (some (cf,H))=Sz X a b cf (Bu f cf e H):=qq
theorem bh9(q:Prop)[Decidable q](r d:R3):Bm X b (if q then r else d)=if q then Bm X b r else Bm X b d:=by by_cases h:q<;>simp[h]
theorem c0s(q:Prop)[Decidable q](r d:R3):Bi i (if q then r else d)=if q then Bi i r else Bi i d:=by by_cases h:q<;>simp[h]
theorem b9m:Ge f [] cf H=some (cf,H):=qq
theorem am2(d:Option Nat)(o:AOp)(as:List TE):Ge f (.put d o as::l) cf H=Lx f l (by8 f cf d o (E3 f cf as H)):=qq
theorem aq7(d:Option Nat)(o:AOp)(r:Option (LA×AH)):by8 f cf d o r=Kx cf d (F5 f o r):=by cases r<;>rfl
theorem b9g(n:Int):Ge f (z i n::l) cf H=Lx f l (Kx cf (some i) (f (.mv (.c (.N n))) [] H)):=qq
theorem b9h(x:AV):Ge f (y i x::l) cf H=Lx f l (Kx cf (some i) (f (.mv (.c x)) [] H)):=qq
theorem b9i(n:Nat)(a b:TE):Ge f (s n a b::l) cf H=Lx f l (Kx cf none (F5 f (.store n (.t 0) (.t 1)) (E3 f cf [a,b] H))):=(am2 f cf H l _ _ _).trans (by rw[aq7])
theorem b9p(o:AOp)(as:List TE):Ge f (Abs.e o as::l) cf H=Lx f l (Kx cf none (F5 f o (E3 f cf as H))):=(am2 f cf H l _ _ _).trans (by rw[aq7])
theorem c22:Lx f l (some (cf,H))=Ge f l cf H:=qq
theorem bo4(d:Option Nat)(x:AV):Kx cf d (some (x,H))=some (Hj cf d x,H):=qq
theorem c16(o:AOp)(d:LA):F5 f o (some (d,H))=f o d H:=qq
theorem cm1(x:AV)(d:LA):a0x x (some (d,H))=some (x::d,H):=qq
theorem cm3(d:List TE)(x:AV):a4n f cf d (some (x,H))=a0x x (E3 f cf d H):=qq
theorem b12:E3 f cf [] H=some ([],H):=qq
theorem b14(d:List TE):E3 f cf (e::d) H=a4n f cf d (Bu f cf e H):=qq
theorem b9q:Bu f cf (v i) H=some (getF cf i,H):=qq
theorem ba7:Bu f cf (d i) H=some (getF cf i,H):=qq
theorem b9s(o:AOp)(as:List TE):Bu f cf (.op o as) H=F5 f o (E3 f cf as H):=qq
theorem bc0(a b:TE):Bu f cf (.and a b) H=Wc f cf b (Bu f cf a H):=qq
theorem b9r(a b:TE):Bu f cf (.or a b) H=Vf f cf b (Bu f cf a H):=qq
theorem b9t(a:TE):Bu f cf (no a) H=F5 f (.un .not (.t 0)) (E3 f cf [a] H):=qq
theorem bb9(o:BinOp)(a b:TE):Bu f cf (b2 o a b) H=F5 f (.bini o (.t 0) (.t 1)) (E3 f cf [a,b] H):=qq
theorem bb8(o:BinOp)(n:Int)(a:TE):Bu f cf (bk o n a) H=F5 f (.bini o (.t 0) (.c (.N n))) (E3 f cf [a] H):=qq
theorem bb7(o:BinOp)(a b:TE):Bu f cf (bs o a b) H=F5 f (.bins o (.t 0) (.t 1)) (E3 f cf [a,b] H):=qq
theorem b9w(a:TE):Bu f cf (ln a) H=F5 f (.len false (.t 0)) (E3 f cf [a] H):=qq
theorem b9v(a:TE):Bu f cf (ls a) H=F5 f (.len true (.t 0)) (E3 f cf [a] H):=qq
theorem ba6(n:Nat)(a:TE):Bu f cf (ex n a) H=F5 f (.ext (.t 0) n) (E3 f cf [a] H):=qq
theorem b9x(a:TE):Bu f cf (ld a) H=F5 f (.load false 1 (.t 0)) (E3 f cf [a] H):=qq
theorem b9y(n:Nat)(a:TE):Bu f cf (la n a) H=F5 f (.load true n (.t 0)) (E3 f cf [a] H):=qq
theorem ba5(n:Nat)(a:TE):Bu f cf (fa n a) H=F5 f (.faddr n (.t 0)) (E3 f cf [a] H):=qq
theorem ba2(n:Nat)(a b:TE):Bu f cf (ia n a b) H=F5 f (.iaddr n (.t 0) (.t 1)) (E3 f cf [a,b] H):=qq
theorem ba1(n:Nat)(j:Int)(a:TE):Bu f cf (ik n j a) H=F5 f (.iaddr n (.t 0) (.c (.N j))) (E3 f cf [a] H):=qq
theorem ba4(n m:Nat)(a:TE):Bu f cf (fg n m a) H=F5 f (.field true n m (.t 0)) (E3 f cf [a] H):=qq
theorem ba8(n:IntKind)(a:TE):Bu f cf (cv n a) H=F5 f (.convi n (.t 0)) (E3 f cf [a] H):=qq
theorem ba0(a b:TE):Bu f cf (ix a b) H=F5 f (.indexs (.t 0) (.t 1)) (E3 f cf [a,b] H):=qq
theorem bb5(g:FuncId):Bu f cf (c0' g) H=F5 f (.call g []) (some ([],H)):=qq
theorem bb4(g:FuncId)(a:TE):Bu f cf (c1' g a) H=F5 f (.call g [.t 0]) (E3 f cf [a] H):=qq
theorem bb3(g:FuncId)(a b:TE):Bu f cf (c2' g a b) H=F5 f (.call g [.t 0,.t 1]) (E3 f cf [a,b] H):=qq
theorem bb2(g:FuncId)(a b c:TE):Bu f cf (c3' g a b c) H=F5 f (.call g [.t 0,.t 1,.t 2]) (E3 f cf [a,b,c] H):=qq
theorem bb1(g:FuncId)(a b c e:TE):Bu f cf (c4' g a b c e) H=F5 f (.call g [.t 0,.t 1,.t 2,.t 3]) (E3 f cf [a,b,c,e] H):=qq
theorem bb0(g:FuncId)(a b c e h:TE):Bu f cf (c5' g a b c e h) H=F5 f (.call g [.t 0,.t 1,.t 2,.t 3,.t 4]) (E3 f cf [a,b,c,e,h] H):=qq
theorem cw1(q:Bool)(b:TE):Wc f cf b (some (.bool q,H))=if q=true then Bu f cf b H else some (.bool false,H):=by cases q<;>rfl
theorem c12(q:Bool)(b:TE):Vf f cf b (some (.bool q,H))=if q=true then some (.bool true,H)else Bu f cf b H:=by cases q<;>rfl
theorem c5b(q:Prop)[Decidable q](x y:Bool):(if q then some (AV.bool x,H)else some (AV.bool y,H))=some (.bool (if q then x else y),H):=by by_cases h:q<;>simp[h]
theorem c5c(q:Prop)[Decidable q](x:Bool):(if q then x else false)=(decide q&&x):=by by_cases h:q<;>simp[h]
theorem c5a(q:Prop)[Decidable q](x:Bool):(if q then true else x)=(decide q||x):=by by_cases h:q<;>simp[h]
theorem bo5(d:Option Nat)(q:Prop)[Decidable q](x y:Option (AV×AH)):Kx cf d (if q then x else y)=if q then Kx cf d x else Kx cf d y:=by by_cases h:q<;>simp[h]
theorem c23(q:Prop)[Decidable q](x y:Option (LA×AH)):Lx f l (if q then x else y)=if q then Lx f l x else Lx f l y:=by by_cases h:q<;>simp[h]
theorem c1k(q:Prop)[Decidable q](x y:Option (LA×AH)):Sp (if q then x else y)=if q then Sp x else Sp y:=by by_cases h:q<;>simp[h]
theorem c83(q:Prop)[Decidable q](r d:Option (AV×AH)):Sz X a b cf (if q then r else d)=if q then Sz X a b cf r else Sz X a b cf d:=by by_cases h:q<;>simp[h]
theorem bq5(n0:Nat)(d:lN):G3 n0 d (some (.normal,cf,H))=some (.normal,(He n0 (Eu d 0 cf) H).1,(He n0 (Eu d 0 cf) H).2):=qq
theorem bq7(n0:Nat)(d:lN):G3 n0 d (some (.exit i,cf,H))=some (.exit i,cf,H):=qq
theorem bq4(n0:Nat)(d:lN):G3 n0 d (some (.ret,cf,H))=some (.ret,cf,H):=qq
theorem bq6(n0:Nat)(d:lN)(q:Prop)[Decidable q](r g:R3):G3 n0 d (if q then r else g)=if q then G3 n0 d r else G3 n0 d g:=by by_cases h:q<;>simp[h]
theorem c45(d:lN)(n:Nat)(x:AV)(g:LA):Eu d n (x::g)=(if d.contains n then x else .top)::Eu d (n+1) g:=qq
theorem c42(d:lN)(n:Nat):Eu d n []=[]:=qq
theorem cg0(n0:Nat)(d:lN)(g:List (Nat×Nat)):enter n0 d g cf H=be4 n0 (T8 g (Eu d 0 cf,H)):=qq
theorem be3(n0:Nat):be4 n0 (cf,H)=He n0 cf H:=qq
theorem cg7(q:LA×AH):T8 [] q=q:=qq
theorem cg8(sz:Nat)(d:List (Nat×Nat)):T8 ((i,sz)::d) (cf,H)=T8 d (W4 i sz cf H (getF cf i)):=qq
theorem ch2(sz:Nat):W4 i sz cf H .emp=(Hj cf (some i) (.own H.length sz 0 0 0),H++[some []]):=qq
theorem ch0(sz r s o l t:Nat):W4 i sz cf H (.own r s o l t)=(cf,H):=qq
end
theorem b0y{f:StepF}(d:∀ x fr H,f (.mv x) fr H=some (evalA fr x,H))(cf:LA)(H:AH)(i:Nat)(l:List TS)(a:TE):Ge f (m i a::l) cf H=Lx f l (Kx cf (some i) (Bu f cf a H)):=by
 rw[m,am2,aq7,b14];cases Bu f cf a H with
 |none=>rfl
 |some r=>simp only[a4n,a0x,b12,f36,F5,d];rfl
theorem b9l{f:StepF}(d:∀ x fr H,f (.mv x) fr H=some (evalA fr x,H))(cf:LA)(H:AH)(i:Nat)(l:List TS)(a:TE):Ge f (p i a::l) cf H=Lx f l (Kx cf (some i) (Bu f cf a H)):=by
 cases a
 case op o as=>exact(am2 f cf H l _ _ _).trans (by rw[aq7];rfl)
 all_goals exact b0y d cf H i l _
theorem b9n(lk:FuncId->Bool)(E:CallF)(cf:LA)(H:AH)(i:Nat)(l:List TS)(a:TE):Ge (C0 lk E) (m i a::l) cf H=Lx (C0 lk E) l (Kx cf (some i) (Bu (C0 lk E) cf a H)):=b0y (ag8 lk E).mv cf H i l a
theorem b9j(lk:FuncId->Bool)(E:CallF)(cf:LA)(H:AH)(i:Nat)(l:List TS)(a:TE):Ge (C0 lk E) (p i a::l) cf H=Lx (C0 lk E) l (Kx cf (some i) (Bu (C0 lk E) cf a H)):=b9l (ag8 lk E).mv cf H i l a
theorem b9o(cf:LA)(H:AH)(i:Nat)(l:List TS)(a:TE):Ge fD (m i a::l) cf H=Lx fD l (Kx cf (some i) (Bu fD cf a H)):=b0y ag9.mv cf H i l a
theorem b9k(cf:LA)(H:AH)(i:Nat)(l:List TS)(a:TE):Ge fD (p i a::l) cf H=Lx fD l (Kx cf (some i) (Bu fD cf a H)):=b9l ag9.mv cf H i l a
theorem b3w{d:LA->AH->R3}{cf:LA}{H:AH}{j:LA}{m:AH}(h:d cf H=some (.normal,j,m)):Aj d cf H=Aj d j m:=by
 apply Option.ext;intro r;rw[a2f,a2f];constructor
 ·rintro⟨k,g⟩;cases k with
  |zero=>cases g
  |succ k=>unfold Jb at g;rw[h]at g;exact⟨k,g⟩
 ·rintro⟨k,g⟩;exact⟨k+1,by unfold Jb;rw[h];exact g⟩
theorem dq8{d:LA->AH->R3}{cf:LA}{H:AH}{i:Nat}{g:LA}{j:AH}(h:d cf H=some (.exit i,g,j)):Aj d cf H=some (.exit i,g,j):=a2f.2 ⟨1,by unfold Jb;rw[h]⟩
theorem dq7{d:LA->AH->R3}{cf:LA}{H:AH}{g:LA}{j:AH}(h:d cf H=some (.ret,g,j)):Aj d cf H=some (.ret,g,j):=a2f.2 ⟨1,by unfold Jb;rw[h]⟩
noncomputable def Vg (d:LA->AH->R3) (r:R3):R3:=match r with
 |some (.normal,cf,H)=>Aj d cf H
 |r=>r
theorem U8(d:LA->AH->R3)(cf:LA)(H:AH):Aj d cf H=Vg d (d cf H):=by
 cases h:d cf H with
 |none=>
   cases j:Aj d cf H with
   |none=>rfl
   |some r=>
     have⟨k,g⟩:=a2f.1 j;cases k with
     |zero=>cases g
     |succ k=>unfold Jb at g;rw[h]at g;cases g
 |some q=>
   have⟨e,m,H1⟩:=q;cases e with
   |normal=>exact b3w h
   |exit i=>exact dq8 h
   |ret=>exact dq7 h
theorem c1a(d:LA->AH->R3)(cf:LA)(H:AH):Vg d (some (.normal,cf,H))=Aj d cf H:=qq
theorem c1c(d:LA->AH->R3)(i:Nat)(cf:LA)(H:AH):Vg d (some (.exit i,cf,H))=some (.exit i,cf,H):=qq
end
section
section
variable (lk:FuncId->Bool) (E:CallF) (vs:List AV) (H:AH)
theorem c93(x:AV)(l:LA):getF (x::l) 0=x:=qq
theorem c94(x:AV)(l:LA)(n:Nat):getF (x::l) (n+1)=getF l n:=qq
theorem bz3(x:AV):Hj vs none x=vs:=qq
theorem bz1(x y:AV):Hj (y::vs) (some 0) x=x::vs:=qq
theorem bz2(x y:AV)(n:Nat):Hj (y::vs) (some (n+1)) x=y::Hj vs (some n) x:=qq
theorem ce5(n:Nat):Ak vs (.t n)=getF vs n:=qq
theorem ce6(x:AV):Ak vs (.c x)=x:=qq
theorem bp5(x:AV):same (some x) H=some (x,H):=qq
theorem d2y(x:Opd):C0 lk E (.mv x) vs H=some (Ak vs x,H):=qq
theorem d3v(a:LA):C0 lk E (.alloc a) vs H=if a.length≠0 then some (.ptr H.length 0 0 1,H++[some [a]])else none:=qq
theorem d3r(x:Opd):C0 lk E (.box x) vs H=a4u H (Ak vs x):=qq
theorem d3p(z:LA)(p:List (Nat×Nat×Opd)):C0 lk E (.build z p) vs H=same ((D9 (Ak vs) z p).map .agg) H:=qq
theorem d3q(s l:Nat)(z:LA)(p:List (Nat×Opd)):C0 lk E (.bslice s l z p) vs H=a4t H s l (D9 (Ak vs) (List.replicate l z).flatten (p.map λx=>(x.1*s,s,x.2))):=qq
theorem d33(a:Bool)(n:Nat)(x:Opd):C0 lk E (.load a n x) vs H=same ((Lr H n (Ak vs x)).map (Fg a)) H:=qq
theorem d2r(n:Nat)(p x:Opd):C0 lk E (.store n p x) vs H=a5x H n (Ak vs p) (Ak vs x):=qq
theorem d2x(x:Opd):C0 lk E (.nilchk x) vs H=same (Zm H (Ak vs x)) H:=qq
theorem d3t(o:BinOp)(x y:Opd):C0 lk E (.bini o x y) vs H=same (Tb o (Ak vs x) (Ak vs y)) H:=qq
theorem d3s(o:BinOp)(x y:Opd):C0 lk E (.bins o x y) vs H=same (a4x o (Ak vs x) (Ak vs y)) H:=qq
theorem d3f(n:Bool)(x y:Opd):C0 lk E (.eqb n x y) vs H=same (a4g n (Ak vs x) (Ak vs y)) H:=qq
theorem d3d(n:Bool)(a:List EK)(x y:Opd):C0 lk E (.eqs n a x y) vs H=same (a4f H n a (Ak vs x) (Ak vs y)) H:=qq
theorem d2q(o:UnOp)(x:Opd):C0 lk E (.un o x) vs H=same (Wq o (Ak vs x)) H:=qq
theorem d3j(k:IntKind)(x:Opd):C0 lk E (.convi k x) vs H=same (a4m k (Ak vs x)) H:=qq
theorem d3i(x:Opd):C0 lk E (.convsb x) vs H=ai1 H (Ak vs x):=qq
theorem d3k(x:Opd):C0 lk E (.convbs x) vs H=same (((Ih H (Ak vs x)).bind J6).map .str) H:=qq
theorem d2z(s b:Nat)(z:LA)(l c:Opd):C0 lk E (.mksl s b z l c) vs H=a6x H s b z (Ak vs l) (Ak vs c):=qq
theorem d2t(x:Opd)(l h:Option Opd):C0 lk E (.slices x l h) vs H=same (Yz (Ak vs) (Ak vs x) l h) H:=qq
theorem d2u(s:Nat)(x:Opd)(l h:Option Opd):C0 lk E (.slicel s x l h) vs H=E8 (.slicel s x l h) (Ak vs) H:=qq
theorem d2v(x l h m:Opd):C0 lk E (.slice3 x l h m) vs H=E8 (.slice3 x l h m) (Ak vs) H:=qq
theorem d3b(o:Nat)(x:Opd):C0 lk E (.faddr o x) vs H=same (a0p H o (Ak vs x)) H:=qq
theorem d3a(a:Bool)(o n:Nat)(x:Opd):C0 lk E (.field a o n x) vs H=same (a49 a o n (Ak vs x)) H:=qq
theorem d39(s:Nat)(x i:Opd):C0 lk E (.iaddr s x i) vs H=same (T0 H s (Ak vs x) (Ak vs i)) H:=qq
theorem d38(l s:Nat)(x i:Opd):C0 lk E (.iaddra l s x i) vs H=same (Zx H l s (Ak vs x) (Ak vs i)) H:=qq
theorem d36(x i:Opd):C0 lk E (.indexs x i) vs H=same (Zu (Ak vs x) (Ak vs i)) H:=qq
theorem d37(a:Bool)(l s:Nat)(x i:Opd):C0 lk E (.indexa a l s x i) vs H=same (a2o a l s (Ak vs x) (Ak vs i)) H:=qq
theorem c7z(a:Bool)(l s:Nat)(b:LA)(k:IntKind)(n:Int):a2o a l s (.agg b) (.int k n)=if 0<=n/\n<l/\n.toNat*s+s<=b.length then some (Fg a ((b.drop (n.toNat*s)).take s))else none:=qq
theorem d3c(x:Opd)(i:Nat):C0 lk E (.ext x i) vs H=same (a4a (Ak vs x) i) H:=qq
theorem d35(x:Opd):C0 lk E (.len false x) vs H=same (U9 H (Ak vs x)) H:=qq
theorem d34(x:Opd):C0 lk E (.len true x) vs H=same (a2g (Ak vs x)) H:=qq
theorem d3u(s b:Nat)(z:LA)(x y:Opd):C0 lk E (.append s b z x y) vs H=Yl H s b z (Ak vs x) (Ak vs y):=qq
theorem d3g(s:Nat)(x y:Opd):C0 lk E (.copy s x y) vs H=ai0 H s (Ak vs x) (Ak vs y):=qq
theorem d3l(s:Nat)(z:LA)(x:Opd):C0 lk E (.clear s z x) vs H=ai3 H s z (Ak vs x):=qq
theorem d31(x y:Opd):C0 lk E (.min2 x y) vs H=same (a26 (Ak vs x) (Ak vs y)) H:=qq
theorem d32(x y:Opd):C0 lk E (.max2 x y) vs H=same (a2b (Ak vs x) (Ak vs y)) H:=qq
theorem d30(f:Fn)(a c:LQ):C0 lk E (.mkfn f a c) vs H=some (.fn f (a.map (Ak vs)) (c.map (Ak vs)),H):=qq
theorem d3o(f:FuncId)(a:LQ):C0 lk E (.call f a) vs H=Ij lk E f (a.map (Ak vs)) H:=qq
def ci2(E:CallF)(x:AV)(as:LA)(H:AH):Option (AV×AH):=match x with
 |.fn (.func f) first cap=>E f (first++as++cap) H
 |_=>none
theorem d3n(x:Opd)(a:LQ):C0 lk E (.calld x a) vs H=ci2 (Ij lk E) (Ak vs x) (a.map (Ak vs)) H:=by
 simp only[C0,C6,au4];generalize Ak vs x=y;cases y<;>first|rfl|(rename_i f _ _;cases f<;>rfl)
theorem ci1(f:FuncId)(first cap as:LA):ci2 E (.fn (.func f) first cap) as H=E f (first++as++cap) H:=qq
def c21(a:Bool)(q:Option (Option Bool))(H:AH):Option (AV×AH):=match q with
 |some (some b)=>some (.bool (b != a),H)
 |_=>none
theorem d3e(n:Bool)(x:Opd):C0 lk E (.eqnil n x) vs H=c21 n (Q6 H (Ak vs x)) H:=by
 simp only[C0,C6,b45];generalize Q6 H (Ak vs x)=y;cases y with
 |none=>rfl
 |some y=>cases y<;>rfl
theorem c20(n b:Bool):c21 n (some (some b)) H=some (.bool (b != n),H):=qq
theorem d43(x:Opd):fD (.mv x) vs H=some (Ak vs x,H):=by rw[Bn];rfl
theorem d48(a:Bool)(n:Nat)(x:Opd):fD (.load a n x) vs H=same ((Lr H n (Ak vs x)).map (Fg a)) H:=by rw[Bn];rfl
theorem d41(x:Opd):fD (.nilchk x) vs H=same (Zm H (Ak vs x)) H:=by rw[Bn];rfl
theorem d4q(o:BinOp)(x y:Opd):fD (.bini o x y) vs H=same (Tb o (Ak vs x) (Ak vs y)) H:=by rw[Bn];rfl
theorem d4p(o:BinOp)(x y:Opd):fD (.bins o x y) vs H=same (a4x o (Ak vs x) (Ak vs y)) H:=by rw[Bn];rfl
theorem d4i(n:Bool)(a:List EK)(x y:Opd):fD (.eqs n a x y) vs H=same (a4f H n a (Ak vs x) (Ak vs y)) H:=by rw[Bn];rfl
theorem d4l(k:IntKind)(x:Opd):fD (.convi k x) vs H=same (a4m k (Ak vs x)) H:=by rw[Bn];rfl
theorem d3y(x:Opd)(l h:Option Opd):fD (.slices x l h) vs H=same (Yz (Ak vs) (Ak vs x) l h) H:=by rw[Bn];rfl
theorem d4g(o:Nat)(x:Opd):fD (.faddr o x) vs H=same (a0p H o (Ak vs x)) H:=by rw[Bn];rfl
theorem d4e(s:Nat)(x i:Opd):fD (.iaddr s x i) vs H=same (T0 H s (Ak vs x) (Ak vs i)) H:=by rw[Bn];rfl
theorem d4d(l s:Nat)(x i:Opd):fD (.iaddra l s x i) vs H=same (Zx H l s (Ak vs x) (Ak vs i)) H:=by rw[Bn];rfl
theorem d4a(x:Opd):fD (.len false x) vs H=same (U9 H (Ak vs x)) H:=by rw[Bn];rfl
theorem d49(x:Opd):fD (.len true x) vs H=same (a2g (Ak vs x)) H:=by rw[Bn];rfl
theorem d46(x y:Opd):fD (.min2 x y) vs H=same (a26 (Ak vs x) (Ak vs y)) H:=by rw[Bn];rfl
end
def a1p(d:FT)(n0:Nat)(r:R3):Option (AV×AH):=r.bind λr=>match r.1 with
 |.exit _=>none
 |_=>(Fs d.res r.2.1 r.2.2).bind λy=>Cj d.fz n0 y r.2.2
def W1(a:Bool)(n0:Nat)(H:AH)(y:Option AV):Option (AV×AH):=y.bind λy=>Cj a n0 y H
theorem ei6{a:Bool}{H:AH}{y:AV}(h:Ab y=true):W1 a 0 H (some y)=some (y,[]):=by
 simp only[W1,f36,Cj,h,f74,if_true]
section
variable (tab:List (Nat×FT)) (orc:CallF) (lk:FuncId->Bool)
noncomputable def K:CallF:=Ij lk (Ev tab orc lk)
noncomputable def cx (a:lN) (N n0:Nat):TCtx:=⟨lk,Ev tab orc lk,Aj,a,N,n0⟩
theorem cl1(e:lN)(N n0:Nat)(a:lN)(d:List (Nat×Nat))(b:TC)(c:LA)(H:AH):c33 (cx tab orc lk e N n0) a d b c H=Aj (b1n (cx tab orc lk e N n0) a b) (enter n0 a d c H).1 (enter n0 a d c H).2:=qq
theorem ck9(d:lN)(N n0:Nat)(a:lN)(b:TC)(c:LA)(H:AH):b1n (cx tab orc lk d N n0) a b c H=G3 n0 a (Bf (cx tab orc lk d N n0) b c H):=qq
theorem d2c:Ij lk (Ev tab orc lk)=K tab orc lk:=qq
variable {tab orc lk}
theorem d3w{f:FuncId}{d:FT}(b:A9 tab f=some d){a:LA}{H:AH}{r:AV×AH}(c:a.length=d.np)(h:a1p d H.length (Bf (cx tab orc lk d.sl (d.np+d.nt) H.length) d.tc (a++List.replicate (d.sl.length-d.np) .top) H)=some r) :
 Ev tab orc lk f a H=some r:=by
 refine ev8 b ?_;unfold Wx;rw[iP c];exact h
theorem ev7{f:FuncId}(e:lk f=true){a:LA}{H:AH}{x:AV}(h:K tab orc lk f (B9 H a) H=some (x,H))(d:Aa (B9 H a)=true)(g:Ed x=true):K tab orc lk f a H=some (x,H):=by
 have b:=h;unfold K Ij at b ⊢;rw[iP e]at b ⊢;rw[Wo H _ d]at b;split at b
 ·rename_i y H1 i;split at b
  ·rename_i c;rw[iP c];exact b
  ·split at b
   ·cases b;rename_i c _;exact absurd g c
   ·cases b
 ·cases b
theorem ew1{P:Program}(d:∀ p∈tab,p.2.is P p.1)(c:Il P orc){f:FuncId}{a:LA}{H:AH}{x:AV}{b:AH}(h:K tab orc lk f a H=some (x,b)):C P f a H λy G=>y=x/\G=b :=
 ai7 (b08 d c) _ _ _ _ _ h
end
end
section
abbrev Sl(α:Type):=Option (List α)
def els{α:Type}(x:Sl α):List α:=x.getD []
theorem Az{α:Type}(l:List α):els (some l)=l:=qq
theorem a4h{α:Type}:els (none:Sl α)=[]:=qq
def nz{α:Type}(l:List α):Sl α:=if l.isEmpty then none else some l
def A4{α:Type}(p:α->LP):Sl α->AV
 |none=>.emp
 |some l=>.fz (l.map p)
def Lt{α:Type}(p:α->LP):Sl α->PV
 |none=>.emp
 |some l=>.fz (l.map p)
section
variable {α:Type} (p:α->List PV) (x:Sl α) (H:AH)
theorem B5(l:List α):A4 p (some l)=.fz (l.map p):=qq
theorem Er:A4 p none=.emp:=qq
theorem Ks:emb (Lt p x)=A4 p x:=by cases x<;>rfl
theorem bh0:Dr (A4 p x)=some (Lt p x):=by cases x<;>rfl
theorem ay7:cellA (A4 p x)=true:=by cases x<;>rfl
theorem Ai:Ab (A4 p x)=true:=by cases x<;>simp[A4,Ab]
theorem b2k:Dd (A4 p x)=[]:=by cases x<;>simp[A4,Dd]
theorem Jr(τ:Nat->Option Nat):ren τ (A4 p x)=A4 p x:=Lp τ _ (Ai p x)
theorem co8:cellsOf (A4 p x)=some [A4 p x]:=by cases x<;>rfl
theorem b3x:U9 H (A4 p x)=some (.N (els x).length):=by
 cases x with
 |none=>rfl
 |some l=>simp[A4,Ly,els]
theorem b5q:Ih H (A4 p x)=some ((els x).map λa=>(p a).map emb):=by
 cases x with
 |none=>rfl
 |some l=>simp[A4,Ih,els]
theorem Ad [Inhabited α](sz:Nat)(k:IntKind)(n:Int):T0 H sz (A4 p x) (.int k n)=if(0<=n/\n<(els x).length)/\(p ((els x).getD n.toNat df)).length=sz then some (.fptr (p ((els x).getD n.toNat df)))else none:=by
 cases x with
 |none=>
   rw[iN (by simp only[a4h,f3w];omega)];rfl
 |some l=>exact B0 H sz l p k n
end
def Rd(Q:R3->Prop)(I:Prop)(c:LA)(G:AH):R3->Prop
 |some (.normal,c',G')=>c'=c/\G'=G/\I
 |r=>Q r
section
variable (Q:R3->Prop) (I:Prop) (c:List AV) (G:AH)
theorem cz8(b:LA)(a:AH):Rd Q I c G (some (.normal,b,a))=(b=c/\a=G/\I):=qq
theorem d00(i:Nat)(b:LA)(a:AH):Rd Q I c G (some (.exit i,b,a))=Q (some (.exit i,b,a)):=qq
theorem cz7(b:LA)(a:AH):Rd Q I c G (some (.ret,b,a))=Q (some (.ret,b,a)):=qq
theorem cz9(q:Prop)[Decidable q](r a:R3):Rd Q I c G (if q then r else a)=((q->Rd Q I c G r)/\(¬ q->Rd Q I c G a)):=by by_cases h:q<;>simp[h]
end
theorem Hr{Q:R3->Prop}{a:LA->AH->R3}{o:LA}{H:AH}{r:R3}(v:Aj a o H=r)(n:Nat)(F:Nat->LA)(G:Nat->AH)(I:Nat->Prop)(q:o=F 0)(s:H=G 0)(hI:I 0)
 (w:∀ j,j<n->I j->Rd Q (I (j+1)) (F (j+1)) (G (j+1)) (a (F j) (G j))) (t:I n->Rd Q False (F n) (G n) (a (F n) (G n))):Q r:=by
 subst v q s;have G9:∀ j,(∀ c b,a (F j) (G j)≠some (.normal,c,b))->Q (a (F j) (G j))->Q (Aj a (F j) (G j)):=by
  intro j d g;rw[U8];generalize a (F j) (G j)=r at d g;cases r with
  |none=>exact g
  |some r=>
    have⟨e,c,b⟩:=r;cases e with
    |normal=>exact absurd rfl (d c b)
    |exit i=>exact g
    |ret=>exact g
 have m:∀ k j,j+k=n->I j->Q (Aj a (F j) (G j)):=by
  intro k
  induction k with
  |zero=>
    intro j u f;have:j=n:=om;subst this;have h:=t f;refine G9 j ?_ ?_
    ·intro c b e;rw[e]at h;exact h.2.2
    ·generalize a (F j) (G j)=r at h ⊢;cases r with
     |none=>exact h
     |some r=>
       have⟨e,c,b⟩:=r;cases e with
       |normal=>exact h.2.2.elim
       |exit i=>exact h
       |ret=>exact h
  |succ k z=>
    intro j u f;have h:=w j om f;by_cases d:∀ c b,a (F j) (G j)≠some (.normal,c,b)
    ·refine G9 j d ?_;generalize a (F j) (G j)=r at h d ⊢;cases r with
     |none=>exact h
     |some r=>
       have⟨e,c,b⟩:=r;cases e with
       |normal=>exact absurd rfl (d c b)
       |exit i=>exact h
       |ret=>exact h
    ·have d:∃ c b,a (F j) (G j)=some (.normal,c,b):=by
      refine ey8 λy=>d λc b e=>y ⟨c,b,e⟩
     have⟨c,b,e⟩:=d;rw[e]at h;obtain⟨rfl,rfl,l⟩:=h;rw[b3w e];exact z (j+1) om l
 exact m n 0 om hI
theorem bw0(r sz o l t:Nat):Dd (.own r sz o l t)=[r]:=qq
theorem bv9(r i j t:Nat):Dd (.ptr r i j t)=[r]:=qq
theorem bw8(a:LA):Dd (.agg a)=Cn a:=qq
theorem bv6(a:LA):Dd (.tuple a)=Cn a:=qq
theorem bv7:Dd .top=[]:=qq
theorem bw7(b:Bool):Dd (.bool b)=[]:=qq
theorem bw2(k:IntKind)(n:Int):Dd (.int k n)=[]:=qq
theorem bv8(s:List UInt8):Dd (.str s)=[]:=qq
theorem bw6:Dd .emp=[]:=qq
theorem bw3(a:List LP):Dd (.fz a)=[]:=qq
theorem bw4(a:LP):Dd (.fptr a)=[]:=qq
theorem bw5(f:Fn)(a c:LA):Dd (.fn f a c)=Cn a++Cn c:=qq
theorem bv3:Cn []=[]:=qq
theorem b2i(x:AV)(a:LA):Cn (x::a)=Dd x++Cn a:=qq
theorem co4(k:IntKind)(n:Int):cellsOf (.int k n)=some [.int k n]:=qq
theorem co0(s:List UInt8):cellsOf (.str s)=some [.str s]:=qq
theorem co7(b:Bool):cellsOf (.bool b)=some [.bool b]:=qq
theorem co2(r sz o l t:Nat):cellsOf (.own r sz o l t)=some [.own r sz o l t]:=qq
theorem co5(a:List LP):cellsOf (.fz a)=some [.fz a]:=qq
theorem co6:cellsOf .emp=some [.emp]:=qq
theorem c2m(k:Nat):Gi k []=k:=qq
theorem c2o(k r:Nat)(l:lN):Gi k (r::l)=Gi (if k<=r then r+1 else k) l:=qq
theorem cp5(k:IntKind)(n:Int):cellA (.int k n)=true:=qq
theorem cp0(s:List UInt8):cellA (.str s)=true:=qq
theorem cp8(b:Bool):cellA (.bool b)=true:=qq
theorem cp2(r sz o l t:Nat):cellA (.own r sz o l t)=true:=qq
theorem cp6(a:List LP):cellA (.fz a)=true:=qq
theorem cp7:cellA .emp=true:=qq
def S5(a:LA)(H:AH):Nat->Nat->Nat->LA×AH
 |0,k,k2=>if k2=k then(a,H.take k)else(a,H)
 |n+1,k,k2=>if k2=k then(a,H.take k)else S5 a H n k2 (Gi k2 (Kz (H.take k2)))
def b16(a:LA)(H:AH)(k:Nat):LA×AH:=if H.length<=k then(a,H)else S5 a H 4 k (Gi k (Kz (H.take k)))
theorem bf3{H:AH}{k:Nat}(h:Gi k (Kz (H.take k))=k):∀ n,Pu H n k=k
 |0=>rfl
 |n+1=>by rw[Pu,h,bf3 h n]
theorem be5(a:LA)(H:AH):∀ (n k:Nat),S5 a H n k (Gi k (Kz (H.take k)))=if Gi (Pu H n k) (Kz (H.take (Pu H n k)))=Pu H n k then(a,H.take (Pu H n k))else(a,H)
 |0,k=>rfl
 |n+1,k=>by
   rw[S5];split
   ·rename_i h;rw[bf3 h (n+1),iP h]
   ·rw[be5 a H n];rfl
theorem be2(n0:Nat)(a:LA)(H:AH):He n0 a H=b16 a H (Gi n0 (Cn a)):=by
 unfold He b16;split
 ·rfl
 ·exact(be5 a H 4 _).symm
theorem be9(a:LA)(H:AH)(k:Nat):b16 a H k=if H.length<=k then(a,H)else S5 a H 4 k (Gi k (Kz (H.take k))):=qq
theorem be6(b:LA)(H:AH)(k a:Nat):S5 b H 4 k a=if a=k then(b,H.take k)else S5 b H 3 a (Gi a (Kz (H.take a))):=qq
theorem be7(b:LA)(H:AH)(k a:Nat):S5 b H 3 k a=if a=k then(b,H.take k)else S5 b H 2 a (Gi a (Kz (H.take a))):=qq
theorem bv4:Kz []=[]:=qq
theorem bv5(o:Option AObj)(H:AH):Kz (o::H)=refsO o++Kz H:=qq
theorem bu6:refsO none=[]:=qq
theorem bu7:refsO (some [])=[]:=qq
theorem bv1(e:LA)(o:AObj):refsO (some (e::o))=Cn e++refsO (some o):=qq
theorem bv2(a b:AObj):refsO (some (a++b))=refsO (some a)++refsO (some b):=by simp[refsO]
theorem J2{α:Type}(l:List α)(f:α->LA)(h:∀ a,Cn (f a)=[]):refsO (some (l.map f))=[]:=by
 simp only[refsO,f03,f62];rintro _ ⟨a,_,rfl⟩;exact h a
theorem b2j(p:PV):Dd (emb p)=[]:=by cases p<;>rfl
theorem a1t:∀ a:LP,Cn (a.map emb)=[]
 |[]=>rfl
 |c::a=>by rw[f5b,b2i,b2j,a1t a];rfl
theorem bv0{α:Type}(l:List α)(p:α->LP):refsO (some (l.map λa=>(p a).map emb))=[]:=J2 l _ λa=>a1t _
theorem bu9{α:Type}(l:List α)(k:IntKind)(g:α->Int):refsO (some (l.map λa=>[AV.int k (g a)]))=[]:=J2 l _ λ_=>rfl
theorem Fc{α β:Type}[Inhabited α]{l:List α}{j:Nat}(h:j<l.length)(f:α->β):(l.map f)[j]?=some (f (l.getD j df)):=by
 rw[f2i,ex9,ez2 h];rfl
theorem Et{α:Type}[Inhabited α]{l:List α}{j:Nat}(h:j<l.length):l.take (j+1)=l.take j++[l.getD j df]:=by
 rw[f2r,ex9,ez2 h];rfl
theorem F7{α:Type}[Inhabited α]{l:List α}{j:Nat}(h:j<l.length):l.drop j=l.getD j df::l.drop (j+1):=by
 rw[ey9 h,ex9,ez2 h];rfl
theorem Gf{α β:Type}(l:List α)(f:α->β):(l.map f).take l.length=l.map f:=f0a (by rw[f3z];exact f6o _)
theorem ay9:∀ l:List UInt8,J6 (l.map λb=>[AV.int IntKind.u8 (b.toNat:Int)])=some l
 |[]=>rfl
 |b::l=>by
   have a:=b.toNat_lt;have e:UInt8.ofNat ((b.toNat:Int)).toNat=b:=(by simp);rw[f5b,J6,ay9 l];simp[e]
theorem bj3{α:Type}(f:α->Nat)(b:Nat)(h:∀ a,f a<=b):∀ l:List α,(l.map f).sum<=b*l.length
 |[]=>by simp
 |a::l=>by
   have:=bj3 f b h l
   have:=h a;rw[f5b,f5l,f33,Nat.mul_succ];omega
end
section
mutual
theorem d9d:∀ x:AV,Ab x=true->Dd x=[]
 |.own ..,h=>by simp[Ab]at h
 |.ptr ..,h=>by simp[Ab]at h
 |.agg cs,h=>by simp only[Ab]at h;simp only[Dd,Qv cs h]
 |.tuple cs,h=>by simp only[Ab]at h;simp only[Dd,Qv cs h]
 |.fn f first cap,h=>by
   simp only[Ab,f32]at h;simp only[Dd,Qv first h.1,Qv cap h.2,f42]
 |.top,_=>by simp[Dd]
 |.bool _,_=>by simp[Dd]
 |.int _ _,_=>by simp[Dd]
 |.str _,_=>by simp[Dd]
 |.nilp,_=>by simp[Dd]
 |.emp,_=>by simp[Dd]
 |.fz _,_=>by simp[Dd]
 |.fptr _,_=>by simp[Dd]
 |.nilfn,_=>by simp[Dd]
theorem Qv:∀ a:LA,Aa a=true->Cn a=[]
 |[],_=>by simp[Cn]
 |x::a,h=>by
   simp only[Aa,f32]at h;simp only[Cn,d9d x h.1,Qv a h.2,f42]
end
theorem b6e{E:CallF}{f:FuncId}{a:LA}{x:AV}(b:Aa a=true)(h:E f a []=some (x,[]))(H:AH):M6 E f a H=some ([],x,[]):=by
 unfold M6;have e:L0 H (H.length*4+40) (Cn a) []=[]:=by rw[Qv _ b];rfl
 simp only[e,f5x,Kk _ _ b,h];rfl
theorem cq1{E:CallF}{f:FuncId}{a:LA}{x:AV}(b:Aa a=true)(c:Ab x=true)(h:E f a []=some (x,[]))(H:AH):Ri E f a H=some (x,H):=by
 unfold Ri;rw[b6e b h];simp only[Lp _ _ c];simp[back,Cp]
theorem cs5(r sz o l t:Nat):Ab (.own r sz o l t)=false:=qq
theorem cs4(r i j t:Nat):Ab (.ptr r i j t)=false:=qq
theorem cs3(a:LA):Ab (.tuple a)=Aa a:=qq
theorem cs7(f:Fn)(a c:LA):Ab (.fn f a c)=(Aa a&&Aa c):=qq
theorem cs8:Aa []=true:=qq
theorem cs9(x:AV)(a:LA):Aa (x::a)=(Ab x&&Aa a):=qq
theorem bd9(x:AV):Iy [x]=x:=qq
theorem bd8(x y:AV)(l:LA):Iy (x::y::l)=.tuple (x::y::l):=qq
def aw8(a:Bool)(H:AH)(y:AV):Bool->Option (AV×AH)
 |true=>some (y,[])
 |false=>Cj a 0 y H
theorem cd4(a:Bool)(H:AH)(y:AV):W1 a 0 H (some y)=aw8 a H y (Ab y):=by
 cases b:Ab y with
 |true=>exact ei6 b
 |false=>rfl
theorem ce0(a:Bool)(H:AH)(y:AV):aw8 a H y true=some (y,[]):=qq
def b5g(q:AV×AH):Option (AV×AH):=if Ab q.1=true then some (q.1,[])else match Km 0 [q.1] q.2 with
 |([x],H2)=>some (x,H2)
 |_=>none
theorem ei7(H:AH)(y:AV)(h:Ab y=false):Cj true 0 y H=b5g (Ny 0 y H):=by
 unfold Cj b5g;rw[iN (by rw[h];simp)];simp only[if_true,f73]
 try (split<;>rfl)
def Vn(y:AV):Nat->AV×AH->AV×AH
 |0,q=>q
 |k+1,q=>Vn y k (Xr k q.1 q.2)
theorem c8k(y:AV):∀ (k:Nat) (q:AV×AH),T1 0 y k q=Vn y k q
 |0,_=>rfl
 |k+1,q=>by rw[T1,iP (f6m k),c8k y k];rfl
def b5f(y:AV)(H:AH)(x:AV):Bool->Option (AV×AH)
 |true=>some (x,[])
 |false=>Cj true 0 y H
def a2q(r:Nat)(x:AV)(H:AH):Option (List LP)->AV×AH
 |some a=>(frz r a x,Jz (C5 r a) (H.set r none))
 |none=>(x,H)
def aw7(y:AV)(H:AH)(b:Bool)(q:AV×AH):Option (AV×AH):=if b=false/\Ab q.1=true then some (q.1,[])else Cj true 0 y H
theorem ce2(H:AH)(y:AV):aw8 true H y false=aw7 y H (Ab y) (Vn y H.length (y,H)):=by
 show Cj true 0 y H=_;unfold aw7;split
 ·rename_i a;have h:=a.1;rw[ei7 H y h];unfold b5g;by_cases c:H.length<=0
  ·have:H=[]:=List.eq_nil_of_length_eq_zero om;subst this;have b:Ab y=true:=(by simpa [Vn]using a.2);rw[h]at b;cases b
  ·have e:Ny 0 y H=Vn y H.length (y,H):=by
    unfold Ny;rw[iN c,c8k];simp only[a.2,if_true]
   rw[e,iP a.2]
 ·rfl
theorem cd9(y:AV)(H:AH)(x:AV)(G:AH):aw7 y H false (x,G)=b5f y H x (Ab x):=by
 unfold aw7 b5f;cases Ab x<;>rfl
theorem cd8(y:AV)(H:AH)(x:AV):b5f y H x true=some (x,[]):=qq
theorem c8l(y:AV)(q:AV×AH):Vn y 0 q=q:=qq
theorem c8m(y:AV)(k:Nat)(x:AV)(H:AH):Vn y (k+1) (x,H)=Vn y k (a2q k x H ((H.at k).bind Cx)):=by
 show Vn y k (Xr k x H)=_;unfold Xr a2q;cases (H.at k).bind Cx<;>rfl
theorem c8d(r:Nat)(x:AV)(H:AH)(a:List LP):a2q r x H (some a)=(frz r a x,Jz (C5 r a) (H.set r none)):=qq
theorem c8e(r:Nat)(x:AV)(H:AH):a2q r x H none=(x,H):=qq
theorem ct0(o:Option AObj)(H:AH):AH.at (o::H) 0=o:=by cases o<;>rfl
theorem ct1(o:Option AObj)(H:AH)(r:Nat):AH.at (o::H) (r+1)=AH.at H r:=by simp[AH.at]
theorem b19:Cx []=some []:=qq
theorem a1b(e:LA)(o:AObj):Cx (e::o)=(e.mapM Dr).bind λx=>(Cx o).map λy=>x::y:=by
 unfold Cx;rw[f4r];cases e.mapM Dr with
 |none=>rfl
 |some x=>cases o.mapM (λe=>e.mapM Dr)<;>rfl
theorem Ka{α:Type}(f:α->LA)(g:α->LP)(h:∀ a,(f a).mapM Dr=some (g a)):∀ l:List α,Cx (l.map f)=some (l.map g)
 |[]=>rfl
 |a::l=>by rw[f5b,a1b,h,Ka f g h l];rfl
theorem am5(p:PV):Dr (emb p)=some p:=by cases p<;>rfl
theorem at2:∀ l:LP,(l.map emb).mapM Dr=some l
 |[]=>rfl
 |p::l=>by rw[f5b,f4r,am5,at2 l];rfl
theorem am3{α:Type}(l:List α)(p:α->LP):Cx (l.map λa=>(p a).map emb)=some (l.map p):=Ka _ _ (λa=>at2 (p a)) l
theorem bf9{α:Type}(l:List α)(k:IntKind)(g:α->Int):Cx (l.map λa=>[AV.int k (g a)])=some (l.map λa=>[PV.int k (g a)]):=Ka _ _ (λa=>rfl) l
theorem c2p:([]:LA).mapM Dr=some []:=qq
theorem c2s(x:AV)(l:LA):(x::l).mapM Dr=(Dr x).bind λy=>(l.mapM Dr).map λa=>y::a:=by
 rw[f4r];cases Dr x with
 |none=>rfl
 |some y=>cases l.mapM Dr<;>rfl
theorem bg6(k:IntKind)(n:Int):Dr (.int k n)=some (.int k n):=qq
theorem bg2(s:List UInt8):Dr (.str s)=some (.str s):=qq
theorem bg9(b:Bool):Dr (.bool b)=some (.bool b):=qq
theorem bg7(a:List LP):Dr (.fz a)=some (.fz a):=qq
theorem bg8:Dr .emp=some .emp:=qq
theorem bg4(r sz o l t:Nat):Dr (.own r sz o l t)=none:=qq
theorem c9y(r:Nat)(a:List LP):C5 r a []=[]:=qq
theorem ca2(r:Nat)(a:List LP)(x:AV)(b:LA):C5 r a (x::b)=frz r a x::C5 r a b:=qq
theorem c9p(r:Nat)(a:List LP)(b sz off len tot:Nat):frz r a (.own b sz off len tot)=if b=r then(if tot=a.length/\off+len<=tot then .fz ((a.drop off).take len)else .top)else .own b sz off len tot:=qq
theorem c9x(r:Nat)(b:List LP)(a:LA):frz r b (.agg a)=.agg (C5 r b a):=qq
theorem c9k(r:Nat)(b:List LP)(a:LA):frz r b (.tuple a)=.tuple (C5 r b a):=qq
theorem c9l(r:Nat)(a:List LP):frz r a .top=.top:=qq
theorem c9w(r:Nat)(a:List LP)(b:Bool):frz r a (.bool b)=.bool b:=qq
theorem c9s(r:Nat)(a:List LP)(k:IntKind)(n:Int):frz r a (.int k n)=.int k n:=qq
theorem c9m(r:Nat)(a:List LP)(s:List UInt8):frz r a (.str s)=.str s:=qq
theorem c9u(r:Nat)(a:List LP):frz r a .emp=.emp:=qq
theorem c9t(r:Nat)(b a:List LP):frz r b (.fz a)=.fz a:=qq
theorem av7(r:Nat)(a:List LP)(p:PV):frz r a (emb p)=emb p:=by cases p<;>rfl
theorem c2v(f:LA->LA):Jz f []=[]:=qq
theorem c2u(f:LA->LA)(H:AH):Jz f (none::H)=none::Jz f H:=qq
theorem c2t(f:LA->LA)(o:AObj)(H:AH):Jz f (some o::H)=some (o.map f)::Jz f H:=qq
theorem ca1{α:Type}(r:Nat)(b:List LP)(l:List α)(p:α->LP):(l.map λa=>(p a).map emb).map (C5 r b)=l.map λa=>(p a).map emb:=by
 rw[f6a];refine f16 λa _=>?_;simp only[Function.comp_apply,Ya,f6a];exact f16 λp _=>av7 r b p
theorem ca0{α:Type}(r:Nat)(b:List LP)(l:List α)(k:IntKind)(g:α->Int):(l.map λa=>[AV.int k (g a)]).map (C5 r b)=l.map λa=>[AV.int k (g a)]:=by
 rw[f6a];rfl
section
variable {tab:List (Nat×FT)} {orc:CallF} {lk:FuncId->Bool}
theorem d2d{f:FuncId}{a:LA}{x:AV}(b:Aa a=true)(c:Ab x=true)(h:Ev tab orc lk f a []=some (x,[]))(H:AH):K tab orc lk f a H=some (x,H):=by
 unfold K Ij;split
 ·rw[Wo H a b,h];simp only[b,c,List.isEmpty_nil,f5m,if_true]
  try (split<;>rfl)
 ·exact cq1 b c h H
def E5(a:List ARes)(b:Bool)(n0:Nat)(r:R3):Option (AV×AH):=r.bind λr=>match r.1 with
 |.exit _=>none
 |_=>(Fs a r.2.1 r.2.2).bind λy=>Cj b n0 y r.2.2
theorem bs0(a:List ARes)(c:Bool)(n0:Nat)(b:LA)(H:AH):E5 a c n0 (some (.ret,b,H))=W1 c n0 H (Fs a b H):=qq
theorem bs1(a:List ARes)(c:Bool)(n0:Nat)(b:LA)(H:AH):E5 a c n0 (some (.normal,b,H))=W1 c n0 H (Fs a b H):=qq
theorem bs2(a:List ARes)(b:Bool)(n0:Nat)(q:Prop)[Decidable q](r c:R3):E5 a b n0 (if q then r else c)=if q then E5 a b n0 r else E5 a b n0 c:=by by_cases h:q<;>simp[h]
theorem Ae{f:FuncId}{d:FT}(c:A9 tab f=some d){a:LA}{x:AV}(e:a.length=d.np)(b:Aa a=true)(g:Ab x=true)
 (h:E5 d.res d.fz 0 (Bf (cx tab orc lk d.sl (d.np+d.nt) 0) d.tc (a++List.replicate (d.sl.length-d.np) .top) [])=some (x,[])) (H:AH):K tab orc lk f a H=some (x,H):=
 d2d b g (d3w c e h) H
theorem ak3{f:FuncId}(c:A9 tab f=none){a:LA}{x:AV}(b:Aa a=true)(d:Ab x=true)(h:orc f a []=some (x,[]))(H:AH):K tab orc lk f a H=some (x,H):=
 d2d b d (Yq c h) H
end
theorem B6{a:List ARes}{b:Bool}{c:Nat}{X:TCtx}{t:TC}{i:Nat}{y:Option (AV×AH)}{d:LA->AH->R3}{e:LA}{H:AH}{r:R3}(k:Aj d e H=r)(n:Nat)(F:Nat->LA)(G:Nat->AH)(I:Nat->Prop)(f:e=F 0)(g:H=G 0)(hI:I 0)(l:∀ j,j<n->I j->Rd (λr=>E5 a b c (Bm X t (Bi i r))=y) (I (j+1)) (F (j+1)) (G (j+1)) (d (F j) (G j)))(h:I n->Rd (λr=>E5 a b c (Bm X t (Bi i r))=y) False (F n) (G n) (d (F n) (G n))):E5 a b c (Bm X t (Bi i r))=y:=Hr (Q:=λr=>E5 a b c (Bm X t (Bi i r))=y) k n F G I f g hI l h
end
section
abbrev SEnv:=List (Nat×AV)
def U6:SEnv->Nat->AV
 |[],_=>.top
 |(m,x)::e,n=>if m=n then x else U6 e n
def lkE(N:Nat)(e:SEnv)(n:Nat):AV:=if n<N then U6 e n else .top
def Kq(N:Nat)(e:SEnv):Opd->AV
 |.t n=>lkE N e n
 |.c x=>x
def Ib(e:SEnv)(d:Option Nat)(x:AV):SEnv:=match d with
 |none=>e
 |some d=>(d,x)::e
def C7(lk:FuncId->Bool)(ev:CallF)(op:AOp)(c:Nat)(V:Opd->AV)(H:AH):Option (List Loc×List Loc×Nat×AV×AH):=
 match op with
 |.call f args=>
   if lk f=true/\Aa (args.map V)=false then
    match ev f (B9 H (args.map V)) []with
    |some (x,H1)=>if Ed x=true then some ((Gy H (args.map V)).map .con,[],c,x,H)else none
    |none=>none
   else
   match M6 ev f (args.map V) H with
   |some (rs,x,H1)=>
     if(∀ r∈rs,r<c)/\c+(H1.length-rs.length)<=H.length then
      let all:=rs++List.range' c (H1.length-rs.length)
      some (all.map .con,all.map .con++all.map .len,c+(H1.length-rs.length),ren (Bg all) x,Cp H all (H1.map λo=>o.map (renO (Bg all))))
     else none
   |none=>none
 |.store n p x=>
   match V p,cellsOf (V x)with
   |.ptr r i j tot,some cs=>
     match B1 H r tot with
     |some o=>
       match o[i]? with
       |some e=>if(cs.length=n/\j+n<=e.length/\cs.all cellA=true)/\r<c then some ([.con r],[.con r],c,U,H.set r (some (o.set i (lay e j cs))))else none
       |none=>none
     |none=>none
   |_,_=>none
 |.calld x0 args=>
   match V x0 with
   |.fn (.func f) first cap=>
     match M6 ev f (first++args.map V++cap) H with
     |some (rs,x,H1)=>
       if(∀ r∈rs,r<c)/\c+(H1.length-rs.length)<=H.length then
        let all:=rs++List.range' c (H1.length-rs.length)
        some (all.map .con,all.map .con++all.map .len,c+(H1.length-rs.length),ren (Bg all) x,Cp H all (H1.map λo=>o.map (renO (Bg all))))
       else none
     |none=>none
   |_=>none
 |.append sz bytes _ x y=>
   match (match V x with
    |.own r sz' 0 len tot=>if sz'=sz/\len=tot then some (r,len)else none
    |.emp=>(a0s H c).map λr=>(r,0)
    |_=>none),E4 H (V y)with
   |some (r,len),some news=>
     match B1 H r len with
     |some o=>
       if(news.all (λe=>decide (e.length=sz))=true/\(len+news.length)*bytes<=1000000000000/\len+news.length<=1000000000)/\r<c then
        some (.con r::Ia (V y),[.con r,.len r],c,.own r sz 0 (len+news.length) (len+news.length),H.set r (some (o++news)))
       else none
     |none=>none
   |_,_=>none
 |.eqnil _ _=>none
 |.bad=>none
 |op=>
   if Qf op then
    if c<H.length then
     match Cw op V []with
     |some (v,[some o])=>some ([.con c],[.con c,.len c],c+1,ren (Bg [c]) v,H.set c (some o))
     |_=>none
    else none
   else
    match Be op V H with
    |some v=>some (J4 op V,[],c,v,H)
    |none=>none
theorem ej4(lk:FuncId->Bool)(ev:CallF)(op:AOp)(c:Nat)(fr:LA)(H:AH):Lb lk ev op c fr H=C7 lk ev op c (evalA fr) H:=by cases op<;>rfl
def Cq(call:CallF)(op:AOp)(V:Opd->AV)(H:AH):Option (AV×AH):=
 match op with
 |.call f args=>call f (args.map V) H
 |.calld x args=>
   match V x with
   |.fn (.func f) first cap=>call f (first++args.map V++cap) H
   |_=>none
 |.eqnil neg x=>
   match Q6 H (V x)with
   |some (some b)=>some (.bool (b != neg),H)
   |_=>none
 |op=>E8 op V H
theorem ej1(call:CallF)(op:AOp)(fr:LA)(H:AH):Ee call op fr H=Cq call op (evalA fr) H:=by cases op<;>rfl
def gd(x:AV)(a:Bool):Option Bool:=match x with
 |.bool b=>some (decide (b=a))
 |.tuple []=>some false
 |_=>none
def La(lk:FuncId->Bool)(ev:CallF)(tab:List lN)(N:Nat):List (Nat×AInstr)->Nat->List Jm->SEnv->AH->Option (SEnv×AH)
 |[],_,lg,e,H=>if confOK tab lg=true then some (e,H)else none
 |(i,A7)::rest,c,lg,e,H=>
   match A7.guard with
   |none=>(C7 lk ev A7.op c (Kq N e) H).bind λr=>La lk ev tab N rest r.2.2.1 (lg++[F6 i A7 r.1 r.2.1]) (Ib e A7.dst r.2.2.2.1) r.2.2.2.2
   |some (g,want)=>(gd (lkE N e g) want).bind λq=>
     if q=true then(C7 lk ev A7.op c (Kq N e) H).bind λr=>La lk ev tab N rest r.2.2.1 (lg++[F6 i A7 r.1 r.2.1]) (Ib e A7.dst r.2.2.2.1) r.2.2.2.2
     else La lk ev tab N rest c (lg++[(i,[.slot g],Cl A7.dst)]) (Ib e A7.dst (.tuple [])) H
def a4e(call:CallF)(N:Nat)(A7:AInstr)(e:SEnv)(H:AH):Option (SEnv×AH):=
 match A7.guard with
 |none=>(Cq call A7.op (Kq N e) H).bind λr=>some (Ib e A7.dst r.1,r.2)
 |some (g,want)=>(gd (lkE N e g) want).bind λq=>
   if q=true then(Cq call A7.op (Kq N e) H).bind λr=>some (Ib e A7.dst r.1,r.2)else some (Ib e A7.dst (.tuple []),H)
def Kr(lk:FuncId->Bool)(ev:CallF)(tab:List lN)(N:Nat):List (List (Nat×AInstr))->SEnv->AH->Option (SEnv×AH)
 |[],e,H=>some (e,H)
 |[(_,A7)]::rest,e,H=>(a4e ev N A7 e H).bind λr=>Kr lk ev tab N rest r.1 r.2
 |seg::rest,e,H=>(La lk ev tab N seg H.length [] e (H++List.replicate (H6 seg) none)).bind λr=>Kr lk ev tab N rest r.1 r.2
structure RelF(N:Nat)(fr:LA)(e:SEnv):Prop where
 len:fr.length=N
 at':∀ n,getF fr n=lkE N e n
theorem ef8{l:LA}{n:Nat}(h:l.length<=n):getF l n=.top:=by rw[Hc,f0e h];rfl
theorem RelF.ev{N:Nat}{fr:LA}{e:SEnv}(h:RelF N fr e):evalA fr=Kq N e:=by
 funext x;cases x with
 |t n=>exact(Hc fr n).symm.trans (h.at' n)
 |c x=>rfl
theorem RelF.put{N:Nat}{fr:LA}{e:SEnv}(h:RelF N fr e)(d:Option Nat)(x:AV):RelF N (Bd fr d x) (Ib e d x):=by
 cases d with
 |none=>exact h
 |some d=>
   refine⟨by simp[Bd,h.len],λn=>?_⟩;have c:=h.at' n;simp only[Bd,Ib,lkE,U6,Hc,f2e];simp only[Hc,lkE]at c;by_cases b:d=n
   ·subst b;rw[iP rfl,iP rfl];by_cases a:d<N
    ·rw[iP (by rw[h.len];exact a),iP a];rfl
    ·rw[iN (by rw[h.len];exact a),iN a];rfl
   ·rw[iN b,iN b];exact c
def M7(N:Nat):Option (LA×AH)->Option (SEnv×AH)->Prop
 |none,none=>True
 |some (fr,H),some (e,G)=>RelF N fr e/\H=G
 |_,_=>False
theorem M7.bind{N:Nat}{x:Option (LA×AH)}{y:Option (SEnv×AH)}(h:M7 N x y){f:LA×AH->Option (LA×AH)}{g:SEnv×AH->Option (SEnv×AH)}(b:∀ fr e H,RelF N fr e->M7 N (f (fr,H)) (g (e,H))):M7 N (x.bind f) (y.bind g):=by
 cases x with
 |none=>cases y with
   |none=>trivial
   |some y=>exact h.elim
 |some x=>cases y with
   |none=>exact h.elim
   |some y=>
     have⟨fr,H⟩:=x;have⟨e,G⟩:=y;obtain⟨a,rfl⟩:=h;exact b fr e H a
section
variable {lk:FuncId->Bool} {ev:CallF} {tab:List (List Nat)} {N:Nat}
theorem eg0{fr:LA}{e:SEnv}(h:RelF N fr e)(g:Nat):(fr[g]?).getD .top=lkE N e g:=(Hc fr g).symm.trans (h.at' g)
theorem ah2:∀ (is:List (Nat×AInstr)) (c:Nat) (a:List Jm) (fr:LA) (e:SEnv) (H:AH),RelF N fr e->M7 N (Hv lk ev tab is c a fr H) (La lk ev tab N is c a e H)
 |[],c,a,fr,e,H,h=>by
   unfold Hv La;split
   ·exact⟨h,rfl⟩
   ·trivial
 |(i,A7)::rest,c,a,fr,e,H,h=>by
   have k:M7 N (match Lb lk ev A7.op c fr H with|some (R,W,j,v,f)=>Hv lk ev tab rest j (a++[F6 i A7 R W]) (Bd fr A7.dst v) f|none=>none)
    ((C7 lk ev A7.op c (Kq N e) H).bind λr=>La lk ev tab N rest r.2.2.1 (a++[F6 i A7 r.1 r.2.1]) (Ib e A7.dst r.2.2.2.1) r.2.2.2.2):=by
    rw[ej4,h.ev];cases C7 lk ev A7.op c (Kq N e) H with
    |none=>trivial
    |some r=>
      have⟨R,W,j,v,f⟩:=r;exact ah2 rest _ _ _ _ _ (h.put _ _)
   unfold Hv La;cases A7.guard with
   |none=>exact k
   |some m=>
     have⟨g,d⟩:=m;simp only[];rw[<-eg0 h g];cases fr[g]? with
     |none=>trivial
     |some x=>
       simp only[f31];cases x with
       |bool b=>
         by_cases l:b=d
         ·simp only[l,gd,f6s,f36,if_true];exact k
         ·simp only[l,gd,f6b,f36,if_false,f1k];exact ah2 rest _ _ _ _ _ (h.put _ _)
       |tuple n=>
         cases n with
         |nil=>exact ah2 rest _ _ _ _ _ (h.put _ _)
         |cons _ _=>trivial
       |_=>trivial
theorem ei8{call:CallF}(A7:AInstr)(fr:LA)(e:SEnv)(H:AH)(h:RelF N fr e):M7 N (Hm call [A7] fr H) (a4e call N A7 e H):=by
 have d:M7 N (match C6 A7.op call fr H with|some (v,c)=>Hm call [] (Hj fr A7.dst v) c|none=>none) ((Cq call A7.op (Kq N e) H).bind λr=>some (Ib e A7.dst r.1,r.2)):=by
  rw[b34,ej1,h.ev];cases Cq call A7.op (Kq N e) H with
  |none=>trivial
  |some r=>
    have⟨v,c⟩:=r;show M7 N (some (Hj fr A7.dst v,c)) (some (Ib e A7.dst v,c));rw[Zf];exact⟨h.put _ _,rfl⟩
 unfold Hm a4e;cases A7.guard with
 |none=>exact d
 |some i=>
   have⟨g,a⟩:=i;simp only[];rw[<-h.at' g];cases getF fr g with
   |bool b=>
     by_cases f:b=a
     ·simp only[f,gd,f6s,f36,if_true];exact d
     ·simp only[f,gd,f6b,f36,if_false,f1k];show M7 N (some (Hj fr A7.dst (.tuple []),H)) _;rw[Zf];exact⟨h.put _ _,rfl⟩
   |tuple j=>
     cases j with
     |nil=>
       show M7 N (some (Hj fr A7.dst (.tuple []),H)) _;rw[Zf];exact⟨h.put _ _,rfl⟩
     |cons _ _=>trivial
   |_=>trivial
theorem ax0:∀ (b:List (List (Nat×AInstr))) (fr:LA) (e:SEnv) (H:AH),RelF N fr e->M7 N (Gx lk ev tab b fr H) (Kr lk ev tab N b e H)
 |[],fr,e,H,h=>⟨h,rfl⟩
 |[(_,A7)]::rest,fr,e,H,h=>by
   have:=M7.bind (ei8 (call:=ev) A7 fr e H h) (f:=λr=>Gx lk ev tab rest r.1 r.2) (g:=λr=>Kr lk ev tab N rest r.1 r.2) λfr e H h=>ax0 rest fr e H h;unfold Gx Kr;cases a:Hm ev [A7] fr H with
   |none=>rw[a]at this;exact this
   |some r=>rw[a]at this;exact this
 |[]::rest,fr,e,H,h=>by
   have:=M7.bind (ah2 (lk:=lk) (ev:=ev) (tab:=tab) [] H.length [] fr e (H++List.replicate (H6 []) none) h) (f:=λr=>Gx lk ev tab rest r.1 r.2) (g:=λr=>Kr lk ev tab N rest r.1 r.2) λfr e H h=>ax0 rest fr e H h;unfold Gx Kr;cases a:Hv lk ev tab [] H.length [] fr (H++List.replicate (H6 []) none)with
   |none=>rw[a]at this;exact this
   |some r=>rw[a]at this;exact this
 |(x::y::z)::rest,fr,e,H,h=>by
   have:=M7.bind (ah2 (lk:=lk) (ev:=ev) (tab:=tab) (x::y::z) H.length [] fr e (H++List.replicate (H6 (x::y::z)) none) h) (f:=λr=>Gx lk ev tab rest r.1 r.2) (g:=λr=>Kr lk ev tab N rest r.1 r.2) λfr e H h=>ax0 rest fr e H h;unfold Gx Kr;cases a:Hv lk ev tab (x::y::z) H.length [] fr (H++List.replicate (H6 (x::y::z)) none)with
   |none=>rw[a]at this;exact this
   |some r=>rw[a]at this;exact this
end
theorem c38:∀ (a:lN) (b:LA) (n:Nat),U6 (a.zip b) n=match a.idxOf? n with|some i=>getF b i|none=>.top
 |[],b,n=>by simp[U6]
 |s::a,[],n=>by
   rw[List.zip_nil_right]
   try (cases (s::a).idxOf? n<;>rfl)
 |s::a,x::b,n=>by
   rw[List.zip_cons_cons,U6,List.idxOf?_cons,c38 a b n];by_cases h:s=n
   ·subst h;simp[getF]
   ·rw[iN h,show(s==n)=false from by simpa using h];simp only[f1k,if_false]
    try (cases a.idxOf? n<;>rfl)
theorem eg2(a:lN)(N:Nat)(b:LA):RelF N (Ji a N b) (a.zip b):=by
 refine⟨Vw _ _ _,λn=>?_⟩;unfold lkE;by_cases h:n<N
 ·rw[iP h,Hc,c38];simp only[Ji,f2i,f17 h,f3y,f31]
  try (cases a.idxOf? n<;>rfl)
 ·rw[iN h,ef8 (by rw[Vw];omega)]
def prE(a:lN)(N:Nat)(r:Option (SEnv×AH)):R3:=r.map λr=>(.normal,a.map (lkE N r.1),r.2)
theorem c07(a:lN)(N:Nat)(e:SEnv)(H:AH):prE a N (some (e,H))=some (.normal,a.map (lkE N e),H):=qq
theorem bc5(X:TCtx)(s:List (List (Nat×AInstr)))(t:List lN)(a:LA)(H:AH):Bf X (.rawE s t) a H=prE X.sl X.N (Kr X.lk (Ij X.lk X.E) t X.N s (X.sl.zip a) (H++List.replicate (Rj s) (some []))):=by
 have:=ax0 (lk:=X.lk) (ev:=Ij X.lk X.E) (tab:=t) s _ _ (H++List.replicate (Rj s) (some [])) (eg2 X.sl X.N a);show(Gx X.lk (Ij X.lk X.E) t s (Ji X.sl X.N a) _).map _=_;cases c:Gx X.lk (Ij X.lk X.E) t s (Ji X.sl X.N a) (H++List.replicate (Rj s) (some []))with
 |none=>
   cases b:Kr X.lk (Ij X.lk X.E) t X.N s (X.sl.zip a) (H++List.replicate (Rj s) (some []))with
   |none=>rfl
   |some y=>rw[c,b]at this;exact this.elim
 |some x=>
   cases b:Kr X.lk (Ij X.lk X.E) t X.N s (X.sl.zip a) (H++List.replicate (Rj s) (some []))with
   |none=>rw[c,b]at this;exact this.elim
   |some y=>
     rw[c,b]at this;have⟨fr,G⟩:=x;have⟨e,f⟩:=y;obtain⟨d,rfl⟩:=this;simp only[f3y,prE,Xb]
     congr 4
     exact funext d.at'
end
section
def cg5(H:AH)(c:Nat)(o:Option AObj):Option Nat:=match o with
 |some []=>some c
 |_=>a0s H c
abbrev OE:=Option (List Loc×List Loc×Nat×AV×AH)
def Fi(R:List Loc)(c:Nat)(H:AH)(r:Option AV):OE:=match r with
 |some v=>some (R,[],c,v,H)
 |none=>none
def Yb(c:Nat)(H:AH)(r:Option (AV×AH)):OE:=if c<H.length then match r with
 |some (v,[some o])=>some ([.con c],[.con c,.len c],c+1,ren (Bg [c]) v,H.set c (some o))
 |_=>none
 else none
theorem c3d(R:List Loc)(c:Nat)(H:AH)(v:AV):Fi R c H (some v)=some (R,[],c,v,H):=qq
theorem ca6(c:Nat)(H:AH)(v:AV)(o:AObj):Yb c H (some (v,[some o]))=if c<H.length then some ([.con c],[.con c,.len c],c+1,ren (Bg [c]) v,H.set c (some o))else none:=qq
theorem bx0{α:Type}(p:α->LP)(x:Sl α):Ia (A4 p x)=[]:=by cases x<;>rfl
theorem bw9{α:Type}(p:α->LP)(x:Sl α):Fa (A4 p x)=[]:=by cases x<;>rfl
theorem bk3{α:Type}(p:α->LP)(x:Sl α)(H:AH):E4 H (A4 p x)=some ((els x).map λa=>(p a).map emb):=by
 cases x with
 |none=>rfl
 |some l=>exact b5q p (some l) H
section
variable (lk:FuncId->Bool) (E:CallF) (c:Nat) (V:Opd->AV) (H:AH)
theorem d1g(q a b:Opd):C7 lk E (.pick q a b) c V H=Fi [] c H (pickV (V q) (V a) (V b)):=qq
theorem d25(z:LA)(p:List (Nat×Nat×Opd)):C7 lk E (.build z p) c V H=Fi ([]) c H (((D9 V z p).map .agg)):=qq
theorem d1n(a:Bool)(n:Nat)(x:Opd):C7 lk E (.load a n x) c V H=Fi (Ia (V x)) c H (((Lr H n (V x)).map (Fg a))):=qq
theorem d1h(x:Opd):C7 lk E (.nilchk x) c V H=Fi (Fa (V x)) c H ((Zm H (V x))):=qq
theorem d29(o:BinOp)(x y:Opd):C7 lk E (.bini o x y) c V H=Fi ([]) c H ((Tb o (V x) (V y))):=qq
theorem d28(o:BinOp)(x y:Opd):C7 lk E (.bins o x y) c V H=Fi ([]) c H ((a4x o (V x) (V y))):=qq
theorem d22(x:Opd):C7 lk E (.convbs x) c V H=Fi (Ia (V x)) c H ((((Ih H (V x)).bind J6).map .str)):=qq
theorem d1e(x:Opd)(l h:Option Opd):C7 lk E (.slices x l h) c V H=Fi ([]) c H ((Yz V (V x) l h)):=qq
theorem d1v(o:Nat)(x:Opd):C7 lk E (.faddr o x) c V H=Fi (Fa (V x)) c H ((a0p H o (V x))):=qq
theorem d1t(s:Nat)(x i:Opd):C7 lk E (.iaddr s x i) c V H=Fi (Fa (V x)) c H ((T0 H s (V x) (V i))):=qq
theorem d1w(x:Opd)(i:Nat):C7 lk E (.ext x i) c V H=Fi ([]) c H ((a4a (V x) i)):=qq
theorem d1p(x:Opd):C7 lk E (.len false x) c V H=Fi (Fa (V x)) c H ((U9 H (V x))):=qq
theorem d1o(x:Opd):C7 lk E (.len true x) c V H=Fi (Fa (V x)) c H ((a2g (V x))):=qq
theorem d1i(x:Opd):C7 lk E (.mv x) c V H=some ([],[],c,V x,H):=qq
theorem d1f(s:Nat)(x:Opd)(l h:Option Opd):C7 lk E (.slicel s x l h) c V H=Fi (Fa (V x)) c H (Be (.slicel s x l h) V H):=qq
theorem d2b(a:LA):C7 lk E (.alloc a) c V H=Yb c H (if a.length≠0 then some (.ptr 0 0 0 1,[some [a]])else none):=by
 show(if c<H.length then _ else none)=_
 grind [Yb,Cw]
theorem d27(x:Opd):C7 lk E (.box x) c V H=Yb c H (a4u [] (V x)):=qq
theorem d1j(s b:Nat)(z:LA)(l k:Opd):C7 lk E (.mksl s b z l k) c V H=Yb c H (a6x [] s b z (V l) (V k)):=qq
theorem d26(s l:Nat)(z:LA)(p:List (Nat×Opd)):C7 lk E (.bslice s l z p) c V H=Yb c H (a4t [] s l (D9 V (List.replicate l z).flatten (p.map λx=>(x.1*s,s,x.2)))):=by
 show(if c<H.length then _ else none)=_;unfold Yb;simp only[Cw];cases D9 V (List.replicate l z).flatten (p.map λx=>(x.1*s,s,x.2))<;>rfl
def Ld(lk:FuncId->Bool)(E:CallF)(f:FuncId)(a:LQ)(c:Nat)(V:Opd->AV)(H:AH)(b:LA):Bool->OE
 |true=>match E f b []with
   |some (x,[])=>if Ab x=true/\c<=H.length then some ([],[],c,x,H)else C7 lk E (.call f a) c V H
   |_=>C7 lk E (.call f a) c V H
 |false=>if lk f=true then match E f (B9 H b) []with
  |some (x,_)=>if Ed x=true then some ((Gy H b).map .con,[],c,x,H)else C7 lk E (.call f a) c V H
  |none=>C7 lk E (.call f a) c V H
   else C7 lk E (.call f a) c V H
theorem d24(f:FuncId)(a:LQ):C7 lk E (.call f a) c V H=Ld lk E f a c V H (a.map V) (Aa (a.map V)):=by
 cases b:Aa (a.map V)with
 |true=>
   grind [Ld,Ab,C7,Bool.true_eq_false,b6e,Lp,Cp]
 |false=>
   grind [Ld,B9,Ed,C7]
def Ke(lk:FuncId->Bool)(E:CallF)(f:FuncId)(a:LQ)(c:Nat)(V:Opd->AV)(H:AH):OE:=C7 lk E (.call f a) c V H
def clB(c:Nat)(H:AH)(x:AV)(o:OE):Bool->OE
 |true=>some ([],[],c,x,H)
 |false=>o
def clK(c:Nat)(H:AH)(o:OE)(r:Option (AV×AH)):OE:=match r with
 |some (x,[])=>clB c H x o (Ab x&&decide (c<=H.length))
 |_=>o
theorem cn4(f:FuncId)(a:LQ)(b:LA):Ld lk E f a c V H b true=clK c H (Ke lk E f a c V H) (E f b []):=by
 unfold Ld clK Ke;cases E f b []with
 |none=>rfl
 |some r=>
   have⟨x,H1⟩:=r;cases H1 with
   |nil=>
     simp only[];by_cases d:Ab x=true/\c<=H.length
     ·rw[iP d,show(Ab x&&decide (c<=H.length))=true from by simp[d.1,d.2]];rfl
     ·rw[iN d,show(Ab x&&decide (c<=H.length))=false from by rw[f2s];intro h;simp only[f32,f2f]at h;exact d h];rfl
   |cons _ _=>rfl
end
theorem cn2(c:Nat)(H:AH)(o:OE)(x:AV):clK c H o (some (x,[]))=clB c H x o (Ab x&&decide (c<=H.length)):=qq
theorem cn5(c:Nat)(H:AH)(x:AV)(o:OE):clB c H x o true=some ([],[],c,x,H):=qq
section
variable (lk:FuncId->Bool) (E:CallF) (tab:List (List Nat)) (N:Nat)
def Zl(rest:List (Nat×AInstr))(i:Nat)(A7:AInstr)(lg:List Jm)(e:SEnv)(r:OE):Option (SEnv×AH):=r.bind λr=>La lk E tab N rest r.2.2.1 (lg++[F6 i A7 r.1 r.2.1]) (Ib e A7.dst r.2.2.2.1) r.2.2.2.2
def nxD(rest:List (List (Nat×AInstr)))(r:Option (SEnv×AH)):Option (SEnv×AH):=r.bind λr=>Kr lk E tab N rest r.1 r.2
def skE(rest:List (Nat×AInstr))(i:Nat)(A7:AInstr)(g:Nat)(c:Nat)(lg:List Jm)(e:SEnv)(H:AH)(q:Option Bool):Option (SEnv×AH):=q.bind λq=>
 if q=true then Zl lk E tab N rest i A7 lg e (C7 lk E A7.op c (Kq N e) H)else La lk E tab N rest c (lg++[(i,[.slot g],Cl A7.dst)]) (Ib e A7.dst (.tuple [])) H
variable (rest:List (Nat×AInstr)) (more:List (List (Nat×AInstr))) (i c:Nat) (lg:List Jm) (e:SEnv) (H:AH)
theorem d42:Kr lk E tab N [] e H=some (e,H):=qq
theorem d40(A7:AInstr):Kr lk E tab N ([(i,A7)]::more) e H=nxD lk E tab N more (a4e E N A7 e H):=qq
theorem d44(x y:Nat×AInstr)(z:List (Nat×AInstr)):Kr lk E tab N ((x::y::z)::more) e H=nxD lk E tab N more (La lk E tab N (x::y::z) H.length [] e (H++List.replicate (H6 (x::y::z)) none)):=qq
theorem c1t:nxD lk E tab N more (some (e,H))=Kr lk E tab N more e H:=qq
theorem d02:La lk E tab N [] c lg e H=if confOK tab lg=true then some (e,H)else none:=qq
theorem d01(d:Option Nat)(op:AOp):La lk E tab N ((i,⟨d,none,op⟩)::rest) c lg e H=Zl lk E tab N rest i ⟨d,none,op⟩ lg e (C7 lk E op c (Kq N e) H):=qq
theorem d03(d:Option Nat)(g:Nat)(w:Bool)(op:AOp):La lk E tab N ((i,⟨d,some (g,w),op⟩)::rest) c lg e H=skE lk E tab N rest i ⟨d,some (g,w),op⟩ g c lg e H (gd (lkE N e g) w):=qq
theorem c1r(A7:AInstr)(R W:List Loc)(a:Nat)(v:AV):Zl lk E tab N rest i A7 lg e (some (R,W,a,v,H))=La lk E tab N rest a (lg++[F6 i A7 R W]) (Ib e A7.dst v) H:=qq
theorem bn3(A7:AInstr)(g:Nat):skE lk E tab N rest i A7 g c lg e H (some true)=Zl lk E tab N rest i A7 lg e (C7 lk E A7.op c (Kq N e) H):=qq
theorem bn4(A7:AInstr)(g:Nat):skE lk E tab N rest i A7 g c lg e H (some false)=La lk E tab N rest c (lg++[(i,[.slot g],Cl A7.dst)]) (Ib e A7.dst (.tuple [])) H:=qq
theorem c9c(b w:Bool):gd (.bool b) w=some (decide (b=w)):=qq
theorem c9b(w:Bool):gd (.tuple []) w=some false:=qq
theorem bz5(x:AV):Ib e none x=e:=qq
theorem bz4(d:Nat)(x:AV):Ib e (some d) x=(d,x)::e:=qq
theorem c37(n:Nat):lkE N e n=if n<N then U6 e n else .top:=qq
theorem c3a(m n:Nat)(x:AV):U6 ((m,x)::e) n=if m=n then x else U6 e n:=qq
theorem cf0(n:Nat):Kq N e (.t n)=lkE N e n:=qq
theorem cf1(x:AV):Kq N e (.c x)=x:=qq
theorem d2p(d s:Nat):I0 d s=⟨some d,none,.mv (.t s)⟩:=qq
theorem d2o(d:Nat)(o:AOp):I1 d o=⟨some d,none,o⟩:=qq
theorem d2n(d g:Nat)(o:AOp):I2 d g o=⟨some d,some (g,true),o⟩:=qq
theorem d2m(d g:Nat)(o:AOp):I3 d g o=⟨some d,some (g,false),o⟩:=qq
theorem d2l(d g s:Nat):I4 d g s=⟨some d,some (g,true),.mv (.t s)⟩:=qq
theorem d2k(d g s:Nat):I5 d g s=⟨some d,some (g,false),.mv (.t s)⟩:=qq
theorem d2j(d n s:Nat):I6 d n s=⟨some d,none,.faddr n (.t s)⟩:=qq
theorem d2i(d s:Nat):I7 d s=⟨some d,none,.load false 1 (.t s)⟩:=qq
theorem d2h(d s n:Nat):I8 d s n=⟨some d,none,.ext (.t s) n⟩:=qq
theorem d2g(n p s:Nat):I9 n p s=⟨none,none,.store n (.t p) (.t s)⟩:=qq
theorem d2e(n:Int):KI n=.c (.N n):=qq
theorem b7g(a:Nat)(l:lN)(x:AV)(m:LA):(a::l).zip (x::m)=(a,x)::l.zip m:=qq
theorem b7f(m:LA):([]:lN).zip m=[]:=qq
def sgG(E:CallF)(N:Nat)(d:Option Nat)(e:SEnv)(H:AH)(op:AOp)(q:Option Bool):Option (SEnv×AH):=q.bind λq=>if q=true then(Cq E op (Kq N e) H).bind λr=>some (Ib e d r.1,r.2)else some (Ib e d (.tuple []),H)
def sgE(N:Nat)(d:Option Nat)(e:SEnv)(r:Option (AV×AH)):Option (SEnv×AH):=r.bind λr=>some (Ib e d r.1,r.2)
theorem bn8(d:Option Nat)(x:AV):sgE N d e (some (x,H))=some (Ib e d x,H):=qq
theorem cz1(d:Option Nat)(op:AOp):a4e E N ⟨d,none,op⟩ e H=sgE N d e (Cq E op (Kq N e) H):=qq
theorem cz2(d:Option Nat)(g:Nat)(w:Bool)(op:AOp):a4e E N ⟨d,some (g,w),op⟩ e H=sgG E N d e H op (gd (lkE N e g) w):=qq
end
section
variable (E:CallF) (V:Opd->AV) (H:AH)
theorem d0c(c a b:Opd):Cq E (.pick c a b) V H=same ((pickV (V c) (V a) (V b))) H:=Cs _ rfl rfl
theorem d13(z:LA)(p:List (Nat×Nat×Opd)):Cq E (.build z p) V H=same (((D9 V z p).map .agg)) H:=Cs _ rfl rfl
theorem d0j(a:Bool)(n:Nat)(x:Opd):Cq E (.load a n x) V H=same (((Lr H n (V x)).map (Fg a))) H:=Cs _ rfl rfl
theorem d0d(x:Opd):Cq E (.nilchk x) V H=same ((Zm H (V x))) H:=Cs _ rfl rfl
theorem d17(o:BinOp)(x y:Opd):Cq E (.bini o x y) V H=same ((Tb o (V x) (V y))) H:=Cs _ rfl rfl
theorem d16(o:BinOp)(x y:Opd):Cq E (.bins o x y) V H=same ((a4x o (V x) (V y))) H:=Cs _ rfl rfl
theorem d0t(n:Bool)(a:List EK)(x y:Opd):Cq E (.eqs n a x y) V H=same ((a4f H n a (V x) (V y))) H:=Cs _ rfl rfl
theorem d06(o:UnOp)(x:Opd):Cq E (.un o x) V H=same ((Wq o (V x))) H:=Cs _ rfl rfl
theorem d0r(o:Nat)(x:Opd):Cq E (.faddr o x) V H=same ((a0p H o (V x))) H:=Cs _ rfl rfl
theorem d0p(s:Nat)(x i:Opd):Cq E (.iaddr s x i) V H=same ((T0 H s (V x) (V i))) H:=Cs _ rfl rfl
theorem d0l(x:Opd):Cq E (.len false x) V H=same ((U9 H (V x))) H:=Cs _ rfl rfl
theorem d07(n:Nat)(p x:Opd):Cq E (.store n p x) V H=a5x H n (V p) (V x):=qq
theorem d18(s b:Nat)(z:LA)(x y:Opd):Cq E (.append s b z x y) V H=Yl H s b z (V x) (V y):=qq
theorem d0e(x:Opd):Cq E (.mv x) V H=some (V x,H):=qq
theorem d12(f:FuncId)(a:LQ):Cq E (.call f a) V H=E f (a.map V) H:=qq
theorem d14(s l:Nat)(z:LA)(p:List (Nat×Opd)):Cq E (.bslice s l z p) V H=a4t H s l (D9 V (List.replicate l z).flatten (p.map λx=>(x.1*s,s,x.2))):=by
 show E8 (.bslice s l z p) V H=_;unfold E8;simp only[Be,Cw];cases D9 V (List.replicate l z).flatten (p.map λx=>(x.1*s,s,x.2))<;>rfl
end
def b1i(E:CallF)(f:FuncId)(a:LA)(H:AH):Option (AV×AH):=Ri E f a H
def De(op:AOp):Nat:=match op with
 |.append .. =>1
 |_=>0
def Dj(op:AOp):Nat:=match op with
 |.call _ _=>12
 |op=>if Qf op then 1 else 0
def apN:List (Nat×AInstr)->Nat
 |[]=>0
 |i::r=>De i.2.op+apN r
theorem cu9:apN []=0:=qq
theorem b6t(i:Nat)(d:Option Nat)(g:Option (Nat×Bool))(op:AOp)(r:List (Nat×AInstr)):apN ((i,⟨d,g,op⟩)::r)=De op+apN r:=qq
theorem cv0:∀ s:List (Nat×AInstr),(s.filter λi=>match i.2.op with
 |.append .. =>true
 |_=>false).length=apN s
 |[]=>rfl
 |(i,⟨d,g,op⟩)::r=>by
   rw[b6t,<-cv0 r,List.filter_cons]
   grind [De,Nat.add_comm]
theorem cu3:Rj []=0:=qq
theorem cu4(s:List (Nat×AInstr))(l:List (List (Nat×AInstr))):Rj (s::l)=apN s+Rj l:=congrArg (·+Rj l) (cv0 s)
theorem bk5:H6 []=0:=qq
theorem bk6(i:Nat)(d:Option Nat)(g:Option (Nat×Bool))(op:AOp)(r:List (Nat×AInstr)):H6 ((i,⟨d,g,op⟩)::r)=Dj op+H6 r:=qq
theorem c6s(x:Opd):De (.mv x)=0:=qq
theorem c5m(x:Opd):Dj (.mv x)=0:=qq
theorem c6q(c a b:Opd):De (.pick c a b)=0:=qq
theorem c5k(c a b:Opd):Dj (.pick c a b)=0:=qq
theorem c7p(a:LA):De (.alloc a)=0:=qq
theorem c6j(a:LA):Dj (.alloc a)=1:=qq
theorem c7k(x:Opd):De (.box x)=0:=qq
theorem c6e(x:Opd):Dj (.box x)=1:=qq
theorem c7i(zero:LA)(a:List (Nat×Nat×Opd)):De (.build zero a)=0:=qq
theorem c6c(zero:LA)(a:List (Nat×Nat×Opd)):Dj (.build zero a)=0:=qq
theorem c7j(sz len:Nat)(zero:LA)(a:List (Nat×Opd)):De (.bslice sz len zero a)=0:=qq
theorem c6d(sz len:Nat)(zero:LA)(a:List (Nat×Opd)):Dj (.bslice sz len zero a)=1:=qq
theorem c6x(a:Bool)(n:Nat)(x:Opd):De (.load a n x)=0:=qq
theorem c5r(a:Bool)(n:Nat)(x:Opd):Dj (.load a n x)=0:=qq
theorem c6l(n:Nat)(p x:Opd):De (.store n p x)=0:=qq
theorem c5f(n:Nat)(p x:Opd):Dj (.store n p x)=0:=qq
theorem c6r(x:Opd):De (.nilchk x)=0:=qq
theorem c5l(x:Opd):Dj (.nilchk x)=0:=qq
theorem c7m(op:BinOp)(x y:Opd):De (.bini op x y)=0:=qq
theorem c6g(op:BinOp)(x y:Opd):Dj (.bini op x y)=0:=qq
theorem c7l(op:BinOp)(x y:Opd):De (.bins op x y)=0:=qq
theorem c6f(op:BinOp)(x y:Opd):Dj (.bins op x y)=0:=qq
theorem c76(a:Bool)(b:List EK)(x y:Opd):De (.eqs a b x y)=0:=qq
theorem c6k(op:UnOp)(x:Opd):De (.un op x)=0:=qq
theorem c7d(x:Opd):De (.convbs x)=0:=qq
theorem c67(x:Opd):Dj (.convbs x)=0:=qq
theorem c6t(sz a:Nat)(zero:LA)(len cap:Opd):De (.mksl sz a zero len cap)=0:=qq
theorem c5n(sz a:Nat)(zero:LA)(len cap:Opd):Dj (.mksl sz a zero len cap)=1:=qq
theorem c6n(x:Opd)(lo hi:Option Opd):De (.slices x lo hi)=0:=qq
theorem c5h(x:Opd)(lo hi:Option Opd):Dj (.slices x lo hi)=0:=qq
theorem c6o(sz:Nat)(x:Opd)(lo hi:Option Opd):De (.slicel sz x lo hi)=0:=qq
theorem c5i(sz:Nat)(x:Opd)(lo hi:Option Opd):Dj (.slicel sz x lo hi)=0:=qq
theorem c74(off:Nat)(x:Opd):De (.faddr off x)=0:=qq
theorem c5y(off:Nat)(x:Opd):Dj (.faddr off x)=0:=qq
theorem c72(sz:Nat)(x i:Opd):De (.iaddr sz x i)=0:=qq
theorem c5w(sz:Nat)(x i:Opd):Dj (.iaddr sz x i)=0:=qq
theorem c75(x:Opd)(i:Nat):De (.ext x i)=0:=qq
theorem c5z(x:Opd)(i:Nat):Dj (.ext x i)=0:=qq
theorem c6y(a:Bool)(x:Opd):De (.len a x)=0:=qq
theorem c5s(a:Bool)(x:Opd):Dj (.len a x)=0:=qq
theorem c7o(sz a:Nat)(zero:LA)(x y:Opd):De (.append sz a zero x y)=1:=qq
theorem c6i(sz a:Nat)(zero:LA)(x y:Opd):Dj (.append sz a zero x y)=0:=qq
theorem c7h(f:FuncId)(a:LQ):De (.call f a)=0:=qq
theorem c6b(f:FuncId)(a:LQ):Dj (.call f a)=12:=qq
theorem c7g(x:Opd)(a:LQ):De (.calld x a)=0:=qq
theorem c6a(x:Opd)(a:LQ):Dj (.calld x a)=0:=qq
def stG(c:Nat)(H:AH)(n r i j:Nat)(a:LA)(o:AObj):Option LA->OE
 |some e=>if(a.length=n/\j+n<=e.length/\a.all cellA=true)/\r<c then some ([.con r],[.con r],c,U,H.set r (some (o.set i (lay e j a))))else none
 |none=>none
def stF(c:Nat)(H:AH)(n r i j:Nat)(a:LA):Option AObj->OE
 |some o=>stG c H n r i j a o (o[i]?)
 |none=>none
def stE(c:Nat)(H:AH)(n:Nat)(p:AV)(x:Option LA):OE:=match p,x with
 |.ptr r i j tot,some cs=>stF c H n r i j cs (B1 H r tot)
 |_,_=>none
theorem d1c(lk:FuncId->Bool)(E:CallF)(c:Nat)(V:Opd->AV)(H:AH)(n:Nat)(p x:Opd):C7 lk E (.store n p x) c V H=stE c H n (V p) (cellsOf (V x)):=by
 grind [C7,stE,cellsOf,stF,B1,stG]
theorem bj8(c:Nat)(H:AH)(n r i j tot:Nat)(a:LA):stE c H n (.ptr r i j tot) (some a)=stF c H n r i j a (B1 H r tot):=qq
theorem bj7(c:Nat)(H:AH)(n r i j:Nat)(a:LA)(o:AObj):stF c H n r i j a (some o)=stG c H n r i j a o (o[i]?):=qq
theorem bj6(c:Nat)(H:AH)(n r i j:Nat)(a:LA)(o:AObj)(e:LA):stG c H n r i j a o (some e)=if(a.length=n/\j+n<=e.length/\a.all cellA=true)/\r<c then some ([.con r],[.con r],c,U,H.set r (some (o.set i (lay e j a))))else none:=qq
def apR(H:AH)(c sz:Nat)(x:AV):Option (Nat×Nat):=match x with
 |.own r sz' 0 len tot=>if sz'=sz/\len=tot then some (r,len)else none
 |.emp=>(a0s H c).map λr=>(r,0)
 |_=>none
def apG(c:Nat)(H:AH)(sz a:Nat)(R:List Loc)(r len:Nat)(news:List LA):Option AObj->OE
 |some o=>if(news.all (λe=>decide (e.length=sz))=true/\(len+news.length)*a<=1000000000000/\len+news.length<=1000000000)/\r<c then some (.con r::R,[.con r,.len r],c,.own r sz 0 (len+news.length) (len+news.length),H.set r (some (o++news)))else none
 |none=>none
def apD(c:Nat)(H:AH)(sz a:Nat)(R:List Loc)(q:Option (Nat×Nat))(n:Option (List LA)):OE:=match q,n with
 |some (r,len),some news=>apG c H sz a R r len news (B1 H r len)
 |_,_=>none
theorem d2a(lk:FuncId->Bool)(E:CallF)(c:Nat)(V:Opd->AV)(H:AH)(sz b:Nat)(z:LA)(x y:Opd):C7 lk E (.append sz b z x y) c V H=apD c H sz b (Ia (V y)) (apR H c sz (V x)) (E4 H (V y)):=by
 grind [C7,apR,E4,B1,Ia,apD,apG]
theorem cu7(H:AH)(c sz r a len tot:Nat):apR H c sz (.own r a 0 len tot)=if a=sz/\len=tot then some (r,len)else none:=qq
theorem cv3(c:Nat)(H:AH)(sz a:Nat)(R:List Loc)(r len:Nat)(news:List LA):apD c H sz a R (some (r,len)) (some news)=apG c H sz a R r len news (B1 H r len):=qq
theorem cv1(c:Nat)(H:AH)(sz a:Nat)(R:List Loc)(r len:Nat)(news:List LA)(o:AObj):apG c H sz a R r len news (some o)=if(news.all (λe=>decide (e.length=sz))=true/\(len+news.length)*a<=1000000000000/\len+news.length<=1000000000)/\r<c then some (.con r::R,[.con r,.len r],c,.own r sz 0 (len+news.length) (len+news.length),H.set r (some (o++news)))else none:=qq
def crB(H:AH)(x:AV)(o:Option (AV×AH)):Bool->Option (AV×AH)
 |true=>some (x,H)
 |false=>o
def crK(H:AH)(o:Option (AV×AH))(r:Option (AV×AH)):Option (AV×AH):=match r with
 |some (x,[])=>crB H x o (Ab x)
 |_=>o
def crE(E:CallF)(f:FuncId)(H:AH)(a:LA):Bool->Option (AV×AH)
 |true=>crK H (b1i E f a H) (E f a [])
 |false=>b1i E f a H
section
variable (tab:List (Nat×FT)) (orc:CallF) (lk:FuncId->Bool) (sl:List Nat) (N n0:Nat)
theorem cl0:(cx tab orc lk sl N n0).sl=sl:=qq
theorem cl3:(cx tab orc lk sl N n0).N=N:=qq
theorem cl2:(cx tab orc lk sl N n0).lk=lk:=qq
theorem cl4:(cx tab orc lk sl N n0).E=Ev tab orc lk:=qq
end
end
section
def vwO(H:AH)(off len tot:Nat)(o:Option AObj):AV:=match o with
 |some o=>if off+len<=tot then .fz (((o.drop off).take len).map λe=>e.map (Db H 3))else .top
 |none=>.top
def Pg(H:AH)(i j:Nat)(o:Option AObj):AV:=match o with
 |some o=>vwR H j (o[i]?)
 |none=>.top
where vwR (H:AH) (j:Nat):Option LA->AV
 |some e=>if j<=e.length then .fptr ((e.drop j).map (Db H 3))else .top
 |none=>.top
section
variable (H:AH)
theorem b92(r sz off len tot:Nat):Cd H (.own r sz off len tot)=vwO H off len tot (B1 H r tot):=by
 simp only[Cd,Db,vwO];cases B1 H r tot with
 |none=>rfl
 |some o=>simp only[];split<;>rfl
theorem b91(r i j tot:Nat):Cd H (.ptr r i j tot)=Pg H i j (B1 H r tot):=by
 simp only[Cd,Db,Pg];cases B1 H r tot with
 |none=>rfl
 |some o=>
   simp only[Pg.vwR];cases o[i]? with
   |none=>rfl
   |some e=>simp only[];split<;>rfl
theorem b8i(off len tot:Nat)(o:AObj):vwO H off len tot (some o)=if off+len<=tot then .fz (((o.drop off).take len).map λe=>e.map (Db H 3))else .top:=qq
theorem b8h(i j:Nat)(o:AObj):Pg H i j (some o)=Pg.vwR H j (o[i]?):=qq
theorem b8g(j:Nat)(e:LA):Pg.vwR H j (some e)=if j<=e.length then .fptr ((e.drop j).map (Db H 3))else .top:=qq
theorem b99(a:LA):Cd H (.agg a)=.agg (B9 H a):=qq
theorem b93(k:IntKind)(n:Int):Cd H (.int k n)=.int k n:=qq
theorem b90(s:List UInt8):Cd H (.str s)=.str s:=qq
theorem b96(b:Bool):Cd H (.bool b)=.bool b:=qq
theorem b94(a:List LP):Cd H (.fz a)=.fz a:=qq
theorem b95:Cd H .emp=.emp:=qq
theorem b98{α:Type}(p:α->LP)(x:Sl α):Cd H (A4 p x)=A4 p x:=b97 H _ (Ai p x)
theorem b8y:B9 H []=[]:=qq
theorem b8z(x:AV)(a:LA):B9 H (x::a)=Cd H x::B9 H a:=qq
theorem b8s(k:IntKind)(n:Int):Db H 3 (.int k n)=.int k n:=qq
theorem b8p(s:List UInt8):Db H 3 (.str s)=.str s:=qq
theorem b8v(b:Bool):Db H 3 (.bool b)=.bool b:=qq
theorem b8t(a:List LP):Db H 3 (.fz a)=.fz a:=qq
theorem b8u:Db H 3 .emp=.emp:=qq
theorem b0s(p:PV):Db H 3 (emb p)=p:=by cases p<;>rfl
theorem b8w{α:Type}(p:α->LP)(x:Sl α):Db H 3 (A4 p x)=Lt p x:=by cases x<;>rfl
theorem b0r{α:Type}(l:List α)(p:α->LP):(l.map λa=>(p a).map emb).map (λe=>e.map (Db H 3))=l.map p:=by
 rw[f6a];refine f16 λa _=>?_;simp only[Function.comp_apply,f6a]
 conv=>rhs;rw[<-f6r (p a)]
 exact f16 λq _=>b0s H q
end
theorem b7r(r sz o l t:Nat):Ia (.own r sz o l t)=[.con r]:=qq
theorem b7q(r i j t:Nat):Ia (.ptr r i j t)=[.con r]:=qq
theorem b7s(a:List LP):Ia (.fz a)=[]:=qq
theorem b7t(a:LP):Ia (.fptr a)=[]:=qq
theorem b7k(r sz o l t:Nat):Fa (.own r sz o l t)=[.len r]:=qq
theorem b7j(r i j t:Nat):Fa (.ptr r i j t)=[.len r]:=qq
theorem b7l(a:List LP):Fa (.fz a)=[]:=qq
theorem b7m(a:LP):Fa (.fptr a)=[]:=qq
theorem b7i(s:List UInt8):Fa (.str s)=[]:=qq
theorem c88(H:AH)(len sz r k j tot:Nat)(q:IntKind)(n:Int):Zx H len sz (.ptr r k j tot) (.int q n)=if 0<=n/\n<len then(B1 H r tot).map λ_=>.ptr r k (j+n.toNat*sz) tot else none:=qq
def iaG(sz:Nat):Option LP->Option AV
 |some e=>if e.length=sz then some (.fptr e)else none
 |none=>none
theorem c8a(sz:Nat)(e:LP):iaG sz (some e)=if e.length=sz then some (.fptr e)else none:=qq
theorem Gv(H:AH)(sz:Nat)(a:List LP)(k:IntKind)(n:Int):T0 H sz (.fz a) (.int k n)=if 0<=n then iaG sz (a[n.toNat]?)else none:=by
 simp only[T0];split
 ·cases a[n.toNat]?<;>rfl
 ·rfl
def az7(b:Bool)(r:Option Bool):Option Bool:=r.map λr=>b&&r
theorem cw2(b r:Bool):az7 b (some r)=some (b&&r):=qq
theorem cf7:Cu [] [] []=some true:=qq
theorem cf8(c:List EK)(k:IntKind)(a b:Int)(d e:LA):Cu (.i::c) (.int k a::d) (.int k b::e)=az7 (decide (a=b)) (Cu c d e):=by
 rw[Cu,iP rfl];rfl
theorem cf6(c:List EK)(a b:List UInt8)(d f:LA):Cu (.s::c) (.str a::d) (.str b::f)=az7 (decide (a=b)) (Cu c d f):=by
 have e:(a==b)=decide (a=b):=by rw[f4d];simp
 rw[Cu,<-e];rfl
theorem cb6(k:IntKind)(n:Int):Ed (.int k n)=true:=qq
theorem cb4(s:List UInt8):Ed (.str s)=true:=qq
theorem cb7(b:Bool):Ed (.bool b)=true:=qq
theorem cb8(a:LA):Ed (.agg a)=Re a:=qq
theorem cb3(a:LA):Ed (.tuple a)=Re a:=qq
theorem cc3:Re []=true:=qq
theorem cc4(x:AV)(a:LA):Re (x::a)=(Ed x&&Re a):=qq
section
variable (tab:List (Nat×FT)) (orc:CallF) (lk:FuncId->Bool)
noncomputable def vwB (f:FuncId) (a:LA) (H:AH) (x:AV):Bool->Option (AV×AH)
 |true=>some (x,H)
 |false=>K tab orc lk f a H
noncomputable def Gr (f:FuncId) (a:LA) (H:AH) (b:Bool) (r:Option (AV×AH)):Option (AV×AH):=match b,r with
 |true,some (x,_)=>vwB tab orc lk f a H x (Ed x)
 |_,_=>K tab orc lk f a H
theorem Hy{f:FuncId}(c:lk f=true)(a:LA)(H:AH):K tab orc lk f a H=Gr tab orc lk f a H (Aa (B9 H a)) (K tab orc lk f (B9 H a) H):=by
 unfold Gr;cases d:Aa (B9 H a)with
 |false=>rfl
 |true=>
   cases b:K tab orc lk f (B9 H a) H with
   |none=>rfl
   |some r=>
     have⟨x,G⟩:=r;show _=vwB tab orc lk f a H x (Ed x);unfold vwB;cases e:Ed x with
     |false=>rfl
     |true=>
       refine ev7 c ?_ d e;rw[b];have:G=H:=by
        unfold K Ij at b;rw[iP c]at b;split at b
        ·split at b
         ·cases b;rfl
         ·split at b
          ·cases b;rfl
          ·cases b
        ·cases b
       rw[this]
theorem b8j(f:FuncId)(a:LA)(H:AH)(x:AV)(G:AH):Gr tab orc lk f a H true (some (x,G))=vwB tab orc lk f a H x (Ed x):=qq
theorem b8k(f:FuncId)(a:LA)(H:AH)(x:AV):vwB tab orc lk f a H x true=some (x,H):=qq
end
end
section
def clX(o:OE)(D:lN)(c:Nat)(H:AH)(x:AV):Bool->OE
 |true=>some (D.map .con,[],c,x,H)
 |false=>o
def W8(o:OE)(D:lN)(c:Nat)(H:AH)(r:Option (AV×AH)):OE:=match r with
 |some (x,_)=>clX o D c H x (Ed x)
 |none=>o
theorem a4q{lk:FuncId->Bool}{f:FuncId}(d:lk f=true)(E:CallF)(a:LQ)(c:Nat)(V:Opd->AV)(H:AH)(b:LA):Ld lk E f a c V H b false=W8 (Ke lk E f a c V H) (Gy H b) c H (E f (B9 H b) []):=by
 unfold Ld W8 Ke;rw[iP d];cases E f (B9 H b) []with
 |none=>rfl
 |some r=>
   have⟨x,G⟩:=r;simp only[clX];cases Ed x<;>rfl
theorem cn1(o:OE)(D:lN)(c:Nat)(H:AH)(x:AV)(G:AH):W8 o D c H (some (x,G))=clX o D c H x (Ed x):=qq
theorem cn0(o:OE)(D:lN)(c:Nat)(H:AH)(x:AV):clX o D c H x true=some (D.map .con,[],c,x,H):=qq
section
variable (H:AH)
def dpO(H:AH)(off len:Nat):Option AObj->lN
 |some o=>((o.drop off).take len).flatMap λe=>e.flatMap (Ii H 3)
 |none=>[]
theorem cj8(r sz off len tot:Nat):M5 H (.own r sz off len tot)=r::dpO H off len (B1 H r tot):=by
 simp only[M5,Ii,dpO];cases B1 H r tot<;>rfl
theorem ci3(off len:Nat)(o:AObj):dpO H off len (some o)=((o.drop off).take len).flatMap λe=>e.flatMap (Ii H 3):=qq
theorem ck4(a:LA):M5 H (.agg a)=Gy H a:=qq
theorem cj7(s:List UInt8):M5 H (.str s)=[]:=qq
theorem cj4:Gy H []=[]:=qq
theorem cj5(x:AV)(a:LA):Gy H (x::a)=M5 H x++Gy H a:=qq
theorem b5z(k:IntKind)(n:Int):Ii H 3 (.int k n)=[]:=qq
theorem b5y(s:List UInt8):Ii H 3 (.str s)=[]:=qq
end
end
end Go.Proofs.YtddlanlnaenaoaaGreatDoor.Abs
