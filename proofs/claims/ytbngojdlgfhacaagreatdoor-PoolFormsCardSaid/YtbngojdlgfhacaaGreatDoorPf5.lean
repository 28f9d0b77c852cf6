/-
  Part 5 of the proof: no condition. (Parts of the abstract layer, of the program's functions in its form, and of their contracts.)
-/
import Derived.Test.YtbngojdlgfhacaaGreatDoorPf4
import Derived.Test.YtbngojdlgfhacaaGreatDoorPf2
import Derived.Test.YtbngojdlgfhacaaGreatDoorProg
import Derived.Shelf.Spec.SlicesGrow
import Derived.KernelRfl
set_option maxRecDepth 100000
set_option maxHeartbeats 8000000
set_option linter.unusedSimpArgs false
set_option linter.unusedVariables false
set_option linter.unusedSectionVars false
namespace Go.Proofs.YtbngojdlgfhacaaGreatDoor.Abs
theorem J3(r:Nat)(es:List (List PV))(l:List Int):(l.map cI).map (Bm r es)=l.map cI:=S7 _ _ _ λe he=>by obtain⟨p,_,rfl⟩:=e7o.1 he;rfl
theorem ao1(l:List Int):((l.map cI).all λe=>decide (e.length=1))=true:=by
 rw[e5x];intro e he;obtain⟨x,_,rfl⟩:=e7o.1 he;rfl
theorem e1o(l:List Int)(hn:l.length<=1000000):Ev tab A7 A5 114 [.own 0 1 0 l.length l.length] [some (l.map cI)]=some (.own 1 1 0 l.length l.length,[some (l.map cI),some (l.map cI)]):=by
 refine Zc b0e ?_;rw[b05];unfold Fi;simp only[];have hr:=B6 l;have hn':(l.map cI).length<=1000000:=by rw[e6i];exact hn
 rw[if_pos ⟨trivial,trivial,trivial,by simp,ao1 l,hr,hn',.inr trivial⟩]
def Ky(E:List Int):Nat->List Rn
 |0=>[]
 |j+1=>if 0<=E.getD j 0/\E.getD j 0<1073741824 then Cl (Ky E j) ⟨E.getD j 0,E.getD j 0+1⟩else Ky E j
theorem bq8:∀ (l:List Int) (x:Int) (out:List Rn),Oo (l++[x]) out=(if 0<=x/\x<1073741824 then Cl (Oo l out) ⟨x,x+1⟩else Oo l out)
 |[],x,out=>rfl
 |n::l,x,out=>by rw[e62,Oo,Oo,bq8 l x]
theorem b04(E:List Int):∀ j,j<=E.length->Ky E j=Oo (E.take j) []
 |0,_=>rfl
 |j+1,h=>by
   have e:E.take (j+1)=E.take j++[E.getD j 0]:=by
    rw[e5p,e42,e47 om];rfl
   rw[Ky,e,bq8,b04 E j om]
theorem b03(E:List Int):∀ j,(Ky E j).length<=j
 |0=>e7y _
 |j+1=>by
   have ih:=b03 E j;rw[Ky];split
   ·have:=c97 (Ky E j) ⟨E.getD j 0,E.getD j 0+1⟩;omega
   ·omega
theorem a97(l:List Int)(hn:l.length<=10000):Ev tab A7 A5 115 [.own 0 1 0 l.length l.length] [some (l.map cI)]=some (A4 A8 (Ax (Qg l)),[some (l.map cI)]):=by
 refine Cv de6 rfl ?_;have h1:=e1o l om;have h2:=b9l l om;have h3:=c7w (Cr l) (by rw[Q2];omega);rw[Q2]at h3;have hdl:=Vl (Cr l) (Cr l).length (e7y _);rw[e68,Q2]at hdl;have hdd:(dd (Cr l)).length+(l.length-(dd (Cr l)).length)=l.length:=om;have hof:Qg l=Ky (dd (Cr l)) (dd (Cr l)).length:=by
  rw[b04 _ _ (e7y _),e68]
  exact(bq9 l _ (a1l l).1 (a1l l).2).symm
 rw[hof];generalize dd (Cr l)=E at *
 simp(disch:=try exact dq)only[aj9,KQ 114 rfl,KQ 154 rfl,KQ 155 rfl,t0,seval,if_pos,if_neg,Ad,Af,Ah,e6c,Ay,h1,h2,h3,hdd,B6,Bh,e6i,e58,e4n];generalize hr:Ai _ _ _=r;have hZl:(E++List.replicate (l.length-E.length) 0).length=l.length:=by rw[e58,e4n];exact hdd
 have hge:∀ j,j<E.length->((E++List.replicate (l.length-E.length) 0).map cI)[j]?=some [.int .i64 (E.getD j 0)]:=by
  intro j hj;rw[e5j,List.getElem?_append_left hj,e42,e47 hj];rfl
 have hZ:((E++List.replicate (l.length-E.length) 0).map cI).length=l.length:=by rw[e6i];exact hZl
 have hrZ:=B6 (E++List.replicate (l.length-E.length) 0);obtain⟨zp,hZt⟩:∃ zp,Cm ((E++List.replicate (l.length-E.length) 0).map cI)=some zp:=⟨_,Nj _⟩;have hZf:=λr es=>J3 r es (E++List.replicate (l.length-E.length) 0)
 generalize (E++List.replicate (l.length-E.length) 0).map cI=Z at *;refine Bb hr E.length
  (λj=>[.top,.top,oV 2 (Ky E j),.top,.top,.own 1 1 0 E.length l.length,.int .i64 E.length,.int .i64 j,.top])
  (λj=>oH [some (l.map cI),some Z] 0 (Ky E j)) (λj=>True) ?_ ?_ trivial ?_ ?_
 ·rfl
 ·rfl
 ·intro j hj _;have hj':((j:Int)<(E.length:Int)):=om;have u0:(j:Int).toNat=j:=om;have fz':=hge j hj;have hol:=b03 E j;rw[Ky];generalize hx:E.getD j 0=x at *;generalize Ky E j=o at *;have p1:oH [some (l.map cI),some Z] 0 []=[some (l.map cI),some Z]:=rfl;by_cases c:0<=x/\x<1073741824
  ·rw[if_pos c];obtain⟨c1,c2⟩:=c;have w1:oV 2 (Cl o ⟨x,x+1⟩)=.own 2 2 0 (Cl o ⟨x,x+1⟩).length (Cl o ⟨x,x+1⟩).length:=if_neg (an4 _ _);have w2:oH [some (l.map cI),some Z] 0 (Cl o ⟨x,x+1⟩)=[some (l.map cI),some Z,some ((Cl o ⟨x,x+1⟩).map Ey)]:=(by unfold oH;rw[if_neg (an4 _ _)];rfl);rw[w1,w2];by_cases ho:o=[]
   ·subst ho;have hbe:=c98 x (x+1);rw[p1,show oV 2 []=.emp from rfl,show Cl [] (⟨x,x+1⟩:Rn)=[⟨x,x+1⟩]from rfl]
    simp(disch:=try exact dq)only[t0,seval,Ad,Af,Ah,e6c,hbe,c1,c2,hj',u0,fz',hZ,hx,B6,hrZ,Kp,Gy,B8,e6i,e74];exact⟨rfl,rfl⟩
   ·have hbo:=c96 o ho om ⟨x,x+1⟩;have v1:oV 2 o=.own 2 2 0 o.length o.length:=if_neg ho;have v2:oH [some (l.map cI),some Z] 0 o=[some (l.map cI),some Z,some (o.map Ey)]:=(by unfold oH;rw[if_neg ho];rfl);rw[v1,v2]
    simp(disch:=try exact dq)only[KQ 141 rfl,t0,seval,if_pos,if_neg,Ad,Af,Ah,e6c,Ay,hbo,c1,c2,hj',u0,fz',hZ,hx,B6,hrZ,Kp,Gy,B8,e6i,e74];rfl
  ·rw[if_neg c];by_cases ho:o=[]
   ·subst ho;rw[p1,show oV 2 []=.emp from rfl];rcases Int.lt_or_le x 0 with d1|d1
    ·simp(disch:=try exact dq)only[t0,seval,Ad,Af,Ah,e6c,d1,hj',u0,fz',hZ,hx,B6,hrZ,Kp,Gy,B8,e6i,e74];rfl
    ·have d2:¬ x<1073741824:=λh=>c ⟨d1,h⟩
     simp(disch:=try exact dq)only[t0,seval,Ad,Af,Ah,e6c,d1,d2,hj',u0,fz',hZ,hx,B6,hrZ,Kp,Gy,B8,e6i,e74];rfl
   ·have v1:oV 2 o=.own 2 2 0 o.length o.length:=if_neg ho;have v2:oH [some (l.map cI),some Z] 0 o=[some (l.map cI),some Z,some (o.map Ey)]:=(by unfold oH;rw[if_neg ho];rfl);rw[v1,v2];rcases Int.lt_or_le x 0 with d1|d1
    ·simp(disch:=try exact dq)only[t0,seval,Ad,Af,Ah,e6c,d1,hj',u0,fz',hZ,hx,B6,hrZ,Kp,Gy,B8,e6i,e74];rfl
    ·have d2:¬ x<1073741824:=λh=>c ⟨d1,h⟩
     simp(disch:=try exact dq)only[t0,seval,Ad,Af,Ah,e6c,d1,d2,hj',u0,fz',hZ,hx,B6,hrZ,Kp,Gy,B8,e6i,e74];rfl
 ·intro _;unfold Ax;generalize Ky E E.length=o at *;by_cases ho:o=[]
  ·subst ho;have p1:oH [some (l.map cI),some Z] 0 []=[some (l.map cI),some Z]:=rfl;rw[p1,show oV 2 []=.emp from rfl]
   simp(disch:=try exact dq)only[t0,seval,Ad,Af,Ah,e6c,e7f,hZ,hZt,hZf,J3,B6,Bh]
  ·have v1:oV 2 o=.own 2 2 0 o.length o.length:=if_neg ho;have v2:oH [some (l.map cI),some Z] 0 o=[some (l.map cI),some Z,some (o.map Ey)]:=(by unfold oH;rw[if_neg ho];rfl);rw[v1,v2]
   simp(disch:=try exact dq)only[t0,seval,Ad,Af,Ah,e6c,e7f,hZ,hrZ,hZt,hZf,J3,B6,Bh,Kp,Gy,au1,b1d]
theorem d5k:Ev tab A7 A5 115 [.own 0 1 0 0 0] [some []]=some (.emp,[some []]):=a97 [] (by decide)
def Gt(rs:List Nat)(c:Nat)(H:AH):Option (AV×AH)->Option (List Loc×List Loc×Nat×AV×AH)
 |some (x,H1)=>if rs.length<=H1.length then(if(∀ r∈rs,r<c)/\c+(H1.length-rs.length)<=H.length then some ((rs++List.range' c (H1.length-rs.length)).map .con,(rs++List.range' c (H1.length-rs.length)).map .con++(rs++List.range' c (H1.length-rs.length)).map .len,c+(H1.length-rs.length),ren (Au (rs++List.range' c (H1.length-rs.length))) x,C3 H (rs++List.range' c (H1.length-rs.length)) (H1.map λo=>o.map (renO (Au (rs++List.range' c (H1.length-rs.length))))))else none)else none
 |none=>none
def Gh(E:CallF)(f:FuncId)(args:List AV)(c:Nat)(H:AH)(rs:List Nat):Option (List Loc×List Loc×Nat×AV×AH):=
 if rs.Nodup/\(∀ r∈rs,r<H.length)then Gt rs c H (E f (Bw (Aw rs) args) (rs.map λr=>(H.at r).map (renO (Aw rs))))else none
theorem Fu{f:FuncId}(hl:A5 f=false)(E:CallF)(a:List Opd)(c:Nat)(V:Opd->AV)(H:AH)(args:List AV):Jw A5 E f a c V H args false=Gh E f (a.map V) c H (Iy H (H.length*4+40) (C1 (a.map V)) []):=by
 unfold Jw;rw[if_neg (by simp[hl])];unfold Bj Jy Gh Gt;simp only[hl,e52,false_and,if_false];split
 ·rename_i h;split at h
  ·rename_i h2;rw[if_pos h2];split at h
   ·rename_i x H1 h3;rw[h3];split at h
    ·rename_i h4;obtain⟨rfl,rfl,rfl⟩:=(by simpa using h);simp only[if_pos h4]
    ·cases h
   ·cases h
  ·cases h
 ·rename_i h;split at h
  ·rename_i h2;rw[if_pos h2];split at h
   ·rename_i x H1 h3;rw[h3];split at h
    ·cases h
    ·rename_i h4;simp only[if_neg h4]
   ·rename_i h3;rw[h3]
  ·rename_i h2;rw[if_neg h2]
theorem c4g(r:Nat)(es:List (List PV))(q i j t:Nat)(h:q≠r):frz r es (.ptr q i j t)=.ptr q i j t:=by
 simp only[frz,if_neg h]
theorem tx:type_of% @t0/\type_of% @Ad/\type_of% @Af/\type_of% @Ah/\type_of% @c95/\type_of% @Ln/\type_of% @Kn/\type_of% @c4g:=⟨@t0,@Ad,@Af,@Ah,@c95,@Ln,@Kn,@c4g⟩
def b06:CallF:=λ_ _ _=>none
def lkN:FuncId->Bool:=λ_=>false
theorem bo2(P:Program):G9 P b06:=λ_ _ _ _ _ h=>by cases h
mutual
theorem e2l:∀ x:AV,Ci x=[]->Ab x=true
 |.own ..,h=>by simp[Ci]at h
 |.ptr ..,h=>by simp[Ci]at h
 |.agg cs,h=>by simp only[Ci]at h;simp only[Ab];exact a1x cs h
 |.tuple cs,h=>by simp only[Ci]at h;simp only[Ab];exact a1x cs h
 |.fn f first cap,h=>by
   simp only[Ci,List.append_eq_nil_iff]at h;simp only[Ab,a1x first h.1,a1x cap h.2,e7c]
 |.top,_=>by simp[Ab]
 |.bool _,_=>by simp[Ab]
 |.int _ _,_=>by simp[Ab]
 |.str _,_=>by simp[Ab]
 |.nilp,_=>by simp[Ab]
 |.emp,_=>by simp[Ab]
 |.fz _,_=>by simp[Ab]
 |.fptr _,_=>by simp[Ab]
 |.nilfn,_=>by simp[Ab]
theorem a1x:∀ xs:List AV,C1 xs=[]->Aa xs=true
 |[],_=>by simp[Aa]
 |x::xs,h=>by
   simp only[C1,List.append_eq_nil_iff]at h;simp only[Aa,e2l x h.1,a1x xs h.2,e7c]
end
theorem d2g(τ:Nat->Option Nat){o:AObj}(h:refsO (some o)=[]):renO τ o=o:=by
 simp only[refsO,List.flatMap_eq_nil_iff]at h;unfold renO
 conv=>rhs;rw[<-List.map_id o]
 exact e4y λe he=>Hw τ _ (a1x e (h e he))
theorem b35(e:List PV):Aa (e.map emb)=true:=by
 induction e with
 |nil=>rfl
 |cons x l ih=>rw[e75,Aa,ih,an5];rfl
theorem a3r(l:List (List PV)):refsO (some (l.map λe=>e.map emb))=[]:=Gz l (λe=>e.map emb) λe=>Oh _ (b35 e)
theorem a8o(τ:Nat->Option Nat)(l:List (List PV)):renO τ (l.map λe=>e.map emb)=l.map λe=>e.map emb:=Og τ l _ λe=>b35 e
theorem cb7{sz:Nat}(l:List (List PV))(h:(l.all λe=>decide (e.length=sz))=true):((l.map λe=>e.map emb).all λe=>decide (e.length=sz))=true:=by
 rw[List.all_map];rw[e5x]at h ⊢;intro e he
 have:=h e he;simpa using this
def gC(sz b:Nat)(z:List AV):FT:=⟨1,7,[.tmp 1],[0,2],false,(.seq (.reg 0 [y 1 (.emp)]) (.seq (.ifc 3 [] (.op (.eqnil false (.t 0)) [(v 0)]) (.seq (.reg 0 [y 1 (.emp)]) .ret) .skip) (.seq (.reg 5 [m 1 (.op (.append sz b z (.t 0) (.t 1)) [(.op (.bslice sz 0 z []) []),(v 0)])]) .ret)))⟩
theorem e1h{f:FuncId}(sz b:Nat)(z:List AV)(hl:A9 Hp f=some (gC sz b z))(hb:b<=100)(x:List PV)(l:List (List PV))(hs:((x::l).all λe=>decide (e.length=sz))=true)(hn:(x::l).length<=1000000):Ev Hp b06 lkN f [.fz (x::l)] []=some (.own 0 sz 0 (x::l).length (x::l).length,[some ((x::l).map λe=>e.map emb)]):=by
 refine Cv hl rfl ?_;have h1:=cb7 l (by rw[e7a,e5v]at hs;exact hs.2);have h2:decide (x.length=sz)=true:=by rw[e7a,e5v]at hs;exact hs.1
 have h2':x.length=sz:=e5t h2;have h3:=a3r l;rw[e5w]at hn;have h4:(l.length+1)*b<=1000000000000:=e7n (Nat.mul_le_mul hn hb) (by decide);have h5:l.length<=999999999:=om;have h6:C1 (x.map emb)=[]:=Oh _ (b35 x);have h7:=λτ=>a8o τ (x::l);rw[e75]at h7;have h8:=a3r (x::l);rw[e75]at h8
 simp(disch:=try exact dq)only[tx,seval,gC,h1,h2,h2',h3,h4,h5,h6,h7,h8,e78,e7c,eq_self,and_self,if_true]
theorem e1f{f:FuncId}(sz b:Nat)(z:List AV)(hl:A9 Hp f=some (gC sz b z))(hb:b<=100)(x:List AV)(l:AObj)(hs:((x::l).all λe=>decide (e.length=sz))=true)(hr:refsO (some (x::l))=[])(hn:(x::l).length<=1000000):Ev Hp b06 lkN f [.own 0 sz 0 (x::l).length (x::l).length] [some (x::l)]=some (.own 1 sz 0 (x::l).length (x::l).length,[some (x::l),some (x::l)]):=by
 refine Cv hl rfl ?_;have h7:=λτ=>d2g τ hr;have h4:(l.length+1)*b<=1000000000000:=e7n (Nat.mul_le_mul (show l.length+1<=1000000 from hn) hb) (by decide);have h5:l.length<=999999999:=by rw[e5w]at hn;omega
 have h9:List.take (l.length+1) (x::l)=x::l:=e4h (by simp);rw[e7a]at hs
 simp(disch:=try exact dq)only[tx,seval,gC,hs,hr,h4,h5,h7,h9,e78,e7c,eq_self,and_self,if_true]
theorem e1e{f:FuncId}(sz b:Nat)(z:List AV)(hf:(gC sz b z).is Tryz.prog f):C Tryz.prog f [.own 0 sz 0 0 0] [some []] (λy G=>y=.own 1 sz 0 0 0/\G=[some [],some []]):=by
 refine ar7 hf.1 rfl ?_;show W _ _ (ACode.seq (ACode.reg [{ dst:=some 2,guard:=none,op:=AOp.mv (Opd.c AV.emp) }]) (ACode.seq (ACode.seq (ACode.reg [{ dst:=some 3,guard:=none,op:=AOp.mv (Opd.t 0) },{ dst:=some 4,guard:=none,op:=AOp.eqnil false (Opd.t 3) }]) (ACode.cond (Opd.t 4) (ACode.seq (ACode.reg [{ dst:=some 2,guard:=none,op:=AOp.mv (Opd.c AV.emp) }]) ACode.ret) ACode.skip)) (ACode.seq (ACode.reg [{ dst:=some 5,guard:=none,op:=AOp.bslice sz 0 z [] },{ dst:=some 6,guard:=none,op:=AOp.mv (Opd.t 0) },{ dst:=some 7,guard:=none,op:=AOp.append sz b z (Opd.t 5) (Opd.t 6) },{ dst:=some 2,guard:=none,op:=AOp.mv (Opd.t 7) }]) ACode.ret))) (a2q [ARes.tmp 2] _) [.own 0 sz 0 0 0,.top,.top,.top,.top,.top,.top,.top] _
 refine b3j ?_;simp only[Pe,Ph,Pf,Ps,Pr,Pt,Pi,Pg,Ov,Ow,Ou,Ol,Ok,Pn,Kv,Kw,L5,L6,Mb,Ma,M9,N0,Mk,Mr,Mo,Mn,Mz,Mp,Mj,Mx,Mw,Mq,Ms,Mt,Mu,Mv,Mm,Ml,M8,Mi,Mh,Mc,Md,Me,Mf,Mg,Lu,K6,K7,K5,M4,M2,Kk,E8,E7,E9,Kz,L0,Lp,Lq,Lo,Lj,Lr,Lf,Lh,Jq,Lg,L9,Lb,B8,Lk,Po,P3,P4,Od,Kr,e4b,e49,e5u,e5b,e5c,e6i,e5w,e6f,e4w,e6z,e50,e6w,e75,e7k,emb,Du,e6h,e62,e6k,e4x,e4z,e5h,e4d,if_true,if_false,e52,Ea,F8,Fx,Gk,ge_iff_le,e5i,exists_eq_left',e5n,e5e,e76,e6y,e7z,e7r,e7v,e7g,forall_const,e82,e83,e5k,e5r,Nat.reduceAdd,Nat.reduceSub,Nat.reduceMul,Nat.reduceLeDiff,Nat.reduceEqDiff,Nat.reduceBEq,e7w,e7y,Int.reduceLE,Int.reduceLT,Int.reduceEq,Int.reduceNe,Int.reduceAdd,Int.reduceSub,Int.reduceToNat,Int.reduceNeg,↓reduceIte,reduceCtorEq,e5s,e7l,e7p,Pq,M6,M7,Kc,Ke,Kd,M3,L8,Ez,F0,Kf,Kh,Ki,Kg,Lv,Lw,Jt,Lx,Lt,cellsOf,cellA,Kq,Ks,Lc,Ld,e7a,e7s,e78,e77,lay,e58,e6e,e4n,ne_eq,Ch,Pp,L4,L3,L2,Nv,Oj,N3,N7,N2,N4,N5,N6,N1,N8,Aa,Au,e72,e7e,Om];rw[if_neg (Nat.lt_irrefl 0),Nv];intro q;cases q
 ·simp only[Pe,Ph,Pf,Ps,Pr,Pt,Pi,Pg,Ov,Ow,Ou,Ol,Ok,Pn,Kv,Kw,L5,L6,Mb,Ma,M9,N0,Mk,Mr,Mo,Mn,Mz,Mp,Mj,Mx,Mw,Mq,Ms,Mt,Mu,Mv,Mm,Ml,M8,Mi,Mh,Mc,Md,Me,Mf,Mg,Lu,K6,K7,K5,M4,M2,Kk,E8,E7,E9,Kz,L0,Lp,Lq,Lo,Lj,Lr,Lf,Lh,Jq,Lg,L9,Lb,B8,Lk,Po,P3,P4,Od,Kr,e4b,e49,e5u,e5b,e5c,e6i,e5w,e6f,e4w,e6z,e50,e6w,e75,e7k,emb,Du,e6h,e62,e6k,e4x,e4z,e5h,e4d,if_true,if_false,e52,Ea,F8,Fx,Gk,ge_iff_le,e5i,exists_eq_left',e5n,e5e,e76,e6y,e7z,e7r,e7v,e7g,forall_const,e82,e83,e5k,e5r,Nat.reduceAdd,Nat.reduceSub,Nat.reduceMul,Nat.reduceLeDiff,Nat.reduceEqDiff,Nat.reduceBEq,e7w,e7y,Int.reduceLE,Int.reduceLT,Int.reduceEq,Int.reduceNe,Int.reduceAdd,Int.reduceSub,Int.reduceToNat,Int.reduceNeg,↓reduceIte,reduceCtorEq,e5s,e7l,e7p,Pq,M6,M7,Kc,Ke,Kd,M3,L8,Ez,F0,Kf,Kh,Ki,Kg,Lv,Lw,Jt,Lx,Lt,cellsOf,cellA,Kq,Ks,Lc,Ld,e7a,e7s,e78,e77,lay,e58,e6e,e4n,ne_eq,Ch,Pp,L4,L3,L2,Nv,Oj,N3,N7,N2,N4,N5,N6,N1,N8,Aa,Au,e72,e7e,Om,b3x,a66,a6a,Vs,a6b,a6f,e5l,e65,e6k,e6l];have hc:chunks sz 0 ([]:List AV)=[]:=rfl;simp only[hc,e65,e6f,if_true,Vs,e7k,e6l,Pe,Ph,Pf,Ps,Pr,Pt,Pi,Pg,Ov,Ow,Ou,Ol,Ok,Pn,Kv,Kw,L5,L6,Mb,Ma,M9,N0,Mk,Mr,Mo,Mn,Mz,Mp,Mj,Mx,Mw,Mq,Ms,Mt,Mu,Mv,Mm,Ml,M8,Mi,Mh,Mc,Md,Me,Mf,Mg,Lu,K6,K7,K5,M4,M2,Kk,E8,E7,E9,Kz,L0,Lp,Lq,Lo,Lj,Lr,Lf,Lh,Jq,Lg,L9,Lb,B8,Lk,Po,P3,P4,Od,Kr,e4b,e49,e5u,e5b,e5c,e6i,e5w,e6f,e4w,e6z,e50,e6w,e75,e7k,emb,Du,e6h,e62,e6k,e4x,e4z,e5h,e4d,if_true,if_false,e52,Ea,F8,Fx,Gk,ge_iff_le,e5i,exists_eq_left',e5n,e5e,e76,e6y,e7z,e7r,e7v,e7g,forall_const,e82,e83,e5k,e5r,Nat.reduceAdd,Nat.reduceSub,Nat.reduceMul,Nat.reduceLeDiff,Nat.reduceEqDiff,Nat.reduceBEq,e7w,e7y,Int.reduceLE,Int.reduceLT,Int.reduceEq,Int.reduceNe,Int.reduceAdd,Int.reduceSub,Int.reduceToNat,Int.reduceNeg,↓reduceIte,reduceCtorEq,e5s,e7l,e7p,Pq,M6,M7,Kc,Ke,Kd,M3,L8,Ez,F0,Kf,Kh,Ki,Kg,Lv,Lw,Jt,Lx,Lt,cellsOf,cellA,Kq,Ks,Lc,Ld,e7a,e7s,e78,e77,lay,e58,e6e,e4n,ne_eq,Ch,Pp,L4,L3,L2,Nv,Oj,N3,N7,N2,N4,N5,N6,N1,N8,Aa,Au,e72,e7e,Om];exact⟨by omega,_,_,Wk.refl _ _ _,rfl,rfl⟩
 ·simp only[Pe,Ph,Pf,Ps,Pr,Pt,Pi,Pg,Ov,Ow,Ou,Ol,Ok,Pn,Kv,Kw,L5,L6,Mb,Ma,M9,N0,Mk,Mr,Mo,Mn,Mz,Mp,Mj,Mx,Mw,Mq,Ms,Mt,Mu,Mv,Mm,Ml,M8,Mi,Mh,Mc,Md,Me,Mf,Mg,Lu,K6,K7,K5,M4,M2,Kk,E8,E7,E9,Kz,L0,Lp,Lq,Lo,Lj,Lr,Lf,Lh,Jq,Lg,L9,Lb,B8,Lk,Po,P3,P4,Od,Kr,e4b,e49,e5u,e5b,e5c,e6i,e5w,e6f,e4w,e6z,e50,e6w,e75,e7k,emb,Du,e6h,e62,e6k,e4x,e4z,e5h,e4d,if_true,if_false,e52,Ea,F8,Fx,Gk,ge_iff_le,e5i,exists_eq_left',e5n,e5e,e76,e6y,e7z,e7r,e7v,e7g,forall_const,e82,e83,e5k,e5r,Nat.reduceAdd,Nat.reduceSub,Nat.reduceMul,Nat.reduceLeDiff,Nat.reduceEqDiff,Nat.reduceBEq,e7w,e7y,Int.reduceLE,Int.reduceLT,Int.reduceEq,Int.reduceNe,Int.reduceAdd,Int.reduceSub,Int.reduceToNat,Int.reduceNeg,↓reduceIte,reduceCtorEq,e5s,e7l,e7p,Pq,M6,M7,Kc,Ke,Kd,M3,L8,Ez,F0,Kf,Kh,Ki,Kg,Lv,Lw,Jt,Lx,Lt,cellsOf,cellA,Kq,Ks,Lc,Ld,e7a,e7s,e78,e77,lay,e58,e6e,e4n,ne_eq,Ch,Pp,L4,L3,L2,Nv,Oj,N3,N7,N2,N4,N5,N6,N1,N8,Aa,Au,e72,e7e,Om];exact⟨_,_,b3f sz,rfl,rfl⟩
theorem e1i{f:FuncId}(sz b:Nat)(z:List AV)(hf:(gC sz b z).is Tryz.prog f):C Tryz.prog f [.emp] [] (λy G=>y=.own 0 sz 0 0 0/\G=[some []]):=by
 refine ar7 hf.1 rfl ?_;show W _ _ (ACode.seq (ACode.reg [{ dst:=some 2,guard:=none,op:=AOp.mv (Opd.c AV.emp) }]) (ACode.seq (ACode.seq (ACode.reg [{ dst:=some 3,guard:=none,op:=AOp.mv (Opd.t 0) },{ dst:=some 4,guard:=none,op:=AOp.eqnil false (Opd.t 3) }]) (ACode.cond (Opd.t 4) (ACode.seq (ACode.reg [{ dst:=some 2,guard:=none,op:=AOp.mv (Opd.c AV.emp) }]) ACode.ret) ACode.skip)) (ACode.seq (ACode.reg [{ dst:=some 5,guard:=none,op:=AOp.bslice sz 0 z [] },{ dst:=some 6,guard:=none,op:=AOp.mv (Opd.t 0) },{ dst:=some 7,guard:=none,op:=AOp.append sz b z (Opd.t 5) (Opd.t 6) },{ dst:=some 2,guard:=none,op:=AOp.mv (Opd.t 7) }]) ACode.ret))) (a2q [ARes.tmp 2] _) [.emp,.top,.top,.top,.top,.top,.top,.top] _
 refine b3j ?_;simp only[Pe,Ph,Pf,Ps,Pr,Pt,Pi,Pg,Ov,Ow,Ou,Ol,Ok,Pn,Kv,Kw,L5,L6,Mb,Ma,M9,N0,Mk,Mr,Mo,Mn,Mz,Mp,Mj,Mx,Mw,Mq,Ms,Mt,Mu,Mv,Mm,Ml,M8,Mi,Mh,Mc,Md,Me,Mf,Mg,Lu,K6,K7,K5,M4,M2,Kk,E8,E7,E9,Kz,L0,Lp,Lq,Lo,Lj,Lr,Lf,Lh,Jq,Lg,L9,Lb,B8,Lk,Po,P3,P4,Od,Kr,e4b,e49,e5u,e5b,e5c,e6i,e5w,e6f,e4w,e6z,e50,e6w,e75,e7k,emb,Du,e6h,e62,e6k,e4x,e4z,e5h,e4d,if_true,if_false,e52,Ea,F8,Fx,Gk,ge_iff_le,e5i,exists_eq_left',e5n,e5e,e76,e6y,e7z,e7r,e7v,e7g,forall_const,e82,e83,e5k,e5r,Nat.reduceAdd,Nat.reduceSub,Nat.reduceMul,Nat.reduceLeDiff,Nat.reduceEqDiff,Nat.reduceBEq,e7w,e7y,Int.reduceLE,Int.reduceLT,Int.reduceEq,Int.reduceNe,Int.reduceAdd,Int.reduceSub,Int.reduceToNat,Int.reduceNeg,↓reduceIte,reduceCtorEq,e5s,e7l,e7p,Pq,M6,M7,Kc,Ke,Kd,M3,L8,Ez,F0,Kf,Kh,Ki,Kg,Lv,Lw,Jt,Lx,Lt,cellsOf,cellA,Kq,Ks,Lc,Ld,e7a,e7s,e78,e77,lay,e58,e6e,e4n,ne_eq,Ch,Pp,L4,L3,L2,Nv,Oj,N3,N7,N2,N4,N5,N6,N1,N8,Aa,Au,e72,e7e,Om]
 skip
 intro q;cases q
 ·simp only[Pe,Ph,Pf,Ps,Pr,Pt,Pi,Pg,Ov,Ow,Ou,Ol,Ok,Pn,Kv,Kw,L5,L6,Mb,Ma,M9,N0,Mk,Mr,Mo,Mn,Mz,Mp,Mj,Mx,Mw,Mq,Ms,Mt,Mu,Mv,Mm,Ml,M8,Mi,Mh,Mc,Md,Me,Mf,Mg,Lu,K6,K7,K5,M4,M2,Kk,E8,E7,E9,Kz,L0,Lp,Lq,Lo,Lj,Lr,Lf,Lh,Jq,Lg,L9,Lb,B8,Lk,Po,P3,P4,Od,Kr,e4b,e49,e5u,e5b,e5c,e6i,e5w,e6f,e4w,e6z,e50,e6w,e75,e7k,emb,Du,e6h,e62,e6k,e4x,e4z,e5h,e4d,if_true,if_false,e52,Ea,F8,Fx,Gk,ge_iff_le,e5i,exists_eq_left',e5n,e5e,e76,e6y,e7z,e7r,e7v,e7g,forall_const,e82,e83,e5k,e5r,Nat.reduceAdd,Nat.reduceSub,Nat.reduceMul,Nat.reduceLeDiff,Nat.reduceEqDiff,Nat.reduceBEq,e7w,e7y,Int.reduceLE,Int.reduceLT,Int.reduceEq,Int.reduceNe,Int.reduceAdd,Int.reduceSub,Int.reduceToNat,Int.reduceNeg,↓reduceIte,reduceCtorEq,e5s,e7l,e7p,Pq,M6,M7,Kc,Ke,Kd,M3,L8,Ez,F0,Kf,Kh,Ki,Kg,Lv,Lw,Jt,Lx,Lt,cellsOf,cellA,Kq,Ks,Lc,Ld,e7a,e7s,e78,e77,lay,e58,e6e,e4n,ne_eq,Ch,Pp,L4,L3,L2,Nv,Oj,N3,N7,N2,N4,N5,N6,N1,N8,Aa,Au,e72,e7e,Om,b3x,a66,a6a,Vs,a6b,a6f,e5l,e65,e6k,e6l];have hc:chunks sz 0 ([]:List AV)=[]:=rfl;simp only[hc,e65,e6f,if_true,Vs,e7k,e6l,Pe,Ph,Pf,Ps,Pr,Pt,Pi,Pg,Ov,Ow,Ou,Ol,Ok,Pn,Kv,Kw,L5,L6,Mb,Ma,M9,N0,Mk,Mr,Mo,Mn,Mz,Mp,Mj,Mx,Mw,Mq,Ms,Mt,Mu,Mv,Mm,Ml,M8,Mi,Mh,Mc,Md,Me,Mf,Mg,Lu,K6,K7,K5,M4,M2,Kk,E8,E7,E9,Kz,L0,Lp,Lq,Lo,Lj,Lr,Lf,Lh,Jq,Lg,L9,Lb,B8,Lk,Po,P3,P4,Od,Kr,e4b,e49,e5u,e5b,e5c,e6i,e5w,e6f,e4w,e6z,e50,e6w,e75,e7k,emb,Du,e6h,e62,e6k,e4x,e4z,e5h,e4d,if_true,if_false,e52,Ea,F8,Fx,Gk,ge_iff_le,e5i,exists_eq_left',e5n,e5e,e76,e6y,e7z,e7r,e7v,e7g,forall_const,e82,e83,e5k,e5r,Nat.reduceAdd,Nat.reduceSub,Nat.reduceMul,Nat.reduceLeDiff,Nat.reduceEqDiff,Nat.reduceBEq,e7w,e7y,Int.reduceLE,Int.reduceLT,Int.reduceEq,Int.reduceNe,Int.reduceAdd,Int.reduceSub,Int.reduceToNat,Int.reduceNeg,↓reduceIte,reduceCtorEq,e5s,e7l,e7p,Pq,M6,M7,Kc,Ke,Kd,M3,L8,Ez,F0,Kf,Kh,Ki,Kg,Lv,Lw,Jt,Lx,Lt,cellsOf,cellA,Kq,Ks,Lc,Ld,e7a,e7s,e78,e77,lay,e58,e6e,e4n,ne_eq,Ch,Pp,L4,L3,L2,Nv,Oj,N3,N7,N2,N4,N5,N6,N1,N8,Aa,Au,e72,e7e,Om];exact⟨by omega,_,_,Wk.refl _ _ _,rfl,rfl⟩
 ·simp only[Pe,Ph,Pf,Ps,Pr,Pt,Pi,Pg,Ov,Ow,Ou,Ol,Ok,Pn,Kv,Kw,L5,L6,Mb,Ma,M9,N0,Mk,Mr,Mo,Mn,Mz,Mp,Mj,Mx,Mw,Mq,Ms,Mt,Mu,Mv,Mm,Ml,M8,Mi,Mh,Mc,Md,Me,Mf,Mg,Lu,K6,K7,K5,M4,M2,Kk,E8,E7,E9,Kz,L0,Lp,Lq,Lo,Lj,Lr,Lf,Lh,Jq,Lg,L9,Lb,B8,Lk,Po,P3,P4,Od,Kr,e4b,e49,e5u,e5b,e5c,e6i,e5w,e6f,e4w,e6z,e50,e6w,e75,e7k,emb,Du,e6h,e62,e6k,e4x,e4z,e5h,e4d,if_true,if_false,e52,Ea,F8,Fx,Gk,ge_iff_le,e5i,exists_eq_left',e5n,e5e,e76,e6y,e7z,e7r,e7v,e7g,forall_const,e82,e83,e5k,e5r,Nat.reduceAdd,Nat.reduceSub,Nat.reduceMul,Nat.reduceLeDiff,Nat.reduceEqDiff,Nat.reduceBEq,e7w,e7y,Int.reduceLE,Int.reduceLT,Int.reduceEq,Int.reduceNe,Int.reduceAdd,Int.reduceSub,Int.reduceToNat,Int.reduceNeg,↓reduceIte,reduceCtorEq,e5s,e7l,e7p,Pq,M6,M7,Kc,Ke,Kd,M3,L8,Ez,F0,Kf,Kh,Ki,Kg,Lv,Lw,Jt,Lx,Lt,cellsOf,cellA,Kq,Ks,Lc,Ld,e7a,e7s,e78,e77,lay,e58,e6e,e4n,ne_eq,Ch,Pp,L4,L3,L2,Nv,Oj,N3,N7,N2,N4,N5,N6,N1,N8,Aa,Au,e72,e7e,Om];exact⟨_,_,b3f sz,rfl,rfl⟩
theorem e1g{f:FuncId}(sz b:Nat)(z:List AV)(hf:(gC sz b z).is Tryz.prog f):C Tryz.prog f [.fz []] [] (λy G=>y=.own 0 sz 0 0 0/\G=[some []]):=by
 refine ar7 hf.1 rfl ?_;show W _ _ (ACode.seq (ACode.reg [{ dst:=some 2,guard:=none,op:=AOp.mv (Opd.c AV.emp) }]) (ACode.seq (ACode.seq (ACode.reg [{ dst:=some 3,guard:=none,op:=AOp.mv (Opd.t 0) },{ dst:=some 4,guard:=none,op:=AOp.eqnil false (Opd.t 3) }]) (ACode.cond (Opd.t 4) (ACode.seq (ACode.reg [{ dst:=some 2,guard:=none,op:=AOp.mv (Opd.c AV.emp) }]) ACode.ret) ACode.skip)) (ACode.seq (ACode.reg [{ dst:=some 5,guard:=none,op:=AOp.bslice sz 0 z [] },{ dst:=some 6,guard:=none,op:=AOp.mv (Opd.t 0) },{ dst:=some 7,guard:=none,op:=AOp.append sz b z (Opd.t 5) (Opd.t 6) },{ dst:=some 2,guard:=none,op:=AOp.mv (Opd.t 7) }]) ACode.ret))) (a2q [ARes.tmp 2] _) [.fz [],.top,.top,.top,.top,.top,.top,.top] _
 refine b3j ?_;simp only[Pe,Ph,Pf,Ps,Pr,Pt,Pi,Pg,Ov,Ow,Ou,Ol,Ok,Pn,Kv,Kw,L5,L6,Mb,Ma,M9,N0,Mk,Mr,Mo,Mn,Mz,Mp,Mj,Mx,Mw,Mq,Ms,Mt,Mu,Mv,Mm,Ml,M8,Mi,Mh,Mc,Md,Me,Mf,Mg,Lu,K6,K7,K5,M4,M2,Kk,E8,E7,E9,Kz,L0,Lp,Lq,Lo,Lj,Lr,Lf,Lh,Jq,Lg,L9,Lb,B8,Lk,Po,P3,P4,Od,Kr,e4b,e49,e5u,e5b,e5c,e6i,e5w,e6f,e4w,e6z,e50,e6w,e75,e7k,emb,Du,e6h,e62,e6k,e4x,e4z,e5h,e4d,if_true,if_false,e52,Ea,F8,Fx,Gk,ge_iff_le,e5i,exists_eq_left',e5n,e5e,e76,e6y,e7z,e7r,e7v,e7g,forall_const,e82,e83,e5k,e5r,Nat.reduceAdd,Nat.reduceSub,Nat.reduceMul,Nat.reduceLeDiff,Nat.reduceEqDiff,Nat.reduceBEq,e7w,e7y,Int.reduceLE,Int.reduceLT,Int.reduceEq,Int.reduceNe,Int.reduceAdd,Int.reduceSub,Int.reduceToNat,Int.reduceNeg,↓reduceIte,reduceCtorEq,e5s,e7l,e7p,Pq,M6,M7,Kc,Ke,Kd,M3,L8,Ez,F0,Kf,Kh,Ki,Kg,Lv,Lw,Jt,Lx,Lt,cellsOf,cellA,Kq,Ks,Lc,Ld,e7a,e7s,e78,e77,lay,e58,e6e,e4n,ne_eq,Ch,Pp,L4,L3,L2,Nv,Oj,N3,N7,N2,N4,N5,N6,N1,N8,Aa,Au,e72,e7e,Om]
 skip
 intro q;cases q
 ·simp only[Pe,Ph,Pf,Ps,Pr,Pt,Pi,Pg,Ov,Ow,Ou,Ol,Ok,Pn,Kv,Kw,L5,L6,Mb,Ma,M9,N0,Mk,Mr,Mo,Mn,Mz,Mp,Mj,Mx,Mw,Mq,Ms,Mt,Mu,Mv,Mm,Ml,M8,Mi,Mh,Mc,Md,Me,Mf,Mg,Lu,K6,K7,K5,M4,M2,Kk,E8,E7,E9,Kz,L0,Lp,Lq,Lo,Lj,Lr,Lf,Lh,Jq,Lg,L9,Lb,B8,Lk,Po,P3,P4,Od,Kr,e4b,e49,e5u,e5b,e5c,e6i,e5w,e6f,e4w,e6z,e50,e6w,e75,e7k,emb,Du,e6h,e62,e6k,e4x,e4z,e5h,e4d,if_true,if_false,e52,Ea,F8,Fx,Gk,ge_iff_le,e5i,exists_eq_left',e5n,e5e,e76,e6y,e7z,e7r,e7v,e7g,forall_const,e82,e83,e5k,e5r,Nat.reduceAdd,Nat.reduceSub,Nat.reduceMul,Nat.reduceLeDiff,Nat.reduceEqDiff,Nat.reduceBEq,e7w,e7y,Int.reduceLE,Int.reduceLT,Int.reduceEq,Int.reduceNe,Int.reduceAdd,Int.reduceSub,Int.reduceToNat,Int.reduceNeg,↓reduceIte,reduceCtorEq,e5s,e7l,e7p,Pq,M6,M7,Kc,Ke,Kd,M3,L8,Ez,F0,Kf,Kh,Ki,Kg,Lv,Lw,Jt,Lx,Lt,cellsOf,cellA,Kq,Ks,Lc,Ld,e7a,e7s,e78,e77,lay,e58,e6e,e4n,ne_eq,Ch,Pp,L4,L3,L2,Nv,Oj,N3,N7,N2,N4,N5,N6,N1,N8,Aa,Au,e72,e7e,Om,b3x,a66,a6a,Vs,a6b,a6f,e5l,e65,e6k,e6l];have hc:chunks sz 0 ([]:List AV)=[]:=rfl;simp only[hc,e65,e6f,if_true,Vs,e7k,e6l,Pe,Ph,Pf,Ps,Pr,Pt,Pi,Pg,Ov,Ow,Ou,Ol,Ok,Pn,Kv,Kw,L5,L6,Mb,Ma,M9,N0,Mk,Mr,Mo,Mn,Mz,Mp,Mj,Mx,Mw,Mq,Ms,Mt,Mu,Mv,Mm,Ml,M8,Mi,Mh,Mc,Md,Me,Mf,Mg,Lu,K6,K7,K5,M4,M2,Kk,E8,E7,E9,Kz,L0,Lp,Lq,Lo,Lj,Lr,Lf,Lh,Jq,Lg,L9,Lb,B8,Lk,Po,P3,P4,Od,Kr,e4b,e49,e5u,e5b,e5c,e6i,e5w,e6f,e4w,e6z,e50,e6w,e75,e7k,emb,Du,e6h,e62,e6k,e4x,e4z,e5h,e4d,if_true,if_false,e52,Ea,F8,Fx,Gk,ge_iff_le,e5i,exists_eq_left',e5n,e5e,e76,e6y,e7z,e7r,e7v,e7g,forall_const,e82,e83,e5k,e5r,Nat.reduceAdd,Nat.reduceSub,Nat.reduceMul,Nat.reduceLeDiff,Nat.reduceEqDiff,Nat.reduceBEq,e7w,e7y,Int.reduceLE,Int.reduceLT,Int.reduceEq,Int.reduceNe,Int.reduceAdd,Int.reduceSub,Int.reduceToNat,Int.reduceNeg,↓reduceIte,reduceCtorEq,e5s,e7l,e7p,Pq,M6,M7,Kc,Ke,Kd,M3,L8,Ez,F0,Kf,Kh,Ki,Kg,Lv,Lw,Jt,Lx,Lt,cellsOf,cellA,Kq,Ks,Lc,Ld,e7a,e7s,e78,e77,lay,e58,e6e,e4n,ne_eq,Ch,Pp,L4,L3,L2,Nv,Oj,N3,N7,N2,N4,N5,N6,N1,N8,Aa,Au,e72,e7e,Om];exact⟨by omega,_,_,Wk.refl _ _ _,rfl,rfl⟩
 ·simp only[Pe,Ph,Pf,Ps,Pr,Pt,Pi,Pg,Ov,Ow,Ou,Ol,Ok,Pn,Kv,Kw,L5,L6,Mb,Ma,M9,N0,Mk,Mr,Mo,Mn,Mz,Mp,Mj,Mx,Mw,Mq,Ms,Mt,Mu,Mv,Mm,Ml,M8,Mi,Mh,Mc,Md,Me,Mf,Mg,Lu,K6,K7,K5,M4,M2,Kk,E8,E7,E9,Kz,L0,Lp,Lq,Lo,Lj,Lr,Lf,Lh,Jq,Lg,L9,Lb,B8,Lk,Po,P3,P4,Od,Kr,e4b,e49,e5u,e5b,e5c,e6i,e5w,e6f,e4w,e6z,e50,e6w,e75,e7k,emb,Du,e6h,e62,e6k,e4x,e4z,e5h,e4d,if_true,if_false,e52,Ea,F8,Fx,Gk,ge_iff_le,e5i,exists_eq_left',e5n,e5e,e76,e6y,e7z,e7r,e7v,e7g,forall_const,e82,e83,e5k,e5r,Nat.reduceAdd,Nat.reduceSub,Nat.reduceMul,Nat.reduceLeDiff,Nat.reduceEqDiff,Nat.reduceBEq,e7w,e7y,Int.reduceLE,Int.reduceLT,Int.reduceEq,Int.reduceNe,Int.reduceAdd,Int.reduceSub,Int.reduceToNat,Int.reduceNeg,↓reduceIte,reduceCtorEq,e5s,e7l,e7p,Pq,M6,M7,Kc,Ke,Kd,M3,L8,Ez,F0,Kf,Kh,Ki,Kg,Lv,Lw,Jt,Lx,Lt,cellsOf,cellA,Kq,Ks,Lc,Ld,e7a,e7s,e78,e77,lay,e58,e6e,e4n,ne_eq,Ch,Pp,L4,L3,L2,Nv,Oj,N3,N7,N2,N4,N5,N6,N1,N8,Aa,Au,e72,e7e,Om];exact⟨_,_,b3f sz,rfl,rfl⟩
theorem a1q{f:FuncId}(sz b:Nat)(z:List AV)(q:Bool)(hf:(gC sz b z).is Tryz.prog f)(hl:A9 Hp f=some (gC sz b z))(hb:b<=100){args:List AV}{H:AH}{y:AV}{G:AH}(h:Fi sz q f args H=some (y,G)):C Tryz.prog f args H (λy' G'=>y'=y/\G'=G):=by
 unfold Fi at h;split at h
 ·rename_i es;split at h
  ·rename_i hc;cases h
   match es,hc with
   |x::l,hc=>exact ar4 av2 (bo2 _) _ _ _ _ _ (e1h sz b z hl hb x l hc.1 hc.2.1)
   |[],hc=>exact e1g sz b z hf
  ·cases h
 ·split at h
  ·cases h;exact e1i sz b z hf
  ·cases h
 ·rename_i r s n t o;split at h
  ·rename_i hc;obtain⟨rfl,rfl,rfl,rfl,h1,h2,h3,h4⟩:=hc;cases h
   match o,h1,h2,h3,h4 with
   |x::l,h1,h2,h3,h4=>exact ar4 av2 (bo2 _) _ _ _ _ _ (e1f s b z hl hb x l h1 h2 h3)
   |[],h1,h2,h3,h4=>exact e1e s b z hf
  ·cases h
 ·cases h
theorem e1j{args:List AV}{H:AH}{y:AV}{G:AH}(h:Fi 1 true 52 args H=some (y,G)):C Tryz.prog 52 args H (λy' G'=>y'=y/\G'=G):=a1q 1 16 [.str []] true h52 d72 (by decide) h
theorem e1l{args:List AV}{H:AH}{y:AV}{G:AH}(h:Fi 2 true 53 args H=some (y,G)):C Tryz.prog 53 args H (λy' G'=>y'=y/\G'=G):=a1q 2 24 [.int .i64 0,.str []] true h53 d71 (by decide) h
theorem e1k{args:List AV}{H:AH}{y:AV}{G:AH}(h:Fi 2 true 54 args H=some (y,G)):C Tryz.prog 54 args H (λy' G'=>y'=y/\G'=G):=a1q 2 16 [.int .i64 0,.int .i64 0] true h54 d70 (by decide) h
theorem e1q{args:List AV}{H:AH}{y:AV}{G:AH}(h:Fi 5 true 55 args H=some (y,G)):C Tryz.prog 55 args H (λy' G'=>y'=y/\G'=G):=a1q 5 56 [.int .i64 0,.int .i64 0,.int .i64 0,.int .i64 0,.emp] true h55 d6z (by decide) h
theorem e1n{args:List AV}{H:AH}{y:AV}{G:AH}(h:Fi 5 true 56 args H=some (y,G)):C Tryz.prog 56 args H (λy' G'=>y'=y/\G'=G):=a1q 5 56 [.int .i64 0,.int .i64 0,.str [],.str [],.int .i64 0] true h56 d6y (by decide) h
theorem e1p{args:List AV}{H:AH}{y:AV}{G:AH}(h:Fi 1 true 114 args H=some (y,G)):C Tryz.prog 114 args H (λy' G'=>y'=y/\G'=G):=a1q 1 8 [.int .i64 0] true c3v d74 (by decide) h
def a4m(sz:Nat):CallF:=λ_ args H=>match args,H with
 |[.emp,.int .i64 n],[]=>if 0<=n/\n<=1000000 then some (.own 0 sz 0 0 0,[some []])else none
 |_,_=>none
def Uz:CallF:=λf args H=>
 if f=195 then a4m 2 f args H else
  none
theorem b9x{p:PV}{a:List (List PV)}(h:Ht (emb p)=some a):(p=.emp/\a=[])\/p=.fz a:=by
 cases p<;>simp[emb,Ht]at h<;>simp[h]
theorem bt7:∀ e:List PV,(e.map emb).mapM Cw=some e
 |[]=>rfl
 |p::e=>by rw[e75,List.mapM_cons,a7t,bt7 e];rfl
theorem cz9(l:List (List PV)):Cm (l.map λe=>e.map emb)=some l:=by
 have h:=Je (λe:List PV=>e.map emb) (λe=>e) bt7 l
 rwa [List.map_id']at h
theorem c51(L:List (PV×List (List PV)))(i:Nat)(hi:i<L.length):(L.take (i+1)).flatMap (·.2)=(L.take i).flatMap (·.2)++(L.getD i default).2:=by
 rw[Dd hi,List.flatMap_append];simp
theorem e1x(L:List (PV×List (List PV)))(hL:∀ p∈L,Ht (emb p.1)=some p.2)(hn:L.length<=1000000)(hs:((L.flatMap (·.2)).all λe=>decide (e.length=2))=true)(hl:(L.flatMap (·.2)).length<=1000000):Ev Hp Uz lkN 171 [.own 0 1 0 L.length L.length] [some (L.map λp=>[emb p.1])]=some (.fz (L.flatMap (·.2)),[some (L.map λp=>[emb p.1])]):=by
 refine Cv d73 rfl ?_;have hle:∀ i,i<=L.length->((L.take i).flatMap (·.2)).length<=1000000:=by
  intro i hi;have h1:L.flatMap (·.2)=(L.take i).flatMap (·.2)++(L.drop i).flatMap (·.2):=by rw[<-List.flatMap_append,e4p]
  rw[h1,e58]at hl;omega
 have hRr:refsO (some (L.map λp=>[emb p.1]))=[]:=Gz L (λp=>[emb p.1]) λp=>Oh _ (by simp[Aa,an5]);have hRn:∀ τ,renO τ (L.map λp=>[emb p.1])=L.map λp=>[emb p.1]:=λτ=>Og τ L _ λp=>by simp[Aa,an5]
 have hRf:∀ r es,(L.map λp=>[emb p.1]).map (Bm r es)=L.map λp=>[emb p.1]:=λr es=>S7 _ _ _ λe he=>by obtain⟨p,_,rfl⟩:=e7o.1 he;simp[Aa,an5]
 simp(disch:=try exact dq)only[tx,seval,ag0];generalize hr:Ai _ _ _=r;have hz:∀ i,i<=L.length->(((L.take i).flatMap (·.2)).all λe=>decide (e.length=2))=true:=by
  intro i hi;have h1:L.flatMap (·.2)=(L.take i).flatMap (·.2)++(L.drop i).flatMap (·.2):=by rw[<-List.flatMap_append,e4p]
  rw[h1,List.all_append,e5v]at hs;exact hs.1
 refine Bb hr L.length (λi=>[.own 0 1 0 L.length L.length,.top,.int .i64 ((L.take i).flatMap (·.2)).length,.top,.top,.top,.own 0 1 0 L.length L.length,.int .i64 L.length,.int .i64 i,.top,.top,.top,.top,.top,.top]) (λ_=>[some (L.map λp=>[emb p.1])]) (λ_=>True) ?_ rfl trivial ?_ ?_
 ·rfl
 ·intro i hi _;have hi':((i:Int)<(L.length:Int)):=om;have hmem:L.getD i default∈L:=by
   rw[e42,e47 hi];exact e63 _
  have hp:=hL _ hmem;have hg:(L.map λp=>[emb p.1])[i]?=some [emb (L.getD i default).1]:=Ic om _;have h2:=hle (i+1) om;rw[c51 L i hi]at h2 ⊢;generalize L.getD i default=xa at *;obtain⟨x,a⟩:=xa;simp only[]at hp h2 hg ⊢
  generalize (L.take i).flatMap (·.2)=o at *;rw[e58]at h2 ⊢;have hnn:¬ ((o.length:Int)+(a.length:Int)<0):=om;have hq:=b9x hp;rcases hq with ⟨rfl,rfl⟩|rfl
  ·have hg2:(L.map λp=>[emb p.1])[i]?=some [.emp]:=hg;have hnn2:¬ ((o.length:Int)<0):=om
   simp(disch:=try exact dq)only[tx,seval,hi',hg2,hRr,hRn,hnn2,e6i,e74,Int.add_zero,e6f,e7l]
   try rfl
  ·have hg2:(L.map λp=>[emb p.1])[i]?=some [.fz a]:=hg
   simp(disch:=try exact dq)only[tx,seval,hi',hg2,hRr,hRn,hnn,e6i,e74]
   try rfl
 ·intro _;rw[e68];have hgr:Ev Hp Uz lkN 195 [.emp,.int .i64 (L.flatMap (·.2)).length] []=some (.own 0 2 0 0 0,[some []]):=by
   refine Zc (kk) ?_;rw[show Uz 195 [.emp,.int .i64 (L.flatMap (·.2)).length] []=a4m 2 195 [.emp,.int .i64 (L.flatMap (·.2)).length] []from by first|exact if_pos rfl|exact(if_neg (by decide)).trans (if_pos rfl)];unfold a4m;simp only[];rw[if_pos om]
  have hki:=ar3 Hp Uz lkN (f:=195) rfl
  simp(disch:=try exact dq)only[tx,seval,e7f,hRr,hRn,hki,Ay,hgr];generalize hr2:Ai _ _ _=r2;refine Bb hr2 L.length (λi=>[.top,.top,.top,.top,.own 1 2 0 ((L.take i).flatMap (·.2)).length ((L.take i).flatMap (·.2)).length,.top,.top,.top,.top,.top,.top,.own 0 1 0 L.length L.length,.int .i64 L.length,.int .i64 i,.top]) (λi=>[some (L.map λp=>[emb p.1]),some (((L.take i).flatMap (·.2)).map λe=>e.map emb)]) (λ_=>True) ?_ ?_ trivial ?_ ?_
  ·rfl
  ·rfl
  ·intro i hi _;have hi':((i:Int)<(L.length:Int)):=om;have hmem:L.getD i default∈L:=by
    rw[e42,e47 hi];exact e63 _
   have hp:=hL _ hmem;have hg:(L.map λp=>[emb p.1])[i]?=some [emb (L.getD i default).1]:=Ic om _;have h2:=hle (i+1) om;have h3:=hz (i+1) om;rw[c51 L i hi]at h2 h3 ⊢;generalize L.getD i default=xa at *;obtain⟨x,a⟩:=xa;simp only[]at hp h2 h3 hg ⊢
   generalize (L.take i).flatMap (·.2)=o at *;rw[List.all_append,e5v]at h3;have h4:=cb7 a h3.2;rw[e58]at h2;have hq:=b9x hp;rcases hq with ⟨rfl,rfl⟩|rfl
   ·have hg2:(L.map λp=>[emb p.1])[i]?=some [.emp]:=hg
    simp(disch:=try exact dq)only[tx,seval,hi',hg2,hRr,hRn,a3r,a8o,e6i,e74,e6l]
    try rfl
   ·have hg2:(L.map λp=>[emb p.1])[i]?=some [.fz a]:=hg;have hap:(o.map λe=>e.map emb)++(a.map λe=>e.map emb)=(o++a).map λe=>e.map emb:=by rw[e6o]
    simp(disch:=try exact dq)only[tx,seval,hi',hg2,hRr,hRn,h4,hap,a3r,a8o,e6i,e58,e74]
    try rfl
  ·intro _;rw[e68]
   simp(disch:=try exact dq)only[tx,seval,e7f,hRr,hRn,hRf,cz9,a3r,a8o,e6i];rw[e68]

theorem c2u:∀ {o:AObj} {l:List Int},Xq o=some l->o=l.map λn=>[.int .i64 n]
 |[],l,h=>by cases h;rfl
 |e::es,l,h=>by
   match e,h with
   |[.int .i64 n],h=>
     rw[Xq]at h;obtain⟨m',hm,rfl⟩:=e4g.1 h;rw[e75,<-c2u hm]
theorem bm5:∀ {l m:List Int},l.Pairwise (·<=·)->m.Pairwise (·<=·)->l.Perm m->l=m
 |[],m,_,_,h=>(List.nil_perm.1 h).symm
 |a::l,[],_,_,h=>by have:=h.length_eq;simp at this
 |a::l,b::m,h1,h2,h=>by
   have ha:a∈b::m:=h.subset (e5a ..);have hb:b∈a::l:=h.symm.subset (e5a ..);have hba:b<=a:=by
    rcases e79.1 ha with rfl|h'
    ·exact e80 _
    ·exact(e5d.1 h2).1 a h'
   have hab:a<=b:=by
    rcases e79.1 hb with rfl|h'
    ·exact e80 _
    ·exact(e5d.1 h1).1 b h'
   obtain rfl:a=b:=Int.le_antisymm hab hba;rw[bm5 (e5d.1 h1).2 (e5d.1 h2).2 (List.perm_cons a |>.1 h)]
theorem b0t(n:Int):∀ l:List Int,(Ib n l).Perm (n::l)
 |[]=>List.Perm.refl _
 |x::l=>by
   rw[Ib];split
   ·exact List.Perm.refl _
   ·exact((b0t n l).cons x).trans (List.Perm.swap n x l)
theorem c2x(n:Int):∀ {l:List Int},l.Pairwise (·<=·)->(Ib n l).Pairwise (·<=·)
 |[],_=>by simp[Ib]
 |x::l,h=>by
   rw[Ib];obtain⟨h1,h2⟩:=e5d.1 h;split
   ·rename_i c;exact e5d.2 ⟨λy hy=>by
     rcases e79.1 hy with rfl|hy
     ·exact c
     ·exact Int.le_trans c (h1 y hy),h⟩
   ·rename_i c;exact e5d.2 ⟨λy hy=>by
     rcases e79.1 ((b0t n l).subset hy)with rfl|hy
     ·omega
     ·exact h1 y hy,c2x n h2⟩
theorem aw6:∀ l:List Int,(Cr l).Perm l
 |[]=>List.Perm.refl _
 |x::l=>(b0t x (Cr l)).trans ((aw6 l).cons x)
theorem b9n:∀ l:List Int,(Cr l).Pairwise (·<=·)
 |[]=>List.Pairwise.nil
 |x::l=>c2x x (b9n l)
theorem d68(l:List Int):(l.mergeSort λx y=>decide (x<=y))=Cr l:=by
 refine bm5 ?_ (b9n l) ((List.mergeSort_perm l _).trans (aw6 l).symm)
 have:=List.pairwise_mergeSort (le:=λx y:Int=>decide (x<=y)) (λa b c h1 h2=>by simp at *;omega) (λa b=>by simp;omega) l;exact this.imp λh=>by simpa using h
theorem d6m{w:World}{b:Nat}{cells:Array Value}{t:TypeId}{q:Nat×Nat}(f:Array Value->Array Value)(h:w.heap[b]?=some (.cells cells t q)):Sort.mapBlock w b f=Fe w b (.cells (f cells) t q):=by
 unfold Sort.mapBlock Fe
 congr 1
 apply Array.ext_getElem?;intro k;rw[Array.getElem?_modify,e3y];by_cases hk:b=k
 ·subst hk;rw[if_pos rfl,if_pos rfl,h,if_pos (Sb h)];rfl
 ·rw[if_neg hk,if_neg hk]
theorem bj9(d:Array Int)(cells:Array Value)(i:Nat):(Sort.putCells (Value.int .i64) 0 d cells)[i]?=cells[i]?.map λx=>if 0<=i/\i<0+d.size then Value.int .i64 d[i-0]! else x:=by
 unfold Sort.putCells;rw[Array.getElem?_mapIdx]
theorem d1b{args:List AV}{H:AH}{y:AV}{G:AH}(h:a3b 154 args H=some (y,G)):C Tryz.prog 154 args H (λy' G'=>y'=y/\G'=G):=by
 have hen:ar6 Tryz.prog 154:=⟨Tryz.f154,Tryz.func154,kk,kk⟩;have ht:∀ E,Rep E (.tuple []) (.tuple #[]):=λE=>.tuple [] #[] rfl λi c v hc=>by cases i<;>cases hc
 unfold a3b at h;split at h
 ·cases h;refine⟨hen,λE w vs hs hr=>?_⟩;obtain⟨v,rfl,h1⟩:=hr.one;obtain⟨a,rfl⟩:=Hg h1
  refine(Tryz.slices_Sort_int_none a 0 w).mono ?_;rintro e w' ⟨rfl,rfl⟩;exact⟨_,E,_,_,rfl,⟨rfl,rfl⟩,LeN.refl _ _,hs,ht E⟩
 ·rename_i r n t o;split at h
  ·rename_i hc;obtain⟨rfl,rfl,rfl,hlen⟩:=hc;obtain⟨l,hl,hy⟩:=e4g.1 h;cases hy;have ho:=c2u hl;subst ho;rw[e6i]at hlen;refine⟨hen,λE w vs hs hr=>?_⟩;obtain⟨v,rfl,h1⟩:=hr.one;have hlive:∀ x,E.ρ 0=some x->x.t=(l.map λn=>[AV.int .i64 n]).length:=by
    intro x hx;rcases hs.obj 0 _ rfl with h'|⟨x',hx',hl'⟩
    ·rw[h'.2]at hx;cases hx
    ·rw[hx']at hx;cases hx;exact hl'.t
   rcases Iu h1 hlive with ⟨a,_,h0,_,rfl⟩|⟨x,cap,hx,hsz,_,hcap,_,hfit,rfl⟩
   ·have hl0:l=[]:=(by cases l with|nil=>rfl|cons _ _=>simp at h0);subst hl0
    refine(Tryz.slices_Sort_int_none a 0 w).mono ?_;rintro e w' ⟨rfl,rfl⟩;exact⟨_,E,_,_,rfl,⟨rfl,rfl⟩,LeN.refl _ _,hs,ht E⟩
   ·obtain⟨x',hx',hli⟩:∃ x',E.ρ 0=some x'/\Lies E w (l.map λn=>[AV.int .i64 n]) x':=by
     rcases hs.obj 0 _ rfl with h'|h'
     ·rw[h'.2]at hx;cases hx
     ·exact h'
    rw[hx]at hx';cases hx';obtain⟨cells,t,q,hw,hn,hq,hone,hrow⟩:=hli.blk;have hfit2:=hli.fits;rw[hsz,e6i,Nat.mul_one]at hfit2;have hcell:∀ j,j<l.length->cells[j]?=some (.int .i64 (l.getD j 0)):=by
     intro j hj;have hlt:j<cells.size:=om;have h2:=hrow j [.int .i64 (l.getD j 0)] 0 (.int .i64 (l.getD j 0)) cells[j] (by rw[e5j,e42,e47 hj];rfl) rfl (by rw[hsz,Nat.mul_one,e7l];exact e44 hlt);rw[e44 hlt,Ec h2]
    have hH:Sort.Holds (Value.int .i64) w x.b 0 l.toArray:=by
     intro j hj;rw[List.size_toArray]at hj;constructor
     ·show World.cell? w ⟨x.b,0+j,none⟩=_;simp only[World.cell?,hw,e7p];rw[if_neg (by simp),hcell j hj]
      congr 2
      rw[List.getElem!_toArray];simp[e42,List.getElem!_eq_getElem?_getD]
     ·show World.frozen? w ⟨x.b,0+j,none⟩=false;obtain⟨q1,q2⟩:=q;simp only[World.frozen?,hw,e7p];rcases hq with h0|h0
      ·cases h0;simp
      ·simp only[Bool.and_eq_false_iff,e4d];left;simp only at h0;omega
    rw[e6i];have key:=Tryz.slices_Sort_int x.b 0 cap l w hH (Sb hw) om;rw[Nat.zero_mul];refine key.mono ?_;rintro e w' ⟨rfl,n,os,rfl⟩;rw[d68];have hsd:Sim E (Sort.ahead w n) [some (l.map λn=>[AV.int .i64 n])]:=hs.drawn _;have hwd:(Sort.ahead w n).heap[x.b]?=some (.cells cells t q):=hw;have hsl:(Cr l).length=l.length:=(aw6 l).length_eq;have hwr:=hsd.write (r:=0) (o':=(Cr l).map λn=>[AV.int .i64 n]) rfl hx (Sort.putCells (Value.int .i64) 0 (Cr l).toArray cells) t q (by simp[Sort.putCells,hn]) hq (by simp[hsl]) (by intro e he;obtain⟨z,_,rfl⟩:=e7o.1 he;exact hsz.symm) (by simp[hsl,hsz];omega) ?_ ?_
    ·obtain⟨hle,hsim⟩:=hwr;have e2:Sort.putRow (Value.int .i64) (Sort.ahead w n) x.b 0 (Cr l).toArray=Fe (Sort.ahead w n) x.b (.cells (Sort.putCells (Value.int .i64) 0 (Cr l).toArray cells) t q):=d6m _ hwd;refine⟨_,_,_,_,rfl,⟨rfl,rfl⟩,hle.toN _,?_,ht _⟩;rw[e2];refine hsim.below ⟨rfl,rfl,rfl,?_,λk hk=>?_⟩
     ·show _<=((Fe _ _ _).heap++os).size;rw[Array.size_append];omega
     ·show((Fe _ _ _).heap++os)[k]?=_;exact e41 hk
    ·intro i v hv;rw[bj9]at hv;obtain⟨u,hu,rfl⟩:=e4g.1 hv;split
     ·rfl
     ·exact hone i u hu
    ·intro i e k c v he hk hv;rw[hsz]at hv;rw[e5j]at he;obtain⟨z,hz,rfl⟩:=e4g.1 he;have hi:i<(Cr l).length:=by
      apply e45;intro hc;rw[e4j om]at hz;cases hz
     match k,hk with
     |0,hk=>
       cases hk;rw[Nat.mul_one,e7l,bj9]at hv;obtain⟨u,hu,rfl⟩:=e4g.1 hv;rw[if_pos (by rw[List.size_toArray];omega)];have e1:(Cr l).toArray[i-0]! =z:=by
        rw[e7m,List.getElem!_toArray,List.getElem!_eq_getElem?_getD,hz];rfl
       rw[e1];exact .pure (x:=.int _ _) (.int _ _)
     |k+1,hk=>cases hk
  ·cases h
 ·cases h
theorem b9w{x:AV}{a:List (List PV)}(h:Ht x=some a):∃ p:PV,x=emb p:=by
 cases x<;>simp[Ht]at h
 ·exact⟨.emp,rfl⟩
 ·exact⟨.fz _,rfl⟩
theorem e1d(hG:G9 Tryz.prog Uz){args:List AV}{H:AH}{y:AV}{G:AH}(h:a5y 2 171 args H=some (y,G)):C Tryz.prog 171 args H (λy' G'=>y'=y/\G'=G):=by
 unfold a5y at h;split at h
 ·rename_i x z;obtain⟨a,ha,h⟩:=e4c.1 h;obtain⟨b,hb,h⟩:=e4c.1 h;split at h
  ·rename_i hc;cases h;obtain⟨p,rfl⟩:=b9w ha;obtain⟨q,rfl⟩:=b9w hb;have e:=e1x [(p,a),(q,b)] (by intro r hr;rcases e79.1 hr with rfl|hr;exact ha;rw[e59.1 hr];exact hb) (by show 2<=1000000;omega) (by simpa using hc.1) (by simpa using hc.2);have e2:([(p,a),(q,b)]:List (PV×List (List PV))).flatMap (·.2)=a++b:=(by simp);rw[e2]at e;exact ar4 av2 hG _ _ _ _ _ e
  ·cases h
 ·cases h
theorem d41(hG:G9 Tryz.prog Uz)(hR:∀ args H y G,a05 132 args H=some (y,G)->C Tryz.prog 132 args H (λy' G'=>y'=y/\G'=G)):G9 Tryz.prog A7:=by
 intro f args H x H' h;unfold A7 at h;by_cases e:f=98
 ·rw[if_pos e]at h;subst e;exact dg0 h
 rw[if_neg e]at h;by_cases e:f=71
 ·rw[if_pos e]at h;subst e;exact d27 h
 rw[if_neg e]at h;by_cases e:f=210
 ·rw[if_pos e]at h;subst e;exact dh0 h
 rw[if_neg e]at h;by_cases e:f=213
 ·rw[if_pos e]at h;subst e;exact dg2 h
 rw[if_neg e]at h;by_cases e:f=52
 ·rw[if_pos e]at h;subst e;exact e1j h
 rw[if_neg e]at h;by_cases e:f=53
 ·rw[if_pos e]at h;subst e;exact e1l h
 rw[if_neg e]at h;by_cases e:f=54
 ·rw[if_pos e]at h;subst e;exact e1k h
 rw[if_neg e]at h;by_cases e:f=55
 ·rw[if_pos e]at h;subst e;exact e1q h
 rw[if_neg e]at h;by_cases e:f=56
 ·rw[if_pos e]at h;subst e;exact e1n h
 rw[if_neg e]at h;by_cases e:f=114
 ·rw[if_pos e]at h;subst e;exact e1p h
 rw[if_neg e]at h;by_cases e:f=171
 ·rw[if_pos e]at h;subst e;exact e1d hG h
 rw[if_neg e]at h;by_cases e:f=154
 ·rw[if_pos e]at h;subst e;exact d1b h
 rw[if_neg e]at h;by_cases e:f=132
 ·rw[if_pos e]at h;subst e;exact hR _ _ _ _ h
 rw[if_neg e]at h;cases h
end Go.Proofs.YtbngojdlgfhacaaGreatDoor.Abs
section
namespace Go.Proofs
open Go.Shelf
def Tryz.growR_ren:Go.Shelf.Ren:=⟨fun|4=>195|n=>n,fun|22=>34|25=>55|3=>3|4=>4|9=>9|20=>20|0=>0|2=>3|n=>n,fun|n=>n⟩
theorem Tryz.growR:Go.Proofs.Lays8.n4 Tryz.prog Tryz.growR_ren:={
 mixed:=by kernel_rfl
 f4:=⟨Tryz.f195.name,by decide,Tryz.func195.trans (congrArg some (by kernel_rfl))⟩
 t0:=Tryz.underlying0
 a0:=Tryz.isAgg0
 z0:=Tryz.sizeOf0
 v0:=Tryz.zeroValue0
 t3:=Tryz.underlying3
 a3:=Tryz.isAgg3
 z3:=Tryz.sizeOf3
 v3:=Tryz.zeroValue3
 t4:=Tryz.underlying4
 a4:=Tryz.isAgg4
 z4:=Tryz.sizeOf4
 v4:=Tryz.zeroValue4
 t9:=Tryz.underlying9
 a9:=Tryz.isAgg9
 z9:=Tryz.sizeOf9
 v9:=Tryz.zeroValue9
 t20:=Tryz.underlying20
 a20:=Tryz.isAgg20
 z20:=Tryz.sizeOf20
 v20:=Tryz.zeroValue20
 t22:=Tryz.underlying34
 a22:=Tryz.isAgg34
 z22:=Tryz.sizeOf34
 v22:=Tryz.zeroValue34 }
end Go.Proofs
end
namespace Go.Proofs.YtbngojdlgfhacaaGreatDoor.Abs
theorem dg7:(Tryz.prog.info? (Tryz.growR_ren.t 25)).map (λi=>(i.zero.map (λz=>z.cells),i.size,i.bytes))=some (some #[.int .i64 0,.int .i64 0],2,16):=kk
theorem dx7{args:List AV}{H:AH}{y:AV}{G:AH}(h:a4m 2 195 args H=some (y,G)):C Tryz.prog 195 args H (λy' G'=>y'=y/\G'=G):=by
 unfold a4m at h;split at h
 ·rename_i n;split at h
  ·rename_i hc;cases h;obtain⟨k,rfl⟩:∃ k:Nat,n=(k:Int):=⟨n.toNat,by omega⟩;obtain⟨i0,hi0,hi1⟩:=e4g.1 dg7;simp only[Prod.mk.injEq]at hi1;obtain⟨hz,hsz,hby⟩:=hi1;obtain⟨z,hz0,hzc⟩:=e4g.1 hz;refine⟨⟨Tryz.f195,Tryz.func195,kk,kk⟩,λE w vs hs hr=>?_⟩;obtain⟨v,u,rfl,h1,h2⟩:=hr.two;obtain⟨a,rfl⟩:=Hg h1;rw[Ec h2];by_cases k0:k=0
   ·subst k0
    refine(Any8.slices_Grow_room Tryz.growR a 0 0 0 w (e7y _) om om (e7y _)).mono ?_;rintro e w' ⟨rfl,rfl⟩;exact⟨_,E,_,_,rfl,⟨rfl,rfl⟩,LeN.refl _ _,hs.newEmpty,.own0 _ _ _⟩
   ·refine(Any8.slices_Grow_grow Tryz.growR i0 z hi0 hz0 om a 0 0 k [] w (e7y _) om (by rw[hby];omega) om (by simp) (λ_=>rfl) (λ_ _ j v hv=>by simp at hv)).mono ?_;rintro e w' ⟨rfl,rfl⟩;generalize grownCap w (0+k) 0 (Tryz.growR_ren.t 25)=cap;have hsd:Sim E w.drew []:=hs.drawn (w.drawn+1);have hR:RepL E [.int .i64 0,.int .i64 0] z.cells:=by
     rw[hzc];refine⟨rfl,λi x u hx hu=>?_⟩
     match i,hx,hu with
     |0,hx,hu=>cases hx;cases hu;exact .pure (x:=.int _ _) (.int _ _)
     |1,hx,hu=>cases hx;cases hu;exact .pure (x:=.int _ _) (.int _ _)
     |i+2,hx,hu=>simp at hx
    have hal:([.int .i64 0,.int .i64 0]:List AV).all cellA=true:=rfl;obtain⟨hle,hsim⟩:=hsd.new [] 2 ([].toArray++Builtin.zeroCells z.cells (0+k-0)++Builtin.zeroCells z.cells (cap-(0+k))) (Tryz.growR_ren.t 25) (0,0) (by decide) (.inl rfl) (λe he=>by cases he) (by simp) (Rv (Rv (λi v hv=>by simp at hv) (Sh hR hal _)) (Sh hR hal _)) (λi e k c v hi=>by simp at hi);refine⟨_,_,_,_,rfl,⟨rfl,rfl⟩,hle.toN _,hsim,?_⟩;exact Rep.own 0 2 0 0 0 cap _ (Env.with_same _ _ _) rfl rfl (e7y _) (e7w _) (e7w _) (by
     have hz6:z.cells.size=2:=(by rw[hzc];rfl);simp only[Array.size_append,size_zeroCells,hz6];simp;omega)
  ·cases h
 ·cases h
theorem d42:G9 Tryz.prog Uz:=by
 intro f args H x H' h;unfold Uz at h;by_cases e:f=195
 ·rw[if_pos e]at h;subst e;exact dx7 h
 rw[if_neg e]at h;cases h
def Iq(o:Option (List Rn×Bytes)):AV:=match o with
 |some (l,r)=>.tuple [A4 A8 (Ax l),.str r,.bool true]
 |none=>.tuple [.emp,.str [],.bool false]
def Na(s:Bytes)(j:Nat):List Int:=((List.range j).filter (Qv s)).map λi:Nat=>14+(i:Int)
theorem c9r(s:Bytes)(j:Nat):Na s (j+1)=if Qv s j=true then Na s j++[14+(j:Int)]else Na s j:=by
 unfold Na;rw[List.range_succ,List.filter_append,e6o];by_cases h:Qv s j=true
 ·rw[if_pos h,List.filter_cons_of_pos h];rfl
 ·rw[if_neg h,List.filter_cons_of_neg h];simp
theorem c9s(s:Bytes)(j:Nat):(Na s j).length<=j:=by
 unfold Na;rw[e6i];exact e7n (List.length_filter_le _ _) (by simp)
theorem c9t(s:Bytes):∀ (m k:Nat),(∀ i,i<m->Qv s i=true->i<k)->k<=m->Na s m=Na s k
 |0,k,_,h=>by have:k=0:=om
              rw[this]
 |m+1,k,hb,h=>by
   rcases e7h k (m+1)with h1|h1
   ·rw[c9r,if_neg (λhm=>by have:=hb m om hm;omega),c9t s m k (λi hi=>hb i om) om]
   ·rw[show k=m+1 by omega]
theorem cy7:∀ (a:_root_.Fin 256) (k:_root_.Fin 8),IntKind.u8.wrap ((BitVec.ofInt IntKind.u8.bits (((a.val:Nat):Int).fdiv (2 ^ (min k.val IntKind.u8.bits))) &&& BitVec.ofInt IntKind.u8.bits 1).toNat:Int)=if a.val.testBit k.val=true then 1 else 0:=by decide +kernel
theorem e26(s:Bytes)(j:Nat):IntKind.u8.wrap ((BitVec.ofInt IntKind.u8.bits (((s.getD (j/8) 0).toNat:Int).fdiv (2 ^ (min (j%8) IntKind.u8.bits))) &&& BitVec.ofInt IntKind.u8.bits 1).toNat:Int)=if Qv s j=true then 1 else 0:=
 cy7 ⟨(s.getD (j/8) 0).toNat,(s.getD (j/8) 0).toNat_lt⟩ ⟨j%8,Nat.mod_lt _ om⟩
theorem Kj(n:Int)(hn:n<=100000)(s:Bytes)(hs:s.length<=1000000)(H:AH):K tab A7 A5 89 [.int .i64 n,.str s] H=some (Iq (Dh n s),H):=by
 refine Ae l89 rfl rfl (by unfold Iq;split<;>simp[Ab,Aa,Ak]) ?_ H;have h1:=λH=>b9p (orc:=A7) (lk:=A5) n H;by_cases c:Ei n=true
 ·have hb:40<=n/\n<=240:=by unfold Ei at c;simpa using c
  have h2:=λH=>b9o (orc:=A7) (lk:=A5) n om om H;rw[c]at h1;by_cases c2:(s.length:Int)<(n+7)/8
  ·have e:Dh n s=none:=by
    unfold Dh;rw[if_neg];rintro⟨_,h,_⟩;omega
   rw[e]
   simp(disch:=try exact dq)only[tx,seval,g89,h1,h2,c2];rfl
  ·simp(disch:=try exact dq)only[tx,seval,g89,h1,h2,c2,e74];generalize hr:Ai _ _ _=r;refine Bb hr (8*((n.toNat+7)/8))
    (λj=>[.int .i64 n,.str s,.top,.top,.top,.own 0 1 0 (Na s j).length (Na s j).length,.top,.int .i64 (8*((n+7)/8)),.int .i64 j,.top])
    (λj=>[some ((Na s j).map cI)]) (λj=>∀ i,i<j->Qv s i=true->i<n.toNat) ?_ ?_ ?_ ?_ ?_
   ·rfl
   ·rfl
   ·exact λi h=>absurd h (e6r i)
   ·intro j hj hI;have hj':((j:Int)<8*((n+7)/8)):=om;have hg:((j/8:Nat):Int)<s.length:=om;have hl:=c9s s j;rw[c9r];generalize Na s j=o at *;have q1:(j:Int).tdiv 8=((j/8:Nat):Int):=(Int.ofNat_tdiv j 8).symm;have q2:(j:Int).tmod 8=((j%8:Nat):Int):=(Int.ofNat_tmod j 8).symm;have q3:((j/8:Nat):Int).toNat=j/8:=e5s _;have q4:((j%8:Nat):Int).toNat=j%8:=e5s _;have hb8:=e26 s j
    simp(disch:=try exact dq)only[tx,seval,hj',e74,B6,q1,q2,q3,q4,hb8];cases hbit:Qv s j with
    |false=>
      simp only[e52,if_false,e7v,not_true,e7g,e82];refine⟨rfl,trivial,λi hi hbi=>?_⟩;rcases e7h i j with h|h
      ·exact hI i h hbi
      ·have:i=j:=om;subst this;rw[hbit]at hbi;cases hbi
    |true=>
      simp only[if_true,Int.one_ne_zero,e7g,e83,e5r,e7v];refine⟨λhnj=>?_,λhnj=>⟨?_,?_,λi hi hbi=>?_⟩⟩
      ·have e:Dh n s=none:=by
        unfold Dh;rw[if_neg];rintro⟨_,_,h⟩
        have:=h j hj hbit;omega
       rw[e];rfl
      ·rw[e58];rfl
      ·rw[e6o];rfl
      ·rcases e7h i j with h|h
       ·exact hI i h hbi
       ·omega
   ·intro hI;have e:Dh n s=some (Qg (Na s (8*((n.toNat+7)/8))),s.drop ((n.toNat+7)/8)):=by
     unfold Dh;rw[if_pos ⟨by unfold Jo;unfold Ei at c;exact c,by omega,hI⟩,c9t s _ _ hI om];rfl
    rw[e];have hl:=c9s s (8*((n.toNat+7)/8));generalize Na s (8*((n.toNat+7)/8))=o at *;have u1:((n+7)/8).toNat=(n.toNat+7)/8:=om;have hj':¬ ((8*((n.toNat+7)/8):Nat):Int)<8*((n+7)/8):=om;by_cases ho:o=[]
    ·subst ho;have hof:=d5k;have hcl:=Fu (f:=115) rfl
     simp(disch:=try exact dq)only[tx,seval,hj',KQ 115 rfl,Ay,hcl,Gh,Gt,hof,h2,u1,B6,Bh,e6d,e5z,Kn,e6k,e6l,e6i];rw[e68];rfl
    ·have hof:=a97 o om;have hcl:=Fu (f:=115) rfl
     simp(disch:=try exact dq)only[tx,seval,hj',KQ 115 rfl,Ay,hcl,Gh,Gt,hof,h2,u1,B6,Bh,e6d,e5z,Kn,e6k,e6l,e6i];rw[e68];rfl
 ·have e:Dh n s=none:=by
   unfold Dh;rw[if_neg];rintro⟨h,_⟩;exact c (by unfold Jo at h;unfold Ei;exact h)
  rw[e6a]at c;rw[c]at h1;rw[e]
  simp(disch:=try exact dq)only[tx,seval,g89,h1];rfl
def Fv(so:Nat->Bool)(j i:Nat):Nat:=((List.range 8).map λk=>if 8*i+k<j/\so (8*i+k)=true then 2 ^ k else 0).sum
theorem e27(so:Nat->Bool)(i:Nat):Fv so 0 i=0:=by
 unfold Fv;simp only[e6r,false_and,if_false];rfl
theorem c8y(so:Nat->Bool)(j i:Nat):Fv so (j+1) i=Fv so j i+(if i=j/8/\so j=true then 2 ^ (j%8)else 0):=by
 unfold Fv;simp only[show List.range 8=[0,1,2,3,4,5,6,7]from rfl,e75,e7k,e7b,List.sum_nil];by_cases h:i=j/8
 ·have hj:j=8*i+j%8:=om;have hr:j%8<8:=Nat.mod_lt _ om;generalize j%8=r at *;subst hj;have e:i=(8*i+r)/8:=om;simp only[<-e,e83];have hk1:∀ k,(8*i+k<8*i+r+1)=(k<r+1):=λk=>propext om;have hk2:∀ k,(8*i+k<8*i+r)=(k<r):=λk=>propext om;simp only[hk1,hk2]
  match r,hr with
  |0,_=>simp
  |1,_=>simp
  |2,_=>simp;omega
  |3,_=>simp;omega
  |4,_=>simp;omega
  |5,_=>simp;omega
  |6,_=>simp;omega
  |7,_=>simp;omega
 ·have e0:(if i=j/8/\so j=true then 2 ^ (j%8)else 0)=0:=if_neg (λc=>h c.1);rw[e0];have hk:∀ k,k<8->(8*i+k<j+1↔8*i+k<j):=by intro k hk;omega
  simp only[propext (hk 0 om),propext (hk 1 om),propext (hk 2 om),propext (hk 3 om),propext (hk 4 om),propext (hk 5 om),propext (hk 6 om),propext (hk 7 om),e7l,show(8*i<j+1)=(8*i<j)from propext om]
theorem e29(so:Nat->Bool)(j:Nat):Fv so j (j/8)<2 ^ (j%8):=by
 unfold Fv;have hj:j=8*(j/8)+j%8:=om;have hr:j%8<8:=Nat.mod_lt _ om;generalize j%8=r at *;generalize j/8=i at *;subst hj;have hk2:∀ k,(8*i+k<8*i+r)=(k<r):=λk=>propext om;simp only[show List.range 8=[0,1,2,3,4,5,6,7]from rfl,e75,e7k,e7b,List.sum_nil,hk2];have q:∀ (p:Prop) [Decidable p] (n:Nat),(if p then n else 0)<=n:=by intro p _ n;split<;>omega
 match r,hr with
 |0,_=>simp
 |1,_=>simp;have:=q (so (8*i)=true) 1;omega
 |2,_=>simp;have:=q (so (8*i)=true) 1;have:=q (so (8*i+1)=true) 2;omega
 |3,_=>simp;have:=q (so (8*i)=true) 1;have:=q (so (8*i+1)=true) 2;have:=q (so (8*i+2)=true) 4;omega
 |4,_=>simp;have:=q (so (8*i)=true) 1;have:=q (so (8*i+1)=true) 2;have:=q (so (8*i+2)=true) 4;have:=q (so (8*i+3)=true) 8;omega
 |5,_=>simp;have:=q (so (8*i)=true) 1;have:=q (so (8*i+1)=true) 2;have:=q (so (8*i+2)=true) 4;have:=q (so (8*i+3)=true) 8;have:=q (so (8*i+4)=true) 16;omega
 |6,_=>simp;have:=q (so (8*i)=true) 1;have:=q (so (8*i+1)=true) 2;have:=q (so (8*i+2)=true) 4;have:=q (so (8*i+3)=true) 8;have:=q (so (8*i+4)=true) 16;have:=q (so (8*i+5)=true) 32;omega
 |7,_=>simp;have:=q (so (8*i)=true) 1;have:=q (so (8*i+1)=true) 2;have:=q (so (8*i+2)=true) 4;have:=q (so (8*i+3)=true) 8;have:=q (so (8*i+4)=true) 16;have:=q (so (8*i+5)=true) 32;have:=q (so (8*i+6)=true) 64;omega
theorem c8z(so:Nat->Bool)(j i:Nat):Fv so j i<256:=by
 unfold Fv;simp only[show List.range 8=[0,1,2,3,4,5,6,7]from rfl,e75,e7k,e7b,List.sum_nil];have q:∀ (p:Prop) [Decidable p] (n:Nat),(if p then n else 0)<=n:=by intro p _ n;split<;>omega
 have h0:=q (8*i+0<j/\so (8*i+0)=true) (2 ^ 0);have h1:=q (8*i+1<j/\so (8*i+1)=true) (2 ^ 1);have h2:=q (8*i+2<j/\so (8*i+2)=true) (2 ^ 2);have h3:=q (8*i+3<j/\so (8*i+3)=true) (2 ^ 3);have h4:=q (8*i+4<j/\so (8*i+4)=true) (2 ^ 4);have h5:=q (8*i+5<j/\so (8*i+5)=true) (2 ^ 5);have h6:=q (8*i+6<j/\so (8*i+6)=true) (2 ^ 6);have h7:=q (8*i+7<j/\so (8*i+7)=true) (2 ^ 7);omega
def Gv(so:Nat->Bool)(m j:Nat):Bytes:=(List.range m).map λi=>UInt8.ofNat (Fv so j i)
theorem c94(so:Nat->Bool)(m j:Nat):(Gv so m j).length=m:=by simp[Gv]
theorem e2c(so:Nat->Bool)(m:Nat):Gv so m 0=zs m:=by
 unfold Gv zs;simp only[e27];rw[List.map_const',List.length_range];rfl
theorem e2f(so:Nat->Bool)(m j i:Nat)(h:i<m):(Gv so m j).getD i default=UInt8.ofNat (Fv so j i):=by
 unfold Gv;simp[e42,h]
theorem e2e(so:Nat->Bool)(m j:Nat)(h:so j=false):Gv so m (j+1)=Gv so m j:=by
 unfold Gv;refine e4y λi _=>?_;rw[c8y,if_neg (λc=>by rw[h]at c;exact absurd c.2 (by simp)),e7l]
theorem e2d(so:Nat->Bool)(m j:Nat)(h:so j=true):Gv so m (j+1)=(Gv so m j).set (j/8) (UInt8.ofNat (Fv so j (j/8)+2 ^ (j%8))):=by
 unfold Gv;refine List.ext_getElem (by simp) λi h1 h2=>?_;simp only[List.getElem_map,List.getElem_range,List.getElem_set];rw[c8y];by_cases e:i=j/8
 ·rw[if_pos ⟨e,h⟩,if_pos e.symm,e]
 ·rw[if_neg (λc=>e c.1),if_neg (λc=>e c.symm),e7l]
theorem e2g(so:Nat->Bool)(n:Nat):Gv so ((n+7)/8) n=a67 n so:=rfl
def cB(b:UInt8):List AV:=[.int .u8 b.toNat]
theorem ay9(l:Bytes):refsO (some (l.map cB))=[]:=Gz l _ λ_=>rfl
theorem e24(l:Bytes):Hl (l.map cB)=some l:=an2 l
theorem d2b(m:Nat):List.replicate m [AV.int IntKind.u8 0]=(zs m).map cB:=by unfold zs;rw[List.map_replicate];rfl
theorem cy6:∀ (a:_root_.Fin 256) (k:_root_.Fin 8),IntKind.u8.wrap ((BitVec.ofInt IntKind.u8.bits ((a.val:Nat):Int) ||| BitVec.ofInt IntKind.u8.bits (IntKind.u8.wrap (1*2 ^ (min k.val IntKind.u8.bits)))).toNat:Int)=(((a.val ||| 2 ^ k.val:Nat)):Int):=by decide +kernel
theorem bo3{a k:Nat}(h:a<2 ^ k):a ||| 2 ^ k=a+2 ^ k:=by
 have:=Nat.two_pow_add_eq_or_of_lt h 1;rw[Nat.mul_one]at this;rw[Nat.or_comm,<-this,Nat.add_comm]
theorem e25(so:Nat->Bool)(j:Nat):IntKind.u8.wrap ((BitVec.ofInt IntKind.u8.bits ((UInt8.ofNat (Fv so j (j/8))).toNat:Int) ||| BitVec.ofInt IntKind.u8.bits (IntKind.u8.wrap (1*2 ^ (min (j%8) IntKind.u8.bits)))).toNat:Int)=(((UInt8.ofNat (Fv so j (j/8)+2 ^ (j%8))).toNat:Nat):Int):=by
 have h1:=e29 so j;have h2:Fv so j (j/8)<256:=c8z so j _;have h3:Fv so (j+1) (j/8)<256:=c8z so (j+1) _;have e1:(UInt8.ofNat (Fv so j (j/8))).toNat=Fv so j (j/8):=by simp;omega
 have h4:=cy6 ⟨Fv so j (j/8),h2⟩ ⟨j%8,Nat.mod_lt _ om⟩;simp only[]at h4;rw[e1,h4,bo3 h1];have h5:Fv so j (j/8)+2 ^ (j%8)<256:=by
  have:=bo3 h1;rw[<-this];exact Nat.or_lt_two_pow (n:=8) h2 (Nat.pow_lt_pow_right om (Nat.mod_lt _ om))
 have e2:(UInt8.ofNat (Fv so j (j/8)+2 ^ (j%8))).toNat=Fv so j (j/8)+2 ^ (j%8):=by simp;omega
 rw[e2]
theorem a88(n:Int)(h0:-100000<=n)(hn:n<=100000)(l:Sl Rn)(hl:(els l).length<=9000)(H:AH):K tab A7 A5 118 [.int .i64 n,A4 A8 l] H=some (.str (Ux n (els l)),H):=by
 refine Ae de3 rfl (by simp[Aa,Ab,Ak]) rfl ?_ H;have h1:=λH=>b9p (orc:=A7) (lk:=A5) n H;have h2:=λH=>Wv l om H;have h3:=λH=>Oc l (some [⟨14,14+n⟩]) (show(els l).length+1<=10000 by omega) H;have hw:A4 A8 (some [(⟨14,14+n⟩:Rn)])=.fz [[.int .i64 14,.int .i64 (14+n)]]:=rfl;have hel:C6 (els l) (els (some [(⟨14,14+n⟩:Rn)]))=C6 (els l) (Dg n):=rfl;rw[hw,hel]at h3;unfold Ux Eh;by_cases c1:Ei n=true
 ·have hb:40<=n/\n<=240:=by unfold Ei at c1;simpa using c1
  have h4:=λH=>b9o (orc:=A7) (lk:=A5) n om om H;have An:Jo n=true:=c1;rw[c1]at h1;by_cases c2:H4 (els l)=true
  ·rw[c2]at h2;by_cases c3:C6 (els l) (Dg n)=[]
   ·have M5:Ax (C6 (els l) (Dg n))=none:=(by rw[c3];rfl);rw[M5,P9]at h3
    simp(disch:=try exact dq)only[tx,seval,Y0,h1,h2,h3,h4,e74,d2b];have hif:(if Jo n=true/\(H4 (els l)&&decide (C6 (els l) (Dg n)=[]))=true then a67 n.toNat λi=>hasR (els l) (14+↑i)else [])=Gv (λi=>hasR (els l) (14+↑i)) ((n+7)/8).toNat n.toNat:=by
     rw[if_pos ⟨An,by simp[c2,c3]⟩,<-e2g,show((n+7)/8).toNat=(n.toNat+7)/8 by omega]
    rw[hif];generalize hso:(λi:Nat=>hasR (els l) (14+(i:Int)))=so;have hhas:∀ (j:Nat) (H:AH),K tab A7 A5 140 [A4 A8 l,.int .i64 (14+(j:Int))] H=some (.bool (so j),H):=λj H=>by
     rw[aw4 l om,<-hso]
    have hm:(n+7)/8=(((n+7)/8).toNat:Int):=om;have hm2:n.toNat<=8*((n+7)/8).toNat:=om
    generalize ((n+7)/8).toNat=m at *;generalize hr:Ai _ _ _=r;refine Bb hr n.toNat
     (λj=>[.top,A4 A8 l,.top,.top,.own 1 1 0 m m,.top,.top,.int .i64 n,.int .i64 j,.top,.top,.top])
     (λj=>[none,some ((Gv so m j).map cB)]) (λ_=>True) ?_ ?_ trivial ?_ ?_
    ·rfl
    ·rw[e2c]
    ·intro j hj _;have hj':((j:Int)<n):=om;have q1:(j:Int).tdiv 8=((j/8:Nat):Int):=(Int.ofNat_tdiv j 8).symm;have q2:(j:Int).tmod 8=((j%8:Nat):Int):=(Int.ofNat_tmod j 8).symm;have q3:((j/8:Nat):Int).toNat=j/8:=e5s _;have q4:((j%8:Nat):Int).toNat=j%8:=e5s _;have hbl:=c94 so m j;have hjm:j/8<m:=om;have hh:=hhas j;cases hb:so j with
     |false=>
       rw[hb]at hh;rw[e2e so m j hb];generalize Gv so m j=b at *
       simp(disch:=try exact dq)only[tx,seval,hj',hh,e74,ay9];rfl
     |true=>
       rw[hb]at hh;have hor:=e25 so j;have hg:((Gv so m j).map cB)[j/8]?=some [.int .u8 (UInt8.ofNat (Fv so j (j/8))).toNat]:=by
        rw[Ic om cB,e2f so m j _ hjm];rfl
       rw[e2d so m j hb];generalize Gv so m j=b at *
       simp(disch:=try exact dq)only[tx,seval,hj',hh,e74,ay9,q1,q2,q3,q4,hg,hbl,hor,e6i];exact⟨rfl,by rw[List.map_set];rfl⟩
    ·intro _;have hbl:=c94 so m n.toNat;have hbo:=e24 (Gv so m n.toNat);generalize Gv so m n.toNat=b at *;have hbt:List.take m (List.map cB b)=List.map cB b:=by rw[<-hbl];exact F4 b cB
     simp(disch:=try exact dq)only[tx,seval,hbo,hbt,hbl,ay9,e6i,show ¬ ((n.toNat:Int)<n) by omega]
   ·have hif:(if Jo n=true/\(H4 (els l)&&decide (C6 (els l) (Dg n)=[]))=true then a67 n.toNat λi=>hasR (els l) (14+↑i)else [])=[]:=if_neg (λh=>by have h2:=h.2;simp only[e5v,e5h]at h2;exact c3 h2.2);rw[hif];have hpos:0<((els (Ax (C6 (els l) (Dg n)))).length:Int):=by
     rw[Dy]
     have:=e51.2 c3;omega
    simp(disch:=try exact dq)only[tx,seval,Y0,h1,h2,h3,h4,e74,hpos]
  ·rw[e6a]at c2;rw[c2]at h2
   simp(disch:=try exact dq)only[tx,seval,Y0,h1,h2,h3,h4,e74];simp[c2]
 ·have An:¬ Jo n=true:=c1;rw[e6a]at c1;rw[c1]at h1
  simp(disch:=try exact dq)only[tx,seval,Y0,h1,e74];simp[An]
theorem Zf(so:Bool->Bool->Bool)(l m:List Rn):(Ra so l m).length<=2*(l.length+m.length):=by
 rw[bn4];have h:=b02 so l m (Ij l m) ((Ij l m).length-1);have h2:(Ij l m).length<=2*(l.length+m.length):=by
  rw[<-b28];have h1:=Vl (Cr (Ft (l++m))) _ (e7y _);rw[e68,Q2,b21,e58]at h1;omega
 omega
def a86(s:Space):List AV:=[A4 A8 s.held,A4 A8 s.one,A4 A8 s.two,A4 A8 s.kept]
theorem b9i(s:Space)(n:Int)(h0:-100000<=n)(hn:n<=100000)(H:AH):K tab A7 A5 63 [.agg [A4 A8 s.held,A4 A8 s.one,A4 A8 s.two,A4 A8 s.kept,.int .i64 n]] H=some (A4 A8 (some (Dg n)),H):=by
 refine Ae l63 rfl (by simp[Aa,Ab,Ak]) (Ak _ _) ?_ H
 simp(disch:=try exact dq)only[tx,seval,g63,e74];rfl
theorem a87(s:Space)(H:AH):K tab A7 A5 64 [.agg [A4 A8 s.held,A4 A8 s.one,A4 A8 s.two,A4 A8 s.kept]] H=some (.agg [A4 A8 s.held,A4 A8 s.one,A4 A8 s.two,A4 A8 s.kept],H):=by
 refine Ae l64 rfl (by simp[Aa,Ab,Ak]) (by simp[Aa,Ab,Ak]) ?_ H
 simp(disch:=try exact dq)only[tx,seval,g64]
structure SpOk(s:Space):Prop where
 held:(els s.held).length<=500
 one:(els s.one).length<=500
 two:(els s.two).length<=500
 kept:(els s.kept).length<=500
theorem b9j(s:Space)(hs:SpOk s)(n:Int)(h0:-100000<=n)(hn:n<=100000)(H:AH):K tab A7 A5 62 [.agg [A4 A8 s.held,A4 A8 s.one,A4 A8 s.two,A4 A8 s.kept,.int .i64 n]] H=some (.bool (Dw n s.n),H):=by
 refine Ae l62 rfl (by simp[Aa,Ab,Ak]) rfl ?_ H;have hw:=b9i s n h0 hn;have ha:=a87 s;have l1:=hs.held;have l2:=hs.one;have l3:=hs.two;by_cases c:Jo n=true
 ·have hb:40<=n/\n<=240:=by unfold Jo at c;simpa using c
  have c1:¬ n<40:=om;have c2:¬ 240<n:=om
  simp(disch:=try exact dq)only[tx,seval,g62,ha,c1,c2];generalize hr:Ai _ _ _=r;refine Bb hr 4
   (λj=>[.top,.ptr 0 0 0 1,.top,.top,.agg [A4 A8 s.held,A4 A8 s.one,A4 A8 s.two,A4 A8 s.kept],.int .i64 j,.top])
   (λ_=>[some [[A4 A8 s.held,A4 A8 s.one,A4 A8 s.two,A4 A8 s.kept,.int .i64 n]]])
   (λj=>(0<j->Eh n (els s.held)=true)/\(1<j->Eh n (els s.one)=true)/\(2<j->Eh n (els s.two)=true)/\(3<j->Eh n (els s.kept)=true)) ?_ ?_ ?_ ?_ ?_
  ·rfl
  ·rfl
  ·exact⟨λh=>absurd h om,λh=>absurd h om,λh=>absurd h om,λh=>absurd h om⟩
  ·intro j hj hI;obtain rfl|rfl|rfl|rfl:j=0\/j=1\/j=2\/j=3:=om
   ·have m1:=Wv s.held (by have:=hs.held;omega);have m2:=Oc s.held (some (Dg n)) (show(els s.held).length+1<=10000 by have:=hs.held;omega);rw[Az,Cx]at m2;have hwi:Eh n (els s.held)=(H4 (els s.held)&&decide (C6 (els s.held) (Dg n)=[])):=rfl;by_cases w1:H4 (els s.held)=true
    ·rw[w1]at m1;by_cases w2:C6 (els s.held) (Dg n)=[]
     ·rw[w2]at m2;rw[show Ax []=none from rfl]at m2
      simp(disch:=try exact dq)only[tx,seval,m1,m2,hw,P9];refine⟨rfl,?_⟩;rw[w1,w2]at hwi;have hwt:Eh n (els s.held)=true:=(by rw[hwi];rfl);exact⟨λ_=>hwt,λh=>absurd h (by decide),λh=>absurd h (by decide),λh=>absurd h (by decide)⟩
     ·have hpos:0<((els (Ax (C6 (els s.held) (Dg n)))).length:Int):=by
       rw[Dy]
       have:=e51.2 w2;omega
      simp(disch:=try exact dq)only[tx,seval,m1,m2,hw,hpos];have hwf:Eh n (els s.held)=false:=(by rw[hwi];simp[w2]);rw[show Dw n s.n=false by simp only[Dw,Space.n,hwf,e71,e70]]
    ·rw[e6a]at w1;rw[w1]at m1
     simp(disch:=try exact dq)only[tx,seval,m1,hw];have hwf:Eh n (els s.held)=false:=(by rw[hwi,w1];rfl);rw[show Dw n s.n=false by simp only[Dw,Space.n,hwf,e71,e70]]
   ·have m1:=Wv s.one (by have:=hs.one;omega);have m2:=Oc s.one (some (Dg n)) (show(els s.one).length+1<=10000 by have:=hs.one;omega);rw[Az,Cx]at m2;have hwi:Eh n (els s.one)=(H4 (els s.one)&&decide (C6 (els s.one) (Dg n)=[])):=rfl;by_cases w1:H4 (els s.one)=true
    ·rw[w1]at m1;by_cases w2:C6 (els s.one) (Dg n)=[]
     ·rw[w2]at m2;rw[show Ax []=none from rfl]at m2
      simp(disch:=try exact dq)only[tx,seval,m1,m2,hw,P9];refine⟨rfl,?_⟩;rw[w1,w2]at hwi;have hwt:Eh n (els s.one)=true:=(by rw[hwi];rfl);exact⟨λ_=>hI.1 om,λ_=>hwt,λh=>absurd h (by decide),λh=>absurd h (by decide)⟩
     ·have hpos:0<((els (Ax (C6 (els s.one) (Dg n)))).length:Int):=by
       rw[Dy]
       have:=e51.2 w2;omega
      simp(disch:=try exact dq)only[tx,seval,m1,m2,hw,hpos];have hwf:Eh n (els s.one)=false:=(by rw[hwi];simp[w2]);rw[show Dw n s.n=false by simp only[Dw,Space.n,hwf,e71,e70]]
    ·rw[e6a]at w1;rw[w1]at m1
     simp(disch:=try exact dq)only[tx,seval,m1,hw];have hwf:Eh n (els s.one)=false:=(by rw[hwi,w1];rfl);rw[show Dw n s.n=false by simp only[Dw,Space.n,hwf,e71,e70]]
   ·have m1:=Wv s.two (by have:=hs.two;omega);have m2:=Oc s.two (some (Dg n)) (show(els s.two).length+1<=10000 by have:=hs.two;omega);rw[Az,Cx]at m2;have hwi:Eh n (els s.two)=(H4 (els s.two)&&decide (C6 (els s.two) (Dg n)=[])):=rfl;by_cases w1:H4 (els s.two)=true
    ·rw[w1]at m1;by_cases w2:C6 (els s.two) (Dg n)=[]
     ·rw[w2]at m2;rw[show Ax []=none from rfl]at m2
      simp(disch:=try exact dq)only[tx,seval,m1,m2,hw,P9];refine⟨rfl,?_⟩;rw[w1,w2]at hwi;have hwt:Eh n (els s.two)=true:=(by rw[hwi];rfl);exact⟨λ_=>hI.1 om,λ_=>hI.2.1 om,λ_=>hwt,λh=>absurd h (by decide)⟩
     ·have hpos:0<((els (Ax (C6 (els s.two) (Dg n)))).length:Int):=by
       rw[Dy]
       have:=e51.2 w2;omega
      simp(disch:=try exact dq)only[tx,seval,m1,m2,hw,hpos];have hwf:Eh n (els s.two)=false:=(by rw[hwi];simp[w2]);rw[show Dw n s.n=false by simp only[Dw,Space.n,hwf,e71,e70]]
    ·rw[e6a]at w1;rw[w1]at m1
     simp(disch:=try exact dq)only[tx,seval,m1,hw];have hwf:Eh n (els s.two)=false:=(by rw[hwi,w1];rfl);rw[show Dw n s.n=false by simp only[Dw,Space.n,hwf,e71,e70]]
   ·have m1:=Wv s.kept (by have:=hs.kept;omega);have m2:=Oc s.kept (some (Dg n)) (show(els s.kept).length+1<=10000 by have:=hs.kept;omega);rw[Az,Cx]at m2;have hwi:Eh n (els s.kept)=(H4 (els s.kept)&&decide (C6 (els s.kept) (Dg n)=[])):=rfl;by_cases w1:H4 (els s.kept)=true
    ·rw[w1]at m1;by_cases w2:C6 (els s.kept) (Dg n)=[]
     ·rw[w2]at m2;rw[show Ax []=none from rfl]at m2
      simp(disch:=try exact dq)only[tx,seval,m1,m2,hw,P9];refine⟨rfl,?_⟩;rw[w1,w2]at hwi;have hwt:Eh n (els s.kept)=true:=(by rw[hwi];rfl);exact⟨λ_=>hI.1 om,λ_=>hI.2.1 om,λ_=>hI.2.2.1 om,λ_=>hwt⟩
     ·have hpos:0<((els (Ax (C6 (els s.kept) (Dg n)))).length:Int):=by
       rw[Dy]
       have:=e51.2 w2;omega
      simp(disch:=try exact dq)only[tx,seval,m1,m2,hw,hpos];have hwf:Eh n (els s.kept)=false:=(by rw[hwi];simp[w2]);rw[show Dw n s.n=false by simp only[Dw,Space.n,hwf,e71,e70]]
    ·rw[e6a]at w1;rw[w1]at m1
     simp(disch:=try exact dq)only[tx,seval,m1,hw];have hwf:Eh n (els s.kept)=false:=(by rw[hwi,w1];rfl);rw[show Dw n s.n=false by simp only[Dw,Space.n,hwf,e71,e70]]
  ·intro hI;have e1:=hI.1 om;have e2:=hI.2.1 om;have e3:=hI.2.2.1 om;have e4:=hI.2.2.2 om;have hm:Dw n s.n=(decide (Tl (els s.held) (els s.one)=[])&&decide (Tl (Pb (els s.held) (els s.one)) (els s.two)=[])):=by
    rw[e6p];simp[Dw,Space.n,e1,e2,e3,e4,c];exact⟨λh=>⟨e5t h.1,e5t h.2⟩,λh=>⟨e73 h.1,e73 h.2⟩⟩
   rw[hm];have b1:=b9g s.held s.one om;have a1:=d17 s.held s.one om;have hal:=Zf (λa b=>a||b) (els s.held) (els s.one);have b2:=b9g (Ax (Pb (els s.held) (els s.one))) s.two (by rw[Dy];unfold Pb;omega);rw[Dy]at b2;by_cases d1:Tl (els s.held) (els s.one)=[]
   ·rw[d1,show Ax []=none from rfl]at b1;by_cases d2:Tl (Pb (els s.held) (els s.one)) (els s.two)=[]
    ·rw[d2,show Ax []=none from rfl]at b2
     simp(disch:=try exact dq)only[tx,seval,b1,a1,b2,P9];simp[d1,d2]
    ·have hpos:¬ ((els (Ax (Tl (Pb (els s.held) (els s.one)) (els s.two)))).length:Int)=0:=by
      rw[Dy]
      have:=e51.2 d2;omega
     simp(disch:=try exact dq)only[tx,seval,b1,a1,b2,P9,hpos];simp[d2]
   ·have hpos:¬ ((els (Ax (Tl (els s.held) (els s.one)))).length:Int)=0:=by
     rw[Dy]
     have:=e51.2 d1;omega
    simp(disch:=try exact dq)only[tx,seval,b1,a1,b2,P9,hpos];simp[d1]
 ·have hn:Dw n s.n=false:=by unfold Dw;rw[e6a]at c;rw[c];rfl
  rw[hn];have hb:n<40\/240<n:=by
   rcases Int.lt_or_le n 40 with h|h
   ·exact .inl h
   ·rcases Int.lt_or_le 240 n with h2|h2
    ·exact .inr h2
    ·exact absurd (by unfold Jo;simp;omega) c
  simp(disch:=try exact dq)only[tx,seval,g62,ha,hw];rw[if_pos (by simpa using hb)]
theorem d1a(s:Space)(hs:SpOk s)(n:Int)(h0:-100000<=n)(hn:n<=100000)(H:AH):K tab A7 A5 117 [.int .i64 n,.agg [A4 A8 s.held,A4 A8 s.one,A4 A8 s.two,A4 A8 s.kept]] H=some (.bool (Dw n s.n),H):=by
 refine Ae de4 rfl (by simp[Aa,Ab,Ak]) rfl ?_ H;have h:=b9j s hs n h0 hn
 simp(disch:=try exact dq)only[tx,seval,aj7,h]
theorem a4b{Q:R3->Prop}{step:List AV->AH->R3}{cf:List AV}{H:AH}{r:R3}(hl:Ai step cf H=r)(he:Rd Q False cf H (step cf H)):Q r:=
 Ny hl 0 (λ_=>cf) (λ_=>H) (λ_=>True) rfl rfl trivial (λ_ hj=>absurd hj (e6r _)) (λ_=>he)
theorem bq7(l:List Int):(Qg l).length<=l.length:=by
 have hof:Qg l=Ky (dd (Cr l)) (dd (Cr l)).length:=by
  rw[b04 _ _ (e7y _),e68]
  exact(bq9 l _ (a1l l).1 (a1l l).2).symm
 rw[hof];have h1:=b03 (dd (Cr l)) (dd (Cr l)).length;have hdl:=Vl (Cr l) (Cr l).length (e7y _);rw[e68,Q2]at hdl;omega
theorem Uw(n:Int)(l:List Rn)(hn:n<=100000):(Ux n l).length<=20000:=by
 unfold Ux;split
 ·unfold a67;rw[e6i,List.length_range];omega
 ·simp
theorem d2s(n:Int)(s:SpaceL)(hn:n<=100000):(Rm n s).length<=80000:=by
 unfold Rm;split
 ·simp only[e58];have h1:=Uw n s.held hn;have h2:=Uw n s.one hn;have h3:=Uw n s.two hn;have h4:=Uw n s.kept hn;omega
 ·simp
theorem b8x(s:Space)(hs:SpOk s)(n:Int)(h0:-100000<=n)(hn:n<=100000)(H:AH):K tab A7 A5 80 [.int .i64 n,.agg [A4 A8 s.held,A4 A8 s.one,A4 A8 s.two,A4 A8 s.kept]] H=some (.str (Rm n s.n),H):=by
 refine Ae l80 rfl (by simp[Aa,Ab,Ak]) rfl ?_ H;have h:=d1a s hs n h0 hn;have l1:=hs.held;have l2:=hs.one;have l3:=hs.two;have l4:=hs.kept;have p1:=a88 n h0 hn s.held om;have p2:=a88 n h0 hn s.one om;have p3:=a88 n h0 hn s.two om;have p4:=a88 n h0 hn s.kept om;unfold Rm;cases c:Dw n s.n with
 |false=>
   rw[c]at h
   simp(disch:=try exact dq)only[tx,seval,g80,h]
 |true=>
   rw[c]at h;have q1:=Uw n (els s.held) hn;have q2:=Uw n (els s.one) hn;have q3:=Uw n (els s.two) hn;have q4:=Uw n (els s.kept) hn
   simp(disch:=try exact dq)only[tx,seval,g80,h,p1,p2,p3,p4,e58];rfl
theorem Rh{n:Int}{s:Bytes}{l:List Rn}{r:Bytes}(h:Dh n s=some (l,r)):r.length<=s.length/\l.length<=500:=by
 unfold Dh at h;split at h
 ·rename_i hc;have hb:40<=n/\n<=240:=by have:=hc.1;unfold Jo at this;simpa using this
  cases h;refine⟨by rw[e60];omega,?_⟩
  have:=bq7 (((List.range n.toNat).filter (Qv s)).map λi:Nat=>14+(i:Int));rw[e6i]at this;have h2:=List.length_filter_le (Qv s) (List.range n.toNat);rw[List.length_range]at h2;omega
 ·cases h
def Jg(o:Option SpaceL):AV:=match o with
 |some s=>.tuple [.agg [A4 A8 (Ax s.held),A4 A8 (Ax s.one),A4 A8 (Ax s.two),A4 A8 (Ax s.kept)],.bool true]
 |none=>.tuple [.agg [.emp,.emp,.emp,.emp],.bool false]
theorem d0g(n:Int)(h0:-100000<=n)(hn:n<=100000)(s:Bytes)(hs:s.length<=1000000) (m0:Dh n s=none)(H:AH):K tab A7 A5 50 [.int .i64 n,.str s] H=some (Jg none,H):=by
 refine Ae l50 rfl rfl (by unfold Jg;split<;>simp[Ab,Aa,Ak]) ?_ H;have t0:=Kj n hn s om;rw[m0]at t0;unfold Iq at t0;simp only[]at t0
 simp(disch:=try exact dq)only[tx,seval,Vd];generalize hr:Ai _ _ _=r;refine a4b (Q:=λr=>Dv _ _ _ (Cn _ _ (C2 _ r))=_) hr ?_
 simp(disch:=try exact dq)only[tx,seval,t0];rfl
theorem d0f(n:Int)(h0:-100000<=n)(hn:n<=100000)(s:Bytes)(hs:s.length<=1000000)(a:List Rn)(r1:Bytes)(m0:Dh n s=some (a,r1))(m1:Dh n r1=none)(H:AH):K tab A7 A5 50 [.int .i64 n,.str s] H=some (Jg none,H):=by
 refine Ae l50 rfl rfl (by unfold Jg;split<;>simp[Ab,Aa,Ak]) ?_ H;have t0:=Kj n hn s om;rw[m0]at t0;unfold Iq at t0;simp only[]at t0;have b0:=Rh m0;have t1:=Kj n hn r1 om;rw[m1]at t1;unfold Iq at t1;simp only[]at t1
 simp(disch:=try exact dq)only[tx,seval,Vd];generalize hr:Ai _ _ _=r;refine Bb hr 1 (λj=>match j with|0=>[.int .i64 n,.str s,.ptr 0 0 0 1,.top,.ptr 1 0 0 1,.str s,.top,.top,.top,.int .i64 0,.top,.top,.top,.top,.top,.top,.top]|_=>[.int .i64 n,.str s,.ptr 0 0 0 1,.top,.ptr 1 0 0 1,.str r1,.top,.top,.top,.int .i64 1,.top,.top,.top,.top,.top,.top,.top] ) (λj=>match j with|0=>[some [[.emp,.emp,.emp,.emp]],some [[.emp,.emp,.emp,.emp]]]|_=>[some [[.emp,.emp,.emp,.emp]],some [[A4 A8 (Ax a),.emp,.emp,.emp]]] ) (λ_=>True) ?_ ?_ trivial ?_ ?_
 ·rfl
 ·rfl
 ·intro j hj _;obtain rfl:j=0:=om
  simp(disch:=try exact dq)only[tx,seval,t0,t1]
  first|exact⟨rfl,rfl⟩|rfl
 ·intro _
  simp(disch:=try exact dq)only[tx,seval,t0,t1];rfl
theorem d0e(n:Int)(h0:-100000<=n)(hn:n<=100000)(s:Bytes)(hs:s.length<=1000000)(a b:List Rn)(r1 r2:Bytes)(m0:Dh n s=some (a,r1))(m1:Dh n r1=some (b,r2))(m2:Dh n r2=none)(H:AH):K tab A7 A5 50 [.int .i64 n,.str s] H=some (Jg none,H):=by
 refine Ae l50 rfl rfl (by unfold Jg;split<;>simp[Ab,Aa,Ak]) ?_ H;have t0:=Kj n hn s om;rw[m0]at t0;unfold Iq at t0;simp only[]at t0;have b0:=Rh m0;have t1:=Kj n hn r1 om;rw[m1]at t1;unfold Iq at t1;simp only[]at t1;have b1:=Rh m1;have t2:=Kj n hn r2 om;rw[m2]at t2;unfold Iq at t2;simp only[]at t2
 simp(disch:=try exact dq)only[tx,seval,Vd];generalize hr:Ai _ _ _=r;refine Bb hr 2 (λj=>match j with|0=>[.int .i64 n,.str s,.ptr 0 0 0 1,.top,.ptr 1 0 0 1,.str s,.top,.top,.top,.int .i64 0,.top,.top,.top,.top,.top,.top,.top]|1=>[.int .i64 n,.str s,.ptr 0 0 0 1,.top,.ptr 1 0 0 1,.str r1,.top,.top,.top,.int .i64 1,.top,.top,.top,.top,.top,.top,.top]|_=>[.int .i64 n,.str s,.ptr 0 0 0 1,.top,.ptr 1 0 0 1,.str r2,.top,.top,.top,.int .i64 2,.top,.top,.top,.top,.top,.top,.top] ) (λj=>match j with|0=>[some [[.emp,.emp,.emp,.emp]],some [[.emp,.emp,.emp,.emp]]]|1=>[some [[.emp,.emp,.emp,.emp]],some [[A4 A8 (Ax a),.emp,.emp,.emp]]]|_=>[some [[.emp,.emp,.emp,.emp]],some [[A4 A8 (Ax a),A4 A8 (Ax b),.emp,.emp]]] ) (λ_=>True) ?_ ?_ trivial ?_ ?_
 ·rfl
 ·rfl
 ·intro j hj _;obtain rfl|rfl:j=0\/j=1:=om
  ·simp(disch:=try exact dq)only[tx,seval,t0,t1,t2]
   first|exact⟨rfl,rfl⟩|rfl
  ·simp(disch:=try exact dq)only[tx,seval,t0,t1,t2]
   first|exact⟨rfl,rfl⟩|rfl
 ·intro _
  simp(disch:=try exact dq)only[tx,seval,t0,t1,t2];rfl
theorem d0d(n:Int)(h0:-100000<=n)(hn:n<=100000)(s:Bytes)(hs:s.length<=1000000)(a b c:List Rn)(r1 r2 r3:Bytes)(m0:Dh n s=some (a,r1))(m1:Dh n r1=some (b,r2))(m2:Dh n r2=some (c,r3))(m3:Dh n r3=none)(H:AH):K tab A7 A5 50 [.int .i64 n,.str s] H=some (Jg none,H):=by
 refine Ae l50 rfl rfl (by unfold Jg;split<;>simp[Ab,Aa,Ak]) ?_ H;have t0:=Kj n hn s om;rw[m0]at t0;unfold Iq at t0;simp only[]at t0;have b0:=Rh m0;have t1:=Kj n hn r1 om;rw[m1]at t1;unfold Iq at t1;simp only[]at t1;have b1:=Rh m1;have t2:=Kj n hn r2 om;rw[m2]at t2;unfold Iq at t2;simp only[]at t2;have b2:=Rh m2;have t3:=Kj n hn r3 om;rw[m3]at t3;unfold Iq at t3;simp only[]at t3
 simp(disch:=try exact dq)only[tx,seval,Vd];generalize hr:Ai _ _ _=r;refine Bb hr 3 (λj=>match j with|0=>[.int .i64 n,.str s,.ptr 0 0 0 1,.top,.ptr 1 0 0 1,.str s,.top,.top,.top,.int .i64 0,.top,.top,.top,.top,.top,.top,.top]|1=>[.int .i64 n,.str s,.ptr 0 0 0 1,.top,.ptr 1 0 0 1,.str r1,.top,.top,.top,.int .i64 1,.top,.top,.top,.top,.top,.top,.top]|2=>[.int .i64 n,.str s,.ptr 0 0 0 1,.top,.ptr 1 0 0 1,.str r2,.top,.top,.top,.int .i64 2,.top,.top,.top,.top,.top,.top,.top]|_=>[.int .i64 n,.str s,.ptr 0 0 0 1,.top,.ptr 1 0 0 1,.str r3,.top,.top,.top,.int .i64 3,.top,.top,.top,.top,.top,.top,.top] ) (λj=>match j with|0=>[some [[.emp,.emp,.emp,.emp]],some [[.emp,.emp,.emp,.emp]]]|1=>[some [[.emp,.emp,.emp,.emp]],some [[A4 A8 (Ax a),.emp,.emp,.emp]]]|2=>[some [[.emp,.emp,.emp,.emp]],some [[A4 A8 (Ax a),A4 A8 (Ax b),.emp,.emp]]]|_=>[some [[.emp,.emp,.emp,.emp]],some [[A4 A8 (Ax a),A4 A8 (Ax b),A4 A8 (Ax c),.emp]]] ) (λ_=>True) ?_ ?_ trivial ?_ ?_
 ·rfl
 ·rfl
 ·intro j hj _;obtain rfl|rfl|rfl:j=0\/j=1\/j=2:=om
  ·simp(disch:=try exact dq)only[tx,seval,t0,t1,t2,t3]
   first|exact⟨rfl,rfl⟩|rfl
  ·simp(disch:=try exact dq)only[tx,seval,t0,t1,t2,t3]
   first|exact⟨rfl,rfl⟩|rfl
  ·simp(disch:=try exact dq)only[tx,seval,t0,t1,t2,t3]
   first|exact⟨rfl,rfl⟩|rfl
 ·intro _
  simp(disch:=try exact dq)only[tx,seval,t0,t1,t2,t3];rfl
theorem d0c(n:Int)(h0:-100000<=n)(hn:n<=100000)(s:Bytes)(hs:s.length<=1000000)(a b c e:List Rn)(r1 r2 r3 r4:Bytes)(m0:Dh n s=some (a,r1))(m1:Dh n r1=some (b,r2))(m2:Dh n r2=some (c,r3))(m3:Dh n r3=some (e,r4))(H:AH):K tab A7 A5 50 [.int .i64 n,.str s] H=some (Jg (if Rm n ⟨a,b,c,e⟩=s then some ⟨a,b,c,e⟩else none),H):=by
 refine Ae l50 rfl rfl (by unfold Jg;split<;>simp[Ab,Aa,Ak]) ?_ H;have t0:=Kj n hn s om;rw[m0]at t0;unfold Iq at t0;simp only[]at t0;have b0:=Rh m0;have t1:=Kj n hn r1 om;rw[m1]at t1;unfold Iq at t1;simp only[]at t1;have b1:=Rh m1;have t2:=Kj n hn r2 om;rw[m2]at t2;unfold Iq at t2;simp only[]at t2;have b2:=Rh m2;have t3:=Kj n hn r3 om;rw[m3]at t3;unfold Iq at t3;simp only[]at t3;have b3:=Rh m3
 simp(disch:=try exact dq)only[tx,seval,Vd];generalize hr:Ai _ _ _=r;refine Bb hr 4 (λj=>match j with|0=>[.int .i64 n,.str s,.ptr 0 0 0 1,.top,.ptr 1 0 0 1,.str s,.top,.top,.top,.int .i64 0,.top,.top,.top,.top,.top,.top,.top]|1=>[.int .i64 n,.str s,.ptr 0 0 0 1,.top,.ptr 1 0 0 1,.str r1,.top,.top,.top,.int .i64 1,.top,.top,.top,.top,.top,.top,.top]|2=>[.int .i64 n,.str s,.ptr 0 0 0 1,.top,.ptr 1 0 0 1,.str r2,.top,.top,.top,.int .i64 2,.top,.top,.top,.top,.top,.top,.top]|3=>[.int .i64 n,.str s,.ptr 0 0 0 1,.top,.ptr 1 0 0 1,.str r3,.top,.top,.top,.int .i64 3,.top,.top,.top,.top,.top,.top,.top]|_=>[.int .i64 n,.str s,.ptr 0 0 0 1,.top,.ptr 1 0 0 1,.str r4,.top,.top,.top,.int .i64 4,.top,.top,.top,.top,.top,.top,.top] ) (λj=>match j with|0=>[some [[.emp,.emp,.emp,.emp]],some [[.emp,.emp,.emp,.emp]]]|1=>[some [[.emp,.emp,.emp,.emp]],some [[A4 A8 (Ax a),.emp,.emp,.emp]]]|2=>[some [[.emp,.emp,.emp,.emp]],some [[A4 A8 (Ax a),A4 A8 (Ax b),.emp,.emp]]]|3=>[some [[.emp,.emp,.emp,.emp]],some [[A4 A8 (Ax a),A4 A8 (Ax b),A4 A8 (Ax c),.emp]]]|_=>[some [[.emp,.emp,.emp,.emp]],some [[A4 A8 (Ax a),A4 A8 (Ax b),A4 A8 (Ax c),A4 A8 (Ax e)]]] ) (λ_=>True) ?_ ?_ trivial ?_ ?_
 ·rfl
 ·rfl
 ·intro j hj _;obtain rfl|rfl|rfl|rfl:j=0\/j=1\/j=2\/j=3:=om
  ·simp(disch:=try exact dq)only[tx,seval,t0,t1,t2,t3]
   first|exact⟨rfl,rfl⟩|rfl
  ·simp(disch:=try exact dq)only[tx,seval,t0,t1,t2,t3]
   first|exact⟨rfl,rfl⟩|rfl
  ·simp(disch:=try exact dq)only[tx,seval,t0,t1,t2,t3]
   first|exact⟨rfl,rfl⟩|rfl
  ·simp(disch:=try exact dq)only[tx,seval,t0,t1,t2,t3]
   first|exact⟨rfl,rfl⟩|rfl
 ·intro _;have hS:=b8x ⟨Ax a,Ax b,Ax c,Ax e⟩ ⟨by rw[Dy];exact b0.2,by rw[Dy];exact b1.2,by rw[Dy];exact b2.2,by rw[Dy];exact b3.2⟩ n h0 hn;have en:Space.n ⟨Ax a,Ax b,Ax c,Ax e⟩=⟨a,b,c,e⟩:=by simp only[Space.n,Dy]
  rw[en]at hS;simp only[]at hS;by_cases hE:Rm n ⟨a,b,c,e⟩=s
  ·rw[if_pos hE]
   simp(disch:=try exact dq)only[tx,seval,hS,hE];rfl
  ·rw[if_neg hE]
   simp(disch:=try exact dq)only[tx,seval,hS,hE];rfl
theorem d0b(n:Int)(h0:-100000<=n)(hn:n<=100000)(s:Bytes)(hs:s.length<=1000000)(H:AH):K tab A7 A5 50 [.int .i64 n,.str s] H=some (Jg (Ws n s),H):=by
 unfold Ws;cases m0:Dh n s with
 |none=>exact d0g n h0 hn s hs m0 H
 |some q0=>
   obtain⟨a,r1⟩:=q0;simp only[];cases m1:Dh n r1 with
   |none=>exact d0f n h0 hn s hs a r1 m0 m1 H
   |some q1=>
     obtain⟨b,r2⟩:=q1;simp only[];cases m2:Dh n r2 with
     |none=>exact d0e n h0 hn s hs a b r1 r2 m0 m1 m2 H
     |some q2=>
       obtain⟨c,r3⟩:=q2;simp only[];cases m3:Dh n r3 with
       |none=>exact d0d n h0 hn s hs a b c r1 r2 r3 m0 m1 m2 m3 H
       |some q3=>
         obtain⟨e,r4⟩:=q3;exact d0c n h0 hn s hs a b c e r1 r2 r3 r4 m0 m1 m2 m3 H
def Q8(d:Dev)(p:Int×Bytes):Bool:=decide (0<=p.1)&&decide (p.1<(els d.last).length)&&decide (p.2.length=256)
def Wm(d:Dev)(p:Int×Bytes):Dev:=⟨d.last,some (els d.wait++[p]),d.lies,d.arm,d.down⟩
def F3:Dev->List (Int×Bytes)->Dev×Bool
 |d,[]=>(d,true)
 |d,p::l=>if Q8 d p=true then(if 0<d.arm then(if d.arm=1 then(⟨d.last,some (els d.wait++[p]),d.lies,0,true⟩,false)else F3 ⟨d.last,some (els d.wait++[p]),d.lies,d.arm-1,d.down⟩ l)else F3 (Wm d p) l)else(d,false)
def Gj(d:Dev)(l:List (Int×Bytes)):Dev×Bool:=if d.down=true then(d,false)else F3 d l
def a9v(was b:Bytes)(how:Int):Bytes:=(if how%2=1 then b.take 128 else was.take 128)++(if how/2%2=1 then b.drop 128 else was.drop 128)
theorem a7e:∀ (l:List (Int×Bytes)) (d:Dev),(F3 d l).1.last=d.last/\(els (F3 d l).1.wait).length<=(els d.wait).length+l.length/\∀ q∈els (F3 d l).1.wait,q∈els d.wait\/q.2.length=256
 |[],d=>⟨rfl,by simp[F3],λq h=>.inl h⟩
 |p::l,d=>by
   rw[F3];have key:∀ d':Dev,d'.last=d.last->d'.wait=some (els d.wait++[p])->Q8 d p=true->(F3 d' l).1.last=d.last/\(els (F3 d' l).1.wait).length<=(els d.wait).length+(p::l).length/\∀ q∈els (F3 d' l).1.wait,q∈els d.wait\/q.2.length=256:=by
    intro d' h1 h2 h3;obtain⟨a,b,c⟩:=a7e l d';rw[h2,Az,e58,List.length_singleton]at b;refine⟨a.trans h1,by rw[e5w];omega,λq hq=>?_⟩;rcases c q hq with h4|h4
    ·rw[h2,Az,e6m,e59]at h4;rcases h4 with h4|h4
     ·exact .inl h4
     ·subst h4;simp only[Q8,e5v,e5h]at h3;exact .inr h3.2
    ·exact .inr h4
   split
   ·rename_i h3;split
    ·split
     ·refine⟨rfl,by simp[els],λq hq=>?_⟩;rw[Az,e6m,e59]at hq;rcases hq with h4|h4
      ·exact .inl h4
      ·subst h4;simp only[Q8,e5v,e5h]at h3;exact .inr h3.2
     ·exact key _ rfl rfl h3
    ·exact key _ rfl rfl h3
   ·exact⟨rfl,by simp,λq h=>.inl h⟩
theorem a7d:∀ (l:List (Int×Bytes)) (d:Dev),(F3 d l).1.lies=d.lies
 |[],d=>rfl
 |p::l,d=>by
   rw[F3];split
   ·split
    ·split
     ·rfl
     ·rw[a7d l]
    ·rw[a7d l];rfl
   ·rfl
def Hr(d:Dev)(p:Int×Bytes):Dev:=if 0<d.arm then⟨d.last,some (els d.wait++[p]),d.lies,d.arm-1,d.down⟩else Wm d p
theorem b4p{d:Dev}{p:Int×Bytes}(l:List (Int×Bytes))(h:Q8 d p=true)(ha:d.arm≠1):F3 d (p::l)=F3 (Hr d p) l:=by
 simp only[F3,h,if_true,Hr,ha,if_false];split<;>rfl
theorem cw8{d:Dev}{p:Int×Bytes}(l:List (Int×Bytes))(h:Q8 d p=false):F3 d (p::l)=(d,false):=by
 rw[F3,if_neg (by rw[h];simp)]
theorem cw7{d:Dev}{p:Int×Bytes}(l:List (Int×Bytes))(h:Q8 d p=true)(ha:d.arm=1):F3 d (p::l)=(⟨d.last,some (els d.wait++[p]),d.lies,0,true⟩,false):=by
 rw[F3,if_pos h,if_pos om,if_pos ha]
def H6(d:Dev)(l:List (Int×Bytes)):Dev:=l.foldl Hr d
theorem dz2{l:List (Int×Bytes)}{j:Nat}(hj:j<l.length)(d:Dev):H6 d (l.take (j+1))=Hr (H6 d (l.take j)) (l.getD j default):=by
 unfold H6;rw[Dd hj,List.foldl_append];rfl
theorem b93(d:Dev)(p:Int×Bytes):(Hr d p).last=d.last/\(Hr d p).lies=d.lies/\(Hr d p).down=d.down/\(Hr d p).arm<=d.arm/\(Hr d p).wait=some (els d.wait++[p]):=by
 unfold Hr Wm;split
 ·exact⟨rfl,rfl,rfl,by simp only;omega,rfl⟩
 ·exact⟨rfl,rfl,rfl,e80 _,rfl⟩
theorem b1m:∀ (l:List (Int×Bytes)) (d:Dev),(H6 d l).last=d.last/\(H6 d l).lies=d.lies/\(H6 d l).down=d.down/\(H6 d l).arm<=d.arm/\(els (H6 d l).wait).length=(els d.wait).length+l.length
 |[],d=>⟨rfl,rfl,rfl,e80 _,rfl⟩
 |p::l,d=>by
   obtain⟨a,b,c,e,f⟩:=b1m l (Hr d p);obtain⟨a2,b2,c2,e2,f2⟩:=b93 d p;have h:H6 d (p::l)=H6 (Hr d p) l:=rfl;rw[h];refine⟨a.trans a2,b.trans b2,c.trans c2,by omega,?_⟩;rw[f,f2,Az,e58,e5w,e5w,e6f];omega
def Ww(data k seat:Int):Int:=if Df data k<0\/seat<0\/6<=seat then -1 else Df data k+1+seat
theorem c9q(data k:Int):-1<=Df data k/\Df data k<=300:=by
 unfold Df;split
 ·omega
 ·rename_i h;have h1:Ei data=true:=by cases hm:Ei data<;>simp_all
  have hb:40<=data/\data<=240:=by unfold Ei at h1;simpa using h1
  simp only[not_or]at h;split<;>omega
theorem a8a(data k seat:Int)(hs:seat<=1000)(H:AH):K tab A7 A5 10 [.int .i64 data,.int .i64 k,.int .i64 seat] H=some (.int .i64 (Ww data k seat),H):=by
 refine Ae l10 rfl rfl rfl ?_ H;have h1:=λH=>a69 (orc:=A7) (lk:=A5) data k H (λH=>a0h data H);have hb:=c9q data k;unfold Ww;generalize Df data k=a at *;by_cases c1:a<0
 ·simp(disch:=try exact dq)only[tx,seval,Y1,h1,c1]
  try simp[c1]
 ·by_cases c2:seat<0
  ·simp(disch:=try exact dq)only[tx,seval,Y1,h1,c1,c2]
   try simp[c2]
  ·by_cases c3:6<=seat
   ·simp(disch:=try exact dq)only[tx,seval,Y1,h1,c1,c2,c3]
    try simp[c3]
   ·simp(disch:=try exact dq)only[tx,seval,Y1,h1,c1,c2,c3,e74]
    try simp[c1,c2,c3]

theorem c82(c:Nat)(H:AH)(o:OE)(x:AV)(h:Option AObj)(H1:AH):clK c H o (some (x,h::H1))=o:=rfl
theorem Gm{f:FuncId}(hl:A5 f=false)(E:CallF)(a:List Opd)(c:Nat)(V:Opd->AV)(H:AH):Hq A5 E f a c V H=Gh E f (a.map V) c H (Iy H (H.length*4+40) (C1 (a.map V)) []):=by
 have h:=Fu hl E a c V H [];unfold Jw at h;rw[if_neg (by simp[hl])]at h;exact h





def G7(x:Block):List AV:=[.int .i64 x.kind,.int .i64 x.birth,.str x.load]
theorem Cg(l:List Block):refsO (some (l.map G7))=[]:=Gz l _ λ_=>rfl
theorem Cf(τ:Nat->Option Nat)(l:List Block):renO τ (l.map G7)=l.map G7:=Og τ l _ λ_=>rfl
section
theorem d1q(o:List Ptr)(i:Nat)(q:Ptr):(o.map Aj).set i [.int .i64 q.addr,.int .i64 q.birth,.int .u32 q.sum.a.toNat,.int .u32 q.sum.b.toNat,.int .u32 q.sum.c.toNat,.int .u32 q.sum.d.toNat]=(o.set i q).map Aj:=by rw[List.map_set];rfl
theorem dy0(o:List Ptr)(i:Nat)(h:i<o.length):(o.map Aj)[i]?=some [.int .i64 (o.getD i default).addr,.int .i64 (o.getD i default).birth,.int .u32 (o.getD i default).sum.a.toNat,.int .u32 (o.getD i default).sum.b.toNat,.int .u32 (o.getD i default).sum.c.toNat,.int .u32 (o.getD i default).sum.d.toNat]:=Ic h Aj
theorem bk3(x:NodeH)(z:Int)(l:List Ptr):(Np x z l).length<=1000:=by
 unfold Np;split
 ·rename_i h;simp only[e58,a5h,Fc [1,1,1] [x.kind,x.up,(x.name.length:Int)] rfl,Fc [2] [z] rfl,h.2.2.2.1]
  have:=h.1.2.2.2;simp;omega
 ·simp
theorem bk0(l:List Ptr):(Ro l).length<=1000:=by
 unfold Ro;split
 ·rename_i h
  have:=a3u l;omega
 ·simp
theorem az3(l:List DsetH)(p:List Ptr):(J1 l p).length<=1000:=by
 unfold J1;split
 ·rename_i h;rw[e58,Tq]
  have:=az4 l p;omega
 ·simp
theorem d2v(r:Root):(Rp r).length<=1000:=by
 unfold Rp;split
 ·simp only[e58,Xb,Fc [4,4,4] [r.txg,r.next,r.guid] rfl,Fc [4] [r.keptTxg] rfl];simp
 ·simp
section
variable (bl:List Block) (bp:List Ptr) (hb:bl.length=bp.length) (hbl:bl.length<=1000) (pk:Sl UInt8) (hl:(els pk).length<=1000000)
include hb hbl hl
end
end
section
section
variable (bl:List Block) (bp:List Ptr) (hb:bl.length=bp.length) (hbl:bl.length<=1000) (pk:Sl UInt8) (hl:(els pk).length<=1000000)
include hb hbl hl
end
end
section
section
variable (bl:List Block) (bp:List Ptr) (hb:bl.length=bp.length) (hbl:bl.length<=1000) (pk:Sl UInt8) (hl:(els pk).length<=1000000)
include hb hbl hl
end
end
theorem d66(H:AH):K tab A7 A5 13 [] H=some (.fz (Hx.map Ao),H):=by
 refine Ae l13 rfl rfl rfl ?_ H
 simp(disch:=try exact dq)only[tx,seval,g13,List.replicate];rfl
theorem d1v(l m:Sl Node)(hl:(els l).length<=1000000)(hm:(els m).length<=1000000)(H:AH):K tab A7 A5 12 [A4 Ao l,A4 Ao m] H=some (.bool (decide (els l=els m)),H):=by
 refine Ae l12 rfl (by simp[Aa,Ab,Ak]) rfl ?_ H;by_cases c:((els l).length:Int)=(els m).length
 ·simp(disch:=try exact dq)only[tx,seval,g12,c];generalize hr:Ai _ _ _=r;refine Bb hr (els l).length (λj=>[A4 Ao l,A4 Ao m,.top,.int .i64 j])
   (λj=>[]) (λj=>(els l).take j=(els m).take j) ?_ ?_ ?_ ?_ ?_
  ·rfl
  ·rfl
  ·rfl
  ·intro j hj hI;have hj':((j:Int)<((els l).length:Int)):=om;have hj2:((j:Int)<((els m).length:Int)):=om;rw[Dd hj,Dd (show j<(els m).length by omega),hI];have hne:(els l).getD j default≠(els m).getD j default->els l≠els m:=λh e=>h (by rw[e]);generalize hx:(els l).getD j default=x at *;generalize hy:(els m).getD j default=y at *
   simp(disch:=try exact dq)only[tx,seval,hj',hj2,Bl,Ao,e74,hx,hy,am1];by_cases hxy:x=y
   ·subst hxy;exact⟨λh=>absurd h (by simp),λ_=>⟨rfl,rfl⟩⟩
   ·have hf:=hne hxy;exact⟨λ_=>by simp[hf],λh=>(h (by simp[hxy])).elim⟩
  ·intro hI;rw[e68,e4h om]at hI
   simp(disch:=try exact dq)only[tx,seval,e7f,c];simp[hI]
 ·simp(disch:=try exact dq)only[tx,seval,g12,c];have hne:¬ els l=els m:=λe=>c (by rw[e]);simp[hne]
def Ju(d:Dev):List AV:=[A4 B1 d.last,A4 B2 d.wait,.int .i64 d.lies,.int .i64 d.arm,.bool d.down]
def Gf(s:Bytes):List AV:=[.str s]
def Gg(p:Int×Bytes):List AV:=[.int .i64 p.1,.str p.2]
theorem Ko(l:List Bytes):refsO (some (l.map Gf))=[]:=Gz l _ λ_=>rfl
theorem Km(τ:Nat->Option Nat)(l:List Bytes):renO τ (l.map Gf)=l.map Gf:=Og τ l _ λ_=>rfl
theorem Y2(r:Nat)(es:List (List PV))(l:List Bytes):(l.map Gf).map (Bm r es)=l.map Gf:=S7 _ _ _ λe he=>by obtain⟨p,_,rfl⟩:=e7o.1 he;rfl
theorem Wr(l:List Bytes):Cm (l.map Gf)=some (l.map B1):=Je _ _ (λ_=>rfl) l
theorem Iw(l:List (Int×Bytes)):refsO (some (l.map Gg))=[]:=Gz l _ λ_=>rfl
theorem Hv(τ:Nat->Option Nat)(l:List (Int×Bytes)):renO τ (l.map Gg)=l.map Gg:=Og τ l _ λ_=>rfl
theorem Td(r:Nat)(es:List (List PV))(l:List (Int×Bytes)):(l.map Gg).map (Bm r es)=l.map Gg:=S7 _ _ _ λe he=>by obtain⟨p,_,rfl⟩:=e7o.1 he;rfl
theorem Si(l:List (Int×Bytes)):Cm (l.map Gg)=some (l.map B2):=Je _ _ (λ_=>rfl) l
theorem bu4(l:List (Int×Bytes)):(l.map λa=>(B2 a).map emb)=l.map Gg:=rfl
theorem bu3(l:List Bytes):(l.map λa=>(B1 a).map emb)=l.map Gf:=rfl
theorem A0:IntKind.i64.wrap ((BitVec.ofInt IntKind.i64.bits 0 &&& BitVec.ofInt IntKind.i64.bits 1).toNat:Int)=0:=by decide +kernel
theorem A1:IntKind.i64.wrap ((BitVec.ofInt IntKind.i64.bits 1 &&& BitVec.ofInt IntKind.i64.bits 1).toNat:Int)=1:=by decide +kernel
theorem A2:IntKind.i64.wrap ((BitVec.ofInt IntKind.i64.bits 2 &&& BitVec.ofInt IntKind.i64.bits 1).toNat:Int)=0:=by decide +kernel
theorem A3:IntKind.i64.wrap ((BitVec.ofInt IntKind.i64.bits 3 &&& BitVec.ofInt IntKind.i64.bits 1).toNat:Int)=1:=by decide +kernel
theorem d1p(o:List Bytes)(i:Nat)(y:Bytes):(o.map Gf).set i [.str y]=(o.set i y).map Gf:=by rw[List.map_set];rfl
def Qd(data:Int)(u:Uber)(half:Int):Sl (Int×Bytes):=
 if Ei data=true/\La u=true/\0<=half/\half<=1 then some [(Ww data half u.seat,Q6 u),(Ww data (half+2) u.seat,Q6 u)]else none
theorem P0(r:Nat)(es:List (List PV))(l:List Block):(l.map G7).map (Bm r es)=l.map G7:=S7 _ _ _ λe he=>by obtain⟨p,_,rfl⟩:=e7o.1 he;rfl



def a2s(n:Node):Prop:=n.name.length<=8/\0<=n.up/\n.up<8
theorem d45{d:Dev}{n:Nat}{p:Ptr}{x:Node}{l:List Ptr}(h:V0 d n p=some (x,l)):a2s x:=by
 unfold V0 at h;split at h
 ·rename_i y z m hm;rw[Option.ite_none_right_eq_some]at h;obtain⟨s,_,hs⟩:=e4c.1 hm;have hc:=au8 hs;have e1:=congrArg Prod.fst (Option.some.inj h.2);simp only at e1;subst e1;exact⟨hc.1.2.2.2,hc.1.2.1,hc.1.2.2.1⟩
 ·cases h
theorem d1c(d:Dev)(n:Nat)(p:Ptr):a2s (Sn d n p).1:=by
 unfold Sn;split
 ·split
  ·rename_i x l h;exact d45 h
  ·simp only[];split
   ·exact⟨by decide,by decide,by decide⟩
   ·exact⟨by decide,by decide,by decide⟩
 ·exact⟨by decide,by decide,by decide⟩
theorem b9q(d:Dev):∀ (l:List Ptr) (n:Nat),∀ x∈Hs d n l,a2s x.1
 |[],_,x,h=>by simp[Hs]at h
 |p::l,n,x,h=>by
   rw[Hs,e79]at h;rcases h with rfl|h
   ·exact d1c d n p
   ·exact b9q d l (n+1) x h
theorem bu6:∀ x∈Xo,a2s x:=by
 intro x hx;simp only[Xo,e79,e61,or_false]at hx;rcases hx with rfl|rfl|rfl|rfl|rfl|rfl|rfl|rfl<;>exact⟨by decide,by decide,by decide⟩
theorem d2l(d:Dev)(p:Ptr):(C5 d p).set.length=8/\∀ x∈(C5 d p).set,a2s x:=by
 unfold C5;split
 ·exact⟨rfl,bu6⟩
 ·rename_i l hl;obtain⟨s,_,hs⟩:=e4c.1 hl;have h8:=(au7 hs).1;unfold al6;split
  ·refine⟨by rw[e6i,a89,h8],λx hx=>?_⟩;obtain⟨y,hy,rfl⟩:=e7o.1 hx;exact b9q d l 0 y hy
  ·exact⟨rfl,bu6⟩
theorem cw5{l:List DsetH}{m:List FilesR}{x:Dset}(h:x∈List.zipWith (λx f=>Sz x f.set) l m):∃ a b,b∈m/\Sz a b.set=x:=by
 induction l generalizing m with
 |nil=>simp at h
 |cons a l ih=>
   cases m with
   |nil=>simp at h
   |cons b m=>
     rw[List.zipWith_cons_cons,e79]at h;rcases h with h|h
     ·exact⟨a,b,by simp,h.symm⟩
     ·obtain⟨a',b',h1,h2⟩:=ih h;exact⟨a',b',by simp[h1],h2⟩
theorem d1n(d:Dev)(l:List DsetH)(q:List Ptr):∀ x∈List.zipWith (λx f=>Sz x f.set) l (q.map (C5 d)),(els x.files).length=8/\∀ n∈els x.files,a2s n:=by
 intro x hx;obtain⟨a,b,hb,rfl⟩:=cw5 hx;obtain⟨p,_,rfl⟩:=e7o.1 hb;exact d2l d p
theorem cw6(l:List DsetH):∀ m:List FilesR,List.zipWith P5 l m=(List.zipWith (λx f=>Sz x f.set) l m).map λa=>(B7 a).map emb:=by
 induction l with
 |nil=>intro m;rfl
 |cons a l ih=>
   intro m;cases m with
   |nil=>rfl
   |cons b m=>rw[List.zipWith_cons_cons,List.zipWith_cons_cons,e75,ih m];rfl
theorem d1l(d:Dev)(l:List DsetH)(q:List Ptr)(hl:l.length=q.length):setsJ d l q l.length=(List.zipWith (λx f=>Sz x f.set) l (q.map (C5 d))).map λa=>(B7 a).map emb:=by
 unfold setsJ;rw[show q.take l.length=q by rw[hl];exact e68,e69,e7k,e6l];exact cw6 l _
def Zd(d:Dev)(p:Ptr):AV:=match Ze d p with
 |some v=>.tuple [.agg (Nh v.r (A4 A8 (Ax v.s.held)) (A4 A8 (Ax v.s.one)) (A4 A8 (Ax v.s.two)) (A4 A8 (Ax v.s.kept)) v),.bool true]
 |none=>.tuple [.agg Zj,.bool false]
theorem cx4(d:Dev)(p:Ptr):Ab (Zd d p)=true:=by
 unfold Zd;split
 ·simp[Nh,Eb,Ab,Aa,Ak]
 ·rfl
theorem a7l(r sz o l t:Nat)(H:AH):K tab A7 A5 43 [.own r sz o l t] H=Hn tab A7 A5 43 [.own r sz o l t] H (Aa (B3 H [.own r sz o l t])) (K tab A7 A5 43 (B3 H [.own r sz o l t]) H):=Nf _ _ _ rfl _ _
theorem d0a(n:Int):Ws n []=none:=by
 have:Dh n []=none:=by
  unfold Dh;rw[if_neg];rintro⟨h,h2,_⟩;have hb:40<=n/\n<=240:=by unfold Jo at h;simpa using h
  rw[e6f]at h2;omega
 unfold Ws;rw[this]
theorem c4h(r:Nat)(es:List (List PV))(A:List Dset):(A.map λa=>(B7 a).map emb).map (Bm r es)=A.map λa=>(B7 a).map emb:=S7 _ _ _ λe he=>by
 obtain⟨a,_,rfl⟩:=e7o.1 he;show Aa [AV.int .i64 a.id,.int .i64 a.kind,.int .i64 a.origin,.int .i64 a.quota,emb (Kt Ao a.files)]=true;rw[O5];simp[Aa,Ab,Ak]
theorem cx3(d:Dev)(hd:DevOk d)(p:Ptr)(H:AH):K tab A7 A5 22 [.agg [A4 B1 d.last,A4 B2 d.wait,.int .i64 d.lies,.int .i64 d.arm,.bool d.down],.agg [.int .i64 p.addr,.int .i64 p.birth,.int .u32 p.sum.a.toNat,.int .u32 p.sum.b.toNat,.int .u32 p.sum.c.toNat,.int .u32 p.sum.d.toNat]] H=some (Zd d p,H):=by
 refine Ae l22 rfl (by simp[Aa,Ab,Ak]) (cx4 d p) ?_ H;unfold Zd Ze;cases hh:V9 d p with
 |none=>
   have h1:=dh7 d hd p hh
   simp(disch:=try exact dq)only[tx,seval,T9,h1,Zj]
 |some x=>
   obtain⟨r,l,q⟩:=x;have h1:=dh6 d hd p hh;obtain⟨hl,hl8⟩:=dh8 hh;have h2:=e01 d hd r l q hl hl8;rw[d1l d l q hl]at h2;have tB:=d00 d q l.length hl;have tC:=cz8 d q l.length hl;have hA:=d1n d l q;have eV:∀ s,Zh (r,l,q) s (q.map (C5 d))=⟨r,s,List.zipWith (λx f=>Sz x f.set) l (q.map (C5 d)),q,q.map λp=>(C5 d p).node,q.map λp=>(C5 d p).part⟩:=λs=>by
    simp[Zh,e7q]
   simp only[eV];have lA:(List.zipWith (λx f=>Sz x f.set) l (q.map (C5 d))).length=l.length:=(by simp;omega);have lB:(q.map λp=>(C5 d p).node).length=l.length:=(by simp;omega);have lC:(q.map λp=>(C5 d p).part).length=l.length:=(by simp;omega);generalize List.zipWith (λx f=>Sz x f.set) l (q.map (C5 d))=A at *
   generalize (q.map λp=>(C5 d p).node)=B at *
   generalize (q.map λp=>(C5 d p).part)=C at *;have hM:=a5v (some A) (by rw[Az];omega) (λx hx=>⟨by have:=(hA x hx).1;omega,λn hn=>by have:=((hA x hx).2 n hn).1;omega⟩);rw[Az,Cx]at hM;have kA:List.take l.length (A.map B7)=A.map B7:=e4h (by rw[e6i];omega);have kB:List.take l.length (B.map Sr)=B.map Sr:=e4h (by rw[e6i];omega);have kC:List.take l.length (C.map Sr)=C.map Sr:=e4h (by rw[e6i];omega);have kQ:List.take l.length (q.map Al)=q.map Al:=e4h (by rw[e6i];omega);have kE:List.take l.length (A.map λa=>(B7 a).map emb)=A.map λa=>(B7 a).map emb:=e4h (by rw[e6i];omega);have vA:∀ H,(A.map λa=>(B7 a).map emb).map (λe=>e.map (Cq H 3))=A.map B7:=λH=>as8 H A B7;have hld:=a0k d hd r.space 5;have h3:=hd.last;have hq:=c7g d.last d.wait d.lies d.arm d.down om;have e:H7 ⟨d.last,d.wait,d.lies,d.arm,d.down⟩=H7 d:=rfl;rw[e]at hq;have hb:H7 d<=1000/\ -100<=H7 d:=(by unfold H7;omega);unfold Eb at h2;cases hT:((q.map (C5 d)).all λf=> !f.torn)with
   |false=>
     rw[hT]at h2;have hT2:¬ ((q.map (C5 d)).any (·.torn)=false/\Gb A=true):=λh=>by
      have:((q.map (C5 d)).all λf=> !f.torn)=true:=by
       rw[e5x];intro f hf
       have:=h.1;rw[List.any_eq_false]at this
       have:=this f hf;simpa using this
      rw[hT]at this;cases this
     rw[if_neg hT2]
     simp(disch:=try exact dq)only[tx,seval,T9,KQ 48 rfl,h1,<-hl,h2,Eb,Ay,Jk,Bk,Iv,Br,Uu,Ut,Sp,Us,Ur,e6k,e6i];rfl
   |true=>
     rw[hT]at h2;have hany:(q.map (C5 d)).any (·.torn)=false:=by
      rw[List.any_eq_false];intro f hf;rw[e5x]at hT
      have:=hT f hf;simpa using this
     cases hmy:Gb A with
     |false=>
       rw[hmy]at hM;rw[if_neg (λh=>e5f h.2)]
       simp(disch:=try exact dq)only[tx,seval,T9,KQ 48 rfl,h1,<-hl,h2,Eb,Ay,Jk,Bk,Iv,Br,Uu,Ut,Sp,Us,Ur,e6k,e6i,a7l,Pu,lA,kE,vA,hM];rfl
     |true=>
       rw[hmy]at hM;rw[if_pos ⟨hany,rfl⟩];have hsp:∀ s:Bytes,s.length<=249->∀ H,K tab A7 A5 50 [.int .i64 (H7 d),.str s] H=some (Jg (Ws (H7 d) s),H):=λs hs=>d0b (H7 d) om om s om;cases hL:Hy d r.space 5 with
       |none=>
         rw[hL]at hld;have hs0:=hsp [] (by simp);rw[d0a]at hs0;unfold Jg at hs0
         simp(disch:=try exact dq)only[tx,seval,T9,KQ 48 rfl,h1,<-hl,h2,Eb,Ay,Jk,Bk,Iv,Br,Uu,Ut,Sp,Us,Ur,e6k,e6i,a7l,Pu,lA,kE,vA,hM,hld,De,hq,hs0,e6b,e54];rfl
       |some s=>
         rw[hL]at hld;have hs0:=hsp s (a48 hL);simp only[e5y];cases hS:Ws (H7 d) s with
         |none=>
           rw[hS]at hs0;unfold Jg at hs0
           simp(disch:=try exact dq)only[tx,seval,T9,KQ 48 rfl,h1,<-hl,h2,Eb,Ay,Jk,Bk,Iv,Br,Uu,Ut,Sp,Us,Ur,e6k,e6i,a7l,Pu,lA,kE,vA,hM,hld,De,hq,hs0,e5u,e55];rfl
         |some sp=>
           rw[hS]at hs0;unfold Jg at hs0;simp only[e6h]
           simp(disch:=try exact dq)only[tx,seval,T9,KQ 48 rfl,h1,<-hl,h2,Eb,Ay,Jk,Bk,Iv,Br,Uu,Ut,Sp,Us,Ur,e6k,e6i,a7l,Pu,lA,kE,vA,hM,hld,De,hq,hs0,e5u,e55,a7s,c4h,e6g,e5y,e6h,tB,tC,Re,lB,lC,kA,kB,kC,kQ,dy7,Oz];rfl

theorem b9r(d:Dev):∀ (n:Nat) (l:List Ptr),(((Hs d n l).map (·.2.1)).flatten).length=4*l.length
 |_,[]=>rfl
 |n,p::l=>by rw[Hs,e75,e5l,e58,b9r d (n+1) l,(aw9 d n p).1,e5w];omega
theorem bj1(d:Dev)(p:Ptr):(C5 d p).node.length=8/\(C5 d p).part.length=32:=by
 unfold C5;split
 ·exact⟨by simp[Fp],by simp[Fp]⟩
 ·rename_i l hl;obtain⟨s,_,hs⟩:=e4c.1 hl;have h8:=(au7 hs).1;have hf:=b9r d 0 l;unfold al6;split
  ·exact⟨h8,by show(((Hs d 0 l).map (·.2.1)).flatten).length=32;omega⟩
  ·exact⟨h8,by show(((Hs d 0 l).map (·.2.1)).flatten).length=32;omega⟩
theorem b5v:∀ (n:Nat) (a:Int),Fl (n+1) a=Fl n a++[a+n]
 |0,a=>by simp[Fl]
 |n+1,a=>by
   rw[Fl,b5v n (a+1),Fl,e62]
   congr 3;omega
theorem b5u:∀ (k n:Nat) (a:Int),(Fl n a).take k=Fl (min k n) a
 |0,n,a=>by rw[Nat.zero_min];rfl
 |k+1,0,a=>by simp[Fl]
 |k+1,n+1,a=>by rw[Fl,e4w,b5u k n (a+1),show min (k+1) (n+1)=min k n+1 by omega,Fl]
theorem e30(l:List Rn)(r:Rn):H9 (l++[r])=H9 l++Fl (r.b-r.a).toNat r.a:=by simp[H9]
theorem dz6(l:List Rn)(r:Rn)(n:Nat):(H9 (l++[r])).take n=(H9 l).take n++Fl (min (r.b-r.a).toNat (n-((H9 l).take n).length)) r.a:=by
 rw[e30,List.take_append,b5u,e67]
 congr 2
 omega
def Y6(l:List Rn)(n:Int):List AV:=match al0 l n with
 |some o=>[.fz (o.map λx=>[.int .i64 x]),.bool true]
 |none=>[.emp,.bool false]






def a3x(x:Block):List PV:=[.int .i64 x.kind,.int .i64 x.birth,.str x.load]
theorem Uf(l:List Block):Cm (l.map G7)=some (l.map a3x):=Je _ _ (λ_=>rfl) l
theorem Nz{Q:R3->Prop}{step:List AV->AH->R3}{cf:List AV}{H:AH}{r:R3}(hl:Ai step cf H=r)(h:Q (V2 step (step cf H))):Q r:=by
 subst hl;rw[T3];exact h






structure Calm(x:AObj):Prop where
 refs:refsO (some x)=[]
 ren:∀ τ,renO τ x=x
def Kx(b:Bytes)(k:Nat):Bytes:=
 if List.drop (32*k) (List.take (32*k+32) (b++zs (128-b.length)))=zs 32 then []else List.drop (32*k) (List.take (32*k+32) (b++zs (128-b.length)))
theorem bm8(b:Bytes)(k:Nat):(Kx b k).length<=32:=by
 unfold Kx;split
 ·simp
 ·rw[e60,e67];omega
structure OldW where
 d:Dset
 set:Ptr
 node:List Ptr
 part:List Ptr
structure LW where
 bl:List Block
 at':List Int
 held:List Int
 olds:List OldW
instance:Inhabited OldW:=⟨⟨⟨0,0,0,0,none⟩,Bt,[],[]⟩⟩
def LW.point(w:LW)(p:Ptr):LW:=⟨w.bl,w.at',w.held++[p.addr],w.olds⟩
def Qy(free:List Int)(n:Nat):Int:=if n<free.length then free.getD n default else 0
def LW.put(txg:Int)(free:List Int)(w:LW)(kind:Int)(load:Bytes):Ptr×LW:=
 (Sa (Qy free w.bl.length) ⟨kind,txg,load⟩,⟨w.bl++[⟨kind,txg,load⟩],w.at'++[Qy free w.bl.length],w.held++[Qy free w.bl.length],w.olds⟩)
def a0v(o:OldW)(n:Nat):Bool:=decide (n<(els o.d.files).length)&&decide ((n+1)*4<=o.part.length)
def bm7(o:OldW)(n:Nat):List Ptr:=if a0v o n=true then(o.part.drop (n*4)).take 4 else []
def Xm(n k:Nat)(s:Bytes)(o:OldW):Bool:=a0v o n&&decide (Kx ((els o.d.files).getD n default).body k=s)
def LW.part(txg:Int)(free:List Int)(w:LW)(n k:Nat)(s:Bytes):Ptr×LW:=
 if s=[]then(Bt,w)else match w.olds.find? (Xm n k s)with
  |some o=>(o.part.getD (n*4+k) default,w.point (o.part.getD (n*4+k) default))
  |none=>w.put txg free 1 s
def LW.partJ(txg:Int)(free:List Int)(w:LW)(n:Nat)(body:Bytes):Nat->List Ptr×LW
 |0=>([],w)
 |j+1=>((LW.partJ txg free w n body j).1++[((LW.partJ txg free w n body j).2.part txg free n j (Kx body j)).1],((LW.partJ txg free w n body j).2.part txg free n j (Kx body j)).2)
def Xn(n:Nat)(x:Node)(l:List Ptr)(o:OldW):Bool:=decide (bm7 o n=l)&&decide (n<o.node.length) &&
 (decide (((els o.d.files).getD n default).kind=x.kind)&&decide (((els o.d.files).getD n default).up=x.up)&&decide (((els o.d.files).getD n default).name=x.name)&&decide (((els o.d.files).getD n default).body.length=x.body.length))
def LW.node1(txg:Int)(free:List Int)(w:LW)(n:Nat)(x:Node)(l:List Ptr):Ptr×LW:=match w.olds.find? (Xn n x l)with
 |some o=>(o.node.getD n default,w.point (o.node.getD n default))
 |none=>w.put txg free 2 (Np ⟨x.kind,x.up,x.name⟩ x.body.length l)
def LW.node(txg:Int)(free:List Int)(w:LW)(n:Nat)(x:Node):(Ptr×List Ptr)×LW:=
 if x.kind=0 then((Bt,Fp 4),w)else
  (((((LW.partJ txg free w n x.body 4).2.node1 txg free n x (LW.partJ txg free w n x.body 4).1).1),(LW.partJ txg free w n x.body 4).1),((LW.partJ txg free w n x.body 4).2.node1 txg free n x (LW.partJ txg free w n x.body 4).1).2)
def LW.nodes(txg:Int)(free:List Int)(w:LW)(l:List Ptr):Ptr×LW:=match w.olds.find? (λo=>decide (o.node=l))with
 |some o=>(o.set,w.point o.set)
 |none=>w.put txg free 3 (Ro l)
def LW.setJ(txg:Int)(free:List Int)(w:LW)(f:List Node):Nat->(List Ptr×List Ptr)×LW
 |0=>(([],[]),w)
 |j+1=>(((LW.setJ txg free w f j).1.1++[((LW.setJ txg free w f j).2.node txg free j (f.getD j default)).1.1],(LW.setJ txg free w f j).1.2++((LW.setJ txg free w f j).2.node txg free j (f.getD j default)).1.2),((LW.setJ txg free w f j).2.node txg free j (f.getD j default)).2)
def LW.old(w:LW)(o:OldW):LW:=⟨w.bl,w.at',w.held,w.olds++[o]⟩
def LW.set(txg:Int)(free:List Int)(w:LW)(x:Dset):Ptr×LW:=
 let q:=LW.setJ txg free w (els x.files) (els x.files).length;let r:=q.2.nodes txg free q.1.1
 (r.1,r.2.old ⟨x,r.1,q.1.1,q.1.2⟩)
def LW.setsJ(txg:Int)(free:List Int)(w:LW)(l:List Dset):Nat->List Ptr×LW
 |0=>([],w)
 |j+1=>((LW.setsJ txg free w l j).1++[((LW.setsJ txg free w l j).2.set txg free (l.getD j default)).1],((LW.setsJ txg free w l j).2.set txg free (l.getD j default)).2)
theorem c93(k b:Int)(l:Bytes)(hl:l.length<=1000000)(H:AH):K tab A7 A5 83 [.agg [.int .i64 k,.int .i64 b,.str l]] H=some (.str (Ew ⟨k,b,l⟩),H):=by
 refine Ae l83 rfl rfl rfl ?_ H
 simp(disch:=try exact dq)only[tx,seval,g83,a1v]
theorem b30(at' k b:Int)(l:Bytes)(hl:l.length<=1000000)(H:AH):K tab A7 A5 81 [.int .i64 at',.agg [.int .i64 k,.int .i64 b,.str l]] H=some (.agg (Aj (Sa at' ⟨k,b,l⟩)),H):=by
 refine Ae l81 rfl rfl rfl ?_ H;have h:=az7 ⟨k,b,l⟩
 simp(disch:=try exact dq)only[tx,seval,g81,c93,cz7,Aj,Sa]
theorem d1d(data k seat:Int)(hs:seat<=1000)(H:AH):K tab A7 A5 124 [.int .i64 data,.int .i64 k,.int .i64 seat] H=some (.int .i64 (Ww data k seat),H):=by
 refine Ae dd6 rfl rfl rfl ?_ H;have h1:=λH=>a68 (orc:=A7) (lk:=A5) data k H;have hb:=c9q data k;unfold Ww;generalize Df data k=a at *;by_cases c1:a<0
 ·simp(disch:=try exact dq)only[tx,seval,Xz,h1,c1]
  try simp[c1]
 ·by_cases c2:seat<0
  ·simp(disch:=try exact dq)only[tx,seval,Xz,h1,c1,c2]
   try simp[c2]
  ·by_cases c3:6<=seat
   ·simp(disch:=try exact dq)only[tx,seval,Xz,h1,c1,c2,c3]
    try simp[c3]
   ·simp(disch:=try exact dq)only[tx,seval,Xz,h1,c1,c2,c3,e74]
    try simp[c1,c2,c3]
theorem d3n(a b c d:Int)(H:AH):K tab A7 A5 39 [.str [52,52,52,52],.fz [[.int .i64 a],[.int .i64 b],[.int .i64 c],[.int .i64 d]]] H=some (.str (B5 [4,4,4,4] [a,b,c,d]),H):=Q7 _ (by decide) (some [a,b,c,d]) H
theorem d3r(a b c:Int)(H:AH):K tab A7 A5 39 [.str [49,52,50],.fz [[.int .i64 a],[.int .i64 b],[.int .i64 c]]] H=some (.str (B5 [1,4,2] [a,b,c]),H):=Q7 _ (by decide) (some [a,b,c]) H
theorem d3q(a b c d:Int)(H:AH):K tab A7 A5 39 [.str [49,52,52,49],.fz [[.int .i64 a],[.int .i64 b],[.int .i64 c],[.int .i64 d]]] H=some (.str (B5 [1,4,4,1] [a,b,c,d]),H):=Q7 _ (by decide) (some [a,b,c,d]) H
theorem bb4(s:Bytes)(hs:s.length<=240)(H:AH):K tab A7 A5 38 [.str s] H=some (.str (Wz s),H):=by
 refine Ae l38 rfl rfl rfl ?_ H;have u:∀ x:UInt32,x.toNat<4294967296:=λx=>x.toNat_lt;have ua:=u (Ck s).a;have ub:=u (Ck s).b;have uc:=u (Ck s).c;have ud:=u (Ck s).d;have T6:(B5 [4,4,4,4] (a36 (Ck s))).length=16:=Fc _ _ rfl;unfold Wz;unfold a36 at T6 ⊢;have hS:=λH=>av4 s om H;generalize Ck s=S at *
 simp(disch:=try exact dq)only[tx,seval,g38,b50,hS]
 iterate 5 (rw[T3];simp(disch:=first|omega|decide)only[t0,seval,e74])
 simp(disch:=try exact dq)only[tx,seval,as3,d3n,T6,a3m,U8,e74];have e:(256-((s.length+16:Nat):Int)).toNat=240-s.length:=om;rw[e]
theorem d26(t g s a b:Int)(c d e f:UInt32)(H:AH):K tab A7 A5 123 [.agg [.int .i64 t,.int .i64 g,.int .i64 s,.int .i64 a,.int .i64 b,.int .u32 c.toNat,.int .u32 d.toNat,.int .u32 e.toNat,.int .u32 f.toNat]] H=some (.bool (La ⟨t,g,s,⟨a,b,⟨c,d,e,f⟩⟩⟩),H):=by
 refine Ae dd7 rfl rfl rfl ?_ H
 simp(disch:=try exact dq)only[tx,seval,aj3,b5z]
theorem e19(guid data:Int)(H:AH):K tab A7 A5 16 [.int .i64 guid,.int .i64 data] H=some (.str (J7 guid data),H):=by
 refine Ae l16 rfl rfl rfl ?_ H;have h7:(B5 [1,4,2] [172,guid,data]).length=7:=Fc _ _ rfl
 simp(disch:=try exact dq)only[tx,seval,g16,bb4,Gs,as3,d3r,h7,e74];unfold J7 Ei;simp only[e6n,e5v,e5h];by_cases c:((guid<0\/1073741824<guid)\/data<40)\/240<data
 ·rw[if_pos c,if_neg om]
 ·rw[if_neg c,if_pos om]
theorem cy5(t g s a b:Int)(c d e f:UInt32)(H:AH):K tab A7 A5 160 [.agg [.int .i64 t,.int .i64 g,.int .i64 s,.int .i64 a,.int .i64 b,.int .u32 c.toNat,.int .u32 d.toNat,.int .u32 e.toNat,.int .u32 f.toNat]] H=some (.str (Q6 ⟨t,g,s,⟨a,b,⟨c,d,e,f⟩⟩⟩),H):=by
 refine Ae da6 rfl rfl rfl ?_ H;have Va:(B5 [1,4,4,1] [171,t,g,s]).length=10:=Fc _ _ rfl;have hp:=a3u [⟨a,b,⟨c,d,e,f⟩⟩];simp only[e5w,e6f]at hp;have hsz:(B5 [1,4,4,1] [171,t,g,s]++Et [⟨a,b,⟨c,d,e,f⟩⟩]).length<=240:=by rw[e58,Va];omega
 simp(disch:=try exact dq)only[tx,seval,ag9,b5z,Gs,d3q,Ua,bl6,bb4,Va];unfold Q6;cases hm:La ⟨t,g,s,⟨a,b,⟨c,d,e,f⟩⟩⟩with
 |false=>rfl
 |true=>
   have hq:Ct ⟨a,b,⟨c,d,e,f⟩⟩=true:=(by simp only[La,e5v]at hm;exact hm.1.2);simp[Et,hq]
theorem P6{α:Type}{f:FuncId}{sz:Nat}(p:α->List PV)(hp:∀ a,(p a).length=sz)(hnt:A9 tab f=none)(ho:∀ args H,A7 f args H=Fi sz true f args H)(l:Sl α)(hl:(els l).length<=1000000) :
 Ev tab A7 A5 f [A4 p l] []=some (.own 0 sz 0 (els l).length (els l).length,[some ((els l).map λa=>(p a).map emb)]):=by
 refine Zc hnt ?_;rw[ho];cases l with
 |none=>rfl
 |some l=>
   rw[Az]at hl;simp only[Cx,Fi,Az];rw[if_pos ⟨by simp[hp],by rw[e6i];exact hl,.inr trivial⟩,e6i,e7q];rfl
theorem Ns{f:FuncId}(hlk:A5 f=false){args:List AV}(ha:Aa args=true){sz n:Nat}{o:AObj}(ho:∀ τ,renO τ o=o)(h:Ev tab A7 A5 f args []=some (.own 0 sz 0 n n,[some o]))(H:AH) :
 K tab A7 A5 f args H=some (.own H.length sz 0 n n,H++[some o]):=by
 rw[Wl hlk ha h H];simp only[Nn,Sj,e6f,e6r,if_false,e7m,e7l,Nt,e75,e7k,e6h,ho]
theorem Vo{f:FuncId}{a:List Opd}{c:Nat}{V:Opd->AV}{H:AH}{sz n:Nat}{o:AObj}{args:List AV}(hV:a.map V=args)(hlk:A5 f=false)(hb:Aa args=true)(ho:∀ τ,renO τ o=o)(h:Ev tab A7 A5 f args []=some (.own 0 sz 0 n n,[some o]))(hc:c+1<=H.length) :
 clK c H (Hq A5 (K tab A7 A5) f a c V H) (some (.own 0 sz 0 n n,[some o]))=some ([.con c],[.con c,.len c],c+1,.own c sz 0 n n,C3 H [c] [some o]):=by
 subst hV;show Hq A5 (K tab A7 A5) f a c V H=_;rw[b2n (x:=.own 0 sz 0 n n) (H1:=[some o]) hb (Ns hlk hb ho h []) hc];simp only[e5w,e6f,e7p,List.range'_one,e75,e7k,e62,e6k,Nn,Zo,e49,Nt,e6h,ho]
def En(d:Dev):Dev:=⟨some (els d.last),some (els d.wait),d.lies,d.arm,d.down⟩
theorem a9r(l:List Bytes):∀ τ,renO τ (l.map Gf)=l.map Gf:=λτ=>Km τ l
theorem a9s(l:List (Int×Bytes)):∀ τ,renO τ (l.map Gg)=l.map Gg:=λτ=>Hv τ l
theorem c6w(d:Dev)(hl:(els d.last).length<=100000)(hw:(els d.wait).length<=1000000) :
 Ev tab A7 A5 73 [.agg [A4 B1 d.last,A4 B2 d.wait,.int .i64 d.lies,.int .i64 d.arm,.bool d.down]] []=some (.agg [.own 0 1 0 (els d.last).length (els d.last).length,.own 1 2 0 (els d.wait).length (els d.wait).length,.int .i64 d.lies,.int .i64 d.arm,.bool d.down],[some ((els d.last).map Gf),some ((els d.wait).map Gg)]):=by
 refine Cv l73 rfl ?_;have h1:=P6 (f:=52) B1 (λ_=>rfl) br5 (λ_ _=>bn9 _ _) d.last om;have h2:=P6 (f:=53) B2 (λ_=>rfl) br6 (λ_ _=>bo0 _ _) d.wait hw;rw[bu3]at h1;rw[bu4]at h2;have k1:=Ns (f:=52) rfl (by simp[Aa,Ak]) (a9r _) h1;have k2:=Ns (f:=53) rfl (by simp[Aa,Ak]) (a9s _) h2;have q1:=λa c V H hV hc=>Vo (f:=52) (a:=a) (c:=c) (V:=V) (H:=H) hV rfl (by simp[Aa,Ak]) (a9r _) h1 hc;have q2:=λa c V H hV hc=>Vo (f:=53) (a:=a) (c:=c) (V:=V) (H:=H) hV rfl (by simp[Aa,Ak]) (a9s _) h2 hc
 simp(disch:=try exact dq)only[tx,seval,g73,k1,k2,e6k,e6f];rw[q1 _ _ _ _ rfl (by simp)]
 simp(disch:=try exact dq)only[tx,seval,k2,e6k,e6f];rw[q2 _ _ _ _ rfl (by simp)]
 simp(disch:=try exact dq)only[tx,seval,Ko,Km,Iw,Hv,e6k,e6f]
def Ga(out:List Bytes)(w:List (Int×Bytes))(h:Nat->Int):Nat->List Bytes
 |0=>out
 |j+1=>if 0<=(w.getD j default).1/\(w.getD j default).1<(Ga out w h j).length then(Ga out w h j).set (w.getD j default).1.toNat (a9v ((Ga out w h j).getD (w.getD j default).1.toNat default) (w.getD j default).2 (h j))else Ga out w h j
theorem Zv(out:List Bytes)(w:List (Int×Bytes))(h:Nat->Int):∀ j,(Ga out w h j).length=out.length
 |0=>rfl
 |j+1=>by
   rw[Ga];split
   ·rw[e6e,Zv]
   ·exact Zv out w h j
theorem c4y(k:Int)(H:AH):K tab A7 A5 76 [.int .i64 k] H=some (.int .i64 3,H):=by
 refine Ae l76 rfl rfl rfl ?_ H
 simp(disch:=try exact dq)only[tx,seval,g76]
theorem d05(l:Bytes)(n:Nat):List.take (min n l.length) l=List.take n l:=by
 rw[List.take_eq_take_iff];omega
theorem e0p(l:Bytes)(n:Nat):List.drop (min n l.length) l=List.drop n l:=by
 by_cases h:n<=l.length
 ·rw[e6s h]
 ·rw[Nat.min_eq_right om,e69,List.drop_eq_nil_of_le om]
theorem d67(l:Bytes):(if((l.length:Nat):Int)<128 then((l.length:Nat):Int)else 128)=((min 128 l.length:Nat):Int):=by
 split<;>omega
theorem D0:Int.fdiv 0 (2 ^ min 1 IntKind.i64.bits)=0:=by decide +kernel
theorem D1:Int.fdiv 1 (2 ^ min 1 IntKind.i64.bits)=0:=by decide +kernel
theorem D2:Int.fdiv 2 (2 ^ min 1 IntKind.i64.bits)=1:=by decide +kernel
theorem D3:Int.fdiv 3 (2 ^ min 1 IntKind.i64.bits)=1:=by decide +kernel
theorem e0v(was b:Bytes)(how:Int)(hh:how=0\/how=1\/how=2\/how=3)(hw:was.length<=1000000)(hb:b.length<=1000000)(H:AH):K tab A7 A5 105 [.str was,.str b,.int .i64 how] H=some (.str (a9v was b how),H):=by
 refine Ae df5 rfl rfl rfl ?_ H;have z0:(0:Int).toNat=0:=rfl;have z1:(1:Int).toNat=1:=rfl;rcases hh with rfl|rfl|rfl|rfl
 all_goals
  unfold a9v
  simp(disch:=try exact dq)only[tx,seval,ak4,A0,A1,A2,A3,D0,D1,D2,D3,z0,z1,Nat.zero_mul,Nat.one_mul,e6w,e50,e4w,e6z,e49,e5u,d67,d05,e0p,e5s,e68,e67,e60]
def Qh(n:Int):Dev:=⟨if 268<n then none else some (List.replicate n.toNat (zs 256)),none,0,0,false⟩
theorem e0x(n:Int)(h0:-100000<=n)(hn:n<=100000)(H:AH):K tab A7 A5 17 [.int .i64 n] H=some (.agg (Ju (Qh n)),H):=by
 refine Ae l17 rfl rfl (by simp[Ju,Aa,Ab,Ak]) ?_ H;unfold Qh Ju;by_cases c:268<n
 ·rw[if_pos c]
  simp(disch:=try exact dq)only[tx,seval,g17,c]
 rw[if_neg c]
 simp(disch:=try exact dq)only[tx,seval,g17,c];generalize hr:Ai _ _ _=r;refine Bb hr n.toNat
  (λj=>[.int .i64 n,.ptr 0 0 0 1,.ptr 1 0 0 1,.int .i64 j])
  (λj=>[some [[.emp,.emp,.int .i64 0,.int .i64 0,.bool false]],some [[.own 2 1 0 j j,.emp,.int .i64 0,.int .i64 0,.bool false]],some ((List.replicate j (zs 256)).map Gf)]) (λj=>True) ?_ ?_ trivial ?_ ?_
 ·rfl
 ·rfl
 ·intro j hj _;have bz:=b2v 256;simp only[List.reduceReplicate]at bz;have hj':((j:Int)<n):=om;have hl:(List.replicate j (zs 256)).length=j:=e4n;rw[List.replicate_succ'];generalize List.replicate j (zs 256)=o at *
  simp(disch:=try exact dq)only[tx,seval,hj',e74,Ko,e6i,hl,bz];exact⟨rfl,by rw[e6o];rfl⟩
 ·intro _;have hj':¬ ((n.toNat:Int)<n):=om;have hl:(List.replicate n.toNat (zs 256)).length=n.toNat:=e4n;generalize List.replicate n.toNat (zs 256)=o at *;have hlt:List.take n.toNat (List.map B1 o)=List.map B1 o:=by rw[<-hl];exact F4 o B1
  simp(disch:=try exact dq)only[tx,seval,hj',e74,Ko,Km,Y2,Wr,e6i,hl,hlt]
theorem c6x(d:Dev)(i:Int)(hl:(els d.last).length<=1000000)(H:AH):K tab A7 A5 74 [.agg [A4 B1 d.last,A4 B2 d.wait,.int .i64 d.lies,.int .i64 d.arm,.bool d.down],.int .i64 i] H=some (.bool (decide (0<=i)&&decide (i<(els d.last).length)),H):=by
 refine Ae l74 rfl (by simp[Aa,Ab,Ak]) rfl ?_ H
 simp(disch:=try exact dq)only[tx,seval,g74]
theorem as4(x y z w:AV)(r sz o l t:Nat)(i:AV)(H:AH):K tab A7 A5 74 [.agg [x,.own r sz o l t,y,z,w],i] H=Hn tab A7 A5 74 [.agg [x,.own r sz o l t,y,z,w],i] H (Aa (B3 H [.agg [x,.own r sz o l t,y,z,w],i])) (K tab A7 A5 74 (B3 H [.agg [x,.own r sz o l t,y,z,w],i]) H):=Nf _ _ _ rfl _ _
theorem as6(H:AH)(l:List (Int×Bytes)):(l.map Gg).map (λe=>e.map (Cq H 3))=l.map B2:=by rw[e7q];rfl
theorem b57(H:AH)(l:List Bytes):(l.map Gf).map (λe=>e.map (Cq H 3))=l.map B1:=by rw[e7q];rfl
theorem b1l:∀ (l:List (Int×Bytes)) (d:Dev),d.wait≠none->(H6 d l).wait≠none
 |[],_,h=>h
 |p::l,d,_=>b1l l (Hr d p) (by rw[(b93 d p).2.2.2.2];exact λh=>by cases h)
theorem c9u{α:Type}(p:α->List PV){s:Sl α}(h:s≠none):A4 p s=.fz ((els s).map p):=by
 cases s with
 |none=>exact absurd rfl h
 |some l=>rfl
theorem e0u(d:Dev)(l:Sl (Int×Bytes))(hl:(els l).length<=100000)(hw:(els d.wait).length<=100000)(hla:(els d.last).length<=100000)(ha:d.arm<=1000000000000)(H:AH) :
 K tab A7 A5 41 [.agg [A4 B1 d.last,A4 B2 d.wait,.int .i64 d.lies,.int .i64 d.arm,.bool d.down],A4 B2 l] H=some (.tuple [.agg (Ju (Gj (En d) (els l)).1),.bool (Gj (En d) (els l)).2],H):=by
 refine Ae l41 rfl (by simp[Aa,Ab,Ak]) (by simp[Ju,Aa,Ab,Ak]) ?_ H;have ht:=c6w d hla om;have kS:List.take (els d.last).length ((els d.last).map B1)=(els d.last).map B1:=F4 _ _;have kP:List.take (els d.wait).length ((els d.wait).map B2)=(els d.wait).map B2:=F4 _ _;obtain⟨e0,he0⟩:∃ e0,e0=En d:=⟨_,rfl⟩;rw[<-he0];have hl0:e0.last=some (els d.last):=by rw[he0];rfl
 have hw0:e0.wait=some (els d.wait):=by rw[he0];rfl
 have hi0:e0.lies=d.lies:=by rw[he0];rfl
 have ha0:e0.arm=d.arm:=by rw[he0];rfl
 have hd0:e0.down=d.down:=by rw[he0];rfl
 unfold Gj;rw[hd0];cases hdn:d.down with
 |true=>
   rw[hdn]at ht
   simp(disch:=try exact dq)only[tx,seval,g41,KQ 73 rfl,Ay,ht,Ko,Km,Iw,Hv,Wr,Si,Y2,Td,kS,kP,e6i];simp only[Ju,hl0,hw0,hi0,ha0,hd0,hdn,Cx]
 |false=>
   rw[hdn]at ht;rw[if_neg e5f]
   simp(disch:=try exact dq)only[tx,seval,g41,KQ 73 rfl,Ay,ht,Ko,Km,Iw,Hv,Wr,Si,Y2,Td,kS,kP,e6i];generalize hr:Ai _ _ _=r;refine Bb hr (els l).length
    (λj=>[.top,.top,.ptr 0 0 0 1,.ptr 1 0 0 1,.top,.top,A4 B2 l,.int .i64 (els l).length,.int .i64 j,.top,.top,.top,.top,.top,.top])
    (λj=>[some [[.fz ((els d.last).map B1),.own 3 2 0 (els (H6 e0 ((els l).take j)).wait).length (els (H6 e0 ((els l).take j)).wait).length,.int .i64 d.lies,.int .i64 (H6 e0 ((els l).take j)).arm,.bool false]],some [[.emp,.emp,.int .i64 0,.int .i64 0,.bool false]],none,some ((els (H6 e0 ((els l).take j)).wait).map Gg)])
    (λj=>F3 e0 (els l)=F3 (H6 e0 ((els l).take j)) ((els l).drop j)) ?_ ?_ ?_ ?_ ?_
   ·rfl
   ·simp only[e6z,H6,List.foldl_nil,hw0,ha0,Az]
   ·rfl
   ·intro j hj hI;have hj':((j:Int)<((els l).length:Int)):=om;have hf:=b1m ((els l).take j) e0;have hq:=c9u B2 (b1l ((els l).take j) e0 (by rw[hw0];exact λh=>by cases h));rw[e67]at hf;rw[dz2 hj];rw[Gd hj]at hI;generalize H6 e0 ((els l).take j)=e at *;obtain⟨f1,f2,f3,f4,f5⟩:=hf;rw[hl0]at f1;rw[hi0]at f2;rw[hd0]at f3;rw[ha0]at f4;rw[hw0,Az]at f5;generalize hx:(els l).getD j default=x at *;have hpx:B2 x=[.int .i64 x.1,.str x.2]:=rfl;have hap:(els e.wait).map Gg++[[.int .i64 x.1,.str x.2]]=(els e.wait++[x]).map Gg:=(by rw[e6o];rfl);have hok:Q8 e x=true↔(0<=x.1/\x.1<(els d.last).length/\x.2.length=256):=by
     simp only[Q8,f1,Az,e5v,e5h];omega
    have hlt0:List.take (els e.wait).length (List.map B2 (els e.wait))=List.map B2 (els e.wait):=F4 _ _;have hlt:List.take ((els e.wait).length+1) (List.map B2 (els e.wait++[x]))=List.map B2 (els e.wait++[x]):=e4h (by simp);have hHs:=λH=>c6x ⟨some (els d.last),some (els e.wait),d.lies,e.arm,false⟩ x.1 (by rw[Az];omega) H;simp only[Cx]at hHs
    simp(disch:=try exact dq)only[tx,seval,hj',hx,Bl,hpx,hap,as4,as6,hHs,Iw,Hv,Td,Si,e74,Az,hlt0,e6i,e58,e5w,e6f];have hc:(decide ((!(decide (0<=x.1)&&decide (x.1<((els d.last).length:Int))))=true)||!decide ((x.2.length:Int)=256))=true↔Q8 e x=false:=by
     rw[<-e6a (Q8 e x),hok];simp only[e6n,e5n,Bool.and_eq_false_iff,e5h,e4d];omega
    refine⟨λc=>?_,λc=>?_⟩
    ·rw[cw8 _ (hc.1 c)]at hI;rw[hI];simp only[Ju,f1,f2,f3,hdn,Cx,hq]
    ·rw[hc,Bool.not_eq_false]at c;refine⟨λc4=>?_,λc4=>⟨λc5=>?_,λc5=>?_⟩⟩
     ·rw[b4p _ c om]at hI;have es:Hr e x=Wm e x:=(by unfold Hr;rw[if_neg om]);rw[es]at hI ⊢;exact⟨rfl,by simp[Wm,f1,f2,f3,Az],hI⟩
     ·rw[cw7 _ c om]at hI;rw[hI];simp only[Ju,f1,f2,hlt,Cx,c5]
     ·rw[b4p _ c om]at hI;have es:Hr e x=⟨e.last,some (els e.wait++[x]),e.lies,e.arm-1,e.down⟩:=(by unfold Hr;rw[if_pos om]);rw[es]at hI ⊢;exact⟨rfl,by simp[Az],hI⟩
   ·intro hI;rw[e68,e69]at hI;rw[e68];have hf:=b1m (els l) e0;have hq:=c9u B2 (b1l (els l) e0 (by rw[hw0];exact λh=>by cases h));generalize H6 e0 (els l)=e at *;obtain⟨f1,f2,f3,f4,f5⟩:=hf;rw[hI];have hlt0:List.take (els e.wait).length (List.map B2 (els e.wait))=List.map B2 (els e.wait):=F4 _ _
    simp(disch:=try exact dq)only[tx,seval,e7f,Iw,Hv,Td,Si,hlt0];simp only[F3,Ju,f1,f2,f3,hdn,hl0,hi0,hd0,hq,Cx]
theorem e1y{lk:FuncId->Bool}{E:CallF}{f:FuncId}{x0:Opd}{args:List Opd}{ys:List AV}{c:Nat}{V:Opd->AV}{H:AH}{y:AV}(h0:V x0=.fn (.func f) [] [])(h1:args.map V=ys)(hb:Aa ys=true)(he:E f ys []=some (y,[]))(hy:Ab y=true)(hc:c<=H.length) :
 Bj lk E (.calld x0 args) c V H=some ([],[],c,y,H):=by
 subst h1;unfold Bj;simp only[h0,e6k,e6l,b2u hb he,Ji _ _ hy];simp[C3,hc]
theorem ax3(out:List Bytes)(w:List (Int×Bytes))(h:Nat->Int)(hL:∀ s∈out,s.length<=1000000)(hW:∀ q∈w,q.2.length<=1000000):∀ j i,i<(Ga out w h j).length->((Ga out w h j).getD i default).length<=1000000
 |0,i,hi=>by
   rw[Ga]at hi ⊢;rw[e42,e47 hi];exact hL _ (e63 _)
 |j+1,i,hi=>by
   have ih:=ax3 out w h hL hW j;rw[Ga]at hi ⊢;split at hi
   ·rename_i c;rw[if_pos c];rw[e6e]at hi;rw[e42,e5g];split
    ·rename_i e;subst e;rw[if_pos hi];have h1:=ih _ hi;have h2:(w.getD j default).2.length<=1000000:=by
      by_cases hj:j<w.length
      ·rw[e42,e47 hj];exact hW _ (e63 _)
      ·rw[e42,e4j om];decide
     simp only[e5u,a9v,e58];split<;>split<;>simp only[e67,e60]<;>omega
    ·rw[<-e42];exact ih i hi
   ·rename_i c;rw[if_neg c];exact ih i hi
theorem d1f(L:List Bytes)(w:List (Int×Bytes))(a b:Int)(c:Bool)(hl:L.length<=100000)(hw:w.length<=1000000)(hL:∀ s∈L,s.length<=1000000)(hW:∀ q∈w,q.2.length<=1000000) :
 Ev tab A7 A5 75 [.ptr 0 0 0 1,.fn (.func 76) [] []] [some [[.own 1 1 0 L.length L.length,.own 2 2 0 w.length w.length,.int .i64 a,.int .i64 b,.bool c]],some (L.map Gf),some (w.map Gg)] =
  some (.tuple [],[some [[.own 1 1 0 L.length L.length,.emp,.int .i64 a,.int .i64 b,.bool c]],some ((Ga L w (λ_=>3) w.length).map Gf),some (w.map Gg)]):=by
 refine Cv l75 rfl ?_
 simp(disch:=try exact dq)only[tx,seval,g75,Iw,Hv,Ko,Km,e6i];generalize hr:Ai _ _ _=r;refine Bb hr w.length
  (λj=>[.ptr 0 0 0 1,.fn (.func 76) [] [],.top,.top,.own 2 2 0 w.length w.length,.int .i64 w.length,.int .i64 j,.top,.top,.top,.top])
  (λj=>[some [[.own 1 1 0 L.length L.length,.own 2 2 0 w.length w.length,.int .i64 a,.int .i64 b,.bool c]],some ((Ga L w (λ_=>3) j).map Gf),some (w.map Gg)])
  (λ_=>True) ?_ ?_ trivial ?_ ?_
 ·rfl
 ·rfl
 ·intro j hj _;have hj':((j:Int)<(w.length:Int)):=om;have hol:=Zv L w (λ_=>3) j;have hol':∀ i,i<(Ga L w (λ_=>3) j).length->((Ga L w (λ_=>3) j).getD i default).length<=1000000:=λi hi=>ax3 L w _ hL hW j i hi;rw[Ga];generalize Ga L w (λ_=>3) j=o at *;obtain⟨x,hx⟩:∃ x,w.getD j default=x:=⟨_,rfl⟩;rw[hx];have hx2:x.2.length<=1000000:=by rw[<-hx];exact hW _ (by rw[e42,e47 hj];exact e63 _)
  have hpx:Gg x=[.int .i64 x.1,.str x.2]:=rfl;have hHs:=λH=>c6x ⟨some o,some w,a,b,c⟩ x.1 (by rw[Az];omega) H;simp only[Cx,Az]at hHs;have hto:List.take L.length (o.map Gf)=o.map Gf:=e4h (by rw[e6i];omega);by_cases c1:0<=x.1/\x.1<o.length
  ·have e:(decide (0<=x.1)&&decide (x.1<(o.length:Int)))=true:=(by simp[c1]);rw[e]at hHs;rw[if_pos c1];have hxo:x.1.toNat<o.length:=om;have hg:(o.map Gf)[x.1.toNat]?=some [.str (o.getD x.1.toNat default)]:=Ic hxo Gf;have hT:=λH=>e0v (o.getD x.1.toNat default) x.2 3 om (hol' x.1.toNat hxo) hx2 H
   simp(disch:=try exact dq)only[tx,seval,hj',hx,Ic,hpx,as4,as6,b57,hto,hHs,hg,hT,c4y,Iw,Hv,Ko,Km,e74,e6i,hol,c1.1,c1.2];rw[e1y rfl rfl rfl (c4y _ []) rfl (by simp)]
   simp(disch:=try exact dq)only[tx,seval,hT,hg,d1p,Iw,Hv,Ko,Km,e74,e6i,hol];rfl
  ·have e:(decide (0<=x.1)&&decide (x.1<(o.length:Int)))=false:=(by simp;omega);rw[e]at hHs;rw[if_neg c1]
   simp(disch:=try exact dq)only[tx,seval,hj',hx,Ic,hpx,as4,as6,b57,hto,hHs,Iw,Hv,Ko,Km,e74,e6i,hol];rfl
 ·intro _
  simp(disch:=try exact dq)only[tx,seval,e7f,Iw,Hv,Ko,Km,e6i];rfl
def Y3(d:Dev):Dev×Bool:=if d.down=true then(En d,false)else if 0<d.lies then(⟨some (els d.last),some (els d.wait),d.lies-1,d.arm,d.down⟩,true)
 else(⟨some (Ga (els d.last) (els d.wait) (λ_=>3) (els d.wait).length),none,d.lies,d.arm,d.down⟩,true)
theorem e0y(d:Dev)(hl:(els d.last).length<=100000)(hw:(els d.wait).length<=1000000)(hL:∀ s∈els d.last,s.length<=1000000)(hW:∀ q∈els d.wait,q.2.length<=1000000)(hli:-1000000000000<=d.lies/\d.lies<=1000000000000)(H:AH) :
 K tab A7 A5 42 [.agg [A4 B1 d.last,A4 B2 d.wait,.int .i64 d.lies,.int .i64 d.arm,.bool d.down]] H=some (.tuple [.agg (Ju (Y3 d).1),.bool (Y3 d).2],H):=by
 refine Ae l42 rfl (by simp[Aa,Ab,Ak]) (by simp[Ju,Aa,Ab,Ak]) ?_ H;have ht:=c6w d hl hw;have kS:List.take (els d.last).length ((els d.last).map B1)=(els d.last).map B1:=F4 _ _;have kP:List.take (els d.wait).length ((els d.wait).map B2)=(els d.wait).map B2:=F4 _ _;have hS:=d1f (els d.last) (els d.wait) d.lies d.arm false hl hw hL hW;have hSl:=Zv (els d.last) (els d.wait) (λ_=>3) (els d.wait).length;unfold Y3;cases hdn:d.down with
 |true=>
   rw[hdn]at ht;rw[if_pos rfl]
   simp(disch:=try exact dq)only[tx,seval,g42,KQ 73 rfl,Ay,ht,Ko,Km,Iw,Hv,Wr,Si,Y2,Td,kS,kP,e6i];simp only[Ju,En,hdn,Cx]
 |false=>
   rw[hdn]at ht;rw[if_neg e5f];by_cases c:0<d.lies
   ·rw[if_pos c]
    simp(disch:=try exact dq)only[tx,seval,g42,KQ 73 rfl,Ay,ht,Ko,Km,Iw,Hv,Wr,Si,Y2,Td,kS,kP,c,e74,e6i];simp only[Ju,Cx]
   ·rw[if_neg c];have kT:List.take (els d.last).length ((Ga (els d.last) (els d.wait) (λ_=>3) (els d.wait).length).map B1)=(Ga (els d.last) (els d.wait) (λ_=>3) (els d.wait).length).map B1:=e4h (by rw[e6i];omega);generalize Ga (els d.last) (els d.wait) (λ_=>3) (els d.wait).length=T at *
    simp(disch:=try exact dq)only[tx,seval,g42,KQ 73 rfl,KQ 75 rfl,Ay,ht,hS,Ko,Km,Iw,Hv,Wr,Si,Y2,Td,kS,kP,kT,c,e74,e6i];rfl
theorem e0i(l m:Sl Rn)(hl:(els l).length<=1000000)(hm:(els m).length<=1000000)(H:AH):K tab A7 A5 96 [A4 A8 l,A4 A8 m] H=some (.bool (decide (els l=els m)),H):=by
 refine Ae l96 rfl (by simp[Aa,Ab,Ak]) rfl ?_ H;by_cases c:((els l).length:Int)=(els m).length
 ·simp(disch:=try exact dq)only[tx,seval,g96,c];generalize hr:Ai _ _ _=r;refine Bb hr (els l).length (λj=>[A4 A8 l,A4 A8 m,.top,.top,.int .i64 (els m).length,.int .i64 j,.top])
   (λj=>[]) (λj=>(els l).take j=(els m).take j) rfl rfl rfl ?_ ?_
  ·intro j hj hI;have hj':((j:Int)<((els l).length:Int)):=om;have hj2:((j:Int)<((els m).length:Int)):=om;rw[Dd hj,Dd (show j<(els m).length by omega),hI];have hne:(els l).getD j default≠(els m).getD j default->els l≠els m:=λh e=>h (by rw[e]);generalize hx:(els l).getD j default=x at *;generalize hy:(els m).getD j default=y at *;have hch:(decide (x.a=y.a)&&decide (x.b=y.b))=decide (x=y):=by
    obtain⟨a,b⟩:=x;obtain⟨a',b'⟩:=y
    try rw[e6p]
    try simp only[e5v,e5h,Rn.mk.injEq]
   simp(disch:=try exact dq)only[tx,seval,hj',hj2,Bl,A8,e74,hx,hy,hch];by_cases hxy:x=y
   ·subst hxy;simp
   ·have hf:=hne hxy;simp[hf,hxy]
  ·intro hI;rw[e68,e4h om]at hI
   simp(disch:=try exact dq)only[tx,seval,e7f,c];simp[hI]
 ·simp(disch:=try exact dq)only[tx,seval,g96,c];have hne:¬ els l=els m:=λe=>c (by rw[e]);simp[hne]
theorem c63(l m:Sl Ptr)(hl:(els l).length<=1000000)(hm:(els m).length<=1000000)(H:AH):K tab A7 A5 184 [A4 Al l,A4 Al m] H=some (.bool (decide (els l=els m)),H):=by
 refine Ae d9k rfl (by simp[Aa,Ab,Ak]) rfl ?_ H;by_cases c:((els l).length:Int)=(els m).length
 ·simp(disch:=try exact dq)only[tx,seval,a54,c];generalize hr:Ai _ _ _=r;refine Bb hr (els l).length (λj=>[A4 Al l,A4 Al m,.top,.top,.int .i64 (els m).length,.int .i64 j,.top])
   (λj=>[]) (λj=>(els l).take j=(els m).take j) rfl rfl rfl ?_ ?_
  ·intro j hj hI;have hj':((j:Int)<((els l).length:Int)):=om;have hj2:((j:Int)<((els m).length:Int)):=om;rw[Dd hj,Dd (show j<(els m).length by omega),hI];have hne:(els l).getD j default≠(els m).getD j default->els l≠els m:=λh e=>h (by rw[e]);generalize hx:(els l).getD j default=x at *;generalize hy:(els m).getD j default=y at *;have hch:(decide (x.addr=y.addr)&&(decide (x.birth=y.birth)&&(decide ((x.sum.a.toNat:Int)=y.sum.a.toNat)&&(decide ((x.sum.b.toNat:Int)=y.sum.b.toNat)&&(decide ((x.sum.c.toNat:Int)=y.sum.c.toNat)&&decide ((x.sum.d.toNat:Int)=y.sum.d.toNat))))))=decide (x=y):=by
    obtain⟨a,b,⟨c1,c2,c3,c4⟩⟩:=x;obtain⟨a',b',⟨d1,d2,d3,d4⟩⟩:=y
    try rw[e6p]
    try simp only[e5v,e5h,Ptr.mk.injEq,Sum.mk.injEq,Int.natCast_inj,UInt32.toNat_inj]
   simp(disch:=try exact dq)only[tx,seval,hj',hj2,Bl,Al,e74,hx,hy,hch];by_cases hxy:x=y
   ·subst hxy;simp
   ·have hf:=hne hxy;simp[hf,hxy]
  ·intro hI;rw[e68,e4h om]at hI
   simp(disch:=try exact dq)only[tx,seval,e7f,c];simp[hI]
 ·simp(disch:=try exact dq)only[tx,seval,a54,c];have hne:¬ els l=els m:=λe=>c (by rw[e]);simp[hne]
theorem e0h(l m:Sl Bytes)(hl:(els l).length<=1000000)(hm:(els m).length<=1000000)(H:AH):K tab A7 A5 34 [A4 B1 l,A4 B1 m] H=some (.bool (decide (els l=els m)),H):=by
 refine Ae l34 rfl (by simp[Aa,Ab,Ak]) rfl ?_ H;by_cases c:((els l).length:Int)=(els m).length
 ·simp(disch:=try exact dq)only[tx,seval,g34,c];generalize hr:Ai _ _ _=r;refine Bb hr (els l).length (λj=>[A4 B1 l,A4 B1 m,.top,.top,.int .i64 (els m).length,.int .i64 j,.top])
   (λj=>[]) (λj=>(els l).take j=(els m).take j) rfl rfl rfl ?_ ?_
  ·intro j hj hI;have hj':((j:Int)<((els l).length:Int)):=om;have hj2:((j:Int)<((els m).length:Int)):=om;rw[Dd hj,Dd (show j<(els m).length by omega),hI];have hne:(els l).getD j default≠(els m).getD j default->els l≠els m:=λh e=>h (by rw[e]);generalize hx:(els l).getD j default=x at *;generalize hy:(els m).getD j default=y at *;have hch:decide (x=y)=decide (x=y):=by
    skip
    try rw[e6p]
    try simp only[e5v,e5h,]
   simp(disch:=try exact dq)only[tx,seval,hj',hj2,Bl,B1,e74,hx,hy,hch];by_cases hxy:x=y
   ·subst hxy;simp
   ·have hf:=hne hxy;simp[hf,hxy]
  ·intro hI;rw[e68,e4h om]at hI
   simp(disch:=try exact dq)only[tx,seval,e7f,c];simp[hI]
 ·simp(disch:=try exact dq)only[tx,seval,g34,c];have hne:¬ els l=els m:=λe=>c (by rw[e]);simp[hne]
theorem e0j(l m:Sl (Int×Bytes))(hl:(els l).length<=1000000)(hm:(els m).length<=1000000)(H:AH):K tab A7 A5 35 [A4 B2 l,A4 B2 m] H=some (.bool (decide (els l=els m)),H):=by
 refine Ae l35 rfl (by simp[Aa,Ab,Ak]) rfl ?_ H;by_cases c:((els l).length:Int)=(els m).length
 ·simp(disch:=try exact dq)only[tx,seval,g35,c];generalize hr:Ai _ _ _=r;refine Bb hr (els l).length (λj=>[A4 B2 l,A4 B2 m,.top,.top,.int .i64 (els m).length,.int .i64 j,.top])
   (λj=>[]) (λj=>(els l).take j=(els m).take j) rfl rfl rfl ?_ ?_
  ·intro j hj hI;have hj':((j:Int)<((els l).length:Int)):=om;have hj2:((j:Int)<((els m).length:Int)):=om;rw[Dd hj,Dd (show j<(els m).length by omega),hI];have hne:(els l).getD j default≠(els m).getD j default->els l≠els m:=λh e=>h (by rw[e]);generalize hx:(els l).getD j default=x at *;generalize hy:(els m).getD j default=y at *;have hch:(decide (x.1=y.1)&&decide (x.2=y.2))=decide (x=y):=by
    obtain⟨a,b⟩:=x;obtain⟨a',b'⟩:=y
    try rw[e6p]
    try simp only[e5v,e5h,Prod.mk.injEq]
   simp(disch:=try exact dq)only[tx,seval,hj',hj2,Bl,B2,e74,hx,hy,hch];by_cases hxy:x=y
   ·subst hxy;simp
   ·have hf:=hne hxy;simp[hf,hxy]
  ·intro hI;rw[e68,e4h om]at hI
   simp(disch:=try exact dq)only[tx,seval,e7f,c];simp[hI]
 ·simp(disch:=try exact dq)only[tx,seval,g35,c];have hne:¬ els l=els m:=λe=>c (by rw[e]);simp[hne]
theorem e0k(l m:Sl Node)(hl:(els l).length<=1000000)(hm:(els m).length<=1000000)(H:AH):K tab A7 A5 97 [A4 Ao l,A4 Ao m] H=some (.bool (decide (els l=els m)),H):=by
 refine Ae l97 rfl (by simp[Aa,Ab,Ak]) rfl ?_ H;by_cases c:((els l).length:Int)=(els m).length
 ·simp(disch:=try exact dq)only[tx,seval,g97,c];generalize hr:Ai _ _ _=r;refine Bb hr (els l).length (λj=>[A4 Ao l,A4 Ao m,.top,.top,.int .i64 (els m).length,.int .i64 j,.top])
   (λj=>[]) (λj=>(els l).take j=(els m).take j) rfl rfl rfl ?_ ?_
  ·intro j hj hI;have hj':((j:Int)<((els l).length:Int)):=om;have hj2:((j:Int)<((els m).length:Int)):=om;rw[Dd hj,Dd (show j<(els m).length by omega),hI];have hne:(els l).getD j default≠(els m).getD j default->els l≠els m:=λh e=>h (by rw[e]);generalize hx:(els l).getD j default=x at *;generalize hy:(els m).getD j default=y at *;have hch:(decide (x.kind=y.kind)&&(decide (x.up=y.up)&&(decide (x.name=y.name)&&(decide (x.body=y.body)&&decide (x.bad=y.bad)))))=decide (x=y):=by
    obtain⟨a,b,c,d,e⟩:=x;obtain⟨a',b',c',d',e'⟩:=y
    try rw[e6p]
    try simp only[e5v,e5h,Node.mk.injEq]
   simp(disch:=try exact dq)only[tx,seval,hj',hj2,Bl,Ao,e74,hx,hy,hch];by_cases hxy:x=y
   ·subst hxy;simp
   ·have hf:=hne hxy;simp[hf,hxy]
  ·intro hI;rw[e68,e4h om]at hI
   simp(disch:=try exact dq)only[tx,seval,e7f,c];simp[hI]
 ·simp(disch:=try exact dq)only[tx,seval,g97,c];have hne:¬ els l=els m:=λe=>c (by rw[e]);simp[hne]
theorem a84(l m:Sl Rn)(hl:(els l).length<=1000000)(hm:(els m).length<=1000000)(H:AH):K tab A7 A5 66 [A4 A8 l,A4 A8 m] H=some (.bool (decide (els l=els m)),H):=by
 refine Ae l66 rfl (by simp[Aa,Ab,Ak]) rfl ?_ H
 simp(disch:=try exact dq)only[tx,seval,g66,e0i]
theorem cy4(t g s a b:Int)(c d e f:UInt32)(H:AH):K tab A7 A5 125 [.agg [.int .i64 t,.int .i64 g,.int .i64 s,.int .i64 a,.int .i64 b,.int .u32 c.toNat,.int .u32 d.toNat,.int .u32 e.toNat,.int .u32 f.toNat]] H=some (.str (Q6 ⟨t,g,s,⟨a,b,⟨c,d,e,f⟩⟩⟩),H):=by
 refine Ae dd5 rfl rfl rfl ?_ H
 simp(disch:=try exact dq)only[tx,seval,aj2,cy5]
theorem c6v(n:Int)(hn:n<=1000000)(H:AH):K tab A7 A5 198 [.int .i64 n] H=some (.str (zs n.toNat),H):=by
 refine Ae d99 rfl rfl rfl ?_ H;have e2:(if 0>n then 0 else n).toNat=n.toNat:=by split<;>omega
 simp(disch:=try exact dq)only[tx,seval,ae7,a3m,e2]
theorem e18(l:Sl Rn)(hl:(els l).length<=1000000)(H:AH):K tab A7 A5 116 [A4 A8 l] H=some (A4 A8 (some (els l)),H):=by
 refine Ae de5 rfl (by simp[Aa,Ab,Ak]) (Ak _ _) ?_ H
 simp(disch:=try exact dq)only[tx,seval,aj8];rw[if_pos ⟨by omega,by omega,by simp[A8]⟩]
theorem bm4(data half t g s a b:Int)(c d e f:UInt32)(H:AH):K tab A7 A5 84 [.int .i64 data,.agg [.int .i64 t,.int .i64 g,.int .i64 s,.int .i64 a,.int .i64 b,.int .u32 c.toNat,.int .u32 d.toNat,.int .u32 e.toNat,.int .u32 f.toNat],.int .i64 half] H=some (A4 B2 (Qd data ⟨t,g,s,⟨a,b,⟨c,d,e,f⟩⟩⟩ half),H):=by
 refine Ae l84 rfl rfl (Ak _ _) ?_ H;have h1:=λH=>bw5 (orc:=A7) (lk:=A5) data H;have h2:=λH=>d26 t g s a b c d e f H;have h3:=λH=>cy4 t g s a b c d e f H;unfold Qd;by_cases c0:Ei data=true/\La ⟨t,g,s,⟨a,b,⟨c,d,e,f⟩⟩⟩=true/\0<=half/\half<=1
 ·rw[if_pos c0];obtain⟨c1,c2,c3,c4⟩:=c0;rw[c1]at h1;rw[c2]at h2;have hs:s<=1000:=by simp only[La,e5v,e5h]at c2;omega
  have s1:=λk H=>d1d data k s hs H;have ht:half=0\/half=1:=om;rcases ht with rfl|rfl
  all_goals
   simp(disch:=try exact dq)only[tx,seval,Vc,h1,h2]
   iterate 3 (rw[T3];simp(disch:=try exact dq)only[tx,seval,h3,s1,e74,e6k,e62,e5w,e6f])
   rfl
 ·rw[if_neg c0];cases c1:Ei data with
  |false=>
    rw[c1]at h1
    simp(disch:=try exact dq)only[tx,seval,Vc,h1]
    try rfl
  |true=>
    rw[c1]at h1;cases c2:La ⟨t,g,s,⟨a,b,⟨c,d,e,f⟩⟩⟩with
    |false=>
      rw[c2]at h2
      simp(disch:=try exact dq)only[tx,seval,Vc,h1,h2]
      try rfl
    |true=>
      rw[c2]at h2;have c3:half<0\/¬ half<0/\1<half:=by
       have:¬ (0<=half/\half<=1):=λh=>c0 ⟨c1,c2,h⟩;omega
      rcases c3 with c3|⟨c3,c4⟩
      ·simp(disch:=try exact dq)only[tx,seval,Vc,h1,h2,c3]
       try rfl
      ·simp(disch:=try exact dq)only[tx,seval,Vc,h1,h2,c3,c4]
       try rfl
theorem bm9(b:Bytes)(k:Nat)(hb:b.length<=128)(hk:k<4)(H:AH):K tab A7 A5 183 [.str b,.int .i64 (k:Int)] H=some (.str (Kx b k),H):=by
 refine Ae d9l rfl rfl rfl ?_ H;have hlen:(b++zs (128-b.length)).length=128:=by rw[e58,U8];omega
 have e0:(128-(b.length:Int)).toNat=128-b.length:=om;have e1:(32:Int).toNat=32:=rfl;have n1:=λH=>c6v (128-(b.length:Int)) om H;have n2:=λH=>c6v 32 om H;rw[e0]at n1;rw[e1]at n2;have hli:((b++zs (128-b.length)).length:Int)=128:=om;unfold Kx;obtain⟨B,hB⟩:∃ B,b++zs (128-b.length)=B:=⟨_,rfl⟩;rw[hB]at hlen hli ⊢;have hk4:¬ (4<=(k:Int)):=om;have hk0:¬ ((k:Int)<0):=om;have hb':¬ (128<(b.length:Int)):=om;have u1:((k:Int)*32).toNat=32*k:=om;have tB:List.take 128 B=B:=e4h om;have u3:(32:Int)<=((128-32*k:Nat):Int):=om;have u2:List.take 32 (List.drop (32*k) B)=List.drop (32*k) (List.take (32*k+32) B):=by rw[List.drop_take,Nat.add_sub_cancel_left]
 simp(disch:=try exact dq)only[tx,seval,af2,n1,n2,hk4,hk0,hb',U8,hB,hlen,hli,e60,tB,u1,u2,u3,e74];by_cases c:List.drop (32*k) (List.take (32*k+32) B)=zs 32
 ·simp[c]
 ·simp[c]
theorem aw5(s:Space)(hs:SpOk s)(n:Int)(h0:-100000<=n)(hn:n<=100000)(H:AH):K tab A7 A5 32 [.int .i64 n,.agg [A4 A8 s.held,A4 A8 s.one,A4 A8 s.two,A4 A8 s.kept]] H=some (A4 A8 (Ax (G3 n s.n)),H):=by
 refine Ae l32 rfl (by simp[Aa,Ab,Ak]) (Ak _ _) ?_ H;have hM:=λH=>b9j s hs n h0 hn H;have hw:=λH=>b9i s n h0 hn H;have hA:=λH=>a87 s H;unfold G3;cases c:Dw n s.n with
 |false=>
   rw[c]at hM
   simp(disch:=try exact dq)only[tx,seval,g32,hM];rfl
 |true=>
   rw[c]at hM;obtain⟨l1,l2,l3,l4⟩:=hs;have w1:=Zf (λa b=>a&&!b) (Dg n) (els s.held);have w2:=Zf (λa b=>a&&!b) (C6 (Dg n) (els s.held)) (els s.one);have w3:=Zf (λa b=>a&&!b) (C6 (C6 (Dg n) (els s.held)) (els s.one)) (els s.two);have w0:(Dg n).length=1:=rfl;have a1:=λH=>Oc (some (Dg n)) s.held (by rw[Az];omega) H;have a2:=λH=>Oc (Ax (C6 (Dg n) (els s.held))) s.one (by rw[Dy];unfold C6;omega) H;have a3:=λH=>Oc (Ax (C6 (C6 (Dg n) (els s.held)) (els s.one))) s.two (by rw[Dy];unfold C6 at w2 ⊢;omega) H;have a4:=λH=>Oc (Ax (C6 (C6 (C6 (Dg n) (els s.held)) (els s.one)) (els s.two))) s.kept (by rw[Dy];unfold C6 at w2 w3 ⊢;omega) H;rw[Az]at a1;rw[Dy]at a2 a3 a4;simp only[Cx]at a1
   simp(disch:=try exact dq)only[tx,seval,g32,hM,hw,hA]
   iterate 5 (rw[T3];simp(disch:=try exact dq)only[tx,seval,a1,a2,a3,a4,e74])
   rfl
def b7o(s:Space)(held:Sl Rn):Space:=⟨some (els held),Ax (C6 (els s.held) (els held)),Ax (C6 (C6 (els s.one) (els held)) (C6 (els s.held) (els held))),some (els s.kept)⟩
theorem b9h(s:Space)(hs:SpOk s)(held:Sl Rn)(hh:(els held).length<=500)(H:AH):K tab A7 A5 79 [.agg [A4 A8 s.held,A4 A8 s.one,A4 A8 s.two,A4 A8 s.kept],A4 A8 held] H=some (.agg (a86 (b7o s held)),H):=by
 refine Ae l79 rfl (by simp[Aa,Ab,Ak]) (by simp[a86,Aa,Ab,Ak]) ?_ H;have l1:=hs.held;have l2:=hs.one;have l4:=hs.kept;have a1:=λH=>Oc s.held held om H;have a2:=λH=>Oc s.one held om H;have w1:=Zf (λa b=>a&&!b) (els s.held) (els held);have w2:=Zf (λa b=>a&&!b) (els s.one) (els held);have a3:=λH=>Oc (Ax (C6 (els s.one) (els held))) (Ax (C6 (els s.held) (els held))) (by rw[Dy,Dy];unfold C6;omega) H;rw[Dy,Dy]at a3
 simp(disch:=try exact dq)only[tx,seval,g79,a1,a2,a3,e18];rfl
theorem c5e(l:Sl Rn)(hl:a2p (els l))(n:Int)(hn:n<=1000000)(H:AH):K tab A7 A5 110 [A4 A8 l,.int .i64 n] H=some (.tuple (Y6 (els l) n),H):=by
 refine Ae df0 rfl (by simp[Aa,Ab,Ak]) (by unfold Y6;split<;>simp[Ab,Aa]) ?_ H;have hc:=a85 l hl;unfold Y6 al0;by_cases c1:n<0
 ·simp(disch:=try exact dq)only[tx,seval,a19,c1];simp[c1]
 ·by_cases c2:Dj (els l)<n
  ·rw[if_pos om]
   simp(disch:=try exact dq)only[tx,seval,a19,c1,hc,c2]
  ·rw[if_neg om]
   simp(disch:=try exact dq)only[tx,seval,a19,c1,hc,c2];generalize hr:Ai _ _ _=r;refine Bb hr (els l).length (λi=>[.top,.int .i64 n,.top,.top,.own 0 1 0 ((H9 ((els l).take i)).take n.toNat).length ((H9 ((els l).take i)).take n.toNat).length,.top,.top,A4 A8 l,.int .i64 (els l).length,.int .i64 i,.top,.top])
    (λi=>[some (((H9 ((els l).take i)).take n.toNat).map cI)]) (λ_=>True) ?_ ?_ trivial ?_ ?_
   ·simp[H9]
   ·simp[H9]
   ·intro i hi _;have hi':((i:Int)<((els l).length:Int)):=om;have hl1:=hl.1;have hmem:(els l).getD i default∈els l:=by
     rw[e42,e47 hi];exact e63 _
    have hx1:=hl.2 _ hmem;have hs:(els l).take (i+1)=(els l).take i++[(els l).getD i default]:=by
     rw[e5p,e42,e47 hi];rfl
    rw[hs,dz6];have hlo:((H9 ((els l).take i)).take n.toNat).length<=n.toNat:=(by rw[e67];omega);generalize hx:(els l).getD i default=x at *
    generalize (H9 ((els l).take i)).take n.toNat=o at *
    simp(disch:=try exact dq)only[tx,seval,hi',hx,Bl,A8,e74];generalize hr2:Ai _ _ _=r2;refine Ny (Q:=λr=>Rd _ _ _ _ (Hu _ _ (Cn _ _ (C2 _ (C2 _ r))))) hr2 (min (x.b-x.a).toNat (n.toNat-o.length))
     (λj=>[.top,.int .i64 n,.top,.top,.own 0 1 0 (o.length+j) (o.length+j),.ptr 1 0 0 1,.int .i64 (x.a+j),A4 A8 l,.int .i64 (els l).length,.int .i64 i,.top,.top])
     (λj=>[some ((o++Fl j x.a).map cI),some [[.int .i64 x.a,.int .i64 x.b]]]) (λ_=>True) ?_ ?_ trivial ?_ ?_
    ·simp
    ·simp[Fl]
    ·intro j hj _;have hj1:x.a+(j:Int)<x.b:=om;have hj2:((o.length:Int)+(j:Int))<n:=om;have hap:(o++Fl j x.a).map cI++[[.int .i64 (x.a+(j:Int))]]=(o++Fl (j+1) x.a).map cI:=(by rw[b5v,<-e5o,e6o (l₁:=o++Fl j x.a)];rfl);have hlen:(o++Fl j x.a).length=o.length+j:=by rw[e58,a2y]
     simp(disch:=try exact dq)only[tx,seval,hi',hx,hj1,hj2,Bl,A8,e74,hap,B6,e6i,hlen,Int.natCast_add];rw[Int.add_assoc];rfl
    ·intro _;have hnj:¬ (x.a+((min (x.b-x.a).toNat (n.toNat-o.length):Nat):Int)<x.b/\(o.length:Int)+((min (x.b-x.a).toNat (n.toNat-o.length):Nat):Int)<n):=om;generalize min (x.b-x.a).toNat (n.toNat-o.length)=m at *;by_cases c3:x.a+(m:Int)<x.b
     ·have c4:¬ (o.length:Int)+(m:Int)<n:=λh=>hnj ⟨c3,h⟩
      simp(disch:=try exact dq)only[tx,seval,hi',hx,c3,c4,Bl,A8,e74,B6,e6i,Int.natCast_add,a2y]
     ·simp(disch:=try exact dq)only[tx,seval,hi',hx,c3,Bl,A8,e74,B6,e6i,Int.natCast_add,a2y]
   ·intro _;rw[e68]
    simp(disch:=try exact dq)only[tx,seval,e7f,B6,Bh,Nj,J3]
def b00(o:OldW):List PV:=[.int .i64 o.d.id,.int .i64 o.d.kind,.int .i64 o.d.origin,.int .i64 o.d.quota,Kt Ao o.d.files]++Al o.set++[.fz (o.node.map Al),.fz (o.part.map Al)]
def Ej(o:OldW):List AV:=(b00 o).map emb
theorem Vm(o:OldW):Ej o=[.int .i64 o.d.id,.int .i64 o.d.kind,.int .i64 o.d.origin,.int .i64 o.d.quota,A4 Ao o.d.files,.int .i64 o.set.addr,.int .i64 o.set.birth,.int .u32 o.set.sum.a.toNat,.int .u32 o.set.sum.b.toNat,.int .u32 o.set.sum.c.toNat,.int .u32 o.set.sum.d.toNat,.fz (o.node.map Al),.fz (o.part.map Al)]:=by
 unfold Ej b00 Al;rw[<-O5];rfl
theorem Da(l:List OldW):refsO (some (l.map Ej))=[]:=Gz l _ λ_=>a04 _
theorem D9(τ:Nat->Option Nat)(l:List OldW):renO τ (l.map Ej)=l.map Ej:=Sp τ l b00
def Hm(t:Ptr)(txg:Int)(free:List Int)(nb no nh:Nat):List AV:=[.own 1 3 0 nb nb,.own 2 1 0 nb nb,.int .i64 t.addr,.int .i64 t.birth,.int .u32 t.sum.a.toNat,.int .u32 t.sum.b.toNat,.int .u32 t.sum.c.toNat,.int .u32 t.sum.d.toNat,.emp,.emp,.int .i64 txg,.fz (free.map λx=>[.int .i64 x]),.own 3 13 0 no no,.own 4 1 0 nh nh]
def E4(t:Ptr)(txg:Int)(free:List Int)(w:LW):AH:=[some [Hm t txg free w.bl.length w.olds.length w.held.length],some (w.bl.map G7),some (w.at'.map cI),some (w.olds.map Ej),some (w.held.map cI)]
structure LWok(w:LW)(n:Nat):Prop where
 at':w.at'.length=w.bl.length
 bl:w.bl.length<=n
 held:w.held.length<=n
 olds:w.olds.length<=n
theorem LWok.point{w:LW}{n:Nat}(h:LWok w n)(p:Ptr):LWok (w.point p) (n+1):=⟨h.at',Nat.le_succ_of_le h.bl,by simp only[LW.point,e58,e5w,e6f];have:=h.held;omega,Nat.le_succ_of_le h.olds⟩
theorem LWok.put{w:LW}{n:Nat}(h:LWok w n)(txg:Int)(free:List Int)(kind:Int)(load:Bytes):LWok (w.put txg free kind load).2 (n+1):=by
 obtain⟨h1,h2,h3,h4⟩:=h;exact⟨by simp[LW.put,h1],by simp only[LW.put,e58,e5w,e6f];omega,by simp only[LW.put,e58,e5w,e6f];omega,Nat.le_succ_of_le h4⟩
theorem a90(t:Ptr)(txg:Int)(free:List Int)(w:LW){n:Nat}(hw:LWok w n)(hn:n<=900000)(p:Ptr) :
 Ev tab A7 A5 151 [.ptr 0 0 0 1,.agg (Aj p)] (E4 t txg free w)=some (.agg (Aj p),E4 t txg free (w.point p)):=by
 refine Cv db5 rfl ?_;obtain⟨h1,h2,h3,h4⟩:=hw;have hap:w.held.map cI++[[.int .i64 p.addr]]=(w.held++[p.addr]).map cI:=by rw[e6o];rfl
 unfold E4 Hm LW.point
 simp(disch:=try exact dq)only[tx,seval,ah7,Aj,B6,Bh,Cg,Cf,Da,D9,e6i,e58,e5w,e6f,hap,h1]
theorem a3t(t:Ptr)(txg:Int)(free:List Int)(hf:free.length<=1000000)(w:LW){n:Nat}(hw:LWok w n)(hn:n<=800000)(kind:Int)(load:Bytes)(hload:load.length<=1000000) :
 Ev tab A7 A5 112 [.ptr 0 0 0 1,.int .i64 kind,.str load] (E4 t txg free w)=some (.agg (Aj (w.put txg free kind load).1),E4 t txg free (w.put txg free kind load).2):=by
 refine Cv de8 rfl ?_;obtain⟨h1,h2,h3,h4⟩:=hw;have hB:=λH=>b30 (Qy free w.bl.length) kind txg load hload H;have hbp:(Sa (Qy free w.bl.length) ⟨kind,txg,load⟩).addr=Qy free w.bl.length:=rfl;have hT:=a90 t txg free ⟨w.bl++[⟨kind,txg,load⟩],w.at'++[Qy free w.bl.length],w.held,w.olds⟩ (n:=n+1) ⟨by simp[h1],by simp;omega,by simp;omega,by simp;omega⟩ om (Sa (Qy free w.bl.length) ⟨kind,txg,load⟩);have hap1:w.bl.map G7++[[.int .i64 kind,.int .i64 txg,.str load]]=(w.bl++[(⟨kind,txg,load⟩:Block)]).map G7:=by rw[e6o];rfl
 have hap2:∀ a:Int,w.at'.map cI++[[.int .i64 a]]=(w.at'++[a]).map cI:=λa=>by rw[e6o];rfl
 unfold LW.point at hT;unfold LW.put;simp only[]at hT ⊢;rw[hbp]at hT;generalize Sa (Qy free w.bl.length) ⟨kind,txg,load⟩=p at *;unfold E4 Hm at hT ⊢;simp only[Aj,e58,e5w,e6f,e7p]at hT hB ⊢;by_cases c:w.bl.length<free.length
 ·have c':((w.bl.length:Int)<(free.length:Int)):=om;have e:Qy free w.bl.length=free.getD w.bl.length default:=if_pos c;simp only[e]at hT hB ⊢
  simp(disch:=try exact dq)only[tx,seval,a5c,KQ 151 rfl,Ay,hT,hB,c',hap1,hap2,B6,Bh,Cg,Cf,Da,D9,e6i,e58,e5w,e6f,h1,B8]
 ·have c':¬ ((w.bl.length:Int)<(free.length:Int)):=om;have e:Qy free w.bl.length=0:=if_neg c;simp only[e]at hT hB ⊢
  simp(disch:=try exact dq)only[tx,seval,a5c,KQ 151 rfl,Ay,hT,hB,c',hap1,hap2,B6,Bh,Cg,Cf,Da,D9,e6i,e58,e5w,e6f,h1,B8]
def a92(o:OldW)(n:Nat):Sl Ptr:=if a0v o n=true then some ((o.part.drop (n*4)).take 4)else none
theorem bm6(o:OldW)(n:Nat)(hn:n<=1000000)(h1:(els o.d.files).length<=1000000)(h2:o.part.length<=1000000)(H:AH):K tab A7 A5 185 [.agg (Ej o),.int .i64 (n:Int)] H=some (A4 Al (a92 o n),H):=by
 refine Ae d9j rfl (by simp[Aa,Ab,Vm,Ak]) (Ak _ _) ?_ H;rw[Vm];unfold a92 a0v;by_cases c:n<(els o.d.files).length/\(n+1)*4<=o.part.length
 ·have c1:¬ (((els o.d.files).length:Int)<=(n:Int)):=om;have c2:¬ ((o.part.length:Int)<((n:Int)+1)*4):=om;have u:((n:Int)*4).toNat=n*4:=om;have a1:((o.part.map Al).drop (n*4)).all (λe=>decide (e.length=6))=true:=by
   rw[<-List.map_drop,e5x];intro e he;obtain⟨x,_,rfl⟩:=e7o.1 he;rfl
  have a2:(((o.part.map Al).drop (n*4)).take 4).all (λe=>decide (e.length=6))=true:=by
   rw[<-List.map_drop,<-List.map_take,e5x];intro e he;obtain⟨x,_,rfl⟩:=e7o.1 he;rfl
  have tl:(o.part.map Al).take o.part.length=o.part.map Al:=F4 _ _;rw[if_pos (by simp[c.1,c.2])]
  simp(disch:=try exact dq)only[tx,seval,a13,e74,c1,c2,H8,a3c,u,a1,a2,tl,e6i,e60,e6w];rw[List.map_take,List.map_drop]
 ·rw[if_neg (by simp;omega)];by_cases c1:((els o.d.files).length:Int)<=(n:Int)
  ·simp(disch:=try exact dq)only[tx,seval,a13,e74,c1]
  ·have c2:((o.part.length:Int)<((n:Int)+1)*4):=om
   simp(disch:=try exact dq)only[tx,seval,a13,e74,c1,c2]
theorem al1{α:Type}[Inhabited α]{p:α->Bool}:∀ {l:List α} {j:Nat},j<l.length->(∀ i,i<j->p (l.getD i default)=false)->p (l.getD j default)=true->l.find? p=some (l.getD j default)
 |x::l,0,_,_,h2=>by rw[List.getD_cons_zero]at h2 ⊢;rw[List.find?_cons_of_pos h2]
 |x::l,j+1,hj,h,h2=>by
   have h0:=h 0 om;rw[List.getD_cons_zero]at h0;rw[List.getD_cons_succ]at h2 ⊢;rw[List.find?_cons_of_neg (by rw[h0];exact e5f)];exact al1 (by simpa using hj) (λi hi=>by have:=h (i+1) om;rwa [List.getD_cons_succ]at this) h2
theorem b1p{α:Type}[Inhabited α]{p:α->Bool}{l:List α}(h:∀ i,i<l.length->p (l.getD i default)=false):l.find? p=none:=by
 rw[List.find?_eq_none];intro x hx;obtain⟨i,hi,rfl⟩:=List.getElem_of_mem hx
 have:=h i hi;rw[e42,e47 hi]at this;rw[show(some l[i]).getD default=l[i]from rfl]at this;rw[this];exact e5f
structure OldOk(o:OldW):Prop where
 files:(els o.d.files).length=8
 body:∀ x∈els o.d.files,x.body.length<=128
 node:o.node.length=8
 part:o.part.length=32
theorem OldOk.has{o:OldW}(h:OldOk o){n:Nat}(hn:n<8):a0v o n=true:=by
 unfold a0v;rw[h.files,h.part];simp;omega
theorem Ie{α:Type}[Inhabited α]{l:List α}{j:Nat}(h:j<l.length):l.getD j default∈l:=by
 rw[e42,e47 h];exact e63 _
theorem cx0(t:Ptr)(txg:Int)(free:List Int)(hf:free.length<=1000000)(w:LW){m:Nat}(hw:LWok w m)(hm:m<=800000)(ho:∀ o∈w.olds,OldOk o)(n k:Nat)(hn:n<8)(hk:k<4)(s:Bytes)(hs:s.length<=1000000) :
 Ev tab A7 A5 182 [.ptr 0 0 0 1,.int .i64 (n:Int),.int .i64 (k:Int),.str s] (E4 t txg free w)=some (.agg (Aj (w.part txg free n k s).1),E4 t txg free (w.part txg free n k s).2):=by
 refine Cv d9m rfl ?_;have hat:=hw.at';unfold LW.part;by_cases c0:s=[]
 ·rw[if_pos c0];unfold E4 Hm
  simp(disch:=try exact dq)only[tx,seval,a55,c0,B6,Bh,Cg,Cf,Da,D9,e6i,hat];rfl
 ·rw[if_neg c0];have hP:=a3t t txg free hf w hw hm 1 s hs;have hT:=λp=>a90 t txg free w hw om p;have hol:=hw.olds;unfold E4 Hm at hP hT ⊢
  simp(disch:=try exact dq)only[tx,seval,a55,c0,B6,Bh,Cg,Cf,Da,D9,e6i,hat];generalize hr:Ai _ _ _=r;refine Bb hr w.olds.length (λj=>[.ptr 0 0 0 1,.int .i64 (n:Int),.int .i64 (k:Int),.str s,.ptr 5 0 0 1,.top,.top,.own 3 13 0 w.olds.length w.olds.length,.int .i64 w.olds.length,.int .i64 (j:Int),.top,.top]) (λ_=>_) (λj=>∀ i,i<j->Xm n k s (w.olds.getD i default)=false) ?_ rfl ?_ ?_ ?_
  ·rfl
  ·exact λi hi=>absurd hi (e6r _)
  ·intro j hj hJ;have hj':((j:Int)<(w.olds.length:Int)):=om;have hok:=ho _ (Ie hj);have hit:=al1 (p:=Xm n k s) hj hJ;have miss:Xm n k s (w.olds.getD j default)=false->∀ i,i<j+1->Xm n k s (w.olds.getD i default)=false:=λh i hi=>by
    rcases e7h i j with h'|h'
    ·exact hJ i h'
    ·rw[show i=j by omega];exact h
   obtain⟨o,hx⟩:∃ o,w.olds.getD j default=o:=⟨_,rfl⟩;have hg:(w.olds.map Ej)[j]?=some (Ej o):=(by rw[Ic hj Ej,hx]);rw[hx]at hok hit miss;have hPa:=λH=>bm6 o n om (by have:=hok.files;omega) (by have:=hok.part;omega) H;rw[Vm]at hg hPa;have c1:=hok.has hn;have hV:a92 o n=some ((o.part.drop (n*4)).take 4):=if_pos c1;have hm0:Xm n k s o=decide (Kx ((els o.d.files).getD n default).body k=s):=(by unfold Xm;rw[c1,e77]);rw[hV,Cx]at hPa;rw[hm0]at hit miss;have hf8:=hok.files;have hp32:=hok.part;have hn':((n:Int)<((els o.d.files).length:Int)):=om;have hll:((o.part.drop (n*4)).take 4).length=4:=(by rw[e67,e60];omega);have hgk:((o.part.drop (n*4)).take 4).getD k default=o.part.getD (n*4+k) default:=by
    rw[e42,List.getElem?_take,if_pos hk,e53,<-e42]
   have hk':((k:Int)<4):=om;have hPt:=λH=>bm9 ((els o.d.files).getD n default).body k (hok.body _ (Ie om)) hk H
   generalize (o.part.drop (n*4)).take 4=l at *;have hne:List.map Al l≠[]:=λh=>(by have:=congrArg List.length h;rw[e6i,hll]at this;cases this);by_cases c2:Kx ((els o.d.files).getD n default).body k=s
   ·rw[hit (by simpa using c2)];simp only[];have hT':=hT (o.part.getD (n*4+k) default);rw[<-hgk]at hT' ⊢;simp only[Aj]at hT'
    simp(disch:=try exact dq)only[tx,seval,hj',hg,hPa,hne,hn',hPt,c2,hll,hk',Bl,B8,Ao,Al,KQ 151 rfl,Ay,hT',B6,Bh,Cg,Cf,Da,D9,e6i,hat];rfl
   ·simp(disch:=try exact dq)only[tx,seval,hj',hg,hPa,hne,hn',hPt,c2,hll,hk',Bl,B8,Ao,Al,B6,Bh,Cg,Cf,Da,D9,e74,e6i,hat];exact⟨rfl,miss (e6q c2)⟩
  ·intro hJ;rw[b1p hJ];simp only[];have hat2:=(hw.put txg free 1 s).at';generalize w.put txg free 1 s=q at *;obtain⟨p2,w2⟩:=q;simp only[Aj]at hP hat2 ⊢
   simp(disch:=try exact dq)only[tx,seval,e7f,KQ 112 rfl,Ay,hP,B6,Bh,Cg,Cf,Da,D9,e6i,hat,hat2]
theorem cx1(t:Ptr)(txg:Int)(free:List Int)(hf:free.length<=1000000)(w:LW){m:Nat}(hw:LWok w m)(hm:m<=800000)(ho:∀ o∈w.olds,OldOk o)(l:List Ptr)(hl:l.length=8) :
 Ev tab A7 A5 150 [.ptr 0 0 0 1,.fz (l.map Al)] (E4 t txg free w)=some (.agg (Aj (w.nodes txg free l).1),E4 t txg free (w.nodes txg free l).2):=by
 refine Cv db6 rfl ?_;have hat:=hw.at';unfold LW.nodes;have hP:=a3t t txg free hf w hw hm 3 (Ro l) (by have:=bk0 l;omega);have hT:=λp=>a90 t txg free w hw om p;have hol:=hw.olds;have hS:=λH=>d2j (some l) (by rw[Az];omega) H;rw[Az,Cx]at hS;unfold E4 Hm at hP hT ⊢
 simp(disch:=try exact dq)only[tx,seval,ah8,B6,Bh,Cg,Cf,Da,D9,e6i,hat];generalize hr:Ai _ _ _=r;refine Bb hr w.olds.length (λj=>[.ptr 0 0 0 1,.fz (l.map Al),.ptr 5 0 0 1,.top,.own 3 13 0 w.olds.length w.olds.length,.int .i64 w.olds.length,.int .i64 (j:Int),.top,.top]) (λ_=>_) (λj=>∀ i,i<j->decide ((w.olds.getD i default).node=l)=false) ?_ rfl ?_ ?_ ?_
 ·rfl
 ·exact λi hi=>absurd hi (e6r _)
 ·intro j hj hJ;have hj':((j:Int)<(w.olds.length:Int)):=om;have hok:=ho _ (Ie hj);have hit:=al1 (p:=λo=>decide (o.node=l)) hj hJ;have miss:decide ((w.olds.getD j default).node=l)=false->∀ i,i<j+1->decide ((w.olds.getD i default).node=l)=false:=λh i hi=>by
   rcases e7h i j with h'|h'
   ·exact hJ i h'
   ·rw[show i=j by omega];exact h
  obtain⟨o,hx⟩:∃ o,w.olds.getD j default=o:=⟨_,rfl⟩;have hg:(w.olds.map Ej)[j]?=some (Ej o):=by rw[Ic hj Ej,hx]
  rw[hx]at hok hit miss;rw[Vm]at hg;have hE:=λH=>c63 (some o.node) (some l) (by rw[Az,hok.node];omega) (by rw[Az,hl];omega) H;rw[Az,Az,Cx,Cx]at hE;by_cases c2:o.node=l
  ·rw[hit (e73 c2)];simp only[];have hT':=hT o.set;simp only[Aj]at hT';simp only[e73 c2]at hE
   simp(disch:=try exact dq)only[tx,seval,hj',hg,hE,KQ 151 rfl,Ay,hT',B6,Bh,Cg,Cf,Da,D9,e6i,hat];rfl
  ·simp(disch:=try exact dq)only[tx,seval,hj',hg,hE,c2,B6,Bh,Cg,Cf,Da,D9,e74,e6i,hat];exact⟨rfl,miss (e6q c2)⟩
 ·intro hJ;rw[b1p hJ];simp only[];have hat2:=(hw.put txg free 3 (Ro l)).at';generalize w.put txg free 3 (Ro l)=q at *;obtain⟨p2,w2⟩:=q;simp only[Aj]at hP hat2 ⊢
  simp(disch:=try exact dq)only[tx,seval,e7f,hS,KQ 112 rfl,Ay,hP,B6,Bh,Cg,Cf,Da,D9,e6i,hat,hat2]
theorem a93(txg:Int)(free:List Int)(w:LW)(n:Nat)(b:Bytes):∀ j,(LW.partJ txg free w n b j).1.length=j
 |0=>rfl
 |j+1=>by rw[LW.partJ,e58,a93 txg free w n b j];rfl
theorem LWok.part{w:LW}{m:Nat}(h:LWok w m)(txg:Int)(free:List Int)(n k:Nat)(s:Bytes):LWok (w.part txg free n k s).2 (m+1):=by
 unfold LW.part;split
 ·exact⟨h.at',Nat.le_succ_of_le h.bl,Nat.le_succ_of_le h.held,Nat.le_succ_of_le h.olds⟩
 ·split
  ·exact h.point _
  ·exact h.put _ _ _ _
theorem LW.part_olds(w:LW)(txg:Int)(free:List Int)(n k:Nat)(s:Bytes):(w.part txg free n k s).2.olds=w.olds:=by
 unfold LW.part;split
 ·rfl
 ·split<;>rfl
theorem LWok.partJ{w:LW}{m:Nat}(h:LWok w m)(txg:Int)(free:List Int)(n:Nat)(b:Bytes):∀ j,LWok (LW.partJ txg free w n b j).2 (m+j)
 |0=>h
 |j+1=>(LWok.partJ h txg free n b j).part _ _ _ _ _
theorem LW.partJ_olds(w:LW)(txg:Int)(free:List Int)(n:Nat)(b:Bytes):∀ j,(LW.partJ txg free w n b j).2.olds=w.olds
 |0=>rfl
 |j+1=>by rw[LW.partJ];exact(LW.part_olds _ _ _ _ _ _).trans (LW.partJ_olds w txg free n b j)
def Ru(l:List Ptr):List Ptr:=l++List.replicate (4-l.length) Bt
theorem d3l{l:List Ptr}(h:l.length<=4):(Ru l).length=4:=by unfold Ru;rw[e58,e4n];omega
theorem d3k{l:List Ptr}(h:l.length<4)(p:Ptr):(Ru l).set l.length p=Ru (l++[p]):=by
 unfold Ru;rw[List.set_append,if_neg om,Nat.sub_self,show 4-l.length=(4-(l++[p]).length)+1 by simp;omega,e4x,e5c];simp
theorem d3m{l:List Ptr}(h:l.length=4):Ru l=l:=by unfold Ru;rw[h];simp
theorem Wo(H:AH)(l:List Ptr):(l.map Aj).map (λe=>e.map (Cq H 3))=l.map Al:=by rw[e7q];rfl
theorem b51(a:AV)(r sz o l t:Nat)(H:AH):K tab A7 A5 184 [a,.own r sz o l t] H=Hn tab A7 A5 184 [a,.own r sz o l t] H (Aa (B3 H [a,.own r sz o l t])) (K tab A7 A5 184 (B3 H [a,.own r sz o l t]) H):=Nf _ _ _ rfl _ _
theorem cx8(a b:AV)(r sz o l t:Nat)(H:AH):K tab A7 A5 186 [a,b,.own r sz o l t] H=Hn tab A7 A5 186 [a,b,.own r sz o l t] H (Aa (B3 H [a,b,.own r sz o l t])) (K tab A7 A5 186 (B3 H [a,b,.own r sz o l t]) H):=Nf _ _ _ rfl _ _
theorem cx2(t:Ptr)(txg:Int)(free:List Int)(hf:free.length<=1000000)(w:LW){m:Nat}(hw:LWok w m)(hm:m<=700000)(ho:∀ o∈w.olds,OldOk o)(n:Nat)(hn:n<8)(x:Node)(hx:x.body.length<=128)(hxn:x.name.length<=1000000) :
 Ev tab A7 A5 149 [.ptr 0 0 0 1,.int .i64 (n:Int),.agg [.int .i64 x.kind,.int .i64 x.up,.str x.name,.str x.body,.int .i64 x.bad]] (E4 t txg free w) =
  some (.tuple [.agg (Aj (w.node txg free n x).1.1),.own 5 6 0 4 4],E4 t txg free (w.node txg free n x).2++[some ((w.node txg free n x).1.2.map Aj)]):=by
 refine Cv db8 rfl ?_;have hat:=hw.at';unfold LW.node;by_cases c0:x.kind=0
 ·rw[if_pos c0];unfold E4 Hm
  simp(disch:=try exact dq)only[tx,seval,a58,c0,B6,Bh,Cg,Cf,Da,D9,e6i,hat];rfl
 ·rw[if_neg c0];unfold E4 Hm
  simp(disch:=try exact dq)only[tx,seval,a58,c0,B6,Bh,Cg,Cf,Da,D9,e6i,hat];generalize hr:Ai _ _ _=r;refine Bb hr 4 (λj=>[.ptr 0 0 0 1,.int .i64 (n:Int),.top,.ptr 5 0 0 1,.ptr 6 0 0 1,.top,.own 7 6 0 4 4,.top,.top,.top,.top,.top,.int .i64 4,.int .i64 (j:Int),.top,.top,.top,.top,.top,.top,.top,.top,.top,.top,.top,.top,.top,.top])
   (λj=>E4 t txg free (LW.partJ txg free w n x.body j).2++[some [[.int .i64 x.kind,.int .i64 x.up,.str x.name,.str x.body,.int .i64 x.bad]],some [[.int .i64 0,.int .i64 0,.int .u32 0,.int .u32 0,.int .u32 0,.int .u32 0]],some ((Ru (LW.partJ txg free w n x.body j).1).map Aj)]) (λ_=>True) ?_ ?_ trivial ?_ ?_
  ·rfl
  ·rfl
  ·intro j hj _;have hj':((j:Int)<4):=om;have hwj:=hw.partJ txg free n x.body j;have hoj:=LW.partJ_olds w txg free n x.body j;have hlj:=a93 txg free w n x.body j;have hS:LW.partJ txg free w n x.body (j+1)=((LW.partJ txg free w n x.body j).1++[((LW.partJ txg free w n x.body j).2.part txg free n j (Kx x.body j)).1],((LW.partJ txg free w n x.body j).2.part txg free n j (Kx x.body j)).2):=rfl;generalize LW.partJ txg free w n x.body j=q at *;obtain⟨lj,wj⟩:=q;simp only[]at hwj hoj hlj hS ⊢;have hPt:=λH=>bm9 x.body j hx hj H;have hsl:=bm8 x.body j;have hPa:=cx0 t txg free hf wj hwj om (by rw[hoj];exact ho) n j hn hj (Kx x.body j) om;have hwp:=(hwj.part txg free n j (Kx x.body j)).at';have haj:=hwj.at';have hset:=λp=>d3k (l:=lj) om p;rw[hlj]at hset;have hpl:(Ru lj).length=4:=d3l om;have hgp:=dy0 (Ru lj) j om;generalize wj.part txg free n j (Kx x.body j)=q2 at *;obtain⟨p2,w2⟩:=q2;simp only[Aj]at hPa hwp hset ⊢;unfold E4 Hm at hPa ⊢;simp only[e62,e6k]
   simp(disch:=try exact dq)only[tx,seval,hj',hPt,KQ 182 rfl,Ay,hPa,hgp,d1q,hset,hpl,B6,Bh,Cg,Cf,Da,D9,Bk,Br,e74,e6i,haj,hwp];rw[hS];exact⟨rfl,rfl⟩
  ·intro _;have hwj:=hw.partJ txg free n x.body 4;have hoj:=LW.partJ_olds w txg free n x.body 4;have hlj:=a93 txg free w n x.body 4;generalize LW.partJ txg free w n x.body 4=q at *;obtain⟨l,v⟩:=q;simp only[]at hwj hoj hlj ⊢;rw[d3m hlj];rw[<-hoj]at ho;have hav:=hwj.at';unfold LW.node1;have hN:=λH=>bj0 x.kind x.up x.name x.body x.bad (x.body.length:Int) (some l) om (by rw[Az];omega) H;rw[Az,Cx]at hN;have hP:=a3t t txg free hf v hwj om 2 (Np ⟨x.kind,x.up,x.name⟩ x.body.length l) (by have:=bk3 ⟨x.kind,x.up,x.name⟩ x.body.length l;omega);have hT:=λp=>a90 t txg free v hwj om p;have hol:=hwj.olds;have ht4:List.take 4 (l.map Aj)=l.map Aj:=e4h (by rw[e6i];omega);unfold E4 Hm at hP hT ⊢;simp only[e62,e6k]
   simp(disch:=try exact dq)only[tx,seval,e7f,B6,Bh,Cg,Cf,Da,D9,Bk,Br,e6i,hav];generalize hr2:Ai _ _ _=r2;refine Bb hr2 v.olds.length (λj=>[.ptr 0 0 0 1,.int .i64 (n:Int),.top,.ptr 5 0 0 1,.ptr 6 0 0 1,.top,.own 7 6 0 4 4,.top,.top,.top,.top,.top,.top,.top,.top,.top,.top,.top,.own 3 13 0 v.olds.length v.olds.length,.int .i64 v.olds.length,.int .i64 (j:Int),.top,.top,.top,.top,.top,.top,.top])
    (λ_=>_) (λj=>∀ i,i<j->Xn n x l (v.olds.getD i default)=false) ?_ rfl ?_ ?_ ?_
   ·rfl
   ·exact λi hi=>absurd hi (e6r _)
   ·intro j hj hJ;have hj':((j:Int)<(v.olds.length:Int)):=om;have hok:=ho _ (Ie hj);have hit:=al1 (p:=Xn n x l) hj hJ;have miss:Xn n x l (v.olds.getD j default)=false->∀ i,i<j+1->Xn n x l (v.olds.getD i default)=false:=λh i hi=>by
     rcases e7h i j with h'|h'
     ·exact hJ i h'
     ·rw[show i=j by omega];exact h
    obtain⟨o,hxo⟩:∃ o,v.olds.getD j default=o:=⟨_,rfl⟩;have hg:(v.olds.map Ej)[j]?=some (Ej o):=(by rw[Ic hj Ej,hxo]);rw[hxo]at hok hit miss;have hPa:=λH=>bm6 o n om (by have:=hok.files;omega) (by have:=hok.part;omega) H;rw[Vm]at hg hPa;have c1:=hok.has hn;have hV:a92 o n=some ((o.part.drop (n*4)).take 4):=if_pos c1;have hW:bm7 o n=(o.part.drop (n*4)).take 4:=if_pos c1;rw[hV,Cx]at hPa;have hf8:=hok.files;have hn8:=hok.node;have hn':((n:Int)<((els o.d.files).length:Int)):=om;have hn2:¬ ((o.node.length:Int)<=(n:Int)):=om;have hE:=λH=>c63 (some ((o.part.drop (n*4)).take 4)) (some l) (by rw[Az,e67];omega) (by rw[Az];omega) H;rw[Az,Az,Cx,Cx]at hE;obtain⟨y,hy⟩:∃ y,(els o.d.files).getD n default=y:=⟨_,rfl⟩;have hmt:Xn n x l o=(decide ((o.part.drop (n*4)).take 4=l)&&(decide (y.kind=x.kind)&&decide (y.up=x.up)&&decide (y.name=x.name)&&decide (y.body.length=x.body.length))):=by
     unfold Xn;rw[hW,hn8,hy,e73 hn,e78]
    rw[hmt]at hit miss;have hT':=hT (o.node.getD n default);simp only[Aj]at hT';cases c2:decide ((o.part.drop (n*4)).take 4=l)with
    |false=>
      rw[c2]at miss;simp only[c2]at hE
      simp(disch:=try exact dq)only[tx,seval,hj',hg,hPa,b51,Pu,Wo,ht4,Ay,hE,B6,Bh,Cg,Cf,Da,D9,Bk,Br,e74,e6i,hav,hlj];exact⟨rfl,miss rfl⟩
    |true=>
      rw[c2]at hit miss;simp only[c2]at hE
      simp(disch:=try exact dq)only[tx,seval,hj',hg,hPa,b51,Pu,Wo,ht4,Ay,hE,hn',hn2,hy,Bl,B8,Ao,Al,KQ 151 rfl,hT',B6,Bh,Cg,Cf,Da,D9,Bk,Br,e74,e6i,hav,hlj];have hb:(decide ((decide ((decide (y.kind=x.kind)&&decide (y.up=x.up))=true)&&decide (y.name=x.name))=true)&&decide ((y.body.length:Int)=(x.body.length:Int)))=(true&&(decide (y.kind=x.kind)&&decide (y.up=x.up)&&decide (y.name=x.name)&&decide (y.body.length=x.body.length))):=(by simp[Int.natCast_inj]);refine⟨λc=>?_,λc=>⟨rfl,miss ?_⟩⟩
      ·rw[hit (by rw[<-hb];exact c)];rfl
      ·rw[<-hb];exact e5q.2 c
   ·intro hJ;rw[b1p hJ];simp only[];have hat2:=(hwj.put txg free 2 (Np ⟨x.kind,x.up,x.name⟩ x.body.length l)).at';generalize v.put txg free 2 (Np ⟨x.kind,x.up,x.name⟩ x.body.length l)=q at *;obtain⟨p2,w2⟩:=q;simp only[Aj]at hP hat2 ⊢
    simp(disch:=try exact dq)only[tx,seval,e7f,cx8,Pu,Wo,ht4,hN,KQ 112 rfl,Ay,hP,B6,Bh,Cg,Cf,Da,D9,Bk,Br,e6i,hav,hat2,hlj]
theorem LWok.node1{w:LW}{m:Nat}(h:LWok w m)(txg:Int)(free:List Int)(n:Nat)(x:Node)(l:List Ptr):LWok (w.node1 txg free n x l).2 (m+1):=by
 unfold LW.node1;split
 ·exact h.point _
 ·exact h.put _ _ _ _
theorem LW.node1_olds(w:LW)(txg:Int)(free:List Int)(n:Nat)(x:Node)(l:List Ptr):(w.node1 txg free n x l).2.olds=w.olds:=by
 unfold LW.node1;split<;>rfl
theorem LWok.node{w:LW}{m:Nat}(h:LWok w m)(txg:Int)(free:List Int)(n:Nat)(x:Node):LWok (w.node txg free n x).2 (m+5):=by
 unfold LW.node;split
 ·exact⟨h.at',Nat.le_add_right_of_le h.bl,Nat.le_add_right_of_le h.held,Nat.le_add_right_of_le h.olds⟩
 ·exact(h.partJ txg free n x.body 4).node1 _ _ _ _ _
theorem LW.node_olds(w:LW)(txg:Int)(free:List Int)(n:Nat)(x:Node):(w.node txg free n x).2.olds=w.olds:=by
 unfold LW.node;split
 ·rfl
 ·exact(LW.node1_olds _ _ _ _ _ _).trans (LW.partJ_olds w txg free n x.body 4)
theorem LW.node_len(w:LW)(txg:Int)(free:List Int)(n:Nat)(x:Node):(w.node txg free n x).1.2.length=4:=by
 unfold LW.node;split
 ·rfl
 ·exact a93 txg free w n x.body 4
theorem LWok.setJ{w:LW}{m:Nat}(h:LWok w m)(txg:Int)(free:List Int)(f:List Node):∀ j,LWok (LW.setJ txg free w f j).2 (m+5*j)
 |0=>h
 |j+1=>(LWok.setJ h txg free f j).node _ _ _ _
theorem LW.setJ_olds(w:LW)(txg:Int)(free:List Int)(f:List Node):∀ j,(LW.setJ txg free w f j).2.olds=w.olds
 |0=>rfl
 |j+1=>by rw[LW.setJ];exact(LW.node_olds _ _ _ _ _).trans (LW.setJ_olds w txg free f j)
theorem LW.setJ_len(w:LW)(txg:Int)(free:List Int)(f:List Node):∀ j,(LW.setJ txg free w f j).1.1.length=j/\(LW.setJ txg free w f j).1.2.length=4*j
 |0=>⟨rfl,rfl⟩
 |j+1=>by
   have ih:=LW.setJ_len w txg free f j;rw[LW.setJ];simp only[e58,e5w,e6f,LW.node_len];omega
theorem LWok.nodes{w:LW}{m:Nat}(h:LWok w m)(txg:Int)(free:List Int)(l:List Ptr):LWok (w.nodes txg free l).2 (m+1):=by
 unfold LW.nodes;split
 ·exact h.point _
 ·exact h.put _ _ _ _
theorem LW.nodes_olds(w:LW)(txg:Int)(free:List Int)(l:List Ptr):(w.nodes txg free l).2.olds=w.olds:=by
 unfold LW.nodes;split<;>rfl
theorem LWok.set{w:LW}{m:Nat}(h:LWok w m)(txg:Int)(free:List Int)(x:Dset):LWok (w.set txg free x).2 (m+5*(els x.files).length+2):=by
 have h1:=(h.setJ txg free (els x.files) (els x.files).length).nodes txg free (LW.setJ txg free w (els x.files) (els x.files).length).1.1;exact⟨h1.at',Nat.le_succ_of_le h1.bl,Nat.le_succ_of_le h1.held,by simp only[LW.set,LW.old,e58,e5w,e6f];have:=h1.olds;omega⟩
theorem e2m(o:OldW):Aa (Ej o)=true:=by rw[Vm];simp[Aa,Ab,Ak]
theorem b1e(r:Nat)(es:List (List PV))(l:List OldW):(l.map Ej).map (Bm r es)=l.map Ej:=S7 _ _ _ λe he=>by
 obtain⟨a,_,rfl⟩:=e7o.1 he;exact e2m a
theorem b4o(t:Ptr)(txg:Int)(free:List Int)(hf:free.length<=1000000)(w:LW){m:Nat}(hw:LWok w m)(hm:m<=600000)(ho:∀ o∈w.olds,OldOk o)(x:Dset)(hx:(els x.files).length=8)(hb:∀ y∈els x.files,y.body.length<=128/\y.name.length<=1000000) :
 Ev tab A7 A5 111 [.ptr 0 0 0 1,.agg [.int .i64 x.id,.int .i64 x.kind,.int .i64 x.origin,.int .i64 x.quota,A4 Ao x.files]] (E4 t txg free w) =
  some (.agg (Aj (w.set txg free x).1),E4 t txg free (w.set txg free x).2):=by
 refine Cv de9 rfl ?_;have hat:=hw.at';unfold LW.set;rw[hx];unfold E4 Hm
 simp(disch:=try exact dq)only[tx,seval,ak0,B6,Bh,Cg,Cf,Da,D9,e6i,hat];generalize hr:Ai _ _ _=r;refine Bb hr 8 (λj=>[.ptr 0 0 0 1,.top,.top,.ptr 6 0 0 1,.ptr 7 0 0 1,.top,.top,.top,.top,.top,A4 Ao x.files,.int .i64 (els x.files).length,.int .i64 (j:Int),.top,.top,.top,.top,.top,.top,.top])
  (λj=>E4 t txg free (LW.setJ txg free w (els x.files) j).2++[some [[.int .i64 x.id,.int .i64 x.kind,.int .i64 x.origin,.int .i64 x.quota,A4 Ao x.files]],some [[.int .i64 0,.int .i64 0,.int .u32 0,.int .u32 0,.int .u32 0,.int .u32 0]],some [[.int .i64 x.id,.int .i64 x.kind,.int .i64 x.origin,.int .i64 x.quota,A4 Ao x.files,.int .i64 0,.int .i64 0,.int .u32 0,.int .u32 0,.int .u32 0,.int .u32 0,.own 8 6 0 j j,.own 9 6 0 (4*j) (4*j)]],some ((LW.setJ txg free w (els x.files) j).1.1.map Aj),some ((LW.setJ txg free w (els x.files) j).1.2.map Aj)]) (λ_=>True) ?_ ?_ trivial ?_ ?_
 ·rfl
 ·rfl
 ·intro j hj _;have hj':((j:Int)<8):=om;have hxl:((els x.files).length:Int)=8:=om;have hwj:=hw.setJ txg free (els x.files) j;have hoj:=LW.setJ_olds w txg free (els x.files) j;have hlj:=LW.setJ_len w txg free (els x.files) j;have hS:LW.setJ txg free w (els x.files) (j+1)=(((LW.setJ txg free w (els x.files) j).1.1++[((LW.setJ txg free w (els x.files) j).2.node txg free j ((els x.files).getD j default)).1.1],(LW.setJ txg free w (els x.files) j).1.2++((LW.setJ txg free w (els x.files) j).2.node txg free j ((els x.files).getD j default)).1.2),((LW.setJ txg free w (els x.files) j).2.node txg free j ((els x.files).getD j default)).2):=rfl;obtain⟨y,hy⟩:∃ y,(els x.files).getD j default=y:=⟨_,rfl⟩;have hyb:=hb _ (Ie (show j<(els x.files).length by omega));rw[hy]at hS hyb;generalize LW.setJ txg free w (els x.files) j=q at *;obtain⟨⟨nj,pj⟩,wj⟩:=q;simp only[]at hwj hoj hlj hS ⊢;have hN:=cx2 t txg free hf wj hwj om (by rw[hoj];exact ho) j hj y hyb.1 hyb.2;have hwp:=(hwj.node txg free j y).at';have hnl:=LW.node_len wj txg free j y;have haj:=hwj.at';generalize wj.node txg free j y=q2 at *;obtain⟨⟨p2,l2⟩,w2⟩:=q2;simp only[Aj]at hN hwp hnl ⊢;unfold E4 Hm at hN ⊢;simp only[e62,e6k]at hN ⊢;have hal:(l2.map Aj).all (λe=>decide (e.length=6))=true:=by
   rw[e5x];intro e he;obtain⟨z,_,rfl⟩:=e7o.1 he;rfl
  have ht4:List.take 4 (l2.map Aj)=l2.map Aj:=e4h (by rw[e6i];omega)
  simp(disch:=try exact dq)only[tx,seval,hj',hxl,hy,Bl,Ao,hal,ht4,KQ 149 rfl,Ay,hN,B6,Bh,Cg,Cf,Da,D9,Bk,Br,e74,e6i,haj,hwp,hnl,hlj];rw[hS];refine⟨rfl,?_⟩;rw[show 4*(j+1)=4*j+4 by omega];simp only[e6o];rfl
 ·intro _;have hwj:=hw.setJ txg free (els x.files) 8;have hoj:=LW.setJ_olds w txg free (els x.files) 8;have hlj:=LW.setJ_len w txg free (els x.files) 8;have hxl:((els x.files).length:Int)=8:=om;generalize LW.setJ txg free w (els x.files) 8=q at *;obtain⟨⟨nj,pj⟩,v⟩:=q;simp only[]at hwj hoj hlj ⊢;rw[<-hoj]at ho;have hN:=cx1 t txg free hf v hwj om ho nj hlj.1;have hwp:=(hwj.nodes txg free nj).at';have hop:=LW.nodes_olds v txg free nj;have hol:=hwj.olds;have hav:=hwj.at';generalize v.nodes txg free nj=q2 at *;obtain⟨p2,w2⟩:=q2;simp only[Aj]at hN hwp hop ⊢;unfold LW.old;unfold E4 Hm at hN ⊢;simp only[e62,e6k]at hN ⊢;have tn:List.take 8 (nj.map Al)=nj.map Al:=e4h (by rw[e6i];omega);have tp:List.take 32 (pj.map Al)=pj.map Al:=e4h (by rw[e6i];omega);have S3:4*8=32:=rfl;have how:w2.olds.length<=700000:=by rw[hop];omega
  have hap:w2.olds.map Ej++[[.int .i64 x.id,.int .i64 x.kind,.int .i64 x.origin,.int .i64 x.quota,A4 Ao x.files,.int .i64 p2.addr,.int .i64 p2.birth,.int .u32 p2.sum.a.toNat,.int .u32 p2.sum.b.toNat,.int .u32 p2.sum.c.toNat,.int .u32 p2.sum.d.toNat,.fz (nj.map Al),.fz (pj.map Al)]]=(w2.olds++[(⟨x,p2,nj,pj⟩:OldW)]).map Ej:=by rw[e6o,e75,e7k,Vm]
  have hn8:=hlj.1;have hp32:=hlj.2
  simp(disch:=try exact dq)only[tx,seval,e7f,hxl,S3,KQ 150 rfl,Ay,hN,B6,Bh,Cg,Cf,Da,D9,Bk,Br,Re,Oz,P0,J3,b1e,tn,tp,hap,e58,e5w,e6f,e74,e6i,hav,hwp,hn8,hp32]
structure OldV where
 r:Root
 h1:Sl Rn
 h2:Sl Rn
 h3:Sl Rn
 h4:Sl Rn
 v:ViewL
def Ff(o:OldV):List AV:=Nh o.r (A4 A8 o.h1) (A4 A8 o.h2) (A4 A8 o.h3) (A4 A8 o.h4) o.v
theorem bq0(l:List OldV):Calm (l.map Ff):=by
 refine⟨Gz l _ λo=>?_,λτ=>?_⟩
 ·simp[Ff,Nh,Eb,C1,Ci,az2]
 ·unfold renO;rw[e7q];exact e4y λo _=>by simp[Ff,Nh,Eb,Bw,ren,Kn]
def Hi(v:ViewL):Nat->List OldW
 |0=>[]
 |j+1=>if(j<v.set.length/\j<v.node.length)/\j<v.part.length then Hi v j++[⟨v.sets.getD j default,v.set.getD j default,v.node.getD j [],v.part.getD j []⟩]else Hi v j
theorem b0b(v:ViewL):∀ j,(Hi v j).length<=j
 |0=>e7y _
 |j+1=>by
   have ih:=b0b v j;rw[Hi];split
   ·rw[e58,e5w,e6f];omega
   ·omega
def Bz(l:List OldV):Nat->List OldW
 |0=>[]
 |i+1=>match l[i]? with
   |some o=>Bz l i++Hi o.v o.v.sets.length
   |none=>Bz l i
theorem Xg(l:List OldV){k:Nat}(h:∀ o∈l,o.v.sets.length<=k):∀ i,(Bz l i).length<=k*i
 |0=>e7y _
 |i+1=>by
   have ih:=Xg l h i;rw[Bz];split
   ·rename_i o ho;have h1:=b0b o.v o.v.sets.length;have h2:=h o (e4q ho);rw[e58,Nat.mul_succ];omega
   ·rw[Nat.mul_succ];omega
theorem Ca(l:List OldV):refsO (some (l.map Ff))=[]:=(bq0 l).refs
theorem C9(τ:Nat->Option Nat)(l:List OldV):renO τ (l.map Ff)=l.map Ff:=(bq0 l).ren τ
theorem d48(l:List OldV)(hl:l.length<=100)(hs:∀ o∈l,o.v.sets.length<=1000) :
 Ev tab A7 A5 109 [.own 0 30 0 l.length l.length] [some (l.map Ff)]=some (.own 1 13 0 (Bz l l.length).length (Bz l l.length).length,[some (l.map Ff),some ((Bz l l.length).map Ej)]):=by
 refine Cv bx2 rfl ?_
 simp(disch:=try exact dq)only[tx,seval,a5d,Ca,C9,e6i];generalize hr:Ai _ _ _=r;refine Bb hr l.length (λi=>[.top,.top,.own 1 13 0 (Bz l i).length (Bz l i).length,.top,.top,.top,.own 0 30 0 l.length l.length,.int .i64 l.length,.int .i64 (i:Int),.top,.top,.top,.top,.top,.top,.top,.top])
  (λi=>[some (l.map Ff),some ((Bz l i).map Ej)]) (λ_=>True) ?_ ?_ trivial ?_ ?_
 ·rfl
 ·rfl
 ·intro i hi _;have hi':((i:Int)<(l.length:Int)):=om;have ho:=hs _ (e63 hi);have hg:(l.map Ff)[i]?=some (Ff l[i]):=by rw[e5j,e47 hi];rfl
  have hS:Bz l (i+1)=Bz l i++Hi l[i].v l[i].v.sets.length:=by rw[Bz,e47 hi]
  have hol:=Xg l hs i;have hjl:=b0b l[i].v;rw[hS];generalize l[i]=o at *;generalize Bz l i=O at *;simp only[Ff,Nh,Eb]at hg
  simp(disch:=try exact dq)only[tx,seval,hi',hg,Ca,C9,Da,D9,e6i];generalize hr2:Ai _ _ _=r2;refine Ny (Q:=λr=>Rd _ _ _ _ (Hu _ _ (Cn _ _ (C2 _ (C2 _ r))))) hr2 o.v.sets.length (λj=>[.top,.top,.own 1 13 0 (O++Hi o.v j).length (O++Hi o.v j).length,.ptr 2 0 0 1,.top,.top,.own 0 30 0 l.length l.length,.int .i64 l.length,.int .i64 (i:Int),.top,.top,.fz (o.v.sets.map B7),.int .i64 o.v.sets.length,.int .i64 (j:Int),.top,.top,.top])
   (λj=>[some (l.map Ff),some ((O++Hi o.v j).map Ej),some [Nh o.r (A4 A8 o.h1) (A4 A8 o.h2) (A4 A8 o.h3) (A4 A8 o.h4) o.v]]) (λ_=>True) ?_ ?_ trivial ?_ ?_
  ·simp[Hi]
  ·simp[Hi,Nh,Eb]
  ·intro j hj _;have hj':((j:Int)<(o.v.sets.length:Int)):=om;have hjl':=hjl j;unfold Nh Eb;obtain⟨ds,hds⟩:∃ ds,o.v.sets.getD j default=ds:=⟨_,rfl⟩;obtain⟨sp,hsp⟩:∃ sp,o.v.set.getD j default=sp:=⟨_,rfl⟩;obtain⟨nd,hnd⟩:∃ nd,o.v.node.getD j []=nd:=⟨_,rfl⟩;obtain⟨pt,hpt⟩:∃ pt,o.v.part.getD j []=pt:=⟨_,rfl⟩;have hnd':o.v.node.getD j default=nd:=hnd;have hpt':o.v.part.getD j default=pt:=hpt;have hSj:Hi o.v (j+1)=if(j<o.v.set.length/\j<o.v.node.length)/\j<o.v.part.length then Hi o.v j++[⟨ds,sp,nd,pt⟩]else Hi o.v j:=(by rw[<-hds,<-hsp,<-hnd,<-hpt];rfl);have hap:∀ L:List OldW,L.map Ej++[[.int .i64 ds.id,.int .i64 ds.kind,.int .i64 ds.origin,.int .i64 ds.quota,A4 Ao ds.files,.int .i64 sp.addr,.int .i64 sp.birth,.int .u32 sp.sum.a.toNat,.int .u32 sp.sum.b.toNat,.int .u32 sp.sum.c.toNat,.int .u32 sp.sum.d.toNat,.fz (nd.map Al),.fz (pt.map Al)]]=(L++[(⟨ds,sp,nd,pt⟩:OldW)]).map Ej:=λL=>(by rw[e6o,e75,e7k,Vm]);by_cases c1:j<o.v.set.length
   ·have An:((j:Int)<(o.v.set.length:Int)):=om;by_cases c2:j<o.v.node.length
    ·have B9:((j:Int)<(o.v.node.length:Int)):=om;by_cases c3:j<o.v.part.length
     ·have M5:((j:Int)<(o.v.part.length:Int)):=om;rw[hSj,if_pos ⟨⟨c1,c2⟩,c3⟩,<-e5o];have hOl:(O++Hi o.v j).length<=200000:=(by rw[e58];have:=ho;omega);generalize O++Hi o.v j=L at *
      simp(disch:=try exact dq)only[tx,seval,hj',hds,An,B9,M5,hsp,hnd',hpt',B7,O5,Sr,Al,B8,hap,Ca,C9,Da,D9,e74,e6i,e58,e5w,e6f];rfl
     ·have M5:¬ ((j:Int)<(o.v.part.length:Int)):=om;rw[hSj,if_neg (λh=>c3 h.2)]
      simp(disch:=try exact dq)only[tx,seval,hj',hds,An,B9,M5,B7,O5,B8,Ca,C9,Da,D9,e74,e6i];rfl
    ·have B9:¬ ((j:Int)<(o.v.node.length:Int)):=om;rw[hSj,if_neg (λh=>c2 h.1.2)]
     simp(disch:=try exact dq)only[tx,seval,hj',hds,An,B9,B7,O5,B8,Ca,C9,Da,D9,e74,e6i];rfl
   ·have An:¬ ((j:Int)<(o.v.set.length:Int)):=om;rw[hSj,if_neg (λh=>c1 h.1.1)]
    simp(disch:=try exact dq)only[tx,seval,hj',hds,An,B7,O5,B8,Ca,C9,Da,D9,e74,e6i];rfl
  ·intro _;unfold Nh Eb
   simp(disch:=try exact dq)only[tx,seval,e7f,Ca,C9,Da,D9,e74,e6i];rfl
 ·intro _
  simp(disch:=try exact dq)only[tx,seval,e7f,Ca,C9,Da,D9,e74,e6i]
theorem d49:Ev tab A7 A5 109 [.emp] []=some (.own 0 13 0 0 0,[some []]):=by
 refine Cv bx2 rfl ?_
 simp(disch:=try exact dq)only[tx,seval,a5d];generalize hr:Ai _ _ _=r;refine Bb hr 0 (λi=>[.top,.top,.own 0 13 0 0 0,.top,.top,.top,.emp,.int .i64 0,.int .i64 0,.top,.top,.top,.top,.top,.top,.top,.top]) (λi=>[some []]) (λ_=>True) ?_ ?_ trivial ?_ ?_
 ·rfl
 ·rfl
 ·intro j hj _;omega
 ·intro _
  simp(disch:=try exact dq)only[tx,seval,e7f]
theorem LWok.setsJ{w:LW}{m:Nat}(h:LWok w m)(txg:Int)(free:List Int)(l:List Dset)(hl:∀ x∈l,(els x.files).length=8):∀ j,j<=l.length->LWok (LW.setsJ txg free w l j).2 (m+42*j)
 |0,_=>h
 |j+1,hj=>by
   have ih:=LWok.setsJ h txg free l hl j om;have h8:=hl _ (Ie (show j<l.length by omega));have h2:=ih.set txg free (l.getD j default);rw[h8]at h2;have e:(LW.setsJ txg free w l (j+1)).2=((LW.setsJ txg free w l j).2.set txg free (l.getD j default)).2:=rfl;rw[e,show m+42*(j+1)=m+42*j+5*8+2 by omega];exact h2
theorem LW.setsJ_len(txg:Int)(free:List Int)(w:LW)(l:List Dset):∀ j,(LW.setsJ txg free w l j).1.length=j
 |0=>rfl
 |j+1=>by rw[LW.setsJ];simp only[e58,e5w,e6f,LW.setsJ_len txg free w l j]
theorem c7q{l:List Rn}(h:H4 l=true):0<=Dj l:=by
 have:=cb8 (b0j h).1;omega
theorem d6i{s:List Node}(h:mayNodes s=true):s.length=8/\∀ y∈s,y.body.length<=128:=by
 unfold mayNodes at h;simp only[e5v,e5h]at h;obtain⟨⟨⟨h1,h2⟩,h3⟩,_⟩:=h;refine⟨h1,λy hy=>?_⟩;cases s with
 |nil=>cases hy
 |cons a r=>
   rw[List.getD_cons_zero]at h2;rw[e50,e6w,e5x]at h3;rcases e79.1 hy with rfl|hy
   ·rw[h2];decide
   ·have:=h3 y hy;simp only[e6n,e5h]at this;rcases this with rfl|h4
    ·decide
    ·unfold Il at h4;simp only[e5v]at h4;have h5:=h4.2;split at h5
     ·exact e5t h5
     ·simp only[e5v,e5h]at h5;rw[h5.2];decide
theorem bd4{l:List Dset}:∀ {r:List Dset} {a:Int},Uo l a r=true->∀ x∈r,a0e l x=true
 |d::r,a,h,x,hx=>by
   rw[Uo]at h;simp only[e5v]at h;rcases e79.1 hx with rfl|hx
   ·exact h.1.2
   ·exact bd4 h.2 x hx
theorem a47{l:List Dset}(h:Gb l=true):∀ x∈l,(els x.files).length=8/\∀ y∈els x.files,y.body.length<=128:=by
 intro x hx;unfold Gb at h;simp only[e5v]at h
 have:=bd4 h.1 x hx;unfold a0e at this;simp only[e5v]at this;exact d6i this.1.1.1.2
theorem a45{l:List Dset}(h:Gb l=true):l.length<=8:=by
 unfold Gb at h;simp only[e5v,e5h]at h;exact h.2
theorem d1o(txg:Int)(free:List Int)(w:LW)(x:Dset)(hx:(els x.files).length=8)(hb:∀ y∈els x.files,y.body.length<=128)(ho:∀ o∈w.olds,OldOk o):∀ o∈(w.set txg free x).2.olds,OldOk o:=by
 intro o h;simp only[LW.set,LW.old,LW.nodes_olds,LW.setJ_olds,e6m,e59]at h;rcases h with h|rfl
 ·exact ho o h
 ·have hl:=LW.setJ_len w txg free (els x.files) (els x.files).length;exact⟨hx,hb,by rw[hl.1,hx],by rw[hl.2,hx]⟩
theorem ax4(txg:Int)(free:List Int)(w:LW)(l:List Dset)(hl:∀ x∈l,(els x.files).length=8/\∀ y∈els x.files,y.body.length<=128)(ho:∀ o∈w.olds,OldOk o):∀ j,j<=l.length->∀ o∈(LW.setsJ txg free w l j).2.olds,OldOk o
 |0,_=>ho
 |j+1,hj=>by
   have ih:=ax4 txg free w l hl ho j om;have h8:=hl _ (Ie (show j<l.length by omega));exact d1o txg free _ _ h8.1 h8.2 ih
structure PlanP where
 bl:List Block
 at':List Int
 table:Ptr
 held:Sl Rn
 rest:List Int
def D7(free:List Rn):List Int:=(H9 free).take (min (Dj free) 331).toNat
def a0n(txg:Int)(fr:List Int)(l:List Dset)(olds:List OldW):List Ptr×LW:=LW.setsJ txg fr ⟨[],[],[],olds⟩ l l.length
def Ia(txg:Int)(fr:List Int)(l:List Dset)(olds:List OldW):Ptr×LW:=(a0n txg fr l olds).2.put txg fr 4 (J1 (l.map Dq) (a0n txg fr l olds).1)
def a4c(txg:Int)(free:List Rn)(l:List Dset):Bool:=Gb l&&decide (1<=txg)&&decide (txg<=1073741824)&&H4 free
def Jr(txg:Int)(free:List Rn)(l:List Dset)(olds:List OldW):Option PlanP:=
 if a4c txg free l=true/\(Ia txg (D7 free) l olds).2.bl.length+2<=(D7 free).length then
  some ⟨(Ia txg (D7 free) l olds).2.bl,(Ia txg (D7 free) l olds).2.at',(Ia txg (D7 free) l olds).1,Ax (Qg ((Ia txg (D7 free) l olds).2.held++((D7 free).drop (Ia txg (D7 free) l olds).2.bl.length).take 2)),((D7 free).drop (Ia txg (D7 free) l olds).2.bl.length).take 2⟩
 else none
def Ku:List AV:=[.emp,.emp,.int .i64 0,.int .i64 0,.int .u32 0,.int .u32 0,.int .u32 0,.int .u32 0,.emp,.emp]
def Oi(b:Nat)(p:PlanP):List AV:=[.own b 3 0 p.bl.length p.bl.length,.own (b+1) 1 0 p.bl.length p.bl.length,.int .i64 p.table.addr,.int .i64 p.table.birth,.int .u32 p.table.sum.a.toNat,.int .u32 p.table.sum.b.toNat,.int .u32 p.table.sum.c.toNat,.int .u32 p.table.sum.d.toNat,A4 A8 p.held,.fz (p.rest.map λx=>[.int .i64 x])]
def a0o(b:Nat)(p:Option PlanP):AV:=match p with
 |some p=>.tuple [.agg (Oi b p),.bool true]
 |none=>.tuple [.agg Ku,.bool false]
def J2(p:Option PlanP):AH:=match p with
 |some p=>[some (p.bl.map G7),some (p.at'.map cI)]
 |none=>[]
def SetsOk(l:List Dset):Prop:=l.length<=1000/\∀ x∈l,(els x.files).length<=1000/\∀ y∈els x.files,y.name.length<=1000
theorem Gr(r:Nat)(es:List (List PV))(l:List OldV):(l.map Ff).map (Bm r es)=l.map Ff:=S7 _ _ _ λe he=>by
 obtain⟨o,_,rfl⟩:=e7o.1 he;simp[Ff,Nh,Eb,Aa,Ab,Ak]
theorem a7k(a:AV)(f g h i j:Nat)(H:AH):K tab A7 A5 113 [a,.own f g h i j] H=Hn tab A7 A5 113 [a,.own f g h i j] H (Aa (B3 H [a,.own f g h i j])) (K tab A7 A5 113 (B3 H [a,.own f g h i j]) H):=Nf _ _ _ rfl _ _
theorem d75(v:List OldV)(hv:v.length<=4)(hs:∀ o∈v,o.v.sets.length<=8)(hok:∀ o∈Bz v v.length,OldOk o)(txg:Int)(free:Sl Rn)(hf:a2p (els free))(l:Sl Dset)(hl:SetsOk (els l)) :
 Ev tab A7 A5 78 [.int .i64 txg,A4 A8 free,A4 B7 l,.own 0 30 0 v.length v.length] [some (v.map Ff)]=some (a0o 1 (Jr txg (els free) (els l) (Bz v v.length)),[some (v.map Ff)]++J2 (Jr txg (els free) (els l) (Bz v v.length))):=by
 refine Cv l78 rfl ?_;have hM:=λH=>a5v l (by have:=hl.1;omega) (λx hx=>⟨by have:=(hl.2 x hx).1;omega,λn hn=>by have:=(hl.2 x hx).2 n hn;omega⟩) H;have hR:=λH=>Wv free (by have:=hf.1;omega) H;unfold Jr a4c;cases c1:Gb (els l)with
 |false=>
   rw[c1]at hM;rw[if_neg (by simp)]
   simp(disch:=try exact dq)only[tx,seval,O3,hM,Ca,C9,e6i];rfl
 |true=>
   rw[c1]at hM;by_cases c2:txg<1
   ·rw[if_neg (by simp;omega)]
    simp(disch:=try exact dq)only[tx,seval,O3,hM,c2,Ca,C9,e6i];rfl
   by_cases c3:1073741824<txg
   ·rw[if_neg (by simp;omega)]
    simp(disch:=try exact dq)only[tx,seval,O3,hM,c2,c3,Ca,C9,e6i];rfl
   cases c4:H4 (els free)with
   |false=>
     rw[c4]at hR;rw[if_neg (by simp)]
     simp(disch:=try exact dq)only[tx,seval,O3,hM,hR,c2,c3,Ca,C9,e6i];rfl
   |true=>
     rw[c4]at hR;have hCt:=λH=>a85 free hf H;have hFi:=λH=>c5e free hf (min (Dj (els free)) 331) om H;have hmin:(if 331<Dj (els free)then 331 else Dj (els free))=min (Dj (els free)) 331:=(by split<;>omega);have hc0:0<=Dj (els free):=c7q c4;have hfv:Y6 (els free) (min (Dj (els free)) 331)=[.fz ((D7 (els free)).map λx=>[.int .i64 x]),.bool true]:=by
      unfold Y6 al0 D7;rw[if_neg om]
     simp only[hfv]at hFi;have hO:=d48 v om (λo ho=>by have:=hs o ho;omega);have hOl:=Xg v hs v.length
     simp(disch:=try exact dq)only[tx,seval,O3,hM,hR,c2,c3,hCt,hmin,hFi,KQ 109 rfl,Ay,hO,Ca,C9,Da,D9,e6i];generalize hr:Ai _ _ _=r;have hfr:(D7 (els free)).length<=331:=(by unfold D7;rw[e67];omega);unfold Ia a0n;generalize D7 (els free)=fr at *;have hl8:=a47 c1;have hL8:(els l).length<=8:=a45 c1;have hw0:LWok ⟨[],[],[],(Bz v v.length)⟩ (Bz v v.length).length:=⟨rfl,e7w _,e7w _,e7y _⟩;have hsj:=hw0.setsJ txg fr (els l) (λx hx=>(hl8 x hx).1);have hsl:=LW.setsJ_len txg fr ⟨[],[],[],(Bz v v.length)⟩ (els l);have hso:=ax4 txg fr ⟨[],[],[],(Bz v v.length)⟩ (els l) hl8 hok;refine Bb hr (els l).length (λj=>[.top,.top,A4 B7 l,.top,.ptr 1 0 0 1,.top,.ptr 3 0 0 1,.own 7 6 0 j j,.top,.top,.top,.top,.top,.top,A4 B7 l,.int .i64 (els l).length,.int .i64 (j:Int),.top,.top,.top,.top,.top,.top])
      (λj=>[some (v.map Ff)]++[some [Ku],some ((LW.setsJ txg fr ⟨[],[],[],(Bz v v.length)⟩ (els l) j).2.olds.map Ej),some [[.own 4 3 0 (LW.setsJ txg fr ⟨[],[],[],(Bz v v.length)⟩ (els l) j).2.bl.length (LW.setsJ txg fr ⟨[],[],[],(Bz v v.length)⟩ (els l) j).2.bl.length,.own 5 1 0 (LW.setsJ txg fr ⟨[],[],[],(Bz v v.length)⟩ (els l) j).2.bl.length (LW.setsJ txg fr ⟨[],[],[],(Bz v v.length)⟩ (els l) j).2.bl.length,.int .i64 0,.int .i64 0,.int .u32 0,.int .u32 0,.int .u32 0,.int .u32 0,.emp,.emp,.int .i64 txg,.fz (fr.map λx=>[.int .i64 x]),.own 2 13 0 (LW.setsJ txg fr ⟨[],[],[],(Bz v v.length)⟩ (els l) j).2.olds.length (LW.setsJ txg fr ⟨[],[],[],(Bz v v.length)⟩ (els l) j).2.olds.length,.own 6 1 0 (LW.setsJ txg fr ⟨[],[],[],(Bz v v.length)⟩ (els l) j).2.held.length (LW.setsJ txg fr ⟨[],[],[],(Bz v v.length)⟩ (els l) j).2.held.length]],some ((LW.setsJ txg fr ⟨[],[],[],(Bz v v.length)⟩ (els l) j).2.bl.map G7),some ((LW.setsJ txg fr ⟨[],[],[],(Bz v v.length)⟩ (els l) j).2.at'.map cI),some ((LW.setsJ txg fr ⟨[],[],[],(Bz v v.length)⟩ (els l) j).2.held.map cI),some ((LW.setsJ txg fr ⟨[],[],[],(Bz v v.length)⟩ (els l) j).1.map Aj)]) (λ_=>True) ?_ ?_ trivial ?_ ?_
     ·rfl
     ·rfl
     ·intro j hj _;have hj':((j:Int)<((els l).length:Int)):=om;have hwj:=hsj j om;have hoj:=hso j om;have hlj:=hsl j;have hS:LW.setsJ txg fr ⟨[],[],[],(Bz v v.length)⟩ (els l) (j+1)=((LW.setsJ txg fr ⟨[],[],[],(Bz v v.length)⟩ (els l) j).1++[((LW.setsJ txg fr ⟨[],[],[],(Bz v v.length)⟩ (els l) j).2.set txg fr ((els l).getD j default)).1],((LW.setsJ txg fr ⟨[],[],[],(Bz v v.length)⟩ (els l) j).2.set txg fr ((els l).getD j default)).2):=rfl;have hx8:=hl8 _ (Ie hj);have hxn:=(hl.2 _ (Ie hj)).2;obtain⟨x,hx⟩:∃ x,(els l).getD j default=x:=⟨_,rfl⟩;rw[hx]at hS hx8 hxn;generalize LW.setsJ txg fr ⟨[],[],[],(Bz v v.length)⟩ (els l) j=q at *;obtain⟨pj,wj⟩:=q;simp only[]at hwj hoj hlj hS ⊢;have hN:=b4o Bt txg fr om wj hwj om hoj x hx8.1 (λy hy=>⟨hx8.2 y hy,by have:=hxn y hy;omega⟩);have hwp:=(hwj.set txg fr x).at';have haj:=hwj.at';generalize wj.set txg fr x=q2 at *;obtain⟨p2,w2⟩:=q2;simp only[Aj]at hN hwp ⊢;unfold E4 Hm at hN;unfold Ku;have z0:(((0:UInt32).toNat:Nat):Int)=0:=rfl;simp only[e62,e6k,Bt,z0]at hN ⊢
      simp(disch:=try exact dq)only[tx,seval,hj',hx,Bl,B7,O5,KQ 111 rfl,Ay,hN,Ca,C9,B6,Bh,Cg,Cf,Da,D9,Bk,Br,e74,e6i,haj,hwp,hlj];rw[hS];refine⟨rfl,?_⟩;simp only[e6o];rfl
     ·intro _;have hwj:=hsj (els l).length om;have hlj:=hsl (els l).length;generalize LW.setsJ txg fr ⟨[],[],[],(Bz v v.length)⟩ (els l) (els l).length=q at *;obtain⟨P,W⟩:=q;simp only[]at hwj hlj ⊢;have hTb:=λH=>av1 l (some P) om (by rw[Az];omega) H;rw[Az,Cx]at hTb;have hTl:=az3 ((els l).map Dq) P;generalize J1 ((els l).map Dq) P=T at *;have hN:=a3t Bt txg fr om W hwj om 4 T om;have hw2:=hwj.put txg fr 4 T;have haj:=hwj.at';generalize W.put txg fr 4 T=q2 at *;obtain⟨p2,w2⟩:=q2;have hat2:=hw2.at';have hb2:=hw2.bl;have hh2:=hw2.held;simp only[Aj]at hN hat2 hb2 hh2 ⊢;unfold E4 Hm at hN;unfold Ku;have z0:(((0:UInt32).toNat:Nat):Int)=0:=rfl;simp only[e62,e6k,Bt,z0]at hN ⊢;have ht4:List.take (els l).length (P.map Aj)=P.map Aj:=e4h (by rw[e6i];omega);by_cases c5:w2.bl.length+2<=fr.length
      ·rw[if_pos ⟨by simp;omega,c5⟩];have Tk:¬ ((fr.length:Int)<(w2.bl.length:Int)+2):=om;have a1:((fr.map λx=>[PV.int .i64 x]).drop w2.bl.length).all (λe=>decide (e.length=1))=true:=by
        rw[<-List.map_drop,e5x];intro e he;obtain⟨x,_,rfl⟩:=e7o.1 he;rfl
       have mp:((fr.map λx=>[PV.int .i64 x]).drop w2.bl.length).take 2=((fr.drop w2.bl.length).take 2).map λx=>[PV.int .i64 x]:=(by rw[<-List.map_drop,<-List.map_take]);have hrl:((fr.drop w2.bl.length).take 2).length=2:=(by rw[e67,e60];omega);have u2:(2:Int)<=((fr.length-w2.bl.length:Nat):Int):=om;have u3:(w2.bl.length:Int)<=(fr.length:Int):=om;have tl:(fr.map λx=>[PV.int .i64 x]).take fr.length=fr.map λx=>[PV.int .i64 x]:=F4 _ _
       generalize (fr.drop w2.bl.length).take 2=R at *;have a2:(R.map λx=>[PV.int .i64 x]).all (λe=>decide (e.length=1))=true:=by
        rw[e5x];intro e he;obtain⟨x,_,rfl⟩:=e7o.1 he;rfl
       have hC0:=P6 (f:=114) (λx:Int=>[PV.int .i64 x]) (λ_=>rfl) b0e (λ_ _=>b05 _ _) (some R) (by rw[Az];omega);rw[Az,Cx,hrl]at hC0;have hCl:=Ns (f:=114) rfl (by simp[Aa,Ab]) (λτ=>Bh τ R) hC0;have hof:=a97 (w2.held++R) (by rw[e58];omega);rw[e58,hrl]at hof;have hap:w2.held.map cI++R.map cI=(w2.held++R).map cI:=(by rw[e6o]);have kR:List.take 2 (R.map λx=>[PV.int .i64 x])=R.map λx=>[PV.int .i64 x]:=e4h (by rw[e6i];omega);have embI:(R.map λx=>[PV.int .i64 x]).map (λe=>e.map emb)=R.map cI:=(by rw[e7q];rfl);have aC:(R.map cI).all (λe=>decide (e.length=1))=true:=ao1 R
       simp(disch:=try exact dq)only[tx,seval,e7f,a7k,Pu,Wo,ht4,hTb,hlj,KQ 112 rfl,Ay,hN,Tk,H8,a3c,a1,a2,mp,u2,u3,tl,hCl,hrl,kR,aC,hap,embI,hof,KQ 115 rfl,Fu (f:=115) rfl,Gm (f:=115) rfl,Gh,Gt,e6d,e5z,e6g,Nj,J3,P0,b1e,Oz,Gr,e60,e6w,e6k,Ca,C9,B6,Bh,Cg,Cf,Da,D9,Bk,Br,e74,e6i,haj,hat2];rfl
      ·rw[if_neg (λh=>c5 h.2)];have Tk:((fr.length:Int)<(w2.bl.length:Int)+2):=om
       simp(disch:=try exact dq)only[tx,seval,e7f,a7k,Pu,Wo,ht4,hTb,hlj,KQ 112 rfl,Ay,hN,Tk,Ca,C9,B6,Bh,Cg,Cf,Da,D9,Bk,Br,e74,e6i,haj,hat2];rfl
theorem d76(txg:Int)(free:Sl Rn)(hf:a2p (els free))(l:Sl Dset)(hl:SetsOk (els l)) :
 Ev tab A7 A5 78 [.int .i64 txg,A4 A8 free,A4 B7 l,.emp] []=some (a0o 0 (Jr txg (els free) (els l) ([]:List OldW)),[]++J2 (Jr txg (els free) (els l) ([]:List OldW))):=by
 refine Cv l78 rfl ?_;have hM:=λH=>a5v l (by have:=hl.1;omega) (λx hx=>⟨by have:=(hl.2 x hx).1;omega,λn hn=>by have:=(hl.2 x hx).2 n hn;omega⟩) H;have hR:=λH=>Wv free (by have:=hf.1;omega) H;unfold Jr a4c;cases c1:Gb (els l)with
 |false=>
   rw[c1]at hM;rw[if_neg (by simp)]
   simp(disch:=try exact dq)only[tx,seval,O3,hM,Ca,C9,e6i];rfl
 |true=>
   rw[c1]at hM;by_cases c2:txg<1
   ·rw[if_neg (by simp;omega)]
    simp(disch:=try exact dq)only[tx,seval,O3,hM,c2,Ca,C9,e6i];rfl
   by_cases c3:1073741824<txg
   ·rw[if_neg (by simp;omega)]
    simp(disch:=try exact dq)only[tx,seval,O3,hM,c2,c3,Ca,C9,e6i];rfl
   cases c4:H4 (els free)with
   |false=>
     rw[c4]at hR;rw[if_neg (by simp)]
     simp(disch:=try exact dq)only[tx,seval,O3,hM,hR,c2,c3,Ca,C9,e6i];rfl
   |true=>
     rw[c4]at hR;have hCt:=λH=>a85 free hf H;have hFi:=λH=>c5e free hf (min (Dj (els free)) 331) om H;have hmin:(if 331<Dj (els free)then 331 else Dj (els free))=min (Dj (els free)) 331:=(by split<;>omega);have hc0:0<=Dj (els free):=c7q c4;have hfv:Y6 (els free) (min (Dj (els free)) 331)=[.fz ((D7 (els free)).map λx=>[.int .i64 x]),.bool true]:=by
      unfold Y6 al0 D7;rw[if_neg om]
     simp only[hfv]at hFi;have hO:=d49;have hOl:=(show([]:List OldW).length<=32 by decide)
     simp(disch:=try exact dq)only[tx,seval,O3,hM,hR,c2,c3,hCt,hmin,hFi,KQ 109 rfl,Ay,hO,Ca,C9,Da,D9,e6i];generalize hr:Ai _ _ _=r;have hfr:(D7 (els free)).length<=331:=(by unfold D7;rw[e67];omega);unfold Ia a0n;generalize D7 (els free)=fr at *;have hl8:=a47 c1;have hL8:(els l).length<=8:=a45 c1;have hw0:LWok ⟨[],[],[],([]:List OldW)⟩ ([]:List OldW).length:=⟨rfl,e7w _,e7w _,e7y _⟩;have hsj:=hw0.setsJ txg fr (els l) (λx hx=>(hl8 x hx).1);have hsl:=LW.setsJ_len txg fr ⟨[],[],[],([]:List OldW)⟩ (els l);have hso:=ax4 txg fr ⟨[],[],[],([]:List OldW)⟩ (els l) hl8 (λo h=>by cases h);refine Bb hr (els l).length (λj=>[.top,.top,A4 B7 l,.top,.ptr 0 0 0 1,.top,.ptr 2 0 0 1,.own 6 6 0 j j,.top,.top,.top,.top,.top,.top,A4 B7 l,.int .i64 (els l).length,.int .i64 (j:Int),.top,.top,.top,.top,.top,.top])
      (λj=>[]++[some [Ku],some ((LW.setsJ txg fr ⟨[],[],[],([]:List OldW)⟩ (els l) j).2.olds.map Ej),some [[.own 3 3 0 (LW.setsJ txg fr ⟨[],[],[],([]:List OldW)⟩ (els l) j).2.bl.length (LW.setsJ txg fr ⟨[],[],[],([]:List OldW)⟩ (els l) j).2.bl.length,.own 4 1 0 (LW.setsJ txg fr ⟨[],[],[],([]:List OldW)⟩ (els l) j).2.bl.length (LW.setsJ txg fr ⟨[],[],[],([]:List OldW)⟩ (els l) j).2.bl.length,.int .i64 0,.int .i64 0,.int .u32 0,.int .u32 0,.int .u32 0,.int .u32 0,.emp,.emp,.int .i64 txg,.fz (fr.map λx=>[.int .i64 x]),.own 1 13 0 (LW.setsJ txg fr ⟨[],[],[],([]:List OldW)⟩ (els l) j).2.olds.length (LW.setsJ txg fr ⟨[],[],[],([]:List OldW)⟩ (els l) j).2.olds.length,.own 5 1 0 (LW.setsJ txg fr ⟨[],[],[],([]:List OldW)⟩ (els l) j).2.held.length (LW.setsJ txg fr ⟨[],[],[],([]:List OldW)⟩ (els l) j).2.held.length]],some ((LW.setsJ txg fr ⟨[],[],[],([]:List OldW)⟩ (els l) j).2.bl.map G7),some ((LW.setsJ txg fr ⟨[],[],[],([]:List OldW)⟩ (els l) j).2.at'.map cI),some ((LW.setsJ txg fr ⟨[],[],[],([]:List OldW)⟩ (els l) j).2.held.map cI),some ((LW.setsJ txg fr ⟨[],[],[],([]:List OldW)⟩ (els l) j).1.map Aj)]) (λ_=>True) ?_ ?_ trivial ?_ ?_
     ·rfl
     ·rfl
     ·intro j hj _;have hj':((j:Int)<((els l).length:Int)):=om;have hwj:=hsj j om;have hoj:=hso j om;have hlj:=hsl j;have hS:LW.setsJ txg fr ⟨[],[],[],([]:List OldW)⟩ (els l) (j+1)=((LW.setsJ txg fr ⟨[],[],[],([]:List OldW)⟩ (els l) j).1++[((LW.setsJ txg fr ⟨[],[],[],([]:List OldW)⟩ (els l) j).2.set txg fr ((els l).getD j default)).1],((LW.setsJ txg fr ⟨[],[],[],([]:List OldW)⟩ (els l) j).2.set txg fr ((els l).getD j default)).2):=rfl;have hx8:=hl8 _ (Ie hj);have hxn:=(hl.2 _ (Ie hj)).2;obtain⟨x,hx⟩:∃ x,(els l).getD j default=x:=⟨_,rfl⟩;rw[hx]at hS hx8 hxn;generalize LW.setsJ txg fr ⟨[],[],[],([]:List OldW)⟩ (els l) j=q at *;obtain⟨pj,wj⟩:=q;simp only[]at hwj hoj hlj hS ⊢;have hN:=b4o Bt txg fr om wj hwj om hoj x hx8.1 (λy hy=>⟨hx8.2 y hy,by have:=hxn y hy;omega⟩);have hwp:=(hwj.set txg fr x).at';have haj:=hwj.at';generalize wj.set txg fr x=q2 at *;obtain⟨p2,w2⟩:=q2;simp only[Aj]at hN hwp ⊢;unfold E4 Hm at hN;unfold Ku;have z0:(((0:UInt32).toNat:Nat):Int)=0:=rfl;simp only[e62,e6k,Bt,z0]at hN ⊢
      simp(disch:=try exact dq)only[tx,seval,hj',hx,Bl,B7,O5,KQ 111 rfl,Ay,hN,Ca,C9,B6,Bh,Cg,Cf,Da,D9,Bk,Br,e74,e6i,haj,hwp,hlj];rw[hS];refine⟨rfl,?_⟩;simp only[e6o];rfl
     ·intro _;have hwj:=hsj (els l).length om;have hlj:=hsl (els l).length;generalize LW.setsJ txg fr ⟨[],[],[],([]:List OldW)⟩ (els l) (els l).length=q at *;obtain⟨P,W⟩:=q;simp only[]at hwj hlj ⊢;have hTb:=λH=>av1 l (some P) om (by rw[Az];omega) H;rw[Az,Cx]at hTb;have hTl:=az3 ((els l).map Dq) P;generalize J1 ((els l).map Dq) P=T at *;have hN:=a3t Bt txg fr om W hwj om 4 T om;have hw2:=hwj.put txg fr 4 T;have haj:=hwj.at';generalize W.put txg fr 4 T=q2 at *;obtain⟨p2,w2⟩:=q2;have hat2:=hw2.at';have hb2:=hw2.bl;have hh2:=hw2.held;simp only[Aj]at hN hat2 hb2 hh2 ⊢;unfold E4 Hm at hN;unfold Ku;have z0:(((0:UInt32).toNat:Nat):Int)=0:=rfl;simp only[e62,e6k,Bt,z0]at hN ⊢;have ht4:List.take (els l).length (P.map Aj)=P.map Aj:=e4h (by rw[e6i];omega);by_cases c5:w2.bl.length+2<=fr.length
      ·rw[if_pos ⟨by simp;omega,c5⟩];have Tk:¬ ((fr.length:Int)<(w2.bl.length:Int)+2):=om;have a1:((fr.map λx=>[PV.int .i64 x]).drop w2.bl.length).all (λe=>decide (e.length=1))=true:=by
        rw[<-List.map_drop,e5x];intro e he;obtain⟨x,_,rfl⟩:=e7o.1 he;rfl
       have mp:((fr.map λx=>[PV.int .i64 x]).drop w2.bl.length).take 2=((fr.drop w2.bl.length).take 2).map λx=>[PV.int .i64 x]:=(by rw[<-List.map_drop,<-List.map_take]);have hrl:((fr.drop w2.bl.length).take 2).length=2:=(by rw[e67,e60];omega);have u2:(2:Int)<=((fr.length-w2.bl.length:Nat):Int):=om;have u3:(w2.bl.length:Int)<=(fr.length:Int):=om;have tl:(fr.map λx=>[PV.int .i64 x]).take fr.length=fr.map λx=>[PV.int .i64 x]:=F4 _ _
       generalize (fr.drop w2.bl.length).take 2=R at *;have a2:(R.map λx=>[PV.int .i64 x]).all (λe=>decide (e.length=1))=true:=by
        rw[e5x];intro e he;obtain⟨x,_,rfl⟩:=e7o.1 he;rfl
       have hC0:=P6 (f:=114) (λx:Int=>[PV.int .i64 x]) (λ_=>rfl) b0e (λ_ _=>b05 _ _) (some R) (by rw[Az];omega);rw[Az,Cx,hrl]at hC0;have hCl:=Ns (f:=114) rfl (by simp[Aa,Ab]) (λτ=>Bh τ R) hC0;have hof:=a97 (w2.held++R) (by rw[e58];omega);rw[e58,hrl]at hof;have hap:w2.held.map cI++R.map cI=(w2.held++R).map cI:=(by rw[e6o]);have kR:List.take 2 (R.map λx=>[PV.int .i64 x])=R.map λx=>[PV.int .i64 x]:=e4h (by rw[e6i];omega);have embI:(R.map λx=>[PV.int .i64 x]).map (λe=>e.map emb)=R.map cI:=(by rw[e7q];rfl);have aC:(R.map cI).all (λe=>decide (e.length=1))=true:=ao1 R
       simp(disch:=try exact dq)only[tx,seval,e7f,a7k,Pu,Wo,ht4,hTb,hlj,KQ 112 rfl,Ay,hN,Tk,H8,a3c,a1,a2,mp,u2,u3,tl,hCl,hrl,kR,aC,hap,embI,hof,KQ 115 rfl,Fu (f:=115) rfl,Gm (f:=115) rfl,Gh,Gt,e6d,e5z,e6g,Nj,J3,P0,b1e,Oz,Gr,e60,e6w,e6k,Ca,C9,B6,Bh,Cg,Cf,Da,D9,Bk,Br,e74,e6i,haj,hat2];rfl
      ·rw[if_neg (λh=>c5 h.2)];have Tk:((fr.length:Int)<(w2.bl.length:Int)+2):=om
       simp(disch:=try exact dq)only[tx,seval,e7f,a7k,Pu,Wo,ht4,hTb,hlj,KQ 112 rfl,Ay,hN,Tk,Ca,C9,B6,Bh,Cg,Cf,Da,D9,Bk,Br,e74,e6i,haj,hat2];rfl
structure Pool where
 d:Dev
 at':Ptr
 r:Root
 s:Space
 seat:Int
 last:Int
 sets:Sl Dset
 only:Bool
def Bg(p:Pool):List AV:=[A4 B1 p.d.last,A4 B2 p.d.wait,.int .i64 p.d.lies,.int .i64 p.d.arm,.bool p.d.down,.int .i64 p.at'.addr,.int .i64 p.at'.birth,.int .u32 p.at'.sum.a.toNat,.int .u32 p.at'.sum.b.toNat,.int .u32 p.at'.sum.c.toNat,.int .u32 p.at'.sum.d.toNat,.int .i64 p.r.txg,.int .i64 p.r.next,.int .i64 p.r.guid,.int .i64 p.r.table.addr,.int .i64 p.r.table.birth,.int .u32 p.r.table.sum.a.toNat,.int .u32 p.r.table.sum.b.toNat,.int .u32 p.r.table.sum.c.toNat,.int .u32 p.r.table.sum.d.toNat,.int .i64 p.r.space.addr,.int .i64 p.r.space.birth,.int .u32 p.r.space.sum.a.toNat,.int .u32 p.r.space.sum.b.toNat,.int .u32 p.r.space.sum.c.toNat,.int .u32 p.r.space.sum.d.toNat,.int .i64 p.r.kept.addr,.int .i64 p.r.kept.birth,.int .u32 p.r.kept.sum.a.toNat,.int .u32 p.r.kept.sum.b.toNat,.int .u32 p.r.kept.sum.c.toNat,.int .u32 p.r.kept.sum.d.toNat,.int .i64 p.r.keptTxg,A4 A8 p.s.held,A4 A8 p.s.one,A4 A8 p.s.two,A4 A8 p.s.kept,.int .i64 p.seat,.int .i64 p.last,A4 B7 p.sets,.bool p.only]
def Pw(d:Dset):Dset:=⟨d.id,d.kind,d.origin,d.quota,some (els d.files)⟩
def twS(s:Space):Space:=⟨some (els s.held),some (els s.one),some (els s.two),some (els s.kept)⟩
def Ip(p:Pool):Pool:=⟨En p.d,p.at',p.r,twS p.s,p.seat,p.last,some ((els p.sets).map Pw),p.only⟩
structure PoolB(p:Pool):Prop where
 last:(els p.d.last).length<=100000
 wait:(els p.d.wait).length<=100000
 held:(els p.s.held).length<=500
 one:(els p.s.one).length<=500
 two:(els p.s.two).length<=500
 kept:(els p.s.kept).length<=500
 sets:(els p.sets).length<=1000
 files:∀ x∈els p.sets,(els x.files).length<=1000
theorem Yg(p:Pool):Aa (Bg p)=true:=by simp[Bg,Aa,Ab,Ak]
def Hk(x:Dset):List AV:=[.int .i64 x.id,.int .i64 x.kind,.int .i64 x.origin,.int .i64 x.quota,A4 Ao x.files]
theorem a64(x:Dset):(B7 x).map emb=Hk x:=by show [_,_,_,_,emb (Kt Ao x.files)]=_;rw[O5];rfl
theorem a8q(l:List Dset):refsO (some (l.map Hk))=[]:=Gz l _ λd=>by rw[<-a64];exact a04 _
theorem a3q(τ:Nat->Option Nat)(l:List Dset):renO τ (l.map Hk)=l.map Hk:=by
 rw[show Hk=λd=>(B7 d).map emb from funext λd=>(a64 d).symm];exact Sp τ l B7
def Q3(l:List Dset)(j:Nat):List Dset:=(l.take j).map Pw++l.drop j
theorem d1h(l:List Dset)(j:Nat):(Q3 l j).length=l.length:=by unfold Q3;rw[e58,e6i,e67,e60];omega
theorem d1i{l:List Dset}{j:Nat}(h:j<l.length):(Q3 l j).getD j default=l.getD j default:=by
 unfold Q3;rw[e42,e40 (by rw[e6i,e67];omega),e6i,e67,e6s om,Nat.sub_self,e53,e7l,<-e42]
theorem d1g{l:List Dset}{j:Nat}(h:j<l.length):(Q3 l j).set j (Pw (l.getD j default))=Q3 l (j+1):=by
 unfold Q3;rw[Dd h,e6o,List.set_append,if_neg (by rw[e6i,e67];omega),e6i,e67,e6s om,Nat.sub_self,Gd h,e5c,e5o];rfl
theorem d1j(l:List Dset):Q3 l l.length=l.map Pw:=by unfold Q3;rw[e68,e69,e6l]
theorem d02(l:List Dset):Cm (l.map Hk)=some (l.map B7):=by
 rw[show Hk=λd=>(B7 d).map emb from funext λd=>(a64 d).symm];exact a7s l B7
theorem b1f(r:Nat)(es:List (List PV))(l:List Dset):(l.map Hk).map (Bm r es)=l.map Hk:=by
 rw[show Hk=λd=>(B7 d).map emb from funext λd=>(a64 d).symm];exact c4h r es l
theorem dy6(r:Nat)(S:List Dset)(j:Nat)(x:Dset):((S.map Hk).set j [.int .i64 x.id,.int .i64 x.kind,.int .i64 x.origin,.int .i64 x.quota,.own r 5 0 (els x.files).length (els x.files).length]).map (Bm r ((els x.files).map Ao))=(S.set j (Pw x)).map Hk:=by
 have h:Bm r ((els x.files).map Ao) [.int .i64 x.id,.int .i64 x.kind,.int .i64 x.origin,.int .i64 x.quota,.own r 5 0 (els x.files).length (els x.files).length]=Hk (Pw x):=by
  simp[Bm,frz,Hk,Pw];exact congrArg AV.fz (F4 _ _)
 rw[List.map_set,b1f,h,List.map_set]
theorem az8(p:Pool)(hp:PoolB p)(H:AH):K tab A7 A5 23 [.agg (Bg p)] H=some (.agg (Bg (Ip p)),H):=by
 refine Ae l23 rfl (by simp only[Aa,Ab,Yg,e7c]) (by simp only[Ab,Yg]) ?_ H;obtain⟨b1,b2,b3,b4,b5,b6,b7,b8⟩:=hp;have h1:=P6 (f:=52) B1 (λ_=>rfl) br5 (λ_ _=>bn9 _ _) p.d.last om;have h2:=P6 (f:=53) B2 (λ_=>rfl) br6 (λ_ _=>bo0 _ _) p.d.wait om;have h3:=P6 (f:=54) A8 (λ_=>rfl) a99 (λ_ _=>a95 _ _) p.s.held om;have h4:=P6 (f:=54) A8 (λ_=>rfl) a99 (λ_ _=>a95 _ _) p.s.one om;have h5:=P6 (f:=54) A8 (λ_=>rfl) a99 (λ_ _=>a95 _ _) p.s.two om;have h6:=P6 (f:=54) A8 (λ_=>rfl) a99 (λ_ _=>a95 _ _) p.s.kept om;have h7:=P6 (f:=55) B7 (λ_=>rfl) d5x (λ_ _=>d40 _ _) p.sets om;have er:∀ l:List Rn,(l.map λa=>(A8 a).map emb)=l.map Ey:=λl=>rfl;rw[bu3]at h1;rw[bu4]at h2;rw[er]at h3 h4 h5 h6;rw[show(λa=>(B7 a).map emb)=Hk from funext a64]at h7;have k1:=Ns (f:=52) rfl (by simp[Aa,Ak]) (a9r _) h1;have k3:=Ns (f:=54) rfl (by simp[Aa,Ak]) (λτ=>Gy τ _) h3;have k4:=Ns (f:=54) rfl (by simp[Aa,Ak]) (λτ=>Gy τ _) h4;have k5:=Ns (f:=54) rfl (by simp[Aa,Ak]) (λτ=>Gy τ _) h5;have k6:=Ns (f:=54) rfl (by simp[Aa,Ak]) (λτ=>Gy τ _) h6;have q3:=λa c V H hV hc=>Vo (f:=54) (a:=a) (c:=c) (V:=V) (H:=H) hV rfl (by simp[Aa,Ak]) (λτ=>Gy τ _) h3 hc;have q4:=λa c V H hV hc=>Vo (f:=54) (a:=a) (c:=c) (V:=V) (H:=H) hV rfl (by simp[Aa,Ak]) (λτ=>Gy τ _) h4 hc;have q5:=λa c V H hV hc=>Vo (f:=54) (a:=a) (c:=c) (V:=V) (H:=H) hV rfl (by simp[Aa,Ak]) (λτ=>Gy τ _) h5 hc;have k7:=Ns (f:=55) rfl (by simp[Aa,Ak]) (λτ=>a3q τ _) h7;have q1:=λa c V H hV hc=>Vo (f:=52) (a:=a) (c:=c) (V:=V) (H:=H) hV rfl (by simp[Aa,Ak]) (a9r _) h1 hc;have q2:=λa c V H hV hc=>Vo (f:=53) (a:=a) (c:=c) (V:=V) (H:=H) hV rfl (by simp[Aa,Ak]) (a9s _) h2 hc;have k2:=Ns (f:=53) rfl (by simp[Aa,Ak]) (a9s _) h2;unfold Bg
 simp(disch:=try exact dq)only[tx,seval,g23,k1,k2,e6k,e6f];rw[q1 _ _ _ _ rfl (by simp)]
 simp(disch:=try exact dq)only[tx,seval,k2,e6k,e6f];rw[q2 _ _ _ _ rfl (by simp)]
 simp(disch:=try exact dq)only[tx,seval,k3,e6k,e6f];rw[q3 _ _ _ _ rfl (by simp)]
 simp(disch:=try exact dq)only[tx,seval,k4,e6k,e6f];rw[q4 _ _ _ _ rfl (by simp)]
 simp(disch:=try exact dq)only[tx,seval,k5,e6k,e6f];rw[q5 _ _ _ _ rfl (by simp)]
 simp(disch:=try exact dq)only[tx,seval,k6,e6k,e6f];have t1:List.take (els p.d.last).length ((els p.d.last).map B1)=(els p.d.last).map B1:=F4 _ _;have t2:List.take (els p.d.wait).length ((els p.d.wait).map B2)=(els p.d.wait).map B2:=F4 _ _;have t3:List.take (els p.s.held).length ((els p.s.held).map A8)=(els p.s.held).map A8:=F4 _ _;have t4:List.take (els p.s.one).length ((els p.s.one).map A8)=(els p.s.one).map A8:=F4 _ _;have t5:List.take (els p.s.two).length ((els p.s.two).map A8)=(els p.s.two).map A8:=F4 _ _;have t6:List.take (els p.s.kept).length ((els p.s.kept).map A8)=(els p.s.kept).map A8:=F4 _ _
 simp(disch:=try exact dq)only[tx,seval,t1,t2,t3,t4,t5,t6,k7,a8q,a3q,Ko,Km,Iw,Hv,Kp,Gy,Wr,Si,au1,Y2,Td,b1d,e6i];generalize hr:Ai _ _ _=r;refine Bb hr (els p.sets).length (λj=>[.top,.ptr 0 0 0 1,.ptr 1 0 0 1,.top,.top,.top,.int .i64 (els p.sets).length,.int .i64 (j:Int),.top,.top])
  (λj=>[some [[.fz ((els p.d.last).map B1),.fz ((els p.d.wait).map B2),.int .i64 p.d.lies,.int .i64 p.d.arm,.bool p.d.down,.int .i64 p.at'.addr,.int .i64 p.at'.birth,.int .u32 p.at'.sum.a.toNat,.int .u32 p.at'.sum.b.toNat,.int .u32 p.at'.sum.c.toNat,.int .u32 p.at'.sum.d.toNat,.int .i64 p.r.txg,.int .i64 p.r.next,.int .i64 p.r.guid,.int .i64 p.r.table.addr,.int .i64 p.r.table.birth,.int .u32 p.r.table.sum.a.toNat,.int .u32 p.r.table.sum.b.toNat,.int .u32 p.r.table.sum.c.toNat,.int .u32 p.r.table.sum.d.toNat,.int .i64 p.r.space.addr,.int .i64 p.r.space.birth,.int .u32 p.r.space.sum.a.toNat,.int .u32 p.r.space.sum.b.toNat,.int .u32 p.r.space.sum.c.toNat,.int .u32 p.r.space.sum.d.toNat,.int .i64 p.r.kept.addr,.int .i64 p.r.kept.birth,.int .u32 p.r.kept.sum.a.toNat,.int .u32 p.r.kept.sum.b.toNat,.int .u32 p.r.kept.sum.c.toNat,.int .u32 p.r.kept.sum.d.toNat,.int .i64 p.r.keptTxg,.fz ((els p.s.held).map A8),.fz ((els p.s.one).map A8),.fz ((els p.s.two).map A8),.fz ((els p.s.kept).map A8),.int .i64 p.seat,.int .i64 p.last,.own 63 5 0 (els p.sets).length (els p.sets).length,.bool p.only]],some [[.emp,.emp,.int .i64 0,.int .i64 0,.bool false,.int .i64 0,.int .i64 0,.int .u32 0,.int .u32 0,.int .u32 0,.int .u32 0,.int .i64 0,.int .i64 0,.int .i64 0,.int .i64 0,.int .i64 0,.int .u32 0,.int .u32 0,.int .u32 0,.int .u32 0,.int .i64 0,.int .i64 0,.int .u32 0,.int .u32 0,.int .u32 0,.int .u32 0,.int .i64 0,.int .i64 0,.int .u32 0,.int .u32 0,.int .u32 0,.int .u32 0,.int .i64 0,.emp,.emp,.emp,.emp,.int .i64 0,.int .i64 0,.emp,.bool false]]]++(List.replicate 61 none++[some ((Q3 (els p.sets) j).map Hk)])) (λ_=>True) ?_ ?_ trivial ?_ ?_
 ·rfl
 ·rfl
 ·intro j hj _;have hj':((j:Int)<((els p.sets).length:Int)):=om;have hn:=d1h (els p.sets) j;have hge:=d1i hj;have hse:=d1g hj;obtain⟨x,hx⟩:∃ x,(els p.sets).getD j default=x:=⟨_,rfl⟩;have hxf:=b8 _ (Ie hj);rw[hx]at hge hse hxf;generalize Q3 (els p.sets) j=S at *;have hg:(S.map Hk)[j]?=some [.int .i64 x.id,.int .i64 x.kind,.int .i64 x.origin,.int .i64 x.quota,A4 Ao x.files]:=by rw[Ic om Hk,hge];rfl
  have hC:=P6 (f:=56) Ao (λ_=>rfl) br7 (λ_ _=>bo1 _ _) x.files om;rw[show(λa=>(Ao a).map emb)=C4 from rfl]at hC;have kC:=Ns (f:=56) rfl (by simp[Aa,Ak]) (λτ=>Ed τ _) hC;have qC:=λa c V H hV hc=>Vo (f:=56) (a:=a) (c:=c) (V:=V) (H:=H) hV rfl (by simp[Aa,Ak]) (λτ=>Ed τ _) hC hc;have tC:List.take (els x.files).length ((els x.files).map Ao)=(els x.files).map Ao:=F4 _ _
  simp(disch:=try exact dq)only[tx,seval,hj',hn,hg,kC,e74,e6k,e6f,a8q,a3q,e6i];rw[qC _ _ _ _ rfl (by simp)]
  simp(disch:=try exact dq)only[tx,seval,hn,hg,a8q,a3q,Dk,Ed,Py,Qq,b1f,tC,dy6,hse,e74,e6i];rfl
 ·intro _;rw[d1j];have tS:List.take (els p.sets).length (((els p.sets).map Pw).map B7)=((els p.sets).map Pw).map B7:=e4h (by simp)
  simp(disch:=try exact dq)only[tx,seval,e7f,a8q,a3q,d02,b1f,tS,e6i];rfl
theorem a0y(l:Sl Bytes)(cs:List PV)(hl:(els l).length<=1000000)(H:AH):K tab A7 A5 33 [.fptr (Kt B1 l::cs)] H=some (.int .i64 ((els l).length-28),H):=by
 refine Ae l33 rfl rfl rfl ?_ H
 simp(disch:=try exact dq)only[tx,seval,g33,O5,e74]
structure DevB(d:Dev)(n:Nat):Prop where
 last:(els d.last).length<=100000
 wait:(els d.wait).length<=n
 sec:∀ s∈els d.last,s.length<=1000000
 put:∀ q∈els d.wait,q.2.length<=1000000
 arm:d.arm<=1000000000000
 lies:-1000000000000<=d.lies/\d.lies<=1000000000000
def Fy(d:Dev)(l:List (Int×Bytes)):Dev×Bool:=if(Gj (En d) l).2=true then Y3 (Gj (En d) l).1 else((Gj (En d) l).1,false)
theorem a4l(p:Pool){n:Nat}(hd:DevB p.d n)(hn:n<=50000)(l:Sl (Int×Bytes))(hl:(els l).length<=40000)(hs:∀ q∈els l,q.2.length<=1000000) :
 Ev tab A7 A5 20 [.ptr 0 0 0 1,A4 B2 l] [some [Bg p]]=some (.bool (Fy p.d (els l)).2,[some [Bg ⟨(Fy p.d (els l)).1,p.at',p.r,p.s,p.seat,p.last,p.sets,p.only⟩]]):=by
 refine Cv l20 rfl ?_;obtain⟨b1,b2,b3,b4,b5,b6⟩:=hd;have h1:=λH=>e0u p.d l om om b1 b5 H;unfold Fy;have hf:(Gj (En p.d) (els l)).1.last=some (els p.d.last)/\(els (Gj (En p.d) (els l)).1.wait).length<=(els p.d.wait).length+(els l).length/\(∀ q∈els (Gj (En p.d) (els l)).1.wait,q.2.length<=1000000)/\(Gj (En p.d) (els l)).1.lies=p.d.lies:=by
  unfold Gj;split
  ·exact⟨rfl,Nat.le_add_right _ _,b4,rfl⟩
  ·have:=a7e (els l) (En p.d);refine⟨this.1,this.2.1,λq hq=>?_,a7d _ _⟩;rcases this.2.2 q hq with h|h
   ·exact b4 q h
   ·omega
 have h2:=λH=>e0y (Gj (En p.d) (els l)).1 (by rw[hf.1];exact b1) (by have:=hf.2.1;omega) (by rw[hf.1];exact b3) hf.2.2.1 (by rw[hf.2.2.2];exact b6) H;generalize Gj (En p.d) (els l)=q at *;obtain⟨e,b⟩:=q;unfold Ju at h1 h2;simp only[]at h1 h2 ⊢;unfold Bg;cases b with
 |false=>
   simp(disch:=try exact dq)only[tx,seval,g20,h1,e5f]
 |true=>
   simp(disch:=try exact dq)only[tx,seval,g20,h1,h2]
theorem cw9(d:Dev)(l:List (Int×Bytes)):(els (Fy d l).1.last).length=(els d.last).length:=by
 have hw:(Gj (En d) l).1.last=some (els d.last):=by
  unfold Gj;split
  ·rfl
  ·exact(a7e l (En d)).1
 unfold Fy;split
 ·unfold Y3;split
  ·show(els (some (els (Gj (En d) l).1.last))).length=_;rw[Az,hw,Az]
  ·split
   ·show(els (some (els (Gj (En d) l).1.last))).length=_;rw[Az,hw,Az]
   ·show(els (some (Ga (els (Gj (En d) l).1.last) _ _ _))).length=_;rw[Az,Zv,hw,Az]
 ·rw[hw,Az]
theorem ar9:∀ (l:List (Int×Bytes)) (d:Dev),(F3 d l).1.arm<=max d.arm 0
 |[],d=>by show d.arm<=_;omega
 |p::l,d=>by
   rw[F3];split
   ·split
    ·split
     ·simp only[];omega
     ·have:=ar9 l ⟨d.last,some (els d.wait++[p]),d.lies,d.arm-1,d.down⟩;simp only[]at this;omega
    ·have:=ar9 l (Wm d p);simp only[Wm]at this;exact this
   ·simp only[];omega
theorem dz3{d:Dev}{n:Nat}(h:DevB d n):DevB (Y3 d).1 n:=by
 obtain⟨b1,b2,b3,b4,b5,b6⟩:=h;unfold Y3;split
 ·exact⟨b1,b2,b3,b4,b5,b6⟩
 ·split
  ·exact⟨b1,b2,b3,b4,b5,by simp only[];omega⟩
  ·refine⟨?_,e7w _,?_,λq hq=>by simp[els]at hq,b5,b6⟩
   ·rw[Az,Zv];exact b1
   ·rw[Az];intro s hs;obtain⟨i,hi,rfl⟩:=List.getElem_of_mem hs
    have:=ax3 (els d.last) (els d.wait) (λ_=>3) b3 b4 (els d.wait).length i hi
    rwa [e42,e47 hi]at this
theorem b4q{d:Dev}{n:Nat}(h:DevB d n)(l:List (Int×Bytes)):DevB (Gj (En d) l).1 (n+l.length):=by
 obtain⟨b1,b2,b3,b4,b5,b6⟩:=h;unfold Gj;split
 ·exact⟨b1,Nat.le_add_right_of_le b2,b3,b4,b5,b6⟩
 ·have h1:=a7e l (En d);have h2:=ar9 l (En d);have h3:(En d).arm=d.arm:=rfl;have h4:=a7d l (En d);have h5:(els (En d).wait).length=(els d.wait).length:=rfl;refine⟨by rw[h1.1];exact b1,by have:=h1.2.1;omega,by rw[h1.1];exact b3,λq hq=>?_,by omega,by rw[h4];exact b6⟩;rcases h1.2.2 q hq with h|h
  ·exact b4 q h
  ·omega
theorem a7f{d:Dev}{n:Nat}(h:DevB d n)(l:List (Int×Bytes)):DevB (Fy d l).1 (n+l.length):=by
 unfold Fy;split
 ·exact dz3 (b4q h l)
 ·exact b4q h l
def Vj(d:Dev)(u:Uber):Dev×Bool:=if(Fy d (els (Qd ((els d.last).length-28) u 0))).2=true then Fy (Fy d (els (Qd ((els d.last).length-28) u 0))).1 (els (Qd ((els d.last).length-28) u 1))else Fy d (els (Qd ((els d.last).length-28) u 0))
theorem d2q(u:Uber):(Q6 u).length<=1000000:=by
 unfold Q6 Wz;split
 ·simp only[e58,Fc _ _ (show([4,4,4,4]:List Nat).length=(a36 (Ck (B5 [1,4,4,1] [171,u.txg,u.guid,u.seat]++Eu u.root))).length from rfl),Fc _ _ (show([1,4,4,1]:List Nat).length=[171,u.txg,u.guid,u.seat].length from rfl),Xb,U8];simp
 ·exact e7w _
theorem e11(H:AH)(n:Nat):∀ x:AV,Ab x=true->G6 H n x=[]:=λx h=>by
 cases n with
 |zero=>rfl
 |succ n=>cases x<;>first|rfl|cases h
theorem c6y(H:AH)(n:Nat):∀ l:List AV,Aa l=true->l.flatMap (G6 H n)=[]
 |[],_=>rfl
 |x::l,h=>by
   simp only[Aa,e5v]at h;rw[List.flatMap_cons,e11 H n x h.1,c6y H n l h.2];rfl
def dpE(H:AH)(e:List AV):Bool->List Nat
 |true=>[]
 |false=>e.flatMap (G6 H 3)
def dpF(H:AH)(j:Nat):Option (List AV)->List Nat
 |some e=>dpE H (e.drop j) (Aa (e.drop j))
 |none=>[]
def dpG(H:AH)(i j:Nat):Option AObj->List Nat
 |some o=>dpF H j (o[i]?)
 |none=>[]
theorem M0(H:AH)(e:List AV):dpE H e true=[]:=qq
theorem Lz(H:AH)(j:Nat)(e:List AV):dpF H j (some e)=dpE H (e.drop j) (Aa (e.drop j)):=qq
theorem Ly(H:AH)(i j:Nat)(o:AObj):dpG H i j (some o)=dpF H j (o[i]?):=qq
theorem M1(H:AH)(r i j tot:Nat):Jv H (.ptr r i j tot)=r::dpG H i j (Am H r tot):=by
 simp only[Jv,G6];cases Am H r tot with
 |none=>rfl
 |some o=>
   simp only[dpG];cases o[i]? with
   |none=>rfl
   |some e=>
     simp only[dpF];cases hb:Aa (e.drop j)with
     |true=>rw[c6y H 3 _ hb];rfl
     |false=>rfl
theorem P7(E:CallF)(a:List Opd)(c:Nat)(V:Opd->AV)(H:AH)(args:List AV):Jw A5 E 33 a c V H args false=Vn (Hq A5 E 33 a c V H) (F7 H args) c H (E 33 (B3 H args) []):=a61 rfl _ _ _ _ _ _
theorem bm3(n:Int)(u:Uber)(h:Int):(els (Qd n u h)).length<=2/\∀ q∈els (Qd n u h),q.2.length<=1000000:=by
 have:=d2q u;unfold Qd;split
 ·refine⟨by simp[els],λq hq=>?_⟩;simp only[Az,e79,e61,or_false]at hq;rcases hq with rfl|rfl<;>exact this
 ·exact⟨by simp[els],λq hq=>by simp[els]at hq⟩
theorem c44(p:Pool){n:Nat}(hd:DevB p.d n)(hn:n<=40000)(t g s a b:Int)(c d e f:UInt32) :
 Ev tab A7 A5 46 [.ptr 0 0 0 1,.agg [.int .i64 t,.int .i64 g,.int .i64 s,.int .i64 a,.int .i64 b,.int .u32 c.toNat,.int .u32 d.toNat,.int .u32 e.toNat,.int .u32 f.toNat]] [some [Bg p]] =
  some (.bool (Vj p.d ⟨t,g,s,⟨a,b,⟨c,d,e,f⟩⟩⟩).2,[some [Bg ⟨(Vj p.d ⟨t,g,s,⟨a,b,⟨c,d,e,f⟩⟩⟩).1,p.at',p.r,p.s,p.seat,p.last,p.sets,p.only⟩]]):=by
 refine Cv l46 rfl ?_;obtain⟨dt,hdt⟩:∃ x:Int,x=(els p.d.last).length-28:=⟨_,rfl⟩;have hb1:=hd.last;have h1:=λH=>bm4 dt 0 t g s a b c d e f H;have h2:=λH=>bm4 dt 1 t g s a b c d e f H;unfold Vj;rw[<-hdt];have p1:=bm3 dt ⟨t,g,s,⟨a,b,⟨c,d,e,f⟩⟩⟩ 0;have p2:=bm3 dt ⟨t,g,s,⟨a,b,⟨c,d,e,f⟩⟩⟩ 1;generalize Qd dt ⟨t,g,s,⟨a,b,⟨c,d,e,f⟩⟩⟩ 0=F1 at *;generalize Qd dt ⟨t,g,s,⟨a,b,⟨c,d,e,f⟩⟩⟩ 1=F2 at *;have w1:=a4l p hd om F1 om p1.2;have wl:=cw9 p.d (els F1);have wb:=a7f hd (els F1);generalize Fy p.d (els F1)=q at *;obtain⟨d1,b1⟩:=q;simp only[]at w1 wl wb ⊢;have w2:=a4l ⟨d1,p.at',p.r,p.s,p.seat,p.last,p.sets,p.only⟩ wb om F2 om p2.2;simp only[]at w2;have hG1:=λH cs=>a0y p.d.last cs om H;have hG2:=λH cs=>a0y d1.last cs om H;rw[wl]at hG2;rw[<-hdt]at hG1 hG2;unfold Bg at w1 w2 ⊢;simp only[]at w1 w2;cases b1 with
 |false=>
   simp(disch:=try exact dq)only[tx,seval,g46,M1,Ly,Lz,M0,P7,hG1,h1,KQ 20 rfl,Fu (f:=20) rfl,Gm (f:=20) rfl,Gh,Gt,Ay,w1,e6d,e5z,e6g,e5f]
 |true=>
   simp(disch:=try exact dq)only[tx,seval,g46,M1,Ly,Lz,M0,P7,hG1,hG2,h1,h2,KQ 20 rfl,Fu (f:=20) rfl,Gm (f:=20) rfl,Gh,Gt,Ay,w1,w2,e6d,e5z,e6g]
def Yb(p:Pool):Int:=(els p.d.last).length-28
def Uh(p:Pool):Block:=⟨5,p.last+1,Rm (Yb p) p.s.n⟩
def Xk(p:Pool)(q:PlanP):Root:=⟨p.last+1,p.r.next,p.r.guid,q.table,Sa (q.rest.getD 0 default) (Uh p),p.r.kept,p.r.keptTxg⟩
def Un(p:Pool)(q:PlanP):Block:=⟨6,p.last+1,Rp (Xk p q)⟩
def V4(p:Pool)(q:PlanP):Pool:=⟨p.d,Sa (q.rest.getD 1 default) (Un p q),Xk p q,p.s,(p.seat+1).tmod 6,p.last+1,p.sets,p.only⟩
def Ot(p:Pool)(q:PlanP):List (Int×Bytes):=List.zipWith (λa b=>(a,Ew b)) (q.at'++q.rest) (q.bl++[Uh p,Un p q])
structure PlanOk(q:PlanP):Prop where
 at':q.at'.length=q.bl.length
 bl:q.bl.length<=1000
 rest:q.rest.length=2
 load:∀ x∈q.bl,x.load.length<=1000000
theorem c3x(p:Pool)(hp:PoolB p)(hs:-1000000000<=p.seat/\p.seat<=1000000000)(hl:-1000000000000<=p.last/\p.last<=1000000000000)(q:PlanP)(hq:PlanOk q) :
 Ev tab A7 A5 45 [.ptr 0 0 0 1,.agg (Oi 1 q)] [some [Bg p],some (q.bl.map G7),some (q.at'.map cI)] =
  some (.fz ((Ot p q).map B2),[some [Bg (V4 p q)],some ((q.bl++[Uh p,Un p q]).map G7),some ((q.at'++q.rest).map cI)]):=by
 refine Cv l45 rfl ?_;obtain⟨q1,q2,q3,q4⟩:=hq;have hb1:=hp.last;have hG:=λH cs=>a0y p.d.last cs om H;obtain⟨dt,hdt⟩:∃ x:Int,x=(els p.d.last).length-28:=⟨_,rfl⟩;rw[<-hdt]at hG;have hSp:=λH=>b8x p.s ⟨hp.held,hp.one,hp.two,hp.kept⟩ dt om om H;have hT:Uh p=⟨5,p.last+1,Rm dt p.s.n⟩:=by unfold Uh Yb;rw[hdt]
 have hsl:=d2s dt p.s.n om;obtain⟨sp,hsp⟩:∃ s,s=Rm dt p.s.n:=⟨_,rfl⟩;rw[<-hsp]at hSp hT hsl;have hB1:=λH=>b30 (q.rest.getD 0 default) 5 (p.last+1) sp om H;obtain⟨pS,hpS⟩:∃ x:Ptr,x=Sa (q.rest.getD 0 default) (Uh p):=⟨_,rfl⟩;rw[<-hT,<-hpS]at hB1;have hR:Xk p q=⟨p.last+1,p.r.next,p.r.guid,q.table,pS,p.r.kept,p.r.keptTxg⟩:=by unfold Xk;rw[hpS]
 have hRt:=λH=>b8y (Xk p q) H;have hrl:=d2v (Xk p q);obtain⟨rt,hrt⟩:∃ s,s=Rp (Xk p q):=⟨_,rfl⟩;have hRB:Un p q=⟨6,p.last+1,rt⟩:=by unfold Un;rw[hrt]
 rw[<-hrt,hR]at hRt;rw[<-hrt]at hrl;have hB2:=λH=>b30 (q.rest.getD 1 default) 6 (p.last+1) rt om H;obtain⟨pU,hpU⟩:∃ x:Ptr,x=Sa (q.rest.getD 1 default) (Un p q):=⟨_,rfl⟩;rw[<-hRB,<-hpU]at hB2;unfold Ot V4;rw[<-hpU,hR,hT,hRB];simp only[Aj]at hB1 hB2;unfold Bg Oi;have hr0:(0:Int)<(q.rest.length:Int):=om;have hr1:(1:Int)<(q.rest.length:Int):=om;have embI:(q.rest.map λx=>[PV.int .i64 x]).map (λe=>e.map emb)=q.rest.map cI:=by rw[e7q];rfl
 have aC:(q.rest.map cI).all (λe=>decide (e.length=1))=true:=ao1 q.rest;have hapA:q.at'.map cI++q.rest.map cI=(q.at'++q.rest).map cI:=by rw[e6o]
 have hapB:q.bl.map G7++[[.int .i64 5,.int .i64 (p.last+1),.str sp],[.int .i64 6,.int .i64 (p.last+1),.str rt]]=(q.bl++[⟨5,p.last+1,sp⟩,⟨6,p.last+1,rt⟩]:List Block).map G7:=by rw[e6o];rfl
 simp(disch:=try exact dq)only[tx,seval,g45,embI,aC,hapA,hapB,M1,Ly,Lz,M0,P7,hG,hSp,hB1,hRt,hB2,hr0,hr1,B8,Cg,Cf,B6,Bh,e74,e6i,q1,q3];have hTl:∀ x∈(q.bl++[⟨5,p.last+1,sp⟩,⟨6,p.last+1,rt⟩]:List Block),x.load.length<=1000000:=by
  intro x hx;simp only[e6m,e79,e61,or_false]at hx;rcases hx with h|rfl|rfl
  ·exact q4 x h
  ·simp only[];omega
  ·simp only[];omega
 have hTn:(q.bl++[⟨5,p.last+1,sp⟩,⟨6,p.last+1,rt⟩]:List Block).length=q.bl.length+2:=by simp
 have hAn:(q.at'++q.rest).length=q.bl.length+2:=by rw[e58];omega
 generalize (q.bl++[⟨5,p.last+1,sp⟩,⟨6,p.last+1,rt⟩]:List Block)=T at *;generalize q.at'++q.rest=A at *;have hLn:(List.zipWith (λ(a:Int) b=>(a,Ew b)) A T).length=q.bl.length+2:=by rw[List.length_zipWith,hTn,hAn,Nat.min_self]
 have hLg:∀ j,j<q.bl.length+2->(List.zipWith (λ(a:Int) b=>(a,Ew b)) A T).getD j default=(A.getD j default,Ew (T.getD j default)):=λj hj=>by
  rw[e42,e47 om,List.getElem_zipWith,e42,e47 om,e42,e47 om];rfl
 generalize hL:List.zipWith (λ(a:Int) b=>(a,Ew b)) A T=L at *;generalize hr:Ai _ _ _=r;refine Bb hr (q.bl.length+2) (λj=>[.top,.top,.top,.top,.top,.top,.own 2 1 0 (q.bl.length+2) (q.bl.length+2),.own 67 2 0 j j,.top,.top,.own 1 3 0 (q.bl.length+2) (q.bl.length+2),.int .i64 (q.bl.length+2:Nat),.int .i64 (j:Int),.top,.top,.top])
  (λj=>[some [[A4 B1 p.d.last,A4 B2 p.d.wait,.int .i64 p.d.lies,.int .i64 p.d.arm,.bool p.d.down,.int .i64 pU.addr,.int .i64 pU.birth,.int .u32 pU.sum.a.toNat,.int .u32 pU.sum.b.toNat,.int .u32 pU.sum.c.toNat,.int .u32 pU.sum.d.toNat,.int .i64 (p.last+1),.int .i64 p.r.next,.int .i64 p.r.guid,.int .i64 q.table.addr,.int .i64 q.table.birth,.int .u32 q.table.sum.a.toNat,.int .u32 q.table.sum.b.toNat,.int .u32 q.table.sum.c.toNat,.int .u32 q.table.sum.d.toNat,.int .i64 pS.addr,.int .i64 pS.birth,.int .u32 pS.sum.a.toNat,.int .u32 pS.sum.b.toNat,.int .u32 pS.sum.c.toNat,.int .u32 pS.sum.d.toNat,.int .i64 p.r.kept.addr,.int .i64 p.r.kept.birth,.int .u32 p.r.kept.sum.a.toNat,.int .u32 p.r.kept.sum.b.toNat,.int .u32 p.r.kept.sum.c.toNat,.int .u32 p.r.kept.sum.d.toNat,.int .i64 p.r.keptTxg,A4 A8 p.s.held,A4 A8 p.s.one,A4 A8 p.s.two,A4 A8 p.s.kept,.int .i64 ((p.seat+1).tmod 6),.int .i64 (p.last+1),A4 B7 p.sets,.bool p.only]],some (T.map G7),some (A.map cI),some [[.own 1 3 0 q.bl.length q.bl.length,.own 2 1 0 q.bl.length q.bl.length,.int .i64 q.table.addr,.int .i64 q.table.birth,.int .u32 q.table.sum.a.toNat,.int .u32 q.table.sum.b.toNat,.int .u32 q.table.sum.c.toNat,.int .u32 q.table.sum.d.toNat,A4 A8 q.held,.fz (q.rest.map λx=>[.int .i64 x])]],some [[.int .i64 5,.int .i64 (p.last+1),.str sp]]]++(List.replicate 36 none++(some [[.int .i64 6,.int .i64 (p.last+1),.str rt]]::(List.replicate 24 none++[some [[.int .i64 5,.int .i64 (p.last+1),.str sp],[.int .i64 6,.int .i64 (p.last+1),.str rt]],some ((L.take j).map Gg)])))) (λ_=>True) ?_ ?_ trivial ?_ ?_
 ·rfl
 ·rfl
 ·intro j hj _;have hj':((j:Int)<((q.bl.length+2:Nat):Int)):=om;have hg1:(T.map G7)[j]?=some (G7 (T.getD j default)):=Ic om G7;have hg2:(A.map cI)[j]?=some (cI (A.getD j default)):=Ic om cI;have hxl:=hTl _ (Ie (show j<T.length by omega));have hS:L.take (j+1)=L.take j++[L.getD j default]:=Dd om;rw[hLg j hj]at hS;have hlj:(L.take j).length=j:=by rw[e67];omega
  generalize T.getD j default=x at *;generalize A.getD j default=a at *;rw[hS];generalize L.take j=M at *;have hB:=λH=>c93 x.kind x.birth x.load hxl H;have hap:M.map Gg++[[.int .i64 a,.str (Ew x)]]=(M++[(a,Ew x)]).map Gg:=by rw[e6o];rfl
  simp only[G7,cI]at hg1 hg2
  simp(disch:=try exact dq)only[tx,seval,hj',hg1,hg2,hB,hap,hTn,hAn,Cg,Cf,B6,Bh,Iw,Hv,e74,e6i,hlj];rfl
 ·intro _;have hM:L.take (q.bl.length+2)=L:=e4h om;rw[hM];have kP:List.take (q.bl.length+2) (L.map B2)=L.map B2:=e4h (by rw[e6i];omega)
  simp(disch:=try exact dq)only[tx,seval,e7f,Cg,Cf,B6,Bh,Iw,Hv,Si,Td,J3,P0,kP,e6i,hLn,hTn,hAn]
structure InD(n:Int)(l:List Rn):Prop where
 sep:SepR l
 has:∀ x,hasR l x=true->14<=x/\x<14+n
theorem bb1:∀ {l:List Rn} {a b:Int},SepR l->(∀ r∈l,a<=r.a/\r.b<=b)->(l.length:Int)<=max (b-a) 0
 |[],a,b,_,_=>by simp only[e6f];omega
 |r::l,a,b,h,hr=>by
   have h1:=hr r (by simp);have ih:=bb1 (l:=l) (a:=r.b+1) (b:=b) h.2.2 (λq hq=>⟨by have:=h.2.1 q hq;omega,(hr q (by simp[hq])).2⟩);have h2:=h.1;rw[e5w];by_cases hl:l=[]
   ·subst hl;simp only[e6f];omega
   ·obtain⟨q,hq⟩:=List.exists_mem_of_ne_nil _ hl;have h3:=h.2.1 q hq;have h4:=(hr q (by simp[hq])).2;have h5:=h.2.2.pos q hq;omega
theorem InD.runs{n:Int}{l:List Rn}(h:InD n l):∀ r∈l,14<=r.a/\r.b<=14+n:=λr hr=>by
 have hp:=h.sep.pos r hr;have h1:=h.has r.a (Xu.2 ⟨r,hr,by omega,by omega⟩);have h2:=h.has (r.b-1) (Xu.2 ⟨r,hr,by omega,by omega⟩);omega
theorem InD.len{n:Int}{l:List Rn}(h:InD n l)(hn:n<=240):l.length<=240:=by
 have:=bb1 h.sep h.runs;omega
theorem InD.ok{n:Int}{l:List Rn}(h:InD n l)(hn:n<=240):a2p l:=by
 refine⟨by have:=h.len hn;omega,λr hr=>?_⟩;have h1:=h.runs r hr;have h2:=h.sep.pos r hr;omega
theorem InD.less{n:Int}{l:List Rn}(h:InD n l)(m:List Rn):InD n (C6 l m):=⟨a7i _ _ _,λx hx=>by rw[c3o,e5v]at hx;exact h.has x hx.1⟩
theorem a7h{n:Int}{l:List Rn}(h:Eh n l=true):InD n l:=by
 unfold Eh at h;simp only[e5v,e5h]at h;refine⟨(d6g.1 h.1).1,λx hx=>?_⟩
 have:=d6u.1 h.2 x hx;rw[c3n]at this;simpa using this
theorem a44{n:Int}{s:SpaceL}(h:Dw n s=true):n<=240/\InD n s.held/\InD n s.one/\InD n s.two/\InD n s.kept:=by
 unfold Dw Jo at h;simp only[e5v,e5h]at h;obtain⟨⟨⟨h1,h2,h3,h4,h5⟩,_⟩,_⟩:=h;exact⟨h1.2,a7h h2,a7h h3,a7h h4,a7h h5⟩
theorem b1h(n:Int)(s:SpaceL):a2p (G3 n s):=by
 by_cases h:Dw n s=true
 ·have h1:=a44 h;have:InD n (G3 n s):=⟨dz0 n s,λx hx=>by
   rw[di0 h]at hx;simp only[e5v,e5h]at hx;exact hx.1.1.1.1⟩
  exact this.ok h1.1
 ·rw[G3,if_neg h];exact⟨by decide,λr hr=>by cases hr⟩
def Qr(p:Pool):Int:=Dj (G3 (Yb p) p.s.n)
theorem a3w(p:Pool)(hp:PoolB p)(H:AH):K tab A7 A5 14 [.agg (Bg p)] H=some (.int .i64 (Qr p),H):=by
 refine Ae l14 rfl (by simp only[Aa,Ab,Yg,e7c]) rfl ?_ H;have hb1:=hp.last;have hG:=λH cs=>a0y p.d.last cs om H;unfold Qr Yb;obtain⟨dt,hdt⟩:∃ x:Int,x=(els p.d.last).length-28:=⟨_,rfl⟩;rw[<-hdt]at hG ⊢;have hF:=λH=>aw5 p.s ⟨hp.held,hp.one,hp.two,hp.kept⟩ dt om om H;have hC:=λH=>a85 (Ax (G3 dt p.s.n)) (by rw[Dy];exact b1h _ _) H;rw[Dy]at hC;unfold Bg
 simp(disch:=try exact dq)only[tx,seval,g14,M1,Ly,Lz,M0,P7,hG,hF,hC]
theorem c83{f:FuncId}{a:List Opd}{c:Nat}{V:Opd->AV}{H:AH}{x:AV}{H1:AH}{args:List AV}(hV:a.map V=args)(hb:Aa args=true)(h:K tab A7 A5 f args []=some (x,H1))(hc:c+H1.length<=H.length) :
 Hq A5 (K tab A7 A5) f a c V H=some ((List.range' c H1.length).map .con,(List.range' c H1.length).map .con++(List.range' c H1.length).map .len,c+H1.length,ren (Au (List.range' c H1.length)) x,C3 H (List.range' c H1.length) (H1.map λo=>o.map (renO (Au (List.range' c H1.length))))):=by
 subst hV;exact b2n hb h hc
def Cy(p:Pool)(q:PlanP):Pool:=⟨p.d,p.at',p.r,b7o p.s q.held,p.seat,p.last,p.sets,p.only⟩
def Qc(p:Pool)(olds:List OldW):Option PlanP:=Jr (p.last+1) (G3 (Yb p) p.s.n) (els p.sets) olds
def Rq(p:Pool)(Co:Bool)(b:Nat)(o:Option PlanP):AV:=match o with
 |some q=>.tuple [.agg (Oi b q),.bool (Co||decide (6<=Qr (Cy p q)))]
 |none=>.tuple [.agg Ku,.bool false]
def Rs(p:Pool)(o:Option PlanP):Pool:=match o with
 |some q=>Cy p q
 |none=>p
theorem a9l{txg:Int}{free:List Rn}{l:List Dset}{olds:List OldW}{q:PlanP}(h:Jr txg free l olds=some q)(ho:olds.length<=32)(hs:SetsOk l):(els q.held).length<=500:=by
 unfold Jr at h;split at h
 ·rename_i hc;have hM:Gb l=true:=by have:=hc.1;unfold a4c at this;simp only[e5v]at this;exact this.1.1.1
  have hl8:=a47 hM;have hL8:=a45 hM;have hW:=(LWok.setsJ (w:=⟨[],[],[],olds⟩) (m:=olds.length) ⟨rfl,e7w _,e7w _,e7y _⟩ txg (D7 free) l (λx hx=>(hl8 x hx).1) l.length (e7y _)).put txg (D7 free) 4 (J1 (l.map Dq) (a0n txg (D7 free) l olds).1);have hh:=hW.held;cases h;rw[Dy];have h1:=bq7 ((Ia txg (D7 free) l olds).2.held++((D7 free).drop (Ia txg (D7 free) l olds).2.bl.length).take 2);rw[e58,e67]at h1;have h2:(Ia txg (D7 free) l olds).2.held.length<=olds.length+42*l.length+1:=hh;omega
 ·cases h
theorem a7r{p:Pool}(hp:PoolB p){n:Int}(hn:n<=240)(hI:InD n p.s.n.held/\InD n p.s.n.one/\InD n p.s.n.two/\InD n p.s.n.kept)(q:PlanP)(hh:(els q.held).length<=500):PoolB (Cy p q):=by
 have h1:=(hI.1.less (els q.held)).len hn;have h2:=((hI.2.1.less (els q.held)).less (C6 (els p.s.held) (els q.held))).len hn;exact⟨hp.last,hp.wait,hh,by show(els (Ax _)).length<=_;rw[Dy];exact e7n h1 (by decide),by show(els (Ax _)).length<=_;rw[Dy];exact e7n h2 (by decide),hp.kept,hp.sets,hp.files⟩
theorem a9k{txg n:Int}{s:SpaceL}{l:List Dset}{olds:List OldW}{q:PlanP}(h:Jr txg (G3 n s) l olds=some q):Dw n s=true:=by
 unfold Jr at h;split at h
 ·rename_i hc;rw[<-Bool.not_eq_false];intro hm;have:G3 n s=[]:=by rw[G3,if_neg (by rw[hm];exact e5f)]
  rw[this]at hc;have h2:=hc.2;have:(D7 []).length=0:=rfl;omega
 ·cases h
theorem dx8(v:List OldV)(hv:v.length<=4)(hs:∀ o∈v,o.v.sets.length<=8)(hok:∀ o∈Bz v v.length,OldOk o)(p:Pool)(hp:PoolB p)(hl:-1000000000000<=p.last/\p.last<=1000000000000)(hst:SetsOk (els p.sets))(Co:Bool) :
 Ev tab A7 A5 44 [.ptr 0 0 0 1,.bool Co,.own 1 30 0 v.length v.length] ([some [Bg p]]++[some (v.map Ff)])=some (Rq p Co 2 (Qc p (Bz v v.length)),[some [Bg (Rs p (Qc p (Bz v v.length)))]]++[some (v.map Ff)]++J2 (Qc p (Bz v v.length))):=by
 refine Cv l44 rfl ?_;have hb1:=hp.last;have hG:=λH cs=>a0y p.d.last cs om H;obtain⟨dt,hdt⟩:∃ x:Int,x=Yb p:=⟨_,rfl⟩;have hdt':(els p.d.last).length-28=dt:=hdt.symm;rw[hdt']at hG;have hF:=λH=>aw5 p.s ⟨hp.held,hp.one,hp.two,hp.kept⟩ dt om om H;have hL:=d75 v hv hs hok (p.last+1) (Ax (G3 dt p.s.n)) (by rw[Dy];exact b1h _ _) p.sets hst;rw[Dy]at hL;unfold Qc;rw[<-hdt];cases hq:Jr (p.last+1) (G3 dt p.s.n) (els p.sets) (Bz v v.length)with
 |none=>
   rw[hq]at hL;simp only[a0o,J2,Ku,e6k,e62,e6l]at hL;unfold Rq Rs J2 Bg Ku;simp only[e6k,e62,e6l]
   simp(disch:=try exact dq)only[tx,seval,T8,M1,Ly,Lz,M0,P7,hG,hF,KQ 78 rfl,Fu (f:=78) rfl,Gm (f:=78) rfl,Gh,Gt,Ay,hL,Ca,C9,e6d,e5z,e6g,e74,e6i]
 |some q=>
   have hm:=a9k hq;have hI:=a44 hm;have hh:=a9l hq (by have:=Xg v hs v.length;omega) hst;have hTu:=λH=>b9h p.s ⟨hp.held,hp.one,hp.two,hp.kept⟩ q.held om H;have hp2:PoolB (Cy p q):=a7r hp hI.1 hI.2 q hh;have hFr:=λH=>a3w (Cy p q) hp2 H;rw[hq]at hL;unfold Rq Rs J2;simp only[];obtain⟨fn,hfn⟩:∃ x,x=Qr (Cy p q):=⟨_,rfl⟩;rw[<-hfn]at hFr ⊢;simp only[a0o,J2,Oi,e6k,e62,e6l]at hL;unfold Cy Bg at hFr ⊢;unfold Oi;unfold a86 at hTu;simp only[e6k,e62,e6l]at hFr ⊢;cases Co with
   |true=>
     simp(disch:=try exact dq)only[tx,seval,T8,M1,Ly,Lz,M0,P7,hG,hF,KQ 78 rfl,Fu (f:=78) rfl,Gm (f:=78) rfl,Gh,Gt,Ay,hL,hTu,hFr,Ca,C9,Cg,Cf,B6,Bh,e6d,e5z,e6g,e74,e6i]
   |false=>
     simp(disch:=try exact dq)only[tx,seval,T8,M1,Ly,Lz,M0,P7,hG,hF,KQ 78 rfl,Fu (f:=78) rfl,Gm (f:=78) rfl,Gh,Gt,Ay,hL,hTu,hFr,Ca,C9,Cg,Cf,B6,Bh,e6d,e5z,e6g,e74,e6i]
theorem dx9(p:Pool)(hp:PoolB p)(hl:-1000000000000<=p.last/\p.last<=1000000000000)(hst:SetsOk (els p.sets))(Co:Bool) :
 Ev tab A7 A5 44 [.ptr 0 0 0 1,.bool Co,.emp] ([some [Bg p]]++[])=some (Rq p Co 1 (Qc p ([]:List OldW)),[some [Bg (Rs p (Qc p ([]:List OldW)))]]++[]++J2 (Qc p ([]:List OldW))):=by
 refine Cv l44 rfl ?_;have hb1:=hp.last;have hG:=λH cs=>a0y p.d.last cs om H;obtain⟨dt,hdt⟩:∃ x:Int,x=Yb p:=⟨_,rfl⟩;have hdt':(els p.d.last).length-28=dt:=hdt.symm;rw[hdt']at hG;have hF:=λH=>aw5 p.s ⟨hp.held,hp.one,hp.two,hp.kept⟩ dt om om H;have hL:=d76 (p.last+1) (Ax (G3 dt p.s.n)) (by rw[Dy];exact b1h _ _) p.sets hst;rw[Dy]at hL;unfold Qc;rw[<-hdt];cases hq:Jr (p.last+1) (G3 dt p.s.n) (els p.sets) ([]:List OldW)with
 |none=>
   rw[hq]at hL;simp only[a0o,J2,Ku,e6k,e62,e6l]at hL;unfold Rq Rs J2 Bg Ku;simp only[e6k,e62,e6l]
   simp(disch:=try exact dq)only[tx,seval,T8,M1,Ly,Lz,M0,P7,hG,hF,KQ 78 rfl,Fu (f:=78) rfl,Gm (f:=78) rfl,Gh,Gt,Ay,hL,Ca,C9,e6d,e5z,e6g,e74,e6i]
 |some q=>
   have hm:=a9k hq;have hI:=a44 hm;have hh:=a9l hq (by decide) hst;have hTu:=λH=>b9h p.s ⟨hp.held,hp.one,hp.two,hp.kept⟩ q.held om H;have hp2:PoolB (Cy p q):=a7r hp hI.1 hI.2 q hh;have hFr:=λH=>a3w (Cy p q) hp2 H;rw[hq]at hL;unfold Rq Rs J2;simp only[];obtain⟨fn,hfn⟩:∃ x,x=Qr (Cy p q):=⟨_,rfl⟩;rw[<-hfn]at hFr ⊢;simp only[a0o,J2,Oi,e6k,e62,e6l]at hL;unfold Cy Bg at hFr ⊢;unfold Oi;unfold a86 at hTu;simp only[e6k,e62,e6l]at hFr ⊢;have kL:K tab A7 A5 78 [.int .i64 (p.last+1),A4 A8 (Ax (G3 dt p.s.n)),A4 B7 p.sets,.emp] []=some (.tuple [.agg [.own 0 3 0 q.bl.length q.bl.length,.own 1 1 0 q.bl.length q.bl.length,.int .i64 q.table.addr,.int .i64 q.table.birth,.int .u32 q.table.sum.a.toNat,.int .u32 q.table.sum.b.toNat,.int .u32 q.table.sum.c.toNat,.int .u32 q.table.sum.d.toNat,A4 A8 q.held,.fz (q.rest.map λx=>[.int .i64 x])],.bool true],[some (q.bl.map G7),some (q.at'.map cI)]):=by
    rw[Wl rfl (by simp[Aa,Ab,Ak]) hL []]
    simp(disch:=try exact dq)only[tx,seval,Nn,Sj,e6f,Cg,Cf,B6,Bh,e6k,e75,e7k,e6h,Nt,e6r,e7m,e7l]
   cases Co with
   |true=>
     simp(disch:=try exact dq)only[tx,seval,T8,M1,Ly,Lz,M0,P7,hG,hF,kL,hTu,hFr,Ca,C9,Cg,Cf,B6,Bh,e6d,e5z,e6g,e74,e6i];rw[c82,c83 (args:=[.int .i64 (p.last+1),A4 A8 (Ax (G3 dt p.s.n)),A4 B7 p.sets,.emp]) rfl (by simp[Aa,Ab,Ak]) kL (by simp)]
     simp(disch:=try exact dq)only[tx,seval,M1,Ly,Lz,M0,P7,hG,hF,Zo,Nn,Nt,e49,e4b,hTu,hFr,Cg,Cf,B6,Bh,e6d,e5z,e6g,e6h,e75,e7k,e74,e6i,e5w,e6f]
   |false=>
     simp(disch:=try exact dq)only[tx,seval,T8,M1,Ly,Lz,M0,P7,hG,hF,kL,hTu,hFr,Ca,C9,Cg,Cf,B6,Bh,e6d,e5z,e6g,e74,e6i];rw[c82,c83 (args:=[.int .i64 (p.last+1),A4 A8 (Ax (G3 dt p.s.n)),A4 B7 p.sets,.emp]) rfl (by simp[Aa,Ab,Ak]) kL (by simp)]
     simp(disch:=try exact dq)only[tx,seval,M1,Ly,Lz,M0,P7,hG,hF,Zo,Nn,Nt,e49,e4b,hTu,hFr,Cg,Cf,B6,Bh,e6d,e5z,e6g,e6h,e75,e7k,e74,e6i,e5w,e6f]
def Ek(w:LW):Prop:=∀ x∈w.bl,x.load.length<=1000
theorem Ek.put{w:LW}(h:Ek w)(txg:Int)(free:List Int)(kind:Int)(load:Bytes)(hl:load.length<=1000):Ek (w.put txg free kind load).2:=by
 intro x hx;simp only[LW.put,e6m,e59]at hx;rcases hx with hx|rfl
 ·exact h x hx
 ·exact hl
theorem Ek.part{w:LW}(h:Ek w)(txg:Int)(free:List Int)(n k:Nat)(s:Bytes)(hs:s.length<=1000):Ek (w.part txg free n k s).2:=by
 unfold LW.part;split
 ·exact h
 ·split
  ·exact h
  ·exact h.put _ _ _ _ hs
theorem Ek.partJ{w:LW}(h:Ek w)(txg:Int)(free:List Int)(n:Nat)(b:Bytes):∀ j,Ek (LW.partJ txg free w n b j).2
 |0=>h
 |j+1=>(Ek.partJ h txg free n b j).part _ _ _ _ _ (by have:=bm8 b j;omega)
theorem Ek.node{w:LW}(h:Ek w)(txg:Int)(free:List Int)(n:Nat)(x:Node):Ek (w.node txg free n x).2:=by
 unfold LW.node;split
 ·exact h
 ·show Ek (LW.node1 txg free _ n x _).2;unfold LW.node1;split
  ·exact h.partJ _ _ _ _ _
  ·exact(h.partJ _ _ _ _ _).put _ _ _ _ (bk3 _ _ _)
theorem Ek.setJ{w:LW}(h:Ek w)(txg:Int)(free:List Int)(f:List Node):∀ j,Ek (LW.setJ txg free w f j).2
 |0=>h
 |j+1=>(Ek.setJ h txg free f j).node _ _ _ _
theorem Ek.set{w:LW}(h:Ek w)(txg:Int)(free:List Int)(x:Dset):Ek (w.set txg free x).2:=by
 have h1:Ek ((LW.setJ txg free w (els x.files) (els x.files).length).2.nodes txg free (LW.setJ txg free w (els x.files) (els x.files).length).1.1).2:=by
  unfold LW.nodes;split
  ·exact h.setJ _ _ _ _
  ·exact(h.setJ _ _ _ _).put _ _ _ _ (bk0 _)
 exact h1
theorem Ek.setsJ{w:LW}(h:Ek w)(txg:Int)(free:List Int)(l:List Dset):∀ j,Ek (LW.setsJ txg free w l j).2
 |0=>h
 |j+1=>(Ek.setsJ h txg free l j).set _ _ _
theorem a9j{txg:Int}{free:List Rn}{l:List Dset}{olds:List OldW}{q:PlanP}(h:Jr txg free l olds=some q)(ho:olds.length<=32):PlanOk q:=by
 unfold Jr at h;split at h
 ·rename_i hc;have hM:Gb l=true:=by have:=hc.1;unfold a4c at this;simp only[e5v]at this;exact this.1.1.1
  have hl8:=a47 hM;have hL8:=a45 hM;have hW:=(LWok.setsJ (w:=⟨[],[],[],olds⟩) (m:=olds.length) ⟨rfl,e7w _,e7w _,e7y _⟩ txg (D7 free) l (λx hx=>(hl8 x hx).1) l.length (e7y _)).put txg (D7 free) 4 (J1 (l.map Dq) (a0n txg (D7 free) l olds).1);have hB:Ek (Ia txg (D7 free) l olds).2:=(Ek.setsJ (w:=⟨[],[],[],olds⟩) (λx hx=>by cases hx) txg (D7 free) l l.length).put _ _ _ _ (az3 _ _);have h2:(Ia txg (D7 free) l olds).2.bl.length<=olds.length+42*l.length+1:=hW.bl;have h3:(Ia txg (D7 free) l olds).2.at'.length=(Ia txg (D7 free) l olds).2.bl.length:=hW.at';have h4:=hc.2;cases h;refine⟨h3,by show(Ia txg (D7 free) l olds).2.bl.length<=1000;omega,?_,λx hx=>by have:=hB x hx;omega⟩
  show(((D7 free).drop _).take 2).length=2;rw[e67,e60];omega
 ·cases h
theorem bs2(p:Pool)(q:PlanP)(hq:PlanOk q):(Ot p q).length<=2000/\∀ x∈Ot p q,x.2.length<=1000000:=by
 obtain⟨h1,h2,h3,h4⟩:=hq;unfold Ot;refine⟨by rw[List.length_zipWith,e58];omega,λx hx=>?_⟩;obtain⟨i,hi,rfl⟩:=List.getElem_of_mem hx;rw[List.getElem_zipWith];exact e7n (az7 _) (by decide)
structure PoolT(p:Pool):Prop where
 b:PoolB p
 dev:DevB p.d 10000
 seat:-1000000000<=p.seat/\p.seat<=1000000000
 last:-1000000000000<=p.last/\p.last<=1000000000000
 sets:SetsOk (els p.sets)
theorem b60{p:Pool}(h:PoolT p):PoolT (Ip p):=by
 obtain⟨⟨b1,b2,b3,b4,b5,b6,b7,b8⟩,⟨d1,d2,d3,d4,d5,d6⟩,s,l,t1,t2⟩:=h;refine⟨⟨b1,b2,b3,b4,b5,b6,by show((els p.sets).map Pw).length<=_;rw[e6i];exact b7,λx hx=>?_⟩,⟨d1,d2,d3,d4,d5,d6⟩,s,l,by show((els p.sets).map Pw).length<=_;rw[e6i];exact t1,λx hx=>?_⟩
 ·obtain⟨y,hy,rfl⟩:=e7o.1 hx;exact b8 y hy
 ·obtain⟨y,hy,rfl⟩:=e7o.1 hx;exact t2 y hy
def Wn(p:Pool)(d:Dev):Pool:=⟨d,p.at',p.r,p.s,p.seat,p.last,p.sets,p.only⟩
def Wp(n:Pool):Uber:=⟨n.last,n.r.guid,n.seat,n.at'⟩
def b2c(t:Pool)(q:PlanP):Pool×Int:=
 if(Fy t.d (Ot (Cy t q) q)).2=true then
  (if(Vj (Fy t.d (Ot (Cy t q) q)).1 (Wp (V4 (Cy t q) q))).2=true then(Wn (V4 (Cy t q) q) (Vj (Fy t.d (Ot (Cy t q) q)).1 (Wp (V4 (Cy t q) q))).1,0) else(Wn t (Vj (Fy t.d (Ot (Cy t q) q)).1 (Wp (V4 (Cy t q) q))).1,13))
 else(Wn t (Fy t.d (Ot (Cy t q) q)).1,13)
def Rc(p:Pool)(Co:Bool)(olds:List OldW):Pool×Int:=
 if p.d.down=true then(Ip p,13)else if p.only=true then(Ip p,11)else if Gb (els p.sets)=false then(Ip p,1)else if 1073741824<=p.last then(Ip p,8)
 else match Qc (Ip p) olds with
  |none=>(Ip p,8)
  |some q=>if(Co||decide (6<=Qr (Cy (Ip p) q)))=true then b2c (Ip p) q else(Ip p,8)
theorem cz2(v:List OldV)(hv:v.length<=4)(hs:∀ o∈v,o.v.sets.length<=8)(hok:∀ o∈Bz v v.length,OldOk o)(p:Pool)(hp:PoolT p)(Co:Bool) :
 Ev tab A7 A5 21 [.agg (Bg p),.bool Co,.own 0 30 0 v.length v.length] [some (v.map Ff)]=some (.tuple [.agg (Bg (Rc p Co (Bz v v.length)).1),.int .i64 (Rc p Co (Bz v v.length)).2],[some (v.map Ff)]):=by
 refine Cv l21 rfl ?_;have hT:=b60 hp;have hw:=λH=>az8 p hp.b H;have hM:=λH=>a5v p.sets (by have:=hp.sets.1;omega) (λx hx=>⟨by have:=(hp.sets.2 x hx).1;omega,λn hn=>by have:=(hp.sets.2 x hx).2 n hn;omega⟩) H;have hla:=hp.last;unfold Rc;obtain⟨t,ht⟩:∃ t,t=Ip p:=⟨_,rfl⟩;rw[<-ht]at hT hw ⊢;by_cases c1:p.d.down=true
 ·rw[if_pos c1];unfold Bg at hw ⊢;simp only[c1]at hw ⊢
  simp(disch:=try exact dq)only[tx,seval,Gc,hw,Ca,C9,Gr,e6i]
 rw[if_neg c1];rw[e6a]at c1;by_cases c2:p.only=true
 ·rw[if_pos c2];unfold Bg at hw ⊢;simp only[c1,c2]at hw ⊢
  simp(disch:=try exact dq)only[tx,seval,Gc,hw,Ca,C9,Gr,e6i]
 rw[if_neg c2];rw[e6a]at c2;cases c3:Gb (els p.sets)with
 |false=>
   rw[c3]at hM;rw[if_pos rfl];unfold Bg at hw ⊢;simp only[c1,c2]at hw ⊢
   simp(disch:=try exact dq)only[tx,seval,Gc,hw,hM,Ca,C9,Gr,e6i]
 |true=>
   rw[c3]at hM;rw[if_neg (by simp)];by_cases c4:1073741824<=p.last
   ·rw[if_pos c4];unfold Bg at hw ⊢;simp only[c1,c2]at hw ⊢
    simp(disch:=try exact dq)only[tx,seval,Gc,hw,hM,c4,Ca,C9,Gr,e6i]
   rw[if_neg c4];have hP:=dx8 v hv hs hok t hT.b hT.last hT.sets Co;cases hq:Qc t (Bz v v.length)with
   |none=>
     rw[hq]at hP;simp only[Rq,Rs,J2,Ku,e6k,e62,e6l]at hP;unfold Bg at hw hP ⊢;simp only[c1,c2]at hw ⊢
     simp(disch:=try exact dq)only[tx,seval,Gc,hw,hM,c4,KQ 44 rfl,Ay,hP,Ca,C9,Gr,e6i]
   |some q=>
     rw[hq]at hP;simp only[Rq,Rs,J2,Oi,e6k,e62,e6l]at hP;have htop:Cw AV.top=some .top:=rfl;have hqa:=(a9j hq (by have:=Xg v hs v.length;omega)).at';have kb:List.take q.bl.length (q.bl.map a3x)=q.bl.map a3x:=F4 _ _;have ka:List.take q.bl.length (q.at'.map λx=>[PV.int .i64 x])=q.at'.map λx=>[PV.int .i64 x]:=e4h (by rw[e6i];omega);cases hb:(Co||decide (6<=Qr (Cy t q)))with
     |false=>
       rw[hb]at hP;simp only[];rw[hb,if_neg e5f];unfold Cy Bg at hP;unfold Bg at hw ⊢;simp only[c1,c2]at hw ⊢
       simp(disch:=try exact dq)only[tx,seval,Gc,hw,hM,c4,KQ 44 rfl,Ay,hP,Ca,C9,Gr,Cg,Cf,P0,B6,Bh,J3,Uf,Nj,htop,kb,ka,e6i]
     |true=>
       rw[hb]at hP;simp only[];rw[hb,if_pos rfl];have hqo:=a9j hq (by have:=Xg v hs v.length;omega);have hh:=a9l hq (by have:=Xg v hs v.length;omega) hT.sets;have hI:=a44 (a9k hq);have hg:=a7r hT.b hI.1 hI.2 q hh;have hN:=c3x (Cy t q) hg hT.seat hT.last q hqo;have hnb:=bs2 (Cy t q) q hqo;unfold b2c;obtain⟨n,hn⟩:∃ n,n=V4 (Cy t q) q:=⟨_,rfl⟩;have hnd:n.d=t.d:=(by rw[hn];rfl);rw[<-hn]at hN ⊢;generalize Ot (Cy t q) q=L at *;have hW:=a4l n (n:=10000) (by rw[hnd];exact hT.dev) om (some L) (by rw[Az];omega) hnb.2;rw[Az,Cx,hnd]at hW;have hwb:=a7f hT.dev L;generalize Fy t.d L=w at *;obtain⟨d1,b1⟩:=w;simp only[]at hW hwb ⊢;have hE:=c44 ⟨d1,n.at',n.r,n.s,n.seat,n.last,n.sets,n.only⟩ hwb om n.last n.r.guid n.seat n.at'.addr n.at'.birth n.at'.sum.a n.at'.sum.b n.at'.sum.c n.at'.sum.d;have hub:Wp n=⟨n.last,n.r.guid,n.seat,⟨n.at'.addr,n.at'.birth,⟨n.at'.sum.a,n.at'.sum.b,n.at'.sum.c,n.at'.sum.d⟩⟩⟩:=rfl;rw[<-hub]at hE;simp only[]at hE;generalize Vj d1 (Wp n)=w at *;obtain⟨d2,b2⟩:=w;simp only[]at hE ⊢;simp only[Oi,e58,e5w,e6f]at hN;obtain⟨BL,hBL⟩:∃ l,l=q.bl++[Uh (Cy t q),Un (Cy t q) q]:=⟨_,rfl⟩;obtain⟨AL,hAL⟩:∃ l,l=q.at'++q.rest:=⟨_,rfl⟩;rw[<-hBL,<-hAL]at hN;unfold Cy at hP hN;unfold Bg at hw hP hN hW hE ⊢;simp only[c1,c2]at hw ⊢;simp only[]at hP hN hW hE;cases b1 with
       |false=>
         rw[if_neg e5f];unfold Wn
         simp(disch:=try exact dq)only[tx,seval,Gc,hw,hM,c4,KQ 44 rfl,KQ 45 rfl,KQ 20 rfl,Fu (f:=45) rfl,Gm (f:=45) rfl,Gh,Gt,e6d,e5z,e6g,Ay,hP,hN,hW,hqa,Ca,C9,Gr,Cg,Cf,P0,B6,Bh,J3,Uf,Nj,htop,kb,ka,e6i]
       |true=>
         rw[if_pos rfl];unfold Wn;cases b2 with
         |false=>
           rw[if_neg e5f]
           simp(disch:=try exact dq)only[tx,seval,Gc,hw,hM,c4,KQ 44 rfl,KQ 45 rfl,KQ 20 rfl,KQ 46 rfl,Fu (f:=45) rfl,Gm (f:=45) rfl,Fu (f:=46) rfl,Gm (f:=46) rfl,Gh,Gt,e6d,e5z,e6g,Ay,hP,hN,hW,hE,hqa,Ca,C9,Gr,Cg,Cf,P0,B6,Bh,J3,Uf,Nj,htop,kb,ka,e6i]
         |true=>
           rw[if_pos rfl]
           simp(disch:=try exact dq)only[tx,seval,Gc,hw,hM,c4,KQ 44 rfl,KQ 45 rfl,KQ 20 rfl,KQ 46 rfl,Fu (f:=45) rfl,Gm (f:=45) rfl,Fu (f:=46) rfl,Gm (f:=46) rfl,Gh,Gt,e6d,e5z,e6g,Ay,hP,hN,hW,hE,hqa,Ca,C9,Gr,Cg,Cf,P0,B6,Bh,J3,Uf,Nj,htop,kb,ka,e6i]
theorem cz3(p:Pool)(hp:PoolT p)(Co:Bool) :
 Ev tab A7 A5 21 [.agg (Bg p),.bool Co,.emp] []=some (.tuple [.agg (Bg (Rc p Co ([]:List OldW)).1),.int .i64 (Rc p Co ([]:List OldW)).2],[]):=by
 refine Cv l21 rfl ?_;have hT:=b60 hp;have hw:=λH=>az8 p hp.b H;have hM:=λH=>a5v p.sets (by have:=hp.sets.1;omega) (λx hx=>⟨by have:=(hp.sets.2 x hx).1;omega,λn hn=>by have:=(hp.sets.2 x hx).2 n hn;omega⟩) H;have hla:=hp.last;unfold Rc;obtain⟨t,ht⟩:∃ t,t=Ip p:=⟨_,rfl⟩;rw[<-ht]at hT hw ⊢;by_cases c1:p.d.down=true
 ·rw[if_pos c1];unfold Bg at hw ⊢;simp only[c1]at hw ⊢
  simp(disch:=try exact dq)only[tx,seval,Gc,hw,Ca,C9,Gr,e6i]
 rw[if_neg c1];rw[e6a]at c1;by_cases c2:p.only=true
 ·rw[if_pos c2];unfold Bg at hw ⊢;simp only[c1,c2]at hw ⊢
  simp(disch:=try exact dq)only[tx,seval,Gc,hw,Ca,C9,Gr,e6i]
 rw[if_neg c2];rw[e6a]at c2;cases c3:Gb (els p.sets)with
 |false=>
   rw[c3]at hM;rw[if_pos rfl];unfold Bg at hw ⊢;simp only[c1,c2]at hw ⊢
   simp(disch:=try exact dq)only[tx,seval,Gc,hw,hM,Ca,C9,Gr,e6i]
 |true=>
   rw[c3]at hM;rw[if_neg (by simp)];by_cases c4:1073741824<=p.last
   ·rw[if_pos c4];unfold Bg at hw ⊢;simp only[c1,c2]at hw ⊢
    simp(disch:=try exact dq)only[tx,seval,Gc,hw,hM,c4,Ca,C9,Gr,e6i]
   rw[if_neg c4];have hP:=dx9 t hT.b hT.last hT.sets Co;cases hq:Qc t ([]:List OldW)with
   |none=>
     rw[hq]at hP;simp only[Rq,Rs,J2,Ku,e6k,e62,e6l]at hP;unfold Bg at hw hP ⊢;simp only[c1,c2]at hw ⊢
     simp(disch:=try exact dq)only[tx,seval,Gc,hw,hM,c4,KQ 44 rfl,Ay,hP,Ca,C9,Gr,e6i]
   |some q=>
     rw[hq]at hP;simp only[Rq,Rs,J2,Oi,e6k,e62,e6l]at hP;have htop:Cw AV.top=some .top:=rfl;have hqa:=(a9j hq (by decide)).at';have kb:List.take q.bl.length (q.bl.map a3x)=q.bl.map a3x:=F4 _ _;have ka:List.take q.bl.length (q.at'.map λx=>[PV.int .i64 x])=q.at'.map λx=>[PV.int .i64 x]:=e4h (by rw[e6i];omega);cases hb:(Co||decide (6<=Qr (Cy t q)))with
     |false=>
       rw[hb]at hP;simp only[];rw[hb,if_neg e5f];unfold Cy Bg at hP;unfold Bg at hw ⊢;simp only[c1,c2]at hw ⊢
       simp(disch:=try exact dq)only[tx,seval,Gc,hw,hM,c4,KQ 44 rfl,Ay,hP,Ca,C9,Gr,Cg,Cf,P0,B6,Bh,J3,Uf,Nj,htop,kb,ka,e6i]
     |true=>
       rw[hb]at hP;simp only[];rw[hb,if_pos rfl];have hqo:=a9j hq (by decide);have hh:=a9l hq (by decide) hT.sets;have hI:=a44 (a9k hq);have hg:=a7r hT.b hI.1 hI.2 q hh;have hN:=c3x (Cy t q) hg hT.seat hT.last q hqo;have hnb:=bs2 (Cy t q) q hqo;unfold b2c;obtain⟨n,hn⟩:∃ n,n=V4 (Cy t q) q:=⟨_,rfl⟩;have hnd:n.d=t.d:=(by rw[hn];rfl);rw[<-hn]at hN ⊢;generalize Ot (Cy t q) q=L at *;have hW:=a4l n (n:=10000) (by rw[hnd];exact hT.dev) om (some L) (by rw[Az];omega) hnb.2;rw[Az,Cx,hnd]at hW;have hwb:=a7f hT.dev L;generalize Fy t.d L=w at *;obtain⟨d1,b1⟩:=w;simp only[]at hW hwb ⊢;have hE:=c44 ⟨d1,n.at',n.r,n.s,n.seat,n.last,n.sets,n.only⟩ hwb om n.last n.r.guid n.seat n.at'.addr n.at'.birth n.at'.sum.a n.at'.sum.b n.at'.sum.c n.at'.sum.d;have hub:Wp n=⟨n.last,n.r.guid,n.seat,⟨n.at'.addr,n.at'.birth,⟨n.at'.sum.a,n.at'.sum.b,n.at'.sum.c,n.at'.sum.d⟩⟩⟩:=rfl;rw[<-hub]at hE;simp only[]at hE;generalize Vj d1 (Wp n)=w at *;obtain⟨d2,b2⟩:=w;simp only[]at hE ⊢;simp only[Oi,e58,e5w,e6f]at hN;obtain⟨BL,hBL⟩:∃ l,l=q.bl++[Uh (Cy t q),Un (Cy t q) q]:=⟨_,rfl⟩;obtain⟨AL,hAL⟩:∃ l,l=q.at'++q.rest:=⟨_,rfl⟩;rw[<-hBL,<-hAL]at hN;unfold Cy at hP hN;unfold Bg at hw hP hN hW hE ⊢;simp only[c1,c2]at hw ⊢;simp only[]at hP hN hW hE;cases b1 with
       |false=>
         rw[if_neg e5f];unfold Wn
         simp(disch:=try exact dq)only[tx,seval,Gc,hw,hM,c4,KQ 44 rfl,KQ 45 rfl,KQ 20 rfl,Fu (f:=45) rfl,Gm (f:=45) rfl,Gh,Gt,e6d,e5z,e6g,Ay,hP,hN,hW,hqa,Ca,C9,Gr,Cg,Cf,P0,B6,Bh,J3,Uf,Nj,htop,kb,ka,e6i]
       |true=>
         rw[if_pos rfl];unfold Wn;cases b2 with
         |false=>
           rw[if_neg e5f]
           simp(disch:=try exact dq)only[tx,seval,Gc,hw,hM,c4,KQ 44 rfl,KQ 45 rfl,KQ 20 rfl,KQ 46 rfl,Fu (f:=45) rfl,Gm (f:=45) rfl,Fu (f:=46) rfl,Gm (f:=46) rfl,Gh,Gt,e6d,e5z,e6g,Ay,hP,hN,hW,hE,hqa,Ca,C9,Gr,Cg,Cf,P0,B6,Bh,J3,Uf,Nj,htop,kb,ka,e6i]
         |true=>
           rw[if_pos rfl]
           simp(disch:=try exact dq)only[tx,seval,Gc,hw,hM,c4,KQ 44 rfl,KQ 45 rfl,KQ 20 rfl,KQ 46 rfl,Fu (f:=45) rfl,Gm (f:=45) rfl,Fu (f:=46) rfl,Gm (f:=46) rfl,Gh,Gt,e6d,e5z,e6g,Ay,hP,hN,hW,hE,hqa,Ca,C9,Gr,Cg,Cf,P0,B6,Bh,J3,Uf,Nj,htop,kb,ka,e6i]
theorem cx5{d:Dev}{p:Ptr}{v:ViewL}(h:Ze d p=some v):Gb v.sets=true/\(∀ q∈v.node,q.length=8)/\∀ q∈v.part,q.length=32:=by
 unfold Ze at h;split at h
 ·rename_i q hq;split at h
  ·rename_i hc;obtain⟨s,_,rfl⟩:=e4g.1 h;refine⟨hc.2,λl hl=>?_,λl hl=>?_⟩
   ·simp only[Zh,e7q,e7o]at hl;obtain⟨x,_,rfl⟩:=hl
    exact(bj1 d x).1
   ·simp only[Zh,e7q,e7o]at hl;obtain⟨x,_,rfl⟩:=hl
    exact(bj1 d x).2
  ·cases h
 ·cases h
theorem c43{α:Type}{l:List α}{j:Nat}{d:α}(h:j<l.length):l.getD j d∈l:=by
 rw[e42,e47 h];exact e63 _
theorem bp9{v:ViewL}(h1:Gb v.sets=true)(h2:∀ q∈v.node,q.length=8)(h3:∀ q∈v.part,q.length=32):∀ j,j<=v.sets.length->∀ o∈Hi v j,OldOk o
 |0,_,o,ho=>by cases ho
 |j+1,hj,o,ho=>by
   have ih:=bp9 h1 h2 h3 j om;rw[Hi]at ho;split at ho
   ·rename_i c;rw[e6m,e59]at ho;rcases ho with ho|rfl
    ·exact ih o ho
    ·have h8:=a47 h1 _ (Ie (show j<v.sets.length by omega));exact⟨h8.1,h8.2,h2 _ (c43 c.1.2),h3 _ (c43 c.2)⟩
   ·exact ih o ho
theorem bp8{l:List OldV}(h:∀ o∈l,Gb o.v.sets=true/\(∀ q∈o.v.node,q.length=8)/\∀ q∈o.v.part,q.length=32):∀ i,∀ o∈Bz l i,OldOk o
 |0,o,ho=>by cases ho
 |i+1,o,ho=>by
   have ih:=bp8 h i;rw[Bz]at ho;split at ho
   ·rename_i x hx;rw[e6m]at ho
    have:=h x (e4q hx);rcases ho with ho|ho
    ·exact ih o ho
    ·exact bp9 this.1 this.2.1 this.2.2 _ (e7y _) o ho
   ·exact ih o ho
def ovP(v:ViewL):OldV:=⟨v.r,Ax v.s.held,Ax v.s.one,Ax v.s.two,Ax v.s.kept,v⟩
def Q0(p:Pool)(Co:Bool):Pool×Int:=
 if p.d.down=true then(Ip p,13)else if p.only=true then(Ip p,11)else match Ze p.d p.at' with
  |none=>(Ip p,12)
  |some v=>Rc p Co (Bz [ovP v] 1)
theorem a7y(p:Pool)(hp:PoolT p)(hd:DevOk p.d)(Co:Bool)(H:AH):K tab A7 A5 6 [.agg (Bg p),.bool Co] H=some (.tuple [.agg (Bg (Q0 p Co).1),.int .i64 (Q0 p Co).2],H):=by
 refine Ae l6 rfl (by simp only[Aa,Ab,Yg,e7c]) (by simp only[Aa,Ab,Yg,e7c]) ?_ H;have hw:=λH=>az8 p hp.b H;have hW:=λH=>cx3 p.d hd p.at' H;unfold Q0;cases hv:Ze p.d p.at' with
 |none=>
   unfold Zd at hW;rw[hv]at hW;simp only[Zj]at hW;by_cases c1:p.d.down=true
   ·rw[if_pos c1];unfold Bg at hw ⊢;simp only[c1]at hw hW ⊢
    simp(disch:=try exact dq)only[tx,seval,g6,hw,hW]
   rw[if_neg c1];rw[e6a]at c1;by_cases c2:p.only=true
   ·rw[if_pos c2];unfold Bg at hw ⊢;simp only[c1,c2]at hw hW ⊢
    simp(disch:=try exact dq)only[tx,seval,g6,hw,hW]
   rw[if_neg c2];rw[e6a]at c2;unfold Bg at hw ⊢;simp only[c1,c2]at hw hW ⊢
   simp(disch:=try exact dq)only[tx,seval,g6,hw,hW]
 |some v=>
   unfold Zd at hW;rw[hv]at hW;simp only[Nh,Eb]at hW;have ho:=cx5 hv;have hT:=cz2 [ovP v] (by simp) (λo h=>by obtain rfl:=e59.1 h;exact a45 ho.1) (bp8 (λo h=>by obtain rfl:=e59.1 h;exact ho) 1) p hp Co;by_cases c1:p.d.down=true
   ·rw[if_pos c1];unfold Bg at hw ⊢;simp only[c1]at hw hW ⊢
    simp(disch:=try exact dq)only[tx,seval,g6,hw,hW]
   rw[if_neg c1];rw[e6a]at c1;by_cases c2:p.only=true
   ·rw[if_pos c2];unfold Bg at hw ⊢;simp only[c1,c2]at hw hW ⊢
    simp(disch:=try exact dq)only[tx,seval,g6,hw,hW]
   rw[if_neg c2];rw[e6a]at c2;simp only[];have hlen:[ovP v].length=1:=rfl;rw[hlen]at hT;generalize Rc p Co (Bz [ovP v] 1)=r at *;obtain⟨p2,e⟩:=r;simp only[e75,e7k,Ff,ovP,Nh,Eb,e5w,e6f,e7p]at hT;unfold Bg at hT ⊢;simp only[c1,c2]at hT hW ⊢
   simp(disch:=try exact dq)only[tx,seval,g6,hW,KQ 21 rfl,Ay,hT]
def a40:Dset:=⟨1,1,0,0,some Hx⟩
def Yd(data guid:Int):List (Int×Bytes):=[(Df data 0,J7 guid data),(Df data 1,J7 guid data),(Df data 2,J7 guid data),(Df data 3,J7 guid data)]
def Xe(d:Dev)(guid:Int):Pool:=⟨d,Bt,⟨0,2,guid,Bt,Bt,Bt,0⟩,⟨none,none,none,none⟩,0,0,some [a40],false⟩
def b49:Pool:=⟨⟨none,none,0,0,false⟩,Bt,⟨0,0,0,Bt,Bt,Bt,0⟩,⟨none,none,none,none⟩,0,0,none,false⟩
def Ik(data guid:Int):Pool×Bool:=
 if J7 guid data=[]then(b49,false)else
 match Rc (Xe (Fy (Qh (28+data)) (Yd data guid)).1 guid) true ([]:List OldW)with
 |(q,e)=>if e=0 then(q,true)else(b49,false)
theorem e1b(guid data:Int):(J7 guid data).length<=1000000:=by
 unfold J7 Wz;split
 ·simp only[e58,Fc _ _ (show([4,4,4,4]:List Nat).length=(a36 (Ck (B5 [1,4,2] [172,guid,data]))).length from rfl),Fc _ _ (show([1,4,2]:List Nat).length=[172,guid,data].length from rfl),U8];simp
 ·exact e7w _
theorem d64(n:Int)(h:n<=1000):DevB (Qh n) 0:=by
 unfold Qh;refine⟨?_,e7w _,?_,λq hq=>by simp[els]at hq,show(0:Int)<=1000000000000 by decide,show(-1000000000000:Int)<=0 by decide,show(0:Int)<=1000000000000 by decide⟩
 ·split
  ·exact e7w _
  ·rw[Az,e4n];omega
 ·split
  ·intro s hs;simp[els]at hs
  ·rw[Az];intro s hs;rw[(List.mem_replicate.1 hs).2,U8];decide
theorem d3e{d:Dev}(h:DevB d 10000)(guid:Int):PoolT (Xe d guid):=by
 have hn:SetsOk [a40]:=⟨by decide,λx hx=>by obtain rfl:=e59.1 hx;exact⟨by decide,by decide⟩⟩;refine⟨⟨h.last,e7n h.wait (by decide),e7w _,e7w _,e7w _,e7w _,show 1<=1000 by decide,λx hx=>?_⟩,h,show(-1000000000:Int)<=0/\(0:Int)<=1000000000 by decide,show(-1000000000000:Int)<=0/\(0:Int)<=1000000000000 by decide,hn⟩;obtain rfl:=e59.1 hx;decide
theorem a1m(data guid:Int)(H:AH):K tab A7 A5 5 [.int .i64 data,.int .i64 guid] H=some (.tuple [.agg (Bg (Ik data guid).1),.bool (Ik data guid).2],H):=by
 refine Ae l5 rfl rfl (by simp only[Aa,Ab,Yg,e7c]) ?_ H;have hcf:=λH=>e19 guid data H;unfold Ik;by_cases c:J7 guid data=[]
 ·rw[if_pos c];rw[c]at hcf;unfold Bg
  simp(disch:=try exact dq)only[tx,seval,g5,hcf];rfl
 rw[if_neg c];have hd:40<=data/\data<=240:=by
  unfold J7 Ei at c;simp only[e5v,e5h]at c;by_cases q:((0<=guid/\guid<=1073741824)/\40<=data/\data<=240)
  ·exact q.2
  ·rw[if_neg q]at c;exact absurd rfl c
 have hcl:=e1b guid data;have hnw:=λH=>e0x (28+data) om om H;have ha0:=λH=>a68 (orc:=A7) (lk:=A5) data 0 H;have ha1:=λH=>a68 (orc:=A7) (lk:=A5) data 1 H;have ha2:=λH=>a68 (orc:=A7) (lk:=A5) data 2 H;have ha3:=λH=>a68 (orc:=A7) (lk:=A5) data 3 H;have hdv:=d64 (28+data) om;have hwr:=a4l (Xe (Qh (28+data)) guid) hdv (by decide) (some (Yd data guid)) (show 4<=40000 by decide) (λq hq=>by
  simp only[Yd,Az,e79,e61,or_false]at hq;rcases hq with rfl|rfl|rfl|rfl<;>exact hcl)
 have hdb:=a7f hdv (Yd data guid);have htu:=cz3 (Xe (Fy (Qh (28+data)) (Yd data guid)).1 guid) (d3e ⟨hdb.last,e7n hdb.wait (show 0+4<=10000 by decide),hdb.sec,hdb.put,hdb.arm,hdb.lies⟩ guid) true;have hns:=λH=>Xl H;rw[Az,show(Xe (Qh (28+data)) guid).d=Qh (28+data)from rfl]at hwr;generalize Fy (Qh (28+data)) (Yd data guid)=G at *;obtain⟨d1,b1⟩:=G;simp only[]at hwr htu ⊢;generalize Rc (Xe d1 guid) true ([]:List OldW)=T at *;obtain⟨q,e⟩:=T;simp only[Yd]at hwr;generalize J7 guid data=CB at *;generalize Df data 0=a0 at *;generalize Df data 1=a1 at *;generalize Df data 2=a2 at *;generalize Df data 3=a3 at *;generalize hd0:Qh (28+data)=d0 at *;have hps:Kt Ao (some Hx)=.fz (Hx.map Ao):=rfl;have hw1:IntKind.i64.wrap 1=1:=by decide
 have hw2:IntKind.i64.wrap 2=2:=by decide
 have hw3:IntKind.i64.wrap 3=3:=by decide
 have hw4:IntKind.i64.wrap 4=4:=by decide
 have hc8:(Hx.map C4).length=8:=by decide
 have ht8:List.take 8 (Hx.map Ao)=Hx.map Ao:=rfl;have hz:((UInt32.toNat 0:Nat):Int)=0:=rfl;simp only[Bg,Xe,a40,Bt,P9,Cx,e75,e7k,B2,B7,hps,hz]at hwr htu ⊢;simp only[Ju]at hnw
 simp(disch:=try exact dq)only[tx,seval,g5,e74,hcf,hnw,hns,hc8,Dk,Ed,Qq,Py,ht8];generalize hr:Ai _ _ _=r;refine Nz (Q:=λr=>Dv _ _ _ (Cn _ _ (Nc _ _ (C2 _ r)))=_) hr ?_;clear hr r
 simp(disch:=try exact dq)only[tx,seval,hw1,hw2,hw3,hw4,ha0];generalize hr:Ai _ _ _=r;refine Nz (Q:=λr=>Dv _ _ _ (Cn _ _ (Nc _ _ (C2 _ r)))=_) hr ?_;clear hr r
 simp(disch:=try exact dq)only[tx,seval,hw1,hw2,hw3,hw4,ha1];generalize hr:Ai _ _ _=r;refine Nz (Q:=λr=>Dv _ _ _ (Cn _ _ (Nc _ _ (C2 _ r)))=_) hr ?_;clear hr r
 simp(disch:=try exact dq)only[tx,seval,hw1,hw2,hw3,hw4,ha2];generalize hr:Ai _ _ _=r;refine Nz (Q:=λr=>Dv _ _ _ (Cn _ _ (Nc _ _ (C2 _ r)))=_) hr ?_;clear hr r
 simp(disch:=try exact dq)only[tx,seval,hw1,hw2,hw3,hw4,ha3];generalize hr:Ai _ _ _=r;refine a4b (Q:=λr=>Dv _ _ _ (Cn _ _ (Nc _ _ (C2 _ r)))=_) hr ?_;clear hr r;by_cases he:e=0
 ·simp only[he]at htu ⊢
  simp(disch:=try exact dq)only[tx,seval,hw1,hw2,hw3,hw4,e7f,hwr,htu,M1,Ly,Lz,M0,KQ 20 rfl,Fu (f:=20) rfl,Gm (f:=20) rfl,Gh,Gt,Ay,KQ 21 rfl,e6d,e5z,e6g]
 ·simp only[if_neg he]
  simp(disch:=try exact dq)only[tx,seval,hw1,hw2,hw3,hw4,e7f,hwr,htu,M1,Ly,Lz,M0,KQ 20 rfl,Fu (f:=20) rfl,Gm (f:=20) rfl,Gh,Gt,Ay,KQ 21 rfl,e6d,e5z,e6g];simp only[e6q he,e6y,if_true];rfl
def a8h(x y:Dset):Bool:=decide (x.id=y.id)&&decide (x.kind=y.kind)&&decide (x.origin=y.origin)&&decide (x.quota=y.quota)&&decide (els x.files=els y.files)
def Tg:List Dset->List Dset->Bool
 |[],[]=>true
 |x::l,y::m=>a8h x y&&Tg l m
 |_,_=>false
theorem d61(l m:Sl Node)(hl:(els l).length<=1000000)(hm:(els m).length<=1000000)(H:AH):K tab A7 A5 69 [A4 Ao l,A4 Ao m] H=some (.bool (decide (els l=els m)),H):=by
 refine Ae l69 rfl (by simp[Aa,Ab,Ak]) rfl ?_ H
 simp(disch:=try exact dq)only[tx,seval,g69,e0k]
theorem e0o(x y:Dset)(hx:(els x.files).length<=1000000)(hy:(els y.files).length<=1000000)(H:AH):K tab A7 A5 68 [.agg [.int .i64 x.id,.int .i64 x.kind,.int .i64 x.origin,.int .i64 x.quota,A4 Ao x.files],.agg [.int .i64 y.id,.int .i64 y.kind,.int .i64 y.origin,.int .i64 y.quota,A4 Ao y.files]] H=some (.bool (a8h x y),H):=by
 refine Ae l68 rfl (by simp[Aa,Ab,Ak]) rfl ?_ H
 simp(disch:=try exact dq)only[tx,seval,g68,d61];unfold a8h;simp only[Bool.decide_eq_true]
theorem e0l(l m:Sl Dset)(hl:(els l).length<=1000000)(hm:(els m).length<=1000000)(hfl:∀ x∈els l,(els x.files).length<=1000000)(hfm:∀ x∈els m,(els x.files).length<=1000000)(H:AH) :
 K tab A7 A5 67 [A4 B7 l,A4 B7 m,.fn (.func 68) [] []] H=some (.bool (Tg (els l) (els m)),H):=by
 refine Ae l67 rfl (by simp[Aa,Ab,Ak]) rfl ?_ H;by_cases c:((els l).length:Int)=(els m).length
 ·simp(disch:=try exact dq)only[tx,seval,g67,c];generalize hr:Ai _ _ _=r;refine Bb hr (els l).length (λj=>[.top,A4 B7 m,.fn (.func 68) [] [],.top,.top,.top,.top,A4 B7 l,.int .i64 (els m).length,.int .i64 j,.top,.top,.top,.top])
   (λj=>[]) (λj=>Tg (els l) (els m)=Tg ((els l).drop j) ((els m).drop j)) rfl rfl rfl ?_ ?_
  ·intro j hj hI;have hj':((j:Int)<((els l).length:Int)):=om;have hj':((j:Int)<((els m).length:Int)):=om;rw[Gd hj,Gd (show j<(els m).length by omega),Tg]at hI;have hn:=λH=>e0o ((els l).getD j default) ((els m).getD j default) (hfl _ (Ie hj)) (hfm _ (Ie (show j<(els m).length by omega))) H;generalize hx:(els l).getD j default=x at *;generalize hy:(els m).getD j default=y at *
   simp(disch:=try exact dq)only[tx,seval,hj',Bl,B7,e74,hx,hy,hn];cases hs:a8h x y with
   |true=>
     rw[hs]at hI;simp only[e77]at hI;simp[hI]
   |false=>
     rw[hs]at hI;simp only[e71]at hI;simp[hI]
  ·intro hI;rw[e69,e4i om]at hI
   simp(disch:=try exact dq)only[tx,seval,e7f,c,hI];rfl
 ·simp(disch:=try exact dq)only[tx,seval,g67,c];have h:∀ l m:List Dset,l.length≠m.length->Tg l m=false:=by
   intro l
   induction l with
   |nil=>intro m h;cases m with
     |nil=>exact absurd rfl h
     |cons=>rfl
   |cons x l ih=>intro m h;cases m with
     |nil=>rfl
     |cons y m=>rw[Tg,ih m (by simpa using h),e70]
  rw[h _ _ om]
theorem e0n(l m:Sl Dset)(hl:(els l).length<=1000000)(hm:(els m).length<=1000000)(hfl:∀ x∈els l,(els x.files).length<=1000000)(hfm:∀ x∈els m,(els x.files).length<=1000000)(H:AH) :
 K tab A7 A5 37 [A4 B7 l,A4 B7 m] H=some (.bool (Tg (els l) (els m)),H):=by
 refine Ae l37 rfl (by simp[Aa,Ab,Ak]) rfl ?_ H
 simp(disch:=try exact dq)only[tx,seval,g37,e0l l m hl hm hfl hfm]
def b20(s t:Space):Bool:=decide (els s.held=els t.held)&&decide (els s.one=els t.one)&&decide (els s.two=els t.two)&&decide (els s.kept=els t.kept)
theorem d19(s t:Space)(hs:(els s.held).length<=1000000/\(els s.one).length<=1000000/\(els s.two).length<=1000000/\(els s.kept).length<=1000000)(ht:(els t.held).length<=1000000/\(els t.one).length<=1000000/\(els t.two).length<=1000000/\(els t.kept).length<=1000000)(H:AH) :
 K tab A7 A5 36 [.agg [A4 A8 s.held,A4 A8 s.one,A4 A8 s.two,A4 A8 s.kept],.agg [A4 A8 t.held,A4 A8 t.one,A4 A8 t.two,A4 A8 t.kept]] H=some (.bool (b20 s t),H):=by
 refine Ae l36 rfl (by simp[Aa,Ab,Ak]) rfl ?_ H;have h1:=λH=>a87 s H;have h2:=λH=>a87 t H;obtain⟨s1,s2,s3,s4⟩:=hs;obtain⟨t1,t2,t3,t4⟩:=ht;have e1:=λH=>a84 s.held t.held s1 t1 H;have e2:=λH=>a84 s.one t.one s2 t2 H;have e3:=λH=>a84 s.two t.two s3 t3 H;have e4:=λH=>a84 s.kept t.kept s4 t4 H;have hw1:IntKind.i64.wrap 1=1:=by decide
 have hw2:IntKind.i64.wrap 2=2:=by decide
 have hw3:IntKind.i64.wrap 3=3:=by decide
 have hw4:IntKind.i64.wrap 4=4:=by decide
 unfold b20
 simp(disch:=try exact dq)only[tx,seval,g36,h1,h2];generalize decide (els s.held=els t.held)=b1 at *;generalize decide (els s.one=els t.one)=b2 at *;generalize decide (els s.two=els t.two)=b3 at *;generalize decide (els s.kept=els t.kept)=b4 at *;generalize hr:Ai _ _ _=r;refine Nz (Q:=λr=>Dv _ _ _ (Cn _ _ (C2 _ r))=_) hr ?_;clear hr r;cases b1 with
 |false=>simp(disch:=try exact dq)only[tx,seval,e1]
 |true=>
 simp(disch:=try exact dq)only[tx,seval,e1,hw1];generalize hr:Ai _ _ _=r;refine Nz (Q:=λr=>Dv _ _ _ (Cn _ _ (C2 _ r))=_) hr ?_;clear hr r;cases b2 with
 |false=>simp(disch:=try exact dq)only[tx,seval,e2]
 |true=>
 simp(disch:=try exact dq)only[tx,seval,e2,hw2];generalize hr:Ai _ _ _=r;refine Nz (Q:=λr=>Dv _ _ _ (Cn _ _ (C2 _ r))=_) hr ?_;clear hr r;cases b3 with
 |false=>simp(disch:=try exact dq)only[tx,seval,e3]
 |true=>
 simp(disch:=try exact dq)only[tx,seval,e3,hw3];generalize hr:Ai _ _ _=r;refine Nz (Q:=λr=>Dv _ _ _ (Cn _ _ (C2 _ r))=_) hr ?_;clear hr r;cases b4 with
 |false=>simp(disch:=try exact dq)only[tx,seval,e4]
 |true=>
 simp(disch:=try exact dq)only[tx,seval,e4,hw4];generalize hr:Ai _ _ _=r;refine a4b (Q:=λr=>Dv _ _ _ (Cn _ _ (C2 _ r))=_) hr ?_;clear hr r
 simp(disch:=try exact dq)only[tx,seval,e7f]
def a5r(p q:Ptr):Bool:=decide (p.addr=q.addr)&&decide (p.birth=q.birth)&&decide ((p.sum.a.toNat:Int)=q.sum.a.toNat)&&decide ((p.sum.b.toNat:Int)=q.sum.b.toNat)&&decide ((p.sum.c.toNat:Int)=q.sum.c.toNat)&&decide ((p.sum.d.toNat:Int)=q.sum.d.toNat)
def c62(p q:Root):Bool:=decide (p.txg=q.txg)&&decide (p.next=q.next)&&decide (p.guid=q.guid)&&a5r p.table q.table&&a5r p.space q.space&&a5r p.kept q.kept&&decide (p.keptTxg=q.keptTxg)
def c66(d e:Dev):Bool:=decide (els d.last=els e.last)&&decide (els d.wait=els e.wait)&&decide (d.lies=e.lies)&&decide (d.arm=e.arm)&&(d.down==e.down)
def a8g(p q:Pool):Bool:=c66 p.d q.d&&a5r p.at' q.at'&&c62 p.r q.r&&b20 p.s q.s&&decide (p.seat=q.seat)&&decide (p.last=q.last)&&Tg (els p.sets) (els q.sets)&&(p.only==q.only)
structure PoolC(p:Pool):Prop where
 last:(els p.d.last).length<=1000000
 wait:(els p.d.wait).length<=1000000
 held:(els p.s.held).length<=1000000
 one:(els p.s.one).length<=1000000
 two:(els p.s.two).length<=1000000
 kept:(els p.s.kept).length<=1000000
 sets:(els p.sets).length<=1000000
 files:∀ x∈els p.sets,(els x.files).length<=1000000
theorem bm2(p q:Pool)(hp:PoolC p)(hq:PoolC q)(H:AH):K tab A7 A5 15 [.agg (Bg p),.agg (Bg q)] H=some (.bool (a8g p q),H):=by
 refine Ae l15 rfl (by simp only[Aa,Ab,Yg,e7c]) rfl ?_ H;obtain⟨p1,p2,p3,p4,p5,p6,p7,p8⟩:=hp;obtain⟨q1,q2,q3,q4,q5,q6,q7,q8⟩:=hq;have h1:=λH=>e0h p.d.last q.d.last p1 q1 H;have h2:=λH=>e0j p.d.wait q.d.wait p2 q2 H;have h3:=λH=>d19 p.s q.s ⟨p3,p4,p5,p6⟩ ⟨q3,q4,q5,q6⟩ H;have h4:=λH=>e0n p.sets q.sets p7 q7 p8 q8 H;unfold Bg a8g c66 c62 a5r
 simp(disch:=try exact dq)only[tx,seval,g15,h1,h2,h3,h4];simp only[Bool.decide_eq_true,Bool.and_assoc]
theorem d0n(t:Bytes):(B0 Dl t).map D5=[[.int .i64 (Er (B0 Dl t)).addr],[.int .i64 (Er (B0 Dl t)).birth],[.int .i64 (Er (B0 Dl t)).sum.a.toNat],[.int .i64 (Er (B0 Dl t)).sum.b.toNat],[.int .i64 (Er (B0 Dl t)).sum.c.toNat],[.int .i64 (Er (B0 Dl t)).sum.d.toNat]]:=by
 have b4:∀ x:Bytes,0<=B4 (x.take 4)/\B4 (x.take 4)<4294967296:=by
  intro x;refine⟨Rb _,?_⟩;have h1:=Zk (x.take 4);have h2:(2:Int) ^ (8*(x.take 4).length)<=2 ^ 32:=by
   have h3:(x.take 4).length<=4:=by rw[e67];omega
   rcases(by omega:(x.take 4).length=0\/(x.take 4).length=1\/(x.take 4).length=2\/(x.take 4).length=3\/(x.take 4).length=4)with e|e|e|e|e<;>rw[e]<;>decide
  omega
 simp only[Dl,B0,Er,e75,e7k,D5];rw[Ue (b4 _).1 (b4 _).2,Ue (b4 _).1 (b4 _).2,Ue (b4 _).1 (b4 _).2,Ue (b4 _).1 (b4 _).2]
theorem b4t(x:UInt32):IntKind.u32.wrap (x.toNat:Int)=(x.toNat:Int):=IntWalk.u32_in _ (by have:=x.toNat_lt;omega)
theorem d0i(s:Bytes)(hs:s.length<=1000000)(H:AH):K tab A7 A5 26 [.str s,.int .i64 1] H=some (Nk 1 s,H):=by
 refine Ae l26 rfl rfl (by unfold Nk;split<;>rfl) ?_ H;have t1:=λH=>b8v (orc:=A7) (lk:=A5) [50,52,52,52,52,52] (by decide) s H;unfold He at t1;rw[av0]at t1;unfold Nk Fm Ui
 simp(disch:=try exact dq)only[tx,seval,g26];generalize hr:Ai _ _ _=r;refine Nz (Q:=λr=>Dv _ _ _ (Cn _ _ (C2 _ r))=_) hr ?_;clear hr r;by_cases h:22<=s.length
 ·rw[if_pos h]at t1;simp only[]at t1;rw[d0n]at t1;simp only[h,e83];generalize Er (B0 Dl s)=p at *;have hm:=λH=>b0k (orc:=A7) p.addr p.birth p.sum.a p.sum.b p.sum.c p.sum.d H;rw[Sq]at hm;cases hq:Ct p with
  |false=>
    rw[hq]at hm
    simp(disch:=try exact dq)only[tx,seval,t1,Fg,b4t,hm]
  |true=>
    rw[hq]at hm
    simp(disch:=try exact dq)only[tx,seval,t1,Fg,b4t,hm];generalize hr:Ai _ _ _=r;refine a4b (Q:=λr=>Dv _ _ _ (Cn _ _ (C2 _ r))=_) hr ?_;clear hr r
    simp(disch:=try exact dq)only[tx,seval,e7f];simp only[Fm];rfl
 ·rw[if_neg h]at t1;simp only[h,false_and,if_false]
  simp(disch:=try exact dq)only[tx,seval,t1]
def au6(s:Bytes):Option Uber:=match Fo [49,52,52,49] s with
 |some ([_,a,b,c],r)=>match Fm 1 r with
   |some ([p],_)=>if Q6 ⟨a,b,c,p⟩=s then some ⟨a,b,c,p⟩else none
   |_=>none
 |_=>none
def au5(o:Option Uber):AV:=match o with
 |some u=>.tuple [.agg [.int .i64 u.txg,.int .i64 u.guid,.int .i64 u.seat,.int .i64 u.root.addr,.int .i64 u.root.birth,.int .u32 u.root.sum.a.toNat,.int .u32 u.root.sum.b.toNat,.int .u32 u.root.sum.c.toNat,.int .u32 u.root.sum.d.toNat],.bool true]
 |none=>.tuple [.agg [.int .i64 0,.int .i64 0,.int .i64 0,.int .i64 0,.int .i64 0,.int .u32 0,.int .u32 0,.int .u32 0,.int .u32 0],.bool false]
theorem a7w(s:Bytes)(hs:s.length<=1000000)(H:AH):K tab A7 A5 9 [.str s] H=some (au5 (au6 s),H):=by
 refine Ae l9 rfl rfl (by unfold au5;split<;>rfl) ?_ H;have t1:=λH=>b8v (orc:=A7) (lk:=A5) [49,52,52,49] (by decide) s H;have e1:Fo [49,52,52,49] s=if 10<=s.length then some (B0 [1,4,4,1] s,s.drop 10)else none:=rfl;unfold He at t1;unfold au6;rw[e1]at t1 ⊢;by_cases h3:10<=s.length
 ·rw[if_pos h3]at t1 ⊢;have hL:B0 [1,4,4,1] s=[B4 (s.take 1),B4 ((s.drop 1).take 4),B4 ((s.drop 5).take 4),B4 ((s.drop 9).take 1)]:=by simp[B0,e6v]
  rw[hL]at t1 ⊢;simp only[e75,e7k,D5]at t1;simp only[];have hd:(s.drop 10).length=s.length-10:=e60;generalize B4 ((s.drop 9).take 1)=c at *;generalize B4 ((s.drop 5).take 4)=b at *;generalize B4 ((s.drop 1).take 4)=a at *;generalize B4 (s.take 1)=z at *;generalize s.drop 10=r at *;have t2:=λH=>d0i r om H;unfold Nk at t2;cases hp:Fm 1 r with
  |none=>
    rw[hp]at t2
    simp(disch:=try exact dq)only[tx,seval,g9,t1,t2,Fg];rfl
  |some q=>
    obtain⟨l,w⟩:=q;rw[hp]at t2;obtain⟨hr,_,hl⟩:=a35 hp;obtain⟨p,rfl⟩:∃ p,l=[p]:=by
     match l,hl with
     |[p],_=>exact⟨p,rfl⟩
    simp only[e75,e7k,Al]at t2 ⊢;obtain⟨pa,pb,⟨s1,s2,s3,s4⟩⟩:=p;have hu:=λH=>d2r (orc:=A7) a b c pa pb s1 s2 s3 s4 H;by_cases hE:Q6 ⟨a,b,c,⟨pa,pb,⟨s1,s2,s3,s4⟩⟩⟩=s
    ·simp(disch:=try exact dq)only[tx,seval,g9,t1,t2,hu,hE,Fg];rfl
    ·rw[if_neg hE]
     simp(disch:=try exact dq)only[tx,seval,g9,t1,t2,hu,hE,Fg];rfl
 ·rw[if_neg h3]at t1 ⊢
  simp(disch:=try exact dq)only[tx,seval,g9,t1];rfl
def a8s(d:Dev)(i:Int):Bytes×Bool:=
 if d.down=true\/i<0\/((els d.last).length:Int)<=i then([],false)
 else((els d.wait).foldl (λa p=>if p.1=i then p.2 else a) ((els d.last).getD i.toNat default),true)
theorem a8r(d:Dev)(h1:(els d.last).length<=1000000)(h2:(els d.wait).length<=1000000)(i:Int)(H:AH):K tab A7 A5 7 [.agg [A4 B1 d.last,A4 B2 d.wait,.int .i64 d.lies,.int .i64 d.arm,.bool d.down],.int .i64 i] H=some (.tuple [.str (a8s d i).1,.bool (a8s d i).2],H):=by
 refine Ae l7 rfl (by simp[Aa,Ab,Ak]) rfl ?_ H;unfold a8s;by_cases c:d.down=true\/i<0\/((els d.last).length:Int)<=i
 ·rw[if_pos c]
  simp(disch:=try exact dq)only[tx,seval,g7];rw[if_pos (by simp only[e6n,e5h,Bool.decide_eq_true];rcases c with c|c|c<;>simp[c])]
 ·rw[if_neg c];have c1:d.down=false:=by cases hd:d.down with
   |true=>exact absurd (Or.inl hd) c
   |false=>rfl
  have c2:¬ i<0:=λh=>c (Or.inr (Or.inl h));have c3:¬ ((els d.last).length:Int)<=i:=λh=>c (Or.inr (Or.inr h));have c4:0<=i:=om;have c5:i<((els d.last).length:Int):=om;generalize hs0:(els d.last).getD i.toNat default=s0 at *
  simp(disch:=try exact dq)only[tx,seval,g7,c1,c2,c3,c4,c5,hs0,B1];generalize hr:Ai _ _ _=r;refine Bb hr (els d.wait).length (λj=>[.top,.int .i64 i,.ptr 0 0 0 1,.top,.top,.str (((els d.wait).take j).foldl (λa p=>if p.1=i then p.2 else a) s0),.int .i64 j])
   (λj=>[some [[A4 B1 d.last,A4 B2 d.wait,.int .i64 d.lies,.int .i64 d.arm,.bool false]]]) (λj=>True) ?_ ?_ trivial ?_ ?_
  ·rfl
  ·rfl
  ·intro j hj _;have hj':((j:Int)<((els d.wait).length:Int)):=om;rw[Dd hj,List.foldl_append,e6j,List.foldl_nil];generalize hx:(els d.wait).getD j default=x at *
   generalize ((els d.wait).take j).foldl (λa p=>if p.1=i then p.2 else a) s0=a at *
   simp(disch:=try exact dq)only[tx,seval,hj',Bl,B2,e74,hx];refine⟨λh=>by rw[if_pos h];rfl,λh=>by rw[if_neg h];rfl⟩
  ·intro _
   simp(disch:=try exact dq)only[tx,seval,e7f,e68]
def Ss(p:Pool):Bool:=decide ((els p.d.last).length<=1000)&&decide ((els p.d.wait).length<=1000)&&(els p.d.last).all (λs=>decide (s.length<=256))&&(els p.d.wait).all (λq=>decide (q.2.length<=256))&&decide (p.d.arm<=1000)&&decide (-1000<=p.d.lies)&&decide (p.d.lies<=1000)&&decide (-1000<=p.seat)&&decide (p.seat<=1000)&&decide (-1000000000000<=p.last)&&decide (p.last<=1000000000000)&&decide ((els p.s.held).length<=500)&&decide ((els p.s.one).length<=500)&&decide ((els p.s.two).length<=500)&&decide ((els p.s.kept).length<=500)&&decide ((els p.sets).length<=1000)&&(els p.sets).all (λx=>decide ((els x.files).length<=1000)&&(els x.files).all (λn=>decide (n.name.length<=1000)))
theorem Xd{p:Pool}(h:Ss p=true):PoolT p/\DevOk p.d/\PoolC p:=by
 unfold Ss at h;simp only[e5v,e5h,e5x]at h;obtain⟨⟨⟨⟨⟨⟨⟨⟨⟨⟨⟨⟨⟨⟨⟨⟨h1,h2⟩,h3⟩,h4⟩,h5⟩,h6⟩,h7⟩,h8⟩,h9⟩,Va⟩,h11⟩,S4⟩,h13⟩,h14⟩,h15⟩,T6⟩,h17⟩:=h;refine⟨⟨⟨by omega,by omega,S4,h13,h14,h15,T6,λx hx=>(h17 x hx).1⟩,⟨by omega,by omega,λs hs=>e7n (h3 s hs) (by decide),λq hq=>e7n (h4 q hq) (by decide),by omega,by omega⟩,by omega,by omega,T6,λx hx=>h17 x hx⟩,⟨h1,by omega,h3,h4⟩,⟨by omega,by omega,by omega,by omega,by omega,by omega,by omega,λx hx=>by have:=(h17 x hx).1;omega⟩⟩
def bP:Pool:=(Ik 40 7).1
def bX:Pool×Int:=Q0 bP false
def bCk:Bool:=(Ik 40 7).2&&!(Ik 39 7).2&&decide (bP.last=1)&&decide (bP.seat=1)&&decide (((els bP.sets).length:Int)=1)&&decide (bX.2=0)&&decide (bX.1.last=2)&&decide (bX.1.r.txg=2)&&a8g bP bP&&!a8g bP bX.1&&decide (Qr bP=35)&&Ss bP&&Ss bX.1
theorem e2n:bCk=true:=by decide +kernel
theorem e2i(H:AH):K tab A7 A5 4 [] H=some (.bool true,H):=by
 refine Ae l4 rfl rfl rfl ?_ H;have hk:=e2n;unfold bCk at hk;simp only[e5v,e5h,e5n]at hk;obtain⟨⟨⟨⟨⟨⟨⟨⟨⟨⟨⟨⟨k1,k2⟩,k3⟩,k4⟩,k5⟩,k6⟩,k7⟩,k8⟩,k9⟩,k10⟩,k11⟩,k12⟩,k13⟩:=hk;have c1:=λH=>a1m 40 7 H;have c2:=λH=>a1m 39 7 H;rw[k1]at c1;rw[k2]at c2;obtain⟨t1,t2,t3⟩:=Xd k12;obtain⟨u1,u2,u3⟩:=Xd k13;have hs:=λH=>a7y bP t1 t2 false H;have hs1:Q0 bP false=bX:=rfl;have hb1:(Ik 40 7).1=bP:=rfl;rw[hs1,k6]at hs;rw[hb1]at c1;have e1:=λH=>bm2 bP bP t3 t3 H;have e2:=λH=>bm2 bP bX.1 t3 u3 H;have hf:=λH=>a3w bP t1.b H;rw[k9]at e1;rw[k10]at e2;rw[k11]at hf
 generalize (Ik 39 7).1=Z at *;generalize bX.1=x at *;generalize bP=p at *;clear hs1 hb1;unfold Bg at c1 c2 hs e1 e2 hf;simp only[k3,k4,k7,k8]at c1 hs e1 e2 hf
 simp(disch:=try exact dq)only[tx,seval,g4,c1,c2,hs,e1,e2,hf,k5]
end Go.Proofs.YtbngojdlgfhacaaGreatDoor.Abs
