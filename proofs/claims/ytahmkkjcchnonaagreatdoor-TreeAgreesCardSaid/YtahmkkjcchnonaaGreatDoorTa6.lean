/-
  Part 6 of the proof: no condition. (Parts of the abstract layer, of the program's functions in its form, and of their contracts.)
-/
import Derived.Test.YtahmkkjcchnonaaGreatDoorTa5
import Derived.KernelRfl
set_option maxRecDepth 100000
set_option maxHeartbeats 8000000
set_option linter.unusedSimpArgs false
set_option linter.unusedVariables false
set_option linter.unusedSectionVars false
namespace Go.Proofs.YtahmkkjcchnonaaGreatDoor.Abs
theorem b6p(v:ViewL)(s:Space)(H:AH):K tab A5 A4 9 [.agg (Fb v.r (A0 A6 s.held) (A0 A6 s.one) (A0 A6 s.two) (A0 A6 s.kept) v)] H=some (.agg (Fb v.r (A0 A6 s.held) (A0 A6 s.one) (A0 A6 s.two) (A0 A6 s.kept) v),H):=by
 refine Ah l9 rfl (by simp[Fb,Db,Ac,A8,Ap]) (by simp[Fb,Db,Ac,A8,Ap]) ?_ H;unfold Fb Db
 simp(disch:=try exact dq)only[tx,seval,g9]
theorem c2l(v:ViewL)(s:Space)(hs:SpOk s)(h1:v.sets.length<=1000000)(h2:∀ x∈v.sets,(els x.files).length<=1000000)(h3:v.set.length<=1000000)(h4:∀ l∈v.node,l.length<=1000000)(h5:∀ l∈v.part,l.length<=1000000)(h6:v.node.length<=1000000)(h7:v.part.length<=1000000)(H:AH) :
 K tab A5 A4 10 [.agg (Fb v.r (A0 A6 s.held) (A0 A6 s.one) (A0 A6 s.two) (A0 A6 s.kept) v),.agg (Fb v.r (A0 A6 s.held) (A0 A6 s.one) (A0 A6 s.two) (A0 A6 s.kept) v)] H=some (.bool true,H):=by
 refine Ah l10 rfl (by simp[Fb,Db,Ac,A8,Ap]) rfl ?_ H;have hsp:=c2m s s hs hs;rw[e2a rfl]at hsp;have hst:=c2o (some v.sets) h1 h2;rw[C1]at hst;have hsq:=at9 (some v.set) (some v.set) h3 h3;rw[e2a rfl,C1]at hsq;unfold Fb Db
 simp(disch:=try exact dq)only[tx,seval,g10,hsp,hst,hsq,eq_self,decide_true,e2f,e2d];generalize hr5:Ad _ _ _=r5;refine B7 hr5 v.node.length (λj=>[.top,.top,.ptr 0 0 0 1,.ptr 1 0 0 1,.top,.int .i64 j,.top,.top,.top]) (λ_=>_) (λ_=>True) ?_ rfl trivial ?_ ?_
 ·rfl
 ·intro j hj _;have hj':((j:Int)<(v.node.length:Int)):=om;have hmem:v.node.getD j default∈v.node:=by
   rw[dx5,dy1 hj];exact e1c _
  have hmx:=h4 _ hmem;generalize hx:v.node.getD j default=x at *;have hsx:=at9 (some x) (some x) hmx hmx;rw[e2a rfl,C1]at hsx;have hpx:Hd x=[.fz (x.map Ae)]:=rfl
  simp(disch:=try exact dq)only[tx,seval,hj',hx,hsx,hpx,Ax,e1q,e2b];rfl
 ·intro _
  simp(disch:=try exact dq)only[tx,seval,e2k,e1q];generalize hr6:Ad _ _ _=r6;refine B7 hr6 v.part.length (λj=>[.top,.top,.ptr 0 0 0 1,.ptr 1 0 0 1,.top,.top,.int .i64 j,.top,.top]) (λ_=>_) (λ_=>True) ?_ rfl trivial ?_ ?_
  ·rfl
  ·intro j hj _;have hj':((j:Int)<(v.part.length:Int)):=om;have hmem:v.part.getD j default∈v.part:=by
    rw[dx5,dy1 hj];exact e1c _
   have hmx:=h5 _ hmem;generalize hx:v.part.getD j default=x at *;have hsx:=at9 (some x) (some x) hmx hmx;rw[e2a rfl,C1]at hsx;have hpx:Hd x=[.fz (x.map Ae)]:=rfl
   simp(disch:=try exact dq)only[tx,seval,hj',hx,hsx,hpx,Ax,e1q,e2b];rfl
  ·intro _
   simp(disch:=try exact dq)only[tx,seval,e2k,e1q]
theorem b4s(d:Dev):∀ (n:Nat) (l:List Ptr),(((Ip d n l).map (·.2.1)).flatten).length=4*l.length
 |_,[]=>rfl
 |n,p::l=>by rw[Ip,e2c,e0u,e0l,b4s d (n+1) l,(as7 d n p).1,e15];omega
theorem b5w(d:Dev)(p:Ptr):(Bj d p).node.length=8/\(Bj d p).part.length=32:=by
 unfold Bj;split
 ·exact⟨by simp[Ab],by simp[Ab]⟩
 ·rename_i l hl;obtain⟨s,_,hs⟩:=dy6.1 hl;have h8:=(ar1 hs).1;have hf:=b4s d 0 l;unfold a2x;split
  ·exact⟨h8,by show(((Ip d 0 l).map (·.2.1)).flatten).length=32;omega⟩
  ·exact⟨h8,by show(((Ip d 0 l).map (·.2.1)).flatten).length=32;omega⟩
theorem c0l{n:Int}{s:Bytes}{v:SpaceL}(h:Pz n s=some v):v.held.length<=500/\v.one.length<=500/\v.two.length<=500/\v.kept.length<=500:=by
 unfold Pz at h;split at h
 ·rename_i a r ha;split at h
  ·rename_i b r2 hb;split at h
   ·rename_i c r3 hc;split at h
    ·rename_i e r4 he;split at h
     ·obtain rfl:=Option.some.inj h;exact⟨(Ko ha).2,(Ko hb).2,(Ko hc).2,(Ko he).2⟩
     ·cases h
    ·cases h
   ·cases h
  ·cases h
 ·cases h
structure ViewOk(v:ViewL):Prop where
 n:v.sets.length<=8
 f:∀ x∈v.sets,FilesOk (els x.files)
 set:v.set.length<=8
 node:∀ l∈v.node,l.length<=8
 part:∀ l∈v.part,l.length<=32
 noden:v.node.length<=8
 partn:v.part.length<=8
theorem b3f(d:Dev){p:Ptr}{q:Root×List DsetH×List Ptr}(h:N2 d p=some q)(s:SpaceL):ViewOk (Jw q s (q.2.2.map (Bj d))):=by
 obtain⟨r,l,q⟩:=q;obtain⟨hl,hl8⟩:=b09 h;have hs:=b4z d l q;refine⟨?_,λx hx=>?_,?_,?_,?_,?_,?_⟩
 ·simp only[Jw,List.length_zipWith,e1q];omega
 ·obtain⟨h1,h2⟩:=hs x hx;exact⟨by omega,λy hy=>by obtain⟨a,b,c⟩:=h2 y hy;exact⟨by omega,by omega,by omega⟩⟩
 ·simp only[Jw];omega
 ·intro x hx;simp only[Jw]at hx;obtain⟨y,hy,rfl⟩:=e2r.1 hx;obtain⟨z,_,rfl⟩:=e2r.1 hy;exact Nat.le_of_eq (b5w d z).1
 ·intro x hx;simp only[Jw]at hx;obtain⟨y,hy,rfl⟩:=e2r.1 hx;obtain⟨z,_,rfl⟩:=e2r.1 hy;exact Nat.le_of_eq (b5w d z).2
 ·simp only[Jw,e1q];omega
 ·simp only[Jw,e1q];omega
theorem c3h{d:Dev}{p:Ptr}{v:ViewL}(h:Rv d p=some v):ViewOk v:=by
 obtain⟨q,hq,rfl⟩:=dz0.1 h;exact b3f d hq _
theorem ao9{d:Dev}{p:Ptr}{v:ViewL}(h:Lk d p=some v):ViewOk v/\v.s.held.length<=500/\v.s.one.length<=500/\v.s.two.length<=500/\v.s.kept.length<=500:=by
 unfold Lk at h;split at h
 ·rename_i q hq;split at h
  ·obtain⟨s,hs,rfl⟩:=dz0.1 h;obtain⟨t,_,ht⟩:=dy6.1 hs;exact⟨b3f d hq s,c0l ht⟩
  ·cases h
 ·cases h
theorem b3i:∀ (n:Nat) (a:Int),Fc (n+1) a=Fc n a++[a+n]
 |0,a=>by simp[Fc]
 |n+1,a=>by
   rw[Fc,b3i n (a+1),Fc,e1b]
   congr 3;omega
theorem b3h:∀ (k n:Nat) (a:Int),(Fc n a).take k=Fc (min k n) a
 |0,n,a=>by rw[Nat.zero_min];rfl
 |k+1,0,a=>by simp[Fc]
 |k+1,n+1,a=>by rw[Fc,e08,b3h k n (a+1),show min (k+1) (n+1)=min k n+1 by omega,Fc]
theorem df6(l:List Rn)(r:Rn):Ld (l++[r])=Ld l++Fc (r.b-r.a).toNat r.a:=by simp[Ld]
theorem d6l(l:List Rn)(r:Rn)(n:Nat):(Ld (l++[r])).take n=(Ld l).take n++Fc (min (r.b-r.a).toNat (n-((Ld l).take n).length)) r.a:=by
 rw[df6,List.take_append,b3h,e1f]
 congr 2
 omega
def ag1(l:List Rn)(n:Int):List AV:=match bd6 l n with
 |some o=>[.fz (o.map λx=>[.int .i64 x]),.bool true]
 |none=>[.emp,.bool false]
theorem d6m(l:Sl Rn)(hl:a5m (els l))(n:Int)(hn:n<=1000000)(H:AH):K tab A5 A4 186 [A0 A6 l,.int .i64 n] H=some (.tuple (ag1 (els l) n),H):=by
 refine Ah cm1 rfl (by simp[Ac,A8,Ap]) (by unfold ag1;split<;>simp[A8,Ac]) ?_ H;have hc:=b1h l hl;unfold ag1 bd6;by_cases c1:n<0
 ·simp(disch:=try exact dq)only[tx,seval,Xn,c1];simp[c1]
 ·by_cases c2:H4 (els l)<n
  ·rw[if_pos om]
   simp(disch:=try exact dq)only[tx,seval,Xn,c1,hc,c2]
  ·rw[if_neg om]
   simp(disch:=try exact dq)only[tx,seval,Xn,c1,hc,c2];generalize hr:Ad _ _ _=r;refine B7 hr (els l).length (λi=>[A0 A6 l,.int .i64 n,.top,.top,.own 0 1 0 ((Ld ((els l).take i)).take n.toNat).length ((Ld ((els l).take i)).take n.toNat).length,.int .i64 i,.top])
    (λi=>[some (((Ld ((els l).take i)).take n.toNat).map cI)]) (λ_=>True) ?_ ?_ trivial ?_ ?_
   ·simp[Ld]
   ·simp[Ld]
   ·intro i hi _;have hi':((i:Int)<((els l).length:Int)):=om;have hl1:=hl.1;have hmem:(els l).getD i default∈els l:=by
     rw[dx5,dy1 hi];exact e1c _
    have hx1:=hl.2 _ hmem;have hs:(els l).take (i+1)=(els l).take i++[(els l).getD i default]:=by
     rw[e0y,dx5,dy1 hi];rfl
    rw[hs,d6l];have hlo:((Ld ((els l).take i)).take n.toNat).length<=n.toNat:=(by rw[e1f];omega);generalize hx:(els l).getD i default=x at *
    generalize (Ld ((els l).take i)).take n.toNat=o at *
    simp(disch:=try exact dq)only[tx,seval,hi',hx,Aa,A6,e2b];generalize hr2:Ad _ _ _=r2;refine G7 (Q:=λr=>Rd _ _ _ _ (F3 _ _ (Be _ _ (B0 _ (B0 _ r))))) hr2 (min (x.b-x.a).toNat (n.toNat-o.length))
     (λj=>[A0 A6 l,.int .i64 n,.top,.top,.own 0 1 0 (o.length+j) (o.length+j),.int .i64 i,.int .i64 (x.a+j)])
     (λj=>[some ((o++Fc j x.a).map cI)]) (λ_=>True) ?_ ?_ trivial ?_ ?_
    ·simp
    ·simp[Fc]
    ·intro j hj _;have hj1:x.a+(j:Int)<x.b:=om;have hj2:((o.length:Int)+(j:Int))<n:=om;have hap:(o++Fc j x.a).map cI++[[.int .i64 (x.a+(j:Int))]]=(o++Fc (j+1) x.a).map cI:=(by rw[b3i,<-e0x,e1w (l₁:=o++Fc j x.a)];rfl);have hlen:(o++Fc j x.a).length=o.length+j:=by rw[e0l,Zt]
     simp(disch:=try exact dq)only[tx,seval,hi',hx,hj1,hj2,Aa,A6,e2b,hap,Au,e1q,hlen,Int.natCast_add];rw[Int.add_assoc];rfl
    ·intro _;have hnj:¬ (x.a+((min (x.b-x.a).toNat (n.toNat-o.length):Nat):Int)<x.b/\(o.length:Int)+((min (x.b-x.a).toNat (n.toNat-o.length):Nat):Int)<n):=om;generalize min (x.b-x.a).toNat (n.toNat-o.length)=m at *;by_cases c3:x.a+(m:Int)<x.b
     ·have c4:¬ (o.length:Int)+(m:Int)<n:=λh=>hnj ⟨c3,h⟩
      simp(disch:=try exact dq)only[tx,seval,hi',hx,c3,c4,Aa,A6,e2b,Au,e1q,Int.natCast_add,Zt]
     ·simp(disch:=try exact dq)only[tx,seval,hi',hx,c3,Aa,A6,e2b,Au,e1q,Int.natCast_add,Zt]
   ·intro _;rw[e1g]
    simp(disch:=try exact dq)only[tx,seval,e2k,Au,B8,Px,O9]
def Sd(t:Ptr)(txg:Int)(free:List Int)(nb nc:Nat):List AV:=[.own 1 3 0 nb nb,.own 2 1 0 nb nb,.int .i64 t.addr,.int .i64 t.birth,.int .u32 t.sum.a.toNat,.int .u32 t.sum.b.toNat,.int .u32 t.sum.c.toNat,.int .u32 t.sum.d.toNat,.emp,.emp,.int .i64 txg,.fz (free.map λx=>[.int .i64 x]),.own 3 1 0 nc nc,.bool false,.own 4 30 0 1 1]
def a1o:List AV:=[.int .i64 0,.int .i64 0,.int .i64 0,.int .i64 0,.int .i64 0,.int .u32 0,.int .u32 0,.int .u32 0,.int .u32 0,.int .i64 0,.int .i64 0,.int .u32 0,.int .u32 0,.int .u32 0,.int .u32 0,.int .i64 0,.int .i64 0,.int .u32 0,.int .u32 0,.int .u32 0,.int .u32 0,.int .i64 0,.emp,.emp,.emp,.emp,.own 5 5 0 0 0,.emp,.own 6 1 0 0 0,.own 7 1 0 0 0]
def Kz(t:Ptr)(txg:Int)(free:List Int)(bl:List Block)(at' all:List Int):AH:=[some [Sd t txg free bl.length all.length],some (bl.map E8),some (at'.map cI),some (all.map cI),some [a1o],some [],some [],some []]
theorem cb7(t:Ptr)(txg:Int)(free:List Int)(bl:List Block)(at' all:List Int)(ha:at'.length=bl.length)(hl:all.length<=1000000)(p:Ptr) :
 Ev tab A5 A4 253 [.ptr 0 0 0 1,.agg (A7 p)] (Kz t txg free bl at' all)=some (.agg (A7 p),Kz t txg free bl at' (all++[p.addr])):=by
 refine Cd b8q rfl ?_;have hap:all.map cI++[[.int .i64 p.addr]]=(all++[p.addr]).map cI:=by rw[e1w];rfl
 unfold Kz Sd a1o
 simp(disch:=try exact dq)only[tx,seval,a2f,A7,Au,B8,Bw,Bv,e1q,e0l,e15,e1n,hap,ha]
def Ie(free:List Int)(txg kind:Int)(load:Bytes)(n:Nat):Ptr:=L9 (free.getD n default) ⟨kind,txg,load⟩
theorem b8j(t:Ptr)(txg:Int)(free:List Int)(bl:List Block)(at' all:List Int)(ha:at'.length=bl.length)(hl:all.length<=1000000)(hb:bl.length<free.length)(hf:free.length<=1000000)(kind:Int)(load:Bytes)(hload:load.length<=1000000) :
 Ev tab A5 A4 191 [.ptr 0 0 0 1,.int .i64 kind,.str load] (Kz t txg free bl at' all)=some (.agg (A7 (Ie free txg kind load bl.length)),Kz t txg free (bl++[⟨kind,txg,load⟩]) (at'++[free.getD bl.length default]) (all++[(Ie free txg kind load bl.length).addr])):=by
 refine Cd b8t rfl ?_;unfold Ie;generalize hq:free.getD bl.length default=a at *;have hT:=cb7 t txg free (bl++[⟨kind,txg,load⟩]) (at'++[a]) all (by simp[ha]) hl (L9 a ⟨kind,txg,load⟩);have hB:=λH=>Ye (orc:=A5) a kind txg load om H;generalize L9 a ⟨kind,txg,load⟩=p at *;have hap1:bl.map E8++[[.int .i64 kind,.int .i64 txg,.str load]]=(bl++[(⟨kind,txg,load⟩:Block)]).map E8:=by rw[e1w];rfl
 have hap2:at'.map cI++[[.int .i64 a]]=(at'++[a]).map cI:=by rw[e1w];rfl
 have hb':¬ ((free.length:Int)<=(bl.length:Int)):=om;unfold Kz Sd a1o at hT ⊢;simp only[A7,e0l,e15,e1n,e2s]at hT hB ⊢
 simp(disch:=try exact dq)only[tx,seval,a2k,KQ 253 rfl,An,hT,hB,hb',hq,hap1,hap2,Au,B8,Bw,Bv,e1q,e0l,e15,e1n,ha,Ax]
theorem a73:List.range 9=[0,1,2,3,4,5,6,7,8]:=qq
theorem cc0(t:Ptr)(txg:Int)(free:List Int)(bl:List Block)(at' all:List Int)(ha:at'.length=bl.length)(hl:all.length<=1000000)(hb:bl.length<free.length)(hf:free.length<=1000000)(n:Int)(x:Node)(q:List Ptr)(hq:q.length=4)(hn:x.name.length<=1000)(hbd:x.body.length<=1000)(hld:(Dv ⟨x.kind,x.up,x.name⟩ x.body.length q).length<=1000000) :
 Ev tab A5 A4 189 [.ptr 0 0 0 1,.int .i64 n,.agg [.int .i64 x.kind,.int .i64 x.up,.str x.name,.str x.body,.int .i64 x.bad],.own 8 6 0 4 4] (Kz t txg free bl at' all++[some (q.map A7)])=some (.agg (A7 (Ie free txg 2 (Dv ⟨x.kind,x.up,x.name⟩ x.body.length q) bl.length)),Kz t txg free (bl++[⟨2,txg,Dv ⟨x.kind,x.up,x.name⟩ x.body.length q⟩]) (at'++[free.getD bl.length default]) (all++[(Ie free txg 2 (Dv ⟨x.kind,x.up,x.name⟩ x.body.length q) bl.length).addr])++[some (q.map A7)]):=by
 refine Cd cl9 rfl ?_;have hN:=b8j t txg free bl at' all ha hl hb hf 2 _ hld;have hP:=Lw x.kind x.up x.name x.body x.bad x.body.length (some q) om (by show q.length<=_;omega);rw[Bn,C1]at hP;generalize Dv ⟨x.kind,x.up,x.name⟩ x.body.length q=ld at *;generalize Ie free txg 2 ld bl.length=p at *;generalize free.getD bl.length default=a at *;have hqt:List.take 4 (List.map A7 q)=List.map A7 q:=dz1 (by rw[e1q];omega);unfold Kz Sd a1o at hN ⊢;simp only[A7,e1b,e1s,e0l,e15,e1n,e2s]at hN ⊢
 simp(disch:=try exact dq)only[tx,seval,aa9,Au,B8,Bw,Bv,Ar,Aw,e1q];generalize hr:Ad _ _ _=r;refine B7 hr 1 (λj=>[.ptr 0 0 0 1,.int .i64 n,.top,.own 8 6 0 4 4,.ptr 9 0 0 1,.ptr 10 0 0 1,.own 4 30 0 1 1,.int .i64 j,.top,.top,.top,.top,.top,.top]) (λ_=>_) (λ_=>True) ?_ rfl trivial ?_ ?_
 ·rfl
 ·intro j hj _;have hj':((j:Int)<1):=om;obtain rfl:j=0:=om
  simp(disch:=try exact dq)only[tx,seval,hj',Au,B8,Bw,Bv,Ar,Aw,e1q];generalize hr2:Ad _ _ _=r2;refine Qh (Q:=λr=>Rd _ _ _ _ (F3 _ _ (Be _ _ (B0 _ (B0 _ r))))) hr2 ?_
  simp(disch:=try exact dq)only[tx,seval,e2k,Au,B8,Bw,Bv,Ar,Aw,e1q];rfl
 ·intro _;have hvw:=λH=>J8 3 q H
  simp(disch:=try exact dq)only[tx,seval,e2k,a73,KQ 191 rfl,An,Lm,Ez,hvw,hqt,hP,hN,Au,B8,Bw,Bv,Ar,Aw,e1q]
theorem cb9(t:Ptr)(txg:Int)(free:List Int)(bl:List Block)(at' all:List Int)(ha:at'.length=bl.length)(hl:all.length<=1000000)(hb:bl.length<free.length)(hf:free.length<=1000000)(q:List Ptr)(hq:q.length=8)(hld:(Hv q).length<=1000000) :
 Ev tab A5 A4 190 [.ptr 0 0 0 1,.own 8 6 0 8 8] (Kz t txg free bl at' all++[some (q.map A7)])=some (.agg (A7 (Ie free txg 3 (Hv q) bl.length)),Kz t txg free (bl++[⟨3,txg,Hv q⟩]) (at'++[free.getD bl.length default]) (all++[(Ie free txg 3 (Hv q) bl.length).addr])++[some (q.map A7)]):=by
 refine Cd cl8 rfl ?_;have hN:=b8j t txg free bl at' all ha hl hb hf 3 _ hld;have hP:=av5 (some q) (by show q.length<=_;omega);rw[Bn,C1]at hP;generalize Hv q=ld at *;generalize Ie free txg 3 ld bl.length=p at *;generalize free.getD bl.length default=a at *;have hqt:List.take 8 (List.map A7 q)=List.map A7 q:=dz1 (by rw[e1q];omega);unfold Kz Sd a1o at hN ⊢;simp only[A7,e1b,e1s,e0l,e15,e1n,e2s]at hN ⊢
 simp(disch:=try exact dq)only[tx,seval,aa8,Au,B8,Bw,Bv,Ar,Aw,e1q];generalize hr:Ad _ _ _=r;refine B7 hr 1 (λj=>[.ptr 0 0 0 1,.own 8 6 0 8 8,.ptr 9 0 0 1,.own 4 30 0 1 1,.int .i64 j,.top]) (λ_=>_) (λ_=>True) ?_ rfl trivial ?_ ?_
 ·rfl
 ·intro j hj _;have hj':((j:Int)<1):=om;obtain rfl:j=0:=om
  simp(disch:=try exact dq)only[tx,seval,hj',Au,B8,Bw,Bv,Ar,Aw,e1q];generalize hr2:Ad _ _ _=r2;refine Qh (Q:=λr=>Rd _ _ _ _ (F3 _ _ (Be _ _ (B0 _ (B0 _ r))))) hr2 ?_
  simp(disch:=try exact dq)only[tx,seval,e2k,Au,B8,Bw,Bv,Ar,Aw,e1q];rfl
 ·intro _;have hvw:=λH=>J8 3 q H
  simp(disch:=try exact dq)only[tx,seval,e2k,a73,KQ 191 rfl,An,ap2,Ez,hvw,hqt,hP,hN,Au,B8,Bw,Bv,Ar,Aw,e1q]
theorem c9y(H:AH):K tab A5 A4 203 [.str [],.int .i64 128] H=some (.str (zs 128),H):=by
 refine Ah cl4 rfl rfl rfl ?_ H
 simp(disch:=try exact dq)only[tx,seval,aa4]
 kernel_rfl
theorem da9:Ib [[AV.int IntKind.u8 0],[AV.int IntKind.u8 0],[AV.int IntKind.u8 0],[AV.int IntKind.u8 0],[AV.int IntKind.u8 0],[AV.int IntKind.u8 0],[AV.int IntKind.u8 0],[AV.int IntKind.u8 0],[AV.int IntKind.u8 0],[AV.int IntKind.u8 0],[AV.int IntKind.u8 0],[AV.int IntKind.u8 0],[AV.int IntKind.u8 0],[AV.int IntKind.u8 0],[AV.int IntKind.u8 0],[AV.int IntKind.u8 0],[AV.int IntKind.u8 0],[AV.int IntKind.u8 0],[AV.int IntKind.u8 0],[AV.int IntKind.u8 0],[AV.int IntKind.u8 0],[AV.int IntKind.u8 0],[AV.int IntKind.u8 0],[AV.int IntKind.u8 0],[AV.int IntKind.u8 0],[AV.int IntKind.u8 0],[AV.int IntKind.u8 0],[AV.int IntKind.u8 0],[AV.int IntKind.u8 0],[AV.int IntKind.u8 0],[AV.int IntKind.u8 0],[AV.int IntKind.u8 0]]=some (zs 32):=qq
theorem b6n(k:Nat)(hk:k<4)(H:AH):K tab A5 A4 187 [.str [],.int .i64 (k:Int)] H=some (.str [],H):=by
 refine Ah cm0 rfl rfl rfl ?_ H;have h1:=c9y;have hk4:¬ (4<=(k:Int)):=om;have hk0:¬ ((k:Int)<0):=om;have e1:IntKind.i64.wrap ((k:Int)*32)=32*(k:Int):=by rw[e2b _ om];omega
 have e2:IntKind.i64.wrap (IntKind.i64.wrap ((k:Int)+1)*32)=32*(k:Int)+32:=by rw[e2b ((k:Int)+1) om,e2b _ om];omega
 have e3:List.drop (32*(k:Int)).toNat (List.take (32*(k:Int)+32).toNat (zs 128))=zs 32:=by
  have:k=0\/k=1\/k=2\/k=3:=om;rcases this with rfl|rfl|rfl|rfl<;>decide +kernel
 have e4:(List.length (zs 128):Int)=128:=by decide +kernel
 have e5:(0:Int)<=32*(k:Int)+32/\32*(k:Int)+32<=128:=om;have e6:(0:Int)<=32*(k:Int)/\32*(k:Int)<=32*(k:Int)+32:=om
 simp(disch:=try exact dq)only[tx,seval,ab0,h1,hk4,hk0,da9,e1,e2,e3,e4,e5,e6]
theorem d7k(l:Sl Rn)(hl:(els l).length<=9000)(ma mb:Int)(M:AObj)(hM0:M=[[.int .i64 ma,.int .i64 mb]]):Ev tab A5 A4 273 [A0 A6 l,.own 0 2 0 1 1] [some M]=some (.fz ((Eu (els l) [⟨ma,mb⟩]).map λn=>[.int .i64 n]),[some M]):=by
 refine Cd b8p rfl ?_;have hM:M.length=1:=by rw[hM0];rfl
 have hMr:Cf (some M)=[]:=by rw[hM0];rfl
 have hMf:∀ r es,M.map (Ce r es)=M:=by intro r es;rw[hM0];rfl
 have hMn:∀ τ,Av τ M=M:=by intro τ;rw[hM0];rfl
 simp(disch:=try exact dq)only[tx,seval,a2e,hM];generalize hr:Ad _ _ _=r;have hed:Eu (els l) [⟨ma,mb⟩]=([⟨ma,mb⟩]:List Rn).foldl Cp ((els l).foldl Cp []):=by unfold Eu;rw[e12]
 refine B7 hr (els l).length
  (λj=>[A0 A6 l,(.own 0 2 0 1 1),.top,iV 1 (((els l).take j).foldl Cp []),.int .i64 j,.top])
  (λj=>some M::iH (((els l).take j).foldl Cp [])) (λ_=>True) ?_ ?_ trivial ?_ ?_
 ·rfl
 ·rfl
 ·intro j hj _;have hj':((j:Int)<((els l).length:Int)):=om;have hlen:=M7 ((els l).take j) [];rw[e1f,e1n]at hlen;rw[Xx hj]
  generalize ((els l).take j).foldl Cp []=o at *;generalize hx:(els l).getD j default=x at *;unfold Cp;have hne:=L0 x.b (A1 x.a o);have hne1:=L0 x.a o;have v2:iV 1 (A1 x.b (A1 x.a o))=.own 1 1 0 (A1 x.b (A1 x.a o)).length (A1 x.b (A1 x.a o)).length:=if_neg hne;have w2:iH (A1 x.b (A1 x.a o))=[some ((A1 x.b (A1 x.a o)).map cI)]:=if_neg hne;rw[v2,w2];have hil:∀ (n:Int) (e:List Int),(A1 n e).length<=e.length+1:=Xb;have hil1:=hil x.a o;have c1:=Eg (f:=293) rfl;have c2:=Rp (f:=293) rfl;by_cases ho:o=[]
  ·subst ho;have e1:A1 x.a []=[x.a]:=rfl;rw[e1]at *;rw[show iV 1 []=.emp from rfl,show iH []=[]from rfl];have r1:=Wg x.a;rcases Fw [x.a] (by simp) (by simp) x.b with r2|r2
   ·simp only[e01,e2c,e2o,cI]at r2
    simp(disch:=try exact dq)only[tx,seval,KQ 293 rfl,An,c1,c2,Dj,Dk,Bo,Bq,r1,r2,hj',hx,Aa,A6,e2b,hMr,hMn,hMf,Au,B8,e1l,e18,e1s,e1t];rfl
   ·simp only[e01,e2c,e2o,cI]at r2
    simp(disch:=try exact dq)only[tx,seval,KQ 293 rfl,An,c1,c2,Dj,Dk,Bo,Bq,r1,r2,hj',hx,Aa,A6,e2b,hMr,hMn,hMf,Au,B8,e1l,e18,e1s,e1t];rfl
  ·have v1:iV 1 o=.own 1 1 0 o.length o.length:=if_neg ho;have w1:iH o=[some (o.map cI)]:=if_neg ho;rw[v1,w1];rcases Fw o ho om x.a with r1|r1
   ·rcases Fw (A1 x.a o) hne1 om x.b with r2|r2
    ·simp(disch:=try exact dq)only[tx,seval,KQ 293 rfl,An,c1,c2,Dj,Dk,Bo,Bq,r1,r2,hj',hx,Aa,A6,e2b,hMr,hMn,hMf,Au,B8,e1l,e18,e1s,e1t];rfl
    ·simp(disch:=try exact dq)only[tx,seval,KQ 293 rfl,An,c1,c2,Dj,Dk,Bo,Bq,r1,r2,hj',hx,Aa,A6,e2b,hMr,hMn,hMf,Au,B8,e1l,e18,e1s,e1t];rfl
   ·rcases Fw (A1 x.a o) hne1 om x.b with r2|r2
    ·simp(disch:=try exact dq)only[tx,seval,KQ 293 rfl,An,c1,c2,Dj,Dk,Bo,Bq,r1,r2,hj',hx,Aa,A6,e2b,hMr,hMn,hMf,Au,B8,e1l,e18,e1s,e1t];rfl
    ·simp(disch:=try exact dq)only[tx,seval,KQ 293 rfl,An,c1,c2,Dj,Dk,Bo,Bq,r1,r2,hj',hx,Aa,A6,e2b,hMr,hMn,hMf,Au,B8,e1l,e18,e1s,e1t];rfl
 ·intro _;rw[e1g];have hlen0:=M7 (els l) [];rw[e1n]at hlen0;rw[hed]
  generalize (els l).foldl Cp []=E at *;by_cases hE0:E=[]
  ·subst hE0;rw[show iV 1 []=.emp from rfl,show iH []=[]from rfl]
   simp(disch:=try exact dq)only[tx,seval,e2k];generalize hr2:Ad _ _ _=r2;refine B7 hr2 ([⟨ma,mb⟩]:List Rn).length
    (λj=>[.top,(.own 0 2 0 1 1),.top,iV 1 ((([⟨ma,mb⟩]:List Rn).take j).foldl Cp ([]:List Int)),.top,.int .i64 j])
    (λj=>some M::iH ((([⟨ma,mb⟩]:List Rn).take j).foldl Cp ([]:List Int))) (λ_=>True) ?_ ?_ trivial ?_ ?_
   ·rfl
   ·rfl
   ·intro j hj _;have hj1:j<1:=hj;obtain rfl:j=0:=om;have hj':(((0:Nat):Int)<1):=om;have hlen:=M7 (([⟨ma,mb⟩]:List Rn).take 0) ([]:List Int);rw[e1f]at hlen;rw[Xx hj]
    generalize (([⟨ma,mb⟩]:List Rn).take 0).foldl Cp ([]:List Int)=o at *;generalize hx:(([⟨ma,mb⟩]:List Rn).getD 0 default)=x at *;have hMg:M[0]?=some [.int .i64 x.a,.int .i64 x.b]:=(by rw[hM0,<-hx];rfl);unfold Cp;have hne:=L0 x.b (A1 x.a o);have hne1:=L0 x.a o;have v2:iV 1 (A1 x.b (A1 x.a o))=.own 1 1 0 (A1 x.b (A1 x.a o)).length (A1 x.b (A1 x.a o)).length:=if_neg hne;have w2:iH (A1 x.b (A1 x.a o))=[some ((A1 x.b (A1 x.a o)).map cI)]:=if_neg hne;rw[v2,w2];have hil1:=Xb x.a o;have c1:=Eg (f:=293) rfl;have c2:=Rp (f:=293) rfl;by_cases ho:o=[]
    ·subst ho;have e1:A1 x.a []=[x.a]:=rfl;rw[e1]at *;rw[show iV 1 []=.emp from rfl,show iH []=[]from rfl];have r1:=Wg x.a;rcases Fw [x.a] (by simp) (by simp) x.b with r2|r2
     ·simp only[e01,e2c,e2o,cI]at r2
      simp(disch:=try exact dq)only[tx,seval,KQ 293 rfl,An,c1,c2,Dj,Dk,Bo,Bq,r1,r2,hj',hMg,Aa,A6,e2b,hMr,hMn,hMf,Au,B8,e1l,e18,e1s,e1t]
     ·simp only[e01,e2c,e2o,cI]at r2
      simp(disch:=try exact dq)only[tx,seval,KQ 293 rfl,An,c1,c2,Dj,Dk,Bo,Bq,r1,r2,hj',hMg,Aa,A6,e2b,hMr,hMn,hMf,Au,B8,e1l,e18,e1s,e1t]
    ·have v1:iV 1 o=.own 1 1 0 o.length o.length:=if_neg ho;have w1:iH o=[some (o.map cI)]:=if_neg ho;rw[v1,w1];rcases Fw o ho om x.a with r1|r1
     ·rcases Fw (A1 x.a o) hne1 om x.b with r2|r2
      ·simp(disch:=try exact dq)only[tx,seval,KQ 293 rfl,An,c1,c2,Dj,Dk,Bo,Bq,r1,r2,hj',hMg,Aa,A6,e2b,hMr,hMn,hMf,Au,B8,e1l,e18,e1s,e1t]
      ·simp(disch:=try exact dq)only[tx,seval,KQ 293 rfl,An,c1,c2,Dj,Dk,Bo,Bq,r1,r2,hj',hMg,Aa,A6,e2b,hMr,hMn,hMf,Au,B8,e1l,e18,e1s,e1t]
     ·rcases Fw (A1 x.a o) hne1 om x.b with r2|r2
      ·simp(disch:=try exact dq)only[tx,seval,KQ 293 rfl,An,c1,c2,Dj,Dk,Bo,Bq,r1,r2,hj',hMg,Aa,A6,e2b,hMr,hMn,hMf,Au,B8,e1l,e18,e1s,e1t]
      ·simp(disch:=try exact dq)only[tx,seval,KQ 293 rfl,An,c1,c2,Dj,Dk,Bo,Bq,r1,r2,hj',hMg,Aa,A6,e2b,hMr,hMn,hMf,Au,B8,e1l,e18,e1s,e1t]
   ·intro _;rw[e1g];have hlen1:=M7 ([⟨ma,mb⟩]:List Rn) ([]:List Int);have hone:([⟨ma,mb⟩]:List Rn).foldl Cp ([]:List Int)≠[]:=L0 _ _
    generalize ([⟨ma,mb⟩]:List Rn).foldl Cp ([]:List Int)=o at *;by_cases ho:o=[]
    ·exact absurd ho hone
    ·have v1:iV 1 o=.own 1 1 0 o.length o.length:=if_neg ho;have w1:iH o=[some (o.map cI)]:=if_neg ho;rw[v1,w1]
     simp(disch:=try exact dq)only[tx,seval,e2k,ho,hMr,hMn,hMf,Au,B8,Px,O9,e1q]
  ·have hv0:iV 1 E=.own 1 1 0 E.length E.length:=if_neg hE0;have hw0:iH E=[some (E.map cI)]:=if_neg hE0;rw[hv0,hw0]
   simp(disch:=try exact dq)only[tx,seval,e2k,hMr,hMn,hMf,Au];generalize hr2:Ad _ _ _=r2;refine B7 hr2 ([⟨ma,mb⟩]:List Rn).length
    (λj=>[.top,(.own 0 2 0 1 1),.top,iV 1 ((([⟨ma,mb⟩]:List Rn).take j).foldl Cp E),.top,.int .i64 j])
    (λj=>some M::iH ((([⟨ma,mb⟩]:List Rn).take j).foldl Cp E)) (λ_=>True) ?_ ?_ trivial ?_ ?_
   ·rw[e26,List.foldl_nil,hv0];rfl
   ·rw[e26,List.foldl_nil,hw0]
   ·intro j hj _;have hj1:j<1:=hj;obtain rfl:j=0:=om;have hj':(((0:Nat):Int)<1):=om;have hlen:=M7 (([⟨ma,mb⟩]:List Rn).take 0) E;rw[e1f]at hlen;rw[Xx hj]
    generalize (([⟨ma,mb⟩]:List Rn).take 0).foldl Cp E=o at *;generalize hx:(([⟨ma,mb⟩]:List Rn).getD 0 default)=x at *;have hMg:M[0]?=some [.int .i64 x.a,.int .i64 x.b]:=(by rw[hM0,<-hx];rfl);unfold Cp;have hne:=L0 x.b (A1 x.a o);have hne1:=L0 x.a o;have v2:iV 1 (A1 x.b (A1 x.a o))=.own 1 1 0 (A1 x.b (A1 x.a o)).length (A1 x.b (A1 x.a o)).length:=if_neg hne;have w2:iH (A1 x.b (A1 x.a o))=[some ((A1 x.b (A1 x.a o)).map cI)]:=if_neg hne;rw[v2,w2];have hil1:=Xb x.a o;have c1:=Eg (f:=293) rfl;have c2:=Rp (f:=293) rfl;by_cases ho:o=[]
    ·subst ho;have e1:A1 x.a []=[x.a]:=rfl;rw[e1]at *;rw[show iV 1 []=.emp from rfl,show iH []=[]from rfl];have r1:=Wg x.a;rcases Fw [x.a] (by simp) (by simp) x.b with r2|r2
     ·simp only[e01,e2c,e2o,cI]at r2
      simp(disch:=try exact dq)only[tx,seval,KQ 293 rfl,An,c1,c2,Dj,Dk,Bo,Bq,r1,r2,hj',hMg,Aa,A6,e2b,hMr,hMn,hMf,Au,B8,e1l,e18,e1s,e1t]
     ·simp only[e01,e2c,e2o,cI]at r2
      simp(disch:=try exact dq)only[tx,seval,KQ 293 rfl,An,c1,c2,Dj,Dk,Bo,Bq,r1,r2,hj',hMg,Aa,A6,e2b,hMr,hMn,hMf,Au,B8,e1l,e18,e1s,e1t]
    ·have v1:iV 1 o=.own 1 1 0 o.length o.length:=if_neg ho;have w1:iH o=[some (o.map cI)]:=if_neg ho;rw[v1,w1];rcases Fw o ho om x.a with r1|r1
     ·rcases Fw (A1 x.a o) hne1 om x.b with r2|r2
      ·simp(disch:=try exact dq)only[tx,seval,KQ 293 rfl,An,c1,c2,Dj,Dk,Bo,Bq,r1,r2,hj',hMg,Aa,A6,e2b,hMr,hMn,hMf,Au,B8,e1l,e18,e1s,e1t]
      ·simp(disch:=try exact dq)only[tx,seval,KQ 293 rfl,An,c1,c2,Dj,Dk,Bo,Bq,r1,r2,hj',hMg,Aa,A6,e2b,hMr,hMn,hMf,Au,B8,e1l,e18,e1s,e1t]
     ·rcases Fw (A1 x.a o) hne1 om x.b with r2|r2
      ·simp(disch:=try exact dq)only[tx,seval,KQ 293 rfl,An,c1,c2,Dj,Dk,Bo,Bq,r1,r2,hj',hMg,Aa,A6,e2b,hMr,hMn,hMf,Au,B8,e1l,e18,e1s,e1t]
      ·simp(disch:=try exact dq)only[tx,seval,KQ 293 rfl,An,c1,c2,Dj,Dk,Bo,Bq,r1,r2,hj',hMg,Aa,A6,e2b,hMr,hMn,hMf,Au,B8,e1l,e18,e1s,e1t]
   ·intro _;rw[e1g];have hlen1:=M7 ([⟨ma,mb⟩]:List Rn) E;have hone:([⟨ma,mb⟩]:List Rn).foldl Cp E≠[]:=L0 _ _
    generalize ([⟨ma,mb⟩]:List Rn).foldl Cp E=o at *;by_cases ho:o=[]
    ·exact absurd ho hone
    ·have v1:iV 1 o=.own 1 1 0 o.length o.length:=if_neg ho;have w1:iH o=[some (o.map cI)]:=if_neg ho;rw[v1,w1]
     simp(disch:=try exact dq)only[tx,seval,e2k,ho,hMr,hMn,hMf,Au,B8,Px,O9,e1q]
theorem a5w(r sz o l t:Nat)(x:AV)(H:AH):K tab A5 A4 158 [.own r sz o l t,x] H=Gs tab A5 A4 158 [.own r sz o l t,x] H (Ac (Bc H [.own r sz o l t,x])) (K tab A5 A4 158 (Bc H [.own r sz o l t,x]) H):=J7 _ _ _ rfl _ _
theorem c5r(so:Bool->Bool->Bool)(hso:so=λa b=>a||b)(l:Sl Rn)(hn:(els l).length<=9000)(ma mb:Int)(M:AObj)(hM0:M=[[.int .i64 ma,.int .i64 mb]]):Ev tab A5 A4 228 [A0 A6 l,.own 0 2 0 1 1,.int .i64 0] [some M]=some (A0 A6 (some (Ll so (els l) [⟨ma,mb⟩])),[some M]):=by
 refine Cd b8r rfl ?_;have hM:M.length=1:=by rw[hM0];rfl
 have hM1:List.take 1 M=M:=by rw[hM0];rfl
 have hMr:Cf (some M)=[]:=by rw[hM0];rfl
 have hMf:∀ r es,M.map (Ce r es)=M:=by intro r es;rw[hM0];rfl
 have hMn:∀ τ,Av τ M=M:=by intro τ;rw[hM0];rfl
 have hMv:∀ (n:Nat) (H:AH),M.map (λe=>e.map (D9 H n))=[A6 ⟨ma,mb⟩]:=by intro n H;rw[hM0];cases n<;>rfl
 have he:=d7k l hn ma mb M hM0;have hEl:(Eu (els l) ([⟨ma,mb⟩]:List Rn)).length<=20000:=by
  rw[<-a3h];have h1:=Pi (Cy (Et (els l++([⟨ma,mb⟩]:List Rn)))) _ (e2z _);rw[e1g,Lr,a3d,e0l,e01]at h1;omega
 rw[a7b];generalize hE:Eu (els l) ([⟨ma,mb⟩]:List Rn)=E at *;have hE0:E≠[]:=by rw[<-hE];intro h0;have h1:=(Ww (l:=els l) (m:=[⟨ma,mb⟩]) (x:=ma)).2 ⟨⟨ma,mb⟩,by simp,.inl rfl⟩;rw[h0]at h1;cases h1
 simp(disch:=try exact dq)only[tx,seval,Xm,KQ 273 rfl,An,he,hMr,hMn];generalize hr:Ad _ _ _=r;refine B7 hr (E.length-1)
  (λj=>[A0 A6 l,(.own 0 2 0 1 1),.int .i64 0,.top,.fz (E.map λn=>[.int .i64 n]),.own 1 2 0 (Fm so (els l) ([⟨ma,mb⟩]:List Rn) E j).length (Fm so (els l) ([⟨ma,mb⟩]:List Rn) E j).length,.int .i64 j,.top,.top,.top,.top,.top])
  (λj=>[some M,some ((Fm so (els l) ([⟨ma,mb⟩]:List Rn) E j).map Cv)]) (λj=>True) ?_ ?_ trivial ?_ ?_
 ·rfl
 ·rfl
 ·intro j hj _;have hj':((j:Int)+1<(E.length:Int)):=om;have u1:((j:Int)+1).toNat=j+1:=om;have u0:(j:Int).toNat=j:=om;have hh1:=a1y l om (E.getD j 0);have hh2:=a1y (some [⟨ma,mb⟩]) (by show 1<=1000000;omega) (E.getD j 0);rw[Bn,C1]at hh2;simp only[e2c,e2o]at hh2;have hd:∀ i,E.getD i default=E.getD i 0:=λ_=>rfl;have hol:=a12 so (els l) ([⟨ma,mb⟩]:List Rn) E j;rw[Fm];generalize hx:E.getD j 0=x at *;generalize hy:E.getD (j+1) 0=y at *;generalize Fm so (els l) ([⟨ma,mb⟩]:List Rn) E j=o at *;cases ha:B5 (els l) x<;>cases hb:B5 ([⟨ma,mb⟩]:List Rn) x<;>rw[ha]at hh1<;>rw[hb]at hh2
  all_goals
   subst hso
   all_goals
    simp only[Bool.or_false,Bool.or_true,e2j,e2u,e27,e2f,e29,e2e,e2d,e25,if_true,e0f,if_false]
  all_goals first
   |(simp(disch:=try exact dq)only[tx,seval,a5w,Ez,hM,hM1,hh1,hh2,hj',u1,u0,hd,hx,hy,Ax,e1q,e2b,hMr,hMn,hMf,hMv,F4]
     rfl)
   |skip
  all_goals
   by_cases ho:o=[]
   ·subst ho;rw[show Cs [] (⟨x,y⟩:Rn)=[⟨x,y⟩]from rfl]
    simp(disch:=try exact dq)only[tx,seval,a5w,Ez,hM,hM1,hh1,hh2,hj',u1,u0,hd,hx,hy,Ax,e1q,e2o,e1n,e2b,hMr,hMn,hMf,hMv,F4]
    (try first|done|rfl|exact⟨rfl,rfl⟩|exact⟨rfl,rfl,rfl⟩)
   ·obtain⟨m',q,rfl⟩:∃ m' q,o=m'++[q]:=⟨o.dropLast,o.getLast ho,(dx1 ho).symm⟩;have hp:0<(m'++[q]).length:=(by simp);have hg:((m'++[q]).map Cv)[(m'++[q]).length-1]?=some [.int .i64 q.a,.int .i64 q.b]:=(by simp[Cv]);have hs:((m'++[q]).map Cv).set ((m'++[q]).length-1) [.int .i64 q.a,.int .i64 y]=(m'++[(⟨q.a,y⟩:Rn)]).map Cv:=(by simp[Cv]);have hap:(m'++[q]).map Cv++[[.int .i64 x,.int .i64 y]]=(m'++[q,⟨x,y⟩]).map Cv:=(by simp[Cv]);have hl1:(m'++[(⟨q.a,y⟩:Rn)]).length=(m'++[q]).length:=(by simp);have hl2:(m'++[q,⟨x,y⟩]).length=(m'++[q]).length+1:=(by simp);rw[a4h];have hnt:(((m'++[q]).length:Int)-1).toNat=(m'++[q]).length-1:=om;generalize hLL:(m'++[q]).length=n at *;by_cases c:q.b=x
    ·have hg':=hg;rw[c]at hg';rw[if_pos c]
     simp(disch:=try exact dq)only[tx,seval,a5w,Ez,hM,hM1,hh1,hh2,hj',u1,u0,hd,hx,hy,Ax,e1q,e2b,hMr,hMn,hMf,hMv,F4,hLL,hg',hs,hap,hl1,hl2,hnt];rfl
    ·rw[if_neg c]
     simp(disch:=try exact dq)only[tx,seval,a5w,Ez,hM,hM1,hh1,hh2,hj',u1,u0,hd,hx,hy,Ax,e1q,e2b,hMr,hMn,hMf,hMv,F4,hLL,hg,hs,hap,hl1,hl2,hnt,c];rfl
 ·intro _;generalize Fm so (els l) ([⟨ma,mb⟩]:List Rn) E (E.length-1)=o at *;have hnj:¬ (((E.length-1:Nat):Int)+1<(E.length:Int)):=om
  simp(disch:=try exact dq)only[tx,seval,hnj,e2b,e1q,hMr,hMn,hMf,hMv,F4,Iq,a66]
theorem df8(l:Sl Rn)(hn:(els l).length<=9000)(ma mb:Int):Ev tab A5 A4 194 [A0 A6 l,.own 0 2 0 1 1] [some [[.int .i64 ma,.int .i64 mb]]]=some (A0 A6 (some (D8 (els l) [⟨ma,mb⟩])),[some [[.int .i64 ma,.int .i64 mb]]]):=by
 refine Cd b8s rfl ?_;have h:=c5r (λa b=>a||b) rfl l hn ma mb _ rfl
 simp(disch:=try exact dq)only[tx,seval,a2j,KQ 228 rfl,An,h];rfl
def P2(l:List Int):Nat->Sl Rn
 |0=>none
 |j+1=>if 0<=l.getD j default/\l.getD j default<1073741824 then some (D8 (els (P2 l j)) [⟨l.getD j default,l.getD j default+1⟩])else P2 l j
theorem be8(l:List Int):∀ j,j<=l.length->els (P2 l j)=Jl (l.take j)
 |0,_=>rfl
 |j+1,h=>by
   rw[P2,En (show j<l.length by omega)];unfold Jl;rw[e12,e1r,List.foldl_nil];have ih:=be8 l j om;unfold Jl at ih;split<;>simp[els,<-ih]
theorem c87(l:List Int)(j:Nat)(h:j<=l.length):(els (P2 l j)).length<=j:=by
 rw[be8 l j h]
 have:=b74 (l.take j);rw[e1f]at this;omega
theorem c89(l:List Int)(hl:l.length<=9000)(hb:∀ x∈l,-1000000000000<=x/\x<=1000000000000):Ev tab A5 A4 192 [.own 0 1 0 l.length l.length] [some (l.map cI)]=some (A0 A6 (P2 l l.length),[some (l.map cI)]):=by
 refine Cd cl7 rfl ?_
 simp(disch:=try exact dq)only[tx,seval,aa7];generalize hr:Ad _ _ _=r;refine B7 hr l.length (λj=>[.own 0 1 0 l.length l.length,.top,A0 A6 (P2 l j),.int .i64 j]) (λ_=>[some (l.map cI)]) (λ_=>True) ?_ ?_ trivial ?_ ?_
 ·rfl
 ·rfl
 ·intro j hj _;have hj':((j:Int)<(l.length:Int)):=om;have hg:(l.map cI)[j]?=some [.int .i64 (l.getD j default)]:=G9 om cI;have hmem:l.getD j default∈l:=by
   rw[dx5,dy1 hj];exact e1c _
  have hx:=hb _ hmem;have hol:=c87 l j om;rw[P2];generalize l.getD j default=x at *;generalize P2 l j=o at *;have hA:=df8 o om x (x+1);by_cases c1:0<=x
  ·by_cases c2:x<1073741824
   ·rw[if_pos ⟨c1,c2⟩]
    simp(disch:=try exact dq)only[tx,seval,hj',hg,c1,c2,KQ 194 rfl,An,hA,Au,B8,e2b];rfl
   ·rw[if_neg (λh=>c2 h.2)]
    simp(disch:=try exact dq)only[tx,seval,hj',hg,c1,c2,Au,B8,e2b];rfl
  ·rw[if_neg (λh=>c1 h.1)]
   simp(disch:=try exact dq)only[tx,seval,hj',hg,c1,Au,B8,e2b];rfl
 ·intro _
  simp(disch:=try exact dq)only[tx,seval,e2k,Au,B8]
def az1:List AV:=[.int .i64 0,.int .i64 0,.int .i64 0,.int .i64 0,.int .i64 0,.int .u32 0,.int .u32 0,.int .u32 0,.int .u32 0,.int .i64 0,.int .i64 0,.int .u32 0,.int .u32 0,.int .u32 0,.int .u32 0,.int .i64 0,.int .i64 0,.int .u32 0,.int .u32 0,.int .u32 0,.int .u32 0,.int .i64 0,.emp,.emp,.emp,.emp,.own 5 5 0 1 1,.own 6 6 0 1 1,.own 7 1 0 1 1,.own 8 1 0 1 1]
def X6(t:Ptr)(txg:Int)(free:List Int)(bl:List Block)(at' all:List Int)(x y z w:AObj):AH:=[some [Sd t txg free bl.length all.length],some (bl.map E8),some (at'.map cI),some (all.map cI),some [az1],some x,some y,some z,some w]
theorem cb8(x y z w:AObj)(hx:Cf (some x)=[]/\∀ τ,Av τ x=x)(hy:Cf (some y)=[]/\∀ τ,Av τ y=y)(hz:Cf (some z)=[]/\∀ τ,Av τ z=z)(hw:Cf (some w)=[]/\∀ τ,Av τ w=w)(t:Ptr)(txg:Int)(free:List Int)(bl:List Block)(at' all:List Int)(ha:at'.length=bl.length)(hl:all.length<=1000000)(p:Ptr) :
 Ev tab A5 A4 253 [.ptr 0 0 0 1,.agg (A7 p)] (X6 t txg free bl at' all x y z w)=some (.agg (A7 p),X6 t txg free bl at' (all++[p.addr]) x y z w):=by
 refine Cd b8q rfl ?_;have hap:all.map cI++[[.int .i64 p.addr]]=(all++[p.addr]).map cI:=by rw[e1w];rfl
 unfold X6 Sd az1
 simp(disch:=try exact dq)only[tx,seval,a2f,A7,hx.1,hx.2,hy.1,hy.2,hz.1,hz.2,hw.1,hw.2,a73,Au,B8,Bw,Bv,e1q,e0l,e15,e1n,hap,ha]
theorem cc1(x y z w:AObj)(hx:Cf (some x)=[]/\∀ τ,Av τ x=x)(hy:Cf (some y)=[]/\∀ τ,Av τ y=y)(hz:Cf (some z)=[]/\∀ τ,Av τ z=z)(hw:Cf (some w)=[]/\∀ τ,Av τ w=w)(t:Ptr)(txg:Int)(free:List Int)(bl:List Block)(at' all:List Int)(ha:at'.length=bl.length)(hl:all.length<=1000000)(hb:bl.length<free.length)(hf:free.length<=1000000)(kind:Int)(load:Bytes)(hload:load.length<=1000000) :
 Ev tab A5 A4 191 [.ptr 0 0 0 1,.int .i64 kind,.str load] (X6 t txg free bl at' all x y z w)=some (.agg (A7 (Ie free txg kind load bl.length)),X6 t txg free (bl++[⟨kind,txg,load⟩]) (at'++[free.getD bl.length default]) (all++[(Ie free txg kind load bl.length).addr]) x y z w):=by
 refine Cd b8t rfl ?_;unfold Ie;generalize hq:free.getD bl.length default=a at *;have hT:=cb8 x y z w hx hy hz hw t txg free (bl++[⟨kind,txg,load⟩]) (at'++[a]) all (by simp[ha]) hl (L9 a ⟨kind,txg,load⟩);have hB:=λH=>Ye (orc:=A5) a kind txg load om H;generalize L9 a ⟨kind,txg,load⟩=p at *;have hap1:bl.map E8++[[.int .i64 kind,.int .i64 txg,.str load]]=(bl++[(⟨kind,txg,load⟩:Block)]).map E8:=by rw[e1w];rfl
 have hap2:at'.map cI++[[.int .i64 a]]=(at'++[a]).map cI:=by rw[e1w];rfl
 have hb':¬ ((free.length:Int)<=(bl.length:Int)):=om;unfold X6 Sd az1 at hT ⊢;simp only[A7,e0l,e15,e1n,e2s]at hT hB ⊢
 simp(disch:=try exact dq)only[tx,seval,a2k,KQ 253 rfl,An,hT,hB,hb',hq,hap1,hap2,hx.1,hx.2,hy.1,hy.2,hz.1,hz.2,hw.1,hw.2,a73,Au,B8,Bw,Bv,e1q,e0l,e15,e1n,ha,Ax]
def Ub(x:Block):List PV:=[.int .i64 x.kind,.int .i64 x.birth,.str x.load]
theorem c00(l:List Block):Ct (l.map E8)=some (l.map Ub):=Lp _ _ (λ_=>rfl) l
theorem bp3(a:AV)(r' sz' o' l' t':Nat)(H:AH):K tab A5 A4 55 [a,.own r' sz' o' l' t'] H=Gs tab A5 A4 55 [a,.own r' sz' o' l' t'] H (Ac (Bc H [a,.own r' sz' o' l' t'])) (K tab A5 A4 55 (Bc H [a,.own r' sz' o' l' t']) H):=J7 _ _ _ rfl _ _
theorem P7{Q:R3->Prop}{step:List AV->AH->R3}{cf:List AV}{H:AH}{r:R3}(hl:Ad step cf H=r)(h:Q (Wt step (step cf H))):Q r:=by
 subst hl;rw[Sc];exact h
def lyF:List Int:=Fc 40 14
def b81:Ptr:=Ie lyF 1 2 (Dv ⟨2,0,[]⟩ 0 (Ab 4)) 0
def lyN:List Ptr:=(Ab 8).set 0 b81
def b80:Ptr:=Ie lyF 1 3 (Hv lyN) 1
def lyT:Bytes:=Fx [⟨1,1,0,0⟩] [b80]
def Jm:Ptr:=Ie lyF 1 4 lyT 2
def S8:List Block:=[⟨2,1,Dv ⟨2,0,[]⟩ 0 (Ab 4)⟩,⟨3,1,Hv lyN⟩,⟨4,1,lyT⟩]
def Ui:List Int:=[14,15,16]
def lyH:Sl Rn:=P2 [14,15,16,17,18] 5
def lyV:AV:=.tuple [.agg [.fz (S8.map Ub),.fz (Ui.map λx=>[.int .i64 x]),.int .i64 Jm.addr,.int .i64 Jm.birth,.int .u32 Jm.sum.a.toNat,.int .u32 Jm.sum.b.toNat,.int .u32 Jm.sum.c.toNat,.int .u32 Jm.sum.d.toNat,A0 A6 lyH,.fz [[.int .i64 17],[.int .i64 18]]],.bool true]
theorem b7d:FilesOk Iu:=by
 refine⟨by decide,?_⟩;intro x hx;have h:x=foldN\/x=node0:=by simpa [Iu]using hx
 rcases h with rfl|rfl<;>decide
theorem c2y:a5m [⟨14,54⟩]:=by
 refine⟨by decide,?_⟩;intro x hx;obtain rfl:=e0m.1 hx;decide
theorem cc2(N:Sl Node)(hN:N=some Iu)(L:Sl Dset)(hL:L=some [⟨1,1,0,0,N⟩])(R:Sl Rn)(hR:R=some [⟨14,54⟩])(H:AH):K tab A5 A4 125 [.int .i64 1,A0 A6 R,A0 Ak L,.emp] H=some (lyV,H):=by
 refine Ah cq0 rfl (by simp[Ac,A8,Ap]) (by simp[lyV,Ac,A8,Ap]) ?_ H;have h1:=λH=>ay1 L (by rw[hL];show 1<=1000000;omega) (by rw[hL,hN];intro d hd;obtain rfl:=e0m.1 hd;exact b7d) H;have e1:Kx (els L)=true:=by rw[hL,hN];decide +kernel
 rw[e1]at h1;have h2:=λH=>b7q R (by rw[hR];decide) H;have e2:G6 (els R)=true:=by rw[hR];decide +kernel
 rw[e2]at h2;have hRo:a5m (els R):=by
  rw[hR];exact c2y
 have h3:=λH=>b1h R hRo H;have e3:H4 (els R)=40:=by rw[hR];decide +kernel
 rw[e3]at h3;have h4:=λH=>d6m R hRo 40 om H;have e4:ag1 (els R) 40=[.fz ((Fc 40 14).map λx=>[.int .i64 x]),.bool true]:=by rw[hR];rfl
 rw[e4]at h4;have hF:(Fc 40 14).length=40:=Zt _ _;generalize hFe:Fc 40 14=F at *;have hLl:(els L).length=1:=by rw[hL];rfl
 have hLi:((els L).length:Int)=1:=by rw[hL];rfl
 have hL0:(els L).getD 0 default=⟨1,1,0,0,N⟩:=by rw[hL];rfl
 have hNl:(els N).length=8:=by rw[hN];rfl
 have hNi:((els N).length:Int)=8:=by rw[hN];rfl
 have hN0:(els N).getD 0 default=⟨2,0,[],[],0⟩:=by rw[hN];rfl
 have hNs:∀ j,0<j->j<8->(els N).getD j default=⟨0,0,[],[],0⟩:=by
  rw[hN];intro j h0 h8;have:j=1\/j=2\/j=3\/j=4\/j=5\/j=6\/j=7:=om;rcases this with rfl|rfl|rfl|rfl|rfl|rfl|rfl<;>rfl
 simp(disch:=try exact dq)only[tx,seval,ae2,h1,h2,h3,h4,hLi];generalize hr:Ad _ _ _=r;refine P7 (Q:=λr=>Cg _ _ _ (Be _ _ (B0 _ r))=_) hr ?_
 simp(disch:=try exact dq)only[tx,seval,hLi,Aa,hL0,Ak,Va,hNi];generalize hr2:Ad _ _ _=r2;have hld0:=Lv ⟨2,0,[]⟩ 0 (Ab 4);have hn1:=cc0 Bb 1 F [] [] [] rfl (by decide) (by rw[hF];decide) om 0 ⟨2,0,[],[],0⟩ (Ab 4) rfl (by decide) (by decide) (by show(Dv ⟨2,0,[]⟩ 0 (Ab 4)).length<=1000000;omega);obtain⟨B,hB⟩:∃ B:List Block,B=[⟨2,1,Dv ⟨2,0,[]⟩ 0 (Ab 4)⟩]:=⟨_,rfl⟩;obtain⟨p0,hp0⟩:∃ p:Ptr,p=Ie F 1 2 (Dv ⟨2,0,[]⟩ 0 (Ab 4)) 0:=⟨_,rfl⟩;obtain⟨A,hA⟩:∃ A:List Int,A=[F.getD 0 default]:=⟨_,rfl⟩;obtain⟨C,hC⟩:∃ C:List Int,C=[p0.addr]:=⟨_,rfl⟩;have hn2:Ev tab A5 A4 189 [.ptr 0 0 0 1,.int .i64 0,.agg [.int .i64 2,.int .i64 0,.str [],.str [],.int .i64 0],.own 8 6 0 4 4] (Kz Bb 1 F [] [] []++[some ((Ab 4).map A7)])=some (.agg (A7 p0),Kz Bb 1 F B A C++[some ((Ab 4).map A7)]):=by
  rw[hC,hp0,hB,hA];exact hn1
 clear hn1;have hBl:B.length=1:=by rw[hB];rfl
 have hAl:A.length=1:=by rw[hA];rfl
 have hCl:C.length=1:=by rw[hC];rfl
 obtain⟨bl,hbl⟩:∃ f:Nat->List Block,f=λj=>if j=0 then []else B:=⟨_,rfl⟩
 obtain⟨ats,hats⟩:∃ f:Nat->List Int,f=λj=>if j=0 then []else A:=⟨_,rfl⟩
 obtain⟨als,hals⟩:∃ f:Nat->List Int,f=λj=>if j=0 then []else C:=⟨_,rfl⟩
 obtain⟨nds,hnds⟩:∃ f:Nat->List Ptr,f=λj=>if j=0 then Ab 8 else(Ab 8).set 0 p0:=⟨_,rfl⟩
 refine G7 (Q:=λr=>Cg _ _ _ (Be _ _ (B0 _ (Wt _ (F3 _ _ (Be _ _ (B0 _ (Be _ _ (B0 _ r))))))))=_) hr2 8
  (λj=>[.top,.top,A0 Ak L,.top,.ptr 0 0 0 1,.top,.fz (F.map λx=>[.int .i64 x]),.top,.ptr 3 0 0 1,.int .i64 0,.own 10 6 0 0 0,.int .i64 0,.own 11 6 0 8 8,.own 12 6 0 (4*j) (4*j),.int .i64 j,.top,.top,.top,.top,.top,.top,.top,.top,.top,.top,.top,.top,.top,.top,.top,.top,.top,.top,.top,.top,.top,.top,.top])
  (λj=>[some [[.emp,.emp,.int .i64 0,.int .i64 0,.int .u32 0,.int .u32 0,.int .u32 0,.int .u32 0,.emp,.emp]],some [[.int .i64 0,.int .i64 0,.int .i64 0,.int .i64 0,.int .i64 0,.int .u32 0,.int .u32 0,.int .u32 0,.int .u32 0,.int .i64 0,.int .i64 0,.int .u32 0,.int .u32 0,.int .u32 0,.int .u32 0,.int .i64 0,.int .i64 0,.int .u32 0,.int .u32 0,.int .u32 0,.int .u32 0,.int .i64 0,.emp,.emp,.emp,.emp,.own 7 5 0 0 0,.emp,.own 8 1 0 0 0,.own 9 1 0 0 0]],some [[.int .i64 0,.int .i64 0,.int .i64 0,.int .i64 0,.int .i64 0,.int .u32 0,.int .u32 0,.int .u32 0,.int .u32 0,.int .i64 0,.int .i64 0,.int .u32 0,.int .u32 0,.int .u32 0,.int .u32 0,.int .i64 0,.int .i64 0,.int .u32 0,.int .u32 0,.int .u32 0,.int .u32 0,.int .i64 0,.emp,.emp,.emp,.emp,.emp,.emp,.emp,.emp]],some [[.own 4 3 0 (bl j).length (bl j).length,.own 5 1 0 (bl j).length (bl j).length,.int .i64 0,.int .i64 0,.int .u32 0,.int .u32 0,.int .u32 0,.int .u32 0,.emp,.emp,.int .i64 1,.fz (F.map λx=>[.int .i64 x]),.own 6 1 0 (als j).length (als j).length,.bool false,.own 1 30 0 1 1]],some ((bl j).map E8),some ((ats j).map cI),some ((als j).map cI),some [],some [],some [],some [],some ((nds j).map A7),some ((Ab (4*j)).map A7)]) (λ_=>True) ?_ ?_ trivial ?_ ?_
 ·rfl
 ·rw[hbl,hats,hals,hnds];rfl
 ·intro j hj _;have hj':((j:Int)<8):=om;have hpp:∀ m n,(Ab m).map A7++(Ab n).map A7=(Ab (m+n)).map A7:=λm n=>by rw[<-e1w];unfold Ab;rw[List.replicate_append_replicate]
  have hq4:[[.int .i64 0,.int .i64 0,.int .u32 0,.int .u32 0,.int .u32 0,.int .u32 0],[.int .i64 0,.int .i64 0,.int .u32 0,.int .u32 0,.int .u32 0,.int .u32 0],[.int .i64 0,.int .i64 0,.int .u32 0,.int .u32 0,.int .u32 0,.int .u32 0],[.int .i64 0,.int .i64 0,.int .u32 0,.int .u32 0,.int .u32 0,.int .u32 0]]=(Ab 4).map A7:=rfl;have hPl:(Ab (4*j)).length=4*j:=by simp[Ab]
  by_cases j0:j=0
  ·subst j0;have b1:bl 0=[]:=(by rw[hbl];rfl);have b2:bl (0+1)=B:=(by rw[hbl];rfl);have a1:ats 0=[]:=(by rw[hats];rfl);have a2:ats (0+1)=A:=(by rw[hats];rfl);have c1:als 0=[]:=(by rw[hals];rfl);have c2:als (0+1)=C:=(by rw[hals];rfl);have n1:nds 0=Ab 8:=(by rw[hnds];rfl);have n2:nds (0+1)=(Ab 8).set 0 p0:=(by rw[hnds];rfl);rw[b1,b2,a1,a2,c1,c2,n1,n2];clear b1 b2 a1 a2 c1 c2 n1 n2;have hn3:Ev tab A5 A4 189 [.ptr 0 0 0 1,.int .i64 0,.agg [.int .i64 2,.int .i64 0,.str [],.str [],.int .i64 0],.own 8 6 0 4 4] [some [[.own 1 3 0 0 0,.own 2 1 0 0 0,.int .i64 0,.int .i64 0,.int .u32 0,.int .u32 0,.int .u32 0,.int .u32 0,.emp,.emp,.int .i64 1,.fz (F.map λx=>[.int .i64 x]),.own 3 1 0 0 0,.bool false,.own 4 30 0 1 1]],some [],some [],some [],some [[.int .i64 0,.int .i64 0,.int .i64 0,.int .i64 0,.int .i64 0,.int .u32 0,.int .u32 0,.int .u32 0,.int .u32 0,.int .i64 0,.int .i64 0,.int .u32 0,.int .u32 0,.int .u32 0,.int .u32 0,.int .i64 0,.int .i64 0,.int .u32 0,.int .u32 0,.int .u32 0,.int .u32 0,.int .i64 0,.emp,.emp,.emp,.emp,.own 5 5 0 0 0,.emp,.own 6 1 0 0 0,.own 7 1 0 0 0]],some [],some [],some [],some ((Ab 4).map A7)]=some (.agg [.int .i64 p0.addr,.int .i64 p0.birth,.int .u32 p0.sum.a.toNat,.int .u32 p0.sum.b.toNat,.int .u32 p0.sum.c.toNat,.int .u32 p0.sum.d.toNat],[some [[.own 1 3 0 B.length B.length,.own 2 1 0 B.length B.length,.int .i64 0,.int .i64 0,.int .u32 0,.int .u32 0,.int .u32 0,.int .u32 0,.emp,.emp,.int .i64 1,.fz (F.map λx=>[.int .i64 x]),.own 3 1 0 C.length C.length,.bool false,.own 4 30 0 1 1]],some (B.map E8),some (A.map cI),some (C.map cI),some [[.int .i64 0,.int .i64 0,.int .i64 0,.int .i64 0,.int .i64 0,.int .u32 0,.int .u32 0,.int .u32 0,.int .u32 0,.int .i64 0,.int .i64 0,.int .u32 0,.int .u32 0,.int .u32 0,.int .u32 0,.int .i64 0,.int .i64 0,.int .u32 0,.int .u32 0,.int .u32 0,.int .u32 0,.int .i64 0,.emp,.emp,.emp,.emp,.own 5 5 0 0 0,.emp,.own 6 1 0 0 0,.own 7 1 0 0 0]],some [],some [],some [],some ((Ab 4).map A7)]):=hn2
   simp(disch:=try exact dq)only[tx,seval,hj',hLi,Aa,hL0,Ak,Va,hNi,hN0,Ao,hq4,Ar,Aw,Au,B8,Bw,Bv,e1q,Nat.mul_zero];generalize hr3:Ad _ _ _=r3;refine G7 (Q:=λr=>Rd _ _ _ _ (F3 _ _ (Be _ _ (B0 _ (Be _ _ (B0 _ r)))))) hr3 4 (λk=>[.top,.top,A0 Ak L,.top,.ptr 0 0 0 1,.top,.fz (F.map λx=>[.int .i64 x]),.top,.ptr 3 0 0 1,.int .i64 0,.own 10 6 0 0 0,.int .i64 0,.own 11 6 0 8 8,.own 12 6 0 0 0,.int .i64 0,.ptr 13 0 0 1,.own 14 6 0 4 4,.int .i64 k,.top,.top,.top,.top,.top,.top,.top,.top,.top,.top,.top,.top,.top,.top,.top,.top,.top,.top,.top,.top]) (λ_=>_) (λ_=>True) ?_ rfl trivial ?_ ?_
   ·rfl
   ·intro k hk _;have hk':((k:Int)<4):=om;have hP:=b6n k hk
    simp(disch:=try exact dq)only[tx,seval,hk',hP,e2b,Ar,Aw,Au,B8,Bw,Bv,e1q];rfl
   ·intro _;have q4:List.take 4 ((Ab 4).map A7)=(Ab 4).map A7:=rfl;have hal:(((Ab 4).map A7).all λe=>decide (e.length=6))=true:=rfl;have hll:((Ab 4).map A7).length=4:=rfl;have hg0:((Ab 8).map A7)[0]?=some [.int .i64 0,.int .i64 0,.int .u32 0,.int .u32 0,.int .u32 0,.int .u32 0]:=rfl
    simp(disch:=try exact dq)only[tx,seval,KQ 189 rfl,An,hn3,hg0,Hs,hpp,q4,hal,hll,hPl,e2b,Ar,Aw,Au,B8,Bw,Bv,e1q]
  ·have b1:bl j=B:=(by rw[hbl];exact if_neg j0);have b2:bl (j+1)=B:=(by rw[hbl];exact if_neg om);have a1:ats j=A:=(by rw[hats];exact if_neg j0);have a2:ats (j+1)=A:=(by rw[hats];exact if_neg om);have c1:als j=C:=(by rw[hals];exact if_neg j0);have c2:als (j+1)=C:=(by rw[hals];exact if_neg om);have n1:nds j=(Ab 8).set 0 p0:=(by rw[hnds];exact if_neg j0);have n2:nds (j+1)=(Ab 8).set 0 p0:=(by rw[hnds];exact if_neg om);have hx:=hNs j om hj;rw[b1,b2,a1,a2,c1,c2,n1,n2];clear b1 b2 a1 a2 c1 c2 n1 n2
   simp(disch:=try exact dq)only[tx,seval,hj',hLi,Aa,hL0,Ak,Va,hNi,hx,Ao,hq4,Ar,Aw,Au,B8,Bw,Bv,e1q];generalize hr3:Ad _ _ _=r3;refine G7 (Q:=λr=>Rd _ _ _ _ (F3 _ _ (Be _ _ (B0 _ (Be _ _ (B0 _ r)))))) hr3 4 (λk=>[.top,.top,A0 Ak L,.top,.ptr 0 0 0 1,.top,.fz (F.map λx=>[.int .i64 x]),.top,.ptr 3 0 0 1,.int .i64 0,.own 10 6 0 0 0,.int .i64 0,.own 11 6 0 8 8,.own 12 6 0 (4*j) (4*j),.int .i64 j,.ptr 13 0 0 1,.own 14 6 0 4 4,.int .i64 k,.top,.top,.top,.top,.top,.top,.top,.top,.top,.top,.top,.top,.top,.top,.top,.top,.top,.top,.top,.top]) (λ_=>_) (λ_=>True) ?_ rfl trivial ?_ ?_
   ·rfl
   ·intro k hk _;have hk':((k:Int)<4):=om;have hP:=b6n k hk
    simp(disch:=try exact dq)only[tx,seval,hk',hP,e2b,Ar,Aw,Au,B8,Bw,Bv,e1q];rfl
   ·intro _;have q4:List.take 4 ((Ab 4).map A7)=(Ab 4).map A7:=rfl;have hal:(((Ab 4).map A7).all λe=>decide (e.length=6))=true:=rfl;have hll:((Ab 4).map A7).length=4:=rfl
    simp(disch:=try exact dq)only[tx,seval,hpp,q4,hal,hll,hPl,e2b,Ar,Aw,Au,B8,Bw,Bv,e1q];rw[show 4*j+4=4*(j+1) by omega];exact⟨rfl,rfl⟩
 ·intro _;have b1:bl 8=B:=by rw[hbl];rfl
  have a1:ats 8=A:=by rw[hats];rfl
  have c1:als 8=C:=by rw[hals];rfl
  have n1:nds 8=(Ab 8).set 0 p0:=by rw[hnds];rfl
  rw[b1,a1,c1,n1];clear b1 a1 c1 n1 hbl hats hals hnds hn2;obtain⟨ND,hND⟩:∃ l:List Ptr,l=(Ab 8).set 0 p0:=⟨_,rfl⟩;obtain⟨PT,hPT⟩:∃ l:List Ptr,l=Ab (4*8):=⟨_,rfl⟩;rw[<-hND,<-hPT];have hNDl:ND.length=8:=by rw[hND];rfl
  have hPTl:PT.length=32:=by rw[hPT];rfl
  have hs1:=cb9 Bb 1 F B A C om om om om ND hNDl (by have:=av4 ND;omega);obtain⟨p1,hp1⟩:∃ p:Ptr,p=Ie F 1 3 (Hv ND) B.length:=⟨_,rfl⟩;obtain⟨B2,hB2⟩:∃ b:List Block,b=B++[⟨3,1,Hv ND⟩]:=⟨_,rfl⟩;obtain⟨A2,hA2⟩:∃ A2:List Int,A2=A++[F.getD B.length default]:=⟨_,rfl⟩;obtain⟨C2,hC2⟩:∃ C2:List Int,C2=C++[p1.addr]:=⟨_,rfl⟩;have hs2:Ev tab A5 A4 190 [.ptr 0 0 0 1,.own 8 6 0 8 8] [some [[.own 1 3 0 B.length B.length,.own 2 1 0 B.length B.length,.int .i64 0,.int .i64 0,.int .u32 0,.int .u32 0,.int .u32 0,.int .u32 0,.emp,.emp,.int .i64 1,.fz (F.map λx=>[.int .i64 x]),.own 3 1 0 C.length C.length,.bool false,.own 4 30 0 1 1]],some (B.map E8),some (A.map cI),some (C.map cI),some [[.int .i64 0,.int .i64 0,.int .i64 0,.int .i64 0,.int .i64 0,.int .u32 0,.int .u32 0,.int .u32 0,.int .u32 0,.int .i64 0,.int .i64 0,.int .u32 0,.int .u32 0,.int .u32 0,.int .u32 0,.int .i64 0,.int .i64 0,.int .u32 0,.int .u32 0,.int .u32 0,.int .u32 0,.int .i64 0,.emp,.emp,.emp,.emp,.own 5 5 0 0 0,.emp,.own 6 1 0 0 0,.own 7 1 0 0 0]],some [],some [],some [],some (ND.map A7)]=some (.agg [.int .i64 p1.addr,.int .i64 p1.birth,.int .u32 p1.sum.a.toNat,.int .u32 p1.sum.b.toNat,.int .u32 p1.sum.c.toNat,.int .u32 p1.sum.d.toNat],[some [[.own 1 3 0 B2.length B2.length,.own 2 1 0 B2.length B2.length,.int .i64 0,.int .i64 0,.int .u32 0,.int .u32 0,.int .u32 0,.int .u32 0,.emp,.emp,.int .i64 1,.fz (F.map λx=>[.int .i64 x]),.own 3 1 0 C2.length C2.length,.bool false,.own 4 30 0 1 1]],some (B2.map E8),some (A2.map cI),some (C2.map cI),some [[.int .i64 0,.int .i64 0,.int .i64 0,.int .i64 0,.int .i64 0,.int .u32 0,.int .u32 0,.int .u32 0,.int .u32 0,.int .i64 0,.int .i64 0,.int .u32 0,.int .u32 0,.int .u32 0,.int .u32 0,.int .i64 0,.int .i64 0,.int .u32 0,.int .u32 0,.int .u32 0,.int .u32 0,.int .i64 0,.emp,.emp,.emp,.emp,.own 5 5 0 0 0,.emp,.own 6 1 0 0 0,.own 7 1 0 0 0]],some [],some [],some [],some (ND.map A7)]):=by
   rw[hp1]at hC2;rw[hC2,hp1,hB2,hA2];exact hs1
  clear hs1;have ndl:(ND.map A7).length=8:=by rw[e1q];exact hNDl
  have ptl:(PT.map A7).length=32:=by rw[e1q];exact hPTl
  simp(disch:=try exact dq)only[tx,seval,e2k,hLi,Aa,hL0,Ak,Va,hNi,KQ 190 rfl,An,hs2,Mk,M5,b0l,O9,Ar,Aw,Au,B8,Bw,Bv,e1q,hNDl,hPTl];generalize hr5:Ad _ _ _=r5;refine Qh (Q:=λr=>Cg _ _ _ (Be _ _ (B0 _ r))=_) hr5 ?_;have hB2l:B2.length=2:=by rw[hB2,e0l,hBl];rfl
  have hA2l:A2.length=2:=by rw[hA2,e0l,hAl];rfl
  have hC2l:C2.length=2:=by rw[hC2,e0l,hCl];rfl
  obtain⟨TT,hTT⟩:∃ s:Bytes,s=Fx ((els L).map Bf) [p1]:=⟨_,rfl⟩;have hTl:TT.length<=1000:=by rw[hTT];exact av2 _ _
  have hPTb:=λH=>av3 L [p1] om (by show 1<=1000000;omega) H;rw[<-hTT,C1]at hPTb;simp only[e2c,e2o,Ae]at hPTb;have hn5:=cc1 [[.int .i64 1,.int .i64 1,.int .i64 0,.int .i64 0,A0 Ao N]] [[.int .i64 p1.addr,.int .i64 p1.birth,.int .u32 p1.sum.a.toNat,.int .u32 p1.sum.b.toNat,.int .u32 p1.sum.c.toNat,.int .u32 p1.sum.d.toNat]] [[.fz (List.take 8 (List.map Ae ND))]] [[.fz (List.take 32 (List.map Ae PT))]] ⟨by cases N<;>rfl,λτ=>by cases N<;>rfl⟩ ⟨rfl,λτ=>rfl⟩ ⟨rfl,λτ=>rfl⟩ ⟨rfl,λτ=>rfl⟩ Bb 1 F B2 A2 C2 om om om om 4 TT om;obtain⟨p2,hp2⟩:∃ p:Ptr,p=Ie F 1 4 TT B2.length:=⟨_,rfl⟩;obtain⟨B3,hB3⟩:∃ b:List Block,b=B2++[⟨4,1,TT⟩]:=⟨_,rfl⟩;obtain⟨A3,hA3⟩:∃ A3:List Int,A3=A2++[F.getD B2.length default]:=⟨_,rfl⟩;obtain⟨C3,hC3⟩:∃ C3:List Int,C3=C2++[p2.addr]:=⟨_,rfl⟩;have hn6:Ev tab A5 A4 191 [.ptr 0 0 0 1,.int .i64 4,.str TT] [some [[.own 1 3 0 B2.length B2.length,.own 2 1 0 B2.length B2.length,.int .i64 0,.int .i64 0,.int .u32 0,.int .u32 0,.int .u32 0,.int .u32 0,.emp,.emp,.int .i64 1,.fz (F.map λx=>[.int .i64 x]),.own 3 1 0 C2.length C2.length,.bool false,.own 4 30 0 1 1]],some (B2.map E8),some (A2.map cI),some (C2.map cI),some [[.int .i64 0,.int .i64 0,.int .i64 0,.int .i64 0,.int .i64 0,.int .u32 0,.int .u32 0,.int .u32 0,.int .u32 0,.int .i64 0,.int .i64 0,.int .u32 0,.int .u32 0,.int .u32 0,.int .u32 0,.int .i64 0,.int .i64 0,.int .u32 0,.int .u32 0,.int .u32 0,.int .u32 0,.int .i64 0,.emp,.emp,.emp,.emp,.own 5 5 0 1 1,.own 6 6 0 1 1,.own 7 1 0 1 1,.own 8 1 0 1 1]],some [[.int .i64 1,.int .i64 1,.int .i64 0,.int .i64 0,A0 Ao N]],some [[.int .i64 p1.addr,.int .i64 p1.birth,.int .u32 p1.sum.a.toNat,.int .u32 p1.sum.b.toNat,.int .u32 p1.sum.c.toNat,.int .u32 p1.sum.d.toNat]],some [[.fz (List.take 8 (List.map Ae ND))]],some [[.fz (List.take 32 (List.map Ae PT))]]]=some (.agg [.int .i64 p2.addr,.int .i64 p2.birth,.int .u32 p2.sum.a.toNat,.int .u32 p2.sum.b.toNat,.int .u32 p2.sum.c.toNat,.int .u32 p2.sum.d.toNat],[some [[.own 1 3 0 B3.length B3.length,.own 2 1 0 B3.length B3.length,.int .i64 0,.int .i64 0,.int .u32 0,.int .u32 0,.int .u32 0,.int .u32 0,.emp,.emp,.int .i64 1,.fz (F.map λx=>[.int .i64 x]),.own 3 1 0 C3.length C3.length,.bool false,.own 4 30 0 1 1]],some (B3.map E8),some (A3.map cI),some (C3.map cI),some [[.int .i64 0,.int .i64 0,.int .i64 0,.int .i64 0,.int .i64 0,.int .u32 0,.int .u32 0,.int .u32 0,.int .u32 0,.int .i64 0,.int .i64 0,.int .u32 0,.int .u32 0,.int .u32 0,.int .u32 0,.int .i64 0,.int .i64 0,.int .u32 0,.int .u32 0,.int .u32 0,.int .u32 0,.int .i64 0,.emp,.emp,.emp,.emp,.own 5 5 0 1 1,.own 6 6 0 1 1,.own 7 1 0 1 1,.own 8 1 0 1 1]],some [[.int .i64 1,.int .i64 1,.int .i64 0,.int .i64 0,A0 Ao N]],some [[.int .i64 p1.addr,.int .i64 p1.birth,.int .u32 p1.sum.a.toNat,.int .u32 p1.sum.b.toNat,.int .u32 p1.sum.c.toNat,.int .u32 p1.sum.d.toNat]],some [[.fz (List.take 8 (List.map Ae ND))]],some [[.fz (List.take 32 (List.map Ae PT))]]]):=by
   rw[hp2]at hC3;rw[hC3,hp2,hB3,hA3];exact hn5
  clear hn5;have hB3l:B3.length=3:=by rw[hB3,e0l,hB2l];rfl
  have hA3l:A3.length=3:=by rw[hA3,e0l,hA2l];rfl
  have hC3l:C3.length=3:=by rw[hC3,e0l,hC2l];rfl
  have hC3e:C3=[14,15,16]:=by
   rw[hC3,hC2,hC,hp0,hp1,hp2];show [F.getD 0 default,F.getD B.length default,F.getD B2.length default]=_;rw[hBl,hB2l,<-hFe];rfl
  have hf3:F.getD 3 default=17:=by rw[<-hFe];rfl
  have hf4:F.getD 4 default=18:=by rw[<-hFe];rfl
  have htop:Dc AV.top=some .top:=rfl;have hk3:List.take 3 (B3.map Ub)=B3.map Ub:=dz1 (by rw[e1q];omega);have hk4:List.take 3 (A3.map λx=>[PV.int .i64 x])=A3.map λx=>[PV.int .i64 x]:=dz1 (by rw[e1q];omega);have hw4:(IntKind.i64.wrap 4).toNat=4:=by decide
  have hFi:(F.length:Int)=40:=by rw[hF];rfl
  have hap:C3.map cI++[[.int .i64 17],[.int .i64 18]]=(C3++[17,18]).map cI:=by rw[e1w];rfl
  have hCC:(C3++[17,18]).length=5:=by rw[e0l,hC3l];rfl
  have hof:=c89 (C3++[17,18]) om (by rw[hC3e];intro x hx;simp at hx;omega);rw[hCC]at hof;rw[hB3l,hC3l]at hn6
  simp(disch:=try exact dq)only[tx,seval,e2k,hLi,KQ 191 rfl,An,hn6,hB3l,hA3l,hFi,hf3,hf4,hap,hof,Ax,KQ 192 rfl,hw4,Eg (f:=192) rfl,Rp (f:=192) rfl,Bo,Bq,e1l,e18,e1o,htop,hk3,hk4,Px,c00,O9,b0l,M5,bp3,Ez,hPTb,Ar,Aw,Au,B8,Bw,Bv,e1q];have hp0e:p0=b81:=by rw[hp0,<-hFe];rfl
  have hNDe:ND=lyN:=by rw[hND,hp0e];rfl
  have hp1e:p1=b80:=by rw[hp1,hNDe,hBl,<-hFe];rfl
  have hTe:TT=lyT:=by rw[hTT,hL,hp1e];rfl
  have hp2e:p2=Jm:=by rw[hp2,hTe,hB2l,<-hFe];rfl
  have hB3e:B3=S8:=by rw[hB3,hB2,hB,hNDe,hTe];rfl
  have hA3e:A3=Ui:=by
   rw[hA3,hA2,hA];show [F.getD 0 default,F.getD B.length default,F.getD B2.length default]=_;rw[hBl,hB2l,<-hFe];rfl
  rw[hC3e,hB3e,hA3e,hp2e];rfl
def Nj(d:Dev)(l:List (Int×Bytes)):Dev×Bool:=if(Fh d l).2=true then Qt (Fh d l).1 else((Fh d l).1,false)
def a8e:List (Int×Bytes):=[(Gc 40 0,L8 7 40),(Gc 40 1,L8 7 40),(Gc 40 2,L8 7 40),(Gc 40 3,L8 7 40)]
def Iy:Dev:=(Nj (Es 68) a8e).1
def gS:Space:=aq2 ⟨none,none,none,none⟩ lyH
def gSp:Block:=⟨5,1,Mt 40 gS.n⟩
def gR:Root:=⟨1,2,7,Jm,L9 17 gSp,Bb,0⟩
def gRt:Block:=⟨6,1,Ku gR⟩
def gU:Uber:=⟨1,7,1,L9 18 gRt⟩
def gP:List (Int×Bytes):=List.zipWith (λa b=>(a,Dn b)) Ui S8
def a8d:List (Int×Bytes):=gP++[(17,Dn gSp),(18,Dn gRt)]
def Pe:Dev:=(Nj Iy a8d).1
def gD3:Dev:=(Nj Pe (els (S2 40 gU 0))).1
def Dx:Dev:=(Nj gD3 (els (S2 40 gU 1))).1
theorem wr1:(Nj (Es 68) a8e).2=true:=by decide +kernel
theorem wr2:(Nj Iy a8d).2=true:=by decide +kernel
theorem wr3:(Nj Pe (els (S2 40 gU 0))).2=true:=by decide +kernel
theorem wr4:(Nj gD3 (els (S2 40 gU 1))).2=true:=by decide +kernel
def Zk(d:Dev):Bool:=decide ((els d.wait).length<=100000)&&decide ((els d.last).length<=100000)&&decide (d.arm<=1000)&&decide (0<=d.lies)&&decide (d.lies<=1000)
theorem dv0:Zk (Es 68)=true:=by decide +kernel
theorem dv1:Zk Iy=true:=by decide +kernel
theorem dv2:Zk Pe=true:=by decide +kernel
theorem dv3:Zk gD3=true:=by decide +kernel
theorem ln1:(els Iy.last).length=68:=by decide +kernel
theorem dn1:Iy.down=false:=by decide +kernel
theorem d66:b0n 40 ⟨none,none,none,none⟩=some [⟨14,54⟩]:=by decide +kernel
theorem a5t(d:Dev)(h:Zk d=true)(l:Sl (Int×Bytes))(hl:(els l).length<=100000)(e:Dev)(he:(Nj d (els l)).1=e)(hb:(Nj d (els l)).2=true)(H:AH) :
 K tab A5 A4 77 [.agg [A0 Bh d.last,A0 Bi d.wait,.int .i64 d.lies,.int .i64 d.arm,.bool d.down],A0 Bi l] H=some (.tuple [.agg [A0 Bh e.last,A0 Bi e.wait,.int .i64 e.lies,.int .i64 e.arm,.bool e.down],.bool true],H):=by
 unfold Zk at h;simp only[e14,e0r]at h;obtain⟨⟨⟨⟨h1,h2⟩,h3⟩,h4⟩,h5⟩:=h;rw[bo2 d l hl h1 h2 om om H];unfold Nj at he hb;split at hb
 ·rename_i c;rw[if_pos c]at he ⊢;rw[hb,he];rfl
 ·cases hb
theorem bp0:Lk Dx Bb=none:=by
 have h:(Lk Dx Bb).isNone=true:=by decide +kernel
 cases hw:Lk Dx Bb with
 |none=>rfl
 |some v=>rw[hw]at h;cases h
theorem d8i(d:Dev)(h:(els d.last).length<=1000000)(H:AH):K tab A5 A4 124 [.agg [A0 Bh d.last,A0 Bi d.wait,.int .i64 d.lies,.int .i64 d.arm,.bool d.down]] H=some (.int .i64 ((els d.last).length-28),H):=by
 refine Ah cq1 rfl (by simp[Ac,A8,Ap]) rfl ?_ H
 simp(disch:=try exact dq)only[tx,seval,ae3,e2b]
theorem by4(L:Sl Dset)(hL:L=some [⟨1,1,0,0,some Iu⟩])(H:AH):K tab A5 A4 79 [.agg [A0 Bh Iy.last,A0 Bi Iy.wait,.int .i64 Iy.lies,.int .i64 Iy.arm,.bool Iy.down,.int .i64 0,.int .i64 0,.int .u32 0,.int .u32 0,.int .u32 0,.int .u32 0,.int .i64 0,.int .i64 2,.int .i64 7,.int .i64 0,.int .i64 0,.int .u32 0,.int .u32 0,.int .u32 0,.int .u32 0,.int .i64 0,.int .i64 0,.int .u32 0,.int .u32 0,.int .u32 0,.int .u32 0,.int .i64 0,.int .i64 0,.int .u32 0,.int .u32 0,.int .u32 0,.int .u32 0,.int .i64 0,.emp,.emp,.emp,.emp,.int .i64 0,.int .i64 0,A0 Ak L,.bool false],.bool true,.emp] H=some (.tuple [.agg [A0 Bh Dx.last,A0 Bi Dx.wait,.int .i64 Dx.lies,.int .i64 Dx.arm,.bool Dx.down,.int .i64 gU.root.addr,.int .i64 gU.root.birth,.int .u32 gU.root.sum.a.toNat,.int .u32 gU.root.sum.b.toNat,.int .u32 gU.root.sum.c.toNat,.int .u32 gU.root.sum.d.toNat,.int .i64 gR.txg,.int .i64 gR.next,.int .i64 gR.guid,.int .i64 gR.table.addr,.int .i64 gR.table.birth,.int .u32 gR.table.sum.a.toNat,.int .u32 gR.table.sum.b.toNat,.int .u32 gR.table.sum.c.toNat,.int .u32 gR.table.sum.d.toNat,.int .i64 gR.space.addr,.int .i64 gR.space.birth,.int .u32 gR.space.sum.a.toNat,.int .u32 gR.space.sum.b.toNat,.int .u32 gR.space.sum.c.toNat,.int .u32 gR.space.sum.d.toNat,.int .i64 gR.kept.addr,.int .i64 gR.kept.birth,.int .u32 gR.kept.sum.a.toNat,.int .u32 gR.kept.sum.b.toNat,.int .u32 gR.kept.sum.c.toNat,.int .u32 gR.kept.sum.d.toNat,.int .i64 gR.keptTxg,A0 A6 gS.held,A0 A6 gS.one,A0 A6 gS.two,A0 A6 gS.kept,.int .i64 1,.int .i64 1,A0 Ak L,.bool false],.int .i64 0],H):=by
 refine Ah l79 rfl (by simp[Ac,A8,Ap]) (by simp[Ac,A8,Ap]) ?_ H;have hLl:(els L).length=1:=by rw[hL];rfl
 have h1:=λH=>ay1 L (by rw[hL];show 1<=1000000;omega) (by rw[hL];intro d hd;obtain rfl:=e0m.1 hd;exact b7d) H;have e1:Kx (els L)=true:=by rw[hL];decide +kernel
 rw[e1]at h1;have hda:=λH=>d8i Iy (by rw[ln1];omega) H;rw[ln1]at hda;have hdn:=dn1;rw[hdn]at hda;have s0:SpOk ⟨none,none,none,none⟩:=⟨by decide,by decide,by decide,by decide⟩;have hfr:=λH=>d65 ⟨none,none,none,none⟩ s0 40 om om H;obtain⟨R,hR⟩:∃ R:Sl Rn,R=some [⟨14,54⟩]:=⟨_,rfl⟩;rw[d66,<-hR]at hfr;have hly:=λH=>cc2 (some Iu) rfl L hL R hR H;have htu:=λH=>by5 ⟨none,none,none,none⟩ s0 lyH (by decide +kernel) H;have hgS:aq2 ⟨none,none,none,none⟩ lyH=gS:=rfl;rw[hgS]at htu;have sg:SpOk gS:=⟨by decide +kernel,by decide +kernel,by decide +kernel,by decide +kernel⟩;have hps:=λH=>b64 gS sg 40 om om H;simp only[Lb]at hfr htu;simp only[as3]at htu;obtain⟨sT,hsT⟩:∃ s:Bytes,s=Mt 40 gS.n:=⟨_,rfl⟩;rw[<-hsT]at hps;unfold lyV at hly;have hbp:=λH=>Ye (orc:=A5) 17 5 1 sT (by rw[hsT];decide +kernel) H;obtain⟨pS,hpS⟩:∃ p:Ptr,p=L9 17 ⟨5,1,sT⟩:=⟨_,rfl⟩;rw[<-hpS]at hbp;simp only[A7]at hbp;obtain⟨rT,hrT⟩:∃ s:Bytes,s=Ku ⟨1,2,7,Jm,pS,Bb,0⟩:=⟨_,rfl⟩;have hrt:∀ H,K tab A5 A4 58 [.agg [.int .i64 1,.int .i64 2,.int .i64 7,.int .i64 Jm.addr,.int .i64 Jm.birth,.int .u32 Jm.sum.a.toNat,.int .u32 Jm.sum.b.toNat,.int .u32 Jm.sum.c.toNat,.int .u32 Jm.sum.d.toNat,.int .i64 pS.addr,.int .i64 pS.birth,.int .u32 pS.sum.a.toNat,.int .u32 pS.sum.b.toNat,.int .u32 pS.sum.c.toNat,.int .u32 pS.sum.d.toNat,.int .i64 0,.int .i64 0,.int .u32 0,.int .u32 0,.int .u32 0,.int .u32 0,.int .i64 0]] H=some (.str rT,H):=by
  rw[hrT];exact λH=>av7 ⟨1,2,7,Jm,pS,Bb,0⟩ H
 have hbr:=λH=>Ye (orc:=A5) 18 6 1 rT (by rw[hrT,hpS,hsT];decide +kernel) H;obtain⟨pU,hpU⟩:∃ p:Ptr,p=L9 18 ⟨6,1,rT⟩:=⟨_,rfl⟩;rw[<-hpU]at hbr;simp only[A7]at hbr;have hw16:(IntKind.i64.wrap 1).tmod 6=1:=by decide
 have hw17:(1:Int).tmod 6=1:=by decide
 have hw1:IntKind.i64.wrap 1=1:=by decide
 simp(disch:=try exact dq)only[tx,seval,g79,hw1,Gx,hda,hdn,h1,hfr,hly,htu,hps,hbp,hrt,hbr,hw16,hw17];have hBl:S8.length=3:=rfl;have hBi:(S8.length:Int)=3:=rfl;have hAl:Ui.length=3:=rfl;obtain⟨X0,hX0⟩:∃ s:Bytes,s=Dv ⟨2,0,[]⟩ 0 (Ab 4):=⟨_,rfl⟩;obtain⟨X1,hX1⟩:∃ s:Bytes,s=Hv lyN:=⟨_,rfl⟩;obtain⟨X2,hX2⟩:∃ s:Bytes,s=lyT:=⟨_,rfl⟩;have hB0:S8.getD 0 default=⟨2,1,X0⟩:=by rw[hX0];rfl
 have hB1:S8.getD 1 default=⟨3,1,X1⟩:=by rw[hX1];rfl
 have hB2:S8.getD 2 default=⟨4,1,X2⟩:=by rw[hX2];rfl
 have hA0:Ui.getD 0 default=14:=rfl;have hA1:Ui.getD 1 default=15:=rfl;have hA2:Ui.getD 2 default=16:=rfl;have hp0:=λH=>S0 (orc:=A5) 2 1 X0 (by rw[hX0];decide +kernel) H;have hp1:=λH=>S0 (orc:=A5) 3 1 X1 (by rw[hX1];decide +kernel) H;have hp2:=λH=>S0 (orc:=A5) 4 1 X2 (by rw[hX2];decide +kernel) H;have hp3:=λH=>S0 (orc:=A5) 5 1 sT (by rw[hsT];decide +kernel) H;have hp4:=λH=>S0 (orc:=A5) 6 1 rT (by rw[hrT,hpS,hsT];decide +kernel) H;have hY:[(14,Dn ⟨2,1,X0⟩),(15,Dn ⟨3,1,X1⟩),(16,Dn ⟨4,1,X2⟩),(17,Dn ⟨5,1,sT⟩),(18,Dn ⟨6,1,rT⟩)]=a8d:=by rw[hX0,hX1,hX2,hrT,hpS,hsT];rfl
 generalize Dn ⟨2,1,X0⟩=Y0 at *;generalize Dn ⟨3,1,X1⟩=Y1 at *;generalize Dn ⟨4,1,X2⟩=Y2 at *;generalize Dn ⟨5,1,sT⟩=Y3 at *;generalize Dn ⟨6,1,rT⟩=Y4 at *;have hwr:∀ H,K tab A5 A4 77 [.agg [A0 Bh Iy.last,A0 Bi Iy.wait,.int .i64 Iy.lies,.int .i64 Iy.arm,.bool false],.fz [[.int .i64 14,.str Y0],[.int .i64 15,.str Y1],[.int .i64 16,.str Y2],[.int .i64 17,.str Y3],[.int .i64 18,.str Y4]]] H=some (.tuple [.agg [A0 Bh Pe.last,A0 Bi Pe.wait,.int .i64 Pe.lies,.int .i64 Pe.arm,.bool Pe.down],.bool true],H):=by
  intro H;have h:=a5t Iy dv1 (some a8d) (by decide +kernel) Pe rfl wr2 H;rw[hdn,C1,<-hY]at h;exact h
 obtain⟨F0,hF0⟩:∃ F:Sl (Int×Bytes),F=S2 40 gU 0:=⟨_,rfl⟩;obtain⟨F1,hF1⟩:∃ F:Sl (Int×Bytes),F=S2 40 gU 1:=⟨_,rfl⟩;have hph0:∀ H,K tab A5 A4 128 [.int .i64 40,.agg [.int .i64 1,.int .i64 7,.int .i64 1,.int .i64 pU.addr,.int .i64 pU.birth,.int .u32 pU.sum.a.toNat,.int .u32 pU.sum.b.toNat,.int .u32 pU.sum.c.toNat,.int .u32 pU.sum.d.toNat],.int .i64 0] H=some (A0 Bi F0,H):=by
  intro H;rw[hF0,hpU,hrT,hpS,hsT];exact b6l 40 0 1 7 1 _ _ _ _ _ _ H
 have hph1:∀ H,K tab A5 A4 128 [.int .i64 40,.agg [.int .i64 1,.int .i64 7,.int .i64 1,.int .i64 pU.addr,.int .i64 pU.birth,.int .u32 pU.sum.a.toNat,.int .u32 pU.sum.b.toNat,.int .u32 pU.sum.c.toNat,.int .u32 pU.sum.d.toNat],.int .i64 1] H=some (A0 Bi F1,H):=by
  intro H;rw[hF1,hpU,hrT,hpS,hsT];exact b6l 40 1 1 7 1 _ _ _ _ _ _ H
 have hwr3:=λH=>a5t Pe dv2 F0 (by rw[hF0];decide +kernel) gD3 (by rw[hF0];rfl) (by rw[hF0];exact wr3) H;have hwr4:=λH=>a5t gD3 dv3 F1 (by rw[hF1];decide +kernel) Dx (by rw[hF1];rfl) (by rw[hF1];exact wr4) H;have hw2:IntKind.i64.wrap 2=2:=by decide
 have hw3:IntKind.i64.wrap 3=3:=by decide
 generalize hr:Ad _ _ _=r;refine P7 (Q:=λr=>Cg _ _ _ (Be _ _ (B0 _ r))=_) hr ?_
 simp(disch:=try exact dq)only[tx,seval,hBi,Ax,Ub,hB0,hA0,hp0];generalize hr2:Ad _ _ _=r2;refine P7 (Q:=λr=>Cg _ _ _ (Be _ _ (B0 _ r))=_) hr2 ?_
 simp(disch:=try exact dq)only[tx,seval,hBi,hw1,hw2,hw3,Ax,Ub,hB1,hA1,hp1];generalize hr3:Ad _ _ _=r3;refine P7 (Q:=λr=>Cg _ _ _ (Be _ _ (B0 _ r))=_) hr3 ?_
 simp(disch:=try exact dq)only[tx,seval,hBi,hw1,hw2,hw3,Ax,Ub,hB2,hA2,hp2];generalize hr4:Ad _ _ _=r4;refine Qh (Q:=λr=>Cg _ _ _ (Be _ _ (B0 _ r))=_) hr4 ?_
 simp(disch:=try exact dq)only[tx,seval,hBi,hw1,hw2,hw3,e2k,Gx,hp3,hp4,hwr];generalize hr5:Ad _ _ _=r5;refine P7 (Q:=λr=>Cg _ _ _ (Be _ _ (B0 _ r))=_) hr5 ?_
 simp(disch:=try exact dq)only[tx,seval,hw1,hw2,hph0,hwr3];generalize hr6:Ad _ _ _=r6;refine P7 (Q:=λr=>Cg _ _ _ (Be _ _ (B0 _ r))=_) hr6 ?_
 simp(disch:=try exact dq)only[tx,seval,hw1,hw2,hph1,hwr4];generalize hr7:Ad _ _ _=r7;refine Qh (Q:=λr=>Cg _ _ _ (Be _ _ (B0 _ r))=_) hr7 ?_
 simp(disch:=try exact dq)only[tx,seval,hw1,hw2,e2k];have e1:pS=L9 17 gSp:=by rw[hpS,hsT];rfl
 have e2:pU=gU.root:=by rw[hpU,hrT,e1];rfl
 rw[e1,e2];rfl
theorem b59:∀ ls:List (List Ptr),Wf (ls.map Hd)=some (ls.flatten.map Ae)
 |[]=>rfl
 |l::ls=>by
   rw[e2c,show Hd l=[PV.fz (l.map Ae)]from rfl,Wf,b59 ls,e0u,e1w];rfl
theorem bl0(l:List Ptr):((l.map Ae).all λe=>decide (e.length=6))=true:=by
 rw[e16];intro e he;obtain⟨x,_,rfl⟩:=e2r.1 he;rfl
theorem d9y(l:List (List PV)):A8 (H5 l)=true:=rfl
theorem d9o(l:List (List PV)):cellsOf (H5 l)=some [H5 l]:=rfl
theorem d9w(l:List (List PV)):cellA (H5 l)=true:=rfl
theorem c3x(τ:Nat->Option Nat)(l:List (List PV)):ren τ (H5 l)=H5 l:=rfl
theorem d5u(r:Nat)(es:List (List PV))(l:List (List PV)):frz r es (H5 l)=H5 l:=rfl
theorem au9(l:List (List PV)):Cw (H5 l)=[]:=rfl
theorem bg5(ls:List (List Ptr))(h:ls.flatten.length<=1000000)(h2:ls.length<=1000000):Ev tab A5 A4 45 [.fz (ls.map Hd)] []=some (H5 (ls.flatten.map Ae),[]):=by
 refine Pt b7a ?_;rw[b6t];simp only[a3p,b59,e17];rw[if_pos ⟨bl0 _,by rw[e1q];exact h,by rw[e1q];exact h2⟩]
theorem da3(a b:List Ptr)(x y:List (List PV))(ha:a.length=3)(l:List Ptr)(hl:l.map Ae=a.map Ae++(b.map Ae++(x++y)))(hn:l.length<=1000000) :
 Ev tab A5 A4 45 [.own 0 1 0 4 4] [some [[.own 1 6 0 3 3],[.fz (b.map Ae)],[H5 x],[H5 y]],some (a.map A7)]=some (H5 (l.map Ae),[some [[.own 1 6 0 3 3],[.fz (b.map Ae)],[H5 x],[H5 y]],some (a.map A7)]):=by
 refine Pt b7a ?_;rw[b6t];have h4:Ct (a.map A7)=some (a.map Ae):=Mk a
 show(if(6:Nat)=6/\(a.map A7).length=3 then _ else none)=_;rw[if_pos ⟨rfl,by rw[e1q];exact ha⟩,h4,e17,<-hl,if_pos ⟨bl0 _,by rw[e1q];exact hn⟩];rfl
def N1(p:Ptr)(v:ViewL):List Ptr:=[p,v.r.table,v.r.space]++(v.set++(v.node.flatten++v.part.flatten))
def Jp(l:List Ptr):List Int:=(l.map (·.addr)).filter λa=>decide (0<a)
theorem d0j(l:List Ptr)(p:Ptr):Jp (l++[p])=if 0<p.addr then Jp l++[p.addr]else Jp l:=by
 unfold Jp;rw[e1w,List.filter_append];by_cases h:0<p.addr
 ·rw[if_pos h];simp[h]
 ·rw[if_neg h];simp[h]
theorem bb0(l:List Ptr):(Jp l).length<=l.length:=by
 unfold Jp;exact e2q (List.length_filter_le _ _) (by rw[e1q];exact e2z _)
theorem d0i(p:Ptr)(v:ViewL)(s:Space)(hn:(N1 p v).length<=5000)(hnn:v.node.length<=1000000)(hnp:v.part.length<=1000000)(H:AH):K tab A5 A4 15 [.agg [.int .i64 p.addr,.int .i64 p.birth,.int .u32 p.sum.a.toNat,.int .u32 p.sum.b.toNat,.int .u32 p.sum.c.toNat,.int .u32 p.sum.d.toNat],.agg (Fb v.r (A0 A6 s.held) (A0 A6 s.one) (A0 A6 s.two) (A0 A6 s.kept) v)] H=some (A0 A6 (Ba (Jl (Jp (N1 p v)))),H):=by
 refine Ah l15 rfl (by simp[Fb,Db,Ac,A8,Ap]) (Ap _ _) ?_ H;have hn':=hn;unfold N1 at hn';simp only[e0l,e15,e1n]at hn';have hc1:=bg5 v.node om hnn;have hc2:=bg5 v.part om hnp;have hc3:=da3 [p,v.r.table,v.r.space] v.set (v.node.flatten.map Ae) (v.part.flatten.map Ae) rfl (N1 p v) (by unfold N1;simp only[e1w]) om;have hcv:H5 ((N1 p v).map Ae)=.fz ((N1 p v).map Ae):=rfl;rw[hcv]at hc3;simp only[e2c,e2o,A7]at hc3;generalize N1 p v=L at *;unfold Fb Db
 simp(disch:=try exact dq)only[tx,seval,g15,KQ 45 rfl,Eg (f:=45) rfl,Rp (f:=45) rfl,Bo,Bq,An,hc1,hc2,hc3,d9y,d9w,d9o,au9,c3x,d5u,e1l,e18,e1s,e1t];generalize hr:Ad _ _ _=r;refine B7 hr L.length (λj=>[.top,.top,.top,.top,.top,.own 40 1 0 (Jp (L.take j)).length (Jp (L.take j)).length,.top,.fz (L.map Ae),.int .i64 L.length,.int .i64 j,.top,.top])
  (λj=>[some [[.int .i64 p.addr,.int .i64 p.birth,.int .u32 p.sum.a.toNat,.int .u32 p.sum.b.toNat,.int .u32 p.sum.c.toNat,.int .u32 p.sum.d.toNat]],some [Db v.r (A0 A6 s.held) (A0 A6 s.one) (A0 A6 s.two) (A0 A6 s.kept) (.fz (v.sets.map Ak)) (.fz (v.set.map Ae)) (.fz (v.node.map Hd)) (.fz (v.part.map Hd))],some [[.int .i64 p.addr,.int .i64 p.birth,.int .u32 p.sum.a.toNat,.int .u32 p.sum.b.toNat,.int .u32 p.sum.c.toNat,.int .u32 p.sum.d.toNat],[.int .i64 v.r.table.addr,.int .i64 v.r.table.birth,.int .u32 v.r.table.sum.a.toNat,.int .u32 v.r.table.sum.b.toNat,.int .u32 v.r.table.sum.c.toNat,.int .u32 v.r.table.sum.d.toNat],[.int .i64 v.r.space.addr,.int .i64 v.r.space.birth,.int .u32 v.r.space.sum.a.toNat,.int .u32 v.r.space.sum.b.toNat,.int .u32 v.r.space.sum.c.toNat,.int .u32 v.r.space.sum.d.toNat]],some [[.own 2 6 0 3 3],[.fz (v.set.map Ae)],[H5 (v.node.flatten.map Ae)],[H5 (v.part.flatten.map Ae)]],none,none,none,none,none,none,none,none,none,none,none,none,none,none,none,none,none,none,none,none,none,none,none,none,none,none,none,none,none,none,none,none,none,none,none,none,some ((Jp (L.take j)).map cI)]) (λ_=>True) ?_ ?_ trivial ?_ ?_
 ·simp[Jp]
 ·simp[Jp,Db]
 ·intro j hj _;have hj':((j:Int)<(L.length:Int)):=om;have hsn:L.take (j+1)=L.take j++[L.getD j default]:=by
   rw[e0y,dx5,dy1 hj];rfl
  rw[hsn,d0j];have hol:=bb0 (L.take j);rw[e1f]at hol;generalize hx:L.getD j default=x at *;generalize Jp (L.take j)=o at *;unfold Db;have hap:o.map cI++[[.int .i64 x.addr]]=(o++[x.addr]).map cI:=by rw[e1w];rfl
  by_cases c:0<x.addr
  ·rw[if_pos c]
   simp(disch:=try exact dq)only[tx,seval,hj',hx,Ax,Ae,c,hap,au9,e1t,Au,B8,e1q,e0l,e15,e1n,e2b];rfl
  ·rw[if_neg c]
   simp(disch:=try exact dq)only[tx,seval,hj',hx,Ax,Ae,c,au9,e1t,Au,B8,e1q,e2b];rfl
 ·intro _;rw[e1g];unfold Db;have hol:=bb0 L;generalize Jp L=o at *;by_cases ho:o=[]
  ·subst ho;have h0:=b72
   simp(disch:=try exact dq)only[tx,seval,e2k,KQ 46 rfl,An,h0,e2o,e1n,Au,B8];rfl
  ·have h0:=ax1 o om
   simp(disch:=try exact dq)only[tx,seval,e2k,KQ 46 rfl,An,h0,Au,B8]
theorem bz3(hb:∀ H,K tab A5 A4 4 [] H=some (.bool true,H))(pk:Sl UInt8)(H:AH):K tab A5 A4 3 [A0 pu8 pk] H=some (.bool true,H):=by
 refine Ah l3 rfl (by simp[Ac,A8,Ap]) rfl ?_ H;by_cases c1:200<((els pk).length:Int)
 ·simp(disch:=try exact dq)only[tx,seval,g3,hb,c1]
 ·obtain⟨⟨o,l,n⟩,ho,hl21,hj⟩:=ct3 pk om;simp only[]at ho hl21 hj;have hm:=b7z pk;have hd:=ct4 o om;generalize Qi o=D at *;have hW:=λp H=>ap0 D hd p H;have hR:=λp H=>b5e D hd p H;simp only[Fr]at hj
  simp(disch:=try exact dq)only[tx,seval,g3,hb,c1,KQ 5 rfl,KQ 6 rfl,An,hm,hj,Aw,Ar];generalize hr:Ad _ _ _=r;refine B7 hr 21 (λj=>[.top,.top,.ptr 2 0 0 1,.own 1 6 0 21 21,.int .i64 j,.top,.top,.top,.top,.top,.top,.top,.top,.top,.top,.top,.top,.top,.top,.top,.top,.top,.top]) (λ_=>_) (λ_=>True) ?_ rfl trivial ?_ ?_
  ·rfl
  ·intro j hj _;have hj':((j:Int)<21):=om;have hel:(l.map A7)[j]?=some (A7 (l.getD j default)):=by
    rw[e0t,dx5,dy1 om];rfl
   generalize l.getD j default=q at *;simp only[A7]at hel;have hWq:=hW q;have hRq:=hR q;cases hw:Lk D q with
   |none=>
     have e1:Mh D q=.tuple [.agg J9,.bool false]:=(by unfold Mh;rw[hw]);rw[e1]at hWq;cases hr2:Rv D q with
     |none=>
       have e2:Jd D q=.tuple [.agg J9,.bool false]:=(by unfold Jd;rw[hr2]);rw[e2]at hRq;simp only[J9]at hWq hRq
       simp(disch:=try exact dq)only[tx,seval,hj',hel,hWq,hRq,e2b,Ar,Aw];rfl
     |some w=>
       have e2:Jd D q=.tuple [.agg (Fb w.r .emp .emp .emp .emp w),.bool true]:=(by unfold Jd;rw[hr2]);rw[e2]at hRq;simp only[J9,Fb,Db]at hWq hRq
       simp(disch:=try exact dq)only[tx,seval,hj',hel,hWq,hRq,e2b,Ar,Aw];rfl
   |some v=>
     obtain⟨w,hw2,hwv,hms,htx⟩:=b37 hw;obtain⟨hok,k1,k2,k3,k4⟩:=ao9 hw;have e1:Mh D q=.tuple [.agg (Fb v.r (A0 A6 (Ba v.s.held)) (A0 A6 (Ba v.s.one)) (A0 A6 (Ba v.s.two)) (A0 A6 (Ba v.s.kept)) v),.bool true]:=(by unfold Mh;rw[hw]);have e2:Jd D q=.tuple [.agg (Fb v.r .emp .emp .emp .emp v),.bool true]:=(by unfold Jd;rw[hw2,<-hwv];rfl);rw[e1]at hWq;rw[e2]at hRq;let sp:Space:=⟨Ba v.s.held,Ba v.s.one,Ba v.s.two,Ba v.s.kept⟩;have hsp:SpOk sp:=⟨by show(els (Ba _)).length<=500;rw[Gz];exact k1,by show(els (Ba _)).length<=500;rw[Gz];exact k2,by show(els (Ba _)).length<=500;rw[Gz];exact k3,by show(els (Ba _)).length<=500;rw[Gz];exact k4⟩;have hO1:=λH=>b6p v sp H;have hO2:=λH=>b6p v ⟨none,none,none,none⟩ H;have hSV:=λH=>c2l v sp hsp (by have:=hok.n;omega) (λx hx=>(hok.f x hx).1) (by have:=hok.set;omega) (λx hx=>by have:=hok.node x hx;omega) (λx hx=>by have:=hok.part x hx;omega) (by have:=hok.noden;omega) (by have:=hok.partn;omega) H;have hMS:=λH=>ay1 (some v.sets) (by have:=hok.n;show v.sets.length<=_;omega) (λx hx=>hok.f x hx) H;rw[Bn,<-c97,hms,C1]at hMS;simp only[sp,Lb,Fb,Db]at hO1 hO2 hSV;simp only[Fb,Db]at hWq hRq;simp only[htx]at hWq hRq hO1 hO2 hSV
     simp(disch:=try exact dq)only[tx,seval,hj',hel,hWq,hRq,hO1,hO2,hSV,hMS,e2b,Ar,Aw];rfl
  ·intro _
   simp(disch:=try exact dq)only[tx,seval,e2k];generalize hr2:Ad _ _ _=r2;refine B7 hr2 21 (λj=>[.top,.top,.ptr 2 0 0 1,.own 1 6 0 21 21,.top,.top,.top,.top,.top,.top,.top,.int .i64 j,.top,.top,.top,.top,.top,.top,.top,.top,.top,.top,.top]) (λ_=>_) (λ_=>True) ?_ rfl trivial ?_ ?_
   ·rfl
   ·intro j hj _;have hj':((j:Int)<21):=om;have hel:(l.map A7)[j]?=some (A7 (l.getD j default)):=by
     rw[e0t,dx5,dy1 om];rfl
    generalize l.getD j default=q at *;simp only[A7]at hel;have hRq:=hR q;cases hr3:Rv D q with
    |none=>
      have e2:Jd D q=.tuple [.agg J9,.bool false]:=(by unfold Jd;rw[hr3]);rw[e2]at hRq;simp only[J9]at hRq
      simp(disch:=try exact dq)only[tx,seval,hj',hel,hRq,e2b,Ar,Aw];generalize hr4:Ad _ _ _=r4;refine G7 (Q:=λr=>Rd _ _ _ _ (F3 _ _ (Be _ _ (B0 _ (B0 _ r))))) hr4 0 (λ_=>[.top,.top,.ptr 2 0 0 1,.own 1 6 0 21 21,.top,.top,.top,.top,.top,.top,.top,.int .i64 j,.ptr 3 0 0 1,.bool false,.int .i64 0,.top,.top,.top,.top,.top,.top,.top,.top]) (λ_=>_) (λ_=>True) ?_ rfl trivial ?_ ?_
      ·rfl
      ·intro i hi _;omega
      ·intro _
       simp(disch:=try exact dq)only[tx,seval,e2b,Ar,Aw];rfl
    |some w=>
      have e2:Jd D q=.tuple [.agg (Fb w.r .emp .emp .emp .emp w),.bool true]:=(by unfold Jd;rw[hr3]);rw[e2]at hRq;have hok:=c3h hr3;have htn:=c3g hr3;simp only[Fb,Db]at hRq
      simp(disch:=try exact dq)only[tx,seval,hj',hel,hRq,e2b,Ar,Aw];generalize hr4:Ad _ _ _=r4;refine G7 (Q:=λr=>Rd _ _ _ _ (F3 _ _ (Be _ _ (B0 _ (B0 _ r))))) hr4 w.sets.length (λi=>[.top,.top,.ptr 2 0 0 1,.own 1 6 0 21 21,.top,.top,.top,.top,.top,.top,.top,.int .i64 j,.ptr 3 0 0 1,.bool true,.int .i64 i,.top,.top,.top,.top,.top,.top,.top,.top]) (λ_=>_) (λ_=>True) ?_ rfl trivial ?_ ?_
      ·rfl
      ·intro i hi _;have hi':((i:Int)<(w.sets.length:Int)):=om;have hmem:w.sets.getD i default∈w.sets:=by
        rw[dx5,dy1 hi];exact e1c _
       have hfx:=hok.f _ hmem;have htx:=htn _ hmem;have hn8:=hok.n;generalize hx:w.sets.getD i default=x at *;have hT:=λH=>b3s x.files hfx.1 (λy hy=>(hfx.2 y hy).1) (λy hy=>(hfx.2 y hy).2) H;rw[htx]at hT
       simp(disch:=try exact dq)only[tx,seval,hi',hx,hT,Ax,e1q,e2b,Ak,Va,Ar,Aw];rfl
      ·intro _
       simp(disch:=try exact dq)only[tx,seval,e2k,e1q,e2b,Ar,Aw];rfl
   ·intro _
    simp(disch:=try exact dq)only[tx,seval,e2k]
theorem c8v(L:Sl Dset)(hL:L=some [⟨1,1,0,0,some Iu⟩])(H:AH):K tab A5 A4 41 [.int .i64 40,.int .i64 7] H=some (.tuple [.agg [A0 Bh Dx.last,A0 Bi Dx.wait,.int .i64 Dx.lies,.int .i64 Dx.arm,.bool Dx.down,.int .i64 gU.root.addr,.int .i64 gU.root.birth,.int .u32 gU.root.sum.a.toNat,.int .u32 gU.root.sum.b.toNat,.int .u32 gU.root.sum.c.toNat,.int .u32 gU.root.sum.d.toNat,.int .i64 gR.txg,.int .i64 gR.next,.int .i64 gR.guid,.int .i64 gR.table.addr,.int .i64 gR.table.birth,.int .u32 gR.table.sum.a.toNat,.int .u32 gR.table.sum.b.toNat,.int .u32 gR.table.sum.c.toNat,.int .u32 gR.table.sum.d.toNat,.int .i64 gR.space.addr,.int .i64 gR.space.birth,.int .u32 gR.space.sum.a.toNat,.int .u32 gR.space.sum.b.toNat,.int .u32 gR.space.sum.c.toNat,.int .u32 gR.space.sum.d.toNat,.int .i64 gR.kept.addr,.int .i64 gR.kept.birth,.int .u32 gR.kept.sum.a.toNat,.int .u32 gR.kept.sum.b.toNat,.int .u32 gR.kept.sum.c.toNat,.int .u32 gR.kept.sum.d.toNat,.int .i64 gR.keptTxg,A0 A6 gS.held,A0 A6 gS.one,A0 A6 gS.two,A0 A6 gS.kept,.int .i64 1,.int .i64 1,A0 Ak L,.bool false],.bool true],H):=by
 refine Ah l41 rfl rfl (by simp[Ac,A8,Ap]) ?_ H;have hnum:=λH=>b79 7 H;have hnw:=λH=>b7e 68 om om H;simp only[Fr]at hnw;have ha0:=λH=>Yj (orc:=A5) (lk:=A4) 40 0 H (λH=>S7 40 H);have ha1:=λH=>Yj (orc:=A5) (lk:=A4) 40 1 H (λH=>S7 40 H);have ha2:=λH=>Yj (orc:=A5) (lk:=A4) 40 2 H (λH=>S7 40 H);have ha3:=λH=>Yj (orc:=A5) (lk:=A4) 40 3 H (λH=>S7 40 H);have hcf:=λH=>bf7 (orc:=A5) 7 40 H;have hY:[(Gc 40 0,L8 7 40),(Gc 40 1,L8 7 40),(Gc 40 2,L8 7 40),(Gc 40 3,L8 7 40)]=a8e:=rfl;have hwr:=λH=>a5t (Es 68) dv0 (some a8e) (by decide) Iy rfl wr1 H;rw[C1,<-hY]at hwr;have hns:=λH=>c8x H;have htu:=λH=>by4 L hL H;rw[hL,C1]at htu;generalize L8 7 40=CB at *;generalize Gc 40 0=a0 at *;generalize Gc 40 1=a1 at *;generalize Gc 40 2=a2 at *;generalize Gc 40 3=a3 at *;simp only[e2c,e2o,Bi,Ak]at hwr htu;have hps:Nv Ao (some Iu)=.fz (Iu.map Ao):=rfl;rw[hps]at htu;have hw1:IntKind.i64.wrap 1=1:=by decide
 have hw2:IntKind.i64.wrap 2=2:=by decide
 have hw3:IntKind.i64.wrap 3=3:=by decide
 have hw4:IntKind.i64.wrap 4=4:=by decide
 have hw5:IntKind.i64.wrap 68=68:=by decide
 simp(disch:=try exact dq)only[tx,seval,g41,hw5,hnum,hnw];generalize hr:Ad _ _ _=r;refine P7 (Q:=λr=>Cg _ _ _ (Be _ _ (Mb _ _ (B0 _ r)))=_) hr ?_
 simp(disch:=try exact dq)only[tx,seval,hw1,hw2,hw3,hw4,ha0,hcf];generalize hr2:Ad _ _ _=r2;refine P7 (Q:=λr=>Cg _ _ _ (Be _ _ (Mb _ _ (B0 _ r)))=_) hr2 ?_
 simp(disch:=try exact dq)only[tx,seval,hw1,hw2,hw3,hw4,ha1,hcf];generalize hr3:Ad _ _ _=r3;refine P7 (Q:=λr=>Cg _ _ _ (Be _ _ (Mb _ _ (B0 _ r)))=_) hr3 ?_
 simp(disch:=try exact dq)only[tx,seval,hw1,hw2,hw3,hw4,ha2,hcf];generalize hr4:Ad _ _ _=r4;refine P7 (Q:=λr=>Cg _ _ _ (Be _ _ (Mb _ _ (B0 _ r)))=_) hr4 ?_
 simp(disch:=try exact dq)only[tx,seval,hw1,hw2,hw3,hw4,ha3,hcf];generalize hr5:Ad _ _ _=r5;refine Qh (Q:=λr=>Cg _ _ _ (Be _ _ (Mb _ _ (B0 _ r)))=_) hr5 ?_
 simp(disch:=try exact dq)only[tx,seval,hw1,hw2,hw3,hw4,e2k,hwr,hns,htu];rw[hL];rfl
theorem c5z(L:Sl Dset)(hL:L=some [⟨1,1,0,0,some Iu⟩])(pk:Sl UInt8):Ev tab A5 A4 13 [.ptr 0 0 0 1,.int .i64 40,.int .i64 0] [some [[A0 pu8 pk,.int .i64 0]]]=some (.agg [A0 Bh Dx.last,A0 Bi Dx.wait,.int .i64 Dx.lies,.int .i64 Dx.arm,.bool Dx.down,.int .i64 gU.root.addr,.int .i64 gU.root.birth,.int .u32 gU.root.sum.a.toNat,.int .u32 gU.root.sum.b.toNat,.int .u32 gU.root.sum.c.toNat,.int .u32 gU.root.sum.d.toNat,.int .i64 gR.txg,.int .i64 gR.next,.int .i64 gR.guid,.int .i64 gR.table.addr,.int .i64 gR.table.birth,.int .u32 gR.table.sum.a.toNat,.int .u32 gR.table.sum.b.toNat,.int .u32 gR.table.sum.c.toNat,.int .u32 gR.table.sum.d.toNat,.int .i64 gR.space.addr,.int .i64 gR.space.birth,.int .u32 gR.space.sum.a.toNat,.int .u32 gR.space.sum.b.toNat,.int .u32 gR.space.sum.c.toNat,.int .u32 gR.space.sum.d.toNat,.int .i64 gR.kept.addr,.int .i64 gR.kept.birth,.int .u32 gR.kept.sum.a.toNat,.int .u32 gR.kept.sum.b.toNat,.int .u32 gR.kept.sum.c.toNat,.int .u32 gR.kept.sum.d.toNat,.int .i64 gR.keptTxg,A0 A6 gS.held,A0 A6 gS.one,A0 A6 gS.two,A0 A6 gS.kept,.int .i64 1,.int .i64 1,A0 Ak L,.bool false],[some [[A0 pu8 pk,.int .i64 0]]]):=by
 refine Cd l13 rfl ?_;have hnp:=λH=>c8v L hL H
 simp(disch:=try exact dq)only[tx,seval,g13,hnp];generalize hr:Ad _ _ _=r;refine Qh (Q:=λr=>Cg _ _ _ (Be _ _ (B0 _ r))=_) hr ?_
 simp(disch:=try exact dq)only[tx,seval,e2k]
 try rfl
theorem b1d:DevOk Dx:=⟨by decide +kernel,by decide +kernel,by decide +kernel,by decide +kernel⟩
theorem bo9:∃ v:ViewL,Lk Dx gU.root=some v/\v.r=gR/\v.sets.length=1/\(N1 gU.root v).length<=5000/\Jl (Jp (N1 gU.root v))=[⟨14,19⟩]:=by
 have h:(match Lk Dx gU.root with|some v=>decide (v.r=gR)&&decide (v.sets.length=1)&&decide ((N1 gU.root v).length<=5000)&&decide (Jl (Jp (N1 gU.root v))=[⟨14,19⟩])|none=>false)=true:=by decide +kernel
 cases hw:Lk Dx gU.root with
 |none=>rw[hw]at h;cases h
 |some v=>
   rw[hw]at h;simp only[e14,e0r]at h;exact⟨v,rfl,h.1.1.1,h.1.1.2,h.1.2,h.2⟩
theorem c2x:a5m [⟨14,19⟩]:=by
 refine⟨by decide,?_⟩;intro x hx;obtain rfl:=e0m.1 hx;decide
theorem db9(H:AH):K tab A5 A4 4 [] H=some (.bool true,H):=by
 refine Ah l4 rfl rfl rfl ?_ H;obtain⟨L,hL⟩:∃ L:Sl Dset,L=some [⟨1,1,0,0,some Iu⟩]:=⟨_,rfl⟩;have hm:=b7z none;have hp:=c5z L hL none;rw[Lb]at hm hp;obtain⟨v,hw,hvr,hvs,hhl,hho⟩:=bo9;obtain⟨w,hw2,hwv,_,_⟩:=b37 hw;have e1:Mh Dx gU.root=.tuple [.agg (Fb v.r (A0 A6 (Ba v.s.held)) (A0 A6 (Ba v.s.one)) (A0 A6 (Ba v.s.two)) (A0 A6 (Ba v.s.kept)) v),.bool true]:=by unfold Mh;rw[hw]
 have e2:Jd Dx gU.root=.tuple [.agg (Fb v.r .emp .emp .emp .emp v),.bool true]:=by unfold Jd;rw[hw2,<-hwv];rfl
 have e3:Mh Dx Bb=.tuple [.agg J9,.bool false]:=by unfold Mh;rw[bp0]
 have hW:=λH=>ap0 Dx b1d gU.root H;have hR:=λH=>b5e Dx b1d gU.root H;have hZ:∀ H,K tab A5 A4 7 [.agg [A0 Bh Dx.last,A0 Bi Dx.wait,.int .i64 Dx.lies,.int .i64 Dx.arm,.bool Dx.down],.agg [.int .i64 0,.int .i64 0,.int .u32 0,.int .u32 0,.int .u32 0,.int .u32 0]] H=some (.tuple [.agg J9,.bool false],H):=by
  intro H;rw[<-e3];exact ap0 Dx b1d Bb H
 rw[e1]at hW;rw[e2]at hR;have hH:=λH=>d0i gU.root v ⟨Ba v.s.held,Ba v.s.one,Ba v.s.two,Ba v.s.kept⟩ hhl (by have:=(ao9 hw).1.noden;omega) (by have:=(ao9 hw).1.partn;omega) H;have hC:=λH=>b1h (Ba [⟨14,19⟩]) (by rw[Gz];exact c2x) H;rw[Gz,show H4 [⟨14,19⟩]=5 from rfl]at hC;rw[hho]at hH;simp only[Fb,Db,J9,hvr]at hW hR hZ hH;have hvi:(v.sets.length:Int)=1:=by rw[hvs];rfl
 simp(disch:=try exact dq)only[tx,seval,g4,KQ 5 rfl,KQ 13 rfl,An,hm,hp,hW,hR,hZ,hH,hC,hvi,e1q,eq_self,decide_true]
end Go.Proofs.YtahmkkjcchnonaaGreatDoor.Abs
