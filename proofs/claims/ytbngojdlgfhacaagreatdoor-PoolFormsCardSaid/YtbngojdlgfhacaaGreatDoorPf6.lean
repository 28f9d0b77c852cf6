/-
  Part 6 of the proof: no condition. (Parts of the abstract layer, of the program's functions in its form, and of their contracts.)
-/
import Derived.Test.YtbngojdlgfhacaaGreatDoorPf5
set_option maxRecDepth 100000
set_option maxHeartbeats 8000000
set_option linter.unusedSimpArgs false
set_option linter.unusedVariables false
set_option linter.unusedSectionVars false
namespace Go.Proofs.YtbngojdlgfhacaaGreatDoor.Abs
def fP:Pool:=(Ik 40 9).1
def fX:Pool×Int:=Q0 fP true
def fL:Pool:=⟨fP.d,fP.at',fP.r,fP.s,fP.seat,1073741824,fP.sets,fP.only⟩
def fLs:Pool×Int:=Q0 fL true
def fN:Pool:=⟨fP.d,fP.at',fP.r,fP.s,fP.seat,fP.last,none,fP.only⟩
def fY:Pool×Int:=Q0 fN true
def fCk:Bool:=(Ik 40 9).2&&!(Ik 241 9).2&&!(Ik 40 (-1)).2&&!(Ik 40 1073741825).2&&decide (((els fP.d.last).length:Int)=68)&&decide (fP.sets=some [a40])&&decide (fP.s.held=some [⟨14,19⟩])&&decide (fX.1.s.one=some [⟨16,19⟩])&&decide (fP.at'.addr=18)&&decide (fP.r.next=2)&&decide (fP.r.guid=9)&&decide (((els fP.d.wait).length:Int)=0)&&decide (fX.2=0)&&decide (fX.1.at'.addr=21)&&decide (Qr fX.1=32)&&decide (fLs.2=8)&&decide (fY.2=0)&&decide (((els fY.1.sets).length:Int)=0)&&decide (Qr fY.1=32)&&Ss fP&&Ss fX.1&&Ss fL&&Ss fN&&Ss fY.1
theorem e06:fCk=true:=by decide +kernel
def fRd(k:Int):Prop:=a8s fP.d (Df 40 k)=(J7 9 40,true)/\Ww 40 k 1=Df 40 k+2/\0<=Df 40 k/\Df 40 k<66/\au6 ((els fP.d.last).getD (Df 40 k+2).toNat default)=some ⟨1,9,1,fP.at'⟩
instance (k:Int):Decidable (fRd k):=by unfold fRd;exact inferInstance
theorem e05:fRd 0:=by decide +kernel
theorem e04:fRd 1:=by decide +kernel
theorem e03:fRd 2:=by decide +kernel
theorem e02:fRd 3:=by decide +kernel
theorem d3f(H:AH):K tab A7 A5 3 [] H=some (.bool true,H):=by
 refine Ae l3 rfl rfl rfl ?_ H;have hb:=λH=>e2i H;have hk:=e06;unfold fCk at hk;simp only[e5v,e5h,e5n]at hk;obtain⟨⟨⟨⟨⟨⟨⟨⟨⟨⟨⟨⟨⟨⟨⟨⟨⟨⟨⟨⟨⟨⟨⟨k1,k2⟩,k3⟩,k4⟩,k5⟩,k6⟩,k7⟩,k8⟩,k9⟩,k10⟩,k11⟩,k12⟩,k13⟩,k14⟩,k15⟩,k16⟩,k17⟩,k18⟩,k19⟩,k20⟩,k21⟩,k22⟩,k23⟩,k24⟩:=hk;have c1:=λH=>a1m 40 9 H;have c2:=λH=>a1m 241 9 H;have c3:=λH=>a1m 40 (-1) H;have c4:=λH=>a1m 40 1073741825 H;rw[k1]at c1;rw[k2]at c2;rw[k3]at c3;rw[k4]at c4;obtain⟨t1,t2,t3⟩:=Xd k20;obtain⟨u1,u2,u3⟩:=Xd k21;obtain⟨v1,v2,v3⟩:=Xd k22;obtain⟨w1,w2,w3⟩:=Xd k23;obtain⟨y1,y2,y3⟩:=Xd k24;have s1:=λH=>a7y fP t1 t2 true H;have s2:=λH=>a7y fL v1 v2 true H;have s3:=λH=>a7y fN w1 w2 true H;have g1:Q0 fP true=fX:=rfl;have g2:Q0 fL true=fLs:=rfl;have g3:Q0 fN true=fY:=rfl;have g4:(Ik 40 9).1=fP:=rfl;rw[g1,k13]at s1;rw[g2,k16]at s2;rw[g3,k17]at s3;rw[g4]at c1;have f1:=λH=>a3w fX.1 u1.b H;have f2:=λH=>a3w fY.1 y1.b H;rw[k15]at f1;rw[k19]at f2;obtain⟨r01,r02,r03,r04,r05⟩:=e05;obtain⟨r11,r12,r13,r14,r15⟩:=e04;obtain⟨r21,r22,r23,r24,r25⟩:=e03;obtain⟨r31,r32,r33,r34,r35⟩:=e02;have hcf:=λH=>e1a (orc:=A7) 9 40 H;have a0:=λH=>a69 (orc:=A7) (lk:=A5) 40 0 H (λH=>a0h 40 H);have a1:=λH=>a69 (orc:=A7) (lk:=A5) 40 1 H (λH=>a0h 40 H);have a2:=λH=>a69 (orc:=A7) (lk:=A5) 40 2 H (λH=>a0h 40 H);have a3:=λH=>a69 (orc:=A7) (lk:=A5) 40 3 H (λH=>a0h 40 H);have b0:=λH=>a8a 40 0 1 om H;have b1:=λH=>a8a 40 1 1 om H;have b2:=λH=>a8a 40 2 1 om H;have b3:=λH=>a8a 40 3 1 om H;rw[r02]at b0;rw[r12]at b1;rw[r22]at b2;rw[r32]at b3;have d0:=λH=>a8r fP.d t3.last t3.wait (Df 40 0) H;have d1:=λH=>a8r fP.d t3.last t3.wait (Df 40 1) H;have d2:=λH=>a8r fP.d t3.last t3.wait (Df 40 2) H;have d3:=λH=>a8r fP.d t3.last t3.wait (Df 40 3) H;rw[r01]at d0;rw[r11]at d1;rw[r21]at d2;rw[r31]at d3;have hsl:∀ n:Nat,((els fP.d.last).getD n default).length<=1000000:=by
  intro n;by_cases h:n<(els fP.d.last).length
  ·exact e7n (t2.ltx _ (Ie h)) (by decide)
  ·rw[e42,e4j om];exact e7w _
 have e0:=λH=>a7w _ (hsl (Df 40 0+2).toNat) H;have e1:=λH=>a7w _ (hsl (Df 40 1+2).toNat) H;have e2:=λH=>a7w _ (hsl (Df 40 2+2).toNat) H;have e3:=λH=>a7w _ (hsl (Df 40 3+2).toNat) H;rw[r05]at e0;rw[r15]at e1;rw[r25]at e2;rw[r35]at e3;simp only[au5]at e0 e1 e2 e3;have hnw:=λH=>d66 H;have hsm:=λH=>d1v (some Hx) (some Hx) (by decide) (by decide) H;simp only[Cx]at hsm;have hw1:IntKind.i64.wrap 1=1:=by decide
 have hw2:IntKind.i64.wrap 2=2:=by decide
 have hw3:IntKind.i64.wrap 3=3:=by decide
 have hw4:IntKind.i64.wrap 4=4:=by decide
 have hps:Kt Ao (some Hx)=.fz (Hx.map Ao):=rfl;simp only[fL,fN]at s2 s3
 generalize (Ik 241 9).1=Z2 at *
 generalize (Ik 40 (-1)).1=Z3 at *
 generalize (Ik 40 1073741825).1=Z4 at *;generalize fX.1=x at *;generalize fLs.1=l at *;generalize fY.1=y at *;clear g1 g2 g3 g4 t1 t2 t3 u1 u2 u3 v1 v2 v3 w1 w2 w3 y1 y2 y3 k1 k2 k3 k4 k20 k21 k22 k23 k24 r01 r11 r21 r31 r05 r15 r25 r35 hsl;generalize hp:fP=p at *;clear hp;generalize Df 40 0=A0 at *;generalize Df 40 1=A1 at *;generalize Df 40 2=A2 at *;generalize Df 40 3=A3 at *;generalize J7 9 40=CB at *;unfold Bg at c1 c2 c3 c4 s1 s2 s3 f1 f2;simp only[k6,k7,k8,k9,k10,k11,k14,P9,Cx,e75,e7k,B7,A8,a40,hps]at c1 s1 s2 s3 f1 f2
 simp(disch:=try exact dq)only[tx,seval,g3,hb,c1,c2,c3,c4,s1,s2,s3,k5,k12,k18];generalize hr:Ai _ _ _=r;refine Nz (Q:=λr=>Dv _ _ _ (Cn _ _ (C2 _ r))=_) hr ?_;clear hr r
 simp(disch:=try exact dq)only[tx,seval,hw1,hw2,hw3,hw4,hb,a0,b0,d0,e0,hcf,Bl,B1,k5,k9,eq_self,e7z];generalize hr:Ai _ _ _=r;refine Nz (Q:=λr=>Dv _ _ _ (Cn _ _ (C2 _ r))=_) hr ?_;clear hr r
 simp(disch:=try exact dq)only[tx,seval,hw1,hw2,hw3,hw4,hb,a1,b1,d1,e1,hcf,Bl,B1,k5,k9,eq_self,e7z];generalize hr:Ai _ _ _=r;refine Nz (Q:=λr=>Dv _ _ _ (Cn _ _ (C2 _ r))=_) hr ?_;clear hr r
 simp(disch:=try exact dq)only[tx,seval,hw1,hw2,hw3,hw4,hb,a2,b2,d2,e2,hcf,Bl,B1,k5,k9,eq_self,e7z];generalize hr:Ai _ _ _=r;refine Nz (Q:=λr=>Dv _ _ _ (Cn _ _ (C2 _ r))=_) hr ?_;clear hr r
 simp(disch:=try exact dq)only[tx,seval,hw1,hw2,hw3,hw4,hb,a3,b3,d3,e3,hcf,Bl,B1,k5,k9,eq_self,e7z];generalize hr:Ai _ _ _=r;refine a4b (Q:=λr=>Dv _ _ _ (Cn _ _ (C2 _ r))=_) hr ?_;clear hr r
 simp(disch:=try exact dq)only[tx,seval,e7f,hnw,hsm,f1,f2,Fg,k5,k9,k12,k18,eq_self,e7z]
end Go.Proofs.YtbngojdlgfhacaaGreatDoor.Abs
