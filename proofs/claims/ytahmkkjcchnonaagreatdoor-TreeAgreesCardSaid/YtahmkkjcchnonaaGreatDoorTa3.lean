/-
  Part 3 of the proof: no condition. (Parts of the abstract layer, of the program's functions in its form, and of their contracts.)
-/
import Derived.Test.YtahmkkjcchnonaaGreatDoorTa2
import Derived.KernelRfl
set_option maxRecDepth 100000
set_option maxHeartbeats 8000000
set_option linter.unusedSimpArgs false
set_option linter.unusedVariables false
set_option linter.unusedSectionVars false
namespace Go.Proofs.YtahmkkjcchnonaaGreatDoor.Abs
section
def b3p(n0:Nat)(q:List AV×AH):List AV×AH:=G3 n0 q.1 q.2
abbrev R3:=Option (AExit×List AV×AH)
def Be(X:TCtx)(b:TC)(r:R3):R3:=Kn r λcf H=>Bd X b cf H
def Um(X:TCtx)(a b:TC)(cf:List AV)(q:Option (AV×AH)):R3:=q.bind λq=>P9 q.1 (Bd X a cf q.2) (Bd X b cf q.2)
def ifE(X:TCtx)(f:StepF)(e:TE)(a b:TC)(r:Option (List AV×AH)):R3:=r.bind λr=>Um X a b r.1 (C6 f r.1 e r.2)
def Nz(f:StepF)(l:List TS)(r:Option (List AV×AH)):Option (List AV×AH):=r.bind λr=>Fd f l r.1 r.2
def Mo(cf:List AV)(d:Option Nat)(q:Option (AV×AH)):Option (List AV×AH):=q.bind λq=>some (Fy cf d q.1,q.2)
def b69(f:StepF)(cf:List AV)(d:Option Nat)(o:AOp)(r:Option (List AV×AH)):Option (List AV×AH):=r.bind λr=>Mo cf d (f o r.1 r.2)
def F5(f:StepF)(o:AOp)(r:Option (List AV×AH)):Option (AV×AH):=r.bind λr=>f o r.1 r.2
def bk7(f:StepF)(cf:List AV)(b:TE)(r:Option (AV×AH)):Option (AV×AH):=r.bind λr=>match r.1 with
 |.bool true=>C6 f cf b r.2
 |.bool false=>some (.bool false,r.2)
 |_=>none
def orR(f:StepF)(cf:List AV)(b:TE)(r:Option (AV×AH)):Option (AV×AH):=r.bind λr=>match r.1 with
 |.bool true=>some (.bool true,r.2)
 |.bool false=>C6 f cf b r.2
 |_=>none
def ai4(x:AV)(r:Option (List AV×AH)):Option (List AV×AH):=r.bind λq=>some (x::q.1,q.2)
def b1k(f:StepF)(cf:List AV)(es:List TE)(r:Option (AV×AH)):Option (List AV×AH):=r.bind λr=>ai4 r.1 (Dl f cf es r.2)
def F3(n0:Nat)(live:List Nat)(r:R3):R3:=Kn r λcf H=>some (.normal,(G3 n0 (Dq live 0 cf) H).1,(G3 n0 (Dq live 0 cf) H).2)
def ar8(X:TCtx)(live:List Nat)(b:TC)(cf:List AV)(H:AH):R3:=F3 X.n0 live (Bd X b cf H)
def b85(X:TCtx)(live:List Nat)(em:List (Nat×Nat))(b:TC)(cf:List AV)(H:AH):R3:=X.lp (ar8 X live b) (enter X.n0 live em cf H).1 (enter X.n0 live em cf H).2
section
variable (X:TCtx) (f:StepF) (cf:List AV) (H:AH) (b:TC) (a c:TC) (r:R3) (i:Nat) (l:List TS) (n:Nat) (e:TE)
theorem bx0:Bd X .skip cf H=some (.normal,cf,H):=qq
theorem bx2:Bd X .ret cf H=some (.ret,cf,H):=qq
theorem by0:Bd X (.exit i) cf H=some (.exit i,cf,H):=qq
theorem bx3:Bd X (.reg n l) cf H=S4 (Fd (Bz X.lk X.E) l cf H):=qq
theorem by1:Bd X (.dreg n l) cf H=S4 (Fd fD l cf H):=qq
theorem bx1:Bd X (.seq a b) cf H=Be X b (Bd X a cf H):=qq
theorem bx9:Bd X (.ifc n l e a b) cf H=ifE X (Bz X.lk X.E) e a b (Fd (Bz X.lk X.E) l cf H):=qq
theorem bx8:Bd X (.ifd n l e a b) cf H=ifE X fD e a b (Fd fD l cf H):=qq
theorem bx7:Bd X (.ifv i a b) cf H=Um X a b cf (some (getF cf i,H)):=qq
theorem by2:Bd X (.block i b) cf H=B0 i (Bd X b cf H):=qq
theorem bx6(live:List Nat)(em:List (Nat×Nat)):Bd X (.loop live em b) cf H=b85 X live em b cf H:=qq
theorem c85:S4 (some (cf,H))=some (.normal,cf,H):=qq
theorem c0d:Be X b (some (.normal,cf,H))=Bd X b cf H:=qq
theorem c0c:Be X b (some (.ret,cf,H))=some (.ret,cf,H):=qq
theorem c0f:Be X b (some (.exit i,cf,H))=some (.exit i,cf,H):=qq
theorem c68:B0 i (some (.normal,cf,H))=some (.normal,cf,H):=qq
theorem c67:B0 i (some (.ret,cf,H))=some (.ret,cf,H):=qq
theorem c6a(j:Nat):B0 i (some (.exit j,cf,H))=if j=i then some (.normal,cf,H)else some (.exit j,cf,H):=qq
theorem d03(q:Bool):Um X a b cf (some (.bool q,H))=if q=true then Bd X a cf H else Bd X b cf H:=by
 cases q<;>rfl
theorem d01:ifE X f e a b (some (cf,H))=Um X a b cf (C6 f cf e H):=qq
theorem c0e(q:Prop)[Decidable q](r r':R3):Be X b (if q then r else r')=if q then Be X b r else Be X b r':=by by_cases h:q<;>simp[h]
theorem c69(q:Prop)[Decidable q](r r':R3):B0 i (if q then r else r')=if q then B0 i r else B0 i r':=by by_cases h:q<;>simp[h]
theorem bu0:Fd f [] cf H=some (cf,H):=qq
theorem a64(d:Option Nat)(o:AOp)(as:List TE):Fd f (.put d o as::l) cf H=Nz f l (b69 f cf d o (Dl f cf as H)):=qq
theorem a77(d:Option Nat)(o:AOp)(r:Option (List AV×AH)):b69 f cf d o r=Mo cf d (F5 f o r):=by cases r<;>rfl
theorem bt5(n:Int):Fd f (z i n::l) cf H=Nz f l (Mo cf (some i) (f (.mv (.c (.int .i64 n))) [] H)):=qq
theorem bt6(x:AV):Fd f (y i x::l) cf H=Nz f l (Mo cf (some i) (f (.mv (.c x)) [] H)):=qq
theorem bt7(n:Nat)(a b:TE):Fd f (s n a b::l) cf H=Nz f l (Mo cf none (F5 f (.store n (.t 0) (.t 1)) (Dl f cf [a,b] H))):=(a64 f cf H l _ _ _).trans (by rw[a77])
theorem bu3(o:AOp)(as:List TE):Fd f (Abs.e o as::l) cf H=Nz f l (Mo cf none (F5 f o (Dl f cf as H))):=(a64 f cf H l _ _ _).trans (by rw[a77])
theorem c8u:Nz f l (some (cf,H))=Fd f l cf H:=qq
theorem c2f(d:Option Nat)(x:AV):Mo cf d (some (x,H))=some (Fy cf d x,H):=qq
theorem c6o(o:AOp)(vs:List AV):F5 f o (some (vs,H))=f o vs H:=qq
theorem d8u(x:AV)(vs:List AV):ai4 x (some (vs,H))=some (x::vs,H):=qq
theorem d8v(es:List TE)(x:AV):b1k f cf es (some (x,H))=ai4 x (Dl f cf es H):=qq
theorem b3m:Dl f cf [] H=some ([],H):=qq
theorem b3n(es:List TE):Dl f cf (e::es) H=b1k f cf es (C6 f cf e H):=qq
theorem bu4:C6 f cf (v i) H=some (getF cf i,H):=qq
theorem bv8:C6 f cf (d i) H=some (getF cf i,H):=qq
theorem bu6(o:AOp)(as:List TE):C6 f cf (.op o as) H=F5 f o (Dl f cf as H):=qq
theorem bw9(a b:TE):C6 f cf (.and a b) H=bk7 f cf b (C6 f cf a H):=qq
theorem bu5(a b:TE):C6 f cf (.or a b) H=orR f cf b (C6 f cf a H):=qq
theorem bu7(a:TE):C6 f cf (no a) H=F5 f (.un .not (.t 0)) (Dl f cf [a] H):=qq
theorem bw8(o:BinOp)(a b:TE):C6 f cf (b2 o a b) H=F5 f (.bini o (.t 0) (.t 1)) (Dl f cf [a,b] H):=qq
theorem bw7(o:BinOp)(n:Int)(a:TE):C6 f cf (bk o n a) H=F5 f (.bini o (.t 0) (.c (.int .i64 n))) (Dl f cf [a] H):=qq
theorem bw6(o:BinOp)(a b:TE):C6 f cf (bs o a b) H=F5 f (.bins o (.t 0) (.t 1)) (Dl f cf [a,b] H):=qq
theorem bu9(a:TE):C6 f cf (ln a) H=F5 f (.len false (.t 0)) (Dl f cf [a] H):=qq
theorem bu8(a:TE):C6 f cf (ls a) H=F5 f (.len true (.t 0)) (Dl f cf [a] H):=qq
theorem bv7(n:Nat)(a:TE):C6 f cf (ex n a) H=F5 f (.ext (.t 0) n) (Dl f cf [a] H):=qq
theorem bv0(a:TE):C6 f cf (ld a) H=F5 f (.load false 1 (.t 0)) (Dl f cf [a] H):=qq
theorem bv1(n:Nat)(a:TE):C6 f cf (la n a) H=F5 f (.load true n (.t 0)) (Dl f cf [a] H):=qq
theorem bv6(n:Nat)(a:TE):C6 f cf (fa n a) H=F5 f (.faddr n (.t 0)) (Dl f cf [a] H):=qq
theorem bv4(n:Nat)(a b:TE):C6 f cf (ia n a b) H=F5 f (.iaddr n (.t 0) (.t 1)) (Dl f cf [a,b] H):=qq
theorem bv3(n:Nat)(j:Int)(a:TE):C6 f cf (ik n j a) H=F5 f (.iaddr n (.t 0) (.c (.int .i64 j))) (Dl f cf [a] H):=qq
theorem bv5(n m:Nat)(a:TE):C6 f cf (fg n m a) H=F5 f (.field true n m (.t 0)) (Dl f cf [a] H):=qq
theorem bv9(n:IntKind)(a:TE):C6 f cf (cv n a) H=F5 f (.convi n (.t 0)) (Dl f cf [a] H):=qq
theorem bv2(a b:TE):C6 f cf (ix a b) H=F5 f (.indexs (.t 0) (.t 1)) (Dl f cf [a,b] H):=qq
theorem bw5(g:FuncId):C6 f cf (Yb g) H=F5 f (.call g []) (some ([],H)):=qq
theorem bw4(g:FuncId)(a:TE):C6 f cf (Am g a) H=F5 f (.call g [.t 0]) (Dl f cf [a] H):=qq
theorem bw3(g:FuncId)(a b:TE):C6 f cf (B1 g a b) H=F5 f (.call g [.t 0,.t 1]) (Dl f cf [a,b] H):=qq
theorem bw2(g:FuncId)(a b c:TE):C6 f cf (Sy g a b c) H=F5 f (.call g [.t 0,.t 1,.t 2]) (Dl f cf [a,b,c] H):=qq
theorem bw1(g:FuncId)(a b c e:TE):C6 f cf (c4' g a b c e) H=F5 f (.call g [.t 0,.t 1,.t 2,.t 3]) (Dl f cf [a,b,c,e] H):=qq
theorem bw0(g:FuncId)(a b c e h:TE):C6 f cf (c5' g a b c e h) H=F5 f (.call g [.t 0,.t 1,.t 2,.t 3,.t 4]) (Dl f cf [a,b,c,e,h] H):=qq
theorem de8(q:Bool)(b:TE):bk7 f cf b (some (.bool q,H))=if q=true then C6 f cf b H else some (.bool false,H):=by cases q<;>rfl
theorem c6n(q:Bool)(b:TE):orR f cf b (some (.bool q,H))=if q=true then some (.bool true,H)else C6 f cf b H:=by cases q<;>rfl
theorem cu1(q:Prop)[Decidable q](x y:Bool):(if q then some (AV.bool x,H)else some (AV.bool y,H))=some (.bool (if q then x else y),H):=by by_cases h:q<;>simp[h]
theorem cu2(q:Prop)[Decidable q](x:Bool):(if q then x else false)=(decide q&&x):=by by_cases h:q<;>simp[h]
theorem cu0(q:Prop)[Decidable q](x:Bool):(if q then true else x)=(decide q||x):=by by_cases h:q<;>simp[h]
theorem d02(q:Prop)[Decidable q](r r':Option (AV×AH)):Um X a b cf (if q then r else r')=if q then Um X a b cf r else Um X a b cf r':=by by_cases h:q<;>simp[h]
theorem c34(n0:Nat)(live:List Nat):F3 n0 live (some (.normal,cf,H))=some (.normal,(G3 n0 (Dq live 0 cf) H).1,(G3 n0 (Dq live 0 cf) H).2):=qq
theorem c36(n0:Nat)(live:List Nat):F3 n0 live (some (.exit i,cf,H))=some (.exit i,cf,H):=qq
theorem c33(n0:Nat)(live:List Nat):F3 n0 live (some (.ret,cf,H))=some (.ret,cf,H):=qq
theorem c35(n0:Nat)(live:List Nat)(q:Prop)[Decidable q](r r':R3):F3 n0 live (if q then r else r')=if q then F3 n0 live r else F3 n0 live r':=by by_cases h:q<;>simp[h]
theorem cs9(live:List Nat)(n:Nat)(x:AV)(xs:List AV):Dq live n (x::xs)=(if live.contains n then x else .top)::Dq live (n+1) xs:=qq
theorem cs8(live:List Nat)(n:Nat):Dq live n []=[]:=qq
theorem d7i(n0:Nat)(live:List Nat)(em:List (Nat×Nat)):enter n0 live em cf H=b3p n0 (Oc em (Dq live 0 cf,H)):=qq
theorem by9(n0:Nat):b3p n0 (cf,H)=G3 n0 cf H:=qq
theorem d7l(q:List AV×AH):Oc [] q=q:=qq
theorem d7m(sz:Nat)(em:List (Nat×Nat)):Oc ((i,sz)::em) (cf,H)=Oc em (Y8 i sz cf H (getF cf i)):=qq
theorem d7o(sz:Nat):Y8 i sz cf H .emp=(Fy cf (some i) (.own H.length sz 0 0 0),H++[some []]):=qq
theorem d7n(sz r s o l t:Nat):Y8 i sz cf H (.own r s o l t)=(cf,H):=qq
end
theorem ap9{f:StepF}(hf:∀ x fr H,f (.mv x) fr H=some (evalA fr x,H))(cf:List AV)(H:AH)(i:Nat)(l:List TS)(a:TE):Fd f (m i a::l) cf H=Nz f l (Mo cf (some i) (C6 f cf a H)):=by
 rw[m,a64,a77,b3n];cases C6 f cf a H with
 |none=>rfl
 |some r=>simp only[b1k,ai4,b3m,e17,F5,hf];rfl
theorem bt9{f:StepF}(hf:∀ x fr H,f (.mv x) fr H=some (evalA fr x,H))(cf:List AV)(H:AH)(i:Nat)(l:List TS)(a:TE):Fd f (p i a::l) cf H=Nz f l (Mo cf (some i) (C6 f cf a H)):=by
 cases a
 case op o as=>exact(a64 f cf H l _ _ _).trans (by rw[a77];rfl)
 all_goals exact ap9 hf cf H i l _
theorem bu1(lk:FuncId->Bool)(E:CallF)(cf:List AV)(H:AH)(i:Nat)(l:List TS)(a:TE):Fd (Bz lk E) (m i a::l) cf H=Nz (Bz lk E) l (Mo cf (some i) (C6 (Bz lk E) cf a H)):=ap9 (a32 lk E).mv cf H i l a
theorem bt8(lk:FuncId->Bool)(E:CallF)(cf:List AV)(H:AH)(i:Nat)(l:List TS)(a:TE):Fd (Bz lk E) (p i a::l) cf H=Nz (Bz lk E) l (Mo cf (some i) (C6 (Bz lk E) cf a H)):=bt9 (a32 lk E).mv cf H i l a
theorem bu2(cf:List AV)(H:AH)(i:Nat)(l:List TS)(a:TE):Fd fD (m i a::l) cf H=Nz fD l (Mo cf (some i) (C6 fD cf a H)):=ap9 ag6.mv cf H i l a
theorem ay9{step:List AV->AH->R3}{cf:List AV}{H:AH}{cf':List AV}{H':AH}(h:step cf H=some (.normal,cf',H')):Ad step cf H=Ad step cf' H':=by
 apply Option.ext;intro r;rw[X4,X4];constructor
 ·rintro⟨k,hk⟩;cases k with
  |zero=>cases hk
  |succ k=>unfold Hb at hk;rw[h]at hk;exact⟨k,hk⟩
 ·rintro⟨k,hk⟩;exact⟨k+1,by unfold Hb;rw[h];exact hk⟩
theorem ca9{step:List AV->AH->R3}{cf:List AV}{H:AH}{i:Nat}{cf':List AV}{H':AH}(h:step cf H=some (.exit i,cf',H')):Ad step cf H=some (.exit i,cf',H'):=X4.2 ⟨1,by unfold Hb;rw[h]⟩
theorem ca8{step:List AV->AH->R3}{cf:List AV}{H:AH}{cf':List AV}{H':AH}(h:step cf H=some (.ret,cf',H')):Ad step cf H=some (.ret,cf',H'):=X4.2 ⟨1,by unfold Hb;rw[h]⟩
noncomputable def Wt (step:List AV->AH->R3) (r:R3):R3:=match r with
 |some (.normal,cf,H)=>Ad step cf H
 |r=>r
theorem Sc(step:List AV->AH->R3)(cf:List AV)(H:AH):Ad step cf H=Wt step (step cf H):=by
 cases hs:step cf H with
 |none=>
   cases hl:Ad step cf H with
   |none=>rfl
   |some r=>
     obtain⟨k,hk⟩:=X4.1 hl;cases k with
     |zero=>cases hk
     |succ k=>unfold Hb at hk;rw[hs]at hk;cases hk
 |some q=>
   obtain⟨e,c1,H1⟩:=q;cases e with
   |normal=>exact ay9 hs
   |exit i=>exact ca9 hs
   |ret=>exact ca8 hs
theorem c6t(step:List AV->AH->R3)(cf:List AV)(H:AH):Wt step (some (.normal,cf,H))=Ad step cf H:=qq
theorem c6u(step:List AV->AH->R3)(i:Nat)(cf:List AV)(H:AH):Wt step (some (.exit i,cf,H))=some (.exit i,cf,H):=qq
end
section
section
variable (lk:FuncId->Bool) (E:CallF) (vs:List AV) (H:AH)
theorem d5b(x:AV)(l:List AV):getF (x::l) 0=x:=qq
theorem d5c(x:AV)(l:List AV)(n:Nat):getF (x::l) (n+1)=getF l n:=qq
theorem c5k(x:AV):Fy vs none x=vs:=qq
theorem c5h(x y:AV):Fy (y::vs) (some 0) x=x::vs:=qq
theorem c5i(x y:AV)(n:Nat):Fy (y::vs) (some (n+1)) x=y::Fy vs (some n) x:=qq
theorem d71(n:Nat):Al vs (.t n)=getF vs n:=qq
theorem d72(x:AV):Al vs (.c x)=x:=qq
theorem c2k(x:AV):same (some x) H=some (x,H):=qq
theorem dr1(x:Opd):Bz lk E (.mv x) vs H=some (Al vs x,H):=qq
theorem du2(cs:List AV):Bz lk E (.alloc cs) vs H=if cs.length≠0 then some (.ptr H.length 0 0 1,H++[some [cs]])else none:=qq
theorem dt8(x:Opd):Bz lk E (.box x) vs H=aj1 H (Al vs x):=qq
theorem dt6(z:List AV)(p:List (Nat×Nat×Opd)):Bz lk E (.build z p) vs H=same ((Dr (Al vs) z p).map .agg) H:=qq
theorem dt7(s l:Nat)(z:List AV)(p:List (Nat×Opd)):Bz lk E (.bslice s l z p) vs H=Yd H s l (Dr (Al vs) (List.replicate l z).flatten (p.map λx=>(x.1*s,s,x.2))):=qq
theorem dr6(a:Bool)(n:Nat)(x:Opd):Bz lk E (.load a n x) vs H=same ((K6 H n (Al vs x)).map (Ge a)) H:=qq
theorem dq6(n:Nat)(p x:Opd):Bz lk E (.store n p x) vs H=a02 H n (Al vs p) (Al vs x):=qq
theorem dr0(x:Opd):Bz lk E (.nilchk x) vs H=same (Uf H (Al vs x)) H:=qq
theorem du0(o:BinOp)(x y:Opd):Bz lk E (.bini o x y) vs H=same (Og o (Al vs x) (Al vs y)) H:=qq
theorem dt9(o:BinOp)(x y:Opd):Bz lk E (.bins o x y) vs H=same (Yf o (Al vs x) (Al vs y)) H:=qq
theorem ds7(n:Bool)(ks:List EK)(x y:Opd):Bz lk E (.eqs n ks x y) vs H=same (a3b H n ks (Al vs x) (Al vs y)) H:=qq
theorem dq5(o:UnOp)(x:Opd):Bz lk E (.un o x) vs H=same (unV o (Al vs x)) H:=qq
theorem dt1(k:IntKind)(x:Opd):Bz lk E (.convi k x) vs H=same (ai3 k (Al vs x)) H:=qq
theorem dt0(x:Opd):Bz lk E (.convsb x) vs H=b1j H (Al vs x):=qq
theorem dt2(x:Opd):Bz lk E (.convbs x) vs H=same (((J1 H (Al vs x)).bind Ib).map .str) H:=qq
theorem dr2(s b:Nat)(z:List AV)(l c:Opd):Bz lk E (.mksl s b z l c) vs H=a7l H s b z (Al vs l) (Al vs c):=qq
theorem dq7(x:Opd)(l h:Option Opd):Bz lk E (.slices x l h) vs H=same (a0f (Al vs) (Al vs x) l h) H:=qq
theorem dq8(s:Nat)(x:Opd)(l h:Option Opd):Bz lk E (.slicel s x l h) vs H=Dy (.slicel s x l h) (Al vs) H:=qq
theorem dq9(x l h m:Opd):Bz lk E (.slice3 x l h m) vs H=Dy (.slice3 x l h m) (Al vs) H:=qq
theorem ds5(o:Nat)(x:Opd):Bz lk E (.faddr o x) vs H=same (V7 H o (Al vs x)) H:=qq
theorem ds4(a:Bool)(o n:Nat)(x:Opd):Bz lk E (.field a o n x) vs H=same (b15 a o n (Al vs x)) H:=qq
theorem ds3(s:Nat)(x i:Opd):Bz lk E (.iaddr s x i) vs H=same (O6 H s (Al vs x) (Al vs i)) H:=qq
theorem ds2(l s:Nat)(x i:Opd):Bz lk E (.iaddra l s x i) vs H=same (b08 H l s (Al vs x) (Al vs i)) H:=qq
theorem dr9(x i:Opd):Bz lk E (.indexs x i) vs H=same (a83 (Al vs x) (Al vs i)) H:=qq
theorem ds1(a:Bool)(l s:Nat)(x i:Opd):Bz lk E (.indexa a l s x i) vs H=same (b02 a l s (Al vs x) (Al vs i)) H:=qq
theorem cz4(a:Bool)(l s:Nat)(cs:List AV)(k:IntKind)(n:Int):b02 a l s (.agg cs) (.int k n)=if 0<=n/\n<l/\n.toNat*s+s<=cs.length then some (Ge a ((cs.drop (n.toNat*s)).take s))else none:=qq
theorem ds6(x:Opd)(i:Nat):Bz lk E (.ext x i) vs H=same (ag7 (Al vs x) i) H:=qq
theorem dr8(x:Opd):Bz lk E (.len false x) vs H=same (P8 H (Al vs x)) H:=qq
theorem dr7(x:Opd):Bz lk E (.len true x) vs H=same (a1l (Al vs x)) H:=qq
theorem du1(s b:Nat)(z:List AV)(x y:Opd):Bz lk E (.append s b z x y) vs H=Sz H s b z (Al vs x) (Al vs y):=qq
theorem ds9(s:Nat)(x y:Opd):Bz lk E (.copy s x y) vs H=ai2 H s (Al vs x) (Al vs y):=qq
theorem dt3(s:Nat)(z:List AV)(x:Opd):Bz lk E (.clear s z x) vs H=ai7 H s z (Al vs x):=qq
theorem dr4(x y:Opd):Bz lk E (.min2 x y) vs H=same (ax6 (Al vs x) (Al vs y)) H:=qq
theorem dr5(x y:Opd):Bz lk E (.max2 x y) vs H=same (ay4 (Al vs x) (Al vs y)) H:=qq
theorem dr3(f:Fn)(a c:List Opd):Bz lk E (.mkfn f a c) vs H=some (.fn f (a.map (Al vs)) (c.map (Al vs)),H):=qq
theorem dt5(f:FuncId)(a:List Opd):Bz lk E (.call f a) vs H=Gj lk E f (a.map (Al vs)) H:=qq
def be9(E:CallF)(x:AV)(as:List AV)(H:AH):Option (AV×AH):=match x with
 |.fn (.func f) first cap=>E f (first++as++cap) H
 |_=>none
theorem dt4(x:Opd)(a:List Opd):Bz lk E (.calld x a) vs H=be9 (Gj lk E) (Al vs x) (a.map (Al vs)) H:=by
 simp only[Bz,Br,a80];generalize Al vs x=y;cases y<;>first|rfl|(rename_i f _ _;cases f<;>rfl)
theorem d7v(f:FuncId)(first cap as:List AV):be9 E (.fn (.func f) first cap) as H=E f (first++as++cap) H:=qq
def b7c(neg:Bool)(q:Option (Option Bool))(H:AH):Option (AV×AH):=match q with
 |some (some b)=>some (.bool (b != neg),H)
 |_=>none
theorem ds8(n:Bool)(x:Opd):Bz lk E (.eqnil n x) vs H=b7c n (Mz H (Al vs x)) H:=by
 simp only[Bz,Br,az6];generalize Mz H (Al vs x)=y;cases y with
 |none=>rfl
 |some y=>cases y<;>rfl
theorem c8t(n b:Bool):b7c n (some (some b)) H=some (.bool (b != n),H):=qq
theorem du9(a:Bool)(n:Nat)(x:Opd):fD (.load a n x) vs H=same ((K6 H n (Al vs x)).map (Ge a)) H:=by rw[Cc];rfl
theorem du6(x:Opd):fD (.nilchk x) vs H=same (Uf H (Al vs x)) H:=by rw[Cc];rfl
theorem dw1(o:BinOp)(x y:Opd):fD (.bini o x y) vs H=same (Og o (Al vs x) (Al vs y)) H:=by rw[Cc];rfl
theorem dw0(o:BinOp)(x y:Opd):fD (.bins o x y) vs H=same (Yf o (Al vs x) (Al vs y)) H:=by rw[Cc];rfl
theorem dv8(n:Bool)(ks:List EK)(x y:Opd):fD (.eqs n ks x y) vs H=same (a3b H n ks (Al vs x) (Al vs y)) H:=by rw[Cc];rfl
theorem dv9(k:IntKind)(x:Opd):fD (.convi k x) vs H=same (ai3 k (Al vs x)) H:=by rw[Cc];rfl
theorem dv7(o:Nat)(x:Opd):fD (.faddr o x) vs H=same (V7 H o (Al vs x)) H:=by rw[Cc];rfl
theorem dv6(s:Nat)(x i:Opd):fD (.iaddr s x i) vs H=same (O6 H s (Al vs x) (Al vs i)) H:=by rw[Cc];rfl
theorem dv5(x:Opd):fD (.len false x) vs H=same (P8 H (Al vs x)) H:=by rw[Cc];rfl
theorem dv4(x:Opd):fD (.len true x) vs H=same (a1l (Al vs x)) H:=by rw[Cc];rfl
end
def c3c(d:FT)(n0:Nat)(r:R3):Option (AV×AH):=r.bind λr=>match r.1 with
 |.exit _=>none
 |_=>(Hm d.res r.2.1 r.2.2).bind λy=>C8 d.fz n0 y r.2.2
def V6(fz:Bool)(n0:Nat)(H:AH)(y:Option AV):Option (AV×AH):=y.bind λy=>C8 fz n0 y H
theorem d6r{fz:Bool}{H:AH}{y:AV}(h:A8 y=true):V6 fz 0 H (some y)=some (y,[]):=by
 simp only[V6,e17,C8,h,and_self,if_true]
section
variable (tab:List (Nat×FT)) (orc:CallF) (lk:FuncId->Bool)
noncomputable def K:CallF:=Gj lk (Ev tab orc lk)
noncomputable def cx (sl:List Nat) (N n0:Nat):TCtx:=⟨lk,Ev tab orc lk,Ad,sl,N,n0⟩
theorem d8l(sl:List Nat)(N n0:Nat)(live:List Nat)(em:List (Nat×Nat))(b:TC)(cf:List AV)(H:AH):b85 (cx tab orc lk sl N n0) live em b cf H=Ad (ar8 (cx tab orc lk sl N n0) live b) (enter n0 live em cf H).1 (enter n0 live em cf H).2:=qq
theorem d8j(sl:List Nat)(N n0:Nat)(live:List Nat)(b:TC)(cf:List AV)(H:AH):ar8 (cx tab orc lk sl N n0) live b cf H=F3 n0 live (Bd (cx tab orc lk sl N n0) b cf H):=qq
theorem dp3:Gj lk (Ev tab orc lk)=K tab orc lk:=qq
variable {tab orc lk}
theorem bm5{f:FuncId}{d:FT}(hd:A9 tab f=some d){args:List AV}{H:AH}{r:AV×AH}(hn:args.length=d.np)(h:c3c d H.length (Bd (cx tab orc lk d.sl (d.np+d.nt) H.length) d.tc (args++List.replicate (d.sl.length-d.np) .top) H)=some r) :
 Ev tab orc lk f args H=some r:=by
 refine du3 hd ?_;unfold Ru;rw[if_pos hn];exact h
theorem dp2{f:FuncId}(hl:lk f=true){args:List AV}{H:AH}{x:AV}(h:K tab orc lk f (Bc H args) H=some (x,H))(hb:Ac (Bc H args)=true)(hx:De x=true):K tab orc lk f args H=some (x,H):=by
 have h2:=h;unfold K Gj at h2 ⊢;rw[if_pos hl]at h2 ⊢;rw[Rj H _ hb]at h2;split at h2
 ·rename_i y H1 he;split at h2
  ·rename_i hfl;rw[if_pos hfl];exact h2
  ·split at h2
   ·cases h2;rename_i hfl _;exact absurd hx hfl
   ·cases h2
 ·cases h2
theorem dw3{P:Program}(ht:∀ p∈tab,p.2.is P p.1)(ho:Gd P orc){f:FuncId}{args:List AV}{H:AH}{x:AV}{H':AH}(h:K tab orc lk f args H=some (x,H')):C P f args H λy G=>y=x/\G=H' :=
 a3q (Tk ht ho) _ _ _ _ _ h
end
end
section
abbrev Sl(α:Type):=Option (List α)
def els{α:Type}(x:Sl α):List α:=x.getD []
theorem Bn{α:Type}(l:List α):els (some l)=l:=qq
theorem ah9{α:Type}:els (none:Sl α)=[]:=qq
def nz{α:Type}(l:List α):Sl α:=if l.isEmpty then none else some l
def A0{α:Type}(p:α->List PV):Sl α->AV
 |none=>.emp
 |some l=>.fz (l.map p)
def Nv{α:Type}(p:α->List PV):Sl α->PV
 |none=>.emp
 |some l=>.fz (l.map p)
section
variable {α:Type} (p:α->List PV) (x:Sl α) (H:AH)
theorem C1(l:List α):A0 p (some l)=.fz (l.map p):=qq
theorem Lb:A0 p none=.emp:=qq
theorem Va:emb (Nv p x)=A0 p x:=by cases x<;>rfl
theorem c08:Dc (A0 p x)=some (Nv p x):=by cases x<;>rfl
theorem b1r:cellA (A0 p x)=true:=by cases x<;>rfl
theorem Ap:A8 (A0 p x)=true:=by cases x<;>simp[A0,A8]
theorem c4p:Cw (A0 p x)=[]:=by cases x<;>simp[A0,Cw]
theorem Jf(τ:Nat->Option Nat):ren τ (A0 p x)=A0 p x:=Mq τ _ (Ap p x)
theorem d9p:cellsOf (A0 p x)=some [A0 p x]:=by cases x<;>rfl
theorem b8e:P8 H (A0 p x)=some (.int .i64 (els x).length):=by
 cases x with
 |none=>rfl
 |some l=>simp[A0,X5,els]
theorem d7t:J1 H (A0 p x)=some ((els x).map λa=>(p a).map emb):=by
 cases x with
 |none=>rfl
 |some l=>simp[A0,J1,els]
theorem Aa [Inhabited α](sz:Nat)(k:IntKind)(n:Int):O6 H sz (A0 p x) (.int k n)=if(0<=n/\n<(els x).length)/\(p ((els x).getD n.toNat default)).length=sz then some (.fptr (p ((els x).getD n.toNat default)))else none:=by
 cases x with
 |none=>
   rw[if_neg (by simp only[ah9,e1n];omega)];rfl
 |some l=>exact Ax H sz l p k n
end
def Rd(Q:R3->Prop)(I:Prop)(c:List AV)(G:AH):R3->Prop
 |some (.normal,c',G')=>c'=c/\G'=G/\I
 |r=>Q r
section
variable (Q:R3->Prop) (I:Prop) (c:List AV) (G:AH)
theorem dk1(c':List AV)(G':AH):Rd Q I c G (some (.normal,c',G'))=(c'=c/\G'=G/\I):=qq
theorem dk3(i:Nat)(c':List AV)(G':AH):Rd Q I c G (some (.exit i,c',G'))=Q (some (.exit i,c',G')):=qq
theorem dk0(c':List AV)(G':AH):Rd Q I c G (some (.ret,c',G'))=Q (some (.ret,c',G')):=qq
theorem dk2(q:Prop)[Decidable q](r r':R3):Rd Q I c G (if q then r else r')=((q->Rd Q I c G r)/\(¬ q->Rd Q I c G r')):=by by_cases h:q<;>simp[h]
end
theorem G7{Q:R3->Prop}{step:List AV->AH->R3}{cf:List AV}{H:AH}{r:R3}(hl:Ad step cf H=r)(n:Nat)(F:Nat->List AV)(G:Nat->AH)(I:Nat->Prop)(h0:cf=F 0)(h1:H=G 0)(hI:I 0)
 (hs:∀ j,j<n->I j->Rd Q (I (j+1)) (F (j+1)) (G (j+1)) (step (F j) (G j))) (he:I n->Rd Q False (F n) (G n) (step (F n) (G n))):Q r:=by
 subst hl h0 h1;have Et:∀ j,(∀ c G',step (F j) (G j)≠some (.normal,c,G'))->Q (step (F j) (G j))->Q (Ad step (F j) (G j)):=by
  intro j hn hq;rw[Sc];generalize step (F j) (G j)=r at hn hq;cases r with
  |none=>exact hq
  |some r=>
    obtain⟨e,c,G'⟩:=r;cases e with
    |normal=>exact absurd rfl (hn c G')
    |exit i=>exact hq
    |ret=>exact hq
 have key:∀ k j,j+k=n->I j->Q (Ad step (F j) (G j)):=by
  intro k
  induction k with
  |zero=>
    intro j hj hIj;have:j=n:=om;subst this;have h:=he hIj;refine Et j ?_ ?_
    ·intro c G' e;rw[e]at h;exact h.2.2
    ·generalize step (F j) (G j)=r at h ⊢;cases r with
     |none=>exact h
     |some r=>
       obtain⟨e,c,G'⟩:=r;cases e with
       |normal=>exact h.2.2.elim
       |exit i=>exact h
       |ret=>exact h
  |succ k ih=>
    intro j hj hIj;have h:=hs j om hIj;by_cases hn:∀ c G',step (F j) (G j)≠some (.normal,c,G')
    ·refine Et j hn ?_;generalize step (F j) (G j)=r at h hn ⊢;cases r with
     |none=>exact h
     |some r=>
       obtain⟨e,c,G'⟩:=r;cases e with
       |normal=>exact absurd rfl (hn c G')
       |exit i=>exact h
       |ret=>exact h
    ·have hn:∃ c G',step (F j) (G j)=some (.normal,c,G'):=by
      refine dx9 λhx=>hn λc G' e=>hx ⟨c,G',e⟩
     obtain⟨c,G',e⟩:=hn;rw[e]at h;obtain⟨rfl,rfl,hI'⟩:=h;rw[ay9 e];exact ih (j+1) om hI'
 exact key n 0 om hI
theorem c4f(r sz o l t:Nat):Cw (.own r sz o l t)=[r]:=qq
theorem c4e(r i j t:Nat):Cw (.ptr r i j t)=[r]:=qq
theorem c4q(cs:List AV):Cw (.agg cs)=Cb cs:=qq
theorem c4b(cs:List AV):Cw (.tuple cs)=Cb cs:=qq
theorem c4c:Cw .top=[]:=qq
theorem c4m(b:Bool):Cw (.bool b)=[]:=qq
theorem c4g(k:IntKind)(n:Int):Cw (.int k n)=[]:=qq
theorem c4d(s:List UInt8):Cw (.str s)=[]:=qq
theorem c4k:Cw .emp=[]:=qq
theorem c4h(es:List (List PV)):Cw (.fz es)=[]:=qq
theorem c4i(cs:List PV):Cw (.fptr cs)=[]:=qq
theorem c4j(f:Fn)(a c:List AV):Cw (.fn f a c)=Cb a++Cb c:=qq
theorem c48:Cb []=[]:=qq
theorem b5t(x:AV)(xs:List AV):Cb (x::xs)=Cw x++Cb xs:=qq
theorem d9k(k:IntKind)(n:Int):cellsOf (.int k n)=some [.int k n]:=qq
theorem d9i(s:List UInt8):cellsOf (.str s)=some [.str s]:=qq
theorem d9n(b:Bool):cellsOf (.bool b)=some [.bool b]:=qq
theorem d9j(r sz o l t:Nat):cellsOf (.own r sz o l t)=some [.own r sz o l t]:=qq
theorem d9l(es:List (List PV)):cellsOf (.fz es)=some [.fz es]:=qq
theorem d9m:cellsOf .emp=some [.emp]:=qq
theorem c9k(k:Nat):Fe k []=k:=qq
theorem c9l(k r:Nat)(l:List Nat):Fe k (r::l)=Fe (if k<=r then r+1 else k) l:=qq
theorem d9t(k:IntKind)(n:Int):cellA (.int k n)=true:=qq
theorem d9r(s:List UInt8):cellA (.str s)=true:=qq
theorem d9x(b:Bool):cellA (.bool b)=true:=qq
theorem d9s(r sz o l t:Nat):cellA (.own r sz o l t)=true:=qq
theorem d9u(es:List (List PV)):cellA (.fz es)=true:=qq
theorem d9v:cellA .emp=true:=qq
def Pv(cf:List AV)(H:AH):Nat->Nat->Nat->List AV×AH
 |0,k,k2=>if k2=k then(cf,H.take k)else(cf,H)
 |n+1,k,k2=>if k2=k then(cf,H.take k)else Pv cf H n k2 (Fe k2 (K5 (H.take k2)))
def aq3(cf:List AV)(H:AH)(k:Nat):List AV×AH:=if H.length<=k then(cf,H)else Pv cf H 4 k (Fe k (K5 (H.take k)))
theorem b3u{H:AH}{k:Nat}(h:Fe k (K5 (H.take k))=k):∀ n,Lo H n k=k
 |0=>rfl
 |n+1=>by rw[Lo,h,b3u h n]
theorem b3q(cf:List AV)(H:AH):∀ (n k:Nat),Pv cf H n k (Fe k (K5 (H.take k)))=if Fe (Lo H n k) (K5 (H.take (Lo H n k)))=Lo H n k then(cf,H.take (Lo H n k))else(cf,H)
 |0,k=>rfl
 |n+1,k=>by
   rw[Pv];split
   ·rename_i h;rw[b3u h (n+1),if_pos h]
   ·rw[b3q cf H n];rfl
theorem by8(n0:Nat)(cf:List AV)(H:AH):G3 n0 cf H=aq3 cf H (Fe n0 (Cb cf)):=by
 unfold G3 aq3;split
 ·rfl
 ·exact(b3q cf H 4 _).symm
theorem bz2(cf:List AV)(H:AH)(k:Nat):aq3 cf H k=if H.length<=k then(cf,H)else Pv cf H 4 k (Fe k (K5 (H.take k))):=qq
theorem bz0(cf:List AV)(H:AH)(k k2:Nat):Pv cf H 4 k k2=if k2=k then(cf,H.take k)else Pv cf H 3 k2 (Fe k2 (K5 (H.take k2))):=qq
theorem bz1(cf:List AV)(H:AH)(k k2:Nat):Pv cf H 3 k k2=if k2=k then(cf,H.take k)else Pv cf H 2 k2 (Fe k2 (K5 (H.take k2))):=qq
theorem c49:K5 []=[]:=qq
theorem c4a(o:Option AObj)(H:AH):K5 (o::H)=Cf o++K5 H:=qq
theorem c42:Cf none=[]:=qq
theorem c43:Cf (some [])=[]:=qq
theorem c46(e:List AV)(o:AObj):Cf (some (e::o))=Cb e++Cf (some o):=qq
theorem c47(a b:AObj):Cf (some (a++b))=Cf (some a)++Cf (some b):=by simp[Cf]
theorem K4{α:Type}(l:List α)(f:α->List AV)(h:∀ a,Cb (f a)=[]):Cf (some (l.map f))=[]:=by
 simp only[Cf,List.flatMap_eq_nil_iff,e2r];rintro _ ⟨a,_,rfl⟩;exact h a
theorem c4l(p:PV):Cw (emb p)=[]:=by cases p<;>rfl
theorem b5s:∀ cs:List PV,Cb (cs.map emb)=[]
 |[]=>rfl
 |c::cs=>by rw[e2c,b5t,c4l,b5s cs];rfl
theorem c45{α:Type}(l:List α)(p:α->List PV):Cf (some (l.map λa=>(p a).map emb))=[]:=K4 l _ λa=>b5s _
theorem c44{α:Type}(l:List α)(k:IntKind)(g:α->Int):Cf (some (l.map λa=>[AV.int k (g a)]))=[]:=K4 l _ λ_=>rfl
theorem G9{α β:Type}[Inhabited α]{l:List α}{j:Nat}(h:j<l.length)(f:α->β):(l.map f)[j]?=some (f (l.getD j default)):=by
 rw[e0t,dx5,dy1 h];rfl
theorem En{α:Type}[Inhabited α]{l:List α}{j:Nat}(h:j<l.length):l.take (j+1)=l.take j++[l.getD j default]:=by
 rw[e0y,dx5,dy1 h];rfl
theorem Ew{α:Type}[Inhabited α]{l:List α}{j:Nat}(h:j<l.length):l.drop j=l.getD j default::l.drop (j+1):=by
 rw[dy0 h,dx5,dy1 h];rfl
theorem Tq{α β:Type}(l:List α)(f:α->β):(l.map f).take l.length=l.map f:=dz1 (by rw[e1q];exact e2z _)
theorem b1w:∀ l:List UInt8,Ib (l.map λb=>[AV.int IntKind.u8 (b.toNat:Int)])=some l
 |[]=>rfl
 |b::l=>by
   have hb:=b.toNat_lt;have e:UInt8.ofNat ((b.toNat:Int)).toNat=b:=(by simp);rw[e2c,Ib,b1w l];simp[e]
theorem b4f{α:Type}(f:α->Nat)(b:Nat)(h:∀ a,f a<=b):∀ l:List α,(l.map f).sum<=b*l.length
 |[]=>by simp
 |a::l=>by
   have:=b4f f b h l
   have:=h a;rw[e2c,e2i,e15,Nat.mul_succ];omega
end
section
mutual
theorem c4o:∀ x:AV,A8 x=true->Cw x=[]
 |.own ..,h=>by simp[A8]at h
 |.ptr ..,h=>by simp[A8]at h
 |.agg cs,h=>by simp only[A8]at h;simp only[Cw,Lt cs h]
 |.tuple cs,h=>by simp only[A8]at h;simp only[Cw,Lt cs h]
 |.fn f first cap,h=>by
   simp only[A8,e14]at h;simp only[Cw,Lt first h.1,Lt cap h.2,e1t]
 |.top,_=>by simp[Cw]
 |.bool _,_=>by simp[Cw]
 |.int _ _,_=>by simp[Cw]
 |.str _,_=>by simp[Cw]
 |.nilp,_=>by simp[Cw]
 |.emp,_=>by simp[Cw]
 |.fz _,_=>by simp[Cw]
 |.fptr _,_=>by simp[Cw]
 |.nilfn,_=>by simp[Cw]
theorem Lt:∀ xs:List AV,Ac xs=true->Cb xs=[]
 |[],_=>by simp[Cb]
 |x::xs,h=>by
   simp only[Ac,e14]at h;simp only[Cb,c4o x h.1,Lt xs h.2,e1t]
end
theorem bg6{E:CallF}{f:FuncId}{args:List AV}{x:AV}(ha:Ac args=true)(h:E f args []=some (x,[]))(H:AH):Kd E f args H=some ([],x,[]):=by
 unfold Kd;have e:Ji H (H.length*4+40) (Cb args) []=[]:=by rw[Lt _ ha];rfl
 simp only[e,e2o,Kt _ _ ha,h];rfl
theorem da7{E:CallF}{f:FuncId}{args:List AV}{x:AV}(ha:Ac args=true)(hx:A8 x=true)(h:E f args []=some (x,[]))(H:AH):Od E f args H=some (x,H):=by
 unfold Od;rw[bg6 ha h];simp only[Mq _ _ hx];simp[Gk,Cm]
theorem dc5(r sz o l t:Nat):A8 (.own r sz o l t)=false:=qq
theorem dc4(r i j t:Nat):A8 (.ptr r i j t)=false:=qq
theorem dc2(cs:List AV):A8 (.tuple cs)=Ac cs:=qq
theorem dc6:Ac []=true:=qq
theorem dc7(x:AV)(xs:List AV):Ac (x::xs)=(A8 x&&Ac xs):=qq
theorem by7(x:AV):Ou [x]=x:=qq
theorem by6(x y:AV)(l:List AV):Ou (x::y::l)=.tuple (x::y::l):=qq
def ag4(fz:Bool)(H:AH)(y:AV):Bool->Option (AV×AH)
 |true=>some (y,[])
 |false=>C8 fz 0 y H
theorem d6s(fz:Bool)(H:AH)(y:AV):V6 fz 0 H (some y)=ag4 fz H y (A8 y):=by
 cases hb:A8 y with
 |true=>exact d6r hb
 |false=>rfl
theorem d6x(fz:Bool)(H:AH)(y:AV):ag4 fz H y true=some (y,[]):=qq
def b0z(q:AV×AH):Option (AV×AH):=if A8 q.1=true then some (q.1,[])else match Iw 0 [q.1] q.2 with
 |([x],H2)=>some (x,H2)
 |_=>none
theorem d6z(H:AH)(y:AV)(h:A8 y=false):C8 true 0 y H=b0z (L2 0 y H):=by
 unfold C8 b0z;rw[if_neg (by rw[h];simp)];simp only[if_true,true_and];split<;>rfl
def Qk(y:AV):Nat->AV×AH->AV×AH
 |0,q=>q
 |k+1,q=>Qk y k (Sf k q.1 q.2)
theorem ba9(y:AV):∀ (k:Nat) (q:AV×AH),O7 0 y k q=Qk y k q
 |0,_=>rfl
 |k+1,q=>by rw[O7,if_pos (e2x k),ba9 y k];rfl
def b0y(y:AV)(H:AH)(x:AV):Bool->Option (AV×AH)
 |true=>some (x,[])
 |false=>C8 true 0 y H
def Xc(r:Nat)(x:AV)(H:AH):Option (List (List PV))->AV×AH
 |some es=>(frz r es x,Hy (Ce r es) (H.set r none))
 |none=>(x,H)
def ag3(y:AV)(H:AH)(b:Bool)(q:AV×AH):Option (AV×AH):=if b=false/\A8 q.1=true then some (q.1,[])else C8 true 0 y H
theorem d70(H:AH)(y:AV):ag4 true H y false=ag3 y H (A8 y) (Qk y H.length (y,H)):=by
 show C8 true 0 y H=_;unfold ag3;split
 ·rename_i hb;have h:=hb.1;rw[d6z H y h];unfold b0z;by_cases hl:H.length<=0
  ·have:H=[]:=List.eq_nil_of_length_eq_zero om;subst this;have hf:A8 y=true:=(by simpa [Qk]using hb.2);rw[h]at hf;cases hf
  ·have e:L2 0 y H=Qk y H.length (y,H):=by
    unfold L2;rw[if_neg hl,ba9];simp only[hb.2,if_true]
   rw[e,if_pos hb.2]
 ·rfl
theorem d6w(y:AV)(H:AH)(x:AV)(G:AH):ag3 y H false (x,G)=b0y y H x (A8 x):=by
 unfold ag3 b0y;cases A8 x<;>rfl
theorem d6v(y:AV)(H:AH)(x:AV):b0y y H x true=some (x,[]):=qq
theorem d0g(y:AV)(q:AV×AH):Qk y 0 q=q:=qq
theorem d0h(y:AV)(k:Nat)(x:AV)(H:AH):Qk y (k+1) (x,H)=Qk y k (Xc k x H ((H.at k).bind Ct)):=by
 show Qk y k (Sf k x H)=_;unfold Sf Xc
 cases (H.at k).bind Ct<;>rfl
theorem d0b(r:Nat)(x:AV)(H:AH)(es:List (List PV)):Xc r x H (some es)=(frz r es x,Hy (Ce r es) (H.set r none)):=qq
theorem d0c(r:Nat)(x:AV)(H:AH):Xc r x H none=(x,H):=qq
theorem dc9(o:Option AObj)(H:AH):AH.at (o::H) 0=o:=by cases o<;>rfl
theorem dd0(o:Option AObj)(H:AH)(r:Nat):AH.at (o::H) (r+1)=AH.at H r:=by simp[AH.at]
theorem b3y:Ct []=some []:=qq
theorem Zw(e:List AV)(o:AObj):Ct (e::o)=(e.mapM Dc).bind λx=>(Ct o).map λy=>x::y:=by
 unfold Ct;rw[List.mapM_cons];cases e.mapM Dc with
 |none=>rfl
 |some x=>cases o.mapM (λe=>e.mapM Dc)<;>rfl
theorem c01(a b:AObj):Ct (a++b)=(Ct a).bind λx=>(Ct b).map λy=>x++y:=by
 induction a with
 |nil=>simp only[e1s,b3y,e17];cases Ct b<;>rfl
 |cons e a ih=>
   rw[e1b,Zw,Zw,ih];cases e.mapM Dc with
   |none=>rfl
   |some x=>cases Ct a with
     |none=>rfl
     |some y=>cases Ct b<;>rfl
theorem Lp{α:Type}(f:α->List AV)(g:α->List PV)(h:∀ a,(f a).mapM Dc=some (g a)):∀ l:List α,Ct (l.map f)=some (l.map g)
 |[]=>rfl
 |a::l=>by rw[e2c,Zw,h,Lp f g h l];rfl
theorem b40(p:PV):Dc (emb p)=some p:=by cases p<;>rfl
theorem b7x:∀ l:List PV,(l.map emb).mapM Dc=some l
 |[]=>rfl
 |p::l=>by rw[e2c,List.mapM_cons,b40,b7x l];rfl
theorem b3z{α:Type}(l:List α)(p:α->List PV):Ct (l.map λa=>(p a).map emb)=some (l.map p):=Lp _ _ (λa=>b7x (p a)) l
theorem bz8{α:Type}(l:List α)(k:IntKind)(g:α->Int):Ct (l.map λa=>[AV.int k (g a)])=some (l.map λa=>[PV.int k (g a)]):=Lp _ _ (λa=>rfl) l
theorem c9m:([]:List AV).mapM Dc=some []:=qq
theorem c9n(x:AV)(l:List AV):(x::l).mapM Dc=(Dc x).bind λy=>(l.mapM Dc).map λys=>y::ys:=by
 rw[List.mapM_cons];cases Dc x with
 |none=>rfl
 |some y=>cases l.mapM Dc<;>rfl
theorem c04(k:IntKind)(n:Int):Dc (.int k n)=some (.int k n):=qq
theorem c02(s:List UInt8):Dc (.str s)=some (.str s):=qq
theorem c07(b:Bool):Dc (.bool b)=some (.bool b):=qq
theorem c05(es:List (List PV)):Dc (.fz es)=some (.fz es):=qq
theorem c06:Dc .emp=some .emp:=qq
theorem c03(r sz o l t:Nat):Dc (.own r sz o l t)=none:=qq
theorem d5z(r:Nat)(es:List (List PV)):Ce r es []=[]:=qq
theorem d62(r:Nat)(es:List (List PV))(x:AV)(xs:List AV):Ce r es (x::xs)=frz r es x::Ce r es xs:=qq
theorem d5q(r:Nat)(es:List (List PV))(r' sz off len tot:Nat):frz r es (.own r' sz off len tot)=if r'=r then(if tot=es.length/\off+len<=tot then .fz ((es.drop off).take len)else .top)else .own r' sz off len tot:=qq
theorem d5x(r:Nat)(es:List (List PV))(cs:List AV):frz r es (.agg cs)=.agg (Ce r es cs):=qq
theorem d5m(r:Nat)(es:List (List PV))(cs:List AV):frz r es (.tuple cs)=.tuple (Ce r es cs):=qq
theorem d5n(r:Nat)(es:List (List PV)):frz r es .top=.top:=qq
theorem d5v(r:Nat)(es:List (List PV))(b:Bool):frz r es (.bool b)=.bool b:=qq
theorem d5r(r:Nat)(es:List (List PV))(k:IntKind)(n:Int):frz r es (.int k n)=.int k n:=qq
theorem d5o(r:Nat)(es:List (List PV))(s:List UInt8):frz r es (.str s)=.str s:=qq
theorem d5t(r:Nat)(es:List (List PV)):frz r es .emp=.emp:=qq
theorem d5s(r:Nat)(es fs:List (List PV)):frz r es (.fz fs)=.fz fs:=qq
theorem bc8(r:Nat)(es:List (List PV))(p:PV):frz r es (emb p)=emb p:=by cases p<;>rfl
theorem c9q(f:List AV->List AV):Hy f []=[]:=qq
theorem c9p(f:List AV->List AV)(H:AH):Hy f (none::H)=none::Hy f H:=qq
theorem c9o(f:List AV->List AV)(o:AObj)(H:AH):Hy f (some o::H)=some (o.map f)::Hy f H:=qq
theorem d61{α:Type}(r:Nat)(es:List (List PV))(l:List α)(p:α->List PV):(l.map λa=>(p a).map emb).map (Ce r es)=l.map λa=>(p a).map emb:=by
 rw[e2t];refine e0a λa _=>?_;simp only[Function.comp_apply,Sn,e2t];exact e0a λp _=>bc8 r es p
theorem d60{α:Type}(r:Nat)(es:List (List PV))(l:List α)(k:IntKind)(g:α->Int):(l.map λa=>[AV.int k (g a)]).map (Ce r es)=l.map λa=>[AV.int k (g a)]:=by
 rw[e2t];rfl
section
variable {tab:List (Nat×FT)} {orc:CallF} {lk:FuncId->Bool}
theorem bm3{f:FuncId}{args:List AV}{x:AV}(ha:Ac args=true)(hx:A8 x=true)(h:Ev tab orc lk f args []=some (x,[]))(H:AH):K tab orc lk f args H=some (x,H):=by
 unfold K Gj;split
 ·rw[Rj H args ha,h];simp only[ha,hx,List.isEmpty_nil,Bool.and_self,if_true];split<;>rfl
 ·exact da7 ha hx h H
def Cg(res:List ARes)(fz:Bool)(n0:Nat)(r:R3):Option (AV×AH):=r.bind λr=>match r.1 with
 |.exit _=>none
 |_=>(Hm res r.2.1 r.2.2).bind λy=>C8 fz n0 y r.2.2
theorem c3d(res:List ARes)(fz:Bool)(n0:Nat)(cf:List AV)(H:AH):Cg res fz n0 (some (.ret,cf,H))=V6 fz n0 H (Hm res cf H):=qq
theorem c3e(res:List ARes)(fz:Bool)(n0:Nat)(cf:List AV)(H:AH):Cg res fz n0 (some (.normal,cf,H))=V6 fz n0 H (Hm res cf H):=qq
theorem c3f(res:List ARes)(fz:Bool)(n0:Nat)(q:Prop)[Decidable q](r r':R3):Cg res fz n0 (if q then r else r')=if q then Cg res fz n0 r else Cg res fz n0 r':=by by_cases h:q<;>simp[h]
theorem Ah{f:FuncId}{d:FT}(hd:A9 tab f=some d){args:List AV}{x:AV}(hn:args.length=d.np)(ha:Ac args=true)(hx:A8 x=true)
 (h:Cg d.res d.fz 0 (Bd (cx tab orc lk d.sl (d.np+d.nt) 0) d.tc (args++List.replicate (d.sl.length-d.np) .top) [])=some (x,[])) (H:AH):K tab orc lk f args H=some (x,H):=
 bm3 ha hx (bm5 hd hn h) H
theorem a5o{f:FuncId}(hd:A9 tab f=none){args:List AV}{x:AV}(ha:Ac args=true)(hx:A8 x=true)(h:orc f args []=some (x,[]))(H:AH):K tab orc lk f args H=some (x,H):=
 bm3 ha hx (Pt hd h) H
end
theorem B7{a:List ARes}{b:Bool}{c:Nat}{X:TCtx}{t:TC}{i:Nat}{y:Option (AV×AH)}{step:List AV->AH->R3}{cf:List AV}{H:AH}{r:R3}(hl:Ad step cf H=r)(n:Nat)(F:Nat->List AV)(G:Nat->AH)(I:Nat->Prop)(h0:cf=F 0)(h1:H=G 0)(hI:I 0)(hs:∀ j,j<n->I j->Rd (λr=>Cg a b c (Be X t (B0 i r))=y) (I (j+1)) (F (j+1)) (G (j+1)) (step (F j) (G j)))(he:I n->Rd (λr=>Cg a b c (Be X t (B0 i r))=y) False (F n) (G n) (step (F n) (G n))):Cg a b c (Be X t (B0 i r))=y:=G7 (Q:=λr=>Cg a b c (Be X t (B0 i r))=y) hl n F G I h0 h1 hI hs he
end
section
abbrev SEnv:=List (Nat×AV)
def Qg:SEnv->Nat->AV
 |[],_=>.top
 |(m,x)::e,n=>if m=n then x else Qg e n
def lkE(N:Nat)(e:SEnv)(n:Nat):AV:=if n<N then Qg e n else .top
def Iz(N:Nat)(e:SEnv):Opd->AV
 |.t n=>lkE N e n
 |.c x=>x
def Gg(e:SEnv)(d:Option Nat)(x:AV):SEnv:=match d with
 |none=>e
 |some d=>(d,x)::e
def D5(lk:FuncId->Bool)(ev:CallF)(op:AOp)(c:Nat)(V:Opd->AV)(H:AH):Option (List Loc×List Loc×Nat×AV×AH):=
 match op with
 |.call f args=>
   if lk f=true/\Ac (args.map V)=false then
    match ev f (Bc H (args.map V)) []with
    |some (x,H1)=>if De x=true then some ((Fs H (args.map V)).map .con,[],c,x,H)else none
    |none=>none
   else
   match Kd ev f (args.map V) H with
   |some (rs,x,H1)=>
     if(∀ r∈rs,r<c)/\c+(H1.length-rs.length)<=H.length then
      let all:=rs++List.range' c (H1.length-rs.length)
      some (all.map .con,all.map .con++all.map .len,c+(H1.length-rs.length),ren (Bg all) x,Cm H all (H1.map λo=>o.map (Av (Bg all))))
     else none
   |none=>none
 |.store n p x=>
   match V p,cellsOf (V x)with
   |.ptr r i j tot,some cs=>
     match Aq H r tot with
     |some o=>
       match o[i]? with
       |some e=>if(cs.length=n/\j+n<=e.length/\cs.all cellA=true)/\r<c then some ([.con r],[.con r],c,.top,H.set r (some (o.set i (lay e j cs))))else none
       |none=>none
     |none=>none
   |_,_=>none
 |.calld x0 args=>
   match V x0 with
   |.fn (.func f) first cap=>
     match Kd ev f (first++args.map V++cap) H with
     |some (rs,x,H1)=>
       if(∀ r∈rs,r<c)/\c+(H1.length-rs.length)<=H.length then
        let all:=rs++List.range' c (H1.length-rs.length)
        some (all.map .con,all.map .con++all.map .len,c+(H1.length-rs.length),ren (Bg all) x,Cm H all (H1.map λo=>o.map (Av (Bg all))))
       else none
     |none=>none
   |_=>none
 |.append sz bytes _ x y=>
   match (match V x with
    |.own r sz' 0 len tot=>if sz'=sz/\len=tot then some (r,len)else none
    |.emp=>(a3e H c).map λr=>(r,0)
    |_=>none),Du H (V y)with
   |some (r,len),some news=>
     match Aq H r len with
     |some o=>
       if(news.all (λe=>decide (e.length=sz))=true/\(len+news.length)*bytes<=1000000000000/\len+news.length<=1000000000)/\r<c then
        some (.con r::Hu (V y),[.con r,.len r],c,.own r sz 0 (len+news.length) (len+news.length),H.set r (some (o++news)))
       else none
     |none=>none
   |_,_=>none
 |.eqnil _ _=>none
 |.bad=>none
 |op=>
   if M6 op then
    if c<H.length then
     match Cl op V []with
     |some (v,[some o])=>some ([.con c],[.con c,.len c],c+1,ren (Bg [c]) v,H.set c (some o))
     |_=>none
    else none
   else
    match B4 op V H with
    |some v=>some (Gy op V,[],c,v,H)
    |none=>none
theorem d7b(lk:FuncId->Bool)(ev:CallF)(op:AOp)(c:Nat)(fr:List AV)(H:AH):Js lk ev op c fr H=D5 lk ev op c (evalA fr) H:=by cases op<;>rfl
def Fq(call:CallF)(op:AOp)(V:Opd->AV)(H:AH):Option (AV×AH):=
 match op with
 |.call f args=>call f (args.map V) H
 |.calld x args=>
   match V x with
   |.fn (.func f) first cap=>call f (first++args.map V++cap) H
   |_=>none
 |.eqnil neg x=>
   match Mz H (V x)with
   |some (some b)=>some (.bool (b != neg),H)
   |_=>none
 |op=>Dy op V H
theorem d76(call:CallF)(op:AOp)(fr:List AV)(H:AH):Df call op fr H=Fq call op (evalA fr) H:=by cases op<;>rfl
def gd(x:AV)(want:Bool):Option Bool:=match x with
 |.bool b=>some (decide (b=want))
 |.tuple []=>some false
 |_=>none
def Jr(lk:FuncId->Bool)(ev:CallF)(tab:List (List Nat))(N:Nat):List (Nat×AInstr)->Nat->List Hp->SEnv->AH->Option (SEnv×AH)
 |[],_,lg,e,H=>if confOK tab lg=true then some (e,H)else none
 |(i,A1)::rest,c,lg,e,H=>
   match A1.guard with
   |none=>(D5 lk ev A1.op c (Iz N e) H).bind λr=>Jr lk ev tab N rest r.2.2.1 (lg++[E4 i A1 r.1 r.2.1]) (Gg e A1.dst r.2.2.2.1) r.2.2.2.2
   |some (g,want)=>(gd (lkE N e g) want).bind λq=>
     if q=true then(D5 lk ev A1.op c (Iz N e) H).bind λr=>Jr lk ev tab N rest r.2.2.1 (lg++[E4 i A1 r.1 r.2.1]) (Gg e A1.dst r.2.2.2.1) r.2.2.2.2
     else Jr lk ev tab N rest c (lg++[(i,[.slot g],C9 A1.dst)]) (Gg e A1.dst (.tuple [])) H
def Y7(call:CallF)(N:Nat)(A1:AInstr)(e:SEnv)(H:AH):Option (SEnv×AH):=
 match A1.guard with
 |none=>(Fq call A1.op (Iz N e) H).bind λr=>some (Gg e A1.dst r.1,r.2)
 |some (g,want)=>(gd (lkE N e g) want).bind λq=>
   if q=true then(Fq call A1.op (Iz N e) H).bind λr=>some (Gg e A1.dst r.1,r.2)else some (Gg e A1.dst (.tuple []),H)
def J0(lk:FuncId->Bool)(ev:CallF)(tab:List (List Nat))(N:Nat):List (List (Nat×AInstr))->SEnv->AH->Option (SEnv×AH)
 |[],e,H=>some (e,H)
 |[(_,A1)]::rest,e,H=>(Y7 ev N A1 e H).bind λr=>J0 lk ev tab N rest r.1 r.2
 |seg::rest,e,H=>(Jr lk ev tab N seg H.length [] e (H++List.replicate (Np seg) none)).bind λr=>J0 lk ev tab N rest r.1 r.2
structure RelF(N:Nat)(fr:List AV)(e:SEnv):Prop where
 len:fr.length=N
 at':∀ n,getF fr n=lkE N e n
theorem d5d{l:List AV}{n:Nat}(h:l.length<=n):getF l n=.top:=by rw[Fp,dz3 h];rfl
theorem RelF.ev{N:Nat}{fr:List AV}{e:SEnv}(h:RelF N fr e):evalA fr=Iz N e:=by
 funext x;cases x with
 |t n=>exact(Fp fr n).symm.trans (h.at' n)
 |c x=>rfl
theorem RelF.put{N:Nat}{fr:List AV}{e:SEnv}(h:RelF N fr e)(d:Option Nat)(x:AV):RelF N (Az fr d x) (Gg e d x):=by
 cases d with
 |none=>exact h
 |some d=>
   refine⟨by simp[Az,h.len],λn=>?_⟩;have h0:=h.at' n;simp only[Az,Gg,lkE,Qg,Fp,e0q];simp only[Fp,lkE]at h0;by_cases hd:d=n
   ·subst hd;rw[if_pos rfl,if_pos rfl];by_cases hN:d<N
    ·rw[if_pos (by rw[h.len];exact hN),if_pos hN];rfl
    ·rw[if_neg (by rw[h.len];exact hN),if_neg hN];rfl
   ·rw[if_neg hd,if_neg hd];exact h0
def Ki(N:Nat):Option (List AV×AH)->Option (SEnv×AH)->Prop
 |none,none=>True
 |some (fr,H),some (e,G)=>RelF N fr e/\H=G
 |_,_=>False
theorem Ki.bind{N:Nat}{x:Option (List AV×AH)}{y:Option (SEnv×AH)}(h:Ki N x y){f:List AV×AH->Option (List AV×AH)}{g:SEnv×AH->Option (SEnv×AH)}(hf:∀ fr e H,RelF N fr e->Ki N (f (fr,H)) (g (e,H))):Ki N (x.bind f) (y.bind g):=by
 cases x with
 |none=>cases y with
   |none=>trivial
   |some y=>exact h.elim
 |some x=>cases y with
   |none=>exact h.elim
   |some y=>
     obtain⟨fr,H⟩:=x;obtain⟨e,G⟩:=y;obtain⟨h1,rfl⟩:=h;exact hf fr e H h1
section
variable {lk:FuncId->Bool} {ev:CallF} {tab:List (List Nat)} {N:Nat}
theorem d5f{fr:List AV}{e:SEnv}(h:RelF N fr e)(g:Nat):(fr[g]?).getD .top=lkE N e g:=(Fp fr g).symm.trans (h.at' g)
theorem a36:∀ (is:List (Nat×AInstr)) (c:Nat) (lg:List Hp) (fr:List AV) (e:SEnv) (H:AH),RelF N fr e->Ki N (Gb lk ev tab is c lg fr H) (Jr lk ev tab N is c lg e H)
 |[],c,lg,fr,e,H,h=>by
   unfold Gb Jr;split
   ·exact⟨h,rfl⟩
   ·trivial
 |(i,A1)::rest,c,lg,fr,e,H,h=>by
   have go:Ki N (match Js lk ev A1.op c fr H with|some (R,W,c',v,H')=>Gb lk ev tab rest c' (lg++[E4 i A1 R W]) (Az fr A1.dst v) H'|none=>none)
    ((D5 lk ev A1.op c (Iz N e) H).bind λr=>Jr lk ev tab N rest r.2.2.1 (lg++[E4 i A1 r.1 r.2.1]) (Gg e A1.dst r.2.2.2.1) r.2.2.2.2):=by
    rw[d7b,h.ev];cases D5 lk ev A1.op c (Iz N e) H with
    |none=>trivial
    |some r=>
      obtain⟨R,W,c',v,H'⟩:=r;exact a36 rest _ _ _ _ _ (h.put _ _)
   unfold Gb Jr;cases A1.guard with
   |none=>exact go
   |some gw=>
     obtain⟨g,want⟩:=gw;simp only[];rw[<-d5f h g];cases fr[g]? with
     |none=>trivial
     |some x=>
       simp only[e13];cases x with
       |bool b=>
         by_cases hb:b=want
         ·simp only[hb,gd,decide_true,e17,if_true];exact go
         ·simp only[hb,gd,decide_false,e17,if_false,e0f];exact a36 rest _ _ _ _ _ (h.put _ _)
       |tuple vs=>
         cases vs with
         |nil=>exact a36 rest _ _ _ _ _ (h.put _ _)
         |cons _ _=>trivial
       |_=>trivial
theorem d73{call:CallF}(A1:AInstr)(fr:List AV)(e:SEnv)(H:AH)(h:RelF N fr e):Ki N (G0 call [A1] fr H) (Y7 call N A1 e H):=by
 have go:Ki N (match Br A1.op call fr H with|some (v,H')=>G0 call [] (Fy fr A1.dst v) H'|none=>none) ((Fq call A1.op (Iz N e) H).bind λr=>some (Gg e A1.dst r.1,r.2)):=by
  rw[aw7,d76,h.ev];cases Fq call A1.op (Iz N e) H with
  |none=>trivial
  |some r=>
    obtain⟨v,H'⟩:=r;show Ki N (some (Fy fr A1.dst v,H')) (some (Gg e A1.dst v,H'));rw[Ua];exact⟨h.put _ _,rfl⟩
 unfold G0 Y7;cases A1.guard with
 |none=>exact go
 |some gw=>
   obtain⟨g,want⟩:=gw;simp only[];rw[<-h.at' g];cases getF fr g with
   |bool b=>
     by_cases hb:b=want
     ·simp only[hb,gd,decide_true,e17,if_true];exact go
     ·simp only[hb,gd,decide_false,e17,if_false,e0f];show Ki N (some (Fy fr A1.dst (.tuple []),H)) _;rw[Ua];exact⟨h.put _ _,rfl⟩
   |tuple vs=>
     cases vs with
     |nil=>
       show Ki N (some (Fy fr A1.dst (.tuple []),H)) _;rw[Ua];exact⟨h.put _ _,rfl⟩
     |cons _ _=>trivial
   |_=>trivial
theorem ah0:∀ (segs:List (List (Nat×AInstr))) (fr:List AV) (e:SEnv) (H:AH),RelF N fr e->Ki N (Fg lk ev tab segs fr H) (J0 lk ev tab N segs e H)
 |[],fr,e,H,h=>⟨h,rfl⟩
 |[(_,A1)]::rest,fr,e,H,h=>by
   have:=Ki.bind (d73 (call:=ev) A1 fr e H h) (f:=λr=>Fg lk ev tab rest r.1 r.2) (g:=λr=>J0 lk ev tab N rest r.1 r.2) λfr e H h=>ah0 rest fr e H h;unfold Fg J0;cases hx:G0 ev [A1] fr H with
   |none=>rw[hx]at this;exact this
   |some r=>rw[hx]at this;exact this
 |[]::rest,fr,e,H,h=>by
   have:=Ki.bind (a36 (lk:=lk) (ev:=ev) (tab:=tab) [] H.length [] fr e (H++List.replicate (Np []) none) h) (f:=λr=>Fg lk ev tab rest r.1 r.2) (g:=λr=>J0 lk ev tab N rest r.1 r.2) λfr e H h=>ah0 rest fr e H h;unfold Fg J0;cases hx:Gb lk ev tab [] H.length [] fr (H++List.replicate (Np []) none)with
   |none=>rw[hx]at this;exact this
   |some r=>rw[hx]at this;exact this
 |(x::y::z)::rest,fr,e,H,h=>by
   have:=Ki.bind (a36 (lk:=lk) (ev:=ev) (tab:=tab) (x::y::z) H.length [] fr e (H++List.replicate (Np (x::y::z)) none) h) (f:=λr=>Fg lk ev tab rest r.1 r.2) (g:=λr=>J0 lk ev tab N rest r.1 r.2) λfr e H h=>ah0 rest fr e H h;unfold Fg J0;cases hx:Gb lk ev tab (x::y::z) H.length [] fr (H++List.replicate (Np (x::y::z)) none)with
   |none=>rw[hx]at this;exact this
   |some r=>rw[hx]at this;exact this
end
theorem b89:∀ (sl:List Nat) (cf:List AV) (n:Nat),Qg (sl.zip cf) n=match sl.idxOf? n with|some i=>getF cf i|none=>.top
 |[],cf,n=>by simp[Qg]
 |s::sl,[],n=>by
   rw[List.zip_nil_right]
   cases (s::sl).idxOf? n<;>rfl
 |s::sl,x::cf,n=>by
   rw[List.zip_cons_cons,Qg,List.idxOf?_cons,b89 sl cf n];by_cases h:s=n
   ·subst h;simp[getF]
   ·rw[if_neg h,show(s==n)=false from by simpa using h];simp only[e0f,if_false];cases sl.idxOf? n<;>rfl
theorem d5k(sl:List Nat)(N:Nat)(cf:List AV):RelF N (Hj sl N cf) (sl.zip cf):=by
 refine⟨Qq _ _ _,λn=>?_⟩;unfold lkE;by_cases h:n<N
 ·rw[if_pos h,Fp,b89];simp only[Hj,e0t,List.getElem?_range h,e1p,e13];cases sl.idxOf? n<;>rfl
 ·rw[if_neg h,d5d (by rw[Qq];omega)]
def prE(sl:List Nat)(N:Nat)(r:Option (SEnv×AH)):R3:=r.map λr=>(.normal,sl.map (lkE N r.1),r.2)
theorem c5y(sl:List Nat)(N:Nat)(e:SEnv)(H:AH):prE sl N (some (e,H))=some (.normal,sl.map (lkE N e),H):=qq
theorem bx4(X:TCtx)(s:List (List (Nat×AInstr)))(t:List (List Nat))(cf:List AV)(H:AH):Bd X (.rawE s t) cf H=prE X.sl X.N (J0 X.lk (Gj X.lk X.E) t X.N s (X.sl.zip cf) (H++List.replicate (N9 s) (some []))):=by
 have:=ah0 (lk:=X.lk) (ev:=Gj X.lk X.E) (tab:=t) s _ _ (H++List.replicate (N9 s) (some [])) (d5k X.sl X.N cf)
 show(Fg X.lk (Gj X.lk X.E) t s (Hj X.sl X.N cf) _).map _=_;cases hx:Fg X.lk (Gj X.lk X.E) t s (Hj X.sl X.N cf) (H++List.replicate (N9 s) (some []))with
 |none=>
   cases hy:J0 X.lk (Gj X.lk X.E) t X.N s (X.sl.zip cf) (H++List.replicate (N9 s) (some []))with
   |none=>rfl
   |some y=>rw[hx,hy]at this;exact this.elim
 |some x=>
   cases hy:J0 X.lk (Gj X.lk X.E) t X.N s (X.sl.zip cf) (H++List.replicate (N9 s) (some []))with
   |none=>rw[hx,hy]at this;exact this.elim
   |some y=>
     rw[hx,hy]at this;obtain⟨fr,G⟩:=x;obtain⟨e,G'⟩:=y;obtain⟨h1,rfl⟩:=this;simp only[e1p,prE,S1]
     congr 4
     exact funext h1.at'
end
section
def dw7(H:AH)(c:Nat)(o:Option AObj):Option Nat:=match o with
 |some []=>some c
 |_=>a3e H c
abbrev OE:=Option (List Loc×List Loc×Nat×AV×AH)
def K8(R:List Loc)(c:Nat)(H:AH)(r:Option AV):OE:=match r with
 |some v=>some (R,[],c,v,H)
 |none=>none
def Xw(c:Nat)(H:AH)(r:Option (AV×AH)):OE:=if c<H.length then match r with
 |some (v,[some o])=>some ([.con c],[.con c,.len c],c+1,ren (Bg [c]) v,H.set c (some o))
 |_=>none
 else none
theorem cb0(R:List Loc)(c:Nat)(H:AH)(v:AV):K8 R c H (some v)=some (R,[],c,v,H):=qq
theorem d67(c:Nat)(H:AH)(v:AV)(o:AObj):Xw c H (some (v,[some o]))=if c<H.length then some ([.con c],[.con c,.len c],c+1,ren (Bg [c]) v,H.set c (some o))else none:=qq
theorem c4s{α:Type}(p:α->List PV)(x:Sl α):Hu (A0 p x)=[]:=by cases x<;>rfl
theorem c4r{α:Type}(p:α->List PV)(x:Sl α):Eo (A0 p x)=[]:=by cases x<;>rfl
theorem c1m{α:Type}(p:α->List PV)(x:Sl α)(H:AH):Du H (A0 p x)=some ((els x).map λa=>(p a).map emb):=by
 cases x with
 |none=>rfl
 |some l=>exact d7t p (some l) H
section
variable (lk:FuncId->Bool) (E:CallF) (c:Nat) (V:Opd->AV) (H:AH)
theorem dn4(q a b:Opd):D5 lk E (.pick q a b) c V H=K8 [] c H (pickV (V q) (V a) (V b)):=qq
theorem do6(z:List AV)(p:List (Nat×Nat×Opd)):D5 lk E (.build z p) c V H=K8 ([]) c H (((Dr V z p).map .agg)):=qq
theorem dn8(a:Bool)(n:Nat)(x:Opd):D5 lk E (.load a n x) c V H=K8 (Hu (V x)) c H (((K6 H n (V x)).map (Ge a))):=qq
theorem dn5(x:Opd):D5 lk E (.nilchk x) c V H=K8 (Eo (V x)) c H ((Uf H (V x))):=qq
theorem do9(o:BinOp)(x y:Opd):D5 lk E (.bini o x y) c V H=K8 ([]) c H ((Og o (V x) (V y))):=qq
theorem do8(o:BinOp)(x y:Opd):D5 lk E (.bins o x y) c V H=K8 ([]) c H ((Yf o (V x) (V y))):=qq
theorem do4(x:Opd):D5 lk E (.convbs x) c V H=K8 (Hu (V x)) c H ((((J1 H (V x)).bind Ib).map .str)):=qq
theorem dn2(x:Opd)(l h:Option Opd):D5 lk E (.slices x l h) c V H=K8 ([]) c H ((a0f V (V x) l h)):=qq
theorem do2(o:Nat)(x:Opd):D5 lk E (.faddr o x) c V H=K8 (Eo (V x)) c H ((V7 H o (V x))):=qq
theorem do1(s:Nat)(x i:Opd):D5 lk E (.iaddr s x i) c V H=K8 (Eo (V x)) c H ((O6 H s (V x) (V i))):=qq
theorem do3(x:Opd)(i:Nat):D5 lk E (.ext x i) c V H=K8 ([]) c H ((ag7 (V x) i)):=qq
theorem do0(x:Opd):D5 lk E (.len false x) c V H=K8 (Eo (V x)) c H ((P8 H (V x))):=qq
theorem dn9(x:Opd):D5 lk E (.len true x) c V H=K8 (Eo (V x)) c H ((a1l (V x))):=qq
theorem dn6(x:Opd):D5 lk E (.mv x) c V H=some ([],[],c,V x,H):=qq
theorem dn3(s:Nat)(x:Opd)(l h:Option Opd):D5 lk E (.slicel s x l h) c V H=K8 (Eo (V x)) c H (B4 (.slicel s x l h) V H):=qq
theorem dp1(cs:List AV):D5 lk E (.alloc cs) c V H=Xw c H (if cs.length≠0 then some (.ptr 0 0 0 1,[some [cs]])else none):=by
 show(if c<H.length then _ else none)=_;unfold Xw;split
 ·by_cases h:cs.length=0<;>simp[Cl,h]
 ·rfl
theorem dn7(s b:Nat)(z:List AV)(l k:Opd):D5 lk E (.mksl s b z l k) c V H=Xw c H (a7l [] s b z (V l) (V k)):=qq
theorem do7(s l:Nat)(z:List AV)(p:List (Nat×Opd)):D5 lk E (.bslice s l z p) c V H=Xw c H (Yd [] s l (Dr V (List.replicate l z).flatten (p.map λx=>(x.1*s,s,x.2)))):=by
 show(if c<H.length then _ else none)=_;unfold Xw;simp only[Cl];cases Dr V (List.replicate l z).flatten (p.map λx=>(x.1*s,s,x.2))<;>rfl
def Kc(lk:FuncId->Bool)(E:CallF)(f:FuncId)(a:List Opd)(c:Nat)(V:Opd->AV)(H:AH)(args:List AV):Bool->OE
 |true=>match E f args []with
   |some (x,[])=>if A8 x=true/\c<=H.length then some ([],[],c,x,H)else D5 lk E (.call f a) c V H
   |_=>D5 lk E (.call f a) c V H
 |false=>if lk f=true then match E f (Bc H args) []with
  |some (x,_)=>if De x=true then some ((Fs H args).map .con,[],c,x,H)else D5 lk E (.call f a) c V H
  |none=>D5 lk E (.call f a) c V H
   else D5 lk E (.call f a) c V H
theorem do5(f:FuncId)(a:List Opd):D5 lk E (.call f a) c V H=Kc lk E f a c V H (a.map V) (Ac (a.map V)):=by
 cases hb:Ac (a.map V)with
 |true=>
   unfold Kc;cases he:E f (a.map V) []with
   |none=>rfl
   |some r=>
     obtain⟨x,H1⟩:=r;cases H1 with
     |cons _ _=>rfl
     |nil=>
       simp only[];by_cases hx:A8 x=true/\c<=H.length
       ·rw[if_pos hx];unfold D5;simp only[hb,Bool.true_eq_false,and_false,if_false,bg6 hb he,Mq _ _ hx.1];simp[Cm,hx.2]
       ·rw[if_neg hx]
 |false=>
   unfold Kc;by_cases hl:lk f=true
   ·rw[if_pos hl];cases he:E f (Bc H (a.map V)) []with
    |none=>rfl
    |some r=>
      obtain⟨x,H1⟩:=r;simp only[];by_cases hf:De x=true
      ·rw[if_pos hf];unfold D5;simp only[hl,hb,and_self,if_true,he,hf]
      ·rw[if_neg hf]
   ·rw[if_neg hl]
def Kp(lk:FuncId->Bool)(E:CallF)(f:FuncId)(a:List Opd)(c:Nat)(V:Opd->AV)(H:AH):OE:=D5 lk E (.call f a) c V H
def clB(c:Nat)(H:AH)(x:AV)(o:OE):Bool->OE
 |true=>some ([],[],c,x,H)
 |false=>o
def clK(c:Nat)(H:AH)(o:OE)(r:Option (AV×AH)):OE:=match r with
 |some (x,[])=>clB c H x o (A8 x&&decide (c<=H.length))
 |_=>o
theorem d9f(f:FuncId)(a:List Opd)(args:List AV):Kc lk E f a c V H args true=clK c H (Kp lk E f a c V H) (E f args []):=by
 unfold Kc clK Kp;cases E f args []with
 |none=>rfl
 |some r=>
   obtain⟨x,H1⟩:=r;cases H1 with
   |nil=>
     simp only[];by_cases hx:A8 x=true/\c<=H.length
     ·rw[if_pos hx,show(A8 x&&decide (c<=H.length))=true from by simp[hx.1,hx.2]];rfl
     ·rw[if_neg hx,show(A8 x&&decide (c<=H.length))=false from by rw[e0z];intro h;simp only[e14,e0r]at h;exact hx h];rfl
   |cons _ _=>rfl
end
theorem d9d(c:Nat)(H:AH)(o:OE)(x:AV):clK c H o (some (x,[]))=clB c H x o (A8 x&&decide (c<=H.length)):=qq
theorem d9h(c:Nat)(H:AH)(x:AV)(o:OE):clB c H x o true=some ([],[],c,x,H):=qq
section
variable (lk:FuncId->Bool) (E:CallF) (tab:List (List Nat)) (N:Nat)
def nxE(rest:List (Nat×AInstr))(i:Nat)(A1:AInstr)(lg:List Hp)(e:SEnv)(r:OE):Option (SEnv×AH):=r.bind λr=>Jr lk E tab N rest r.2.2.1 (lg++[E4 i A1 r.1 r.2.1]) (Gg e A1.dst r.2.2.2.1) r.2.2.2.2
def nxD(rest:List (List (Nat×AInstr)))(r:Option (SEnv×AH)):Option (SEnv×AH):=r.bind λr=>J0 lk E tab N rest r.1 r.2
def skE(rest:List (Nat×AInstr))(i:Nat)(A1:AInstr)(g:Nat)(c:Nat)(lg:List Hp)(e:SEnv)(H:AH)(q:Option Bool):Option (SEnv×AH):=q.bind λq=>
 if q=true then nxE lk E tab N rest i A1 lg e (D5 lk E A1.op c (Iz N e) H)else Jr lk E tab N rest c (lg++[(i,[.slot g],C9 A1.dst)]) (Gg e A1.dst (.tuple [])) H
variable (rest:List (Nat×AInstr)) (more:List (List (Nat×AInstr))) (i c:Nat) (lg:List Hp) (e:SEnv) (H:AH)
theorem du7:J0 lk E tab N [] e H=some (e,H):=qq
theorem du5(A1:AInstr):J0 lk E tab N ([(i,A1)]::more) e H=nxD lk E tab N more (Y7 E N A1 e H):=qq
theorem du8(x y:Nat×AInstr)(z:List (Nat×AInstr)):J0 lk E tab N ((x::y::z)::more) e H=nxD lk E tab N more (Jr lk E tab N (x::y::z) H.length [] e (H++List.replicate (Np (x::y::z)) none)):=qq
theorem c8b:nxD lk E tab N more (some (e,H))=J0 lk E tab N more e H:=qq
theorem dk5:Jr lk E tab N [] c lg e H=if confOK tab lg=true then some (e,H)else none:=qq
theorem dk4(d:Option Nat)(op:AOp):Jr lk E tab N ((i,⟨d,none,op⟩)::rest) c lg e H=nxE lk E tab N rest i ⟨d,none,op⟩ lg e (D5 lk E op c (Iz N e) H):=qq
theorem dk6(d:Option Nat)(g:Nat)(w:Bool)(op:AOp):Jr lk E tab N ((i,⟨d,some (g,w),op⟩)::rest) c lg e H=skE lk E tab N rest i ⟨d,some (g,w),op⟩ g c lg e H (gd (lkE N e g) w):=qq
theorem c8a(A1:AInstr)(R W:List Loc)(c':Nat)(v:AV):nxE lk E tab N rest i A1 lg e (some (R,W,c',v,H))=Jr lk E tab N rest c' (lg++[E4 i A1 R W]) (Gg e A1.dst v) H:=qq
theorem c22(A1:AInstr)(g:Nat):skE lk E tab N rest i A1 g c lg e H (some true)=nxE lk E tab N rest i A1 lg e (D5 lk E A1.op c (Iz N e) H):=qq
theorem c23(A1:AInstr)(g:Nat):skE lk E tab N rest i A1 g c lg e H (some false)=Jr lk E tab N rest c (lg++[(i,[.slot g],C9 A1.dst)]) (Gg e A1.dst (.tuple [])) H:=qq
theorem d5g(b w:Bool):gd (.bool b) w=some (decide (b=w)):=qq
theorem d5e(w:Bool):gd (.tuple []) w=some false:=qq
theorem c5n(x:AV):Gg e none x=e:=qq
theorem c5m(d:Nat)(x:AV):Gg e (some d) x=(d,x)::e:=qq
theorem ca5(n:Nat):lkE N e n=if n<N then Qg e n else .top:=qq
theorem ca6(m n:Nat)(x:AV):Qg ((m,x)::e) n=if m=n then x else Qg e n:=qq
theorem d77(n:Nat):Iz N e (.t n)=lkE N e n:=qq
theorem d78(x:AV):Iz N e (.c x)=x:=qq
theorem dq4(d s:Nat):I0 d s=⟨some d,none,.mv (.t s)⟩:=qq
theorem dq3(d:Nat)(o:AOp):I1 d o=⟨some d,none,o⟩:=qq
theorem dq2(d g:Nat)(o:AOp):I2 d g o=⟨some d,some (g,true),o⟩:=qq
theorem dq1(d g:Nat)(o:AOp):I3 d g o=⟨some d,some (g,false),o⟩:=qq
theorem dq0(d g s:Nat):I4 d g s=⟨some d,some (g,true),.mv (.t s)⟩:=qq
theorem dp9(d g s:Nat):I5 d g s=⟨some d,some (g,false),.mv (.t s)⟩:=qq
theorem dp8(d n s:Nat):I6 d n s=⟨some d,none,.faddr n (.t s)⟩:=qq
theorem dp7(d s:Nat):I7 d s=⟨some d,none,.load false 1 (.t s)⟩:=qq
theorem dp6(d s n:Nat):I8 d s n=⟨some d,none,.ext (.t s) n⟩:=qq
theorem dp5(n p s:Nat):I9 n p s=⟨none,none,.store n (.t p) (.t s)⟩:=qq
theorem dp4(n:Int):KI n=.c (.int .i64 n):=qq
theorem bn0(a:Nat)(l:List Nat)(x:AV)(m:List AV):(a::l).zip (x::m)=(a,x)::l.zip m:=qq
theorem bm9(m:List AV):([]:List Nat).zip m=[]:=qq
def sgG(E:CallF)(N:Nat)(d:Option Nat)(e:SEnv)(H:AH)(op:AOp)(q:Option Bool):Option (SEnv×AH):=q.bind λq=>if q=true then(Fq E op (Iz N e) H).bind λr=>some (Gg e d r.1,r.2)else some (Gg e d (.tuple []),H)
def sgE(N:Nat)(d:Option Nat)(e:SEnv)(r:Option (AV×AH)):Option (SEnv×AH):=r.bind λr=>some (Gg e d r.1,r.2)
theorem c29(d:Option Nat)(x:AV):sgE N d e (some (x,H))=some (Gg e d x,H):=qq
theorem dj1(d:Option Nat)(op:AOp):Y7 E N ⟨d,none,op⟩ e H=sgE N d e (Fq E op (Iz N e) H):=qq
theorem dj2(d:Option Nat)(g:Nat)(w:Bool)(op:AOp):Y7 E N ⟨d,some (g,w),op⟩ e H=sgG E N d e H op (gd (lkE N e g) w):=qq
end
section
variable (E:CallF) (V:Opd->AV) (H:AH)
theorem dl3(c a b:Opd):Fq E (.pick c a b) V H=same ((pickV (V c) (V a) (V b))) H:=Ds _ rfl rfl
theorem dm2(z:List AV)(p:List (Nat×Nat×Opd)):Fq E (.build z p) V H=same (((Dr V z p).map .agg)) H:=Ds _ rfl rfl
theorem dl6(a:Bool)(n:Nat)(x:Opd):Fq E (.load a n x) V H=same (((K6 H n (V x)).map (Ge a))) H:=Ds _ rfl rfl
theorem dl4(x:Opd):Fq E (.nilchk x) V H=same ((Uf H (V x))) H:=Ds _ rfl rfl
theorem dm5(o:BinOp)(x y:Opd):Fq E (.bini o x y) V H=same ((Og o (V x) (V y))) H:=Ds _ rfl rfl
theorem dm4(o:BinOp)(x y:Opd):Fq E (.bins o x y) V H=same ((Yf o (V x) (V y))) H:=Ds _ rfl rfl
theorem dm0(n:Bool)(ks:List EK)(x y:Opd):Fq E (.eqs n ks x y) V H=same ((a3b H n ks (V x) (V y))) H:=Ds _ rfl rfl
theorem dl1(o:UnOp)(x:Opd):Fq E (.un o x) V H=same ((unV o (V x))) H:=Ds _ rfl rfl
theorem dl9(o:Nat)(x:Opd):Fq E (.faddr o x) V H=same ((V7 H o (V x))) H:=Ds _ rfl rfl
theorem dl8(s:Nat)(x i:Opd):Fq E (.iaddr s x i) V H=same ((O6 H s (V x) (V i))) H:=Ds _ rfl rfl
theorem dl7(x:Opd):Fq E (.len false x) V H=same ((P8 H (V x))) H:=Ds _ rfl rfl
theorem dl2(n:Nat)(p x:Opd):Fq E (.store n p x) V H=a02 H n (V p) (V x):=qq
theorem dm6(s b:Nat)(z:List AV)(x y:Opd):Fq E (.append s b z x y) V H=Sz H s b z (V x) (V y):=qq
theorem dl5(x:Opd):Fq E (.mv x) V H=some (V x,H):=qq
theorem dm1(f:FuncId)(a:List Opd):Fq E (.call f a) V H=E f (a.map V) H:=qq
theorem dm3(s l:Nat)(z:List AV)(p:List (Nat×Opd)):Fq E (.bslice s l z p) V H=Yd H s l (Dr V (List.replicate l z).flatten (p.map λx=>(x.1*s,s,x.2))):=by
 show Dy (.bslice s l z p) V H=_;unfold Dy;simp only[B4,Cl];cases Dr V (List.replicate l z).flatten (p.map λx=>(x.1*s,s,x.2))<;>rfl
end
def b4h(E:CallF)(f:FuncId)(args:List AV)(H:AH):Option (AV×AH):=Od E f args H
def Ff(op:AOp):Nat:=match op with
 |.append .. =>1
 |_=>0
def Gn(op:AOp):Nat:=match op with
 |.call _ _=>12
 |op=>if M6 op then 1 else 0
def Yk:List (Nat×AInstr)->Nat
 |[]=>0
 |i::r=>Ff i.2.op+Yk r
theorem de0:Yk []=0:=qq
theorem bk1(i:Nat)(d:Option Nat)(g:Option (Nat×Bool))(op:AOp)(r:List (Nat×AInstr)):Yk ((i,⟨d,g,op⟩)::r)=Ff op+Yk r:=qq
theorem bk0:∀ s:List (Nat×AInstr),(s.filter λi=>match i.2.op with
 |.append .. =>true
 |_=>false).length=Yk s
 |[]=>rfl
 |(i,⟨d,g,op⟩)::r=>by
   rw[bk1,<-bk0 r,List.filter_cons];cases op<;>simp[Ff,Nat.add_comm]
theorem dd6:N9 []=0:=qq
theorem dd7(s:List (Nat×AInstr))(l:List (List (Nat×AInstr))):N9 (s::l)=Yk s+N9 l:=congrArg (·+N9 l) (bk0 s)
theorem c1n:Np []=0:=qq
theorem c1o(i:Nat)(d:Option Nat)(g:Option (Nat×Bool))(op:AOp)(r:List (Nat×AInstr)):Np ((i,⟨d,g,op⟩)::r)=Gn op+Np r:=qq
theorem cx3(x:Opd):Ff (.mv x)=0:=qq
theorem cv0(x:Opd):Gn (.mv x)=0:=qq
theorem cx1(c a b:Opd):Ff (.pick c a b)=0:=qq
theorem cu8(c a b:Opd):Gn (.pick c a b)=0:=qq
theorem cy9(cs:List AV):Ff (.alloc cs)=0:=qq
theorem cw4(cs:List AV):Gn (.alloc cs)=1:=qq
theorem cy4(zero:List AV)(parts:List (Nat×Nat×Opd)):Ff (.build zero parts)=0:=qq
theorem cv9(zero:List AV)(parts:List (Nat×Nat×Opd)):Gn (.build zero parts)=0:=qq
theorem cy5(sz len:Nat)(zero:List AV)(parts:List (Nat×Opd)):Ff (.bslice sz len zero parts)=0:=qq
theorem cw0(sz len:Nat)(zero:List AV)(parts:List (Nat×Opd)):Gn (.bslice sz len zero parts)=1:=qq
theorem cx5(agg:Bool)(n:Nat)(x:Opd):Ff (.load agg n x)=0:=qq
theorem cv2(agg:Bool)(n:Nat)(x:Opd):Gn (.load agg n x)=0:=qq
theorem cw8(n:Nat)(p x:Opd):Ff (.store n p x)=0:=qq
theorem cu5(n:Nat)(p x:Opd):Gn (.store n p x)=0:=qq
theorem cx2(x:Opd):Ff (.nilchk x)=0:=qq
theorem cu9(x:Opd):Gn (.nilchk x)=0:=qq
theorem cy7(op:BinOp)(x y:Opd):Ff (.bini op x y)=0:=qq
theorem cw2(op:BinOp)(x y:Opd):Gn (.bini op x y)=0:=qq
theorem cy6(op:BinOp)(x y:Opd):Ff (.bins op x y)=0:=qq
theorem cw1(op:BinOp)(x y:Opd):Gn (.bins op x y)=0:=qq
theorem cy0(neg:Bool)(ks:List EK)(x y:Opd):Ff (.eqs neg ks x y)=0:=qq
theorem cw7(op:UnOp)(x:Opd):Ff (.un op x)=0:=qq
theorem cy1(x:Opd):Ff (.convbs x)=0:=qq
theorem cv7(x:Opd):Gn (.convbs x)=0:=qq
theorem cx4(sz bytes:Nat)(zero:List AV)(len cap:Opd):Ff (.mksl sz bytes zero len cap)=0:=qq
theorem cv1(sz bytes:Nat)(zero:List AV)(len cap:Opd):Gn (.mksl sz bytes zero len cap)=1:=qq
theorem cw9(x:Opd)(lo hi:Option Opd):Ff (.slices x lo hi)=0:=qq
theorem cu6(x:Opd)(lo hi:Option Opd):Gn (.slices x lo hi)=0:=qq
theorem cx0(sz:Nat)(x:Opd)(lo hi:Option Opd):Ff (.slicel sz x lo hi)=0:=qq
theorem cu7(sz:Nat)(x:Opd)(lo hi:Option Opd):Gn (.slicel sz x lo hi)=0:=qq
theorem cx8(off:Nat)(x:Opd):Ff (.faddr off x)=0:=qq
theorem cv5(off:Nat)(x:Opd):Gn (.faddr off x)=0:=qq
theorem cx7(sz:Nat)(x i:Opd):Ff (.iaddr sz x i)=0:=qq
theorem cv4(sz:Nat)(x i:Opd):Gn (.iaddr sz x i)=0:=qq
theorem cx9(x:Opd)(i:Nat):Ff (.ext x i)=0:=qq
theorem cv6(x:Opd)(i:Nat):Gn (.ext x i)=0:=qq
theorem cx6(str:Bool)(x:Opd):Ff (.len str x)=0:=qq
theorem cv3(str:Bool)(x:Opd):Gn (.len str x)=0:=qq
theorem cy8(sz bytes:Nat)(zero:List AV)(x y:Opd):Ff (.append sz bytes zero x y)=1:=qq
theorem cw3(sz bytes:Nat)(zero:List AV)(x y:Opd):Gn (.append sz bytes zero x y)=0:=qq
theorem cy3(f:FuncId)(args:List Opd):Ff (.call f args)=0:=qq
theorem cv8(f:FuncId)(args:List Opd):Gn (.call f args)=12:=qq
theorem cy2(x:Opd)(args:List Opd):Ff (.calld x args)=0:=qq
def stG(c:Nat)(H:AH)(n r i j:Nat)(cs:List AV)(o:AObj):Option (List AV)->OE
 |some e=>if(cs.length=n/\j+n<=e.length/\cs.all cellA=true)/\r<c then some ([.con r],[.con r],c,.top,H.set r (some (o.set i (lay e j cs))))else none
 |none=>none
def stF(c:Nat)(H:AH)(n r i j:Nat)(cs:List AV):Option AObj->OE
 |some o=>stG c H n r i j cs o (o[i]?)
 |none=>none
def stE(c:Nat)(H:AH)(n:Nat)(p:AV)(x:Option (List AV)):OE:=match p,x with
 |.ptr r i j tot,some cs=>stF c H n r i j cs (Aq H r tot)
 |_,_=>none
theorem dn0(lk:FuncId->Bool)(E:CallF)(c:Nat)(V:Opd->AV)(H:AH)(n:Nat)(p x:Opd):D5 lk E (.store n p x) c V H=stE c H n (V p) (cellsOf (V x)):=by
 unfold D5 stE;simp only[];generalize V p=y;generalize cellsOf (V x)=z;cases y<;>first|rfl|(cases z with
  |none=>rfl
  |some cs=>
    simp only[stF];cases Aq H _ _ with
    |none=>rfl
    |some o=>
      simp only[stG];cases o[_]?<;>rfl)
theorem c1j(c:Nat)(H:AH)(n r i j tot:Nat)(cs:List AV):stE c H n (.ptr r i j tot) (some cs)=stF c H n r i j cs (Aq H r tot):=qq
theorem c1i(c:Nat)(H:AH)(n r i j:Nat)(cs:List AV)(o:AObj):stF c H n r i j cs (some o)=stG c H n r i j cs o (o[i]?):=qq
theorem c1h(c:Nat)(H:AH)(n r i j:Nat)(cs:List AV)(o:AObj)(e:List AV):stG c H n r i j cs o (some e)=if(cs.length=n/\j+n<=e.length/\cs.all cellA=true)/\r<c then some ([.con r],[.con r],c,.top,H.set r (some (o.set i (lay e j cs))))else none:=qq
def apR(H:AH)(c sz:Nat)(x:AV):Option (Nat×Nat):=match x with
 |.own r sz' 0 len tot=>if sz'=sz/\len=tot then some (r,len)else none
 |.emp=>(a3e H c).map λr=>(r,0)
 |_=>none
def apG(c:Nat)(H:AH)(sz bytes:Nat)(R:List Loc)(r len:Nat)(news:List (List AV)):Option AObj->OE
 |some o=>if(news.all (λe=>decide (e.length=sz))=true/\(len+news.length)*bytes<=1000000000000/\len+news.length<=1000000000)/\r<c then some (.con r::R,[.con r,.len r],c,.own r sz 0 (len+news.length) (len+news.length),H.set r (some (o++news)))else none
 |none=>none
def apD(c:Nat)(H:AH)(sz bytes:Nat)(R:List Loc)(q:Option (Nat×Nat))(n:Option (List (List AV))):OE:=match q,n with
 |some (r,len),some news=>apG c H sz bytes R r len news (Aq H r len)
 |_,_=>none
theorem dp0(lk:FuncId->Bool)(E:CallF)(c:Nat)(V:Opd->AV)(H:AH)(sz b:Nat)(z:List AV)(x y:Opd):D5 lk E (.append sz b z x y) c V H=apD c H sz b (Hu (V y)) (apR H c sz (V x)) (Du H (V y)):=by
 have e:D5 lk E (.append sz b z x y) c V H=match apR H c sz (V x),Du H (V y)with
  |some (r,len),some news=>
    match Aq H r len with
    |some o=>if(news.all (λe=>decide (e.length=sz))=true/\(len+news.length)*b<=1000000000000/\len+news.length<=1000000000)/\r<c then some (.con r::Hu (V y),[.con r,.len r],c,.own r sz 0 (len+news.length) (len+news.length),H.set r (some (o++news)))else none
    |none=>none
  |_,_=>none:=rfl
 rw[e];unfold apD;cases apR H c sz (V x)with
 |none=>rfl
 |some q=>
   obtain⟨r,len⟩:=q;cases Du H (V y)with
   |none=>rfl
   |some news=>
     simp only[apG]
theorem dd9(H:AH)(c sz r sz' len tot:Nat):apR H c sz (.own r sz' 0 len tot)=if sz'=sz/\len=tot then some (r,len)else none:=qq
theorem de2(c:Nat)(H:AH)(sz bytes:Nat)(R:List Loc)(r len:Nat)(news:List (List AV)):apD c H sz bytes R (some (r,len)) (some news)=apG c H sz bytes R r len news (Aq H r len):=qq
theorem de1(c:Nat)(H:AH)(sz bytes:Nat)(R:List Loc)(r len:Nat)(news:List (List AV))(o:AObj):apG c H sz bytes R r len news (some o)=if(news.all (λe=>decide (e.length=sz))=true/\(len+news.length)*bytes<=1000000000000/\len+news.length<=1000000000)/\r<c then some (.con r::R,[.con r,.len r],c,.own r sz 0 (len+news.length) (len+news.length),H.set r (some (o++news)))else none:=qq
def crB(H:AH)(x:AV)(o:Option (AV×AH)):Bool->Option (AV×AH)
 |true=>some (x,H)
 |false=>o
def crK(H:AH)(o:Option (AV×AH))(r:Option (AV×AH)):Option (AV×AH):=match r with
 |some (x,[])=>crB H x o (A8 x)
 |_=>o
def crE(E:CallF)(f:FuncId)(H:AH)(args:List AV):Bool->Option (AV×AH)
 |true=>crK H (b4h E f args H) (E f args [])
 |false=>b4h E f args H
section
variable (tab:List (Nat×FT)) (orc:CallF) (lk:FuncId->Bool) (sl:List Nat) (N n0:Nat)
theorem d8k:(cx tab orc lk sl N n0).sl=sl:=qq
theorem d8n:(cx tab orc lk sl N n0).N=N:=qq
theorem d8m:(cx tab orc lk sl N n0).lk=lk:=qq
theorem d8o:(cx tab orc lk sl N n0).E=Ev tab orc lk:=qq
end
end
section
def vwO(H:AH)(off len tot:Nat)(o:Option AObj):AV:=match o with
 |some o=>if off+len<=tot then .fz (((o.drop off).take len).map λe=>e.map (D9 H 3))else .top
 |none=>.top
def Vs(H:AH)(i j:Nat)(o:Option AObj):AV:=match o with
 |some o=>vwR H j (o[i]?)
 |none=>.top
where vwR (H:AH) (j:Nat):Option (List AV)->AV
 |some e=>if j<=e.length then .fptr ((e.drop j).map (D9 H 3))else .top
 |none=>.top
section
variable (H:AH)
theorem br8(r sz off len tot:Nat):C5 H (.own r sz off len tot)=vwO H off len tot (Aq H r tot):=by
 simp only[C5,D9,vwO];cases Aq H r tot with
 |none=>rfl
 |some o=>simp only[];split<;>rfl
theorem br7(r i j tot:Nat):C5 H (.ptr r i j tot)=Vs H i j (Aq H r tot):=by
 simp only[C5,D9,Vs];cases Aq H r tot with
 |none=>rfl
 |some o=>
   simp only[Vs.vwR];cases o[i]? with
   |none=>rfl
   |some e=>simp only[];split<;>rfl
theorem bq2(off len tot:Nat)(o:AObj):vwO H off len tot (some o)=if off+len<=tot then .fz (((o.drop off).take len).map λe=>e.map (D9 H 3))else .top:=qq
theorem bq0(i j:Nat)(o:AObj):Vs H i j (some o)=Vs.vwR H j (o[i]?):=qq
theorem bp9(j:Nat)(e:List AV):Vs.vwR H j (some e)=if j<=e.length then .fptr ((e.drop j).map (D9 H 3))else .top:=qq
theorem bs4(cs:List AV):C5 H (.agg cs)=.agg (Bc H cs):=qq
theorem br9(k:IntKind)(n:Int):C5 H (.int k n)=.int k n:=qq
theorem br5(s:List UInt8):C5 H (.str s)=.str s:=qq
theorem bs0(es:List (List PV)):C5 H (.fz es)=.fz es:=qq
theorem bs1:C5 H .emp=.emp:=qq
theorem bs3{α:Type}(p:α->List PV)(x:Sl α):C5 H (A0 p x)=A0 p x:=b3g H _ (Ap p x)
theorem br3:Bc H []=[]:=qq
theorem br4(x:AV)(xs:List AV):Bc H (x::xs)=C5 H x::Bc H xs:=qq
theorem bq7(k:IntKind)(n:Int):D9 H 3 (.int k n)=.int k n:=qq
theorem bq5(s:List UInt8):D9 H 3 (.str s)=.str s:=qq
theorem br1(b:Bool):D9 H 3 (.bool b)=.bool b:=qq
theorem bq8(es:List (List PV)):D9 H 3 (.fz es)=.fz es:=qq
theorem bq9:D9 H 3 .emp=.emp:=qq
theorem br0(p:PV):D9 H 3 (emb p)=p:=by cases p<;>rfl
theorem br2{α:Type}(p:α->List PV)(x:Sl α):D9 H 3 (A0 p x)=Nv p x:=by cases x<;>rfl
theorem bq6{α:Type}(l:List α)(p:α->List PV):(l.map λa=>(p a).map emb).map (λe=>e.map (D9 H 3))=l.map p:=by
 rw[e2t];refine e0a λa _=>?_;simp only[Function.comp_apply,e2t]
 conv=>rhs;rw[<-List.map_id (p a)]
 exact e0a λq _=>br0 H q
end
theorem bn9(r sz o l t:Nat):Hu (.own r sz o l t)=[.con r]:=qq
theorem bn8(r i j t:Nat):Hu (.ptr r i j t)=[.con r]:=qq
theorem bo0(cs:List PV):Hu (.fptr cs)=[]:=qq
theorem bn5(r sz o l t:Nat):Eo (.own r sz o l t)=[.len r]:=qq
theorem bn4(r i j t:Nat):Eo (.ptr r i j t)=[.len r]:=qq
theorem bn6(es:List (List PV)):Eo (.fz es)=[]:=qq
theorem bn7(cs:List PV):Eo (.fptr cs)=[]:=qq
theorem bn3(s:List UInt8):Eo (.str s)=[]:=qq
theorem d05(H:AH)(len sz r k j tot:Nat)(q:IntKind)(n:Int):b08 H len sz (.ptr r k j tot) (.int q n)=if 0<=n/\n<len then(Aq H r tot).map λ_=>.ptr r k (j+n.toNat*sz) tot else none:=qq
def iaG(sz:Nat):Option (List PV)->Option AV
 |some e=>if e.length=sz then some (.fptr e)else none
 |none=>none
theorem d06(sz:Nat)(e:List PV):iaG sz (some e)=if e.length=sz then some (.fptr e)else none:=qq
theorem Gx(H:AH)(sz:Nat)(es:List (List PV))(k:IntKind)(n:Int):O6 H sz (.fz es) (.int k n)=if 0<=n then iaG sz (es[n.toNat]?)else none:=by
 simp only[O6];split
 ·cases es[n.toNat]?<;>rfl
 ·rfl
def b2c(b:Bool)(r:Option Bool):Option Bool:=r.map λr=>b&&r
theorem de9(b r:Bool):b2c b (some r)=some (b&&r):=qq
theorem d7g:Cu [] [] []=some true:=qq
theorem d7h(ks:List EK)(k:IntKind)(a b:Int)(xs ys:List AV):Cu (.i::ks) (.int k a::xs) (.int k b::ys)=b2c (decide (a=b)) (Cu ks xs ys):=by
 rw[Cu,if_pos rfl];rfl
theorem d7f(ks:List EK)(a b:List UInt8)(xs ys:List AV):Cu (.s::ks) (.str a::xs) (.str b::ys)=b2c (decide (a=b)) (Cu ks xs ys):=by
 have e:(a==b)=decide (a=b):=by rw[e1x];simp
 rw[Cu,<-e];rfl
theorem d6e(k:IntKind)(n:Int):De (.int k n)=true:=qq
theorem d6d(s:List UInt8):De (.str s)=true:=qq
theorem d6f(b:Bool):De (.bool b)=true:=qq
theorem d6g(cs:List AV):De (.agg cs)=N7 cs:=qq
theorem d6c(cs:List AV):De (.tuple cs)=N7 cs:=qq
theorem d6h:N7 []=true:=qq
theorem d6i(x:AV)(xs:List AV):N7 (x::xs)=(De x&&N7 xs):=qq
section
variable (tab:List (Nat×FT)) (orc:CallF) (lk:FuncId->Bool)
noncomputable def Zq (f:FuncId) (args:List AV) (H:AH) (x:AV):Bool->Option (AV×AH)
 |true=>some (x,H)
 |false=>K tab orc lk f args H
noncomputable def Gs (f:FuncId) (args:List AV) (H:AH) (b:Bool) (r:Option (AV×AH)):Option (AV×AH):=match b,r with
 |true,some (x,_)=>Zq tab orc lk f args H x (De x)
 |_,_=>K tab orc lk f args H
theorem J7{f:FuncId}(hl:lk f=true)(args:List AV)(H:AH):K tab orc lk f args H=Gs tab orc lk f args H (Ac (Bc H args)) (K tab orc lk f (Bc H args) H):=by
 unfold Gs;cases hb:Ac (Bc H args)with
 |false=>rfl
 |true=>
   cases hk:K tab orc lk f (Bc H args) H with
   |none=>rfl
   |some r=>
     obtain⟨x,G⟩:=r;show _=Zq tab orc lk f args H x (De x);unfold Zq;cases hf:De x with
     |false=>rfl
     |true=>
       refine dp2 hl ?_ hb hf;rw[hk];have:G=H:=by
        unfold K Gj at hk;rw[if_pos hl]at hk;split at hk
        ·split at hk
         ·cases hk;rfl
         ·split at hk
          ·cases hk;rfl
          ·cases hk
        ·cases hk
       rw[this]
theorem bq3(f:FuncId)(args:List AV)(H:AH)(x:AV)(G:AH):Gs tab orc lk f args H true (some (x,G))=Zq tab orc lk f args H x (De x):=qq
theorem bq4(f:FuncId)(args:List AV)(H:AH)(x:AV):Zq tab orc lk f args H x true=some (x,H):=qq
end
end
section
def clX(o:OE)(D:List Nat)(c:Nat)(H:AH)(x:AV):Bool->OE
 |true=>some (D.map .con,[],c,x,H)
 |false=>o
def Sv(o:OE)(D:List Nat)(c:Nat)(H:AH)(r:Option (AV×AH)):OE:=match r with
 |some (x,_)=>clX o D c H x (De x)
 |none=>o
theorem a3m{lk:FuncId->Bool}{f:FuncId}(hl:lk f=true)(E:CallF)(a:List Opd)(c:Nat)(V:Opd->AV)(H:AH)(args:List AV):Kc lk E f a c V H args false=Sv (Kp lk E f a c V H) (Fs H args) c H (E f (Bc H args) []):=by
 unfold Kc Sv Kp;rw[if_pos hl];cases E f (Bc H args) []with
 |none=>rfl
 |some r=>
   obtain⟨x,G⟩:=r;simp only[clX];cases De x<;>rfl
theorem d9c(o:OE)(D:List Nat)(c:Nat)(H:AH)(x:AV)(G:AH):Sv o D c H (some (x,G))=clX o D c H x (De x):=qq
theorem d9b(o:OE)(D:List Nat)(c:Nat)(H:AH)(x:AV):clX o D c H x true=some (D.map .con,[],c,x,H):=qq
section
variable (H:AH)
def dpO(H:AH)(off len:Nat):Option AObj->List Nat
 |some o=>((o.drop off).take len).flatMap λe=>e.flatMap (Kb H 3)
 |none=>[]
theorem d8c(r sz off len tot:Nat):Su H (.own r sz off len tot)=r::dpO H off len (Aq H r tot):=by
 simp only[Su,Kb,dpO];cases Aq H r tot<;>rfl
theorem d83(off len:Nat)(o:AObj):dpO H off len (some o)=((o.drop off).take len).flatMap λe=>e.flatMap (Kb H 3):=qq
theorem d8d(cs:List AV):Su H (.agg cs)=Fs H cs:=qq
theorem d8b(s:List UInt8):Su H (.str s)=[]:=qq
theorem d89:Fs H []=[]:=qq
theorem d8a(x:AV)(xs:List AV):Fs H (x::xs)=Su H x++Fs H xs:=qq
theorem bf1(k:IntKind)(n:Int):Kb H 3 (.int k n)=[]:=qq
theorem bf0(s:List UInt8):Kb H 3 (.str s)=[]:=qq
end
end
section
section
variable (tab:List (Nat×FT)) (orc:CallF) (lk:FuncId->Bool)
def inJ(rs:List Nat)(H:AH):Option (AV×AH)->Option (AV×AH)
 |some (x,H1)=>if rs.length<=H1.length then some (ren (Gt rs H.length) x,Gk rs H H1)else none
 |none=>none
def inH(E:CallF)(f:FuncId)(args:List AV)(H:AH)(rs:List Nat):Option (AV×AH):=
 if rs.Nodup/\(∀ r∈rs,r<H.length)then inJ rs H (E f (Ca (B9 rs) args) (rs.map λr=>(H.at r).map (Av (B9 rs))))else none
theorem da8(E:CallF)(f:FuncId)(args:List AV)(H:AH):Od E f args H=inH E f args H (Ji H (H.length*4+40) (Cb args) []):=by
 unfold Od Kd inH inJ;simp only[];split
 ·rename_i rs x H1 h;split at h
  ·rename_i hc;rw[if_pos hc];split at h
   ·rename_i x2 H2 he;rw[he];split at h
    ·rename_i hl;cases h;simp only[];rw[if_pos hl]
    ·cases h
   ·cases h
  ·cases h
 ·rename_i h;split at h
  ·rename_i hc;rw[if_pos hc];split at h
   ·rename_i x2 H2 he;rw[he];split at h
    ·cases h
    ·rename_i hl;simp only[];rw[if_neg hl]
   ·rename_i he;rw[he]
  ·rename_i hc;rw[if_neg hc]
theorem Zj{f:FuncId}(hl:lk f=false)(args:List AV)(H:AH):K tab orc lk f args H=inH (Ev tab orc lk) f args H (Ji H (H.length*4+40) (Cb args) []):=by
 unfold K Gj;rw[if_neg (by rw[hl];simp)];exact da8 _ _ _ _
end
theorem b03(rs:List Nat)(H:AH)(x:AV)(H1:AH):inJ rs H (some (x,H1))=if rs.length<=H1.length then some (ren (Gt rs H.length) x,Gk rs H H1)else none:=qq
theorem An(E:CallF)(f:FuncId)(args:List AV)(H:AH)(rs:List Nat)(h:rs.Nodup/\(∀ r∈rs,r<H.length)):inH E f args H rs=inJ rs H (E f (Ca (B9 rs) args) (rs.map λr=>(H.at r).map (Av (B9 rs)))):=if_pos h
theorem av0(H:AH)(n:Nat)(acc:List Nat):Ji H (n+1) [] acc=acc:=qq
theorem c50(H:AH)(n r:Nat)(todo acc:List Nat):Ji H (n+1) (r::todo) acc=if acc.contains r then Ji H n todo acc else Ji H n (Cf (H.at r)++todo) (acc++[r]):=qq
theorem c0a(s r:Nat)(rs:List Nat):B9 (s::rs) r=if s=r then some 0 else(B9 rs r).map (·+1):=by
 unfold B9;rw[List.idxOf?_cons];by_cases h:s=r
 ·subst h;simp
 ·rw[if_neg h,show(s==r)=false from by simpa using h];simp
theorem Vv(rs:List Nat)(n i:Nat):Gt rs n i=if i<rs.length then rs[i]? else some (n+(i-rs.length)):=qq
theorem c2i(H:AH)(r:Nat)(rs:List Nat)(o:Option AObj)(os:List (Option AObj)):Cm H (r::rs) (o::os)=Cm (H.set r o) rs os:=qq
theorem at4(H:AH)(os:List (Option AObj)):Cm H [] os=H:=by cases os<;>rfl
theorem b27(rs:List Nat)(H H':AH):Gk rs H H'=Cm H rs (H'.map λo=>o.map (Av (Gt rs H.length)))++(H'.drop rs.length).map λo=>o.map (Av (Gt rs H.length)):=qq
def aw4(sz off len tot:Nat):Option Nat->AV
 |some s=>.own s sz off len tot
 |none=>.top
def aw1(i j tot:Nat):Option Nat->AV
 |some s=>.ptr s i j tot
 |none=>.top
theorem b41(all:List Nat)(i:Nat):Bg all i=all[i]?:=qq
theorem Uc(sz off len tot s:Nat):aw4 sz off len tot (some s)=.own s sz off len tot:=qq
theorem c5t(i j tot s:Nat):aw1 i j tot (some s)=.ptr s i j tot:=qq
section
variable (τ:Nat->Option Nat)
theorem U6(r sz off len tot:Nat):ren τ (.own r sz off len tot)=aw4 sz off len tot (τ r):=by
 simp only[ren,aw4];cases τ r<;>rfl
theorem c3u(r i j tot:Nat):ren τ (.ptr r i j tot)=aw1 i j tot (τ r):=by
 simp only[ren,aw1];cases τ r<;>rfl
theorem a6y(k:IntKind)(n:Int):ren τ (.int k n)=.int k n:=Mq τ _ rfl
theorem c3s(s:List UInt8):ren τ (.str s)=.str s:=Mq τ _ rfl
theorem a0s(b:Bool):ren τ (.bool b)=.bool b:=Mq τ _ rfl
theorem c3r:ren τ .top=.top:=Mq τ _ rfl
theorem a6z:ren τ .emp=.emp:=Mq τ _ rfl
theorem c3v(es:List (List PV)):ren τ (.fz es)=.fz es:=Mq τ _ rfl
theorem au7(cs:List AV):ren τ (.agg cs)=.agg (Ca τ cs):=by simp only[ren]
theorem a0r(cs:List AV):ren τ (.tuple cs)=.tuple (Ca τ cs):=by simp only[ren]
theorem c3w(f:Fn)(a c:List AV):ren τ (.fn f a c)=.fn f (Ca τ a) (Ca τ c):=by simp only[ren]
theorem Wl:Ca τ []=[]:=by simp only[Ca]
theorem Wm(x:AV)(xs:List AV):Ca τ (x::xs)=ren τ x::Ca τ xs:=by simp only[Ca]
theorem c40(l:List PV):Ca τ (l.map emb)=l.map emb:=by rw[K3,e2t];exact e0a λp _=>b5n τ p
theorem b5p:Av τ []=[]:=qq
theorem b5r(e:List AV)(o:AObj):Av τ (e::o)=Ca τ e::Av τ o:=qq
theorem c3z(a b:AObj):Av τ (a++b)=Av τ a++Av τ b:=by simp[Av]
theorem Wj{α:Type}(l:List α)(p:α->List PV):Av τ (l.map λa=>(p a).map emb)=l.map λa=>(p a).map emb:=by
 unfold Av;rw[e2t];exact e0a λa _=>c40 τ (p a)
theorem Mr{α:Type}(l:List α)(f:α->List AV)(h:∀ a,Ac (f a)=true):Av τ (l.map f)=l.map f:=by
 unfold Av;rw[e2t];exact e0a λa _=>Kt τ _ (h a)
end
def Sp(q:List AV×AH):Option (AV×AH):=match q with
 |([x],H2)=>some (x,H2)
 |_=>none
def lvC(n0:Nat)(cf:List AV)(H:AH)(rs:List Nat):List AV×AH:=if rs.Nodup/\(∀ r∈List.range n0,rs[r]?=some r)then(Ca (B9 rs) cf,rs.map λr=>(H.at r).map (Av (B9 rs)))else(cf,H)
theorem cb3(n0:Nat)(cf:List AV)(H:AH):Iw n0 cf H=if H.length<=n0 then(cf,H)else lvC n0 cf H (Ji H (H.length*4+40) ((List.range n0).flatMap (λr=>Cf (H.at r))++Cb cf) (List.range n0)):=qq
theorem Af(n0:Nat)(cf:List AV)(H:AH)(rs:List Nat)(h:rs.Nodup/\(∀ r∈List.range n0,rs[r]?=some r)):lvC n0 cf H rs=(Ca (B9 rs) cf,rs.map λr=>(H.at r).map (Av (B9 rs))):=if_pos h
theorem d6u(x:AV)(H:AH):Sp ([x],H)=some (x,H):=qq
theorem d6q(n:Nat)(H:AH)(y:AV):V6 false (n+1) H (some y)=Sp (Iw (n+1) [y] H):=by
 show C8 false (n+1) y H=_;unfold C8 Sp;rw[if_neg (by simp)];simp only[e0f,if_false];rw[if_neg (by simp)];rfl
def Xd(n0:Nat)(y:AV)(H:AH):AV×AH:=L2 n0 y H
theorem d6p(n:Nat)(H:AH)(y:AV):V6 true (n+1) H (some y)=Sp (Iw (n+1) [(Xd (n+1) y H).1] (Xd (n+1) y H).2):=by
 show C8 true (n+1) y H=_;unfold C8 Sp Xd;rw[if_neg (by simp)];simp only[if_true];rw[if_neg (by simp)];rfl
def Pa(n0:Nat):Nat->AV×AH->AV×AH
 |0,q=>q
 |k+1,q=>Pa n0 k (if n0<=k then Xc k q.1 q.2 ((q.2.at k).bind Ct)else q)
theorem ba8(n0:Nat)(y:AV):∀ (k:Nat) (q:AV×AH),O7 n0 y k q=Pa n0 k q
 |0,_=>rfl
 |k+1,q=>by
   rw[O7,Pa,ba8 n0 y k]
   congr 1
def ba7(n0:Nat)(y:AV)(H:AH)(q:AV×AH):Bool->AV×AH
 |true=>q
 |false=>L2 n0 y H
theorem Ai(n0:Nat)(y:AV)(H:AH)(h:H.length<=n0):Xd n0 y H=(y,H):=if_pos h
theorem Aj(n0:Nat)(y:AV)(H:AH)(h:¬ H.length<=n0):Xd n0 y H=ba7 n0 y H (Pa n0 H.length (y,H)) (A8 (Pa n0 H.length (y,H)).1):=by
 unfold Xd;cases hb:A8 (Pa n0 H.length (y,H)).1 with
 |false=>rfl
 |true=>
   show L2 n0 y H=Pa n0 H.length (y,H);unfold L2;rw[if_neg h];simp only[ba8,hb,if_true]
theorem d0f(n0:Nat)(y:AV)(H:AH)(q:AV×AH):ba7 n0 y H q true=q:=qq
theorem d0d(n0:Nat)(q:AV×AH):Pa n0 0 q=q:=qq
theorem d0e(n0 k:Nat)(x:AV)(H:AH):Pa n0 (k+1) (x,H)=Pa n0 k (if n0<=k then Xc k x H ((H.at k).bind Ct)else(x,H)):=qq
section
variable {tab:List (Nat×FT)} {orc:CallF} {lk:FuncId->Bool}
theorem Cd{f:FuncId}{d:FT}(hd:A9 tab f=some d){args:List AV}{H:AH}{r:AV×AH}(hn:args.length=d.np)(h:Cg d.res d.fz H.length (Bd (cx tab orc lk d.sl (d.np+d.nt) H.length) d.tc (args++List.replicate (d.sl.length-d.np) .top) H)=some r) :
 Ev tab orc lk f args H=some r:=bm5 hd hn h
end
theorem au2:List.range 0=[]:=qq
theorem c3b:List.range 1=[0]:=qq
theorem c3a:List.range 2=[0,1]:=qq
theorem c39:List.range 3=[0,1,2]:=qq
theorem c38:List.range 4=[0,1,2,3]:=qq
theorem c37:List.range 8=[0,1,2,3,4,5,6,7]:=qq
theorem b0s{α β:Type}(f:α->List β):([]:List α).flatMap f=[]:=qq
theorem d6b{α β:Type}(f:α->List β)(x:α)(l:List α):(x::l).flatMap f=f x++l.flatMap f:=List.flatMap_cons
def b0x(H:AH)(y:AV):Bool->Option (AV×AH)
 |true=>some (y,[])
 |false=>Sp (Iw 0 [y] H)
theorem d6y(H:AH)(y:AV):ag4 false H y false=b0x H y (A8 y):=by
 show C8 false 0 y H=_;unfold C8 b0x Sp;cases hb:A8 y with
 |true=>rfl
 |false=>
   rw[if_neg (by simp)];simp only[e0f,if_false];rw[if_neg (by simp[hb])];rfl
theorem d6t(H:AH)(y:AV):b0x H y false=Sp (Iw 0 [y] H):=qq
def tvP(X:TCtx)(b:TC)(q:List AV×AH):R3:=Bd X b q.1 q.2
def b7b(q:List AV×AH):R3:=some (.normal,q.1,q.2)
def bl1(n0:Nat)(l:List Act)(q:List AV×AH):List AV×AH:=Ma n0 l q.1 q.2
section
variable (X:TCtx) (n0:Nat) (cf:List AV) (H:AH) (l:List Act) (b:TC)
theorem bx5:Bd X (.pre l b) cf H=tvP X b (Ma X.n0 l cf H):=qq
theorem bt4:tvP X b (cf,H)=Bd X b cf H:=qq
theorem by3:Bd X (.after l b) cf H=Mb X.n0 l (Bd X b cf H):=qq
theorem dg3:Mb n0 l (some (.normal,cf,H))=b7b (Ma n0 l cf H):=qq
theorem dg2:Mb n0 l (some (.ret,cf,H))=some (.ret,cf,H):=qq
theorem dg4(i:Nat):Mb n0 l (some (.exit i,cf,H))=some (.exit i,cf,H):=qq
theorem c8o:b7b (cf,H)=some (.normal,cf,H):=qq
theorem df9:Ma n0 [] cf H=(cf,H):=qq
theorem dg0(a:Act):Ma n0 (a::l) cf H=bl1 n0 l (Oi n0 a cf H):=qq
theorem dg1:bl1 n0 l (cf,H)=Ma n0 l cf H:=qq
theorem dh0(i:Nat):Oi n0 (.fz i) cf H=Sm n0 cf H (getF cf i):=qq
theorem dg9(i off:Nat):Oi n0 (.fzC i off) cf H=a2s n0 off cf H (getF cf i):=qq
theorem d5j(off r a j t:Nat):a2s n0 off cf H (.ptr r a j t)=Sm n0 cf H (Sx H r a (j+off)):=qq
theorem d9q(r a c:Nat):Sx H r a c=(((H.at r).bind λo=>o[a]?).bind λe=>e[c]?).getD .top:=qq
theorem dh2(i off sz:Nat):Oi n0 (.empC i off sz) cf H=a4v off sz cf H (getF cf i):=qq
theorem dh1(i off c sz:Nat):Oi n0 (.empL i off c sz) cf H=a4u off c sz cf H (getF cf i):=qq
theorem dg8(live:List Nat):Oi n0 (.keep live) cf H=Iw n0 (Dq live 0 cf) H:=qq
def fzW(cf:List AV)(H:AH)(r:Nat):Option (List (List PV))->List AV×AH
 |some es=>(Ce r es cf,Hy (Ce r es) (H.set r none))
 |none=>(cf,H)
theorem d5i(r sz off len tot:Nat):Sm n0 cf H (.own r sz off len tot)=if n0<=r then fzW cf H r ((H.at r).bind Ct)else(cf,H):=by
 show(if n0<=r then(match (H.at r).bind Ct with|some es=>(Ce r es cf,Hy (Ce r es) (H.set r none))|none=>(cf,H))else(cf,H))=_;unfold fzW
 cases (H.at r).bind Ct<;>rfl
theorem d5h(r:Nat)(es:List (List PV)):fzW cf H r (some es)=(Ce r es cf,Hy (Ce r es) (H.set r none)):=qq
theorem dh3(off sz r a j t:Nat):a4v off sz cf H (.ptr r a j t)=Qu r a (j+off) sz cf H:=qq
theorem dg5(off c sz r a j t:Nat):a4u off c sz cf H (.ptr r a j t)=a4t c sz cf H (Sx H r a (j+off)):=qq
theorem dg6(c sz r s off len tot:Nat):a4t c sz cf H (.own r s off len tot)=Qu r (off+len-1) c sz cf H:=qq
def ah7(r a c sz:Nat)(cf:List AV)(H:AH)(o:AObj)(e:List AV):Option AV->List AV×AH
 |some .emp=>(cf,H.set r (some (o.set a (e.set c (.own H.length sz 0 0 0))))++[some []])
 |_=>(cf,H)
def ah8(r a c sz:Nat)(cf:List AV)(H:AH)(o:AObj):Option (List AV)->List AV×AH
 |some e=>ah7 r a c sz cf H o e (e[c]?)
 |none=>(cf,H)
def b19(r a c sz:Nat)(cf:List AV)(H:AH):Option AObj->List AV×AH
 |some o=>ah8 r a c sz cf H o (o[a]?)
 |none=>(cf,H)
theorem d7p(r a c sz:Nat):Qu r a c sz cf H=b19 r a c sz cf H (H.at r):=by
 unfold Qu b19;cases H.at r with
 |none=>rfl
 |some o=>
   simp only[ah8];cases o[a]? with
   |none=>rfl
   |some e=>
     simp only[ah7];cases e[c]? with
     |none=>rfl
     |some x=>cases x<;>rfl
theorem d7s(r a c sz:Nat)(o:AObj):b19 r a c sz cf H (some o)=ah8 r a c sz cf H o (o[a]?):=qq
theorem d7r(r a c sz:Nat)(o:AObj)(e:List AV):ah8 r a c sz cf H o (some e)=ah7 r a c sz cf H o e (e[c]?):=qq
theorem d7q(r a c sz:Nat)(o:AObj)(e:List AV):ah7 r a c sz cf H o e (some .emp)=(cf,H.set r (some (o.set a (e.set c (.own H.length sz 0 0 0))))++[some []]):=qq
end
section
variable (E:CallF) (N:Nat) (d:Option Nat) (e:SEnv) (H:AH) (op:AOp)
theorem c27:sgG E N d e H op (some true)=sgE N d e (Fq E op (Iz N e) H):=qq
theorem c28:sgG E N d e H op (some false)=some (Gg e d (.tuple []),H):=qq
end
def Rr(Q:R3->Prop)(P:List AV->AH->Prop):R3->Prop
 |some (.normal,c,G)=>P c G
 |r=>Q r
section
variable (Q:R3->Prop) (P:List AV->AH->Prop)
theorem dj8(c:List AV)(G:AH):Rr Q P (some (.normal,c,G))=P c G:=qq
theorem dj9(i:Nat)(c:List AV)(G:AH):Rr Q P (some (.exit i,c,G))=Q (some (.exit i,c,G)):=qq
theorem dj7(c:List AV)(G:AH):Rr Q P (some (.ret,c,G))=Q (some (.ret,c,G)):=qq
end
theorem X3{Q:R3->Prop}{step:List AV->AH->R3}{cf:List AV}{H:AH}{r:R3}(hl:Ad step cf H=r)(n:Nat)(I:Nat->List AV->AH->Prop)(h0:I 0 cf H)
 (hs:∀ j,j<n->∀ cf H,I j cf H->Rr Q (I (j+1)) (step cf H)) (he:∀ cf H,I n cf H->Rr Q (λ_ _=>False) (step cf H)):Q r:=by
 subst hl;have Et:∀ cf H,(∀ c G,step cf H≠some (.normal,c,G))->Q (step cf H)->Q (Ad step cf H):=by
  intro cf H hn hq;rw[Sc];generalize step cf H=r at hn hq;cases r with
  |none=>exact hq
  |some r=>
    obtain⟨e,c,G'⟩:=r;cases e with
    |normal=>exact absurd rfl (hn c G')
    |exit i=>exact hq
    |ret=>exact hq
 have key:∀ k j cf H,j+k=n->I j cf H->Q (Ad step cf H):=by
  intro k
  induction k with
  |zero=>
    intro j cf H hj hIj;have:j=n:=om;subst this;have h:=he cf H hIj;refine Et cf H ?_ ?_
    ·intro c G e;rw[e]at h;exact h
    ·generalize step cf H=r at h ⊢;cases r with
     |none=>exact h
     |some r=>
       obtain⟨e,c,G'⟩:=r;cases e with
       |normal=>exact h.elim
       |exit i=>exact h
       |ret=>exact h
  |succ k ih=>
    intro j cf H hj hIj;have h:=hs j om cf H hIj;by_cases hn:∀ c G,step cf H≠some (.normal,c,G)
    ·refine Et cf H hn ?_;generalize step cf H=r at h hn ⊢;cases r with
     |none=>exact h
     |some r=>
       obtain⟨e,c,G'⟩:=r;cases e with
       |normal=>exact absurd rfl (hn c G')
       |exit i=>exact h
       |ret=>exact h
    ·have hn:∃ c G,step cf H=some (.normal,c,G):=by
      refine dx9 λhx=>hn λc G e=>hx ⟨c,G,e⟩
     obtain⟨c,G,e⟩:=hn;rw[e]at h;rw[ay9 e];exact ih (j+1) c G om h
 exact key n 0 cf H om h0
end
section
def ax0(x:Option AObj)(y:Option AV):Option AV:=
 match x with
 |some _=>y
 |none=>none
theorem Hw(o:AObj)(y:Option AV):ax0 (some o) y=y:=qq
def Tw(H:AH)(sz:Nat)(ev:Opd->AV)(x:AV)(lo hi:Option Opd):Option AV:=
 match x with
 |.fz es=>
   match Bu ev hi es.length es.length with
   |some h=>
     match Bu ev lo 0 h with
     |some l=>if((es.take h).drop l).all (λe=>decide (e.length=sz))then some (.fz ((es.take h).drop l))else none
     |none=>none
   |none=>none
 |.emp=>
   match Bu ev hi 0 0 with
   |some _=>
     match Bu ev lo 0 0 with
     |some _=>some .emp
     |none=>none
   |none=>none
 |.own r sz' off len tot=>
   match Aq H r tot with
   |some _=>
     if off<=tot/\sz'=sz then
      match Bu ev hi len (tot-off)with
      |some h=>
        match Bu ev lo 0 h with
        |some l=>
          if l=0 then some (.own r sz off h tot)
          else if h<=l then some (.fz [])
          else some (.own r sz (off+l) (h-l) tot)
        |none=>none
      |none=>none
     else none
   |none=>none
 |_=>none
theorem Hr(H:AH)(sz:Nat)(ev:Opd->AV)(r off len tot:Nat)(lo hi:Option Opd):Tw H sz ev (.own r sz off len tot) lo hi =
 ax0 (Aq H r tot) (if off<=tot then D7 (Bu ev hi len (tot-off)) λh=>D7 (Bu ev lo 0 h) λl=>if l=0 then some (.own r sz off h tot)else if h<=l then some (.fz [])else some (.own r sz (off+l) (h-l) tot)else none):=by
 simp only[Tw,ax0];cases Aq H r tot with
 |none=>rfl
 |some o=>
   simp only[and_true];by_cases h:off<=tot
   ·rw[if_pos h,if_pos h];cases Bu ev hi len (tot-off)with
    |none=>rfl
    |some h=>
      simp only[D7];cases Bu ev lo 0 h<;>rfl
   ·rw[if_neg h,if_neg h]
theorem F2(H:AH)(sz:Nat)(ev:Opd->AV)(es:List (List PV))(lo hi:Option Opd):Tw H sz ev (.fz es) lo hi =
 D7 (Bu ev hi es.length es.length) λh=>D7 (Bu ev lo 0 h) λl=>if((es.take h).drop l).all (λe=>decide (e.length=sz))=true then some (.fz ((es.take h).drop l))else none:=qq
section
variable {P:Program} (d:Option Nat) (rest:List AInstr) (K:List AV->AH->Prop) (fr:List AV) (H:AH)
end
section
variable {P:Program} {tab:List (List Nat)} (rest:List (Nat×AInstr)) (lg:List Hp) (K:List AV->AH->Prop) (fr:List AV) (H:AH) (d:Option Nat) (ii cc:Nat)
end
section
variable {P:Program} (d:Option Nat) (rest:List AInstr) (K:List AV->AH->Prop) (fr:List AV) (H:AH)
end
def clC(H:AH)(r off len tot:Nat)(zero:List AV):Option AObj->Option (AV×AH)
 |some o=>if off+len<=tot then some (.tuple [],H.set r (some (o.take off++List.replicate len zero++o.drop (off+len))))else none
 |none=>none
theorem d9g(H:AH)(r off len tot:Nat)(zero:List AV)(o:AObj):clC H r off len tot zero (some o)=if off+len<=tot then some (.tuple [],H.set r (some (o.take off++List.replicate len zero++o.drop (off+len))))else none:=qq
theorem d98(H:AH)(sz:Nat)(zero:List AV)(r off len tot:Nat):ai7 H sz zero (.own r sz off len tot)=clC H r off len tot zero (Aq H r tot):=by
 simp only[ai7,clC,and_true];cases Aq H r tot<;>rfl
section
variable {P:Program} (d:Option Nat) (cc:Nat) (fr:List AV) (H:AH) (K:List Loc->List Loc->Nat->List AV->AH->Prop)
end
def a7h(c:Nat)(H:AH)(sz bytes r len:Nat)(news:List (List AV))(x:Option AObj)(K:Nat->AV->AH->Prop):Prop:=
 match x with
 |some o=>(news.all (λe=>decide (e.length=sz))=true/\(len+news.length)*bytes<=1000000000000/\len+news.length<=1000000000)/\r<c/\K r (.own r sz 0 (len+news.length) (len+news.length)) (H.set r (some (o++news)))
 |none=>False
end
abbrev tv:=tA @a10<|tA @a11<|tA @a1a<|tA @a1b<|tA @a3x<|tA @a3w<|tA @a3v<|tA @a4g<|tA @a41<|tA @a49<|tA @a45<|tA @a44<|tA @a4f<|tA @a47<|tA @a4e<|tA @a48<|tA @a4a<|tA @a4b<|tA @a4c<|tA @a4d<|tA @a43<|tA @a42<|tA @a3u<|tA @a40<|tA @a3z<|tA @a3y<|tA @Zu<|tA @a3j<|tA @a0e<|tA @Cj<|tA @Ci<|tA @Ck<|tA @a15<|tA @a16<|tA @a2z<|tA @a30<|tA @a2y<|tA @a1u<|tA @a33<|tA @a1k<|tA @a1n<|tA @X5<|tA @a1m<|tA @a1d<|tA @a1f<|tA @a1x<|tA @a0v<|tA @a3r<|tA @a3s<|tA @a01<|tA @a04<|tA @a03<|tA @a3i<|tA @a1c<|tA @J3<|tA @J4<|tA @a06<|tA @a08<|tA @a09<|tA @a07<|tA @Y9<|tA @a3f<|tA @a3a<|tA @a0u<|tA @a0w<|tA @a1i<|tA @a1j<|tA @a19<|tA @a18<|tA @a4j<|tA @a4n<|tA @a4i<|tA @a4k<|tA @a4l<|tA @a4m<|tA @a4o<|tA @bh3<|tA @bj7<|tA @b29<|tA @bj8<|tA @bk2<|tA @dy5<|tA @dy3<|tA @e13<|tA @List.set_cons_succ.{0}<|tA @e0o<|tA @e15<|tA @e1n<|tA @e08<|tA @e26<|tA @e0c<|tA @e23<|tA @e1b<|tA @e1s<|tA @e09<|tA @e0b<|tA @e0s<|tA @e2h<|tA @List.all_nil.{0}<|tA @e0l<|tA @e1m<|tA @dz7<|tA @e0u<|tA @List.flatten_nil.{0}<|tA @e1t<|tA @List.isEmpty_nil.{0}<|tA @List.contains_cons.{0}<|tA @List.contains_nil.{0}<|tA @e1q<|tA @e2c<|tA @e2o<|tA @e1p<|tA @e17<|tA @if_true.{1}<|tA @if_false.{1}<|tA @ne_eq.{1}<|tA @eq_self.{1}<|tA @e0r<|tA @e0f<|tA @e2d<|tA @e25<|tA @decide_true<|tA @decide_false<|tA @and_true<|tA @true_and<|tA @and_false<|tA @false_and<|tA @not_true_eq_false<|tA @not_false_eq_true<|tA @e2x<|tA @e2z<|tA @e10<|tA @e2p<|tA @e2s<|tA @e2f<|tA @e2e<|tA @e27<|tA @e29<|tA @Bool.or_true<|tA @e2u<|tA @Bool.or_false<|tA @e2j<|tA @Bool.bne_false<|tA @Bool.bne_true<|tA @Bool.and_self<|tA @and_self<|tA @bx0<|tA @bx2<|tA @by0<|tA @bx3<|tA @by1<|tA @bx1<|tA @bx9<|tA @bx8<|tA @bx7<|tA @by2<|tA @bx6<|tA @c85<|tA @c0d<|tA @c0c<|tA @c0f<|tA @c68<|tA @c67<|tA @c6a<|tA @d03<|tA @d01<|tA @c0e<|tA @c69<|tA @bu0<|tA @bt5<|tA @bt6<|tA @bt7<|tA @bu3<|tA @c8u<|tA @c2f<|tA @c6o<|tA @d8u<|tA @d8v<|tA @b3m<|tA @b3n<|tA @bu4<|tA @bv8<|tA @bu6<|tA @bw9<|tA @bu5<|tA @bu7<|tA @bw8<|tA @bw7<|tA @bw6<|tA @bu9<|tA @bu8<|tA @bv7<|tA @bv0<|tA @bv1<|tA @bv6<|tA @bv4<|tA @bv3<|tA @bv5<|tA @bv9<|tA @bv2<|tA @bw5<|tA @bw4<|tA @bw3<|tA @bw2<|tA @bw1<|tA @bw0<|tA @de8<|tA @c6n<|tA @cu1<|tA @cu2<|tA @cu0<|tA @d02<|tA @c34<|tA @c36<|tA @c33<|tA @c35<|tA @cs9<|tA @cs8<|tA @d7i<|tA @by9<|tA @d7l<|tA @d7m<|tA @d7o<|tA @d7n<|tA @bu1<|tA @bt8<|tA @bu2<|tA @c6t<|tA @c6u<|tA @d5b<|tA @d5c<|tA @c5k<|tA @c5h<|tA @c5i<|tA @d71<|tA @d72<|tA @c2k<|tA @dr1<|tA @du2<|tA @dt8<|tA @dt6<|tA @dt7<|tA @dr6<|tA @dq6<|tA @dr0<|tA @du0<|tA @dt9<|tA @ds7<|tA @dq5<|tA @dt1<|tA @dt0<|tA @dt2<|tA @dr2<|tA @dq7<|tA @dq8<|tA @dq9<|tA @ds5<|tA @ds4<|tA @ds3<|tA @ds2<|tA @dr9<|tA @ds1<|tA @cz4<|tA @ds6<|tA @dr8<|tA @dr7<|tA @du1<|tA @ds9<|tA @dt3<|tA @dr4<|tA @dr5<|tA @dr3<|tA @dt5<|tA @dt4<|tA @d7v<|tA @ds8<|tA @c8t<|tA @du9<|tA @du6<|tA @dw1<|tA @dw0<|tA @dv8<|tA @dv9<|tA @dv7<|tA @dv6<|tA @dv5<|tA @dv4<|tA @d8l<|tA @d8j<|tA @Bn<|tA @C1<|tA @Lb<|tA @Va<|tA @c08<|tA @b1r<|tA @Ap<|tA @c4p<|tA @Jf<|tA @d9p<|tA @b8e<|tA @Aa<|tA @dk1<|tA @dk3<|tA @dk0<|tA @dk2<|tA @c4f<|tA @c4e<|tA @c4q<|tA @c4b<|tA @c4c<|tA @c4m<|tA @c4g<|tA @c4d<|tA @c4k<|tA @c4h<|tA @c4i<|tA @c4j<|tA @c48<|tA @b5t<|tA @d9k<|tA @d9i<|tA @d9n<|tA @d9j<|tA @d9l<|tA @d9m<|tA @c9k<|tA @c9l<|tA @d9t<|tA @d9r<|tA @d9x<|tA @d9s<|tA @d9u<|tA @d9v<|tA @by8<|tA @bz2<|tA @bz0<|tA @bz1<|tA @c49<|tA @c4a<|tA @c42<|tA @c43<|tA @c46<|tA @c47<|tA @c45<|tA @c44<|tA @Tq<|tA @b1w<|tA @dc5<|tA @dc4<|tA @dc2<|tA @dc6<|tA @dc7<|tA @by7<|tA @by6<|tA @d6s<|tA @d6x<|tA @d70<|tA @d6w<|tA @d6v<|tA @d0g<|tA @d0h<|tA @d0b<|tA @d0c<|tA @dc9<|tA @dd0<|tA @b3y<|tA @Zw<|tA @c01<|tA @b3z<|tA @bz8<|tA @c9m<|tA @c9n<|tA @c04<|tA @c02<|tA @c07<|tA @c05<|tA @c06<|tA @c03<|tA @d5z<|tA @d62<|tA @d5q<|tA @d5x<|tA @d5m<|tA @d5n<|tA @d5v<|tA @d5r<|tA @d5o<|tA @d5t<|tA @d5s<|tA @c9q<|tA @c9p<|tA @c9o<|tA @d61<|tA @d60<|tA @c3d<|tA @c3e<|tA @c3f<|tA @cb0<|tA @d67<|tA @c4s<|tA @c4r<|tA @c1m<|tA @dn4<|tA @do6<|tA @dn8<|tA @dn5<|tA @do9<|tA @do8<|tA @do4<|tA @dn2<|tA @do2<|tA @do1<|tA @do3<|tA @do0<|tA @dn9<|tA @dn6<|tA @dn3<|tA @dp1<|tA @dn7<|tA @do7<|tA @do5<|tA @d9f<|tA @d9d<|tA @d9h<|tA @du7<|tA @du5<|tA @du8<|tA @c8b<|tA @dk5<|tA @dk4<|tA @dk6<|tA @c8a<|tA @c22<|tA @c23<|tA @d5g<|tA @d5e<|tA @c5n<|tA @c5m<|tA @ca5<|tA @ca6<|tA @d77<|tA @d78<|tA @dq4<|tA @dq3<|tA @dq2<|tA @dq1<|tA @dq0<|tA @dp9<|tA @dp8<|tA @dp7<|tA @dp6<|tA @dp5<|tA @dp4<|tA @bn0<|tA @bm9<|tA @c29<|tA @dj1<|tA @dj2<|tA @dl3<|tA @dm2<|tA @dl6<|tA @dl4<|tA @dm5<|tA @dm4<|tA @dm0<|tA @dl1<|tA @dl9<|tA @dl8<|tA @dl7<|tA @dl2<|tA @dm6<|tA @dl5<|tA @dm1<|tA @dm3<|tA @de0<|tA @bk1<|tA @dd6<|tA @dd7<|tA @c1n<|tA @c1o<|tA @cx3<|tA @cv0<|tA @cx1<|tA @cu8<|tA @cy9<|tA @cw4<|tA @cy4<|tA @cv9<|tA @cy5<|tA @cw0<|tA @cx5<|tA @cv2<|tA @cw8<|tA @cu5<|tA @cx2<|tA @cu9<|tA @cy7<|tA @cw2<|tA @cy6<|tA @cw1<|tA @cy0<|tA @cw7<|tA @cy1<|tA @cv7<|tA @cx4<|tA @cv1<|tA @cw9<|tA @cu6<|tA @cx0<|tA @cu7<|tA @cx8<|tA @cv5<|tA @cx7<|tA @cv4<|tA @cx9<|tA @cv6<|tA @cx6<|tA @cv3<|tA @cy8<|tA @cw3<|tA @cy3<|tA @cv8<|tA @cy2<|tA @dn0<|tA @c1j<|tA @c1i<|tA @c1h<|tA @dp0<|tA @dd9<|tA @de2<|tA @de1<|tA @d8k<|tA @d8n<|tA @d8m<|tA @d8o<|tA @br8<|tA @br7<|tA @bq2<|tA @bq0<|tA @bp9<|tA @bs4<|tA @br9<|tA @br5<|tA @bs0<|tA @bs1<|tA @bs3<|tA @br3<|tA @br4<|tA @bq7<|tA @bq5<|tA @br1<|tA @bq8<|tA @bq9<|tA @br2<|tA @bn9<|tA @bn8<|tA @bo0<|tA @bn5<|tA @bn4<|tA @bn6<|tA @bn7<|tA @bn3<|tA @d05<|tA @d06<|tA @de9<|tA @d7g<|tA @d7h<|tA @d7f<|tA @d6e<|tA @d6d<|tA @d6f<|tA @d6g<|tA @d6c<|tA @d6h<|tA @d6i<|tA @bq3<|tA @bq4<|tA @d9c<|tA @d9b<|tA @d8c<|tA @d83<|tA @d8d<|tA @d8b<|tA @d89<|tA @d8a<|tA @bf1<|tA @bf0<|tA @b03<|tA @av0<|tA @c50<|tA @c0a<|tA @Vv<|tA @c2i<|tA @at4<|tA @b27<|tA @b41<|tA @Uc<|tA @c5t<|tA @U6<|tA @c3u<|tA @a6y<|tA @c3s<|tA @a0s<|tA @c3r<|tA @a6z<|tA @c3v<|tA @au7<|tA @a0r<|tA @c3w<|tA @Wl<|tA @Wm<|tA @b5p<|tA @b5r<|tA @c3z<|tA @Wj<|tA @cb3<|tA @d6u<|tA @d6q<|tA @d6p<|tA @d0f<|tA @d0d<|tA @d0e<|tA @au2<|tA @c3b<|tA @c3a<|tA @c39<|tA @c38<|tA @c37<|tA @b0s<|tA @d6b<|tA @d6y<|tA @d6t<|tA @bx5<|tA @bt4<|tA @by3<|tA @dg3<|tA @dg2<|tA @dg4<|tA @c8o<|tA @df9<|tA @dg0<|tA @dg1<|tA @dh0<|tA @dg9<|tA @d5j<|tA @d9q<|tA @dh2<|tA @dh1<|tA @dg8<|tA @d5i<|tA @d5h<|tA @dh3<|tA @dg5<|tA @dg6<|tA @d7p<|tA @d7s<|tA @d7r<|tA @d7q<|tA @c27<|tA @c28<|tA @dj8<|tA @dj9<|tA @dj7<|tA @bx4<|tA @c5y<|tA @emb.eq_1<|tA @emb.eq_2<|tA @emb.eq_3<|tA @emb.eq_4<|tA @emb.eq_5<|tA @emb.eq_6<|tA @emb.eq_7<|tA @emb.eq_8<|tA @emb.eq_9<|tA @Ge.eq_1<|tA @Hm.eq_1<|tA @Ke.eq_1<|tA @Ke.eq_2<|tA @M9.eq_1<|tA @M9.eq_2<|tA @Ou.eq_1<|tA @Ou.eq_2<|tA @cellsOf.eq_1<|tA @cellsOf.eq_2<|tA @cellsOf.eq_3<|tA @cellsOf.eq_4<|tA @cellA.eq_1<|tA @cellA.eq_2<|tA @cellA.eq_3<|tA @cellA.eq_4<|tA @lay.eq_1<|tA @Dr.eq_1<|tA @Dr.eq_2<|tA @Ac.eq_1<|tA @Ac.eq_2<|tA @chunks.eq_1<|tA @chunks.eq_2<|tA @Bc.eq_1<|tA @Bc.eq_2<| @dp3
theorem tw:type_of% tv:=tv
abbrev ts:=tA @tw<|tA @itP<|tA @itN<|tA @Z0.eq_1<|tA @Z1.eq_1<|tA @Z2.eq_1<|tA @Z3.eq_1<|tA @Z4.eq_1<|tA @Z5.eq_1<|tA @Z6.eq_1<|tA @Z7.eq_1<|tA @Z8.eq_1<|tA @Z9.eq_1<|tA @T4.eq_1<|tA @R1.eq_1<|tA @Z12.eq_1<|tA @Z13.eq_1<|tA @Z14.eq_1<|tA @Ii.eq_1<|tA @Z16.eq_1<|tA @T3.eq_1<|tA @Ym.eq_1<|tA @Z19.eq_1<|tA @W0.eq_1<|tA @W1.eq_1<|tA @W2.eq_1<|tA @Na.eq_1<|tA @W3.eq_1<|tA @W4.eq_1<|tA @W5.eq_1<|tA @W6.eq_1<|tA @W7.eq_1<|tA @Jv.eq_1<|tA @Dt.eq_1<|tA @Ys.eq_1<|tA @Vm.eq_1<|tA @am1.eq_1<|tA @W85.eq_1<|tA @Yu.eq_1<|tA @W8.eq_1<|tA @W9.eq_1<|tA @Ik.eq_1<|tA @Oo.eq_1<|tA @Pr.eq_1<|tA @Tf.eq_1<|tA @Om.eq_1<|tA @Ex.eq_1<|tA @Ij.eq_1<|tA @Kh.eq_1<|tA @Pq.eq_1<|tA @Mf.eq_1<|tA @Ft.eq_1<|tA @Ng.eq_1<|tA @Te.eq_1<|tA @Nf.eq_1<|tA @Vl.eq_1<|tA @Ol.eq_1<|tA @Yv.eq_1<|tA @Ho.eq_1<|tA @J6.eq_1<|tA @Kg.eq_1<|tA @R9.eq_1<|tA @Nd.eq_1<|tA @W34.eq_1<|tA @Nc.eq_1<|tA @Pp.eq_1<|tA @Lh.eq_1<|tA @Lg.eq_1<|tA @Td.eq_1<|tA @R8.eq_1<|tA @Me.eq_1<|tA @Md.eq_1<|tA @Tc.eq_1<|tA @R7.eq_1<|tA @W46.eq_1<|tA @Lf.eq_1<|tA @Mc.eq_1<|tA @Nb.eq_1<|tA @Po.eq_1<|tA @W51.eq_1<|tA @Yt.eq_1<|tA @W55.eq_1<|tA @Ok.eq_1<|tA @W57.eq_1<|tA @Oj.eq_1<|tA @Kf.eq_1<|tA @W60.eq_1<|tA @Yr.eq_1<|tA @W95.eq_1<|tA @W62.eq_1<|tA @Pn.eq_1<|tA @W64.eq_1<|tA @W65.eq_1<|tA @R6.eq_1<|tA @Pm.eq_1<|tA @Tb.eq_1<|tA @W69.eq_1<|tA @Vk.eq_1<|tA @W71.eq_1<|tA @W72.eq_1<|tA @R5.eq_1<|tA @Ta.eq_1<|tA @W75.eq_1<|tA @W76.eq_1<|tA @W77.eq_1<|tA @R4.eq_1<|tA @J5.eq_1<|tA @Vj.eq_1<|tA @T9.eq_1<|tA @T8.eq_1<|tA @Vi.eq_1<|tA @Vh.eq_1<|tA @Nh.eq_1<|tA @W86.eq_1<|tA @W87.eq_1<|tA @Vg.eq_1<|tA @al7.eq_1<|tA @W89.eq_1<|tA @W90.eq_1<|tA @T7.eq_1<|tA @W92.eq_1<|tA @T6.eq_1<|tA @T5.eq_1<|tA @Yq.eq_1<|tA @Yp.eq_1<|tA @Yo.eq_1<|tA @Vf.eq_1<|tA @Ti.eq_1<|tA @an0.eq_1<|tA @a5l.eq_1<|tA @Mg.eq_1<|tA @Re.eq_1<|tA @Rc.eq_1<|tA @am9.eq_1<|tA @Vp.eq_1<|tA @Vo.eq_1<|tA @a5k.eq_1<|tA @am8.eq_1<|tA @Vn.eq_1<|tA @Rb.eq_1<|tA @am7.eq_1<|tA @am6.eq_1<|tA @am5.eq_1<|tA @a5j.eq_1<|tA @am4.eq_1<|tA @am3.eq_1<|tA @Ra.eq_1<|tA @b2q.eq_1<|tA @a5i.eq_1<|tA @a5h.eq_1<|tA @am2.eq_1<|tA @Th.eq_1<|tA @Tg.eq_1<|tA @a5g.eq_1<|tA @Ze.eq_1<|tA @am0.eq_1<|tA @a5f.eq_1<|tA @Zd.eq_1<|tA @Zc.eq_1<|tA @Zb.eq_1<|tA @Za.eq_1<|tA @Yz.eq_1<|tA @Yy.eq_1<|tA @al9.eq_1<|tA @Yx.eq_1<|tA @Yw.eq_1<|tA @a5e.eq_1<|tA @a5d.eq_1<|tA @a5c.eq_1<|tA @b2p.eq_1<|tA @al8.eq_1<|tA @a5b.eq_1<| @b2o.eq_1
theorem t0:type_of% ts:=ts
def g3:FT:=⟨1,128,[.tmp 1],[0,2,3,4,5,6,7,8,9,10,11,12,13,14,15,21,25,26,33,42,73,95,102],true,(.seq W1 (.seq (.ifc 16 [] (no (Yb 4)) Ex .skip) (.seq (.ifc 18 [] (bk .gtr 200 Dt) Oo .skip) (.seq (.reg 22 [m 15 (Am 6 (Am 5 (v 0))),p 16 (ex 0 (d 15)),p 17 (ex 1 (d 15)),p 2 Nc,s 5 (d 2) (d 16),m 3 (d 17)]) (.seq (.seq Oj (.block 0 (.loop [2,3,4] [] (.seq (.ifc 27 [] (b2 .lss (v 4) (ln (v 3))) .skip W7) (.seq (.block 1 (.seq (.rawE [[(0,I1 34 a5e),(1,I0 35 4),(2,I0 36 5),(3,I1 37 (.iaddr 6 (.t 35) (.t 36))),(4,I1 38 (.load true 6 (.t 37))),(9,I1 6 (.alloc Z1)),(5,I1 39 (.call 7 [(.t 34),(.t 38)])),(6,I0 33 39),(7,I8 40 33 0),(8,I8 41 33 1),(10,I9 30 6 40)],[(11,I0 7 41)]] (bm [0,0,0,6,14,31,63,127,127,0,767,2047])) (.seq (.rawE [[(0,I1 43 a5e),(1,I0 44 4),(2,I0 45 5),(3,I1 46 (.iaddr 6 (.t 44) (.t 45))),(4,I1 47 (.load true 6 (.t 46))),(9,I1 8 (.alloc Z1)),(5,I1 48 (.call 8 [(.t 43),(.t 47)])),(6,I0 42 48),(7,I8 49 42 0),(8,I8 50 42 1),(10,I9 30 8 49)],[(11,I0 9 50)]] (bm [0,0,0,6,14,31,63,127,127,0,767,2047])) (.seq (.ifc 51 [] (.or (.and (v 6) Mg) (.and Mg (bk .gtr 0 (ln (ld (fa 26 (d 7))))))) Ex .skip) (.seq (.ifc 66 [] (no (v 6)) (.exit 1) .skip) (.seq (.rawE [[(0,I1 68 (.load true 30 (.t 6))),(2,I1 70 (.load true 30 (.t 8))),(4,I1 10 (.alloc Z1)),(5,I1 11 (.alloc Z1)),(1,I1 69 (.call 9 [(.t 68)])),(3,I1 71 (.call 9 [(.t 70)]))],[(6,I9 30 10 69)],[(7,I9 30 11 71)]] (bm [0,1,0,7,0,0,63,127])) (.seq (.reg 72 [p 20 (la 4 (fa 22 (d 9))),s 4 (fa 22 (d 10)) (d 20)]) (.seq (.rawE [[(0,I1 75 (.load true 30 (.t 10))),(1,I1 76 (.load true 30 (.t 11)))],[(2,I1 77 (.call 10 [(.t 75),(.t 76)]))],[(3,I1 78 (.un .not (.t 77)))],[(4,I0 79 78)],[(5,I3 80 79 (.faddr 26 (.t 6)))],[(6,I3 81 79 (.load false 1 (.t 80)))],[(7,I3 82 79 (.call 11 [(.t 81)]))],[(8,I3 83 79 (.un .not (.t 82)))],[(9,I1 84 (.pick (.t 79) W9 (.t 83)))],[(10,I0 85 84)],[(11,I3 86 85 (.faddr 0 (.t 6))),(12,I3 87 85 (.faddr 0 (.t 86))),(13,I3 88 85 (.load false 1 (.t 87))),(14,I5 89 85 4),(15,I5 90 85 5),(16,I3 91 85 (.iaddr 6 (.t 89) (.t 90))),(17,I3 92 85 (.faddr 1 (.t 91))),(18,I3 93 85 (.load false 1 (.t 92)))],[(19,I3 94 85 (.bini .neq (.t 88) (.t 93)))],[(20,I1 95 (.pick (.t 85) W9 (.t 94)))]] (bm [0,0,3,7,15,31,63,127,255,511,1023,2047,4095,8191,2047,2047,51199,116735,247807,524287,1048575])) (.ifv 21 Ex .skip))))))))) (.reg 31 [m 4 Mc])))))) (.seq (.seq (.reg 0 [z 11 0]) (.block 2 (.loop [2,3,11] [] (.seq (.ifc 96 [] (b2 .lss (v 11) (ln (v 3))) .skip J5) (.seq (.block 3 (.seq (.rawE [[(0,I1 103 a5e),(1,I0 104 4),(2,I0 105 12),(3,I1 106 (.iaddr 6 (.t 104) (.t 105))),(4,I1 107 (.load true 6 (.t 106))),(9,I1 13 (.alloc Z1)),(5,I1 108 (.call 8 [(.t 103),(.t 107)])),(6,I0 102 108),(7,I8 109 102 0),(8,I8 110 102 1),(10,I9 30 13 109)],[(11,I0 14 110)]] (bm [0,0,0,6,14,31,63,127,127,0,767,2047])) (.seq (.reg 0 [z 14 0]) (.block 4 (.loop [2,3,11,12,13,14] [] (.seq (.ifc 111 [] (.and (v 13) (b2 .lss (v 14) (ln (ld (fa 26 (d 12)))))) .skip (.exit 4)) (.seq (.block 5 (.ifc 121 [] (no (Am 12 (ld (fa 4 (ia 5 (ld (fa 26 (d 12))) (v 14)))))) Ex .skip)) (.reg 119 [m 14 (bk .add 1 (v 14))])))))))) (.reg 100 [m 11 (bk .add 1 (v 11))])))))) Oo))))))⟩
def g4:FT:=⟨0,68,[.tmp 0],[0,1,2,3,4,5,7,9,10,16,17,18,24,25,26,27,28,29,30,31,32],true,(.seq (.reg 0 [y 0 (.bool false)]) (.seq (.reg 8 [p 7 (.op (.call 13 [(.t 0),(.c (.int .i64 40)),Me]) [(.op (.call 5 [(.c (.emp))]) [])]),p 1 Vg,s 41 (d 1) (d 7)]) (.seq (.reg 11 [m 8 (B1 7 (la 5 W6) (la 6 (fa 5 (d 1)))),p 9 (ex 0 (d 8)),p 10 (ex 1 (d 8)),p 2 Pp,s 30 (d 2) (d 9),m 3 (d 10)]) (.seq (.reg 19 [m 11 (B1 8 (la 5 W6) (la 6 (fa 5 (d 1)))),p 12 (ex 0 (d 11)),p 13 (ex 1 (d 11)),p 4 Pp,s 30 (d 4) (d 12),m 5 (d 13)]) (.seq (.reg 6 [p 15 W6,p 16 (la 5 (d 15)),p 17 Nf,p 18 (B1 7 (d 16) (d 17)),m 14 (d 18),p 19 (ex 0 (d 14)),p 20 (ex 1 (d 14)),s 30 Pp (d 19),m 6 (d 20)]) (.seq (.reg 33 [m 0 (.and (.and (.and (.and (.and (.and (v 3) (bk .eql 1 (ln (ld (fa 26 (d 2)))))) (.op (.eqs false [.i,.i,.i,.i,.i,.i,.i,.i,.i,.i,.i,.i,.i,.i,.i,.i,.i,.i,.i,.i,.i,.i] (.t 0) (.t 1)) [(la 22 Ft),(la 22 (fa 11 (d 1)))])) (v 5)) (bk .eql 1 (ln (ld (fa 26 (d 4)))))) (no (v 6))) (bk .eql 5 (Am 14 (B1 15 (la 6 (fa 5 (d 1))) (la 30 (d 2))))))]) .ret))))))⟩
def g5:FT:=⟨1,5,[.tmp 1],[0,2],false,(.seq (.reg 0 [y 1 (.nilp)]) (.seq (.reg 3 [m 1 (.op (.box (.t 0)) [(.op (.build [.emp,.int .i64 0] [(0,1,(.t 0))]) [(v 0)])])]) .ret))⟩
def g6:FT:=⟨1,130,[.cell 1 true 5,.tmp 2],[0,2,3,4,5,6,7,8,9,10,11,12,13,14,58,62,115,119,120,121,124,125],false,(.seq (.reg 0 [p 1 Nc,y 2 (.emp)]) (.seq Vj (.seq (.seq Oj (.block 0 (.loop [0,1,3,4] [(3,2)] (.seq (.ifc 15 [] (bk .lss 4 (v 4)) .skip W7) (.seq (.block 1 (.reg 19 [m 3 (.op (.append 2 24 Z4 (.t 0) (.t 1)) [(v 3),(.op (.bslice 2 1 Z4 [(0,(.t 0))]) [(.op (.build Z4 [(0,1,(.t 0)),(1,1,(.t 1))]) [(.op (.call 16 [(.c (.int .i64 40)),(.t 0)]) [(v 4)]),(.op (.call 17 [(.t 0),(.c (.int .i64 40))]) [(.op (.bini .add (.c (.int .i64 7)) (.t 0)) [(bk .quo 7 (.op (.call 18 [(.t 0),Ng]) [(v 0)]))])])])])])])) (.reg 17 [m 4 Mc])))))) (.seq (.reg 30 [m 5 (.op (.box (.t 0)) [(.op (.build [.emp,.emp] []) [])])]) (.seq (.seq Ti (.after [.fz 3] (.block 2 (.pre [.empC 5 0 3,.empC 5 1 6] (.loop [0,1,3,5,6] [(3,2)] (.seq (.ifc 32 [] (bk .lss 21 (v 6)) .skip J5) (.seq (.block 3 (.seq (.reg 36 [m 7 (.op Yq [(bk .quo 7 (v 6))])]) (.seq (.reg 39 [m 8 (ld (ia 1 (.op (.bslice 1 7 Z5 [(0,Mf),(1,Ik),(2,Ik),(3,Kh),(4,Md),(5,T9),(6,Vp)]) []) (bk .rem 7 (v 6))))]) (.seq (.ifc 44 [] (bk .eql 15 (.op (.call 18 [(.t 0),(.c (.int .i64 16))]) [(v 0)])) (.reg 47 [m 8 (.op Yq [(.op (.call 18 [(.t 0),Vp]) [(v 0)])])]) .skip) (.seq (.reg 50 [p 14 (.op (.build Z6 [(0,1,(.t 0)),(1,1,(.t 1)),(2,1,(.t 2))]) [(v 8),(v 7),(c5' 19 (v 5) (v 0) (v 8) (v 6) (v 7))]),p 9 (.op (.alloc Z6) []),s 3 (d 9) (d 14)]) (.seq (.reg 59 [p 15 (B1 20 (.op Pr [(v 6)]) (la 3 (d 9))),p 10 Ij,s 6 (d 10) (d 15)]) (.seq (.rawE [[(0,I0 63 6),(1,I0 64 6),(2,I0 65 6),(3,I1 66 (.nilchk (.t 65))),(4,I6 67 0 66),(5,I7 68 67),(6,I1 69 (.load true 3 (.t 10))),(7,I1 70 (.bslice 3 1 Z6 [(0,(.t 69))])),(8,I1 71 (.append 3 32 Z6 (.t 68) (.t 70))),(9,I0 72 6),(10,I1 73 (.nilchk (.t 72))),(11,I6 74 1 73),(12,I7 75 74),(13,I1 76 (.load true 6 (.t 11))),(14,I1 77 (.bslice 6 1 Z3 [(0,(.t 76))])),(15,I1 78 (.append 6 32 Z3 (.t 75) (.t 77))),(16,I1 79 (.nilchk (.t 63))),(17,I6 80 0 79),(18,I9 1 80 71)],[(19,I1 81 (.nilchk (.t 64)))],[(20,I6 82 1 81)],[(21,I9 1 82 78)]] (bm [0,0,0,4,12,28,0,64,252,0,512,1536,3584,0,8192,32764,65533,131069,262141,524287,1048575,2097151])) (.seq (.rawE [[(0,I0 83 4),(1,I6 84 0 11),(2,I7 85 84),(3,I1 86 (.load true 3 (.t 10))),(4,I1 87 (.call 21 [(.t 86)])),(5,I1 88 (.build Z4 [(0,1,(.t 85)),(1,1,(.t 87))])),(6,I1 89 (.bslice 2 1 Z4 [(0,(.t 88))]))],[(7,I1 90 (.append 2 24 Z4 (.t 83) (.t 89)))],[(8,I0 4 90)]] (bm [0,0,2,0,8,30,62,127,255])) (.ifc 91 [] (bk .eql 6 (v 8)) (.seq (.rawE [[(0,I0 93 8),(1,I0 94 0),(5,I0 98 0),(9,I0 102 8),(10,I1 103 (.load true 6 (.t 11))),(12,I1 12 (.alloc Z7)),(2,I1 95 (.call 18 [(.t 94),(KI 9)])),(3,I1 96 (.bini .quo (.t 95) (KI 8))),(4,I1 97 (.bini .add (.t 93) (.t 96))),(6,I1 99 (.call 18 [(.t 98),(KI 9)])),(7,I1 100 (.bini .quo (.t 99) (KI 8))),(8,I1 101 (.bini .add (KI 7) (.t 100))),(11,I1 104 (.build Z7 [(0,1,(.t 97)),(1,1,(.t 101)),(2,1,(.t 102)),(3,6,(.t 103))]))],[(13,I9 9 12 104)]] (bm [0,0,2,6,15,0,38,102,230,0,0,2047,0,8191])) (.rawE [[(0,I0 105 4),(1,I0 106 0),(3,I0 108 8),(5,I1 110 (.load true 9 (.t 12))),(2,I1 107 (.call 18 [(.t 106),(KI 4)])),(4,I1 109 (.call 22 [(KI 40),(.t 107),(.t 108)])),(6,I1 111 (.call 23 [(.t 110)])),(7,I1 112 (.build Z4 [(0,1,(.t 109)),(1,1,(.t 111))])),(8,I1 113 (.bslice 2 1 Z4 [(0,(.t 112))]))],[(9,I1 114 (.append 2 24 Z4 (.t 105) (.t 113)))],[(10,I0 4 114)]] (bm [0,0,2,0,14,0,62,126,254,511,1023]))) .skip))))))))) (.reg 34 [m 6 Nb])))))))) (.seq (.reg 116 [m 16 (B1 24 (.op (.call 25 [(.c (.int .i64 68))]) []) (v 3)),p 17 (ex 0 (d 16)),p 18 (ex 1 (d 16)),p 12 Nc,s 5 (d 12) (d 17),m 13 (d 18)]) (.seq (.reg 122 [m 19 (Am 26 (la 5 (d 12))),p 20 (ex 0 (d 19)),p 21 (ex 1 (d 19)),s 5 (d 12) (d 20)]) (.seq (.rawE [[(0,I1 126 (.load true 5 (.t 13))),(1,I0 127 6),(2,I1 128 (.nilchk (.t 127))),(3,I6 129 1 128),(4,I7 130 129),(5,I9 5 2 126)],[(6,I0 3 130)]] (bm [0,0,2,6,14,1,63])) .ret))))))))⟩
def g7:FT:=⟨2,51,[.cell 4 true 30,.tmp 5],[0,1,2,3,4,5,6,7,8,9,10,12,13,17,18,33,39,40,41,46,47],true,(.seq W75 (.seq (.reg 11 [p 11 (.op (.build Z0 [(0,5,(.t 0))]) [Kf]),p 6 Nc,s 5 (d 6) (d 11)]) (.seq (.reg 14 [m 12 (B1 27 (la 5 (d 6)) (la 6 (d 3))),p 13 (ex 0 (d 12)),p 14 (ex 1 (d 12)),p 7 Pp,s 30 (d 7) (d 13),m 8 (d 14)]) (.seq (.ifc 19 [] (.or (.or Mg (no (B1 28 (la 5 (d 6)) (d 7)))) (no (Am 29 (ld (fa 26 (d 7)))))) (.seq (.reg 32 [s 30 (d 4) Vk,y 5 (.bool false)]) .ret) .skip) (.seq (.reg 34 [m 15 (.op (.call 30 [(.t 0),(.t 1),T9]) [(la 5 (d 6)),(la 6 (fa 9 (fa 0 (d 7))))]),p 16 (ex 0 (d 15)),p 17 (ex 1 (d 15)),m 9 (d 16),m 10 (d 17)]) (.seq (.seq (.reg 42 [m 18 (B1 31 (Am 32 (la 5 (d 6))) (v 9)),p 19 (ex 0 (d 18)),p 20 (ex 1 (d 18)),s 4 (fa 22 (d 7)) (d 19),m 8 (d 20)]) (.ifc 49 [] Mg (.seq (.reg 51 [s 30 (d 4) Vk,y 5 (.bool false)]) .ret) .skip)) (.seq (.reg 52 [s 30 (d 4) (la 30 (d 7)),y 5 (.bool true)]) .ret)))))))⟩
def g8:FT:=⟨2,21,[.cell 4 true 30,.tmp 5],[0,1,2,3,4,5,6,7,8,10,11,15,16,21],true,(.seq W75 (.seq (.reg 9 [p 9 (.op (.build Z0 [(0,5,(.t 0))]) [Kf]),p 6 Nc,s 5 (d 6) (d 9)]) (.seq (.reg 12 [m 10 (B1 27 (la 5 (d 6)) (la 6 (d 3))),p 11 Th,p 12 Tg,p 7 Pp,s 30 (d 7) (d 11),m 8 (d 12)]) (.seq (.ifc 17 [] Mg (.seq (.reg 19 [s 30 (d 4) Vk,y 5 (.bool false)]) .ret) .skip) (.seq (.reg 20 [p 13 (B1 28 (la 5 (d 6)) (d 7))]) (.seq (.reg 22 [s 30 (d 4) (la 30 (d 7)),y 5 (.bool true)]) .ret))))))⟩
def g9:FT:=⟨1,15,[.cell 2 true 30],[0,1,2],true,(.seq (.reg 0 [p 1 W0,p 2 Pp]) (.seq (.reg 3 [s 30 (d 2) (.op (.build Z1 [(0,22,(.t 0)),(22,4,(.t 1)),(26,1,(.t 2)),(27,1,(.t 3)),(28,1,(.t 4)),(29,1,(.t 5))]) [(la 22 W6),(la 4 (fa 22 (d 1))),(ld (fa 26 (d 1))),(ld (fa 27 (d 1))),(ld (fa 28 (d 1))),(ld (fa 29 (d 1)))])]) .ret))⟩
def g10:FT:=⟨2,90,[.tmp 4],[0,1,2,3,4,5,6,72,91],true,(.seq an0 (.seq (.ifc 7 [] (.or (.or (.or (.or (.or (.op (.eqs true [.i,.i,.i,.i,.i,.i,.i,.i,.i,.i,.i,.i,.i,.i,.i,.i,.i,.i,.i,.i,.i,.i] (.t 0) (.t 1)) [(la 22 Ft),(la 22 (fa 0 (d 3)))]) (no (B1 33 (la 4 (fa 22 (d 2))) (la 4 (fa 22 (d 3)))))) (no (B1 34 (ld (fa 26 (d 2))) (ld (fa 26 (d 3)))))) (no (B1 35 (ld (fa 27 (d 2))) (ld (fa 27 (d 3)))))) (b2 .neq (ln (ld (fa 28 (d 2)))) (ln (ld (fa 28 (d 3)))))) (b2 .neq (ln (ld (fa 29 (d 2)))) (ln (ld (fa 29 (d 3)))))) W64 .skip) (.seq (.seq R4 (.block 0 (.loop [2,3,5] [] (.seq (.ifc 54 [] (b2 .lss (v 5) (ln (ld (fa 28 (d 2))))) .skip W7) (.seq (.block 1 (.seq (.rawE [[(0,I6 61 28 2),(1,I7 62 61),(2,I0 63 5),(3,I1 64 (.iaddr 1 (.t 62) (.t 63))),(4,I7 65 64),(5,I6 66 28 3),(6,I7 67 66),(7,I0 68 5),(8,I1 69 (.iaddr 1 (.t 67) (.t 68))),(9,I7 70 69)],[(10,I1 71 (.call 35 [(.t 65),(.t 70)]))],[(11,I1 72 (.un .not (.t 71)))]] (bm [0,1,0,7,15,0,32,0,224,480,1023,2047])) (.ifv 7 W64 .skip))) (.reg 59 [m 5 T7])))))) (.seq (.seq Ti (.block 2 (.loop [2,3,6] [] (.seq (.ifc 73 [] (b2 .lss (v 6) (ln (ld (fa 29 (d 2))))) .skip J5) (.seq (.block 3 (.seq (.rawE [[(0,I6 80 29 2),(1,I7 81 80),(2,I0 82 6),(3,I1 83 (.iaddr 1 (.t 81) (.t 82))),(4,I7 84 83),(5,I6 85 29 3),(6,I7 86 85),(7,I0 87 6),(8,I1 88 (.iaddr 1 (.t 86) (.t 87))),(9,I7 89 88)],[(10,I1 90 (.call 35 [(.t 84),(.t 89)]))],[(11,I1 91 (.un .not (.t 90)))]] (bm [0,1,0,7,15,0,32,0,224,480,1023,2047])) (.ifv 8 W64 .skip))) (.reg 78 [m 6 Nb])))))) (.seq (.reg 0 [y 4 (.bool true)]) .ret)))))⟩
def g11:FT:=⟨1,126,[.tmp 1],[0,2,3,4,5,6,7,8,9,22,62,63,68,69,71,72,86,109,117,122,123],true,(.seq W1 (.seq (.ifc 10 [] (bk .gtr 8 Dt) Ex .skip) (.seq (.seq Jv (.block 0 (.loop [0,2] [] (.seq (.ifc 13 [] (b2 .lss (v 2) Dt) .skip W7) (.seq (.block 1 (.seq (.reg 19 [p 9 (la 5 (ia 5 (v 0) (v 2))),p 3 Tb,s 5 (d 3) (d 9)]) (.seq (.seq (.rawE [[(0,I6 23 0 4)],[(1,I7 24 23)],[(2,I1 25 (.bini .lss (.t 24) (KI 1)))],[(3,I0 26 25)],[(4,I3 27 26 (.faddr 0 (.t 4)))],[(5,I3 28 26 (.load false 1 (.t 27)))],[(6,I3 29 26 (.call 36 [(.t 28)]))],[(7,I3 30 26 (.un .not (.t 29)))],[(8,I1 31 (.pick (.t 26) W9 (.t 30)))],[(9,I0 32 31)],[(10,I5 33 32 3)],[(11,I3 34 32 (.bini .gtr (.t 33) (KI 0)))],[(12,I5 35 32 34)],[(13,I4 36 35 0),(14,I4 37 35 3),(15,I2 38 35 (.bini .sub (.t 37) (KI 1))),(16,I2 39 35 (.iaddr 5 (.t 36) (.t 38))),(17,I2 40 35 (.faddr 0 (.t 39))),(18,I2 41 35 (.load false 1 (.t 40))),(19,I2 42 35 (.faddr 0 (.t 4))),(20,I2 43 35 (.load false 1 (.t 42)))],[(21,I2 44 35 (.bini .geq (.t 41) (.t 43)))],[(22,I3 45 32 (.pick (.t 35) (.t 44) T8))],[(23,I1 46 (.pick (.t 32) W9 (.t 45)))],[(24,I0 47 46)],[(25,I3 48 47 (.faddr 4 (.t 4)))],[(26,I3 49 47 (.load false 1 (.t 48)))],[(27,I3 50 47 (.call 37 [(.t 49)]))],[(28,I3 51 47 (.un .not (.t 50)))],[(29,I1 52 (.pick (.t 47) W9 (.t 51)))],[(30,I0 53 52)],[(31,I3 54 53 (.faddr 3 (.t 4)))],[(32,I3 55 53 (.load false 1 (.t 54)))],[(33,I3 56 53 (.bini .lss (.t 55) (KI 0)))],[(34,I1 57 (.pick (.t 53) W9 (.t 56)))],[(35,I0 58 57)],[(36,I3 59 58 (.faddr 3 (.t 4)))],[(37,I3 60 58 (.load false 1 (.t 59)))],[(38,I3 61 58 (.bini .gtr (.t 60) (KI 255)))],[(39,I1 62 (.pick (.t 58) W9 (.t 61)))]] (bm [0,1,3,7,15,31,63,127,255,511,1023,2047,4095,8191,8191,24575,65535,131071,262143,8191,532479,2097151,4194303,8388607,16777215,33554431,67108863,134217727,268435455,536870911,1073741823,2147483647,4294967295,8589934591,17179869183,34359738367,68719476735,137438953471,274877906943,549755813887])) (.ifv 10 Ex .skip)) (.seq (.reg 64 [m 11 (B1 38 (v 0) R5),p 12 (ex 0 (d 11)),p 13 (ex 1 (d 11)),p 4 Tb,s 5 (d 4) (d 12),m 5 (d 13)]) (.seq (.reg 70 [p 14 Lh]) (.block 2 (.seq (.reg 73 [m 15 (bk .eql 2 (d 14))]) (.ifv 15 (.ifc 74 [] (.or (.or (bk .neq 0 Vn) (no (v 5))) (bk .neq 1 Zd)) Ex .skip) (.seq (.reg 87 [m 16 (bk .eql 1 (d 14))]) (.ifv 16 (.ifc 88 [] (.and (bk .neq 0 R5) (.or (no (v 5)) (bk .neq 2 Zd))) Ex .skip) Ex)))))))))) (.reg 17 [m 2 Pn])))))) (.seq (.seq Ti (.block 3 (.loop [0,6] [] (.seq (.ifc 100 [] (b2 .lss (v 6) Dt) .skip (.exit 3)) (.seq (.block 4 (.seq (.reg 106 [p 17 (la 5 (ia 5 (v 0) (v 6))),p 7 Tb,s 5 (d 7) (d 17)]) (.seq (.seq (.reg 0 [z 8 0]) (.block 5 (.loop [0,6,7,8] [] (.seq (.ifc 110 [] (b2 .leq (v 8) (.op (.bini .mul Ik (.t 0)) [Dt])) .skip (.exit 5)) (.seq (.block 6 (.reg 118 [m 18 (B1 38 (v 0) (ld (fa 2 (d 7)))),p 19 (ex 0 (d 18)),p 20 (ex 1 (d 18)),s 5 (d 7) (d 19)])) (.reg 115 [m 8 (bk .add 1 (v 8))])))))) (.ifc 124 [] (bk .neq 0 (ld (fa 0 (d 7)))) Ex .skip)))) (.reg 104 [m 6 Nb])))))) Oo))))⟩
def Xq:FT:=⟨1,139,[.tmp 1],[0,2,3,4,5,6,7,27,29,30,35,40,50],true,(.seq W1 (.seq (.ifc 8 [] (.or (bk .neq 8 Dt) (.op Vl [(la 5 (ik 5 0 (v 0))),Yr])) Ex .skip) (.seq (.seq (.reg 0 [z 2 1]) (.block 0 (.loop [0,2] [] (.seq (.ifc 18 [] (b2 .lss (v 2) Dt) .skip W7) (.seq (.block 1 (.seq (.reg 24 [p 7 (la 5 (ia 5 (v 0) (v 2))),p 3 Po,s 5 (d 3) (d 7)]) (.seq (.seq (.reg 28 [p 8 Kg]) (.block 2 (.seq (.reg 31 [m 9 (bk .eql 0 (d 8))]) (.ifv 9 (.seq (.ifc 32 [] (.op Vl [(la 5 (d 3)),Yp]) Ex .skip) (.exit 1)) (.seq (.reg 36 [m 10 (bk .eql 3 (d 8))]) (.ifv 10 (.seq (.ifc 37 [] (.op Vl [(la 5 (d 3)),am0]) Ex .skip) (.exit 1)) (.seq (.reg 41 [m 11 (bk .eql 1 (d 8))]) (.ifv 11 (.ifc 42 [] (.or (bk .lss 0 (ld (fa 4 (d 3)))) (bk .gtr 15 (ld (fa 4 (d 3))))) Ex .skip) (.seq (.reg 51 [m 12 (bk .eql 2 (d 8))]) (.ifv 12 (.ifc 52 [] (.or (bk .neq 0 (ld (fa 4 (d 3)))) (.op W77 [Vn])) Ex .skip) Ex)))))))))) (.seq (.ifc 60 [] (.or (.or (no (Am 39 R5)) (no (B1 40 (v 0) Lh))) (bk .gtr 128 (ls Vn))) Ex .skip) (.seq (.seq (.reg 0 [z 4 1]) (.block 3 (.loop [0,2,3,4] [] (.seq (.ifc 77 [] (b2 .lss (v 4) (v 2)) .skip (.exit 3)) (.seq (.block 4 (.ifd 82 [] (.and (.and (.and (bk .neq 0 (ld (fa 0 R6))) (bk .neq 3 (ld (fa 0 R6)))) (b2 .eql (ld (fa 1 R6)) Lh)) (bs .eql (ld (fa 2 R6)) R5)) Ex .skip)) (.reg 80 [m 4 Mc])))))) (.seq (.reg 116 [m 5 (v 2)]) (.seq (.seq Ti (.block 5 (.loop [0,2,5,6] [] (.seq (.ifc 117 [] (.and (.and (b2 .lss (v 6) Dt) (bk .gtr 0 (v 5))) (b2 .lss (v 5) Dt)) .skip (.exit 5)) (.seq (.block 6 (.reg 133 [m 5 (ld (fa 1 (ia 5 (v 0) (v 5))))])) (.reg 131 [m 6 Nb])))))) (.ifc 138 [] (bk .neq 0 (v 5)) Ex .skip)))))))) (.reg 22 [m 2 Pn])))))) Oo)))⟩
def g13:FT:=⟨3,30,[.cell 3 true 41],[0,1,2,6,7,8,9,10,13,14,25,31],false,(.seq (.reg 0 [p 3 Vg]) (.seq (.reg 11 [m 7 (.op (.call 41 [(.t 0),(.c (.int .i64 7))]) [(v 1)]),p 8 (ex 0 (d 7)),p 9 (ex 1 (d 7)),p 4 Vg,s 41 (d 4) (d 8),m 5 (d 9)]) (.seq (.seq Ti (.block 0 (.loop [0,2,3,4,6] [] (.seq (.ifc 15 [] (.and (b2 .lss (v 6) (v 2)) (no (Am 42 (v 0)))) .skip W7) (.seq (.block 1 (.rawE [[(0,I1 26 (.load true 41 (.t 7))),(1,I0 27 0),(2,I1 28 (.call 44 [(.t 27)]))],[(3,I1 29 (.call 43 [(.t 26),(.t 28)]))],[(4,I0 25 29)],[(5,I8 30 25 0),(6,I8 31 25 1),(7,I9 41 7 30)]] (bm [0,0,2,7,15,31,31,63]))) (.reg 23 [m 6 Nb])))))) (.seq (.reg 32 [s 41 (d 3) (la 41 (d 4))]) .ret))))⟩
def g14:FT:=⟨1,24,[.tmp 1],[0,2,3,4],true,(.seq (.reg 0 [z 1 0]) (.seq Jv (.seq (.seq Lf (.block 0 (.loop [0,2,3] [] (.seq (.ifc 5 [] R7 .skip W7) (.seq (.block 1 (.dreg 11 [m 2 (b2 .sub (b2 .add (v 2) (ld (fa 1 Vo))) (ld (fa 0 Vo)))])) (.reg 9 [m 3 Lg])))))) (.seq (.reg 24 [m 1 (v 2)]) .ret))))⟩
def g15:FT:=⟨2,40,[.tmp 4],[0,1,2,3,4,5,7,25,26,27,28,30],true,(.seq (.reg 0 [p 2 W0,p 3 W5,y 4 (.emp)]) (.seq a5d (.seq (.seq (.rawE [[(0,I1 8 (.load true 6 (.t 2))),(1,I6 9 0 3),(2,I6 10 3 9),(3,I1 11 (.load true 6 (.t 10))),(4,I6 12 0 3),(5,I6 13 9 12),(6,I1 14 (.load true 6 (.t 13))),(7,I1 15 (.bslice 6 3 Z3 [(0,(.t 8)),(1,(.t 11)),(2,(.t 14))])),(8,I6 16 27 3),(9,I7 17 16),(10,I6 18 28 3),(11,I7 19 18),(13,I6 21 29 3),(14,I7 22 21),(19,I1 27 (.mv (KI 0))),(12,I1 20 (.call 45 [(.t 19)])),(15,I1 23 (.call 45 [(.t 22)])),(16,I1 24 (.bslice 1 4 [.emp] [(0,(.t 15)),(1,(.t 17)),(2,(.t 20)),(3,(.t 23))])),(17,I1 25 (.call 45 [(.t 24)])),(18,I1 26 (.len false (.t 25)))]] (bm [0,0,2,6,0,16,48,127,0,256,0,1024,3072,0,8192,31744,65535,131071,262143,0])) (.block 0 (.loop [5,7,8,9] [(5,1)] (.seq am7 (.seq (.ifv 10 .skip W7) (.seq (.block 1 (.seq (.reg 29 [p 11 (la 6 (ia 6 (d 7) (d 9))),p 6 Ij,s 6 (d 6) (d 11)]) (.ifc 31 [] (bk .gtr 0 (ld Ra)) (.reg 34 [m 5 (.op Tc [(v 5),(.op R9 [(ld Ra)])])]) .skip))) (.reg 39 [m 9 (bk .add 1 (d 9))]))))))) (.seq (.reg 40 [m 4 (Am 46 (v 5))]) .ret))))⟩
def g16:FT:=⟨2,24,[.tmp 2],[0,1,4],true,(.seq Jv (.seq (.ifc 5 [] (.or (.or (no (Am 47 (v 0))) Zc) (bk .gtr 3 (v 1))) Yu .skip) (.seq (.ifc 16 [] (bk .lss 2 (v 1)) (.seq (.reg 18 [m 2 (bk .mul 7 (v 1))]) .ret) .skip) (.seq (.reg 20 [m 2 (b2 .add (.op Pr [(v 0)]) (bk .mul 7 (bk .sub 2 (v 1))))]) .ret))))⟩
def g17:FT:=⟨2,16,[.tmp 2],[0,1,4],true,(.seq W4 (.seq (.ifc 5 [] (.or (no (Am 48 (v 0))) (no (Am 47 (v 1)))) Ho .skip) (.seq (.reg 13 [m 2 (Am 49 (.op (.call 50 [a5f,(.t 0)]) [(.op (.bslice 1 3 Z5 [(0,(.c (.int .i64 172))),(1,(.t 0)),(2,(.t 1))]) [(v 0),(v 1)])]))]) .ret)))⟩
def Uy:FT:=⟨2,38,[.tmp 2],[0,1,4,19,22,23],false,(.seq Jv (.seq (.ifd 5 [] (.or (b2 .geq (ld (fa 1 W3)) (ln Re)) (bk .lss 1 (v 1))) (.seq Jv .ret) .skip) (.seq (.reg 20 [m 3 (d 0),p 4 (ld (fa 1 (.op Na [(d 3)]))),p 5 (bk .add 1 (d 4)),s 1 (fa 1 (.op Na [(d 3)])) (d 5)]) (.seq (.dreg 26 [m 2 (b2 .rem (cv .i64 (ld (ia 1 Re (bk .sub 1 (ld (fa 1 W3)))))) (v 1))]) .ret))))⟩
def Ga:FT:=⟨5,213,[.tmp 5],[0,1,2,3,4,10,11,12,13,14,15,16,17,18,19,20,24,27,45,48,51,53,56,61,62,65,66,69,71,73,75,78,80,83,84,90,124,131,133,136,139,144,146,149,153,188,205,211,213],false,(.seq (.reg 0 [y 5 (.str [])]) (.seq (.seq (.reg 0 [m 14 (d 2)]) (.block 0 (.seq (.reg 21 [m 15 (bk .eql 1 (d 14))]) (.ifv 15 (.seq (.reg 22 [m 5 (Am 51 (v 1))]) .ret) (.seq (.reg 25 [m 16 (bk .eql 2 (d 14))]) (.ifv 16 (.seq (.reg 26 [m 6 (.op (.mksl 6 32 Z3 Md Md) [])]) (.seq (.reg 0 [p 17 Yr,p 7 Po,s 5 (d 7) (d 17),z 8 0]) (.seq (.ifc 28 [] (bk .eql 2 (bk .rem 7 (v 3))) (.seq (.rawE [[(0,I1 31 (.bslice 1 6 [.str []] [(0,(.c (.str [97]))),(1,(.c (.str [97]))),(2,(.c (.str [97]))),(3,(.c (.str [98]))),(4,(.c (.str [65]))),(5,(.c (.str [])))])),(1,I0 32 1),(5,I0 36 1),(9,I1 40 (.bslice 1 7 Z5 [(0,(KI 32)),(1,(KI 32)),(2,(KI 40)),(3,(KI 5)),(4,(KI 20)),(5,(KI 128)),(6,(KI 0))])),(10,I0 41 1),(2,I1 33 (.call 18 [(.t 32),(KI 6)])),(3,I1 34 (.iaddr 1 (.t 31) (.t 33))),(4,I7 35 34),(6,I1 37 (.call 18 [(.t 36),(KI 10)])),(7,I1 38 (.bini .quo (.t 37) (KI 9))),(8,I1 39 (.build Z9 [(0,1,(KI 1)),(2,1,(.t 35)),(1,1,(.t 38))])),(11,I1 42 (.call 18 [(.t 41),(KI 7)])),(12,I1 43 (.iaddr 1 (.t 40) (.t 42))),(13,I7 44 43),(14,I9 5 12 39)],[(15,I0 13 44)]] (bm [0,0,2,7,15,0,38,102,255,0,0,1126,3686,7782,3583,32767])) (.seq (.reg 46 [m 18 (d 6),p 19 (bk .quo 2 (.op (.call 18 [(.t 0),T9]) [(v 1)])),p 20 W76,s 6 (ia 6 (d 18) (d 19)) (d 20)]) (.seq (.reg 54 [m 21 (d 6),p 22 W76,s 6 (ik 6 3 (d 21)) (d 22)]) (.ifc 58 [] (bk .eql 0 am6) (.reg 63 [m 23 (d 6),p 24 Nf,s 6 (ik 6 3 (d 23)) (d 24)]) .skip)))) .skip) (.seq (.seq (.reg 64 [p 25 W71]) (.block 1 (.seq (.reg 67 [m 26 (bk .eql 11 (d 25))]) (.ifv 26 (.reg 68 [p 27 am5,e (.store 1 (.t 0) (.c (.str [120]))) [(fa 2 (d 7))],m 8 (d 27)]) (.seq (.reg 72 [m 28 (bk .eql 10 (d 25))]) (.ifv 28 (.reg 74 [m 29 (d 6),p 30 (.op (.call 18 [(.t 0),Md]) [(v 1)]),p 31 W76,s 6 (ia 6 (d 29) (d 30)) (d 31)]) (.seq (.reg 81 [m 32 (bk .eql 9 (d 25))]) (.ifv 32 (.reg 82 [p 33 (ld (fa 0 (d 7))),p 34 (.op (.bini .sub Kh (.t 0)) [(d 33)]),s 1 (fa 0 (d 7)) (d 34)]) .skip)))))))) (.seq (.reg 86 [m 5 (Sy 53 (la 5 (d 7)) (v 8) (v 6))]) .ret))))) (.seq (.reg 91 [m 35 (bk .eql 3 (d 14))]) (.ifv 35 (.seq (.reg 92 [m 9 (.op (.mksl 6 32 Z3 Ng Ng) [])]) (.seq (.seq (.reg 93 [m 10 (bk .sub 1 (ln Re))]) (.block 2 (.loop [0,1,9,10] [] (.seq (.ifc 99 [] (bk .geq 0 (v 10)) .skip J5) (.seq (.block 3 (.ifc 103 [] (.and (bk .eql 2 (ld (fa 0 (ia 3 Re (v 10))))) (bk .eql 93 (ls (ld (fa 2 (ia 3 Re (v 10))))))) (.reg 125 [m 36 (d 9),p 37 (la 6 (ia 6 (ld (fa 1 W3)) (v 10))),s 6 (ik 6 0 (d 36)) (d 37)]) .skip)) (.reg 101 [m 10 (bk .sub 1 (v 10))])))))) (.seq (.reg 134 [m 38 (d 9),p 39 (.op Yq [am5]),p 40 (.op (.call 52 [(.t 0),(.t 1),Ik]) [(v 0),(v 1)]),s 6 (ia 6 (d 38) (d 39)) (d 40)]) (.seq (.ifc 141 [] (bk .eql 5 (.op (.call 18 [(.t 0),Vp]) [(v 1)])) (.reg 145 [m 41 (d 9),p 42 (.op (.call 18 [(.t 0),Ng]) [(v 1)]),p 43 (.op (.call 52 [(.t 0),(.t 1),Ik]) [(v 0),(v 1)]),s 6 (ia 6 (d 41) (d 42)) (d 43)]) .skip) (.seq (.reg 151 [m 5 (Am 54 (v 9))]) .ret))))) (.seq (.reg 154 [m 44 (bk .eql 4 (d 14))]) (.ifv 44 (.seq (.reg 155 [m 11 (.op (.bslice 5 1 Z8 [(0,(.t 0))]) [(.op (.build Z8 [(0,1,Mf),(1,1,(.t 0))]) [(.op Yq [(bk .quo 8 (.op (.call 18 [(.t 0),(.c (.int .i64 9))]) [(v 1)]))])])])]) (.seq (.reg 161 [m 12 W89]) (.seq (.ifc 165 [] (bk .eql 1 am6) (.seq (.reg 168 [m 11 (.op (.append 5 56 Z8 (.t 0) (.t 1)) [(v 11),(.op (.bslice 5 1 Z8 [(0,(.t 0))]) [(.op (.build Z8 [(0,1,Ik),(1,1,Ik),(2,1,(.t 0)),(3,1,(.t 1))]) [(.op Yq [(bk .quo 6 (.op (.call 18 [(.t 0),(.c (.int .i64 7))]) [(v 1)]))]),(bk .quo 7 (.op (.call 18 [(.t 0),Ng]) [(v 1)]))])])])]) (.reg 179 [m 12 (.op W92 [(v 12),W89])])) .skip) (.seq (.reg 185 [m 5 (B1 55 (v 11) (v 12))]) .ret)))) (.seq (.reg 189 [m 45 (bk .eql 5 (d 14))]) (.ifv 45 (.seq (.reg 190 [m 5 (.op (.call 56 [(.c (.int .i64 40)),(.t 0)]) [(.op (.build T4 [(0,1,(.t 0))]) [(.op (.call 57 [(.t 0),Md]) [(v 1)])])])]) .ret) .skip)))))))))))) (.seq (.reg 194 [p 46 (.op (.build R1 [(0,1,(.t 0)),(1,1,Kh),(2,1,(.c (.int .i64 7))),(3,6,(.t 1)),(9,6,(.t 2))]) [(b2 .add (v 4) (bk .quo 11 W71)),(.op (.call 52 [(.t 0),(.t 1),Md]) [(v 0),(v 1)]),(.op (.call 52 [(.t 0),(.t 1),T9]) [(v 0),(v 1)])]),p 13 (.op (.alloc R1) []),s 22 (d 13) (d 46)]) (.seq (.ifc 206 [] (bk .eql 1 am6) (.reg 209 [p 47 (.op (.call 52 [(.t 0),(.t 1),Vp]) [(v 0),(v 1)]),p 48 am5,s 6 (fa 15 (d 13)) (d 47),s 1 (fa 21 (d 13)) (d 48)]) .skip) (.seq (.reg 216 [m 5 (Am 58 (la 22 (d 13)))]) .ret)))))⟩
def g20:FT:=⟨2,9,[.cell 3 true 6],[0,1,3,4],true,(.seq (.reg 0 [p 2 W5,p 3 Ij]) (.seq (.rawE [[(0,I0 5 0),(1,I1 6 (.load true 3 (.t 3))),(3,I6 8 1 3),(4,I7 9 8),(2,I1 7 (.call 21 [(.t 6)]))],[(5,I1 10 (.call 59 [(.t 5),(.t 7),(.t 9)]))],[(6,I9 6 4 10)]] (bm [0,0,2,0,8,31,63])) .ret))⟩
def g21:FT:=⟨1,24,[.tmp 2],[0,1,2,3],true,(.seq Td (.seq (.ifc 4 [] (no (Am 60 (la 3 (d 1)))) Ho .skip) (.seq (.rawE [[(0,I6 7 0 1),(1,I7 8 7),(2,I6 9 1 1),(3,I7 10 9),(4,I6 11 2 1),(5,I7 12 11),(6,I1 13 (.len true (.t 12))),(7,I1 14 (.bslice 1 3 Z5 [(0,(.t 8)),(1,(.t 10)),(2,(.t 13))])),(9,I6 16 2 1),(10,I7 17 16),(8,I1 15 (.call 50 [a5f,(.t 14)]))],[(11,I1 18 (.bins .add (.t 15) (.t 17)))],[(12,I0 3 18)]] (bm [0,1,0,4,0,16,48,127,255,0,512,2047,4095])) (.seq (.reg 19 [m 2 (bs .add (v 3) (Am 61 (.op am8 [(ls (v 3))])))]) .ret))))⟩
def Ux:FT:=⟨3,22,[.tmp 3],[0,1,2,6,7],true,(.seq Lf (.seq (.reg 8 [m 4 (B1 16 (v 0) (v 1))]) (.seq (.ifc 11 [] (.or (.or (bk .lss 0 (v 4)) (bk .lss 0 (v 2))) (bk .geq 6 (v 2))) (.seq (.reg 0 [y 3 (.int .i64 (-1))]) .ret) .skip) (.seq (.reg 21 [m 3 (b2 .add Mc (v 2))]) .ret))))⟩
def g23:FT:=⟨1,19,[.tmp 2],[0,1,2],true,(.seq Td (.seq (.ifc 3 [] (no (Am 62 (la 9 (d 1)))) Ho .skip) (.seq (.rawE [[(0,I6 6 0 1),(1,I7 7 6),(2,I6 8 1 1),(3,I7 9 8),(4,I6 10 2 1),(5,I7 11 10),(6,I1 12 (.bslice 1 4 Z5 [(0,(KI 171)),(1,(.t 7)),(2,(.t 9)),(3,(.t 11))])),(8,I6 14 3 1),(9,I1 15 (.load true 6 (.t 14))),(10,I1 16 (.bslice 6 1 Z3 [(0,(.t 15))])),(7,I1 13 (.call 50 [(.c (.str [49,52,52,49])),(.t 12)]))],[(11,I1 17 (.call 63 [(.t 16)]))],[(12,I1 18 (.bins .add (.t 13) (.t 17)))],[(13,I1 19 (.call 49 [(.t 18)]))],[(14,I0 2 19)]] (bm [0,1,0,4,0,16,63,127,0,256,768,2047,4095,8191,16383])) .ret)))⟩
def g24:FT:=⟨2,67,[.cell 3 true 5,.tmp 4],[0,1,2,4,5,6,58,59,63],true,(.seq (.reg 0 [p 2 W0,p 3 Nc,y 4 (.bool false)]) (.seq (.ifc 7 [] (ld (fa 4 (d 2))) (.seq (.reg 9 [s 5 (d 3) Kf,y 4 (.bool false)]) .ret) .skip) (.seq (.seq R4 (.block 0 (.loop [1,2,3,5] [] (.after [.fzC 2 1] (.seq (.ifc 10 [] (b2 .lss (v 5) Nh) .skip W7) (.seq (.block 1 (.seq (.ifd 16 [] (.or (.or (bk .lss 0 (ld (fa 0 (ia 2 (v 1) (v 5))))) (b2 .geq (ld (fa 0 (ia 2 (v 1) (v 5)))) (ln (ld Ft)))) (bk .neq 256 (ls (ld (fa 1 (ia 2 (v 1) (v 5))))))) (.seq (.reg 42 [s 5 (d 3) Kf,y 4 (.bool false)]) .ret) .skip) (.seq (.rawE [[(0,I1 43 (.bslice 2 0 Z4 [])),(1,I6 44 1 2),(2,I7 45 44),(3,I1 46 (.append 2 24 Z4 (.t 43) (.t 45))),(4,I0 47 1),(5,I0 48 6),(6,I1 49 (.iaddr 2 (.t 47) (.t 48))),(7,I1 50 (.load true 2 (.t 49))),(8,I1 51 (.bslice 2 1 Z4 [(0,(.t 50))]))],[(9,I1 52 (.append 2 24 Z4 (.t 46) (.t 51)))],[(10,I6 53 1 2)],[(11,I9 1 53 52)]] (bm [0,0,2,7,0,0,48,112,240,511,1023,2047])) (.seq (.ifc 54 [] (bk .gtr 0 Zb) (.seq (.reg 57 [p 6 Zb,p 7 (bk .sub 1 (d 6)),s 1 (fa 3 (d 2)) (d 7)]) (.reg 61 [p 8 (bk .eql 0 Zb),s 1 (fa 4 (d 2)) (d 8)])) .skip) (.ifc 65 [] (ld (fa 4 (d 2))) (.seq (.reg 67 [s 5 (d 3) Kf,y 4 (.bool false)]) .ret) .skip))))) (.reg 14 [m 5 T7]))))))) (.seq (.reg 68 [s 5 (d 3) Kf,y 4 (.bool true)]) .ret))))⟩
def g25:FT:=⟨1,21,[.cell 1 true 5],[0,2,3,4,5],true,(.seq (.reg 0 [p 1 Nc]) (.seq (.reg 0 [p 4 (.op (.build Z0 []) []),p 2 Nc,s 5 (d 2) (d 4)]) (.seq (.seq Lf (.block 0 (.pre [.empC 2 0 1] (.loop [0,1,2,3] [] (.seq (.ifc 6 [] (.and (b2 .lss (v 3) (v 0)) (bk .leq 268 (v 0))) .skip W7) (.seq (.block 1 (.rawE [[(0,I6 15 0 3),(1,I7 16 15),(2,I1 17 (.call 61 [(KI 256)])),(3,I1 18 (.bslice 1 1 [.str []] [(0,(.t 17))]))],[(4,I1 19 (.append 1 16 [.str []] (.t 16) (.t 18)))],[(5,I6 20 0 3)],[(6,I9 1 20 19)]] (bm [0,1,0,4,15,31,63]))) (.reg 13 [m 3 Lg]))))))) (.seq (.reg 21 [s 5 (d 1) Kf]) .ret))))⟩
def Xl:FT:=⟨1,35,[.cell 2 true 5,.tmp 3],[0,1,2,3,4,5,13,14,19,32],true,(.seq (.reg 0 [p 1 W0,p 2 Nc,y 3 (.bool false)]) (.seq (.ifc 6 [] (ld (fa 4 (d 1))) (.seq (.reg 8 [s 5 (d 2) (la 5 (d 1)),y 3 (.bool false)]) .ret) .skip) (.seq (.ifc 9 [] (bk .gtr 0 T6) (.seq (.reg 12 [p 6 T6,p 7 (bk .sub 1 (d 6)),s 1 (fa 2 (d 1)) (d 7)]) (.seq (.reg 16 [s 5 (d 2) (la 5 (d 1)),y 3 (.bool true)]) .ret)) .skip) (.seq (.reg 17 [p 8 (ln Ok),m 4 (.op (.mksl 1 8 Z5 (.t 0) (.t 1)) [(d 8),(d 8)])]) (.seq (.seq R4 (.after [.fz 4] (.block 0 (.loop [1,2,4,5] [] (.seq (.ifc 21 [] (b2 .lss (v 5) (ln (v 4))) .skip W7) (.seq (.block 1 (.reg 27 [e (.store 1 (.t 0) Kh) [(ia 1 (v 4) (v 5))]])) (.reg 25 [m 5 T7]))))))) (.seq (.reg 30 [p 9 (B1 64 (la 5 (d 1)) (v 4)),s 1 W6 (d 9),e (.store 1 (.t 0) (.c (.emp))) [(fa 1 (d 1))]]) (.seq (.reg 35 [s 5 (d 2) (la 5 (d 1)),y 3 (.bool true)]) .ret)))))))⟩
def Qm:FT:=⟨2,50,[.cell 4 true 30,.tmp 5],[0,1,2,3,4,5,6,7,8,9,13,14,15,18,19,32,38,39,40,43,44,45],false,(.seq W75 (.seq (.reg 0 [p 6 Pp]) (.seq (.reg 10 [m 9 (.op (.call 30 [(.t 0),(.t 1),Vp]) [Kf,(la 6 (d 3))]),p 10 (ex 0 (d 9)),p 11 (ex 1 (d 9)),m 7 (d 10),m 8 (d 11)]) (.seq (.seq (.reg 16 [m 12 (Am 65 (v 7)),p 13 (ex 0 (d 12)),p 14 (ex 1 (d 12)),s 22 Ra (d 13),m 8 (d 14)]) (.ifc 21 [] (.or Mg (b2 .neq (ld (fa 0 Ra)) Lh)) (.seq (.reg 31 [s 30 (d 4) Vk,y 5 (.bool false)]) .ret) .skip)) (.seq (.reg 33 [m 15 (.op (.call 30 [(.t 0),(.t 1),Md]) [Kf,(la 6 (fa 3 Ra))]),p 16 (ex 0 (d 15)),p 17 (ex 1 (d 15)),m 7 (d 16)]) (.seq (.seq (.reg 41 [m 18 (Am 66 (v 7)),p 19 (ex 0 (d 18)),p 20 (ex 1 (d 18)),p 21 (ex 2 (d 18)),s 1 (fa 26 (d 6)) (d 19),s 1 (fa 27 (d 6)) (d 20),m 8 (d 21)]) (.ifc 48 [] Mg (.seq (.reg 50 [s 30 (d 4) Vk,y 5 (.bool false)]) .ret) .skip)) (.seq (.reg 51 [s 30 (d 4) (la 30 (d 6)),y 5 (.bool true)]) .ret)))))))⟩
def g28:FT:=⟨2,59,[.tmp 3],[0,1,2,4,5,6,7,8,12,13,14,15,16,18,21],false,(.seq Om (.seq (.reg 0 [y 4 (.bool true)]) (.seq (.seq (.reg 9 [p 8 (ld (fa 27 (.op Na [(v 1)]))),p 9 (ln (d 8)),z 10 0]) (.block 0 (.pre [.empC 1 28 1,.empC 1 29 1] (.loop [1,2,4,8,9,10] [] (.seq (.reg 0 [p 11 (b2 .lss (d 10) (d 9))]) (.seq (.ifv 11 .skip W7) (.seq (.block 1 (.seq (.reg 17 [m 12 (d 10),p 13 (la 6 (ia 6 (d 8) (d 10))),p 6 Ij,m 5 (d 12),s 6 (d 6) (d 13)]) (.seq (.reg 19 [p 14 (B1 67 Kf (la 6 (d 6))),p 7 (.op (.alloc Z12) []),s 9 (d 7) (d 14)]) (.seq (.rawE [[(0,I0 22 1),(1,I1 23 (.nilchk (.t 22))),(2,I6 24 26 23),(3,I7 25 24),(4,I0 26 6),(5,I0 27 1),(6,I0 28 1),(7,I6 29 5 8),(8,I7 30 29),(9,I0 31 1),(10,I1 32 (.nilchk (.t 31))),(11,I6 33 28 32),(12,I7 34 33),(13,I6 35 6 8),(14,I7 36 35),(15,I1 37 (.bslice 1 1 [.emp] [(0,(.t 36))])),(16,I1 38 (.append 1 24 [.emp] (.t 34) (.t 37))),(17,I0 39 1),(18,I1 40 (.nilchk (.t 39))),(19,I6 41 29 40),(20,I7 42 41),(21,I6 43 7 8),(22,I7 44 43),(23,I1 45 (.bslice 1 1 [.emp] [(0,(.t 44))])),(24,I1 46 (.append 1 24 [.emp] (.t 42) (.t 45))),(25,I1 47 (.iaddr 5 (.t 25) (.t 26))),(26,I6 48 4 47),(27,I9 1 48 30),(28,I1 49 (.nilchk (.t 27))),(29,I6 50 28 49),(30,I9 1 50 38)],[(31,I1 51 (.nilchk (.t 28)))],[(32,I6 52 29 51)],[(33,I9 1 52 46)]] (bm [0,1,3,7,0,0,0,0,128,0,512,1536,3584,0,8192,24576,65024,0,131072,393216,917504,0,2097152,6291456,16776704,33554335,67108767,134217631,268435391,536870847,1073741759,2147483647,4294967295,8589934591])) (.reg 53 [m 4 (.and (v 4) (no (ld (fa 8 (d 7)))))]))))) (.reg 59 [m 10 (bk .add 1 (d 10))])))))))) (.seq (.reg 60 [m 3 (v 4)]) .ret))))⟩
def g29:FT:=⟨1,28,[.tmp 1],[0,2,3,5,6,7,8,9,11],true,(.seq W1 (.seq Jv (.seq (.seq am9 (.block 0 (.loop [0,2,4,5,6] [] (.seq W72 (.seq Za (.seq (.block 1 (.seq (.reg 10 [p 8 (la 5 (ia 5 (d 4) (d 6))),p 3 Tb,s 5 (d 3) (d 8)]) (.seq (.ifc 12 [] (.or (b2 .leq Kg (v 2)) (no (Am 68 (.op (.build [.int .i64 0,.int .i64 0,.int .i64 0,.int .i64 0,.emp,.emp] [(0,5,(.t 0)),(5,1,(.t 1))]) [(la 5 (d 3)),(v 0)])))) Ex .skip) (.reg 23 [m 2 Kg])))) (.reg 25 [m 6 Yz]))))))) (.seq (.reg 26 [m 1 (bk .leq 8 Dt)]) .ret))))⟩
def g30:FT:=⟨3,18,[.tmp 5,.tmp 6],[0,1,2,3,4,6,7,13,18,19,20],true,(.seq b2o (.seq (.seq (.rawE [[(0,I6 8 0 4),(1,I7 9 8),(2,I1 10 a5e),(3,I1 11 (.call 32 [(.t 10)])),(4,I1 12 (.bini .add (KI 14) (.t 11)))],[(5,I1 13 (.bini .geq (.t 9) (.t 12)))]] (bm [0,1,0,4,12,31])) (.ifv 7 W69 .skip)) (.seq (.reg 14 [p 8 (Sy 69 (la 5 (fa 0 (d 3))) (la 6 (d 4)) (v 2)),p 9 (ex 0 (d 8)),p 10 (ex 1 (d 8)),m 5 (d 9),m 6 (d 10)]) .ret)))⟩
def Sj:FT:=⟨2,42,[.cell 2 true 4,.tmp 3],[0,1,4,5,6,7,8,9,10,12,13,15,16,20,21,22,36],true,(.seq (.reg 0 [p 2 Vi,y 3 (.bool false)]) (.seq (.reg 0 [p 4 Vi]) (.seq (.reg 11 [m 5 (v 1),y 6 (.bool true)]) (.seq (.seq (.reg 0 [z 9 0]) (.block 0 (.loop [0,1,2,4,5,9] [] (.seq (.reg 0 [p 10 (bk .lss 4 (d 9))]) (.seq (.ifv 10 .skip W7) (.seq (.block 1 (.seq (.reg 14 [m 7 (v 9)]) (.seq (.reg 17 [m 12 (d 7),m 11 (B1 70 (v 0) (v 5)),p 13 (ex 0 (d 11)),p 14 (ex 1 (d 11)),p 15 (ex 2 (d 11)),s 1 (.op R8 [(d 4),(d 12)]) (d 13),m 5 (d 14),m 6 (d 15)]) (.ifc 24 [] (no (v 6)) (.seq (.reg 26 [s 4 (d 2) (.op (.build T4 []) []),y 3 (.bool false)]) .ret) .skip)))) (.reg 27 [m 9 (bk .add 1 (d 9))]))))))) (.seq (.reg 28 [p 16 (.op b2q [(ld (.op (.iaddra 4 1 (.t 0) Me) [(d 4)])),(ld (.op (.iaddra 4 1 (.t 0) Mf) [(d 4)])),(ld (.op (.iaddra 4 1 (.t 0) Ik) [(d 4)])),(ld (.op (.iaddra 4 1 (.t 0) Kh) [(d 4)]))]),p 8 Vi,s 4 (d 8) (d 16)]) (.seq (.ifc 37 [] (bs .neq (B1 71 (v 0) (la 4 (d 8))) (v 1)) (.seq (.reg 42 [s 4 (d 2) (.op (.build T4 []) []),y 3 (.bool false)]) .ret) .skip) (.seq (.reg 43 [s 4 (d 2) (la 4 (d 8)),y 3 (.bool true)]) .ret)))))))⟩
def g32:FT:=⟨1,7,[.tmp 2],[0,1,2],true,(.seq (.reg 0 [p 1 W0,z 2 0]) (.seq (.reg 3 [m 2 (bk .sub 28 (ln Rc))]) .ret))⟩
def g33:FT:=⟨2,29,[.tmp 4],[0,1,2,3,4],true,(.seq an0 (.seq (.reg 5 [m 4 (.and (.and (.and (B1 72 (ld Ft) Kg) (B1 72 T5 Lh)) (B1 72 (ld (fa 2 (d 2))) R5)) (B1 72 Zb Vn))]) .ret))⟩
def g34:FT:=⟨2,59,[.tmp 2],[0,1,4,5,6,7],true,(.seq W2 (.seq (.ifc 8 [] (b2 .neq Dt Nh) J6 .skip) (.seq (.seq Lf (.block 0 (.loop [0,1,3] [] (.seq (.ifc 13 [] R7 .skip W7) (.seq (.block 1 (.seq (.rawE [[(0,I0 19 0),(1,I0 20 5),(2,I1 21 (.iaddr 5 (.t 19) (.t 20))),(3,I1 22 (.load true 5 (.t 21))),(4,I0 23 1),(5,I0 24 5),(6,I1 25 (.iaddr 5 (.t 23) (.t 24))),(7,I1 26 (.load true 5 (.t 25))),(8,I1 6 (.alloc Z8)),(9,I1 7 (.alloc Z8)),(10,I9 5 6 22)],[(11,I9 5 7 26)]] (bm [0,0,3,7,0,0,48,112,0,0,783,2047])) (.ifc 27 [] (.or (.or (.or (.or (b2 .neq Yy (ld (fa 0 (d 5)))) (b2 .neq Zd (ld (fa 1 (d 5))))) (b2 .neq (ld (fa 2 (d 4))) (ld (fa 2 (d 5))))) (b2 .neq (ld (fa 3 (d 4))) (ld (fa 3 (d 5))))) (no (B1 73 (ld (fa 4 (d 4))) (ld (fa 4 (d 5)))))) J6 .skip))) (.reg 17 [m 3 Lg])))))) Te)))⟩
def g35:FT:=⟨2,24,[.tmp 2],[0,1,4,5],true,(.seq W2 (.seq W86 (.seq (.seq Lf (.block 0 (.loop [0,1,3] [] (.seq (.ifc 11 [] R7 .skip W7) (.seq (.block 1 (.ifd 17 [] (.op W57 [a5j,(la 6 (ia 6 (v 1) (v 3)))]) J6 .skip)) (.reg 15 [m 3 Lg])))))) Te)))⟩
def g36:FT:=⟨1,8,[.tmp 1],[0,2],true,(.seq W1 (.seq (.reg 3 [m 1 (.and (bk .geq 0 (v 0)) (bk .leq 65535 (v 0)))]) .ret))⟩
def g37:FT:=⟨1,9,[.tmp 1],[0,2],true,(.seq W1 (.seq (.reg 3 [m 1 (.and (Am 12 (v 0)) (no (Am 74 (v 0))))]) .ret))⟩
def g38:FT:=⟨2,15,[.cell 2 true 5,.tmp 3],[0,1,4,5,6],true,(.seq (.reg 0 [p 2 Tb,y 3 (.bool false)]) (.seq (.reg 7 [m 4 (B1 75 (v 0) (v 1))]) (.seq (.ifc 10 [] (bk .lss 0 (v 4)) (.seq (.reg 12 [s 5 (d 2) (.op (.build Z8 []) []),y 3 (.bool false)]) .ret) .skip) (.seq (.reg 13 [s 5 (d 2) (la 5 R6),y 3 (.bool true)]) .ret))))⟩
def g39:FT:=⟨1,56,[.tmp 1],[0,2,3,4],true,(.seq W1 (.seq (.seq Jv (.block 0 (.loop [0,2] [] (.seq (.ifc 5 [] (b2 .lss (v 2) (ls (v 0))) .skip W7) (.seq (.block 1 (.seq (.reg 11 [m 3 (ix (v 0) (v 2))]) (.ifc 14 [] (no (.or (.or (.or (.or (.and (.op (.bini .geq (.t 0) (.c (.int .u8 97))) [(v 3)]) (.op (.bini .leq (.t 0) (.c (.int .u8 122))) [(v 3)])) (.and (.op (.bini .geq (.t 0) (.c (.int .u8 48))) [(v 3)]) (.op (.bini .leq (.t 0) (.c (.int .u8 57))) [(v 3)]))) (.op (.bini .eql (.t 0) (.c (.int .u8 46))) [(v 3)])) (.op (.bini .eql (.t 0) (.c (.int .u8 95))) [(v 3)])) (.op (.bini .eql (.t 0) (.c (.int .u8 45))) [(v 3)]))) Ex .skip))) (.reg 9 [m 2 Pn])))))) (.seq (.reg 41 [m 1 (.and (.and (.and (bk .geq 1 (ls (v 0))) (bk .leq 8 (ls (v 0)))) (.op (.bins .neq (.t 0) (.c (.str [46]))) [(v 0)])) (.op (.bins .neq (.t 0) (.c (.str [46,46]))) [(v 0)]))]) .ret)))⟩
def Uv:FT:=⟨2,27,[.tmp 2],[0,1,4],true,(.seq W2 (.seq (.reg 5 [m 2 (.and (.and (bk .geq 0 (v 1)) (b2 .lss (v 1) Dt)) (.or (bk .eql 2 (ld (fa 0 (ia 5 (v 0) (v 1))))) (bk .eql 3 (ld (fa 0 (ia 5 (v 0) (v 1)))))))]) .ret))⟩
def g41:FT:=⟨2,59,[.cell 2 true 41,.tmp 3],[0,1,4,5,6,7,8,9,10,25,40,44,45,53,56,57,58,60],true,(.seq (.reg 0 [p 2 Vg,y 3 (.bool false)]) (.seq (.ifc 11 [] (.or (.or (bk .lss 40 (v 0)) (bk .gtr 240 (v 0))) (no (Am 76 (v 1)))) (.seq (.reg 22 [s 41 (d 2) (.op (.build Z2 []) []),y 3 (.bool false)]) .ret) .skip) (.seq (.reg 23 [p 9 (Am 25 (.op (.bini .add (.c (.int .i64 28)) (.t 0)) [(v 0)])),p 4 Nc,s 5 (d 4) (d 9)]) (.seq a5d (.seq (.seq Ti (.after [.fz 5] (.block 0 (.loop [0,1,2,4,5,6] [(5,2)] (.seq (.ifc 26 [] (bk .lss 4 (v 6)) .skip W7) (.seq (.block 1 (.reg 30 [m 5 (.op (.append 2 24 Z4 (.t 0) (.t 1)) [(v 5),(.op (.bslice 2 1 Z4 [(0,(.t 0))]) [(.op (.build Z4 [(0,1,(.t 0)),(1,1,(.t 1))]) [(B1 16 (v 0) (v 6)),(B1 17 (v 1) (v 0))])])])])) (.reg 28 [m 6 Nb]))))))) (.seq (.reg 41 [m 10 (B1 77 (la 5 (d 4)) (v 5)),p 11 Th,p 12 Tg,s 5 (d 4) (d 11)]) (.seq (.rawE [[(0,I1 46 (.load true 5 (.t 6))),(1,I0 47 1),(2,I1 48 (.build R1 [(1,1,(KI 2)),(2,1,(.t 47))])),(7,I1 9 (.alloc Z2)),(3,I1 49 (.call 78 [])),(4,I1 50 (.build Z8 [(0,1,(KI 1)),(1,1,(KI 1)),(4,1,(.t 49))])),(5,I1 51 (.bslice 5 1 Z8 [(0,(.t 50))])),(6,I1 52 (.build Z2 [(0,5,(.t 46)),(11,22,(.t 48)),(39,1,(.t 51))]))],[(8,I9 41 9 52)]] (bm [0,0,2,0,8,24,63,0,255])) (.seq (.pre [.fzC 7 39] (.reg 54 [m 13 (.op (.call 79 [(.t 0),W9,(.c (.emp))]) [(la 41 (d 7))]),p 14 (ex 0 (d 13)),p 15 (ex 1 (d 13)),s 41 (d 7) (d 14),m 8 (d 15)])) (.seq (.reg 59 [p 16 (la 41 (d 7)),p 17 (bk .eql 0 (v 8)),s 41 (d 2) (d 16),m 3 (d 17)]) .ret)))))))))⟩
def g46:FT:=⟨1,30,[.tmp 1],[0,2,3,5,9,11,12,13,14],true,(.seq a5c (.seq Nd (.seq (.reg 6 [m 0 (Am 94 (v 0))]) (.seq (.reg 8 [p 4 (Am 95 (v 0))]) (.seq (.seq (.reg 10 [p 5 (Am 96 (v 0)),p 6 (ln (d 5)),z 7 0]) (.block 0 (.loop [2,5,6,7] [] (.seq (.reg 0 [p 8 (b2 .lss (d 7) (d 6))]) (.seq (.ifv 8 .skip W7) (.seq (.block 1 (.seq (.reg 15 [m 3 (ld (ia 1 (d 5) (d 7)))]) (.ifc 17 [] (.and (bk .geq 0 (v 3)) (bk .lss 1073741824 (v 3))) (.reg 23 [m 2 (B1 97 (v 2) (.op (.build Ii [(0,1,(.t 0)),(1,1,(.t 1))]) [(v 3),Lg]))]) .skip))) (.reg 29 [m 7 (bk .add 1 (d 7))]))))))) (.seq (.reg 30 [m 1 (v 2)]) .ret))))))⟩
def g47:FT:=⟨1,8,[.tmp 1],[0,2],true,W46⟩
def g48:FT:=⟨1,8,[.tmp 1],[0,2],true,W90⟩
def g49:FT:=⟨1,27,[.tmp 1],[0,2,3,5],true,(.seq Ol (.seq (.reg 4 [p 3 (Am 98 (v 0)),p 2 Vh,s 4 (d 2) (d 3)]) (.seq (.reg 6 [m 0 (bs .add (v 0) (.op (.call 50 [(.c (.str [52,52,52,52])),(.t 0)]) [(.op (.bslice 1 4 Z5 [(0,(.t 0)),(1,(.t 1)),(2,(.t 2)),(3,(.t 3))]) [(cv .i64 (ld (.op (.iaddra 4 1 (.t 0) Me) [(d 2)]))),(cv .i64 (ld (.op (.iaddra 4 1 (.t 0) Mf) [(d 2)]))),(cv .i64 (ld (.op (.iaddra 4 1 (.t 0) Ik) [(d 2)]))),(cv .i64 (ld (.op (.iaddra 4 1 (.t 0) Kh) [(d 2)])))])]))]) (.seq (.reg 22 [m 1 (bs .add (v 0) (Am 61 (.op am8 [(ls (v 0))])))]) .ret))))⟩
def g50:FT:=⟨2,48,[.tmp 2],[0,1,4,5,6,7,8],true,(.seq W4 (.seq (.ifc 9 [] (b2 .neq (ls (v 0)) Nh) Ho .skip) (.seq (.reg 0 [y 3 (.str [])]) (.seq (.seq Oj (.block 0 (.loop [0,1,3,4] [] (.seq (.ifc 14 [] (b2 .lss (v 4) (ls (v 0))) .skip W7) (.seq (.block 1 (.seq (.reg 20 [m 5 (bk .sub 48 (cv .i64 (ix (v 0) (v 4))))]) (.seq (.ifc 25 [] (.or (bk .lss 1 (v 5)) (bk .gtr 4 (v 5))) Ho .skip) (.seq (.reg 31 [m 6 (bk .sub 1 (v 5))]) (.block 2 (.loop [0,1,3,4,6] [] (.seq (.ifc 33 [] (bk .geq 0 (v 6)) .skip J5) (.seq (.block 3 (.reg 37 [m 3 (bs .add (v 3) (.op Pm [(.op (.bslice 1 1 T3 [(0,(.t 0))]) [(cv .u8 (b2 .shr (ld (ia 1 (v 1) (v 4))) (.op a5g [(v 6)])))])]))])) (.reg 35 [m 6 (bk .sub 1 (v 6))]))))))))) (.reg 18 [m 4 Mc])))))) (.seq (.reg 49 [m 2 (v 3)]) .ret)))))⟩
def g51:FT:=⟨1,42,[.tmp 1],[0,2,3,4,5,19,20,26],false,(.seq Ol (.seq (.reg 6 [m 2 (.op (.mksl 1 1 T3 Ta Ta) [])]) (.seq (.reg 7 [m 3 (.op (.call 18 [(.t 0),(.c (.int .i64 9))]) [(v 0)])]) (.seq (.seq Oj (.block 0 (.loop [2,3,4] [] (.seq (.ifc 9 [] (.and (b2 .lss (v 4) (ln (v 2))) (bk .neq 8 (v 3))) .skip W7) (.seq (.block 1 (.reg 21 [m 5 (d 2),m 6 (d 4),p 7 (cv .u8 (bk .add 1 (b2 .add (v 3) (bk .rem 3 (v 4))))),s 1 (ia 1 (d 5) (d 6)) (d 7)])) (.reg 17 [m 4 Mc])))))) (.seq (.ifc 28 [] (bk .eql 7 (v 3)) (.seq (.reg 30 [m 1 (.op Pm [(.op (.slicel 1 (.t 0) (some Mf) none) [(v 2)])])]) .ret) .skip) (.seq (.ifc 33 [] (bk .eql 6 (v 3)) (.seq (.rawE [[(0,I0 35 3),(1,I1 36 (.slicel 1 (.t 35) none (some (KI 16)))),(2,I1 37 (.convbs (.t 36))),(3,I1 38 (.mksl 1 1 T3 (KI 16) (KI 16))),(4,I1 39 (.convbs (.t 38)))],[(5,I1 40 (.bins .add (.t 37) (.t 39)))],[(6,I0 2 40)]] (bm [0,1,3,0,8,31,63])) .ret) .skip) (.seq (.reg 41 [m 1 (.op Pm [(v 2)])]) .ret)))))))⟩
def Uu:FT:=⟨3,70,[.cell 3 true 6],[0,1,2,6,7,8,9],false,(.seq (.reg 0 [p 3 Ij]) (.seq (.reg 10 [m 4 W71]) (.seq (.ifc 12 [] (.or (bk .eql 11 (v 4)) (bk .eql 0 (ln Re))) (.seq (.reg 22 [s 6 (d 3) Nf]) .ret) .skip) (.seq (.ifc 23 [] (bk .eql 10 (v 4)) (.seq (.rawE [[(0,I0 25 0),(1,I1 26 (.nilchk (.t 25))),(2,I6 27 1 26),(3,I7 28 27),(4,I0 29 1),(5,I0 30 0),(6,I1 31 (.nilchk (.t 30))),(7,I6 32 1 31),(8,I7 33 32),(9,I1 34 (.len false (.t 33))),(10,I1 35 (.call 18 [(.t 29),(.t 34)]))],[(11,I1 36 (.iaddr 6 (.t 28) (.t 35)))],[(12,I1 37 (.load true 6 (.t 36)))],[(13,I9 6 6 37)]] (bm [0,1,3,7,0,0,32,96,224,480,1008,2047,4095,8191])) .ret) .skip) (.seq (.reg 38 [m 5 (bk .quo 3 (.op (.call 18 [(.t 0),T9]) [(v 1)]))]) (.seq (.seq (.reg 41 [m 6 (bk .sub 1 (ln Re))]) (.block 0 (.loop [0,2,3,5,6] [] (.seq (.ifc 47 [] (bk .geq 0 (v 6)) .skip W7) (.seq (.block 1 (.ifc 51 [] (b2 .eql (ld (fa 0 (ia 3 Re (v 6)))) (v 2)) (.seq (.ifc 61 [] (bk .eql 0 (v 5)) (.seq (.reg 63 [s 6 (d 3) (la 6 (ia 6 (ld (fa 1 W3)) (v 6)))]) .ret) .skip) (.reg 70 [m 5 (bk .sub 1 (v 5))])) .skip)) (.reg 49 [m 6 (bk .sub 1 (v 6))])))))) (.seq (.reg 72 [s 6 (d 3) Nf]) .ret)))))))⟩
def g53:FT:=⟨3,65,[.tmp 4],[0,1,2,3,6],true,(.seq (.reg 0 [p 3 W0,y 4 (.str [])]) (.seq (.ifc 7 [] (.or (.or (.or (.or (.or (.or (.or (.and (bk .neq 1 Kg) (bk .neq 2 Kg)) (bk .lss 0 Lh)) (bk .geq 8 Lh)) (bk .gtr 8 (ls R5))) Zc) (bk .gtr 128 (v 1))) (bk .neq 4 (ln (v 2)))) (no (Am 99 (v 2)))) am4 .skip) (.seq (.rawE [[(0,I6 49 0 3),(1,I7 50 49),(2,I6 51 1 3),(3,I7 52 51),(4,I6 53 2 3),(5,I7 54 53),(6,I1 55 (.len true (.t 54))),(7,I1 56 (.bslice 1 3 Z5 [(0,(.t 50)),(1,(.t 52)),(2,(.t 55))])),(9,I6 58 2 3),(10,I7 59 58),(12,I0 61 1),(13,I1 62 (.bslice 1 1 Z5 [(0,(.t 61))])),(16,I0 65 2),(8,I1 57 (.call 50 [(.c (.str [49,49,49])),(.t 56)])),(11,I1 60 (.bins .add (.t 57) (.t 59))),(14,I1 63 (.call 50 [(.c (.str [50])),(.t 62)])),(15,I1 64 (.bins .add (.t 60) (.t 63))),(17,I1 66 (.call 63 [(.t 65)]))],[(18,I1 67 (.bins .add (.t 64) (.t 66)))],[(19,I0 6 67)]] (bm [0,1,0,4,0,16,48,127,255,0,512,2047,0,4096,12799,32767,0,94719,262143,524287])) .ret)))⟩
def Xj:FT:=⟨1,12,[.tmp 1],[0,2],true,(.seq Ol (.seq (.ifc 3 [] (.or (bk .neq 8 Dt) (no (Am 99 (v 0)))) (.seq Ol .ret) .skip) (.seq (.reg 11 [m 1 (Am 63 (v 0))]) .ret)))⟩
def Ut:FT:=⟨2,113,[.tmp 2],[0,1,4,5,6,7,36,94],true,(.seq W4 (.seq (.ifc 8 [] (.or (.or (bk .gtr 8 Dt) (b2 .neq Nh Dt)) (no (Am 99 (v 1)))) Ho .skip) (.seq (.reg 23 [m 3 (.op (.call 50 [(.c (.str [49])),(.t 0)]) [(.op R9 [Dt])])]) (.seq (.seq Oj (.block 0 (.loop [0,1,3,4] [] (.seq (.ifc 27 [] (b2 .lss (v 4) Dt) .skip W7) (.seq (.block 1 (.seq (.reg 33 [p 6 (la 5 R6),p 5 Tb,s 5 (d 5) (d 6)]) (.seq (.seq (.rawE [[(0,I6 37 0 7)],[(1,I7 38 37)],[(2,I1 39 (.bini .lss (.t 38) (KI 1)))],[(3,I0 40 39)],[(4,I3 41 40 (.faddr 0 (.t 7)))],[(5,I3 42 40 (.load false 1 (.t 41)))],[(6,I3 43 40 (.call 36 [(.t 42)]))],[(7,I3 44 40 (.un .not (.t 43)))],[(8,I1 45 (.pick (.t 40) W9 (.t 44)))],[(9,I0 46 45)],[(10,I5 47 46 6)],[(11,I3 48 46 (.bini .gtr (.t 47) (KI 0)))],[(12,I5 49 46 48)],[(13,I4 50 49 0),(14,I4 51 49 6),(15,I2 52 49 (.bini .sub (.t 51) (KI 1))),(16,I2 53 49 (.iaddr 5 (.t 50) (.t 52))),(17,I2 54 49 (.faddr 0 (.t 53))),(18,I2 55 49 (.load false 1 (.t 54))),(19,I2 56 49 (.faddr 0 (.t 7))),(20,I2 57 49 (.load false 1 (.t 56)))],[(21,I2 58 49 (.bini .geq (.t 55) (.t 57)))],[(22,I3 59 46 (.pick (.t 49) (.t 58) T8))],[(23,I1 60 (.pick (.t 46) W9 (.t 59)))],[(24,I0 61 60)],[(25,I3 62 61 (.faddr 1 (.t 7)))],[(26,I3 63 61 (.load false 1 (.t 62)))],[(27,I3 64 61 (.bini .neq (.t 63) (KI 1)))],[(28,I5 65 61 64)],[(29,I2 66 65 (.faddr 1 (.t 7)))],[(30,I2 67 65 (.load false 1 (.t 66)))],[(31,I2 68 65 (.bini .neq (.t 67) (KI 2)))],[(32,I3 69 61 (.pick (.t 65) (.t 68) T8))],[(33,I1 70 (.pick (.t 61) W9 (.t 69)))],[(34,I0 71 70)],[(35,I3 72 71 (.faddr 2 (.t 7)))],[(36,I3 73 71 (.load false 1 (.t 72)))],[(37,I3 74 71 (.call 36 [(.t 73)]))],[(38,I3 75 71 (.un .not (.t 74)))],[(39,I1 76 (.pick (.t 71) W9 (.t 75)))],[(40,I0 77 76)],[(41,I3 78 77 (.faddr 3 (.t 7)))],[(42,I3 79 77 (.load false 1 (.t 78)))],[(43,I3 80 77 (.bini .lss (.t 79) (KI 0)))],[(44,I1 81 (.pick (.t 77) W9 (.t 80)))],[(45,I0 82 81)],[(46,I3 83 82 (.faddr 3 (.t 7)))],[(47,I3 84 82 (.load false 1 (.t 83)))],[(48,I3 85 82 (.bini .gtr (.t 84) (KI 255)))],[(49,I1 86 (.pick (.t 82) W9 (.t 85)))],[(50,I0 87 86)],[(51,I5 88 87 1),(52,I5 89 87 6)],[(53,I3 90 87 (.iaddr 6 (.t 88) (.t 89)))],[(54,I3 91 87 (.faddr 0 (.t 90)))],[(55,I3 92 87 (.load false 1 (.t 91)))],[(56,I3 93 87 (.bini .eql (.t 92) (KI 0)))],[(57,I1 94 (.pick (.t 87) W9 (.t 93)))]] (bm [0,1,3,7,15,31,63,127,255,511,1023,2047,4095,8191,8191,24575,65535,131071,262143,8191,532479,2097151,4194303,8388607,16777215,33554431,67108863,134217727,268435455,536870911,1073741823,2147483647,4294967295,8589934591,17179869183,34359738367,68719476735,137438953471,274877906943,549755813887,1099511627775,2199023255551,4398046511103,8796093022207,17592186044415,35184372088831,70368744177663,140737488355327,281474976710655,562949953421311,1125899906842623,2251799813685247,2251799813685247,9007199254740991,18014398509481983,36028797018963967,72057594037927935,144115188075855871])) (.ifv 7 Ho .skip)) (.rawE [[(0,I0 95 5),(1,I6 96 0 7),(2,I7 97 96),(3,I6 98 1 7),(4,I7 99 98),(5,I6 100 2 7),(6,I7 101 100),(7,I6 102 3 7),(8,I7 103 102),(9,I1 104 (.bslice 1 4 Z5 [(0,(.t 97)),(1,(.t 99)),(2,(.t 101)),(3,(.t 103))])),(12,I0 107 1),(13,I0 108 6),(14,I0 109 6),(15,I1 110 (.bini .add (.t 109) (KI 1))),(16,I1 111 (.slicel 6 (.t 107) (some (.t 108)) (some (.t 110)))),(10,I1 105 (.call 50 [(.c (.str [50,49,50,49])),(.t 104)])),(11,I1 106 (.bins .add (.t 95) (.t 105))),(17,I1 112 (.call 63 [(.t 111)]))],[(18,I1 113 (.bins .add (.t 106) (.t 112)))],[(19,I0 5 113)]] (bm [0,0,2,0,8,0,32,0,128,510,1022,2047,0,0,0,16384,61440,129022,262143,524287]))))) (.reg 31 [m 4 Mc])))))) (.seq (.reg 114 [m 2 (v 3)]) .ret)))))⟩
def g56:FT:=⟨2,26,[.tmp 3],[0,1,3,4],true,(.seq (.reg 0 [p 2 W5,y 3 (.str [])]) (.seq (.ifc 5 [] (no (B1 100 (v 0) (la 4 (d 2)))) (.seq (.reg 0 [y 3 (.str [])]) .ret) .skip) (.seq (.rawE [[(0,I0 9 0),(1,I6 10 0 3),(2,I7 11 10),(4,I0 13 0),(5,I6 14 1 3),(6,I7 15 14),(9,I0 18 0),(10,I6 19 2 3),(11,I7 20 19),(14,I0 23 0),(15,I6 24 3 3),(16,I7 25 24),(3,I1 12 (.call 101 [(.t 9),(.t 11)])),(7,I1 16 (.call 101 [(.t 13),(.t 15)])),(8,I1 17 (.bins .add (.t 12) (.t 16))),(12,I1 21 (.call 101 [(.t 18),(.t 20)])),(13,I1 22 (.bins .add (.t 17) (.t 21))),(17,I1 26 (.call 101 [(.t 23),(.t 25)]))],[(18,I1 27 (.bins .add (.t 22) (.t 26)))],[(19,I0 4 27)]] (bm [0,0,2,7,0,0,32,127,255,0,0,1024,3839,8191,0,0,32768,122623,262143,524287])) .ret)))⟩
def g57:FT:=⟨2,40,[.tmp 2],[0,1,4,5,6,7,8,26],false,(.seq Nd (.seq Vj (.seq (.reg 9 [m 4 (.op Pr [(.op (.call 18 [(.t 0),T9]) [(v 0)])])]) (.seq (.seq (.reg 12 [m 5 (B1 18 (v 0) (bk .add 1 (v 1)))]) (.block 0 (.loop [0,3,4,5] [(3,2)] (.seq (.ifc 16 [] (bk .gtr 0 (v 5)) .skip W7) (.seq (.block 1 (.seq (.reg 20 [p 7 (.op (.build Ii [(0,1,(.t 0)),(1,1,(.t 1))]) [(v 4),(b2 .add Mc (.op (.call 18 [(.t 0),Md]) [(v 0)]))]),p 6 (.op (.alloc Ii) []),s 2 (d 6) (d 7)]) (.seq (.ifc 27 [] (bk .gtr 54 (ld (fa 1 (d 6)))) (.seq (.reg 30 [m 2 (v 3)]) .ret) .skip) (.seq (.reg 31 [m 3 (.op (.append 2 16 Ii (.t 0) (.t 1)) [(v 3),(.op W95 [(la 2 (d 6))])])]) (.rawE [[(0,I6 35 1 8),(1,I7 36 35),(2,I1 37 (.bini .add (.t 36) (KI 1))),(3,I0 38 0),(4,I1 39 (.call 18 [(.t 38),(KI 6)]))],[(5,I1 40 (.bini .add (.t 37) (.t 39)))],[(6,I0 6 40)]] (bm [0,1,3,0,8,31,63])))))) (.reg 18 [m 5 (bk .sub 1 (v 5))])))))) (.seq (.reg 41 [m 2 (v 3)]) .ret)))))⟩
def g58:FT:=⟨1,62,[.tmp 2],[0,1,2],true,(.seq Td (.seq (.ifc 3 [] (.or (.or (.or (.or (.or (bk .lss 1 (ld W6)) (no (Am 76 (ld W6)))) (no (Am 76 Ok))) (no (Am 76 T6))) (no (Am 76 (ld (fa 21 (d 1)))))) (no (Am 99 W60))) Ho .skip) (.seq (.rawE [[(0,I6 41 0 1),(1,I7 42 41),(2,I6 43 1 1),(3,I7 44 43),(4,I6 45 2 1),(5,I7 46 45),(6,I1 47 (.bslice 1 3 Z5 [(0,(.t 42)),(1,(.t 44)),(2,(.t 46))])),(8,I6 49 3 1),(9,I1 50 (.load true 6 (.t 49))),(10,I6 51 9 1),(11,I1 52 (.load true 6 (.t 51))),(12,I6 53 15 1),(13,I1 54 (.load true 6 (.t 53))),(14,I1 55 (.bslice 6 3 Z3 [(0,(.t 50)),(1,(.t 52)),(2,(.t 54))])),(17,I6 58 21 1),(18,I7 59 58),(19,I1 60 (.bslice 1 1 Z5 [(0,(.t 59))])),(7,I1 48 (.call 50 [(.c (.str [52,52,52])),(.t 47)])),(15,I1 56 (.call 63 [(.t 55)])),(16,I1 57 (.bins .add (.t 48) (.t 56))),(20,I1 61 (.call 50 [(.c (.str [52])),(.t 60)]))],[(21,I1 62 (.bins .add (.t 57) (.t 61)))],[(22,I0 2 62)]] (bm [0,1,0,4,0,16,63,127,0,256,0,1024,0,4096,16128,32767,65535,0,131072,393216,983039,2097151,4194303])) .ret)))⟩
def g59:FT:=⟨3,9,[.cell 3 true 6],[0,1,2,6],true,(.seq (.reg 0 [p 3 Ij]) (.seq (.reg 7 [s 6 (d 3) (.op (.build Z3 [(0,1,(.t 0)),(1,1,(.t 1)),(2,4,(.t 2))]) [(v 0),(v 2),(Am 98 (v 1))])]) .ret))⟩
def g60:FT:=⟨1,26,[.tmp 2],[0,1,2],true,(.seq Pq (.seq (.reg 3 [m 2 (.and (.and (.and (.and (bk .geq 1 (ld W6)) (bk .leq 6 (ld W6))) (bk .geq 1 Ok)) (Am 48 Ok)) (bk .leq 249 (ls T6)))]) .ret))⟩
def g61:FT:=⟨1,6,[.tmp 1],[0,2,4],true,(.seq Ol (.seq (.reg 3 [p 2 (.op (.max2 (.t 0) Me) [(v 0)]),m 1 (.op Pm [(.op a5l [(d 2),(d 2)])])]) .ret))⟩
def g62:FT:=⟨1,36,[.tmp 2],[0,1,2],true,(.seq Pq (.seq (.reg 3 [m 2 (.and (.and (.and (.and (.and (.and (bk .geq 1 (ld W6)) (Am 48 (ld W6))) (Am 48 Ok)) (bk .geq 0 T6)) (bk .lss 6 T6)) (Am 102 (la 6 (fa 3 (d 1))))) (bk .gtr 0 (ld (fa 0 (fa 3 (d 1))))))]) .ret))⟩
def g63:FT:=⟨1,46,[.tmp 1],[0,2,3,4,5,21],true,(.seq Ol (.seq W4 (.seq (.seq Lf (.block 0 (.loop [0,2,3] [] (.seq a5i (.seq (.block 1 (.seq (.ifc 12 [] (no (Am 102 a5j)) (.seq Ol .ret) .skip) (.seq (.reg 18 [p 5 a5j,p 4 Ij,s 6 (d 4) (d 5)]) (.reg 22 [m 2 (bs .add (v 2) (.op (.call 50 [al9,(.t 0)]) [(.op (.bslice 1 6 Z5 [(0,(.t 0)),(1,(.t 1)),(2,(.t 2)),(3,(.t 3)),(4,(.t 4)),(5,(.t 5))]) [Yy,Zd,(cv .i64 (ld (.op (.iaddra 4 1 (.t 0) Me) [(fa 2 (d 4))]))),(cv .i64 (ld (.op (.iaddra 4 1 (.t 0) Mf) [(fa 2 (d 4))]))),(cv .i64 (ld (.op (.iaddra 4 1 (.t 0) Ik) [(fa 2 (d 4))]))),(cv .i64 (ld (.op (.iaddra 4 1 (.t 0) Kh) [(fa 2 (d 4))])))])]))])))) (.reg 10 [m 3 Lg])))))) (.seq (.reg 46 [m 1 (v 2)]) .ret))))⟩
def g64:FT:=⟨2,92,[.tmp 3],[0,1,2,4,5,6,7,8,24],true,(.seq (.reg 0 [p 2 W0,y 3 (.emp)]) (.seq (.reg 9 [m 4 (.op (.append 1 16 [.str []] (.t 0) (.t 1)) [(.op (.bslice 1 0 [.str []] []) []),(ld Ft)])]) (.seq (.seq R4 (.block 0 (.loop [1,2,4,5] [] (.seq (.ifc 13 [] (b2 .lss (v 5) (ln T5)) .skip W7) (.seq (.block 1 (.seq (.reg 20 [p 8 (la 2 (ia 2 T5 (v 5))),p 6 (.op (.alloc Z4) []),s 2 (d 6) (d 8)]) (.seq (.ifc 25 [] (.or (.or (.or (bk .lss 0 (ld Ra)) (b2 .geq (ld Ra) (ln (v 4)))) (bk .neq 256 (ls (ld (fa 1 (d 6)))))) (bk .neq 256 (ls (ld (ia 1 (v 4) (ld Ra)))))) (.exit 1) .skip) (.seq (.reg 0 [z 7 0]) (.seq (.ifc 50 [] (b2 .lss (v 5) Nh) (.reg 54 [m 7 (bk .and 3 (ld (ia 1 (v 1) (v 5))))]) .skip) (.seq (.ifc 59 [] (bk .eql 1 (bk .and 1 (v 7))) (.rawE [[(0,I0 62 5),(1,I6 63 0 7),(2,I7 64 63),(3,I6 65 1 7),(4,I7 66 65),(5,I1 67 (.slices (.t 66) none (some (KI 128)))),(6,I0 68 5),(7,I6 69 0 7),(8,I7 70 69),(9,I1 71 (.iaddr 1 (.t 68) (.t 70))),(10,I7 72 71),(11,I1 73 (.slices (.t 72) (some (KI 128)) none)),(12,I1 74 (.bins .add (.t 67) (.t 73)))],[(13,I1 75 (.iaddr 1 (.t 62) (.t 64)))],[(14,I9 1 75 74)]] (bm [0,0,2,0,8,24,0,0,128,448,960,1984,4088,8191,16383])) .skip) (.ifc 76 [] (bk .eql 2 (bk .and 2 (v 7))) (.rawE [[(0,I0 79 5),(1,I6 80 0 7),(2,I7 81 80),(3,I0 82 5),(4,I6 83 0 7),(5,I7 84 83),(6,I1 85 (.iaddr 1 (.t 82) (.t 84))),(7,I7 86 85),(8,I1 87 (.slices (.t 86) none (some (KI 128)))),(9,I6 88 1 7),(10,I7 89 88),(11,I1 90 (.slices (.t 89) (some (KI 128)) none)),(12,I1 91 (.bins .add (.t 87) (.t 90)))],[(13,I1 92 (.iaddr 1 (.t 79) (.t 81)))],[(14,I9 1 92 91)]] (bm [0,0,2,0,0,16,56,120,248,0,512,1536,4088,8191,16383])) .skip))))))) (.reg 18 [m 5 T7])))))) (.seq (.reg 93 [m 3 (v 4)]) .ret))))⟩
def Si:FT:=⟨1,65,[.cell 1 true 22,.tmp 2],[0,2,3,4,5,6,7,8,9,10,11,14,15,16,20,23,24,25,29,32,33,34],true,(.seq (.reg 0 [p 1 (.op (.alloc R1) []),y 2 (.bool false)]) (.seq (.reg 12 [m 10 (.op (.call 103 [(.c (.str [52,52,52])),(.t 0)]) [(v 0)]),p 11 Th,p 12 Tg,p 13 (ex 2 (d 10)),m 3 (d 11),m 4 (d 12),m 5 (d 13)]) (.seq (.ifc 17 [] (no (v 5)) (.seq (.reg 19 [s 22 (d 1) a5h,y 2 (.bool false)]) .ret) .skip) (.seq (.reg 21 [m 14 (.op (.call 104 [(.t 0),Kh]) [(v 4)]),p 15 (ex 0 (d 14)),p 16 (ex 1 (d 14)),p 17 (ex 2 (d 14)),m 6 (d 15),m 4 (d 16),m 5 (d 17)]) (.seq (.ifc 26 [] (no (v 5)) (.seq (.reg 28 [s 22 (d 1) a5h,y 2 (.bool false)]) .ret) .skip) (.seq (.reg 30 [m 18 (.op (.call 103 [(.c (.str [52])),(.t 0)]) [(v 4)]),p 19 (ex 0 (d 18)),p 20 (ex 1 (d 18)),p 21 (ex 2 (d 18)),m 7 (d 19),m 8 (d 20),m 5 (d 21)]) (.seq (.ifc 35 [] (no (v 5)) (.seq (.reg 37 [s 22 (d 1) a5h,y 2 (.bool false)]) .ret) .skip) (.seq (.rawE [[(0,I0 38 4),(1,I1 39 (.iaddr 1 (.t 38) (KI 0))),(2,I7 40 39),(3,I0 41 4),(4,I1 42 (.iaddr 1 (.t 41) (KI 1))),(5,I7 43 42),(6,I0 44 4),(7,I1 45 (.iaddr 1 (.t 44) (KI 2))),(8,I7 46 45),(9,I0 47 7),(10,I1 48 (.iaddr 6 (.t 47) (KI 0))),(11,I1 49 (.load true 6 (.t 48))),(12,I0 50 7),(13,I1 51 (.iaddr 6 (.t 50) (KI 1))),(14,I1 52 (.load true 6 (.t 51))),(15,I0 53 7),(16,I1 54 (.iaddr 6 (.t 53) (KI 2))),(17,I1 55 (.load true 6 (.t 54))),(18,I0 56 8),(19,I1 57 (.iaddr 1 (.t 56) (KI 0))),(20,I7 58 57),(21,I1 59 (.build R1 [(0,1,(.t 40)),(1,1,(.t 43)),(2,1,(.t 46)),(3,6,(.t 49)),(9,6,(.t 52)),(15,6,(.t 55)),(21,1,(.t 58))])),(22,I1 10 (.alloc R1))],[(23,I9 22 10 59)]] (bm [0,1,3,0,8,24,0,64,192,0,512,1536,0,4096,12288,0,32768,98304,0,262144,786432,2097151,0,8388607])) (.seq (.ifc 60 [] (bs .neq (Am 105 (la 22 (d 9))) (v 0)) (.seq (.reg 64 [s 22 (d 1) a5h,y 2 (.bool false)]) .ret) .skip) (.seq (.reg 65 [s 22 (d 1) (la 22 (d 9)),y 2 (.bool true)]) .ret))))))))))⟩
def g66:FT:=⟨1,70,[.tmp 1,.tmp 2,.tmp 3],[0,2,3,4,5,6,7,8,9,10,11,14,15,16,21,22,23,24,27,28,29,32,35,36,37,69,70],false,(.seq Yv (.seq (.reg 12 [m 10 (.op (.call 103 [(.c (.str [49])),(.t 0)]) [(v 0)]),p 11 Th,p 12 Tg,p 13 (ex 2 (d 10)),m 4 (d 11),m 5 (d 12),m 3 (d 13)]) (.seq (.ifc 17 [] (no (v 3)) (.seq Yv .ret) .skip) (.seq (.seq (.reg 19 [p 14 (ld (ik 1 0 (v 4))),z 15 0]) (.block 0 (.loop [0,1,2,5,14,15] [(1,5),(2,6)] (.seq (.reg 0 [p 16 (b2 .lss (d 15) (d 14))]) (.seq (.ifv 16 .skip W7) (.seq (.block 1 (.seq (.reg 25 [m 17 (.op (.call 103 [(.c (.str [50,49,50,49])),(.t 0)]) [(v 5)]),p 18 (ex 0 (d 17)),p 19 (ex 1 (d 17)),p 20 (ex 2 (d 17)),m 6 (d 18),m 7 (d 19),m 8 (d 20)]) (.seq (.ifc 30 [] Mg (.seq Yv .ret) .skip) (.seq (.reg 33 [m 21 (.op (.call 104 [(.t 0),Mf]) [(v 7)]),p 22 (ex 0 (d 21)),p 23 (ex 1 (d 21)),p 24 (ex 2 (d 21)),m 9 (d 22),m 7 (d 23),m 8 (d 24)]) (.seq (.ifc 38 [] Mg (.seq Yv .ret) .skip) (.rawE [[(0,I0 40 2),(1,I0 41 7),(2,I1 42 (.iaddr 1 (.t 41) (KI 0))),(3,I7 43 42),(4,I0 44 7),(5,I1 45 (.iaddr 1 (.t 44) (KI 1))),(6,I7 46 45),(7,I0 47 7),(8,I1 48 (.iaddr 1 (.t 47) (KI 2))),(9,I7 49 48),(10,I0 50 7),(11,I1 51 (.iaddr 1 (.t 50) (KI 3))),(12,I7 52 51),(13,I1 53 (.build Z8 [(0,1,(.t 43)),(1,1,(.t 46)),(2,1,(.t 49)),(3,1,(.t 52))])),(14,I1 54 (.bslice 5 1 Z8 [(0,(.t 53))])),(15,I1 55 (.append 5 56 Z8 (.t 40) (.t 54))),(16,I0 56 3),(17,I0 57 10),(18,I1 58 (.iaddr 6 (.t 57) (KI 0))),(19,I1 59 (.load true 6 (.t 58))),(20,I1 60 (.bslice 6 1 Z3 [(0,(.t 59))])),(21,I1 61 (.append 6 32 Z3 (.t 56) (.t 60))),(22,I0 62 8),(23,I0 2 55),(24,I0 3 61)],[(25,I0 6 62)]] (bm [0,0,2,6,0,16,48,0,128,384,0,1024,3072,8190,16382,32767,0,0,131072,393216,917504,2097151,0,4194303,12582911,33554431]))))))) (.reg 63 [m 15 (bk .add 1 (d 15))]))))))) (.seq (.ifc 64 [] (bs .neq (B1 106 (v 1) (v 2)) (v 0)) (.seq Yv .ret) .skip) (.seq (.reg 0 [m 25 (d 1),m 26 (d 2),m 1 (d 25),m 2 (d 26),y 3 (.bool true)]) .ret))))))⟩
def Xi:FT:=⟨2,55,[.cell 4 true 9],[0,1,2,3,4,5,6,7,8,9,10,11,17,21,22,23,26,27,30,32,34,35,36,37,38,40,49,55],true,(.seq (.reg 0 [p 2 W0,p 3 W5,p 4 (.op (.alloc Z12) [])]) (.seq (.rawE [[(0,I1 12 (.load true 5 (.t 2))),(2,I1 14 (.mksl 6 32 Z3 (KI 8) (KI 8))),(3,I1 15 (.mksl 6 32 Z3 (KI 32) (KI 32))),(5,I1 5 (.alloc Z12)),(1,I1 13 (.call 107 [])),(4,I1 16 (.build Z12 [(0,5,(.t 12)),(5,1,(.t 13)),(6,1,(.t 14)),(7,1,(.t 15))]))],[(6,I9 9 5 16)]] (bm [0,0,0,0,15,0,63])) (.seq (.reg 18 [m 12 (.op (.call 30 [(.t 0),(.t 1),Kh]) [Kf,(la 6 (d 3))]),p 13 (ex 0 (d 12)),p 14 (ex 1 (d 12)),m 6 (d 13),m 7 (d 14)]) (.seq (.reg 24 [m 15 (Am 108 (v 6)),p 16 (ex 0 (d 15)),p 17 (ex 1 (d 15)),m 8 (d 16),m 9 (d 17)]) (.seq (.ifc 28 [] (no (v 9)) (.seq (.reg 0 [p 18 (Am 109 (d 5))]) (.seq (.reg 31 [s 9 (d 4) (la 9 (d 5))]) .ret)) .skip) (.seq (.reg 33 [m 19 (d 8),s 1 (fa 6 (d 5)) (d 19)]) (.seq (.seq (.reg 0 [m 20 (d 8),p 21 (ln (d 20)),z 22 0]) (.block 0 (.loop [4,5,20,21,22] [] (.seq (.reg 0 [p 23 (b2 .lss (d 22) (d 21))]) (.seq (.ifv 23 .skip W7) (.seq (.block 1 (.seq (.reg 39 [m 24 (d 22),p 25 (la 6 (ia 6 (d 20) (d 22))),p 11 Ij,m 10 (d 24),s 6 (d 11) (d 25)]) (.ifc 41 [] (.or (bk .eql 0 (v 10)) (.op W57 [(la 6 (d 11)),Nf])) (.reg 48 [p 26 (B1 110 (d 5) (v 10))]) .skip))) (.reg 50 [m 22 (bk .add 1 (d 22))]))))))) (.seq (.ifc 51 [] (no (Am 111 (ld (fa 5 (d 5))))) (.reg 0 [p 27 (Am 109 (d 5))]) .skip) (.seq (.reg 56 [s 9 (d 4) (la 9 (d 5))]) .ret)))))))))⟩
def L4:FT:=⟨1,71,[.tmp 2],[0,1,2,34,35,58],true,(.seq Pq (.seq (.ifc 3 [] (.or (.or (.or (.or (bk .lss 1 Rc) (bk .gtr 65535 Rc)) (no (Am 112 (ld (fa 4 W6))))) (bk .lss 0 (ld (fa 3 W6)))) (bk .gtr 255 (ld (fa 3 W6)))) J6 .skip) (.seq (.seq (.reg 32 [p 3 (ld (fa 1 W6))]) (.block 0 (.seq (.reg 36 [m 4 (bk .eql 1 (d 3))]) (.ifv 4 (.seq (.reg 37 [m 2 (.or (bk .eql 0 (ld (fa 2 W6))) (.and (.op (.call 113 [(.t 0),(.t 1),Ik]) [(ld (fa 5 (d 1))),(ld (fa 2 W6))]) (no (B1 114 (ld (fa 5 (d 1))) Rc))))]) .ret) (.seq (.reg 59 [m 5 (bk .eql 2 (d 3))]) (.ifv 5 (.seq (.reg 60 [m 2 (.and (bk .eql 0 (ld (fa 3 W6))) (.op (.call 113 [(.t 0),(.t 1),Mf]) [(ld (fa 5 (d 1))),(ld (fa 2 W6))]))]) .ret) .skip)))))) J6)))⟩
def Us:FT:=⟨3,31,[.tmp 5,.tmp 6],[0,1,2,3,4,6,7,8,9,10,14,19,20,22],true,(.seq b2o (.seq (.ifc 11 [] (bk .lss 14 Yy) W69 .skip) (.seq (.reg 15 [m 10 (B1 115 (la 5 (d 3)) Yy),p 11 Th,p 12 Tg,m 7 (d 11),m 8 (d 12)]) (.seq (.seq (.reg 21 [p 13 (Am 116 (v 7)),p 9 (.op (.alloc Ym) []),s 4 (d 9) (d 13)]) (.ifc 23 [] (.and (v 8) (Sy 117 (la 4 (d 9)) (la 6 (d 4)) (v 2))) (.seq (.reg 30 [m 5 (ld (fa 2 (fa 0 (fa 0 (d 9))))),y 6 (.bool true)]) .ret) .skip)) W69))))⟩
def Xh:FT:=⟨2,47,[.tmp 2,.tmp 3,.tmp 4],[0,1,4,5,6,7,8,21,22,23],true,(.seq Tf (.seq (.ifc 9 [] (.or (no (Am 118 (v 0))) (b2 .lss (ls (v 1)) (Am 119 (v 0)))) (.seq Tf .ret) .skip) (.seq a5d (.seq (.seq (.reg 19 [p 7 (.op a5g [(Am 119 (v 0))]),z 8 0]) (.block 0 (.loop [0,1,5,7,8] [(5,1)] (.seq Yt (.seq Yx (.seq (.block 1 (.seq (.reg 24 [m 6 (v 8)]) (.seq (.ifc 25 [] (.op (.bini .eql (.t 0) (.c (.int .u8 0))) [(.op (.bini .and (.t 0) (.c (.int .u8 1))) [(b2 .shr (ix (v 1) (bk .quo 8 (v 6))) (bk .rem 8 (v 6)))])]) (.exit 1) .skip) (.seq (.ifc 34 [] (b2 .geq (v 6) (v 0)) (.seq Tf .ret) .skip) (.reg 37 [m 5 (.op Tc [(v 5),(.op R9 [(.op Pr [(v 6)])])])]))))) (.reg 42 [m 8 Yw]))))))) (.seq (.rawE [[(0,I0 43 7),(2,I0 45 1),(3,I0 46 0),(1,I1 44 (.call 46 [(.t 43)])),(4,I1 47 (.call 119 [(.t 46)])),(5,I1 48 (.slices (.t 45) (some (.t 47)) none)),(6,I0 4 44)],[(7,I0 5 48)],[(8,I1 6 (.mv W9))]] (bm [0,1,0,0,11,31,27,127,255])) .ret)))))⟩
def g71:FT:=⟨2,26,[.tmp 3],[0,1,3,4],true,(.seq (.reg 0 [p 2 W5,y 3 (.str [])]) (.seq (.ifc 5 [] (no (B1 120 (v 0) (la 4 (d 2)))) (.seq (.reg 0 [y 3 (.str [])]) .ret) .skip) (.seq (.rawE [[(0,I0 9 0),(1,I6 10 0 3),(2,I7 11 10),(4,I0 13 0),(5,I6 14 1 3),(6,I7 15 14),(9,I0 18 0),(10,I6 19 2 3),(11,I7 20 19),(14,I0 23 0),(15,I6 24 3 3),(16,I7 25 24),(3,I1 12 (.call 121 [(.t 9),(.t 11)])),(7,I1 16 (.call 121 [(.t 13),(.t 15)])),(8,I1 17 (.bins .add (.t 12) (.t 16))),(12,I1 21 (.call 121 [(.t 18),(.t 20)])),(13,I1 22 (.bins .add (.t 17) (.t 21))),(17,I1 26 (.call 121 [(.t 23),(.t 25)]))],[(18,I1 27 (.bins .add (.t 22) (.t 26)))],[(19,I0 4 27)]] (bm [0,0,2,7,0,0,32,127,255,0,0,1024,3839,8191,0,0,32768,122623,262143,524287])) .ret)))⟩
def g72:FT:=⟨2,24,[.tmp 2],[0,1,4,5],true,(.seq W2 (.seq W86 (.seq (.seq Lf (.block 0 (.loop [0,1,3] [] (.seq (.ifc 11 [] R7 .skip W7) (.seq (.block 1 (.ifd 17 [] (.op (.eqs true [.i,.i] (.t 0) (.t 1)) [(la 2 Vo),(la 2 (ia 2 (v 1) (v 3)))]) J6 .skip)) (.reg 15 [m 3 Lg])))))) Te)))⟩
def g73:FT:=⟨2,24,[.tmp 2],[0,1,4,5],true,(.seq W2 (.seq W86 (.seq (.seq Lf (.block 0 (.loop [0,1,3] [] (.seq (.ifc 11 [] R7 .skip W7) (.seq (.block 1 (.ifd 17 [] (.op Vl [(la 5 (ia 5 (v 0) (v 3))),(la 5 (ia 5 (v 1) (v 3)))]) J6 .skip)) (.reg 15 [m 3 Lg])))))) Te)))⟩
def g74:FT:=⟨1,8,[.tmp 1],[0,2],true,(.seq W1 (.seq (.reg 3 [m 1 (.or (Am 122 (v 0)) (Am 123 (v 0)))]) .ret))⟩
def g75:FT:=⟨2,18,[.tmp 2],[0,1,4,5],true,(.seq Jv (.seq (.seq Lf (.block 0 (.loop [0,1,3] [] (.seq a5i (.seq (.block 1 (.ifc 12 [] (b2 .eql (ld (fa 0 (ia 5 (v 0) (v 3)))) (v 1)) (.seq (.reg 19 [m 2 (v 3)]) .ret) .skip)) (.reg 10 [m 3 Lg])))))) Yu))⟩
def g76:FT:=⟨1,8,[.tmp 1],[0,2],true,W90⟩
def g77:FT:=⟨2,18,[.cell 3 true 5,.tmp 4],[0,1,2,4,5,6,7,11,12,17,18,19],true,(.seq (.reg 0 [p 2 W0,p 3 Nc,y 4 (.bool false)]) (.seq (.reg 8 [m 6 (B1 24 Kf (v 1)),p 7 (ex 0 (d 6)),p 8 (ex 1 (d 6)),s 5 (d 2) (d 7),m 5 (d 8)]) (.seq (.ifc 13 [] (no (v 5)) (.seq (.reg 15 [s 5 (d 3) Kf,y 4 (.bool false)]) .ret) .skip) (.seq (.reg 16 [p 9 (Am 26 Kf),p 10 (ex 0 (d 9)),p 11 (ex 1 (d 9)),s 5 (d 3) (d 10),m 4 (d 11)]) .ret))))⟩
def g78:FT:=⟨0,7,[.tmp 0],[0,1],true,W34⟩
def g79:FT:=⟨3,196,[.cell 4 true 41,.tmp 5],[0,1,2,3,6,7,8,9,10,11,12,13,14,15,16,17,18,19,20,24,29,33,39,47,66,81,83,99,153,154,159,160,169,183],true,(.seq (.reg 0 [p 3 W0,p 4 Vg,z 5 0]) (.seq (.reg 21 [m 6 (Am 124 (la 5 (fa 0 (d 3))))]) (.seq (.block 0 (.seq (.reg 25 [m 19 (ld (fa 4 (fa 0 (d 3))))]) (.ifv 19 (.seq (.reg 28 [s 41 (d 4) Rb,z 5 13]) .ret) (.seq (.reg 30 [m 20 (ld (fa 40 (d 3)))]) (.ifv 20 (.seq (.reg 32 [s 41 (d 4) Rb,z 5 11]) .ret) (.seq (.reg 34 [m 21 (no (Am 11 (ld (fa 39 (d 3)))))]) (.ifv 21 (.seq (.reg 38 [s 41 (d 4) Rb,z 5 1]) .ret) (.seq (.reg 40 [m 22 (bk .geq 1073741824 (ld (fa 38 (d 3))))]) (.ifv 22 (.seq (.reg 43 [s 41 (d 4) Rb,z 5 8]) .ret) .skip))))))))) (.seq (.reg 44 [m 7 (bk .add 1 (ld (fa 38 (d 3))))]) (.seq (.rawE [[(0,I0 48 9),(1,I0 49 8),(2,I6 50 33 3),(3,I1 51 (.load true 4 (.t 50))),(5,I6 53 39 3),(6,I7 54 53),(7,I0 55 2),(12,I1 10 (.alloc Z19)),(4,I1 52 (.call 126 [(.t 49),(.t 51)])),(8,I1 56 (.call 125 [(.t 48),(.t 52),(.t 54),(.t 55)])),(9,I0 47 56),(10,I8 57 47 0),(11,I8 58 47 1),(13,I9 10 10 57)],[(14,I0 11 58)]] (bm [0,0,0,4,14,0,32,0,255,511,1023,1023,0,6143,16383])) (.seq (.ifc 59 [] (no (v 9)) (.seq (.reg 61 [s 41 (d 4) Rb,z 5 8]) .ret) .skip) (.seq (.reg 62 [p 24 (B1 127 (la 4 (fa 33 (d 3))) (ld (fa 8 (d 8)))),p 10 Vi,s 4 (d 10) (d 24)]) (.seq (.ifc 67 [] (.and (no (v 1)) (bk .lss 6 (Am 14 (B1 126 (v 6) (la 4 (d 10)))))) (.seq (.reg 76 [s 41 (d 4) Rb,z 5 8]) .ret) .skip) (.seq (.reg 77 [p 25 (.op (.build Z6 [(0,1,T9),(1,1,(.t 0)),(2,1,(.t 1))]) [(v 7),(B1 56 (v 6) (la 4 (d 10)))]),p 11 (.op (.alloc Z6) []),s 3 (d 11) (d 25)]) (.seq (.reg 82 [p 26 (la 22 (fa 11 (d 3))),p 12 (.op (.alloc R1) []),s 22 (d 12) (d 26)]) (.seq (.rawE [[(0,I0 84 9),(1,I6 85 2 10),(2,I1 86 (.load true 6 (.t 85))),(3,I6 87 9 10),(4,I7 88 87),(5,I1 89 (.iaddr 1 (.t 88) (KI 0))),(6,I7 90 89),(7,I1 91 (.load true 3 (.t 13))),(9,I6 93 0 14),(8,I1 92 (.call 20 [(.t 90),(.t 91)])),(10,I9 1 93 84)],[(11,I6 94 3 14)],[(12,I9 6 94 86)],[(13,I6 95 9 14)],[(14,I9 6 95 92)]] (bm [0,0,2,0,8,24,56,0,248,1,1017,2047,4095,8191,16383])) (.seq (.reg 96 [p 27 (.op (.build Z6 [(0,1,Vp),(1,1,(.t 0)),(2,1,(.t 1))]) [(v 7),(Am 58 (la 22 (d 12)))]),p 13 (.op (.alloc Z6) []),s 3 (d 13) (d 27)]) (.seq (.rawE [[(0,I0 100 9),(1,I6 101 2 14),(2,I7 102 101),(3,I6 103 37 3),(4,I7 104 103),(5,I1 105 (.bini .add (.t 104) (KI 1))),(6,I1 106 (.bini .rem (.t 105) (KI 6))),(7,I6 107 9 10),(8,I7 108 107),(9,I1 109 (.iaddr 1 (.t 108) (KI 1))),(10,I7 110 109),(11,I1 111 (.load true 3 (.t 15))),(14,I1 16 (.alloc Z7)),(12,I1 112 (.call 20 [(.t 110),(.t 111)])),(13,I1 113 (.build Z7 [(0,1,(.t 100)),(1,1,(.t 102)),(2,1,(.t 106)),(3,6,(.t 112))]))],[(15,I9 9 16 113)]] (bm [0,0,2,0,8,24,56,0,128,384,896,0,3968,8191,0,32767])) (.seq (.reg 0 [y 15 (.emp)]) (.seq (.seq (.reg 0 [z 16 0]) (.block 1 (.loop [3,4,6,7,8,10,11,12,13,14,15,16] [(15,2)] (.seq (.ifc 114 [] (b2 .lss (v 16) (ln (ld (fa 0 (d 8))))) .skip (.exit 1)) (.seq (.block 2 (.rawE [[(0,I0 121 17),(1,I6 122 1 10),(2,I7 123 122),(3,I0 124 18),(4,I1 125 (.iaddr 1 (.t 123) (.t 124))),(5,I7 126 125),(6,I6 127 0 10),(7,I7 128 127),(8,I0 129 18),(9,I1 130 (.iaddr 3 (.t 128) (.t 129))),(10,I1 131 (.load true 3 (.t 130))),(11,I1 132 (.call 21 [(.t 131)])),(12,I1 133 (.build Z4 [(0,1,(.t 126)),(1,1,(.t 132))])),(13,I1 134 (.bslice 2 1 Z4 [(0,(.t 133))]))],[(14,I1 135 (.append 2 24 Z4 (.t 121) (.t 134)))],[(15,I0 17 135)]] (bm [0,0,2,0,14,30,0,64,0,448,960,1984,4094,8190,16383,32767]))) (.reg 119 [m 16 (bk .add 1 (v 16))])))))) (.seq (.rawE [[(0,I0 136 17),(1,I6 137 9 10),(2,I7 138 137),(3,I1 139 (.iaddr 1 (.t 138) (KI 0))),(4,I7 140 139),(5,I1 141 (.load true 3 (.t 13))),(8,I6 144 9 10),(9,I7 145 144),(10,I1 146 (.iaddr 1 (.t 145) (KI 1))),(11,I7 147 146),(12,I1 148 (.load true 3 (.t 15))),(6,I1 142 (.call 21 [(.t 141)])),(7,I1 143 (.build Z4 [(0,1,(.t 140)),(1,1,(.t 142))])),(13,I1 149 (.call 21 [(.t 148)])),(14,I1 150 (.build Z4 [(0,1,(.t 147)),(1,1,(.t 149))])),(15,I1 151 (.bslice 2 2 Z4 [(0,(.t 143)),(1,(.t 150))]))],[(16,I1 152 (.append 2 24 Z4 (.t 136) (.t 151)))],[(17,I0 17 152)]] (bm [0,0,2,6,14,0,32,126,0,256,768,1792,0,4192,16224,32766,65535,131071])) (.seq (.reg 0 [p 28 Rb,p 17 Vg,s 41 (d 17) (d 28)]) (.seq (.pre [.fz 15] (.reg 155 [m 29 (B1 77 (la 5 (fa 0 (d 17))) (v 15)),p 30 (ex 0 (d 29)),p 31 (ex 1 (d 29)),s 5 (fa 0 (d 17)) (d 30),m 9 (d 31)])) (.seq (.seq (.reg 0 [z 18 0]) (.block 3 (.loop [3,4,6,7,9,10,12,14,17,18] [] (.seq (.ifc 162 [] (.and (bk .lss 2 (v 18)) (v 9)) .skip (.exit 3)) (.seq (.block 4 (.rawE [[(0,I6 170 0 19),(1,I1 171 (.load true 5 (.t 170))),(2,I0 172 8),(3,I1 173 (.load true 9 (.t 16))),(4,I0 174 20),(5,I1 175 (.call 128 [(.t 172),(.t 173),(.t 174)]))],[(6,I1 176 (.call 77 [(.t 171),(.t 175)]))],[(7,I0 169 176)],[(8,I8 177 169 0),(9,I8 178 169 1),(10,I6 179 0 19),(11,I9 5 179 177)],[(12,I0 11 178)]] (bm [0,1,0,0,0,28,63,127,255,255,511,1535,4095]))) (.reg 167 [m 18 (bk .add 1 (v 18))])))))) (.seq (.ifc 180 [] (no (v 9)) (.seq (.reg 182 [p 33 (la 5 (fa 0 (d 17))),s 5 (fa 0 (d 3)) (d 33)]) (.seq (.reg 185 [s 41 (d 4) Rb,z 5 13]) .ret)) .skip) (.seq (.rawE [[(0,I6 186 3 16),(1,I1 187 (.load true 6 (.t 186))),(2,I1 188 (.load true 22 (.t 14))),(3,I1 189 (.load true 4 (.t 12))),(4,I6 190 2 16),(5,I7 191 190),(6,I0 192 9),(7,I6 193 5 19),(8,I9 6 193 187),(9,I6 194 11 19),(10,I9 22 194 188),(11,I6 195 33 19),(12,I9 4 195 189),(13,I6 196 37 19),(14,I9 1 196 191)],[(15,I6 197 38 19)],[(16,I9 1 197 192)]] (bm [0,1,0,0,0,16,0,3,131,391,903,1935,3983,8127,16319,32767,65535])) (.seq (.reg 198 [s 41 (d 4) (la 41 (d 17)),z 5 0]) .ret))))))))))))))))))))))⟩
def g96:FT:=⟨1,60,[.tmp 1],[0,2,3,4,5,45,46,50],false,(.seq a5c (.seq (.ifc 6 [] (bk .lss 2 Dt) (.seq (.reg 9 [m 1 (v 0)]) .ret) .skip) (.seq (.seq (.reg 0 [z 2 1]) (.block 0 (.loop [0,2] [] (.seq (.ifc 10 [] (b2 .lss (v 2) Dt) .skip W7) (.seq (.block 1 (.ifd 16 [] (b2 .eql (ld (ia 1 (v 0) (v 2))) (ld (ia 1 (v 0) (bk .sub 1 (v 2))))) (.seq (.reg 26 [m 3 b2p]) (.seq (.seq (.reg 0 [z 4 1]) (.block 2 (.loop [0,2,3,4] [] (.seq (.ifc 29 [] (b2 .lss (v 4) (ln (v 3))) .skip J5) (.seq (.block 3 (.ifd 35 [] (b2 .neq (ld (ia 1 (v 3) (v 4))) (ld (ia 1 (v 3) (bk .sub 1 (v 4))))) (.seq (.reg 47 [m 5 (d 0),m 6 (d 2),p 7 (ld (ia 1 (v 3) (v 4))),s 1 (ia 1 (d 5) (d 6)) (d 7)]) (.reg 52 [m 2 Pn])) .skip)) (.reg 33 [m 4 Mc])))))) (.seq (.reg 54 [e (.clear 1 Z5 (.t 0)) [b2p]]) (.seq (.reg 57 [m 1 (.op (.slicel 1 (.t 0) none (some (.t 1))) [(v 0),(v 2)])]) .ret)))) .skip)) (.reg 14 [m 2 Pn])))))) (.seq (.reg 60 [m 1 (v 0)]) .ret))))⟩
def Xg:FT:=⟨2,31,[.tmp 3],[0,1,3,4,5,21,23,25],false,(.seq (.reg 0 [p 2 W5,y 3 (.emp)]) (.seq (.seq (.reg 6 [m 4 Dt]) (.ifd 8 [] (.and (bk .gtr 0 (v 4)) (b2 .eql (ld (fa 1 (ia 2 (v 0) (bk .sub 1 (v 4))))) (ld Ft))) (.seq (.reg 22 [m 5 (d 0),p 6 (bk .sub 1 (v 4)),p 7 T5,s 1 (fa 1 (ia 2 (d 5) (d 6))) (d 7)]) (.seq (.reg 28 [m 3 (v 0)]) .ret)) .skip)) (.seq (.reg 29 [m 3 (.op (.append 2 16 Ii (.t 0) (.t 1)) [(v 0),(.op W95 [(la 2 (d 2))])])]) .ret)))⟩
def g98:FT:=⟨1,5,[.cell 1 true 4],[0,2],true,(.seq (.reg 0 [p 1 Vh]) (.seq (.reg 3 [s 4 (d 1) (Am 154 (.op (.bslice 1 1 [.str []] [(0,(.t 0))]) [(v 0)]))]) .ret))⟩
def g99:FT:=⟨1,15,[.tmp 1],[0,2,3],true,(.seq W1 (.seq (.seq Jv (.block 0 (.loop [0,2] [] (.seq W65 (.seq (.block 1 (.ifc 10 [] (no (Am 102 (la 6 (ia 6 (v 0) (v 2))))) Ex .skip)) (.reg 8 [m 2 Pn])))))) Oo))⟩
def Qp:FT:=⟨2,59,[.tmp 3],[0,1,3,4],true,(.seq am3 (.seq (.ifc 5 [] (.or (.or (.or (.or (no (Am 155 (v 0))) (no (B1 156 (v 0) (ld Ft)))) (no (B1 156 (v 0) T5))) (no (B1 156 (v 0) (ld (fa 2 (d 2)))))) (no (B1 156 (v 0) Zb))) (.seq a5k .ret) .skip) (.seq (.reg 36 [m 3 (.and (.and (bk .eql 0 (ln (B1 157 (ld Ft) T5))) (bk .eql 0 (ln (B1 157 (ld Ft) (ld (fa 2 (d 2))))))) (bk .eql 0 (ln (B1 157 T5 (ld (fa 2 (d 2)))))))]) .ret)))⟩
def Xt:FT:=⟨2,42,[.tmp 2],[0,1,4,5,6,18],true,(.seq W4 (.seq (.ifc 7 [] (.or (no (Am 155 (v 0))) (no (B1 156 (v 0) (v 1)))) Ho .skip) (.seq (.reg 16 [p 5 (bk .quo 8 (bk .add 7 (v 0))),m 3 (.op a5l [(d 5),(d 5)])]) (.seq (.seq Oj (.block 0 (.loop [0,1,3,4] [] (.seq (.ifc 20 [] (b2 .lss (v 4) (v 0)) .skip W7) (.seq (.block 1 (.ifc 25 [] (B1 158 (v 1) (.op Pr [(v 4)])) (.rawE [[(0,I0 29 5),(1,I0 30 6),(2,I1 31 (.bini .quo (.t 30) (KI 8))),(3,I0 32 5),(4,I0 33 6),(5,I1 34 (.bini .quo (.t 33) (KI 8))),(6,I1 35 (.iaddr 1 (.t 32) (.t 34))),(7,I7 36 35),(8,I0 37 6),(9,I1 38 (.bini .rem (.t 37) (KI 8))),(10,I1 39 (.bini .shl (.c (.int .u8 1)) (.t 38))),(11,I1 40 (.bini .or (.t 36) (.t 39)))],[(12,I1 41 (.iaddr 1 (.t 29) (.t 31)))],[(13,I9 1 41 40)]] (bm [0,0,2,0,0,16,56,120,0,256,768,2040,4095,8191])) .skip)) (.reg 23 [m 4 Mc])))))) (.seq (.reg 42 [m 2 (.op Pm [(v 3)])]) .ret)))))⟩
def af5:FT:=⟨1,25,[.tmp 2],[0,1,2],true,(.seq Pq (.seq (.reg 3 [m 2 (.and (.and (.and (bk .geq 0 (ld W6)) (bk .leq 65535 (ld W6))) (Am 48 Ok)) (.or (bk .gtr 0 (ld W6)) (.op W87 [(la 6 (d 1)),Nf])))]) .ret))⟩
def af4:FT:=⟨2,57,[.tmp 2,.tmp 3,.tmp 4],[0,1,4,5,6,7,8,10,11,13,14,17,18,19,28,29,30,31,37,38,39,40,57,58],true,(.seq Tf (.seq (.reg 15 [m 10 (Am 159 (v 0)),p 11 Th,p 12 Tg,p 13 (ex 2 (d 10)),m 5 (d 11),m 6 (d 12),m 4 (d 13)]) (.seq (.ifc 20 [] (.or (no (v 4)) (b2 .lss (ls (v 1)) (v 6))) (.seq Tf .ret) .skip) (.seq (.seq (.reg 0 [m 14 (d 5),p 15 (ln (d 14)),z 16 0]) (.block 0 (.loop [1,2,14,15,16] [(2,1)] (.seq (.reg 0 [p 17 (b2 .lss (d 16) (d 15))]) (.seq (.ifv 17 .skip W7) (.seq (.block 1 (.seq (.reg 32 [m 7 (ld (ia 1 (d 14) (d 16)))]) (.seq (.reg 0 [z 8 0]) (.seq (.seq (.reg 34 [p 18 (.op (.convsb (.t 0)) [(.op (.slices (.t 0) none (some (.t 1))) [(v 1),(v 7)])]),p 19 (ln (d 18)),z 20 0]) (.block 2 (.loop [1,2,7,8,14,15,16,18,19,20] [] (.seq (.reg 0 [p 21 (b2 .lss (d 20) (d 19))]) (.seq (.ifv 21 .skip J5) (.seq (.block 3 (.seq (.reg 41 [m 9 (ld (ia 1 (d 18) (d 20)))]) (.reg 43 [m 8 (b2 .or (.op (.bini .shl (.t 0) (.c (.int .u64 8))) [(v 8)]) (cv .i64 (v 9)))]))) (.reg 48 [m 20 (bk .add 1 (d 20))]))))))) (.rawE [[(0,I0 49 4),(1,I0 50 11),(2,I1 51 (.bslice 1 1 Z5 [(0,(.t 50))])),(3,I1 52 (.append 1 8 Z5 (.t 49) (.t 51))),(4,I0 53 1),(5,I0 54 10),(6,I1 55 (.slices (.t 53) (some (.t 54)) none)),(7,I0 4 52)],[(8,I0 1 55)]] (bm [0,0,2,7,0,0,48,15,255])))))) (.reg 56 [m 16 (bk .add 1 (d 16))]))))))) (.seq (.reg 0 [m 22 (d 2),m 23 (d 1),m 2 (d 22),m 3 (d 23),y 4 (.bool true)]) .ret)))))⟩
def af3:FT:=⟨2,37,[.tmp 2,.tmp 3,.tmp 4],[0,1,4,5,6,7,8,9,11,12,13,14,17,18,19,34,35,37,38],true,(.seq Tf (.seq (.seq (.reg 10 [p 8 (.op (.max2 (.t 0) Me) [(v 1)]),z 9 0]) (.block 0 (.loop [0,2,8,9] [(2,6)] (.seq am7 (.seq (.ifv 10 .skip W7) (.seq (.block 1 (.seq (.reg 15 [m 11 (.op (.call 103 [al9,(.t 0)]) [(v 0)]),p 12 (ex 0 (d 11)),p 13 (ex 1 (d 11)),p 14 (ex 2 (d 11)),m 5 (d 12),m 6 (d 13),m 7 (d 14)]) (.seq (.ifc 20 [] (.or (no (v 7)) (no (Am 160 (fg 0 6 (Am 161 (v 5)))))) (.seq Tf .ret) .skip) (.reg 29 [p 15 (.op W92 [(v 2),(.op al7 [(fg 0 6 (Am 161 (v 5)))])]),m 16 (d 6),m 2 (d 15),m 0 (d 16)])))) (.reg 36 [m 9 (bk .add 1 (d 9))]))))))) (.seq (.reg 0 [m 17 (d 2),m 18 (d 0),m 2 (d 17),m 3 (d 18),y 4 (.bool true)]) .ret)))⟩
def Pf:FT:=⟨1,55,[.tmp 2],[0,1,2,3],true,(.seq Td (.seq (.ifc 4 [] (.or (.or (.or (.or (bk .lss 1 (ld W6)) (no (.op W51 [(ld W6)]))) (no (.op W51 [Ok]))) (no (.op W51 [T6]))) (no (.op W51 [(ld (fa 21 (d 1)))]))) Ho .skip) (.seq (.reg 31 [m 3 (Am 163 W60)]) (.seq (.ifc 39 [] (.op am2 [(v 3)]) Ho .skip) (.seq (.rawE [[(0,I6 41 0 1),(1,I7 42 41),(2,I6 43 1 1),(3,I7 44 43),(4,I6 45 2 1),(5,I7 46 45),(6,I1 47 (.bslice 1 3 Z5 [(0,(.t 42)),(1,(.t 44)),(2,(.t 46))])),(8,I0 49 3),(10,I6 51 21 1),(11,I7 52 51),(12,I1 53 (.bslice 1 1 Z5 [(0,(.t 52))])),(7,I1 48 (.call 164 [(.c (.str [52,52,52])),(.t 47)])),(9,I1 50 (.bins .add (.t 48) (.t 49))),(13,I1 54 (.call 164 [(.c (.str [52])),(.t 53)]))],[(14,I1 55 (.bins .add (.t 50) (.t 54)))],[(15,I0 2 55)]] (bm [0,1,0,4,0,16,63,127,0,511,0,1024,3072,7423,16383,32767])) .ret)))))⟩
def Xs:FT:=⟨2,48,[.tmp 2],[0,1,4,5,6,7,8,9,24,25,26,27,28,30],true,(.seq W4 (.seq (.ifc 10 [] (.or (bk .gtr 8 Dt) (b2 .neq Dt Nh)) Ho .skip) (.seq (.reg 20 [m 3 (.op (.call 164 [(.c (.str [49])),(.t 0)]) [(.op R9 [Dt])]),z 4 0]) (.seq (.seq (.reg 0 [m 8 (d 0),p 9 (ln (d 8)),z 10 0]) (.block 0 (.loop [1,3,4,8,9,10] [] (.seq (.reg 0 [p 11 (b2 .lss (d 10) (d 9))]) (.seq (.ifv 11 .skip W7) (.seq (.block 1 (.seq (.reg 29 [m 12 (d 10),p 13 (la 5 (ia 5 (d 8) (d 10))),p 6 Tb,m 5 (d 12),s 5 (d 6) (d 13)]) (.seq (.rawE [[(0,I1 31 (.load true 5 (.t 8))),(1,I0 32 1),(2,I0 33 7),(3,I1 34 (.iaddr 6 (.t 32) (.t 33))),(4,I1 35 (.load true 6 (.t 34))),(5,I1 36 (.build [.int .i64 0,.int .i64 0,.int .i64 0,.int .i64 0,.emp,.int .i64 0,.int .i64 0,.int .u32 0,.int .u32 0,.int .u32 0,.int .u32 0] [(0,5,(.t 31)),(5,6,(.t 35))])),(6,I1 9 (.alloc [.int .i64 0,.int .i64 0,.int .i64 0,.int .i64 0,.emp,.int .i64 0,.int .i64 0,.int .u32 0,.int .u32 0,.int .u32 0,.int .u32 0]))],[(7,I9 11 9 36)]] (bm [0,0,0,6,14,31,0,127])) (.seq (.ifc 37 [] (no (B1 165 (la 11 (d 7)) (v 4))) Ho .skip) (.rawE [[(0,I0 41 5),(1,I1 42 (.load true 11 (.t 9))),(4,I6 45 0 9),(5,I6 46 0 45),(6,I7 47 46),(2,I1 43 (.call 166 [(.t 42)])),(3,I1 44 (.bins .add (.t 41) (.t 43))),(7,I0 5 44)],[(8,I0 6 47)]] (bm [0,0,2,7,0,16,48,15,255])))))) (.reg 48 [m 10 (bk .add 1 (d 10))]))))))) (.seq (.reg 49 [m 2 (v 3)]) .ret)))))⟩
def af2:FT:=⟨0,7,[.tmp 0],[0,1],false,W34⟩
def Xr:FT:=⟨1,20,[.tmp 1,.tmp 2],[0,2,3,4,5,6,7,10,11,12],true,(.seq (.reg 0 [y 1 (.emp),y 2 (.bool false)]) (.seq (.reg 8 [m 6 (.op (.call 104 [(.t 0),Ng]) [(v 0)]),p 7 (ex 0 (d 6)),p 8 (ex 1 (d 6)),p 9 (ex 2 (d 6)),m 3 (d 7),m 4 (d 8),m 5 (d 9)]) (.seq (.ifc 13 [] (.or (no (v 5)) (.op W77 [(v 4)])) (.seq (.reg 0 [y 1 (.emp),y 2 (.bool false)]) .ret) .skip) (.seq (.reg 19 [m 1 (Am 167 (v 3)),y 2 (.bool true)]) .ret))))⟩
def a2r:FT:=⟨1,25,[],[0,2,3,4,5],false,(.seq (.reg 6 [m 2 (d 0),m 3 (d 0),p 4 (Yb 107),s 1 (fa 5 (.op Na [(d 2)])) (d 4),e (.store 1 (.t 0) W9) [(fa 8 (.op Na [(d 3)]))]]) (.seq (.reg 0 [z 1 1]) (.block 0 (.loop [0,1] [] (.seq (.ifc 10 [] (b2 .lss (v 1) (ln (ld (fa 5 W3)))) .skip W7) (.seq (.block 1 (.reg 19 [e (.store 1 (.t 0) Kh) [(fa 0 (ia 5 (ld (fa 5 W3)) (v 1)))]])) (.reg 17 [m 1 (bk .add 1 (v 1))])))))))⟩
def K9:FT:=⟨2,111,[],[0,1,4,5,6,7,8,9,13,14,15,22,23,24,26,41,44,45,46,47,84,85,90,91],false,(.seq (.reg 10 [p 8 (ld (fa 5 W3)),m 9 (d 1),p 10 am0,s 5 (ia 5 (d 8) (d 9)) (d 10)]) (.seq (.ifc 17 [] (bk .eql 0 (v 1)) (.reg 19 [p 11 (ld (fa 5 W3)),m 12 (d 1),p 13 Yr,s 5 (ia 5 (d 11) (d 12)) (d 13)]) .skip) (.seq (.rawE [[(0,I0 27 0),(1,I1 28 (.nilchk (.t 27))),(2,I6 29 0 28),(3,I1 30 (.load true 5 (.t 29))),(4,I0 31 0),(5,I1 32 (.nilchk (.t 31))),(6,I6 33 6 32),(7,I7 34 33),(8,I0 35 1),(9,I1 36 (.iaddr 6 (.t 34) (.t 35))),(10,I1 37 (.load true 6 (.t 36)))],[(11,I1 38 (.call 30 [(.t 30),(.t 37),(KI 2)]))],[(12,I0 26 38)],[(13,I8 39 26 0),(14,I8 40 26 1),(15,I0 4 39)],[(16,I0 5 40)]] (bm [0,1,3,7,0,16,48,112,0,496,1008,2047,4095,8191,8191,16383,65535])) (.seq (.reg 42 [m 15 (Am 168 (v 2)),p 16 (ex 0 (d 15)),p 17 (ex 1 (d 15)),p 18 (ex 2 (d 15)),p 19 (ex 3 (d 15)),p 4 Po,s 5 (d 4) (d 16),m 5 (d 17),m 6 (d 18),m 7 (d 19)]) (.seq (.ifc 48 [] (bk .eql 0 (v 1)) (.reg 50 [m 7 (.and (.and (.and (v 7) (.op (.eqs false [.i,.i,.s,.s,.i] (.t 0) (.t 1)) [(la 5 (d 4)),Yr])) (bk .eql 0 (v 5))) (no (.op (.call 169 [(.t 0),(.c (.fn (.func 170) [] []))]) [(v 6)])))]) (.reg 65 [m 7 (.and (v 7) (Am 171 (ld (fa 2 (d 4)))))])) (.seq (.ifc 71 [] (no (v 7)) (.seq (.reg 73 [e (.store 1 (.t 0) W9) [(fa 8 W3)]]) .ret) .skip) (.seq (.reg 76 [p 20 (.op (.copy 6 (.t 0) (.t 1)) [(.op (.slicel 6 (.t 0) (some (.t 1)) none) [(ld (fa 7 W3)),(bk .mul 4 (v 1))]),(v 6)])]) (.seq (.reg 86 [m 21 (Sy 172 (v 0) (v 5) (v 6)),p 22 (ex 0 (d 21)),p 23 (ex 1 (d 21)),s 1 (fa 3 (d 4)) (d 22),s 1 (fa 4 (d 4)) (d 23)]) (.rawE [[(0,I0 94 0),(1,I1 95 (.nilchk (.t 94))),(2,I6 96 5 95),(3,I7 97 96),(4,I0 98 1),(5,I0 99 0),(6,I1 100 (.load true 5 (.t 6))),(7,I0 101 0),(8,I1 102 (.nilchk (.t 101))),(9,I6 103 8 102),(10,I7 104 103),(11,I0 105 104),(12,I3 106 105 (.faddr 4 (.t 6))),(13,I3 107 105 (.load false 1 (.t 106))),(14,I3 108 105 (.bini .neq (.t 107) (KI 0))),(15,I1 109 (.pick (.t 105) W9 (.t 108))),(16,I1 110 (.iaddr 5 (.t 97) (.t 98))),(17,I9 5 110 100)],[(18,I1 111 (.nilchk (.t 99)))],[(19,I6 112 8 111)],[(20,I9 1 112 109)]] (bm [0,1,3,7,0,0,0,0,128,384,896,1920,3968,8064,16256,32640,2015,69599,262143,524287,1048575]))))))))))⟩
def af1:FT:=⟨1,6,[.tmp 1],[0,2],true,(.seq W1 (.seq (.reg 3 [m 1 (Am 174 (Am 173 (.op al8 [(v 0)])))]) .ret))⟩
def af0:FT:=⟨1,5,[.tmp 1],[0,2],true,(.seq W1 (.seq (.reg 3 [m 1 (Am 174 (.op al8 [(v 0)]))]) .ret))⟩
def a2p:FT:=⟨3,19,[.tmp 3],[0,1,2,6,7],true,(.seq a5k (.seq (.reg 8 [m 4 (B1 175 (v 0) (v 1))]) (.seq (.reg 11 [m 3 (.and (bk .geq 0 (v 4)) (b2 .eql (ld (fa 1 R6)) (v 2)))]) .ret)))⟩
def ae9:FT:=⟨2,24,[.tmp 2],[0,1,4,5,6,9,10,11],true,(.seq W2 (.seq (.reg 7 [m 3 (v 1)]) (.seq (.seq (.reg 8 [p 5 Dt,z 6 0]) (.block 0 (.loop [0,1,3,5,6] [] (.seq W72 (.seq Za (.seq (.block 1 (.seq (.reg 12 [m 4 (B1 175 (v 0) (v 3))]) (.seq (.ifc 15 [] (bk .lss 0 (v 4)) J6 .skip) (.seq (.reg 17 [m 3 (ld (fa 2 R6))]) (.ifc 22 [] (b2 .eql (v 3) (v 1)) Te .skip))))) (.reg 25 [m 6 Yz]))))))) J6)))⟩
def V1:FT:=⟨1,48,[.cell 1 true 4],[0,2,3,4,5,6,7,10,11,12],true,(.seq (.reg 0 [p 1 (.op (.alloc Ym) [])]) (.seq (.reg 8 [m 6 (.op (.call 103 [a5f,(.t 0)]) [(v 0)]),p 7 (ex 0 (d 6)),p 8 (ex 1 (d 6)),p 9 (ex 2 (d 6)),m 2 (d 7),m 3 (d 8),m 4 (d 9)]) (.seq (.ifc 13 [] (.or (no (v 4)) (b2 .gtr (ld (ik 1 2 (v 2))) (ls (v 3)))) (.seq (.reg 23 [s 4 (d 1) (.op (.build Ym []) [])]) .ret) .skip) (.seq (.rawE [[(0,I0 24 3),(1,I1 25 (.iaddr 1 (.t 24) (KI 0))),(2,I7 26 25),(3,I0 27 3),(4,I1 28 (.iaddr 1 (.t 27) (KI 1))),(5,I7 29 28),(6,I0 30 4),(7,I0 31 3),(8,I1 32 (.iaddr 1 (.t 31) (KI 2))),(9,I7 33 32),(10,I1 34 (.slices (.t 30) none (some (.t 33)))),(11,I1 35 (.build Z6 [(0,1,(.t 26)),(1,1,(.t 29)),(2,1,(.t 34))])),(12,I1 36 (.build Z6 [(0,3,(.t 35))])),(13,I1 6 (.alloc Z6))],[(14,I9 3 6 36)]] (bm [0,1,3,0,8,24,0,0,128,384,960,2047,4095,0,16383])) (.seq (.ifc 37 [] (.or (no (Am 178 (la 3 (d 5)))) (bs .neq (Am 179 (la 3 (d 5))) (v 0))) (.seq (.reg 46 [s 4 (d 1) (.op (.build Ym []) [])]) .ret) .skip) (.seq (.reg 47 [s 4 (d 1) (.op (.build Ym [(0,3,(.t 0)),(3,1,W9)]) [(la 3 (d 5))])]) .ret))))))⟩
def V0:FT:=⟨3,30,[.tmp 5],[0,1,2,3,4,6],true,(.seq (.reg 0 [p 3 W0,p 4 W5,y 5 (.bool false)]) (.seq (.rawE [[(0,I6 7 3 3)],[(1,I7 8 7)],[(2,I0 9 8)],[(3,I2 10 9 (.load true 6 (.t 4))),(4,I2 11 9 (.faddr 0 (.t 3))),(5,I2 12 9 (.load true 3 (.t 11))),(6,I2 13 9 (.call 179 [(.t 12)]))],[(7,I2 14 9 (.call 180 [(.t 10),(.t 13)]))],[(8,I1 15 (.pick (.t 9) (.t 14) T8))],[(9,I0 16 15)],[(10,I2 17 16 (.faddr 0 (.t 3))),(11,I2 18 16 (.faddr 0 (.t 17))),(12,I2 19 16 (.faddr 1 (.t 18))),(13,I2 20 16 (.load false 1 (.t 19))),(14,I2 21 16 (.faddr 1 (.t 4))),(15,I2 22 16 (.load false 1 (.t 21)))],[(16,I2 23 16 (.bini .eql (.t 20) (.t 22)))],[(17,I1 24 (.pick (.t 16) (.t 23) T8))],[(18,I0 25 24)],[(19,I2 26 25 (.faddr 0 (.t 3))),(20,I2 27 25 (.faddr 0 (.t 26))),(21,I2 28 25 (.faddr 0 (.t 27))),(22,I2 29 25 (.load false 1 (.t 28))),(23,I4 30 25 2)],[(24,I2 31 25 (.bini .eql (.t 29) (.t 30)))],[(25,I1 32 (.pick (.t 25) (.t 31) T8))],[(26,I0 6 32)]] (bm [0,1,3,7,7,23,55,127,255,511,1023,2047,4095,8191,1023,17407,65535,131071,262143,524287,1048575,2097151,4194303,524287,16777215,33554431,67108863])) .ret))⟩
def ae8:FT:=⟨1,8,[.tmp 1],[0,2],true,W46⟩
def ae7:FT:=⟨1,6,[.tmp 1],[0,2],true,(.seq (.reg 0 [z 1 0]) (.seq (.reg 3 [m 1 (bk .quo 8 (bk .sub 1 (bk .add 8 (v 0))))]) .ret))⟩
def ae6:FT:=⟨2,8,[.tmp 3],[0,1,3,4],true,(.seq am3 (.seq (.reg 5 [m 3 (Am 181 (.op (.build [.emp,.emp,.emp,.emp,.int .i64 0] [(0,4,(.t 0)),(4,1,(.t 1))]) [(.op (.build T4 [(0,4,(.t 0))]) [(la 4 (d 2))]),(v 0)]))]) .ret))⟩
def Uz:FT:=⟨2,49,[.tmp 2],[0,1,4,5,6,7,28,30,31,32,38,40],true,(.seq W4 (.seq (.reg 8 [m 3 W62]) (.seq (.pre [.fz 3] (.ifc 12 [] (.or (.or (no (Am 118 (v 0))) (no (Am 182 (v 1)))) (bk .gtr 0 (ln (B1 183 (v 1) (v 3))))) Ho .skip)) (.seq (.reg 27 [p 6 (Am 119 (v 0)),m 4 (.op a5l [(d 6),(d 6)])]) (.seq (.seq (.reg 0 [m 7 (d 0),z 8 0]) (.block 0 (.loop [1,4,7,8] [] (.seq Yt (.seq Yx (.seq (.block 1 (.seq (.reg 33 [m 5 (v 8)]) (.ifc 34 [] (B1 184 (v 1) (.op Pr [(v 5)])) (.rawE [[(0,I0 38 6),(1,I0 39 7),(2,I1 40 (.bini .quo (.t 39) (KI 8))),(3,I1 41 (.iaddr 1 (.t 38) (.t 40))),(4,I7 42 41),(5,I0 43 7),(6,I1 44 (.bini .rem (.t 43) (KI 8))),(7,I1 45 (.bini .shl (.c (.int .u8 1)) (.t 44)))],[(8,I1 46 (.bini .or (.t 42) (.t 45)))],[(9,I1 47 (.iaddr 1 (.t 38) (.t 40)))],[(10,I9 1 47 46)]] (bm [0,0,2,7,15,0,32,96,255,511,1023])) .skip))) (.reg 48 [m 8 Yw]))))))) (.seq (.reg 49 [m 2 (.op Pm [(v 4)])]) .ret))))))⟩
def ae5:FT:=⟨1,15,[.tmp 1],[0,2,3],true,(.seq W1 (.seq (.seq Jv (.block 0 (.loop [0,2] [] (.seq W65 (.seq (.block 1 (.ifc 10 [] (bk .eql 3 (ld (fa 0 (ia 5 (v 0) (v 2))))) Oo .skip)) (.reg 8 [m 2 Pn])))))) Ex))⟩
def ae4:FT:=⟨1,15,[.tmp 1],[0,2,3],true,(.seq W1 (.seq (.seq Jv (.block 0 (.loop [0,2] [] (.seq W65 (.seq (.block 1 (.ifc 10 [] (bk .neq 0 (ld (fa 4 (ia 5 (v 0) (v 2))))) Oo .skip)) (.reg 8 [m 2 Pn])))))) Ex))⟩
def ae3:FT:=⟨1,6,[.tmp 2],[0,1,2],true,(.seq (.reg 0 [p 1 W0,z 2 0]) (.seq (.reg 3 [m 2 (bk .sub 28 (ln (ld W6)))]) .ret))⟩
def ae2:FT:=⟨4,224,[.cell 4 true 10,.tmp 5],[0,1,2,3,8,9,10,11,12,13,14,15,16,17,18,19,20,21,22,23,24,25,26,44,50,51,88,100,101,106,111,112,117,124,135,166,167,168],true,(.seq (.reg 0 [p 4 (.op (.alloc Z19) []),y 5 (.bool false)]) (.seq (.ifc 27 [] (.or (.or (.or (no (Am 11 (v 2))) (bk .lss 1 (v 0))) (bk .gtr 1073741824 (v 0))) (no (Am 185 (v 1)))) (.seq (.reg 43 [s 10 (d 4) (.op (.build Z19 []) []),y 5 (.bool false)]) .ret) .skip) (.seq (.reg 45 [m 23 (B1 186 (v 1) (.op (.min2 (.t 0) (.c (.int .i64 400))) [(Am 14 (v 1))])),p 24 (ex 0 (d 23)),p 25 (ex 1 (d 23)),m 6 (d 24),m 7 (d 25)]) (.seq (.reg 52 [m 8 (.op (.box (.t 0)) [(.op (.build [.emp,.emp,.int .i64 0,.int .i64 0,.int .u32 0,.int .u32 0,.int .u32 0,.int .u32 0,.emp,.emp,.int .i64 0,.emp,.emp,.bool false,.emp] [(10,1,(.t 0)),(11,1,(.t 1)),(14,1,(.t 2))]) [(v 0),(v 6),(.op (.append 30 320 Z1 (.t 0) (.t 1)) [(.op (.append 30 320 Z1 (.t 0) (.t 1)) [(.op (.bslice 30 0 Z1 []) []),(v 3)]),(.op (.bslice 30 1 Z1 [(0,(.t 0))]) [Vk])])])])]) (.seq (.reg 62 [m 9 (ln (v 3))]) (.seq (.reg 0 [y 10 (.emp)]) (.seq (.seq (.reg 0 [z 11 0]) (.block 0 (.pre [.empC 8 0 3,.empC 8 1 1,.empC 8 12 1,.empL 8 14 26 5,.empL 8 14 28 1,.empL 8 14 29 1] (.loop [2,4,6,8,9,10,11] [(10,6)] (.seq (.ifc 64 [] (b2 .lss (v 11) (ln (v 2))) .skip W7) (.seq (.block 1 (.seq (.reg 70 [m 12 (.op (.mksl 6 32 Z3 Ng Ng) [])]) (.seq (.reg 0 [y 13 (.emp)]) (.seq (.seq (.reg 0 [z 14 0]) (.block 2 (.loop [2,4,6,8,9,10,11,12,13,14] [(13,6)] (.seq (.ifc 71 [] (b2 .lss (v 14) (ln (ld (fa 4 (ia 5 (v 2) (v 11)))))) .skip J5) (.seq (.block 3 (.seq (.reg 81 [p 26 (la 5 (ia 5 (ld (fa 4 (ia 5 (v 2) (v 11)))) (v 14))),p 15 Po,s 5 (d 15) (d 26)]) (.seq (.reg 89 [m 16 (.op (.mksl 6 32 Z3 Md Md) [])]) (.seq (.seq (.reg 0 [z 17 0]) (.block 4 (.loop [2,4,6,8,9,10,11,12,13,14,15,16,17] [] (.seq (.ifc 90 [] (bk .lss 4 (v 17)) .skip (.exit 4)) (.seq (.block 5 (.seq (.reg 94 [m 18 (B1 187 (ld (fa 3 (d 15))) (v 17))]) (.ifc 98 [] (.op W77 [(v 18)]) (.reg 102 [m 27 (d 16),m 28 (d 17),p 29 (c4' 188 (v 8) (v 14) (v 17) (v 18)),s 6 (ia 6 (d 27) (d 28)) (d 29)]) .skip))) (.reg 92 [m 17 (bk .add 1 (v 17))])))))) (.seq (.ifc 108 [] (bk .neq 0 (ld (fa 0 (d 15)))) (.reg 113 [m 30 (d 12),m 31 (d 14),p 32 (c4' 189 (v 8) (v 14) (la 5 (d 15)) (v 16)),s 6 (ia 6 (d 30) (d 31)) (d 32)]) .skip) (.reg 119 [m 13 (.op W92 [(v 13),(v 16)])])))))) (.reg 79 [m 14 (bk .add 1 (v 14))])))))) (.seq (.reg 122 [p 33 (B1 190 (v 8) (v 12)),p 19 Ij,s 6 (d 19) (d 33)]) (.seq (.reg 125 [m 10 (.op W92 [(v 10),(.op al7 [(la 6 (d 19))])])]) (.seq (.reg 129 [p 34 (la 30 (ia 30 (ld (fa 14 (.op Na [(v 8)]))) (v 9))),p 20 Pp,s 30 (d 20) (d 34)]) (.pre [.fz 12,.fz 13] (.rawE [[(0,I0 136 12),(1,I1 137 (.nilchk (.t 136))),(2,I6 138 14 137),(3,I7 139 138),(4,I0 140 13),(5,I6 141 26 24),(6,I7 142 141),(7,I0 143 2),(8,I0 144 15),(9,I1 145 (.iaddr 5 (.t 143) (.t 144))),(10,I1 146 (.load true 5 (.t 145))),(11,I1 147 (.bslice 5 1 Z8 [(0,(.t 146))])),(12,I1 148 (.append 5 56 Z8 (.t 142) (.t 147))),(13,I0 149 14),(14,I6 150 28 24),(15,I7 151 150),(16,I0 152 16),(17,I1 153 (.bslice 1 1 [.emp] [(0,(.t 152))])),(18,I1 154 (.append 1 24 [.emp] (.t 151) (.t 153))),(19,I6 155 29 24),(20,I7 156 155),(21,I0 157 17),(22,I1 158 (.bslice 1 1 [.emp] [(0,(.t 157))])),(23,I1 159 (.append 1 24 [.emp] (.t 156) (.t 158))),(24,I1 160 (.build Z1 [(26,1,(.t 148)),(27,1,(.t 149)),(28,1,(.t 154)),(29,1,(.t 159))]))],[(25,I1 161 (.iaddr 30 (.t 139) (.t 140)))],[(26,I9 30 161 160)]] (bm [0,1,3,7,0,0,32,0,0,384,896,1920,4064,0,0,16384,0,65536,253920,0,524288,0,2097152,8380384,16777184,33554431,67108863])))))))))) (.reg 68 [m 11 (bk .add 1 (v 11))]))))))) (.seq (.reg 162 [p 35 (.op (.call 191 [(.t 0),Md,(.t 1)]) [(v 8),(B1 55 (v 2) (v 10))]),p 21 Ij,s 6 (d 21) (d 35)]) (.seq (.reg 169 [m 36 (d 8),p 37 (la 6 (d 21)),s 6 (fa 2 (fa 0 (.op Na [(d 36)]))) (d 37)]) (.seq (.reg 172 [m 22 (ln (ld (fa 1 (fa 0 (.op Na [(v 8)])))))]) (.seq (.ifc 178 [] (.or (ld (fa 13 (.op Na [(v 8)]))) (b2 .gtr (bk .add 2 (v 22)) (ln (v 6)))) (.seq (.reg 189 [s 10 (d 4) (.op (.build Z19 []) []),y 5 (.bool false)]) .ret) .skip) (.seq (.rawE [[(0,I0 190 12),(1,I0 191 10),(2,I0 192 26),(3,I1 193 (.iaddr 1 (.t 191) (.t 192))),(4,I7 194 193),(5,I0 195 10),(6,I0 196 26),(7,I1 197 (.bini .add (.t 196) (KI 1))),(8,I1 198 (.iaddr 1 (.t 195) (.t 197))),(9,I7 199 198),(10,I1 200 (.bslice 1 2 Z5 [(0,(.t 194)),(1,(.t 199))]))],[(11,I1 201 (.nilchk (.t 190)))],[(12,I6 202 0 201)],[(13,I6 203 9 202)],[(14,I9 1 203 200)]] (bm [0,0,0,6,14,0,0,64,224,480,1022,2047,4095,8191,16383])) (.seq (.rawE [[(0,I0 204 12),(1,I0 205 12),(2,I1 206 (.nilchk (.t 205))),(3,I6 207 12 206),(4,I7 208 207),(5,I0 209 10),(6,I0 210 26),(7,I1 211 (.iaddr 1 (.t 209) (.t 210))),(8,I7 212 211),(9,I0 213 10),(10,I0 214 26),(11,I1 215 (.bini .add (.t 214) (KI 1))),(12,I1 216 (.iaddr 1 (.t 213) (.t 215))),(13,I7 217 216),(14,I1 218 (.bslice 1 2 Z5 [(0,(.t 212)),(1,(.t 217))])),(15,I1 219 (.append 1 8 Z5 (.t 208) (.t 218))),(16,I1 220 (.call 192 [(.t 219)]))],[(17,I1 221 (.nilchk (.t 204)))],[(18,I6 222 0 221)],[(19,I6 223 8 222)],[(20,I9 1 223 220)]] (bm [0,0,2,6,14,0,0,96,224,0,0,1024,3584,7680,16352,32766,65534,131071,262143,524287,1048575])) (.seq (.reg 224 [s 10 (d 4) (la 10 (fa 0 (.op Na [(v 8)]))),y 5 (.bool true)]) .ret))))))))))))))⟩
def a2o:FT:=⟨2,25,[.tmp 3],[0,1,3,4,5],true,(.seq (.reg 0 [p 2 W5,y 3 (.emp)]) (.seq (.ifc 6 [] (no (B1 100 (v 0) (la 4 (d 2)))) (.seq Vj .ret) .skip) (.seq (.reg 10 [m 4 W62]) (.seq (.pre [.fz 4] (.rawE [[(0,I0 14 5),(1,I6 15 0 3),(2,I7 16 15),(3,I6 17 1 3),(4,I7 18 17),(6,I6 20 2 3),(7,I7 21 20),(8,I6 22 3 3),(9,I7 23 22),(5,I1 19 (.call 194 [(.t 16),(.t 18)])),(10,I1 24 (.call 194 [(.t 21),(.t 23)])),(11,I1 25 (.call 194 [(.t 19),(.t 24)]))],[(12,I1 26 (.call 193 [(.t 14),(.t 25)]))],[(13,I0 4 26)]] (bm [0,0,2,0,8,30,0,64,0,256,1022,2046,4095,8191]))) .ret))))⟩
def ae1:FT:=⟨2,21,[.cell 3 true 4],[0,1,2,4,5],true,(.seq (.reg 0 [p 2 W0,p 3 Vi]) (.seq (.reg 6 [m 4 (B1 193 (ld Ft) (v 1))]) (.seq (.rawE [[(0,I0 10 1),(2,I0 12 5),(3,I6 13 1 2),(4,I7 14 13),(5,I0 15 1),(7,I0 17 5),(9,I6 19 3 2),(10,I7 20 19),(1,I1 11 (.call 194 [(.t 10),(.c (.emp))])),(6,I1 16 (.call 193 [(.t 14),(.t 15)])),(8,I1 18 (.call 193 [(.t 16),(.t 17)])),(11,I1 21 (.call 194 [(.t 20),(.c (.emp))]))],[(12,I1 22 (.build T4 [(0,1,(.t 11)),(1,1,(.t 12)),(2,1,(.t 18)),(3,1,(.t 21))]))],[(13,I9 4 4 22)]] (bm [0,1,0,0,8,0,59,0,251,0,512,2043,4095,8191])) .ret)))⟩
def Sk:FT:=⟨3,38,[.tmp 4],[0,1,2,4,6],true,(.seq (.reg 0 [p 3 W5,y 4 (.emp)]) (.seq (.ifc 7 [] (.or (.or (.or (no (Am 47 (v 0))) (no (Am 62 (la 9 (d 3))))) (bk .lss 0 (v 2))) (bk .gtr 1 (v 2))) (.seq (.reg 0 [y 4 (.emp)]) .ret) .skip) (.seq (.rawE [[(0,I0 23 0),(1,I0 24 2),(2,I6 25 2 4),(3,I7 26 25),(5,I1 28 (.load true 9 (.t 4))),(8,I0 31 0),(9,I0 32 2),(10,I1 33 (.bini .add (.t 32) (KI 2))),(11,I6 34 2 4),(12,I7 35 34),(14,I1 37 (.load true 9 (.t 4))),(4,I1 27 (.call 22 [(.t 23),(.t 24),(.t 26)])),(6,I1 29 (.call 23 [(.t 28)])),(7,I1 30 (.build Z4 [(0,1,(.t 27)),(1,1,(.t 29))])),(13,I1 36 (.call 22 [(.t 31),(.t 33),(.t 35)])),(15,I1 38 (.call 23 [(.t 37)])),(16,I1 39 (.build Z4 [(0,1,(.t 36)),(1,1,(.t 38))]))],[(17,I1 40 (.bslice 2 2 Z4 [(0,(.t 30)),(1,(.t 39))]))],[(18,I0 6 40)]] (bm [0,0,0,4,15,0,63,127,0,0,512,0,2048,8063,0,32639,65407,131071,262143])) .ret)))⟩
def ad7:FT:=⟨1,62,[.cell 1 true 4],[0,2,3,4,5,6,7,8,9,52,57],true,(.seq (.reg 0 [p 1 Vh]) (.seq W4 (.seq (.seq Lf (.block 0 (.loop [0,1,2,3] [] (.seq (.ifc 10 [] R7 .skip W7) (.seq (.block 1 (.reg 16 [m 2 (bs .add (v 2) Yo)])) (.reg 14 [m 3 Lg])))))) (.seq (.reg 0 [p 4 Vh]) (.seq (.seq R4 (.block 2 (.loop [1,2,4,5] [] (.seq (.ifc 22 [] (b2 .lss (v 5) (ls (v 2))) .skip J5) (.seq (.block 3 (.seq (.reg 0 [y 6 (.int .u32 0)]) (.seq (.seq (.reg 0 [z 7 3]) (.block 4 (.loop [1,2,4,5,6,7] [] (.seq (.ifc 28 [] (bk .geq 0 (v 7)) .skip (.exit 4)) (.seq (.block 5 (.seq (.reg 32 [m 6 (.op (.bini .mul (.t 0) (.c (.int .u32 256))) [(v 6)])]) (.ifc 34 [] (b2 .lss (b2 .add (v 5) (v 7)) (ls (v 2))) (.reg 40 [m 6 (b2 .add (v 6) (cv .u32 (ix (v 2) (b2 .add (v 5) (v 7)))))]) .skip))) (.reg 30 [m 7 (bk .sub 1 (v 7))])))))) (.seq (.reg 0 [z 8 0]) (.block 6 (.loop [1,2,4,5,6,8] [] (.seq (.ifc 48 [] (bk .lss 4 (v 8)) .skip (.exit 6)) (.seq (.block 7 (.seq (.reg 53 [m 9 (d 8),p 10 (b2 .add (ld (.op R8 [(d 4),(v 8)])) (v 6)),s 1 (.op R8 [(d 4),(d 9)]) (d 10)]) (.reg 59 [m 6 (ld (.op R8 [(d 4),(v 8)]))]))) (.reg 50 [m 8 (bk .add 1 (v 8))]))))))))) (.reg 26 [m 5 (bk .add 4 (v 5))])))))) (.seq (.reg 62 [s 4 (d 1) (la 4 (d 4))]) .ret))))))⟩
def ad6:FT:=⟨1,8,[.tmp 1],[0,2],true,W46⟩
def Xp:FT:=⟨2,29,[.tmp 2],[0,1,4],true,(.seq W2 (.seq (.reg 5 [m 2 (.and (Am 185 (v 1)) (.or (bk .eql 0 Nh) (.and (bk .geq 14 (ld (fa 0 (ik 2 0 (v 1))))) (b2 .leq (ld (fa 1 (ia 2 (v 1) (bk .sub 1 Nh)))) (.op Pr [(v 0)])))))]) .ret))⟩
def ad5:FT:=⟨2,6,[.tmp 2],[0,1,4],true,(.seq Nd (.seq (.reg 5 [m 2 (.op (.call 228 [(.t 0),(.t 1),Ik]) [(v 0),(v 1)])]) .ret))⟩
def ad4:FT:=⟨2,26,[.tmp 2],[0,1,4,5],true,(.seq W2 (.seq (.seq Lf (.block 0 (.loop [0,1,3] [] (.seq a5i (.seq (.block 1 (.ifc 12 [] (.and (b2 .geq (v 1) (ld (fa 0 Vo))) (b2 .lss (v 1) (ld (fa 1 Vo)))) Te .skip)) (.reg 10 [m 3 Lg])))))) J6))⟩
def ad3:FT:=⟨1,33,[.tmp 1,.tmp 2,.tmp 3],[0,2,3,4,6,7,9,10,11,12,27,30,32,33],true,(.seq (.reg 0 [y 1 (.emp),z 2 0,y 3 (.bool false)]) (.seq (.seq (.reg 8 [p 6 (.op (.convsb (.t 0)) [(v 0)]),p 7 (ln (d 6)),z 8 0]) (.block 0 (.loop [1,2,6,7,8] [(1,1)] (.seq Yt (.seq Yx (.seq (.block 1 (.seq (.reg 13 [m 4 (ld (ia 1 (d 6) (d 8)))]) (.seq (.reg 15 [m 5 (bk .sub 48 (cv .i64 (v 4)))]) (.seq (.ifc 18 [] (.or (bk .lss 1 (v 5)) (bk .gtr 4 (v 5))) (.seq (.reg 0 [y 1 (.emp),z 2 0,y 3 (.bool false)]) .ret) .skip) (.reg 24 [p 10 (.op Tc [(v 1),(.op R9 [(v 5)])]),p 11 (b2 .add (v 2) (v 5)),m 1 (d 10),m 2 (d 11)]))))) (.reg 31 [m 8 Yw]))))))) (.seq (.reg 0 [m 12 (d 1),m 13 (d 2),m 1 (d 12),m 2 (d 13),y 3 (.bool true)]) .ret)))⟩
def ad0:FT:=⟨1,26,[.tmp 2],[0,1,2],true,(.seq Pq (.seq (.ifc 3 [] (bk .eql 0 (ld W6)) (.seq (.reg 6 [m 2 (.op W87 [(la 6 (d 1)),Nf])]) .ret) .skip) (.seq (.reg 9 [m 2 (.and (.and (.and (bk .gtr 0 (ld W6)) (bk .leq 65535 (ld W6))) (bk .geq 0 Ok)) (bk .leq 1073741824 Ok))]) .ret)))⟩
def ac9:FT:=⟨1,27,[.cell 1 true 6],[0,2,3,4,13,14,16,22,25],true,(.seq (.reg 0 [p 1 Ij]) (.seq (.rawE [[(0,I0 5 0),(1,I1 6 (.iaddr 1 (.t 5) (KI 0))),(2,I7 7 6),(3,I0 8 0),(4,I1 9 (.iaddr 1 (.t 8) (KI 1))),(5,I7 10 9),(6,I1 11 (.build Z3 [(0,1,(.t 7)),(1,1,(.t 10))])),(7,I1 12 (.build Z3 [(0,6,(.t 11))])),(8,I1 3 (.alloc Z3))],[(9,I9 6 3 12)]] (bm [0,1,3,0,8,24,63,127,0,511])) (.seq (.seq Oj (.block 0 (.loop [0,1,2,4] [] (.seq (.reg 0 [p 5 (bk .lss 4 (d 4))]) (.seq (.ifv 5 .skip W7) (.seq (.block 1 (.seq (.reg 15 [m 3 (v 4)]) (.reg 17 [m 6 (d 3),p 7 (cv .u32 (ld (ia 1 (v 0) (.op (.bini .add Ik (.t 0)) [(v 3)])))),p 8 (.op R8 [(fa 2 Ft),(d 6)]),s 1 (d 8) (d 7)]))) (.reg 26 [m 4 (bk .add 1 (d 4))]))))))) (.seq (.reg 27 [s 6 (d 1) (la 6 (d 2))]) .ret))))⟩
def ac8:FT:=⟨2,10,[.tmp 2],[0,1,4],true,(.seq W2 (.seq (.reg 5 [m 2 (.and (bk .geq 0 (v 0)) (b2 .leq (v 0) (v 1)))]) .ret))⟩
def ac7:FT:=⟨1,22,[.tmp 1],[0,2,3,5,6,7,8,9,11],true,(.seq Ol (.seq W4 (.seq (.seq am9 (.block 0 (.loop [2,4,5,6] [] (.seq W72 (.seq Za (.seq (.block 1 (.seq (.reg 10 [p 8 (la 6 (ia 6 (d 4) (d 6))),p 3 Ij,s 6 (d 3) (d 8)]) (.seq (.ifc 12 [] (no (Am 160 (la 6 (d 3)))) (.seq Ol .ret) .skip) (.reg 15 [m 2 (bs .add (v 2) (.op (.call 164 [al9,(.t 0)]) [(Am 229 (.op (.build Z3 [(0,6,(.t 0))]) [(la 6 (d 3))]))]))])))) (.reg 21 [m 6 Yz]))))))) (.seq (.reg 22 [m 1 (v 2)]) .ret))))⟩
def ac6:FT:=⟨2,52,[.tmp 2],[0,1,4,5,6,7,8,9,10,11,12,15,16,17,27,28,29,30,31,33],true,(.seq W4 (.seq (.reg 13 [m 10 (Am 159 (v 0)),p 11 Th,p 12 Tg,p 13 (ex 2 (d 10)),m 3 (d 11),m 4 (d 12),m 5 (d 13)]) (.seq (.ifc 18 [] (.or (no (v 5)) (b2 .neq (ln (v 3)) Nh)) Ho .skip) (.seq (.reg 0 [y 6 (.emp)]) (.seq (.seq (.reg 0 [m 14 (d 1),p 15 (ln (d 14)),z 16 0]) (.block 0 (.loop [3,6,14,15,16] [(6,1)] (.seq (.reg 0 [p 17 (b2 .lss (d 16) (d 15))]) (.seq (.ifv 17 .skip W7) (.seq (.block 1 (.seq (.reg 32 [m 18 (d 16),p 19 (ld (ia 1 (d 14) (d 16))),m 7 (d 18),m 8 (d 19)]) (.seq (.reg 34 [m 9 (bk .sub 1 (ld (ia 1 (v 3) (v 7))))]) (.block 2 (.loop [3,6,8,9,14,15,16] [(6,1)] (.seq (.ifc 39 [] (bk .geq 0 (v 9)) .skip J5) (.seq (.block 3 (.reg 43 [m 6 (.op (.append 1 1 T3 (.t 0) (.t 1)) [(v 6),(.op (.bslice 1 1 T3 [(0,(.t 0))]) [(cv .u8 (b2 .shr (v 8) (.op a5g [(v 9)])))])])])) (.reg 41 [m 9 (bk .sub 1 (v 9))])))))))) (.reg 51 [m 16 (bk .add 1 (d 16))]))))))) (.seq (.reg 52 [m 2 (.op Pm [(v 6)])]) .ret))))))⟩
def ac5:FT:=⟨2,49,[.tmp 3],[0,1,2,4],true,(.seq Om (.seq (.reg 5 [m 3 (.and (.and (.and (.and (.and (.and (b2 .gtr (ld (fa 0 Ft)) (v 1)) (bk .leq 65535 (ld (fa 0 Ft)))) (.or (bk .eql 1 (ld (fa 1 Ft))) (bk .eql 2 (ld (fa 1 Ft))))) (.op (.call 162 [(.t 0),(.c (.int .i64 65535))]) [(ld (fa 2 Ft))])) (.op (.call 162 [(.t 0),(.c (.int .i64 255))]) [(ld (fa 3 Ft))])) (Am 160 (la 6 (fa 5 (d 2))))) (.op W57 [(la 6 (fa 5 (d 2))),Nf]))]) .ret))⟩
def ac4:FT:=⟨1,21,[.tmp 2],[0,1,2],true,(.seq Td (.seq (.rawE [[(0,I6 3 0 1),(1,I6 4 0 3),(2,I7 5 4),(3,I6 6 0 1),(4,I6 7 1 6),(5,I7 8 7),(6,I6 9 0 1),(7,I6 10 2 9),(8,I7 11 10),(9,I6 12 0 1),(10,I6 13 3 12),(11,I7 14 13),(12,I1 15 (.bslice 1 4 Z5 [(0,(.t 5)),(1,(.t 8)),(2,(.t 11)),(3,(.t 14))])),(14,I6 17 5 1),(15,I1 18 (.load true 6 (.t 17))),(16,I1 19 (.bslice 6 1 Z3 [(0,(.t 18))])),(13,I1 16 (.call 164 [(.c (.str [50,49,50,49])),(.t 15)]))],[(17,I1 20 (.call 163 [(.t 19)]))],[(18,I1 21 (.bins .add (.t 16) (.t 20)))],[(19,I0 2 21)]] (bm [0,1,3,0,8,24,0,64,192,0,512,1536,4095,8191,0,16384,49152,131071,262143,524287])) .ret))⟩
def ac3:FT:=⟨1,8,[.tmp 1],[0,2],false,(.seq a5c (.seq (.reg 3 [m 1 (.op (.slice3 (.t 0) Me (.t 1) (.t 2)) [(v 0),Dt,Dt])]) .ret))⟩
def Qo:FT:=⟨1,74,[.cell 1 true 5,.tmp 2,.tmp 3,.tmp 4],[0,2,3,4,5,6,7,8,9,12,13,14,38,45,46,47,51,54,55,56,68],true,(.seq (.reg 0 [p 1 Po,z 2 0,y 3 (.emp),y 4 (.bool false)]) (.seq (.reg 10 [m 8 (.op (.call 103 [(.c (.str [49,49,49])),(.t 0)]) [(v 0)]),p 9 (ex 0 (d 8)),p 10 (ex 1 (d 8)),p 11 (ex 2 (d 8)),m 5 (d 9),m 6 (d 10),m 4 (d 11)]) (.seq (.ifc 15 [] (.or (no (v 4)) (b2 .lss (ls (v 6)) (ld (ik 1 2 (v 5))))) (.seq (.reg 25 [s 5 (d 1) Yp,z 2 0,y 3 (.emp),y 4 (.bool false)]) .ret) .skip) (.seq (.rawE [[(0,I0 26 6),(1,I1 27 (.iaddr 1 (.t 26) (KI 0))),(2,I7 28 27),(3,I0 29 6),(4,I1 30 (.iaddr 1 (.t 29) (KI 1))),(5,I7 31 30),(6,I0 32 7),(7,I0 33 6),(8,I1 34 (.iaddr 1 (.t 33) (KI 2))),(9,I7 35 34),(10,I1 36 (.slices (.t 32) none (some (.t 35))))],[(11,I1 37 (.build Z9 [(0,1,(.t 28)),(1,1,(.t 31)),(2,1,(.t 36))]))],[(12,I9 5 2 37)]] (bm [0,1,3,0,8,24,0,0,128,384,960,2047,4095])) (.seq (.reg 39 [m 12 (.op (.call 103 [(.c (.str [50])),(.t 0)]) [(.op (.slices (.t 0) (some (.t 1)) none) [(v 6),(ld (ik 1 2 (v 5)))])]),p 13 (ex 0 (d 12)),p 14 (ex 1 (d 12)),p 15 (ex 2 (d 12)),m 7 (d 13),m 6 (d 14),m 4 (d 15)]) (.seq (.ifc 48 [] (no (v 4)) (.seq (.reg 50 [s 5 (d 1) Yp,z 2 0,y 3 (.emp),y 4 (.bool false)]) .ret) .skip) (.seq (.reg 52 [m 16 (.op (.call 104 [(.t 0),Md]) [(v 6)]),p 17 (ex 0 (d 16)),p 18 (ex 1 (d 16)),p 19 (ex 2 (d 16)),m 3 (d 17),m 4 (d 19)]) (.seq (.seq (.rawE [[(0,I0 57 5)],[(1,I1 58 (.un .not (.t 57)))],[(2,I0 59 58)],[(3,I3 60 59 (.load true 5 (.t 2))),(4,I5 61 59 8),(5,I3 62 59 (.iaddr 1 (.t 61) (KI 0))),(6,I3 63 59 (.load false 1 (.t 62))),(7,I5 64 59 4),(9,I5 66 59 0),(8,I3 65 59 (.call 230 [(.t 60),(.t 63),(.t 64)]))],[(10,I3 67 59 (.bins .neq (.t 65) (.t 66)))],[(11,I1 68 (.pick (.t 59) W9 (.t 67)))]] (bm [0,1,3,7,7,23,55,7,255,7,1023,2047])) (.ifv 20 (.seq (.reg 69 [s 5 (d 1) Yp,z 2 0,y 3 (.emp),y 4 (.bool false)]) .ret) .skip)) (.seq (.rawE [[(0,I1 70 (.load true 5 (.t 2))),(1,I0 71 8),(2,I1 72 (.iaddr 1 (.t 71) (KI 0))),(3,I7 73 72),(4,I0 74 4),(5,I9 5 2 70),(6,I0 3 73)],[(7,I0 4 74)],[(8,I1 5 (.mv W9))]] (bm [0,0,2,6,0,1,47,127,255])) .ret)))))))))⟩
def ac2:FT:=⟨2,7,[.tmp 2],[0,1,4],true,(.seq W2 (.seq (.reg 5 [m 2 (bk .geq 0 (B1 231 (v 0) (v 1)))]) .ret))⟩
def ac1:FT:=⟨1,5,[.tmp 2],[0,1,2],false,(.seq Pq (.seq (.reg 3 [m 2 (.op W57 [(la 6 (d 1)),Nf])]) .ret))⟩
def ac0:FT:=⟨1,21,[.tmp 1],[0,2],true,(.seq W1 (.seq (.reg 3 [m 1 (.and (.and (.and (.and (.op W77 [(v 0)]) (bk .leq 8 (ls (v 0)))) (Am 232 (v 0))) (.op (.bins .neq (.t 0) (.c (.str [46]))) [(v 0)])) (.op (.bins .neq (.t 0) (.c (.str [46,46]))) [(v 0)]))]) .ret))⟩
def ab9:FT:=⟨3,66,[.tmp 3,.tmp 4],[0,1,2,6,7,8,9,10,11,12,13,14,15,16,17,19,20,35,40,67,68],false,(.seq (.reg 0 [y 3 (.str []),z 4 0]) (.seq (.seq (.reg 0 [m 10 (d 2),p 11 (ln (d 10)),z 12 0]) (.block 0 (.loop [0,1,3,4,10,11,12] [] (.seq (.reg 0 [p 13 (b2 .lss (d 12) (d 11))]) (.seq (.ifv 13 .skip W7) (.seq (.block 1 (.seq (.reg 18 [m 14 (d 12),p 15 (la 6 (ia 6 (d 10) (d 12))),p 6 Ij,m 5 (d 14),s 6 (d 6) (d 15)]) (.seq (.rawE [[(0,I0 21 0),(1,I1 22 (.nilchk (.t 21))),(2,I6 23 0 22),(3,I1 24 (.load true 5 (.t 23))),(4,I1 25 (.load true 6 (.t 9)))],[(5,I1 26 (.call 30 [(.t 24),(.t 25),(KI 1)]))],[(6,I0 20 26)],[(7,I8 27 20 0),(8,I8 28 20 1),(9,I0 10 27)],[(10,I0 11 28)]] (bm [0,1,3,7,0,31,63,127,127,255,1023])) (.seq (.reg 29 [m 9 (.op (.min2 (.t 0) Ta) [(.op (.max2 (.t 0) Me) [(b2 .sub (v 1) (bk .mul 32 (v 5)))])])]) (.seq (.block 2 (.seq (.reg 36 [m 17 (.op W87 [(la 6 (d 6)),Nf])]) (.ifv 17 (.reg 39 [m 7 (.op (.call 233 [Ta]) [])]) (.seq (.seq (.reg 41 [m 18 Mg]) (.ifv 18 .skip (.seq (.reg 43 [m 18 (bk .neq 32 (ls (v 7)))]) (.ifv 18 .skip (.seq (.reg 46 [m 18 (bs .eql (v 7) (.op (.call 233 [Ta]) []))]) (.ifv 18 .skip (.rawE [[(0,I0 49 10),(1,I0 50 12),(2,I1 51 (.slices (.t 49) (some (.t 50)) none)),(3,I0 52 12),(4,I1 53 (.bini .sub (KI 32) (.t 52))),(5,I1 54 (.call 233 [(.t 53)]))],[(6,I1 55 (.bins .neq (.t 51) (.t 54)))],[(7,I0 40 55)]] (bm [0,0,3,0,8,24,63,127])))))))) (.ifv 18 (.rawE [[(1,I0 57 7),(2,I0 58 8),(3,I1 59 (.bini .shl (KI 1) (.t 58))),(4,I1 60 (.bini .or (.t 57) (.t 59))),(0,I1 56 (.call 233 [(KI 32)])),(5,I0 10 56)],[(6,I0 7 60)]] (bm [0,0,0,4,14,1,63])) .skip))))) (.reg 61 [m 3 (bs .add (v 3) (v 7))])))))) (.reg 64 [m 12 (bk .add 1 (d 12))]))))))) (.seq (.reg 65 [p 19 (.op (.slices (.t 0) none (some (.t 1))) [(v 3),(v 1)]),m 20 (d 4),m 3 (d 19),m 4 (d 20)]) .ret)))⟩
def ab8:FT:=⟨1,53,[.cell 2 true 1],[0,1,2,3,4,5,9,11,12,13,14,15,17,18,37],true,(.seq (.reg 0 [p 1 W0,p 2 (.op (.alloc [.emp]) [])]) (.seq (.reg 6 [p 6 (.op al8 [(Am 234 (ld W6))]),p 3 (.op (.alloc [.emp]) []),s 1 (d 3) (d 6)]) (.seq (.seq (.reg 10 [p 7 Kg,p 8 (ln (d 7)),z 9 0]) (.block 0 (.loop [2,3,7,8,9] [] (.seq am7 (.seq (.ifv 10 .skip W7) (.seq (.block 1 (.seq (.reg 16 [m 11 (d 9),p 12 (la 5 (ia 5 (d 7) (d 9))),p 5 Po,m 4 (d 11),s 5 (d 5) (d 12)]) (.block 2 (.seq (.reg 19 [m 13 (.and (.and (bk .eql 1 (ld (fa 0 (d 5)))) (bk .gtr 0 (ld (fa 4 (d 5))))) (bk .leq 15 (ld (fa 4 (d 5)))))]) (.ifv 13 (.reg 32 [e (.store 1 (.t 0) Me) [(fa 4 (ia 5 Kg (v 4)))]]) (.seq (.reg 38 [m 14 (.and (.op (.eqs false [.i,.i,.s,.s,.i] (.t 0) (.t 1)) [(la 5 (d 5)),am0]) (bk .gtr 0 (v 4)))]) (.ifv 14 (.rawE [[(0,I6 45 0 3),(1,I7 46 45),(2,I0 47 4),(3,I1 48 (.load true 1 (.t 3))),(4,I1 49 (.call 235 [(.t 48)])),(5,I1 50 (.build Z9 [(0,1,(KI 2)),(2,1,(.t 49))]))],[(6,I1 51 (.iaddr 5 (.t 46) (.t 47)))],[(7,I9 5 51 50)]] (bm [0,1,0,0,8,24,63,127])) .skip))))))) (.reg 52 [m 9 (bk .add 1 (d 9))]))))))) (.seq (.reg 53 [s 1 (d 2) (la 1 (d 3))]) .ret))))⟩
def Xo:FT:=⟨1,63,[.tmp 2],[0,1,2,4,5,6,21,22,23,24,26,38,39,40,41,42,44],true,(.seq Pq (.seq (.ifc 7 [] (.or (bk .neq 8 (ln (ld W6))) (.op Vl [(la 5 (ik 5 0 (ld W6))),Yr])) J6 .skip) (.seq (.seq (.reg 19 [p 6 (.op (.slicel 5 (.t 0) (some Mf) none) [(ld W6)]),p 7 (ln (d 6)),z 8 0]) (.block 0 (.loop [1,6,7,8] [] (.seq Yt (.seq Yx (.seq (.block 1 (.seq (.reg 25 [p 10 (la 5 (ia 5 (d 6) (d 8))),p 3 Po,s 5 (d 3) (d 10)]) (.ifc 27 [] (.and (.op Vl [(la 5 (d 3)),Yp]) (no (B1 236 (la 1 (d 1)) (la 5 (d 3))))) J6 .skip))) (.reg 36 [m 8 Yw]))))))) (.seq (.seq (.reg 37 [p 11 (ld W6),p 12 (ln (d 11)),z 13 0]) (.block 2 (.loop [1,11,12,13] [] (.seq (.reg 0 [p 14 (b2 .lss (d 13) (d 12))]) (.seq (.ifv 14 .skip J5) (.seq (.block 3 (.seq (.reg 43 [m 15 (d 13),p 16 (la 5 (ia 5 (d 11) (d 13))),p 5 Po,m 4 (d 15),s 5 (d 5) (d 16)]) (.ifc 45 [] (.and (.and (bk .gtr 0 (v 4)) (bk .neq 0 (ld (fa 0 (d 5))))) (.or (no (B1 237 (la 1 (d 1)) (v 4))) (B1 238 (la 1 (d 1)) (v 4)))) J6 .skip))) (.reg 63 [m 13 (bk .add 1 (d 13))]))))))) Te))))⟩
def ab7:FT:=⟨2,6,[.tmp 3],[0,1,3,4],true,(.seq (.reg 0 [p 2 W5,z 3 0]) (.seq (.reg 5 [m 3 (B1 239 (v 0) (.op (.mkfn (.func 240) [] [(.t 0)]) [(d 2)]))]) .ret))⟩
def ab6:FT:=⟨1,31,[.tmp 2],[0,1,2],true,(.seq Pq (.seq (.reg 3 [m 2 (.and (.and (.and (.and (bk .geq 1 Rc) (bk .leq 6 Rc)) (bk .geq 1 (ld (fa 1 W6)))) (bk .leq 1073741824 (ld (fa 1 W6)))) (bk .leq 249 (ls (ld (fa 2 W6)))))]) .ret))⟩
def a2m:FT:=⟨1,28,[.tmp 2],[0,1,2,3],true,(.seq Td (.seq (.ifc 4 [] (no (Am 178 (la 3 (d 1)))) Ho .skip) (.seq (.rawE [[(0,I6 7 0 1),(1,I6 8 0 7),(2,I7 9 8),(3,I6 10 0 1),(4,I6 11 1 10),(5,I7 12 11),(6,I6 13 0 1),(7,I6 14 2 13),(8,I7 15 14),(9,I1 16 (.len true (.t 15))),(10,I1 17 (.bslice 1 3 Z5 [(0,(.t 9)),(1,(.t 12)),(2,(.t 16))])),(12,I6 19 0 1),(13,I6 20 2 19),(14,I7 21 20),(11,I1 18 (.call 164 [a5f,(.t 17)]))],[(15,I1 22 (.bins .add (.t 18) (.t 21)))],[(16,I0 3 22)]] (bm [0,1,3,0,8,24,0,64,192,448,1023,2047,0,4096,12288,32767,65535])) (.seq (.reg 23 [m 2 (bs .add (v 3) (.op (.call 242 [(.c (.str [0])),(.t 0)]) [(.op am8 [(ls (v 3))])]))]) .ret))))⟩
def ab5:FT:=⟨2,9,[.tmp 3],[0,1,2,4],true,(.seq Om (.seq (.rawE [[(0,I6 5 2 2),(1,I1 6 (.load true 4 (.t 5))),(2,I0 7 1),(3,I1 8 (.bslice 1 1 [.str []] [(0,(.t 7))])),(4,I1 9 (.call 243 [(.t 8)]))],[(5,I1 10 (.eqs false [.i,.i,.i,.i] (.t 6) (.t 9)))],[(6,I0 4 10)]] (bm [0,1,0,4,12,31,63])) .ret))⟩
def a2l:FT:=⟨1,59,[.tmp 2],[0,1,2,4,15,16,17],true,(.seq Pq (.seq (.ifc 5 [] (.or (bk .lss 40 (ld (fa 4 (d 1)))) (bk .gtr 240 (ld (fa 4 (d 1))))) J6 .skip) (.seq (.seq (.reg 13 [p 4 (Am 244 (la 4 W6)),z 5 0]) (.block 0 (.loop [1,4,5] [] (.seq (.reg 0 [p 6 (bk .lss 4 (d 5))]) (.seq Vm (.seq (.block 1 (.seq (.reg 18 [m 3 (.op (.indexa false 4 1 (.t 0) (.t 1)) [(d 4),(d 5)])]) (.ifc 19 [] (.or (no (Am 182 (v 3))) (bk .gtr 0 (ln (B1 183 (v 3) (Am 245 (la 5 (d 1))))))) J6 .skip))) (.reg 30 [m 5 (bk .add 1 (d 5))]))))))) (.seq (.rawE [[(0,I6 31 0 1),(1,I6 32 0 31),(2,I6 33 0 32),(3,I7 34 33),(4,I6 35 0 1),(5,I6 36 0 35),(6,I6 37 1 36),(7,I7 38 37)],[(8,I1 39 (.call 246 [(.t 34),(.t 38)]))],[(9,I1 40 (.len false (.t 39)))],[(10,I1 41 (.bini .eql (.t 40) (KI 0)))],[(11,I0 42 41)],[(12,I2 43 42 (.faddr 0 (.t 1))),(13,I2 44 42 (.faddr 0 (.t 43))),(14,I2 45 42 (.faddr 0 (.t 44))),(15,I2 46 42 (.load false 1 (.t 45))),(16,I2 47 42 (.faddr 0 (.t 1))),(17,I2 48 42 (.faddr 0 (.t 47))),(18,I2 49 42 (.faddr 1 (.t 48))),(19,I2 50 42 (.load false 1 (.t 49))),(21,I2 52 42 (.faddr 0 (.t 1))),(22,I2 53 42 (.faddr 0 (.t 52))),(23,I2 54 42 (.faddr 2 (.t 53))),(24,I2 55 42 (.load false 1 (.t 54))),(20,I2 51 42 (.call 247 [(.t 46),(.t 50)]))],[(25,I2 56 42 (.call 246 [(.t 51),(.t 55)]))],[(26,I2 57 42 (.len false (.t 56)))],[(27,I2 58 42 (.bini .eql (.t 57) (KI 0)))],[(28,I1 59 (.pick (.t 42) (.t 58) T8))],[(29,I0 2 59)]] (bm [0,1,3,7,0,16,48,112,255,511,1023,2047,4095,8191,16383,32767,4095,69631,200703,462847,1048575,4095,2101247,6295551,14684159,33554431,67108863,134217727,268435455,536870911])) .ret))))⟩
def ab4:FT:=⟨1,30,[.tmp 1],[0,2,3,5,6,7,8,9,11],true,(.seq W1 (.seq (.reg 0 [y 2 (.int .i64 (-1))]) (.seq (.seq am9 (.block 0 (.loop [2,4,5,6] [] (.seq W72 (.seq Za (.seq (.block 1 (.seq (.reg 10 [p 8 (la 2 (ia 2 (d 4) (d 6))),p 3 (.op (.alloc Ii) []),s 2 (d 3) (d 8)]) (.seq (.ifc 12 [] (.or (.or (b2 .leq Kg (v 2)) (b2 .geq Kg Lh)) (bk .gtr 1073741824 Lh)) Ex .skip) (.reg 28 [m 2 Lh])))) (.reg 30 [m 6 Yz]))))))) Oo)))⟩
def ab3:FT:=⟨2,7,[.tmp 2],[0,1,4],true,(.seq Nd (.seq (.reg 5 [m 2 (.op (.call 248 [(.t 0),(.c (.fn (.func 249) [] []))]) [W55])]) .ret))⟩
def ab2:FT:=⟨2,6,[.tmp 3],[0,1,3,4],true,(.seq am3 (.seq (.reg 5 [m 3 (B1 250 (v 0) (.op (.mkfn (.func 251) [] [(.t 0)]) [(d 2)]))]) .ret))⟩
def ab1:FT:=⟨1,54,[.tmp 1],[0,2,3],true,(.seq W1 (.seq (.seq Jv (.block 0 (.loop [0,2] [] (.seq W65 (.seq (.block 1 (.ifd 10 [] (.or (.or (.or (bk .lss 0 (ld (fa 0 Ze))) (b2 .leq (ld (fa 1 Ze)) (ld (fa 0 Ze)))) (bk .gtr 1073741824 (ld (fa 1 Ze)))) (.and (bk .gtr 0 (v 2)) (b2 .leq (ld (fa 0 Ze)) (ld (fa 1 (ia 2 (v 0) (bk .sub 1 (v 2)))))))) Ex .skip)) (.reg 8 [m 2 Pn])))))) Oo))⟩
def Xn:FT:=⟨2,46,[.tmp 2,.tmp 3],[0,1,4,5,6,7,8],true,(.seq (.reg 0 [y 2 (.emp),y 3 (.bool false)]) (.seq (.ifc 9 [] (.or Zc (b2 .lss (Am 14 (v 0)) (v 1))) (.seq (.reg 0 [y 2 (.emp),y 3 (.bool false)]) .ret) .skip) (.seq (.reg 0 [y 4 (.emp)]) (.seq (.seq R4 (.block 0 (.loop [0,1,4,5] [(4,1)] (.seq (.ifc 17 [] (b2 .lss (v 5) Dt) .skip W7) (.seq (.block 1 (.seq (.reg 23 [m 6 (ld (fa 0 (ia 2 (v 0) (v 5))))]) (.block 2 (.loop [0,1,4,5,6] [(4,1)] (.seq (.ifc 28 [] (.and (b2 .lss (v 6) (ld (fa 1 (ia 2 (v 0) (v 5))))) (b2 .lss (ln (v 4)) (v 1))) .skip J5) (.seq (.block 3 (.reg 43 [m 4 (.op Tc [(v 4),(.op R9 [(v 6)])])])) (.reg 41 [m 6 Nb]))))))) (.reg 21 [m 5 T7])))))) (.seq (.reg 47 [m 2 (v 4),y 3 (.bool true)]) .ret)))))⟩
def ab0:FT:=⟨2,28,[.tmp 2],[0,1,4,5],true,(.seq W4 (.seq (.ifc 6 [] (.or (.or Zc (bk .geq 4 (v 1))) (bk .gtr 128 (ls (v 0)))) Ho .skip) (.seq (.reg 17 [m 3 (.op (.slices (.t 0) (some (.t 1)) (some (.t 2))) [(.op (.call 203 [(.t 0),(.c (.int .i64 128))]) [(v 0)]),(bk .mul 32 (v 1)),(bk .mul 32 (bk .add 1 (v 1)))])]) (.seq (.ifc 25 [] (bs .eql (v 3) (.op Pm [(.op (.mksl 1 1 T3 Ta Ta) [])])) Ho .skip) (.seq (.reg 29 [m 2 (v 3)]) .ret)))))⟩
def aa9:FT:=⟨4,167,[.cell 5 true 6],[0,1,2,3,6,8,9,10,11,12,13,62,70,149],false,(.seq (.reg 0 [p 4 (.op (.box (.t 0)) [(d 2)]),p 5 Ij]) (.seq (.reg 14 [m 6 (ld (fa 14 W3))]) (.seq (.seq (.reg 0 [z 7 0]) (.block 0 (.loop [0,1,3,4,5,6,7] [] (.seq (.ifc 18 [] (b2 .lss (v 7) (ln (v 6))) .skip W7) (.seq (.block 1 (.seq (.reg 0 [z 8 0]) (.block 2 (.loop [0,1,3,4,5,6,7,8] [] (.seq (.ifc 24 [] (.and (.and (b2 .lss (v 8) (ln (ld (fa 26 Vf)))) (b2 .lss (v 8) (ln (ld (fa 29 Vf))))) (b2 .lss (v 8) (ln (ld (fa 28 Vf))))) .skip J5) (.seq (.block 3 (.seq (.dreg 54 [p 11 (ld (fa 4 (ia 5 (ld (fa 26 Vf)) (v 8)))),p 12 (ld (ia 1 (ld (fa 29 Vf)) (v 8))),m 9 (d 11),m 10 (d 12)]) (.seq (.seq (.rawE [[(0,I0 71 1),(1,I0 72 12),(2,I1 73 (.len false (.t 72)))],[(3,I1 74 (.bini .geq (.t 71) (.t 73)))],[(4,I0 75 74)],[(5,I5 76 75 1),(6,I5 77 75 9),(7,I5 78 75 10),(8,I3 79 75 (.iaddr 30 (.t 77) (.t 78))),(9,I3 80 75 (.faddr 28 (.t 79))),(10,I3 81 75 (.load false 1 (.t 80))),(11,I5 82 75 11),(12,I3 83 75 (.iaddr 1 (.t 81) (.t 82))),(13,I3 84 75 (.load false 1 (.t 83))),(14,I3 85 75 (.len false (.t 84)))],[(15,I3 86 75 (.bini .geq (.t 76) (.t 85)))],[(16,I1 87 (.pick (.t 75) W9 (.t 86)))],[(17,I0 88 87)],[(18,I5 89 88 1),(19,I3 90 88 (.bini .add (.t 89) (KI 1))),(20,I3 91 88 (.bini .mul (.t 90) (KI 4))),(21,I5 92 88 13),(22,I3 93 88 (.len false (.t 92)))],[(23,I3 94 88 (.bini .gtr (.t 91) (.t 93)))],[(24,I1 95 (.pick (.t 88) W9 (.t 94)))],[(25,I0 96 95)],[(26,I5 97 96 12),(27,I5 98 96 1),(28,I3 99 96 (.iaddr 5 (.t 97) (.t 98))),(29,I3 100 96 (.faddr 0 (.t 99))),(30,I3 101 96 (.load false 1 (.t 100))),(31,I3 102 96 (.faddr 0 (.t 6))),(32,I3 103 96 (.load false 1 (.t 102)))],[(33,I3 104 96 (.bini .neq (.t 101) (.t 103)))],[(34,I1 105 (.pick (.t 96) W9 (.t 104)))],[(35,I0 106 105)],[(36,I5 107 106 12),(37,I5 108 106 1),(38,I3 109 106 (.iaddr 5 (.t 107) (.t 108))),(39,I3 110 106 (.faddr 1 (.t 109))),(40,I3 111 106 (.load false 1 (.t 110))),(41,I3 112 106 (.faddr 1 (.t 6))),(42,I3 113 106 (.load false 1 (.t 112)))],[(43,I3 114 106 (.bini .neq (.t 111) (.t 113)))],[(44,I1 115 (.pick (.t 106) W9 (.t 114)))],[(45,I0 116 115)],[(46,I5 117 116 12),(47,I5 118 116 1),(48,I3 119 116 (.iaddr 5 (.t 117) (.t 118))),(49,I3 120 116 (.faddr 2 (.t 119))),(50,I3 121 116 (.load false 1 (.t 120))),(51,I3 122 116 (.faddr 2 (.t 6))),(52,I3 123 116 (.load false 1 (.t 122)))],[(53,I3 124 116 (.bins .neq (.t 121) (.t 123)))],[(54,I1 125 (.pick (.t 116) W9 (.t 124)))],[(55,I0 126 125)],[(56,I5 127 126 12),(57,I5 128 126 1),(58,I3 129 126 (.iaddr 5 (.t 127) (.t 128))),(59,I3 130 126 (.faddr 3 (.t 129))),(60,I3 131 126 (.load false 1 (.t 130))),(61,I3 132 126 (.len true (.t 131))),(62,I3 133 126 (.faddr 3 (.t 6))),(63,I3 134 126 (.load false 1 (.t 133))),(64,I3 135 126 (.len true (.t 134)))],[(65,I3 136 126 (.bini .neq (.t 132) (.t 135)))],[(66,I1 137 (.pick (.t 126) W9 (.t 136)))],[(67,I0 138 137)],[(68,I5 139 138 13),(69,I5 140 138 1),(70,I3 141 138 (.bini .mul (.t 140) (KI 4))),(71,I5 142 138 1),(72,I3 143 138 (.bini .add (.t 142) (KI 1))),(73,I3 144 138 (.bini .mul (.t 143) (KI 4))),(74,I3 145 138 (.slicel 6 (.t 139) (some (.t 141)) (some (.t 144)))),(75,I5 146 138 3)],[(76,I3 147 138 (.call 35 [(.t 145),(.t 146)]))],[(77,I3 148 138 (.un .not (.t 147)))],[(78,I1 149 (.pick (.t 138) W9 (.t 148)))]] (bm [0,0,2,7,15,31,31,31,223,479,991,31,4063,8159,16351,32767,65535,131071,262143,524287,1048575,262143,2359295,8388607,16777215,33554431,67108863,67108863,268435455,536870911,1073741823,67108863,2214592511,8589934591,17179869183,34359738367,68719476735,68719476735,274877906943,549755813887,1099511627775,68719476735,2267742732287,8796093022207,17592186044415,35184372088831,70368744177663,70368744177663,281474976710655,562949953421311,1125899906842623,70368744177663,2322168557862911,9007199254740991,18014398509481983,36028797018963967,72057594037927935,72057594037927935,288230376151711743,576460752303423487,1152921504606846975,2305843009213693951,72057594037927935,4683743612465315839,13907115649320091647,36893488147419103231,73786976294838206463,147573952589676412927,295147905179352825855,295147905179352825855,885443715538058477567,295147905179352825855,2656331146614175432703,7378697629483820646399,18889465931478580854783,295147905179352825855,75557863725914323419135,151115727451828646838271,302231454903657293676543])) (.ifv 13 (.exit 3) .skip)) (.seq (.reg 150 [s 6 (d 5) (B1 253 (v 0) (la 6 (ia 6 (ld (ia 1 (ld (fa 28 Vf)) (v 8))) (v 1))))]) .ret)))) (.reg 52 [m 8 (bk .add 1 (v 8))]))))))) (.reg 22 [m 7 (bk .add 1 (v 7))])))))) (.seq (.reg 163 [s 6 (d 5) (.op (.call 191 [(.t 0),Ik,(.t 1)]) [(v 0),(Sy 53 (la 5 (d 4)) (ls (ld (fa 3 (d 4)))) (v 3))])]) .ret))))⟩
def aa8:FT:=⟨2,60,[.cell 2 true 6],[0,1,4,5,6,7],false,(.seq (.reg 0 [p 2 Ij]) (.seq (.reg 8 [m 3 (ld (fa 14 W3))]) (.seq (.seq Oj (.block 0 (.loop [0,1,2,3,4] [] (.seq (.ifc 12 [] (b2 .lss (v 4) (ln (v 3))) .skip W7) (.seq (.block 1 (.seq R4 (.block 2 (.loop [0,1,2,3,4,5] [] (.seq (.ifc 18 [] (.and (b2 .lss (v 5) (ln (ld (fa 27 (ia 30 (v 3) (v 4)))))) (b2 .lss (v 5) (ln (ld (fa 28 (ia 30 (v 3) (v 4))))))) .skip J5) (.seq (.block 3 (.ifc 38 [] (B1 35 (ld (ia 1 (ld (fa 28 (ia 30 (v 3) (v 4)))) (v 5))) (v 1)) (.seq (.reg 48 [s 6 (d 2) (B1 253 (v 0) (la 6 (ia 6 (ld (fa 27 (ia 30 (v 3) (v 4)))) (v 5))))]) .ret) .skip)) (.reg 36 [m 5 T7]))))))) (.reg 16 [m 4 Mc])))))) (.seq (.reg 58 [s 6 (d 2) (.op (.call 191 [(.t 0),Kh,(.t 1)]) [(v 0),(Am 54 (v 1))])]) .ret))))⟩
def a2k:FT:=⟨3,70,[.cell 3 true 6],[0,1,2,6,7,8,31],false,(.seq (.reg 0 [p 3 Ij]) (.seq (.ifd 9 [] (b2 .geq (ln (ld (fa 1 (fa 0 W3)))) (ln (ld (fa 11 W3)))) (.seq (.reg 21 [e (.store 1 (.t 0) W9) [(fa 13 W3)]]) (.seq (.reg 24 [s 6 (d 3) Nf]) .ret)) .skip) (.seq (.reg 25 [p 6 (.op (.build Z6 [(0,1,(.t 0)),(1,1,(.t 1)),(2,1,(.t 2))]) [(v 1),(ld (fa 10 W3)),(v 2)]),p 4 (.op (.alloc Z6) []),s 3 (d 4) (d 6)]) (.seq (.dreg 32 [m 5 (ld (ia 1 (ld (fa 11 W3)) (ln (ld (fa 1 (fa 0 W3))))))]) (.seq (.rawE [[(0,I0 44 0),(1,I0 45 0),(2,I0 46 0),(3,I1 47 (.nilchk (.t 46))),(4,I6 48 0 47),(5,I6 49 0 48),(6,I7 50 49),(7,I1 51 (.load true 3 (.t 7))),(8,I1 52 (.bslice 3 1 Z6 [(0,(.t 51))])),(9,I1 53 (.append 3 32 Z6 (.t 50) (.t 52))),(10,I0 54 0),(11,I1 55 (.nilchk (.t 54))),(12,I6 56 0 55),(13,I6 57 1 56),(14,I7 58 57),(15,I0 59 8),(16,I1 60 (.bslice 1 1 Z5 [(0,(.t 59))])),(17,I1 61 (.append 1 8 Z5 (.t 58) (.t 60))),(18,I1 62 (.nilchk (.t 44))),(19,I6 63 0 62),(20,I6 64 0 63),(21,I9 1 64 53)],[(22,I1 65 (.nilchk (.t 45)))],[(23,I6 66 0 65)],[(24,I6 67 1 66)],[(25,I9 1 67 61)]] (bm [0,0,0,4,12,28,60,0,128,508,0,1024,3072,7168,15360,0,32768,131068,262141,524285,1048573,2097149,4194303,8388607,16777215,33554431])) (.seq (.reg 68 [s 6 (d 3) (B1 253 (v 0) (B1 20 (v 5) (la 3 (d 4))))]) .ret))))))⟩
def aa7:FT:=⟨1,36,[.tmp 1],[0,2,3,4],true,(.seq a5c (.seq Nd (.seq (.seq Lf (.block 0 (.loop [0,2,3] [] (.seq (.ifc 5 [] R7 .skip W7) (.seq (.block 1 (.ifc 11 [] (.and (bk .geq 0 Yo) (bk .lss 1073741824 Yo)) (.rawE [[(0,I0 23 3),(1,I0 24 0),(2,I0 25 4),(3,I1 26 (.iaddr 1 (.t 24) (.t 25))),(4,I7 27 26),(5,I0 28 0),(6,I0 29 4),(7,I1 30 (.iaddr 1 (.t 28) (.t 29))),(8,I7 31 30),(9,I1 32 (.bini .add (.t 31) (KI 1))),(10,I1 33 (.build Ii [(0,1,(.t 27)),(1,1,(.t 32))])),(11,I1 34 (.bslice 2 1 Ii [(0,(.t 33))]))],[(12,I1 35 (.call 194 [(.t 23),(.t 34)]))],[(13,I0 3 35)]] (bm [0,0,0,6,14,0,0,96,224,480,1022,2046,4095,8191])) .skip)) (.reg 9 [m 3 Lg])))))) (.seq (.reg 36 [m 1 (v 2)]) .ret))))⟩
def aa6:FT:=⟨2,6,[.tmp 2],[0,1,4],true,(.seq Nd (.seq (.reg 5 [m 2 (.op (.call 228 [(.t 0),(.t 1),Mf]) [(v 0),(v 1)])]) .ret))⟩
def a2j:FT:=⟨2,6,[.tmp 2],[0,1,4],true,(.seq Nd (.seq (.reg 5 [m 2 (.op (.call 228 [(.t 0),(.t 1),Me]) [(v 0),(v 1)])]) .ret))⟩
def aa4:FT:=⟨2,11,[.tmp 2],[0,1,4,5,6,10],true,(.seq W4 (.seq (.reg 7 [m 4 (d 1),m 3 (.op a5l [(d 4),(d 4)])]) (.seq (.reg 8 [p 5 (.op (.copy 1 (.t 0) (.t 1)) [(v 3),(v 0)])]) (.seq (.reg 11 [m 2 (.op Pm [(v 3)])]) .ret))))⟩
def Xm:FT:=⟨3,106,[.tmp 3],[0,1,2,6,7,8,9,10,11,84,87,92],true,(.seq Vj (.seq (.reg 12 [m 4 (B1 273 (v 0) (v 1))]) (.seq a5d (.seq (.seq Ti (.block 0 (.loop [0,1,2,4,5,6] [(5,2)] (.seq (.ifc 15 [] (b2 .lss Nb (ln (v 4))) .skip W7) (.seq (.block 1 (.seq (.rawE [[(0,I0 22 0),(1,I0 23 7),(2,I0 24 9),(3,I1 25 (.iaddr 1 (.t 23) (.t 24))),(4,I7 26 25),(6,I0 28 1),(7,I0 29 7),(8,I0 30 9),(9,I1 31 (.iaddr 1 (.t 29) (.t 30))),(10,I7 32 31),(5,I1 27 (.call 158 [(.t 22),(.t 26)]))],[(11,I1 33 (.call 158 [(.t 28),(.t 32)]))],[(12,I0 10 27)],[(13,I0 11 33)]] (bm [0,0,0,6,14,31,0,0,0,384,896,2047,4095,8191])) (.seq (.ifc 34 [] (.or (.or (.and (.and (bk .eql 0 (v 2)) (no (v 7))) Mg) (.and (bk .eql 1 (v 2)) (.or (no (v 7)) (v 8)))) (.and (bk .eql 2 (v 2)) (.or (no (v 7)) Mg))) (.exit 1) .skip) (.ifd 67 [] (.and (bk .gtr 0 (ln (v 5))) (b2 .eql (ld (fa 1 (ia 2 (v 5) (bk .sub 1 (ln (v 5)))))) (ld (ia 1 (v 4) (v 6))))) (.reg 85 [m 9 (d 5),p 10 (bk .sub 1 (ln (v 5))),p 11 (ld (ia 1 (v 4) Nb)),s 1 (fa 1 (ia 2 (d 9) (d 10))) (d 11)]) (.rawE [[(0,I0 95 8),(1,I0 96 7),(2,I0 97 9),(3,I1 98 (.iaddr 1 (.t 96) (.t 97))),(4,I7 99 98),(5,I0 100 7),(6,I0 101 9),(7,I1 102 (.bini .add (.t 101) (KI 1))),(8,I1 103 (.iaddr 1 (.t 100) (.t 102))),(9,I7 104 103),(10,I1 105 (.build Ii [(0,1,(.t 99)),(1,1,(.t 104))])),(11,I1 106 (.bslice 2 1 Ii [(0,(.t 105))]))],[(12,I1 107 (.append 2 16 Ii (.t 95) (.t 106)))],[(13,I0 8 107)]] (bm [0,0,0,6,14,0,0,64,224,480,1022,2046,4095,8191])))))) (.reg 20 [m 6 Nb])))))) (.seq (.reg 108 [m 3 (v 5)]) .ret)))))⟩
def aa2:FT:=⟨1,25,[.tmp 2],[0,1,2,3,5,15,16,17],true,(.seq (.reg 0 [p 1 W0,y 2 (.emp)]) (.seq (.reg 6 [m 3 (.op (.bslice 1 2 Z5 [(0,(.t 0)),(1,(.t 1))]) [Rc,(ld (fa 1 W6))])]) (.seq (.seq (.reg 13 [p 5 (la 4 (fa 2 W6)),z 6 0]) (.block 0 (.loop [3,5,6] [(3,1)] (.seq (.reg 0 [p 7 (bk .lss 4 (d 6))]) (.seq Za (.seq (.block 1 (.seq (.reg 18 [m 4 (.op (.indexa false 4 1 (.t 0) (.t 1)) [(d 5),(d 6)])]) (.reg 19 [m 3 (.op Tc [(v 3),(.op R9 [(cv .i64 (v 4))])])]))) (.reg 24 [m 6 Yz]))))))) (.seq (.reg 25 [m 2 (v 3)]) .ret))))⟩
def N5:FT:=⟨3,53,[.tmp 4],[0,1,2,3,6,7,26],true,(.seq (.reg 0 [p 3 W0,y 4 (.str [])]) (.seq (.block 0 (.seq (.seq (.reg 8 [m 5 (.and (bk .neq 1 Kg) (bk .neq 2 Kg))]) (.ifv 5 .skip (.seq (.reg 16 [m 5 (bk .lss 0 Lh)]) (.ifv 5 .skip (.seq (.reg 19 [m 5 (bk .geq 8 Lh)]) (.ifv 5 .skip (.reg 22 [m 5 (bk .gtr 8 (ls R5))]))))))) (.ifv 5 am4 (.seq (.seq (.reg 27 [m 6 Zc]) (.ifv 6 .skip (.seq (.reg 29 [m 6 (bk .gtr 128 (v 1))]) (.ifv 6 .skip (.seq (.reg 31 [m 6 (bk .neq 4 (ln (v 2)))]) (.ifv 6 .skip (.reg 34 [m 6 (.op am2 [(Am 163 (v 2))])]))))))) (.ifv 6 am4 .skip))))) (.seq (.rawE [[(0,I6 37 0 3),(1,I7 38 37),(2,I6 39 1 3),(3,I7 40 39),(4,I6 41 2 3),(5,I7 42 41),(6,I1 43 (.len true (.t 42))),(7,I1 44 (.bslice 1 3 Z5 [(0,(.t 38)),(1,(.t 40)),(2,(.t 43))])),(9,I6 46 2 3),(10,I7 47 46),(12,I0 49 1),(13,I1 50 (.bslice 1 1 Z5 [(0,(.t 49))])),(16,I0 53 2),(8,I1 45 (.call 164 [(.c (.str [49,49,49])),(.t 44)])),(11,I1 48 (.bins .add (.t 45) (.t 47))),(14,I1 51 (.call 164 [(.c (.str [50])),(.t 50)])),(15,I1 52 (.bins .add (.t 48) (.t 51))),(17,I1 54 (.call 163 [(.t 53)]))],[(18,I1 55 (.bins .add (.t 52) (.t 54)))],[(19,I0 6 55)]] (bm [0,1,0,4,0,16,48,127,255,0,512,2047,0,4096,12799,32767,0,94719,262143,524287])) .ret)))⟩
def aa0:FT:=⟨2,17,[.tmp 2],[0,1,4,5,7,8,9],true,(.seq Jv (.seq (.seq (.reg 6 [p 4 Dt,z 5 0]) (.block 0 (.loop [0,1,4,5] [] (.seq Ys (.seq Vm (.seq (.block 1 (.seq (.reg 10 [m 3 (v 5)]) (.ifc 11 [] (.op (.calld (.t 0) [(.t 1)]) [(v 1),a5j]) am1 .skip))) W85)))))) Yu))⟩
def a9z:FT:=⟨1,15,[.tmp 1],[0,2,4,6,7,8,9],true,(.seq W1 (.seq (.seq (.reg 5 [p 3 (.op (.convsb (.t 0)) [(v 0)]),p 4 (ln (d 3)),z 5 0]) (.block 0 (.loop [3,4,5] [] (.seq Ys (.seq Vm (.seq (.block 1 (.seq (.reg 10 [m 2 (ld (ia 1 (d 3) (d 5)))]) (.ifc 12 [] (bk .lss 0 (.op (.call 274 [(.c (.str [97,98,99,100,101,102,103,104,105,106,107,108,109,110,111,112,113,114,115,116,117,118,119,120,121,122,48,49,50,51,52,53,54,55,56,57,46,95,45])),(.t 0)]) [(v 2)])) Ex .skip))) (.reg 15 [m 5 (bk .add 1 (d 5))]))))))) Oo))⟩
def a2i:FT:=⟨1,5,[.tmp 1],[0,2],true,(.seq Ol (.seq (.reg 3 [m 1 (.op (.call 242 [(.c (.str [0])),(.t 0)]) [(.op (.max2 (.t 0) Me) [(v 0)])])]) .ret))⟩
def a9y:FT:=⟨1,11,[.tmp 2],[0,1,2,3],true,(.seq Td (.seq (.reg 0 [p 3 (.op (.alloc Z5) []),e (.store 1 (.t 0) Me) [(d 3)]]) (.seq (.block 0 (.loop [1,3] [] (.seq (.ifc 4 [] (B1 275 (ld W6) (.op (.mkfn (.func 276) [] [(.t 0)]) [(d 3)])) .skip W7) (.block 1 (.reg 8 [s 1 (d 3) (bk .add 1 (ld (d 3)))]))))) (.seq (.reg 10 [m 2 (Am 277 (ld (d 3)))]) .ret))))⟩
def Qn:FT:=⟨2,36,[.tmp 4],[0,1,2,3,4,5,22],true,(.seq an0 (.seq (.block 0 (.seq (.reg 6 [m 5 (.or (.or (bk .neq 0 (ld (fa 4 (d 3)))) (no (Am 171 R5))) (no (B1 278 (la 1 (d 2)) Lh)))]) (.ifv 5 W64 (.seq (.reg 23 [m 6 (bk .eql 1 Kg)]) (.ifv 6 (.seq (.reg 26 [m 4 (bk .leq 128 (ls Vn))]) .ret) .skip))))) (.seq (.reg 30 [m 4 (.and (bk .eql 2 Kg) (.op am2 [Vn]))]) .ret)))⟩
def a9x:FT:=⟨2,17,[.tmp 3],[0,1,2,4,7,8,9],true,(.seq Om (.seq (.seq (.reg 5 [p 4 (ln (ld Ft)),z 5 0]) (.block 0 (.loop [1,2,4,5] [] (.seq Ys (.seq Vm (.seq (.block 1 (.seq (.ifc 10 [] (bk .eql 0 (v 1)) (.seq (.reg 0 [y 3 (.bool true)]) .ret) .skip) (.reg 12 [m 1 (ld (fa 1 a5b))]))) W85)))))) (.seq a5k .ret)))⟩
def a9w:FT:=⟨2,48,[.tmp 3],[0,1,2,4,5,6,8,9,10,11,12,14],true,(.seq Om (.seq (.seq (.reg 7 [p 6 (ld Ft),p 7 (ln (d 6)),z 8 0]) (.block 0 (.loop [1,2,6,7,8] [] (.seq Yt (.seq Yx (.seq (.block 1 (.seq (.reg 13 [m 10 (d 8),p 11 (la 5 (ia 5 (d 6) (d 8))),p 5 Po,m 4 (d 10),s 5 (d 5) (d 11)]) (.ifd 15 [] (.and (.and (.and (.and (bk .gtr 0 (v 4)) (b2 .neq (v 4) (v 1))) (bk .neq 0 (ld (fa 0 (d 5))))) (b2 .eql (ld (fa 1 (d 5))) (ld (fa 1 a5b)))) (bs .eql (ld (fa 2 (d 5))) (ld (fa 2 a5b)))) (.seq (.reg 0 [y 3 (.bool true)]) .ret) .skip))) (.reg 49 [m 8 Yw]))))))) (.seq a5k .ret)))⟩
def a9v:FT:=⟨2,17,[.tmp 2],[0,1,4,5,7,8,9],true,W8⟩
def a9u:FT:=⟨2,6,[.tmp 3],[0,1,2,3],true,(.seq Om (.seq (.reg 4 [m 3 (b2 .eql (ld Ft) (ld (d 1)))]) .ret))⟩
def a9t:FT:=⟨1,54,[.cell 1 true 4],[0,2,3,4,5,6,7,8,9,26,27,28,29,30,32,41,42,44,46,48],true,(.seq (.reg 0 [p 1 Vh]) (.seq (.reg 0 [p 2 Vh]) (.seq (.reg 10 [m 3 (.op (.call 285 [(.t 0),(.c (.str []))]) [(v 0)])]) (.seq (.seq Oj (.block 0 (.loop [1,2,3,4] [] (.seq (.ifc 12 [] (b2 .lss (v 4) (ls (v 3))) .skip W7) (.seq (.block 1 (.seq (.reg 0 [y 5 (.int .u32 0)]) (.seq (.seq (.reg 18 [p 9 (.op (.convsb (.t 0)) [(.op (.slices (.t 0) (some (.t 1)) (some (.t 2))) [(v 3),(v 4),(.op (.min2 (.t 0) (.t 1)) [(bk .add 4 (v 4)),(ls (v 3))])])]),p 10 (ln (d 9)),z 11 0]) (.block 2 (.loop [1,2,3,4,5,9,10,11] [] (.seq (.reg 0 [p 12 (b2 .lss (d 11) (d 10))]) (.seq (.ifv 12 .skip J5) (.seq (.block 3 (.seq (.reg 31 [m 13 (d 11),p 14 (ld (ia 1 (d 9) (d 11))),m 6 (d 13),m 7 (d 14)]) (.reg 33 [m 5 (b2 .or (v 5) (b2 .shl (cv .u32 (v 7)) (.op a5g [(v 6)])))]))) (.reg 40 [m 11 (bk .add 1 (d 11))]))))))) (.seq (.reg 0 [z 15 0]) (.block 4 (.loop [1,2,3,4,5,15] [] (.seq (.reg 0 [p 16 (bk .lss 4 (d 15))]) (.seq (.ifv 16 .skip (.exit 4)) (.seq (.block 5 (.seq (.reg 43 [m 8 (v 15)]) (.seq (.reg 45 [m 17 (d 8),p 18 (ld (.op R8 [(d 2),(d 17)])),p 19 (b2 .add (d 18) (v 5)),s 1 (.op R8 [(d 2),(d 17)]) (d 19)]) (.reg 50 [m 5 (ld (.op R8 [(d 2),(v 8)]))])))) (.reg 53 [m 15 (bk .add 1 (d 15))])))))))))) (.reg 16 [m 4 (bk .add 4 (v 4))])))))) (.seq (.reg 54 [s 4 (d 1) (la 4 (d 2))]) .ret)))))⟩
def a9s:FT:=⟨1,15,[.cell 2 true 4],[0,1,2],true,(.seq (.reg 0 [p 1 W0,p 2 Vi]) (.seq (.reg 3 [s 4 (d 2) (.op b2q [Rc,(ld (fa 1 W6)),(ld (fa 2 W6)),(ld (fa 3 W6))])]) .ret))⟩
def a9r:FT:=⟨1,7,[.tmp 2],[0,1,2],true,(.seq (.reg 0 [p 1 W0,y 2 (.emp)]) (.seq (.reg 3 [m 2 (.op W95 [(.op (.build Ii [(0,1,(.c (.int .i64 14))),(1,1,(.t 0))]) [(.op Pr [(ld (fa 4 (d 1)))])])])]) .ret))⟩
def a9q:FT:=⟨2,7,[.tmp 2],[0,1,4],true,(.seq Nd (.seq (.reg 5 [m 2 (.op (.call 248 [(.t 0),(.c (.fn (.func 286) [] []))]) [W55])]) .ret))⟩
def a9p:FT:=⟨2,7,[.tmp 2],[0,1,4],true,(.seq Nd (.seq (.reg 5 [m 2 (.op (.call 248 [(.t 0),(.c (.fn (.func 287) [] []))]) [W55])]) .ret))⟩
def a9o:FT:=⟨2,45,[.tmp 3],[0,1,2,4,5,6,7,33],true,(.seq (.reg 0 [p 2 W0,y 3 (.emp)]) (.seq (.reg 0 [y 4 (.emp)]) (.seq (.reg 8 [m 5 (Am 288 (la 2 (d 2)))]) (.seq (.seq (.reg 0 [z 6 1]) (.block 0 (.loop [1,2,4,5,6] [] (.seq (.ifc 10 [] (b2 .lss (v 6) (ln (v 5))) .skip W7) (.seq (.block 1 (.seq (.rawE [[(0,I0 16 1),(1,I6 17 0 2),(2,I7 18 17),(3,I0 19 6),(4,I0 20 7),(5,I1 21 (.bini .sub (.t 20) (KI 1))),(6,I1 22 (.iaddr 1 (.t 19) (.t 21))),(7,I7 23 22),(9,I6 25 1 2),(10,I7 26 25),(11,I0 27 6),(12,I0 28 7),(13,I1 29 (.bini .sub (.t 28) (KI 1))),(14,I1 30 (.iaddr 1 (.t 27) (.t 29))),(15,I7 31 30),(8,I1 24 (.call 184 [(.t 18),(.t 23)])),(16,I1 32 (.call 184 [(.t 26),(.t 31)]))],[(17,I1 33 (.calld (.t 16) [(.t 24),(.t 32)]))]] (bm [0,0,2,0,0,16,56,120,254,0,512,0,0,4096,14336,30720,65534,131071])) (.ifv 7 (.rawE [[(0,I0 34 5),(1,I0 35 6),(2,I0 36 7),(3,I1 37 (.bini .sub (.t 36) (KI 1))),(4,I1 38 (.iaddr 1 (.t 35) (.t 37))),(5,I7 39 38),(6,I0 40 6),(7,I0 41 7),(8,I1 42 (.iaddr 1 (.t 40) (.t 41))),(9,I7 43 42),(10,I1 44 (.build Ii [(0,1,(.t 39)),(1,1,(.t 43))]))],[(11,I1 45 (.call 97 [(.t 34),(.t 44)]))],[(12,I0 5 45)]] (bm [0,0,0,4,14,30,0,0,192,448,1022,2047,4095])) .skip))) (.reg 14 [m 6 Nb])))))) (.seq (.reg 46 [m 3 (v 4)]) .ret)))))⟩
def a9n:FT:=⟨2,8,[.tmp 2],[0,1,4],true,(.seq W2 (.seq (.reg 5 [m 2 (.and (v 0) (no (v 1)))]) .ret))⟩
def a9l:FT:=⟨2,7,[.tmp 2],[0,1,4],true,(.seq W2 (.seq (.reg 5 [m 2 (bk .geq 0 (B1 289 (v 0) (v 1)))]) .ret))⟩
def a9k:FT:=⟨2,6,[.tmp 3],[0,1,2,3],true,(.seq Om (.seq (.reg 4 [m 3 (B1 252 (.op (.build Ii [(0,2,(.t 0))]) [(la 2 (d 2))]) (ld (d 1)))]) .ret))⟩
def a9j:FT:=⟨2,15,[.tmp 3],[0,1,2,4],true,(.seq Om (.seq (.reg 5 [m 3 (.and (b2 .leq (ld (fa 0 Ft)) (v 1)) (b2 .lss (v 1) (ld (fa 1 Ft))))]) .ret))⟩
def a2f:FT:=⟨2,15,[.cell 3 true 6],[0,1,3,4],false,(.seq (.reg 0 [p 2 W5,p 3 Ij]) (.seq (.rawE [[(0,I0 5 0),(1,I0 6 0),(2,I1 7 (.nilchk (.t 6))),(3,I6 8 12 7),(4,I7 9 8),(5,I6 10 0 3),(6,I7 11 10),(7,I1 12 (.bslice 1 1 Z5 [(0,(.t 11))])),(8,I1 13 (.append 1 8 Z5 (.t 9) (.t 12)))],[(9,I1 14 (.nilchk (.t 5)))],[(10,I6 15 12 14)],[(11,I9 1 15 13)]] (bm [0,0,2,6,14,0,32,96,254,511,1023,2047])) (.seq (.reg 16 [s 6 (d 3) (la 6 (d 2))]) .ret)))⟩
def a2e:FT:=⟨2,45,[.tmp 2],[0,1,4,5,6,7],true,(.seq Nd (.seq Vj (.seq (.seq Oj (.block 0 (.loop [0,1,3,4] [] (.after [.keep [0,1,3,4]] (.seq (.ifc 8 [] (b2 .lss (v 4) Dt) .skip W7) (.seq (.block 1 (.rawE [[(0,I0 14 5),(1,I0 15 0),(2,I0 16 6),(3,I1 17 (.iaddr 2 (.t 15) (.t 16))),(4,I6 18 0 17),(5,I7 19 18),(7,I0 21 0),(8,I0 22 6),(9,I1 23 (.iaddr 2 (.t 21) (.t 22))),(10,I6 24 1 23),(11,I7 25 24),(6,I1 20 (.call 293 [(.t 14),(.t 19)]))],[(12,I1 26 (.call 293 [(.t 20),(.t 25)]))],[(13,I0 5 26)]] (bm [0,0,0,6,14,30,63,0,0,384,896,1920,4095,8191]))) (.reg 12 [m 4 Mc]))))))) (.seq (.seq R4 (.block 2 (.loop [1,3,5] [] (.after [.keep [0,1,3,5]] (.seq (.ifc 27 [] (b2 .lss (v 5) Nh) .skip J5) (.seq (.block 3 (.rawE [[(0,I0 33 5),(1,I0 34 1),(2,I0 35 7),(3,I1 36 (.iaddr 2 (.t 34) (.t 35))),(4,I6 37 0 36),(5,I7 38 37),(7,I0 40 1),(8,I0 41 7),(9,I1 42 (.iaddr 2 (.t 40) (.t 41))),(10,I6 43 1 42),(11,I7 44 43),(6,I1 39 (.call 293 [(.t 33),(.t 38)]))],[(12,I1 45 (.call 293 [(.t 39),(.t 44)]))],[(13,I0 5 45)]] (bm [0,0,0,6,14,30,63,0,0,384,896,1920,4095,8191]))) (.reg 31 [m 5 T7]))))))) (.seq (.reg 46 [m 2 (v 3)]) .ret)))))⟩
def a9i:FT:=⟨2,7,[.tmp 2],[0,1,4],true,(.seq W2 (.seq (.reg 5 [m 2 (bk .geq 0 (B1 295 (v 0) (v 1)))]) .ret))⟩
def a9h:FT:=⟨2,7,[.tmp 3],[0,1,2,3],true,(.seq Om (.seq (.rawE [[(0,I6 4 2 2),(1,I7 5 4),(2,I7 6 1),(3,I1 7 (.call 277 [(.t 6)]))],[(4,I1 8 (.bins .eql (.t 5) (.t 7)))],[(5,I0 3 8)]] (bm [0,1,0,4,15,31])) .ret))⟩
def Xk:FT:=⟨2,21,[.tmp 3],[0,1,2,4],true,(.seq Om (.seq (.reg 5 [m 3 (.and (.and (bk .geq 0 (v 1)) (b2 .lss (v 1) (ln (ld Ft)))) (bk .eql 2 (ld (fa 0 a5b))))]) .ret))⟩
def a9f:FT:=⟨2,7,[.tmp 2],[0,1,4],true,(.seq W2 (.seq (.reg 5 [m 2 (.and (v 0) (v 1))]) .ret))⟩
def a9e:FT:=⟨2,7,[.tmp 2],[0,1,4],true,(.seq W2 (.seq (.reg 5 [m 2 (.or (v 0) (v 1))]) .ret))⟩
def a9d:FT:=⟨1,28,[.tmp 2],[0,1,2,3,5,11,12,13,14,16,26],true,(.seq (.reg 0 [p 1 W0,y 2 (.emp)]) (.seq Vj (.seq (.seq (.reg 6 [p 5 (Am 302 (.op (.bslice 1 2 [.emp] [(0,(.t 0)),(1,(.t 1))]) [(ld W6),Ok])),p 6 (ln (d 5)),z 7 0]) (.block 0 (.loop [3,5,6,7] [(3,1)] (.seq (.reg 0 [p 8 (b2 .lss (d 7) (d 6))]) (.seq (.ifv 8 .skip W7) (.seq (.block 1 (.seq (.reg 15 [p 9 (la 2 (ia 2 (d 5) (d 7))),p 4 (.op (.alloc Ii) []),s 2 (d 4) (d 9)]) (.reg 17 [m 3 (.op Tc [(v 3),(.op (.bslice 1 2 Z5 [(0,(.t 0)),(1,(.t 1))]) [Yy,Zd])])]))) (.reg 24 [m 7 (bk .add 1 (d 7))]))))))) (.seq (.reg 25 [p 10 (Am 95 (v 3))]) (.seq (.reg 27 [m 2 (Am 96 (v 3))]) .ret)))))⟩
def a9c:FT:=⟨2,17,[.tmp 2],[0,1,4,5,7,8,9],true,(.seq Jv (.seq (.seq (.reg 6 [p 4 Dt,z 5 0]) (.block 0 (.loop [0,1,4,5] [] (.seq Ys (.seq Vm (.seq (.block 1 (.seq (.reg 10 [m 3 (v 5)]) (.ifc 11 [] (.op (.calld (.t 0) [(.t 1)]) [(v 1),(la 2 Vo)]) am1 .skip))) W85)))))) Yu))⟩
def Uw:FT:=⟨2,39,[.tmp 2],[0,1,4,5],false,(.seq Nd (.seq (.seq Lf (.block 0 (.loop [0,1,3] [] (.seq a5i (.seq (.block 1 (.seq (.ifc 12 [] (b2 .eql Yo (v 1)) (.seq (.reg 18 [m 2 (v 0)]) .ret) .skip) (.ifc 19 [] (b2 .gtr Yo (v 1)) (.seq (.rawE [[(0,I1 25 (.bslice 1 0 Z5 [])),(1,I0 26 0),(2,I0 27 5),(3,I1 28 (.slicel 1 (.t 26) none (some (.t 27)))),(4,I1 29 (.append 1 8 Z5 (.t 25) (.t 28))),(5,I0 30 1),(6,I1 31 (.bslice 1 1 Z5 [(0,(.t 30))])),(7,I1 32 (.append 1 8 Z5 (.t 29) (.t 31))),(8,I0 33 0),(9,I0 34 5),(10,I1 35 (.slicel 1 (.t 33) (some (.t 34)) none))],[(11,I1 36 (.append 1 8 Z5 (.t 32) (.t 35)))],[(12,I0 4 36)]] (bm [0,0,0,6,15,0,32,127,0,0,768,2047,4095])) .ret) .skip))) (.reg 10 [m 3 Lg])))))) (.seq (.reg 37 [m 2 (.op Tc [(v 0),(.op R9 [(v 1)])])]) .ret)))⟩
def a9a:FT:=⟨2,17,[.tmp 2],[0,1,4,5,7,8,9],true,W8⟩
def tab:List (Nat×FT):=[(3,g3),(4,g4),(5,g5),(6,g6),(7,g7),(8,g8),(9,g9),(10,g10),(11,g11),(12,Xq),(13,g13),(14,g14),(15,g15),(16,g16),(17,g17),(18,Uy),(19,Ga),(20,g20),(21,g21),(22,Ux),(23,g23),(24,g24),(25,g25),(26,Xl),(27,Qm),(28,g28),(29,g29),(30,g30),(31,Sj),(32,g32),(33,g33),(34,g34),(35,g35),(36,g36),(37,g37),(38,g38),(39,g39),(40,Uv),(41,g41),(46,g46),(47,g47),(48,g48),(49,g49),(50,g50),(51,g51),(52,Uu),(53,g53),(54,Xj),(55,Ut),(56,g56),(57,g57),(58,g58),(59,g59),(60,g60),(61,g61),(62,g62),(63,g63),(64,g64),(65,Si),(66,g66),(67,Xi),(68,L4),(69,Us),(70,Xh),(71,g71),(72,g72),(73,g73),(74,g74),(75,g75),(76,g76),(77,g77),(78,g78),(79,g79),(96,g96),(97,Xg),(98,g98),(99,g99),(100,Qp),(101,Xt),(102,af5),(103,af4),(104,af3),(105,Pf),(106,Xs),(107,af2),(108,Xr),(109,a2r),(110,K9),(111,af1),(112,af0),(113,a2p),(114,ae9),(116,V1),(117,V0),(118,ae8),(119,ae7),(120,ae6),(121,Uz),(122,ae5),(123,ae4),(124,ae3),(125,ae2),(126,a2o),(127,ae1),(128,Sk),(154,ad7),(155,ad6),(156,Xp),(157,ad5),(158,ad4),(159,ad3),(160,ad0),(161,ac9),(162,ac8),(163,ac7),(164,ac6),(165,ac5),(166,ac4),(167,ac3),(168,Qo),(169,ac2),(170,ac1),(171,ac0),(172,ab9),(173,ab8),(174,Xo),(175,ab7),(178,ab6),(179,a2m),(180,ab5),(181,a2l),(182,ab4),(183,ab3),(184,ab2),(185,ab1),(186,Xn),(187,ab0),(189,aa9),(190,aa8),(191,a2k),(192,aa7),(193,aa6),(194,a2j),(203,aa4),(228,Xm),(229,aa2),(230,N5),(231,aa0),(232,a9z),(233,a2i),(235,a9y),(236,Qn),(237,a9x),(238,a9w),(239,a9v),(240,a9u),(243,a9t),(244,a9s),(245,a9r),(246,a9q),(247,a9p),(248,a9o),(249,a9n),(250,a9l),(251,a9k),(252,a9j),(253,a2f),(273,a2e),(275,a9i),(276,a9h),(278,Xk),(286,a9f),(287,a9e),(288,a9d),(289,a9c),(293,Uw),(295,a9a)]
theorem l3:A9 tab 3=some g3:=kk
theorem l4:A9 tab 4=some g4:=kk
theorem l5:A9 tab 5=some g5:=kk
theorem l6:A9 tab 6=some g6:=kk
theorem l7:A9 tab 7=some g7:=kk
theorem l8:A9 tab 8=some g8:=kk
theorem l9:A9 tab 9=some g9:=kk
theorem l10:A9 tab 10=some g10:=kk
theorem l11:A9 tab 11=some g11:=kk
theorem l12:A9 tab 12=some Xq:=kk
theorem l13:A9 tab 13=some g13:=kk
theorem l14:A9 tab 14=some g14:=kk
theorem l15:A9 tab 15=some g15:=kk
theorem l16:A9 tab 16=some g16:=kk
theorem l17:A9 tab 17=some g17:=kk
theorem l18:A9 tab 18=some Uy:=kk
theorem X9:A9 tab 19=some Ga:=kk
theorem l20:A9 tab 20=some g20:=kk
theorem l21:A9 tab 21=some g21:=kk
theorem l22:A9 tab 22=some Ux:=kk
theorem l23:A9 tab 23=some g23:=kk
theorem l24:A9 tab 24=some g24:=kk
theorem l25:A9 tab 25=some g25:=kk
theorem l26:A9 tab 26=some Xl:=kk
theorem l27:A9 tab 27=some Qm:=kk
theorem l28:A9 tab 28=some g28:=kk
theorem l29:A9 tab 29=some g29:=kk
theorem l30:A9 tab 30=some g30:=kk
theorem l31:A9 tab 31=some Sj:=kk
theorem l32:A9 tab 32=some g32:=kk
theorem l33:A9 tab 33=some g33:=kk
theorem l34:A9 tab 34=some g34:=kk
theorem l35:A9 tab 35=some g35:=kk
theorem l36:A9 tab 36=some g36:=kk
theorem l37:A9 tab 37=some g37:=kk
theorem l38:A9 tab 38=some g38:=kk
theorem l39:A9 tab 39=some g39:=kk
theorem l40:A9 tab 40=some Uv:=kk
theorem l41:A9 tab 41=some g41:=kk
theorem l46:A9 tab 46=some g46:=kk
theorem l47:A9 tab 47=some g47:=kk
theorem l48:A9 tab 48=some g48:=kk
theorem l49:A9 tab 49=some g49:=kk
theorem l50:A9 tab 50=some g50:=kk
theorem l51:A9 tab 51=some g51:=kk
theorem l52:A9 tab 52=some Uu:=kk
theorem l53:A9 tab 53=some g53:=kk
theorem l54:A9 tab 54=some Xj:=kk
theorem l55:A9 tab 55=some Ut:=kk
theorem l56:A9 tab 56=some g56:=kk
theorem l57:A9 tab 57=some g57:=kk
theorem l58:A9 tab 58=some g58:=kk
theorem l59:A9 tab 59=some g59:=kk
theorem l60:A9 tab 60=some g60:=kk
theorem l61:A9 tab 61=some g61:=kk
theorem l62:A9 tab 62=some g62:=kk
theorem l63:A9 tab 63=some g63:=kk
theorem l64:A9 tab 64=some g64:=kk
theorem l65:A9 tab 65=some Si:=kk
theorem l66:A9 tab 66=some g66:=kk
theorem l67:A9 tab 67=some Xi:=kk
theorem l68:A9 tab 68=some L4:=kk
theorem l69:A9 tab 69=some Us:=kk
theorem l70:A9 tab 70=some Xh:=kk
theorem l71:A9 tab 71=some g71:=kk
theorem l72:A9 tab 72=some g72:=kk
theorem l73:A9 tab 73=some g73:=kk
theorem l74:A9 tab 74=some g74:=kk
theorem l75:A9 tab 75=some g75:=kk
theorem l76:A9 tab 76=some g76:=kk
theorem l77:A9 tab 77=some g77:=kk
theorem l78:A9 tab 78=some g78:=kk
theorem l79:A9 tab 79=some g79:=kk
theorem l96:A9 tab 96=some g96:=kk
theorem l97:A9 tab 97=some Xg:=kk
theorem l98:A9 tab 98=some g98:=kk
theorem l99:A9 tab 99=some g99:=kk
theorem cs5:A9 tab 100=some Qp:=kk
theorem cs4:A9 tab 101=some Xt:=kk
theorem cs3:A9 tab 102=some af5:=kk
theorem cs2:A9 tab 103=some af4:=kk
theorem cs1:A9 tab 104=some af3:=kk
theorem cs0:A9 tab 105=some Pf:=kk
theorem cr9:A9 tab 106=some Xs:=kk
theorem cr8:A9 tab 107=some af2:=kk
theorem cr7:A9 tab 108=some Xr:=kk
theorem b8v:A9 tab 109=some a2r:=kk
theorem cr5:A9 tab 110=some K9:=kk
theorem cr4:A9 tab 111=some af1:=kk
theorem cr3:A9 tab 112=some af0:=kk
theorem cr2:A9 tab 113=some a2p:=kk
theorem cr1:A9 tab 114=some ae9:=kk
theorem cr0:A9 tab 116=some V1:=kk
theorem cq9:A9 tab 117=some V0:=kk
theorem cq8:A9 tab 118=some ae8:=kk
theorem cq7:A9 tab 119=some ae7:=kk
theorem cq5:A9 tab 120=some ae6:=kk
theorem cq4:A9 tab 121=some Uz:=kk
theorem cq3:A9 tab 122=some ae5:=kk
theorem cq2:A9 tab 123=some ae4:=kk
theorem cq1:A9 tab 124=some ae3:=kk
theorem cq0:A9 tab 125=some ae2:=kk
theorem cp9:A9 tab 126=some a2o:=kk
theorem cp8:A9 tab 127=some ae1:=kk
theorem cp7:A9 tab 128=some Sk:=kk
theorem cp3:A9 tab 154=some ad7:=kk
theorem cp2:A9 tab 155=some ad6:=kk
theorem cp1:A9 tab 156=some Xp:=kk
theorem cp0:A9 tab 157=some ad5:=kk
theorem co9:A9 tab 158=some ad4:=kk
theorem co8:A9 tab 159=some ad3:=kk
theorem co6:A9 tab 160=some ad0:=kk
theorem co5:A9 tab 161=some ac9:=kk
theorem co4:A9 tab 162=some ac8:=kk
theorem co3:A9 tab 163=some ac7:=kk
theorem co2:A9 tab 164=some ac6:=kk
theorem co1:A9 tab 165=some ac5:=kk
theorem co0:A9 tab 166=some ac4:=kk
theorem cn9:A9 tab 167=some ac3:=kk
theorem cn8:A9 tab 168=some Qo:=kk
theorem cn7:A9 tab 169=some ac2:=kk
theorem cn5:A9 tab 170=some ac1:=kk
theorem cn4:A9 tab 171=some ac0:=kk
theorem cn3:A9 tab 172=some ab9:=kk
theorem cn2:A9 tab 173=some ab8:=kk
theorem b8u:A9 tab 174=some Xo:=kk
theorem cn1:A9 tab 175=some ab7:=kk
theorem cn0:A9 tab 178=some ab6:=kk
theorem cm9:A9 tab 179=some a2m:=kk
theorem cm7:A9 tab 180=some ab5:=kk
theorem cm6:A9 tab 181=some a2l:=kk
theorem cm5:A9 tab 182=some ab4:=kk
theorem cm4:A9 tab 183=some ab3:=kk
theorem cm3:A9 tab 184=some ab2:=kk
theorem cm2:A9 tab 185=some ab1:=kk
theorem cm1:A9 tab 186=some Xn:=kk
theorem cm0:A9 tab 187=some ab0:=kk
theorem cl9:A9 tab 189=some aa9:=kk
theorem cl8:A9 tab 190=some aa8:=kk
theorem b8t:A9 tab 191=some a2k:=kk
theorem cl7:A9 tab 192=some aa7:=kk
theorem cl6:A9 tab 193=some aa6:=kk
theorem b8s:A9 tab 194=some a2j:=kk
theorem cl4:A9 tab 203=some aa4:=kk
theorem b8r:A9 tab 228=some Xm:=kk
theorem cl1:A9 tab 229=some aa2:=kk
theorem ck9:A9 tab 230=some N5:=kk
theorem ck8:A9 tab 231=some aa0:=kk
theorem ck7:A9 tab 232=some a9z:=kk
theorem ck6:A9 tab 233=some a2i:=kk
theorem ck5:A9 tab 235=some a9y:=kk
theorem ck4:A9 tab 236=some Qn:=kk
theorem ck3:A9 tab 237=some a9x:=kk
theorem ck2:A9 tab 238=some a9w:=kk
theorem ck1:A9 tab 239=some a9v:=kk
theorem cj9:A9 tab 240=some a9u:=kk
theorem cj8:A9 tab 243=some a9t:=kk
theorem cj7:A9 tab 244=some a9s:=kk
theorem cj6:A9 tab 245=some a9r:=kk
theorem cj5:A9 tab 246=some a9q:=kk
theorem cj4:A9 tab 247=some a9p:=kk
theorem cj3:A9 tab 248=some a9o:=kk
theorem cj2:A9 tab 249=some a9n:=kk
theorem cj0:A9 tab 250=some a9l:=kk
theorem ci9:A9 tab 251=some a9k:=kk
theorem ci8:A9 tab 252=some a9j:=kk
theorem b8q:A9 tab 253=some a2f:=kk
theorem b8p:A9 tab 273=some a2e:=kk
theorem ci5:A9 tab 275=some a9i:=kk
theorem ci4:A9 tab 276=some a9h:=kk
theorem ci3:A9 tab 278=some Xk:=kk
theorem ci1:A9 tab 286=some a9f:=kk
theorem ci0:A9 tab 287=some a9e:=kk
theorem ch9:A9 tab 288=some a9d:=kk
theorem ch8:A9 tab 289=some a9c:=kk
theorem az2:A9 tab 293=some Uw:=kk
theorem ch6:A9 tab 295=some a9a:=kk
abbrev Bytes:=List UInt8
structure Sum where
 a:UInt32
 b:UInt32
 c:UInt32
 d:UInt32
 deriving DecidableEq,Inhabited
structure Ptr where
 addr:Int
 birth:Int
 sum:Sum
 deriving DecidableEq,Inhabited
def Bb:Ptr:=⟨0,0,⟨0,0,0,0⟩⟩
def w4:Bytes->Nat
 |[]=>0
 |x::l=>x.toNat+256*w4 l
def ar3(s:Sum)(w:UInt32):Sum:=
 let a:=s.a+w;let b:=s.b+a;let c:=s.c+b
 ⟨a,b,c,s.d+c⟩
def Lj:Bytes->List UInt32
 |x0::x1::x2::x3::l=>UInt32.ofNat (w4 [x0,x1,x2,x3])::Lj l
 |[]=>[]
 |l=>[UInt32.ofNat (w4 l)]
def Dh(b:Bytes):Sum:=(Lj b).foldl ar3 ⟨0,0,0,0⟩
def Ea:Nat->Int->Bytes
 |0,_=>[]
 |k+1,n=>UInt8.ofNat (n/2 ^ (8*k)%256).toNat::Ea k n
def Bk(b:Bytes):Int:=b.foldl (λn c=>n*256+c.toNat) 0
theorem Qz(k:Nat)(n:Int):(Ea k n).length=k:=by
 induction k with
 |zero=>rfl
 |succ k ih=>simp[Ea,ih]
theorem bs7(b:Bytes):∀ n:Int,b.foldl (λn c=>n*256+(c.toNat:Int)) n=n*2 ^ (8*b.length)+Bk b:=by
 unfold Bk
 induction b with
 |nil=>intro n;simp
 |cons x b ih=>
   intro n;rw[e1r,e1r,ih,ih (0*256+(x.toNat:Int)),e15];have e:(2:Int) ^ (8*(b.length+1))=256*2 ^ (8*b.length):=(by rw[Nat.mul_add,Int.pow_add];omega);rw[e,Int.add_mul,Int.mul_assoc,Int.zero_mul,e2v,Int.add_assoc]
theorem ap7(x:UInt8)(b:Bytes):Bk (x::b)=x.toNat*2 ^ (8*b.length)+Bk b:=by
 rw[Bk,e1r,bs7,Int.zero_mul,e2v]
theorem Rm:∀ b:Bytes,0<=Bk b
 |[]=>e30 0
 |x::b=>by
   rw[ap7];exact Int.add_nonneg (Int.mul_nonneg (Int.natCast_nonneg _) (Int.pow_nonneg om)) (Rm b)
theorem Zv:∀ b:Bytes,Bk b<2 ^ (8*b.length)
 |[]=>by decide
 |x::b=>by
   rw[ap7,e15];have h:=Zv b;have hx:(x.toNat:Int)<=255:=(by have:=x.toNat_lt;omega);have e:(2:Int) ^ (8*(b.length+1))=256*2 ^ (8*b.length):=(by rw[Nat.mul_add,Int.pow_add];omega);have hp:(0:Int)<2 ^ (8*b.length):=Int.pow_pos om;rw[e]
   have:=Int.mul_le_mul_of_nonneg_right hx (Int.le_of_lt hp);omega
def Vz(c:UInt8):Option Nat:=if 49<=c.toNat/\c.toNat<=52 then some (c.toNat-48)else none
def Gl:Bytes->Option (List Nat)
 |[]=>some []
 |c::l=>match Vz c,Gl l with
   |some k,some ks=>some (k::ks)
   |_,_=>none
def B6:List Nat->List Int->Bytes
 |k::ks,n::ns=>Ea k n++B6 ks ns
 |_,_=>[]
def Bp:List Nat->Bytes->List Int
 |[],_=>[]
 |k::ks,s=>Bk (s.take k)::Bp ks (s.drop k)
def Nu(form:Bytes)(l:List Int):Bytes:=match Gl form with
 |some ks=>if ks.length=l.length then B6 ks l else []
 |none=>[]
def Im(form s:Bytes):Option (List Int×Bytes):=match Gl form with
 |some ks=>if ks.sum<=s.length then some (Bp ks s,s.drop ks.sum)else none
 |none=>none
theorem G5:∀ (ks:List Nat) (l:List Int),ks.length=l.length->(B6 ks l).length=ks.sum
 |[],[],_=>rfl
 |k::ks,n::ns,h=>by
   rw[B6,e0l,Qz,G5 ks ns (by simpa using h),e2i]
 |[],_::_,h=>by cases h
 |_::_,[],h=>by cases h
def Bt(p:Ptr):Bool:=if p.addr=0 then decide (p=Bb)else decide (0<p.addr)&&decide (p.addr<=65535)&&decide (0<=p.birth)&&decide (p.birth<=1073741824)
def a0y(p:Ptr):List Int:=[p.addr,p.birth,p.sum.a.toNat,p.sum.b.toNat,p.sum.c.toNat,p.sum.d.toNat]
def Fl:List Nat:=[2,4,4,4,4,4]
def Ed(p:Ptr):Bytes:=B6 Fl (a0y p)
def Er(l:List Ptr):Bytes:=if l.all Bt=true then(l.map Ed).flatten else []
def He:List Int->Ptr
 |[a,b,c,d,e,f]=>⟨a,b,⟨UInt32.ofNat c.toNat,UInt32.ofNat d.toNat,UInt32.ofNat e.toNat,UInt32.ofNat f.toNat⟩⟩
 |_=>Bb
def Tt(s:Bytes):Option (Ptr×Bytes):=if 22<=s.length/\Bt (He (Bp Fl s))=true then some (He (Bp Fl s),s.drop 22)else none
def H8:Nat->Bytes->Option (List Ptr×Bytes)
 |0,s=>some ([],s)
 |n+1,s=>match Tt s with
   |some (p,r)=>match H8 n r with
     |some (l,t)=>some (p::l,t)
     |none=>none
   |none=>none
theorem U9(p:Ptr):(Ed p).length=22:=G5 _ _ rfl
theorem b7t{p:Ptr}:Bt p=true↔p=Bb\/0<p.addr/\p.addr<=65535/\0<=p.birth/\p.birth<=1073741824:=by
 unfold Bt;split
 ·rename_i h;rw[e0r];constructor
  ·exact .inl
  ·rintro(h'|h')
   ·exact h'
   ·omega
 ·rename_i h;simp only[e14,e0r];constructor
  ·rintro⟨⟨⟨h1,h2⟩,h3⟩,h4⟩;exact .inr ⟨h1,h2,h3,h4⟩
  ·rintro(rfl|⟨h1,h2,h3,h4⟩)
   ·exact absurd rfl h
   ·exact⟨⟨⟨h1,h2⟩,h3⟩,h4⟩
structure Block where
 kind:Int
 birth:Int
 load:Bytes
 deriving DecidableEq,Inhabited
def zs(n:Nat):Bytes:=List.replicate n 0
def Hg(x:Block):Bool:=decide (1<=x.kind)&&decide (x.kind<=6)&&decide (1<=x.birth)&&decide (x.birth<=1073741824)&&decide (x.load.length<=249)
def Dn(x:Block):Bytes:=if Hg x=true then B6 [1,4,2] [x.kind,x.birth,x.load.length]++x.load++zs (249-x.load.length)else []
def Qx(s:Bytes):Block:=⟨Bk (s.take 1),Bk ((s.drop 1).take 4),((s.drop 7).take (Bk ((s.drop 5).take 2)).toNat)⟩
def Nl(s:Bytes):Option Block:=if 7<=s.length/\Bk ((s.drop 5).take 2)<=s.length-7/\Hg (Qx s)=true/\Dn (Qx s)=s then some (Qx s)else none
theorem c5o{x:Block}(h:Hg x=true):(Dn x).length=256:=by
 rw[Dn,if_pos h,e0l,e0l,G5 _ _ rfl,zs,dz7];simp only[Hg,e14,e0r]at h;simp only[e2i,List.sum_nil];omega
section
structure Rn where
 a:Int
 b:Int
 deriving DecidableEq,Inhabited
def B5(l:List Rn)(x:Int):Bool:=l.any λr=>decide (r.a<=x)&&decide (x<r.b)
theorem Sg{l:List Rn}{x:Int}:B5 l x=true↔∃ r∈l,r.a<=x/\x<r.b:=by
 simp only[B5,List.any_eq_true,e14,e0r]
theorem Xf(x:Int):B5 [] x=false:=rfl
theorem L3(r:Rn)(l:List Rn)(x:Int):B5 (r::l) x=((decide (r.a<=x)&&decide (x<r.b))||B5 l x):=rfl
def Fa:List Rn->Prop
 |[]=>True
 |r::l=>r.a<r.b/\(∀ q∈l,r.b<q.a)/\Fa l
theorem Fa.pos:∀ {l:List Rn},Fa l->∀ q∈l,q.a<q.b
 |r::l,h,q,hq=>by
   rcases e2g.1 hq with rfl|hq
   ·exact h.1
   ·exact Fa.pos h.2.2 q hq
theorem at7{r:Rn}{l:List Rn}(h:Fa (r::l)){x:Int}(hx:B5 (r::l) x=true):r.a<=x:=by
 obtain⟨q,hq,h1,h2⟩:=Sg.1 hx;rcases e2g.1 hq with rfl|hq
 ·exact h1
 ·have:=h.2.1 q hq
  have:=h.1;omega
theorem a6p{r:Rn}{l:List Rn}(h:Fa (r::l)){x:Int}(hx:x<=r.b):B5 l x=false:=by
 rw[e0z];intro hh;obtain⟨q,hq,h1,h2⟩:=Sg.1 hh
 have:=h.2.1 q hq;omega
theorem a6q:∀ {l m:List Rn},Fa l->Fa m->(∀ x,B5 l x=B5 m x)->l=m
 |[],[],_,_,_=>rfl
 |r::l,[],h,_,he=>by
   have:=he r.a;rw[Xf,L3,e2a (e30 r.a),e2a h.1]at this;cases this
 |[],q::m,_,h,he=>by
   have:=he q.a;rw[Xf,L3,e2a (e30 q.a),e2a h.1]at this;cases this
 |r::l,q::m,h,g,he=>by
   have hr:B5 (r::l) r.a=true:=(by rw[L3,e2a (e30 r.a),e2a h.1];rfl);have hq:B5 (q::m) q.a=true:=(by rw[L3,e2a (e30 q.a),e2a g.1];rfl);have e1:r.a=q.a:=by
    have h1:=at7 g (he r.a▸hr);have h2:=at7 h ((he q.a).symm▸hq);omega
   have h1:=h.1;have g1:=g.1;have e2:r.b=q.b:=by
    rcases Int.lt_trichotomy r.b q.b with hl|hl|hl
    ·have hx:=he r.b;rw[L3,L3,a6p h (e30 _),e2a (by omega:q.a<=r.b),e2a hl,e1y (e2k r.b)]at hx;simp at hx
    ·exact hl
    ·have hx:=he q.b;rw[L3,L3,a6p g (e30 _),e2a (by omega:r.a<=q.b),e2a hl,e1y (e2k q.b)]at hx;simp at hx
   have e:r=q:=(by cases r;cases q;simp_all);subst e;rw[a6q h.2.2 g.2.2 λx=>?_];by_cases hx:x<=r.b
   ·rw[a6p h hx,a6p g hx]
   ·have:=he x;rw[L3,L3,e1y (by omega:¬ x<r.b),e27,e2j,e2j]at this;exact this
def A1(n:Int):List Int->List Int
 |[]=>[n]
 |x::l=>if x=n then x::l else if n<x then n::x::l else x::A1 n l
theorem a7o{n y:Int}:∀ {l:List Int},y∈A1 n l↔y=n\/y∈l
 |[]=>by simp[A1]
 |x::l=>by
   unfold A1;split
   ·rename_i h;subst h;simp
   ·split
    ·simp
    ·rw[e2g,a7o,e2g];constructor
     ·rintro(h|h|h)<;>simp[h]
     ·rintro(h|h|h)<;>simp[h]
theorem b00{n:Int}:∀ {l:List Int},l.Pairwise (· < ·)->(A1 n l).Pairwise (· < ·)
 |[],_=>by simp[A1]
 |x::l,h=>by
   have h1:=e0p.1 h;unfold A1;split
   ·exact h
   ·rename_i hne;split
    ·rename_i hlt;refine e0p.2 ⟨λy hy=>?_,h⟩;rcases e2g.1 hy with rfl|hy
     ·exact hlt
     ·exact Int.lt_trans hlt (h1.1 y hy)
    ·refine e0p.2 ⟨λy hy=>?_,b00 h1.2⟩;rcases a7o.1 hy with rfl|hy
     ·omega
     ·exact h1.1 y hy
theorem b4l:∀ {l m:List Int},l.Pairwise (· < ·)->m.Pairwise (· < ·)->(∀ x,x∈l↔x∈m)->l=m
 |[],[],_,_,_=>rfl
 |x::l,[],_,_,h=>by have:=(h x).1 (by simp);cases this
 |[],x::l,_,_,h=>by have:=(h x).2 (by simp);cases this
 |x::l,y::m,hl,hm,h=>by
   have hl:=e0p.1 hl;have hm:=e0p.1 hm;have e:x=y:=by
    have h1:=(h x).1 (by simp);have h2:=(h y).2 (by simp);rcases e2g.1 h1 with h1|h1
    ·exact h1
    ·rcases e2g.1 h2 with h2|h2
     ·exact h2.symm
     ·have:=hl.1 y h2;have:=hm.1 x h1;omega
   subst e;rw[b4l hl.2 hm.2 λz=>?_];constructor
   ·intro hz;rcases e2g.1 ((h z).1 (e06 _ hz))with rfl|h'
    ·have:=hl.1 _ hz;omega
    ·exact h'
   ·intro hz;rcases e2g.1 ((h z).2 (e06 _ hz))with rfl|h'
    ·have:=hm.1 _ hz;omega
    ·exact h'
def Cp(e:List Int)(r:Rn):List Int:=A1 r.b (A1 r.a e)
def Eu(l m:List Rn):List Int:=(l++m).foldl Cp []
theorem bd0:∀ (l:List Rn) (e:List Int),e.Pairwise (· < ·)->(l.foldl Cp e).Pairwise (· < ·)
 |[],_,h=>h
 |r::l,e,h=>bd0 l _ (b00 (b00 h))
theorem b7m:∀ (l:List Rn) (e:List Int) (x:Int),x∈l.foldl Cp e↔x∈e\/∃ r∈l,x=r.a\/x=r.b
 |[],e,x=>by simp
 |r::l,e,x=>by
   rw[e1r,b7m l,Cp,a7o,a7o];constructor
   ·rintro((h|h|h)|⟨q,hq,h⟩)
    ·exact .inr ⟨r,by simp,.inr h⟩
    ·exact .inr ⟨r,by simp,.inl h⟩
    ·exact .inl h
    ·exact .inr ⟨q,by simp[hq],h⟩
   ·rintro(h|⟨q,hq,h⟩)
    ·exact .inl (.inr (.inr h))
    ·rcases e2g.1 hq with rfl|hq
     ·rcases h with h|h
      ·exact .inl (.inr (.inl h))
      ·exact .inl (.inl h)
     ·exact .inr ⟨q,hq,h⟩
theorem b1c(l m:List Rn):(Eu l m).Pairwise (· < ·):=bd0 _ _ List.Pairwise.nil
theorem Ww{l m:List Rn}{x:Int}:x∈Eu l m↔∃ r∈l++m,x=r.a\/x=r.b:=by rw[Eu,b7m];simp
def Cs:List Rn->Rn->List Rn
 |[],r=>[r]
 |[q],r=>if q.b=r.a then [⟨q.a,r.b⟩]else [q,r]
 |q::x::l,r=>q::Cs (x::l) r
theorem b0b:∀ (l:List Rn) (r:Rn) (x:Int),(∀ q∈l,q.a<q.b)->r.a<r.b->B5 (Cs l r) x=(B5 l x||(decide (r.a<=x)&&decide (x<r.b)))
 |[],r,x,_,_=>by simp[Cs,B5]
 |[q],r,x,hp,hr=>by
   unfold Cs
   have:=hp q (by simp);split
   ·rename_i h;rw[e1x];simp only[B5,List.any_cons,List.any_nil,Bool.or_false,e1v,e14,e0r];omega
   ·simp[B5]
 |q::y::l,r,x,hp,hr=>by
   rw[Cs,L3,b0b (y::l) r x (λq hq=>hp q (e06 _ hq)) hr,L3 q (y::l),Bool.or_assoc]
theorem b23:∀ {l:List Rn} {r:Rn},Fa l->(∀ q∈l,q.b<=r.a)->r.a<r.b->Fa (Cs l r)/\(∀ q∈Cs l r,q.b<=r.b)/\∀ y,(∀ q∈l,y<q.a)->y<r.a->∀ q∈Cs l r,y<q.a
 |[],r,_,_,hr=>by simp[Cs,Fa,hr]
 |[q],r,h,hb,hr=>by
   have h1:=hb q (by simp);have h2:=h.1;unfold Cs;split
   ·simp only[Fa,e0m,e1a,false_implies,implies_true,and_true,forall_eq];refine⟨by omega,e30 _,λy hy hy2=>hy⟩
   ·simp only[Fa,e2g,e1a,or_false,forall_eq_or_imp,forall_eq,false_implies,implies_true,and_true];refine⟨⟨h2,by omega,hr⟩,⟨by omega,e30 _⟩,λy hy hy2=>⟨hy,hy2⟩⟩
 |q::x::l,r,h,hb,hr=>by
   obtain⟨g1,g2,g3⟩:=b23 (l:=x::l) (r:=r) h.2.2 (λq hq=>hb q (e06 _ hq)) hr;have hx:=h.2.1 x (by simp);have hxb:=hb x (by simp);have hxp:=h.2.2.1;rw[Cs];refine⟨⟨h.1,λp hp=>g3 q.b h.2.1 om p hp,g1⟩,λp hp=>?_,λy hy hy2 p hp=>?_⟩
   ·rcases e2g.1 hp with rfl|hp
    ·have:=hb p (by simp);omega
    ·exact g2 p hp
   ·rcases e2g.1 hp with rfl|hp
    ·exact hy p (by simp)
    ·exact g3 y (λq hq=>hy q (e06 _ hq)) hy2 p hp
section
variable (so:Bool->Bool->Bool) (l m:List Rn)
def Kj:List Int->List Rn->List Rn
 |a::b::e,out=>Kj (b::e) (if so (B5 l a) (B5 m a)=true then Cs out ⟨a,b⟩else out)
 |_,out=>out
def Ll:List Rn:=Kj so l m (Eu l m) []
end
theorem bb6{l:List Rn}{a x:Int}(hax:a<=x)(h:∀ r∈l,¬ (a<r.a/\r.a<=x)/\¬ (a<r.b/\r.b<=x)):B5 l x=B5 l a:=by
 rw[e1x,Sg,Sg];constructor
 ·rintro⟨r,hr,h1,h2⟩;have:=h r hr;exact⟨r,hr,by omega,by omega⟩
 ·rintro⟨r,hr,h1,h2⟩;have:=h r hr;exact⟨r,hr,by omega,by omega⟩
theorem a5v{so:Bool->Bool->Bool}{l m:List Rn}:∀ (e:List Int) (out:List Rn),e.Pairwise (· < ·)->Fa out->(∀ q∈out,∀ a∈e,q.b<=a)->
 (∀ r∈l++m,∀ y,y=r.a\/y=r.b->y∈e\/∀ a∈e,y<a)->
 Fa (Kj so l m e out)/\∀ x,B5 (Kj so l m e out) x=(B5 out x||(decide (∃ a∈e,a<=x)&&decide (∃ a∈e,x<a)&&so (B5 l x) (B5 m x)))
 |[],out,_,hs,_,_=>by simp[Kj,hs]
 |[a],out,_,hs,_,_=>by
   refine⟨by simpa [Kj]using hs,λx=>?_⟩;by_cases h:a<=x
   ·have:¬ x<a:=om;simp[Kj,this]
   ·simp[Kj,h]
 |a::b::e,out,hp,hs,hb,he=>by
   have hp1:=e0p.1 hp;have hab:a<b:=hp1.1 b (by simp);have hbe:=e0p.1 hp1.2;have hc:∀ x,a<=x->x<b->B5 l x=B5 l a/\B5 m x=B5 m a:=by
    intro x h1 h2;have key:∀ r∈l++m,¬ (a<r.a/\r.a<=x)/\¬ (a<r.b/\r.b<=x):=by
     intro r hr;have one:∀ y,y=r.a\/y=r.b->¬ (a<y/\y<=x):=by
      rintro y hy ⟨h3,h4⟩;rcases he r hr y hy with h5|h5
      ·rcases e2g.1 h5 with rfl|h5
       ·omega
       ·rcases e2g.1 h5 with rfl|h5
        ·omega
        ·have:=hbe.1 y h5;omega
      ·have:=h5 a (by simp);omega
     exact⟨one _ (.inl rfl),one _ (.inr rfl)⟩
    exact⟨bb6 h1 λr hr=>key r (e05 _ hr),bb6 h1 λr hr=>key r (dz8 _ hr)⟩
   have he':∀ r∈l++m,∀ y,y=r.a\/y=r.b->y∈b::e\/∀ c∈b::e,y<c:=by
    intro r hr y hy;rcases he r hr y hy with h|h
    ·rcases e2g.1 h with rfl|h
     ·exact .inr hp1.1
     ·exact .inl h
    ·exact .inr λc hc=>h c (e06 _ hc)
   rw[Kj];by_cases hso:so (B5 l a) (B5 m a)=true
   ·rw[if_pos hso];obtain⟨g1,g2,_⟩:=b23 (l:=out) (r:=⟨a,b⟩) hs (λq hq=>hb q hq a (by simp)) hab;obtain⟨k1,k2⟩:=a5v (b::e) (Cs out ⟨a,b⟩) hp1.2 g1 (λq hq c hc=>by
     have:=g2 q hq;rcases e2g.1 hc with rfl|hc
     ·exact this
     ·have:=hbe.1 c hc;simp only at *;omega) he'
    refine⟨k1,λx=>?_⟩;rw[k2,b0b _ _ _ hs.pos hab];rw[e1x];simp only[e1v,e14,e0r,e2g,exists_eq_or_imp];constructor
    ·rintro((h|⟨h1,h2⟩)|⟨⟨h1,h2⟩,h3⟩)
     ·exact .inl h
     ·obtain⟨c1,c2⟩:=hc x h1 h2;rw[c1,c2];exact .inr ⟨⟨.inl h1,.inr (.inl h2)⟩,hso⟩
     ·exact .inr ⟨⟨.inr h1,.inr h2⟩,h3⟩
    ·rintro(h|⟨⟨h1,h2⟩,h3⟩)
     ·exact .inl (.inl h)
     ·by_cases hx:x<b
      ·have hax:a<=x:=by
        rcases h1 with h1|h1|⟨c,hc,h1⟩
        ·exact h1
        ·omega
        ·have:=hbe.1 c hc;omega
       exact .inl (.inr ⟨hax,hx⟩)
      ·refine .inr ⟨⟨.inl om,?_⟩,h3⟩;rcases h2 with h2|h2
       ·omega
       ·exact h2
   ·rw[if_neg hso];obtain⟨k1,k2⟩:=a5v (b::e) out hp1.2 hs (λq hq c hc=>hb q hq c (e06 _ hc)) he';refine⟨k1,λx=>?_⟩;rw[k2,e1x];simp only[e1v,e14,e0r,e2g,exists_eq_or_imp];constructor
    ·rintro(h|⟨⟨h1,h2⟩,h3⟩)
     ·exact .inl h
     ·exact .inr ⟨⟨.inr h1,.inr h2⟩,h3⟩
    ·rintro(h|⟨⟨h1,h2⟩,h3⟩)
     ·exact .inl h
     ·by_cases hx:x<b
      ·have hax:a<=x:=by
        rcases h1 with h1|h1|⟨c,hc,h1⟩
        ·exact h1
        ·omega
        ·have:=hbe.1 c hc;omega
       obtain⟨c1,c2⟩:=hc x hax hx;rw[c1,c2]at h3;exact absurd h3 hso
      ·refine .inr ⟨⟨.inl om,?_⟩,h3⟩;rcases h2 with h2|h2
       ·omega
       ·exact h2
theorem Zo(so:Bool->Bool->Bool)(l m:List Rn):Fa (Ll so l m):=(a5v _ [] (b1c l m) (by exact trivial) (λ_ h=>by cases h) λ_ hr _ hy=>.inl (Ww.2 ⟨_,hr,hy⟩)).1
theorem Xe{so:Bool->Bool->Bool}(hso:so false false=false)(l m:List Rn)(x:Int):B5 (Ll so l m) x=so (B5 l x) (B5 m x):=by
 rw[Ll,(a5v _ [] (b1c l m) (by exact trivial) (λ_ h=>by cases h) λ_ hr _ hy=>.inl (Ww.2 ⟨_,hr,hy⟩)).2 x,Xf,e2j];by_cases h:(∃ a∈Eu l m,a<=x)/\∃ a∈Eu l m,x<a
 ·rw[e2a h.1,e2a h.2];rfl
 ·have hn:∀ k,(∀ r∈k,r∈l++m)->B5 k x=false:=by
   intro k hk;rw[e0z];intro hh;obtain⟨r,hr,h1,h2⟩:=Sg.1 hh;exact h ⟨⟨r.a,Ww.2 ⟨r,hk r hr,.inl rfl⟩,h1⟩,⟨r.b,Ww.2 ⟨r,hk r hr,.inr rfl⟩,h2⟩⟩
  rw[hn l λr hr=>e05 _ hr,hn m λr hr=>dz8 _ hr,hso,e27]
def D8:=Ll (λa b=>a||b)
def Da:=Ll (λa b=>a&&!b)
def Ic:=Ll (λa b=>a&&b)
theorem Uo(l m:List Rn)(x:Int):B5 (D8 l m) x=(B5 l x||B5 m x):=Xe rfl l m x
theorem bb5(l m:List Rn)(x:Int):B5 (Da l m) x=(B5 l x&&!B5 m x):=Xe rfl l m x
end
def M1(last:Int):List Rn->Bool
 |[]=>true
 |r::l=>decide (last<r.a)&&(decide (r.a<r.b)&&(decide (r.b<=1073741824)&&M1 r.b l))
def G6(l:List Rn):Bool:=M1 (-1) l
theorem b7s:∀ {last:Int} {l:List Rn},M1 last l=true->Fa l/\(∀ r∈l,last<r.a/\r.b<=1073741824)
 |_,[],_=>⟨trivial,λ_ h=>by cases h⟩
 |last,r::l,h=>by
   simp only[M1,e14,e0r]at h;obtain⟨h1,h2,h3,h4⟩:=h;obtain⟨g1,g2⟩:=b7s h4;refine⟨⟨h2,λq hq=>(g2 q hq).1,g1⟩,λq hq=>?_⟩;rcases e2g.1 hq with rfl|hq
   ·exact⟨h1,h3⟩
   ·have:=g2 q hq;exact⟨by omega,this.2⟩
theorem b53:∀ {last:Int} {l:List Rn},Fa l->(∀ r∈l,last<r.a/\r.b<=1073741824)->M1 last l=true
 |_,[],_,_=>rfl
 |last,r::l,h,hb=>by
   simp only[M1,e14,e0r];have h0:=hb r (by simp);exact⟨h0.1,h.1,h0.2,b53 h.2.2 λq hq=>⟨h.2.1 q hq,(hb q (e06 _ hq)).2⟩⟩
theorem c9a{l:List Rn}:G6 l=true↔Fa l/\∀ r∈l,0<=r.a/\r.b<=1073741824:=by
 constructor
 ·intro h;obtain⟨h1,h2⟩:=b7s h;exact⟨h1,λr hr=>⟨by have:=(h2 r hr).1;omega,(h2 r hr).2⟩⟩
 ·rintro⟨h1,h2⟩;exact b53 h1 λr hr=>⟨by have:=(h2 r hr).1;omega,(h2 r hr).2⟩
theorem b52{l:List Rn}(h:Fa l):l=[]↔∀ x,B5 l x=false:=by
 constructor
 ·rintro rfl x;rfl
 ·intro hx;exact a6q h trivial λx=>by rw[hx x];rfl
def H4:List Rn->Int
 |[]=>0
 |r::l=>r.b-r.a+H4 l
def Fc:Nat->Int->List Int
 |0,_=>[]
 |n+1,a=>a::Fc n (a+1)
def Ld(l:List Rn):List Int:=l.flatMap λr=>Fc (r.b-r.a).toNat r.a
def bd6(l:List Rn)(n:Int):Option (List Int):=if n<0\/H4 l<n then none else some ((Ld l).take n.toNat)
theorem Zt:∀ (n:Nat) (a:Int),(Fc n a).length=n
 |0,_=>rfl
 |n+1,a=>by rw[Fc,e15,Zt]
def Jl(l:List Int):List Rn:=l.foldl (λout n=>if 0<=n/\n<1073741824 then D8 out [⟨n,n+1⟩]else out) []
def Mw:List Int->List Rn->List Rn
 |[],out=>out
 |n::l,out=>Mw l (if 0<=n/\n<1073741824 then Cs out ⟨n,n+1⟩else out)
theorem a7i:∀ (l:List Int) (out:List Rn),Fa out->Fa (l.foldl (λout n=>if 0<=n/\n<1073741824 then D8 out [⟨n,n+1⟩]else out) out)/\
 ∀ x,B5 (l.foldl (λout n=>if 0<=n/\n<1073741824 then D8 out [⟨n,n+1⟩]else out) out) x=(B5 out x||decide (x∈l/\0<=x/\x<1073741824))
 |[],out,h=>⟨h,λx=>by simp⟩
 |n::l,out,h=>by
   rw[e1r];by_cases hn:0<=n/\n<1073741824
   ·rw[if_pos hn];obtain⟨h1,h2⟩:=a7i l (D8 out [⟨n,n+1⟩]) (Zo _ _ _);refine⟨h1,λx=>?_⟩;rw[h2,Uo,e1x];simp only[e1v,e0r,e2g,L3,Xf,Bool.or_false,e14];constructor
    ·rintro((h|h)|h)
     ·exact .inl h
     ·exact .inr ⟨.inl om,by omega,by omega⟩
     ·exact .inr ⟨.inr h.1,h.2⟩
    ·rintro(h|⟨h|h,h'⟩)
     ·exact .inl (.inl h)
     ·exact .inl (.inr om)
     ·exact .inr ⟨h,h'⟩
   ·rw[if_neg hn];obtain⟨h1,h2⟩:=a7i l out h;refine⟨h1,λx=>?_⟩;rw[h2,e1x];simp only[e1v,e0r,e2g];constructor
    ·rintro(h|h)
     ·exact .inl h
     ·exact .inr ⟨.inr h.1,h.2⟩
    ·rintro(h|⟨h|h,h'⟩)
     ·exact .inl h
     ·subst h;exact absurd h' hn
     ·exact .inr ⟨h,h'⟩
theorem c88(l:List Int):Fa (Jl l):=(a7i l [] trivial).1
theorem d0k(l:List Int)(x:Int):B5 (Jl l) x=decide (x∈l/\0<=x/\x<1073741824):=by rw[Jl,(a7i l [] trivial).2,Xf,e2j]
theorem ax2:∀ (l:List Int) (out:List Rn),l.Pairwise (· < ·)->Fa out->(∀ q∈out,∀ n∈l,q.b<=n)->Fa (Mw l out)/\∀ x,B5 (Mw l out) x=(B5 out x||decide (x∈l/\0<=x/\x<1073741824))
 |[],out,_,h,_=>⟨h,λx=>by simp[Mw]⟩
 |n::l,out,hp,h,hb=>by
   have hp:=e0p.1 hp;rw[Mw];by_cases hn:0<=n/\n<1073741824
   ·rw[if_pos hn];obtain⟨g1,g2,_⟩:=b23 (l:=out) (r:=⟨n,n+1⟩) h (λq hq=>hb q hq n (by simp)) (by simp only;omega);obtain⟨h1,h2⟩:=ax2 l (Cs out ⟨n,n+1⟩) hp.2 g1 (λq hq k hk=>by have:=g2 q hq;have:=hp.1 k hk;simp only at *;omega);refine⟨h1,λx=>?_⟩;rw[h2,b0b _ _ _ h.pos (by simp only;omega),e1x];simp only[e1v,e0r,e2g,e14];constructor
    ·rintro((h|h)|h)
     ·exact .inl h
     ·exact .inr ⟨.inl om,by omega,by omega⟩
     ·exact .inr ⟨.inr h.1,h.2⟩
    ·rintro(h|⟨h|h,h'⟩)
     ·exact .inl (.inl h)
     ·exact .inl (.inr om)
     ·exact .inr ⟨h,h'⟩
   ·rw[if_neg hn];obtain⟨h1,h2⟩:=ax2 l out hp.2 h (λq hq k hk=>hb q hq k (e06 _ hk));refine⟨h1,λx=>?_⟩;rw[h2,e1x];simp only[e1v,e0r,e2g];constructor
    ·rintro(h|h)
     ·exact .inl h
     ·exact .inr ⟨.inr h.1,h.2⟩
    ·rintro(h|⟨h|h,h'⟩)
     ·exact .inl h
     ·subst h;exact absurd h' hn
     ·exact .inr ⟨h,h'⟩
theorem b77(l e:List Int)(he:e.Pairwise (· < ·))(hm:∀ x,x∈e↔x∈l):Mw e []=Jl l:=by
 obtain⟨h1,h2⟩:=ax2 e [] he trivial (λ_ h=>by cases h);refine a6q h1 (c88 l) λx=>?_;rw[h2,d0k,Xf,e2j,e1e.2];rw[hm]
structure SpaceL where
 held:List Rn
 one:List Rn
 two:List Rn
 kept:List Rn
 deriving DecidableEq,Inhabited
def Hf(n:Int):Bool:=decide (40<=n)&&decide (n<=240)
def E5(n:Int):List Rn:=[⟨14,14+n⟩]
def Dz(n:Int)(l:List Rn):Bool:=G6 l&&decide (Da l (E5 n)=[])
def Cz(n:Int)(s:SpaceL):Bool:=
 Hf n&&(Dz n s.held&&(Dz n s.one&&(Dz n s.two&&Dz n s.kept)))&&decide (Ic s.held s.one=[])&&decide (Ic (D8 s.held s.one) s.two=[])
def V3(n:Int)(s:SpaceL):List Rn:=if Cz n s=true then Da (Da (Da (Da (E5 n) s.held) s.one) s.two) s.kept else []
theorem b0a(n x:Int):B5 (E5 n) x=(decide (14<=x)&&decide (x<14+n)):=by simp[E5,B5]
theorem d0l{n:Int}{s:SpaceL}(h:Cz n s=true)(x:Int):B5 (V3 n s) x=(decide (14<=x)&&decide (x<14+n)&&!B5 s.held x&&!B5 s.one x&&!B5 s.two x&&!B5 s.kept x):=by
 rw[V3,if_pos h];simp only[bb5,b0a]
theorem d63(n:Int)(s:SpaceL):Fa (V3 n s):=by
 unfold V3;split
 ·exact Zo _ _ _
 ·trivial
theorem d64{n:Int}{s:SpaceL}(h:Cz n s=true):V3 n s=Da (E5 n) (D8 (D8 s.held s.one) (D8 s.two s.kept)):=by
 refine a6q (d63 n s) (Zo _ _ _) λx=>?_;rw[d0l h,bb5,Uo,Uo,Uo,b0a];simp only[Bool.not_or,Bool.and_assoc]
theorem cb1{l m:List Rn}:Da l m=[]↔∀ x,B5 l x=true->B5 m x=true:=by
 unfold Da;rw[b52 (Zo _ _ _)];constructor
 ·intro h x hx
  have:=h x;rw[Xe rfl,hx,e2e,Bool.not_eq_false']at this;exact this
 ·intro h x;rw[Xe rfl];cases hx:B5 l x with
  |false=>rfl
  |true=>rw[h x hx];rfl
theorem b1y{l m:List Rn}:Ic l m=[]↔∀ x,B5 l x=true->B5 m x=false:=by
 unfold Ic;rw[b52 (Zo _ _ _)];constructor
 ·intro h x hx
  have:=h x;rw[Xe rfl,hx,e2e]at this;exact this
 ·intro h x;rw[Xe rfl];cases hx:B5 l x with
  |false=>rfl
  |true=>rw[h x hx];rfl
theorem db5{l m k:List Rn}:Ic (D8 l m) k=[]↔Ic l k=[]/\Ic m k=[]:=by
 rw[b1y,b1y,b1y];constructor
 ·intro h;exact⟨λx hx=>h x (by rw[Uo,hx];rfl),λx hx=>h x (by rw[Uo,hx,Bool.or_true])⟩
 ·rintro⟨h1,h2⟩ x hx;rw[Uo,e1v]at hx;rcases hx with hx|hx
  ·exact h1 x hx
  ·exact h2 x hx
theorem bo7{n:Int}(hn:0<n){l:List Rn}(h:G6 l=true):decide (Da l (E5 n)=[])=(decide (l=[])||(decide (14<=(l.headD default).a)&&decide ((l.getLastD default).b<=14+n))):=by
 obtain⟨hs,_⟩:=c9a.1 h;rw[e1x];simp only[e1v,e14,e0r,cb1,b0a];have last:∀ {l:List Rn},Fa l->∀ r∈l,r.b<=(l.getLastD default).b:=by
  intro l
  induction l with
  |nil=>intro _ r hr;cases hr
  |cons q l ih=>
    intro hs r hr;cases l with
    |nil=>simp at hr;subst hr;simp
    |cons q' l=>
      have hl:(q::q'::l).getLastD default=(q'::l).getLastD default:=(by simp);rw[hl];rcases e2g.1 hr with rfl|hr
      ·have h1:=hs.2.1 q' (by simp);have h2:=ih hs.2.2 q' (by simp);have h3:=hs.2.2.1;omega
      ·exact ih hs.2.2 r hr
 constructor
 ·intro hx;cases l with
  |nil=>exact .inl rfl
  |cons q l=>
    refine .inr ⟨?_,?_⟩
    ·have:=hx q.a (Sg.2 ⟨q,by simp,e30 _,hs.1⟩);exact this.1
    ·have hne:(q::l)≠[]:=(by simp);have hmem:(q::l).getLastD default∈q::l:=by
      rw[List.getLastD_eq_getLast?,List.getLast?_eq_some_getLast hne];exact List.getLast_mem hne
     have hp:=hs.pos _ hmem
     have:=hx (((q::l).getLastD default).b-1) (Sg.2 ⟨_,hmem,by omega,by omega⟩);omega
 ·rintro(rfl|⟨h1,h2⟩) x hx
  ·cases hx
  ·obtain⟨r,hr,h3,h4⟩:=Sg.1 hx;have h5:=last hs r hr;cases l with
   |nil=>cases hr
   |cons q l=>
     have h6:=at7 hs hx;simp only[List.headD_cons]at h1;omega
structure Dev where
 last:Sl Bytes
 wait:Sl (Int×Bytes)
 lies:Int
 arm:Int
 down:Bool
 deriving DecidableEq,Inhabited
structure Node where
 kind:Int
 up:Int
 name:Bytes
 body:Bytes
 bad:Int
 deriving DecidableEq,Inhabited
structure Dset where
 id:Int
 kind:Int
 origin:Int
 quota:Int
 files:Sl Node
 deriving DecidableEq,Inhabited
structure Root where
 txg:Int
 next:Int
 guid:Int
 table:Ptr
 space:Ptr
 kept:Ptr
 keptTxg:Int
 deriving DecidableEq,Inhabited
structure Space where
 held:Sl Rn
 one:Sl Rn
 two:Sl Rn
 kept:Sl Rn
 deriving DecidableEq,Inhabited
def node0:Node:=⟨0,0,[],[],0⟩
def Space.n(s:Space):SpaceL:=⟨els s.held,els s.one,els s.two,els s.kept⟩
def O4(w:List (Int×Bytes))(i:Int)(s:Bytes):Bytes:=w.foldl (λs p=>if p.1=i then p.2 else s) s
def Gw(d:Dev)(i:Int):Option Bytes:=if d.down=false/\0<=i/\i<(els d.last).length then some (O4 (els d.wait) i ((els d.last).getD i.toNat default))else none
def Hl(d:Dev):Int:=(els d.last).length-28
def a0t(d:Dev)(p:Ptr)(kind:Int):Option Bytes:=if p.addr<14 then none else match Gw d p.addr with
 |none=>none
 |some s=>match Nl s with
   |none=>none
   |some x=>if p.sum=Dh (Dn x)/\x.birth=p.birth/\x.kind=kind then some x.load else none
def Iv(d:Dev)(p:Ptr)(kind:Int):Option Bytes:=if 14+Hl d<=p.addr then none else a0t d p kind
structure NodeH where
 kind:Int
 up:Int
 name:Bytes
 deriving DecidableEq,Inhabited
def Dv(x:NodeH)(size:Int)(l:List Ptr):Bytes:=
 if((x.kind=1\/x.kind=2)/\0<=x.up/\x.up<8/\x.name.length<=8)/\(0<=size/\size<=128/\l.length=4/\l.all Bt=true)
 then B6 [1,1,1] [x.kind,x.up,x.name.length]++x.name++B6 [2] [size]++(l.map Ed).flatten else []
def Q1(s:Bytes):Option (NodeH×Int×List Ptr):=match Im [49,49,49] s with
 |some ([k,u,n],r)=>if r.length<n then none else match Im [50] (r.drop n.toNat)with
   |some ([z],t)=>match H8 4 t with
     |some (l,_)=>if Dv ⟨k,u,r.take n.toNat⟩ z l=s then some (⟨k,u,r.take n.toNat⟩,z,l)else none
     |none=>none
   |_=>none
 |_=>none
def Hv(l:List Ptr):Bytes:=if l.length=8 then Er l else []
def Ts(s:Bytes):Option (List Ptr):=match H8 8 s with
 |some (l,[])=>some l
 |_=>none
structure DsetH where
 id:Int
 kind:Int
 origin:Int
 quota:Int
 deriving DecidableEq,Inhabited
def P5(last:Int)(x:DsetH)(p:Ptr):Bool:=decide (last<x.id)&&decide (x.id<=65535)&&(decide (x.kind=1)||decide (x.kind=2))&&(decide (0<=x.origin)&&decide (x.origin<=65535))&&(decide (0<=x.quota)&&decide (x.quota<=255))&&Bt p&&!decide (p=Bb)
def M0:Int->List DsetH->List Ptr->Bool
 |last,x::l,p::q=>P5 last x p&&M0 x.id l q
 |_,_,_=>true
def putRow(x:DsetH)(p:Ptr):Bytes:=B6 [2,1,2,1] [x.id,x.kind,x.origin,x.quota]++Ed p
def Ep:List DsetH->List Ptr->Bytes
 |x::l,p::q=>putRow x p++Ep l q
 |_,_=>[]
def Fx(l:List DsetH)(p:List Ptr):Bytes:=if l.length<=8/\l.length=p.length/\M0 0 l p=true then Ea 1 l.length++Ep l p else []
def Ow:Nat->Bytes->Option (List DsetH×List Ptr×Bytes)
 |0,s=>some ([],[],s)
 |n+1,s=>match Im [50,49,50,49] s with
   |some ([a,b,c,d],r)=>match Tt r with
     |some (p,t)=>match Ow n t with
       |some (l,q,u)=>some (⟨a,b,c,d⟩::l,p::q,u)
       |none=>none
     |none=>none
   |_=>none
def Ov(s:Bytes):Option (List DsetH×List Ptr):=match Im [49] s with
 |some ([n],r)=>match Ow n.toNat r with
   |some (l,p,_)=>if Fx l p=s then some (l,p)else none
   |none=>none
 |_=>none
def O3(r:Root):Bool:=decide (1<=r.txg)&&decide (r.txg<=1073741824)&&(decide (0<=r.next)&&decide (r.next<=1073741824))&&(decide (0<=r.guid)&&decide (r.guid<=1073741824))&&(decide (0<=r.keptTxg)&&decide (r.keptTxg<=1073741824))&&(Bt r.table&&Bt r.space&&Bt r.kept)
def Ku(r:Root):Bytes:=if O3 r=true then B6 [4,4,4] [r.txg,r.next,r.guid]++(Ed r.table++(Ed r.space++Ed r.kept))++B6 [4] [r.keptTxg]else []
def a00(s:Bytes):Option Root:=match Im [52,52,52] s with
 |some ([a,b,c],r)=>match H8 3 r with
   |some ([p,q,k],t)=>match Im [52] t with
     |some ([z],_)=>if Ku ⟨a,b,c,p,q,k,z⟩=s then some ⟨a,b,c,p,q,k,z⟩else none
     |_=>none
   |_=>none
 |_=>none
def Vd(n:Nat)(so:Nat->Bool):Bytes:=(List.range ((n+7)/8)).map λi=>UInt8.ofNat (((List.range 8).map λk=>if 8*i+k<n/\so (8*i+k)=true then 2 ^ k else 0).sum)
def Mu(data:Int)(l:List Rn):Bytes:=if Hf data=true/\Dz data l=true then Vd data.toNat (λi=>B5 l (14+i))else []
def Oe(s:Bytes)(i:Nat):Bool:=(s.getD (i/8) 0).toNat.testBit (i%8)
def Dm(data:Int)(s:Bytes):Option (List Rn×Bytes):=
 if Hf data=true/\(data.toNat+7)/8<=s.length/\(∀ i,i<8*((data.toNat+7)/8)->Oe s i=true->i<data.toNat)then
  some (Jl (((List.range data.toNat).filter (Oe s)).map λi:Nat=>14+(i:Int)),s.drop ((data.toNat+7)/8))else none
def Mt(data:Int)(s:SpaceL):Bytes:=if Cz data s=true then Mu data s.held++Mu data s.one++Mu data s.two++Mu data s.kept else []
def Pz(data:Int)(s:Bytes):Option SpaceL:=match Dm data s with
 |some (a,r)=>match Dm data r with
   |some (b,r)=>match Dm data r with
     |some (c,r)=>match Dm data r with
       |some (d,_)=>if Mt data ⟨a,b,c,d⟩=s then some ⟨a,b,c,d⟩else none
       |none=>none
     |none=>none
   |none=>none
 |none=>none
theorem bi7:∀ (k:Nat) (n m:Int),Ea k (n+m*2 ^ (8*k))=Ea k n
 |0,_,_=>rfl
 |k+1,n,m=>by
   have e:(2:Int) ^ (8*(k+1))=256*2 ^ (8*k):=(by rw[Nat.mul_add,Int.pow_add];omega);have hp:(2:Int) ^ (8*k)≠0:=Int.ne_of_gt (Int.pow_pos om);have e2:n+m*(256*2 ^ (8*k))=n+m*256*2 ^ (8*k):=(by rw[Int.mul_assoc]);rw[Ea,Ea,e,e2,bi7 k n (m*256),Int.add_mul_ediv_right _ _ hp,Int.add_mul_emod_self_right]
theorem bi6:∀ b:Bytes,Ea b.length (Bk b)=b
 |[]=>rfl
 |x::b=>by
   have hp:(0:Int)<2 ^ (8*b.length):=Int.pow_pos om;have h0:=Rm b;have h1:=Zv b;have hx:=x.toNat_lt;have e:(Bk b+x.toNat*2 ^ (8*b.length))/2 ^ (8*b.length)=(x.toNat:Int):=by
    rw[Int.add_mul_ediv_right _ _ (Int.ne_of_gt hp),Int.ediv_eq_zero_of_lt h0 h1,e2v]
   rw[e15,Ea,ap7,Int.add_comm,e,bi7,bi6 b]
   congr 1
   have:(((x.toNat:Int)%256).toNat)=x.toNat:=om;rw[this];simp
theorem b6a:∀ (ks:List Nat) (s:Bytes),ks.sum<=s.length->B6 ks (Bp ks s)=s.take ks.sum
 |[],s,_=>by simp[Bp,B6]
 |k::ks,s,h=>by
   rw[e2i]at h;have hk:(s.take k).length=k:=(by rw[e1f];omega);have e:=bi6 (s.take k);rw[hk]at e;rw[Bp,B6,e,b6a ks (s.drop k) (by rw[e19];omega),e2i,List.take_add]
theorem b3j(b:Bytes)(n:Nat)(h:b.length<=n):Bk b<2 ^ (8*n):=by
 refine Int.lt_of_lt_of_le (Zv b) ?_;have:(2:Nat) ^ (8*b.length)<=2 ^ (8*n):=Nat.pow_le_pow_right om om
 exact_mod_cast this
theorem a62(n:Int)(h0:0<=n)(h1:n<4294967296):(((UInt32.ofNat n.toNat).toNat:Nat):Int)=n:=by
 rw[UInt32.toNat_ofNat'];omega
theorem c5e(s:Bytes)(h:22<=s.length):Ed (He (Bp Fl s))=s.take 22:=by
 have e:=b6a Fl s h;have u:∀ b:Bytes,b.length<=4->0<=Bk b/\Bk b<4294967296:=λb hb=>⟨Rm b,b3j b 4 hb⟩;rw[<-show Fl.sum=22 from rfl,<-e];unfold Ed
 congr 1
 simp only[Fl,Bp,He,a0y];rw[a62 _ (u _ (by simp[e1f];omega)).1 (u _ (by simp[e1f];omega)).2,a62 _ (u _ (by simp[e1f];omega)).1 (u _ (by simp[e1f];omega)).2,a62 _ (u _ (by simp[e1f];omega)).1 (u _ (by simp[e1f];omega)).2,a62 _ (u _ (by simp[e1f];omega)).1 (u _ (by simp[e1f];omega)).2]
theorem c0t{s:Bytes}{p:Ptr}{r:Bytes}(h:Tt s=some (p,r)):s=Ed p++r/\Bt p=true:=by
 unfold Tt at h;split at h
 ·rename_i hc;cases h;exact⟨by rw[c5e s hc.1,dz9],hc.2⟩
 ·cases h
theorem a69:∀ {n:Nat} {s:Bytes} {l:List Ptr} {r:Bytes},H8 n s=some (l,r)->s=(l.map Ed).flatten++r/\l.all Bt=true/\l.length=n
 |0,s,l,r,h=>by cases h;exact⟨rfl,rfl,rfl⟩
 |n+1,s,l,r,h=>by
   rw[H8]at h;split at h
   ·rename_i p t hp;split at h
    ·rename_i l' t' hl;cases h;obtain⟨h1,h2⟩:=c0t hp;obtain⟨h3,h4,h5⟩:=a69 hl;refine⟨?_,?_,by simp[h5]⟩
     ·rw[h1,h3];simp
     ·simp[h2,h4]
    ·cases h
   ·cases h
theorem U8{l:List Ptr}(h:l.all Bt=true):Er l=(l.map Ed).flatten:=if_pos h
theorem ar1{s:Bytes}{l:List Ptr}(h:Ts s=some l):l.length=8/\l.all Bt=true/\s=Hv l:=by
 unfold Ts at h;split at h
 ·rename_i l' he;cases h;obtain⟨h1,h2,h3⟩:=a69 he;refine⟨h3,h2,?_⟩;rw[Hv,if_pos h3,U8 h2,h1,e1t]
 ·cases h
theorem c0w{s:Bytes}{x:NodeH}{size:Int}{l:List Ptr}(h:Q1 s=some (x,size,l)):Dv x size l=s:=by
 unfold Q1 at h;split at h
 ·split at h
  ·cases h
  ·split at h
   ·split at h
    ·split at h
     ·rename_i he;cases h;exact he
     ·cases h
    ·cases h
   ·cases h
 ·cases h
theorem c0h{s:Bytes}{l:List DsetH}{p:List Ptr}(h:Ov s=some (l,p)):Fx l p=s:=by
 unfold Ov at h;split at h
 ·split at h
  ·split at h
   ·rename_i he;cases h;exact he
   ·cases h
  ·cases h
 ·cases h
end Go.Proofs.YtahmkkjcchnonaaGreatDoor.Abs
