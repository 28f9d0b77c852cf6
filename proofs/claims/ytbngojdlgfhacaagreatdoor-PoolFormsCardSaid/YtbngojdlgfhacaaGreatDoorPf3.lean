/-
  Part 3 of the proof: no condition. (Parts of the abstract layer, of the program's functions in its form, and of their contracts.)
-/
import Derived.Test.YtbngojdlgfhacaaGreatDoorPf2
import Derived.KernelRfl
set_option maxRecDepth 100000
set_option maxHeartbeats 8000000
set_option linter.unusedSimpArgs false
set_option linter.unusedVariables false
set_option linter.unusedSectionVars false
namespace Go.Proofs.YtbngojdlgfhacaaGreatDoor.Abs
section
def b7v(n0:Nat)(q:List AV×AH):List AV×AH:=F9 n0 q.1 q.2
abbrev R3:=Option (AExit×List AV×AH)
def Cn(X:TCtx)(b:TC)(r:R3):R3:=Kb r λcf H=>Av X b cf H
def Qn(X:TCtx)(a b:TC)(cf:List AV)(q:Option (AV×AH)):R3:=q.bind λq=>Qm q.1 (Av X a cf q.2) (Av X b cf q.2)
def ifE(X:TCtx)(f:StepF)(e:TE)(a b:TC)(r:Option (List AV×AH)):R3:=r.bind λr=>Qn X a b r.1 (Bc f r.1 e r.2)
def Jn(f:StepF)(l:List TS)(r:Option (List AV×AH)):Option (List AV×AH):=r.bind λr=>Eo f l r.1 r.2
def It(cf:List AV)(d:Option Nat)(q:Option (AV×AH)):Option (List AV×AH):=q.bind λq=>some (Fd cf d q.1,q.2)
def bk2(f:StepF)(cf:List AV)(d:Option Nat)(o:AOp)(r:Option (List AV×AH)):Option (List AV×AH):=r.bind λr=>It cf d (f o r.1 r.2)
def Dp(f:StepF)(o:AOp)(r:Option (List AV×AH)):Option (AV×AH):=r.bind λr=>f o r.1 r.2
def Tt(f:StepF)(cf:List AV)(b:TE)(r:Option (AV×AH)):Option (AV×AH):=r.bind λr=>match r.1 with
 |.bool true=>Bc f cf b r.2
 |.bool false=>some (.bool false,r.2)
 |_=>none
def Sw(f:StepF)(cf:List AV)(b:TE)(r:Option (AV×AH)):Option (AV×AH):=r.bind λr=>match r.1 with
 |.bool true=>some (.bool true,r.2)
 |.bool false=>Bc f cf b r.2
 |_=>none
def Yc(x:AV)(r:Option (List AV×AH)):Option (List AV×AH):=r.bind λq=>some (x::q.1,q.2)
def a1p(f:StepF)(cf:List AV)(es:List TE)(r:Option (AV×AH)):Option (List AV×AH):=r.bind λr=>Yc r.1 (Cz f cf es r.2)
def Hu(n0:Nat)(live:List Nat)(r:R3):R3:=Kb r λcf H=>some (.normal,(F9 n0 (Di live 0 cf) H).1,(F9 n0 (Di live 0 cf) H).2)
def aw0(X:TCtx)(live:List Nat)(b:TC)(cf:List AV)(H:AH):R3:=Hu X.n0 live (Av X b cf H)
def bu8(X:TCtx)(live:List Nat)(em:List (Nat×Nat))(b:TC)(cf:List AV)(H:AH):R3:=X.lp (aw0 X live b) (enter X.n0 live em cf H).1 (enter X.n0 live em cf H).2
section
variable (X:TCtx) (f:StepF) (cf:List AV) (H:AH) (b:TC) (a c:TC) (r:R3) (i:Nat) (l:List TS) (n:Nat) (e:TE)
theorem b79:Av X .skip cf H=some (.normal,cf,H):=qq
theorem b7b:Av X .ret cf H=some (.ret,cf,H):=qq
theorem b7k:Av X (.exit i) cf H=some (.exit i,cf,H):=qq
theorem b7c:Av X (.reg n l) cf H=Qf (Eo (Bf X.lk X.E) l cf H):=qq
theorem b7l:Av X (.dreg n l) cf H=Qf (Eo fD l cf H):=qq
theorem b7a:Av X (.seq a b) cf H=Cn X b (Av X a cf H):=qq
theorem b7j:Av X (.ifc n l e a b) cf H=ifE X (Bf X.lk X.E) e a b (Eo (Bf X.lk X.E) l cf H):=qq
theorem b7i:Av X (.ifd n l e a b) cf H=ifE X fD e a b (Eo fD l cf H):=qq
theorem b7g:Av X (.ifv i a b) cf H=Qn X a b cf (some (getF cf i,H)):=qq
theorem b7h(q:Bool):Av X (.ifk q a b) cf H=if q=true then Av X a cf H else Av X b cf H:=qq
theorem b7m:Av X (.block i b) cf H=C2 i (Av X b cf H):=qq
theorem b7f(live:List Nat)(em:List (Nat×Nat)):Av X (.loop live em b) cf H=bu8 X live em b cf H:=qq
theorem bq4:Qf (some (cf,H))=some (.normal,cf,H):=qq
theorem b8o:Cn X b (some (.normal,cf,H))=Av X b cf H:=qq
theorem b8n:Cn X b (some (.ret,cf,H))=some (.ret,cf,H):=qq
theorem b8q:Cn X b (some (.exit i,cf,H))=some (.exit i,cf,H):=qq
theorem bn6:C2 i (some (.normal,cf,H))=some (.normal,cf,H):=qq
theorem bn5:C2 i (some (.ret,cf,H))=some (.ret,cf,H):=qq
theorem bn8(j:Nat):C2 i (some (.exit j,cf,H))=if j=i then some (.normal,cf,H)else some (.exit j,cf,H):=qq
theorem c31:Qn X a b cf (some (.bool true,H))=Av X a cf H:=qq
theorem c33:Qn X a b cf (some (.bool false,H))=Av X b cf H:=qq
theorem c34(q:Prop)[Decidable q]:Qn X a b cf (some (.bool (decide q),H))=if q then Av X a cf H else Av X b cf H:=by
 by_cases h:q<;>simp[h,Qn,Qm]
theorem c35(q:Bool):Qn X a b cf (some (.bool q,H))=if q=true then Av X a cf H else Av X b cf H:=by
 cases q<;>rfl
theorem c30:ifE X f e a b (some (cf,H))=Qn X a b cf (Bc f cf e H):=qq
theorem b8p(q:Prop)[Decidable q](r r':R3):Cn X b (if q then r else r')=if q then Cn X b r else Cn X b r':=by by_cases h:q<;>simp[h]
theorem bn7(q:Prop)[Decidable q](r r':R3):C2 i (if q then r else r')=if q then C2 i r else C2 i r':=by by_cases h:q<;>simp[h]
theorem b6a:Eo f [] cf H=some (cf,H):=qq
theorem a7q(d:Option Nat)(o:AOp)(as:List TE):Eo f (.put d o as::l) cf H=Jn f l (bk2 f cf d o (Cz f cf as H)):=qq
theorem a8u(d:Option Nat)(o:AOp)(r:Option (List AV×AH)):bk2 f cf d o r=It cf d (Dp f o r):=by cases r<;>rfl
theorem b64(n:Int):Eo f (z i n::l) cf H=Jn f l (It cf (some i) (f (.mv (.c (.int .i64 n))) [] H)):=qq
theorem b65(x:AV):Eo f (y i x::l) cf H=Jn f l (It cf (some i) (f (.mv (.c x)) [] H)):=qq
theorem b66(n:Nat)(a b:TE):Eo f (s n a b::l) cf H=Jn f l (It cf none (Dp f (.store n (.t 0) (.t 1)) (Cz f cf [a,b] H))):=(a7q f cf H l _ _ _).trans (by rw[a8u])
theorem b6d(o:AOp)(as:List TE):Eo f (Abs.e o as::l) cf H=Jn f l (It cf none (Dp f o (Cz f cf as H))):=(a7q f cf H l _ _ _).trans (by rw[a8u])
theorem bs3:Jn f l (some (cf,H))=Eo f l cf H:=qq
theorem ba7(d:Option Nat)(x:AV):It cf d (some (x,H))=some (Fd cf d x,H):=qq
theorem bp1(o:AOp)(vs:List AV):Dp f o (some (vs,H))=f o vs H:=qq
theorem c7r(x:AV)(vs:List AV):Yc x (some (vs,H))=some (x::vs,H):=qq
theorem c7t(es:List TE)(x:AV):a1p f cf es (some (x,H))=Yc x (Cz f cf es H):=qq
theorem at5:Cz f cf [] H=some ([],H):=qq
theorem at7(es:List TE):Cz f cf (e::es) H=a1p f cf es (Bc f cf e H):=qq
theorem b6e:Bc f cf (v i) H=some (getF cf i,H):=qq
theorem b6v:Bc f cf (d i) H=some (getF cf i,H):=qq
theorem b6n(n:Int):Bc f cf (k n) H=some (.int .i64 n,H):=qq
theorem b74(x:AV):Bc f cf (.c x) H=some (x,H):=qq
theorem b6g(o:AOp)(as:List TE):Bc f cf (.op o as) H=Dp f o (Cz f cf as H):=qq
theorem b78(a b:TE):Bc f cf (.and a b) H=Tt f cf b (Bc f cf a H):=qq
theorem b6f(a b:TE):Bc f cf (.or a b) H=Sw f cf b (Bc f cf a H):=qq
theorem b6i(a:TE):Bc f cf (mv a) H=Dp f (.mv (.t 0)) (Cz f cf [a] H):=qq
theorem b6h(a:TE):Bc f cf (no a) H=Dp f (.un .not (.t 0)) (Cz f cf [a] H):=qq
theorem b77(o:BinOp)(a b:TE):Bc f cf (b2 o a b) H=Dp f (.bini o (.t 0) (.t 1)) (Cz f cf [a,b] H):=qq
theorem b76(o:BinOp)(n:Int)(a:TE):Bc f cf (bk o n a) H=Dp f (.bini o (.t 0) (.c (.int .i64 n))) (Cz f cf [a] H):=qq
theorem b75(o:BinOp)(a b:TE):Bc f cf (bs o a b) H=Dp f (.bins o (.t 0) (.t 1)) (Cz f cf [a,b] H):=qq
theorem b6k(a:TE):Bc f cf (ln a) H=Dp f (.len false (.t 0)) (Cz f cf [a] H):=qq
theorem b6j(a:TE):Bc f cf (ls a) H=Dp f (.len true (.t 0)) (Cz f cf [a] H):=qq
theorem b6u(n:Nat)(a:TE):Bc f cf (ex n a) H=Dp f (.ext (.t 0) n) (Cz f cf [a] H):=qq
theorem b6l(a:TE):Bc f cf (ld a) H=Dp f (.load false 1 (.t 0)) (Cz f cf [a] H):=qq
theorem b6m(n:Nat)(a:TE):Bc f cf (la n a) H=Dp f (.load true n (.t 0)) (Cz f cf [a] H):=qq
theorem b6t(n:Nat)(a:TE):Bc f cf (fa n a) H=Dp f (.faddr n (.t 0)) (Cz f cf [a] H):=qq
theorem b6q(n:Nat)(a b:TE):Bc f cf (ia n a b) H=Dp f (.iaddr n (.t 0) (.t 1)) (Cz f cf [a,b] H):=qq
theorem b6p(n:Nat)(j:Int)(a:TE):Bc f cf (ik n j a) H=Dp f (.iaddr n (.t 0) (.c (.int .i64 j))) (Cz f cf [a] H):=qq
theorem b6r(n:Nat)(a:TE):Bc f cf (fi n a) H=Dp f (.field false n 1 (.t 0)) (Cz f cf [a] H):=qq
theorem b6s(n m:Nat)(a:TE):Bc f cf (fg n m a) H=Dp f (.field true n m (.t 0)) (Cz f cf [a] H):=qq
theorem b6w(n:IntKind)(a:TE):Bc f cf (cv n a) H=Dp f (.convi n (.t 0)) (Cz f cf [a] H):=qq
theorem b6o(a b:TE):Bc f cf (ix a b) H=Dp f (.indexs (.t 0) (.t 1)) (Cz f cf [a,b] H):=qq
theorem b73(g:FuncId):Bc f cf (Ye g) H=Dp f (.call g []) (some ([],H)):=qq
theorem b72(g:FuncId)(a:TE):Bc f cf (An g a) H=Dp f (.call g [.t 0]) (Cz f cf [a] H):=qq
theorem b71(g:FuncId)(a b:TE):Bc f cf (B9 g a b) H=Dp f (.call g [.t 0,.t 1]) (Cz f cf [a,b] H):=qq
theorem b70(g:FuncId)(a b c:TE):Bc f cf (M5 g a b c) H=Dp f (.call g [.t 0,.t 1,.t 2]) (Cz f cf [a,b,c] H):=qq
theorem b6z(g:FuncId)(a b c e:TE):Bc f cf (c4' g a b c e) H=Dp f (.call g [.t 0,.t 1,.t 2,.t 3]) (Cz f cf [a,b,c,e] H):=qq
theorem b6y(g:FuncId)(a b c e h:TE):Bc f cf (Tk g a b c e h) H=Dp f (.call g [.t 0,.t 1,.t 2,.t 3,.t 4]) (Cz f cf [a,b,c,e,h] H):=qq
theorem b6x(g:FuncId)(a b c e h i:TE):Bc f cf (c6' g a b c e h i) H=Dp f (.call g [.t 0,.t 1,.t 2,.t 3,.t 4,.t 5]) (Cz f cf [a,b,c,e,h,i] H):=qq
theorem ca9(b:TE):Tt f cf b (some (.bool true,H))=Bc f cf b H:=qq
theorem cb1(b:TE):Tt f cf b (some (.bool false,H))=some (.bool false,H):=qq
theorem bo4(b:TE):Sw f cf b (some (.bool true,H))=some (.bool true,H):=qq
theorem bo6(b:TE):Sw f cf b (some (.bool false,H))=Bc f cf b H:=qq
theorem cb2(q:Prop)[Decidable q](b:TE):Tt f cf b (some (.bool (decide q),H))=if q then Bc f cf b H else some (.bool false,H):=by
 by_cases h:q<;>simp[h,Tt]
theorem bo7(q:Prop)[Decidable q](b:TE):Sw f cf b (some (.bool (decide q),H))=if q then some (.bool true,H)else Bc f cf b H:=by
 by_cases h:q<;>simp[h,Sw]
theorem cb3(q:Bool)(b:TE):Tt f cf b (some (.bool q,H))=if q=true then Bc f cf b H else some (.bool false,H):=by cases q<;>rfl
theorem bo8(q:Bool)(b:TE):Sw f cf b (some (.bool q,H))=if q=true then some (.bool true,H)else Bc f cf b H:=by cases q<;>rfl
theorem c0d(q:Prop)[Decidable q](x y:Bool):(if q then some (AV.bool x,H)else some (AV.bool y,H))=some (.bool (if q then x else y),H):=by by_cases h:q<;>simp[h]
theorem c0e(q:Prop)[Decidable q](x:Bool):(if q then x else false)=(decide q&&x):=by by_cases h:q<;>simp[h]
theorem c0c(q:Prop)[Decidable q](x:Bool):(if q then true else x)=(decide q||x):=by by_cases h:q<;>simp[h]
theorem ba8(d:Option Nat)(q:Prop)[Decidable q](x y:Option (AV×AH)):It cf d (if q then x else y)=if q then It cf d x else It cf d y:=by by_cases h:q<;>simp[h]
theorem bs4(q:Prop)[Decidable q](x y:Option (List AV×AH)):Jn f l (if q then x else y)=if q then Jn f l x else Jn f l y:=by by_cases h:q<;>simp[h]
theorem bq5(q:Prop)[Decidable q](x y:Option (List AV×AH)):Qf (if q then x else y)=if q then Qf x else Qf y:=by by_cases h:q<;>simp[h]
theorem bp2(o:AOp)(q:Prop)[Decidable q](x y:Option (List AV×AH)):Dp f o (if q then x else y)=if q then Dp f o x else Dp f o y:=by by_cases h:q<;>simp[h]
theorem c7s(x:AV)(q:Prop)[Decidable q](r r':Option (List AV×AH)):Yc x (if q then r else r')=if q then Yc x r else Yc x r':=by by_cases h:q<;>simp[h]
theorem c7u(es:List TE)(q:Prop)[Decidable q](r r':Option (AV×AH)):a1p f cf es (if q then r else r')=if q then a1p f cf es r else a1p f cf es r':=by by_cases h:q<;>simp[h]
theorem c32(q:Prop)[Decidable q](r r':Option (AV×AH)):Qn X a b cf (if q then r else r')=if q then Qn X a b cf r else Qn X a b cf r':=by by_cases h:q<;>simp[h]
theorem cb0(b:TE)(q:Prop)[Decidable q](r r':Option (AV×AH)):Tt f cf b (if q then r else r')=if q then Tt f cf b r else Tt f cf b r':=by by_cases h:q<;>simp[h]
theorem bo5(b:TE)(q:Prop)[Decidable q](r r':Option (AV×AH)):Sw f cf b (if q then r else r')=if q then Sw f cf b r else Sw f cf b r':=by by_cases h:q<;>simp[h]
theorem bc3(n0:Nat)(live:List Nat):Hu n0 live (some (.normal,cf,H))=some (.normal,(F9 n0 (Di live 0 cf) H).1,(F9 n0 (Di live 0 cf) H).2):=qq
theorem bc5(n0:Nat)(live:List Nat):Hu n0 live (some (.exit i,cf,H))=some (.exit i,cf,H):=qq
theorem bc2(n0:Nat)(live:List Nat):Hu n0 live (some (.ret,cf,H))=some (.ret,cf,H):=qq
theorem bc4(n0:Nat)(live:List Nat)(q:Prop)[Decidable q](r r':R3):Hu n0 live (if q then r else r')=if q then Hu n0 live r else Hu n0 live r':=by by_cases h:q<;>simp[h]
theorem bx6(live:List Nat)(n:Nat)(x:AV)(xs:List AV):Di live n (x::xs)=(if live.contains n then x else .top)::Di live (n+1) xs:=qq
theorem bx3(live:List Nat)(n:Nat):Di live n []=[]:=qq
theorem c6b(n0:Nat)(live:List Nat)(em:List (Nat×Nat)):enter n0 live em cf H=b7v n0 (Qu em (Di live 0 cf,H)):=qq
theorem b7u(n0:Nat):b7v n0 (cf,H)=F9 n0 cf H:=qq
theorem c6f(q:List AV×AH):Qu [] q=q:=qq
theorem c6g(sz:Nat)(em:List (Nat×Nat)):Qu ((i,sz)::em) (cf,H)=Qu em (Th i sz cf H (getF cf i)):=qq
theorem c6k(sz:Nat):Th i sz cf H .emp=(Fd cf (some i) (.own H.length sz 0 0 0),H++[some []]):=qq
theorem c6i(sz r s o l t:Nat):Th i sz cf H (.own r s o l t)=(cf,H):=qq
theorem c6j(sz:Nat)(es:List (List PV)):Th i sz cf H (.fz es)=(cf,H):=qq
theorem c6h(sz:Nat):Th i sz cf H .top=(cf,H):=qq
theorem b7s(n0:Nat):F9 n0 cf []=(cf,[]):=if_pos (e7w _)
end
theorem at3{f:StepF}(hf:∀ x fr H,f (.mv x) fr H=some (evalA fr x,H))(cf:List AV)(H:AH)(i:Nat)(l:List TS)(a:TE):Eo f (m i a::l) cf H=Jn f l (It cf (some i) (Bc f cf a H)):=by
 rw[m,a7q,a8u,at7];cases Bc f cf a H with
 |none=>rfl
 |some r=>simp only[a1p,Yc,at5,e5y,Dp,hf];rfl
theorem b69{f:StepF}(hf:∀ x fr H,f (.mv x) fr H=some (evalA fr x,H))(cf:List AV)(H:AH)(i:Nat)(l:List TS)(a:TE):Eo f (p i a::l) cf H=Jn f l (It cf (some i) (Bc f cf a H)):=by
 cases a
 case op o as=>exact(a7q f cf H l _ _ _).trans (by rw[a8u];rfl)
 all_goals exact at3 hf cf H i l _
theorem b6b(lk:FuncId->Bool)(E:CallF)(cf:List AV)(H:AH)(i:Nat)(l:List TS)(a:TE):Eo (Bf lk E) (m i a::l) cf H=Jn (Bf lk E) l (It cf (some i) (Bc (Bf lk E) cf a H)):=at3 (a5k lk E).mv cf H i l a
theorem b67(lk:FuncId->Bool)(E:CallF)(cf:List AV)(H:AH)(i:Nat)(l:List TS)(a:TE):Eo (Bf lk E) (p i a::l) cf H=Jn (Bf lk E) l (It cf (some i) (Bc (Bf lk E) cf a H)):=b69 (a5k lk E).mv cf H i l a
theorem b6c(cf:List AV)(H:AH)(i:Nat)(l:List TS)(a:TE):Eo fD (m i a::l) cf H=Jn fD l (It cf (some i) (Bc fD cf a H)):=at3 a5l.mv cf H i l a
theorem b68(cf:List AV)(H:AH)(i:Nat)(l:List TS)(a:TE):Eo fD (p i a::l) cf H=Jn fD l (It cf (some i) (Bc fD cf a H)):=b69 a5l.mv cf H i l a
theorem bv6{step:List AV->AH->R3}{cf:List AV}{H:AH}{cf':List AV}{H':AH}(h:step cf H=some (.normal,cf',H')):Ai step cf H=Ai step cf' H':=by
 apply Option.ext;intro r;rw[a0l,a0l];constructor
 ·rintro⟨k,hk⟩;cases k with
  |zero=>cases hk
  |succ k=>unfold Gx at hk;rw[h]at hk;exact⟨k,hk⟩
 ·rintro⟨k,hk⟩;exact⟨k+1,by unfold Gx;rw[h];exact hk⟩
theorem d6t{step:List AV->AH->R3}{cf:List AV}{H:AH}{i:Nat}{cf':List AV}{H':AH}(h:step cf H=some (.exit i,cf',H')):Ai step cf H=some (.exit i,cf',H'):=a0l.2 ⟨1,by unfold Gx;rw[h]⟩
theorem d6s{step:List AV->AH->R3}{cf:List AV}{H:AH}{cf':List AV}{H':AH}(h:step cf H=some (.ret,cf',H')):Ai step cf H=some (.ret,cf',H'):=a0l.2 ⟨1,by unfold Gx;rw[h]⟩
noncomputable def V2 (step:List AV->AH->R3) (r:R3):R3:=match r with
 |some (.normal,cf,H)=>Ai step cf H
 |r=>r
theorem T3(step:List AV->AH->R3)(cf:List AV)(H:AH):Ai step cf H=V2 step (step cf H):=by
 cases hs:step cf H with
 |none=>
   cases hl:Ai step cf H with
   |none=>rfl
   |some r=>
     obtain⟨k,hk⟩:=a0l.1 hl;cases k with
     |zero=>cases hk
     |succ k=>unfold Gx at hk;rw[hs]at hk;cases hk
 |some q=>
   obtain⟨e,c1,H1⟩:=q;cases e with
   |normal=>exact bv6 hs
   |exit i=>exact d6t hs
   |ret=>exact d6s hs
theorem bp5(step:List AV->AH->R3)(cf:List AV)(H:AH):V2 step (some (.normal,cf,H))=Ai step cf H:=qq
theorem bp7(step:List AV->AH->R3)(i:Nat)(cf:List AV)(H:AH):V2 step (some (.exit i,cf,H))=some (.exit i,cf,H):=qq
theorem bp4(step:List AV->AH->R3)(cf:List AV)(H:AH):V2 step (some (.ret,cf,H))=some (.ret,cf,H):=qq
theorem bp6(step:List AV->AH->R3)(q:Prop)[Decidable q](r r':R3):V2 step (if q then r else r')=if q then V2 step r else V2 step r':=by by_cases h:q<;>simp[h]
end
section
section
variable (lk:FuncId->Bool) (E:CallF) (vs:List AV) (H:AH)
theorem c41(n:Nat):getF [] n=.top:=qq
theorem c3y(x:AV)(l:List AV):getF (x::l) 0=x:=qq
theorem c3z(x:AV)(l:List AV)(n:Nat):getF (x::l) (n+1)=getF l n:=qq
theorem bk8(x:AV):Fd vs none x=vs:=qq
theorem bk6(x y:AV):Fd (y::vs) (some 0) x=x::vs:=qq
theorem bk7(x y:AV)(n:Nat):Fd (y::vs) (some (n+1)) x=y::Fd vs (some n) x:=qq
theorem c5u(n:Nat):Ac vs (.t n)=getF vs n:=qq
theorem c5v(x:AV):Ac vs (.c x)=x:=qq
theorem bb6(x:AV):same (some x) H=some (x,H):=qq
theorem bb7(g:AObj->AV)(o:AObj):same (Option.map g (some o)) H=some (g o,H):=qq
theorem cp8(x:Opd):Bf lk E (.mv x) vs H=some (Ac vs x,H):=qq
theorem cp6(c a b:Opd):Bf lk E (.pick c a b) vs H=same (pickV (Ac vs c) (Ac vs a) (Ac vs b)) H:=qq
theorem ct1(cs:List AV):Bf lk E (.alloc cs) vs H=if cs.length≠0 then some (.ptr H.length 0 0 1,H++[some [cs]])else none:=qq
theorem cs7(x:Opd):Bf lk E (.box x) vs H=a1u H (Ac vs x):=qq
theorem cs5(z:List AV)(p:List (Nat×Nat×Opd)):Bf lk E (.build z p) vs H=same ((Ch (Ac vs) z p).map .agg) H:=qq
theorem cs6(s l:Nat)(z:List AV)(p:List (Nat×Opd)):Bf lk E (.bslice s l z p) vs H=a1t H s l (Ch (Ac vs) (List.replicate l z).flatten (p.map λx=>(x.1*s,s,x.2))):=qq
theorem cq3(a:Bool)(n:Nat)(x:Opd):Bf lk E (.load a n x) vs H=same ((Jl H n (Ac vs x)).map (Du a)) H:=qq
theorem cp1(n:Nat)(p x:Opd):Bf lk E (.store n p x) vs H=a38 H n (Ac vs p) (Ac vs x):=qq
theorem cp7(x:Opd):Bf lk E (.nilchk x) vs H=same (Xj H (Ac vs x)) H:=qq
theorem cs9(o:BinOp)(x y:Opd):Bf lk E (.bini o x y) vs H=same (Qw o (Ac vs x) (Ac vs y)) H:=qq
theorem cs8(o:BinOp)(x y:Opd):Bf lk E (.bins o x y) vs H=same (a1w o (Ac vs x) (Ac vs y)) H:=qq
theorem cr5(n:Bool)(x y:Opd):Bf lk E (.eqb n x y) vs H=same (a1k n (Ac vs x) (Ac vs y)) H:=qq
theorem cr3(n:Bool)(ks:List EK)(x y:Opd):Bf lk E (.eqs n ks x y) vs H=same (a1j H n ks (Ac vs x) (Ac vs y)) H:=qq
theorem cp0(o:UnOp)(x:Opd):Bf lk E (.un o x) vs H=same (Ud o (Ac vs x)) H:=qq
theorem cr9(k:IntKind)(x:Opd):Bf lk E (.convi k x) vs H=same (a1o k (Ac vs x)) H:=qq
theorem cr8(x:Opd):Bf lk E (.convsb x) vs H=a5x H (Ac vs x):=qq
theorem cs0(x:Opd):Bf lk E (.convbs x) vs H=same (((G5 H (Ac vs x)).bind Hl).map .str) H:=qq
theorem cr7(x:Opd):Bf lk E (.convss x) vs H=same (a1n (Ac vs x)) H:=qq
theorem cp9(s b:Nat)(z:List AV)(l c:Opd):Bf lk E (.mksl s b z l c) vs H=a41 H s b z (Ac vs l) (Ac vs c):=qq
theorem cp3(x:Opd)(l h:Option Opd):Bf lk E (.slices x l h) vs H=same (Wx (Ac vs) (Ac vs x) l h) H:=qq
theorem cp4(s:Nat)(x:Opd)(l h:Option Opd):Bf lk E (.slicel s x l h) vs H=D8 (.slicel s x l h) (Ac vs) H:=qq
theorem cp2(x:Opd):Bf lk E (.slicez x) vs H=D8 (.slicez x) (Ac vs) H:=qq
theorem cp5(x l h m:Opd):Bf lk E (.slice3 x l h m) vs H=D8 (.slice3 x l h m) (Ac vs) H:=qq
theorem cr1(o:Nat)(x:Opd):Bf lk E (.faddr o x) vs H=same (Y7 H o (Ac vs x)) H:=qq
theorem cr0(a:Bool)(o n:Nat)(x:Opd):Bf lk E (.field a o n x) vs H=same (a1c a o n (Ac vs x)) H:=qq
theorem cq9(s:Nat)(x i:Opd):Bf lk E (.iaddr s x i) vs H=same (Qo H s (Ac vs x) (Ac vs i)) H:=qq
theorem cq8(l s:Nat)(x i:Opd):Bf lk E (.iaddra l s x i) vs H=same (Xt H l s (Ac vs x) (Ac vs i)) H:=qq
theorem cq6(x i:Opd):Bf lk E (.indexs x i) vs H=same (Xr (Ac vs x) (Ac vs i)) H:=qq
theorem cq7(a:Bool)(l s:Nat)(x i:Opd):Bf lk E (.indexa a l s x i) vs H=same (a0s a l s (Ac vs x) (Ac vs i)) H:=qq
theorem cs2(x:Opd):Bf lk E (.cap x) vs H=same (a1s (Ac vs x)) H:=qq
theorem c8t:a1s .emp=some (.int .i64 0):=qq
theorem c2y(a:Bool)(l s:Nat)(cs:List AV)(k:IntKind)(n:Int):a0s a l s (.agg cs) (.int k n)=if 0<=n/\n<l/\n.toNat*s+s<=cs.length then some (Du a ((cs.drop (n.toNat*s)).take s))else none:=qq
theorem cr2(x:Opd)(i:Nat):Bf lk E (.ext x i) vs H=same (a1e (Ac vs x) i) H:=qq
theorem cq5(x:Opd):Bf lk E (.len false x) vs H=same (S1 H (Ac vs x)) H:=qq
theorem cq4(x:Opd):Bf lk E (.len true x) vs H=same (a0m (Ac vs x)) H:=qq
theorem ct0(s b:Nat)(z:List AV)(x y:Opd):Bf lk E (.append s b z x y) vs H=Vr H s b z (Ac vs x) (Ac vs y):=qq
theorem cr6(s:Nat)(x y:Opd):Bf lk E (.copy s x y) vs H=a5w H s (Ac vs x) (Ac vs y):=qq
theorem cs1(s:Nat)(z:List AV)(x:Opd):Bf lk E (.clear s z x) vs H=a60 H s z (Ac vs x):=qq
theorem cq1(x y:Opd):Bf lk E (.min2 x y) vs H=same (a0c (Ac vs x) (Ac vs y)) H:=qq
theorem cq2(x y:Opd):Bf lk E (.max2 x y) vs H=same (a0i (Ac vs x) (Ac vs y)) H:=qq
theorem cq0(f:Fn)(a c:List Opd):Bf lk E (.mkfn f a c) vs H=some (.fn f (a.map (Ac vs)) (c.map (Ac vs)),H):=qq
theorem cs4(f:FuncId)(a:List Opd):Bf lk E (.call f a) vs H=G8 lk E f (a.map (Ac vs)) H:=qq
def c6t(E:CallF)(x:AV)(as:List AV)(H:AH):Option (AV×AH):=match x with
 |.fn (.func f) first cap=>E f (first++as++cap) H
 |_=>none
theorem cs3(x:Opd)(a:List Opd):Bf lk E (.calld x a) vs H=c6t (G8 lk E) (Ac vs x) (a.map (Ac vs)) H:=by
 simp only[Bf,Bi,a9n];generalize Ac vs x=y;cases y<;>first|rfl|(rename_i f _ _;cases f<;>rfl)
theorem c6s(f:FuncId)(first cap as:List AV):c6t E (.fn (.func f) first cap) as H=E f (first++as++cap) H:=qq
def bs1(neg:Bool)(q:Option (Option Bool))(H:AH):Option (AV×AH):=match q with
 |some (some b)=>some (.bool (b != neg),H)
 |_=>none
theorem cr4(n:Bool)(x:Opd):Bf lk E (.eqnil n x) vs H=bs1 n (Nx H (Ac vs x)) H:=by
 simp only[Bf,Bi,b0p];generalize Nx H (Ac vs x)=y;cases y with
 |none=>rfl
 |some y=>cases y<;>rfl
theorem bs0(n b:Bool):bs1 n (some (some b)) H=some (.bool (b != n),H):=qq
theorem ct9(x:Opd):fD (.mv x) vs H=some (Ac vs x,H):=by rw[Ba];rfl
theorem ct5(c a b:Opd):fD (.pick c a b) vs H=same (pickV (Ac vs c) (Ac vs a) (Ac vs b)) H:=by rw[Ba];rfl
theorem cw0(z:List AV)(p:List (Nat×Nat×Opd)):fD (.build z p) vs H=same ((Ch (Ac vs) z p).map .agg) H:=by rw[Ba];rfl
theorem cu4(a:Bool)(n:Nat)(x:Opd):fD (.load a n x) vs H=same ((Jl H n (Ac vs x)).map (Du a)) H:=by rw[Ba];rfl
theorem ct7(x:Opd):fD (.nilchk x) vs H=same (Xj H (Ac vs x)) H:=by rw[Ba];rfl
theorem cw2(o:BinOp)(x y:Opd):fD (.bini o x y) vs H=same (Qw o (Ac vs x) (Ac vs y)) H:=by rw[Ba];rfl
theorem cw1(o:BinOp)(x y:Opd):fD (.bins o x y) vs H=same (a1w o (Ac vs x) (Ac vs y)) H:=by rw[Ba];rfl
theorem cv5(n:Bool)(x y:Opd):fD (.eqb n x y) vs H=same (a1k n (Ac vs x) (Ac vs y)) H:=by rw[Ba];rfl
theorem cv4(n:Bool)(ks:List EK)(x y:Opd):fD (.eqs n ks x y) vs H=same (a1j H n ks (Ac vs x) (Ac vs y)) H:=by rw[Ba];rfl
theorem ct3(o:UnOp)(x:Opd):fD (.un o x) vs H=same (Ud o (Ac vs x)) H:=by rw[Ba];rfl
theorem cv7(k:IntKind)(x:Opd):fD (.convi k x) vs H=same (a1o k (Ac vs x)) H:=by rw[Ba];rfl
theorem cv8(x:Opd):fD (.convbs x) vs H=same (((G5 H (Ac vs x)).bind Hl).map .str) H:=by rw[Ba];rfl
theorem cv6(x:Opd):fD (.convss x) vs H=same (a1n (Ac vs x)) H:=by rw[Ba];rfl
theorem ct4(x:Opd)(l h:Option Opd):fD (.slices x l h) vs H=same (Wx (Ac vs) (Ac vs x) l h) H:=by rw[Ba];rfl
theorem cv2(o:Nat)(x:Opd):fD (.faddr o x) vs H=same (Y7 H o (Ac vs x)) H:=by rw[Ba];rfl
theorem cv1(a:Bool)(o n:Nat)(x:Opd):fD (.field a o n x) vs H=same (a1c a o n (Ac vs x)) H:=by rw[Ba];rfl
theorem cv0(s:Nat)(x i:Opd):fD (.iaddr s x i) vs H=same (Qo H s (Ac vs x) (Ac vs i)) H:=by rw[Ba];rfl
theorem cu9(l s:Nat)(x i:Opd):fD (.iaddra l s x i) vs H=same (Xt H l s (Ac vs x) (Ac vs i)) H:=by rw[Ba];rfl
theorem cu7(x i:Opd):fD (.indexs x i) vs H=same (Xr (Ac vs x) (Ac vs i)) H:=by rw[Ba];rfl
theorem cu8(a:Bool)(l s:Nat)(x i:Opd):fD (.indexa a l s x i) vs H=same (a0s a l s (Ac vs x) (Ac vs i)) H:=by rw[Ba];rfl
theorem cv9(x:Opd):fD (.cap x) vs H=same (a1s (Ac vs x)) H:=by rw[Ba];rfl
theorem cv3(x:Opd)(i:Nat):fD (.ext x i) vs H=same (a1e (Ac vs x) i) H:=by rw[Ba];rfl
theorem cu6(x:Opd):fD (.len false x) vs H=same (S1 H (Ac vs x)) H:=by rw[Ba];rfl
theorem cu5(x:Opd):fD (.len true x) vs H=same (a0m (Ac vs x)) H:=by rw[Ba];rfl
theorem cu2(x y:Opd):fD (.min2 x y) vs H=same (a0c (Ac vs x) (Ac vs y)) H:=by rw[Ba];rfl
theorem cu3(x y:Opd):fD (.max2 x y) vs H=same (a0i (Ac vs x) (Ac vs y)) H:=by rw[Ba];rfl
theorem cu1(f:Fn)(a c:List Opd):fD (.mkfn f a c) vs H=some (.fn f (a.map (Ac vs)) (c.map (Ac vs)),H):=by rw[Ba];rfl
end
def a00(d:FT)(n0:Nat)(r:R3):Option (AV×AH):=r.bind λr=>match r.1 with
 |.exit _=>none
 |_=>(Ea d.res r.2.1 r.2.2).bind λy=>Bv d.fz n0 y r.2.2
def Tf(fz:Bool)(n0:Nat)(H:AH)(y:Option AV):Option (AV×AH):=y.bind λy=>Bv fz n0 y H
theorem bd5(np nt:Nat)(res:List ARes)(sl:List Nat)(fz:Bool)(tc:TC)(n0:Nat)(cf:List AV)(H:AH):a00 ⟨np,nt,res,sl,fz,tc⟩ n0 (some (.ret,cf,H))=Tf fz n0 H (Ea res cf H):=qq
theorem bd6(np nt:Nat)(res:List ARes)(sl:List Nat)(fz:Bool)(tc:TC)(n0:Nat)(cf:List AV)(H:AH):a00 ⟨np,nt,res,sl,fz,tc⟩ n0 (some (.normal,cf,H))=Tf fz n0 H (Ea res cf H):=qq
theorem bd7(d:FT)(n0:Nat)(q:Prop)[Decidable q](r r':R3):a00 d n0 (if q then r else r')=if q then a00 d n0 r else a00 d n0 r':=by by_cases h:q<;>simp[h]
theorem dz9{fz:Bool}{H:AH}{y:AV}(h:Ab y=true):Tf fz 0 H (some y)=some (y,[]):=by
 simp only[Tf,e5y,Bv,h,and_self,if_true]
section
variable (tab:List (Nat×FT)) (orc:CallF) (lk:FuncId->Bool)
noncomputable def K:CallF:=G8 lk (Ev tab orc lk)
noncomputable def cx (sl:List Nat) (N n0:Nat):TCtx:=⟨lk,Ev tab orc lk,Ai,sl,N,n0⟩
theorem c7j(sl:List Nat)(N n0:Nat)(live:List Nat)(em:List (Nat×Nat))(b:TC)(cf:List AV)(H:AH):bu8 (cx tab orc lk sl N n0) live em b cf H=Ai (aw0 (cx tab orc lk sl N n0) live b) (enter n0 live em cf H).1 (enter n0 live em cf H).2:=qq
theorem c7h(sl:List Nat)(N n0:Nat)(live:List Nat)(b:TC)(cf:List AV)(H:AH):aw0 (cx tab orc lk sl N n0) live b cf H=Hu n0 live (Av (cx tab orc lk sl N n0) b cf H):=qq
theorem cn6:G8 lk (Ev tab orc lk)=K tab orc lk:=qq
variable {tab orc lk}
theorem ct2{f:FuncId}{d:FT}(hd:A9 tab f=some d){args:List AV}{H:AH}{r:AV×AH}(hn:args.length=d.np)(h:a00 d H.length (Av (cx tab orc lk d.sl (d.np+d.nt) H.length) d.tc (args++List.replicate (d.sl.length-d.np) .top) H)=some r) :
 Ev tab orc lk f args H=some r:=by
 refine e3r hd ?_;unfold Um;rw[if_pos hn];exact h
theorem e3q{f:FuncId}(hl:lk f=true){args:List AV}{H:AH}{x:AV}(h:K tab orc lk f (B3 H args) H=some (x,H))(hb:Aa (B3 H args)=true)(hx:Db x=true):K tab orc lk f args H=some (x,H):=by
 have h2:=h;unfold K G8 at h2 ⊢;rw[if_pos hl]at h2 ⊢;rw[Ub H _ hb]at h2;split at h2
 ·rename_i y H1 he;split at h2
  ·rename_i hfl;rw[if_pos hfl];exact h2
  ·split at h2
   ·cases h2;rename_i hfl _;exact absurd hx hfl
   ·cases h2
 ·cases h2
theorem e3u{P:Program}(ht:∀ p∈tab,p.2.is P p.1)(ho:G9 P orc){f:FuncId}{args:List AV}{H:AH}{x:AV}{H':AH}(h:K tab orc lk f args H=some (x,H')):C P f args H λy G=>y=x/\G=H' :=
 a65 (ar4 ht ho) _ _ _ _ _ h
end
end
section
abbrev Sl(α:Type):=Option (List α)
def els{α:Type}(x:Sl α):List α:=x.getD []
theorem Az{α:Type}(l:List α):els (some l)=l:=qq
theorem b23{α:Type}:els (none:Sl α)=[]:=qq
def nz{α:Type}(l:List α):Sl α:=if l.isEmpty then none else some l
theorem c6r{α:Type}(l:List α):els (nz l)=l:=by cases l<;>rfl
def A4{α:Type}(p:α->List PV):Sl α->AV
 |none=>.emp
 |some l=>.fz (l.map p)
def Kt{α:Type}(p:α->List PV):Sl α->PV
 |none=>.emp
 |some l=>.fz (l.map p)
section
variable {α:Type} (p:α->List PV) (x:Sl α) (H:AH)
theorem Cx(l:List α):A4 p (some l)=.fz (l.map p):=qq
theorem P9:A4 p none=.emp:=qq
theorem O5:emb (Kt p x)=A4 p x:=by cases x<;>rfl
theorem b8g:Cw (A4 p x)=some (Kt p x):=by cases x<;>rfl
theorem an0:cellA (A4 p x)=true:=by cases x<;>rfl
theorem Ak:Ab (A4 p x)=true:=by cases x<;>simp[A4,Ab]
theorem az2:Ci (A4 p x)=[]:=by cases x<;>simp[A4,Ci]
theorem Kn(τ:Nat->Option Nat):ren τ (A4 p x)=A4 p x:=Ji τ _ (Ak p x)
theorem c8h:cellsOf (A4 p x)=some [A4 p x]:=by cases x<;>rfl
theorem bw0:S1 H (A4 p x)=some (.int .i64 (els x).length):=by
 cases x with
 |none=>rfl
 |some l=>simp[A4,Jq,els]
theorem b25:G5 H (A4 p x)=some ((els x).map λa=>(p a).map emb):=by
 cases x with
 |none=>rfl
 |some l=>simp[A4,G5,els]
theorem Bl [Inhabited α](sz:Nat)(k:IntKind)(n:Int):Qo H sz (A4 p x) (.int k n)=if(0<=n/\n<(els x).length)/\(p ((els x).getD n.toNat default)).length=sz then some (.fptr (p ((els x).getD n.toNat default)))else none:=by
 cases x with
 |none=>
   rw[if_neg (by simp only[b23,e6f];omega)];rfl
 |some l=>exact B8 H sz l p k n
end
def Rd(Q:R3->Prop)(I:Prop)(c:List AV)(G:AH):R3->Prop
 |some (.normal,c',G')=>c'=c/\G'=G/\I
 |r=>Q r
section
variable (Q:R3->Prop) (I:Prop) (c:List AV) (G:AH)
theorem cf0(c':List AV)(G':AH):Rd Q I c G (some (.normal,c',G'))=(c'=c/\G'=G/\I):=qq
theorem cf2(i:Nat)(c':List AV)(G':AH):Rd Q I c G (some (.exit i,c',G'))=Q (some (.exit i,c',G')):=qq
theorem ce9(c':List AV)(G':AH):Rd Q I c G (some (.ret,c',G'))=Q (some (.ret,c',G')):=qq
theorem cf1(q:Prop)[Decidable q](r r':R3):Rd Q I c G (if q then r else r')=((q->Rd Q I c G r)/\(¬ q->Rd Q I c G r')):=by by_cases h:q<;>simp[h]
end
theorem Ny{Q:R3->Prop}{step:List AV->AH->R3}{cf:List AV}{H:AH}{r:R3}(hl:Ai step cf H=r)(n:Nat)(F:Nat->List AV)(G:Nat->AH)(I:Nat->Prop)(h0:cf=F 0)(h1:H=G 0)(hI:I 0)
 (hs:∀ j,j<n->I j->Rd Q (I (j+1)) (F (j+1)) (G (j+1)) (step (F j) (G j))) (he:I n->Rd Q False (F n) (G n) (step (F n) (G n))):Q r:=by
 subst hl h0 h1;have Ft:∀ j,(∀ c G',step (F j) (G j)≠some (.normal,c,G'))->Q (step (F j) (G j))->Q (Ai step (F j) (G j)):=by
  intro j hn hq;rw[T3];generalize step (F j) (G j)=r at hn hq;cases r with
  |none=>exact hq
  |some r=>
    obtain⟨e,c,G'⟩:=r;cases e with
    |normal=>exact absurd rfl (hn c G')
    |exit i=>exact hq
    |ret=>exact hq
 have key:∀ k j,j+k=n->I j->Q (Ai step (F j) (G j)):=by
  intro k
  induction k with
  |zero=>
    intro j hj hIj;have:j=n:=om;subst this;have h:=he hIj;refine Ft j ?_ ?_
    ·intro c G' e;rw[e]at h;exact h.2.2
    ·generalize step (F j) (G j)=r at h ⊢;cases r with
     |none=>exact h
     |some r=>
       obtain⟨e,c,G'⟩:=r;cases e with
       |normal=>exact h.2.2.elim
       |exit i=>exact h
       |ret=>exact h
  |succ k ih=>
    intro j hj hIj;have h:=hs j om hIj;by_cases hn:∀ c G',step (F j) (G j)≠some (.normal,c,G')
    ·refine Ft j hn ?_;generalize step (F j) (G j)=r at h hn ⊢;cases r with
     |none=>exact h
     |some r=>
       obtain⟨e,c,G'⟩:=r;cases e with
       |normal=>exact absurd rfl (hn c G')
       |exit i=>exact h
       |ret=>exact h
    ·have hn:∃ c G',step (F j) (G j)=some (.normal,c,G'):=by
      refine e45 λhx=>hn λc G' e=>hx ⟨c,G',e⟩
     obtain⟨c,G',e⟩:=hn;rw[e]at h;obtain⟨rfl,rfl,hI'⟩:=h;rw[bv6 e];exact ih (j+1) om hI'
 exact key n 0 om hI
theorem bh7(r sz o l t:Nat):Ci (.own r sz o l t)=[r]:=qq
theorem bh6(r i j t:Nat):Ci (.ptr r i j t)=[r]:=qq
theorem bi5(cs:List AV):Ci (.agg cs)=C1 cs:=qq
theorem bh3(cs:List AV):Ci (.tuple cs)=C1 cs:=qq
theorem bh4:Ci .top=[]:=qq
theorem bi4(b:Bool):Ci (.bool b)=[]:=qq
theorem bh9(k:IntKind)(n:Int):Ci (.int k n)=[]:=qq
theorem bh5(s:List UInt8):Ci (.str s)=[]:=qq
theorem bi3:Ci .emp=[]:=qq
theorem bh8:Ci .nilp=[]:=qq
theorem bi0(es:List (List PV)):Ci (.fz es)=[]:=qq
theorem bi1(cs:List PV):Ci (.fptr cs)=[]:=qq
theorem bi2(f:Fn)(a c:List AV):Ci (.fn f a c)=C1 a++C1 c:=qq
theorem bh0:C1 []=[]:=qq
theorem az0(x:AV)(xs:List AV):C1 (x::xs)=Ci x++C1 xs:=qq
theorem c8d(k:IntKind)(n:Int):cellsOf (.int k n)=some [.int k n]:=qq
theorem c89(s:List UInt8):cellsOf (.str s)=some [.str s]:=qq
theorem c8g(b:Bool):cellsOf (.bool b)=some [.bool b]:=qq
theorem c8b(r sz o l t:Nat):cellsOf (.own r sz o l t)=some [.own r sz o l t]:=qq
theorem c8a(r i j t:Nat):cellsOf (.ptr r i j t)=some [.ptr r i j t]:=qq
theorem c8e(es:List (List PV)):cellsOf (.fz es)=some [.fz es]:=qq
theorem c8f:cellsOf .emp=some [.emp]:=qq
theorem c8c:cellsOf .nilp=some [.nilp]:=qq
theorem bt4(k:Nat):Es k []=k:=qq
theorem bt5(k r:Nat)(l:List Nat):Es k (r::l)=Es (if k<=r then r+1 else k) l:=qq
theorem c8o(k:IntKind)(n:Int):cellA (.int k n)=true:=qq
theorem c8j(s:List UInt8):cellA (.str s)=true:=qq
theorem c8r(b:Bool):cellA (.bool b)=true:=qq
theorem c8l(r sz o l t:Nat):cellA (.own r sz o l t)=true:=qq
theorem c8k(r i j t:Nat):cellA (.ptr r i j t)=true:=qq
theorem c8p(es:List (List PV)):cellA (.fz es)=true:=qq
theorem c8q:cellA .emp=true:=qq
theorem c8n:cellA .nilp=true:=qq
def Px(cf:List AV)(H:AH):Nat->Nat->Nat->List AV×AH
 |0,k,k2=>if k2=k then(cf,H.take k)else(cf,H)
 |n+1,k,k2=>if k2=k then(cf,H.take k)else Px cf H n k2 (Es k2 (Ix (H.take k2)))
def at8(cf:List AV)(H:AH)(k:Nat):List AV×AH:=if H.length<=k then(cf,H)else Px cf H 4 k (Es k (Ix (H.take k)))
theorem b82{H:AH}{k:Nat}(h:Es k (Ix (H.take k))=k):∀ n,Ni H n k=k
 |0=>rfl
 |n+1=>by rw[Ni,h,b82 h n]
theorem b7w(cf:List AV)(H:AH):∀ (n k:Nat),Px cf H n k (Es k (Ix (H.take k)))=if Es (Ni H n k) (Ix (H.take (Ni H n k)))=Ni H n k then(cf,H.take (Ni H n k))else(cf,H)
 |0,k=>rfl
 |n+1,k=>by
   rw[Px];split
   ·rename_i h;rw[b82 h (n+1),if_pos h]
   ·rw[b7w cf H n];rfl
theorem b7t(n0:Nat)(cf:List AV)(H:AH):F9 n0 cf H=at8 cf H (Es n0 (C1 cf)):=by
 unfold F9 at8;split
 ·rfl
 ·exact(b7w cf H 4 _).symm
theorem b80(cf:List AV)(H:AH)(k:Nat):at8 cf H k=if H.length<=k then(cf,H)else Px cf H 4 k (Es k (Ix (H.take k))):=qq
theorem b7x(cf:List AV)(H:AH)(k k2:Nat):Px cf H 4 k k2=if k2=k then(cf,H.take k)else Px cf H 3 k2 (Es k2 (Ix (H.take k2))):=qq
theorem b7y(cf:List AV)(H:AH)(k k2:Nat):Px cf H 3 k k2=if k2=k then(cf,H.take k)else Px cf H 2 k2 (Es k2 (Ix (H.take k2))):=qq
theorem b7z(cf:List AV)(H:AH)(k k2:Nat):Px cf H 2 k k2=if k2=k then(cf,H.take k)else Px cf H 1 k2 (Es k2 (Ix (H.take k2))):=qq
theorem bh1:Ix []=[]:=qq
theorem bh2(o:Option AObj)(H:AH):Ix (o::H)=refsO o++Ix H:=qq
theorem bg3:refsO none=[]:=qq
theorem bg4:refsO (some [])=[]:=qq
theorem bg8(e:List AV)(o:AObj):refsO (some (e::o))=C1 e++refsO (some o):=qq
theorem bg9(a b:AObj):refsO (some (a++b))=refsO (some a)++refsO (some b):=by simp[refsO]
theorem Gz{α:Type}(l:List α)(f:α->List AV)(h:∀ a,C1 (f a)=[]):refsO (some (l.map f))=[]:=by
 simp only[refsO,List.flatMap_eq_nil_iff,e7o];rintro _ ⟨a,_,rfl⟩;exact h a
theorem az1(p:PV):Ci (emb p)=[]:=by cases p<;>rfl
theorem a04:∀ cs:List PV,C1 (cs.map emb)=[]
 |[]=>rfl
 |c::cs=>by rw[e75,az0,az1,a04 cs];rfl
theorem bg7{α:Type}(l:List α)(p:α->List PV):refsO (some (l.map λa=>(p a).map emb))=[]:=Gz l _ λa=>a04 _
theorem bg6{α:Type}(l:List α)(k:IntKind)(g:α->Int):refsO (some (l.map λa=>[AV.int k (g a)]))=[]:=Gz l _ λ_=>rfl
theorem bg5{α:Type}(l:List α)(g:α->List UInt8):refsO (some (l.map λa=>[AV.str (g a)]))=[]:=Gz l _ λ_=>rfl
theorem bg2(n:Nat)(k:IntKind)(g:Int):refsO (some (List.replicate n [AV.int k g]))=[]:=by
 simp only[refsO,List.flatMap_eq_nil_iff,List.mem_replicate];rintro _ ⟨_,rfl⟩;rfl
theorem Ic{α β:Type}[Inhabited α]{l:List α}{j:Nat}(h:j<l.length)(f:α->β):(l.map f)[j]?=some (f (l.getD j default)):=by
 rw[e5j,e42,e47 h];rfl
theorem Dd{α:Type}[Inhabited α]{l:List α}{j:Nat}(h:j<l.length):l.take (j+1)=l.take j++[l.getD j default]:=by
 rw[e5p,e42,e47 h];rfl
theorem Gd{α:Type}[Inhabited α]{l:List α}{j:Nat}(h:j<l.length):l.drop j=l.getD j default::l.drop (j+1):=by
 rw[e46 h,e42,e47 h];rfl
theorem F4{α β:Type}(l:List α)(f:α->β):(l.map f).take l.length=l.map f:=e4h (by rw[e6i];exact e7y _)
theorem an2:∀ l:List UInt8,Hl (l.map λb=>[AV.int IntKind.u8 (b.toNat:Int)])=some l
 |[]=>rfl
 |b::l=>by
   have hb:=b.toNat_lt;have e:UInt8.ofNat ((b.toNat:Int)).toNat=b:=(by simp);rw[e75,Hl,an2 l];simp[e]
theorem b91{α:Type}(f:α->Nat)(b:Nat)(h:∀ a,f a<=b):∀ l:List α,(l.map f).sum<=b*l.length
 |[]=>by simp
 |a::l=>by
   have:=b91 f b h l
   have:=h a;rw[e75,e7b,e5w,Nat.mul_succ];omega
end
section
mutual
theorem d2i:∀ x:AV,Ab x=true->Ci x=[]
 |.own ..,h=>by simp[Ab]at h
 |.ptr ..,h=>by simp[Ab]at h
 |.agg cs,h=>by simp only[Ab]at h;simp only[Ci,Oh cs h]
 |.tuple cs,h=>by simp only[Ab]at h;simp only[Ci,Oh cs h]
 |.fn f first cap,h=>by
   simp only[Ab,e5v]at h;simp only[Ci,Oh first h.1,Oh cap h.2,e6l]
 |.top,_=>by simp[Ci]
 |.bool _,_=>by simp[Ci]
 |.int _ _,_=>by simp[Ci]
 |.str _,_=>by simp[Ci]
 |.nilp,_=>by simp[Ci]
 |.emp,_=>by simp[Ci]
 |.fz _,_=>by simp[Ci]
 |.fptr _,_=>by simp[Ci]
 |.nilfn,_=>by simp[Ci]
theorem Oh:∀ xs:List AV,Aa xs=true->C1 xs=[]
 |[],_=>by simp[C1]
 |x::xs,h=>by
   simp only[Aa,e5v]at h;simp only[C1,d2i x h.1,Oh xs h.2,e6l]
end
theorem b2u{E:CallF}{f:FuncId}{args:List AV}{x:AV}(ha:Aa args=true)(h:E f args []=some (x,[]))(H:AH):Jy E f args H=some ([],x,[]):=by
 unfold Jy;have e:Iy H (H.length*4+40) (C1 args) []=[]:=by rw[Oh _ ha];rfl
 simp only[e,e7k,Hw _ _ ha,h];rfl
theorem c8u{E:CallF}{f:FuncId}{args:List AV}{x:AV}(ha:Aa args=true)(hx:Ab x=true)(h:E f args []=some (x,[]))(H:AH):P8 E f args H=some (x,H):=by
 unfold P8;rw[b2u ha h];simp only[Ji _ _ hx];simp[N9,C3]
theorem c9d(r sz o l t:Nat):Ab (.own r sz o l t)=false:=qq
theorem c9c(r i j t:Nat):Ab (.ptr r i j t)=false:=qq
theorem c9b(cs:List AV):Ab (.tuple cs)=Aa cs:=qq
theorem c9f(f:Fn)(a c:List AV):Ab (.fn f a c)=(Aa a&&Aa c):=qq
theorem c9e:Ab .nilp=true:=qq
theorem c9g:Aa []=true:=qq
theorem c9h(x:AV)(xs:List AV):Aa (x::xs)=(Ab x&&Aa xs):=qq
theorem b7q(x:AV):Gk [x]=x:=qq
theorem b7p(x y:AV)(l:List AV):Gk (x::y::l)=.tuple (x::y::l):=qq
def al4(fz:Bool)(H:AH)(y:AV):Bool->Option (AV×AH)
 |true=>some (y,[])
 |false=>Bv fz 0 y H
theorem c5k(fz:Bool)(H:AH)(y:AV):Tf fz 0 H (some y)=al4 fz H y (Ab y):=by
 cases hb:Ab y with
 |true=>exact dz9 hb
 |false=>rfl
theorem c5q(fz:Bool)(H:AH)(y:AV):al4 fz H y true=some (y,[]):=qq
def b1s(q:AV×AH):Option (AV×AH):=if Ab q.1=true then some (q.1,[])else match Hz 0 [q.1] q.2 with
 |([x],H2)=>some (x,H2)
 |_=>none
theorem e00(H:AH)(y:AV)(h:Ab y=false):Bv true 0 y H=b1s (Ll 0 y H):=by
 unfold Bv b1s;rw[if_neg (by rw[h];simp)];simp only[if_true,e83];split<;>rfl
def T5(y:AV):Nat->AV×AH->AV×AH
 |0,q=>q
 |k+1,q=>T5 y k (V8 k q.1 q.2)
theorem c3i(y:AV):∀ (k:Nat) (q:AV×AH),Qp 0 y k q=T5 y k q
 |0,_=>rfl
 |k+1,q=>by rw[Qp,if_pos (e7w k),c3i y k];rfl
def b1r(y:AV)(H:AH)(x:AV):Bool->Option (AV×AH)
 |true=>some (x,[])
 |false=>Bv true 0 y H
def a0t(r:Nat)(x:AV)(H:AH):Option (List (List PV))->AV×AH
 |some es=>(frz r es x,Hj (Bm r es) (H.set r none))
 |none=>(x,H)
def al3(y:AV)(H:AH)(b:Bool)(q:AV×AH):Option (AV×AH):=if b=false/\Ab q.1=true then some (q.1,[])else Bv true 0 y H
theorem c5s(H:AH)(y:AV):al4 true H y false=al3 y H (Ab y) (T5 y H.length (y,H)):=by
 show Bv true 0 y H=_;unfold al3;split
 ·rename_i hb;have h:=hb.1;rw[e00 H y h];unfold b1s;by_cases hl:H.length<=0
  ·have:H=[]:=List.eq_nil_of_length_eq_zero om;subst this;have hf:Ab y=true:=(by simpa [T5]using hb.2);rw[h]at hf;cases hf
  ·have e:Ll 0 y H=T5 y H.length (y,H):=by
    unfold Ll;rw[if_neg hl,c3i];simp only[hb.2,if_true]
   rw[e,if_pos hb.2]
 ·rfl
theorem c5p(y:AV)(H:AH)(x:AV)(G:AH):al3 y H false (x,G)=b1r y H x (Ab x):=by
 unfold al3 b1r;cases Ab x<;>rfl
theorem c5o(y:AV)(H:AH)(x:AV):b1r y H x true=some (x,[]):=qq
theorem c3j(y:AV)(q:AV×AH):T5 y 0 q=q:=qq
theorem c3k(y:AV)(k:Nat)(x:AV)(H:AH):T5 y (k+1) (x,H)=T5 y k (a0t k x H ((H.at k).bind Cm)):=by
 show T5 y k (V8 k x H)=_;unfold V8 a0t
 cases (H.at k).bind Cm<;>rfl
theorem c3b(r:Nat)(x:AV)(H:AH)(es:List (List PV)):a0t r x H (some es)=(frz r es x,Hj (Bm r es) (H.set r none)):=qq
theorem c3c(r:Nat)(x:AV)(H:AH):a0t r x H none=(x,H):=qq
theorem c9j(o:Option AObj)(H:AH):AH.at (o::H) 0=o:=by cases o<;>rfl
theorem c9k(o:Option AObj)(H:AH)(r:Nat):AH.at (o::H) (r+1)=AH.at H r:=by simp[AH.at]
theorem au0:Cm []=some []:=qq
theorem a2z(e:List AV)(o:AObj):Cm (e::o)=(e.mapM Cw).bind λx=>(Cm o).map λy=>x::y:=by
 unfold Cm;rw[List.mapM_cons];cases e.mapM Cw with
 |none=>rfl
 |some x=>cases o.mapM (λe=>e.mapM Cw)<;>rfl
theorem b87(a b:AObj):Cm (a++b)=(Cm a).bind λx=>(Cm b).map λy=>x++y:=by
 induction a with
 |nil=>simp only[e6k,au0,e5y];cases Cm b<;>rfl
 |cons e a ih=>
   rw[e62,a2z,a2z,ih];cases e.mapM Cw with
   |none=>rfl
   |some x=>cases Cm a with
     |none=>rfl
     |some y=>cases Cm b<;>rfl
theorem Je{α:Type}(f:α->List AV)(g:α->List PV)(h:∀ a,(f a).mapM Cw=some (g a)):∀ l:List α,Cm (l.map f)=some (l.map g)
 |[]=>rfl
 |a::l=>by rw[e75,a2z,h,Je f g h l];rfl
theorem a7t(p:PV):Cw (emb p)=some p:=by cases p<;>rfl
theorem a9g:∀ l:List PV,(l.map emb).mapM Cw=some l
 |[]=>rfl
 |p::l=>by rw[e75,List.mapM_cons,a7t,a9g l];rfl
theorem a7s{α:Type}(l:List α)(p:α->List PV):Cm (l.map λa=>(p a).map emb)=some (l.map p):=Je _ _ (λa=>a9g (p a)) l
theorem b85{α:Type}(l:List α)(k:IntKind)(g:α->Int):Cm (l.map λa=>[AV.int k (g a)])=some (l.map λa=>[PV.int k (g a)]):=Je _ _ (λa=>rfl) l
theorem b84{α:Type}(l:List α)(g:α->List UInt8):Cm (l.map λa=>[AV.str (g a)])=some (l.map λa=>[PV.str (g a)]):=Je _ _ (λa=>rfl) l
theorem b83(n:Nat)(k:IntKind)(g:Int):Cm (List.replicate n [AV.int k g])=some (List.replicate n [PV.int k g]):=by
 have:=Je (λ_:Nat=>[AV.int k g]) (λ_=>[PV.int k g]) (λ_=>rfl) (List.range n);simpa [List.map_const']using this
theorem bt6:([]:List AV).mapM Cw=some []:=qq
theorem bt9(x:AV)(l:List AV):(x::l).mapM Cw=(Cw x).bind λy=>(l.mapM Cw).map λys=>y::ys:=by
 rw[List.mapM_cons];cases Cw x with
 |none=>rfl
 |some y=>cases l.mapM Cw<;>rfl
theorem b8c(k:IntKind)(n:Int):Cw (.int k n)=some (.int k n):=qq
theorem b88(s:List UInt8):Cw (.str s)=some (.str s):=qq
theorem b8f(b:Bool):Cw (.bool b)=some (.bool b):=qq
theorem b8d(es:List (List PV)):Cw (.fz es)=some (.fz es):=qq
theorem b8e:Cw .emp=some .emp:=qq
theorem b8b:Cw .nilp=some .nilp:=qq
theorem b8a(r sz o l t:Nat):Cw (.own r sz o l t)=none:=qq
theorem b89(r i j t:Nat):Cw (.ptr r i j t)=none:=qq
theorem c4p(r:Nat)(es:List (List PV)):Bm r es []=[]:=qq
theorem c4t(r:Nat)(es:List (List PV))(x:AV)(xs:List AV):Bm r es (x::xs)=frz r es x::Bm r es xs:=qq
theorem c4i(r:Nat)(es:List (List PV))(r' sz off len tot:Nat):frz r es (.own r' sz off len tot)=if r'=r then(if tot=es.length/\off+len<=tot then .fz ((es.drop off).take len)else .top)else .own r' sz off len tot:=qq
theorem c4o(r:Nat)(es:List (List PV))(cs:List AV):frz r es (.agg cs)=.agg (Bm r es cs):=qq
theorem c4d(r:Nat)(es:List (List PV))(cs:List AV):frz r es (.tuple cs)=.tuple (Bm r es cs):=qq
theorem c4e(r:Nat)(es:List (List PV)):frz r es .top=.top:=qq
theorem c4n(r:Nat)(es:List (List PV))(b:Bool):frz r es (.bool b)=.bool b:=qq
theorem c4k(r:Nat)(es:List (List PV))(k:IntKind)(n:Int):frz r es (.int k n)=.int k n:=qq
theorem c4f(r:Nat)(es:List (List PV))(s:List UInt8):frz r es (.str s)=.str s:=qq
theorem c4m(r:Nat)(es:List (List PV)):frz r es .emp=.emp:=qq
theorem c4j(r:Nat)(es:List (List PV)):frz r es .nilp=.nilp:=qq
theorem c4l(r:Nat)(es fs:List (List PV)):frz r es (.fz fs)=.fz fs:=qq
theorem ak5(r:Nat)(es:List (List PV))(p:PV):frz r es (emb p)=emb p:=by cases p<;>rfl
theorem bu2(f:List AV->List AV):Hj f []=[]:=qq
theorem bu1(f:List AV->List AV)(H:AH):Hj f (none::H)=none::Hj f H:=qq
theorem bu0(f:List AV->List AV)(o:AObj)(H:AH):Hj f (some o::H)=some (o.map f)::Hj f H:=qq
theorem c4s{α:Type}(r:Nat)(es:List (List PV))(l:List α)(p:α->List PV):(l.map λa=>(p a).map emb).map (Bm r es)=l.map λa=>(p a).map emb:=by
 rw[e7q];refine e4y λa _=>?_;simp only[Function.comp_apply,Vf,e7q];exact e4y λp _=>ak5 r es p
theorem c4r{α:Type}(r:Nat)(es:List (List PV))(l:List α)(k:IntKind)(g:α->Int):(l.map λa=>[AV.int k (g a)]).map (Bm r es)=l.map λa=>[AV.int k (g a)]:=by
 rw[e7q];rfl
theorem c4q{α:Type}(r:Nat)(es:List (List PV))(l:List α)(g:α->List UInt8):(l.map λa=>[AV.str (g a)]).map (Bm r es)=l.map λa=>[AV.str (g a)]:=by
 rw[e7q];rfl
section
variable {tab:List (Nat×FT)} {orc:CallF} {lk:FuncId->Bool}
theorem cn7{f:FuncId}{args:List AV}{x:AV}(ha:Aa args=true)(hx:Ab x=true)(h:Ev tab orc lk f args []=some (x,[]))(H:AH):K tab orc lk f args H=some (x,H):=by
 unfold K G8;split
 ·rw[Ub H args ha,h];simp only[ha,hx,List.isEmpty_nil,e7c,if_true];split<;>rfl
 ·exact c8u ha hx h H
def Dv(res:List ARes)(fz:Bool)(n0:Nat)(r:R3):Option (AV×AH):=r.bind λr=>match r.1 with
 |.exit _=>none
 |_=>(Ea res r.2.1 r.2.2).bind λy=>Bv fz n0 y r.2.2
theorem bd8(res:List ARes)(fz:Bool)(n0:Nat)(cf:List AV)(H:AH):Dv res fz n0 (some (.ret,cf,H))=Tf fz n0 H (Ea res cf H):=qq
theorem bd9(res:List ARes)(fz:Bool)(n0:Nat)(cf:List AV)(H:AH):Dv res fz n0 (some (.normal,cf,H))=Tf fz n0 H (Ea res cf H):=qq
theorem be0(res:List ARes)(fz:Bool)(n0:Nat)(q:Prop)[Decidable q](r r':R3):Dv res fz n0 (if q then r else r')=if q then Dv res fz n0 r else Dv res fz n0 r':=by by_cases h:q<;>simp[h]
theorem Ae{f:FuncId}{d:FT}(hd:A9 tab f=some d){args:List AV}{x:AV}(hn:args.length=d.np)(ha:Aa args=true)(hx:Ab x=true)
 (h:Dv d.res d.fz 0 (Av (cx tab orc lk d.sl (d.np+d.nt) 0) d.tc (args++List.replicate (d.sl.length-d.np) .top) [])=some (x,[])) (H:AH):K tab orc lk f args H=some (x,H):=
 cn7 ha hx (ct2 hd hn h) H
theorem a7a{f:FuncId}(hd:A9 tab f=none){args:List AV}{x:AV}(ha:Aa args=true)(hx:Ab x=true)(h:orc f args []=some (x,[]))(H:AH):K tab orc lk f args H=some (x,H):=
 cn7 ha hx (Zc hd h) H
end
theorem Bb{a:List ARes}{b:Bool}{c:Nat}{X:TCtx}{t:TC}{i:Nat}{y:Option (AV×AH)}{step:List AV->AH->R3}{cf:List AV}{H:AH}{r:R3}(hl:Ai step cf H=r)(n:Nat)(F:Nat->List AV)(G:Nat->AH)(I:Nat->Prop)(h0:cf=F 0)(h1:H=G 0)(hI:I 0)(hs:∀ j,j<n->I j->Rd (λr=>Dv a b c (Cn X t (C2 i r))=y) (I (j+1)) (F (j+1)) (G (j+1)) (step (F j) (G j)))(he:I n->Rd (λr=>Dv a b c (Cn X t (C2 i r))=y) False (F n) (G n) (step (F n) (G n))):Dv a b c (Cn X t (C2 i r))=y:=Ny (Q:=λr=>Dv a b c (Cn X t (C2 i r))=y) hl n F G I h0 h1 hI hs he
end
section
abbrev SEnv:=List (Nat×AV)
def S0:SEnv->Nat->AV
 |[],_=>.top
 |(m,x)::e,n=>if m=n then x else S0 e n
def lkE(N:Nat)(e:SEnv)(n:Nat):AV:=if n<N then S0 e n else .top
def Ih(N:Nat)(e:SEnv):Opd->AV
 |.t n=>lkE N e n
 |.c x=>x
def G0(e:SEnv)(d:Option Nat)(x:AV):SEnv:=match d with
 |none=>e
 |some d=>(d,x)::e
def Bj(lk:FuncId->Bool)(ev:CallF)(op:AOp)(c:Nat)(V:Opd->AV)(H:AH):Option (List Loc×List Loc×Nat×AV×AH):=
 match op with
 |.call f args=>
   if lk f=true/\Aa (args.map V)=false then
    match ev f (B3 H (args.map V)) []with
    |some (x,H1)=>if Db x=true then some ((F7 H (args.map V)).map .con,[],c,x,H)else none
    |none=>none
   else
   match Jy ev f (args.map V) H with
   |some (rs,x,H1)=>
     if(∀ r∈rs,r<c)/\c+(H1.length-rs.length)<=H.length then
      let all:=rs++List.range' c (H1.length-rs.length)
      some (all.map .con,all.map .con++all.map .len,c+(H1.length-rs.length),ren (Au all) x,C3 H all (H1.map λo=>o.map (renO (Au all))))
     else none
   |none=>none
 |.store n p x=>
   match V p,cellsOf (V x)with
   |.ptr r i j tot,some cs=>
     match Am H r tot with
     |some o=>
       match o[i]? with
       |some e=>if(cs.length=n/\j+n<=e.length/\cs.all cellA=true)/\r<c then some ([.con r],[.con r],c,.top,H.set r (some (o.set i (lay e j cs))))else none
       |none=>none
     |none=>none
   |_,_=>none
 |.calld x0 args=>
   match V x0 with
   |.fn (.func f) first cap=>
     match Jy ev f (first++args.map V++cap) H with
     |some (rs,x,H1)=>
       if(∀ r∈rs,r<c)/\c+(H1.length-rs.length)<=H.length then
        let all:=rs++List.range' c (H1.length-rs.length)
        some (all.map .con,all.map .con++all.map .len,c+(H1.length-rs.length),ren (Au all) x,C3 H all (H1.map λo=>o.map (renO (Au all))))
       else none
     |none=>none
   |_=>none
 |.append sz bytes _ x y=>
   match (match V x with
    |.own r sz' 0 len tot=>if sz'=sz/\len=tot then some (r,len)else none
    |.emp=>(Ya H c).map λr=>(r,0)
    |_=>none),D4 H (V y)with
   |some (r,len),some news=>
     match Am H r len with
     |some o=>
       if(news.all (λe=>decide (e.length=sz))=true/\(len+news.length)*bytes<=1000000000000/\len+news.length<=1000000000)/\r<c then
        some (.con r::Fz (V y),[.con r,.len r],c,.own r sz 0 (len+news.length) (len+news.length),H.set r (some (o++news)))
       else none
     |none=>none
   |_,_=>none
 |.eqnil _ _=>none
 |.bad=>none
 |op=>
   if O4 op then
    if c<H.length then
     match Cc op V []with
     |some (v,[some o])=>some ([.con c],[.con c,.len c],c+1,ren (Au [c]) v,H.set c (some o))
     |_=>none
    else none
   else
    match Ar op V H with
    |some v=>some (Gq op V,[],c,v,H)
    |none=>none
theorem e0d(lk:FuncId->Bool)(ev:CallF)(op:AOp)(c:Nat)(fr:List AV)(H:AH):J6 lk ev op c fr H=Bj lk ev op c (evalA fr) H:=by cases op<;>rfl
def C7(call:CallF)(op:AOp)(V:Opd->AV)(H:AH):Option (AV×AH):=
 match op with
 |.call f args=>call f (args.map V) H
 |.calld x args=>
   match V x with
   |.fn (.func f) first cap=>call f (first++args.map V++cap) H
   |_=>none
 |.eqnil neg x=>
   match Nx H (V x)with
   |some (some b)=>some (.bool (b != neg),H)
   |_=>none
 |op=>D8 op V H
theorem e0a(call:CallF)(op:AOp)(fr:List AV)(H:AH):Dc call op fr H=C7 call op (evalA fr) H:=by cases op<;>rfl
def gd(x:AV)(want:Bool):Option Bool:=match x with
 |.bool b=>some (decide (b=want))
 |.tuple []=>some false
 |_=>none
def J5(lk:FuncId->Bool)(ev:CallF)(tab:List (List Nat))(N:Nat):List (Nat×AInstr)->Nat->List Hc->SEnv->AH->Option (SEnv×AH)
 |[],_,lg,e,H=>if confOK tab lg=true then some (e,H)else none
 |(i,A6)::rest,c,lg,e,H=>
   match A6.guard with
   |none=>(Bj lk ev A6.op c (Ih N e) H).bind λr=>J5 lk ev tab N rest r.2.2.1 (lg++[Dr i A6 r.1 r.2.1]) (G0 e A6.dst r.2.2.2.1) r.2.2.2.2
   |some (g,want)=>(gd (lkE N e g) want).bind λq=>
     if q=true then(Bj lk ev A6.op c (Ih N e) H).bind λr=>J5 lk ev tab N rest r.2.2.1 (lg++[Dr i A6 r.1 r.2.1]) (G0 e A6.dst r.2.2.2.1) r.2.2.2.2
     else J5 lk ev tab N rest c (lg++[(i,[.slot g],C0 A6.dst)]) (G0 e A6.dst (.tuple [])) H
def a1i(call:CallF)(N:Nat)(A6:AInstr)(e:SEnv)(H:AH):Option (SEnv×AH):=
 match A6.guard with
 |none=>(C7 call A6.op (Ih N e) H).bind λr=>some (G0 e A6.dst r.1,r.2)
 |some (g,want)=>(gd (lkE N e g) want).bind λq=>
   if q=true then(C7 call A6.op (Ih N e) H).bind λr=>some (G0 e A6.dst r.1,r.2)else some (G0 e A6.dst (.tuple []),H)
def Ii(lk:FuncId->Bool)(ev:CallF)(tab:List (List Nat))(N:Nat):List (List (Nat×AInstr))->SEnv->AH->Option (SEnv×AH)
 |[],e,H=>some (e,H)
 |[(_,A6)]::rest,e,H=>(a1i ev N A6 e H).bind λr=>Ii lk ev tab N rest r.1 r.2
 |seg::rest,e,H=>(J5 lk ev tab N seg H.length [] e (H++List.replicate (Co seg) none)).bind λr=>Ii lk ev tab N rest r.1 r.2
structure RelF(N:Nat)(fr:List AV)(e:SEnv):Prop where
 len:fr.length=N
 at':∀ n,getF fr n=lkE N e n
theorem dy1{l:List AV}{n:Nat}(h:l.length<=n):getF l n=.top:=by rw[F6,e4j h];rfl
theorem RelF.ev{N:Nat}{fr:List AV}{e:SEnv}(h:RelF N fr e):evalA fr=Ih N e:=by
 funext x;cases x with
 |t n=>exact(F6 fr n).symm.trans (h.at' n)
 |c x=>rfl
theorem RelF.put{N:Nat}{fr:List AV}{e:SEnv}(h:RelF N fr e)(d:Option Nat)(x:AV):RelF N (Aq fr d x) (G0 e d x):=by
 cases d with
 |none=>exact h
 |some d=>
   refine⟨by simp[Aq,h.len],λn=>?_⟩;have h0:=h.at' n;simp only[Aq,G0,lkE,S0,F6,e5g];simp only[F6,lkE]at h0;by_cases hd:d=n
   ·subst hd;rw[if_pos rfl,if_pos rfl];by_cases hN:d<N
    ·rw[if_pos (by rw[h.len];exact hN),if_pos hN];rfl
    ·rw[if_neg (by rw[h.len];exact hN),if_neg hN];rfl
   ·rw[if_neg hd,if_neg hd];exact h0
def K3(N:Nat):Option (List AV×AH)->Option (SEnv×AH)->Prop
 |none,none=>True
 |some (fr,H),some (e,G)=>RelF N fr e/\H=G
 |_,_=>False
theorem K3.bind{N:Nat}{x:Option (List AV×AH)}{y:Option (SEnv×AH)}(h:K3 N x y){f:List AV×AH->Option (List AV×AH)}{g:SEnv×AH->Option (SEnv×AH)}(hf:∀ fr e H,RelF N fr e->K3 N (f (fr,H)) (g (e,H))):K3 N (x.bind f) (y.bind g):=by
 cases x with
 |none=>cases y with
   |none=>trivial
   |some y=>exact h.elim
 |some x=>cases y with
   |none=>exact h.elim
   |some y=>
     obtain⟨fr,H⟩:=x;obtain⟨e,G⟩:=y;obtain⟨h1,rfl⟩:=h;exact hf fr e H h1
section
variable {lk:FuncId->Bool} {ev:CallF} {tab:List (List Nat)} {N:Nat}
theorem dy3{fr:List AV}{e:SEnv}(h:RelF N fr e)(g:Nat):(fr[g]?).getD .top=lkE N e g:=(F6 fr g).symm.trans (h.at' g)
theorem a5o:∀ (is:List (Nat×AInstr)) (c:Nat) (lg:List Hc) (fr:List AV) (e:SEnv) (H:AH),RelF N fr e->K3 N (Fs lk ev tab is c lg fr H) (J5 lk ev tab N is c lg e H)
 |[],c,lg,fr,e,H,h=>by
   unfold Fs J5;split
   ·exact⟨h,rfl⟩
   ·trivial
 |(i,A6)::rest,c,lg,fr,e,H,h=>by
   have go:K3 N (match J6 lk ev A6.op c fr H with|some (R,W,c',v,H')=>Fs lk ev tab rest c' (lg++[Dr i A6 R W]) (Aq fr A6.dst v) H'|none=>none)
    ((Bj lk ev A6.op c (Ih N e) H).bind λr=>J5 lk ev tab N rest r.2.2.1 (lg++[Dr i A6 r.1 r.2.1]) (G0 e A6.dst r.2.2.2.1) r.2.2.2.2):=by
    rw[e0d,h.ev];cases Bj lk ev A6.op c (Ih N e) H with
    |none=>trivial
    |some r=>
      obtain⟨R,W,c',v,H'⟩:=r;exact a5o rest _ _ _ _ _ (h.put _ _)
   unfold Fs J5;cases A6.guard with
   |none=>exact go
   |some gw=>
     obtain⟨g,want⟩:=gw;simp only[];rw[<-dy3 h g];cases fr[g]? with
     |none=>trivial
     |some x=>
       simp only[e5u];cases x with
       |bool b=>
         by_cases hb:b=want
         ·simp only[hb,gd,e7z,e5y,if_true];exact go
         ·simp only[hb,gd,e7r,e5y,if_false,e52];exact a5o rest _ _ _ _ _ (h.put _ _)
       |tuple vs=>
         cases vs with
         |nil=>exact a5o rest _ _ _ _ _ (h.put _ _)
         |cons _ _=>trivial
       |_=>trivial
theorem e07{call:CallF}(A6:AInstr)(fr:List AV)(e:SEnv)(H:AH)(h:RelF N fr e):K3 N (Fh call [A6] fr H) (a1i call N A6 e H):=by
 have go:K3 N (match Bi A6.op call fr H with|some (v,H')=>Fh call [] (Fd fr A6.dst v) H'|none=>none) ((C7 call A6.op (Ih N e) H).bind λr=>some (G0 e A6.dst r.1,r.2)):=by
  rw[b07,e0a,h.ev];cases C7 call A6.op (Ih N e) H with
  |none=>trivial
  |some r=>
    obtain⟨v,H'⟩:=r;show K3 N (some (Fd fr A6.dst v,H')) (some (G0 e A6.dst v,H'));rw[Xc];exact⟨h.put _ _,rfl⟩
 unfold Fh a1i;cases A6.guard with
 |none=>exact go
 |some gw=>
   obtain⟨g,want⟩:=gw;simp only[];rw[<-h.at' g];cases getF fr g with
   |bool b=>
     by_cases hb:b=want
     ·simp only[hb,gd,e7z,e5y,if_true];exact go
     ·simp only[hb,gd,e7r,e5y,if_false,e52];show K3 N (some (Fd fr A6.dst (.tuple []),H)) _;rw[Xc];exact⟨h.put _ _,rfl⟩
   |tuple vs=>
     cases vs with
     |nil=>
       show K3 N (some (Fd fr A6.dst (.tuple []),H)) _;rw[Xc];exact⟨h.put _ _,rfl⟩
     |cons _ _=>trivial
   |_=>trivial
theorem al7:∀ (segs:List (List (Nat×AInstr))) (fr:List AV) (e:SEnv) (H:AH),RelF N fr e->K3 N (Ex lk ev tab segs fr H) (Ii lk ev tab N segs e H)
 |[],fr,e,H,h=>⟨h,rfl⟩
 |[(_,A6)]::rest,fr,e,H,h=>by
   have:=K3.bind (e07 (call:=ev) A6 fr e H h) (f:=λr=>Ex lk ev tab rest r.1 r.2) (g:=λr=>Ii lk ev tab N rest r.1 r.2) λfr e H h=>al7 rest fr e H h;unfold Ex Ii;cases hx:Fh ev [A6] fr H with
   |none=>rw[hx]at this;exact this
   |some r=>rw[hx]at this;exact this
 |[]::rest,fr,e,H,h=>by
   have:=K3.bind (a5o (lk:=lk) (ev:=ev) (tab:=tab) [] H.length [] fr e (H++List.replicate (Co []) none) h) (f:=λr=>Ex lk ev tab rest r.1 r.2) (g:=λr=>Ii lk ev tab N rest r.1 r.2) λfr e H h=>al7 rest fr e H h;unfold Ex Ii;cases hx:Fs lk ev tab [] H.length [] fr (H++List.replicate (Co []) none)with
   |none=>rw[hx]at this;exact this
   |some r=>rw[hx]at this;exact this
 |(x::y::z)::rest,fr,e,H,h=>by
   have:=K3.bind (a5o (lk:=lk) (ev:=ev) (tab:=tab) (x::y::z) H.length [] fr e (H++List.replicate (Co (x::y::z)) none) h) (f:=λr=>Ex lk ev tab rest r.1 r.2) (g:=λr=>Ii lk ev tab N rest r.1 r.2) λfr e H h=>al7 rest fr e H h;unfold Ex Ii;cases hx:Fs lk ev tab (x::y::z) H.length [] fr (H++List.replicate (Co (x::y::z)) none)with
   |none=>rw[hx]at this;exact this
   |some r=>rw[hx]at this;exact this
end
theorem bv1:∀ (sl:List Nat) (cf:List AV) (n:Nat),S0 (sl.zip cf) n=match sl.idxOf? n with|some i=>getF cf i|none=>.top
 |[],cf,n=>by simp[S0]
 |s::sl,[],n=>by
   rw[List.zip_nil_right]
   cases (s::sl).idxOf? n<;>rfl
 |s::sl,x::cf,n=>by
   rw[List.zip_cons_cons,S0,List.idxOf?_cons,bv1 sl cf n];by_cases h:s=n
   ·subst h;simp[getF]
   ·rw[if_neg h,show(s==n)=false from by simpa using h];simp only[e52,if_false];cases sl.idxOf? n<;>rfl
theorem dy4(sl:List Nat)(N:Nat)(cf:List AV):RelF N (H5 sl N cf) (sl.zip cf):=by
 refine⟨Tc _ _ _,λn=>?_⟩;unfold lkE;by_cases h:n<N
 ·rw[if_pos h,F6,bv1];simp only[H5,e5j,List.getElem?_range h,e6h,e5u];cases sl.idxOf? n<;>rfl
 ·rw[if_neg h,dy1 (by rw[Tc];omega)]
def prE(sl:List Nat)(N:Nat)(r:Option (SEnv×AH)):R3:=r.map λr=>(.normal,sl.map (lkE N r.1),r.2)
theorem bm1(sl:List Nat)(N:Nat)(e:SEnv)(H:AH):prE sl N (some (e,H))=some (.normal,sl.map (lkE N e),H):=qq
theorem b7d(X:TCtx)(s:List (List (Nat×AInstr)))(t:List (List Nat))(cf:List AV)(H:AH):Av X (.rawE s t) cf H=prE X.sl X.N (Ii X.lk (G8 X.lk X.E) t X.N s (X.sl.zip cf) (H++List.replicate (Pa s) (some []))):=by
 have:=al7 (lk:=X.lk) (ev:=G8 X.lk X.E) (tab:=t) s _ _ (H++List.replicate (Pa s) (some [])) (dy4 X.sl X.N cf)
 show(Ex X.lk (G8 X.lk X.E) t s (H5 X.sl X.N cf) _).map _=_;cases hx:Ex X.lk (G8 X.lk X.E) t s (H5 X.sl X.N cf) (H++List.replicate (Pa s) (some []))with
 |none=>
   cases hy:Ii X.lk (G8 X.lk X.E) t X.N s (X.sl.zip cf) (H++List.replicate (Pa s) (some []))with
   |none=>rfl
   |some y=>rw[hx,hy]at this;exact this.elim
 |some x=>
   cases hy:Ii X.lk (G8 X.lk X.E) t X.N s (X.sl.zip cf) (H++List.replicate (Pa s) (some []))with
   |none=>rw[hx,hy]at this;exact this.elim
   |some y=>
     rw[hx,hy]at this;obtain⟨fr,G⟩:=x;obtain⟨e,G'⟩:=y;obtain⟨h1,rfl⟩:=this;simp only[e6h,prE,Uy]
     congr 4
     exact funext h1.at'
end
section
def c6d(H:AH)(c:Nat)(o:Option AObj):Option Nat:=match o with
 |some []=>some c
 |_=>Ya H c
abbrev OE:=Option (List Loc×List Loc×Nat×AV×AH)
def Dx(R:List Loc)(c:Nat)(H:AH)(r:Option AV):OE:=match r with
 |some v=>some (R,[],c,v,H)
 |none=>none
def Vg(c:Nat)(H:AH)(r:Option (AV×AH)):OE:=if c<H.length then match r with
 |some (v,[some o])=>some ([.con c],[.con c,.len c],c+1,ren (Au [c]) v,H.set c (some o))
 |_=>none
 else none
theorem bv7(R:List Loc)(c:Nat)(H:AH)(v:AV):Dx R c H (some v)=some (R,[],c,v,H):=qq
theorem bv8(R:List Loc)(c:Nat)(H:AH)(q:Prop)[Decidable q](a b:Option AV):Dx R c H (if q then a else b)=if q then Dx R c H a else Dx R c H b:=by by_cases h:q<;>simp[h]
theorem c4v(c:Nat)(H:AH)(v:AV)(o:AObj):Vg c H (some (v,[some o]))=if c<H.length then some ([.con c],[.con c,.len c],c+1,ren (Au [c]) v,H.set c (some o))else none:=qq
theorem c7y(c r sz o l t:Nat):ren (Au [c]) (.own r sz o l t)=if r=0 then .own c sz o l t else .top:=by
 cases r<;>simp[ren,Au]
theorem c7x(c r i j t:Nat):ren (Au [c]) (.ptr r i j t)=if r=0 then .ptr c i j t else .top:=by
 cases r<;>simp[ren,Au]
theorem bi7{α:Type}(p:α->List PV)(x:Sl α):Fz (A4 p x)=[]:=by cases x<;>rfl
theorem bi6{α:Type}(p:α->List PV)(x:Sl α):Ds (A4 p x)=[]:=by cases x<;>rfl
theorem b9b{α:Type}(p:α->List PV)(x:Sl α)(H:AH):D4 H (A4 p x)=some ((els x).map λa=>(p a).map emb):=by
 cases x with
 |none=>rfl
 |some l=>exact b25 p (some l) H
section
variable (lk:FuncId->Bool) (E:CallF) (c:Nat) (V:Opd->AV) (H:AH)
theorem ck4(q a b:Opd):Bj lk E (.pick q a b) c V H=Dx [] c H (pickV (V q) (V a) (V b)):=qq
theorem cm9(z:List AV)(p:List (Nat×Nat×Opd)):Bj lk E (.build z p) c V H=Dx ([]) c H (((Ch V z p).map .agg)):=qq
theorem cl1(a:Bool)(n:Nat)(x:Opd):Bj lk E (.load a n x) c V H=Dx (Fz (V x)) c H (((Jl H n (V x)).map (Du a))):=qq
theorem ck5(x:Opd):Bj lk E (.nilchk x) c V H=Dx (Ds (V x)) c H ((Xj H (V x))):=qq
theorem cn3(o:BinOp)(x y:Opd):Bj lk E (.bini o x y) c V H=Dx ([]) c H ((Qw o (V x) (V y))):=qq
theorem cn2(o:BinOp)(x y:Opd):Bj lk E (.bins o x y) c V H=Dx ([]) c H ((a1w o (V x) (V y))):=qq
theorem cm2(n:Bool)(x y:Opd):Bj lk E (.eqb n x y) c V H=Dx ([]) c H ((a1k n (V x) (V y))):=qq
theorem cm1(n:Bool)(ks:List EK)(x y:Opd):Bj lk E (.eqs n ks x y) c V H=Dx ([]) c H ((a1j H n ks (V x) (V y))):=qq
theorem cj9(o:UnOp)(x:Opd):Bj lk E (.un o x) c V H=Dx ([]) c H ((Ud o (V x))):=qq
theorem cm5(k:IntKind)(x:Opd):Bj lk E (.convi k x) c V H=Dx ([]) c H ((a1o k (V x))):=qq
theorem cm6(x:Opd):Bj lk E (.convbs x) c V H=Dx (Fz (V x)) c H ((((G5 H (V x)).bind Hl).map .str)):=qq
theorem cm3(x:Opd):Bj lk E (.convss x) c V H=Dx ([]) c H ((a1n (V x))):=qq
theorem ck2(x:Opd)(l h:Option Opd):Bj lk E (.slices x l h) c V H=Dx ([]) c H ((Wx V (V x) l h)):=qq
theorem cl9(o:Nat)(x:Opd):Bj lk E (.faddr o x) c V H=Dx (Ds (V x)) c H ((Y7 H o (V x))):=qq
theorem cl8(a:Bool)(o n:Nat)(x:Opd):Bj lk E (.field a o n x) c V H=Dx ([]) c H ((a1c a o n (V x))):=qq
theorem cl7(s:Nat)(x i:Opd):Bj lk E (.iaddr s x i) c V H=Dx (Ds (V x)) c H ((Qo H s (V x) (V i))):=qq
theorem cl6(l s:Nat)(x i:Opd):Bj lk E (.iaddra l s x i) c V H=Dx (Ds (V x)) c H ((Xt H l s (V x) (V i))):=qq
theorem cl4(x i:Opd):Bj lk E (.indexs x i) c V H=Dx ([]) c H ((Xr (V x) (V i))):=qq
theorem cl5(a:Bool)(l s:Nat)(x i:Opd):Bj lk E (.indexa a l s x i) c V H=Dx ([]) c H ((a0s a l s (V x) (V i))):=qq
theorem cm7(x:Opd):Bj lk E (.cap x) c V H=Dx ([]) c H ((a1s (V x))):=qq
theorem cm0(x:Opd)(i:Nat):Bj lk E (.ext x i) c V H=Dx ([]) c H ((a1e (V x) i)):=qq
theorem cl3(x:Opd):Bj lk E (.len false x) c V H=Dx (Ds (V x)) c H ((S1 H (V x))):=qq
theorem cl2(x:Opd):Bj lk E (.len true x) c V H=Dx (Ds (V x)) c H ((a0m (V x))):=qq
theorem ck9(x y:Opd):Bj lk E (.min2 x y) c V H=Dx ([]) c H ((a0c (V x) (V y))):=qq
theorem cl0(x y:Opd):Bj lk E (.max2 x y) c V H=Dx ([]) c H ((a0i (V x) (V y))):=qq
theorem ck6(x:Opd):Bj lk E (.mv x) c V H=some ([],[],c,V x,H):=qq
theorem ck8(f:Fn)(a cp:List Opd):Bj lk E (.mkfn f a cp) c V H=some ([],[],c,.fn f (a.map V) (cp.map V),H):=qq
theorem ck3(s:Nat)(x:Opd)(l h:Option Opd):Bj lk E (.slicel s x l h) c V H=Dx (Ds (V x)) c H (Ar (.slicel s x l h) V H):=qq
theorem ck1(x:Opd):Bj lk E (.slicez x) c V H=Dx (Ds (V x)) c H (Ar (.slicez x) V H):=qq
theorem cn5(cs:List AV):Bj lk E (.alloc cs) c V H=Vg c H (if cs.length≠0 then some (.ptr 0 0 0 1,[some [cs]])else none):=by
 show(if c<H.length then _ else none)=_;unfold Vg;split
 ·by_cases h:cs.length=0<;>simp[Cc,h]
 ·rfl
theorem cn1(x:Opd):Bj lk E (.box x) c V H=Vg c H (a1u [] (V x)):=qq
theorem cm4(x:Opd):Bj lk E (.convsb x) c V H=Vg c H (a5x [] (V x)):=qq
theorem ck7(s b:Nat)(z:List AV)(l k:Opd):Bj lk E (.mksl s b z l k) c V H=Vg c H (a41 [] s b z (V l) (V k)):=qq
theorem cn0(s l:Nat)(z:List AV)(p:List (Nat×Opd)):Bj lk E (.bslice s l z p) c V H=Vg c H (a1t [] s l (Ch V (List.replicate l z).flatten (p.map λx=>(x.1*s,s,x.2)))):=by
 show(if c<H.length then _ else none)=_;unfold Vg;simp only[Cc];cases Ch V (List.replicate l z).flatten (p.map λx=>(x.1*s,s,x.2))<;>rfl
def Jw(lk:FuncId->Bool)(E:CallF)(f:FuncId)(a:List Opd)(c:Nat)(V:Opd->AV)(H:AH)(args:List AV):Bool->OE
 |true=>match E f args []with
   |some (x,[])=>if Ab x=true/\c<=H.length then some ([],[],c,x,H)else Bj lk E (.call f a) c V H
   |_=>Bj lk E (.call f a) c V H
 |false=>if lk f=true then match E f (B3 H args) []with
  |some (x,_)=>if Db x=true then some ((F7 H args).map .con,[],c,x,H)else Bj lk E (.call f a) c V H
  |none=>Bj lk E (.call f a) c V H
   else Bj lk E (.call f a) c V H
theorem cm8(f:FuncId)(a:List Opd):Bj lk E (.call f a) c V H=Jw lk E f a c V H (a.map V) (Aa (a.map V)):=by
 cases hb:Aa (a.map V)with
 |true=>
   unfold Jw;cases he:E f (a.map V) []with
   |none=>rfl
   |some r=>
     obtain⟨x,H1⟩:=r;cases H1 with
     |cons _ _=>rfl
     |nil=>
       simp only[];by_cases hx:Ab x=true/\c<=H.length
       ·rw[if_pos hx];unfold Bj;simp only[hb,Bool.true_eq_false,and_false,if_false,b2u hb he,Ji _ _ hx.1];simp[C3,hx.2]
       ·rw[if_neg hx]
 |false=>
   unfold Jw;by_cases hl:lk f=true
   ·rw[if_pos hl];cases he:E f (B3 H (a.map V)) []with
    |none=>rfl
    |some r=>
      obtain⟨x,H1⟩:=r;simp only[];by_cases hf:Db x=true
      ·rw[if_pos hf];unfold Bj;simp only[hl,hb,and_self,if_true,he,hf]
      ·rw[if_neg hf]
   ·rw[if_neg hl]
def Hq(lk:FuncId->Bool)(E:CallF)(f:FuncId)(a:List Opd)(c:Nat)(V:Opd->AV)(H:AH):OE:=Bj lk E (.call f a) c V H
def clB(c:Nat)(H:AH)(x:AV)(o:OE):Bool->OE
 |true=>some ([],[],c,x,H)
 |false=>o
def clK(c:Nat)(H:AH)(o:OE)(r:Option (AV×AH)):OE:=match r with
 |some (x,[])=>clB c H x o (Ab x&&decide (c<=H.length))
 |_=>o
theorem c84(f:FuncId)(a:List Opd)(args:List AV):Jw lk E f a c V H args true=clK c H (Hq lk E f a c V H) (E f args []):=by
 unfold Jw clK Hq;cases E f args []with
 |none=>rfl
 |some r=>
   obtain⟨x,H1⟩:=r;cases H1 with
   |nil=>
     simp only[];by_cases hx:Ab x=true/\c<=H.length
     ·rw[if_pos hx,show(Ab x&&decide (c<=H.length))=true from by simp[hx.1,hx.2]];rfl
     ·rw[if_neg hx,show(Ab x&&decide (c<=H.length))=false from by rw[e5q];intro h;simp only[e5v,e5h]at h;exact hx h];rfl
   |cons _ _=>rfl
end
theorem c81(c:Nat)(H:AH)(o:OE)(x:AV):clK c H o (some (x,[]))=clB c H x o (Ab x&&decide (c<=H.length)):=qq
theorem c85(c:Nat)(H:AH)(x:AV)(o:OE):clB c H x o true=some ([],[],c,x,H):=qq
section
variable (lk:FuncId->Bool) (E:CallF) (tab:List (List Nat)) (N:Nat)
def Xi(rest:List (Nat×AInstr))(i:Nat)(A6:AInstr)(lg:List Hc)(e:SEnv)(r:OE):Option (SEnv×AH):=r.bind λr=>J5 lk E tab N rest r.2.2.1 (lg++[Dr i A6 r.1 r.2.1]) (G0 e A6.dst r.2.2.2.1) r.2.2.2.2
def nxD(rest:List (List (Nat×AInstr)))(r:Option (SEnv×AH)):Option (SEnv×AH):=r.bind λr=>Ii lk E tab N rest r.1 r.2
def skE(rest:List (Nat×AInstr))(i:Nat)(A6:AInstr)(g:Nat)(c:Nat)(lg:List Hc)(e:SEnv)(H:AH)(q:Option Bool):Option (SEnv×AH):=q.bind λq=>
 if q=true then Xi lk E tab N rest i A6 lg e (Bj lk E A6.op c (Ih N e) H)else J5 lk E tab N rest c (lg++[(i,[.slot g],C0 A6.dst)]) (G0 e A6.dst (.tuple [])) H
variable (rest:List (Nat×AInstr)) (more:List (List (Nat×AInstr))) (i c:Nat) (lg:List Hc) (e:SEnv) (H:AH)
theorem ct8:Ii lk E tab N [] e H=some (e,H):=qq
theorem ct6(A6:AInstr):Ii lk E tab N ([(i,A6)]::more) e H=nxD lk E tab N more (a1i E N A6 e H):=qq
theorem cu0(x y:Nat×AInstr)(z:List (Nat×AInstr)):Ii lk E tab N ((x::y::z)::more) e H=nxD lk E tab N more (J5 lk E tab N (x::y::z) H.length [] e (H++List.replicate (Co (x::y::z)) none)):=qq
theorem br3:nxD lk E tab N more (some (e,H))=Ii lk E tab N more e H:=qq
theorem br4(q:Prop)[Decidable q](a b:Option (SEnv×AH)):nxD lk E tab N more (if q then a else b)=if q then nxD lk E tab N more a else nxD lk E tab N more b:=by by_cases h:q<;>simp[h]
theorem cf4:J5 lk E tab N [] c lg e H=if confOK tab lg=true then some (e,H)else none:=qq
theorem cf3(d:Option Nat)(op:AOp):J5 lk E tab N ((i,⟨d,none,op⟩)::rest) c lg e H=Xi lk E tab N rest i ⟨d,none,op⟩ lg e (Bj lk E op c (Ih N e) H):=qq
theorem cf5(d:Option Nat)(g:Nat)(w:Bool)(op:AOp):J5 lk E tab N ((i,⟨d,some (g,w),op⟩)::rest) c lg e H=skE lk E tab N rest i ⟨d,some (g,w),op⟩ g c lg e H (gd (lkE N e g) w):=qq
theorem br1(A6:AInstr)(R W:List Loc)(c':Nat)(v:AV):Xi lk E tab N rest i A6 lg e (some (R,W,c',v,H))=J5 lk E tab N rest c' (lg++[Dr i A6 R W]) (G0 e A6.dst v) H:=qq
theorem br2(A6:AInstr)(q:Prop)[Decidable q](a b:OE):Xi lk E tab N rest i A6 lg e (if q then a else b)=if q then Xi lk E tab N rest i A6 lg e a else Xi lk E tab N rest i A6 lg e b:=by by_cases h:q<;>simp[h]
theorem b9y(A6:AInstr)(g:Nat):skE lk E tab N rest i A6 g c lg e H (some true)=Xi lk E tab N rest i A6 lg e (Bj lk E A6.op c (Ih N e) H):=qq
theorem b9z(A6:AInstr)(g:Nat):skE lk E tab N rest i A6 g c lg e H (some false)=J5 lk E tab N rest c (lg++[(i,[.slot g],C0 A6.dst)]) (G0 e A6.dst (.tuple [])) H:=qq
theorem c46(b w:Bool):gd (.bool b) w=some (decide (b=w)):=qq
theorem c45(w:Bool):gd (.tuple []) w=some false:=qq
theorem bl0(x:AV):G0 e none x=e:=qq
theorem bk9(d:Nat)(x:AV):G0 e (some d) x=(d,x)::e:=qq
theorem bv0(n:Nat):lkE N e n=if n<N then S0 e n else .top:=qq
theorem bv2(n:Nat):S0 [] n=.top:=qq
theorem bv3(m n:Nat)(x:AV):S0 ((m,x)::e) n=if m=n then x else S0 e n:=qq
theorem c5z(n:Nat):Ih N e (.t n)=lkE N e n:=qq
theorem c60(x:AV):Ih N e (.c x)=x:=qq
theorem co9(d s:Nat):I0 d s=⟨some d,none,.mv (.t s)⟩:=qq
theorem co8(d:Nat)(o:AOp):I1 d o=⟨some d,none,o⟩:=qq
theorem co7(d g:Nat)(o:AOp):I2 d g o=⟨some d,some (g,true),o⟩:=qq
theorem co6(d g:Nat)(o:AOp):I3 d g o=⟨some d,some (g,false),o⟩:=qq
theorem co5(d g s:Nat):I4 d g s=⟨some d,some (g,true),.mv (.t s)⟩:=qq
theorem co4(d g s:Nat):I5 d g s=⟨some d,some (g,false),.mv (.t s)⟩:=qq
theorem co3(d n s:Nat):I6 d n s=⟨some d,none,.faddr n (.t s)⟩:=qq
theorem co2(d s:Nat):I7 d s=⟨some d,none,.load false 1 (.t s)⟩:=qq
theorem co1(d s n:Nat):I8 d s n=⟨some d,none,.ext (.t s) n⟩:=qq
theorem co0(n p s:Nat):I9 n p s=⟨none,none,.store n (.t p) (.t s)⟩:=qq
theorem cn8(n:Int):KI n=.c (.int .i64 n):=qq
theorem b48(a:Nat)(l:List Nat)(x:AV)(m:List AV):(a::l).zip (x::m)=(a,x)::l.zip m:=qq
theorem b47(m:List AV):([]:List Nat).zip m=[]:=qq
def sgG(E:CallF)(N:Nat)(d:Option Nat)(e:SEnv)(H:AH)(op:AOp)(q:Option Bool):Option (SEnv×AH):=q.bind λq=>if q=true then(C7 E op (Ih N e) H).bind λr=>some (G0 e d r.1,r.2)else some (G0 e d (.tuple []),H)
def Zu(N:Nat)(d:Option Nat)(e:SEnv)(r:Option (AV×AH)):Option (SEnv×AH):=r.bind λr=>some (G0 e d r.1,r.2)
theorem ba4(d:Option Nat)(x:AV):Zu N d e (some (x,H))=some (G0 e d x,H):=qq
theorem ba5(d:Option Nat)(q:Prop)[Decidable q](a b:Option (AV×AH)):Zu N d e (if q then a else b)=if q then Zu N d e a else Zu N d e b:=by by_cases h:q<;>simp[h]
theorem ce3(d:Option Nat)(op:AOp):a1i E N ⟨d,none,op⟩ e H=Zu N d e (C7 E op (Ih N e) H):=qq
theorem ce4(d:Option Nat)(g:Nat)(w:Bool)(op:AOp):a1i E N ⟨d,some (g,w),op⟩ e H=sgG E N d e H op (gd (lkE N e g) w):=qq
end
section
variable (E:CallF) (V:Opd->AV) (H:AH)
theorem cg4(c a b:Opd):C7 E (.pick c a b) V H=same ((pickV (V c) (V a) (V b))) H:=C8 _ rfl rfl
theorem cj1(z:List AV)(p:List (Nat×Nat×Opd)):C7 E (.build z p) V H=same (((Ch V z p).map .agg)) H:=C8 _ rfl rfl
theorem ch1(a:Bool)(n:Nat)(x:Opd):C7 E (.load a n x) V H=same (((Jl H n (V x)).map (Du a))) H:=C8 _ rfl rfl
theorem cg5(x:Opd):C7 E (.nilchk x) V H=same ((Xj H (V x))) H:=C8 _ rfl rfl
theorem cj5(o:BinOp)(x y:Opd):C7 E (.bini o x y) V H=same ((Qw o (V x) (V y))) H:=C8 _ rfl rfl
theorem cj4(o:BinOp)(x y:Opd):C7 E (.bins o x y) V H=same ((a1w o (V x) (V y))) H:=C8 _ rfl rfl
theorem ci2(n:Bool)(x y:Opd):C7 E (.eqb n x y) V H=same ((a1k n (V x) (V y))) H:=C8 _ rfl rfl
theorem ci1(n:Bool)(ks:List EK)(x y:Opd):C7 E (.eqs n ks x y) V H=same ((a1j H n ks (V x) (V y))) H:=C8 _ rfl rfl
theorem cf8(o:UnOp)(x:Opd):C7 E (.un o x) V H=same ((Ud o (V x))) H:=C8 _ rfl rfl
theorem ci6(k:IntKind)(x:Opd):C7 E (.convi k x) V H=same ((a1o k (V x))) H:=C8 _ rfl rfl
theorem ci7(x:Opd):C7 E (.convbs x) V H=same ((((G5 H (V x)).bind Hl).map .str)) H:=C8 _ rfl rfl
theorem ci4(x:Opd):C7 E (.convss x) V H=same ((a1n (V x))) H:=C8 _ rfl rfl
theorem cg1(x:Opd)(l h:Option Opd):C7 E (.slices x l h) V H=same ((Wx V (V x) l h)) H:=C8 _ rfl rfl
theorem ch9(o:Nat)(x:Opd):C7 E (.faddr o x) V H=same ((Y7 H o (V x))) H:=C8 _ rfl rfl
theorem ch8(a:Bool)(o n:Nat)(x:Opd):C7 E (.field a o n x) V H=same ((a1c a o n (V x))) H:=C8 _ rfl rfl
theorem ch7(s:Nat)(x i:Opd):C7 E (.iaddr s x i) V H=same ((Qo H s (V x) (V i))) H:=C8 _ rfl rfl
theorem ch6(l s:Nat)(x i:Opd):C7 E (.iaddra l s x i) V H=same ((Xt H l s (V x) (V i))) H:=C8 _ rfl rfl
theorem ch4(x i:Opd):C7 E (.indexs x i) V H=same ((Xr (V x) (V i))) H:=C8 _ rfl rfl
theorem ch5(a:Bool)(l s:Nat)(x i:Opd):C7 E (.indexa a l s x i) V H=same ((a0s a l s (V x) (V i))) H:=C8 _ rfl rfl
theorem ci9(x:Opd):C7 E (.cap x) V H=same ((a1s (V x))) H:=C8 _ rfl rfl
theorem ci0(x:Opd)(i:Nat):C7 E (.ext x i) V H=same ((a1e (V x) i)) H:=C8 _ rfl rfl
theorem ch3(x:Opd):C7 E (.len false x) V H=same ((S1 H (V x))) H:=C8 _ rfl rfl
theorem ch2(x:Opd):C7 E (.len true x) V H=same ((a0m (V x))) H:=C8 _ rfl rfl
theorem cg9(x y:Opd):C7 E (.min2 x y) V H=same ((a0c (V x) (V y))) H:=C8 _ rfl rfl
theorem ch0(x y:Opd):C7 E (.max2 x y) V H=same ((a0i (V x) (V y))) H:=C8 _ rfl rfl
theorem cj7(cs:List AV):C7 E (.alloc cs) V H=if cs.length≠0 then some (.ptr H.length 0 0 1,H++[some [cs]])else none:=qq
theorem cj3(x:Opd):C7 E (.box x) V H=a1u H (V x):=qq
theorem cf9(n:Nat)(p x:Opd):C7 E (.store n p x) V H=a38 H n (V p) (V x):=qq
theorem ci5(x:Opd):C7 E (.convsb x) V H=a5x H (V x):=qq
theorem cg7(s b:Nat)(z:List AV)(l c:Opd):C7 E (.mksl s b z l c) V H=a41 H s b z (V l) (V c):=qq
theorem cg2(s:Nat)(x:Opd)(l h:Option Opd):C7 E (.slicel s x l h) V H=D8 (.slicel s x l h) V H:=qq
theorem cg0(x:Opd):C7 E (.slicez x) V H=D8 (.slicez x) V H:=qq
theorem cg3(x l h m:Opd):C7 E (.slice3 x l h m) V H=D8 (.slice3 x l h m) V H:=qq
theorem cj6(s b:Nat)(z:List AV)(x y:Opd):C7 E (.append s b z x y) V H=Vr H s b z (V x) (V y):=qq
theorem ci3(s:Nat)(x y:Opd):C7 E (.copy s x y) V H=a5w H s (V x) (V y):=qq
theorem ci8(s:Nat)(z:List AV)(x:Opd):C7 E (.clear s z x) V H=a60 H s z (V x):=qq
theorem cg6(x:Opd):C7 E (.mv x) V H=some (V x,H):=qq
theorem cg8(f:Fn)(a c:List Opd):C7 E (.mkfn f a c) V H=some (.fn f (a.map V) (c.map V),H):=qq
theorem cj0(f:FuncId)(a:List Opd):C7 E (.call f a) V H=E f (a.map V) H:=qq
theorem cj2(s l:Nat)(z:List AV)(p:List (Nat×Opd)):C7 E (.bslice s l z p) V H=a1t H s l (Ch V (List.replicate l z).flatten (p.map λx=>(x.1*s,s,x.2))):=by
 show D8 (.bslice s l z p) V H=_;unfold D8;simp only[Ar,Cc];cases Ch V (List.replicate l z).flatten (p.map λx=>(x.1*s,s,x.2))<;>rfl
end
def av5(E:CallF)(f:FuncId)(args:List AV)(H:AH):Option (AV×AH):=P8 E f args H
def Cj(op:AOp):Nat:=match op with
 |.append .. =>1
 |_=>0
def Cp(op:AOp):Nat:=match op with
 |.call _ _=>12
 |op=>if O4 op then 1 else 0
def apN:List (Nat×AInstr)->Nat
 |[]=>0
 |i::r=>Cj i.2.op+apN r
theorem ca1:apN []=0:=qq
theorem b38(i:Nat)(d:Option Nat)(g:Option (Nat×Bool))(op:AOp)(r:List (Nat×AInstr)):apN ((i,⟨d,g,op⟩)::r)=Cj op+apN r:=qq
theorem ca2:∀ s:List (Nat×AInstr),(s.filter λi=>match i.2.op with
 |.append .. =>true
 |_=>false).length=apN s
 |[]=>rfl
 |(i,⟨d,g,op⟩)::r=>by
   rw[b38,<-ca2 r,List.filter_cons];cases op<;>simp[Cj,Nat.add_comm]
theorem c9v:Pa []=0:=qq
theorem c9w(s:List (Nat×AInstr))(l:List (List (Nat×AInstr))):Pa (s::l)=apN s+Pa l:=congrArg (·+Pa l) (ca2 s)
theorem b9d:Co []=0:=qq
theorem b9e(i:Nat)(d:Option Nat)(g:Option (Nat×Bool))(op:AOp)(r:List (Nat×AInstr)):Co ((i,⟨d,g,op⟩)::r)=Cp op+Co r:=qq
theorem c1u(x:Opd):Cj (.mv x)=0:=qq
theorem c0o(x:Opd):Cp (.mv x)=0:=qq
theorem c1s(c a b:Opd):Cj (.pick c a b)=0:=qq
theorem c0m(c a b:Opd):Cp (.pick c a b)=0:=qq
theorem c2s(cs:List AV):Cj (.alloc cs)=0:=qq
theorem c1l(cs:List AV):Cp (.alloc cs)=1:=qq
theorem c2m(x:Opd):Cj (.box x)=0:=qq
theorem c1g(x:Opd):Cp (.box x)=1:=qq
theorem c2k(zero:List AV)(parts:List (Nat×Nat×Opd)):Cj (.build zero parts)=0:=qq
theorem c1e(zero:List AV)(parts:List (Nat×Nat×Opd)):Cp (.build zero parts)=0:=qq
theorem c2l(sz len:Nat)(zero:List AV)(parts:List (Nat×Opd)):Cj (.bslice sz len zero parts)=0:=qq
theorem c1f(sz len:Nat)(zero:List AV)(parts:List (Nat×Opd)):Cp (.bslice sz len zero parts)=1:=qq
theorem c1z(agg:Bool)(n:Nat)(x:Opd):Cj (.load agg n x)=0:=qq
theorem c0t(agg:Bool)(n:Nat)(x:Opd):Cp (.load agg n x)=0:=qq
theorem c1n(n:Nat)(p x:Opd):Cj (.store n p x)=0:=qq
theorem c0h(n:Nat)(p x:Opd):Cp (.store n p x)=0:=qq
theorem c1t(x:Opd):Cj (.nilchk x)=0:=qq
theorem c0n(x:Opd):Cp (.nilchk x)=0:=qq
theorem c2p(op:BinOp)(x y:Opd):Cj (.bini op x y)=0:=qq
theorem c1i(op:BinOp)(x y:Opd):Cp (.bini op x y)=0:=qq
theorem c2o(op:BinOp)(x y:Opd):Cj (.bins op x y)=0:=qq
theorem c1h(op:BinOp)(x y:Opd):Cp (.bins op x y)=0:=qq
theorem c2a(neg:Bool)(x y:Opd):Cj (.eqb neg x y)=0:=qq
theorem c14(neg:Bool)(x y:Opd):Cp (.eqb neg x y)=0:=qq
theorem c28(neg:Bool)(ks:List EK)(x y:Opd):Cj (.eqs neg ks x y)=0:=qq
theorem c12(neg:Bool)(ks:List EK)(x y:Opd):Cp (.eqs neg ks x y)=0:=qq
theorem c1m(op:UnOp)(x:Opd):Cj (.un op x)=0:=qq
theorem c0g(op:UnOp)(x:Opd):Cp (.un op x)=0:=qq
theorem c2e(k:IntKind)(x:Opd):Cj (.convi k x)=0:=qq
theorem c18(k:IntKind)(x:Opd):Cp (.convi k x)=0:=qq
theorem c2d(x:Opd):Cj (.convsb x)=0:=qq
theorem c17(x:Opd):Cp (.convsb x)=1:=qq
theorem c2f(x:Opd):Cj (.convbs x)=0:=qq
theorem c19(x:Opd):Cp (.convbs x)=0:=qq
theorem c2c(x:Opd):Cj (.convss x)=0:=qq
theorem c16(x:Opd):Cp (.convss x)=0:=qq
theorem c1v(sz bytes:Nat)(zero:List AV)(len cap:Opd):Cj (.mksl sz bytes zero len cap)=0:=qq
theorem c0p(sz bytes:Nat)(zero:List AV)(len cap:Opd):Cp (.mksl sz bytes zero len cap)=1:=qq
theorem c1p(x:Opd)(lo hi:Option Opd):Cj (.slices x lo hi)=0:=qq
theorem c0j(x:Opd)(lo hi:Option Opd):Cp (.slices x lo hi)=0:=qq
theorem c1q(sz:Nat)(x:Opd)(lo hi:Option Opd):Cj (.slicel sz x lo hi)=0:=qq
theorem c0k(sz:Nat)(x:Opd)(lo hi:Option Opd):Cp (.slicel sz x lo hi)=0:=qq
theorem c1o(x:Opd):Cj (.slicez x)=0:=qq
theorem c0i(x:Opd):Cp (.slicez x)=0:=qq
theorem c1r(x lo hi mx:Opd):Cj (.slice3 x lo hi mx)=0:=qq
theorem c0l(x lo hi mx:Opd):Cp (.slice3 x lo hi mx)=0:=qq
theorem c29(neg:Bool)(x:Opd):Cj (.eqnil neg x)=0:=qq
theorem c13(neg:Bool)(x:Opd):Cp (.eqnil neg x)=0:=qq
theorem c26(off:Nat)(x:Opd):Cj (.faddr off x)=0:=qq
theorem c10(off:Nat)(x:Opd):Cp (.faddr off x)=0:=qq
theorem c25(agg:Bool)(off n:Nat)(x:Opd):Cj (.field agg off n x)=0:=qq
theorem c0z(agg:Bool)(off n:Nat)(x:Opd):Cp (.field agg off n x)=0:=qq
theorem c24(sz:Nat)(x i:Opd):Cj (.iaddr sz x i)=0:=qq
theorem c0y(sz:Nat)(x i:Opd):Cp (.iaddr sz x i)=0:=qq
theorem c23(len sz:Nat)(x i:Opd):Cj (.iaddra len sz x i)=0:=qq
theorem c0x(len sz:Nat)(x i:Opd):Cp (.iaddra len sz x i)=0:=qq
theorem c21(x i:Opd):Cj (.indexs x i)=0:=qq
theorem c0v(x i:Opd):Cp (.indexs x i)=0:=qq
theorem c22(agg:Bool)(len sz:Nat)(x i:Opd):Cj (.indexa agg len sz x i)=0:=qq
theorem c0w(agg:Bool)(len sz:Nat)(x i:Opd):Cp (.indexa agg len sz x i)=0:=qq
theorem c2h(x:Opd):Cj (.cap x)=0:=qq
theorem c1b(x:Opd):Cp (.cap x)=0:=qq
theorem c27(x:Opd)(i:Nat):Cj (.ext x i)=0:=qq
theorem c11(x:Opd)(i:Nat):Cp (.ext x i)=0:=qq
theorem c20(str:Bool)(x:Opd):Cj (.len str x)=0:=qq
theorem c0u(str:Bool)(x:Opd):Cp (.len str x)=0:=qq
theorem c2r(sz bytes:Nat)(zero:List AV)(x y:Opd):Cj (.append sz bytes zero x y)=1:=qq
theorem c1k(sz bytes:Nat)(zero:List AV)(x y:Opd):Cp (.append sz bytes zero x y)=0:=qq
theorem c2b(sz:Nat)(x y:Opd):Cj (.copy sz x y)=0:=qq
theorem c15(sz:Nat)(x y:Opd):Cp (.copy sz x y)=0:=qq
theorem c2g(sz:Nat)(zero:List AV)(x:Opd):Cj (.clear sz zero x)=0:=qq
theorem c1a(sz:Nat)(zero:List AV)(x:Opd):Cp (.clear sz zero x)=0:=qq
theorem c1x(x y:Opd):Cj (.min2 x y)=0:=qq
theorem c0r(x y:Opd):Cp (.min2 x y)=0:=qq
theorem c1y(x y:Opd):Cj (.max2 x y)=0:=qq
theorem c0s(x y:Opd):Cp (.max2 x y)=0:=qq
theorem c1w(f:Fn)(first cap:List Opd):Cj (.mkfn f first cap)=0:=qq
theorem c0q(f:Fn)(first cap:List Opd):Cp (.mkfn f first cap)=0:=qq
theorem c2j(f:FuncId)(args:List Opd):Cj (.call f args)=0:=qq
theorem c1d(f:FuncId)(args:List Opd):Cp (.call f args)=12:=qq
theorem c2i(x:Opd)(args:List Opd):Cj (.calld x args)=0:=qq
theorem c1c(x:Opd)(args:List Opd):Cp (.calld x args)=0:=qq
theorem c2q:Cj .bad=0:=qq
theorem c1j:Cp .bad=0:=qq
def stG(c:Nat)(H:AH)(n r i j:Nat)(cs:List AV)(o:AObj):Option (List AV)->OE
 |some e=>if(cs.length=n/\j+n<=e.length/\cs.all cellA=true)/\r<c then some ([.con r],[.con r],c,.top,H.set r (some (o.set i (lay e j cs))))else none
 |none=>none
def stF(c:Nat)(H:AH)(n r i j:Nat)(cs:List AV):Option AObj->OE
 |some o=>stG c H n r i j cs o (o[i]?)
 |none=>none
def stE(c:Nat)(H:AH)(n:Nat)(p:AV)(x:Option (List AV)):OE:=match p,x with
 |.ptr r i j tot,some cs=>stF c H n r i j cs (Am H r tot)
 |_,_=>none
theorem ck0(lk:FuncId->Bool)(E:CallF)(c:Nat)(V:Opd->AV)(H:AH)(n:Nat)(p x:Opd):Bj lk E (.store n p x) c V H=stE c H n (V p) (cellsOf (V x)):=by
 unfold Bj stE;simp only[];generalize V p=y;generalize cellsOf (V x)=z;cases y<;>first|rfl|(cases z with
  |none=>rfl
  |some cs=>
    simp only[stF];cases Am H _ _ with
    |none=>rfl
    |some o=>
      simp only[stG];cases o[_]?<;>rfl)
theorem b96(c:Nat)(H:AH)(n r i j tot:Nat)(cs:List AV):stE c H n (.ptr r i j tot) (some cs)=stF c H n r i j cs (Am H r tot):=qq
theorem b95(c:Nat)(H:AH)(n r i j:Nat)(cs:List AV)(o:AObj):stF c H n r i j cs (some o)=stG c H n r i j cs o (o[i]?):=qq
theorem b94(c:Nat)(H:AH)(n r i j:Nat)(cs:List AV)(o:AObj)(e:List AV):stG c H n r i j cs o (some e)=if(cs.length=n/\j+n<=e.length/\cs.all cellA=true)/\r<c then some ([.con r],[.con r],c,.top,H.set r (some (o.set i (lay e j cs))))else none:=qq
def apR(H:AH)(c sz:Nat)(x:AV):Option (Nat×Nat):=match x with
 |.own r sz' 0 len tot=>if sz'=sz/\len=tot then some (r,len)else none
 |.emp=>(Ya H c).map λr=>(r,0)
 |_=>none
def apG(c:Nat)(H:AH)(sz bytes:Nat)(R:List Loc)(r len:Nat)(news:List (List AV)):Option AObj->OE
 |some o=>if(news.all (λe=>decide (e.length=sz))=true/\(len+news.length)*bytes<=1000000000000/\len+news.length<=1000000000)/\r<c then some (.con r::R,[.con r,.len r],c,.own r sz 0 (len+news.length) (len+news.length),H.set r (some (o++news)))else none
 |none=>none
def apD(c:Nat)(H:AH)(sz bytes:Nat)(R:List Loc)(q:Option (Nat×Nat))(n:Option (List (List AV))):OE:=match q,n with
 |some (r,len),some news=>apG c H sz bytes R r len news (Am H r len)
 |_,_=>none
theorem cn4(lk:FuncId->Bool)(E:CallF)(c:Nat)(V:Opd->AV)(H:AH)(sz b:Nat)(z:List AV)(x y:Opd):Bj lk E (.append sz b z x y) c V H=apD c H sz b (Fz (V y)) (apR H c sz (V x)) (D4 H (V y)):=by
 have e:Bj lk E (.append sz b z x y) c V H=match apR H c sz (V x),D4 H (V y)with
  |some (r,len),some news=>
    match Am H r len with
    |some o=>if(news.all (λe=>decide (e.length=sz))=true/\(len+news.length)*b<=1000000000000/\len+news.length<=1000000000)/\r<c then some (.con r::Fz (V y),[.con r,.len r],c,.own r sz 0 (len+news.length) (len+news.length),H.set r (some (o++news)))else none
    |none=>none
  |_,_=>none:=rfl
 rw[e];unfold apD;cases apR H c sz (V x)with
 |none=>rfl
 |some q=>
   obtain⟨r,len⟩:=q;cases D4 H (V y)with
   |none=>rfl
   |some news=>
     simp only[apG]
theorem c9z(H:AH)(c sz r sz' len tot:Nat):apR H c sz (.own r sz' 0 len tot)=if sz'=sz/\len=tot then some (r,len)else none:=qq
theorem ca0(H:AH)(c sz:Nat):apR H c sz .emp=(Ya H c).map λr=>(r,0):=qq
theorem ca5(c:Nat)(H:AH)(sz bytes:Nat)(R:List Loc)(r len:Nat)(news:List (List AV)):apD c H sz bytes R (some (r,len)) (some news)=apG c H sz bytes R r len news (Am H r len):=qq
theorem ca3(c:Nat)(H:AH)(sz bytes:Nat)(R:List Loc)(r len:Nat)(news:List (List AV))(o:AObj):apG c H sz bytes R r len news (some o)=if(news.all (λe=>decide (e.length=sz))=true/\(len+news.length)*bytes<=1000000000000/\len+news.length<=1000000000)/\r<c then some (.con r::R,[.con r,.len r],c,.own r sz 0 (len+news.length) (len+news.length),H.set r (some (o++news)))else none:=qq
theorem c6e(H:AH)(c:Nat):Ya H (c+1)=c6d H c (H.at c):=qq
theorem c6c(H:AH)(c:Nat):c6d H c (some [])=some c:=qq
theorem b97(H:AH)(s:List UInt8):D4 H (.str s)=some (s.map λb=>[.int .u8 b.toNat]):=qq
theorem b98(H:AH)(r sz o l t:Nat):D4 H (.own r sz o l t)=G5 H (.own r sz o l t):=qq
theorem b99(H:AH)(es:List (List PV)):D4 H (.fz es)=some (es.map λe=>e.map emb):=qq
theorem b9a(H:AH):D4 H .emp=some []:=qq
def crB(H:AH)(x:AV)(o:Option (AV×AH)):Bool->Option (AV×AH)
 |true=>some (x,H)
 |false=>o
def crK(H:AH)(o:Option (AV×AH))(r:Option (AV×AH)):Option (AV×AH):=match r with
 |some (x,[])=>crB H x o (Ab x)
 |_=>o
def crE(E:CallF)(f:FuncId)(H:AH)(args:List AV):Bool->Option (AV×AH)
 |true=>crK H (av5 E f args H) (E f args [])
 |false=>av5 E f args H
theorem c8v(E:CallF)(f:FuncId)(args:List AV)(H:AH):P8 E f args H=crE E f H args (Aa args):=by
 cases hb:Aa args with
 |false=>rfl
 |true=>
   simp only[crE,crK];cases he:E f args []with
   |none=>rfl
   |some r=>
     obtain⟨x,H1⟩:=r;cases H1 with
     |cons _ _=>rfl
     |nil=>
       simp only[];cases hx:Ab x with
       |false=>rfl
       |true=>exact c8u hb hx he H
theorem c7o(E:CallF)(f:FuncId)(H:AH)(args:List AV):crE E f H args true=crK H (av5 E f args H) (E f args []):=qq
theorem c7n(H:AH)(o:Option (AV×AH))(x:AV):crK H o (some (x,[]))=crB H x o (Ab x):=qq
theorem c7p(H:AH)(x:AV)(o:Option (AV×AH)):crB H x o true=some (x,H):=qq
section
variable (tab:List (Nat×FT)) (orc:CallF) (lk:FuncId->Bool) (sl:List Nat) (N n0:Nat)
theorem c7i:(cx tab orc lk sl N n0).sl=sl:=qq
theorem c7l:(cx tab orc lk sl N n0).N=N:=qq
theorem c7k:(cx tab orc lk sl N n0).lk=lk:=qq
theorem c7m:(cx tab orc lk sl N n0).E=Ev tab orc lk:=qq
end
end
section
def vwO(H:AH)(off len tot:Nat)(o:Option AObj):AV:=match o with
 |some o=>if off+len<=tot then .fz (((o.drop off).take len).map λe=>e.map (Cq H 3))else .top
 |none=>.top
def Zg(H:AH)(i j:Nat)(o:Option AObj):AV:=match o with
 |some o=>vwR H j (o[i]?)
 |none=>.top
where vwR (H:AH) (j:Nat):Option (List AV)->AV
 |some e=>if j<=e.length then .fptr ((e.drop j).map (Cq H 3))else .top
 |none=>.top
section
variable (H:AH)
theorem b5m(r sz off len tot:Nat):Bp H (.own r sz off len tot)=vwO H off len tot (Am H r tot):=by
 simp only[Bp,Cq,vwO];cases Am H r tot with
 |none=>rfl
 |some o=>simp only[];split<;>rfl
theorem b5l(r i j tot:Nat):Bp H (.ptr r i j tot)=Zg H i j (Am H r tot):=by
 simp only[Bp,Cq,Zg];cases Am H r tot with
 |none=>rfl
 |some o=>
   simp only[Zg.vwR];cases o[i]? with
   |none=>rfl
   |some e=>simp only[];split<;>rfl
theorem b54(off len tot:Nat)(o:AObj):vwO H off len tot (some o)=if off+len<=tot then .fz (((o.drop off).take len).map λe=>e.map (Cq H 3))else .top:=qq
theorem b53(i j:Nat)(o:AObj):Zg H i j (some o)=Zg.vwR H j (o[i]?):=qq
theorem b52(j:Nat)(e:List AV):Zg.vwR H j (some e)=if j<=e.length then .fptr ((e.drop j).map (Cq H 3))else .top:=qq
theorem b5t(cs:List AV):Bp H (.agg cs)=.agg (B3 H cs):=qq
theorem b5n(k:IntKind)(n:Int):Bp H (.int k n)=.int k n:=qq
theorem b5k(s:List UInt8):Bp H (.str s)=.str s:=qq
theorem b5q(b:Bool):Bp H (.bool b)=.bool b:=qq
theorem b5o(es:List (List PV)):Bp H (.fz es)=.fz es:=qq
theorem b5p:Bp H .emp=.emp:=qq
theorem b5s{α:Type}(p:α->List PV)(x:Sl α):Bp H (A4 p x)=A4 p x:=b5r H _ (Ak p x)
theorem b5i:B3 H []=[]:=qq
theorem b5j(x:AV)(xs:List AV):B3 H (x::xs)=Bp H x::B3 H xs:=qq
theorem b5d(k:IntKind)(n:Int):Cq H 3 (.int k n)=.int k n:=qq
theorem b5a(s:List UInt8):Cq H 3 (.str s)=.str s:=qq
theorem b5g(b:Bool):Cq H 3 (.bool b)=.bool b:=qq
theorem b5e(es:List (List PV)):Cq H 3 (.fz es)=.fz es:=qq
theorem b5f:Cq H 3 .emp=.emp:=qq
theorem as9(p:PV):Cq H 3 (emb p)=p:=by cases p<;>rfl
theorem b5h{α:Type}(p:α->List PV)(x:Sl α):Cq H 3 (A4 p x)=Kt p x:=by cases x<;>rfl
theorem as8{α:Type}(l:List α)(p:α->List PV):(l.map λa=>(p a).map emb).map (λe=>e.map (Cq H 3))=l.map p:=by
 rw[e7q];refine e4y λa _=>?_;simp only[Function.comp_apply,e7q]
 conv=>rhs;rw[<-List.map_id (p a)]
 exact e4y λq _=>as9 H q
theorem b5c{α:Type}(l:List α)(k:IntKind)(g:α->Int):(l.map λa=>[AV.int k (g a)]).map (λe=>e.map (Cq H 3))=l.map λa=>[PV.int k (g a)]:=by rw[e7q];rfl
theorem b5b{α:Type}(l:List α)(g:α->List UInt8):(l.map λa=>[AV.str (g a)]).map (λe=>e.map (Cq H 3))=l.map λa=>[PV.str (g a)]:=by rw[e7q];rfl
end
theorem b4j(r sz o l t:Nat):Fz (.own r sz o l t)=[.con r]:=qq
theorem b4i(r i j t:Nat):Fz (.ptr r i j t)=[.con r]:=qq
theorem b4k(es:List (List PV)):Fz (.fz es)=[]:=qq
theorem b4l(cs:List PV):Fz (.fptr cs)=[]:=qq
theorem b4h(s:List UInt8):Fz (.str s)=[]:=qq
theorem b4n(cs:List AV):Fz (.agg cs)=[]:=qq
theorem b4m:Fz .emp=[]:=qq
theorem b4c(r sz o l t:Nat):Ds (.own r sz o l t)=[.len r]:=qq
theorem b4b(r i j t:Nat):Ds (.ptr r i j t)=[.len r]:=qq
theorem b4d(es:List (List PV)):Ds (.fz es)=[]:=qq
theorem b4e(cs:List PV):Ds (.fptr cs)=[]:=qq
theorem b4a(s:List UInt8):Ds (.str s)=[]:=qq
theorem b4g(cs:List AV):Ds (.agg cs)=[]:=qq
theorem b4f:Ds .emp=[]:=qq
theorem c37(H:AH)(len sz r k j tot:Nat)(q:IntKind)(n:Int):Xt H len sz (.ptr r k j tot) (.int q n)=if 0<=n/\n<len then(Am H r tot).map λ_=>.ptr r k (j+n.toNat*sz) tot else none:=qq
theorem c38(H:AH)(len sz:Nat)(cs:List PV)(q:IntKind)(n:Int):Xt H len sz (.fptr cs) (.int q n)=if 0<=n/\n<len/\n.toNat*sz<=cs.length then some (.fptr (cs.drop (n.toNat*sz)))else none:=qq
def iaG(sz:Nat):Option (List PV)->Option AV
 |some e=>if e.length=sz then some (.fptr e)else none
 |none=>none
theorem c39(sz:Nat)(e:List PV):iaG sz (some e)=if e.length=sz then some (.fptr e)else none:=qq
theorem Fg(H:AH)(sz:Nat)(es:List (List PV))(k:IntKind)(n:Int):Qo H sz (.fz es) (.int k n)=if 0<=n then iaG sz (es[n.toNat]?)else none:=by
 simp only[Qo];split
 ·cases es[n.toNat]?<;>rfl
 ·rfl
def an9(b:Bool)(r:Option Bool):Option Bool:=r.map λr=>b&&r
theorem cb4(b r:Bool):an9 b (some r)=some (b&&r):=qq
theorem c68:Cb [] [] []=some true:=qq
theorem c69(ks:List EK)(k:IntKind)(a b:Int)(xs ys:List AV):Cb (.i::ks) (.int k a::xs) (.int k b::ys)=an9 (decide (a=b)) (Cb ks xs ys):=by
 rw[Cb,if_pos rfl];rfl
theorem c67(ks:List EK)(a b:List UInt8)(xs ys:List AV):Cb (.s::ks) (.str a::xs) (.str b::ys)=an9 (decide (a=b)) (Cb ks xs ys):=by
 have e:(a==b)=decide (a=b):=by rw[e6p];simp
 rw[Cb,<-e];rfl
theorem c6a(ks:List EK)(a b:Bool)(xs ys:List AV):Cb (.b::ks) (.bool a::xs) (.bool b::ys)=an9 (decide (a=b)) (Cb ks xs ys):=by
 have e:(a==b)=decide (a=b):=by rw[e6p];simp
 rw[Cb,<-e];rfl
theorem c52(k:IntKind)(n:Int):Db (.int k n)=true:=qq
theorem c50(s:List UInt8):Db (.str s)=true:=qq
theorem c53(b:Bool):Db (.bool b)=true:=qq
theorem c54(cs:List AV):Db (.agg cs)=P1 cs:=qq
theorem c4z(cs:List AV):Db (.tuple cs)=P1 cs:=qq
theorem c59:P1 []=true:=qq
theorem c5a(x:AV)(xs:List AV):P1 (x::xs)=(Db x&&P1 xs):=qq
section
variable (tab:List (Nat×FT)) (orc:CallF) (lk:FuncId->Bool)
noncomputable def vwB (f:FuncId) (args:List AV) (H:AH) (x:AV):Bool->Option (AV×AH)
 |true=>some (x,H)
 |false=>K tab orc lk f args H
noncomputable def Hn (f:FuncId) (args:List AV) (H:AH) (b:Bool) (r:Option (AV×AH)):Option (AV×AH):=match b,r with
 |true,some (x,_)=>vwB tab orc lk f args H x (Db x)
 |_,_=>K tab orc lk f args H
theorem Nf{f:FuncId}(hl:lk f=true)(args:List AV)(H:AH):K tab orc lk f args H=Hn tab orc lk f args H (Aa (B3 H args)) (K tab orc lk f (B3 H args) H):=by
 unfold Hn;cases hb:Aa (B3 H args)with
 |false=>rfl
 |true=>
   cases hk:K tab orc lk f (B3 H args) H with
   |none=>rfl
   |some r=>
     obtain⟨x,G⟩:=r;show _=vwB tab orc lk f args H x (Db x);unfold vwB;cases hf:Db x with
     |false=>rfl
     |true=>
       refine e3q hl ?_ hb hf;rw[hk];have:G=H:=by
        unfold K G8 at hk;rw[if_pos hl]at hk;split at hk
        ·split at hk
         ·cases hk;rfl
         ·split at hk
          ·cases hk;rfl
          ·cases hk
        ·cases hk
       rw[this]
theorem b55(f:FuncId)(args:List AV)(H:AH)(x:AV)(G:AH):Hn tab orc lk f args H true (some (x,G))=vwB tab orc lk f args H x (Db x):=qq
theorem b56(f:FuncId)(args:List AV)(H:AH)(x:AV):vwB tab orc lk f args H x true=some (x,H):=qq
end
end
section
def clX(o:OE)(D:List Nat)(c:Nat)(H:AH)(x:AV):Bool->OE
 |true=>some (D.map .con,[],c,x,H)
 |false=>o
def Vn(o:OE)(D:List Nat)(c:Nat)(H:AH)(r:Option (AV×AH)):OE:=match r with
 |some (x,_)=>clX o D c H x (Db x)
 |none=>o
theorem a61{lk:FuncId->Bool}{f:FuncId}(hl:lk f=true)(E:CallF)(a:List Opd)(c:Nat)(V:Opd->AV)(H:AH)(args:List AV):Jw lk E f a c V H args false=Vn (Hq lk E f a c V H) (F7 H args) c H (E f (B3 H args) []):=by
 unfold Jw Vn Hq;rw[if_pos hl];cases E f (B3 H args) []with
 |none=>rfl
 |some r=>
   obtain⟨x,G⟩:=r;simp only[clX];cases Db x<;>rfl
theorem c80(o:OE)(D:List Nat)(c:Nat)(H:AH)(x:AV)(G:AH):Vn o D c H (some (x,G))=clX o D c H x (Db x):=qq
theorem c7z(o:OE)(D:List Nat)(c:Nat)(H:AH)(x:AV):clX o D c H x true=some (D.map .con,[],c,x,H):=qq
section
variable (H:AH)
def dpO(H:AH)(off len:Nat):Option AObj->List Nat
 |some o=>((o.drop off).take len).flatMap λe=>e.flatMap (G6 H 3)
 |none=>[]
theorem c76(r sz off len tot:Nat):Jv H (.own r sz off len tot)=r::dpO H off len (Am H r tot):=by
 simp only[Jv,G6,dpO];cases Am H r tot<;>rfl
theorem c6u(off len:Nat)(o:AObj):dpO H off len (some o)=((o.drop off).take len).flatMap λe=>e.flatMap (G6 H 3):=qq
theorem c7c(cs:List AV):Jv H (.agg cs)=F7 H cs:=qq
theorem c77(k:IntKind)(n:Int):Jv H (.int k n)=[]:=qq
theorem c75(s:List UInt8):Jv H (.str s)=[]:=qq
theorem c7a(b:Bool):Jv H (.bool b)=[]:=qq
theorem c78(es:List (List PV)):Jv H (.fz es)=[]:=qq
theorem c79:Jv H .emp=[]:=qq
theorem c7b{α:Type}(p:α->List PV)(x:Sl α):Jv H (A4 p x)=[]:=by cases x<;>rfl
theorem c72:F7 H []=[]:=qq
theorem c73(x:AV)(xs:List AV):F7 H (x::xs)=Jv H x++F7 H xs:=qq
theorem b2e(k:IntKind)(n:Int):G6 H 3 (.int k n)=[]:=qq
theorem b2d(s:List UInt8):G6 H 3 (.str s)=[]:=qq
theorem c71(b:Bool):G6 H 3 (.bool b)=[]:=qq
theorem c6z(es:List (List PV)):G6 H 3 (.fz es)=[]:=qq
theorem c70:G6 H 3 .emp=[]:=qq
theorem c56(f:List AV->List Nat):([]:AObj).flatMap f=[]:=qq
theorem c58(f:List AV->List Nat)(e:List AV)(o:AObj):(e::o).flatMap f=f e++o.flatMap f:=List.flatMap_cons
theorem c55(f:AV->List Nat):([]:List AV).flatMap f=[]:=qq
theorem c57(f:AV->List Nat)(e:AV)(o:List AV):(e::o).flatMap f=f e++o.flatMap f:=List.flatMap_cons
end
end
section
section
variable (tab:List (Nat×FT)) (orc:CallF) (lk:FuncId->Bool)
def Xs(rs:List Nat)(H:AH):Option (AV×AH)->Option (AV×AH)
 |some (x,H1)=>if rs.length<=H1.length then some (ren (Gl rs H.length) x,N9 rs H H1)else none
 |none=>none
def inH(E:CallF)(f:FuncId)(args:List AV)(H:AH)(rs:List Nat):Option (AV×AH):=
 if rs.Nodup/\(∀ r∈rs,r<H.length)then Xs rs H (E f (Bw (Aw rs) args) (rs.map λr=>(H.at r).map (renO (Aw rs))))else none
theorem e21(E:CallF)(f:FuncId)(args:List AV)(H:AH):P8 E f args H=inH E f args H (Iy H (H.length*4+40) (C1 args) []):=by
 unfold P8 Jy inH Xs;simp only[];split
 ·rename_i rs x H1 h;split at h
  ·rename_i hc;rw[if_pos hc];split at h
   ·rename_i x2 H2 he;rw[he];split at h
    ·rename_i hl;cases h;simp only[];rw[if_pos hl]
    ·cases h
   ·cases h
  ·cases h
 ·rename_i h;split at h
  ·rename_i hc;rw[if_pos hc];split at h
   ·rename_i x2 H2 he;rw[he];split at h
    ·cases h
    ·rename_i hl;simp only[];rw[if_neg hl]
   ·rename_i he;rw[he]
  ·rename_i hc;rw[if_neg hc]
theorem ar3{f:FuncId}(hl:lk f=false)(args:List AV)(H:AH):K tab orc lk f args H=inH (Ev tab orc lk) f args H (Iy H (H.length*4+40) (C1 args) []):=by
 unfold K G8;rw[if_neg (by rw[hl];simp)];exact e21 _ _ _ _
end
theorem a9q(rs:List Nat)(H:AH)(x:AV)(H1:AH):Xs rs H (some (x,H1))=if rs.length<=H1.length then some (ren (Gl rs H.length) x,N9 rs H H1)else none:=qq
theorem c2z(rs:List Nat)(H:AH)(q:Prop)[Decidable q](a b:Option (AV×AH)):Xs rs H (if q then a else b)=if q then Xs rs H a else Xs rs H b:=by by_cases h:q<;>simp[h]
theorem Ay(E:CallF)(f:FuncId)(args:List AV)(H:AH)(rs:List Nat)(h:rs.Nodup/\(∀ r∈rs,r<H.length)):inH E f args H rs=Xs rs H (E f (Bw (Aw rs) args) (rs.map λr=>(H.at r).map (renO (Aw rs)))):=if_pos h
theorem a8t(H:AH)(n:Nat)(acc:List Nat):Iy H (n+1) [] acc=acc:=qq
theorem bj5(H:AH)(n r:Nat)(todo acc:List Nat):Iy H (n+1) (r::todo) acc=if acc.contains r then Iy H n todo acc else Iy H n (refsO (H.at r)++todo) (acc++[r]):=qq
theorem b8i(r:Nat):Aw [] r=none:=qq
theorem b8j(s r:Nat)(rs:List Nat):Aw (s::rs) r=if s=r then some 0 else(Aw rs r).map (·+1):=by
 unfold Aw;rw[List.idxOf?_cons];by_cases h:s=r
 ·subst h;simp
 ·rw[if_neg h,show(s==r)=false from by simpa using h];simp
theorem Sj(rs:List Nat)(n i:Nat):Gl rs n i=if i<rs.length then rs[i]? else some (n+(i-rs.length)):=qq
theorem ba9(H:AH)(r:Nat)(rs:List Nat)(o:Option AObj)(os:List (Option AObj)):C3 H (r::rs) (o::os)=C3 (H.set r o) rs os:=qq
theorem a8e(H:AH)(os:List (Option AObj)):C3 H [] os=H:=by cases os<;>rfl
theorem an6(rs:List Nat)(H H':AH):N9 rs H H'=C3 H rs (H'.map λo=>o.map (renO (Gl rs H.length)))++(H'.drop rs.length).map λo=>o.map (renO (Gl rs H.length)):=qq
def a94(sz off len tot:Nat):Option Nat->AV
 |some s=>.own s sz off len tot
 |none=>.top
def a8z(i j tot:Nat):Option Nat->AV
 |some s=>.ptr s i j tot
 |none=>.top
theorem Zo(all:List Nat)(i:Nat):Au all i=all[i]?:=qq
theorem bn1(sz off len tot:Nat):a94 sz off len tot none=.top:=qq
theorem bl8(i j tot:Nat):a8z i j tot none=.top:=qq
theorem c42{α:Type}(i:Nat):([]:List α)[i]?=none:=List.getElem?_nil
theorem Nt(sz off len tot s:Nat):a94 sz off len tot (some s)=.own s sz off len tot:=qq
theorem bl7(i j tot s:Nat):a8z i j tot (some s)=.ptr s i j tot:=qq
section
variable (τ:Nat->Option Nat)
theorem Nn(r sz off len tot:Nat):ren τ (.own r sz off len tot)=a94 sz off len tot (τ r):=by
 simp only[ren,a94];cases τ r<;>rfl
theorem bf1(r i j tot:Nat):ren τ (.ptr r i j tot)=a8z i j tot (τ r):=by
 simp only[ren,a8z];cases τ r<;>rfl
theorem a3o(k:IntKind)(n:Int):ren τ (.int k n)=.int k n:=Ji τ _ rfl
theorem bf0(s:List UInt8):ren τ (.str s)=.str s:=Ji τ _ rfl
theorem a03(b:Bool):ren τ (.bool b)=.bool b:=Ji τ _ rfl
theorem be9:ren τ .top=.top:=Ji τ _ rfl
theorem a3p:ren τ .emp=.emp:=Ji τ _ rfl
theorem bf2:ren τ .nilp=.nilp:=Ji τ _ rfl
theorem bf3(es:List (List PV)):ren τ (.fz es)=.fz es:=Ji τ _ rfl
theorem bf4(es:List PV):ren τ (.fptr es)=.fptr es:=Ji τ _ rfl
theorem a8p(cs:List AV):ren τ (.agg cs)=.agg (Bw τ cs):=by simp only[ren]
theorem a02(cs:List AV):ren τ (.tuple cs)=.tuple (Bw τ cs):=by simp only[ren]
theorem bf5(f:Fn)(a c:List AV):ren τ (.fn f a c)=.fn f (Bw τ a) (Bw τ c):=by simp only[ren]
theorem X9:Bw τ []=[]:=by simp only[Bw]
theorem Xa(x:AV)(xs:List AV):Bw τ (x::xs)=ren τ x::Bw τ xs:=by simp only[Bw]
theorem ay6(l:List PV):Bw τ (l.map emb)=l.map emb:=by rw[Jj,e7q];exact e4y λp _=>bf6 τ p
theorem ay4:renO τ []=[]:=qq
theorem ay5(e:List AV)(o:AObj):renO τ (e::o)=Bw τ e::renO τ o:=qq
theorem bg1(a b:AObj):renO τ (a++b)=renO τ a++renO τ b:=by simp[renO]
theorem Sp{α:Type}(l:List α)(p:α->List PV):renO τ (l.map λa=>(p a).map emb)=l.map λa=>(p a).map emb:=by
 unfold renO;rw[e7q];exact e4y λa _=>ay6 τ (p a)
theorem bf9{α:Type}(l:List α)(k:IntKind)(g:α->Int):renO τ (l.map λa=>[AV.int k (g a)])=l.map λa=>[AV.int k (g a)]:=by
 unfold renO;rw[e7q];exact e4y λa _=>Hw τ _ rfl
theorem bf8{α:Type}(l:List α)(g:α->List UInt8):renO τ (l.map λa=>[AV.str (g a)])=l.map λa=>[AV.str (g a)]:=by
 unfold renO;rw[e7q];exact e4y λa _=>Hw τ _ rfl
theorem bf7(n:Nat)(k:IntKind)(g:Int):renO τ (List.replicate n [AV.int k g])=List.replicate n [AV.int k g]:=by
 unfold renO;rw[List.map_replicate];rw[Hw τ _ rfl]
theorem Og{α:Type}(l:List α)(f:α->List AV)(h:∀ a,Aa (f a)=true):renO τ (l.map f)=l.map f:=by
 unfold renO;rw[e7q];exact e4y λa _=>Hw τ _ (h a)
end
def Vh(q:List AV×AH):Option (AV×AH):=match q with
 |([x],H2)=>some (x,H2)
 |_=>none
def lvC(n0:Nat)(cf:List AV)(H:AH)(rs:List Nat):List AV×AH:=if rs.Nodup/\(∀ r∈List.range n0,rs[r]?=some r)then(Bw (Aw rs) cf,rs.map λr=>(H.at r).map (renO (Aw rs)))else(cf,H)
theorem bw1(n0:Nat)(cf:List AV)(H:AH):Hz n0 cf H=if H.length<=n0 then(cf,H)else lvC n0 cf H (Iy H (H.length*4+40) ((List.range n0).flatMap (λr=>refsO (H.at r))++C1 cf) (List.range n0)):=qq
theorem Ad(n0:Nat)(cf:List AV)(H:AH)(rs:List Nat)(h:rs.Nodup/\(∀ r∈List.range n0,rs[r]?=some r)):lvC n0 cf H rs=(Bw (Aw rs) cf,rs.map λr=>(H.at r).map (renO (Aw rs))):=if_pos h
theorem c5n(x:AV)(H:AH):Vh ([x],H)=some (x,H):=qq
theorem c5j(n:Nat)(H:AH)(y:AV):Tf false (n+1) H (some y)=Vh (Hz (n+1) [y] H):=by
 show Bv false (n+1) y H=_;unfold Bv Vh;rw[if_neg (by simp)];simp only[e52,if_false];rw[if_neg (by simp)];rfl
def a0u(n0:Nat)(y:AV)(H:AH):AV×AH:=Ll n0 y H
theorem c5i(n:Nat)(H:AH)(y:AV):Tf true (n+1) H (some y)=Vh (Hz (n+1) [(a0u (n+1) y H).1] (a0u (n+1) y H).2):=by
 show Bv true (n+1) y H=_;unfold Bv Vh a0u;rw[if_neg (by simp)];simp only[if_true];rw[if_neg (by simp)];rfl
def S2(n0:Nat):Nat->AV×AH->AV×AH
 |0,q=>q
 |k+1,q=>S2 n0 k (if n0<=k then a0t k q.1 q.2 ((q.2.at k).bind Cm)else q)
theorem c3h(n0:Nat)(y:AV):∀ (k:Nat) (q:AV×AH),Qp n0 y k q=S2 n0 k q
 |0,_=>rfl
 |k+1,q=>by
   rw[Qp,S2,c3h n0 y k]
   congr 1
def c3g(n0:Nat)(y:AV)(H:AH)(q:AV×AH):Bool->AV×AH
 |true=>q
 |false=>Ll n0 y H
theorem Af(n0:Nat)(y:AV)(H:AH)(h:H.length<=n0):a0u n0 y H=(y,H):=if_pos h
theorem Ah(n0:Nat)(y:AV)(H:AH)(h:¬ H.length<=n0):a0u n0 y H=c3g n0 y H (S2 n0 H.length (y,H)) (Ab (S2 n0 H.length (y,H)).1):=by
 unfold a0u;cases hb:Ab (S2 n0 H.length (y,H)).1 with
 |false=>rfl
 |true=>
   show Ll n0 y H=S2 n0 H.length (y,H);unfold Ll;rw[if_neg h];simp only[c3h,hb,if_true]
theorem c3f(n0:Nat)(y:AV)(H:AH)(q:AV×AH):c3g n0 y H q true=q:=qq
theorem c3d(n0:Nat)(q:AV×AH):S2 n0 0 q=q:=qq
theorem c3e(n0 k:Nat)(x:AV)(H:AH):S2 n0 (k+1) (x,H)=S2 n0 k (if n0<=k then a0t k x H ((H.at k).bind Cm)else(x,H)):=qq
section
variable {tab:List (Nat×FT)} {orc:CallF} {lk:FuncId->Bool}
theorem Cv{f:FuncId}{d:FT}(hd:A9 tab f=some d){args:List AV}{H:AH}{r:AV×AH}(hn:args.length=d.np)(h:Dv d.res d.fz H.length (Av (cx tab orc lk d.sl (d.np+d.nt) H.length) d.tc (args++List.replicate (d.sl.length-d.np) .top) H)=some r) :
 Ev tab orc lk f args H=some r:=ct2 hd hn h
end
theorem a8l:List.range 0=[]:=qq
theorem bd3:List.range 1=[0]:=qq
theorem bd2:List.range 2=[0,1]:=qq
theorem bd1:List.range 3=[0,1,2]:=qq
theorem bd0:List.range 4=[0,1,2,3]:=qq
theorem bc9:List.range 5=[0,1,2,3,4]:=qq
theorem bc8:List.range 6=[0,1,2,3,4,5]:=qq
theorem bc7:List.range 7=[0,1,2,3,4,5,6]:=qq
theorem bc6:List.range 8=[0,1,2,3,4,5,6,7]:=qq
theorem ak6{α β:Type}(f:α->List β):([]:List α).flatMap f=[]:=qq
theorem c4x{α β:Type}(f:α->List β)(x:α)(l:List α):(x::l).flatMap f=f x++l.flatMap f:=List.flatMap_cons
def al2(H:AH)(y:AV):Bool->Option (AV×AH)
 |true=>some (y,[])
 |false=>Vh (Hz 0 [y] H)
theorem c5r(H:AH)(y:AV):al4 false H y false=al2 H y (Ab y):=by
 show Bv false 0 y H=_;unfold Bv al2 Vh;cases hb:Ab y with
 |true=>rfl
 |false=>
   rw[if_neg (by simp)];simp only[e52,if_false];rw[if_neg (by simp[hb])];rfl
theorem c5m(H:AH)(y:AV):al2 H y false=Vh (Hz 0 [y] H):=qq
theorem c5l(H:AH)(y:AV):al2 H y true=some (y,[]):=qq
def tvP(X:TCtx)(b:TC)(q:List AV×AH):R3:=Av X b q.1 q.2
def br9(q:List AV×AH):R3:=some (.normal,q.1,q.2)
def cc2(n0:Nat)(l:List Act)(q:List AV×AH):List AV×AH:=O8 n0 l q.1 q.2
section
variable (X:TCtx) (n0:Nat) (cf:List AV) (H:AH) (l:List Act) (b:TC)
theorem b7e:Av X (.pre l b) cf H=tvP X b (O8 X.n0 l cf H):=qq
theorem b62:tvP X b (cf,H)=Av X b cf H:=qq
theorem b7n:Av X (.after l b) cf H=Nc X.n0 l (Av X b cf H):=qq
theorem cc4:Nc n0 l (some (.normal,cf,H))=br9 (O8 n0 l cf H):=qq
theorem cc3:Nc n0 l (some (.ret,cf,H))=some (.ret,cf,H):=qq
theorem cc6(i:Nat):Nc n0 l (some (.exit i,cf,H))=some (.exit i,cf,H):=qq
theorem cc5(q:Prop)[Decidable q](r r':R3):Nc n0 l (if q then r else r')=if q then Nc n0 l r else Nc n0 l r':=by by_cases h:q<;>simp[h]
theorem br8:br9 (cf,H)=some (.normal,cf,H):=qq
theorem cb9:O8 n0 [] cf H=(cf,H):=qq
theorem cc0(a:Act):O8 n0 (a::l) cf H=cc2 n0 l (Pc n0 a cf H):=qq
theorem cc1:cc2 n0 l (cf,H)=O8 n0 l cf H:=qq
theorem cd1(i:Nat):Pc n0 (.fz i) cf H=Ve n0 cf H (getF cf i):=qq
theorem cd0(i off:Nat):Pc n0 (.fzC i off) cf H=a5f n0 off cf H (getF cf i):=qq
theorem c4b(off r a j t:Nat):a5f n0 off cf H (.ptr r a j t)=Ve n0 cf H (Vq H r a (j+off)):=qq
theorem c8i(r a c:Nat):Vq H r a c=(((H.at r).bind λo=>o[a]?).bind λe=>e[c]?).getD .top:=qq
theorem cd4(i sz:Nat):Pc n0 (.emp i sz) cf H=Th i sz cf H (getF cf i):=qq
theorem cd3(i off sz:Nat):Pc n0 (.empC i off sz) cf H=a6i off sz cf H (getF cf i):=qq
theorem cd2(i off c sz:Nat):Pc n0 (.empL i off c sz) cf H=a6h off c sz cf H (getF cf i):=qq
theorem cc9(live:List Nat):Pc n0 (.keep live) cf H=Hz n0 (Di live 0 cf) H:=qq
def fzW(cf:List AV)(H:AH)(r:Nat):Option (List (List PV))->List AV×AH
 |some es=>(Bm r es cf,Hj (Bm r es) (H.set r none))
 |none=>(cf,H)
theorem c4a(r sz off len tot:Nat):Ve n0 cf H (.own r sz off len tot)=if n0<=r then fzW cf H r ((H.at r).bind Cm)else(cf,H):=by
 show(if n0<=r then(match (H.at r).bind Cm with|some es=>(Bm r es cf,Hj (Bm r es) (H.set r none))|none=>(cf,H))else(cf,H))=_;unfold fzW
 cases (H.at r).bind Cm<;>rfl
theorem c48(r:Nat)(es:List (List PV)):fzW cf H r (some es)=(Bm r es cf,Hj (Bm r es) (H.set r none)):=qq
theorem cd5(off sz r a j t:Nat):a6i off sz cf H (.ptr r a j t)=Ti r a (j+off) sz cf H:=qq
theorem cc7(off c sz r a j t:Nat):a6h off c sz cf H (.ptr r a j t)=a6g c sz cf H (Vq H r a (j+off)):=qq
theorem cc8(c sz r s off len tot:Nat):a6g c sz cf H (.own r s off len tot)=Ti r (off+len-1) c sz cf H:=qq
def a5t(r a c sz:Nat)(cf:List AV)(H:AH)(o:AObj)(e:List AV):Option AV->List AV×AH
 |some .emp=>(cf,H.set r (some (o.set a (e.set c (.own H.length sz 0 0 0))))++[some []])
 |_=>(cf,H)
def am3(r a c sz:Nat)(cf:List AV)(H:AH)(o:AObj):Option (List AV)->List AV×AH
 |some e=>a5t r a c sz cf H o e (e[c]?)
 |none=>(cf,H)
def b22(r a c sz:Nat)(cf:List AV)(H:AH):Option AObj->List AV×AH
 |some o=>am3 r a c sz cf H o (o[a]?)
 |none=>(cf,H)
theorem c6m(r a c sz:Nat):Ti r a c sz cf H=b22 r a c sz cf H (H.at r):=by
 unfold Ti b22;cases H.at r with
 |none=>rfl
 |some o=>
   simp only[am3];cases o[a]? with
   |none=>rfl
   |some e=>
     simp only[a5t];cases e[c]? with
     |none=>rfl
     |some x=>cases x<;>rfl
theorem c6q(r a c sz:Nat)(o:AObj):b22 r a c sz cf H (some o)=am3 r a c sz cf H o (o[a]?):=qq
theorem c6p(r a c sz:Nat)(o:AObj)(e:List AV):am3 r a c sz cf H o (some e)=a5t r a c sz cf H o e (e[c]?):=qq
theorem c6o(r a c sz:Nat)(o:AObj)(e:List AV):a5t r a c sz cf H o e (some .emp)=(cf,H.set r (some (o.set a (e.set c (.own H.length sz 0 0 0))))++[some []]):=qq
theorem c6n(r a c sz:Nat)(o:AObj)(e:List AV)(r' s o' l t:Nat):a5t r a c sz cf H o e (some (.own r' s o' l t))=(cf,H):=qq
end
section
variable (E:CallF) (N:Nat) (d:Option Nat) (e:SEnv) (H:AH) (op:AOp)
theorem ba2:sgG E N d e H op (some true)=Zu N d e (C7 E op (Ih N e) H):=qq
theorem ba3:sgG E N d e H op (some false)=some (G0 e d (.tuple []),H):=qq
end
def Rr(Q:R3->Prop)(P:List AV->AH->Prop):R3->Prop
 |some (.normal,c,G)=>P c G
 |r=>Q r
section
variable (Q:R3->Prop) (P:List AV->AH->Prop)
theorem ce6(c:List AV)(G:AH):Rr Q P (some (.normal,c,G))=P c G:=qq
theorem ce8(i:Nat)(c:List AV)(G:AH):Rr Q P (some (.exit i,c,G))=Q (some (.exit i,c,G)):=qq
theorem ce5(c:List AV)(G:AH):Rr Q P (some (.ret,c,G))=Q (some (.ret,c,G)):=qq
theorem ce7(q:Prop)[Decidable q](r r':R3):Rr Q P (if q then r else r')=((q->Rr Q P r)/\(¬ q->Rr Q P r')):=by by_cases h:q<;>simp[h]
end
end
section
def b0a(x:Option AObj)(y:Option AV):Option AV:=
 match x with
 |some _=>y
 |none=>none
theorem L1(o:AObj)(y:Option AV):b0a (some o) y=y:=qq
def Zs(H:AH)(sz:Nat)(ev:Opd->AV)(x:AV)(lo hi:Option Opd):Option AV:=
 match x with
 |.fz es=>
   match Bo ev hi es.length es.length with
   |some h=>
     match Bo ev lo 0 h with
     |some l=>if((es.take h).drop l).all (λe=>decide (e.length=sz))then some (.fz ((es.take h).drop l))else none
     |none=>none
   |none=>none
 |.emp=>
   match Bo ev hi 0 0 with
   |some _=>
     match Bo ev lo 0 0 with
     |some _=>some .emp
     |none=>none
   |none=>none
 |.own r sz' off len tot=>
   match Am H r tot with
   |some _=>
     if off<=tot/\sz'=sz then
      match Bo ev hi len (tot-off)with
      |some h=>
        match Bo ev lo 0 h with
        |some l=>
          if l=0 then some (.own r sz off h tot)
          else if h<=l then some (.fz [])
          else some (.own r sz (off+l) (h-l) tot)
        |none=>none
      |none=>none
     else none
   |none=>none
 |_=>none
theorem Kl(H:AH)(sz:Nat)(ev:Opd->AV)(r off len tot:Nat)(lo hi:Option Opd):Zs H sz ev (.own r sz off len tot) lo hi =
 b0a (Am H r tot) (if off<=tot then Qe (Bo ev hi len (tot-off)) λh=>Qe (Bo ev lo 0 h) λl=>if l=0 then some (.own r sz off h tot)else if h<=l then some (.fz [])else some (.own r sz (off+l) (h-l) tot)else none):=by
 simp only[Zs,b0a];cases Am H r tot with
 |none=>rfl
 |some o=>
   simp only[e82];by_cases h:off<=tot
   ·rw[if_pos h,if_pos h];cases Bo ev hi len (tot-off)with
    |none=>rfl
    |some h=>
      simp only[Qe];cases Bo ev lo 0 h<;>rfl
   ·rw[if_neg h,if_neg h]
theorem a3c(H:AH)(sz:Nat)(ev:Opd->AV)(es:List (List PV))(lo hi:Option Opd):Zs H sz ev (.fz es) lo hi =
 Qe (Bo ev hi es.length es.length) λh=>Qe (Bo ev lo 0 h) λl=>if((es.take h).drop l).all (λe=>decide (e.length=sz))=true then some (.fz ((es.take h).drop l))else none:=qq
section
variable {P:Program} (d:Option Nat) (rest:List AInstr) (K:List AV->AH->Prop) (fr:List AV) (H:AH)
end
section
variable {P:Program} {tab:List (List Nat)} (rest:List (Nat×AInstr)) (lg:List Hc) (K:List AV->AH->Prop) (fr:List AV) (H:AH) (d:Option Nat) (ii cc:Nat)
end
section
variable {P:Program} (d:Option Nat) (rest:List AInstr) (K:List AV->AH->Prop) (fr:List AV) (H:AH)
end
def clC(H:AH)(r off len tot:Nat)(zero:List AV):Option AObj->Option (AV×AH)
 |some o=>if off+len<=tot then some (.tuple [],H.set r (some (o.take off++List.replicate len zero++o.drop (off+len))))else none
 |none=>none
theorem e1w(H:AH)(r off len tot:Nat)(zero:List AV)(o:AObj):clC H r off len tot zero (some o)=if off+len<=tot then some (.tuple [],H.set r (some (o.take off++List.replicate len zero++o.drop (off+len))))else none:=qq
theorem e1s(H:AH)(sz:Nat)(zero:List AV)(r off len tot:Nat):a60 H sz zero (.own r sz off len tot)=clC H r off len tot zero (Am H r tot):=by
 simp only[a60,clC,e82];cases Am H r tot<;>rfl
section
variable {P:Program} (d:Option Nat) (cc:Nat) (fr:List AV) (H:AH) (K:List Loc->List Loc->Nat->List AV->AH->Prop)
end
def Om(c:Nat)(H:AH)(sz bytes r len:Nat)(news:List (List AV))(x:Option AObj)(K:Nat->AV->AH->Prop):Prop:=
 match x with
 |some o=>(news.all (λe=>decide (e.length=sz))=true/\(len+news.length)*bytes<=1000000000000/\len+news.length<=1000000000)/\r<c/\K r (.own r sz 0 (len+news.length) (len+news.length)) (H.set r (some (o++news)))
 |none=>False
end
theorem tw:type_of% @Kv/\type_of% @Kw/\type_of% @L5/\type_of% @L6/\type_of% @Mb/\type_of% @Ma/\type_of% @M9/\type_of% @N0/\type_of% @Mk/\type_of% @Mr/\type_of% @Mo/\type_of% @Mn/\type_of% @Mz/\type_of% @Mp/\type_of% @Mj/\type_of% @Mx/\type_of% @Mw/\type_of% @Mq/\type_of% @Ms/\type_of% @Mt/\type_of% @Mu/\type_of% @Mv/\type_of% @Mm/\type_of% @Ml/\type_of% @M8/\type_of% @Mi/\type_of% @Mh/\type_of% @Mc/\type_of% @Md/\type_of% @Me/\type_of% @Mf/\type_of% @Mg/\type_of% @Lu/\type_of% @K6/\type_of% @K7/\type_of% @K5/\type_of% @M4/\type_of% @M2/\type_of% @Kk/\type_of% @E8/\type_of% @E7/\type_of% @E9/\type_of% @Kz/\type_of% @L0/\type_of% @Lp/\type_of% @Lq/\type_of% @Lo/\type_of% @Lj/\type_of% @Lr/\type_of% @Lf/\type_of% @Lh/\type_of% @Jq/\type_of% @Lg/\type_of% @L9/\type_of% @Lb/\type_of% @Lk/\type_of% @Kr/\type_of% @M6/\type_of% @M7/\type_of% @Kc/\type_of% @Ke/\type_of% @Kd/\type_of% @M3/\type_of% @L8/\type_of% @Ez/\type_of% @F0/\type_of% @Kf/\type_of% @Kh/\type_of% @Ki/\type_of% @Kg/\type_of% @Lv/\type_of% @Lw/\type_of% @Jt/\type_of% @Lx/\type_of% @Lt/\type_of% @Kq/\type_of% @Ks/\type_of% @Lc/\type_of% @Ld/\type_of% @L4/\type_of% @L3/\type_of% @L2/\type_of% @N3/\type_of% @N7/\type_of% @N2/\type_of% @N4/\type_of% @N5/\type_of% @N6/\type_of% @N1/\type_of% @N8/\type_of% @a66/\type_of% @a6a/\type_of% @Vs/\type_of% @a6b/\type_of% @a6f/\type_of% @e4b/\type_of% @e49/\type_of% @e5u/\type_of% @e5b/\type_of% @e5c/\type_of% @e5w/\type_of% @e6f/\type_of% @e4w/\type_of% @e6z/\type_of% @e50/\type_of% @e6w/\type_of% @e62/\type_of% @e6k/\type_of% @e4x/\type_of% @e4z/\type_of% @e5i/\type_of% @e7a/\type_of% @e7s/\type_of% @e58/\type_of% @e6e/\type_of% @e4n/\type_of% @e5l/\type_of% @e65/\type_of% @e6l/\type_of% @List.isEmpty_nil.{0}/\type_of% @List.contains_cons.{0}/\type_of% @List.contains_nil.{0}/\type_of% @e6i/\type_of% @e75/\type_of% @e7k/\type_of% @e6h/\type_of% @e5y/\type_of% @if_true.{1}/\type_of% @if_false.{1}/\type_of% @ne_eq.{1}/\type_of% @eq_self.{1}/\type_of% @e5h/\type_of% @e52/\type_of% @e76/\type_of% @e6y/\type_of% @e7z/\type_of% @e7r/\type_of% @e82/\type_of% @e83/\type_of% @and_false/\type_of% @false_and/\type_of% @e5k/\type_of% @e5r/\type_of% @e7w/\type_of% @e7y/\type_of% @e5s/\type_of% @e7l/\type_of% @e7p/\type_of% @e78/\type_of% @e77/\type_of% @e70/\type_of% @e71/\type_of% @Bool.or_true/\type_of% @e7t/\type_of% @Bool.or_false/\type_of% @e7d/\type_of% @e72/\type_of% @e7e/\type_of% @e7c/\type_of% @and_self/\type_of% @b79/\type_of% @b7b/\type_of% @b7k/\type_of% @b7c/\type_of% @b7l/\type_of% @b7a/\type_of% @b7j/\type_of% @b7i/\type_of% @b7g/\type_of% @b7h/\type_of% @b7m/\type_of% @b7f/\type_of% @bq4/\type_of% @b8o/\type_of% @b8n/\type_of% @b8q/\type_of% @bn6/\type_of% @bn5/\type_of% @bn8/\type_of% @c31/\type_of% @c33/\type_of% @c34/\type_of% @c35/\type_of% @c30/\type_of% @b8p/\type_of% @bn7/\type_of% @b6a/\type_of% @b64/\type_of% @b65/\type_of% @b66/\type_of% @b6d/\type_of% @bs3/\type_of% @ba7/\type_of% @bp1/\type_of% @c7r/\type_of% @c7t/\type_of% @at5/\type_of% @at7/\type_of% @b6e/\type_of% @b6v/\type_of% @b6n/\type_of% @b74/\type_of% @b6g/\type_of% @b78/\type_of% @b6f/\type_of% @b6i/\type_of% @b6h/\type_of% @b77/\type_of% @b76/\type_of% @b75/\type_of% @b6k/\type_of% @b6j/\type_of% @b6u/\type_of% @b6l/\type_of% @b6m/\type_of% @b6t/\type_of% @b6q/\type_of% @b6p/\type_of% @b6r/\type_of% @b6s/\type_of% @b6w/\type_of% @b6o/\type_of% @b73/\type_of% @b72/\type_of% @b71/\type_of% @b70/\type_of% @b6z/\type_of% @b6y/\type_of% @b6x/\type_of% @ca9/\type_of% @cb1/\type_of% @bo4/\type_of% @bo6/\type_of% @cb2/\type_of% @bo7/\type_of% @cb3/\type_of% @bo8/\type_of% @c0d/\type_of% @c0e/\type_of% @c0c/\type_of% @ba8/\type_of% @bs4/\type_of% @bq5/\type_of% @bp2/\type_of% @c7s/\type_of% @c7u/\type_of% @c32/\type_of% @cb0/\type_of% @bo5/\type_of% @bc3/\type_of% @bc5/\type_of% @bc2/\type_of% @bc4/\type_of% @bx6/\type_of% @bx3/\type_of% @c6b/\type_of% @b7u/\type_of% @c6f/\type_of% @c6g/\type_of% @c6k/\type_of% @c6i/\type_of% @c6j/\type_of% @c6h/\type_of% @b7s/\type_of% @b6b/\type_of% @b67/\type_of% @b6c/\type_of% @b68/\type_of% @bp5/\type_of% @bp7/\type_of% @bp4/\type_of% @bp6/\type_of% @c41/\type_of% @c3y/\type_of% @c3z/\type_of% @bk8/\type_of% @bk6/\type_of% @bk7/\type_of% @c5u/\type_of% @c5v/\type_of% @bb6/\type_of% @bb7/\type_of% @cp8/\type_of% @cp6/\type_of% @ct1/\type_of% @cs7/\type_of% @cs5/\type_of% @cs6/\type_of% @cq3/\type_of% @cp1/\type_of% @cp7/\type_of% @cs9/\type_of% @cs8/\type_of% @cr5/\type_of% @cr3/\type_of% @cp0/\type_of% @cr9/\type_of% @cr8/\type_of% @cs0/\type_of% @cr7/\type_of% @cp9/\type_of% @cp3/\type_of% @cp4/\type_of% @cp2/\type_of% @cp5/\type_of% @cr1/\type_of% @cr0/\type_of% @cq9/\type_of% @cq8/\type_of% @cq6/\type_of% @cq7/\type_of% @cs2/\type_of% @c8t/\type_of% @c2y/\type_of% @cr2/\type_of% @cq5/\type_of% @cq4/\type_of% @ct0/\type_of% @cr6/\type_of% @cs1/\type_of% @cq1/\type_of% @cq2/\type_of% @cq0/\type_of% @cs4/\type_of% @cs3/\type_of% @c6s/\type_of% @cr4/\type_of% @bs0/\type_of% @ct9/\type_of% @ct5/\type_of% @cw0/\type_of% @cu4/\type_of% @ct7/\type_of% @cw2/\type_of% @cw1/\type_of% @cv5/\type_of% @cv4/\type_of% @ct3/\type_of% @cv7/\type_of% @cv8/\type_of% @cv6/\type_of% @ct4/\type_of% @cv2/\type_of% @cv1/\type_of% @cv0/\type_of% @cu9/\type_of% @cu7/\type_of% @cu8/\type_of% @cv9/\type_of% @cv3/\type_of% @cu6/\type_of% @cu5/\type_of% @cu2/\type_of% @cu3/\type_of% @cu1/\type_of% @bd5/\type_of% @bd6/\type_of% @bd7/\type_of% @c7j/\type_of% @c7h/\type_of% @Az/\type_of% @b23/\type_of% @c6r/\type_of% @Cx/\type_of% @P9/\type_of% @O5/\type_of% @b8g/\type_of% @an0/\type_of% @Ak/\type_of% @az2/\type_of% @Kn/\type_of% @c8h/\type_of% @bw0/\type_of% @b25/\type_of% @Bl/\type_of% @cf0/\type_of% @cf2/\type_of% @ce9/\type_of% @cf1/\type_of% @bh7/\type_of% @bh6/\type_of% @bi5/\type_of% @bh3/\type_of% @bh4/\type_of% @bi4/\type_of% @bh9/\type_of% @bh5/\type_of% @bi3/\type_of% @bh8/\type_of% @bi0/\type_of% @bi1/\type_of% @bi2/\type_of% @bh0/\type_of% @az0/\type_of% @c8d/\type_of% @c89/\type_of% @c8g/\type_of% @c8b/\type_of% @c8a/\type_of% @c8e/\type_of% @c8f/\type_of% @c8c/\type_of% @bt4/\type_of% @bt5/\type_of% @c8o/\type_of% @c8j/\type_of% @c8r/\type_of% @c8l/\type_of% @c8k/\type_of% @c8p/\type_of% @c8q/\type_of% @c8n/\type_of% @b7t/\type_of% @b80/\type_of% @b7x/\type_of% @b7y/\type_of% @b7z/\type_of% @bh1/\type_of% @bh2/\type_of% @bg3/\type_of% @bg4/\type_of% @bg8/\type_of% @bg9/\type_of% @az1/\type_of% @a04/\type_of% @bg7/\type_of% @bg6/\type_of% @bg5/\type_of% @bg2/\type_of% @F4/\type_of% @an2/\type_of% @c9d/\type_of% @c9c/\type_of% @c9b/\type_of% @c9f/\type_of% @c9e/\type_of% @c9g/\type_of% @c9h/\type_of% @b7q/\type_of% @b7p/\type_of% @c5k/\type_of% @c5q/\type_of% @c5s/\type_of% @c5p/\type_of% @c5o/\type_of% @c3j/\type_of% @c3k/\type_of% @c3b/\type_of% @c3c/\type_of% @c9j/\type_of% @c9k/\type_of% @au0/\type_of% @a2z/\type_of% @b87/\type_of% @a7t/\type_of% @a9g/\type_of% @a7s/\type_of% @b85/\type_of% @b84/\type_of% @b83/\type_of% @bt6/\type_of% @bt9/\type_of% @b8c/\type_of% @b88/\type_of% @b8f/\type_of% @b8d/\type_of% @b8e/\type_of% @b8b/\type_of% @b8a/\type_of% @b89/\type_of% @c4p/\type_of% @c4t/\type_of% @c4i/\type_of% @c4o/\type_of% @c4d/\type_of% @c4e/\type_of% @c4n/\type_of% @c4k/\type_of% @c4f/\type_of% @c4m/\type_of% @c4j/\type_of% @c4l/\type_of% @ak5/\type_of% @bu2/\type_of% @bu1/\type_of% @bu0/\type_of% @c4s/\type_of% @c4r/\type_of% @c4q/\type_of% @bd8/\type_of% @bd9/\type_of% @be0/\type_of% @bv7/\type_of% @bv8/\type_of% @c4v/\type_of% @c7y/\type_of% @c7x/\type_of% @bi7/\type_of% @bi6/\type_of% @b9b/\type_of% @ck4/\type_of% @cm9/\type_of% @cl1/\type_of% @ck5/\type_of% @cn3/\type_of% @cn2/\type_of% @cm2/\type_of% @cm1/\type_of% @cj9/\type_of% @cm5/\type_of% @cm6/\type_of% @cm3/\type_of% @ck2/\type_of% @cl9/\type_of% @cl8/\type_of% @cl7/\type_of% @cl6/\type_of% @cl4/\type_of% @cl5/\type_of% @cm7/\type_of% @cm0/\type_of% @cl3/\type_of% @cl2/\type_of% @ck9/\type_of% @cl0/\type_of% @ck6/\type_of% @ck8/\type_of% @ck3/\type_of% @ck1/\type_of% @cn5/\type_of% @cn1/\type_of% @cm4/\type_of% @ck7/\type_of% @cn0/\type_of% @cm8/\type_of% @c84/\type_of% @c81/\type_of% @c85/\type_of% @ct8/\type_of% @ct6/\type_of% @cu0/\type_of% @br3/\type_of% @br4/\type_of% @cf4/\type_of% @cf3/\type_of% @cf5/\type_of% @br1/\type_of% @br2/\type_of% @b9y/\type_of% @b9z/\type_of% @c46/\type_of% @c45/\type_of% @bl0/\type_of% @bk9/\type_of% @bv0/\type_of% @bv2/\type_of% @bv3/\type_of% @c5z/\type_of% @c60/\type_of% @co9/\type_of% @co8/\type_of% @co7/\type_of% @co6/\type_of% @co5/\type_of% @co4/\type_of% @co3/\type_of% @co2/\type_of% @co1/\type_of% @co0/\type_of% @cn8/\type_of% @b48/\type_of% @b47/\type_of% @ba4/\type_of% @ba5/\type_of% @ce3/\type_of% @ce4/\type_of% @cg4/\type_of% @cj1/\type_of% @ch1/\type_of% @cg5/\type_of% @cj5/\type_of% @cj4/\type_of% @ci2/\type_of% @ci1/\type_of% @cf8/\type_of% @ci6/\type_of% @ci7/\type_of% @ci4/\type_of% @cg1/\type_of% @ch9/\type_of% @ch8/\type_of% @ch7/\type_of% @ch6/\type_of% @ch4/\type_of% @ch5/\type_of% @ci9/\type_of% @ci0/\type_of% @ch3/\type_of% @ch2/\type_of% @cg9/\type_of% @ch0/\type_of% @cj7/\type_of% @cj3/\type_of% @cf9/\type_of% @ci5/\type_of% @cg7/\type_of% @cg2/\type_of% @cg0/\type_of% @cg3/\type_of% @cj6/\type_of% @ci3/\type_of% @ci8/\type_of% @cg6/\type_of% @cg8/\type_of% @cj0/\type_of% @cj2/\type_of% @ca1/\type_of% @b38/\type_of% @c9v/\type_of% @c9w/\type_of% @b9d/\type_of% @b9e/\type_of% @c1u/\type_of% @c0o/\type_of% @c1s/\type_of% @c0m/\type_of% @c2s/\type_of% @c1l/\type_of% @c2m/\type_of% @c1g/\type_of% @c2k/\type_of% @c1e/\type_of% @c2l/\type_of% @c1f/\type_of% @c1z/\type_of% @c0t/\type_of% @c1n/\type_of% @c0h/\type_of% @c1t/\type_of% @c0n/\type_of% @c2p/\type_of% @c1i/\type_of% @c2o/\type_of% @c1h/\type_of% @c2a/\type_of% @c14/\type_of% @c28/\type_of% @c12/\type_of% @c1m/\type_of% @c0g/\type_of% @c2e/\type_of% @c18/\type_of% @c2d/\type_of% @c17/\type_of% @c2f/\type_of% @c19/\type_of% @c2c/\type_of% @c16/\type_of% @c1v/\type_of% @c0p/\type_of% @c1p/\type_of% @c0j/\type_of% @c1q/\type_of% @c0k/\type_of% @c1o/\type_of% @c0i/\type_of% @c1r/\type_of% @c0l/\type_of% @c29/\type_of% @c13/\type_of% @c26/\type_of% @c10/\type_of% @c25/\type_of% @c0z/\type_of% @c24/\type_of% @c0y/\type_of% @c23/\type_of% @c0x/\type_of% @c21/\type_of% @c0v/\type_of% @c22/\type_of% @c0w/\type_of% @c2h/\type_of% @c1b/\type_of% @c27/\type_of% @c11/\type_of% @c20/\type_of% @c0u/\type_of% @c2r/\type_of% @c1k/\type_of% @c2b/\type_of% @c15/\type_of% @c2g/\type_of% @c1a/\type_of% @c1x/\type_of% @c0r/\type_of% @c1y/\type_of% @c0s/\type_of% @c1w/\type_of% @c0q/\type_of% @c2j/\type_of% @c1d/\type_of% @c2i/\type_of% @c1c/\type_of% @c2q/\type_of% @c1j/\type_of% @ck0/\type_of% @b96/\type_of% @b95/\type_of% @b94/\type_of% @cn4/\type_of% @c9z/\type_of% @ca0/\type_of% @ca5/\type_of% @ca3/\type_of% @c6e/\type_of% @c6c/\type_of% @b97/\type_of% @b98/\type_of% @b99/\type_of% @b9a/\type_of% @c8v/\type_of% @c7o/\type_of% @c7n/\type_of% @c7p/\type_of% @c7i/\type_of% @c7l/\type_of% @c7k/\type_of% @c7m/\type_of% @b5m/\type_of% @b5l/\type_of% @b54/\type_of% @b53/\type_of% @b52/\type_of% @b5t/\type_of% @b5n/\type_of% @b5k/\type_of% @b5q/\type_of% @b5o/\type_of% @b5p/\type_of% @b5s/\type_of% @b5i/\type_of% @b5j/\type_of% @b5d/\type_of% @b5a/\type_of% @b5g/\type_of% @b5e/\type_of% @b5f/\type_of% @as9/\type_of% @b5h/\type_of% @as8/\type_of% @b5c/\type_of% @b5b/\type_of% @b4j/\type_of% @b4i/\type_of% @b4k/\type_of% @b4l/\type_of% @b4h/\type_of% @b4n/\type_of% @b4m/\type_of% @b4c/\type_of% @b4b/\type_of% @b4d/\type_of% @b4e/\type_of% @b4a/\type_of% @b4g/\type_of% @b4f/\type_of% @c37/\type_of% @c38/\type_of% @c39/\type_of% @cb4/\type_of% @c68/\type_of% @c69/\type_of% @c67/\type_of% @c6a/\type_of% @c52/\type_of% @c50/\type_of% @c53/\type_of% @c54/\type_of% @c4z/\type_of% @c59/\type_of% @c5a/\type_of% @b55/\type_of% @b56/\type_of% @c80/\type_of% @c7z/\type_of% @c76/\type_of% @c6u/\type_of% @c7c/\type_of% @c77/\type_of% @c75/\type_of% @c7a/\type_of% @c78/\type_of% @c79/\type_of% @c7b/\type_of% @c72/\type_of% @c73/\type_of% @b2e/\type_of% @b2d/\type_of% @c71/\type_of% @c6z/\type_of% @c70/\type_of% @c56/\type_of% @c58/\type_of% @c55/\type_of% @c57/\type_of% @a9q/\type_of% @c2z/\type_of% @a8t/\type_of% @bj5/\type_of% @b8i/\type_of% @b8j/\type_of% @Sj/\type_of% @ba9/\type_of% @a8e/\type_of% @an6/\type_of% @Zo/\type_of% @bn1/\type_of% @bl8/\type_of% @c42/\type_of% @Nt/\type_of% @bl7/\type_of% @Nn/\type_of% @bf1/\type_of% @a3o/\type_of% @bf0/\type_of% @a03/\type_of% @be9/\type_of% @a3p/\type_of% @bf2/\type_of% @bf3/\type_of% @bf4/\type_of% @a8p/\type_of% @a02/\type_of% @bf5/\type_of% @X9/\type_of% @Xa/\type_of% @ay6/\type_of% @ay4/\type_of% @ay5/\type_of% @bg1/\type_of% @Sp/\type_of% @bf9/\type_of% @bf8/\type_of% @bf7/\type_of% @bw1/\type_of% @c5n/\type_of% @c5j/\type_of% @c5i/\type_of% @c3f/\type_of% @c3d/\type_of% @c3e/\type_of% @a8l/\type_of% @bd3/\type_of% @bd2/\type_of% @bd1/\type_of% @bd0/\type_of% @bc9/\type_of% @bc8/\type_of% @bc7/\type_of% @bc6/\type_of% @ak6/\type_of% @c4x/\type_of% @c5r/\type_of% @c5m/\type_of% @c5l/\type_of% @b7e/\type_of% @b62/\type_of% @b7n/\type_of% @cc4/\type_of% @cc3/\type_of% @cc6/\type_of% @cc5/\type_of% @br8/\type_of% @cb9/\type_of% @cc0/\type_of% @cc1/\type_of% @cd1/\type_of% @cd0/\type_of% @c4b/\type_of% @c8i/\type_of% @cd4/\type_of% @cd3/\type_of% @cd2/\type_of% @cc9/\type_of% @c4a/\type_of% @c48/\type_of% @cd5/\type_of% @cc7/\type_of% @cc8/\type_of% @c6m/\type_of% @c6q/\type_of% @c6p/\type_of% @c6o/\type_of% @c6n/\type_of% @ba2/\type_of% @ba3/\type_of% @ce6/\type_of% @ce8/\type_of% @ce5/\type_of% @ce7/\type_of% @b7d/\type_of% @bm1/\type_of% @emb.eq_1/\type_of% @emb.eq_2/\type_of% @emb.eq_3/\type_of% @emb.eq_4/\type_of% @emb.eq_5/\type_of% @emb.eq_6/\type_of% @emb.eq_7/\type_of% @emb.eq_8/\type_of% @emb.eq_9/\type_of% @Du.eq_1/\type_of% @Ea.eq_1/\type_of% @F8.eq_1/\type_of% @F8.eq_2/\type_of% @Fx.eq_1/\type_of% @Fx.eq_2/\type_of% @Gk.eq_1/\type_of% @Gk.eq_2/\type_of% @cellsOf.eq_1/\type_of% @cellsOf.eq_2/\type_of% @cellsOf.eq_3/\type_of% @cellsOf.eq_4/\type_of% @cellA.eq_1/\type_of% @cellA.eq_2/\type_of% @cellA.eq_3/\type_of% @cellA.eq_4/\type_of% @lay.eq_1/\type_of% @Ch.eq_1/\type_of% @Ch.eq_2/\type_of% @Aa.eq_1/\type_of% @Aa.eq_2/\type_of% @chunks.eq_1/\type_of% @chunks.eq_2/\type_of% @B3.eq_1/\type_of% @B3.eq_2/\type_of% @cn6:=
 ⟨@Kv,@Kw,@L5,@L6,@Mb,@Ma,@M9,@N0,@Mk,@Mr,@Mo,@Mn,@Mz,@Mp,@Mj,@Mx,@Mw,@Mq,@Ms,@Mt,@Mu,@Mv,@Mm,@Ml,@M8,@Mi,@Mh,@Mc,@Md,@Me,@Mf,@Mg,@Lu,@K6,@K7,@K5,@M4,@M2,@Kk,@E8,@E7,@E9,@Kz,@L0,@Lp,@Lq,@Lo,@Lj,@Lr,@Lf,@Lh,@Jq,@Lg,@L9,@Lb,@Lk,@Kr,@M6,@M7,@Kc,@Ke,@Kd,@M3,@L8,@Ez,@F0,@Kf,@Kh,@Ki,@Kg,@Lv,@Lw,@Jt,@Lx,@Lt,@Kq,@Ks,@Lc,@Ld,@L4,@L3,@L2,@N3,@N7,@N2,@N4,@N5,@N6,@N1,@N8,@a66,@a6a,@Vs,@a6b,@a6f,@e4b,@e49,@e5u,@e5b,@e5c,@e5w,@e6f,@e4w,@e6z,@e50,@e6w,@e62,@e6k,@e4x,@e4z,@e5i,@e7a,@e7s,@e58,@e6e,@e4n,@e5l,@e65,@e6l,@List.isEmpty_nil.{0},@List.contains_cons.{0},@List.contains_nil.{0},@e6i,@e75,@e7k,@e6h,@e5y,@if_true.{1},@if_false.{1},@ne_eq.{1},@eq_self.{1},@e5h,@e52,@e76,@e6y,@e7z,@e7r,@e82,@e83,@and_false,@false_and,@e5k,@e5r,@e7w,@e7y,@e5s,@e7l,@e7p,@e78,@e77,@e70,@e71,@Bool.or_true,@e7t,@Bool.or_false,@e7d,@e72,@e7e,@e7c,@and_self,@b79,@b7b,@b7k,@b7c,@b7l,@b7a,@b7j,@b7i,@b7g,@b7h,@b7m,@b7f,@bq4,@b8o,@b8n,@b8q,@bn6,@bn5,@bn8,@c31,@c33,@c34,@c35,@c30,@b8p,@bn7,@b6a,@b64,@b65,@b66,@b6d,@bs3,@ba7,@bp1,@c7r,@c7t,@at5,@at7,@b6e,@b6v,@b6n,@b74,@b6g,@b78,@b6f,@b6i,@b6h,@b77,@b76,@b75,@b6k,@b6j,@b6u,@b6l,@b6m,@b6t,@b6q,@b6p,@b6r,@b6s,@b6w,@b6o,@b73,@b72,@b71,@b70,@b6z,@b6y,@b6x,@ca9,@cb1,@bo4,@bo6,@cb2,@bo7,@cb3,@bo8,@c0d,@c0e,@c0c,@ba8,@bs4,@bq5,@bp2,@c7s,@c7u,@c32,@cb0,@bo5,@bc3,@bc5,@bc2,@bc4,@bx6,@bx3,@c6b,@b7u,@c6f,@c6g,@c6k,@c6i,@c6j,@c6h,@b7s,@b6b,@b67,@b6c,@b68,@bp5,@bp7,@bp4,@bp6,@c41,@c3y,@c3z,@bk8,@bk6,@bk7,@c5u,@c5v,@bb6,@bb7,@cp8,@cp6,@ct1,@cs7,@cs5,@cs6,@cq3,@cp1,@cp7,@cs9,@cs8,@cr5,@cr3,@cp0,@cr9,@cr8,@cs0,@cr7,@cp9,@cp3,@cp4,@cp2,@cp5,@cr1,@cr0,@cq9,@cq8,@cq6,@cq7,@cs2,@c8t,@c2y,@cr2,@cq5,@cq4,@ct0,@cr6,@cs1,@cq1,@cq2,@cq0,@cs4,@cs3,@c6s,@cr4,@bs0,@ct9,@ct5,@cw0,@cu4,@ct7,@cw2,@cw1,@cv5,@cv4,@ct3,@cv7,@cv8,@cv6,@ct4,@cv2,@cv1,@cv0,@cu9,@cu7,@cu8,@cv9,@cv3,@cu6,@cu5,@cu2,@cu3,@cu1,@bd5,@bd6,@bd7,@c7j,@c7h,@Az,@b23,@c6r,@Cx,@P9,@O5,@b8g,@an0,@Ak,@az2,@Kn,@c8h,@bw0,@b25,@Bl,@cf0,@cf2,@ce9,@cf1,@bh7,@bh6,@bi5,@bh3,@bh4,@bi4,@bh9,@bh5,@bi3,@bh8,@bi0,@bi1,@bi2,@bh0,@az0,@c8d,@c89,@c8g,@c8b,@c8a,@c8e,@c8f,@c8c,@bt4,@bt5,@c8o,@c8j,@c8r,@c8l,@c8k,@c8p,@c8q,@c8n,@b7t,@b80,@b7x,@b7y,@b7z,@bh1,@bh2,@bg3,@bg4,@bg8,@bg9,@az1,@a04,@bg7,@bg6,@bg5,@bg2,@F4,@an2,@c9d,@c9c,@c9b,@c9f,@c9e,@c9g,@c9h,@b7q,@b7p,@c5k,@c5q,@c5s,@c5p,@c5o,@c3j,@c3k,@c3b,@c3c,@c9j,@c9k,@au0,@a2z,@b87,@a7t,@a9g,@a7s,@b85,@b84,@b83,@bt6,@bt9,@b8c,@b88,@b8f,@b8d,@b8e,@b8b,@b8a,@b89,@c4p,@c4t,@c4i,@c4o,@c4d,@c4e,@c4n,@c4k,@c4f,@c4m,@c4j,@c4l,@ak5,@bu2,@bu1,@bu0,@c4s,@c4r,@c4q,@bd8,@bd9,@be0,@bv7,@bv8,@c4v,@c7y,@c7x,@bi7,@bi6,@b9b,@ck4,@cm9,@cl1,@ck5,@cn3,@cn2,@cm2,@cm1,@cj9,@cm5,@cm6,@cm3,@ck2,@cl9,@cl8,@cl7,@cl6,@cl4,@cl5,@cm7,@cm0,@cl3,@cl2,@ck9,@cl0,@ck6,@ck8,@ck3,@ck1,@cn5,@cn1,@cm4,@ck7,@cn0,@cm8,@c84,@c81,@c85,@ct8,@ct6,@cu0,@br3,@br4,@cf4,@cf3,@cf5,@br1,@br2,@b9y,@b9z,@c46,@c45,@bl0,@bk9,@bv0,@bv2,@bv3,@c5z,@c60,@co9,@co8,@co7,@co6,@co5,@co4,@co3,@co2,@co1,@co0,@cn8,@b48,@b47,@ba4,@ba5,@ce3,@ce4,@cg4,@cj1,@ch1,@cg5,@cj5,@cj4,@ci2,@ci1,@cf8,@ci6,@ci7,@ci4,@cg1,@ch9,@ch8,@ch7,@ch6,@ch4,@ch5,@ci9,@ci0,@ch3,@ch2,@cg9,@ch0,@cj7,@cj3,@cf9,@ci5,@cg7,@cg2,@cg0,@cg3,@cj6,@ci3,@ci8,@cg6,@cg8,@cj0,@cj2,@ca1,@b38,@c9v,@c9w,@b9d,@b9e,@c1u,@c0o,@c1s,@c0m,@c2s,@c1l,@c2m,@c1g,@c2k,@c1e,@c2l,@c1f,@c1z,@c0t,@c1n,@c0h,@c1t,@c0n,@c2p,@c1i,@c2o,@c1h,@c2a,@c14,@c28,@c12,@c1m,@c0g,@c2e,@c18,@c2d,@c17,@c2f,@c19,@c2c,@c16,@c1v,@c0p,@c1p,@c0j,@c1q,@c0k,@c1o,@c0i,@c1r,@c0l,@c29,@c13,@c26,@c10,@c25,@c0z,@c24,@c0y,@c23,@c0x,@c21,@c0v,@c22,@c0w,@c2h,@c1b,@c27,@c11,@c20,@c0u,@c2r,@c1k,@c2b,@c15,@c2g,@c1a,@c1x,@c0r,@c1y,@c0s,@c1w,@c0q,@c2j,@c1d,@c2i,@c1c,@c2q,@c1j,@ck0,@b96,@b95,@b94,@cn4,@c9z,@ca0,@ca5,@ca3,@c6e,@c6c,@b97,@b98,@b99,@b9a,@c8v,@c7o,@c7n,@c7p,@c7i,@c7l,@c7k,@c7m,@b5m,@b5l,@b54,@b53,@b52,@b5t,@b5n,@b5k,@b5q,@b5o,@b5p,@b5s,@b5i,@b5j,@b5d,@b5a,@b5g,@b5e,@b5f,@as9,@b5h,@as8,@b5c,@b5b,@b4j,@b4i,@b4k,@b4l,@b4h,@b4n,@b4m,@b4c,@b4b,@b4d,@b4e,@b4a,@b4g,@b4f,@c37,@c38,@c39,@cb4,@c68,@c69,@c67,@c6a,@c52,@c50,@c53,@c54,@c4z,@c59,@c5a,@b55,@b56,@c80,@c7z,@c76,@c6u,@c7c,@c77,@c75,@c7a,@c78,@c79,@c7b,@c72,@c73,@b2e,@b2d,@c71,@c6z,@c70,@c56,@c58,@c55,@c57,@a9q,@c2z,@a8t,@bj5,@b8i,@b8j,@Sj,@ba9,@a8e,@an6,@Zo,@bn1,@bl8,@c42,@Nt,@bl7,@Nn,@bf1,@a3o,@bf0,@a03,@be9,@a3p,@bf2,@bf3,@bf4,@a8p,@a02,@bf5,@X9,@Xa,@ay6,@ay4,@ay5,@bg1,@Sp,@bf9,@bf8,@bf7,@bw1,@c5n,@c5j,@c5i,@c3f,@c3d,@c3e,@a8l,@bd3,@bd2,@bd1,@bd0,@bc9,@bc8,@bc7,@bc6,@ak6,@c4x,@c5r,@c5m,@c5l,@b7e,@b62,@b7n,@cc4,@cc3,@cc6,@cc5,@br8,@cb9,@cc0,@cc1,@cd1,@cd0,@c4b,@c8i,@cd4,@cd3,@cd2,@cc9,@c4a,@c48,@cd5,@cc7,@cc8,@c6m,@c6q,@c6p,@c6o,@c6n,@ba2,@ba3,@ce6,@ce8,@ce5,@ce7,@b7d,@bm1,@emb.eq_1,@emb.eq_2,@emb.eq_3,@emb.eq_4,@emb.eq_5,@emb.eq_6,@emb.eq_7,@emb.eq_8,@emb.eq_9,@Du.eq_1,@Ea.eq_1,@F8.eq_1,@F8.eq_2,@Fx.eq_1,@Fx.eq_2,@Gk.eq_1,@Gk.eq_2,@cellsOf.eq_1,@cellsOf.eq_2,@cellsOf.eq_3,@cellsOf.eq_4,@cellA.eq_1,@cellA.eq_2,@cellA.eq_3,@cellA.eq_4,@lay.eq_1,@Ch.eq_1,@Ch.eq_2,@Aa.eq_1,@Aa.eq_2,@chunks.eq_1,@chunks.eq_2,@B3.eq_1,@B3.eq_2,@cn6⟩
abbrev ts:=tA @tw<|tA @itP<|tA @itN<|tA @Z0.eq_1<|tA @Z1.eq_1<|tA @Z2.eq_1<|tA @Z3.eq_1<|tA @Z4.eq_1<|tA @Z5.eq_1<|tA @Z6.eq_1<|tA @Z7.eq_1<|tA @Z8.eq_1<|tA @Z9.eq_1<|tA @Yi.eq_1<|tA @Pd.eq_1<|tA @Z12.eq_1<|tA @Fj.eq_1<|tA @J9.eq_1<|tA @Z15.eq_1<|tA @Z16.eq_1<|tA @Vv.eq_1<|tA @W0.eq_1<|tA @W1.eq_1<|tA @W2.eq_1<|tA @W3.eq_1<|tA @W4.eq_1<|tA @Jb.eq_1<|tA @W5.eq_1<|tA @W6.eq_1<|tA @Vx.eq_1<|tA @Gi.eq_1<|tA @R7.eq_1<|tA @W8.eq_1<|tA @O9.eq_1<|tA @aq5.eq_1<|tA @W40.eq_1<|tA @a6w.eq_1<|tA @W36.eq_1<|tA @W7.eq_1<|tA @W9.eq_1<|tA @Pm.eq_1<|tA @Im.eq_1<|tA @Yz.eq_1<|tA @Pk.eq_1<|tA @Hb.eq_1<|tA @R6.eq_1<|tA @U3.eq_1<|tA @Jc.eq_1<|tA @Fk.eq_1<|tA @a6t.eq_1<|tA @R4.eq_1<|tA @W19.eq_1<|tA @Yt.eq_1<|tA @R5.eq_1<|tA @Wf.eq_1<|tA @Wd.eq_1<|tA @U2.eq_1<|tA @W25.eq_1<|tA @W26.eq_1<|tA @K2.eq_1<|tA @K1.eq_1<|tA @U1.eq_1<|tA @Se.eq_1<|tA @Wc.eq_1<|tA @W37.eq_1<|tA @Ja.eq_1<|tA @R2.eq_1<|tA @W42.eq_1<|tA @W43.eq_1<|tA @R1.eq_1<|tA @W45.eq_1<|tA @W46.eq_1<|tA @Ys.eq_1<|tA @W48.eq_1<|tA @W49.eq_1<|tA @R0.eq_1<|tA @Yr.eq_1<|tA @W52.eq_1<|tA @Sd.eq_1<|tA @U0.eq_1<|tA @W55.eq_1<|tA @W56.eq_1<|tA @Jz.eq_1<|tA @W58.eq_1<|tA @aq9.eq_1<|tA @W59.eq_1<|tA @Pj.eq_1<|tA @W61.eq_1<|tA @Wb.eq_1<|tA @W63.eq_1<|tA @W64.eq_1<|tA @Tz.eq_1<|tA @Tx.eq_1<|tA @Tw.eq_1<|tA @Tv.eq_1<|tA @Qz.eq_1<|tA @Yq.eq_1<|tA @Wa.eq_1<|tA @Yp.eq_1<|tA @W73.eq_1<|tA @W74.eq_1<|tA @Yo.eq_1<|tA @Vz.eq_1<|tA @W77.eq_1<|tA @Vy.eq_1<|tA @W79.eq_1<|tA @W80.eq_1<|tA @Yn.eq_1<|tA @W83.eq_1<|tA @W84.eq_1<|tA @W85.eq_1<|tA @W86.eq_1<|tA @W87.eq_1<|tA @W88.eq_1<|tA @W89.eq_1<|tA @W90.eq_1<|tA @Ym.eq_1<|tA @Yl.eq_1<|tA @Yk.eq_1<|tA @Yj.eq_1<|tA @W95.eq_1<|tA @W96.eq_1<|tA @Vw.eq_1<|tA @W98.eq_1<|tA @W99.eq_1<|tA @Wi.eq_1<|tA @Wh.eq_1<|tA @Za.eq_1<|tA @a2n.eq_1<|tA @a2m.eq_1<|tA @aq8.eq_1<|tA @aq7.eq_1<|tA @aq6.eq_1<|tA @a2l.eq_1<|tA @b3w.eq_1<|tA @b3v.eq_1<|tA @a78.eq_1<|tA @Pl.eq_1<|tA @a77.eq_1<|tA @a74.eq_1<|tA @aq4.eq_1<|tA @aq3.eq_1<|tA @a73.eq_1<|tA @a2k.eq_1<|tA @a2j.eq_1<|tA @a2i.eq_1<|tA @Wg.eq_1<|tA @a71.eq_1<|tA @aq2.eq_1<|tA @aq1.eq_1<|tA @a6z.eq_1<|tA @a6y.eq_1<|tA @b3u.eq_1<|tA @aq0.eq_1<|tA @b3t.eq_1<|tA @Yy.eq_1<|tA @ap9.eq_1<|tA @b3s.eq_1<|tA @Yx.eq_1<|tA @Yw.eq_1<|tA @ap8.eq_1<|tA @U4.eq_1<|tA @b3r.eq_1<|tA @a6x.eq_1<|tA @b3q.eq_1<|tA @a6v.eq_1<|tA @a6u.eq_1<|tA @Yv.eq_1<| @Yu.eq_1
theorem t0:type_of% ts:=ts
def g3:FT:=⟨0,238,[.tmp 0],[0,1,2,4,6,8,9,10,11,13,14,15,16,17,18,19,20,21,24,26,27,28,29,30,31,32,33,34,35,36,37,38,39,40,43,44,45,47,48,49,50,51,52,54,57,58,88,96],true,(.seq W64 (.seq (.ifc 22 [] (no (Ye 4)) (.seq W64 .ret) .skip) (.seq (.reg 25 [m 18 (.op (.call 5 [a2n,(.c (.int .i64 9))]) []),p 19 (ex 0 (d 18)),p 20 (ex 1 (d 18)),p 1 Hb,s 41 (d 1) (d 19),m 2 (d 20)]) (.seq (.reg 3 [p 22 (.op (.call 5 [(.c (.int .i64 241)),(.c (.int .i64 9))]) []),m 21 (d 22),p 23 (ex 0 (d 21)),p 24 (ex 1 (d 21)),s 41 Hb (d 23),m 3 (d 24)]) (.seq (.reg 5 [p 26 (.op (.call 5 [a2n,(.c (.int .i64 (-1)))]) []),m 25 (d 26),p 27 (ex 0 (d 25)),p 28 (ex 1 (d 25)),s 41 Hb (d 27),m 4 (d 28)]) (.seq (.reg 7 [p 30 (.op (.call 5 [a2n,(.c (.int .i64 1073741825))]) []),m 29 (d 30),p 31 (ex 0 (d 29)),p 32 (ex 1 (d 29)),s 41 Hb (d 31),m 5 (d 32)]) (.seq (.reg 41 [m 33 (.op (.call 6 [(.t 0),K2]) [Qz]),p 34 (ex 0 (d 33)),p 35 (ex 1 (d 33)),p 6 Hb,s 41 (d 6) (d 34),m 7 (d 35)]) (.seq (.reg 0 [p 36 Qz,p 8 Hb,s 41 (d 8) (d 36)]) (.seq (.reg 46 [e (.store 1 (.t 0) (.c (.int .i64 1073741824))) [(fa 38 (d 8))]]) (.seq (.reg 12 [p 38 (la 41 (d 8)),p 39 (.op (.call 6 [(.t 0),K2]) [(d 38)]),m 37 (d 39),p 40 (ex 0 (d 37)),p 41 (ex 1 (d 37)),s 41 Hb (d 40),m 9 (d 41)]) (.seq (.reg 0 [p 42 Qz,p 10 Hb,s 41 (d 10) (d 42)]) (.seq (.reg 53 [e (.store 1 (.t 0) (.c (.emp))) [(fa 39 (d 10))]]) (.seq (.reg 55 [m 43 (.op (.call 6 [(.t 0),K2]) [(la 41 (d 10))]),p 44 (ex 0 (d 43)),p 45 (ex 1 (d 43)),p 11 Hb,s 41 (d 11) (d 44),m 12 (d 45)]) (.seq (.ifc 59 [] (.or (.or (.or (bk .neq 68 (ln Pj)) (bk .neq 1 (ln a6v))) (bk .neq 1 (ln (ld (fa 0 (fa 33 (d 1))))))) (bk .neq 1 (ln (ld (fa 1 (fa 33 (d 6))))))) (.seq W64 .ret) .skip) (.seq (.seq (.reg 0 [z 13 0]) (.block 0 (.loop [1,2,3,4,5,6,7,9,11,12,13] [] (.seq (.ifc 84 [] (bk .lss 4 (v 13)) .skip W8) (.seq (.block 1 (.seq (.rawE [[(0,I6 89 0 1),(1,I1 90 (.load true 5 (.t 89))),(2,I0 91 17),(3,I1 92 (.call 8 [(KI 40),(.t 91)]))],[(4,I1 93 (.call 7 [(.t 90),(.t 92)]))],[(5,I0 88 93)],[(6,I8 94 88 0),(7,I8 95 88 1),(8,I0 18 94)],[(9,I0 19 95)]] (bm [0,1,0,4,15,31,63,63,127,511])) (.seq (.rawE [[(0,I6 97 0 1),(1,I6 98 0 97),(2,I7 99 98),(3,I0 100 17),(11,I1 20 (.alloc Z1)),(4,I1 101 (.call 10 [(KI 40),(.t 100),(KI 1)])),(5,I1 102 (.iaddr 1 (.t 99) (.t 101))),(6,I7 103 102),(7,I1 104 (.call 9 [(.t 103)])),(8,I0 96 104),(9,I8 105 96 0),(10,I8 106 96 1),(12,I9 9 20 105)],[(13,I0 21 106)]] (bm [0,1,3,0,8,31,63,127,255,511,511,0,3071,8191])) (.ifc 107 [] (.or (.or (.or (.or (bs .neq (v 14) (.op (.call 11 [(.c (.int .i64 9)),a2n]) [])) (no (v 17))) (bk .neq 1 (ld (fa 0 (d 16))))) (bk .neq 9 (ld (fa 1 (d 16))))) (.op Yt [(la 6 (fa 3 (d 16))),(la 6 (fa 5 (d 1)))])) (.seq W64 .ret) .skip)))) (.reg 86 [m 13 (bk .add 1 (v 13))])))))) (.seq (.rawE [[(0,I0 131 2)],[(1,I0 132 131)],[(2,I4 133 132 4)],[(3,I2 134 132 (.un .not (.t 133)))],[(4,I1 135 (.pick (.t 132) (.t 134) W9))],[(5,I0 136 135)],[(6,I4 137 136 6)],[(7,I2 138 136 (.un .not (.t 137)))],[(8,I1 139 (.pick (.t 136) (.t 138) W9))],[(9,I0 140 139)],[(10,I4 141 140 8)],[(11,I2 142 140 (.un .not (.t 141)))],[(12,I1 143 (.pick (.t 140) (.t 142) W9))],[(13,I0 144 143)],[(14,I2 145 144 (.faddr 33 (.t 1))),(15,I2 146 144 (.faddr 0 (.t 145))),(16,I2 147 144 (.load false 1 (.t 146))),(17,I2 148 144 (.iaddr 2 (.t 147) (KI 0))),(18,I2 149 144 (.load true 2 (.t 148))),(19,I2 150 144 (.build Z2 [(0,1,(KI 14)),(1,1,(KI 19))]))],[(20,I2 151 144 (.eqs false [.i,.i] (.t 149) (.t 150)))],[(21,I1 152 (.pick (.t 144) (.t 151) W9))],[(22,I0 153 152)],[(23,I2 154 153 (.faddr 5 (.t 1)))],[(24,I2 155 153 (.faddr 0 (.t 154)))],[(25,I2 156 153 (.load false 1 (.t 155)))],[(26,I2 157 153 (.bini .eql (.t 156) (KI 18)))],[(27,I1 158 (.pick (.t 153) (.t 157) W9))],[(28,I0 159 158)],[(29,I2 160 159 (.faddr 11 (.t 1)))],[(30,I2 161 159 (.faddr 1 (.t 160)))],[(31,I2 162 159 (.load false 1 (.t 161)))],[(32,I2 163 159 (.bini .eql (.t 162) (KI 2)))],[(33,I1 164 (.pick (.t 159) (.t 163) W9))],[(34,I0 165 164)],[(35,I2 166 165 (.faddr 11 (.t 1)))],[(36,I2 167 165 (.faddr 2 (.t 166)))],[(37,I2 168 165 (.load false 1 (.t 167)))],[(38,I2 169 165 (.bini .eql (.t 168) (KI 9)))],[(39,I1 170 (.pick (.t 165) (.t 169) W9))],[(40,I0 171 170)],[(41,I2 172 171 (.faddr 39 (.t 1)))],[(42,I2 173 171 (.load false 1 (.t 172)))],[(43,I2 174 171 (.iaddr 5 (.t 173) (KI 0)))],[(44,I2 175 171 (.faddr 0 (.t 174)))],[(45,I2 176 171 (.load false 1 (.t 175)))],[(46,I2 177 171 (.bini .eql (.t 176) (KI 1)))],[(47,I1 178 (.pick (.t 171) (.t 177) W9))],[(48,I0 179 178)],[(49,I2 180 179 (.faddr 39 (.t 1))),(50,I2 181 179 (.load false 1 (.t 180))),(51,I2 182 179 (.iaddr 5 (.t 181) (KI 0))),(52,I2 183 179 (.faddr 4 (.t 182))),(53,I2 184 179 (.load false 1 (.t 183))),(54,I2 185 179 (.call 13 []))],[(55,I2 186 179 (.call 12 [(.t 184),(.t 185)]))],[(56,I1 187 (.pick (.t 179) (.t 186) W9))],[(57,I0 188 187)],[(58,I2 189 188 (.faddr 0 (.t 1)))],[(59,I2 190 188 (.faddr 1 (.t 189)))],[(60,I2 191 188 (.load false 1 (.t 190)))],[(61,I2 192 188 (.len false (.t 191)))],[(62,I2 193 188 (.bini .eql (.t 192) (KI 0)))],[(63,I1 194 (.pick (.t 188) (.t 193) W9))],[(64,I0 195 194)],[(65,I4 196 195 10)],[(66,I2 197 195 (.bini .eql (.t 196) (KI 0)))],[(67,I1 198 (.pick (.t 195) (.t 197) W9))],[(68,I0 199 198)],[(69,I2 200 199 (.faddr 33 (.t 9))),(70,I2 201 199 (.faddr 1 (.t 200))),(71,I2 202 199 (.load false 1 (.t 201))),(72,I2 203 199 (.iaddr 2 (.t 202) (KI 0))),(73,I2 204 199 (.load true 2 (.t 203))),(74,I2 205 199 (.build Z2 [(0,1,(KI 16)),(1,1,(KI 19))]))],[(75,I2 206 199 (.eqs false [.i,.i] (.t 204) (.t 205)))],[(76,I1 207 (.pick (.t 199) (.t 206) W9))],[(77,I0 208 207)],[(78,I2 209 208 (.faddr 5 (.t 9)))],[(79,I2 210 208 (.faddr 0 (.t 209)))],[(80,I2 211 208 (.load false 1 (.t 210)))],[(81,I2 212 208 (.bini .eql (.t 211) (KI 21)))],[(82,I1 213 (.pick (.t 208) (.t 212) W9))],[(83,I0 214 213)],[(84,I2 215 214 (.load true 41 (.t 9)))],[(85,I2 216 214 (.call 14 [(.t 215)]))],[(86,I2 217 214 (.bini .eql (.t 216) (KI 32)))],[(87,I1 218 (.pick (.t 214) (.t 217) W9))],[(88,I0 219 218)],[(89,I4 220 219 13)],[(90,I2 221 219 (.bini .eql (.t 220) (KI 8)))],[(91,I1 222 (.pick (.t 219) (.t 221) W9))],[(92,I0 223 222)],[(93,I4 224 223 16)],[(94,I2 225 223 (.bini .eql (.t 224) (KI 0)))],[(95,I1 226 (.pick (.t 223) (.t 225) W9))],[(96,I0 227 226)],[(97,I2 228 227 (.faddr 39 (.t 15)))],[(98,I2 229 227 (.load false 1 (.t 228)))],[(99,I2 230 227 (.len false (.t 229)))],[(100,I2 231 227 (.bini .eql (.t 230) (KI 0)))],[(101,I1 232 (.pick (.t 227) (.t 231) W9))],[(102,I0 233 232)],[(103,I2 234 233 (.load true 41 (.t 15)))],[(104,I2 235 233 (.call 14 [(.t 234)]))],[(105,I2 236 233 (.bini .eql (.t 235) (KI 32)))],[(106,I1 237 (.pick (.t 233) (.t 236) W9))],[(107,I0 0 237)]] (bm [0,1,3,7,15,31,63,127,255,511,1023,2047,4095,8191,16383,32767,65535,131071,262143,16383,1048575,2097151,4194303,8388607,16777215,33554431,67108863,134217727,268435455,536870911,1073741823,2147483647,4294967295,8589934591,17179869183,34359738367,68719476735,137438953471,274877906943,549755813887,1099511627775,2199023255551,4398046511103,8796093022207,17592186044415,35184372088831,70368744177663,140737488355327,281474976710655,562949953421311,1125899906842623,2251799813685247,4503599627370495,9007199254740991,562949953421311,36028797018963967,72057594037927935,144115188075855871,288230376151711743,576460752303423487,1152921504606846975,2305843009213693951,4611686018427387903,9223372036854775807,18446744073709551615,36893488147419103231,73786976294838206463,147573952589676412927,295147905179352825855,590295810358705651711,1180591620717411303423,2361183241434822606847,4722366482869645213695,9444732965739290427391,590295810358705651711,37778931862957161709567,75557863725914323419135,151115727451828646838271,302231454903657293676543,604462909807314587353087,1208925819614629174706175,2417851639229258349412351,4835703278458516698824703,9671406556917033397649407,19342813113834066795298815,38685626227668133590597631,77371252455336267181195263,154742504910672534362390527,309485009821345068724781055,618970019642690137449562111,1237940039285380274899124223,2475880078570760549798248447,4951760157141521099596496895,9903520314283042199192993791,19807040628566084398385987583,39614081257132168796771975167,79228162514264337593543950335,158456325028528675187087900671,316912650057057350374175801343,633825300114114700748351602687,1267650600228229401496703205375,2535301200456458802993406410751,5070602400912917605986812821503,10141204801825835211973625643007,20282409603651670423947251286015,40564819207303340847894502572031,81129638414606681695789005144063,162259276829213363391578010288127])) .ret))))))))))))))))⟩
def g4:FT:=⟨0,72,[.tmp 0],[0,1,2,4,5,6,7,9,10,11,12,13,14,15,18,19],true,(.seq W64 (.seq (.reg 8 [m 6 (.op (.call 5 [a2n,(.c (.int .i64 7))]) []),p 7 (ex 0 (d 6)),p 8 (ex 1 (d 6)),p 1 Hb,s 41 (d 1) (d 7),m 2 (d 8)]) (.seq (.reg 3 [p 10 (.op (.call 5 [(.c (.int .i64 39)),(.c (.int .i64 7))]) []),m 9 (d 10),p 11 (ex 0 (d 9)),p 12 (ex 1 (d 9)),s 41 Hb (d 11),m 3 (d 12)]) (.seq (.reg 16 [m 13 (.op (.call 6 [(.t 0),W9]) [Qz]),p 14 (ex 0 (d 13)),p 15 (ex 1 (d 13)),p 4 Hb,s 41 (d 4) (d 14),m 5 (d 15)]) (.seq (.reg 20 [m 0 (.and (.and (.and (.and (.and (.and (.and (.and (.and (.and (v 2) (no (v 3))) (bk .eql 1 (ld (fa 38 (d 1))))) (bk .eql 1 (ld (fa 37 (d 1))))) (bk .eql 1 (ln a6v))) (bk .eql 0 (v 5))) (bk .eql 2 (ld (fa 38 (d 4))))) (bk .eql 2 (ld (fa 0 (fa 11 (d 4)))))) (B9 15 Qz Qz)) (no (B9 15 Qz (la 41 (d 4))))) (bk .eql 35 (An 14 Qz)))]) .ret)))))⟩
def g5:FT:=⟨2,54,[.cell 2 true 41,.tmp 3],[0,1,4,5,6,7,8,9,10,11,20,22,23,29,30,43,44,50,51],true,(.seq (.reg 0 [p 2 Hb,y 3 (.bool false)]) (.seq (.reg 12 [m 4 (B9 16 (v 1) (v 0))]) (.seq (.ifc 15 [] (.op W52 [(v 4)]) (.seq (.reg 17 [s 41 (d 2) (.op (.build Z0 []) []),y 3 (.bool false)]) .ret) .skip) (.seq (.reg 18 [p 10 (An 17 (.op (.bini .add (.c (.int .i64 28)) (.t 0)) [(v 0)])),p 11 (.op (.build Z3 [(1,1,R4),(2,1,(.t 0))]) [(v 1)]),p 12 (Ye 18),m 5 (.op (.box (.t 0)) [(.op (.build Z0 [(0,41,(.t 0))]) [(.op (.build Z0 [(0,5,(.t 0)),(11,22,(.t 1)),(39,1,(.t 2))]) [(d 10),(d 11),(.op (.bslice 5 1 Z4 [(0,(.t 0))]) [(.op (.build Z4 [(0,1,R1),(1,1,R1),(4,1,(.t 0))]) [(d 12)])])])])])]) (.seq (.reg 0 [y 6 (.emp)]) (.seq (.seq (.reg 0 [z 13 0]) (.after [.fz 6] (.block 0 (.pre [.fz 12,.fzC 5 39] (.loop [0,2,4,5,6,13] [(6,2)] (.seq (.reg 0 [p 14 (bk .lss 4 (d 13))]) (.seq (.ifv 14 .skip W8) (.seq (.block 1 (.seq (.reg 31 [m 7 (v 13)]) (.reg 32 [m 6 (.op (.append 2 24 Z5 (.t 0) (.t 1)) [(v 6),(.op (.bslice 2 1 Z5 [(0,(.t 0))]) [(.op (.build Z5 [(0,1,(.t 0)),(1,1,(.t 1))]) [(B9 19 (v 0) (v 7)),(v 4)])])])]))) (.reg 40 [m 13 a6u]))))))))) (.seq (.reg 41 [p 15 (B9 20 (v 5) (v 6))]) (.seq (.reg 45 [m 16 (.op (.call 21 [(.t 0),K2,(.c (.emp))]) [(la 41 (fa 0 (.op Jb [(v 5)])))]),p 17 (ex 0 (d 16)),p 18 (ex 1 (d 16)),p 8 Hb,s 41 (d 8) (d 17),m 9 (d 18)]) (.seq (.ifc 52 [] (bk .neq 0 (v 9)) (.seq (.reg 54 [s 41 (d 2) (.op (.build Z0 []) []),y 3 (.bool false)]) .ret) .skip) (.seq (.reg 55 [s 41 (d 2) (la 41 (d 8)),y 3 (.bool true)]) .ret))))))))))⟩
def g6:FT:=⟨2,37,[.cell 3 true 41,.tmp 4],[0,1,2,4,5,6,7,8,14,15,16,22,27,36,37,38],true,(.seq (.reg 0 [p 2 W0,p 3 Hb,z 4 0]) (.seq (.reg 9 [m 7 (B9 22 (la 5 Fk) a6x),p 8 (ex 0 (d 7)),p 9 (ex 1 (d 7)),p 5 W74,s 30 (d 5) (d 8),m 6 (d 9)]) (.seq (.block 0 (.seq (.reg 17 [m 10 (ld (fa 4 Fk))]) (.ifv 10 (.seq (.reg 20 [s 41 (d 3) (An 23 (la 41 (d 2))),z 4 13]) .ret) (.seq (.reg 23 [m 11 (ld (fa 40 (d 2)))]) (.ifv 11 (.seq (.reg 25 [s 41 (d 3) (An 23 (la 41 (d 2))),z 4 11]) .ret) (.seq (.reg 28 [m 12 (no (v 6))]) (.ifv 12 (.seq (.reg 30 [s 41 (d 3) (An 23 (la 41 (d 2))),z 4 12]) .ret) .skip))))))) (.seq (.reg 32 [p 13 (M5 21 (la 41 (d 2)) (v 1) (.op (.bslice 30 1 Z6 [(0,(.t 0))]) [(la 30 (d 5))])),p 14 (ex 0 (d 13)),p 15 (ex 1 (d 13)),s 41 (d 3) (d 14),m 4 (d 15)]) .ret))))⟩
def g7:FT:=⟨2,46,[.tmp 3,.tmp 4],[0,1,2,4,5,6,7],true,(.seq (.reg 0 [p 2 W0,y 3 (.str []),y 4 (.bool false)]) (.seq (.ifc 8 [] (.or (.or (ld (fa 4 (d 2))) Ym) (b2 .geq (v 1) (ln (ld Fk)))) (.seq (.reg 0 [y 3 (.str []),y 4 (.bool false)]) .ret) .skip) (.seq (.reg 21 [m 5 (ld (ia 1 (ld Fk) (v 1)))]) (.seq (.seq (.reg 0 [z 6 0]) (.block 0 (.loop [1,2,5,6] [] (.seq (.ifc 26 [] (b2 .lss (v 6) (ln Vz)) .skip W8) (.seq (.block 1 (.ifc 33 [] (b2 .eql (ld (fa 0 (ia 2 Vz (v 6)))) (v 1)) (.reg 41 [m 5 (ld (fa 1 (ia 2 Vz (v 6))))]) .skip)) (.reg 31 [m 6 a2k])))))) (.seq (.reg 47 [m 3 (v 5),y 4 (.bool true)]) .ret)))))⟩
def g8:FT:=⟨2,24,[.tmp 2],[0,1,4],true,(.seq Vx (.seq (.ifc 5 [] (.or (.or (no (An 24 (v 0))) Ym) (bk .gtr 3 (v 1))) W36 .skip) (.seq (.ifc 16 [] (bk .lss 2 (v 1)) (.seq (.reg 18 [m 2 (bk .mul 7 (v 1))]) .ret) .skip) (.seq (.reg 20 [m 2 (b2 .add (.op W42 [(v 0)]) (bk .mul 7 (bk .sub 2 (v 1))))]) .ret))))⟩
def g9:FT:=⟨1,46,[.cell 1 true 9,.tmp 2],[0,2,3,4,5,6,7,8,9,10,13,14,15,19,22,23,24],true,(.seq (.reg 0 [p 1 (.op (.alloc Z1) []),y 2 (.bool false)]) (.seq (.reg 11 [m 9 (.op (.call 25 [(.c (.str [49,52,52,49])),(.t 0)]) [(v 0)]),p 10 (ex 0 (d 9)),p 11 (ex 1 (d 9)),p 12 (ex 2 (d 9)),m 3 (d 10),m 4 (d 11),m 5 (d 12)]) (.seq (.ifc 16 [] (no (v 5)) (.seq (.reg 18 [s 9 (d 1) (.op (.build Z1 []) []),y 2 (.bool false)]) .ret) .skip) (.seq (.reg 20 [m 13 (.op (.call 26 [(.t 0),R1]) [(v 4)]),p 14 (ex 0 (d 13)),p 15 (ex 1 (d 13)),p 16 (ex 2 (d 13)),m 6 (d 14),m 7 (d 15),m 5 (d 16)]) (.seq (.ifc 25 [] (no (v 5)) (.seq (.reg 27 [s 9 (d 1) (.op (.build Z1 []) []),y 2 (.bool false)]) .ret) .skip) (.seq (.rawE [[(0,I0 28 4),(1,I1 29 (.iaddr 1 (.t 28) (KI 1))),(2,I7 30 29),(3,I0 31 4),(4,I1 32 (.iaddr 1 (.t 31) (KI 2))),(5,I7 33 32),(6,I0 34 4),(7,I1 35 (.iaddr 1 (.t 34) (KI 3))),(8,I7 36 35),(9,I0 37 7),(10,I1 38 (.iaddr 6 (.t 37) (KI 0))),(11,I1 39 (.load true 6 (.t 38))),(12,I1 40 (.build Z1 [(0,1,(.t 30)),(1,1,(.t 33)),(2,1,(.t 36)),(3,6,(.t 39))])),(13,I1 9 (.alloc Z1))],[(14,I9 9 9 40)]] (bm [0,1,3,0,8,24,0,64,192,0,512,1536,4095,0,16383])) (.seq (.ifc 41 [] (bs .neq (An 27 (la 9 (d 8))) (v 0)) (.seq (.reg 45 [s 9 (d 1) (.op (.build Z1 []) []),y 2 (.bool false)]) .ret) .skip) (.seq (.reg 46 [s 9 (d 1) (la 9 (d 8)),y 2 (.bool true)]) .ret))))))))⟩
def Y1:FT:=⟨3,22,[.tmp 3],[0,1,2,6,7],true,(.seq Za (.seq (.reg 8 [m 4 (B9 8 (v 0) (v 1))]) W25))⟩
def g11:FT:=⟨2,16,[.tmp 2],[0,1,4],true,(.seq W3 (.seq (.ifc 5 [] (.or (no (An 28 (v 0))) (no (An 24 (v 1)))) Ja .skip) (.seq (.reg 13 [m 2 (An 29 (.op (.call 30 [a73,(.t 0)]) [W79]))]) .ret)))⟩
def g12:FT:=⟨2,24,[.tmp 2],[0,1,4,5],true,(.seq W1 (.seq Yz (.seq (.seq Za (.block 0 (.loop [0,1,3] [] (.seq (.ifc 11 [] (b2 .lss (v 3) Gi) .skip W8) (.seq (.block 1 (.ifd 17 [] b3v Im .skip)) (.reg 15 [m 3 a2j])))))) U3)))⟩
def g13:FT:=⟨0,7,[.tmp 0],[0,1],true,W19⟩
def g14:FT:=⟨1,10,[.tmp 2],[0,1,2,3,5],true,(.seq (.reg 0 [p 1 W0,z 2 0]) (.seq (.reg 4 [p 4 (.op (.build Z0 [(0,41,(.t 0))]) [Qz]),p 3 Hb,s 41 (d 3) (d 4)]) (.seq (.rawE [[(1,I6 7 33 1),(2,I1 8 (.load true 4 (.t 7))),(0,I1 6 (.call 33 [(.t 3)]))],[(3,I1 9 (.call 32 [(.t 6),(.t 8)]))],[(4,I1 10 (.call 31 [(.t 9)]))],[(5,I0 2 10)]] (bm [0,0,2,7,15,31])) .ret)))⟩
def g15:FT:=⟨2,93,[.tmp 4],[0,1,2,3,4,5,6,7],true,(.seq W56 (.seq (.rawE [[(0,I6 8 0 2),(1,I1 9 (.load true 5 (.t 8))),(2,I6 10 0 3),(3,I1 11 (.load true 5 (.t 10))),(4,I1 5 (.alloc Z9)),(5,I1 6 (.alloc Z9)),(6,I9 5 5 9)],[(7,I9 5 6 11)]] (bm [0,1,0,4,0,0,51,127])) (.seq (.reg 12 [m 7 (.and (.and (.and (.and (B9 34 Yl (ld (fa 0 (d 6)))) (B9 35 (ld (fa 1 (d 5))) (ld (fa 1 (d 6))))) (b2 .eql (ld (fa 2 (d 5))) (ld (fa 2 (d 6))))) (b2 .eql (ld (fa 3 (d 5))) (ld (fa 3 (d 6))))) (.op (.eqb false (.t 0) (.t 1)) [(ld (fa 4 (d 5))),(ld (fa 4 (d 6)))]))]) (.seq (.reg 45 [m 4 (.and (.and (.and (.and (.and (.and (.and (v 7) (.op W49 [a6x,(la 6 (fa 5 (d 3)))])) (.op (.eqs false [.i,.i,.i,.i,.i,.i,.i,.i,.i,.i,.i,.i,.i,.i,.i,.i,.i,.i,.i,.i,.i,.i] (.t 0) (.t 1)) [(la 22 (fa 11 (d 2))),(la 22 (fa 11 (d 3)))])) (B9 36 (la 4 (fa 33 (d 2))) (la 4 (fa 33 (d 3))))) (b2 .eql (ld (fa 37 (d 2))) (ld (fa 37 (d 3))))) (b2 .eql (ld (fa 38 (d 2))) (ld (fa 38 (d 3))))) (B9 37 (ld (fa 39 (d 2))) (ld (fa 39 (d 3))))) (.op (.eqb false (.t 0) (.t 1)) [(ld (fa 40 (d 2))),(ld (fa 40 (d 3)))]))]) .ret))))⟩
def g16:FT:=⟨2,22,[.tmp 2],[0,1,4],true,(.seq W3 (.seq (.ifc 5 [] (.or (.or (.or (bk .lss 0 (v 0)) (bk .gtr 1073741824 (v 0))) (bk .lss 40 (v 1))) (bk .gtr 240 (v 1))) Ja .skip) (.seq (.reg 19 [m 2 (An 38 (.op (.call 39 [a73,(.t 0)]) [W79]))]) .ret)))⟩
def g17:FT:=⟨1,20,[.cell 1 true 5],[0,2,3,4],true,(.seq (.reg 0 [p 1 Wb]) (.seq (.reg 0 [p 2 Wb]) (.seq (.ifc 5 [] (bk .gtr 268 (v 0)) (.seq (.reg 7 [s 5 (d 1) Jz]) .ret) .skip) (.seq (.seq Za (.block 0 (.pre [.empC 2 0 1] (.loop [0,1,2,3] [] (.seq (.ifc 8 [] (b2 .lss (v 3) (v 0)) .skip W8) (.seq (.block 1 (.rawE [[(0,I6 13 0 3),(1,I7 14 13),(2,I1 15 (.mksl 1 1 [.int .u8 0] (KI 256) (KI 256))),(3,I1 16 (.convbs (.t 15))),(4,I1 17 (.bslice 1 1 [.str []] [(0,(.t 16))]))],[(5,I1 18 (.append 1 16 [.str []] (.t 14) (.t 17)))],[(6,I6 19 0 3)],[(7,I9 1 19 18)]] (bm [0,1,0,4,12,31,63,127]))) (.reg 11 [m 3 a2j]))))))) (.seq (.reg 20 [s 5 (d 1) Jz]) .ret)))))⟩
def g18:FT:=⟨0,7,[.tmp 0],[0,1],false,W19⟩
def g19:FT:=⟨2,23,[.tmp 2],[0,1,4,5],true,(.seq Vx (.seq (.ifc 6 [] (.or (.or (no (An 40 (v 0))) Ym) (bk .geq 4 (v 1))) W36 .skip) (.seq (.reg 17 [m 3 (bk .mul 7 (v 1))]) (.seq (.ifc 19 [] (bk .geq 2 (v 1)) (.reg 21 [m 3 (b2 .add (v 3) (v 0))]) .skip) (.seq (.reg 24 [m 2 (v 3)]) .ret)))))⟩
def g20:FT:=⟨2,27,[.tmp 2],[0,1,4,5,6,7,15,16,18,21,22,23,24],true,(.seq W1 (.seq (.reg 8 [m 5 (B9 41 (la 5 (fa 0 (fa 0 W5))) (v 1)),p 6 (ex 0 (d 5)),p 7 (ex 1 (d 5)),p 3 Wb,s 5 (d 3) (d 6),m 4 (d 7)]) (.seq (.ifc 17 [] (v 4) (.reg 19 [m 8 (An 42 Wg),p 9 (ex 0 (d 8)),p 10 (ex 1 (d 8)),s 5 (d 3) (d 9),m 4 (d 10)]) .skip) (.seq (.reg 25 [m 11 (d 0),p 12 Wg,s 5 (fa 0 (fa 0 (.op Jb [(d 11)]))) (d 12)]) (.seq (.reg 28 [m 2 (v 4)]) .ret)))))⟩
def Gc:FT:=⟨3,89,[.cell 4 true 41,.tmp 5],[0,1,2,3,6,7,8,9,10,11,18,23,27,33,38,43,44,80,85],true,(.seq (.reg 0 [p 3 W0,p 4 Hb,z 5 0]) (.seq (.rawE [[(0,I1 12 (.load true 41 (.t 3))),(2,I1 14 (.load true 41 (.t 3))),(6,I1 8 (.alloc Z0)),(1,I1 13 (.call 23 [(.t 12)])),(3,I1 15 (.call 23 [(.t 14)])),(4,I1 16 (.build Z0 [(0,41,(.t 15))])),(5,I1 17 (.box (.t 16))),(7,I9 41 8 13)],[(8,I0 9 17)]] (bm [0,1,0,7,15,31,0,79,255])) (.seq (.block 0 (.seq (.reg 19 [m 10 (ld (fa 4 (fa 0 (d 3))))]) (.ifv 10 (.seq (.reg 22 [s 41 (d 4) Yy,z 5 13]) .ret) (.seq (.reg 24 [m 11 (ld (fa 40 (d 3)))]) (.ifv 11 (.seq (.reg 26 [s 41 (d 4) Yy,z 5 11]) .ret) (.seq (.reg 28 [m 12 (no (An 43 (ld (fa 39 (d 3)))))]) (.ifv 12 (.seq (.reg 32 [s 41 (d 4) Yy,z 5 1]) .ret) (.seq (.reg 34 [m 13 (bk .geq 1073741824 (ld (fa 38 (d 3))))]) (.ifv 13 (.seq (.reg 37 [s 41 (d 4) Yy,z 5 8]) .ret) .skip))))))))) (.seq (.reg 39 [m 14 (M5 44 (v 7) (v 1) (v 2)),p 15 (ex 0 (d 14)),p 16 (ex 1 (d 14)),p 8 (.op (.alloc Yi) []),s 10 (d 8) (d 15),m 9 (d 16)]) (.seq (.ifc 45 [] (no (v 9)) (.seq (.reg 47 [s 41 (d 4) Yy,z 5 8]) .ret) .skip) (.seq (.seq (.rawE [[(0,I0 48 9),(1,I0 49 9),(2,I1 50 (.load true 10 (.t 10))),(3,I1 51 (.call 45 [(.t 49),(.t 50)]))],[(4,I1 52 (.call 20 [(.t 48),(.t 51)]))],[(5,I1 53 (.un .not (.t 52)))],[(6,I0 54 53)],[(7,I5 55 54 9),(8,I5 56 54 9),(9,I3 57 54 (.nilchk (.t 56))),(10,I3 58 54 (.faddr 0 (.t 57))),(11,I3 59 54 (.faddr 38 (.t 58))),(12,I3 60 54 (.load false 1 (.t 59))),(13,I5 61 54 9),(14,I3 62 54 (.nilchk (.t 61))),(15,I3 63 54 (.faddr 0 (.t 62))),(16,I3 64 54 (.faddr 11 (.t 63))),(17,I3 65 54 (.faddr 2 (.t 64))),(18,I3 66 54 (.load false 1 (.t 65))),(19,I5 67 54 9),(20,I3 68 54 (.nilchk (.t 67))),(21,I3 69 54 (.faddr 0 (.t 68))),(22,I3 70 54 (.faddr 37 (.t 69))),(23,I3 71 54 (.load false 1 (.t 70))),(24,I5 72 54 9),(25,I3 73 54 (.nilchk (.t 72))),(26,I3 74 54 (.faddr 0 (.t 73))),(27,I3 75 54 (.faddr 5 (.t 74))),(28,I3 76 54 (.load true 6 (.t 75))),(29,I3 77 54 (.build Z1 [(0,1,(.t 60)),(1,1,(.t 66)),(2,1,(.t 71)),(3,6,(.t 76))]))],[(30,I3 78 54 (.call 46 [(.t 55),(.t 77)]))],[(31,I3 79 54 (.un .not (.t 78)))],[(32,I1 80 (.pick (.t 54) K2 (.t 79)))]] (bm [0,0,0,6,15,31,63,127,127,383,895,1919,3967,127,8319,24703,57471,123007,254079,127,524415,1572991,3670143,7864447,127,16777343,50331775,117440639,251658367,536870783,1073741823,2147483647,4294967295])) (.ifv 17 (.seq (.reg 81 [p 18 (la 5 (fa 0 (fa 0 (.op Jb [(v 7)])))),s 5 (fa 0 (d 6)) (d 18)]) (.seq (.reg 87 [s 41 (d 4) Yy,z 5 13]) .ret)) .skip)) (.seq (.reg 88 [s 41 (d 4) (la 41 (fa 0 (.op Jb [(v 7)]))),z 5 0]) .ret)))))))⟩
def T9:FT:=⟨2,51,[.cell 4 true 30,.tmp 5],[0,1,2,3,4,5,6,7,8,9,10,12,13,17,18,33,39,40,41,46,47],true,(.seq b3q (.seq (.reg 11 [p 11 (.op (.build Z9 [(0,5,(.t 0))]) [Jz]),p 6 Wb,s 5 (d 6) (d 11)]) (.seq (.reg 14 [m 12 (B9 47 Yv (la 6 (d 3))),p 13 (ex 0 (d 12)),p 14 (ex 1 (d 12)),p 7 W74,s 30 (d 7) (d 13),m 8 (d 14)]) (.seq (.ifc 19 [] (.or (.or (no (v 8)) (no (B9 48 Yv (d 7)))) (no (An 43 (ld (fa 26 (d 7)))))) (.seq (.reg 32 [s 30 (d 4) a78,y 5 (.bool false)]) .ret) .skip) (.seq (.reg 34 [m 15 (.op (.call 49 [(.t 0),(.t 1),(.c (.int .i64 5))]) [Yv,(la 6 (fa 9 (fa 0 (d 7))))]),p 16 (ex 0 (d 15)),p 17 (ex 1 (d 15)),m 9 (d 16),m 10 (d 17)]) (.seq (.seq (.reg 42 [m 18 (B9 50 (An 51 Yv) (v 9)),p 19 (ex 0 (d 18)),p 20 (ex 1 (d 18)),s 4 (fa 22 (d 7)) (d 19),m 8 (d 20)]) (.ifc 49 [] (no (v 8)) (.seq (.reg 51 [s 30 (d 4) a78,y 5 (.bool false)]) .ret) .skip)) (.seq (.reg 52 [s 30 (d 4) (la 30 (d 7)),y 5 (.bool true)]) .ret)))))))⟩
def g23:FT:=⟨1,64,[.cell 2 true 41],[0,1,2,3,42,43,47,48,49,60],true,(.seq (.reg 0 [p 1 W0,p 2 Hb]) (.seq (.rawE [[(0,I6 4 0 1),(1,I6 5 0 4),(2,I7 6 5),(4,I6 8 0 1),(5,I6 9 1 8),(6,I7 10 9),(8,I6 12 0 1),(9,I6 13 2 12),(10,I7 14 13),(11,I6 15 0 1),(12,I6 16 3 15),(13,I7 17 16),(14,I6 18 0 1),(15,I6 19 4 18),(16,I7 20 19),(3,I1 7 (.call 52 [(.t 6)])),(7,I1 11 (.call 53 [(.t 10)]))],[(17,I1 21 (.build Z9 [(0,1,(.t 7)),(1,1,(.t 11)),(2,1,(.t 14)),(3,1,(.t 17)),(4,1,(.t 20))]))],[(18,I6 22 0 1)],[(19,I9 5 22 21)]] (bm [0,1,3,7,0,16,48,127,0,256,768,0,2048,6144,0,16384,49152,131071,262143,524287])) (.seq (.rawE [[(0,I6 23 33 1),(1,I6 24 0 23),(2,I7 25 24),(4,I6 27 33 1),(5,I6 28 1 27),(6,I7 29 28),(8,I6 31 33 1),(9,I6 32 2 31),(10,I7 33 32),(12,I6 35 33 1),(13,I6 36 3 35),(14,I7 37 36),(3,I1 26 (.call 54 [(.t 25)])),(7,I1 30 (.call 54 [(.t 29)])),(11,I1 34 (.call 54 [(.t 33)]))],[(15,I1 38 (.call 54 [(.t 37)]))],[(16,I1 39 (.build Pd [(0,1,(.t 26)),(1,1,(.t 30)),(2,1,(.t 34)),(3,1,(.t 38))]))],[(17,I6 40 33 1)],[(18,I9 4 40 39)]] (bm [0,1,3,7,0,16,48,127,0,256,768,2047,0,4096,12288,32767,65535,131071,262143])) (.seq (.pre [.empC 1 0 1,.empC 1 1 2,.empC 1 33 2,.empC 1 34 2,.empC 1 35 2,.empC 1 36 2,.fzC 1 0,.fzC 1 1,.fzC 1 33,.fzC 1 34,.fzC 1 35,.fzC 1 36] (.reg 41 [p 4 a6v,p 5 (An 55 (d 4)),s 1 (fa 39 (d 1)) (d 5)])) (.seq (.seq (.reg 45 [p 6 (ln a6v),z 7 0]) (.block 0 (.pre [.empC 1 39 5] (.loop [1,2,6,7] [] (.after [.fz 9] (.seq W96 (.seq (.ifv 8 .skip W8) (.seq (.block 1 (.seq (.reg 50 [m 3 (v 7)]) (.rawE [[(0,I6 51 39 1),(1,I7 52 51),(2,I0 53 3),(3,I6 54 39 1),(4,I7 55 54),(5,I0 56 3),(6,I1 57 (.iaddr 5 (.t 55) (.t 56))),(7,I6 58 4 57),(8,I7 59 58),(9,I1 60 (.call 56 [(.t 59)]))],[(10,I1 61 (.iaddr 5 (.t 52) (.t 53)))],[(11,I6 62 4 61)],[(12,I9 1 62 60)]] (bm [0,1,0,0,8,0,56,120,248,504,1023,2047,4095])))) (.reg 63 [m 7 (bk .add 1 (d 7))]))))))))) (.seq (.reg 64 [s 41 (d 2) Qz]) .ret))))))⟩
def g24:FT:=⟨1,8,[.tmp 1],[0,2],true,W37⟩
def g25:FT:=⟨2,54,[.tmp 2,.tmp 3,.tmp 4],[0,1,4,5,6,7,8,9,10,11,54,55],true,(.seq W2 (.seq a71 (.seq (.seq (.reg 0 [z 6 0]) (.block 0 (.loop [0,1,5,6] [(5,1)] (.seq (.ifc 12 [] (b2 .lss (v 6) U4) .skip W8) (.seq (.block 1 (.seq (.reg 18 [m 7 (bk .sub 48 (cv .i64 (ix (v 0) (v 6))))]) (.seq (.ifc 23 [] (.or (.or (bk .lss 1 (v 7)) (bk .gtr 4 (v 7))) (b2 .lss (ls (v 1)) (v 7))) Vw .skip) (.seq (.reg 0 [z 8 0]) (.seq (.seq (.reg 0 [z 9 0]) (.block 2 (.loop [0,1,5,6,7,8,9] [] (.seq (.ifc 35 [] (b2 .lss (v 9) (v 7)) .skip Pl) (.seq (.block 3 (.reg 40 [m 8 (b2 .add (bk .mul 256 (v 8)) (cv .i64 (ix (v 1) (v 9))))])) (.reg 38 [m 9 (bk .add 1 (v 9))])))))) (.rawE [[(0,I0 47 7),(1,I0 48 10),(2,I1 49 (.bslice 1 1 Z7 [(0,(.t 48))])),(3,I1 50 (.append 1 8 Z7 (.t 47) (.t 49))),(4,I0 51 1),(5,I0 52 9),(6,I1 53 (.slices (.t 51) (some (.t 52)) none)),(7,I0 7 50)],[(8,I0 1 53)]] (bm [0,0,2,7,0,0,48,15,255]))))))) (.reg 16 [m 6 a2k])))))) (.seq (.reg 0 [m 10 (d 5),m 11 (d 1),m 2 (d 10),m 3 (d 11),y 4 (.bool true)]) .ret))))⟩
def g26:FT:=⟨2,58,[.tmp 2,.tmp 3,.tmp 4],[0,1,4,5,6,7,8,9,10,11,12,18,21,22,23,56,57,58,59],true,(.seq W2 (.seq a71 (.seq (.seq (.reg 0 [z 6 0]) (.block 0 (.loop [0,1,5,6] [(5,6)] (.seq (.ifc 13 [] (b2 .lss (v 6) (v 1)) .skip W8) (.seq (.block 1 (.seq (.reg 19 [m 11 (.op (.call 25 [W77,(.t 0)]) [(v 0)]),p 12 (ex 0 (d 11)),p 13 (ex 1 (d 11)),p 14 (ex 2 (d 11)),m 7 (d 12),m 8 (d 13),m 9 (d 14)]) (.seq (.ifc 24 [] (no (v 9)) Vw .skip) (.seq (.rawE [[(0,I0 26 9),(1,I1 27 (.iaddr 1 (.t 26) (KI 0))),(2,I7 28 27),(3,I0 29 9),(4,I1 30 (.iaddr 1 (.t 29) (KI 1))),(5,I7 31 30),(6,I0 32 9),(7,I1 33 (.iaddr 1 (.t 32) (KI 2))),(8,I7 34 33),(9,I1 35 (.convi .u32 (.t 34))),(10,I0 36 9),(11,I1 37 (.iaddr 1 (.t 36) (KI 3))),(12,I7 38 37),(13,I1 39 (.convi .u32 (.t 38))),(14,I0 40 9),(15,I1 41 (.iaddr 1 (.t 40) (KI 4))),(16,I7 42 41),(17,I1 43 (.convi .u32 (.t 42))),(18,I0 44 9),(19,I1 45 (.iaddr 1 (.t 44) (KI 5))),(20,I7 46 45),(21,I1 47 (.convi .u32 (.t 46))),(22,I1 48 (.build Z12 [(0,1,(.t 35)),(1,1,(.t 39)),(2,1,(.t 43)),(3,1,(.t 47))])),(23,I1 49 (.build Fj [(0,1,(.t 28)),(1,1,(.t 31)),(2,4,(.t 48))])),(24,I1 12 (.alloc Fj))],[(25,I9 6 12 49)]] (bm [0,1,3,0,8,24,0,64,192,448,0,1024,3072,7168,0,16384,49152,114688,0,262144,786432,1835008,4194240,8388607,0,33554431])) (.seq (.ifc 50 [] (no (An 57 (la 6 (d 10)))) Vw .skip) (.reg 53 [p 15 (.op aq4 [(v 5),(.op aq2 [(la 6 (d 10))])]),m 16 (d 8),m 5 (d 15),m 0 (d 16)])))))) (.reg 16 [m 6 a2k])))))) (.seq (.reg 0 [m 17 (d 5),m 18 (d 0),m 2 (d 17),m 3 (d 18),y 4 (.bool true)]) .ret))))⟩
def g27:FT:=⟨1,19,[.tmp 2],[0,1,2],true,(.seq U2 (.seq (.ifc 3 [] (no (An 58 (la 9 (d 1)))) Ja .skip) (.seq (.rawE [[(0,I6 6 0 1),(1,I7 7 6),(2,I6 8 1 1),(3,I7 9 8),(4,I6 10 2 1),(5,I7 11 10),(6,I1 12 (.bslice 1 4 Z7 [(0,(KI 171)),(1,(.t 7)),(2,(.t 9)),(3,(.t 11))])),(8,I6 14 3 1),(9,I1 15 (.load true 6 (.t 14))),(10,I1 16 (.bslice 6 1 Fj [(0,(.t 15))])),(7,I1 13 (.call 30 [(.c (.str [49,52,52,49])),(.t 12)]))],[(11,I1 17 (.call 59 [(.t 16)]))],[(12,I1 18 (.bins .add (.t 13) (.t 17)))],[(13,I1 19 (.call 29 [(.t 18)]))],[(14,I0 2 19)]] (bm [0,1,0,4,0,16,63,127,0,256,768,2047,4095,8191,16383])) .ret)))⟩
def g28:FT:=⟨1,8,[.tmp 1],[0,2],true,(.seq Pk (.seq (.reg 3 [m 1 (.and (bk .geq 0 (v 0)) (bk .leq 1073741824 (v 0)))]) .ret))⟩
def g29:FT:=⟨1,27,[.tmp 1],[0,2,3,5],true,(.seq R5 (.seq (.reg 4 [p 3 (An 60 (v 0)),p 2 Yq,s 4 (d 2) (d 3)]) (.seq (.reg 6 [m 0 (bs .add (v 0) (.op (.call 30 [(.c (.str [52,52,52,52])),(.t 0)]) [(.op (.bslice 1 4 Z7 [(0,(.t 0)),(1,(.t 1)),(2,(.t 2)),(3,(.t 3))]) [(cv .i64 (ld (.op (.iaddra 4 1 (.t 0) R2) [(d 2)]))),(cv .i64 (ld (.op (.iaddra 4 1 (.t 0) R1) [(d 2)]))),(cv .i64 (ld (.op (.iaddra 4 1 (.t 0) R4) [(d 2)]))),(cv .i64 (ld (.op (.iaddra 4 1 (.t 0) Sd) [(d 2)])))])]))]) (.seq (.reg 22 [m 1 (bs .add (v 0) (An 61 (.op W83 [U4])))]) .ret))))⟩
def g30:FT:=⟨2,48,[.tmp 2],[0,1,4,5,6,7,8],true,(.seq W3 (.seq (.ifc 9 [] (b2 .neq U4 (ln (v 1))) Ja .skip) (.seq (.reg 0 [y 3 (.str [])]) (.seq (.seq (.reg 0 [z 4 0]) (.block 0 (.loop [0,1,3,4] [] (.seq (.ifc 14 [] (b2 .lss (v 4) U4) .skip W8) (.seq (.block 1 (.seq (.reg 20 [m 5 (bk .sub 48 (cv .i64 (ix (v 0) (v 4))))]) (.seq (.ifc 25 [] (.or (bk .lss 1 (v 5)) (bk .gtr 4 (v 5))) Ja .skip) (.seq (.reg 31 [m 6 (bk .sub 1 (v 5))]) (.block 2 (.loop [0,1,3,4,6] [] (.seq (.ifc 33 [] (bk .geq 0 (v 6)) .skip Pl) (.seq (.block 3 (.reg 37 [m 3 (bs .add (v 3) (.op (.convbs (.t 0)) [(.op (.bslice 1 1 [.int .u8 0] [(0,(.t 0))]) [(cv .u8 (b2 .shr (ld (ia 1 (v 1) (v 4))) (.op W61 [(v 6)])))])]))])) (.reg 35 [m 6 (bk .sub 1 (v 6))]))))))))) (.reg 18 [m 4 (bk .add 1 (v 4))])))))) (.seq (.reg 49 [m 2 (v 3)]) .ret)))))⟩
def g31:FT:=⟨1,20,[.tmp 1],[0,2,3,5,6,7,8,9,11],true,(.seq (.reg 0 [z 1 0]) (.seq Vx (.seq (.seq W58 (.block 0 (.loop [2,4,5,6] [] (.seq Wf (.seq Tz (.seq (.block 1 (.seq W80 (.reg 12 [m 2 (b2 .add (v 2) (b2 .sub R0 K1))]))) (.reg 19 [m 6 Tx]))))))) (.seq (.reg 20 [m 1 (v 2)]) .ret))))⟩
def g32:FT:=⟨2,27,[.tmp 3],[0,1,3,4,5,6,8,12,20,21,22],true,(.seq ap9 (.seq (.reg 9 [p 7 W46,p 4 (.op (.alloc [.emp,.emp,.emp,.emp,.int .i64 0]) []),s 5 (d 4) (d 7)]) (.seq (.ifc 13 [] (no (An 62 (la 5 (d 4)))) (.seq (.reg 0 [y 3 (.emp)]) .ret) .skip) (.seq (.reg 16 [m 5 (An 63 (la 5 (d 4)))]) (.seq (.seq (.reg 18 [p 8 (An 64 (la 4 (fa 0 (d 4)))),z 9 0]) (.block 0 (.loop [5,8,9] [] (.seq (.reg 0 [p 10 (bk .lss 4 (d 9))]) (.seq Wa (.seq (.block 1 (.seq (.reg 23 [m 6 (.op (.indexa false 4 1 (.t 0) (.t 1)) [(d 8),(d 9)])]) (.reg 24 [m 5 (B9 65 (v 5) (v 6))]))) (.reg 27 [m 9 Vy]))))))) (.seq (.reg 28 [m 3 (v 5)]) .ret))))))⟩
def g33:FT:=⟨1,10,[.tmp 1],[0,2],true,(.seq (.reg 0 [z 1 0]) (.seq (.reg 3 [m 1 (bk .sub 28 (ln (ld (fa 0 (fa 0 (fa 0 W5))))))]) .ret))⟩
def g34:FT:=⟨2,24,[.tmp 2],[0,1,4,5,12,13,14],true,(.seq W1 (.seq Yz (.seq (.seq W73 (.block 0 (.loop [0,1,4,5] [] (.seq R7 (.seq O9 (.seq (.block 1 (.seq W84 (.ifd 16 [] (bs .neq (ld (ia 1 (v 0) (v 3))) (ld (ia 1 (v 1) (v 3)))) Im .skip))) a2m)))))) U3)))⟩
def g35:FT:=⟨2,24,[.tmp 2],[0,1,4,5,12,13,14],true,(.seq W1 (.seq Yz (.seq (.seq W73 (.block 0 (.loop [0,1,4,5] [] (.seq R7 (.seq O9 (.seq (.block 1 (.seq W84 (.ifd 16 [] (.op (.eqs true [.i,.s] (.t 0) (.t 1)) [(la 2 (ia 2 (v 0) (v 3))),(la 2 (ia 2 (v 1) (v 3)))]) Im .skip))) a2m)))))) U3)))⟩
def g36:FT:=⟨2,24,[.tmp 4],[0,1,2,3,4,5,6,7,14,15,24],true,(.seq W56 (.seq (.rawE [[(0,I1 8 (.load true 4 (.t 2))),(1,I1 9 (.build Pd [(0,4,(.t 8))])),(3,I1 11 (.load true 4 (.t 3))),(4,I1 12 (.build Pd [(0,4,(.t 11))])),(6,I1 5 (.alloc Pd)),(7,I1 6 (.alloc Pd)),(2,I1 10 (.call 64 [(.t 9)])),(5,I1 13 (.call 64 [(.t 12)]))],[(8,I9 4 5 10)],[(9,I9 4 6 13)]] (bm [0,1,3,0,8,31,0,0,255,511])) (.seq (.seq (.reg 0 [z 8 0]) (.block 0 (.loop [5,6,8] [] (.seq (.reg 0 [p 9 (bk .lss 4 (d 8))]) (.seq Tw (.seq (.block 1 (.seq (.reg 16 [m 7 (v 8)]) (.seq (.rawE [[(0,I0 17 7),(1,I1 18 (.iaddra 4 1 (.t 5) (.t 17))),(2,I7 19 18),(3,I0 20 7),(4,I1 21 (.iaddra 4 1 (.t 6) (.t 20))),(5,I7 22 21)],[(6,I1 23 (.call 66 [(.t 19),(.t 22)]))],[(7,I1 24 (.un .not (.t 23)))]] (bm [0,1,3,0,8,24,63,127])) (.ifv 10 (.seq (.reg 0 [y 4 (.bool false)]) .ret) .skip)))) (.reg 25 [m 8 Tv]))))))) (.seq (.reg 0 [y 4 (.bool true)]) .ret))))⟩
def g37:FT:=⟨2,6,[.tmp 2],[0,1,4],true,(.seq W1 (.seq (.reg 5 [m 2 (.op (.call 67 [(.t 0),(.t 1),(.c (.fn (.func 68) [] []))]) [(v 0),(v 1)])]) .ret))⟩
def g38:FT:=⟨1,27,[.tmp 1],[0,2,3,5,8,9,10],true,(.seq R5 (.seq Yp (.seq (.seq (.reg 6 [p 4 (An 70 (.op W98 [(v 0)])),z 5 0]) (.block 0 (.loop [0,2,4,5] [(2,1)] (.seq (.reg 0 [p 6 (bk .lss 4 (d 5))]) (.seq O9 (.seq (.block 1 (.seq (.reg 11 [m 3 b3s]) (.reg 12 [m 2 (.op Wc [(v 2),(.op Ys [(cv .i64 (v 3))])])]))) (.reg 17 [m 5 W40]))))))) (.seq (.reg 18 [m 0 (bs .add (v 0) (.op (.call 39 [(.c (.str [52,52,52,52])),(.t 0)]) [(v 2)]))]) (.seq (.reg 22 [m 1 (bs .add (v 0) (.op aq9 [(.op W83 [U4])]))]) .ret)))))⟩
def g39:FT:=⟨2,52,[.tmp 2],[0,1,4,5,6,7,8,9,10,11,12,15,16,17,27,28,29,30,31,33],true,(.seq W3 (.seq (.reg 13 [m 10 (An 72 (v 0)),p 11 Yx,p 12 Yw,p 13 (ex 2 (d 10)),m 3 (d 11),m 4 (d 12),m 5 (d 13)]) (.seq (.ifc 18 [] (.or (no (v 5)) (b2 .neq (ln (v 3)) (ln (v 1)))) Ja .skip) (.seq (.reg 0 [y 6 (.emp)]) (.seq (.seq (.reg 0 [m 14 (d 1),p 15 (ln (d 14)),z 16 0]) (.block 0 (.loop [3,6,14,15,16] [(6,1)] (.seq W85 (.seq (.ifv 17 .skip W8) (.seq (.block 1 (.seq (.reg 32 [m 18 (d 16),p 19 (ld (ia 1 (d 14) (d 16))),m 7 (d 18),m 8 (d 19)]) (.seq (.reg 34 [m 9 (bk .sub 1 (ld (ia 1 (v 3) (v 7))))]) (.block 2 (.loop [3,6,8,9,14,15,16] [(6,1)] (.seq (.ifc 39 [] (bk .geq 0 (v 9)) .skip Pl) (.seq (.block 3 (.reg 43 [m 6 (.op (.append 1 1 [.int .u8 0] (.t 0) (.t 1)) [(v 6),(.op (.bslice 1 1 [.int .u8 0] [(0,(.t 0))]) [(cv .u8 (b2 .shr (v 8) (.op W61 [(v 9)])))])])])) (.reg 41 [m 9 (bk .sub 1 (v 9))])))))))) (.reg 51 [m 16 (bk .add 1 (d 16))]))))))) (.seq (.reg 52 [m 2 (.op (.convbs (.t 0)) [(v 6)])]) .ret))))))⟩
def g40:FT:=⟨1,8,[.tmp 1],[0,2],true,W37⟩
def g41:FT:=⟨2,49,[.cell 3 true 5,.tmp 4],[0,1,2,4,5,7,13,14,15,16,18,32,35,41,42],true,(.seq (.reg 0 [p 2 W0,p 3 Wb,y 4 (.bool false)]) (.seq (.reg 8 [s 5 (d 2) (An 73 Jz)]) (.seq (.pre [.fzC 2 0] (.ifc 10 [] (ld (fa 4 (d 2))) (.seq (.reg 12 [s 5 (d 3) Jz,y 4 (.bool false)]) .ret) .skip)) (.seq (.seq (.reg 0 [m 6 (d 1),p 7 (ln (d 6)),z 8 0]) (.block 0 (.pre [.empC 2 1 2] (.loop [2,3,6,7,8] [] (.seq Wd (.seq Tw (.seq (.block 1 (.seq (.reg 17 [p 10 (la 2 (ia 2 (d 6) (d 8))),p 5 (.op (.alloc Z5) []),s 2 (d 5) (d 10)]) (.seq (.ifc 19 [] (.or (no (B9 74 Jz Yl)) (bk .neq 256 (ls (ld (fa 1 (d 5)))))) (.seq (.reg 30 [s 5 (d 3) Jz,y 4 (.bool false)]) .ret) .skip) (.seq (.reg 31 [p 11 Vz,p 12 (.op (.append 2 24 Z5 (.t 0) (.t 1)) [(d 11),(.op (.bslice 2 1 Z5 [(0,(.t 0))]) [(la 2 (d 5))])]),s 1 (fa 1 (d 2)) (d 12)]) (.seq (.ifc 37 [] (bk .leq 0 (ld (fa 3 (d 2)))) (.exit 1) .skip) (.seq (.reg 40 [p 13 (ld (fa 3 (d 2))),p 14 (bk .sub 1 (d 13)),s 1 (fa 3 (d 2)) (d 14)]) (.ifc 44 [] (bk .eql 0 (ld (fa 3 (d 2)))) (.seq (.reg 47 [e (.store 1 (.t 0) K2) [(fa 4 (d 2))]]) (.seq (.reg 48 [s 5 (d 3) Jz,y 4 (.bool false)]) .ret)) .skip))))))) (.reg 49 [m 8 Tv])))))))) (.seq (.reg 50 [s 5 (d 3) Jz,y 4 (.bool true)]) .ret)))))⟩
def g42:FT:=⟨1,20,[.cell 2 true 5,.tmp 3],[0,1,2,3,6,10,15,16,19],true,(.seq (.reg 0 [p 1 W0,p 2 Wb,y 3 (.bool false)]) (.seq (.reg 4 [s 5 (d 1) (An 73 Yu)]) (.seq (.block 0 (.seq (.reg 7 [m 4 (ld (fa 4 (d 1)))]) (.ifv 4 (.seq (.reg 9 [s 5 (d 2) Yu,y 3 (.bool false)]) .ret) (.seq (.reg 11 [m 5 (bk .gtr 0 a2i)]) (.ifv 5 (.seq (.reg 14 [p 6 a2i,p 7 (bk .sub 1 (d 6)),s 1 (fa 2 (d 1)) (d 7)]) (.seq (.reg 18 [s 5 (d 2) Yu,y 3 (.bool true)]) .ret)) .skip))))) (.seq (.reg 0 [p 8 (.op (.call 75 [(.t 0),(.c (.fn (.func 76) [] []))]) [(d 1)])]) (.seq (.reg 20 [s 5 (d 2) Yu,y 3 (.bool true)]) .ret)))))⟩
def g43:FT:=⟨1,28,[.tmp 1],[0,2,3,5,6,7,8,9,11],true,(.seq Pk (.seq Vx (.seq (.seq W58 (.block 0 (.loop [0,2,4,5,6] [] (.seq Wf (.seq Tz (.seq (.block 1 (.seq (.reg 10 [p 8 (la 5 (ia 5 (d 4) (d 6))),p 3 Yo,s 5 (d 3) (d 8)]) (.seq (.ifc 12 [] (.or (b2 .leq K1 (v 2)) (no (An 77 (.op (.build [.int .i64 0,.int .i64 0,.int .i64 0,.int .i64 0,.emp,.emp] [(0,5,(.t 0)),(5,1,(.t 1))]) [Wg,(v 0)])))) (.seq Pk .ret) .skip) (.reg 23 [m 2 K1])))) (.reg 25 [m 6 Tx]))))))) (.seq (.reg 26 [m 1 (bk .leq 8 Gi)]) .ret))))⟩
def T8:FT:=⟨3,56,[.cell 3 true 10,.tmp 4],[0,1,2,6,7,8,9,10],false,(.seq (.reg 0 [p 3 (.op (.alloc Yi) []),y 4 (.bool false)]) (.seq (.rawE [[(0,I0 11 0),(1,I1 12 (.nilchk (.t 11))),(2,I6 13 0 12),(3,I6 14 38 13),(4,I7 15 14),(5,I1 16 (.bini .add (.t 15) (KI 1))),(6,I0 17 0),(8,I0 19 0),(9,I1 20 (.nilchk (.t 19))),(10,I6 21 0 20),(11,I6 22 33 21),(12,I1 23 (.load true 4 (.t 22))),(14,I0 25 0),(15,I1 26 (.nilchk (.t 25))),(16,I6 27 0 26),(17,I6 28 39 27),(18,I7 29 28),(19,I0 30 2),(24,I1 8 (.alloc Yi)),(7,I1 18 (.call 33 [(.t 17)])),(13,I1 24 (.call 32 [(.t 18),(.t 23)])),(20,I1 31 (.call 78 [(.t 16),(.t 24),(.t 29),(.t 30)])),(21,I0 10 31),(22,I8 32 10 0),(23,I8 33 10 1),(25,I9 10 8 32)],[(26,I0 9 33)]] (bm [0,1,3,7,15,31,0,64,0,256,768,1792,3840,8128,0,16384,49152,114688,245760,0,1048575,2097151,4194303,4194303,0,25165823,67108863])) (.seq (.ifc 34 [] (no (v 6)) (.seq (.reg 36 [s 10 (d 3) (la 10 (d 5)),y 4 (.bool false)]) .ret) .skip) (.seq (.rawE [[(0,I0 37 0),(1,I0 38 0),(2,I1 39 (.nilchk (.t 38))),(3,I6 40 0 39),(4,I6 41 33 40),(5,I1 42 (.load true 4 (.t 41))),(6,I6 43 8 8),(7,I7 44 43),(8,I1 45 (.call 79 [(.t 42),(.t 44)]))],[(9,I1 46 (.nilchk (.t 37)))],[(10,I6 47 0 46)],[(11,I6 48 33 47)],[(12,I9 4 48 45)]] (bm [0,0,2,6,14,30,0,64,254,511,1023,2047,4095])) (.seq (.rawE [[(0,I1 49 (.load true 10 (.t 8))),(1,I0 50 1),(2,I0 51 50),(3,I5 52 51 0),(4,I3 53 51 (.nilchk (.t 52))),(5,I3 54 51 (.faddr 0 (.t 53))),(6,I3 55 51 (.load true 41 (.t 54))),(7,I3 56 51 (.call 14 [(.t 55)])),(8,I3 57 51 (.bini .geq (.t 56) (KI 6))),(9,I1 58 (.pick (.t 51) K2 (.t 57))),(10,I9 10 6 49)],[(11,I0 7 58)]] (bm [0,0,2,6,14,30,62,126,254,510,255,2047])) .ret)))))⟩
def g45:FT:=⟨2,123,[.tmp 3],[0,1,3,4,5,6,7,8,9,10,106,107,108,109,110,112],true,(.seq ap9 (.seq (.rawE [[(0,I0 11 0),(1,I0 12 0),(2,I0 13 0),(3,I1 14 (.nilchk (.t 13))),(4,I6 15 0 14),(5,I6 16 38 15),(6,I7 17 16),(7,I1 18 (.bini .add (.t 17) (KI 1))),(8,I0 19 0),(9,I1 20 (.nilchk (.t 19))),(10,I6 21 0 20),(11,I6 22 37 21),(12,I7 23 22),(13,I1 24 (.bini .add (.t 23) (KI 1))),(14,I1 25 (.bini .rem (.t 24) (KI 6))),(15,I1 26 (.nilchk (.t 11))),(16,I6 27 0 26),(17,I6 28 38 27),(18,I9 1 28 18)],[(19,I1 29 (.nilchk (.t 12)))],[(20,I6 30 0 29)],[(21,I6 31 37 30)],[(22,I9 1 31 25)]] (bm [0,0,0,4,12,28,60,124,0,256,768,1792,3840,7936,16128,8189,40957,106493,237565,524287,1048575,2097151,4194303])) (.seq (.rawE [[(0,I0 32 0),(1,I1 33 (.nilchk (.t 32))),(2,I6 34 0 33),(3,I6 35 38 34),(4,I7 36 35),(5,I0 37 0),(7,I0 39 0),(8,I1 40 (.nilchk (.t 39))),(9,I6 41 0 40),(10,I6 42 33 41),(11,I1 43 (.load true 4 (.t 42))),(14,I1 5 (.alloc J9)),(6,I1 38 (.call 33 [(.t 37)])),(12,I1 44 (.call 80 [(.t 38),(.t 43)])),(13,I1 45 (.build J9 [(0,1,(KI 5)),(1,1,(.t 36)),(2,1,(.t 44))]))],[(15,I9 3 5 45)]] (bm [0,1,3,7,15,0,32,0,128,384,896,1920,4064,8191,0,32767])) (.seq (.rawE [[(0,I0 46 0),(1,I0 47 0),(2,I0 48 0),(3,I0 49 0),(4,I1 50 (.nilchk (.t 49))),(5,I6 51 0 50),(6,I6 52 38 51),(7,I7 53 52),(8,I6 54 2 3),(9,I1 55 (.load true 6 (.t 54))),(10,I6 56 9 3),(11,I7 57 56),(12,I1 58 (.iaddr 1 (.t 57) (KI 0))),(13,I7 59 58),(14,I1 60 (.load true 3 (.t 5))),(15,I1 61 (.call 81 [(.t 59),(.t 60)])),(16,I1 62 (.nilchk (.t 46))),(17,I6 63 0 62),(18,I6 64 11 63),(19,I6 65 0 64),(20,I9 1 65 53),(21,I1 66 (.nilchk (.t 47))),(22,I6 67 0 66),(23,I6 68 11 67),(24,I6 69 3 68),(25,I9 6 69 55)],[(26,I1 70 (.nilchk (.t 48)))],[(27,I6 71 0 70)],[(28,I6 72 11 71)],[(29,I6 73 9 72)],[(30,I9 6 73 61)]] (bm [0,0,0,0,8,24,56,120,0,256,0,1024,3072,7168,0,31744,64761,130297,261369,523513,1047801,2097147,4194299,8388603,16777211,33554427,67108863,134217727,268435455,536870911,1073741823])) (.seq (.rawE [[(0,I0 74 0),(1,I1 75 (.nilchk (.t 74))),(2,I6 76 0 75),(3,I6 77 38 76),(4,I7 78 77),(5,I0 79 0),(6,I1 80 (.nilchk (.t 79))),(7,I6 81 0 80),(8,I6 82 11 81),(9,I1 83 (.load true 22 (.t 82))),(12,I1 6 (.alloc J9)),(10,I1 84 (.call 82 [(.t 83)])),(11,I1 85 (.build J9 [(0,1,(KI 6)),(1,1,(.t 78)),(2,1,(.t 84))]))],[(13,I9 3 6 85)]] (bm [0,1,3,7,15,0,32,96,224,480,992,2047,0,8191])) (.seq (.rawE [[(0,I0 86 0),(1,I6 87 9 3),(2,I7 88 87),(3,I1 89 (.iaddr 1 (.t 88) (KI 1))),(4,I7 90 89),(5,I1 91 (.load true 3 (.t 6))),(6,I1 92 (.call 81 [(.t 90),(.t 91)]))],[(7,I1 93 (.nilchk (.t 86)))],[(8,I6 94 0 93)],[(9,I6 95 5 94)],[(10,I9 6 95 92)]] (bm [0,0,2,6,14,0,62,127,255,511,1023])) (.seq (.reg 96 [m 6 (.op Wc [Vz,(ld (fa 9 (d 2)))])]) (.seq (.reg 0 [y 7 (.emp)]) (.seq (.seq (.reg 101 [p 10 (.op (.append 3 32 J9 (.t 0) (.t 1)) [(ld Fk),(.op (.bslice 3 2 J9 [(0,(.t 0)),(1,(.t 1))]) [(la 3 (d 4)),(la 3 (d 5))])]),p 11 (ln (d 10)),z 12 0]) (.block 0 (.loop [6,7,10,11,12] [(7,2)] (.seq W86 (.seq (.ifv 13 .skip W8) (.seq (.block 1 (.seq (.reg 111 [m 14 (d 12),p 15 (la 3 (ia 3 (d 10) (d 12))),p 9 (.op (.alloc J9) []),m 8 (d 14),s 3 (d 9) (d 15)]) (.rawE [[(0,I0 113 8),(1,I0 114 7),(2,I0 115 9),(3,I1 116 (.iaddr 1 (.t 114) (.t 115))),(4,I7 117 116),(5,I1 118 (.load true 3 (.t 10))),(6,I1 119 (.call 83 [(.t 118)])),(7,I1 120 (.build Z5 [(0,1,(.t 117)),(1,1,(.t 119))])),(8,I1 121 (.bslice 2 1 Z5 [(0,(.t 120))]))],[(9,I1 122 (.append 2 24 Z5 (.t 113) (.t 121)))],[(10,I0 8 122)]] (bm [0,0,0,6,14,0,32,126,254,511,1023])))) (.reg 123 [m 12 (bk .add 1 (d 12))]))))))) (.seq (.reg 124 [m 3 (v 7)]) .ret))))))))))⟩
def g46:FT:=⟨2,17,[.tmp 3],[0,1,3,4],true,(.seq aq8 (.seq (.rawE [[(0,I0 5 0),(1,I0 6 0),(3,I1 8 (.load true 9 (.t 3))),(2,I1 7 (.call 33 [(.t 6)])),(4,I1 9 (.call 84 [(.t 7),(.t 8),(KI 0)]))],[(5,I1 10 (.call 20 [(.t 5),(.t 9)]))],[(6,I0 11 10)],[(7,I4 12 11 0),(8,I4 13 11 0),(10,I2 15 11 (.load true 9 (.t 3))),(9,I2 14 11 (.call 33 [(.t 13)])),(11,I2 16 11 (.call 84 [(.t 14),(.t 15),(KI 1)]))],[(12,I2 17 11 (.call 20 [(.t 12),(.t 16)]))],[(13,I1 18 (.pick (.t 11) (.t 17) W9))],[(14,I0 4 18)]] (bm [0,0,2,0,14,31,63,127,127,383,127,1919,4095,8191,16383])) .ret))⟩
def T7:FT:=⟨2,50,[.cell 4 true 30,.tmp 5],[0,1,2,3,4,5,6,7,8,9,13,14,15,18,19,32,38,39,40,43,44,45],false,(.seq b3q (.seq (.reg 0 [p 6 W74]) (.seq (.reg 10 [m 9 (.op (.call 49 [(.t 0),(.t 1),(.c (.int .i64 6))]) [Jz,(la 6 (d 3))]),p 10 (ex 0 (d 9)),p 11 (ex 1 (d 9)),m 7 (d 10),m 8 (d 11)]) (.seq (.seq (.reg 16 [m 12 (An 85 (v 7)),p 13 (ex 0 (d 12)),p 14 (ex 1 (d 12)),s 22 (fa 0 (d 6)) (d 13),m 8 (d 14)]) (.ifc 21 [] (.or (no (v 8)) (b2 .neq (ld (fa 0 (fa 0 (d 6)))) R0)) (.seq (.reg 31 [s 30 (d 4) a78,y 5 (.bool false)]) .ret) .skip)) (.seq (.reg 33 [m 15 (.op (.call 49 [(.t 0),(.t 1),Yn]) [Jz,(la 6 (fa 3 (fa 0 (d 6))))]),p 16 (ex 0 (d 15)),p 17 (ex 1 (d 15)),m 7 (d 16)]) (.seq (.seq (.reg 41 [m 18 (An 86 (v 7)),p 19 (ex 0 (d 18)),p 20 (ex 1 (d 18)),p 21 (ex 2 (d 18)),s 1 (fa 26 (d 6)) (d 19),s 1 (fa 27 (d 6)) (d 20),m 8 (d 21)]) (.ifc 48 [] (no (v 8)) (.seq (.reg 50 [s 30 (d 4) a78,y 5 (.bool false)]) .ret) .skip)) (.seq (.reg 51 [s 30 (d 4) (la 30 (d 6)),y 5 (.bool true)]) .ret)))))))⟩
def g48:FT:=⟨2,59,[.tmp 3],[0,1,2,4,5,6,7,8,12,13,14,15,16,18,21],false,(.seq Pm (.seq (.reg 0 [y 4 (.bool true)]) (.seq (.seq (.reg 9 [p 8 (ld (fa 27 (.op Jb [(v 1)]))),p 9 (ln (d 8)),z 10 0]) (.block 0 (.pre [.empC 1 28 1,.empC 1 29 1] (.loop [1,2,4,8,9,10] [] (.seq (.reg 0 [p 11 (b2 .lss (d 10) (d 9))]) (.seq (.ifv 11 .skip W8) (.seq (.block 1 (.seq (.reg 17 [m 12 (d 10),p 13 (la 6 (ia 6 (d 8) (d 10))),p 6 Jc,m 5 (d 12),s 6 (d 6) (d 13)]) (.seq (.reg 19 [p 14 (B9 87 Jz (la 6 (d 6))),p 7 (.op (.alloc Z15) []),s 9 (d 7) (d 14)]) (.seq (.rawE [[(0,I0 22 1),(1,I1 23 (.nilchk (.t 22))),(2,I6 24 26 23),(3,I7 25 24),(4,I0 26 6),(5,I0 27 1),(6,I0 28 1),(7,I6 29 5 8),(8,I7 30 29),(9,I0 31 1),(10,I1 32 (.nilchk (.t 31))),(11,I6 33 28 32),(12,I7 34 33),(13,I6 35 6 8),(14,I7 36 35),(15,I1 37 (.bslice 1 1 [.emp] [(0,(.t 36))])),(16,I1 38 (.append 1 24 [.emp] (.t 34) (.t 37))),(17,I0 39 1),(18,I1 40 (.nilchk (.t 39))),(19,I6 41 29 40),(20,I7 42 41),(21,I6 43 7 8),(22,I7 44 43),(23,I1 45 (.bslice 1 1 [.emp] [(0,(.t 44))])),(24,I1 46 (.append 1 24 [.emp] (.t 42) (.t 45))),(25,I1 47 (.iaddr 5 (.t 25) (.t 26))),(26,I6 48 4 47),(27,I9 1 48 30),(28,I1 49 (.nilchk (.t 27))),(29,I6 50 28 49),(30,I9 1 50 38)],[(31,I1 51 (.nilchk (.t 28)))],[(32,I6 52 29 51)],[(33,I9 1 52 46)]] (bm [0,1,3,7,0,0,0,0,128,0,512,1536,3584,0,8192,24576,65024,0,131072,393216,917504,0,2097152,6291456,16776704,33554335,67108767,134217631,268435391,536870847,1073741759,2147483647,4294967295,8589934591])) (.reg 53 [m 4 (.and (v 4) (no (ld (fa 8 (d 7)))))]))))) (.reg 59 [m 10 (bk .add 1 (d 10))])))))))) (.seq (.reg 60 [m 3 (v 4)]) .ret))))⟩
def g49:FT:=⟨3,18,[.tmp 5,.tmp 6],[0,1,2,3,4,6,7,13,18,19,20],true,(.seq b3u (.seq (.seq (.rawE [[(0,I6 8 0 4),(1,I7 9 8),(2,I1 10 (.load true 5 (.t 3))),(3,I1 11 (.call 51 [(.t 10)])),(4,I1 12 (.bini .add (KI 14) (.t 11)))],[(5,I1 13 (.bini .geq (.t 9) (.t 12)))]] (bm [0,1,0,4,12,31])) (.ifv 7 W63 .skip)) (.seq (.reg 14 [p 8 (M5 88 (la 5 (fa 0 (d 3))) (la 6 (d 4)) (v 2)),p 9 (ex 0 (d 8)),p 10 (ex 1 (d 8)),m 5 (d 9),m 6 (d 10)]) .ret)))⟩
def Vd:FT:=⟨2,42,[.cell 2 true 4,.tmp 3],[0,1,4,5,6,7,8,9,10,12,13,15,16,20,21,22,36],true,(.seq (.reg 0 [p 2 W87,y 3 (.bool false)]) (.seq (.reg 0 [p 4 W87]) (.seq (.reg 11 [m 5 (v 1),y 6 (.bool true)]) (.seq (.seq (.reg 0 [z 9 0]) (.block 0 (.loop [0,1,2,4,5,9] [] (.seq (.reg 0 [p 10 (bk .lss 4 (d 9))]) (.seq Wa (.seq (.block 1 (.seq (.reg 14 [m 7 (v 9)]) (.seq (.reg 17 [m 12 (d 7),m 11 (B9 89 (v 0) (v 5)),p 13 (ex 0 (d 11)),p 14 (ex 1 (d 11)),p 15 (ex 2 (d 11)),s 1 (.op U1 [(d 4),(d 12)]) (d 13),m 5 (d 14),m 6 (d 15)]) (.ifc 24 [] (no (v 6)) (.seq (.reg 26 [s 4 (d 2) (.op (.build Pd []) []),y 3 (.bool false)]) .ret) .skip)))) (.reg 27 [m 9 Vy]))))))) (.seq (.reg 28 [p 16 (.op b3w [(ld (.op (.iaddra 4 1 (.t 0) R2) [(d 4)])),(ld (.op (.iaddra 4 1 (.t 0) R1) [(d 4)])),(ld (.op (.iaddra 4 1 (.t 0) R4) [(d 4)])),(ld (.op (.iaddra 4 1 (.t 0) Sd) [(d 4)]))]),p 8 W87,s 4 (d 8) (d 16)]) (.seq (.ifc 37 [] (bs .neq (B9 80 (v 0) (la 4 (d 8))) (v 1)) (.seq (.reg 42 [s 4 (d 2) (.op (.build Pd []) []),y 3 (.bool false)]) .ret) .skip) (.seq (.reg 43 [s 4 (d 2) (la 4 (d 8)),y 3 (.bool true)]) .ret)))))))⟩
def g51:FT:=⟨1,7,[.tmp 2],[0,1,2],true,(.seq (.reg 0 [p 1 W0,z 2 0]) (.seq (.reg 3 [m 2 (bk .sub 28 (ln Pj))]) .ret))⟩
def g57:FT:=⟨1,25,[.tmp 2],[0,1,2],true,(.seq R6 (.seq (.reg 3 [m 2 (.and (.and (.and (bk .geq 0 (ld W6)) (bk .leq 65535 (ld W6))) (An 28 Yk)) (.or (bk .gtr 0 (ld W6)) (.op W49 [(la 6 (d 1)),Se])))]) .ret))⟩
def g58:FT:=⟨1,36,[.tmp 2],[0,1,2],true,(.seq R6 (.seq (.reg 3 [m 2 (.and (.and (.and (.and (.and (.and (bk .geq 1 (ld W6)) (An 28 (ld W6))) (An 28 Yk)) (bk .geq 0 a2i)) (bk .lss 6 a2i)) (An 57 (la 6 (fa 3 (d 1))))) (bk .gtr 0 (ld (fa 0 (fa 3 (d 1))))))]) .ret))⟩
def g59:FT:=⟨1,46,[.tmp 1],[0,2,3,4,5,21],true,(.seq R5 (.seq W3 (.seq (.seq Za (.block 0 (.loop [0,2,3] [] (.seq (.ifc 6 [] (b2 .lss (v 3) Gi) .skip W8) (.seq (.block 1 (.seq (.ifc 12 [] (no (An 57 W99)) (.seq R5 .ret) .skip) (.seq (.reg 18 [p 5 W99,p 4 Jc,s 6 (d 4) (d 5)]) (.reg 22 [m 2 (bs .add (v 2) (.op (.call 30 [W77,(.t 0)]) [(.op (.bslice 1 6 Z7 [(0,(.t 0)),(1,(.t 1)),(2,(.t 2)),(3,(.t 3)),(4,(.t 4)),(5,(.t 5))]) [(ld (fa 0 (d 4))),(ld (fa 1 (d 4))),(cv .i64 (ld (.op (.iaddra 4 1 (.t 0) R2) [(fa 2 (d 4))]))),(cv .i64 (ld (.op (.iaddra 4 1 (.t 0) R1) [(fa 2 (d 4))]))),(cv .i64 (ld (.op (.iaddra 4 1 (.t 0) R4) [(fa 2 (d 4))]))),(cv .i64 (ld (.op (.iaddra 4 1 (.t 0) Sd) [(fa 2 (d 4))])))])]))])))) (.reg 10 [m 3 a2j])))))) (.seq (.reg 46 [m 1 (v 2)]) .ret))))⟩
def g60:FT:=⟨1,5,[.cell 1 true 4],[0,2],true,(.seq (.reg 0 [p 1 Yq]) (.seq (.reg 3 [s 4 (d 1) (An 90 (.op W98 [(v 0)]))]) .ret))⟩
def g61:FT:=⟨1,6,[.tmp 1],[0,2,4],true,(.seq R5 (.seq (.reg 3 [p 2 (.op (.max2 (.t 0) R2) [(v 0)]),m 1 (.op (.convbs (.t 0)) [(.op (.mksl 1 1 [.int .u8 0] (.t 0) (.t 1)) [(d 2),(d 2)])])]) .ret))⟩
def g62:FT:=⟨1,59,[.tmp 2],[0,1,2,4,15,16,17],true,(.seq R6 (.seq (.ifc 5 [] (.or (bk .lss 40 (ld (fa 4 (d 1)))) (bk .gtr 240 (ld (fa 4 (d 1))))) Im .skip) (.seq (.seq (.reg 13 [p 4 (An 64 (la 4 W6)),z 5 0]) (.block 0 (.loop [1,4,5] [] (.seq (.reg 0 [p 6 (bk .lss 4 (d 5))]) (.seq O9 (.seq (.block 1 (.seq (.reg 18 [m 3 b3s]) (.ifc 19 [] (.or (no (An 91 (v 3))) (bk .gtr 0 (ln (B9 65 (v 3) (An 63 Yu))))) Im .skip))) (.reg 30 [m 5 W40]))))))) (.seq (.rawE [[(0,I6 31 0 1),(1,I6 32 0 31),(2,I6 33 0 32),(3,I7 34 33),(4,I6 35 0 1),(5,I6 36 0 35),(6,I6 37 1 36),(7,I7 38 37)],[(8,I1 39 (.call 92 [(.t 34),(.t 38)]))],[(9,I1 40 (.len false (.t 39)))],[(10,I1 41 (.bini .eql (.t 40) (KI 0)))],[(11,I0 42 41)],[(12,I2 43 42 (.faddr 0 (.t 1))),(13,I2 44 42 (.faddr 0 (.t 43))),(14,I2 45 42 (.faddr 0 (.t 44))),(15,I2 46 42 (.load false 1 (.t 45))),(16,I2 47 42 (.faddr 0 (.t 1))),(17,I2 48 42 (.faddr 0 (.t 47))),(18,I2 49 42 (.faddr 1 (.t 48))),(19,I2 50 42 (.load false 1 (.t 49))),(21,I2 52 42 (.faddr 0 (.t 1))),(22,I2 53 42 (.faddr 0 (.t 52))),(23,I2 54 42 (.faddr 2 (.t 53))),(24,I2 55 42 (.load false 1 (.t 54))),(20,I2 51 42 (.call 93 [(.t 46),(.t 50)]))],[(25,I2 56 42 (.call 92 [(.t 51),(.t 55)]))],[(26,I2 57 42 (.len false (.t 56)))],[(27,I2 58 42 (.bini .eql (.t 57) (KI 0)))],[(28,I1 59 (.pick (.t 42) (.t 58) W9))],[(29,I0 2 59)]] (bm [0,1,3,7,0,16,48,112,255,511,1023,2047,4095,8191,16383,32767,4095,69631,200703,462847,1048575,4095,2101247,6295551,14684159,33554431,67108863,134217727,268435455,536870911])) .ret))))⟩
def g63:FT:=⟨1,7,[.tmp 2],[0,1,2],true,(.seq ap8 (.seq (.reg 3 [m 2 (.op aq0 [(.op b3r [(.op W42 [(ld (fa 4 (d 1)))])])])]) .ret))⟩
def g64:FT:=⟨1,15,[.cell 2 true 4],[0,1,2],true,(.seq (.reg 0 [p 1 W0,p 2 W87]) (.seq (.reg 3 [s 4 (d 2) (.op b3w [Pj,Wi,Wh,(ld (fa 3 W6))])]) .ret))⟩
def g65:FT:=⟨2,7,[.tmp 2],[0,1,4],true,(.seq Yp (.seq (.reg 5 [m 2 (.op (.call 94 [(.t 0),(.c (.fn (.func 95) [] []))]) [W48])]) .ret))⟩
def g66:FT:=⟨2,6,[.tmp 2],[0,1,4],true,(.seq W1 (.seq (.reg 5 [m 2 (B9 96 (v 0) (v 1))]) .ret))⟩
def g67:FT:=⟨3,29,[.tmp 3],[0,1,2,6,7,8,9,15,16,17,18,19,21,25],true,(.seq Yr (.seq (.ifc 10 [] (b2 .neq Gi (ln (v 1))) (.seq Yr .ret) .skip) (.seq (.seq (.reg 0 [m 7 (d 0),p 8 (ln (d 7)),z 9 0]) (.block 0 (.loop [1,2,7,8,9] [] (.seq W43 (.seq Wa (.seq (.block 1 (.seq (.reg 20 [m 11 (d 9),p 12 (la 5 (ia 5 (d 7) (d 9))),p 5 Yo,m 4 (d 11),s 5 (d 5) (d 12)]) (.seq (.reg 22 [p 13 (la 5 (ia 5 (v 1) (v 4))),p 6 Yo,s 5 (d 6) (d 13)]) (.ifc 26 [] (no (.op (.calld (.t 0) [(.t 1),(.t 2)]) [(v 2),(la 5 (d 5)),Yv])) (.seq Yr .ret) .skip)))) (.reg 31 [m 9 Vy]))))))) W88)))⟩
def g68:FT:=⟨2,36,[.tmp 4],[0,1,2,3,4],true,(.seq W56 (.seq (.reg 5 [m 4 (.and (.and (.and (.and (b2 .eql (ld Fk) K1) (b2 .eql Vz R0)) (b2 .eql (ld (fa 2 (d 2))) (ld (fa 2 (d 3))))) (b2 .eql (ld (fa 3 (d 2))) Yj)) (B9 69 (ld (fa 4 (d 2))) (ld (fa 4 (d 3)))))]) .ret))⟩
def g69:FT:=⟨2,6,[.tmp 2],[0,1,4],true,(.seq W1 (.seq (.reg 5 [m 2 (B9 97 (v 0) (v 1))]) .ret))⟩
def g70:FT:=⟨1,54,[.cell 1 true 4],[0,2,3,4,5,6,7,8,9,26,27,28,29,30,32,41,42,44,46,48],true,(.seq (.reg 0 [p 1 Yq]) (.seq (.reg 0 [p 2 Yq]) (.seq (.reg 10 [m 3 (.op (.call 98 [(.t 0),(.c (.str []))]) [(v 0)])]) (.seq (.seq (.reg 0 [z 4 0]) (.block 0 (.loop [1,2,3,4] [] (.seq (.ifc 12 [] (b2 .lss (v 4) (ls (v 3))) .skip W8) (.seq (.block 1 (.seq (.reg 0 [y 5 (.int .u32 0)]) (.seq (.seq (.reg 18 [p 9 (.op (.convsb (.t 0)) [(.op (.slices (.t 0) (some (.t 1)) (some (.t 2))) [(v 3),(v 4),(.op (.min2 (.t 0) (.t 1)) [(bk .add 4 (v 4)),(ls (v 3))])])]),p 10 (ln (d 9)),z 11 0]) (.block 2 (.loop [1,2,3,4,5,9,10,11] [] (.seq (.reg 0 [p 12 (b2 .lss (d 11) (d 10))]) (.seq (.ifv 12 .skip Pl) (.seq (.block 3 (.seq (.reg 31 [m 13 (d 11),p 14 (ld (ia 1 (d 9) (d 11))),m 6 (d 13),m 7 (d 14)]) (.reg 33 [m 5 (b2 .or (v 5) (b2 .shl (cv .u32 (v 7)) (.op W61 [(v 6)])))]))) (.reg 40 [m 11 (bk .add 1 (d 11))]))))))) (.seq (.reg 0 [z 15 0]) (.block 4 (.loop [1,2,3,4,5,15] [] (.seq (.reg 0 [p 16 (bk .lss 4 (d 15))]) (.seq (.ifv 16 .skip (.exit 4)) (.seq (.block 5 (.seq (.reg 43 [m 8 (v 15)]) (.seq (.reg 45 [m 17 (d 8),p 18 (ld (.op U1 [(d 2),(d 17)])),p 19 (b2 .add (d 18) (v 5)),s 1 (.op U1 [(d 2),(d 17)]) (d 19)]) (.reg 50 [m 5 (ld (.op U1 [(d 2),(v 8)]))])))) (.reg 53 [m 15 (bk .add 1 (d 15))])))))))))) (.reg 16 [m 4 (bk .add 4 (v 4))])))))) (.seq (.reg 54 [s 4 (d 1) (la 4 (d 2))]) .ret)))))⟩
def g72:FT:=⟨1,33,[.tmp 1,.tmp 2,.tmp 3],[0,2,3,4,6,7,9,10,11,12,27,30,32,33],true,(.seq (.reg 0 [y 1 (.emp),z 2 0,y 3 (.bool false)]) (.seq (.seq (.reg 8 [p 6 (.op (.convsb (.t 0)) [(v 0)]),p 7 (ln (d 6)),z 8 0]) (.block 0 (.loop [1,2,6,7,8] [(1,1)] (.seq Wd (.seq Tw (.seq (.block 1 (.seq (.reg 13 [m 4 (ld (ia 1 (d 6) (d 8)))]) (.seq (.reg 15 [m 5 (bk .sub 48 (cv .i64 (v 4)))]) (.seq (.ifc 18 [] (.or (bk .lss 1 (v 5)) (bk .gtr 4 (v 5))) (.seq (.reg 0 [y 1 (.emp),z 2 0,y 3 (.bool false)]) .ret) .skip) (.reg 24 [p 10 (.op Wc [(v 1),(.op Ys [(v 5)])]),p 11 (b2 .add (v 2) (v 5)),m 1 (d 10),m 2 (d 11)]))))) (.reg 31 [m 8 Tv]))))))) (.seq (.reg 0 [m 12 (d 1),m 13 (d 2),m 1 (d 12),m 2 (d 13),y 3 (.bool true)]) .ret)))⟩
def g73:FT:=⟨1,11,[.cell 2 true 5],[0,1,2],false,(.seq (.reg 0 [p 1 W0,p 2 Wb]) (.seq (.rawE [[(0,I6 3 0 1),(1,I7 4 3),(3,I6 6 1 1),(4,I7 7 6),(2,I1 5 (.call 52 [(.t 4)]))],[(6,I6 9 0 1),(5,I1 8 (.call 53 [(.t 7)]))],[(7,I9 1 9 5)],[(8,I6 10 1 1)],[(9,I9 1 10 8)]] (bm [0,1,3,0,8,31,31,127,255,511])) (.seq (.pre [.empC 1 0 1,.empC 1 1 2] (.reg 11 [s 5 (d 2) Yu])) .ret)))⟩
def g74:FT:=⟨2,12,[.tmp 3],[0,1,2,4],true,(.seq Pm (.seq (.reg 5 [m 3 b3t]) .ret))⟩
def g75:FT:=⟨2,45,[],[0,1,4,5,9,10,11,12,13,15,21],false,(.seq (.seq (.reg 6 [p 4 (ld (fa 1 W5)),p 5 (ln (d 4)),z 6 0]) (.block 0 (.loop [0,1,4,5,6] [] (.seq Wf (.seq Tz (.seq (.block 1 (.seq (.reg 14 [m 8 (d 6),p 9 (la 2 (ia 2 (d 4) (d 6))),p 3 (.op (.alloc Z5) []),m 2 (d 8),s 2 (d 3) (d 9)]) (.seq (.rawE [[(0,I0 16 0),(1,I1 17 (.nilchk (.t 16))),(2,I1 18 (.load true 5 (.t 17))),(3,I6 19 0 5),(4,I7 20 19)],[(5,I1 21 (.call 74 [(.t 18),(.t 20)]))]] (bm [0,1,3,0,8,31])) (.ifv 10 (.rawE [[(0,I0 22 0),(1,I1 23 (.nilchk (.t 22))),(2,I6 24 0 23),(3,I7 25 24),(4,I6 26 0 5),(5,I7 27 26),(6,I0 28 0),(7,I1 29 (.nilchk (.t 28))),(8,I6 30 0 29),(9,I7 31 30),(10,I6 32 0 5),(11,I7 33 32),(12,I1 34 (.iaddr 1 (.t 31) (.t 33))),(13,I7 35 34),(14,I6 36 1 5),(15,I7 37 36),(16,I0 38 1),(17,I0 39 4),(18,I1 40 (.calld (.t 38) [(.t 39)])),(19,I1 41 (.call 105 [(.t 35),(.t 37),(.t 40)]))],[(20,I1 42 (.iaddr 1 (.t 25) (.t 27)))],[(21,I9 1 42 41)]] (bm [0,1,3,7,0,16,0,64,192,448,0,1024,4032,8128,0,16384,0,0,196608,524224,1048575,2097151])) .skip)))) (.reg 43 [m 6 Tx]))))))) (.reg 44 [e (.store 1 (.t 0) (.c (.emp))) [(fa 1 W5)]]))⟩
def g76:FT:=⟨1,2,[.tmp 1],[0,2],true,(.seq (.reg 0 [z 1 0]) (.seq (.reg 0 [z 1 3]) .ret))⟩
def Lm:FT:=⟨1,71,[.tmp 2],[0,1,2,34,35,58],true,(.seq R6 (.seq (.ifc 3 [] (.or (.or (.or (.or (bk .lss 1 Pj) (bk .gtr 65535 Pj)) (no (An 106 (ld (fa 4 W6))))) (bk .lss 0 (ld (fa 3 W6)))) (bk .gtr 255 (ld (fa 3 W6)))) Im .skip) (.seq (.seq (.reg 32 [p 3 Wi]) (.block 0 (.seq (.reg 36 [m 4 (bk .eql 1 (d 3))]) (.ifv 4 (.seq (.reg 37 [m 2 (.or (bk .eql 0 Wh) (.and (.op (.call 107 [(.t 0),(.t 1),R4]) [(ld (fa 5 (d 1))),Wh]) (no (B9 108 (ld (fa 5 (d 1))) Pj))))]) .ret) (.seq (.reg 59 [m 5 (bk .eql 2 (d 3))]) (.ifv 5 (.seq (.reg 60 [m 2 (.and (bk .eql 0 (ld (fa 3 W6))) (.op (.call 107 [(.t 0),(.t 1),R1]) [(ld (fa 5 (d 1))),Wh]))]) .ret) .skip)))))) Im)))⟩
def O3:FT:=⟨4,112,[.cell 4 true 10,.tmp 5],[0,1,2,3,8,9,10,11,13,14,37,38,44,45,48,49,50,51,53,61,66,85,93],false,(.seq (.reg 0 [p 4 (.op (.alloc Yi) []),y 5 (.bool false)]) (.seq (.ifc 15 [] (.or (.or (.or (no (An 43 (v 2))) (bk .lss 1 (v 0))) (bk .gtr 1073741824 (v 0))) (no (An 91 (v 1)))) (.seq (.reg 31 [s 10 (d 4) (.op (.build Yi []) []),y 5 (.bool false)]) .ret) .skip) (.seq (.reg 32 [m 6 (.op (.box (.t 0)) [(.op (.build [.emp,.emp,.int .i64 0,.int .i64 0,.int .u32 0,.int .u32 0,.int .u32 0,.int .u32 0,.emp,.emp,.int .i64 0,.emp,.emp,.emp] [(10,1,(.t 0)),(12,1,(.t 1))]) [(v 0),(An 109 (v 3))])])]) (.seq (.reg 39 [m 11 (d 6),m 10 (B9 110 (v 1) (.op (.min2 (.t 0) (.c (.int .i64 331))) [(An 31 (v 1))])),p 12 Yx,p 13 Yw,s 1 (fa 11 (.op Jb [(d 11)])) (d 12)]) (.seq (.reg 0 [y 7 (.emp)]) (.seq (.seq (.reg 0 [m 14 (d 2),p 15 (ln (d 14)),z 16 0]) (.block 0 (.pre [.empC 6 0 3,.empC 6 1 1,.empC 6 13 1] (.loop [2,4,6,7,14,15,16] [(7,6)] (.seq W85 (.seq (.ifv 17 .skip W8) (.seq (.block 1 (.seq (.reg 52 [p 18 (la 5 (ia 5 (d 14) (d 16))),p 8 Yo,s 5 (d 8) (d 18)]) (.reg 54 [m 7 (.op aq4 [(v 7),(.op aq2 [(B9 111 (v 6) (la 5 (d 8)))])])]))) (.reg 60 [m 16 (bk .add 1 (d 16))])))))))) (.seq (.reg 62 [m 19 (d 6),p 20 (.op (.call 112 [(.t 0),Yn,(.t 1)]) [(v 6),(B9 113 (v 2) (v 7))]),s 6 (fa 2 (fa 0 (.op Jb [(d 19)]))) (d 20)]) (.seq (.reg 70 [m 9 (ln (ld (fa 0 (fa 0 (.op Jb [(v 6)])))))]) (.seq (.ifc 76 [] (b2 .gtr (bk .add 2 (v 9)) (ln (ld (fa 11 (.op Jb [(v 6)]))))) (.seq (.reg 84 [s 10 (d 4) (.op (.build Yi []) []),y 5 (.bool false)]) .ret) .skip) (.seq (.reg 86 [m 21 (d 6),p 22 (An 114 (.op (.slicel 1 (.t 0) none (some R4)) [(.op W95 [(ld (fa 11 (.op Jb [(v 6)]))),(v 9)])])),s 1 (fa 9 (fa 0 (.op Jb [(d 21)]))) (d 22)]) (.seq (.pre [.fz 22] (.rawE [[(0,I0 97 10),(1,I0 98 10),(2,I1 99 (.nilchk (.t 98))),(3,I6 100 13 99),(4,I7 101 100),(5,I0 102 10),(6,I1 103 (.nilchk (.t 102))),(7,I6 104 0 103),(8,I6 105 9 104),(9,I7 106 105),(10,I1 107 (.append 1 8 Z7 (.t 101) (.t 106))),(11,I1 108 (.call 115 [(.t 107)]))],[(12,I1 109 (.nilchk (.t 97)))],[(13,I6 110 0 109)],[(14,I6 111 8 110)],[(15,I9 1 111 108)]] (bm [0,0,2,6,14,0,32,96,224,480,1022,2046,4095,8191,16383,32767]))) (.seq (.reg 112 [s 10 (d 4) (la 10 (fa 0 (.op Jb [(v 6)]))),y 5 (.bool true)]) .ret))))))))))))⟩
def g79:FT:=⟨2,21,[.cell 3 true 4],[0,1,2,4,5],true,(.seq (.reg 0 [p 2 W0,p 3 W87]) (.seq (.reg 6 [m 4 (B9 65 (ld Fk) (v 1))]) (.seq (.rawE [[(0,I0 10 1),(2,I0 12 5),(3,I6 13 1 2),(4,I7 14 13),(5,I0 15 1),(7,I0 17 5),(9,I6 19 3 2),(10,I7 20 19),(1,I1 11 (.call 116 [(.t 10)])),(6,I1 16 (.call 65 [(.t 14),(.t 15)])),(8,I1 18 (.call 65 [(.t 16),(.t 17)])),(11,I1 21 (.call 116 [(.t 20)]))],[(12,I1 22 (.build Pd [(0,1,(.t 11)),(1,1,(.t 12)),(2,1,(.t 18)),(3,1,(.t 21))]))],[(13,I9 4 4 22)]] (bm [0,1,0,0,8,0,59,0,251,0,512,2043,4095,8191])) .ret)))⟩
def g80:FT:=⟨2,26,[.tmp 3],[0,1,3,4],true,(.seq (.reg 0 [p 2 W4,y 3 (.str [])]) (.seq (.ifc 5 [] (no (B9 117 (v 0) (la 4 (d 2)))) (.seq (.reg 0 [y 3 (.str [])]) .ret) .skip) (.seq (.rawE [[(0,I0 9 0),(1,I6 10 0 3),(2,I7 11 10),(4,I0 13 0),(5,I6 14 1 3),(6,I7 15 14),(9,I0 18 0),(10,I6 19 2 3),(11,I7 20 19),(14,I0 23 0),(15,I6 24 3 3),(16,I7 25 24),(3,I1 12 (.call 118 [(.t 9),(.t 11)])),(7,I1 16 (.call 118 [(.t 13),(.t 15)])),(8,I1 17 (.bins .add (.t 12) (.t 16))),(12,I1 21 (.call 118 [(.t 18),(.t 20)])),(13,I1 22 (.bins .add (.t 17) (.t 21))),(17,I1 26 (.call 118 [(.t 23),(.t 25)]))],[(18,I1 27 (.bins .add (.t 22) (.t 26)))],[(19,I0 4 27)]] (bm [0,0,2,7,0,0,32,127,255,0,0,1024,3839,8191,0,0,32768,122623,262143,524287])) .ret)))⟩
def g81:FT:=⟨2,9,[.cell 3 true 6],[0,1,3,4],true,(.seq (.reg 0 [p 2 W4,p 3 Jc]) (.seq (.rawE [[(0,I0 5 0),(1,I1 6 (.load true 3 (.t 3))),(3,I6 8 1 3),(4,I7 9 8),(2,I1 7 (.call 83 [(.t 6)]))],[(5,I1 10 (.call 119 [(.t 5),(.t 7),(.t 9)]))],[(6,I9 6 4 10)]] (bm [0,0,2,0,8,31,63])) .ret))⟩
def S6:FT:=⟨1,55,[.tmp 2],[0,1,2,3],true,(.seq U2 (.seq (.ifc 4 [] (.or (.or (.or (.or (bk .lss 1 (ld W6)) (no (.op W45 [(ld W6)]))) (no (.op W45 [Yk]))) (no (.op W45 [a2i]))) (no (.op W45 [(ld (fa 21 (d 1)))]))) Ja .skip) (.seq (.reg 31 [m 3 (An 121 (.op (.bslice 6 3 Fj [(0,(.t 0)),(1,(.t 1)),(2,(.t 2))]) [(la 6 (fa 3 (d 1))),(la 6 (fa 9 (d 1))),(la 6 (fa 15 (d 1)))]))]) (.seq (.ifc 39 [] (.op W52 [(v 3)]) Ja .skip) (.seq (.rawE [[(0,I6 41 0 1),(1,I7 42 41),(2,I6 43 1 1),(3,I7 44 43),(4,I6 45 2 1),(5,I7 46 45),(6,I1 47 (.bslice 1 3 Z7 [(0,(.t 42)),(1,(.t 44)),(2,(.t 46))])),(8,I0 49 3),(10,I6 51 21 1),(11,I7 52 51),(12,I1 53 (.bslice 1 1 Z7 [(0,(.t 52))])),(7,I1 48 (.call 39 [(.c (.str [52,52,52])),(.t 47)])),(9,I1 50 (.bins .add (.t 48) (.t 49))),(13,I1 54 (.call 39 [(.c (.str [52])),(.t 53)]))],[(14,I1 55 (.bins .add (.t 50) (.t 54)))],[(15,I0 2 55)]] (bm [0,1,0,4,0,16,63,127,0,511,0,1024,3072,7423,16383,32767])) .ret)))))⟩
def g83:FT:=⟨1,5,[.tmp 2],[0,1,2],true,(.seq U2 (.seq (.reg 3 [m 2 (An 122 (.op (.build J9 [(0,3,(.t 0))]) [(la 3 (d 1))]))]) .ret))⟩
def Vc:FT:=⟨3,39,[.tmp 4],[0,1,2,4,6,7,8],true,(.seq (.reg 0 [p 3 W4,y 4 (.emp)]) (.seq (.ifc 9 [] (.or (.or (.or (no (An 40 (v 0))) (no (An 123 (la 9 (d 3))))) (bk .lss 0 (v 2))) (bk .geq 2 (v 2))) (.seq (.reg 0 [y 4 (.emp)]) .ret) .skip) (.seq a71 (.seq (.seq (.reg 25 [m 6 (v 2)]) (.block 0 (.loop [0,3,5,6] [(5,2)] (.seq (.ifc 26 [] (bk .lss 4 (v 6)) .skip W8) (.seq (.block 1 (.rawE [[(0,I0 30 7),(1,I0 31 0),(2,I0 32 8),(3,I6 33 2 4),(4,I7 34 33),(6,I1 36 (.load true 9 (.t 4))),(5,I1 35 (.call 124 [(.t 31),(.t 32),(.t 34)])),(7,I1 37 (.call 125 [(.t 36)])),(8,I1 38 (.build Z5 [(0,1,(.t 35)),(1,1,(.t 37))])),(9,I1 39 (.bslice 2 1 Z5 [(0,(.t 38))]))],[(10,I1 40 (.append 2 24 Z5 (.t 30) (.t 39)))],[(11,I0 7 40)]] (bm [0,0,0,0,8,30,0,126,254,510,1023,2047]))) (.reg 28 [m 6 (bk .add 2 (v 6))])))))) (.seq (.reg 41 [m 4 (v 5)]) .ret)))))⟩
def Vb:FT:=⟨1,65,[.cell 1 true 22,.tmp 2],[0,2,3,4,5,6,7,8,9,10,11,14,15,16,20,23,24,25,29,32,33,34],true,(.seq (.reg 0 [p 1 (.op (.alloc Z3) []),y 2 (.bool false)]) (.seq (.reg 12 [m 10 (.op (.call 126 [(.c (.str [52,52,52])),(.t 0)]) [(v 0)]),p 11 Yx,p 12 Yw,p 13 (ex 2 (d 10)),m 3 (d 11),m 4 (d 12),m 5 (d 13)]) (.seq (.ifc 17 [] (no (v 5)) (.seq (.reg 19 [s 22 (d 1) a77,y 2 (.bool false)]) .ret) .skip) (.seq (.reg 21 [m 14 (.op (.call 127 [(.t 0),Sd]) [(v 4)]),p 15 (ex 0 (d 14)),p 16 (ex 1 (d 14)),p 17 (ex 2 (d 14)),m 6 (d 15),m 4 (d 16),m 5 (d 17)]) (.seq (.ifc 26 [] (no (v 5)) (.seq (.reg 28 [s 22 (d 1) a77,y 2 (.bool false)]) .ret) .skip) (.seq (.reg 30 [m 18 (.op (.call 126 [(.c (.str [52])),(.t 0)]) [(v 4)]),p 19 (ex 0 (d 18)),p 20 (ex 1 (d 18)),p 21 (ex 2 (d 18)),m 7 (d 19),m 8 (d 20),m 5 (d 21)]) (.seq (.ifc 35 [] (no (v 5)) (.seq (.reg 37 [s 22 (d 1) a77,y 2 (.bool false)]) .ret) .skip) (.seq (.rawE [[(0,I0 38 4),(1,I1 39 (.iaddr 1 (.t 38) (KI 0))),(2,I7 40 39),(3,I0 41 4),(4,I1 42 (.iaddr 1 (.t 41) (KI 1))),(5,I7 43 42),(6,I0 44 4),(7,I1 45 (.iaddr 1 (.t 44) (KI 2))),(8,I7 46 45),(9,I0 47 7),(10,I1 48 (.iaddr 6 (.t 47) (KI 0))),(11,I1 49 (.load true 6 (.t 48))),(12,I0 50 7),(13,I1 51 (.iaddr 6 (.t 50) (KI 1))),(14,I1 52 (.load true 6 (.t 51))),(15,I0 53 7),(16,I1 54 (.iaddr 6 (.t 53) (KI 2))),(17,I1 55 (.load true 6 (.t 54))),(18,I0 56 8),(19,I1 57 (.iaddr 1 (.t 56) (KI 0))),(20,I7 58 57),(21,I1 59 (.build Z3 [(0,1,(.t 40)),(1,1,(.t 43)),(2,1,(.t 46)),(3,6,(.t 49)),(9,6,(.t 52)),(15,6,(.t 55)),(21,1,(.t 58))])),(22,I1 10 (.alloc Z3))],[(23,I9 22 10 59)]] (bm [0,1,3,0,8,24,0,64,192,0,512,1536,0,4096,12288,0,32768,98304,0,262144,786432,2097151,0,8388607])) (.seq (.ifc 60 [] (bs .neq (An 82 (la 22 (d 9))) (v 0)) (.seq (.reg 64 [s 22 (d 1) a77,y 2 (.bool false)]) .ret) .skip) (.seq (.reg 65 [s 22 (d 1) (la 22 (d 9)),y 2 (.bool true)]) .ret))))))))))⟩
def g86:FT:=⟨1,70,[.tmp 1,.tmp 2,.tmp 3],[0,2,3,4,5,6,7,8,9,10,11,14,15,16,21,22,23,24,27,28,29,32,35,36,37,69,70],false,(.seq W26 (.seq (.reg 12 [m 10 (.op (.call 126 [(.c (.str [49])),(.t 0)]) [(v 0)]),p 11 Yx,p 12 Yw,p 13 (ex 2 (d 10)),m 4 (d 11),m 5 (d 12),m 3 (d 13)]) (.seq (.ifc 17 [] (no (v 3)) (.seq W26 .ret) .skip) (.seq (.seq (.reg 19 [p 14 (ld (ik 1 0 (v 4))),z 15 0]) (.block 0 (.loop [0,1,2,5,14,15] [(1,5),(2,6)] (.seq (.reg 0 [p 16 (b2 .lss (d 15) (d 14))]) (.seq (.ifv 16 .skip W8) (.seq (.block 1 (.seq (.reg 25 [m 17 (.op (.call 126 [(.c (.str [50,49,50,49])),(.t 0)]) [(v 5)]),p 18 (ex 0 (d 17)),p 19 (ex 1 (d 17)),p 20 (ex 2 (d 17)),m 6 (d 18),m 7 (d 19),m 8 (d 20)]) (.seq (.ifc 30 [] (no (v 8)) (.seq W26 .ret) .skip) (.seq (.reg 33 [m 21 (.op (.call 127 [(.t 0),R1]) [(v 7)]),p 22 (ex 0 (d 21)),p 23 (ex 1 (d 21)),p 24 (ex 2 (d 21)),m 9 (d 22),m 7 (d 23),m 8 (d 24)]) (.seq (.ifc 38 [] (no (v 8)) (.seq W26 .ret) .skip) (.rawE [[(0,I0 40 2),(1,I0 41 7),(2,I1 42 (.iaddr 1 (.t 41) (KI 0))),(3,I7 43 42),(4,I0 44 7),(5,I1 45 (.iaddr 1 (.t 44) (KI 1))),(6,I7 46 45),(7,I0 47 7),(8,I1 48 (.iaddr 1 (.t 47) (KI 2))),(9,I7 49 48),(10,I0 50 7),(11,I1 51 (.iaddr 1 (.t 50) (KI 3))),(12,I7 52 51),(13,I1 53 (.build Z4 [(0,1,(.t 43)),(1,1,(.t 46)),(2,1,(.t 49)),(3,1,(.t 52))])),(14,I1 54 (.bslice 5 1 Z4 [(0,(.t 53))])),(15,I1 55 (.append 5 56 Z4 (.t 40) (.t 54))),(16,I0 56 3),(17,I0 57 10),(18,I1 58 (.iaddr 6 (.t 57) (KI 0))),(19,I1 59 (.load true 6 (.t 58))),(20,I1 60 (.bslice 6 1 Fj [(0,(.t 59))])),(21,I1 61 (.append 6 32 Fj (.t 56) (.t 60))),(22,I0 62 8),(23,I0 2 55),(24,I0 3 61)],[(25,I0 6 62)]] (bm [0,0,2,6,0,16,48,0,128,384,0,1024,3072,8190,16382,32767,0,0,131072,393216,917504,2097151,0,4194303,12582911,33554431]))))))) (.reg 63 [m 15 (bk .add 1 (d 15))]))))))) (.seq (.ifc 64 [] (bs .neq (B9 113 (v 1) (v 2)) (v 0)) (.seq W26 .ret) .skip) (.seq (.reg 0 [m 25 (d 1),m 26 (d 2),m 1 (d 25),m 2 (d 26),y 3 (.bool true)]) .ret))))))⟩
def g87:FT:=⟨2,55,[.cell 4 true 9],[0,1,2,3,4,5,6,7,8,9,10,11,17,21,22,23,26,27,30,32,34,35,36,37,38,40,49,55],true,(.seq (.reg 0 [p 2 W0,p 3 W4,p 4 (.op (.alloc Z15) [])]) (.seq (.rawE [[(0,I1 12 (.load true 5 (.t 2))),(2,I1 14 (.mksl 6 32 Fj (KI 8) (KI 8))),(3,I1 15 (.mksl 6 32 Fj (KI 32) (KI 32))),(5,I1 5 (.alloc Z15)),(1,I1 13 (.call 18 [])),(4,I1 16 (.build Z15 [(0,5,(.t 12)),(5,1,(.t 13)),(6,1,(.t 14)),(7,1,(.t 15))]))],[(6,I9 9 5 16)]] (bm [0,0,0,0,15,0,63])) (.seq (.reg 18 [m 12 (.op (.call 49 [(.t 0),(.t 1),Sd]) [Jz,(la 6 (d 3))]),p 13 (ex 0 (d 12)),p 14 (ex 1 (d 12)),m 6 (d 13),m 7 (d 14)]) (.seq (.reg 24 [m 15 (An 128 (v 6)),p 16 (ex 0 (d 15)),p 17 (ex 1 (d 15)),m 8 (d 16),m 9 (d 17)]) (.seq (.ifc 28 [] (no (v 9)) (.seq (.reg 0 [p 18 (An 129 (d 5))]) (.seq (.reg 31 [s 9 (d 4) (la 9 (d 5))]) .ret)) .skip) (.seq (.reg 33 [m 19 (d 8),s 1 (fa 6 (d 5)) (d 19)]) (.seq (.seq (.reg 0 [m 20 (d 8),p 21 (ln (d 20)),z 22 0]) (.block 0 (.loop [4,5,20,21,22] [] (.seq (.reg 0 [p 23 (b2 .lss (d 22) (d 21))]) (.seq (.ifv 23 .skip W8) (.seq (.block 1 (.seq (.reg 39 [m 24 (d 22),p 25 (la 6 (ia 6 (d 20) (d 22))),p 11 Jc,m 10 (d 24),s 6 (d 11) (d 25)]) (.ifc 41 [] (.or (bk .eql 0 (v 10)) (.op Yt [(la 6 (d 11)),Se])) (.reg 48 [p 26 (B9 130 (d 5) (v 10))]) .skip))) (.reg 50 [m 22 (bk .add 1 (d 22))]))))))) (.seq (.ifc 51 [] (no (An 131 (ld (fa 5 (d 5))))) (.reg 0 [p 27 (An 129 (d 5))]) .skip) (.seq (.reg 56 [s 9 (d 4) (la 9 (d 5))]) .ret)))))))))⟩
def Xw:FT:=⟨3,31,[.tmp 5,.tmp 6],[0,1,2,3,4,6,7,8,9,10,14,19,20,22],true,(.seq b3u (.seq (.ifc 11 [] (bk .lss 14 (ld (fa 0 (d 4)))) W63 .skip) (.seq (.reg 15 [m 10 (B9 132 Wg (ld (fa 0 (d 4)))),p 11 Yx,p 12 Yw,m 7 (d 11),m 8 (d 12)]) (.seq (.seq (.reg 21 [p 13 (An 133 (v 7)),p 9 (.op (.alloc Z16) []),s 4 (d 9) (d 13)]) (.ifc 23 [] (.and (v 8) (M5 134 (la 4 (d 9)) (la 6 (d 4)) (v 2))) (.seq (.reg 30 [m 5 (ld (fa 2 (fa 0 (fa 0 (d 9))))),y 6 (.bool true)]) .ret) .skip)) W63))))⟩
def g89:FT:=⟨2,47,[.tmp 2,.tmp 3,.tmp 4],[0,1,4,5,6,7,8,21,22,23],true,(.seq W2 (.seq (.ifc 9 [] (.or (no (An 135 (v 0))) (b2 .lss (ls (v 1)) (An 136 (v 0)))) Vw .skip) (.seq a71 (.seq (.seq (.reg 19 [p 7 (.op W61 [(An 136 (v 0))]),z 8 0]) (.block 0 (.loop [0,1,5,7,8] [(5,1)] (.seq Wd (.seq Tw (.seq (.block 1 (.seq (.reg 24 [m 6 (v 8)]) (.seq (.ifc 25 [] (.op (.bini .eql (.t 0) (.c (.int .u8 0))) [(.op (.bini .and (.t 0) (.c (.int .u8 1))) [(b2 .shr (ix (v 1) (bk .quo 8 (v 6))) (bk .rem 8 (v 6)))])]) (.exit 1) .skip) (.seq (.ifc 34 [] (b2 .geq (v 6) (v 0)) Vw .skip) (.reg 37 [m 5 (.op Wc [(v 5),(.op Ys [(.op W42 [(v 6)])])])]))))) (.reg 42 [m 8 Tv]))))))) (.seq (.rawE [[(0,I0 43 7),(2,I0 45 1),(3,I0 46 0),(1,I1 44 (.call 115 [(.t 43)])),(4,I1 47 (.call 136 [(.t 46)])),(5,I1 48 (.slices (.t 45) (some (.t 47)) none)),(6,I0 4 44)],[(7,I0 5 48)],[(8,I1 6 (.mv K2))]] (bm [0,1,0,0,11,31,27,127,255])) .ret)))))⟩
def g90:FT:=⟨1,62,[.cell 1 true 4],[0,2,3,4,5,6,7,8,9,52,57],true,(.seq (.reg 0 [p 1 Yq]) (.seq W3 (.seq (.seq Za (.block 0 (.loop [0,1,2,3] [] (.seq (.ifc 10 [] (b2 .lss (v 3) Gi) .skip W8) (.seq (.block 1 (.reg 16 [m 2 (bs .add (v 2) (ld (ia 1 (v 0) (v 3))))])) (.reg 14 [m 3 a2j])))))) (.seq (.reg 0 [p 4 Yq]) (.seq (.seq (.reg 0 [z 5 0]) (.block 2 (.loop [1,2,4,5] [] (.seq (.ifc 22 [] (b2 .lss (v 5) (ls (v 2))) .skip Pl) (.seq (.block 3 (.seq (.reg 0 [y 6 (.int .u32 0)]) (.seq (.seq (.reg 0 [z 7 3]) (.block 4 (.loop [1,2,4,5,6,7] [] (.seq (.ifc 28 [] (bk .geq 0 (v 7)) .skip (.exit 4)) (.seq (.block 5 (.seq (.reg 32 [m 6 (.op (.bini .mul (.t 0) (.c (.int .u32 256))) [(v 6)])]) (.ifc 34 [] (b2 .lss (b2 .add (v 5) (v 7)) (ls (v 2))) (.reg 40 [m 6 (b2 .add (v 6) (cv .u32 (ix (v 2) (b2 .add (v 5) (v 7)))))]) .skip))) (.reg 30 [m 7 (bk .sub 1 (v 7))])))))) (.seq (.reg 0 [z 8 0]) (.block 6 (.loop [1,2,4,5,6,8] [] (.seq (.ifc 48 [] (bk .lss 4 (v 8)) .skip (.exit 6)) (.seq (.block 7 (.seq (.reg 53 [m 9 (d 8),p 10 (b2 .add (ld (.op U1 [(d 4),(v 8)])) (v 6)),s 1 (.op U1 [(d 4),(d 9)]) (d 10)]) (.reg 59 [m 6 (ld (.op U1 [(d 4),(v 8)]))]))) (.reg 50 [m 8 (bk .add 1 (v 8))]))))))))) (.reg 26 [m 5 (bk .add 4 (v 5))])))))) (.seq (.reg 62 [s 4 (d 1) (la 4 (d 4))]) .ret))))))⟩
def g91:FT:=⟨1,30,[.tmp 1],[0,2,3,5,6,7,8,9,11],true,(.seq Pk (.seq (.reg 0 [y 2 (.int .i64 (-1))]) (.seq (.seq W58 (.block 0 (.loop [2,4,5,6] [] (.seq Wf (.seq Tz (.seq (.block 1 (.seq W80 (.seq (.ifc 12 [] (.or (.or (b2 .leq K1 (v 2)) (b2 .geq K1 R0)) (bk .gtr 1073741824 R0)) (.seq Pk .ret) .skip) (.reg 28 [m 2 R0])))) (.reg 30 [m 6 Tx]))))))) (.seq (.reg 0 [y 1 (.bool true)]) .ret))))⟩
def g92:FT:=⟨2,7,[.tmp 2],[0,1,4],true,(.seq Yp (.seq (.reg 5 [m 2 (.op (.call 94 [(.t 0),(.c (.fn (.func 137) [] []))]) [W48])]) .ret))⟩
def g93:FT:=⟨2,7,[.tmp 2],[0,1,4],true,(.seq Yp (.seq (.reg 5 [m 2 (.op (.call 94 [(.t 0),(.c (.fn (.func 138) [] []))]) [W48])]) .ret))⟩
def g94:FT:=⟨2,45,[.tmp 3],[0,1,2,4,5,6,7,33],true,(.seq (.reg 0 [p 2 W0,y 3 (.emp)]) (.seq (.reg 0 [y 4 (.emp)]) (.seq (.reg 8 [m 5 (An 139 (la 2 (d 2)))]) (.seq (.seq (.reg 0 [z 6 1]) (.block 0 (.loop [1,2,4,5,6] [] (.seq (.ifc 10 [] (b2 .lss (v 6) (ln (v 5))) .skip W8) (.seq (.block 1 (.seq (.rawE [[(0,I0 16 1),(1,I6 17 0 2),(2,I7 18 17),(3,I0 19 6),(4,I0 20 7),(5,I1 21 (.bini .sub (.t 20) (KI 1))),(6,I1 22 (.iaddr 1 (.t 19) (.t 21))),(7,I7 23 22),(9,I6 25 1 2),(10,I7 26 25),(11,I0 27 6),(12,I0 28 7),(13,I1 29 (.bini .sub (.t 28) (KI 1))),(14,I1 30 (.iaddr 1 (.t 27) (.t 29))),(15,I7 31 30),(8,I1 24 (.call 140 [(.t 18),(.t 23)])),(16,I1 32 (.call 140 [(.t 26),(.t 31)]))],[(17,I1 33 (.calld (.t 16) [(.t 24),(.t 32)]))]] (bm [0,0,2,0,0,16,56,120,254,0,512,0,0,4096,14336,30720,65534,131071])) (.ifv 7 (.rawE [[(0,I0 34 5),(1,I0 35 6),(2,I0 36 7),(3,I1 37 (.bini .sub (.t 36) (KI 1))),(4,I1 38 (.iaddr 1 (.t 35) (.t 37))),(5,I7 39 38),(6,I0 40 6),(7,I0 41 7),(8,I1 42 (.iaddr 1 (.t 40) (.t 41))),(9,I7 43 42),(10,I1 44 (.build Z2 [(0,1,(.t 39)),(1,1,(.t 43))]))],[(11,I1 45 (.call 141 [(.t 34),(.t 44)]))],[(12,I0 5 45)]] (bm [0,0,0,4,14,30,0,0,192,448,1022,2047,4095])) .skip))) (.reg 14 [m 6 a2k])))))) (.seq (.reg 46 [m 3 (v 4)]) .ret)))))⟩
def g95:FT:=⟨2,8,[.tmp 2],[0,1,4],true,(.seq W1 (.seq (.reg 5 [m 2 (.and (v 0) (no (v 1)))]) .ret))⟩
def g96:FT:=⟨2,24,[.tmp 2],[0,1,4,5,12,13,14],true,(.seq W1 (.seq Yz (.seq (.seq W73 (.block 0 (.loop [0,1,4,5] [] (.seq R7 (.seq O9 (.seq (.block 1 (.seq W84 (.ifd 16 [] (.op (.eqs true [.i,.i] (.t 0) (.t 1)) [(la 2 (ia 2 (v 0) (v 3))),(la 2 (ia 2 (v 1) (v 3)))]) Im .skip))) a2m)))))) U3)))⟩
def g97:FT:=⟨2,24,[.tmp 2],[0,1,4,5,12,13,14],true,(.seq W1 (.seq Yz (.seq (.seq W73 (.block 0 (.loop [0,1,4,5] [] (.seq R7 (.seq O9 (.seq (.block 1 (.seq W84 (.ifd 16 [] b3v Im .skip))) a2m)))))) U3)))⟩
def ak4:FT:=⟨3,30,[.tmp 3],[0,1,2,6,7,8,9,12,16,21],true,(.seq (.reg 0 [y 3 (.str [])]) (.seq (.reg 10 [p 7 (.op (.build [.str [],.str []] [(0,1,(.t 0)),(1,1,(.t 1))]) [(v 0),(v 1)]),p 4 (.op (.alloc [.str [],.str []]) []),s 2 (d 4) (d 7)]) (.seq (.dreg 13 [p 8 (ld (.op (.iaddra 2 1 (.t 0) (.t 1)) [(d 4),(bk .and 1 (v 2))])),p 9 (ld (.op (.iaddra 2 1 (.t 0) (.t 1)) [(d 4),(bk .and 1 (.op (.bini .shr (.t 0) (.c (.int .u64 1))) [(v 2)]))])),m 5 (d 8),m 6 (d 9)]) (.seq (.dreg 22 [m 3 (bs .add (.op aq7 [(v 5),(.op (.min2 (.c (.int .i64 128)) (.t 0)) [(ls (v 5))])]) (.op aq6 [(v 6),(.op (.min2 (.c (.int .i64 128)) (.t 0)) [(ls (v 6))])]))]) .ret))))⟩
def ak3:FT:=⟨1,5,[.tmp 1],[0,2],true,(.seq Pk (.seq (.reg 3 [m 1 (An 147 (.op aq1 [(v 0)]))]) .ret))⟩
def a5e:FT:=⟨3,19,[.tmp 3],[0,1,2,6,7],true,(.seq Yr (.seq (.reg 8 [m 4 (B9 148 (v 0) (v 1))]) (.seq (.reg 11 [m 3 (.and (bk .geq 0 (v 4)) (b2 .eql (ld (fa 1 (ia 5 (v 0) (v 4)))) (v 2)))]) .ret)))⟩
def ak2:FT:=⟨2,24,[.tmp 2],[0,1,4,5,6,9,10,11],true,(.seq W1 (.seq (.reg 7 [m 3 (v 1)]) (.seq (.seq (.reg 8 [p 5 Gi,z 6 0]) (.block 0 (.loop [0,1,3,5,6] [] (.seq Wf (.seq Tz (.seq (.block 1 (.seq (.reg 12 [m 4 (B9 148 (v 0) (v 3))]) (.seq (.ifc 15 [] (bk .lss 0 (v 4)) Im .skip) (.seq (.reg 17 [m 3 (ld (fa 2 (ia 5 (v 0) (v 4))))]) (.ifc 22 [] (b2 .eql (v 3) (v 1)) U3 .skip))))) (.reg 25 [m 6 Tx]))))))) Im)))⟩
def a5d:FT:=⟨1,63,[.tmp 1],[0,2,3,5,6,7,8,9,10,11,13,15,16,17,18,19,21],false,(.seq W89 (.seq Yp (.seq (.seq (.reg 0 [m 6 (d 0),p 7 (ln (d 6)),z 8 0]) (.block 0 (.loop [2,6,7,8] [(2,13)] (.seq Wd (.seq Tw (.seq (.block 1 (.seq (.reg 12 [p 10 (la 30 (ia 30 (d 6) (d 8))),p 3 W74,s 30 (d 3) (d 10)]) (.seq (.reg 14 [p 11 (ld (fa 26 (d 3))),p 12 (ln (d 11)),z 13 0]) (.block 2 (.loop [2,3,6,7,8,11,12,13] [(2,13)] (.seq W90 (.seq (.ifv 14 .skip Pl) (.seq (.block 3 (.seq (.reg 20 [m 15 (d 13),p 16 (la 5 (ia 5 (d 11) (d 13))),p 5 Yo,m 4 (d 15),s 5 (d 5) (d 16)]) (.ifc 22 [] (.and (.and (b2 .lss (v 4) (ln (ld (fa 27 (d 3))))) (b2 .lss (v 4) (ln (ld (fa 28 (d 3)))))) (b2 .lss (v 4) (ln (ld (fa 29 (d 3)))))) (.rawE [[(0,I0 41 3),(1,I1 42 (.load true 5 (.t 7))),(2,I6 43 27 5),(3,I7 44 43),(4,I0 45 6),(5,I1 46 (.iaddr 6 (.t 44) (.t 45))),(6,I1 47 (.load true 6 (.t 46))),(7,I6 48 28 5),(8,I7 49 48),(9,I0 50 6),(10,I1 51 (.iaddr 1 (.t 49) (.t 50))),(11,I7 52 51),(12,I6 53 29 5),(13,I7 54 53),(14,I0 55 6),(15,I1 56 (.iaddr 1 (.t 54) (.t 55))),(16,I7 57 56),(17,I1 58 (.build Vv [(0,5,(.t 42)),(5,6,(.t 47)),(11,1,(.t 52)),(12,1,(.t 57))])),(18,I1 59 (.bslice 13 1 Vv [(0,(.t 58))]))],[(19,I1 60 (.append 13 136 Vv (.t 41) (.t 59)))],[(20,I0 3 60)]] (bm [0,0,0,4,0,28,60,0,128,0,896,1920,0,4096,0,28672,61440,131070,262142,524287,1048575])) .skip))) (.reg 61 [m 13 a6u]))))))))) (.reg 62 [m 8 Tv]))))))) (.seq (.reg 63 [m 1 (v 2)]) .ret))))⟩
def a19:FT:=⟨2,42,[.tmp 2,.tmp 3],[0,1,4,5,6,8,9,18,19,20,21,23],true,(.seq (.reg 0 [y 2 (.emp),y 3 (.bool false)]) (.seq (.ifc 10 [] (.or Ym (b2 .gtr (v 1) (An 31 (v 0)))) (.seq (.reg 0 [y 2 (.emp),y 3 (.bool false)]) .ret) .skip) (.seq (.reg 0 [y 4 (.emp)]) (.seq (.seq (.reg 0 [m 7 (d 0),p 8 (ln (d 7)),z 9 0]) (.block 0 (.loop [1,4,7,8,9] [(4,1)] (.seq W43 (.seq Wa (.seq (.block 1 (.seq (.reg 22 [p 11 (la 2 (ia 2 (d 7) (d 9))),p 5 (.op (.alloc Z2) []),s 2 (d 5) (d 11)]) (.seq (.reg 24 [m 6 Yl]) (.block 2 (.loop [1,4,5,6,7,8,9] [(4,1)] (.seq (.ifc 26 [] (.and (b2 .lss (v 6) (ld (fa 1 (d 5)))) (b2 .lss (ln (v 4)) (v 1))) .skip Pl) (.seq (.block 3 (.reg 38 [m 4 (.op Wc [(v 4),(.op Ys [(v 6)])])])) (.reg 36 [m 6 a2k])))))))) (.reg 42 [m 9 Vy]))))))) (.seq (.reg 43 [m 2 (v 4),y 3 (.bool true)]) .ret)))))⟩
def ak0:FT:=⟨2,54,[.cell 3 true 6],[0,1,3,4,5,6,7,8,9,11,13,14,15,16,17,19,20,25,26,42],false,(.seq (.reg 0 [p 2 W4,p 3 Jc]) (.seq (.reg 10 [p 9 (.op (.build Vv [(0,5,(.t 0))]) [Jz]),p 4 a6z,s 13 (d 4) (d 9)]) (.seq (.seq (.reg 12 [p 10 (ld (fa 4 (d 2))),p 11 (ln (d 10)),z 12 0]) (.block 0 (.pre [.empC 4 11 6,.empC 4 12 6] (.loop [0,3,4,10,11,12] [] (.seq W86 (.seq (.ifv 13 .skip W8) (.seq (.block 1 (.seq (.reg 18 [m 14 (d 12),p 15 (la 5 (ia 5 (d 10) (d 12))),p 6 U0,m 5 (d 14),s 5 (d 6) (d 15)]) (.seq (.reg 21 [m 16 (M5 149 (v 0) (v 5) Yv),p 17 (ex 0 (d 16)),p 18 (ex 1 (d 16)),p 7 Jc,s 6 (d 7) (d 17),m 8 (d 18)]) (.rawE [[(0,I6 27 11 5),(1,I7 28 27),(2,I1 29 (.load true 6 (.t 8))),(3,I1 30 (.bslice 6 1 Fj [(0,(.t 29))])),(4,I1 31 (.append 6 32 Fj (.t 28) (.t 30))),(5,I6 32 12 5),(6,I7 33 32),(7,I0 34 9),(8,I1 35 (.append 6 32 Fj (.t 33) (.t 34))),(9,I6 36 11 5)],[(10,I9 1 36 31)],[(11,I6 37 12 5)],[(12,I9 1 37 35)]] (bm [0,1,0,4,15,0,32,0,255,127,1023,2047,4095]))))) (.reg 38 [m 12 (bk .add 1 (d 12))])))))))) (.seq (.pre [.fzC 4 11,.fzC 4 12] (.reg 39 [p 19 (B9 150 (v 0) (ld (fa 11 (d 4)))),s 6 (fa 5 (d 4)) (d 19)])) (.seq (.rawE [[(0,I0 44 0),(1,I0 45 0),(2,I1 46 (.nilchk (.t 45))),(3,I6 47 12 46),(4,I7 48 47),(5,I1 49 (.load true 13 (.t 5))),(6,I1 50 (.bslice 13 1 Vv [(0,(.t 49))])),(7,I1 51 (.append 13 136 Vv (.t 48) (.t 50)))],[(8,I1 52 (.nilchk (.t 44)))],[(9,I6 53 12 52)],[(10,I9 1 53 51)]] (bm [0,0,2,6,14,0,32,126,255,511,1023])) (.seq (.reg 54 [s 6 (d 3) (la 6 (fa 5 (d 4)))]) .ret))))))⟩
def a5c:FT:=⟨3,66,[.cell 3 true 6],[0,1,2,6,7,8,15],false,(.seq (.reg 0 [p 3 Jc]) (.seq (.reg 9 [p 6 (.op (.build J9 [(0,1,(.t 0)),(1,1,(.t 1)),(2,1,(.t 2))]) [(v 1),(ld (fa 10 W5)),(v 2)]),p 4 (.op (.alloc J9) []),s 3 (d 4) (d 6)]) (.seq (.reg 0 [z 5 0]) (.seq (.ifd 16 [] (b2 .lss (ln (ld (fa 0 (fa 0 W5)))) (ln (ld (fa 11 W5)))) (.dreg 28 [m 5 (ld (ia 1 (ld (fa 11 W5)) (ln (ld (fa 0 (fa 0 W5))))))]) .skip) (.seq (.rawE [[(0,I0 40 0),(1,I0 41 0),(2,I0 42 0),(3,I1 43 (.nilchk (.t 42))),(4,I6 44 0 43),(5,I6 45 0 44),(6,I7 46 45),(7,I1 47 (.load true 3 (.t 7))),(8,I1 48 (.bslice 3 1 J9 [(0,(.t 47))])),(9,I1 49 (.append 3 32 J9 (.t 46) (.t 48))),(10,I0 50 0),(11,I1 51 (.nilchk (.t 50))),(12,I6 52 0 51),(13,I6 53 1 52),(14,I7 54 53),(15,I0 55 8),(16,I1 56 (.bslice 1 1 Z7 [(0,(.t 55))])),(17,I1 57 (.append 1 8 Z7 (.t 54) (.t 56))),(18,I1 58 (.nilchk (.t 40))),(19,I6 59 0 58),(20,I6 60 0 59),(21,I9 1 60 49)],[(22,I1 61 (.nilchk (.t 41)))],[(23,I6 62 0 61)],[(24,I6 63 1 62)],[(25,I9 1 63 57)]] (bm [0,0,0,4,12,28,60,0,128,508,0,1024,3072,7168,15360,0,32768,131068,262141,524285,1048573,2097149,4194303,8388607,16777215,33554431])) (.seq (.reg 64 [s 6 (d 3) (B9 151 (v 0) (B9 81 (v 5) (la 3 (d 4))))]) .ret))))))⟩
def a18:FT:=⟨2,48,[.tmp 2],[0,1,4,5,6,7,8,9,24,25,26,27,28,30],true,(.seq W3 (.seq (.ifc 10 [] (.or (bk .gtr 8 Gi) (b2 .neq Gi (ln (v 1)))) Ja .skip) (.seq (.reg 20 [m 3 (.op (.call 39 [(.c (.str [49])),(.t 0)]) [(.op Ys [Gi])]),z 4 0]) (.seq (.seq (.reg 0 [m 8 (d 0),p 9 (ln (d 8)),z 10 0]) (.block 0 (.loop [1,3,4,8,9,10] [] (.seq (.reg 0 [p 11 (b2 .lss (d 10) (d 9))]) (.seq (.ifv 11 .skip W8) (.seq (.block 1 (.seq (.reg 29 [m 12 (d 10),p 13 (la 5 (ia 5 (d 8) (d 10))),p 6 Yo,m 5 (d 12),s 5 (d 6) (d 13)]) (.seq (.rawE [[(0,I1 31 (.load true 5 (.t 8))),(1,I0 32 1),(2,I0 33 7),(3,I1 34 (.iaddr 6 (.t 32) (.t 33))),(4,I1 35 (.load true 6 (.t 34))),(5,I1 36 (.build [.int .i64 0,.int .i64 0,.int .i64 0,.int .i64 0,.emp,.int .i64 0,.int .i64 0,.int .u32 0,.int .u32 0,.int .u32 0,.int .u32 0] [(0,5,(.t 31)),(5,6,(.t 35))])),(6,I1 9 (.alloc [.int .i64 0,.int .i64 0,.int .i64 0,.int .i64 0,.emp,.int .i64 0,.int .i64 0,.int .u32 0,.int .u32 0,.int .u32 0,.int .u32 0]))],[(7,I9 11 9 36)]] (bm [0,0,0,6,14,31,0,127])) (.seq (.ifc 37 [] (no (B9 152 (la 11 (d 7)) (v 4))) Ja .skip) (.rawE [[(0,I0 41 5),(1,I1 42 (.load true 11 (.t 9))),(4,I6 45 0 9),(5,I6 46 0 45),(6,I7 47 46),(2,I1 43 (.call 153 [(.t 42)])),(3,I1 44 (.bins .add (.t 41) (.t 43))),(7,I0 5 44)],[(8,I0 6 47)]] (bm [0,0,2,7,0,16,48,15,255])))))) (.reg 48 [m 10 (bk .add 1 (d 10))]))))))) (.seq (.reg 49 [m 2 (v 3)]) .ret)))))⟩
def aj9:FT:=⟨1,30,[.tmp 1],[0,2,3,5,9,11,12,13,14],true,(.seq W89 (.seq Yp (.seq (.reg 6 [m 0 (An 114 (v 0))]) (.seq (.reg 8 [p 4 (An 154 (v 0))]) (.seq (.seq (.reg 10 [p 5 (An 155 (v 0)),p 6 (ln (d 5)),z 7 0]) (.block 0 (.loop [2,5,6,7] [] (.seq W96 (.seq (.ifv 8 .skip W8) (.seq (.block 1 (.seq (.reg 15 [m 3 (ld (ia 1 (d 5) (d 7)))]) (.ifc 17 [] (.and (bk .geq 0 (v 3)) (bk .lss 1073741824 (v 3))) (.reg 23 [m 2 (B9 141 (v 2) (.op (.build Z2 [(0,1,(.t 0)),(1,1,(.t 1))]) [(v 3),a2j]))]) .skip))) (.reg 29 [m 7 (bk .add 1 (d 7))]))))))) (.seq (.reg 30 [m 1 (v 2)]) .ret))))))⟩
def aj8:FT:=⟨1,4,[.tmp 1],[0,2],true,(.seq W89 (.seq (.reg 3 [m 1 (.op (.append 2 16 Z2 (.c (.emp)) (.t 0)) [(v 0)])]) .ret))⟩
def aj7:FT:=⟨2,8,[.tmp 3],[0,1,3,4],true,(.seq aq8 (.seq (.reg 5 [m 3 (An 62 W46)]) .ret))⟩
def Y0:FT:=⟨2,49,[.tmp 2],[0,1,4,5,6,7,28,30,31,32,38,40],true,(.seq W3 (.seq (.reg 8 [m 3 (.op aq0 [(.op b3r [(.op W42 [(v 0)])])])]) (.seq (.pre [.fz 3] (.ifc 12 [] (.or (.or (no (An 135 (v 0))) (no (An 91 (v 1)))) (bk .gtr 0 (ln (B9 65 (v 1) (v 3))))) Ja .skip)) (.seq (.reg 27 [p 6 (An 136 (v 0)),m 4 (.op (.mksl 1 1 [.int .u8 0] (.t 0) (.t 1)) [(d 6),(d 6)])]) (.seq (.seq (.reg 0 [m 7 (d 0),z 8 0]) (.block 0 (.loop [1,4,7,8] [] (.seq Wd (.seq Tw (.seq (.block 1 (.seq (.reg 33 [m 5 (v 8)]) (.ifc 34 [] (B9 140 (v 1) (.op W42 [(v 5)])) (.rawE [[(0,I0 38 6),(1,I0 39 7),(2,I1 40 (.bini .quo (.t 39) (KI 8))),(3,I1 41 (.iaddr 1 (.t 38) (.t 40))),(4,I7 42 41),(5,I0 43 7),(6,I1 44 (.bini .rem (.t 43) (KI 8))),(7,I1 45 (.bini .shl (.c (.int .u8 1)) (.t 44)))],[(8,I1 46 (.bini .or (.t 42) (.t 45)))],[(9,I1 47 (.iaddr 1 (.t 38) (.t 40)))],[(10,I9 1 47 46)]] (bm [0,0,2,7,15,0,32,96,255,511,1023])) .skip))) (.reg 48 [m 8 Tv]))))))) (.seq (.reg 49 [m 2 (.op (.convbs (.t 0)) [(v 4)])]) .ret))))))⟩
def aj6:FT:=⟨3,10,[.cell 3 true 6],[0,1,2,6],true,(.seq (.reg 0 [p 3 Jc]) (.seq (.reg 7 [s 6 (d 3) (.op (.build Fj [(0,1,(.t 0)),(1,1,(.t 1)),(2,4,(.t 2))]) [(v 0),(v 2),(An 70 (.op W98 [(v 1)]))])]) .ret))⟩
def aj5:FT:=⟨2,10,[.tmp 2],[0,1,4],true,(.seq W1 (.seq (.reg 5 [m 2 (.and (bk .geq 0 (v 0)) (b2 .leq (v 0) (v 1)))]) .ret))⟩
def aj4:FT:=⟨1,22,[.tmp 1],[0,2,3,5,6,7,8,9,11],true,(.seq R5 (.seq W3 (.seq (.seq W58 (.block 0 (.loop [2,4,5,6] [] (.seq Wf (.seq Tz (.seq (.block 1 (.seq (.reg 10 [p 8 (la 6 (ia 6 (d 4) (d 6))),p 3 Jc,s 6 (d 3) (d 8)]) (.seq (.ifc 12 [] (no (An 156 (la 6 (d 3)))) (.seq R5 .ret) .skip) (.reg 15 [m 2 (bs .add (v 2) (.op (.call 39 [W77,(.t 0)]) [(An 157 (.op (.build Fj [(0,6,(.t 0))]) [(la 6 (d 3))]))]))])))) (.reg 21 [m 6 Tx]))))))) (.seq (.reg 22 [m 1 (v 2)]) .ret))))⟩
def a5a:FT:=⟨1,28,[.tmp 2],[0,1,2,3],true,(.seq U2 (.seq (.ifc 4 [] (no (An 158 (la 3 (d 1)))) Ja .skip) (.seq (.rawE [[(0,I6 7 0 1),(1,I6 8 0 7),(2,I7 9 8),(3,I6 10 0 1),(4,I6 11 1 10),(5,I7 12 11),(6,I6 13 0 1),(7,I6 14 2 13),(8,I7 15 14),(9,I1 16 (.len true (.t 15))),(10,I1 17 (.bslice 1 3 Z7 [(0,(.t 9)),(1,(.t 12)),(2,(.t 16))])),(12,I6 19 0 1),(13,I6 20 2 19),(14,I7 21 20),(11,I1 18 (.call 39 [a73,(.t 17)]))],[(15,I1 22 (.bins .add (.t 18) (.t 21)))],[(16,I0 3 22)]] (bm [0,1,3,0,8,24,0,64,192,448,1023,2047,0,4096,12288,32767,65535])) (.seq (.reg 23 [m 2 (bs .add (v 3) (.op aq9 [(.op W83 [(ls (v 3))])]))]) .ret))))⟩
def aj3:FT:=⟨1,5,[.tmp 2],[0,1,2],true,(.seq R6 (.seq (.reg 3 [m 2 (An 159 (.op (.build Z1 [(0,9,(.t 0))]) [(la 9 (d 1))]))]) .ret))⟩
def Xz:FT:=⟨3,22,[.tmp 3],[0,1,2,6,7],true,(.seq Za (.seq (.reg 8 [m 4 (B9 19 (v 0) (v 1))]) W25))⟩
def aj2:FT:=⟨1,5,[.tmp 2],[0,1,2],true,(.seq U2 (.seq (.reg 3 [m 2 (An 160 (.op (.build Z1 [(0,9,(.t 0))]) [(la 9 (d 1))]))]) .ret))⟩
def aj1:FT:=⟨2,57,[.tmp 2,.tmp 3,.tmp 4],[0,1,4,5,6,7,8,10,11,13,14,17,18,19,28,29,30,31,37,38,39,40,57,58],true,(.seq W2 (.seq (.reg 15 [m 10 (An 72 (v 0)),p 11 Yx,p 12 Yw,p 13 (ex 2 (d 10)),m 5 (d 11),m 6 (d 12),m 4 (d 13)]) (.seq (.ifc 20 [] (.or (no (v 4)) (b2 .lss (ls (v 1)) (v 6))) Vw .skip) (.seq (.seq (.reg 0 [m 14 (d 5),p 15 (ln (d 14)),z 16 0]) (.block 0 (.loop [1,2,14,15,16] [(2,1)] (.seq W85 (.seq (.ifv 17 .skip W8) (.seq (.block 1 (.seq (.reg 32 [m 7 (ld (ia 1 (d 14) (d 16)))]) (.seq (.reg 0 [z 8 0]) (.seq (.seq (.reg 34 [p 18 (.op (.convsb (.t 0)) [(.op aq7 [(v 1),(v 7)])]),p 19 (ln (d 18)),z 20 0]) (.block 2 (.loop [1,2,7,8,14,15,16,18,19,20] [] (.seq (.reg 0 [p 21 (b2 .lss (d 20) (d 19))]) (.seq (.ifv 21 .skip Pl) (.seq (.block 3 (.seq (.reg 41 [m 9 (ld (ia 1 (d 18) (d 20)))]) (.reg 43 [m 8 (b2 .or (.op (.bini .shl (.t 0) (.c (.int .u64 8))) [(v 8)]) (cv .i64 (v 9)))]))) (.reg 48 [m 20 (bk .add 1 (d 20))]))))))) (.rawE [[(0,I0 49 4),(1,I0 50 11),(2,I1 51 (.bslice 1 1 Z7 [(0,(.t 50))])),(3,I1 52 (.append 1 8 Z7 (.t 49) (.t 51))),(4,I0 53 1),(5,I0 54 10),(6,I1 55 (.slices (.t 53) (some (.t 54)) none)),(7,I0 4 52)],[(8,I0 1 55)]] (bm [0,0,2,7,0,0,48,15,255])))))) (.reg 56 [m 16 (bk .add 1 (d 16))]))))))) (.seq (.reg 0 [m 22 (d 2),m 23 (d 1),m 2 (d 22),m 3 (d 23),y 4 (.bool true)]) .ret)))))⟩
def aj0:FT:=⟨2,37,[.tmp 2,.tmp 3,.tmp 4],[0,1,4,5,6,7,8,9,11,12,13,14,17,18,19,34,35,37,38],true,(.seq W2 (.seq (.seq (.reg 10 [p 8 (.op (.max2 (.t 0) R2) [(v 1)]),z 9 0]) (.block 0 (.loop [0,2,8,9] [(2,6)] (.seq W43 (.seq Wa (.seq (.block 1 (.seq (.reg 15 [m 11 (.op (.call 126 [W77,(.t 0)]) [(v 0)]),p 12 (ex 0 (d 11)),p 13 (ex 1 (d 11)),p 14 (ex 2 (d 11)),m 5 (d 12),m 6 (d 13),m 7 (d 14)]) (.seq (.ifc 20 [] (.or (no (v 7)) (no (An 156 (fg 0 6 (An 161 (v 5)))))) Vw .skip) (.reg 29 [p 15 (.op aq4 [(v 2),(.op aq2 [(fg 0 6 (An 161 (v 5)))])]),m 16 (d 6),m 2 (d 15),m 0 (d 16)])))) (.reg 36 [m 9 Vy]))))))) (.seq (.reg 0 [m 17 (d 2),m 18 (d 0),m 2 (d 17),m 3 (d 18),y 4 (.bool true)]) .ret)))⟩
def a17:FT:=⟨1,20,[.tmp 1,.tmp 2],[0,2,3,4,5,6,7,10,11,12],true,(.seq (.reg 0 [y 1 (.emp),y 2 (.bool false)]) (.seq (.reg 8 [m 6 (.op (.call 127 [(.t 0),a6t]) [(v 0)]),p 7 (ex 0 (d 6)),p 8 (ex 1 (d 6)),p 9 (ex 2 (d 6)),m 3 (d 7),m 4 (d 8),m 5 (d 9)]) (.seq (.ifc 13 [] (.or (no (v 5)) (.op (.bins .neq (.t 0) (.c (.str []))) [(v 4)])) (.seq (.reg 0 [y 1 (.emp),y 2 (.bool false)]) .ret) .skip) (.seq (.reg 19 [m 1 (An 162 (v 3)),y 2 (.bool true)]) .ret))))⟩
def a59:FT:=⟨1,25,[],[0,2,3,4,5],false,(.seq (.reg 6 [m 2 (d 0),m 3 (d 0),p 4 (Ye 18),s 1 (fa 5 (.op Jb [(d 2)])) (d 4),e (.store 1 (.t 0) K2) [(fa 8 (.op Jb [(d 3)]))]]) (.seq (.reg 0 [z 1 1]) (.block 0 (.loop [0,1] [] (.seq (.ifc 10 [] (b2 .lss (v 1) (ln (ld (fa 5 W5)))) .skip W8) (.seq (.block 1 (.reg 19 [e (.store 1 (.t 0) Sd) [(fa 0 (ia 5 (ld (fa 5 W5)) (v 1)))]])) (.reg 17 [m 1 (bk .add 1 (v 1))])))))))⟩
def Js:FT:=⟨2,111,[],[0,1,4,5,6,7,8,9,13,14,15,22,23,24,26,41,44,45,46,47,84,85,90,91],false,(.seq (.reg 10 [p 8 (ld (fa 5 W5)),m 9 (d 1),p 10 (.op (.build Z8 [(0,1,Sd)]) []),s 5 (ia 5 (d 8) (d 9)) (d 10)]) (.seq (.ifc 17 [] (bk .eql 0 (v 1)) (.reg 19 [p 11 (ld (fa 5 W5)),m 12 (d 1),p 13 aq3,s 5 (ia 5 (d 11) (d 12)) (d 13)]) .skip) (.seq (.rawE [[(0,I0 27 0),(1,I1 28 (.nilchk (.t 27))),(2,I6 29 0 28),(3,I1 30 (.load true 5 (.t 29))),(4,I0 31 0),(5,I1 32 (.nilchk (.t 31))),(6,I6 33 6 32),(7,I7 34 33),(8,I0 35 1),(9,I1 36 (.iaddr 6 (.t 34) (.t 35))),(10,I1 37 (.load true 6 (.t 36)))],[(11,I1 38 (.call 49 [(.t 30),(.t 37),(KI 2)]))],[(12,I0 26 38)],[(13,I8 39 26 0),(14,I8 40 26 1),(15,I0 4 39)],[(16,I0 5 40)]] (bm [0,1,3,7,0,16,48,112,0,496,1008,2047,4095,8191,8191,16383,65535])) (.seq (.reg 42 [m 15 (An 163 (v 2)),p 16 (ex 0 (d 15)),p 17 (ex 1 (d 15)),p 18 (ex 2 (d 15)),p 19 (ex 3 (d 15)),p 4 U0,s 5 (d 4) (d 16),m 5 (d 17),m 6 (d 18),m 7 (d 19)]) (.seq (.ifc 48 [] (bk .eql 0 (v 1)) (.reg 50 [m 7 (.and (.and (.and (v 7) (.op (.eqs false [.i,.i,.s,.s,.i] (.t 0) (.t 1)) [(la 5 (d 4)),aq3])) (bk .eql 0 (v 5))) (no (.op (.call 164 [(.t 0),(.c (.fn (.func 165) [] []))]) [(v 6)])))]) (.reg 65 [m 7 (.and (v 7) (An 166 (ld (fa 2 (d 4)))))])) (.seq (.ifc 71 [] (no (v 7)) (.seq (.reg 73 [e (.store 1 (.t 0) K2) [(fa 8 W5)]]) .ret) .skip) (.seq (.reg 76 [p 20 (.op (.copy 6 (.t 0) (.t 1)) [(.op (.slicel 6 (.t 0) (some (.t 1)) none) [(ld (fa 7 W5)),(bk .mul 4 (v 1))]),(v 6)])]) (.seq (.reg 86 [m 21 (M5 167 (v 0) (v 5) (v 6)),p 22 (ex 0 (d 21)),p 23 (ex 1 (d 21)),s 1 (fa 3 (d 4)) (d 22),s 1 (fa 4 (d 4)) (d 23)]) (.rawE [[(0,I0 94 0),(1,I1 95 (.nilchk (.t 94))),(2,I6 96 5 95),(3,I7 97 96),(4,I0 98 1),(5,I0 99 0),(6,I1 100 (.load true 5 (.t 6))),(7,I0 101 0),(8,I1 102 (.nilchk (.t 101))),(9,I6 103 8 102),(10,I7 104 103),(11,I0 105 104),(12,I3 106 105 (.faddr 4 (.t 6))),(13,I3 107 105 (.load false 1 (.t 106))),(14,I3 108 105 (.bini .neq (.t 107) (KI 0))),(15,I1 109 (.pick (.t 105) K2 (.t 108))),(16,I1 110 (.iaddr 5 (.t 97) (.t 98))),(17,I9 5 110 100)],[(18,I1 111 (.nilchk (.t 99)))],[(19,I6 112 8 111)],[(20,I9 1 112 109)]] (bm [0,1,3,7,0,0,0,0,128,384,896,1920,3968,8064,16256,32640,2015,69599,262143,524287,1048575]))))))))))⟩
def ai8:FT:=⟨1,6,[.tmp 1],[0,2],true,(.seq Pk (.seq (.reg 3 [m 1 (An 147 (An 168 (.op aq1 [(v 0)])))]) .ret))⟩
def Xy:FT:=⟨1,48,[.cell 1 true 4],[0,2,3,4,5,6,7,10,11,12],true,(.seq (.reg 0 [p 1 (.op (.alloc Z16) [])]) (.seq (.reg 8 [m 6 (.op (.call 126 [a73,(.t 0)]) [(v 0)]),p 7 (ex 0 (d 6)),p 8 (ex 1 (d 6)),p 9 (ex 2 (d 6)),m 2 (d 7),m 3 (d 8),m 4 (d 9)]) (.seq (.ifc 13 [] (.or (no (v 4)) (b2 .gtr (ld (ik 1 2 (v 2))) (ls (v 3)))) (.seq (.reg 23 [s 4 (d 1) (.op (.build Z16 []) [])]) .ret) .skip) (.seq (.rawE [[(0,I0 24 3),(1,I1 25 (.iaddr 1 (.t 24) (KI 0))),(2,I7 26 25),(3,I0 27 3),(4,I1 28 (.iaddr 1 (.t 27) (KI 1))),(5,I7 29 28),(6,I0 30 4),(7,I0 31 3),(8,I1 32 (.iaddr 1 (.t 31) (KI 2))),(9,I7 33 32),(10,I1 34 (.slices (.t 30) none (some (.t 33)))),(11,I1 35 (.build J9 [(0,1,(.t 26)),(1,1,(.t 29)),(2,1,(.t 34))])),(12,I1 36 (.build J9 [(0,3,(.t 35))])),(13,I1 6 (.alloc J9))],[(14,I9 3 6 36)]] (bm [0,1,3,0,8,24,0,0,128,384,960,2047,4095,0,16383])) (.seq (.ifc 37 [] (.or (no (An 158 (la 3 (d 5)))) (bs .neq (An 122 (la 3 (d 5))) (v 0))) (.seq (.reg 46 [s 4 (d 1) (.op (.build Z16 []) [])]) .ret) .skip) (.seq (.reg 47 [s 4 (d 1) (.op (.build Z16 [(0,3,(.t 0)),(3,1,K2)]) [(la 3 (d 5))])]) .ret))))))⟩
def Xx:FT:=⟨3,30,[.tmp 5],[0,1,2,3,4,6],true,(.seq (.reg 0 [p 3 W0,p 4 W4,y 5 (.bool false)]) (.seq (.rawE [[(0,I6 7 3 3)],[(1,I7 8 7)],[(2,I0 9 8)],[(3,I2 10 9 (.load true 6 (.t 4))),(4,I2 11 9 (.faddr 0 (.t 3))),(5,I2 12 9 (.load true 3 (.t 11))),(6,I2 13 9 (.call 122 [(.t 12)]))],[(7,I2 14 9 (.call 170 [(.t 10),(.t 13)]))],[(8,I1 15 (.pick (.t 9) (.t 14) W9))],[(9,I0 16 15)],[(10,I2 17 16 (.faddr 0 (.t 3))),(11,I2 18 16 (.faddr 0 (.t 17))),(12,I2 19 16 (.faddr 1 (.t 18))),(13,I2 20 16 (.load false 1 (.t 19))),(14,I2 21 16 (.faddr 1 (.t 4))),(15,I2 22 16 (.load false 1 (.t 21)))],[(16,I2 23 16 (.bini .eql (.t 20) (.t 22)))],[(17,I1 24 (.pick (.t 16) (.t 23) W9))],[(18,I0 25 24)],[(19,I2 26 25 (.faddr 0 (.t 3))),(20,I2 27 25 (.faddr 0 (.t 26))),(21,I2 28 25 (.faddr 0 (.t 27))),(22,I2 29 25 (.load false 1 (.t 28))),(23,I4 30 25 2)],[(24,I2 31 25 (.bini .eql (.t 29) (.t 30)))],[(25,I1 32 (.pick (.t 25) (.t 31) W9))],[(26,I0 6 32)]] (bm [0,1,3,7,7,23,55,127,255,511,1023,2047,4095,8191,1023,17407,65535,131071,262143,524287,1048575,2097151,4194303,524287,16777215,33554431,67108863])) .ret))⟩
def ai7:FT:=⟨1,8,[.tmp 1],[0,2],true,W37⟩
def ai6:FT:=⟨1,6,[.tmp 1],[0,2],true,(.seq (.reg 0 [z 1 0]) (.seq (.reg 3 [m 1 (bk .quo 8 (bk .sub 1 (bk .add 8 (v 0))))]) .ret))⟩
def ai5:FT:=⟨2,7,[.tmp 2],[0,1,4],true,(.seq W1 (.seq (.reg 5 [m 2 (.and (v 0) (v 1))]) .ret))⟩
def ai4:FT:=⟨2,7,[.tmp 2],[0,1,4],true,(.seq W1 (.seq (.reg 5 [m 2 (.or (v 0) (v 1))]) .ret))⟩
def ai3:FT:=⟨1,28,[.tmp 2],[0,1,2,3,5,11,12,13,14,16,26],true,(.seq ap8 (.seq (.reg 0 [y 3 (.emp)]) (.seq (.seq (.reg 6 [p 5 (An 171 (.op (.bslice 1 2 [.emp] [(0,(.t 0)),(1,(.t 1))]) [(ld W6),Yk])),p 6 (ln (d 5)),z 7 0]) (.block 0 (.loop [3,5,6,7] [(3,1)] (.seq W96 (.seq (.ifv 8 .skip W8) (.seq (.block 1 (.seq (.reg 15 [p 9 (la 2 (ia 2 (d 5) (d 7))),p 4 (.op (.alloc Z2) []),s 2 (d 4) (d 9)]) (.reg 17 [m 3 (.op Wc [(v 3),(.op (.bslice 1 2 Z7 [(0,(.t 0)),(1,(.t 1))]) [(ld (fa 0 (d 4))),(ld (fa 1 (d 4)))])])]))) (.reg 24 [m 7 (bk .add 1 (d 7))]))))))) (.seq (.reg 25 [p 10 (An 154 (v 3))]) (.seq (.reg 27 [m 2 (An 155 (v 3))]) .ret)))))⟩
def ai1:FT:=⟨2,6,[.tmp 3],[0,1,3,4],true,(.seq aq8 (.seq (.reg 5 [m 3 (B9 172 (v 0) (.op (.mkfn (.func 173) [] [(.t 0)]) [(d 2)]))]) .ret))⟩
def a16:FT:=⟨2,31,[.tmp 3],[0,1,3,4,5,21,23,25],false,(.seq ap9 (.seq (.seq (.reg 6 [m 4 Gi]) (.ifd 8 [] (.and (bk .gtr 0 (v 4)) (b2 .eql (ld (fa 1 (ia 2 (v 0) (bk .sub 1 (v 4))))) (ld Fk))) (.seq (.reg 22 [m 5 (d 0),p 6 (bk .sub 1 (v 4)),p 7 Vz,s 1 (fa 1 (ia 2 (d 5) (d 6))) (d 7)]) (.seq (.reg 28 [m 3 (v 0)]) .ret)) .skip)) (.seq (.reg 29 [m 3 (.op (.append 2 16 Z2 (.t 0) (.t 1)) [(v 0),(.op aq0 [(la 2 (d 2))])])]) .ret)))⟩
def a15:FT:=⟨1,63,[.tmp 2],[0,1,2,4,5,6,21,22,23,24,26,38,39,40,41,42,44],true,(.seq R6 (.seq (.ifc 7 [] (.or (bk .neq 8 (ln (ld W6))) (.op W55 [(la 5 (ik 5 0 (ld W6))),aq3])) Im .skip) (.seq (.seq (.reg 19 [p 6 (.op (.slicel 5 (.t 0) (some R1) none) [(ld W6)]),p 7 (ln (d 6)),z 8 0]) (.block 0 (.loop [1,6,7,8] [] (.seq Wd (.seq Tw (.seq (.block 1 (.seq (.reg 25 [p 10 (la 5 (ia 5 (d 6) (d 8))),p 3 U0,s 5 (d 3) (d 10)]) (.ifc 27 [] (.and (.op W55 [Wg,a74]) (no (B9 177 (la 1 (d 1)) Wg))) Im .skip))) (.reg 36 [m 8 Tv]))))))) (.seq (.seq (.reg 37 [p 11 (ld W6),p 12 (ln (d 11)),z 13 0]) (.block 2 (.loop [1,11,12,13] [] (.seq W90 (.seq (.ifv 14 .skip Pl) (.seq (.block 3 (.seq (.reg 43 [m 15 (d 13),p 16 (la 5 (ia 5 (d 11) (d 13))),p 5 U0,m 4 (d 15),s 5 (d 5) (d 16)]) (.ifc 45 [] (.and (.and (bk .gtr 0 (v 4)) (bk .neq 0 Yl)) (.or (no (B9 178 (la 1 (d 1)) (v 4))) (B9 179 (la 1 (d 1)) (v 4)))) Im .skip))) (.reg 63 [m 13 a6u]))))))) U3))))⟩
def ai0:FT:=⟨2,6,[.tmp 3],[0,1,3,4],true,(.seq (.reg 0 [p 2 W4,z 3 0]) (.seq (.reg 5 [m 3 (B9 180 (v 0) (.op (.mkfn (.func 181) [] [(.t 0)]) [(d 2)]))]) .ret))⟩
def a58:FT:=⟨3,107,[.cell 4 true 6,.tmp 5],[0,1,2,5,6,7,8,9,11,12,17,18,20,21,22,24,25,33,39,40,41,42,44,63,98,99,108,109],false,(.seq (.reg 0 [p 3 (.op (.box (.t 0)) [(d 2)]),p 4 Jc,y 5 (.emp)]) (.seq (.reg 13 [m 6 (.op (.mksl 6 32 Fj Yn Yn) [])]) (.seq (.ifc 14 [] (bk .eql 0 K1) (.seq (.reg 0 [p 10 Se,m 11 (d 6),s 6 (d 4) (d 10),m 5 (d 11)]) .ret) .skip) (.seq (.seq (.reg 19 [p 12 (ln (v 6)),z 13 0]) (.block 0 (.loop [0,1,3,4,6,12,13] [] (.seq W90 (.seq (.ifv 14 .skip W8) (.seq (.block 1 (.seq (.reg 23 [m 7 (v 13)]) (.reg 26 [m 15 (d 6),m 16 (d 7),p 17 (c4' 182 (v 0) (v 1) (v 7) (B9 183 Yj (v 7))),s 6 (ia 6 (d 15) (d 16)) (d 17)]))) (.reg 35 [m 13 a6u]))))))) (.seq (.seq (.reg 36 [p 18 (ld (fa 12 W5)),p 19 (ln (d 18)),z 20 0]) (.block 2 (.loop [0,1,3,4,6,18,19,20] [] (.seq (.reg 0 [p 21 (b2 .lss (d 20) (d 19))]) (.seq (.ifv 21 .skip Pl) (.seq (.block 3 (.seq (.reg 43 [p 22 (la 13 (ia 13 (d 18) (d 20))),p 8 a6z,s 13 (d 8) (d 22)]) (.seq (.ifc 45 [] (.or (no (B9 184 (B9 185 (la 13 (d 8)) (v 1)) (v 6))) (b2 .geq (v 1) (ln (ld (fa 11 (d 8)))))) (.exit 3) .skip) (.seq (.reg 58 [p 23 (la 5 (ia 5 (ld (fa 4 (fa 0 (d 8)))) (v 1))),p 9 U0,s 5 (d 9) (d 23)]) (.ifc 64 [] (.and (.and (.and (b2 .eql (ld (fa 0 (d 9))) K1) (b2 .eql (ld (fa 1 (d 9))) R0)) (bs .eql (ld (fa 2 (d 9))) (ld (fa 2 (d 3))))) (b2 .eql (ls (ld (fa 3 (d 9)))) (ls Yj))) (.seq (.reg 92 [p 24 (B9 151 (v 0) (la 6 (ia 6 (ld (fa 11 (d 8))) (v 1)))),m 25 (d 6),s 6 (d 4) (d 24),m 5 (d 25)]) .ret) .skip))))) (.reg 100 [m 20 (bk .add 1 (d 20))]))))))) (.seq (.reg 101 [p 26 (.op (.call 112 [(.t 0),R4,(.t 1)]) [(v 0),(M5 186 Wg (ls Yj) (v 6))]),m 27 (d 6),s 6 (d 4) (d 26),m 5 (d 27)]) .ret))))))⟩
def ah8:FT:=⟨2,27,[.cell 2 true 6],[0,1,4,6,10,11,12,13,15],false,(.seq (.reg 0 [p 2 Jc]) (.seq (.seq (.reg 7 [p 4 (ld (fa 12 W5)),p 5 (ln (d 4)),z 6 0]) (.block 0 (.loop [0,1,2,4,5,6] [] (.seq Wf (.seq Tz (.seq (.block 1 (.seq (.reg 14 [p 8 (la 13 (ia 13 (d 4) (d 6))),p 3 a6z,s 13 (d 3) (d 8)]) (.ifc 16 [] (B9 184 (ld (fa 11 (d 3))) (v 1)) (.seq (.reg 20 [s 6 (d 2) (B9 151 (v 0) (la 6 (fa 5 (d 3))))]) .ret) .skip))) (.reg 24 [m 6 Tx]))))))) (.seq (.reg 25 [s 6 (d 2) (.op (.call 112 [(.t 0),Sd,(.t 1)]) [(v 0),(An 187 (v 1))])]) .ret)))⟩
def ah7:FT:=⟨2,15,[.cell 3 true 6],[0,1,3,4],false,(.seq (.reg 0 [p 2 W4,p 3 Jc]) (.seq (.rawE [[(0,I0 5 0),(1,I0 6 0),(2,I1 7 (.nilchk (.t 6))),(3,I6 8 13 7),(4,I7 9 8),(5,I6 10 0 3),(6,I7 11 10),(7,I1 12 (.bslice 1 1 Z7 [(0,(.t 11))])),(8,I1 13 (.append 1 8 Z7 (.t 9) (.t 12)))],[(9,I1 14 (.nilchk (.t 5)))],[(10,I6 15 13 14)],[(11,I9 1 15 13)]] (bm [0,0,2,6,14,0,32,96,254,511,1023,2047])) (.seq (.reg 16 [s 6 (d 3) (la 6 (d 2))]) .ret)))⟩
def ah6:FT:=⟨2,49,[.tmp 3],[0,1,2,4],true,(.seq Pm (.seq (.reg 5 [m 3 (.and (.and (.and (.and (.and (.and (b2 .gtr (ld (fa 0 Fk)) (v 1)) (bk .leq 65535 (ld (fa 0 Fk)))) (.or (bk .eql 1 (ld (fa 1 Fk))) (bk .eql 2 (ld (fa 1 Fk))))) (.op (.call 120 [(.t 0),(.c (.int .i64 65535))]) [(ld (fa 2 Fk))])) (.op (.call 120 [(.t 0),(.c (.int .i64 255))]) [(ld (fa 3 Fk))])) (An 156 a6x)) (.op Yt [a6x,Se]))]) .ret))⟩
def ah5:FT:=⟨1,21,[.tmp 2],[0,1,2],true,(.seq U2 (.seq (.rawE [[(0,I6 3 0 1),(1,I6 4 0 3),(2,I7 5 4),(3,I6 6 0 1),(4,I6 7 1 6),(5,I7 8 7),(6,I6 9 0 1),(7,I6 10 2 9),(8,I7 11 10),(9,I6 12 0 1),(10,I6 13 3 12),(11,I7 14 13),(12,I1 15 (.bslice 1 4 Z7 [(0,(.t 5)),(1,(.t 8)),(2,(.t 11)),(3,(.t 14))])),(14,I6 17 5 1),(15,I1 18 (.load true 6 (.t 17))),(16,I1 19 (.bslice 6 1 Fj [(0,(.t 18))])),(13,I1 16 (.call 39 [(.c (.str [50,49,50,49])),(.t 15)]))],[(17,I1 20 (.call 121 [(.t 19)]))],[(18,I1 21 (.bins .add (.t 16) (.t 20)))],[(19,I0 2 21)]] (bm [0,1,3,0,8,24,0,64,192,0,512,1536,4095,8191,0,16384,49152,131071,262143,524287])) .ret))⟩
def a57:FT:=⟨1,60,[.tmp 1],[0,2,3,4,5,45,46,50],false,(.seq W89 (.seq (.ifc 6 [] (bk .lss 2 Gi) (.seq (.reg 9 [m 1 (v 0)]) .ret) .skip) (.seq (.seq (.reg 0 [z 2 1]) (.block 0 (.loop [0,2] [] (.seq (.ifc 10 [] (b2 .lss (v 2) Gi) .skip W8) (.seq (.block 1 (.ifd 16 [] (b2 .eql (ld (ia 1 (v 0) (v 2))) (ld (ia 1 (v 0) (bk .sub 1 (v 2))))) (.seq (.reg 26 [m 3 (.op W95 [(v 0),(v 2)])]) (.seq (.seq (.reg 0 [z 4 1]) (.block 2 (.loop [0,2,3,4] [] (.seq (.ifc 29 [] (b2 .lss (v 4) (ln (v 3))) .skip Pl) (.seq (.block 3 (.ifd 35 [] (b2 .neq (ld (ia 1 (v 3) (v 4))) (ld (ia 1 (v 3) (bk .sub 1 (v 4))))) (.seq (.reg 47 [m 5 (d 0),m 6 (d 2),p 7 (ld (ia 1 (v 3) (v 4))),s 1 (ia 1 (d 5) (d 6)) (d 7)]) (.reg 52 [m 2 (bk .add 1 (v 2))])) .skip)) (.reg 33 [m 4 (bk .add 1 (v 4))])))))) (.seq (.reg 54 [e (.clear 1 Z7 (.t 0)) [(.op W95 [(v 0),(v 2)])]]) (.seq (.reg 57 [m 1 (.op (.slicel 1 (.t 0) none (some (.t 1))) [(v 0),(v 2)])]) .ret)))) .skip)) (.reg 14 [m 2 (bk .add 1 (v 2))])))))) (.seq (.reg 60 [m 1 (v 0)]) .ret))))⟩
def ah4:FT:=⟨1,26,[.tmp 2],[0,1,2],true,(.seq R6 (.seq (.ifc 3 [] (bk .eql 0 (ld W6)) (.seq (.reg 6 [m 2 (.op W49 [(la 6 (d 1)),Se])]) .ret) .skip) (.seq (.reg 9 [m 2 (.and (.and (.and (bk .gtr 0 (ld W6)) (bk .leq 65535 (ld W6))) (bk .geq 0 Yk)) (bk .leq 1073741824 Yk))]) .ret)))⟩
def ah3:FT:=⟨1,25,[.tmp 2],[0,1,2,3,5,15,16,17],true,(.seq ap8 (.seq (.reg 6 [m 3 (.op (.bslice 1 2 Z7 [(0,(.t 0)),(1,(.t 1))]) [Pj,Wi])]) (.seq (.seq (.reg 13 [p 5 (la 4 (fa 2 W6)),z 6 0]) (.block 0 (.loop [3,5,6] [(3,1)] (.seq (.reg 0 [p 7 (bk .lss 4 (d 6))]) (.seq Tz (.seq (.block 1 (.seq (.reg 18 [m 4 (.op (.indexa false 4 1 (.t 0) (.t 1)) [(d 5),(d 6)])]) (.reg 19 [m 3 (.op Wc [(v 3),(.op Ys [(cv .i64 (v 4))])])]))) (.reg 24 [m 6 Tx]))))))) (.seq (.reg 25 [m 2 (v 3)]) .ret))))⟩
def ah2:FT:=⟨1,31,[.tmp 2],[0,1,2],true,(.seq R6 (.seq (.reg 3 [m 2 (.and (.and (.and (.and (bk .geq 1 Pj) (bk .leq 6 Pj)) (bk .geq 1 Wi)) (bk .leq 1073741824 Wi)) (bk .leq 249 (ls Wh)))]) .ret))⟩
def ah1:FT:=⟨1,49,[.tmp 2],[0,1,2],true,(.seq R6 (.seq (.reg 3 [m 2 (.and (.and (.and (.and (.and (.and (.and (bk .geq 1 Pj) (bk .leq 1073741824 Pj)) (bk .geq 0 Wi)) (bk .leq 1073741824 Wi)) (bk .geq 0 Wh)) (bk .lss 6 Wh)) (An 156 (la 6 (fa 3 W6)))) (.op Yt [(la 6 (fa 3 W6)),Se]))]) .ret))⟩
def ag9:FT:=⟨1,23,[.tmp 2],[0,1,2],true,(.seq U2 (.seq (.ifc 3 [] (no (An 159 (la 9 (d 1)))) Ja .skip) (.seq (.rawE [[(0,I6 6 0 1),(1,I6 7 0 6),(2,I7 8 7),(3,I6 9 0 1),(4,I6 10 1 9),(5,I7 11 10),(6,I6 12 0 1),(7,I6 13 2 12),(8,I7 14 13),(9,I1 15 (.bslice 1 4 Z7 [(0,(KI 171)),(1,(.t 8)),(2,(.t 11)),(3,(.t 14))])),(11,I6 17 0 1),(12,I6 18 3 17),(13,I1 19 (.load true 6 (.t 18))),(14,I1 20 (.bslice 6 1 Fj [(0,(.t 19))])),(10,I1 16 (.call 39 [(.c (.str [49,52,52,49])),(.t 15)]))],[(15,I1 21 (.call 121 [(.t 20)]))],[(16,I1 22 (.bins .add (.t 16) (.t 21)))],[(17,I1 23 (.call 38 [(.t 22)]))],[(18,I0 2 23)]] (bm [0,1,3,0,8,24,0,64,192,511,1023,0,2048,6144,14336,32767,65535,131071,262143])) .ret)))⟩
def ag8:FT:=⟨1,27,[.cell 1 true 6],[0,2,3,4,13,14,16,22,25],true,(.seq (.reg 0 [p 1 Jc]) (.seq (.rawE [[(0,I0 5 0),(1,I1 6 (.iaddr 1 (.t 5) (KI 0))),(2,I7 7 6),(3,I0 8 0),(4,I1 9 (.iaddr 1 (.t 8) (KI 1))),(5,I7 10 9),(6,I1 11 (.build Fj [(0,1,(.t 7)),(1,1,(.t 10))])),(7,I1 12 (.build Fj [(0,6,(.t 11))])),(8,I1 3 (.alloc Fj))],[(9,I9 6 3 12)]] (bm [0,1,3,0,8,24,63,127,0,511])) (.seq (.seq (.reg 0 [z 4 0]) (.block 0 (.loop [0,1,2,4] [] (.seq (.reg 0 [p 5 (bk .lss 4 (d 4))]) (.seq (.ifv 5 .skip W8) (.seq (.block 1 (.seq (.reg 15 [m 3 (v 4)]) (.reg 17 [m 6 (d 3),p 7 (cv .u32 (ld (ia 1 (v 0) (.op (.bini .add R4 (.t 0)) [(v 3)])))),p 8 (.op U1 [(fa 2 Fk),(d 6)]),s 1 (d 8) (d 7)]))) (.reg 26 [m 4 (bk .add 1 (d 4))]))))))) (.seq (.reg 27 [s 6 (d 1) (la 6 (d 2))]) .ret))))⟩
def ag7:FT:=⟨1,8,[.tmp 1],[0,2],false,(.seq W89 (.seq (.reg 3 [m 1 (.op (.slice3 (.t 0) R2 (.t 1) (.t 2)) [(v 0),Gi,Gi])]) .ret))⟩
def Tb:FT:=⟨1,74,[.cell 1 true 5,.tmp 2,.tmp 3,.tmp 4],[0,2,3,4,5,6,7,8,9,12,13,14,38,45,46,47,51,54,55,56,68],true,(.seq (.reg 0 [p 1 U0,z 2 0,y 3 (.emp),y 4 (.bool false)]) (.seq (.reg 10 [m 8 (.op (.call 126 [(.c (.str [49,49,49])),(.t 0)]) [(v 0)]),p 9 (ex 0 (d 8)),p 10 (ex 1 (d 8)),p 11 (ex 2 (d 8)),m 5 (d 9),m 6 (d 10),m 4 (d 11)]) (.seq (.ifc 15 [] (.or (no (v 4)) (b2 .lss (ls (v 6)) (ld (ik 1 2 (v 5))))) (.seq (.reg 25 [s 5 (d 1) a74,z 2 0,y 3 (.emp),y 4 (.bool false)]) .ret) .skip) (.seq (.rawE [[(0,I0 26 6),(1,I1 27 (.iaddr 1 (.t 26) (KI 0))),(2,I7 28 27),(3,I0 29 6),(4,I1 30 (.iaddr 1 (.t 29) (KI 1))),(5,I7 31 30),(6,I0 32 7),(7,I0 33 6),(8,I1 34 (.iaddr 1 (.t 33) (KI 2))),(9,I7 35 34),(10,I1 36 (.slices (.t 32) none (some (.t 35))))],[(11,I1 37 (.build Z8 [(0,1,(.t 28)),(1,1,(.t 31)),(2,1,(.t 36))]))],[(12,I9 5 2 37)]] (bm [0,1,3,0,8,24,0,0,128,384,960,2047,4095])) (.seq (.reg 39 [m 12 (.op (.call 126 [(.c (.str [50])),(.t 0)]) [(.op aq6 [(v 6),(ld (ik 1 2 (v 5)))])]),p 13 (ex 0 (d 12)),p 14 (ex 1 (d 12)),p 15 (ex 2 (d 12)),m 7 (d 13),m 6 (d 14),m 4 (d 15)]) (.seq (.ifc 48 [] (no (v 4)) (.seq (.reg 50 [s 5 (d 1) a74,z 2 0,y 3 (.emp),y 4 (.bool false)]) .ret) .skip) (.seq (.reg 52 [m 16 (.op (.call 127 [(.t 0),Yn]) [(v 6)]),p 17 (ex 0 (d 16)),p 18 (ex 1 (d 16)),p 19 (ex 2 (d 16)),m 3 (d 17),m 4 (d 19)]) (.seq (.seq (.rawE [[(0,I0 57 5)],[(1,I1 58 (.un .not (.t 57)))],[(2,I0 59 58)],[(3,I3 60 59 (.load true 5 (.t 2))),(4,I5 61 59 8),(5,I3 62 59 (.iaddr 1 (.t 61) (KI 0))),(6,I3 63 59 (.load false 1 (.t 62))),(7,I5 64 59 4),(9,I5 66 59 0),(8,I3 65 59 (.call 186 [(.t 60),(.t 63),(.t 64)]))],[(10,I3 67 59 (.bins .neq (.t 65) (.t 66)))],[(11,I1 68 (.pick (.t 59) K2 (.t 67)))]] (bm [0,1,3,7,7,23,55,7,255,7,1023,2047])) (.ifv 20 (.seq (.reg 69 [s 5 (d 1) a74,z 2 0,y 3 (.emp),y 4 (.bool false)]) .ret) .skip)) (.seq (.rawE [[(0,I1 70 (.load true 5 (.t 2))),(1,I0 71 8),(2,I1 72 (.iaddr 1 (.t 71) (KI 0))),(3,I7 73 72),(4,I0 74 4),(5,I9 5 2 70),(6,I0 3 73)],[(7,I0 4 74)],[(8,I1 5 (.mv K2))]] (bm [0,0,2,6,0,1,47,127,255])) .ret)))))))))⟩
def ag6:FT:=⟨2,7,[.tmp 2],[0,1,4],true,(.seq W1 (.seq (.reg 5 [m 2 (bk .geq 0 (B9 190 (v 0) (v 1)))]) .ret))⟩
def ag5:FT:=⟨1,5,[.tmp 2],[0,1,2],false,(.seq R6 (.seq (.reg 3 [m 2 (.op Yt [(la 6 (d 1)),Se])]) .ret))⟩
def ag4:FT:=⟨1,21,[.tmp 1],[0,2],true,(.seq Pk (.seq (.reg 3 [m 1 (.and (.and (.and (.and (.op (.bins .neq (.t 0) (.c (.str []))) [(v 0)]) (bk .leq 8 U4)) (An 191 (v 0))) (.op (.bins .neq (.t 0) (.c (.str [46]))) [(v 0)])) (.op (.bins .neq (.t 0) (.c (.str [46,46]))) [(v 0)]))]) .ret))⟩
def ag3:FT:=⟨3,66,[.tmp 3,.tmp 4],[0,1,2,6,7,8,9,10,11,12,13,14,15,16,17,19,20,35,40,67,68],false,(.seq (.reg 0 [y 3 (.str []),z 4 0]) (.seq (.seq (.reg 0 [m 10 (d 2),p 11 (ln (d 10)),z 12 0]) (.block 0 (.loop [0,1,3,4,10,11,12] [] (.seq W86 (.seq (.ifv 13 .skip W8) (.seq (.block 1 (.seq (.reg 18 [m 14 (d 12),p 15 (la 6 (ia 6 (d 10) (d 12))),p 6 Jc,m 5 (d 14),s 6 (d 6) (d 15)]) (.seq (.rawE [[(0,I0 21 0),(1,I1 22 (.nilchk (.t 21))),(2,I6 23 0 22),(3,I1 24 (.load true 5 (.t 23))),(4,I1 25 (.load true 6 (.t 9)))],[(5,I1 26 (.call 49 [(.t 24),(.t 25),(KI 1)]))],[(6,I0 20 26)],[(7,I8 27 20 0),(8,I8 28 20 1),(9,I0 10 27)],[(10,I0 11 28)]] (bm [0,1,3,7,0,31,63,127,127,255,1023])) (.seq (.reg 29 [m 9 (.op (.min2 (.t 0) a2l) [(.op (.max2 (.t 0) R2) [(b2 .sub (v 1) (bk .mul 32 (v 5)))])])]) (.seq (.block 2 (.seq (.reg 36 [m 17 (.op W49 [(la 6 (d 6)),Se])]) (.ifv 17 (.reg 39 [m 7 (.op (.call 192 [a2l]) [])]) (.seq (.seq (.reg 41 [m 18 (no (v 8))]) (.ifv 18 .skip (.seq (.reg 43 [m 18 (bk .neq 32 (ls (v 7)))]) (.ifv 18 .skip (.seq (.reg 46 [m 18 (bs .eql (v 7) (.op (.call 192 [a2l]) []))]) (.ifv 18 .skip (.rawE [[(0,I0 49 10),(1,I0 50 12),(2,I1 51 (.slices (.t 49) (some (.t 50)) none)),(3,I0 52 12),(4,I1 53 (.bini .sub (KI 32) (.t 52))),(5,I1 54 (.call 192 [(.t 53)]))],[(6,I1 55 (.bins .neq (.t 51) (.t 54)))],[(7,I0 40 55)]] (bm [0,0,3,0,8,24,63,127])))))))) (.ifv 18 (.rawE [[(1,I0 57 7),(2,I0 58 8),(3,I1 59 (.bini .shl (KI 1) (.t 58))),(4,I1 60 (.bini .or (.t 57) (.t 59))),(0,I1 56 (.call 192 [(KI 32)])),(5,I0 10 56)],[(6,I0 7 60)]] (bm [0,0,0,4,14,1,63])) .skip))))) (.reg 61 [m 3 (bs .add (v 3) (v 7))])))))) (.reg 64 [m 12 (bk .add 1 (d 12))]))))))) (.seq (.reg 65 [p 19 (.op aq7 [(v 3),(v 1)]),m 20 (d 4),m 3 (d 19),m 4 (d 20)]) .ret)))⟩
def ag2:FT:=⟨1,53,[.cell 2 true 1],[0,1,2,3,4,5,9,11,12,13,14,15,17,18,37],true,(.seq (.reg 0 [p 1 W0,p 2 (.op (.alloc [.emp]) [])]) (.seq (.reg 6 [p 6 (.op aq1 [(An 56 (ld W6))]),p 3 (.op (.alloc [.emp]) []),s 1 (d 3) (d 6)]) (.seq (.seq (.reg 10 [p 7 K1,p 8 (ln (d 7)),z 9 0]) (.block 0 (.loop [2,3,7,8,9] [] (.seq W43 (.seq Wa (.seq (.block 1 (.seq (.reg 16 [m 11 (d 9),p 12 (la 5 (ia 5 (d 7) (d 9))),p 5 U0,m 4 (d 11),s 5 (d 5) (d 12)]) (.block 2 (.seq (.reg 19 [m 13 (.and (.and (bk .eql 1 Yl) (bk .gtr 0 (ld (fa 4 (d 5))))) (bk .leq 15 (ld (fa 4 (d 5)))))]) (.ifv 13 (.reg 32 [e (.store 1 (.t 0) R2) [(fa 4 (ia 5 K1 (v 4)))]]) (.seq (.reg 38 [m 14 (.and (.op (.eqs false [.i,.i,.s,.s,.i] (.t 0) (.t 1)) [(la 5 (d 5)),(.op (.build Z8 [(0,1,Sd)]) [])]) (bk .gtr 0 (v 4)))]) (.ifv 14 (.rawE [[(0,I6 45 0 3),(1,I7 46 45),(2,I0 47 4),(3,I1 48 (.load true 1 (.t 3))),(4,I1 49 (.call 193 [(.t 48)])),(5,I1 50 (.build Z8 [(0,1,(KI 2)),(2,1,(.t 49))]))],[(6,I1 51 (.iaddr 5 (.t 46) (.t 47)))],[(7,I9 5 51 50)]] (bm [0,1,0,0,8,24,63,127])) .skip))))))) (.reg 52 [m 9 Vy]))))))) (.seq (.reg 53 [s 1 (d 2) (la 1 (d 3))]) .ret))))⟩
def ag1:FT:=⟨2,9,[.tmp 3],[0,1,2,4],true,(.seq Pm (.seq (.rawE [[(0,I6 5 2 2),(1,I1 6 (.load true 4 (.t 5))),(2,I0 7 1),(3,I1 8 (.bslice 1 1 [.str []] [(0,(.t 7))])),(4,I1 9 (.call 70 [(.t 8)]))],[(5,I1 10 (.eqs false [.i,.i,.i,.i] (.t 6) (.t 9)))],[(6,I0 4 10)]] (bm [0,1,0,4,12,31,63])) .ret))⟩
def af9:FT:=⟨2,7,[.tmp 2],[0,1,4],true,(.seq W1 (.seq (.reg 5 [m 2 (bk .geq 0 (B9 196 (v 0) (v 1)))]) .ret))⟩
def af8:FT:=⟨2,6,[.tmp 3],[0,1,2,3],true,(.seq Pm (.seq (.reg 4 [m 3 (B9 174 (.op (.build Z2 [(0,2,(.t 0))]) [(la 2 (d 2))]) (ld (d 1)))]) .ret))⟩
def af7:FT:=⟨2,15,[.tmp 3],[0,1,2,4],true,(.seq Pm (.seq (.reg 5 [m 3 (.and (b2 .leq (ld (fa 0 Fk)) (v 1)) (b2 .lss (v 1) (ld (fa 1 Fk))))]) .ret))⟩
def Ta:FT:=⟨2,36,[.tmp 4],[0,1,2,3,4,5,22],true,(.seq W56 (.seq (.block 0 (.seq (.reg 6 [m 5 (.or (.or (bk .neq 0 (ld (fa 4 (d 3)))) (no (An 166 (ld (fa 2 (d 3)))))) (no (B9 197 (la 1 (d 2)) R0)))]) (.ifv 5 (.seq (.reg 0 [y 4 (.bool false)]) .ret) (.seq (.reg 23 [m 6 (bk .eql 1 K1)]) (.ifv 6 (.seq (.reg 26 [m 4 (bk .leq 128 (ls Yj))]) .ret) .skip))))) (.seq (.reg 30 [m 4 (.and (bk .eql 2 K1) (.op W52 [Yj]))]) .ret)))⟩
def af6:FT:=⟨2,17,[.tmp 3],[0,1,2,4,7,8,9],true,(.seq Pm (.seq (.seq (.reg 5 [p 4 (ln (ld Fk)),z 5 0]) (.block 0 (.loop [1,2,4,5] [] (.seq R7 (.seq O9 (.seq (.block 1 (.seq (.ifc 10 [] (bk .eql 0 (v 1)) W88 .skip) (.reg 12 [m 1 (ld (fa 1 a6y))]))) a6w)))))) (.seq Yr .ret)))⟩
def af5:FT:=⟨2,48,[.tmp 3],[0,1,2,4,5,6,8,9,10,11,12,14],true,(.seq Pm (.seq (.seq (.reg 7 [p 6 (ld Fk),p 7 (ln (d 6)),z 8 0]) (.block 0 (.loop [1,2,6,7,8] [] (.seq Wd (.seq Tw (.seq (.block 1 (.seq (.reg 13 [m 10 (d 8),p 11 (la 5 (ia 5 (d 6) (d 8))),p 5 U0,m 4 (d 10),s 5 (d 5) (d 11)]) (.ifd 15 [] (.and (.and (.and (.and (bk .gtr 0 (v 4)) (b2 .neq (v 4) (v 1))) (bk .neq 0 Yl)) (b2 .eql (ld (fa 1 (d 5))) (ld (fa 1 a6y)))) (bs .eql (ld (fa 2 (d 5))) (ld (fa 2 a6y)))) W88 .skip))) (.reg 49 [m 8 Tv]))))))) (.seq Yr .ret)))⟩
def af4:FT:=⟨2,17,[.tmp 2],[0,1,4,5,7,8,9],true,W7⟩
def af3:FT:=⟨2,6,[.tmp 3],[0,1,2,3],true,(.seq Pm (.seq (.reg 4 [m 3 (b2 .eql (ld Fk) (ld (d 1)))]) .ret))⟩
def a55:FT:=⟨4,48,[.cell 4 true 6],[0,1,2,3,8,10,11,18,19,20,21,23],false,(.seq (.reg 0 [p 4 Jc]) (.seq (.ifc 12 [] (.op W52 [(v 3)]) (.seq (.reg 14 [s 6 (d 4) Se]) .ret) .skip) (.seq (.seq (.reg 15 [p 7 (ld (fa 12 W5)),p 8 (ln (d 7)),z 9 0]) (.block 0 (.loop [0,1,2,3,4,7,8,9] [] (.seq W43 (.seq Wa (.seq (.block 1 (.seq (.reg 22 [p 11 (la 13 (ia 13 (d 7) (d 9))),p 5 a6z,s 13 (d 5) (d 11)]) (.seq (.reg 24 [m 6 (B9 185 (la 13 (d 5)) (v 1))]) (.ifc 27 [] (.and (.op (.eqnil true (.t 0)) [(v 6)]) (bs .eql (B9 183 (ld (fa 3 (ia 5 (ld (fa 4 (fa 0 (d 5)))) (v 1)))) (v 2)) (v 3))) (.seq (.reg 42 [s 6 (d 4) (B9 151 (v 0) (la 6 (ia 6 (v 6) (v 2))))]) .ret) .skip)))) (.reg 48 [m 9 Vy]))))))) (.seq (.reg 49 [s 6 (d 4) (.op (.call 112 [(.t 0),R1,(.t 1)]) [(v 0),(v 3)])]) .ret))))⟩
def af2:FT:=⟨2,30,[.tmp 2],[0,1,4,5],true,(.seq W3 (.seq (.ifc 6 [] (.or (.or Ym (bk .geq 4 (v 1))) (bk .gtr 128 U4)) Ja .skip) (.seq (.reg 17 [m 0 (bs .add (v 0) (An 198 (.op (.bini .sub (.c (.int .i64 128)) (.t 0)) [U4])))]) (.seq (.seq (.reg 23 [m 3 (.op (.slices (.t 0) none (some a2l)) [(.op aq6 [(v 0),(bk .mul 32 (v 1))])])]) (.ifc 28 [] (bs .neq (v 3) (.op (.call 198 [a2l]) [])) (.seq (.reg 31 [m 2 (v 3)]) .ret) .skip)) Ja))))⟩
def a54:FT:=⟨2,24,[.tmp 2],[0,1,4,5,12,13,14],true,(.seq W1 (.seq Yz (.seq (.seq W73 (.block 0 (.loop [0,1,4,5] [] (.seq R7 (.seq O9 (.seq (.block 1 (.seq W84 (.ifd 16 [] (.op Yt [W99,(la 6 (ia 6 (v 1) (v 3)))]) Im .skip))) a2m)))))) U3)))⟩
def a13:FT:=⟨2,24,[.tmp 3],[0,1,2,4],true,(.seq (.reg 0 [p 2 W0,y 3 (.emp)]) (.seq (.ifc 5 [] (.or (b2 .geq (v 1) (ln (ld (fa 4 Fk)))) (b2 .lss (ln (ld (fa 12 (d 2)))) (bk .mul 4 (bk .add 1 (v 1))))) (.seq (.reg 0 [y 3 (.emp)]) .ret) .skip) (.seq (.reg 20 [m 3 (.op (.slicel 6 (.t 0) none (some Yn)) [(.op (.slicel 6 (.t 0) (some (.t 1)) none) [(ld (fa 12 (d 2))),(bk .mul 4 (v 1))])])]) .ret)))⟩
def Oy:FT:=⟨3,53,[.tmp 4],[0,1,2,3,6,7,26],true,(.seq (.reg 0 [p 3 W0,y 4 (.str [])]) (.seq (.block 0 (.seq (.seq (.reg 8 [m 5 (.and (bk .neq 1 K1) (bk .neq 2 K1))]) (.ifv 5 .skip (.seq (.reg 16 [m 5 (bk .lss 0 R0)]) (.ifv 5 .skip (.seq (.reg 19 [m 5 (bk .geq 8 R0)]) (.ifv 5 .skip (.reg 22 [m 5 (bk .gtr 8 (ls (ld (fa 2 (d 3)))))]))))))) (.ifv 5 (.seq (.reg 0 [y 4 (.str [])]) .ret) (.seq (.seq (.reg 27 [m 6 Ym]) (.ifv 6 .skip (.seq (.reg 29 [m 6 (bk .gtr 128 (v 1))]) (.ifv 6 .skip (.seq (.reg 31 [m 6 (bk .neq 4 (ln (v 2)))]) (.ifv 6 .skip (.reg 34 [m 6 (.op W52 [(An 121 (v 2))])]))))))) (.ifv 6 (.seq (.reg 0 [y 4 (.str [])]) .ret) .skip))))) (.seq (.rawE [[(0,I6 37 0 3),(1,I7 38 37),(2,I6 39 1 3),(3,I7 40 39),(4,I6 41 2 3),(5,I7 42 41),(6,I1 43 (.len true (.t 42))),(7,I1 44 (.bslice 1 3 Z7 [(0,(.t 38)),(1,(.t 40)),(2,(.t 43))])),(9,I6 46 2 3),(10,I7 47 46),(12,I0 49 1),(13,I1 50 (.bslice 1 1 Z7 [(0,(.t 49))])),(16,I0 53 2),(8,I1 45 (.call 39 [(.c (.str [49,49,49])),(.t 44)])),(11,I1 48 (.bins .add (.t 45) (.t 47))),(14,I1 51 (.call 39 [(.c (.str [50])),(.t 50)])),(15,I1 52 (.bins .add (.t 48) (.t 51))),(17,I1 54 (.call 121 [(.t 53)]))],[(18,I1 55 (.bins .add (.t 52) (.t 54)))],[(19,I0 6 55)]] (bm [0,1,0,4,0,16,48,127,255,0,512,2047,0,4096,12799,32767,0,94719,262143,524287])) .ret)))⟩
def a52:FT:=⟨1,7,[.tmp 1],[0,2],true,(.seq R5 (.seq (.ifc 3 [] (bk .neq 8 Gi) (.seq R5 .ret) .skip) (.seq (.reg 6 [m 1 (An 121 (v 0))]) .ret)))⟩
def af1:FT:=⟨2,17,[.tmp 2],[0,1,4,5,7,8,9],true,(.seq Vx (.seq (.seq (.reg 6 [p 4 Gi,z 5 0]) (.block 0 (.loop [0,1,4,5] [] (.seq R7 (.seq O9 (.seq (.block 1 (.seq (.reg 10 [m 3 (v 5)]) (.ifc 11 [] (.op (.calld (.t 0) [(.t 1)]) [(v 1),W99]) aq5 .skip))) a6w)))))) W36))⟩
def af0:FT:=⟨1,15,[.tmp 1],[0,2,4,6,7,8,9],true,(.seq Pk (.seq (.seq (.reg 5 [p 3 (.op (.convsb (.t 0)) [(v 0)]),p 4 (ln (d 3)),z 5 0]) (.block 0 (.loop [3,4,5] [] (.seq R7 (.seq O9 (.seq (.block 1 (.seq (.reg 10 [m 2 (ld (ia 1 (d 3) (d 5)))]) (.ifc 12 [] (bk .lss 0 (.op (.call 210 [(.c (.str [97,98,99,100,101,102,103,104,105,106,107,108,109,110,111,112,113,114,115,116,117,118,119,120,121,122,48,49,50,51,52,53,54,55,56,57,46,95,45])),(.t 0)]) [(v 2)])) (.seq Pk .ret) .skip))) (.reg 15 [m 5 W40]))))))) (.seq (.reg 0 [y 1 (.bool true)]) .ret)))⟩
def a4z:FT:=⟨1,5,[.tmp 1],[0,2],true,W59⟩
def ae9:FT:=⟨1,11,[.tmp 2],[0,1,2,3],true,(.seq U2 (.seq (.reg 0 [p 3 (.op (.alloc Z7) []),e (.store 1 (.t 0) R2) [(d 3)]]) (.seq (.block 0 (.loop [1,3] [] (.seq (.ifc 4 [] (B9 211 (ld W6) (.op (.mkfn (.func 212) [] [(.t 0)]) [(d 3)])) .skip W8) (.block 1 (.reg 8 [s 1 (d 3) (bk .add 1 (ld (d 3)))]))))) (.seq (.reg 10 [m 2 (An 213 (ld (d 3)))]) .ret))))⟩
def ae8:FT:=⟨2,17,[.tmp 2],[0,1,4,5,7,8,9],true,(.seq Vx (.seq (.seq (.reg 6 [p 4 Gi,z 5 0]) (.block 0 (.loop [0,1,4,5] [] (.seq R7 (.seq O9 (.seq (.block 1 (.seq (.reg 10 [m 3 (v 5)]) (.ifc 11 [] (.op (.calld (.t 0) [(.t 1)]) [(v 1),(la 2 (ia 2 (v 0) (v 3)))]) aq5 .skip))) a6w)))))) W36))⟩
def a12:FT:=⟨2,21,[.tmp 3],[0,1,2,4],true,(.seq Pm (.seq (.reg 5 [m 3 (.and b3t (bk .eql 2 (ld (fa 0 a6y))))]) .ret))⟩
def ae7:FT:=⟨1,5,[.tmp 1],[0,2],true,W59⟩
def ae6:FT:=⟨2,7,[.tmp 2],[0,1,4],true,(.seq W1 (.seq (.reg 5 [m 2 (bk .geq 0 (B9 221 (v 0) (v 1)))]) .ret))⟩
def ae5:FT:=⟨2,7,[.tmp 3],[0,1,2,3],true,(.seq Pm (.seq (.rawE [[(0,I6 4 2 2),(1,I7 5 4),(2,I7 6 1),(3,I1 7 (.call 213 [(.t 6)]))],[(4,I1 8 (.bins .eql (.t 5) (.t 7)))],[(5,I0 3 8)]] (bm [0,1,0,4,15,31])) .ret))⟩
def ae4:FT:=⟨2,17,[.tmp 2],[0,1,4,5,7,8,9],true,W7⟩
def tab:List (Nat×FT):=[(3,g3),(4,g4),(5,g5),(6,g6),(7,g7),(8,g8),(9,g9),(10,Y1),(11,g11),(12,g12),(13,g13),(14,g14),(15,g15),(16,g16),(17,g17),(18,g18),(19,g19),(20,g20),(21,Gc),(22,T9),(23,g23),(24,g24),(25,g25),(26,g26),(27,g27),(28,g28),(29,g29),(30,g30),(31,g31),(32,g32),(33,g33),(34,g34),(35,g35),(36,g36),(37,g37),(38,g38),(39,g39),(40,g40),(41,g41),(42,g42),(43,g43),(44,T8),(45,g45),(46,g46),(47,T7),(48,g48),(49,g49),(50,Vd),(51,g51),(57,g57),(58,g58),(59,g59),(60,g60),(61,g61),(62,g62),(63,g63),(64,g64),(65,g65),(66,g66),(67,g67),(68,g68),(69,g69),(70,g70),(72,g72),(73,g73),(74,g74),(75,g75),(76,g76),(77,Lm),(78,O3),(79,g79),(80,g80),(81,g81),(82,S6),(83,g83),(84,Vc),(85,Vb),(86,g86),(87,g87),(88,Xw),(89,g89),(90,g90),(91,g91),(92,g92),(93,g93),(94,g94),(95,g95),(96,g96),(97,g97),(105,ak4),(106,ak3),(107,a5e),(108,ak2),(109,a5d),(110,a19),(111,ak0),(112,a5c),(113,a18),(115,aj9),(116,aj8),(117,aj7),(118,Y0),(119,aj6),(120,aj5),(121,aj4),(122,a5a),(123,aj3),(124,Xz),(125,aj2),(126,aj1),(127,aj0),(128,a17),(129,a59),(130,Js),(131,ai8),(133,Xy),(134,Xx),(135,ai7),(136,ai6),(137,ai5),(138,ai4),(139,ai3),(140,ai1),(141,a16),(147,a15),(148,ai0),(149,a58),(150,ah8),(151,ah7),(152,ah6),(153,ah5),(155,a57),(156,ah4),(157,ah3),(158,ah2),(159,ah1),(160,ag9),(161,ag8),(162,ag7),(163,Tb),(164,ag6),(165,ag5),(166,ag4),(167,ag3),(168,ag2),(170,ag1),(172,af9),(173,af8),(174,af7),(177,Ta),(178,af6),(179,af5),(180,af4),(181,af3),(182,a55),(183,af2),(184,a54),(185,a13),(186,Oy),(187,a52),(190,af1),(191,af0),(192,a4z),(193,ae9),(196,ae8),(197,a12),(198,ae7),(211,ae6),(212,ae5),(221,ae4)]
theorem l3:A9 tab 3=some g3:=kk
theorem l4:A9 tab 4=some g4:=kk
theorem l5:A9 tab 5=some g5:=kk
theorem l6:A9 tab 6=some g6:=kk
theorem l7:A9 tab 7=some g7:=kk
theorem l8:A9 tab 8=some g8:=kk
theorem l9:A9 tab 9=some g9:=kk
theorem l10:A9 tab 10=some Y1:=kk
theorem l11:A9 tab 11=some g11:=kk
theorem l12:A9 tab 12=some g12:=kk
theorem l13:A9 tab 13=some g13:=kk
theorem l14:A9 tab 14=some g14:=kk
theorem l15:A9 tab 15=some g15:=kk
theorem l16:A9 tab 16=some g16:=kk
theorem l17:A9 tab 17=some g17:=kk
theorem l18:A9 tab 18=some g18:=kk
theorem l19:A9 tab 19=some g19:=kk
theorem l20:A9 tab 20=some g20:=kk
theorem l21:A9 tab 21=some Gc:=kk
theorem l22:A9 tab 22=some T9:=kk
theorem l23:A9 tab 23=some g23:=kk
theorem l24:A9 tab 24=some g24:=kk
theorem l25:A9 tab 25=some g25:=kk
theorem l26:A9 tab 26=some g26:=kk
theorem l27:A9 tab 27=some g27:=kk
theorem l28:A9 tab 28=some g28:=kk
theorem l29:A9 tab 29=some g29:=kk
theorem l30:A9 tab 30=some g30:=kk
theorem l31:A9 tab 31=some g31:=kk
theorem l32:A9 tab 32=some g32:=kk
theorem l33:A9 tab 33=some g33:=kk
theorem l34:A9 tab 34=some g34:=kk
theorem l35:A9 tab 35=some g35:=kk
theorem l36:A9 tab 36=some g36:=kk
theorem l37:A9 tab 37=some g37:=kk
theorem l38:A9 tab 38=some g38:=kk
theorem l39:A9 tab 39=some g39:=kk
theorem l40:A9 tab 40=some g40:=kk
theorem l41:A9 tab 41=some g41:=kk
theorem l42:A9 tab 42=some g42:=kk
theorem l43:A9 tab 43=some g43:=kk
theorem l44:A9 tab 44=some T8:=kk
theorem l45:A9 tab 45=some g45:=kk
theorem l46:A9 tab 46=some g46:=kk
theorem l47:A9 tab 47=some T7:=kk
theorem l48:A9 tab 48=some g48:=kk
theorem l49:A9 tab 49=some g49:=kk
theorem l50:A9 tab 50=some Vd:=kk
theorem l51:A9 tab 51=some g51:=kk
theorem l57:A9 tab 57=some g57:=kk
theorem l58:A9 tab 58=some g58:=kk
theorem l59:A9 tab 59=some g59:=kk
theorem l60:A9 tab 60=some g60:=kk
theorem l61:A9 tab 61=some g61:=kk
theorem l62:A9 tab 62=some g62:=kk
theorem l63:A9 tab 63=some g63:=kk
theorem l64:A9 tab 64=some g64:=kk
theorem l65:A9 tab 65=some g65:=kk
theorem l66:A9 tab 66=some g66:=kk
theorem l67:A9 tab 67=some g67:=kk
theorem l68:A9 tab 68=some g68:=kk
theorem l69:A9 tab 69=some g69:=kk
theorem l70:A9 tab 70=some g70:=kk
theorem l72:A9 tab 72=some g72:=kk
theorem l73:A9 tab 73=some g73:=kk
theorem l74:A9 tab 74=some g74:=kk
theorem l75:A9 tab 75=some g75:=kk
theorem l76:A9 tab 76=some g76:=kk
theorem l77:A9 tab 77=some Lm:=kk
theorem l78:A9 tab 78=some O3:=kk
theorem l79:A9 tab 79=some g79:=kk
theorem l80:A9 tab 80=some g80:=kk
theorem l81:A9 tab 81=some g81:=kk
theorem l82:A9 tab 82=some S6:=kk
theorem l83:A9 tab 83=some g83:=kk
theorem l84:A9 tab 84=some Vc:=kk
theorem l85:A9 tab 85=some Vb:=kk
theorem l86:A9 tab 86=some g86:=kk
theorem l87:A9 tab 87=some g87:=kk
theorem l88:A9 tab 88=some Xw:=kk
theorem l89:A9 tab 89=some g89:=kk
theorem l90:A9 tab 90=some g90:=kk
theorem l91:A9 tab 91=some g91:=kk
theorem l92:A9 tab 92=some g92:=kk
theorem l93:A9 tab 93=some g93:=kk
theorem l94:A9 tab 94=some g94:=kk
theorem l95:A9 tab 95=some g95:=kk
theorem l96:A9 tab 96=some g96:=kk
theorem l97:A9 tab 97=some g97:=kk
theorem df5:A9 tab 105=some ak4:=kk
theorem df4:A9 tab 106=some ak3:=kk
theorem df3:A9 tab 107=some a5e:=kk
theorem df2:A9 tab 108=some ak2:=kk
theorem bx2:A9 tab 109=some a5d:=kk
theorem df0:A9 tab 110=some a19:=kk
theorem de9:A9 tab 111=some ak0:=kk
theorem de8:A9 tab 112=some a5c:=kk
theorem de7:A9 tab 113=some a18:=kk
theorem de6:A9 tab 115=some aj9:=kk
theorem de5:A9 tab 116=some aj8:=kk
theorem de4:A9 tab 117=some aj7:=kk
theorem de3:A9 tab 118=some Y0:=kk
theorem de2:A9 tab 119=some aj6:=kk
theorem de0:A9 tab 120=some aj5:=kk
theorem dd9:A9 tab 121=some aj4:=kk
theorem dd8:A9 tab 122=some a5a:=kk
theorem dd7:A9 tab 123=some aj3:=kk
theorem dd6:A9 tab 124=some Xz:=kk
theorem dd5:A9 tab 125=some aj2:=kk
theorem dd4:A9 tab 126=some aj1:=kk
theorem dd3:A9 tab 127=some aj0:=kk
theorem dd2:A9 tab 128=some a17:=kk
theorem bx1:A9 tab 129=some a59:=kk
theorem dd0:A9 tab 130=some Js:=kk
theorem dc9:A9 tab 131=some ai8:=kk
theorem dc8:A9 tab 133=some Xy:=kk
theorem dc7:A9 tab 134=some Xx:=kk
theorem dc6:A9 tab 135=some ai7:=kk
theorem dc5:A9 tab 136=some ai6:=kk
theorem dc4:A9 tab 137=some ai5:=kk
theorem dc3:A9 tab 138=some ai4:=kk
theorem dc2:A9 tab 139=some ai3:=kk
theorem dc0:A9 tab 140=some ai1:=kk
theorem bx0:A9 tab 141=some a16:=kk
theorem bw9:A9 tab 147=some a15:=kk
theorem db9:A9 tab 148=some ai0:=kk
theorem db8:A9 tab 149=some a58:=kk
theorem db6:A9 tab 150=some ah8:=kk
theorem db5:A9 tab 151=some ah7:=kk
theorem db4:A9 tab 152=some ah6:=kk
theorem db3:A9 tab 153=some ah5:=kk
theorem db2:A9 tab 155=some a57:=kk
theorem db1:A9 tab 156=some ah4:=kk
theorem db0:A9 tab 157=some ah3:=kk
theorem da9:A9 tab 158=some ah2:=kk
theorem da8:A9 tab 159=some ah1:=kk
theorem da6:A9 tab 160=some ag9:=kk
theorem da5:A9 tab 161=some ag8:=kk
theorem da4:A9 tab 162=some ag7:=kk
theorem da3:A9 tab 163=some Tb:=kk
theorem da2:A9 tab 164=some ag6:=kk
theorem da1:A9 tab 165=some ag5:=kk
theorem da0:A9 tab 166=some ag4:=kk
theorem d9z:A9 tab 167=some ag3:=kk
theorem d9y:A9 tab 168=some ag2:=kk
theorem d9w:A9 tab 170=some ag1:=kk
theorem d9v:A9 tab 172=some af9:=kk
theorem d9u:A9 tab 173=some af8:=kk
theorem d9t:A9 tab 174=some af7:=kk
theorem d9s:A9 tab 177=some Ta:=kk
theorem d9r:A9 tab 178=some af6:=kk
theorem d9q:A9 tab 179=some af5:=kk
theorem d9o:A9 tab 180=some af4:=kk
theorem d9n:A9 tab 181=some af3:=kk
theorem d9m:A9 tab 182=some a55:=kk
theorem d9l:A9 tab 183=some af2:=kk
theorem d9k:A9 tab 184=some a54:=kk
theorem d9j:A9 tab 185=some a13:=kk
theorem d9i:A9 tab 186=some Oy:=kk
theorem d9h:A9 tab 187=some a52:=kk
theorem d9f:A9 tab 190=some af1:=kk
theorem d9e:A9 tab 191=some af0:=kk
theorem d9d:A9 tab 192=some a4z:=kk
theorem d9c:A9 tab 193=some ae9:=kk
theorem d9b:A9 tab 196=some ae8:=kk
theorem d9a:A9 tab 197=some a12:=kk
theorem d99:A9 tab 198=some ae7:=kk
theorem d97:A9 tab 211=some ae6:=kk
theorem d96:A9 tab 212=some ae5:=kk
theorem d94:A9 tab 221=some ae4:=kk
abbrev Bytes:=List UInt8
structure Sum where
 a:UInt32
 b:UInt32
 c:UInt32
 d:UInt32
 deriving DecidableEq,Inhabited
structure Ptr where
 addr:Int
 birth:Int
 sum:Sum
 deriving DecidableEq,Inhabited
def Bt:Ptr:=⟨0,0,⟨0,0,0,0⟩⟩
def w4:Bytes->Nat
 |[]=>0
 |x::l=>x.toNat+256*w4 l
def av3(s:Sum)(w:UInt32):Sum:=
 let a:=s.a+w;let b:=s.b+a;let c:=s.c+b
 ⟨a,b,c,s.d+c⟩
def Ng:Bytes->List UInt32
 |x0::x1::x2::x3::l=>UInt32.ofNat (w4 [x0,x1,x2,x3])::Ng l
 |[]=>[]
 |l=>[UInt32.ofNat (w4 l)]
def Ck(b:Bytes):Sum:=(Ng b).foldl av3 ⟨0,0,0,0⟩
def E3:Nat->Int->Bytes
 |0,_=>[]
 |k+1,n=>UInt8.ofNat (n/2 ^ (8*k)%256).toNat::E3 k n
def B4(b:Bytes):Int:=b.foldl (λn c=>n*256+c.toNat) 0
theorem Tq(k:Nat)(n:Int):(E3 k n).length=k:=by
 induction k with
 |zero=>rfl
 |succ k ih=>simp[E3,ih]
theorem cy3(b:Bytes):∀ n:Int,b.foldl (λn c=>n*256+(c.toNat:Int)) n=n*2 ^ (8*b.length)+B4 b:=by
 unfold B4
 induction b with
 |nil=>intro n;simp
 |cons x b ih=>
   intro n;rw[e6j,e6j,ih,ih (0*256+(x.toNat:Int)),e5w];have e:(2:Int) ^ (8*(b.length+1))=256*2 ^ (8*b.length):=(by rw[Nat.mul_add,Int.pow_add];omega);rw[e,Int.add_mul,Int.mul_assoc,Int.zero_mul,Int.zero_add,Int.add_assoc]
theorem at1(x:UInt8)(b:Bytes):B4 (x::b)=x.toNat*2 ^ (8*b.length)+B4 b:=by
 rw[B4,e6j,cy3,Int.zero_mul,Int.zero_add]
theorem Rb:∀ b:Bytes,0<=B4 b
 |[]=>e80 0
 |x::b=>by
   rw[at1];exact Int.add_nonneg (Int.mul_nonneg (Int.natCast_nonneg _) (Int.pow_nonneg om)) (Rb b)
theorem Zk:∀ b:Bytes,B4 b<2 ^ (8*b.length)
 |[]=>by decide
 |x::b=>by
   rw[at1,e5w];have h:=Zk b;have hx:(x.toNat:Int)<=255:=(by have:=x.toNat_lt;omega);have e:(2:Int) ^ (8*(b.length+1))=256*2 ^ (8*b.length):=(by rw[Nat.mul_add,Int.pow_add];omega);have hp:(0:Int)<2 ^ (8*b.length):=Int.pow_pos om;rw[e]
   have:=Int.mul_le_mul_of_nonneg_right hx (Int.le_of_lt hp);omega
def Zt(c:UInt8):Option Nat:=if 49<=c.toNat/\c.toNat<=52 then some (c.toNat-48)else none
def Ep:Bytes->Option (List Nat)
 |[]=>some []
 |c::l=>match Zt c,Ep l with
   |some k,some ks=>some (k::ks)
   |_,_=>none
def B5:List Nat->List Int->Bytes
 |k::ks,n::ns=>E3 k n++B5 ks ns
 |_,_=>[]
def B0:List Nat->Bytes->List Int
 |[],_=>[]
 |k::ks,s=>B4 (s.take k)::B0 ks (s.drop k)
def Q9(form:Bytes)(l:List Int):Bytes:=match Ep form with
 |some ks=>if ks.length=l.length then B5 ks l else []
 |none=>[]
def Fo(form s:Bytes):Option (List Int×Bytes):=match Ep form with
 |some ks=>if ks.sum<=s.length then some (B0 ks s,s.drop ks.sum)else none
 |none=>none
theorem Fc:∀ (ks:List Nat) (l:List Int),ks.length=l.length->(B5 ks l).length=ks.sum
 |[],[],_=>rfl
 |k::ks,n::ns,h=>by
   rw[B5,e58,Tq,Fc ks ns (by simpa using h),e7b]
 |[],_::_,h=>by cases h
 |_::_,[],h=>by cases h
def Ct(p:Ptr):Bool:=if p.addr=0 then decide (p=Bt)else decide (0<p.addr)&&decide (p.addr<=65535)&&decide (0<=p.birth)&&decide (p.birth<=1073741824)
def a3v(p:Ptr):List Int:=[p.addr,p.birth,p.sum.a.toNat,p.sum.b.toNat,p.sum.c.toNat,p.sum.d.toNat]
def Dl:List Nat:=[2,4,4,4,4,4]
def Eu(p:Ptr):Bytes:=B5 Dl (a3v p)
def Et(l:List Ptr):Bytes:=if l.all Ct=true then(l.map Eu).flatten else []
def Er:List Int->Ptr
 |[a,b,c,d,e,f]=>⟨a,b,⟨UInt32.ofNat c.toNat,UInt32.ofNat d.toNat,UInt32.ofNat e.toNat,UInt32.ofNat f.toNat⟩⟩
 |_=>Bt
def Ui(s:Bytes):Option (Ptr×Bytes):=if 22<=s.length/\Ct (Er (B0 Dl s))=true then some (Er (B0 Dl s),s.drop 22)else none
def Fm:Nat->Bytes->Option (List Ptr×Bytes)
 |0,s=>some ([],s)
 |n+1,s=>match Ui s with
   |some (p,r)=>match Fm n r with
     |some (l,t)=>some (p::l,t)
     |none=>none
   |none=>none
theorem Xb(p:Ptr):(Eu p).length=22:=Fc _ _ rfl
theorem bt3{p:Ptr}:Ct p=true↔p=Bt\/0<p.addr/\p.addr<=65535/\0<=p.birth/\p.birth<=1073741824:=by
 unfold Ct;split
 ·rename_i h;rw[e5h];constructor
  ·exact .inl
  ·rintro(h'|h')
   ·exact h'
   ·omega
 ·rename_i h;simp only[e5v,e5h];constructor
  ·rintro⟨⟨⟨h1,h2⟩,h3⟩,h4⟩;exact .inr ⟨h1,h2,h3,h4⟩
  ·rintro(rfl|⟨h1,h2,h3,h4⟩)
   ·exact absurd rfl h
   ·exact⟨⟨⟨h1,h2⟩,h3⟩,h4⟩
structure Block where
 kind:Int
 birth:Int
 load:Bytes
 deriving DecidableEq,Inhabited
def zs(n:Nat):Bytes:=List.replicate n 0
def Jp(x:Block):Bool:=decide (1<=x.kind)&&decide (x.kind<=6)&&decide (1<=x.birth)&&decide (x.birth<=1073741824)&&decide (x.load.length<=249)
def Ew(x:Block):Bytes:=if Jp x=true then B5 [1,4,2] [x.kind,x.birth,x.load.length]++x.load++zs (249-x.load.length)else []
def Tp(s:Bytes):Block:=⟨B4 (s.take 1),B4 ((s.drop 1).take 4),((s.drop 7).take (B4 ((s.drop 5).take 2)).toNat)⟩
def Pz(s:Bytes):Option Block:=if 7<=s.length/\B4 ((s.drop 5).take 2)<=s.length-7/\Jp (Tp s)=true/\Ew (Tp s)=s then some (Tp s)else none
theorem d37{x:Block}(h:Jp x=true):(Ew x).length=256:=by
 rw[Ew,if_pos h,e58,e58,Fc _ _ rfl,zs,e4n];simp only[Jp,e5v,e5h]at h;simp only[e7b,List.sum_nil];omega
section
structure Rn where
 a:Int
 b:Int
 deriving DecidableEq,Inhabited
def hasR(l:List Rn)(x:Int):Bool:=l.any λr=>decide (r.a<=x)&&decide (x<r.b)
theorem Xu{l:List Rn}{x:Int}:hasR l x=true↔∃ r∈l,r.a<=x/\x<r.b:=by
 simp only[hasR,List.any_eq_true,e5v,e5h]
theorem a0w(x:Int):hasR [] x=false:=rfl
theorem O1(r:Rn)(l:List Rn)(x:Int):hasR (r::l) x=((decide (r.a<=x)&&decide (x<r.b))||hasR l x):=rfl
def SepR:List Rn->Prop
 |[]=>True
 |r::l=>r.a<r.b/\(∀ q∈l,r.b<q.a)/\SepR l
theorem SepR.pos:∀ {l:List Rn},SepR l->∀ q∈l,q.a<q.b
 |r::l,h,q,hq=>by
   rcases e79.1 hq with rfl|hq
   ·exact h.1
   ·exact SepR.pos h.2.2 q hq
theorem bb2{r:Rn}{l:List Rn}(h:SepR (r::l)){x:Int}(hx:hasR (r::l) x=true):r.a<=x:=by
 obtain⟨q,hq,h1,h2⟩:=Xu.1 hx;rcases e79.1 hq with rfl|hq
 ·exact h1
 ·have:=h.2.1 q hq
  have:=h.1;omega
theorem a8f{r:Rn}{l:List Rn}(h:SepR (r::l)){x:Int}(hx:x<=r.b):hasR l x=false:=by
 rw[e5q];intro hh;obtain⟨q,hq,h1,h2⟩:=Xu.1 hh
 have:=h.2.1 q hq;omega
theorem ax8:∀ {l m:List Rn},SepR l->SepR m->(∀ x,hasR l x=hasR m x)->l=m
 |[],[],_,_,_=>rfl
 |r::l,[],h,_,he=>by
   have:=he r.a;rw[a0w,O1,e73 (e80 r.a),e73 h.1]at this;cases this
 |[],q::m,_,h,he=>by
   have:=he q.a;rw[a0w,O1,e73 (e80 q.a),e73 h.1]at this;cases this
 |r::l,q::m,h,g,he=>by
   have hr:hasR (r::l) r.a=true:=(by rw[O1,e73 (e80 r.a),e73 h.1];rfl);have hq:hasR (q::m) q.a=true:=(by rw[O1,e73 (e80 q.a),e73 g.1];rfl);have e1:r.a=q.a:=by
    have h1:=bb2 g (he r.a▸hr);have h2:=bb2 h ((he q.a).symm▸hq);omega
   have h1:=h.1;have g1:=g.1;have e2:r.b=q.b:=by
    rcases Int.lt_trichotomy r.b q.b with hl|hl|hl
    ·have hx:=he r.b;rw[O1,O1,a8f h (e80 _),e73 (by omega:q.a<=r.b),e73 hl,e6q (e7f r.b)]at hx;simp at hx
    ·exact hl
    ·have hx:=he q.b;rw[O1,O1,a8f g (e80 _),e73 (by omega:r.a<=q.b),e73 hl,e6q (e7f q.b)]at hx;simp at hx
   have e:r=q:=(by cases r;cases q;simp_all);subst e;rw[ax8 h.2.2 g.2.2 λx=>?_];by_cases hx:x<=r.b
   ·rw[a8f h hx,a8f g hx]
   ·have:=he x;rw[O1,O1,e6q (by omega:¬ x<r.b),e70,e7d,e7d]at this;exact this
def A6(n:Int):List Int->List Int
 |[]=>[n]
 |x::l=>if x=n then x::l else if n<x then n::x::l else x::A6 n l
theorem a9c{n y:Int}:∀ {l:List Int},y∈A6 n l↔y=n\/y∈l
 |[]=>by simp[A6]
 |x::l=>by
   unfold A6;split
   ·rename_i h;subst h;simp
   ·split
    ·simp
    ·rw[e79,a9c,e79];constructor
     ·rintro(h|h|h)<;>simp[h]
     ·rintro(h|h|h)<;>simp[h]
theorem b0s{n:Int}:∀ {l:List Int},l.Pairwise (· < ·)->(A6 n l).Pairwise (· < ·)
 |[],_=>by simp[A6]
 |x::l,h=>by
   have h1:=e5d.1 h;unfold A6;split
   ·exact h
   ·rename_i hne;split
    ·rename_i hlt;refine e5d.2 ⟨λy hy=>?_,h⟩;rcases e79.1 hy with rfl|hy
     ·exact hlt
     ·exact Int.lt_trans hlt (h1.1 y hy)
    ·refine e5d.2 ⟨λy hy=>?_,b0s h1.2⟩;rcases a9c.1 hy with rfl|hy
     ·omega
     ·exact h1.1 y hy
theorem b9k:∀ {l m:List Int},l.Pairwise (· < ·)->m.Pairwise (· < ·)->(∀ x,x∈l↔x∈m)->l=m
 |[],[],_,_,_=>rfl
 |x::l,[],_,_,h=>by have:=(h x).1 (by simp);cases this
 |[],x::l,_,_,h=>by have:=(h x).2 (by simp);cases this
 |x::l,y::m,hl,hm,h=>by
   have hl:=e5d.1 hl;have hm:=e5d.1 hm;have e:x=y:=by
    have h1:=(h x).1 (by simp);have h2:=(h y).2 (by simp);rcases e79.1 h1 with h1|h1
    ·exact h1
    ·rcases e79.1 h2 with h2|h2
     ·exact h2.symm
     ·have:=hl.1 y h2;have:=hm.1 x h1;omega
   subst e;rw[b9k hl.2 hm.2 λz=>?_];constructor
   ·intro hz;rcases e79.1 ((h z).1 (e4u _ hz))with rfl|h'
    ·have:=hl.1 _ hz;omega
    ·exact h'
   ·intro hz;rcases e79.1 ((h z).2 (e4u _ hz))with rfl|h'
    ·have:=hm.1 _ hz;omega
    ·exact h'
def a9o(e:List Int)(r:Rn):List Int:=A6 r.b (A6 r.a e)
def Ij(l m:List Rn):List Int:=(l++m).foldl a9o []
theorem c4w:∀ (l:List Rn) (e:List Int),e.Pairwise (· < ·)->(l.foldl a9o e).Pairwise (· < ·)
 |[],_,h=>h
 |r::l,e,h=>c4w l _ (b0s (b0s h))
theorem bt1:∀ (l:List Rn) (e:List Int) (x:Int),x∈l.foldl a9o e↔x∈e\/∃ r∈l,x=r.a\/x=r.b
 |[],e,x=>by simp
 |r::l,e,x=>by
   rw[e6j,bt1 l,a9o,a9c,a9c];constructor
   ·rintro((h|h|h)|⟨q,hq,h⟩)
    ·exact .inr ⟨r,by simp,.inr h⟩
    ·exact .inr ⟨r,by simp,.inl h⟩
    ·exact .inl h
    ·exact .inr ⟨q,by simp[hq],h⟩
   ·rintro(h|⟨q,hq,h⟩)
    ·exact .inl (.inr (.inr h))
    ·rcases e79.1 hq with rfl|hq
     ·rcases h with h|h
      ·exact .inl (.inr (.inl h))
      ·exact .inl (.inl h)
     ·exact .inr ⟨q,hq,h⟩
theorem b27(l m:List Rn):(Ij l m).Pairwise (· < ·):=c4w _ _ List.Pairwise.nil
theorem a43{l m:List Rn}{x:Int}:x∈Ij l m↔∃ r∈l++m,x=r.a\/x=r.b:=by rw[Ij,bt1];simp
def Cl:List Rn->Rn->List Rn
 |[],r=>[r]
 |[q],r=>if q.b=r.a then [⟨q.a,r.b⟩]else [q,r]
 |q::x::l,r=>q::Cl (x::l) r
theorem b0x:∀ (l:List Rn) (r:Rn) (x:Int),(∀ q∈l,q.a<q.b)->r.a<r.b->hasR (Cl l r) x=(hasR l x||(decide (r.a<=x)&&decide (x<r.b)))
 |[],r,x,_,_=>by simp[Cl,hasR]
 |[q],r,x,hp,hr=>by
   unfold Cl
   have:=hp q (by simp);split
   ·rename_i h;rw[e6p];simp only[hasR,List.any_cons,List.any_nil,Bool.or_false,e6n,e5v,e5h];omega
   ·simp[hasR]
 |q::y::l,r,x,hp,hr=>by
   rw[Cl,O1,b0x (y::l) r x (λq hq=>hp q (e4u _ hq)) hr,O1 q (y::l),Bool.or_assoc]
theorem b32:∀ {l:List Rn} {r:Rn},SepR l->(∀ q∈l,q.b<=r.a)->r.a<r.b->SepR (Cl l r)/\(∀ q∈Cl l r,q.b<=r.b)/\∀ y,(∀ q∈l,y<q.a)->y<r.a->∀ q∈Cl l r,y<q.a
 |[],r,_,_,hr=>by simp[Cl,SepR,hr]
 |[q],r,h,hb,hr=>by
   have h1:=hb q (by simp);have h2:=h.1;unfold Cl;split
   ·simp only[SepR,e59,e61,e7g,implies_true,e82,forall_eq];refine⟨by omega,e80 _,λy hy hy2=>hy⟩
   ·simp only[SepR,e79,e61,or_false,forall_eq_or_imp,forall_eq,e7g,implies_true,e82];refine⟨⟨h2,by omega,hr⟩,⟨by omega,e80 _⟩,λy hy hy2=>⟨hy,hy2⟩⟩
 |q::x::l,r,h,hb,hr=>by
   obtain⟨g1,g2,g3⟩:=b32 (l:=x::l) (r:=r) h.2.2 (λq hq=>hb q (e4u _ hq)) hr;have hx:=h.2.1 x (by simp);have hxb:=hb x (by simp);have hxp:=h.2.2.1;rw[Cl];refine⟨⟨h.1,λp hp=>g3 q.b h.2.1 om p hp,g1⟩,λp hp=>?_,λy hy hy2 p hp=>?_⟩
   ·rcases e79.1 hp with rfl|hp
    ·have:=hb p (by simp);omega
    ·exact g2 p hp
   ·rcases e79.1 hp with rfl|hp
    ·exact hy p (by simp)
    ·exact g3 y (λq hq=>hy q (e4u _ hq)) hy2 p hp
section
variable (so:Bool->Bool->Bool) (l m:List Rn)
def K4:List Int->List Rn->List Rn
 |a::b::e,out=>K4 (b::e) (if so (hasR l a) (hasR m a)=true then Cl out ⟨a,b⟩else out)
 |_,out=>out
def Ra:List Rn:=K4 so l m (Ij l m) []
end
theorem c3p{l:List Rn}{a x:Int}(hax:a<=x)(h:∀ r∈l,¬ (a<r.a/\r.a<=x)/\¬ (a<r.b/\r.b<=x)):hasR l x=hasR l a:=by
 rw[e6p,Xu,Xu];constructor
 ·rintro⟨r,hr,h1,h2⟩;have:=h r hr;exact⟨r,hr,by omega,by omega⟩
 ·rintro⟨r,hr,h1,h2⟩;have:=h r hr;exact⟨r,hr,by omega,by omega⟩
theorem a7j{so:Bool->Bool->Bool}{l m:List Rn}:∀ (e:List Int) (out:List Rn),e.Pairwise (· < ·)->SepR out->(∀ q∈out,∀ a∈e,q.b<=a)->
 (∀ r∈l++m,∀ y,y=r.a\/y=r.b->y∈e\/∀ a∈e,y<a)->
 SepR (K4 so l m e out)/\∀ x,hasR (K4 so l m e out) x=(hasR out x||(decide (∃ a∈e,a<=x)&&decide (∃ a∈e,x<a)&&so (hasR l x) (hasR m x)))
 |[],out,_,hs,_,_=>by simp[K4,hs]
 |[a],out,_,hs,_,_=>by
   refine⟨by simpa [K4]using hs,λx=>?_⟩;by_cases h:a<=x
   ·have:¬ x<a:=om;simp[K4,this]
   ·simp[K4,h]
 |a::b::e,out,hp,hs,hb,he=>by
   have hp1:=e5d.1 hp;have hab:a<b:=hp1.1 b (by simp);have hbe:=e5d.1 hp1.2;have hc:∀ x,a<=x->x<b->hasR l x=hasR l a/\hasR m x=hasR m a:=by
    intro x h1 h2;have key:∀ r∈l++m,¬ (a<r.a/\r.a<=x)/\¬ (a<r.b/\r.b<=x):=by
     intro r hr;have one:∀ y,y=r.a\/y=r.b->¬ (a<y/\y<=x):=by
      rintro y hy ⟨h3,h4⟩;rcases he r hr y hy with h5|h5
      ·rcases e79.1 h5 with rfl|h5
       ·omega
       ·rcases e79.1 h5 with rfl|h5
        ·omega
        ·have:=hbe.1 y h5;omega
      ·have:=h5 a (by simp);omega
     exact⟨one _ (.inl rfl),one _ (.inr rfl)⟩
    exact⟨c3p h1 λr hr=>key r (e4t _ hr),c3p h1 λr hr=>key r (e4o _ hr)⟩
   have he':∀ r∈l++m,∀ y,y=r.a\/y=r.b->y∈b::e\/∀ c∈b::e,y<c:=by
    intro r hr y hy;rcases he r hr y hy with h|h
    ·rcases e79.1 h with rfl|h
     ·exact .inr hp1.1
     ·exact .inl h
    ·exact .inr λc hc=>h c (e4u _ hc)
   rw[K4];by_cases hso:so (hasR l a) (hasR m a)=true
   ·rw[if_pos hso];obtain⟨g1,g2,_⟩:=b32 (l:=out) (r:=⟨a,b⟩) hs (λq hq=>hb q hq a (by simp)) hab;obtain⟨k1,k2⟩:=a7j (b::e) (Cl out ⟨a,b⟩) hp1.2 g1 (λq hq c hc=>by
     have:=g2 q hq;rcases e79.1 hc with rfl|hc
     ·exact this
     ·have:=hbe.1 c hc;simp only at *;omega) he'
    refine⟨k1,λx=>?_⟩;rw[k2,b0x _ _ _ hs.pos hab];rw[e6p];simp only[e6n,e5v,e5h,e79,exists_eq_or_imp];constructor
    ·rintro((h|⟨h1,h2⟩)|⟨⟨h1,h2⟩,h3⟩)
     ·exact .inl h
     ·obtain⟨c1,c2⟩:=hc x h1 h2;rw[c1,c2];exact .inr ⟨⟨.inl h1,.inr (.inl h2)⟩,hso⟩
     ·exact .inr ⟨⟨.inr h1,.inr h2⟩,h3⟩
    ·rintro(h|⟨⟨h1,h2⟩,h3⟩)
     ·exact .inl (.inl h)
     ·by_cases hx:x<b
      ·have hax:a<=x:=by
        rcases h1 with h1|h1|⟨c,hc,h1⟩
        ·exact h1
        ·omega
        ·have:=hbe.1 c hc;omega
       exact .inl (.inr ⟨hax,hx⟩)
      ·refine .inr ⟨⟨.inl om,?_⟩,h3⟩;rcases h2 with h2|h2
       ·omega
       ·exact h2
   ·rw[if_neg hso];obtain⟨k1,k2⟩:=a7j (b::e) out hp1.2 hs (λq hq c hc=>hb q hq c (e4u _ hc)) he';refine⟨k1,λx=>?_⟩;rw[k2,e6p];simp only[e6n,e5v,e5h,e79,exists_eq_or_imp];constructor
    ·rintro(h|⟨⟨h1,h2⟩,h3⟩)
     ·exact .inl h
     ·exact .inr ⟨⟨.inr h1,.inr h2⟩,h3⟩
    ·rintro(h|⟨⟨h1,h2⟩,h3⟩)
     ·exact .inl h
     ·by_cases hx:x<b
      ·have hax:a<=x:=by
        rcases h1 with h1|h1|⟨c,hc,h1⟩
        ·exact h1
        ·omega
        ·have:=hbe.1 c hc;omega
       obtain⟨c1,c2⟩:=hc x hax hx;rw[c1,c2]at h3;exact absurd h3 hso
      ·refine .inr ⟨⟨.inl om,?_⟩,h3⟩;rcases h2 with h2|h2
       ·omega
       ·exact h2
theorem a7i(so:Bool->Bool->Bool)(l m:List Rn):SepR (Ra so l m):=(a7j _ [] (b27 l m) (by exact trivial) (λ_ h=>by cases h) λ_ hr _ hy=>.inl (a43.2 ⟨_,hr,hy⟩)).1
theorem a9u{so:Bool->Bool->Bool}(hso:so false false=false)(l m:List Rn)(x:Int):hasR (Ra so l m) x=so (hasR l x) (hasR m x):=by
 rw[Ra,(a7j _ [] (b27 l m) (by exact trivial) (λ_ h=>by cases h) λ_ hr _ hy=>.inl (a43.2 ⟨_,hr,hy⟩)).2 x,a0w,e7d];by_cases h:(∃ a∈Ij l m,a<=x)/\∃ a∈Ij l m,x<a
 ·rw[e73 h.1,e73 h.2];rfl
 ·have hn:∀ k,(∀ r∈k,r∈l++m)->hasR k x=false:=by
   intro k hk;rw[e5q];intro hh;obtain⟨r,hr,h1,h2⟩:=Xu.1 hh;exact h ⟨⟨r.a,a43.2 ⟨r,hk r hr,.inl rfl⟩,h1⟩,⟨r.b,a43.2 ⟨r,hk r hr,.inr rfl⟩,h2⟩⟩
  rw[hn l λr hr=>e4t _ hr,hn m λr hr=>e4o _ hr,hso,e70]
def Pb:=Ra (λa b=>a||b)
def C6:=Ra (λa b=>a&&!b)
def Tl:=Ra (λa b=>a&&b)
theorem di1(l m:List Rn)(x:Int):hasR (Pb l m) x=(hasR l x||hasR m x):=a9u rfl l m x
theorem c3o(l m:List Rn)(x:Int):hasR (C6 l m) x=(hasR l x&&!hasR m x):=a9u rfl l m x
end
def Ry(last:Int):List Rn->Bool
 |[]=>true
 |r::l=>decide (last<r.a)&&(decide (r.a<r.b)&&(decide (r.b<=1073741824)&&Ry r.b l))
def H4(l:List Rn):Bool:=Ry (-1) l
theorem b0j:∀ {last:Int} {l:List Rn},Ry last l=true->SepR l/\(∀ r∈l,last<r.a/\r.b<=1073741824)
 |_,[],_=>⟨trivial,λ_ h=>by cases h⟩
 |last,r::l,h=>by
   simp only[Ry,e5v,e5h]at h;obtain⟨h1,h2,h3,h4⟩:=h;obtain⟨g1,g2⟩:=b0j h4;refine⟨⟨h2,λq hq=>(g2 q hq).1,g1⟩,λq hq=>?_⟩;rcases e79.1 hq with rfl|hq
   ·exact⟨h1,h3⟩
   ·have:=g2 q hq;exact⟨by omega,this.2⟩
theorem bb0:∀ {last:Int} {l:List Rn},SepR l->(∀ r∈l,last<r.a/\r.b<=1073741824)->Ry last l=true
 |_,[],_,_=>rfl
 |last,r::l,h,hb=>by
   simp only[Ry,e5v,e5h];have h0:=hb r (by simp);exact⟨h0.1,h.1,h0.2,bb0 h.2.2 λq hq=>⟨h.2.1 q hq,(hb q (e4u _ hq)).2⟩⟩
theorem d6g{l:List Rn}:H4 l=true↔SepR l/\∀ r∈l,0<=r.a/\r.b<=1073741824:=by
 constructor
 ·intro h;obtain⟨h1,h2⟩:=b0j h;exact⟨h1,λr hr=>⟨by have:=(h2 r hr).1;omega,(h2 r hr).2⟩⟩
 ·rintro⟨h1,h2⟩;exact bb0 h1 λr hr=>⟨by have:=(h2 r hr).1;omega,(h2 r hr).2⟩
theorem d1u{l:List Rn}(h:SepR l):l=[]↔∀ x,hasR l x=false:=by
 constructor
 ·rintro rfl x;rfl
 ·intro hx;exact ax8 h trivial λx=>by rw[hx x];rfl
def Dj:List Rn->Int
 |[]=>0
 |r::l=>r.b-r.a+Dj l
def Fl:Nat->Int->List Int
 |0,_=>[]
 |n+1,a=>a::Fl n (a+1)
def H9(l:List Rn):List Int:=l.flatMap λr=>Fl (r.b-r.a).toNat r.a
def al0(l:List Rn)(n:Int):Option (List Int):=if n<0\/Dj l<n then none else some ((H9 l).take n.toNat)
theorem a2y:∀ (n:Nat) (a:Int),(Fl n a).length=n
 |0,_=>rfl
 |n+1,a=>by rw[Fl,e5w,a2y]
theorem cb8:∀ {l:List Rn},SepR l->((H9 l).length:Int)=Dj l
 |[],_=>rfl
 |r::l,h=>by
   have e:H9 (r::l)=Fl (r.b-r.a).toNat r.a++H9 l:=by simp[H9]
   have:=h.1;rw[e,e58,a2y,Dj,<-cb8 h.2.2];omega
def Qg(l:List Int):List Rn:=l.foldl (λout n=>if 0<=n/\n<1073741824 then Pb out [⟨n,n+1⟩]else out) []
def Oo:List Int->List Rn->List Rn
 |[],out=>out
 |n::l,out=>Oo l (if 0<=n/\n<1073741824 then Cl out ⟨n,n+1⟩else out)
theorem a98:∀ (l:List Int) (out:List Rn),SepR out->SepR (l.foldl (λout n=>if 0<=n/\n<1073741824 then Pb out [⟨n,n+1⟩]else out) out)/\
 ∀ x,hasR (l.foldl (λout n=>if 0<=n/\n<1073741824 then Pb out [⟨n,n+1⟩]else out) out) x=(hasR out x||decide (x∈l/\0<=x/\x<1073741824))
 |[],out,h=>⟨h,λx=>by simp⟩
 |n::l,out,h=>by
   rw[e6j];by_cases hn:0<=n/\n<1073741824
   ·rw[if_pos hn];obtain⟨h1,h2⟩:=a98 l (Pb out [⟨n,n+1⟩]) (a7i _ _ _);refine⟨h1,λx=>?_⟩;rw[h2,di1,e6p];simp only[e6n,e5h,e79,O1,a0w,Bool.or_false,e5v];constructor
    ·rintro((h|h)|h)
     ·exact .inl h
     ·exact .inr ⟨.inl om,by omega,by omega⟩
     ·exact .inr ⟨.inr h.1,h.2⟩
    ·rintro(h|⟨h|h,h'⟩)
     ·exact .inl (.inl h)
     ·exact .inl (.inr om)
     ·exact .inr ⟨h,h'⟩
   ·rw[if_neg hn];obtain⟨h1,h2⟩:=a98 l out h;refine⟨h1,λx=>?_⟩;rw[h2,e6p];simp only[e6n,e5h,e79];constructor
    ·rintro(h|h)
     ·exact .inl h
     ·exact .inr ⟨.inr h.1,h.2⟩
    ·rintro(h|⟨h|h,h'⟩)
     ·exact .inl h
     ·subst h;exact absurd h' hn
     ·exact .inr ⟨h,h'⟩
theorem d5m(l:List Int):SepR (Qg l):=(a98 l [] trivial).1
theorem dh9(l:List Int)(x:Int):hasR (Qg l) x=decide (x∈l/\0<=x/\x<1073741824):=by rw[Qg,(a98 l [] trivial).2,a0w,e7d]
theorem b0c:∀ (l:List Int) (out:List Rn),l.Pairwise (· < ·)->SepR out->(∀ q∈out,∀ n∈l,q.b<=n)->SepR (Oo l out)/\∀ x,hasR (Oo l out) x=(hasR out x||decide (x∈l/\0<=x/\x<1073741824))
 |[],out,_,h,_=>⟨h,λx=>by simp[Oo]⟩
 |n::l,out,hp,h,hb=>by
   have hp:=e5d.1 hp;rw[Oo];by_cases hn:0<=n/\n<1073741824
   ·rw[if_pos hn];obtain⟨g1,g2,_⟩:=b32 (l:=out) (r:=⟨n,n+1⟩) h (λq hq=>hb q hq n (by simp)) (by simp only;omega);obtain⟨h1,h2⟩:=b0c l (Cl out ⟨n,n+1⟩) hp.2 g1 (λq hq k hk=>by have:=g2 q hq;have:=hp.1 k hk;simp only at *;omega);refine⟨h1,λx=>?_⟩;rw[h2,b0x _ _ _ h.pos (by simp only;omega),e6p];simp only[e6n,e5h,e79,e5v];constructor
    ·rintro((h|h)|h)
     ·exact .inl h
     ·exact .inr ⟨.inl om,by omega,by omega⟩
     ·exact .inr ⟨.inr h.1,h.2⟩
    ·rintro(h|⟨h|h,h'⟩)
     ·exact .inl (.inl h)
     ·exact .inl (.inr om)
     ·exact .inr ⟨h,h'⟩
   ·rw[if_neg hn];obtain⟨h1,h2⟩:=b0c l out hp.2 h (λq hq k hk=>hb q hq k (e4u _ hk));refine⟨h1,λx=>?_⟩;rw[h2,e6p];simp only[e6n,e5h,e79];constructor
    ·rintro(h|h)
     ·exact .inl h
     ·exact .inr ⟨.inr h.1,h.2⟩
    ·rintro(h|⟨h|h,h'⟩)
     ·exact .inl h
     ·subst h;exact absurd h' hn
     ·exact .inr ⟨h,h'⟩
theorem bq9(l e:List Int)(he:e.Pairwise (· < ·))(hm:∀ x,x∈e↔x∈l):Oo e []=Qg l:=by
 obtain⟨h1,h2⟩:=b0c e [] he trivial (λ_ h=>by cases h);refine ax8 h1 (d5m l) λx=>?_;rw[h2,dh9,a0w,e7d,e66.2];rw[hm]
structure SpaceL where
 held:List Rn
 one:List Rn
 two:List Rn
 kept:List Rn
 deriving DecidableEq,Inhabited
def Jo(n:Int):Bool:=decide (40<=n)&&decide (n<=240)
def Dg(n:Int):List Rn:=[⟨14,14+n⟩]
def Eh(n:Int)(l:List Rn):Bool:=H4 l&&decide (C6 l (Dg n)=[])
def Dw(n:Int)(s:SpaceL):Bool:=
 Jo n&&(Eh n s.held&&(Eh n s.one&&(Eh n s.two&&Eh n s.kept)))&&decide (Tl s.held s.one=[])&&decide (Tl (Pb s.held s.one) s.two=[])
def G3(n:Int)(s:SpaceL):List Rn:=if Dw n s=true then C6 (C6 (C6 (C6 (Dg n) s.held) s.one) s.two) s.kept else []
theorem c3n(n x:Int):hasR (Dg n) x=(decide (14<=x)&&decide (x<14+n)):=by simp[Dg,hasR]
theorem di0{n:Int}{s:SpaceL}(h:Dw n s=true)(x:Int):hasR (G3 n s) x=(decide (14<=x)&&decide (x<14+n)&&!hasR s.held x&&!hasR s.one x&&!hasR s.two x&&!hasR s.kept x):=by
 rw[G3,if_pos h];simp only[c3o,c3n]
theorem dz0(n:Int)(s:SpaceL):SepR (G3 n s):=by
 unfold G3;split
 ·exact a7i _ _ _
 ·trivial
theorem d6u{l m:List Rn}:C6 l m=[]↔∀ x,hasR l x=true->hasR m x=true:=by
 unfold C6;rw[d1u (a7i _ _ _)];constructor
 ·intro h x hx
  have:=h x;rw[a9u rfl,hx,e77,e5e]at this;exact this
 ·intro h x;rw[a9u rfl];cases hx:hasR l x with
  |false=>rfl
  |true=>rw[h x hx];rfl
structure Dev where
 last:Sl Bytes
 wait:Sl (Int×Bytes)
 lies:Int
 arm:Int
 down:Bool
 deriving DecidableEq,Inhabited
structure Node where
 kind:Int
 up:Int
 name:Bytes
 body:Bytes
 bad:Int
 deriving DecidableEq,Inhabited
structure Dset where
 id:Int
 kind:Int
 origin:Int
 quota:Int
 files:Sl Node
 deriving DecidableEq,Inhabited
structure Root where
 txg:Int
 next:Int
 guid:Int
 table:Ptr
 space:Ptr
 kept:Ptr
 keptTxg:Int
 deriving DecidableEq,Inhabited
structure Space where
 held:Sl Rn
 one:Sl Rn
 two:Sl Rn
 kept:Sl Rn
 deriving DecidableEq,Inhabited
def node0:Node:=⟨0,0,[],[],0⟩
def Space.n(s:Space):SpaceL:=⟨els s.held,els s.one,els s.two,els s.kept⟩
def Qk(w:List (Int×Bytes))(i:Int)(s:Bytes):Bytes:=w.foldl (λs p=>if p.1=i then p.2 else s) s
def Gp(d:Dev)(i:Int):Option Bytes:=if d.down=false/\0<=i/\i<(els d.last).length then some (Qk (els d.wait) i ((els d.last).getD i.toNat default))else none
def H7(d:Dev):Int:=(els d.last).length-28
def a3s(d:Dev)(p:Ptr)(kind:Int):Option Bytes:=if p.addr<14 then none else match Gp d p.addr with
 |none=>none
 |some s=>match Pz s with
   |none=>none
   |some x=>if p.sum=Ck (Ew x)/\x.birth=p.birth/\x.kind=kind then some x.load else none
def Hy(d:Dev)(p:Ptr)(kind:Int):Option Bytes:=if 14+H7 d<=p.addr then none else a3s d p kind
structure NodeH where
 kind:Int
 up:Int
 name:Bytes
 deriving DecidableEq,Inhabited
def Np(x:NodeH)(size:Int)(l:List Ptr):Bytes:=
 if((x.kind=1\/x.kind=2)/\0<=x.up/\x.up<8/\x.name.length<=8)/\(0<=size/\size<=128/\l.length=4/\l.all Ct=true)
 then B5 [1,1,1] [x.kind,x.up,x.name.length]++x.name++B5 [2] [size]++(l.map Eu).flatten else []
def Sm(s:Bytes):Option (NodeH×Int×List Ptr):=match Fo [49,49,49] s with
 |some ([k,u,n],r)=>if r.length<n then none else match Fo [50] (r.drop n.toNat)with
   |some ([z],t)=>match Fm 4 t with
     |some (l,_)=>if Np ⟨k,u,r.take n.toNat⟩ z l=s then some (⟨k,u,r.take n.toNat⟩,z,l)else none
     |none=>none
   |_=>none
 |_=>none
def Ro(l:List Ptr):Bytes:=if l.length=8 then Et l else []
def Wt(s:Bytes):Option (List Ptr):=match Fm 8 s with
 |some (l,[])=>some l
 |_=>none
structure DsetH where
 id:Int
 kind:Int
 origin:Int
 quota:Int
 deriving DecidableEq,Inhabited
def a0g(last:Int)(x:DsetH)(p:Ptr):Bool:=decide (last<x.id)&&decide (x.id<=65535)&&(decide (x.kind=1)||decide (x.kind=2))&&(decide (0<=x.origin)&&decide (x.origin<=65535))&&(decide (0<=x.quota)&&decide (x.quota<=255))&&Ct p&&!decide (p=Bt)
def a0f:Int->List DsetH->List Ptr->Bool
 |last,x::l,p::q=>a0g last x p&&a0f x.id l q
 |_,_,_=>true
def putRow(x:DsetH)(p:Ptr):Bytes:=B5 [2,1,2,1] [x.id,x.kind,x.origin,x.quota]++Eu p
def Hh:List DsetH->List Ptr->Bytes
 |x::l,p::q=>putRow x p++Hh l q
 |_,_=>[]
def J1(l:List DsetH)(p:List Ptr):Bytes:=if l.length<=8/\l.length=p.length/\a0f 0 l p=true then E3 1 l.length++Hh l p else []
def Rg:Nat->Bytes->Option (List DsetH×List Ptr×Bytes)
 |0,s=>some ([],[],s)
 |n+1,s=>match Fo [50,49,50,49] s with
   |some ([a,b,c,d],r)=>match Ui r with
     |some (p,t)=>match Rg n t with
       |some (l,q,u)=>some (⟨a,b,c,d⟩::l,p::q,u)
       |none=>none
     |none=>none
   |_=>none
def Rf(s:Bytes):Option (List DsetH×List Ptr):=match Fo [49] s with
 |some ([n],r)=>match Rg n.toNat r with
   |some (l,p,_)=>if J1 l p=s then some (l,p)else none
   |none=>none
 |_=>none
def Rx(r:Root):Bool:=decide (1<=r.txg)&&decide (r.txg<=1073741824)&&(decide (0<=r.next)&&decide (r.next<=1073741824))&&(decide (0<=r.guid)&&decide (r.guid<=1073741824))&&(decide (0<=r.keptTxg)&&decide (r.keptTxg<=1073741824))&&(Ct r.table&&Ct r.space&&Ct r.kept)
def Rp(r:Root):Bytes:=if Rx r=true then B5 [4,4,4] [r.txg,r.next,r.guid]++(Eu r.table++(Eu r.space++Eu r.kept))++B5 [4] [r.keptTxg]else []
def a34(s:Bytes):Option Root:=match Fo [52,52,52] s with
 |some ([a,b,c],r)=>match Fm 3 r with
   |some ([p,q,k],t)=>match Fo [52] t with
     |some ([z],_)=>if Rp ⟨a,b,c,p,q,k,z⟩=s then some ⟨a,b,c,p,q,k,z⟩else none
     |_=>none
   |_=>none
 |_=>none
def a67(n:Nat)(so:Nat->Bool):Bytes:=(List.range ((n+7)/8)).map λi=>UInt8.ofNat (((List.range 8).map λk=>if 8*i+k<n/\so (8*i+k)=true then 2 ^ k else 0).sum)
def Ux(data:Int)(l:List Rn):Bytes:=if Jo data=true/\Eh data l=true then a67 data.toNat (λi=>hasR l (14+i))else []
def Qv(s:Bytes)(i:Nat):Bool:=(s.getD (i/8) 0).toNat.testBit (i%8)
def Dh(data:Int)(s:Bytes):Option (List Rn×Bytes):=
 if Jo data=true/\(data.toNat+7)/8<=s.length/\(∀ i,i<8*((data.toNat+7)/8)->Qv s i=true->i<data.toNat)then
  some (Qg (((List.range data.toNat).filter (Qv s)).map λi:Nat=>14+(i:Int)),s.drop ((data.toNat+7)/8))else none
def Rm(data:Int)(s:SpaceL):Bytes:=if Dw data s=true then Ux data s.held++Ux data s.one++Ux data s.two++Ux data s.kept else []
def Ws(data:Int)(s:Bytes):Option SpaceL:=match Dh data s with
 |some (a,r)=>match Dh data r with
   |some (b,r)=>match Dh data r with
     |some (c,r)=>match Dh data r with
       |some (d,_)=>if Rm data ⟨a,b,c,d⟩=s then some ⟨a,b,c,d⟩else none
       |none=>none
     |none=>none
   |none=>none
 |none=>none
end Go.Proofs.YtbngojdlgfhacaaGreatDoor.Abs
