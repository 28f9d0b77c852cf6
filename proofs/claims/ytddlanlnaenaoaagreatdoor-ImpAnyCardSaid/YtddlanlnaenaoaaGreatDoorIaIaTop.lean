/-
  ImpAny: whatever a device has, import tells a pool whose sets may be, or torn ones to be read alone, or an error, and but for going back to what is kept nothing is written, for every row of numbers and every way. No condition. The card ties the three listed variables of Go's library (tables of math/bits and internal/strconv) to the program's text; it is over a pruned copy of the project and speaks of no other package, command or test that could write them.
-/
import Derived.Test.YtddlanlnaenaoaaGreatDoorCards
import Derived.Test.YtddlanlnaenaoaaGreatDoorTie
import Derived.WalkKit
import Derived.ProofKit
import Derived.OpenShut
import Derived.ShutString
import Derived.ChangeOld
import Derived.Below
import Derived.Deep.DeepHandedRow
import Derived.Lib.LaidTab
import Derived.Test.YtddlanlnaenaoaaGreatDoorIa7
import Derived.Test.YtddlanlnaenaoaaGreatDoorIaIaFacts
import Derived.Test.YtddlanlnaenaoaaGreatDoorIaIaFin
namespace Go.Proofs.YtddlanlnaenaoaaGreatDoor.impAny
open Go.ChangeShapes Go.WideShapes Go.ChangeAt Go.RowKit
set_option linter.unusedVariables false
set_option maxRecDepth 100000
theorem own:ownKnob Tryz.prog.godebug=none:=by kernel_rfl
theorem laidOut:laidOutB Tryz.prog=true:=by kernel_rfl
def IsRow(k:IntKind)(w:World)(a:Option Addr)(len cap:Nat)(zs:List Int):Prop:=
 (a=none/\len=0/\cap=0/\zs=[])\/
 ∃ x,a=some x/\len<=cap/\cap<=maxLen/\zs.length=cap/\(∀ i,i<zs.length->w.cell? (x.add i)=some (.int k (zs.getD i 0)))/\∀ n∈zs,(Lit.int k n).wf=true
theorem rep_row{w:World}{a:Option Addr}{len cap:Nat}{zs:List Int}(h:IsRow .u8 w a len cap zs):∃ l:List UInt8,Abs.Rep (Abs.E0 w) (.fz (l.map Abs.pu8)) (.slice a len cap):=by
 rcases h with ⟨rfl,rfl,rfl,rfl⟩|⟨x,rfl,hl,hm,hz,hcell,hwf⟩
 ·exact⟨[],.pure (x:=.fz []) (.fz0 _ _)⟩
 ·by_cases h0:len=0
  ·subst h0;exact⟨[],.pure (x:=.fz []) (.fz0 _ _)⟩
  ·have hc0:=hcell 0 (by omega);obtain⟨b,off,spot⟩:=x;simp only[Addr.add,if_true,World.cell?]at hc0;cases hb:w.heap[b]? with
   |none=>rw[hb]at hc0;cases hc0
   |some o=>
     rw[hb]at hc0;cases o with
     |cells c t q=>
       simp only at hc0;split at hc0
       ·cases hc0
       ·rename_i hsp;have hsp2:spot=none:=by cases spot with
         |none=>rfl
         |some _=>simp at hsp
        subst hsp2;have hci:∀ i,i<zs.length->c[off+i]?=some (.int .u8 (zs.getD i 0)):=by
         intro i hi
         have:=hcell i hi;unfold Addr.add at this;split at this
         ·rename_i e;subst e;simpa [World.cell?,hb]using this
         ·simpa [World.cell?,hb]using this
        refine⟨(zs.take len).map λn=>UInt8.ofNat n.toNat,?_⟩;have hlen:(((zs.take len).map λn=>UInt8.ofNat n.toNat).map Abs.pu8).length=len:=(by simp;omega);have key:=Abs.RepP.fz (F:=(Abs.E0 w).F) (((zs.take len).map λn=>UInt8.ofNat n.toNat).map Abs.pu8) b off cap 1 c t q hb (by rw[hlen];exact hl) (by
         intro e he;obtain⟨y,_,rfl⟩:=List.mem_map.1 he;rfl) (by
         rw[hlen];have h1:=hci (len-1) (by omega);have:off+(len-1)<c.size:=by
          apply Classical.byContradiction;intro h;rw[Array.getElem?_eq_none (by omega)]at h1;cases h1
         omega) (by
         intro i e k cc v he hk hv;rw[List.map_map,List.getElem?_map]at he;have hi:i<(zs.take len).length:=by
          apply Classical.byContradiction;intro h;rw[List.getElem?_eq_none (by omega)]at he;cases he
         rw[List.getElem?_eq_getElem hi]at he;simp only[Option.map_some,Option.some.injEq,Function.comp]at he;subst he;have hk0:k=0:=by
          apply Classical.byContradiction;intro h;rw[List.getElem?_eq_none (by simp[Abs.pu8];omega)]at hk;cases hk
         subst hk0;simp only[Abs.pu8,List.getElem?_cons_zero,Option.some.injEq]at hk;subst hk;rw[List.length_take]at hi;rw[Nat.mul_one,Nat.add_zero,hci i (by omega)]at hv;cases hv;have hg:zs.getD i 0=(zs.take len)[i]'(by rw[List.length_take];exact hi):=by
          rw[List.getElem_take,List.getD_eq_getElem?_getD,List.getElem?_eq_getElem (by omega),Option.getD_some]
         rw[hg];have hw:=hwf ((zs.take len)[i]'(by rw[List.length_take];exact hi)) (List.mem_of_mem_take (List.getElem_mem _));generalize (zs.take len)[i]'(by rw[List.length_take];exact hi)=n at hw;have hn:0<=n/\n<256:=by
          have:=hw;simp[Lit.wf,IntKind.min,IntKind.max,IntKind.bits,IntKind.signed]at this;omega
         have:((UInt8.ofNat n.toNat).toNat:Int)=n:=by
          rw[UInt8.toNat_ofNat'];omega
         rw[this];exact .int _ _)
        rw[hlen]at key;exact .pure (x:=.fz _) key
     |_=>simp at hc0
theorem repL_one{E:Abs.Env}{x:Abs.AV}{v:Value}(h:Abs.Rep E x v):Abs.RepL E [x] #[v]:=by
 refine⟨rfl,λi c u hc hu=>?_⟩
 match i,hc,hu with
 |0,hc,hu=>simp at hc hu;subst hc;subst hu;exact h
 |i+1,hc,_=>simp at hc
theorem repL_two{E:Abs.Env}{x y:Abs.AV}{v u:Value}(h:Abs.Rep E x v)(h':Abs.Rep E y u):Abs.RepL E [x,y] #[v,u]:=by
 refine⟨rfl,λi c u hc hu=>?_⟩
 match i,hc,hu with
 |0,hc,hu=>simp at hc hu;subst hc;subst hu;exact h
 |1,hc,hu=>simp at hc hu;subst hc;subst hu;exact h'
 |i+2,hc,_=>simp at hc
theorem walk(a0:Option Addr)(len0 cap0:Nat)(z0:List Int)(a1:Int)(w:World)(w0:IsRow .u8 w a0 len0 cap0 z0)(w1:(Lit.int .u8 a1).wf=true) :
 Calls Tryz.prog 3 #[.slice a0 len0 cap0,.int .u8 a1] w λe w'=>e=.returned (.bool true)/\Below w.heap.size w w':=by
 obtain⟨l0,h0⟩:=rep_row w0;have h1:Abs.Rep (Abs.E0 w) (.int .u8 a1) (.int .u8 a1):=.pure (x:=.int .u8 a1) (.int .u8 a1);have hn:0<=a1/\a1<256:=by
  have:=w1;simp[Lit.wf,IntKind.min,IntKind.max,IntKind.bits,IntKind.signed]at this;omega
 exact Abs.C_top (Abs.impAny_C (some l0) a1 hn) (repL_two h0 h1)
theorem contract(H:Type)(enc:TypeId×Value->H)(W:World)(base:Nat)(args:Array Value)(ds gs:List (DataW H))(before:List MemPlace)
 (hval0:∀ (j:Nat) t v,Tryz.f3.params[j]?=some t->args[j]?=some v->Value.okWide Tryz.prog W .any base t v)
 (hW:DataW.Whole enc Tryz.prog Tryz.f3.params.toList Rows.impAnySpec.vars false W args.toList ds gs before) :
 Calls Tryz.prog 3 args W λe W'=>∃ v,e=.returned v/\Rows.impAnySpec.post enc Tryz.prog Tryz.f3 false true false false W args v W':=by
 have hval:∀ (j:Nat) t v,Tryz.f3.params[j]?=some t->args[j]?=some v->Value.okWide Tryz.prog W .any base t v:=hval0;have hW':=hW;obtain⟨p,q,hA0,hV,rfl,hfz,hnd⟩:=hW;have hA:DataW.TrodAll enc Tryz.prog W 0 (λ_=>true) true Tryz.f3.params.toList args.toList ds p:=hA0;rw[Tryz.params3]at hA hval;obtain⟨v0,vs0,d0,ds0,p0,q0,hargs,rfl,rfl,h0,r0⟩:=trodAll_cons hA;obtain⟨v1,vs1,d1,ds1,p1,q1,rfl,rfl,rfl,h1,r1⟩:=trodAll_cons r0;obtain⟨rfl,rfl,rfl⟩:=trodAll_nil r1;obtain rfl:args= #[v0,v1]:=by cases args;simp_all
 obtain⟨rfl,rfl⟩:=trodVars_none hV;obtain⟨a0,len0,cap0,rfl⟩:=okWide_slice Tryz.underlying22 (hval 0 22 v0 rfl rfl);have k0:=h0;have lt0:∀ x∈p0,x.block<W.heap.size:=by obtain⟨m,hm⟩:=k0;exact DataW.trod_lt m _ _ _ hm
 obtain⟨z0,w0⟩:∃ zs,IsRow .u8 W a0 len0 cap0 zs:=by
  obtain⟨fuel,hf⟩:=h0;rcases open_ints Tryz.underlying22 Tryz.underlying5 (by kernel_rfl) hf with ⟨hcs,_⟩|⟨x,l,c,zs,hcs,_,hl,hm,hz,_,hcell,hwz⟩
  ·simp[Value.cells]at hcs;obtain⟨rfl,rfl,rfl⟩:=hcs;exact⟨[],.inl ⟨rfl,rfl,rfl,rfl⟩⟩
  ·simp[Value.cells]at hcs;obtain⟨rfl,rfl,rfl⟩:=hcs;exact⟨zs,.inr ⟨_,rfl,hl,hm,by simpa using hz,hcell,hwz⟩⟩
 obtain⟨a1,rfl,rfl,rfl,w1⟩:=open_int Tryz.underlying5 (hval 1 5 v1 rfl rfl) h1;clear hA0 hval0;refine(walk a0 len0 cap0 z0 a1 W w0 w1).mono λe W' ⟨he,bel⟩=>?_;subst he;exact⟨_,rfl,_,_,_,[],_,[],hW',trodAll_mk1 (shut_bool Tryz.underlying4 _),(trodAll_cons_mk (Below.trod laidOut (by kernel_rfl) (of_decide_eq_true (by kernel_rfl)) k0 bel lt0) (trodAll_cons_mk (shut_int Tryz.underlying5 w1) trodAll_mk0)),rfl,bel.frame _,λh=>by cases h⟩
def setCells(h:Array Obj)(n:Nat)(c:Array Value):Array Obj:=h.modify n fun
 |.cells _ t q=>.cells c t q
 |o=>o
noncomputable def laidWorld (os:Os):World:=
 { World.holding Tryz.prog os ⟨#[],#[],[]⟩with heap:=setCells (setCells (setCells (World.holding Tryz.prog os ⟨#[],#[],[]⟩).heap 1 (#[1,10,100,1000,10000,100000,1000000,10000000,100000000,1000000000,10000000000,100000000000,1000000000000,10000000000000,100000000000000,1000000000000000,10000000000000000,100000000000000000,1000000000000000000,10000000000000000000].map (Value.int .u64))) 2 (#[0,1,28,2,29,14,24,3,30,22,20,15,25,17,4,8,31,27,13,23,21,19,16,7,26,12,18,6,11,5,10,9].map (Value.int .u8))) 3 (#[0,1,56,2,57,49,28,3,61,58,42,50,38,29,17,4,62,47,59,36,45,43,51,22,53,39,33,30,24,18,12,5,63,55,48,27,60,41,37,16,46,35,44,21,52,32,23,11,54,26,40,15,34,20,31,10,25,14,19,9,13,8,7,6].map (Value.int .u8)) }
theorem laid_met(os:Os):laidMet Tryz.prog Rows.impAnyRow.laid ((laidWorld os).forCall (λ_ _=>0) ⟨#[],#[.slice none 0 0,.int .u8 0],[]⟩).memory:=
 laidMet_of_run' 8 (by kernel_rfl) (by kernel_rfl)
theorem reads(os:Os){H:Type}(enc:TypeId×Value->H):∃ places,DataW.whole enc Tryz.prog ((laidWorld os).forCall (λ_ _=>0) ⟨#[],#[.slice none 0 0,.int .u8 0],[]⟩).memory Tryz.f3.params.toList Rows.impAnySpec.vars false #[Value.slice none 0 0,Value.int .u8 0].toList 8=some ([.nil,.lit (.int .u8 0)],[],places):=
 ⟨[],by kernel_rfl⟩
theorem lifted(os:Os)(started:os.Started)(H:Type)(enc:TypeId×Value->H)(F:Stop.Interp) :
 ReturnsInHanded {} Tryz.checked os 3 .any ((OpenSpec.ofChange Rows.impAnySpec).preRow enc Tryz.prog Tryz.f3 Rows.impAnyRow.domain false Rows.impAnyRow.laid) (((OpenSpec.ofChange Rows.impAnySpec).at F).post enc Tryz.prog Tryz.f3 false true false false):=by
 obtain⟨places,hx⟩:=reads os enc;refine returnsInHanded_of_row (C:=Tryz.checked) (s:=OpenSpec.ofChange Rows.impAnySpec) own started (by kernel_rfl) Tryz.func3
  (witness_row_at (enc:=enc) (C:=Tryz.checked) false (laidWorld os) #[.slice none 0 0,.int .u8 0] rfl (by kernel_rfl) (by kernel_rfl) (by kernel_rfl) (OpenSpec.preRow_of_cond 8 hx (by kernel_rfl) (λk hk=>by cases hk) (by kernel_rfl) (laid_met os))) ?_
 intro W base args ds gs before hval hW _ _ _ hL _ _;exact contract H enc W base args ds gs before hval hW
theorem closed:joinedFacts Tryz.prog 3 Tryz.f3 Rows.impAnySpec Rows.impAnyRow=true:=by
 unfold joinedFacts;exact andT (andT (andT (andT (andT (andT (andT (andT (andT (andT (andT (andT (andT (andT (andT (andT (andT (andT (andT (andT (andT (andT (andT (andT (andT (andT (andT (andT (andT (andT (andT fact0 fact1) fact2) fact3) fact4) fact5) fact6) fact7) fact8) fact9) fact10) fact11) fact12) fact13) fact14) fact15) fact16) fact17) fact18) fact19) fact20) fact21) fact22) fact23) fact24) fact25) fact26) fact27) fact28) fact29) fact30) fact31
theorem said:Rows.ImpAnySaid:=
 OpenClaim.holds_of_cond 3 Tryz.f3 rfl rfl rfl rfl rfl rfl rfl ⟨rfl,rfl,rfl,rfl,rfl⟩ rfl rfl rfl rfl rfl named Tryz.func3 closed
  (of_decide_eq_true (by kernel_rfl)) (by unfold Func.isWrapper;first|(rw[if_pos (by decide +kernel)];kernel_rfl)|(rw[if_neg (by decide +kernel)];exact⟨rfl,rfl⟩))
  (λos started H enc _ F=>by rw[OpenClaim.pre_eq_preRow];exact lifted os started H enc F)
theorem plain(f:FuncId)(fn:Func)(hf:Tryz.pinned.checked.prog.funcNamed "palimp/palimplaw24.ImpAny" = some f) (hfn:Tryz.pinned.checked.prog.funcs[f]?=some fn) :
 false=Tryz.pinned.checked.prog.looks []/\∀ (j:Nat) t,fn.params[j]?=some t->Tryz.pinned.checked.prog.wantsStandIn t=false:=by
 obtain rfl:f=3:=Option.some.inj ((show Tryz.prog.funcNamed "palimp/palimplaw24.ImpAny" = some 3 by kernel_rfl).symm.trans hf) |>.symm;obtain rfl:fn=Tryz.f3:=(Option.some.inj (Tryz.func3.symm.trans hfn)).symm;refine⟨by kernel_rfl,λj t ht=>?_⟩;rw[Tryz.params3]at ht;have h2:t=22\/t=5:=by simpa using Array.mem_of_getElem? ht
 rcases h2 with rfl|rfl
 ·exact(show Tryz.prog.wantsStandIn 22=false by kernel_rfl)
 ·exact(show Tryz.prog.wantsStandIn 5=false by kernel_rfl)
theorem proved:Rows.ImpAnyCardSaid:=
 Claim7.holds_tied_plain_at .later [] _ _ _ _ said (λ_ h=>by cases h) wfText (λ_ h=>by cases h) impAny_row_tie rfl ⟨rfl,rfl⟩ mainText rfl plain goesText
#print axioms proved
end Go.Proofs.YtddlanlnaenaoaaGreatDoor.impAny
