/-
  Part 2 of the proof: no condition. (Parts of the abstract layer, of the program's functions in its form, and of their contracts.)
-/
import Derived.Test.YtbngojdlgfhacaaGreatDoorPf1
import Derived.Below
set_option maxRecDepth 100000
set_option maxHeartbeats 8000000
set_option linter.unusedSimpArgs false
set_option linter.unusedVariables false
set_option linter.unusedSectionVars false
namespace Go.Proofs.YtbngojdlgfhacaaGreatDoor.Abs
section
theorem Yf{ev ev':Opd->AV}{x:Option Opd}(h:∀ y∈x.toList,ev y=ev' y)(d t:Nat):Bo ev x d t=Bo ev' x d t:=by
 cases x with
 |none=>rfl
 |some x=>simp only[Bo,h x (by simp)]
theorem b1v{ev ev':Opd->AV}:∀ (parts:List (Nat×Nat×Opd)) (cells:List AV),(∀ p∈parts,ev p.2.2=ev' p.2.2)->Ch ev cells parts=Ch ev' cells parts
 |[],_,_=>rfl
 |(off,size,x)::rest,cells,h=>by
   have h0:ev x=ev' x:=h (off,size,x) (by simp);simp only[Ch,h0];cases cellsOf (ev' x)with
   |none=>rfl
   |some cs=>simp only[];split<;>first|exact b1v rest _ (λp hp=>h p (by simp[hp]))|rfl
theorem b3a{op:AOp}{ev ev':Opd->AV}(H:AH)(h:∀ x∈Dm op,ev x=ev' x):D8 op ev H=D8 op ev' H:=by
 unfold D8;have e0:Ar op ev H=Ar op ev' H:=by
  cases op
  case build zero parts=>
   simp only[Ar];rw[b1v parts zero (λp hp=>h _ (e7o.2 ⟨p,hp,rfl⟩))]
  case slices x lo hi=>
   have hl:∀ d t,Bo ev lo d t=Bo ev' lo d t:=Yf (λy hy=>h y (by simp[Dm]at hy ⊢;simp[hy]));have hh:∀ d t,Bo ev hi d t=Bo ev' hi d t:=Yf (λy hy=>h y (by simp[Dm]at hy ⊢;simp[hy]));simp only[Ar,h x (by simp[Dm]),hl,hh]
  case slicel sz x lo hi=>
   have hl:∀ d t,Bo ev lo d t=Bo ev' lo d t:=Yf (λy hy=>h y (by simp[Dm]at hy ⊢;simp[hy]));have hh:∀ d t,Bo ev hi d t=Bo ev' hi d t:=Yf (λy hy=>h y (by simp[Dm]at hy ⊢;simp[hy]));simp only[Ar,h x (by simp[Dm]),hl,hh]
  case slice3 x lo hi mx=>
   have hl:∀ d t,Bo ev (some lo) d t=Bo ev' (some lo) d t:=Yf (λy hy=>h y (by simp[Dm]at hy ⊢;simp[hy]));have hh:∀ d t,Bo ev (some hi) d t=Bo ev' (some hi) d t:=Yf (λy hy=>h y (by simp[Dm]at hy ⊢;simp[hy]));have hx:∀ d t,Bo ev (some mx) d t=Bo ev' (some mx) d t:=Yf (λy hy=>h y (by simp[Dm]at hy ⊢;simp[hy]));simp only[Ar,h x (by simp[Dm]),hl,hh,hx]
  case mkfn f first cap=>
   have h1:first.map ev=first.map ev':=e4y λx hx=>h x (by simp[Dm,hx])
   have h2:cap.map ev=cap.map ev':=e4y λx hx=>h x (by simp[Dm,hx]);simp only[Ar,h1,h2]
  case len str x=>cases str<;>simp only[Ar,h x (by simp[Dm])]
  all_goals (simp only[Dm,e79,e61,or_false,forall_eq_or_imp,forall_eq]at h;simp only[Ar,h])
 have e1:Cc op ev H=Cc op ev' H:=by
  cases op
  case bslice sz len zero parts=>
   simp only[Cc];rw[b1v _ _ (λp hp=>by obtain⟨q,hq,rfl⟩:=e7o.1 hp;exact h _ (e7o.2 ⟨q,hq,rfl⟩))]
  all_goals first
   |rfl
   |(simp only[Dm,e79,e61,or_false,forall_eq_or_imp,forall_eq]at h;simp only[Cc,h])
 rw[e0,e1]
def Ir(P:Program)(op:AOp)(ev:Opd->AV)(H:AH)(v:AV):Prop:=
 match op with
 |.call f args=>C P f (args.map ev) H λx H'=>x=v/\H'=H
 |.calld x args=>∃ f first cap,ev x=.fn (.func f) first cap/\C P f (first++args.map ev++cap) H λx H'=>x=v/\H'=H
 |.eqnil neg x=>∃ b,Nx H (ev x)=some (some b)/\v=.bool (b != neg)
 |op=>D8 op ev H=some (v,H)
theorem d0w{P:Program}{op:AOp}{ev ev':Opd->AV}{H:AH}{v:AV}(h:∀ x∈Dm op,ev x=ev' x)(hs:Ir P op ev H v):Ir P op ev' H v:=by
 have ha:=b3a H h;cases op
 case call f args=>
  have h1:args.map ev=args.map ev':=e4y λx hx=>h x (by simp[Dm,hx]);simp only[Ir,h1]at hs ⊢;exact hs
 case calld x args=>
  have h1:args.map ev=args.map ev':=e4y λx hx=>h x (by simp[Dm,hx]);have h2:ev x=ev' x:=h x (by simp[Dm]);simp only[Ir,h1,h2]at hs ⊢;exact hs
 case eqnil neg x=>
  have h2:ev x=ev' x:=h x (by simp[Dm]);simp only[Ir,h2]at hs ⊢;exact hs
 all_goals (simp only[Ir]at hs ⊢;rw[<-ha];exact hs)
theorem d0x{P:Program}{i:AInstr}{fr:List AV}{H:AH}{v:AV}(hs:Ir P i.op (evalA fr) H v):Ob P i (λf H'=>f=Aq fr i.dst v/\H'=H) fr H:=by
 obtain⟨d,g,op⟩:=i;cases op
 case call f args=>exact C.mono hs λx H' ⟨h1,h2⟩=>⟨by rw[h1],h2⟩
 case calld x args=>
  obtain⟨f,first,cap,h1,h2⟩:=hs;exact⟨f,first,cap,h1,h2.mono λx H' ⟨h1,h2⟩=>⟨by rw[h1],h2⟩⟩
 case eqnil neg x=>
  obtain⟨b,h1,rfl⟩:=hs;exact⟨_,h1,λc hc=>by rw[hc b rfl];exact⟨rfl,rfl⟩⟩
 all_goals (simp only[Ir]at hs;simp only[Ob,hs,V1];first|exact⟨rfl,rfl⟩|exact⟨trivial,trivial⟩)
def U5(fs:List AV)(d:Option Nat)(v:AV):Prop:=∀ t,d=some t->t<fs.length->fs[t]?=some v
def U6(P:Program)(H:AH)(fv fs:List AV)(a:AInstr):Prop:=
 match a.guard with
 |none=>∃ v,Ir P a.op (evalA fv) H v/\U5 fs a.dst v
 |some (g,want)=>(∃ b,fv[g]?=some (.bool b)/\(b=want->∃ v,Ir P a.op (evalA fv) H v/\U5 fs a.dst v)/\(b≠want->U5 fs a.dst (.tuple [])))\/(fv[g]?=some (.tuple [])/\U5 fs a.dst (.tuple []))
structure Sees(is:List AInstr)(fr fs fv:List AV)(i:Nat)(a:AInstr):Prop where
 old:∀ t∈slotsI a,(∀ (j:Nat) (b:AInstr),j<i->is[j]?=some b->b.dst≠some t)->fv[t]?=fr[t]?
 new:∀ t∈slotsI a,∀ (j:Nat) (b:AInstr),j<i->is[j]?=some b->b.dst=some t->fv[t]?=fs[t]?
def R8(P:Program):List AInstr->(List AV->Prop)->List AV->AH->Prop
 |[],K,fr,_=>K fr
 |i::rest,K,fr,H=>
   match i.guard with
   |none=>∃ v,Ir P i.op (evalA fr) H v/\R8 P rest K (Aq fr i.dst v) H
   |some (g,want)=>S5 (fr[g]?) want (∃ v,Ir P i.op (evalA fr) H v/\R8 P rest K (Aq fr i.dst v) H) (R8 P rest K (Aq fr i.dst (.tuple [])) H)
def b45(is:List AInstr):Prop:=∀ (i j:Nat) (a b:AInstr) (d:Nat),is[i]?=some a->is[j]?=some b->b.dst=some d->a.dst=some d->i=j
theorem ax7(fr:List AV)(d:Option Nat)(v:AV):(Aq fr d v).length=fr.length:=by cases d<;>simp[Aq]
theorem a3e{fr:List AV}{d:Option Nat}{v:AV}{t:Nat}(h:d≠some t):(Aq fr d v)[t]?=fr[t]?:=by
 cases d with
 |none=>rfl
 |some d=>simp only[Aq];exact List.getElem?_set_ne (λe=>h (by rw[e]))
theorem c5w{fr fs:List AV}{op:AOp}(h:∀ t∈(Dm op).flatMap aw8,fr[t]?=fs[t]?):∀ x∈Dm op,evalA fr x=evalA fs x:=by
 intro x hx;cases x with
 |c v=>rfl
 |t n=>simp only[evalA];rw[h n (List.mem_flatMap.2 ⟨_,hx,by simp[aw8]⟩)]
theorem cf7{P:Program}{H:AH}{K:List AV->Prop}:∀ (is:List AInstr) (fr:List AV),b45 is->R8 P is K fr H->
 ∃ fs,K fs/\fs.length=fr.length/\(∀ t,(∀ (j:Nat) (a:AInstr),is[j]?=some a->a.dst≠some t)->fs[t]?=fr[t]?)/\∀ (j:Nat) (a:AInstr),is[j]?=some a->∃ fv,U6 P H fv fs a/\Sees is fr fs fv j a
 |[],fr,_,h=>⟨fr,h,rfl,λ_ _=>rfl,λj a hj=>by simp at hj⟩
 |i::rest,fr,hap,h=>by
   have hap':b45 rest:=λp q a b d ha hb hd hd'=>by
    have:=hap (p+1) (q+1) a b d (by simpa using ha) (by simpa using hb) hd hd';omega
   have key:∀ v,R8 P rest K (Aq fr i.dst v) H->(∀ fs,U5 fs i.dst v->U6 P H fr fs i)->∃ fs,K fs/\fs.length=fr.length/\(∀ t,(∀ (j:Nat) (a:AInstr),(i::rest)[j]?=some a->a.dst≠some t)->fs[t]?=fr[t]?)/\
    ∀ (j:Nat) (a:AInstr),(i::rest)[j]?=some a->∃ fv,U6 P H fv fs a/\Sees (i::rest) fr fs fv j a:=by
    intro v hv hgd;obtain⟨fs,h1,h2,h3,h4⟩:=cf7 rest _ hap' hv;rw[ax7]at h2;have hput:∀ t,i.dst=some t->fs[t]?=(Aq fr i.dst v)[t]?:=λt hd=>h3 t (λj a hj hda=>by have:=hap 0 (j+1) i a t rfl (by simpa using hj) hda hd;omega);have hP:U5 fs i.dst v:=by
     intro t hd hlt;rw[hput t hd,hd];simp only[Aq];rw[List.getElem?_set_self om]
    refine⟨fs,h1,h2,λt ht=>?_,λj a hj=>?_⟩
    ·rw[h3 t (λj a hj=>ht (j+1) a (by simpa using hj))];exact a3e (ht 0 i rfl)
    ·cases j with
     |zero=>
       simp at hj;subst hj;exact⟨fr,hgd fs hP,λt _ _=>rfl,λt _ j b hlt=>by omega⟩
     |succ j=>
       obtain⟨fv,k1,k2⟩:=h4 j a (by simpa using hj);refine⟨fv,k1,λt ht hno=>?_,λt ht j' b hlt hj' hd=>?_⟩
       ·rw[k2.old t ht (λj' b hlt hb=>hno (j'+1) b om (by simpa using hb))];exact a3e (hno 0 i om rfl)
       ·cases j' with
        |zero=>
          simp at hj';subst hj';rw[k2.old t ht (λj' b hlt hb hdb=>by have:=hap 0 (j'+1) _ b t rfl (by simpa using hb) hdb hd;omega),hput t hd]
        |succ j'=>exact k2.new t ht j' b om (by simpa using hj') hd
   unfold R8 at h;cases hg:i.guard with
   |none=>
     rw[hg]at h;obtain⟨v,hv,hr⟩:=h;exact key v hr λfs hp=>by unfold U6;rw[hg];exact⟨v,hv,hp⟩
   |some gw=>
     obtain⟨g,want⟩:=gw;rw[hg]at h;rcases h with ⟨b,hb,hyes,hno⟩|⟨hb,hno⟩
     ·by_cases hbw:b=want
      ·obtain⟨v,hv,hr⟩:=hyes hbw;exact key v hr λfs hp=>by unfold U6;rw[hg];exact .inl ⟨b,hb,λ_=>⟨v,hv,hp⟩,λhn=>absurd hbw hn⟩
      ·exact key (.tuple []) (hno hbw) λfs hp=>by unfold U6;rw[hg];exact .inl ⟨b,hb,λhe=>absurd he hbw,λ_=>hp⟩
     ·exact key (.tuple []) hno λfs hp=>by unfold U6;rw[hg];exact .inr ⟨hb,hp⟩
theorem cb5{ops:Array Oper}{listed:Array Bool}(hcl:∀ (j:Nat) (o:Oper),ops[j]?=some o->listed.getD j false=true->∀ e∈o.after,Region.binds .any e=true->listed.getD e.on false=true) :
 ∀ (k j i:Nat),Yh ops k j i=true->listed.getD j false=true->listed.getD i false=true
 |0,_,_,h,_=>by simp[Yh]at h
 |k+1,j,i,h,hj=>by
   unfold Yh at h;split at h
   ·rename_i o ho;obtain⟨e,he,hb⟩:=Array.any_eq_true'.1 h;simp only[e5v,e6n,beq_iff_eq]at hb
    have:=hcl j o ho hj e he hb.1;rcases hb.2 with h'|h'
    ·rw[<-h'];exact this
    ·exact cb5 hcl k e.on i h' this
   ·cases h
theorem ak7{P:Program}{ops:Array Oper}:∀ {is:List AInstr} {os:List Oper},P2 P ops is os=true->is.length=os.length/\∀ (i:Nat) (o:Oper),os[i]?=some o->∃ a,is[i]?=some a/\fitI P ops a o=true
 |[],[],_=>⟨rfl,λi o h=>by simp at h⟩
 |[],_::_,h=>by simp[P2]at h
 |_::_,[],h=>by simp[P2]at h
 |a::is,o::os,h=>by
   simp only[P2,e5v]at h;obtain⟨h1,h2⟩:=ak7 h.2;refine⟨by simp[h1],λi o' ho=>?_⟩;cases i with
   |zero=>simp at ho;subst ho;exact⟨a,rfl,h.1⟩
   |succ i=>simpa using h2 i o' (by simpa using ho)
theorem b2i{p q:Nat->Bool}:∀ (l:List Nat) (i:Nat),i∈l->(∀ j,q j=true->p j=true)->p i=true->q i=false->l.countP q<l.countP p
 |x::l,i,hi,hqp,hp,hq=>by
   simp only[List.countP_cons];by_cases hx:x=i
   ·subst hx;have:l.countP q<=l.countP p:=List.countP_mono_left λj _=>hqp j;simp[hp,hq];omega
   ·have:=b2i l i (by simpa [Ne.symm hx]using hi) hqp hp hq;have h2:(if q x=true then 1 else 0)<=(if p x=true then 1 else 0):=by
     by_cases h:q x=true
     ·simp[h,hqp x h]
     ·simp[h]
    omega
 |[],_,hi,_,_,_=>by simp at hi
section
variable {P:Program} {n0:Nat} {Q:APost} {fr:List AV} {H:AH}
theorem e0q{E:Env}{ops:Array Oper}{is:List AInstr}{fs:List AV}(hfit:P2 P ops is ops.toList=true)
 (hdep:∀ (i:Nat) (a:AInstr) (o:Oper),is[i]?=some a->ops[i]?=some o->(∀ (j:Nat) (b:AInstr) (d:Nat),is[j]?=some b->b.dst=some d->(d∈slotsI a->(j<i/\∃ e∈o.after,e.on=j/\Region.binds .any e=true)\/(i<j/\Yh ops is.length j i=true))/\(a.dst=some d->i=j))/\∀ e∈o.after,Region.binds .any e=true->e.on<i)
 (hlen:fs.length=fr.length) (hold:∀ t,(∀ (j:Nat) (a:AInstr),is[j]?=some a->a.dst≠some t)->fs[t]?=fr[t]?) (hgood:∀ (j:Nat) (a:AInstr),is[j]?=some a->∃ fv,U6 P H fv fs a/\Sees is fr fs fv j a) (hQ:Q .normal fs H) :
 ∀ (Fr:Nat) (listed:Array Bool) (a:Act) (w:World),listed.size=ops.size->(List.range ops.size).countP (λj=> !listed.getD j true)<=Fr->
   (∃ E' fL,LeN n0 E E'/\Sim E' w H/\RepL E' fL a.tmps/\a.defers=[]/\fL.length=fr.length/\(∀ (t j:Nat) (b:AInstr),is[j]?=some b->b.dst=some t->listed.getD j false=true->fL[t]?=fs[t]?)/\ (∀ t,(∀ (j:Nat) (b:AInstr),is[j]?=some b->b.dst=some t->listed.getD j false=false)->fL[t]?=fr[t]?)/\(∀ (j:Nat) (o:Oper),ops[j]?=some o->listed.getD j false=true->∀ e∈o.after,Region.binds .any e=true->listed.getD e.on false=true))->wpAny P .any ops (lft n0 E Q) Fr listed a w:=by
 have hsz:=(ak7 hfit).1;have hget:=(ak7 hfit).2;have Bv:∀ (listed:Array Bool) (a:Act) (w:World),listed.size=ops.size->(∀ j,j<ops.size->listed.getD j true=true)->
  (∃ E' fL,LeN n0 E E'/\Sim E' w H/\RepL E' fL a.tmps/\a.defers=[]/\fL.length=fr.length/\(∀ (t j:Nat) (b:AInstr),is[j]?=some b->b.dst=some t->listed.getD j false=true->fL[t]?=fs[t]?)/\ (∀ t,(∀ (j:Nat) (b:AInstr),is[j]?=some b->b.dst=some t->listed.getD j false=false)->fL[t]?=fr[t]?)/\(∀ (j:Nat) (o:Oper),ops[j]?=some o->listed.getD j false=true->∀ e∈o.after,Region.binds .any e=true->listed.getD e.on false=true))->lft n0 E Q .normal a w:=by
  rintro listed a w hls hall ⟨E',fL,h1,h2,h3,h4,h5,h6,h7,_⟩;have:fL=fs:=by
   apply List.ext_getElem?;intro t;by_cases hw:∃ (j:Nat) (b:AInstr),is[j]?=some b/\b.dst=some t
   ·obtain⟨j,b,hj,hb⟩:=hw;refine h6 t j b hj hb ?_;have hjl:j<is.length:=by
     rcases e7h j is.length with h|h
     ·exact h
     ·rw[e4j h]at hj;cases hj
    have hjs:j<ops.size:=by rw[hsz]at hjl;simpa using hjl
    have:=hall j hjs;have hjl':j<listed.size:=om;simp[e3z,e44 hjl']at this ⊢;exact this
   ·have hn:∀ (j:Nat) (b:AInstr),is[j]?=some b->b.dst≠some t:=λj b hj hb=>hw ⟨j,b,hj,hb⟩;rw[h7 t (λj b hj hb=>absurd hb (hn j b hj)),hold t hn]
  subst this;exact⟨E',fL,H,.normal,rfl,hQ,h1,h2,h3,h4⟩
 have ready0:∀ (listed:Array Bool),listed.size=ops.size->Region.ready .any ops listed=[]->∀ j,j<ops.size->listed.getD j true=true:=by
  intro listed hls hr j
  induction j using Nat.strongRecOn with
  |ind j ih=>
    intro hj;cases hlj:listed.getD j true with
    |true=>rfl
    |false=>
      have ho:=e44 hj;obtain⟨a,ha,_⟩:=hget j ops[j] (by simp);have hm:j∈Region.ready .any ops listed:=mem_ready.2 ⟨hlj,_,ho,λe he hb=>by
       have hlt:=(hdep j a _ ha ho).2 e he hb;have hlt':e.on<listed.size:=om
       have:=ih e.on hlt om;simp[e3z,e44 hlt']at this ⊢;exact this⟩
      rw[hr]at hm;cases hm
 intro Fr
 induction Fr with
 |zero=>
   intro listed a w hls hcnt hinv;have hall:∀ j,j<ops.size->listed.getD j true=true:=by
    intro j hj;have h0:(List.range ops.size).countP (λj=> !listed.getD j true)=0:=om
    have:=List.countP_eq_zero.1 h0 j (e6x.2 hj);simpa using this
   refine⟨?_,Bv listed a w hls hall hinv⟩;cases hr:Region.ready .any ops listed with
   |nil=>rfl
   |cons x xs=>
     have hx:x∈Region.ready .any ops listed:=(by rw[hr];simp);obtain⟨h0,o,ho,_⟩:=mem_ready.1 hx
     have:=hall x (e43.1 ho).1;rw[this]at h0;cases h0
 |succ Fr ih=>
   intro listed a w hls hcnt hinv;refine⟨λhr=>Bv listed a w hls (ready0 listed hls hr) hinv,λi hi=>?_⟩;obtain⟨h0,o,ho,haft⟩:=mem_ready.1 hi;have his:i<ops.size:=(e43.1 ho).1;obtain⟨A6,hins,hfi⟩:=hget i o (by simpa using ho);obtain⟨hd1,hd2⟩:=hdep i A6 o hins ho;obtain⟨E',fL,g1,g2,g3,g4,g5,g6,g7,g8⟩:=hinv;obtain⟨fv,hgd,hsee⟩:=hgood i A6 hins;have hi0:listed.getD i false=false:=by
    have hil:i<listed.size:=om;simp[e3z,e44 hil]at h0 ⊢;exact h0
   have hsl:∀ t∈slotsI A6,fL[t]?=fv[t]?:=by
    intro t ht;by_cases hw:∃ (j:Nat) (b:AInstr),is[j]?=some b/\b.dst=some t
    ·obtain⟨j,b,hj,hb⟩:=hw;have huniq:∀ (j':Nat) (b':AInstr),is[j']?=some b'->b'.dst=some t->j'=j:=by
      intro j' b' hj' hb';have hjl:j'<is.length:=by
       rcases e7h j' is.length with h|h
       ·exact h
       ·rw[e4j h]at hj';cases hj'
      have hjo:j'<ops.size:=by rw[hsz]at hjl;simpa using hjl
      exact((hdep j' b' _ hj' (e44 hjo)).1 j b t hj hb).2 hb'
     rcases(hd1 j b t hj hb).1 ht with ⟨hlt,e,he,hej,hbind⟩|⟨hlt,hanc⟩
     ·subst hej;rw[g6 t _ b hj hb (haft e he hbind),hsee.new t ht _ b hlt hj hb]
     ·have hjf:listed.getD j false=false:=by
       cases hlj:listed.getD j false with
       |false=>rfl
       |true=>rw[cb5 g8 _ _ _ hanc hlj]at hi0;cases hi0
      rw[g7 t (λj' b' hj' hb'=>by rw[huniq j' b' hj' hb'];exact hjf),hsee.old t ht (λj' b' hlt' hj' hb'=>by have:=huniq j' b' hj' hb';omega)]
    ·have hn:∀ (j:Nat) (b:AInstr),is[j]?=some b->b.dst≠some t:=λj b hj hb=>hw ⟨j,b,hj,hb⟩;rw[g7 t (λj b hj hb=>absurd hb (hn j b hj)),hsee.old t ht (λj b _ hj=>hn j b hj)]
   have hcnt':(List.range ops.size).countP (λj=> !(listed.setIfInBounds i true).getD j true)<=Fr:=by
    have:=b2i (p:=λj=> !listed.getD j true) (q:=λj=> !(listed.setIfInBounds i true).getD j true) (List.range ops.size) i (e6x.2 his) (λj hj=>by
     by_cases hij:i=j
     ·subst hij;have hil:i<listed.size:=om;simp[e3z,hil]at hj
     ·rw[getD_set_ne true hij]at hj;exact hj) (by simp[h0]) (by
      have hil:i<listed.size:=om;simp[e3z,hil])
    omega
   have next:∀ (E2:Env) (v:AV) (a':Act) (w':World),LeN n0 E E2->Sim E2 w' H->RepL E2 (Aq fL A6.dst v) a'.tmps->a'.defers=[]->U5 fs A6.dst v->wpAny P .any ops (lft n0 E Q) Fr (listed.setIfInBounds i true) a' w':=by
    intro E2 v a' w' k1 k2 k3 k4 k5;refine ih _ a' w' (by simp[hls]) hcnt' ⟨E2,_,k1,k2,k3,k4,by rw[ax7,g5],λt j b hj hb hl=>?_,λt hn=>?_,λj o' hj hl e he hbind=>?_⟩
    ·by_cases hij:i=j
     ·subst hij;rw[hins]at hj;cases hj;rw[hb];simp only[Aq];by_cases hlt:t<fs.length
      ·rw[List.getElem?_set_self om,k5 t hb hlt]
      ·rw[e4j (by simp;omega),e4j om]
     ·rw[a3e (λhd=>hij ((hd1 j b t hj hb).2 hd))];rw[getD_set_ne false hij]at hl;exact g6 t j b hj hb hl
    ·have hni:A6.dst≠some t:=λhd=>by
      have:=hn i A6 hins hd;have hil:i<listed.size:=om;simp[e3z,hil]at this
     rw[a3e hni];refine g7 t (λj b hj hb=>?_);have hij:i≠j:=λe=>by subst e;rw[hins]at hj;cases hj;exact hni hb
     have:=hn j b hj hb;rw[getD_set_ne false hij]at this;exact this
    ·by_cases hij:i=j
     ·subst hij;rw[ho]at hj;cases hj;exact getD_set_true (haft e he hbind)
     ·rw[getD_set_ne false hij]at hl;exact getD_set_true (g8 j o' hj hl e he hbind)
   have hdst:A6.dst=o.dst:=by
    unfold fitI at hfi;rw[e5v,e5v]at hfi;simpa using hfi.1.1
   have hg:J4 ops A6.guard o.guard=true:=by
    unfold fitI at hfi;rw[e5v,e5v]at hfi;exact hfi.1.2
   have step:(∃ v,Ir P A6.op (evalA fv) H v/\U5 fs A6.dst v)->o.wp P a w (wpAny P .any ops (lft n0 E Q) Fr (listed.setIfInBounds i true)) (lft n0 E Q):=by
    rintro⟨v,hv,hp⟩;have hv':Ir P A6.op (evalA fL) H v:=d0w (c5w λt ht=>(hsl t (e4t _ ht)).symm) hv;refine av9 hfi g2 g3 g4 g1 (d0x hv') ?_;rintro E2 fr' H' a' w' ⟨rfl,rfl⟩ k1 k2 k3 k4;exact next E2 v a' w' k1 k2 k3 k4 hp
   unfold wpOp;rw[ho];simp only[];unfold U6 at hgd;cases hig:A6.guard with
   |none=>
     rw[hig]at hg hgd;cases hog:o.guard with
     |some g=>rw[hog]at hg;simp[J4]at hg
     |none=>
       rw[if_pos (by simp[Region.wanted,hog])];exact .inl (step hgd)
   |some g=>
     obtain⟨s,want⟩:=g;rw[hig]at hg hgd;cases hog:o.guard with
     |none=>rw[hog]at hg;simp[J4]at hg
     |some g' =>
       obtain⟨j,want'⟩:=g';rw[hog]at hg;simp only[J4,e5v,beq_iff_eq,e5h]at hg;obtain⟨rfl,hj⟩:=hg;have hgs:s∈slotsI A6:=(by unfold slotsI;rw[hig];simp);have skip:Region.wanted o (yielded ops a.tmps)=false->U5 fs A6.dst (.tuple [])->(if Region.wanted o (yielded ops a.tmps)=true then o.wp P a w (wpAny P .any ops (lft n0 E Q) Fr (listed.setIfInBounds i true)) (lft n0 E Q)\/(o.asks P a w/\LetsOut (lft n0 E Q))else wpAny P .any ops (lft n0 E Q) Fr (listed.setIfInBounds i true) (a.put o.dst undef) w):=by
        intro hw hp;rw[hw,if_neg (by simp)];refine next E' (.tuple []) _ w g1 g2 ?_ (J0 g4 _ _) hp;rw[hdst];exact Iz g3 (a8m E') _
       rcases hgd with ⟨b,hb,hyes,hno⟩|⟨hb,hp⟩
       ·have hy:yielded ops a.tmps j=some b:=a7c g3 (by rw[hsl s hgs,hb]) hj;have hw:Region.wanted o (yielded ops a.tmps)=(b==want):=by
         simp only[Region.wanted,hog,hy];cases b<;>cases want<;>rfl
        by_cases hbw:b=want
        ·rw[hw,if_pos (by simpa using hbw)];exact .inl (step (hyes hbw))
        ·exact skip (by rw[hw];simpa using hbw) (hno hbw)
       ·have hy:yielded ops a.tmps j=none:=ar8 g3 (by rw[hsl s hgs,hb]) hj;have hw:Region.wanted o (yielded ops a.tmps)=false:=by
         simp only[Region.wanted,hog,hy];rfl
        exact skip hw hp
theorem b3h{is:List AInstr}(h:R8 P is (λf=>Q .normal f H) fr H):W P n0 (.dreg is) Q fr H:=by
 intro c E w a hf hs hr hd;cases c<;>try (simp only[fitC,e52]at hf;done)
 rename_i id ops draw;cases draw<;>simp only[fitC,e52,e5v]at hf;obtain⟨hm,hfit,hdeps⟩:=hf;have hsz:=(ak7 hfit).1;have hdep:∀ (i:Nat) (a:AInstr) (o:Oper),is[i]?=some a->ops[i]?=some o->(∀ (j:Nat) (b:AInstr) (d:Nat),is[j]?=some b->b.dst=some d->(d∈slotsI a->(j<i/\∃ e∈o.after,e.on=j/\Region.binds .any e=true)\/(i<j/\Yh ops is.length j i=true))/\(a.dst=some d->i=j))/\∀ e∈o.after,Region.binds .any e=true->e.on<i:=by
  intro i a o ha ho;have hil:i<is.length:=by
   rcases e7h i is.length with h|h
   ·exact h
   ·rw[e4j h]at ha;cases ha
  have h1:=e5x.1 hdeps i (e6x.2 hil);simp only[ha,ho,c74,e5v]at h1;refine⟨λj b d hb hd=>?_,λe he hbind=>?_⟩
  ·have hjl:j<is.length:=by
    rcases e7h j is.length with h|h
    ·exact h
    ·rw[e4j h]at hb;cases hb
   have h2:=e5x.1 h1.1 j (e6x.2 hjl);simp only[hb,hd,e5v,e6n,e5h]at h2;refine⟨λhm=>?_,λhe=>?_⟩
   ·rcases h2.1 with (h3|⟨h3,h4⟩)|h3
    ·simp[hm]at h3
    ·refine .inl ?_;obtain⟨e,he,hb'⟩:=Array.any_eq_true'.1 h4;simp only[e5v,beq_iff_eq]at hb';exact⟨h3,e,he,hb'.1,hb'.2⟩
    ·exact .inr h3
   ·rcases h2.2 with h3|h3
    ·exact h3
    ·exact absurd he h3
  ·have h2:=Array.all_eq_true_iff_forall_mem.1 h1.2 e he;simpa [hbind]using h2
 have hap:b45 is:=by
  intro i j a b d ha hb hd hd';have hil:i<is.length:=by
   rcases e7h i is.length with h|h
   ·exact h
   ·rw[e4j h]at ha;cases ha
  have hio:i<ops.size:=by rw[hsz]at hil;simpa using hil
  have:=(hdep i a _ ha (e44 hio)).1 j b d hb hd;exact this.2 hd'
 obtain⟨fs,k1,k2,k3,k4⟩:=cf7 is fr hap h;refine wp_region_any hm ?_;refine e0q hfit hdep k2 k3 k4 k1 ops.size _ a _ (by simp) ?_ ⟨E,fr,LeN.refl _ _,⟨hs.os,hs.tape,hs.output,hs.frz,hs.disj,hs.dom,λr o h=>?_,hs.inj⟩,hr,hd,rfl,λt j b hj hb hl=>?_,λ_ _=>rfl,λj o hj hl=>?_⟩
 ·refine e7n (List.countP_le_length) (by simp)
 ·rcases hs.obj r o h with h|⟨x,hx,hl⟩
  ·exact .inl h
  ·exact .inr ⟨x,hx,⟨hl.t,hl.pos,hl.out,hl.blk,hl.sz,hl.fits⟩⟩
 ·simp[e3z,Array.getElem?_replicate]at hl;split at hl<;>simp at hl
 ·simp[e3z,Array.getElem?_replicate]at hl;split at hl<;>simp at hl
end
end
section
section
variable {P:Program} {n0:Nat}
variable (d:Option Nat) (rest:List AInstr) (K:List AV->Prop) (fr:List AV) (H:AH)
end
end
section
section
variable {P:Program} {n0:Nat} (d:Option Nat) (rest:List AInstr) (K:List AV->AH->Prop) (L:List AV->Prop) (fr:List AV) (H:AH)
def a1u(H:AH)(x:AV):Option (AV×AH):=
    match cellsOf (x)with
    |some cs=>if cs.length≠0/\cs.all cellA=true then some (.ptr H.length 0 0 1,H++[some [cs]])else none
    |none=>none
def a38(H:AH)(n:Nat)(p:AV)(x:AV):Option (AV×AH):=
    match p,cellsOf (x)with
    |.ptr r i j tot,some cs=>
      match Am H r tot with
      |some o=>
        match o[i]? with
        |some e=>if cs.length=n/\j+n<=e.length/\cs.all cellA=true then some (.top,H.set r (some (o.set i (lay e j cs))))else none
        |none=>none
      |none=>none
    |_,_=>none
def a5x(H:AH)(x:AV):Option (AV×AH):=
    match x with
    |.str s=>some (.own H.length 1 0 s.length s.length,H++[some (s.map λb=>[.int .u8 b.toNat])])
    |_=>none
def a41(H:AH)(sz:Nat)(bytes:Nat)(zero:List AV)(len:AV)(cap:AV):Option (AV×AH):=
    match len,cap with
    |.int _ l,.int _ c=>
      if 0<=l/\l<=c/\c<=1000000000/\bytes<=10000 then some (.own H.length sz 0 l.toNat l.toNat,H++[some (List.replicate l.toNat zero)])else none
    |_,_=>none
def Vr(H:AH)(sz:Nat)(bytes:Nat)(zero:List AV)(x:AV)(y:AV):Option (AV×AH):=
    match x,D4 H (y)with
    |.emp,some news=>if news.length*bytes<=1000000000000/\news.length<=1000000000/\news.all (λe=>decide (e.length=sz))=true then some (.own H.length sz 0 news.length news.length,H++[some news])else none
    |.own r sz' off len tot,some news=>
      match Am H r tot with
      |some o=>
        if news.all (λe=>decide (e.length=sz))=false\/sz'≠sz then none
        else if off=0/\len=tot then
         if(tot+news.length)*bytes<=1000000000000/\tot+news.length<=1000000000 then some (.own r sz 0 (tot+news.length) (tot+news.length),H.set r (some (o++news)))else none
        else if off+len+news.length<=tot then
         some (.own r sz off (len+news.length) tot,H.set r (some (o.take (off+len)++news++o.drop (off+len+news.length))))
        else none
      |none=>none
    |_,_=>none
theorem Pq(sz:Nat)(bytes:Nat)(zero:List AV)(x:Opd)(y:Opd)(t u):RT P (⟨d,none,.append sz bytes zero x y⟩::rest) K fr H t u=Xf (Vr H sz bytes zero (evalA fr x) (evalA fr y)) (λv H'=>RT P rest K (Aq fr d v) H' .mk .mk) .mk:=cf6 (λ_ _ _ _ _=>rfl) (λ_ _=>rfl) _ _ _ _ _ _ _
def a5w(H:AH)(sz:Nat)(x:AV)(y:AV):Option (AV×AH):=
    match x,D4 H (y)with
    |.own r sz' off len tot,some src=>
      match Am H r tot with
      |some o=>
        if off+len<=tot/\src.all (λe=>decide (e.length=sz))=true/\sz'=sz then
         some (.int .i64 (min src.length len:Nat),H.set r (some (o.take off++src.take (min src.length len)++o.drop (off+min src.length len))))
        else none
      |none=>none
    |.emp,some _=>some (.int .i64 0,H)
    |_,_=>none
def a60(H:AH)(sz:Nat)(zero:List AV)(x:AV):Option (AV×AH):=
    match x with
    |.own r sz' off len tot=>
      match Am H r tot with
      |some o=>if off+len<=tot/\sz'=sz then some (.tuple [],H.set r (some (o.take off++List.replicate len zero++o.drop (off+len))))else none
      |none=>none
    |.emp=>some (.tuple [],H)
    |.fz []=>some (.tuple [],H)
    |_=>none
def Xt(H:AH)(len:Nat)(sz:Nat)(x:AV)(i:AV):Option AV:=
    match x,i with
    |.ptr r k j tot,.int _ n=>if 0<=n/\n<len then(Am H r tot).map λ_=>.ptr r k (j+n.toNat*sz) tot else none
    |.fptr cs,.int _ n=>if 0<=n/\n<len/\n.toNat*sz<=cs.length then some (.fptr (cs.drop (n.toNat*sz)))else none
    |_,_=>none
def a1j(H:AH)(neg:Bool)(ks:List EK)(x:AV)(y:AV):Option AV:=
    match x,y with
    |.agg xs,.agg ys=>(Cb ks xs ys).map λr=>.bool (r != neg)
    |_,_=>none
def b2w:Option (List AV)->Option (AV×AH)
 |some cs=>if cs.length≠0/\cs.all cellA=true then some (.ptr H.length 0 0 1,H++[some [cs]])else none
 |none=>none
def av8(n r i j:Nat)(o:AObj)(cs:List AV):Option (List AV)->Option (AV×AH)
 |some e=>if cs.length=n/\j+n<=e.length/\cs.all cellA=true then some (.top,H.set r (some (o.set i (lay e j cs))))else none
 |none=>none
def a7z(n r i j:Nat):Option AObj->Option (List AV)->Option (AV×AH)
 |some o,some cs=>av8 H n r i j o cs o[i]?
 |_,_=>none
def b2j(sz r sz' off len tot:Nat):Option AObj->Option (List (List AV))->Option (AV×AH)
 |some o,some src=>if off+len<=tot/\src.all (λe=>decide (e.length=sz))=true/\sz'=sz then
  some (.int .i64 (min src.length len:Nat),H.set r (some (o.take off++src.take (min src.length len)++o.drop (off+min src.length len))))
  else none
 |_,_=>none
def elC(off len tot:Nat):Option AObj->Option (List (List AV))
 |some o=>if off+len<=tot then some ((o.drop off).take len)else none
 |none=>none
def rdO(i j n:Nat):Option AObj->Option (List AV)
 |some o=>match o[i]? with
   |some e=>if j+n<=e.length then some ((e.drop j).take n)else none
   |none=>none
 |none=>none
theorem Kq(n r i j tot:Nat):Jl H n (.ptr r i j tot)=rdO i j n (Am H r tot):=by
 simp only[Jl];cases Am H r tot<;>rfl
theorem L8(sz bytes:Nat)(zero:List AV)(k k':IntKind)(l c:Int):a41 H sz bytes zero (.int k l) (.int k' c)=if 0<=l/\l<=c/\c<=1000000000/\bytes<=10000 then some (.own H.length sz 0 l.toNat l.toNat,H++[some (List.replicate l.toNat zero)])else none:=qq
theorem M6(x:AV):a1u H x=b2w H (cellsOf x):=by unfold a1u b2w;cases cellsOf x<;>rfl
theorem M7(cs:List AV):b2w H (some cs)=if cs.length≠0/\cs.all cellA=true then some (.ptr H.length 0 0 1,H++[some [cs]])else none:=qq
theorem Kc(n r i j tot:Nat)(x:AV):a38 H n (.ptr r i j tot) x=a7z H n r i j (Am H r tot) (cellsOf x):=by
 unfold a38;cases hc:cellsOf x with
 |none=>simp only[];unfold a7z;split<;>simp_all
 |some cs=>
   simp only[];cases hl:Am H r tot with
   |none=>rfl
   |some o=>simp only[a7z];cases o[i]?<;>rfl
theorem Ke(n r i j:Nat)(o:AObj)(cs:List AV):a7z H n r i j (some o) (some cs)=av8 H n r i j o cs o[i]?:=qq
theorem Kd(n r i j:Nat)(o:AObj)(cs e:List AV):av8 H n r i j o cs (some e)=if cs.length=n/\j+n<=e.length/\cs.all cellA=true then some (.top,H.set r (some (o.set i (lay e j cs))))else none:=qq
theorem M3(s:List UInt8):a5x H (.str s)=some (.own H.length 1 0 s.length s.length,H++[some (s.map λb=>[.int .u8 b.toNat])]):=qq
theorem Ez(sz r sz' off len tot:Nat)(y:AV):a5w H sz (.own r sz' off len tot) y=b2j H sz r sz' off len tot (Am H r tot) (D4 H y):=by
 unfold a5w;cases D4 H y with
 |none=>simp only[];unfold b2j;split<;>simp_all
 |some cs=>simp only[];cases Am H r tot<;>rfl
theorem F0(sz r sz' off len tot:Nat)(o:AObj)(src:List (List AV)):b2j H sz r sz' off len tot (some o) (some src)=if off+len<=tot/\src.all (λe=>decide (e.length=sz))=true/\sz'=sz then
 some (.int .i64 (min src.length len:Nat),H.set r (some (o.take off++src.take (min src.length len)++o.drop (off+min src.length len))))
        else none:=qq
theorem Kf(s:List UInt8):D4 H (.str s)=some (s.map λb=>[.int .u8 b.toNat]):=qq
theorem Kh(es:List (List PV)):D4 H (.fz es)=some (es.map λe=>e.map emb):=qq
theorem Ki:D4 H .emp=some []:=qq
theorem Lv(es:List (List PV)):G5 H (.fz es)=some (es.map λe=>e.map emb):=qq
theorem Lw:G5 H .emp=some []:=qq
theorem Jt(r sz off len tot:Nat):G5 H (.own r sz off len tot)=elC off len tot (Am H r tot):=by
 simp only[G5];cases Am H r tot<;>rfl
theorem Kg(r sz off len tot:Nat):D4 H (.own r sz off len tot)=elC off len tot (Am H r tot):=Jt H r sz off len tot
theorem Lx(off len tot:Nat)(o:AObj):elC off len tot (some o)=if off+len<=tot then some ((o.drop off).take len)else none:=qq
theorem Lt(neg:Bool)(ks:List EK)(xs ys:List AV):a1j H neg ks (.agg xs) (.agg ys)=(Cb ks xs ys).map λr=>.bool (r != neg):=qq
theorem Ks(i j n:Nat)(o:AObj):rdO i j n (some o)=match o[i]? with|some e=>if j+n<=e.length then some ((e.drop j).take n)else none|none=>none:=qq
theorem Lc(o:AObj)(H:AH)(tot:Nat):Am (some o::H) 0 tot=if o.length=tot then some o else none:=qq
theorem Ld(x:Option AObj)(H:AH)(r tot:Nat):Am (x::H) (r+1) tot=Am H r tot:=qq
end
end
section
section
variable {P:Program} {n0:Nat}
theorem e3a{fr fr':List AV}{H:AH}(h:Wj fr' (Bw (Uc 0) fr)):Wk 0 fr H fr' []:=by
 have:=e37 (n0:=0) (fr:=fr) (H:=H) 0 (e7y _);exact this.trans (ao2 h)
end
end
section
open Go Go.Proofs Go.RowKit
section
variable {P:Program}
theorem Sim.below{E:Env}{w w':World}{H:AH}(h:Sim E w H)(hb:Below w.heap.size w w'):Sim E w' H:=by
 have key:∀ (b:Nat) o,w.heap[b]?=some o->w'.heap[b]?=some o:=λb o hbo=>by
  have hlt:b<w.heap.size:=by
   rcases e7h b w.heap.size with h|h
   ·exact h
   ·rw[e4e h]at hbo;cases hbo
  rw[hb.block b hlt,hbo]
 refine⟨hb.os.trans h.os,hb.tape.trans h.tape,hb.output.trans h.output,λb o ho=>key b o (h.frz b o ho),h.disj,h.dom,λr o hr=>?_,h.inj⟩;rcases h.obj r o hr with h'|⟨x,hx,hl⟩
 ·exact .inl h'
 ·obtain⟨cells,t,q,hc,rest⟩:=hl.blk;exact .inr ⟨x,hx,hl.t,hl.pos,hl.out,⟨cells,t,q,key _ _ hc,rest⟩,hl.sz,hl.fits⟩
theorem a7b{f:FuncId}{args:List AV}{H:AH}{x:AV}{v:Value}(he:ar6 P f)(hc:∀ E w vs,Sim E w H->RepL E args vs->Calls P f vs w λe w'=>e=.returned v/\Below w.heap.size w w')(hx:∀ E,Rep E x v) :
 C P f args H (λy H'=>y=x/\H'=H):=
 ⟨he,λE w vs hs hr=>(hc E w vs hs hr).mono λ_ w' ⟨h1,h2⟩=>⟨v,E,x,H,h1,⟨rfl,rfl⟩,LeN.refl _ _,hs.below h2,hx E⟩⟩
theorem RepL.one{E:Env}{x:AV}{vs:Array Value}(h:RepL E [x] vs):∃ v,vs= #[v]/\Rep E x v:=by
 have hl:=h.1;obtain⟨l⟩:=vs
 match l,hl with
 |[v],_=>exact⟨v,rfl,h.2 0 x v rfl rfl⟩
theorem RepL.two{E:Env}{x y:AV}{vs:Array Value}(h:RepL E [x,y] vs):∃ v u,vs= #[v,u]/\Rep E x v/\Rep E y u:=by
 have hl:=h.1;obtain⟨l⟩:=vs
 match l,hl with
 |[v,u],_=>exact⟨v,u,rfl,h.2 0 x v rfl rfl,h.2 1 y u rfl rfl⟩
end
end
section
section
variable {P:Program}
def a1t(H:AH)(sz len:Nat):Option (List AV)->Option (AV×AH)
 |some cells=>if cells.all cellA=true then some (.own H.length sz 0 len len,H++[some (chunks sz len cells)])else none
 |none=>none
theorem a66(H:AH)(sz len:Nat)(cells:List AV):a1t H sz len (some cells)=if cells.all cellA=true then some (.own H.length sz 0 len len,H++[some (chunks sz len cells)])else none:=qq
theorem b3x(d:Option Nat)(rest:List AInstr)(K:List AV->AH->Prop)(fr:List AV)(H:AH)(sz len:Nat)(zero:List AV)(parts:List (Nat×Opd))(t u):RT P (⟨d,none,.bslice sz len zero parts⟩::rest) K fr H t u=Xf (a1t H sz len (Ch (evalA fr) (List.replicate len zero).flatten (parts.map λx=>(x.1*sz,sz,x.2)))) (λv H'=>RT P rest K (Aq fr d v) H' .mk .mk) .mk:=by
 rw[cf6 (λ_ _ _ _ _=>rfl) (λ_ _=>rfl)];simp only[Cc];cases Ch (evalA fr) (List.replicate len zero).flatten (parts.map λx=>(x.1*sz,sz,x.2))<;>rfl
def apF(H:AH)(sz bytes r tot:Nat):Option (List (List AV))->Option AObj->Option (AV×AH)
 |some news,some o=>if news.all (λe=>decide (e.length=sz))=true/\(tot+news.length)*bytes<=1000000000000/\tot+news.length<=1000000000 then some (.own r sz 0 (tot+news.length) (tot+news.length),H.set r (some (o++news)))else none
 |_,_=>none
theorem Vs(H:AH)(sz bytes r tot:Nat)(news:List (List AV))(o:AObj):apF H sz bytes r tot (some news) (some o)=if news.all (λe=>decide (e.length=sz))=true/\(tot+news.length)*bytes<=1000000000000/\tot+news.length<=1000000000 then some (.own r sz 0 (tot+news.length) (tot+news.length),H.set r (some (o++news)))else none:=qq
theorem a6a(H:AH)(sz bytes:Nat)(zero:List AV)(r tot:Nat)(y:AV):Vr H sz bytes zero (.own r sz 0 tot tot) y=apF H sz bytes r tot (D4 H y) (Am H r tot):=by
 unfold Vr;cases D4 H y with
 |none=>simp only[];unfold apF;split<;>simp_all
 |some news=>
   simp only[];cases Am H r tot with
   |none=>rfl
   |some o=>
     simp only[apF];cases hall:news.all (λe=>decide (e.length=sz))with
     |false=>simp
     |true=>simp
def apE(H:AH)(sz bytes:Nat):Option (List (List AV))->Option (AV×AH)
 |some news=>if news.length*bytes<=1000000000000/\news.length<=1000000000/\news.all (λe=>decide (e.length=sz))=true then some (.own H.length sz 0 news.length news.length,H++[some news])else none
 |none=>none
theorem a6f(H:AH)(sz bytes:Nat)(news:List (List AV)):apE H sz bytes (some news)=if news.length*bytes<=1000000000000/\news.length<=1000000000/\news.all (λe=>decide (e.length=sz))=true then some (.own H.length sz 0 news.length news.length,H++[some news])else none:=qq
theorem a6b(H:AH)(sz bytes:Nat)(zero:List AV)(y:AV):Vr H sz bytes zero .emp y=apE H sz bytes (D4 H y):=by
 unfold Vr;cases D4 H y<;>rfl
end
end
section
def Au(all:List Nat)(i:Nat):Option Nat:=all[i]?
open Classical in
theorem b1i{E:Env}{w:World}{H:AH}(hs:Sim E w H)(rs nw:List Nat)(hnd:(rs++nw).Nodup)(hlt:∀ r∈rs++nw,r<H.length)(hfree:∀ r∈nw,E.ρ r=none) :
 ∃ E0:Env,Sim E0 w (rs.map λr=>(H.at r).map (renO (Aw rs)))/\(∀ xs vs,RepL E xs vs->RepL E0 (Bw (Aw rs) xs) vs)/\
   ∀ (E1:Env) (w':World) (H1:AH),LeN rs.length E0 E1->Sim E1 w' H1->H1.length=(rs++nw).length->
     ∃ E':Env,Le E E'/\Sim E' w' (C3 H (rs++nw) (H1.map λo=>o.map (renO (Au (rs++nw)))))/\(∀ x v,Rep E1 x v->Rep E' (ren (Au (rs++nw)) x) v)/\∀ r,r∉rs++nw->E'.ρ r=E.ρ r:=by
 have hndr:rs.Nodup:=(List.nodup_append.1 hnd).1;have hltr:∀ r∈rs,r<H.length:=λr hr=>hlt r (e4t _ hr);let other:Nat->Prop:=λb=>∃ r o x,r∉rs/\H.at r=some o/\E.ρ r=some x/\x.b=b;let E0:Env:={ F:=E.F,X:=λb=>match E.X b with|some o=>some o|none=>if other b then w.heap[b]? else none,ρ:=λi=>(rs[i]?).bind E.ρ,os:=E.os,tape:=E.tape,output:=E.output };let H0:AH:=rs.map λr=>(H.at r).map (renO (Aw rs));have hτ:∀ r r' y,Aw rs r=some r'->E.ρ r=some y->E0.ρ r'=some y:=by
  intro r r' y h1 h2;simp only[E0,Jf h1,e5y,h2]
 have hX0:∀ b,¬ other b->E0.X b=E.X b:=by
  intro b hb;simp only[E0];split
  ·rename_i h;rw[h]
  ·rename_i h;rw[if_neg hb,h]
 have hXo:∀ b,other b->E0.X b=w.heap[b]?:=by
  intro b hb;simp only[E0];split
  ·rename_i o h;exact(hs.frz b o (.inr h)).symm
  ·rw[if_pos hb]
 have hat0:∀ i o0,AH.at H0 i=some o0->∃ r o,rs[i]?=some r/\H.at r=some o/\o0=renO (Aw rs) o:=by
  intro i o0 h;simp only[AH.at,H0,e5j]at h;cases hri:rs[i]? with
  |none=>rw[hri]at h;cases h
  |some r=>
    rw[hri]at h;simp only[e6h,Option.join_some]at h;cases ho:H.at r with
    |none=>simp only[AH.at]at ho;rw[ho]at h;cases h
    |some o=>simp only[AH.at]at ho;rw[ho]at h;cases h;exact⟨r,o,rfl,ho,rfl⟩
 have hs0:Sim E0 w H0:=by
  refine⟨hs.os,hs.tape,hs.output,λb o hb=>?_,λb o hb=>?_,λi x hi=>?_,λi o0 ho=>?_,λi i' o1 o2 x1 x2 h1 h2 h3 h4 hb=>?_⟩
  ·rcases hb with hb|hb
   ·exact hs.frz b o (.inl hb)
   ·by_cases hob:other b
    ·rw[hXo b hob]at hb;exact hb
    ·rw[hX0 b hob]at hb;exact hs.frz b o (.inr hb)
  ·by_cases hob:other b
   ·obtain⟨r,o',x,hr',ho',hx,rfl⟩:=hob
    have:=(Fq hs ho' hx).out.1
    change E.F x.b=some o at hb
    rw[this]at hb;cases hb
   ·rw[hX0 b hob];exact hs.disj b o hb
  ·simp only[E0]at hi;cases hri:rs[i]? with
   |none=>rw[hri]at hi;cases hi
   |some r=>
     rcases e7h i rs.length with h'|h'
     ·simpa [H0]using h'
     ·rw[e4j h']at hri;cases hri
  ·obtain⟨r,o,hri,hro,rfl⟩:=hat0 i o0 ho;rcases hs.obj r o hro with ⟨rfl,hn⟩|⟨x,hx,hl⟩
   ·exact .inl ⟨rfl,by simp only[E0,hri,e5y,hn]⟩
   ·refine .inr ⟨x,by simp only[E0,hri,e5y,hx],Lies.ren (E:=E) (E0:=E0) (λ_ _ h=>h) hτ hl ⟨hl.out.1,?_⟩ rfl⟩;rw[hX0 x.b ?_]
    ·exact hl.out.2
    ·rintro⟨r',o',x',hr',ho',hx',hb'⟩
     have:=hs.inj r' r o' o x' x ho' hro hx' hx hb';subst this;exact hr' (e4q hri)
  ·obtain⟨r,o,hri,hro,rfl⟩:=hat0 i o1 h1;obtain⟨r',o',hri',hro',rfl⟩:=hat0 i' o2 h2;simp only[E0,hri,e5y]at h3;simp only[E0,hri',e5y]at h4
   have:=hs.inj r r' o o' x1 x2 hro hro' h3 h4 hb;subst this;have e1:=K9 hndr hri;have e2:=K9 hndr hri';rw[e1]at e2;cases e2;rfl
 refine⟨E0,hs0,λxs vs hr=>?_,λE1 w' H1 hle hs1 hlen=>?_⟩
 ·rw[Jj];refine⟨by simpa using hr.1,λi c u hc hu=>?_⟩;rw[e5j]at hc;cases hci:xs[i]? with
  |none=>rw[hci]at hc;cases hc
  |some c'=>rw[hci]at hc;cases hc;exact X5 (E:=E) (E0:=E0) (λ_ _ h=>h) hτ (hr.2 i c' u hci hu)
 have hfull:Le E0 E1:=hle.full hs0 (by simp[H0]);generalize hall:rs++nw=all at *;let ρ':Nat->Option Own:=λr=>match Aw all r with
  |some i=>E1.ρ i
  |none=>E.ρ r
 let E':Env:={ F:=E1.F,X:=E.X,ρ:=ρ',os:=E.os,tape:=E.tape,output:=E.output };have hσ:∀ i r' y,Au all i=some r'->E1.ρ i=some y->E'.ρ r'=some y:=by
  intro i r' y h1 h2;simp only[E',ρ',K9 hnd h1,h2]
 have hF1:∀ b o,E1.F b=some o->E'.F b=some o:=λ_ _ h=>h;have hin:∀ r i,Aw all r=some i->(r∈rs/\Aw rs r=some i)\/(r∈nw/\rs.length<=i):=by
  intro r i hc;have hri:=Jf hc;rw[<-hall]at hri;rcases e7h i rs.length with h'|h'
  ·rw[List.getElem?_append_left h']at hri;exact .inl ⟨e4q hri,K9 hndr hri⟩
  ·rw[e40 h']at hri;exact .inr ⟨e4q hri,h'⟩
 have hEE':Le E E':=by
  refine⟨λb o hb=>hfull.F b o hb,λr y hy=>?_,rfl,rfl,rfl,rfl⟩;cases hc:Aw all r with
  |some i=>
    rcases hin r i hc with ⟨_,hc'⟩|⟨hr',_⟩
    ·obtain⟨y',hy',h⟩:=hfull.ρ i y (hτ r i y hc' hy);exact⟨y',by simp only[E',ρ',hc];exact hy',h⟩
    ·rw[hfree r hr']at hy;cases hy
  |none=>exact⟨y,by simp only[E',ρ',hc];exact hy,.inl rfl⟩
 have hkeep:∀ r o y,r∉rs->H.at r=some o->E.ρ r=some y->w'.heap[y.b]?=w.heap[y.b]?/\E1.F y.b=none:=by
  intro r o y hr' ho hy;have hob:other y.b:=⟨r,o,y,hr',ho,hy,rfl⟩;have h1:=hXo y.b hob;obtain⟨cells,t,q,hb,_⟩:=(Fq hs ho hy).blk;rw[hb]at h1;have h2:E1.X y.b=some (.cells cells t q):=by rw[hfull.X];exact h1
  refine⟨(hs1.frz _ _ (.inr h2)).trans hb.symm,?_⟩;cases hF:E1.F y.b with
  |none=>rfl
  |some o'=>have:=hs1.disj _ _ hF;rw[h2]at this;cases this
 have hnot:∀ r,r∉all->r∉rs:=λr h h'=>h (by rw[<-hall];exact e4t _ h');have hat:∀ r o,AH.at (C3 H all (H1.map λo=>o.map (renO (Au all)))) r=some o->(∃ i o1,Au all i=some r/\H1.at i=some o1/\o=renO (Au all) o1)\/(r∉all/\H.at r=some o):=by
  intro r o h;unfold AH.at at h;cases hc:Aw all r with
  |none=>
    have hnr:=b8h hc;rw[Zw all _ _ r hnr]at h;exact .inr ⟨hnr,h⟩
  |some i=>
    have hri:=Jf hc;have hil:i<all.length:=by
     rcases e7h i all.length with h'|h'
     ·exact h'
     ·rw[e4j h']at hri;cases hri
    rw[ax6 all _ _ i r hnd hri (by simp;omega) (hlt r (e4q hri)),e5j]at h;left;cases h1:H1[i]? with
    |none=>rw[h1]at h;cases h
    |some oo=>
      rw[h1]at h;simp only[e6h,Option.join_some]at h;cases oo with
      |none=>cases h
      |some o1=>cases h;exact⟨i,o1,hri,by unfold AH.at;rw[h1];rfl,rfl⟩
 have hinv:∀ i r y,Au all i=some r->E'.ρ r=some y->E1.ρ i=some y:=by
  intro i r y h1 h2;simp only[E',ρ',K9 hnd h1]at h2;exact h2
 have hold:∀ r,r∉all->E'.ρ r=E.ρ r:=by
  intro r h1;have hno:Aw all r=none:=by
   cases hc:Aw all r with
   |none=>rfl
   |some j=>exact absurd (e4q (Jf hc)) h1
  simp only[E',ρ',hno]
 have hXn:∀ b,E0.X b=none->E.X b=none:=by
  intro b this;simp only[E0]at this;split at this
  ·cases this
  ·assumption
 refine⟨E',hEE',?_,λx v hx=>X5 hF1 hσ hx,hold⟩;refine⟨hs1.os.trans hfull.os,hs1.tape.trans hfull.tape,hs1.output.trans hfull.output,λb o hb=>?_,λb o hb=>?_,λr y hy=>?_,λr o ho=>?_,λr r' o o' y y' h1 h2 h3 h4 hb=>?_⟩
 ·rcases hb with hb|hb
  ·exact hs1.frz b o (.inl hb)
  ·have:E0.X b=some o:=by
    change E.X b=some o at hb
    simp only[E0,hb]
   exact hs1.frz b o (.inr (by rw[hfull.X];exact this))
 ·have:=hs1.disj b o hb;rw[hfull.X]at this;exact hXn b this
 ·rw[Wy];cases hc:Aw all r with
  |some i=>exact hlt r (e4q (Jf hc))
  |none=>simp only[E',ρ',hc]at hy;exact hs.dom r y hy
 ·rcases hat r o ho with ⟨i,o1,hi,h1,rfl⟩|⟨hnr,h1⟩
  ·rcases hs1.obj i o1 h1 with ⟨rfl,hn⟩|⟨y,hy,hl⟩
   ·left;refine⟨rfl,?_⟩;cases hy:E'.ρ r with
    |none=>rfl
    |some y=>have:=hinv i r y hi hy;rw[hn]at this;cases this
   ·right;refine⟨y,hσ i r y hi hy,hl.ren (E0:=E') hF1 hσ ⟨hl.out.1,?_⟩ rfl⟩
    have:=hl.out.2;rw[hfull.X]at this;exact hXn _ this
  ·rcases hs.obj r o h1 with ⟨rfl,hn⟩|⟨y,hy,hl⟩
   ·exact .inl ⟨rfl,(hold r hnr).trans hn⟩
   ·right;obtain⟨k1,k2⟩:=hkeep r o y (hnot r hnr) h1 hy;exact⟨y,(hold r hnr).trans hy,hl.mono hEE' ⟨k2,hl.out.2⟩ k1⟩
 ·have cross:∀ i o1 r y r2 o2 y2,Au all i=some r->H1.at i=some o1->E'.ρ r=some y->r2∉all->H.at r2=some o2->E'.ρ r2=some y2->y.b≠y2.b:=by
   intro i o1 r y r2 o2 y2 a1 a2 a3 b1 b3 b4 hbb;have hy1:=hinv i r y a1 a3;have hy2:=(hold r2 b1).symm.trans b4;have hob:other y2.b:=⟨r2,o2,y2,hnot r2 b1,b3,hy2,rfl⟩;obtain⟨cells,t,q,hblk,_⟩:=(Fq hs b3 hy2).blk;have h2:E1.X y2.b=some (.cells cells t q):=by rw[hfull.X,hXo _ hob];exact hblk
   have:=(Fq hs1 a2 hy1).out.2;rw[hbb,h2]at this;cases this
  rcases hat r o h1 with ⟨i,o1,hi,hi1,rfl⟩|⟨hnr,hh1⟩<;>rcases hat r' o' h2 with ⟨i',o1',hi',hi1',rfl⟩|⟨hnr',hh1'⟩
  ·have:=hs1.inj i i' o1 o1' y y' hi1 hi1' (hinv i r y hi h3) (hinv i' r' y' hi' h4) hb;subst this;rw[hi]at hi';cases hi';rfl
  ·exact absurd hb (cross i o1 r y r' o' y' hi hi1 h3 hnr' hh1' h4)
  ·exact absurd hb.symm (cross i' o1' r' y' r o y hi' hi1' h4 hnr hh1 h3)
  ·exact hs.inj r r' o o' y y' hh1 hh1' ((hold r hnr).symm.trans h3) ((hold r' hnr').symm.trans h4) hb
mutual
def Ab:AV->Bool
 |.own .. =>false
 |.ptr .. =>false
 |.agg cs=>Aa cs
 |.tuple cs=>Aa cs
 |.fn _ first cap=>Aa first&&Aa cap
 |_=>true
def Aa:List AV->Bool
 |[]=>true
 |x::xs=>Ab x&&Aa xs
end
mutual
theorem Ji(τ:Nat->Option Nat):∀ x:AV,Ab x=true->ren τ x=x
 |.own ..,h=>by simp[Ab]at h
 |.ptr ..,h=>by simp[Ab]at h
 |.agg cs,h=>by simp only[Ab]at h;simp only[ren,Hw τ cs h]
 |.tuple cs,h=>by simp only[Ab]at h;simp only[ren,Hw τ cs h]
 |.fn f first cap,h=>by
   simp only[Ab,e5v]at h;simp only[ren,Hw τ first h.1,Hw τ cap h.2]
 |.top,_=>by simp[ren]
 |.bool _,_=>by simp[ren]
 |.int _ _,_=>by simp[ren]
 |.str _,_=>by simp[ren]
 |.nilp,_=>by simp[ren]
 |.emp,_=>by simp[ren]
 |.fz _,_=>by simp[ren]
 |.fptr _,_=>by simp[ren]
 |.nilfn,_=>by simp[ren]
theorem Hw(τ:Nat->Option Nat):∀ xs:List AV,Aa xs=true->Bw τ xs=xs
 |[],_=>by simp[Bw]
 |x::xs,h=>by
   simp only[Aa,e5v]at h;simp only[Bw,Ji τ x h.1,Hw τ xs h.2]
end
theorem N3(k:IntKind)(n:Int):Ab (.int k n)=true:=by simp[Ab]
theorem N7(b:Bool):Ab (.bool b)=true:=by simp[Ab]
theorem N2(s:List UInt8):Ab (.str s)=true:=by simp[Ab]
theorem N4(es:List (List PV)):Ab (.fz es)=true:=by simp[Ab]
theorem N5(cs:List PV):Ab (.fptr cs)=true:=by simp[Ab]
theorem N6:Ab .emp=true:=by simp[Ab]
theorem N1:Ab .top=true:=by simp[Ab]
theorem an5(p:PV):Ab (emb p)=true:=by cases p<;>simp[emb,Ab]
theorem N8(cs:List AV):Ab (.agg cs)=Aa cs:=by simp[Ab]
end
section
inductive Loc where
 |slot (t:Nat)
 |len (r:Nat)
 |con (r:Nat)
 deriving DecidableEq
inductive Look where
 |av (x:Option AV)
 |len (n:Option Nat)
 |con (o:Option AObj) (f:Bool)
structure St where
 fr:List AV
 H:AH
 free:Nat->Bool
def St.look(σ:St):Loc->Look
 |.slot t=>.av σ.fr[t]?
 |.len r=>.len ((σ.H.at r).map List.length)
 |.con r=>.con (σ.H.at r) (σ.free r)
structure Tr where
 R:List Loc
 W:List Loc
 d:Option Nat
 v:AV
 rs:List Nat
 os:List (Option AObj)
def Tr.app(τ:Tr)(σ:St):St:=⟨Aq σ.fr τ.d τ.v,C3 σ.H τ.rs τ.os,λr=>σ.free r&&!τ.rs.contains r⟩
structure Agree(R:List Loc)(σ σ':St):Prop where
 fr:σ.fr.length=σ'.fr.length
 H:σ.H.length=σ'.H.length
 on:∀ l∈R,σ.look l=σ'.look l
theorem Agree.refl(R:List Loc)(σ:St):Agree R σ σ:=⟨rfl,rfl,λ_ _=>rfl⟩
theorem Agree.trans{R:List Loc}{a b c:St}(h:Agree R a b)(h':Agree R b c):Agree R a c:=⟨h.fr.trans h'.fr,h.H.trans h'.H,λl hl=>(h.on l hl).trans (h'.on l hl)⟩
theorem Agree.symm{R:List Loc}{a b:St}(h:Agree R a b):Agree R b a:=⟨h.fr.symm,h.H.symm,λl hl=>(h.on l hl).symm⟩
structure Rl(E:Env)(w:World)(a:Act)(σ:St):Prop where
 sim:Sim E w σ.H
 rep:RepL E σ.fr a.tmps
 defers:a.defers=[]
 free:∀ r,σ.free r=true->E.ρ r=none
section
variable {P:Program} {n0:Nat}
structure Does(P:Program)(n0:Nat)(E0:Env)(ops:Array Oper)(QQ:Exit->Act->World->Prop)(i:Nat)(τ:Tr)(σ0:St):Prop where
 snd:∀ σ,Agree τ.R σ σ0->∀ (E:Env) (w:World) (a:Act) (next:Act->World->Prop),LeN n0 E0 E->Rl E w a σ->(∀ E' a' w',LeN n0 E0 E'->Rl E' w' a' (τ.app σ)->next a' w')->wpOp P ops QQ i next a w
 wf:∀ σ,Agree τ.R σ σ0->∀ l,l∉τ.W->(τ.app σ).look l=σ.look l
 wd:∀ t,τ.d=some t->.slot t∈τ.W
 wr:∀ r∈τ.rs,.con r∈τ.W
structure DoesF(P:Program)(n0:Nat)(E0:Env)(ops:Array Oper)(QQ:Exit->Act->World->Prop)(i:Nat)(T:Tr)(F:Tr->Prop)(σ0:St):Prop where
 snd:∀ σ,Agree T.R σ σ0->∀ (E:Env) (w:World) (a:Act) (next:Act->World->Prop),LeN n0 E0 E->Rl E w a σ->(∀ τ E' a' w',F τ->LeN n0 E0 E'->Rl E' w' a' (τ.app σ)->next a' w')->wpOp P ops QQ i next a w
 shape:∀ τ,F τ->τ.R=T.R/\τ.W=T.W/\τ.d=T.d/\τ.rs=T.rs
 wf:∀ τ,F τ->∀ σ l,l∉T.W->(τ.app σ).look l=σ.look l
 wd:∀ t,T.d=some t->.slot t∈T.W
 wr:∀ r∈T.rs,.con r∈T.W
theorem a6c(τ:Tr)(σ:St):(τ.app σ).fr.length=σ.fr.length:=ax7 _ _ _
theorem a6d(τ:Tr)(σ:St):(τ.app σ).H.length=σ.H.length:=Wy _ _ _
theorem Does.agree{E0:Env}{ops:Array Oper}{QQ:Exit->Act->World->Prop}{i:Nat}{τ:Tr}{σ σ':St}(h:Does P n0 E0 ops QQ i τ σ)(ha:Agree τ.R σ' σ):Does P n0 E0 ops QQ i τ σ' :=
 ⟨λρ hρ=>h.snd ρ (hρ.trans ha),λρ hρ=>h.wf ρ (hρ.trans ha),h.wd,h.wr⟩
structure Indep(a b:Tr):Prop where
 wr:∀ l∈a.W,l∉b.R
 ww:∀ l∈a.W,l∉b.W
 rw:∀ l∈b.W,l∉a.R
def Chain(P:Program)(n0:Nat)(E0:Env)(ops:Array Oper)(QQ:Exit->Act->World->Prop):List (Nat×Tr)->St->St->Prop
 |[],σ,σe=>σ=σe
 |(i,τ)::l,σ,σe=>Does P n0 E0 ops QQ i τ σ/\Chain P n0 E0 ops QQ l (τ.app σ) σe
theorem d1t(H:AH):∀ (rs rs':List Nat) (os os':List (Option AObj)),(∀ r∈rs,r∉rs')->C3 (C3 H rs os) rs' os'=C3 (C3 H rs' os') rs os:=by
 have one:∀ (rs:List Nat) (os:List (Option AObj)) (H:AH) (r:Nat) (o:Option AObj),r∉rs->C3 (H.set r o) rs os=(C3 H rs os).set r o:=by
  intro rs
  induction rs with
  |nil=>intro os H r o _;cases os<;>rfl
  |cons s rs ih=>
    intro os H r o hr;simp only[e79,not_or]at hr;cases os with
    |nil=>rfl
    |cons p os=>rw[C3,C3,List.set_comm _ _ hr.1,ih os _ r o hr.2]
 intro rs
 induction rs generalizing H with
 |nil=>intro rs' os os' _;cases os<;>rfl
 |cons s rs ih=>
   intro rs' os os' h;cases os with
   |nil=>rfl
   |cons p os=>
     rw[C3,C3,ih _ rs' os os' (λr hr=>h r (by simp[hr])),one rs' os' H s p (h s (by simp))]
theorem c9y{a b:Tr}{σ:St}(hd:∀ t,a.d=some t->b.d≠some t)(hr:∀ r∈a.rs,r∉b.rs):b.app (a.app σ)=a.app (b.app σ):=by
 unfold Tr.app;simp only[St.mk.injEq];refine⟨?_,d1t _ _ _ _ _ hr,?_⟩
 ·cases ha:a.d with
  |none=>rfl
  |some t=>
    cases hb:b.d with
    |none=>rfl
    |some u=>
      simp only[Aq];exact List.set_comm _ _ (λe=>hd t ha (by rw[hb,e]))
 ·funext r;cases σ.free r<;>cases a.rs.contains r<;>cases b.rs.contains r<;>rfl
theorem swap{E0:Env}{ops:Array Oper}{QQ:Exit->Act->World->Prop}{i j:Nat}{a b:Tr}{σ:St}(ha:Does P n0 E0 ops QQ i a σ)(hb:Does P n0 E0 ops QQ j b (a.app σ))(hi:Indep a b) :
 Does P n0 E0 ops QQ j b σ/\Does P n0 E0 ops QQ i a (b.app σ)/\b.app (a.app σ)=a.app (b.app σ):=by
 have h1:Agree b.R σ (a.app σ):=⟨(a6c a σ).symm,(a6d a σ).symm,λl hl=>(ha.wf σ (Agree.refl _ _) l (λhw=>hi.wr l hw hl)).symm⟩;have hb':=hb.agree h1;have h2:Agree a.R (b.app σ) σ:=⟨a6c b σ,a6d b σ,λl hl=>hb'.wf σ (Agree.refl _ _) l (λhw=>hi.rw l hw hl)⟩;exact⟨hb',ha.agree h2,c9y (λt h h'=>hi.ww _ (ha.wd t h) (hb.wd t h')) (λr h h'=>hi.ww _ (ha.wr r h) (hb.wr r h'))⟩
theorem c88{E0:Env}{ops:Array Oper}{QQ:Exit->Act->World->Prop}{i:Nat}{T τ:Tr}{F:Tr->Prop}{σ1 σx:St}(hF:DoesF P n0 E0 ops QQ i T F σx)(hτ:F τ):∀ (ds:List (Nat×Tr)) (σ:St),Chain P n0 E0 ops QQ ds σ σ1->
 (∀ x∈ds,Indep x.2 T)->Agree T.R σ σ1/\Chain P n0 E0 ops QQ ds (τ.app σ) (τ.app σ1)
 |[],σ,h,_=>by
   simp only[Chain]at h;subst h;exact⟨Agree.refl _ _,rfl⟩
 |(j,a)::ds,σ,h,hi=>by
   obtain⟨h1,h2⟩:=h;have hia:=hi (j,a) (by simp);obtain⟨h3,h4⟩:=c88 hF hτ ds _ h2 (λx hx=>hi x (by simp[hx]));obtain⟨s1,s2,s3,s4⟩:=hF.shape τ hτ;have g1:Agree T.R σ (a.app σ):=⟨(a6c a σ).symm,(a6d a σ).symm,λl hl=>(h1.wf σ (Agree.refl _ _) l (λhw=>hia.wr l hw hl)).symm⟩;have g2:Agree a.R (τ.app σ) σ:=⟨a6c τ σ,a6d τ σ,λl hl=>hF.wf τ hτ σ l (λhw=>hia.rw l hw hl)⟩;have g3:τ.app (a.app σ)=a.app (τ.app σ):=c9y (λt ht ht'=>hia.ww _ (h1.wd t ht) (hF.wd t (by rw[<-s3];exact ht'))) (λr hr hr'=>hia.ww _ (h1.wr r hr) (hF.wr r (by rw[<-s4];exact hr')));refine⟨g1.trans h3,h1.agree g2,?_⟩;rw[<-g3];exact h4
theorem c87{E0:Env}{ops:Array Oper}{QQ:Exit->Act->World->Prop}{σ1 σ2:St}{es:List (Nat×Tr)}:∀ (ds:List (Nat×Tr)) (σ:St),Chain P n0 E0 ops QQ ds σ σ1->Chain P n0 E0 ops QQ es σ1 σ2->Chain P n0 E0 ops QQ (ds++es) σ σ2
 |[],σ,h,h'=>by
   simp only[Chain]at h;subst h;exact h'
 |(j,a)::ds,σ,h,h'=>⟨h.1,c87 ds _ h.2 h'⟩
theorem bl5{E0:Env}{ops:Array Oper}{QQ:Exit->Act->World->Prop}{i:Nat}{τ:Tr}{post:List (Nat×Tr)}{σe:St}:∀ (pre:List (Nat×Tr)) (σ:St),Chain P n0 E0 ops QQ (pre++(i,τ)::post) σ σe->
 (∀ x∈pre,Indep x.2 τ)->Does P n0 E0 ops QQ i τ σ/\Chain P n0 E0 ops QQ (pre++post) (τ.app σ) σe
 |[],σ,h,_=>h
 |(j,a)::pre,σ,h,hi=>by
   obtain⟨h1,h2⟩:=h;obtain⟨h3,h4⟩:=bl5 pre _ h2 (λx hx=>hi x (by simp[hx]));obtain⟨g1,g2,g3⟩:=swap h1 h3 (hi (j,a) (by simp));refine⟨g1,g2,?_⟩;rw[<-g3];exact h4
def anT(tab:List (List Nat))(j i:Nat):Bool:=(tab.getD j []).contains i
theorem b8z{ops:Array Oper}{tab:List (List Nat)}(ht:Wu ops tab=true){listed:Array Bool}
 (hcl:∀ (j:Nat) (o:Oper),ops[j]?=some o->listed.getD j false=true->∀ e∈o.after,Region.binds .any e=true->listed.getD e.on false=true) :
 ∀ (j i:Nat),anT tab j i=true->(listed.getD j false=true\/∃ o,ops[j]?=some o/\∀ e∈o.after,Region.binds .any e=true->listed.getD e.on false=true)->listed.getD i false=true:=by
 unfold Wu at ht;simp only[e5v,e5h]at ht;intro j
 induction j using Nat.strongRecOn with
 |ind j ih=>
   intro i hi hj;have hjl:j<ops.size:=by
    rcases e7h j tab.length with h|h
    ·omega
    ·unfold anT at hi;rw[e42,e4j h]at hi;simp at hi
   have ho:=e44 hjl;have h2:=e5x.1 ht.2 j (e6x.2 hjl);simp only[ho,e5v]at h2;have h3:=e5x.1 h2.2 i (by simpa [anT]using hi);obtain⟨e,he,hb⟩:=Array.any_eq_true'.1 h3;simp only[e5v,e6n,beq_iff_eq]at hb;have hlt:e.on<j:=by
    have:=Array.all_eq_true_iff_forall_mem.1 h2.1 e he;simpa [hb.1]using this
   have hle:listed.getD e.on false=true:=by
    rcases hj with hj|⟨o,ho',hj⟩
    ·exact hcl j _ ho hj e he hb.1
    ·rw[ho]at ho';cases ho';exact hj e he hb.1
   rcases hb.2 with h'|h'
   ·rw[<-h'];exact hle
   ·exact ih e.on hlt i h' (.inl hle)
end
end
section
def Ds:AV->List Loc
 |.own r _ _ _ _=>[.len r]
 |.ptr r _ _ _=>[.len r]
 |_=>[]
def Fz:AV->List Loc
 |.own r _ _ _ _=>[.con r]
 |.ptr r _ _ _=>[.con r]
 |_=>[]
def Gq(op:AOp)(ev:Opd->AV):List Loc:=
 match op with
 |.load _ _ x=>Fz (ev x)
 |.convbs x=>Fz (ev x)
 |.nilchk x=>Ds (ev x)
 |.faddr _ x=>Ds (ev x)
 |.len _ x=>Ds (ev x)
 |.slicel _ x _ _=>Ds (ev x)
 |.slicez x=>Ds (ev x)
 |.slice3 x _ _ _=>Ds (ev x)
 |.iaddr _ x _=>Ds (ev x)
 |.iaddra _ _ x _=>Ds (ev x)
 |_=>[]
theorem V5{H H2:AH}{r:Nat}(h:(H.at r).map List.length=(H2.at r).map List.length)(tot:Nat){α:Type}(c:α):(Am H r tot).map (λ_=>c)=(Am H2 r tot).map (λ_=>c):=by
 unfold Am;cases h1:H.at r with
 |none=>
   cases h2:H2.at r with
   |none=>rfl
   |some o=>rw[h1,h2]at h;cases h
 |some o=>
   cases h2:H2.at r with
   |none=>rw[h1,h2]at h;cases h
   |some o' =>
     rw[h1,h2]at h;simp only[e6h,e5i]at h;simp only[h];split<;>rfl
theorem bv4{H H2:AH}{r:Nat}(h:(H.at r).map List.length=(H2.at r).map List.length){tot:Nat}:(∃ o,Am H r tot=some o)->∃ o,Am H2 r tot=some o:=by
 rintro⟨o,ho⟩
 have:=V5 h tot ();rw[ho]at this;cases h2:Am H2 r tot with
 |none=>rw[h2]at this;cases this
 |some o'=>exact⟨o',rfl⟩
theorem a4a{H H2:AH}{r:Nat}(h:H.at r=H2.at r)(tot:Nat):Am H r tot=Am H2 r tot:=by unfold Am;rw[h]
theorem e2u{op:AOp}{ev:Opd->AV}{H H2:AH}{v:AV}(hl:∀ r,.len r∈Gq op ev->(H.at r).map List.length=(H2.at r).map List.length)(hc:∀ r,.con r∈Gq op ev->H.at r=H2.at r)
 (h:Ar op ev H=some v):Ar op ev H2=some v:=by
 rw[<-h];cases op
 case load agg n x=>
  simp only[Ar];simp only[Gq]at hc;cases hx:ev x<;>simp only[Jl];rw[hx]at hc;rw[a4a (hc _ (by simp[Fz])).symm]
 case convbs x=>
  simp only[Ar];simp only[Gq]at hc;cases hx:ev x<;>simp only[G5];rw[hx]at hc;rw[a4a (hc _ (by simp[Fz])).symm]
 case nilchk x=>
  simp only[Ar];simp only[Gq]at hl;cases hx:ev x<;>simp only[];rw[hx]at hl;exact V5 (hl _ (by simp[Ds])).symm _ _
 case faddr off x=>
  simp only[Ar];simp only[Gq]at hl;cases hx:ev x<;>simp only[];rw[hx]at hl;exact V5 (hl _ (by simp[Ds])).symm _ _
 case len str x=>
  simp only[Gq]at hl;cases str<;>simp only[Ar];cases hx:ev x<;>simp only[];rw[hx]at hl;exact V5 (hl _ (by simp[Ds])).symm _ _
 case slicel sz x lo hi=>
  simp only[Ar];simp only[Gq]at hl;cases hx:ev x<;>simp only[];rw[hx]at hl;rename_i r sz' off len tot;have hl':=hl r (by simp[Ds]);cases h1:Am H r tot with
  |none=>
    cases h2:Am H2 r tot with
    |none=>rfl
    |some o=>obtain⟨o',ho'⟩:=bv4 hl'.symm ⟨o,h2⟩;rw[h1]at ho';cases ho'
  |some o=>
    obtain⟨o',ho'⟩:=bv4 hl' ⟨o,h1⟩;rw[ho']
 case slicez x=>
  simp only[Ar];simp only[Gq]at hl;cases hx:ev x<;>simp only[];rw[hx]at hl;exact V5 (hl _ (by simp[Ds])).symm _ _
 case slice3 x lo hi mx=>
  simp only[Ar];simp only[Gq]at hl;have:X4 H (ev x)=X4 H2 (ev x):=by
   cases hx:ev x<;>simp only[X4];rw[hx]at hl;exact V5 (hl _ (by simp[Ds])) _ _
  rw[this]
 case iaddr sz x i=>
  simp only[Gq]at hl;simp only[Ar];generalize ev i=y at *;cases hx:ev x with
  |own r a b c e=>
    rw[hx]at hl;have hl':=hl r (by simp[Ds]);cases y<;>first|rfl|(simp only[];rw[V5 hl'.symm])
  |_=>cases y<;>rfl
 case iaddra len sz x i=>
  simp only[Gq]at hl;simp only[Ar];generalize ev i=y at *;cases hx:ev x with
  |ptr r a b c=>
    rw[hx]at hl;have hl':=hl r (by simp[Ds]);cases y<;>first|rfl|(simp only[];rw[V5 hl'.symm])
  |_=>cases y<;>rfl
 all_goals rfl
section
variable {P:Program} {n0:Nat}
theorem Rz{σ σ':St}{r:Nat}(h:σ.look (.con r)=σ'.look (.con r)):σ.H.at r=σ'.H.at r/\σ.free r=σ'.free r:=by
 simpa [St.look]using h
theorem d6p{σ σ':St}{r:Nat}(h:σ.look (.len r)=σ'.look (.len r)):(σ.H.at r).map List.length=(σ'.H.at r).map List.length:=by
 simpa [St.look]using h
theorem bu9{σ σ':St}{t:Nat}(h:σ.look (.slot t)=σ'.look (.slot t)):σ.fr[t]?=σ'.fr[t]?:=by
 simpa [St.look]using h
theorem T2{τ:Tr}{σ:St}{l:Loc}(hd:∀ t,τ.d=some t->l≠.slot t)(hr:∀ r∈τ.rs,l≠.con r/\l≠.len r):(τ.app σ).look l=σ.look l:=by
 cases l with
 |slot t=>
   simp only[St.look,Tr.app];rw[a3e (λh=>hd t h rfl)]
 |len r=>
   simp only[St.look,Tr.app,AH.at];rw[Zw _ _ _ _ (λh=>(hr r h).2 rfl)]
 |con r=>
   have hn:r∉τ.rs:=λh=>(hr r h).1 rfl;simp only[St.look,Tr.app,AH.at];rw[Zw _ _ _ _ hn];have:τ.rs.contains r=false:=(by simpa using hn);rw[this];simp
theorem R9{ops:Array Oper}{i:Nat}{o:Oper}{A6:AInstr}{QQ:Exit->Act->World->Prop}{next:Act->World->Prop}{E:Env}{w:World}{a:Act}{σ:St}(ho:ops[i]?=some o)(hf:fitI P ops A6 o=true)(rl:Rl E w a σ)
 (hg:∀ g want,A6.guard=some (g,want)->σ.fr[g]?=some (.bool want)) (h:o.wp P a w next QQ):wpOp P ops QQ i next a w:=by
 have hgf:J4 ops A6.guard o.guard=true:=by
  unfold fitI at hf;rw[e5v,e5v]at hf;exact hf.1.2
 unfold wpOp;rw[ho];simp only[];cases hig:A6.guard with
 |none=>
   rw[hig]at hgf;cases hog:o.guard with
   |some g=>rw[hog]at hgf;simp[J4]at hgf
   |none=>
     rw[if_pos (by simp[Region.wanted,hog])];exact .inl h
 |some g=>
   obtain⟨s,want⟩:=g;have hs:=hg s want hig;rw[hig]at hgf;cases hog:o.guard with
   |none=>rw[hog]at hgf;simp[J4]at hgf
   |some g' =>
     obtain⟨j,want'⟩:=g';rw[hog]at hgf;simp only[J4,e5v,beq_iff_eq,e5h]at hgf;obtain⟨rfl,hj⟩:=hgf;have hy:yielded ops a.tmps j=some want:=a7c rl.rep hs hj;rw[if_pos (by simp[Region.wanted,hog,hy])];exact .inl h
theorem b4u{ops:Array Oper}{i:Nat}{o:Oper}{A6:AInstr}{QQ:Exit->Act->World->Prop}{next:Act->World->Prop}{E:Env}{w:World}{a:Act}{σ:St}{g:Nat}{want:Bool}(ho:ops[i]?=some o)(hf:fitI P ops A6 o=true)(rl:Rl E w a σ)
 (hig:A6.guard=some (g,want)) (hs:(∃ b,σ.fr[g]?=some (.bool b)/\b≠want)\/σ.fr[g]?=some (.tuple [])) (h:next (a.put o.dst undef) w):wpOp P ops QQ i next a w:=by
 have hgf:J4 ops A6.guard o.guard=true:=by
  unfold fitI at hf;rw[e5v,e5v]at hf;exact hf.1.2
 unfold wpOp;rw[ho];simp only[];rw[hig]at hgf;cases hog:o.guard with
 |none=>rw[hog]at hgf;simp[J4]at hgf
 |some g' =>
   obtain⟨j,want'⟩:=g';rw[hog]at hgf;simp only[J4,e5v,beq_iff_eq,e5h]at hgf;obtain⟨rfl,hj⟩:=hgf;have hw:Region.wanted o (yielded ops a.tmps)=false:=by
    rcases hs with ⟨b,hb,hne⟩|hb
    ·have hy:yielded ops a.tmps j=some b:=a7c rl.rep hb hj;simp only[Region.wanted,hog,hy];cases b<;>cases want<;>first|rfl|exact absurd rfl hne
    ·have hy:yielded ops a.tmps j=none:=ar8 rl.rep hb hj;simp only[Region.wanted,hog,hy];rfl
   rw[if_neg (by rw[hw];simp)];exact h
theorem S8{ops:Array Oper}{A6:AInstr}{o:Oper}(hf:fitI P ops A6 o=true):A6.dst=o.dst:=by
 unfold fitI at hf;rw[e5v,e5v]at hf;simpa using hf.1.1
def Nd(fr:List AV)(g:Option (Nat×Bool)):Prop:=∀ s want,g=some (s,want)->fr[s]?=some (.bool want)
def Fa(A6:AInstr):List Loc:=(slotsI A6).map .slot
def C0(d:Option Nat):List Loc:=d.toList.map .slot
theorem Vt{A6:AInstr}{R:List Loc}{σ σ0:St}(h:Agree R σ σ0)(hR:∀ l∈Fa A6,l∈R):(∀ x∈Dm A6.op,evalA σ.fr x=evalA σ0.fr x)/\∀ s want,A6.guard=some (s,want)->σ.fr[s]?=σ0.fr[s]?:=by
 have hs:∀ t∈slotsI A6,σ.fr[t]?=σ0.fr[t]?:=λt ht=>bu9 (h.on _ (hR _ (e7o.2 ⟨t,ht,rfl⟩)));exact⟨c5w λt ht=>hs t (e4t _ ht),λs want hg=>hs s (e4o _ (by rw[hg];simp))⟩
theorem Does.skip{E0:Env}{ops:Array Oper}{QQ:Exit->Act->World->Prop}{i:Nat}{o:Oper}{A6:AInstr}{σ0:St}{g:Nat}{want:Bool}(ho:ops[i]?=some o)(hf:fitI P ops A6 o=true)(hig:A6.guard=some (g,want))
 (hs:(∃ b,σ0.fr[g]?=some (.bool b)/\b≠want)\/σ0.fr[g]?=some (.tuple [])):Does P n0 E0 ops QQ i ⟨[.slot g],C0 A6.dst,A6.dst,.tuple [],[],[]⟩ σ0:=by
 refine⟨λσ ha E w a next hle rl hk=>?_,λσ _ l hl=>?_,λt ht=>?_,λr hr=>by cases hr⟩
 ·have hfr:=bu9 (ha.on (.slot g) (by simp));refine b4u ho hf rl hig (by rw[hfr];exact hs) (hk E _ w hle ?_);refine⟨rl.sim,?_,J0 rl.defers _ _,λr hr=>rl.free r (by simpa [Tr.app]using hr)⟩;rw[<-S8 hf];exact Iz rl.rep (a8m E) _
 ·refine T2 (λt ht hlt=>hl ?_) (λr hr=>by cases hr);simp only at ht;rw[hlt];simp[C0,ht]
 ·simp only at ht;simp[C0,ht]
theorem dz5{ao:AOp}{o:Op}(h0:Bu P ao o=true)(ev:Opd->AV)(H:AH):Ar ao ev H=none:=by
 cases ao<;>first|rfl|(cases o<;>simp only[Bu,e52]at h0)
theorem ak9{ao:AOp}{o:Op}(h0:Ap P ao o=true)(ev:Opd->AV)(H:AH):Cc ao ev H=none:=by
 cases ao<;>first|rfl|(cases o<;>simp only[Ap,e52]at h0)
theorem ak8{ops:Array Oper}{A6:AInstr}{o:Oper}(hf:fitI P ops A6 o=true)(hop:(∃ ev H v,Ar A6.op ev H=some v)\/∃ ev H v,Cc A6.op ev H=some v):(Ap P A6.op o.op||Bu P A6.op o.op)=true:=by
 unfold fitI at hf;rw[e5v,e5v]at hf;have hf:=hf.2;obtain⟨d,g,op⟩:=A6;simp only at hop hf ⊢;cases op
 case call=>rcases hop with ⟨_,_,_,h⟩|⟨_,_,_,h⟩<;>cases h
 case calld=>rcases hop with ⟨_,_,_,h⟩|⟨_,_,_,h⟩<;>cases h
 case eqnil=>rcases hop with ⟨_,_,_,h⟩|⟨_,_,_,h⟩<;>cases h
 case bad=>rcases hop with ⟨_,_,_,h⟩|⟨_,_,_,h⟩<;>cases h
 all_goals
  revert hf
  cases o.op<;>intro hf<;>first|exact hf|(simp at hf;done)
theorem Does.val{E0:Env}{ops:Array Oper}{QQ:Exit->Act->World->Prop}{i:Nat}{o:Oper}{A6:AInstr}{σ0:St}{v:AV}(ho:ops[i]?=some o)(hf:fitI P ops A6 o=true)(hop:Nd σ0.fr A6.guard)
 (hv:Ar A6.op (evalA σ0.fr) σ0.H=some v):Does P n0 E0 ops QQ i ⟨Fa A6++Gq A6.op (evalA σ0.fr),C0 A6.dst,A6.dst,v,[],[]⟩ σ0:=by
 refine⟨λσ ha E w a next hle rl hk=>?_,λσ _ l hl=>?_,λt ht=>?_,λr hr=>by cases hr⟩
 ·obtain⟨hev,hgd⟩:=Vt (A6:=A6) ha (λl hl=>e4t _ hl);refine R9 ho hf rl (λg want hg=>by rw[hgd g want hg];exact hop g want hg) ?_;have hfp:=ak8 hf (.inl ⟨_,_,_,hv⟩);have hf0:Ap P A6.op o.op=true:=by
   rw[e6n]at hfp;rcases hfp with h|h
   ·exact h
   ·rw[dz5 h]at hv;cases hv
  have hv2:Ar A6.op (evalA σ0.fr) σ.H=some v:=e2u (λr hr=>(d6p (ha.on _ (e4o _ hr))).symm) (λr hr=>(Rz (ha.on _ (e4o _ hr))).1.symm) hv;have hv3:Ar A6.op (evalA σ.fr) σ.H=some v:=by
   have h1:=b3a (op:=A6.op) σ.H hev;rw[ca6 hv2]at h1;unfold D8 at h1;rw[ak9 hf0]at h1;cases h2:Ar A6.op (evalA σ.fr) σ.H with
   |none=>rw[h2]at h1;cases h1
   |some v'=>rw[h2]at h1;cases h1;rfl
  obtain⟨u,hrun,hx⟩:=bq2 hf0 E w σ.H σ.fr a v o rfl rl.sim rl.rep hv3;unfold Oper.wp;rw[hrun];refine hk E _ w hle ⟨rl.sim,?_,J0 rl.defers _ _,λr hr=>rl.free r (by simpa [Tr.app]using hr)⟩;rw[<-S8 hf];exact Iz rl.rep hx _
 ·refine T2 (λt ht hlt=>hl ?_) (λr hr=>by cases hr);simp only at ht;rw[hlt];simp[C0,ht]
 ·simp only at ht;simp[C0,ht]
theorem d4b{n:Nat}{p x:Opd}{o:Op}(hf:Bu P (.store n p x) o=true){E:Env}{w:World}{H:AH}{fr:List AV}{a:Act}{oper:Oper}(ho:oper.op=o)(hs:Sim E w H)(hr:RepL E fr a.tmps)
 {r i j tot:Nat} {cs e:List AV} {ob:AObj} (e1:evalA fr p=.ptr r i j tot) (hcs:cellsOf (evalA fr x)=some cs) (hl:Am H r tot=some ob) (he:ob[i]?=some e) (hok:cs.length=n/\j+n<=e.length/\cs.all cellA=true) :
 ∃ w' E',(execOp a.eval oper).run P w=.ok .skip w'/\Le E E'/\Sim E' w' (H.set r (some (ob.set i (lay e j cs))))/\∀ s,E.ρ s=none->E'.ρ s=none:=by
 cases o<;>simp only[Bu,e52,e5v]at hf;rename_i t p' x';obtain⟨⟨ht,h1⟩,h2⟩:=hf;have hp:=Bd hr h1;have hx:=Bd hr h2;obtain⟨it,hit,hn⟩:∃ i,P.info? t=some i/\i.size=n:=by
  split at ht
  ·exact⟨_,by assumption,by simpa using ht⟩
  ·cases ht
 rw[e1]at hp;obtain⟨hat,hlen,htt⟩:=G1 hs hl;obtain⟨hcl,hjn,hall⟩:=hok;obtain⟨y,hy,hpv⟩:=X6 hp htt;have hlies:=Fq hs hat hy;obtain⟨cells,te,q,hb,hcn,hq,hone,hrow⟩:=hlies.blk;have hc:=a63 hx hcs;have hil:i<ob.length:=by
  rcases e7h i ob.length with h'|h'
  ·exact h'
  ·rw[e4j h']at he;cases he
 have hel:=hlies.sz e (e4q he);have h3:=L7 (sz:=y.sz) hil;have hfit:=hlies.fits;have hcl':=hc.1;have hrun:=bb8 (P:=P) hit (w:=w) (off:=i*y.sz+j) hb (by rw[hcn];exact hq) (by rw[hn,hcn];omega) (a.eval x') (by rw[hn];omega) (a9b hc hall);obtain⟨hle,hsim⟩:=hs.write hat hy (o':=ob.set i (lay e j cs)) (splice cells (i*y.sz+j) (a.eval x').cells.toList) te q (by rw[Uk];exact hcn) hq (by simp)
  (by
   intro e' he';rcases List.mem_or_eq_of_mem_set he' with h'|h'
   ·exact hlies.sz e' h'
   ·rw[h',a9i _ _ _ om];exact hel)
  (by simpa using hfit) (Zr hone _ _ (a9b hc hall) (by simp;omega)) (Ce.lay hrow hlies.sz om he hc j om)
 refine⟨_,_,?_,hle,hsim,λs hs=>?_⟩
 ·simp only[execOp,ho,Instr.storeAt,hpv,Instr.sureAddr,e7i,e7j,Result.andThen,hrun]
 ·rw[Env.with_ne _ _ (λe=>by rw[e,hy]at hs;cases hs)];exact hs
theorem Does.store{E0:Env}{ops:Array Oper}{QQ:Exit->Act->World->Prop}{k:Nat}{o:Oper}{d:Option Nat}{gd:Option (Nat×Bool)}{n:Nat}{p x:Opd}{σ0:St}(ho:ops[k]?=some o)(hf:fitI P ops ⟨d,gd,.store n p x⟩ o=true)(hop:Nd σ0.fr gd)
 {r i j tot:Nat} {cs e:List AV} {ob:AObj} (e1:evalA σ0.fr p=.ptr r i j tot) (hcs:cellsOf (evalA σ0.fr x)=some cs) (hl:Am σ0.H r tot=some ob) (he:ob[i]?=some e) (hok:cs.length=n/\j+n<=e.length/\cs.all cellA=true) :
 Does P n0 E0 ops QQ k ⟨Fa ⟨d,gd,.store n p x⟩++[.con r],C0 d++[.con r],d,.top,[r],[some (ob.set i (lay e j cs))]⟩ σ0:=by
 refine⟨λσ ha E w a next hle rl hk=>?_,λσ ha l hl'=>?_,λt ht=>?_,λr' hr=>by simp at hr;simp[hr]⟩
 ·obtain⟨hev,hgd⟩:=Vt (A6:=⟨d,gd,.store n p x⟩) ha (λl hl=>e4t _ hl);have hcon:=Rz (ha.on (.con r) (by simp));refine R9 ho hf rl (λg want hg=>by rw[hgd g want hg];exact hop g want hg) ?_;have hf1:Bu P (.store n p x) o.op=true:=by
   have:=ak8 hf (.inr ⟨evalA σ0.fr,σ0.H,(.top,σ0.H.set r (some (ob.set i (lay e j cs)))),by simp only[Cc,e1,hcs,hl,he];rw[if_pos hok]⟩);rw[e6n]at this;rcases this with h|h
   ·have:=ak9 h (evalA σ0.fr) σ0.H;simp only[Cc,e1,hcs,hl,he]at this;rw[if_pos hok]at this;cases this
   ·exact h
  obtain⟨w',E',hrun,hle',hs',hn⟩:=d4b hf1 rfl rl.sim rl.rep (by rw[hev p (by simp[Dm]),e1]) (by rw[hev x (by simp[Dm]),hcs]) (by rw[a4a hcon.1];exact hl) he hok;unfold Oper.wp;rw[hrun];refine hk E' _ w' (hle.trans (hle'.toN n0)) ⟨hs',?_,J0 rl.defers _ _,λr' hr=>hn r' (rl.free r' ?_)⟩
  ·rw[<-S8 hf];exact Iz (rl.rep.mono hle') (.top _) _
  ·simp only[Tr.app,e5v]at hr;exact hr.1
 ·have hcon:=Rz (ha.on (.con r) (by simp));by_cases hlr:l=.len r
  ·subst hlr;simp only[St.look,Tr.app,C3];obtain⟨h1,h2⟩:σ0.H.at r=some ob/\True:=by
    unfold Am at hl;split at hl
    ·rename_i o' ho';split at hl
     ·cases hl;exact⟨ho',trivial⟩
     ·cases hl
    ·cases hl
   have h3:σ.H.at r=some ob:=hcon.1.trans h1;rw[a1y _ (Qx h3),h3];simp
  ·refine T2 (λt ht hlt=>hl' ?_) (λr' hr=>⟨λe=>hl' ?_,λe=>hlr ?_⟩)
   ·simp only at ht;rw[hlt];simp[C0,ht]
   ·simp at hr;rw[e,hr];simp
   ·simp at hr;rw[e,hr]
 ·simp only at ht;simp[C0,ht]
def O4:AOp->Bool
 |.alloc _=>true
 |.box _=>true
 |.bslice _ _ _ _=>true
 |.convsb _=>true
 |.mksl _ _ _ _ _=>true
 |_=>false
theorem c4u{op:AOp}(h:O4 op=true)(ev:Opd->AV)(H:AH):Ar op ev H=none:=by
 cases op<;>first|rfl|simp[O4]at h
def a2o(P:Program)(o:Op)(ao:AOp):Prop:=
 ∀ (E:Env) (w:World) (H:AH) (fr:List AV) (a:Act) (v:AV) (ob:AObj) (oper:Oper) (r:Nat),oper.op=o->Sim E w H->RepL E fr a.tmps->r<H.length->E.ρ r=none->Cc ao (evalA fr) []=some (v,[some ob])->
   ∃ u w' E',((execOp a.eval oper).run P w=.ok (.value u) w'\/((execOp a.eval oper).run P w=.ok .skip w'/\u=undef))/\Le E E'/\(∀ s,s≠r->E'.ρ s=E.ρ s)/\Sim E' w' (H.set r (some ob))/\Rep E' (ren (Au [r]) v) u
theorem d5g{P:Program}{cs:List AV}{o:Op}(hf:Bu P (.alloc cs) o=true):a2o P o (.alloc cs):=by
 intro E w H fr a v ob oper r ho hs hr hrl hρ hv;cases o<;>simp only[Bu,e52]at hf;rename_i t;obtain⟨it,z,hit,hz,hzc⟩:∃ it z,P.info? t=some it/\it.zero=some z/\(repCs cs z.cells.toList&&cs.all cellA)=true:=by
  split at hf
  ·split at hf
   ·exact⟨_,_,by assumption,by assumption,hf⟩
   ·cases hf
  ·cases hf
 rw[e5v]at hzc;have hzr:RepL E cs z.cells:=by have:=Q5 (E:=E) hzc.1;simpa using this
 simp only[Cc]at hv;split at hv
 ·rename_i hne;simp only[e6f,e6k,e5i,Prod.mk.injEq,List.cons.injEq,e82]at hv;obtain⟨rfl,rfl⟩:=hv;have hl:=hzr.1;obtain⟨hle,hsim⟩:=hs.renew hrl [cs] cs.length z.cells t (0,0) (λy hy=>by rw[hρ]at hy;cases hy) om (.inl rfl) (by simp) (by simp;omega) (Sx hzr hzc.2) (Ce.of hzr rfl);refine⟨.pointer (some ⟨w.heap.size,0,none⟩),_,_,.inl ?_,hle,λs hs=>Env.with_ne _ _ hs,hsim,?_⟩
  ·simp only[execOp,ho];apply Dn;simp only[Instr.alloc,zeroValue,typeInfo,e7i,hit,hz,Result.andThen,e7j,newVar,newRow,program,Sem.run,newObj];rfl
  ·have:=Rep.ptr (E:=E.with r ⟨w.heap.size,cs.length,z.cells.size,[cs].length⟩) r 0 0 1 _ (Env.with_same _ _ _) rfl;simpa [ren,Au]using this
 ·cases hv
theorem d5a{P:Program}{x:Opd}{o:Op}(hf:Bu P (.box x) o=true):a2o P o (.box x):=by
 intro E w H fr a v ob oper r ho hs hr hrl hρ hv;cases o<;>simp only[Bu,e52]at hf;rename_i t y;have hx:=Bd hr hf;simp only[Cc]at hv;split at hv
 ·rename_i cs hcs;have hc:=a63 hx hcs;split at hv
  ·rename_i hne;simp only[e6f,e6k,e5i,Prod.mk.injEq,List.cons.injEq,e82]at hv;obtain⟨rfl,rfl⟩:=hv;have hl:=hc.1;obtain⟨hle,hsim⟩:=hs.renew hrl [cs] cs.length (a.eval y).cells t (0,0) (λy hy=>by rw[hρ]at hy;cases hy) om (.inl rfl) (by simp) (by simp;omega) (Sx hc hne.2) (Ce.of hc rfl);refine⟨.pointer (some ⟨w.heap.size,0,none⟩),_,_,.inl ?_,hle,λs hs=>Env.with_ne _ _ hs,hsim,?_⟩
   ·simp only[execOp,ho];apply Dn;simp only[Instr.box,e7i,Result.andThen,e7j,newVar,newRow,Sem.run,newObj];rfl
   ·have:=Rep.ptr (E:=E.with r ⟨w.heap.size,cs.length,(a.eval y).cells.size,[cs].length⟩) r 0 0 1 _ (Env.with_same _ _ _) rfl;simpa [ren,Au]using this
  ·cases hv
 ·cases hv
theorem d58{P:Program}{sz len:Nat}{zero:List AV}{parts:List (Nat×Opd)}{o:Op}(hf:Bu P (.bslice sz len zero parts) o=true):a2o P o (.bslice sz len zero parts):=by
 intro E w H fr a v ob oper r ho hs hr hrl hρ hv;cases o<;>simp only[Bu,e52,e5v,e5h]at hf;rename_i t n ps;obtain⟨⟨⟨rfl,hsmall⟩,ht⟩,hp⟩:=hf;obtain⟨e,i,z,hu,hi,hsz,hpos,hzl,hzA,hz,hzc⟩:∃ e i z,P.underlying t=some (.slice e)/\P.info? e=some i/\i.size=sz/\0<sz/\zero.length=sz/\zero.all cellA=true/\i.zero=some z/\repCs zero z.cells.toList=true:=by
  split at ht
  ·rename_i e hu;split at ht
   ·rename_i i hi;unfold Vk at ht;simp only[hi,e5v,e5h]at ht;obtain⟨⟨⟨⟨⟨h1,_⟩,h2⟩,h3⟩,h4⟩,h5⟩:=ht;split at h5
    ·exact⟨e,i,_,hu,hi,h1,h2,h3,h4,by assumption,h5⟩
    ·cases h5
   ·cases ht
  ·cases ht
 have hzr:RepL E zero z.cells:=by have:=Q5 (E:=E) hzc;simpa using this
 simp only[Cc]at hv;split at hv
 ·rename_i cells hcells;split at hv
  ·rename_i hall;simp only[e6f,e6k,e5i,Prod.mk.injEq,List.cons.injEq,e82]at hv;obtain⟨rfl,rfl⟩:=hv;have hzcells:=a2t hzr n;have hzs:z.cells.size=sz:=(by rw[<-hzr.1,hzl]);rw[hzs]at hzcells;obtain⟨vs',h1,h2⟩:=a5j (P:=P) hr (λi=>some (i*sz,sz)) _ ps.toList _ _ cells hp hzcells hcells;have hlen:cells.length=n*sz:=(by rw[b1u _ hcells];simp[hzl]);obtain⟨hle,hsim⟩:=hs.renew hrl (chunks sz n cells) sz vs' e (0,0) (λy hy=>by rw[hρ]at hy;cases hy) hpos (.inl rfl) (by
    intro e' he';obtain⟨i',hi'⟩:=e4l.1 he';have hin:i'<n:=by
     rcases e7h i' n with h'|h'
     ·exact h'
     ·rw[e4j (by rw[Vp];exact h')]at hi';cases hi'
    rw[am9 _ _ _ _ hin]at hi';cases hi';have:(i'+1)*sz<=n*sz:=e4r _ hin;rw[e7x]at this;simp;omega) (by rw[Vp];have:=h2.1;omega) (Sx h2 hall) (Ce.chunks h2)
   refine⟨.slice (some ⟨w.heap.size,0,none⟩) n n,_,_,.inl ?_,hle,λs hs=>Env.with_ne _ _ hs,hsim,?_⟩
   ·simp only[execOp,ho];apply Dn;have e1:(ps.map λ(i,x)=>(i,a.eval x)).toList=ps.toList.map λx=>(x.1,a.eval x.2):=(by simp);simp only[Instr.buildSlice,e7i,e6u hu,Result.andThen,Fb hi,hsz];rw[if_neg om];by_cases h0:n*sz=0
    ·have hn:n=0:=by
      rcases Nat.mul_eq_zero.1 h0 with h|h
      ·exact h
      ·omega
     subst hn;simp only[Nat.zero_mul,if_true,e7j,e7i,Result.andThen];simp only[Nat.zero_mul]at h1;rw[e1];have e2:∀ f g:Nat->Value,(Array.range 0).map f=(Array.range 0).map g:=λf g=>(by simp);rw[e2 _ (λx=>z.cells[x%sz]!)];simp only[h1];simp only[newRow,newObj,e7i,Sem.run,Result.andThen,e7j];rfl
    ·simp only[if_neg h0,zeroValue,typeInfo,e7i,hi,hz,Result.andThen,e7j,program,Sem.run,hzs];rw[e1];simp only[h1];simp only[newRow,newObj,e7i,Sem.run,Result.andThen,e7j];rfl
   ·have:=Rep.own (E:=E.with r ⟨w.heap.size,sz,vs'.size,(chunks sz n cells).length⟩) r sz 0 n n n _ (Env.with_same _ _ _) (Vp _ _ _) rfl om (e7y _) om (by have:=h2.1;simp;omega);simpa [ren,Au]using this
  ·cases hv
 ·cases hv
theorem d4l{P:Program}{sz bytes:Nat}{zero:List AV}{l c:Opd}{o:Op}(hf:Bu P (.mksl sz bytes zero l c) o=true):a2o P o (.mksl sz bytes zero l c):=by
 intro E w H fr a v ob oper r ho hs hr hrl hρ hv;cases o<;>simp only[Bu,e52,e5v]at hf;rename_i t l' c';obtain⟨⟨ht,h1⟩,h2⟩:=hf;have hl:=Bd hr h1;have hc:=Bd hr h2;obtain⟨e,hte,hel⟩:∃ e,P.underlying t=some (.slice e)/\El P e sz bytes zero:=by
  split at ht
  ·exact⟨_,by assumption,a5u ht⟩
  ·cases ht
 obtain⟨i,z,hi,hsi,hby,hz,hzc⟩:=hel.ex;have hzr:RepL E zero z.cells:=by have:=Q5 (E:=E) hzc;simpa using this
 have hzs:z.cells.size=sz:=by rw[<-hzr.1,hel.len]
 simp only[Cc]at hv;split at hv
 ·rename_i k m k' n e1 e2;rw[e1]at hl;rw[e2]at hc;split at hv
  ·rename_i hok;obtain⟨h0,hmn,hn,hbb⟩:=hok;simp only[e6f,e6k,e5i,Prod.mk.injEq,List.cons.injEq,e82]at hv;obtain⟨rfl,rfl⟩:=hv;have hzcells:=a2t hzr n.toNat;rw[hzs]at hzcells;have hlenle:m.toNat*sz<=n.toNat*sz:=e4r _ om;have hrow:Ce E sz ((Array.range (n.toNat*sz)).map (z.cells[· % sz]!)) (List.replicate m.toNat zero):=by
    intro j e' kk cc u hi' hk hu;have hil:j<m.toNat:=by
     rcases e7h j m.toNat with h'|h'
     ·exact h'
     ·rw[e4j (by simpa using h')]at hi';cases hi'
    rw[List.getElem?_replicate,if_pos hil]at hi';cases hi';have hkl:kk<sz:=by
     rcases e7h kk zero.length with h'|h'
     ·rw[hel.len]at h';exact h'
     ·rw[e4j h']at hk;cases hk
    have:=L7 (sz:=sz) hil;have hidx:(j*sz+kk)%sz=kk:=by
     rw[Nat.add_comm,Nat.add_mul_mod_self_right];exact Nat.mod_eq_of_lt hkl
    rw[e57,Array.getElem?_range,if_pos om]at hu;simp only[e6h,e5i,hidx]at hu;have hkz:kk<z.cells.size:=(by rw[hzs];exact hkl);rw[getElem!_pos z.cells kk hkz]at hu;exact hzr.2 kk cc u hk (by rw[<-hu];exact e44 hkz)
   have hone:∀ (j:Nat) u,((Array.range (n.toNat*sz)).map (z.cells[· % sz]!))[j]?=some u->u.oneCell'=true:=by
    have:=Sh hzr hel.all n.toNat;unfold Builtin.zeroCells at this;rw[hzs]at this;exact this
   obtain⟨hle,hsim⟩:=hs.renew hrl (List.replicate m.toNat zero) sz ((Array.range (n.toNat*sz)).map (z.cells[· % sz]!)) e (0,0) (λy hy=>by rw[hρ]at hy;cases hy) hel.pos (.inl rfl)
    (λe' he'=>by rw[List.eq_of_mem_replicate he',hel.len]) (by simp;exact hlenle) hone hrow
   refine⟨.slice (some ⟨w.heap.size,0,none⟩) m.toNat n.toNat,_,_,.inl ?_,hle,λs hs=>Env.with_ne _ _ hs,hsim,?_⟩
   ·simp only[execOp,ho,Ec hl,Ec hc];apply Dn;have hti:(typeInfo e).run P w=.ok i w:=by
     unfold typeInfo;simp only[e7i,program,Sem.run,Result.andThen,hi];rfl
    have hzv:(zeroValue e).run P w=.ok z w:=by
     unfold zeroValue;simp only[e7i,hti,Result.andThen,hz,e7j]
    have hw1:=a7g (n:=m) h0 om;have hw2:=a7g (n:=n) om hn;have hmulb:(bytes:Int)*n<=10000*1000000000:=by
     refine Int.le_trans (Int.mul_le_mul_of_nonneg_right (c:=n) (show(bytes:Int)<=10000 by omega) om) ?_;omega
    have hcond:((decide (n<0)||decide ((bytes:Int)*n>2 ^ 48))=true\/decide (m<0)=true\/decide (m>n)=true)=False:=by
     simp;omega
    unfold Instr.makeSlice;simp only[e7i,e6u hte,Result.andThen,asInt,asIntOf,e7j,hti,hby,hw1,hw2];rw[if_neg (by simp;omega)];simp only[e7i,ax9,Result.andThen,Fb hi,hsi];by_cases h00:n.toNat*sz=0
    ·simp only[h00,if_true,e7j,e7i,Result.andThen,newRow,newObj,Sem.run];have e2:∀ f g:Nat->Value,(Array.range 0).map f=(Array.range 0).map g:=λf g=>(by simp);rw[e2 _ (λx=>z.cells[x%sz]!)];rfl
    ·simp only[if_neg h00,e7i,hzv,Result.andThen,e7j,newRow,newObj,Sem.run,hzs];rfl
   ·have:=Rep.own (E:=E.with r ⟨w.heap.size,sz,((Array.range (n.toNat*sz)).map (z.cells[· % sz]!)).size,(List.replicate m.toNat zero).length⟩) r sz 0 m.toNat m.toNat n.toNat _ (Env.with_same _ _ _) (by simp) rfl om om om (by simp);simpa [ren,Au]using this
  ·cases hv
 ·cases hv
theorem d51{P:Program}{x:Opd}{o:Op}(hf:Bu P (.convsb x) o=true):a2o P o (.convsb x):=by
 intro E w H fr a v ob oper r ho hs hr hrl hρ hv;cases o<;>simp only[Bu,e52,e5v]at hf;rename_i s t y;obtain⟨⟨h1,h2⟩,h3⟩:=hf;have hx:=Bd hr h3;have hus:P.underlying s=some .string:=by
  split at h1<;>first|assumption|cases h1
 obtain⟨e,hut,hue⟩:∃ e,P.underlying t=some (.slice e)/\P.underlying e=some (.int .u8):=by
  split at h2
  ·split at h2
   ·exact⟨_,by assumption,by assumption⟩
   ·cases h2
  ·cases h2
 simp only[Cc]at hv;split at hv
 ·rename_i str e1;rw[e1]at hx;simp only[e6f,e6k,e5i,Prod.mk.injEq,List.cons.injEq,e82]at hv;obtain⟨rfl,rfl⟩:=hv;have hbs:(⟨str.toArray⟩:ByteArray).size=str.length:=by simp[ByteArray.size]
  have hrun0:=run_bytes_of_string (P:=P) w s t e ⟨str.toArray⟩ hus hut hue;rw[hbs]at hrun0;have hcut:str.length<=grownCap w str.length 0 e:=grownCap_ge w _ _ _;generalize hnc:grownCap w str.length 0 e=nc at hcut hrun0;let cells:Array Value:=(str.toArray.map λb=>Value.int .u8 b.toNat)++Array.replicate (nc-str.length) (.int .u8 0);have hcs:cells.size=nc:=by simp[cells];omega
  have hbr:bytesRow ⟨str.toArray⟩ nc=cells:=by
   simp only[bytesRow,cells,hbs]
  rw[hbr,hcs]at hrun0;have hsd:Sim E w.drew H:=hs.drawn (w.drawn+1);obtain⟨hle,hsim⟩:=hsd.renew hrl (str.map λb=>[AV.int .u8 b.toNat]) 1 cells e (nc,nc+1) (λy hy=>by rw[hρ]at hy;cases hy) om (.inr om) (by simp) (by simp;omega)
   (by
    intro i v hv;simp only[cells]at hv;rw[Array.getElem?_append]at hv;split at hv
    ·rw[e57]at hv;cases hb:str.toArray[i]? with
     |none=>rw[hb]at hv;cases hv
     |some b=>rw[hb]at hv;cases hv;rfl
    ·rw[Array.getElem?_replicate]at hv;split at hv
     ·cases hv;rfl
     ·cases hv)
   (by
    intro i e' k c u hi hk hu;rw[e5j]at hi;cases hb:str[i]? with
    |none=>rw[hb]at hi;cases hi
    |some b=>
      rw[hb]at hi;cases hi;have hil:i<str.length:=by
       rcases e7h i str.length with h'|h'
       ·exact h'
       ·rw[e4j h']at hb;cases hb
      match k,hk with
      |0,hk=>
        simp at hk;subst hk;simp only[cells]at hu;rw[e41 (by simp;omega),Nat.mul_one,e7l,e57,e4k,hb]at hu;cases hu;exact .pure (x:=.int _ _) (.int _ _)
      |k+1,hk=>simp at hk)
  refine⟨.slice (some ⟨w.heap.size,0,none⟩) str.length nc,_,_,.inl ?_,hle,λs hs=>Env.with_ne _ _ hs,hsim,?_⟩
  ·simp only[execOp,ho,Jh hx];apply Dn;exact hrun0
  ·have:=Rep.own (E:=E.with r ⟨w.drew.heap.size,1,cells.size,(str.map λb=>[AV.int .u8 b.toNat]).length⟩) r 1 0 str.length str.length nc _ (Env.with_same _ _ _) (by simp) rfl om hcut om (by simp[hcs]);simpa [ren,Au]using this
 ·cases hv
theorem d5i{ao:AOp}{o:Op}(hfr:O4 ao=true)(hf:Bu P ao o=true):a2o P o ao:=by
 cases ao<;>simp only[O4,e52]at hfr
 case alloc=>exact d5g hf
 case box=>exact d5a hf
 case bslice=>exact d58 hf
 case mksl=>exact d4l hf
 case convsb=>exact d51 hf
theorem Does.fresh{E0:Env}{ops:Array Oper}{QQ:Exit->Act->World->Prop}{k:Nat}{o:Oper}{A6:AInstr}{σ0:St}(ho:ops[k]?=some o)(hf:fitI P ops A6 o=true)(hop:Nd σ0.fr A6.guard)
 (hfr:O4 A6.op=true) {v:AV} {ob:AObj} (hv:Cc A6.op (evalA σ0.fr) []=some (v,[some ob])) {c:Nat} (hc:c<σ0.H.length) (hfree:σ0.free c=true) :
 Does P n0 E0 ops QQ k ⟨Fa A6++[.con c],C0 A6.dst++[.con c,.len c],A6.dst,ren (Au [c]) v,[c],[some ob]⟩ σ0:=by
 refine⟨λσ ha E w a next hle rl hk=>?_,λσ ha l hl'=>?_,λt ht=>?_,λr' hr=>by simp at hr;simp[hr]⟩
 ·obtain⟨hev,hgd⟩:=Vt (A6:=A6) ha (λl hl=>e4t _ hl);have hcon:=Rz (ha.on (.con c) (by simp));refine R9 ho hf rl (λg want hg=>by rw[hgd g want hg];exact hop g want hg) ?_;have hf1:Bu P A6.op o.op=true:=by
   have:=ak8 hf (.inr ⟨_,_,_,hv⟩);rw[e6n]at this;rcases this with h|h
   ·rw[ak9 h]at hv;cases hv
   ·exact h
  have hv2:Cc A6.op (evalA σ.fr) []=some (v,[some ob]):=by
   have h1:=b3a (op:=A6.op) [] hev;unfold D8 at h1;rw[c4u hfr,c4u hfr]at h1;simp only at h1;rw[h1];exact hv
  obtain⟨u,w',E',hrun,hle',hn,hs',hx'⟩:=d5i hfr hf1 E w σ.H σ.fr a v ob o c rfl rl.sim rl.rep (by rw[ha.H];exact hc) (rl.free c (by rw[hcon.2];exact hfree)) hv2;have hrl:Rl E' w' (a.put o.dst u) (Tr.app ⟨Fa A6++[.con c],C0 A6.dst++[.con c,.len c],A6.dst,ren (Au [c]) v,[c],[some ob]⟩ σ):=by
   refine⟨hs',?_,J0 rl.defers _ _,λr' hr=>?_⟩
   ·rw[<-S8 hf];exact Iz (rl.rep.mono hle') hx' _
   ·simp only[Tr.app,e5v]at hr;rw[hn r' (by simpa using hr.2)];exact rl.free r' hr.1
  unfold Oper.wp;rcases hrun with hrun|⟨hrun,rfl⟩
  ·rw[hrun];exact hk E' _ w' (hle.trans (hle'.toN n0)) hrl
  ·rw[hrun];exact hk E' _ w' (hle.trans (hle'.toN n0)) hrl
 ·refine T2 (λt ht hlt=>hl' ?_) (λr' hr=>⟨λe=>hl' ?_,λe=>hl' ?_⟩)
  ·simp only at ht;rw[hlt];simp[C0,ht]
  ·simp at hr;rw[e,hr];simp
  ·simp at hr;rw[e,hr];simp
 ·simp only at ht;simp[C0,ht]
theorem b0f{rs:List Nat}{c k:Nat}(h1:rs.Nodup)(h2:∀ r∈rs,r<c):(rs++List.range' c k).Nodup:=by
 rw[List.nodup_append];refine⟨h1,List.nodup_range',λa ha b hb hab=>?_⟩
 have:=h2 a ha;rw[e5m]at hb;omega
theorem b1g{rs:List Nat}{c k:Nat}(h2:∀ r∈rs,r<c):(λr=>decide (c<=r)&&!(rs++List.range' c k).contains r)=λr=>decide (c+k<=r):=by
 funext r;by_cases hm:r∈rs++List.range' c k
 ·have h7:(rs++List.range' c k).contains r=true:=by simpa using hm
  rw[h7];rw[e6m,e5m]at hm;have:¬ c+k<=r:=by
   rcases hm with hm|hm
   ·have:=h2 r hm;omega
   ·omega
  simp[this]
 ·have h7:(rs++List.range' c k).contains r=false:=by simpa using hm
  rw[h7];rw[e6m,e5m]at hm;by_cases h8:c<=r
  ·have:c+k<=r:=by
    rcases e7h r (c+k)with h9|h9
    ·exact absurd (.inr ⟨h8,h9⟩) hm
    ·exact h9
   simp[h8,this]
  ·have:¬ c+k<=r:=om;simp[h8,this]
theorem Does.call{E0:Env}{ops:Array Oper}{QQ:Exit->Act->World->Prop}{k:Nat}{o:Oper}{d:Option Nat}{gd:Option (Nat×Bool)}{f:FuncId}{args:List Opd}{σ0:St}(ho:ops[k]?=some o)(hf:fitI P ops ⟨d,gd,.call f args⟩ o=true)(hop:Nd σ0.fr gd)
 {rs nw:List Nat} (hnd:(rs++nw).Nodup) (hlt:∀ r∈rs++nw,r<σ0.H.length) (hfree:∀ r∈nw,σ0.free r=true) {x:AV} {H1:AH} (hlen:H1.length=(rs++nw).length)
 (hC:C P f (Bw (Aw rs) (args.map (evalA σ0.fr))) (rs.map λr=>(σ0.H.at r).map (renO (Aw rs))) (λy G=>y=x/\G=H1)) :
 Does P n0 E0 ops QQ k ⟨Fa ⟨d,gd,.call f args⟩++(rs++nw).map .con,C0 d++((rs++nw).map .con++(rs++nw).map .len),d,ren (Au (rs++nw)) x,rs++nw,H1.map λo=>o.map (renO (Au (rs++nw)))⟩ σ0:=by
 refine⟨λσ ha E w a next hle rl hk=>?_,λσ ha l hl'=>?_,λt ht=>?_,λr' hr=>?_⟩
 ·obtain⟨hev,hgd⟩:=Vt (A6:=⟨d,gd,.call f args⟩) ha (λl hl=>e4t _ hl);have hcon:∀ r∈rs++nw,σ.H.at r=σ0.H.at r/\σ.free r=σ0.free r:=λr hr=>Rz (ha.on (.con r) (e4o _ (e7o.2 ⟨r,hr,rfl⟩)));refine R9 ho hf rl (λg want hg=>by rw[hgd g want hg];exact hop g want hg) ?_;obtain⟨Ef,hs0,hrep0,hback⟩:=b1i rl.sim rs nw hnd (λr hr=>by rw[ha.H];exact hlt r hr) (λr hr=>rl.free r (by rw[(hcon r (e4o _ hr)).2];exact hfree r hr));have e0:(rs.map λr=>(σ.H.at r).map (renO (Aw rs)))=rs.map λr=>(σ0.H.at r).map (renO (Aw rs)):=e4y λr hr=>by rw[(hcon r (e4t _ hr)).1]
  rw[e0]at hs0;have e1:args.map (evalA σ0.fr)=args.map (evalA σ.fr):=e4y λy hy=>(hev y (by simpa [Dm]using hy)).symm;rw[e1]at hC;have hrl:∀ (E':Env) (w':World) (u:Value),Le E E'->Sim E' w' (C3 σ.H (rs++nw) (H1.map λo=>o.map (renO (Au (rs++nw)))))->Rep E' (ren (Au (rs++nw)) x) u->(∀ r,r∉rs++nw->E'.ρ r=E.ρ r)->
   Rl E' w' (a.put o.dst u) (Tr.app ⟨Fa ⟨d,gd,.call f args⟩++(rs++nw).map .con,C0 d++((rs++nw).map .con++(rs++nw).map .len),d,ren (Au (rs++nw)) x,rs++nw,H1.map λo=>o.map (renO (Au (rs++nw)))⟩ σ):=by
   intro E' w' u hle' hs' hx' hn;refine⟨hs',?_,J0 rl.defers _ _,λr' hr=>?_⟩
   ·have:=S8 hf;simp only at this;rw[<-this];exact Iz (rl.rep.mono hle') hx' _
   ·simp only[Tr.app,e5v]at hr;rw[hn r' (by simpa using hr.2)];exact rl.free r' hr.1
  unfold fitI at hf;rw[e5v,e5v]at hf;have hf2:=hf.2;simp only at hf2;split at hf2
  ·rename_i f' args' g as ats e1 e2;cases e1;rw[e5v,e5h]at hf2;obtain⟨rfl,hargs⟩:=hf2;have har:=a1b rl.rep _ as.toList hargs;have e3:(as.toList.map a.eval).toArray=as.map a.eval:=(by apply e81;simp);rw[e3]at har;have hrun:(execOp a.eval o).run P w=.ok (.enter f (as.map a.eval)) w:=by
    simp only[execOp,e2,resolve,Deferred.ofValue,show ∀ g,a.eval (.func g)=.func (.func g) #[] #[]from λ_=>rfl,e7i,e7j,Result.andThen,invoke];rw[show(#[]++as.map a.eval++ #[]:Array Value)=as.map a.eval from by simp];exact Zz hC.1 _ _
   unfold Oper.wp;rw[hrun]
   refine(hC.2 Ef w _ hs0 (hrep0 _ _ har)).mono ?_;rintro e w' ⟨u,E1,y,G,rfl,⟨rfl,rfl⟩,hle1,hs1,hx1⟩;obtain⟨E',hle',hs',hx',hn⟩:=hback E1 w' G (by simpa using hle1) hs1 hlen;exact hk E' _ w' (hle.trans (hle'.toN n0)) (hrl E' w' u hle' hs' (hx' _ _ hx1) hn)
  all_goals first|(rename_i e _;cases e;done)|(rename_i e;cases e;done)|(simp at hf2;done)|(simp_all;done)
 ·refine T2 (λt ht hlt=>hl' ?_) (λr' hr=>⟨λe=>hl' ?_,λe=>hl' ?_⟩)
  ·simp only at ht;rw[hlt];simp[C0,ht]
  ·rw[e];exact e4o _ (e4t _ (e7o.2 ⟨r',hr,rfl⟩))
  ·rw[e];exact e4o _ (e4o _ (e7o.2 ⟨r',hr,rfl⟩))
 ·simp only at ht;simp[C0,ht]
 ·exact e4o _ (e4t _ (e7o.2 ⟨r',hr,rfl⟩))
theorem Does.look{E0:Env}{ops:Array Oper}{QQ:Exit->Act->World->Prop}{k:Nat}{o:Oper}{d:Option Nat}{gd:Option (Nat×Bool)}{f:FuncId}{args:List Opd}{σ0:St}(ho:ops[k]?=some o)(hf:fitI P ops ⟨d,gd,.call f args⟩ o=true)(hop:Nd σ0.fr gd)
 {x:AV} (hx:Db x=true) (hC:C P f (B3 σ0.H (args.map (evalA σ0.fr))) [] (λy _=>y=x)) :
 Does P n0 E0 ops QQ k ⟨Fa ⟨d,gd,.call f args⟩++(F7 σ0.H (args.map (evalA σ0.fr))).map .con,C0 d,d,x,[],[]⟩ σ0:=by
 refine⟨λσ ha E w a next hle rl hk=>?_,λσ ha l hl'=>?_,λt ht=>?_,λr' hr=>by cases hr⟩
 ·obtain⟨hev,hgd⟩:=Vt (A6:=⟨d,gd,.call f args⟩) ha (λl hl=>e4t _ hl);refine R9 ho hf rl (λg want hg=>by rw[hgd g want hg];exact hop g want hg) ?_;have e1:args.map (evalA σ0.fr)=args.map (evalA σ.fr):=e4y λy hy=>(hev y (by simpa [Dm]using hy)).symm;have e2:B3 σ0.H (args.map (evalA σ0.fr))=B3 σ.H (args.map (evalA σ0.fr)):=Zi _ λr hr=>(Rz (ha.on (.con r) (e4o _ (e7o.2 ⟨r,hr,rfl⟩)))).1.symm;rw[e2,e1]at hC;have hdst:=S8 hf;simp only at hdst;unfold fitI at hf;rw[e5v,e5v]at hf;have hf2:=hf.2;simp only at hf2;split at hf2
  ·rename_i f' args' g as ats e1 e2;cases e1;rw[e5v,e5h]at hf2;obtain⟨rfl,hargs⟩:=hf2;have har:=a1b rl.rep _ as.toList hargs;have e3:(as.toList.map a.eval).toArray=as.map a.eval:=(by apply e81;simp);rw[e3]at har;have hrun:(execOp a.eval o).run P w=.ok (.enter f (as.map a.eval)) w:=by
    simp only[execOp,e2,resolve,Deferred.ofValue,show ∀ g,a.eval (.func g)=.func (.func g) #[] #[]from λ_=>rfl,e7i,e7j,Result.andThen,invoke];rw[show(#[]++as.map a.eval++ #[]:Array Value)=as.map a.eval from by simp];exact Zz hC.1 _ _
   unfold Oper.wp;rw[hrun]
   refine(cw3 hC (λy _ h=>by rw[h];exact hx) E w _ rl.sim har).mono ?_;rintro e w' ⟨u,y,H1,rfl,rfl,hs',hx'⟩;refine hk E _ w' hle ⟨hs',?_,J0 rl.defers _ _,λr' hr=>rl.free r' (by simpa [Tr.app]using hr)⟩;rw[<-hdst];exact Iz rl.rep hx' _
  all_goals first|(rename_i e _;cases e;done)|(rename_i e;cases e;done)|(simp at hf2;done)|(simp_all;done)
 ·refine T2 (λt ht hlt=>hl' ?_) (λr' hr=>by cases hr);simp only at ht;rw[hlt];simp[C0,ht]
 ·simp only at ht;simp[C0,ht]
theorem Does.calld{E0:Env}{ops:Array Oper}{QQ:Exit->Act->World->Prop}{k:Nat}{o:Oper}{d:Option Nat}{gd:Option (Nat×Bool)}{f:FuncId}{x0:Opd}{first cap:List AV}{args:List Opd}{σ0:St}(ho:ops[k]?=some o)(hf:fitI P ops ⟨d,gd,.calld x0 args⟩ o=true)(hop:Nd σ0.fr gd)(hx0:evalA σ0.fr x0=.fn (.func f) first cap)
 {rs nw:List Nat} (hnd:(rs++nw).Nodup) (hlt:∀ r∈rs++nw,r<σ0.H.length) (hfree:∀ r∈nw,σ0.free r=true) {x:AV} {H1:AH} (hlen:H1.length=(rs++nw).length)
 (hC:C P f (Bw (Aw rs) (first++args.map (evalA σ0.fr)++cap)) (rs.map λr=>(σ0.H.at r).map (renO (Aw rs))) (λy G=>y=x/\G=H1)) :
 Does P n0 E0 ops QQ k ⟨Fa ⟨d,gd,.calld x0 args⟩++(rs++nw).map .con,C0 d++((rs++nw).map .con++(rs++nw).map .len),d,ren (Au (rs++nw)) x,rs++nw,H1.map λo=>o.map (renO (Au (rs++nw)))⟩ σ0:=by
 refine⟨λσ ha E w a next hle rl hk=>?_,λσ ha l hl'=>?_,λt ht=>?_,λr' hr=>?_⟩
 ·obtain⟨hev,hgd⟩:=Vt (A6:=⟨d,gd,.calld x0 args⟩) ha (λl hl=>e4t _ hl);have hcon:∀ r∈rs++nw,σ.H.at r=σ0.H.at r/\σ.free r=σ0.free r:=λr hr=>Rz (ha.on (.con r) (e4o _ (e7o.2 ⟨r,hr,rfl⟩)));refine R9 ho hf rl (λg want hg=>by rw[hgd g want hg];exact hop g want hg) ?_;obtain⟨Ef,hs0,hrep0,hback⟩:=b1i rl.sim rs nw hnd (λr hr=>by rw[ha.H];exact hlt r hr) (λr hr=>rl.free r (by rw[(hcon r (e4o _ hr)).2];exact hfree r hr));have e0:(rs.map λr=>(σ.H.at r).map (renO (Aw rs)))=rs.map λr=>(σ0.H.at r).map (renO (Aw rs)):=e4y λr hr=>by rw[(hcon r (e4t _ hr)).1]
  rw[e0]at hs0;have e1:args.map (evalA σ0.fr)=args.map (evalA σ.fr):=e4y λy hy=>(hev y (by simp[Dm,hy])).symm;rw[e1]at hC;have hrl:∀ (E':Env) (w':World) (u:Value),Le E E'->Sim E' w' (C3 σ.H (rs++nw) (H1.map λo=>o.map (renO (Au (rs++nw)))))->Rep E' (ren (Au (rs++nw)) x) u->(∀ r,r∉rs++nw->E'.ρ r=E.ρ r)->
   Rl E' w' (a.put o.dst u) (Tr.app ⟨Fa ⟨d,gd,.calld x0 args⟩++(rs++nw).map .con,C0 d++((rs++nw).map .con++(rs++nw).map .len),d,ren (Au (rs++nw)) x,rs++nw,H1.map λo=>o.map (renO (Au (rs++nw)))⟩ σ):=by
   intro E' w' u hle' hs' hx' hn;refine⟨hs',?_,J0 rl.defers _ _,λr' hr=>?_⟩
   ·have:=S8 hf;simp only at this;rw[<-this];exact Iz (rl.rep.mono hle') hx' _
   ·simp only[Tr.app,e5v]at hr;rw[hn r' (by simpa using hr.2)];exact rl.free r' hr.1
  unfold fitI at hf;rw[e5v,e5v]at hf;have hf2:=hf.2;simp only at hf2;split at hf2
  ·rename_i e _;cases e
  ·rename_i x' args' yo as ats e1' e2;cases e1';rw[e5v]at hf2;obtain⟨hxo,hargs⟩:=hf2;have hxr:=Bd rl.rep hxo;rw[hev x0 (by simp[Dm]),hx0]at hxr;obtain⟨vs,ws,hval,l1,l2,i1,i2⟩:=be4 hxr;have har:=a1b rl.rep _ as.toList hargs;have e3:(as.toList.map a.eval).toArray=as.map a.eval:=(by apply e81;simp);rw[e3]at har;have hall:=RepL.append (RepL.append (show RepL E first vs from ⟨l1,i1⟩) har) (show RepL E cap ws from ⟨l2,i2⟩);have hrun:(execOp a.eval o).run P w=.ok (.enter f (vs++as.map a.eval++ws)) w:=by
    simp only[execOp,e2,resolve,hval,Deferred.ofValue,e7i,e7j,Result.andThen,invoke];exact Zz hC.1 _ _
   unfold Oper.wp;rw[hrun]
   refine(hC.2 Ef w _ hs0 (hrep0 _ _ hall)).mono ?_;rintro e w' ⟨u,E1,y,G,rfl,⟨rfl,rfl⟩,hle1,hs1,hx1⟩;obtain⟨E',hle',hs',hx',hn⟩:=hback E1 w' G (by simpa using hle1) hs1 hlen;exact hk E' _ w' (hle.trans (hle'.toN n0)) (hrl E' w' u hle' hs' (hx' _ _ hx1) hn)
  all_goals first|(rename_i e _;cases e;done)|(rename_i e;cases e;done)|(simp at hf2;done)|(simp_all;done)
 ·refine T2 (λt ht hlt=>hl' ?_) (λr' hr=>⟨λe=>hl' ?_,λe=>hl' ?_⟩)
  ·simp only at ht;rw[hlt];simp[C0,ht]
  ·rw[e];exact e4o _ (e4t _ (e7o.2 ⟨r',hr,rfl⟩))
  ·rw[e];exact e4o _ (e4o _ (e7o.2 ⟨r',hr,rfl⟩))
 ·simp only at ht;simp[C0,ht]
 ·exact e4o _ (e4t _ (e7o.2 ⟨r',hr,rfl⟩))
theorem DoesF.call{E0:Env}{ops:Array Oper}{QQ:Exit->Act->World->Prop}{k:Nat}{o:Oper}{d:Option Nat}{gd:Option (Nat×Bool)}{f:FuncId}{args:List Opd}{σ0:St}(ho:ops[k]?=some o)(hf:fitI P ops ⟨d,gd,.call f args⟩ o=true)(hop:Nd σ0.fr gd)
 {rs nw:List Nat} (hnd:(rs++nw).Nodup) (hlt:∀ r∈rs++nw,r<σ0.H.length) (hfree:∀ r∈nw,σ0.free r=true) {K0:AV->AH->Prop} (hlen:∀ y G,K0 y G->G.length=(rs++nw).length)
 (hC:C P f (Bw (Aw rs) (args.map (evalA σ0.fr))) (rs.map λr=>(σ0.H.at r).map (renO (Aw rs))) K0) :
 DoesF P n0 E0 ops QQ k ⟨Fa ⟨d,gd,.call f args⟩++(rs++nw).map .con,C0 d++((rs++nw).map .con++(rs++nw).map .len),d,.top,rs++nw,[]⟩
  (λτ=>∃ y G,K0 y G/\τ=⟨Fa ⟨d,gd,.call f args⟩++(rs++nw).map .con,C0 d++((rs++nw).map .con++(rs++nw).map .len),d,ren (Au (rs++nw)) y,rs++nw,G.map λo=>o.map (renO (Au (rs++nw)))⟩) σ0:=by
 refine⟨λσ ha E w a next hle rl hk=>?_,λτ hτ=>?_,λτ hτ σ l hl'=>?_,λt ht=>?_,λr' hr=>?_⟩
 ·obtain⟨hev,hgd⟩:=Vt (A6:=⟨d,gd,.call f args⟩) ha (λl hl=>e4t _ hl);have hcon:∀ r∈rs++nw,σ.H.at r=σ0.H.at r/\σ.free r=σ0.free r:=λr hr=>Rz (ha.on (.con r) (e4o _ (e7o.2 ⟨r,hr,rfl⟩)));refine R9 ho hf rl (λg want hg=>by rw[hgd g want hg];exact hop g want hg) ?_;obtain⟨Ef,hs0,hrep0,hback⟩:=b1i rl.sim rs nw hnd (λr hr=>by rw[ha.H];exact hlt r hr) (λr hr=>rl.free r (by rw[(hcon r (e4o _ hr)).2];exact hfree r hr));have e0:(rs.map λr=>(σ.H.at r).map (renO (Aw rs)))=rs.map λr=>(σ0.H.at r).map (renO (Aw rs)):=e4y λr hr=>by rw[(hcon r (e4t _ hr)).1]
  rw[e0]at hs0;have e1:args.map (evalA σ0.fr)=args.map (evalA σ.fr):=e4y λy hy=>(hev y (by simpa [Dm]using hy)).symm;rw[e1]at hC;have hrl:∀ (x:AV) (H1:AH) (E':Env) (w':World) (u:Value),Le E E'->Sim E' w' (C3 σ.H (rs++nw) (H1.map λo=>o.map (renO (Au (rs++nw)))))->Rep E' (ren (Au (rs++nw)) x) u->(∀ r,r∉rs++nw->E'.ρ r=E.ρ r)->
   Rl E' w' (a.put o.dst u) (Tr.app ⟨Fa ⟨d,gd,.call f args⟩++(rs++nw).map .con,C0 d++((rs++nw).map .con++(rs++nw).map .len),d,ren (Au (rs++nw)) x,rs++nw,H1.map λo=>o.map (renO (Au (rs++nw)))⟩ σ):=by
   intro x H1 E' w' u hle' hs' hx' hn;refine⟨hs',?_,J0 rl.defers _ _,λr' hr=>?_⟩
   ·have:=S8 hf;simp only at this;rw[<-this];exact Iz (rl.rep.mono hle') hx' _
   ·simp only[Tr.app,e5v]at hr;rw[hn r' (by simpa using hr.2)];exact rl.free r' hr.1
  unfold fitI at hf;rw[e5v,e5v]at hf;have hf2:=hf.2;simp only at hf2;split at hf2
  ·rename_i f' args' g as ats e1 e2;cases e1;rw[e5v,e5h]at hf2;obtain⟨rfl,hargs⟩:=hf2;have har:=a1b rl.rep _ as.toList hargs;have e3:(as.toList.map a.eval).toArray=as.map a.eval:=(by apply e81;simp);rw[e3]at har;have hrun:(execOp a.eval o).run P w=.ok (.enter f (as.map a.eval)) w:=by
    simp only[execOp,e2,resolve,Deferred.ofValue,show ∀ g,a.eval (.func g)=.func (.func g) #[] #[]from λ_=>rfl,e7i,e7j,Result.andThen,invoke];rw[show(#[]++as.map a.eval++ #[]:Array Value)=as.map a.eval from by simp];exact Zz hC.1 _ _
   unfold Oper.wp;rw[hrun]
   refine(hC.2 Ef w _ hs0 (hrep0 _ _ har)).mono ?_;rintro e w' ⟨u,E1,y,G,rfl,hy,hle1,hs1,hx1⟩;obtain⟨E',hle',hs',hx',hn⟩:=hback E1 w' G (by simpa using hle1) hs1 (hlen y G hy);exact hk _ E' _ w' ⟨y,G,hy,rfl⟩ (hle.trans (hle'.toN n0)) (hrl y G E' w' u hle' hs' (hx' _ _ hx1) hn)
  all_goals first|(rename_i e _;cases e;done)|(rename_i e;cases e;done)|(simp at hf2;done)|(simp_all;done)
 ·obtain⟨y,G,_,rfl⟩:=hτ;exact⟨rfl,rfl,rfl,rfl⟩
 ·obtain⟨y,G,_,rfl⟩:=hτ;refine T2 (λt ht hlt=>hl' ?_) (λr' hr=>⟨λe=>hl' ?_,λe=>hl' ?_⟩)
  ·simp only at ht;rw[hlt];simp[C0,ht]
  ·rw[e];exact e4o _ (e4t _ (e7o.2 ⟨r',hr,rfl⟩))
  ·rw[e];exact e4o _ (e4o _ (e7o.2 ⟨r',hr,rfl⟩))
 ·simp only at ht;simp[C0,ht]
 ·exact e4o _ (e4t _ (e7o.2 ⟨r',hr,rfl⟩))
end
end
section
theorem e2r{P:Program}{E:Env}{w:World}{H:AH}(hs:Sim E w H){t u e:TypeId}{sz bytes:Nat}{zero:List AV}(ty:TypeId)(ht:P.underlying t=some (.slice e))(hel:El P e sz bytes zero)
 (hu:∃ d,P.underlying u=some d/\∀ k,d≠.int k) {y:AV} {vy:Value} (hy:Rep E y vy) {news:List (List AV)} (hsrc:D4 H y=some news) (hsz:∀ e∈news,e.length=sz) (hne:0<news.length)
 (hb:news.length*bytes<=1000000000000) (hl:news.length<=1000000000) (ad:Option Addr) (r:Nat) (hr:r<H.length) (hg:∀ x,E.ρ r=some x->x.t=0) :
 ∃ u' w' E',(Builtin.append_ #[t,u] ty #[.slice ad 0 0,vy]).run P w=.ok u' w'/\Le E E'/\Sim E' w' (H.set r (some news))/\Rep E' (.own r sz 0 news.length news.length) u'/\∀ s,s≠r->E.ρ s=none->E'.ρ s=none:=by
 obtain⟨_,_,_,_,hlen,_⟩:=Rj (P:=P) hs hy hsrc sz hsz;have hsd:Sim E w.drew H:=hs.drawn (w.drawn+1);obtain⟨us,hus,hrow,hone,_,hfc⟩:=Rj (P:=P) hsd hy hsrc sz hsz;have hfc':=hfc news.length (e7y _);have hfull:us.extract 0 (news.length*sz)=us:=by rw[<-hus];simp
 rw[hfull]at hfc';have hold:(Builtin.firstCells sz 0 (.slice ad 0 0)).run P w.drew=.ok #[] w.drew:=by
  cases ad<;>simp[Builtin.firstCells,e7j,loadCells,loadCellsFrom]
 obtain⟨nc,k,z,hnc,hz,hrun⟩:=a8j (P:=P) (w:=w) ty ht hel hu hlen hfc' hold (base:=ad) (len:=0) (cap:=0) om om (by simpa using hb);have hrow2:Ce E sz (#[]++us++Builtin.zeroCells z.cells (nc-(0+news.length))) ([]++news):=Ce.append3 (λi e k v u hi=>by simp at hi) hrow (by simp) hus (by simp) hsz;rw[e6k]at hrow2;have hsk:Sim E { w with drawn:=k } H:=hs.drawn k;obtain⟨hle,hsim⟩:=hsk.renew hr news sz (#[]++us++Builtin.zeroCells z.cells (nc-(0+news.length))) e (0,0) (λy hy=>by rw[hg y hy];exact hne) hel.pos (.inl rfl) hsz (by simp;omega)
  (Rv (Rv (λi v hv=>by simp at hv) (a9d hone)) (Sh hz hel.all _)) hrow2
 refine⟨_,_,_,hrun,hle,hsim,?_,λs hs hn=>(Env.with_ne _ _ hs).trans hn⟩;have hzs:z.cells.size=sz:=by rw[<-hz.1,hel.len]
 have:=Rep.own (E:=E.with r ⟨w.heap.size,sz,(#[]++us++Builtin.zeroCells z.cells (nc-(0+news.length))).size,news.length⟩) r sz 0 news.length news.length nc _ (Env.with_same _ _ _) rfl rfl om om om
  (by
   simp only[Array.size_append,size_zeroCells,hzs,hus];have:(0+nc)*sz=news.length*sz+(nc-(0+news.length))*sz:=(by rw[<-e7x];congr 1;omega);simp only[this];exact Nat.le_of_eq (by simp))
 simpa using this
theorem d5e{P:Program}{sz bytes:Nat}{zero:List AV}{x y:Opd}{o:Op}(hf:Bu P (.append sz bytes zero x y) o=true){E:Env}{w:World}{H:AH}{fr:List AV}{a:Act}{oper:Oper}(ho:oper.op=o)(hs:Sim E w H)(hr:RepL E fr a.tmps)
 {r len:Nat} {news:List (List AV)} {ob:AObj} (e1:evalA fr x=.own r sz 0 len len\/(evalA fr x=.emp/\len=0)) (hsrc:D4 H (evalA fr y)=some news) (hl:Am H r len=some ob) (hok:news.all (λe=>decide (e.length=sz))=true/\(len+news.length)*bytes<=1000000000000/\len+news.length<=1000000000) :
 ∃ u w' E',(execOp a.eval oper).run P w=.ok (.value u) w'/\Le E E'/\Sim E' w' (H.set r (some (ob++news)))/\Rep E' (.own r sz 0 (len+news.length) (len+news.length)) u/\∀ s,s≠r->E.ρ s=none->E'.ρ s=none:=by
 obtain⟨hall1,hb,hsmall⟩:=hok;cases o<;>simp only[Bu,e52]at hf;rename_i c;obtain⟨callee,args,ts⟩:=c;cases callee<;>try (simp only[Bu,e52]at hf;done)
 rename_i b;cases b<;>simp only[Bu,e52]at hf;split at hf
 ·rename_i x' y' t u hargs hts;simp only[e5v]at hf;obtain⟨⟨⟨ht,hu⟩,h1⟩,h2⟩:=hf;have hx:=Bd hr h1;have hy:=Bd hr h2;have hargs:args= #[x',y']:=by apply e81;simpa using hargs
  have hts:ts= #[t,u]:=by apply e81;simpa using hts
  subst hargs;subst hts;obtain⟨e,hte,hel⟩:∃ e,P.underlying t=some (.slice e)/\El P e sz bytes zero:=by
   split at ht
   ·exact⟨_,by assumption,a5u ht⟩
   ·cases ht
  have hu:=c5d hu;have Bv:∀ {s:Value} {u':Value} {w':World},a.eval x'=s->(Builtin.append_ #[t,u] oper.type #[s,a.eval y']).run P w=.ok u' w'->(execOp a.eval oper).run P w=.ok (.value u') w':=by
   intro s u' w' hse hrun;subst hse;simp only[execOp,ho,resolve,e7i,e7j,Result.andThen,invoke,builtin,List.map_toArray,e75,e7k,hrun]
  replace hx:Rep E (.own r sz 0 len len) (a.eval x'):=by
   rcases e1 with e1|⟨e1,rfl⟩
   ·rwa [e1]at hx
   ·rw[e1]at hx;obtain⟨ad,he⟩:=Hg hx;rw[he];exact .own0 _ _ _
  obtain⟨hat,hlen,htt⟩:=G1 hs hl;have hsz:=ao0 hall1;obtain⟨us,hus,hrow,hone,hlenof,hfc⟩:=Rj (P:=P) hs hy hsrc sz hsz;have hfc1:=hfc news.length (e7y _);have hfull:us.extract 0 (news.length*sz)=us:=by rw[<-hus];simp
  rw[hfull]at hfc1;rcases e56 news.length with h0|hpos
  ·have hnil:news=[]:=e4a.1 h0;subst hnil;obtain⟨ad,cap,hxv,hll⟩:∃ ad cap,a.eval x'=.slice ad len cap/\len<=cap:=by
    rcases Iu hx htt with ⟨ad,_,rfl,_,he⟩|⟨x2,cap,_,_,_,g,_,_,he⟩
    ·exact⟨ad,0,he,e7y _⟩
    ·exact⟨_,cap,he,g⟩
   have hrun:(Builtin.append_ #[t,u] oper.type #[.slice ad len cap,a.eval y']).run P w=.ok (.slice ad len cap) w:=by
    obtain⟨i,z,hi,hsi,_⟩:=hel.ex;obtain⟨d,hd,hdk⟩:=hu;have hm:(match d with|.int _=>true|_=>false)=false:=by
     cases d<;>first|rfl|exact absurd rfl (hdk _)
    have hus0:us.toList=[]:=by
     have:us.size=0:=(by simpa using hus);simpa using this
    rw[e6f]at hfc1 hlenof;unfold Builtin.append_;simp only[e4k,e49,e4b,e7i,e6u hte,Result.andThen,Fb hi,hsi,e6u hd,e7j,hm,e52,if_false,hlenof,e7l,hll,if_true,e6y,hfc1]
    cases ad with
    |none=>simp[e7j,Sem.run]
    |some ad=>simp only[hus0,storeCells,e7i,e7j,Result.andThen]
   refine⟨_,w,E,Bv hxv hrun,Le.refl E,?_,?_,λs _ h=>h⟩
   ·rw[e6l,a3d hat];exact hs
   ·rw[<-hxv];simpa using hx
  ·rcases Iu hx htt with ⟨ad,_,rfl,_,hxv⟩|⟨x2,cap,hx2,hsx,g1,g2,g3,g4,hxv⟩
   ·have ho:ob=[]:=e4a.1 hlen;subst ho;obtain⟨u',w',E',h1,h2,h3,h4,h5⟩:=e2r (P:=P) hs oper.type hte hel hu hy hsrc hsz hpos (by simpa using hb) om ad r (Qx hat) (λx hx'=>htt x hx');exact⟨u',w',E',Bv hxv h1,h2,by simpa using h3,by simpa using h4,h5⟩
   ·have hlies:=Fq hs hat hx2;obtain⟨cells,te,q,hblk,hcn,hq,hcone,hcrow⟩:=hlies.blk;have hszo:∀ e∈ob,e.length=sz:=(by rw[<-hsx];exact hlies.sz);rw[Nat.zero_mul]at hxv;rw[e7p,hsx]at g4;have hlc:len*sz<=cap*sz:=e4r _ g2;by_cases hroom:len+news.length<=cap
    ·have hmul:(len+news.length)*sz<=cap*sz:=e4r _ hroom;rw[e7x]at hmul;have hrun:=ay0 (P:=P) oper.type hte hel hu hlenof hfc1 hone (off:=0) hblk (by rw[hcn];exact hq) hroom om;rw[e7p]at hrun;have hrs:=Ce.splice (E:=E) (sz:=sz) (cells:=cells) (o:=ob) (news:=news) (by rw[<-hsx];exact hcrow) hszo hsz hrow hus ob.length (e7y _) (by rw[hlen,e7x];omega);have e4:ob.take ob.length++news++ob.drop (ob.length+news.length)=ob++news:=(by simp);rw[e4,hlen]at hrs;obtain⟨hle,hsim⟩:=hs.write hat hx2 (o':=ob++news) (splice cells (len*sz) us.toList) te q (by rw[Uk];exact hcn) hq (by simp)
      (by
       intro e' he';rcases e6m.1 he' with h'|h'
       ·exact hlies.sz e' h'
       ·rw[hsx];exact hsz e' h')
      (by rw[e58,hlen,hsx,e7x];omega) (Zr hcone _ _ hone (by simp;omega)) (by rw[hsx];exact hrs)
     refine⟨_,_,_,Bv hxv hrun,hle,hsim,?_,λs hs hn=>(Env.with_ne _ _ hs).trans hn⟩
     have:=Rep.own (E:=E.with r { x2 with t:=(ob++news).length }) r sz 0 (len+news.length) (len+news.length) cap _ (Env.with_same _ _ _) (by simp;omega) hsx om hroom om (by rw[e7p];simp only[hsx];omega);simpa using this
    ·have hsd:Sim E w.drew H:=hs.drawn (w.drawn+1);obtain⟨us',hus',hrow',hone',_,hfc'⟩:=Rj (P:=P) hsd hy hsrc sz hsz;have hfc2:=hfc' news.length (e7y _);have hfull':us'.extract 0 (news.length*sz)=us':=(by rw[<-hus'];simp);rw[hfull']at hfc2;have hold:(Builtin.firstCells sz len (.slice (some ⟨x2.b,0,none⟩) len cap)).run P w.drew=.ok (cells.extract 0 (0+len*sz)) w.drew:=by
      simp only[Builtin.firstCells];exact a3g P (w:=w.drew) hblk 0 _ om
     obtain⟨nc,k,z,hnc,hz,hrun⟩:=a8j (P:=P) (w:=w) oper.type hte hel hu hlenof hfc2 hold (base:=some ⟨x2.b,0,none⟩) (len:=len) (cap:=cap) om om hb;have hro:Ce E sz (cells.extract 0 (0+len*sz)) ob:=by
      intro i e' k' c u' hi hk hu';rw[e4f]at hu';split at hu'
      ·rw[e7p]at hu';rw[<-hsx]at hu';exact hcrow i e' k' c u' hi hk hu'
      ·cases hu'
     have hrow2:=Ce.append3 (c:=Builtin.zeroCells z.cells (nc-(len+news.length))) hro hrow' (by simp;rw[hlen];omega) hus' hszo hsz;have hsk:Sim E { w with drawn:=k } H:=hs.drawn k;obtain⟨hle,hsim⟩:=hsk.renew (Qx hat) (ob++news) sz (cells.extract 0 (0+len*sz)++us'++Builtin.zeroCells z.cells (nc-(len+news.length))) e (0,0)
      (λy hy=>by rw[htt y hy];simp;omega) hel.pos (.inl rfl)
      (by
       intro e' he';rcases e6m.1 he' with h'|h'
       ·exact hszo e' h'
       ·exact hsz e' h')
      (by rw[e58,e7x,hlen];simp;omega)
      (Rv (Rv (λi v hv=>by
       rw[e4f]at hv;split at hv
       ·exact hcone _ v hv
       ·cases hv) (a9d hone')) (Sh hz hel.all _)) hrow2
     refine⟨_,_,_,Bv hxv hrun,hle,hsim,?_,λs hs hn=>(Env.with_ne _ _ hs).trans hn⟩;have hzs:z.cells.size=sz:=by rw[<-hz.1,hel.len]
     have:=Rep.own (E:=E.with r ⟨w.heap.size,sz,(cells.extract 0 (0+len*sz)++us'++Builtin.zeroCells z.cells (nc-(len+news.length))).size,(ob++news).length⟩) r sz 0 (len+news.length) (len+news.length) nc _ (Env.with_same _ _ _)
      (by simp;omega) rfl om hnc om
      (by
       simp only[Array.size_append,size_zeroCells,hzs,hus'];have e6:(0+nc)*sz=len*sz+news.length*sz+(nc-(len+news.length))*sz:=(by rw[<-e7x,<-e7x];congr 1;omega);rw[e6];have:(cells.extract 0 (0+len*sz)).size=len*sz:=(by simp;omega);rw[this];exact e7y _)
     simpa using this
 ·cases hf
theorem d11{H H2:AH}{y:AV}(h:∀ r,.con r∈Fz y->H.at r=H2.at r):D4 H y=D4 H2 y:=by
 cases y<;>first|rfl|skip
 rename_i r sz off len tot;simp only[D4,G5];rw[a4a (h r (by simp[Fz]))]
section
variable {P:Program} {n0:Nat}
theorem Does.append{E0:Env}{ops:Array Oper}{QQ:Exit->Act->World->Prop}{k:Nat}{o:Oper}{d:Option Nat}{gd:Option (Nat×Bool)}{sz bytes:Nat}{zero:List AV}{x y:Opd}{σ0:St}(ho:ops[k]?=some o)(hf:fitI P ops ⟨d,gd,.append sz bytes zero x y⟩ o=true)(hop:Nd σ0.fr gd)
 {r len:Nat} {news:List (List AV)} {ob:AObj} (e1:evalA σ0.fr x=.own r sz 0 len len\/(evalA σ0.fr x=.emp/\len=0)) (hsrc:D4 σ0.H (evalA σ0.fr y)=some news) (hl:Am σ0.H r len=some ob) (hok:news.all (λe=>decide (e.length=sz))=true/\(len+news.length)*bytes<=1000000000000/\len+news.length<=1000000000) :
 Does P n0 E0 ops QQ k ⟨Fa ⟨d,gd,.append sz bytes zero x y⟩++.con r::Fz (evalA σ0.fr y),C0 d++[.con r,.len r],d,.own r sz 0 (len+news.length) (len+news.length),[r],[some (ob++news)]⟩ σ0:=by
 refine⟨λσ ha E w a next hle rl hk=>?_,λσ ha l hl'=>?_,λt ht=>?_,λr' hr=>by simp at hr;simp[hr]⟩
 ·obtain⟨hev,hgd⟩:=Vt (A6:=⟨d,gd,.append sz bytes zero x y⟩) ha (λl hl=>e4t _ hl);have hcon:=Rz (ha.on (.con r) (by simp));refine R9 ho hf rl (λg want hg=>by rw[hgd g want hg];exact hop g want hg) ?_;have hf1:Bu P (.append sz bytes zero x y) o.op=true:=by
   have hv:∃ v H',Cc (.append sz bytes zero x y) (evalA σ0.fr) σ0.H=some (v,H'):=by
    rcases e1 with e1|⟨e1,h0⟩
    ·simp only[Cc,e1,hsrc,hl,hok.1];rw[if_neg (by simp),if_pos (by simp),if_pos hok.2];exact⟨_,_,rfl⟩
    ·subst h0;have h1:=hok.2;rw[e7p]at h1;simp only[Cc,e1,hsrc];rw[if_pos ⟨h1.1,h1.2,hok.1⟩];exact⟨_,_,rfl⟩
   obtain⟨v,H',hv⟩:=hv
   have:=ak8 hf (.inr ⟨evalA σ0.fr,σ0.H,_,hv⟩);rw[e6n]at this;rcases this with h|h
   ·rw[ak9 h]at hv;cases hv
   ·exact h
  have hsrc':D4 σ.H (evalA σ.fr y)=some news:=by
   rw[hev y (by simp[Dm]),<-hsrc];exact d11 λr' hr=>(Rz (ha.on (.con r') (by simp only[e6m,e79];exact .inr (.inr hr)))).1
  obtain⟨u,w',E',hrun,hle',hs',hx',hn⟩:=d5e hf1 rfl rl.sim rl.rep (by rw[hev x (by simp[Dm])];exact e1) hsrc' (by rw[a4a hcon.1];exact hl) hok;unfold Oper.wp;rw[hrun];refine hk E' _ w' (hle.trans (hle'.toN n0)) ⟨hs',?_,J0 rl.defers _ _,λr' hr=>?_⟩
  ·rw[<-S8 hf];exact Iz (rl.rep.mono hle') hx' _
  ·simp only[Tr.app,e5v]at hr;refine hn r' ?_ (rl.free r' hr.1);rintro rfl;simp at hr
 ·refine T2 (λt ht hlt=>hl' ?_) (λr' hr=>⟨λe=>hl' ?_,λe=>hl' ?_⟩)
  ·simp only at ht;rw[hlt];simp[C0,ht]
  ·simp at hr;rw[e,hr];simp
  ·simp at hr;rw[e,hr];simp
 ·simp only at ht;simp[C0,ht]
end
end
section
abbrev Hc:=Nat×List Loc×List Loc
def logOf(x:Nat×Tr):Hc:=(x.1,x.2.R,x.2.W)
def a9p(a b:Hc):Bool:=a.2.2.all (λl=> !b.2.1.contains l&&!b.2.2.contains l)&&b.2.2.all λl=> !a.2.1.contains l
def confOK(tab:List (List Nat)):List Hc->Bool
 |[]=>true
 |a::l=>l.all (λb=>anT tab b.1 a.1||a9p a b)&&confOK tab l
def Uj(P:Program)(op:AOp)(d:Option Nat)(c:Nat)(fr:List AV)(H:AH)(K:List Loc->List Loc->Nat->List AV->AH->Prop):Prop:=
 match op with
 |.call f args=>∃ (rs:List Nat) (k:Nat) (x:AV) (H1:AH),rs.Nodup/\(∀ r∈rs,r<c)/\c+k<=H.length/\H1.length=rs.length+k/\
  C P f (Bw (Aw rs) (args.map (evalA fr))) (rs.map λr=>(H.at r).map (renO (Aw rs))) (λy G=>y=x/\G=H1)/\
  K ((rs++List.range' c k).map .con) ((rs++List.range' c k).map .con++(rs++List.range' c k).map .len) (c+k) (Aq fr d (ren (Au (rs++List.range' c k)) x))
    (C3 H (rs++List.range' c k) (H1.map λo=>o.map (renO (Au (rs++List.range' c k)))))
 |.store n p x=>∃ (r i j tot:Nat) (cs e:List AV) (o:AObj),evalA fr p=.ptr r i j tot/\cellsOf (evalA fr x)=some cs/\Am H r tot=some o/\o[i]?=some e/\(cs.length=n/\j+n<=e.length/\cs.all cellA=true)/\r<c/\
  K [.con r] [.con r] c (Aq fr d .top) (H.set r (some (o.set i (lay e j cs))))
 |.append sz bytes zero x y=>∃ (r len:Nat) (news:List (List AV)) (o:AObj),(evalA fr x=.own r sz 0 len len\/(evalA fr x=.emp/\len=0))/\D4 H (evalA fr y)=some news/\Am H r len=some o/\(news.all (λe=>decide (e.length=sz))=true/\(len+news.length)*bytes<=1000000000000/\len+news.length<=1000000000)/\r<c/\
  K (.con r::Fz (evalA fr y)) [.con r,.len r] c (Aq fr d (.own r sz 0 (len+news.length) (len+news.length))) (H.set r (some (o++news)))
 |.calld x0 args=>∃ (f:FuncId) (first cap:List AV),evalA fr x0=.fn (.func f) first cap/\∃ (rs:List Nat) (k:Nat) (x:AV) (H1:AH),rs.Nodup/\(∀ r∈rs,r<c)/\c+k<=H.length/\H1.length=rs.length+k/\
  C P f (Bw (Aw rs) (first++args.map (evalA fr)++cap)) (rs.map λr=>(H.at r).map (renO (Aw rs))) (λy G=>y=x/\G=H1)/\
  K ((rs++List.range' c k).map .con) ((rs++List.range' c k).map .con++(rs++List.range' c k).map .len) (c+k) (Aq fr d (ren (Au (rs++List.range' c k)) x))
    (C3 H (rs++List.range' c k) (H1.map λo=>o.map (renO (Au (rs++List.range' c k)))))
 |.eqnil _ _=>False
 |.bad=>False
 |op=>
   if O4 op then ∃ (v:AV) (o:AObj),Cc op (evalA fr) []=some (v,[some o])/\c<H.length/\
    K [.con c] [.con c,.len c] (c+1) (Aq fr d (ren (Au [c]) v)) (H.set c (some o))
   else ∃ v,Ar op (evalA fr) H=some v/\K (Gq op (evalA fr)) [] c (Aq fr d v) H
def aw1(P:Program)(op:AOp)(d:Option Nat)(c:Nat)(fr:List AV)(H:AH)(late:List Loc->List Loc->Prop)(K:List Loc->List Loc->Nat->List AV->AH->Prop):Prop:=
 match op with
 |.call f args=>∃ (rs:List Nat) (k:Nat) (K0:AV->AH->Prop),rs.Nodup/\(∀ r∈rs,r<c)/\c+k<=H.length/\late ((rs++List.range' c k).map .con) ((rs++List.range' c k).map .con++(rs++List.range' c k).map .len)/\
  C P f (Bw (Aw rs) (args.map (evalA fr))) (rs.map λr=>(H.at r).map (renO (Aw rs))) K0/\
  ∀ y G,K0 y G->G.length=rs.length+k/\K ((rs++List.range' c k).map .con) ((rs++List.range' c k).map .con++(rs++List.range' c k).map .len) (c+k) (Aq fr d (ren (Au (rs++List.range' c k)) y))
    (C3 H (rs++List.range' c k) (G.map λo=>o.map (renO (Au (rs++List.range' c k)))))
 |_=>False
def Dr(i:Nat)(A6:AInstr)(R W:List Loc):Hc:=(i,Fa A6++R,C0 A6.dst++W)
def b41(tab:List (List Nat))(lg:List Hc)(i:Nat)(A6:AInstr)(rest:List (Nat×AInstr))(R W:List Loc):Prop:=
 confOK tab (lg++[Dr i A6 R W])=true/\rest.all (λy=>anT tab y.1 i)=true
def RE0(P:Program)(tab:List (List Nat)):List (Nat×AInstr)->Nat->List Hc->(List AV->AH->Prop)->List AV->AH->Prop
 |[],_,lg,K,fr,H=>confOK tab lg=true/\K fr H
 |(i,A6)::rest,c,lg,K,fr,H=>
   match A6.guard with
   |none=>Uj P A6.op A6.dst c fr H (λR W c' fr' H'=>RE0 P tab rest c' (lg++[Dr i A6 R W]) K fr' H')\/
    aw1 P A6.op A6.dst c fr H (b41 tab lg i A6 rest) (λR W c' fr' H'=>RE0 P tab rest c' (lg++[Dr i A6 R W]) K fr' H')
   |some (g,want)=>S5 (fr[g]?) want (Uj P A6.op A6.dst c fr H λR W c' fr' H'=>RE0 P tab rest c' (lg++[Dr i A6 R W]) K fr' H')
    (RE0 P tab rest c (lg++[(i,[.slot g],C0 A6.dst)]) K (Aq fr A6.dst (.tuple [])) H)
def a39(P:Program)(op:AOp)(d:Option Nat)(c:Nat)(fr:List AV)(H:AH)(K:List Loc->List Loc->Nat->List AV->AH->Prop):Prop:=
 match op with
 |.call f args=>∃ x,Db x=true/\C P f (B3 H (args.map (evalA fr))) [] (λy _=>y=x)/\K ((F7 H (args.map (evalA fr))).map .con) [] c (Aq fr d x) H
 |_=>False
def RE(P:Program)(tab:List (List Nat)):List (Nat×AInstr)->Nat->List Hc->(List AV->AH->Prop)->List AV->AH->Prop
 |[],_,lg,K,fr,H=>confOK tab lg=true/\K fr H
 |(i,A6)::rest,c,lg,K,fr,H=>
   match A6.guard with
   |none=>Uj P A6.op A6.dst c fr H (λR W c' fr' H'=>RE P tab rest c' (lg++[Dr i A6 R W]) K fr' H')\/
    aw1 P A6.op A6.dst c fr H (b41 tab lg i A6 rest) (λR W c' fr' H'=>RE P tab rest c' (lg++[Dr i A6 R W]) K fr' H')\/
    a39 P A6.op A6.dst c fr H (λR W c' fr' H'=>RE P tab rest c' (lg++[Dr i A6 R W]) K fr' H')
   |some (g,want)=>S5 (fr[g]?) want (Uj P A6.op A6.dst c fr H (λR W c' fr' H'=>RE P tab rest c' (lg++[Dr i A6 R W]) K fr' H')\/a39 P A6.op A6.dst c fr H (λR W c' fr' H'=>RE P tab rest c' (lg++[Dr i A6 R W]) K fr' H'))
    (RE P tab rest c (lg++[(i,[.slot g],C0 A6.dst)]) K (Aq fr A6.dst (.tuple [])) H)
section
variable {P:Program} {n0:Nat}
theorem d0z{A6:AInstr}{o:Oper}{ops:Array Oper}{E0:Env}{QQ:Exit->Act->World->Prop}{i c:Nat}{fr:List AV}{H:AH}{K:List Loc->List Loc->Nat->List AV->AH->Prop}(ho:ops[i]?=some o)(hf:fitI P ops A6 o=true)(hop:Nd fr A6.guard)
 (h:Uj P A6.op A6.dst c fr H K):∃ (τ:Tr) (R W:List Loc) (c':Nat),τ.R=Fa A6++R/\τ.W=C0 A6.dst++W/\Does P n0 E0 ops QQ i τ ⟨fr,H,λr=>decide (c<=r)⟩/\c<=c' /\
  τ.app ⟨fr,H,λr=>decide (c<=r)⟩=⟨(τ.app ⟨fr,H,λr=>decide (c<=r)⟩).fr,(τ.app ⟨fr,H,λr=>decide (c<=r)⟩).H,λr=>decide (c'<=r)⟩/\
  K R W c' (τ.app ⟨fr,H,λr=>decide (c<=r)⟩).fr (τ.app ⟨fr,H,λr=>decide (c<=r)⟩).H:=by
 obtain⟨d,gd,op⟩:=A6;have dflt:((if O4 op then ∃ (v:AV) (o:AObj),Cc op (evalA fr) []=some (v,[some o])/\c<H.length/\ K [.con c] [.con c,.len c] (c+1) (Aq fr d (ren (Au [c]) v)) (H.set c (some o)) else ∃ v,Ar op (evalA fr) H=some v/\K (Gq op (evalA fr)) [] c (Aq fr d v) H))->∃ (τ:Tr) (R W:List Loc) (c':Nat),τ.R=Fa ⟨d,gd,op⟩++R/\τ.W=C0 d++W/\Does P n0 E0 ops QQ i τ ⟨fr,H,λr=>decide (c<=r)⟩/\c<=c' /\
   τ.app ⟨fr,H,λr=>decide (c<=r)⟩=⟨(τ.app ⟨fr,H,λr=>decide (c<=r)⟩).fr,(τ.app ⟨fr,H,λr=>decide (c<=r)⟩).H,λr=>decide (c'<=r)⟩/\
   K R W c' (τ.app ⟨fr,H,λr=>decide (c<=r)⟩).fr (τ.app ⟨fr,H,λr=>decide (c<=r)⟩).H:=by
  intro h;split at h
  ·rename_i hfo;obtain⟨v,ob,hv,hc,hk⟩:=h;refine⟨_,[.con c],[.con c,.len c],c+1,rfl,rfl,Does.fresh ho hf hop hfo hv hc (by simp),by omega,?_,hk⟩;simp only[Tr.app,St.mk.injEq,e83];funext r;by_cases h1:r=c
   ·subst h1;simp
   ·by_cases h2:c<=r
    ·have:c+1<=r:=om;simp[h1,h2,this]
    ·have:¬ c+1<=r:=om;simp[h2,this]
  ·obtain⟨v,hv,hk⟩:=h;refine⟨_,Gq op (evalA fr),[],c,rfl,by simp,Does.val ho hf hop hv,by omega,?_,hk⟩;simp[Tr.app]
 cases op
 case call f args=>
  obtain⟨rs,k,x,H1,h1,h2,h3,h4,h5,h6⟩:=h;have hnd:(rs++List.range' c k).Nodup:=b0f h1 h2;refine⟨_,_,_,c+k,rfl,rfl,Does.call ho hf hop hnd (λr hr=>?_) (λr hr=>?_) (by simp;omega) h5,by omega,?_,h6⟩
  ·rw[e6m,e5m]at hr;simp only;rcases hr with hr|hr
   ·have:=h2 r hr;omega
   ·omega
  ·rw[e5m]at hr;simp;omega
  ·simp only[Tr.app,St.mk.injEq,e83];exact b1g h2
 case store n p x=>
  obtain⟨r,i',j,tot,cs,e,ob,h1,h2,h3,h4,h5,hrc,h6⟩:=h;refine⟨_,_,_,c,rfl,rfl,Does.store ho hf hop h1 h2 h3 h4 h5,by omega,?_,h6⟩;simp only[Tr.app,St.mk.injEq,e83];funext r';by_cases h7:r'=r
  ·subst h7;have:¬ c<=r':=om;simp[this]
  ·simp[h7]
 case append sz bytes zero x y=>
  obtain⟨r,len,news,ob,h1,h2,h3,h4,hrc,h6⟩:=h;refine⟨_,_,_,c,rfl,rfl,Does.append ho hf hop h1 h2 h3 h4,by omega,?_,h6⟩;simp only[Tr.app,St.mk.injEq,e83];funext r';by_cases h7:r'=r
  ·subst h7;have:¬ c<=r':=om;simp[this]
  ·simp[h7]
 case calld x0 args=>
  obtain⟨f,first,cap,hx0,rs,k,x,H1,h1,h2,h3,h4,h5,h6⟩:=h;have hnd:(rs++List.range' c k).Nodup:=b0f h1 h2;refine⟨_,_,_,c+k,rfl,rfl,Does.calld ho hf hop hx0 hnd (λr hr=>?_) (λr hr=>?_) (by simp;omega) h5,by omega,?_,h6⟩
  ·rw[e6m,e5m]at hr;simp only;rcases hr with hr|hr
   ·have:=h2 r hr;omega
   ·omega
  ·rw[e5m]at hr;simp;omega
  ·simp only[Tr.app,St.mk.injEq,e83];exact b1g h2
 case eqnil=>exact h.elim
 case bad=>exact h.elim
 all_goals exact dflt h
inductive Run (P:Program) (n0:Nat) (E0:Env) (ops:Array Oper) (QQ:Exit->Act->World->Prop) (tab:List (List Nat)) (K:List AV->AH->Prop):List Nat->List (Nat×Tr)->St->Prop
 |done (lg:List (Nat×Tr)) (σ:St) (hc:confOK tab (lg.map logOf)=true) (hk:K σ.fr σ.H):Run P n0 E0 ops QQ tab K [] lg σ
 |exact(i:Nat) (τ:Tr) (is:List Nat) (lg:List (Nat×Tr)) (σ:St) (hd:Does P n0 E0 ops QQ i τ σ) (hr:Run P n0 E0 ops QQ tab K is (lg++[(i,τ)]) (τ.app σ)):Run P n0 E0 ops QQ tab K (i::is) lg σ
 |fork (i:Nat) (T:Tr) (F:Tr->Prop) (is:List Nat) (lg:List (Nat×Tr)) (σ:St) (hc:confOK tab ((lg++[(i,T)]).map logOf)=true) (hl:∀ j∈is,anT tab j i=true) (hd:DoesF P n0 E0 ops QQ i T F σ)
  (hr:∀ τ,F τ->Run P n0 E0 ops QQ tab K is (lg++[(i,τ)]) (τ.app σ)):Run P n0 E0 ops QQ tab K (i::is) lg σ
theorem a79{tab:List (List Nat)}{ops:Array Oper}{E0:Env}{QQ:Exit->Act->World->Prop}{K:List AV->AH->Prop}:∀ (is:List (Nat×AInstr)) (c:Nat) (lg:List (Nat×Tr)) (fr:List AV) (H:AH),
 (∀ x∈is,∃ o,ops[x.1]?=some o/\fitI P ops x.2 o=true)->RE P tab is c (lg.map logOf) K fr H->
 Run P n0 E0 ops QQ tab K (is.map Prod.fst) lg ⟨fr,H,λr=>decide (c<=r)⟩
 |[],c,lg,fr,H,_,h=>.done lg _ h.1 h.2
 |(i,A6)::rest,c,lg,fr,H,hfit,h=>by
   obtain⟨o,ho,hf⟩:=hfit (i,A6) (by simp);simp only at ho hf;have hfit':∀ x∈rest,∃ o,ops[x.1]?=some o/\fitI P ops x.2 o=true:=λx hx=>hfit x (by simp[hx]);have go:Nd fr A6.guard->Uj P A6.op A6.dst c fr H (λR W c' fr' H'=>RE P tab rest c' (lg.map logOf++[Dr i A6 R W]) K fr' H')->
    Run P n0 E0 ops QQ tab K (((i,A6)::rest).map Prod.fst) lg ⟨fr,H,λr=>decide (c<=r)⟩:=by
    intro hop h;obtain⟨τ,R,W,c',h1,h2,h3,_,h4,h5⟩:=d0z (n0:=n0) (E0:=E0) (QQ:=QQ) ho hf hop h;refine .exact i τ _ lg _ h3 ?_;rw[h4];refine a79 rest c' _ _ _ hfit' ?_;have e:(lg++[(i,τ)]).map logOf=lg.map logOf++[Dr i A6 R W]:=(by simp[logOf,Dr,h1,h2]);rw[e];exact h5
   have goT:Nd fr A6.guard->a39 P A6.op A6.dst c fr H (λR W c' fr' H'=>RE P tab rest c' (lg.map logOf++[Dr i A6 R W]) K fr' H')->
    Run P n0 E0 ops QQ tab K (((i,A6)::rest).map Prod.fst) lg ⟨fr,H,λr=>decide (c<=r)⟩:=by
    intro hop h;obtain⟨d,gd,op⟩:=A6;cases op with
    |call f args=>
      obtain⟨x,h1,h2,h3⟩:=h;have hd:=Does.look (n0:=n0) (E0:=E0) (QQ:=QQ) (σ0:=⟨fr,H,λr=>decide (c<=r)⟩) ho hf hop h1 h2;refine .exact i _ _ lg _ hd ?_;have:Tr.app ⟨Fa ⟨d,gd,.call f args⟩++(F7 H (args.map (evalA fr))).map .con,C0 d,d,x,[],[]⟩ ⟨fr,H,λr=>decide (c<=r)⟩=⟨Aq fr d x,H,λr=>decide (c<=r)⟩:=by
       simp[Tr.app,C3]
      rw[this];refine a79 rest c _ _ _ hfit' ?_;have e:(lg++[(i,(⟨Fa ⟨d,gd,.call f args⟩++(F7 H (args.map (evalA fr))).map .con,C0 d,d,x,[],[]⟩:Tr))]).map logOf=lg.map logOf++[Dr i ⟨d,gd,.call f args⟩ ((F7 H (args.map (evalA fr))).map .con) []]:=(by simp[logOf,Dr]);rw[e];exact h3
    |_=>exact h.elim
   have goF:Nd fr A6.guard->aw1 P A6.op A6.dst c fr H (b41 tab (lg.map logOf) i A6 rest) (λR W c' fr' H'=>RE P tab rest c' (lg.map logOf++[Dr i A6 R W]) K fr' H')->
    Run P n0 E0 ops QQ tab K (((i,A6)::rest).map Prod.fst) lg ⟨fr,H,λr=>decide (c<=r)⟩:=by
    intro hop h;obtain⟨d,gd,op⟩:=A6;cases op with
    |call f args=>
      obtain⟨rs,k,K0,h1,h2,h3,⟨h4,h4'⟩,h5,h6⟩:=h;have hnd:(rs++List.range' c k).Nodup:=b0f h1 h2;have hT:logOf (i,(⟨Fa ⟨d,gd,.call f args⟩++(rs++List.range' c k).map .con,C0 d++((rs++List.range' c k).map .con++(rs++List.range' c k).map .len),d,.top,rs++List.range' c k,[]⟩:Tr)) =
       Dr i ⟨d,gd,.call f args⟩ ((rs++List.range' c k).map .con) ((rs++List.range' c k).map .con++(rs++List.range' c k).map .len):=rfl
      refine .fork i ⟨Fa ⟨d,gd,.call f args⟩++(rs++List.range' c k).map .con,C0 d++((rs++List.range' c k).map .con++(rs++List.range' c k).map .len),d,.top,rs++List.range' c k,[]⟩
       (λτ=>∃ y G,K0 y G/\τ=⟨Fa ⟨d,gd,.call f args⟩++(rs++List.range' c k).map .con,C0 d++((rs++List.range' c k).map .con++(rs++List.range' c k).map .len),d,ren (Au (rs++List.range' c k)) y,rs++List.range' c k,G.map λo=>o.map (renO (Au (rs++List.range' c k)))⟩)
       _ lg _ ?_ ?_ ?_ ?_
      ·rw[e6o,e75,e7k,hT];exact h4
      ·intro j hj;obtain⟨x,hx,rfl⟩:=e7o.1 hj;exact e5x.1 h4' x hx
      ·refine DoesF.call ho hf hop hnd (λr hr=>?_) (λr hr=>?_) (λy G hy=>?_) h5
       ·rw[e6m,e5m]at hr;simp only;rcases hr with hr|hr
        ·have:=h2 r hr;omega
        ·omega
       ·rw[e5m]at hr;simp;omega
       ·have:=(h6 y G hy).1;simp;omega
      ·rintro τ ⟨y,G,hy,rfl⟩;have hk:=(h6 y G hy).2;have e2:Tr.app ⟨Fa ⟨d,gd,.call f args⟩++(rs++List.range' c k).map .con,C0 d++((rs++List.range' c k).map .con++(rs++List.range' c k).map .len),d,ren (Au (rs++List.range' c k)) y,rs++List.range' c k,G.map λo=>o.map (renO (Au (rs++List.range' c k)))⟩ ⟨fr,H,λr=>decide (c<=r)⟩ =
        ⟨Aq fr d (ren (Au (rs++List.range' c k)) y),C3 H (rs++List.range' c k) (G.map λo=>o.map (renO (Au (rs++List.range' c k)))),λr=>decide (c+k<=r)⟩:=by
        simp only[Tr.app,St.mk.injEq,e83];exact b1g h2
       rw[e2];refine a79 rest (c+k) _ _ _ hfit' ?_;have e:(lg++[(i,(⟨Fa ⟨d,gd,.call f args⟩++(rs++List.range' c k).map .con,C0 d++((rs++List.range' c k).map .con++(rs++List.range' c k).map .len),d,ren (Au (rs++List.range' c k)) y,rs++List.range' c k,G.map λo=>o.map (renO (Au (rs++List.range' c k)))⟩:Tr))]).map logOf =
        lg.map logOf++[Dr i ⟨d,gd,.call f args⟩ ((rs++List.range' c k).map .con) ((rs++List.range' c k).map .con++(rs++List.range' c k).map .len)]:=by simp[logOf,Dr]
       rw[e];exact hk
    |_=>exact h.elim
   have skip:∀ g want,A6.guard=some (g,want)->((∃ b,fr[g]?=some (.bool b)/\b≠want)\/fr[g]?=some (.tuple []))->RE P tab rest c (lg.map logOf++[(i,[.slot g],C0 A6.dst)]) K (Aq fr A6.dst (.tuple [])) H->
    Run P n0 E0 ops QQ tab K (((i,A6)::rest).map Prod.fst) lg ⟨fr,H,λr=>decide (c<=r)⟩:=by
    intro g want hig hs h;have hd:=Does.skip (n0:=n0) (E0:=E0) (QQ:=QQ) (σ0:=⟨fr,H,λr=>decide (c<=r)⟩) ho hf hig hs;refine .exact i _ _ lg _ hd ?_;have:Tr.app ⟨[.slot g],C0 A6.dst,A6.dst,.tuple [],[],[]⟩ ⟨fr,H,λr=>decide (c<=r)⟩=⟨Aq fr A6.dst (.tuple []),H,λr=>decide (c<=r)⟩:=by
     simp[Tr.app,C3]
    rw[this];refine a79 rest c _ _ _ hfit' ?_;have e:(lg++[(i,(⟨[.slot g],C0 A6.dst,A6.dst,.tuple [],[],[]⟩:Tr))]).map logOf=lg.map logOf++[(i,[.slot g],C0 A6.dst)]:=(by simp[logOf]);rw[e];exact h
   unfold RE at h;cases hig:A6.guard with
   |none=>
     rw[hig]at h;have hop:Nd fr A6.guard:=λg want hg=>(by rw[hig]at hg;cases hg);rcases h with h|h|h
     ·exact go hop h
     ·exact goF hop h
     ·exact goT hop h
   |some gw=>
     obtain⟨g,want⟩:=gw;rw[hig]at h;rcases h with ⟨b,hb,hyes,hno⟩|⟨hb,hno⟩
     ·by_cases hbw:b=want
      ·have hop:Nd fr A6.guard:=λg' want' hg=>(by rw[hig]at hg;cases hg;rw[<-hbw];exact hb);rcases hyes hbw with h|h
       ·exact go hop h
       ·exact goT hop h
      ·exact skip g want hig (.inl ⟨b,hb,hbw⟩) (hno hbw)
     ·exact skip g want hig (.inr hb) hno
def WD(P:Program)(tab:List (List Nat)):List (List (Nat×AInstr))->(List AV->AH->Prop)->List AV->AH->Prop
 |[],K,fr,H=>K fr H
 |[(_,A6)]::rest,K,fr,H=>RA P [A6] (WD P tab rest K) fr H
 |seg::rest,K,fr,H=>∃ m,RE P tab seg H.length [] (WD P tab rest K) fr (H++List.replicate m none)
theorem c7v{tab:List (List Nat)}:∀ (l:List Hc),confOK tab l=true->l.Pairwise λa b=>anT tab b.1 a.1=true\/a9p a b=true
 |[],_=>.nil
 |a::l,h=>by
   simp only[confOK,e5v]at h;refine .cons (λb hb=>?_) (c7v l h.2)
   have:=e5x.1 h.1 b hb;simpa using this
theorem dh3{a b:Nat×Tr}(h:a9p (logOf a) (logOf b)=true):Indep a.2 b.2:=by
 unfold a9p logOf at h;simp only[e5v,e5x,e5n]at h;refine⟨λl hl hm=>?_,λl hl hm=>?_,λl hl hm=>?_⟩
 ·have:=(h.1 l hl).1;simp at this;exact this hm
 ·have:=(h.1 l hl).2;simp at this;exact this hm
 ·have:=h.2 l hl;simp at this;exact this hm
theorem Sim.reserves{E:Env}{w:World}{H:AH}(h:Sim E w H):∀ m,Sim E w (H++List.replicate m none)
 |0=>by simpa using h
 |m+1=>by
   have:=(Sim.reserves h m).reserve
   rwa [e5o,show List.replicate m none++[none]=List.replicate (m+1) (none:Option AObj)from by rw[List.replicate_succ']]at this
end
end
section
section
variable {P:Program} {n0:Nat}
def Fin(P:Program)(n0:Nat)(E0:Env)(ops:Array Oper)(QQ:Exit->Act->World->Prop)(tab:List (List Nat))(K:List AV->AH->Prop)(is:List Nat)(lg:List (Nat×Tr))(σ:St):Prop:=
 (is=[]/\confOK tab (lg.map logOf)=true/\K σ.fr σ.H)\/
 ∃ (i:Nat) (T:Tr) (F:Tr->Prop) (is2:List Nat),is=i::is2/\confOK tab ((lg++[(i,T)]).map logOf)=true/\(∀ j∈is2,anT tab j i=true)/\DoesF P n0 E0 ops QQ i T F σ/\∀ τ,F τ->Run P n0 E0 ops QQ tab K is2 (lg++[(i,τ)]) (τ.app σ)
theorem Run.norm{E0:Env}{ops:Array Oper}{QQ:Exit->Act->World->Prop}{tab:List (List Nat)}{K:List AV->AH->Prop}{is:List Nat}{lg:List (Nat×Tr)}{σ:St}(h:Run P n0 E0 ops QQ tab K is lg σ) :
 ∃ (ds:List (Nat×Tr)) (is':List Nat) (σ1:St),is=ds.map Prod.fst++is'/\Chain P n0 E0 ops QQ ds σ σ1/\Fin P n0 E0 ops QQ tab K is' (lg++ds) σ1:=by
 induction h with
 |done lg σ hc hk=>exact⟨[],[],σ,rfl,rfl,.inl ⟨rfl,by simpa using hc,hk⟩⟩
 |exact i τ is lg σ hd hr ih=>
   obtain⟨ds,is',σ1,h1,h2,h3⟩:=ih;refine⟨(i,τ)::ds,is',σ1,by simp[h1],⟨hd,h2⟩,?_⟩;rw[show lg++(i,τ)::ds=lg++[(i,τ)]++ds from by simp];exact h3
 |fork i T F is lg σ hc hl hd hr ih=>exact⟨[],i::is,σ,rfl,rfl,.inr ⟨i,T,F,is,rfl,by simpa using hc,hl,hd,by simpa using hr⟩⟩
structure At(P:Program)(n0:Nat)(E0:Env)(ops:Array Oper)(tab:List (List Nat))(Q:APost)(listed:Array Bool)(a:Act)(w:World)(ds:List (Nat×Tr))(is:List Nat)(lg:List (Nat×Tr))(rest:List (List (Nat×AInstr))):Prop where
 ex:∃ (σ σ1:St) (E:Env),Chain P n0 E0 ops (lft n0 E0 Q) ds σ σ1/\Fin P n0 E0 ops (lft n0 E0 Q) tab (WD P tab rest (Q .normal)) is lg σ1/\Rl E w a σ/\LeN n0 E0 E
 sub:ds.Sublist lg
 list:∀ j,j<ops.size->(listed.getD j true=false↔(j∈ds.map Prod.fst\/j∈is\/j∈rest.flatten.map Prod.fst))
 nd:(ds.map Prod.fst++(is++rest.flatten.map Prod.fst)).Nodup
 lt:∀ j∈ds.map Prod.fst++(is++rest.flatten.map Prod.fst),j<ops.size
 sep:sepOK tab rest=true
 late:∀ j∈rest.flatten.map Prod.fst,∀ i∈ds.map Prod.fst++is,anT tab j i=true
 fit:∀ x∈rest.flatten,∃ o,ops[x.1]?=some o/\fitI P ops x.2 o=true
 cl:∀ (j:Nat) (o:Oper),ops[j]?=some o->listed.getD j false=true->∀ e∈o.after,Region.binds .any e=true->listed.getD e.on false=true
theorem b13{listed:Array Bool}{j:Nat}(h:j<listed.size):listed.getD j true=listed.getD j false:=by
 simp[e3z,e44 h]
theorem b2l{ops:Array Oper}{listed:Array Bool}{i:Nat}{o:Oper}(ho:ops[i]?=some o)(haft:∀ e∈o.after,Region.binds .any e=true->listed.getD e.on false=true)
 (h:∀ (j:Nat) (o:Oper),ops[j]?=some o->listed.getD j false=true->∀ e∈o.after,Region.binds .any e=true->listed.getD e.on false=true) :
 ∀ (j:Nat) (o:Oper),ops[j]?=some o->(listed.setIfInBounds i true).getD j false=true->∀ e∈o.after,Region.binds .any e=true->(listed.setIfInBounds i true).getD e.on false=true:=by
 intro j o' hj hl e he hb;by_cases hij:i=j
 ·subst hij;rw[ho]at hj;cases hj;exact getD_set_true (haft e he hb)
 ·rw[getD_set_ne false hij]at hl;exact getD_set_true (h j o' hj hl e he hb)
theorem c9n{E0:Env}{ops:Array Oper}{tab:List (List Nat)}{Q:APost}{listed:Array Bool}{a:Act}{w:World}{ds:List (Nat×Tr)}{is:List Nat}{lg:List (Nat×Tr)}{rest:List (List (Nat×AInstr))}(h:At P n0 E0 ops tab Q listed a w ds is lg rest)
 (hall:∀ j,j<ops.size->listed.getD j true=true):lft n0 E0 Q .normal a w:=by
 obtain⟨σ,σ1,E,hch,hfin,hrl,hle⟩:=h.ex;have hno:∀ j∈ds.map Prod.fst++(is++rest.flatten.map Prod.fst),False:=by
  intro j hj;have hlt:=h.lt j hj
  have:=(h.list j hlt).2 (by simpa [e6m]using hj);rw[hall j hlt]at this;cases this
 have hds:ds=[]:=by
  cases ds with
  |nil=>rfl
  |cons x ds=>exact(hno x.1 (by simp)).elim
 have his:is=[]:=by
  cases is with
  |nil=>rfl
  |cons x is=>exact(hno x (by simp)).elim
 have hrest:rest=[]:=by
  cases rest with
  |nil=>rfl
  |cons s rest=>
    have hs:=h.sep;simp only[sepOK,e5v]at hs;cases s with
    |nil=>simp at hs
    |cons x s=>exact(hno x.1 (by simp)).elim
 subst hds;subst his;subst hrest;simp only[Chain]at hch;subst hch;rcases hfin with ⟨_,_,hk⟩|⟨i,T,F,is2,he,_⟩
 ·exact⟨E,σ.fr,σ.H,.normal,rfl,hk,hle,hrl.sim,hrl.rep,hrl.defers⟩
 ·cases he
theorem ax5{listed:Array Bool}{n i:Nat}(hls:listed.size=n){A B:Nat->Prop}(hiA:A i)(hB:∀ j,B j↔A j/\j≠i)(hl:∀ j,j<n->(listed.getD j true=false↔A j)) :
 ∀ j,j<n->((listed.setIfInBounds i true).getD j true=false↔B j):=by
 intro j hj;rw[hB];by_cases hij:i=j
 ·subst hij;have h1:(listed.setIfInBounds i true).getD i true=true:=by
   have hil:i<listed.size:=om;simp[e3z,hil]
  rw[h1];simp
 ·rw[getD_set_ne true hij,hl j hj];constructor
  ·exact λh=>⟨h,Ne.symm hij⟩
  ·exact λh=>h.1
theorem b01{tab:List (List Nat)}{lg:List (Nat×Tr)}(h:confOK tab (lg.map logOf)=true):lg.Pairwise λa b=>anT tab b.1 a.1=true\/Indep a.2 b.2:=by
 have:=c7v _ h;rw[List.pairwise_map]at this;exact this.imp λh=>h.imp id dh3
theorem c9l{E0:Env}{ops:Array Oper}{tab:List (List Nat)}{Q:APost}{listed:Array Bool}{a:Act}{w:World}{ds:List (Nat×Tr)}{is:List Nat}{lg:List (Nat×Tr)}{rest:List (List (Nat×AInstr))}(htab:Wu ops tab=true)
 (h:At P n0 E0 ops tab Q listed a w ds is lg rest) (hls:listed.size=ops.size) (hne:ds.map Prod.fst++is≠[]) {next:Act->World->Prop} {i:Nat} (hi:i∈Region.ready .any ops listed)
 (hk:∀ a' w',(∃ ds' is' lg' rest',At P n0 E0 ops tab Q (listed.setIfInBounds i true) a' w' ds' is' lg' rest')->next a' w'):wpOp P ops (lft n0 E0 Q) i next a w:=by
 obtain⟨h0,o,ho,haft⟩:=mem_ready.1 hi;have his:i<ops.size:=(e43.1 ho).1;obtain⟨σ,σ1,E,hch,hfin,hrl,hle⟩:=h.ex;have hanc:∀ j,j∈ds.map Prod.fst++(is++rest.flatten.map Prod.fst)->anT tab i j=true->False:=by
  intro j hj han;have hlt:=h.lt j hj
  have:=b8z htab h.cl i j han (.inr ⟨o,ho,haft⟩);rw[<-b13 om,(h.list j hlt).2 (by simpa [e6m]using hj)]at this;cases this
 have hpw:lg.Pairwise λa b=>anT tab b.1 a.1=true\/Indep a.2 b.2:=by
  rcases hfin with ⟨_,hc,_⟩|⟨_,T,F,_,_,hc,_⟩
  ·exact b01 hc
  ·exact(List.pairwise_append.1 (b01 hc)).1
 have hnd:=h.nd
 rcases(h.list i his).1 h0 with him|him|him
 ·
  obtain⟨x,hx,hxi⟩:=e7o.1 him;obtain⟨i',τ⟩:=x;simp only at hxi;subst hxi;obtain⟨pre,post,rfl⟩:=List.append_of_mem hx;have hind:∀ y∈pre,Indep y.2 τ:=by
   intro y hy;have hpd:=hpw.sublist h.sub;rw[List.pairwise_append]at hpd;rcases hpd.2.2 y hy (i',τ) (by simp)with h'|h'
   ·exact(hanc y.1 (e4t _ (e7o.2 ⟨y,by simp[hy],rfl⟩)) h').elim
   ·exact h'
  obtain⟨hd,hch'⟩:=bl5 pre σ hch hind;have hsub:(pre++post).Sublist (pre++(i',τ)::post):=List.Sublist.append_left (List.sublist_cons_self _ _) _;refine hd.snd σ (Agree.refl _ _) E w a next hle hrl λE' a' w' hle' hrl'=>hk a' w' ⟨pre++post,is,lg,rest,?_⟩;refine⟨⟨_,σ1,E',hch',hfin,hrl',hle'⟩,hsub.trans h.sub,?_,hnd.sublist (List.Sublist.append_right (hsub.map _) _),λj hj=>h.lt j ((List.Sublist.append_right (hsub.map _) _).subset hj),h.sep,λj hj i hi=>h.late j hj i ((List.Sublist.append_right (hsub.map _) _).subset hi),h.fit,b2l ho haft h.cl⟩
  refine ax5 hls (A:=λj=>j∈(pre++(i',τ)::post).map Prod.fst\/j∈is\/j∈rest.flatten.map Prod.fst) (.inl him) (λj=>?_) h.list;rw[e6o,e75,e5o,e62,List.nodup_append]at hnd;obtain⟨n1,n2,n3⟩:=hnd;rw[List.nodup_cons]at n2;simp only[e6o,e75,e6m,e79];constructor
  ·rintro((hj|hj)|hj)
   ·exact⟨.inl (.inl hj),λe=>n3 j hj i' (by simp) e⟩
   ·exact⟨.inl (.inr (.inr hj)),λe=>n2.1 (by rw[<-e];exact e4t _ hj)⟩
   ·exact⟨.inr hj,λe=>n2.1 (by rw[<-e];simp only[e6m];exact .inr (by simpa using hj))⟩
  ·rintro⟨(hj|hj|hj)|hj,hne⟩
   ·exact .inl (.inl hj)
   ·exact absurd hj hne
   ·exact .inl (.inr hj)
   ·exact .inr hj
 ·
  rcases hfin with ⟨rfl,_,_⟩|⟨i',T,F,is2,rfl,hc,hl,hd,hr⟩
  ·cases him
  have hii:i=i':=by
   rcases e79.1 him with h'|h'
   ·exact h'
   ·exact(hanc i' (by simp) (hl i h')).elim
  subst hii;have hpw2:=List.pairwise_append.1 (b01 hc);have hind:∀ y∈ds,Indep y.2 T:=by
   intro y hy;rcases hpw2.2.2 y (h.sub.subset hy) (i,T) (by simp)with h'|h'
   ·exact(hanc y.1 (e4t _ (e7o.2 ⟨y,hy,rfl⟩)) h').elim
   ·exact h'
  have hagree:Agree T.R σ σ1:=by
   have key:∀ (ds:List (Nat×Tr)) (σ:St),Chain P n0 E0 ops (lft n0 E0 Q) ds σ σ1->(∀ y∈ds,Indep y.2 T)->Agree T.R σ σ1:=by
    intro ds
    induction ds with
    |nil=>intro σ h _;simp only[Chain]at h;subst h;exact Agree.refl _ _
    |cons x ds ih=>
      obtain⟨j,b⟩:=x;intro σ h hi;have hib:=hi (j,b) (by simp);have g1:Agree T.R σ (b.app σ):=⟨(a6c b σ).symm,(a6d b σ).symm,λl hl=>(h.1.wf σ (Agree.refl _ _) l (λhw=>hib.wr l hw hl)).symm⟩;exact g1.trans (ih _ h.2 (λy hy=>hi y (by simp[hy])))
   exact key ds σ hch hind
  refine hd.snd σ hagree E w a next hle hrl λτ E' a' w' hτ hle' hrl'=>?_;obtain⟨es,is',σ2,e1,hch2,hfin2⟩:=(hr τ hτ).norm;have hch1:=(c88 hd hτ ds σ hch hind).2;refine hk a' w' ⟨ds++es,is',lg++[(i,τ)]++es,rest,?_⟩;subst e1;have hsubN:(ds.map Prod.fst++(es.map Prod.fst++is'++rest.flatten.map Prod.fst)).Sublist (ds.map Prod.fst++(i::(es.map Prod.fst++is')++rest.flatten.map Prod.fst)):=
   List.Sublist.append_left (List.Sublist.append_right (List.sublist_cons_self _ _) _) _
  have eN:(ds++es).map Prod.fst++(is'++rest.flatten.map Prod.fst)=ds.map Prod.fst++(es.map Prod.fst++is'++rest.flatten.map Prod.fst):=by simp
  refine⟨⟨_,σ2,E',c87 ds _ hch1 hch2,hfin2,hrl',hle'⟩,?_,?_,?_,?_,h.sep,?_,h.fit,b2l ho haft h.cl⟩
  ·refine List.Sublist.append ?_ (List.Sublist.refl _);exact h.sub.trans (List.sublist_append_left _ _)
  ·refine ax5 hls (A:=λj=>j∈ds.map Prod.fst\/j∈i::(es.map Prod.fst++is')\/j∈rest.flatten.map Prod.fst) (.inr (.inl (by simp))) (λj=>?_) h.list;rw[e62,List.nodup_append]at hnd;obtain⟨n1,n2,n3⟩:=hnd;rw[List.nodup_cons]at n2;simp only[e6o,e6m,e79];constructor
   ·rintro((hj|hj)|hj|hj)
    ·exact⟨.inl hj,λe=>n3 j hj i (by simp) e⟩
    ·exact⟨.inr (.inl (.inr (.inl hj))),λe=>n2.1 (by rw[<-e];simp only[e6m];exact .inl (.inl hj))⟩
    ·exact⟨.inr (.inl (.inr (.inr hj))),λe=>n2.1 (by rw[<-e];simp only[e6m];exact .inl (.inr hj))⟩
    ·exact⟨.inr (.inr hj),λe=>n2.1 (by rw[<-e];simp only[e6m];exact .inr hj)⟩
   ·rintro⟨hj|(hj|hj|hj)|hj,hne⟩
    ·exact .inl (.inl hj)
    ·exact absurd hj hne
    ·exact .inl (.inr hj)
    ·exact .inr (.inl hj)
    ·exact .inr (.inr hj)
  ·rw[eN];exact hnd.sublist hsubN
  ·intro j hj;rw[eN]at hj;exact h.lt j (hsubN.subset hj)
  ·intro j hj k hk';refine h.late j hj k ?_;simp only[e6o,e6m,e79]at hk' ⊢;rcases hk' with (h'|h')|h'
   ·exact .inl h'
   ·exact .inr (.inr (.inl h'))
   ·exact .inr (.inr (.inr h'))
 ·
  exfalso
  cases hx:ds.map Prod.fst++is with
  |nil=>exact hne hx
  |cons k l=>
    have hkm:k∈ds.map Prod.fst++is:=(by rw[hx];simp);refine hanc k ?_ (h.late i him k hkm);rw[<-e5o];exact e4t _ hkm
theorem e2p{E0:Env}{ops:Array Oper}{tab:List (List Nat)}{Q:APost}{listed:Array Bool}{a:Act}{w:World}{ds:List (Nat×Tr)}{is:List Nat}{lg:List (Nat×Tr)}{rest:List (List (Nat×AInstr))}(htab:Wu ops tab=true)
 (h:At P n0 E0 ops tab Q listed a w ds is lg rest) (hls:listed.size=ops.size) {next:Act->World->Prop} {i:Nat} (hi:i∈Region.ready .any ops listed)
 (hk:∀ a' w',(∃ ds' is' lg' rest',At P n0 E0 ops tab Q (listed.setIfInBounds i true) a' w' ds' is' lg' rest')->next a' w'):wpOp P ops (lft n0 E0 Q) i next a w:=by
 by_cases hne:ds.map Prod.fst++is=[]
 case neg=>exact c9l htab h hls hne hi hk
 obtain⟨h0,o,ho,haft⟩:=mem_ready.1 hi;have hisz:i<ops.size:=(e43.1 ho).1;have hds:ds=[]:=by
  have:=(List.append_eq_nil_iff.1 hne).1;simpa using this
 have his:is=[]:=(List.append_eq_nil_iff.1 hne).2;subst hds;subst his;obtain⟨σ,σ1,E,hch,hfin,hrl,hle⟩:=h.ex;simp only[Chain]at hch;subst hch;have hwd:WD P tab rest (Q .normal) σ.fr σ.H:=by
  rcases hfin with ⟨_,_,hk⟩|⟨i,T,F,is2,he,_⟩
  ·exact hk
  ·cases he
 have hs:=h.sep;have hnd:=h.nd;simp only[e7k,e6k]at hnd;have hlist:∀ j,j<ops.size->(listed.getD j true=false↔j∈rest.flatten.map Prod.fst):=λj hj=>by
  have:=h.list j hj;simpa using this
 have hlt:∀ j∈rest.flatten.map Prod.fst,j<ops.size:=λj hj=>h.lt j (by simpa using hj);cases rest with
 |nil=>
   exfalso
   have:=(hlist i hisz).1 h0;simp at this
 |cons s rest=>
   simp only[sepOK,e5v]at hs;simp only[e5l,e6o]at hnd hlist hlt;have hlate:∀ j∈rest.flatten.map Prod.fst,∀ k∈s.map Prod.fst,anT tab j k=true:=by
    intro j hj k hk';obtain⟨y,hy,rfl⟩:=e7o.1 hj;obtain⟨x,hx,rfl⟩:=e7o.1 hk';exact e5x.1 (e5x.1 hs.1.2 y hy) x hx
   have hfits:∀ x∈s,∃ o,ops[x.1]?=some o/\fitI P ops x.2 o=true:=λx hx=>h.fit x (by simp[hx]);have hfit':∀ x∈rest.flatten,∃ o,ops[x.1]?=some o/\fitI P ops x.2 o=true:=λx hx=>h.fit x (by
    rw[e5l];exact e4o _ hx)
   by_cases h1:∃ x,s=[x]
   ·obtain⟨⟨b,A6⟩,rfl⟩:=h1;have hib:i=b:=by
     have:=(hlist i hisz).1 h0;simp only[e75,e7k,e6m,e59]at this;rcases this with h2|h2
     ·exact h2
     ·exfalso
      have hl:=hlate i h2 b (by simp);have h3:=b8z htab h.cl i b hl (.inr ⟨o,ho,haft⟩);have hb:=hlt b (by simp);rw[<-b13 om,(hlist b hb).2 (by simp)]at h3;cases h3
    subst hib;obtain⟨o',ho',hf⟩:=hfits (i,A6) (by simp);simp only at ho' hf;rw[ho]at ho';cases ho';have hat:∀ (E':Env) (a':Act) (w':World) (fr':List AV) (H':AH),WD P tab rest (Q .normal) fr' H'->LeN n0 E0 E'->Sim E' w' H'->RepL E' fr' a'.tmps->a'.defers=[]->next a' w':=by
     intro E' a' w' fr' H' g1 g2 g3 g4 g5;refine hk a' w' ⟨[],[],[],rest,⟨⟨⟨fr',H',λ_=>false⟩,_,E',rfl,.inl ⟨rfl,rfl,g1⟩,⟨g3,g4,g5,λr hr=>by cases hr⟩,g2⟩,.slnil,?_,?_,?_,hs.2,λj _ k hk'=>by simp at hk',hfit',b2l ho haft h.cl⟩⟩
     ·simp only[e75,e7k,e62,e6k,List.nodup_cons]at hnd;refine ax5 hls (A:=λj=>j∈[i]++rest.flatten.map Prod.fst) (by simp) (λj=>?_) hlist;simp only[e7k,e61,false_or,e62,e6k,e79];constructor
      ·exact λhj=>⟨.inr hj,λe=>hnd.1 (by rw[<-e];exact hj)⟩
      ·rintro⟨hj|hj,hne⟩
       ·exact absurd hj hne
       ·exact hj
     ·simpa using (List.nodup_append.1 hnd).2.1
     ·intro j hj;exact hlt j (by simp at hj ⊢;exact .inr hj)
    have hwd:RA P [A6] (WD P tab rest (Q .normal)) σ.fr σ.H:=hwd;have step:Ob P A6 (WD P tab rest (Q .normal)) σ.fr σ.H->o.wp P a w next (lft n0 E0 Q):=λhst=>
     av9 hf hrl.sim hrl.rep hrl.defers hle hst λE' fr' H' a' w' g1 g2 g3 g4 g5=>hat E' a' w' fr' H' g1 g2 g3 g4 g5
    unfold RA at hwd;cases hig:A6.guard with
    |none=>
      rw[hig]at hwd;exact R9 ho hf hrl (λg want hg=>by rw[hig]at hg;cases hg) (step hwd)
    |some gw=>
      obtain⟨g,want⟩:=gw;rw[hig]at hwd;have skip:((∃ b,σ.fr[g]?=some (.bool b)/\b≠want)\/σ.fr[g]?=some (.tuple []))->WD P tab rest (Q .normal) (Aq σ.fr A6.dst (.tuple [])) σ.H->wpOp P ops (lft n0 E0 Q) i next a w:=λhsk hno=>
       b4u ho hf hrl hig hsk (hat E _ w _ _ hno hle hrl.sim (by rw[<-S8 hf];exact Iz hrl.rep (a8m E) _) (J0 hrl.defers _ _))
      rcases hwd with ⟨bv,hb,hyes,hno⟩|⟨hb,hno⟩
      ·by_cases hbw:bv=want
       ·exact R9 ho hf hrl (λg' want' hg=>by rw[hig]at hg;cases hg;rw[<-hbw];exact hb) (step (hyes hbw))
       ·exact skip (.inl ⟨bv,hb,hbw⟩) (hno hbw)
      ·exact skip (.inr hb) hno
   ·have hwd':∃ m,RE P tab s σ.H.length [] (WD P tab rest (Q .normal)) σ.fr (σ.H++List.replicate m none):=by
     match s,h1,hs,hwd with
     |[],_,hs,_=>exact absurd hs.1.1 (by simp)
     |[x],h1,_,_=>exact absurd ⟨x,rfl⟩ h1
     |x::y::z,_,_,hwd=>exact hwd
    obtain⟨m,hre⟩:=hwd';obtain⟨es,is',σ2,e1,hch2,hfin2⟩:=(a79 (n0:=n0) (E0:=E0) (QQ:=lft n0 E0 Q) s σ.H.length [] σ.fr _ hfits hre).norm;rw[e6k]at hfin2;have hat:At P n0 E0 ops tab Q listed a w es is' es rest:=by
     refine⟨⟨⟨σ.fr,σ.H++List.replicate m none,λr=>decide (σ.H.length<=r)⟩,σ2,E,hch2,hfin2,⟨hrl.sim.reserves m,hrl.rep,hrl.defers,λr hr=>?_⟩,hle⟩,List.Sublist.refl _,λj hj=>?_,?_,?_,hs.2,?_,hfit',h.cl⟩
     ·simp only[e5h]at hr;cases hρ:E.ρ r with
      |none=>rfl
      |some x=>have:=hrl.sim.dom r x hρ;omega
     ·rw[hlist j hj,e1];simp only[e6m,or_assoc]
     ·rw[<-e5o,<-e1];exact hnd
     ·intro j hj;rw[<-e5o,<-e1]at hj;exact hlt j hj
     ·intro j hj k hk';rw[<-e1]at hk';exact hlate j hj k hk'
    have hne':es.map Prod.fst++is'≠[]:=by
     rw[<-e1];intro e;have:s=[]:=(by simpa using e);subst this;exact absurd hs.1.1 (by simp)
    exact c9l htab hat hls hne' hi hk
theorem e0r{E0:Env}{ops:Array Oper}{tab:List (List Nat)}{Q:APost}(htab:Wu ops tab=true):∀ (Fr:Nat) (listed:Array Bool) (a:Act) (w:World),listed.size=ops.size->(List.range ops.size).countP (λj=> !listed.getD j true)<=Fr->
 (∃ ds is lg rest,At P n0 E0 ops tab Q listed a w ds is lg rest)->wpAny P .any ops (lft n0 E0 Q) Fr listed a w:=by
 have ready0:∀ (listed:Array Bool),listed.size=ops.size->Region.ready .any ops listed=[]->∀ j,j<ops.size->listed.getD j true=true:=by
  intro listed hls hr j
  induction j using Nat.strongRecOn with
  |ind j ih=>
    intro hj;cases hlj:listed.getD j true with
    |true=>rfl
    |false=>
      have ho:=e44 hj;have hm:j∈Region.ready .any ops listed:=mem_ready.2 ⟨hlj,_,ho,λe he hb=>by
       have ht:=htab;unfold Wu at ht;simp only[e5v]at ht;have h2:=e5x.1 ht.2 j (e6x.2 hj);simp only[ho,e5v]at h2;have h3:=Array.all_eq_true_iff_forall_mem.1 h2.1 e he;have hlt:e.on<j:=(by simpa [hb]using h3);rw[<-b13 om];exact ih e.on hlt om⟩
      rw[hr]at hm;cases hm
 intro Fr
 induction Fr with
 |zero=>
   rintro listed a w hls hcnt ⟨ds,is,lg,rest,hat⟩;have hall:∀ j,j<ops.size->listed.getD j true=true:=by
    intro j hj;have h0:(List.range ops.size).countP (λj=> !listed.getD j true)=0:=om
    have:=List.countP_eq_zero.1 h0 j (e6x.2 hj);simpa using this
   refine⟨?_,c9n hat hall⟩;cases hr:Region.ready .any ops listed with
   |nil=>rfl
   |cons x xs=>
     have hx:x∈Region.ready .any ops listed:=(by rw[hr];simp);obtain⟨h0,o,ho,_⟩:=mem_ready.1 hx
     have:=hall x (e43.1 ho).1;rw[this]at h0;cases h0
 |succ Fr ih=>
   rintro listed a w hls hcnt ⟨ds,is,lg,rest,hat⟩;refine⟨λhr=>c9n hat (ready0 listed hls hr),λi hi=>?_⟩;obtain⟨h0,o,ho,haft⟩:=mem_ready.1 hi;have his:i<ops.size:=(e43.1 ho).1;refine e2p htab hat hls hi λa' w' hx=>ih _ a' w' (by simp[hls]) ?_ hx
   have:=b2i (p:=λj=> !listed.getD j true) (q:=λj=> !(listed.setIfInBounds i true).getD j true) (List.range ops.size) i (e6x.2 his) (λj hj=>by
    by_cases hij:i=j
    ·subst hij;have hil:i<listed.size:=om;simp[e3z,hil]at hj
    ·rw[getD_set_ne true hij]at hj;exact hj) (by simp[h0]) (by
     have hil:i<listed.size:=om;simp[e3z,hil])
   omega
theorem e3d{segs:List (List (Nat×AInstr))}{tab:List (List Nat)}{Q:APost}{fr:List AV}{H:AH}(h:WD P tab segs (Q .normal) fr H):W P n0 (.dregE segs tab) Q fr H:=by
 intro c E w a hf hs hr hd;cases c<;>try (simp only[fitC,e52]at hf;done)
 rename_i id ops draw;cases draw<;>simp only[fitC,e52,e5v]at hf;obtain⟨hm,hseg,htab,hsep⟩:=hf;unfold bb3 at hseg;simp only[e5v,e5h]at hseg;obtain⟨⟨hfit,hnd⟩,hall⟩:=hseg;have hfit':∀ x∈segs.flatten,∃ o,ops[x.1]?=some o/\fitI P ops x.2 o=true:=by
  intro x hx
  have:=e5x.1 hfit x hx;split at this
  ·exact⟨_,by assumption,this⟩
  ·cases this
 have hlt:∀ j∈segs.flatten.map Prod.fst,j<ops.size:=by
  intro j hj;obtain⟨x,hx,rfl⟩:=e7o.1 hj;obtain⟨o,ho,_⟩:=hfit' x hx
  exact(e43.1 ho).1
 have hmem:∀ j,j<ops.size->j∈segs.flatten.map Prod.fst:=λj hj=>by
  have:=e5x.1 hall j (e6x.2 hj);simpa using this
 refine wp_region_any hm ?_;refine e0r htab ops.size _ a _ (by simp) (e7n (List.countP_le_length) (by simp)) ⟨[],[],[],segs,⟨⟨⟨fr,H,λ_=>false⟩,_,E,rfl,.inl ⟨rfl,rfl,h⟩,⟨?_,hr,hd,λr hr=>by cases hr⟩,LeN.refl _ _⟩,.slnil,λj hj=>?_,by simpa using hnd,λj hj=>hlt j (by simpa using hj),hsep,λj _ k hk=>by simp at hk,hfit',λj o hj hl=>?_⟩⟩
 ·exact⟨hs.os,hs.tape,hs.output,hs.frz,hs.disj,hs.dom,λr o h=>by
   rcases hs.obj r o h with h|⟨x,hx,hl⟩
   ·exact .inl h
   ·exact .inr ⟨x,hx,⟨hl.t,hl.pos,hl.out,hl.blk,hl.sz,hl.fits⟩⟩,hs.inj⟩
 ·have:=hmem j hj;simp[e3z,Array.getElem?_replicate,hj];simpa using this
 ·simp[e3z,Array.getElem?_replicate]at hl;split at hl<;>simp at hl
end
end
section
theorem b3d{n0:Nat}{fr:List AV}{H:AH}(rs:List Nat)(hnd:rs.Nodup)(h0:∀ r,r<n0->rs[r]?=some r):Wk n0 fr H (Bw (Aw rs) fr) (rs.map λr=>(H.at r).map (renO (Aw rs))):=by
 intro E w vs hs hr;rw[Jj];let E2:Env:={ E with ρ:=λi=>(rs[i]?).bind E.ρ };have hτ:∀ r r' y,Aw rs r=some r'->E.ρ r=some y->E2.ρ r'=some y:=by
  intro r r' y h1 h2;simp only[E2,Jf h1,e5y,h2]
 have hfr:∀ c u,Rep E c u->Rep E2 (ren (Aw rs) c) u:=λc u h=>X5 (E:=E) (E0:=E2) (λ_ _ h=>h) hτ h;have hat0:∀ i o0,AH.at (rs.map λr=>(H.at r).map (renO (Aw rs))) i=some o0->∃ r o,rs[i]?=some r/\H.at r=some o/\o0=renO (Aw rs) o:=by
  intro i o0 h;simp only[AH.at,e5j]at h;cases hri:rs[i]? with
  |none=>rw[hri]at h;cases h
  |some r=>
    rw[hri]at h;simp only[e6h,Option.join_some]at h;cases ho:H.at r with
    |none=>simp only[AH.at]at ho;rw[ho]at h;cases h
    |some o=>simp only[AH.at]at ho;rw[ho]at h;cases h;exact⟨r,o,rfl,ho,rfl⟩
 refine⟨E2,⟨λ_ _ h=>h,λr x hrn hx=>⟨x,by simp only[E2,h0 r hrn,e5y];exact hx,.inl rfl⟩,rfl,rfl,rfl,rfl⟩,?_,hr.mapped hfr⟩;refine⟨hs.os,hs.tape,hs.output,hs.frz,hs.disj,λi x hi=>?_,λi o0 ho=>?_,λi i' o1 o2 x1 x2 h1 h2 h3 h4 hb=>?_⟩
 ·simp only[E2]at hi;cases hri:rs[i]? with
  |none=>rw[hri]at hi;cases hi
  |some r=>
    rcases e7h i rs.length with h'|h'
    ·simpa using h'
    ·rw[e4j h']at hri;cases hri
 ·obtain⟨r,o,hri,hro,rfl⟩:=hat0 i o0 ho;rcases hs.obj r o hro with ⟨rfl,hn⟩|⟨x,hx,hl⟩
  ·exact .inl ⟨rfl,by simp only[E2,hri,e5y,hn]⟩
  ·exact .inr ⟨x,by simp only[E2,hri,e5y,hx],Lies.ren (E:=E) (E0:=E2) (λ_ _ h=>h) hτ hl hl.out rfl⟩
 ·obtain⟨r,o,hri,hro,rfl⟩:=hat0 i o1 h1;obtain⟨r',o',hri',hro',rfl⟩:=hat0 i' o2 h2;simp only[E2,hri,e5y]at h3;simp only[E2,hri',e5y]at h4
  have:=hs.inj r r' o o' x1 x2 hro hro' h3 h4 hb;subst this;have e1:=K9 hnd hri;have e2:=K9 hnd hri';rw[e1]at e2;cases e2;rfl
mutual
def Ci:AV->List Nat
 |.own r _ _ _ _=>[r]
 |.ptr r _ _ _=>[r]
 |.agg cs=>C1 cs
 |.tuple cs=>C1 cs
 |.fn _ first cap=>C1 first++C1 cap
 |_=>[]
def C1:List AV->List Nat
 |[]=>[]
 |x::xs=>Ci x++C1 xs
end
def refsO:Option AObj->List Nat
 |some o=>o.flatMap C1
 |none=>[]
def Iy(H:AH):Nat->List Nat->List Nat->List Nat
 |0,_,acc=>acc
 |_+1,[],acc=>acc
 |n+1,r::todo,acc=>if acc.contains r then Iy H n todo acc else Iy H n (refsO (H.at r)++todo) (acc++[r])
abbrev CallF:=FuncId->List AV->AH->Option (AV×AH)
def Dc(call:CallF)(op:AOp)(fr:List AV)(H:AH):Option (AV×AH):=
 match op with
 |.call f args=>call f (args.map (evalA fr)) H
 |.calld x args=>
   match evalA fr x with
   |.fn (.func f) first cap=>call f (first++args.map (evalA fr)++cap) H
   |_=>none
 |.eqnil neg x=>
   match Nx H (evalA fr x)with
   |some (some b)=>some (.bool (b != neg),H)
   |_=>none
 |op=>D8 op (evalA fr) H
def getF:List AV->Nat->AV
 |[],_=>.top
 |x::_,0=>x
 |_::l,n+1=>getF l n
theorem F6:∀ (l:List AV) (n:Nat),getF l n=(l[n]?).getD .top
 |[],n=>by simp[getF]
 |x::l,0=>rfl
 |x::l,n+1=>by
   rw[getF,F6 l n];rfl
def Fd(fr:List AV)(d:Option Nat)(v:AV):List AV:=
 match d with
 |none=>fr
 |some d=>fr.set d v
theorem Xc(fr:List AV)(d:Option Nat)(v:AV):Fd fr d v=Aq fr d v:=by
 cases d<;>rfl
def Ac(fr:List AV)(x:Opd):AV:=
 match x with
 |.t n=>getF fr n
 |.c v=>v
theorem Ba:Ac=evalA:=by
 funext fr x;cases x with
 |t n=>exact F6 fr n
 |c v=>rfl
abbrev Cu:=CallF->List AV->AH->Option (AV×AH)
def same(x:Option AV)(H:AH):Option (AV×AH):=x.map λv=>(v,H)
def kMv(x:Opd):Cu:=λ_ fr H=>some (Ac fr x,H)
def b0n(c a b:Opd):Cu:=λ_ fr H=>same (pickV (Ac fr c) (Ac fr a) (Ac fr b)) H
def df8(cs:List AV):Cu:=λ_ _ H=>if cs.length≠0 then some (.ptr H.length 0 0 1,H++[some [cs]])else none
def c06(x:Opd):Cu:=λ_ fr H=>a1u H (Ac fr x)
def c04(zero:List AV)(parts:List (Nat×Nat×Opd)):Cu:=λ_ fr H=>same ((Ch (Ac fr) zero parts).map .agg) H
def c05(sz len:Nat)(zero:List AV)(parts:List (Nat×Opd)):Cu:=λ_ fr H=>a1t H sz len (Ch (Ac fr) (List.replicate len zero).flatten (parts.map λx=>(x.1*sz,sz,x.2)))
def by5(agg:Bool)(n:Nat)(x:Opd):Cu:=λ_ fr H=>same ((Jl H n (Ac fr x)).map (Du agg)) H
def bx8(n:Nat)(p x:Opd):Cu:=λ_ fr H=>a38 H n (Ac fr p) (Ac fr x)
def by0(x:Opd):Cu:=λ_ fr H=>same (Xj H (Ac fr x)) H
def c08(op:BinOp)(x y:Opd):Cu:=λ_ fr H=>same (Qw op (Ac fr x) (Ac fr y)) H
def c07(op:BinOp)(x y:Opd):Cu:=λ_ fr H=>same (a1w op (Ac fr x) (Ac fr y)) H
def bz5(neg:Bool)(x y:Opd):Cu:=λ_ fr H=>same (a1k neg (Ac fr x) (Ac fr y)) H
def bz4(neg:Bool)(ks:List EK)(x y:Opd):Cu:=λ_ fr H=>same (a1j H neg ks (Ac fr x) (Ac fr y)) H
def kUn(op:UnOp)(x:Opd):Cu:=λ_ fr H=>same (Ud op (Ac fr x)) H
def bz9(k:IntKind)(x:Opd):Cu:=λ_ fr H=>same (a1o k (Ac fr x)) H
def bz8(x:Opd):Cu:=λ_ fr H=>a5x H (Ac fr x)
def c00(x:Opd):Cu:=λ_ fr H=>same (((G5 H (Ac fr x)).bind Hl).map .str) H
def bz7(x:Opd):Cu:=λ_ fr H=>same (a1n (Ac fr x)) H
def by1(sz bytes:Nat)(zero:List AV)(l c:Opd):Cu:=λ_ fr H=>a41 H sz bytes zero (Ac fr l) (Ac fr c)
def bx9(x:Opd)(lo hi:Option Opd):Cu:=λ_ fr H=>same (Wx (Ac fr) (Ac fr x) lo hi) H
def a0r(op:AOp):Cu:=λ_ fr H=>D8 op (Ac fr) H
def bz2(off:Nat)(x:Opd):Cu:=λ_ fr H=>same (Y7 H off (Ac fr x)) H
def bz1(agg:Bool)(off n:Nat)(x:Opd):Cu:=λ_ fr H=>same (a1c agg off n (Ac fr x)) H
def bz0(sz:Nat)(x i:Opd):Cu:=λ_ fr H=>same (Qo H sz (Ac fr x) (Ac fr i)) H
def by9(len sz:Nat)(x i:Opd):Cu:=λ_ fr H=>same (Xt H len sz (Ac fr x) (Ac fr i)) H
def by7(x i:Opd):Cu:=λ_ fr H=>same (Xr (Ac fr x) (Ac fr i)) H
def a0s(agg:Bool)(len sz:Nat)(x i:AV):Option AV:=match x,i with
 |.agg cs,.int _ n=>if 0<=n/\n<len/\n.toNat*sz+sz<=cs.length then some (Du agg ((cs.drop (n.toNat*sz)).take sz))else none
 |_,_=>none
def a1s(x:AV):Option AV:=match x with
 |.emp=>some (.int .i64 0)
 |_=>none
def by8(agg:Bool)(len sz:Nat)(x i:Opd):Cu:=λ_ fr H=>same (a0s agg len sz (Ac fr x) (Ac fr i)) H
def c02(x:Opd):Cu:=λ_ fr H=>same (a1s (Ac fr x)) H
def bz3(x:Opd)(i:Nat):Cu:=λ_ fr H=>same (a1e (Ac fr x) i) H
def by6(str:Bool)(x:Opd):Cu:=λ_ fr H=>same (if str then a0m (Ac fr x)else S1 H (Ac fr x)) H
def c09(sz bytes:Nat)(zero:List AV)(x y:Opd):Cu:=λ_ fr H=>Vr H sz bytes zero (Ac fr x) (Ac fr y)
def bz6(sz:Nat)(x y:Opd):Cu:=λ_ fr H=>a5w H sz (Ac fr x) (Ac fr y)
def c01(sz:Nat)(zero:List AV)(x:Opd):Cu:=λ_ fr H=>a60 H sz zero (Ac fr x)
def by3(x y:Opd):Cu:=λ_ fr H=>same (a0c (Ac fr x) (Ac fr y)) H
def by4(x y:Opd):Cu:=λ_ fr H=>same (a0i (Ac fr x) (Ac fr y)) H
def by2(f:Fn)(first cap:List Opd):Cu:=λ_ fr H=>some (.fn f (first.map (Ac fr)) (cap.map (Ac fr)),H)
def c03(f:FuncId)(args:List Opd):Cu:=λcall fr H=>call f (args.map (Ac fr)) H
def a9n(x:Opd)(args:List Opd):Cu:=λcall fr H=>
    match Ac fr x with
    |.fn (.func f) first cap=>call f (first++args.map (Ac fr)++cap) H
    |_=>none
def b0p(neg:Bool)(x:Opd):Cu:=λ_ fr H=>
    match Nx H (Ac fr x)with
    |some (some b)=>some (.bool (b != neg),H)
    |_=>none
def df7:Cu:=λ_ _ _=>none
def Bi:AOp->Cu
 |.mv x=>kMv x
 |.pick c a b=>b0n c a b
 |.alloc cs=>df8 cs
 |.box x=>c06 x
 |.build z p=>c04 z p
 |.bslice s l z p=>c05 s l z p
 |.load g n x=>by5 g n x
 |.store n p x=>bx8 n p x
 |.nilchk x=>by0 x
 |.bini o x y=>c08 o x y
 |.bins o x y=>c07 o x y
 |.eqb n x y=>bz5 n x y
 |.eqs n k x y=>bz4 n k x y
 |.un o x=>kUn o x
 |.convi k x=>bz9 k x
 |.convsb x=>bz8 x
 |.convbs x=>c00 x
 |.convss x=>bz7 x
 |.mksl s b z l c=>by1 s b z l c
 |.slices x l h=>bx9 x l h
 |.slicel s x l h=>a0r (.slicel s x l h)
 |.slicez x=>a0r (.slicez x)
 |.slice3 x l h m=>a0r (.slice3 x l h m)
 |.eqnil n x=>b0p n x
 |.faddr o x=>bz2 o x
 |.field g o n x=>bz1 g o n x
 |.iaddr s x i=>bz0 s x i
 |.iaddra l s x i=>by9 l s x i
 |.indexs x i=>by7 x i
 |.indexa g l s x i=>by8 g l s x i
 |.cap x=>c02 x
 |.ext x i=>bz3 x i
 |.len s x=>by6 s x
 |.append s b z x y=>c09 s b z x y
 |.copy s x y=>bz6 s x y
 |.clear s z x=>c01 s z x
 |.min2 x y=>by3 x y
 |.max2 x y=>by4 x y
 |.mkfn f a c=>by2 f a c
 |.call f a=>c03 f a
 |.calld x a=>a9n x a
 |.bad=>df7
theorem C8{op:AOp}{ev:Opd->AV}{H:AH}(x:Option AV)(h:Ar op ev H=x)(h1:Cc op ev H=none):D8 op ev H=same x H:=by
 unfold D8 same;rw[h];cases x with
 |none=>exact h1
 |some v=>rfl
theorem b07(call:CallF)(op:AOp)(fr:List AV)(H:AH):Bi op call fr H=Dc call op fr H:=by
 cases op
 case alloc=>rfl
 case box=>simp only[Bi,c06,Ba];rfl
 case bslice sz len zero parts=>
  simp only[Bi,c05,Ba,Dc];unfold D8;simp only[Ar,Cc];cases Ch (evalA fr) (List.replicate len zero).flatten (parts.map λx=>(x.1*sz,sz,x.2))<;>rfl
 case store=>simp only[Bi,bx8,Ba];rfl
 case convsb=>simp only[Bi,bz8,Ba];rfl
 case mksl=>simp only[Bi,by1,Ba];rfl
 case append=>simp only[Bi,c09,Ba];rfl
 case copy=>simp only[Bi,bz6,Ba];rfl
 case clear=>simp only[Bi,c01,Ba];rfl
 case slicel=>simp only[Bi,a0r,Ba];rfl
 case slicez=>simp only[Bi,a0r,Ba];rfl
 case slice3=>simp only[Bi,a0r,Ba];rfl
 case mv=>simp only[Bi,kMv,Ba];rfl
 case mkfn=>simp only[Bi,by2,Ba];rfl
 case call=>simp only[Bi,c03,Ba];rfl
 case calld=>simp only[Bi,a9n,Ba];rfl
 case eqnil=>simp only[Bi,b0p,Ba];rfl
 case bad=>rfl
 case len str x=>cases str<;>(simp only[Bi,by6,Ba,if_true,if_false,e52];simp only[Dc];symm;apply C8<;>rfl)
 case pick=>simp only[Bi,b0n,Ba];simp only[Dc];symm;apply C8<;>rfl
 case build=>simp only[Bi,c04,Ba];simp only[Dc];symm;apply C8<;>rfl
 case load=>simp only[Bi,by5,Ba];simp only[Dc];symm;apply C8<;>rfl
 case nilchk=>simp only[Bi,by0,Ba];simp only[Dc];symm;apply C8<;>rfl
 case bini=>simp only[Bi,c08,Ba];simp only[Dc];symm;apply C8<;>rfl
 case bins=>simp only[Bi,c07,Ba];simp only[Dc];symm;apply C8<;>rfl
 case eqb=>simp only[Bi,bz5,Ba];simp only[Dc];symm;apply C8<;>rfl
 case eqs=>simp only[Bi,bz4,Ba];simp only[Dc];symm;apply C8<;>rfl
 case un=>simp only[Bi,kUn,Ba];simp only[Dc];symm;apply C8<;>rfl
 case convi=>simp only[Bi,bz9,Ba];simp only[Dc];symm;apply C8<;>rfl
 case convbs=>simp only[Bi,c00,Ba];simp only[Dc];symm;apply C8<;>rfl
 case convss=>simp only[Bi,bz7,Ba];simp only[Dc];symm;apply C8<;>rfl
 case slices=>simp only[Bi,bx9,Ba];simp only[Dc];symm;apply C8<;>rfl
 case faddr=>simp only[Bi,bz2,Ba];simp only[Dc];symm;apply C8<;>rfl
 case field=>simp only[Bi,bz1,Ba];simp only[Dc];symm;apply C8<;>rfl
 case iaddr=>simp only[Bi,bz0,Ba];simp only[Dc];symm;apply C8<;>rfl
 case iaddra=>simp only[Bi,by9,Ba];simp only[Dc];symm;apply C8<;>rfl
 case indexs=>simp only[Bi,by7,Ba];simp only[Dc];symm;apply C8<;>rfl
 case indexa=>simp only[Bi,by8,Ba];simp only[Dc];symm;apply C8<;>rfl
 case cap=>simp only[Bi,c02,Ba];simp only[Dc];symm;apply C8<;>rfl
 case ext=>simp only[Bi,bz3,Ba];simp only[Dc];symm;apply C8<;>rfl
 case min2=>simp only[Bi,by3,Ba];simp only[Dc];symm;apply C8<;>rfl
 case max2=>simp only[Bi,by4,Ba];simp only[Dc];symm;apply C8<;>rfl
def Fh(call:CallF):List AInstr->List AV->AH->Option (List AV×AH)
 |[],fr,H=>some (fr,H)
 |i::rest,fr,H=>
   match i.guard with
   |none=>
     match Bi i.op call fr H with
     |some (v,H')=>Fh call rest (Fd fr i.dst v) H'
     |none=>none
   |some (g,want)=>
     match getF fr g with
     |.bool b=>
       if b=want then
        match Bi i.op call fr H with
        |some (v,H')=>Fh call rest (Fd fr i.dst v) H'
        |none=>none
       else Fh call rest (Fd fr i.dst (.tuple [])) H
     |.tuple []=>Fh call rest (Fd fr i.dst (.tuple [])) H
     |_=>none
def Ls:List AInstr->List AV->AH->Option (List AV)
 |[],fr,_=>some fr
 |i::rest,fr,H=>
   match i.guard with
   |none=>
     match Ar i.op (evalA fr) H with
     |some v=>Ls rest (Aq fr i.dst v) H
     |none=>none
   |some (g,want)=>
     match fr[g]? with
     |some (.bool b)=>
       if b=want then
        match Ar i.op (evalA fr) H with
        |some v=>Ls rest (Aq fr i.dst v) H
        |none=>none
       else Ls rest (Aq fr i.dst (.tuple [])) H
     |some (.tuple [])=>Ls rest (Aq fr i.dst (.tuple [])) H
     |_=>none
def Jy(ev:CallF)(f:FuncId)(args:List AV)(H:AH):Option (List Nat×AV×AH):=
 let rs:=Iy H (H.length*4+40) (C1 args) []
 if rs.Nodup/\(∀ r∈rs,r<H.length)then
  match ev f (Bw (Aw rs) args) (rs.map λr=>(H.at r).map (renO (Aw rs)))with
  |some (x,H1)=>if rs.length<=H1.length then some (rs,x,H1)else none
  |none=>none
 else none
def P8(ev:CallF):CallF:=λf args H=>
 match Jy ev f args H with
 |some (rs,x,H1)=>some (ren (Gl rs H.length) x,N9 rs H H1)
 |none=>none
def Ya(H:AH):Nat->Option Nat
 |0=>none
 |c+1=>match H.at c with
   |some []=>some c
   |_=>Ya H c
def J6(lk:FuncId->Bool)(ev:CallF)(op:AOp)(c:Nat)(fr:List AV)(H:AH):Option (List Loc×List Loc×Nat×AV×AH):=
 match op with
 |.call f args=>
   if lk f=true/\Aa (args.map (evalA fr))=false then
    match ev f (B3 H (args.map (evalA fr))) []with
    |some (x,H1)=>if Db x=true then some ((F7 H (args.map (evalA fr))).map .con,[],c,x,H)else none
    |none=>none
   else
   match Jy ev f (args.map (evalA fr)) H with
   |some (rs,x,H1)=>
     if(∀ r∈rs,r<c)/\c+(H1.length-rs.length)<=H.length then
      let all:=rs++List.range' c (H1.length-rs.length)
      some (all.map .con,all.map .con++all.map .len,c+(H1.length-rs.length),ren (Au all) x,C3 H all (H1.map λo=>o.map (renO (Au all))))
     else none
   |none=>none
 |.store n p x=>
   match evalA fr p,cellsOf (evalA fr x)with
   |.ptr r i j tot,some cs=>
     match Am H r tot with
     |some o=>
       match o[i]? with
       |some e=>if(cs.length=n/\j+n<=e.length/\cs.all cellA=true)/\r<c then some ([.con r],[.con r],c,.top,H.set r (some (o.set i (lay e j cs))))else none
       |none=>none
     |none=>none
   |_,_=>none
 |.calld x0 args=>
   match evalA fr x0 with
   |.fn (.func f) first cap=>
     match Jy ev f (first++args.map (evalA fr)++cap) H with
     |some (rs,x,H1)=>
       if(∀ r∈rs,r<c)/\c+(H1.length-rs.length)<=H.length then
        let all:=rs++List.range' c (H1.length-rs.length)
        some (all.map .con,all.map .con++all.map .len,c+(H1.length-rs.length),ren (Au all) x,C3 H all (H1.map λo=>o.map (renO (Au all))))
       else none
     |none=>none
   |_=>none
 |.append sz bytes _ x y=>
   match (match evalA fr x with
    |.own r sz' 0 len tot=>if sz'=sz/\len=tot then some (r,len)else none
    |.emp=>(Ya H c).map λr=>(r,0)
    |_=>none),D4 H (evalA fr y)with
   |some (r,len),some news=>
     match Am H r len with
     |some o=>
       if(news.all (λe=>decide (e.length=sz))=true/\(len+news.length)*bytes<=1000000000000/\len+news.length<=1000000000)/\r<c then
        some (.con r::Fz (evalA fr y),[.con r,.len r],c,.own r sz 0 (len+news.length) (len+news.length),H.set r (some (o++news)))
       else none
     |none=>none
   |_,_=>none
 |.eqnil _ _=>none
 |.bad=>none
 |op=>
   if O4 op then
    if c<H.length then
     match Cc op (evalA fr) []with
     |some (v,[some o])=>some ([.con c],[.con c,.len c],c+1,ren (Au [c]) v,H.set c (some o))
     |_=>none
    else none
   else
    match Ar op (evalA fr) H with
    |some v=>some (Gq op (evalA fr),[],c,v,H)
    |none=>none
def Fs(lk:FuncId->Bool)(ev:CallF)(tab:List (List Nat)):List (Nat×AInstr)->Nat->List Hc->List AV->AH->Option (List AV×AH)
 |[],_,lg,fr,H=>if confOK tab lg=true then some (fr,H)else none
 |(i,A6)::rest,c,lg,fr,H=>
   match A6.guard with
   |none=>
     match J6 lk ev A6.op c fr H with
     |some (R,W,c',v,H')=>Fs lk ev tab rest c' (lg++[Dr i A6 R W]) (Aq fr A6.dst v) H'
     |none=>none
   |some (g,want)=>
     match fr[g]? with
     |some (.bool b)=>
       if b=want then
        match J6 lk ev A6.op c fr H with
        |some (R,W,c',v,H')=>Fs lk ev tab rest c' (lg++[Dr i A6 R W]) (Aq fr A6.dst v) H'
        |none=>none
       else Fs lk ev tab rest c (lg++[(i,[.slot g],C0 A6.dst)]) (Aq fr A6.dst (.tuple [])) H
     |some (.tuple [])=>Fs lk ev tab rest c (lg++[(i,[.slot g],C0 A6.dst)]) (Aq fr A6.dst (.tuple [])) H
     |_=>none
def Co:List (Nat×AInstr)->Nat
 |[]=>0
 |i::rest=>(match i.2.op with
   |.call _ _=>12
   |op=>if O4 op then 1 else 0)+Co rest
def Ex(lk:FuncId->Bool)(ev:CallF)(tab:List (List Nat)):List (List (Nat×AInstr))->List AV->AH->Option (List AV×AH)
 |[],fr,H=>some (fr,H)
 |[(_,A6)]::rest,fr,H=>
   match Fh ev [A6] fr H with
   |some (fr',H')=>Ex lk ev tab rest fr' H'
   |none=>none
 |seg::rest,fr,H=>
   match Fs lk ev tab seg H.length [] fr (H++List.replicate (Co seg) none)with
   |some (fr',H')=>Ex lk ev tab rest fr' H'
   |none=>none
def Gx(f:List AV->AH->Option (AExit×List AV×AH)):Nat->List AV->AH->Option (AExit×List AV×AH)
 |0,_,_=>none
 |n+1,fr,H=>
   match f fr H with
   |some (.normal,fr',H')=>Gx f n fr' H'
   |r=>r
def Cm(o:AObj):Option (List (List PV)):=o.mapM λe=>e.mapM Cw
def V8(r:Nat)(x:AV)(H:AH):AV×AH:=
 match (H.at r).bind Cm with
 |some es=>(frz r es x,Hj (Bm r es) (H.set r none))
 |none=>(x,H)
section
variable {P:Program}
def G9(P:Program)(call:CallF):Prop:=∀ f args H x H',call f args H=some (x,H')->C P f args H λy G=>y=x/\G=H'
theorem b2s{ev:CallF}(hev:G9 P ev){f:FuncId}{args:List AV}{H:AH}{rs:List Nat}{x:AV}{H1:AH}(h:Jy ev f args H=some (rs,x,H1)) :
 rs.Nodup/\(∀ r∈rs,r<H.length)/\rs.length<=H1.length/\C P f (Bw (Aw rs) args) (rs.map λr=>(H.at r).map (renO (Aw rs))) λy G=>y=x/\G=H1:=by
 unfold Jy at h;simp only[]at h;split at h
 ·rename_i hc;split at h
  ·rename_i x' H1' he;split at h
   ·cases h;exact⟨hc.1,hc.2,by assumption,hev _ _ _ _ _ he⟩
   ·cases h
  ·cases h
 ·cases h
theorem e1z{ev:CallF}(hev:G9 P ev):G9 P (P8 ev):=by
 intro f args H x H' h;unfold P8 at h;split at h
 ·rename_i rs y H1 hc;cases h;obtain⟨h1,h2,h3,h4⟩:=b2s hev hc;refine b44 rs h1 h2 h4 ?_;rintro _ _ ⟨rfl,rfl⟩;exact⟨h3,rfl,rfl⟩
 ·cases h
theorem e08{call:CallF}(hc:G9 P call){i:AInstr}{fr:List AV}{H:AH}{v:AV}{H':AH}{K:List AV->AH->Prop}(h:Dc call i.op fr H=some (v,H'))(hk:K (Aq fr i.dst v) H'):Ob P i K fr H:=by
 obtain⟨d,g,op⟩:=i;have dflt:D8 op (evalA fr) H=some (v,H')->V1 (D8 op (evalA fr) H) λv H'=>K (Aq fr d v) H':=λh=>by rw[h];exact hk
 cases op
 case call f args=>exact(hc _ _ _ _ _ h).mono λx G ⟨h1,h2⟩=>by rw[h1,h2];exact hk
 case calld x args=>
  simp only[Dc]at h;split at h
  ·rename_i f first cap he
   exact⟨f,first,cap,he,(hc _ _ _ _ _ h).mono λx G ⟨h1,h2⟩=>by rw[h1,h2];exact hk⟩
  ·cases h
 case eqnil neg x=>
  simp only[Dc]at h;split at h
  ·rename_i b he;cases h;exact⟨_,he,λc hc=>by rw[hc b rfl];exact hk⟩
  ·cases h
 all_goals exact dflt h
theorem c40{fr:List AV}{g:Nat}{x:AV}(h:getF fr g=x)(hx:x≠.top):fr[g]?=some x:=by
 rw[F6]at h;cases hg:fr[g]? with
 |none=>rw[hg]at h;exact absurd h.symm hx
 |some y=>rw[hg]at h;rw[<-h];rfl
theorem Y9{call:CallF}(hc:G9 P call){K:List AV->AH->Prop}:∀ {is:List AInstr} {fr:List AV} {H:AH} {fr':List AV} {H':AH},Fh call is fr H=some (fr',H')->K fr' H'->RA P is K fr H
 |[],fr,H,fr',H',h,hk=>by
   simp only[Fh,e5i,Prod.mk.injEq]at h;unfold RA;rw[h.1,h.2];exact hk
 |i::rest,fr,H,fr',H',h,hk=>by
   unfold RA;unfold Fh at h;simp only[b07,Xc]at h;have go:(match Dc call i.op fr H with|some (v,H')=>Fh call rest (Aq fr i.dst v) H'|none=>none)=some (fr',H')->Ob P i (RA P rest K) fr H:=by
    intro h;split at h
    ·rename_i v H2 he;exact e08 hc he (Y9 hc h hk)
    ·cases h
   cases hg:i.guard with
   |none=>rw[hg]at h;exact go h
   |some gw=>
     obtain⟨g,want⟩:=gw;rw[hg]at h;simp only at h;split at h
     ·rename_i b hb;have hb':=c40 hb (by simp);split at h
      ·rename_i hbw;exact .inl ⟨b,hb',λ_=>go h,λhn=>absurd hbw hn⟩
      ·rename_i hbw;exact .inl ⟨b,hb',λhe=>absurd he hbw,λ_=>Y9 hc h hk⟩
     ·rename_i hb;exact .inr ⟨c40 hb (by simp),Y9 hc h hk⟩
     ·cases h
theorem d0y{op:AOp}{ev:Opd->AV}{H:AH}{v:AV}(h:Ar op ev H=some v):Ir P op ev H v:=by
 have:=ca6 h;cases op<;>first|exact this|cases h
theorem a1f{K:List AV->Prop}:∀ {is:List AInstr} {fr:List AV} {H:AH} {fr':List AV},Ls is fr H=some fr'->K fr'->R8 P is K fr H
 |[],fr,H,fr',h,hk=>by
   simp only[Ls,e5i]at h;unfold R8;rw[h];exact hk
 |i::rest,fr,H,fr',h,hk=>by
   unfold R8;unfold Ls at h;have go:(match Ar i.op (evalA fr) H with|some v=>Ls rest (Aq fr i.dst v) H|none=>none)=some fr'->∃ v,Ir P i.op (evalA fr) H v/\R8 P rest K (Aq fr i.dst v) H:=by
    intro h;split at h
    ·rename_i v he;exact⟨v,d0y he,a1f h hk⟩
    ·cases h
   cases hg:i.guard with
   |none=>rw[hg]at h;exact go h
   |some gw=>
     obtain⟨g,want⟩:=gw;rw[hg]at h;simp only at h;split at h
     ·rename_i b hb;split at h
      ·rename_i hbw;exact .inl ⟨b,hb,λ_=>go h,λhn=>absurd hbw hn⟩
      ·rename_i hbw;exact .inl ⟨b,hb,λhe=>absurd he hbw,λ_=>a1f h hk⟩
     ·rename_i hb;exact .inr ⟨hb,a1f h hk⟩
     ·cases h
theorem e0b{lk:FuncId->Bool}{ev:CallF}(hev:G9 P ev){op:AOp}{d:Option Nat}{c:Nat}{fr:List AV}{H:AH}{R W:List Loc}{c':Nat}{v:AV}{H':AH}{K:List Loc->List Loc->Nat->List AV->AH->Prop}(h:J6 lk ev op c fr H=some (R,W,c',v,H'))(hk:K R W c' (Aq fr d v) H') :
 Uj P op d c fr H K\/a39 P op d c fr H K:=by
 have dflt:(if O4 op then if c<H.length then match Cc op (evalA fr) []with
   |some (v,[some o])=>some ([Loc.con c],[.con c,.len c],c+1,ren (Au [c]) v,H.set c (some o))
   |_=>none else none else match Ar op (evalA fr) H with
   |some v=>some (Gq op (evalA fr),[],c,v,H)
   |none=>none)=some (R,W,c',v,H')->
   (if O4 op then ∃ (v:AV) (o:AObj),Cc op (evalA fr) []=some (v,[some o])/\c<H.length/\ K [.con c] [.con c,.len c] (c+1) (Aq fr d (ren (Au [c]) v)) (H.set c (some o)) else ∃ v,Ar op (evalA fr) H=some v/\K (Gq op (evalA fr)) [] c (Aq fr d v) H):=by
  intro h;split at h
  ·rename_i hf;rw[if_pos hf];split at h
   ·rename_i hb;split at h
    ·rename_i v' o he;cases h;exact⟨v',o,he,hb,hk⟩
    ·cases h
   ·cases h
  ·rename_i hf;rw[if_neg hf];split at h
   ·rename_i v' he;cases h;exact⟨_,he,hk⟩
   ·cases h
 cases op
 case call f args=>
  simp only[J6]at h;split at h
  ·split at h
   ·rename_i x H1 hc;split at h
    ·rename_i hfl;cases h;refine .inr ⟨_,hfl,?_,hk⟩
     exact(hev _ _ _ _ _ hc).mono λy G hy=>hy.1
    ·cases h
   ·cases h
  ·split at h
   ·rename_i rs x H1 hc;obtain⟨h1,h2,h3,h4⟩:=b2s hev hc;split at h
    ·rename_i hb;cases h;exact .inl ⟨rs,H1.length-rs.length,x,H1,h1,hb.1,hb.2,by omega,h4,hk⟩
    ·cases h
   ·cases h
 case store n p x=>
  simp only[J6]at h;split at h
  ·rename_i r i j tot cs e1 e2;split at h
   ·rename_i o hl;split at h
    ·rename_i e he;split at h
     ·rename_i hok;cases h;exact .inl ⟨r,i,j,tot,cs,e,o,e1,e2,hl,he,hok.1,hok.2,hk⟩
     ·cases h
    ·cases h
   ·cases h
  ·cases h
 case append sz bytes zero x y=>
  simp only[J6]at h;split at h
  ·rename_i r len news hx hy;split at h
   ·rename_i o hl;split at h
    ·rename_i hok;cases h;refine .inl ⟨r,len,news,o,?_,hy,hl,hok.1,hok.2,hk⟩;split at hx
     ·rename_i r' sz' len' tot' e1;split at hx
      ·rename_i hst;obtain⟨rfl,rfl⟩:=hst;cases hx;exact .inl e1
      ·cases hx
     ·rename_i e1;obtain⟨r',_,h2⟩:=e4g.1 hx;cases h2;exact .inr ⟨e1,rfl⟩
     ·cases hx
    ·cases h
   ·cases h
  ·cases h
 case calld x0 args=>
  simp only[J6]at h;split at h
  ·rename_i f first cap hx0
   split at h
   ·rename_i rs x H1 hc;obtain⟨h1,h2,h3,h4⟩:=b2s hev hc;split at h
    ·rename_i hb;cases h;exact .inl ⟨f,first,cap,hx0,rs,H1.length-rs.length,x,H1,h1,hb.1,hb.2,by omega,h4,hk⟩
    ·cases h
   ·cases h
  ·cases h
 case eqnil=>cases h
 case bad=>cases h
 all_goals exact .inl (dflt h)
theorem a5p{lk:FuncId->Bool}{ev:CallF}(hev:G9 P ev){tab:List (List Nat)}{K:List AV->AH->Prop}:∀ {is:List (Nat×AInstr)} {c:Nat} {lg:List Hc} {fr:List AV} {H:AH} {fr':List AV} {H':AH},Fs lk ev tab is c lg fr H=some (fr',H')->K fr' H'->RE P tab is c lg K fr H
 |[],c,lg,fr,H,fr',H',h,hk=>by
   unfold Fs at h;unfold RE;split at h
   ·rename_i hc;cases h;exact⟨hc,hk⟩
   ·cases h
 |(i,A6)::rest,c,lg,fr,H,fr',H',h,hk=>by
   unfold RE;unfold Fs at h;have go:(match J6 lk ev A6.op c fr H with|some (R,W,c',v,H')=>Fs lk ev tab rest c' (lg++[Dr i A6 R W]) (Aq fr A6.dst v) H'|none=>none)=some (fr',H')->
    (Uj P A6.op A6.dst c fr H λR W c' fr' H'=>RE P tab rest c' (lg++[Dr i A6 R W]) K fr' H')\/a39 P A6.op A6.dst c fr H λR W c' fr' H'=>RE P tab rest c' (lg++[Dr i A6 R W]) K fr' H':=by
    intro h;split at h
    ·rename_i R W c' v H2 he;exact e0b (K:=λR W c' fr' H'=>RE P tab rest c' (lg++[Dr i A6 R W]) K fr' H') hev he (a5p hev h hk)
    ·cases h
   cases hg:A6.guard with
   |none=>rw[hg]at h;exact(go h).elim .inl λh=>.inr (.inr h)
   |some gw=>
     obtain⟨g,want⟩:=gw;rw[hg]at h;simp only at h;split at h
     ·rename_i b hb;split at h
      ·rename_i hbw;exact .inl ⟨b,hb,λ_=>go h,λhn=>absurd hbw hn⟩
      ·rename_i hbw;exact .inl ⟨b,hb,λhe=>absurd he hbw,λ_=>a5p hev h hk⟩
     ·rename_i hb;exact .inr ⟨hb,a5p hev h hk⟩
     ·cases h
theorem al8{lk:FuncId->Bool}{ev:CallF}(hev:G9 P ev){tab:List (List Nat)}{K:List AV->AH->Prop}:∀ {segs:List (List (Nat×AInstr))} {fr:List AV} {H:AH} {fr':List AV} {H':AH},Ex lk ev tab segs fr H=some (fr',H')->K fr' H'->WD P tab segs K fr H
 |[],fr,H,fr',H',h,hk=>by
   simp only[Ex,e5i,Prod.mk.injEq]at h;unfold WD;rw[h.1,h.2];exact hk
 |[(_,A6)]::rest,fr,H,fr',H',h,hk=>by
   unfold WD;unfold Ex at h;split at h
   ·rename_i f2 H2 he;exact Y9 hev he (al8 hev h hk)
   ·cases h
 |[]::rest,fr,H,fr',H',h,hk=>by
   unfold WD;unfold Ex at h;split at h
   ·rename_i f2 H2 he;exact⟨_,a5p hev he (al8 hev h hk)⟩
   ·cases h
 |(x::y::z)::rest,fr,H,fr',H',h,hk=>by
   unfold WD;unfold Ex at h;split at h
   ·rename_i f2 H2 he;exact⟨_,a5p hev he (al8 hev h hk)⟩
   ·cases h
def Is(e:AExit)(fr:List AV)(H:AH):APost:=λe' fr' H'=>e'=e/\fr'=fr/\H'=H
theorem bt8:∀ {e:List AV} {p:List PV},e.mapM Cw=some p->e=p.map emb
 |[],p,h=>by simp at h;subst h;rfl
 |x::e,p,h=>by
   simp only[List.mapM_cons,Option.bind_eq_bind,e4c,Option.pure_def,e5i]at h;obtain⟨q,hq,qs,hqs,rfl⟩:=h;rw[e75,<-bt8 hqs,<-be2 hq]
theorem b86:∀ {o:AObj} {es:List (List PV)},Cm o=some es->o=es.map λe=>e.map emb
 |[],es,h=>by simp[Cm]at h;subst h;rfl
 |x::o,es,h=>by
   unfold Cm at h;simp only[List.mapM_cons,Option.bind_eq_bind,e4c,Option.pure_def,e5i]at h;obtain⟨q,hq,qs,hqs,rfl⟩:=h;rw[e75,<-b86 hqs,<-bt8 hq]
theorem e35(n0 r:Nat)(x:AV)(H:AH):Wk n0 [x] H [(V8 r x H).1] (V8 r x H).2:=by
 unfold V8;split
 ·rename_i es he;obtain⟨o,ho,hp⟩:=e4c.1 he
  have:=cd6 (n0:=n0) (fr:=[x]) r es (by rw[ho,b86 hp]);exact this
 ·exact Wk.refl _ _ _
end
end
section
def Oj(c:Nat)(H:AH)(n r i j:Nat)(cs:List AV)(x:Option AObj)(K:Nat->AH->Prop):Prop:=
 match x with
 |some o=>
   match o[i]? with
   |some e=>(cs.length=n/\j+n<=e.length/\cs.all cellA=true)/\r<c/\K r (H.set r (some (o.set i (lay e j cs))))
   |none=>False
 |none=>False
def onQ(q:Option (Option Bool))(K:Bool->Prop)(_:Tag K):Prop:=∃ c,q=some c/\∀ b,(∀ d,c=some d->b=d)->K b
section
variable {P:Program} {n0:Nat} {tab:List (List Nat)}
variable (d:Option Nat) (rest:List (Nat×AInstr)) (i c:Nat) (lg:List Hc) (K:List AV->AH->Prop) (fr:List AV) (H:AH)
variable (ii cc:Nat)
variable (restA:List AInstr)
theorem Pp(neg:Bool)(x:Opd)(t u):RT P (⟨d,none,.eqnil neg x⟩::restA) K fr H t u=onQ (Nx H (evalA fr x)) (λb=>RT P restA K (Aq fr d (.bool (b != neg))) H .mk .mk) .mk:=qq
theorem L4:Nx H .emp=some none:=qq
theorem L3(es:List (List PV)):Nx H (.fz es)=some (if es=[]then none else some false):=by cases es<;>rfl
theorem L2(r sz off len tot:Nat):Nx H (.own r sz off len tot)=(Am H r tot).map λ_=>if 0<len then some false else none:=qq
theorem Nv(K:Bool->Prop)(m):onQ (some none) K m=∀ b,K b:=by simp[onQ]
theorem b3f{n0:Nat}{H:AH}(sz:Nat):Wk n0 [.emp] H [.own H.length sz 0 0 0] (H++[some []]):=by
 intro E w vs hs hr;refine⟨E,LeN.refl _ _,hs.newEmpty,hr.1,λi x u hx hu=>?_⟩
 match i,hx,hu with
 |0,hx,hu=>
   simp at hx;subst hx;obtain⟨a,rfl⟩:=Hg (hr.2 0 _ u rfl hu);exact .own0 _ _ _
 |i+1,hx,_=>simp at hx
end
end
section
structure Memo where
 f:Nat
 args:List AV
 x:AV
def Memo.so(P:Program)(m:Memo):Prop:=C P m.f m.args [] (λx H'=>x=m.x/\H'=[])/\Aa m.args=true/\Ab m.x=true
section
variable {P:Program}
theorem Memo.any{m:Memo}(h:m.so P)(H:AH):C P m.f m.args H λx H'=>x=m.x/\H'=H:=by
 refine b44 (K0:=λx H'=>x=m.x/\H'=[]) [] List.nodup_nil (λr hr=>by cases hr) ?_ ?_
 ·rw[Hw _ _ h.2.1];exact h.1
 ·rintro x _ ⟨rfl,rfl⟩;refine⟨e7y _,?_⟩;rw[Ji _ _ h.2.2];exact⟨rfl,by simp[N9,C3]⟩
end
end
section
open Go Go.RowKit
def E0(w:World):Env:={ F:=λb=>w.heap[b]?,X:=λ_=>none,ρ:=λ_=>none,os:=w.os,tape:=w.tape,output:=w.output }
theorem c9m(r:Nat):AH.at [] r=none:=rfl
theorem e3s(w:World):Sim (E0 w) w []:=by
 refine⟨rfl,rfl,rfl,λb o h=>?_,λ_ _ _=>rfl,λr x h=>?_,λr o h=>?_,λr r' o o' x x' h=>?_⟩
 ·rcases h with h|h
  ·exact h
  ·cases h
 ·cases h
 ·rw[c9m]at h;cases h
 ·rw[c9m]at h;cases h
theorem C_top{P:Program}{f:FuncId}{args:List AV}{vs:Array Value}{w:World}(hC:C P f args [] (λx _=>x=.bool true))(hr:RepL (E0 w) args vs) :
 Calls P f vs w λe w'=>e=.returned (.bool true)/\Below w.heap.size w w':=by
 refine(hC.2 (E0 w) w vs (e3s w) hr).mono ?_;rintro e w' ⟨v,E',x,H',rfl,rfl,hle,hs,hx⟩;have hblk:∀ k,k<w.heap.size->w'.heap[k]?=w.heap[k]?:=λk hk=>by
  have h1:(E0 w).F k=some w.heap[k]:=e44 hk;rw[hs.frz k _ (.inl (hle.F k _ h1))];exact h1.symm
 refine⟨by rw[Q4 hx],hs.os.trans hle.os,hs.tape.trans hle.tape,hs.output.trans hle.output,?_,hblk⟩;rcases e7h w'.heap.size w.heap.size with h|h
 ·have:=hblk w'.heap.size h;rw[e4e (e7y _),e44 h]at this;cases this
 ·exact h
end
def opMap(g:Opd->Opd):AOp->AOp
 |.mv x=>.mv (g x)
 |.pick c a b=>.pick (g c) (g a) (g b)
 |.alloc cs=>.alloc cs
 |.box x=>.box (g x)
 |.build z p=>.build z (p.map λq=>(q.1,q.2.1,g q.2.2))
 |.bslice s l z p=>.bslice s l z (p.map λq=>(q.1,g q.2))
 |.load a n x=>.load a n (g x)
 |.store n p x=>.store n (g p) (g x)
 |.nilchk x=>.nilchk (g x)
 |.bini o x y=>.bini o (g x) (g y)
 |.bins o x y=>.bins o (g x) (g y)
 |.eqb n x y=>.eqb n (g x) (g y)
 |.eqs n k x y=>.eqs n k (g x) (g y)
 |.un o x=>.un o (g x)
 |.convi k x=>.convi k (g x)
 |.convsb x=>.convsb (g x)
 |.convbs x=>.convbs (g x)
 |.convss x=>.convss (g x)
 |.mksl s b z l c=>.mksl s b z (g l) (g c)
 |.slices x l h=>.slices (g x) (l.map g) (h.map g)
 |.slicel s x l h=>.slicel s (g x) (l.map g) (h.map g)
 |.slicez x=>.slicez (g x)
 |.slice3 x l h m=>.slice3 (g x) (g l) (g h) (g m)
 |.eqnil n x=>.eqnil n (g x)
 |.faddr o x=>.faddr o (g x)
 |.field a o n x=>.field a o n (g x)
 |.iaddr s x i=>.iaddr s (g x) (g i)
 |.iaddra l s x i=>.iaddra l s (g x) (g i)
 |.indexs x i=>.indexs (g x) (g i)
 |.indexa a l s x i=>.indexa a l s (g x) (g i)
 |.cap x=>.cap (g x)
 |.ext x i=>.ext (g x) i
 |.len s x=>.len s (g x)
 |.append s b z x y=>.append s b z (g x) (g y)
 |.copy s x y=>.copy s (g x) (g y)
 |.clear s z x=>.clear s z (g x)
 |.min2 x y=>.min2 (g x) (g y)
 |.max2 x y=>.max2 (g x) (g y)
 |.mkfn f a c=>.mkfn f (a.map g) (c.map g)
 |.call f a=>.call f (a.map g)
 |.calld x a=>.calld (g x) (a.map g)
 |.bad=>.bad
theorem b1t(g:Opd->Opd)(ev:Opd->AV):∀ (p:List (Nat×Nat×Opd)) (z:List AV),Ch ev z (p.map λq=>(q.1,q.2.1,g q.2.2))=Ch (λx=>ev (g x)) z p
 |[],z=>rfl
 |(a,b,x)::p,z=>by
   simp only[e75,Ch];cases cellsOf (ev (g x))with
   |none=>rfl
   |some cs=>simp only[b1t g ev p]
theorem c92(g:Opd->Opd)(ev:Opd->AV)(x:Option Opd)(a b:Nat):Bo ev (x.map g) a b=Bo (λx=>ev (g x)) x a b:=by cases x<;>rfl
theorem ca7(g:Opd->Opd)(ev:Opd->AV)(o:AOp)(H:AH):Ar (opMap g o) ev H=Ar o (λx=>ev (g x)) H:=by
 cases o
 case build z p=>simp only[opMap,Ar,b1t]
 case slices x l h=>simp only[opMap,Ar,c92]
 case slicel s x l h=>simp only[opMap,Ar,c92]
 case mkfn f a c=>simp only[opMap,Ar,e7q,Function.comp_def]
 case len s x=>cases s<;>rfl
 all_goals rfl
theorem e2t(g:Opd->Opd)(ev:Opd->AV)(o:AOp)(H:AH):Cc (opMap g o) ev H=Cc o (λx=>ev (g x)) H:=by
 cases o
 case bslice s l z p=>
  have h:=b1t g ev (p.map λx=>(x.1*s,s,x.2)) (List.replicate l z).flatten;simp only[e7q,Function.comp_def]at h;simp only[opMap,Cc,e7q,Function.comp_def,h]
 all_goals rfl
theorem e2s(g:Opd->Opd)(ev:Opd->AV)(o:AOp)(H:AH):D8 (opMap g o) ev H=D8 o (λx=>ev (g x)) H:=by
 unfold D8;rw[ca7,e2t]
def a91:AOp->Bool
 |.call .. =>false
 |.calld .. =>false
 |.eqnil .. =>false
 |_=>true
theorem c5y(call:CallF){o:AOp}(h:a91 o=true)(fr:List AV)(H:AH):Dc call o fr H=D8 o (evalA fr) H:=by
 cases o<;>first|rfl|cases h
theorem d3g(g:Opd->Opd)(o:AOp):a91 (opMap g o)=a91 o:=by cases o<;>rfl
theorem e09(call:CallF)(g:Opd->Opd){fr vs:List AV}(h:∀ x,evalA fr (g x)=evalA vs x)(o:AOp)(H:AH):Dc call (opMap g o) fr H=Dc call o vs H:=by
 have e:(λx=>evalA fr (g x))=evalA vs:=funext h;have e2:∀ l:List Opd,(l.map g).map (evalA fr)=l.map (evalA vs):=λl=>by rw[e7q];exact e4y λx _=>h x
 cases hp:a91 o with
 |true=>rw[c5y call hp,c5y call (by rw[d3g,hp]),e2s,e]
 |false=>
   cases o
   case call f a=>simp only[opMap,Dc,e2]
   case calld x a=>simp only[opMap,Dc,h,e2]
   case eqnil n x=>simp only[opMap,Dc,h]
   all_goals cases hp
inductive TE where
 |v (i:Nat)
 |d (i:Nat)
 |c (x:AV)
 |op (o:AOp) (args:List TE)
 |and (a b:TE)
 |or (a b:TE)
inductive TS where
 |put (d:Option Nat) (o:AOp) (args:List TE)
inductive Act where
 |fz (i:Nat)
 |fzC (i off:Nat)
 |emp (i sz:Nat)
 |empC (i off sz:Nat)
 |empL (i off c sz:Nat)
 |keep (live:List Nat)
inductive TC where
 |skip
 |ret
 |exit (id:Nat)
 |reg (n:Nat) (l:List TS)
 |dreg (n:Nat) (l:List TS)
 |raw (l:List AInstr)
 |rawD (l:List AInstr)
 |rawE (segs:List (List (Nat×AInstr))) (tab:List (List Nat))
 |seq (a b:TC)
 |ifc (n:Nat) (l:List TS) (e:TE) (a b:TC)
 |ifd (n:Nat) (l:List TS) (e:TE) (a b:TC)
 |ifv (i:Nat) (a b:TC)
 |ifk (q:Bool) (a b:TC)
 |bad
 |block (id:Nat) (b:TC)
 |loop (live:List Nat) (em:List (Nat×Nat)) (b:TC)
 |pre (l:List Act) (b:TC)
 |after (l:List Act) (b:TC)
def slot(sl:List Nat)(i:Nat):Nat:=sl.getD i 0
def nx(sl:List Nat):Nat->Nat->Nat
 |0,n=>n
 |k+1,n=>if sl.contains n then nx sl k (n+1)else n
def Ee(sl:List Nat)(n:Nat):Nat:=nx sl sl.length n
def a96(os:List Opd):Opd->Opd
 |.t k=>(os[k]?).getD (.c .top)
 |.c x=>.c x
mutual
def Bn(sl:List Nat)(g:Option (Nat×Bool)):TE->Nat->List AInstr×Opd×Nat
 |.v i,n=>([⟨some (Ee sl n),g,.mv (.t (slot sl i))⟩],.t (Ee sl n),Ee sl n+1)
 |.d i,n=>([],.t (slot sl i),n)
 |.c x,n=>([],.c x,n)
 |.op o as,n=>
   let r:=G4 sl g as n
   (r.1++[⟨some (Ee sl r.2.2),g,opMap (a96 r.2.1) o⟩],.t (Ee sl r.2.2),Ee sl r.2.2+1)
 |.and a b,n=>
   let r:=Bn sl g a n;let m:=Ee sl r.2.2;let q:=Bn sl (some (m,true)) b (m+1)
   (r.1++⟨some m,g,.mv r.2.1⟩::(q.1++[⟨some (Ee sl q.2.2),g,.pick (.t m) q.2.1 (.c (.bool false))⟩]),.t (Ee sl q.2.2),Ee sl q.2.2+1)
 |.or a b,n=>
   let r:=Bn sl g a n;let m:=Ee sl r.2.2;let q:=Bn sl (some (m,false)) b (m+1)
   (r.1++⟨some m,g,.mv r.2.1⟩::(q.1++[⟨some (Ee sl q.2.2),g,.pick (.t m) (.c (.bool true)) q.2.1⟩]),.t (Ee sl q.2.2),Ee sl q.2.2+1)
def G4(sl:List Nat)(g:Option (Nat×Bool)):List TE->Nat->List AInstr×List Opd×Nat
 |[],n=>([],[],n)
 |e::es,n=>
   let r:=Bn sl g e n;let q:=G4 sl g es r.2.2
   (r.1++q.1,r.2.1::q.2.1,q.2.2)
end
def flS(sl:List Nat):TS->Nat->List AInstr×Nat
 |.put d o as,n=>
   let r:=G4 sl none as n
   (r.1++[⟨d.map (slot sl),none,opMap (a96 r.2.1) o⟩],r.2.2)
def Qs(sl:List Nat):List TS->Nat->List AInstr×Nat
 |[],n=>([],n)
 |s::l,n=>
   let r:=flS sl s n;let q:=Qs sl l r.2
   (r.1++q.1,q.2)
def Ho(sl:List Nat):TC->ACode
 |.skip=>.skip
 |.ret=>.ret
 |.exit i=>.exit i
 |.reg n l=>.reg (Qs sl l n).1
 |.dreg n l=>.dreg (Qs sl l n).1
 |.raw l=>.reg l
 |.rawD l=>.dreg l
 |.rawE s t=>.dregE s t
 |.seq a b=>.seq (Ho sl a) (Ho sl b)
 |.ifc n l e a b=>
   let r:=Qs sl l n;let q:=Bn sl none e r.2
   .seq (.reg (r.1++q.1)) (.cond q.2.1 (Ho sl a) (Ho sl b))
 |.ifd n l e a b=>
   let r:=Qs sl l n;let q:=Bn sl none e r.2
   .seq (.dreg (r.1++q.1)) (.cond q.2.1 (Ho sl a) (Ho sl b))
 |.ifv i a b=>.cond (.t (slot sl i)) (Ho sl a) (Ho sl b)
 |.ifk q a b=>.cond (.c (.bool q)) (Ho sl a) (Ho sl b)
 |.bad=>.bad
 |.block i b=>.block i (Ho sl b)
 |.loop _ _ b=>.loop (Ho sl b)
 |.pre _ b=>Ho sl b
 |.after _ b=>Ho sl b
abbrev StepF:=AOp->List AV->AH->Option (AV×AH)
def E5(f:StepF):List AInstr->List AV->AH->Option (List AV×AH)
 |[],fr,H=>some (fr,H)
 |i::rest,fr,H=>
   match i.guard with
   |none=>(f i.op fr H).bind λr=>E5 f rest (Aq fr i.dst r.1) r.2
   |some (g,want)=>
     match fr[g]? with
     |some (.bool b)=>if b=want then(f i.op fr H).bind λr=>E5 f rest (Aq fr i.dst r.1) r.2 else E5 f rest (Aq fr i.dst (.tuple [])) H
     |some (.tuple [])=>E5 f rest (Aq fr i.dst (.tuple [])) H
     |_=>none
theorem a3k(f:StepF):∀ (a b:List AInstr) (fr:List AV) (H:AH),E5 f (a++b) fr H=(E5 f a fr H).bind λr=>E5 f b r.1 r.2
 |[],b,fr,H=>rfl
 |i::a,b,fr,H=>by
   simp only[e62,E5];cases i.guard with
   |none=>
     simp only[];cases f i.op fr H with
     |none=>rfl
     |some r=>simp only[e5y,a3k f a b]
   |some gw=>
     obtain⟨g,want⟩:=gw;simp only[];split
     ·split
      ·cases f i.op fr H with
       |none=>rfl
       |some r=>simp only[e5y,a3k f a b]
      ·exact a3k f a b _ _
     ·exact a3k f a b _ _
     ·rfl
mutual
def Bc(f:StepF)(cf:List AV):TE->AH->Option (AV×AH)
 |.v i,H=>some (getF cf i,H)
 |.d i,H=>some (getF cf i,H)
 |.c x,H=>some (x,H)
 |.op o as,H=>(Cz f cf as H).bind λr=>f o r.1 r.2
 |.and a b,H=>(Bc f cf a H).bind λr=>match r.1 with
   |.bool true=>Bc f cf b r.2
   |.bool false=>some (.bool false,r.2)
   |_=>none
 |.or a b,H=>(Bc f cf a H).bind λr=>match r.1 with
   |.bool true=>some (.bool true,r.2)
   |.bool false=>Bc f cf b r.2
   |_=>none
def Cz(f:StepF)(cf:List AV):List TE->AH->Option (List AV×AH)
 |[],H=>some ([],H)
 |e::es,H=>(Bc f cf e H).bind λr=>(Cz f cf es r.2).bind λq=>some (r.1::q.1,q.2)
end
def tvS(f:StepF)(cf:List AV)(H:AH):TS->Option (List AV×AH)
 |.put d o as=>(Cz f cf as H).bind λr=>(f o r.1 r.2).bind λq=>some (Fd cf d q.1,q.2)
def Eo(f:StepF):List TS->List AV->AH->Option (List AV×AH)
 |[],cf,H=>some (cf,H)
 |s::l,cf,H=>(tvS f cf H s).bind λr=>Eo f l r.1 r.2
structure Ag(sl:List Nat)(cf fr:List AV):Prop where
 len:cf.length=sl.length
 at':∀ i,i<sl.length->fr[slot sl i]?=some (getF cf i)
 nd:sl.Nodup
theorem Ag.put{sl:List Nat}{cf fr:List AV}(h:Ag sl cf fr){i:Nat}(hi:i<sl.length)(x:AV):Ag sl (cf.set i x) (fr.set (slot sl i) x):=by
 refine⟨by simpa using h.len,λj hj=>?_,h.nd⟩;rw[e5g];by_cases hij:i=j
 ·subst hij
  have:=h.at' i hi;have hlt:slot sl i<fr.length:=by
   rcases e7h (slot sl i) fr.length with h'|h'
   ·exact h'
   ·rw[e4j h']at this;cases this
  rw[if_pos rfl,if_pos hlt,F6,e5g,if_pos rfl,if_pos (by rw[h.len];exact hi)];rfl
 ·have hne:slot sl i≠slot sl j:=by
   intro e;have e1:sl[i]'hi=sl[j]'hj:=by
    simp only[slot,e42,e47 hi,e47 hj,e5u]at e;exact e
   exact hij ((List.getElem_inj h.nd).1 e1)
  rw[if_neg hne,F6,e5g,if_neg hij,<-F6];exact h.at' j hj
theorem Ag.tmp{sl:List Nat}{cf fr:List AV}(h:Ag sl cf fr){n:Nat}(hn:n∉sl)(x:AV):Ag sl cf (fr.set n x):=by
 refine⟨h.len,λj hj=>?_,h.nd⟩;rw[e5g,if_neg ?_]
 ·exact h.at' j hj
 ·intro e;apply hn;rw[e];simp only[slot,e42,e47 hj,e5u];exact e63 hj
def On(fr:List AV):Option (Nat×Bool)->Prop
 |none=>True
 |some (s,b)=>fr[s]?=some (.bool b)
def Off(fr:List AV):Option (Nat×Bool)->Prop
 |none=>False
 |some (s,b)=>fr[s]?=some (.bool !b)\/fr[s]?=some (.tuple [])
mutual
def Nw(k:Nat):TE->Bool
 |.v i=>decide (i<k)
 |.d i=>decide (i<k)
 |.c _=>true
 |.op _ as=>a3z k as
 |.and a b=>Nw k a&&Nw k b
 |.or a b=>Nw k a&&Nw k b
def a3z(k:Nat):List TE->Bool
 |[]=>true
 |e::es=>Nw k e&&a3z k es
end
section
theorem br0(sl:List Nat):∀ k n,n<=nx sl k n
 |0,n=>e7y n
 |k+1,n=>by
   unfold nx;split
   ·exact e7n (Nat.le_succ n) (br0 sl k (n+1))
   ·exact e7y n
theorem Oq(sl:List Nat)(n:Nat):n<=Ee sl n:=br0 sl _ n
structure Keeps(sl:List Nat)(n:Nat)(fr fr':List AV):Prop where
 k:∀ s,s<n\/s∈sl->fr'[s]?=fr[s]?
 len:fr'.length=fr.length
theorem Keeps.refl(sl:List Nat)(n:Nat)(fr:List AV):Keeps sl n fr fr:=⟨λ_ _=>rfl,rfl⟩
theorem Keeps.trans{sl:List Nat}{n m:Nat}{a b c:List AV}(h:Keeps sl n a b)(h':Keeps sl m b c)(hm:n<=m):Keeps sl n a c:=
 ⟨λs hs=>(h'.k s (hs.imp (λh=>Nat.lt_of_lt_of_le h hm) id)).trans (h.k s hs),h'.len.trans h.len⟩
theorem Keeps.set{sl:List Nat}{n m:Nat}{fr:List AV}(x:AV)(h1:m∉sl)(h2:n<=m):Keeps sl n fr (fr.set m x):=by
 refine⟨λs hs=>?_,by simp⟩;rw[e5g,if_neg];rintro rfl;rcases hs with hs|hs
 ·omega
 ·exact h1 hs
theorem b9s{sl:List Nat}{i:Nat}(hi:i<sl.length):slot sl i∈sl:=by
 simp only[slot,e42,e47 hi,e5u];exact e63 hi
theorem Ag.keep{sl:List Nat}{n:Nat}{cf fr fr':List AV}(h:Ag sl cf fr)(hk:Keeps sl n fr fr'):Ag sl cf fr' :=
 ⟨h.len,λi hi=>(hk.k _ (.inr (b9s hi))).trans (h.at' i hi),h.nd⟩
theorem Ag.get{sl:List Nat}{cf fr:List AV}(h:Ag sl cf fr){i:Nat}(hi:i<sl.length):evalA fr (.t (slot sl i))=getF cf i:=by
 simp only[evalA,h.at' i hi,e5u]
def U7(n:Nat):Option (Nat×Bool)->Prop
 |none=>True
 |some (s,_)=>s<n
theorem U7.mono{n m:Nat}(h:n<=m):∀ {g},U7 n g->U7 m g
 |none,_=>trivial
 |some (_,_),h'=>Nat.lt_of_lt_of_le h' h
theorem On.keep{sl:List Nat}{n:Nat}{fr fr':List AV}(hk:Keeps sl n fr fr'):∀ {g},U7 n g->On fr g->On fr' g
 |none,_,_=>trivial
 |some (_,_),hl,h=>(hk.k _ (.inl hl)).trans h
theorem Off.keep{sl:List Nat}{n:Nat}{fr fr':List AV}(hk:Keeps sl n fr fr'):∀ {g},U7 n g->Off fr g->Off fr' g
 |none,_,h=>h
 |some (_,_),hl,h=>h.imp (λh=>(hk.k _ (.inl hl)).trans h) (λh=>(hk.k _ (.inl hl)).trans h)
def Zb(sl:List Nat)(n:Nat):Opd->Prop
 |.t t=>t<n\/t∈sl
 |.c _=>True
theorem Zb.mono{sl:List Nat}{n m:Nat}(h:n<=m):∀ {o},Zb sl n o->Zb sl m o
 |.t _,h'=>h'.imp (λh'=>Nat.lt_of_lt_of_le h' h) id
 |.c _,_=>trivial
theorem Zb.keep{sl:List Nat}{n:Nat}{fr fr':List AV}(hk:Keeps sl n fr fr'):∀ {o},Zb sl n o->evalA fr' o=evalA fr o
 |.t t,h=>by simp only[evalA,hk.k t h]
 |.c _,_=>rfl
def Tm(sl:List Nat)(N:Nat)(l:List AInstr):Prop:=∀ i∈l,∀ d,i.dst=some d->d∉sl/\d<N
theorem Tm.left{sl:List Nat}{N:Nat}{a b:List AInstr}(h:Tm sl N (a++b)):Tm sl N a:=λi hi=>h i (e4t _ hi)
theorem Tm.right{sl:List Nat}{N:Nat}{a b:List AInstr}(h:Tm sl N (a++b)):Tm sl N b:=λi hi=>h i (e4o _ hi)
structure StepOK(f:StepF):Prop where
 map:∀ (g:Opd->Opd) (fr vs:List AV),(∀ x,evalA fr (g x)=evalA vs x)->∀ o H,f (opMap g o) fr H=f o vs H
 mv:∀ x fr H,f (.mv x) fr H=some (evalA fr x,H)
 pick:∀ c a b fr H,f (.pick c a b) fr H=same (pickV (evalA fr c) (evalA fr a) (evalA fr b)) H
section
variable {f:StepF} {sl:List Nat}
theorem X0{g:Option (Nat×Bool)}{m:Option Nat}{op:AOp}{fr:List AV}{H:AH}{y:AV}{H':AH}(hg:On fr g)(h:f op fr H=some (y,H'))(rest:List AInstr):E5 f (⟨m,g,op⟩::rest) fr H=E5 f rest (Aq fr m y) H':=by
 conv=>lhs;unfold E5
 cases g with
 |none=>simp only[h,e5y]
 |some gw=>
   obtain⟨s,b⟩:=gw;simp only[show fr[s]?=some (.bool b)from hg,if_true,h,e5y]
theorem Zx{g:Option (Nat×Bool)}{m:Option Nat}{op:AOp}{fr:List AV}{H:AH}(hg:Off fr g)(rest:List AInstr):E5 f (⟨m,g,op⟩::rest) fr H=E5 f rest (Aq fr m (.tuple [])) H:=by
 conv=>lhs;unfold E5
 cases g with
 |none=>exact hg.elim
 |some gw=>
   obtain⟨s,b⟩:=gw;rcases hg with hg|hg
   ·simp only[hg];rw[if_neg (by cases b<;>simp)]
   ·simp only[hg]
theorem J8{a b:List AInstr}{fr fr' fr2:List AV}{H H' H2:AH}(h:E5 f a fr H=some (fr',H'))(h2:E5 f b fr' H'=some (fr2,H2)):E5 f (a++b) fr H=some (fr2,H2):=by
 rw[a3k,h];exact h2
theorem Ul{fr:List AV}{m:Nat}(h:m<fr.length)(x:AV):(fr.set m x)[m]?=some x:=by
 rw[e5g,if_pos rfl,if_pos h]
mutual
theorem Y5(N:Nat):∀ (e:TE) (g:Option (Nat×Bool)) (n:Nat) (fr:List AV) (H:AH),Tm sl N (Bn sl g e n).1->fr.length=N->Off fr g->U7 n g->
 n<=(Bn sl g e n).2.2/\∃ fr',E5 f (Bn sl g e n).1 fr H=some (fr',H)/\Keeps sl n fr fr'
 |.v i,g,n,fr,H,ht,hN,hg,hl=>by
   simp only[Bn]at ht ⊢;have h1:=Oq sl n;obtain⟨h2,h3⟩:=ht _ (e59.2 rfl) _ rfl;exact⟨by omega,_,by rw[Zx hg];rfl,Keeps.set _ h2 h1⟩
 |.d i,g,n,fr,H,ht,hN,hg,hl=>by
   simp only[Bn];exact⟨e7y _,fr,rfl,.refl _ _ _⟩
 |.c x,g,n,fr,H,ht,hN,hg,hl=>by
   simp only[Bn];exact⟨e7y _,fr,rfl,.refl _ _ _⟩
 |.op o as,g,n,fr,H,ht,hN,hg,hl=>by
   simp only[Bn]at ht ⊢;obtain⟨h0,fr1,h1,h2⟩:=c5c N as g n fr H ht.left hN hg hl;have h3:=Oq sl (G4 sl g as n).2.2;obtain⟨h4,h5⟩:=ht.right _ (e59.2 rfl) _ rfl;exact⟨by omega,_,J8 h1 (by rw[Zx (hg.keep h2 hl)];rfl),h2.trans (Keeps.set _ h4 h3) h0⟩
 |.and a b,g,n,fr,H,ht,hN,hg,hl=>by
   simp only[Bn]at ht ⊢;obtain⟨h0,fr1,h1,h2⟩:=Y5 N a g n fr H ht.left hN hg hl;have h3:=Oq sl (Bn sl g a n).2.2;generalize Bn sl g a n=r at *;generalize hm:Ee sl r.2.2=m at *;obtain⟨h4,h5⟩:=ht.right _ (e5a) _ rfl;have ht2:Tm sl N (Bn sl (some (m,true)) b (m+1)).1:=λi hi=>ht.right i (e4u _ (e4t _ hi));obtain⟨g0,fr2,g1,g2⟩:=Y5 N b (some (m,true)) (m+1) (fr1.set m (.tuple [])) H ht2 (by simp[h2.len,hN]) (.inr (Ul (by rw[h2.len,hN];exact h5) _)) (e64 _);have h6:=Oq sl (Bn sl (some (m,true)) b (m+1)).2.2;generalize Bn sl (some (m,true)) b (m+1)=q at *;obtain⟨h7,h8⟩:=ht.right _ (e4u _ (e4o _ (e59.2 rfl))) _ rfl;have k1:Keeps sl n fr fr2:=(h2.trans (Keeps.set _ h4 h3) h0).trans g2 om;refine⟨by omega,fr2.set (Ee sl q.2.2) (.tuple []),J8 h1 ?_,k1.trans (Keeps.set _ h7 h6) om⟩;rw[Zx (hg.keep h2 hl)];exact J8 g1 (by rw[Zx (hg.keep k1 hl)];rfl)
 |.or a b,g,n,fr,H,ht,hN,hg,hl=>by
   simp only[Bn]at ht ⊢;obtain⟨h0,fr1,h1,h2⟩:=Y5 N a g n fr H ht.left hN hg hl;have h3:=Oq sl (Bn sl g a n).2.2;generalize Bn sl g a n=r at *;generalize hm:Ee sl r.2.2=m at *;obtain⟨h4,h5⟩:=ht.right _ (e5a) _ rfl;have ht2:Tm sl N (Bn sl (some (m,false)) b (m+1)).1:=λi hi=>ht.right i (e4u _ (e4t _ hi));obtain⟨g0,fr2,g1,g2⟩:=Y5 N b (some (m,false)) (m+1) (fr1.set m (.tuple [])) H ht2 (by simp[h2.len,hN]) (.inr (Ul (by rw[h2.len,hN];exact h5) _)) (e64 _);have h6:=Oq sl (Bn sl (some (m,false)) b (m+1)).2.2;generalize Bn sl (some (m,false)) b (m+1)=q at *;obtain⟨h7,h8⟩:=ht.right _ (e4u _ (e4o _ (e59.2 rfl))) _ rfl;have k1:Keeps sl n fr fr2:=(h2.trans (Keeps.set _ h4 h3) h0).trans g2 om;refine⟨by omega,fr2.set (Ee sl q.2.2) (.tuple []),J8 h1 ?_,k1.trans (Keeps.set _ h7 h6) om⟩;rw[Zx (hg.keep h2 hl)];exact J8 g1 (by rw[Zx (hg.keep k1 hl)];rfl)
theorem c5c(N:Nat):∀ (es:List TE) (g:Option (Nat×Bool)) (n:Nat) (fr:List AV) (H:AH),Tm sl N (G4 sl g es n).1->fr.length=N->Off fr g->U7 n g->
 n<=(G4 sl g es n).2.2/\∃ fr',E5 f (G4 sl g es n).1 fr H=some (fr',H)/\Keeps sl n fr fr'
 |[],g,n,fr,H,ht,hN,hg,hl=>by
   simp only[G4];exact⟨e7y _,fr,rfl,.refl _ _ _⟩
 |e::es,g,n,fr,H,ht,hN,hg,hl=>by
   simp only[G4]at ht ⊢;obtain⟨h0,fr1,h1,h2⟩:=Y5 N e g n fr H ht.left hN hg hl;obtain⟨g0,fr2,g1,g2⟩:=c5c N es g _ fr1 H ht.right (h2.len.trans hN) (hg.keep h2 hl) (hl.mono h0);exact⟨by omega,fr2,J8 h1 g1,h2.trans g2 h0⟩
end
theorem bp0{fr vs:List AV}{os:List Opd}(h:os.map (evalA fr)=vs):∀ x,evalA fr (a96 os x)=evalA vs x
 |.t k=>by
   subst h;simp only[a96,evalA,e5j];cases os[k]?<;>rfl
 |.c x=>rfl
mutual
theorem Y4(hf:StepOK f)(N:Nat){cf:List AV}:∀ (e:TE) (g:Option (Nat×Bool)) (n:Nat) (fr:List AV) (H:AH) (x:AV) (H':AH),Nw sl.length e=true->Tm sl N (Bn sl g e n).1->fr.length=N->Ag sl cf fr->On fr g->U7 n g->
 Bc f cf e H=some (x,H')->
 n<=(Bn sl g e n).2.2/\Zb sl (Bn sl g e n).2.2 (Bn sl g e n).2.1/\∃ fr',E5 f (Bn sl g e n).1 fr H=some (fr',H')/\Keeps sl n fr fr'/\evalA fr' (Bn sl g e n).2.1=x
 |.v i,g,n,fr,H,x,H',hok,ht,hN,ha,hg,hl,h=>by
   simp only[Bn]at ht ⊢;simp only[Nw,e5h]at hok;cases h;have h1:=Oq sl n;obtain⟨h2,h3⟩:=ht _ (e59.2 rfl) _ rfl;refine⟨by omega,.inl (e64 _),_,by rw[X0 hg (hf.mv _ _ _)];rfl,Keeps.set _ h2 h1,?_⟩;simp only[evalA,Ul (by omega:Ee sl n<fr.length),e5u];exact ha.get hok
 |.d i,g,n,fr,H,x,H',hok,ht,hN,ha,hg,hl,h=>by
   simp only[Bn];simp only[Nw,e5h]at hok;cases h;exact⟨e7y _,.inr (b9s hok),fr,rfl,.refl _ _ _,ha.get hok⟩
 |.c y,g,n,fr,H,x,H',hok,ht,hN,ha,hg,hl,h=>by
   simp only[Bn];cases h;exact⟨e7y _,trivial,fr,rfl,.refl _ _ _,rfl⟩
 |.op o as,g,n,fr,H,x,H',hok,ht,hN,ha,hg,hl,h=>by
   simp only[Bn]at ht ⊢;simp only[Nw]at hok;simp only[Bc,e4c]at h;obtain⟨r,hr,h⟩:=h;obtain⟨h0,_,fr1,h1,h2,h3⟩:=b1n hf N as g n fr H r.1 r.2 hok ht.left hN ha hg hl hr;have h4:=Oq sl (G4 sl g as n).2.2;obtain⟨h5,h6⟩:=ht.right _ (e59.2 rfl) _ rfl;have h7:=hf.map _ _ _ (bp0 h3) o r.2;rw[h]at h7;refine⟨by omega,.inl (e64 _),_,J8 h1 (by rw[X0 (hg.keep h2 hl) h7];rfl),h2.trans (Keeps.set _ h5 h4) h0,?_⟩;simp only[evalA,Aq,Ul (by rw[h2.len];omega:Ee sl (G4 sl g as n).2.2<fr1.length),e5u]
 |.and a b,g,n,fr,H,x,H',hok,ht,hN,ha,hg,hl,h=>by
   simp only[Bn]at ht ⊢;simp only[Nw,e5v]at hok;simp only[Bc,e4c]at h;obtain⟨⟨y,H1⟩,hr,h⟩:=h;obtain⟨h0,_,fr1,h1,h2,h3⟩:=Y4 hf N a g n fr H y H1 hok.1 ht.left hN ha hg hl hr;have h4:=Oq sl (Bn sl g a n).2.2;generalize Bn sl g a n=r at *;generalize hm:Ee sl r.2.2=m at *;obtain⟨h5,h6⟩:=ht.right _ (e5a) _ rfl;have ht2:Tm sl N (Bn sl (some (m,true)) b (m+1)).1:=λi hi=>ht.right i (e4u _ (e4t _ hi));have hmv:=hf.mv r.2.1 fr1 H1;rw[h3]at hmv;have k0:Keeps sl n fr (fr1.set m y):=h2.trans (Keeps.set _ h5 h4) h0;have hsm:=Ul (fr:=fr1) (m:=m) (by rw[h2.len,hN];exact h6) y;have h7:=Oq sl (Bn sl (some (m,true)) b (m+1)).2.2;obtain⟨h8,h9⟩:=ht.right _ (e4u _ (e4o _ (e59.2 rfl))) _ rfl;have key:m+1<=(Bn sl (some (m,true)) b (m+1)).2.2/\∃ fr2,E5 f (Bn sl (some (m,true)) b (m+1)).1 (fr1.set m y) H1=some (fr2,H')/\Keeps sl (m+1) (fr1.set m y) fr2/\
    pickV (evalA fr2 (.t m)) (evalA fr2 (Bn sl (some (m,true)) b (m+1)).2.1) (.bool false)=some x:=by
    split at h
    ·rename_i hy;have hy:y=.bool true:=hy;subst hy;obtain⟨g0,_,fr2,g1,g2,g3⟩:=Y4 hf N b (some (m,true)) (m+1) (fr1.set m (.bool true)) H1 x H' hok.2 ht2 (by simp[h2.len,hN]) (ha.keep k0) hsm (e64 _) h;refine⟨g0,fr2,g1,g2,?_⟩;simp only[evalA]at g3 ⊢;rw[g2.k m (.inl (e64 _)),hsm];simp only[e5u,pickV];exact congrArg some g3
    ·rename_i hy;have hy:y=.bool false:=hy;subst hy;cases h;obtain⟨g0,fr2,g1,g2⟩:=Y5 (f:=f) N b (some (m,true)) (m+1) (fr1.set m (.bool false)) H1 ht2 (by simp[h2.len,hN]) (.inl hsm) (e64 _);refine⟨g0,fr2,g1,g2,?_⟩;simp only[evalA];rw[g2.k m (.inl (e64 _)),hsm];rfl
    ·cases h
   obtain⟨g0,fr2,g1,g2,g3⟩:=key;generalize Bn sl (some (m,true)) b (m+1)=q at *;have k1:Keeps sl n fr fr2:=k0.trans g2 om;have hp:=hf.pick (.t m) q.2.1 (.c (.bool false)) fr2 H';rw[show evalA fr2 (.c (.bool false))=AV.bool false from rfl,g3]at hp;refine⟨by omega,.inl (e64 _),fr2.set (Ee sl q.2.2) x,J8 h1 ?_,k1.trans (Keeps.set (m:=Ee sl q.2.2) x h8 h7) om,?_⟩
   ·rw[X0 (hg.keep h2 hl) hmv];exact J8 g1 (by rw[X0 (hg.keep k1 hl) hp];rfl)
   ·simp only[evalA,Ul (by rw[k1.len];omega:Ee sl q.2.2<fr2.length),e5u]
 |.or a b,g,n,fr,H,x,H',hok,ht,hN,ha,hg,hl,h=>by
   simp only[Bn]at ht ⊢;simp only[Nw,e5v]at hok;simp only[Bc,e4c]at h;obtain⟨⟨y,H1⟩,hr,h⟩:=h;obtain⟨h0,_,fr1,h1,h2,h3⟩:=Y4 hf N a g n fr H y H1 hok.1 ht.left hN ha hg hl hr;have h4:=Oq sl (Bn sl g a n).2.2;generalize Bn sl g a n=r at *;generalize hm:Ee sl r.2.2=m at *;obtain⟨h5,h6⟩:=ht.right _ (e5a) _ rfl;have ht2:Tm sl N (Bn sl (some (m,false)) b (m+1)).1:=λi hi=>ht.right i (e4u _ (e4t _ hi));have hmv:=hf.mv r.2.1 fr1 H1;rw[h3]at hmv;have k0:Keeps sl n fr (fr1.set m y):=h2.trans (Keeps.set _ h5 h4) h0;have hsm:=Ul (fr:=fr1) (m:=m) (by rw[h2.len,hN];exact h6) y;have h7:=Oq sl (Bn sl (some (m,false)) b (m+1)).2.2;obtain⟨h8,h9⟩:=ht.right _ (e4u _ (e4o _ (e59.2 rfl))) _ rfl;have key:m+1<=(Bn sl (some (m,false)) b (m+1)).2.2/\∃ fr2,E5 f (Bn sl (some (m,false)) b (m+1)).1 (fr1.set m y) H1=some (fr2,H')/\Keeps sl (m+1) (fr1.set m y) fr2/\
    pickV (evalA fr2 (.t m)) (.bool true) (evalA fr2 (Bn sl (some (m,false)) b (m+1)).2.1)=some x:=by
    split at h
    ·rename_i hy;have hy:y=.bool true:=hy;subst hy;cases h;obtain⟨g0,fr2,g1,g2⟩:=Y5 (f:=f) N b (some (m,false)) (m+1) (fr1.set m (.bool true)) H1 ht2 (by simp[h2.len,hN]) (.inl hsm) (e64 _);refine⟨g0,fr2,g1,g2,?_⟩;simp only[evalA];rw[g2.k m (.inl (e64 _)),hsm];rfl
    ·rename_i hy;have hy:y=.bool false:=hy;subst hy;obtain⟨g0,_,fr2,g1,g2,g3⟩:=Y4 hf N b (some (m,false)) (m+1) (fr1.set m (.bool false)) H1 x H' hok.2 ht2 (by simp[h2.len,hN]) (ha.keep k0) hsm (e64 _) h;refine⟨g0,fr2,g1,g2,?_⟩;simp only[evalA]at g3 ⊢;rw[g2.k m (.inl (e64 _)),hsm];simp only[e5u,pickV];exact congrArg some g3
    ·cases h
   obtain⟨g0,fr2,g1,g2,g3⟩:=key;generalize Bn sl (some (m,false)) b (m+1)=q at *;have k1:Keeps sl n fr fr2:=k0.trans g2 om;have hp:=hf.pick (.t m) (.c (.bool true)) q.2.1 fr2 H';rw[show evalA fr2 (.c (.bool true))=AV.bool true from rfl,g3]at hp;refine⟨by omega,.inl (e64 _),fr2.set (Ee sl q.2.2) x,J8 h1 ?_,k1.trans (Keeps.set (m:=Ee sl q.2.2) x h8 h7) om,?_⟩
   ·rw[X0 (hg.keep h2 hl) hmv];exact J8 g1 (by rw[X0 (hg.keep k1 hl) hp];rfl)
   ·simp only[evalA,Ul (by rw[k1.len];omega:Ee sl q.2.2<fr2.length),e5u]
theorem b1n(hf:StepOK f)(N:Nat){cf:List AV}:∀ (es:List TE) (g:Option (Nat×Bool)) (n:Nat) (fr:List AV) (H:AH) (xs:List AV) (H':AH),a3z sl.length es=true->Tm sl N (G4 sl g es n).1->fr.length=N->Ag sl cf fr->On fr g->U7 n g->
 Cz f cf es H=some (xs,H')->
 n<=(G4 sl g es n).2.2/\(∀ o∈(G4 sl g es n).2.1,Zb sl (G4 sl g es n).2.2 o)/\∃ fr',E5 f (G4 sl g es n).1 fr H=some (fr',H')/\Keeps sl n fr fr'/\(G4 sl g es n).2.1.map (evalA fr')=xs
 |[],g,n,fr,H,xs,H',hok,ht,hN,ha,hg,hl,h=>by
   simp only[G4];cases h;exact⟨e7y _,λo ho=>(by cases ho),fr,rfl,.refl _ _ _,rfl⟩
 |e::es,g,n,fr,H,xs,H',hok,ht,hN,ha,hg,hl,h=>by
   simp only[G4]at ht ⊢;simp only[a3z,e5v]at hok;simp only[Cz,e4c]at h;obtain⟨⟨y,H1⟩,hr,⟨ys,H2⟩,hr2,h⟩:=h;cases h;obtain⟨h0,h3,fr1,h1,h2,h4⟩:=Y4 hf N e g n fr H y H1 hok.1 ht.left hN ha hg hl hr;obtain⟨g0,g3,fr2,g1,g2,g4⟩:=b1n hf N es g _ fr1 H1 ys H2 hok.2 ht.right (h2.len.trans hN) (ha.keep h2) (hg.keep h2 hl) (hl.mono h0) hr2;refine⟨by omega,λo ho=>?_,fr2,J8 h1 g1,h2.trans g2 h0,?_⟩
   ·rcases e79.1 ho with rfl|ho
    ·exact h3.mono g0
    ·exact g3 o ho
   ·rw[e75,g4,h3.keep g2,h4]
end
def okS(k:Nat):TS->Bool
 |.put d _ as=>a3z k as&&(match d with
   |some i=>decide (i<k)
   |none=>true)
def tmB(sl:List Nat)(N:Nat)(l:List AInstr):Bool:=l.all λi=>match i.dst with
 |some d=> !sl.contains d&&decide (d<N)
 |none=>true
theorem au4{sl:List Nat}{N:Nat}{l:List AInstr}(h:tmB sl N l=true):Tm sl N l:=by
 intro i hi d hd
 have:=e5x.1 h i hi;simp only[hd,e5v,e5n,List.contains_eq_mem,e4d,e5h]at this;exact this
def Xh(sl:List Nat)(N:Nat):List TS->Nat->Bool
 |[],_=>true
 |.put d o as::l,n=>okS sl.length (.put d o as)&&tmB sl N (G4 sl none as n).1&&Xh sl N l (G4 sl none as n).2.2
theorem a5i(hf:StepOK f)(N:Nat):∀ (l:List TS) (n:Nat) (fr cf:List AV) (H:AH) (cf':List AV) (H':AH),Xh sl N l n=true->fr.length=N->Ag sl cf fr->
 Eo f l cf H=some (cf',H')->∃ fr',E5 f (Qs sl l n).1 fr H=some (fr',H')/\fr'.length=N/\Ag sl cf' fr'
 |[],n,fr,cf,H,cf',H',hok,hN,ha,h=>by
   cases h;exact⟨fr,rfl,hN,ha⟩
 |.put d o as::l,n,fr,cf,H,cf',H',hok,hN,ha,h=>by
   simp only[Xh,okS,e5v]at hok;simp only[Eo,tvS,e4c]at h;obtain⟨r,⟨⟨xs,H1⟩,h1,⟨y,H2⟩,h2,h3⟩,h4⟩:=h;cases h3;obtain⟨g0,_,fr1,g1,g2,g3⟩:=b1n hf N as none n fr H xs H1 hok.1.1.1 (au4 hok.1.2) hN ha trivial trivial h1;have h7:=hf.map _ _ _ (bp0 g3) o H1;rw[h2]at h7;have ha1:Ag sl (Fd cf d y) (Aq fr1 (d.map (slot sl)) y):=by
    cases d with
    |none=>exact ha.keep g2
    |some i=>exact(ha.keep g2).put (by simpa using hok.1.1.2) y
   have hlen:(Aq fr1 (d.map (slot sl)) y).length=N:=by
    cases d<;>simp[Aq,g2.len,hN]
   obtain⟨fr2,k1,k2,k3⟩:=a5i hf N l (G4 sl none as n).2.2 _ _ H2 cf' H' hok.2 hlen ha1 h4;refine⟨fr2,?_,k2,k3⟩;simp only[Qs,flS];exact J8 (J8 g1 (by rw[X0 (g:=none) trivial h7];rfl)) k1
end
end
section
def G8(lk:FuncId->Bool)(E:CallF):CallF:=λf args H=>
 if lk f then
  match E f (B3 H args) []with
  |some (x,H1)=>if Db x then some (x,H)else if Aa args&&(Ab x&&H1.isEmpty)then some (x,H)else none
  |none=>none
 else P8 E f args H
mutual
theorem b5r(H:AH):∀ x:AV,Ab x=true->Bp H x=x
 |.own ..,h=>by simp[Ab]at h
 |.ptr ..,h=>by simp[Ab]at h
 |.agg cs,h=>by simp only[Ab]at h;simp only[Bp,Ub H cs h]
 |.tuple cs,h=>by simp only[Ab]at h;simp only[Bp,Ub H cs h]
 |.fn f first cap,h=>by
   simp only[Ab,e5v]at h;simp only[Bp,Ub H first h.1,Ub H cap h.2]
 |.top,_=>by simp[Bp]
 |.bool _,_=>by simp[Bp]
 |.int _ _,_=>by simp[Bp]
 |.str _,_=>by simp[Bp]
 |.nilp,_=>by simp[Bp]
 |.emp,_=>by simp[Bp]
 |.fz _,_=>by simp[Bp]
 |.fptr _,_=>by simp[Bp]
 |.nilfn,_=>by simp[Bp]
theorem Ub(H:AH):∀ xs:List AV,Aa xs=true->B3 H xs=xs
 |[],_=>by simp[B3]
 |x::xs,h=>by
   simp only[Aa,e5v]at h;simp only[B3,b5r H x h.1,Ub H xs h.2]
end
section
variable {P:Program}
theorem e3x{f:FuncId}{args:List AV}{x:AV}(h:C P f args [] λy G=>y=x/\G=[])(ha:Aa args=true)(hx:Ab x=true)(H:AH):C P f args H λy G=>y=x/\G=H:=by
 refine b44 (K0:=λy G=>y=x/\G=[]) [] List.nodup_nil (λr hr=>by cases hr) ?_ ?_
 ·rw[Hw _ _ ha];exact h
 ·rintro y _ ⟨rfl,rfl⟩;refine⟨e7y _,?_⟩;rw[Ji _ _ hx];exact⟨rfl,by simp[N9,C3]⟩
theorem a65{lk:FuncId->Bool}{E:CallF}(hE:G9 P E):G9 P (G8 lk E):=by
 intro f args H x H' h;unfold G8 at h;split at h
 ·split at h
  ·rename_i y H1 he;split at h
   ·rename_i hfl;cases h;exact e3v (hE _ _ _ _ _ he) (by rintro y _ ⟨rfl,rfl⟩;exact⟨hfl,rfl,rfl⟩)
   ·split at h
    ·rename_i hb;cases h;simp only[e5v,List.isEmpty_iff]at hb;obtain⟨h1,h2,rfl⟩:=hb;rw[Ub H _ h1]at he;exact e3x (hE _ _ _ _ _ he) h1 h2 H
    ·cases h
  ·cases h
 ·exact e1z hE _ _ _ _ _ h
end
def H5(sl:List Nat)(N:Nat)(cf:List AV):List AV:=(List.range N).map λs=>match sl.idxOf? s with
 |some i=>getF cf i
 |none=>.top
def Uy(sl:List Nat)(fr:List AV):List AV:=sl.map (getF fr)
def Di(live:List Nat):Nat->List AV->List AV
 |_,[]=>[]
 |i,x::xs=>(if live.contains i then x else .top)::Di live (i+1) xs
def Hz(n0:Nat)(cf:List AV)(H:AH):List AV×AH:=
 if H.length<=n0 then(cf,H)else
 let rs:=Iy H (H.length*4+40) ((List.range n0).flatMap (λr=>refsO (H.at r))++C1 cf) (List.range n0)
 if rs.Nodup/\(∀ r∈List.range n0,rs[r]?=some r)then(Bw (Aw rs) cf,rs.map λr=>(H.at r).map (renO (Aw rs)))else(cf,H)
def Th(i sz:Nat)(cf:List AV)(H:AH):AV->List AV×AH
 |.emp=>(Fd cf (some i) (.own H.length sz 0 0 0),H++[some []])
 |_=>(cf,H)
def Qu:List (Nat×Nat)->List AV×AH->List AV×AH
 |[],q=>q
 |(i,sz)::l,q=>Qu l (Th i sz q.1 q.2 (getF q.1 i))
def Es(k:Nat):List Nat->Nat
 |[]=>k
 |r::l=>Es (if k<=r then r+1 else k) l
def Ix(H:AH):List Nat:=H.flatMap refsO
def Ni(H:AH):Nat->Nat->Nat
 |0,k=>k
 |n+1,k=>Ni H n (Es k (Ix (H.take k)))
def F9(n0:Nat)(cf:List AV)(H:AH):List AV×AH:=
 if H.length<=Es n0 (C1 cf)then(cf,H)else
 if Es (Ni H 4 (Es n0 (C1 cf))) (Ix (H.take (Ni H 4 (Es n0 (C1 cf)))))=Ni H 4 (Es n0 (C1 cf))then(cf,H.take (Ni H 4 (Es n0 (C1 cf))))else(cf,H)
def enter(n0:Nat)(live:List Nat)(em:List (Nat×Nat))(cf:List AV)(H:AH):List AV×AH:=F9 n0 (Qu em (Di live 0 cf,H)).1 (Qu em (Di live 0 cf,H)).2
def Ti(r a c sz:Nat)(cf:List AV)(H:AH):List AV×AH:=
 match H.at r with
 |some o=>match o[a]? with
   |some e=>match e[c]? with
     |some .emp=>(cf,H.set r (some (o.set a (e.set c (.own H.length sz 0 0 0))))++[some []])
     |_=>(cf,H)
   |none=>(cf,H)
 |none=>(cf,H)
def Ve(n0:Nat)(cf:List AV)(H:AH):AV->List AV×AH
 |.own r _ _ _ _=>if n0<=r then match (H.at r).bind Cm with
   |some es=>(Bm r es cf,Hj (Bm r es) (H.set r none))
   |none=>(cf,H)else(cf,H)
 |_=>(cf,H)
def a6i(off sz:Nat)(cf:List AV)(H:AH):AV->List AV×AH
 |.ptr r a j _=>Ti r a (j+off) sz cf H
 |_=>(cf,H)
def a6g(c sz:Nat)(cf:List AV)(H:AH):AV->List AV×AH
 |.own r _ off len _=>Ti r (off+len-1) c sz cf H
 |_=>(cf,H)
def Vq(H:AH)(r a c:Nat):AV:=(((H.at r).bind λo=>o[a]?).bind λe=>e[c]?).getD .top
def a6h(off c sz:Nat)(cf:List AV)(H:AH):AV->List AV×AH
 |.ptr r a j _=>a6g c sz cf H (Vq H r a (j+off))
 |_=>(cf,H)
def a5f(n0 off:Nat)(cf:List AV)(H:AH):AV->List AV×AH
 |.ptr r a j _=>Ve n0 cf H (Vq H r a (j+off))
 |_=>(cf,H)
def Pc(n0:Nat):Act->List AV->AH->List AV×AH
 |.fzC i off,cf,H=>a5f n0 off cf H (getF cf i)
 |.fz i,cf,H=>Ve n0 cf H (getF cf i)
 |.emp i sz,cf,H=>Th i sz cf H (getF cf i)
 |.empC i off sz,cf,H=>a6i off sz cf H (getF cf i)
 |.empL i off c sz,cf,H=>a6h off c sz cf H (getF cf i)
 |.keep live,cf,H=>Hz n0 (Di live 0 cf) H
def O8(n0:Nat):List Act->List AV->AH->List AV×AH
 |[],cf,H=>(cf,H)
 |a::l,cf,H=>O8 n0 l (Pc n0 a cf H).1 (Pc n0 a cf H).2
def Nc(n0:Nat)(l:List Act):Option (AExit×List AV×AH)->Option (AExit×List AV×AH)
 |some (.normal,cf,H)=>some (.normal,(O8 n0 l cf H).1,(O8 n0 l cf H).2)
 |r=>r
abbrev LoopF:=(List AV->AH->Option (AExit×List AV×AH))->List AV->AH->Option (AExit×List AV×AH)
structure TCtx where
 lk:FuncId->Bool
 E:CallF
 lp:LoopF
 sl:List Nat
 N:Nat
 n0:Nat
def Bf(lk:FuncId->Bool)(E:CallF):StepF:=λo vs H=>Bi o (G8 lk E) vs H
def fD:StepF:=λo vs H=>same (Ar o (evalA vs) H) H
def Qf(r:Option (List AV×AH)):Option (AExit×List AV×AH):=r.map λq=>(.normal,q.1,q.2)
def Kb(r:Option (AExit×List AV×AH))(k:List AV->AH->Option (AExit×List AV×AH)):Option (AExit×List AV×AH):=
 match r with
 |some (.normal,cf,H)=>k cf H
 |r=>r
def Qm(x:AV)(a b:Option (AExit×List AV×AH)):Option (AExit×List AV×AH):=
 match x with
 |.bool b'=>if b'=true then a else b
 |_=>none
def C2(id:Nat)(r:Option (AExit×List AV×AH)):Option (AExit×List AV×AH):=
 match r with
 |some (.exit j,cf,H)=>if j=id then some (.normal,cf,H)else some (.exit j,cf,H)
 |r=>r
def Pa:List (List (Nat×AInstr))->Nat
 |[]=>0
 |s::l=>(s.filter λi=>match i.2.op with
   |.append .. =>true
   |_=>false).length+Pa l
def Av(X:TCtx):TC->List AV->AH->Option (AExit×List AV×AH)
 |.skip,cf,H=>some (.normal,cf,H)
 |.ret,cf,H=>some (.ret,cf,H)
 |.exit i,cf,H=>some (.exit i,cf,H)
 |.reg _ l,cf,H=>Qf (Eo (Bf X.lk X.E) l cf H)
 |.dreg _ l,cf,H=>Qf (Eo fD l cf H)
 |.raw l,cf,H=>(Fh (G8 X.lk X.E) l (H5 X.sl X.N cf) H).map λr=>(.normal,Uy X.sl r.1,r.2)
 |.rawD l,cf,H=>(Ls l (H5 X.sl X.N cf) H).map λr=>(.normal,Uy X.sl r,H)
 |.rawE s t,cf,H=>(Ex X.lk (G8 X.lk X.E) t s (H5 X.sl X.N cf) (H++List.replicate (Pa s) (some []))).map λr=>(.normal,Uy X.sl r.1,r.2)
 |.seq a b,cf,H=>Kb (Av X a cf H) λcf H=>Av X b cf H
 |.ifc _ l e a b,cf,H=>(Eo (Bf X.lk X.E) l cf H).bind λr=>(Bc (Bf X.lk X.E) r.1 e r.2).bind λq=>Qm q.1 (Av X a r.1 q.2) (Av X b r.1 q.2)
 |.ifd _ l e a b,cf,H=>(Eo fD l cf H).bind λr=>(Bc fD r.1 e r.2).bind λq=>Qm q.1 (Av X a r.1 q.2) (Av X b r.1 q.2)
 |.ifv i a b,cf,H=>Qm (getF cf i) (Av X a cf H) (Av X b cf H)
 |.ifk q a b,cf,H=>if q=true then Av X a cf H else Av X b cf H
 |.bad,_,_=>none
 |.block i b,cf,H=>C2 i (Av X b cf H)
 |.loop live em b,cf,H=>
   let q:=enter X.n0 live em cf H
   X.lp (λcf H=>Kb (Av X b cf H) λcf H=>let q:=F9 X.n0 (Di live 0 cf) H;some (.normal,q.1,q.2)) q.1 q.2
 |.pre l b,cf,H=>Av X b (O8 X.n0 l cf H).1 (O8 X.n0 l cf H).2
 |.after l b,cf,H=>Nc X.n0 l (Av X b cf H)
def F5(sl:List Nat)(N:Nat):TC->Bool
 |.reg n l=>Xh sl N l n
 |.dreg n l=>Xh sl N l n
 |.seq a b=>F5 sl N a&&F5 sl N b
 |.ifc n l e a b=>Xh sl N l n&&Nw sl.length e&&tmB sl N (Bn sl none e (Qs sl l n).2).1&&F5 sl N a&&F5 sl N b
 |.ifd n l e a b=>Xh sl N l n&&Nw sl.length e&&tmB sl N (Bn sl none e (Qs sl l n).2).1&&F5 sl N a&&F5 sl N b
 |.ifv i a b=>decide (i<sl.length)&&F5 sl N a&&F5 sl N b
 |.ifk _ a b=>F5 sl N a&&F5 sl N b
 |.block _ b=>F5 sl N b
 |.loop _ _ b=>F5 sl N b
 |.pre _ b=>F5 sl N b
 |.after _ b=>F5 sl N b
 |_=>true
theorem a5k(lk:FuncId->Bool)(E:CallF):StepOK (Bf lk E):=by
 refine⟨λg fr vs h o H=>?_,λx fr H=>?_,λc a b fr H=>?_⟩
 ·simp only[Bf,b07];exact e09 _ g h o H
 ·simp only[Bf,Bi,kMv,Ba]
 ·simp only[Bf,Bi,b0n,Ba]
theorem a5l:StepOK fD:=by
 refine⟨λg fr vs h o H=>?_,λx fr H=>rfl,λc a b fr H=>rfl⟩;simp only[fD,ca7,funext h]
theorem b9t{sl:List Nat}{cf fr:List AV}(h:Ag sl cf fr){i:Nat}(hi:i<sl.length):slot sl i<fr.length:=by
 have:=h.at' i hi;rcases e7h (slot sl i) fr.length with h'|h'
 ·exact h'
 ·rw[e4j h']at this;cases this
theorem dh4{sl:List Nat}(h:sl.Nodup){i:Nat}(hi:i<sl.length):sl.idxOf? (slot sl i)=some i:=by
 have h1:sl[i]?=some (slot sl i):=by simp only[slot,e42,e47 hi,e5u]
 exact K9 h h1
theorem Tc(sl:List Nat)(N:Nat)(cf:List AV):(H5 sl N cf).length=N:=by simp[H5]
theorem c4c{sl:List Nat}{N:Nat}{cf fr:List AV}(h:Ag sl cf fr)(hN:fr.length=N){cf':List AV}(hl:cf'.length=cf.length):Ag sl cf' (H5 sl N cf'):=by
 refine⟨hl.trans h.len,λi hi=>?_,h.nd⟩
 have:=b9t h hi;simp only[H5,e5j,List.getElem?_range (hN▸this),e6h,dh4 h.nd hi]
theorem ce1:∀ {xs ys:List AV},xs.length=ys.length->(∀ i,i<xs.length->xs[i]?=some .top\/xs[i]?=ys[i]?)->Wj xs ys
 |[],[],_,_=>trivial
 |x::xs,y::ys,hl,h=>by
   refine⟨?_,ce1 (by simpa using hl) λi hi=>?_⟩
   ·have:=h 0 (by simp);simpa using this
   ·have:=h (i+1) (by simpa using hi);simpa using this
 |[],_::_,hl,_=>by cases hl
 |_::_,[],hl,_=>by cases hl
theorem b1c{sl:List Nat}{N:Nat}{cf fr:List AV}(h:Ag sl cf fr)(hN:fr.length=N){cf':List AV}(hk:∀ i,i<sl.length->getF cf' i=.top\/getF cf' i=getF cf i):Wj (H5 sl N cf') fr:=by
 refine ce1 (by rw[Tc,hN]) λs hs=>?_;rw[Tc]at hs;simp only[H5,e5j,List.getElem?_range hs,e6h];cases hx:sl.idxOf? s with
 |none=>exact .inl rfl
 |some i=>
   have h1:=Jf hx;have hi:i<sl.length:=by
    rcases e7h i sl.length with h'|h'
    ·exact h'
    ·rw[e4j h']at h1;cases h1
   have h2:slot sl i=s:=(by simp only[slot,e42,h1,e5u]);have h3:=h.at' i hi;rw[h2]at h3;rcases hk i hi with h4|h4
   ·exact .inl (by simp only[h4])
   ·exact .inr (by simp only[h4,h3])
theorem d3a{sl:List Nat}{fr:List AV}(hnd:sl.Nodup)(hlt:∀ i,i<sl.length->slot sl i<fr.length):Ag sl (Uy sl fr) fr:=by
 refine⟨by simp[Uy],λi hi=>?_,hnd⟩;have h1:sl[i]?=some (slot sl i):=by simp only[slot,e42,e47 hi,e5u]
 simp only[Uy,F6,e5j,h1,e6h,e5u,e47 (hlt i hi)]
theorem bx5(live:List Nat):∀ (cf:List AV) (n i:Nat),getF (Di live n cf) i=.top\/getF (Di live n cf) i=getF cf i
 |[],_,i=>.inr rfl
 |x::xs,n,0=>by
   simp only[Di,getF];split
   ·exact .inr rfl
   ·exact .inl rfl
 |x::xs,n,i+1=>by
   simp only[Di,getF];exact bx5 live xs (n+1) i
theorem bx4(live:List Nat):∀ (cf:List AV) (n:Nat),(Di live n cf).length=cf.length
 |[],_=>rfl
 |x::xs,n=>by simp[Di,bx4 live xs]
theorem Ag.ren{sl:List Nat}{cf fr:List AV}(h:Ag sl cf fr)(τ:Nat->Option Nat):Ag sl (Bw τ cf) (Bw τ fr):=by
 refine⟨by rw[Jj];simpa using h.len,λi hi=>?_,h.nd⟩;have hic:i<cf.length:=by rw[h.len];exact hi
 rw[Jj,e5j,h.at' i hi,Jj,F6 (cf.map _),e5j,F6,e47 hic];rfl
theorem a9f:∀ (l:List Nat) (k:Nat),k<=Es k l
 |[],k=>e7y k
 |r::l,k=>by
   unfold Es;refine e7n ?_ (a9f l _);split<;>omega
theorem b0l:∀ (l:List Nat) (k r:Nat),r∈l->r<Es k l
 |x::l,k,r,h=>by
   unfold Es;rcases e79.1 h with rfl|h
   ·refine Nat.lt_of_lt_of_le ?_ (a9f l _);split<;>omega
   ·exact b0l l _ r h
theorem b81(H:AH):∀ (n k:Nat),k<=Ni H n k
 |0,k=>e7y k
 |n+1,k=>e7n (a9f _ k) (b81 H n _)
mutual
theorem d2e{τ:Nat->Option Nat}:∀ x:AV,(∀ r∈Ci x,τ r=some r)->ren τ x=x
 |.own r _ _ _ _,h=>by simp[ren,h r (by simp[Ci])]
 |.ptr r _ _ _,h=>by simp[ren,h r (by simp[Ci])]
 |.agg cs,h=>by simp only[Ci]at h;simp only[ren,X8 cs h]
 |.tuple cs,h=>by simp only[Ci]at h;simp only[ren,X8 cs h]
 |.fn f first cap,h=>by
   simp only[Ci,e6m]at h;simp only[ren,X8 first λr hr=>h r (.inl hr),X8 cap λr hr=>h r (.inr hr)]
 |.top,_=>by simp[ren]
 |.bool _,_=>by simp[ren]
 |.int _ _,_=>by simp[ren]
 |.str _,_=>by simp[ren]
 |.nilp,_=>by simp[ren]
 |.emp,_=>by simp[ren]
 |.fz _,_=>by simp[ren]
 |.fptr _,_=>by simp[ren]
 |.nilfn,_=>by simp[ren]
theorem X8{τ:Nat->Option Nat}:∀ xs:List AV,(∀ r∈C1 xs,τ r=some r)->Bw τ xs=xs
 |[],_=>by simp[Bw]
 |x::xs,h=>by
   simp only[C1,e6m]at h;simp only[Bw,d2e x λr hr=>h r (.inl hr),X8 xs λr hr=>h r (.inr hr)]
end
theorem d2f{τ:Nat->Option Nat}(o:AObj)(h:∀ r∈refsO (some o),τ r=some r):renO τ o=o:=by
 unfold renO
 conv=>rhs;rw[<-List.map_id o]
 refine e4y λe he=>?_;exact X8 e λr hr=>h r (List.mem_flatMap.2 ⟨e,he,hr⟩)
theorem d06{H:AH}{k:Nat}(hk:k<=H.length)(hc:∀ r∈Ix (H.take k),r<k):(List.range k).map (λr=>(H.at r).map (renO (Aw (List.range k))))=H.take k:=by
 refine List.ext_getElem (by simp;omega) λi h1 h2=>?_;have hi:i<k:=by simpa using h1
 have hH:i<H.length:=om;simp only[List.getElem_map,List.getElem_range,List.getElem_take,AH.at,e47 hH,Option.join_some];cases ho:H[i]with
 |none=>rfl
 |some o=>
   simp only[e6h];rw[d2f o λr hr=>?_];have hr':r<k:=hc r (List.mem_flatMap.2 ⟨some o,by rw[<-ho];exact List.mem_take_iff_getElem.2 ⟨i,by omega,rfl⟩,hr⟩);exact K9 List.nodup_range (List.getElem?_range hr')
theorem d2h:∀ {sl:List Nat} {N:Nat} {cf:List AV} (r:Nat),r∈C1 (H5 sl N cf)->r∈C1 cf:=by
 have key:∀ (xs cf:List AV) (r:Nat),(∀ x∈xs,x=.top\/x∈cf)->r∈C1 xs->r∈C1 cf:=by
  intro xs
  induction xs with
  |nil=>intro cf r _ h;simp[C1]at h
  |cons x xs ih=>
    intro cf r hx h;simp only[C1,e6m]at h;rcases h with h|h
    ·rcases hx x (by simp)with rfl|hm
     ·simp[Ci]at h
     ·clear ih hx
      induction cf with
      |nil=>cases hm
      |cons y cf ih=>
        simp only[C1,e6m];rcases e79.1 hm with rfl|hm
        ·exact .inl h
        ·exact .inr (ih hm)
    ·exact ih cf r (λy hy=>hx y (e4u _ hy)) h
 intro sl N cf r h;refine key _ cf r (λx hx=>?_) h;simp only[H5,e7o,e6x]at hx;obtain⟨s,_,rfl⟩:=hx;split
 ·rename_i i _;rw[F6];rcases e7h i cf.length with hi|hi
  ·rw[e47 hi];exact .inr (e63 hi)
  ·rw[e4j hi];exact .inl rfl
 ·exact .inl rfl
theorem b7r{sl:List Nat}{N:Nat}{cf fr:List AV}(h:Ag sl cf fr)(hN:fr.length=N)(n0:Nat)(H:AH) :
 ∃ fr',Wk n0 fr H fr' (F9 n0 cf H).2/\Ag sl (F9 n0 cf H).1 fr'/\fr'.length=N:=by
 unfold F9;split
 ·exact⟨fr,Wk.refl _ _ _,h,hN⟩
 ·rename_i hl;split
  ·rename_i hc;generalize hk:Ni H 4 (Es n0 (C1 cf))=k at *;have hkk:Es n0 (C1 cf)<=k:=hk▸b81 H 4 _;have h1:Wk n0 fr H (H5 sl N cf) H:=ao2 (b1c h hN λi _=>.inr rfl);rcases e7h H.length k with hlt|hge
   ·have e:H.take k=H:=e4h (Nat.le_of_lt hlt);rw[e];exact⟨fr,Wk.refl _ _ _,h,hN⟩
   ·have h0:n0<=k:=e7n (a9f _ n0) hkk;have hr:∀ r∈Ix (H.take k),r<k:=λr hr=>(by have:=b0l _ k r hr;rwa [hc]at this);have h2:=b3d (n0:=n0) (fr:=H5 sl N cf) (H:=H) (List.range k) List.nodup_range λr hr=>List.getElem?_range om;rw[d06 hge hr,X8 (H5 sl N cf) λr hr=>K9 List.nodup_range (List.getElem?_range (Nat.lt_of_lt_of_le (b0l _ n0 r (d2h r hr)) hkk))]at h2;exact⟨_,h1.trans h2,c4c h hN rfl,Tc _ _ _⟩
  ·exact⟨fr,Wk.refl _ _ _,h,hN⟩
theorem b0m{sl:List Nat}{N:Nat}{cf fr:List AV}(h:Ag sl cf fr)(hN:fr.length=N)(n0:Nat)(live:List Nat)(H:AH) :
 ∃ fr',Wk n0 fr H fr' H/\Ag sl (Di live 0 cf) fr'/\fr'.length=N:=
 ⟨_,ao2 (b1c h hN λi _=>bx5 live cf 0 i),c4c h hN (bx4 _ _ _),Tc _ _ _⟩
theorem e39{n0:Nat}{fr:List AV}{H:AH}{i:Nat}(h:fr[i]?=some .emp)(sz:Nat):Wk n0 fr H (fr.set i (.own H.length sz 0 0 0)) (H++[some []]):=by
 intro E w vs hs hr;refine⟨E,LeN.refl _ _,hs.newEmpty,by simpa using hr.1,λj x u hx hu=>?_⟩;rw[e5g]at hx;split at hx
 ·rename_i hij;subst hij;split at hx
  ·cases hx;obtain⟨a,rfl⟩:=Hg (hr.2 i _ u h hu);exact .own0 _ _ _
  ·cases hx
 ·exact hr.2 j x u hx hu
theorem b3e{n0:Nat}(fr:List AV)(H:AH):∀ k:Nat,Wk n0 fr H fr (H++List.replicate k (some []))
 |0=>by rw[e4z,e6l];exact Wk.refl _ _ _
 |k+1=>by
   have h1:Wk n0 fr (H++List.replicate k (some [])) fr (H++List.replicate (k+1) (some [])):=by
    intro E w vs hs hr;rw[List.replicate_succ',<-e5o];exact⟨E,LeN.refl _ _,hs.newEmpty,hr⟩
   exact(b3e fr H k).trans h1
theorem am2{sl:List Nat}{N n0:Nat}:∀ (em:List (Nat×Nat)) (q:List AV×AH) (fr:List AV),Ag sl q.1 fr->fr.length=N->∃ fr',Wk n0 fr q.2 fr' (Qu em q).2/\Ag sl (Qu em q).1 fr'/\fr'.length=N
 |[],q,fr,ha,hN=>⟨fr,Wk.refl _ _ _,ha,hN⟩
 |(i,sz)::l,q,fr,ha,hN=>by
   unfold Qu;cases hx:getF q.1 i with
   |emp=>
     have hi:i<sl.length:=by
      rcases e7h i sl.length with h|h
      ·exact h
      ·rw[F6,e4j (by rw[ha.len];exact h)]at hx;cases hx
     have h1:=ha.at' i hi;rw[hx]at h1;obtain⟨fr',g1,g2,g3⟩:=am2 l (Th i sz q.1 q.2 .emp) (fr.set (slot sl i) (.own q.2.length sz 0 0 0)) (ha.put hi _) (by simpa using hN);exact⟨fr',(e39 h1 sz).trans g1,g2,g3⟩
   |_=>exact am2 l q fr ha hN
theorem e33{n0:Nat}{fr:List AV}{H:AH}(r:Nat){o o':AObj}(hat:H.at r=some o)(hl:o'.length=o.length)
 (hr:∀ (i:Nat) e',o'[i]?=some e'->∃ e,o[i]?=some e/\e'.length=e.length/\∀ (k:Nat) c',e'[k]?=some c'->∃ c,e[k]?=some c/\∀ E v,Rep E c v->Rep E c' v):Wk n0 fr H fr (H.set r (some o')):=by
 intro E w vs hs hrl;refine⟨E,LeN.refl _ _,?_,hrl⟩;have hlt:=Qx hat;have atself:AH.at (H.set r (some o')) r=some o':=a1y (some o') hlt;have atne:∀ r',r'≠r->AH.at (H.set r (some o')) r'=H.at r':=λr' h=>Sc (some o') h.symm;refine⟨hs.os,hs.tape,hs.output,hs.frz,hs.disj,λr' x hx=>by rw[e6e];exact hs.dom r' x hx,λr' q hq=>?_,λr1 r2 q q' x x' h1 h2 h3 h4 h5=>?_⟩
 ·by_cases e:r'=r
  ·subst e;rw[atself]at hq;cases hq;rcases hs.obj r' o hat with ⟨h1,h2⟩|⟨x,hx,hL⟩
   ·left;refine⟨e4a.1 (by rw[hl,h1];rfl),h2⟩
   ·right;obtain⟨cells,t,q,b1,b2,b3,b4,b5⟩:=hL.blk;refine⟨x,hx,hL.t.trans hl.symm,hL.pos,hL.out,⟨cells,t,q,b1,b2,b3,b4,λi e' k c' v g1 g2 g3=>?_⟩,λe' he'=>?_,by rw[hl];exact hL.fits⟩
    ·obtain⟨e,he,_,hc⟩:=hr i e' g1;obtain⟨c,hc1,hc2⟩:=hc k c' g2;exact hc2 E v (b5 i e k c v he hc1 g3)
    ·obtain⟨i,hi,rfl⟩:=e4v.1 he';obtain⟨e,he,hle,_⟩:=hr i _ (e47 hi);rw[hle];exact hL.sz e (e4q he)
  ·rw[atne r' e]at hq;exact hs.obj r' q hq
 ·have g:∀ r' q,AH.at (H.set r (some o')) r'=some q->∃ q2,H.at r'=some q2:=λr' q h=>by
   by_cases e:r'=r
   ·subst e;exact⟨o,hat⟩
   ·rw[atne r' e]at h;exact⟨q,h⟩
  obtain⟨_,g1⟩:=g r1 q h1;obtain⟨_,g2⟩:=g r2 q' h2;exact hs.inj r1 r2 _ _ x x' g1 g2 h3 h4 h5
theorem e38{n0:Nat}{fr:List AV}{H:AH}{r a c:Nat}{o:AObj}{e:List AV}(hat:H.at r=some o)(he:o[a]?=some e)(hc:e[c]?=some .emp)(sz:Nat) :
 Wk n0 fr H fr (H.set r (some (o.set a (e.set c (.own H.length sz 0 0 0))))++[some []]):=by
 have h1:Wk n0 fr H fr (H.set r (some (o.set a (e.set c (.own H.length sz 0 0 0))))):=by
  refine e33 r hat (by simp) λi e' h=>?_;rw[e5g]at h;split at h
  ·rename_i hi;subst hi;split at h
   ·cases h;refine⟨e,he,by simp,λk c' hk=>?_⟩;rw[e5g]at hk;split at hk
    ·rename_i hi;subst hi;split at hk
     ·cases hk;refine⟨.emp,hc,λE v hv=>?_⟩;obtain⟨b,rfl⟩:=Hg hv;exact .own0 _ _ _
     ·cases hk
    ·exact⟨c',hk,λE v hv=>hv⟩
   ·cases h
  ·exact⟨e',h,rfl,λk c' hk=>⟨c',hk,λE v hv=>hv⟩⟩
 have h2:=b3e (n0:=n0) fr (H.set r (some (o.set a (e.set c (.own H.length sz 0 0 0))))) 1;exact h1.trans h2
theorem c6l{sl:List Nat}{N n0:Nat}{cf fr:List AV}(ha:Ag sl cf fr)(hN:fr.length=N)(r a c sz:Nat)(H:AH):∃ fr',Wk n0 fr H fr' (Ti r a c sz cf H).2/\Ag sl (Ti r a c sz cf H).1 fr'/\fr'.length=N:=by
 unfold Ti;split
 ·rename_i o ho;split
  ·rename_i e he;split
   ·rename_i hc;exact⟨fr,e38 ho he hc sz,ha,hN⟩
   ·exact⟨fr,Wk.refl _ _ _,ha,hN⟩
  ·exact⟨fr,Wk.refl _ _ _,ha,hN⟩
 ·exact⟨fr,Wk.refl _ _ _,ha,hN⟩
theorem d01{o:AObj}{es:List (List PV)}(h:Cm o=some es):o=es.map λe=>e.map emb:=by
 have one:∀ (e:List AV) (p:List PV),e.mapM Cw=some p->e=p.map emb:=by
  intro e
  induction e with
  |nil=>intro p h;rw[List.mapM_nil]at h;cases h;rfl
  |cons x e ih=>
    intro p h;rw[List.mapM_cons]at h;cases hx:Cw x with
    |none=>rw[hx]at h;cases h
    |some y=>
      cases hy:e.mapM Cw with
      |none=>rw[hx,hy]at h;cases h
      |some ys=>
        rw[hx,hy]at h;cases h;rw[e75,<-ih ys hy]
        congr 1
        cases x<;>simp[Cw]at hx<;>subst hx<;>rfl
 revert es
 induction o with
 |nil=>intro es h;unfold Cm at h;rw[List.mapM_nil]at h;cases h;rfl
 |cons e o ih=>
   intro es h;unfold Cm at h;rw[List.mapM_cons]at h;cases hx:e.mapM Cw with
   |none=>rw[hx]at h;cases h
   |some y=>
     cases hy:o.mapM (λe=>e.mapM Cw)with
     |none=>rw[hx,hy]at h;cases h
     |some ys=>
       rw[hx,hy]at h;cases h;rw[e75,<-ih hy,<-one e y hx]
theorem dy9{sl:List Nat}{cf fr:List AV}(h:Ag sl cf fr)(r:Nat)(es:List (List PV)):Ag sl (Bm r es cf) (Bm r es fr):=by
 have e:∀ l:List AV,Bm r es l=l.map (frz r es):=by
  intro l
  induction l with
  |nil=>simp[Bm]
  |cons x l ih=>simp[Bm,ih]
 rw[e,e];refine⟨by simpa using h.len,λi hi=>?_,h.nd⟩;have hic:i<cf.length:=by rw[h.len];exact hi
 rw[e5j,h.at' i hi,F6 (cf.map _),e5j,F6,e47 hic];rfl
theorem d6v{sl:List Nat}{N:Nat}{cf fr:List AV}(h:Ag sl cf fr)(hN:fr.length=N)(n0:Nat)(H:AH) :
 ∃ fr',Wk n0 fr H fr' (Hz n0 cf H).2/\Ag sl (Hz n0 cf H).1 fr'/\fr'.length=N:=by
 unfold Hz;split
 ·exact⟨fr,Wk.refl _ _ _,h,hN⟩
 ·simp only[];split
  ·rename_i hrs;exact⟨_,b3d _ hrs.1 λr hr=>hrs.2 r (e6x.2 hr),h.ren _,by rw[Jj,e6i];exact hN⟩
  ·exact⟨fr,Wk.refl _ _ _,h,hN⟩
theorem c49{sl:List Nat}{N n0:Nat}{cf fr:List AV}(ha:Ag sl cf fr)(hN:fr.length=N)(H:AH)(x:AV):∃ fr',Wk n0 fr H fr' (Ve n0 cf H x).2/\Ag sl (Ve n0 cf H x).1 fr'/\fr'.length=N:=by
 have idle:∃ fr',Wk n0 fr H fr' H/\Ag sl cf fr'/\fr'.length=N:=⟨fr,Wk.refl _ _ _,ha,hN⟩;have hlen:∀ (r:Nat) (es:List (List PV)) (l:List AV),(Bm r es l).length=l.length:=by
  intro r es l
  induction l with
  |nil=>simp[Bm]
  |cons x l ih=>simp[Bm,ih]
 cases x with
 |own r sz off len tot=>
   unfold Ve;simp only[];by_cases h:n0<=r
   ·rw[if_pos h];cases he:(H.at r).bind Cm with
    |none=>exact idle
    |some es=>
      obtain⟨o,ho,he⟩:=e4c.1 he;have e:=d01 he;have h1:=cd6 (n0:=n0) (fr:=fr) r es (ho.trans (congrArg some e));exact⟨_,h1,dy9 ha _ _,by rw[hlen];exact hN⟩
   ·rw[if_neg h];exact idle
 |_=>exact idle
theorem e31{sl:List Nat}{N n0:Nat}(a:Act){cf fr:List AV}(ha:Ag sl cf fr)(hN:fr.length=N)(H:AH):∃ fr',Wk n0 fr H fr' (Pc n0 a cf H).2/\Ag sl (Pc n0 a cf H).1 fr'/\fr'.length=N:=by
 have idle:∃ fr',Wk n0 fr H fr' H/\Ag sl cf fr'/\fr'.length=N:=⟨fr,Wk.refl _ _ _,ha,hN⟩;cases a with
 |fz i=>exact c49 ha hN H (getF cf i)
 |fzC i off=>
   show ∃ fr',Wk n0 fr H fr' (a5f n0 off cf H (getF cf i)).2/\Ag sl (a5f n0 off cf H (getF cf i)).1 fr'/\fr'.length=N;cases getF cf i with
   |ptr r a j t=>exact c49 ha hN H _
   |_=>exact idle
 |emp i sz=>
   have:=am2 (n0:=n0) [(i,sz)] (cf,H) fr ha hN;exact this
 |empC i off sz=>
   show ∃ fr',Wk n0 fr H fr' (a6i off sz cf H (getF cf i)).2/\Ag sl (a6i off sz cf H (getF cf i)).1 fr'/\fr'.length=N;cases getF cf i with
   |ptr r a j t=>exact c6l ha hN _ _ _ _ _
   |_=>exact idle
 |empL i off c sz=>
   show ∃ fr',Wk n0 fr H fr' (a6h off c sz cf H (getF cf i)).2/\Ag sl (a6h off c sz cf H (getF cf i)).1 fr'/\fr'.length=N;cases getF cf i with
   |ptr r a j t=>
     show ∃ fr',Wk n0 fr H fr' (a6g c sz cf H (Vq H r a (j+off))).2/\Ag sl (a6g c sz cf H (Vq H r a (j+off))).1 fr'/\fr'.length=N;cases Vq H r a (j+off)with
     |own=>exact c6l ha hN _ _ _ _ _
     |_=>exact idle
   |_=>exact idle
 |keep live=>
   show ∃ fr',Wk n0 fr H fr' (Hz n0 (Di live 0 cf) H).2/\Ag sl (Hz n0 (Di live 0 cf) H).1 fr'/\fr'.length=N;obtain⟨fr1,h1,h2,h3⟩:=b0m ha hN n0 live H;obtain⟨fr2,g1,g2,g3⟩:=d6v h2 h3 n0 H;exact⟨fr2,h1.trans g1,g2,g3⟩
theorem b3b{sl:List Nat}{N n0:Nat}:∀ (l:List Act) {cf fr:List AV} (_:Ag sl cf fr) (_:fr.length=N) (H:AH),∃ fr',Wk n0 fr H fr' (O8 n0 l cf H).2/\Ag sl (O8 n0 l cf H).1 fr'/\fr'.length=N
 |[],cf,fr,ha,hN,H=>⟨fr,Wk.refl _ _ _,ha,hN⟩
 |a::l,cf,fr,ha,hN,H=>by
   obtain⟨fr1,h1,h2,h3⟩:=e31 (n0:=n0) a ha hN H;obtain⟨fr2,g1,g2,g3⟩:=b3b l h2 h3 (Pc n0 a cf H).2;exact⟨fr2,h1.trans g1,g2,g3⟩
section
variable {P:Program}
theorem a3j{call:CallF}:∀ {is:List AInstr} {fr:List AV} {H:AH} {r:List AV×AH},E5 (λo fr H=>Bi o call fr H) is fr H=some r->Fh call is fr H=some r
 |[],fr,H,r,h=>h
 |i::rest,fr,H,r,h=>by
   unfold E5 at h;unfold Fh;have go:((Bi i.op call fr H).bind λq=>E5 (λo fr H=>Bi o call fr H) rest (Aq fr i.dst q.1) q.2)=some r->(match Bi i.op call fr H with|some (v,H')=>Fh call rest (Fd fr i.dst v) H'|none=>none)=some r:=by
    intro h;cases ho:Bi i.op call fr H with
    |none=>rw[ho]at h;cases h
    |some q=>
      rw[ho]at h;simp only[Xc];exact a3j h
   cases hg:i.guard with
   |none=>rw[hg]at h;exact go h
   |some gw=>
     obtain⟨g,want⟩:=gw;rw[hg]at h;simp only at h ⊢;split at h
     ·rename_i b hb;rw[F6,hb];simp only[e5u];split at h
      ·rename_i hbw;rw[if_pos hbw];exact go h
      ·rename_i hbw;rw[if_neg hbw,Xc];exact a3j h
     ·rename_i hb;rw[F6,hb];simp only[e5u,Xc];exact a3j h
     ·cases h
theorem a3i:∀ {is:List AInstr} {fr:List AV} {H:AH} {r:List AV×AH},E5 fD is fr H=some r->Ls is fr H=some r.1/\r.2=H
 |[],fr,H,r,h=>by cases h;exact⟨rfl,rfl⟩
 |i::rest,fr,H,r,h=>by
   unfold E5 at h;unfold Ls;have go:((fD i.op fr H).bind λq=>E5 fD rest (Aq fr i.dst q.1) q.2)=some r->(match Ar i.op (evalA fr) H with|some v=>Ls rest (Aq fr i.dst v) H|none=>none)=some r.1/\r.2=H:=by
    intro h;unfold fD same at h;cases ho:Ar i.op (evalA fr) H with
    |none=>rw[ho]at h;cases h
    |some q=>
      rw[ho]at h;exact a3i h
   cases hg:i.guard with
   |none=>rw[hg]at h;exact go h
   |some gw=>
     obtain⟨g,want⟩:=gw;rw[hg]at h;simp only at h ⊢;split at h
     ·rename_i b hb
      try rw[hb]
      try simp only
      split at h
      ·rename_i hbw;rw[if_pos hbw];exact go h
      ·rename_i hbw;rw[if_neg hbw];exact a3i h
     ·rename_i hb
      try rw[hb]
      exact a3i h
     ·cases h
def IsT(sl:List Nat)(N:Nat)(e:AExit)(cf:List AV)(H:AH):APost:=λe' fr' H'=>e'=e/\H'=H/\fr'.length=N/\Ag sl cf fr'
def b40(lp:LoopF):Prop:=∀ step cf H r,lp step cf H=some r->∃ k,Gx step k cf H=some r
theorem a1g{call:CallF}:∀ {is:List AInstr} {fr:List AV} {H:AH} {r:List AV×AH},Fh call is fr H=some r->r.1.length=fr.length
 |[],fr,H,r,h=>by cases h;rfl
 |i::rest,fr,H,r,h=>by
   have hp:∀ v,(Fd fr i.dst v).length=fr.length:=λv=>(by cases i.dst<;>simp[Fd]);unfold Fh at h;split at h
   ·split at h
    ·exact(a1g h).trans (hp _)
    ·cases h
   ·split at h
    ·split at h
     ·split at h
      ·exact(a1g h).trans (hp _)
      ·cases h
     ·exact(a1g h).trans (hp _)
    ·exact(a1g h).trans (hp _)
    ·cases h
theorem a5m:∀ {is:List AInstr} {fr:List AV} {H:AH} {r:List AV},Ls is fr H=some r->r.length=fr.length
 |[],fr,H,r,h=>by cases h;rfl
 |i::rest,fr,H,r,h=>by
   have hp:∀ v,(Aq fr i.dst v).length=fr.length:=λv=>(by cases i.dst<;>simp[Aq]);unfold Ls at h;split at h
   ·split at h
    ·exact(a5m h).trans (hp _)
    ·cases h
   ·split at h
    ·split at h
     ·split at h
      ·exact(a5m h).trans (hp _)
      ·cases h
     ·exact(a5m h).trans (hp _)
    ·exact(a5m h).trans (hp _)
    ·cases h
theorem a1h{lk:FuncId->Bool}{ev:CallF}{tab:List (List Nat)}:∀ {is:List (Nat×AInstr)} {c:Nat} {lg:List Hc} {fr:List AV} {H:AH} {r:List AV×AH},Fs lk ev tab is c lg fr H=some r->r.1.length=fr.length
 |[],c,lg,fr,H,r,h=>by
   unfold Fs at h;split at h
   ·cases h;rfl
   ·cases h
 |(i,A6)::rest,c,lg,fr,H,r,h=>by
   have hp:∀ v,(Aq fr A6.dst v).length=fr.length:=λv=>(by cases A6.dst<;>simp[Aq]);unfold Fs at h;split at h
   ·split at h
    ·exact(a1h h).trans (hp _)
    ·cases h
   ·split at h
    ·split at h
     ·split at h
      ·exact(a1h h).trans (hp _)
      ·cases h
     ·exact(a1h h).trans (hp _)
    ·exact(a1h h).trans (hp _)
    ·cases h
theorem am0{lk:FuncId->Bool}{ev:CallF}{tab:List (List Nat)}:∀ {segs:List (List (Nat×AInstr))} {fr:List AV} {H:AH} {r:List AV×AH},Ex lk ev tab segs fr H=some r->r.1.length=fr.length
 |[],fr,H,r,h=>by cases h;rfl
 |[(_,A6)]::rest,fr,H,r,h=>by
   unfold Ex at h;split at h
   ·rename_i he;exact(am0 h).trans (a1g he)
   ·cases h
 |[]::rest,fr,H,r,h=>by
   unfold Ex at h;split at h
   ·rename_i he;exact(am0 h).trans (a1h he)
   ·cases h
 |(x::y::z)::rest,fr,H,r,h=>by
   unfold Ex at h;split at h
   ·rename_i he;exact(am0 h).trans (a1h he)
   ·cases h
theorem b3g{sl:List Nat}{N:Nat}{cf fr:List AV}(ha:Ag sl cf fr)(hN:fr.length=N){n0:Nat}{ac:ACode}{fr2:List AV}{H H':AH}(h:W P n0 ac (Is .normal fr2 H') (H5 sl N cf) H)(hl:fr2.length=N) :
 W P n0 ac (IsT sl N .normal (Uy sl fr2) H') fr H:=by
 refine ao4 (ao2 (b1c ha hN λi _=>.inr rfl)) (Tu h ?_);rintro e f2 G2 ⟨rfl,rfl,rfl⟩;exact⟨rfl,rfl,hl,d3a ha.nd λi hi=>by rw[hl,<-hN];exact b9t ha hi⟩
theorem Hd(X:TCtx)(hE:G9 P X.E)(hlp:b40 X.lp):∀ (c:TC) (cf fr:List AV) (H:AH) (e:AExit) (cf':List AV) (H':AH),F5 X.sl X.N c=true->fr.length=X.N->Ag X.sl cf fr->Av X c cf H=some (e,cf',H')->
 W P X.n0 (Ho X.sl c) (IsT X.sl X.N e cf' H') fr H
 |.skip,cf,fr,H,e,cf',H',hok,hN,ha,h=>by cases h;exact cd8 ⟨rfl,rfl,hN,ha⟩
 |.ret,cf,fr,H,e,cf',H',hok,hN,ha,h=>by cases h;exact cd9 ⟨rfl,rfl,hN,ha⟩
 |.exit i,cf,fr,H,e,cf',H',hok,hN,ha,h=>by cases h;exact ce0 ⟨rfl,rfl,hN,ha⟩
 |.reg n l,cf,fr,H,e,cf',H',hok,hN,ha,h=>by
   simp only[Av,Qf,e4g]at h;obtain⟨⟨c1,H1⟩,hr,h⟩:=h;cases h;obtain⟨fr2,h1,h2,h3⟩:=a5i (a5k X.lk X.E) X.N l n fr cf H c1 H1 hok hN ha hr;exact ao5 (Y9 (a65 hE) (a3j h1) ⟨rfl,rfl,h2,h3⟩)
 |.dreg n l,cf,fr,H,e,cf',H',hok,hN,ha,h=>by
   simp only[Av,Qf,e4g]at h;obtain⟨⟨c1,H1⟩,hr,h⟩:=h;cases h;obtain⟨fr2,h1,h2,h3⟩:=a5i a5l X.N l n fr cf H c1 H1 hok hN ha hr;obtain⟨h4,h5⟩:=a3i h1;exact b3h (a1f h4 ⟨rfl,h5.symm,h2,h3⟩)
 |.raw l,cf,fr,H,e,cf',H',hok,hN,ha,h=>by
   simp only[Av,e4g]at h;obtain⟨⟨c1,H1⟩,hr,h⟩:=h;cases h;exact b3g ha hN (ao5 (Y9 (a65 hE) hr ⟨rfl,rfl,rfl⟩)) ((a1g hr).trans (Tc _ _ _))
 |.rawD l,cf,fr,H,e,cf',H',hok,hN,ha,h=>by
   simp only[Av,e4g]at h;obtain⟨c1,hr,h⟩:=h;cases h;exact b3g ha hN (b3h (a1f hr ⟨rfl,rfl,rfl⟩)) ((a5m hr).trans (Tc _ _ _))
 |.rawE s t,cf,fr,H,e,cf',H',hok,hN,ha,h=>by
   simp only[Av,e4g]at h;obtain⟨⟨c1,H1⟩,hr,h⟩:=h;cases h;exact ao4 (b3e fr H (Pa s)) (b3g ha hN (e3d (al8 (a65 hE) hr ⟨rfl,rfl,rfl⟩)) ((am0 hr).trans (Tc _ _ _)))
 |.seq a b,cf,fr,H,e,cf',H',hok,hN,ha,h=>by
   simp only[F5,e5v]at hok;simp only[Av]at h;unfold Kb at h;split at h
   ·rename_i c1 H1 he;refine a6k (Tu (Hd X hE hlp a cf fr H _ _ _ hok.1 hN ha he) ?_);rintro _ f2 _ ⟨rfl,rfl,h1,h2⟩;exact Hd X hE hlp b c1 f2 _ _ _ _ hok.2 h1 h2 h
   ·rename_i hne;refine a6k (Tu (Hd X hE hlp a cf fr H _ _ _ hok.1 hN ha h) ?_);rintro e2 f2 G2 hq;obtain⟨rfl,rfl,h1,h2⟩:=hq;cases e2 with
    |normal=>exact absurd h (hne _ _)
    |exit i=>exact⟨rfl,rfl,h1,h2⟩
    |ret=>exact⟨rfl,rfl,h1,h2⟩
 |.ifc n l x a b,cf,fr,H,e,cf',H',hok,hN,ha,h=>by
   simp only[F5,e5v]at hok;simp only[Av,e4c]at h;obtain⟨⟨c1,H1⟩,hr,⟨y,H2⟩,hq,h⟩:=h;obtain⟨fr1,h1,h2,h3⟩:=a5i (a5k X.lk X.E) X.N l n fr cf H c1 H1 hok.1.1.1.1 hN ha hr;obtain⟨_,_,fr2,g1,g2,g3⟩:=Y4 (a5k X.lk X.E) X.N x none (Qs X.sl l n).2 fr1 H1 y H2 hok.1.1.1.2 (au4 hok.1.1.2) h2 h3 trivial trivial hq;refine a6k (ao5 (Y9 (a65 hE) (a3j (J8 h1 g1)) ?_));have ha2:=h3.keep g2;have hl2:=g2.len.trans h2;unfold Qm at h;split at h
   ·rename_i b' hb';refine a6l b' (g3.trans hb') (λhb=>?_) (λhb=>?_)
    ·rw[if_pos hb]at h;exact Hd X hE hlp a c1 fr2 _ _ _ _ hok.1.2 hl2 ha2 h
    ·rw[if_neg (by rw[hb];simp)]at h;exact Hd X hE hlp b c1 fr2 _ _ _ _ hok.2 hl2 ha2 h
   ·cases h
 |.ifd n l x a b,cf,fr,H,e,cf',H',hok,hN,ha,h=>by
   simp only[F5,e5v]at hok;simp only[Av,e4c]at h;obtain⟨⟨c1,H1⟩,hr,⟨y,H2⟩,hq,h⟩:=h;obtain⟨fr1,h1,h2,h3⟩:=a5i a5l X.N l n fr cf H c1 H1 hok.1.1.1.1 hN ha hr;obtain⟨_,_,fr2,g1,g2,g3⟩:=Y4 a5l X.N x none (Qs X.sl l n).2 fr1 H1 y H2 hok.1.1.1.2 (au4 hok.1.1.2) h2 h3 trivial trivial hq;obtain⟨k1,k2⟩:=a3i (J8 h1 g1);refine a6k (b3h (a1f k1 ?_));have ha2:=h3.keep g2;have hl2:=g2.len.trans h2;replace k2:H2=H:=k2;subst k2;unfold Qm at h;split at h
   ·rename_i b' hb';refine a6l b' (g3.trans hb') (λhb=>?_) (λhb=>?_)
    ·rw[if_pos hb]at h;exact Hd X hE hlp a c1 fr2 _ _ _ _ hok.1.2 hl2 ha2 h
    ·rw[if_neg (by rw[hb];simp)]at h;exact Hd X hE hlp b c1 fr2 _ _ _ _ hok.2 hl2 ha2 h
   ·cases h
 |.ifv i a b,cf,fr,H,e,cf',H',hok,hN,ha,h=>by
   simp only[F5,e5v,e5h]at hok;simp only[Av]at h;unfold Qm at h;split at h
   ·rename_i b' hb';refine a6l b' ((ha.get hok.1.1).trans hb') (λhb=>?_) (λhb=>?_)
    ·rw[if_pos hb]at h;exact Hd X hE hlp a cf fr _ _ _ _ hok.1.2 hN ha h
    ·rw[if_neg (by rw[hb];simp)]at h;exact Hd X hE hlp b cf fr _ _ _ _ hok.2 hN ha h
   ·cases h
 |.ifk q a b,cf,fr,H,e,cf',H',hok,hN,ha,h=>by
   simp only[F5,e5v]at hok;simp only[Av]at h;refine a6l q rfl (λhb=>?_) (λhb=>?_)
   ·rw[if_pos hb]at h;exact Hd X hE hlp a cf fr _ _ _ _ hok.1 hN ha h
   ·rw[if_neg (by rw[hb];simp)]at h;exact Hd X hE hlp b cf fr _ _ _ _ hok.2 hN ha h
 |.bad,cf,fr,H,e,cf',H',hok,hN,ha,h=>by cases h
 |.block i b,cf,fr,H,e,cf',H',hok,hN,ha,h=>by
   simp only[F5]at hok;simp only[Av]at h;unfold C2 at h;split at h
   ·rename_i j c1 H1 he;refine b3i (Tu (Hd X hE hlp b cf fr H _ _ _ hok hN ha he) ?_);rintro _ f2 _ ⟨rfl,rfl,h1,h2⟩;simp only[ar1];split at h
    ·rename_i hj;cases h;rw[if_pos hj];exact⟨rfl,rfl,h1,h2⟩
    ·rename_i hj;cases h;rw[if_neg hj];exact⟨rfl,rfl,h1,h2⟩
   ·rename_i hne;refine b3i (Tu (Hd X hE hlp b cf fr H _ _ _ hok hN ha h) ?_);rintro e2 f2 G2 hq;obtain⟨rfl,rfl,h1,h2⟩:=hq;cases e2 with
    |normal=>exact⟨rfl,rfl,h1,h2⟩
    |exit i=>exact absurd h (hne _ _ _)
    |ret=>exact⟨rfl,rfl,h1,h2⟩
 |.loop live em b,cf,fr,H,e,cf',H',hok,hN,ha,h=>by
   simp only[F5]at hok;simp only[Av,enter]at h;obtain⟨k,hk⟩:=hlp _ _ _ _ h;obtain⟨fr0,h01,h02,h03⟩:=b0m ha hN X.n0 live H;obtain⟨fr00,h011,h021,h031⟩:=am2 (n0:=X.n0) em (Di live 0 cf,H) fr0 h02 h03;obtain⟨fr1,h1,h2,h3⟩:=b7r h021 h031 X.n0 (Qu em (Di live 0 cf,H)).2;refine ao4 ((h01.trans h011).trans h1) ?_;refine e3c (λk fr H=>∃ cf,fr.length=X.N/\Ag X.sl cf fr/\Gx (λcf H=>Kb (Av X b cf H) λcf H=>some (.normal,(F9 X.n0 (Di live 0 cf) H).1,(F9 X.n0 (Di live 0 cf) H).2)) k cf H=some (e,cf',H')) k ⟨_,h3,h2,hk⟩ ?_;rintro k fr H ⟨cf,hl,ha,hk⟩;cases k with
   |zero=>cases hk
   |succ k=>
     unfold Gx at hk;cases hs:Av X b cf H with
     |none=>rw[hs]at hk;cases hk
     |some r=>
       obtain⟨e1,c1,H1⟩:=r;refine Tu (Hd X hE hlp b cf fr H _ _ _ hok hl ha hs) ?_;rintro e2 f2 G2 hq;obtain⟨rfl,rfl,g1,g2⟩:=hq;rw[hs]at hk;cases e2 with
       |normal=>
         obtain⟨fr2,j1,j2,j3⟩:=b0m g2 g1 X.n0 live G2;obtain⟨fr3,k1,k2,k3⟩:=b7r j2 j3 X.n0 G2;exact⟨_,_,j1.trans k1,k,e64 _,_,k3,k2,hk⟩
       |exit i=>simp only[Kb]at hk;cases hk;exact⟨rfl,rfl,g1,g2⟩
       |ret=>simp only[Kb]at hk;cases hk;exact⟨rfl,rfl,g1,g2⟩
 |.pre l b,cf,fr,H,e,cf',H',hok,hN,ha,h=>by
   simp only[F5]at hok;simp only[Av]at h;obtain⟨fr1,h1,h2,h3⟩:=b3b (n0:=X.n0) l ha hN H;exact ao4 h1 (Hd X hE hlp b _ _ _ _ _ _ hok h3 h2 h)
 |.after l b,cf,fr,H,e,cf',H',hok,hN,ha,h=>by
   simp only[F5]at hok;simp only[Av]at h;unfold Nc at h;split at h
   ·rename_i c1 H1 he;cases h;refine e3b (Tu (Hd X hE hlp b cf fr H _ _ _ hok hN ha he) ?_);rintro e2 f2 G2 hq;obtain⟨rfl,rfl,g1,g2⟩:=hq;obtain⟨fr1,h1,h2,h3⟩:=b3b (n0:=X.n0) l g2 g1 G2;exact⟨fr1,_,h1,rfl,rfl,h3,h2⟩
   ·exact Hd X hE hlp b cf fr H _ _ _ hok hN ha h
structure FT where
 np:Nat
 nt:Nat
 res:List ARes
 sl:List Nat
 fz:Bool
 tc:TC
def Uq(sl:List Nat):ARes->ARes
 |.tmp i=>.tmp (slot sl i)
 |.cell i a n=>.cell (slot sl i) a n
def a3l(k:Nat):ARes->Bool
 |.tmp i=>decide (i<k)
 |.cell i _ _=>decide (i<k)
def FT.ok(d:FT):Bool:=decide d.sl.Nodup&&(d.sl.take d.np==List.range d.np)&&(d.sl.drop d.np).all (λs=>decide (d.np<=s)&&decide (s<d.np+d.nt))&&decide (d.np<=d.sl.length)&&F5 d.sl (d.np+d.nt) d.tc&&d.res.all (a3l d.sl.length)
def FT.is(P:Program)(f:FuncId)(d:FT):Prop:=FnD P f d.np d.nt (d.res.map (Uq d.sl)) (Ho d.sl d.tc)/\d.ok=true
def Qp(n0:Nat)(y:AV):Nat->AV×AH->AV×AH
 |0,q=>q
 |k+1,q=>Qp n0 y k (if n0<=k then V8 k q.1 q.2 else q)
def Ll(n0:Nat)(x:AV)(H:AH):AV×AH:=
 if H.length<=n0 then(x,H)else
 let q:=Qp n0 x H.length (x,H)
 if Ab q.1 then q else
 let q:=Qp n0 x H.length q
 if Ab q.1 then q else Qp n0 x H.length q
def Bv(fz:Bool)(n0:Nat)(y:AV)(H:AH):Option (AV×AH):=
 if n0=0/\Ab y=true then some (y,[])else
 let q:=if fz then Ll n0 y H else(y,H)
 if n0=0/\Ab q.1=true then some (q.1,[])else
 match Hz n0 [q.1] q.2 with
 |([x],H2)=>some (x,H2)
 |_=>none
def Um(lk:FuncId->Bool)(E:CallF)(lp:LoopF)(d:FT)(args:List AV)(H:AH):Option (AV×AH):=
 if args.length=d.np then
  (Av ⟨lk,E,lp,d.sl,d.np+d.nt,H.length⟩ d.tc (args++List.replicate (d.sl.length-d.np) .top) H).bind λr=>match r.1 with
   |.exit _=>none
   |_=>(Ea d.res r.2.1 r.2.2).bind λy=>Bv d.fz H.length y r.2.2
 else none
theorem e2q{sl:List Nat}{cf fr:List AV}(h:Ag sl cf fr)(H:AH)(rs:List ARes)(hok:rs.all (a3l sl.length)=true):Ea (rs.map (Uq sl)) fr H=Ea rs cf H:=by
 have one:∀ r,a3l sl.length r=true->Fx fr H (Uq sl r)=Fx cf H r:=by
  intro r hr;cases r with
  |tmp i=>simp only[a3l,e5h]at hr;simp only[Uq,Fx,h.at' i hr,F6,e5u]
  |cell i a n=>simp only[a3l,e5h]at hr;simp only[Uq,Fx,h.at' i hr,F6,e5u]
 have all:F8 fr H (rs.map (Uq sl))=F8 cf H rs:=by
  induction rs with
  |nil=>rfl
  |cons r rs ih=>
    simp only[e7a,e5v]at hok;simp only[e75,F8,one r hok.1,ih hok.2]
 unfold Ea;rw[all]
theorem ao3(n0:Nat)(y:AV):∀ (k:Nat) (q:AV×AH),Wk n0 [q.1] q.2 [(Qp n0 y k q).1] (Qp n0 y k q).2
 |0,q=>Wk.refl _ _ _
 |k+1,q=>by
   unfold Qp;have h:=ao3 n0 y k (if n0<=k then V8 k q.1 q.2 else q);split at h
   ·rename_i hk;rw[if_pos hk];exact(e35 n0 k q.1 q.2).trans h
   ·rename_i hk;rw[if_neg hk];exact h
theorem e36(n0:Nat)(x:AV)(H:AH):Wk n0 [x] H [(Ll n0 x H).1] (Ll n0 x H).2:=by
 unfold Ll;split
 ·exact Wk.refl _ _ _
 ·have h1:=ao3 n0 x H.length (x,H);simp only[];split
  ·exact h1
  ·have h2:=h1.trans (ao3 n0 x H.length _);split
   ·exact h2
   ·exact h2.trans (ao3 n0 x H.length _)
theorem e34(n0:Nat)(cf:List AV)(H:AH):Wk n0 cf H (Hz n0 cf H).1 (Hz n0 cf H).2:=by
 unfold Hz;split
 ·exact Wk.refl _ _ _
 ·simp only[];split
  ·rename_i hrs;exact b3d _ hrs.1 λr hr=>hrs.2 r (e6x.2 hr)
  ·exact Wk.refl _ _ _
theorem cd7{y:AV}(H:AH)(hb:Ab y=true):Wk 0 [y] H [y] []:=
 e3a (by
  rw[show Bw (Uc 0) [y]=[y]from Hw _ _ (by simp[Aa,hb])];exact⟨.inr rfl,trivial⟩)
theorem dz8{fz:Bool}{n0:Nat}{y:AV}{H:AH}{x:AV}{H':AH}(h:Bv fz n0 y H=some (x,H')):Wk n0 [y] H [x] H':=by
 unfold Bv at h;split at h
 ·rename_i hc;obtain⟨rfl,hb⟩:=hc;cases h;exact cd7 H hb
 simp only[]at h;have h0:Wk n0 [y] H [(if fz then Ll n0 y H else(y,H)).1] (if fz then Ll n0 y H else(y,H)).2:=by
  split
  ·exact e36 n0 y H
  ·exact Wk.refl _ _ _
 generalize (if fz then Ll n0 y H else(y,H))=q at *;split at h
 ·rename_i hc;obtain⟨rfl,hb⟩:=hc;cases h;exact h0.trans (cd7 q.2 hb)
 ·split at h
  ·rename_i x2 H2 he;cases h
   have:=e34 n0 [q.1] q.2;rw[he]at this;exact h0.trans this
  ·cases h
theorem d1z{lk:FuncId->Bool}{E:CallF}{lp:LoopF}(hE:G9 P E)(hlp:b40 lp){f:FuncId}{d:FT}(hd:d.is P f){args:List AV}{H:AH}{x:AV}{H':AH}(h:Um lk E lp d args H=some (x,H')):C P f args H λy G=>y=x/\G=H':=by
 obtain⟨hfd,hok⟩:=hd;simp only[FT.ok,e5v,e5h,beq_iff_eq]at hok;obtain⟨⟨⟨⟨⟨hnd,htk⟩,Dq⟩,hle⟩,hc⟩,hres⟩:=hok;unfold Um at h;split at h
 ·rename_i hnp;simp only[e4c]at h;obtain⟨⟨e,cf,H2⟩,hr,h⟩:=h;have hag:Ag d.sl (args++List.replicate (d.sl.length-d.np) .top) (args++List.replicate d.nt .top):=by
   refine⟨by simp[hnp];omega,λi hi=>?_,hnd⟩;rcases e7h i d.np with h'|h'
   ·have e1:slot d.sl i=i:=by
     have:(d.sl.take d.np)[i]?=some i:=(by rw[htk];exact List.getElem?_range h');rw[List.getElem?_take,if_pos h']at this;simp only[slot,e42,this,e5u]
    rw[e1,F6,List.getElem?_append_left om,List.getElem?_append_left om,e47 om];rfl
   ·have e1:d.np<=slot d.sl i/\slot d.sl i<d.np+d.nt:=by
     have hm:slot d.sl i∈d.sl.drop d.np:=by
      rw[e4l];refine⟨i-d.np,?_⟩;rw[e53,show d.np+(i-d.np)=i by omega];simp only[slot,e42,e47 hi,e5u]
     have:=e5x.1 Dq _ hm;simpa using this
    rw[F6,e40 om,e40 om,List.getElem?_replicate,List.getElem?_replicate,if_pos om,if_pos om];rfl
  refine ar7 hfd hnp (Tu (Hd ⟨lk,E,lp,d.sl,d.np+d.nt,H.length⟩ hE hlp d.tc _ _ H e cf H2 hc (by simp[hnp]) hag hr) ?_);rintro e2 f2 G2 hq;obtain⟨rfl,rfl,_,ha2⟩:=hq;have fine:((Ea d.res cf G2).bind λy=>Bv d.fz H.length y G2)=some (x,H')->∃ x',Ea (d.res.map (Uq d.sl)) f2 G2=some x'/\KWk H.length (λy G=>y=x/\G=H') x' G2:=by
   intro h;rw[e2q ha2 G2 d.res hres];simp only[e4c]at h;obtain⟨y,hy,h⟩:=h;exact⟨y,hy,x,H',dz8 h,rfl,rfl⟩
  cases e2 with
  |normal=>exact fine h
  |ret=>exact fine h
  |exit i=>cases h
 ·cases h
end
end
section
def Bq(p:Nat->Prop):Prop:=∃ n,∀ m,n<=m->p m
theorem Bq.mono{p q:Nat->Prop}(h:Bq p)(hq:∀ m,p m->q m):Bq q:=h.imp λ_ h m hm=>hq m (h m hm)
theorem Bq.and{p q:Nat->Prop}(h:Bq p)(h':Bq q):Bq λm=>p m/\q m:=by
 obtain⟨a,ha⟩:=h;obtain⟨b,hb⟩:=h';exact⟨max a b,λm hm=>⟨ha m om,hb m om⟩⟩
theorem Bq.all{p:Nat->Prop}(h:∀ m,p m):Bq p:=⟨0,λm _=>h m⟩
theorem Bq.bind{α β:Type}{x:Option α}{xm:Nat->Option α}{k:α->Option β}{km:Nat->α->Option β}(hx:∀ a,x=some a->Bq λm=>xm m=some a)(hk:∀ a r,k a=some r->Bq λm=>km m a=some r)
 {r:β} (h:x.bind k=some r):Bq λm=>(xm m).bind (km m)=some r:=by
 obtain⟨a,ha,h⟩:=e4c.1 h
 refine((hx a ha).and (hk a r h)).mono ?_;rintro m ⟨h1,h2⟩;rw[h1];exact h2
theorem a8k{f:List AV->AH->Option (AExit×List AV×AH)}:∀ {k k':Nat} {cf:List AV} {H:AH} {r:AExit×List AV×AH},Gx f k cf H=some r->k<=k'->Gx f k' cf H=some r
 |0,_,_,_,_,h,_=>by cases h
 |k+1,0,_,_,_,_,hk=>by omega
 |k+1,k'+1,cf,H,r,h,hk=>by
   unfold Gx at h ⊢;split at h
   ·exact a8k h om
   ·exact h
open Classical in
noncomputable def Ai:LoopF:=λstep cf H=>if h:∃ r,∃ k,Gx step k cf H=some r then some (Classical.choose h)else none
theorem a0l{step:List AV->AH->Option (AExit×List AV×AH)}{cf:List AV}{H:AH}{r:AExit×List AV×AH}:Ai step cf H=some r↔∃ k,Gx step k cf H=some r:=by
 unfold Ai;constructor
 ·intro h;split at h
  ·rename_i hx;cases h;exact Classical.choose_spec hx
  ·cases h
 ·intro h;have hx:∃ r,∃ k,Gx step k cf H=some r:=⟨r,h⟩;rw[dif_pos hx];obtain⟨k,hk⟩:=h;obtain⟨k2,hk2⟩:=Classical.choose_spec hx;have h1:=a8k hk (Nat.le_max_left k k2);have h2:=a8k hk2 (Nat.le_max_right k k2);rw[h1]at h2;exact h2.symm
def Fr(m:Nat):LoopF:=λstep cf H=>Gx step m cf H
theorem dy5(m:Nat):b40 (Fr m):=λ_ _ _ _ h=>⟨m,h⟩
section
variable {E:CallF} {Em:Nat->CallF} (hL:∀ f a H r,E f a H=some r->Bq λm=>Em m f a H=some r)
include hL
theorem b2t{f:FuncId}{a:List AV}{H:AH}{r}(h:Jy E f a H=some r):Bq λm=>Jy (Em m) f a H=some r:=by
 unfold Jy at h ⊢;simp only[]at h ⊢;split at h
 ·rename_i hc;split at h
  ·rename_i x H1 he
   refine(hL _ _ _ _ he).mono λm hm=>?_;rw[if_pos hc,hm];exact h
  ·cases h
 ·cases h
theorem e20:∀ f a H r,P8 E f a H=some r->Bq λm=>P8 (Em m) f a H=some r:=by
 intro f a H r h;unfold P8 at h ⊢;split at h
 ·rename_i rs x H1 he
  refine(b2t hL he).mono λm hm=>?_;rw[hm];exact h
 ·cases h
theorem b2r(lk:FuncId->Bool):∀ f a H r,G8 lk E f a H=some r->Bq λm=>G8 lk (Em m) f a H=some r:=by
 intro f a H r h;unfold G8 at h ⊢;split at h
 ·rename_i hc;simp only[hc,if_true];split at h
  ·rename_i x H1 he
   refine(hL _ _ _ _ he).mono λm hm=>?_;rw[hm];exact h
  ·cases h
 ·rename_i hc;simp only[hc];exact e20 hL _ _ _ _ h
theorem bp3{o:AOp}{fr:List AV}{H:AH}{r:AV×AH}(h:Bi o E fr H=some r):Bq λm=>Bi o (Em m) fr H=some r:=by
 cases o
 case call f a=>exact hL _ _ _ _ h
 case calld x a=>
  simp only[Bi,a9n]at h ⊢;split at h
  ·exact hL _ _ _ _ h
  ·cases h
 all_goals exact⟨0,λ_ _=>h⟩
theorem a5n:∀ {is:List AInstr} {fr:List AV} {H:AH} {r:List AV×AH},Fh E is fr H=some r->Bq λm=>Fh (Em m) is fr H=some r
 |[],fr,H,r,h=>⟨0,λ_ _=>h⟩
 |i::rest,fr,H,r,h=>by
   unfold Fh at h ⊢;have go:(match Bi i.op E fr H with|some (v,H')=>Fh E rest (Fd fr i.dst v) H'|none=>none)=some r->Bq λm=>(match Bi i.op (Em m) fr H with|some (v,H')=>Fh (Em m) rest (Fd fr i.dst v) H'|none=>none)=some r:=by
    intro h;split at h
    ·rename_i v H' he
     refine((bp3 hL he).and (a5n h)).mono ?_;rintro m ⟨h1,h2⟩;rw[h1];exact h2
    ·cases h
   cases hg:i.guard with
   |none=>rw[hg]at h;exact go h
   |some gw=>
     obtain⟨g,want⟩:=gw;rw[hg]at h;simp only at h ⊢;split at h
     ·split at h
      ·rename_i hbw;simp only[hbw,if_true];exact go h
      ·rename_i hbw;simp only[hbw,if_false];exact a5n h
     ·exact a5n h
     ·cases h
theorem e0c{lk:FuncId->Bool}{op:AOp}{c:Nat}{fr:List AV}{H:AH}{r}(h:J6 lk E op c fr H=some r):Bq λm=>J6 lk (Em m) op c fr H=some r:=by
 cases op
 case call f a=>
  simp only[J6]at h ⊢;split at h
  ·rename_i hc;simp only[if_pos hc];split at h
   ·rename_i x H1 he
    refine(hL _ _ _ _ he).mono λm hm=>?_;rw[hm];exact h
   ·cases h
  ·rename_i hc;simp only[if_neg hc];split at h
   ·rename_i rs x H1 he
    refine(b2t hL he).mono λm hm=>?_;rw[hm];exact h
   ·cases h
 case calld x0 a=>
  simp only[J6]at h ⊢;split at h
  ·split at h
   ·rename_i rs x H1 he
    refine(b2t hL he).mono λm hm=>?_;rw[hm];exact h
   ·cases h
  ·cases h
 all_goals exact⟨0,λ_ _=>h⟩
theorem a5q{lk:FuncId->Bool}{tab:List (List Nat)}:∀ {is:List (Nat×AInstr)} {c:Nat} {lg:List Hc} {fr:List AV} {H:AH} {r:List AV×AH},Fs lk E tab is c lg fr H=some r->Bq λm=>Fs lk (Em m) tab is c lg fr H=some r
 |[],c,lg,fr,H,r,h=>⟨0,λ_ _=>h⟩
 |(i,A6)::rest,c,lg,fr,H,r,h=>by
   unfold Fs at h ⊢;have go:(match J6 lk E A6.op c fr H with|some (R,W,c',v,H')=>Fs lk E tab rest c' (lg++[Dr i A6 R W]) (Aq fr A6.dst v) H'|none=>none)=some r->
    Bq λm=>(match J6 lk (Em m) A6.op c fr H with|some (R,W,c',v,H')=>Fs lk (Em m) tab rest c' (lg++[Dr i A6 R W]) (Aq fr A6.dst v) H'|none=>none)=some r:=by
    intro h;split at h
    ·rename_i R W c' v H' he
     refine((e0c hL he).and (a5q h)).mono ?_;rintro m ⟨h1,h2⟩;rw[h1];exact h2
    ·cases h
   cases hg:A6.guard with
   |none=>rw[hg]at h;exact go h
   |some gw=>
     obtain⟨g,want⟩:=gw;rw[hg]at h;simp only at h ⊢;split at h
     ·split at h
      ·rename_i hbw;simp only[hbw,if_true];exact go h
      ·rename_i hbw;simp only[hbw,if_false];exact a5q h
     ·exact a5q h
     ·cases h
theorem al9{lk:FuncId->Bool}{tab:List (List Nat)}:∀ {segs:List (List (Nat×AInstr))} {fr:List AV} {H:AH} {r:List AV×AH},Ex lk E tab segs fr H=some r->Bq λm=>Ex lk (Em m) tab segs fr H=some r
 |[],fr,H,r,h=>⟨0,λ_ _=>h⟩
 |[(_,A6)]::rest,fr,H,r,h=>by
   unfold Ex at h ⊢;split at h
   ·rename_i he
    refine((a5n hL he).and (al9 h)).mono ?_;rintro m ⟨h1,h2⟩;rw[h1];exact h2
   ·cases h
 |[]::rest,fr,H,r,h=>by
   unfold Ex at h ⊢;split at h
   ·rename_i he
    refine((a5q hL he).and (al9 h)).mono ?_;rintro m ⟨h1,h2⟩;rw[h1];exact h2
   ·cases h
 |(x::y::z)::rest,fr,H,r,h=>by
   unfold Ex at h ⊢;split at h
   ·rename_i he
    refine((a5q hL he).and (al9 h)).mono ?_;rintro m ⟨h1,h2⟩;rw[h1];exact h2
   ·cases h
end
section
variable {f:StepF} {fm:Nat->StepF} (hf:∀ o vs H r,f o vs H=some r->Bq λm=>fm m o vs H=some r)
include hf
mutual
theorem Zl(cf:List AV):∀ (e:TE) (H:AH) (r:AV×AH),Bc f cf e H=some r->Bq λm=>Bc (fm m) cf e H=some r
 |.v i,H,r,h=>⟨0,λ_ _=>h⟩
 |.d i,H,r,h=>⟨0,λ_ _=>h⟩
 |.c x,H,r,h=>⟨0,λ_ _=>h⟩
 |.op o as,H,r,h=>Bq.bind (λa ha=>at6 cf as H a ha) (λa r hr=>hf _ _ _ _ hr) h
 |.and a b,H,r,h=>Bq.bind (λx hx=>Zl cf a H x hx) (λx r hr=>by
  obtain⟨y,H1⟩:=x;cases y with
  |bool t=>cases t with
    |true=>exact Zl cf b _ _ hr
    |false=>exact⟨0,λ_ _=>hr⟩
  |_=>cases hr) h
 |.or a b,H,r,h=>Bq.bind (λx hx=>Zl cf a H x hx) (λx r hr=>by
  obtain⟨y,H1⟩:=x;cases y with
  |bool t=>cases t with
    |true=>exact⟨0,λ_ _=>hr⟩
    |false=>exact Zl cf b _ _ hr
  |_=>cases hr) h
theorem at6(cf:List AV):∀ (es:List TE) (H:AH) (r:List AV×AH),Cz f cf es H=some r->Bq λm=>Cz (fm m) cf es H=some r
 |[],H,r,h=>⟨0,λ_ _=>h⟩
 |e::es,H,r,h=>Bq.bind (λa ha=>Zl cf e H a ha) (λa r hr=>Bq.bind (λb hb=>at6 cf es _ b hb) (λb r hr=>⟨0,λ_ _=>hr⟩) hr) h
end
theorem at4:∀ (l:List TS) (cf:List AV) (H:AH) (r:List AV×AH),Eo f l cf H=some r->Bq λm=>Eo (fm m) l cf H=some r
 |[],cf,H,r,h=>⟨0,λ_ _=>h⟩
 |.put d o as::l,cf,H,r,h=>Bq.bind (λa ha=>Bq.bind (λb hb=>at6 hf cf as H b hb) (λb r hr=>Bq.bind (λc hc=>hf _ _ _ _ hc) (λc r hr=>⟨0,λ_ _=>hr⟩) hr) ha) (λa r hr=>at4 l _ _ r hr) h
end
section
variable {lk:FuncId->Bool} {E:CallF} {Em:Nat->CallF} (hL:∀ f a H r,E f a H=some r->Bq λm=>Em m f a H=some r)
include hL
theorem b1w:∀ o vs H r,Bf lk E o vs H=some r->Bq λm=>Bf lk (Em m) o vs H=some r:=λ_ _ _ _ h=>bp3 (b2r hL lk) h
omit hL in
theorem b8m{x:Option (AExit×List AV×AH)}{xm:Nat->Option (AExit×List AV×AH)}{k:List AV->AH->Option (AExit×List AV×AH)}{km:Nat->List AV->AH->Option (AExit×List AV×AH)}
 (hx:∀ a,x=some a->Bq λm=>xm m=some a) (hk:∀ cf H r,k cf H=some r->Bq λm=>km m cf H=some r) {r} (h:Kb x k=some r):Bq λm=>Kb (xm m) (km m)=some r:=by
 cases x with
 |none=>cases h
 |some a=>
   obtain⟨e,cf,H⟩:=a;have h1:=hx _ rfl;cases e with
   |normal=>
     refine(h1.and (hk cf H r h)).mono ?_;rintro m ⟨h1,h2⟩;rw[h1];exact h2
   |exit i=>exact h1.mono λm hm=>by rw[hm];exact h
   |ret=>exact h1.mono λm hm=>by rw[hm];exact h
omit hL in
theorem b0u{x:AV}{a b:Option (AExit×List AV×AH)}{am bm:Nat->Option (AExit×List AV×AH)}(ha:∀ r,a=some r->Bq λm=>am m=some r)(hb:∀ r,b=some r->Bq λm=>bm m=some r){r}(h:Qm x a b=some r) :
 Bq λm=>Qm x (am m) (bm m)=some r:=by
 unfold Qm at h ⊢;split at h
 ·split at h
  ·rename_i hb';simp only[hb',if_true];exact ha _ h
  ·rename_i hb';simp only[hb'];exact hb _ h
 ·cases h
theorem Jd(sl:List Nat)(N n0:Nat):∀ (c:TC) (cf:List AV) (H:AH) (r:AExit×List AV×AH),Av ⟨lk,E,Ai,sl,N,n0⟩ c cf H=some r->Bq λm=>Av ⟨lk,Em m,Fr m,sl,N,n0⟩ c cf H=some r
 |.skip,cf,H,r,h=>⟨0,λ_ _=>h⟩
 |.ret,cf,H,r,h=>⟨0,λ_ _=>h⟩
 |.exit i,cf,H,r,h=>⟨0,λ_ _=>h⟩
 |.reg n l,cf,H,r,h=>by
   simp only[Av,Qf,e4g]at h ⊢;obtain⟨a,ha,h⟩:=h
   exact(at4 (b1w hL) l cf H a ha).mono λm hm=>⟨a,hm,h⟩
 |.dreg n l,cf,H,r,h=>⟨0,λ_ _=>h⟩
 |.raw l,cf,H,r,h=>by
   simp only[Av,e4g]at h ⊢;obtain⟨a,ha,h⟩:=h
   exact(a5n (b2r hL lk) ha).mono λm hm=>⟨a,hm,h⟩
 |.rawD l,cf,H,r,h=>⟨0,λ_ _=>h⟩
 |.rawE s t,cf,H,r,h=>by
   simp only[Av,e4g]at h ⊢;obtain⟨a,ha,h⟩:=h
   exact(al9 (b2r hL lk) ha).mono λm hm=>⟨a,hm,h⟩
 |.seq a b,cf,H,r,h=>b8m (Jd sl N n0 a cf H) (λcf H r hr=>Jd sl N n0 b cf H r hr) h
 |.ifc n l e a b,cf,H,r,h=>Bq.bind (λx hx=>at4 (b1w hL) l cf H x hx) (λx r hr=>Bq.bind (λy hy=>Zl (b1w hL) x.1 e x.2 y hy) (λy r hr=>b0u (Jd sl N n0 a x.1 y.2) (Jd sl N n0 b x.1 y.2) hr) hr) h
 |.ifd n l e a b,cf,H,r,h=>Bq.bind (λx hx=>⟨0,λ_ _=>hx⟩) (λx r hr=>Bq.bind (λy hy=>⟨0,λ_ _=>hy⟩) (λy r hr=>b0u (Jd sl N n0 a x.1 y.2) (Jd sl N n0 b x.1 y.2) hr) hr) h
 |.ifv i a b,cf,H,r,h=>b0u (Jd sl N n0 a cf H) (Jd sl N n0 b cf H) h
 |.ifk q a b,cf,H,r,h=>by
   simp only[Av]at h ⊢;split at h
   ·rename_i hq;simp only[hq,if_true];exact Jd sl N n0 a cf H r h
   ·rename_i hq;simp only[hq];exact Jd sl N n0 b cf H r h
 |.bad,cf,H,r,h=>by cases h
 |.block i b,cf,H,r,h=>by
   simp only[Av]at h ⊢;cases hx:Av ⟨lk,E,Ai,sl,N,n0⟩ b cf H with
   |none=>rw[hx]at h;cases h
   |some x=>
     refine(Jd sl N n0 b cf H x hx).mono λm hm=>?_;rw[hm,<-hx];exact h
 |.loop live em b,cf,H,r,h=>by
   simp only[Av]at h ⊢;obtain⟨k,hk⟩:=a0l.1 h;have hst:∀ cf H r,Kb (Av ⟨lk,E,Ai,sl,N,n0⟩ b cf H) (λcf H=>some (.normal,(F9 n0 (Di live 0 cf) H).1,(F9 n0 (Di live 0 cf) H).2))=some r->
    Bq λm=>Kb (Av ⟨lk,Em m,Fr m,sl,N,n0⟩ b cf H) (λcf H=>some (.normal,(F9 n0 (Di live 0 cf) H).1,(F9 n0 (Di live 0 cf) H).2))=some r:=
    λcf H r hr=>b8m (Jd sl N n0 b cf H) (λcf H r hr=>⟨0,λ_ _=>hr⟩) hr
   have hr:∀ (k:Nat) cf H,Gx (λcf H=>Kb (Av ⟨lk,E,Ai,sl,N,n0⟩ b cf H) (λcf H=>some (.normal,(F9 n0 (Di live 0 cf) H).1,(F9 n0 (Di live 0 cf) H).2))) k cf H=some r->
    Bq λm=>Gx (λcf H=>Kb (Av ⟨lk,Em m,Fr m,sl,N,n0⟩ b cf H) (λcf H=>some (.normal,(F9 n0 (Di live 0 cf) H).1,(F9 n0 (Di live 0 cf) H).2))) k cf H=some r:=by
    intro k
    induction k with
    |zero=>intro cf H h;cases h
    |succ k ih=>
      intro cf H h;simp only[Gx]at h ⊢;split at h
      ·rename_i c1 H1 he
       refine((hst _ _ _ he).and (ih _ _ h)).mono ?_;rintro m ⟨h1,h2⟩;rw[h1];exact h2
      ·rename_i hne
       refine(hst _ _ _ h).mono λm hm=>?_;rw[hm];obtain⟨e,c1,H1⟩:=r;cases e with
       |normal=>exact absurd h (hne _ _)
       |exit i=>rfl
       |ret=>rfl
   refine((hr k _ _ hk).and (⟨k,λ_ h=>h⟩:Bq λm=>k<=m)).mono ?_;rintro m ⟨h1,h2⟩;exact a8k h1 h2
 |.pre l b,cf,H,r,h=>by
   simp only[Av]at h ⊢;exact Jd sl N n0 b _ _ r h
 |.after l b,cf,H,r,h=>by
   simp only[Av]at h ⊢;cases hx:Av ⟨lk,E,Ai,sl,N,n0⟩ b cf H with
   |none=>rw[hx]at h;cases h
   |some x=>
     refine(Jd sl N n0 b cf H x hx).mono λm hm=>?_;rw[hm,<-hx];exact h
theorem d20{d:FT}{args:List AV}{H:AH}{r:AV×AH}(h:Um lk E Ai d args H=some r):Bq λm=>Um lk (Em m) (Fr m) d args H=some r:=by
 unfold Um at h ⊢;split at h
 ·rename_i hn;simp only[hn,if_true];exact Bq.bind (λx hx=>Jd hL _ _ _ _ _ _ x hx) (λx r hr=>⟨0,λ_ _=>hr⟩) h
 ·cases h
end
def A9(l:List (Nat×FT))(f:Nat):Option FT:=
 match l with
 |[]=>none
 |(g,d)::rest=>if g==f then some d else A9 rest f
theorem d6q{l:List (Nat×FT)}{f:Nat}{d:FT}(h:A9 l f=some d):(f,d)∈l:=by
 induction l with
 |nil=>cases h
 |cons x l ih=>
   obtain⟨g,e⟩:=x;unfold A9 at h;split at h
   ·rename_i hg;cases h;rw[beq_iff_eq]at hg;subst hg;simp
   ·exact e4u _ (ih h)
def Y8(tab:List (Nat×FT))(orc:CallF)(lk:FuncId->Bool):Nat->CallF
 |0=>λ_ _ _=>none
 |n+1=>λf args H=>
   match A9 tab f with
   |some d=>Um lk (Y8 tab orc lk n) (Fr n) d args H
   |none=>orc f args H
def EvR(tab:List (Nat×FT))(orc:CallF)(lk:FuncId->Bool)(f:FuncId)(args:List AV)(H:AH)(r:AV×AH):Prop:=Bq λm=>Y8 tab orc lk m f args H=some r
open Classical in
noncomputable def Ev (tab:List (Nat×FT)) (orc:CallF) (lk:FuncId->Bool):CallF:=λf args H=>if h:∃ r,EvR tab orc lk f args H r then some (Classical.choose h)else none
section
variable {tab:List (Nat×FT)} {orc:CallF} {lk:FuncId->Bool}
theorem ar5{f:FuncId}{args:List AV}{H:AH}{r:AV×AH}:Ev tab orc lk f args H=some r↔EvR tab orc lk f args H r:=by
 unfold Ev;constructor
 ·intro h;split at h
  ·rename_i hx;cases h;exact Classical.choose_spec hx
  ·cases h
 ·intro h;have hx:∃ r,EvR tab orc lk f args H r:=⟨r,h⟩;rw[dif_pos hx];obtain⟨n,hn⟩:=h.and (Classical.choose_spec hx);obtain⟨h1,h2⟩:=hn n (e7y n);rw[h1]at h2;exact h2.symm
theorem e3r{f:FuncId}{d:FT}(hd:A9 tab f=some d){args:List AV}{H:AH}{r:AV×AH}(h:Um lk (Ev tab orc lk) Ai d args H=some r):Ev tab orc lk f args H=some r:=by
 refine ar5.2 ?_;obtain⟨n,hn⟩:=d20 (Em:=Y8 tab orc lk) (λf a H r h=>ar5.1 h) h;refine⟨n+1,λm hm=>?_⟩;obtain⟨m,rfl⟩:∃ k,m=k+1:=⟨m-1,by omega⟩;simp only[Y8,hd];exact hn m om
theorem Zc{f:FuncId}(hd:A9 tab f=none){args:List AV}{H:AH}{r:AV×AH}(h:orc f args H=some r):Ev tab orc lk f args H=some r:=by
 refine ar5.2 ⟨1,λm hm=>?_⟩;obtain⟨m,rfl⟩:∃ k,m=k+1:=⟨m-1,by omega⟩;simp only[Y8,hd];exact h
theorem c5x{P:Program}(ht:∀ p∈tab,p.2.is P p.1)(ho:G9 P orc):∀ n,G9 P (Y8 tab orc lk n)
 |0,f,args,H,x,H',h=>by cases h
 |n+1,f,args,H,x,H',h=>by
   unfold Y8 at h;split at h
   ·rename_i d hd;exact d1z (c5x ht ho n) (dy5 n) (ht _ (d6q hd)) h
   ·exact ho _ _ _ _ _ h
theorem ar4{P:Program}(ht:∀ p∈tab,p.2.is P p.1)(ho:G9 P orc):G9 P (Ev tab orc lk):=by
 intro f args H x H' h;obtain⟨n,hn⟩:=ar5.1 h;exact c5x ht ho n _ _ _ _ _ (hn n (e7y n))
end
end
def v(i:Nat):TE:=.v i
def d(i:Nat):TE:=.d i
def k(n:Int):TE:=.c (.int .i64 n)
def mv(a:TE):TE:=.op (.mv (.t 0)) [a]
def no(a:TE):TE:=.op (.un .not (.t 0)) [a]
def b2(o:BinOp)(a b:TE):TE:=.op (.bini o (.t 0) (.t 1)) [a,b]
def bk(o:BinOp)(n:Int)(a:TE):TE:=.op (.bini o (.t 0) (.c (.int .i64 n))) [a]
def bs(o:BinOp)(a b:TE):TE:=.op (.bins o (.t 0) (.t 1)) [a,b]
def ln(a:TE):TE:=.op (.len false (.t 0)) [a]
def ls(a:TE):TE:=.op (.len true (.t 0)) [a]
def ex(n:Nat)(a:TE):TE:=.op (.ext (.t 0) n) [a]
def ld(a:TE):TE:=.op (.load false 1 (.t 0)) [a]
def la(n:Nat)(a:TE):TE:=.op (.load true n (.t 0)) [a]
def fa(n:Nat)(a:TE):TE:=.op (.faddr n (.t 0)) [a]
def ia(n:Nat)(a b:TE):TE:=.op (.iaddr n (.t 0) (.t 1)) [a,b]
def ik(n:Nat)(j:Int)(a:TE):TE:=.op (.iaddr n (.t 0) (.c (.int .i64 j))) [a]
def fi(n:Nat)(a:TE):TE:=.op (.field false n 1 (.t 0)) [a]
def fg(n m:Nat)(a:TE):TE:=.op (.field true n m (.t 0)) [a]
def cv(n:IntKind)(a:TE):TE:=.op (.convi n (.t 0)) [a]
def ix(a b:TE):TE:=.op (.indexs (.t 0) (.t 1)) [a,b]
def Ye(f:FuncId):TE:=.op (.call f []) []
def An(f:FuncId)(a:TE):TE:=.op (.call f [.t 0]) [a]
def B9(f:FuncId)(a b:TE):TE:=.op (.call f [.t 0,.t 1]) [a,b]
def M5(f:FuncId)(a b c:TE):TE:=.op (.call f [.t 0,.t 1,.t 2]) [a,b,c]
def c4'(f:FuncId)(a b c e:TE):TE:=.op (.call f [.t 0,.t 1,.t 2,.t 3]) [a,b,c,e]
def Tk(f:FuncId)(a b c e g:TE):TE:=.op (.call f [.t 0,.t 1,.t 2,.t 3,.t 4]) [a,b,c,e,g]
def c6'(f:FuncId)(a b c e g h:TE):TE:=.op (.call f [.t 0,.t 1,.t 2,.t 3,.t 4,.t 5]) [a,b,c,e,g,h]
def m(i:Nat)(a:TE):TS:=.put (some i) (.mv (.t 0)) [a]
def s(n:Nat)(a b:TE):TS:=.put none (.store n (.t 0) (.t 1)) [a,b]
def e(o:AOp)(l:List TE):TS:=.put none o l
def z(i:Nat)(n:Int):TS:=.put (some i) (.mv (.c (.int .i64 n))) []
def y(i:Nat)(x:AV):TS:=.put (some i) (.mv (.c x)) []
def p(i:Nat)(a:TE):TS:=match a with
 |.op o l=>.put (some i) o l
 |a=>.put (some i) (.mv (.t 0)) [a]
def bt:Nat->Nat->Nat->List Nat
 |0,_,_=>[]
 |k+1,i,n=>if n=0 then []else if n%2=1 then i::bt k (i+1) (n/2)else bt k (i+1) (n/2)
def bm(l:List Nat):List (List Nat):=l.map (bt 400 0)
def Z0:List AV:=[.emp,.emp,.int .i64 0,.int .i64 0,.bool false,.int .i64 0,.int .i64 0,.int .u32 0,.int .u32 0,.int .u32 0,.int .u32 0,.int .i64 0,.int .i64 0,.int .i64 0,.int .i64 0,.int .i64 0,.int .u32 0,.int .u32 0,.int .u32 0,.int .u32 0,.int .i64 0,.int .i64 0,.int .u32 0,.int .u32 0,.int .u32 0,.int .u32 0,.int .i64 0,.int .i64 0,.int .u32 0,.int .u32 0,.int .u32 0,.int .u32 0,.int .i64 0,.emp,.emp,.emp,.emp,.int .i64 0,.int .i64 0,.emp,.bool false]
def Z1:List AV:=[.int .i64 0,.int .i64 0,.int .i64 0,.int .i64 0,.int .i64 0,.int .u32 0,.int .u32 0,.int .u32 0,.int .u32 0]
def Z2:List AV:=[.int .i64 0,.int .i64 0]
def Z3:List AV:=[.int .i64 0,.int .i64 0,.int .i64 0,.int .i64 0,.int .i64 0,.int .u32 0,.int .u32 0,.int .u32 0,.int .u32 0,.int .i64 0,.int .i64 0,.int .u32 0,.int .u32 0,.int .u32 0,.int .u32 0,.int .i64 0,.int .i64 0,.int .u32 0,.int .u32 0,.int .u32 0,.int .u32 0,.int .i64 0]
def Z4:List AV:=[.int .i64 0,.int .i64 0,.int .i64 0,.int .i64 0,.emp]
def Z5:List AV:=[.int .i64 0,.str []]
def Z6:List AV:=[.int .i64 0,.int .i64 0,.int .i64 0,.int .i64 0,.int .i64 0,.int .u32 0,.int .u32 0,.int .u32 0,.int .u32 0,.int .i64 0,.int .i64 0,.int .u32 0,.int .u32 0,.int .u32 0,.int .u32 0,.int .i64 0,.int .i64 0,.int .u32 0,.int .u32 0,.int .u32 0,.int .u32 0,.int .i64 0,.emp,.emp,.emp,.emp,.emp,.emp,.emp,.emp]
def Z7:List AV:=[.int .i64 0]
def Z8:List AV:=[.int .i64 0,.int .i64 0,.str [],.str [],.int .i64 0]
def Z9:List AV:=[.emp,.emp,.int .i64 0,.int .i64 0,.bool false]
def Yi:List AV:=[.emp,.emp,.int .i64 0,.int .i64 0,.int .u32 0,.int .u32 0,.int .u32 0,.int .u32 0,.emp,.emp]
def Pd:List AV:=[.emp,.emp,.emp,.emp]
def Z12:List AV:=[.int .u32 0,.int .u32 0,.int .u32 0,.int .u32 0]
def Fj:List AV:=[.int .i64 0,.int .i64 0,.int .u32 0,.int .u32 0,.int .u32 0,.int .u32 0]
def J9:List AV:=[.int .i64 0,.int .i64 0,.str []]
def Z15:List AV:=[.emp,.emp,.int .i64 0,.int .i64 0,.bool false,.emp,.emp,.emp,.bool false]
def Z16:List AV:=[.int .i64 0,.int .i64 0,.str [],.bool false]
def Vv:List AV:=[.int .i64 0,.int .i64 0,.int .i64 0,.int .i64 0,.emp,.int .i64 0,.int .i64 0,.int .u32 0,.int .u32 0,.int .u32 0,.int .u32 0,.emp,.emp]
def W0:TE:=.op (.box (.t 0)) [(d 0)]
def W1:TC:=.reg 0 [y 2 (.bool false)]
def W2:TC:=.reg 0 [y 2 (.emp),y 3 (.str []),y 4 (.bool false)]
def W3:TC:=.reg 0 [y 2 (.str [])]
def W4:TE:=.op (.box (.t 0)) [(d 1)]
def Jb:AOp:=.nilchk (.t 0)
def W5:TE:=.op Jb [(v 0)]
def W6:TE:=fa 0 (d 1)
def Vx:TC:=.reg 0 [z 2 0]
def Gi:TE:=ln (v 0)
def R7:TC:=.reg 0 [p 6 (b2 .lss (d 5) (d 4))]
def W8:TC:=.exit 0
def O9:TC:=.ifv 6 .skip W8
def aq5:TC:=.seq (.reg 17 [m 2 (v 3)]) .ret
def W40:TE:=bk .add 1 (d 5)
def a6w:TC:=.reg 18 [m 5 W40]
def W36:TC:=.seq (.reg 0 [y 2 (.int .i64 (-1))]) .ret
def W7:TC:=.seq Vx (.seq (.seq (.reg 6 [p 4 Gi,z 5 0]) (.block 0 (.loop [0,1,4,5] [] (.seq R7 (.seq O9 (.seq (.block 1 (.seq (.reg 10 [m 3 (v 5)]) (.ifc 11 [] (.op (.calld (.t 0) [(.t 1)]) [(v 1),(la 5 (ia 5 (v 0) (v 3)))]) aq5 .skip))) a6w)))))) W36)
def W9:Opd:=.c (.bool false)
def Pm:TC:=.reg 0 [p 2 W0,y 3 (.bool false)]
def Im:TC:=.seq W1 .ret
def Yz:TC:=.ifc 6 [] (b2 .neq Gi (ln (v 1))) Im .skip
def Pk:TC:=.reg 0 [y 1 (.bool false)]
def Hb:TE:=.op (.alloc Z0) []
def R6:TC:=.reg 0 [p 1 W0,y 2 (.bool false)]
def U3:TC:=.seq (.reg 0 [y 2 (.bool true)]) .ret
def Jc:TE:=.op (.alloc Fj) []
def Fk:TE:=fa 0 (d 2)
def a6t:Opd:=.c (.int .i64 8)
def R4:Opd:=.c (.int .i64 2)
def W19:TC:=.seq (.reg 0 [y 0 (.emp)]) (.seq (.reg 2 [m 1 (.op (.mksl 5 56 Z8 a6t a6t) [])]) (.seq (.reg 3 [e (.store 1 (.t 0) R4) [(fa 0 (ik 5 0 (v 1)))]]) (.seq (.reg 6 [m 0 (v 1)]) .ret)))
def Yt:AOp:=.eqs true [.i,.i,.i,.i,.i,.i] (.t 0) (.t 1)
def R5:TC:=.reg 0 [y 1 (.str [])]
def Wf:TC:=.reg 0 [p 7 (b2 .lss (d 6) (d 5))]
def Wd:TC:=.reg 0 [p 9 (b2 .lss (d 8) (d 7))]
def U2:TC:=.reg 0 [p 1 W0,y 2 (.str [])]
def W25:TC:=.seq (.ifc 11 [] (.or (.or (bk .lss 0 (v 4)) (bk .lss 0 (v 2))) (bk .geq 6 (v 2))) (.seq (.reg 0 [y 3 (.int .i64 (-1))]) .ret) .skip) (.seq (.reg 21 [m 3 (b2 .add (bk .add 1 (v 4)) (v 2))]) .ret)
def W26:TC:=.reg 0 [y 1 (.emp),y 2 (.emp),y 3 (.bool false)]
def K2:Opd:=.c (.bool true)
def K1:TE:=ld (fa 0 (d 3))
def U1:AOp:=.iaddra 4 1 (.t 0) (.t 1)
def Se:TE:=.op (.build Fj []) []
def Wc:AOp:=.append 1 8 Z7 (.t 0) (.t 1)
def W37:TC:=.seq Pk (.seq (.reg 3 [m 1 (.and (bk .geq 40 (v 0)) (bk .leq 240 (v 0)))]) .ret)
def Ja:TC:=.seq W3 .ret
def R2:Opd:=.c (.int .i64 0)
def W42:AOp:=.bini .add (.c (.int .i64 14)) (.t 0)
def W43:TC:=.reg 0 [p 10 (b2 .lss (d 9) (d 8))]
def R1:Opd:=.c (.int .i64 1)
def W45:AOp:=.call 120 [(.t 0),(.c (.int .i64 1073741824))]
def W46:TE:=.op (.build [.emp,.emp,.emp,.emp,.int .i64 0] [(0,4,(.t 0)),(4,1,(.t 1))]) [(.op (.build Pd [(0,4,(.t 0))]) [(la 4 (d 2))]),(v 0)]
def Ys:AOp:=.bslice 1 1 Z7 [(0,(.t 0))]
def W48:TE:=.op (.build [.emp,.emp] [(0,1,(.t 0)),(1,1,(.t 1))]) [(v 0),(v 1)]
def W49:AOp:=.eqs false [.i,.i,.i,.i,.i,.i] (.t 0) (.t 1)
def R0:TE:=ld (fa 1 (d 3))
def Yr:TC:=.reg 0 [y 3 (.bool false)]
def W52:AOp:=.bins .eql (.t 0) (.c (.str []))
def Sd:Opd:=.c (.int .i64 3)
def U0:TE:=.op (.alloc Z8) []
def W55:AOp:=.eqs true [.i,.i,.s,.s,.i] (.t 0) (.t 1)
def W56:TC:=.reg 0 [p 2 W0,p 3 W4,y 4 (.bool false)]
def Jz:TE:=la 5 (d 2)
def W58:TC:=.reg 0 [m 4 (d 0),p 5 (ln (d 4)),z 6 0]
def aq9:AOp:=.call 71 [(.c (.str [0])),(.t 0)]
def W59:TC:=.seq R5 (.seq (.reg 3 [m 1 (.op aq9 [(.op (.max2 (.t 0) R2) [(v 0)])])]) .ret)
def Pj:TE:=ld (fa 0 W6)
def W61:AOp:=.bini .mul a6t (.t 0)
def Wb:TE:=.op (.alloc Z9) []
def W63:TC:=.seq (.reg 0 [y 5 (.str []),y 6 (.bool false)]) .ret
def W64:TC:=.reg 0 [y 0 (.bool false)]
def Tz:TC:=.ifv 7 .skip W8
def Tx:TE:=bk .add 1 (d 6)
def Tw:TC:=.ifv 9 .skip W8
def Tv:TE:=bk .add 1 (d 8)
def Qz:TE:=la 41 (d 1)
def Yq:TE:=.op (.alloc Z12) []
def Wa:TC:=.ifv 10 .skip W8
def Yp:TC:=.reg 0 [y 2 (.emp)]
def W73:TC:=.reg 11 [p 4 Gi,z 5 0]
def W74:TE:=.op (.alloc Z6) []
def Yo:TE:=.op (.alloc Z4) []
def Vz:TE:=ld (fa 1 (d 2))
def W77:Opd:=.c (.str [50,52,52,52,52,52])
def Vy:TE:=bk .add 1 (d 9)
def W79:TE:=.op (.bslice 1 3 Z7 [(0,(.c (.int .i64 172))),(1,(.t 0)),(2,(.t 1))]) [(v 0),(v 1)]
def W80:TC:=.reg 10 [p 8 (la 2 (ia 2 (d 4) (d 6))),p 3 (.op (.alloc Z2) []),s 2 (d 3) (d 8)]
def Yn:Opd:=.c (.int .i64 4)
def W83:AOp:=.bini .sub (.c (.int .i64 256)) (.t 0)
def W84:TC:=.reg 15 [m 3 (v 5)]
def W85:TC:=.reg 0 [p 17 (b2 .lss (d 16) (d 15))]
def W86:TC:=.reg 0 [p 13 (b2 .lss (d 12) (d 11))]
def W87:TE:=.op (.alloc Pd) []
def W88:TC:=.seq (.reg 0 [y 3 (.bool true)]) .ret
def W89:TC:=.reg 0 [y 1 (.emp)]
def W90:TC:=.reg 0 [p 14 (b2 .lss (d 13) (d 12))]
def Ym:TE:=bk .lss 0 (v 1)
def Yl:TE:=ld (fa 0 (d 5))
def Yk:TE:=ld (fa 1 (d 1))
def Yj:TE:=ld (fa 3 (d 3))
def W95:AOp:=.slicel 1 (.t 0) (some (.t 1)) none
def W96:TC:=.reg 0 [p 8 (b2 .lss (d 7) (d 6))]
def Vw:TC:=.seq W2 .ret
def W98:AOp:=.bslice 1 1 [.str []] [(0,(.t 0))]
def W99:TE:=la 6 (ia 6 (v 0) (v 3))
def Wi:TE:=ld (fa 1 W6)
def Wh:TE:=ld (fa 2 W6)
def Za:TC:=.reg 0 [z 3 0]
def a2n:Opd:=.c (.int .i64 40)
def a2m:TC:=.reg 25 [m 5 W40]
def aq8:TC:=.reg 0 [p 2 W4,y 3 (.bool false)]
def aq7:AOp:=.slices (.t 0) none (some (.t 1))
def aq6:AOp:=.slices (.t 0) (some (.t 1)) none
def a2l:Opd:=.c (.int .i64 32)
def b3w:AOp:=.build Pd [(0,1,(.t 0)),(1,1,(.t 1)),(2,1,(.t 2)),(3,1,(.t 3))]
def b3v:TE:=.op W55 [(la 5 (ia 5 (v 0) (v 3))),(la 5 (ia 5 (v 1) (v 3)))]
def a78:TE:=.op (.build Z6 []) []
def Pl:TC:=.exit 2
def a77:TE:=.op (.build Z3 []) []
def a74:TE:=.op (.build Z8 []) []
def aq4:AOp:=.append 6 32 Fj (.t 0) (.t 1)
def aq3:TE:=.op (.build Z8 [(0,1,R4)]) []
def a73:Opd:=.c (.str [49,52,50])
def a2k:TE:=bk .add 1 (v 6)
def a2j:TE:=bk .add 1 (v 3)
def a2i:TE:=ld (fa 2 (d 1))
def Wg:TE:=la 5 (d 3)
def a71:TC:=.reg 0 [y 5 (.emp)]
def aq2:AOp:=.bslice 6 1 Fj [(0,(.t 0))]
def aq1:AOp:=.build [.emp] [(0,1,(.t 0))]
def a6z:TE:=.op (.alloc Vv) []
def a6y:TE:=ia 5 (ld Fk) (v 1)
def b3u:TC:=.reg 0 [p 3 W0,p 4 W4,y 5 (.str []),y 6 (.bool false)]
def aq0:AOp:=.bslice 2 1 Z2 [(0,(.t 0))]
def b3t:TE:=.and (bk .geq 0 (v 1)) (b2 .lss (v 1) (ln (ld Fk)))
def Yy:TE:=la 41 (d 6)
def ap9:TC:=.reg 0 [p 2 W4,y 3 (.emp)]
def b3s:TE:=.op (.indexa false 4 1 (.t 0) (.t 1)) [(d 4),(d 5)]
def Yx:TE:=ex 0 (d 10)
def Yw:TE:=ex 1 (d 10)
def ap8:TC:=.reg 0 [p 1 W0,y 2 (.emp)]
def U4:TE:=ls (v 0)
def b3r:AOp:=.build Z2 [(0,1,(.c (.int .i64 14))),(1,1,(.t 0))]
def a6x:TE:=la 6 (fa 5 (d 2))
def b3q:TC:=.reg 0 [p 2 W0,p 3 W4,p 4 W74,y 5 (.bool false)]
def a6v:TE:=ld (fa 39 (d 1))
def a6u:TE:=bk .add 1 (d 13)
def Yv:TE:=la 5 (d 6)
def Yu:TE:=la 5 (d 1)
end Go.Proofs.YtbngojdlgfhacaaGreatDoor.Abs
