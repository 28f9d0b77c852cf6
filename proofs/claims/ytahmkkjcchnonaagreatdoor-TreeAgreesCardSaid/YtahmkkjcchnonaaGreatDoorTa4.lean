/-
  Part 4 of the proof: no condition. (Parts of the abstract layer, of the program's functions in its form, and of their contracts.)
-/
import Derived.Test.YtahmkkjcchnonaaGreatDoorTa3
import Derived.Shelf.Strings.Builder1
import Derived.Shelf.Strings.Builder2
import Derived.Shelf.Strings.OnBuilder
import Derived.Shelf.Small.Bits
import Derived.Shelf.Small.Strs
import Derived.Shelf.Strings.BuilderF
import Derived.Shelf.Strconv.Itoa0
import Derived.Shelf.Strconv.Itoa1
import Derived.Shelf.LaysM
import Derived.Shelf.Strconv.Itoa2
import Derived.Shelf.Strconv.Itoa3
import Derived.Shelf.Strings.Search1
import Derived.Shelf.Sort.Plain
import Derived.Shelf.Strings.Prefix
import Derived.Shelf.Bits.Mul64
import Derived.Shelf.Strings.Repeat
import Derived.Ground.Names2Prog
import Derived.Shelf.Slices.Clone
import Derived.Shelf.Slices.CompactI
import Derived.Shelf.Slices.SearchI
import Derived.Shelf.Slices.Cells
import Derived.Shelf.Slices.In.SortNone
import Derived.Ground.SlgnProg
import Derived.Shelf.SlicesE.Clone
import Derived.Test.YtahmkkjcchnonaaGreatDoorProg
import Derived.Test.YtahmkkjcchnonaaGreatDoorTa2
import Derived.Lib.Join
import Derived.KernelRfl
set_option maxRecDepth 100000
set_option maxHeartbeats 8000000
set_option linter.unusedSimpArgs false
set_option linter.unusedVariables false
set_option linter.unusedSectionVars false
namespace Go.Proofs.YtahmkkjcchnonaaGreatDoor.Abs
def Ny(c:UInt8):Bool:=decide (97<=c.toNat/\c.toNat<=122)||decide (48<=c.toNat/\c.toNat<=57)||decide (c.toNat=46)||decide (c.toNat=95)||decide (c.toNat=45)
def mayName(s:Bytes):Bool:=s.all Ny&&decide (1<=s.length)&&decide (s.length<=8)&&!decide (s=[46])&&!decide (s=[46,46])
def foldN:Node:=⟨2,0,[],[],0⟩
def lostN:Node:=⟨3,0,[],[],0⟩
def Dd(s:List Node)(n:Int):Node:=s.getD n.toNat default
def Qs(s:List Node)(n:Int):Bool:=decide (0<=n)&&decide (n<s.length)&&decide ((Dd s n).kind=2)
def folderT(s:List Node)(n:Int):Bool:=decide (0<=n)&&decide (n<s.length)&&(decide ((Dd s n).kind=2)||decide ((Dd s n).kind=3))
def Ih(s:List Node)(x:Node):Bool:=decide (x.bad=0)&&mayName x.name&&Qs s x.up&&(if x.kind=1 then decide (x.body.length<=128)else decide (x.kind=2)&&decide (x.body=[]))
def Ky(s:List Node):Nat->Int->Bool
 |0,_=>false
 |k+1,n=>if n=0 then true else Ky s k (Dd s n).up
def Nk(s:List Node)(n:Int):Bool:=(List.range s.length).any λi=>decide (0<i)&&!decide ((i:Int)=n)&&!decide ((s.getD i default).kind=0)&&decide ((s.getD i default).up=(Dd s n).up)&&decide ((s.getD i default).name=(Dd s n).name)
def mayNodes(s:List Node):Bool:=decide (s.length=8)&&decide (s.getD 0 default=foldN)&&((s.drop 1).all λx=>decide (x=node0)||Ih s x) &&
 (List.range s.length).all λn=>decide (n=0)||decide ((s.getD n default).kind=0)||(Ky s s.length n&&!Nk s n)
def Jt(s:List Node):Nat->Int->Int
 |0,a=>a
 |k+1,a=>if 0<a/\a<s.length then Jt s k (Dd s a).up else a
def Hh(x:Node):Bool:=(decide (x.kind=1)&&decide (0<=x.bad)&&decide (x.bad<=15))||(decide (x.kind=2)&&decide (x.bad=0)&&decide (x.body=[]))
def N6(s:List Node)(i:Nat):Bool:=(List.range i).all λk=>decide (k=0)||decide ((s.getD k default).kind=0)||decide ((s.getD k default).kind=3)||!decide ((s.getD k default).up=(s.getD i default).up)||!decide ((s.getD k default).name=(s.getD i default).name)
def E6(s:List Node)(i:Nat):Bool:=
 if(s.getD i default).kind=0 then decide (s.getD i default=node0)else
 if(s.getD i default).kind=3 then decide (s.getD i default=lostN)else
 Hh (s.getD i default)&&mayName (s.getD i default).name&&folderT s (s.getD i default).up&&decide ((s.getD i default).body.length<=128)&&N6 s i&&decide (Jt s s.length i=0)
def H7(s:List Node):Bool:=decide (s.length=8)&&decide (s.getD 0 default=foldN)&&(List.range s.length).all λi=>decide (i=0)||E6 s i
def E9(n:Nat):Bytes:=[UInt8.ofNat (48+n)]
def Oz(names:List Bytes):Nat->Nat->Nat
 |0,k=>k
 |f+1,k=>if names.contains (E9 k)then Oz names f (k+1)else k
def Gu(s:List Node):Nat:=Oz (s.map (·.name)) 9 0
def O2(m:List Node)(n:Nat):List Node:=
 if(m.getD n default).kind=1/\0<(m.getD n default).bad/\(m.getD n default).bad<=15 then m.set n { m.getD n default with bad:=0 }
 else if m.getD n default=lostN/\0<n then m.set n ⟨2,0,E9 (Gu m),[],0⟩else m
def D1(s:List Node):Nat->List Node
 |0=>s
 |n+1=>O2 (D1 s n) n
def Cx(s:List Node):List Node:=D1 s s.length
theorem c93(m:List Node)(n:Nat):(O2 m n).length=m.length:=by
 unfold O2;split
 ·simp
 ·split<;>simp
theorem O1(s:List Node):∀ n,(D1 s n).length=s.length
 |0=>rfl
 |n+1=>by rw[D1,c93,O1 s n]
theorem b7k(m:List Node){n i:Nat}(h:i≠n):(O2 m n).getD i default=m.getD i default:=by
 have e:∀ x,(m.set n x).getD i default=m.getD i default:=by
  intro x;simp only[dx5,List.getElem?_set_ne (Ne.symm h)]
 unfold O2;split
 ·exact e _
 ·split
  ·exact e _
  ·rfl
theorem c94(m:List Node){n:Nat}(h:n<m.length):(O2 m n).getD n default =
 if(m.getD n default).kind=1/\0<(m.getD n default).bad/\(m.getD n default).bad<=15 then { m.getD n default with bad:=0 }
 else if m.getD n default=lostN/\0<n then⟨2,0,E9 (Gu m),[],0⟩else m.getD n default:=by
 have e:∀ x,(m.set n x).getD n default=x:=by
  intro x;simp only[dx5,List.getElem?_set_self h,e13]
 unfold O2;split
 ·exact e _
 ·split
  ·exact e _
  ·rfl
theorem ax7(s:List Node):∀ (n i:Nat),n<=i->(D1 s n).getD i default=s.getD i default
 |0,_,_=>rfl
 |n+1,i,h=>by rw[D1,b7k _ om,ax7 s n i om]
theorem Wv(s:List Node):∀ (n i:Nat),i<n->(D1 s n).getD i default=(D1 s (i+1)).getD i default
 |0,_,h=>absurd h (e1z _)
 |n+1,i,h=>by
   rcases e2l i n with h'|h'
   ·rw[D1,b7k _ om,Wv s n i h']
   ·have:i=n:=om;subst this;rfl
theorem Qe(s:List Node){i:Nat}(h:i<s.length):(Cx s).getD i default =
 if(s.getD i default).kind=1/\0<(s.getD i default).bad/\(s.getD i default).bad<=15 then { s.getD i default with bad:=0 }
 else if s.getD i default=lostN/\0<i then⟨2,0,E9 (Gu (D1 s i)),[],0⟩else s.getD i default:=by
 rw[Cx,Wv s s.length i h,D1,c94 _ (by rw[O1];exact h),ax7 s i i (e2z i)]
theorem b4j(names:List Bytes):∀ f k,Oz names f k<=k+f
 |0,k=>e2z k
 |f+1,k=>by
   rw[Oz];split
   ·have:=b4j names f (k+1);omega
   ·omega
theorem as1(names:List Bytes):∀ f k,(∀ j,k<=j->j<Oz names f k->E9 j∈names)/\(Oz names f k<k+f->E9 (Oz names f k)∉names)
 |0,k=>⟨λj h1 h2=>by rw[Oz]at h2;omega,λh=>by rw[Oz]at h;omega⟩
 |f+1,k=>by
   rw[Oz];split
   ·rename_i hc;obtain⟨h1,h2⟩:=as1 names f (k+1);refine⟨λj hk hj=>?_,λh=>h2 om⟩;rcases e2l k j with h|h
    ·exact h1 j om hj
    ·have:j=k:=om;subst this;simpa using hc
   ·rename_i hc;exact⟨λj h1 h2=>by omega,λ_=>by simpa using hc⟩
theorem c8q{l m:List Bytes}(hn:l.Nodup)(hs:∀ x∈l,x∈m):l.length<=m.length:=by
 induction l generalizing m with
 |nil=>exact e2x _
 |cons x l ih=>
   rw[List.nodup_cons]at hn;have hx:x∈m:=hs x (e0n ..);have h:=ih (m:=m.erase x) hn.2 (λy hy=>by
    have hne:y≠x:=λe=>hn.1 (e▸hy)
    exact(List.mem_erase_of_ne hne).2 (hs y (e06 _ hy)))
   rw[List.length_erase_of_mem hx]at h
   have:=List.length_pos_of_mem hx;rw[e15];omega
theorem a6g(m:List Node)(h:m.length<=8):Gu m<=8/\E9 (Gu m)∉m.map (·.name):=by
 have h1:=as1 (m.map (·.name)) 9 0;have hlt:Gu m<9:=by
  rcases e2l (Gu m) 9 with h'|h'
  ·exact h'
  ·exfalso
   have hnd:((List.range 9).map E9).Nodup:=by decide
   have:=c8q hnd (m:=m.map (·.name)) (λx hx=>by
    obtain⟨j,hj,rfl⟩:=e2r.1 hx;exact h1.1 j (e2x _) (Nat.lt_of_lt_of_le (e24.1 hj) h'))
   simp at this;omega
 exact⟨by omega,h1.2 (by show Gu m<0+9;omega)⟩
theorem d85{n:Nat}(h:n<=8):mayName (E9 n)=true:=by
 have:∀ n,n<9->mayName (E9 n)=true:=by decide
 exact this n om
theorem b0h{s:List Node}{i:Nat}(h:i<s.length):s.getD i default∈s:=by
 rw[dx5,dy1 h];exact e1c h
theorem b7g(s:List Node)(h8:s.length=8){i j:Nat}(hi:i<8)(hj:j<8)(hij:i≠j)(hl:s.getD i default=lostN)(h0:0<i):((Cx s).getD j default).name≠((Cx s).getD i default).name:=by
 have hk:¬ ((s.getD i default).kind=1/\0<(s.getD i default).bad/\(s.getD i default).bad<=15):=by rw[hl];simp[lostN]
 have ei:((Cx s).getD i default).name=E9 (Gu (D1 s i)):=by
  rw[Qe s om,if_neg hk,if_pos ⟨hl,h0⟩]
 have sp:=a6g (D1 s i) (by rw[O1];omega);rcases e2l j i with h|h
 ·rw[ei,Cx,Wv s s.length j om,<-Wv s i j h];intro e;exact sp.2 (e▸e2r.2 ⟨_,b0h (by rw[O1];omega),rfl⟩)
 ·have hji:i<j:=om;by_cases hjl:s.getD j default=lostN
  ·have hkj:¬ ((s.getD j default).kind=1/\0<(s.getD j default).bad/\(s.getD j default).bad<=15):=(by rw[hjl];simp[lostN]);have ej:((Cx s).getD j default).name=E9 (Gu (D1 s j)):=by
    rw[Qe s om,if_neg hkj,if_pos ⟨hjl,by omega⟩]
   have spj:=a6g (D1 s j) (by rw[O1];omega);rw[ej];intro e;refine spj.2 (e▸e2r.2 ⟨(D1 s j).getD i default,b0h (by rw[O1];omega),?_⟩);rw[Wv s j i hji,<-Wv s s.length i om];rfl
  ·have ej:((Cx s).getD j default).name=(s.getD j default).name:=by
    rw[Qe s om];split
    ·rfl
    ·rw[if_neg (λh=>hjl h.1)]
   rw[ei,ej];intro e;refine sp.2 (e▸e2r.2 ⟨(D1 s i).getD j default,b0h (by rw[O1];omega),?_⟩);rw[ax7 s i j h]
section
theorem b6k:∀ (n:Nat) (f:Nat->Nat),(∀ i,i<=n->f i<n)->∃ a b,a<b/\b<=n/\f a=f b:=by
 intro n f h;refine dx9 λhx=>?_;have hinj:∀ a b,a<b->b<=n->f a≠f b:=λa b h1 h2 e=>hx ⟨a,b,h1,h2,e⟩;have hnd:((List.range (n+1)).map f).Nodup:=by
  rw[List.nodup_iff_pairwise_ne,List.pairwise_map];refine List.Pairwise.imp_of_mem ?_ (List.pairwise_lt_range (n:=n+1));intro a b ha hb hab;exact hinj a b hab (by have:=e24.1 hb;omega)
 have hle:∀ {l m:List Nat},l.Nodup->(∀ x∈l,x∈m)->l.length<=m.length:=by
  intro l
  induction l with
  |nil=>intro m _ _;exact e2x _
  |cons x l ih=>
    intro m hn hs;rw[List.nodup_cons]at hn;have hx:x∈m:=hs x (e0n ..);have h:=ih (m:=m.erase x) hn.2 (λy hy=>by
     have hne:y≠x:=λe=>hn.1 (e▸hy)
     exact(List.mem_erase_of_ne hne).2 (hs y (e06 _ hy)))
    rw[List.length_erase_of_mem hx]at h
    have:=List.length_pos_of_mem hx;rw[e15];omega
 have:=hle hnd (m:=List.range n) (λx hx=>by
  obtain⟨j,hj,rfl⟩:=e2r.1 hx;exact e24.2 (h j (by have:=e24.1 hj;omega)))
 simp at this;omega
def upIt(s:List Node):Nat->Int->Int
 |0,a=>a
 |t+1,a=>upIt s t (Dd s a).up
theorem a5z(s:List Node):∀ (a b:Nat) (n:Int),upIt s (a+b) n=upIt s b (upIt s a n)
 |0,b,n=>by rw[e2s];rfl
 |a+1,b,n=>by rw[show a+1+b=(a+b)+1 by omega,upIt,a5z s a b];rfl
theorem a7x(s:List Node):∀ (k:Nat) (n:Int),Ky s k n=true↔∃ t,t<k/\upIt s t n=0
 |0,n=>by simp[Ky]
 |k+1,n=>by
   rw[Ky];split
   ·rename_i h;exact⟨λ_=>⟨0,by omega,h⟩,λ_=>rfl⟩
   ·rename_i h;rw[a7x s k];constructor
    ·rintro⟨t,h1,h2⟩;exact⟨t+1,by omega,h2⟩
    ·rintro⟨t,h1,h2⟩;cases t with
     |zero=>exact absurd h2 h
     |succ t=>exact⟨t,by omega,h2⟩
theorem b1l(s:List Node):∀ (k:Nat) (a:Int),(∀ t,0<=upIt s t a/\upIt s t a<s.length)->(Jt s k a=0↔∃ t,t<=k/\upIt s t a=0)
 |0,a,_=>by
   constructor
   ·intro h;exact⟨0,by omega,h⟩
   ·rintro⟨t,h1,h2⟩;have:t=0:=om;subst this;exact h2
 |k+1,a,hg=>by
   have h0:=hg 0;simp only[upIt]at h0;rw[Jt];split
   ·rename_i h;rw[b1l s k _ (λt=>hg (t+1))];constructor
    ·rintro⟨t,h1,h2⟩;exact⟨t+1,by omega,h2⟩
    ·rintro⟨t,h1,h2⟩;cases t with
     |zero=>simp only[upIt]at h2;omega
     |succ t=>exact⟨t,by omega,h2⟩
   ·rename_i h;have:a=0:=om;exact⟨λ_=>⟨0,by omega,this⟩,λ_=>this⟩
theorem cb5(s:List Node)(h8:s.length=8){a:Int}(hg:∀ t,0<=upIt s t a/\upIt s t a<s.length)(h:∃ t,t<=8/\upIt s t a=0):∃ t,t<8/\upIt s t a=0:=by
 obtain⟨t,ht,he⟩:=h;rcases e2l t 8 with h'|h'
 ·exact⟨t,h',he⟩
 ·have:t=8:=om;subst this;refine dx9 λhx=>?_;have hpos:∀ t,t<8->0<upIt s t a:=by
   intro t ht;have h1:=(hg t).1;have h2:upIt s t a≠0:=λe=>hx ⟨t,ht,e⟩;omega
  obtain⟨p,q,h1,h2,h3⟩:=b6k 7 (λt=>(upIt s t a).toNat-1) (λt ht=>by
   have h1:=hpos t om;have h2:=(hg t).2
   show(upIt s t a).toNat-1<7;omega)
  have hp:=hpos p om;have hq:=hpos q om;have e:upIt s p a=upIt s q a:=om;have e2:upIt s (p+(8-q)) a=upIt s (q+(8-q)) a:=by rw[a5z,a5z,e]
  rw[show q+(8-q)=8 by omega,he]at e2;exact hx ⟨p+(8-q),by omega,e2⟩
section
variable (s:List Node)
theorem P3:(Cx s).length=s.length:=O1 s _
theorem c91(a:Int):(Dd (Cx s) a).up=(Dd s a).up:=by
 unfold Dd;rcases e2l a.toNat s.length with h|h
 ·rw[Qe s h];split
  ·rfl
  ·split
   ·rename_i h2;rw[h2.1];rfl
   ·rfl
 ·rw[dx5,dx5,dz3 h,dz3 (by rw[P3];exact h)]
theorem a7m:∀ (t:Nat) (a:Int),upIt (Cx s) t a=upIt s t a
 |0,_=>rfl
 |t+1,a=>by rw[upIt,upIt,c91,a7m t]
theorem O0{i:Nat}(h:i<s.length)(h1:(s.getD i default).kind≠1)(h3:¬ (s.getD i default=lostN/\0<i)):(Cx s).getD i default=s.getD i default:=by
 rw[Qe s h,if_neg (λh=>h1 h.1),if_neg h3]
theorem a1e{i:Nat}(h:i<s.length)(h1:(s.getD i default).kind=1):(Cx s).getD i default={ s.getD i default with bad:=if 0<=(s.getD i default).bad/\(s.getD i default).bad<=15 then 0 else(s.getD i default).bad }:=by
 rw[Qe s h];split
 ·rename_i hc;rw[if_pos ⟨by omega,hc.2.2⟩]
 ·rename_i hc;have h3:¬ (s.getD i default=lostN/\0<i):=by rintro⟨e,_⟩;rw[e]at h1;simp[lostN]at h1
  rw[if_neg h3];split
  ·have:(s.getD i default).bad=0:=by
    refine dx9 λhb=>hc ⟨h1,by omega,by omega⟩
   generalize s.getD i default=x at *;obtain⟨a,b,c,d,e⟩:=x;simp only at this;rw[this]
  ·rfl
theorem b7i{i:Nat}(h:i<s.length)(h0:0<i)(hl:s.getD i default=lostN):∃ k,k<=8+s.length/\(Cx s).getD i default=⟨2,0,E9 k,[],0⟩:=by
 rw[Qe s h,if_neg (by rw[hl];simp[lostN]),if_pos ⟨hl,h0⟩];exact⟨_,by
  have:=b4j ((D1 s i).map (·.name)) 9 0;unfold Gu;omega,rfl⟩
end
structure NodeOk(s:List Node)(i:Nat):Prop where
 kind:(s.getD i default).kind=1/\0<=(s.getD i default).bad/\(s.getD i default).bad<=15\/(s.getD i default).kind=2/\(s.getD i default).bad=0/\(s.getD i default).body=[]
 name:mayName (s.getD i default).name=true
 up:folderT s (s.getD i default).up=true
 body:(s.getD i default).body.length<=128
 free:∀ k,0<k->k<8->k≠i->(s.getD k default).kind≠0->(s.getD k default).kind≠3->¬ ((s.getD k default).up=(s.getD i default).up/\(s.getD k default).name=(s.getD i default).name)
 leads:∃ t,t<8/\upIt s t i=0
structure TornOk(s:List Node):Prop where
 len:s.length=8
 top:s.getD 0 default=foldN
 none':∀ i,0<i->i<8->(s.getD i default).kind=0->s.getD i default=node0
 lost:∀ i,0<i->i<8->(s.getD i default).kind=3->s.getD i default=lostN
 node:∀ i,0<i->i<8->(s.getD i default).kind≠0->(s.getD i default).kind≠3->NodeOk s i
theorem b0p{s:List Node}{n:Int}:folderT s n=true↔0<=n/\n<s.length/\((Dd s n).kind=2\/(Dd s n).kind=3):=by
 simp only[folderT,e14,e1v,e0r];omega
theorem b0q{s:List Node}{n:Int}:Qs s n=true↔0<=n/\n<s.length/\(Dd s n).kind=2:=by
 simp only[Qs,e14,e0r];omega
theorem a3n{s:List Node}(h8:s.length=8)(htop:s.getD 0 default=foldN)(hup:∀ i,0<i->i<8->(s.getD i default).kind≠0->(s.getD i default).kind=3/\(s.getD i default).up=0\/folderT s (s.getD i default).up=true) :
 ∀ (t:Nat) (a:Int),0<=a->a<s.length->(Dd s a).kind≠0->0<=upIt s t a/\upIt s t a<s.length
 |0,a,h0,h1,_=>⟨h0,h1⟩
 |t+1,a,h0,h1,h2=>by
   have top2:(Dd s 0).kind=2:=(by show(s.getD 0 default).kind=2;rw[htop];rfl);rw[upIt];by_cases ha:a=0
   ·subst ha;have:(Dd s 0).up=0:=(by show(s.getD 0 default).up=0;rw[htop];rfl);rw[this];exact a3n h8 htop hup t 0 om om (by rw[top2];decide)
   ·rcases hup a.toNat om om h2 with ⟨_,h⟩|h
    ·rw[show(Dd s a).up=0 from h];exact a3n h8 htop hup t 0 om om (by rw[top2];decide)
    ·obtain⟨g1,g2,g3⟩:=b0p.1 h;exact a3n h8 htop hup t _ g1 g2 (by
      show(Dd s (s.getD a.toNat default).up).kind≠0;rcases g3 with h|h<;>rw[h]<;>decide)
theorem bz5(s:List Node):H7 s=true↔TornOk s:=by
 unfold H7;simp only[e14,e0r,e16,e24,e1v];constructor
 ·rintro⟨⟨h8,htop⟩,hall⟩;have at':∀ i,0<i->i<8->E6 s i=true:=λi h0 h1=>by
   rcases hall i om with h|h
   ·omega
   ·exact h
  have none':∀ i,0<i->i<8->(s.getD i default).kind=0->s.getD i default=node0:=λi h0 h1 hk=>by
   have:=at' i h0 h1;rw[E6,if_pos hk]at this;exact e11 this
  have lost:∀ i,0<i->i<8->(s.getD i default).kind=3->s.getD i default=lostN:=λi h0 h1 hk=>by
   have:=at' i h0 h1;rw[E6,if_neg (by rw[hk];decide),if_pos hk]at this;exact e11 this
  have full:∀ i,0<i->i<8->(s.getD i default).kind≠0->(s.getD i default).kind≠3->(Hh (s.getD i default)&&mayName (s.getD i default).name&&folderT s (s.getD i default).up&&decide ((s.getD i default).body.length<=128)&&N6 s i&&decide (Jt s s.length i=0))=true:=λi h0 h1 hk h3=>by
   have:=at' i h0 h1;rw[E6,if_neg hk,if_neg h3]at this;exact this
  have hup:∀ i,0<i->i<8->(s.getD i default).kind≠0->(s.getD i default).kind=3/\(s.getD i default).up=0\/folderT s (s.getD i default).up=true:=λi h0 h1 hk=>by
   by_cases h3:(s.getD i default).kind=3
   ·exact .inl ⟨h3,by rw[lost i h0 h1 h3];rfl⟩
   ·have:=full i h0 h1 hk h3;simp only[e14]at this;exact .inr this.1.1.1.2
  have ch:=a3n h8 htop hup;refine⟨h8,htop,none',lost,λi h0 h1 hk h3=>?_⟩;have hf:=full i h0 h1 hk h3;simp only[e14,e0r]at hf;obtain⟨⟨⟨⟨⟨f1,f2⟩,f3⟩,f4⟩,f5⟩,f6⟩:=hf;have fr:∀ a b,0<a->a<b->b<8->N6 s b=true->(s.getD a default).kind≠0->(s.getD a default).kind≠3->¬ ((s.getD a default).up=(s.getD b default).up/\(s.getD a default).name=(s.getD b default).name):=by
   intro a b ha hab hb hfb k0 k3 he;rw[N6,e16]at hfb
   have:=hfb a (e24.2 hab);simp only[e1v,e0r,e0w,dy7]at this;rcases this with (((h|h)|h)|h)|h
   ·omega
   ·exact k0 h
   ·exact k3 h
   ·exact h he.1
   ·exact h he.2
  refine⟨?_,f2,f3,f4,?_,?_⟩
  ·simp only[Hh,e1v,e14,e0r]at f1;rcases f1 with ⟨⟨a,b⟩,c⟩|⟨⟨a,b⟩,c⟩
   ·exact .inl ⟨a,b,c⟩
   ·exact .inr ⟨a,b,c⟩
  ·intro k hk0 hk8 hki kk0 kk3 he;rcases e2l k i with h|h
   ·exact fr k i hk0 h h1 f5 kk0 kk3 he
   ·have hkf:=full k hk0 hk8 kk0 kk3;simp only[e14]at hkf;exact fr i k h0 om hk8 hkf.1.2 hk h3 ⟨he.1.symm,he.2.symm⟩
  ·have hg:∀ t,0<=upIt s t i/\upIt s t i<s.length:=λt=>ch t i om om hk;rw[b1l s _ _ hg,h8]at f6;exact cb5 s h8 hg f6
 ·intro h;refine⟨⟨h.len,h.top⟩,λi hi=>?_⟩;have h8:=h.len;by_cases h0:i=0
  ·exact .inl h0
  ·refine .inr ?_;unfold E6;by_cases hk:(s.getD i default).kind=0
   ·rw[if_pos hk];exact e2a (h.none' i om om hk)
   ·rw[if_neg hk];by_cases h3:(s.getD i default).kind=3
    ·rw[if_pos h3];exact e2a (h.lost i om om h3)
    ·rw[if_neg h3];have ho:=h.node i om om hk h3;have hup:∀ i,0<i->i<8->(s.getD i default).kind≠0->(s.getD i default).kind=3/\(s.getD i default).up=0\/folderT s (s.getD i default).up=true:=λi h0 h1 hk=>by
      by_cases h3:(s.getD i default).kind=3
      ·exact .inl ⟨h3,by rw[h.lost i h0 h1 h3];rfl⟩
      ·exact .inr (h.node i h0 h1 hk h3).up
     have hg:∀ t,0<=upIt s t i/\upIt s t i<s.length:=λt=>a3n h8 h.top hup t i om om hk;simp only[e14,e0r];refine⟨⟨⟨⟨⟨?_,ho.name⟩,ho.up⟩,ho.body⟩,?_⟩,?_⟩
     ·simp only[Hh,e1v,e14,e0r];rcases ho.kind with ⟨a,b,c⟩|⟨a,b,c⟩
      ·exact .inl ⟨⟨a,b⟩,c⟩
      ·exact .inr ⟨⟨a,b⟩,c⟩
     ·rw[N6,e16];intro k hk';have hki:=e24.1 hk';simp only[e1v,e0r,e0w,dy7];refine dx9 λhx=>?_;simp only[not_or,Decidable.not_not]at hx;exact ho.free k om om om hx.1.1.1.2 hx.1.1.2 ⟨hx.1.2,hx.2⟩
     ·rw[b1l s _ _ hg,h8];obtain⟨t,h1,h2⟩:=ho.leads;exact⟨t,by omega,h2⟩
theorem c9g(s:List Node):mayNodes (Cx s)=true↔TornOk s:=by
 unfold mayNodes;simp only[e14,e0r,e16,e24,e1v,P3];have drop1:∀ (P:Node->Prop),s.length=8->((∀ x∈(Cx s).drop 1,P x)↔∀ i,0<i->i<8->P ((Cx s).getD i default)):=by
  intro P h8;have hl:=P3 s;constructor
  ·intro h i h0 h1;refine h _ ?_;rw[dz5];refine⟨i-1,?_⟩;rw[e0g,show 1+(i-1)=i by omega,dx5,dy1 om];rfl
  ·intro h x hx;obtain⟨j,hj⟩:=dz5.1 hx;rw[e0g]at hj;have hlt:1+j<(Cx s).length:=by
    rcases e2l (1+j) (Cx s).length with h'|h'
    ·exact h'
    ·rw[dz3 h']at hj;cases hj
   have:=h (1+j) om om;rw[dx5,hj]at this;exact this
 have m0:s.length=8->((Cx s).getD 0 default=foldN↔s.getD 0 default=foldN):=by
  intro h8;by_cases hk:(s.getD 0 default).kind=1
  ·rw[a1e s om hk];constructor
   ·intro h;have:=congrArg Node.kind h;simp only[foldN]at this;omega
   ·intro h;rw[h]at hk;simp[foldN]at hk
  ·rw[O0 s om hk om]
 constructor
 ·rintro⟨⟨⟨h8,htop⟩,hal⟩,hrest⟩;rw[drop1 _ h8]at hal;rw[m0 h8]at htop;have hmtop:(Cx s).getD 0 default=foldN:=(m0 h8).2 htop;have none':∀ i,0<i->i<8->(s.getD i default).kind=0->s.getD i default=node0:=λi h0 h1 hk=>by
   have e:=O0 s (i:=i) om (by rw[hk];decide) (by rintro⟨h,_⟩;rw[h]at hk;simp[lostN]at hk);rcases hal i h0 h1 with h|h
   ·rw[<-e];exact h
   ·rw[e,Ih,if_neg (by rw[hk];decide)]at h;simp only[e14,e0r]at h
    have:=h.2.1;omega
  have lost:∀ i,0<i->i<8->(s.getD i default).kind=3->s.getD i default=lostN:=λi h0 h1 hk=>by
   refine dx9 λhne=>?_;have e:=O0 s (i:=i) om (by rw[hk];decide) (λh=>hne h.1);rcases hal i h0 h1 with h|h
   ·rw[e]at h;rw[h]at hk;simp[node0]at hk
   ·rw[e,Ih,if_neg (by rw[hk];decide)]at h;simp only[e14,e0r]at h
    have:=h.2.1;omega
  have fold2:∀ u:Int,Qs (Cx s) u=true->folderT s u=true:=by
   intro u hu;obtain⟨g1,g2,g3⟩:=b0q.1 hu;rw[P3]at g2;refine b0p.2 ⟨g1,g2,?_⟩;unfold Dd at g3 ⊢;rw[Qe s om]at g3;split at g3
   ·rename_i hc;simp only at g3;omega
   ·split at g3
    ·rename_i hc;rw[hc.1];exact .inr rfl
    ·exact .inl g3
  have yk:∀ i,0<i->i<8->(s.getD i default).kind≠0->(s.getD i default).kind≠3->(Cx s).getD i default={ s.getD i default with bad:=0 }/\((s.getD i default).kind=1/\0<=(s.getD i default).bad/\(s.getD i default).bad<=15/\(s.getD i default).body.length<=128\/(s.getD i default).kind=2/\(s.getD i default).bad=0/\(s.getD i default).body=[])/\mayName (s.getD i default).name=true/\folderT s (s.getD i default).up=true:=by
   intro i h0 h1 k0 k3;by_cases k1:(s.getD i default).kind=1
   ·have e:=a1e s (i:=i) om k1;have h:=hal i h0 h1;rw[e]at h ⊢;rcases h with h|h
    ·have:=congrArg Node.kind h;simp only[node0]at this;exact absurd this k0
    ·rw[Ih]at h;simp only[e14,e0r,k1,if_true]at h;obtain⟨⟨⟨b1,b2⟩,b3⟩,b4⟩:=h;split at b1
     ·rename_i hb;rw[if_pos hb];exact⟨rfl,.inl ⟨k1,hb.1,hb.2,b4⟩,b2,fold2 _ b3⟩
     ·rename_i hb;exfalso;rw[b1]at hb;simp at hb
   ·have e:=O0 s (i:=i) om k1 (by rintro⟨h,_⟩;rw[h]at k3;simp[lostN]at k3);have h:=hal i h0 h1;rw[e]at h ⊢;rcases h with h|h
    ·rw[h]at k0;simp[node0]at k0
    ·rw[Ih,if_neg k1]at h;simp only[e14,e0r]at h;obtain⟨⟨⟨b1,b2⟩,b3⟩,b4,b5⟩:=h;refine⟨?_,.inr ⟨b4,b1,b5⟩,b2,fold2 _ b3⟩;generalize s.getD i default=x at *;obtain⟨p,q,r,t,u⟩:=x;simp only at b1;rw[b1]
  refine⟨h8,htop,none',lost,λi h0 h1 k0 k3=>?_⟩;obtain⟨e,hk,hn,hu⟩:=yk i h0 h1 k0 k3;have hr:Ky (Cx s) s.length i=true/\Nk (Cx s) i=false:=by
   rcases hrest i om with (h|h)|h
   ·omega
   ·rw[e]at h;exact absurd h k0
   ·simp only[e0w]at h;exact h
  refine⟨?_,hn,hu,?_,?_,?_⟩
  ·rcases hk with ⟨a,b,c,_⟩|h
   ·exact .inl ⟨a,b,c⟩
   ·exact .inr h
  ·rcases hk with ⟨_,_,_,h⟩|⟨_,_,h⟩
   ·exact h
   ·rw[h];exact e2x _
  ·intro k hk0 hk8 hki kk0 kk3 he;have ek:=(yk k hk0 hk8 kk0 kk3).1;have ht:=hr.2;rw[Nk,List.any_eq_false]at ht
   have:=ht k (e24.2 (by rw[P3];omega));apply this;have ei:Dd (Cx s) (i:Int)=(Cx s).getD i default:=rfl;rw[ei,e,ek];simp only[e14,e0r,e0w,dy7];exact⟨⟨⟨⟨by omega,by omega⟩,kk0⟩,he.1⟩,he.2⟩
  ·obtain⟨t,h1,h2⟩:=(a7x _ _ _).1 hr.1;rw[a7m]at h2;exact⟨t,by omega,h2⟩
 ·intro h;have h8:=h.len;have hmtop:(Cx s).getD 0 default=foldN:=(m0 h8).2 h.top;refine⟨⟨⟨h8,hmtop⟩,?_⟩,?_⟩
  ·rw[drop1 _ h8];intro i h0 h1;by_cases k0:(s.getD i default).kind=0
   ·refine .inl ?_;rw[O0 s om (by rw[k0];decide) (by rintro⟨h,_⟩;rw[h]at k0;simp[lostN]at k0)];exact h.none' i h0 h1 k0
   ·refine .inr ?_;have fold:∀ u:Int,folderT s u=true->Qs (Cx s) u=true:=by
     intro u hu;obtain⟨g1,g2,g3⟩:=b0p.1 hu;refine b0q.2 ⟨g1,by rw[P3];exact g2,?_⟩;unfold Dd at g3 ⊢;by_cases hu0:u=0
     ·subst hu0
      show((Cx s).getD 0 default).kind=2;rw[hmtop];rfl
     ·rcases g3 with g3|g3
      ·rw[O0 s om (by rw[g3];decide) (by rintro⟨h,_⟩;rw[h]at g3;simp[lostN]at g3)];exact g3
      ·obtain⟨k,_,e⟩:=b7i s (i:=u.toNat) om om (h.lost _ om om g3);rw[e]
    by_cases k3:(s.getD i default).kind=3
    ·have hl:=h.lost i h0 h1 k3;have hsp:=a6g (D1 s i) (by rw[O1];omega);rw[Qe s om,if_neg (by rw[hl];simp[lostN]),if_pos ⟨hl,h0⟩];simp only[Ih,e14,e0r];refine⟨⟨⟨trivial,d85 hsp.1⟩,?_⟩,?_⟩
     ·refine b0q.2 ⟨by simp,by rw[P3];simp;omega,?_⟩
      show((Cx s).getD 0 default).kind=2;rw[hmtop];rfl
     ·simp
    ·have ho:=h.node i h0 h1 k0 k3;rcases ho.kind with ⟨k1,b0,b1⟩|⟨k2,b0,b1⟩
     ·rw[a1e s om k1,if_pos ⟨b0,b1⟩];simp only[Ih,e14,e0r,k1,if_true];exact⟨⟨⟨trivial,ho.name⟩,fold _ ho.up⟩,ho.body⟩
     ·rw[O0 s om (by rw[k2];decide) (by rintro⟨h,_⟩;rw[h]at k3;simp[lostN]at k3),Ih,if_neg (by rw[k2];decide)];simp only[e14,e0r];exact⟨⟨⟨b0,ho.name⟩,fold _ ho.up⟩,k2,b1⟩
  ·intro i hi;by_cases h0:i=0
   ·exact .inl (.inl h0)
   ·by_cases k0:(s.getD i default).kind=0
    ·refine .inl (.inr ?_);rw[O0 s hi (by rw[k0];decide) (by rintro⟨h,_⟩;rw[h]at k0;simp[lostN]at k0)];exact k0
    ·refine .inr ?_;have at':Dd (Cx s) (i:Int)=(Cx s).getD i default:=rfl;by_cases k3:(s.getD i default).kind=3
     ·have hl:=h.lost i om om k3;obtain⟨k,_,e⟩:=b7i s hi om hl;refine⟨?_,?_⟩
      ·rw[a7x];refine⟨1,by omega,?_⟩;rw[a7m]
       show(Dd s (i:Int)).up=0
       show(s.getD i default).up=0;rw[hl];rfl
      ·simp only[e0w];rw[Nk,List.any_eq_false];intro j hj;have hj8:=e24.1 hj;rw[P3]at hj8;simp only[e14,e0r,e0w,dy7,at'];rintro⟨⟨⟨⟨j0,ji⟩,jk⟩,ju⟩,jn⟩;exact b7g s h8 (i:=i) (j:=j) om om om hl om jn
     ·have ho:=h.node i om om k0 k3;have nm:((Cx s).getD i default).name=(s.getD i default).name/\((Cx s).getD i default).up=(s.getD i default).up:=by
       rcases ho.kind with ⟨k1,_⟩|⟨k2,_⟩
       ·rw[a1e s hi k1];exact⟨rfl,rfl⟩
       ·rw[O0 s hi (by rw[k2];decide) (by rintro⟨h,_⟩;rw[h]at k3;simp[lostN]at k3)];exact⟨rfl,rfl⟩
      refine⟨?_,?_⟩
      ·rw[a7x];obtain⟨t,h1,h2⟩:=ho.leads;exact⟨t,by omega,by rw[a7m];exact h2⟩
      ·simp only[e0w];rw[Nk,List.any_eq_false];intro j hj;have hj8:=e24.1 hj;rw[P3]at hj8;simp only[e14,e0r,e0w,dy7,at'];rintro⟨⟨⟨⟨j0,ji⟩,jk⟩,ju⟩,jn⟩;by_cases j3:(s.getD j default).kind=3
       ·exact b7g s h8 (i:=j) (j:=i) om om om (h.lost j om om j3) om jn.symm
       ·by_cases jk0:(s.getD j default).kind=0
        ·rw[O0 s om (by rw[jk0];decide) (by rintro⟨h,_⟩;rw[h]at jk0;simp[lostN]at jk0)]at jk;exact jk jk0
        ·have hoj:=h.node j om om jk0 j3;have nj:((Cx s).getD j default).name=(s.getD j default).name/\((Cx s).getD j default).up=(s.getD j default).up:=by
          rcases hoj.kind with ⟨k1,_⟩|⟨k2,_⟩
          ·rw[a1e s om k1];exact⟨rfl,rfl⟩
          ·rw[O0 s om (by rw[k2];decide) (by rintro⟨h,_⟩;rw[h]at j3;simp[lostN]at j3)];exact⟨rfl,rfl⟩
         rw[nj.1,nm.1]at jn;rw[nj.2,nm.2]at ju;exact ho.free j om om om jk0 j3 ⟨ju,jn⟩
theorem aq5(s:List Node):mayNodes (Cx s)=H7 s:=by
 rw[e1x,c9g,bz5]
end
section
def Gp:Dset:=⟨0,0,0,0,none⟩
def F7:List Dset->Int->Int
 |[],_=>-1
 |d::l,i=>if d.id=i then 0 else if F7 l i<0 then -1 else F7 l i+1
def getA(l:List Dset)(i:Int):Option Dset:=if 0<=F7 l i then some (l.getD (F7 l i).toNat default)else none
theorem bd7{i:Int}:∀ {l:List Dset},(F7 l i= -1/\∀ j,j<l.length->(l.getD j default).id≠i)\/∃ k:Nat,F7 l i=k/\k<l.length/\(l.getD k default).id=i/\∀ j,j<k->(l.getD j default).id≠i
 |[]=>.inl ⟨rfl,λ_ h=>absurd h (e1z _)⟩
 |d::l=>by
   by_cases h:d.id=i
   ·exact .inr ⟨0,by simp[F7,h],by simp,by simpa using h,λ_ h=>absurd h (e1z _)⟩
   ·rcases bd7 (l:=l) (i:=i)with ⟨e,hn⟩|⟨k,e,hk,hid,hl⟩
    ·refine .inl ⟨by simp[F7,h,e],λj hj=>?_⟩;cases j with
     |zero=>simpa using h
     |succ j=>simpa using hn j (by simpa using hj)
    ·refine .inr ⟨k+1,by rw[F7,if_neg h,e,if_neg om];rfl,by simpa using hk,by simpa using hid,λj hj=>?_⟩;cases j with
     |zero=>simpa using h
     |succ j=>simpa using hl j om
theorem a8c{l:List Dset}{i:Int}:(getA l i=none/\∀ j,j<l.length->(l.getD j default).id≠i)\/∃ k:Nat,getA l i=some (l.getD k default)/\k<l.length/\(l.getD k default).id=i/\∀ j,j<k->(l.getD j default).id≠i:=by
 rcases bd7 (l:=l) (i:=i)with ⟨e,hn⟩|⟨k,e,h⟩
 ·exact .inl ⟨by unfold getA;rw[e];rfl,hn⟩
 ·exact .inr ⟨k,by unfold getA;rw[e,if_pos om,e10],h⟩
theorem Ql{l:List Dset}{i:Int}{d:Dset}(h:getA l i=some d):d∈l/\d.id=i:=by
 rcases a8c (l:=l) (i:=i)with ⟨e,_⟩|⟨k,e,hk,hid,_⟩
 ·rw[e]at h;cases h
 ·rw[e]at h;cases h;refine⟨?_,hid⟩;rw[dx5,dy1 hk];exact e1c hk
structure MayD(l:List Dset)(d:Dset):Prop where
 id:1<=d.id/\d.id<=65535
 quota:0<=d.quota/\d.quota<=255
 files:mayNodes (els d.files)=true
 kinds:d.kind=1\/d.kind=2
 snap:d.kind=2->d.quota=0/\∃ o∈l,o.id=d.origin/\o.kind=1
 live:d.kind=1->d.origin=0\/∃ o∈l,o.id=d.origin/\o.kind=2
structure MayL(l:List Dset):Prop where
 len:l.length<=8
 sorted:l.Pairwise λa b=>a.id<b.id
 each:∀ d∈l,MayD l d
 tree:∃ r:Int->Nat,∀ d∈l,∀ o∈l,o.id=d.origin->r o.id<r d.id
theorem MayL.lt{l:List Dset}(h:MayL l){i j:Nat}(hij:i<j)(hj:j<l.length):(l.getD i default).id<(l.getD j default).id:=by
 have:=List.pairwise_iff_getElem.1 h.sorted i j om hj hij;rw[dx5,dy1 (show i<l.length by omega),dx5,dy1 hj];exact this
theorem ai0{l:List Dset}{n:Nat}(h:n<l.length):l.getD n default∈l:=by
 rw[dx5,dy1 h];exact e1c h
theorem Uh{l:List Dset}{x:Dset}(h:x∈l):∃ n,n<l.length/\l.getD n default=x:=by
 obtain⟨n,hn,rfl⟩:=e07.1 h;exact⟨n,hn,by rw[dx5,dy1 hn];rfl⟩
theorem MayL.inj{l:List Dset}(h:MayL l){i j:Nat}(hi:i<l.length)(hj:j<l.length)(e:(l.getD i default).id=(l.getD j default).id):i=j:=by
 rcases Nat.lt_trichotomy i j with hh|hh|hh
 ·have:=h.lt hh hj;omega
 ·exact hh
 ·have:=h.lt hh hi;omega
theorem MayL.find{l:List Dset}(h:MayL l){d:Dset}(hd:d∈l):getA l d.id=some d:=by
 obtain⟨i,hi,rfl⟩:=Uh hd;rcases a8c (l:=l) (i:=(l.getD i default).id)with ⟨e,hn⟩|⟨k,e,hk,hid,_⟩
 ·exact absurd rfl (hn i hi)
 ·rw[e,h.inj hk hi hid]
theorem bc0{l:List Dset}{i:Int}(h:∀ d∈l,d.id≠i):getA l i=none:=by
 rcases a8c (l:=l) (i:=i)with ⟨e,hn⟩|⟨k,e,hk,hid,_⟩
 ·exact e
 ·exact absurd hid (h _ (ai0 hk))
def G4(l:List Dset)(d:Dset):Dset:=(getA l d.origin).getD Gp
def Co(l:List Dset):Nat->Dset->Dset
 |0,d=>d
 |m+1,d=>Co l m (G4 l d)
theorem a1s(l:List Dset):∀ (m:Nat) (d:Dset),Co l (m+1) d=G4 l (Co l m d)
 |0,_=>rfl
 |m+1,d=>a1s l m (G4 l d)
structure SetB(l:List Dset)(k:Nat):Prop where
 id:1<=(l.getD k default).id/\(l.getD k default).id<=65535
 sorted:k=0\/(l.getD (k-1) default).id<(l.getD k default).id
 files:mayNodes (els (l.getD k default).files)=true
 quota:0<=(l.getD k default).quota/\(l.getD k default).quota<=255
 kinds:(l.getD k default).kind=1\/(l.getD k default).kind=2
 snap:(l.getD k default).kind=2->(l.getD k default).quota=0/\∃ o,getA l (l.getD k default).origin=some o/\o.kind=1
 live:(l.getD k default).kind=1->(l.getD k default).origin=0\/∃ o,getA l (l.getD k default).origin=some o/\o.kind=2
theorem MayL.setB{l:List Dset}(h:MayL l){k:Nat}(hk:k<l.length):SetB l k:=by
 have hm:=h.each _ (ai0 hk);refine⟨hm.id,?_,hm.files,hm.quota,hm.kinds,λe=>?_,λe=>?_⟩
 ·rcases e0j k with e|e
  ·exact .inl e
  ·exact .inr (h.lt om hk)
 ·obtain⟨h1,o,ho,hi,hk⟩:=hm.snap e;exact⟨h1,o,by rw[<-hi];exact h.find ho,hk⟩
 ·rcases hm.live e with h1|⟨o,ho,hi,hk⟩
  ·exact .inl h1
  ·exact .inr ⟨o,by rw[<-hi];exact h.find ho,hk⟩
section
variable {l:List Dset} (hB:∀ k,k<l.length->SetB l k)
include hB
theorem a7v:∀ (j i:Nat),i<j->j<l.length->(l.getD i default).id<(l.getD j default).id
 |0,i,hi,_=>by omega
 |j+1,i,hi,hj=>by
   have h1:(l.getD j default).id<(l.getD (j+1) default).id:=by
    rcases(hB (j+1) hj).sorted with e|e
    ·omega
    ·exact e
   rcases e2l i j with h2|h2
   ·have:=a7v j i h2 om;omega
   ·have:i=j:=om;subst this;exact h1
theorem cz1{i j:Nat}(hi:i<l.length)(hj:j<l.length)(e:(l.getD i default).id=(l.getD j default).id):i=j:=by
 rcases Nat.lt_trichotomy i j with hh|hh|hh
 ·have:=a7v hB j i hh hj;omega
 ·exact hh
 ·have:=a7v hB i j hh hi;omega
theorem ag2{d:Dset}(hd:d∈l):getA l d.id=some d:=by
 obtain⟨i,hi,rfl⟩:=Uh hd;rcases a8c (l:=l) (i:=(l.getD i default).id)with ⟨e,hn⟩|⟨k,e,hk,hid,_⟩
 ·exact absurd rfl (hn i hi)
 ·rw[e,cz1 hB hk hi hid]
theorem Un{d:Dset}(hd:d∈l):1<=d.id:=by
 obtain⟨i,hi,rfl⟩:=Uh hd
 exact(hB i hi).id.1
theorem b30:G4 l Gp=Gp:=by
 unfold G4;rw[show Gp.origin=0 from rfl,bc0 λd hd e=>by have:=Un hB hd;omega];rfl
theorem ao5:∀ m,Co l m Gp=Gp
 |0=>rfl
 |m+1=>by
   show Co l m (G4 l _)=_;rw[b30 hB];exact ao5 m
omit hB in
theorem c1b(d:Dset):G4 l d=Gp\/(G4 l d∈l/\(G4 l d).id=d.origin):=by
 unfold G4;cases hg:getA l d.origin with
 |none=>exact .inl rfl
 |some o=>exact .inr (Ql hg)
omit hB in
theorem az8{d:Dset}(hd:d∈l):∀ m,Co l m d=Gp\/Co l m d∈l
 |0=>.inr hd
 |m+1=>by
   rw[a1s];rcases c1b (l:=l) (Co l m d)with h|h
   ·exact .inl h
   ·exact .inr h.1
theorem b9x{d:Dset}(hd:d∈l){m:Nat}(h:(Co l m d).id=0):∀ n,m<=n->(Co l n d).id=0:=by
 have hz:Co l m d=Gp:=by
  rcases az8 hd m with e|e
  ·exact e
  ·have:=Un hB e;omega
 intro n hn
 induction n with
 |zero=>have:m=0:=om
        subst this;exact h
 |succ n ih=>
   rcases e2l m (n+1)with h1|h1
   ·have h2:=ih om;rw[a1s];have:Co l n d=Gp:=by
     rcases az8 hd n with e|e
     ·exact e
     ·have:=Un hB e;omega
    rw[this,b30 hB];rfl
   ·have:m=n+1:=om;subst this;exact h
theorem b7u(h8:l.length<=8)(N:Nat)(hout:∀ d∈l,(Co l N d).id=0):MayL l:=by
 refine⟨h8,?_,λd hd=>?_,?_⟩
 ·rw[List.pairwise_iff_getElem];intro i j hi hj hij
  have:=a7v hB j i hij hj;rw[dx5,dy1 hi,dx5,dy1 hj]at this;exact this
 ·obtain⟨k,hk,rfl⟩:=Uh hd;have b:=hB k hk;refine⟨b.id,b.quota,b.files,b.kinds,λe=>?_,λe=>?_⟩
  ·obtain⟨h1,o,ho,hok⟩:=b.snap e;exact⟨h1,o,(Ql ho).1,(Ql ho).2,hok⟩
  ·rcases b.live e with h1|⟨o,ho,hok⟩
   ·exact .inl h1
   ·exact .inr ⟨o,(Ql ho).1,(Ql ho).2,hok⟩
 ·refine⟨λi=>match getA l i with|some d=>(List.range N).countP λm=>decide ((Co l m d).id≠0)|none=>0,λd hd o ho e=>?_⟩;simp only;rw[ag2 hB hd,ag2 hB ho];simp only;have hs:G4 l d=o:=by
   unfold G4;rw[<-e,ag2 hB ho];rfl
  have h1:(List.range (N+1)).countP (λm=>decide ((Co l m d).id≠0))=(List.range N).countP (λm=>decide ((Co l m d).id≠0)):=by
   rw[List.range_succ,List.countP_append]
   have:=hout d hd;simp[this]
  have h2:(List.range (N+1)).countP (λm=>decide ((Co l m d).id≠0))=(List.range N).countP (λm=>decide ((Co l m o).id≠0))+1:=by
   rw[List.range_succ_eq_map,List.countP_cons,List.countP_map];have hd0:(Co l 0 d).id≠0:=(by have:=Un hB hd;show d.id≠0;omega);rw[if_pos (by simpa using hd0)]
   congr 1
   apply List.countP_congr;intro m _;show decide ((Co l m (G4 l d)).id≠0)=true↔_;rw[hs]
  omega
end
def Kr(l:List Dset)(i:Int):Nat->Int->Bool
 |0,_=>false
 |n+1,a=>match getA l a with
   |none=>false
   |some o=>if o.origin=i then true else Kr l i n o.origin
theorem MayL.noRound{l:List Dset}(h:MayL l){d:Dset}(hd:d∈l):∀ n,Kr l d.id n d.id=false:=by
 obtain⟨r,hr⟩:=h.tree;have g:∀ n a,(∀ o,getA l a=some o->r a<=r d.id)->Kr l d.id n a=false:=by
  intro n
  induction n with
  |zero=>intro a _;rfl
  |succ n ih=>
    intro a ha;unfold Kr;cases hg:getA l a with
    |none=>rfl
    |some o=>
      obtain⟨ho,hoi⟩:=Ql hg;have h1:=ha o hg;simp only;have hne:¬ o.origin=d.id:=λe=>by
       have:=hr o ho d hd e.symm;rw[hoi]at this;omega
      rw[if_neg hne];refine ih _ λo' hg'=>?_;obtain⟨ho',hoi'⟩:=Ql hg'
      have:=hr o ho o' ho' hoi';rw[hoi,hoi']at this;omega
 exact λn=>g n d.id λo hg=>e2z _
theorem b5c{l:List Dset}(hB:∀ k,k<l.length->SetB l k){i:Int}(hi:i≠0):∀ (n:Nat) (e:Dset) (a:Int),getA l a=some e->(∃ p,1<=p/\p<=n/\(Co l p e).id=i)->Kr l i n a=true
 |0,e,a,_,⟨p,h1,h2,_⟩=>by omega
 |n+1,e,a,hg,⟨p,h1,h2,h3⟩=>by
   unfold Kr;rw[hg];simp only;by_cases h4:e.origin=i
   ·rw[if_pos h4]
   ·rw[if_neg h4];obtain⟨q,rfl⟩:∃ q,p=q+1:=⟨p-1,by omega⟩;have h5:(Co l q (G4 l e)).id=i:=h3;unfold G4 at h5;cases hg2:getA l e.origin with
    |none=>
      rw[hg2]at h5;rw[show(Option.none:Option Dset).getD Gp=Gp from rfl,ao5 hB]at h5;exact absurd h5.symm hi
    |some e' =>
      rw[hg2]at h5;refine b5c hB hi n e' e.origin hg2 ⟨q,?_,by omega,h5⟩;rcases e0j q with h6|h6
      ·subst h6;exact absurd ((Ql hg2).2.symm.trans h5) h4
      ·exact h6
theorem b9y(l:List Dset):∀ (a b:Nat) (d:Dset),Co l (a+b) d=Co l b (Co l a d)
 |0,b,d=>by rw[e2s];rfl
 |a+1,b,d=>by rw[show a+1+b=(a+b)+1 by omega];exact b9y l a b _
theorem ct9(l:List Dset)(p:Nat)(d:Dset):Co l p (G4 l d)=G4 l (Co l p d):=a1s l p d
theorem b6r{l:List Dset}(hB:∀ k,k<l.length->SetB l k)(hr:∀ d∈l,d.kind=1->d.origin≠0->Kr l d.id l.length d.id=false):∀ d∈l,(Co l l.length d).id=0:=by
 intro d hd;apply dx9;intro hne;have hin:∀ m,m<=l.length->Co l m d∈l:=λm hm=>by
  rcases az8 hd m with e|e
  ·exact absurd (b9x hB hd (m:=m) (by rw[e];rfl) _ hm) hne
  ·exact e
 have hidx:∀ m,∃ k,m<=l.length->k<l.length/\l.getD k default=Co l m d:=λm=>by
  by_cases hm:m<=l.length
  ·obtain⟨k,hk,e⟩:=Uh (hin m hm);exact⟨k,λ_=>⟨hk,e⟩⟩
  ·exact⟨0,λh=>absurd h hm⟩
 obtain⟨f,hf⟩:=Classical.axiomOfChoice hidx;obtain⟨a,b,hab,hb,hfe⟩:=b6k l.length f λi hi=>(hf i hi).1;have hcyc:Co l a d=Co l b d:=by rw[<-(hf a om).2,<-(hf b hb).2,hfe]
 have hmem:=hin a om;have hper:Co l (b-a) (Co l a d)=Co l a d:=by
  rw[<-b9y,show a+(b-a)=b by omega];exact hcyc.symm
 have key:∀ e∈l,Co l (b-a) e=e->e.kind=1->False:=by
  intro e he hpe hk;have he0:e.origin≠0:=λh0=>by
   have h1:G4 l e=Gp:=by
    unfold G4;rw[h0,bc0 λx hx q=>by have:=Un hB hx;omega];rfl
   obtain⟨q,hq⟩:∃ q,b-a=q+1:=⟨b-a-1,by omega⟩;rw[hq]at hpe;have h2:Co l q (G4 l e)=e:=hpe;rw[h1,ao5 hB]at h2
   have:=Un hB he;rw[<-h2]at this;exact absurd this (by decide)
  have h3:=hr e he hk he0;rw[b5c hB (by have:=Un hB he;omega) l.length e e.id (ag2 hB he) ⟨b-a,by omega,by omega,by rw[hpe]⟩]at h3;cases h3
 obtain⟨k,hk,hke⟩:=Uh hmem;have bk:=hB k hk;rcases bk.kinds with h1|h1
 ·rw[hke]at h1;exact key _ hmem hper h1
 ·obtain⟨_,o,ho,hok⟩:=bk.snap h1;rw[hke]at ho;have hs:G4 l (Co l a d)=o:=by unfold G4;rw[ho];rfl
  refine key o (Ql ho).1 ?_ hok;rw[<-hs,ct9,hper]
def Hi(l:List Dset)(i kind:Int):Bool:=match getA l i with
 |some o=>decide (o.kind=kind)
 |none=>false
def Ug(l:List Dset)(d:Dset):Bool:=(decide (1<=d.id)&&decide (d.id<=65535)&&mayNodes (els d.files)&&decide (0<=d.quota)&&decide (d.quota<=255)) &&
 (if d.kind=1 then decide (d.origin=0)||(Hi l d.origin 2&&!Kr l d.id l.length d.id)else if d.kind=2 then decide (d.quota=0)&&Hi l d.origin 1 else false)
def Q3(l:List Dset):Int->List Dset->Bool
 |_,[]=>true
 |last,d::r=>decide (last<d.id)&&Ug l d&&Q3 l d.id r
def P4(l:List Dset):Bool:=Q3 l 0 l&&decide (l.length<=8)
def D0(l:List Dset)(k:Nat):Bool:=decide (1<=(l.getD k default).id)&&decide ((l.getD k default).id<=65535)&&(decide (k=0)||decide ((l.getD (k-1) default).id<(l.getD k default).id))&&mayNodes (els (l.getD k default).files)&&decide (0<=(l.getD k default).quota)&&decide ((l.getD k default).quota<=255) &&
 (if(l.getD k default).kind=2 then decide ((l.getD k default).quota=0)&&Hi l (l.getD k default).origin 1 else if(l.getD k default).kind=1 then decide ((l.getD k default).origin=0)||Hi l (l.getD k default).origin 2 else false)
def Kx(l:List Dset):Bool:=decide (l.length<=8)&&((List.range l.length).all (D0 l)&&l.all λd=>decide ((Co l (2*l.length+1) d).id=0))
theorem Jo{l:List Dset}{i k:Int}:Hi l i k=true↔∃ o,getA l i=some o/\o.kind=k:=by
 unfold Hi;cases getA l i with
 |none=>simp
 |some o=>simp
theorem c2g{l:List Dset}{k:Nat}:D0 l k=true↔SetB l k:=by
 unfold D0;simp only[e14,e0r,e1v];constructor
 ·rintro⟨⟨⟨⟨⟨⟨h1,h2⟩,h3⟩,h4⟩,h5⟩,h6⟩,h7⟩;have hk:(l.getD k default).kind=1\/(l.getD k default).kind=2:=by
   split at h7
   ·rename_i h;exact .inr h
   ·split at h7
    ·rename_i h;exact .inl h
    ·cases h7
  refine⟨⟨h1,h2⟩,h3,h4,⟨h5,h6⟩,hk,λe=>?_,λe=>?_⟩
  ·rw[if_pos e]at h7;simp only[e14,e0r]at h7;exact⟨h7.1,Jo.1 h7.2⟩
  ·rw[if_neg om,if_pos e]at h7;simp only[e1v,e0r]at h7;exact h7.imp id Jo.1
 ·intro h;refine⟨⟨⟨⟨⟨⟨h.id.1,h.id.2⟩,h.sorted⟩,h.files⟩,h.quota.1⟩,h.quota.2⟩,?_⟩;rcases h.kinds with e|e
  ·rw[if_neg om,if_pos e];simp only[e1v,e0r]
   exact(h.live e).imp id Jo.2
  ·rw[if_pos e];simp only[e14,e0r];exact⟨(h.snap e).1,Jo.2 (h.snap e).2⟩
theorem c99{l:List Dset}:Kx l=true↔MayL l:=by
 unfold Kx;simp only[e14,e0r,e16,e24,c2g];constructor
 ·rintro⟨h8,hB,ho⟩;exact b7u hB h8 _ ho
 ·intro h;have hB:∀ k,k<l.length->SetB l k:=λk hk=>h.setB hk;refine⟨h.len,hB,λd hd=>b9x hB hd (b6r hB (λd hd _ _=>h.noRound hd _) d hd) _ om⟩
theorem b5d(L:List Dset):∀ (l:List Dset) (last:Int),Q3 L last l=true↔(∀ d∈l,Ug L d=true)/\∀ k,k<l.length->(if k=0 then last else(l.getD (k-1) default).id)<(l.getD k default).id
 |[],last=>by simp[Q3]
 |d::l,last=>by
   rw[Q3];simp only[e14,e0r,b5d L l d.id,e2g,forall_eq_or_imp];constructor
   ·rintro⟨⟨h1,h2⟩,h3,h4⟩;refine⟨⟨h2,h3⟩,λk hk=>?_⟩;cases k with
    |zero=>simpa using h1
    |succ k=>
      have:=h4 k (by simpa using hk);cases k with
      |zero=>simpa using this
      |succ k=>simpa using this
   ·rintro⟨⟨h2,h3⟩,h4⟩;refine⟨⟨by simpa using h4 0 (by simp),h2⟩,h3,λk hk=>?_⟩
    have:=h4 (k+1) (by simpa using hk);cases k with
    |zero=>simpa using this
    |succ k=>simpa using this
theorem c98{l:List Dset}:P4 l=true↔MayL l:=by
 unfold P4;rw[e14,e0r,b5d];have mem:∀ {d:Dset},Ug l d=true↔((1<=d.id/\d.id<=65535)/\mayNodes (els d.files)=true/\(0<=d.quota/\d.quota<=255))/\(d.kind=1/\(d.origin=0\/Hi l d.origin 2=true/\Kr l d.id l.length d.id=false)\/d.kind=2/\d.quota=0/\Hi l d.origin 1=true):=by
  intro d;unfold Ug;by_cases h1:d.kind=1
  ·rw[if_pos h1];simp only[e14,e0r,e1v,e0w,h1];constructor
   ·rintro⟨⟨⟨⟨⟨a,b⟩,c⟩,d'⟩,e⟩,f⟩;exact⟨⟨⟨a,b⟩,c,d',e⟩,.inl ⟨trivial,f⟩⟩
   ·rintro⟨⟨⟨a,b⟩,c,d',e⟩,⟨_,f⟩|⟨f,_⟩⟩
    ·exact⟨⟨⟨⟨⟨a,b⟩,c⟩,d'⟩,e⟩,f⟩
    ·omega
  ·rw[if_neg h1];by_cases h2:d.kind=2
   ·rw[if_pos h2];simp only[e14,e0r,h2];constructor
    ·rintro⟨⟨⟨⟨⟨a,b⟩,c⟩,d'⟩,e⟩,f⟩;exact⟨⟨⟨a,b⟩,c,d',e⟩,.inr ⟨trivial,f⟩⟩
    ·rintro⟨⟨⟨a,b⟩,c,d',e⟩,⟨f,_⟩|⟨_,f⟩⟩
     ·omega
     ·exact⟨⟨⟨⟨⟨a,b⟩,c⟩,d'⟩,e⟩,f⟩
   ·rw[if_neg h2];constructor
    ·intro h;simp at h
    ·rintro⟨_,⟨h,_⟩|⟨h,_⟩⟩
     ·exact absurd h h1
     ·exact absurd h h2
 constructor
 ·rintro⟨⟨hm,hs⟩,h8⟩;have hB:∀ k,k<l.length->SetB l k:=λk hk=>by
   have h:=mem.1 (hm _ (ai0 hk));refine⟨h.1.1,?_,h.1.2.1,h.1.2.2,?_,λe=>?_,λe=>?_⟩
   ·by_cases h0:k=0
    ·exact .inl h0
    ·have:=hs k hk;rw[if_neg h0]at this;exact .inr this
   ·rcases h.2 with h|h
    ·exact .inl h.1
    ·exact .inr h.1
   ·rcases h.2 with h|h
    ·omega
    ·exact⟨h.2.1,Jo.1 h.2.2⟩
   ·rcases h.2 with h|h
    ·exact h.2.imp id λh=>Jo.1 h.1
    ·omega
  refine b7u hB h8 _ (b6r hB λd hd hk ho=>?_)
  rcases(mem.1 (hm d hd)).2 with h|h
  ·rcases h.2 with h|h
   ·exact absurd h ho
   ·exact h.2
  ·omega
 ·intro h;refine⟨⟨λd hd=>?_,λk hk=>?_⟩,h.len⟩
  ·obtain⟨k,hk,rfl⟩:=Uh hd;have b:=h.setB hk;refine mem.2 ⟨⟨b.id,b.files,b.quota⟩,?_⟩;rcases b.kinds with e|e
   ·exact .inl ⟨e,(b.live e).imp id λx=>⟨Jo.2 x,h.noRound hd _⟩⟩
   ·exact .inr ⟨e,(b.snap e).1,Jo.2 (b.snap e).2⟩
  ·split
   ·have:=(h.setB hk).id.1;omega
   ·rename_i h0;exact h.lt om hk
theorem c97(l:List Dset):P4 l=Kx l:=by rw[e1x,c98,c99]
end
structure ViewL where
 r:Root
 s:SpaceL
 sets:List Dset
 set:List Ptr
 node:List (List Ptr)
 part:List (List Ptr)
 deriving Inhabited
def Hx(x:DsetH)(f:List Node):Dset:=⟨x.id,x.kind,x.origin,x.quota,some f⟩
def Ab(n:Nat):List Ptr:=List.replicate n Bb
def P1(d:Dev)(size:Int)(k:Nat)(p:Ptr):Bytes×Nat:=if p=Bb then(zs 32,0)else match Iv d p 1 with
 |some s=>if s.length=32/\s≠zs 32/\((s.drop (size-32*k).toNat).all λc=>decide (c=0))=true then(s,0)else(zs 32,2 ^ k)
 |none=>(zs 32,2 ^ k)
def H6(d:Dev)(size:Int):Nat->List Ptr->Bytes×Nat
 |_,[]=>([],0)
 |k,p::l=>((P1 d size k p).1++(H6 d size (k+1) l).1,(P1 d size k p).2+(H6 d size (k+1) l).2)
def b21(d:Dev)(size:Int)(l:List Ptr):Bytes×Nat:=((H6 d size 0 l).1.take size.toNat,(H6 d size 0 l).2)
theorem b6o(d:Dev)(size:Int)(k:Nat)(p:Ptr):(P1 d size k p).1.length=32:=by
 unfold P1;split
 ·simp[zs]
 ·split
  ·split
   ·rename_i h;exact h.1
   ·simp[zs]
  ·simp[zs]
theorem b20(d:Dev)(size:Int):∀ (k:Nat) (l:List Ptr),(H6 d size k l).1.length=32*l.length
 |_,[]=>rfl
 |k,p::l=>by rw[H6,e0l,b6o,b20 d size (k+1) l,e15];omega
def S5(x:NodeH)(b:Bytes×Nat):Node:=⟨x.kind,x.up,x.name,b.1,b.2⟩
def Tn:NodeH:=⟨2,0,[]⟩
def S3(d:Dev)(n:Nat)(p:Ptr):Option (Node×List Ptr):=match (Iv d p 2).bind Q1 with
 |some (x,size,l)=>if(if n=0 then decide (x=Tn)&&decide (size=0)&&l.all (λp=>decide (p=Bb))else mayName x.name)=true then some (S5 x (b21 d size l),l)else none
 |none=>none
def Q2(d:Dev)(n:Nat)(p:Ptr):Node×List Ptr×Bool:=if n=0\/p≠Bb then match S3 d n p with
    |some (x,l)=>(x,l,decide (x.bad≠0))
    |none=>(if n=0 then foldN else lostN,Ab 4,true)
 else(node0,Ab 4,false)
def Ip(d:Dev):Nat->List Ptr->List (Node×List Ptr×Bool)
 |_,[]=>[]
 |n,p::l=>Q2 d n p::Ip d (n+1) l
structure FilesR where
 set:List Node
 node:List Ptr
 part:List Ptr
 torn:Bool
 deriving Inhabited
def S9:List Node:=[foldN,lostN,lostN,lostN,lostN,lostN,lostN,lostN]
def a2x(l:List Ptr)(g:List (Node×List Ptr×Bool)):FilesR:=
 if H7 (g.map (·.1))=true then⟨g.map (·.1),l,(g.map (·.2.1)).flatten,g.any (·.2.2)⟩else⟨S9,l,(g.map (·.2.1)).flatten,true⟩
def Bj(d:Dev)(p:Ptr):FilesR:=match (Iv d p 3).bind Ts with
 |none=>⟨S9,Ab 8,Ab 32,true⟩
 |some l=>a2x l (Ip d 0 l)
def N2(d:Dev)(at':Ptr):Option (Root×List DsetH×List Ptr):=match (Iv d at' 6).bind a00 with
 |some r=>if r.txg=at'.birth then((Iv d r.table 4).bind Ov).map λq=>(r,q.1,q.2)else none
 |none=>none
def Jw(q:Root×List DsetH×List Ptr)(s:SpaceL)(f:List FilesR):ViewL:=⟨q.1,s,List.zipWith (λx f=>Hx x f.set) q.2.1 f,q.2.2,f.map (·.node),f.map (·.part)⟩
def Rv(d:Dev)(at':Ptr):Option ViewL:=(N2 d at').map λq=>Jw q ⟨[],[],[],[]⟩ (q.2.2.map (Bj d))
def Lk(d:Dev)(at':Ptr):Option ViewL:=match N2 d at' with
 |some q=>if(q.2.2.map (Bj d)).any (·.torn)=false/\P4 (Jw q ⟨[],[],[],[]⟩ (q.2.2.map (Bj d))).sets=true then
  ((Iv d q.1.space 5).bind (Pz (Hl d))).map λs=>Jw q s (q.2.2.map (Bj d))else none
 |none=>none
theorem c0j{s:Bytes}{l:List DsetH}{p:List Ptr}(h:Ov s=some (l,p)):l.length=p.length/\l.length<=8/\M0 0 l p=true:=by
 have e:=c0h h;unfold Fx at e;split at e
 ·rename_i hc;exact⟨hc.2.1,hc.1,hc.2.2⟩
 ·subst e;exact absurd h (by rw[show Ov []=none from by decide];simp)
theorem b37{d:Dev}{at':Ptr}{v:ViewL}(h:Lk d at'=some v):∃ w,Rv d at'=some w/\{ w with s:=v.s }=v/\P4 v.sets=true/\v.r.txg=at'.birth:=by
 unfold Lk at h;split at h
 ·rename_i q hq;split at h
  ·rename_i hc;obtain⟨s,hs,e⟩:=dz0.1 h;refine⟨_,by unfold Rv;rw[hq];rfl,?_,?_,?_⟩
   ·rw[<-e];rfl
   ·rw[<-e];exact hc.2
   ·rw[<-e];show q.1.txg=_;unfold N2 at hq;split at hq
    ·split at hq
     ·rename_i ht;obtain⟨x,_,e⟩:=dz0.1 hq;rw[<-e];exact ht
     ·cases hq
    ·cases hq
  ·cases h
 ·cases h
theorem b3r:H7 S9=true:=by decide
theorem c4v(d:Dev)(p:Ptr):H7 (Bj d p).set=true:=by
 unfold Bj;split
 ·exact b3r
 ·unfold a2x;split
  ·rename_i h;exact h
  ·exact b3r
theorem c3g{d:Dev}{at':Ptr}{v:ViewL}(h:Rv d at'=some v):∀ x∈v.sets,H7 (els x.files)=true:=by
 obtain⟨q,hq,rfl⟩:=dz0.1 h;intro x hx;simp only[Jw]at hx;obtain⟨a,b,_,hb,rfl⟩:∃ a b,a∈q.2.1/\b∈q.2.2.map (Bj d)/\Hx a b.set=x:=by
  have:∀ (l:List DsetH) (m:List FilesR),x∈List.zipWith (λx f=>Hx x f.set) l m->∃ a b,a∈l/\b∈m/\Hx a b.set=x:=by
   intro l
   induction l with
   |nil=>intro m h;simp at h
   |cons a l ih=>
     intro m h;cases m with
     |nil=>simp at h
     |cons b m=>
       rw[List.zipWith_cons_cons,e2g]at h;rcases h with h|h
       ·exact⟨a,b,by simp,by simp,h.symm⟩
       ·obtain⟨a',b',h1,h2,h3⟩:=ih m h;exact⟨a',b',by simp[h1],by simp[h2],h3⟩
  exact this _ _ hx
 obtain⟨p,_,rfl⟩:=e2r.1 hb;exact c4v d p
theorem ar2{s:Bytes}{x:NodeH}{size:Int}{l:List Ptr}(h:Q1 s=some (x,size,l)):((x.kind=1\/x.kind=2)/\0<=x.up/\x.up<8/\x.name.length<=8)/\(0<=size/\size<=128/\l.length=4/\l.all Bt=true):=by
 have e:=c0w h;unfold Dv at e;split at e
 ·assumption
 ·subst e;exact absurd h (by rw[show Q1 []=none from by decide];simp)
theorem b7h{s:List Node}(h:mayNodes s=true):Cx s=s:=by
 unfold mayNodes at h;simp only[e14,e0r,e16]at h;obtain⟨⟨⟨h8,htop⟩,hal⟩,_⟩:=h;have key:∀ n,n<8->¬ ((s.getD n default).kind=1/\0<(s.getD n default).bad/\(s.getD n default).bad<=15)/\¬ (s.getD n default=lostN/\0<n):=by
  intro n hn;rcases e0j n with h0|h0
  ·subst h0;rw[htop];exact⟨by simp[foldN],by omega⟩
  ·have hm:s.getD n default∈s.drop 1:=by
    rw[dz5];refine⟨n-1,?_⟩;rw[e0g,show 1+(n-1)=n by omega,dx5,dy1 om];rfl
   have:=hal _ hm;simp only[e1v,e0r]at this;rcases this with e|e
   ·rw[e];exact⟨by simp[node0],by simp[node0,lostN]⟩
   ·simp only[Ih,e14,e0r]at e;refine⟨by omega,?_⟩;rintro⟨e2,_⟩;rw[e2]at e;simp[lostN]at e
 have go:∀ n,n<=8->D1 s n=s:=by
  intro n
  induction n with
  |zero=>intro _;rfl
  |succ n ih=>
    intro hn;rw[D1,ih om,O2,if_neg (key n om).1,if_neg (key n om).2]
 rw[Cx,h8];exact go 8 (e2z 8)
theorem c96{s:List Node}(h:mayNodes s=true):H7 s=true:=by rw[<-aq5,b7h h];exact h

section
variable {orc:CallF} {lk:FuncId->Bool}
def Dp(n:Int):List PV:=[.int .i64 n]
def Bh(s:Bytes):List PV:=[.str s]
def Fi(c:UInt8):Nat:=c.toNat-48
theorem b4y(form:Bytes)(hl:form.length<=1000000)(H:AH):K tab orc lk 159 [.str form] H=some (match Gl form with
 |some ks=>.tuple [.fz (ks.map λ(k:Nat)=>Dp k),.int .i64 ks.sum,.bool true]
 |none=>.tuple [.emp,.int .i64 0,.bool false],H):=by
 refine Ah co8 rfl rfl (by split<;>rfl) ?_ H;simp only[ad3,t0,seval];generalize hr:Ad _ _ _=r;refine B7 hr form.length (λj=>[.top,.own 1 1 0 j j,.int .i64 ((form.take j).map Fi).sum,.top,.top,.top,.own 0 1 0 form.length form.length,.int .i64 form.length,.int .i64 j,.top,.top,.top,.top,.top])
  (λj=>[some (form.map λb=>[.int .u8 b.toNat]),some ((form.take j).map λb=>[.int .i64 (Fi b)])])
  (λj=>Gl form=(Gl (form.drop j)).map ((form.take j).map Fi++·)) ?_ ?_ ?_ ?_ ?_
 ·simp
 ·simp
 ·simp
 ·intro j hj hI;have hj':((j:Int)<(form.length:Int)):=om;have hb:=b4f Fi 255 (λc=>by have:=c.toNat_lt;unfold Fi;omega) (form.take j);rw[e1f]at hb;have hc:=(form.getD j default).toNat_lt
  simp(disch:=omega)only[t0,seval,e1q,e1f,hj',e2b,G9,Nat.min_eq_left];clear hr;have ht:=En hj;rw[Ew hj,Gl]at hI;generalize form.getD j default=c at *;have hz:Vz c=if(decide ((c.toNat:Int)-48<1)||decide (4<(c.toNat:Int)-48))=true then none else some (Fi c):=by
   unfold Vz Fi;by_cases h:49<=c.toNat/\c.toNat<=52
   ·rw[if_pos h,if_neg (by simp;omega)]
   ·rw[if_neg h,if_pos (by simp;omega)]
  rw[hz]at hI;refine⟨λh=>?_,λh=>?_⟩
  ·rw[if_pos h]at hI;simp only[hI,e1o]
  ·rw[if_neg h]at hI;have hs:((Fi c:Nat):Int)=(c.toNat:Int)-48:=by
    simp at h;unfold Fi;omega
   refine⟨?_,?_,?_⟩
   ·simp[ht,hs]
   ·simp[ht,hs]
   ·rw[hI,ht];cases Gl (form.drop (j+1))<;>simp
 ·intro hI
  simp(disch:=omega)only[t0,seval,e1g,e2k,<-List.map_take];simp only[e1h,Gl,e1p,e1g]at hI;simp[hI,Dp]
end
section
variable {orc:CallF} {lk:FuncId->Bool}
theorem a6l:∀ {l:Bytes} {ks:List Nat},Gl l=some ks->∀ k∈ks,1<=k/\k<=4
 |[],_,h,k,hk=>by cases h;cases hk
 |c::l,ks,h,k,hk=>by
   unfold Gl at h;split at h
   ·rename_i k0 ks0 h1 h2;cases h;rcases e2g.1 hk with rfl|hk
    ·unfold Vz at h1;split at h1
     ·cases h1;omega
     ·cases h1
    ·exact a6l h2 k hk
   ·cases h
theorem a6m:∀ {l:Bytes} {ks:List Nat},Gl l=some ks->ks.length=l.length
 |[],_,h=>by cases h;rfl
 |c::l,ks,h=>by
   unfold Gl at h;split at h
   ·rename_i k0 ks0 h1 h2;cases h;rw[e15,a6m h2,e15]
   ·cases h
theorem b6b:∀ (ks:List Nat) (l:List Int),(∀ k∈ks,1<=k/\k<=4)->(B6 ks l).length<=4*ks.length
 |[],_,_=>by simp[B6]
 |k::ks,[],_=>by simp[B6]
 |k::ks,n::l,h=>by
   have h1:=b6b ks l λk hk=>h k (e06 _ hk);have h2:=h k (by simp);rw[B6,e0l,Qz,e15];omega
theorem b25:∀ (k:Nat) (x:Int) (m:Nat),m<k->(Ea k x)[m]?=some (UInt8.ofNat (x/2 ^ (8*(k-1-m))%256).toNat)
 |k+1,x,0,_=>by simp[Ea]
 |k+1,x,m+1,h=>by
   have:=b25 k x m om;rw[Ea,dy5,this]
   congr 6;omega
theorem b34(y:Int):IntKind.u8.wrap y=((UInt8.ofNat (y%256).toNat).toNat:Int):=by
 rw[UInt8.toNat_ofNat',IntKind.wrap_u8];omega
theorem dc1(k:Nat)(x:Int)(m:Nat)(h:m<k)(hk:k<=4):((Ea k x).take (m+1)).map (λb=>[AV.int IntKind.u8 (b.toNat:Int)])=((Ea k x).take m).map (λb=>[AV.int IntKind.u8 (b.toNat:Int)])++[[AV.int IntKind.u8 (IntKind.u8.wrap (x.fdiv (2 ^ min (8*((k:Int)-1-m)).toNat IntKind.i64.bits)))]]:=by
 rw[e0y,b25 k x m h,b34];have e1:min (8*((k:Int)-1-m)).toNat IntKind.i64.bits=8*(k-1-m):=by
  have:IntKind.i64.bits=64:=rfl;omega
 rw[e1,Int.fdiv_eq_ediv_of_nonneg _ (Int.pow_nonneg om)];simp
theorem av9:∀ (ks:List Nat) (l:List Int) (k:Nat) (x:Int),ks.length=l.length->B6 (ks++[k]) (l++[x])=B6 ks l++Ea k x
 |[],[],k,x,_=>by simp[B6]
 |k0::ks,n::l,k,x,h=>by
   rw[e1b,e1b,B6,av9 ks l k x (by simpa using h),B6,e0x]
 |[],_::_,_,_,h=>by cases h
 |_::_,[],_,_,h=>by cases h
theorem c5g{ks:List Nat}{l:List Int}(h:ks.length=l.length){j:Nat}(hj:j<ks.length):B6 (ks.take (j+1)) (l.take (j+1))=B6 (ks.take j) (l.take j)++Ea (ks.getD j default) (l.getD j default):=by
 rw[En hj,En (h▸hj:j<l.length),av9 _ _ _ _ (by rw[e1f,e1f];omega)]
theorem Ry(form:Bytes)(hl:form.length<=1000000)(l:Sl Int)(H:AH):K tab orc lk 164 [.str form,A0 Dp l] H=some (.str (Nu form (els l)),H):=by
 refine Ah co2 rfl (by simp only[t0]) rfl ?_ H
 simp(disch:=omega)only[ac6,t0,seval,b4y];unfold Nu;cases hs:Gl form with
 |none=>simp(disch:=omega)only[t0,seval]
 |some ks=>
   simp(disch:=omega)only[t0,seval];by_cases h:ks.length=(els l).length
   ·rw[if_neg (by simp[h]),if_pos h];generalize hr:Ad _ _ _=r;refine B7 hr ks.length
     (λj=>[.top,.top,.top,.fz (ks.map λ(k:Nat)=>Dp k),.top,.top,.own 0 1 0 (B6 (ks.take j) ((els l).take j)).length (B6 (ks.take j) ((els l).take j)).length,.top,.top,.top,.top,.top,.top,.top,A0 Dp l,.int .i64 (els l).length,.int .i64 j,.top,.top,.top])
     (λj=>[some ((B6 (ks.take j) ((els l).take j)).map λb=>[.int .u8 b.toNat])]) (λ_=>True) ?_ ?_ trivial ?_ ?_
    ·simp[B6]
    ·simp[B6]
    ·intro j hj _;have hj':((j:Int)<((els l).length:Int)):=om;have hj2:j<(els l).length:=om;have hk:1<=ks.getD j default/\ks.getD j default<=4:=a6l hs _ (by rw[dx5,dy1 hj];exact e1c hj);have ht:=c5g h hj
     simp(disch:=omega)only[t0,seval,hj',Ax,Aa,e1q,Dp,e2b];clear hr;generalize hr:Ad _ _ _=r;generalize ks.getD j default=k at *
     generalize (els l).getD j default=x at *;have hkl:=a6m hs;have hb:=b6b (ks.take j) ((els l).take j) λk hk=>a6l hs k (e04 hk);rw[e1f]at hb;generalize B6 (ks.take j) ((els l).take j)=pre at *;refine G7 (Q:=λr=>Rd _ _ _ _ (F3 _ _ (Be _ _ (B0 _ (B0 _ r))))) hr k
      (λm=>[.top,.top,.top,.fz (ks.map λ(k:Nat)=>Dp k),.top,.top,.own 0 1 0 (pre++(Ea k x).take m).length (pre++(Ea k x).take m).length,.top,.int .i64 x,.int .i64 (k-1-m),.top,.top,.top,.top,A0 Dp l,.int .i64 (els l).length,.int .i64 j,.top,.top,.top])
      (λm=>[some ((pre++(Ea k x).take m).map λb=>[.int .u8 b.toNat])]) (λ_=>True) ?_ ?_ trivial ?_ ?_
     ·simp[Dp]
     ·simp
     ·intro m hm _;have hbl:((Ea k x).take m).length=m:=(by rw[e1f,Qz];omega);have hbl2:((Ea k x).take (m+1)).length=m+1:=by rw[e1f,Qz];omega
      simp(disch:=omega)only[t0,seval,e2b,hbl,hbl2,e1w,dc1 k x m hm hk.2,e0x];simp;omega
     ·intro _
      simp(disch:=omega)only[t0,seval,e2b,ht,Dp,dz1 (show(Ea k x).length<=k by rw[Qz];exact e2z k)];simp
    ·intro _
     simp(disch:=omega)only[t0,seval,e2b,<-h,e1g,e2k];rw[h,e1g]
   ·rw[if_pos (by simp;omega),if_neg h]
end
section
variable {orc:CallF} {lk:FuncId->Bool}
theorem b4e:∀ (ks:List Nat) (j:Nat),j<ks.length->(ks.take j).sum+ks.getD j default<=ks.sum
 |k::ks,0,_=>by simp
 |k::ks,j+1,h=>by
   have:=b4e ks j (by simpa using h);simp only[e08,e2i,e0d];omega
theorem bs5(b:Bytes)(x:UInt8):Bk (b++[x])=Bk b*256+x.toNat:=by simp[Bk,e12]
theorem b4b:∀ (ks:List Nat) (k:Nat) (s:Bytes),Bp (ks++[k]) s=Bp ks s++[Bk ((s.drop ks.sum).take k)]
 |[],k,s=>by simp[Bp]
 |k0::ks,k,s=>by rw[e1b,Bp,b4b ks k,Bp,e1b,e22,e2i]
theorem bs6{b:Bytes}(h:b.length<=3):Bk b<16777216:=by
 have h1:=Zv b;have h2:(2:Int) ^ (8*b.length)<=2 ^ 24:=by
  rcases(by omega:b.length=0\/b.length=1\/b.length=2\/b.length=3)with e|e|e|e<;>rw[e]<;>decide
 omega
theorem c6m(n:Int)(c:Nat)(h0:0<=n)(h1:n<16777216)(hc:c<2 ^ 8):IntKind.i64.wrap (((BitVec.ofInt IntKind.i64.bits (IntKind.i64.wrap (n*2 ^ min 8 IntKind.i64.bits)) ||| BitVec.ofInt IntKind.i64.bits (c:Int)).toNat:Nat):Int)=n*256+c:=by
 obtain⟨a,rfl⟩:∃ a:Nat,n=a:=⟨n.toNat,by omega⟩;have hb:IntKind.i64.bits=64:=rfl;rw[hb];have e0:(a:Int)*2 ^ min 8 64=((a*256:Nat):Int):=by simp
 have e3:IntKind.i64.wrap ((a*256:Nat):Int)=((a*256:Nat):Int):=e2b _ om;rw[e0,e3,BitVec.toNat_or,BitVec.toNat_ofInt,BitVec.toNat_ofInt];have e1:(((a*256:Nat):Int)%((2 ^ 64:Nat):Int)).toNat=a <<< 8:=by rw[Nat.shiftLeft_eq];omega
 have e2:((c:Int)%((2 ^ 64:Nat):Int)).toNat=c:=om;rw[e1,e2,<-Nat.shiftLeft_add_eq_or_of_lt hc a,Nat.shiftLeft_eq];have e4:IntKind.i64.wrap ((a*2 ^ 8+c:Nat):Int)=((a*2 ^ 8+c:Nat):Int):=e2b _ om;rw[e4];omega
theorem a6b:∀ (ks:List Nat) (s:Bytes),(Bp ks s).length=ks.length
 |[],_=>rfl
 |k::ks,s=>by rw[Bp,e15,a6b ks,e15]
def Ml(form s:Bytes):AV:=match Im form s with
 |some (l,r)=>.tuple [.fz (l.map Dp),.str r,.bool true]
 |none=>.tuple [.emp,.str [],.bool false]
theorem Q0(form:Bytes)(hl:form.length<=1000000)(s:Bytes)(H:AH):K tab orc lk 103 [.str form,.str s] H=some (Ml form s,H):=by
 refine Ah cs2 rfl rfl (by unfold Ml;split<;>rfl) ?_ H
 simp(disch:=omega)only[af4,t0,seval,b4y];unfold Ml Im;cases hs:Gl form with
 |none=>simp(disch:=omega)only[t0,seval]
 |some ks=>
   simp(disch:=omega)only[t0,seval];by_cases h:ks.sum<=s.length
   ·rw[if_neg (by simp;omega),if_pos h];generalize hr:Ad _ _ _=r;refine B7 hr ks.length
     (λj=>[.top,.str (s.drop (ks.take j).sum),.own 0 1 0 j j,.top,.top,.top,.top,.top,.top,.top,.top,.top,.top,.top,.fz (ks.map λ(k:Nat)=>Dp k),.int .i64 ks.length,.int .i64 j,.top,.top,.top,.top,.top,.top,.top])
     (λj=>[some ((Bp (ks.take j) s).map λn=>[.int .i64 n])]) (λ_=>True) ?_ ?_ trivial ?_ ?_
    ·simp
    ·simp[Bp]
    ·intro j hj _;have hj':((j:Int)<(ks.length:Int)):=om;have hk:1<=ks.getD j default/\ks.getD j default<=4:=a6l hs _ (by rw[dx5,dy1 hj];exact e1c hj);have hsum:(ks.take j).sum+ks.getD j default<=ks.sum:=b4e ks j hj
     simp(disch:=omega)only[t0,seval,hj',Ax,Aa,e1q,Dp,e2b,e19];clear hr;have ht:ks.take (j+1)=ks.take j++[ks.getD j default]:=En hj;rw[ht,b4b,List.sum_append,e2i,List.sum_nil,e2p,<-e22];generalize ks.getD j default=k at *;generalize hpre:Bp (ks.take j) s=pre at *;have hpl:pre.length=j:=(by rw[<-hpre,a6b,e1f];omega);have htl:k<=(s.drop (ks.take j).sum).length:=(by rw[e19];omega);generalize s.drop (ks.take j).sum=t at *;have hcl:(t.take k).length=k:=(by rw[e1f];omega);have hks:=a6m hs;generalize hr:Ad _ _ _=r;refine G7 (Q:=λr=>Rd _ _ _ _ (F3 _ _ (Be _ _ (B0 _ (Be _ _ (B0 _ r)))))) hr k
      (λm=>[.top,.str t,.own 0 1 0 j j,.top,.top,.top,.top,.int .i64 k,.int .i64 (Bk ((t.take k).take m)),.top,.top,.top,.top,.top,.fz (ks.map λ(k:Nat)=>Dp k),.int .i64 ks.length,.int .i64 j,.top,.own 1 1 0 k k,.int .i64 k,.int .i64 m,.top,.top,.top])
      (λm=>[some (pre.map λn=>[.int .i64 n]),some ((t.take k).map λb=>[.int .u8 b.toNat])]) (λ_=>True) ?_ ?_ trivial ?_ ?_
     ·simp[Dp,hcl,Bk]
     ·simp
     ·intro m hm _;have hm':((m:Int)<(k:Int)):=om;have hm2:m<(t.take k).length:=om;have h0:=Rm ((t.take k).take m);have h1:=bs6 (b:=(t.take k).take m) (by rw[e1f];omega);have hmt:(t.take k).take (m+1)=(t.take k).take m++[(t.take k).getD m default]:=En hm2;have hc:=((t.take k).getD m default).toNat_lt;rw[hmt,bs5]
      simp(disch:=omega)only[t0,seval,e2b,hm',e1q,G9,c6m];simp
     ·intro _
      simp(disch:=try exact dz)only[t0,seval,e2b,e2k,e1q];clear hr;simp[Dp,List.take_take]
    ·intro _
     simp(disch:=omega)only[t0,seval,e2b,e2k,e1g,a6b];have e:(Bp ks s).take ks.length=Bp ks s:=dz1 (by rw[a6b];exact e2z _);rw[<-List.map_take,e];rfl
   ·rw[if_pos (by simp;omega),if_neg h]
end
section
variable {orc:CallF} {lk:FuncId->Bool}
def Ae(p:Ptr):List PV:=[.int .i64 p.addr,.int .i64 p.birth,.int .u32 p.sum.a.toNat,.int .u32 p.sum.b.toNat,.int .u32 p.sum.c.toNat,.int .u32 p.sum.d.toNat]
def A7(p:Ptr):List AV:=[.int .i64 p.addr,.int .i64 p.birth,.int .u32 p.sum.a.toNat,.int .u32 p.sum.b.toNat,.int .u32 p.sum.c.toNat,.int .u32 p.sum.d.toNat]
theorem ap8{a b:UInt32}:((a.toNat:Int)=(b.toNat:Int))↔a=b:=by
 rw[Int.ofNat_inj,UInt32.toNat_inj]
theorem b7n(p:Ptr)(H:AH):K tab orc lk 160 [.agg (A7 p)] H=some (.bool (Bt p),H):=by
 refine Ah co6 rfl rfl rfl ?_ H
 simp(disch:=omega)only[ad0,t0,seval,A7];have z:∀ a:UInt32,(((a.toNat:Int)=0)↔a=0):=λa=>ap8 (b:=0);unfold Bt;by_cases h:p.addr=0
 ·rw[if_pos h,if_pos h];obtain⟨a,b,s1,s2,s3,s4⟩:=p;simp only[Bb,Ptr.mk.injEq,Sum.mk.injEq,z];simp
 ·rw[if_neg h,if_neg h];simp
theorem c8c(p:Ptr)(H:AH):K tab orc lk 229 [.agg (A7 p)] H=some (.fz ((a0y p).map Dp),H):=by
 have ha:=p.sum.a.toNat_lt;have hb:=p.sum.b.toNat_lt;have hc:=p.sum.c.toNat_lt;have hd:=p.sum.d.toNat_lt;refine Ah cl1 rfl rfl rfl ?_ H
 simp(disch:=omega)only[aa2,t0,seval,A7]
 iterate 5 (rw[Sc];simp(disch:=omega)only[t0,seval,e2b])
 rfl
theorem Q8(p:Ptr):(⟨p.addr,p.birth,⟨p.sum.a,p.sum.b,p.sum.c,p.sum.d⟩⟩:Ptr)=p:=rfl
theorem ax9(a b:Int)(c d e f:UInt32)(H:AH):K tab orc lk 160 [.agg [.int .i64 a,.int .i64 b,.int .u32 c.toNat,.int .u32 d.toNat,.int .u32 e.toNat,.int .u32 f.toNat]] H=some (.bool (Bt ⟨a,b,⟨c,d,e,f⟩⟩),H):=b7n ⟨a,b,⟨c,d,e,f⟩⟩ H
theorem c8d(a b:Int)(c d e f:UInt32)(H:AH):K tab orc lk 229 [.agg [.int .i64 a,.int .i64 b,.int .u32 c.toNat,.int .u32 d.toNat,.int .u32 e.toNat,.int .u32 f.toNat]] H=some (.fz ((a0y ⟨a,b,⟨c,d,e,f⟩⟩).map Dp),H):=c8c ⟨a,b,⟨c,d,e,f⟩⟩ H
end
section
variable {orc:CallF} {lk:FuncId->Bool}
theorem c5f(form:Bytes)(hl:form.length<=1000000)(l:List Int)(H:AH):K tab orc lk 164 [.str form,.fz (l.map Dp)] H=some (.str (Nu form l),H):=Ry form hl (some l) H
theorem c5j(p:Ptr):Nu [50,52,52,52,52,52] (a0y p)=Ed p:=rfl
theorem c86(a b:Int)(c d e f:UInt32)(H:AH):K tab orc lk 161 [.fz (([a,b,c.toNat,d.toNat,e.toNat,f.toNat]:List Int).map Dp)] H=some (.agg (A7 ⟨a,b,⟨c,d,e,f⟩⟩),H):=by
 have hc:=c.toNat_lt;have hd:=d.toNat_lt;have he:=e.toNat_lt;have hf:=f.toNat_lt;refine Ah co5 rfl rfl rfl ?_ H
 simp(disch:=try exact dz)only[ac9,t0,seval,Dp,if_pos,Gx]
 iterate 5 (rw[Sc];simp(disch:=omega)only[t0,seval,e2b,IntWalk.u32_in,Gx])
 rfl
theorem av8(l:Sl Ptr)(hl:(els l).length<=1000000)(H:AH):K tab orc lk 163 [A0 Ae l] H=some (.str (Er (els l)),H):=by
 refine Ah co3 rfl (by simp only[t0]) rfl ?_ H
 simp(disch:=omega)only[ac7,t0,seval];generalize hr:Ad _ _ _=r;refine B7 hr (els l).length
  (λj=>[.top,.top,.str (((els l).take j).map Ed).flatten,.top,A0 Ae l,.int .i64 (els l).length,.int .i64 j,.top,.top])
  (λj=>[]) (λj=>Er (els l)=if((els l).drop j).all Bt=true then(((els l).take j).map Ed).flatten++(((els l).drop j).map Ed).flatten else []) ?_ ?_ ?_ ?_ ?_
 ·simp
 ·simp
 ·simp[Er]
 ·intro j hj hI;have hj':((j:Int)<((els l).length:Int)):=om;have ht:=En hj;rw[Ew hj]at hI;have hlen:((((els l).take j).map Ed).flatten).length<=22*1000000:=by
   have:∀ m:List Ptr,((m.map Ed).flatten).length=22*m.length:=by
    intro m
    induction m with
    |nil=>rfl
    |cons p m ih=>rw[e2c,e0u,e0l,U9,ih,e15];omega
   rw[this,e1f];omega
  have hpl:=U9 ((els l).getD j default)
  simp(disch:=first|omega|decide)only[t0,seval,hj',Aa,Ae,ax9,c8d,Q8,c5f,c5j,e2b];clear hr
  generalize (els l).getD j default=p at *;refine⟨λh=>?_,λh=>?_⟩
  ·have h:Bt p=false:=(by simpa using h);rw[hI];simp[h]
  ·have h:Bt p=true:=(by simpa using h);refine⟨?_,?_⟩
   ·simp[ht]
   ·rw[hI,ht];simp[h]
 ·intro hI
  simp(disch:=omega)only[t0,seval,e2k];simp at hI;simp[hI]
end
section
variable {orc:CallF} {lk:FuncId->Bool}
theorem b4c(t:Bytes):Im [50,52,52,52,52,52] t=if 22<=t.length then some (Bp Fl t,t.drop 22)else none:=rfl
theorem a61{n:Int}(h0:0<=n)(h1:n<4294967296):(((UInt32.ofNat n.toNat).toNat:Nat):Int)=n:=by
 rw[UInt32.toNat_ofNat'];omega
theorem b73(t:Bytes)(H:AH):K tab orc lk 161 [.fz ((Bp Fl t).map Dp)] H=some (.agg (A7 (He (Bp Fl t))),H):=by
 have b4:∀ x:Bytes,0<=Bk (x.take 4)/\Bk (x.take 4)<4294967296:=by
  intro x;refine⟨Rm _,?_⟩;have h1:=Zv (x.take 4);have h2:(2:Int) ^ (8*(x.take 4).length)<=2 ^ 32:=by
   have h3:(x.take 4).length<=4:=by rw[e1f];omega
   rcases(by omega:(x.take 4).length=0\/(x.take 4).length=1\/(x.take 4).length=2\/(x.take 4).length=3\/(x.take 4).length=4)with e|e|e|e|e<;>rw[e]<;>decide
  omega
 simp only[Fl,Bp,He]
 have:=c86 (orc:=orc) (lk:=lk) (Bk (t.take 2)) (Bk ((t.drop 2).take 4)) (UInt32.ofNat (Bk (((t.drop 2).drop 4).take 4)).toNat) (UInt32.ofNat (Bk ((((t.drop 2).drop 4).drop 4).take 4)).toNat) (UInt32.ofNat (Bk (((((t.drop 2).drop 4).drop 4).drop 4).take 4)).toNat) (UInt32.ofNat (Bk ((((((t.drop 2).drop 4).drop 4).drop 4).drop 4).take 4)).toNat) H;rw[a61 (b4 _).1 (b4 _).2,a61 (b4 _).1 (b4 _).2,a61 (b4 _).1 (b4 _).2,a61 (b4 _).1 (b4 _).2]at this;exact this
theorem c0u(t:Bytes)(h:22<=t.length)(H:AH):K tab orc lk 103 [.str [50,52,52,52,52,52],.str t] H=some (.tuple [.fz ((Bp Fl t).map Dp),.str (t.drop 22),.bool true],H):=by
 rw[Q0 _ (by decide)];unfold Ml;rw[b4c,if_pos h]
theorem c0v(t:Bytes)(h:t.length<22)(H:AH):K tab orc lk 103 [.str [50,52,52,52,52,52],.str t] H=some (.tuple [.emp,.str [],.bool false],H):=by
 rw[Q0 _ (by decide)];unfold Ml;rw[b4c,if_neg om]
def Lx(s:Bytes)(j:Nat):List Ptr:=(List.range j).map λi=>He (Bp Fl (s.drop (22*i)))
theorem c5w(s:Bytes)(j:Nat):Lx s (j+1)=Lx s j++[He (Bp Fl (s.drop (22*j)))]:=by simp[Lx,List.range_succ]
def Py(n:Nat)(s:Bytes):AV:=match H8 n s with
 |some (l,r)=>.tuple [.fz (l.map Ae),.str r,.bool true]
 |none=>.tuple [.emp,.str [],.bool false]
theorem a6a(s:Bytes)(hs:s.length<=1000000)(n:Int)(hn:n<=1000000000)(H:AH):K tab orc lk 104 [.str s,.int .i64 n] H=some (Py n.toNat s,H):=by
 refine Ah cs1 rfl rfl (by unfold Py;split<;>rfl) ?_ H
 simp(disch:=omega)only[af3,t0,seval];generalize hr:Ad _ _ _=r;refine B7 hr n.toNat
  (λj=>[.str (s.drop (22*j)),.top,.own 0 6 0 j j,.top,.top,.top,.top,.top,.int .i64 (max n 0),.int .i64 j,.top,.top,.top,.top,.top,.top,.top,.top,.top])
  (λj=>[some ((Lx s j).map λp=>(Ae p).map emb)]) (λj=>22*j<=s.length/\H8 n.toNat s=(H8 (n.toNat-j) (s.drop (22*j))).map λq=>(Lx s j++q.1,q.2)) ?_ ?_ ?_ ?_ ?_
 ·simp;omega
 ·simp[Lx]
 ·refine⟨by omega,?_⟩;simp only[Lx,Nat.sub_zero,Nat.mul_zero,e23,List.range_zero,e2o,e1s];cases H8 n.toNat s<;>rfl
 ·rintro j hj ⟨hI1,hI⟩;have hj':((j:Int)<max n 0):=om;have hd:s.drop (22*(j+1))=(s.drop (22*j)).drop 22:=by rw[e22];congr 1
  have hl:=e19 (l:=s) (i:=22*j);rw[show n.toNat-j=(n.toNat-(j+1))+1 by omega,H8]at hI;rw[c5w,hd];have hpl:(Lx s j).length=j:=by simp[Lx]
  generalize Lx s j=pre at *;generalize s.drop (22*j)=t at *;unfold Tt at hI;by_cases h:22<=t.length
  ·simp(disch:=first|omega|decide)only[t0,seval,hj',c0u,b73,A7,ax9,Q8,e2b];clear hr;generalize He (Bp Fl t)=p at *;refine⟨λg=>?_,λg=>?_⟩
   ·have g:Bt p=false:=(by simpa using g);simp only[h,g,true_and,e0f,if_false,e1o]at hI;unfold Py;rw[hI]
   ·have g:Bt p=true:=(by simpa using g);simp only[h,g,true_and,if_true]at hI;refine⟨?_,?_,?_,?_⟩
    ·simp
    ·simp[Ae,emb]
    ·omega
    ·rw[hI];cases H8 (n.toNat-(j+1)) (t.drop 22)with
     |none=>rfl
     |some q=>simp
  ·simp(disch:=first|omega|decide)only[t0,seval,hj',c0v,b73,A7,ax9,Q8,e2b];clear hr;simp only[h,false_and,if_false,e1o]at hI;unfold Py;rw[hI]
 ·rintro⟨hI1,hI⟩;have e0:n.toNat-n.toNat=0:=om;have hpl:(Lx s n.toNat).length=n.toNat:=by simp[Lx]
  rw[e0,H8]at hI;unfold Py;rw[hI];generalize Lx s n.toNat=pre at *;have hm:max n 0=(n.toNat:Int):=om;rw[hm];generalize n.toNat=k at *;subst hpl;simp only[t0,seval,e2k,Tq]
end
section
variable {orc:CallF} {lk:FuncId->Bool}
def F6(n:Int):Bool:=decide (40<=n)&&decide (n<=240)
def Gc(data k:Int):Int:=if F6 data=false\/k<0\/4<=k then -1 else if 2<=k then k*7+data else k*7
theorem Yj(data k:Int)(H:AH)(hm:∀ H,K tab orc lk 47 [.int .i64 data] H=some (.bool (F6 data),H)):K tab orc lk 16 [.int .i64 data,.int .i64 k] H=some (.int .i64 (Gc data k),H):=by
 refine Ah l16 rfl rfl rfl ?_ H
 simp(disch:=omega)only[g16,t0,seval,hm];unfold Gc;by_cases h1:F6 data=true
 ·have hd:=h1;simp only[F6,e14,e0r]at hd;by_cases h2:k<0\/4<=k
  ·rcases h2 with h2|h2
   ·simp[h1,h2]
   ·have n3:3<k:=om;have n4:¬ k<2:=om;simp[h1,h2,n3]
  ·have n1:¬ k<0:=om;have n2:¬ 4<=k:=om;have n3:¬ 3<k:=om;by_cases h3:k<2
   ·have h4:¬ 2<=k:=om;simp[h1,n1,n2,n3,h3,h4,e2b (k*7) om]
   ·have h4:2<=k:=om;have e1:=e2b (14+data) om;have e2:=e2b (k-2) om;have e3:=e2b ((k-2)*7) om;have e4:=e2b (14+data+(k-2)*7) om;simp[h1,n1,n2,n3,h3,h4,e1,e2,e3,e4];omega
 ·simp[h1]
theorem S7(n:Int)(H:AH):K tab orc lk 47 [.int .i64 n] H=some (.bool (F6 n),H):=by
 refine Ah l47 rfl rfl rfl ?_ H
 simp(disch:=omega)only[g47,t0,seval,F6]
theorem b7v(n:Int)(H:AH):K tab orc lk 155 [.int .i64 n] H=some (.bool (F6 n),H):=by
 refine Ah cp2 rfl rfl rfl ?_ H
 simp(disch:=omega)only[ad6,t0,seval,F6]
theorem b4q(n:Int)(H:AH):K tab orc lk 118 [.int .i64 n] H=some (.bool (F6 n),H):=by
 refine Ah cq8 rfl rfl rfl ?_ H
 simp(disch:=omega)only[ae8,t0,seval,F6]
theorem a7k(n:Int)(H:AH):K tab orc lk 48 [.int .i64 n] H=some (.bool (decide (0<=n)&&decide (n<=1073741824)),H):=by
 refine Ah l48 rfl rfl rfl ?_ H
 simp(disch:=omega)only[g48,t0,seval]
theorem Ri(n m:Int)(H:AH):K tab orc lk 162 [.int .i64 n,.int .i64 m] H=some (.bool (decide (0<=n)&&decide (n<=m)),H):=by
 refine Ah co4 rfl rfl rfl ?_ H
 simp(disch:=omega)only[ac8,t0,seval]
theorem c2w(a b x:Int)(H:AH):K tab orc lk 252 [.agg [.int .i64 a,.int .i64 b],.int .i64 x] H=some (.bool (decide (a<=x)&&decide (x<b)),H):=by
 refine Ah ci8 rfl rfl rfl ?_ H
 simp(disch:=omega)only[a9j,t0,seval]
theorem b4p(n:Int)(h0:0<=n)(h1:n<=1000000)(H:AH):K tab orc lk 119 [.int .i64 n] H=some (.int .i64 ((n+7)/8),H):=by
 refine Ah cq7 rfl rfl rfl ?_ H
 simp(disch:=omega)only[ae7,t0,seval,e2b];have e:(n+8-1).tdiv 8=(n+7)/8:=by rw[dx7 om];omega
 rw[e,e2b _ om]
def Bi(p:Int×Bytes):List PV:=[.int .i64 p.1,.str p.2]
end
section
variable {orc:CallF} {lk:FuncId->Bool}
theorem aj2(k b:Int)(l:Bytes)(H:AH):K tab orc lk 178 [.agg [.int .i64 k,.int .i64 b,.str l]] H=some (.bool (Hg ⟨k,b,l⟩),H):=by
 refine Ah cn0 rfl rfl rfl ?_ H
 simp(disch:=omega)only[ab6,t0,seval];have e:((l.length:Int)<=249)↔l.length<=249:=om;unfold Hg;simp[e]
theorem c9h(k b:Int)(l:Bytes)(H:AH):K tab orc lk 60 [.agg [.int .i64 k,.int .i64 b,.str l]] H=some (.bool (Hg ⟨k,b,l⟩),H):=by
 refine Ah l60 rfl rfl rfl ?_ H
 simp(disch:=omega)only[g60,t0,seval,a7k]
 congr 2
 rw[e1x];simp only[Hg,e14,e0r];omega
theorem a0z(a b:Int)(c d e f:UInt32):(⟨a,b,⟨c,d,e,f⟩⟩:Ptr)=Bb↔a=0/\b=0/\(c.toNat:Int)=0/\(d.toNat:Int)=0/\(e.toNat:Int)=0/\(f.toNat:Int)=0:=by
 have z:∀ a:UInt32,(((a.toNat:Int)=0)↔a=0):=λa=>ap8 (b:=0);simp only[Bb,Ptr.mk.injEq,Sum.mk.injEq,z]
theorem c9c(p:Ptr)(H:AH):K tab orc lk 102 [.agg (A7 p)] H=some (.bool (Bt p),H):=by
 refine Ah cs3 rfl rfl rfl ?_ H
 simp(disch:=omega)only[af5,t0,seval,A7,a7k]
 congr 2
 obtain⟨a,b,c,d,e,f⟩:=p;rw[e1x,b7t,a0z];simp only[e14,e1v,e0r];omega
structure Uber where
 txg:Int
 guid:Int
 seat:Int
 root:Ptr
 deriving DecidableEq,Inhabited
def S6(u:Uber):Bool:=decide (1<=u.txg)&&decide (u.txg<=1073741824)&&decide (0<=u.guid)&&decide (u.guid<=1073741824)&&decide (0<=u.seat)&&decide (u.seat<6)&&Bt u.root&&decide (u.root≠Bb)
end
section
variable {orc:CallF} {lk:FuncId->Bool}
def Qv(s:Sum):List AV:=[.int .u32 s.a.toNat,.int .u32 s.b.toNat,.int .u32 s.c.toNat,.int .u32 s.d.toNat]
def Nn(b:Bytes)(i:Nat):Sum:=((Lj b).take i).foldl ar3 ⟨0,0,0,0⟩
theorem b33(x y:UInt32):IntKind.u32.wrap ((x.toNat:Int)+(y.toNat:Int))=((x+y).toNat:Int):=by
 rw[IntKind.wrap_u32,UInt32.toNat_add];omega
theorem ao8:∀ b:Bytes,(Lj b).length=(b.length+3)/4
 |[]=>rfl
 |[a]=>by simp[Lj]
 |[a,b]=>by simp[Lj]
 |[a,b,c]=>by simp[Lj]
 |x0::x1::x2::x3::l=>by simp only[Lj,e15,ao8 l];omega
theorem b36:∀ (i:Nat) (b:Bytes),4*i<b.length->(Lj b).drop i=UInt32.ofNat (w4 ((b.drop (4*i)).take 4))::(Lj b).drop (i+1)
 |0,[x],_=>rfl
 |0,[x,y],_=>rfl
 |0,[x,y,z],_=>rfl
 |0,x0::x1::x2::x3::l,_=>rfl
 |i+1,[x],h=>by simp only[e15,e1n]at h;omega
 |i+1,[x,y],h=>by simp only[e15,e1n]at h;omega
 |i+1,[x,y,z],h=>by simp only[e15,e1n]at h;omega
 |i+1,x0::x1::x2::x3::l,h=>by
   have:=b36 i l (by simp at h;omega);rw[Lj,e0c,this,e0c];rfl
 |_,[],h=>by simp at h
theorem b4g(b:Bytes)(i:Nat)(h:4*i<b.length):Nn b (i+1)=ar3 (Nn b i) (UInt32.ofNat (w4 ((b.drop (4*i)).take 4))):=by
 have h1:=b36 i b h;have h2:(Lj b)[i]?=some (UInt32.ofNat (w4 ((b.drop (4*i)).take 4))):=by
  have:=congrArg (·[0]?) h1;simpa using this
 unfold Nn;rw[e0y,h2,e12];rfl
theorem Zp:∀ l:Bytes,w4 l<256 ^ l.length
 |[]=>by decide
 |x::l=>by
   have h:=Zp l;have hx:=x.toNat_lt;rw[w4,e15,Nat.pow_succ];omega
theorem bp1{l:Bytes}(h:l.length<=3):w4 l<16777216:=by
 have:=Zp l;have h2:256 ^ l.length<=256 ^ 3:=Nat.pow_le_pow_right om h;omega
theorem c14(l:Sl Bytes)(hl:(els l).flatten.length<=1000000)(hn:(els l).length<=1000000)(H:AH):K tab orc lk 154 [A0 Bh l] H=some (.agg (Qv (Dh (els l).flatten)),H):=by
 refine Ah cp3 rfl (by simp only[t0]) rfl ?_ H
 simp(disch:=omega)only[ad7,t0,seval];generalize hr:Ad _ _ _=r;refine B7 hr (els l).length
  (λj=>[A0 Bh l,.ptr 0 0 0 1,.str ((els l).take j).flatten,.int .i64 j,.top,.top,.top,.top,.top,.top,.top])
  (λj=>[some [[.int .u32 0,.int .u32 0,.int .u32 0,.int .u32 0]]]) (λj=>True) ?_ ?_ trivial ?_ ?_
 ·simp
 ·simp
 ·intro j hj _;have hj':((j:Int)<((els l).length:Int)):=om;have ht:=En hj;have hb:(((els l).take (j+1)).flatten).length<=(els l).flatten.length:=by
   conv=>rhs;rw[<-dz9 (j+1) (els l),List.flatten_append,e0l]
   omega
  rw[ht,List.flatten_append,e0l]at hb;simp only[e0u,List.flatten_nil,e1t]at hb
  simp(disch:=first|omega|decide)only[t0,seval,hj',Aa,Bh,e2b];clear hr;simp[ht]
 ·intro _;rw[e1g]
  simp(disch:=omega)only[t0,seval,e2k];clear hr
  generalize (els l).flatten=b at *;generalize hr:Ad _ _ _=r;refine B7 hr ((b.length+3)/4)
   (λj=>[.top,.ptr 0 0 0 1,.str b,.top,.ptr 1 0 0 1,.int .i64 (4*j:Nat),.top,.top,.top,.top,.top])
   (λj=>[some [[.int .u32 0,.int .u32 0,.int .u32 0,.int .u32 0]],some [Qv (Nn b j)]]) (λj=>True) ?_ ?_ trivial ?_ ?_
  ·simp
  ·rfl
  ·intro j hj _;have hj':(((4*j:Nat):Int)<(b.length:Int)):=om;rw[b4g b j om];generalize Nn b j=S
   simp(disch:=first|omega|decide)only[t0,seval,hj',Qv,e2b];clear hr;generalize hr:Ad _ _ _=r;have hcl:((b.drop (4*j)).take 4).length=min 4 (b.length-4*j):=(by rw[e1f,e19]);have hget:∀ k,k<4->4*j+k<b.length->b.getD (4*j+k) 0=((b.drop (4*j)).take 4).getD k 0:=by
    intro k hk h;simp[dx5,List.getElem?_take,hk]
   generalize (b.drop (4*j)).take 4=ch at *;refine G7 (Q:=λr=>Rd _ _ _ _ (F3 _ _ (Be _ _ (B0 _ (Be _ _ (B0 _ r)))))) hr 4
    (λm=>[.top,.ptr 0 0 0 1,.str b,.top,.ptr 1 0 0 1,.int .i64 (4*j:Nat),.int .u32 (w4 (ch.drop (4-m)):Nat),.int .i64 (3-m),.top,.top,.top])
    (λm=>[some [[.int .u32 0,.int .u32 0,.int .u32 0,.int .u32 0]],some [[.int .u32 S.a.toNat,.int .u32 S.b.toNat,.int .u32 S.c.toNat,.int .u32 S.d.toNat]]]) (λm=>True) ?_ ?_ trivial ?_ ?_
   ·have:ch.drop 4=[]:=dz2 om;simp[this,w4]
   ·rfl
   ·intro m hm _;have hw:w4 (ch.drop (4-m))<16777216:=bp1 (by rw[e19];omega);have hv:w4 (ch.drop (4-(m+1)))=if 4*j+(3-m)<b.length then(ch.getD (3-m) 0).toNat+256*w4 (ch.drop (4-m))else 256*w4 (ch.drop (4-m)):=by
     have e1:4-(m+1)=3-m:=om;have e2:4-m=(3-m)+1:=om;rw[e1,e2];by_cases h:3-m<ch.length
     ·rw[if_pos om,dy0 h,w4,dx5,dy1 h];rfl
     ·rw[if_neg om,dz2 om,dz2 om];rfl
    have hb:=(ch.getD (3-m) 0).toNat_lt;by_cases hlt:4*j+(3-m)<b.length
    ·have hg:=hget (3-m) om hlt;have e:((4*j:Nat):Int)+(3-(m:Int))=((4*j+(3-m):Nat):Int):=om;rw[hv,if_pos hlt]
     simp(disch:=first|omega|decide)only[t0,seval,e2b,IntWalk.u32_in,e,hg];simp;omega
    ·rw[hv,if_neg hlt]
     simp(disch:=first|omega|decide)only[t0,seval,e2b,IntWalk.u32_in];simp;omega
   ·intro _;have e4:ch.drop (4-4)=ch:=rfl;rw[e4];have hw:w4 ch<4294967296:=by
     have:=Zp ch;have h2:256 ^ ch.length<=256 ^ 4:=Nat.pow_le_pow_right om om;omega
    have hW:((w4 ch:Nat):Int)=((UInt32.ofNat (w4 ch)).toNat:Int):=(by rw[UInt32.toNat_ofNat'];omega);rw[hW];generalize UInt32.ofNat (w4 ch)=W
    simp(disch:=first|omega|decide)only[t0,seval,e2b];clear hr
    iterate 5 (rw[Sc];simp(disch:=first|omega|decide)only[t0,seval,e2b,b33])
    refine⟨?_,rfl⟩;have e:(((4*j:Nat):Int)+4)=((4*(j+1):Nat):Int):=om;rw[e]
  ·intro _;have e:Nn b ((b.length+3)/4)=Dh b:=(by unfold Nn Dh;rw[<-ao8,e1g]);rw[e];generalize Dh b=S
   simp(disch:=omega)only[t0,seval,Qv]
end
section
variable {orc:CallF} {lk:FuncId->Bool}
theorem c25(c:UInt8):Vz c=if(decide ((c.toNat:Int)-48<1)||decide (4<(c.toNat:Int)-48))=true then none else some (Fi c):=by
 unfold Vz Fi;by_cases h:49<=c.toNat/\c.toNat<=52
 ·rw[if_pos h,if_neg (by simp;omega)]
 ·rw[if_neg h,if_pos (by simp;omega)]
theorem db0(n:Int):Ib [[AV.int IntKind.u8 n]]=some [UInt8.ofNat n.toNat]:=rfl
theorem dc0(k:Nat)(x:Int)(m:Nat)(h:m<k)(hk:k<=4):(Ea k x).take (m+1)=(Ea k x).take m++[UInt8.ofNat (IntKind.u8.wrap (x.fdiv (2 ^ min (8*((k:Int)-1-m)).toNat IntKind.i64.bits))).toNat]:=by
 rw[e0y,b25 k x m h,b34];have e1:min (8*((k:Int)-1-m)).toNat IntKind.i64.bits=8*(k-1-m):=by
  have:IntKind.i64.bits=64:=rfl;omega
 rw[e1,Int.fdiv_eq_ediv_of_nonneg _ (Int.pow_nonneg om),e10,UInt8.ofNat_toNat];rfl
theorem P0(form:Bytes)(hl:form.length<=1000000)(l:Sl Int)(H:AH):K tab orc lk 50 [.str form,A0 Dp l] H=some (.str (Nu form (els l)),H):=by
 refine Ah l50 rfl (by simp only[t0]) rfl ?_ H
 simp(disch:=omega)only[g50,t0,seval];by_cases h:form.length=(els l).length
 ·rw[if_neg (by simp[h])];generalize hr:Ad _ _ _=r;refine B7 hr form.length
   (λj=>[.str form,A0 Dp l,.top,.str (B6 ((form.take j).map Fi) ((els l).take j)),.int .i64 j,.top,.top])
   (λj=>[]) (λj=>Gl form=(Gl (form.drop j)).map ((form.take j).map Fi++·)/\(B6 ((form.take j).map Fi) ((els l).take j)).length<=4*j) ?_ ?_ ?_ ?_ ?_
  ·simp[B6]
  ·simp
  ·simp[B6]
  ·rintro j hj ⟨hI,hp⟩;have hj':((j:Int)<(form.length:Int)):=om;have hj2:((j:Int)<((els l).length:Int)):=om;have ht:=En hj;have hp1:B6 ((form.take (j+1)).map Fi) ((els l).take (j+1))=B6 ((form.take j).map Fi) ((els l).take j)++Ea (Fi (form.getD j default)) ((els l).getD j default):=by
    rw[ht,En (h▸hj:j<(els l).length),e1w,e2c,e2o,av9 _ _ _ _ (by rw[e1q,e1f,e1f];omega)]
   rw[hp1,ht];rw[Ew hj,Gl,c25]at hI;have hc:(form.getD j 0)=form.getD j default:=rfl;have hcb:=(form.getD j default).toNat_lt
   simp(disch:=first|omega|decide)only[t0,seval,hj',hj2,Aa,Dp,e2b,hc];clear hr;generalize B6 ((form.take j).map Fi) ((els l).take j)=pre at *;generalize form.getD j default=c at *;generalize hx:(els l).getD j default=x at *;refine⟨λg=>?_,λg=>?_⟩
   ·rw[if_pos g]at hI;simp only[e1o]at hI;simp[Nu,hI]
   ·rw[if_neg g]at hI;have hs:((Fi c:Nat):Int)=(c.toNat:Int)-48:=by
     simp at g;unfold Fi;omega
    have hk:1<=Fi c/\Fi c<=4:=(by simp at g;unfold Fi;omega);rw[<-hs];generalize hkc:Fi c=k at *;generalize hr:Ad _ _ _=r;refine G7 (Q:=λr=>Rd _ _ _ _ (F3 _ _ (Be _ _ (B0 _ (B0 _ r))))) hr k
     (λm=>[.str form,A0 Dp l,.top,.str (pre++(Ea k x).take m),.int .i64 j,.top,.int .i64 (k-1-m)])
     (λm=>[]) (λ_=>True) ?_ ?_ trivial ?_ ?_
    ·simp
    ·rfl
    ·intro m hm _;have hbl:((Ea k x).take m).length=m:=(by rw[e1f,Qz];omega);rw[dc0 k x m hm hk.2]
     simp(disch:=first|omega|decide)only[t0,seval,hj2,Aa,Dp,e2b,hx,db0,hbl];clear hr;simp;omega
    ·intro _;have et:(Ea k x).take k=Ea k x:=dz1 (by rw[Qz];exact e2z k);rw[et]
     simp(disch:=first|omega|decide)only[t0,seval,e2b];clear hr;rw[hI,Qz];refine⟨by simp,?_,by omega⟩;cases Gl (form.drop (j+1))<;>simp[hkc]
  ·rintro⟨hI,hp⟩;have e:Nu form (els l)=B6 ((form.take form.length).map Fi) ((els l).take form.length):=by
    rw[e1h,Gl]at hI;unfold Nu;rw[hI];simp[h]
   rw[e]
   simp(disch:=omega)only[t0,seval,e2k]
 ·rw[if_pos (by simp[h];omega)];unfold Nu;cases hs:Gl form with
  |none=>rfl
  |some ks=>simp only[];rw[if_neg (by rw[a6m hs];exact h)]
end
section
variable {orc:CallF} {lk:FuncId->Bool}
end
section
variable {orc:CallF}
def A4(f:FuncId):Bool:=[164,50,163,63,243,154,172,230,53,54,106,55,99,184,182,158,185,14,72,156,120,181,100,33,121,101,71,56,112,111,37,12,73,122,123,74,29,11,34,205,35,10,75,266,40,278,236,237,238,174,235,176,115,213,124,32,30,69,207,257,1000000].contains f
theorem ap3(a:AV)(r sz o l t:Nat)(H:AH):K tab orc A4 50 [a,.own r sz o l t] H=Gs tab orc A4 50 [a,.own r sz o l t] H (Ac (Bc H [a,.own r sz o l t])) (K tab orc A4 50 (Bc H [a,.own r sz o l t]) H):=J7 _ _ _ rfl _ _
theorem c54(a b c d e f:Int)(H:AH):K tab orc A4 50 [.str [50,52,52,52,52,52],.fz [[.int .i64 a],[.int .i64 b],[.int .i64 c],[.int .i64 d],[.int .i64 e],[.int .i64 f]]] H=some (.str (Nu [50,52,52,52,52,52] [a,b,c,d,e,f]),H):=P0 _ (by decide) (some [a,b,c,d,e,f]) H
theorem c5l(p:Ptr):Nu [50,52,52,52,52,52] [p.addr,p.birth,p.sum.a.toNat,p.sum.b.toNat,p.sum.c.toNat,p.sum.d.toNat]=Ed p:=rfl
theorem ay3(a b:Int)(c d e f:UInt32)(H:AH):K tab orc A4 102 [.agg [.int .i64 a,.int .i64 b,.int .u32 c.toNat,.int .u32 d.toNat,.int .u32 e.toNat,.int .u32 f.toNat]] H=some (.bool (Bt ⟨a,b,⟨c,d,e,f⟩⟩),H):=c9c ⟨a,b,⟨c,d,e,f⟩⟩ H
theorem a2t(m:List Ptr):((m.map Ed).flatten).length=22*m.length:=by
 induction m with
 |nil=>rfl
 |cons p m ih=>rw[e2c,e0u,e0l,U9,ih,e15];omega
theorem a0x(l:Sl Ptr)(hl:(els l).length<=1000000)(H:AH):K tab orc A4 63 [A0 Ae l] H=some (.str (Er (els l)),H):=by
 refine Ah l63 rfl (by simp only[t0]) rfl ?_ H
 simp(disch:=omega)only[g63,t0,seval];generalize hr:Ad _ _ _=r;refine B7 hr (els l).length
  (λj=>[A0 Ae l,.top,.str (((els l).take j).map Ed).flatten,.int .i64 j,.top,.top])
  (λj=>[]) (λj=>Er (els l)=if((els l).drop j).all Bt=true then(((els l).take j).map Ed).flatten++(((els l).drop j).map Ed).flatten else []) ?_ ?_ ?_ ?_ ?_
 ·simp
 ·simp
 ·simp[Er]
 ·intro j hj hI;have hj':((j:Int)<((els l).length:Int)):=om;have ht:=En hj;rw[Ew hj]at hI;have hlen:((((els l).take j).map Ed).flatten).length<=22*1000000:=by rw[a2t,e1f];omega
  have hpl:=U9 ((els l).getD j default);have u:∀ x:UInt32,x.toNat<4294967296:=λx=>x.toNat_lt;have ua:=u ((els l).getD j default).sum.a;have ub:=u ((els l).getD j default).sum.b;have uc:=u ((els l).getD j default).sum.c;have ud:=u ((els l).getD j default).sum.d
  simp(disch:=first|omega|decide)only[t0,seval,hj',Aa,Ae,ay3,Q8,ap3,c54,c5l,e2b];clear hr
  generalize (els l).getD j default=p at *;refine⟨λh=>?_,λh=>?_⟩
  ·have h:Bt p=false:=(by simpa using h);rw[hI];simp[h]
  ·have h:Bt p=true:=(by simpa using h);refine⟨?_,?_⟩
   ·simp[ht]
   ·rw[hI,ht];simp[h]
 ·intro hI
  simp(disch:=omega)only[t0,seval,e2k];simp at hI;simp[hI]
end
section
variable {orc:CallF}
theorem bg8:∀ n:Nat,Ib (List.replicate n [AV.int IntKind.u8 0])=some (zs n)
 |0=>rfl
 |n+1=>by rw[e09,Ib,bg8 n];rfl
theorem ax4(n:Int)(hn:n<=1000000)(H:AH):K tab orc A4 61 [.int .i64 n] H=some (.str (zs n.toNat),H):=by
 refine Ah l61 rfl rfl rfl ?_ H;have e:(max n 0).toNat=n.toNat:=om
 simp(disch:=omega)only[g61,t0,seval,if_pos,e1g,List.take_replicate,Nat.min_self,e,bg8];have e2:(if 0>n then 0 else n).toNat=n.toNat:=by split<;>omega
 rw[e2]
theorem bp2(r sz o l t:Nat)(H:AH):K tab orc A4 154 [.own r sz o l t] H=Gs tab orc A4 154 [.own r sz o l t] H (Ac (Bc H [.own r sz o l t])) (K tab orc A4 154 (Bc H [.own r sz o l t]) H):=J7 _ _ _ rfl _ _
theorem c16(b:Bytes)(hb:b.length<=1000000)(H:AH):K tab orc A4 154 [.fz [[.str b]]] H=some (.agg [.int .u32 (Dh b).a.toNat,.int .u32 (Dh b).b.toNat,.int .u32 (Dh b).c.toNat,.int .u32 (Dh b).d.toNat],H):=by
 have:=c14 (orc:=orc) (lk:=A4) (some [b]) (by simpa [els]using hb) (by simp[els]) H;simpa [els,A0,Bh,Qv]using this
theorem b75(b:Bytes)(hb:b.length<=1000000)(H:AH):K tab orc A4 98 [.str b] H=some (.agg [.int .u32 (Dh b).a.toNat,.int .u32 (Dh b).b.toNat,.int .u32 (Dh b).c.toNat,.int .u32 (Dh b).d.toNat],H):=by
 refine Ah l98 rfl rfl rfl ?_ H
 simp(disch:=omega)only[g98,t0,seval,bp2,c16]
theorem bz6(at':Int)(b:Bytes)(birth:Int)(hb:b.length<=1000000)(H:AH):K tab orc A4 59 [.int .i64 at',.str b,.int .i64 birth] H=some (.agg (A7 ⟨at',birth,Dh b⟩),H):=by
 refine Ah l59 rfl rfl rfl ?_ H
 simp(disch:=omega)only[g59,t0,seval,b75,A7]
end
section
variable {orc:CallF}
theorem Ei(E:CallF)(a:List Opd)(c:Nat)(V:Opd->AV)(H:AH)(args:List AV):Kc A4 E 50 a c V H args false=Sv (Kp A4 E 50 a c V H) (Fs H args) c H (E 50 (Bc H args) []):=a3m rfl _ _ _ _ _ _
theorem b68(a b c:Int)(H:AH):K tab orc A4 50 [.str [49,52,50],.fz [[.int .i64 a],[.int .i64 b],[.int .i64 c]]] H=some (.str (B6 [1,4,2] [a,b,c]),H):=P0 _ (by decide) (some [a,b,c]) H
theorem c9i(k b:Int)(l:Bytes)(H:AH):K tab orc A4 60 [.agg [.int .i64 k,.int .i64 b,.str l]] H=some (.bool (Hg ⟨k,b,l⟩),H):=c9h k b l H
theorem ao4(n:Nat):(zs n).length=n:=dz7
theorem S0(k b:Int)(l:Bytes)(hl:l.length<=1000000)(H:AH):K tab orc A4 21 [.agg [.int .i64 k,.int .i64 b,.str l]] H=some (.str (Dn ⟨k,b,l⟩),H):=by
 refine Ah l21 rfl rfl rfl ?_ H;have h7:(B6 [1,4,2] [k,b,(l.length:Int)]).length=7:=G5 _ _ rfl
 simp(disch:=try exact dz)only[g21,t0,seval,c9i,Ei,b68,ax4,if_pos,e2b,h7,ao4];have e:(256-((7+l.length:Nat):Int)).toNat=249-l.length:=om;rw[e];unfold Dn;cases Hg ⟨k,b,l⟩<;>rfl
end
section
variable {orc:CallF}
theorem b6d(x:Block):(Dn x).length<=256:=by
 by_cases h:Hg x=true
 ·rw[c5o h];exact e2z _
 ·unfold Dn;rw[if_neg h];exact e2x _
def L9(at':Int)(x:Block):Ptr:=⟨at',x.birth,Dh (Dn x)⟩
theorem Ye(at' k b:Int)(l:Bytes)(hl:l.length<=1000000)(H:AH):K tab orc A4 20 [.int .i64 at',.agg [.int .i64 k,.int .i64 b,.str l]] H=some (.agg (A7 (L9 at' ⟨k,b,l⟩)),H):=by
 refine Ah l20 rfl rfl rfl ?_ H;have h:=b6d ⟨k,b,l⟩
 simp(disch:=try exact dz)only[g20,t0,seval,S0,bz6,if_pos,A7,L9]
end
section
variable {orc:CallF}
def c19(s:Sum):List Int:=[s.a.toNat,s.b.toNat,s.c.toNat,s.d.toNat]
def at8(s:Bytes):Bytes:=s++B6 [4,4,4,4] (c19 (Dh s))++zs (240-s.length)
theorem c56(a b c d:Int)(H:AH):K tab orc A4 50 [.str [52,52,52,52],.fz [[.int .i64 a],[.int .i64 b],[.int .i64 c],[.int .i64 d]]] H=some (.str (B6 [4,4,4,4] [a,b,c,d]),H):=P0 _ (by decide) (some [a,b,c,d]) H
theorem b55(s:Bytes)(hs:s.length<=100000)(H:AH):K tab orc A4 49 [.str s] H=some (.str (at8 s),H):=by
 refine Ah l49 rfl rfl rfl ?_ H;have u:∀ x:UInt32,x.toNat<4294967296:=λx=>x.toNat_lt;have ua:=u (Dh s).a;have ub:=u (Dh s).b;have uc:=u (Dh s).c;have ud:=u (Dh s).d;have h16:(B6 [4,4,4,4] [((Dh s).a.toNat:Int),(Dh s).b.toNat,(Dh s).c.toNat,(Dh s).d.toNat]).length=16:=G5 _ _ rfl
 simp(disch:=first|omega|decide)only[g49,t0,seval,b75,ap3,c56,ax4,if_pos,e2b,h16,ao4];have e:(256-((s.length+16:Nat):Int)).toNat=240-s.length:=om;rw[e];rfl
theorem b7o(t g s a b:Int)(c d e f:UInt32)(H:AH):K tab orc A4 62 [.agg [.int .i64 t,.int .i64 g,.int .i64 s,.int .i64 a,.int .i64 b,.int .u32 c.toNat,.int .u32 d.toNat,.int .u32 e.toNat,.int .u32 f.toNat]] H=some (.bool (S6 ⟨t,g,s,⟨a,b,⟨c,d,e,f⟩⟩⟩),H):=by
 refine Ah l62 rfl rfl rfl ?_ H
 simp(disch:=omega)only[g62,t0,seval,ay3,a7k]
 congr 2
 rw[e1x];simp only[S6,e14,e0r,ne_eq,b7t,a0z];omega
def L8(guid data:Int):Bytes:=if(decide (0<=guid)&&decide (guid<=1073741824)&&F6 data)=true then at8 (B6 [1,4,2] [172,guid,data])else []
theorem bf7(guid data:Int)(H:AH):K tab orc A4 17 [.int .i64 guid,.int .i64 data] H=some (.str (L8 guid data),H):=by
 refine Ah l17 rfl rfl rfl ?_ H;have h7:(B6 [1,4,2] [172,guid,data]).length=7:=G5 _ _ rfl
 simp(disch:=first|omega|decide)only[g17,t0,seval,a7k,S7,ap3,b68,b55,if_pos,e2b];unfold L8;cases h1:decide (0<=guid)<;>cases h2:decide (guid<=1073741824)<;>cases h3:F6 data<;>simp
end
section
variable {orc:CallF}
theorem c59(a b c d:Int)(H:AH):K tab orc A4 50 [.str [49,52,52,49],.fz [[.int .i64 a],[.int .i64 b],[.int .i64 c],[.int .i64 d]]] H=some (.str (B6 [1,4,4,1] [a,b,c,d]),H):=P0 _ (by decide) (some [a,b,c,d]) H
theorem bp6(r sz o l t:Nat)(H:AH):K tab orc A4 63 [.own r sz o l t] H=Gs tab orc A4 63 [.own r sz o l t] H (Ac (Bc H [.own r sz o l t])) (K tab orc A4 63 (Bc H [.own r sz o l t]) H):=J7 _ _ _ rfl _ _
theorem c5d(a b:Int)(c d e f:UInt32)(H:AH):K tab orc A4 63 [.fz [[.int .i64 a,.int .i64 b,.int .u32 c.toNat,.int .u32 d.toNat,.int .u32 e.toNat,.int .u32 f.toNat]]] H=some (.str (Er [⟨a,b,⟨c,d,e,f⟩⟩]),H):=a0x (some [⟨a,b,⟨c,d,e,f⟩⟩]) (by simp[els]) H
def Wo(u:Uber):Bytes:=if S6 u=true then at8 (B6 [1,4,4,1] [171,u.txg,u.guid,u.seat]++Ed u.root)else []
theorem av1(t g s a b:Int)(c d e f:UInt32)(H:AH):K tab orc A4 23 [.agg [.int .i64 t,.int .i64 g,.int .i64 s,.int .i64 a,.int .i64 b,.int .u32 c.toNat,.int .u32 d.toNat,.int .u32 e.toNat,.int .u32 f.toNat]] H=some (.str (Wo ⟨t,g,s,⟨a,b,⟨c,d,e,f⟩⟩⟩),H):=by
 refine Ah l23 rfl rfl rfl ?_ H;have h10:(B6 [1,4,4,1] [171,t,g,s]).length=10:=G5 _ _ rfl;have hp:(Er [⟨a,b,⟨c,d,e,f⟩⟩]).length<=22:=by
  unfold Er;split
  ·rw[a2t];simp
  ·simp
 have hsz:(B6 [1,4,4,1] [171,t,g,s]++Er [⟨a,b,⟨c,d,e,f⟩⟩]).length<=100000:=by rw[e0l,h10];omega
 simp(disch:=try exact dz)only[g23,t0,seval,b7o,Ei,c59,bp6,c5d,b55,if_pos,e2b,h10];unfold Wo;cases hm:S6 ⟨t,g,s,⟨a,b,⟨c,d,e,f⟩⟩⟩with
 |false=>rfl
 |true=>
   have hq:Bt ⟨a,b,⟨c,d,e,f⟩⟩=true:=(by simp only[S6,e14]at hm;exact hm.1.2);simp[Er,hq]
end
def Ox:List (List PV)->Option (List Bytes)
 |[]=>some []
 |[.str s]::l=>(Ox l).map λm=>s::m
 |_::_=>none
def Ul:AObj->Option (List Int)
 |[]=>some []
 |[.int .i64 n]::l=>(Ul l).map λm=>n::m
 |_::_=>none
def M3(sep:Bytes):List Bytes->Bytes
 |[]=>[]
 |[x]=>x
 |x::y::l=>x++(sep++M3 sep (y::l))
def Gv:AV->Option (List (List PV))
 |.emp=>some []
 |.fz es=>some es
 |_=>none
def a1q:CallF:=λ_ args H=>match args,H with
 |[x,.str sep],[]=>((Gv x).bind Ox).bind λl=>if l.length<=1000000/\(M3 sep l).length<=1000000 then some (.str (M3 sep l),[])else none
 |_,_=>none
def U5(s:Bytes):Nat->Bytes
 |0=>[]
 |n+1=>s++U5 s n
def a0q:CallF:=λ_ args H=>match args,H with
 |[.str s,.int .i64 n],[]=>if 0<=n/\n<=1000000/\s.length*n.toNat<=1000000 then some (.str (U5 s n.toNat),[])else none
 |_,_=>none
def Qj(c:UInt8):Bytes->Int
 |[]=>-1
 |x::l=>if x=c then 0 else if Qj c l<0 then -1 else Qj c l+1
def a1v:CallF:=λ_ args H=>match args,H with
 |[.str s,.int .u8 n],[]=>if s.length<=1000000/\0<=n/\n<256 then some (.int .i64 (Qj (UInt8.ofNat n.toNat) s),[])else none
 |_,_=>none
def a1r:CallF:=λ_ args H=>match args,H with
 |[.int .i64 n],[]=>if 0<=n/\n<=9 then some (.str (E9 n.toNat),[])else none
 |_,_=>none
def Pj(sz:Nat)(z:Bool):CallF:=λ_ args H=>match args,H with
 |[.fz es],[]=>if es.all (λe=>decide (e.length=sz))=true/\es.length<=1000000/\es.isEmpty=false then some (.own 0 sz 0 es.length es.length,[some (es.map λe=>e.map emb)])else none
 |[.own r s 0 n t],[some o]=>if r=0/\s=sz/\n=t/\t=o.length/\o.all (λe=>decide (e.length=sz))=true/\Cf (some o)=[]/\o.length<=1000000/\(o.isEmpty=false\/z=true)then some (.own 1 sz 0 n n,[some o,some o])else none
 |_,_=>none
def a3k(sz:Nat):CallF:=λ_ args H=>match args,H with
 |[.own 0 1 0 2 2],[some [[x],[y]]]=>(Gv x).bind λa=>(Gv y).bind λb=>if(a++b).all (λe=>decide (e.length=sz))=true/\(a++b).length<=1000000 then some (.fz (a++b),[some [[x],[y]]])else none
 |_,_=>none
def Wf:List (List PV)->Option (List (List PV))
 |[]=>some []
 |[x]::l=>(Gv (emb x)).bind λa=>(Wf l).map λb=>a++b
 |_::_=>none
def H5(a:List (List PV)):AV:=.fz a
def a3p(sz:Nat):CallF:=λ_ args H=>match args,H with
 |[.fz es],[]=>(Wf es).bind λa=>if a.all (λe=>decide (e.length=sz))=true/\a.length<=1000000/\es.length<=1000000 then some (H5 a,[])else none
 |[.own 0 1 0 4 4],[some [[.own 1 s 0 3 3],[.fz b],[.fz c],[.fz d]],some o]=>if s=sz/\o.length=3 then(Ct o).bind λa=>if(a++(b++(c++d))).all (λe=>decide (e.length=sz))=true/\(a++(b++(c++d))).length<=1000000 then some (H5 (a++(b++(c++d))),[some [[.own 1 s 0 3 3],[.fz b],[.fz c],[.fz d]],some o])else none else none
 |_,_=>none
def Ix(n:Int):List Int->List Int
 |[]=>[n]
 |x::l=>if n<=x then n::x::l else x::Ix n l
def Cy(l:List Int):List Int:=l.foldr Ix []
def a0d:CallF:=λ_ args H=>match args,H with
 |[.emp],[]=>some (.tuple [],[])
 |[.own r 1 0 n t],[some o]=>if r=0/\n=t/\t=o.length/\o.length<=100000 then(Ul o).map λl=>(.tuple [],[some ((Cy l).map λn=>[.int .i64 n])])else none
 |_,_=>none
def Rx:List (List PV)->Option (List (Int×Bytes))
 |[]=>some []
 |[.int .i64 n,.str s]::l=>(Rx l).map λm=>(n,s)::m
 |_::_=>none
def Wn:CallF:=λ_ args H=>match args,H with
 |[.agg [l,w,.int .i64 _,.int .i64 _,.bool down],.int .i64 i],[]=>((Gv l).bind Ox).bind λl=>((Gv w).bind Rx).bind λw=>
   if l.length<=1000000/\w.length<=1000000 then(match Gw ⟨some l,some w,0,0,down⟩ i with
    |some s=>some (.tuple [.str s,.bool true],[])
    |none=>some (.tuple [.str [],.bool false],[]))else none
 |_,_=>none
def A5:CallF:=λf args H=>
 if f=285 then a1q f args H else
 if f=242 then a0q f args H else
 if f=274 then a1v f args H else
 if f=277 then a1r f args H else
 if f=234 then Pj 5 false f args H else
 if f=94 then Pj 1 true f args H else
 if f=302 then a3k 2 f args H else
 if f=45 then a3p 6 f args H else
 if f=95 then a0d f args H else
 if f=115 then Wn f args H else
  none
theorem c6e(args:List AV)(H:AH):A5 285 args H=a1q 285 args H:=kk
theorem c8h:A9 tab 285=none:=kk
theorem c6c(args:List AV)(H:AH):A5 242 args H=a0q 242 args H:=kk
theorem c8f:A9 tab 242=none:=kk
theorem c6g(args:List AV)(H:AH):A5 274 args H=a1v 274 args H:=kk
theorem c8j:A9 tab 274=none:=kk
theorem c6f(args:List AV)(H:AH):A5 277 args H=a1r 277 args H:=kk
theorem c8i:A9 tab 277=none:=kk
theorem c6i(args:List AV)(H:AH):A5 234 args H=Pj 5 false 234 args H:=kk
theorem c8l:A9 tab 234=none:=kk
theorem c6j(args:List AV)(H:AH):A5 94 args H=Pj 1 true 94 args H:=kk
theorem c8m:A9 tab 94=none:=kk
theorem c6h(args:List AV)(H:AH):A5 302 args H=a3k 2 302 args H:=kk
theorem c8k:A9 tab 302=none:=kk
theorem b6t(args:List AV)(H:AH):A5 45 args H=a3p 6 45 args H:=kk
theorem b7a:A9 tab 45=none:=kk
theorem c6b(args:List AV)(H:AH):A5 95 args H=a0d 95 args H:=kk
theorem c8e:A9 tab 95=none:=kk
theorem c6d(args:List AV)(H:AH):A5 115 args H=Wn 115 args H:=kk
theorem c8g:A9 tab 115=none:=kk
theorem ar4:∀ l:List Bytes,Ox (l.map Bh)=some l
 |[]=>rfl
 |s::l=>by rw[e2c,Bh,Ox,ar4 l];rfl
theorem b61:∀ l:List (Int×Bytes),Rx (l.map Bi)=some l
 |[]=>rfl
 |(n,s)::l=>by rw[e2c,Bi,Rx,b61 l];rfl
theorem ba0:∀ l:List Int,Ul (l.map λn=>[.int .i64 n])=some l
 |[]=>rfl
 |n::l=>by rw[e2c,Ul,ba0 l];rfl
theorem as8{α:Type}(p:α->List PV)(x:Sl α):Gv (A0 p x)=some ((els x).map p):=by cases x<;>rfl
theorem az7:∀ l:List Bytes,M3 [] l=l.flatten
 |[]=>rfl
 |[x]=>by simp[M3]
 |x::y::l=>by rw[M3,az7 (y::l)];simp
theorem b5l:∀ n:Nat,U5 [0] n=zs n
 |0=>rfl
 |n+1=>by rw[U5,b5l n];rfl
theorem ct5(l:Sl Bytes)(sep:Bytes)(h1:(els l).length<=1000000)(h2:(M3 sep (els l)).length<=1000000)(H:AH):K tab A5 A4 285 [A0 Bh l,.str sep] H=some (.str (M3 sep (els l)),H):=by
 refine a5o c8h (by simp[Ac,A8,Ap]) rfl ?_ H;rw[c6e];simp only[a1q,as8,e17,ar4];rw[if_pos ⟨h1,h2⟩]
theorem au3(n:Int)(h0:0<=n)(h1:n<=1000000)(H:AH):K tab A5 A4 242 [.str [0],.int .i64 n] H=some (.str (zs n.toNat),H):=by
 refine a5o c8f rfl rfl ?_ H;rw[c6c];simp only[a0q];rw[if_pos ⟨h0,h1,by simp;omega⟩,b5l]
theorem d86(last:Sl Bytes)(wait:Sl (Int×Bytes))(lies arm:Int)(down:Bool)(i:Int)(h1:(els last).length<=1000000)(h2:(els wait).length<=1000000)(H:AH):K tab A5 A4 115 [.agg [A0 Bh last,A0 Bi wait,.int .i64 lies,.int .i64 arm,.bool down],.int .i64 i] H=some (.tuple [.str ((Gw ⟨last,wait,lies,arm,down⟩ i).getD []),.bool (Gw ⟨last,wait,lies,arm,down⟩ i).isSome],H):=by
 refine a5o c8g (by simp[Ac,A8,Ap]) (by rfl) ?_ H;rw[c6d];simp only[Wn,as8,e17,ar4,b61];rw[if_pos ⟨h1,h2⟩];have e:Gw ⟨some (els last),some (els wait),0,0,down⟩ i=Gw ⟨last,wait,lies,arm,down⟩ i:=rfl;rw[e];cases Gw ⟨last,wait,lies,arm,down⟩ i<;>rfl
theorem KQ(f:FuncId)(h:A4 f=false)(args:List AV)(H:AH):K tab A5 A4 f args H=inH (Ev tab A5 A4) f args H (Ji H (H.length*4+40) (Cb args) []):=Zj tab A5 A4 h args H
end Go.Proofs.YtahmkkjcchnonaaGreatDoor.Abs
section
namespace Go.Proofs
open Go.Shelf
def Tryz.lays156_ren:Go.Shelf.Ren:=⟨fun|156=>285|165=>281|166=>282|169=>284|240=>300|241=>301|276=>305|277=>306|n=>n,fun|31=>24|9=>9|3=>3|4=>4|0=>0|20=>20|72=>342|76=>345|70=>340|37=>22|75=>344|127=>361|164=>364|5=>5|80=>127|n=>n,fun|n=>n⟩
theorem Tryz.lays156:Go.Proofs.Lays.n156 Tryz.prog Tryz.lays156_ren:={
 mixed:=by kernel_rfl
 f156:=Tryz.func285.trans (congrArg some (by kernel_rfl))
 f165:=Tryz.func281.trans (congrArg some (by kernel_rfl))
 f166:=Tryz.func282.trans (congrArg some (by kernel_rfl))
 f169:=Tryz.func284.trans (congrArg some (by kernel_rfl))
 f240:=Tryz.func300.trans (congrArg some (by kernel_rfl))
 f241:=Tryz.func301.trans (congrArg some (by kernel_rfl))
 f276:=Tryz.func305.trans (congrArg some (by kernel_rfl))
 f277:=Tryz.func306.trans (congrArg some (by kernel_rfl))
 t0:=Tryz.underlying0
 a0:=Tryz.isAgg0
 z0:=Tryz.sizeOf0
 v0:=Tryz.zeroValue0
 t3:=Tryz.underlying3
 a3:=Tryz.isAgg3
 z3:=Tryz.sizeOf3
 v3:=Tryz.zeroValue3
 t4:=Tryz.underlying4
 a4:=Tryz.isAgg4
 z4:=Tryz.sizeOf4
 v4:=Tryz.zeroValue4
 t9:=Tryz.underlying9
 a9:=Tryz.isAgg9
 z9:=Tryz.sizeOf9
 v9:=Tryz.zeroValue9
 t20:=Tryz.underlying20
 a20:=Tryz.isAgg20
 z20:=Tryz.sizeOf20
 v20:=Tryz.zeroValue20
 t31:=Tryz.underlying24
 a31:=Tryz.isAgg24
 z31:=Tryz.sizeOf24
 v31:=Tryz.zeroValue24
 t37:=Tryz.underlying22
 a37:=Tryz.isAgg22
 z37:=Tryz.sizeOf22
 v37:=Tryz.zeroValue22
 t70:=Tryz.underlying340
 a70:=Tryz.isAgg340
 z70:=Tryz.sizeOf340
 v70:=Tryz.zeroValue340
 t72:=Tryz.underlying342
 a72:=Tryz.isAgg342
 z72:=Tryz.sizeOf342
 v72:=Tryz.zeroValue342
 t75:=Tryz.underlying344
 a75:=Tryz.isAgg344
 z75:=Tryz.sizeOf344
 v75:=Tryz.zeroValue344
 t76:=Tryz.underlying345
 a76:=Tryz.isAgg345
 z76:=Tryz.sizeOf345
 v76:=Tryz.zeroValue345
 t127:=Tryz.underlying361
 a127:=Tryz.isAgg361
 z127:=Tryz.sizeOf361
 v127:=Tryz.zeroValue361
 t164:=Tryz.underlying364
 a164:=Tryz.isAgg364
 z164:=Tryz.sizeOf364
 v164:=Tryz.zeroValue364 }
theorem Tryz.Builder_Extra_156:Builder.Extra Tryz.prog Tryz.lays156_ren:={
 sizeBuilder:=by kernel_rfl
 liesBuilder:=by kernel_rfl
 t5:=Tryz.underlying5
 a5:=Tryz.isAgg5
 z5:=Tryz.sizeOf5
 v5:=Tryz.zeroValue5
 infoByte:=by kernel_rfl
 cellsByte:=by kernel_rfl
 sizeByte:=by kernel_rfl
 neB5:=by decide }
open Go.RowKit in
theorem Tryz.strings_Join_none(a:Option Addr)(c:Nat)(sep:ByteArray)(w:World) :
 Calls Tryz.prog 285 #[.slice a 0 c,.string sep] w λe w'=>e=.returned (.string ⟨#[]⟩)/\w'=w:=Any.strings_Join_none Tryz.lays156 Tryz.Builder_Extra_156 a c sep w
open Go.RowKit in
theorem Tryz.strings_Join(bk o c:Nat)(xs:List ByteArray)(sep:ByteArray)(w:World)(hcells:∀ (j:Nat) x,xs[j]?=some x->w.cell? ⟨bk,o+j,none⟩=some (.string x))(hbk:bk<w.heap.size)(hN:xs.length<=140737488355328)(hcap:xs.length<=c)(hlen:(Lib.join (xs.map (·.data.toList)) sep.data.toList).length<=140737488355328) :
 Calls Tryz.prog 285 #[.slice (some ⟨bk,o,none⟩) xs.length c,.string sep] w λe w'=>e=.returned (.string ⟨(Lib.join (xs.map (·.data.toList)) sep.data.toList).toArray⟩)/\Below w.heap.size w w':=Any.strings_Join Tryz.lays156 Tryz.Builder_Extra_156 bk o c xs sep w hcells hbk hN hcap hlen
def Tryz.lays137_ren:Go.Shelf.Ren:=⟨fun|137=>274|217=>294|266=>303|n=>n,fun|9=>9|5=>5|3=>3|n=>n,fun|n=>n⟩
theorem Tryz.lays137:Go.Proofs.Lays.n137 Tryz.prog Tryz.lays137_ren:={
 mixed:=by kernel_rfl
 f137:=Tryz.func274.trans (congrArg some (by kernel_rfl))
 f217:=Tryz.func294.trans (congrArg some (by kernel_rfl))
 f266:=Tryz.func303.trans (congrArg some (by kernel_rfl))
 t3:=Tryz.underlying3
 a3:=Tryz.isAgg3
 z3:=Tryz.sizeOf3
 v3:=Tryz.zeroValue3
 t5:=Tryz.underlying5
 a5:=Tryz.isAgg5
 z5:=Tryz.sizeOf5
 v5:=Tryz.zeroValue5
 t9:=Tryz.underlying9
 a9:=Tryz.isAgg9
 z9:=Tryz.sizeOf9
 v9:=Tryz.zeroValue9 }
open Go.RowKit in
theorem Tryz.strings_IndexByte(s:ByteArray)(c:Int)(w:World) :
 Calls Tryz.prog 274 #[.string s,.int .u8 c] w λe w'=>e=.returned (.int .i64 (Lib.indexByte s.data.toList c.toNat.toUInt8))/\w'=w:=Any.strings_IndexByte Tryz.lays137 s c w
def Tryz.laysM246_ren:Go.Shelf.Ren:=⟨fun|246=>304|283=>308|284=>309|285=>310|286=>311|129=>227|317=>312|318=>313|319=>314|320=>315|337=>316|338=>317|n=>n,fun|2=>2|3=>3|9=>9|4=>4|171=>369|0=>0|53=>299|37=>22|5=>5|173=>371|212=>374|51=>33|20=>20|213=>375|46=>223|232=>376|233=>377|n=>n,fun|17=>1|18=>2|19=>3|n=>n⟩
def Tryz.laysM243_ren:Go.Shelf.Ren:=⟨fun|243=>296|246=>304|283=>308|284=>309|285=>310|286=>311|129=>227|317=>312|318=>313|319=>314|320=>315|337=>316|338=>317|n=>n,fun|3=>3|9=>9|2=>2|4=>4|171=>369|0=>0|53=>299|37=>22|5=>5|173=>371|212=>374|51=>33|20=>20|213=>375|46=>223|232=>376|233=>377|n=>n,fun|17=>1|18=>2|19=>3|n=>n⟩
def Tryz.laysM171_ren:Go.Shelf.Ren:=⟨fun|171=>277|243=>296|246=>304|283=>308|284=>309|285=>310|286=>311|129=>227|317=>312|318=>313|319=>314|320=>315|337=>316|338=>317|n=>n,fun|3=>3|9=>9|2=>2|4=>4|171=>369|0=>0|53=>299|37=>22|5=>5|173=>371|212=>374|51=>33|20=>20|213=>375|46=>223|232=>376|233=>377|n=>n,fun|17=>1|18=>2|19=>3|n=>n⟩
def Tryz.lays171_ren:Go.Shelf.Ren:=⟨fun|171=>277|243=>296|246=>304|283=>308|284=>309|285=>310|286=>311|129=>227|317=>312|318=>313|319=>314|320=>315|337=>316|338=>317|n=>n,fun|3=>3|9=>9|2=>2|4=>4|171=>369|0=>0|53=>299|37=>22|5=>5|173=>371|212=>374|51=>33|20=>20|213=>375|46=>223|232=>376|233=>377|n=>n,fun|17=>1|18=>2|19=>3|n=>n⟩
theorem Tryz.lays171:Go.Proofs.Lays.n171 Tryz.prog Tryz.lays171_ren:={
 mixed:=by kernel_rfl
 f129:=Tryz.func227.trans (congrArg some (by kernel_rfl))
 f171:=Tryz.func277.trans (congrArg some (by kernel_rfl))
 f243:=Tryz.func296.trans (congrArg some (by kernel_rfl))
 f246:=Tryz.func304.trans (congrArg some (by kernel_rfl))
 f283:=Tryz.func308.trans (congrArg some (by kernel_rfl))
 f284:=Tryz.func309.trans (congrArg some (by kernel_rfl))
 f285:=Tryz.func310.trans (congrArg some (by kernel_rfl))
 f286:=Tryz.func311.trans (congrArg some (by kernel_rfl))
 f317:=Tryz.func312.trans (congrArg some (by kernel_rfl))
 f318:=Tryz.func313.trans (congrArg some (by kernel_rfl))
 f319:=Tryz.func314.trans (congrArg some (by kernel_rfl))
 f320:=Tryz.func315.trans (congrArg some (by kernel_rfl))
 f337:=Tryz.func316.trans (congrArg some (by kernel_rfl))
 f338:=Tryz.func317.trans (congrArg some (by kernel_rfl))
 t0:=Tryz.underlying0
 a0:=Tryz.isAgg0
 z0:=Tryz.sizeOf0
 v0:=Tryz.zeroValue0
 t2:=Tryz.underlying2
 a2:=Tryz.isAgg2
 z2:=Tryz.sizeOf2
 v2:=Tryz.zeroValue2
 t3:=Tryz.underlying3
 a3:=Tryz.isAgg3
 z3:=Tryz.sizeOf3
 v3:=Tryz.zeroValue3
 t4:=Tryz.underlying4
 a4:=Tryz.isAgg4
 z4:=Tryz.sizeOf4
 v4:=Tryz.zeroValue4
 t5:=Tryz.underlying5
 a5:=Tryz.isAgg5
 z5:=Tryz.sizeOf5
 v5:=Tryz.zeroValue5
 t9:=Tryz.underlying9
 a9:=Tryz.isAgg9
 z9:=Tryz.sizeOf9
 v9:=Tryz.zeroValue9
 t20:=Tryz.underlying20
 a20:=Tryz.isAgg20
 z20:=Tryz.sizeOf20
 v20:=Tryz.zeroValue20
 t37:=Tryz.underlying22
 a37:=Tryz.isAgg22
 z37:=Tryz.sizeOf22
 v37:=Tryz.zeroValue22
 t46:=Tryz.underlying223
 a46:=Tryz.isAgg223
 z46:=Tryz.sizeOf223
 v46:=Tryz.zeroValue223
 t51:=Tryz.underlying33
 a51:=Tryz.isAgg33
 z51:=Tryz.sizeOf33
 v51:=Tryz.zeroValue33
 t53:=Tryz.underlying299
 a53:=Tryz.isAgg299
 z53:=Tryz.sizeOf299
 v53:=Tryz.zeroValue299
 t171:=Tryz.underlying369
 a171:=Tryz.isAgg369
 z171:=Tryz.sizeOf369
 v171:=Tryz.zeroValue369
 t173:=Tryz.underlying371
 a173:=Tryz.isAgg371
 z173:=Tryz.sizeOf371
 v173:=Tryz.zeroValue371
 t212:=Tryz.underlying374
 a212:=Tryz.isAgg374
 z212:=Tryz.sizeOf374
 v212:=Tryz.zeroValue374
 t213:=Tryz.underlying375
 a213:=Tryz.isAgg375
 z213:=Tryz.sizeOf375
 t232:=Tryz.underlying376
 a232:=Tryz.isAgg376
 z232:=Tryz.sizeOf376
 v232:=Tryz.zeroValue376
 t233:=Tryz.underlying377
 a233:=Tryz.isAgg377
 z233:=Tryz.sizeOf377
 v233:=Tryz.zeroValue377
 g17:=by kernel_rfl
 g18:=by kernel_rfl
 g19:=by kernel_rfl }
open Go.RowKit Go.Sort Go.Lib in
theorem Tryz.strconv_Itoa_small(i:Nat)(hi:i<100)(w:World) :
 Calls Tryz.prog 277 #[.int .i64 i] w λe w'=>e=.returned (.string ⟨(Lib.decDigits i).toArray⟩)/\w'=w:=Any.strconv_Itoa_small Tryz.lays171 i hi w
def Tryz.lays189_ren:Go.Shelf.Ren:=⟨fun|189=>95|125=>153|257=>152|128=>226|129=>227|294=>217|295=>218|296=>219|297=>220|298=>221|299=>222|216=>223|300=>224|301=>225|328=>267|329=>268|330=>269|331=>270|332=>271|215=>272|343=>292|n=>n,fun|28=>75|3=>3|46=>223|0=>0|51=>33|53=>299|4=>4|183=>292|182=>291|131=>270|5=>5|9=>9|218=>328|222=>332|228=>352|229=>353|n=>n,fun|n=>n⟩
theorem Tryz.lays189:Go.Proofs.Lays.n189 Tryz.prog Tryz.lays189_ren:={
 mixed:=by kernel_rfl
 f125:=Tryz.func153.trans (congrArg some (by kernel_rfl))
 f128:=Tryz.func226.trans (congrArg some (by kernel_rfl))
 f129:=Tryz.func227.trans (congrArg some (by kernel_rfl))
 f189:=Tryz.func95.trans (congrArg some (by kernel_rfl))
 f215:=Tryz.func272.trans (congrArg some (by kernel_rfl))
 f216:=Tryz.func223.trans (congrArg some (by kernel_rfl))
 f257:=Tryz.func152.trans (congrArg some (by kernel_rfl))
 f294:=Tryz.func217.trans (congrArg some (by kernel_rfl))
 f295:=Tryz.func218.trans (congrArg some (by kernel_rfl))
 f296:=Tryz.func219.trans (congrArg some (by kernel_rfl))
 f297:=Tryz.func220.trans (congrArg some (by kernel_rfl))
 f298:=Tryz.func221.trans (congrArg some (by kernel_rfl))
 f299:=Tryz.func222.trans (congrArg some (by kernel_rfl))
 f300:=Tryz.func224.trans (congrArg some (by kernel_rfl))
 f301:=Tryz.func225.trans (congrArg some (by kernel_rfl))
 f328:=Tryz.func267.trans (congrArg some (by kernel_rfl))
 f329:=Tryz.func268.trans (congrArg some (by kernel_rfl))
 f330:=Tryz.func269.trans (congrArg some (by kernel_rfl))
 f331:=Tryz.func270.trans (congrArg some (by kernel_rfl))
 f332:=Tryz.func271.trans (congrArg some (by kernel_rfl))
 f343:=Tryz.func292.trans (congrArg some (by kernel_rfl))
 t0:=Tryz.underlying0
 a0:=Tryz.isAgg0
 z0:=Tryz.sizeOf0
 v0:=Tryz.zeroValue0
 t3:=Tryz.underlying3
 a3:=Tryz.isAgg3
 z3:=Tryz.sizeOf3
 v3:=Tryz.zeroValue3
 t4:=Tryz.underlying4
 a4:=Tryz.isAgg4
 z4:=Tryz.sizeOf4
 v4:=Tryz.zeroValue4
 t5:=Tryz.underlying5
 a5:=Tryz.isAgg5
 z5:=Tryz.sizeOf5
 v5:=Tryz.zeroValue5
 t9:=Tryz.underlying9
 a9:=Tryz.isAgg9
 z9:=Tryz.sizeOf9
 v9:=Tryz.zeroValue9
 t28:=Tryz.underlying75
 a28:=Tryz.isAgg75
 z28:=Tryz.sizeOf75
 v28:=Tryz.zeroValue75
 t46:=Tryz.underlying223
 a46:=Tryz.isAgg223
 z46:=Tryz.sizeOf223
 v46:=Tryz.zeroValue223
 t51:=Tryz.underlying33
 a51:=Tryz.isAgg33
 z51:=Tryz.sizeOf33
 v51:=Tryz.zeroValue33
 t53:=Tryz.underlying299
 a53:=Tryz.isAgg299
 z53:=Tryz.sizeOf299
 v53:=Tryz.zeroValue299
 t131:=Tryz.underlying270
 a131:=Tryz.isAgg270
 z131:=Tryz.sizeOf270
 v131:=Tryz.zeroValue270
 t182:=Tryz.underlying291
 a182:=Tryz.isAgg291
 z182:=Tryz.sizeOf291
 v182:=Tryz.zeroValue291
 t183:=Tryz.underlying292
 a183:=Tryz.isAgg292
 z183:=Tryz.sizeOf292
 v183:=Tryz.zeroValue292
 t218:=Tryz.underlying328
 a218:=Tryz.isAgg328
 z218:=Tryz.sizeOf328
 v218:=Tryz.zeroValue328
 t222:=Tryz.underlying332
 a222:=Tryz.isAgg332
 z222:=Tryz.sizeOf332
 v222:=Tryz.zeroValue332
 t228:=Tryz.underlying352
 a228:=Tryz.isAgg352
 z228:=Tryz.sizeOf352
 v228:=Tryz.zeroValue352
 t229:=Tryz.underlying353
 a229:=Tryz.isAgg353
 z229:=Tryz.sizeOf353
 v229:=Tryz.zeroValue353 }
open Go.Sort Go.RowKit in
theorem Tryz.slices_Sort_int(blk off cap:Nat)(zs:List Int)(w:World)(hH:Holds (Value.int .i64) w blk off zs.toArray)(hblk:blk<w.heap.size)(hsz:zs.length<4611686018427387904) :
 Calls Tryz.prog 95 #[.slice (some ⟨blk,off,none⟩) zs.length cap] w λe w' =>
  e=.returned (.tuple #[])/\∃ n os,w'=grow (putRow (Value.int .i64) (Sort.ahead w n) blk off (zs.mergeSort λx y=>decide (x<=y)).toArray) os:=Any.slices_Sort_int Tryz.lays189 blk off cap zs w hH hblk hsz
def Tryz.lays105_ren:Go.Shelf.Ren:=⟨fun|105=>242|212=>279|99=>280|165=>281|166=>282|170=>283|169=>284|263=>297|264=>298|206=>299|240=>300|241=>301|276=>305|277=>306|n=>n,fun|9=>9|3=>3|4=>4|20=>20|0=>0|46=>223|109=>337|5=>5|72=>342|76=>345|51=>33|146=>357|53=>299|148=>359|70=>340|37=>22|75=>344|127=>361|164=>364|80=>127|n=>n,fun|n=>n⟩
theorem Tryz.lays105:Go.Proofs.Lays.n105 Tryz.prog Tryz.lays105_ren:={
 mixed:=by kernel_rfl
 f99:=Tryz.func280.trans (congrArg some (by kernel_rfl))
 f105:=Tryz.func242.trans (congrArg some (by kernel_rfl))
 f165:=Tryz.func281.trans (congrArg some (by kernel_rfl))
 f166:=Tryz.func282.trans (congrArg some (by kernel_rfl))
 f169:=Tryz.func284.trans (congrArg some (by kernel_rfl))
 f170:=Tryz.func283.trans (congrArg some (by kernel_rfl))
 f206:=Tryz.func299.trans (congrArg some (by kernel_rfl))
 f212:=Tryz.func279.trans (congrArg some (by kernel_rfl))
 f240:=Tryz.func300.trans (congrArg some (by kernel_rfl))
 f241:=Tryz.func301.trans (congrArg some (by kernel_rfl))
 f263:=Tryz.func297.trans (congrArg some (by kernel_rfl))
 f264:=Tryz.func298.trans (congrArg some (by kernel_rfl))
 f276:=Tryz.func305.trans (congrArg some (by kernel_rfl))
 f277:=Tryz.func306.trans (congrArg some (by kernel_rfl))
 t0:=Tryz.underlying0
 a0:=Tryz.isAgg0
 z0:=Tryz.sizeOf0
 v0:=Tryz.zeroValue0
 t3:=Tryz.underlying3
 a3:=Tryz.isAgg3
 z3:=Tryz.sizeOf3
 v3:=Tryz.zeroValue3
 t4:=Tryz.underlying4
 a4:=Tryz.isAgg4
 z4:=Tryz.sizeOf4
 v4:=Tryz.zeroValue4
 t5:=Tryz.underlying5
 a5:=Tryz.isAgg5
 z5:=Tryz.sizeOf5
 v5:=Tryz.zeroValue5
 t9:=Tryz.underlying9
 a9:=Tryz.isAgg9
 z9:=Tryz.sizeOf9
 v9:=Tryz.zeroValue9
 t20:=Tryz.underlying20
 a20:=Tryz.isAgg20
 z20:=Tryz.sizeOf20
 v20:=Tryz.zeroValue20
 t37:=Tryz.underlying22
 a37:=Tryz.isAgg22
 z37:=Tryz.sizeOf22
 v37:=Tryz.zeroValue22
 t46:=Tryz.underlying223
 a46:=Tryz.isAgg223
 z46:=Tryz.sizeOf223
 v46:=Tryz.zeroValue223
 t51:=Tryz.underlying33
 a51:=Tryz.isAgg33
 z51:=Tryz.sizeOf33
 v51:=Tryz.zeroValue33
 t53:=Tryz.underlying299
 a53:=Tryz.isAgg299
 z53:=Tryz.sizeOf299
 v53:=Tryz.zeroValue299
 t70:=Tryz.underlying340
 a70:=Tryz.isAgg340
 z70:=Tryz.sizeOf340
 v70:=Tryz.zeroValue340
 t72:=Tryz.underlying342
 a72:=Tryz.isAgg342
 z72:=Tryz.sizeOf342
 v72:=Tryz.zeroValue342
 t75:=Tryz.underlying344
 a75:=Tryz.isAgg344
 z75:=Tryz.sizeOf344
 v75:=Tryz.zeroValue344
 t76:=Tryz.underlying345
 a76:=Tryz.isAgg345
 z76:=Tryz.sizeOf345
 v76:=Tryz.zeroValue345
 t109:=Tryz.underlying337
 a109:=Tryz.isAgg337
 z109:=Tryz.sizeOf337
 v109:=Tryz.zeroValue337
 t127:=Tryz.underlying361
 a127:=Tryz.isAgg361
 z127:=Tryz.sizeOf361
 v127:=Tryz.zeroValue361
 t146:=Tryz.underlying357
 a146:=Tryz.isAgg357
 z146:=Tryz.sizeOf357
 v146:=Tryz.zeroValue357
 t148:=Tryz.underlying359
 a148:=Tryz.isAgg359
 z148:=Tryz.sizeOf359
 v148:=Tryz.zeroValue359
 t164:=Tryz.underlying364
 a164:=Tryz.isAgg364
 z164:=Tryz.sizeOf364
 v164:=Tryz.zeroValue364 }
theorem Tryz.Builder_Extra_105:Builder.Extra Tryz.prog Tryz.lays105_ren:={
 sizeBuilder:=by kernel_rfl
 liesBuilder:=by kernel_rfl
 t5:=Tryz.underlying5
 a5:=Tryz.isAgg5
 z5:=Tryz.sizeOf5
 v5:=Tryz.zeroValue5
 infoByte:=by kernel_rfl
 cellsByte:=by kernel_rfl
 sizeByte:=by kernel_rfl
 neB5:=by decide }
open Go.RowKit Go.Lib in
theorem Tryz.strings_Repeat(s:ByteArray)(c:Nat)(w:World)(hc:c<=9223372036854775807)(hlen:s.size*c<=140737488355328) :
 Calls Tryz.prog 242 #[.string s,.int .i64 c] w λe w'=>e=.returned (.string ⟨(Lib.repeatL s.data.toList c).toArray⟩)/\Below w.heap.size w w':=Any.strings_Repeat Tryz.lays105 Tryz.Builder_Extra_105 s c w hc hlen
open Go.RowKit Go.Sort in
theorem Tryz.slices_Sort_int_none(p:Option Addr)(cap:Nat)(w:World) :
 Calls Tryz.prog 95 #[.slice p 0 cap] w λe w'=>e=.returned (.tuple #[])/\w'=w:=Any.slices_Sort_int_none Tryz.lays189 p cap w
end Go.Proofs
end
namespace Go.Proofs.YtahmkkjcchnonaaGreatDoor.Abs
theorem ar5:∀ {es:List (List PV)} {l:List Bytes},Ox es=some l->es=l.map Bh
 |[],l,h=>by cases h;rfl
 |e::es,l,h=>by
   match e,h with
   |[.str s],h=>
     rw[Ox]at h;obtain⟨m',hm,rfl⟩:=dz0.1 h;rw[e2c,<-ar5 hm];rfl
theorem b9v(sep:Bytes):∀ l:List Bytes,M3 sep l=Lib.join l sep
 |[]=>rfl
 |[x]=>by simp[M3,Lib.join,List.intercalate]
 |x::y::l=>by
   rw[M3,b9v sep (y::l)];simp[Lib.join,List.intercalate,List.intersperse]
def a67(x:List UInt8):ByteArray:=⟨x.toArray⟩
theorem b43(l:List (List UInt8)):(l.map a67).map (·.data.toList)=l:=by
 rw[e2t];have:((λx:ByteArray=>x.data.toList)∘a67)=id:=by funext x;simp[a67]
 rw[this,List.map_id]
theorem ct7{x:AV}{l:List Bytes}{es:List (List PV)}(hx:Gv x=some es)(he:Ox es=some l)(sep:Bytes)(hl:l.length<=1000000)(hlen:(M3 sep l).length<=1000000)(H:AH) :
 C Tryz.prog 285 [x,.str sep] H (λy H'=>y=.str (M3 sep l)/\H'=H):=by
 rw[b9v]at hlen ⊢;refine a5p ⟨Tryz.f285,Tryz.func285,kk,kk⟩ (v:=.string ⟨(Lib.join l sep).toArray⟩) ?_ λE=>.pure (x:=.str _) (.str _);intro E w vs hs hr;obtain⟨v,u,rfl,h1,h2⟩:=hr.two;rw[K2 h2];have hes:=ar5 he;cases x with
 |emp=>
   cases hx;have hl0:l=[]:=(by cases l with|nil=>rfl|cons a b=>cases hes);subst hl0;obtain⟨a,rfl⟩:=Hc h1
   refine(Tryz.strings_Join_none a 0 ⟨sep.toArray⟩ w).mono ?_;rintro e w' ⟨rfl,rfl⟩;exact⟨rfl,Go.RowKit.Below.refl _ _⟩
 |fz es' =>
   cases hx;subst hes;obtain⟨a,cap,rfl,hcap,hb⟩:=Mp h1;by_cases h0:l=[]
   ·subst h0
    refine(Tryz.strings_Join_none a cap ⟨sep.toArray⟩ w).mono ?_;rintro e w' ⟨rfl,rfl⟩;exact⟨rfl,Go.RowKit.Below.refl _ _⟩
   ·obtain⟨b,off,sz,cells,t,q,rfl,hF,hsz,hin,hc⟩:=hb (by simpa using h0);have hw:=hs.frz b _ (.inl hF);have hsz1:sz=1:=by
     obtain⟨x,r,rfl⟩:=List.exists_cons_of_ne_nil h0
     exact(hsz (Bh x) (by simp)).symm
    subst hsz1;have key:=Tryz.strings_Join b off cap (l.map a67) ⟨sep.toArray⟩ w (λj x hx=>by
     rw[e0t]at hx;obtain⟨y,hy,rfl⟩:=dz0.1 hx;have hj:j<l.length:=by
      apply dx9;intro h;rw[dz3 om]at hy;cases hy
     simp only[e1q]at hin;have hlt:off+j<cells.size:=om;have hcc:=hc j (Bh y) 0 (.str y) cells[off+j] (by rw[e0t,hy];rfl) rfl (by rw[Nat.mul_one,e2p];exact dx8 hlt);have hv:cells[off+j]=.string ⟨y.toArray⟩:=by
      generalize cells[off+j]=v at hcc;cases hcc;rfl
     show World.cell? w ⟨b,off+j,none⟩=_;simp only[World.cell?,hw];rw[dx8 hlt,hv];rfl) (Pk hw) (by simp;omega) (by simpa using hcap) (by rw[b43];show(Lib.join l sep).length<=_;omega)
    rw[b43]at key;simpa using key
 |_=>cases hx
theorem ct6{args:List AV}{H:AH}{y:AV}{G:AH}(h:a1q 285 args H=some (y,G)):C Tryz.prog 285 args H (λy' G'=>y'=y/\G'=G):=by
 unfold a1q at h;split at h
 ·rename_i x sep;obtain⟨l,hl,h⟩:=dy6.1 h;obtain⟨es,hx,he⟩:=dy6.1 hl;split at h
  ·rename_i hc;cases h;exact ct7 hx he sep hc.1 hc.2 []
  ·cases h
 ·cases h
theorem b5m(s:Bytes):∀ n,U5 s n=Lib.repeatL s n
 |0=>rfl
 |n+1=>by rw[U5,Lib.repeatL,b5m s n]
theorem c3j{args:List AV}{H:AH}{y:AV}{G:AH}(h:a0q 242 args H=some (y,G)):C Tryz.prog 242 args H (λy' G'=>y'=y/\G'=G):=by
 unfold a0q at h;split at h
 ·rename_i s n;split at h
  ·rename_i hc;cases h;obtain⟨c,rfl⟩:∃ c:Nat,n=(c:Int):=⟨n.toNat,by omega⟩;rw[e10]at *;refine a5p ⟨Tryz.f242,Tryz.func242,kk,kk⟩ (v:=.string ⟨(U5 s c).toArray⟩) ?_ λE=>.pure (x:=.str _) (.str _);intro E w vs _ hr;obtain⟨v,u,rfl,h1,h2⟩:=hr.two;rw[K2 h1,Ec h2,b5m];exact Tryz.strings_Repeat ⟨s.toArray⟩ c w om (by have:=hc.2.2;simp[ByteArray.size];omega)
  ·cases h
 ·cases h
theorem ba5(c:UInt8):∀ s,Qj c s=Lib.indexByte s c
 |[]=>rfl
 |x::l=>by
   have h:=Lib.indexByte_ge l c;rw[Qj,Lib.indexByte,ba5 c l];by_cases h1:x=c
   ·rw[if_pos h1,if_pos (by simpa using h1)]
   ·rw[if_neg h1,show(if(x==c)=true then(0:Int)else if(Lib.indexByte l c== -1)=true then -1 else Lib.indexByte l c+1)=if(Lib.indexByte l c== -1)=true then -1 else Lib.indexByte l c+1 from if_neg (by simpa using h1)];by_cases h2:Lib.indexByte l c<0
    ·have h3:Lib.indexByte l c= -1:=om;rw[if_pos h2,if_pos (by rw[h3];rfl)]
    ·rw[if_neg h2,if_neg (by simp;omega)]
theorem cz7{args:List AV}{H:AH}{y:AV}{G:AH}(h:a1v 274 args H=some (y,G)):C Tryz.prog 274 args H (λy' G'=>y'=y/\G'=G):=by
 unfold a1v at h;split at h
 ·rename_i s n;split at h
  ·cases h;refine a5p ⟨Tryz.f274,Tryz.func274,kk,kk⟩ (v:=.int .i64 (Qj (UInt8.ofNat n.toNat) s)) ?_ λE=>.pure (x:=.int _ _) (.int _ _);intro E w vs _ hr;obtain⟨v,u,rfl,h1,h2⟩:=hr.two;rw[K2 h1,Ec h2,ba5]
   refine(Tryz.strings_IndexByte ⟨s.toArray⟩ n w).mono ?_;rintro e w' ⟨rfl,rfl⟩;exact⟨rfl,Go.RowKit.Below.refl _ _⟩
  ·cases h
 ·cases h
theorem ct8{args:List AV}{H:AH}{y:AV}{G:AH}(h:a1r 277 args H=some (y,G)):C Tryz.prog 277 args H (λy' G'=>y'=y/\G'=G):=by
 unfold a1r at h;split at h
 ·rename_i n;split at h
  ·rename_i hc;cases h;obtain⟨c,rfl⟩:∃ c:Nat,n=(c:Int):=⟨n.toNat,by omega⟩;rw[e10]at *;refine a5p ⟨Tryz.f277,Tryz.func277,kk,kk⟩ (v:=.string ⟨(E9 c).toArray⟩) ?_ λE=>.pure (x:=.str _) (.str _);intro E w vs _ hr;obtain⟨v,rfl,h1⟩:=hr.one;rw[Ec h1];have hd:Lib.decDigits c=E9 c:=by
    rw[Lib.decDigits,dif_pos om];rfl
   refine(Tryz.strconv_Itoa_small c om w).mono ?_;rintro e w' ⟨rfl,rfl⟩;rw[hd];exact⟨rfl,Go.RowKit.Below.refl _ _⟩
  ·cases h
 ·cases h
def g94:FT:=⟨1,7,[.tmp 1],[0,2],false,(.seq (.reg 0 [y 1 (.emp)]) (.seq (.ifc 3 [] (.op (.eqnil false (.t 0)) [(v 0)]) (.seq (.reg 0 [y 1 (.emp)]) .ret) .skip) (.seq (.reg 5 [m 1 (.op (.append 1 8 [.int .i64 0] (.t 0) (.t 1)) [(.op (.bslice 1 0 [.int .i64 0] []) []),(v 0)])]) .ret)))⟩
theorem h94:g94.is Tryz.prog 94:=⟨⟨Tryz.f94,_,Tryz.func94,kk,rfl,rfl,kk,kk⟩,kk⟩
def a2h:FT:=⟨1,7,[.tmp 1],[0,2],false,(.seq (.reg 0 [y 1 (.emp)]) (.seq (.ifc 3 [] (.op (.eqnil false (.t 0)) [(v 0)]) (.seq (.reg 0 [y 1 (.emp)]) .ret) .skip) (.seq (.reg 5 [m 1 (.op (.append 5 56 [.int .i64 0,.int .i64 0,.str [],.str [],.int .i64 0] (.t 0) (.t 1)) [(.op (.bslice 5 0 [.int .i64 0,.int .i64 0,.str [],.str [],.int .i64 0] []) []),(v 0)])]) .ret)))⟩
theorem d2y:a2h.is Tryz.prog 234:=⟨⟨Tryz.f234,_,Tryz.func234,kk,rfl,rfl,kk,kk⟩,kk⟩
def g45:FT:=⟨1,35,[.tmp 1],[0,2,3,5,6,8,9,10,11,12,21,25,26,27,28],true,(.seq (.reg 0 [y 1 (.emp)]) (.seq (.reg 0 [z 2 0]) (.seq (.seq (.reg 0 [m 6 (d 0),p 7 (ln (d 6)),z 8 0]) (.block 0 (.loop [0,2,6,7,8] [] (.seq (.reg 0 [p 9 (b2 .lss (d 8) (d 7))]) (.seq (.ifv 9 .skip (.exit 0)) (.seq (.block 1 (.seq (.reg 13 [m 3 (ld (ia 1 (d 6) (d 8)))]) (.seq (.reg 15 [m 2 (b2 .add (v 2) (ln (v 3)))]) (.ifc 19 [] (bk .lss 0 (v 2)) (.reg 0 [p 10 (.op (.bad) []),e (.bad) []]) .skip)))) (.reg 22 [m 8 (bk .add 1 (d 8))]))))))) (.seq (.reg 23 [m 4 (.op (.call 93 [(.c (.emp)),(.t 0)]) [(v 2)])]) (.seq (.seq (.reg 0 [m 11 (d 0),p 12 (ln (d 11)),z 13 0]) (.block 2 (.loop [4,11,12,13] [(4,6)] (.seq (.reg 0 [p 14 (b2 .lss (d 13) (d 12))]) (.seq (.ifv 14 .skip (.exit 2)) (.seq (.block 3 (.seq (.reg 29 [m 5 (ld (ia 1 (d 11) (d 13)))]) (.reg 31 [m 4 (.op (.append 6 32 [.int .i64 0,.int .i64 0,.int .u32 0,.int .u32 0,.int .u32 0,.int .u32 0] (.t 0) (.t 1)) [(v 4),(v 5)])]))) (.reg 34 [m 13 (bk .add 1 (d 13))]))))))) (.seq (.reg 35 [m 1 (v 4)]) .ret))))))⟩
theorem h45:g45.is Tryz.prog 45:=⟨⟨Tryz.f45,_,Tryz.func45,kk,rfl,rfl,kk,kk⟩,kk⟩
def a98:FT:=⟨1,35,[.tmp 1],[0,2,3,5,6,8,9,10,11,12,21,25,26,27,28],true,(.seq (.reg 0 [y 1 (.emp)]) (.seq (.reg 0 [z 2 0]) (.seq (.seq (.reg 0 [m 6 (d 0),p 7 (ln (d 6)),z 8 0]) (.block 0 (.loop [0,2,6,7,8] [] (.seq (.reg 0 [p 9 (b2 .lss (d 8) (d 7))]) (.seq (.ifv 9 .skip (.exit 0)) (.seq (.block 1 (.seq (.reg 13 [m 3 (ld (ia 1 (d 6) (d 8)))]) (.seq (.reg 15 [m 2 (b2 .add (v 2) (ln (v 3)))]) (.ifc 19 [] (bk .lss 0 (v 2)) (.reg 0 [p 10 (.op (.bad) []),e (.bad) []]) .skip)))) (.reg 22 [m 8 (bk .add 1 (d 8))]))))))) (.seq (.reg 23 [m 4 (.op (.call 307 [(.c (.emp)),(.t 0)]) [(v 2)])]) (.seq (.seq (.reg 0 [m 11 (d 0),p 12 (ln (d 11)),z 13 0]) (.block 2 (.loop [4,11,12,13] [(4,2)] (.seq (.reg 0 [p 14 (b2 .lss (d 13) (d 12))]) (.seq (.ifv 14 .skip (.exit 2)) (.seq (.block 3 (.seq (.reg 29 [m 5 (ld (ia 1 (d 11) (d 13)))]) (.reg 31 [m 4 (.op (.append 2 16 [.int .i64 0,.int .i64 0] (.t 0) (.t 1)) [(v 4),(v 5)])]))) (.reg 34 [m 13 (bk .add 1 (d 13))]))))))) (.seq (.reg 35 [m 1 (v 4)]) .ret))))))⟩
theorem d21:a98.is Tryz.prog 302:=⟨⟨Tryz.f302,_,Tryz.func302,kk,rfl,rfl,kk,kk⟩,kk⟩
def H9:List (Nat×FT):=[(94,g94),(234,a2h),(45,g45),(302,a98)]
theorem b8f:A9 H9 94=some g94:=kk
theorem b8h:A9 H9 234=some a2h:=kk
theorem b8g:A9 H9 45=some g45:=kk
theorem cb6:A9 H9 302=some a98:=kk
theorem Tv:∀ p∈H9,p.2.is Tryz.prog p.1:=by
 intro p hp;simp only[H9,e2g,e1a,or_false]at hp;rcases hp with rfl|rfl|rfl|rfl
 ·exact h94
 ·exact d2y
 ·exact h45
 ·exact d21
def Di(o:Option Bytes):AV:=.tuple [.str (o.getD []),.bool o.isSome]
theorem b39:∀ (l:Bytes) (k:Nat),k<l.length->w4 (l.take (k+1))=w4 (l.take k)+256 ^ k*(l.getD k default).toNat
 |[],k,h=>absurd h (e1z _)
 |x::l,0,_=>by simp[w4]
 |x::l,k+1,h=>by
   have ih:=b39 l k (by simpa using h);rw[e08,w4,ih,e08,w4,e0d,Nat.mul_add,Nat.pow_succ,<-Nat.mul_assoc];have:256*256 ^ k=256 ^ k*256:=Nat.mul_comm _ _;rw[this];omega
theorem bt1(a:Nat)(c:UInt8)(k:Nat)(ha:a<256 ^ k)(hk:k<4):IntKind.u32.wrap (((BitVec.ofInt IntKind.u32.bits (a:Int) ||| BitVec.ofInt IntKind.u32.bits (IntKind.u32.wrap ((c.toNat:Int)*2 ^ min (8*(k:Int)).toNat IntKind.u32.bits))).toNat:Nat):Int)=((a+256 ^ k*c.toNat:Nat):Int):=by
 have hb:IntKind.u32.bits=32:=rfl;have hc:=c.toNat_lt;rw[hb];have key:∀ k:Nat,k<4->∀ a:Nat,a<256 ^ k->IntKind.u32.wrap (((BitVec.ofInt 32 (a:Int) ||| BitVec.ofInt 32 (IntKind.u32.wrap ((c.toNat:Int)*2 ^ (8*k)))).toNat:Nat):Int)=((a+256 ^ k*c.toNat:Nat):Int):=by
  intro k hk a ha;have e256:256 ^ k=2 ^ (8*k):=by rw[Nat.pow_mul]
  rw[e256]at ha ⊢;have hle:2 ^ (8*k)<=2 ^ 24:=Nat.pow_le_pow_right om om;have hpos:0<2 ^ (8*k):=Nat.pow_pos om;have hm:c.toNat*2 ^ (8*k)<=255*2 ^ 24:=Nat.mul_le_mul om hle;have e0:(c.toNat:Int)*2 ^ (8*k)=((c.toNat*2 ^ (8*k):Nat):Int):=by push_cast;rfl
  have e3:IntKind.u32.wrap ((c.toNat*2 ^ (8*k):Nat):Int)=((c.toNat*2 ^ (8*k):Nat):Int):=by rw[IntKind.wrap_u32];omega
  rw[e0,e3,BitVec.toNat_or,BitVec.toNat_ofInt,BitVec.toNat_ofInt];have e1:(((c.toNat*2 ^ (8*k):Nat):Int)%((2 ^ 32:Nat):Int)).toNat=c.toNat <<< (8*k):=by rw[Nat.shiftLeft_eq];omega
  have e2:((a:Int)%((2 ^ 32:Nat):Int)).toNat=a:=om;rw[e1,e2,Nat.or_comm,<-Nat.shiftLeft_add_eq_or_of_lt ha c.toNat,Nat.shiftLeft_eq,IntKind.wrap_u32,Nat.mul_comm (2 ^ (8*k))];omega
 have e:(min (8*(k:Int)).toNat 32)=8*k:=om;rw[e];exact key k hk a ha
theorem c17(l:Sl Bytes)(hl:(els l).length<=1000000)(hb:(els l).flatten.length<=1000000)(H:AH):K tab A5 A4 243 [A0 Bh l] H=some (.agg (Qv (Dh (els l).flatten)),H):=by
 refine Ah cj8 rfl (by simp only[t0]) rfl ?_ H;have hj:=ct5 l [] hl (by rw[az7];exact hb);simp only[az7]at hj
 simp(disch:=omega)only[a9t,t0,seval,hj]
 generalize (els l).flatten=b at *;clear hj;generalize hr:Ad _ _ _=r;refine B7 hr ((b.length+3)/4)
  (λj=>[.top,.ptr 0 0 0 1,.ptr 1 0 0 1,.str b,.int .i64 (4*j:Nat),.top,.top,.top,.top,.top,.top,.top,.top,.top,.top,.top,.top,.top,.top,.top])
  (λj=>[some [[.int .u32 0,.int .u32 0,.int .u32 0,.int .u32 0]],some [Qv (Nn b j)]]) (λj=>True) ?_ ?_ trivial ?_ ?_
 ·simp
 ·rfl
 ·intro j hj _;have hj':(((4*j:Nat):Int)<(b.length:Int)):=om;rw[b4g b j om];generalize Nn b j=S;have hmin:(if(b.length:Int)<((4*j:Nat):Int)+4 then(b.length:Int)else((4*j:Nat):Int)+4)=((min (4*j+4) b.length:Nat):Int):=by split<;>omega
  simp(disch:=first|omega|decide)only[t0,seval,hj',Qv,e2b];clear hr;generalize hr:Ad _ _ _=r;have hch:List.drop (4*j) (List.take (if(b.length:Int)<((4*j:Nat):Int)+4 then(b.length:Int)else((4*j:Nat):Int)+4).toNat b)=(b.drop (4*j)).take 4:=by
   rw[hmin,e10,List.drop_take];rcases e2l (4*j+4) b.length with h|h
   ·rw[Nat.min_eq_left om,show 4*j+4-4*j=4 by omega]
   ·rw[Nat.min_eq_right om,dz1 (by rw[e19];omega),dz1 (by rw[e19];omega)]
  rw[hch]at hr;have hcl:((b.drop (4*j)).take 4).length<=4:=by rw[e1f];omega
  generalize (b.drop (4*j)).take 4=ch at *;refine G7 (Q:=λr=>Rd _ _ _ _ (F3 _ _ (Be _ _ (B0 _ (Be _ _ (B0 _ r)))))) hr ch.length
   (λk=>[.top,.ptr 0 0 0 1,.ptr 1 0 0 1,.str b,.int .i64 (4*j:Nat),.int .u32 (w4 (ch.take k):Nat),.top,.top,.top,.own 2 1 0 ch.length ch.length,.int .i64 ch.length,.int .i64 k,.top,.top,.top,.top,.top,.top,.top,.top])
   (λk=>[some [[.int .u32 0,.int .u32 0,.int .u32 0,.int .u32 0]],some [[.int .u32 S.a.toNat,.int .u32 S.b.toNat,.int .u32 S.c.toNat,.int .u32 S.d.toNat]],some (ch.map λb=>[.int .u8 b.toNat])]) (λk=>True) ?_ ?_ trivial ?_ ?_
  ·simp[w4]
  ·rfl
  ·intro k hk _;have hk':((k:Int)<(ch.length:Int)):=om;have hw:=Zp (ch.take k);rw[e1f,Nat.min_eq_left om]at hw;have hor:=bt1 (w4 (ch.take k)) (ch.getD k default) k hw om;have hc:=(ch.getD k default).toNat_lt;rw[b39 ch k hk]
   simp(disch:=first|omega|decide)only[t0,seval,hk',e2b,IntWalk.u32_in,e1q,G9,hor];rfl
  ·intro _;rw[e1g];have hw:w4 ch<4294967296:=by
    have:=Zp ch;have h2:256 ^ ch.length<=256 ^ 4:=Nat.pow_le_pow_right om om;omega
   have hW:((w4 ch:Nat):Int)=((UInt32.ofNat (w4 ch)).toNat:Int):=(by rw[UInt32.toNat_ofNat'];omega);rw[hW];generalize UInt32.ofNat (w4 ch)=W
   simp(disch:=first|omega|decide)only[t0,seval,e2k,e2b];clear hr
   iterate 5 (rw[Sc];simp(disch:=first|omega|decide)only[t0,seval,e2b,b33])
   refine⟨?_,rfl⟩;have e:(((4*j:Nat):Int)+4)=((4*(j+1):Nat):Int):=om;rw[e]
 ·intro _;have e:Nn b ((b.length+3)/4)=Dh b:=by unfold Nn Dh;rw[<-ao8,e1g]
  rw[e];generalize Dh b=S
  simp(disch:=omega)only[t0,seval,Qv]
theorem d99(E:CallF)(a:List Opd)(c:Nat)(V:Opd->AV)(H:AH)(args:List AV):Kc A4 E 243 a c V H args false=Sv (Kp A4 E 243 a c V H) (Fs H args) c H (E 243 (Bc H args) []):=a3m rfl _ _ _ _ _ _
theorem Ia(E:CallF)(a:List Opd)(c:Nat)(V:Opd->AV)(H:AH)(args:List AV):Kc A4 E 164 a c V H args false=Sv (Kp A4 E 164 a c V H) (Fs H args) c H (E 164 (Bc H args) []):=a3m rfl _ _ _ _ _ _
theorem c18(b:Bytes)(hb:b.length<=1000000)(H:AH):K tab A5 A4 243 [.fz [[.str b]]] H=some (.agg [.int .u32 (Dh b).a.toNat,.int .u32 (Dh b).b.toNat,.int .u32 (Dh b).c.toNat,.int .u32 (Dh b).d.toNat],H):=by
 have h:=c17 (some [b]) (by simp[els]) (by simpa [els]using hb) H;have e:(els (some [b])).flatten=b:=by simp[els]
 rw[e]at h;exact h
theorem c13(s t:Sum):(s=t)↔((s.a.toNat:Int)=t.a.toNat/\(s.b.toNat:Int)=t.b.toNat/\(s.c.toNat:Int)=t.c.toNat/\(s.d.toNat:Int)=t.d.toNat):=by
 obtain⟨a,b,c,d⟩:=s;obtain⟨e,f,g,h⟩:=t;simp only[Sum.mk.injEq,ap8]
theorem d6j(p:Ptr)(b:Bytes)(hb:b.length<=1000000)(H:AH):K tab A5 A4 180 [.agg (A7 p),.str b] H=some (.bool (decide (p.sum=Dh b)),H):=by
 refine Ah cm7 rfl rfl rfl ?_ H
 simp(disch:=try exact dz)only[ab5,t0,seval,d99,c18,if_pos,A7];simp only[c13,e20]
theorem c64(a b c:Int)(H:AH):K tab A5 A4 164 [.str [49,52,50],.fz [[.int .i64 a],[.int .i64 b],[.int .i64 c]]] H=some (.str (B6 [1,4,2] [a,b,c]),H):=Ry _ (by decide) (some [a,b,c]) H
theorem a3t(k b:Int)(l:Bytes)(hl:l.length<=1000000)(H:AH):K tab A5 A4 179 [.agg [.int .i64 k,.int .i64 b,.str l]] H=some (.str (Dn ⟨k,b,l⟩),H):=by
 refine Ah cm9 rfl rfl rfl ?_ H;have h7:(B6 [1,4,2] [k,b,(l.length:Int)]).length=7:=G5 _ _ rfl;by_cases hm:Hg ⟨k,b,l⟩=true
 ·have bb8:l.length<=249:=by simp only[Hg,e14,e0r]at hm;exact hm.2
  simp(disch:=try exact dz)only[a2m,t0,seval,aj2,hm,Ia,c64,au3,if_pos,e2b,h7,ao4];have e:(256-((7+l.length:Nat):Int)).toNat=249-l.length:=om;rw[e];unfold Dn;rw[if_pos hm]
 ·have hm':Hg ⟨k,b,l⟩=false:=by simpa using hm
  simp(disch:=try exact dz)only[a2m,t0,seval,aj2,hm'];unfold Dn;rw[if_neg hm]
theorem b6c(x:Block):(Dn x).length<=1000000:=e2q (b6d x) om
theorem b5x(k b:Int)(l:Bytes)(ok:Bool)(p:Ptr)(kind:Int)(hl:l.length<=1000000)(H:AH):K tab A5 A4 117 [.agg [.int .i64 k,.int .i64 b,.str l,.bool ok],.agg (A7 p),.int .i64 kind] H =
 some (.bool (ok&&(decide (p.sum=Dh (Dn ⟨k,b,l⟩))&&(decide (b=p.birth)&&decide (k=kind)))),H):=by
 refine Ah cq9 rfl rfl rfl ?_ H;have hp:=b6c ⟨k,b,l⟩;cases ok with
 |false=>
   simp(disch:=try exact dz)only[V0,t0,seval,A7,if_pos]
 |true=>
   have hf:=λH=>d6j p (Dn ⟨k,b,l⟩) hp H;simp only[A7]at hf;cases h1:decide (p.sum=Dh (Dn ⟨k,b,l⟩))<;>simp only[h1]at hf
   ·simp(disch:=try exact dz)only[V0,t0,seval,A7,a3t,hf,if_pos]
   ·cases h2:decide (b=p.birth)
    ·simp(disch:=try exact dz)only[V0,t0,seval,A7,a3t,hf,if_pos,h2]
    ·simp(disch:=try exact dz)only[V0,t0,seval,A7,a3t,hf,if_pos,h2]
def Vw(o:Option Block):AV:=match o with
 |some x=>.agg [.int .i64 x.kind,.int .i64 x.birth,.str x.load,.bool true]
 |none=>.agg [.int .i64 0,.int .i64 0,.str [],.bool false]
theorem b46(s:Bytes)(hs:s.length<=1000000)(H:AH):K tab A5 A4 116 [.str s] H=some (Vw (Nl s),H):=by
 refine Ah cr0 rfl rfl (by unfold Vw;split<;>rfl) ?_ H;have ht:=Q0 (orc:=A5) (lk:=A4) [49,52,50] (by decide) s;have e:Im [49,52,50] s=if 7<=s.length then some (Bp [1,4,2] s,s.drop 7)else none:=rfl;unfold Ml at ht;rw[e]at ht;by_cases h7:7<=s.length
 ·rw[if_pos h7]at ht;simp only[Bp,e22,Nat.reduceAdd,e2c,e2o,Dp]at ht;have hn:=Rm ((s.drop 5).take 2);have hd:(s.drop 7).length=s.length-7:=e19;have htb:Nl s=if Bk ((s.drop 5).take 2)<=s.length-7 then(if Hg (Qx s)=true then(if Dn (Qx s)=s then some (Qx s)else none)else none)else none:=by
   unfold Nl;by_cases h1:Bk ((s.drop 5).take 2)<=(s.length:Int)-7
   ·by_cases h2:Hg (Qx s)=true
    ·by_cases h3:Dn (Qx s)=s
     ·rw[if_pos ⟨h7,h1,h2,h3⟩,if_pos h1,if_pos h2,if_pos h3]
     ·rw[if_neg (λh=>h3 h.2.2.2),if_pos h1,if_pos h2,if_neg h3]
    ·rw[if_neg (λh=>h2 h.2.2.1),if_pos h1,if_neg h2]
   ·rw[if_neg (λh=>h1 h.2.1),if_neg h1]
  rw[htb];unfold Qx;generalize Bk ((s.drop 5).take 2)=n at *;generalize Bk ((s.drop 1).take 4)=b at *;generalize Bk (s.take 1)=k at *;by_cases h1:n<=(s.length:Int)-7
  ·have hlen:((s.drop 7).take n.toNat).length<=1000000:=(by rw[e1f];omega);have hput:=b6c ⟨k,b,(s.drop 7).take n.toNat⟩;rw[if_pos h1];cases h2:Hg ⟨k,b,(s.drop 7).take n.toNat⟩with
   |false=>
     simp(disch:=try exact dz)only[V1,t0,seval,ht,Gx,if_pos,if_neg,hd,aj2,a3t,h2];rfl
   |true=>
     simp(disch:=try exact dz)only[V1,t0,seval,ht,Gx,if_pos,if_neg,hd,aj2,a3t,h2];by_cases h3:Dn ⟨k,b,(s.drop 7).take n.toNat⟩=s
     ·rw[if_neg (by simp[h3]),if_pos h3];rfl
     ·rw[if_pos (by simp[h3]),if_neg h3];rfl
  ·rw[if_neg h1]
   simp(disch:=try exact dz)only[V1,t0,seval,ht,Gx,if_pos,if_neg,hd];rfl
 ·rw[if_neg h7]at ht;have htb:Nl s=none:=by unfold Nl;rw[if_neg (λh=>h7 h.1)]
  simp(disch:=try exact dz)only[V1,t0,seval,ht,htb,Vw]
structure DevOk(d:Dev):Prop where
 last:(els d.last).length<=1000
 wait:(els d.wait).length<=1000000
 ltx:∀ s∈els d.last,s.length<=256
 wtx:∀ p∈els d.wait,p.2.length<=256
theorem b8l{n:Nat}:∀ (w:List (Int×Bytes)) (i:Int) (s:Bytes),(∀ p∈w,p.2.length<=n)->s.length<=n->(O4 w i s).length<=n
 |[],_,s,_,h=>h
 |p::w,i,s,hw,h=>by
   unfold O4;rw[e1r];refine b8l w i _ (λq hq=>hw q (e06 _ hq)) ?_;split
   ·exact hw p (e0n ..)
   ·exact h
theorem c4y{d:Dev}(h:DevOk d){i:Int}{s:Bytes}(hs:Gw d i=some s):s.length<=256:=by
 unfold Gw at hs;split at hs
 ·rename_i hc;cases hs;refine b8l _ _ _ h.wtx (h.ltx _ ?_);rw[dx5,dy1 (show i.toNat<(els d.last).length by omega)];exact e1c _
 ·cases hs
theorem c4z{d:Dev}{p:Ptr}{k:Int}{s:Bytes}(hs:a0t d p k=some s):s.length<=249:=by
 unfold a0t at hs;split at hs
 ·cases hs
 ·split at hs
  ·cases hs
  ·split at hs
   ·cases hs
   ·rename_i x hx;split at hs
    ·cases hs;unfold Nl at hx;split at hx
     ·rename_i hc;cases hx
      have:=hc.2.2.1;simp only[Hg,e14,e0r]at this;exact this.2
     ·cases hx
    ·cases hs
theorem a1g{d:Dev}{p:Ptr}{k:Int}{s:Bytes}(hs:Iv d p k=some s):s.length<=249:=by
 unfold Iv at hs;split at hs
 ·cases hs
 ·exact c4z hs
theorem c0y{s:Bytes}{x:Block}(h:Nl s=some x):x.load.length<=249:=by
 unfold Nl at h;split at h
 ·rename_i hc;cases h
  have:=hc.2.2.1;simp only[Hg,e14,e0r]at this;exact this.2
 ·cases h
theorem c0x:Nl []=none:=by decide
theorem db7(d:Dev)(hd:DevOk d)(p:Ptr)(kind:Int)(H:AH):K tab A5 A4 69 [.agg [A0 Bh d.last,A0 Bi d.wait,.int .i64 d.lies,.int .i64 d.arm,.bool d.down],.agg [.int .i64 p.addr,.int .i64 p.birth,.int .u32 p.sum.a.toNat,.int .u32 p.sum.b.toNat,.int .u32 p.sum.c.toNat,.int .u32 p.sum.d.toNat],.int .i64 kind] H=some (Di (a0t d p kind),H):=by
 refine Ah l69 rfl (by simp[Ac,A8,Ap]) rfl ?_ H;have h1:=hd.last;have h2:=hd.wait;have hr:=λH=>d86 d.last d.wait d.lies d.arm d.down p.addr om h2 H;have e:Gw ⟨d.last,d.wait,d.lies,d.arm,d.down⟩ p.addr=Gw d p.addr:=rfl;rw[e]at hr;unfold a0t;by_cases h14:p.addr<14
 ·rw[if_pos h14]
  simp(disch:=try exact dz)only[Us,t0,seval,if_pos,if_neg];rfl
 ·rw[if_neg h14];cases hs:Gw d p.addr with
  |none=>
    rw[hs]at hr;have ht:=b46 [] (by simp);rw[c0x]at ht;simp only[Vw]at ht
    simp(disch:=try exact dz)only[Us,t0,seval,if_pos,if_neg,hr,ht,e1i,e0h];rfl
  |some s=>
    rw[hs]at hr;have hsl:=c4y hd hs;have ht:=b46 s om;simp only[];cases hb:Nl s with
    |none=>
      rw[hb]at ht;simp only[Vw]at ht;have hi:=b5x 0 0 [] false p kind (by simp);simp only[A7]at hi
      simp(disch:=try exact dz)only[Us,t0,seval,if_pos,if_neg,hr,ht,hi,e13,e0i];rfl
    |some x=>
      rw[hb]at ht;simp only[Vw]at ht;have hi:=b5x x.kind x.birth x.load true p kind (by have:=c0y hb;omega);rw[show(⟨x.kind,x.birth,x.load⟩:Block)=x from rfl]at hi;simp only[A7]at hi
      simp(disch:=try exact dz)only[Us,t0,seval,if_pos,if_neg,hr,ht,hi,e13,e0i];by_cases hc:p.sum=Dh (Dn x)/\x.birth=p.birth/\x.kind=kind
      ·obtain⟨c1,c2,c3⟩:=hc;rw[if_pos (by simp[c1,c2,c3]),if_pos ⟨c1,c2,c3⟩];rfl
      ·rw[if_neg (by simpa using hc),if_neg hc];rfl
theorem bf6(last:Sl Bytes)(wait:Sl (Int×Bytes))(lies arm:Int)(down:Bool)(hl:(els last).length<=1000000)(H:AH):K tab A5 A4 32 [.agg [A0 Bh last,A0 Bi wait,.int .i64 lies,.int .i64 arm,.bool down]] H=some (.int .i64 (Hl ⟨last,wait,lies,arm,down⟩),H):=by
 refine Ah l32 rfl (by simp[Ac,A8,Ap]) rfl ?_ H
 simp(disch:=try exact dz)only[g32,t0,seval,e2b,Hl]
theorem Wz(d:Dev)(hd:DevOk d)(p:Ptr)(kind:Int)(H:AH):K tab A5 A4 30 [.agg [A0 Bh d.last,A0 Bi d.wait,.int .i64 d.lies,.int .i64 d.arm,.bool d.down],.agg [.int .i64 p.addr,.int .i64 p.birth,.int .u32 p.sum.a.toNat,.int .u32 p.sum.b.toNat,.int .u32 p.sum.c.toNat,.int .u32 p.sum.d.toNat],.int .i64 kind] H=some (Di (Iv d p kind),H):=by
 refine Ah l30 rfl (by simp[Ac,A8,Ap]) rfl ?_ H;have h1:=hd.last;have hr:=db7 d hd p kind;have hq:=bf6 d.last d.wait d.lies d.arm d.down om;have e:Hl ⟨d.last,d.wait,d.lies,d.arm,d.down⟩=Hl d:=rfl;rw[e]at hq;have hb:Hl d<=1000/\ -100<=Hl d:=by unfold Hl;omega
 unfold Iv
 simp(disch:=try exact dz)only[g30,t0,seval,hq,hr,e2b,if_pos,Di];by_cases h:14+Hl d<=p.addr
 ·rw[if_pos om,if_pos h];rfl
 ·rw[if_neg om,if_neg h]
theorem Wp(l:List Ptr):(Er l).length<=22*l.length:=by
 unfold Er;split
 ·rw[a2t];omega
 ·simp
theorem a78(l:List Ptr)(h:l≠[]):(Er l=[])↔¬ l.all Bt=true:=by
 unfold Er;split
 ·rename_i ha;constructor
  ·intro h2
   have:=congrArg List.length h2;rw[a2t,e1n]at this
   have:=e0e.2 h;omega
  ·intro h2;exact absurd ha h2
 ·rename_i ha;exact⟨λ_=>ha,λ_=>rfl⟩
theorem Qb(a b c:Int)(H:AH):K tab A5 A4 164 [.str [49,49,49],.fz [[.int .i64 a],[.int .i64 b],[.int .i64 c]]] H=some (.str (B6 [1,1,1] [a,b,c]),H):=Ry _ (by decide) (some [a,b,c]) H
theorem Qa(a:Int)(H:AH):K tab A5 A4 164 [.str [50],.fz [[.int .i64 a]]] H=some (.str (B6 [2] [a]),H):=Ry _ (by decide) (some [a]) H
theorem c4t(k u:Int)(name body:Bytes)(bad size:Int)(l:Sl Ptr)(hn:name.length<=1000000)(hl:(els l).length<=1000000)(H:AH):K tab A5 A4 230 [.agg [.int .i64 k,.int .i64 u,.str name,.str body,.int .i64 bad],.int .i64 size,A0 Ae l] H=some (.str (Dv ⟨k,u,name⟩ size (els l)),H):=by
 refine Ah ck9 rfl (by simp[Ac,A8,Ap]) rfl ?_ H;have hp:=av8 (orc:=A5) (lk:=A4) l hl;have hpl:=Wp (els l);have h3:(B6 [1,1,1] [k,u,(name.length:Int)]).length=3:=G5 _ _ rfl;have h2:(B6 [2] [size]).length=2:=G5 _ _ rfl;have no:¬ (((k=1\/k=2)/\0<=u/\u<8/\name.length<=8)/\(0<=size/\size<=128/\(els l).length=4/\(els l).all Bt=true))->Dv ⟨k,u,name⟩ size (els l)=[]:=λh=>if_neg h;by_cases c0:k=1\/k=2
 ·rcases c0 with rfl|rfl
  all_goals
   by_cases c1:u<0
   ·rw[no om]
    simp(disch:=try exact dz)only[N5,t0,seval,hp,Ia,Qb,Qa,e2b,if_pos,if_neg,h3,h2]
   by_cases c2:8<=u
   ·rw[no om]
    simp(disch:=try exact dz)only[N5,t0,seval,hp,Ia,Qb,Qa,e2b,if_pos,if_neg,h3,h2]
   by_cases c3:8<name.length
   ·rw[no om]
    simp(disch:=try exact dz)only[N5,t0,seval,hp,Ia,Qb,Qa,e2b,if_pos,if_neg,h3,h2]
   by_cases c4:size<0
   ·rw[no om]
    simp(disch:=try exact dz)only[N5,t0,seval,hp,Ia,Qb,Qa,e2b,if_pos,if_neg,h3,h2]
   by_cases c5:128<size
   ·rw[no om]
    simp(disch:=try exact dz)only[N5,t0,seval,hp,Ia,Qb,Qa,e2b,if_pos,if_neg,h3,h2]
   by_cases c6:((els l).length:Int)=4
   ·by_cases c7:(els l).all Bt=true
    ·have hne:Er (els l)≠[]:=λh=>(a78 (els l) (by intro h;rw[h]at c6;simp at c6)).1 h c7
     simp(disch:=try exact dz)only[N5,t0,seval,hp,Ia,Qb,Qa,e2b,if_pos,if_neg,h3,h2,hne,c6];have e:=U8 c7;rw[Dv,if_pos ⟨⟨by simp,by simp only;omega,by simp only;omega,by simp only;omega⟩,by omega,by omega,by omega,c7⟩,e]
    ·have hne:Er (els l)=[]:=(a78 (els l) (by intro h;rw[h]at c6;simp at c6)).2 c7;rw[no (λh=>c7 h.2.2.2.2)]
     simp(disch:=try exact dz)only[N5,t0,seval,hp,Ia,Qb,Qa,e2b,if_pos,if_neg,h3,h2,hne,c6]
   ·rw[no om]
    simp(disch:=try exact dz)only[N5,t0,seval,hp,Ia,Qb,Qa,e2b,if_pos,if_neg,h3,h2,c6]
 ·rw[no om];have k1:k≠1:=λh=>c0 (.inl h);have k2:k≠2:=λh=>c0 (.inr h)
  simp(disch:=try exact dz)only[N5,t0,seval,hp,Ia,Qb,Qa,e2b,if_pos,if_neg,h3,h2,k1,k2]
def Km(o:Option (NodeH×Int×List Ptr)):AV:=match o with
 |some (x,z,l)=>.tuple [.agg [.int .i64 x.kind,.int .i64 x.up,.str x.name,.str [],.int .i64 0],.int .i64 z,.fz (l.map Ae),.bool true]
 |none=>.tuple [.agg [.int .i64 0,.int .i64 0,.str [],.str [],.int .i64 0],.int .i64 0,.emp,.bool false]
theorem c0b(o:Option (NodeH×Int×List Ptr)):A8 (Km o)=true:=by
 cases o with
 |none=>rfl
 |some q=>obtain⟨x,z,l⟩:=q;rfl
theorem b4a{n:Nat}{s:Bytes}{l:List Ptr}{r:Bytes}(h:H8 n s=some (l,r)):l.length=n:=(a69 h).2.2
theorem b5v(s:Bytes)(hs:s.length<=100000)(H:AH):K tab A5 A4 168 [.str s] H=some (Km (Q1 s),H):=by
 refine Ah cn8 rfl rfl (c0b _) ?_ H;have t1:=Q0 (orc:=A5) (lk:=A4) [49,49,49] (by decide) s;have e1:Im [49,49,49] s=if 3<=s.length then some (Bp [1,1,1] s,s.drop 3)else none:=rfl;unfold Ml at t1;unfold Q1;rw[e1]at t1 ⊢;by_cases h3:3<=s.length
 ·rw[if_pos h3]at t1 ⊢;have hL:Bp [1,1,1] s=[Bk (s.take 1),Bk ((s.drop 1).take 1),Bk ((s.drop 2).take 1)]:=by simp[Bp,e22]
  rw[hL]at t1 ⊢;simp only[e2c,e2o,Dp]at t1;simp only[];have hn:=Rm ((s.drop 2).take 1);have hd:(s.drop 3).length=s.length-3:=e19;generalize Bk ((s.drop 2).take 1)=n at *;generalize Bk ((s.drop 1).take 1)=u at *;generalize Bk (s.take 1)=k at *;generalize s.drop 3=r at *;by_cases hn2:(r.length:Int)<n
  ·rw[if_pos hn2]
   simp(disch:=try exact dz)only[Qo,t0,seval,t1,Gx,if_pos,if_neg,e1g];rfl
  ·rw[if_neg hn2];have hrd:(r.drop n.toNat).length=r.length-n.toNat:=e19;have hrt:(r.take n.toNat).length<=100000:=(by rw[e1f];omega);generalize hname:r.take n.toNat=name at *;have t2:=Q0 (orc:=A5) (lk:=A4) [50] (by decide) (r.drop n.toNat);have e2:Im [50] (r.drop n.toNat)=if 2<=(r.drop n.toNat).length then some (Bp [2] (r.drop n.toNat),(r.drop n.toNat).drop 2)else none:=rfl;unfold Ml at t2;rw[e2]at t2 ⊢;by_cases h2:2<=(r.drop n.toNat).length
   ·rw[if_pos h2]at t2 ⊢;have hL2:Bp [2] (r.drop n.toNat)=[Bk ((r.drop n.toNat).take 2)]:=rfl;rw[hL2]at t2 ⊢;simp only[e2c,e2o,Dp]at t2;simp only[];have hdd:((r.drop n.toNat).drop 2).length<=100000:=(by rw[e19];omega);have t3:=λH=>a6a (orc:=A5) (lk:=A4) ((r.drop n.toNat).drop 2) om 4 om H;generalize Bk ((r.drop n.toNat).take 2)=z at *
    generalize (r.drop n.toNat).drop 2=w at *;unfold Py at t3;rw[show(4:Int).toNat=4 from rfl]at t3;cases hp:H8 4 w with
    |none=>
      rw[hp]at t3
      simp(disch:=try exact dz)only[Qo,t0,seval,t1,t2,t3,Gx,if_pos,if_neg,e1g];rfl
    |some q=>
      obtain⟨l,x⟩:=q;rw[hp]at t3;have hl4:=b4a hp;have hN:=λH=>c4t k u name [] 0 z (some l) om (by rw[Bn];omega) H;simp only[Bn,C1]at hN;simp only[]at t3 ⊢;by_cases hE:Dv ⟨k,u,name⟩ z l=s
      ·simp(disch:=try exact dz)only[Qo,t0,seval,t1,t2,t3,hN,hE,hname,Gx,if_pos,if_neg,e1g];rfl
      ·simp(disch:=try exact dz)only[Qo,t0,seval,t1,t2,t3,hN,hE,hname,Gx,if_pos,if_neg,e1g];rfl
   ·rw[if_neg h2]at t2 ⊢
    simp(disch:=try exact dz)only[Qo,t0,seval,t1,t2,Gx,if_pos,if_neg,e1g];rfl
 ·rw[if_neg h3]at t1 ⊢
  simp(disch:=try exact dz)only[Qo,t0,seval,t1];rfl
theorem d97(l:List Ptr)(hl:l.length<=1000000)(H:AH):K tab A5 A4 167 [.fz (l.map Ae)] H=some (.fz (l.map Ae),H):=by
 refine Ah cn9 rfl rfl rfl ?_ H;have e:Dy (.slice3 (.t 0) (.c (.int .i64 0)) (.t 1) (.t 2)) (Al [.fz (l.map Ae),.int .i64 l.length,.int .i64 l.length]) []=some (.fz (l.map Ae),[]):=by
  have h0:(0:Int)<=(l.length:Int):=om;simp[Dy,B4,Cl,Al,getF,ai5,P8,U1,Bu,b22]
 simp(disch:=try exact dz)only[ac3,t0,seval,if_pos,if_neg,e]
def Zx(o:Option (List Ptr)):AV:=match o with
 |some l=>.tuple [.fz (l.map Ae),.bool true]
 |none=>.tuple [.emp,.bool false]
theorem b5u(s:Bytes)(hs:s.length<=1000000)(H:AH):K tab A5 A4 108 [.str s] H=some (Zx (Ts s),H):=by
 refine Ah cr7 rfl rfl (by unfold Zx;split<;>rfl) ?_ H;have t3:=λH=>a6a (orc:=A5) (lk:=A4) s om 8 om H;unfold Py at t3;rw[show(8:Int).toNat=8 from rfl]at t3;unfold Ts;cases hp:H8 8 s with
 |none=>
   rw[hp]at t3
   simp(disch:=try exact dz)only[Xr,t0,seval,t3,if_pos,if_neg];rfl
 |some q=>
   obtain⟨l,x⟩:=q;rw[hp]at t3;have hl:=b4a hp;have hc:=d97 l om;simp only[]at t3;cases x with
   |nil=>
     simp(disch:=try exact dz)only[Xr,t0,seval,t3,hc,if_pos,if_neg];rfl
   |cons a x=>
     have hne:¬ (a::x=[]):=by simp
     simp(disch:=try exact dz)only[Xr,t0,seval,t3,hc,if_pos,if_neg,hne];rfl
theorem c2z(id kind origin quota:Int)(fl:AV)(hfl:A8 fl=true)(hfc:cellA fl=true)(p:Ptr)(last:Int)(H:AH):K tab A5 A4 165 [.agg [.int .i64 id,.int .i64 kind,.int .i64 origin,.int .i64 quota,fl,.int .i64 p.addr,.int .i64 p.birth,.int .u32 p.sum.a.toNat,.int .u32 p.sum.b.toNat,.int .u32 p.sum.c.toNat,.int .u32 p.sum.d.toNat],.int .i64 last] H=some (.bool (P5 last ⟨id,kind,origin,quota⟩ p),H):=by
 refine Ah co1 rfl (by simp[Ac,A8,hfl]) rfl ?_ H;have hm:=b7n (orc:=A5) (lk:=A4) p;simp only[A7]at hm
 simp(disch:=try exact dz)only[ac5,t0,seval,hm,Ri,if_pos,if_neg,hfc];have h0:=a0z p.addr p.birth p.sum.a p.sum.b p.sum.c p.sum.d;rw[Q8]at h0;have e:decide (p=Bb)=(decide (p.addr=0)&&(decide (p.birth=0)&&(decide ((p.sum.a.toNat:Int)=0)&&(decide ((p.sum.b.toNat:Int)=0)&&(decide ((p.sum.c.toNat:Int)=0)&&decide ((p.sum.d.toNat:Int)=0)))))):=by
  rw[<-e20,<-e20,<-e20,<-e20,<-e20];exact e1e.2 h0
 rw[<-e];unfold P5;simp only[Bool.decide_eq_true]
theorem Tl(r sz o l t:Nat)(H:AH):K tab A5 A4 163 [.own r sz o l t] H=Gs tab A5 A4 163 [.own r sz o l t] H (Ac (Bc H [.own r sz o l t])) (K tab A5 A4 163 (Bc H [.own r sz o l t]) H):=J7 _ _ _ rfl _ _
theorem c5s(a b:Int)(c d e f:UInt32)(H:AH):K tab A5 A4 163 [.fz [[.int .i64 a,.int .i64 b,.int .u32 c.toNat,.int .u32 d.toNat,.int .u32 e.toNat,.int .u32 f.toNat]]] H=some (.str (Er [⟨a,b,⟨c,d,e,f⟩⟩]),H):=av8 (some [⟨a,b,⟨c,d,e,f⟩⟩]) (by simp[els]) H
theorem Wq(p q r:Ptr)(H:AH):K tab A5 A4 163 [.fz [[.int .i64 p.addr,.int .i64 p.birth,.int .u32 p.sum.a.toNat,.int .u32 p.sum.b.toNat,.int .u32 p.sum.c.toNat,.int .u32 p.sum.d.toNat],[.int .i64 q.addr,.int .i64 q.birth,.int .u32 q.sum.a.toNat,.int .u32 q.sum.b.toNat,.int .u32 q.sum.c.toNat,.int .u32 q.sum.d.toNat],[.int .i64 r.addr,.int .i64 r.birth,.int .u32 r.sum.a.toNat,.int .u32 r.sum.b.toNat,.int .u32 r.sum.c.toNat,.int .u32 r.sum.d.toNat]]] H=some (.str (Er [p,q,r]),H):=av8 (some [p,q,r]) (by simp[els]) H
theorem c65(a b c d:Int)(H:AH):K tab A5 A4 164 [.str [50,49,50,49],.fz [[.int .i64 a],[.int .i64 b],[.int .i64 c],[.int .i64 d]]] H=some (.str (B6 [2,1,2,1] [a,b,c,d]),H):=Ry _ (by decide) (some [a,b,c,d]) H
theorem c66(a:Int)(H:AH):K tab A5 A4 164 [.str [49],.fz [[.int .i64 a]]] H=some (.str (B6 [1] [a]),H):=Ry _ (by decide) (some [a]) H
theorem Wr(a b c:Int)(H:AH):K tab A5 A4 164 [.str [52,52,52],.fz [[.int .i64 a],[.int .i64 b],[.int .i64 c]]] H=some (.str (B6 [4,4,4] [a,b,c]),H):=Ry _ (by decide) (some [a,b,c]) H
theorem Ws(a:Int)(H:AH):K tab A5 A4 164 [.str [52],.fz [[.int .i64 a]]] H=some (.str (B6 [4] [a]),H):=Ry _ (by decide) (some [a]) H
def av6(x:DsetH)(p:Ptr):Bytes:=B6 [2,1,2,1] [x.id,x.kind,x.origin,x.quota]++Er [p]
theorem c31(id kind origin quota:Int)(fl:AV)(hfl:A8 fl=true)(hfc:cellA fl=true)(p:Ptr)(H:AH):K tab A5 A4 166 [.agg [.int .i64 id,.int .i64 kind,.int .i64 origin,.int .i64 quota,fl,.int .i64 p.addr,.int .i64 p.birth,.int .u32 p.sum.a.toNat,.int .u32 p.sum.b.toNat,.int .u32 p.sum.c.toNat,.int .u32 p.sum.d.toNat]] H=some (.str (av6 ⟨id,kind,origin,quota⟩ p),H):=by
 refine Ah co0 rfl (by simp[Ac,A8,hfl]) rfl ?_ H;have h6:(B6 [2,1,2,1] [id,kind,origin,quota]).length=6:=G5 _ _ rfl;have hp:=Wp [p];simp only[e15,e1n]at hp
 simp(disch:=try exact dz)only[ac4,t0,seval,Ia,c65,Tl,c5s,Q8,if_pos,if_neg,hfc,h6];rfl
theorem c11(r:Root)(H:AH):K tab A5 A4 105 [.agg [.int .i64 r.txg,.int .i64 r.next,.int .i64 r.guid,.int .i64 r.table.addr,.int .i64 r.table.birth,.int .u32 r.table.sum.a.toNat,.int .u32 r.table.sum.b.toNat,.int .u32 r.table.sum.c.toNat,.int .u32 r.table.sum.d.toNat,.int .i64 r.space.addr,.int .i64 r.space.birth,.int .u32 r.space.sum.a.toNat,.int .u32 r.space.sum.b.toNat,.int .u32 r.space.sum.c.toNat,.int .u32 r.space.sum.d.toNat,.int .i64 r.kept.addr,.int .i64 r.kept.birth,.int .u32 r.kept.sum.a.toNat,.int .u32 r.kept.sum.b.toNat,.int .u32 r.kept.sum.c.toNat,.int .u32 r.kept.sum.d.toNat,.int .i64 r.keptTxg]] H=some (.str (Ku r),H):=by
 refine Ah cs0 rfl rfl rfl ?_ H;have Pb:(B6 [4,4,4] [r.txg,r.next,r.guid]).length=12:=G5 _ _ rfl;have h4:(B6 [4] [r.keptTxg]).length=4:=G5 _ _ rfl;have hp:=Wp [r.table,r.space,r.kept];simp only[e15,e1n]at hp;have no:O3 r=false->Ku r=[]:=λh=>by unfold Ku;rw[if_neg (by rw[h];simp)]
 by_cases c1:r.txg<1
 ·rw[no (by simp[O3];omega)]
  simp(disch:=try exact dz)only[Pf,t0,seval,Ri,if_pos,if_neg]
 cases w1:(decide (0<=r.txg)&&decide (r.txg<=1073741824))with
 |false=>
   rw[no (by unfold O3;rw[e0z];simp only[ne_eq,e14,e0r];simp only[e00,dy7]at w1;omega)]
   simp(disch:=try exact dz)only[Pf,t0,seval,Ri,Ia,Wr,Ws,Tl,Wq,if_pos,if_neg,c1,Pb,h4,w1]
 |true=>
   cases w2:(decide (0<=r.next)&&decide (r.next<=1073741824))with
   |false=>
     rw[no (by unfold O3;rw[e0z];simp only[ne_eq,e14,e0r];simp only[e00,dy7]at w2;omega)]
     simp(disch:=try exact dz)only[Pf,t0,seval,Ri,Ia,Wr,Ws,Tl,Wq,if_pos,if_neg,c1,Pb,h4,w1,w2]
   |true=>
     cases w3:(decide (0<=r.guid)&&decide (r.guid<=1073741824))with
     |false=>
       rw[no (by unfold O3;rw[e0z];simp only[ne_eq,e14,e0r];simp only[e00,dy7]at w3;omega)]
       simp(disch:=try exact dz)only[Pf,t0,seval,Ri,Ia,Wr,Ws,Tl,Wq,if_pos,if_neg,c1,Pb,h4,w1,w2,w3]
     |true=>
       cases w4:(decide (0<=r.keptTxg)&&decide (r.keptTxg<=1073741824))with
       |false=>
         rw[no (by unfold O3;rw[e0z];simp only[ne_eq,e14,e0r];simp only[e00,dy7]at w4;omega)]
         simp(disch:=try exact dz)only[Pf,t0,seval,Ri,Ia,Wr,Ws,Tl,Wq,if_pos,if_neg,c1,Pb,h4,w1,w2,w3,w4]
       |true=>
         by_cases c3:[r.table,r.space,r.kept].all Bt=true
         ·have hne:Er [r.table,r.space,r.kept]≠[]:=λh=>(a78 _ (by simp)).1 h c3
          simp(disch:=try exact dz)only[Pf,t0,seval,Ri,Ia,Wr,Ws,Tl,Wq,if_pos,if_neg,c1,Pb,h4,w1,w2,w3,w4,hne];have hm:O3 r=true:=by
           unfold O3;simp only[e2h,List.all_nil,e14,e2f]at c3;simp only[e14,e0r]at w1 w2 w3 w4 ⊢;exact⟨⟨⟨⟨⟨by omega,w1.2⟩,w2⟩,w3⟩,w4⟩,⟨c3.1,c3.2.1⟩,c3.2.2⟩
          rw[Ku,if_pos hm,U8 c3];simp
         ·have hne:Er [r.table,r.space,r.kept]=[]:=(a78 _ (by simp)).2 c3;rw[no (by unfold O3;rw[e0z];simp only[ne_eq,e14,e0r];simp only[e2h,List.all_nil,e14,e2f]at c3;intro h;exact c3 ⟨h.2.1.1,h.2.1.2,h.2.2⟩)]
          simp(disch:=try exact dz)only[Pf,t0,seval,Ri,Ia,Wr,Ws,Tl,Wq,if_pos,if_neg,c1,Pb,h4,w1,w2,w3,w4,hne]
def Nq(r:Root):List AV:=[.int .i64 r.txg,.int .i64 r.next,.int .i64 r.guid,.int .i64 r.table.addr,.int .i64 r.table.birth,.int .u32 r.table.sum.a.toNat,.int .u32 r.table.sum.b.toNat,.int .u32 r.table.sum.c.toNat,.int .u32 r.table.sum.d.toNat,.int .i64 r.space.addr,.int .i64 r.space.birth,.int .u32 r.space.sum.a.toNat,.int .u32 r.space.sum.b.toNat,.int .u32 r.space.sum.c.toNat,.int .u32 r.space.sum.d.toNat,.int .i64 r.kept.addr,.int .i64 r.kept.birth,.int .u32 r.kept.sum.a.toNat,.int .u32 r.kept.sum.b.toNat,.int .u32 r.kept.sum.c.toNat,.int .u32 r.kept.sum.d.toNat,.int .i64 r.keptTxg]
def U0:List AV:=[.int .i64 0,.int .i64 0,.int .i64 0,.int .i64 0,.int .i64 0,.int .u32 0,.int .u32 0,.int .u32 0,.int .u32 0,.int .i64 0,.int .i64 0,.int .u32 0,.int .u32 0,.int .u32 0,.int .u32 0,.int .i64 0,.int .i64 0,.int .u32 0,.int .u32 0,.int .u32 0,.int .u32 0,.int .i64 0]
def Ro(o:Option Root):AV:=match o with
 |some r=>.tuple [.agg (Nq r),.bool true]
 |none=>.tuple [.agg U0,.bool false]
theorem b49(s:Bytes)(hs:s.length<=100000)(H:AH):K tab A5 A4 65 [.str s] H=some (Ro (a00 s),H):=by
 refine Ah l65 rfl rfl (by unfold Ro;split<;>rfl) ?_ H;have t1:=Q0 (orc:=A5) (lk:=A4) [52,52,52] (by decide) s;have e1:Im [52,52,52] s=if 12<=s.length then some (Bp [4,4,4] s,s.drop 12)else none:=rfl;unfold Ml at t1;unfold a00;rw[e1]at t1 ⊢;by_cases h3:12<=s.length
 ·rw[if_pos h3]at t1 ⊢;have hL:Bp [4,4,4] s=[Bk (s.take 4),Bk ((s.drop 4).take 4),Bk ((s.drop 8).take 4)]:=by simp[Bp,e22]
  rw[hL]at t1 ⊢;simp only[e2c,e2o,Dp]at t1;simp only[];have hd:(s.drop 12).length=s.length-12:=e19;generalize Bk ((s.drop 8).take 4)=c at *;generalize Bk ((s.drop 4).take 4)=b at *;generalize Bk (s.take 4)=a at *;generalize s.drop 12=r at *;have t2:=λH=>a6a (orc:=A5) (lk:=A4) r om 3 om H;unfold Py at t2;rw[show(3:Int).toNat=3 from rfl]at t2;cases hp:H8 3 r with
  |none=>
    rw[hp]at t2
    simp(disch:=try exact dz)only[Si,t0,seval,t1,t2,Gx,if_pos,if_neg,e1g];rfl
  |some q=>
    obtain⟨l,w⟩:=q;rw[hp]at t2;obtain⟨hr,_,hl⟩:=a69 hp;have hw:w.length<=100000:=(by have:=congrArg List.length hr;rw[e0l]at this;omega);obtain⟨p,q,k,rfl⟩:∃ p q k,l=[p,q,k]:=by
     match l,hl with
     |[p,q,k],_=>exact⟨p,q,k,rfl⟩
    have t3:=Q0 (orc:=A5) (lk:=A4) [52] (by decide) w;have e3:Im [52] w=if 4<=w.length then some (Bp [4] w,w.drop 4)else none:=rfl;unfold Ml at t3;simp only[]at t2 ⊢;rw[e3]at t3 ⊢;by_cases h4:4<=w.length
    ·rw[if_pos h4]at t3 ⊢;have hL2:Bp [4] w=[Bk (w.take 4)]:=rfl;rw[hL2]at t3 ⊢;simp only[e2c,e2o,Dp]at t3;simp only[];generalize Bk (w.take 4)=z at *;have hR:=c11 ⟨a,b,c,p,q,k,z⟩;simp only[]at hR;by_cases hE:Ku ⟨a,b,c,p,q,k,z⟩=s
     ·simp(disch:=try exact dz)only[Si,t0,seval,t1,t2,t3,hR,hE,Gx,Ae,if_pos,if_neg,e1g];rfl
     ·simp(disch:=try exact dz)only[Si,t0,seval,t1,t2,t3,hR,hE,Gx,Ae,if_pos,if_neg,e1g];rfl
    ·rw[if_neg h4]at t3 ⊢
     simp(disch:=try exact dz)only[Si,t0,seval,t1,t2,t3,Gx,if_pos,if_neg,e1g];rfl
 ·rw[if_neg h3]at t1 ⊢
  simp(disch:=try exact dz)only[Si,t0,seval,t1];rfl
def Ao(x:Node):List PV:=[.int .i64 x.kind,.int .i64 x.up,.str x.name,.str x.body,.int .i64 x.bad]
def Ak(x:Dset):List PV:=[.int .i64 x.id,.int .i64 x.kind,.int .i64 x.origin,.int .i64 x.quota,Nv Ao x.files]
def Bf(x:Dset):DsetH:=⟨x.id,x.kind,x.origin,x.quota⟩
def Gm(l:List DsetH)(j:Nat):Int:=if j=0 then 0 else(l.getD (j-1) default).id
theorem az0(l:List DsetH)(j:Nat):Gm l (j+1)=(l.getD j default).id:=by simp[Gm]
theorem b65{l:List DsetH}{q:List Ptr}{j:Nat}(h:j<l.length)(h2:j<q.length):Ep (l.take (j+1)) (q.take (j+1))=Ep (l.take j) (q.take j)++putRow (l.getD j default) (q.getD j default):=by
 induction j generalizing l q with
 |zero=>
   cases l with
   |nil=>simp at h
   |cons x l=>cases q with
     |nil=>simp at h2
     |cons y q=>simp[Ep]
 |succ j ih=>
   cases l with
   |nil=>simp at h
   |cons x l=>cases q with
     |nil=>simp at h2
     |cons y q=>
       rw[e08,e08,Ep,ih (by simpa using h) (by simpa using h2),e08,e08,Ep,e0x];rfl
theorem b66(x:DsetH)(p:Ptr):(putRow x p).length=28:=by
 unfold putRow;rw[e0l,U9,G5 _ _ rfl];rfl
theorem a74:∀ (l:List DsetH) (q:List Ptr),(Ep l q).length<=28*l.length
 |[],_=>by simp[Ep]
 |_::_,[]=>by simp[Ep]
 |x::l,y::q=>by rw[Ep,e0l,b66];have:=a74 l q;rw[e15];omega
theorem c53{last:Int}{x:DsetH}{p:Ptr}(h:P5 last x p=true):av6 x p=putRow x p:=by
 have:Bt p=true:=by simp only[P5,e14]at h;exact h.1.2
 unfold av6 putRow;rw[U8 (by simp[this])];simp
theorem ay5{α β:Type}[Inhabited α][Inhabited β]{l:List α}{j:Nat}(h:j<l.length)(f:α->β):(l.map f).getD j default=f (l.getD j default):=by
 simp only[dx5,e0t,dy1 h,e1p,e13]
theorem bp7(a:AV)(r sz o l t:Nat)(H:AH):K tab A5 A4 164 [a,.own r sz o l t] H=Gs tab A5 A4 164 [a,.own r sz o l t] H (Ac (Bc H [a,.own r sz o l t])) (K tab A5 A4 164 (Bc H [a,.own r sz o l t]) H):=J7 _ _ _ rfl _ _
theorem c0z(l:Sl Dset)(q:Sl Ptr)(hl:(els l).length<=1000000)(hq:(els q).length<=1000000)(H:AH):K tab A5 A4 106 [A0 Ak l,A0 Ae q] H=some (.str (Fx ((els l).map Bf) (els q)),H):=by
 refine Ah cr9 rfl (by simp[Ac,Ap]) rfl ?_ H;have no:¬ ((els l).length<=8/\(els l).length=(els q).length)->Fx ((els l).map Bf) (els q)=[]:=λh=>by
  unfold Fx;rw[if_neg (λc=>h ⟨by simpa using c.1,by simpa using c.2.1⟩)]
 by_cases c1:8<((els l).length:Int)
 ·rw[no om]
  simp(disch:=try exact dz)only[Xs,t0,seval,if_pos,if_neg,c1]
 by_cases c2:((els l).length:Int)=(els q).length
 ·simp(disch:=try exact dz)only[Xs,t0,seval,if_pos,if_neg,c1,c2,Ia,c66,bp7];have hhl:((els l).map Bf).length=(els l).length:=e1q _;generalize hr:Ad _ _ _=r;refine B7 hr (els l).length
   (λj=>[.top,A0 Ae q,.top,.str (B6 [1] [((els q).length:Int)]++Ep (((els l).map Bf).take j) ((els q).take j)),.int .i64 (Gm ((els l).map Bf) j),.top,.top,.top,A0 Ak l,.int .i64 (els q).length,.int .i64 j,.top,.top,.top])
   (λj=>[]) (λj=>Fx ((els l).map Bf) (els q)=if M0 (Gm ((els l).map Bf) j) (((els l).map Bf).drop j) ((els q).drop j)=true then B6 [1] [((els q).length:Int)]++Ep (((els l).map Bf).take j) ((els q).take j)++Ep (((els l).map Bf).drop j) ((els q).drop j)else []) ?_ ?_ ?_ ?_ ?_
  ·simp[Ep,Gm]
  ·simp
  ·unfold Fx;have:((els l).length:Nat)<=8:=om;have B1:(els l).length=(els q).length:=om;have h8:(els q).length<=8:=om;simp[this,B1,h8,Gm,Ep,B6]
  ·intro j hj hI;have hj':((j:Int)<((els q).length:Int)):=om;have hjq:j<(els q).length:=om;have hjh:j<((els l).map Bf).length:=om;rw[b65 hjh hjq,az0];rw[Ew hjh,Ew hjq]at hI;simp only[M0,Ep]at hI;have hgd:((els l).map Bf).getD j default=Bf ((els l).getD j default):=ay5 hj Bf;rw[hgd]at hI ⊢;have hlen1:=a74 (((els l).map Bf).take j) ((els q).take j);rw[e1f]at hlen1;have hlp:(B6 [1] [((els q).length:Int)]).length=1:=rfl;have hm:=c2z ((els l).getD j default).id ((els l).getD j default).kind ((els l).getD j default).origin ((els l).getD j default).quota (A0 Ao ((els l).getD j default).files) (Ap _ _) (b1r _ _) ((els q).getD j default) (Gm ((els l).map Bf) j);have hb:=c31 ((els l).getD j default).id ((els l).getD j default).kind ((els l).getD j default).origin ((els l).getD j default).quota (A0 Ao ((els l).getD j default).files) (Ap _ _) (b1r _ _) ((els q).getD j default);have eh:(⟨((els l).getD j default).id,((els l).getD j default).kind,((els l).getD j default).origin,((els l).getD j default).quota⟩:DsetH)=Bf ((els l).getD j default):=rfl;rw[eh]at hm hb;cases hmr:P5 (Gm ((els l).map Bf) j) (Bf ((els l).getD j default)) ((els q).getD j default)with
   |false=>
     rw[hmr]at hm;simp only[hmr,e29,e2e,e0f,if_false]at hI
     simp(disch:=try exact dz)only[t0,seval,hj',Aa,Ak,Ae,e2b,hm,hb];rw[hI]
   |true=>
     rw[hmr]at hm;simp only[hmr,e29,e2e,e0f,if_false]at hI;rw[c53 hmr]at hb;have hlr:=b66 (Bf ((els l).getD j default)) ((els q).getD j default)
     simp(disch:=try exact dz)only[t0,seval,hj',Aa,Ak,Ae,e2b,hm,hb,hlp,hlr];refine⟨?_,?_⟩
     ·simp only[e0x];rfl
     ·rw[hI];simp
  ·intro hI;have c2n:(els q).length=(els l).length:=om;have ht:(els q).take (els l).length=els q:=dz1 om;have ht2:((els l).map Bf).take (els l).length=(els l).map Bf:=dz1 om;have hd:(els q).drop (els l).length=[]:=dz2 om;have hd2:((els l).map Bf).drop (els l).length=[]:=dz2 om;rw[ht,ht2,hd,hd2]at hI;rw[ht,ht2]
   simp(disch:=try exact dz)only[t0,seval,c2n,e2k];rw[hI,c2n];simp[M0,Ep]
 ·rw[no om]
  simp(disch:=try exact dz)only[Xs,t0,seval,if_pos,if_neg,c1,c2]
def a86(l:List Int):DsetH:=match l with
 |[a,b,c,d]=>⟨a,b,c,d⟩
 |_=>⟨0,0,0,0⟩
def Nx(s:Bytes)(j:Nat):List DsetH:=(List.range j).map λi=>a86 (Bp [2,1,2,1] (s.drop (28*i)))
def Nw(s:Bytes)(j:Nat):List Ptr:=(List.range j).map λi=>He (Bp Fl (s.drop (28*i+6)))
theorem c5x(s:Bytes)(j:Nat):Nx s (j+1)=Nx s j++[a86 (Bp [2,1,2,1] (s.drop (28*j)))]:=by simp[Nx,List.range_succ]
theorem c5v(s:Bytes)(j:Nat):Nw s (j+1)=Nw s j++[He (Bp Fl (s.drop (28*j+6)))]:=by simp[Nw,List.range_succ]
theorem b6j(s:Bytes)(j:Nat):(Nx s j).length=j:=by simp[Nx]
theorem b6i(s:Bytes)(j:Nat):(Nw s j).length=j:=by simp[Nw]
def M8(x:DsetH):List AV:=[.int .i64 x.id,.int .i64 x.kind,.int .i64 x.origin,.int .i64 x.quota,.emp]
def b26(x:DsetH):Dset:=⟨x.id,x.kind,x.origin,x.quota,none⟩
theorem c0s(n:Nat)(s:Bytes):Ow (n+1) s=if 6<=s.length then(if 22<=(s.drop 6).length/\Bt (He (Bp Fl (s.drop 6)))=true then (match Ow n (s.drop 28)with|some (l,q,u)=>some (a86 (Bp [2,1,2,1] s)::l,He (Bp Fl (s.drop 6))::q,u)|none=>none)else none)else none:=by
 rw[Ow];have e1:Im [50,49,50,49] s=if 6<=s.length then some (Bp [2,1,2,1] s,s.drop 6)else none:=rfl;rw[e1];by_cases h:6<=s.length
 ·rw[if_pos h,if_pos h];simp only[Bp];unfold Tt;by_cases h2:22<=(s.drop 6).length/\Bt (He (Bp Fl (s.drop 6)))=true
  ·rw[if_pos h2,if_pos h2];simp only[e22];cases Ow n (s.drop (6+22))<;>rfl
  ·rw[if_neg h2,if_neg h2]
 ·rw[if_neg h,if_neg h]
theorem b3b(a b c d e f g h i j:Nat)(H:AH):K tab A5 A4 106 [.own a b c d e,.own f g h i j] H=Gs tab A5 A4 106 [.own a b c d e,.own f g h i j] H (Ac (Bc H [.own a b c d e,.own f g h i j])) (K tab A5 A4 106 (Bc H [.own a b c d e,.own f g h i j]) H):=J7 _ _ _ rfl _ _
theorem b3e(l:List DsetH)(H:AH):(l.map M8).map (λe=>e.map (D9 H 3))=(l.map b26).map Ak:=by
 rw[e2t,e2t];rfl
theorem b3d(l:List Ptr)(H:AH):(l.map A7).map (λe=>e.map (D9 H 3))=l.map Ae:=by
 rw[e2t];rfl
theorem Jh(l:List DsetH):Cf (some (l.map M8))=[]:=K4 l _ λ_=>rfl
theorem Ar(l:List Ptr):Cf (some (l.map A7))=[]:=K4 l _ λ_=>rfl
theorem Ir(τ:Nat->Option Nat)(l:List DsetH):Av τ (l.map M8)=l.map M8:=Mr τ l _ λ_=>rfl
theorem Aw(τ:Nat->Option Nat)(l:List Ptr):Av τ (l.map A7)=l.map A7:=Mr τ l _ λ_=>rfl
def b44(o:Option (List DsetH×List Ptr)):AV×AH:=match o with
 |some (l,p)=>(.tuple [.own 0 5 0 l.length l.length,.own 1 6 0 p.length p.length,.bool true],[some (l.map M8),some (p.map A7)])
 |none=>(.tuple [.emp,.emp,.bool false],[])
theorem b48(s:Bytes)(hs:s.length<=100000):Ev tab A5 A4 66 [.str s] []=some (b44 (Ov s)):=by
 refine Cd l66 rfl ?_;have t1:=Q0 (orc:=A5) (lk:=A4) [49] (by decide) s;have e1:Im [49] s=if 1<=s.length then some (Bp [1] s,s.drop 1)else none:=rfl;unfold Ml at t1;unfold Ov;rw[e1]at t1 ⊢;by_cases h3:1<=s.length
 ·rw[if_pos h3]at t1 ⊢;have hL:Bp [1] s=[Bk (s.take 1)]:=rfl;rw[hL]at t1 ⊢;simp only[e2c,e2o,Dp]at t1;simp only[];have hd:(s.drop 1).length=s.length-1:=e19;have hn0:=Rm (s.take 1);have hn1:=b3j (s.take 1) 1 (by rw[e1f];omega);obtain⟨n,hn⟩:∃ n:Nat,Bk (s.take 1)=n:=⟨(Bk (s.take 1)).toNat,by omega⟩;rw[hn]at t1 hn1 ⊢;rw[e10];generalize s.drop 1=r at *
  simp(disch:=try exact dz)only[g66,t0,seval,t1,Gx,if_pos,if_neg];generalize hr:Ad _ _ _=r';refine B7 hr n
   (λj=>[.str s,.own 0 5 0 j j,.own 1 6 0 j j,.top,.top,.str (r.drop (28*j)),.top,.top,.top,.top,.top,.top,.top,.top,.int .i64 n,.int .i64 j,.top,.top,.top,.top,.top,.top,.top,.top,.top,.top,.top])
   (λj=>[some ((Nx r j).map M8),some ((Nw r j).map A7)])
   (λj=>Ow n r=(Ow (n-j) (r.drop (28*j))).map λq=>(Nx r j++q.1,Nw r j++q.2.1,q.2.2)) ?_ ?_ ?_ ?_ ?_
  ·simp
  ·simp[Nx,Nw]
  ·simp[Nx,Nw]
  ·intro j hj hI;have hj':((j:Int)<(n:Int)):=om;rw[show n-j=(n-(j+1))+1 by omega,c0s,e22,e22,show 28*j+28=28*(j+1) by omega]at hI;rw[c5x,c5v];have hdd:r.drop (28*(j+1))=(r.drop (28*j)).drop 28:=(by rw[e22];rfl);have hd6:r.drop (28*j+6)=(r.drop (28*j)).drop 6:=(by rw[e22]);rw[hd6]at hI ⊢;have hlh:=b6j r j;have hlq:=b6i r j;have htl:(r.drop (28*j)).length<=100000:=(by rw[e19];omega);have t2:=Q0 (orc:=A5) (lk:=A4) [50,49,50,49] (by decide) (r.drop (28*j));have e2:Im [50,49,50,49] (r.drop (28*j))=if 6<=(r.drop (28*j)).length then some (Bp [2,1,2,1] (r.drop (28*j)),(r.drop (28*j)).drop 6)else none:=rfl;unfold Ml at t2;rw[e2]at t2;rw[hdd]at hI ⊢;generalize Nx r j=ph at *;generalize Nw r j=pq at *;generalize r.drop (28*j)=t at *;have hL2:Bp [2,1,2,1] t=[Bk (t.take 2),Bk ((t.drop 2).take 1),Bk ((t.drop 3).take 2),Bk ((t.drop 5).take 1)]:=(by simp[Bp,e22]);rw[hL2]at t2 hI ⊢;by_cases h6:6<=t.length
   ·rw[if_pos h6]at t2 hI;simp only[e2c,e2o,Dp,a86]at t2 hI ⊢;generalize Bk ((t.drop 5).take 1)=d at *;generalize Bk ((t.drop 3).take 2)=c at *;generalize Bk ((t.drop 2).take 1)=b at *;generalize Bk (t.take 2)=a at *;have t3:=λH=>a6a (orc:=A5) (lk:=A4) (t.drop 6) (by rw[e19];omega) 1 om H;have e3:H8 1 (t.drop 6)=if 22<=(t.drop 6).length/\Bt (He (Bp Fl (t.drop 6)))=true then some ([He (Bp Fl (t.drop 6))],(t.drop 6).drop 22)else none:=by
     rw[H8];unfold Tt;by_cases h:22<=(t.drop 6).length/\Bt (He (Bp Fl (t.drop 6)))=true
     ·rw[if_pos h,if_pos h];rfl
     ·rw[if_neg h,if_neg h]
    unfold Py at t3;rw[show(1:Int).toNat=1 from rfl,e3]at t3;by_cases h22:22<=(t.drop 6).length/\Bt (He (Bp Fl (t.drop 6)))=true
    ·rw[if_pos h22]at t3 hI;have e28:(t.drop 6).drop 22=t.drop 28:=(by rw[e22]);rw[e28]at t3;simp only[e2c,e2o,Ae]at t3;generalize He (Bp Fl (t.drop 6))=p at *
     simp(disch:=try exact dz)only[t0,seval,hj',t2,t3,Gx,e1q,hlh,hlq,e2b,Jh,Ar];refine⟨rfl,?_,?_⟩
     ·rw[e1w,e1w];rfl
     ·rw[hI];cases Ow (n-(j+1)) (t.drop 28)with
      |none=>rfl
      |some q=>obtain⟨x,y,z⟩:=q;simp
    ·rw[if_neg h22]at t3 hI
     simp(disch:=try exact dz)only[t0,seval,hj',t2,t3,Gx];rw[hI];rfl
   ·rw[if_neg h6]at t2 hI
    simp(disch:=try exact dz)only[t0,seval,hj',t2,Gx];rw[hI];rfl
  ·intro hI;rw[Nat.sub_self,Ow]at hI;rw[hI];simp only[e1p,e1t];have hlh:=b6j r n;have hlq:=b6i r n;generalize Nx r n=ph at *;generalize Nw r n=pq at *;have hT:=λH=>c0z (some (ph.map b26)) (some pq) (by rw[Bn,e1q];omega) (by rw[Bn];omega) H;have eh:(ph.map b26).map Bf=ph:=(by rw[e2t];exact(e0a λx _=>rfl).trans (List.map_id _));rw[Bn,Bn,eh]at hT;simp only[C1]at hT;have k1:(ph.map M8).take n=ph.map M8:=dz1 (by rw[e1q];omega);have k2:(pq.map A7).take n=pq.map A7:=dz1 (by rw[e1q];omega);by_cases hE:Fx ph pq=s
   ·rw[if_pos hE];rw[hE]at hT
    simp(disch:=try exact dz)only[t0,seval,e2k,b3b,au2,b0s,Af,Jh,Ar,Ir,Aw,b3e,b3d,hT,k1,k2,hE,e1q,hlh,hlq];simp only[b44,hlh,hlq]
   ·rw[if_neg hE]
    simp(disch:=try exact dz)only[t0,seval,e2k,b3b,au2,b0s,Af,Jh,Ar,Ir,Aw,b3e,b3d,hT,k1,k2,hE,e1q,hlh,hlq];rfl
 ·rw[if_neg h3]at t1 ⊢
  simp(disch:=try exact dz)only[g66,t0,seval,t1];rfl
def Ch(x:Node):List AV:=[.int .i64 x.kind,.int .i64 x.up,.str x.name,.str x.body,.int .i64 x.bad]
def Iu:List Node:=[foldN,node0,node0,node0,node0,node0,node0,node0]
theorem ap5(n:Nat)(l:List Node)(H:AH):(l.map Ch).map (λe=>e.map (D9 H n))=l.map Ao:=by
 rw[e2t];cases n<;>rfl
theorem J8(n:Nat)(l:List Ptr)(H:AH):(l.map A7).map (λe=>e.map (D9 H n))=l.map Ae:=by
 rw[e2t];cases n<;>rfl
theorem E7(l:List Node):Cf (some (l.map Ch))=[]:=K4 l _ λ_=>rfl
theorem Fj(τ:Nat->Option Nat)(l:List Node):Av τ (l.map Ch)=l.map Ch:=Mr τ l _ λ_=>rfl
theorem Qr(r:Nat)(es:List (List PV))(l:List Node):(l.map Ch).map (Ce r es)=l.map Ch:=by
 rw[e2t];exact e0a λ_ _=>rfl
theorem M5(r:Nat)(es:List (List PV))(l:List Ptr):(l.map A7).map (Ce r es)=l.map A7:=by
 rw[e2t];exact e0a λ_ _=>rfl
theorem Pw(l:List Node):Ct (l.map Ch)=some (l.map Ao):=Lp _ _ (λ_=>rfl) l
theorem Mk(l:List Ptr):Ct (l.map A7)=some (l.map Ae):=Lp _ _ (λ_=>rfl) l
def vwP(H:AH)(n off len tot:Nat):Option AObj->PV
 |some o=>if off+len<=tot then .fz (((o.drop off).take len).map λe=>e.map (D9 H n))else .top
 |none=>.top
theorem Ez(H:AH)(n off len tot:Nat)(o:AObj):vwP H n off len tot (some o)=if off+len<=tot then .fz (((o.drop off).take len).map λe=>e.map (D9 H n))else .top:=rfl
theorem c8w:Ev tab A5 A4 107 [] []=some (.own 0 5 0 8 8,[some (Iu.map Ch)]):=by
 refine Cd cr8 rfl ?_
 simp(disch:=try exact dz)only[af2,t0,seval,if_pos,if_neg,Af];rfl
theorem aq4(n:Int)(hn:n<=1000000)(H:AH):K tab A5 A4 233 [.int .i64 n] H=some (.str (zs n.toNat),H):=by
 refine Ah ck6 rfl rfl rfl ?_ H;by_cases h:n<0
 ·have e:n.toNat=0:=om
  simp(disch:=try exact dz)only[a2i,t0,seval,if_pos,if_neg,au3,h];rw[e]
 ·simp(disch:=try exact dz)only[a2i,t0,seval,if_pos,if_neg,au3,h]
theorem cz5(c:UInt8)(s:Bytes)(hs:s.length<=1000000)(H:AH):K tab A5 A4 274 [.str s,.int .u8 c.toNat] H=some (.int .i64 (Qj c s),H):=by
 refine a5o c8j rfl rfl ?_ H;rw[c6g]
 have:=c.toNat_lt;simp only[a1v];rw[if_pos ⟨hs,by omega,by omega⟩];have e:UInt8.ofNat ((c.toNat:Int)).toNat=c:=by simp
 rw[e]
def a6n:Bytes:=[97,98,99,100,101,102,103,104,105,106,107,108,109,110,111,112,113,114,115,116,117,118,119,120,121,122,48,49,50,51,52,53,54,55,56,57,46,95,45]
theorem c26(c:UInt8):Ny c=decide (¬ Qj c a6n<0):=by
 have h:∀ n,n<256->Ny (UInt8.ofNat n)=decide (¬ Qj (UInt8.ofNat n) a6n<0):=by decide +kernel
 have:=h c.toNat c.toNat_lt
 rwa [UInt8.ofNat_toNat]at this
theorem c61(s:Bytes)(hs:s.length<=1000000)(H:AH):K tab A5 A4 232 [.str s] H=some (.bool (s.all Ny),H):=by
 refine Ah ck7 rfl rfl rfl ?_ H
 simp(disch:=try exact dz)only[a9z,t0,seval,if_pos,if_neg];generalize hr:Ad _ _ _=r;refine B7 hr s.length (λj=>[.top,.top,.top,.own 0 1 0 s.length s.length,.int .i64 s.length,.int .i64 j,.top])
  (λj=>[some (s.map λb=>[.int .u8 b.toNat])]) (λj=>s.all Ny=(s.drop j).all Ny) ?_ ?_ ?_ ?_ ?_
 ·simp
 ·simp
 ·simp
 ·intro j hj hI;have hj':((j:Int)<(s.length:Int)):=om;rw[Ew hj,e2h]at hI;have hix:=cz5 (s.getD j default) a6n (by decide);have hok:=c26 (s.getD j default);unfold a6n at hix hok;generalize hch:s.getD j default=ch at *
  simp(disch:=try exact dz)only[t0,seval,hj',e2b,G9,e1q,hch,hix];refine⟨λh=>?_,λh=>⟨rfl,?_⟩⟩
  ·rw[hI,hok,e1y (by simpa using h)];rfl
  ·rw[hI,hok,e2a h,e2e]
 ·intro hI;rw[e1h]at hI
  simp(disch:=try exact dz)only[t0,seval,e2k];rw[hI];rfl
theorem b7f(s:Bytes)(hs:s.length<=1000000)(H:AH):K tab A5 A4 171 [.str s] H=some (.bool (mayName s),H):=by
 refine Ah cn4 rfl rfl rfl ?_ H
 simp(disch:=try exact dz)only[ac0,t0,seval,if_pos,if_neg,c61];unfold mayName;cases s with
 |nil=>rfl
 |cons c s=>
   congr 2
   rw[e1x];simp only[Bool.decide_eq_true,e14,e0r,e0w,dy7,e15,reduceCtorEq,not_false_eq_true,true_and];constructor
   ·rintro⟨⟨⟨a,b⟩,c⟩,d⟩;exact⟨⟨⟨⟨b,by omega⟩,by omega⟩,c⟩,d⟩
   ·rintro⟨⟨⟨⟨b,_⟩,a⟩,c⟩,d⟩;exact⟨⟨⟨by omega,b⟩,c⟩,d⟩
theorem c8p(p:Ptr)(H:AH):K tab A5 A4 170 [.agg (A7 p)] H=some (.bool (!decide (p=Bb)),H):=by
 refine Ah cn5 rfl rfl rfl ?_ H
 simp(disch:=try exact dz)only[ac1,t0,seval,if_pos,if_neg,A7];have h0:=a0z p.addr p.birth p.sum.a p.sum.b p.sum.c p.sum.d;rw[Q8]at h0;have e:decide (p=Bb)=(decide (p.addr=0)&&(decide (p.birth=0)&&(decide ((p.sum.a.toNat:Int)=0)&&(decide ((p.sum.b.toNat:Int)=0)&&(decide ((p.sum.c.toNat:Int)=0)&&decide ((p.sum.d.toNat:Int)=0)))))):=by
  rw[<-e20,<-e20,<-e20,<-e20,<-e20];exact e1e.2 h0
 rw[e]
theorem de7(l:Sl Ptr)(hl:(els l).length<=1000000)(H:AH):K tab A5 A4 169 [A0 Ae l,.fn (.func 170) [] []] H=some (.bool (!((els l).all λp=>decide (p=Bb))),H):=by
 have hi:∀ H,K tab A5 A4 231 [A0 Ae l,.fn (.func 170) [] []] H=some (.int .i64 (if((els l).all λp=>decide (p=Bb))=true then -1 else((els l).takeWhile λp=>decide (p=Bb)).length),H):=by
  intro H;refine Ah ck8 rfl (by simp[Ac,A8,Ap]) rfl ?_ H
  simp(disch:=try exact dz)only[aa0,t0,seval,if_pos,if_neg];generalize hr:Ad _ _ _=r;refine B7 hr (els l).length (λj=>[A0 Ae l,.fn (.func 170) [] [],.top,.top,.int .i64 (els l).length,.int .i64 j,.top])
   (λj=>[]) (λj=>((els l).all λp=>decide (p=Bb))=(((els l).drop j).all λp=>decide (p=Bb))/\((els l).takeWhile λp=>decide (p=Bb)).length=j+(((els l).drop j).takeWhile λp=>decide (p=Bb)).length) ?_ ?_ ?_ ?_ ?_
  ·simp
  ·simp
  ·simp
  ·intro j hj hI;have hj':((j:Int)<((els l).length:Int)):=om;rw[Ew hj,e2h,List.takeWhile_cons]at hI;have hn:=c8p ((els l).getD j default);simp only[A7]at hn;cases hp:decide ((els l).getD j default=Bb)with
   |true=>
     rw[hp]at hn;simp only[hp,if_true,e15,e2e]at hI
     simp(disch:=try exact dz)only[t0,seval,hj',e2b,Aa,Ae,hn];refine⟨rfl,hI.1,by omega⟩
   |false=>
     rw[hp]at hn;simp only[hp,e0f,if_false,e1n,e29]at hI
     simp(disch:=try exact dz)only[t0,seval,hj',e2b,Aa,Ae,hn];rw[hI.1,hI.2];rfl
  ·intro hI;rw[e1h]at hI
   simp(disch:=try exact dz)only[t0,seval,e2k];rw[hI.1];rfl
 refine Ah cn7 rfl (by simp[Ac,A8,Ap]) rfl ?_ H
 simp(disch:=try exact dz)only[ac2,t0,seval,if_pos,if_neg,hi];cases h:(els l).all λp=>decide (p=Bb)with
 |true=>rfl
 |false=>simp
theorem bh4(d:Dev)(size:Int):∀ (k:Nat) (l:List Ptr) (p:Ptr),H6 d size k (l++[p])=((H6 d size k l).1++(P1 d size (k+l.length) p).1,(H6 d size k l).2+(P1 d size (k+l.length) p).2)
 |k,[],p=>by simp[H6]
 |k,x::l,p=>by
   rw[e1b,H6,bh4 d size (k+1) l p,H6,e15];rw[show k+1+l.length=k+(l.length+1) by omega];simp only[e0x,Nat.add_assoc]
theorem c63(d:Dev)(size:Int)(k:Nat)(p:Ptr):(P1 d size k p).2=0\/(P1 d size k p).2=2 ^ k:=by
 unfold P1;split
 ·exact .inl rfl
 ·split
  ·split
   ·exact .inl rfl
   ·exact .inr rfl
  ·exact .inr rfl
theorem bh5(d:Dev)(size:Int):∀ (k:Nat) (l:List Ptr),(H6 d size k l).2+2 ^ k<=2 ^ (k+l.length)
 |k,[]=>by simp[H6]
 |k,p::l=>by
   have ih:=bh5 d size (k+1) l;have hb:=c63 d size k p;rw[H6,e15,show k+(l.length+1)=k+1+l.length by omega];simp only;have:2 ^ (k+1)=2 ^ k+2 ^ k:=(by rw[Nat.pow_succ];omega);have hpos:0<2 ^ k:=Nat.pow_pos om;rcases hb with h|h<;>rw[h]<;>omega
theorem d07(a k:Nat)(ha:a<2 ^ k)(hk:k<8):IntKind.i64.wrap (((BitVec.ofInt IntKind.i64.bits (a:Int) ||| BitVec.ofInt IntKind.i64.bits (IntKind.i64.wrap (1*2 ^ min k IntKind.i64.bits))).toNat:Nat):Int)=((a+2 ^ k:Nat):Int):=by
 have h:∀ k:Nat,k<8->∀ a:Nat,a<2 ^ k->IntKind.i64.wrap (((BitVec.ofInt IntKind.i64.bits (a:Int) ||| BitVec.ofInt IntKind.i64.bits (IntKind.i64.wrap (1*2 ^ min k IntKind.i64.bits))).toNat:Nat):Int)=((a+2 ^ k:Nat):Int):=by
  intro k hk;have hle:2 ^ k<=128:=by
   have:2 ^ k<=2 ^ 7:=Nat.pow_le_pow_right om om;omega
  have key:∀ k:Nat,k<8->∀ a:Nat,a<128->a<2 ^ k->IntKind.i64.wrap (((BitVec.ofInt IntKind.i64.bits (a:Int) ||| BitVec.ofInt IntKind.i64.bits (IntKind.i64.wrap (1*2 ^ min k IntKind.i64.bits))).toNat:Nat):Int)=((a+2 ^ k:Nat):Int):=by decide +kernel
  intro a ha;exact key k hk a om ha
 exact h k hk a ha
theorem bm8{s:Bytes}:(s.all λc=>decide (c=0))=true↔s=zs s.length:=by
 rw[e16];constructor
 ·intro h;exact List.eq_replicate_iff.2 ⟨rfl,λb hb=>by simpa using h b hb⟩
 ·intro h c hc;rw[h]at hc
  have:=List.eq_of_mem_replicate hc;simp[this]
theorem b24{s:Bytes}(hs:s.length=32)(x:Int)(b:Nat)(hb:(b:Int)=if 32<(if x<0 then 0 else x)then 32 else(if x<0 then 0 else x)):(s.drop b=zs (32-b))↔((s.drop x.toNat).all λc=>decide (c=0))=true:=by
 rw[bm8,e19,hs];rcases Int.lt_or_le 32 x with h|h
 ·have:b=32:=by
   rw[if_neg (show ¬ x<0 by omega),if_pos h]at hb;omega
  subst this;rw[dz2 om,dz2 om,show 32-x.toNat=0 by omega]
 ·have:b=x.toNat:=by
   by_cases hx:x<0
   ·rw[if_pos hx,if_neg (show ¬ (32:Int)<0 by omega)]at hb;omega
   ·rw[if_neg hx,if_neg (show ¬ 32<x by omega)]at hb;omega
  rw[this]
theorem Ph(p:Ptr):(decide (p.addr=0)&&(decide (p.birth=0)&&(decide ((p.sum.a.toNat:Int)=0)&&(decide ((p.sum.b.toNat:Int)=0)&&(decide ((p.sum.c.toNat:Int)=0)&&decide ((p.sum.d.toNat:Int)=0))))))=decide (p=Bb):=by
 have h0:=a0z p.addr p.birth p.sum.a p.sum.b p.sum.c p.sum.d;rw[Q8]at h0;rw[<-e20,<-e20,<-e20,<-e20,<-e20]
 exact(e1e.2 h0).symm
theorem Mi(r i j t:Nat)(a b:AV)(H:AH):K tab A5 A4 172 [.ptr r i j t,a,b] H=Gs tab A5 A4 172 [.ptr r i j t,a,b] H (Ac (Bc H [.ptr r i j t,a,b])) (K tab A5 A4 172 (Bc H [.ptr r i j t,a,b]) H):=J7 _ _ _ rfl _ _
theorem Pu:(zs 32).length=32:=rfl
theorem db6(d:Dev)(hd:DevOk d)(x1 x2 x3 x4:PV)(size:Int)(h0:0<=size)(h1:size<=128)(l:List Ptr)(hl:l.length=4)(H:AH):K tab A5 A4 172 [.fptr [Nv Bh d.last,Nv Bi d.wait,.int .i64 d.lies,.int .i64 d.arm,.bool d.down,x1,x2,x3,x4],.int .i64 size,.fz (l.map Ae)] H =
 some (.tuple [.str (b21 d size l).1,.int .i64 (b21 d size l).2],H):=by
 refine Ah cn3 rfl rfl rfl ?_ H
 simp(disch:=try exact dz)only[ab9,t0,seval,if_pos,if_neg];generalize hr:Ad _ _ _=r;refine B7 hr l.length
  (λj=>[.fptr [Nv Bh d.last,Nv Bi d.wait,.int .i64 d.lies,.int .i64 d.arm,.bool d.down,x1,x2,x3,x4],.int .i64 size,.top,.str (H6 d size 0 (l.take j)).1,.int .i64 (H6 d size 0 (l.take j)).2,.top,.top,.top,.top,.top,.fz (l.map Ae),.int .i64 l.length,.int .i64 j,.top,.top,.top,.top,.top,.top,.top,.top])
  (λj=>[]) (λj=>True) ?_ ?_ trivial ?_ ?_
 ·simp[H6]
 ·simp
 ·intro j hj _;have hj':((j:Int)<(l.length:Int)):=om;have ht:=En hj;have hlt:(l.take j).length=j:=by rw[e1f];omega
  have hlen:=b20 d size 0 (l.take j);have hbad:=bh5 d size 0 (l.take j);rw[hlt]at hlen hbad;rw[ht,bh4,hlt,e2s];have hor:=d07 (H6 d size 0 (l.take j)).2 j (by rw[e2s]at hbad;omega) om;have hld:=Wz d hd (l.getD j default) 1;have hpl:=b6o d size j (l.getD j default);have hn32:=aq4 32 om;rw[show(32:Int).toNat=32 from rfl]at hn32;generalize H6 d size 0 (l.take j)=B at *;generalize hgp:l.getD j default=p at *;unfold P1 at hpl ⊢;by_cases hp:p=Bb
  ·have hpt:(p=Bb)=True:=eq_true hp;rw[if_pos hp];cases hL:Iv d p 1 with
   |none=>
     rw[hL]at hld
     simp(disch:=try exact dz)only[t0,seval,hj',hgp,e2b,Ax,Ae,hld,Di,hn32,Ph,hor,Pu,hlen,hpl,hpt,e1i,e0h];rfl
   |some s=>
     rw[hL]at hld
     simp(disch:=try exact dz)only[t0,seval,hj',hgp,e2b,Ax,Ae,hld,Di,hn32,Ph,hor,Pu,hlen,hpl,hpt,e13,e0i];rfl
  ·have hpf:(p=Bb)=False:=eq_false hp;rw[if_neg hp]at hpl ⊢;cases hL:Iv d p 1 with
   |none=>
     rw[hL]at hld hpl;simp only[]at hpl ⊢
     simp(disch:=try exact dz)only[t0,seval,hj',hgp,e2b,Ax,Ae,hld,Di,hn32,Ph,hor,Pu,hlen,hpl,hpf,e1i,e0h];rfl
   |some s=>
     rw[hL]at hld hpl;simp only[]at hpl ⊢;by_cases c1:(s.length:Int)=32
     ·by_cases c2:s=zs 32
      ·rw[if_neg (λh=>h.2.1 c2)]
       simp(disch:=try exact dz)only[t0,seval,hj',hgp,e2b,Ax,Ae,hld,Di,hn32,Ph,hor,Pu,hlen,hpl,hpf,e13,e0i,c1,c2];rfl
      ·have hsl:s.length=32:=om;have hn0:=aq4 0 om;rw[show size-32*(j:Int)=size-(j:Int)*32 by omega]at hpl ⊢;generalize hx:size-(j:Int)*32=x at *;have hnb:=aq4 (32-x);rcases Int.lt_or_le x 0 with c4|c4
       ·have hb:=b24 hsl x 0 (by rw[if_pos c4,if_neg om];rfl);rw[e23]at hb;rw[if_neg (λh=>c2 (hb.2 h.2.2))]at hpl ⊢;have c5:(s.take s.length=zs 32)=False:=eq_false (by rw[e1g];exact c2)
        simp(disch:=try exact dz)only[t0,seval,hj',hgp,e2b,Ax,Ae,hld,Di,hn32,Ph,hor,Pu,hlen,hpl,hpf,e13,e0i,c1,c2,c5,hx,hn0];rfl
       ·rcases Int.lt_or_le 32 x with c6|c6
        ·have hb:=b24 hsl x 32 (by rw[if_neg (show ¬ x<0 by omega),if_pos c6];rfl);have c3:((s.drop x.toNat).all λc=>decide (c=0))=true:=by
          rw[dz2 om];rfl
         rw[if_pos ⟨hsl,c2,c3⟩]at hpl ⊢;have c5:((s.take 32).drop 32=zs 0)=True:=eq_true (by rw[dz2 (by rw[e1f];omega)];rfl)
         simp(disch:=try exact dz)only[t0,seval,hj',hgp,e2b,Ax,Ae,hld,Di,hn32,Ph,hor,Pu,hlen,hpl,hpf,e13,e0i,c1,c2,hx,hn0,c5];rfl
        ·have hb:=b24 hsl x x.toNat (by rw[if_neg (show ¬ x<0 by omega),if_neg (show ¬ 32<x by omega)];omega);have hnb:=hnb om;by_cases c3:((s.drop x.toNat).all λc=>decide (c=0))=true
         ·rw[if_pos ⟨hsl,c2,c3⟩]at hpl ⊢;have c5:((s.take 32).drop x.toNat=zs (32-x).toNat)=True:=eq_true (by rw[dz1 om,hb.2 c3];congr 1;omega)
          simp(disch:=try exact dz)only[t0,seval,hj',hgp,e2b,Ax,Ae,hld,Di,hn32,Ph,hor,Pu,hlen,hpl,hpf,e13,e0i,c1,c2,hx,hnb,c5];rfl
         ·rw[if_neg (λh=>c3 h.2.2)]at hpl ⊢;have c5:((s.take s.length).drop x.toNat=zs (32-x).toNat)=False:=eq_false (by rw[e1g,show(32-x).toNat=32-x.toNat by omega];exact λh=>c3 (hb.1 h))
          simp(disch:=try exact dz)only[t0,seval,hj',hgp,e2b,Ax,Ae,hld,Di,hn32,Ph,hor,Pu,hlen,hpl,hpf,e13,e0i,c1,c2,hx,hnb,c5];rfl
     ·rw[if_neg (λh=>c1 om)]
      simp(disch:=try exact dz)only[t0,seval,hj',hgp,e2b,Ax,Ae,hld,Di,hn32,Ph,hor,Pu,hlen,hpl,hpf,e13,e0i,c1];rfl
 ·intro _;rw[e1g];have hbl:=b20 d size 0 l
  simp(disch:=try exact dz)only[t0,seval,e2k];rfl
section
def spl(P:List Ptr)(n:Nat)(l:List Ptr):List Ptr:=P.take (4*n)++l++P.drop (4*n+4)
theorem c6r{d:Dev}{n:Nat}{p:Ptr}{x:Node}{l:List Ptr}(h:S3 d n p=some (x,l)):l.length=4/\x.name.length<=8:=by
 unfold S3 at h;split at h
 ·rename_i y z m hm;rw[Option.ite_none_right_eq_some]at h;obtain⟨s,_,hs⟩:=dy6.1 hm;have hc:=ar2 hs;have e:=Option.some.inj h.2;have e1:=congrArg Prod.fst e;have e2:=congrArg Prod.snd e;simp only at e1 e2;subst e1;subst e2;exact⟨hc.2.2.2.1,hc.1.2.2.2⟩
 ·cases h
theorem as7(d:Dev)(n:Nat)(p:Ptr):(Q2 d n p).2.1.length=4/\(Q2 d n p).1.name.length<=8:=by
 unfold Q2;split
 ·split
  ·rename_i x l h;exact c6r h
  ·refine⟨rfl,?_⟩;split<;>simp[foldN,lostN]
 ·exact⟨rfl,by simp[node0]⟩
theorem a6i(d:Dev):∀ (n:Nat) (l:List Ptr),(Ip d n l).length=l.length
 |_,[]=>rfl
 |n,p::l=>by rw[Ip,e15,e15,a6i d (n+1) l]
theorem as5(d:Dev):∀ (n:Nat) (l:List Ptr) (j:Nat),j<l.length->(Ip d n l)[j]?=some (Q2 d (n+j) (l.getD j default))
 |n,[],j,h=>by simp at h
 |n,p::l,0,_=>by simp[Ip]
 |n,p::l,j+1,h=>by
   rw[Ip,dy5,as5 d (n+1) l j (by simpa using h),e0d,show n+1+j=n+(j+1) by omega]
def Qd:List Node:=[foldN,node0,node0,node0,node0,node0,node0,node0]
section
set_option linter.unusedSectionVars false
variable (g:List (Node×List Ptr×Bool))
def SJ(j:Nat):List Node:=(g.take j).map (·.1)++Qd.drop j
def PJ(j:Nat):List Ptr:=((g.take j).map (·.2.1)).flatten++Ab (32-4*j)
def TJ(j:Nat):Bool:=(g.take j).any (·.2.2)
variable {g} {j:Nat} {s:Node×List Ptr×Bool} (hg:g.length=8) (h4:∀ x∈g,x.2.1.length=4) (hj:j<8) (hs:g[j]?=some s)
include hg hj hs
theorem Zz:g.take (j+1)=g.take j++[s]:=by rw[e0y,hs];rfl
theorem dj3:SJ g (j+1)=(SJ g j).set j s.1:=by
 unfold SJ;rw[Zz hg hj hs,e1w,e2c,e2o,e0x,List.set_append,if_neg (by simp;omega)];have e:(Qd.drop j)=Qd.getD j default::Qd.drop (j+1):=by
  rw[dy0 (by simp[Qd];omega),dx5,dy1 (by simp[Qd];omega)];rfl
 rw[e,show j-((g.take j).map (·.1)).length=0 by simp;omega,e0o];rfl
theorem di9:TJ g (j+1)=(TJ g j||s.2.2):=by
 unfold TJ;rw[Zz hg hj hs,List.any_append,List.any_cons,List.any_nil,Bool.or_false]
theorem dj5:(SJ g j).length=8:=by
 unfold SJ;simp[Qd];omega
theorem dj4(h0:0<j)(hn:s.1=node0):SJ g (j+1)=SJ g j:=by
 have e:∀ j,j<8->0<j->Qd.drop j=node0::Qd.drop (j+1):=by decide
 unfold SJ;rw[Zz hg hj hs,e1w,e2c,e2o,e0x,hn,e j hj h0];rfl
include h4
theorem b2s:(((g.take j).map (·.2.1)).flatten).length=4*j:=by
 have:∀ l:List (Node×List Ptr×Bool),(∀ x∈l,x.2.1.length=4)->((l.map (·.2.1)).flatten).length=4*l.length:=by
  intro l
  induction l with
  |nil=>intro _;rfl
  |cons x l ih=>
    intro h;rw[e2c,e0u,e0l,h x (by simp),ih (λy hy=>h y (by simp[hy])),e15];omega
 rw[this _ (λx hx=>h4 x (e04 hx)),e1f,hg,Nat.min_eq_left om]
theorem dm9:(PJ g j).length=32:=by
 unfold PJ;rw[e0l,b2s hg h4 hj hs,Ab,dz7];omega
theorem dm7:PJ g (j+1)=spl (PJ g j) j s.2.1:=by
 have hf:=b2s hg h4 hj hs;unfold PJ spl;rw[Zz hg hj hs,e1w,List.flatten_append,e2c,e2o,e0u,List.flatten_nil,e1t];have e1:List.take (4*j) (((g.take j).map (·.2.1)).flatten++Ab (32-4*j))=((g.take j).map (·.2.1)).flatten:=by
  rw[List.take_append_of_le_length om,dz1 om]
 have e2:List.drop (4*j+4) (((g.take j).map (·.2.1)).flatten++Ab (32-4*j))=Ab (32-4*(j+1)):=by
  rw[List.drop_append,dz2 om,e1s,hf,Ab,List.drop_replicate,Ab]
  congr 1;omega
 rw[e1,e2]
theorem dm8(hn:s.2.1=Ab 4):PJ g (j+1)=PJ g j:=by
 have hf:=b2s hg h4 hj hs;unfold PJ;rw[Zz hg hj hs,e1w,List.flatten_append,e2c,e2o,e0u,List.flatten_nil,e1t,hn,e0x,Ab,Ab,List.replicate_append_replicate,Ab]
 congr 2;omega
end
theorem dj6{g:List (Node×List Ptr×Bool)}(hg:g.length=8):SJ g 8=g.map (·.1):=by
 unfold SJ;rw[dz1 om];exact e1t _
theorem bm2{g:List (Node×List Ptr×Bool)}(hg:g.length=8):PJ g 8=(g.map (·.2.1)).flatten:=by
 unfold PJ;rw[dz1 om];exact e1t _
theorem dj0{g:List (Node×List Ptr×Bool)}(hg:g.length=8):TJ g 8=g.any (·.2.2):=by
 unfold TJ;rw[dz1 om]
end
theorem Wu(H:AH):K tab A5 A4 107 [] H=some (.own H.length 5 0 8 8,H++[some (Iu.map Ch)]):=by
 rw[Zj tab A5 A4 rfl];rw[show Cb ([]:List AV)=[] by simp[Cb],av0];rw[An _ _ _ _ _ ⟨List.nodup_nil,by simp⟩,show Ca (B9 []) ([]:List AV)=[] by simp[Ca],e2o,c8w,b03,if_pos (by simp)];simp only[U6,Vv,b27,e1n,e1z,if_false,Nat.sub_zero,e2p,Uc,at4,e23,e2c,e2o,e1p,Fj]
def Wy(j:Nat):List Node:=match j with
 |0=>[foldN,node0,node0,node0,node0,node0,node0,node0]
 |1=>[foldN,lostN,node0,node0,node0,node0,node0,node0]
 |2=>[foldN,lostN,lostN,node0,node0,node0,node0,node0]
 |3=>[foldN,lostN,lostN,lostN,node0,node0,node0,node0]
 |4=>[foldN,lostN,lostN,lostN,lostN,node0,node0,node0]
 |5=>[foldN,lostN,lostN,lostN,lostN,lostN,node0,node0]
 |6=>[foldN,lostN,lostN,lostN,lostN,lostN,lostN,node0]
 |_=>S9
theorem Kk:Ou []=.tuple []:=qq
theorem b84{j:Nat}(h:j<7):(Wy j).length=8/\((Wy j).map Ch)[j+1]?=some [.int .i64 0,.int .i64 0,.str [],.str [],.int .i64 0]/\((Wy j).map Ch).set (j+1) [.int .i64 3,.int .i64 0,.str [],.str [],.int .i64 0]=(Wy (j+1)).map Ch:=by
 rcases(show j=0\/j=1\/j=2\/j=3\/j=4\/j=5\/j=6 by omega)with rfl|rfl|rfl|rfl|rfl|rfl|rfl<;>exact⟨rfl,rfl,rfl⟩
theorem c9u(d:Dev)(ls:List Node)(ln lp:List Ptr)(t:Bool):Ev tab A5 A4 109 [.ptr 0 0 0 1] [some [[A0 Bh d.last,A0 Bi d.wait,.int .i64 d.lies,.int .i64 d.arm,.bool d.down,.own 1 5 0 8 8,.own 2 6 0 8 8,.own 3 6 0 32 32,.bool t]],some (ls.map Ch),some (ln.map A7),some (lp.map A7)] =
 some (.tuple [],[some [[A0 Bh d.last,A0 Bi d.wait,.int .i64 d.lies,.int .i64 d.arm,.bool d.down,.own 4 5 0 8 8,.own 2 6 0 8 8,.own 3 6 0 32 32,.bool true]],some (ls.map Ch),some (ln.map A7),some (lp.map A7),some (S9.map Ch)]):=by
 refine Cd b8v rfl ?_
 simp(disch:=try exact dz)only[a2r,t0,seval,if_pos,if_neg,Af,Wu,E7,Ar];generalize hr:Ad _ _ _=r;refine G7 (Q:=λr=>Cg _ _ _ (B0 _ r)=_) hr 7
  (λj=>[.ptr 0 0 0 1,.int .i64 ((j:Int)+1),.top,.top,.top])
  (λj=>[some [[A0 Bh d.last,A0 Bi d.wait,.int .i64 d.lies,.int .i64 d.arm,.bool d.down,.own 4 5 0 8 8,.own 2 6 0 8 8,.own 3 6 0 32 32,.bool true]],some (ls.map Ch),some (ln.map A7),some (lp.map A7),some ((Wy j).map Ch)]) (λj=>True) ?_ ?_ trivial ?_ ?_
 ·rfl
 ·rfl
 ·intro j hj _;obtain⟨hl8,hge,hst⟩:=b84 hj;have htn:((j:Int)+1).toNat=j+1:=om;have hj':(j:Int)+1<8:=om
  simp(disch:=try exact dz)only[t0,seval,e2b,E7,Ar,hl8,hj',htn,hge,hst];rfl
 ·intro _
  simp(disch:=try exact dz)only[t0,seval,e2b,E7,Ar,Kk,Af,Fj,Aw];rfl
theorem c9v(d:Dev)(ls:List Node)(y:List (List PV))(lp:List Ptr)(t:Bool):Ev tab A5 A4 109 [.ptr 0 0 0 1] [some [[A0 Bh d.last,A0 Bi d.wait,.int .i64 d.lies,.int .i64 d.arm,.bool d.down,.own 1 5 0 8 8,.fz y,.own 2 6 0 32 32,.bool t]],some (ls.map Ch),some (lp.map A7)] =
 some (.tuple [],[some [[A0 Bh d.last,A0 Bi d.wait,.int .i64 d.lies,.int .i64 d.arm,.bool d.down,.own 3 5 0 8 8,.fz y,.own 2 6 0 32 32,.bool true]],some (ls.map Ch),some (lp.map A7),some (S9.map Ch)]):=by
 refine Cd b8v rfl ?_
 simp(disch:=try exact dz)only[a2r,t0,seval,if_pos,if_neg,Af,Wu,E7,Ar];generalize hr:Ad _ _ _=r;refine G7 (Q:=λr=>Cg _ _ _ (B0 _ r)=_) hr 7
  (λj=>[.ptr 0 0 0 1,.int .i64 ((j:Int)+1),.top,.top,.top])
  (λj=>[some [[A0 Bh d.last,A0 Bi d.wait,.int .i64 d.lies,.int .i64 d.arm,.bool d.down,.own 3 5 0 8 8,.fz y,.own 2 6 0 32 32,.bool true]],some (ls.map Ch),some (lp.map A7),some ((Wy j).map Ch)]) (λj=>True) ?_ ?_ trivial ?_ ?_
 ·rfl
 ·rfl
 ·intro j hj _;obtain⟨hl8,hge,hst⟩:=b84 hj;have htn:((j:Int)+1).toNat=j+1:=om;have hj':(j:Int)+1<8:=om
  simp(disch:=try exact dz)only[t0,seval,e2b,E7,Ar,hl8,hj',htn,hge,hst];rfl
 ·intro _
  simp(disch:=try exact dz)only[t0,seval,e2b,E7,Ar,Kk,Af,Fj,Aw];rfl
def aw8(d:Dev)(l:List Ptr)(n:Nat)(S:List Node)(P:List Ptr)(t:Bool):AH:=match S3 d n (l.getD n default)with
 |some (x,l')=>[some [[A0 Bh d.last,A0 Bi d.wait,.int .i64 d.lies,.int .i64 d.arm,.bool d.down,.own 1 5 0 8 8,.fz (l.map Ae),.own 2 6 0 32 32,.bool (t||!decide (x.bad=0))]],some ((S.set n x).map Ch),some ((spl P n l').map A7)]
 |none=>[some [[A0 Bh d.last,A0 Bi d.wait,.int .i64 d.lies,.int .i64 d.arm,.bool d.down,.own 1 5 0 8 8,.fz (l.map Ae),.own 2 6 0 32 32,.bool true]],some ((S.set n (if n=0 then foldN else lostN)).map Ch),some (P.map A7)]
theorem Ig(ev:Opd->AV)(H:AH)(s:Nat)(x:Opd)(l h:Option Opd):Dy (.slicel s x l h) ev H=same (Tw H s ev (ev x) l h) H:=by
 have e:B4 (.slicel s x l h) ev H=Tw H s ev (ev x) l h:=rfl;unfold Dy same;rw[e];cases Tw H s ev (ev x) l h<;>rfl
theorem M4{S:List Node}{n:Nat}(h:n<S.length):(S.map Ch)[n]?=some [.int .i64 (S.getD n default).kind,.int .i64 (S.getD n default).up,.str (S.getD n default).name,.str (S.getD n default).body,.int .i64 (S.getD n default).bad]:=by
 simp[e0t,dx5,dy1 h,Ch]
theorem Ha(S:List Node)(n:Nat)(k u:Int)(nm b:Bytes)(bad:Nat):(S.map Ch).set n [.int .i64 k,.int .i64 u,.str nm,.str b,.int .i64 bad]=(S.set n ⟨k,u,nm,b,bad⟩).map Ch:=by
 rw[List.map_set];rfl
theorem Ht(S:List Node)(n:Nat)(k u:Int)(nm b:Bytes):(S.map Ch).set n [.int .i64 k,.int .i64 u,.str nm,.str b,.int .i64 0]=(S.set n ⟨k,u,nm,b,0⟩).map Ch:=Ha S n k u nm b 0
theorem N4{S:List Node}{n:Nat}(h:n<S.length)(x:Node):((S.set n x).map Ch)[n]?=some [.int .i64 x.kind,.int .i64 x.up,.str x.name,.str x.body,.int .i64 x.bad]:=by
 simp[e0t,e0q,h,Ch]
theorem c6p(d:Dev)(hd:DevOk d)(l:List Ptr)(hl:l.length=8)(n:Nat)(hn:n<8)(S:List Node)(hS:S.length=8)(P:List Ptr)(hP:P.length=32)(t:Bool):Ev tab A5 A4 110 [.ptr 0 0 0 1,.int .i64 n] [some [[A0 Bh d.last,A0 Bi d.wait,.int .i64 d.lies,.int .i64 d.arm,.bool d.down,.own 1 5 0 8 8,.fz (l.map Ae),.own 2 6 0 32 32,.bool t]],some (S.map Ch),some (P.map A7)] =
 some (.tuple [],aw8 d l n S P t):=by
 refine Cd cr5 rfl ?_;have hn':(n:Int)<8:=om;have hld:=Wz d hd (l.getD n default) 2;unfold aw8 S3;have hnt:((n:Int)*4).toNat=4*n:=om;have hmin:min 4 (32-4*n)=4:=om;have hmap:∀ q:List Ptr,(q.map Ae).map (λe=>e.map emb)=q.map A7:=λq=>by rw[e2t];rfl
 generalize hgp:l.getD n default=p at *;cases hL:Iv d p 2 with
 |none=>
   rw[hL]at hld;have htk:=λH=>b5v [] (by simp) H;rw[show Q1 []=none from by decide]at htk;by_cases h0:n=0
   ·subst h0
    simp(disch:=try exact dz)only[K9,t0,seval,if_pos,if_neg,Af,E7,Ar,hS,hP,hl,hn',hld,Di,htk,Km,M4,N4,Ha,Ht,e2w,Ax,Ae,hgp,Kk,Fj,Aw,e1i,e0h,e13,e0i,e1j,e17,e2b,hnt,J3,J4,hmin,hmap,Ig,Hr,Hw,Mi,Cj,Ci,Ck,e1q,e1f];rfl
   ·simp(disch:=try exact dz)only[K9,t0,seval,if_pos,if_neg,Af,E7,Ar,hS,hP,hl,hn',hld,Di,htk,Km,M4,N4,Ha,Ht,e2w,Ax,Ae,hgp,Kk,Fj,Aw,e1i,e0h,e13,e0i,e1j,e17,e2b,hnt,J3,J4,hmin,hmap,Ig,Hr,Hw,Mi,Cj,Ci,Ck,e1q,e1f,h0];rfl
 |some s=>
   rw[hL]at hld;have htk:=λH=>b5v s (by have:=a1g hL;omega) H;cases hT:Q1 s with
   |none=>
     rw[hT]at htk;by_cases h0:n=0
     ·subst h0
      simp(disch:=try exact dz)only[K9,t0,seval,if_pos,if_neg,Af,E7,Ar,hS,hP,hl,hn',hld,Di,htk,Km,M4,N4,Ha,Ht,e2w,Ax,Ae,hgp,Kk,Fj,Aw,e1i,e0h,e13,e0i,e1j,e17,e2b,hnt,J3,J4,hmin,hmap,Ig,Hr,Hw,Mi,Cj,Ci,Ck,e1q,e1f,hT];rfl
     ·simp(disch:=try exact dz)only[K9,t0,seval,if_pos,if_neg,Af,E7,Ar,hS,hP,hl,hn',hld,Di,htk,Km,M4,N4,Ha,Ht,e2w,Ax,Ae,hgp,Kk,Fj,Aw,e1i,e0h,e13,e0i,e1j,e17,e2b,hnt,J3,J4,hmin,hmap,Ig,Hr,Hw,Mi,Cj,Ci,Ck,e1q,e1f,h0,hT];rfl
   |some q=>
     obtain⟨x,z,l'⟩:=q;rw[hT]at htk;have hc:=ar2 hT;obtain⟨⟨hk,hu0,hu8,hnl⟩,hz0,hz1,hl4,hall⟩:=hc;have hbd:=λx1 x2 x3 x4 H=>db6 d hd x1 x2 x3 x4 z hz0 hz1 l' hl4 H;have h6:((l'.map A7).all λe=>decide (e.length=6))=true:=(by simp[A7]);have Sh:(4*n+(32-4*n)<=32)=True:=eq_true om;have hspl:List.take (4*n) (P.map A7)++List.take 4 (l'.map A7)++List.drop (4*n+4) (P.map A7)=(spl P n l').map A7:=by
      rw[show List.take 4 (l'.map A7)=l'.map A7 from dz1 (by rw[e1q];omega),<-List.map_take,<-List.map_drop,<-e1w,<-e1w];rfl
     by_cases h0:n=0
     ·subst h0;have ha:=de7 (some l') (by rw[Bn];omega);rw[C1,Bn]at ha;simp only[Nat.mul_zero,e2s,e26,e1s]at hspl Sh;by_cases hx:x=Tn
      ·subst hx;by_cases hz:z=0
       ·subst hz;cases hA:(l'.all λp=>decide (p=Bb))with
        |false=>
          rw[hA]at ha
          simp(disch:=try exact dz)only[K9,t0,seval,if_pos,if_neg,Af,E7,Ar,hS,hP,hl,hn',hld,Di,htk,Km,M4,N4,Ha,Ht,e2w,Ax,Ae,hgp,Kk,Fj,Aw,e1i,e0h,e13,e0i,e1j,e17,e2b,hnt,J3,J4,hmin,hmap,Ig,Hr,Hw,Mi,Cj,Ci,Ck,hl4,e1q,e1f,hT,hA,ha,Tn]
          first
          |rfl
          |simp only[S5,e2j,e2u]
        |true=>
          rw[hA]at ha;cases t
          ·simp(disch:=try exact dz)only[K9,t0,seval,if_pos,if_neg,Af,E7,Ar,hS,hP,hl,hn',hld,Di,htk,Km,M4,N4,Ha,Ht,e2w,Ax,Ae,hgp,Kk,Fj,Aw,e1i,e0h,e13,e0i,e1j,e17,e2b,hnt,J3,J4,hmin,hmap,Ig,Hr,Hw,Mi,Cj,Ci,Ck,hl4,e1q,e1f,hT,h6,Sh,hspl,hbd,hA,ha,Tn]
           first
           |rfl
           |simp only[S5,e2j,e2u]
          ·simp(disch:=try exact dz)only[K9,t0,seval,if_pos,if_neg,Af,E7,Ar,hS,hP,hl,hn',hld,Di,htk,Km,M4,N4,Ha,Ht,e2w,Ax,Ae,hgp,Kk,Fj,Aw,e1i,e0h,e13,e0i,e1j,e17,e2b,hnt,J3,J4,hmin,hmap,Ig,Hr,Hw,Mi,Cj,Ci,Ck,hl4,e1q,e1f,hT,h6,Sh,hspl,hbd,hA,ha,Tn]
           first
           |rfl
           |simp only[S5,e2j,e2u]
       ·simp(disch:=try exact dz)only[K9,t0,seval,if_pos,if_neg,Af,E7,Ar,hS,hP,hl,hn',hld,Di,htk,Km,M4,N4,Ha,Ht,e2w,Ax,Ae,hgp,Kk,Fj,Aw,e1i,e0h,e13,e0i,e1j,e17,e2b,hnt,J3,J4,hmin,hmap,Ig,Hr,Hw,Mi,Cj,Ci,Ck,hl4,e1q,e1f,hT,hz,Tn]
        first
        |rfl
        |simp only[S5,e2j,e2u]
      ·have hq:(decide (x.kind=2)&&(decide (x.up=0)&&decide (x.name=[])))=false:=by
        cases x with|mk a b c=>simp only[Tn,NodeH.mk.injEq,not_and]at hx;simp only[Bool.and_eq_false_imp,e0r,dy7];exact hx
       simp(disch:=try exact dz)only[K9,t0,seval,if_pos,if_neg,Af,E7,Ar,hS,hP,hl,hn',hld,Di,htk,Km,M4,N4,Ha,Ht,e2w,Ax,Ae,hgp,Kk,Fj,Aw,e1i,e0h,e13,e0i,e1j,e17,e2b,hnt,J3,J4,hmin,hmap,Ig,Hr,Hw,Mi,Cj,Ci,Ck,hl4,e1q,e1f,hT,hq,hx]
       first
       |rfl
       |simp only[S5,e2j,e2u]
     ·have hnm:=b7f x.name om;cases hm:mayName x.name with
      |false=>
        rw[hm]at hnm
        simp(disch:=try exact dz)only[K9,t0,seval,if_pos,if_neg,Af,E7,Ar,hS,hP,hl,hn',hld,Di,htk,Km,M4,N4,Ha,Ht,e2w,Ax,Ae,hgp,Kk,Fj,Aw,e1i,e0h,e13,e0i,e1j,e17,e2b,hnt,J3,J4,hmin,hmap,Ig,Hr,Hw,Mi,Cj,Ci,Ck,hl4,e1q,e1f,h0,hT,hnm,hm,h6,Sh,hspl,hbd];rfl
      |true=>
        rw[hm]at hnm;cases t
        ·simp(disch:=try exact dz)only[K9,t0,seval,if_pos,if_neg,Af,E7,Ar,hS,hP,hl,hn',hld,Di,htk,Km,M4,N4,Ha,Ht,e2w,Ax,Ae,hgp,Kk,Fj,Aw,e1i,e0h,e13,e0i,e1j,e17,e2b,hnt,J3,J4,hmin,hmap,Ig,Hr,Hw,Mi,Cj,Ci,Ck,hl4,e1q,e1f,h0,hT,hnm,hm,h6,Sh,hspl,hbd]
         first
         |rfl
         |simp only[S5,e2j,e2u]
        ·simp(disch:=try exact dz)only[K9,t0,seval,if_pos,if_neg,Af,E7,Ar,hS,hP,hl,hn',hld,Di,htk,Km,M4,N4,Ha,Ht,e2w,Ax,Ae,hgp,Kk,Fj,Aw,e1i,e0h,e13,e0i,e1j,e17,e2b,hnt,J3,J4,hmin,hmap,Ig,Hr,Hw,Mi,Cj,Ci,Ck,hl4,e1q,e1f,h0,hT,hnm,hm,h6,Sh,hspl,hbd]
         first
         |rfl
         |simp only[S5,e2j,e2u]
theorem d68(l:Sl Node)(n:Int)(hl:(els l).length<=1000000)(H:AH):K tab A5 A4 278 [.agg [A0 Ao l],.int .i64 n] H=some (.bool (Qs (els l) n),H):=by
 refine Ah ci3 rfl (by simp[Ac,A8,Ap]) rfl ?_ H;unfold Qs Dd;by_cases h0:0<=n
 ·by_cases h1:n<(els l).length
  ·have h2:n.toNat<(els l).length:=om
   simp(disch:=try exact dz)only[Xk,t0,seval,if_pos,if_neg,h0,h1,Aa,Ao]
  ·simp(disch:=try exact dz)only[Xk,t0,seval,if_pos,if_neg,h0,h1]
 ·simp(disch:=try exact dz)only[Xk,t0,seval,if_pos,if_neg,h0]
theorem df1(l:Sl Node)(x:Node)(hl:(els l).length<=1000000)(hx:x.name.length<=1000000)(H:AH):K tab A5 A4 236 [.agg [A0 Ao l],.agg [.int .i64 x.kind,.int .i64 x.up,.str x.name,.str x.body,.int .i64 x.bad]] H=some (.bool (Ih (els l) x),H):=by
 refine Ah ck4 rfl (by simp[Ac,A8,Ap]) rfl ?_ H;have hn:=b7f x.name hx;have hf:=d68 l x.up hl;unfold Ih;by_cases h0:x.bad=0
 ·cases h1:mayName x.name with
  |false=>
    rw[h1]at hn
    simp(disch:=try exact dz)only[Qn,t0,seval,if_pos,if_neg,h0,hn]
  |true=>
    rw[h1]at hn;cases h2:Qs (els l) x.up with
    |false=>
      rw[h2]at hf
      simp(disch:=try exact dz)only[Qn,t0,seval,if_pos,if_neg,h0,hn,hf]
    |true=>
      rw[h2]at hf;by_cases h3:x.kind=1
      ·simp(disch:=try exact dz)only[Qn,t0,seval,if_pos,if_neg,h0,hn,hf,h3];rw[show decide ((x.body.length:Int)<=128)=decide (x.body.length<=128)from e1e.2 om]
      ·by_cases h4:x.kind=2
       ·simp(disch:=try exact dz)only[Qn,t0,seval,if_pos,if_neg,h0,hn,hf,h3,h4]
       ·simp(disch:=try exact dz)only[Qn,t0,seval,if_pos,if_neg,h0,hn,hf,h3,h4]
 ·simp(disch:=try exact dz)only[Qn,t0,seval,if_pos,if_neg,h0]
theorem c8s{s:List Node}{a:Int}(h:0<=a/\a<s.length):Dd s a∈s:=by
 unfold Dd;rw[dx5,dy1 om];exact e1c _
theorem cb4(l:Sl Node)(n:Int)(hl:(els l).length<=1000000)(hn:0<=n/\n<(els l).length)(hu:∀ x∈els l,0<=x.up/\x.up<(els l).length)(H:AH):K tab A5 A4 237 [.agg [A0 Ao l],.int .i64 n] H=some (.bool (Ky (els l) (els l).length n),H):=by
 refine Ah ck3 rfl (by simp[Ac,A8,Ap]) rfl ?_ H
 simp(disch:=try exact dz)only[a9x,t0,seval,if_pos,if_neg];generalize hr:Ad _ _ _=r;have hsuc:∀ t,upIt (els l) (t+1) n=(Dd (els l) (upIt (els l) t n)).up:=λt=>by rw[a5z];rfl
 have hup:∀ t,0<=upIt (els l) t n/\upIt (els l) t n<(els l).length:=by
  intro t
  induction t with
  |zero=>exact hn
  |succ t ih=>rw[hsuc];exact hu _ (c8s ih)
 refine B7 hr (els l).length
  (λj=>[.top,.int .i64 (upIt (els l) j n),.ptr 0 0 0 1,.top,.int .i64 (els l).length,.int .i64 j,.top])
  (λj=>[some [[A0 Ao l]]]) (λj=>Ky (els l) (els l).length n=Ky (els l) ((els l).length-j) (upIt (els l) j n)) ?_ ?_ ?_ ?_ ?_
 ·simp[upIt]
 ·simp
 ·simp[upIt]
 ·intro j hj hI;have hj':((j:Int)<((els l).length:Int)):=om;obtain⟨h1,h2⟩:=hup j;rw[show(els l).length-j=(els l).length-(j+1)+1 by omega,Ky]at hI;rw[hsuc];unfold Dd at hI ⊢;generalize upIt (els l) j n=a at *;by_cases h0:a=0
  ·rw[if_pos h0]at hI
   simp(disch:=try exact dz)only[t0,seval,hj',e2b,Aa,Ao,h0];rw[hI]
  ·rw[if_neg h0]at hI
   simp(disch:=try exact dz)only[t0,seval,hj',e2b,Aa,Ao,h0];exact⟨rfl,hI⟩
 ·intro hI;rw[Nat.sub_self,Ky]at hI
  simp(disch:=try exact dz)only[t0,seval,e2k,hI]
def tw1(s:List Node)(n:Int)(i:Nat):Bool:=decide (0<i)&&!decide ((i:Int)=n)&&!decide ((s.getD i default).kind=0)&&decide ((s.getD i default).up=(Dd s n).up)&&decide ((s.getD i default).name=(Dd s n).name)
theorem bt3(s:List Node)(n:Int):Nk s n=(List.range s.length).any (tw1 s n):=rfl
theorem bt2(l:Sl Node)(n:Int)(hl:(els l).length<=1000000)(hn:0<=n/\n<(els l).length)(H:AH):K tab A5 A4 238 [.agg [A0 Ao l],.int .i64 n] H=some (.bool (Nk (els l) n),H):=by
 refine Ah ck2 rfl (by simp[Ac,A8,Ap]) rfl ?_ H
 simp(disch:=try exact dz)only[a9w,t0,seval,if_pos,if_neg];generalize hr:Ad _ _ _=r;refine B7 hr (els l).length
  (λj=>[.top,.int .i64 n,.ptr 0 0 0 1,.top,.top,.top,A0 Ao l,.int .i64 (els l).length,.int .i64 j,.top,.top,.top])
  (λj=>[some [[A0 Ao l]]]) (λj=>Nk (els l) n=((List.range (els l).length).drop j).any (tw1 (els l) n)) ?_ ?_ ?_ ?_ ?_
 ·simp
 ·simp
 ·simp[bt3]
 ·intro j hj hI;have hj':((j:Int)<((els l).length:Int)):=om;have hr':(List.range (els l).length).drop j=j::(List.range (els l).length).drop (j+1):=by
   rw[dy0 (by rw[List.length_range];omega),List.getElem_range]
  rw[hr',List.any_cons]at hI
  simp(disch:=try exact dz)only[t0,seval,hj',e2b,Aa,Ao];have hg:∀ b:Bool,(tw1 (els l) n j=b)=((decide
          ((decide
           ((decide ((decide (0<(j:Int))&&!decide ((j:Int)=n))=true) &&
            !decide (((els l).getD j default).kind=0)) =
             true) &&
           decide (((els l).getD j default).up=((els l).getD n.toNat default).up)) =
            true) &&
   decide (((els l).getD j default).name=((els l).getD n.toNat default).name))=b):=by
   intro b;simp only[Bool.decide_eq_true,tw1,Dd,show decide (0<(j:Int))=decide (0<j)from e1e.2 om]
   congr
  constructor
  ·intro h;rw[hI,(hg true).mpr h];rfl
  ·intro h;refine⟨rfl,?_⟩;rw[e1k]at h;rw[hI,(hg false).mpr h];rfl
 ·intro hI;rw[dz2 (by simp)]at hI
  simp(disch:=try exact dz)only[t0,seval,e2k];rw[hI];rfl
theorem b9w(n:Int)(h0:0<=n)(h1:n<=9)(H:AH):K tab A5 A4 277 [.int .i64 n] H=some (.str (E9 n.toNat),H):=by
 refine a5o c8i rfl rfl ?_ H;rw[c6f];simp only[a1r];rw[if_pos ⟨h0,h1⟩]
theorem Zi{f:FuncId}(hl:A4 f=false){args:List AV}(ha:Ac args=true){x:AV}{H':AH}(h:Ev tab A5 A4 f args []=some (x,H'))(H:AH) :
 K tab A5 A4 f args H=some (ren (Gt [] H.length) x,H++H'.map λo=>o.map (Av (Gt [] H.length))):=by
 rw[Zj tab A5 A4 hl,Lt args ha,av0,An _ _ _ _ _ ⟨List.nodup_nil,by simp⟩,Kt _ _ ha,e2o,h,b03,if_pos (by simp)];simp only[b27,at4,e1n,e23]
theorem d92(s:List Node)(hs:s≠[])(hl:s.length<=1000000)(H:AH):K tab A5 A4 234 [.fz (s.map Ao)] H=some (.own H.length 5 0 s.length s.length,H++[some (s.map Ch)]):=by
 have e:Ev tab A5 A4 234 [.fz (s.map Ao)] []=some (.own 0 5 0 s.length s.length,[some (s.map Ch)]):=by
  refine Pt c8l ?_;rw[c6i];simp only[Pj];rw[if_pos ⟨by simp[Ao],by simpa using hl,by cases s with|nil=>exact absurd rfl hs|cons x l=>rfl⟩,e1q,e2t];rfl
 rw[Zi rfl rfl e H];simp only[U6,Vv,e1n,e1z,if_false,Nat.sub_zero,e2p,Uc,e2c,e2o,e1p,Fj]
theorem c1q(x:Node)(n:Int)(h0:0<=n)(h1:n<=9):Ev tab A5 A4 276 [.agg [.int .i64 x.kind,.int .i64 x.up,.str x.name,.str x.body,.int .i64 x.bad],.ptr 0 0 0 1] [some [[.int .i64 n]]]=some (.bool (decide (x.name=E9 n.toNat)),[some [[.int .i64 n]]]):=by
 refine Cd ci4 rfl ?_
 simp(disch:=try exact dq)only[a9h,t0,seval,if_pos,if_neg,Af,b9w,Ai,Aj,e1j]
def Ee{α:Type}(g:α->Bool):List α->Int
 |[]=>-1
 |p::l=>if g p=true then 0 else if Ee g l<0 then -1 else Ee g l+1
theorem Se{α:Type}(g:α->Bool):∀ l:List α,-1<=Ee g l/\Ee g l<l.length
 |[]=>by simp[Ee]
 |p::l=>by
   have:=Se g l;rw[Ee,e15];split
   ·omega
   ·split<;>omega
theorem b06{α:Type}(g:α->Bool):∀ l:List α,decide (0<=Ee g l)=l.any g
 |[]=>rfl
 |p::l=>by
   have ih:=b06 g l;rw[Ee,List.any_cons];cases hp:g p with
   |true=>simp
   |false=>
     rw[if_neg (by simp),e2j,<-ih];split
     ·rw[e1y om,e1y om]
     ·exact e1e.2 om
theorem c1r(x:Node)(n:Int)(h0:0<=n)(h1:n<=9):K tab A5 A4 276 [.agg [.int .i64 x.kind,.int .i64 x.up,.str x.name,.str x.body,.int .i64 x.bad],.ptr 0 0 0 1] [some [[.int .i64 n]]]=some (.bool (decide (x.name=E9 n.toNat)),[some [[.int .i64 n]]]):=by
 have h:=c1q x n h0 h1
 simp(disch:=try exact dq)only[KQ 276 rfl,t0,seval,if_pos,if_neg,Af,Ai,Aj,e1j,An,h]
theorem cz8(l:Sl Node)(hl:(els l).length<=1000000)(n:Int)(h0:0<=n)(h1:n<=9):Ev tab A5 A4 295 [A0 Ao l,.fn (.func 276) [] [.ptr 0 0 0 1]] [some [[.int .i64 n]]]=some (.int .i64 (Ee (λx=>decide (x.name=E9 n.toNat)) (els l)),[some [[.int .i64 n]]]):=by
 refine Cd ch6 rfl ?_
 simp(disch:=try exact dq)only[a9a,t0,seval,if_pos,if_neg,Af,Ai,Aj,e1j];generalize hr:Ad _ _ _=r;refine B7 hr (els l).length (λj=>[A0 Ao l,.fn (.func 276) [] [.ptr 0 0 0 1],.top,.top,.int .i64 (els l).length,.int .i64 j,.top])
  (λj=>[some [[.int .i64 n]]]) (λj=>Ee (λx=>decide (x.name=E9 n.toNat)) (els l)=if Ee (λx=>decide (x.name=E9 n.toNat)) ((els l).drop j)<0 then -1 else j+Ee (λx=>decide (x.name=E9 n.toNat)) ((els l).drop j)) ?_ ?_ ?_ ?_ ?_
 ·simp
 ·simp
 ·have:=Se (λx:Node=>decide (x.name=E9 n.toNat)) (els l);rw[e23];split<;>omega
 ·intro j hj hI;have hj':((j:Int)<((els l).length:Int)):=om;rw[Ew hj,Ee]at hI;have hn:=c1r ((els l).getD j default) n h0 h1;have hge:=Se (λx:Node=>decide (x.name=E9 n.toNat)) ((els l).drop (j+1));cases hp:decide (((els l).getD j default).name=E9 n.toNat)with
  |true=>
    rw[hp]at hn;simp only[hp,if_true]at hI
    simp(disch:=try exact dq)only[t0,seval,Af,Ai,Aj,e1j,hj',e2b,Aa,Ao,hn];rw[if_neg om,Int.add_zero]at hI;rw[hI]
  |false=>
    rw[hp]at hn;simp only[hp,e0f,if_false]at hI
    simp(disch:=try exact dq)only[t0,seval,Af,Ai,Aj,e1j,hj',e2b,Aa,Ao,hn];refine⟨rfl,?_⟩;rw[hI];generalize Ee _ (List.drop (j+1) (els l))=a at *;by_cases ha:a<0
    ·simp[ha]
    ·rw[if_neg ha,if_neg ha,if_neg om];omega
 ·intro hI;rw[e1h,Ee,if_pos om]at hI
  simp(disch:=try exact dq)only[t0,seval,Af,Ai,Aj,e1j,e2k,hI]
theorem bk6(l:Sl Node)(hl:(els l).length<=1000000)(n:Int)(h0:0<=n)(h1:n<=9):Ev tab A5 A4 275 [A0 Ao l,.fn (.func 276) [] [.ptr 0 0 0 1]] [some [[.int .i64 n]]]=some (.bool ((els l).any λx=>decide (x.name=E9 n.toNat)),[some [[.int .i64 n]]]):=by
 have h:=cz8 l hl n h0 h1;refine Cd ci5 rfl ?_;rw[<-b06]
 simp(disch:=try exact dq)only[a9i,KQ 295 rfl,t0,seval,if_pos,if_neg,Af,Ai,Aj,e1j,An,h]
theorem c1p(l:Sl Node)(hl:(els l).length<=8)(H:AH):K tab A5 A4 235 [.agg [A0 Ao l]] H=some (.str (E9 (Gu (els l))),H):=by
 refine Ah ck5 rfl (by simp[Ac,A8,Ap]) rfl ?_ H
 simp(disch:=try exact dq)only[a9y,t0,seval,if_pos,if_neg,Af,Ai,Aj,e1j];generalize hr:Ad _ _ _=r;obtain⟨h8,hno⟩:=a6g (els l) hl;have hyes:=(as1 ((els l).map (·.name)) 9 0).1;refine B7 hr (Gu (els l)) (λj=>[.top,.ptr 0 0 0 1,.top,.ptr 1 0 0 1])
  (λj=>[some [[A0 Ao l]],some [[.int .i64 j]]]) (λj=>True) ?_ ?_ trivial ?_ ?_
 ·simp
 ·simp
 ·intro j hj _;have hA:((els l).any λx=>decide (x.name=E9 j))=true:=by
   obtain⟨x,hx,e⟩:=e2r.1 (hyes j (e2x _) hj);exact List.any_eq_true.2 ⟨x,hx,by simpa using e⟩
  have h:=bk6 l om j om om;rw[show(j:Int).toNat=j by omega,hA]at h
  simp(disch:=try exact dq)only[KQ 275 rfl,t0,seval,if_pos,if_neg,Af,Ai,Aj,e1j,An,h,e2b];rfl
 ·intro _;have hA:((els l).any λx=>decide (x.name=E9 (Gu (els l))))=false:=by
   rw[List.any_eq_false];intro x hx e;exact hno (e2r.2 ⟨x,hx,by simpa using e⟩)
  have h:=bk6 l om (Gu (els l)) om om;rw[show(Gu (els l):Int).toNat=Gu (els l) by omega,hA]at h;have hi:=b9w (Gu (els l)) om om;rw[show(Gu (els l):Int).toNat=Gu (els l) by omega]at hi
  simp(disch:=try exact dq)only[KQ 275 rfl,t0,seval,if_pos,if_neg,Af,Ai,Aj,e1j,An,h,hi,e2b]
theorem ah5(x y:Node):(decide (x.kind=y.kind)&&(decide (x.up=y.up)&&(decide (x.name=y.name)&&(decide (x.body=y.body)&&decide (x.bad=y.bad)))))=decide (x=y):=by
 rw[<-e20,<-e20,<-e20,<-e20];refine e1e.2 ?_;cases x;cases y;simp
theorem b17(x:Node):(decide (x.kind=2)&&(decide (x.up=0)&&(decide (x.name=[])&&(decide (x.body=[])&&decide (x.bad=0)))))=decide (x=foldN):=ah5 x foldN
theorem ah4(x:Node):(decide (x.kind=0)&&(decide (x.up=0)&&(decide (x.name=[])&&(decide (x.body=[])&&decide (x.bad=0)))))=decide (x=node0):=ah5 x node0
theorem be4(x:Node):(decide (x.kind=3)&&(decide (x.up=0)&&(decide (x.name=[])&&(decide (x.body=[])&&decide (x.bad=0)))))=decide (x=lostN):=ah5 x lostN
def ay0(s:List Node)(n:Nat):Bool:=decide (n=0)||decide ((s.getD n default).kind=0)||(Ky s s.length n&&!Nk s n)
theorem c9e{s:List Node}(hs:s.length=8):mayNodes s=(decide (s.getD 0 default=foldN)&&((s.drop 1).all λx=>decide (x=node0)||Ih s x)&&(List.range 8).all (ay0 s)):=by
 unfold mayNodes;rw[e2a hs,e2e,<-hs];rfl
theorem df2{s:List Node}{x:Node}(h:Ih s x=true):0<=x.up/\x.up<s.length:=by
 unfold Ih Qs at h;simp only[e14,e0r]at h;exact⟨h.1.2.1.1,h.1.2.1.2⟩
theorem b5b(s:List Node)(hs:s.length=8)(hx:∀ x∈s,x.name.length<=1000000)(H:AH):K tab A5 A4 174 [.agg [.fz (s.map Ao)]] H=some (.bool (mayNodes s),H):=by
 refine Ah b8u rfl rfl rfl ?_ H;have hm:=c9e hs;generalize mayNodes s=bb at *;have hsl:List.drop 1 (List.take 8 (s.map Ao))=(s.drop 1).map Ao:=by
  rw[dz1 (by rw[e1q];omega),List.map_drop]
 have h5:(((s.drop 1).map Ao).all λe=>decide (e.length=5))=true:=by
  rw[e16];intro e he;obtain⟨x,_,rfl⟩:=e2r.1 he;rfl
 have hd:(s.drop 1).length=7:=by simp[hs]
 cases h0:decide (s.getD 0 default=foldN)with
 |true=>
   rw[h0,e2e]at hm;have hmem:∀ j,j<s.length->s.getD j default∈s:=λj hj=>by
    rw[dx5,dy1 hj];exact e1c _
   have hdg:∀ j,(s.drop 1).getD j default=s.getD (j+1) default:=λj=>by
    rw[dx5,e0g,dx5,Nat.add_comm]
   have hsub:∀ x∈s.drop 1,x∈s:=λx hx=>List.mem_of_mem_drop hx;generalize s.drop 1=t at *
   simp(disch:=try exact dq)only[Xo,t0,seval,if_pos,if_neg,Af,Ai,Aj,e1j,hs,hd,hsl,h5,Ax,Ao,b17,h0,Ig,F2,Cj,Ci,Ck,e1q];generalize hr:Ad _ _ _=r;refine B7 hr 7
    (λj=>[.top,.ptr 0 0 0 1,.top,.top,.top,.top,.fz ((t).map Ao),.int .i64 7,.int .i64 j,.top,.top,.top,.top,.top,.top,.top,.top])
    (λj=>[some [[.fz (s.map Ao)]]]) (λj=>((t).all λx=>decide (x=node0)||Ih s x)=(((t).drop j).all λx=>decide (x=node0)||Ih s x)) ?_ ?_ ?_ ?_ ?_
   ·rfl
   ·rfl
   ·rw[e23]
   ·intro j hj hI;have hj':((j:Int)<7):=om;rw[Ew om,e2h,hdg]at hI;have hal:=df1 (some s) (s.getD (j+1) default) (by rw[Bn];omega) (hx _ (hmem _ om));rw[Bn,C1]at hal;have hg:=hdg j;cases hz:decide (s.getD (j+1) default=node0)with
    |true=>
      rw[hz,e2u,e2e]at hI
      simp(disch:=try exact dq)only[t0,seval,Af,Ai,Aj,e1j,hj',hd,e2b,Ax,Ao,hg,ah4,hz,e1q];exact⟨rfl,hI⟩
    |false=>
      cases ha:Ih s (s.getD (j+1) default)with
      |true=>
        rw[ha,Bool.or_true,e2e]at hI;rw[ha]at hal
        simp(disch:=try exact dq)only[t0,seval,Af,Ai,Aj,e1j,hj',hd,e2b,Ax,Ao,hg,ah4,hz,hal,e1q];exact⟨rfl,hI⟩
      |false=>
        rw[hz,ha,Bool.or_false,e29]at hI;rw[hI,e29]at hm;rw[ha]at hal
        simp(disch:=try exact dq)only[t0,seval,Af,Ai,Aj,e1j,hj',hd,e2b,Ax,Ao,hg,ah4,hz,hal,hm,e1q]
   ·intro hI;rw[dz2 om,List.all_nil]at hI;rw[hI,e2e]at hm;have hup:∀ x∈s,0<=x.up/\x.up<s.length:=by
     intro x hxs;obtain⟨n,hn,rfl⟩:=e07.1 hxs;have e:s.getD n default=s[n]:=(by rw[dx5,dy1 hn];rfl);rw[<-e];rcases e0j n with rfl|hp
     ·rw[e11 h0];exact⟨by decide,by rw[hs];decide⟩
     ·have hj:=e16.1 hI (s.getD n default) (by
       have:=hdg (n-1);rw[show n-1+1=n by omega]at this;rw[<-this,dx5,dy1 om];exact e1c _)
      simp only[e1v,e0r]at hj;rcases hj with hj|hj
      ·rw[hj];exact⟨by decide,by rw[hs];decide⟩
      ·exact df2 hj
    simp(disch:=try exact dq)only[t0,seval,Af,Ai,Aj,e1j,e2k,hs,e2b,Ax,Ao,e1q];generalize hr2:Ad _ _ _=r2;clear hr hI;obtain⟨R,hR⟩:∃ R,R=List.range 8:=⟨_,rfl⟩;rw[<-hR]at hm;refine B7 hr2 8
     (λj=>[.top,.ptr 0 0 0 1,.top,.top,.top,.top,.top,.top,.top,.top,.top,.fz (s.map Ao),.int .i64 8,.int .i64 j,.top,.top,.top])
     (λj=>[some [[.fz (s.map Ao)]]]) (λj=>bb=(R.drop j).all (ay0 s)) ?_ ?_ ?_ ?_ ?_
    ·rfl
    ·rfl
    ·rw[e23];exact hm
    ·intro j hj hI;have hj':((j:Int)<8):=om;have hr':R.drop j=j::R.drop (j+1):=by
      rw[hR,dy0 (by rw[List.length_range];omega),List.getElem_range]
     rw[hr',e2h]at hI;have hle:=cb4 (some s) j (by rw[Bn];omega) (by rw[Bn];omega) (by rw[Bn];exact hup);have htw:=bt2 (some s) j (by rw[Bn];omega) (by rw[Bn];omega);rw[Bn,C1]at hle htw;have hms:ay0 s j=(decide (j=0)||decide ((s.getD j default).kind=0)||(Ky s s.length j&&!Nk s j)):=rfl;rw[hms]at hI;clear hms;by_cases h1:j=0
     ·rw[e2a h1,e2u,e2u,e2e]at hI
      simp(disch:=try exact dq)only[t0,seval,Af,Ai,Aj,e1j,h1,hs,e2b,Ax,Ao,e1q];subst h1;exact hI
     ·by_cases h2:(s.getD j default).kind=0
      ·rw[e2a h2,Bool.or_true,e2u,e2e]at hI
       simp(disch:=try exact dq)only[t0,seval,Af,Ai,Aj,e1j,hj',h1,h2,hs,e2b,Ax,Ao,e1q];exact⟨rfl,hI⟩
      ·rw[e1y h2,e1y h1,Bool.or_false,e2j]at hI;cases h3:Ky s s.length j with
       |false=>
         rw[h3]at hle hI;rw[e29,e29]at hI
         simp(disch:=try exact dq)only[t0,seval,Af,Ai,Aj,e1j,hj',h1,h2,hle,hI,hs,e2b,Ax,Ao,e1q]
       |true=>
         rw[h3]at hle hI;cases h4:Nk s j with
         |false=>
           rw[h4]at htw hI;rw[e25,e2f,e2e]at hI
           simp(disch:=try exact dq)only[t0,seval,Af,Ai,Aj,e1j,hj',h1,h2,hle,htw,hs,e2b,Ax,Ao,e1q];exact⟨rfl,hI⟩
         |true=>
           rw[h4]at htw hI;rw[e2d,e27,e29]at hI
           simp(disch:=try exact dq)only[t0,seval,Af,Ai,Aj,e1j,hj',h1,h2,hle,htw,hI,hs,e2b,Ax,Ao,e1q]
    ·intro hI;rw[hR,dz2 (by simp),List.all_nil]at hI
     simp(disch:=try exact dq)only[t0,seval,Af,Ai,Aj,e1j,e2k,hI]
 |false=>
   rw[h0,e29,e29]at hm
   simp(disch:=try exact dq)only[Xo,t0,seval,if_pos,if_neg,Af,Ai,Aj,e1j,hs,Ax,Ao,b17,h0,hm,Ig,F2,Cj,Ci,Ck,e1q]
theorem c30(l:Sl Node)(hl:(els l).length<=1000000)(hx:∀ x∈els l,x.name.length<=1000000)(H:AH):K tab A5 A4 174 [.agg [A0 Ao l]] H=some (.bool (mayNodes (els l)),H):=by
 by_cases h8:(els l).length=8
 ·cases l with
  |none=>simp[els]at h8
  |some s=>exact b5b s h8 hx H
 ·refine Ah b8u rfl (by simp[Ac,A8,Ap]) rfl ?_ H;have e:mayNodes (els l)=false:=by
   unfold mayNodes;rw[e1y h8];simp
  have h8':(((els l).length:Int)=8)=False:=eq_false om
  simp(disch:=try exact dq)only[Xo,t0,seval,if_pos,if_neg,Af,Ai,Aj,e1j,h8',e]
theorem c8r(l:Sl Node)(hl:(els l).length<=1000000)(hx:∀ x∈els l,x.name.length<=1000000)(H:AH):K tab A5 A4 112 [A0 Ao l] H=some (.bool (mayNodes (els l)),H):=by
 refine Ah cr3 rfl (by simp[Ac,A8,Ap]) rfl ?_ H;have h:=c30 l hl hx
 simp(disch:=try exact dq)only[af0,t0,seval,if_pos,if_neg,Af,Ai,Aj,e1j,h]
theorem b7j(s:List Node)(hx:∀ x∈s,x.name.length<=1000000):∀ n,∀ x∈D1 s n,x.name.length<=1000000
 |0=>hx
 |n+1=>by
   have ih:=b7j s hx n;rw[D1];unfold O2;intro x h;split at h
   ·rename_i hk;rcases List.mem_or_eq_of_mem_set h with h|rfl
    ·exact ih x h
    ·by_cases hn:n<(D1 s n).length
     ·have hm:(D1 s n).getD n default∈D1 s n:=by rw[dx5,dy1 hn];exact e1c _
      have:=ih _ hm;exact this
     ·rw[List.set_eq_of_length_le om]at h;exact ih _ h
   ·split at h
    ·rcases List.mem_or_eq_of_mem_set h with h|rfl
     ·exact ih x h
     ·simp[E9]
    ·exact ih x h
theorem d9a(E:CallF)(a:List Opd)(c:Nat)(V:Opd->AV)(H:AH)(args:List AV):Kc A4 E 235 a c V H args false=Sv (Kp A4 E 235 a c V H) (Fs H args) c H (E 235 (Bc H args) []):=a3m rfl _ _ _ _ _ _
theorem d88(H:AH)(m:List Node):List.flatMap (λe=>List.flatMap (Kb H 3) e) (m.map Ch)=[]:=by
 rw[List.flatMap_eq_nil_iff];intro e he;obtain⟨x,_,rfl⟩:=e2r.1 he;simp only[Ch,List.flatMap_cons,List.flatMap_nil,bf1,bf0,e1t]
theorem c92(s:List Node)(hs:s.length=8)(H:AH):K tab A5 A4 173 [.agg [.fz (s.map Ao)]] H=some (.agg [.fz ((Cx s).map Ao)],H):=by
 refine Ah cn2 rfl rfl rfl ?_ H;have hc:=d92 s (by intro h;rw[h]at hs;simp at hs) om
 simp(disch:=try exact dq)only[ab8,t0,seval,if_pos,if_neg,Af,Ai,Aj,e1j,hc,hs];generalize hr:Ad _ _ _=r;refine B7 hr 8
  (λj=>[.top,.top,.ptr 1 0 0 1,.ptr 3 0 0 1,.top,.top,.top,.own 2 5 0 8 8,.int .i64 8,.int .i64 j,.top,.top,.top,.top,.top])
  (λj=>[some [[.fz (s.map Ao)]],some [[.emp]],some ((D1 s j).map Ch),some [[.own 2 5 0 8 8]]]) (λj=>True) ?_ ?_ trivial ?_ ?_
 ·rfl
 ·rfl
 ·intro j hj _;have hj':((j:Int)<8):=om;have hml:(D1 s j).length=8:=by rw[O1];exact hs
  have hsp:=c1p (some (D1 s j)) (by rw[Bn];omega);rw[Bn,C1]at hsp;rw[D1];unfold O2;have hg:=M4 (S:=D1 s j) (n:=j) om;have hlo:=be4 ((D1 s j).getD j default);have htk:List.take 8 ((D1 s j).map Ch)=(D1 s j).map Ch:=dz1 (by rw[e1q];omega);have htp:List.take 8 ((D1 s j).map Ao)=(D1 s j).map Ao:=dz1 (by rw[e1q];omega);generalize D1 s j=m at *;generalize hx:m.getD j default=x at *;have hk:(j:Int).toNat=j:=om;by_cases k1:x.kind=1
  ·by_cases k2:0<x.bad
   ·by_cases k3:x.bad<=15
    ·rw[if_pos ⟨k1,k2,k3⟩]
     simp(disch:=try exact dq)only[t0,seval,Af,Ai,Aj,e1j,hj',hml,hg,hk,k1,k2,k3,e2b,Ha,Ht,E7];rfl
    ·rw[if_neg (λh=>k3 h.2.2),if_neg (λh=>by rw[h.1]at k1;revert k1;decide)]
     simp(disch:=try exact dq)only[t0,seval,Af,Ai,Aj,e1j,hj',hml,hg,hk,k1,k2,k3,e2b,Ha,Ht,E7];rfl
   ·rw[if_neg (λh=>k2 h.2.1),if_neg (λh=>by rw[h.1]at k1;revert k1;decide)]
    simp(disch:=try exact dq)only[t0,seval,Af,Ai,Aj,e1j,hj',hml,hg,hk,k1,k2,e2b,Ha,Ht,E7];rfl
  ·rw[if_neg (λh=>k1 h.1)];cases hl:decide (x=lostN)with
   |true=>
     rw[hl]at hlo;have hl':=e11 hl;by_cases k4:0<j
     ·rw[if_pos ⟨hl',k4⟩];have k4':(0:Int)<(j:Int):=om
      simp(disch:=try exact dq)only[t0,seval,Af,Ai,Aj,e1j,hj',hml,hg,hk,k1,hlo,k4',d9a,ap5,d88,htk,htp,hsp,e2b,Ha,Ht,E7];rfl
     ·rw[if_neg (λh=>k4 h.2)];have k4':¬ (0:Int)<(j:Int):=om
      simp(disch:=try exact dq)only[t0,seval,Af,Ai,Aj,e1j,hj',hml,hg,hk,k1,hlo,k4',e2b,Ha,Ht,E7];rfl
   |false=>
     rw[hl]at hlo;have hl':=of_decide_eq_false hl;rw[if_neg (λh=>hl' h.1)]
     simp(disch:=try exact dq)only[t0,seval,Af,Ai,Aj,e1j,hj',hml,hg,hk,k1,hlo,e2b,Ha,Ht,E7];rfl
 ·intro _;have hml:(D1 s 8).length=8:=by rw[O1];exact hs
  have htp:List.take 8 ((D1 s 8).map Ao)=(D1 s 8).map Ao:=dz1 (by rw[e1q];omega)
  simp(disch:=try exact dq)only[t0,seval,Af,Ai,Aj,e1j,e2k,hs,Pw,Qr,hml,htp,e17];rw[Cx,hs]
theorem bz4(s:List Node)(hs:s.length=8)(hx:∀ x∈s,x.name.length<=1000000)(H:AH):K tab A5 A4 111 [.fz (s.map Ao)] H=some (.bool (H7 s),H):=by
 refine Ah cr4 rfl rfl rfl ?_ H;have hm:=c92 s hs;have ht:=b5b (Cx s) (by rw[P3];exact hs) (b7j s hx _);rw[aq5]at ht
 simp(disch:=try exact dq)only[af1,t0,seval,if_pos,if_neg,Af,Ai,Aj,e1j,hm,ht]
theorem d9e{lk:FuncId->Bool}{E:CallF}{f:FuncId}{a:List Opd}{c:Nat}{V:Opd->AV}{H:AH}{x:AV}{H1:AH}(hb:Ac (a.map V)=true)(h:E f (a.map V) []=some (x,H1))(hc:c+H1.length<=H.length) :
 Kp lk E f a c V H=some ((List.range' c H1.length).map .con,(List.range' c H1.length).map .con++(List.range' c H1.length).map .len,c+H1.length,ren (Bg (List.range' c H1.length)) x,Cm H (List.range' c H1.length) (H1.map λo=>o.map (Av (Bg (List.range' c H1.length))))):=by
 unfold Kp D5 Kd;have e:Ji H (H.length*4+40) (Cb (a.map V)) []=[]:=by rw[Lt _ hb];rfl
 simp only[hb,Bool.true_eq_false,and_false,if_false,e,e2o,Kt _ _ hb,h];rw[if_pos (by simp)];simp only[e1n,e2x,if_true,Nat.sub_zero,e1s];rw[if_pos ⟨by simp,hc⟩]
theorem b1n(c:Nat)(V:Opd->AV)(H:AH)(hc:c+1<=H.length):clK c H (Kp A4 (K tab A5 A4) 107 [] c V H) (some (.own 0 5 0 8 8,[some (Iu.map Ch)]))=some ([.con c],[.con c,.len c],c+1,.own c 5 0 8 8,Cm H [c] [some (Iu.map Ch)]):=by
 show Kp A4 (K tab A5 A4) 107 [] c V H=_;have h:=Wu [];rw[d9e (x:=.own 0 5 0 8 8) (H1:=[some (Iu.map Ch)]) rfl h hc];simp only[e15,e1n,e2s,List.range'_one,e2c,e2o,e1b,e1s,U6,b41,dy3,Uc,e1p,Fj]
theorem Hk{α:Type}(r:Nat)(es:List (List PV))(p:α->List PV)(x:Sl α):frz r es (A0 p x)=A0 p x:=by rw[<-Va];exact bc8 r es _
theorem b3a(r sz o l t:Nat)(H:AH):K tab A5 A4 111 [.own r sz o l t] H=Gs tab A5 A4 111 [.own r sz o l t] H (Ac (Bc H [.own r sz o l t])) (K tab A5 A4 111 (Bc H [.own r sz o l t]) H):=J7 _ _ _ rfl _ _
theorem d7c(p:Ptr):(decide (p.addr=0)&&(decide (p.birth=0)&&(decide ((p.sum.a.toNat:Int)=0)&&(decide ((p.sum.b.toNat:Int)=0)&&(decide ((p.sum.c.toNat:Int)=0)&&decide ((p.sum.d.toNat:Int)=0))))))=decide (p=Bb):=Ph p
def ag5(d:Dev)(f:FilesR):AV:=.agg [A0 Bh d.last,A0 Bi d.wait,.int .i64 d.lies,.int .i64 d.arm,.bool d.down,.fz (f.set.map Ao),.fz (f.node.map Ae),.fz (f.part.map Ae),.bool f.torn]
theorem c4u(d:Dev)(hd:DevOk d)(p:Ptr)(H:AH):K tab A5 A4 67 [.agg [A0 Bh d.last,A0 Bi d.wait,.int .i64 d.lies,.int .i64 d.arm,.bool d.down],.agg [.int .i64 p.addr,.int .i64 p.birth,.int .u32 p.sum.a.toNat,.int .u32 p.sum.b.toNat,.int .u32 p.sum.c.toNat,.int .u32 p.sum.d.toNat]] H=some (ag5 d (Bj d p),H):=by
 refine Ah l67 rfl (by simp[Ac,A8,Ap]) (by simp[ag5,Ac,A8,Ap]) ?_ H;have hld:=Wz d hd p 3;unfold Bj;have hlo:=λt=>c9u d Iu (Ab 8) (Ab 32) t;have e8:(Ab 8).map A7=[[AV.int .i64 0,.int .i64 0,.int .u32 0,.int .u32 0,.int .u32 0,.int .u32 0],[AV.int .i64 0,.int .i64 0,.int .u32 0,.int .u32 0,.int .u32 0,.int .u32 0],[AV.int .i64 0,.int .i64 0,.int .u32 0,.int .u32 0,.int .u32 0,.int .u32 0],[AV.int .i64 0,.int .i64 0,.int .u32 0,.int .u32 0,.int .u32 0,.int .u32 0],[AV.int .i64 0,.int .i64 0,.int .u32 0,.int .u32 0,.int .u32 0,.int .u32 0],[AV.int .i64 0,.int .i64 0,.int .u32 0,.int .u32 0,.int .u32 0,.int .u32 0],[AV.int .i64 0,.int .i64 0,.int .u32 0,.int .u32 0,.int .u32 0,.int .u32 0],[AV.int .i64 0,.int .i64 0,.int .u32 0,.int .u32 0,.int .u32 0,.int .u32 0]]:=rfl;have e32:(Ab 32).map A7=[[AV.int .i64 0,.int .i64 0,.int .u32 0,.int .u32 0,.int .u32 0,.int .u32 0],[AV.int .i64 0,.int .i64 0,.int .u32 0,.int .u32 0,.int .u32 0,.int .u32 0],[AV.int .i64 0,.int .i64 0,.int .u32 0,.int .u32 0,.int .u32 0,.int .u32 0],[AV.int .i64 0,.int .i64 0,.int .u32 0,.int .u32 0,.int .u32 0,.int .u32 0],[AV.int .i64 0,.int .i64 0,.int .u32 0,.int .u32 0,.int .u32 0,.int .u32 0],[AV.int .i64 0,.int .i64 0,.int .u32 0,.int .u32 0,.int .u32 0,.int .u32 0],[AV.int .i64 0,.int .i64 0,.int .u32 0,.int .u32 0,.int .u32 0,.int .u32 0],[AV.int .i64 0,.int .i64 0,.int .u32 0,.int .u32 0,.int .u32 0,.int .u32 0],[AV.int .i64 0,.int .i64 0,.int .u32 0,.int .u32 0,.int .u32 0,.int .u32 0],[AV.int .i64 0,.int .i64 0,.int .u32 0,.int .u32 0,.int .u32 0,.int .u32 0],[AV.int .i64 0,.int .i64 0,.int .u32 0,.int .u32 0,.int .u32 0,.int .u32 0],[AV.int .i64 0,.int .i64 0,.int .u32 0,.int .u32 0,.int .u32 0,.int .u32 0],[AV.int .i64 0,.int .i64 0,.int .u32 0,.int .u32 0,.int .u32 0,.int .u32 0],[AV.int .i64 0,.int .i64 0,.int .u32 0,.int .u32 0,.int .u32 0,.int .u32 0],[AV.int .i64 0,.int .i64 0,.int .u32 0,.int .u32 0,.int .u32 0,.int .u32 0],[AV.int .i64 0,.int .i64 0,.int .u32 0,.int .u32 0,.int .u32 0,.int .u32 0],[AV.int .i64 0,.int .i64 0,.int .u32 0,.int .u32 0,.int .u32 0,.int .u32 0],[AV.int .i64 0,.int .i64 0,.int .u32 0,.int .u32 0,.int .u32 0,.int .u32 0],[AV.int .i64 0,.int .i64 0,.int .u32 0,.int .u32 0,.int .u32 0,.int .u32 0],[AV.int .i64 0,.int .i64 0,.int .u32 0,.int .u32 0,.int .u32 0,.int .u32 0],[AV.int .i64 0,.int .i64 0,.int .u32 0,.int .u32 0,.int .u32 0,.int .u32 0],[AV.int .i64 0,.int .i64 0,.int .u32 0,.int .u32 0,.int .u32 0,.int .u32 0],[AV.int .i64 0,.int .i64 0,.int .u32 0,.int .u32 0,.int .u32 0,.int .u32 0],[AV.int .i64 0,.int .i64 0,.int .u32 0,.int .u32 0,.int .u32 0,.int .u32 0],[AV.int .i64 0,.int .i64 0,.int .u32 0,.int .u32 0,.int .u32 0,.int .u32 0],[AV.int .i64 0,.int .i64 0,.int .u32 0,.int .u32 0,.int .u32 0,.int .u32 0],[AV.int .i64 0,.int .i64 0,.int .u32 0,.int .u32 0,.int .u32 0,.int .u32 0],[AV.int .i64 0,.int .i64 0,.int .u32 0,.int .u32 0,.int .u32 0,.int .u32 0],[AV.int .i64 0,.int .i64 0,.int .u32 0,.int .u32 0,.int .u32 0,.int .u32 0],[AV.int .i64 0,.int .i64 0,.int .u32 0,.int .u32 0,.int .u32 0,.int .u32 0],[AV.int .i64 0,.int .i64 0,.int .u32 0,.int .u32 0,.int .u32 0,.int .u32 0],[AV.int .i64 0,.int .i64 0,.int .u32 0,.int .u32 0,.int .u32 0,.int .u32 0]]:=rfl;rw[e8,e32]at hlo;cases hL:Iv d p 3 with
 |none=>
   rw[hL]at hld;have htk:=λH=>b5u [] (by simp) H;rw[show Ts []=none from by decide]at htk
   simp(disch:=try exact dq)only[Xi,KQ 109 rfl,t0,seval,if_pos,if_neg,Af,Ai,Aj,e1j,An,hld,Di,htk,Zx,Wu,b1n,e1s,e1i,e0h,hlo,E7,Ar,Fj,Aw,Pw,Mk,Qr,M5,Hk,e1o,e17,e1p];rfl
 |some s=>
   rw[hL]at hld;have hls:=a1g hL;have htk:=λH=>b5u s om H;simp only[e17];cases hT:Ts s with
   |none=>
     rw[hT]at htk
     simp(disch:=try exact dq)only[Xi,KQ 109 rfl,t0,seval,if_pos,if_neg,Af,Ai,Aj,e1j,An,hld,Di,htk,Zx,Wu,b1n,e1s,e1i,e0h,e13,e0i,hlo,E7,Ar,Fj,Aw,Pw,Mk,Qr,M5,Hk,e1o,e17,e1p];rfl
   |some l=>
     rw[hT]at htk;have hl8:l.length=8:=(ar1 hT).1;have hgl:(Ip d 0 l).length=8:=(by rw[a6i];exact hl8);have hg4:∀ x∈Ip d 0 l,x.2.1.length=4:=by
      intro x hx;obtain⟨n,hn,rfl⟩:=e07.1 hx
      have:=as5 d 0 l n (by rw[a6i]at hn;exact hn);rw[dy1 hn]at this;rw[Option.some.inj this]
      exact(as7 _ _ _).1
     simp(disch:=try exact dq)only[Xi,t0,seval,if_pos,if_neg,Af,Ai,Aj,e1j,An,hld,Di,htk,Zx,Wu,b1n,e1s,e1i,e0h,e13,e0i,hlo,E7,Ar,Fj,Aw,Pw,Mk,Qr,M5,Hk,e1o,e17,e1p,hl8];generalize hr:Ad _ _ _=r;generalize hgg:Ip d 0 l=g at *;have hget:∀ j,j<8->g[j]?=some (Q2 d j (l.getD j default)):=λj hj=>by
      rw[<-hgg,as5 d 0 l j om,e2s]
     refine B7 hr 8
      (λj=>[.top,.top,.top,.top,.ptr 2 0 0 1,.ptr 5 0 0 1,.top,.top,.top,.top,.top,.top,.top,.top,.top,.top,.top,.top,.top,.top,.fz (l.map Ae),.int .i64 8,.int .i64 j,.top,.top,.top,.top,.top])
      (λj=>[some [[A0 Bh d.last,A0 Bi d.wait,.int .i64 d.lies,.int .i64 d.arm,.bool d.down]],some [[.int .i64 p.addr,.int .i64 p.birth,.int .u32 p.sum.a.toNat,.int .u32 p.sum.b.toNat,.int .u32 p.sum.c.toNat,.int .u32 p.sum.d.toNat]],some [[.emp,.emp,.int .i64 0,.int .i64 0,.bool false,.emp,.emp,.emp,.bool false]],some [[AV.int .i64 0,.int .i64 0,.int .u32 0,.int .u32 0,.int .u32 0,.int .u32 0],[AV.int .i64 0,.int .i64 0,.int .u32 0,.int .u32 0,.int .u32 0,.int .u32 0],[AV.int .i64 0,.int .i64 0,.int .u32 0,.int .u32 0,.int .u32 0,.int .u32 0],[AV.int .i64 0,.int .i64 0,.int .u32 0,.int .u32 0,.int .u32 0,.int .u32 0],[AV.int .i64 0,.int .i64 0,.int .u32 0,.int .u32 0,.int .u32 0,.int .u32 0],[AV.int .i64 0,.int .i64 0,.int .u32 0,.int .u32 0,.int .u32 0,.int .u32 0],[AV.int .i64 0,.int .i64 0,.int .u32 0,.int .u32 0,.int .u32 0,.int .u32 0],[AV.int .i64 0,.int .i64 0,.int .u32 0,.int .u32 0,.int .u32 0,.int .u32 0]],some ((PJ g j).map A7),some [[A0 Bh d.last,A0 Bi d.wait,.int .i64 d.lies,.int .i64 d.arm,.bool d.down,.own 6 5 0 8 8,.fz (l.map Ae),.own 4 6 0 32 32,.bool (TJ g j)]],some ((SJ g j).map Ch)]) (λj=>True) ?_ ?_ trivial ?_ ?_
     ·rfl
     ·rfl
     ·intro j hj _;have hj':((j:Int)<8):=om;have hs:=hget j hj;have hS:=dj5 hgl hj hs;have hP:=dm9 hgl hg4 hj hs;have h1:=c6p d hd l hl8 j hj (SJ g j) hS (PJ g j) hP (TJ g j);have a1:=dj3 hgl hj hs;have a2:=dm7 hgl hg4 hj hs;have a3:=di9 hgl hj hs;have a4:=dj4 hgl hj hs;have a5:=dm8 hgl hg4 hj hs;have hk:(j:Int).toNat=j:=om;unfold Q2 at a1 a2 a3 a4 a5;unfold aw8 at h1;have hpz:=d7c (l.getD j default);generalize SJ g (j+1)=S' at *;generalize PJ g (j+1)=P' at *;generalize TJ g (j+1)=T' at *;generalize SJ g j=S at *;generalize PJ g j=P at *;generalize TJ g j=T at *;generalize hx:l.getD j default=x at *;have h1':(j=0\/x≠Bb)->Ev tab A5 A4 110 [.ptr 0 0 0 1,.int .i64 j] [some [[A0 Bh d.last,A0 Bi d.wait,.int .i64 d.lies,.int .i64 d.arm,.bool d.down,.own 1 5 0 8 8,.fz (l.map Ae),.own 2 6 0 32 32,.bool T]],some (S.map Ch),some (P.map A7)] =
       some (.tuple [],[some [[A0 Bh d.last,A0 Bi d.wait,.int .i64 d.lies,.int .i64 d.arm,.bool d.down,.own 1 5 0 8 8,.fz (l.map Ae),.own 2 6 0 32 32,.bool T']],some (S'.map Ch),some (P'.map A7)]):=by
       intro c;rw[h1];rw[if_pos c]at a1 a2 a3 a5;cases ho:S3 d j x with
       |none=>
         rw[ho]at a1 a2 a3 a5;simp only[forall_const]at a1 a2 a3 a5;rw[a1,a5,a3,Bool.or_true]
       |some q=>
         obtain⟨y,m⟩:=q;rw[ho]at a1 a2 a3 a5;simp only at a1 a2 a3 a5;rw[a1,a2,a3];have:decide (y.bad≠0)= !decide (y.bad=0):=(by by_cases h:y.bad=0<;>simp[h]);rw[this]
      by_cases c0:j=0
      ·subst c0;have h1':=h1' (.inl rfl);rw[show((0:Nat):Int)=0 from rfl]at h1'
       simp(disch:=try exact dq)only[KQ 110 rfl,t0,seval,if_pos,if_neg,Af,Ai,Aj,e1j,An,e1s,E7,Ar,Fj,Aw,Pw,Mk,Qr,M5,Hk,e1o,e17,e1p,hj',hk,hl8,hx,Ax,Ae,h1'];rfl
      ·have Yb:((j:Int)=0)=False:=eq_false om;cases cx:decide (x=Bb)with
       |false=>
         rw[cx]at hpz;have h1':=h1' (.inr (of_decide_eq_false cx))
         simp(disch:=try exact dq)only[KQ 110 rfl,t0,seval,if_pos,if_neg,Af,Ai,Aj,e1j,An,e1s,E7,Ar,Fj,Aw,Pw,Mk,Qr,M5,Hk,e1o,e17,e1p,hj',hk,hl8,hx,Yb,hpz,Ax,Ae,h1',e2b];rfl
       |true=>
         rw[cx]at hpz;have cn:¬ (j=0\/x≠Bb):=λh=>h.elim c0 λh=>h (e11 cx);rw[if_neg cn]at a1 a2 a3 a4 a5;rw[a4 om rfl,a5 rfl,a3,Bool.or_false]
         simp(disch:=try exact dq)only[t0,seval,Af,Ai,Aj,e1j,An,e1s,E7,Ar,Fj,Aw,Pw,Mk,Qr,M5,Hk,e1o,e17,e1p,hj',hk,hl8,hx,Yb,hpz,Ax,Ae,e2b];rfl
     ·intro _;rw[dj6 hgl,bm2 hgl,dj0 hgl];have hnm:∀ x∈g.map (·.1),x.name.length<=1000000:=by
       intro x hx;obtain⟨y,hy,rfl⟩:=e2r.1 hx;obtain⟨n,hn,rfl⟩:=e07.1 hy
       have:=hget n om;rw[dy1 hn]at this;rw[Option.some.inj this]
       have:=(as7 d n (l.getD n default)).2;omega
      have hto:=bz4 (g.map (·.1)) (by rw[e1q];exact hgl) hnm;have hgm:(g.map (·.1)).length=8:=(by rw[e1q];exact hgl);have hpm:((g.map (·.2.1)).flatten).length=32:=by
       rw[<-bm2 hgl];unfold PJ;rw[dz1 om];have:∀ l:List (Node×List Ptr×Bool),(∀ x∈l,x.2.1.length=4)->((l.map (·.2.1)).flatten).length=4*l.length:=by
        intro l
        induction l with
        |nil=>intro _;rfl
        |cons x l ih=>
          intro h;rw[e2c,e0u,e0l,h x (by simp),ih (λy hy=>h y (by simp[hy])),e15];omega
       rw[e0l,this g hg4,hgl,Ab,dz7]
      have t1:List.take 8 ((g.map (·.1)).map Ao)=(g.map (·.1)).map Ao:=dz1 (by rw[e1q];omega);have t2:List.take 32 (((g.map (·.2.1)).flatten).map Ae)=((g.map (·.2.1)).flatten).map Ae:=dz1 (by rw[e1q];omega);have t3:List.take 8 ((g.map (·.1)).map Ch)=(g.map (·.1)).map Ch:=dz1 (by rw[e1q];omega);have hlz:=c9v d (g.map (·.1)) (l.map Ae) ((g.map (·.2.1)).flatten) (g.any (·.2.2));unfold a2x ag5;generalize g.map (·.1)=S at *
      generalize (g.map (·.2.1)).flatten=P at *;generalize g.any (·.2.2)=T at *;cases ht:H7 S with
      |true=>
        rw[ht]at hto
        simp(disch:=try exact dq)only[b3a,ap5,t0,seval,if_pos,if_neg,Af,Ai,Aj,e1j,An,e1s,E7,Ar,Fj,Aw,Pw,Mk,Qr,M5,Hk,e1o,e17,e1p,hgm,hpm,t1,t2,t3,hto]
      |false=>
        rw[ht]at hto
        simp(disch:=try exact dq)only[b3a,ap5,KQ 109 rfl,t0,seval,if_pos,if_neg,Af,Ai,Aj,e1j,An,e1s,E7,Ar,Fj,Aw,Pw,Mk,Qr,M5,Hk,e1o,e17,e1p,hgm,hpm,t1,t2,t3,hto,hlz];rfl
theorem c0i(s:Bytes)(hs:s.length<=100000){l:List DsetH}{q:List Ptr}(h:Ov s=some (l,q))(H:AH):K tab A5 A4 66 [.str s] H=some (.tuple [.own H.length 5 0 l.length l.length,.own (H.length+1) 6 0 q.length q.length,.bool true],H++[some (l.map M8),some (q.map A7)]):=by
 have e:=b48 s hs;rw[h]at e;rw[Zi rfl rfl e H];simp only[a0r,Wm,Wl,U6,a0s,Vv,e1n,e1z,if_false,Nat.sub_zero,e2p,Uc,e2c,e2o,e1p,Ir,Aw]
theorem b47(s:Bytes)(hs:s.length<=100000)(h:Ov s=none)(H:AH):K tab A5 A4 66 [.str s] H=some (.tuple [.emp,.emp,.bool false],H):=by
 have e:=b48 s hs;rw[h]at e;rw[Zi rfl rfl e H];simp only[a0r,Wm,Wl,a6z,a0s,e2o,e1t]
def J9:List AV:=[.int .i64 0,.int .i64 0,.int .i64 0,.int .i64 0,.int .i64 0,.int .u32 0,.int .u32 0,.int .u32 0,.int .u32 0,.int .i64 0,.int .i64 0,.int .u32 0,.int .u32 0,.int .u32 0,.int .u32 0,.int .i64 0,.int .i64 0,.int .u32 0,.int .u32 0,.int .u32 0,.int .u32 0,.int .i64 0,.emp,.emp,.emp,.emp,.emp,.emp,.emp,.emp]
def Db(r:Root)(a b c d e f g h:AV):List AV:=[.int .i64 r.txg,.int .i64 r.next,.int .i64 r.guid,.int .i64 r.table.addr,.int .i64 r.table.birth,.int .u32 r.table.sum.a.toNat,.int .u32 r.table.sum.b.toNat,.int .u32 r.table.sum.c.toNat,.int .u32 r.table.sum.d.toNat,.int .i64 r.space.addr,.int .i64 r.space.birth,.int .u32 r.space.sum.a.toNat,.int .u32 r.space.sum.b.toNat,.int .u32 r.space.sum.c.toNat,.int .u32 r.space.sum.d.toNat,.int .i64 r.kept.addr,.int .i64 r.kept.birth,.int .u32 r.kept.sum.a.toNat,.int .u32 r.kept.sum.b.toNat,.int .u32 r.kept.sum.c.toNat,.int .u32 r.kept.sum.d.toNat,.int .i64 r.keptTxg,a,b,c,d,e,f,g,h]
def bb4(o:Option (Root×List DsetH×List Ptr)):AV×AH:=match o with
 |some (r,l,q)=>(.tuple [.agg (Db r .emp .emp .emp .emp (.own 0 5 0 l.length l.length) (.own 1 6 0 q.length q.length) .emp .emp),.bool true],[some (l.map M8),some (q.map A7)])
 |none=>(.tuple [.agg J9,.bool false],[])
theorem bb3(d:Dev)(hd:DevOk d)(p:Ptr):Ev tab A5 A4 27 [.agg [A0 Bh d.last,A0 Bi d.wait,.int .i64 d.lies,.int .i64 d.arm,.bool d.down],.agg [.int .i64 p.addr,.int .i64 p.birth,.int .u32 p.sum.a.toNat,.int .u32 p.sum.b.toNat,.int .u32 p.sum.c.toNat,.int .u32 p.sum.d.toNat]] []=some (bb4 (N2 d p)):=by
 refine Cd l27 rfl ?_;unfold N2;have hld:=Wz d hd p 6;cases hL:Iv d p 6 with
 |none=>
   rw[hL]at hld;have htr:=λH=>b49 [] (by simp) H;rw[show a00 []=none from by decide]at htr
   simp(disch:=try exact dq)only[Qm,t0,seval,if_pos,if_neg,Af,Ai,Aj,e1j,An,hld,Di,htr,Ro,Nq,U0,e1s,e1i,e0h,e13,e0i,Ar,Aw,Jh,Ir];rfl
 |some s=>
   rw[hL]at hld;have hls:=a1g hL;have htr:=λH=>b49 s om H;simp only[e17];cases hT:a00 s with
   |none=>
     rw[hT]at htr
     simp(disch:=try exact dq)only[Qm,t0,seval,if_pos,if_neg,Af,Ai,Aj,e1j,An,hld,Di,htr,Ro,Nq,U0,e1s,e1i,e0h,e13,e0i,Ar,Aw,Jh,Ir];rfl
   |some r=>
     rw[hT]at htr;by_cases hb:r.txg=p.birth
     ·simp only[if_pos hb];have hld2:=Wz d hd r.table 4;cases hL2:Iv d r.table 4 with
      |none=>
        rw[hL2]at hld2;have htt:=b47 [] (by simp) (by decide)
        simp(disch:=try exact dq)only[Qm,t0,seval,if_pos,if_neg,Af,Ai,Aj,e1j,An,hld,Di,htr,Ro,Nq,U0,e1s,e1i,e0h,e13,e0i,Ar,Aw,Jh,Ir,hb,hld2,htt];rfl
      |some s2=>
        rw[hL2]at hld2;have hls2:=a1g hL2;simp only[e17];cases hT2:Ov s2 with
        |none=>
          have htt:=b47 s2 om hT2
          simp(disch:=try exact dq)only[Qm,t0,seval,if_pos,if_neg,Af,Ai,Aj,e1j,An,hld,Di,htr,Ro,Nq,U0,e1s,e1i,e0h,e13,e0i,Ar,Aw,Jh,Ir,hb,hld2,htt];rfl
        |some q=>
          obtain⟨l,q⟩:=q;have htt:=c0i s2 om hT2
          simp(disch:=try exact dq)only[Qm,t0,seval,if_pos,if_neg,Af,Ai,Aj,e1j,An,hld,Di,htr,Ro,Nq,U0,e1s,e1i,e0h,e13,e0i,Ar,Aw,Jh,Ir,hb,hld2,htt];simp only[bb4,Db,hb]
     ·simp only[if_neg hb]
      simp(disch:=try exact dq)only[Qm,t0,seval,if_pos,if_neg,Af,Ai,Aj,e1j,An,hld,Di,htr,Ro,Nq,U0,e1s,e1i,e0h,e13,e0i,Ar,Aw,Jh,Ir,hb];rfl
section
def L7(x:DsetH)(f:FilesR):List AV:=[.int .i64 x.id,.int .i64 x.kind,.int .i64 x.origin,.int .i64 x.quota,.fz (f.set.map Ao)]
def Gf(d:Dev)(l:List DsetH)(q:List Ptr)(j:Nat):AObj:=List.zipWith L7 l ((q.take j).map (Bj d))++(l.drop j).map M8
def K7(d:Dev)(q:List Ptr)(j:Nat):AObj:=(q.take j).map λp=>[.fz ((Bj d p).node.map Ae)]
def Ly(d:Dev)(q:List Ptr)(j:Nat):AObj:=(q.take j).map λp=>[.fz ((Bj d p).part.map Ae)]
section
variable {d:Dev} {l:List DsetH} {q:List Ptr} (hl:l.length=q.length) {j:Nat} (hj:j<l.length)
include hl
theorem c2c(hj:j<=l.length):(Gf d l q j).length=l.length:=by
 simp[Gf];omega
include hj
theorem c2d:(Gf d l q j)[j]?=some [.int .i64 (l.getD j default).id,.int .i64 (l.getD j default).kind,.int .i64 (l.getD j default).origin,.int .i64 (l.getD j default).quota,.emp]:=by
 unfold Gf;rw[dx3 (by simp;omega),show j-(List.zipWith L7 l ((q.take j).map (Bj d))).length=0 by simp;omega,e0t,e0g,e2p,dy1 hj,dx5,dy1 hj];rfl
theorem c2a:(Gf d l q j).set j [.int .i64 (l.getD j default).id,.int .i64 (l.getD j default).kind,.int .i64 (l.getD j default).origin,.int .i64 (l.getD j default).quota,.fz ((Bj d (q.getD j default)).set.map Ao)]=Gf d l q (j+1):=by
 have hz:List.zipWith L7 l ((q.take (j+1)).map (Bj d))=List.zipWith L7 l ((q.take j).map (Bj d))++[L7 (l.getD j default) (Bj d (q.getD j default))]:=by
  have ez:∀ (A B:List DsetH) (C D:List FilesR),A.length=C.length->List.zipWith L7 (A++B) (C++D)=List.zipWith L7 A C++List.zipWith L7 B D:=λA B C D h=>List.zipWith_append h;have e:l=l.take j++(l.getD j default::l.drop (j+1)):=by rw[<-Ew hj,dz9]
  have hm:(l.take j).length=((q.take j).map (Bj d)).length:=by rw[e1q,e1f,e1f];omega
  rw[En om,e1w]
  generalize (q.take j).map (Bj d)=m at *;have e1:List.zipWith L7 l m=List.zipWith L7 (l.take j) m:=by
   have h:=ez (l.take j) (l.getD j default::l.drop (j+1)) m [] hm;rw[<-e,e1t]at h;rw[h];simp
  have h:=ez (l.take j) (l.getD j default::l.drop (j+1)) m ([q.getD j default].map (Bj d)) hm;rw[<-e]at h;rw[h,e1];simp only[e2c,e2o,List.zipWith_cons_cons,List.zipWith_nil_right]
 unfold Gf;rw[List.set_append,if_neg (by simp;omega),show j-(List.zipWith L7 l ((q.take j).map (Bj d))).length=0 by simp;omega,hz,Ew hj,e2c,e0o,e0x];rfl
end
theorem at2(d:Dev)(l:List DsetH)(q:List Ptr)(j:Nat):∀ e∈Gf d l q j,Ac e=true:=by
 intro e he;unfold Gf at he;rcases e1u.1 he with h|h
 ·rw[e07]at h;obtain⟨n,hn,rfl⟩:=h;rw[List.getElem_zipWith];rfl
 ·obtain⟨x,_,rfl⟩:=e2r.1 h;rfl
theorem a71(d:Dev)(l:List DsetH)(q:List Ptr)(j:Nat):Cf (some (Gf d l q j))=[]:=by
 simp only[Cf,List.flatMap_eq_nil_iff];exact λe he=>Lt e (at2 d l q j e he)
theorem a6x(τ:Nat->Option Nat)(d:Dev)(l:List DsetH)(q:List Ptr)(j:Nat):Av τ (Gf d l q j)=Gf d l q j:=by
 unfold Av
 conv=>rhs;rw[<-List.map_id (Gf d l q j)]
 exact e0a λe he=>Kt τ e (at2 d l q j e he)
theorem Q7(d:Dev)(q:List Ptr)(j:Nat):Cf (some (K7 d q j))=[]:=K4 _ _ λ_=>rfl
theorem Q6(d:Dev)(q:List Ptr)(j:Nat):Cf (some (Ly d q j))=[]:=K4 _ _ λ_=>rfl
theorem Q5(τ:Nat->Option Nat)(d:Dev)(q:List Ptr)(j:Nat):Av τ (K7 d q j)=K7 d q j:=Mr τ _ _ λ_=>rfl
theorem Q4(τ:Nat->Option Nat)(d:Dev)(q:List Ptr)(j:Nat):Av τ (Ly d q j)=Ly d q j:=Mr τ _ _ λ_=>rfl
theorem bd9(d:Dev)(hd:DevOk d)(r:Root)(l:List DsetH)(q:List Ptr)(hl:l.length=q.length)(hn:l.length<=8):Ev tab A5 A4 28 [.agg [A0 Bh d.last,A0 Bi d.wait,.int .i64 d.lies,.int .i64 d.arm,.bool d.down],.ptr 0 0 0 1] [some [Db r .emp .emp .emp .emp (.own 1 5 0 l.length l.length) (.own 2 6 0 l.length l.length) .emp .emp],some (l.map M8),some (q.map A7)] =
 some (.bool ((q.map (Bj d)).all λf=> !f.torn),[some [Db r .emp .emp .emp .emp (.own 1 5 0 l.length l.length) (.own 2 6 0 l.length l.length) (.own 3 1 0 l.length l.length) (.own 4 1 0 l.length l.length)],some (Gf d l q l.length),some (q.map A7),some (K7 d q l.length),some (Ly d q l.length)]):=by
 refine Cd l28 rfl ?_
 simp(disch:=try exact dq)only[g28,t0,seval,if_pos,if_neg,Af,Ai,Aj,e1j,Db,Jh,Ar,Ir,Aw];generalize hr:Ad _ _ _=r';refine B7 hr l.length
  (λj=>[.top,.ptr 0 0 0 1,.ptr 3 0 0 1,.top,.bool (((q.take j).map (Bj d)).all λf=> !f.torn),.top,.top,.top,.own 2 6 0 l.length l.length,.int .i64 l.length,.int .i64 j,.top,.top,.top,.top])
  (λj=>[some [Db r .emp .emp .emp .emp (.own 1 5 0 l.length l.length) (.own 2 6 0 l.length l.length) (.own 4 1 0 j j) (.own 5 1 0 j j)],some (Gf d l q j),some (q.map A7),some [[A0 Bh d.last,A0 Bi d.wait,.int .i64 d.lies,.int .i64 d.arm,.bool d.down]],some (K7 d q j),some (Ly d q j)]) (λj=>True) ?_ ?_ trivial ?_ ?_
 ·rfl
 ·simp[Gf,K7,Ly,Db]
 ·intro j hj _;have hj':((j:Int)<(l.length:Int)):=om;have hjq:((j:Int)<(q.length:Int)):=om;have hk:(j:Int).toNat=j:=om;have hrd:=c4u d hd (q.getD j default);have s1:=c2c (d:=d) hl (Nat.le_of_lt hj);have s2:=c2d (d:=d) hl hj;have s3:=c2a (d:=d) hl hj;have n1:(K7 d q j).length=j:=by simp[K7];omega
  have n2:(Ly d q j).length=j:=by simp[Ly];omega
  have n3:K7 d q (j+1)=K7 d q j++[[.fz ((Bj d (q.getD j default)).node.map Ae)]]:=by
   unfold K7;rw[En om,e1w];rfl
  have n4:Ly d q (j+1)=Ly d q j++[[.fz ((Bj d (q.getD j default)).part.map Ae)]]:=by
   unfold Ly;rw[En om,e1w];rfl
  have n5:((q.take (j+1)).map (Bj d)).all (λf=> !f.torn)=((((q.take j).map (Bj d)).all λf=> !f.torn)&&!(Bj d (q.getD j default)).torn):=by
   rw[En om,e1w,List.all_append];simp
  have hgq:(q.map A7)[j]?=some [.int .i64 (q.getD j default).addr,.int .i64 (q.getD j default).birth,.int .u32 (q.getD j default).sum.a.toNat,.int .u32 (q.getD j default).sum.b.toNat,.int .u32 (q.getD j default).sum.c.toNat,.int .u32 (q.getD j default).sum.d.toNat]:=by
   rw[e0t,dy1 om,dx5,dy1 om];rfl
  have hlq:(q.map A7).length=l.length:=by rw[e1q];exact hl.symm
  rw[n5];have n3:=n3.symm;have n4:=n4.symm;unfold ag5 at hrd
  generalize (((q.take j).map (Bj d)).all λf=> !f.torn)=b at *;cases b
  ·simp(disch:=try exact dq)only[t0,seval,Af,Ai,Aj,e1j,hj',hk,s1,s2,n1,n2,hgq,hlq,hrd,s3,n3,n4,e2b,Db,Ar,Aw,a71,a6x,Q7,Q6,Q5,Q4];rfl
  ·simp(disch:=try exact dq)only[t0,seval,Af,Ai,Aj,e1j,hj',hk,s1,s2,n1,n2,hgq,hlq,hrd,s3,n3,n4,e2b,Db,Ar,Aw,a71,a6x,Q7,Q6,Q5,Q4];rfl
 ·intro _;rw[hl,e1g,<-hl]
  simp(disch:=try exact dq)only[t0,seval,Af,Ai,Aj,e1j,e2k,Db,Ar,Aw,a71,a6x,Q7,Q6,Q5,Q4]
end
theorem bb1(d:Dev)(hd:DevOk d)(p:Ptr){r:Root}{l:List DsetH}{q:List Ptr}(h:N2 d p=some (r,l,q))(H:AH):K tab A5 A4 27 [.agg [A0 Bh d.last,A0 Bi d.wait,.int .i64 d.lies,.int .i64 d.arm,.bool d.down],.agg [.int .i64 p.addr,.int .i64 p.birth,.int .u32 p.sum.a.toNat,.int .u32 p.sum.b.toNat,.int .u32 p.sum.c.toNat,.int .u32 p.sum.d.toNat]] H =
 some (.tuple [.agg (Db r .emp .emp .emp .emp (.own H.length 5 0 l.length l.length) (.own (H.length+1) 6 0 q.length q.length) .emp .emp),.bool true],H++[some (l.map M8),some (q.map A7)]):=by
 have e:=bb3 d hd p;rw[h]at e;rw[Zi rfl (by simp[Ac,A8,Ap]) e H];simp only[Db,a0r,au7,Wm,Wl,U6,a0s,a6y,a6z,Vv,e1n,e1z,if_false,Nat.sub_zero,e2p,Uc,e2c,e2o,e1p,Ir,Aw]
theorem bb2(d:Dev)(hd:DevOk d)(p:Ptr)(h:N2 d p=none)(H:AH):K tab A5 A4 27 [.agg [A0 Bh d.last,A0 Bi d.wait,.int .i64 d.lies,.int .i64 d.arm,.bool d.down],.agg [.int .i64 p.addr,.int .i64 p.birth,.int .u32 p.sum.a.toNat,.int .u32 p.sum.b.toNat,.int .u32 p.sum.c.toNat,.int .u32 p.sum.d.toNat]] H =
 some (.tuple [.agg J9,.bool false],H):=by
 have e:=bb3 d hd p;rw[h]at e;rw[Zi rfl (by simp[Ac,A8,Ap]) e H];simp only[J9,a0r,au7,Wm,Wl,a0s,a6y,a6z,e2o,e1t]
def Hd(l:List Ptr):List PV:=[.fz (l.map Ae)]
def Fb(r:Root)(a b c e:AV)(v:ViewL):List AV:=Db r a b c e (.fz (v.sets.map Ak)) (.fz (v.set.map Ae)) (.fz (v.node.map Hd)) (.fz (v.part.map Hd))
def Jd(d:Dev)(p:Ptr):AV:=match Rv d p with
 |some v=>.tuple [.agg (Fb v.r .emp .emp .emp .emp v),.bool true]
 |none=>.tuple [.agg J9,.bool false]
theorem b09{d:Dev}{p:Ptr}{r:Root}{l:List DsetH}{q:List Ptr}(h:N2 d p=some (r,l,q)):l.length=q.length/\l.length<=8:=by
 unfold N2 at h;split at h
 ·split at h
  ·obtain⟨x,hx,e⟩:=dz0.1 h;obtain⟨s,_,hs⟩:=dy6.1 hx;obtain⟨a,b⟩:=x;have e1:=congrArg (λy=>y.2.1) e;have e2:=congrArg (λy=>y.2.2) e;simp only at e1 e2;subst e1;subst e2
   have:=c0j hs;exact⟨this.1,this.2.1⟩
  ·cases h
 ·cases h
theorem b3v:∀ (l:List DsetH) (m:List FilesR),Ct (List.zipWith L7 l m)=some ((List.zipWith (λx f=>Hx x f.set) l m).map Ak)
 |[],_=>rfl
 |_::_,[]=>rfl
 |x::l,f::m=>by
   rw[List.zipWith_cons_cons,Zw,b3v l m,show(L7 x f).mapM Dc=some (Ak (Hx x f.set))from rfl];rfl
theorem bz7(d:Dev)(l:List DsetH)(q:List Ptr)(hl:l.length=q.length):Ct (Gf d l q l.length)=some ((List.zipWith (λx f=>Hx x f.set) l (q.map (Bj d))).map Ak):=by
 unfold Gf;rw[show q.take l.length=q by rw[hl];exact e1g,e1h,e2o,e1t];exact b3v l _
theorem b3x(d:Dev)(q:List Ptr)(n:Nat)(h:n=q.length):Ct (K7 d q n)=some ((q.map λp=>(Bj d p).node).map Hd):=by
 subst h;unfold K7;rw[e1g,e2t];exact Lp _ _ (λ_=>rfl) q
theorem b3w(d:Dev)(q:List Ptr)(n:Nat)(h:n=q.length):Ct (Ly d q n)=some ((q.map λp=>(Bj d p).part).map Hd):=by
 subst h;unfold Ly;rw[e1g,e2t];exact Lp _ _ (λ_=>rfl) q
mutual
theorem d5w(r:Nat)(es:List (List PV)):∀ x:AV,A8 x=true->frz r es x=x
 |.own ..,h=>by simp[A8]at h
 |.ptr ..,h=>by simp[A8]at h
 |.agg cs,h=>by simp only[A8]at h;simp only[frz,Xv r es cs h]
 |.tuple cs,h=>by simp only[A8]at h;simp only[frz,Xv r es cs h]
 |.fn f first cap,h=>by
   simp only[A8,e14]at h;simp only[frz,Xv r es first h.1,Xv r es cap h.2]
 |.top,_=>by simp[frz]
 |.bool _,_=>by simp[frz]
 |.int _ _,_=>by simp[frz]
 |.str _,_=>by simp[frz]
 |.nilp,_=>by simp[frz]
 |.emp,_=>by simp[frz]
 |.fz _,_=>by simp[frz]
 |.fptr _,_=>by simp[frz]
 |.nilfn,_=>by simp[frz]
theorem Xv(r:Nat)(es:List (List PV)):∀ xs:List AV,Ac xs=true->Ce r es xs=xs
 |[],_=>by simp[Ce]
 |x::xs,h=>by
   simp only[Ac,e14]at h;simp only[Ce,d5w r es x h.1,Xv r es xs h.2]
end
theorem V2(r:Nat)(es:List (List PV))(o:AObj)(h:∀ e∈o,Ac e=true):o.map (Ce r es)=o:=by
 conv=>rhs;rw[<-List.map_id o]
 exact e0a λe he=>Xv r es e (h e he)
theorem d5p(r:Nat)(es:List (List PV))(d:Dev)(l:List DsetH)(q:List Ptr)(j:Nat):(Gf d l q j).map (Ce r es)=Gf d l q j:=V2 _ _ _ (at2 d l q j)
theorem bc7(r:Nat)(es:List (List PV))(d:Dev)(q:List Ptr)(j:Nat):(K7 d q j).map (Ce r es)=K7 d q j:=V2 _ _ _ λe he=>by obtain⟨p,_,rfl⟩:=e2r.1 he;rfl
theorem c3i(d:Dev)(p:Ptr):A8 (Jd d p)=true:=by
 unfold Jd;split<;>rfl
theorem b5e(d:Dev)(hd:DevOk d)(p:Ptr)(H:AH):K tab A5 A4 8 [.agg [A0 Bh d.last,A0 Bi d.wait,.int .i64 d.lies,.int .i64 d.arm,.bool d.down],.agg [.int .i64 p.addr,.int .i64 p.birth,.int .u32 p.sum.a.toNat,.int .u32 p.sum.b.toNat,.int .u32 p.sum.c.toNat,.int .u32 p.sum.d.toNat]] H=some (Jd d p,H):=by
 refine Ah l8 rfl (by simp[Ac,A8,Ap]) (c3i d p) ?_ H;unfold Jd Rv;cases hh:N2 d p with
 |none=>
   have h1:=bb2 d hd p hh
   simp(disch:=try exact dq)only[g8,t0,seval,if_pos,if_neg,Af,Ai,Aj,e1j,h1,J9];rfl
 |some x=>
   obtain⟨r,l,q⟩:=x;have h1:=bb1 d hd p hh;obtain⟨hl,hl8⟩:=b09 hh;have h2:=bd9 d hd r l q hl hl8;have tA:=bz7 d l q hl;have tB:=b3x d q l.length hl;have tC:=b3w d q l.length hl;have eV:Jw (r,l,q) ⟨[],[],[],[]⟩ (q.map (Bj d))=⟨r,⟨[],[],[],[]⟩,List.zipWith (λx f=>Hx x f.set) l (q.map (Bj d)),q,q.map λp=>(Bj d p).node,q.map λp=>(Bj d p).part⟩:=by
    simp[Jw,e2t]
   simp only[e1p,eV];have lA:(List.zipWith (λx f=>Hx x f.set) l (q.map (Bj d))).length=l.length:=(by simp;omega);have lB:(q.map λp=>(Bj d p).node).length=l.length:=(by simp;omega);have lC:(q.map λp=>(Bj d p).part).length=l.length:=(by simp;omega);generalize List.zipWith (λx f=>Hx x f.set) l (q.map (Bj d))=A at *
   generalize (q.map λp=>(Bj d p).node)=B at *
   generalize (q.map λp=>(Bj d p).part)=C at *;have kA:List.take l.length (A.map Ak)=A.map Ak:=dz1 (by rw[e1q];omega);have kB:List.take l.length (B.map Hd)=B.map Hd:=dz1 (by rw[e1q];omega);have kC:List.take l.length (C.map Hd)=C.map Hd:=dz1 (by rw[e1q];omega);have kQ:List.take l.length (q.map Ae)=q.map Ae:=dz1 (by rw[e1q];omega);unfold Db at h2
   simp(disch:=try exact dq)only[g8,KQ 28 rfl,t0,seval,if_pos,if_neg,Af,Ai,Aj,e1j,h1,<-hl,h2,Db,An,Jh,Ar,Ir,Aw,a71,Q7,Q6,a6x,Q5,Q4,e1s,tA,tB,tC,Mk,e1q,lA,lB,lC,kA,kB,kC,kQ,d5p,bc7,M5,Hk,e1o,e17,e1p];rfl
theorem b0v(i:Int):∀ l:List Dset,F7 l i=Ee (λd=>decide (d.id=i)) l
 |[]=>rfl
 |d::l=>by
   rw[F7,Ee,b0v i l];by_cases h:d.id=i
   ·rw[if_pos h,if_pos (by simpa using h)]
   ·rw[if_neg h,if_neg (show ¬ (decide (d.id=i))=true by simpa using h)]
theorem d6n(x:Dset)(n:Int):K tab A5 A4 240 [.agg [.int .i64 x.id,.int .i64 x.kind,.int .i64 x.origin,.int .i64 x.quota,A0 Ao x.files],.ptr 0 0 0 1] [some [[.int .i64 n]]]=some (.bool (decide (x.id=n)),[some [[.int .i64 n]]]):=by
 have h:Ev tab A5 A4 240 [.agg [.int .i64 x.id,.int .i64 x.kind,.int .i64 x.origin,.int .i64 x.quota,A0 Ao x.files],.ptr 0 0 0 1] [some [[.int .i64 n]]]=some (.bool (decide (x.id=n)),[some [[.int .i64 n]]]):=by
  refine Cd cj9 rfl ?_
  simp(disch:=try exact dq)only[a9u,t0,seval,if_pos,if_neg,Af,Ai,Aj,e1j,Hk,Jf]
 simp(disch:=try exact dq)only[KQ 240 rfl,t0,seval,if_pos,if_neg,Af,Ai,Aj,e1j,An,h,Jf]
theorem cz9(l:Sl Dset)(hl:(els l).length<=1000000)(n:Int):Ev tab A5 A4 239 [A0 Ak l,.fn (.func 240) [] [.ptr 0 0 0 1]] [some [[.int .i64 n]]]=some (.int .i64 (F7 (els l) n),[some [[.int .i64 n]]]):=by
 rw[b0v];refine Cd ck1 rfl ?_
 simp(disch:=try exact dq)only[a9v,t0,seval,if_pos,if_neg,Af,Ai,Aj,e1j];generalize hr:Ad _ _ _=r;refine B7 hr (els l).length (λj=>[A0 Ak l,.fn (.func 240) [] [.ptr 0 0 0 1],.top,.top,.int .i64 (els l).length,.int .i64 j,.top])
  (λj=>[some [[.int .i64 n]]]) (λj=>Ee (λx=>decide (x.id=n)) (els l)=if Ee (λx:Dset=>decide (x.id=n)) ((els l).drop j)<0 then -1 else j+Ee (λx=>decide (x.id=n)) ((els l).drop j)) ?_ ?_ ?_ ?_ ?_
 ·simp
 ·simp
 ·have:=Se (λx:Dset=>decide (x.id=n)) (els l);rw[e23];split<;>omega
 ·intro j hj hI;have hj':((j:Int)<((els l).length:Int)):=om;rw[Ew hj,Ee]at hI;have hn:=d6n ((els l).getD j default) n;have hge:=Se (λx:Dset=>decide (x.id=n)) ((els l).drop (j+1));cases hp:decide (((els l).getD j default).id=n)with
  |true=>
    rw[hp]at hn;simp only[hp,if_true]at hI
    simp(disch:=try exact dq)only[t0,seval,Af,Ai,Aj,e1j,hj',e2b,Aa,Ak,hn];rw[if_neg om,Int.add_zero]at hI;rw[hI]
  |false=>
    rw[hp]at hn;simp only[hp,e0f,if_false]at hI
    simp(disch:=try exact dq)only[t0,seval,Af,Ai,Aj,e1j,hj',e2b,Aa,Ak,hn];refine⟨rfl,?_⟩;rw[hI];generalize Ee _ (List.drop (j+1) (els l))=a at *;by_cases ha:a<0
    ·simp[ha]
    ·rw[if_neg ha,if_neg ha,if_neg om];omega
 ·intro hI;rw[e1h,Ee,if_pos om]at hI
  simp(disch:=try exact dq)only[t0,seval,Af,Ai,Aj,e1j,e2k,hI]
theorem bd8(l:Sl Dset)(hl:(els l).length<=1000000)(n:Int)(H:AH):K tab A5 A4 175 [A0 Ak l,.int .i64 n] H=some (.int .i64 (F7 (els l) n),H):=by
 refine Ah cn1 rfl (by simp[Ac,A8,Ap]) rfl ?_ H;have h:=cz9 l hl n
 simp(disch:=try exact dq)only[ab7,KQ 239 rfl,t0,seval,if_pos,if_neg,Af,Ai,Aj,e1j,An,h,Jf]
theorem a2v(l:List Dset)(i:Int):-1<=F7 l i/\F7 l i<l.length:=by
 rw[b0v];exact Se _ _
theorem b9z(l:Sl Dset)(hl:(els l).length<=1000000)(i k:Int)(H:AH):K tab A5 A4 113 [A0 Ak l,.int .i64 i,.int .i64 k] H=some (.bool (Hi (els l) i k),H):=by
 refine Ah cr2 rfl (by simp[Ac,A8,Ap]) rfl ?_ H;have h:=bd8 l hl i;have hb:=a2v (els l) i;unfold Hi getA;generalize F7 (els l) i=a at *;by_cases ha:0<=a
 ·rw[if_pos ha]
  simp(disch:=try exact dq)only[a2p,t0,seval,if_pos,if_neg,Af,Ai,Aj,e1j,h,ha,Aa,Ak]
 ·rw[if_neg ha]
  simp(disch:=try exact dq)only[a2p,t0,seval,if_pos,if_neg,Af,Ai,Aj,e1j,h,ha]
def R0(l:List Dset)(i:Int):Nat->Int
 |0=>i
 |j+1=>match getA l (R0 l i j)with|some o=>o.origin|none=>0
theorem c32(l:Sl Dset)(hl:(els l).length<=1000000)(i:Int)(H:AH):K tab A5 A4 114 [A0 Ak l,.int .i64 i] H=some (.bool (Kr (els l) i (els l).length i),H):=by
 refine Ah cr1 rfl (by simp[Ac,A8,Ap]) rfl ?_ H
 simp(disch:=try exact dq)only[ae9,t0,seval,if_pos,if_neg,Af,Ai,Aj,e1j];generalize hr:Ad _ _ _=r;refine B7 hr (els l).length
  (λj=>[A0 Ak l,.int .i64 i,.top,.int .i64 (R0 (els l) i j),.top,.int .i64 (els l).length,.int .i64 j,.top])
  (λj=>[]) (λj=>Kr (els l) i (els l).length i=Kr (els l) i ((els l).length-j) (R0 (els l) i j)) ?_ ?_ ?_ ?_ ?_
 ·rfl
 ·rfl
 ·simp[R0]
 ·intro j hj hI;have hj':((j:Int)<((els l).length:Int)):=om;rw[show(els l).length-j=(els l).length-(j+1)+1 by omega,Kr]at hI;have h:=bd8 l hl (R0 (els l) i j);have hb:=a2v (els l) (R0 (els l) i j);have hs:R0 (els l) i (j+1)=match getA (els l) (R0 (els l) i j)with|some o=>o.origin|none=>0:=rfl
  rw[hs];unfold getA at hI ⊢;generalize R0 (els l) i j=a at *;generalize F7 (els l) a=b at *;by_cases hb0:0<=b
  ·rw[if_pos hb0]at hI;simp only[if_pos hb0];by_cases ho:((els l).getD b.toNat default).origin=i
   ·simp only[if_pos ho]at hI
    simp(disch:=try exact dq)only[t0,seval,Af,Ai,Aj,e1j,hj',h,hb0,ho,hI,Aa,Ak,e2b]
   ·simp only[if_neg ho]at hI
    simp(disch:=try exact dq)only[t0,seval,Af,Ai,Aj,e1j,hj',h,hb0,ho,Aa,Ak,e2b];exact⟨rfl,hI⟩
  ·rw[if_neg hb0]at hI;have hb1:b<0:=om
   simp(disch:=try exact dq)only[t0,seval,Af,Ai,Aj,e1j,hj',h,hb1,hI,e2b]
 ·intro hI;rw[Nat.sub_self,Kr]at hI
  simp(disch:=try exact dq)only[t0,seval,Af,Ai,Aj,e1j,e2k,hI]
def bl9(x:Dset):Prop:=(els x.files).length<=1000000/\∀ n∈els x.files,n.name.length<=1000000
theorem c95(l:Sl Dset)(hl:(els l).length<=1000000)(x:Dset)(hx:bl9 x)(H:AH):K tab A5 A4 68 [.agg [.int .i64 x.id,.int .i64 x.kind,.int .i64 x.origin,.int .i64 x.quota,A0 Ao x.files,A0 Ak l]] H=some (.bool (Ug (els l) x),H):=by
 refine Ah l68 rfl (by simp[Ac,A8,Ap]) rfl ?_ H;have hn:=c8r x.files hx.1 hx.2;have h1:=b9z l hl x.origin 1;have h2:=b9z l hl x.origin 2;have h3:=c32 l hl x.id;unfold Ug;by_cases c1:1<=x.id
 ·by_cases c2:x.id<=65535
  ·cases c3:mayNodes (els x.files)with
   |false=>
     rw[c3]at hn
     simp(disch:=try exact dq)only[L4,t0,seval,if_pos,if_neg,Af,Ai,Aj,e1j,c1,c2,hn]
   |true=>
     rw[c3]at hn;by_cases c4:0<=x.quota
     ·by_cases c5:x.quota<=255
      ·by_cases c6:x.kind=1
       ·by_cases c7:x.origin=0
        ·simp(disch:=try exact dq)only[L4,t0,seval,if_pos,if_neg,Af,Ai,Aj,e1j,c1,c2,hn,c4,c5,c6,c7]
        ·cases c8:Hi (els l) x.origin 2 with
         |false=>
           rw[c8]at h2
           simp(disch:=try exact dq)only[L4,t0,seval,if_pos,if_neg,Af,Ai,Aj,e1j,c1,c2,hn,c4,c5,c6,c7,h2]
         |true=>
           rw[c8]at h2
           simp(disch:=try exact dq)only[L4,t0,seval,if_pos,if_neg,Af,Ai,Aj,e1j,c1,c2,hn,c4,c5,c6,c7,h2,h3]
       ·by_cases c7:x.kind=2
        ·by_cases c8:x.quota=0
         ·simp(disch:=try exact dq)only[L4,t0,seval,if_pos,if_neg,Af,Ai,Aj,e1j,c1,c2,hn,c4,c5,c6,c7,c8,h1]
         ·simp(disch:=try exact dq)only[L4,t0,seval,if_pos,if_neg,Af,Ai,Aj,e1j,c1,c2,hn,c4,c5,c6,c7,c8]
        ·simp(disch:=try exact dq)only[L4,t0,seval,if_pos,if_neg,Af,Ai,Aj,e1j,c1,c2,hn,c4,c5,c6,c7]
      ·simp(disch:=try exact dq)only[L4,t0,seval,if_pos,if_neg,Af,Ai,Aj,e1j,c1,c2,hn,c4,c5]
     ·simp(disch:=try exact dq)only[L4,t0,seval,if_pos,if_neg,Af,Ai,Aj,e1j,c1,c2,hn,c4]
  ·simp(disch:=try exact dq)only[L4,t0,seval,if_pos,if_neg,Af,Ai,Aj,e1j,c1,c2]
 ·simp(disch:=try exact dq)only[L4,t0,seval,if_pos,if_neg,Af,Ai,Aj,e1j,c1]
def X8(l:List Dset)(j:Nat):Int:=if j=0 then 0 else(l.getD (j-1) default).id
theorem d80(l:Sl Dset)(hl:(els l).length<=1000000)(hx:∀ x∈els l,bl9 x)(H:AH):K tab A5 A4 29 [A0 Ak l] H=some (.bool (P4 (els l)),H):=by
 refine Ah l29 rfl (by simp[Ac,A8,Ap]) rfl ?_ H
 simp(disch:=try exact dq)only[g29,t0,seval,if_pos,if_neg,Af,Ai,Aj,e1j];generalize hr:Ad _ _ _=r;refine B7 hr (els l).length
  (λj=>[A0 Ak l,.top,.int .i64 (X8 (els l) j),.top,A0 Ak l,.int .i64 (els l).length,.int .i64 j,.top,.top])
  (λj=>[]) (λj=>Q3 (els l) 0 (els l)=Q3 (els l) (X8 (els l) j) ((els l).drop j)) ?_ ?_ ?_ ?_ ?_
 ·rfl
 ·rfl
 ·simp[X8]
 ·intro j hj hI;have hj':((j:Int)<((els l).length:Int)):=om;rw[Ew hj,Q3]at hI;have hm:=c95 l hl ((els l).getD j default) (hx _ (ai0 hj));have hs:X8 (els l) (j+1)=((els l).getD j default).id:=by simp[X8]
  rw[hs];unfold P4;by_cases c1:X8 (els l) j<((els l).getD j default).id
  ·cases c2:Ug (els l) ((els l).getD j default)with
   |true=>
     rw[c2,e2a c1,e2e,e2e]at hI;rw[c2]at hm
     simp(disch:=try exact dq)only[t0,seval,Af,Ai,Aj,e1j,hj',hm,c1,Aa,Ak,e2b];exact⟨rfl,hI⟩
   |false=>
     rw[c2,e27,e29]at hI;rw[c2]at hm
     simp(disch:=try exact dq)only[t0,seval,Af,Ai,Aj,e1j,hj',hm,c1,hI,Aa,Ak,e2b]
  ·rw[e1y c1,e29,e29]at hI
   simp(disch:=try exact dq)only[t0,seval,Af,Ai,Aj,e1j,hj',c1,hI,Aa,Ak,e2b]
 ·intro hI;rw[e1h,Q3]at hI;unfold P4
  simp(disch:=try exact dq)only[t0,seval,Af,Ai,Aj,e1j,e2k,hI];rw[show decide (((els l).length:Int)<=8)=decide ((els l).length<=8)from e1e.2 om]
def A6(r:Rn):List PV:=[.int .i64 r.a,.int .i64 r.b]
def O5(r:Rn)(x:Int):Bool:=decide (r.a<=x)&&decide (x<r.b)
theorem d0m(r:Rn)(n:Int):K tab A5 A4 251 [.agg [.int .i64 r.a,.int .i64 r.b],.ptr 0 0 0 1] [some [[.int .i64 n]]]=some (.bool (O5 r n),[some [[.int .i64 n]]]):=by
 have h:Ev tab A5 A4 251 [.agg [.int .i64 r.a,.int .i64 r.b],.ptr 0 0 0 1] [some [[.int .i64 n]]]=some (.bool (O5 r n),[some [[.int .i64 n]]]):=by
  refine Cd ci9 rfl ?_;have hk:=λH=>c2w (orc:=A5) (lk:=A4) r.a r.b n H;unfold O5
  simp(disch:=try exact dq)only[a9k,t0,seval,if_pos,if_neg,Af,Ai,Aj,e1j,hk]
 simp(disch:=try exact dq)only[KQ 251 rfl,t0,seval,if_pos,if_neg,Af,Ai,Aj,e1j,An,h]
theorem cz6(l:Sl Rn)(hl:(els l).length<=1000000)(n:Int):Ev tab A5 A4 289 [A0 A6 l,.fn (.func 251) [] [.ptr 0 0 0 1]] [some [[.int .i64 n]]]=some (.int .i64 (Ee (λr=>O5 r n) (els l)),[some [[.int .i64 n]]]):=by
 refine Cd ch8 rfl ?_
 simp(disch:=try exact dq)only[a9c,t0,seval,if_pos,if_neg,Af,Ai,Aj,e1j];generalize hr:Ad _ _ _=r;refine B7 hr (els l).length (λj=>[A0 A6 l,.fn (.func 251) [] [.ptr 0 0 0 1],.top,.top,.int .i64 (els l).length,.int .i64 j,.top])
  (λj=>[some [[.int .i64 n]]]) (λj=>Ee (λr=>O5 r n) (els l)=if Ee (λr=>O5 r n) ((els l).drop j)<0 then -1 else j+Ee (λr=>O5 r n) ((els l).drop j)) ?_ ?_ ?_ ?_ ?_
 ·simp
 ·simp
 ·have:=Se (λr=>O5 r n) (els l);rw[e23];split<;>omega
 ·intro j hj hI;have hj':((j:Int)<((els l).length:Int)):=om;rw[Ew hj,Ee]at hI;have hn:=d0m ((els l).getD j default) n;have hge:=Se (λr=>O5 r n) ((els l).drop (j+1));cases hp:O5 ((els l).getD j default) n with
  |true=>
    rw[hp]at hn;simp only[hp,if_true]at hI
    simp(disch:=try exact dq)only[t0,seval,Af,Ai,Aj,e1j,hj',e2b,Aa,A6,hn];rw[if_neg om,Int.add_zero]at hI;rw[hI]
  |false=>
    rw[hp]at hn;simp only[hp,e0f,if_false]at hI
    simp(disch:=try exact dq)only[t0,seval,Af,Ai,Aj,e1j,hj',e2b,Aa,A6,hn];refine⟨rfl,?_⟩;rw[hI];generalize Ee _ (List.drop (j+1) (els l))=a at *;by_cases ha:a<0
    ·simp[ha]
    ·rw[if_neg ha,if_neg ha,if_neg om];omega
 ·intro hI;rw[e1h,Ee,if_pos om]at hI
  simp(disch:=try exact dq)only[t0,seval,Af,Ai,Aj,e1j,e2k,hI]
theorem de6(l:Sl Rn)(hl:(els l).length<=1000000)(n:Int):Ev tab A5 A4 250 [A0 A6 l,.fn (.func 251) [] [.ptr 0 0 0 1]] [some [[.int .i64 n]]]=some (.bool (B5 (els l) n),[some [[.int .i64 n]]]):=by
 have h:=cz6 l hl n;refine Cd cj0 rfl ?_;rw[show B5 (els l) n=(els l).any (λr=>O5 r n)from rfl,<-b06]
 simp(disch:=try exact dq)only[a9l,KQ 289 rfl,t0,seval,if_pos,if_neg,Af,Ai,Aj,e1j,An,h,Jf]
theorem as2(l:Sl Rn)(hl:(els l).length<=1000000)(n:Int)(H:AH):K tab A5 A4 184 [A0 A6 l,.int .i64 n] H=some (.bool (B5 (els l) n),H):=by
 refine Ah cm3 rfl (by simp[Ac,A8,Ap]) rfl ?_ H;have h:=de6 l hl n
 simp(disch:=try exact dq)only[ab2,KQ 250 rfl,t0,seval,if_pos,if_neg,Af,Ai,Aj,e1j,An,h,Jf]
def X7(l:List Rn)(j:Nat):Int:=if j=0 then -1 else(l.getD (j-1) default).b
theorem a0b(l:Sl Rn)(hl:(els l).length<=1000000)(H:AH):K tab A5 A4 182 [A0 A6 l] H=some (.bool (G6 (els l)),H):=by
 refine Ah cm5 rfl (by simp[Ac,A8,Ap]) rfl ?_ H;unfold G6
 simp(disch:=try exact dq)only[ab4,t0,seval,if_pos,if_neg,Af,Ai,Aj,e1j];generalize hr:Ad _ _ _=r;refine B7 hr (els l).length
  (λj=>[.top,.top,.int .i64 (X7 (els l) j),.top,A0 A6 l,.int .i64 (els l).length,.int .i64 j,.top,.top])
  (λj=>[]) (λj=>M1 (-1) (els l)=M1 (X7 (els l) j) ((els l).drop j)) ?_ ?_ ?_ ?_ ?_
 ·rfl
 ·rfl
 ·simp[X7]
 ·intro j hj hI;have hj':((j:Int)<((els l).length:Int)):=om;rw[Ew hj,M1]at hI;have hs:X7 (els l) (j+1)=((els l).getD j default).b:=by simp[X7]
  rw[hs];generalize X7 (els l) j=a at *;generalize hx:(els l).getD j default=x at *;by_cases c1:a<x.a
  ·by_cases c2:x.a<x.b
   ·by_cases c3:x.b<=1073741824
    ·simp(disch:=try exact dq)only[t0,seval,Af,Ai,Aj,e1j,hj',c1,c2,c3,hx,Aa,A6,e2b];refine⟨rfl,?_⟩;rw[hI,e2a c1,e2a c2,e2a c3];simp
    ·simp(disch:=try exact dq)only[t0,seval,Af,Ai,Aj,e1j,hj',c1,c2,c3,hx,Aa,A6,e2b];rw[hI];simp[c1,c2,c3]
   ·simp(disch:=try exact dq)only[t0,seval,Af,Ai,Aj,e1j,hj',c1,c2,hx,Aa,A6,e2b];rw[hI];simp[c1,c2]
  ·simp(disch:=try exact dq)only[t0,seval,Af,Ai,Aj,e1j,hj',c1,hx,Aa,A6,e2b];rw[hI];simp[c1]
 ·intro hI;rw[e1h,M1]at hI
  simp(disch:=try exact dq)only[t0,seval,Af,Ai,Aj,e1j,e2k,hI]
theorem d8s(l m:List Rn):H4 (l++m)=H4 l+H4 m:=by
 induction l with
 |nil=>simp[H4]
 |cons r l ih=>rw[e1b,H4,H4,ih];omega
def a5m(l:List Rn):Prop:=l.length<=10000/\∀ r∈l,-1000000000000<=r.a/\r.a<=1000000000000/\ -1000000000000<=r.b/\r.b<=1000000000000
theorem d8r{l:List Rn}(h:∀ r∈l,-1000000000000<=r.a/\r.a<=1000000000000/\ -1000000000000<=r.b/\r.b<=1000000000000):-(2000000000000*(l.length:Int))<=H4 l/\H4 l<=2000000000000*l.length:=by
 induction l with
 |nil=>simp[H4]
 |cons r l ih=>
   have:=ih (λx hx=>h x (by simp[hx]));have h2:=h r (by simp);rw[H4,e15];omega
def Cv(r:Rn):List AV:=[.int .i64 r.a,.int .i64 r.b]
theorem F4(l:List Rn):Cf (some (l.map Cv))=[]:=K4 l _ λ_=>rfl
theorem Iq(τ:Nat->Option Nat)(l:List Rn):Av τ (l.map Cv)=l.map Cv:=Mr τ l _ λ_=>rfl
theorem a66(l:List Rn):Ct (l.map Cv)=some (l.map A6):=Lp _ _ (λ_=>rfl) l
theorem db8(a b:Int):Ev tab A5 A4 97 [.emp,.agg [.int .i64 a,.int .i64 b]] []=some (.own 0 2 0 1 1,[some [[.int .i64 a,.int .i64 b]]]):=by
 refine Cd l97 rfl ?_
 simp(disch:=try exact dq)only[Xg,t0,seval,if_pos,if_neg,Af,Ai,Aj,e1j]
theorem a4h:∀ (m:List Rn) (q r:Rn),Cs (m++[q]) r=if q.b=r.a then m++[⟨q.a,r.b⟩]else m++[q,r]
 |[],q,r=>by
   rw[e1s,Cs];rfl
 |[x],q,r=>by
   rw[e1b,e1s,Cs,Cs];split<;>rfl
 |x::y::m,q,r=>by
   have ih:=a4h (y::m) q r;rw[e1b,e1b,Cs];rw[e1b]at ih;rw[ih];split<;>rfl
theorem bi3(l:List Rn)(hl:l≠[])(hn:l.length<=1000000)(r:Rn):Ev tab A5 A4 97 [.own 0 2 0 l.length l.length,.agg [.int .i64 r.a,.int .i64 r.b]] [some (l.map Cv)]=some (.own 0 2 0 (Cs l r).length (Cs l r).length,[some ((Cs l r).map Cv)]):=by
 refine Cd l97 rfl ?_;obtain⟨m,q,rfl⟩:∃ m q,l=m++[q]:=⟨l.dropLast,l.getLast hl,(dx1 hl).symm⟩;have hp:0<(m++[q]).length:=by simp
 have hg:((m++[q]).map Cv)[(m++[q]).length-1]?=some [.int .i64 q.a,.int .i64 q.b]:=by
  simp[Cv]
 have hs:((m++[q]).map Cv).set ((m++[q]).length-1) [.int .i64 q.a,.int .i64 r.b]=(m++[(⟨q.a,r.b⟩:Rn)]).map Cv:=by
  simp[Cv]
 have hap:(m++[q]).map Cv++[[.int .i64 r.a,.int .i64 r.b]]=(m++[q,r]).map Cv:=by simp[Cv]
 have hl1:(m++[(⟨q.a,r.b⟩:Rn)]).length=(m++[q]).length:=by simp
 have hl2:(m++[q,r]).length=(m++[q]).length+1:=by simp
 rw[a4h];have hnt:(((m++[q]).length:Int)-1).toNat=(m++[q]).length-1:=om;generalize hLL:(m++[q]).length=n at *;by_cases c:q.b=r.a
 ·simp(disch:=try exact dq)only[Xg,t0,seval,if_pos,if_neg,Af,Ai,Aj,e1j,F4,Iq,e1q,hLL,hg,hs,hap,hl1,hl2,hnt,c,e2b]
 ·simp(disch:=try exact dq)only[Xg,t0,seval,if_pos,if_neg,Af,Ai,Aj,e1j,F4,Iq,e1q,hLL,hg,hs,hap,hl1,hl2,hnt,c,e2b]
def dd(l:List Int):List Int:=l.foldl (λout x=>if out.getLast?=some x then out else out++[x]) []
theorem b1f(l:List Int)(x:Int):dd (l++[x])=if(dd l).getLast?=some x then dd l else dd l++[x]:=by
 unfold dd;rw[e12];rfl
theorem d8e:∀ (l:List Int) (x:Int),(dd (l++[x])).getLast?=some x:=by
 intro l x;rw[b1f];split
 ·assumption
 ·simp
theorem bf3{l:List Int}(h:l≠[]):(dd l).getLast?=l.getLast?:=by
 obtain⟨m,x,rfl⟩:∃ m x,l=m++[x]:=⟨l.dropLast,l.getLast h,(dx1 h).symm⟩;rw[d8e];simp
theorem ai1(l:List Int){n:Nat}(h:n<l.length)(h0:0<n):dd (l.take (n+1))=if l.getD n 0=l.getD (n-1) 0 then dd (l.take n)else dd (l.take n)++[l.getD n 0]:=by
 have e:l.take (n+1)=l.take n++[l.getD n 0]:=by
  rw[e0y,dx5,dy1 h];rfl
 rw[e,b1f,bf3 (by intro hh;have:=congrArg List.length hh;rw[e1f,e1n]at this;omega)];have:(l.take n).getLast?=some (l.getD (n-1) 0):=by
  rw[List.getLast?_eq_getElem?,e1f,Nat.min_eq_left om,List.getElem?_take,if_pos om,dx5,dy1 om];rfl
 rw[this];by_cases hc:l.getD n 0=l.getD (n-1) 0
 ·rw[if_pos hc,if_pos (by rw[hc])]
 ·rw[if_neg hc,if_neg (λhh=>hc (Option.some.inj hh).symm)]
theorem Pi(l:List Int):∀ n,n<=l.length->(dd (l.take n)).length<=n
 |0,_=>by simp[dd]
 |n+1,h=>by
   rcases e0j n with rfl|h0
   ·have:l.take 1=[]++[l.getD 0 0]:=by
     rw[e0y,dx5,dy1 om];rfl
    rw[this,b1f];simp[dd]
   ·have:=Pi l n om;rw[ai1 l om h0];split<;>simp<;>omega
def Gq(l:List Int)(n:Nat):List Int:=dd (l.take n)++l.drop (dd (l.take n)).length
theorem bf4(l:List Int){n:Nat}(h:n<=l.length):(Gq l n).length=l.length:=by
 have:=Pi l n h;simp[Gq];omega
theorem bf5(l:List Int){n i:Nat}(h:n<=l.length)(hi:(dd (l.take n)).length<=i):(Gq l n)[i]?=l[i]?:=by
 unfold Gq;rw[dx3 hi,e0g]
 congr 1;omega
theorem d8g(l:List Int){n:Nat}(h:n<l.length)(h0:0<n)(hc:l.getD n 0=l.getD (n-1) 0):Gq l (n+1)=Gq l n/\(dd (l.take (n+1))).length=(dd (l.take n)).length:=by
 unfold Gq;rw[ai1 l h h0,if_pos hc];exact⟨rfl,rfl⟩
theorem d8h(l:List Int){n:Nat}(h:n<l.length)(h0:0<n)(hc:¬ l.getD n 0=l.getD (n-1) 0):Gq l (n+1)=(Gq l n).set (dd (l.take n)).length (l.getD n 0)/\(dd (l.take (n+1))).length=(dd (l.take n)).length+1:=by
 have hw:=Pi l n om;unfold Gq;rw[ai1 l h h0,if_neg hc];refine⟨?_,by simp⟩;rw[e0l,e15,e1n,List.set_append,if_neg om,Nat.sub_self,e0x]
 congr 1
 rw[dy0 (show(dd (l.take n)).length<l.length by omega),e0o];rfl
def cI(n:Int):List AV:=[.int .i64 n]
theorem Au(l:List Int):Cf (some (l.map cI))=[]:=K4 l _ λ_=>rfl
theorem B8(τ:Nat->Option Nat)(l:List Int):Av τ (l.map cI)=l.map cI:=Mr τ l _ λ_=>rfl
theorem b0f{l:List Int}{n:Nat}(h:n<l.length):(l.map cI)[n]?=some [.int .i64 (l.getD n 0)]:=by
 rw[e0t,dx5,dy1 h];rfl
theorem b51(l:List Int)(n:Nat)(x:Int):(l.map cI).set n [.int .i64 x]=(l.set n x).map cI:=by rw[List.map_set];rfl
theorem bf9(l:List Int)(hn:l.length<=1000000):Ev tab A5 A4 96 [.own 0 1 0 l.length l.length] [some (l.map cI)]=some (.own 0 1 0 (dd l).length l.length,[some ((dd l++List.replicate (l.length-(dd l).length) 0).map cI)]):=by
 refine Cd l96 rfl ?_;by_cases h2:(l.length:Int)<2
 ·have e:dd l=l:=by
   match l,h2 with
   |[],_=>rfl
   |[x],_=>rfl
   |_::_::_,h=>simp at h;omega
  simp(disch:=try exact dq)only[g96,t0,seval,if_pos,if_neg,Af,Ai,Aj,e1j,h2,Au,B8,e1q,e,Nat.sub_self,e0b,e1t]
 ·simp(disch:=try exact dq)only[g96,t0,seval,if_pos,if_neg,Af,Ai,Aj,e1j,h2,Au,B8,e1q];generalize hr:Ad _ _ _=r;have h2':2<=l.length:=om;refine B7 hr (l.length-1)
   (λj=>[.own 0 1 0 l.length l.length,.top,.int .i64 ((j:Int)+1),.top,.top,.top,.top,.top])
   (λj=>[some (l.map cI)]) (λj=>dd (l.take (j+1))=l.take (j+1)) ?_ ?_ ?_ ?_ ?_
  ·rfl
  ·rfl
  ·rw[e0y,e26,dy1 om];rfl
  ·intro j hj hI;have hk:((j:Int)+1)<(l.length:Int):=om;have hg1:=b0f (l:=l) (n:=j+1) om;have hg0:=b0f (l:=l) (n:=j) om;have ht1:((j:Int)+1).toNat=j+1:=om;have ht0:((j:Int)+1-1).toNat=j:=om;have hst:=ai1 l (n:=j+1) om om;rw[show j+1-1=j by omega]at hst;by_cases hc:l.getD (j+1) 0=l.getD j 0
   ·simp(disch:=try exact dq)only[t0,seval,Af,Ai,Aj,e1j,hk,hg1,hg0,ht1,ht0,hc,Au,e1q,e2b,Ig,Hr,Hw,Cj,Ci,Ck];generalize hr2:Ad _ _ _=r2;have w0:dd (l.take (j+2))=l.take (j+1):=(by rw[show j+2=j+1+1 by omega,hst,if_pos hc,hI]);have a0:Gq l (j+2)=l:=by
     unfold Gq;rw[w0,e1f,Nat.min_eq_left om,dz9]
    refine G7 (Q:=λr=>Rd _ _ _ _ (F3 _ _ (Be _ _ (B0 _ (Be _ _ (B0 _ r)))))) hr2 (l.length-j-2)
     (λi=>[.own 0 1 0 l.length l.length,.top,.int .i64 (dd (l.take (j+2+i))).length,.own 0 1 (j+1) (l.length-(j+1)) l.length,.int .i64 ((i:Int)+1),.top,.top,.top])
     (λi=>[some ((Gq l (j+2+i)).map cI)]) (λi=>(dd (l.take (j+2+i))).length<=j+1+i) ?_ ?_ ?_ ?_ ?_
    ·rw[e2p,w0,e1f,Nat.min_eq_left om];rfl
    ·rw[e2p,a0]
    ·rw[e2p,w0,e1f];omega
    ·intro i hi hJ;have hm:j+2+i<l.length:=om;have hk2:((i:Int)+1)<((l.length-(j+1):Nat):Int):=om;have hA:=bf4 l (n:=j+2+i) om;have e1:=bf5 l (n:=j+2+i) (i:=j+1+(i+1)) om om;have e0:=bf5 l (n:=j+2+i) (i:=j+1+i) om om;have f1:((Gq l (j+2+i)).map cI)[j+1+(i+1)]?=some [.int .i64 (l.getD (j+2+i) 0)]:=by
      rw[e0t,e1,show j+1+(i+1)=j+2+i by omega,dx5,dy1 hm];rfl
     have f0:((Gq l (j+2+i)).map cI)[j+1+i]?=some [.int .i64 (l.getD (j+1+i) 0)]:=by
      rw[e0t,e0,dx5,dy1 om];rfl
     have hmore:=d8h l hm om;have hsame:=d8g l hm om;rw[show j+2+i-1=j+1+i by omega]at hmore hsame;have u1:((i:Int)+1).toNat=i+1:=om;have u0:((i:Int)+1-1).toNat=i:=om;have fw:=b0f (l:=Gq l (j+2+i)) (n:=(dd (l.take (j+2+i))).length) om;have uw:(((dd (l.take (j+2+i))).length:Nat):Int).toNat=(dd (l.take (j+2+i))).length:=om;rw[show j+2+(i+1)=j+2+i+1 by omega];by_cases hd:l.getD (j+2+i) 0=l.getD (j+1+i) 0
     ·obtain⟨p1,p2⟩:=hsame hd;rw[p1,p2]
      simp(disch:=try exact dq)only[t0,seval,Af,Ai,Aj,e1j,hk2,f1,f0,u1,u0,hd,hA,Au,e1q,e2b];exact⟨rfl,by omega⟩
     ·obtain⟨p1,p2⟩:=hmore hd;rw[p1,p2];generalize Gq l (j+2+i)=A at *
      generalize (dd (l.take (j+2+i))).length=w at *
      simp(disch:=try exact dq)only[t0,seval,Af,Ai,Aj,e1j,hk2,f1,f0,u1,u0,hd,hA,fw,uw,b51,Au,e1q,e2b];exact⟨rfl,by omega⟩
    ·intro hJ;rw[show j+2+(l.length-j-2)=l.length by omega,e1g]at hJ ⊢;have hA:=bf4 l (n:=l.length) om;have hAe:Gq l l.length=dd l++l.drop (dd l).length:=(by unfold Gq;rw[e1g]);have uw:(((dd l).length:Nat):Int).toNat=(dd l).length:=om;have hcl:List.take (dd l).length ((Gq l l.length).map cI)++List.replicate (l.length-(dd l).length) [AV.int .i64 0]++List.drop ((dd l).length+(l.length-(dd l).length)) ((Gq l l.length).map cI)=(dd l++List.replicate (l.length-(dd l).length) 0).map cI:=by
      rw[<-List.map_take,hAe,List.take_left',dz2 (by rw[e1q,<-hAe,hA];omega),e1t,e1w,List.map_replicate]
      ·rfl
      ·rfl
     have hcl2:((dd l++List.replicate (l.length-(dd l).length) 0).map cI).length=l.length:=by
      rw[e1q,e0l,dz7];omega
     have hw0:¬ (dd l).length=0:=by
      intro h0
      have:=bf3 (l:=l) (by intro h;rw[h]at h2';simp at h2');rw[dy4.1 h0,List.getLast?_eq_getElem?,List.getLast?_eq_getElem?,dy1 (show l.length-1<l.length by omega)]at this;simp at this
     simp(disch:=try exact dq)only[t0,seval,Af,Ai,Aj,e1j,hA,uw,hw0,Au,B8,e2b,Ig,Hr,Hw,Cj,Ci,Ck,d98,d9g,e2s,hcl,hcl2]
   ·simp(disch:=try exact dq)only[t0,seval,Af,Ai,Aj,e1j,hk,hg1,hg0,ht1,ht0,hc,Au,e1q,e2b];refine⟨rfl,?_⟩;rw[hst,if_neg hc,hI,e0y (i:=j+1),dx5,dy1 om];rfl
  ·intro hI
   simp(disch:=try exact dq)only[t0,seval,Af,Ai,Aj,e1j,e2k,Au,B8,e1q,e2b];rw[show l.length-1+1=l.length by omega,e1g]at hI;rw[hI,Nat.sub_self,e0b,e1t]
theorem ax8{n y:Int}:∀ {l:List Int},y∈Ix n l↔y=n\/y∈l
 |[]=>by simp[Ix]
 |x::l=>by
   rw[Ix];split
   ·simp
   ·rw[e2g,ax8 (l:=l),e2g];constructor
    ·rintro(h|h|h)<;>simp[h]
    ·rintro(h|h|h)<;>simp[h]
theorem ba2{n:Int}:∀ {l:List Int},l.Pairwise (·<=·)->(Ix n l).Pairwise (·<=·)
 |[],_=>by simp[Ix]
 |x::l,h=>by
   rw[Ix];rw[e0p]at h;split
   ·rename_i hn;rw[e0p];refine⟨λy hy=>?_,e0p.2 h⟩;rcases e2g.1 hy with rfl|hy
    ·exact hn
    ·exact Int.le_trans hn (h.1 y hy)
   ·rename_i hn;rw[e0p];refine⟨λy hy=>?_,ba2 h.2⟩;rcases ax8.1 hy with rfl|hy
    ·omega
    ·exact h.1 y hy
theorem ba3(n:Int):∀ l:List Int,(Ix n l).length=l.length+1
 |[]=>rfl
 |x::l=>by
   rw[Ix];split
   ·simp
   ·rw[e15,ba3 n l,e15]
theorem b4n:∀ l:List Int,(Cy l).Pairwise (·<=·)
 |[]=>List.Pairwise.nil
 |x::l=>ba2 (b4n l)
theorem b7l{y:Int}:∀ {l:List Int},y∈Cy l↔y∈l
 |[]=>Iff.rfl
 |x::l=>by
   show y∈Ix x (Cy l)↔_;rw[ax8,b7l (l:=l),e2g]
theorem Lr:∀ l:List Int,(Cy l).length=l.length
 |[]=>rfl
 |x::l=>by
   show(Ix x (Cy l)).length=_;rw[ba3,Lr l,e15]
theorem d8f(l:List Int):∀ out:List Int,out.Pairwise (· < ·)->l.Pairwise (·<=·)->(∀ x∈out,∀ y∈l,x<=y)->
 (l.foldl (λout x=>if out.getLast?=some x then out else out++[x]) out).Pairwise (· < ·)/\∀ x,x∈l.foldl (λout x=>if out.getLast?=some x then out else out++[x]) out↔x∈out\/x∈l:=by
 induction l with
 |nil=>intro out h _ _;exact⟨h,by simp⟩
 |cons a l ih=>
   intro out h hs hb;rw[e0p]at hs;rw[e1r];split
   ·rename_i he;have hm:=List.mem_of_getLast? he;obtain⟨g1,g2⟩:=ih out h hs.2 (λx hx y hy=>hb x hx y (by simp[hy]));refine⟨g1,λx=>?_⟩;rw[g2];constructor
    ·rintro(h|h)<;>simp[h]
    ·rintro(h|h)
     ·exact .inl h
     ·rcases e2g.1 h with rfl|h
      ·exact .inl hm
      ·exact .inr h
   ·rename_i he;have hlt:∀ x∈out,x<a:=by
     intro x hx;have h1:=hb x hx a (by simp);rcases Int.lt_or_eq_of_le h1 with h2|h2
     ·exact h2
     ·exfalso
      apply he;subst h2;have hne:out≠[]:=(by intro h;rw[h]at hx;simp at hx);rw[List.getLast?_eq_some_getLast hne]
      congr 1
      have h3:=hb (out.getLast hne) (List.getLast_mem hne) x (by simp);obtain⟨m,q,hq⟩:∃ m q,out=m++[q]:=⟨out.dropLast,out.getLast hne,(dx1 hne).symm⟩;have hl:out.getLast hne=q:=(by simp[hq]);rw[hl]at h3 ⊢;rw[hq]at hx h;rcases e1u.1 hx with h4|h4
      ·have:=(List.pairwise_append.1 h).2.2 x h4 q (by simp);omega
      ·simp at h4;exact h4.symm
    obtain⟨g1,g2⟩:=ih (out++[a]) (List.pairwise_append.2 ⟨h,by simp,λx hx y hy=>by simp at hy;subst hy;exact hlt x hx⟩) hs.2 (λx hx y hy=>by
     rcases e1u.1 hx with h|h
     ·exact hb x h y (by simp[hy])
     ·simp at h;subst h;exact hs.1 y hy)
    refine⟨g1,λx=>?_⟩;rw[g2,e1u,e2g];simp only[e2g,e1a,or_false];constructor
    ·rintro((h|h)|h)<;>simp[h]
    ·rintro(h|h|h)<;>simp[h]
theorem Ya(l:List Int):(dd (Cy l)).Pairwise (· < ·)/\∀ x,x∈dd (Cy l)↔x∈l:=by
 obtain⟨h1,h2⟩:=d8f (Cy l) [] List.Pairwise.nil (b4n l) (λ_ h=>by cases h);refine⟨h1,λx=>?_⟩
 have:=h2 x;rw[b7l]at this;unfold dd;rw[this];simp
def Et(l:List Rn):List Int:=l.flatMap λr=>[r.a,r.b]
theorem a3h(l m:List Rn):dd (Cy (Et (l++m)))=Eu l m:=by
 refine b4l (Ya _).1 (b1c l m) λx=>?_;rw[(Ya _).2,Ww];unfold Et;rw[List.mem_flatMap];simp
theorem Px(l:List Int):Ct (l.map cI)=some (l.map λn=>[.int .i64 n]):=Lp _ _ (λ_=>rfl) l
theorem b4m(l:List Int)(hn:l.length<=100000):Ev tab A5 A4 95 [.own 0 1 0 l.length l.length] [some (l.map cI)]=some (.tuple [],[some ((Cy l).map cI)]):=by
 refine Pt c8e ?_;rw[c6b];have e:Ul (l.map cI)=some l:=ba0 l;simp only[a0d];rw[if_pos (by simp[hn]),e];rfl
theorem d8w(l m:Sl Rn)(hn:(els l).length+(els m).length<=1000000):Ev tab A5 A4 302 [.own 0 1 0 2 2] [some [[A0 A6 l],[A0 A6 m]]]=some (.fz ((els l++els m).map A6),[some [[A0 A6 l],[A0 A6 m]]]):=by
 refine Pt c8k ?_;rw[c6h];simp only[a3k,as8,e17];rw[if_pos ⟨by simp[A6],by simpa using hn⟩,e1w]
theorem d7u(l m:Sl Rn)(hn:(els l).length+(els m).length<=10000)(H:AH):K tab A5 A4 288 [.agg [A0 A6 l,A0 A6 m]] H=some (.fz ((Eu (els l) (els m)).map λn=>[.int .i64 n]),H):=by
 refine Ah ch9 rfl (by simp[Ac,A8,Ap]) rfl ?_ H;have hc:=d8w l m om
 simp(disch:=try exact dq)only[a9d,KQ 302 rfl,t0,seval,if_pos,if_neg,Af,Ai,Aj,e1j,An,hc,Jf,e1q];generalize hr:Ad _ _ _=r;have hle:∀ L:List Rn,(Et L).length=2*L.length:=by
  intro L
  induction L with
  |nil=>rfl
  |cons r L ih=>rw[Et,List.flatMap_cons,e0l];unfold Et at ih;rw[ih,e15];simp;omega
 have hLn:(els l++els m).length=(els l).length+(els m).length:=e0l;have hed:=a3h (els l) (els m);rw[<-hLn]at hr hn;generalize els l++els m=L at *;refine B7 hr L.length
  (λj=>[.top,.top,.top,.own 2 1 0 (2*j) (2*j),.top,.fz (L.map A6),.int .i64 L.length,.int .i64 j,.top,.top,.top])
  (λj=>[some [[A0 A6 l,A0 A6 m]],some [[A0 A6 l],[A0 A6 m]],some ((Et (L.take j)).map cI)]) (λj=>True) ?_ ?_ trivial ?_ ?_
 ·rfl
 ·rfl
 ·intro j hj _;have hj':((j:Int)<(L.length:Int)):=om;have hx:=En hj;have hs:(Et (L.take (j+1))).map cI=(Et (L.take j)).map cI++[[.int .i64 (L.getD j default).a],[.int .i64 (L.getD j default).b]]:=by
   rw[hx];unfold Et;rw[List.flatMap_append,e1w];rfl
  have hl1:((Et (L.take j)).map cI).length=2*j:=by rw[e1q,hle,e1f];omega
  rw[hs];have hrA:=Au (Et (L.take j))
  generalize (Et (L.take j)).map cI=A at *
  simp(disch:=try exact dq)only[t0,seval,Af,Ai,Aj,e1j,hj',hl1,Ax,A6,hrA,e1q,e2b];rfl
 ·intro _;rw[e1g];have hl2:=hle L;have h1:=b4m (Et L) om;have h2:=bf9 (Cy (Et L)) (by rw[Lr];omega);rw[Lr]at h2;have hdl:=Pi (Cy (Et L)) (Cy (Et L)).length (e2z _);rw[e1g,Lr]at hdl;rw[hed]at h2 hdl;rw[hl2]at h1 h2 hdl;generalize Eu (els l) (els m)=E at *;have k1:(E++List.replicate (2*L.length-E.length) 0).length=2*L.length:=by rw[e0l,dz7];omega
  have k2:List.take E.length ((E++List.replicate (2*L.length-E.length) 0).map λn=>[PV.int .i64 n])=E.map λn=>[PV.int .i64 n]:=by
   rw[e1w,List.take_left' (by rw[e1q])]
  simp(disch:=try exact dq)only[KQ 95 rfl,KQ 96 rfl,t0,seval,if_pos,if_neg,Af,Ai,Aj,e1j,An,e2k,h1,h2,Jf,Au,B8,Px,e1q,hl2,Lr,k1,k2,Hk,e17,e1p]
end Go.Proofs.YtahmkkjcchnonaaGreatDoor.Abs
