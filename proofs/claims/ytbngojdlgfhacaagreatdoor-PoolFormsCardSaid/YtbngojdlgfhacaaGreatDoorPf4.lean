/-
  Part 4 of the proof: no condition. (Parts of the abstract layer, of the program's functions in its form, and of their contracts.)
-/
import Derived.Test.YtbngojdlgfhacaaGreatDoorPf3
import Derived.Shelf.Strings.Builder1
import Derived.Shelf.Strings.Builder2
import Derived.Shelf.Strings.OnBuilder
import Derived.Shelf.Small.Bits
import Derived.Shelf.Small.Strs
import Derived.Shelf.Strings.BuilderF
import Derived.Shelf.Strconv.Itoa0
import Derived.Shelf.Strconv.Itoa1
import Derived.Shelf.LaysM
import Derived.Shelf.Strconv.Itoa2
import Derived.Shelf.Strconv.Itoa3
import Derived.Shelf.Strings.Search1
import Derived.Shelf.Sort.Plain
import Derived.Shelf.Strings.Prefix
import Derived.Shelf.Bits.Mul64
import Derived.Shelf.Strings.Repeat
import Derived.Shelf.Slices.Equal
import Derived.Ground.Names2Prog
import Derived.Shelf.Slices.Clone
import Derived.Shelf.Slices.CompactI
import Derived.Shelf.Slices.SearchI
import Derived.Shelf.Slices.Cells
import Derived.Shelf.Slices.In.SortNone
import Derived.Ground.SlgnProg
import Derived.Shelf.SlicesE.Clone
import Derived.Test.YtbngojdlgfhacaaGreatDoorProg
import Derived.Test.YtbngojdlgfhacaaGreatDoorPf2
import Derived.Lib.Join
import Derived.KernelRfl
set_option maxRecDepth 100000
set_option maxHeartbeats 8000000
set_option linter.unusedSimpArgs false
set_option linter.unusedVariables false
set_option linter.unusedSectionVars false
namespace Go.Proofs.YtbngojdlgfhacaaGreatDoor.Abs
theorem c9a:∀ (k:Nat) (n m:Int),E3 k (n+m*2 ^ (8*k))=E3 k n
 |0,_,_=>rfl
 |k+1,n,m=>by
   have e:(2:Int) ^ (8*(k+1))=256*2 ^ (8*k):=(by rw[Nat.mul_add,Int.pow_add];omega);have hp:(2:Int) ^ (8*k)≠0:=Int.ne_of_gt (Int.pow_pos om);have e2:n+m*(256*2 ^ (8*k))=n+m*256*2 ^ (8*k):=(by rw[Int.mul_assoc]);rw[E3,E3,e,e2,c9a k n (m*256),Int.add_mul_ediv_right _ _ hp,Int.add_mul_emod_self_right]
theorem c99:∀ b:Bytes,E3 b.length (B4 b)=b
 |[]=>rfl
 |x::b=>by
   have hp:(0:Int)<2 ^ (8*b.length):=Int.pow_pos om;have h0:=Rb b;have h1:=Zk b;have hx:=x.toNat_lt;have e:(B4 b+x.toNat*2 ^ (8*b.length))/2 ^ (8*b.length)=(x.toNat:Int):=by
    rw[Int.add_mul_ediv_right _ _ (Int.ne_of_gt hp),Int.ediv_eq_zero_of_lt h0 h1,Int.zero_add]
   rw[e5w,E3,at1,Int.add_comm,e,c9a,c99 b]
   congr 1
   have:(((x.toNat:Int)%256).toNat)=x.toNat:=om;rw[this];simp
theorem bk4:∀ (ks:List Nat) (s:Bytes),ks.sum<=s.length->B5 ks (B0 ks s)=s.take ks.sum
 |[],s,_=>by simp[B0,B5]
 |k::ks,s,h=>by
   rw[e7b]at h;have hk:(s.take k).length=k:=(by rw[e67];omega);have e:=c99 (s.take k);rw[hk]at e;rw[B0,B5,e,bk4 ks (s.drop k) (by rw[e60];omega),e7b,List.take_add]
theorem b5y(b:Bytes)(n:Nat)(h:b.length<=n):B4 b<2 ^ (8*n):=by
 refine Int.lt_of_lt_of_le (Zk b) ?_;have:(2:Nat) ^ (8*b.length)<=2 ^ (8*n):=Nat.pow_le_pow_right om om
 exact_mod_cast this
theorem a7o(n:Int)(h0:0<=n)(h1:n<4294967296):(((UInt32.ofNat n.toNat).toNat:Nat):Int)=n:=by
 rw[UInt32.toNat_ofNat'];omega
theorem d32(s:Bytes)(h:22<=s.length):Eu (Er (B0 Dl s))=s.take 22:=by
 have e:=bk4 Dl s h;have u:∀ b:Bytes,b.length<=4->0<=B4 b/\B4 b<4294967296:=λb hb=>⟨Rb b,b5y b 4 hb⟩;rw[<-show Dl.sum=22 from rfl,<-e];unfold Eu
 congr 1
 simp only[Dl,B0,Er,a3v];rw[a7o _ (u _ (by simp[e67];omega)).1 (u _ (by simp[e67];omega)).2,a7o _ (u _ (by simp[e67];omega)).1 (u _ (by simp[e67];omega)).2,a7o _ (u _ (by simp[e67];omega)).1 (u _ (by simp[e67];omega)).2,a7o _ (u _ (by simp[e67];omega)).1 (u _ (by simp[e67];omega)).2]
theorem d0j{s:Bytes}{p:Ptr}{r:Bytes}(h:Ui s=some (p,r)):s=Eu p++r/\Ct p=true:=by
 unfold Ui at h;split at h
 ·rename_i hc;cases h;exact⟨by rw[d32 s hc.1,e4p],hc.2⟩
 ·cases h
theorem a35:∀ {n:Nat} {s:Bytes} {l:List Ptr} {r:Bytes},Fm n s=some (l,r)->s=(l.map Eu).flatten++r/\l.all Ct=true/\l.length=n
 |0,s,l,r,h=>by cases h;exact⟨rfl,rfl,rfl⟩
 |n+1,s,l,r,h=>by
   rw[Fm]at h;split at h
   ·rename_i p t hp;split at h
    ·rename_i l' t' hl;cases h;obtain⟨h1,h2⟩:=d0j hp;obtain⟨h3,h4,h5⟩:=a35 hl;refine⟨?_,?_,by simp[h5]⟩
     ·rw[h1,h3];simp
     ·simp[h2,h4]
    ·cases h
   ·cases h
theorem a8x{l:List Ptr}(h:l.all Ct=true):Et l=(l.map Eu).flatten:=if_pos h
theorem au7{s:Bytes}{l:List Ptr}(h:Wt s=some l):l.length=8/\l.all Ct=true/\s=Ro l:=by
 unfold Wt at h;split at h
 ·rename_i l' he;cases h;obtain⟨h1,h2,h3⟩:=a35 he;refine⟨h3,h2,?_⟩;rw[Ro,if_pos h3,a8x h2,h1,e6l]
 ·cases h
theorem d0m{s:Bytes}{x:NodeH}{size:Int}{l:List Ptr}(h:Sm s=some (x,size,l)):Np x size l=s:=by
 unfold Sm at h;split at h
 ·split at h
  ·cases h
  ·split at h
   ·split at h
    ·split at h
     ·rename_i he;cases h;exact he
     ·cases h
    ·cases h
   ·cases h
 ·cases h
theorem d07{s:Bytes}{l:List DsetH}{p:List Ptr}(h:Rf s=some (l,p)):J1 l p=s:=by
 unfold Rf at h;split at h
 ·split at h
  ·split at h
   ·rename_i he;cases h;exact he
   ·cases h
  ·cases h
 ·cases h
def a0a(c:UInt8):Bool:=decide (97<=c.toNat/\c.toNat<=122)||decide (48<=c.toNat/\c.toNat<=57)||decide (c.toNat=46)||decide (c.toNat=95)||decide (c.toNat=45)
def mayName(s:Bytes):Bool:=s.all a0a&&decide (1<=s.length)&&decide (s.length<=8)&&!decide (s=[46])&&!decide (s=[46,46])
def foldN:Node:=⟨2,0,[],[],0⟩
def lostN:Node:=⟨3,0,[],[],0⟩
def Dt(s:List Node)(n:Int):Node:=s.getD n.toNat default
def Te(s:List Node)(n:Int):Bool:=decide (0<=n)&&decide (n<s.length)&&decide ((Dt s n).kind=2)
def folderT(s:List Node)(n:Int):Bool:=decide (0<=n)&&decide (n<s.length)&&(decide ((Dt s n).kind=2)||decide ((Dt s n).kind=3))
def Il(s:List Node)(x:Node):Bool:=decide (x.bad=0)&&mayName x.name&&Te s x.up&&(if x.kind=1 then decide (x.body.length<=128)else decide (x.kind=2)&&decide (x.body=[]))
def Li(s:List Node):Nat->Int->Bool
 |0,_=>false
 |k+1,n=>if n=0 then true else Li s k (Dt s n).up
def Pv(s:List Node)(n:Int):Bool:=(List.range s.length).any λi=>decide (0<i)&&!decide ((i:Int)=n)&&!decide ((s.getD i default).kind=0)&&decide ((s.getD i default).up=(Dt s n).up)&&decide ((s.getD i default).name=(Dt s n).name)
def mayNodes(s:List Node):Bool:=decide (s.length=8)&&decide (s.getD 0 default=foldN)&&((s.drop 1).all λx=>decide (x=node0)||Il s x) &&
 (List.range s.length).all λn=>decide (n=0)||decide ((s.getD n default).kind=0)||(Li s s.length n&&!Pv s n)
def a5z(s:List Node):Nat->Int->Int
 |0,a=>a
 |k+1,a=>if 0<a/\a<s.length then a5z s k (Dt s a).up else a
def a9m(x:Node):Bool:=(decide (x.kind=1)&&decide (0<=x.bad)&&decide (x.bad<=15))||(decide (x.kind=2)&&decide (x.bad=0)&&decide (x.body=[]))
def a5g(s:List Node)(i:Nat):Bool:=(List.range i).all λk=>decide (k=0)||decide ((s.getD k default).kind=0)||decide ((s.getD k default).kind=3)||!decide ((s.getD k default).up=(s.getD i default).up)||!decide ((s.getD k default).name=(s.getD i default).name)
def Zn(s:List Node)(i:Nat):Bool:=
 if(s.getD i default).kind=0 then decide (s.getD i default=node0)else
 if(s.getD i default).kind=3 then decide (s.getD i default=lostN)else
 a9m (s.getD i default)&&mayName (s.getD i default).name&&folderT s (s.getD i default).up&&decide ((s.getD i default).body.length<=128)&&a5g s i&&decide (a5z s s.length i=0)
def Zm(s:List Node):Bool:=decide (s.length=8)&&decide (s.getD 0 default=foldN)&&(List.range s.length).all λi=>decide (i=0)||Zn s i
def Dz(n:Nat):Bytes:=[UInt8.ofNat (48+n)]
def Rk(names:List Bytes):Nat->Nat->Nat
 |0,k=>k
 |f+1,k=>if names.contains (Dz k)then Rk names f (k+1)else k
def Gn(s:List Node):Nat:=Rk (s.map (·.name)) 9 0
def T1(m:List Node)(n:Nat):List Node:=
 if(m.getD n default).kind=1/\0<(m.getD n default).bad/\(m.getD n default).bad<=15 then m.set n { m.getD n default with bad:=0 }
 else if m.getD n default=lostN/\0<n then m.set n ⟨2,0,Dz (Gn m),[],0⟩else m
def D6(s:List Node):Nat->List Node
 |0=>s
 |n+1=>T1 (D6 s n) n
def Cs(s:List Node):List Node:=D6 s s.length
theorem d6b(m:List Node)(n:Nat):(T1 m n).length=m.length:=by
 unfold T1;split
 ·simp
 ·split<;>simp
theorem Qj(s:List Node):∀ n,(D6 s n).length=s.length
 |0=>rfl
 |n+1=>by rw[D6,d6b,Qj s n]
theorem bs9(m:List Node){n i:Nat}(h:i≠n):(T1 m n).getD i default=m.getD i default:=by
 have e:∀ x,(m.set n x).getD i default=m.getD i default:=by
  intro x;simp only[e42,List.getElem?_set_ne (Ne.symm h)]
 unfold T1;split
 ·exact e _
 ·split
  ·exact e _
  ·rfl
theorem d6c(m:List Node){n:Nat}(h:n<m.length):(T1 m n).getD n default =
 if(m.getD n default).kind=1/\0<(m.getD n default).bad/\(m.getD n default).bad<=15 then { m.getD n default with bad:=0 }
 else if m.getD n default=lostN/\0<n then⟨2,0,Dz (Gn m),[],0⟩else m.getD n default:=by
 have e:∀ x,(m.set n x).getD n default=x:=by
  intro x;simp only[e42,List.getElem?_set_self h,e5u]
 unfold T1;split
 ·exact e _
 ·split
  ·exact e _
  ·rfl
theorem b0g(s:List Node):∀ (n i:Nat),n<=i->(D6 s n).getD i default=s.getD i default
 |0,_,_=>rfl
 |n+1,i,h=>by rw[D6,bs9 _ om,b0g s n i om]
theorem a0d(s:List Node):∀ (n i:Nat),i<n->(D6 s n).getD i default=(D6 s (i+1)).getD i default
 |0,_,h=>absurd h (e6r _)
 |n+1,i,h=>by
   rcases e7h i n with h'|h'
   ·rw[D6,bs9 _ om,a0d s n i h']
   ·have:i=n:=om;subst this;rfl
theorem T0(s:List Node){i:Nat}(h:i<s.length):(Cs s).getD i default =
 if(s.getD i default).kind=1/\0<(s.getD i default).bad/\(s.getD i default).bad<=15 then { s.getD i default with bad:=0 }
 else if s.getD i default=lostN/\0<i then⟨2,0,Dz (Gn (D6 s i)),[],0⟩else s.getD i default:=by
 rw[Cs,a0d s s.length i h,D6,d6c _ (by rw[Qj];exact h),b0g s i i (e7y i)]
theorem b9f(names:List Bytes):∀ f k,Rk names f k<=k+f
 |0,k=>e7y k
 |f+1,k=>by
   rw[Rk];split
   ·have:=b9f names f (k+1);omega
   ·omega
theorem aw3(names:List Bytes):∀ f k,(∀ j,k<=j->j<Rk names f k->Dz j∈names)/\(Rk names f k<k+f->Dz (Rk names f k)∉names)
 |0,k=>⟨λj h1 h2=>by rw[Rk]at h2;omega,λh=>by rw[Rk]at h;omega⟩
 |f+1,k=>by
   rw[Rk];split
   ·rename_i hc;obtain⟨h1,h2⟩:=aw3 names f (k+1);refine⟨λj hk hj=>?_,λh=>h2 om⟩;rcases e7h k j with h|h
    ·exact h1 j om hj
    ·have:j=k:=om;subst this;simpa using hc
   ·rename_i hc;exact⟨λj h1 h2=>by omega,λ_=>by simpa using hc⟩
theorem d60{l m:List Bytes}(hn:l.Nodup)(hs:∀ x∈l,x∈m):l.length<=m.length:=by
 induction l generalizing m with
 |nil=>exact e7w _
 |cons x l ih=>
   rw[List.nodup_cons]at hn;have hx:x∈m:=hs x (e5a ..);have h:=ih (m:=m.erase x) hn.2 (λy hy=>by
    have hne:y≠x:=λe=>hn.1 (e▸hy)
    exact(List.mem_erase_of_ne hne).2 (hs y (e4u _ hy)))
   rw[List.length_erase_of_mem hx]at h
   have:=List.length_pos_of_mem hx;rw[e5w];omega
theorem a83(m:List Node)(h:m.length<=8):Gn m<=8/\Dz (Gn m)∉m.map (·.name):=by
 have h1:=aw3 (m.map (·.name)) 9 0;have hlt:Gn m<9:=by
  rcases e7h (Gn m) 9 with h'|h'
  ·exact h'
  ·exfalso
   have hnd:((List.range 9).map Dz).Nodup:=by decide
   have:=d60 hnd (m:=m.map (·.name)) (λx hx=>by
    obtain⟨j,hj,rfl⟩:=e7o.1 hx;exact h1.1 j (e7w _) (Nat.lt_of_lt_of_le (e6x.1 hj) h'))
   simp at this;omega
 exact⟨by omega,h1.2 (by show Gn m<0+9;omega)⟩
theorem e0s{n:Nat}(h:n<=8):mayName (Dz n)=true:=by
 have:∀ n,n<9->mayName (Dz n)=true:=by decide
 exact this n om
theorem b14{s:List Node}{i:Nat}(h:i<s.length):s.getD i default∈s:=by
 rw[e42,e47 h];exact e63 h
theorem bs6(s:List Node)(h8:s.length=8){i j:Nat}(hi:i<8)(hj:j<8)(hij:i≠j)(hl:s.getD i default=lostN)(h0:0<i):((Cs s).getD j default).name≠((Cs s).getD i default).name:=by
 have hk:¬ ((s.getD i default).kind=1/\0<(s.getD i default).bad/\(s.getD i default).bad<=15):=by rw[hl];simp[lostN]
 have ei:((Cs s).getD i default).name=Dz (Gn (D6 s i)):=by
  rw[T0 s om,if_neg hk,if_pos ⟨hl,h0⟩]
 have sp:=a83 (D6 s i) (by rw[Qj];omega);rcases e7h j i with h|h
 ·rw[ei,Cs,a0d s s.length j om,<-a0d s i j h];intro e;exact sp.2 (e▸e7o.2 ⟨_,b14 (by rw[Qj];omega),rfl⟩)
 ·have hji:i<j:=om;by_cases hjl:s.getD j default=lostN
  ·have hkj:¬ ((s.getD j default).kind=1/\0<(s.getD j default).bad/\(s.getD j default).bad<=15):=(by rw[hjl];simp[lostN]);have ej:((Cs s).getD j default).name=Dz (Gn (D6 s j)):=by
    rw[T0 s om,if_neg hkj,if_pos ⟨hjl,by omega⟩]
   have spj:=a83 (D6 s j) (by rw[Qj];omega);rw[ej];intro e;refine spj.2 (e▸e7o.2 ⟨(D6 s j).getD i default,b14 (by rw[Qj];omega),?_⟩);rw[a0d s j i hji,<-a0d s s.length i om];rfl
  ·have ej:((Cs s).getD j default).name=(s.getD j default).name:=by
    rw[T0 s om];split
    ·rfl
    ·rw[if_neg (λh=>hjl h.1)]
   rw[ei,ej];intro e;refine sp.2 (e▸e7o.2 ⟨(D6 s i).getD j default,b14 (by rw[Qj];omega),?_⟩);rw[b0g s i j h]
section
theorem d3i:∀ (n:Nat) (f:Nat->Nat),(∀ i,i<=n->f i<n)->∃ a b,a<b/\b<=n/\f a=f b:=by
 intro n f h;refine e45 λhx=>?_;have hinj:∀ a b,a<b->b<=n->f a≠f b:=λa b h1 h2 e=>hx ⟨a,b,h1,h2,e⟩;have hnd:((List.range (n+1)).map f).Nodup:=by
  rw[List.nodup_iff_pairwise_ne,List.pairwise_map];refine List.Pairwise.imp_of_mem ?_ (List.pairwise_lt_range (n:=n+1));intro a b ha hb hab;exact hinj a b hab (by have:=e6x.1 hb;omega)
 have hle:∀ {l m:List Nat},l.Nodup->(∀ x∈l,x∈m)->l.length<=m.length:=by
  intro l
  induction l with
  |nil=>intro m _ _;exact e7w _
  |cons x l ih=>
    intro m hn hs;rw[List.nodup_cons]at hn;have hx:x∈m:=hs x (e5a ..);have h:=ih (m:=m.erase x) hn.2 (λy hy=>by
     have hne:y≠x:=λe=>hn.1 (e▸hy)
     exact(List.mem_erase_of_ne hne).2 (hs y (e4u _ hy)))
    rw[List.length_erase_of_mem hx]at h
    have:=List.length_pos_of_mem hx;rw[e5w];omega
 have:=hle hnd (m:=List.range n) (λx hx=>by
  obtain⟨j,hj,rfl⟩:=e7o.1 hx;exact e6x.2 (h j (by have:=e6x.1 hj;omega)))
 simp at this;omega
def upIt(s:List Node):Nat->Int->Int
 |0,a=>a
 |t+1,a=>upIt s t (Dt s a).up
theorem a7n(s:List Node):∀ (a b:Nat) (n:Int),upIt s (a+b) n=upIt s b (upIt s a n)
 |0,b,n=>by rw[e7p];rfl
 |a+1,b,n=>by rw[show a+1+b=(a+b)+1 by omega,upIt,a7n s a b];rfl
theorem a9h(s:List Node):∀ (k:Nat) (n:Int),Li s k n=true↔∃ t,t<k/\upIt s t n=0
 |0,n=>by simp[Li]
 |k+1,n=>by
   rw[Li];split
   ·rename_i h;exact⟨λ_=>⟨0,by omega,h⟩,λ_=>rfl⟩
   ·rename_i h;rw[a9h s k];constructor
    ·rintro⟨t,h1,h2⟩;exact⟨t+1,by omega,h2⟩
    ·rintro⟨t,h1,h2⟩;cases t with
     |zero=>exact absurd h2 h
     |succ t=>exact⟨t,by omega,h2⟩
theorem b2k(s:List Node):∀ (k:Nat) (a:Int),(∀ t,0<=upIt s t a/\upIt s t a<s.length)->(a5z s k a=0↔∃ t,t<=k/\upIt s t a=0)
 |0,a,_=>by
   constructor
   ·intro h;exact⟨0,by omega,h⟩
   ·rintro⟨t,h1,h2⟩;have:t=0:=om;subst this;exact h2
 |k+1,a,hg=>by
   have h0:=hg 0;simp only[upIt]at h0;rw[a5z];split
   ·rename_i h;rw[b2k s k _ (λt=>hg (t+1))];constructor
    ·rintro⟨t,h1,h2⟩;exact⟨t+1,by omega,h2⟩
    ·rintro⟨t,h1,h2⟩;cases t with
     |zero=>simp only[upIt]at h2;omega
     |succ t=>exact⟨t,by omega,h2⟩
   ·rename_i h;have:a=0:=om;exact⟨λ_=>⟨0,by omega,this⟩,λ_=>this⟩
theorem d6x(s:List Node)(h8:s.length=8){a:Int}(hg:∀ t,0<=upIt s t a/\upIt s t a<s.length)(h:∃ t,t<=8/\upIt s t a=0):∃ t,t<8/\upIt s t a=0:=by
 obtain⟨t,ht,he⟩:=h;rcases e7h t 8 with h'|h'
 ·exact⟨t,h',he⟩
 ·have:t=8:=om;subst this;refine e45 λhx=>?_;have hpos:∀ t,t<8->0<upIt s t a:=by
   intro t ht;have h1:=(hg t).1;have h2:upIt s t a≠0:=λe=>hx ⟨t,ht,e⟩;omega
  obtain⟨p,q,h1,h2,h3⟩:=d3i 7 (λt=>(upIt s t a).toNat-1) (λt ht=>by
   have h1:=hpos t om;have h2:=(hg t).2
   show(upIt s t a).toNat-1<7;omega)
  have hp:=hpos p om;have hq:=hpos q om;have e:upIt s p a=upIt s q a:=om;have e2:upIt s (p+(8-q)) a=upIt s (q+(8-q)) a:=by rw[a7n,a7n,e]
  rw[show q+(8-q)=8 by omega,he]at e2;exact hx ⟨p+(8-q),by omega,e2⟩
section
variable (s:List Node)
theorem Rw:(Cs s).length=s.length:=Qj s _
theorem d69(a:Int):(Dt (Cs s) a).up=(Dt s a).up:=by
 unfold Dt;rcases e7h a.toNat s.length with h|h
 ·rw[T0 s h];split
  ·rfl
  ·split
   ·rename_i h2;rw[h2.1];rfl
   ·rfl
 ·rw[e42,e42,e4j h,e4j (by rw[Rw];exact h)]
theorem a9a:∀ (t:Nat) (a:Int),upIt (Cs s) t a=upIt s t a
 |0,_=>rfl
 |t+1,a=>by rw[upIt,upIt,d69,a9a t]
theorem Qi{i:Nat}(h:i<s.length)(h1:(s.getD i default).kind≠1)(h3:¬ (s.getD i default=lostN/\0<i)):(Cs s).getD i default=s.getD i default:=by
 rw[T0 s h,if_neg (λh=>h1 h.1),if_neg h3]
theorem a42{i:Nat}(h:i<s.length)(h1:(s.getD i default).kind=1):(Cs s).getD i default={ s.getD i default with bad:=if 0<=(s.getD i default).bad/\(s.getD i default).bad<=15 then 0 else(s.getD i default).bad }:=by
 rw[T0 s h];split
 ·rename_i hc;rw[if_pos ⟨by omega,hc.2.2⟩]
 ·rename_i hc;have h3:¬ (s.getD i default=lostN/\0<i):=by rintro⟨e,_⟩;rw[e]at h1;simp[lostN]at h1
  rw[if_neg h3];split
  ·have:(s.getD i default).bad=0:=by
    refine e45 λhb=>hc ⟨h1,by omega,by omega⟩
   generalize s.getD i default=x at *;obtain⟨a,b,c,d,e⟩:=x;simp only at this;rw[this]
  ·rfl
theorem bs7{i:Nat}(h:i<s.length)(h0:0<i)(hl:s.getD i default=lostN):∃ k,k<=8+s.length/\(Cs s).getD i default=⟨2,0,Dz k,[],0⟩:=by
 rw[T0 s h,if_neg (by rw[hl];simp[lostN]),if_pos ⟨hl,h0⟩];exact⟨_,by
  have:=b9f ((D6 s i).map (·.name)) 9 0;unfold Gn;omega,rfl⟩
end
structure NodeOk(s:List Node)(i:Nat):Prop where
 kind:(s.getD i default).kind=1/\0<=(s.getD i default).bad/\(s.getD i default).bad<=15\/(s.getD i default).kind=2/\(s.getD i default).bad=0/\(s.getD i default).body=[]
 name:mayName (s.getD i default).name=true
 up:folderT s (s.getD i default).up=true
 body:(s.getD i default).body.length<=128
 free:∀ k,0<k->k<8->k≠i->(s.getD k default).kind≠0->(s.getD k default).kind≠3->¬ ((s.getD k default).up=(s.getD i default).up/\(s.getD k default).name=(s.getD i default).name)
 leads:∃ t,t<8/\upIt s t i=0
structure TornOk(s:List Node):Prop where
 len:s.length=8
 top:s.getD 0 default=foldN
 none':∀ i,0<i->i<8->(s.getD i default).kind=0->s.getD i default=node0
 lost:∀ i,0<i->i<8->(s.getD i default).kind=3->s.getD i default=lostN
 node:∀ i,0<i->i<8->(s.getD i default).kind≠0->(s.getD i default).kind≠3->NodeOk s i
theorem b1j{s:List Node}{n:Int}:folderT s n=true↔0<=n/\n<s.length/\((Dt s n).kind=2\/(Dt s n).kind=3):=by
 simp only[folderT,e5v,e6n,e5h];omega
theorem b1k{s:List Node}{n:Int}:Te s n=true↔0<=n/\n<s.length/\(Dt s n).kind=2:=by
 simp only[Te,e5v,e5h];omega
theorem a62{s:List Node}(h8:s.length=8)(htop:s.getD 0 default=foldN)(hup:∀ i,0<i->i<8->(s.getD i default).kind≠0->(s.getD i default).kind=3/\(s.getD i default).up=0\/folderT s (s.getD i default).up=true) :
 ∀ (t:Nat) (a:Int),0<=a->a<s.length->(Dt s a).kind≠0->0<=upIt s t a/\upIt s t a<s.length
 |0,a,h0,h1,_=>⟨h0,h1⟩
 |t+1,a,h0,h1,h2=>by
   have top2:(Dt s 0).kind=2:=(by show(s.getD 0 default).kind=2;rw[htop];rfl);rw[upIt];by_cases ha:a=0
   ·subst ha;have:(Dt s 0).up=0:=(by show(s.getD 0 default).up=0;rw[htop];rfl);rw[this];exact a62 h8 htop hup t 0 om om (by rw[top2];decide)
   ·rcases hup a.toNat om om h2 with ⟨_,h⟩|h
    ·rw[show(Dt s a).up=0 from h];exact a62 h8 htop hup t 0 om om (by rw[top2];decide)
    ·obtain⟨g1,g2,g3⟩:=b1j.1 h;exact a62 h8 htop hup t _ g1 g2 (by
      show(Dt s (s.getD a.toNat default).up).kind≠0;rcases g3 with h|h<;>rw[h]<;>decide)
theorem cz6(s:List Node):Zm s=true↔TornOk s:=by
 unfold Zm;simp only[e5v,e5h,e5x,e6x,e6n];constructor
 ·rintro⟨⟨h8,htop⟩,hall⟩;have at':∀ i,0<i->i<8->Zn s i=true:=λi h0 h1=>by
   rcases hall i om with h|h
   ·omega
   ·exact h
  have none':∀ i,0<i->i<8->(s.getD i default).kind=0->s.getD i default=node0:=λi h0 h1 hk=>by
   have:=at' i h0 h1;rw[Zn,if_pos hk]at this;exact e5t this
  have lost:∀ i,0<i->i<8->(s.getD i default).kind=3->s.getD i default=lostN:=λi h0 h1 hk=>by
   have:=at' i h0 h1;rw[Zn,if_neg (by rw[hk];decide),if_pos hk]at this;exact e5t this
  have full:∀ i,0<i->i<8->(s.getD i default).kind≠0->(s.getD i default).kind≠3->(a9m (s.getD i default)&&mayName (s.getD i default).name&&folderT s (s.getD i default).up&&decide ((s.getD i default).body.length<=128)&&a5g s i&&decide (a5z s s.length i=0))=true:=λi h0 h1 hk h3=>by
   have:=at' i h0 h1;rw[Zn,if_neg hk,if_neg h3]at this;exact this
  have hup:∀ i,0<i->i<8->(s.getD i default).kind≠0->(s.getD i default).kind=3/\(s.getD i default).up=0\/folderT s (s.getD i default).up=true:=λi h0 h1 hk=>by
   by_cases h3:(s.getD i default).kind=3
   ·exact .inl ⟨h3,by rw[lost i h0 h1 h3];rfl⟩
   ·have:=full i h0 h1 hk h3;simp only[e5v]at this;exact .inr this.1.1.1.2
  have ch:=a62 h8 htop hup;refine⟨h8,htop,none',lost,λi h0 h1 hk h3=>?_⟩;have hf:=full i h0 h1 hk h3;simp only[e5v,e5h]at hf;obtain⟨⟨⟨⟨⟨f1,f2⟩,f3⟩,f4⟩,f5⟩,f6⟩:=hf;have fr:∀ a b,0<a->a<b->b<8->a5g s b=true->(s.getD a default).kind≠0->(s.getD a default).kind≠3->¬ ((s.getD a default).up=(s.getD b default).up/\(s.getD a default).name=(s.getD b default).name):=by
   intro a b ha hab hb hfb k0 k3 he;rw[a5g,e5x]at hfb
   have:=hfb a (e6x.2 hab);simp only[e6n,e5h,e5n,e4d]at this;rcases this with (((h|h)|h)|h)|h
   ·omega
   ·exact k0 h
   ·exact k3 h
   ·exact h he.1
   ·exact h he.2
  refine⟨?_,f2,f3,f4,?_,?_⟩
  ·simp only[a9m,e6n,e5v,e5h]at f1;rcases f1 with ⟨⟨a,b⟩,c⟩|⟨⟨a,b⟩,c⟩
   ·exact .inl ⟨a,b,c⟩
   ·exact .inr ⟨a,b,c⟩
  ·intro k hk0 hk8 hki kk0 kk3 he;rcases e7h k i with h|h
   ·exact fr k i hk0 h h1 f5 kk0 kk3 he
   ·have hkf:=full k hk0 hk8 kk0 kk3;simp only[e5v]at hkf;exact fr i k h0 om hk8 hkf.1.2 hk h3 ⟨he.1.symm,he.2.symm⟩
  ·have hg:∀ t,0<=upIt s t i/\upIt s t i<s.length:=λt=>ch t i om om hk;rw[b2k s _ _ hg,h8]at f6;exact d6x s h8 hg f6
 ·intro h;refine⟨⟨h.len,h.top⟩,λi hi=>?_⟩;have h8:=h.len;by_cases h0:i=0
  ·exact .inl h0
  ·refine .inr ?_;unfold Zn;by_cases hk:(s.getD i default).kind=0
   ·rw[if_pos hk];exact e73 (h.none' i om om hk)
   ·rw[if_neg hk];by_cases h3:(s.getD i default).kind=3
    ·rw[if_pos h3];exact e73 (h.lost i om om h3)
    ·rw[if_neg h3];have ho:=h.node i om om hk h3;have hup:∀ i,0<i->i<8->(s.getD i default).kind≠0->(s.getD i default).kind=3/\(s.getD i default).up=0\/folderT s (s.getD i default).up=true:=λi h0 h1 hk=>by
      by_cases h3:(s.getD i default).kind=3
      ·exact .inl ⟨h3,by rw[h.lost i h0 h1 h3];rfl⟩
      ·exact .inr (h.node i h0 h1 hk h3).up
     have hg:∀ t,0<=upIt s t i/\upIt s t i<s.length:=λt=>a62 h8 h.top hup t i om om hk;simp only[e5v,e5h];refine⟨⟨⟨⟨⟨?_,ho.name⟩,ho.up⟩,ho.body⟩,?_⟩,?_⟩
     ·simp only[a9m,e6n,e5v,e5h];rcases ho.kind with ⟨a,b,c⟩|⟨a,b,c⟩
      ·exact .inl ⟨⟨a,b⟩,c⟩
      ·exact .inr ⟨⟨a,b⟩,c⟩
     ·rw[a5g,e5x];intro k hk';have hki:=e6x.1 hk';simp only[e6n,e5h,e5n,e4d];refine e45 λhx=>?_;simp only[not_or,Decidable.not_not]at hx;exact ho.free k om om om hx.1.1.1.2 hx.1.1.2 ⟨hx.1.2,hx.2⟩
     ·rw[b2k s _ _ hg,h8];obtain⟨t,h1,h2⟩:=ho.leads;exact⟨t,by omega,h2⟩
theorem d6k(s:List Node):mayNodes (Cs s)=true↔TornOk s:=by
 unfold mayNodes;simp only[e5v,e5h,e5x,e6x,e6n,Rw];have drop1:∀ (P:Node->Prop),s.length=8->((∀ x∈(Cs s).drop 1,P x)↔∀ i,0<i->i<8->P ((Cs s).getD i default)):=by
  intro P h8;have hl:=Rw s;constructor
  ·intro h i h0 h1;refine h _ ?_;rw[e4l];refine⟨i-1,?_⟩;rw[e53,show 1+(i-1)=i by omega,e42,e47 om];rfl
  ·intro h x hx;obtain⟨j,hj⟩:=e4l.1 hx;rw[e53]at hj;have hlt:1+j<(Cs s).length:=by
    rcases e7h (1+j) (Cs s).length with h'|h'
    ·exact h'
    ·rw[e4j h']at hj;cases hj
   have:=h (1+j) om om;rw[e42,hj]at this;exact this
 have m0:s.length=8->((Cs s).getD 0 default=foldN↔s.getD 0 default=foldN):=by
  intro h8;by_cases hk:(s.getD 0 default).kind=1
  ·rw[a42 s om hk];constructor
   ·intro h;have:=congrArg Node.kind h;simp only[foldN]at this;omega
   ·intro h;rw[h]at hk;simp[foldN]at hk
  ·rw[Qi s om hk om]
 constructor
 ·rintro⟨⟨⟨h8,htop⟩,hal⟩,hrest⟩;rw[drop1 _ h8]at hal;rw[m0 h8]at htop;have hmtop:(Cs s).getD 0 default=foldN:=(m0 h8).2 htop;have none':∀ i,0<i->i<8->(s.getD i default).kind=0->s.getD i default=node0:=λi h0 h1 hk=>by
   have e:=Qi s (i:=i) om (by rw[hk];decide) (by rintro⟨h,_⟩;rw[h]at hk;simp[lostN]at hk);rcases hal i h0 h1 with h|h
   ·rw[<-e];exact h
   ·rw[e,Il,if_neg (by rw[hk];decide)]at h;simp only[e5v,e5h]at h
    have:=h.2.1;omega
  have lost:∀ i,0<i->i<8->(s.getD i default).kind=3->s.getD i default=lostN:=λi h0 h1 hk=>by
   refine e45 λhne=>?_;have e:=Qi s (i:=i) om (by rw[hk];decide) (λh=>hne h.1);rcases hal i h0 h1 with h|h
   ·rw[e]at h;rw[h]at hk;simp[node0]at hk
   ·rw[e,Il,if_neg (by rw[hk];decide)]at h;simp only[e5v,e5h]at h
    have:=h.2.1;omega
  have fold2:∀ u:Int,Te (Cs s) u=true->folderT s u=true:=by
   intro u hu;obtain⟨g1,g2,g3⟩:=b1k.1 hu;rw[Rw]at g2;refine b1j.2 ⟨g1,g2,?_⟩;unfold Dt at g3 ⊢;rw[T0 s om]at g3;split at g3
   ·rename_i hc;simp only at g3;omega
   ·split at g3
    ·rename_i hc;rw[hc.1];exact .inr rfl
    ·exact .inl g3
  have yk:∀ i,0<i->i<8->(s.getD i default).kind≠0->(s.getD i default).kind≠3->(Cs s).getD i default={ s.getD i default with bad:=0 }/\((s.getD i default).kind=1/\0<=(s.getD i default).bad/\(s.getD i default).bad<=15/\(s.getD i default).body.length<=128\/(s.getD i default).kind=2/\(s.getD i default).bad=0/\(s.getD i default).body=[])/\mayName (s.getD i default).name=true/\folderT s (s.getD i default).up=true:=by
   intro i h0 h1 k0 k3;by_cases k1:(s.getD i default).kind=1
   ·have e:=a42 s (i:=i) om k1;have h:=hal i h0 h1;rw[e]at h ⊢;rcases h with h|h
    ·have:=congrArg Node.kind h;simp only[node0]at this;exact absurd this k0
    ·rw[Il]at h;simp only[e5v,e5h,k1,if_true]at h;obtain⟨⟨⟨b1,b2⟩,b3⟩,b4⟩:=h;split at b1
     ·rename_i hb;rw[if_pos hb];exact⟨rfl,.inl ⟨k1,hb.1,hb.2,b4⟩,b2,fold2 _ b3⟩
     ·rename_i hb;exfalso;rw[b1]at hb;simp at hb
   ·have e:=Qi s (i:=i) om k1 (by rintro⟨h,_⟩;rw[h]at k3;simp[lostN]at k3);have h:=hal i h0 h1;rw[e]at h ⊢;rcases h with h|h
    ·rw[h]at k0;simp[node0]at k0
    ·rw[Il,if_neg k1]at h;simp only[e5v,e5h]at h;obtain⟨⟨⟨b1,b2⟩,b3⟩,b4,b5⟩:=h;refine⟨?_,.inr ⟨b4,b1,b5⟩,b2,fold2 _ b3⟩;generalize s.getD i default=x at *;obtain⟨p,q,r,t,u⟩:=x;simp only at b1;rw[b1]
  refine⟨h8,htop,none',lost,λi h0 h1 k0 k3=>?_⟩;obtain⟨e,hk,hn,hu⟩:=yk i h0 h1 k0 k3;have hr:Li (Cs s) s.length i=true/\Pv (Cs s) i=false:=by
   rcases hrest i om with (h|h)|h
   ·omega
   ·rw[e]at h;exact absurd h k0
   ·simp only[e5n]at h;exact h
  refine⟨?_,hn,hu,?_,?_,?_⟩
  ·rcases hk with ⟨a,b,c,_⟩|h
   ·exact .inl ⟨a,b,c⟩
   ·exact .inr h
  ·rcases hk with ⟨_,_,_,h⟩|⟨_,_,h⟩
   ·exact h
   ·rw[h];exact e7w _
  ·intro k hk0 hk8 hki kk0 kk3 he;have ek:=(yk k hk0 hk8 kk0 kk3).1;have ht:=hr.2;rw[Pv,List.any_eq_false]at ht
   have:=ht k (e6x.2 (by rw[Rw];omega));apply this;have ei:Dt (Cs s) (i:Int)=(Cs s).getD i default:=rfl;rw[ei,e,ek];simp only[e5v,e5h,e5n,e4d];exact⟨⟨⟨⟨by omega,by omega⟩,kk0⟩,he.1⟩,he.2⟩
  ·obtain⟨t,h1,h2⟩:=(a9h _ _ _).1 hr.1;rw[a9a]at h2;exact⟨t,by omega,h2⟩
 ·intro h;have h8:=h.len;have hmtop:(Cs s).getD 0 default=foldN:=(m0 h8).2 h.top;refine⟨⟨⟨h8,hmtop⟩,?_⟩,?_⟩
  ·rw[drop1 _ h8];intro i h0 h1;by_cases k0:(s.getD i default).kind=0
   ·refine .inl ?_;rw[Qi s om (by rw[k0];decide) (by rintro⟨h,_⟩;rw[h]at k0;simp[lostN]at k0)];exact h.none' i h0 h1 k0
   ·refine .inr ?_;have fold:∀ u:Int,folderT s u=true->Te (Cs s) u=true:=by
     intro u hu;obtain⟨g1,g2,g3⟩:=b1j.1 hu;refine b1k.2 ⟨g1,by rw[Rw];exact g2,?_⟩;unfold Dt at g3 ⊢;by_cases hu0:u=0
     ·subst hu0
      show((Cs s).getD 0 default).kind=2;rw[hmtop];rfl
     ·rcases g3 with g3|g3
      ·rw[Qi s om (by rw[g3];decide) (by rintro⟨h,_⟩;rw[h]at g3;simp[lostN]at g3)];exact g3
      ·obtain⟨k,_,e⟩:=bs7 s (i:=u.toNat) om om (h.lost _ om om g3);rw[e]
    by_cases k3:(s.getD i default).kind=3
    ·have hl:=h.lost i h0 h1 k3;have hsp:=a83 (D6 s i) (by rw[Qj];omega);rw[T0 s om,if_neg (by rw[hl];simp[lostN]),if_pos ⟨hl,h0⟩];simp only[Il,e5v,e5h];refine⟨⟨⟨trivial,e0s hsp.1⟩,?_⟩,?_⟩
     ·refine b1k.2 ⟨by simp,by rw[Rw];simp;omega,?_⟩
      show((Cs s).getD 0 default).kind=2;rw[hmtop];rfl
     ·simp
    ·have ho:=h.node i h0 h1 k0 k3;rcases ho.kind with ⟨k1,b0,b1⟩|⟨k2,b0,b1⟩
     ·rw[a42 s om k1,if_pos ⟨b0,b1⟩];simp only[Il,e5v,e5h,k1,if_true];exact⟨⟨⟨trivial,ho.name⟩,fold _ ho.up⟩,ho.body⟩
     ·rw[Qi s om (by rw[k2];decide) (by rintro⟨h,_⟩;rw[h]at k3;simp[lostN]at k3),Il,if_neg (by rw[k2];decide)];simp only[e5v,e5h];exact⟨⟨⟨b0,ho.name⟩,fold _ ho.up⟩,k2,b1⟩
  ·intro i hi;by_cases h0:i=0
   ·exact .inl (.inl h0)
   ·by_cases k0:(s.getD i default).kind=0
    ·refine .inl (.inr ?_);rw[Qi s hi (by rw[k0];decide) (by rintro⟨h,_⟩;rw[h]at k0;simp[lostN]at k0)];exact k0
    ·refine .inr ?_;have at':Dt (Cs s) (i:Int)=(Cs s).getD i default:=rfl;by_cases k3:(s.getD i default).kind=3
     ·have hl:=h.lost i om om k3;obtain⟨k,_,e⟩:=bs7 s hi om hl;refine⟨?_,?_⟩
      ·rw[a9h];refine⟨1,by omega,?_⟩;rw[a9a]
       show(Dt s (i:Int)).up=0
       show(s.getD i default).up=0;rw[hl];rfl
      ·simp only[e5n];rw[Pv,List.any_eq_false];intro j hj;have hj8:=e6x.1 hj;rw[Rw]at hj8;simp only[e5v,e5h,e5n,e4d,at'];rintro⟨⟨⟨⟨j0,ji⟩,jk⟩,ju⟩,jn⟩;exact bs6 s h8 (i:=i) (j:=j) om om om hl om jn
     ·have ho:=h.node i om om k0 k3;have nm:((Cs s).getD i default).name=(s.getD i default).name/\((Cs s).getD i default).up=(s.getD i default).up:=by
       rcases ho.kind with ⟨k1,_⟩|⟨k2,_⟩
       ·rw[a42 s hi k1];exact⟨rfl,rfl⟩
       ·rw[Qi s hi (by rw[k2];decide) (by rintro⟨h,_⟩;rw[h]at k3;simp[lostN]at k3)];exact⟨rfl,rfl⟩
      refine⟨?_,?_⟩
      ·rw[a9h];obtain⟨t,h1,h2⟩:=ho.leads;exact⟨t,by omega,by rw[a9a];exact h2⟩
      ·simp only[e5n];rw[Pv,List.any_eq_false];intro j hj;have hj8:=e6x.1 hj;rw[Rw]at hj8;simp only[e5v,e5h,e5n,e4d,at'];rintro⟨⟨⟨⟨j0,ji⟩,jk⟩,ju⟩,jn⟩;by_cases j3:(s.getD j default).kind=3
       ·exact bs6 s h8 (i:=j) (j:=i) om om om (h.lost j om om j3) om jn.symm
       ·by_cases jk0:(s.getD j default).kind=0
        ·rw[Qi s om (by rw[jk0];decide) (by rintro⟨h,_⟩;rw[h]at jk0;simp[lostN]at jk0)]at jk;exact jk jk0
        ·have hoj:=h.node j om om jk0 j3;have nj:((Cs s).getD j default).name=(s.getD j default).name/\((Cs s).getD j default).up=(s.getD j default).up:=by
          rcases hoj.kind with ⟨k1,_⟩|⟨k2,_⟩
          ·rw[a42 s om k1];exact⟨rfl,rfl⟩
          ·rw[Qi s om (by rw[k2];decide) (by rintro⟨h,_⟩;rw[h]at j3;simp[lostN]at j3)];exact⟨rfl,rfl⟩
         rw[nj.1,nm.1]at jn;rw[nj.2,nm.2]at ju;exact ho.free j om om om jk0 j3 ⟨ju,jn⟩
theorem cz4(s:List Node):mayNodes (Cs s)=Zm s:=by
 rw[e6p,d6k,cz6]
end
section
def Ig:List Dset->Int->Int
 |[],_=>-1
 |d::l,i=>if d.id=i then 0 else if Ig l i<0 then -1 else Ig l i+1
def getA(l:List Dset)(i:Int):Option Dset:=if 0<=Ig l i then some (l.getD (Ig l i).toNat default)else none
theorem c5f{i:Int}:∀ {l:List Dset},(Ig l i= -1/\∀ j,j<l.length->(l.getD j default).id≠i)\/∃ k:Nat,Ig l i=k/\k<l.length/\(l.getD k default).id=i/\∀ j,j<k->(l.getD j default).id≠i
 |[]=>.inl ⟨rfl,λ_ h=>absurd h (e6r _)⟩
 |d::l=>by
   by_cases h:d.id=i
   ·exact .inr ⟨0,by simp[Ig,h],by simp,by simpa using h,λ_ h=>absurd h (e6r _)⟩
   ·rcases c5f (l:=l) (i:=i)with ⟨e,hn⟩|⟨k,e,hk,hid,hl⟩
    ·refine .inl ⟨by simp[Ig,h,e],λj hj=>?_⟩;cases j with
     |zero=>simpa using h
     |succ j=>simpa using hn j (by simpa using hj)
    ·refine .inr ⟨k+1,by rw[Ig,if_neg h,e,if_neg om];rfl,by simpa using hk,by simpa using hid,λj hj=>?_⟩;cases j with
     |zero=>simpa using h
     |succ j=>simpa using hl j om
theorem dy2{l:List Dset}{i:Int}:(getA l i=none/\∀ j,j<l.length->(l.getD j default).id≠i)\/∃ k:Nat,getA l i=some (l.getD k default)/\k<l.length/\(l.getD k default).id=i/\∀ j,j<k->(l.getD j default).id≠i:=by
 rcases c5f (l:=l) (i:=i)with ⟨e,hn⟩|⟨k,e,h⟩
 ·exact .inl ⟨by unfold getA;rw[e];rfl,hn⟩
 ·exact .inr ⟨k,by unfold getA;rw[e,if_pos om,e5s],h⟩
structure MayD(l:List Dset)(d:Dset):Prop where
 id:1<=d.id/\d.id<=65535
 quota:0<=d.quota/\d.quota<=255
 files:mayNodes (els d.files)=true
 kinds:d.kind=1\/d.kind=2
 snap:d.kind=2->d.quota=0/\∃ o∈l,o.id=d.origin/\o.kind=1
 live:d.kind=1->d.origin=0\/∃ o∈l,o.id=d.origin/\o.kind=2
structure MayL(l:List Dset):Prop where
 len:l.length<=8
 sorted:l.Pairwise λa b=>a.id<b.id
 each:∀ d∈l,MayD l d
 tree:∃ r:Int->Nat,∀ d∈l,∀ o∈l,o.id=d.origin->r o.id<r d.id
theorem MayL.lt{l:List Dset}(h:MayL l){i j:Nat}(hij:i<j)(hj:j<l.length):(l.getD i default).id<(l.getD j default).id:=by
 have:=List.pairwise_iff_getElem.1 h.sorted i j om hj hij;rw[e42,e47 (show i<l.length by omega),e42,e47 hj];exact this
theorem e0t{l:List Dset}{n:Nat}(h:n<l.length):l.getD n default∈l:=by
 rw[e42,e47 h];exact e63 h
theorem d6e{l:List Dset}{x:Dset}(h:x∈l):∃ n,n<l.length/\l.getD n default=x:=by
 obtain⟨n,hn,rfl⟩:=e4v.1 h;exact⟨n,hn,by rw[e42,e47 hn];rfl⟩
theorem MayL.inj{l:List Dset}(h:MayL l){i j:Nat}(hi:i<l.length)(hj:j<l.length)(e:(l.getD i default).id=(l.getD j default).id):i=j:=by
 rcases Nat.lt_trichotomy i j with hh|hh|hh
 ·have:=h.lt hh hj;omega
 ·exact hh
 ·have:=h.lt hh hi;omega
theorem MayL.find{l:List Dset}(h:MayL l){d:Dset}(hd:d∈l):getA l d.id=some d:=by
 obtain⟨i,hi,rfl⟩:=d6e hd;rcases dy2 (l:=l) (i:=(l.getD i default).id)with ⟨e,hn⟩|⟨k,e,hk,hid,_⟩
 ·exact absurd rfl (hn i hi)
 ·rw[e,h.inj hk hi hid]
structure SetB(l:List Dset)(k:Nat):Prop where
 id:1<=(l.getD k default).id/\(l.getD k default).id<=65535
 sorted:k=0\/(l.getD (k-1) default).id<(l.getD k default).id
 files:mayNodes (els (l.getD k default).files)=true
 quota:0<=(l.getD k default).quota/\(l.getD k default).quota<=255
 kinds:(l.getD k default).kind=1\/(l.getD k default).kind=2
 snap:(l.getD k default).kind=2->(l.getD k default).quota=0/\∃ o,getA l (l.getD k default).origin=some o/\o.kind=1
 live:(l.getD k default).kind=1->(l.getD k default).origin=0\/∃ o,getA l (l.getD k default).origin=some o/\o.kind=2
section
variable {l:List Dset} (hB:∀ k,k<l.length->SetB l k)
include hB
omit hB in
omit hB in
end
def X1(l:List Dset)(i:Int):Nat->Int->Bool
 |0,_=>false
 |n+1,a=>match getA l a with
   |none=>false
   |some o=>if o.origin=i then true else X1 l i n o.origin
def isA(l:List Dset)(i kind:Int):Bool:=match getA l i with
 |some o=>decide (o.kind=kind)
 |none=>false
def a0e(l:List Dset)(d:Dset):Bool:=(decide (1<=d.id)&&decide (d.id<=65535)&&mayNodes (els d.files)&&decide (0<=d.quota)&&decide (d.quota<=255)) &&
 (if d.kind=1 then decide (d.origin=0)||(isA l d.origin 2&&!X1 l d.id l.length d.id)else if d.kind=2 then decide (d.quota=0)&&isA l d.origin 1 else false)
def Uo(l:List Dset):Int->List Dset->Bool
 |_,[]=>true
 |last,d::r=>decide (last<d.id)&&a0e l d&&Uo l d.id r
def Gb(l:List Dset):Bool:=Uo l 0 l&&decide (l.length<=8)
end
structure ViewL where
 r:Root
 s:SpaceL
 sets:List Dset
 set:List Ptr
 node:List (List Ptr)
 part:List (List Ptr)
 deriving Inhabited
def Sz(x:DsetH)(f:List Node):Dset:=⟨x.id,x.kind,x.origin,x.quota,some f⟩
def Fp(n:Nat):List Ptr:=List.replicate n Bt
def Rt(d:Dev)(size:Int)(k:Nat)(p:Ptr):Bytes×Nat:=if p=Bt then(zs 32,0)else match Hy d p 1 with
 |some s=>if s.length=32/\s≠zs 32/\((s.drop (size-32*k).toNat).all λc=>decide (c=0))=true then(s,0)else(zs 32,2 ^ k)
 |none=>(zs 32,2 ^ k)
def Gu(d:Dev)(size:Int):Nat->List Ptr->Bytes×Nat
 |_,[]=>([],0)
 |k,p::l=>((Rt d size k p).1++(Gu d size (k+1) l).1,(Rt d size k p).2+(Gu d size (k+1) l).2)
def b2y(d:Dev)(size:Int)(l:List Ptr):Bytes×Nat:=((Gu d size 0 l).1.take size.toNat,(Gu d size 0 l).2)
theorem bn0(d:Dev)(size:Int)(k:Nat)(p:Ptr):(Rt d size k p).1.length=32:=by
 unfold Rt;split
 ·simp[zs]
 ·split
  ·split
   ·rename_i h;exact h.1
   ·simp[zs]
  ·simp[zs]
theorem b2x(d:Dev)(size:Int):∀ (k:Nat) (l:List Ptr),(Gu d size k l).1.length=32*l.length
 |_,[]=>rfl
 |k,p::l=>by rw[Gu,e58,bn0,b2x d size (k+1) l,e5w];omega
def V3(x:NodeH)(b:Bytes×Nat):Node:=⟨x.kind,x.up,x.name,b.1,b.2⟩
def Wq:NodeH:=⟨2,0,[]⟩
def V0(d:Dev)(n:Nat)(p:Ptr):Option (Node×List Ptr):=match (Hy d p 2).bind Sm with
 |some (x,size,l)=>if(if n=0 then decide (x=Wq)&&decide (size=0)&&l.all (λp=>decide (p=Bt))else mayName x.name)=true then some (V3 x (b2y d size l),l)else none
 |none=>none
def Sn(d:Dev)(n:Nat)(p:Ptr):Node×List Ptr×Bool:=if n=0\/p≠Bt then match V0 d n p with
    |some (x,l)=>(x,l,decide (x.bad≠0))
    |none=>(if n=0 then foldN else lostN,Fp 4,true)
 else(node0,Fp 4,false)
def Hs(d:Dev):Nat->List Ptr->List (Node×List Ptr×Bool)
 |_,[]=>[]
 |n,p::l=>Sn d n p::Hs d (n+1) l
structure FilesR where
 set:List Node
 node:List Ptr
 part:List Ptr
 torn:Bool
 deriving Inhabited
def Xo:List Node:=[foldN,lostN,lostN,lostN,lostN,lostN,lostN,lostN]
def al6(l:List Ptr)(g:List (Node×List Ptr×Bool)):FilesR:=
 if Zm (g.map (·.1))=true then⟨g.map (·.1),l,(g.map (·.2.1)).flatten,g.any (·.2.2)⟩else⟨Xo,l,(g.map (·.2.1)).flatten,true⟩
def C5(d:Dev)(p:Ptr):FilesR:=match (Hy d p 3).bind Wt with
 |none=>⟨Xo,Fp 8,Fp 32,true⟩
 |some l=>al6 l (Hs d 0 l)
def V9(d:Dev)(at':Ptr):Option (Root×List DsetH×List Ptr):=match (Hy d at' 6).bind a34 with
 |some r=>if r.txg=at'.birth then((Hy d r.table 4).bind Rf).map λq=>(r,q.1,q.2)else none
 |none=>none
def Zh(q:Root×List DsetH×List Ptr)(s:SpaceL)(f:List FilesR):ViewL:=⟨q.1,s,List.zipWith (λx f=>Sz x f.set) q.2.1 f,q.2.2,f.map (·.node),f.map (·.part)⟩
def Ze(d:Dev)(at':Ptr):Option ViewL:=match V9 d at' with
 |some q=>if(q.2.2.map (C5 d)).any (·.torn)=false/\Gb (Zh q ⟨[],[],[],[]⟩ (q.2.2.map (C5 d))).sets=true then
  ((Hy d q.1.space 5).bind (Ws (H7 d))).map λs=>Zh q s (q.2.2.map (C5 d))else none
 |none=>none
theorem d09{s:Bytes}{l:List DsetH}{p:List Ptr}(h:Rf s=some (l,p)):l.length=p.length/\l.length<=8/\a0f 0 l p=true:=by
 have e:=d07 h;unfold J1 at e;split at e
 ·rename_i hc;exact⟨hc.2.1,hc.1,hc.2.2⟩
 ·subst e;exact absurd h (by rw[show Rf []=none from by decide];simp)
theorem au8{s:Bytes}{x:NodeH}{size:Int}{l:List Ptr}(h:Sm s=some (x,size,l)):((x.kind=1\/x.kind=2)/\0<=x.up/\x.up<8/\x.name.length<=8)/\(0<=size/\size<=128/\l.length=4/\l.all Ct=true):=by
 have e:=d0m h;unfold Np at e;split at e
 ·assumption
 ·subst e;exact absurd h (by rw[show Sm []=none from by decide];simp)

section
variable {orc:CallF} {lk:FuncId->Bool}
def D5(n:Int):List PV:=[.int .i64 n]
def B1(s:Bytes):List PV:=[.str s]
def Cd(c:UInt8):Nat:=c.toNat-48
theorem ba0(form:Bytes)(hl:form.length<=1000000)(H:AH):K tab orc lk 72 [.str form] H=some (match Ep form with
 |some ks=>.tuple [.fz (ks.map λ(k:Nat)=>D5 k),.int .i64 ks.sum,.bool true]
 |none=>.tuple [.emp,.int .i64 0,.bool false],H):=by
 refine Ae l72 rfl rfl (by split<;>rfl) ?_ H;simp only[g72,t0,seval];generalize hr:Ai _ _ _=r;refine Bb hr form.length (λj=>[.top,.own 1 1 0 j j,.int .i64 ((form.take j).map Cd).sum,.top,.top,.top,.own 0 1 0 form.length form.length,.int .i64 form.length,.int .i64 j,.top,.top,.top,.top,.top])
  (λj=>[some (form.map λb=>[.int .u8 b.toNat]),some ((form.take j).map λb=>[.int .i64 (Cd b)])])
  (λj=>Ep form=(Ep (form.drop j)).map ((form.take j).map Cd++·)) ?_ ?_ ?_ ?_ ?_
 ·simp
 ·simp
 ·simp
 ·intro j hj hI;have hj':((j:Int)<(form.length:Int)):=om;have hb:=b91 Cd 255 (λc=>by have:=c.toNat_lt;unfold Cd;omega) (form.take j);rw[e67]at hb;have hc:=(form.getD j default).toNat_lt
  simp(disch:=omega)only[t0,seval,e6i,e67,hj',e74,Ic,e6s];clear hr;have ht:=Dd hj;rw[Gd hj,Ep]at hI;generalize form.getD j default=c at *;have hz:Zt c=if(decide ((c.toNat:Int)-48<1)||decide (4<(c.toNat:Int)-48))=true then none else some (Cd c):=by
   unfold Zt Cd;by_cases h:49<=c.toNat/\c.toNat<=52
   ·rw[if_pos h,if_neg (by simp;omega)]
   ·rw[if_neg h,if_pos (by simp;omega)]
  rw[hz]at hI;refine⟨λh=>?_,λh=>?_⟩
  ·rw[if_pos h]at hI;simp only[hI,e6g]
  ·rw[if_neg h]at hI;have hs:((Cd c:Nat):Int)=(c.toNat:Int)-48:=by
    simp at h;unfold Cd;omega
   refine⟨?_,?_,?_⟩
   ·simp[ht,hs]
   ·simp[ht,hs]
   ·rw[hI,ht];cases Ep (form.drop (j+1))<;>simp
 ·intro hI
  simp(disch:=omega)only[t0,seval,e68,e7f,<-List.map_take];simp only[e69,Ep,e6h,e68]at hI;simp[hI,D5]
end
section
variable {orc:CallF} {lk:FuncId->Bool}
theorem a8b:∀ {l:Bytes} {ks:List Nat},Ep l=some ks->∀ k∈ks,1<=k/\k<=4
 |[],_,h,k,hk=>by cases h;cases hk
 |c::l,ks,h,k,hk=>by
   unfold Ep at h;split at h
   ·rename_i k0 ks0 h1 h2;cases h;rcases e79.1 hk with rfl|hk
    ·unfold Zt at h1;split at h1
     ·cases h1;omega
     ·cases h1
    ·exact a8b h2 k hk
   ·cases h
theorem a8c:∀ {l:Bytes} {ks:List Nat},Ep l=some ks->ks.length=l.length
 |[],_,h=>by cases h;rfl
 |c::l,ks,h=>by
   unfold Ep at h;split at h
   ·rename_i k0 ks0 h1 h2;cases h;rw[e5w,a8c h2,e5w]
   ·cases h
theorem bk5:∀ (ks:List Nat) (l:List Int),(∀ k∈ks,1<=k/\k<=4)->(B5 ks l).length<=4*ks.length
 |[],_,_=>by simp[B5]
 |k::ks,[],_=>by simp[B5]
 |k::ks,n::l,h=>by
   have h1:=bk5 ks l λk hk=>h k (e4u _ hk);have h2:=h k (by simp);rw[B5,e58,Tq,e5w];omega
theorem b34:∀ (k:Nat) (x:Int) (m:Nat),m<k->(E3 k x)[m]?=some (UInt8.ofNat (x/2 ^ (8*(k-1-m))%256).toNat)
 |k+1,x,0,_=>by simp[E3]
 |k+1,x,m+1,h=>by
   have:=b34 k x m om;rw[E3,e4b,this]
   congr 6;omega
theorem b4s(y:Int):IntKind.u8.wrap y=((UInt8.ofNat (y%256).toNat).toNat:Int):=by
 rw[UInt8.toNat_ofNat',IntKind.wrap_u8];omega
theorem e2k(k:Nat)(x:Int)(m:Nat)(h:m<k)(hk:k<=4):((E3 k x).take (m+1)).map (λb=>[AV.int IntKind.u8 (b.toNat:Int)])=((E3 k x).take m).map (λb=>[AV.int IntKind.u8 (b.toNat:Int)])++[[AV.int IntKind.u8 (IntKind.u8.wrap (x.fdiv (2 ^ min (8*((k:Int)-1-m)).toNat IntKind.i64.bits)))]]:=by
 rw[e5p,b34 k x m h,b4s];have e1:min (8*((k:Int)-1-m)).toNat IntKind.i64.bits=8*(k-1-m):=by
  have:IntKind.i64.bits=64:=rfl;omega
 rw[e1,Int.fdiv_eq_ediv_of_nonneg _ (Int.pow_nonneg om)];simp
theorem az6:∀ (ks:List Nat) (l:List Int) (k:Nat) (x:Int),ks.length=l.length->B5 (ks++[k]) (l++[x])=B5 ks l++E3 k x
 |[],[],k,x,_=>by simp[B5]
 |k0::ks,n::l,k,x,h=>by
   rw[e62,e62,B5,az6 ks l k x (by simpa using h),B5,e5o]
 |[],_::_,_,_,h=>by cases h
 |_::_,[],_,_,h=>by cases h
theorem d34{ks:List Nat}{l:List Int}(h:ks.length=l.length){j:Nat}(hj:j<ks.length):B5 (ks.take (j+1)) (l.take (j+1))=B5 (ks.take j) (l.take j)++E3 (ks.getD j default) (l.getD j default):=by
 rw[Dd hj,Dd (h▸hj:j<l.length),az6 _ _ _ _ (by rw[e67,e67];omega)]
theorem Q7(form:Bytes)(hl:form.length<=1000000)(l:Sl Int)(H:AH):K tab orc lk 39 [.str form,A4 D5 l] H=some (.str (Q9 form (els l)),H):=by
 refine Ae l39 rfl (by simp only[t0]) rfl ?_ H
 simp(disch:=omega)only[g39,t0,seval,ba0];unfold Q9;cases hs:Ep form with
 |none=>simp(disch:=omega)only[t0,seval]
 |some ks=>
   simp(disch:=omega)only[t0,seval];by_cases h:ks.length=(els l).length
   ·rw[if_neg (by simp[h]),if_pos h];generalize hr:Ai _ _ _=r;refine Bb hr ks.length
     (λj=>[.top,.top,.top,.fz (ks.map λ(k:Nat)=>D5 k),.top,.top,.own 0 1 0 (B5 (ks.take j) ((els l).take j)).length (B5 (ks.take j) ((els l).take j)).length,.top,.top,.top,.top,.top,.top,.top,A4 D5 l,.int .i64 (els l).length,.int .i64 j,.top,.top,.top])
     (λj=>[some ((B5 (ks.take j) ((els l).take j)).map λb=>[.int .u8 b.toNat])]) (λ_=>True) ?_ ?_ trivial ?_ ?_
    ·simp[B5]
    ·simp[B5]
    ·intro j hj _;have hj':((j:Int)<((els l).length:Int)):=om;have hj2:j<(els l).length:=om;have hk:1<=ks.getD j default/\ks.getD j default<=4:=a8b hs _ (by rw[e42,e47 hj];exact e63 hj);have ht:=d34 h hj
     simp(disch:=omega)only[t0,seval,hj',B8,Bl,e6i,D5,e74];clear hr;generalize hr:Ai _ _ _=r;generalize ks.getD j default=k at *
     generalize (els l).getD j default=x at *;have hkl:=a8c hs;have hb:=bk5 (ks.take j) ((els l).take j) λk hk=>a8b hs k (e4s hk);rw[e67]at hb;generalize B5 (ks.take j) ((els l).take j)=pre at *;refine Ny (Q:=λr=>Rd _ _ _ _ (Hu _ _ (Cn _ _ (C2 _ (C2 _ r))))) hr k
      (λm=>[.top,.top,.top,.fz (ks.map λ(k:Nat)=>D5 k),.top,.top,.own 0 1 0 (pre++(E3 k x).take m).length (pre++(E3 k x).take m).length,.top,.int .i64 x,.int .i64 (k-1-m),.top,.top,.top,.top,A4 D5 l,.int .i64 (els l).length,.int .i64 j,.top,.top,.top])
      (λm=>[some ((pre++(E3 k x).take m).map λb=>[.int .u8 b.toNat])]) (λ_=>True) ?_ ?_ trivial ?_ ?_
     ·simp[D5]
     ·simp
     ·intro m hm _;have hbl:((E3 k x).take m).length=m:=(by rw[e67,Tq];omega);have hbl2:((E3 k x).take (m+1)).length=m+1:=by rw[e67,Tq];omega
      simp(disch:=omega)only[t0,seval,e74,hbl,hbl2,e6o,e2k k x m hm hk.2,e5o];simp;omega
     ·intro _
      simp(disch:=omega)only[t0,seval,e74,ht,D5,e4h (show(E3 k x).length<=k by rw[Tq];exact e7y k)];simp
    ·intro _
     simp(disch:=omega)only[t0,seval,e74,<-h,e68,e7f];rw[h,e68]
   ·rw[if_pos (by simp;omega),if_neg h]
end
section
variable {orc:CallF} {lk:FuncId->Bool}
theorem b90:∀ (ks:List Nat) (j:Nat),j<ks.length->(ks.take j).sum+ks.getD j default<=ks.sum
 |k::ks,0,_=>by simp
 |k::ks,j+1,h=>by
   have:=b90 ks j (by simpa using h);simp only[e4w,e7b,List.getD_cons_succ];omega
theorem b5w(b:Bytes)(x:UInt8):B4 (b++[x])=B4 b*256+x.toNat:=by simp[B4,List.foldl_append]
theorem au9:∀ (ks:List Nat) (k:Nat) (s:Bytes),B0 (ks++[k]) s=B0 ks s++[B4 ((s.drop ks.sum).take k)]
 |[],k,s=>by simp[B0]
 |k0::ks,k,s=>by rw[e62,B0,au9 ks k,B0,e62,e6v,e7b]
theorem b5x{b:Bytes}(h:b.length<=3):B4 b<16777216:=by
 have h1:=Zk b;have h2:(2:Int) ^ (8*b.length)<=2 ^ 24:=by
  rcases(by omega:b.length=0\/b.length=1\/b.length=2\/b.length=3)with e|e|e|e<;>rw[e]<;>decide
 omega
theorem d43(n:Int)(c:Nat)(h0:0<=n)(h1:n<16777216)(hc:c<2 ^ 8):IntKind.i64.wrap (((BitVec.ofInt IntKind.i64.bits (IntKind.i64.wrap (n*2 ^ min 8 IntKind.i64.bits)) ||| BitVec.ofInt IntKind.i64.bits (c:Int)).toNat:Nat):Int)=n*256+c:=by
 obtain⟨a,rfl⟩:∃ a:Nat,n=a:=⟨n.toNat,by omega⟩;have hb:IntKind.i64.bits=64:=rfl;rw[hb];have e0:(a:Int)*2 ^ min 8 64=((a*256:Nat):Int):=by simp
 have e3:IntKind.i64.wrap ((a*256:Nat):Int)=((a*256:Nat):Int):=e74 _ om;rw[e0,e3,BitVec.toNat_or,BitVec.toNat_ofInt,BitVec.toNat_ofInt];have e1:(((a*256:Nat):Int)%((2 ^ 64:Nat):Int)).toNat=a <<< 8:=by rw[Nat.shiftLeft_eq];omega
 have e2:((c:Int)%((2 ^ 64:Nat):Int)).toNat=c:=om;rw[e1,e2,<-Nat.shiftLeft_add_eq_or_of_lt hc a,Nat.shiftLeft_eq];have e4:IntKind.i64.wrap ((a*2 ^ 8+c:Nat):Int)=((a*2 ^ 8+c:Nat):Int):=e74 _ om;rw[e4];omega
theorem Zq:∀ (ks:List Nat) (s:Bytes),(B0 ks s).length=ks.length
 |[],_=>rfl
 |k::ks,s=>by rw[B0,e5w,Zq ks,e5w]
def He(form s:Bytes):AV:=match Fo form s with
 |some (l,r)=>.tuple [.fz (l.map D5),.str r,.bool true]
 |none=>.tuple [.emp,.str [],.bool false]
theorem Sk(form:Bytes)(hl:form.length<=1000000)(s:Bytes)(H:AH):K tab orc lk 126 [.str form,.str s] H=some (He form s,H):=by
 refine Ae dd4 rfl rfl (by unfold He;split<;>rfl) ?_ H
 simp(disch:=omega)only[aj1,t0,seval,ba0];unfold He Fo;cases hs:Ep form with
 |none=>simp(disch:=omega)only[t0,seval]
 |some ks=>
   simp(disch:=omega)only[t0,seval];by_cases h:ks.sum<=s.length
   ·rw[if_neg (by simp;omega),if_pos h];generalize hr:Ai _ _ _=r;refine Bb hr ks.length
     (λj=>[.top,.str (s.drop (ks.take j).sum),.own 0 1 0 j j,.top,.top,.top,.top,.top,.top,.top,.top,.top,.top,.top,.fz (ks.map λ(k:Nat)=>D5 k),.int .i64 ks.length,.int .i64 j,.top,.top,.top,.top,.top,.top,.top])
     (λj=>[some ((B0 (ks.take j) s).map λn=>[.int .i64 n])]) (λ_=>True) ?_ ?_ trivial ?_ ?_
    ·simp
    ·simp[B0]
    ·intro j hj _;have hj':((j:Int)<(ks.length:Int)):=om;have hk:1<=ks.getD j default/\ks.getD j default<=4:=a8b hs _ (by rw[e42,e47 hj];exact e63 hj);have hsum:(ks.take j).sum+ks.getD j default<=ks.sum:=b90 ks j hj
     simp(disch:=omega)only[t0,seval,hj',B8,Bl,e6i,D5,e74,e60];clear hr;have ht:ks.take (j+1)=ks.take j++[ks.getD j default]:=Dd hj;rw[ht,au9,List.sum_append,e7b,List.sum_nil,e7l,<-e6v];generalize ks.getD j default=k at *;generalize hpre:B0 (ks.take j) s=pre at *;have hpl:pre.length=j:=(by rw[<-hpre,Zq,e67];omega);have htl:k<=(s.drop (ks.take j).sum).length:=(by rw[e60];omega);generalize s.drop (ks.take j).sum=t at *;have hcl:(t.take k).length=k:=(by rw[e67];omega);have hks:=a8c hs;generalize hr:Ai _ _ _=r;refine Ny (Q:=λr=>Rd _ _ _ _ (Hu _ _ (Cn _ _ (C2 _ (Cn _ _ (C2 _ r)))))) hr k
      (λm=>[.top,.str t,.own 0 1 0 j j,.top,.top,.top,.top,.int .i64 k,.int .i64 (B4 ((t.take k).take m)),.top,.top,.top,.top,.top,.fz (ks.map λ(k:Nat)=>D5 k),.int .i64 ks.length,.int .i64 j,.top,.own 1 1 0 k k,.int .i64 k,.int .i64 m,.top,.top,.top])
      (λm=>[some (pre.map λn=>[.int .i64 n]),some ((t.take k).map λb=>[.int .u8 b.toNat])]) (λ_=>True) ?_ ?_ trivial ?_ ?_
     ·simp[D5,hcl,B4]
     ·simp
     ·intro m hm _;have hm':((m:Int)<(k:Int)):=om;have hm2:m<(t.take k).length:=om;have h0:=Rb ((t.take k).take m);have h1:=b5x (b:=(t.take k).take m) (by rw[e67];omega);have hmt:(t.take k).take (m+1)=(t.take k).take m++[(t.take k).getD m default]:=Dd hm2;have hc:=((t.take k).getD m default).toNat_lt;rw[hmt,b5w]
      simp(disch:=omega)only[t0,seval,e74,hm',e6i,Ic,d43];simp
     ·intro _
      simp(disch:=try exact dz)only[t0,seval,e74,e7f,e6i];clear hr;simp[D5,List.take_take]
    ·intro _
     simp(disch:=omega)only[t0,seval,e74,e7f,e68,Zq];have e:(B0 ks s).take ks.length=B0 ks s:=e4h (by rw[Zq];exact e7y _);rw[<-List.map_take,e];rfl
   ·rw[if_pos (by simp;omega),if_neg h]
end
section
variable {orc:CallF} {lk:FuncId->Bool}
def Al(p:Ptr):List PV:=[.int .i64 p.addr,.int .i64 p.birth,.int .u32 p.sum.a.toNat,.int .u32 p.sum.b.toNat,.int .u32 p.sum.c.toNat,.int .u32 p.sum.d.toNat]
def Aj(p:Ptr):List AV:=[.int .i64 p.addr,.int .i64 p.birth,.int .u32 p.sum.a.toNat,.int .u32 p.sum.b.toNat,.int .u32 p.sum.c.toNat,.int .u32 p.sum.d.toNat]
theorem at2{a b:UInt32}:((a.toNat:Int)=(b.toNat:Int))↔a=b:=by
 rw[Int.ofNat_inj,UInt32.toNat_inj]
theorem bt2(p:Ptr)(H:AH):K tab orc lk 156 [.agg (Aj p)] H=some (.bool (Ct p),H):=by
 refine Ae db1 rfl rfl rfl ?_ H
 simp(disch:=omega)only[ah4,t0,seval,Aj];have z:∀ a:UInt32,(((a.toNat:Int)=0)↔a=0):=λa=>at2 (b:=0);unfold Ct;by_cases h:p.addr=0
 ·rw[if_pos h,if_pos h];obtain⟨a,b,s1,s2,s3,s4⟩:=p;simp only[Bt,Ptr.mk.injEq,Sum.mk.injEq,z];simp
 ·rw[if_neg h,if_neg h];simp
theorem d5o(p:Ptr)(H:AH):K tab orc lk 157 [.agg (Aj p)] H=some (.fz ((a3v p).map D5),H):=by
 have ha:=p.sum.a.toNat_lt;have hb:=p.sum.b.toNat_lt;have hc:=p.sum.c.toNat_lt;have hd:=p.sum.d.toNat_lt;refine Ae db0 rfl rfl rfl ?_ H
 simp(disch:=omega)only[ah3,t0,seval,Aj]
 iterate 5 (rw[T3];simp(disch:=omega)only[t0,seval,e74])
 rfl
theorem Sq(p:Ptr):(⟨p.addr,p.birth,⟨p.sum.a,p.sum.b,p.sum.c,p.sum.d⟩⟩:Ptr)=p:=rfl
theorem a9e(a b:Int)(c d e f:UInt32)(H:AH):K tab orc lk 156 [.agg [.int .i64 a,.int .i64 b,.int .u32 c.toNat,.int .u32 d.toNat,.int .u32 e.toNat,.int .u32 f.toNat]] H=some (.bool (Ct ⟨a,b,⟨c,d,e,f⟩⟩),H):=bt2 ⟨a,b,⟨c,d,e,f⟩⟩ H
theorem d5p(a b:Int)(c d e f:UInt32)(H:AH):K tab orc lk 157 [.agg [.int .i64 a,.int .i64 b,.int .u32 c.toNat,.int .u32 d.toNat,.int .u32 e.toNat,.int .u32 f.toNat]] H=some (.fz ((a3v ⟨a,b,⟨c,d,e,f⟩⟩).map D5),H):=d5o ⟨a,b,⟨c,d,e,f⟩⟩ H
end
section
variable {orc:CallF} {lk:FuncId->Bool}
theorem d33(form:Bytes)(hl:form.length<=1000000)(l:List Int)(H:AH):K tab orc lk 39 [.str form,.fz (l.map D5)] H=some (.str (Q9 form l),H):=Q7 form hl (some l) H
theorem d35(p:Ptr):Q9 [50,52,52,52,52,52] (a3v p)=Eu p:=rfl
theorem d5l(a b:Int)(c d e f:UInt32)(H:AH):K tab orc lk 161 [.fz (([a,b,c.toNat,d.toNat,e.toNat,f.toNat]:List Int).map D5)] H=some (.agg (Aj ⟨a,b,⟨c,d,e,f⟩⟩),H):=by
 have hc:=c.toNat_lt;have hd:=d.toNat_lt;have he:=e.toNat_lt;have hf:=f.toNat_lt;refine Ae da5 rfl rfl rfl ?_ H
 simp(disch:=try exact dz)only[ag8,t0,seval,D5,if_pos,Fg]
 iterate 5 (rw[T3];simp(disch:=omega)only[t0,seval,e74,IntWalk.u32_in,Fg])
 rfl
theorem a8y(l:Sl Ptr)(hl:(els l).length<=1000000)(H:AH):K tab orc lk 121 [A4 Al l] H=some (.str (Et (els l)),H):=by
 refine Ae dd9 rfl (by simp only[t0]) rfl ?_ H
 simp(disch:=omega)only[aj4,t0,seval];generalize hr:Ai _ _ _=r;refine Bb hr (els l).length
  (λj=>[.top,.top,.str (((els l).take j).map Eu).flatten,.top,A4 Al l,.int .i64 (els l).length,.int .i64 j,.top,.top])
  (λj=>[]) (λj=>Et (els l)=if((els l).drop j).all Ct=true then(((els l).take j).map Eu).flatten++(((els l).drop j).map Eu).flatten else []) ?_ ?_ ?_ ?_ ?_
 ·simp
 ·simp
 ·simp[Et]
 ·intro j hj hI;have hj':((j:Int)<((els l).length:Int)):=om;have ht:=Dd hj;rw[Gd hj]at hI;have hlen:((((els l).take j).map Eu).flatten).length<=22*1000000:=by
   have:∀ m:List Ptr,((m.map Eu).flatten).length=22*m.length:=by
    intro m
    induction m with
    |nil=>rfl
    |cons p m ih=>rw[e75,e5l,e58,Xb,ih,e5w];omega
   rw[this,e67];omega
  have hpl:=Xb ((els l).getD j default)
  simp(disch:=first|omega|decide)only[t0,seval,hj',Bl,Al,a9e,d5p,Sq,d33,d35,e74];clear hr
  generalize (els l).getD j default=p at *;refine⟨λh=>?_,λh=>?_⟩
  ·have h:Ct p=false:=(by simpa using h);rw[hI];simp[h]
  ·have h:Ct p=true:=(by simpa using h);refine⟨?_,?_⟩
   ·simp[ht]
   ·rw[hI,ht];simp[h]
 ·intro hI
  simp(disch:=omega)only[t0,seval,e7f];simp at hI;simp[hI]
end
section
variable {orc:CallF} {lk:FuncId->Bool}
theorem av0(t:Bytes):Fo [50,52,52,52,52,52] t=if 22<=t.length then some (B0 Dl t,t.drop 22)else none:=rfl
theorem Ue{n:Int}(h0:0<=n)(h1:n<4294967296):(((UInt32.ofNat n.toNat).toNat:Nat):Int)=n:=by
 rw[UInt32.toNat_ofNat'];omega
theorem bq6(t:Bytes)(H:AH):K tab orc lk 161 [.fz ((B0 Dl t).map D5)] H=some (.agg (Aj (Er (B0 Dl t))),H):=by
 have b4:∀ x:Bytes,0<=B4 (x.take 4)/\B4 (x.take 4)<4294967296:=by
  intro x;refine⟨Rb _,?_⟩;have h1:=Zk (x.take 4);have h2:(2:Int) ^ (8*(x.take 4).length)<=2 ^ 32:=by
   have h3:(x.take 4).length<=4:=by rw[e67];omega
   rcases(by omega:(x.take 4).length=0\/(x.take 4).length=1\/(x.take 4).length=2\/(x.take 4).length=3\/(x.take 4).length=4)with e|e|e|e|e<;>rw[e]<;>decide
  omega
 simp only[Dl,B0,Er]
 have:=d5l (orc:=orc) (lk:=lk) (B4 (t.take 2)) (B4 ((t.drop 2).take 4)) (UInt32.ofNat (B4 (((t.drop 2).drop 4).take 4)).toNat) (UInt32.ofNat (B4 ((((t.drop 2).drop 4).drop 4).take 4)).toNat) (UInt32.ofNat (B4 (((((t.drop 2).drop 4).drop 4).drop 4).take 4)).toNat) (UInt32.ofNat (B4 ((((((t.drop 2).drop 4).drop 4).drop 4).drop 4).take 4)).toNat) H;rw[Ue (b4 _).1 (b4 _).2,Ue (b4 _).1 (b4 _).2,Ue (b4 _).1 (b4 _).2,Ue (b4 _).1 (b4 _).2]at this;exact this
theorem d0k(t:Bytes)(h:22<=t.length)(H:AH):K tab orc lk 126 [.str [50,52,52,52,52,52],.str t] H=some (.tuple [.fz ((B0 Dl t).map D5),.str (t.drop 22),.bool true],H):=by
 rw[Sk _ (by decide)];unfold He;rw[av0,if_pos h]
theorem d0l(t:Bytes)(h:t.length<22)(H:AH):K tab orc lk 126 [.str [50,52,52,52,52,52],.str t] H=some (.tuple [.emp,.str [],.bool false],H):=by
 rw[Sk _ (by decide)];unfold He;rw[av0,if_neg om]
def Nq(s:Bytes)(j:Nat):List Ptr:=(List.range j).map λi=>Er (B0 Dl (s.drop (22*i)))
theorem d3c(s:Bytes)(j:Nat):Nq s (j+1)=Nq s j++[Er (B0 Dl (s.drop (22*j)))]:=by simp[Nq,List.range_succ]
def Nk(n:Nat)(s:Bytes):AV:=match Fm n s with
 |some (l,r)=>.tuple [.fz (l.map Al),.str r,.bool true]
 |none=>.tuple [.emp,.str [],.bool false]
theorem a7x(s:Bytes)(hs:s.length<=1000000)(n:Int)(hn:n<=1000000000)(H:AH):K tab orc lk 127 [.str s,.int .i64 n] H=some (Nk n.toNat s,H):=by
 refine Ae dd3 rfl rfl (by unfold Nk;split<;>rfl) ?_ H
 simp(disch:=omega)only[aj0,t0,seval];generalize hr:Ai _ _ _=r;refine Bb hr n.toNat
  (λj=>[.str (s.drop (22*j)),.top,.own 0 6 0 j j,.top,.top,.top,.top,.top,.int .i64 (max n 0),.int .i64 j,.top,.top,.top,.top,.top,.top,.top,.top,.top])
  (λj=>[some ((Nq s j).map λp=>(Al p).map emb)]) (λj=>22*j<=s.length/\Fm n.toNat s=(Fm (n.toNat-j) (s.drop (22*j))).map λq=>(Nq s j++q.1,q.2)) ?_ ?_ ?_ ?_ ?_
 ·simp;omega
 ·simp[Nq]
 ·refine⟨by omega,?_⟩;simp only[Nq,e7m,Nat.mul_zero,e6w,List.range_zero,e7k,e6k];cases Fm n.toNat s<;>rfl
 ·rintro j hj ⟨hI1,hI⟩;have hj':((j:Int)<max n 0):=om;have hd:s.drop (22*(j+1))=(s.drop (22*j)).drop 22:=by rw[e6v];congr 1
  have hl:=e60 (l:=s) (i:=22*j);rw[show n.toNat-j=(n.toNat-(j+1))+1 by omega,Fm]at hI;rw[d3c,hd];have hpl:(Nq s j).length=j:=by simp[Nq]
  generalize Nq s j=pre at *;generalize s.drop (22*j)=t at *;unfold Ui at hI;by_cases h:22<=t.length
  ·simp(disch:=first|omega|decide)only[t0,seval,hj',d0k,bq6,Aj,a9e,Sq,e74];clear hr;generalize Er (B0 Dl t)=p at *;refine⟨λg=>?_,λg=>?_⟩
   ·have g:Ct p=false:=(by simpa using g);simp only[h,g,e83,e52,if_false,e6g]at hI;unfold Nk;rw[hI]
   ·have g:Ct p=true:=(by simpa using g);simp only[h,g,e83,if_true]at hI;refine⟨?_,?_,?_,?_⟩
    ·simp
    ·simp[Al,emb]
    ·omega
    ·rw[hI];cases Fm (n.toNat-(j+1)) (t.drop 22)with
     |none=>rfl
     |some q=>simp
  ·simp(disch:=first|omega|decide)only[t0,seval,hj',d0l,bq6,Aj,a9e,Sq,e74];clear hr;simp only[h,false_and,if_false,e6g]at hI;unfold Nk;rw[hI]
 ·rintro⟨hI1,hI⟩;have e0:n.toNat-n.toNat=0:=om;have hpl:(Nq s n.toNat).length=n.toNat:=by simp[Nq]
  rw[e0,Fm]at hI;unfold Nk;rw[hI];generalize Nq s n.toNat=pre at *;have hm:max n 0=(n.toNat:Int):=om;rw[hm];generalize n.toNat=k at *;subst hpl;simp only[t0,seval,e7f,F4]
end
section
variable {orc:CallF} {lk:FuncId->Bool}
def Ei(n:Int):Bool:=decide (40<=n)&&decide (n<=240)
theorem bw5(n:Int)(H:AH):K tab orc lk 40 [.int .i64 n] H=some (.bool (Ei n),H):=by
 refine Ae l40 rfl rfl rfl ?_ H
 simp(disch:=omega)only[g40,t0,seval,Ei]
def Df(data k:Int):Int:=if Ei data=false\/k<0\/4<=k then -1 else if 2<=k then k*7+data else k*7
theorem a68(data k:Int)(H:AH):K tab orc lk 19 [.int .i64 data,.int .i64 k] H=some (.int .i64 (Df data k),H):=by
 refine Ae l19 rfl rfl rfl ?_ H
 simp(disch:=omega)only[g19,t0,seval,bw5];unfold Df;by_cases h1:Ei data=true
 ·have hd:=h1;simp only[Ei,e5v,e5h]at hd;by_cases h2:k<0\/4<=k
  ·simp[h1,h2]
  ·have e1:IntKind.i64.wrap (k*7)=k*7:=e74 _ om;have e2:IntKind.i64.wrap (k*7+data)=k*7+data:=e74 _ om;have n1:¬ k<0:=om;have n2:¬ 4<=k:=om;by_cases h3:2<=k<;>simp[h1,n1,n2,h3,e1,e2]
 ·simp[h1]
theorem a69(data k:Int)(H:AH)(hm:∀ H,K tab orc lk 24 [.int .i64 data] H=some (.bool (Ei data),H)):K tab orc lk 8 [.int .i64 data,.int .i64 k] H=some (.int .i64 (Df data k),H):=by
 refine Ae l8 rfl rfl rfl ?_ H
 simp(disch:=omega)only[g8,t0,seval,hm];unfold Df;by_cases h1:Ei data=true
 ·have hd:=h1;simp only[Ei,e5v,e5h]at hd;by_cases h2:k<0\/4<=k
  ·rcases h2 with h2|h2
   ·simp[h1,h2]
   ·have n3:3<k:=om;have n4:¬ k<2:=om;simp[h1,h2,n3]
  ·have n1:¬ k<0:=om;have n2:¬ 4<=k:=om;have n3:¬ 3<k:=om;by_cases h3:k<2
   ·have h4:¬ 2<=k:=om;simp[h1,n1,n2,n3,h3,h4,e74 (k*7) om]
   ·have h4:2<=k:=om;have e1:=e74 (14+data) om;have e2:=e74 (k-2) om;have e3:=e74 ((k-2)*7) om;have e4:=e74 (14+data+(k-2)*7) om;simp[h1,n1,n2,n3,h3,h4,e1,e2,e3,e4];omega
 ·simp[h1]
theorem a0h(n:Int)(H:AH):K tab orc lk 24 [.int .i64 n] H=some (.bool (Ei n),H):=by
 refine Ae l24 rfl rfl rfl ?_ H
 simp(disch:=omega)only[g24,t0,seval,Ei]
theorem b9p(n:Int)(H:AH):K tab orc lk 135 [.int .i64 n] H=some (.bool (Ei n),H):=by
 refine Ae dc6 rfl rfl rfl ?_ H
 simp(disch:=omega)only[ai7,t0,seval,Ei]
theorem b0d(n:Int)(H:AH):K tab orc lk 28 [.int .i64 n] H=some (.bool (decide (0<=n)&&decide (n<=1073741824)),H):=by
 refine Ae l28 rfl rfl rfl ?_ H
 simp(disch:=omega)only[g28,t0,seval]
theorem U9(n m:Int)(H:AH):K tab orc lk 120 [.int .i64 n,.int .i64 m] H=some (.bool (decide (0<=n)&&decide (n<=m)),H):=by
 refine Ae de0 rfl rfl rfl ?_ H
 simp(disch:=omega)only[aj5,t0,seval]
theorem d21(a b x:Int)(H:AH):K tab orc lk 174 [.agg [.int .i64 a,.int .i64 b],.int .i64 x] H=some (.bool (decide (a<=x)&&decide (x<b)),H):=by
 refine Ae d9t rfl rfl rfl ?_ H
 simp(disch:=omega)only[af7,t0,seval]
theorem b9o(n:Int)(h0:0<=n)(h1:n<=1000000)(H:AH):K tab orc lk 136 [.int .i64 n] H=some (.int .i64 ((n+7)/8),H):=by
 refine Ae dc5 rfl rfl rfl ?_ H
 simp(disch:=omega)only[ai6,t0,seval,e74];have e:(n+8-1).tdiv 8=(n+7)/8:=by rw[Int.tdiv_eq_ediv_of_nonneg om];omega
 rw[e,e74 _ om]
def B2(p:Int×Bytes):List PV:=[.int .i64 p.1,.str p.2]
end
section
variable {orc:CallF} {lk:FuncId->Bool}
theorem an3(k b:Int)(l:Bytes)(H:AH):K tab orc lk 158 [.agg [.int .i64 k,.int .i64 b,.str l]] H=some (.bool (Jp ⟨k,b,l⟩),H):=by
 refine Ae da9 rfl rfl rfl ?_ H
 simp(disch:=omega)only[ah2,t0,seval];have e:((l.length:Int)<=249)↔l.length<=249:=om;unfold Jp;simp[e]
theorem a07(a b:Int)(c d e f:UInt32):(⟨a,b,⟨c,d,e,f⟩⟩:Ptr)=Bt↔a=0/\b=0/\(c.toNat:Int)=0/\(d.toNat:Int)=0/\(e.toNat:Int)=0/\(f.toNat:Int)=0:=by
 have z:∀ a:UInt32,(((a.toNat:Int)=0)↔a=0):=λa=>at2 (b:=0);simp only[Bt,Ptr.mk.injEq,Sum.mk.injEq,z]
theorem d6h(p:Ptr)(H:AH):K tab orc lk 57 [.agg (Aj p)] H=some (.bool (Ct p),H):=by
 refine Ae l57 rfl rfl rfl ?_ H
 simp(disch:=omega)only[g57,t0,seval,Aj,b0d]
 congr 2
 obtain⟨a,b,c,d,e,f⟩:=p;rw[e6p,bt3,a07];simp only[e5v,e6n,e5h];omega
structure Uber where
 txg:Int
 guid:Int
 seat:Int
 root:Ptr
 deriving DecidableEq,Inhabited
def La(u:Uber):Bool:=decide (1<=u.txg)&&decide (u.txg<=1073741824)&&decide (0<=u.guid)&&decide (u.guid<=1073741824)&&decide (0<=u.seat)&&decide (u.seat<6)&&Ct u.root&&decide (u.root≠Bt)
theorem b5z(t g s a b:Int)(c d e f:UInt32)(H:AH):K tab orc lk 159 [.agg [.int .i64 t,.int .i64 g,.int .i64 s,.int .i64 a,.int .i64 b,.int .u32 c.toNat,.int .u32 d.toNat,.int .u32 e.toNat,.int .u32 f.toNat]] H=some (.bool (La ⟨t,g,s,⟨a,b,⟨c,d,e,f⟩⟩⟩),H):=by
 refine Ae da8 rfl rfl rfl ?_ H
 simp(disch:=omega)only[ah1,t0,seval,a9e]
 congr 2
 rw[e6p];simp only[La,e5v,e5h,e5n,<-e6a,ne_eq,a07]
end
section
variable {orc:CallF} {lk:FuncId->Bool}
def Tj(s:Sum):List AV:=[.int .u32 s.a.toNat,.int .u32 s.b.toNat,.int .u32 s.c.toNat,.int .u32 s.d.toNat]
def Q1(b:Bytes)(i:Nat):Sum:=((Ng b).take i).foldl av3 ⟨0,0,0,0⟩
theorem b4r(x y:UInt32):IntKind.u32.wrap ((x.toNat:Int)+(y.toNat:Int))=((x+y).toNat:Int):=by
 rw[IntKind.wrap_u32,UInt32.toNat_add];omega
theorem as0:∀ b:Bytes,(Ng b).length=(b.length+3)/4
 |[]=>rfl
 |[a]=>by simp[Ng]
 |[a,b]=>by simp[Ng]
 |[a,b,c]=>by simp[Ng]
 |x0::x1::x2::x3::l=>by simp only[Ng,e5w,as0 l];omega
theorem b4v:∀ (i:Nat) (b:Bytes),4*i<b.length->(Ng b).drop i=UInt32.ofNat (w4 ((b.drop (4*i)).take 4))::(Ng b).drop (i+1)
 |0,[x],_=>rfl
 |0,[x,y],_=>rfl
 |0,[x,y,z],_=>rfl
 |0,x0::x1::x2::x3::l,_=>rfl
 |i+1,[x],h=>by simp only[e5w,e6f]at h;omega
 |i+1,[x,y],h=>by simp only[e5w,e6f]at h;omega
 |i+1,[x,y,z],h=>by simp only[e5w,e6f]at h;omega
 |i+1,x0::x1::x2::x3::l,h=>by
   have:=b4v i l (by simp at h;omega);rw[Ng,e50,this,e50];rfl
 |_,[],h=>by simp at h
theorem b92(b:Bytes)(i:Nat)(h:4*i<b.length):Q1 b (i+1)=av3 (Q1 b i) (UInt32.ofNat (w4 ((b.drop (4*i)).take 4))):=by
 have h1:=b4v i b h;have h2:(Ng b)[i]?=some (UInt32.ofNat (w4 ((b.drop (4*i)).take 4))):=by
  have:=congrArg (·[0]?) h1;simpa using this
 unfold Q1;rw[e5p,h2,List.foldl_append];rfl
theorem a2u:∀ l:Bytes,w4 l<256 ^ l.length
 |[]=>by decide
 |x::l=>by
   have h:=a2u l;have hx:=x.toNat_lt;rw[w4,e5w,Nat.pow_succ];omega
theorem cx6{l:Bytes}(h:l.length<=3):w4 l<16777216:=by
 have:=a2u l;have h2:256 ^ l.length<=256 ^ 3:=Nat.pow_le_pow_right om h;omega
theorem d0s(l:Sl Bytes)(hl:(els l).flatten.length<=1000000)(hn:(els l).length<=1000000)(H:AH):K tab orc lk 90 [A4 B1 l] H=some (.agg (Tj (Ck (els l).flatten)),H):=by
 refine Ae l90 rfl (by simp only[t0]) rfl ?_ H
 simp(disch:=omega)only[g90,t0,seval];generalize hr:Ai _ _ _=r;refine Bb hr (els l).length
  (λj=>[A4 B1 l,.ptr 0 0 0 1,.str ((els l).take j).flatten,.int .i64 j,.top,.top,.top,.top,.top,.top,.top])
  (λj=>[some [[.int .u32 0,.int .u32 0,.int .u32 0,.int .u32 0]]]) (λj=>True) ?_ ?_ trivial ?_ ?_
 ·simp
 ·simp
 ·intro j hj _;have hj':((j:Int)<((els l).length:Int)):=om;have ht:=Dd hj;have hb:(((els l).take (j+1)).flatten).length<=(els l).flatten.length:=by
   conv=>rhs;rw[<-e4p (j+1) (els l),List.flatten_append,e58]
   omega
  rw[ht,List.flatten_append,e58]at hb;simp only[e5l,e65,e6l]at hb
  simp(disch:=first|omega|decide)only[t0,seval,hj',Bl,B1,e74];clear hr;simp[ht]
 ·intro _;rw[e68]
  simp(disch:=omega)only[t0,seval,e7f];clear hr
  generalize (els l).flatten=b at *;generalize hr:Ai _ _ _=r;refine Bb hr ((b.length+3)/4)
   (λj=>[.top,.ptr 0 0 0 1,.str b,.top,.ptr 1 0 0 1,.int .i64 (4*j:Nat),.top,.top,.top,.top,.top])
   (λj=>[some [[.int .u32 0,.int .u32 0,.int .u32 0,.int .u32 0]],some [Tj (Q1 b j)]]) (λj=>True) ?_ ?_ trivial ?_ ?_
  ·simp
  ·rfl
  ·intro j hj _;have hj':(((4*j:Nat):Int)<(b.length:Int)):=om;rw[b92 b j om];generalize Q1 b j=S
   simp(disch:=first|omega|decide)only[t0,seval,hj',Tj,e74];clear hr;generalize hr:Ai _ _ _=r;have hcl:((b.drop (4*j)).take 4).length=min 4 (b.length-4*j):=(by rw[e67,e60]);have hget:∀ k,k<4->4*j+k<b.length->b.getD (4*j+k) 0=((b.drop (4*j)).take 4).getD k 0:=by
    intro k hk h;simp[e42,List.getElem?_take,hk]
   generalize (b.drop (4*j)).take 4=ch at *;refine Ny (Q:=λr=>Rd _ _ _ _ (Hu _ _ (Cn _ _ (C2 _ (Cn _ _ (C2 _ r)))))) hr 4
    (λm=>[.top,.ptr 0 0 0 1,.str b,.top,.ptr 1 0 0 1,.int .i64 (4*j:Nat),.int .u32 (w4 (ch.drop (4-m)):Nat),.int .i64 (3-m),.top,.top,.top])
    (λm=>[some [[.int .u32 0,.int .u32 0,.int .u32 0,.int .u32 0]],some [[.int .u32 S.a.toNat,.int .u32 S.b.toNat,.int .u32 S.c.toNat,.int .u32 S.d.toNat]]]) (λm=>True) ?_ ?_ trivial ?_ ?_
   ·have:ch.drop 4=[]:=e4i om;simp[this,w4]
   ·rfl
   ·intro m hm _;have hw:w4 (ch.drop (4-m))<16777216:=cx6 (by rw[e60];omega);have hv:w4 (ch.drop (4-(m+1)))=if 4*j+(3-m)<b.length then(ch.getD (3-m) 0).toNat+256*w4 (ch.drop (4-m))else 256*w4 (ch.drop (4-m)):=by
     have e1:4-(m+1)=3-m:=om;have e2:4-m=(3-m)+1:=om;rw[e1,e2];by_cases h:3-m<ch.length
     ·rw[if_pos om,e46 h,w4,e42,e47 h];rfl
     ·rw[if_neg om,e4i om,e4i om];rfl
    have hb:=(ch.getD (3-m) 0).toNat_lt;by_cases hlt:4*j+(3-m)<b.length
    ·have hg:=hget (3-m) om hlt;have e:((4*j:Nat):Int)+(3-(m:Int))=((4*j+(3-m):Nat):Int):=om;rw[hv,if_pos hlt]
     simp(disch:=first|omega|decide)only[t0,seval,e74,IntWalk.u32_in,e,hg];simp;omega
    ·rw[hv,if_neg hlt]
     simp(disch:=first|omega|decide)only[t0,seval,e74,IntWalk.u32_in];simp;omega
   ·intro _;have e4:ch.drop (4-4)=ch:=rfl;rw[e4];have hw:w4 ch<4294967296:=by
     have:=a2u ch;have h2:256 ^ ch.length<=256 ^ 4:=Nat.pow_le_pow_right om om;omega
    have hW:((w4 ch:Nat):Int)=((UInt32.ofNat (w4 ch)).toNat:Int):=(by rw[UInt32.toNat_ofNat'];omega);rw[hW];generalize UInt32.ofNat (w4 ch)=W
    simp(disch:=first|omega|decide)only[t0,seval,e74];clear hr
    iterate 5 (rw[T3];simp(disch:=first|omega|decide)only[t0,seval,e74,b4r])
    refine⟨?_,rfl⟩;have e:(((4*j:Nat):Int)+4)=((4*(j+1):Nat):Int):=om;rw[e]
  ·intro _;have e:Q1 b ((b.length+3)/4)=Ck b:=(by unfold Q1 Ck;rw[<-as0,e68]);rw[e];generalize Ck b=S
   simp(disch:=omega)only[t0,seval,Tj]
end
section
variable {orc:CallF} {lk:FuncId->Bool}
theorem ba1(c:UInt8):Zt c=if(decide ((c.toNat:Int)-48<1)||decide (4<(c.toNat:Int)-48))=true then none else some (Cd c):=by
 unfold Zt Cd;by_cases h:49<=c.toNat/\c.toNat<=52
 ·rw[if_pos h,if_neg (by simp;omega)]
 ·rw[if_neg h,if_pos (by simp;omega)]
theorem e23(n:Int):Hl [[AV.int IntKind.u8 n]]=some [UInt8.ofNat n.toNat]:=rfl
theorem e2j(k:Nat)(x:Int)(m:Nat)(h:m<k)(hk:k<=4):(E3 k x).take (m+1)=(E3 k x).take m++[UInt8.ofNat (IntKind.u8.wrap (x.fdiv (2 ^ min (8*((k:Int)-1-m)).toNat IntKind.i64.bits))).toNat]:=by
 rw[e5p,b34 k x m h,b4s];have e1:min (8*((k:Int)-1-m)).toNat IntKind.i64.bits=8*(k-1-m):=by
  have:IntKind.i64.bits=64:=rfl;omega
 rw[e1,Int.fdiv_eq_ediv_of_nonneg _ (Int.pow_nonneg om),e5s,UInt8.ofNat_toNat];rfl
theorem a8v(form:Bytes)(hl:form.length<=1000000)(l:Sl Int)(H:AH):K tab orc lk 30 [.str form,A4 D5 l] H=some (.str (Q9 form (els l)),H):=by
 refine Ae l30 rfl (by simp only[t0]) rfl ?_ H
 simp(disch:=omega)only[g30,t0,seval];by_cases h:form.length=(els l).length
 ·rw[if_neg (by simp[h])];generalize hr:Ai _ _ _=r;refine Bb hr form.length
   (λj=>[.str form,A4 D5 l,.top,.str (B5 ((form.take j).map Cd) ((els l).take j)),.int .i64 j,.top,.top])
   (λj=>[]) (λj=>Ep form=(Ep (form.drop j)).map ((form.take j).map Cd++·)/\(B5 ((form.take j).map Cd) ((els l).take j)).length<=4*j) ?_ ?_ ?_ ?_ ?_
  ·simp[B5]
  ·simp
  ·simp[B5]
  ·rintro j hj ⟨hI,hp⟩;have hj':((j:Int)<(form.length:Int)):=om;have hj2:((j:Int)<((els l).length:Int)):=om;have ht:=Dd hj;have hp1:B5 ((form.take (j+1)).map Cd) ((els l).take (j+1))=B5 ((form.take j).map Cd) ((els l).take j)++E3 (Cd (form.getD j default)) ((els l).getD j default):=by
    rw[ht,Dd (h▸hj:j<(els l).length),e6o,e75,e7k,az6 _ _ _ _ (by rw[e6i,e67,e67];omega)]
   rw[hp1,ht];rw[Gd hj,Ep,ba1]at hI;have hc:(form.getD j 0)=form.getD j default:=rfl;have hcb:=(form.getD j default).toNat_lt
   simp(disch:=first|omega|decide)only[t0,seval,hj',hj2,Bl,D5,e74,hc];clear hr;generalize B5 ((form.take j).map Cd) ((els l).take j)=pre at *;generalize form.getD j default=c at *;generalize hx:(els l).getD j default=x at *;refine⟨λg=>?_,λg=>?_⟩
   ·rw[if_pos g]at hI;simp only[e6g]at hI;simp[Q9,hI]
   ·rw[if_neg g]at hI;have hs:((Cd c:Nat):Int)=(c.toNat:Int)-48:=by
     simp at g;unfold Cd;omega
    have hk:1<=Cd c/\Cd c<=4:=(by simp at g;unfold Cd;omega);rw[<-hs];generalize hkc:Cd c=k at *;generalize hr:Ai _ _ _=r;refine Ny (Q:=λr=>Rd _ _ _ _ (Hu _ _ (Cn _ _ (C2 _ (C2 _ r))))) hr k
     (λm=>[.str form,A4 D5 l,.top,.str (pre++(E3 k x).take m),.int .i64 j,.top,.int .i64 (k-1-m)])
     (λm=>[]) (λ_=>True) ?_ ?_ trivial ?_ ?_
    ·simp
    ·rfl
    ·intro m hm _;have hbl:((E3 k x).take m).length=m:=(by rw[e67,Tq];omega);rw[e2j k x m hm hk.2]
     simp(disch:=first|omega|decide)only[t0,seval,hj2,Bl,D5,e74,hx,e23,hbl];clear hr;simp;omega
    ·intro _;have et:(E3 k x).take k=E3 k x:=e4h (by rw[Tq];exact e7y k);rw[et]
     simp(disch:=first|omega|decide)only[t0,seval,e74];clear hr;rw[hI,Tq];refine⟨by simp,?_,by omega⟩;cases Ep (form.drop (j+1))<;>simp[hkc]
  ·rintro⟨hI,hp⟩;have e:Q9 form (els l)=B5 ((form.take form.length).map Cd) ((els l).take form.length):=by
    rw[e69,Ep]at hI;unfold Q9;rw[hI];simp[h]
   rw[e]
   simp(disch:=omega)only[t0,seval,e7f]
 ·rw[if_pos (by simp[h];omega)];unfold Q9;cases hs:Ep form with
  |none=>rfl
  |some ks=>simp only[];rw[if_neg (by rw[a8c hs];exact h)]
end
section
variable {orc:CallF} {lk:FuncId->Bool}
theorem b8v(form:Bytes)(hl:form.length<=1000000)(s:Bytes)(H:AH):K tab orc lk 25 [.str form,.str s] H=some (He form s,H):=by
 refine Ae l25 rfl rfl (by unfold He;split<;>rfl) ?_ H
 simp(disch:=omega)only[g25,t0,seval];generalize hr:Ai _ _ _=r;refine Bb hr form.length
  (λj=>[.str form,.str (s.drop ((form.take j).map Cd).sum),.top,.top,.top,.own 0 1 0 j j,.int .i64 j,.top,.top,.top,.top,.top])
  (λj=>[some ((B0 ((form.take j).map Cd) s).map λn=>[.int .i64 n])]) (λj=>Ep form=(Ep (form.drop j)).map ((form.take j).map Cd++·)/\((form.take j).map Cd).sum<=s.length) ?_ ?_ ?_ ?_ ?_
 ·simp
 ·simp[B0]
 ·simp
 ·rintro j hj ⟨hI,hp⟩;have hj':((j:Int)<(form.length:Int)):=om;have ht:=Dd hj;have hpl:((form.take j).map Cd).length=j:=by rw[e6i,e67];omega
  have hsl:=e60 (l:=s) (i:=((form.take j).map Cd).sum);rw[ht,e6o,e75,e7k,au9,List.sum_append,e7b,List.sum_nil,e7l,<-e6v];rw[Gd hj,Ep,ba1]at hI;have hc:(form.getD j 0)=form.getD j default:=rfl;have hcb:=(form.getD j default).toNat_lt
  simp(disch:=first|omega|decide)only[t0,seval,hj',e74,hc];clear hr;have htl:=Zq ((form.take j).map Cd) s;generalize B0 ((form.take j).map Cd) s=pre at *;generalize hps:(form.take j).map Cd=ps at *;generalize form.getD j default=c at *;generalize hT:s.drop ps.sum=t at *;refine⟨λg=>?_,λg=>?_⟩
  ·have hno:Fo form s=none:=by
    unfold Fo;by_cases g1:(decide ((c.toNat:Int)-48<1)||decide (4<(c.toNat:Int)-48))=true
    ·rw[if_pos g1]at hI;simp only[e6g]at hI;rw[hI]
    ·rw[if_neg g1]at hI;have hs:((Cd c:Nat):Int)=(c.toNat:Int)-48:=(by simp at g1;unfold Cd;omega);have g2:(t.length:Int)<(c.toNat:Int)-48:=(by simp at g g1;omega);rw[hI];cases Ep (form.drop (j+1))with
     |none=>rfl
     |some ks=>
       simp only[e6h];rw[if_neg];rw[List.sum_append,e7b];omega
   unfold He;rw[hno]
  ·have g1:¬ (decide ((c.toNat:Int)-48<1)||decide (4<(c.toNat:Int)-48))=true:=(by simp at g ⊢;omega);rw[if_neg g1]at hI;have hs:((Cd c:Nat):Int)=(c.toNat:Int)-48:=(by simp at g1;unfold Cd;omega);have hk:1<=Cd c/\Cd c<=4:=(by simp at g1;unfold Cd;omega);have hkl:Cd c<=t.length:=(by simp at g;omega);rw[<-hs];generalize hkc:Cd c=k at *;generalize hr:Ai _ _ _=r;refine Ny (Q:=λr=>Rd _ _ _ _ (Hu _ _ (Cn _ _ (C2 _ (Cn _ _ (C2 _ r)))))) hr k
    (λm=>[.str form,.str t,.top,.top,.top,.own 0 1 0 j j,.int .i64 j,.int .i64 k,.int .i64 (B4 (t.take m)),.int .i64 m,.top,.top])
    (λm=>[some (pre.map λn=>[.int .i64 n])]) (λ_=>True) ?_ ?_ trivial ?_ ?_
   ·simp[B4]
   ·rfl
   ·intro m hm _;have hm':((m:Int)<(k:Int)):=om;have h0:=Rb (t.take m);have h1:=b5x (b:=t.take m) (by rw[e67];omega);have hmt:=Dd (show m<t.length by omega);have hg:t.getD m 0=t.getD m default:=rfl;have hcb:=(t.getD m default).toNat_lt;rw[hmt,b5w]
    simp(disch:=first|omega|decide)only[t0,seval,e74,hm',hg];clear hr;simp
   ·intro _
    simp(disch:=try exact dz)only[t0,seval,e74,e7f];clear hr;refine⟨?_,?_,?_,?_⟩
    ·rw[e68,<-hT,e6v];simp
    ·simp
    ·rw[hI,e6v];cases Ep (form.drop (j+1))<;>simp
    ·omega
 ·rintro⟨hI,hp⟩;rw[e69,e68,Ep]at hI;simp only[e6h,e6l]at hI;rw[e68]at hp;have e:Fo form s=some (B0 (form.map Cd) s,s.drop (form.map Cd).sum):=by
   unfold Fo;rw[hI];simp only[];rw[if_pos hp]
  unfold He;rw[e,e68];have htl:=Zq (form.map Cd) s;rw[e6i]at htl;generalize B0 (form.map Cd) s=pre at *
  simp(disch:=omega)only[t0,seval,e7f,<-htl,F4];rfl
end
section
variable {orc:CallF}
def A5(f:FuncId):Bool:=[39,30,121,59,70,90,33,167,186,187,113,140,91,31,66,117,36,62,118,80,106,131,69,12,43,37,184,15,14,197,177,178,179,147,193,74,132,7,51,49,88,1000000].contains f
theorem as2(a:AV)(r sz o l t:Nat)(H:AH):K tab orc A5 30 [a,.own r sz o l t] H=Hn tab orc A5 30 [a,.own r sz o l t] H (Aa (B3 H [a,.own r sz o l t])) (K tab orc A5 30 (B3 H [a,.own r sz o l t]) H):=Nf _ _ _ rfl _ _
theorem d2w(a b c d e f:Int)(H:AH):K tab orc A5 30 [.str [50,52,52,52,52,52],.fz [[.int .i64 a],[.int .i64 b],[.int .i64 c],[.int .i64 d],[.int .i64 e],[.int .i64 f]]] H=some (.str (Q9 [50,52,52,52,52,52] [a,b,c,d,e,f]),H):=a8v _ (by decide) (some [a,b,c,d,e,f]) H
theorem d36(p:Ptr):Q9 [50,52,52,52,52,52] [p.addr,p.birth,p.sum.a.toNat,p.sum.b.toNat,p.sum.c.toNat,p.sum.d.toNat]=Eu p:=rfl
theorem b0k(a b:Int)(c d e f:UInt32)(H:AH):K tab orc A5 57 [.agg [.int .i64 a,.int .i64 b,.int .u32 c.toNat,.int .u32 d.toNat,.int .u32 e.toNat,.int .u32 f.toNat]] H=some (.bool (Ct ⟨a,b,⟨c,d,e,f⟩⟩),H):=d6h ⟨a,b,⟨c,d,e,f⟩⟩ H
theorem a5h(m:List Ptr):((m.map Eu).flatten).length=22*m.length:=by
 induction m with
 |nil=>rfl
 |cons p m ih=>rw[e75,e5l,e58,Xb,ih,e5w];omega
theorem d30(l:Sl Ptr)(hl:(els l).length<=1000000)(H:AH):K tab orc A5 59 [A4 Al l] H=some (.str (Et (els l)),H):=by
 refine Ae l59 rfl (by simp only[t0]) rfl ?_ H
 simp(disch:=omega)only[g59,t0,seval];generalize hr:Ai _ _ _=r;refine Bb hr (els l).length
  (λj=>[A4 Al l,.top,.str (((els l).take j).map Eu).flatten,.int .i64 j,.top,.top])
  (λj=>[]) (λj=>Et (els l)=if((els l).drop j).all Ct=true then(((els l).take j).map Eu).flatten++(((els l).drop j).map Eu).flatten else []) ?_ ?_ ?_ ?_ ?_
 ·simp
 ·simp
 ·simp[Et]
 ·intro j hj hI;have hj':((j:Int)<((els l).length:Int)):=om;have ht:=Dd hj;rw[Gd hj]at hI;have hlen:((((els l).take j).map Eu).flatten).length<=22*1000000:=by rw[a5h,e67];omega
  have hpl:=Xb ((els l).getD j default);have u:∀ x:UInt32,x.toNat<4294967296:=λx=>x.toNat_lt;have ua:=u ((els l).getD j default).sum.a;have ub:=u ((els l).getD j default).sum.b;have uc:=u ((els l).getD j default).sum.c;have ud:=u ((els l).getD j default).sum.d
  simp(disch:=first|omega|decide)only[t0,seval,hj',Bl,Al,b0k,Sq,as2,d2w,d36,e74];clear hr
  generalize (els l).getD j default=p at *;refine⟨λh=>?_,λh=>?_⟩
  ·have h:Ct p=false:=(by simpa using h);rw[hI];simp[h]
  ·have h:Ct p=true:=(by simpa using h);refine⟨?_,?_⟩
   ·simp[ht]
   ·rw[hI,ht];simp[h]
 ·intro hI
  simp(disch:=omega)only[t0,seval,e7f];simp at hI;simp[hI]
end
section
variable {orc:CallF}
theorem b2v:∀ n:Nat,Hl (List.replicate n [AV.int IntKind.u8 0])=some (zs n)
 |0=>rfl
 |n+1=>by rw[e4x,Hl,b2v n];rfl
theorem d5y(n:Int)(hn:n<=1000000)(H:AH):K tab orc A5 61 [.int .i64 n] H=some (.str (zs n.toNat),H):=by
 refine Ae l61 rfl rfl rfl ?_ H;have e:(max n 0).toNat=n.toNat:=om
 simp(disch:=omega)only[g61,t0,seval,if_pos,e68,List.take_replicate,Nat.min_self,e,b2v];have e2:(if 0>n then 0 else n).toNat=n.toNat:=by split<;>omega
 rw[e2]
theorem cx7(r sz o l t:Nat)(H:AH):K tab orc A5 90 [.own r sz o l t] H=Hn tab orc A5 90 [.own r sz o l t] H (Aa (B3 H [.own r sz o l t])) (K tab orc A5 90 (B3 H [.own r sz o l t]) H):=Nf _ _ _ rfl _ _
theorem d0t(b:Bytes)(hb:b.length<=1000000)(H:AH):K tab orc A5 90 [.fz [[.str b]]] H=some (.agg [.int .u32 (Ck b).a.toNat,.int .u32 (Ck b).b.toNat,.int .u32 (Ck b).c.toNat,.int .u32 (Ck b).d.toNat],H):=by
 have:=d0s (orc:=orc) (lk:=A5) (some [b]) (by simpa [els]using hb) (by simp[els]) H;simpa [els,A4,B1,Tj]using this
theorem d5n(b:Bytes)(hb:b.length<=1000000)(H:AH):K tab orc A5 60 [.str b] H=some (.agg [.int .u32 (Ck b).a.toNat,.int .u32 (Ck b).b.toNat,.int .u32 (Ck b).c.toNat,.int .u32 (Ck b).d.toNat],H):=by
 refine Ae l60 rfl rfl rfl ?_ H
 simp(disch:=omega)only[g60,t0,seval,cx7,d0t]
end
section
variable {orc:CallF}
theorem e1v(E:CallF)(a:List Opd)(c:Nat)(V:Opd->AV)(H:AH)(args:List AV):Jw A5 E 30 a c V H args false=Vn (Hq A5 E 30 a c V H) (F7 H args) c H (E 30 (B3 H args) []):=a61 rfl _ _ _ _ _ _
theorem d2y(a b c:Int)(H:AH):K tab orc A5 30 [.str [49,52,50],.fz [[.int .i64 a],[.int .i64 b],[.int .i64 c]]] H=some (.str (B5 [1,4,2] [a,b,c]),H):=a8v _ (by decide) (some [a,b,c]) H
theorem U8(n:Nat):(zs n).length=n:=e4n
end
section
variable {orc:CallF}
theorem az7(x:Block):(Ew x).length<=256:=by
 by_cases h:Jp x=true
 ·rw[d37 h];exact e7y _
 ·unfold Ew;rw[if_neg h];exact e7w _
def Sa(at':Int)(x:Block):Ptr:=⟨at',x.birth,Ck (Ew x)⟩
end
section
variable {orc:CallF}
def a36(s:Sum):List Int:=[s.a.toNat,s.b.toNat,s.c.toNat,s.d.toNat]
def Wz(s:Bytes):Bytes:=s++B5 [4,4,4,4] (a36 (Ck s))++zs (240-s.length)
theorem d2x(a b c d:Int)(H:AH):K tab orc A5 30 [.str [52,52,52,52],.fz [[.int .i64 a],[.int .i64 b],[.int .i64 c],[.int .i64 d]]] H=some (.str (B5 [4,4,4,4] [a,b,c,d]),H):=a8v _ (by decide) (some [a,b,c,d]) H
theorem bb5(s:Bytes)(hs:s.length<=100000)(H:AH):K tab orc A5 29 [.str s] H=some (.str (Wz s),H):=by
 refine Ae l29 rfl rfl rfl ?_ H;have u:∀ x:UInt32,x.toNat<4294967296:=λx=>x.toNat_lt;have ua:=u (Ck s).a;have ub:=u (Ck s).b;have uc:=u (Ck s).c;have ud:=u (Ck s).d;have T6:(B5 [4,4,4,4] [((Ck s).a.toNat:Int),(Ck s).b.toNat,(Ck s).c.toNat,(Ck s).d.toNat]).length=16:=Fc _ _ rfl
 simp(disch:=first|omega|decide)only[g29,t0,seval,d5n,as2,d2x,d5y,if_pos,e74,T6,U8];have e:(256-((s.length+16:Nat):Int)).toNat=240-s.length:=om;rw[e];rfl
theorem d6f(t g s a b:Int)(c d e f:UInt32)(H:AH):K tab orc A5 58 [.agg [.int .i64 t,.int .i64 g,.int .i64 s,.int .i64 a,.int .i64 b,.int .u32 c.toNat,.int .u32 d.toNat,.int .u32 e.toNat,.int .u32 f.toNat]] H=some (.bool (La ⟨t,g,s,⟨a,b,⟨c,d,e,f⟩⟩⟩),H):=by
 refine Ae l58 rfl rfl rfl ?_ H
 simp(disch:=omega)only[g58,t0,seval,b0k,b0d]
 congr 2
 rw[e6p];simp only[La,e5v,e5h,ne_eq,bt3,a07];omega
def J7(guid data:Int):Bytes:=if(decide (0<=guid)&&decide (guid<=1073741824)&&Ei data)=true then Wz (B5 [1,4,2] [172,guid,data])else []
theorem e1a(guid data:Int)(H:AH):K tab orc A5 11 [.int .i64 guid,.int .i64 data] H=some (.str (J7 guid data),H):=by
 refine Ae l11 rfl rfl rfl ?_ H;have h7:(B5 [1,4,2] [172,guid,data]).length=7:=Fc _ _ rfl
 simp(disch:=first|omega|decide)only[g11,t0,seval,b0d,a0h,as2,d2y,bb5,if_pos,e74];unfold J7;cases h1:decide (0<=guid)<;>cases h2:decide (guid<=1073741824)<;>cases h3:Ei data<;>simp
end
section
variable {orc:CallF}
theorem d2z(a b c d:Int)(H:AH):K tab orc A5 30 [.str [49,52,52,49],.fz [[.int .i64 a],[.int .i64 b],[.int .i64 c],[.int .i64 d]]] H=some (.str (B5 [1,4,4,1] [a,b,c,d]),H):=a8v _ (by decide) (some [a,b,c,d]) H
theorem cx9(r sz o l t:Nat)(H:AH):K tab orc A5 59 [.own r sz o l t] H=Hn tab orc A5 59 [.own r sz o l t] H (Aa (B3 H [.own r sz o l t])) (K tab orc A5 59 (B3 H [.own r sz o l t]) H):=Nf _ _ _ rfl _ _
theorem d31(a b:Int)(c d e f:UInt32)(H:AH):K tab orc A5 59 [.fz [[.int .i64 a,.int .i64 b,.int .u32 c.toNat,.int .u32 d.toNat,.int .u32 e.toNat,.int .u32 f.toNat]]] H=some (.str (Et [⟨a,b,⟨c,d,e,f⟩⟩]),H):=d30 (some [⟨a,b,⟨c,d,e,f⟩⟩]) (by simp[els]) H
def Q6(u:Uber):Bytes:=if La u=true then Wz (B5 [1,4,4,1] [171,u.txg,u.guid,u.seat]++Eu u.root)else []
theorem d2r(t g s a b:Int)(c d e f:UInt32)(H:AH):K tab orc A5 27 [.agg [.int .i64 t,.int .i64 g,.int .i64 s,.int .i64 a,.int .i64 b,.int .u32 c.toNat,.int .u32 d.toNat,.int .u32 e.toNat,.int .u32 f.toNat]] H=some (.str (Q6 ⟨t,g,s,⟨a,b,⟨c,d,e,f⟩⟩⟩),H):=by
 refine Ae l27 rfl rfl rfl ?_ H;have Va:(B5 [1,4,4,1] [171,t,g,s]).length=10:=Fc _ _ rfl;have hp:(Et [⟨a,b,⟨c,d,e,f⟩⟩]).length<=22:=by
  unfold Et;split
  ·rw[a5h];simp
  ·simp
 have hsz:(B5 [1,4,4,1] [171,t,g,s]++Et [⟨a,b,⟨c,d,e,f⟩⟩]).length<=100000:=by rw[e58,Va];omega
 simp(disch:=try exact dz)only[g27,t0,seval,d6f,e1v,d2z,cx9,d31,bb5,if_pos,e74,Va];unfold Q6;cases hm:La ⟨t,g,s,⟨a,b,⟨c,d,e,f⟩⟩⟩with
 |false=>rfl
 |true=>
   have hq:Ct ⟨a,b,⟨c,d,e,f⟩⟩=true:=(by simp only[La,e5v]at hm;exact hm.1.2);simp[Et,hq]
end
def Ri:List (List PV)->Option (List Bytes)
 |[]=>some []
 |[.str s]::l=>(Ri l).map λm=>s::m
 |_::_=>none
def Xq:AObj->Option (List Int)
 |[]=>some []
 |[.int .i64 n]::l=>(Xq l).map λm=>n::m
 |_::_=>none
def O0(sep:Bytes):List Bytes->Bytes
 |[]=>[]
 |[x]=>x
 |x::y::l=>x++(sep++O0 sep (y::l))
def Ht:AV->Option (List (List PV))
 |.emp=>some []
 |.fz es=>some es
 |_=>none
def a4e:CallF:=λ_ args H=>match args,H with
 |[x,.str sep],[]=>((Ht x).bind Ri).bind λl=>if l.length<=1000000/\(O0 sep l).length<=1000000 then some (.str (O0 sep l),[])else none
 |_,_=>none
def X7(s:Bytes):Nat->Bytes
 |0=>[]
 |n+1=>s++X7 s n
def a3n:CallF:=λ_ args H=>match args,H with
 |[.str s,.int .i64 n],[]=>if 0<=n/\n<=1000000/\s.length*n.toNat<=1000000 then some (.str (X7 s n.toNat),[])else none
 |_,_=>none
def T4(c:UInt8):Bytes->Int
 |[]=>-1
 |x::l=>if x=c then 0 else if T4 c l<0 then -1 else T4 c l+1
def a4i:CallF:=λ_ args H=>match args,H with
 |[.str s,.int .u8 n],[]=>if s.length<=1000000/\0<=n/\n<256 then some (.int .i64 (T4 (UInt8.ofNat n.toNat) s),[])else none
 |_,_=>none
def a4f:CallF:=λ_ args H=>match args,H with
 |[.int .i64 n],[]=>if 0<=n/\n<=9 then some (.str (Dz n.toNat),[])else none
 |_,_=>none
def Fi(sz:Nat)(z:Bool):CallF:=λ_ args H=>match args,H with
 |[.fz es],[]=>if es.all (λe=>decide (e.length=sz))=true/\es.length<=1000000/\(es.isEmpty=false\/z=true)then some (.own 0 sz 0 es.length es.length,[some (es.map λe=>e.map emb)])else none
 |[.emp],[]=>if z=true then some (.own 0 sz 0 0 0,[some []])else none
 |[.own r s 0 n t],[some o]=>if r=0/\s=sz/\n=t/\t=o.length/\o.all (λe=>decide (e.length=sz))=true/\refsO (some o)=[]/\o.length<=1000000/\(o.isEmpty=false\/z=true)then some (.own 1 sz 0 n n,[some o,some o])else none
 |_,_=>none
def a5y(sz:Nat):CallF:=λ_ args H=>match args,H with
 |[.own 0 1 0 2 2],[some [[x],[y]]]=>(Ht x).bind λa=>(Ht y).bind λb=>if(a++b).all (λe=>decide (e.length=sz))=true/\(a++b).length<=1000000 then some (.fz (a++b),[some [[x],[y]]])else none
 |_,_=>none
def Ib(n:Int):List Int->List Int
 |[]=>[n]
 |x::l=>if n<=x then n::x::l else x::Ib n l
def Cr(l:List Int):List Int:=l.foldr Ib []
def a3b:CallF:=λ_ args H=>match args,H with
 |[.emp],[]=>some (.tuple [],[])
 |[.own r 1 0 n t],[some o]=>if r=0/\n=t/\t=o.length/\o.length<=100000 then(Xq o).map λl=>(.tuple [],[some ((Cr l).map λn=>[.int .i64 n])])else none
 |_,_=>none
def Uv:List (List PV)->Option (List (Int×Bytes))
 |[]=>some []
 |[.int .i64 n,.str s]::l=>(Uv l).map λm=>(n,s)::m
 |_::_=>none
def a05:CallF:=λ_ args H=>match args,H with
 |[.agg [l,w,.int .i64 _,.int .i64 _,.bool down],.int .i64 i],[]=>((Ht l).bind Ri).bind λl=>((Ht w).bind Uv).bind λw=>
   if l.length<=1000000/\w.length<=1000000 then(match Gp ⟨some l,some w,0,0,down⟩ i with
    |some s=>some (.tuple [.str s,.bool true],[])
    |none=>some (.tuple [.str [],.bool false],[]))else none
 |_,_=>none
def A7:CallF:=λf args H=>
 if f=98 then a4e f args H else
 if f=71 then a3n f args H else
 if f=210 then a4i f args H else
 if f=213 then a4f f args H else
 if f=52 then Fi 1 true f args H else
 if f=53 then Fi 2 true f args H else
 if f=54 then Fi 2 true f args H else
 if f=55 then Fi 5 true f args H else
 if f=56 then Fi 5 true f args H else
 if f=114 then Fi 1 true f args H else
 if f=171 then a5y 2 f args H else
 if f=154 then a3b f args H else
 if f=132 then a05 f args H else
  none
theorem d3w(args:List AV)(H:AH):A7 98 args H=a4e 98 args H:=kk
theorem d5t:A9 tab 98=none:=kk
theorem d3u(args:List AV)(H:AH):A7 71 args H=a3n 71 args H:=kk
theorem d5r:A9 tab 71=none:=kk
theorem d3y(args:List AV)(H:AH):A7 210 args H=a4i 210 args H:=kk
theorem d5v:A9 tab 210=none:=kk
theorem d3x(args:List AV)(H:AH):A7 213 args H=a4f 213 args H:=kk
theorem d5u:A9 tab 213=none:=kk
theorem bn9(args:List AV)(H:AH):A7 52 args H=Fi 1 true 52 args H:=kk
theorem br5:A9 tab 52=none:=kk
theorem bo0(args:List AV)(H:AH):A7 53 args H=Fi 2 true 53 args H:=kk
theorem br6:A9 tab 53=none:=kk
theorem a95(args:List AV)(H:AH):A7 54 args H=Fi 2 true 54 args H:=kk
theorem a99:A9 tab 54=none:=kk
theorem d40(args:List AV)(H:AH):A7 55 args H=Fi 5 true 55 args H:=kk
theorem d5x:A9 tab 55=none:=kk
theorem bo1(args:List AV)(H:AH):A7 56 args H=Fi 5 true 56 args H:=kk
theorem br7:A9 tab 56=none:=kk
theorem b05(args:List AV)(H:AH):A7 114 args H=Fi 1 true 114 args H:=kk
theorem b0e:A9 tab 114=none:=kk
theorem d3z(args:List AV)(H:AH):A7 171 args H=a5y 2 171 args H:=kk
theorem d5w:A9 tab 171=none:=kk
theorem d3t(args:List AV)(H:AH):A7 154 args H=a3b 154 args H:=kk
theorem d5q:A9 tab 154=none:=kk
theorem d3v(args:List AV)(H:AH):A7 132 args H=a05 132 args H:=kk
theorem d5s:A9 tab 132=none:=kk
theorem av6:∀ l:List Bytes,Ri (l.map B1)=some l
 |[]=>rfl
 |s::l=>by rw[e75,B1,Ri,av6 l];rfl
theorem bj7:∀ l:List (Int×Bytes),Uv (l.map B2)=some l
 |[]=>rfl
 |(n,s)::l=>by rw[e75,B2,Uv,bj7 l];rfl
theorem c2t:∀ l:List Int,Xq (l.map λn=>[.int .i64 n])=some l
 |[]=>rfl
 |n::l=>by rw[e75,Xq,c2t l];rfl
theorem ax0{α:Type}(p:α->List PV)(x:Sl α):Ht (A4 p x)=some ((els x).map p):=by cases x<;>rfl
theorem b0q:∀ l:List Bytes,O0 [] l=l.flatten
 |[]=>rfl
 |[x]=>by simp[O0]
 |x::y::l=>by rw[O0,b0q (y::l)];simp
theorem be7:∀ n:Nat,X7 [0] n=zs n
 |0=>rfl
 |n+1=>by rw[X7,be7 n];rfl
theorem df9(l:Sl Bytes)(sep:Bytes)(h1:(els l).length<=1000000)(h2:(O0 sep (els l)).length<=1000000)(H:AH):K tab A7 A5 98 [A4 B1 l,.str sep] H=some (.str (O0 sep (els l)),H):=by
 refine a7a d5t (by simp[Aa,Ab,Ak]) rfl ?_ H;rw[d3w];simp only[a4e,ax0,e5y,av6];rw[if_pos ⟨h1,h2⟩]
theorem a3m(n:Int)(h0:0<=n)(h1:n<=1000000)(H:AH):K tab A7 A5 71 [.str [0],.int .i64 n] H=some (.str (zs n.toNat),H):=by
 refine a7a d5r rfl rfl ?_ H;rw[d3u];simp only[a3n];rw[if_pos ⟨h0,h1,by simp;omega⟩,be7]
theorem e0w(last:Sl Bytes)(wait:Sl (Int×Bytes))(lies arm:Int)(down:Bool)(i:Int)(h1:(els last).length<=1000000)(h2:(els wait).length<=1000000)(H:AH):K tab A7 A5 132 [.agg [A4 B1 last,A4 B2 wait,.int .i64 lies,.int .i64 arm,.bool down],.int .i64 i] H=some (.tuple [.str ((Gp ⟨last,wait,lies,arm,down⟩ i).getD []),.bool (Gp ⟨last,wait,lies,arm,down⟩ i).isSome],H):=by
 refine a7a d5s (by simp[Aa,Ab,Ak]) (by rfl) ?_ H;rw[d3v];simp only[a05,ax0,e5y,av6,bj7];rw[if_pos ⟨h1,h2⟩];have e:Gp ⟨some (els last),some (els wait),0,0,down⟩ i=Gp ⟨last,wait,lies,arm,down⟩ i:=rfl;rw[e];cases Gp ⟨last,wait,lies,arm,down⟩ i<;>rfl
theorem KQ(f:FuncId)(h:A5 f=false)(args:List AV)(H:AH):K tab A7 A5 f args H=inH (Ev tab A7 A5) f args H (Iy H (H.length*4+40) (C1 args) []):=ar3 tab A7 A5 h args H
end Go.Proofs.YtbngojdlgfhacaaGreatDoor.Abs
section
namespace Go.Proofs
open Go.Shelf
def Tryz.lays156_ren:Go.Shelf.Ren:=⟨fun|156=>98|165=>101|166=>102|169=>104|240=>145|241=>146|276=>175|277=>176|n=>n,fun|31=>23|9=>9|3=>3|4=>4|0=>0|20=>20|72=>183|76=>187|70=>181|37=>98|75=>186|127=>225|164=>261|5=>5|80=>189|n=>n,fun|n=>n⟩
theorem Tryz.lays156:Go.Proofs.Lays.n156 Tryz.prog Tryz.lays156_ren:={
 mixed:=by kernel_rfl
 f156:=Tryz.func98.trans (congrArg some (by kernel_rfl))
 f165:=Tryz.func101.trans (congrArg some (by kernel_rfl))
 f166:=Tryz.func102.trans (congrArg some (by kernel_rfl))
 f169:=Tryz.func104.trans (congrArg some (by kernel_rfl))
 f240:=Tryz.func145.trans (congrArg some (by kernel_rfl))
 f241:=Tryz.func146.trans (congrArg some (by kernel_rfl))
 f276:=Tryz.func175.trans (congrArg some (by kernel_rfl))
 f277:=Tryz.func176.trans (congrArg some (by kernel_rfl))
 t0:=Tryz.underlying0
 a0:=Tryz.isAgg0
 z0:=Tryz.sizeOf0
 v0:=Tryz.zeroValue0
 t3:=Tryz.underlying3
 a3:=Tryz.isAgg3
 z3:=Tryz.sizeOf3
 v3:=Tryz.zeroValue3
 t4:=Tryz.underlying4
 a4:=Tryz.isAgg4
 z4:=Tryz.sizeOf4
 v4:=Tryz.zeroValue4
 t9:=Tryz.underlying9
 a9:=Tryz.isAgg9
 z9:=Tryz.sizeOf9
 v9:=Tryz.zeroValue9
 t20:=Tryz.underlying20
 a20:=Tryz.isAgg20
 z20:=Tryz.sizeOf20
 v20:=Tryz.zeroValue20
 t31:=Tryz.underlying23
 a31:=Tryz.isAgg23
 z31:=Tryz.sizeOf23
 v31:=Tryz.zeroValue23
 t37:=Tryz.underlying98
 a37:=Tryz.isAgg98
 z37:=Tryz.sizeOf98
 v37:=Tryz.zeroValue98
 t70:=Tryz.underlying181
 a70:=Tryz.isAgg181
 z70:=Tryz.sizeOf181
 v70:=Tryz.zeroValue181
 t72:=Tryz.underlying183
 a72:=Tryz.isAgg183
 z72:=Tryz.sizeOf183
 v72:=Tryz.zeroValue183
 t75:=Tryz.underlying186
 a75:=Tryz.isAgg186
 z75:=Tryz.sizeOf186
 v75:=Tryz.zeroValue186
 t76:=Tryz.underlying187
 a76:=Tryz.isAgg187
 z76:=Tryz.sizeOf187
 v76:=Tryz.zeroValue187
 t127:=Tryz.underlying225
 a127:=Tryz.isAgg225
 z127:=Tryz.sizeOf225
 v127:=Tryz.zeroValue225
 t164:=Tryz.underlying261
 a164:=Tryz.isAgg261
 z164:=Tryz.sizeOf261
 v164:=Tryz.zeroValue261 }
theorem Tryz.Builder_Extra_156:Builder.Extra Tryz.prog Tryz.lays156_ren:={
 sizeBuilder:=by kernel_rfl
 liesBuilder:=by kernel_rfl
 t5:=Tryz.underlying5
 a5:=Tryz.isAgg5
 z5:=Tryz.sizeOf5
 v5:=Tryz.zeroValue5
 infoByte:=by kernel_rfl
 cellsByte:=by kernel_rfl
 sizeByte:=by kernel_rfl
 neB5:=by decide }
open Go.RowKit in
theorem Tryz.strings_Join_none(a:Option Addr)(c:Nat)(sep:ByteArray)(w:World) :
 Calls Tryz.prog 98 #[.slice a 0 c,.string sep] w λe w'=>e=.returned (.string ⟨#[]⟩)/\w'=w:=Any.strings_Join_none Tryz.lays156 Tryz.Builder_Extra_156 a c sep w
open Go.RowKit in
theorem Tryz.strings_Join(bk o c:Nat)(xs:List ByteArray)(sep:ByteArray)(w:World)(hcells:∀ (j:Nat) x,xs[j]?=some x->w.cell? ⟨bk,o+j,none⟩=some (.string x))(hbk:bk<w.heap.size)(hN:xs.length<=140737488355328)(hcap:xs.length<=c)(hlen:(Lib.join (xs.map (·.data.toList)) sep.data.toList).length<=140737488355328) :
 Calls Tryz.prog 98 #[.slice (some ⟨bk,o,none⟩) xs.length c,.string sep] w λe w'=>e=.returned (.string ⟨(Lib.join (xs.map (·.data.toList)) sep.data.toList).toArray⟩)/\Below w.heap.size w w':=Any.strings_Join Tryz.lays156 Tryz.Builder_Extra_156 bk o c xs sep w hcells hbk hN hcap hlen
def Tryz.lays137_ren:Go.Shelf.Ren:=⟨fun|137=>210|217=>220|266=>224|n=>n,fun|9=>9|5=>5|3=>3|n=>n,fun|n=>n⟩
theorem Tryz.lays137:Go.Proofs.Lays.n137 Tryz.prog Tryz.lays137_ren:={
 mixed:=by kernel_rfl
 f137:=Tryz.func210.trans (congrArg some (by kernel_rfl))
 f217:=Tryz.func220.trans (congrArg some (by kernel_rfl))
 f266:=Tryz.func224.trans (congrArg some (by kernel_rfl))
 t3:=Tryz.underlying3
 a3:=Tryz.isAgg3
 z3:=Tryz.sizeOf3
 v3:=Tryz.zeroValue3
 t5:=Tryz.underlying5
 a5:=Tryz.isAgg5
 z5:=Tryz.sizeOf5
 v5:=Tryz.zeroValue5
 t9:=Tryz.underlying9
 a9:=Tryz.isAgg9
 z9:=Tryz.sizeOf9
 v9:=Tryz.zeroValue9 }
open Go.RowKit in
theorem Tryz.strings_IndexByte(s:ByteArray)(c:Int)(w:World) :
 Calls Tryz.prog 210 #[.string s,.int .u8 c] w λe w'=>e=.returned (.int .i64 (Lib.indexByte s.data.toList c.toNat.toUInt8))/\w'=w:=Any.strings_IndexByte Tryz.lays137 s c w
def Tryz.laysM246_ren:Go.Shelf.Ren:=⟨fun|246=>225|283=>226|284=>227|285=>228|286=>229|129=>209|317=>230|318=>231|319=>232|320=>233|337=>234|338=>235|n=>n,fun|2=>2|3=>3|9=>9|4=>4|171=>301|0=>0|53=>222|37=>98|5=>5|173=>303|212=>306|51=>27|20=>20|213=>307|46=>177|232=>308|233=>309|n=>n,fun|17=>1|18=>2|19=>3|n=>n⟩
def Tryz.laysM243_ren:Go.Shelf.Ren:=⟨fun|243=>222|246=>225|283=>226|284=>227|285=>228|286=>229|129=>209|317=>230|318=>231|319=>232|320=>233|337=>234|338=>235|n=>n,fun|3=>3|9=>9|2=>2|4=>4|171=>301|0=>0|53=>222|37=>98|5=>5|173=>303|212=>306|51=>27|20=>20|213=>307|46=>177|232=>308|233=>309|n=>n,fun|17=>1|18=>2|19=>3|n=>n⟩
def Tryz.laysM171_ren:Go.Shelf.Ren:=⟨fun|171=>213|243=>222|246=>225|283=>226|284=>227|285=>228|286=>229|129=>209|317=>230|318=>231|319=>232|320=>233|337=>234|338=>235|n=>n,fun|3=>3|9=>9|2=>2|4=>4|171=>301|0=>0|53=>222|37=>98|5=>5|173=>303|212=>306|51=>27|20=>20|213=>307|46=>177|232=>308|233=>309|n=>n,fun|17=>1|18=>2|19=>3|n=>n⟩
def Tryz.lays171_ren:Go.Shelf.Ren:=⟨fun|171=>213|243=>222|246=>225|283=>226|284=>227|285=>228|286=>229|129=>209|317=>230|318=>231|319=>232|320=>233|337=>234|338=>235|n=>n,fun|3=>3|9=>9|2=>2|4=>4|171=>301|0=>0|53=>222|37=>98|5=>5|173=>303|212=>306|51=>27|20=>20|213=>307|46=>177|232=>308|233=>309|n=>n,fun|17=>1|18=>2|19=>3|n=>n⟩
theorem Tryz.lays171:Go.Proofs.Lays.n171 Tryz.prog Tryz.lays171_ren:={
 mixed:=by kernel_rfl
 f129:=Tryz.func209.trans (congrArg some (by kernel_rfl))
 f171:=Tryz.func213.trans (congrArg some (by kernel_rfl))
 f243:=Tryz.func222.trans (congrArg some (by kernel_rfl))
 f246:=Tryz.func225.trans (congrArg some (by kernel_rfl))
 f283:=Tryz.func226.trans (congrArg some (by kernel_rfl))
 f284:=Tryz.func227.trans (congrArg some (by kernel_rfl))
 f285:=Tryz.func228.trans (congrArg some (by kernel_rfl))
 f286:=Tryz.func229.trans (congrArg some (by kernel_rfl))
 f317:=Tryz.func230.trans (congrArg some (by kernel_rfl))
 f318:=Tryz.func231.trans (congrArg some (by kernel_rfl))
 f319:=Tryz.func232.trans (congrArg some (by kernel_rfl))
 f320:=Tryz.func233.trans (congrArg some (by kernel_rfl))
 f337:=Tryz.func234.trans (congrArg some (by kernel_rfl))
 f338:=Tryz.func235.trans (congrArg some (by kernel_rfl))
 t0:=Tryz.underlying0
 a0:=Tryz.isAgg0
 z0:=Tryz.sizeOf0
 v0:=Tryz.zeroValue0
 t2:=Tryz.underlying2
 a2:=Tryz.isAgg2
 z2:=Tryz.sizeOf2
 v2:=Tryz.zeroValue2
 t3:=Tryz.underlying3
 a3:=Tryz.isAgg3
 z3:=Tryz.sizeOf3
 v3:=Tryz.zeroValue3
 t4:=Tryz.underlying4
 a4:=Tryz.isAgg4
 z4:=Tryz.sizeOf4
 v4:=Tryz.zeroValue4
 t5:=Tryz.underlying5
 a5:=Tryz.isAgg5
 z5:=Tryz.sizeOf5
 v5:=Tryz.zeroValue5
 t9:=Tryz.underlying9
 a9:=Tryz.isAgg9
 z9:=Tryz.sizeOf9
 v9:=Tryz.zeroValue9
 t20:=Tryz.underlying20
 a20:=Tryz.isAgg20
 z20:=Tryz.sizeOf20
 v20:=Tryz.zeroValue20
 t37:=Tryz.underlying98
 a37:=Tryz.isAgg98
 z37:=Tryz.sizeOf98
 v37:=Tryz.zeroValue98
 t46:=Tryz.underlying177
 a46:=Tryz.isAgg177
 z46:=Tryz.sizeOf177
 v46:=Tryz.zeroValue177
 t51:=Tryz.underlying27
 a51:=Tryz.isAgg27
 z51:=Tryz.sizeOf27
 v51:=Tryz.zeroValue27
 t53:=Tryz.underlying222
 a53:=Tryz.isAgg222
 z53:=Tryz.sizeOf222
 v53:=Tryz.zeroValue222
 t171:=Tryz.underlying301
 a171:=Tryz.isAgg301
 z171:=Tryz.sizeOf301
 v171:=Tryz.zeroValue301
 t173:=Tryz.underlying303
 a173:=Tryz.isAgg303
 z173:=Tryz.sizeOf303
 v173:=Tryz.zeroValue303
 t212:=Tryz.underlying306
 a212:=Tryz.isAgg306
 z212:=Tryz.sizeOf306
 v212:=Tryz.zeroValue306
 t213:=Tryz.underlying307
 a213:=Tryz.isAgg307
 z213:=Tryz.sizeOf307
 t232:=Tryz.underlying308
 a232:=Tryz.isAgg308
 z232:=Tryz.sizeOf308
 v232:=Tryz.zeroValue308
 t233:=Tryz.underlying309
 a233:=Tryz.isAgg309
 z233:=Tryz.sizeOf309
 v233:=Tryz.zeroValue309
 g17:=by kernel_rfl
 g18:=by kernel_rfl
 g19:=by kernel_rfl }
open Go.RowKit Go.Sort Go.Lib in
theorem Tryz.strconv_Itoa_small(i:Nat)(hi:i<100)(w:World) :
 Calls Tryz.prog 213 #[.int .i64 i] w λe w'=>e=.returned (.string ⟨(Lib.decDigits i).toArray⟩)/\w'=w:=Any.strconv_Itoa_small Tryz.lays171 i hi w
def Tryz.lays189_ren:Go.Shelf.Ren:=⟨fun|189=>154|125=>189|257=>188|128=>208|129=>209|294=>199|295=>200|296=>201|297=>202|298=>203|299=>204|216=>205|300=>206|301=>207|328=>214|329=>215|330=>216|331=>217|332=>218|215=>219|343=>223|n=>n,fun|28=>80|3=>3|46=>177|0=>0|51=>27|53=>222|4=>4|183=>280|182=>279|131=>284|5=>5|9=>9|218=>290|222=>294|228=>297|229=>298|n=>n,fun|n=>n⟩
theorem Tryz.lays189:Go.Proofs.Lays.n189 Tryz.prog Tryz.lays189_ren:={
 mixed:=by kernel_rfl
 f125:=Tryz.func189.trans (congrArg some (by kernel_rfl))
 f128:=Tryz.func208.trans (congrArg some (by kernel_rfl))
 f129:=Tryz.func209.trans (congrArg some (by kernel_rfl))
 f189:=Tryz.func154.trans (congrArg some (by kernel_rfl))
 f215:=Tryz.func219.trans (congrArg some (by kernel_rfl))
 f216:=Tryz.func205.trans (congrArg some (by kernel_rfl))
 f257:=Tryz.func188.trans (congrArg some (by kernel_rfl))
 f294:=Tryz.func199.trans (congrArg some (by kernel_rfl))
 f295:=Tryz.func200.trans (congrArg some (by kernel_rfl))
 f296:=Tryz.func201.trans (congrArg some (by kernel_rfl))
 f297:=Tryz.func202.trans (congrArg some (by kernel_rfl))
 f298:=Tryz.func203.trans (congrArg some (by kernel_rfl))
 f299:=Tryz.func204.trans (congrArg some (by kernel_rfl))
 f300:=Tryz.func206.trans (congrArg some (by kernel_rfl))
 f301:=Tryz.func207.trans (congrArg some (by kernel_rfl))
 f328:=Tryz.func214.trans (congrArg some (by kernel_rfl))
 f329:=Tryz.func215.trans (congrArg some (by kernel_rfl))
 f330:=Tryz.func216.trans (congrArg some (by kernel_rfl))
 f331:=Tryz.func217.trans (congrArg some (by kernel_rfl))
 f332:=Tryz.func218.trans (congrArg some (by kernel_rfl))
 f343:=Tryz.func223.trans (congrArg some (by kernel_rfl))
 t0:=Tryz.underlying0
 a0:=Tryz.isAgg0
 z0:=Tryz.sizeOf0
 v0:=Tryz.zeroValue0
 t3:=Tryz.underlying3
 a3:=Tryz.isAgg3
 z3:=Tryz.sizeOf3
 v3:=Tryz.zeroValue3
 t4:=Tryz.underlying4
 a4:=Tryz.isAgg4
 z4:=Tryz.sizeOf4
 v4:=Tryz.zeroValue4
 t5:=Tryz.underlying5
 a5:=Tryz.isAgg5
 z5:=Tryz.sizeOf5
 v5:=Tryz.zeroValue5
 t9:=Tryz.underlying9
 a9:=Tryz.isAgg9
 z9:=Tryz.sizeOf9
 v9:=Tryz.zeroValue9
 t28:=Tryz.underlying80
 a28:=Tryz.isAgg80
 z28:=Tryz.sizeOf80
 v28:=Tryz.zeroValue80
 t46:=Tryz.underlying177
 a46:=Tryz.isAgg177
 z46:=Tryz.sizeOf177
 v46:=Tryz.zeroValue177
 t51:=Tryz.underlying27
 a51:=Tryz.isAgg27
 z51:=Tryz.sizeOf27
 v51:=Tryz.zeroValue27
 t53:=Tryz.underlying222
 a53:=Tryz.isAgg222
 z53:=Tryz.sizeOf222
 v53:=Tryz.zeroValue222
 t131:=Tryz.underlying284
 a131:=Tryz.isAgg284
 z131:=Tryz.sizeOf284
 v131:=Tryz.zeroValue284
 t182:=Tryz.underlying279
 a182:=Tryz.isAgg279
 z182:=Tryz.sizeOf279
 v182:=Tryz.zeroValue279
 t183:=Tryz.underlying280
 a183:=Tryz.isAgg280
 z183:=Tryz.sizeOf280
 v183:=Tryz.zeroValue280
 t218:=Tryz.underlying290
 a218:=Tryz.isAgg290
 z218:=Tryz.sizeOf290
 v218:=Tryz.zeroValue290
 t222:=Tryz.underlying294
 a222:=Tryz.isAgg294
 z222:=Tryz.sizeOf294
 v222:=Tryz.zeroValue294
 t228:=Tryz.underlying297
 a228:=Tryz.isAgg297
 z228:=Tryz.sizeOf297
 v228:=Tryz.zeroValue297
 t229:=Tryz.underlying298
 a229:=Tryz.isAgg298
 z229:=Tryz.sizeOf298
 v229:=Tryz.zeroValue298 }
open Go.Sort Go.RowKit in
theorem Tryz.slices_Sort_int(blk off cap:Nat)(zs:List Int)(w:World)(hH:Holds (Value.int .i64) w blk off zs.toArray)(hblk:blk<w.heap.size)(hsz:zs.length<4611686018427387904) :
 Calls Tryz.prog 154 #[.slice (some ⟨blk,off,none⟩) zs.length cap] w λe w' =>
  e=.returned (.tuple #[])/\∃ n os,w'=grow (putRow (Value.int .i64) (Sort.ahead w n) blk off (zs.mergeSort λx y=>decide (x<=y)).toArray) os:=Any.slices_Sort_int Tryz.lays189 blk off cap zs w hH hblk hsz
def Tryz.lays105_ren:Go.Shelf.Ren:=⟨fun|105=>71|212=>99|99=>100|165=>101|166=>102|170=>103|169=>104|263=>142|264=>143|206=>144|240=>145|241=>146|276=>175|277=>176|n=>n,fun|9=>9|3=>3|4=>4|20=>20|0=>0|46=>177|109=>178|5=>5|72=>183|76=>187|51=>27|146=>220|53=>222|148=>223|70=>181|37=>98|75=>186|127=>225|164=>261|80=>189|n=>n,fun|n=>n⟩
theorem Tryz.lays105:Go.Proofs.Lays.n105 Tryz.prog Tryz.lays105_ren:={
 mixed:=by kernel_rfl
 f99:=Tryz.func100.trans (congrArg some (by kernel_rfl))
 f105:=Tryz.func71.trans (congrArg some (by kernel_rfl))
 f165:=Tryz.func101.trans (congrArg some (by kernel_rfl))
 f166:=Tryz.func102.trans (congrArg some (by kernel_rfl))
 f169:=Tryz.func104.trans (congrArg some (by kernel_rfl))
 f170:=Tryz.func103.trans (congrArg some (by kernel_rfl))
 f206:=Tryz.func144.trans (congrArg some (by kernel_rfl))
 f212:=Tryz.func99.trans (congrArg some (by kernel_rfl))
 f240:=Tryz.func145.trans (congrArg some (by kernel_rfl))
 f241:=Tryz.func146.trans (congrArg some (by kernel_rfl))
 f263:=Tryz.func142.trans (congrArg some (by kernel_rfl))
 f264:=Tryz.func143.trans (congrArg some (by kernel_rfl))
 f276:=Tryz.func175.trans (congrArg some (by kernel_rfl))
 f277:=Tryz.func176.trans (congrArg some (by kernel_rfl))
 t0:=Tryz.underlying0
 a0:=Tryz.isAgg0
 z0:=Tryz.sizeOf0
 v0:=Tryz.zeroValue0
 t3:=Tryz.underlying3
 a3:=Tryz.isAgg3
 z3:=Tryz.sizeOf3
 v3:=Tryz.zeroValue3
 t4:=Tryz.underlying4
 a4:=Tryz.isAgg4
 z4:=Tryz.sizeOf4
 v4:=Tryz.zeroValue4
 t5:=Tryz.underlying5
 a5:=Tryz.isAgg5
 z5:=Tryz.sizeOf5
 v5:=Tryz.zeroValue5
 t9:=Tryz.underlying9
 a9:=Tryz.isAgg9
 z9:=Tryz.sizeOf9
 v9:=Tryz.zeroValue9
 t20:=Tryz.underlying20
 a20:=Tryz.isAgg20
 z20:=Tryz.sizeOf20
 v20:=Tryz.zeroValue20
 t37:=Tryz.underlying98
 a37:=Tryz.isAgg98
 z37:=Tryz.sizeOf98
 v37:=Tryz.zeroValue98
 t46:=Tryz.underlying177
 a46:=Tryz.isAgg177
 z46:=Tryz.sizeOf177
 v46:=Tryz.zeroValue177
 t51:=Tryz.underlying27
 a51:=Tryz.isAgg27
 z51:=Tryz.sizeOf27
 v51:=Tryz.zeroValue27
 t53:=Tryz.underlying222
 a53:=Tryz.isAgg222
 z53:=Tryz.sizeOf222
 v53:=Tryz.zeroValue222
 t70:=Tryz.underlying181
 a70:=Tryz.isAgg181
 z70:=Tryz.sizeOf181
 v70:=Tryz.zeroValue181
 t72:=Tryz.underlying183
 a72:=Tryz.isAgg183
 z72:=Tryz.sizeOf183
 v72:=Tryz.zeroValue183
 t75:=Tryz.underlying186
 a75:=Tryz.isAgg186
 z75:=Tryz.sizeOf186
 v75:=Tryz.zeroValue186
 t76:=Tryz.underlying187
 a76:=Tryz.isAgg187
 z76:=Tryz.sizeOf187
 v76:=Tryz.zeroValue187
 t109:=Tryz.underlying178
 a109:=Tryz.isAgg178
 z109:=Tryz.sizeOf178
 v109:=Tryz.zeroValue178
 t127:=Tryz.underlying225
 a127:=Tryz.isAgg225
 z127:=Tryz.sizeOf225
 v127:=Tryz.zeroValue225
 t146:=Tryz.underlying220
 a146:=Tryz.isAgg220
 z146:=Tryz.sizeOf220
 v146:=Tryz.zeroValue220
 t148:=Tryz.underlying223
 a148:=Tryz.isAgg223
 z148:=Tryz.sizeOf223
 v148:=Tryz.zeroValue223
 t164:=Tryz.underlying261
 a164:=Tryz.isAgg261
 z164:=Tryz.sizeOf261
 v164:=Tryz.zeroValue261 }
theorem Tryz.Builder_Extra_105:Builder.Extra Tryz.prog Tryz.lays105_ren:={
 sizeBuilder:=by kernel_rfl
 liesBuilder:=by kernel_rfl
 t5:=Tryz.underlying5
 a5:=Tryz.isAgg5
 z5:=Tryz.sizeOf5
 v5:=Tryz.zeroValue5
 infoByte:=by kernel_rfl
 cellsByte:=by kernel_rfl
 sizeByte:=by kernel_rfl
 neB5:=by decide }
open Go.RowKit Go.Lib in
theorem Tryz.strings_Repeat(s:ByteArray)(c:Nat)(w:World)(hc:c<=9223372036854775807)(hlen:s.size*c<=140737488355328) :
 Calls Tryz.prog 71 #[.string s,.int .i64 c] w λe w'=>e=.returned (.string ⟨(Lib.repeatL s.data.toList c).toArray⟩)/\Below w.heap.size w w':=Any.strings_Repeat Tryz.lays105 Tryz.Builder_Extra_105 s c w hc hlen
open Go.RowKit Go.Sort in
theorem Tryz.slices_Sort_int_none(p:Option Addr)(cap:Nat)(w:World) :
 Calls Tryz.prog 154 #[.slice p 0 cap] w λe w'=>e=.returned (.tuple #[])/\w'=w:=Any.slices_Sort_int_none Tryz.lays189 p cap w
end Go.Proofs
end
namespace Go.Proofs.YtbngojdlgfhacaaGreatDoor.Abs
theorem av7:∀ {es:List (List PV)} {l:List Bytes},Ri es=some l->es=l.map B1
 |[],l,h=>by cases h;rfl
 |e::es,l,h=>by
   match e,h with
   |[.str s],h=>
     rw[Ri]at h;obtain⟨m',hm,rfl⟩:=e4g.1 h;rw[e75,<-av7 hm];rfl
theorem c0a(sep:Bytes):∀ l:List Bytes,O0 sep l=Lib.join l sep
 |[]=>rfl
 |[x]=>by simp[O0,Lib.join,List.intercalate]
 |x::y::l=>by
   rw[O0,c0a sep (y::l)];simp[Lib.join,List.intercalate,List.intersperse]
def a7u(x:List UInt8):ByteArray:=⟨x.toArray⟩
theorem b8k(l:List (List UInt8)):(l.map a7u).map (·.data.toList)=l:=by
 rw[e7q];have:((λx:ByteArray=>x.data.toList)∘a7u)=id:=by funext x;simp[a7u]
 rw[this,List.map_id]
theorem dg1{x:AV}{l:List Bytes}{es:List (List PV)}(hx:Ht x=some es)(he:Ri es=some l)(sep:Bytes)(hl:l.length<=1000000)(hlen:(O0 sep l).length<=1000000)(H:AH) :
 C Tryz.prog 98 [x,.str sep] H (λy H'=>y=.str (O0 sep l)/\H'=H):=by
 rw[c0a]at hlen ⊢;refine a7b ⟨Tryz.f98,Tryz.func98,kk,kk⟩ (v:=.string ⟨(Lib.join l sep).toArray⟩) ?_ λE=>.pure (x:=.str _) (.str _);intro E w vs hs hr;obtain⟨v,u,rfl,h1,h2⟩:=hr.two;rw[Jh h2];have hes:=av7 he;cases x with
 |emp=>
   cases hx;have hl0:l=[]:=(by cases l with|nil=>rfl|cons a b=>cases hes);subst hl0;obtain⟨a,rfl⟩:=Hg h1
   refine(Tryz.strings_Join_none a 0 ⟨sep.toArray⟩ w).mono ?_;rintro e w' ⟨rfl,rfl⟩;exact⟨rfl,Go.RowKit.Below.refl _ _⟩
 |fz es' =>
   cases hx;subst hes;obtain⟨a,cap,rfl,hcap,hb⟩:=Oe h1;by_cases h0:l=[]
   ·subst h0
    refine(Tryz.strings_Join_none a cap ⟨sep.toArray⟩ w).mono ?_;rintro e w' ⟨rfl,rfl⟩;exact⟨rfl,Go.RowKit.Below.refl _ _⟩
   ·obtain⟨b,off,sz,cells,t,q,rfl,hF,hsz,hin,hc⟩:=hb (by simpa using h0);have hw:=hs.frz b _ (.inl hF);have hsz1:sz=1:=by
     obtain⟨x,r,rfl⟩:=List.exists_cons_of_ne_nil h0
     exact(hsz (B1 x) (by simp)).symm
    subst hsz1;have key:=Tryz.strings_Join b off cap (l.map a7u) ⟨sep.toArray⟩ w (λj x hx=>by
     rw[e5j]at hx;obtain⟨y,hy,rfl⟩:=e4g.1 hx;have hj:j<l.length:=by
      apply e45;intro h;rw[e4j om]at hy;cases hy
     simp only[e6i]at hin;have hlt:off+j<cells.size:=om;have hcc:=hc j (B1 y) 0 (.str y) cells[off+j] (by rw[e5j,hy];rfl) rfl (by rw[Nat.mul_one,e7l];exact e44 hlt);have hv:cells[off+j]=.string ⟨y.toArray⟩:=by
      generalize cells[off+j]=v at hcc;cases hcc;rfl
     show World.cell? w ⟨b,off+j,none⟩=_;simp only[World.cell?,hw];rw[e44 hlt,hv];rfl) (Sb hw) (by simp;omega) (by simpa using hcap) (by rw[b8k];show(Lib.join l sep).length<=_;omega)
    rw[b8k]at key;simpa using key
 |_=>cases hx
theorem dg0{args:List AV}{H:AH}{y:AV}{G:AH}(h:a4e 98 args H=some (y,G)):C Tryz.prog 98 args H (λy' G'=>y'=y/\G'=G):=by
 unfold a4e at h;split at h
 ·rename_i x sep;obtain⟨l,hl,h⟩:=e4c.1 h;obtain⟨es,hx,he⟩:=e4c.1 hl;split at h
  ·rename_i hc;cases h;exact dg1 hx he sep hc.1 hc.2 []
  ·cases h
 ·cases h
theorem be8(s:Bytes):∀ n,X7 s n=Lib.repeatL s n
 |0=>rfl
 |n+1=>by rw[X7,Lib.repeatL,be8 s n]
theorem d27{args:List AV}{H:AH}{y:AV}{G:AH}(h:a3n 71 args H=some (y,G)):C Tryz.prog 71 args H (λy' G'=>y'=y/\G'=G):=by
 unfold a3n at h;split at h
 ·rename_i s n;split at h
  ·rename_i hc;cases h;obtain⟨c,rfl⟩:∃ c:Nat,n=(c:Int):=⟨n.toNat,by omega⟩;rw[e5s]at *;refine a7b ⟨Tryz.f71,Tryz.func71,kk,kk⟩ (v:=.string ⟨(X7 s c).toArray⟩) ?_ λE=>.pure (x:=.str _) (.str _);intro E w vs _ hr;obtain⟨v,u,rfl,h1,h2⟩:=hr.two;rw[Jh h1,Ec h2,be8];exact Tryz.strings_Repeat ⟨s.toArray⟩ c w om (by have:=hc.2.2;simp[ByteArray.size];omega)
  ·cases h
 ·cases h
theorem c36(c:UInt8):∀ s,T4 c s=Lib.indexByte s c
 |[]=>rfl
 |x::l=>by
   have h:=Lib.indexByte_ge l c;rw[T4,Lib.indexByte,c36 c l];by_cases h1:x=c
   ·rw[if_pos h1,if_pos (by simpa using h1)]
   ·rw[if_neg h1,show(if(x==c)=true then(0:Int)else if(Lib.indexByte l c== -1)=true then -1 else Lib.indexByte l c+1)=if(Lib.indexByte l c== -1)=true then -1 else Lib.indexByte l c+1 from if_neg (by simpa using h1)];by_cases h2:Lib.indexByte l c<0
    ·have h3:Lib.indexByte l c= -1:=om;rw[if_pos h2,if_pos (by rw[h3];rfl)]
    ·rw[if_neg h2,if_neg (by simp;omega)]
theorem dh0{args:List AV}{H:AH}{y:AV}{G:AH}(h:a4i 210 args H=some (y,G)):C Tryz.prog 210 args H (λy' G'=>y'=y/\G'=G):=by
 unfold a4i at h;split at h
 ·rename_i s n;split at h
  ·cases h;refine a7b ⟨Tryz.f210,Tryz.func210,kk,kk⟩ (v:=.int .i64 (T4 (UInt8.ofNat n.toNat) s)) ?_ λE=>.pure (x:=.int _ _) (.int _ _);intro E w vs _ hr;obtain⟨v,u,rfl,h1,h2⟩:=hr.two;rw[Jh h1,Ec h2,c36]
   refine(Tryz.strings_IndexByte ⟨s.toArray⟩ n w).mono ?_;rintro e w' ⟨rfl,rfl⟩;exact⟨rfl,Go.RowKit.Below.refl _ _⟩
  ·cases h
 ·cases h
theorem dg2{args:List AV}{H:AH}{y:AV}{G:AH}(h:a4f 213 args H=some (y,G)):C Tryz.prog 213 args H (λy' G'=>y'=y/\G'=G):=by
 unfold a4f at h;split at h
 ·rename_i n;split at h
  ·rename_i hc;cases h;obtain⟨c,rfl⟩:∃ c:Nat,n=(c:Int):=⟨n.toNat,by omega⟩;rw[e5s]at *;refine a7b ⟨Tryz.f213,Tryz.func213,kk,kk⟩ (v:=.string ⟨(Dz c).toArray⟩) ?_ λE=>.pure (x:=.str _) (.str _);intro E w vs _ hr;obtain⟨v,rfl,h1⟩:=hr.one;rw[Ec h1];have hd:Lib.decDigits c=Dz c:=by
    rw[Lib.decDigits,dif_pos om];rfl
   refine(Tryz.strconv_Itoa_small c om w).mono ?_;rintro e w' ⟨rfl,rfl⟩;rw[hd];exact⟨rfl,Go.RowKit.Below.refl _ _⟩
  ·cases h
 ·cases h
def g52:FT:=⟨1,7,[.tmp 1],[0,2],false,(.seq (.reg 0 [y 1 (.emp)]) (.seq (.ifc 3 [] (.op (.eqnil false (.t 0)) [(v 0)]) (.seq (.reg 0 [y 1 (.emp)]) .ret) .skip) (.seq (.reg 5 [m 1 (.op (.append 1 16 [.str []] (.t 0) (.t 1)) [(.op (.bslice 1 0 [.str []] []) []),(v 0)])]) .ret)))⟩
theorem h52:g52.is Tryz.prog 52:=⟨⟨Tryz.f52,_,Tryz.func52,kk,rfl,rfl,kk,kk⟩,kk⟩
def g53:FT:=⟨1,7,[.tmp 1],[0,2],false,(.seq (.reg 0 [y 1 (.emp)]) (.seq (.ifc 3 [] (.op (.eqnil false (.t 0)) [(v 0)]) (.seq (.reg 0 [y 1 (.emp)]) .ret) .skip) (.seq (.reg 5 [m 1 (.op (.append 2 24 [.int .i64 0,.str []] (.t 0) (.t 1)) [(.op (.bslice 2 0 [.int .i64 0,.str []] []) []),(v 0)])]) .ret)))⟩
theorem h53:g53.is Tryz.prog 53:=⟨⟨Tryz.f53,_,Tryz.func53,kk,rfl,rfl,kk,kk⟩,kk⟩
def g54:FT:=⟨1,7,[.tmp 1],[0,2],false,(.seq (.reg 0 [y 1 (.emp)]) (.seq (.ifc 3 [] (.op (.eqnil false (.t 0)) [(v 0)]) (.seq (.reg 0 [y 1 (.emp)]) .ret) .skip) (.seq (.reg 5 [m 1 (.op (.append 2 16 [.int .i64 0,.int .i64 0] (.t 0) (.t 1)) [(.op (.bslice 2 0 [.int .i64 0,.int .i64 0] []) []),(v 0)])]) .ret)))⟩
theorem h54:g54.is Tryz.prog 54:=⟨⟨Tryz.f54,_,Tryz.func54,kk,rfl,rfl,kk,kk⟩,kk⟩
def g55:FT:=⟨1,7,[.tmp 1],[0,2],false,(.seq (.reg 0 [y 1 (.emp)]) (.seq (.ifc 3 [] (.op (.eqnil false (.t 0)) [(v 0)]) (.seq (.reg 0 [y 1 (.emp)]) .ret) .skip) (.seq (.reg 5 [m 1 (.op (.append 5 56 [.int .i64 0,.int .i64 0,.int .i64 0,.int .i64 0,.emp] (.t 0) (.t 1)) [(.op (.bslice 5 0 [.int .i64 0,.int .i64 0,.int .i64 0,.int .i64 0,.emp] []) []),(v 0)])]) .ret)))⟩
theorem h55:g55.is Tryz.prog 55:=⟨⟨Tryz.f55,_,Tryz.func55,kk,rfl,rfl,kk,kk⟩,kk⟩
def g56:FT:=⟨1,7,[.tmp 1],[0,2],false,(.seq (.reg 0 [y 1 (.emp)]) (.seq (.ifc 3 [] (.op (.eqnil false (.t 0)) [(v 0)]) (.seq (.reg 0 [y 1 (.emp)]) .ret) .skip) (.seq (.reg 5 [m 1 (.op (.append 5 56 [.int .i64 0,.int .i64 0,.str [],.str [],.int .i64 0] (.t 0) (.t 1)) [(.op (.bslice 5 0 [.int .i64 0,.int .i64 0,.str [],.str [],.int .i64 0] []) []),(v 0)])]) .ret)))⟩
theorem h56:g56.is Tryz.prog 56:=⟨⟨Tryz.f56,_,Tryz.func56,kk,rfl,rfl,kk,kk⟩,kk⟩
def b1a:FT:=⟨1,7,[.tmp 1],[0,2],false,(.seq (.reg 0 [y 1 (.emp)]) (.seq (.ifc 3 [] (.op (.eqnil false (.t 0)) [(v 0)]) (.seq (.reg 0 [y 1 (.emp)]) .ret) .skip) (.seq (.reg 5 [m 1 (.op (.append 1 8 [.int .i64 0] (.t 0) (.t 1)) [(.op (.bslice 1 0 [.int .i64 0] []) []),(v 0)])]) .ret)))⟩
theorem c3v:b1a.is Tryz.prog 114:=⟨⟨Tryz.f114,_,Tryz.func114,kk,rfl,rfl,kk,kk⟩,kk⟩
def ag0:FT:=⟨1,35,[.tmp 1],[0,2,3,5,6,8,9,10,11,12,21,25,26,27,28],true,(.seq (.reg 0 [y 1 (.emp)]) (.seq (.reg 0 [z 2 0]) (.seq (.seq (.reg 0 [m 6 (d 0),p 7 (ln (d 6)),z 8 0]) (.block 0 (.loop [0,2,6,7,8] [] (.seq (.reg 0 [p 9 (b2 .lss (d 8) (d 7))]) (.seq (.ifv 9 .skip (.exit 0)) (.seq (.block 1 (.seq (.reg 13 [m 3 (ld (ia 1 (d 6) (d 8)))]) (.seq (.reg 15 [m 2 (b2 .add (v 2) (ln (v 3)))]) (.ifc 19 [] (bk .lss 0 (v 2)) (.reg 0 [p 10 (.op (.bad) []),e (.bad) []]) .skip)))) (.reg 22 [m 8 (bk .add 1 (d 8))]))))))) (.seq (.reg 23 [m 4 (.op (.call 195 [(.c (.emp)),(.t 0)]) [(v 2)])]) (.seq (.seq (.reg 0 [m 11 (d 0),p 12 (ln (d 11)),z 13 0]) (.block 2 (.loop [4,11,12,13] [(4,2)] (.seq (.reg 0 [p 14 (b2 .lss (d 13) (d 12))]) (.seq (.ifv 14 .skip (.exit 2)) (.seq (.block 3 (.seq (.reg 29 [m 5 (ld (ia 1 (d 11) (d 13)))]) (.reg 31 [m 4 (.op (.append 2 16 [.int .i64 0,.int .i64 0] (.t 0) (.t 1)) [(v 4),(v 5)])]))) (.reg 34 [m 13 (bk .add 1 (d 13))]))))))) (.seq (.reg 35 [m 1 (v 4)]) .ret))))))⟩
theorem dr7:ag0.is Tryz.prog 171:=⟨⟨Tryz.f171,_,Tryz.func171,kk,rfl,rfl,kk,kk⟩,kk⟩
def Hp:List (Nat×FT):=[(52,g52),(53,g53),(54,g54),(55,g55),(56,g56),(114,b1a),(171,ag0)]
theorem d72:A9 Hp 52=some g52:=kk
theorem d71:A9 Hp 53=some g53:=kk
theorem d70:A9 Hp 54=some g54:=kk
theorem d6z:A9 Hp 55=some g55:=kk
theorem d6y:A9 Hp 56=some g56:=kk
theorem d74:A9 Hp 114=some b1a:=kk
theorem d73:A9 Hp 171=some ag0:=kk
theorem av2:∀ p∈Hp,p.2.is Tryz.prog p.1:=by
 intro p hp;simp only[Hp,e79,e61,or_false]at hp;rcases hp with rfl|rfl|rfl|rfl|rfl|rfl|rfl
 ·exact h52
 ·exact h53
 ·exact h54
 ·exact h55
 ·exact h56
 ·exact c3v
 ·exact dr7
def De(o:Option Bytes):AV:=.tuple [.str (o.getD []),.bool o.isSome]
theorem b4x:∀ (l:Bytes) (k:Nat),k<l.length->w4 (l.take (k+1))=w4 (l.take k)+256 ^ k*(l.getD k default).toNat
 |[],k,h=>absurd h (e6r _)
 |x::l,0,_=>by simp[w4]
 |x::l,k+1,h=>by
   have ih:=b4x l k (by simpa using h);rw[e4w,w4,ih,e4w,w4,List.getD_cons_succ,Nat.mul_add,Nat.pow_succ,<-Nat.mul_assoc];have:256*256 ^ k=256 ^ k*256:=Nat.mul_comm _ _;rw[this];omega
theorem cy8(a:Nat)(c:UInt8)(k:Nat)(ha:a<256 ^ k)(hk:k<4):IntKind.u32.wrap (((BitVec.ofInt IntKind.u32.bits (a:Int) ||| BitVec.ofInt IntKind.u32.bits (IntKind.u32.wrap ((c.toNat:Int)*2 ^ min (8*(k:Int)).toNat IntKind.u32.bits))).toNat:Nat):Int)=((a+256 ^ k*c.toNat:Nat):Int):=by
 have hb:IntKind.u32.bits=32:=rfl;have hc:=c.toNat_lt;rw[hb];have key:∀ k:Nat,k<4->∀ a:Nat,a<256 ^ k->IntKind.u32.wrap (((BitVec.ofInt 32 (a:Int) ||| BitVec.ofInt 32 (IntKind.u32.wrap ((c.toNat:Int)*2 ^ (8*k)))).toNat:Nat):Int)=((a+256 ^ k*c.toNat:Nat):Int):=by
  intro k hk a ha;have e256:256 ^ k=2 ^ (8*k):=by rw[Nat.pow_mul]
  rw[e256]at ha ⊢;have hle:2 ^ (8*k)<=2 ^ 24:=Nat.pow_le_pow_right om om;have hpos:0<2 ^ (8*k):=Nat.pow_pos om;have hm:c.toNat*2 ^ (8*k)<=255*2 ^ 24:=Nat.mul_le_mul om hle;have e0:(c.toNat:Int)*2 ^ (8*k)=((c.toNat*2 ^ (8*k):Nat):Int):=by push_cast;rfl
  have e3:IntKind.u32.wrap ((c.toNat*2 ^ (8*k):Nat):Int)=((c.toNat*2 ^ (8*k):Nat):Int):=by rw[IntKind.wrap_u32];omega
  rw[e0,e3,BitVec.toNat_or,BitVec.toNat_ofInt,BitVec.toNat_ofInt];have e1:(((c.toNat*2 ^ (8*k):Nat):Int)%((2 ^ 32:Nat):Int)).toNat=c.toNat <<< (8*k):=by rw[Nat.shiftLeft_eq];omega
  have e2:((a:Int)%((2 ^ 32:Nat):Int)).toNat=a:=om;rw[e1,e2,Nat.or_comm,<-Nat.shiftLeft_add_eq_or_of_lt ha c.toNat,Nat.shiftLeft_eq,IntKind.wrap_u32,Nat.mul_comm (2 ^ (8*k))];omega
 have e:(min (8*(k:Int)).toNat 32)=8*k:=om;rw[e];exact key k hk a ha
theorem d0u(l:Sl Bytes)(hl:(els l).length<=1000000)(hb:(els l).flatten.length<=1000000)(H:AH):K tab A7 A5 70 [A4 B1 l] H=some (.agg (Tj (Ck (els l).flatten)),H):=by
 refine Ae l70 rfl (by simp only[t0]) rfl ?_ H;have hj:=df9 l [] hl (by rw[b0q];exact hb);simp only[b0q]at hj
 simp(disch:=omega)only[g70,t0,seval,hj]
 generalize (els l).flatten=b at *;clear hj;generalize hr:Ai _ _ _=r;refine Bb hr ((b.length+3)/4)
  (λj=>[.top,.ptr 0 0 0 1,.ptr 1 0 0 1,.str b,.int .i64 (4*j:Nat),.top,.top,.top,.top,.top,.top,.top,.top,.top,.top,.top,.top,.top,.top,.top])
  (λj=>[some [[.int .u32 0,.int .u32 0,.int .u32 0,.int .u32 0]],some [Tj (Q1 b j)]]) (λj=>True) ?_ ?_ trivial ?_ ?_
 ·simp
 ·rfl
 ·intro j hj _;have hj':(((4*j:Nat):Int)<(b.length:Int)):=om;rw[b92 b j om];generalize Q1 b j=S;have hmin:(if(b.length:Int)<((4*j:Nat):Int)+4 then(b.length:Int)else((4*j:Nat):Int)+4)=((min (4*j+4) b.length:Nat):Int):=by split<;>omega
  simp(disch:=first|omega|decide)only[t0,seval,hj',Tj,e74];clear hr;generalize hr:Ai _ _ _=r;have hch:List.drop (4*j) (List.take (if(b.length:Int)<((4*j:Nat):Int)+4 then(b.length:Int)else((4*j:Nat):Int)+4).toNat b)=(b.drop (4*j)).take 4:=by
   rw[hmin,e5s,List.drop_take];rcases e7h (4*j+4) b.length with h|h
   ·rw[e6s om,show 4*j+4-4*j=4 by omega]
   ·rw[Nat.min_eq_right om,e4h (by rw[e60];omega),e4h (by rw[e60];omega)]
  rw[hch]at hr;have hcl:((b.drop (4*j)).take 4).length<=4:=by rw[e67];omega
  generalize (b.drop (4*j)).take 4=ch at *;refine Ny (Q:=λr=>Rd _ _ _ _ (Hu _ _ (Cn _ _ (C2 _ (Cn _ _ (C2 _ r)))))) hr ch.length
   (λk=>[.top,.ptr 0 0 0 1,.ptr 1 0 0 1,.str b,.int .i64 (4*j:Nat),.int .u32 (w4 (ch.take k):Nat),.top,.top,.top,.own 2 1 0 ch.length ch.length,.int .i64 ch.length,.int .i64 k,.top,.top,.top,.top,.top,.top,.top,.top])
   (λk=>[some [[.int .u32 0,.int .u32 0,.int .u32 0,.int .u32 0]],some [[.int .u32 S.a.toNat,.int .u32 S.b.toNat,.int .u32 S.c.toNat,.int .u32 S.d.toNat]],some (ch.map λb=>[.int .u8 b.toNat])]) (λk=>True) ?_ ?_ trivial ?_ ?_
  ·simp[w4]
  ·rfl
  ·intro k hk _;have hk':((k:Int)<(ch.length:Int)):=om;have hw:=a2u (ch.take k);rw[e67,e6s om]at hw;have hor:=cy8 (w4 (ch.take k)) (ch.getD k default) k hw om;have hc:=(ch.getD k default).toNat_lt;rw[b4x ch k hk]
   simp(disch:=first|omega|decide)only[t0,seval,hk',e74,IntWalk.u32_in,e6i,Ic,hor];rfl
  ·intro _;rw[e68];have hw:w4 ch<4294967296:=by
    have:=a2u ch;have h2:256 ^ ch.length<=256 ^ 4:=Nat.pow_le_pow_right om om;omega
   have hW:((w4 ch:Nat):Int)=((UInt32.ofNat (w4 ch)).toNat:Int):=(by rw[UInt32.toNat_ofNat'];omega);rw[hW];generalize UInt32.ofNat (w4 ch)=W
   simp(disch:=first|omega|decide)only[t0,seval,e7f,e74];clear hr
   iterate 5 (rw[T3];simp(disch:=first|omega|decide)only[t0,seval,e74,b4r])
   refine⟨?_,rfl⟩;have e:(((4*j:Nat):Int)+4)=((4*(j+1):Nat):Int):=om;rw[e]
 ·intro _;have e:Q1 b ((b.length+3)/4)=Ck b:=by unfold Q1 Ck;rw[<-as0,e68]
  rw[e];generalize Ck b=S
  simp(disch:=omega)only[t0,seval,Tj]
theorem b50(r sz o l t:Nat)(H:AH):K tab A7 A5 70 [.own r sz o l t] H=Hn tab A7 A5 70 [.own r sz o l t] H (Aa (B3 H [.own r sz o l t])) (K tab A7 A5 70 (B3 H [.own r sz o l t]) H):=Nf _ _ _ rfl _ _
theorem e1t(E:CallF)(a:List Opd)(c:Nat)(V:Opd->AV)(H:AH)(args:List AV):Jw A5 E 70 a c V H args false=Vn (Hq A5 E 70 a c V H) (F7 H args) c H (E 70 (B3 H args) []):=a61 rfl _ _ _ _ _ _
theorem Gs(E:CallF)(a:List Opd)(c:Nat)(V:Opd->AV)(H:AH)(args:List AV):Jw A5 E 39 a c V H args false=Vn (Hq A5 E 39 a c V H) (F7 H args) c H (E 39 (B3 H args) []):=a61 rfl _ _ _ _ _ _
theorem av4(b:Bytes)(hb:b.length<=1000000)(H:AH):K tab A7 A5 70 [.fz [[.str b]]] H=some (.agg [.int .u32 (Ck b).a.toNat,.int .u32 (Ck b).b.toNat,.int .u32 (Ck b).c.toNat,.int .u32 (Ck b).d.toNat],H):=by
 have h:=d0u (some [b]) (by simp[els]) (by simpa [els]using hb) H;have e:(els (some [b])).flatten=b:=by simp[els]
 rw[e]at h;exact h
theorem cz7(at':Int)(b:Bytes)(birth:Int)(hb:b.length<=1000000)(H:AH):K tab A7 A5 119 [.int .i64 at',.str b,.int .i64 birth] H=some (.agg (Aj ⟨at',birth,Ck b⟩),H):=by
 refine Ae de2 rfl rfl rfl ?_ H
 simp(disch:=first|omega|decide)only[aj6,t0,seval,b50,av4,if_pos,Aj]
theorem d0r(s t:Sum):(s=t)↔((s.a.toNat:Int)=t.a.toNat/\(s.b.toNat:Int)=t.b.toNat/\(s.c.toNat:Int)=t.c.toNat/\(s.d.toNat:Int)=t.d.toNat):=by
 obtain⟨a,b,c,d⟩:=s;obtain⟨e,f,g,h⟩:=t;simp only[Sum.mk.injEq,at2]
theorem dz4(p:Ptr)(b:Bytes)(hb:b.length<=1000000)(H:AH):K tab A7 A5 170 [.agg (Aj p),.str b] H=some (.bool (decide (p.sum=Ck b)),H):=by
 refine Ae d9w rfl rfl rfl ?_ H
 simp(disch:=try exact dz)only[ag1,t0,seval,e1t,av4,if_pos,Aj];simp only[d0r,e6t]
theorem d3o(a b c:Int)(H:AH):K tab A7 A5 39 [.str [49,52,50],.fz [[.int .i64 a],[.int .i64 b],[.int .i64 c]]] H=some (.str (B5 [1,4,2] [a,b,c]),H):=Q7 _ (by decide) (some [a,b,c]) H
theorem a1v(k b:Int)(l:Bytes)(hl:l.length<=1000000)(H:AH):K tab A7 A5 122 [.agg [.int .i64 k,.int .i64 b,.str l]] H=some (.str (Ew ⟨k,b,l⟩),H):=by
 refine Ae dd8 rfl rfl rfl ?_ H;have h7:(B5 [1,4,2] [k,b,(l.length:Int)]).length=7:=Fc _ _ rfl;by_cases hm:Jp ⟨k,b,l⟩=true
 ·have h249:l.length<=249:=by simp only[Jp,e5v,e5h]at hm;exact hm.2
  simp(disch:=try exact dz)only[a5a,t0,seval,an3,hm,Gs,d3o,a3m,if_pos,e74,h7,U8];have e:(256-((7+l.length:Nat):Int)).toNat=249-l.length:=om;rw[e];unfold Ew;rw[if_pos hm]
 ·have hm':Jp ⟨k,b,l⟩=false:=by simpa using hm
  simp(disch:=try exact dz)only[a5a,t0,seval,an3,hm'];unfold Ew;rw[if_neg hm]
theorem bl1(x:Block):(Ew x).length<=1000000:=e7n (az7 x) om
theorem bj2(k b:Int)(l:Bytes)(ok:Bool)(p:Ptr)(kind:Int)(hl:l.length<=1000000)(H:AH):K tab A7 A5 134 [.agg [.int .i64 k,.int .i64 b,.str l,.bool ok],.agg (Aj p),.int .i64 kind] H =
 some (.bool (ok&&(decide (p.sum=Ck (Ew ⟨k,b,l⟩))&&(decide (b=p.birth)&&decide (k=kind)))),H):=by
 refine Ae dc7 rfl rfl rfl ?_ H;have hp:=bl1 ⟨k,b,l⟩;cases ok with
 |false=>
   simp(disch:=try exact dz)only[Xx,t0,seval,Aj,if_pos]
 |true=>
   have hf:=λH=>dz4 p (Ew ⟨k,b,l⟩) hp H;simp only[Aj]at hf;cases h1:decide (p.sum=Ck (Ew ⟨k,b,l⟩))<;>simp only[h1]at hf
   ·simp(disch:=try exact dz)only[Xx,t0,seval,Aj,a1v,hf,if_pos]
   ·cases h2:decide (b=p.birth)
    ·simp(disch:=try exact dz)only[Xx,t0,seval,Aj,a1v,hf,if_pos,h2]
    ·simp(disch:=try exact dz)only[Xx,t0,seval,Aj,a1v,hf,if_pos,h2]
def Zp(o:Option Block):AV:=match o with
 |some x=>.agg [.int .i64 x.kind,.int .i64 x.birth,.str x.load,.bool true]
 |none=>.agg [.int .i64 0,.int .i64 0,.str [],.bool false]
theorem b8r(s:Bytes)(hs:s.length<=1000000)(H:AH):K tab A7 A5 133 [.str s] H=some (Zp (Pz s),H):=by
 refine Ae dc8 rfl rfl (by unfold Zp;split<;>rfl) ?_ H;have ht:=Sk (orc:=A7) (lk:=A5) [49,52,50] (by decide) s;have e:Fo [49,52,50] s=if 7<=s.length then some (B0 [1,4,2] s,s.drop 7)else none:=rfl;unfold He at ht;rw[e]at ht;by_cases h7:7<=s.length
 ·rw[if_pos h7]at ht;simp only[B0,e6v,Nat.reduceAdd,e75,e7k,D5]at ht;have hn:=Rb ((s.drop 5).take 2);have hd:(s.drop 7).length=s.length-7:=e60;have htb:Pz s=if B4 ((s.drop 5).take 2)<=s.length-7 then(if Jp (Tp s)=true then(if Ew (Tp s)=s then some (Tp s)else none)else none)else none:=by
   unfold Pz;by_cases h1:B4 ((s.drop 5).take 2)<=(s.length:Int)-7
   ·by_cases h2:Jp (Tp s)=true
    ·by_cases h3:Ew (Tp s)=s
     ·rw[if_pos ⟨h7,h1,h2,h3⟩,if_pos h1,if_pos h2,if_pos h3]
     ·rw[if_neg (λh=>h3 h.2.2.2),if_pos h1,if_pos h2,if_neg h3]
    ·rw[if_neg (λh=>h2 h.2.2.1),if_pos h1,if_neg h2]
   ·rw[if_neg (λh=>h1 h.2.1),if_neg h1]
  rw[htb];unfold Tp;generalize B4 ((s.drop 5).take 2)=n at *;generalize B4 ((s.drop 1).take 4)=b at *;generalize B4 (s.take 1)=k at *;by_cases h1:n<=(s.length:Int)-7
  ·have hlen:((s.drop 7).take n.toNat).length<=1000000:=(by rw[e67];omega);have hput:=bl1 ⟨k,b,(s.drop 7).take n.toNat⟩;rw[if_pos h1];cases h2:Jp ⟨k,b,(s.drop 7).take n.toNat⟩with
   |false=>
     simp(disch:=try exact dz)only[Xy,t0,seval,ht,Fg,if_pos,if_neg,hd,an3,a1v,h2];rfl
   |true=>
     simp(disch:=try exact dz)only[Xy,t0,seval,ht,Fg,if_pos,if_neg,hd,an3,a1v,h2];by_cases h3:Ew ⟨k,b,(s.drop 7).take n.toNat⟩=s
     ·rw[if_neg (by simp[h3]),if_pos h3];rfl
     ·rw[if_pos (by simp[h3]),if_neg h3];rfl
  ·rw[if_neg h1]
   simp(disch:=try exact dz)only[Xy,t0,seval,ht,Fg,if_pos,if_neg,hd];rfl
 ·rw[if_neg h7]at ht;have htb:Pz s=none:=by unfold Pz;rw[if_neg (λh=>h7 h.1)]
  simp(disch:=try exact dz)only[Xy,t0,seval,ht,htb,Zp]
structure DevOk(d:Dev):Prop where
 last:(els d.last).length<=1000
 wait:(els d.wait).length<=1000000
 ltx:∀ s∈els d.last,s.length<=256
 wtx:∀ p∈els d.wait,p.2.length<=256
theorem bw4{n:Nat}:∀ (w:List (Int×Bytes)) (i:Int) (s:Bytes),(∀ p∈w,p.2.length<=n)->s.length<=n->(Qk w i s).length<=n
 |[],_,s,_,h=>h
 |p::w,i,s,hw,h=>by
   unfold Qk;rw[e6j];refine bw4 w i _ (λq hq=>hw q (e4u _ hq)) ?_;split
   ·exact hw p (e5a ..)
   ·exact h
theorem d2n{d:Dev}(h:DevOk d){i:Int}{s:Bytes}(hs:Gp d i=some s):s.length<=256:=by
 unfold Gp at hs;split at hs
 ·rename_i hc;cases hs;refine bw4 _ _ _ h.wtx (h.ltx _ ?_);rw[e42,e47 (show i.toNat<(els d.last).length by omega)];exact e63 _
 ·cases hs
theorem d2o{d:Dev}{p:Ptr}{k:Int}{s:Bytes}(hs:a3s d p k=some s):s.length<=249:=by
 unfold a3s at hs;split at hs
 ·cases hs
 ·split at hs
  ·cases hs
  ·split at hs
   ·cases hs
   ·rename_i x hx;split at hs
    ·cases hs;unfold Pz at hx;split at hx
     ·rename_i hc;cases hx
      have:=hc.2.2.1;simp only[Jp,e5v,e5h]at this;exact this.2
     ·cases hx
    ·cases hs
theorem a48{d:Dev}{p:Ptr}{k:Int}{s:Bytes}(hs:Hy d p k=some s):s.length<=249:=by
 unfold Hy at hs;split at hs
 ·cases hs
 ·exact d2o hs
theorem d0p{s:Bytes}{x:Block}(h:Pz s=some x):x.load.length<=249:=by
 unfold Pz at h;split at h
 ·rename_i hc;cases h
  have:=hc.2.2.1;simp only[Jp,e5v,e5h]at this;exact this.2
 ·cases h
theorem d0o:Pz []=none:=by decide
theorem e2b(d:Dev)(hd:DevOk d)(p:Ptr)(kind:Int)(H:AH):K tab A7 A5 88 [.agg [A4 B1 d.last,A4 B2 d.wait,.int .i64 d.lies,.int .i64 d.arm,.bool d.down],.agg [.int .i64 p.addr,.int .i64 p.birth,.int .u32 p.sum.a.toNat,.int .u32 p.sum.b.toNat,.int .u32 p.sum.c.toNat,.int .u32 p.sum.d.toNat],.int .i64 kind] H=some (De (a3s d p kind),H):=by
 refine Ae l88 rfl (by simp[Aa,Ab,Ak]) rfl ?_ H;have h1:=hd.last;have h2:=hd.wait;have hr:=λH=>e0w d.last d.wait d.lies d.arm d.down p.addr om h2 H;have e:Gp ⟨d.last,d.wait,d.lies,d.arm,d.down⟩ p.addr=Gp d p.addr:=rfl;rw[e]at hr;unfold a3s;by_cases h14:p.addr<14
 ·rw[if_pos h14]
  simp(disch:=try exact dz)only[Xw,t0,seval,if_pos,if_neg];rfl
 ·rw[if_neg h14];cases hs:Gp d p.addr with
  |none=>
    rw[hs]at hr;have ht:=b8r [] (by simp);rw[d0o]at ht;simp only[Zp]at ht
    simp(disch:=try exact dz)only[Xw,t0,seval,if_pos,if_neg,hr,ht,e6b,e54];rfl
  |some s=>
    rw[hs]at hr;have hsl:=d2n hd hs;have ht:=b8r s om;simp only[];cases hb:Pz s with
    |none=>
      rw[hb]at ht;simp only[Zp]at ht;have hi:=bj2 0 0 [] false p kind (by simp);simp only[Aj]at hi
      simp(disch:=try exact dz)only[Xw,t0,seval,if_pos,if_neg,hr,ht,hi,e5u,e55];rfl
    |some x=>
      rw[hb]at ht;simp only[Zp]at ht;have hi:=bj2 x.kind x.birth x.load true p kind (by have:=d0p hb;omega);rw[show(⟨x.kind,x.birth,x.load⟩:Block)=x from rfl]at hi;simp only[Aj]at hi
      simp(disch:=try exact dz)only[Xw,t0,seval,if_pos,if_neg,hr,ht,hi,e5u,e55];by_cases hc:p.sum=Ck (Ew x)/\x.birth=p.birth/\x.kind=kind
      ·obtain⟨c1,c2,c3⟩:=hc;rw[if_pos (by simp[c1,c2,c3]),if_pos ⟨c1,c2,c3⟩];rfl
      ·rw[if_neg (by simpa using hc),if_neg hc];rfl
theorem c7g(last:Sl Bytes)(wait:Sl (Int×Bytes))(lies arm:Int)(down:Bool)(hl:(els last).length<=1000000)(H:AH):K tab A7 A5 51 [.agg [A4 B1 last,A4 B2 wait,.int .i64 lies,.int .i64 arm,.bool down]] H=some (.int .i64 (H7 ⟨last,wait,lies,arm,down⟩),H):=by
 refine Ae l51 rfl (by simp[Aa,Ab,Ak]) rfl ?_ H
 simp(disch:=try exact dz)only[g51,t0,seval,e74,H7]
theorem a0k(d:Dev)(hd:DevOk d)(p:Ptr)(kind:Int)(H:AH):K tab A7 A5 49 [.agg [A4 B1 d.last,A4 B2 d.wait,.int .i64 d.lies,.int .i64 d.arm,.bool d.down],.agg [.int .i64 p.addr,.int .i64 p.birth,.int .u32 p.sum.a.toNat,.int .u32 p.sum.b.toNat,.int .u32 p.sum.c.toNat,.int .u32 p.sum.d.toNat],.int .i64 kind] H=some (De (Hy d p kind),H):=by
 refine Ae l49 rfl (by simp[Aa,Ab,Ak]) rfl ?_ H;have h1:=hd.last;have hr:=e2b d hd p kind;have hq:=c7g d.last d.wait d.lies d.arm d.down om;have e:H7 ⟨d.last,d.wait,d.lies,d.arm,d.down⟩=H7 d:=rfl;rw[e]at hq;have hb:H7 d<=1000/\ -100<=H7 d:=by unfold H7;omega
 unfold Hy
 simp(disch:=try exact dz)only[g49,t0,seval,hq,hr,e74,if_pos,De];by_cases h:14+H7 d<=p.addr
 ·rw[if_pos om,if_pos h];rfl
 ·rw[if_neg om,if_neg h]
theorem a3u(l:List Ptr):(Et l).length<=22*l.length:=by
 unfold Et;split
 ·rw[a5h];omega
 ·simp
theorem a8w(l:List Ptr)(h:l≠[]):(Et l=[])↔¬ l.all Ct=true:=by
 unfold Et;split
 ·rename_i ha;constructor
  ·intro h2
   have:=congrArg List.length h2;rw[a5h,e6f]at this
   have:=e51.2 h;omega
  ·intro h2;exact absurd ha h2
 ·rename_i ha;exact⟨λ_=>ha,λ_=>rfl⟩
theorem Sv(a b c:Int)(H:AH):K tab A7 A5 39 [.str [49,49,49],.fz [[.int .i64 a],[.int .i64 b],[.int .i64 c]]] H=some (.str (B5 [1,1,1] [a,b,c]),H):=Q7 _ (by decide) (some [a,b,c]) H
theorem Su(a:Int)(H:AH):K tab A7 A5 39 [.str [50],.fz [[.int .i64 a]]] H=some (.str (B5 [2] [a]),H):=Q7 _ (by decide) (some [a]) H
theorem bj0(k u:Int)(name body:Bytes)(bad size:Int)(l:Sl Ptr)(hn:name.length<=1000000)(hl:(els l).length<=1000000)(H:AH):K tab A7 A5 186 [.agg [.int .i64 k,.int .i64 u,.str name,.str body,.int .i64 bad],.int .i64 size,A4 Al l] H=some (.str (Np ⟨k,u,name⟩ size (els l)),H):=by
 refine Ae d9i rfl (by simp[Aa,Ab,Ak]) rfl ?_ H;have hp:=a8y (orc:=A7) (lk:=A5) l hl;have hpl:=a3u (els l);have h3:(B5 [1,1,1] [k,u,(name.length:Int)]).length=3:=Fc _ _ rfl;have h2:(B5 [2] [size]).length=2:=Fc _ _ rfl;have no:¬ (((k=1\/k=2)/\0<=u/\u<8/\name.length<=8)/\(0<=size/\size<=128/\(els l).length=4/\(els l).all Ct=true))->Np ⟨k,u,name⟩ size (els l)=[]:=λh=>if_neg h;by_cases c0:k=1\/k=2
 ·rcases c0 with rfl|rfl
  all_goals
   by_cases c1:u<0
   ·rw[no om]
    simp(disch:=try exact dz)only[Oy,t0,seval,hp,Gs,Sv,Su,e74,if_pos,if_neg,h3,h2]
   by_cases c2:8<=u
   ·rw[no om]
    simp(disch:=try exact dz)only[Oy,t0,seval,hp,Gs,Sv,Su,e74,if_pos,if_neg,h3,h2]
   by_cases c3:8<name.length
   ·rw[no om]
    simp(disch:=try exact dz)only[Oy,t0,seval,hp,Gs,Sv,Su,e74,if_pos,if_neg,h3,h2]
   by_cases c4:size<0
   ·rw[no om]
    simp(disch:=try exact dz)only[Oy,t0,seval,hp,Gs,Sv,Su,e74,if_pos,if_neg,h3,h2]
   by_cases c5:128<size
   ·rw[no om]
    simp(disch:=try exact dz)only[Oy,t0,seval,hp,Gs,Sv,Su,e74,if_pos,if_neg,h3,h2]
   by_cases c6:((els l).length:Int)=4
   ·by_cases c7:(els l).all Ct=true
    ·have hne:Et (els l)≠[]:=λh=>(a8w (els l) (by intro h;rw[h]at c6;simp at c6)).1 h c7
     simp(disch:=try exact dz)only[Oy,t0,seval,hp,Gs,Sv,Su,e74,if_pos,if_neg,h3,h2,hne,c6];have e:=a8x c7;rw[Np,if_pos ⟨⟨by simp,by simp only;omega,by simp only;omega,by simp only;omega⟩,by omega,by omega,by omega,c7⟩,e]
    ·have hne:Et (els l)=[]:=(a8w (els l) (by intro h;rw[h]at c6;simp at c6)).2 c7;rw[no (λh=>c7 h.2.2.2.2)]
     simp(disch:=try exact dz)only[Oy,t0,seval,hp,Gs,Sv,Su,e74,if_pos,if_neg,h3,h2,hne,c6]
   ·rw[no om]
    simp(disch:=try exact dz)only[Oy,t0,seval,hp,Gs,Sv,Su,e74,if_pos,if_neg,h3,h2,c6]
 ·rw[no om];have k1:k≠1:=λh=>c0 (.inl h);have k2:k≠2:=λh=>c0 (.inr h)
  simp(disch:=try exact dz)only[Oy,t0,seval,hp,Gs,Sv,Su,e74,if_pos,if_neg,h3,h2,k1,k2]
def Ka(o:Option (NodeH×Int×List Ptr)):AV:=match o with
 |some (x,z,l)=>.tuple [.agg [.int .i64 x.kind,.int .i64 x.up,.str x.name,.str [],.int .i64 0],.int .i64 z,.fz (l.map Al),.bool true]
 |none=>.tuple [.agg [.int .i64 0,.int .i64 0,.str [],.str [],.int .i64 0],.int .i64 0,.emp,.bool false]
theorem d04(o:Option (NodeH×Int×List Ptr)):Ab (Ka o)=true:=by
 cases o with
 |none=>rfl
 |some q=>obtain⟨x,z,l⟩:=q;rfl
theorem b8w{n:Nat}{s:Bytes}{l:List Ptr}{r:Bytes}(h:Fm n s=some (l,r)):l.length=n:=(a35 h).2.2
theorem bi9(s:Bytes)(hs:s.length<=100000)(H:AH):K tab A7 A5 163 [.str s] H=some (Ka (Sm s),H):=by
 refine Ae da3 rfl rfl (d04 _) ?_ H;have t1:=Sk (orc:=A7) (lk:=A5) [49,49,49] (by decide) s;have e1:Fo [49,49,49] s=if 3<=s.length then some (B0 [1,1,1] s,s.drop 3)else none:=rfl;unfold He at t1;unfold Sm;rw[e1]at t1 ⊢;by_cases h3:3<=s.length
 ·rw[if_pos h3]at t1 ⊢;have hL:B0 [1,1,1] s=[B4 (s.take 1),B4 ((s.drop 1).take 1),B4 ((s.drop 2).take 1)]:=by simp[B0,e6v]
  rw[hL]at t1 ⊢;simp only[e75,e7k,D5]at t1;simp only[];have hn:=Rb ((s.drop 2).take 1);have hd:(s.drop 3).length=s.length-3:=e60;generalize B4 ((s.drop 2).take 1)=n at *;generalize B4 ((s.drop 1).take 1)=u at *;generalize B4 (s.take 1)=k at *;generalize s.drop 3=r at *;by_cases hn2:(r.length:Int)<n
  ·rw[if_pos hn2]
   simp(disch:=try exact dz)only[Tb,t0,seval,t1,Fg,if_pos,if_neg,e68];rfl
  ·rw[if_neg hn2];have hrd:(r.drop n.toNat).length=r.length-n.toNat:=e60;have hrt:(r.take n.toNat).length<=100000:=(by rw[e67];omega);generalize hname:r.take n.toNat=name at *;have t2:=Sk (orc:=A7) (lk:=A5) [50] (by decide) (r.drop n.toNat);have e2:Fo [50] (r.drop n.toNat)=if 2<=(r.drop n.toNat).length then some (B0 [2] (r.drop n.toNat),(r.drop n.toNat).drop 2)else none:=rfl;unfold He at t2;rw[e2]at t2 ⊢;by_cases h2:2<=(r.drop n.toNat).length
   ·rw[if_pos h2]at t2 ⊢;have hL2:B0 [2] (r.drop n.toNat)=[B4 ((r.drop n.toNat).take 2)]:=rfl;rw[hL2]at t2 ⊢;simp only[e75,e7k,D5]at t2;simp only[];have hdd:((r.drop n.toNat).drop 2).length<=100000:=(by rw[e60];omega);have t3:=λH=>a7x (orc:=A7) (lk:=A5) ((r.drop n.toNat).drop 2) om 4 om H;generalize B4 ((r.drop n.toNat).take 2)=z at *
    generalize (r.drop n.toNat).drop 2=w at *;unfold Nk at t3;rw[show(4:Int).toNat=4 from rfl]at t3;cases hp:Fm 4 w with
    |none=>
      rw[hp]at t3
      simp(disch:=try exact dz)only[Tb,t0,seval,t1,t2,t3,Fg,if_pos,if_neg,e68];rfl
    |some q=>
      obtain⟨l,x⟩:=q;rw[hp]at t3;have hl4:=b8w hp;have hN:=λH=>bj0 k u name [] 0 z (some l) om (by rw[Az];omega) H;simp only[Az,Cx]at hN;simp only[]at t3 ⊢;by_cases hE:Np ⟨k,u,name⟩ z l=s
      ·simp(disch:=try exact dz)only[Tb,t0,seval,t1,t2,t3,hN,hE,hname,Fg,if_pos,if_neg,e68];rfl
      ·simp(disch:=try exact dz)only[Tb,t0,seval,t1,t2,t3,hN,hE,hname,Fg,if_pos,if_neg,e68];rfl
   ·rw[if_neg h2]at t2 ⊢
    simp(disch:=try exact dz)only[Tb,t0,seval,t1,t2,Fg,if_pos,if_neg,e68];rfl
 ·rw[if_neg h3]at t1 ⊢
  simp(disch:=try exact dz)only[Tb,t0,seval,t1];rfl
theorem d2j(l:Sl Ptr)(hl:(els l).length<=1000000)(H:AH):K tab A7 A5 187 [A4 Al l] H=some (.str (Ro (els l)),H):=by
 refine Ae d9h rfl (by simp[Aa,Ak]) rfl ?_ H;have hp:=a8y (orc:=A7) (lk:=A5) l hl;unfold Ro;by_cases h:(els l).length=8
 ·have h':((els l).length:Int)=8:=om;rw[if_pos h]
  simp(disch:=try exact dz)only[a52,t0,seval,hp,if_pos,if_neg,h']
 ·have h':¬ ((els l).length:Int)=8:=om;rw[if_neg h]
  simp(disch:=try exact dz)only[a52,t0,seval,hp,if_pos,if_neg,h']
theorem e1r(l:List Ptr)(hl:l.length<=1000000)(H:AH):K tab A7 A5 162 [.fz (l.map Al)] H=some (.fz (l.map Al),H):=by
 refine Ae da4 rfl rfl rfl ?_ H;have e:D8 (.slice3 (.t 0) (.c (.int .i64 0)) (.t 1) (.t 2)) (Ac [.fz (l.map Al),.int .i64 l.length,.int .i64 l.length]) []=some (.fz (l.map Al),[]):=by
  have h0:(0:Int)<=(l.length:Int):=om;simp[D8,Ar,Cc,Ac,getF,am7,S1,X4,Bo,b2z]
 simp(disch:=try exact dz)only[ag7,t0,seval,if_pos,if_neg,e]
def a30(o:Option (List Ptr)):AV:=match o with
 |some l=>.tuple [.fz (l.map Al),.bool true]
 |none=>.tuple [.emp,.bool false]
theorem bi8(s:Bytes)(hs:s.length<=1000000)(H:AH):K tab A7 A5 128 [.str s] H=some (a30 (Wt s),H):=by
 refine Ae dd2 rfl rfl (by unfold a30;split<;>rfl) ?_ H;have t3:=λH=>a7x (orc:=A7) (lk:=A5) s om 8 om H;unfold Nk at t3;rw[show(8:Int).toNat=8 from rfl]at t3;unfold Wt;cases hp:Fm 8 s with
 |none=>
   rw[hp]at t3
   simp(disch:=try exact dz)only[a17,t0,seval,t3,if_pos,if_neg];rfl
 |some q=>
   obtain⟨l,x⟩:=q;rw[hp]at t3;have hl:=b8w hp;have hc:=e1r l om;simp only[]at t3;cases x with
   |nil=>
     simp(disch:=try exact dz)only[a17,t0,seval,t3,hc,if_pos,if_neg];rfl
   |cons a x=>
     have hne:¬ (a::x=[]):=by simp
     simp(disch:=try exact dz)only[a17,t0,seval,t3,hc,if_pos,if_neg,hne];rfl
theorem d22(id kind origin quota:Int)(fl:AV)(hfl:Ab fl=true)(hfc:cellA fl=true)(p:Ptr)(last:Int)(H:AH):K tab A7 A5 152 [.agg [.int .i64 id,.int .i64 kind,.int .i64 origin,.int .i64 quota,fl,.int .i64 p.addr,.int .i64 p.birth,.int .u32 p.sum.a.toNat,.int .u32 p.sum.b.toNat,.int .u32 p.sum.c.toNat,.int .u32 p.sum.d.toNat],.int .i64 last] H=some (.bool (a0g last ⟨id,kind,origin,quota⟩ p),H):=by
 refine Ae db4 rfl (by simp[Aa,Ab,hfl]) rfl ?_ H;have hm:=bt2 (orc:=A7) (lk:=A5) p;simp only[Aj]at hm
 simp(disch:=try exact dz)only[ah6,t0,seval,hm,U9,if_pos,if_neg,hfc];have h0:=a07 p.addr p.birth p.sum.a p.sum.b p.sum.c p.sum.d;rw[Sq]at h0;have e:decide (p=Bt)=(decide (p.addr=0)&&(decide (p.birth=0)&&(decide ((p.sum.a.toNat:Int)=0)&&(decide ((p.sum.b.toNat:Int)=0)&&(decide ((p.sum.c.toNat:Int)=0)&&decide ((p.sum.d.toNat:Int)=0)))))):=by
  rw[<-e6t,<-e6t,<-e6t,<-e6t,<-e6t];exact e66.2 h0
 rw[<-e];unfold a0g;simp only[Bool.decide_eq_true]
theorem Ua(r sz o l t:Nat)(H:AH):K tab A7 A5 121 [.own r sz o l t] H=Hn tab A7 A5 121 [.own r sz o l t] H (Aa (B3 H [.own r sz o l t])) (K tab A7 A5 121 (B3 H [.own r sz o l t]) H):=Nf _ _ _ rfl _ _
theorem bl6(a b:Int)(c d e f:UInt32)(H:AH):K tab A7 A5 121 [.fz [[.int .i64 a,.int .i64 b,.int .u32 c.toNat,.int .u32 d.toNat,.int .u32 e.toNat,.int .u32 f.toNat]]] H=some (.str (Et [⟨a,b,⟨c,d,e,f⟩⟩]),H):=a8y (some [⟨a,b,⟨c,d,e,f⟩⟩]) (by simp[els]) H
theorem a06(p q r:Ptr)(H:AH):K tab A7 A5 121 [.fz [[.int .i64 p.addr,.int .i64 p.birth,.int .u32 p.sum.a.toNat,.int .u32 p.sum.b.toNat,.int .u32 p.sum.c.toNat,.int .u32 p.sum.d.toNat],[.int .i64 q.addr,.int .i64 q.birth,.int .u32 q.sum.a.toNat,.int .u32 q.sum.b.toNat,.int .u32 q.sum.c.toNat,.int .u32 q.sum.d.toNat],[.int .i64 r.addr,.int .i64 r.birth,.int .u32 r.sum.a.toNat,.int .u32 r.sum.b.toNat,.int .u32 r.sum.c.toNat,.int .u32 r.sum.d.toNat]]] H=some (.str (Et [p,q,r]),H):=a8y (some [p,q,r]) (by simp[els]) H
theorem d3p(a b c d:Int)(H:AH):K tab A7 A5 39 [.str [50,49,50,49],.fz [[.int .i64 a],[.int .i64 b],[.int .i64 c],[.int .i64 d]]] H=some (.str (B5 [2,1,2,1] [a,b,c,d]),H):=Q7 _ (by decide) (some [a,b,c,d]) H
theorem d3s(a:Int)(H:AH):K tab A7 A5 39 [.str [49],.fz [[.int .i64 a]]] H=some (.str (B5 [1] [a]),H):=Q7 _ (by decide) (some [a]) H
theorem a08(a b c:Int)(H:AH):K tab A7 A5 39 [.str [52,52,52],.fz [[.int .i64 a],[.int .i64 b],[.int .i64 c]]] H=some (.str (B5 [4,4,4] [a,b,c]),H):=Q7 _ (by decide) (some [a,b,c]) H
theorem a09(a:Int)(H:AH):K tab A7 A5 39 [.str [52],.fz [[.int .i64 a]]] H=some (.str (B5 [4] [a]),H):=Q7 _ (by decide) (some [a]) H
def az5(x:DsetH)(p:Ptr):Bytes:=B5 [2,1,2,1] [x.id,x.kind,x.origin,x.quota]++Et [p]
theorem d24(id kind origin quota:Int)(fl:AV)(hfl:Ab fl=true)(hfc:cellA fl=true)(p:Ptr)(H:AH):K tab A7 A5 153 [.agg [.int .i64 id,.int .i64 kind,.int .i64 origin,.int .i64 quota,fl,.int .i64 p.addr,.int .i64 p.birth,.int .u32 p.sum.a.toNat,.int .u32 p.sum.b.toNat,.int .u32 p.sum.c.toNat,.int .u32 p.sum.d.toNat]] H=some (.str (az5 ⟨id,kind,origin,quota⟩ p),H):=by
 refine Ae db3 rfl (by simp[Aa,Ab,hfl]) rfl ?_ H;have h6:(B5 [2,1,2,1] [id,kind,origin,quota]).length=6:=Fc _ _ rfl;have hp:=a3u [p];simp only[e5w,e6f]at hp
 simp(disch:=try exact dz)only[ah5,t0,seval,Gs,d3p,Ua,bl6,Sq,if_pos,if_neg,hfc,h6];rfl
theorem b8y(r:Root)(H:AH):K tab A7 A5 82 [.agg [.int .i64 r.txg,.int .i64 r.next,.int .i64 r.guid,.int .i64 r.table.addr,.int .i64 r.table.birth,.int .u32 r.table.sum.a.toNat,.int .u32 r.table.sum.b.toNat,.int .u32 r.table.sum.c.toNat,.int .u32 r.table.sum.d.toNat,.int .i64 r.space.addr,.int .i64 r.space.birth,.int .u32 r.space.sum.a.toNat,.int .u32 r.space.sum.b.toNat,.int .u32 r.space.sum.c.toNat,.int .u32 r.space.sum.d.toNat,.int .i64 r.kept.addr,.int .i64 r.kept.birth,.int .u32 r.kept.sum.a.toNat,.int .u32 r.kept.sum.b.toNat,.int .u32 r.kept.sum.c.toNat,.int .u32 r.kept.sum.d.toNat,.int .i64 r.keptTxg]] H=some (.str (Rp r),H):=by
 refine Ae l82 rfl rfl rfl ?_ H;have S4:(B5 [4,4,4] [r.txg,r.next,r.guid]).length=12:=Fc _ _ rfl;have h4:(B5 [4] [r.keptTxg]).length=4:=Fc _ _ rfl;have hp:=a3u [r.table,r.space,r.kept];simp only[e5w,e6f]at hp;have no:Rx r=false->Rp r=[]:=λh=>by unfold Rp;rw[if_neg (by rw[h];simp)]
 by_cases c1:r.txg<1
 ·rw[no (by simp[Rx];omega)]
  simp(disch:=try exact dz)only[S6,t0,seval,U9,if_pos,if_neg]
 cases w1:(decide (0<=r.txg)&&decide (r.txg<=1073741824))with
 |false=>
   rw[no (by unfold Rx;rw[e5q];simp only[ne_eq,e5v,e5h];simp only[Bool.and_eq_false_iff,e4d]at w1;omega)]
   simp(disch:=try exact dz)only[S6,t0,seval,U9,Gs,a08,a09,Ua,a06,if_pos,if_neg,c1,S4,h4,w1]
 |true=>
   cases w2:(decide (0<=r.next)&&decide (r.next<=1073741824))with
   |false=>
     rw[no (by unfold Rx;rw[e5q];simp only[ne_eq,e5v,e5h];simp only[Bool.and_eq_false_iff,e4d]at w2;omega)]
     simp(disch:=try exact dz)only[S6,t0,seval,U9,Gs,a08,a09,Ua,a06,if_pos,if_neg,c1,S4,h4,w1,w2]
   |true=>
     cases w3:(decide (0<=r.guid)&&decide (r.guid<=1073741824))with
     |false=>
       rw[no (by unfold Rx;rw[e5q];simp only[ne_eq,e5v,e5h];simp only[Bool.and_eq_false_iff,e4d]at w3;omega)]
       simp(disch:=try exact dz)only[S6,t0,seval,U9,Gs,a08,a09,Ua,a06,if_pos,if_neg,c1,S4,h4,w1,w2,w3]
     |true=>
       cases w4:(decide (0<=r.keptTxg)&&decide (r.keptTxg<=1073741824))with
       |false=>
         rw[no (by unfold Rx;rw[e5q];simp only[ne_eq,e5v,e5h];simp only[Bool.and_eq_false_iff,e4d]at w4;omega)]
         simp(disch:=try exact dz)only[S6,t0,seval,U9,Gs,a08,a09,Ua,a06,if_pos,if_neg,c1,S4,h4,w1,w2,w3,w4]
       |true=>
         by_cases c3:[r.table,r.space,r.kept].all Ct=true
         ·have hne:Et [r.table,r.space,r.kept]≠[]:=λh=>(a8w _ (by simp)).1 h c3
          simp(disch:=try exact dz)only[S6,t0,seval,U9,Gs,a08,a09,Ua,a06,if_pos,if_neg,c1,S4,h4,w1,w2,w3,w4,hne];have hm:Rx r=true:=by
           unfold Rx;simp only[e7a,e7s,e5v,e78]at c3;simp only[e5v,e5h]at w1 w2 w3 w4 ⊢;exact⟨⟨⟨⟨⟨by omega,w1.2⟩,w2⟩,w3⟩,w4⟩,⟨c3.1,c3.2.1⟩,c3.2.2⟩
          rw[Rp,if_pos hm,a8x c3];simp
         ·have hne:Et [r.table,r.space,r.kept]=[]:=(a8w _ (by simp)).2 c3;rw[no (by unfold Rx;rw[e5q];simp only[ne_eq,e5v,e5h];simp only[e7a,e7s,e5v,e78]at c3;intro h;exact c3 ⟨h.2.1.1,h.2.1.2,h.2.2⟩)]
          simp(disch:=try exact dz)only[S6,t0,seval,U9,Gs,a08,a09,Ua,a06,if_pos,if_neg,c1,S4,h4,w1,w2,w3,w4,hne]
def X2(r:Root):List AV:=[.int .i64 r.txg,.int .i64 r.next,.int .i64 r.guid,.int .i64 r.table.addr,.int .i64 r.table.birth,.int .u32 r.table.sum.a.toNat,.int .u32 r.table.sum.b.toNat,.int .u32 r.table.sum.c.toNat,.int .u32 r.table.sum.d.toNat,.int .i64 r.space.addr,.int .i64 r.space.birth,.int .u32 r.space.sum.a.toNat,.int .u32 r.space.sum.b.toNat,.int .u32 r.space.sum.c.toNat,.int .u32 r.space.sum.d.toNat,.int .i64 r.kept.addr,.int .i64 r.kept.birth,.int .u32 r.kept.sum.a.toNat,.int .u32 r.kept.sum.b.toNat,.int .u32 r.kept.sum.c.toNat,.int .u32 r.kept.sum.d.toNat,.int .i64 r.keptTxg]
def X3:List AV:=[.int .i64 0,.int .i64 0,.int .i64 0,.int .i64 0,.int .i64 0,.int .u32 0,.int .u32 0,.int .u32 0,.int .u32 0,.int .i64 0,.int .i64 0,.int .u32 0,.int .u32 0,.int .u32 0,.int .u32 0,.int .i64 0,.int .i64 0,.int .u32 0,.int .u32 0,.int .u32 0,.int .u32 0,.int .i64 0]
def Ug(o:Option Root):AV:=match o with
 |some r=>.tuple [.agg (X2 r),.bool true]
 |none=>.tuple [.agg X3,.bool false]
theorem b8u(s:Bytes)(hs:s.length<=100000)(H:AH):K tab A7 A5 85 [.str s] H=some (Ug (a34 s),H):=by
 refine Ae l85 rfl rfl (by unfold Ug;split<;>rfl) ?_ H;have t1:=Sk (orc:=A7) (lk:=A5) [52,52,52] (by decide) s;have e1:Fo [52,52,52] s=if 12<=s.length then some (B0 [4,4,4] s,s.drop 12)else none:=rfl;unfold He at t1;unfold a34;rw[e1]at t1 ⊢;by_cases h3:12<=s.length
 ·rw[if_pos h3]at t1 ⊢;have hL:B0 [4,4,4] s=[B4 (s.take 4),B4 ((s.drop 4).take 4),B4 ((s.drop 8).take 4)]:=by simp[B0,e6v]
  rw[hL]at t1 ⊢;simp only[e75,e7k,D5]at t1;simp only[];have hd:(s.drop 12).length=s.length-12:=e60;generalize B4 ((s.drop 8).take 4)=c at *;generalize B4 ((s.drop 4).take 4)=b at *;generalize B4 (s.take 4)=a at *;generalize s.drop 12=r at *;have t2:=λH=>a7x (orc:=A7) (lk:=A5) r om 3 om H;unfold Nk at t2;rw[show(3:Int).toNat=3 from rfl]at t2;cases hp:Fm 3 r with
  |none=>
    rw[hp]at t2
    simp(disch:=try exact dz)only[Vb,t0,seval,t1,t2,Fg,if_pos,if_neg,e68];rfl
  |some q=>
    obtain⟨l,w⟩:=q;rw[hp]at t2;obtain⟨hr,_,hl⟩:=a35 hp;have hw:w.length<=100000:=(by have:=congrArg List.length hr;rw[e58]at this;omega);obtain⟨p,q,k,rfl⟩:∃ p q k,l=[p,q,k]:=by
     match l,hl with
     |[p,q,k],_=>exact⟨p,q,k,rfl⟩
    have t3:=Sk (orc:=A7) (lk:=A5) [52] (by decide) w;have e3:Fo [52] w=if 4<=w.length then some (B0 [4] w,w.drop 4)else none:=rfl;unfold He at t3;simp only[]at t2 ⊢;rw[e3]at t3 ⊢;by_cases h4:4<=w.length
    ·rw[if_pos h4]at t3 ⊢;have hL2:B0 [4] w=[B4 (w.take 4)]:=rfl;rw[hL2]at t3 ⊢;simp only[e75,e7k,D5]at t3;simp only[];generalize B4 (w.take 4)=z at *;have hR:=b8y ⟨a,b,c,p,q,k,z⟩;simp only[]at hR;by_cases hE:Rp ⟨a,b,c,p,q,k,z⟩=s
     ·simp(disch:=try exact dz)only[Vb,t0,seval,t1,t2,t3,hR,hE,Fg,Al,if_pos,if_neg,e68];rfl
     ·simp(disch:=try exact dz)only[Vb,t0,seval,t1,t2,t3,hR,hE,Fg,Al,if_pos,if_neg,e68];rfl
    ·rw[if_neg h4]at t3 ⊢
     simp(disch:=try exact dz)only[Vb,t0,seval,t1,t2,t3,Fg,if_pos,if_neg,e68];rfl
 ·rw[if_neg h3]at t1 ⊢
  simp(disch:=try exact dz)only[Vb,t0,seval,t1];rfl
def Ao(x:Node):List PV:=[.int .i64 x.kind,.int .i64 x.up,.str x.name,.str x.body,.int .i64 x.bad]
def B7(x:Dset):List PV:=[.int .i64 x.id,.int .i64 x.kind,.int .i64 x.origin,.int .i64 x.quota,Kt Ao x.files]
def Dq(x:Dset):DsetH:=⟨x.id,x.kind,x.origin,x.quota⟩
def V6(l:List DsetH)(j:Nat):Int:=if j=0 then 0 else(l.getD (j-1) default).id
theorem d79(l:List DsetH)(j:Nat):V6 l (j+1)=(l.getD j default).id:=by simp[V6]
theorem d2t{l:List DsetH}{q:List Ptr}{j:Nat}(h:j<l.length)(h2:j<q.length):Hh (l.take (j+1)) (q.take (j+1))=Hh (l.take j) (q.take j)++putRow (l.getD j default) (q.getD j default):=by
 induction j generalizing l q with
 |zero=>
   cases l with
   |nil=>simp at h
   |cons x l=>cases q with
     |nil=>simp at h2
     |cons y q=>simp[Hh]
 |succ j ih=>
   cases l with
   |nil=>simp at h
   |cons x l=>cases q with
     |nil=>simp at h2
     |cons y q=>
       rw[e4w,e4w,Hh,ih (by simpa using h) (by simpa using h2),e4w,e4w,Hh,e5o];rfl
theorem bk1(x:DsetH)(p:Ptr):(putRow x p).length=28:=by
 unfold putRow;rw[e58,Xb,Fc _ _ rfl];rfl
theorem az4:∀ (l:List DsetH) (q:List Ptr),(Hh l q).length<=28*l.length
 |[],_=>by simp[Hh]
 |_::_,[]=>by simp[Hh]
 |x::l,y::q=>by rw[Hh,e58,bk1];have:=az4 l q;rw[e5w];omega
theorem d2u{last:Int}{x:DsetH}{p:Ptr}(h:a0g last x p=true):az5 x p=putRow x p:=by
 have:Ct p=true:=by simp only[a0g,e5v]at h;exact h.1.2
 unfold az5 putRow;rw[a8x (by simp[this])];simp
theorem d6l{α β:Type}[Inhabited α][Inhabited β]{l:List α}{j:Nat}(h:j<l.length)(f:α->β):(l.map f).getD j default=f (l.getD j default):=by
 simp only[e42,e5j,e47 h,e6h,e5u]
theorem as3(a:AV)(r sz o l t:Nat)(H:AH):K tab A7 A5 39 [a,.own r sz o l t] H=Hn tab A7 A5 39 [a,.own r sz o l t] H (Aa (B3 H [a,.own r sz o l t])) (K tab A7 A5 39 (B3 H [a,.own r sz o l t]) H):=Nf _ _ _ rfl _ _
theorem av1(l:Sl Dset)(q:Sl Ptr)(hl:(els l).length<=1000000)(hq:(els q).length<=1000000)(H:AH):K tab A7 A5 113 [A4 B7 l,A4 Al q] H=some (.str (J1 ((els l).map Dq) (els q)),H):=by
 refine Ae de7 rfl (by simp[Aa,Ak]) rfl ?_ H;have no:¬ ((els l).length<=8/\(els l).length=(els q).length)->J1 ((els l).map Dq) (els q)=[]:=λh=>by
  unfold J1;rw[if_neg (λc=>h ⟨by simpa using c.1,by simpa using c.2.1⟩)]
 by_cases c1:8<((els l).length:Int)
 ·rw[no om]
  simp(disch:=try exact dz)only[a18,t0,seval,if_pos,if_neg,c1]
 by_cases c2:((els l).length:Int)=(els q).length
 ·simp(disch:=try exact dz)only[a18,t0,seval,if_pos,if_neg,c1,c2,Gs,d3s,as3];have hhl:((els l).map Dq).length=(els l).length:=e6i _;generalize hr:Ai _ _ _=r;refine Bb hr (els l).length
   (λj=>[.top,A4 Al q,.top,.str (B5 [1] [((els q).length:Int)]++Hh (((els l).map Dq).take j) ((els q).take j)),.int .i64 (V6 ((els l).map Dq) j),.top,.top,.top,A4 B7 l,.int .i64 (els q).length,.int .i64 j,.top,.top,.top])
   (λj=>[]) (λj=>J1 ((els l).map Dq) (els q)=if a0f (V6 ((els l).map Dq) j) (((els l).map Dq).drop j) ((els q).drop j)=true then B5 [1] [((els q).length:Int)]++Hh (((els l).map Dq).take j) ((els q).take j)++Hh (((els l).map Dq).drop j) ((els q).drop j)else []) ?_ ?_ ?_ ?_ ?_
  ·simp[Hh,V6]
  ·simp
  ·unfold J1;have:((els l).length:Nat)<=8:=om;have B9:(els l).length=(els q).length:=om;have h8:(els q).length<=8:=om;simp[this,B9,h8,V6,Hh,B5]
  ·intro j hj hI;have hj':((j:Int)<((els q).length:Int)):=om;have hjq:j<(els q).length:=om;have hjh:j<((els l).map Dq).length:=om;rw[d2t hjh hjq,d79];rw[Gd hjh,Gd hjq]at hI;simp only[a0f,Hh]at hI;have hgd:((els l).map Dq).getD j default=Dq ((els l).getD j default):=d6l hj Dq;rw[hgd]at hI ⊢;have hlen1:=az4 (((els l).map Dq).take j) ((els q).take j);rw[e67]at hlen1;have hlp:(B5 [1] [((els q).length:Int)]).length=1:=rfl;have hm:=d22 ((els l).getD j default).id ((els l).getD j default).kind ((els l).getD j default).origin ((els l).getD j default).quota (A4 Ao ((els l).getD j default).files) (Ak _ _) (an0 _ _) ((els q).getD j default) (V6 ((els l).map Dq) j);have hb:=d24 ((els l).getD j default).id ((els l).getD j default).kind ((els l).getD j default).origin ((els l).getD j default).quota (A4 Ao ((els l).getD j default).files) (Ak _ _) (an0 _ _) ((els q).getD j default);have eh:(⟨((els l).getD j default).id,((els l).getD j default).kind,((els l).getD j default).origin,((els l).getD j default).quota⟩:DsetH)=Dq ((els l).getD j default):=rfl;rw[eh]at hm hb;cases hmr:a0g (V6 ((els l).map Dq) j) (Dq ((els l).getD j default)) ((els q).getD j default)with
   |false=>
     rw[hmr]at hm;simp only[hmr,e71,e77,e52,if_false]at hI
     simp(disch:=try exact dz)only[t0,seval,hj',Bl,B7,Al,e74,hm,hb];rw[hI]
   |true=>
     rw[hmr]at hm;simp only[hmr,e71,e77,e52,if_false]at hI;rw[d2u hmr]at hb;have hlr:=bk1 (Dq ((els l).getD j default)) ((els q).getD j default)
     simp(disch:=try exact dz)only[t0,seval,hj',Bl,B7,Al,e74,hm,hb,hlp,hlr];refine⟨?_,?_⟩
     ·simp only[e5o];rfl
     ·rw[hI];simp
  ·intro hI;have c2n:(els q).length=(els l).length:=om;have ht:(els q).take (els l).length=els q:=e4h om;have ht2:((els l).map Dq).take (els l).length=(els l).map Dq:=e4h om;have hd:(els q).drop (els l).length=[]:=e4i om;have hd2:((els l).map Dq).drop (els l).length=[]:=e4i om;rw[ht,ht2,hd,hd2]at hI;rw[ht,ht2]
   simp(disch:=try exact dz)only[t0,seval,c2n,e7f];rw[hI,c2n];simp[a0f,Hh]
 ·rw[no om]
  simp(disch:=try exact dz)only[a18,t0,seval,if_pos,if_neg,c1,c2]
def a9t(l:List Int):DsetH:=match l with
 |[a,b,c,d]=>⟨a,b,c,d⟩
 |_=>⟨0,0,0,0⟩
def Qb(s:Bytes)(j:Nat):List DsetH:=(List.range j).map λi=>a9t (B0 [2,1,2,1] (s.drop (28*i)))
def Qa(s:Bytes)(j:Nat):List Ptr:=(List.range j).map λi=>Er (B0 Dl (s.drop (28*i+6)))
theorem d3d(s:Bytes)(j:Nat):Qb s (j+1)=Qb s j++[a9t (B0 [2,1,2,1] (s.drop (28*j)))]:=by simp[Qb,List.range_succ]
theorem d3b(s:Bytes)(j:Nat):Qa s (j+1)=Qa s j++[Er (B0 Dl (s.drop (28*j+6)))]:=by simp[Qa,List.range_succ]
theorem bm0(s:Bytes)(j:Nat):(Qb s j).length=j:=by simp[Qb]
theorem bl9(s:Bytes)(j:Nat):(Qa s j).length=j:=by simp[Qa]
def O6(x:DsetH):List AV:=[.int .i64 x.id,.int .i64 x.kind,.int .i64 x.origin,.int .i64 x.quota,.emp]
def b36(x:DsetH):Dset:=⟨x.id,x.kind,x.origin,x.quota,none⟩
theorem d0h(n:Nat)(s:Bytes):Rg (n+1) s=if 6<=s.length then(if 22<=(s.drop 6).length/\Ct (Er (B0 Dl (s.drop 6)))=true then (match Rg n (s.drop 28)with|some (l,q,u)=>some (a9t (B0 [2,1,2,1] s)::l,Er (B0 Dl (s.drop 6))::q,u)|none=>none)else none)else none:=by
 rw[Rg];have e1:Fo [50,49,50,49] s=if 6<=s.length then some (B0 [2,1,2,1] s,s.drop 6)else none:=rfl;rw[e1];by_cases h:6<=s.length
 ·rw[if_pos h,if_pos h];simp only[B0];unfold Ui;by_cases h2:22<=(s.drop 6).length/\Ct (Er (B0 Dl (s.drop 6)))=true
  ·rw[if_pos h2,if_pos h2];simp only[e6v];cases Rg n (s.drop (6+22))<;>rfl
  ·rw[if_neg h2,if_neg h2]
 ·rw[if_neg h,if_neg h]
theorem b4z(a b c d e f g h i j:Nat)(H:AH):K tab A7 A5 113 [.own a b c d e,.own f g h i j] H=Hn tab A7 A5 113 [.own a b c d e,.own f g h i j] H (Aa (B3 H [.own a b c d e,.own f g h i j])) (K tab A7 A5 113 (B3 H [.own a b c d e,.own f g h i j]) H):=Nf _ _ _ rfl _ _
theorem b59(l:List DsetH)(H:AH):(l.map O6).map (λe=>e.map (Cq H 3))=(l.map b36).map B7:=by
 rw[e7q,e7q];rfl
theorem b58(l:List Ptr)(H:AH):(l.map Aj).map (λe=>e.map (Cq H 3))=l.map Al:=by
 rw[e7q];rfl
theorem Jk(l:List DsetH):refsO (some (l.map O6))=[]:=Gz l _ λ_=>rfl
theorem Bk(l:List Ptr):refsO (some (l.map Aj))=[]:=Gz l _ λ_=>rfl
theorem Iv(τ:Nat->Option Nat)(l:List DsetH):renO τ (l.map O6)=l.map O6:=Og τ l _ λ_=>rfl
theorem Br(τ:Nat->Option Nat)(l:List Ptr):renO τ (l.map Aj)=l.map Aj:=Og τ l _ λ_=>rfl
def b8l(o:Option (List DsetH×List Ptr)):AV×AH:=match o with
 |some (l,p)=>(.tuple [.own 0 5 0 l.length l.length,.own 1 6 0 p.length p.length,.bool true],[some (l.map O6),some (p.map Aj)])
 |none=>(.tuple [.emp,.emp,.bool false],[])
theorem b8t(s:Bytes)(hs:s.length<=100000):Ev tab A7 A5 86 [.str s] []=some (b8l (Rf s)):=by
 refine Cv l86 rfl ?_;have t1:=Sk (orc:=A7) (lk:=A5) [49] (by decide) s;have e1:Fo [49] s=if 1<=s.length then some (B0 [1] s,s.drop 1)else none:=rfl;unfold He at t1;unfold Rf;rw[e1]at t1 ⊢;by_cases h3:1<=s.length
 ·rw[if_pos h3]at t1 ⊢;have hL:B0 [1] s=[B4 (s.take 1)]:=rfl;rw[hL]at t1 ⊢;simp only[e75,e7k,D5]at t1;simp only[];have hd:(s.drop 1).length=s.length-1:=e60;have hn0:=Rb (s.take 1);have hn1:=b5y (s.take 1) 1 (by rw[e67];omega);obtain⟨n,hn⟩:∃ n:Nat,B4 (s.take 1)=n:=⟨(B4 (s.take 1)).toNat,by omega⟩;rw[hn]at t1 hn1 ⊢;rw[e5s];generalize s.drop 1=r at *
  simp(disch:=try exact dz)only[g86,t0,seval,t1,Fg,if_pos,if_neg];generalize hr:Ai _ _ _=r';refine Bb hr n
   (λj=>[.str s,.own 0 5 0 j j,.own 1 6 0 j j,.top,.top,.str (r.drop (28*j)),.top,.top,.top,.top,.top,.top,.top,.top,.int .i64 n,.int .i64 j,.top,.top,.top,.top,.top,.top,.top,.top,.top,.top,.top])
   (λj=>[some ((Qb r j).map O6),some ((Qa r j).map Aj)])
   (λj=>Rg n r=(Rg (n-j) (r.drop (28*j))).map λq=>(Qb r j++q.1,Qa r j++q.2.1,q.2.2)) ?_ ?_ ?_ ?_ ?_
  ·simp
  ·simp[Qb,Qa]
  ·simp[Qb,Qa]
  ·intro j hj hI;have hj':((j:Int)<(n:Int)):=om;rw[show n-j=(n-(j+1))+1 by omega,d0h,e6v,e6v,show 28*j+28=28*(j+1) by omega]at hI;rw[d3d,d3b];have hdd:r.drop (28*(j+1))=(r.drop (28*j)).drop 28:=(by rw[e6v];rfl);have hd6:r.drop (28*j+6)=(r.drop (28*j)).drop 6:=(by rw[e6v]);rw[hd6]at hI ⊢;have hlh:=bm0 r j;have hlq:=bl9 r j;have htl:(r.drop (28*j)).length<=100000:=(by rw[e60];omega);have t2:=Sk (orc:=A7) (lk:=A5) [50,49,50,49] (by decide) (r.drop (28*j));have e2:Fo [50,49,50,49] (r.drop (28*j))=if 6<=(r.drop (28*j)).length then some (B0 [2,1,2,1] (r.drop (28*j)),(r.drop (28*j)).drop 6)else none:=rfl;unfold He at t2;rw[e2]at t2;rw[hdd]at hI ⊢;generalize Qb r j=ph at *;generalize Qa r j=pq at *;generalize r.drop (28*j)=t at *;have hL2:B0 [2,1,2,1] t=[B4 (t.take 2),B4 ((t.drop 2).take 1),B4 ((t.drop 3).take 2),B4 ((t.drop 5).take 1)]:=(by simp[B0,e6v]);rw[hL2]at t2 hI ⊢;by_cases h6:6<=t.length
   ·rw[if_pos h6]at t2 hI;simp only[e75,e7k,D5,a9t]at t2 hI ⊢;generalize B4 ((t.drop 5).take 1)=d at *;generalize B4 ((t.drop 3).take 2)=c at *;generalize B4 ((t.drop 2).take 1)=b at *;generalize B4 (t.take 2)=a at *;have t3:=λH=>a7x (orc:=A7) (lk:=A5) (t.drop 6) (by rw[e60];omega) 1 om H;have e3:Fm 1 (t.drop 6)=if 22<=(t.drop 6).length/\Ct (Er (B0 Dl (t.drop 6)))=true then some ([Er (B0 Dl (t.drop 6))],(t.drop 6).drop 22)else none:=by
     rw[Fm];unfold Ui;by_cases h:22<=(t.drop 6).length/\Ct (Er (B0 Dl (t.drop 6)))=true
     ·rw[if_pos h,if_pos h];rfl
     ·rw[if_neg h,if_neg h]
    unfold Nk at t3;rw[show(1:Int).toNat=1 from rfl,e3]at t3;by_cases h22:22<=(t.drop 6).length/\Ct (Er (B0 Dl (t.drop 6)))=true
    ·rw[if_pos h22]at t3 hI;have e28:(t.drop 6).drop 22=t.drop 28:=(by rw[e6v]);rw[e28]at t3;simp only[e75,e7k,Al]at t3;generalize Er (B0 Dl (t.drop 6))=p at *
     simp(disch:=try exact dz)only[t0,seval,hj',t2,t3,Fg,e6i,hlh,hlq,e74,Jk,Bk];refine⟨rfl,?_,?_⟩
     ·rw[e6o,e6o];rfl
     ·rw[hI];cases Rg (n-(j+1)) (t.drop 28)with
      |none=>rfl
      |some q=>obtain⟨x,y,z⟩:=q;simp
    ·rw[if_neg h22]at t3 hI
     simp(disch:=try exact dz)only[t0,seval,hj',t2,t3,Fg];rw[hI];rfl
   ·rw[if_neg h6]at t2 hI
    simp(disch:=try exact dz)only[t0,seval,hj',t2,Fg];rw[hI];rfl
  ·intro hI;rw[Nat.sub_self,Rg]at hI;rw[hI];simp only[e6h,e6l];have hlh:=bm0 r n;have hlq:=bl9 r n;generalize Qb r n=ph at *;generalize Qa r n=pq at *;have hT:=λH=>av1 (some (ph.map b36)) (some pq) (by rw[Az,e6i];omega) (by rw[Az];omega) H;have eh:(ph.map b36).map Dq=ph:=(by rw[e7q];exact(e4y λx _=>rfl).trans (List.map_id _));rw[Az,Az,eh]at hT;simp only[Cx]at hT;have k1:(ph.map O6).take n=ph.map O6:=e4h (by rw[e6i];omega);have k2:(pq.map Aj).take n=pq.map Aj:=e4h (by rw[e6i];omega);by_cases hE:J1 ph pq=s
   ·rw[if_pos hE];rw[hE]at hT
    simp(disch:=try exact dz)only[t0,seval,e7f,b4z,a8l,ak6,Ad,Jk,Bk,Iv,Br,b59,b58,hT,k1,k2,hE,e6i,hlh,hlq];simp only[b8l,hlh,hlq]
   ·rw[if_neg hE]
    simp(disch:=try exact dz)only[t0,seval,e7f,b4z,a8l,ak6,Ad,Jk,Bk,Iv,Br,b59,b58,hT,k1,k2,hE,e6i,hlh,hlq];rfl
 ·rw[if_neg h3]at t1 ⊢
  simp(disch:=try exact dz)only[g86,t0,seval,t1];rfl
def C4(x:Node):List AV:=[.int .i64 x.kind,.int .i64 x.up,.str x.name,.str x.body,.int .i64 x.bad]
def Hx:List Node:=[foldN,node0,node0,node0,node0,node0,node0,node0]
theorem as7(n:Nat)(l:List Node)(H:AH):(l.map C4).map (λe=>e.map (Cq H n))=l.map Ao:=by
 rw[e7q];cases n<;>rfl
theorem Dk(l:List Node):refsO (some (l.map C4))=[]:=Gz l _ λ_=>rfl
theorem Ed(τ:Nat->Option Nat)(l:List Node):renO τ (l.map C4)=l.map C4:=Og τ l _ λ_=>rfl
theorem Qq(r:Nat)(es:List (List PV))(l:List Node):(l.map C4).map (Bm r es)=l.map C4:=by
 rw[e7q];exact e4y λ_ _=>rfl
theorem Oz(r:Nat)(es:List (List PV))(l:List Ptr):(l.map Aj).map (Bm r es)=l.map Aj:=by
 rw[e7q];exact e4y λ_ _=>rfl
theorem Py(l:List Node):Cm (l.map C4)=some (l.map Ao):=Je _ _ (λ_=>rfl) l
theorem Re(l:List Ptr):Cm (l.map Aj)=some (l.map Al):=Je _ _ (λ_=>rfl) l
def vwP(H:AH)(n off len tot:Nat):Option AObj->PV
 |some o=>if off+len<=tot then .fz (((o.drop off).take len).map λe=>e.map (Cq H n))else .top
 |none=>.top
theorem Pu(H:AH)(n off len tot:Nat)(o:AObj):vwP H n off len tot (some o)=if off+len<=tot then .fz (((o.drop off).take len).map λe=>e.map (Cq H n))else .top:=rfl
theorem d65:Ev tab A7 A5 18 [] []=some (.own 0 5 0 8 8,[some (Hx.map C4)]):=by
 refine Cv l18 rfl ?_
 simp(disch:=try exact dz)only[g18,t0,seval,if_pos,if_neg,Ad];rfl
theorem at9(n:Int)(hn:n<=1000000)(H:AH):K tab A7 A5 192 [.int .i64 n] H=some (.str (zs n.toNat),H):=by
 refine Ae d9d rfl rfl rfl ?_ H;by_cases h:n<0
 ·have e:n.toNat=0:=om
  simp(disch:=try exact dz)only[a4z,t0,seval,if_pos,if_neg,a3m,h];rw[e]
 ·simp(disch:=try exact dz)only[a4z,t0,seval,if_pos,if_neg,a3m,h]
theorem dg8(c:UInt8)(s:Bytes)(hs:s.length<=1000000)(H:AH):K tab A7 A5 210 [.str s,.int .u8 c.toNat] H=some (.int .i64 (T4 c s),H):=by
 refine a7a d5v rfl rfl ?_ H;rw[d3y]
 have:=c.toNat_lt;simp only[a4i];rw[if_pos ⟨hs,by omega,by omega⟩];have e:UInt8.ofNat ((c.toNat:Int)).toNat=c:=by simp
 rw[e]
def a8d:Bytes:=[97,98,99,100,101,102,103,104,105,106,107,108,109,110,111,112,113,114,115,116,117,118,119,120,121,122,48,49,50,51,52,53,54,55,56,57,46,95,45]
theorem d1e(c:UInt8):a0a c=decide (¬ T4 c a8d<0):=by
 have h:∀ n,n<256->a0a (UInt8.ofNat n)=decide (¬ T4 (UInt8.ofNat n) a8d<0):=by decide +kernel
 have:=h c.toNat c.toNat_lt
 rwa [UInt8.ofNat_toNat]at this
theorem d3h(s:Bytes)(hs:s.length<=1000000)(H:AH):K tab A7 A5 191 [.str s] H=some (.bool (s.all a0a),H):=by
 refine Ae d9e rfl rfl rfl ?_ H
 simp(disch:=try exact dz)only[af0,t0,seval,if_pos,if_neg];generalize hr:Ai _ _ _=r;refine Bb hr s.length (λj=>[.top,.top,.top,.own 0 1 0 s.length s.length,.int .i64 s.length,.int .i64 j,.top])
  (λj=>[some (s.map λb=>[.int .u8 b.toNat])]) (λj=>s.all a0a=(s.drop j).all a0a) ?_ ?_ ?_ ?_ ?_
 ·simp
 ·simp
 ·simp
 ·intro j hj hI;have hj':((j:Int)<(s.length:Int)):=om;rw[Gd hj,e7a]at hI;have hix:=dg8 (s.getD j default) a8d (by decide);have hok:=d1e (s.getD j default);unfold a8d at hix hok;generalize hch:s.getD j default=ch at *
  simp(disch:=try exact dz)only[t0,seval,hj',e74,Ic,e6i,hch,hix];refine⟨λh=>?_,λh=>⟨rfl,?_⟩⟩
  ·rw[hI,hok,e6q (by simpa using h)];rfl
  ·rw[hI,hok,e73 h,e77]
 ·intro hI;rw[e69]at hI
  simp(disch:=try exact dz)only[t0,seval,e7f];rw[hI];rfl
theorem bs5(s:Bytes)(hs:s.length<=1000000)(H:AH):K tab A7 A5 166 [.str s] H=some (.bool (mayName s),H):=by
 refine Ae da0 rfl rfl rfl ?_ H
 simp(disch:=try exact dz)only[ag4,t0,seval,if_pos,if_neg,d3h];unfold mayName;cases s with
 |nil=>rfl
 |cons c s=>
   congr 2
   rw[e6p];simp only[Bool.decide_eq_true,e5v,e5h,e5n,e4d,e5w,reduceCtorEq,e5r,e83];constructor
   ·rintro⟨⟨⟨a,b⟩,c⟩,d⟩;exact⟨⟨⟨⟨b,by omega⟩,by omega⟩,c⟩,d⟩
   ·rintro⟨⟨⟨⟨b,_⟩,a⟩,c⟩,d⟩;exact⟨⟨⟨by omega,b⟩,c⟩,d⟩
theorem d5z(p:Ptr)(H:AH):K tab A7 A5 165 [.agg (Aj p)] H=some (.bool (!decide (p=Bt)),H):=by
 refine Ae da1 rfl rfl rfl ?_ H
 simp(disch:=try exact dz)only[ag5,t0,seval,if_pos,if_neg,Aj];have h0:=a07 p.addr p.birth p.sum.a p.sum.b p.sum.c p.sum.d;rw[Sq]at h0;have e:decide (p=Bt)=(decide (p.addr=0)&&(decide (p.birth=0)&&(decide ((p.sum.a.toNat:Int)=0)&&(decide ((p.sum.b.toNat:Int)=0)&&(decide ((p.sum.c.toNat:Int)=0)&&decide ((p.sum.d.toNat:Int)=0)))))):=by
  rw[<-e6t,<-e6t,<-e6t,<-e6t,<-e6t];exact e66.2 h0
 rw[e]
theorem e2w(l:Sl Ptr)(hl:(els l).length<=1000000)(H:AH):K tab A7 A5 164 [A4 Al l,.fn (.func 165) [] []] H=some (.bool (!((els l).all λp=>decide (p=Bt))),H):=by
 have hi:∀ H,K tab A7 A5 190 [A4 Al l,.fn (.func 165) [] []] H=some (.int .i64 (if((els l).all λp=>decide (p=Bt))=true then -1 else((els l).takeWhile λp=>decide (p=Bt)).length),H):=by
  intro H;refine Ae d9f rfl (by simp[Aa,Ab,Ak]) rfl ?_ H
  simp(disch:=try exact dz)only[af1,t0,seval,if_pos,if_neg];generalize hr:Ai _ _ _=r;refine Bb hr (els l).length (λj=>[A4 Al l,.fn (.func 165) [] [],.top,.top,.int .i64 (els l).length,.int .i64 j,.top])
   (λj=>[]) (λj=>((els l).all λp=>decide (p=Bt))=(((els l).drop j).all λp=>decide (p=Bt))/\((els l).takeWhile λp=>decide (p=Bt)).length=j+(((els l).drop j).takeWhile λp=>decide (p=Bt)).length) ?_ ?_ ?_ ?_ ?_
  ·simp
  ·simp
  ·simp
  ·intro j hj hI;have hj':((j:Int)<((els l).length:Int)):=om;rw[Gd hj,e7a,List.takeWhile_cons]at hI;have hn:=d5z ((els l).getD j default);simp only[Aj]at hn;cases hp:decide ((els l).getD j default=Bt)with
   |true=>
     rw[hp]at hn;simp only[hp,if_true,e5w,e77]at hI
     simp(disch:=try exact dz)only[t0,seval,hj',e74,Bl,Al,hn];refine⟨rfl,hI.1,by omega⟩
   |false=>
     rw[hp]at hn;simp only[hp,e52,if_false,e6f,e71]at hI
     simp(disch:=try exact dz)only[t0,seval,hj',e74,Bl,Al,hn];rw[hI.1,hI.2];rfl
  ·intro hI;rw[e69]at hI
   simp(disch:=try exact dz)only[t0,seval,e7f];rw[hI.1];rfl
 refine Ae da2 rfl (by simp[Aa,Ab,Ak]) rfl ?_ H
 simp(disch:=try exact dz)only[ag6,t0,seval,if_pos,if_neg,hi];cases h:(els l).all λp=>decide (p=Bt)with
 |true=>rfl
 |false=>simp
theorem c90(d:Dev)(size:Int):∀ (k:Nat) (l:List Ptr) (p:Ptr),Gu d size k (l++[p])=((Gu d size k l).1++(Rt d size (k+l.length) p).1,(Gu d size k l).2+(Rt d size (k+l.length) p).2)
 |k,[],p=>by simp[Gu]
 |k,x::l,p=>by
   rw[e62,Gu,c90 d size (k+1) l p,Gu,e5w];rw[show k+1+l.length=k+(l.length+1) by omega];simp only[e5o,Nat.add_assoc]
theorem d3j(d:Dev)(size:Int)(k:Nat)(p:Ptr):(Rt d size k p).2=0\/(Rt d size k p).2=2 ^ k:=by
 unfold Rt;split
 ·exact .inl rfl
 ·split
  ·split
   ·exact .inl rfl
   ·exact .inr rfl
  ·exact .inr rfl
theorem c91(d:Dev)(size:Int):∀ (k:Nat) (l:List Ptr),(Gu d size k l).2+2 ^ k<=2 ^ (k+l.length)
 |k,[]=>by simp[Gu]
 |k,p::l=>by
   have ih:=c91 d size (k+1) l;have hb:=d3j d size k p;rw[Gu,e5w,show k+(l.length+1)=k+1+l.length by omega];simp only;have:2 ^ (k+1)=2 ^ k+2 ^ k:=(by rw[Nat.pow_succ];omega);have hpos:0<2 ^ k:=Nat.pow_pos om;rcases hb with h|h<;>rw[h]<;>omega
theorem dh5(a k:Nat)(ha:a<2 ^ k)(hk:k<8):IntKind.i64.wrap (((BitVec.ofInt IntKind.i64.bits (a:Int) ||| BitVec.ofInt IntKind.i64.bits (IntKind.i64.wrap (1*2 ^ min k IntKind.i64.bits))).toNat:Nat):Int)=((a+2 ^ k:Nat):Int):=by
 have h:∀ k:Nat,k<8->∀ a:Nat,a<2 ^ k->IntKind.i64.wrap (((BitVec.ofInt IntKind.i64.bits (a:Int) ||| BitVec.ofInt IntKind.i64.bits (IntKind.i64.wrap (1*2 ^ min k IntKind.i64.bits))).toNat:Nat):Int)=((a+2 ^ k:Nat):Int):=by
  intro k hk;have hle:2 ^ k<=128:=by
   have:2 ^ k<=2 ^ 7:=Nat.pow_le_pow_right om om;omega
  have key:∀ k:Nat,k<8->∀ a:Nat,a<128->a<2 ^ k->IntKind.i64.wrap (((BitVec.ofInt IntKind.i64.bits (a:Int) ||| BitVec.ofInt IntKind.i64.bits (IntKind.i64.wrap (1*2 ^ min k IntKind.i64.bits))).toNat:Nat):Int)=((a+2 ^ k:Nat):Int):=by decide +kernel
  intro a ha;exact key k hk a om ha
 exact h k hk a ha
theorem cw4{s:Bytes}:(s.all λc=>decide (c=0))=true↔s=zs s.length:=by
 rw[e5x];constructor
 ·intro h;exact List.eq_replicate_iff.2 ⟨rfl,λb hb=>by simpa using h b hb⟩
 ·intro h c hc;rw[h]at hc
  have:=List.eq_of_mem_replicate hc;simp[this]
theorem b33{s:Bytes}(hs:s.length=32)(x:Int)(b:Nat)(hb:(b:Int)=if 32<(if x<0 then 0 else x)then 32 else(if x<0 then 0 else x)):(s.drop b=zs (32-b))↔((s.drop x.toNat).all λc=>decide (c=0))=true:=by
 rw[cw4,e60,hs];rcases Int.lt_or_le 32 x with h|h
 ·have:b=32:=by
   rw[if_neg (show ¬ x<0 by omega),if_pos h]at hb;omega
  subst this;rw[e4i om,e4i om,show 32-x.toNat=0 by omega]
 ·have:b=x.toNat:=by
   by_cases hx:x<0
   ·rw[if_pos hx,if_neg (show ¬ (32:Int)<0 by omega)]at hb;omega
   ·rw[if_neg hx,if_neg (show ¬ 32<x by omega)]at hb;omega
  rw[this]
theorem S9(p:Ptr):(decide (p.addr=0)&&(decide (p.birth=0)&&(decide ((p.sum.a.toNat:Int)=0)&&(decide ((p.sum.b.toNat:Int)=0)&&(decide ((p.sum.c.toNat:Int)=0)&&decide ((p.sum.d.toNat:Int)=0))))))=decide (p=Bt):=by
 have h0:=a07 p.addr p.birth p.sum.a p.sum.b p.sum.c p.sum.d;rw[Sq]at h0;rw[<-e6t,<-e6t,<-e6t,<-e6t,<-e6t]
 exact(e66.2 h0).symm
theorem Oa(r i j t:Nat)(a b:AV)(H:AH):K tab A7 A5 167 [.ptr r i j t,a,b] H=Hn tab A7 A5 167 [.ptr r i j t,a,b] H (Aa (B3 H [.ptr r i j t,a,b])) (K tab A7 A5 167 (B3 H [.ptr r i j t,a,b]) H):=Nf _ _ _ rfl _ _
theorem Sg:(zs 32).length=32:=rfl
theorem e2a(d:Dev)(hd:DevOk d)(x1 x2 x3 x4:PV)(size:Int)(h0:0<=size)(h1:size<=128)(l:List Ptr)(hl:l.length=4)(H:AH):K tab A7 A5 167 [.fptr [Kt B1 d.last,Kt B2 d.wait,.int .i64 d.lies,.int .i64 d.arm,.bool d.down,x1,x2,x3,x4],.int .i64 size,.fz (l.map Al)] H =
 some (.tuple [.str (b2y d size l).1,.int .i64 (b2y d size l).2],H):=by
 refine Ae d9z rfl rfl rfl ?_ H
 simp(disch:=try exact dz)only[ag3,t0,seval,if_pos,if_neg];generalize hr:Ai _ _ _=r;refine Bb hr l.length
  (λj=>[.fptr [Kt B1 d.last,Kt B2 d.wait,.int .i64 d.lies,.int .i64 d.arm,.bool d.down,x1,x2,x3,x4],.int .i64 size,.top,.str (Gu d size 0 (l.take j)).1,.int .i64 (Gu d size 0 (l.take j)).2,.top,.top,.top,.top,.top,.fz (l.map Al),.int .i64 l.length,.int .i64 j,.top,.top,.top,.top,.top,.top,.top,.top])
  (λj=>[]) (λj=>True) ?_ ?_ trivial ?_ ?_
 ·simp[Gu]
 ·simp
 ·intro j hj _;have hj':((j:Int)<(l.length:Int)):=om;have ht:=Dd hj;have hlt:(l.take j).length=j:=by rw[e67];omega
  have hlen:=b2x d size 0 (l.take j);have hbad:=c91 d size 0 (l.take j);rw[hlt]at hlen hbad;rw[ht,c90,hlt,e7p];have hor:=dh5 (Gu d size 0 (l.take j)).2 j (by rw[e7p]at hbad;omega) om;have hld:=a0k d hd (l.getD j default) 1;have hpl:=bn0 d size j (l.getD j default);have hn32:=at9 32 om;rw[show(32:Int).toNat=32 from rfl]at hn32;generalize Gu d size 0 (l.take j)=B at *;generalize hgp:l.getD j default=p at *;unfold Rt at hpl ⊢;by_cases hp:p=Bt
  ·have hpt:(p=Bt)=True:=eq_true hp;rw[if_pos hp];cases hL:Hy d p 1 with
   |none=>
     rw[hL]at hld
     simp(disch:=try exact dz)only[t0,seval,hj',hgp,e74,B8,Al,hld,De,hn32,S9,hor,Sg,hlen,hpl,hpt,e6b,e54];rfl
   |some s=>
     rw[hL]at hld
     simp(disch:=try exact dz)only[t0,seval,hj',hgp,e74,B8,Al,hld,De,hn32,S9,hor,Sg,hlen,hpl,hpt,e5u,e55];rfl
  ·have hpf:(p=Bt)=False:=eq_false hp;rw[if_neg hp]at hpl ⊢;cases hL:Hy d p 1 with
   |none=>
     rw[hL]at hld hpl;simp only[]at hpl ⊢
     simp(disch:=try exact dz)only[t0,seval,hj',hgp,e74,B8,Al,hld,De,hn32,S9,hor,Sg,hlen,hpl,hpf,e6b,e54];rfl
   |some s=>
     rw[hL]at hld hpl;simp only[]at hpl ⊢;by_cases c1:(s.length:Int)=32
     ·by_cases c2:s=zs 32
      ·rw[if_neg (λh=>h.2.1 c2)]
       simp(disch:=try exact dz)only[t0,seval,hj',hgp,e74,B8,Al,hld,De,hn32,S9,hor,Sg,hlen,hpl,hpf,e5u,e55,c1,c2];rfl
      ·have hsl:s.length=32:=om;have hn0:=at9 0 om;rw[show size-32*(j:Int)=size-(j:Int)*32 by omega]at hpl ⊢;generalize hx:size-(j:Int)*32=x at *;have hnb:=at9 (32-x);rcases Int.lt_or_le x 0 with c4|c4
       ·have hb:=b33 hsl x 0 (by rw[if_pos c4,if_neg om];rfl);rw[e6w]at hb;rw[if_neg (λh=>c2 (hb.2 h.2.2))]at hpl ⊢;have c5:(s.take s.length=zs 32)=False:=eq_false (by rw[e68];exact c2)
        simp(disch:=try exact dz)only[t0,seval,hj',hgp,e74,B8,Al,hld,De,hn32,S9,hor,Sg,hlen,hpl,hpf,e5u,e55,c1,c2,c5,hx,hn0];rfl
       ·rcases Int.lt_or_le 32 x with c6|c6
        ·have hb:=b33 hsl x 32 (by rw[if_neg (show ¬ x<0 by omega),if_pos c6];rfl);have c3:((s.drop x.toNat).all λc=>decide (c=0))=true:=by
          rw[e4i om];rfl
         rw[if_pos ⟨hsl,c2,c3⟩]at hpl ⊢;have c5:((s.take 32).drop 32=zs 0)=True:=eq_true (by rw[e4i (by rw[e67];omega)];rfl)
         simp(disch:=try exact dz)only[t0,seval,hj',hgp,e74,B8,Al,hld,De,hn32,S9,hor,Sg,hlen,hpl,hpf,e5u,e55,c1,c2,hx,hn0,c5];rfl
        ·have hb:=b33 hsl x x.toNat (by rw[if_neg (show ¬ x<0 by omega),if_neg (show ¬ 32<x by omega)];omega);have hnb:=hnb om;by_cases c3:((s.drop x.toNat).all λc=>decide (c=0))=true
         ·rw[if_pos ⟨hsl,c2,c3⟩]at hpl ⊢;have c5:((s.take 32).drop x.toNat=zs (32-x).toNat)=True:=eq_true (by rw[e4h om,hb.2 c3];congr 1;omega)
          simp(disch:=try exact dz)only[t0,seval,hj',hgp,e74,B8,Al,hld,De,hn32,S9,hor,Sg,hlen,hpl,hpf,e5u,e55,c1,c2,hx,hnb,c5];rfl
         ·rw[if_neg (λh=>c3 h.2.2)]at hpl ⊢;have c5:((s.take s.length).drop x.toNat=zs (32-x).toNat)=False:=eq_false (by rw[e68,show(32-x).toNat=32-x.toNat by omega];exact λh=>c3 (hb.1 h))
          simp(disch:=try exact dz)only[t0,seval,hj',hgp,e74,B8,Al,hld,De,hn32,S9,hor,Sg,hlen,hpl,hpf,e5u,e55,c1,c2,hx,hnb,c5];rfl
     ·rw[if_neg (λh=>c1 om)]
      simp(disch:=try exact dz)only[t0,seval,hj',hgp,e74,B8,Al,hld,De,hn32,S9,hor,Sg,hlen,hpl,hpf,e5u,e55,c1];rfl
 ·intro _;rw[e68];have hbl:=b2x d size 0 l
  simp(disch:=try exact dz)only[t0,seval,e7f];rfl
section
def spl(P:List Ptr)(n:Nat)(l:List Ptr):List Ptr:=P.take (4*n)++l++P.drop (4*n+4)
theorem d46{d:Dev}{n:Nat}{p:Ptr}{x:Node}{l:List Ptr}(h:V0 d n p=some (x,l)):l.length=4/\x.name.length<=8:=by
 unfold V0 at h;split at h
 ·rename_i y z m hm;rw[Option.ite_none_right_eq_some]at h;obtain⟨s,_,hs⟩:=e4c.1 hm;have hc:=au8 hs;have e:=Option.some.inj h.2;have e1:=congrArg Prod.fst e;have e2:=congrArg Prod.snd e;simp only at e1 e2;subst e1;subst e2;exact⟨hc.2.2.2.1,hc.1.2.2.2⟩
 ·cases h
theorem aw9(d:Dev)(n:Nat)(p:Ptr):(Sn d n p).2.1.length=4/\(Sn d n p).1.name.length<=8:=by
 unfold Sn;split
 ·split
  ·rename_i x l h;exact d46 h
  ·refine⟨rfl,?_⟩;split<;>simp[foldN,lostN]
 ·exact⟨rfl,by simp[node0]⟩
theorem a89(d:Dev):∀ (n:Nat) (l:List Ptr),(Hs d n l).length=l.length
 |_,[]=>rfl
 |n,p::l=>by rw[Hs,e5w,e5w,a89 d (n+1) l]
theorem aw7(d:Dev):∀ (n:Nat) (l:List Ptr) (j:Nat),j<l.length->(Hs d n l)[j]?=some (Sn d (n+j) (l.getD j default))
 |n,[],j,h=>by simp at h
 |n,p::l,0,_=>by simp[Hs]
 |n,p::l,j+1,h=>by
   rw[Hs,e4b,aw7 d (n+1) l j (by simpa using h),List.getD_cons_succ,show n+1+j=n+(j+1) by omega]
def Sy:List Node:=[foldN,node0,node0,node0,node0,node0,node0,node0]
section
set_option linter.unusedSectionVars false
variable (g:List (Node×List Ptr×Bool))
def SJ(j:Nat):List Node:=(g.take j).map (·.1)++Sy.drop j
def PJ(j:Nat):List Ptr:=((g.take j).map (·.2.1)).flatten++Fp (32-4*j)
def TJ(j:Nat):Bool:=(g.take j).any (·.2.2)
variable {g} {j:Nat} {s:Node×List Ptr×Bool} (hg:g.length=8) (h4:∀ x∈g,x.2.1.length=4) (hj:j<8) (hs:g[j]?=some s)
include hg hj hs
theorem a33:g.take (j+1)=g.take j++[s]:=by rw[e5p,hs];rfl
theorem e3g:SJ g (j+1)=(SJ g j).set j s.1:=by
 unfold SJ;rw[a33 hg hj hs,e6o,e75,e7k,e5o,List.set_append,if_neg (by simp;omega)];have e:(Sy.drop j)=Sy.getD j default::Sy.drop (j+1):=by
  rw[e46 (by simp[Sy];omega),e42,e47 (by simp[Sy];omega)];rfl
 rw[e,show j-((g.take j).map (·.1)).length=0 by simp;omega,e5c];rfl
theorem e3e:TJ g (j+1)=(TJ g j||s.2.2):=by
 unfold TJ;rw[a33 hg hj hs,List.any_append,List.any_cons,List.any_nil,Bool.or_false]
theorem e3i:(SJ g j).length=8:=by
 unfold SJ;simp[Sy];omega
theorem e3h(h0:0<j)(hn:s.1=node0):SJ g (j+1)=SJ g j:=by
 have e:∀ j,j<8->0<j->Sy.drop j=node0::Sy.drop (j+1):=by decide
 unfold SJ;rw[a33 hg hj hs,e6o,e75,e7k,e5o,hn,e j hj h0];rfl
include h4
theorem b3z:(((g.take j).map (·.2.1)).flatten).length=4*j:=by
 have:∀ l:List (Node×List Ptr×Bool),(∀ x∈l,x.2.1.length=4)->((l.map (·.2.1)).flatten).length=4*l.length:=by
  intro l
  induction l with
  |nil=>intro _;rfl
  |cons x l ih=>
    intro h;rw[e75,e5l,e58,h x (by simp),ih (λy hy=>h y (by simp[hy])),e5w];omega
 rw[this _ (λx hx=>h4 x (e4s hx)),e67,hg,e6s om]
theorem e3p:(PJ g j).length=32:=by
 unfold PJ;rw[e58,b3z hg h4 hj hs,Fp,e4n];omega
theorem e3n:PJ g (j+1)=spl (PJ g j) j s.2.1:=by
 have hf:=b3z hg h4 hj hs;unfold PJ spl;rw[a33 hg hj hs,e6o,List.flatten_append,e75,e7k,e5l,e65,e6l];have e1:List.take (4*j) (((g.take j).map (·.2.1)).flatten++Fp (32-4*j))=((g.take j).map (·.2.1)).flatten:=by
  rw[List.take_append_of_le_length om,e4h om]
 have e2:List.drop (4*j+4) (((g.take j).map (·.2.1)).flatten++Fp (32-4*j))=Fp (32-4*(j+1)):=by
  rw[List.drop_append,e4i om,e6k,hf,Fp,List.drop_replicate,Fp]
  congr 1;omega
 rw[e1,e2]
theorem e3o(hn:s.2.1=Fp 4):PJ g (j+1)=PJ g j:=by
 have hf:=b3z hg h4 hj hs;unfold PJ;rw[a33 hg hj hs,e6o,List.flatten_append,e75,e7k,e5l,e65,e6l,hn,e5o,Fp,Fp,List.replicate_append_replicate,Fp]
 congr 2;omega
end
theorem e3j{g:List (Node×List Ptr×Bool)}(hg:g.length=8):SJ g 8=g.map (·.1):=by
 unfold SJ;rw[e4h om];exact e6l _
theorem cj8{g:List (Node×List Ptr×Bool)}(hg:g.length=8):PJ g 8=(g.map (·.2.1)).flatten:=by
 unfold PJ;rw[e4h om];exact e6l _
theorem e3f{g:List (Node×List Ptr×Bool)}(hg:g.length=8):TJ g 8=g.any (·.2.2):=by
 unfold TJ;rw[e4h om]
end
theorem Xl(H:AH):K tab A7 A5 18 [] H=some (.own H.length 5 0 8 8,H++[some (Hx.map C4)]):=by
 rw[ar3 tab A7 A5 rfl];rw[show C1 ([]:List AV)=[] by simp[C1],a8t];rw[Ay _ _ _ _ _ ⟨List.nodup_nil,by simp⟩,show Bw (Aw []) ([]:List AV)=[] by simp[Bw],e7k,d65,a9q,if_pos (by simp)];simp only[Nn,Sj,an6,e6f,e6r,if_false,e7m,e7l,Nt,a8e,e6w,e75,e7k,e6h,Ed]
def a0j(j:Nat):List Node:=match j with
 |0=>[foldN,node0,node0,node0,node0,node0,node0,node0]
 |1=>[foldN,lostN,node0,node0,node0,node0,node0,node0]
 |2=>[foldN,lostN,lostN,node0,node0,node0,node0,node0]
 |3=>[foldN,lostN,lostN,lostN,node0,node0,node0,node0]
 |4=>[foldN,lostN,lostN,lostN,lostN,node0,node0,node0]
 |5=>[foldN,lostN,lostN,lostN,lostN,lostN,node0,node0]
 |6=>[foldN,lostN,lostN,lostN,lostN,lostN,lostN,node0]
 |_=>Xo
theorem K8:Gk []=.tuple []:=qq
theorem bu7{j:Nat}(h:j<7):(a0j j).length=8/\((a0j j).map C4)[j+1]?=some [.int .i64 0,.int .i64 0,.str [],.str [],.int .i64 0]/\((a0j j).map C4).set (j+1) [.int .i64 3,.int .i64 0,.str [],.str [],.int .i64 0]=(a0j (j+1)).map C4:=by
 rcases(show j=0\/j=1\/j=2\/j=3\/j=4\/j=5\/j=6 by omega)with rfl|rfl|rfl|rfl|rfl|rfl|rfl<;>exact⟨rfl,rfl,rfl⟩
theorem d6n(d:Dev)(ls:List Node)(ln lp:List Ptr)(t:Bool):Ev tab A7 A5 129 [.ptr 0 0 0 1] [some [[A4 B1 d.last,A4 B2 d.wait,.int .i64 d.lies,.int .i64 d.arm,.bool d.down,.own 1 5 0 8 8,.own 2 6 0 8 8,.own 3 6 0 32 32,.bool t]],some (ls.map C4),some (ln.map Aj),some (lp.map Aj)] =
 some (.tuple [],[some [[A4 B1 d.last,A4 B2 d.wait,.int .i64 d.lies,.int .i64 d.arm,.bool d.down,.own 4 5 0 8 8,.own 2 6 0 8 8,.own 3 6 0 32 32,.bool true]],some (ls.map C4),some (ln.map Aj),some (lp.map Aj),some (Xo.map C4)]):=by
 refine Cv bx1 rfl ?_
 simp(disch:=try exact dz)only[a59,t0,seval,if_pos,if_neg,Ad,Xl,Dk,Bk];generalize hr:Ai _ _ _=r;refine Ny (Q:=λr=>Dv _ _ _ (C2 _ r)=_) hr 7
  (λj=>[.ptr 0 0 0 1,.int .i64 ((j:Int)+1),.top,.top,.top])
  (λj=>[some [[A4 B1 d.last,A4 B2 d.wait,.int .i64 d.lies,.int .i64 d.arm,.bool d.down,.own 4 5 0 8 8,.own 2 6 0 8 8,.own 3 6 0 32 32,.bool true]],some (ls.map C4),some (ln.map Aj),some (lp.map Aj),some ((a0j j).map C4)]) (λj=>True) ?_ ?_ trivial ?_ ?_
 ·rfl
 ·rfl
 ·intro j hj _;obtain⟨hl8,hge,hst⟩:=bu7 hj;have htn:((j:Int)+1).toNat=j+1:=om;have hj':(j:Int)+1<8:=om
  simp(disch:=try exact dz)only[t0,seval,e74,Dk,Bk,hl8,hj',htn,hge,hst];rfl
 ·intro _
  simp(disch:=try exact dz)only[t0,seval,e74,Dk,Bk,K8,Ad,Ed,Br];rfl
theorem d6o(d:Dev)(ls:List Node)(y:List (List PV))(lp:List Ptr)(t:Bool):Ev tab A7 A5 129 [.ptr 0 0 0 1] [some [[A4 B1 d.last,A4 B2 d.wait,.int .i64 d.lies,.int .i64 d.arm,.bool d.down,.own 1 5 0 8 8,.fz y,.own 2 6 0 32 32,.bool t]],some (ls.map C4),some (lp.map Aj)] =
 some (.tuple [],[some [[A4 B1 d.last,A4 B2 d.wait,.int .i64 d.lies,.int .i64 d.arm,.bool d.down,.own 3 5 0 8 8,.fz y,.own 2 6 0 32 32,.bool true]],some (ls.map C4),some (lp.map Aj),some (Xo.map C4)]):=by
 refine Cv bx1 rfl ?_
 simp(disch:=try exact dz)only[a59,t0,seval,if_pos,if_neg,Ad,Xl,Dk,Bk];generalize hr:Ai _ _ _=r;refine Ny (Q:=λr=>Dv _ _ _ (C2 _ r)=_) hr 7
  (λj=>[.ptr 0 0 0 1,.int .i64 ((j:Int)+1),.top,.top,.top])
  (λj=>[some [[A4 B1 d.last,A4 B2 d.wait,.int .i64 d.lies,.int .i64 d.arm,.bool d.down,.own 3 5 0 8 8,.fz y,.own 2 6 0 32 32,.bool true]],some (ls.map C4),some (lp.map Aj),some ((a0j j).map C4)]) (λj=>True) ?_ ?_ trivial ?_ ?_
 ·rfl
 ·rfl
 ·intro j hj _;obtain⟨hl8,hge,hst⟩:=bu7 hj;have htn:((j:Int)+1).toNat=j+1:=om;have hj':(j:Int)+1<8:=om
  simp(disch:=try exact dz)only[t0,seval,e74,Dk,Bk,hl8,hj',htn,hge,hst];rfl
 ·intro _
  simp(disch:=try exact dz)only[t0,seval,e74,Dk,Bk,K8,Ad,Ed,Br];rfl
def b08(d:Dev)(l:List Ptr)(n:Nat)(S:List Node)(P:List Ptr)(t:Bool):AH:=match V0 d n (l.getD n default)with
 |some (x,l')=>[some [[A4 B1 d.last,A4 B2 d.wait,.int .i64 d.lies,.int .i64 d.arm,.bool d.down,.own 1 5 0 8 8,.fz (l.map Al),.own 2 6 0 32 32,.bool (t||!decide (x.bad=0))]],some ((S.set n x).map C4),some ((spl P n l').map Aj)]
 |none=>[some [[A4 B1 d.last,A4 B2 d.wait,.int .i64 d.lies,.int .i64 d.arm,.bool d.down,.own 1 5 0 8 8,.fz (l.map Al),.own 2 6 0 32 32,.bool true]],some ((S.set n (if n=0 then foldN else lostN)).map C4),some (P.map Aj)]
theorem H8(ev:Opd->AV)(H:AH)(s:Nat)(x:Opd)(l h:Option Opd):D8 (.slicel s x l h) ev H=same (Zs H s ev (ev x) l h) H:=by
 have e:Ar (.slicel s x l h) ev H=Zs H s ev (ev x) l h:=rfl;unfold D8 same;rw[e];cases Zs H s ev (ev x) l h<;>rfl
theorem O2{S:List Node}{n:Nat}(h:n<S.length):(S.map C4)[n]?=some [.int .i64 (S.getD n default).kind,.int .i64 (S.getD n default).up,.str (S.getD n default).name,.str (S.getD n default).body,.int .i64 (S.getD n default).bad]:=by
 simp[e5j,e42,e47 h,C4]
theorem Gw(S:List Node)(n:Nat)(k u:Int)(nm b:Bytes)(bad:Nat):(S.map C4).set n [.int .i64 k,.int .i64 u,.str nm,.str b,.int .i64 bad]=(S.set n ⟨k,u,nm,b,bad⟩).map C4:=by
 rw[List.map_set];rfl
theorem Hf(S:List Node)(n:Nat)(k u:Int)(nm b:Bytes):(S.map C4).set n [.int .i64 k,.int .i64 u,.str nm,.str b,.int .i64 0]=(S.set n ⟨k,u,nm,b,0⟩).map C4:=Gw S n k u nm b 0
theorem Ox{S:List Node}{n:Nat}(h:n<S.length)(x:Node):((S.set n x).map C4)[n]?=some [.int .i64 x.kind,.int .i64 x.up,.str x.name,.str x.body,.int .i64 x.bad]:=by
 simp[e5j,e5g,h,C4]
theorem d44(d:Dev)(hd:DevOk d)(l:List Ptr)(hl:l.length=8)(n:Nat)(hn:n<8)(S:List Node)(hS:S.length=8)(P:List Ptr)(hP:P.length=32)(t:Bool):Ev tab A7 A5 130 [.ptr 0 0 0 1,.int .i64 n] [some [[A4 B1 d.last,A4 B2 d.wait,.int .i64 d.lies,.int .i64 d.arm,.bool d.down,.own 1 5 0 8 8,.fz (l.map Al),.own 2 6 0 32 32,.bool t]],some (S.map C4),some (P.map Aj)] =
 some (.tuple [],b08 d l n S P t):=by
 refine Cv dd0 rfl ?_;have hn':(n:Int)<8:=om;have hld:=a0k d hd (l.getD n default) 2;unfold b08 V0;have hnt:((n:Int)*4).toNat=4*n:=om;have hmin:min 4 (32-4*n)=4:=om;have hmap:∀ q:List Ptr,(q.map Al).map (λe=>e.map emb)=q.map Aj:=λq=>by rw[e7q];rfl
 generalize hgp:l.getD n default=p at *;cases hL:Hy d p 2 with
 |none=>
   rw[hL]at hld;have htk:=λH=>bi9 [] (by simp) H;rw[show Sm []=none from by decide]at htk;by_cases h0:n=0
   ·subst h0
    simp(disch:=try exact dz)only[Js,t0,seval,if_pos,if_neg,Ad,Dk,Bk,hS,hP,hl,hn',hld,De,htk,Ka,O2,Ox,Gw,Hf,e7u,B8,Al,hgp,K8,Ed,Br,e6b,e54,e5u,e55,e6c,e5y,e74,hnt,Ez,F0,hmin,hmap,H8,Kl,L1,Oa,E8,E7,E9,e6i,e67];rfl
   ·simp(disch:=try exact dz)only[Js,t0,seval,if_pos,if_neg,Ad,Dk,Bk,hS,hP,hl,hn',hld,De,htk,Ka,O2,Ox,Gw,Hf,e7u,B8,Al,hgp,K8,Ed,Br,e6b,e54,e5u,e55,e6c,e5y,e74,hnt,Ez,F0,hmin,hmap,H8,Kl,L1,Oa,E8,E7,E9,e6i,e67,h0];rfl
 |some s=>
   rw[hL]at hld;have htk:=λH=>bi9 s (by have:=a48 hL;omega) H;cases hT:Sm s with
   |none=>
     rw[hT]at htk;by_cases h0:n=0
     ·subst h0
      simp(disch:=try exact dz)only[Js,t0,seval,if_pos,if_neg,Ad,Dk,Bk,hS,hP,hl,hn',hld,De,htk,Ka,O2,Ox,Gw,Hf,e7u,B8,Al,hgp,K8,Ed,Br,e6b,e54,e5u,e55,e6c,e5y,e74,hnt,Ez,F0,hmin,hmap,H8,Kl,L1,Oa,E8,E7,E9,e6i,e67,hT];rfl
     ·simp(disch:=try exact dz)only[Js,t0,seval,if_pos,if_neg,Ad,Dk,Bk,hS,hP,hl,hn',hld,De,htk,Ka,O2,Ox,Gw,Hf,e7u,B8,Al,hgp,K8,Ed,Br,e6b,e54,e5u,e55,e6c,e5y,e74,hnt,Ez,F0,hmin,hmap,H8,Kl,L1,Oa,E8,E7,E9,e6i,e67,h0,hT];rfl
   |some q=>
     obtain⟨x,z,l'⟩:=q;rw[hT]at htk;have hc:=au8 hT;obtain⟨⟨hk,hu0,hu8,hnl⟩,hz0,hz1,hl4,hall⟩:=hc;have hbd:=λx1 x2 x3 x4 H=>e2a d hd x1 x2 x3 x4 z hz0 hz1 l' hl4 H;have h6:((l'.map Aj).all λe=>decide (e.length=6))=true:=(by simp[Aj]);have S3:(4*n+(32-4*n)<=32)=True:=eq_true om;have hspl:List.take (4*n) (P.map Aj)++List.take 4 (l'.map Aj)++List.drop (4*n+4) (P.map Aj)=(spl P n l').map Aj:=by
      rw[show List.take 4 (l'.map Aj)=l'.map Aj from e4h (by rw[e6i];omega),<-List.map_take,<-List.map_drop,<-e6o,<-e6o];rfl
     by_cases h0:n=0
     ·subst h0;have ha:=e2w (some l') (by rw[Az];omega);rw[Cx,Az]at ha;simp only[Nat.mul_zero,e7p,e6z,e6k]at hspl S3;by_cases hx:x=Wq
      ·subst hx;by_cases hz:z=0
       ·subst hz;cases hA:(l'.all λp=>decide (p=Bt))with
        |false=>
          rw[hA]at ha
          simp(disch:=try exact dz)only[Js,t0,seval,if_pos,if_neg,Ad,Dk,Bk,hS,hP,hl,hn',hld,De,htk,Ka,O2,Ox,Gw,Hf,e7u,B8,Al,hgp,K8,Ed,Br,e6b,e54,e5u,e55,e6c,e5y,e74,hnt,Ez,F0,hmin,hmap,H8,Kl,L1,Oa,E8,E7,E9,hl4,e6i,e67,hT,hA,ha,Wq]
          first
          |rfl
          |simp only[V3,e7d,e7t]
        |true=>
          rw[hA]at ha;cases t
          ·simp(disch:=try exact dz)only[Js,t0,seval,if_pos,if_neg,Ad,Dk,Bk,hS,hP,hl,hn',hld,De,htk,Ka,O2,Ox,Gw,Hf,e7u,B8,Al,hgp,K8,Ed,Br,e6b,e54,e5u,e55,e6c,e5y,e74,hnt,Ez,F0,hmin,hmap,H8,Kl,L1,Oa,E8,E7,E9,hl4,e6i,e67,hT,h6,S3,hspl,hbd,hA,ha,Wq]
           first
           |rfl
           |simp only[V3,e7d,e7t]
          ·simp(disch:=try exact dz)only[Js,t0,seval,if_pos,if_neg,Ad,Dk,Bk,hS,hP,hl,hn',hld,De,htk,Ka,O2,Ox,Gw,Hf,e7u,B8,Al,hgp,K8,Ed,Br,e6b,e54,e5u,e55,e6c,e5y,e74,hnt,Ez,F0,hmin,hmap,H8,Kl,L1,Oa,E8,E7,E9,hl4,e6i,e67,hT,h6,S3,hspl,hbd,hA,ha,Wq]
           first
           |rfl
           |simp only[V3,e7d,e7t]
       ·simp(disch:=try exact dz)only[Js,t0,seval,if_pos,if_neg,Ad,Dk,Bk,hS,hP,hl,hn',hld,De,htk,Ka,O2,Ox,Gw,Hf,e7u,B8,Al,hgp,K8,Ed,Br,e6b,e54,e5u,e55,e6c,e5y,e74,hnt,Ez,F0,hmin,hmap,H8,Kl,L1,Oa,E8,E7,E9,hl4,e6i,e67,hT,hz,Wq]
        first
        |rfl
        |simp only[V3,e7d,e7t]
      ·have hq:(decide (x.kind=2)&&(decide (x.up=0)&&decide (x.name=[])))=false:=by
        cases x with|mk a b c=>simp only[Wq,NodeH.mk.injEq,not_and]at hx;simp only[Bool.and_eq_false_imp,e5h,e4d];exact hx
       simp(disch:=try exact dz)only[Js,t0,seval,if_pos,if_neg,Ad,Dk,Bk,hS,hP,hl,hn',hld,De,htk,Ka,O2,Ox,Gw,Hf,e7u,B8,Al,hgp,K8,Ed,Br,e6b,e54,e5u,e55,e6c,e5y,e74,hnt,Ez,F0,hmin,hmap,H8,Kl,L1,Oa,E8,E7,E9,hl4,e6i,e67,hT,hq,hx]
       first
       |rfl
       |simp only[V3,e7d,e7t]
     ·have hnm:=bs5 x.name om;cases hm:mayName x.name with
      |false=>
        rw[hm]at hnm
        simp(disch:=try exact dz)only[Js,t0,seval,if_pos,if_neg,Ad,Dk,Bk,hS,hP,hl,hn',hld,De,htk,Ka,O2,Ox,Gw,Hf,e7u,B8,Al,hgp,K8,Ed,Br,e6b,e54,e5u,e55,e6c,e5y,e74,hnt,Ez,F0,hmin,hmap,H8,Kl,L1,Oa,E8,E7,E9,hl4,e6i,e67,h0,hT,hnm,hm,h6,S3,hspl,hbd];rfl
      |true=>
        rw[hm]at hnm;cases t
        ·simp(disch:=try exact dz)only[Js,t0,seval,if_pos,if_neg,Ad,Dk,Bk,hS,hP,hl,hn',hld,De,htk,Ka,O2,Ox,Gw,Hf,e7u,B8,Al,hgp,K8,Ed,Br,e6b,e54,e5u,e55,e6c,e5y,e74,hnt,Ez,F0,hmin,hmap,H8,Kl,L1,Oa,E8,E7,E9,hl4,e6i,e67,h0,hT,hnm,hm,h6,S3,hspl,hbd]
         first
         |rfl
         |simp only[V3,e7d,e7t]
        ·simp(disch:=try exact dz)only[Js,t0,seval,if_pos,if_neg,Ad,Dk,Bk,hS,hP,hl,hn',hld,De,htk,Ka,O2,Ox,Gw,Hf,e7u,B8,Al,hgp,K8,Ed,Br,e6b,e54,e5u,e55,e6c,e5y,e74,hnt,Ez,F0,hmin,hmap,H8,Kl,L1,Oa,E8,E7,E9,hl4,e6i,e67,h0,hT,hnm,hm,h6,S3,hspl,hbd]
         first
         |rfl
         |simp only[V3,e7d,e7t]
theorem dz1(l:Sl Node)(n:Int)(hl:(els l).length<=1000000)(H:AH):K tab A7 A5 197 [.agg [A4 Ao l],.int .i64 n] H=some (.bool (Te (els l) n),H):=by
 refine Ae d9a rfl (by simp[Aa,Ab,Ak]) rfl ?_ H;unfold Te Dt;by_cases h0:0<=n
 ·by_cases h1:n<(els l).length
  ·have h2:n.toNat<(els l).length:=om
   simp(disch:=try exact dz)only[a12,t0,seval,if_pos,if_neg,h0,h1,Bl,Ao]
  ·simp(disch:=try exact dz)only[a12,t0,seval,if_pos,if_neg,h0,h1]
 ·simp(disch:=try exact dz)only[a12,t0,seval,if_pos,if_neg,h0]
theorem e2x(l:Sl Node)(x:Node)(hl:(els l).length<=1000000)(hx:x.name.length<=1000000)(H:AH):K tab A7 A5 177 [.agg [A4 Ao l],.agg [.int .i64 x.kind,.int .i64 x.up,.str x.name,.str x.body,.int .i64 x.bad]] H=some (.bool (Il (els l) x),H):=by
 refine Ae d9s rfl (by simp[Aa,Ab,Ak]) rfl ?_ H;have hn:=bs5 x.name hx;have hf:=dz1 l x.up hl;unfold Il;by_cases h0:x.bad=0
 ·cases h1:mayName x.name with
  |false=>
    rw[h1]at hn
    simp(disch:=try exact dz)only[Ta,t0,seval,if_pos,if_neg,h0,hn]
  |true=>
    rw[h1]at hn;cases h2:Te (els l) x.up with
    |false=>
      rw[h2]at hf
      simp(disch:=try exact dz)only[Ta,t0,seval,if_pos,if_neg,h0,hn,hf]
    |true=>
      rw[h2]at hf;by_cases h3:x.kind=1
      ·simp(disch:=try exact dz)only[Ta,t0,seval,if_pos,if_neg,h0,hn,hf,h3];rw[show decide ((x.body.length:Int)<=128)=decide (x.body.length<=128)from e66.2 om]
      ·by_cases h4:x.kind=2
       ·simp(disch:=try exact dz)only[Ta,t0,seval,if_pos,if_neg,h0,hn,hf,h3,h4]
       ·simp(disch:=try exact dz)only[Ta,t0,seval,if_pos,if_neg,h0,hn,hf,h3,h4]
 ·simp(disch:=try exact dz)only[Ta,t0,seval,if_pos,if_neg,h0]
theorem d63{s:List Node}{a:Int}(h:0<=a/\a<s.length):Dt s a∈s:=by
 unfold Dt;rw[e42,e47 om];exact e63 _
theorem d6w(l:Sl Node)(n:Int)(hl:(els l).length<=1000000)(hn:0<=n/\n<(els l).length)(hu:∀ x∈els l,0<=x.up/\x.up<(els l).length)(H:AH):K tab A7 A5 178 [.agg [A4 Ao l],.int .i64 n] H=some (.bool (Li (els l) (els l).length n),H):=by
 refine Ae d9r rfl (by simp[Aa,Ab,Ak]) rfl ?_ H
 simp(disch:=try exact dz)only[af6,t0,seval,if_pos,if_neg];generalize hr:Ai _ _ _=r;have hsuc:∀ t,upIt (els l) (t+1) n=(Dt (els l) (upIt (els l) t n)).up:=λt=>by rw[a7n];rfl
 have hup:∀ t,0<=upIt (els l) t n/\upIt (els l) t n<(els l).length:=by
  intro t
  induction t with
  |zero=>exact hn
  |succ t ih=>rw[hsuc];exact hu _ (d63 ih)
 refine Bb hr (els l).length
  (λj=>[.top,.int .i64 (upIt (els l) j n),.ptr 0 0 0 1,.top,.int .i64 (els l).length,.int .i64 j,.top])
  (λj=>[some [[A4 Ao l]]]) (λj=>Li (els l) (els l).length n=Li (els l) ((els l).length-j) (upIt (els l) j n)) ?_ ?_ ?_ ?_ ?_
 ·simp[upIt]
 ·simp
 ·simp[upIt]
 ·intro j hj hI;have hj':((j:Int)<((els l).length:Int)):=om;obtain⟨h1,h2⟩:=hup j;rw[show(els l).length-j=(els l).length-(j+1)+1 by omega,Li]at hI;rw[hsuc];unfold Dt at hI ⊢;generalize upIt (els l) j n=a at *;by_cases h0:a=0
  ·rw[if_pos h0]at hI
   simp(disch:=try exact dz)only[t0,seval,hj',e74,Bl,Ao,h0];rw[hI]
  ·rw[if_neg h0]at hI
   simp(disch:=try exact dz)only[t0,seval,hj',e74,Bl,Ao,h0];exact⟨rfl,hI⟩
 ·intro hI;rw[Nat.sub_self,Li]at hI
  simp(disch:=try exact dz)only[t0,seval,e7f,hI]
def tw1(s:List Node)(n:Int)(i:Nat):Bool:=decide (0<i)&&!decide ((i:Int)=n)&&!decide ((s.getD i default).kind=0)&&decide ((s.getD i default).up=(Dt s n).up)&&decide ((s.getD i default).name=(Dt s n).name)
theorem cz0(s:List Node)(n:Int):Pv s n=(List.range s.length).any (tw1 s n):=rfl
theorem cy9(l:Sl Node)(n:Int)(hl:(els l).length<=1000000)(hn:0<=n/\n<(els l).length)(H:AH):K tab A7 A5 179 [.agg [A4 Ao l],.int .i64 n] H=some (.bool (Pv (els l) n),H):=by
 refine Ae d9q rfl (by simp[Aa,Ab,Ak]) rfl ?_ H
 simp(disch:=try exact dz)only[af5,t0,seval,if_pos,if_neg];generalize hr:Ai _ _ _=r;refine Bb hr (els l).length
  (λj=>[.top,.int .i64 n,.ptr 0 0 0 1,.top,.top,.top,A4 Ao l,.int .i64 (els l).length,.int .i64 j,.top,.top,.top])
  (λj=>[some [[A4 Ao l]]]) (λj=>Pv (els l) n=((List.range (els l).length).drop j).any (tw1 (els l) n)) ?_ ?_ ?_ ?_ ?_
 ·simp
 ·simp
 ·simp[cz0]
 ·intro j hj hI;have hj':((j:Int)<((els l).length:Int)):=om;have hr':(List.range (els l).length).drop j=j::(List.range (els l).length).drop (j+1):=by
   rw[e46 (by rw[List.length_range];omega),List.getElem_range]
  rw[hr',List.any_cons]at hI
  simp(disch:=try exact dz)only[t0,seval,hj',e74,Bl,Ao];have hg:∀ b:Bool,(tw1 (els l) n j=b)=((decide
          ((decide
           ((decide ((decide (0<(j:Int))&&!decide ((j:Int)=n))=true) &&
            !decide (((els l).getD j default).kind=0)) =
             true) &&
           decide (((els l).getD j default).up=((els l).getD n.toNat default).up)) =
            true) &&
   decide (((els l).getD j default).name=((els l).getD n.toNat default).name))=b):=by
   intro b;simp only[Bool.decide_eq_true,tw1,Dt,show decide (0<(j:Int))=decide (0<j)from e66.2 om]
   congr
  constructor
  ·intro h;rw[hI,(hg true).mpr h];rfl
  ·intro h;refine⟨rfl,?_⟩;rw[e6a]at h;rw[hI,(hg false).mpr h];rfl
 ·intro hI;rw[e4i (by simp)]at hI
  simp(disch:=try exact dz)only[t0,seval,e7f];rw[hI];rfl
theorem c0b(n:Int)(h0:0<=n)(h1:n<=9)(H:AH):K tab A7 A5 213 [.int .i64 n] H=some (.str (Dz n.toNat),H):=by
 refine a7a d5u rfl rfl ?_ H;rw[d3x];simp only[a4f];rw[if_pos ⟨h0,h1⟩]
theorem Wl{f:FuncId}(hl:A5 f=false){args:List AV}(ha:Aa args=true){x:AV}{H':AH}(h:Ev tab A7 A5 f args []=some (x,H'))(H:AH) :
 K tab A7 A5 f args H=some (ren (Gl [] H.length) x,H++H'.map λo=>o.map (renO (Gl [] H.length))):=by
 rw[ar3 tab A7 A5 hl,Oh args ha,a8t,Ay _ _ _ _ _ ⟨List.nodup_nil,by simp⟩,Hw _ _ ha,e7k,h,a9q,if_pos (by simp)];simp only[an6,a8e,e6f,e6w]
theorem e1m(s:List Node)(hs:s≠[])(hl:s.length<=1000000)(H:AH):K tab A7 A5 56 [.fz (s.map Ao)] H=some (.own H.length 5 0 s.length s.length,H++[some (s.map C4)]):=by
 have e:Ev tab A7 A5 56 [.fz (s.map Ao)] []=some (.own 0 5 0 s.length s.length,[some (s.map C4)]):=by
  refine Zc br7 ?_;rw[bo1];simp only[Fi];rw[if_pos ⟨by simp[Ao],by simpa using hl,.inr trivial⟩,e6i,e7q];rfl
 rw[Wl rfl rfl e H];simp only[Nn,Sj,e6f,e6r,if_false,e7m,e7l,Nt,e75,e7k,e6h,Ed]
theorem d13(x:Node)(n:Int)(h0:0<=n)(h1:n<=9):Ev tab A7 A5 212 [.agg [.int .i64 x.kind,.int .i64 x.up,.str x.name,.str x.body,.int .i64 x.bad],.ptr 0 0 0 1] [some [[.int .i64 n]]]=some (.bool (decide (x.name=Dz n.toNat)),[some [[.int .i64 n]]]):=by
 refine Cv d96 rfl ?_
 simp(disch:=try exact dq)only[ae5,t0,seval,if_pos,if_neg,Ad,c0b,Af,Ah,e6c]
def E6{α:Type}(g:α->Bool):List α->Int
 |[]=>-1
 |p::l=>if g p=true then 0 else if E6 g l<0 then -1 else E6 g l+1
theorem V7{α:Type}(g:α->Bool):∀ l:List α,-1<=E6 g l/\E6 g l<l.length
 |[]=>by simp[E6]
 |p::l=>by
   have:=V7 g l;rw[E6,e5w];split
   ·omega
   ·split<;>omega
theorem b0w{α:Type}(g:α->Bool):∀ l:List α,decide (0<=E6 g l)=l.any g
 |[]=>rfl
 |p::l=>by
   have ih:=b0w g l;rw[E6,List.any_cons];cases hp:g p with
   |true=>simp
   |false=>
     rw[if_neg (by simp),e7d,<-ih];split
     ·rw[e6q om,e6q om]
     ·exact e66.2 om
theorem d14(x:Node)(n:Int)(h0:0<=n)(h1:n<=9):K tab A7 A5 212 [.agg [.int .i64 x.kind,.int .i64 x.up,.str x.name,.str x.body,.int .i64 x.bad],.ptr 0 0 0 1] [some [[.int .i64 n]]]=some (.bool (decide (x.name=Dz n.toNat)),[some [[.int .i64 n]]]):=by
 have h:=d13 x n h0 h1
 simp(disch:=try exact dq)only[KQ 212 rfl,t0,seval,if_pos,if_neg,Ad,Af,Ah,e6c,Ay,h]
theorem dh1(l:Sl Node)(hl:(els l).length<=1000000)(n:Int)(h0:0<=n)(h1:n<=9):Ev tab A7 A5 221 [A4 Ao l,.fn (.func 212) [] [.ptr 0 0 0 1]] [some [[.int .i64 n]]]=some (.int .i64 (E6 (λx=>decide (x.name=Dz n.toNat)) (els l)),[some [[.int .i64 n]]]):=by
 refine Cv d94 rfl ?_
 simp(disch:=try exact dq)only[ae4,t0,seval,if_pos,if_neg,Ad,Af,Ah,e6c];generalize hr:Ai _ _ _=r;refine Bb hr (els l).length (λj=>[A4 Ao l,.fn (.func 212) [] [.ptr 0 0 0 1],.top,.top,.int .i64 (els l).length,.int .i64 j,.top])
  (λj=>[some [[.int .i64 n]]]) (λj=>E6 (λx=>decide (x.name=Dz n.toNat)) (els l)=if E6 (λx=>decide (x.name=Dz n.toNat)) ((els l).drop j)<0 then -1 else j+E6 (λx=>decide (x.name=Dz n.toNat)) ((els l).drop j)) ?_ ?_ ?_ ?_ ?_
 ·simp
 ·simp
 ·have:=V7 (λx:Node=>decide (x.name=Dz n.toNat)) (els l);rw[e6w];split<;>omega
 ·intro j hj hI;have hj':((j:Int)<((els l).length:Int)):=om;rw[Gd hj,E6]at hI;have hn:=d14 ((els l).getD j default) n h0 h1;have hge:=V7 (λx:Node=>decide (x.name=Dz n.toNat)) ((els l).drop (j+1));cases hp:decide (((els l).getD j default).name=Dz n.toNat)with
  |true=>
    rw[hp]at hn;simp only[hp,if_true]at hI
    simp(disch:=try exact dq)only[t0,seval,Ad,Af,Ah,e6c,hj',e74,Bl,Ao,hn];rw[if_neg om,Int.add_zero]at hI;rw[hI]
  |false=>
    rw[hp]at hn;simp only[hp,e52,if_false]at hI
    simp(disch:=try exact dq)only[t0,seval,Ad,Af,Ah,e6c,hj',e74,Bl,Ao,hn];refine⟨rfl,?_⟩;rw[hI];generalize E6 _ (List.drop (j+1) (els l))=a at *;by_cases ha:a<0
    ·simp[ha]
    ·rw[if_neg ha,if_neg ha,if_neg om];omega
 ·intro hI;rw[e69,E6,if_pos om]at hI
  simp(disch:=try exact dq)only[t0,seval,Ad,Af,Ah,e6c,e7f,hI]
theorem ca8(l:Sl Node)(hl:(els l).length<=1000000)(n:Int)(h0:0<=n)(h1:n<=9):Ev tab A7 A5 211 [A4 Ao l,.fn (.func 212) [] [.ptr 0 0 0 1]] [some [[.int .i64 n]]]=some (.bool ((els l).any λx=>decide (x.name=Dz n.toNat)),[some [[.int .i64 n]]]):=by
 have h:=dh1 l hl n h0 h1;refine Cv d97 rfl ?_;rw[<-b0w]
 simp(disch:=try exact dq)only[ae6,KQ 221 rfl,t0,seval,if_pos,if_neg,Ad,Af,Ah,e6c,Ay,h]
theorem d12(l:Sl Node)(hl:(els l).length<=8)(H:AH):K tab A7 A5 193 [.agg [A4 Ao l]] H=some (.str (Dz (Gn (els l))),H):=by
 refine Ae d9c rfl (by simp[Aa,Ab,Ak]) rfl ?_ H
 simp(disch:=try exact dq)only[ae9,t0,seval,if_pos,if_neg,Ad,Af,Ah,e6c];generalize hr:Ai _ _ _=r;obtain⟨h8,hno⟩:=a83 (els l) hl;have hyes:=(aw3 ((els l).map (·.name)) 9 0).1;refine Bb hr (Gn (els l)) (λj=>[.top,.ptr 0 0 0 1,.top,.ptr 1 0 0 1])
  (λj=>[some [[A4 Ao l]],some [[.int .i64 j]]]) (λj=>True) ?_ ?_ trivial ?_ ?_
 ·simp
 ·simp
 ·intro j hj _;have hA:((els l).any λx=>decide (x.name=Dz j))=true:=by
   obtain⟨x,hx,e⟩:=e7o.1 (hyes j (e7w _) hj);exact List.any_eq_true.2 ⟨x,hx,by simpa using e⟩
  have h:=ca8 l om j om om;rw[show(j:Int).toNat=j by omega,hA]at h
  simp(disch:=try exact dq)only[KQ 211 rfl,t0,seval,if_pos,if_neg,Ad,Af,Ah,e6c,Ay,h,e74];rfl
 ·intro _;have hA:((els l).any λx=>decide (x.name=Dz (Gn (els l))))=false:=by
   rw[List.any_eq_false];intro x hx e;exact hno (e7o.2 ⟨x,hx,by simpa using e⟩)
  have h:=ca8 l om (Gn (els l)) om om;rw[show(Gn (els l):Int).toNat=Gn (els l) by omega,hA]at h;have hi:=c0b (Gn (els l)) om om;rw[show(Gn (els l):Int).toNat=Gn (els l) by omega]at hi
  simp(disch:=try exact dq)only[KQ 211 rfl,t0,seval,if_pos,if_neg,Ad,Af,Ah,e6c,Ay,h,hi,e74]
theorem am1(x y:Node):(decide (x.kind=y.kind)&&(decide (x.up=y.up)&&(decide (x.name=y.name)&&(decide (x.body=y.body)&&decide (x.bad=y.bad)))))=decide (x=y):=by
 rw[<-e6t,<-e6t,<-e6t,<-e6t];refine e66.2 ?_;cases x;cases y;simp
theorem c61(x:Node):(decide (x.kind=2)&&(decide (x.up=0)&&(decide (x.name=[])&&(decide (x.body=[])&&decide (x.bad=0)))))=decide (x=foldN):=am1 x foldN
theorem b1y(x:Node):(decide (x.kind=0)&&(decide (x.up=0)&&(decide (x.name=[])&&(decide (x.body=[])&&decide (x.bad=0)))))=decide (x=node0):=am1 x node0
theorem e0g(x:Node):(decide (x.kind=3)&&(decide (x.up=0)&&(decide (x.name=[])&&(decide (x.body=[])&&decide (x.bad=0)))))=decide (x=lostN):=am1 x lostN
def b0i(s:List Node)(n:Nat):Bool:=decide (n=0)||decide ((s.getD n default).kind=0)||(Li s s.length n&&!Pv s n)
theorem d6j{s:List Node}(hs:s.length=8):mayNodes s=(decide (s.getD 0 default=foldN)&&((s.drop 1).all λx=>decide (x=node0)||Il s x)&&(List.range 8).all (b0i s)):=by
 unfold mayNodes;rw[e73 hs,e77,<-hs];rfl
theorem e2y{s:List Node}{x:Node}(h:Il s x=true):0<=x.up/\x.up<s.length:=by
 unfold Il Te at h;simp only[e5v,e5h]at h;exact⟨h.1.2.1.1,h.1.2.1.2⟩
theorem bc1(s:List Node)(hs:s.length=8)(hx:∀ x∈s,x.name.length<=1000000)(H:AH):K tab A7 A5 147 [.agg [.fz (s.map Ao)]] H=some (.bool (mayNodes s),H):=by
 refine Ae bw9 rfl rfl rfl ?_ H;have hm:=d6j hs;generalize mayNodes s=bb at *;have hsl:List.drop 1 (List.take 8 (s.map Ao))=(s.drop 1).map Ao:=by
  rw[e4h (by rw[e6i];omega),List.map_drop]
 have h5:(((s.drop 1).map Ao).all λe=>decide (e.length=5))=true:=by
  rw[e5x];intro e he;obtain⟨x,_,rfl⟩:=e7o.1 he;rfl
 have hd:(s.drop 1).length=7:=by simp[hs]
 cases h0:decide (s.getD 0 default=foldN)with
 |true=>
   rw[h0,e77]at hm;have hmem:∀ j,j<s.length->s.getD j default∈s:=λj hj=>by
    rw[e42,e47 hj];exact e63 _
   have hdg:∀ j,(s.drop 1).getD j default=s.getD (j+1) default:=λj=>by
    rw[e42,e53,e42,Nat.add_comm]
   have hsub:∀ x∈s.drop 1,x∈s:=λx hx=>List.mem_of_mem_drop hx;generalize s.drop 1=t at *
   simp(disch:=try exact dq)only[a15,t0,seval,if_pos,if_neg,Ad,Af,Ah,e6c,hs,hd,hsl,h5,B8,Ao,c61,h0,H8,a3c,E8,E7,E9,e6i];generalize hr:Ai _ _ _=r;refine Bb hr 7
    (λj=>[.top,.ptr 0 0 0 1,.top,.top,.top,.top,.fz ((t).map Ao),.int .i64 7,.int .i64 j,.top,.top,.top,.top,.top,.top,.top,.top])
    (λj=>[some [[.fz (s.map Ao)]]]) (λj=>((t).all λx=>decide (x=node0)||Il s x)=(((t).drop j).all λx=>decide (x=node0)||Il s x)) ?_ ?_ ?_ ?_ ?_
   ·rfl
   ·rfl
   ·rw[e6w]
   ·intro j hj hI;have hj':((j:Int)<7):=om;rw[Gd om,e7a,hdg]at hI;have hal:=e2x (some s) (s.getD (j+1) default) (by rw[Az];omega) (hx _ (hmem _ om));rw[Az,Cx]at hal;have hg:=hdg j;cases hz:decide (s.getD (j+1) default=node0)with
    |true=>
      rw[hz,e7t,e77]at hI
      simp(disch:=try exact dq)only[t0,seval,Ad,Af,Ah,e6c,hj',hd,e74,B8,Ao,hg,b1y,hz,e6i];exact⟨rfl,hI⟩
    |false=>
      cases ha:Il s (s.getD (j+1) default)with
      |true=>
        rw[ha,Bool.or_true,e77]at hI;rw[ha]at hal
        simp(disch:=try exact dq)only[t0,seval,Ad,Af,Ah,e6c,hj',hd,e74,B8,Ao,hg,b1y,hz,hal,e6i];exact⟨rfl,hI⟩
      |false=>
        rw[hz,ha,Bool.or_false,e71]at hI;rw[hI,e71]at hm;rw[ha]at hal
        simp(disch:=try exact dq)only[t0,seval,Ad,Af,Ah,e6c,hj',hd,e74,B8,Ao,hg,b1y,hz,hal,hm,e6i]
   ·intro hI;rw[e4i om,e7s]at hI;rw[hI,e77]at hm;have hup:∀ x∈s,0<=x.up/\x.up<s.length:=by
     intro x hxs;obtain⟨n,hn,rfl⟩:=e4v.1 hxs;have e:s.getD n default=s[n]:=(by rw[e42,e47 hn];rfl);rw[<-e];rcases e56 n with rfl|hp
     ·rw[e5t h0];exact⟨by decide,by rw[hs];decide⟩
     ·have hj:=e5x.1 hI (s.getD n default) (by
       have:=hdg (n-1);rw[show n-1+1=n by omega]at this;rw[<-this,e42,e47 om];exact e63 _)
      simp only[e6n,e5h]at hj;rcases hj with hj|hj
      ·rw[hj];exact⟨by decide,by rw[hs];decide⟩
      ·exact e2y hj
    simp(disch:=try exact dq)only[t0,seval,Ad,Af,Ah,e6c,e7f,hs,e74,B8,Ao,e6i];generalize hr2:Ai _ _ _=r2;clear hr hI;obtain⟨R,hR⟩:∃ R,R=List.range 8:=⟨_,rfl⟩;rw[<-hR]at hm;refine Bb hr2 8
     (λj=>[.top,.ptr 0 0 0 1,.top,.top,.top,.top,.top,.top,.top,.top,.top,.fz (s.map Ao),.int .i64 8,.int .i64 j,.top,.top,.top])
     (λj=>[some [[.fz (s.map Ao)]]]) (λj=>bb=(R.drop j).all (b0i s)) ?_ ?_ ?_ ?_ ?_
    ·rfl
    ·rfl
    ·rw[e6w];exact hm
    ·intro j hj hI;have hj':((j:Int)<8):=om;have hr':R.drop j=j::R.drop (j+1):=by
      rw[hR,e46 (by rw[List.length_range];omega),List.getElem_range]
     rw[hr',e7a]at hI;have hle:=d6w (some s) j (by rw[Az];omega) (by rw[Az];omega) (by rw[Az];exact hup);have htw:=cy9 (some s) j (by rw[Az];omega) (by rw[Az];omega);rw[Az,Cx]at hle htw;have hms:b0i s j=(decide (j=0)||decide ((s.getD j default).kind=0)||(Li s s.length j&&!Pv s j)):=rfl;rw[hms]at hI;clear hms;by_cases h1:j=0
     ·rw[e73 h1,e7t,e7t,e77]at hI
      simp(disch:=try exact dq)only[t0,seval,Ad,Af,Ah,e6c,h1,hs,e74,B8,Ao,e6i];subst h1;exact hI
     ·by_cases h2:(s.getD j default).kind=0
      ·rw[e73 h2,Bool.or_true,e7t,e77]at hI
       simp(disch:=try exact dq)only[t0,seval,Ad,Af,Ah,e6c,hj',h1,h2,hs,e74,B8,Ao,e6i];exact⟨rfl,hI⟩
      ·rw[e6q h2,e6q h1,Bool.or_false,e7d]at hI;cases h3:Li s s.length j with
       |false=>
         rw[h3]at hle hI;rw[e71,e71]at hI
         simp(disch:=try exact dq)only[t0,seval,Ad,Af,Ah,e6c,hj',h1,h2,hle,hI,hs,e74,B8,Ao,e6i]
       |true=>
         rw[h3]at hle hI;cases h4:Pv s j with
         |false=>
           rw[h4]at htw hI;rw[e6y,e78,e77]at hI
           simp(disch:=try exact dq)only[t0,seval,Ad,Af,Ah,e6c,hj',h1,h2,hle,htw,hs,e74,B8,Ao,e6i];exact⟨rfl,hI⟩
         |true=>
           rw[h4]at htw hI;rw[e76,e70,e71]at hI
           simp(disch:=try exact dq)only[t0,seval,Ad,Af,Ah,e6c,hj',h1,h2,hle,htw,hI,hs,e74,B8,Ao,e6i]
    ·intro hI;rw[hR,e4i (by simp),e7s]at hI
     simp(disch:=try exact dq)only[t0,seval,Ad,Af,Ah,e6c,e7f,hI]
 |false=>
   rw[h0,e71,e71]at hm
   simp(disch:=try exact dq)only[a15,t0,seval,if_pos,if_neg,Ad,Af,Ah,e6c,hs,B8,Ao,c61,h0,hm,H8,a3c,E8,E7,E9,e6i]
theorem d23(l:Sl Node)(hl:(els l).length<=1000000)(hx:∀ x∈els l,x.name.length<=1000000)(H:AH):K tab A7 A5 147 [.agg [A4 Ao l]] H=some (.bool (mayNodes (els l)),H):=by
 by_cases h8:(els l).length=8
 ·cases l with
  |none=>simp[els]at h8
  |some s=>exact bc1 s h8 hx H
 ·refine Ae bw9 rfl (by simp[Aa,Ab,Ak]) rfl ?_ H;have e:mayNodes (els l)=false:=by
   unfold mayNodes;rw[e6q h8];simp
  have h8':(((els l).length:Int)=8)=False:=eq_false om
  simp(disch:=try exact dq)only[a15,t0,seval,if_pos,if_neg,Ad,Af,Ah,e6c,h8',e]
theorem d62(l:Sl Node)(hl:(els l).length<=1000000)(hx:∀ x∈els l,x.name.length<=1000000)(H:AH):K tab A7 A5 106 [A4 Ao l] H=some (.bool (mayNodes (els l)),H):=by
 refine Ae df4 rfl (by simp[Aa,Ab,Ak]) rfl ?_ H;have h:=d23 l hl hx
 simp(disch:=try exact dq)only[ak3,t0,seval,if_pos,if_neg,Ad,Af,Ah,e6c,h]
theorem bs8(s:List Node)(hx:∀ x∈s,x.name.length<=1000000):∀ n,∀ x∈D6 s n,x.name.length<=1000000
 |0=>hx
 |n+1=>by
   have ih:=bs8 s hx n;rw[D6];unfold T1;intro x h;split at h
   ·rename_i hk;rcases List.mem_or_eq_of_mem_set h with h|rfl
    ·exact ih x h
    ·by_cases hn:n<(D6 s n).length
     ·have hm:(D6 s n).getD n default∈D6 s n:=by rw[e42,e47 hn];exact e63 _
      have:=ih _ hm;exact this
     ·rw[List.set_eq_of_length_le om]at h;exact ih _ h
   ·split at h
    ·rcases List.mem_or_eq_of_mem_set h with h|rfl
     ·exact ih x h
     ·simp[Dz]
    ·exact ih x h
theorem e1u(E:CallF)(a:List Opd)(c:Nat)(V:Opd->AV)(H:AH)(args:List AV):Jw A5 E 193 a c V H args false=Vn (Hq A5 E 193 a c V H) (F7 H args) c H (E 193 (B3 H args) []):=a61 rfl _ _ _ _ _ _
theorem e10(H:AH)(m:List Node):List.flatMap (λe=>List.flatMap (G6 H 3) e) (m.map C4)=[]:=by
 rw[List.flatMap_eq_nil_iff];intro e he;obtain⟨x,_,rfl⟩:=e7o.1 he;simp only[C4,List.flatMap_cons,List.flatMap_nil,b2e,b2d,e6l]
theorem d6a(s:List Node)(hs:s.length=8)(H:AH):K tab A7 A5 168 [.agg [.fz (s.map Ao)]] H=some (.agg [.fz ((Cs s).map Ao)],H):=by
 refine Ae d9y rfl rfl rfl ?_ H;have hc:=e1m s (by intro h;rw[h]at hs;simp at hs) om
 simp(disch:=try exact dq)only[ag2,t0,seval,if_pos,if_neg,Ad,Af,Ah,e6c,hc,hs];generalize hr:Ai _ _ _=r;refine Bb hr 8
  (λj=>[.top,.top,.ptr 1 0 0 1,.ptr 3 0 0 1,.top,.top,.top,.own 2 5 0 8 8,.int .i64 8,.int .i64 j,.top,.top,.top,.top,.top])
  (λj=>[some [[.fz (s.map Ao)]],some [[.emp]],some ((D6 s j).map C4),some [[.own 2 5 0 8 8]]]) (λj=>True) ?_ ?_ trivial ?_ ?_
 ·rfl
 ·rfl
 ·intro j hj _;have hj':((j:Int)<8):=om;have hml:(D6 s j).length=8:=by rw[Qj];exact hs
  have hsp:=d12 (some (D6 s j)) (by rw[Az];omega);rw[Az,Cx]at hsp;rw[D6];unfold T1;have hg:=O2 (S:=D6 s j) (n:=j) om;have hlo:=e0g ((D6 s j).getD j default);have htk:List.take 8 ((D6 s j).map C4)=(D6 s j).map C4:=e4h (by rw[e6i];omega);have htp:List.take 8 ((D6 s j).map Ao)=(D6 s j).map Ao:=e4h (by rw[e6i];omega);generalize D6 s j=m at *;generalize hx:m.getD j default=x at *;have hk:(j:Int).toNat=j:=om;by_cases k1:x.kind=1
  ·by_cases k2:0<x.bad
   ·by_cases k3:x.bad<=15
    ·rw[if_pos ⟨k1,k2,k3⟩]
     simp(disch:=try exact dq)only[t0,seval,Ad,Af,Ah,e6c,hj',hml,hg,hk,k1,k2,k3,e74,Gw,Hf,Dk];rfl
    ·rw[if_neg (λh=>k3 h.2.2),if_neg (λh=>by rw[h.1]at k1;revert k1;decide)]
     simp(disch:=try exact dq)only[t0,seval,Ad,Af,Ah,e6c,hj',hml,hg,hk,k1,k2,k3,e74,Gw,Hf,Dk];rfl
   ·rw[if_neg (λh=>k2 h.2.1),if_neg (λh=>by rw[h.1]at k1;revert k1;decide)]
    simp(disch:=try exact dq)only[t0,seval,Ad,Af,Ah,e6c,hj',hml,hg,hk,k1,k2,e74,Gw,Hf,Dk];rfl
  ·rw[if_neg (λh=>k1 h.1)];cases hl:decide (x=lostN)with
   |true=>
     rw[hl]at hlo;have hl':=e5t hl;by_cases k4:0<j
     ·rw[if_pos ⟨hl',k4⟩];have k4':(0:Int)<(j:Int):=om
      simp(disch:=try exact dq)only[t0,seval,Ad,Af,Ah,e6c,hj',hml,hg,hk,k1,hlo,k4',e1u,as7,e10,htk,htp,hsp,e74,Gw,Hf,Dk];rfl
     ·rw[if_neg (λh=>k4 h.2)];have k4':¬ (0:Int)<(j:Int):=om
      simp(disch:=try exact dq)only[t0,seval,Ad,Af,Ah,e6c,hj',hml,hg,hk,k1,hlo,k4',e74,Gw,Hf,Dk];rfl
   |false=>
     rw[hl]at hlo;have hl':=of_decide_eq_false hl;rw[if_neg (λh=>hl' h.1)]
     simp(disch:=try exact dq)only[t0,seval,Ad,Af,Ah,e6c,hj',hml,hg,hk,k1,hlo,e74,Gw,Hf,Dk];rfl
 ·intro _;have hml:(D6 s 8).length=8:=by rw[Qj];exact hs
  have htp:List.take 8 ((D6 s 8).map Ao)=(D6 s 8).map Ao:=e4h (by rw[e6i];omega)
  simp(disch:=try exact dq)only[t0,seval,Ad,Af,Ah,e6c,e7f,hs,Py,Qq,hml,htp,e5y];rw[Cs,hs]
theorem cz5(s:List Node)(hs:s.length=8)(hx:∀ x∈s,x.name.length<=1000000)(H:AH):K tab A7 A5 131 [.fz (s.map Ao)] H=some (.bool (Zm s),H):=by
 refine Ae dc9 rfl rfl rfl ?_ H;have hm:=d6a s hs;have ht:=bc1 (Cs s) (by rw[Rw];exact hs) (bs8 s hx _);rw[cz4]at ht
 simp(disch:=try exact dq)only[ai8,t0,seval,if_pos,if_neg,Ad,Af,Ah,e6c,hm,ht]
theorem b2n{lk:FuncId->Bool}{E:CallF}{f:FuncId}{a:List Opd}{c:Nat}{V:Opd->AV}{H:AH}{x:AV}{H1:AH}(hb:Aa (a.map V)=true)(h:E f (a.map V) []=some (x,H1))(hc:c+H1.length<=H.length) :
 Hq lk E f a c V H=some ((List.range' c H1.length).map .con,(List.range' c H1.length).map .con++(List.range' c H1.length).map .len,c+H1.length,ren (Au (List.range' c H1.length)) x,C3 H (List.range' c H1.length) (H1.map λo=>o.map (renO (Au (List.range' c H1.length))))):=by
 unfold Hq Bj Jy;have e:Iy H (H.length*4+40) (C1 (a.map V)) []=[]:=by rw[Oh _ hb];rfl
 simp only[hb,Bool.true_eq_false,and_false,if_false,e,e7k,Hw _ _ hb,h];rw[if_pos (by simp)];simp only[e6f,e7w,if_true,e7m,e6k];rw[if_pos ⟨by simp,hc⟩]
theorem b2m(c:Nat)(V:Opd->AV)(H:AH)(hc:c+1<=H.length):clK c H (Hq A5 (K tab A7 A5) 18 [] c V H) (some (.own 0 5 0 8 8,[some (Hx.map C4)]))=some ([.con c],[.con c,.len c],c+1,.own c 5 0 8 8,C3 H [c] [some (Hx.map C4)]):=by
 show Hq A5 (K tab A7 A5) 18 [] c V H=_;have h:=Xl [];rw[b2n (x:=.own 0 5 0 8 8) (H1:=[some (Hx.map C4)]) rfl h hc];simp only[e5w,e6f,e7p,List.range'_one,e75,e7k,e62,e6k,Nn,Zo,e49,Nt,e6h,Ed]
theorem Ln{α:Type}(r:Nat)(es:List (List PV))(p:α->List PV)(x:Sl α):frz r es (A4 p x)=A4 p x:=by rw[<-O5];exact ak5 r es _
theorem b4y(r sz o l t:Nat)(H:AH):K tab A7 A5 131 [.own r sz o l t] H=Hn tab A7 A5 131 [.own r sz o l t] H (Aa (B3 H [.own r sz o l t])) (K tab A7 A5 131 (B3 H [.own r sz o l t]) H):=Nf _ _ _ rfl _ _
theorem e0e(p:Ptr):(decide (p.addr=0)&&(decide (p.birth=0)&&(decide ((p.sum.a.toNat:Int)=0)&&(decide ((p.sum.b.toNat:Int)=0)&&(decide ((p.sum.c.toNat:Int)=0)&&decide ((p.sum.d.toNat:Int)=0))))))=decide (p=Bt):=S9 p
def al5(d:Dev)(f:FilesR):AV:=.agg [A4 B1 d.last,A4 B2 d.wait,.int .i64 d.lies,.int .i64 d.arm,.bool d.down,.fz (f.set.map Ao),.fz (f.node.map Al),.fz (f.part.map Al),.bool f.torn]
theorem d2k(d:Dev)(hd:DevOk d)(p:Ptr)(H:AH):K tab A7 A5 87 [.agg [A4 B1 d.last,A4 B2 d.wait,.int .i64 d.lies,.int .i64 d.arm,.bool d.down],.agg [.int .i64 p.addr,.int .i64 p.birth,.int .u32 p.sum.a.toNat,.int .u32 p.sum.b.toNat,.int .u32 p.sum.c.toNat,.int .u32 p.sum.d.toNat]] H=some (al5 d (C5 d p),H):=by
 refine Ae l87 rfl (by simp[Aa,Ab,Ak]) (by simp[al5,Aa,Ab,Ak]) ?_ H;have hld:=a0k d hd p 3;unfold C5;have hlo:=λt=>d6n d Hx (Fp 8) (Fp 32) t;have e8:(Fp 8).map Aj=[[AV.int .i64 0,.int .i64 0,.int .u32 0,.int .u32 0,.int .u32 0,.int .u32 0],[AV.int .i64 0,.int .i64 0,.int .u32 0,.int .u32 0,.int .u32 0,.int .u32 0],[AV.int .i64 0,.int .i64 0,.int .u32 0,.int .u32 0,.int .u32 0,.int .u32 0],[AV.int .i64 0,.int .i64 0,.int .u32 0,.int .u32 0,.int .u32 0,.int .u32 0],[AV.int .i64 0,.int .i64 0,.int .u32 0,.int .u32 0,.int .u32 0,.int .u32 0],[AV.int .i64 0,.int .i64 0,.int .u32 0,.int .u32 0,.int .u32 0,.int .u32 0],[AV.int .i64 0,.int .i64 0,.int .u32 0,.int .u32 0,.int .u32 0,.int .u32 0],[AV.int .i64 0,.int .i64 0,.int .u32 0,.int .u32 0,.int .u32 0,.int .u32 0]]:=rfl;have e32:(Fp 32).map Aj=[[AV.int .i64 0,.int .i64 0,.int .u32 0,.int .u32 0,.int .u32 0,.int .u32 0],[AV.int .i64 0,.int .i64 0,.int .u32 0,.int .u32 0,.int .u32 0,.int .u32 0],[AV.int .i64 0,.int .i64 0,.int .u32 0,.int .u32 0,.int .u32 0,.int .u32 0],[AV.int .i64 0,.int .i64 0,.int .u32 0,.int .u32 0,.int .u32 0,.int .u32 0],[AV.int .i64 0,.int .i64 0,.int .u32 0,.int .u32 0,.int .u32 0,.int .u32 0],[AV.int .i64 0,.int .i64 0,.int .u32 0,.int .u32 0,.int .u32 0,.int .u32 0],[AV.int .i64 0,.int .i64 0,.int .u32 0,.int .u32 0,.int .u32 0,.int .u32 0],[AV.int .i64 0,.int .i64 0,.int .u32 0,.int .u32 0,.int .u32 0,.int .u32 0],[AV.int .i64 0,.int .i64 0,.int .u32 0,.int .u32 0,.int .u32 0,.int .u32 0],[AV.int .i64 0,.int .i64 0,.int .u32 0,.int .u32 0,.int .u32 0,.int .u32 0],[AV.int .i64 0,.int .i64 0,.int .u32 0,.int .u32 0,.int .u32 0,.int .u32 0],[AV.int .i64 0,.int .i64 0,.int .u32 0,.int .u32 0,.int .u32 0,.int .u32 0],[AV.int .i64 0,.int .i64 0,.int .u32 0,.int .u32 0,.int .u32 0,.int .u32 0],[AV.int .i64 0,.int .i64 0,.int .u32 0,.int .u32 0,.int .u32 0,.int .u32 0],[AV.int .i64 0,.int .i64 0,.int .u32 0,.int .u32 0,.int .u32 0,.int .u32 0],[AV.int .i64 0,.int .i64 0,.int .u32 0,.int .u32 0,.int .u32 0,.int .u32 0],[AV.int .i64 0,.int .i64 0,.int .u32 0,.int .u32 0,.int .u32 0,.int .u32 0],[AV.int .i64 0,.int .i64 0,.int .u32 0,.int .u32 0,.int .u32 0,.int .u32 0],[AV.int .i64 0,.int .i64 0,.int .u32 0,.int .u32 0,.int .u32 0,.int .u32 0],[AV.int .i64 0,.int .i64 0,.int .u32 0,.int .u32 0,.int .u32 0,.int .u32 0],[AV.int .i64 0,.int .i64 0,.int .u32 0,.int .u32 0,.int .u32 0,.int .u32 0],[AV.int .i64 0,.int .i64 0,.int .u32 0,.int .u32 0,.int .u32 0,.int .u32 0],[AV.int .i64 0,.int .i64 0,.int .u32 0,.int .u32 0,.int .u32 0,.int .u32 0],[AV.int .i64 0,.int .i64 0,.int .u32 0,.int .u32 0,.int .u32 0,.int .u32 0],[AV.int .i64 0,.int .i64 0,.int .u32 0,.int .u32 0,.int .u32 0,.int .u32 0],[AV.int .i64 0,.int .i64 0,.int .u32 0,.int .u32 0,.int .u32 0,.int .u32 0],[AV.int .i64 0,.int .i64 0,.int .u32 0,.int .u32 0,.int .u32 0,.int .u32 0],[AV.int .i64 0,.int .i64 0,.int .u32 0,.int .u32 0,.int .u32 0,.int .u32 0],[AV.int .i64 0,.int .i64 0,.int .u32 0,.int .u32 0,.int .u32 0,.int .u32 0],[AV.int .i64 0,.int .i64 0,.int .u32 0,.int .u32 0,.int .u32 0,.int .u32 0],[AV.int .i64 0,.int .i64 0,.int .u32 0,.int .u32 0,.int .u32 0,.int .u32 0],[AV.int .i64 0,.int .i64 0,.int .u32 0,.int .u32 0,.int .u32 0,.int .u32 0]]:=rfl;rw[e8,e32]at hlo;cases hL:Hy d p 3 with
 |none=>
   rw[hL]at hld;have htk:=λH=>bi8 [] (by simp) H;rw[show Wt []=none from by decide]at htk
   simp(disch:=try exact dq)only[g87,KQ 129 rfl,t0,seval,if_pos,if_neg,Ad,Af,Ah,e6c,Ay,hld,De,htk,a30,Xl,b2m,e6k,e6b,e54,hlo,Dk,Bk,Ed,Br,Py,Re,Qq,Oz,Ln,e6g,e5y,e6h];rfl
 |some s=>
   rw[hL]at hld;have hls:=a48 hL;have htk:=λH=>bi8 s om H;simp only[e5y];cases hT:Wt s with
   |none=>
     rw[hT]at htk
     simp(disch:=try exact dq)only[g87,KQ 129 rfl,t0,seval,if_pos,if_neg,Ad,Af,Ah,e6c,Ay,hld,De,htk,a30,Xl,b2m,e6k,e6b,e54,e5u,e55,hlo,Dk,Bk,Ed,Br,Py,Re,Qq,Oz,Ln,e6g,e5y,e6h];rfl
   |some l=>
     rw[hT]at htk;have hl8:l.length=8:=(au7 hT).1;have hgl:(Hs d 0 l).length=8:=(by rw[a89];exact hl8);have hg4:∀ x∈Hs d 0 l,x.2.1.length=4:=by
      intro x hx;obtain⟨n,hn,rfl⟩:=e4v.1 hx
      have:=aw7 d 0 l n (by rw[a89]at hn;exact hn);rw[e47 hn]at this;rw[Option.some.inj this]
      exact(aw9 _ _ _).1
     simp(disch:=try exact dq)only[g87,t0,seval,if_pos,if_neg,Ad,Af,Ah,e6c,Ay,hld,De,htk,a30,Xl,b2m,e6k,e6b,e54,e5u,e55,hlo,Dk,Bk,Ed,Br,Py,Re,Qq,Oz,Ln,e6g,e5y,e6h,hl8];generalize hr:Ai _ _ _=r;generalize hgg:Hs d 0 l=g at *;have hget:∀ j,j<8->g[j]?=some (Sn d j (l.getD j default)):=λj hj=>by
      rw[<-hgg,aw7 d 0 l j om,e7p]
     refine Bb hr 8
      (λj=>[.top,.top,.top,.top,.ptr 2 0 0 1,.ptr 5 0 0 1,.top,.top,.top,.top,.top,.top,.top,.top,.top,.top,.top,.top,.top,.top,.fz (l.map Al),.int .i64 8,.int .i64 j,.top,.top,.top,.top,.top])
      (λj=>[some [[A4 B1 d.last,A4 B2 d.wait,.int .i64 d.lies,.int .i64 d.arm,.bool d.down]],some [[.int .i64 p.addr,.int .i64 p.birth,.int .u32 p.sum.a.toNat,.int .u32 p.sum.b.toNat,.int .u32 p.sum.c.toNat,.int .u32 p.sum.d.toNat]],some [[.emp,.emp,.int .i64 0,.int .i64 0,.bool false,.emp,.emp,.emp,.bool false]],some [[AV.int .i64 0,.int .i64 0,.int .u32 0,.int .u32 0,.int .u32 0,.int .u32 0],[AV.int .i64 0,.int .i64 0,.int .u32 0,.int .u32 0,.int .u32 0,.int .u32 0],[AV.int .i64 0,.int .i64 0,.int .u32 0,.int .u32 0,.int .u32 0,.int .u32 0],[AV.int .i64 0,.int .i64 0,.int .u32 0,.int .u32 0,.int .u32 0,.int .u32 0],[AV.int .i64 0,.int .i64 0,.int .u32 0,.int .u32 0,.int .u32 0,.int .u32 0],[AV.int .i64 0,.int .i64 0,.int .u32 0,.int .u32 0,.int .u32 0,.int .u32 0],[AV.int .i64 0,.int .i64 0,.int .u32 0,.int .u32 0,.int .u32 0,.int .u32 0],[AV.int .i64 0,.int .i64 0,.int .u32 0,.int .u32 0,.int .u32 0,.int .u32 0]],some ((PJ g j).map Aj),some [[A4 B1 d.last,A4 B2 d.wait,.int .i64 d.lies,.int .i64 d.arm,.bool d.down,.own 6 5 0 8 8,.fz (l.map Al),.own 4 6 0 32 32,.bool (TJ g j)]],some ((SJ g j).map C4)]) (λj=>True) ?_ ?_ trivial ?_ ?_
     ·rfl
     ·rfl
     ·intro j hj _;have hj':((j:Int)<8):=om;have hs:=hget j hj;have hS:=e3i hgl hj hs;have hP:=e3p hgl hg4 hj hs;have h1:=d44 d hd l hl8 j hj (SJ g j) hS (PJ g j) hP (TJ g j);have a1:=e3g hgl hj hs;have a2:=e3n hgl hg4 hj hs;have a3:=e3e hgl hj hs;have a4:=e3h hgl hj hs;have a5:=e3o hgl hg4 hj hs;have hk:(j:Int).toNat=j:=om;unfold Sn at a1 a2 a3 a4 a5;unfold b08 at h1;have hpz:=e0e (l.getD j default);generalize SJ g (j+1)=S' at *;generalize PJ g (j+1)=P' at *;generalize TJ g (j+1)=T' at *;generalize SJ g j=S at *;generalize PJ g j=P at *;generalize TJ g j=T at *;generalize hx:l.getD j default=x at *;have h1':(j=0\/x≠Bt)->Ev tab A7 A5 130 [.ptr 0 0 0 1,.int .i64 j] [some [[A4 B1 d.last,A4 B2 d.wait,.int .i64 d.lies,.int .i64 d.arm,.bool d.down,.own 1 5 0 8 8,.fz (l.map Al),.own 2 6 0 32 32,.bool T]],some (S.map C4),some (P.map Aj)] =
       some (.tuple [],[some [[A4 B1 d.last,A4 B2 d.wait,.int .i64 d.lies,.int .i64 d.arm,.bool d.down,.own 1 5 0 8 8,.fz (l.map Al),.own 2 6 0 32 32,.bool T']],some (S'.map C4),some (P'.map Aj)]):=by
       intro c;rw[h1];rw[if_pos c]at a1 a2 a3 a5;cases ho:V0 d j x with
       |none=>
         rw[ho]at a1 a2 a3 a5;simp only[forall_const]at a1 a2 a3 a5;rw[a1,a5,a3,Bool.or_true]
       |some q=>
         obtain⟨y,m⟩:=q;rw[ho]at a1 a2 a3 a5;simp only at a1 a2 a3 a5;rw[a1,a2,a3];have:decide (y.bad≠0)= !decide (y.bad=0):=(by by_cases h:y.bad=0<;>simp[h]);rw[this]
      by_cases c0:j=0
      ·subst c0;have h1':=h1' (.inl rfl);rw[show((0:Nat):Int)=0 from rfl]at h1'
       simp(disch:=try exact dq)only[KQ 130 rfl,t0,seval,if_pos,if_neg,Ad,Af,Ah,e6c,Ay,e6k,Dk,Bk,Ed,Br,Py,Re,Qq,Oz,Ln,e6g,e5y,e6h,hj',hk,hl8,hx,B8,Al,h1'];rfl
      ·have Ye:((j:Int)=0)=False:=eq_false om;cases cx:decide (x=Bt)with
       |false=>
         rw[cx]at hpz;have h1':=h1' (.inr (of_decide_eq_false cx))
         simp(disch:=try exact dq)only[KQ 130 rfl,t0,seval,if_pos,if_neg,Ad,Af,Ah,e6c,Ay,e6k,Dk,Bk,Ed,Br,Py,Re,Qq,Oz,Ln,e6g,e5y,e6h,hj',hk,hl8,hx,Ye,hpz,B8,Al,h1',e74];rfl
       |true=>
         rw[cx]at hpz;have cn:¬ (j=0\/x≠Bt):=λh=>h.elim c0 λh=>h (e5t cx);rw[if_neg cn]at a1 a2 a3 a4 a5;rw[a4 om rfl,a5 rfl,a3,Bool.or_false]
         simp(disch:=try exact dq)only[t0,seval,Ad,Af,Ah,e6c,Ay,e6k,Dk,Bk,Ed,Br,Py,Re,Qq,Oz,Ln,e6g,e5y,e6h,hj',hk,hl8,hx,Ye,hpz,B8,Al,e74];rfl
     ·intro _;rw[e3j hgl,cj8 hgl,e3f hgl];have hnm:∀ x∈g.map (·.1),x.name.length<=1000000:=by
       intro x hx;obtain⟨y,hy,rfl⟩:=e7o.1 hx;obtain⟨n,hn,rfl⟩:=e4v.1 hy
       have:=hget n om;rw[e47 hn]at this;rw[Option.some.inj this]
       have:=(aw9 d n (l.getD n default)).2;omega
      have hto:=cz5 (g.map (·.1)) (by rw[e6i];exact hgl) hnm;have hgm:(g.map (·.1)).length=8:=(by rw[e6i];exact hgl);have hpm:((g.map (·.2.1)).flatten).length=32:=by
       rw[<-cj8 hgl];unfold PJ;rw[e4h om];have:∀ l:List (Node×List Ptr×Bool),(∀ x∈l,x.2.1.length=4)->((l.map (·.2.1)).flatten).length=4*l.length:=by
        intro l
        induction l with
        |nil=>intro _;rfl
        |cons x l ih=>
          intro h;rw[e75,e5l,e58,h x (by simp),ih (λy hy=>h y (by simp[hy])),e5w];omega
       rw[e58,this g hg4,hgl,Fp,e4n]
      have t1:List.take 8 ((g.map (·.1)).map Ao)=(g.map (·.1)).map Ao:=e4h (by rw[e6i];omega);have t2:List.take 32 (((g.map (·.2.1)).flatten).map Al)=((g.map (·.2.1)).flatten).map Al:=e4h (by rw[e6i];omega);have t3:List.take 8 ((g.map (·.1)).map C4)=(g.map (·.1)).map C4:=e4h (by rw[e6i];omega);have hlz:=d6o d (g.map (·.1)) (l.map Al) ((g.map (·.2.1)).flatten) (g.any (·.2.2));unfold al6 al5;generalize g.map (·.1)=S at *
      generalize (g.map (·.2.1)).flatten=P at *;generalize g.any (·.2.2)=T at *;cases ht:Zm S with
      |true=>
        rw[ht]at hto
        simp(disch:=try exact dq)only[b4y,as7,t0,seval,if_pos,if_neg,Ad,Af,Ah,e6c,Ay,e6k,Dk,Bk,Ed,Br,Py,Re,Qq,Oz,Ln,e6g,e5y,e6h,hgm,hpm,t1,t2,t3,hto]
      |false=>
        rw[ht]at hto
        simp(disch:=try exact dq)only[b4y,as7,KQ 129 rfl,t0,seval,if_pos,if_neg,Ad,Af,Ah,e6c,Ay,e6k,Dk,Bk,Ed,Br,Py,Re,Qq,Oz,Ln,e6g,e5y,e6h,hgm,hpm,t1,t2,t3,hto,hlz];rfl
theorem d08(s:Bytes)(hs:s.length<=100000){l:List DsetH}{q:List Ptr}(h:Rf s=some (l,q))(H:AH):K tab A7 A5 86 [.str s] H=some (.tuple [.own H.length 5 0 l.length l.length,.own (H.length+1) 6 0 q.length q.length,.bool true],H++[some (l.map O6),some (q.map Aj)]):=by
 have e:=b8t s hs;rw[h]at e;rw[Wl rfl rfl e H];simp only[a02,Xa,X9,Nn,a03,Sj,e6f,e6r,if_false,e7m,e7l,Nt,e75,e7k,e6h,Iv,Br]
theorem b8s(s:Bytes)(hs:s.length<=100000)(h:Rf s=none)(H:AH):K tab A7 A5 86 [.str s] H=some (.tuple [.emp,.emp,.bool false],H):=by
 have e:=b8t s hs;rw[h]at e;rw[Wl rfl rfl e H];simp only[a02,Xa,X9,a3p,a03,e7k,e6l]
def Zj:List AV:=[.int .i64 0,.int .i64 0,.int .i64 0,.int .i64 0,.int .i64 0,.int .u32 0,.int .u32 0,.int .u32 0,.int .u32 0,.int .i64 0,.int .i64 0,.int .u32 0,.int .u32 0,.int .u32 0,.int .u32 0,.int .i64 0,.int .i64 0,.int .u32 0,.int .u32 0,.int .u32 0,.int .u32 0,.int .i64 0,.emp,.emp,.emp,.emp,.emp,.emp,.emp,.emp]
def Eb(r:Root)(a b c d e f g h:AV):List AV:=[.int .i64 r.txg,.int .i64 r.next,.int .i64 r.guid,.int .i64 r.table.addr,.int .i64 r.table.birth,.int .u32 r.table.sum.a.toNat,.int .u32 r.table.sum.b.toNat,.int .u32 r.table.sum.c.toNat,.int .u32 r.table.sum.d.toNat,.int .i64 r.space.addr,.int .i64 r.space.birth,.int .u32 r.space.sum.a.toNat,.int .u32 r.space.sum.b.toNat,.int .u32 r.space.sum.c.toNat,.int .u32 r.space.sum.d.toNat,.int .i64 r.kept.addr,.int .i64 r.kept.birth,.int .u32 r.kept.sum.a.toNat,.int .u32 r.kept.sum.b.toNat,.int .u32 r.kept.sum.c.toNat,.int .u32 r.kept.sum.d.toNat,.int .i64 r.keptTxg,a,b,c,d,e,f,g,h]
def c3m(o:Option (Root×List DsetH×List Ptr)):AV×AH:=match o with
 |some (r,l,q)=>(.tuple [.agg (Eb r .emp .emp .emp .emp (.own 0 5 0 l.length l.length) (.own 1 6 0 q.length q.length) .emp .emp),.bool true],[some (l.map O6),some (q.map Aj)])
 |none=>(.tuple [.agg Zj,.bool false],[])
theorem c3l(d:Dev)(hd:DevOk d)(p:Ptr):Ev tab A7 A5 47 [.agg [A4 B1 d.last,A4 B2 d.wait,.int .i64 d.lies,.int .i64 d.arm,.bool d.down],.agg [.int .i64 p.addr,.int .i64 p.birth,.int .u32 p.sum.a.toNat,.int .u32 p.sum.b.toNat,.int .u32 p.sum.c.toNat,.int .u32 p.sum.d.toNat]] []=some (c3m (V9 d p)):=by
 refine Cv l47 rfl ?_;unfold V9;have hld:=a0k d hd p 6;cases hL:Hy d p 6 with
 |none=>
   rw[hL]at hld;have htr:=λH=>b8u [] (by simp) H;rw[show a34 []=none from by decide]at htr
   simp(disch:=try exact dq)only[T7,t0,seval,if_pos,if_neg,Ad,Af,Ah,e6c,Ay,hld,De,htr,Ug,X2,X3,e6k,e6b,e54,e5u,e55,Bk,Br,Jk,Iv];rfl
 |some s=>
   rw[hL]at hld;have hls:=a48 hL;have htr:=λH=>b8u s om H;simp only[e5y];cases hT:a34 s with
   |none=>
     rw[hT]at htr
     simp(disch:=try exact dq)only[T7,t0,seval,if_pos,if_neg,Ad,Af,Ah,e6c,Ay,hld,De,htr,Ug,X2,X3,e6k,e6b,e54,e5u,e55,Bk,Br,Jk,Iv];rfl
   |some r=>
     rw[hT]at htr;by_cases hb:r.txg=p.birth
     ·simp only[if_pos hb];have hld2:=a0k d hd r.table 4;cases hL2:Hy d r.table 4 with
      |none=>
        rw[hL2]at hld2;have htt:=b8s [] (by simp) (by decide)
        simp(disch:=try exact dq)only[T7,t0,seval,if_pos,if_neg,Ad,Af,Ah,e6c,Ay,hld,De,htr,Ug,X2,X3,e6k,e6b,e54,e5u,e55,Bk,Br,Jk,Iv,hb,hld2,htt];rfl
      |some s2=>
        rw[hL2]at hld2;have hls2:=a48 hL2;simp only[e5y];cases hT2:Rf s2 with
        |none=>
          have htt:=b8s s2 om hT2
          simp(disch:=try exact dq)only[T7,t0,seval,if_pos,if_neg,Ad,Af,Ah,e6c,Ay,hld,De,htr,Ug,X2,X3,e6k,e6b,e54,e5u,e55,Bk,Br,Jk,Iv,hb,hld2,htt];rfl
        |some q=>
          obtain⟨l,q⟩:=q;have htt:=d08 s2 om hT2
          simp(disch:=try exact dq)only[T7,t0,seval,if_pos,if_neg,Ad,Af,Ah,e6c,Ay,hld,De,htr,Ug,X2,X3,e6k,e6b,e54,e5u,e55,Bk,Br,Jk,Iv,hb,hld2,htt];simp only[c3m,Eb,hb]
     ·simp only[if_neg hb]
      simp(disch:=try exact dq)only[T7,t0,seval,if_pos,if_neg,Ad,Af,Ah,e6c,Ay,hld,De,htr,Ug,X2,X3,e6k,e6b,e54,e5u,e55,Bk,Br,Jk,Iv,hb];rfl
section
def P5(x:DsetH)(f:FilesR):List AV:=[.int .i64 x.id,.int .i64 x.kind,.int .i64 x.origin,.int .i64 x.quota,.fz (f.set.map Ao)]
def setsJ(d:Dev)(l:List DsetH)(q:List Ptr)(j:Nat):AObj:=List.zipWith P5 l ((q.take j).map (C5 d))++(l.drop j).map O6
def Jm(d:Dev)(q:List Ptr)(j:Nat):AObj:=(q.take j).map λp=>[.fz ((C5 d p).node.map Al)]
def Nr(d:Dev)(q:List Ptr)(j:Nat):AObj:=(q.take j).map λp=>[.fz ((C5 d p).part.map Al)]
section
variable {d:Dev} {l:List DsetH} {q:List Ptr} (hl:l.length=q.length) {j:Nat} (hj:j<l.length)
include hl
theorem setsJ_len(hj:j<=l.length):(setsJ d l q j).length=l.length:=by
 simp[setsJ];omega
include hj
theorem d1m:(setsJ d l q j)[j]?=some [.int .i64 (l.getD j default).id,.int .i64 (l.getD j default).kind,.int .i64 (l.getD j default).origin,.int .i64 (l.getD j default).quota,.emp]:=by
 unfold setsJ;rw[e40 (by simp;omega),show j-(List.zipWith P5 l ((q.take j).map (C5 d))).length=0 by simp;omega,e5j,e53,e7l,e47 hj,e42,e47 hj];rfl
theorem d1k:(setsJ d l q j).set j [.int .i64 (l.getD j default).id,.int .i64 (l.getD j default).kind,.int .i64 (l.getD j default).origin,.int .i64 (l.getD j default).quota,.fz ((C5 d (q.getD j default)).set.map Ao)]=setsJ d l q (j+1):=by
 have hz:List.zipWith P5 l ((q.take (j+1)).map (C5 d))=List.zipWith P5 l ((q.take j).map (C5 d))++[P5 (l.getD j default) (C5 d (q.getD j default))]:=by
  have ez:∀ (A B:List DsetH) (C D:List FilesR),A.length=C.length->List.zipWith P5 (A++B) (C++D)=List.zipWith P5 A C++List.zipWith P5 B D:=λA B C D h=>List.zipWith_append h;have e:l=l.take j++(l.getD j default::l.drop (j+1)):=by rw[<-Gd hj,e4p]
  have hm:(l.take j).length=((q.take j).map (C5 d)).length:=by rw[e6i,e67,e67];omega
  rw[Dd om,e6o]
  generalize (q.take j).map (C5 d)=m at *;have e1:List.zipWith P5 l m=List.zipWith P5 (l.take j) m:=by
   have h:=ez (l.take j) (l.getD j default::l.drop (j+1)) m [] hm;rw[<-e,e6l]at h;rw[h];simp
  have h:=ez (l.take j) (l.getD j default::l.drop (j+1)) m ([q.getD j default].map (C5 d)) hm;rw[<-e]at h;rw[h,e1];simp only[e75,e7k,List.zipWith_cons_cons,List.zipWith_nil_right]
 unfold setsJ;rw[List.set_append,if_neg (by simp;omega),show j-(List.zipWith P5 l ((q.take j).map (C5 d))).length=0 by simp;omega,hz,Gd hj,e75,e5c,e5o];rfl
end
theorem ba6(d:Dev)(l:List DsetH)(q:List Ptr)(j:Nat):∀ e∈setsJ d l q j,Aa e=true:=by
 intro e he;unfold setsJ at he;rcases e6m.1 he with h|h
 ·rw[e4v]at h;obtain⟨n,hn,rfl⟩:=h;rw[List.getElem_zipWith];rfl
 ·obtain⟨x,_,rfl⟩:=e7o.1 h;rfl
theorem ay8(d:Dev)(l:List DsetH)(q:List Ptr)(j:Nat):refsO (some (setsJ d l q j))=[]:=by
 simp only[refsO,List.flatMap_eq_nil_iff];exact λe he=>Oh e (ba6 d l q j e he)
theorem ay3(τ:Nat->Option Nat)(d:Dev)(l:List DsetH)(q:List Ptr)(j:Nat):renO τ (setsJ d l q j)=setsJ d l q j:=by
 unfold renO
 conv=>rhs;rw[<-List.map_id (setsJ d l q j)]
 exact e4y λe he=>Hw τ e (ba6 d l q j e he)
theorem Uu(d:Dev)(q:List Ptr)(j:Nat):refsO (some (Jm d q j))=[]:=Gz _ _ λ_=>rfl
theorem Ut(d:Dev)(q:List Ptr)(j:Nat):refsO (some (Nr d q j))=[]:=Gz _ _ λ_=>rfl
theorem Us(τ:Nat->Option Nat)(d:Dev)(q:List Ptr)(j:Nat):renO τ (Jm d q j)=Jm d q j:=Og τ _ _ λ_=>rfl
theorem Ur(τ:Nat->Option Nat)(d:Dev)(q:List Ptr)(j:Nat):renO τ (Nr d q j)=Nr d q j:=Og τ _ _ λ_=>rfl
theorem e01(d:Dev)(hd:DevOk d)(r:Root)(l:List DsetH)(q:List Ptr)(hl:l.length=q.length)(hn:l.length<=8):Ev tab A7 A5 48 [.agg [A4 B1 d.last,A4 B2 d.wait,.int .i64 d.lies,.int .i64 d.arm,.bool d.down],.ptr 0 0 0 1] [some [Eb r .emp .emp .emp .emp (.own 1 5 0 l.length l.length) (.own 2 6 0 l.length l.length) .emp .emp],some (l.map O6),some (q.map Aj)] =
 some (.bool ((q.map (C5 d)).all λf=> !f.torn),[some [Eb r .emp .emp .emp .emp (.own 1 5 0 l.length l.length) (.own 2 6 0 l.length l.length) (.own 3 1 0 l.length l.length) (.own 4 1 0 l.length l.length)],some (setsJ d l q l.length),some (q.map Aj),some (Jm d q l.length),some (Nr d q l.length)]):=by
 refine Cv l48 rfl ?_
 simp(disch:=try exact dq)only[g48,t0,seval,if_pos,if_neg,Ad,Af,Ah,e6c,Eb,Jk,Bk,Iv,Br];generalize hr:Ai _ _ _=r';refine Bb hr l.length
  (λj=>[.top,.ptr 0 0 0 1,.ptr 3 0 0 1,.top,.bool (((q.take j).map (C5 d)).all λf=> !f.torn),.top,.top,.top,.own 2 6 0 l.length l.length,.int .i64 l.length,.int .i64 j,.top,.top,.top,.top])
  (λj=>[some [Eb r .emp .emp .emp .emp (.own 1 5 0 l.length l.length) (.own 2 6 0 l.length l.length) (.own 4 1 0 j j) (.own 5 1 0 j j)],some (setsJ d l q j),some (q.map Aj),some [[A4 B1 d.last,A4 B2 d.wait,.int .i64 d.lies,.int .i64 d.arm,.bool d.down]],some (Jm d q j),some (Nr d q j)]) (λj=>True) ?_ ?_ trivial ?_ ?_
 ·rfl
 ·simp[setsJ,Jm,Nr,Eb]
 ·intro j hj _;have hj':((j:Int)<(l.length:Int)):=om;have hjq:((j:Int)<(q.length:Int)):=om;have hk:(j:Int).toNat=j:=om;have hrd:=d2k d hd (q.getD j default);have s1:=setsJ_len (d:=d) hl (Nat.le_of_lt hj);have s2:=d1m (d:=d) hl hj;have s3:=d1k (d:=d) hl hj;have n1:(Jm d q j).length=j:=by simp[Jm];omega
  have n2:(Nr d q j).length=j:=by simp[Nr];omega
  have n3:Jm d q (j+1)=Jm d q j++[[.fz ((C5 d (q.getD j default)).node.map Al)]]:=by
   unfold Jm;rw[Dd om,e6o];rfl
  have n4:Nr d q (j+1)=Nr d q j++[[.fz ((C5 d (q.getD j default)).part.map Al)]]:=by
   unfold Nr;rw[Dd om,e6o];rfl
  have n5:((q.take (j+1)).map (C5 d)).all (λf=> !f.torn)=((((q.take j).map (C5 d)).all λf=> !f.torn)&&!(C5 d (q.getD j default)).torn):=by
   rw[Dd om,e6o,List.all_append];simp
  have hgq:(q.map Aj)[j]?=some [.int .i64 (q.getD j default).addr,.int .i64 (q.getD j default).birth,.int .u32 (q.getD j default).sum.a.toNat,.int .u32 (q.getD j default).sum.b.toNat,.int .u32 (q.getD j default).sum.c.toNat,.int .u32 (q.getD j default).sum.d.toNat]:=by
   rw[e5j,e47 om,e42,e47 om];rfl
  have hlq:(q.map Aj).length=l.length:=by rw[e6i];exact hl.symm
  rw[n5];have n3:=n3.symm;have n4:=n4.symm;unfold al5 at hrd
  generalize (((q.take j).map (C5 d)).all λf=> !f.torn)=b at *;cases b
  ·simp(disch:=try exact dq)only[t0,seval,Ad,Af,Ah,e6c,hj',hk,s1,s2,n1,n2,hgq,hlq,hrd,s3,n3,n4,e74,Eb,Bk,Br,ay8,ay3,Uu,Ut,Us,Ur];rfl
  ·simp(disch:=try exact dq)only[t0,seval,Ad,Af,Ah,e6c,hj',hk,s1,s2,n1,n2,hgq,hlq,hrd,s3,n3,n4,e74,Eb,Bk,Br,ay8,ay3,Uu,Ut,Us,Ur];rfl
 ·intro _;rw[hl,e68,<-hl]
  simp(disch:=try exact dq)only[t0,seval,Ad,Af,Ah,e6c,e7f,Eb,Bk,Br,ay8,ay3,Uu,Ut,Us,Ur]
end
theorem dh6(d:Dev)(hd:DevOk d)(p:Ptr){r:Root}{l:List DsetH}{q:List Ptr}(h:V9 d p=some (r,l,q))(H:AH):K tab A7 A5 47 [.agg [A4 B1 d.last,A4 B2 d.wait,.int .i64 d.lies,.int .i64 d.arm,.bool d.down],.agg [.int .i64 p.addr,.int .i64 p.birth,.int .u32 p.sum.a.toNat,.int .u32 p.sum.b.toNat,.int .u32 p.sum.c.toNat,.int .u32 p.sum.d.toNat]] H =
 some (.tuple [.agg (Eb r .emp .emp .emp .emp (.own H.length 5 0 l.length l.length) (.own (H.length+1) 6 0 q.length q.length) .emp .emp),.bool true],H++[some (l.map O6),some (q.map Aj)]):=by
 have e:=c3l d hd p;rw[h]at e;rw[Wl rfl (by simp[Aa,Ab,Ak]) e H];simp only[Eb,a02,a8p,Xa,X9,Nn,a03,a3o,a3p,Sj,e6f,e6r,if_false,e7m,e7l,Nt,e75,e7k,e6h,Iv,Br]
theorem dh7(d:Dev)(hd:DevOk d)(p:Ptr)(h:V9 d p=none)(H:AH):K tab A7 A5 47 [.agg [A4 B1 d.last,A4 B2 d.wait,.int .i64 d.lies,.int .i64 d.arm,.bool d.down],.agg [.int .i64 p.addr,.int .i64 p.birth,.int .u32 p.sum.a.toNat,.int .u32 p.sum.b.toNat,.int .u32 p.sum.c.toNat,.int .u32 p.sum.d.toNat]] H =
 some (.tuple [.agg Zj,.bool false],H):=by
 have e:=c3l d hd p;rw[h]at e;rw[Wl rfl (by simp[Aa,Ab,Ak]) e H];simp only[Zj,a02,a8p,Xa,X9,a03,a3o,a3p,e7k,e6l]
def Sr(l:List Ptr):List PV:=[.fz (l.map Al)]
def Nh(r:Root)(a b c e:AV)(v:ViewL):List AV:=Eb r a b c e (.fz (v.sets.map B7)) (.fz (v.set.map Al)) (.fz (v.node.map Sr)) (.fz (v.part.map Sr))
theorem dh8{d:Dev}{p:Ptr}{r:Root}{l:List DsetH}{q:List Ptr}(h:V9 d p=some (r,l,q)):l.length=q.length/\l.length<=8:=by
 unfold V9 at h;split at h
 ·split at h
  ·obtain⟨x,hx,e⟩:=e4g.1 h;obtain⟨s,_,hs⟩:=e4c.1 hx;obtain⟨a,b⟩:=x;have e1:=congrArg (λy=>y.2.1) e;have e2:=congrArg (λy=>y.2.2) e;simp only at e1 e2;subst e1;subst e2
   have:=d09 hs;exact⟨this.1,this.2.1⟩
  ·cases h
 ·cases h
theorem d00(d:Dev)(q:List Ptr)(n:Nat)(h:n=q.length):Cm (Jm d q n)=some ((q.map λp=>(C5 d p).node).map Sr):=by
 subst h;unfold Jm;rw[e68,e7q];exact Je _ _ (λ_=>rfl) q
theorem cz8(d:Dev)(q:List Ptr)(n:Nat)(h:n=q.length):Cm (Nr d q n)=some ((q.map λp=>(C5 d p).part).map Sr):=by
 subst h;unfold Nr;rw[e68,e7q];exact Je _ _ (λ_=>rfl) q
mutual
theorem dy8(r:Nat)(es:List (List PV)):∀ x:AV,Ab x=true->frz r es x=x
 |.own ..,h=>by simp[Ab]at h
 |.ptr ..,h=>by simp[Ab]at h
 |.agg cs,h=>by simp only[Ab]at h;simp only[frz,a1a r es cs h]
 |.tuple cs,h=>by simp only[Ab]at h;simp only[frz,a1a r es cs h]
 |.fn f first cap,h=>by
   simp only[Ab,e5v]at h;simp only[frz,a1a r es first h.1,a1a r es cap h.2]
 |.top,_=>by simp[frz]
 |.bool _,_=>by simp[frz]
 |.int _ _,_=>by simp[frz]
 |.str _,_=>by simp[frz]
 |.nilp,_=>by simp[frz]
 |.emp,_=>by simp[frz]
 |.fz _,_=>by simp[frz]
 |.fptr _,_=>by simp[frz]
 |.nilfn,_=>by simp[frz]
theorem a1a(r:Nat)(es:List (List PV)):∀ xs:List AV,Aa xs=true->Bm r es xs=xs
 |[],_=>by simp[Bm]
 |x::xs,h=>by
   simp only[Aa,e5v]at h;simp only[Bm,dy8 r es x h.1,a1a r es xs h.2]
end
theorem S7(r:Nat)(es:List (List PV))(o:AObj)(h:∀ e∈o,Aa e=true):o.map (Bm r es)=o:=by
 conv=>rhs;rw[<-List.map_id o]
 exact e4y λe he=>a1a r es e (h e he)
theorem dy7(r:Nat)(es:List (List PV))(d:Dev)(q:List Ptr)(j:Nat):(Jm d q j).map (Bm r es)=Jm d q j:=S7 _ _ _ λe he=>by obtain⟨p,_,rfl⟩:=e7o.1 he;rfl
theorem b1q(i:Int):∀ l:List Dset,Ig l i=E6 (λd=>decide (d.id=i)) l
 |[]=>rfl
 |d::l=>by
   rw[Ig,E6,b1q i l];by_cases h:d.id=i
   ·rw[if_pos h,if_pos (by simpa using h)]
   ·rw[if_neg h,if_neg (show ¬ (decide (d.id=i))=true by simpa using h)]
theorem dz7(x:Dset)(n:Int):K tab A7 A5 181 [.agg [.int .i64 x.id,.int .i64 x.kind,.int .i64 x.origin,.int .i64 x.quota,A4 Ao x.files],.ptr 0 0 0 1] [some [[.int .i64 n]]]=some (.bool (decide (x.id=n)),[some [[.int .i64 n]]]):=by
 have h:Ev tab A7 A5 181 [.agg [.int .i64 x.id,.int .i64 x.kind,.int .i64 x.origin,.int .i64 x.quota,A4 Ao x.files],.ptr 0 0 0 1] [some [[.int .i64 n]]]=some (.bool (decide (x.id=n)),[some [[.int .i64 n]]]):=by
  refine Cv d9n rfl ?_
  simp(disch:=try exact dq)only[af3,t0,seval,if_pos,if_neg,Ad,Af,Ah,e6c,Ln,Kn]
 simp(disch:=try exact dq)only[KQ 181 rfl,t0,seval,if_pos,if_neg,Ad,Af,Ah,e6c,Ay,h,Kn]
theorem dh2(l:Sl Dset)(hl:(els l).length<=1000000)(n:Int):Ev tab A7 A5 180 [A4 B7 l,.fn (.func 181) [] [.ptr 0 0 0 1]] [some [[.int .i64 n]]]=some (.int .i64 (Ig (els l) n),[some [[.int .i64 n]]]):=by
 rw[b1q];refine Cv d9o rfl ?_
 simp(disch:=try exact dq)only[af4,t0,seval,if_pos,if_neg,Ad,Af,Ah,e6c];generalize hr:Ai _ _ _=r;refine Bb hr (els l).length (λj=>[A4 B7 l,.fn (.func 181) [] [.ptr 0 0 0 1],.top,.top,.int .i64 (els l).length,.int .i64 j,.top])
  (λj=>[some [[.int .i64 n]]]) (λj=>E6 (λx=>decide (x.id=n)) (els l)=if E6 (λx:Dset=>decide (x.id=n)) ((els l).drop j)<0 then -1 else j+E6 (λx=>decide (x.id=n)) ((els l).drop j)) ?_ ?_ ?_ ?_ ?_
 ·simp
 ·simp
 ·have:=V7 (λx:Dset=>decide (x.id=n)) (els l);rw[e6w];split<;>omega
 ·intro j hj hI;have hj':((j:Int)<((els l).length:Int)):=om;rw[Gd hj,E6]at hI;have hn:=dz7 ((els l).getD j default) n;have hge:=V7 (λx:Dset=>decide (x.id=n)) ((els l).drop (j+1));cases hp:decide (((els l).getD j default).id=n)with
  |true=>
    rw[hp]at hn;simp only[hp,if_true]at hI
    simp(disch:=try exact dq)only[t0,seval,Ad,Af,Ah,e6c,hj',e74,Bl,B7,hn];rw[if_neg om,Int.add_zero]at hI;rw[hI]
  |false=>
    rw[hp]at hn;simp only[hp,e52,if_false]at hI
    simp(disch:=try exact dq)only[t0,seval,Ad,Af,Ah,e6c,hj',e74,Bl,B7,hn];refine⟨rfl,?_⟩;rw[hI];generalize E6 _ (List.drop (j+1) (els l))=a at *;by_cases ha:a<0
    ·simp[ha]
    ·rw[if_neg ha,if_neg ha,if_neg om];omega
 ·intro hI;rw[e69,E6,if_pos om]at hI
  simp(disch:=try exact dq)only[t0,seval,Ad,Af,Ah,e6c,e7f,hI]
theorem c5g(l:Sl Dset)(hl:(els l).length<=1000000)(n:Int)(H:AH):K tab A7 A5 148 [A4 B7 l,.int .i64 n] H=some (.int .i64 (Ig (els l) n),H):=by
 refine Ae db9 rfl (by simp[Aa,Ab,Ak]) rfl ?_ H;have h:=dh2 l hl n
 simp(disch:=try exact dq)only[ai0,KQ 180 rfl,t0,seval,if_pos,if_neg,Ad,Af,Ah,e6c,Ay,h,Kn]
theorem c5h(l:List Dset)(i:Int):-1<=Ig l i/\Ig l i<l.length:=by
 rw[b1q];exact V7 _ _
theorem c0f(l:Sl Dset)(hl:(els l).length<=1000000)(i k:Int)(H:AH):K tab A7 A5 107 [A4 B7 l,.int .i64 i,.int .i64 k] H=some (.bool (isA (els l) i k),H):=by
 refine Ae df3 rfl (by simp[Aa,Ab,Ak]) rfl ?_ H;have h:=c5g l hl i;have hb:=c5h (els l) i;unfold isA getA;generalize Ig (els l) i=a at *;by_cases ha:0<=a
 ·rw[if_pos ha]
  simp(disch:=try exact dq)only[a5e,t0,seval,if_pos,if_neg,Ad,Af,Ah,e6c,h,ha,Bl,B7]
 ·rw[if_neg ha]
  simp(disch:=try exact dq)only[a5e,t0,seval,if_pos,if_neg,Ad,Af,Ah,e6c,h,ha]
def Ts(l:List Dset)(i:Int):Nat->Int
 |0=>i
 |j+1=>match getA l (Ts l i j)with|some o=>o.origin|none=>0
theorem d25(l:Sl Dset)(hl:(els l).length<=1000000)(i:Int)(H:AH):K tab A7 A5 108 [A4 B7 l,.int .i64 i] H=some (.bool (X1 (els l) i (els l).length i),H):=by
 refine Ae df2 rfl (by simp[Aa,Ab,Ak]) rfl ?_ H
 simp(disch:=try exact dq)only[ak2,t0,seval,if_pos,if_neg,Ad,Af,Ah,e6c];generalize hr:Ai _ _ _=r;refine Bb hr (els l).length
  (λj=>[A4 B7 l,.int .i64 i,.top,.int .i64 (Ts (els l) i j),.top,.int .i64 (els l).length,.int .i64 j,.top])
  (λj=>[]) (λj=>X1 (els l) i (els l).length i=X1 (els l) i ((els l).length-j) (Ts (els l) i j)) ?_ ?_ ?_ ?_ ?_
 ·rfl
 ·rfl
 ·simp[Ts]
 ·intro j hj hI;have hj':((j:Int)<((els l).length:Int)):=om;rw[show(els l).length-j=(els l).length-(j+1)+1 by omega,X1]at hI;have h:=c5g l hl (Ts (els l) i j);have hb:=c5h (els l) (Ts (els l) i j);have hs:Ts (els l) i (j+1)=match getA (els l) (Ts (els l) i j)with|some o=>o.origin|none=>0:=rfl
  rw[hs];unfold getA at hI ⊢;generalize Ts (els l) i j=a at *;generalize Ig (els l) a=b at *;by_cases hb0:0<=b
  ·rw[if_pos hb0]at hI;simp only[if_pos hb0];by_cases ho:((els l).getD b.toNat default).origin=i
   ·simp only[if_pos ho]at hI
    simp(disch:=try exact dq)only[t0,seval,Ad,Af,Ah,e6c,hj',h,hb0,ho,hI,Bl,B7,e74]
   ·simp only[if_neg ho]at hI
    simp(disch:=try exact dq)only[t0,seval,Ad,Af,Ah,e6c,hj',h,hb0,ho,Bl,B7,e74];exact⟨rfl,hI⟩
  ·rw[if_neg hb0]at hI;have hb1:b<0:=om
   simp(disch:=try exact dq)only[t0,seval,Ad,Af,Ah,e6c,hj',h,hb1,hI,e74]
 ·intro hI;rw[Nat.sub_self,X1]at hI
  simp(disch:=try exact dq)only[t0,seval,Ad,Af,Ah,e6c,e7f,hI]
def ce2(x:Dset):Prop:=(els x.files).length<=1000000/\∀ n∈els x.files,n.name.length<=1000000
theorem d6d(l:Sl Dset)(hl:(els l).length<=1000000)(x:Dset)(hx:ce2 x)(H:AH):K tab A7 A5 77 [.agg [.int .i64 x.id,.int .i64 x.kind,.int .i64 x.origin,.int .i64 x.quota,A4 Ao x.files,A4 B7 l]] H=some (.bool (a0e (els l) x),H):=by
 refine Ae l77 rfl (by simp[Aa,Ab,Ak]) rfl ?_ H;have hn:=d62 x.files hx.1 hx.2;have h1:=c0f l hl x.origin 1;have h2:=c0f l hl x.origin 2;have h3:=d25 l hl x.id;unfold a0e;by_cases c1:1<=x.id
 ·by_cases c2:x.id<=65535
  ·cases c3:mayNodes (els x.files)with
   |false=>
     rw[c3]at hn
     simp(disch:=try exact dq)only[Lm,t0,seval,if_pos,if_neg,Ad,Af,Ah,e6c,c1,c2,hn]
   |true=>
     rw[c3]at hn;by_cases c4:0<=x.quota
     ·by_cases c5:x.quota<=255
      ·by_cases c6:x.kind=1
       ·by_cases c7:x.origin=0
        ·simp(disch:=try exact dq)only[Lm,t0,seval,if_pos,if_neg,Ad,Af,Ah,e6c,c1,c2,hn,c4,c5,c6,c7]
        ·cases c8:isA (els l) x.origin 2 with
         |false=>
           rw[c8]at h2
           simp(disch:=try exact dq)only[Lm,t0,seval,if_pos,if_neg,Ad,Af,Ah,e6c,c1,c2,hn,c4,c5,c6,c7,h2]
         |true=>
           rw[c8]at h2
           simp(disch:=try exact dq)only[Lm,t0,seval,if_pos,if_neg,Ad,Af,Ah,e6c,c1,c2,hn,c4,c5,c6,c7,h2,h3]
       ·by_cases c7:x.kind=2
        ·by_cases c8:x.quota=0
         ·simp(disch:=try exact dq)only[Lm,t0,seval,if_pos,if_neg,Ad,Af,Ah,e6c,c1,c2,hn,c4,c5,c6,c7,c8,h1]
         ·simp(disch:=try exact dq)only[Lm,t0,seval,if_pos,if_neg,Ad,Af,Ah,e6c,c1,c2,hn,c4,c5,c6,c7,c8]
        ·simp(disch:=try exact dq)only[Lm,t0,seval,if_pos,if_neg,Ad,Af,Ah,e6c,c1,c2,hn,c4,c5,c6,c7]
      ·simp(disch:=try exact dq)only[Lm,t0,seval,if_pos,if_neg,Ad,Af,Ah,e6c,c1,c2,hn,c4,c5]
     ·simp(disch:=try exact dq)only[Lm,t0,seval,if_pos,if_neg,Ad,Af,Ah,e6c,c1,c2,hn,c4]
  ·simp(disch:=try exact dq)only[Lm,t0,seval,if_pos,if_neg,Ad,Af,Ah,e6c,c1,c2]
 ·simp(disch:=try exact dq)only[Lm,t0,seval,if_pos,if_neg,Ad,Af,Ah,e6c,c1]
def a0q(l:List Dset)(j:Nat):Int:=if j=0 then 0 else(l.getD (j-1) default).id
theorem a5v(l:Sl Dset)(hl:(els l).length<=1000000)(hx:∀ x∈els l,ce2 x)(H:AH):K tab A7 A5 43 [A4 B7 l] H=some (.bool (Gb (els l)),H):=by
 refine Ae l43 rfl (by simp[Aa,Ab,Ak]) rfl ?_ H
 simp(disch:=try exact dq)only[g43,t0,seval,if_pos,if_neg,Ad,Af,Ah,e6c];generalize hr:Ai _ _ _=r;refine Bb hr (els l).length
  (λj=>[A4 B7 l,.top,.int .i64 (a0q (els l) j),.top,A4 B7 l,.int .i64 (els l).length,.int .i64 j,.top,.top])
  (λj=>[]) (λj=>Uo (els l) 0 (els l)=Uo (els l) (a0q (els l) j) ((els l).drop j)) ?_ ?_ ?_ ?_ ?_
 ·rfl
 ·rfl
 ·simp[a0q]
 ·intro j hj hI;have hj':((j:Int)<((els l).length:Int)):=om;rw[Gd hj,Uo]at hI;have hm:=d6d l hl ((els l).getD j default) (hx _ (e0t hj));have hs:a0q (els l) (j+1)=((els l).getD j default).id:=by simp[a0q]
  rw[hs];unfold Gb;by_cases c1:a0q (els l) j<((els l).getD j default).id
  ·cases c2:a0e (els l) ((els l).getD j default)with
   |true=>
     rw[c2,e73 c1,e77,e77]at hI;rw[c2]at hm
     simp(disch:=try exact dq)only[t0,seval,Ad,Af,Ah,e6c,hj',hm,c1,Bl,B7,e74];exact⟨rfl,hI⟩
   |false=>
     rw[c2,e70,e71]at hI;rw[c2]at hm
     simp(disch:=try exact dq)only[t0,seval,Ad,Af,Ah,e6c,hj',hm,c1,hI,Bl,B7,e74]
  ·rw[e6q c1,e71,e71]at hI
   simp(disch:=try exact dq)only[t0,seval,Ad,Af,Ah,e6c,hj',c1,hI,Bl,B7,e74]
 ·intro hI;rw[e69,Uo]at hI;unfold Gb
  simp(disch:=try exact dq)only[t0,seval,Ad,Af,Ah,e6c,e7f,hI];rw[show decide (((els l).length:Int)<=8)=decide ((els l).length<=8)from e66.2 om]
def A8(r:Rn):List PV:=[.int .i64 r.a,.int .i64 r.b]
def Ql(r:Rn)(x:Int):Bool:=decide (r.a<=x)&&decide (x<r.b)
theorem di2(r:Rn)(n:Int):K tab A7 A5 173 [.agg [.int .i64 r.a,.int .i64 r.b],.ptr 0 0 0 1] [some [[.int .i64 n]]]=some (.bool (Ql r n),[some [[.int .i64 n]]]):=by
 have h:Ev tab A7 A5 173 [.agg [.int .i64 r.a,.int .i64 r.b],.ptr 0 0 0 1] [some [[.int .i64 n]]]=some (.bool (Ql r n),[some [[.int .i64 n]]]):=by
  refine Cv d9u rfl ?_;have hk:=λH=>d21 (orc:=A7) (lk:=A5) r.a r.b n H;unfold Ql
  simp(disch:=try exact dq)only[af8,t0,seval,if_pos,if_neg,Ad,Af,Ah,e6c,hk]
 simp(disch:=try exact dq)only[KQ 173 rfl,t0,seval,if_pos,if_neg,Ad,Af,Ah,e6c,Ay,h]
theorem dg9(l:Sl Rn)(hl:(els l).length<=1000000)(n:Int):Ev tab A7 A5 196 [A4 A8 l,.fn (.func 173) [] [.ptr 0 0 0 1]] [some [[.int .i64 n]]]=some (.int .i64 (E6 (λr=>Ql r n) (els l)),[some [[.int .i64 n]]]):=by
 refine Cv d9b rfl ?_
 simp(disch:=try exact dq)only[ae8,t0,seval,if_pos,if_neg,Ad,Af,Ah,e6c];generalize hr:Ai _ _ _=r;refine Bb hr (els l).length (λj=>[A4 A8 l,.fn (.func 173) [] [.ptr 0 0 0 1],.top,.top,.int .i64 (els l).length,.int .i64 j,.top])
  (λj=>[some [[.int .i64 n]]]) (λj=>E6 (λr=>Ql r n) (els l)=if E6 (λr=>Ql r n) ((els l).drop j)<0 then -1 else j+E6 (λr=>Ql r n) ((els l).drop j)) ?_ ?_ ?_ ?_ ?_
 ·simp
 ·simp
 ·have:=V7 (λr=>Ql r n) (els l);rw[e6w];split<;>omega
 ·intro j hj hI;have hj':((j:Int)<((els l).length:Int)):=om;rw[Gd hj,E6]at hI;have hn:=di2 ((els l).getD j default) n;have hge:=V7 (λr=>Ql r n) ((els l).drop (j+1));cases hp:Ql ((els l).getD j default) n with
  |true=>
    rw[hp]at hn;simp only[hp,if_true]at hI
    simp(disch:=try exact dq)only[t0,seval,Ad,Af,Ah,e6c,hj',e74,Bl,A8,hn];rw[if_neg om,Int.add_zero]at hI;rw[hI]
  |false=>
    rw[hp]at hn;simp only[hp,e52,if_false]at hI
    simp(disch:=try exact dq)only[t0,seval,Ad,Af,Ah,e6c,hj',e74,Bl,A8,hn];refine⟨rfl,?_⟩;rw[hI];generalize E6 _ (List.drop (j+1) (els l))=a at *;by_cases ha:a<0
    ·simp[ha]
    ·rw[if_neg ha,if_neg ha,if_neg om];omega
 ·intro hI;rw[e69,E6,if_pos om]at hI
  simp(disch:=try exact dq)only[t0,seval,Ad,Af,Ah,e6c,e7f,hI]
theorem e2v(l:Sl Rn)(hl:(els l).length<=1000000)(n:Int):Ev tab A7 A5 172 [A4 A8 l,.fn (.func 173) [] [.ptr 0 0 0 1]] [some [[.int .i64 n]]]=some (.bool (hasR (els l) n),[some [[.int .i64 n]]]):=by
 have h:=dg9 l hl n;refine Cv d9v rfl ?_;rw[show hasR (els l) n=(els l).any (λr=>Ql r n)from rfl,<-b0w]
 simp(disch:=try exact dq)only[af9,KQ 196 rfl,t0,seval,if_pos,if_neg,Ad,Af,Ah,e6c,Ay,h,Kn]
theorem aw4(l:Sl Rn)(hl:(els l).length<=1000000)(n:Int)(H:AH):K tab A7 A5 140 [A4 A8 l,.int .i64 n] H=some (.bool (hasR (els l) n),H):=by
 refine Ae dc0 rfl (by simp[Aa,Ab,Ak]) rfl ?_ H;have h:=e2v l hl n
 simp(disch:=try exact dq)only[ai1,KQ 172 rfl,t0,seval,if_pos,if_neg,Ad,Af,Ah,e6c,Ay,h,Kn]
def a0p(l:List Rn)(j:Nat):Int:=if j=0 then -1 else(l.getD (j-1) default).b
theorem Wv(l:Sl Rn)(hl:(els l).length<=1000000)(H:AH):K tab A7 A5 91 [A4 A8 l] H=some (.bool (H4 (els l)),H):=by
 refine Ae l91 rfl (by simp[Aa,Ab,Ak]) rfl ?_ H;unfold H4
 simp(disch:=try exact dq)only[g91,t0,seval,if_pos,if_neg,Ad,Af,Ah,e6c];generalize hr:Ai _ _ _=r;refine Bb hr (els l).length
  (λj=>[.top,.top,.int .i64 (a0p (els l) j),.top,A4 A8 l,.int .i64 (els l).length,.int .i64 j,.top,.top])
  (λj=>[]) (λj=>Ry (-1) (els l)=Ry (a0p (els l) j) ((els l).drop j)) ?_ ?_ ?_ ?_ ?_
 ·rfl
 ·rfl
 ·simp[a0p]
 ·intro j hj hI;have hj':((j:Int)<((els l).length:Int)):=om;rw[Gd hj,Ry]at hI;have hs:a0p (els l) (j+1)=((els l).getD j default).b:=by simp[a0p]
  rw[hs];generalize a0p (els l) j=a at *;generalize hx:(els l).getD j default=x at *;by_cases c1:a<x.a
  ·by_cases c2:x.a<x.b
   ·by_cases c3:x.b<=1073741824
    ·simp(disch:=try exact dq)only[t0,seval,Ad,Af,Ah,e6c,hj',c1,c2,c3,hx,Bl,A8,e74];refine⟨rfl,?_⟩;rw[hI,e73 c1,e73 c2,e73 c3];simp
    ·simp(disch:=try exact dq)only[t0,seval,Ad,Af,Ah,e6c,hj',c1,c2,c3,hx,Bl,A8,e74];rw[hI];simp[c1,c2,c3]
   ·simp(disch:=try exact dq)only[t0,seval,Ad,Af,Ah,e6c,hj',c1,c2,hx,Bl,A8,e74];rw[hI];simp[c1,c2]
  ·simp(disch:=try exact dq)only[t0,seval,Ad,Af,Ah,e6c,hj',c1,hx,Bl,A8,e74];rw[hI];simp[c1]
 ·intro hI;rw[e69,Ry]at hI
  simp(disch:=try exact dq)only[t0,seval,Ad,Af,Ah,e6c,e7f,hI]
theorem e17(l m:List Rn):Dj (l++m)=Dj l+Dj m:=by
 induction l with
 |nil=>simp[Dj]
 |cons r l ih=>rw[e62,Dj,Dj,ih];omega
def a2p(l:List Rn):Prop:=l.length<=10000/\∀ r∈l,-1000000000000<=r.a/\r.a<=1000000000000/\ -1000000000000<=r.b/\r.b<=1000000000000
theorem e16{l:List Rn}(h:∀ r∈l,-1000000000000<=r.a/\r.a<=1000000000000/\ -1000000000000<=r.b/\r.b<=1000000000000):-(2000000000000*(l.length:Int))<=Dj l/\Dj l<=2000000000000*l.length:=by
 induction l with
 |nil=>simp[Dj]
 |cons r l ih=>
   have:=ih (λx hx=>h x (by simp[hx]));have h2:=h r (by simp);rw[Dj,e5w];omega
theorem a85(l:Sl Rn)(hl:a2p (els l))(H:AH):K tab A7 A5 31 [A4 A8 l] H=some (.int .i64 (Dj (els l)),H):=by
 refine Ae l31 rfl (by simp[Aa,Ab,Ak]) rfl ?_ H
 simp(disch:=try exact dq)only[g31,t0,seval,if_pos,if_neg,Ad,Af,Ah,e6c];generalize hr:Ai _ _ _=r;have hl1:=hl.1;refine Bb hr (els l).length
  (λj=>[.top,.top,.int .i64 (Dj ((els l).take j)),.top,A4 A8 l,.int .i64 (els l).length,.int .i64 j,.top,.top])
  (λj=>[]) (λj=>True) ?_ ?_ trivial ?_ ?_
 ·simp[Dj]
 ·rfl
 ·intro j hj _;have hj':((j:Int)<((els l).length:Int)):=om;have hb:=e16 (l:=(els l).take j) λr hr=>hl.2 r (e4s hr);have hlt:(((els l).take j).length:Int)<=10000:=by rw[e67];omega
  have hx2:=hl.2 ((els l).getD j default) (by rw[e42,e47 hj];exact e63 _);rw[Dd hj,e17];generalize Dj ((els l).take j)=a at *;generalize hx:(els l).getD j default=x at *;simp only[Dj,Int.add_zero]
  simp(disch:=try exact dq)only[t0,seval,Ad,Af,Ah,e6c,hj',hx,Bl,A8,e74];rfl
 ·intro _;rw[e68]
  simp(disch:=try exact dq)only[t0,seval,Ad,Af,Ah,e6c,e7f]
def Ey(r:Rn):List AV:=[.int .i64 r.a,.int .i64 r.b]
theorem Kp(l:List Rn):refsO (some (l.map Ey))=[]:=Gz l _ λ_=>rfl
theorem Gy(τ:Nat->Option Nat)(l:List Rn):renO τ (l.map Ey)=l.map Ey:=Og τ l _ λ_=>rfl
theorem au1(l:List Rn):Cm (l.map Ey)=some (l.map A8):=Je _ _ (λ_=>rfl) l
theorem b1d(r:Nat)(es:List (List PV))(l:List Rn):(l.map Ey).map (Bm r es)=l.map Ey:=S7 _ _ _ λe he=>by obtain⟨p,_,rfl⟩:=e7o.1 he;rfl
theorem e2h(a b:Int):Ev tab A7 A5 141 [.emp,.agg [.int .i64 a,.int .i64 b]] []=some (.own 0 2 0 1 1,[some [[.int .i64 a,.int .i64 b]]]):=by
 refine Cv bx0 rfl ?_
 simp(disch:=try exact dq)only[a16,t0,seval,if_pos,if_neg,Ad,Af,Ah,e6c]
theorem b31:∀ (m:List Rn) (q r:Rn),Cl (m++[q]) r=if q.b=r.a then m++[⟨q.a,r.b⟩]else m++[q,r]
 |[],q,r=>by
   rw[e6k,Cl];rfl
 |[x],q,r=>by
   rw[e62,e6k,Cl,Cl];split<;>rfl
 |x::y::m,q,r=>by
   have ih:=b31 (y::m) q r;rw[e62,e62,Cl];rw[e62]at ih;rw[ih];split<;>rfl
theorem c96(l:List Rn)(hl:l≠[])(hn:l.length<=1000000)(r:Rn):Ev tab A7 A5 141 [.own 0 2 0 l.length l.length,.agg [.int .i64 r.a,.int .i64 r.b]] [some (l.map Ey)]=some (.own 0 2 0 (Cl l r).length (Cl l r).length,[some ((Cl l r).map Ey)]):=by
 refine Cv bx0 rfl ?_;obtain⟨m,q,rfl⟩:∃ m q,l=m++[q]:=⟨l.dropLast,l.getLast hl,(List.dropLast_concat_getLast hl).symm⟩;have hp:0<(m++[q]).length:=by simp
 have hg:((m++[q]).map Ey)[(m++[q]).length-1]?=some [.int .i64 q.a,.int .i64 q.b]:=by
  simp[Ey]
 have hs:((m++[q]).map Ey).set ((m++[q]).length-1) [.int .i64 q.a,.int .i64 r.b]=(m++[(⟨q.a,r.b⟩:Rn)]).map Ey:=by
  simp[Ey]
 have hap:(m++[q]).map Ey++[[.int .i64 r.a,.int .i64 r.b]]=(m++[q,r]).map Ey:=by simp[Ey]
 have hl1:(m++[(⟨q.a,r.b⟩:Rn)]).length=(m++[q]).length:=by simp
 have hl2:(m++[q,r]).length=(m++[q]).length+1:=by simp
 rw[b31];have hnt:(((m++[q]).length:Int)-1).toNat=(m++[q]).length-1:=om;generalize hLL:(m++[q]).length=n at *;by_cases c:q.b=r.a
 ·simp(disch:=try exact dq)only[a16,t0,seval,if_pos,if_neg,Ad,Af,Ah,e6c,Kp,Gy,e6i,hLL,hg,hs,hap,hl1,hl2,hnt,c,e74]
 ·simp(disch:=try exact dq)only[a16,t0,seval,if_pos,if_neg,Ad,Af,Ah,e6c,Kp,Gy,e6i,hLL,hg,hs,hap,hl1,hl2,hnt,c,e74]
def dd(l:List Int):List Int:=l.foldl (λout x=>if out.getLast?=some x then out else out++[x]) []
theorem b2f(l:List Int)(x:Int):dd (l++[x])=if(dd l).getLast?=some x then dd l else dd l++[x]:=by
 unfold dd;rw[List.foldl_append];rfl
theorem e12:∀ (l:List Int) (x:Int),(dd (l++[x])).getLast?=some x:=by
 intro l x;rw[b2f];split
 ·assumption
 ·simp
theorem c7d{l:List Int}(h:l≠[]):(dd l).getLast?=l.getLast?:=by
 obtain⟨m,x,rfl⟩:∃ m x,l=m++[x]:=⟨l.dropLast,l.getLast h,(List.dropLast_concat_getLast h).symm⟩;rw[e12];simp
theorem am5(l:List Int){n:Nat}(h:n<l.length)(h0:0<n):dd (l.take (n+1))=if l.getD n 0=l.getD (n-1) 0 then dd (l.take n)else dd (l.take n)++[l.getD n 0]:=by
 have e:l.take (n+1)=l.take n++[l.getD n 0]:=by
  rw[e5p,e42,e47 h];rfl
 rw[e,b2f,c7d (by intro hh;have:=congrArg List.length hh;rw[e67,e6f]at this;omega)];have:(l.take n).getLast?=some (l.getD (n-1) 0):=by
  rw[List.getLast?_eq_getElem?,e67,e6s om,List.getElem?_take,if_pos om,e42,e47 om];rfl
 rw[this];by_cases hc:l.getD n 0=l.getD (n-1) 0
 ·rw[if_pos hc,if_pos (by rw[hc])]
 ·rw[if_neg hc,if_neg (λhh=>hc (Option.some.inj hh).symm)]
theorem Vl(l:List Int):∀ n,n<=l.length->(dd (l.take n)).length<=n
 |0,_=>by simp[dd]
 |n+1,h=>by
   rcases e56 n with rfl|h0
   ·have:l.take 1=[]++[l.getD 0 0]:=by
     rw[e5p,e42,e47 om];rfl
    rw[this,b2f];simp[dd]
   ·have:=Vl l n om;rw[am5 l om h0];split<;>simp<;>omega
def Ge(l:List Int)(n:Nat):List Int:=dd (l.take n)++l.drop (dd (l.take n)).length
theorem c7e(l:List Int){n:Nat}(h:n<=l.length):(Ge l n).length=l.length:=by
 have:=Vl l n h;simp[Ge];omega
theorem c7f(l:List Int){n i:Nat}(h:n<=l.length)(hi:(dd (l.take n)).length<=i):(Ge l n)[i]?=l[i]?:=by
 unfold Ge;rw[e40 hi,e53]
 congr 1;omega
theorem e14(l:List Int){n:Nat}(h:n<l.length)(h0:0<n)(hc:l.getD n 0=l.getD (n-1) 0):Ge l (n+1)=Ge l n/\(dd (l.take (n+1))).length=(dd (l.take n)).length:=by
 unfold Ge;rw[am5 l h h0,if_pos hc];exact⟨rfl,rfl⟩
theorem e15(l:List Int){n:Nat}(h:n<l.length)(h0:0<n)(hc:¬ l.getD n 0=l.getD (n-1) 0):Ge l (n+1)=(Ge l n).set (dd (l.take n)).length (l.getD n 0)/\(dd (l.take (n+1))).length=(dd (l.take n)).length+1:=by
 have hw:=Vl l n om;unfold Ge;rw[am5 l h h0,if_neg hc];refine⟨?_,by simp⟩;rw[e58,e5w,e6f,List.set_append,if_neg om,Nat.sub_self,e5o]
 congr 1
 rw[e46 (show(dd (l.take n)).length<l.length by omega),e5c];rfl
def cI(n:Int):List AV:=[.int .i64 n]
theorem B6(l:List Int):refsO (some (l.map cI))=[]:=Gz l _ λ_=>rfl
theorem Bh(τ:Nat->Option Nat)(l:List Int):renO τ (l.map cI)=l.map cI:=Og τ l _ λ_=>rfl
theorem b12{l:List Int}{n:Nat}(h:n<l.length):(l.map cI)[n]?=some [.int .i64 (l.getD n 0)]:=by
 rw[e5j,e42,e47 h];rfl
theorem d1r(l:List Int)(n:Nat)(x:Int):(l.map cI).set n [.int .i64 x]=(l.set n x).map cI:=by rw[List.map_set];rfl
theorem c7w(l:List Int)(hn:l.length<=1000000):Ev tab A7 A5 155 [.own 0 1 0 l.length l.length] [some (l.map cI)]=some (.own 0 1 0 (dd l).length l.length,[some ((dd l++List.replicate (l.length-(dd l).length) 0).map cI)]):=by
 refine Cv db2 rfl ?_;by_cases h2:(l.length:Int)<2
 ·have e:dd l=l:=by
   match l,h2 with
   |[],_=>rfl
   |[x],_=>rfl
   |_::_::_,h=>simp at h;omega
  simp(disch:=try exact dq)only[a57,t0,seval,if_pos,if_neg,Ad,Af,Ah,e6c,h2,B6,Bh,e6i,e,Nat.sub_self,e4z,e6l]
 ·simp(disch:=try exact dq)only[a57,t0,seval,if_pos,if_neg,Ad,Af,Ah,e6c,h2,B6,Bh,e6i];generalize hr:Ai _ _ _=r;have h2':2<=l.length:=om;refine Bb hr (l.length-1)
   (λj=>[.own 0 1 0 l.length l.length,.top,.int .i64 ((j:Int)+1),.top,.top,.top,.top,.top])
   (λj=>[some (l.map cI)]) (λj=>dd (l.take (j+1))=l.take (j+1)) ?_ ?_ ?_ ?_ ?_
  ·rfl
  ·rfl
  ·rw[e5p,e6z,e47 om];rfl
  ·intro j hj hI;have hk:((j:Int)+1)<(l.length:Int):=om;have hg1:=b12 (l:=l) (n:=j+1) om;have hg0:=b12 (l:=l) (n:=j) om;have ht1:((j:Int)+1).toNat=j+1:=om;have ht0:((j:Int)+1-1).toNat=j:=om;have hst:=am5 l (n:=j+1) om om;rw[show j+1-1=j by omega]at hst;by_cases hc:l.getD (j+1) 0=l.getD j 0
   ·simp(disch:=try exact dq)only[t0,seval,Ad,Af,Ah,e6c,hk,hg1,hg0,ht1,ht0,hc,B6,e6i,e74,H8,Kl,L1,E8,E7,E9];generalize hr2:Ai _ _ _=r2;have w0:dd (l.take (j+2))=l.take (j+1):=(by rw[show j+2=j+1+1 by omega,hst,if_pos hc,hI]);have a0:Ge l (j+2)=l:=by
     unfold Ge;rw[w0,e67,e6s om,e4p]
    refine Ny (Q:=λr=>Rd _ _ _ _ (Hu _ _ (Cn _ _ (C2 _ (Cn _ _ (C2 _ r)))))) hr2 (l.length-j-2)
     (λi=>[.own 0 1 0 l.length l.length,.top,.int .i64 (dd (l.take (j+2+i))).length,.own 0 1 (j+1) (l.length-(j+1)) l.length,.int .i64 ((i:Int)+1),.top,.top,.top])
     (λi=>[some ((Ge l (j+2+i)).map cI)]) (λi=>(dd (l.take (j+2+i))).length<=j+1+i) ?_ ?_ ?_ ?_ ?_
    ·rw[e7l,w0,e67,e6s om];rfl
    ·rw[e7l,a0]
    ·rw[e7l,w0,e67];omega
    ·intro i hi hJ;have hm:j+2+i<l.length:=om;have hk2:((i:Int)+1)<((l.length-(j+1):Nat):Int):=om;have hA:=c7e l (n:=j+2+i) om;have e1:=c7f l (n:=j+2+i) (i:=j+1+(i+1)) om om;have e0:=c7f l (n:=j+2+i) (i:=j+1+i) om om;have f1:((Ge l (j+2+i)).map cI)[j+1+(i+1)]?=some [.int .i64 (l.getD (j+2+i) 0)]:=by
      rw[e5j,e1,show j+1+(i+1)=j+2+i by omega,e42,e47 hm];rfl
     have f0:((Ge l (j+2+i)).map cI)[j+1+i]?=some [.int .i64 (l.getD (j+1+i) 0)]:=by
      rw[e5j,e0,e42,e47 om];rfl
     have hmore:=e15 l hm om;have hsame:=e14 l hm om;rw[show j+2+i-1=j+1+i by omega]at hmore hsame;have u1:((i:Int)+1).toNat=i+1:=om;have u0:((i:Int)+1-1).toNat=i:=om;have fw:=b12 (l:=Ge l (j+2+i)) (n:=(dd (l.take (j+2+i))).length) om;have uw:(((dd (l.take (j+2+i))).length:Nat):Int).toNat=(dd (l.take (j+2+i))).length:=om;rw[show j+2+(i+1)=j+2+i+1 by omega];by_cases hd:l.getD (j+2+i) 0=l.getD (j+1+i) 0
     ·obtain⟨p1,p2⟩:=hsame hd;rw[p1,p2]
      simp(disch:=try exact dq)only[t0,seval,Ad,Af,Ah,e6c,hk2,f1,f0,u1,u0,hd,hA,B6,e6i,e74];exact⟨rfl,by omega⟩
     ·obtain⟨p1,p2⟩:=hmore hd;rw[p1,p2];generalize Ge l (j+2+i)=A at *
      generalize (dd (l.take (j+2+i))).length=w at *
      simp(disch:=try exact dq)only[t0,seval,Ad,Af,Ah,e6c,hk2,f1,f0,u1,u0,hd,hA,fw,uw,d1r,B6,e6i,e74];exact⟨rfl,by omega⟩
    ·intro hJ;rw[show j+2+(l.length-j-2)=l.length by omega,e68]at hJ ⊢;have hA:=c7e l (n:=l.length) om;have hAe:Ge l l.length=dd l++l.drop (dd l).length:=(by unfold Ge;rw[e68]);have uw:(((dd l).length:Nat):Int).toNat=(dd l).length:=om;have hcl:List.take (dd l).length ((Ge l l.length).map cI)++List.replicate (l.length-(dd l).length) [AV.int .i64 0]++List.drop ((dd l).length+(l.length-(dd l).length)) ((Ge l l.length).map cI)=(dd l++List.replicate (l.length-(dd l).length) 0).map cI:=by
      rw[<-List.map_take,hAe,List.take_left',e4i (by rw[e6i,<-hAe,hA];omega),e6l,e6o,List.map_replicate]
      ·rfl
      ·rfl
     have hcl2:((dd l++List.replicate (l.length-(dd l).length) 0).map cI).length=l.length:=by
      rw[e6i,e58,e4n];omega
     have hw0:¬ (dd l).length=0:=by
      intro h0
      have:=c7d (l:=l) (by intro h;rw[h]at h2';simp at h2');rw[e4a.1 h0,List.getLast?_eq_getElem?,List.getLast?_eq_getElem?,e47 (show l.length-1<l.length by omega)]at this;simp at this
     simp(disch:=try exact dq)only[t0,seval,Ad,Af,Ah,e6c,hA,uw,hw0,B6,Bh,e74,H8,Kl,L1,E8,E7,E9,e1s,e1w,e7p,hcl,hcl2]
   ·simp(disch:=try exact dq)only[t0,seval,Ad,Af,Ah,e6c,hk,hg1,hg0,ht1,ht0,hc,B6,e6i,e74];refine⟨rfl,?_⟩;rw[hst,if_neg hc,hI,e5p (i:=j+1),e42,e47 om];rfl
  ·intro hI
   simp(disch:=try exact dq)only[t0,seval,Ad,Af,Ah,e6c,e7f,B6,Bh,e6i,e74];rw[show l.length-1+1=l.length by omega,e68]at hI;rw[hI,Nat.sub_self,e4z,e6l]
theorem b0h{n y:Int}:∀ {l:List Int},y∈Ib n l↔y=n\/y∈l
 |[]=>by simp[Ib]
 |x::l=>by
   rw[Ib];split
   ·simp
   ·rw[e79,b0h (l:=l),e79];constructor
    ·rintro(h|h|h)<;>simp[h]
    ·rintro(h|h|h)<;>simp[h]
theorem c2v{n:Int}:∀ {l:List Int},l.Pairwise (·<=·)->(Ib n l).Pairwise (·<=·)
 |[],_=>by simp[Ib]
 |x::l,h=>by
   rw[Ib];rw[e5d]at h;split
   ·rename_i hn;rw[e5d];refine⟨λy hy=>?_,e5d.2 h⟩;rcases e79.1 hy with rfl|hy
    ·exact hn
    ·exact Int.le_trans hn (h.1 y hy)
   ·rename_i hn;rw[e5d];refine⟨λy hy=>?_,c2v h.2⟩;rcases b0h.1 hy with rfl|hy
    ·omega
    ·exact h.1 y hy
theorem c2w(n:Int):∀ l:List Int,(Ib n l).length=l.length+1
 |[]=>rfl
 |x::l=>by
   rw[Ib];split
   ·simp
   ·rw[e5w,c2w n l,e5w]
theorem b9m:∀ l:List Int,(Cr l).Pairwise (·<=·)
 |[]=>List.Pairwise.nil
 |x::l=>c2v (b9m l)
theorem bt0{y:Int}:∀ {l:List Int},y∈Cr l↔y∈l
 |[]=>Iff.rfl
 |x::l=>by
   show y∈Ib x (Cr l)↔_;rw[b0h,bt0 (l:=l),e79]
theorem Q2:∀ l:List Int,(Cr l).length=l.length
 |[]=>rfl
 |x::l=>by
   show(Ib x (Cr l)).length=_;rw[c2w,Q2 l,e5w]
theorem e13(l:List Int):∀ out:List Int,out.Pairwise (· < ·)->l.Pairwise (·<=·)->(∀ x∈out,∀ y∈l,x<=y)->
 (l.foldl (λout x=>if out.getLast?=some x then out else out++[x]) out).Pairwise (· < ·)/\∀ x,x∈l.foldl (λout x=>if out.getLast?=some x then out else out++[x]) out↔x∈out\/x∈l:=by
 induction l with
 |nil=>intro out h _ _;exact⟨h,by simp⟩
 |cons a l ih=>
   intro out h hs hb;rw[e5d]at hs;rw[e6j];split
   ·rename_i he;have hm:=List.mem_of_getLast? he;obtain⟨g1,g2⟩:=ih out h hs.2 (λx hx y hy=>hb x hx y (by simp[hy]));refine⟨g1,λx=>?_⟩;rw[g2];constructor
    ·rintro(h|h)<;>simp[h]
    ·rintro(h|h)
     ·exact .inl h
     ·rcases e79.1 h with rfl|h
      ·exact .inl hm
      ·exact .inr h
   ·rename_i he;have hlt:∀ x∈out,x<a:=by
     intro x hx;have h1:=hb x hx a (by simp);rcases Int.lt_or_eq_of_le h1 with h2|h2
     ·exact h2
     ·exfalso
      apply he;subst h2;have hne:out≠[]:=(by intro h;rw[h]at hx;simp at hx);rw[List.getLast?_eq_some_getLast hne]
      congr 1
      have h3:=hb (out.getLast hne) (List.getLast_mem hne) x (by simp);obtain⟨m,q,hq⟩:∃ m q,out=m++[q]:=⟨out.dropLast,out.getLast hne,(List.dropLast_concat_getLast hne).symm⟩;have hl:out.getLast hne=q:=(by simp[hq]);rw[hl]at h3 ⊢;rw[hq]at hx h;rcases e6m.1 hx with h4|h4
      ·have:=(List.pairwise_append.1 h).2.2 x h4 q (by simp);omega
      ·simp at h4;exact h4.symm
    obtain⟨g1,g2⟩:=ih (out++[a]) (List.pairwise_append.2 ⟨h,by simp,λx hx y hy=>by simp at hy;subst hy;exact hlt x hx⟩) hs.2 (λx hx y hy=>by
     rcases e6m.1 hx with h|h
     ·exact hb x h y (by simp[hy])
     ·simp at h;subst h;exact hs.1 y hy)
    refine⟨g1,λx=>?_⟩;rw[g2,e6m,e79];simp only[e79,e61,or_false];constructor
    ·rintro((h|h)|h)<;>simp[h]
    ·rintro(h|h|h)<;>simp[h]
theorem a1l(l:List Int):(dd (Cr l)).Pairwise (· < ·)/\∀ x,x∈dd (Cr l)↔x∈l:=by
 obtain⟨h1,h2⟩:=e13 (Cr l) [] List.Pairwise.nil (b9m l) (λ_ h=>by cases h);refine⟨h1,λx=>?_⟩
 have:=h2 x;rw[bt0]at this;unfold dd;rw[this];simp
def Ft(l:List Rn):List Int:=l.flatMap λr=>[r.a,r.b]
theorem b28(l m:List Rn):dd (Cr (Ft (l++m)))=Ij l m:=by
 refine b9k (a1l _).1 (b27 l m) λx=>?_;rw[(a1l _).2,a43];unfold Ft;rw[List.mem_flatMap];simp
theorem Nj(l:List Int):Cm (l.map cI)=some (l.map λn=>[.int .i64 n]):=Je _ _ (λ_=>rfl) l
theorem b9l(l:List Int)(hn:l.length<=100000):Ev tab A7 A5 154 [.own 0 1 0 l.length l.length] [some (l.map cI)]=some (.tuple [],[some ((Cr l).map cI)]):=by
 refine Zc d5q ?_;rw[d3t];have e:Xq (l.map cI)=some l:=c2t l;simp only[a3b];rw[if_pos (by simp[hn]),e];rfl
theorem e1c(l m:Sl Rn)(hn:(els l).length+(els m).length<=1000000):Ev tab A7 A5 171 [.own 0 1 0 2 2] [some [[A4 A8 l],[A4 A8 m]]]=some (.fz ((els l++els m).map A8),[some [[A4 A8 l],[A4 A8 m]]]):=by
 refine Zc d5w ?_;rw[d3z];simp only[a5y,ax0,e5y];rw[if_pos ⟨by simp[A8],by simpa using hn⟩,e6o]
theorem e0m(l m:Sl Rn)(hn:(els l).length+(els m).length<=10000)(H:AH):K tab A7 A5 139 [.agg [A4 A8 l,A4 A8 m]] H=some (.fz ((Ij (els l) (els m)).map λn=>[.int .i64 n]),H):=by
 refine Ae dc2 rfl (by simp[Aa,Ab,Ak]) rfl ?_ H;have hc:=e1c l m om
 simp(disch:=try exact dq)only[ai3,KQ 171 rfl,t0,seval,if_pos,if_neg,Ad,Af,Ah,e6c,Ay,hc,Kn,e6i];generalize hr:Ai _ _ _=r;have hle:∀ L:List Rn,(Ft L).length=2*L.length:=by
  intro L
  induction L with
  |nil=>rfl
  |cons r L ih=>rw[Ft,List.flatMap_cons,e58];unfold Ft at ih;rw[ih,e5w];simp;omega
 have hLn:(els l++els m).length=(els l).length+(els m).length:=e58;have hed:=b28 (els l) (els m);rw[<-hLn]at hr hn;generalize els l++els m=L at *;refine Bb hr L.length
  (λj=>[.top,.top,.top,.own 2 1 0 (2*j) (2*j),.top,.fz (L.map A8),.int .i64 L.length,.int .i64 j,.top,.top,.top])
  (λj=>[some [[A4 A8 l,A4 A8 m]],some [[A4 A8 l],[A4 A8 m]],some ((Ft (L.take j)).map cI)]) (λj=>True) ?_ ?_ trivial ?_ ?_
 ·rfl
 ·rfl
 ·intro j hj _;have hj':((j:Int)<(L.length:Int)):=om;have hx:=Dd hj;have hs:(Ft (L.take (j+1))).map cI=(Ft (L.take j)).map cI++[[.int .i64 (L.getD j default).a],[.int .i64 (L.getD j default).b]]:=by
   rw[hx];unfold Ft;rw[List.flatMap_append,e6o];rfl
  have hl1:((Ft (L.take j)).map cI).length=2*j:=by rw[e6i,hle,e67];omega
  rw[hs];have hrA:=B6 (Ft (L.take j))
  generalize (Ft (L.take j)).map cI=A at *
  simp(disch:=try exact dq)only[t0,seval,Ad,Af,Ah,e6c,hj',hl1,B8,A8,hrA,e6i,e74];rfl
 ·intro _;rw[e68];have hl2:=hle L;have h1:=b9l (Ft L) om;have h2:=c7w (Cr (Ft L)) (by rw[Q2];omega);rw[Q2]at h2;have hdl:=Vl (Cr (Ft L)) (Cr (Ft L)).length (e7y _);rw[e68,Q2]at hdl;rw[hed]at h2 hdl;rw[hl2]at h1 h2 hdl;generalize Ij (els l) (els m)=E at *;have k1:(E++List.replicate (2*L.length-E.length) 0).length=2*L.length:=by rw[e58,e4n];omega
  have k2:List.take E.length ((E++List.replicate (2*L.length-E.length) 0).map λn=>[PV.int .i64 n])=E.map λn=>[PV.int .i64 n]:=by
   rw[e6o,List.take_left' (by rw[e6i])]
  simp(disch:=try exact dq)only[KQ 154 rfl,KQ 155 rfl,t0,seval,if_pos,if_neg,Ad,Af,Ah,e6c,Ay,e7f,h1,h2,Kn,B6,Bh,Nj,e6i,hl2,Q2,k1,k2,Ln,e5y,e6h]
def Nu(so:Bool->Bool->Bool)(l m:List Rn)(E:List Int):Nat->List Rn
 |0=>[]
 |j+1=>if so (hasR l (E.getD j 0)) (hasR m (E.getD j 0))=true then Cl (Nu so l m E j) ⟨E.getD j 0,E.getD (j+1) 0⟩else Nu so l m E j
theorem b4w(so:Bool->Bool->Bool)(l m:List Rn):∀ (E:List Int) (out:List Rn) (j:Nat),j+1<E.length->K4 so l m (E.take (j+2)) out=(let o:=K4 so l m (E.take (j+1)) out;if so (hasR l (E.getD j 0)) (hasR m (E.getD j 0))=true then Cl o ⟨E.getD j 0,E.getD (j+1) 0⟩else o)
 |[],_,j,h=>by simp at h
 |[_],_,j,h=>by simp at h
 |a::b::e,out,0,_=>by simp[K4]
 |a::b::e,out,j+1,h=>by
   have ih:=b4w so l m (b::e) (if so (hasR l a) (hasR m a)=true then Cl out ⟨a,b⟩else out) j (by simpa using h);simp only[e4w,K4,List.getD_cons_succ]at ih ⊢;exact ih
theorem bn3(so:Bool->Bool->Bool)(l m:List Rn)(E:List Int):∀ j,j<E.length->Nu so l m E j=K4 so l m (E.take (j+1)) []
 |0,h=>by
   cases E with
   |nil=>simp at h
   |cons a e=>rfl
 |j+1,h=>by
   rw[Nu,b4w so l m E [] j h,bn3 so l m E j om]
theorem bn4(so:Bool->Bool->Bool)(l m:List Rn):Ra so l m=Nu so l m (Ij l m) ((Ij l m).length-1):=by
 unfold Ra;generalize Ij l m=E;cases E with
 |nil=>rfl
 |cons a e=>
   rw[bn3 so l m (a::e) _ (by simp)];rw[e4h (by simp)]
theorem an4(l:List Rn)(r:Rn):Cl l r≠[]:=by
 unfold Cl;split<;>simp;split<;>simp
theorem b21:∀ L:List Rn,(Ft L).length=2*L.length
 |[]=>rfl
 |r::L=>by
   have ih:=b21 L;unfold Ft at ih ⊢;rw[List.flatMap_cons,e58,ih,e5w];simp;omega
def cdV(E:CallF)(v:AV)(args:List AV)(H:AH):Option (AV×AH):=match v with
 |.fn (.func f) first cap=>E f (first++args++cap) H
 |_=>none
theorem ar2(E:CallF)(x:Opd)(args:List Opd)(V:Opd->AV)(H:AH):C7 E (.calld x args) V H=cdV E (V x) (args.map V) H:=qq
theorem an1(E:CallF)(f:FuncId)(a c args:List AV)(H:AH):cdV E (.fn (.func f) a c) args H=E f (a++args++c) H:=qq
theorem c98(a b:Int)(H:AH):K tab A7 A5 141 [.emp,.agg [.int .i64 a,.int .i64 b]] H=some (.own H.length 2 0 1 1,H++[some [[.int .i64 a,.int .i64 b]]]):=by
 rw[Wl rfl rfl (e2h a b) H];simp only[Nn,Sj,e6f,e6r,if_false,e7m,e7l,Nt,e75,e7k,e6h,ay5,ay4,Xa,X9,a3o]
theorem c97(l:List Rn)(r:Rn):(Cl l r).length<=l.length+1:=by
 by_cases h:l=[]
 ·subst h;simp[Cl]
 ·obtain⟨m,q,rfl⟩:∃ m q,l=m++[q]:=⟨l.dropLast,l.getLast h,(List.dropLast_concat_getLast h).symm⟩;rw[b31];split<;>simp
theorem b02(so:Bool->Bool->Bool)(l m:List Rn)(E:List Int):∀ j,(Nu so l m E j).length<=j
 |0=>e7y _
 |j+1=>by
   have ih:=b02 so l m E j;rw[Nu];split
   ·have:=c97 (Nu so l m E j) ⟨E.getD j 0,E.getD (j+1) 0⟩;omega
   ·omega
def Ax(w:List Rn):Sl Rn:=if w=[]then none else some w
theorem Dy(w:List Rn):els (Ax w)=w:=by
 unfold Ax;split
 ·rename_i h;rw[h];rfl
 ·rfl
def oV(k:Nat)(o:List Rn):AV:=if o=[]then .emp else .own k 2 0 o.length o.length
def oH(pre:AH)(n:Nat)(o:List Rn):AH:=if o=[]then pre else pre++List.replicate n none++[some (o.map Ey)]
theorem as1(f:FuncId)(so:Bool->Bool->Bool)(hso:∀ a b H,K tab A7 A5 f [.bool a,.bool b] H=some (.bool (so a b),H))(l m:Sl Rn)(hn:(els l).length+(els m).length<=10000)(H:AH) :
 K tab A7 A5 94 [.agg [A4 A8 l,A4 A8 m],.fn (.func f) [] []] H=some (A4 A8 (Ax (Ra so (els l) (els m))),H):=by
 refine Ae l94 rfl (by simp[Aa,Ab,Ak]) (Ak _ _) ?_ H;have he:=e0m l m hn;rw[bn4];unfold Ax
 simp(disch:=try exact dq)only[g94,t0,seval,if_pos,if_neg,Ad,Af,Ah,e6c,he];generalize hr:Ai _ _ _=r;have hEl:(Ij (els l) (els m)).length<=20000:=by
  rw[<-b28];have h1:=Vl (Cr (Ft (els l++els m))) _ (e7y _);rw[e68,Q2,b21,e58]at h1;omega
 generalize hE:Ij (els l) (els m)=E at *;refine Bb hr (E.length-1)
  (λj=>[.top,.fn (.func f) [] [],.ptr 0 0 0 1,.top,oV 25 (Nu so (els l) (els m) E j),.fz (E.map λn=>[.int .i64 n]),.int .i64 ((j:Int)+1),.top])
  (λj=>oH [some [[A4 A8 l,A4 A8 m]]] 24 (Nu so (els l) (els m) E j)) (λj=>True) ?_ ?_ trivial ?_ ?_
 ·rfl
 ·rfl
 ·intro j hj _;have hj':((j:Int)+1<(E.length:Int)):=om;have u1:((j:Int)+1).toNat=j+1:=om;have u0:((j:Int)+1-1).toNat=j:=om;have hh1:=aw4 l om (E.getD j 0);have hh2:=aw4 m om (E.getD j 0);have hs:=hso (hasR (els l) (E.getD j 0)) (hasR (els m) (E.getD j 0));rw[Nu];have hd:∀ i,E.getD i default=E.getD i 0:=λ_=>rfl;generalize hx:E.getD j 0=x at *;generalize hy:E.getD (j+1) 0=y at *;have hol:=b02 so (els l) (els m) E j;generalize Nu so (els l) (els m) E j=o at *;cases hb:so (hasR (els l) x) (hasR (els m) x)with
  |false=>
    rw[hb]at hs;rw[if_neg e5f];by_cases ho:o=[]
    ·subst ho;have v1:oV 25 []=.emp:=rfl;have v2:oH [some [[A4 A8 l,A4 A8 m]]] 24 []=[some [[A4 A8 l,A4 A8 m]]]:=rfl;rw[v1,v2]
     simp(disch:=try exact dq)only[t0,seval,Ad,Af,Ah,e6c,hj',u1,u0,hh1,hh2,hs,hd,hx,hy,ar2,an1,e6l,e6k,B8,e6i,e74];rfl
    ·have v1:oV 25 o=.own 25 2 0 o.length o.length:=if_neg ho;have v2:oH [some [[A4 A8 l,A4 A8 m]]] 24 o=[some [[A4 A8 l,A4 A8 m]],none,none,none,none,none,none,none,none,none,none,none,none,none,none,none,none,none,none,none,none,none,none,none,none,some (o.map Ey)]:=(by unfold oH;rw[if_neg ho];rfl);rw[v1,v2]
     simp(disch:=try exact dq)only[t0,seval,Ad,Af,Ah,e6c,hj',u1,u0,hh1,hh2,hs,hd,hx,hy,ar2,an1,e6l,e6k,B8,e6i,e74,Kp];rfl
  |true=>
    rw[hb]at hs;rw[if_pos rfl];have w1:oV 25 (Cl o ⟨x,y⟩)=.own 25 2 0 (Cl o ⟨x,y⟩).length (Cl o ⟨x,y⟩).length:=if_neg (an4 _ _);have w2:oH [some [[A4 A8 l,A4 A8 m]]] 24 (Cl o ⟨x,y⟩)=[some [[A4 A8 l,A4 A8 m]],none,none,none,none,none,none,none,none,none,none,none,none,none,none,none,none,none,none,none,none,none,none,none,none,some ((Cl o ⟨x,y⟩).map Ey)]:=(by unfold oH;rw[if_neg (an4 _ _)];rfl);rw[w1,w2];by_cases ho:o=[]
    ·subst ho;have hbe:=c98 x y;have v1:oV 25 []=.emp:=rfl;have v2:oH [some [[A4 A8 l,A4 A8 m]]] 24 []=[some [[A4 A8 l,A4 A8 m]]]:=rfl;rw[v1,v2,show Cl [] (⟨x,y⟩:Rn)=[⟨x,y⟩]from rfl]
     simp(disch:=try exact dq)only[t0,seval,Ad,Af,Ah,e6c,hbe,hj',u1,u0,hh1,hh2,hs,hd,hx,hy,ar2,an1,e6l,e6k,B8,e6i,e74,Kp];exact⟨rfl,rfl⟩
    ·have hlen:o.length<=1000000:=om;have hbo:=c96 o ho hlen ⟨x,y⟩;have v1:oV 25 o=.own 25 2 0 o.length o.length:=if_neg ho;have v2:oH [some [[A4 A8 l,A4 A8 m]]] 24 o=[some [[A4 A8 l,A4 A8 m]],none,none,none,none,none,none,none,none,none,none,none,none,none,none,none,none,none,none,none,none,none,none,none,none,some (o.map Ey)]:=(by unfold oH;rw[if_neg ho];rfl);rw[v1,v2]
     simp(disch:=try exact dq)only[KQ 141 rfl,t0,seval,if_pos,if_neg,Ad,Af,Ah,e6c,Ay,hbo,hj',u1,u0,hh1,hh2,hs,hd,hx,hy,ar2,an1,e6l,e6k,B8,e6i,e74,Kp,Gy];rfl
 ·intro _;generalize Nu so (els l) (els m) E (E.length-1)=o at *;have ub:((E.length-1:Nat):Int)+1=(if E.length=0 then 1 else(E.length:Int)):=by split<;>omega
  by_cases ho:o=[]
  ·subst ho;have v1:oV 25 []=.emp:=rfl;have v2:oH [some [[A4 A8 l,A4 A8 m]]] 24 []=[some [[A4 A8 l,A4 A8 m]]]:=rfl;rw[v1,v2]
   simp(disch:=try exact dq)only[t0,seval,Ad,Af,Ah,e6c,e6i,Ln,e5y,e6h]
  ·have v1:oV 25 o=.own 25 2 0 o.length o.length:=if_neg ho;have v2:oH [some [[A4 A8 l,A4 A8 m]]] 24 o=[some [[A4 A8 l,A4 A8 m]],none,none,none,none,none,none,none,none,none,none,none,none,none,none,none,none,none,none,none,none,none,none,none,none,some (o.map Ey)]:=(by unfold oH;rw[if_neg ho];rfl);rw[v1,v2]
   simp(disch:=try exact dq)only[t0,seval,Ad,Af,Ah,e6c,e6i,Kp,Gy,au1,b1d,Ln,e5y,e6h]
theorem d18(a b:Bool)(H:AH):K tab A7 A5 138 [.bool a,.bool b] H=some (.bool (a||b),H):=by
 refine Ae dc3 rfl rfl rfl ?_ H;cases a<;>cases b
 all_goals simp(disch:=try exact dq)only[ai4,t0,seval,if_pos,if_neg,Ad,Af,Ah,e6c]
theorem d17(l m:Sl Rn)(hn:(els l).length+(els m).length<=10000)(H:AH):K tab A7 A5 93 [A4 A8 l,A4 A8 m] H=some (A4 A8 (Ax (Pb (els l) (els m))),H):=by
 refine Ae l93 rfl (by simp[Aa,Ab,Ak]) (Ak _ _) ?_ H;have h:=as1 138 (λa b=>a||b) d18 l m hn
 simp(disch:=try exact dq)only[g93,t0,seval,if_pos,if_neg,Ad,Af,Ah,e6c,h];rfl
theorem d15(a b:Bool)(H:AH):K tab A7 A5 95 [.bool a,.bool b] H=some (.bool (a&&!b),H):=by
 refine Ae l95 rfl rfl rfl ?_ H;cases a<;>cases b
 all_goals simp(disch:=try exact dq)only[g95,t0,seval,if_pos,if_neg,Ad,Af,Ah,e6c]
theorem Oc(l m:Sl Rn)(hn:(els l).length+(els m).length<=10000)(H:AH):K tab A7 A5 65 [A4 A8 l,A4 A8 m] H=some (A4 A8 (Ax (C6 (els l) (els m))),H):=by
 refine Ae l65 rfl (by simp[Aa,Ab,Ak]) (Ak _ _) ?_ H;have h:=as1 95 (λa b=>a&&!b) d15 l m hn
 simp(disch:=try exact dq)only[g65,t0,seval,if_pos,if_neg,Ad,Af,Ah,e6c,h];rfl
theorem d16(a b:Bool)(H:AH):K tab A7 A5 137 [.bool a,.bool b] H=some (.bool (a&&b),H):=by
 refine Ae dc4 rfl rfl rfl ?_ H;cases a<;>cases b
 all_goals simp(disch:=try exact dq)only[ai5,t0,seval,if_pos,if_neg,Ad,Af,Ah,e6c]
theorem b9g(l m:Sl Rn)(hn:(els l).length+(els m).length<=10000)(H:AH):K tab A7 A5 92 [A4 A8 l,A4 A8 m] H=some (A4 A8 (Ax (Tl (els l) (els m))),H):=by
 refine Ae l92 rfl (by simp[Aa,Ab,Ak]) (Ak _ _) ?_ H;have h:=as1 137 (λa b=>a&&b) d16 l m hn
 simp(disch:=try exact dq)only[g92,t0,seval,if_pos,if_neg,Ad,Af,Ah,e6c,h];rfl
end Go.Proofs.YtbngojdlgfhacaaGreatDoor.Abs
