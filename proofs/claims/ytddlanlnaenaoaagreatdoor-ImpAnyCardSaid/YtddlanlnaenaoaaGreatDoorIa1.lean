/-
  Part 1 of the proof: no condition. (Parts of the abstract layer, of the program's functions in its form, and of their contracts.)
-/
import Derived.Control
import Derived.IntWalk
import Derived.KernelRfl
import Derived.Laws.AppendOwn
import Derived.Laws.BitsLemmas
import Derived.Laws.Entries
import Derived.Laws.Sem
import Derived.Orders
import Derived.WalkKit
import Derived.Laws.Tables
import Derived.Laws.IdiomStrings
import Derived.Deep.LoopGhost
import Derived.Below
set_option maxRecDepth 100000
set_option maxHeartbeats 8000000
set_option linter.unusedSimpArgs false
set_option linter.unusedVariables false
set_option linter.unusedSectionVars false
set_option linter.defProp false
namespace Go.Proofs.YtddlanlnaenaoaaGreatDoor.Abs
theorem dq{p:Prop}(h:p:=by first|omega|decide +kernel|(simp only[List.length_cons,List.length_nil];omega)|(apply And.intro<;>first|decide|(simp;done))|fail):p:=h
theorem dz{p:Prop}(h:p:=by first|omega|decide +kernel|fail):p:=h
theorem tA{p q:Prop}(a:p)(b:q):p/\q:=⟨a,b⟩
theorem tB{p q r s t u v w x:Prop}(a:p)(b:q)(c:r)(d:s)(e:t)(f:u)(g:v)(h:w)(i:x):p/\q/\r/\s/\t/\u/\v/\w/\x:=⟨a,b,c,d,e,f,g,h,i⟩
theorem sm{p:Prop}(h:p:=by simp):p:=h
theorem dc{p:Prop}(h:p:=by decide):p:=h
theorem qq{α:Sort _}{a:α}:a=a:=rfl
theorem itP:∀ {α:Type} {c:Prop} [Decidable c] {a b:α},c->(if c then a else b)=a:=λh=>if_pos h
theorem itN:∀ {α:Type} {c:Prop} [Decidable c] {a b:α},¬ c->(if c then a else b)=b:=λh=>if_neg h
theorem cr7:∀ {α β:Type} (f:α->Option β),(none:Option α).bind f=none:=λ_=>rfl
theorem kk{p:Prop}(h:p:=by kernel_rfl):p:=h
theorem om{p:Prop}(h:p:=by omega):p:=h
def ew5:=@Array.all_eq_true_iff_forall_mem.{0}
def ew6:=@List.replicate_append_replicate.{0}
def ew7:=@Int.mul_le_mul_of_nonneg_right
def ew8:=@List.getElem!_eq_getElem?_getD.{0}
def ew9:=@Array.eq_empty_of_size_eq_zero.{0}
def ex0:=@List.getLast?_eq_some_getLast.{0}
def ex1:=@Nat.shiftLeft_add_eq_or_of_lt
def ex2:=@Option.ite_none_right_eq_some.{0}
def ex3:=@Array.getElem?_setIfInBounds.{0}
def ex4:=@List.dropLast_concat_getLast.{0}
def ex5:=@Array.getD_eq_getD_getElem?.{0}
def ex6:=@List.getElem?_append_right.{0}
def ex7:=@Array.getElem?_append_left.{0}
def ex8:=@Nat.add_mul_mod_self_right
def ex9:=@List.getD_eq_getElem?_getD.{0}
def ey0:=@Array.getElem?_eq_some_iff.{0}
def ey1:=@Int.fdiv_eq_ediv_of_nonneg
def ey2:=@Int.tdiv_eq_ediv_of_nonneg
def ey3:=@Int.tmod_eq_emod_of_nonneg
def ey4:=@Array.getElem?_eq_getElem.{0}
def ey6:=@List.mem_or_eq_of_mem_set.{0}
def ey5:=@List.getElem?_append_left.{0}
def ey7:=@List.Sublist.append_right.{0}
def ey8:=@Classical.byContradiction
def ey9:=@List.drop_eq_getElem_cons.{0}
def ez0:=@List.pairwise_iff_getElem.{0}
def ez1:=@List.getLast?_eq_getElem?.{0}
def ez2:=@List.getElem?_eq_getElem.{0}
def ez3:=@List.getElem?_take_of_lt.{0}
def ez4:=@Option.isSome_iff_exists.{0}
def ez5:=@List.eq_of_mem_replicate.{0}
def ez6:=@Array.getElem?_replicate.{0}
def ez7:=@List.getElem?_cons_zero.{0}
def ez8:=@List.length_eq_zero_iff.{0}
def ez9:=@List.getElem?_cons_succ.{0}
def f00:=@List.getElem?_replicate.{0}
def f01:=@Option.bind_eq_some_iff.{0,0}
def f02:=@decide_eq_false_iff_not
def f03:=@List.flatMap_eq_nil_iff.{0,0}
def f04:=@List.getElem?_set_self.{0}
def f06:=@Array.getElem?_extract.{0}
def f07:=@List.length_eq_one_iff.{0}
def f05:=@Array.getElem?_eq_none.{0}
def f08:=@List.append_eq_nil_iff.{0}
def f09:=@Option.map_eq_some_iff.{0,0}
def f0a:=@List.take_of_length_le.{0}
def f0b:=@List.zipWith_cons_cons.{0,0,0}
def f0c:=@List.drop_of_length_le.{0}
def f0d:=@Nat.le_add_right_of_le
def f0e:=@List.getElem?_eq_none.{0}
def f0f:=@Array.getElem?_append.{0}
def f0g:=@List.getElem?_toArray.{0}
def f0h:=@List.mem_iff_getElem?.{0}
def f0i:=@Array.getElem?_toList.{0}
def f0j:=@List.length_replicate.{0}
def f0k:=@List.mem_append_right.{0}
def f0l:=@List.take_append_drop.{0}
def f0m:=@Bool.and_eq_false_iff
def f0n:=@List.length_singleton.{0}
def f0o:=@List.getElem?_append.{0}
def f0q:=@List.mem_of_getElem?.{0}
def f0r:=@Nat.mul_le_mul_right
def f0s:=@List.mem_of_mem_take.{0}
def f0t:=@List.mem_of_mem_drop.{0}
def f0u:=@Array.getElem?_range
def f0p:=@List.getElem?_set_ne.{0}
def f0v:=@List.mem_append_left.{0}
def f0w:=@List.replicate_succ'.{0}
def f0x:=@List.pairwise_append.{0}
def f0y:=@List.mem_cons_of_mem.{0}
def f0z:=@List.mem_iff_getElem.{0}
def f10:=@Nat.pow_le_pow_right
def f11:=@List.getElem_zipWith.{0,0,0}
def f12:=@List.take_succ_cons.{0}
def f13:=@List.replicate_succ.{0}
def f16:=@List.map_congr_left.{0,0}
def f17:=@List.getElem?_range
def f18:=@List.replicate_zero.{0}
def f19:=@List.drop_succ_cons.{0}
def f1a:=@UInt32.toNat_ofNat'
def f1b:=@List.getD_cons_succ.{0}
def f1c:=@List.flatten_append.{0}
def f1d:=@List.length_pos_iff.{0}
def f1e:=@Bool.decide_eq_true
def f1f:=@List.flatMap_append.{0,0}
def f1g:=@List.getD_cons_zero.{0}
def f1h:=@List.length_zipWith.{0,0,0}
def f1i:=@List.getElem_of_mem.{0}
def f1j:=@Array.ext_getElem?.{0}
def f1k:=@Bool.false_eq_true
def f1l:=@List.getElem?_drop.{0}
def f1m:=@Option.isSome_none.{0}
def f1n:=@Option.isSome_some.{0}
def f1o:=@Nat.eq_zero_or_pos
def f1p:=@Array.getElem?_map.{0,0}
def f1q:=@List.length_append.{0}
def f1r:=@Nat.lt_of_lt_of_le
def f1s:=@Array.any_eq_true'.{0}
def f1t:=@List.mem_singleton.{0}
def f1u:=@List.mem_cons_self.{0}
def f1v:=@List.getElem_range
def f1w:=@List.getElem?_take.{0}
def f1y:=@List.set_cons_succ.{0}
def f1z:=@List.set_cons_zero.{0}
def f2a:=@List.pairwise_cons.{0}
def f2b:=@Bool.not_eq_false'
def f2c:=@BitVec.toNat_ofInt
def f1x:=@List.map_replicate.{0,0}
def f2d:=@Bool.false_ne_true
def f2e:=@List.getElem?_set.{0}
def f2f:=@decide_eq_true_eq
def f2g:=@Nat.lt_trichotomy
def f2h:=@Option.some.injEq.{0}
def f2i:=@List.getElem?_map.{0,0}
def f2j:=@not_true_eq_false
def f2k:=@List.flatten_cons.{0}
def f2l:=@Array.size_append.{0}
def f2m:=@List.nodup_append.{0}
def f2n:=@List.mem_range'_1
def f2o:=@Bool.not_eq_true'
def f2p:=@List.append_assoc.{0}
def f2q:=@List.pairwise_map.{0,0}
def f2r:=@List.take_add_one.{0}
def f2s:=@Bool.eq_false_iff
def f2t:=@List.flatMap_cons.{0,0}
def f2u:=@not_false_eq_true
def f2v:=@Int.toNat_natCast
def f2w:=@of_decide_eq_true
def f2x:=@List.any_eq_false.{0}
def f2y:=@List.foldl_append.{0,0}
def f2z:=@List.length_range
def f30:=@Nat.le_succ_of_le
def f31:=@Option.getD_some.{0}
def f32:=@Bool.and_eq_true
def f33:=@List.length_cons.{0}
def f34:=@List.map_toArray.{0,0}
def f35:=@List.all_eq_true.{0}
def f36:=@Option.bind_some.{0,0}
def f37:=@List.range'_succ
def f38:=@List.length_drop.{0}
def f39:=@Nat.mod_eq_of_lt
def f3a:=@Option.join_some.{0}
def f3b:=@List.mem_flatMap.{0,0}
def f3c:=@List.not_mem_nil.{0}
def f3d:=@List.cons_append.{0}
def f3e:=@List.getElem_mem.{0}
def f3f:=@Nat.lt_succ_self
def f3g:=@List.nodup_range
def f3i:=@List.flatten_nil.{0}
def f3j:=@List.any_eq_true.{0}
def f3k:=@decide_eq_decide
def f3l:=@List.length_take.{0}
def f3m:=@List.take_length.{0}
def f3n:=@List.drop_length.{0}
def f3o:=@Nat.shiftLeft_eq
def f3p:=@Bool.not_eq_true
def f3q:=@Go.IntKind.wrap_u32
def f3r:=@Option.getD_none.{0}
def f3s:=@Option.bind_none.{0,0}
def f3t:=@List.range'_zero
def f3u:=@Int.natCast_zero
def f3v:=@List.length_set.{0}
def f3w:=@List.length_nil.{0}
def f3x:=@Option.map_none.{0,0}
def f3y:=@Option.map_some.{0,0}
def f3z:=@List.length_map.{0,0}
def f40:=@List.foldl_cons.{0,0}
def f41:=@List.nil_append.{0}
def f42:=@List.append_nil.{0}
def f43:=@List.mem_append.{0}
def f44:=@Bool.or_eq_true
def f45:=@List.nodup_cons.{0}
def f4a:=@Option.some.inj.{0}
def f4b:=@List.cons.injEq.{0}
def f4c:=@List.map_append.{0,0}
def f4d:=@Bool.eq_iff_iff
def f4e:=@decide_eq_false
def f4f:=@Nat.not_lt_zero
def f4g:=@List.range_succ
def f4h:=@Nat.min_eq_left
def f4i:=@Bool.decide_and
def f4j:=@List.set_append.{0}
def f4k:=@List.all_append.{0}
def f4l:=@Int.natCast_add
def f4m:=@Go.run_underlying
def f4n:=@Bool.and_assoc
def f4o:=@List.drop_drop.{0}
def f4p:=@List.drop_zero.{0}
def f4q:=@List.mem_range
def f4r:=@List.mapM_cons.{0,0,0}
def f4s:=@Bool.not_false
def f4t:=@Go.size_zeroCells
def f4u:=@List.take_zero.{0}
def f4v:=@List.nodup_nil.{0}
def f4w:=@Bool.and_false
def f4x:=@Bool.false_and
def f4y:=@Bool.bne_false
def f4z:=@Int.pow_nonneg
def f51:=@decide_eq_true
def f52:=@Go.IntWalk.i64_in
def f53:=@Go.IntWalk.u32_in
def f54:=@Nat.mul_le_mul
def f55:=@List.Perm.refl.{0}
def f56:=@Int.ofNat_tdiv
def f58:=@Int.ofNat_tmod
def f59:=@List.foldl_nil.{0,0}
def f5a:=@Int.toNat_zero
def f5b:=@List.map_cons.{0,0}
def f5c:=@Nat.add_assoc
def f5d:=@Bool.not_true
def f5e:=@Bool.true_and
def f5f:=@Bool.and_true
def f5g:=@List.map_take.{0,0}
def f5h:=@List.mem_cons.{0}
def f5i:=@Go.getD_set_true
def f5j:=@Prod.mk.injEq.{0,0}
def f5l:=@List.sum_cons.{0}
def f5m:=@Bool.and_self
def f5k:=@List.all_cons.{0}
def f5n:=@Bool.or_false
def f5o:=@Bool.false_or
def f5p:=@Bool.bne_true
def f5q:=@Int.lt_irrefl
def f5r:=@List.any_cons.{0}
def f5s:=@false_implies
def f5t:=@List.map_drop.{0,0}
def f5u:=@Nat.lt_or_ge
def f5v:=@Go.Sem.run_bind
def f5w:=@Go.Sem.run_pure
def f5x:=@List.map_nil.{0,0}
def f5y:=@Nat.add_zero
def f5z:=@Nat.zero_mul
def f60:=@Nat.sub_zero
def f61:=@Nat.le_trans
def f62:=@List.mem_map.{0,0}
def f63:=@Nat.succ_mul
def f65:=@Nat.add_comm
def f66:=@Nat.zero_add
def f67:=@Nat.le_of_eq
def f68:=@Int.le_trans
def f6a:=@List.map_map.{0,0,0}
def f6b:=@decide_false
def f6c:=@List.all_nil.{0}
def f6d:=@Bool.or_true
def f6e:=@Bool.true_or
def f6f:=@List.sum_nil.{0}
def f6g:=@Nat.sub_self
def f6h:=@Int.lt_or_le
def f6i:=@List.map_set.{0,0}
def f6j:=@List.set_set.{0}
def f6k:=@Int.add_zero
def f6l:=@true_implies
def f6m:=@Nat.zero_le
def f6n:=@Nat.add_mul
def f6o:=@Nat.le_refl
def f6p:=@Nat.mul_one
def f6q:=@Go.getD_set_ne
def f6r:=@List.map_id.{0}
def f6s:=@decide_true
def f6t:=@Nat.mul_add
def f6u:=@Int.le_refl
def f6v:=@Array.ext'.{0}
def f6w:=@Nat.mod_lt
def f6x:=@Go.mem_ready
def f6y:=@false_and
def f6z:=@or_false
def f70:=@and_true
def f73:=@true_and
def f74:=@and_self
def f75:=@Go.wp_mono
abbrev LI:=List Int
abbrev lN:=List Nat
abbrev df{α:Type}[Inhabited α]:α:=default
def iP:=@if_pos.{1}
def iN:=@if_neg.{1}
inductive PV where
 |top
 |bool (b:Bool)
 |int (k:IntKind) (n:Int)
 |str (s:List UInt8)
 |nilp
 |emp
 |fz (es:List (List PV))
 |fptr (cs:List PV)
 |nilfn
 deriving Inhabited
abbrev PV.N(x:Int):PV:=.int .i64 x
abbrev PV.M(x:Int):PV:=.int .u32 x
abbrev LP:=List PV
inductive AV where
 |top
 |bool (b:Bool)
 |int (k:IntKind) (n:Int)
 |str (s:List UInt8)
 |agg (cs:List AV)
 |tuple (vs:List AV)
 |nilp
 |emp
 |fz (es:List (List PV))
 |fptr (cs:List PV)
 |own (r sz off len tot:Nat)
 |ptr (r i j tot:Nat)
 |fn (f:Fn) (first cap:List AV)
 |nilfn
 deriving Inhabited
abbrev AV.N(x:Int):AV:=.int .i64 x
abbrev AV.M(x:Int):AV:=.int .u32 x
abbrev U:AV:=.top
abbrev z8:List AV:=[.int .u8 0]
abbrev LA:=List AV
def emb:PV->AV
 |.top=>.top
 |.bool b=>.bool b
 |.int k n=>.int k n
 |.str s=>.str s
 |.nilp=>.nilp
 |.emp=>.emp
 |.fz es=>.fz es
 |.fptr cs=>.fptr cs
 |.nilfn=>.nilfn
def Dr:AV->Option PV
 |.top=>some .top
 |.bool b=>some (.bool b)
 |.int k n=>some (.int k n)
 |.str s=>some (.str s)
 |.nilp=>some .nilp
 |.emp=>some .emp
 |.fz es=>some (.fz es)
 |.fptr cs=>some (.fptr cs)
 |.nilfn=>some .nilfn
 |_=>none
structure Own where
 b:Nat
 sz:Nat
 n:Nat
 t:Nat
structure Env where
 F:Nat->Option Obj
 X:Nat->Option Obj
 ρ:Nat->Option Own
 os:Os
 tape:Nat->Question->Nat
 output:Array (Nat×ByteArray)
inductive RepP (F:Nat->Option Obj):PV->Value->Prop
 |top (v) (h1:v.oneCell'=true):RepP F .top v
 |bool (b):RepP F (.bool b) (.bool b)
 |int (k n):RepP F (.int k n) (.int k n)
 |str (s:List UInt8):RepP F (.str s) (.string ⟨s.toArray⟩)
 |nilp:RepP F .nilp (.pointer none)
 |emp (a):RepP F .emp (.slice a 0 0)
 |nilfn:RepP F .nilfn .nilFunc
 |fz0 (a cap):RepP F (.fz []) (.slice a 0 cap)
 |fz (es:List (List PV)) (b off cap sz:Nat) (cells:Array Value) (t:TypeId) (q:Nat×Nat) (hF:F b=some (.cells cells t q)) (hcap:es.length<=cap)
  (hsz:∀ e∈es,e.length=sz) (hin:off+es.length*sz<=cells.size)
  (hc:∀ (i:Nat) e (k:Nat) c v,es[i]?=some e->e[k]?=some c->cells[off+(i*sz+k)]?=some v->RepP F c v):RepP F (.fz es) (.slice (some ⟨b,off,none⟩) es.length cap)
 |fptr (cs:List PV) (b off:Nat) (cells:Array Value) (t:TypeId) (q:Nat×Nat) (hF:F b=some (.cells cells t q))
  (hin:off+cs.length<=cells.size)
  (hc:∀ (k:Nat) c v,cs[k]?=some c->cells[off+k]?=some v->RepP F c v):RepP F (.fptr cs) (.pointer (some ⟨b,off,none⟩))
inductive Rep (E:Env):AV->Value->Prop
 |top (v):Rep E .top v
 |pure {x:PV} {v} (h:RepP E.F x v):Rep E (emb x) v
 |agg (cs:List AV) (vs:Array Value) (hl:cs.length=vs.size) (h:∀ (i:Nat) c v,cs[i]?=some c->vs[i]?=some v->Rep E c v):Rep E (.agg cs) (.agg vs)
 |tuple (cs:List AV) (vs:Array Value) (hl:cs.length=vs.size) (h:∀ (i:Nat) c v,cs[i]?=some c->vs[i]?=some v->Rep E c v):Rep E (.tuple cs) (.tuple vs)
 |fn (f:Fn) (first cap:List AV) (vs ws:Array Value) (hl:first.length=vs.size) (hm:cap.length=ws.size)
  (h:∀ (i:Nat) c v,first[i]?=some c->vs[i]?=some v->Rep E c v) (h':∀ (i:Nat) c v,cap[i]?=some c->ws[i]?=some v->Rep E c v):Rep E (.fn f first cap) (.func f vs ws)
 |own0 (r sz a):Rep E (.own r sz 0 0 0) (.slice a 0 0)
 |own (r sz off len tot cap:Nat) (x:Own) (hρ:E.ρ r=some x) (htot:x.t=tot) (hsz:x.sz=sz) (hlen:off+len<=tot) (hcap:len<=cap) (hc:tot<=off+cap) (hn:(off+cap)*x.sz<=x.n) :
  Rep E (.own r sz off len tot) (.slice (some ⟨x.b,off*x.sz,none⟩) len cap)
 |ptr (r i j tot:Nat) (x:Own) (hρ:E.ρ r=some x) (htot:x.t=tot):Rep E (.ptr r i j tot) (.pointer (some ⟨x.b,i*x.sz+j,none⟩))
 |stale_own (r sz off len tot v) (x:Own) (hρ:E.ρ r=some x) (htot:tot<x.t) (h1:v.oneCell'=true):Rep E (.own r sz off len tot) v
 |stale_ptr (r i j tot v) (x:Own) (hρ:E.ρ r=some x) (htot:tot<x.t) (h1:v.oneCell'=true):Rep E (.ptr r i j tot) v
abbrev AObj:=List LA
abbrev AH:=List (Option AObj)
def AH.at(H:AH)(r:Nat):Option AObj:=(H[r]?).join
structure Lies(E:Env)(w:World)(o:AObj)(x:Own):Prop where
 t:x.t=o.length
 pos:0<x.sz
 out:E.F x.b=none/\E.X x.b=none
 blk:∃ (cells:Array Value) (t:TypeId) (q:Nat×Nat),w.heap[x.b]?=some (.cells cells t q)/\cells.size=x.n/\(q=(0,0)\/x.n<=q.1)/\(∀ (i:Nat) v,cells[i]?=some v->v.oneCell'=true)/\
  ∀ (i:Nat) e (k:Nat) c v,o[i]?=some e->e[k]?=some c->cells[i*x.sz+k]?=some v->Rep E c v
 sz:∀ e∈o,e.length=x.sz
 fits:o.length*x.sz<=x.n
structure Sim(E:Env)(w:World)(H:AH):Prop where
 os:w.os=E.os
 tape:w.tape=E.tape
 output:w.output=E.output
 frz:∀ b o,E.F b=some o\/E.X b=some o->w.heap[b]?=some o
 disj:∀ b o,E.F b=some o->E.X b=none
 dom:∀ r x,E.ρ r=some x->r<H.length
 obj:∀ r o,H.at r=some o->(o=[]/\E.ρ r=none)\/∃ x,E.ρ r=some x/\Lies E w o x
 inj:∀ r r' o o' x x',H.at r=some o->H.at r'=some o'->E.ρ r=some x->E.ρ r'=some x'->x.b=x'.b->r=r'
structure Le(E E':Env):Prop where
 F:∀ b o,E.F b=some o->E'.F b=some o
 ρ:∀ r x,E.ρ r=some x->∃ x',E'.ρ r=some x'/\(x'=x\/x.t<x'.t)
 X:E'.X=E.X
 os:E'.os=E.os
 tape:E'.tape=E.tape
 output:E'.output=E.output
def Le.refl(E:Env):Le E E:=⟨λ_ _ h=>h,λ_ x h=>⟨x,h,.inl rfl⟩,rfl,rfl,rfl,rfl⟩
def RepP.mono{F i:Nat->Option Obj}(j:∀ b o,F b=some o->i b=some o){x:PV}{v:Value}(h:RepP F x v):RepP i x v:=by
 induction h with
 |top v d=>exact .top v d
 |bool b=>exact .bool b
 |int k n=>exact .int k n
 |str s=>exact .str s
 |nilp=>exact .nilp
 |emp a=>exact .emp a
 |nilfn=>exact .nilfn
 |fz0 a cap=>exact .fz0 a cap
 |fz m b off cap sz cells t q d e f c _ g=>exact .fz m b off cap sz cells t q (j _ _ d) e f c g
 |fptr l b off cells t q d c _ g=>exact .fptr l b off cells t q (j _ _ d) c g
def RepP.one{F:Nat->Option Obj}{x:PV}{v:Value}(h:RepP F x v):v.oneCell'=true:=by
 cases h<;>first|rfl|assumption
def Rep.mono{E u:Env}(g:Le E u){x:AV}{v:Value}(h:Rep E x v):Rep u x v:=by
 induction h with
 |top v=>exact .top v
 |pure h=>exact .pure (h.mono g.F)
 |agg p o l _ n=>exact .agg p o l n
 |tuple p o l _ n=>exact .tuple p o l n
 |fn f first cap o A l y _ _ n t=>exact .fn f first cap o A l y n t
 |own0 r sz a=>exact .own0 r sz a
 |own r sz off len tot cap x d c s m k w z=>
   have⟨x',b,e⟩:=g.ρ r x d;rcases e with rfl|e
   ·exact .own r sz off len tot cap x' b c s m k w z
   ·exact .stale_own r sz off len tot _ x' b om rfl
 |ptr r i j tot x d c=>
   have⟨x',b,e⟩:=g.ρ r x d;rcases e with rfl|e
   ·exact .ptr r i j tot x' b c
   ·exact .stale_ptr r i j tot _ x' b om rfl
 |stale_own r sz off len tot v x d c q=>
   have⟨x',b,e⟩:=g.ρ r x d;exact .stale_own r sz off len tot v x' b (by rcases e with rfl|e<;>omega) q
 |stale_ptr r i j tot v x d c q=>
   have⟨x',b,e⟩:=g.ρ r x d;exact .stale_ptr r i j tot v x' b (by rcases e with rfl|e<;>omega) q
section
section inv
variable {E:Env} {v:Value}
theorem Se{b}(h:Rep E (.bool b) v):v=.bool b:=by
 generalize a:AV.bool b=x at h;cases h<;>try cases a
 case pure y h=>cases y<;>simp only[emb]at a<;>cases a<;>cases h;rfl
theorem Fm{k n}(h:Rep E (.int k n) v):v=.int k n:=by
 generalize a:AV.int k n=x at h;cases h<;>try cases a
 case pure y h=>cases y<;>simp only[emb]at a<;>cases a<;>cases h;rfl
theorem Lo{s}(h:Rep E (.str s) v):v=.string ⟨s.toArray⟩:=by
 generalize a:AV.str s=x at h;cases h<;>try cases a
 case pure y h=>cases y<;>simp only[emb]at a<;>cases a<;>cases h;rfl
theorem Jc(h:Rep E .emp v):∃ a,v=.slice a 0 0:=by
 generalize b:AV.emp=x at h;cases h<;>try cases b
 case pure y h=>cases y<;>simp only[emb]at b<;>cases b<;>cases h;exact⟨_,rfl⟩
theorem d93{es}(h:Rep E (.fz es) v):RepP E.F (.fz es) v:=by
 generalize a:AV.fz es=x at h;cases h<;>try cases a
 case pure y h=>cases y<;>simp only[emb]at a<;>cases a<;>exact h
theorem bs7{cs}(h:Rep E (.fptr cs) v):RepP E.F (.fptr cs) v:=by
 generalize a:AV.fptr cs=x at h;cases h<;>try cases a
 case pure y h=>cases y<;>simp only[emb]at a<;>cases a<;>exact h
theorem a1q{cs}(h:Rep E (.agg cs) v):∃ b:Array Value,v=.agg b/\cs.length=b.size/\∀ (i:Nat) c u,cs[i]?=some c->b[i]?=some u->Rep E c u:=by
 generalize a:AV.agg cs=x at h;cases h<;>try cases a
 case pure y h=>cases y<;>simp only[emb]at a<;>cases a
 grind
theorem bs5{cs}(h:Rep E (.tuple cs) v):∃ b:Array Value,v=.tuple b/\cs.length=b.size/\∀ (i:Nat) c u,cs[i]?=some c->b[i]?=some u->Rep E c u:=by
 generalize a:AV.tuple cs=x at h;cases h<;>try cases a
 case pure y h=>cases y<;>simp only[emb]at a<;>cases a
 grind
theorem b2c{f first cap}(h:Rep E (.fn f first cap) v):∃ a b:Array Value,v=.func f a b/\first.length=a.size/\cap.length=b.size/\
 (∀ (i:Nat) c u,first[i]?=some c->a[i]?=some u->Rep E c u)/\∀ (i:Nat) c u,cap[i]?=some c->b[i]?=some u->Rep E c u:=by
 generalize d:AV.fn f first cap=x at h
 cases h<;>try cases d
 case pure y h=>cases y<;>simp only[emb]at d<;>cases d
 case fn a b _ _ _ _=>exact⟨a,b,rfl,by assumption,by assumption,by assumption,by assumption⟩
theorem Kh{r sz off len tot}(h:Rep E (.own r sz off len tot) v)(e:∀ x,E.ρ r=some x->x.t=tot) :
 (∃ a,off=0/\len=0/\tot=0/\v=.slice a 0 0)\/
 ∃ (x:Own) (cap:Nat),E.ρ r=some x/\x.sz=sz/\off+len<=tot/\len<=cap/\tot<=off+cap/\(off+cap)*x.sz<=x.n/\v=.slice (some ⟨x.b,off*x.sz,none⟩) len cap:=by
 generalize c:AV.own r sz off len tot=x at h;cases h<;>try cases c
 case pure y h=>cases y<;>simp only[emb]at c<;>cases c
 case own0 a=>exact .inl ⟨a,rfl,rfl,rfl,rfl⟩
 case own cap x _ _ _ _ _ _ _=>exact .inr ⟨x,cap,by assumption,by assumption,by assumption,by assumption,by assumption,by assumption,rfl⟩
 case stale_own=>rename_i x f d;have:=e _ f;omega
theorem Z8{r i j tot}(h:Rep E (.ptr r i j tot) v)(e:∀ x,E.ρ r=some x->x.t=tot) :
 ∃ x:Own,E.ρ r=some x/\v=.pointer (some ⟨x.b,i*x.sz+j,none⟩):=by
 generalize c:AV.ptr r i j tot=x at h;cases h<;>try cases c
 case pure y h=>cases y<;>simp only[emb]at c<;>cases c
 case ptr x d a=>exact⟨x,d,rfl⟩
 case stale_ptr=>rename_i x d a;have:=e _ d;omega
theorem b2b{cs}(h:Rep E (.fptr cs) v):∃ b off cells t q,v=.pointer (some ⟨b,off,none⟩)/\E.F b=some (.cells cells t q)/\off+cs.length<=cells.size/\
 ∀ (k:Nat) c u,cs[k]?=some c->cells[off+k]?=some u->RepP E.F c u:=by
 cases bs7 h with
 |fptr _ b off cells t q d a e=>exact⟨b,off,cells,t,q,rfl,d,a,e⟩
theorem Qu{es}(h:Rep E (.fz es) v):∃ a cap,v=.slice a es.length cap/\es.length<=cap/\(es≠[]->∃ b off sz cells t q,a=some ⟨b,off,none⟩/\E.F b=some (.cells cells t q)/\ (∀ e∈es,e.length=sz)/\off+es.length*sz<=cells.size/\∀ (i:Nat) e (k:Nat) c u,es[i]?=some e->e[k]?=some c->cells[off+(i*sz+k)]?=some u->RepP E.F c u):=by
 cases d93 h with
 |fz0 a cap=>exact⟨a,cap,rfl,f6m _,λh=>absurd rfl h⟩
 |fz _ b off cap sz cells t q j d g f l=>exact⟨_,cap,rfl,d,λ_=>⟨b,off,sz,cells,t,q,rfl,j,g,f,l⟩⟩
theorem bs6{x:AV}{p:PV}(a:Dr x=some p):x=emb p:=by
 cases x<;>simp only[Dr]at a<;>cases a<;>rfl
end inv
def RepL(E:Env)(b:LA)(a:Array Value):Prop:=b.length=a.size/\∀ (i:Nat) c u,b[i]?=some c->a[i]?=some u->Rep E c u
theorem RepL.mono{E a:Env}(b:Le E a){xs vs}(h:RepL E xs vs):RepL a xs vs:=⟨h.1,λi c u d e=>(h.2 i c u d e).mono b⟩
theorem RepL.set{E:Env}{f:LA}{e:Array Value}(h:RepL E f e){x:AV}{v:Value}(k:Rep E x v)(d:Nat):RepL E (f.set d x) (e.setIfInBounds d v):=by
 refine⟨by simp[h.1],λi c u a b=>?_⟩;have j:=h.1;rw[f2e]at a;rw[ex3]at b;by_cases g:d=i
 ·grind
 ·rw[iN g]at a b;exact h.2 i c u a b
theorem RepL.get{E:Env}{b:LA}{a:Array Value}(h:RepL E b a)(i:Nat)(u:Value):Rep E ((b[i]?).getD .top) (a.getD i u):=by
 rcases f5u i b.length with hi|hi
 ·have c:b[i]?=some b[i]:=ez2 hi;have d:a[i]?=some (a[i]'(by have:=h.1;omega)):=ey4 (by have:=h.1;omega);rw[c];simp only[f31,Array.getD,show i<a.size from by have:=h.1;omega,dif_pos];exact h.2 i _ _ c d
 ·rw[f0e hi];exact .top _
theorem RepL.nil(E:Env):RepL E [] #[]:=⟨rfl,λi c u a=>by simp at a⟩
theorem RepL.append{E:Env}{d j:LA}{e g:Array Value}(h:RepL E d e)(f:RepL E j g):RepL E (d++j) (e++g):=by
 refine⟨by simp[h.1,f.1],λi c u a b=>?_⟩;rw[f0o]at a;rw[f0f]at b
 have:=h.1;by_cases hi:i<d.length
 ·rw[iP hi]at a;rw[iP om]at b;exact h.2 i c u a b
 ·rw[iN hi]at a;rw[iN om]at b;exact f.2 _ c u a (by rw[show i-d.length=i-e.size from by omega];exact b)
inductive Opd where
 |t (n:Nat)
 |c (v:AV)
 deriving Inhabited
abbrev LQ:=List Opd
def evalA(fr:LA):Opd->AV
 |.t n=>(fr[n]?).getD .top
 |.c v=>v
def ap5:AV->Value->Bool
 |.top,_=>true
 |.bool b,.bool c=>b==c
 |.int k n,.int k' m=>decide (k=k')&&decide (n=m)
 |.str s,.string t=>decide (s=t.data.toList)
 |.nilp,.pointer none=>true
 |.emp,.slice _ 0 0=>true
 |.nilfn,.nilFunc=>true
 |.fn f [] [],.func g vs ws=>decide (f=g)&&vs.size==0&&ws.size==0
 |_,_=>false
def repCs:LA->List Value->Bool
 |[],[]=>true
 |x::xs,v::vs=>ap5 x v&&repCs xs vs
 |_,_=>false
def b2d:AV->Value->Bool
 |.agg cs,.agg vs=>repCs cs vs.toList
 |x,v=>ap5 x v
theorem bs9{E:Env}{x:AV}{v:Value}(h:ap5 x v=true):Rep E x v:=by
 unfold ap5 at h;split at h
 ·exact .top _
 ·have:=eq_of_beq h;subst this;exact .pure (x:=.bool _) (.bool _)
 ·simp only[f32,f2f]at h;obtain⟨rfl,rfl⟩:=h;exact .pure (x:=.int _ _) (.int _ _)
 ·rename_i s t;simp only[f2f]at h;subst h;have:(⟨t.data.toList.toArray⟩:ByteArray)=t:=by cases t;simp
  exact this▸.pure (x:=.str _) (.str _)
 ·exact .pure (x:=.nilp) .nilp
 ·exact .pure (x:=.emp) (.emp _)
 ·exact .pure (x:=.nilfn) .nilfn
 ·rename_i f g e j;simp only[f32,f2f,beq_iff_eq]at h;obtain⟨⟨rfl,b⟩,d⟩:=h;exact .fn f [] [] e j (by simp[b]) (by simp[d]) (λi c u a=>by simp at a) (λi c u a=>by simp at a)
 ·cases h
theorem Sf{E:Env}:∀ {e:LA} {d:List Value},repCs e d=true->RepL E e d.toArray
 |[],[],_=>RepL.nil E
 |[],_::_,h=>by simp[repCs]at h
 |_::_,[],h=>by simp[repCs]at h
 |x::e,v::d,h=>by
   simp only[repCs,f32]at h;have f:=Sf (E:=E) h.2;refine⟨by have:=f.1;simp at this;simp[this],λi c u a b=>?_⟩;cases i with
   |zero=>simp at a b;subst a;subst b;exact bs9 h.1
   |succ i=>exact f.2 i c u (by simpa using a) (by simpa using b)
theorem d98{E:Env}{x:AV}{v:Value}(h:b2d x v=true):Rep E x v:=by
 unfold b2d at h;split at h
 ·rename_i a e
  have:=Sf (E:=E) h;exact .agg a e (by simpa using this.1) (λi c u b d=>this.2 i c u b (by simpa using d))
 ·exact bs9 h
def Bw:Opd->Operand->Bool
 |.t n,.tmp m=>decide (n=m)
 |.c x,.const v=>b2d x v
 |.c (.fn f [] []),.func g=>decide (f=.func g)
 |_,_=>false
theorem Bv{E:Env}{fr:LA}{a:Act}(d:RepL E fr a.tmps){x:Opd}{y:Operand}(h:Bw x y=true):Rep E (evalA fr x) (a.eval y):=by
 unfold Bw at h;split at h
 ·simp only[f2f]at h;subst h;exact d.get _ _
 ·exact d98 h
 ·simp only[f2f]at h;subst h;exact .fn _ [] [] #[] #[] rfl rfl (λi c u b=>by simp at b) (λi c u b=>by simp at b)
 ·cases h
end
def cellA:AV->Bool
 |.top|.agg _|.tuple _=>false
 |_=>true
def cp3{E:Env}{x:AV}{v:Value}(h:Rep E x v)(a:cellA x=true):v.oneCell'=true:=by
 cases h with
 |top=>simp[cellA]at a
 |pure h=>cases h<;>first|rfl|simp[cellA,emb]at a
 |agg=>simp[cellA]at a
 |tuple=>simp[cellA]at a
 |fn=>rfl
 |own0=>rfl
 |own=>rfl
 |ptr=>rfl
 |stale_own _ _ _ _ _ _ _ _ _ b=>exact b
 |stale_ptr _ _ _ _ _ _ _ _ b=>exact b
theorem b6s{H:AH}{r:Nat}(o:Option AObj)(h:r<H.length):AH.at (H++[o]) r=H.at r:=by
 grind [AH.at]
theorem ct6(H:AH)(o:Option AObj):AH.at (H++[o]) H.length=o:=by
 unfold AH.at;simp
theorem ct5{H:AH}{r:Nat}(o:Option AObj)(h:H.length<r):AH.at (H++[o]) r=none:=by
 grind [AH.at,List.getElem?_append_right,List.getElem?_eq_none]
def Tc{H:AH}{r:Nat}{o:AObj}(h:H.at r=some o):r<H.length:=by
 grind [AH.at,Nat.lt_or_ge,List.getElem?_eq_none]
def a52{H:AH}{r:Nat}(o:Option AObj)(h:r<H.length):AH.at (H.set r o) r=o:=by
 grind [AH.at,List.getElem?_set_self]
theorem Ux{H:AH}{r s:Nat}(o:Option AObj)(h:r≠s):AH.at (H.set r o) s=H.at s:=by
 grind [AH.at]
def T9{w:World}{b:Nat}{o:Obj}(h:w.heap[b]?=some o):b<w.heap.size:=by
 grind
def Gh(w:World)(b:Nat)(o:Obj):World:={ w with heap:=w.heap.setIfInBounds b o }
def bz8{w:World}{b:Nat}(o:Obj)(h:b<w.heap.size):(Gh w b o).heap[b]?=some o:=by
 grind [Gh]
def bz9{w:World}{b c:Nat}(o:Obj)(h:b≠c):(Gh w b o).heap[c]?=w.heap[c]?:=by
 grind [Gh]
def es6(w:World)(o:Obj):(w.alloc o).heap[w.heap.size]?=some o:=by unfold World.alloc;simp
def cw4{w:World}{b:Nat}(o:Obj)(h:b<w.heap.size):(w.alloc o).heap[b]?=w.heap[b]?:=by
 unfold World.alloc
 grind
def D6(E:Env)(sz:Nat)(cells:Array Value)(o:AObj):Prop:=
 ∀ (i:Nat) e (k:Nat) c v,o[i]?=some e->e[k]?=some c->cells[i*sz+k]?=some v->Rep E c v
def D6.mono{E a:Env}(h:Le E a){sz cells o}(f:D6 E sz cells o):D6 a sz cells o:=
 λi e k c v b d h3=>(f i e k c v b d h3).mono h
def Lies.mono{E a:Env}{w w':World}{o:AObj}{x:Own}(g:Le E a)(h:Lies E w o x)(j:a.F x.b=none/\a.X x.b=none)(r:w'.heap[x.b]?=w.heap[x.b]?):Lies a w' o x:=by
 have⟨cells,t,q,l,n,p,d,m⟩:=h.blk;exact⟨h.t,h.pos,j,⟨cells,t,q,r.trans l,n,p,d,λi e k c v d f h3=>(m i e k c v d f h3).mono g⟩,h.sz,h.fits⟩
def Sim.drawn{E:Env}{w:World}{H:AH}(h:Sim E w H)(n:Nat):Sim E { w with drawn:=n } H:=
 ⟨h.os,h.tape,h.output,h.frz,h.disj,h.dom,λr o c=>by
  rcases h.obj r o c with b|⟨x,d,a⟩
  ·exact .inl b
  ·exact .inr ⟨x,d,a.t,a.pos,a.out,a.blk,a.sz,a.fits⟩,h.inj⟩
def Sim.fresh{E:Env}{w:World}{H:AH}(h:Sim E w H):E.F w.heap.size=none/\E.X w.heap.size=none:=by
 constructor
 ·cases a:E.F w.heap.size with
  |none=>rfl
  |some o=>have:=T9 (h.frz _ _ (.inl a));omega
 ·cases a:E.X w.heap.size with
  |none=>rfl
  |some o=>have:=T9 (h.frz _ _ (.inr a));omega
def Sim.lt{E:Env}{w:World}{H:AH}(h:Sim E w H){r:Nat}{o:AObj}{x:Own}(e:H.at r=some o)(f:E.ρ r=some x):x.b<w.heap.size:=by
 rcases h.obj r o e with g|⟨x',a,d⟩
 ·grind
 ·rw[f]at a;cases a;obtain⟨cells,t,q,c,_⟩:=d.blk;exact T9 c
def Env.with(E:Env)(r:Nat)(x:Own):Env:={ E with ρ:=λs=>if s=r then some x else E.ρ s }
theorem Env.with_same(E:Env)(r:Nat)(x:Own):(E.with r x).ρ r=some x:=by simp[Env.with]
theorem Env.with_ne(E:Env){r s:Nat}(x:Own)(h:s≠r):(E.with r x).ρ s=E.ρ s:=by simp[Env.with,h]
def Env.le_with{E:Env}{r:Nat}(x:Own)(h:∀ y,E.ρ r=some y->y=x\/y.t<x.t):Le E (E.with r x):=by
 refine⟨λ_ _ h=>h,λs y b=>?_,rfl,rfl,rfl,rfl⟩;by_cases a:s=r
 ·subst a;refine⟨x,E.with_same s x,?_⟩
  grind
 ·exact⟨y,(E.with_ne x a).trans b,.inl rfl⟩
def Sim.renew{E:Env}{w:World}{H:AH}(h:Sim E w H){r:Nat}(A:r<H.length)(o:AObj)(sz:Nat)(cells:Array Value)(t:TypeId)(q:Nat×Nat)
 (g:∀ y,E.ρ r=some y->y.t<o.length) (n:0<sz) (D:q=(0,0)\/cells.size<=q.1)
 (p:∀ e∈o,e.length=sz) (m:o.length*sz<=cells.size) (f:∀ (i:Nat) v,cells[i]?=some v->v.oneCell'=true) (C:D6 E sz cells o) :
 Le E (E.with r ⟨w.heap.size,sz,cells.size,o.length⟩)/\Sim (E.with r ⟨w.heap.size,sz,cells.size,o.length⟩) (w.alloc (.cells cells t q)) (H.set r (some o)):=by
 have j:Le E (E.with r ⟨w.heap.size,sz,cells.size,o.length⟩):=Env.le_with _ (λy F=>.inr (g y F));refine⟨j,h.os,h.tape,h.output,λb o' l=>(cw4 _ (T9 (h.frz b o' l))).trans (h.frz b o' l),h.disj,?_,?_,?_⟩
 ·intro s x c;rw[f3v];by_cases a:s=r
  ·subst a;exact A
  ·rw[Env.with_ne _ _ a]at c;exact h.dom s x c
 ·intro s o' c;by_cases a:s=r
  ·subst a;rw[a52 _ A]at c;cases c;exact .inr ⟨_,Env.with_same _ _ _,rfl,n,h.fresh,⟨cells,t,q,es6 _ _,rfl,D,f,C.mono j⟩,p,m⟩
  ·rw[Ux _ (Ne.symm a)]at c;rcases h.obj s o' c with ⟨f,k⟩|⟨x,B,z⟩
   ·exact .inl ⟨f,(Env.with_ne _ _ a).trans k⟩
   ·exact .inr ⟨x,(Env.with_ne _ _ a).trans B,z.mono j z.out (cw4 _ (h.lt c B))⟩
 ·intro s u G I J K f k h3 h4 l;by_cases c:s=r
  ·by_cases d:u=r
   ·omega
   ·subst c;rw[Env.with_same]at h3;cases h3;rw[Env.with_ne _ _ d]at h4;rw[Ux _ (Ne.symm d)]at k
    have:=h.lt k h4;simp at l;omega
  ·by_cases d:u=r
   ·subst d;rw[Env.with_same]at h4;cases h4;rw[Env.with_ne _ _ c]at h3;rw[Ux _ (Ne.symm c)]at f
    have:=h.lt f h3;simp at l;omega
   ·rw[Env.with_ne _ _ c]at h3;rw[Env.with_ne _ _ d]at h4;rw[Ux _ (Ne.symm c)]at f;rw[Ux _ (Ne.symm d)]at k;exact h.inj s u G I J K f k h3 h4 l
def Sim.reserve{E:Env}{w:World}{H:AH}(h:Sim E w H):Sim E w (H++[none]):=by
 have a:∀ {r o},AH.at (H++[none]) r=some o->H.at r=some o:=by
  grind [Nat.lt_trichotomy,b6s,ct6,ct5]
 refine⟨h.os,h.tape,h.output,h.frz,h.disj,λr x b=>?_,λr o b=>h.obj r o (a b),λr e o o' x x' c d=>h.inj r e o o' x x' (a c) (a d)⟩
 grind [cases Sim]
def Sim.new{E:Env}{w:World}{H:AH}(h:Sim E w H)(o:AObj)(sz:Nat)(cells:Array Value)(t:TypeId)(q:Nat×Nat)
 (b:0<sz) (k:q=(0,0)\/cells.size<=q.1) (c:∀ e∈o,e.length=sz) (a:o.length*sz<=cells.size) (f:∀ (i:Nat) v,cells[i]?=some v->v.oneCell'=true) (g:D6 E sz cells o) :
 Le E (E.with H.length ⟨w.heap.size,sz,cells.size,o.length⟩)/\Sim (E.with H.length ⟨w.heap.size,sz,cells.size,o.length⟩) (w.alloc (.cells cells t q)) (H++[some o]):=by
 have j:E.ρ H.length=none:=by
  cases l:E.ρ H.length with
  |none=>rfl
  |some x=>have:=h.dom _ _ l;omega
 have:=h.reserve.renew (r:=H.length) sm o sz cells t q (λy d=>by rw[j]at d;cases d) b k c a f g;have e:(H++[none]).set H.length (some o)=H++[some o]:=by simp
 rwa [e]at this
def Sim.write{E:Env}{w:World}{H:AH}(h:Sim E w H){r:Nat}{o o':AObj}{x:Own}(D:H.at r=some o)(I:E.ρ r=some x)
 (cells:Array Value) (t:TypeId) (q:Nat×Nat) (P:cells.size=x.n) (Q:q=(0,0)\/x.n<=q.1)
 (L:o.length<=o'.length) (G:∀ e∈o',e.length=x.sz) (j:o'.length*x.sz<=x.n) (f:∀ (i:Nat) v,cells[i]?=some v->v.oneCell'=true) (O:D6 E x.sz cells o') :
 Le E (E.with r { x with t:=o'.length })/\Sim (E.with r { x with t:=o'.length }) (Gh w x.b (.cells cells t q)) (H.set r (some o')):=by
 have k:Lies E w o x:=by
  grind [cases Sim,cases Le,cases Lies]
 have g:Le E (E.with r { x with t:=o'.length }):=Env.le_with _ (λy p=>by
  rw[I]at p;cases p;rcases f5u o.length o'.length with f|f
  ·right;simp only;have:=k.t;omega
  ·left;have:o'.length=x.t:=(by have:=k.t;omega);rw[this])
 have m:r<H.length:=Tc D;have B:x.b<w.heap.size:=h.lt D I;refine⟨g,h.os,h.tape,h.output,λb c A=>?_,h.disj,?_,?_,?_⟩
 ·have C:x.b≠b:=by
   rintro rfl
   have:=k.out
   change E.F x.b=some c\/E.X x.b=some c at A
   grind
  exact(bz9 _ C).trans (h.frz b c A)
 ·intro s y d;rw[f3v];by_cases a:s=r
  ·subst a;exact m
  ·rw[Env.with_ne _ _ a]at d;exact h.dom s y d
 ·intro s c d;by_cases a:s=r
  ·subst a;rw[a52 _ m]at d;cases d;exact .inr ⟨_,Env.with_same _ _ _,rfl,k.pos,k.out,⟨cells,t,q,bz8 _ B,P,Q,f,O.mono g⟩,G,j⟩
  ·rw[Ux _ (Ne.symm a)]at d;rcases h.obj s c d with ⟨f,z⟩|⟨y,p,l⟩
   ·exact .inl ⟨f,(Env.with_ne _ _ a).trans z⟩
   ·exact .inr ⟨y,(Env.with_ne _ _ a).trans p,l.mono g l.out (bz9 _ (λe=>a (h.inj s r c o y x d D p I e.symm)))⟩
 ·intro s T c M J K f z h3 h4 A;have u:∀ {s c J},AH.at (H.set r (some o')) s=some c->(E.with r { x with t:=o'.length }).ρ s=some J->∃ M K,H.at s=some M/\E.ρ s=some K/\J.b=K.b:=by
   grind [Env.with_same,Env.with_ne,Ux]
  have⟨R,U,a1,N,W⟩:=u f h3;have⟨S,V,a2,b2,Y⟩:=u z h4;exact h.inj s T R S U V a1 a2 N b2 om
def Yo(b off k:Nat):(⟨b,off,none⟩:Addr).add k=⟨b,off+k,none⟩:=by
 unfold Addr.add;split<;>simp_all
def b6a{w:World}{b:Nat}{cells:Array Value}{t:TypeId}{q:Nat×Nat}(a:w.heap[b]?=some (.cells cells t q))(i:Nat):w.cell? ⟨b,i,none⟩=cells[i]?:=by
 unfold World.cell?;simp[a]
def a67(P:Program){w:World}{b:Nat}{cells:Array Value}{t:TypeId}{q:Nat×Nat}(c:w.heap[b]?=some (.cells cells t q))(off n:Nat)(h:off+n<=cells.size) :
 (loadCells ⟨b,off,none⟩ n).run P w=.ok (cells.extract off (off+n)) w:=by
 rw[run_loadCells (P:=P) w ⟨b,off,none⟩ n (λj=>(cells[off+j]?).getD undef) (λj e=>by
  rw[Yo,b6a c,ey4 om];rfl)]
 congr 1
 apply Array.ext
 ·simp;omega
 ·intro i a d;simp at a;simp[ey4 (show off+i<cells.size from by omega)]
def splice:Array Value->Nat->List Value->Array Value
 |c,_,[]=>c
 |c,k,v::vs=>splice (c.setIfInBounds k v) (k+1) vs
def Wv:∀ (a:List Value) (c:Array Value) (k:Nat),(splice c k a).size=c.size
 |[],_,_=>rfl
 |v::a,c,k=>by rw[splice,Wv a];simp
def a5z:∀ (a:List Value) (c:Array Value) (k m:Nat),k+a.length<=c.size->
 (splice c k a)[m]?=if k<=m/\m<k+a.length then a[m-k]? else c[m]?
 |[],c,k,m,_=>by rw[splice,iN (by simp only[f3w];omega)]
 |v::a,c,k,m,h=>by
   simp only[f33]at h;rw[splice,a5z a _ _ _ (by simp;omega)];by_cases b:k+1<=m/\m<k+1+a.length
   ·rw[iP b,iP (by simp only[f33];omega)];rw[show m-k=(m-(k+1))+1 from by omega];rfl
   ·rw[iN b,ex3];by_cases d:k=m
    ·subst d;simp;omega
    ·rw[iN d,iN (by simp only[f33];omega)]
def db7{w:World}{b:Nat}{o:Obj}(h:w.heap[b]?=some o):Gh w b o=w:=by
 unfold Gh;have:w.heap.setIfInBounds b o=w.heap:=by
  apply Array.ext
  ·simp
  ·intro i a c;rw[Array.getElem_setIfInBounds (by simpa using a)];split
   ·rename_i e;subst e;rw[ey4 c]at h;cases h;rfl
   ·rfl
 rw[this]
def db8(w:World)(b:Nat)(o o':Obj):Gh (Gh w b o) b o'=Gh w b o':=by
 unfold Gh;simp
def d85{w:World}{b:Nat}{cells:Array Value}{t:TypeId}{q:Nat×Nat}(a:w.heap[b]?=some (.cells cells t q))(k:Nat)(v:Value) :
 w.setCell ⟨b,k,none⟩ v=Gh w b (.cells (cells.setIfInBounds k v) t q):=by
 unfold World.setCell Gh;have:∀ f:Obj->Obj,w.heap.modify b f=w.heap.setIfInBounds b (f (.cells cells t q)):=by
  intro f;apply f1j;intro i;rw[Array.getElem?_modify,ex3];split
  ·rename_i e;subst e;rw[iP (T9 a),a];rfl
  ·rfl
 rw[this];rfl
def a65(P:Program)(b:Nat)(t:TypeId)(q:Nat×Nat)(o:Nat):∀ (a:List Value) (i:Nat) (cells:Array Value) (w:World),w.heap[b]?=some (.cells cells t q)->
 (q=(0,0)\/cells.size<=q.1)->o+i+a.length<=cells.size->(∀ v∈a,v.oneCell'=true)->
 (storeCells ⟨b,o,none⟩ a i).run P w=.ok () (Gh w b (.cells (splice cells (o+i) a) t q))
 |[],i,cells,w,hb,_,_,_=>by
   rw[splice,db7 hb];rfl
 |v::a,i,cells,w,hb,e,hin,h1=>by
   simp only[f33]at hin;have d:w.frozen? ⟨b,o+i,none⟩=false:=by
    unfold World.frozen?;simp only[hb];rcases e with rfl|e
    ·simp
    ·simp;omega
   have f:(store ((⟨b,o,none⟩:Addr).add i) v).run P w=.ok () (Gh w b (.cells (cells.setIfInBounds (o+i) v) t q)):=by
    rw[Yo,run_store P w _ v _ (h1 v sm),b6a hb,ey4 om];simp only[d];rw[d85 hb];rfl
   have c:(Gh w b (.cells (cells.setIfInBounds (o+i) v) t q)).heap[b]?=some (.cells (cells.setIfInBounds (o+i) v) t q):=bz8 _ (T9 hb);have h:=a65 P b t q o a (i+1) (cells.setIfInBounds (o+i) v) _ c (by simpa using e) (by simp;omega) (λu g=>h1 u (by simp[g]));rw[storeCells];simp only[f5v,f,Result.andThen,h,db8,splice];rfl
structure TI(P:Program)(t:TypeId)(agg:Bool)(n:Nat):Prop where
 info:∃ i,P.info? t=some i/\i.size=n
 und:∃ d,P.underlying t=some d/\(agg=true↔((∃ fs,d=.struct fs)\/∃ k e,d=.array k e))
def Pv(P:Program)(t:TypeId)(a:Bool)(n:Nat):Bool:=
 (match P.info? t with|some i=>decide (i.size=n)|none=>false) &&
 (match P.underlying t with|some (.struct _)=>a|some (.array _ _)=>a|some _=> !a|none=>false)
def a5q{P:Program}{t:TypeId}{a:Bool}{n:Nat}(h:Pv P t a n=true):TI P t a n:=by
 unfold Pv at h;rw[f32]at h;have⟨b,c⟩:=h;constructor
 ·cases hi:P.info? t with
  |none=>rw[hi]at b;cases b
  |some i=>rw[hi]at b;exact⟨i,rfl,by simpa using b⟩
 ·cases e:P.underlying t with
  |none=>rw[e]at c;cases c
  |some d=>
    rw[e]at c;refine⟨d,rfl,?_⟩;cases d<;>simp_all
def Hg{P:Program}{t:TypeId}{i:TypeInfo}(h:P.info? t=some i)(w:World):(sizeOf t).run P w=.ok i.size w:=by
 unfold sizeOf typeInfo;simp[f5v,h,program,Sem.run,Result.andThen]
def a1l{P:Program}{t:TypeId}{b:Bool}{n:Nat}(h:TI P t b n)(w:World):(isAgg t).run P w=.ok b w:=by
 have⟨d,c,a⟩:=h.und;unfold isAgg;simp only[f5v,f4m c,Result.andThen];cases d<;>simp at a<;>simp[a,pure,Sem.run]
def bp9{P:Program}{t:TypeId}{a:Bool}{n:Nat}(h:TI P t a n){w:World}{b off:Nat}{cells:Array Value}{g:TypeId}{q:Nat×Nat}
 (e:w.heap[b]?=some (.cells cells g q)) (d:off+n<=cells.size) (c:a=false->n=1) :
 (loadVar t ⟨b,off,none⟩).run P w=.ok (if a then .agg (cells.extract off (off+n))else(cells[off]?).getD undef) w:=by
 have⟨i,hi,f⟩:=h.info;unfold loadVar;simp only[f5v,a1l h,Result.andThen];cases a with
 |true=>
   simp only[if_true,f5v,Hg hi,Result.andThen,f,a67 P e off n d];rfl
 |false=>
   have c:=c rfl;subst c;simp only[f1k,if_false,run_load,b6a e,ey4 (show off<cells.size from by omega)];rfl
inductive EK where
 |b|i|s
 deriving DecidableEq,Inhabited
inductive AOp where
 |mv (x:Opd)
 |pick (c a b:Opd)
 |alloc (cs:List AV)
 |box (x:Opd)
 |build (zero:List AV) (parts:List (Nat×Nat×Opd))
 |bslice (sz len:Nat) (zero:List AV) (parts:List (Nat×Opd))
 |load (agg:Bool) (n:Nat) (x:Opd)
 |store (n:Nat) (p x:Opd)
 |nilchk (x:Opd)
 |bini (op:BinOp) (x y:Opd)
 |bins (op:BinOp) (x y:Opd)
 |eqb (neg:Bool) (x y:Opd)
 |eqs (neg:Bool) (ks:List EK) (x y:Opd)
 |un (op:UnOp) (x:Opd)
 |convi (k:IntKind) (x:Opd)
 |convsb (x:Opd)
 |convbs (x:Opd)
 |convss (x:Opd)
 |mksl (sz bytes:Nat) (zero:List AV) (len cap:Opd)
 |slices (x:Opd) (lo hi:Option Opd)
 |slicel (sz:Nat) (x:Opd) (lo hi:Option Opd)
 |slicez (x:Opd)
 |slice3 (x lo hi mx:Opd)
 |eqnil (neg:Bool) (x:Opd)
 |faddr (off:Nat) (x:Opd)
 |field (agg:Bool) (off n:Nat) (x:Opd)
 |iaddr (sz:Nat) (x i:Opd)
 |iaddra (len sz:Nat) (x i:Opd)
 |indexs (x i:Opd)
 |indexa (agg:Bool) (len sz:Nat) (x i:Opd)
 |cap (x:Opd)
 |ext (x:Opd) (i:Nat)
 |len (str:Bool) (x:Opd)
 |append (sz bytes:Nat) (zero:List AV) (x y:Opd)
 |copy (sz:Nat) (x y:Opd)
 |clear (sz:Nat) (zero:List AV) (x:Opd)
 |min2 (x y:Opd)
 |max2 (x y:Opd)
 |mkfn (f:Fn) (first cap:List Opd)
 |call (f:FuncId) (args:List Opd)
 |calld (x:Opd) (args:List Opd)
 |bad
 deriving Inhabited
def B1(H:AH)(r tot:Nat):Option AObj:=
 match H.at r with
 |some o=>if o.length=tot then some o else none
 |none=>none
def cellsOf:AV->Option LA
 |.agg cs=>some cs
 |.top=>none
 |.tuple _=>none
 |x=>some [x]
def Fg(a:Bool)(b:LA):AV:=if a then .agg b else(b[0]?).getD .top
def Lr(H:AH)(n:Nat):AV->Option LA
 |.ptr r i j tot=>
   match B1 H r tot with
   |some o=>
     match o[i]? with
     |some e=>if j+n<=e.length then some ((e.drop j).take n)else none
     |none=>none
   |none=>none
 |.fptr cs=>if n<=cs.length then some ((cs.take n).map emb)else none
 |_=>none
def lay(e:LA)(j:Nat)(a:LA):LA:=e.take j++a++e.drop (j+a.length)
def D9(ev:Opd->AV):LA->List (Nat×Nat×Opd)->Option LA
 |cells,[]=>some cells
 |cells,(off,size,x)::rest=>
   match cellsOf (ev x)with
   |some a=>if a.length=size/\off+size<=cells.length then D9 ev (lay cells off a) rest else none
   |none=>none
def Hw(op:BinOp)(k:IntKind)(a b:Int):Option AV:=
 match op with
 |.add=>some (.int k (k.wrap (a+b)))
 |.sub=>some (.int k (k.wrap (a-b)))
 |.mul=>some (.int k (k.wrap (a*b)))
 |.quo=>if b=0 then none else some (.int k (k.wrap (a.tdiv b)))
 |.rem=>if b=0 then none else some (.int k (a.tmod b))
 |.and=>some (.int k (k.wrap (BitVec.ofInt k.bits a &&& BitVec.ofInt k.bits b).toNat))
 |.or=>some (.int k (k.wrap (BitVec.ofInt k.bits a ||| BitVec.ofInt k.bits b).toNat))
 |.xor=>some (.int k (k.wrap (BitVec.ofInt k.bits a ^^^ BitVec.ofInt k.bits b).toNat))
 |.andNot=>some (.int k (k.wrap (BitVec.ofInt k.bits a &&& ~~~ BitVec.ofInt k.bits b).toNat))
 |.eql=>some (.bool (a==b))
 |.neq=>some (.bool (a != b))
 |.lss=>some (.bool (decide (a<b)))
 |.leq=>some (.bool (decide (a<=b)))
 |.gtr=>some (.bool (decide (a>b)))
 |.geq=>some (.bool (decide (a>=b)))
 |.shl=>if b<0 then none else some (.int k (k.wrap (a*2 ^ (min b.toNat k.bits))))
 |.shr=>if b<0 then none else some (.int k (a.fdiv (2 ^ (min b.toNat k.bits))))
def Qj(op:BinOp)(a b:List UInt8):Option AV:=
 match op with
 |.add=>if a.length+b.length<=1000000000 then some (.str (a++b))else none
 |.eql=>some (.bool (a==b))
 |.neq=>some (.bool (!(a==b)))
 |.lss=>some (.bool (Op.bytesLess a b))
 |.leq=>some (.bool (Op.bytesLess a b||a==b))
 |.gtr=>some (.bool (!(Op.bytesLess a b||a==b)))
 |.geq=>some (.bool (!Op.bytesLess a b))
 |_=>none
def unI(op:UnOp)(k:IntKind)(n:Int):Option AV:=
 match op with
 |.neg=>some (.int k (k.wrap (0-n)))
 |.xor=>some (.int k (k.wrap (BitVec.ofInt k.bits (if k.signed then -1 else k.max) ^^^ BitVec.ofInt k.bits n).toNat))
 |_=>none
def C9(ev:Opd->AV)(x:Option Opd)(a b:Nat):Option Nat:=
 match x with
 |none=>some a
 |some x=>
   match ev x with
   |.int _ n=>if 0<=n/\n<=b then some n.toNat else none
   |_=>none
def Cu:List EK->LA->LA->Option Bool
 |[],[],[]=>some true
 |.i::ks,.int k a::xs,.int k' b::ys=>if k=k' then(Cu ks xs ys).map λr=>(a==b)&&r else none
 |.s::ks,.str a::xs,.str b::ys=>(Cu ks xs ys).map λr=>(a==b)&&r
 |.b::ks,.bool a::xs,.bool b::ys=>(Cu ks xs ys).map λr=>(a==b)&&r
 |_,_,_=>none
def Ih(H:AH):AV->Option (List LA)
 |.emp=>some []
 |.fz es=>some (es.map λe=>e.map emb)
 |.own r _ off len tot=>
   match B1 H r tot with
   |some o=>if off+len<=tot then some ((o.drop off).take len)else none
   |none=>none
 |_=>none
def Z6(H:AH):AV->Option Nat
 |.emp=>some 0
 |.fz es=>some es.length
 |.own r _ off _ tot=>(B1 H r tot).map λ_=>tot-off
 |_=>none
def J6:List LA->Option (List UInt8)
 |[]=>some []
 |[.int .u8 n]::r=>(J6 r).map λl=>UInt8.ofNat n.toNat::l
 |_=>none
def ay3(x:AV)(m l h:Nat):AV:=
 match x with
 |.fz es=>if l=0/\h=es.length then .fz es else .top
 |.own r sz off len tot=>if l=0/\h=len/\tot<=off+m then .own r sz off len tot else .top
 |.emp=>if l=0/\h=0/\m=0 then .emp else .top
 |_=>.top
def Be(op:AOp)(ev:Opd->AV)(H:AH):Option AV:=
 match op with
 |.mv x=>some (ev x)
 |.pick c a b=>
   match ev c with
   |.bool true=>some (ev a)
   |.bool false=>some (ev b)
   |_=>none
 |.build zero parts=>(D9 ev zero parts).map .agg
 |.load agg n x=>(Lr H n (ev x)).map (Fg agg)
 |.nilchk x=>
   match ev x with
   |.ptr r i j tot=>(B1 H r tot).map λ_=>.ptr r i j tot
   |.fptr cs=>some (.fptr cs)
   |_=>none
 |.bini op x y=>
   match ev x,ev y with
   |.int k a,.int k' b=>if k=k'\/op=.shl\/op=.shr then Hw op k a b else none
   |_,_=>none
 |.bins op x y=>
   match ev x,ev y with
   |.str a,.str b=>Qj op a b
   |_,_=>none
 |.eqb neg x y=>
   match ev x,ev y with
   |.bool a,.bool b=>some (.bool ((a==b) != neg))
   |_,_=>none
 |.un op x=>
   match ev x with
   |.bool b=>if op=.not then some (.bool !b)else none
   |.int k n=>unI op k n
   |_=>none
 |.convi k x=>
   match ev x with
   |.int _ n=>some (.int k (k.wrap n))
   |_=>none
 |.convss x=>
   match ev x with
   |.str s=>some (.str s)
   |_=>none
 |.slices x lo hi=>
   match ev x with
   |.str s=>
     match C9 ev hi s.length s.length with
     |some h=>
       match C9 ev lo 0 h with
       |some l=>some (.str ((s.take h).drop l))
       |none=>none
     |none=>none
   |_=>none
 |.faddr off x=>
   match ev x with
   |.ptr r i j tot=>(B1 H r tot).map λ_=>.ptr r i (j+off) tot
   |.fptr cs=>if off<=cs.length then some (.fptr (cs.drop off))else none
   |_=>none
 |.field agg off n x=>
   match ev x with
   |.agg cs=>if off+n<=cs.length then some (Fg agg ((cs.drop off).take n))else none
   |_=>none
 |.indexa agg len sz x i=>
   match ev x,ev i with
   |.agg cs,.int _ n=>if 0<=n/\n<len/\n.toNat*sz+sz<=cs.length then some (Fg agg ((cs.drop (n.toNat*sz)).take sz))else none
   |_,_=>none
 |.cap x=>
   match ev x with
   |.emp=>some (.N 0)
   |_=>none
 |.indexs x i=>
   match ev x,ev i with
   |.str s,.int _ n=>if 0<=n then(s[n.toNat]?).map λb=>.int .u8 b.toNat else none
   |_,_=>none
 |.ext x i=>
   match ev x with
   |.tuple vs=>vs[i]?
   |_=>none
 |.len true x=>
   match ev x with
   |.str s=>some (.N s.length)
   |_=>none
 |.len false x=>
   match ev x with
   |.emp=>some (.N 0)
   |.fz es=>some (.N es.length)
   |.own r _ _ len tot=>(B1 H r tot).map λ_=>.N len
   |_=>none
 |.min2 x y=>
   match ev x,ev y with
   |.int k a,.int _ b=>some (.int k (if b<a then b else a))
   |_,_=>none
 |.max2 x y=>
   match ev x,ev y with
   |.int k a,.int _ b=>some (.int k (if b>a then b else a))
   |_,_=>none
 |.mkfn f first cap=>some (.fn f (first.map ev) (cap.map ev))
 |.slicel sz x lo hi=>
   match ev x with
   |.fz es=>
     match C9 ev hi es.length es.length with
     |some h=>
       match C9 ev lo 0 h with
       |some l=>if((es.take h).drop l).all (λe=>decide (e.length=sz))then some (.fz ((es.take h).drop l))else none
       |none=>none
     |none=>none
   |.emp=>
     match C9 ev hi 0 0 with
     |some _=>
       match C9 ev lo 0 0 with
       |some _=>some .emp
       |none=>none
     |none=>none
   |.own r sz' off len tot=>
     match B1 H r tot with
     |some _=>
       if off<=tot/\sz'=sz then
        match C9 ev hi len (tot-off)with
        |some h=>
          match C9 ev lo 0 h with
          |some l=>
            if l=0 then some (.own r sz off h tot)
            else if h<=l then some (.fz [])
            else some (.own r sz (off+l) (h-l) tot)
          |none=>none
        |none=>none
       else none
     |none=>none
   |_=>none
 |.slicez x=>
   match ev x with
   |.fz _=>some .emp
   |.emp=>some .emp
   |.own r _ _ _ tot=>(B1 H r tot).map λ_=>.emp
   |_=>none
 |.slice3 x lo hi mx=>
   match Z6 H (ev x)with
   |some c=>
     match C9 ev (some mx) 0 c with
     |some m=>
       match C9 ev (some hi) 0 m with
       |some h=>
         match C9 ev (some lo) 0 h with
         |some l=>some (ay3 (ev x) m l h)
         |none=>none
       |none=>none
     |none=>none
   |none=>none
 |.iaddr sz x i=>
   match ev x,ev i with
   |.fz es,.int _ n=>if 0<=n then
    match es[n.toNat]? with
    |some e=>if e.length=sz then some (.fptr e)else none
    |none=>none
     else none
   |.own r sz' off len tot,.int _ n=>
     if 0<=n/\n<len/\sz'=sz then(B1 H r tot).map λ_=>.ptr r (off+n.toNat) 0 tot else none
   |_,_=>none
 |.iaddra len sz x i=>
   match ev x,ev i with
   |.ptr r k j tot,.int _ n=>if 0<=n/\n<len then(B1 H r tot).map λ_=>.ptr r k (j+n.toNat*sz) tot else none
   |.fptr cs,.int _ n=>if 0<=n/\n<len/\n.toNat*sz<=cs.length then some (.fptr (cs.drop (n.toNat*sz)))else none
   |_,_=>none
 |.convbs x=>((Ih H (ev x)).bind J6).map .str
 |.eqs neg ks x y=>
   match ev x,ev y with
   |.agg xs,.agg ys=>(Cu ks xs ys).map λr=>.bool (r != neg)
   |_,_=>none
 |_=>none
def isZ:Option Operand->Bool
 |some (.const (.int _ n))=>decide (n=0)
 |_=>false
def b48{x:Option Operand}(h:isZ x=true):∃ k,x=some (.const (.int k 0)):=by
 unfold isZ at h
 grind
def Jl(P:Program)(t:TypeId):Bool:=match P.underlying t with
 |some (.struct _)=>true
 |some (.array _ _)=>true
 |_=>false
def T7(P:Program):Nat->TypeId->List EK->Bool
 |0,_,_=>false
 |d+1,t,ks=>
   Pv P t (Jl P t) ks.length &&
   match P.underlying t with
   |some .bool=>decide (ks=[.b])
   |some (.int _)=>decide (ks=[.i])
   |some .string=>decide (ks=[.s])
   |some (.struct fs)=> !P.stoodInHeld t&&fields (T7 P d) (λt=>(P.info? t).map (·.size)) fs.toList 0 ks
   |some (.array n e)=>(match P.info? e with
     |some i=>decide (ks.length=n*i.size)&&(List.range n).all λj=>T7 P d e ((ks.drop (j*i.size)).take i.size)
     |none=>false)
   |_=>false
where
 fields (ok:TypeId->List EK->Bool) (a:TypeId->Option Nat):List Field->Nat->List EK->Bool
  |[],_,ks=>decide (ks=[])
  |f::fs,off,ks=>decide (f.name ≠ "_")&&decide (f.offset=off)&&(match a f.type with
    |some m=>decide (m<=ks.length)&&ok f.type (ks.take m)&&fields ok a fs (off+m) (ks.drop m)
    |none=>false)
def B7(P:Program)(op:AOp)(o:Op):Bool:=
 match op,o with
 |.mv x,.move y=>Bw x y
 |.mv x,.assign y=>Bw x y
 |.pick c a b,.pick c' a' b'=>Bw c c'&&Bw a a'&&Bw b b'
 |.load agg n x,.load t y=>Pv P t agg n&&(agg||decide (n=1))&&Bw x y
 |.nilchk x,.nilCheck y=>Bw x y
 |.bini op x y,.binOp op' _ x' y' _=>decide (op=op')&&Bw x x'&&Bw y y'
 |.bins op x y,.binOp op' _ x' y' _=>decide (op=op')&&Bw x x'&&Bw y y'
 |.eqb neg x y,.binOp op' t x' y' _=>decide (op'=if neg then .neq else .eql)&&(match P.underlying t with|some .bool=>true|_=>false)&&Bw x x'&&Bw y y'
 |.un op x,.unOp op' _ x'=>decide (op=op')&&Bw x x'
 |.convi k x,.convert s t y=>(P.underlying s).isSome&&(match P.underlying t with|some (.int k')=>decide (k=k')|_=>false)&&Bw x y
 |.convss x,.convert s t y=>(P.underlying s).isSome&&(match P.underlying t with|some .string=>true|_=>false)&&Bw x y
 |.slices x lo hi,.slice t y d hi' none=>(match P.underlying t with|some .string=>true|_=>false)&&Bw x y&&fitOO lo d&&fitOO hi hi'
 |.faddr off x,.fieldAddr t y f=>
   (match P.underlying t with
    |some (.struct fs)=>match fs[f]? with
      |some g=>decide (g.offset=off)&&(match P.info? g.type with|some i=>decide (i.size≠0)|none=>false)
      |none=>false
    |_=>false)&&Bw x y
 |.field agg off n x,.field t y f=>
   (match P.underlying t with
    |some (.struct fs)=>match fs[f]? with
      |some g=>decide (g.offset=off)&&Pv P g.type agg n&&(agg||decide (n=1))
      |none=>false
    |_=>false)&&Bw x y
 |.indexa agg len sz x i,.index t y j=>(match P.underlying t with|some (.array n e)=>decide (n=len)&&Pv P e agg sz&&(agg||decide (sz=1))|_=>false)&&Bw x y&&Bw i j
 |.cap x,.call { callee:=.builtin .cap,args:=args,argTypes:=ts }=>
   (match args.toList,ts.toList with
    |[y],[t]=>(match P.underlying t with|some (.slice _)=>true|_=>false)&&Bw x y
    |_,_=>false)
 |.indexs x i,.index t y j=>(match P.underlying t with|some .string=>true|_=>false)&&Bw x y&&Bw i j
 |.ext x i,.extract y j=>decide (i=j)&&Bw x y
 |.len str x,.call { callee:=.builtin .len,args:=args,argTypes:=ts }=>
   (match args.toList,ts.toList with
    |[y],[t]=>(match P.underlying t with|some .string=>str|some (.slice _)=> !str|_=>false)&&Bw x y
    |_,_=>false)
 |.min2 x y,.call { callee:=.builtin .min,args:=args,argTypes:=_ }=>
   (match args.toList with|[x',y']=>Bw x x'&&Bw y y'|_=>false)
 |.max2 x y,.call { callee:=.builtin .max,args:=args,argTypes:=_ }=>
   (match args.toList with|[x',y']=>Bw x x'&&Bw y y'|_=>false)
 |.mkfn f first cap,.makeFunc g first' cap'=>decide (f=g)&&fitOs first first'.toList&&fitOs cap cap'.toList
 |.slicel sz x lo hi,.slice t y d hi' none=>
   (match P.underlying t with|some (.slice e)=>(match P.info? e with|some i=>decide (i.size=sz)|none=>false)|_=>false)&&Bw x y&&fitOO lo d&&fitOO hi hi'
 |.slicez x,.slice t y lo hi mx=>
   (match P.underlying t with|some (.slice e)=>(P.info? e).isSome|_=>false)&&Bw x y&&(lo.isNone||isZ lo)&&isZ hi&&isZ mx
 |.slice3 x lo hi mx,.slice t y d (some hi') (some mx')=>
   (match P.underlying t with|some (.slice e)=>(P.info? e).isSome|_=>false)&&Bw x y&&(match d with
    |some d=>Bw lo d
    |none=>match lo with
      |.c (.int .i64 n)=>decide (n=0)
      |_=>false)&&Bw hi hi'&&Bw mx mx'
 |.iaddr sz x i,.indexAddr t y j=>
   (match P.underlying t with|some (.slice e)=>(match P.info? e with|some i=>decide (i.size=sz)|none=>false)|_=>false)&&Bw x y&&Bw i j
 |.iaddra len sz x i,.indexAddr t y j=>
   (match P.underlying t with|some (.array n e)=>decide (n=len)&&(match P.info? e with|some i=>decide (i.size=sz)|none=>false)|_=>false)&&Bw x y&&Bw i j
 |.convbs x,.convert s t y=>
   (match P.underlying s with|some (.slice e)=>(match P.underlying e with|some (.int .u8)=>(match P.info? e with|some i=>decide (i.size=1)|none=>false)|_=>false)|_=>false) &&
   (match P.underlying t with|some .string=>true|_=>false)&&Bw x y
 |.eqs neg ks x y,.binOp op' t x' y' _=>decide (op'=if neg then .neq else .eql)&&Jl P t &&
   T7 P 20 t ks&&!P.eqGuardType P.depth t&&Bw x x'&&Bw y y'
 |.build zero parts,.build t ps=>
   (match P.info? t with
    |some i=>match i.zero with
      |some z=>repCs zero z.cells.toList
      |none=>false
    |none=>false) &&
   (match P.underlying t with
    |some (.struct fs)=>fs.toList.all (λf=>(P.info? f.type).isSome)&&fitParts (λi=>match fs[i]? with
     |some f=>match P.info? f.type with
       |some i=>some (f.offset,i.size)
       |none=>none
     |none=>none) parts ps.toList
    |some (.array _ e)=>(match P.info? e with|some i=>fitParts (λk=>some (k*i.size,i.size)) parts ps.toList|none=>false)
    |_=>false)
 |_,_=>false
where
 fitOO:Option Opd->Option Operand->Bool
  |none,none=>true
  |some x,some y=>Bw x y
  |_,_=>false
 fitParts (h:Nat->Option (Nat×Nat)):List (Nat×Nat×Opd)->List (Nat×Operand)->Bool
  |[],[]=>true
  |(off,size,x)::xs,(i,y)::ys=>decide (h i=some (off,size))&&Bw x y&&fitParts h xs ys
  |_,_=>false
 fitOs:LQ->List Operand->Bool
  |[],[]=>true
  |x::xs,y::ys=>Bw x y&&fitOs xs ys
  |_,_=>false
def Fz(P:Program)(o:Op)(c:AOp):Prop:=
 ∀ (E:Env) (w:World) (H:AH) (fr:LA) (a:Act) (v:AV) (b:Oper),b.op=o->Sim E w H->RepL E fr a.tmps->Be c (evalA fr) H=some v->
   ∃ u,(execOp a.eval b).run P w=.ok (.value u) w/\Rep E v u
def Ey{P:Program}{s:Sem Value}{w w':World}{u:Value}(h:s.run P w=.ok u w'):(do pure (Next.value (←s)):Sem Next).run P w=.ok (.value u) w':=by
 simp only[f5v,h,Result.andThen];rfl
theorem Ie{E:Env}{w:World}{H:AH}(g:Sim E w H){r tot:Nat}{o:AObj}(h:B1 H r tot=some o):H.at r=some o/\o.length=tot/\∀ x,E.ρ r=some x->x.t=tot:=by
 unfold B1 at h;split at h
 ·rename_i o' d;split at h
  ·rename_i c;cases h;refine⟨d,c,λx a=>?_⟩;rcases g.obj r _ d with ⟨i,f⟩|⟨y,e,b⟩
   ·rw[f]at a;cases a
   ·rw[a]at e;cases e;rw[b.t,c]
  ·cases h
 ·cases h
def Hs{E:Env}{w:World}{H:AH}(e:Sim E w H){r:Nat}{o:AObj}{x:Own}(h:H.at r=some o)(a:E.ρ r=some x):Lies E w o x:=by
 rcases e.obj r o h with ⟨_,c⟩|⟨y,b,d⟩
 ·rw[c]at a;cases a
 ·rw[a]at b;cases b;exact d
def ai5{E:Env}{x:AV}{v:Value}(h:Rep E x v){d:LA}(a:cellsOf x=some d):RepL E d v.cells:=by
 by_cases e:∃ f,x=.agg f
 ·obtain⟨f,rfl⟩:=e;simp only[cellsOf,f2h]at a;subst a;obtain⟨l,rfl,k,hi⟩:=a1q h;exact⟨k,hi⟩
 ·have g:cellA x=true:=by
   cases x<;>first|rfl|(simp[cellsOf]at a;done)|exact absurd ⟨_,rfl⟩ e
  have j:d=[x]:=by
   cases x<;>first|(simp only[cellsOf,f2h]at a;exact a.symm)|(simp[cellsOf]at a;done)|exact absurd ⟨_,rfl⟩ e
  have h3:v.cells= #[v]:=by
   have:=cp3 h g;cases v<;>first|rfl|(simp[Value.oneCell']at this;done)
  rw[j,h3];refine⟨rfl,λi c u a b=>?_⟩
  match i,a,b with
  |0,a,b=>simp at a b;subst a;subst b;exact h
  |i+1,a,_=>simp at a
def bx5{P:Program}{E:Env}{w:World}{H:AH}(G:Sim E w H){n:Nat}{x:AV}{v:Value}(L:Rep E x v){J:LA}(a:Lr H n x=some J) :
 ∃ b off cells I q,v=.pointer (some ⟨b,off,none⟩)/\w.heap[b]?=some (.cells cells I q)/\off+n<=cells.size/\RepL E J (cells.extract off (off+n)):=by
 unfold Lr at a;split at a
 ·rename_i r i j tot;split at a
  ·rename_i o T;have⟨z,K,W⟩:=Ie G T;split at a
   ·rename_i e s;split at a
    ·rename_i Z;cases a;obtain⟨y,X,rfl⟩:=Z8 L W;have F:=Hs G z X;obtain⟨cells,I,q,Q,S,hq,_,A⟩:=F.blk;have C:i<o.length:=by
      rcases f5u i o.length with h|h
      ·exact h
      ·rw[f0e h]at s;cases s
     have V:e.length=y.sz:=F.sz e (f0q s);have p:i*y.sz+j+n<=cells.size:=by
      have Y:=F.fits;have N:(i+1)*y.sz<=o.length*y.sz:=f0r _ C;rw[f6n]at N;omega
     refine⟨_,_,cells,I,q,rfl,Q,p,?_,?_⟩
     ·simp;omega
     ·intro k c u f g;have l:k<n:=by
       rcases f5u k n with h|h
       ·exact h
       ·rw[f0e (by simp;omega)]at f;cases f
      have D:e[j+k]?=some c:=by
       rw[ez3 l,f1l]at f;exact f
      have m:cells[i*y.sz+(j+k)]?=some u:=by
       rw[f06]at g;split at g
       ·rw[<-g];congr 1;omega
       ·cases g
      exact A i e (j+k) c u s D m
    ·cases a
   ·cases a
  ·cases a
 ·rename_i M;split at a
  ·rename_i S;cases a;have U:=bs7 L;cases U with
   |fptr _ b off cells t q O R A=>
     refine⟨b,off,cells,t,q,rfl,G.frz _ _ (.inl O),by omega,by simp;omega,?_⟩;intro k c u f g;have l:k<n:=by
      rcases f5u k n with h|h
      ·exact h
      ·rw[f0e (by simp;omega)]at f;cases f
     rw[f2i,ez3 l]at f;cases B:M[k]? with
     |none=>rw[B]at f;cases f
     |some d=>
       rw[B]at f;cases f;have m:cells[off+k]?=some u:=by
        rw[f06]at g;split at g
        ·exact g
        ·cases g
       exact .pure (A k d u B m)
  ·cases a
 ·cases a
def dh3{P:Program}{c:Bool}{n:Nat}{x:Opd}{t:TypeId}{y:Operand}(i:B7 P (.load c n x) (.load t y)=true):Fz P (.load t y) (.load c n x):=by
 intro E w H fr a v p z B A f;simp only[B7,f32]at i;have⟨⟨k,u⟩,i⟩:=i;have k:=a5q k;have C:=Bv A i;simp only[Be]at f;cases e:Lr H n (evalA fr x)with
 |none=>rw[e]at f;cases f
 |some l=>
   rw[e]at f;cases f;have⟨b,off,cells,D,q,f,r,j,d⟩:=bx5 (P:=P) B C e;have o:c=false->n=1:=(by intro h;subst h;simpa using u);have g:=bp9 (P:=P) k r j o;refine⟨if c then .agg (cells.extract off (off+n))else(cells[off]?).getD undef,?_,?_⟩
   ·simp only[execOp,z];apply Ey;simp only[Instr.loadAt,f,Instr.sureAddr,f5v,f5w,Result.andThen];exact g
   ·cases c with
    |true=>exact .agg _ _ (by simpa using d.1) d.2
    |false=>
      have:=o rfl;subst this;simp only[Fg,f1k,if_false];have s:=d.1;have m:l[0]?=some (l[0]'(by simp at s;omega)):=ez2 _;rw[m,ey4 (show off<cells.size from by omega)];exact d.2 0 _ _ m (by rw[f06];simp;omega)
def dg9{P:Program}{x:Opd}{o:Op}(b:B7 P (.mv x) o=true):Fz P o (.mv x):=by
 intro E w H fr a v d e g f c;simp only[Be,f2h]at c;subst c;cases o<;>simp only[B7,f1k]at b
 all_goals
  refine⟨_,?_,Bv f b⟩;simp only[execOp,e];rfl
def dg6{P:Program}{c x y:Opd}{o:Op}(g:B7 P (.pick c x y) o=true):Fz P o (.pick c x y):=by
 intro E w H fr a v i h m f b;cases o<;>simp only[B7,f32,f1k]at g;rename_i l x' n;have⟨⟨j,k⟩,h3⟩:=g;have d:=Bv f j;simp only[Be]at b;split at b
 ·rename_i e;rw[e]at d;cases b;refine⟨_,?_,Bv f k⟩;simp only[execOp,h,Se d,asBool,f5v,f5w,Result.andThen];rfl
 ·rename_i e;rw[e]at d;cases b;refine⟨_,?_,Bv f h3⟩;simp only[execOp,h,Se d,asBool,f5v,f5w,Result.andThen];rfl
 ·cases b
def dg8{P:Program}{x:Opd}{o:Op}(g:B7 P (.nilchk x) o=true):Fz P o (.nilchk x):=by
 intro E w H fr a v k h m l c;cases o<;>simp only[B7,f1k]at g;rename_i x';have d:=Bv l g;simp only[Be]at c;split at c
 ·rename_i r i j tot e;rw[e]at d;cases f:B1 H r tot with
  |none=>rw[f]at c;cases c
  |some o=>
    rw[f]at c;cases c;have⟨y,p,c⟩:=Z8 d (Ie m f).2.2;refine⟨_,?_,d⟩;simp only[execOp,h,c];rfl
 ·rename_i n e;rw[e]at d;cases c;obtain⟨b,off,cells,t,q,c,_⟩:=b2b d;refine⟨_,?_,d⟩;simp only[execOp,h,c];rfl
 ·cases c
def d8h{P:Program}{w:World}(op:BinOp)(t:TypeId)(x y:Operand)(k c:IntKind)(a b:Int):(eqGuard op t x y (.int k a) (.int c b)).run P w=.ok () w:=by
 cases op<;>rfl
def d8g{P:Program}{w:World}(op:BinOp)(t:TypeId)(x y:Operand)(a b:ByteArray):(eqGuard op t x y (.string a) (.string b)).run P w=.ok () w:=by
 cases op<;>rfl
def d8i{P:Program}{w:World}(op:BinOp)(t:TypeId)(x y:Operand)(a b:Bool):(eqGuard op t x y (.bool a) (.bool b)).run P w=.ok () w:=by
 cases op<;>rfl
def dj8{P:Program}{op:BinOp}{x y:Opd}{o:Op}(g:B7 P (.bini op x y) o=true):Fz P o (.bini op x y):=by
 intro E w H fr a v p B F h b;cases o<;>simp only[B7,f32,f1k,f2f]at g;rename_i D t x' I G;obtain⟨⟨rfl,s⟩,z⟩:=g;have i:=Bv h s;have j:=Bv h z;simp only[Be]at b;split at b
 ·rename_i k m l n q r;rw[q]at i;rw[r]at j;split at b
  ·rename_i A;have f:∃ u,(binOp op t (.int k m) (.int l n)).run P w=.ok u w/\Rep E v u:=by
    cases op<;>simp only[Hw]at b<;>simp only[binOp]
    case shl=>
     split at b
     ·cases b
     ·rename_i c;cases b;refine⟨_,?_,.pure (x:=.int _ _) (.int _ _)⟩;simp only[Op.shift,iN c];rfl
    case shr=>
     split at b
     ·cases b
     ·rename_i c;cases b;refine⟨_,?_,.pure (x:=.int _ _) (.int _ _)⟩;simp only[Op.shift,iN c];rfl
    all_goals
     have d:k=l:=(by simpa using A);subst d;simp only[ne_eq,f2j,if_false]
    case quo=>
     split at b
     ·cases b
     ·rename_i c;cases b;refine⟨_,?_,.pure (x:=.int _ _) (.int _ _)⟩;simp only[Op.intDiv,iN c];rfl
    case rem=>
     split at b
     ·cases b
     ·rename_i c;cases b;refine⟨_,?_,.pure (x:=.int _ _) (.int _ _)⟩;simp only[Op.intDiv,iN c];rfl
    case eql=>cases b;exact⟨_,rfl,.pure (x:=.bool _) (.bool _)⟩
    case neq=>cases b;exact⟨_,rfl,.pure (x:=.bool _) (.bool _)⟩
    case lss=>cases b;exact⟨_,rfl,.pure (x:=.bool _) (.bool _)⟩
    case leq=>cases b;exact⟨_,rfl,.pure (x:=.bool _) (.bool _)⟩
    case gtr=>cases b;exact⟨_,rfl,.pure (x:=.bool _) (.bool _)⟩
    case geq=>cases b;exact⟨_,rfl,.pure (x:=.bool _) (.bool _)⟩
    all_goals (cases b;exact⟨_,rfl,.pure (x:=.int _ _) (.int _ _)⟩)
   have⟨u,C,e⟩:=f;refine⟨u,?_,e⟩;simp only[execOp,B,Fm i,Fm j];apply Ey;simp only[f5v,d8h,Result.andThen,C]
  ·cases b
 ·cases b
def b1b(l:List UInt8):(⟨l.toArray⟩:ByteArray).toList=l:=by simp
def dj7{P:Program}{op:BinOp}{x y:Opd}{o:Op}(f:B7 P (.bins op x y) o=true):Fz P o (.bins op x y):=by
 intro E w H fr a v k r C g b;cases o<;>simp only[B7,f32,f1k,f2f]at f;rename_i A t x' F D;obtain⟨⟨rfl,p⟩,q⟩:=f;have h:=Bv g p;have i:=Bv g q;simp only[Be]at b;split at b
 ·rename_i s e m n;rw[m]at h;rw[n]at i;have d:∃ u,(binOp op t (.string ⟨s.toArray⟩) (.string ⟨e.toArray⟩)).run P w=.ok u w/\Rep E v u:=by
   cases op<;>simp only[Qj]at b<;>simp only[binOp,Op.stringOp,b1b]
   case add=>
    split at b
    ·rename_i B;cases b;have j:∀ l:List UInt8,(⟨l.toArray⟩:ByteArray).size=l.length:=(by intro l;simp[ByteArray.size]);rw[iN (by rw[j,j];simp[IntKind.max,IntKind.bits,IntKind.signed];omega)];have:(⟨s.toArray⟩:ByteArray)++⟨e.toArray⟩=⟨(s++e).toArray⟩:=by
      apply ByteArray.ext;simp
     rw[this];exact⟨_,rfl,.pure (x:=.str _) (.str _)⟩
    ·cases b
   all_goals first|(cases b;exact⟨_,rfl,.pure (x:=.bool _) (.bool _)⟩)|cases b
  have⟨u,z,c⟩:=d;refine⟨u,?_,c⟩;simp only[execOp,r,Lo h,Lo i];apply Ey;simp only[f5v,d8g,Result.andThen,z]
 ·cases b
def di3{P:Program}{d:Bool}{x y:Opd}{o:Op}(h:B7 P (.eqb d x y) o=true):Fz P o (.eqb d x y):=by
 intro E w H fr a v l r u i f;cases o<;>simp only[B7,f32,f1k,f2f]at h;rename_i s t x' A z;obtain⟨⟨⟨rfl,e⟩,p⟩,q⟩:=h;have j:=Bv i p;have k:=Bv i q;have e:P.underlying t=some .bool:=by
  split at e<;>first|assumption|cases e
 simp only[Be]at f;split at f
 ·rename_i b c m n;rw[m]at j;rw[n]at k;cases f;have g:(Op.equal t (.bool b) (.bool c)).run P w=.ok (b==c) w:=by
   have:Op.equal t (.bool b) (.bool c)=Op.equalIn (9999+1) t (.bool b) (.bool c):=rfl;rw[this];unfold Op.equalIn;simp only[f5v,f4m e,Result.andThen];rfl
  refine⟨.bool ((b==c) != d),?_,.pure (x:=.bool _) (.bool _)⟩;simp only[execOp,r,Se j,Se k];apply Ey;simp only[f5v,d8i,Result.andThen];cases d<;>simp only[binOp,if_true,if_false,f1k,f5v,g,Result.andThen]<;>cases b<;>cases c<;>rfl
 ·cases f
def df9{P:Program}{op:UnOp}{x:Opd}{o:Op}(g:B7 P (.un op x) o=true):Fz P o (.un op x):=by
 intro E w H fr a v i h p l c;cases o<;>simp only[B7,f32,f1k,f2f]at g;rename_i m t x';obtain⟨rfl,j⟩:=g;have d:=Bv l j;simp only[Be]at c;split at c
 ·rename_i b e;rw[e]at d;split at c
  ·rename_i f;subst f;cases c;refine⟨_,?_,.pure (x:=.bool _) (.bool _)⟩;simp only[execOp,h,Se d];rfl
  ·cases c
 ·rename_i k n e;rw[e]at d;cases op<;>simp only[unI]at c<;>cases c
  all_goals
   refine⟨_,?_,.pure (x:=.int _ _) (.int _ _)⟩;simp only[execOp,h,Fm d];rfl
 ·cases c
def di8{P:Program}{k:IntKind}{x:Opd}{o:Op}(h:B7 P (.convi k x) o=true):Fz P o (.convi k x):=by
 intro E w H fr a v j p r q d;cases o<;>simp only[B7,f32,f1k,f2f]at h;rename_i s t y;have⟨⟨c,b⟩,m⟩:=h;have i:=Bv q m;have⟨l,f⟩:=ez4.1 c;have b:P.underlying t=some (.int k):=by
  split at b
  ·rename_i u g;simp only[f2f]at b;subst b;exact g
  ·cases b
 simp only[Be]at d;split at d
 ·rename_i z n e;rw[e]at i;cases d;refine⟨_,?_,.pure (x:=.int _ _) (.int _ _)⟩;simp only[execOp,p,Fm i];apply Ey;simp only[convert,f5v,f4m f,f4m b,Result.andThen];cases l<;>rfl
 ·cases d
def di5{P:Program}{x:Opd}{o:Op}(g:B7 P (.convss x) o=true):Fz P o (.convss x):=by
 intro E w H fr a v i l p m d;cases o<;>simp only[B7,f32,f1k,f2f]at g;rename_i s t y;have⟨⟨c,b⟩,k⟩:=g;have h:=Bv m k;have⟨j,f⟩:=ez4.1 c;have b:P.underlying t=some .string:=by
  split at b<;>first|assumption|cases b
 simp only[Be]at d;split at d
 ·rename_i n e;rw[e]at h;cases d;refine⟨_,?_,.pure (x:=.str _) (.str _)⟩;simp only[execOp,l,Lo h];apply Ey;simp only[convert,f5v,f4m f,f4m b,Result.andThen];cases j<;>rfl
 ·cases d
def di1{P:Program}{x:Opd}{i:Nat}{o:Op}(f:B7 P (.ext x i) o=true):Fz P o (.ext x i):=by
 intro E w H fr a v l n t p b;cases o<;>simp only[B7,f32,f1k,f2f]at f;rename_i y j;obtain⟨rfl,m⟩:=f;have k:=Bv p m;simp only[Be]at b;split at b
 ·rename_i r e;rw[e]at k;have⟨c,q,s,hi⟩:=bs5 k;have d:i<c.size:=by
   rcases f5u i r.length with h|h
   ·omega
   ·rw[f0e h]at b;cases b
  have g:c[i]?=some c[i]:=ey4 d;refine⟨c[i],?_,hi i v _ b g⟩;simp only[execOp,n,q];apply Ey;simp only[Instr.extract,g];rfl
 ·cases b
def bn0{E:Env}{w:World}{H:AH}(d:Sim E w H){r sz off len tot:Nat}{v:Value}(h:Rep E (.own r sz off len tot) v){o:AObj}(c:B1 H r tot=some o) :
 ∃ a cap,v=.slice a len cap:=by
 rcases Kh h (Ie d c).2.2 with ⟨a,e,b,h3,rfl⟩|⟨x,cap,_,_,_,_,_,_,rfl⟩
 ·subst b;exact⟨a,0,rfl⟩
 ·exact⟨_,cap,rfl⟩
theorem dh4{P:Program}{str:Bool}{x:Opd}{o:Op}(hf:B7 P (.len str x) o=true):Fz P o (.len str x):=by
 intro E w H fr a v oper ho hs hr hv;cases o<;>simp only[B7,f1k]at hf;rename_i c;obtain⟨callee,args,ts⟩:=c;cases callee<;>try (simp only[B7,f1k]at hf;done)
 rename_i b;cases b<;>simp only[B7,f1k]at hf;split at hf
 ·rename_i y t hargs hts;rw[f32]at hf;obtain⟨ht,h1⟩:=hf;have hx:=Bv hr h1;have hargs:args= #[y]:=by apply f6v;simpa using hargs
  have hts:ts= #[t]:=by apply f6v;simpa using hts
  subst hargs;subst hts;have Cj:∀ n:Nat,v=.int .i64 n->(Builtin.len_ #[t] oper.type #[a.eval y]).run P w=.ok (.int .i64 n) w->
   ∃ u,(execOp a.eval oper).run P w=.ok (.value u) w/\Rep E v u:=by
   intro n hv hrun;subst hv;refine⟨.int .i64 n,?_,.pure (x:=.int _ _) (.int _ _)⟩;simp only[execOp,ho,resolve,f5v,f5w,Result.andThen,invoke,builtin,f34,f5b,f5x,hrun]
  cases str with
  |true=>
    have hund:P.underlying t=some .string:=by
     split at ht<;>first|assumption|cases ht
    simp only[Be]at hv;split at hv
    ·rename_i s e;rw[e]at hx;cases hv;refine Cj s.length rfl ?_;rw[Lo hx];unfold Builtin.len_;simp only[f0g,ez7,f5v,f4m hund,Result.andThen];simp[goInt,ByteArray.size]
    ·cases hv
  |false=>
    obtain⟨et,hund⟩:∃ e,P.underlying t=some (.slice e):=by
     split at ht
     ·cases ht
     ·exact⟨_,by assumption⟩
     ·cases ht
    have key:∀ (n cap:Nat) (ad:Option Addr),a.eval y=.slice ad n cap->(Builtin.len_ #[t] oper.type #[a.eval y]).run P w=.ok (.int .i64 n) w:=by
     intro n cap ad he;rw[he];unfold Builtin.len_;simp only[f0g,ez7,f5v,f4m hund,Result.andThen];rfl
    simp only[Be]at hv;split at hv
    ·rename_i e;rw[e]at hx;cases hv;obtain⟨ad,hu⟩:=Jc hx;exact Cj 0 rfl (key 0 0 ad hu)
    ·rename_i es e;rw[e]at hx;cases hv;obtain⟨ad,cap,hu,_⟩:=Qu hx;exact Cj es.length rfl (key _ cap ad hu)
    ·rename_i r sz off len tot e;rw[e]at hx;cases hl:B1 H r tot with
     |none=>rw[hl]at hv;cases hv
     |some o=>
       rw[hl]at hv;cases hv;obtain⟨ad,cap,hu⟩:=bn0 hs hx hl;exact Cj len rfl (key _ cap ad hu)
    ·cases hv
 ·cases hf
def c1g{P:Program}{isMax:Bool}{x y:Opd}{o:Op}(f:B7 P (if isMax then .max2 x y else .min2 x y) o=true):Fz P o (if isMax then .max2 x y else .min2 x y):=by
 intro E w H fr a v p s u i h;cases isMax<;>simp only[f1k,if_false,if_true]at f h
 all_goals
  cases o<;>simp only[B7,f1k]at f;rename_i c;have⟨e,g,ts⟩:=c;cases e<;>try (simp only[B7,f1k]at f;done)
  rename_i b;cases b<;>simp only[B7,f1k]at f;split at f
  ·rename_i x' t d;rw[f32]at f;have j:=Bv i f.1;have l:=Bv i f.2;have d:g= #[x',t]:=(by apply f6v;simpa using d);subst d;simp only[Be]at h;split at h
   ·rename_i k m z n q r;rw[q]at j;rw[r]at l;cases h;refine⟨_,?_,.pure (x:=.int _ _) (.int _ _)⟩;simp only[execOp,s,resolve,f5v,f5w,Result.andThen,invoke,builtin,f34,f5b,f5x,Fm j,Fm l,Builtin.max_,Builtin.min_,List.foldlM_cons,List.foldlM_nil,Builtin.max2,Builtin.min2]
   ·cases h
  ·cases f
def dh2{P:Program}{f:Fn}{first cap:LQ}{o:Op}(n:B7 P (.mkfn f first cap) o=true):Fz P o (.mkfn f first cap):=by
 intro E w H fr a v s A D B p;cases o<;>simp only[B7,f32,f1k,f2f]at n;rename_i g b k
 obtain⟨⟨rfl,t⟩,z⟩:=n;have l:∀ (m:LQ) (d:List Operand),B7.fitOs m d=true->RepL E (m.map (evalA fr)) (d.map a.eval).toArray:=by
  intro m
  induction m with
  |nil=>intro d h;cases d<;>simp only[B7.fitOs,f1k]at h;exact RepL.nil E
  |cons x m C=>
    intro d h;cases d with
    |nil=>simp[B7.fitOs]at h
    |cons y d=>
      simp only[B7.fitOs,f32]at h
      have:=C d h.2;refine⟨by have:=this.1;simp at this;simp[this],λi c u e j=>?_⟩;cases i with
      |zero=>simp at e j;subst e;subst j;exact Bv B h.1
      |succ i=>exact this.2 i c u (by simpa using e) (by simpa using j)
 have q:=l _ _ t;have r:=l _ _ z;simp only[Be,f2h]at p;subst p;refine⟨.func f (b.map a.eval) (k.map a.eval),?_,?_⟩
 ·simp only[execOp,A];rfl
 ·refine .fn _ _ _ _ _ (by simpa using q.1) (by simpa using r.1) (λi c u e j=>q.2 i c u e (by simpa using j)) (λi c u e j=>r.2 i c u e (by simpa using j))
def di0{P:Program}{off:Nat}{x:Opd}{o:Op}(G:B7 P (.faddr off x) o=true):Fz P o (.faddr off x):=by
 intro E w H fr a v z S J T d;cases o<;>simp only[B7,f32,f1k]at G;rename_i t y f;have⟨h,K⟩:=G;have B:=Bv T K;obtain⟨C,g,i,U,O,n,hi,D⟩:∃ C g i,P.underlying t=some (.struct C)/\C[f]?=some g/\g.offset=off/\P.info? g.type=some i/\i.size≠0:=by
  split at h
  ·split at h
   ·rw[f32]at h;have⟨L,h3⟩:=h;split at h3
    ·exact⟨_,_,_,by assumption,by assumption,by simpa using L,by assumption,by simpa using h3⟩
    ·cases h3
   ·cases h
  ·cases h
 have s:∀ b k,a.eval y=.pointer (some ⟨b,k,none⟩)->(execOp a.eval z).run P w=.ok (.value (.pointer (some ⟨b,k+off,none⟩))) w:=by
  intro b k l;simp only[execOp,S];apply Ey;simp only[Instr.fieldAt,f5v,f4m U,Result.andThen,O,l,Instr.sureAddr,f5w,fieldPlace,Hg hi,iN D,Yo,n]
 simp only[Be]at d;split at d
 ·rename_i r k j tot e;rw[e]at B;cases A:B1 H r tot with
  |none=>rw[A]at d;cases d
  |some o=>
    rw[A]at d;cases d;have⟨x',p,l⟩:=Z8 B (Ie J A).2.2;refine⟨_,s _ _ l,?_⟩;rw[f5c];exact .ptr r k (j+off) tot x' p ((Ie J A).2.2 x' p)
 ·rename_i W e;rw[e]at B;split at d
  ·rename_i R;cases d;have⟨b,k,cells,V,q,l,M,Q,N⟩:=b2b B;refine⟨_,s _ _ l,.pure (x:=.fptr _) (.fptr _ b (k+off) cells V q M (by simp;omega) ?_)⟩;intro m c u I F;rw[f1l]at I;exact N (off+m) c u I (by rw[<-F];congr 1;omega)
  ·cases d
 ·cases d
def dh8{P:Program}{sz:Nat}{x i:Opd}{o:Op}(U:B7 P (.iaddr sz x i) o=true):Fz P o (.iaddr sz x i):=by
 intro E w H fr a v I ho hs W d;cases o<;>simp only[B7,f32,f1k]at U;rename_i t y j;have⟨⟨C,Y⟩,Z⟩:=U;have J:=Bv W Y;have hi:=Bv W Z;obtain⟨et,z,hu,B,R⟩:∃ e z,P.underlying t=some (.slice e)/\P.info? e=some z/\z.size=sz:=by
  split at C
  ·split at C
   ·exact⟨_,_,by assumption,by assumption,by simpa using C⟩
   ·cases C
  ·cases C
 have G:∀ b k len cap kk n,a.eval y=.slice (some ⟨b,k,none⟩) len cap->a.eval j=.int kk n->0<=n->n<len->
  (execOp a.eval I).run P w=.ok (.value (.pointer (some ⟨b,k+n.toNat*sz,none⟩))) w:=by
  intro b k len cap kk n A hj m g;simp only[execOp,ho];apply Ey;simp only[Instr.indexAt,hj,A,asIntOf,f5v,f5w,Result.andThen,f4m hu,iP (And.intro m g),Hg B,R,Yo]
 simp only[Be]at d;split at d
 ·rename_i M kk n K L;rw[K]at J;rw[L]at hi;split at d
  ·rename_i m;split at d
   ·rename_i e A;split at d
    ·rename_i O;cases d;have g:n.toNat<M.length:=by
      rcases f5u n.toNat M.length with h|h
      ·exact h
      ·rw[f0e h]at A;cases A
     have⟨X,cap,s,T,Q⟩:=Qu J;obtain⟨b,off,l,cells,te,q,rfl,hF,f,a1,hc⟩:=Q (by rintro rfl;simp at g);have p:l=sz:=(by rw[<-f e (f0q A),O]);subst p;refine⟨_,G b off _ cap kk n s (Fm hi) m om,.pure (x:=.fptr _) (.fptr _ b _ cells te q hF ?_ ?_)⟩
     ·have h3:(n.toNat+1)*l<=M.length*l:=f0r _ g;rw[f6n]at h3;omega
     ·intro k c u hk S;exact hc n.toNat e k c u A hk (by rw[<-S];congr 1;omega)
    ·cases d
   ·cases d
  ·cases d
 ·rename_i r l off len tot kk n K L;rw[K]at J;rw[L]at hi;split at d
  ·rename_i m;obtain⟨m,g,rfl⟩:=m;cases N:B1 H r tot with
   |none=>rw[N]at d;cases d
   |some o=>
     rw[N]at d;cases d;have⟨a0,V,D⟩:=Ie hs N;rcases Kh J D with ⟨X,z1,z2,z3,_⟩|⟨x',cap,F,f,g1,g2,g3,g4,s⟩
     ·omega
     ·refine⟨_,G _ _ len cap kk n s (Fm hi) m g,?_⟩
      have:=Rep.ptr (E:=E) r (off+n.toNat) 0 tot x' F (D _ F);rw[f,f6n,f5y]at this;rw[f];exact this
  ·cases d
 ·cases d
def dh7{P:Program}{len sz:Nat}{x i:Opd}{o:Op}(K:B7 P (.iaddra len sz x i) o=true):Fz P o (.iaddra len sz x i):=by
 intro E w H fr a v A V N M d;cases o<;>simp only[B7,f32,f1k]at K;rename_i t y j;have⟨⟨f,O⟩,Q⟩:=K;have C:=Bv M O;have hi:=Bv M Q;obtain⟨Z,h,W,p,I⟩:∃ e h,P.underlying t=some (.array len e)/\P.info? e=some h/\h.size=sz:=by
  split at f
  ·rw[f32,f2f]at f;obtain⟨rfl,f⟩:=f;split at f
   ·exact⟨_,_,by assumption,by assumption,by simpa using f⟩
   ·cases f
  ·cases f
 have z:∀ b k kk n,a.eval y=.pointer (some ⟨b,k,none⟩)->a.eval j=.int kk n->0<=n->n<len->
  (execOp a.eval A).run P w=.ok (.value (.pointer (some ⟨b,k+n.toNat*sz,none⟩))) w:=by
  intro b k kk n l U g G;simp only[execOp,V];apply Ey;simp only[Instr.indexAt,U,l,asIntOf,f5v,f5w,Result.andThen,f4m W,Instr.sureAddr,iP (And.intro g G),Hg p,I,Yo]
 simp only[Be]at d;split at d
 ·rename_i r k j' tot kk n D F;rw[D]at C;rw[F]at hi;split at d
  ·rename_i g;cases B:B1 H r tot with
   |none=>rw[B]at d;cases d
   |some o=>
     rw[B]at d;cases d;have⟨x',s,l⟩:=Z8 C (Ie N B).2.2;refine⟨_,z _ _ kk n l (Fm hi) g.1 g.2,?_⟩;rw[f5c];exact .ptr r k _ tot x' s ((Ie N B).2.2 x' s)
  ·cases d
 ·rename_i Y kk n D F;rw[D]at C;rw[F]at hi;split at d
  ·rename_i g;cases d;have⟨b,k,cells,X,q,l,R,T,S⟩:=b2b C;refine⟨_,z _ _ kk n l (Fm hi) g.1 g.2.1,.pure (x:=.fptr _) (.fptr _ b _ cells X q R (by simp;omega) ?_)⟩;intro m c u L J;rw[f1l]at L;exact S _ c u L (by rw[<-J];congr 1;omega)
  ·cases d
 ·cases d
def dh5{P:Program}{x i:Opd}{o:Op}(k:B7 P (.indexs x i) o=true):Fz P o (.indexs x i):=by
 intro E w H fr a v q C F l c;cases o<;>simp only[B7,f32,f1k]at k;rename_i t y j;have⟨⟨m,A⟩,B⟩:=k;have p:=Bv l A;have hi:=Bv l B;have D:P.underlying t=some .string:=by
  split at m<;>first|assumption|cases m
 simp only[Be]at c;split at c
 ·rename_i s kk n r u;rw[r]at p;rw[u]at hi;split at c
  ·rename_i z;cases d:s[n.toNat]? with
   |none=>rw[d]at c;cases c
   |some b=>
     rw[d]at c;cases c;refine⟨_,?_,.pure (x:=.int _ _) (.int _ _)⟩;simp only[execOp,C];apply Ey;have g:(⟨s.toArray⟩:ByteArray)[n.toNat]?=some b:=by
      have e:n.toNat<s.length:=by
       rcases f5u n.toNat s.length with h|h
       ·exact h
       ·rw[f0e h]at d;cases d
      have f:n.toNat<(⟨s.toArray⟩:ByteArray).size:=(by simpa [ByteArray.size]using e);rw[getElem?_pos (⟨s.toArray⟩:ByteArray) n.toNat f];rw[ez2 e]at d;cases d;rfl
     simp only[Instr.index,Fm hi,Lo p,asIntOf,f5v,f5w,Result.andThen,f4m D,iP z,g]
  ·cases c
 ·cases c
def dh9{P:Program}{b:Bool}{off n:Nat}{x:Opd}{o:Op}(I:B7 P (.field b off n x) o=true):Fz P o (.field b off n x):=by
 intro E w H fr a v N K V T m;cases o<;>simp only[B7,f32,f1k]at I;rename_i t y f;have⟨l,O⟩:=I;have M:=Bv T O;obtain⟨r,g,L,J,j,A,S⟩:∃ r g,P.underlying t=some (.struct r)/\r[f]?=some g/\g.offset=off/\Pv P g.type b n=true/\(b||decide (n=1))=true:=by
  split at l
  ·split at l
   ·rw[f32,f32]at l;have⟨⟨Q,h3⟩,h4⟩:=l;exact⟨_,_,by assumption,by assumption,by simpa using Q,h3,h4⟩
   ·cases l
  ·cases l
 have B:=a5q A;have⟨i,hi,s⟩:=B.info;simp only[Be]at m;split at m
 ·rename_i C e;rw[e]at M;split at m
  ·rename_i R;cases m;have⟨q,G,U,F⟩:=a1q M;cases b with
   |true=>
     refine⟨.agg (q.extract off (off+n)),?_,.agg _ _ (by simp;omega) ?_⟩
     ·simp only[execOp,K];apply Ey;simp only[Instr.field,G,asAgg,f5v,f5w,Result.andThen,f4m L,J,part,a1l B,if_true,Hg hi,s,j]
     ·intro k c u p d;have z:k<n:=by
       rcases f5u k n with h|h
       ·exact h
       ·rw[f0e (by simp;omega)]at p;cases p
      rw[ez3 z,f1l]at p;rw[f06]at d;split at d
      ·exact F _ c u p d
      ·cases d
   |false=>
     have:n=1:=(by simpa using S);subst this;have D:q[off]?=some (q[off]' om):=ey4 _;refine⟨q[off]' om,?_,?_⟩
     ·simp only[execOp,K];apply Ey;simp only[Instr.field,G,asAgg,f5v,f5w,Result.andThen,f4m L,J,part,a1l B,j,D,f1k,if_false]
     ·simp only[Fg,f1k,if_false];have:((C.drop off).take 1)[0]?=some (C[off]' om):=by
       rw[ez3 om,f1l];simp
      rw[this];exact F off _ _ (ez2 om) D
  ·cases m
 ·cases m
def dh6{P:Program}{b:Bool}{len sz:Nat}{x i:Opd}{o:Op}(J:B7 P (.indexa b len sz x i) o=true):Fz P o (.indexa b len sz x i):=by
 intro E w H fr a v Q L Y M m;cases o<;>simp only[B7,f32,f1k]at J;rename_i t y j;have⟨⟨s,T⟩,U⟩:=J;have O:=Bv M T;have hi:=Bv M U;obtain⟨e,N,B,W⟩:∃ e,P.underlying t=some (.array len e)/\Pv P e b sz=true/\(b||decide (sz=1))=true:=by
  split at s
  ·simp only[f32,f2f]at s;obtain⟨⟨rfl,h3⟩,h4⟩:=s;exact⟨_,by assumption,h3,h4⟩
  ·cases s
 have C:=a5q B;have⟨X,f,p⟩:=C.info;simp only[Be]at m;split at m
 ·rename_i D k n R S;rw[R]at O;rw[S]at hi;split at m
  ·rename_i l;have⟨q,V,l⟩:=l;cases m;have⟨z,I,K,G⟩:=a1q O;have F:0<=n/\n<(len:Int):=⟨q,V⟩;generalize g:n.toNat*sz=off at l;cases b with
   |true=>
     refine⟨.agg (z.extract off (off+sz)),?_,.agg _ _ (by simp;omega) ?_⟩
     ·simp only[execOp,L];apply Ey;simp only[Instr.index,Fm hi,I,asIntOf,f5v,f5w,Result.andThen,f4m N,iP F,Hg f,p,part,a1l C,if_true,g]
     ·intro k c u r d;have A:k<sz:=by
       rcases f5u k sz with h|h
       ·exact h
       ·rw[f0e (by simp;omega)]at r;cases r
      rw[ez3 A,f1l]at r;rw[f06]at d;split at d
      ·exact G _ c u r d
      ·cases d
   |false=>
     have:sz=1:=(by simpa using W);subst this;have q:z[off]?=some (z[off]' om):=ey4 _;refine⟨z[off]' om,?_,?_⟩
     ·simp only[execOp,L];apply Ey;simp only[Instr.index,Fm hi,I,asIntOf,f5v,f5w,Result.andThen,f4m N,iP F,Hg f,p,part,a1l C,g,q,f1k,if_false]
     ·simp only[Fg,f1k,if_false];have:((D.drop off).take 1)[0]?=some (D[off]' om):=by
       rw[ez3 om,f1l];simp
      rw[this];exact G off _ _ (ez2 om) q
  ·cases m
 ·cases m
theorem dj1{P:Program}{x:Opd}{o:Op}(hf:B7 P (.cap x) o=true):Fz P o (.cap x):=by
 intro E w H fr a v oper ho hs hr hv;cases o<;>simp only[B7,f1k]at hf;rename_i c;obtain⟨callee,args,ts⟩:=c;cases callee<;>try (simp only[B7,f1k]at hf;done)
 rename_i b;cases b<;>simp only[B7,f1k]at hf;split at hf
 ·rename_i y t hargs hts;rw[f32]at hf;obtain⟨ht,h1⟩:=hf;have hx:=Bv hr h1;have hargs:args= #[y]:=by apply f6v;simpa using hargs
  have hts:ts= #[t]:=by apply f6v;simpa using hts
  subst hargs;subst hts;obtain⟨et,hund⟩:∃ e,P.underlying t=some (.slice e):=by
   split at ht
   ·exact⟨_,by assumption⟩
   ·cases ht
  simp only[Be]at hv;split at hv
  ·rename_i e;rw[e]at hx;cases hv;obtain⟨ad,he⟩:=Jc hx;have hrun:(Builtin.cap_ #[t] oper.type #[a.eval y]).run P w=.ok (.int .i64 0) w:=by
    rw[he];unfold Builtin.cap_;simp only[f0g,ez7,f5v,f4m hund,Result.andThen];rfl
   refine⟨.int .i64 0,?_,.pure (x:=.int _ _) (.int _ _)⟩;simp only[execOp,ho,resolve,f5v,f5w,Result.andThen,invoke,builtin,f34,f5b,f5x,hrun]
  ·cases hv
 ·cases hf
def W9{E:Env}{fr:LA}{a:Act}(j:RepL E fr a.tmps){x:Option Opd}{x':Option Operand}(f:B7.fitOO x x'=true){d b m:Nat}(h:C9 (evalA fr) x d b=some m) :
 (x'=none/\m=d)\/∃ c k n,x'=some c/\a.eval c=.int k n/\0<=n/\n<=b/\m=n.toNat:=by
 cases x with
 |none=>
   cases x' with
   |none=>simp only[C9,f2h]at h;exact .inl ⟨rfl,h.symm⟩
   |some c=>simp[B7.fitOO]at f
 |some y=>
   cases x' with
   |none=>simp[B7.fitOO]at f
   |some c =>
     simp only[B7.fitOO]at f;have i:=Bv j f;simp only[C9]at h;split at h
     ·rename_i k n e;rw[e]at i;split at h
      ·rename_i g;cases h;exact .inr ⟨c,k,n,rfl,Fm i,g.1,g.2,rfl⟩
      ·cases h
     ·cases h
def a68{P:Program}{w:World}{E:Env}{fr:LA}{a:Act}(p:RepL E fr a.tmps)(b:Bool){lo hi:Option Opd}{g d:Option Operand}
 (u:B7.fitOO lo g=true) (t:B7.fitOO hi d=true) {len cap i h l:Nat} (q:i<=cap) (r:C9 (evalA fr) hi len i=some h) (s:C9 (evalA fr) lo 0 h=some l) :
 (Instr.sliceBounds b len cap (g.map a.eval) (d.map a.eval) none).run P w=.ok (l,h,cap) w:=by
 unfold Instr.sliceBounds;rcases W9 p t r with ⟨rfl,rfl⟩|⟨z,k,n,rfl,m,o,v,rfl⟩<;>rcases W9 p u s with ⟨rfl,rfl⟩|⟨A,x,y,rfl,c,f,e,rfl⟩
 ·rfl
 ·simp only[f3x,f3y,f5v,f5w,Result.andThen,Instr.sliceBound,c,asIntOf,iP (And.intro f e)]
 ·have j:0<=n/\n<=(cap:Int):=⟨o,by omega⟩;simp only[f3x,f3y,f5v,f5w,Result.andThen,Instr.sliceBound,m,asIntOf,iP j]
 ·have j:0<=n/\n<=(cap:Int):=⟨o,by omega⟩;simp only[f3y,f5v,f5w,Result.andThen,Instr.sliceBound,m,c,asIntOf,iP j,iP (And.intro f e)]
def dg3{P:Program}{x:Opd}{lo hi:Option Opd}{o:Op}(c:B7 P (.slices x lo hi) o=true):Fz P o (.slices x lo hi):=by
 intro E w H fr a v i r C d b;cases o<;>simp only[B7,f1k]at c;rename_i t y A p B;cases B<;>simp only[B7,f32,f1k]at c;have⟨⟨⟨f,j⟩,k⟩,h3⟩:=c;have g:=Bv d j;have u:P.underlying t=some .string:=by
  split at f<;>first|assumption|cases f
 simp only[Be]at b;split at b
 ·rename_i s e;rw[e]at g;split at b
  ·rename_i h n;split at b
   ·rename_i l q;cases b;have z:(⟨s.toArray⟩:ByteArray).size=s.length:=(by simp[ByteArray.size]);have m:=a68 (P:=P) (w:=w) d false k h3 (cap:=s.length) (f6o _) n q;refine⟨.string ((⟨s.toArray⟩:ByteArray).extract l h),?_,?_⟩
    ·simp only[execOp,r];apply Ey;simp only[Instr.sliceAt,f5v,f4m u,Result.andThen,Instr.slice,Lo g,z,f3x,f1m,f1k,if_false,m];rfl
    ·have:(⟨s.toArray⟩:ByteArray).extract l h=⟨((s.take h).drop l).toArray⟩:=by
      apply ByteArray.ext;simp[List.drop_take]
     rw[this];exact .pure (x:=.str _) (.str _)
   ·cases b
  ·cases b
 ·cases b
def dg4{P:Program}{sz:Nat}{x:Opd}{lo hi:Option Opd}{o:Op}(hf:B7 P (.slicel sz x lo hi) o=true):Fz P o (.slicel sz x lo hi):=by
 intro E w H fr a v a1 ho hs s d;cases o<;>simp only[B7,f1k]at hf;rename_i t y a8 K mx;cases mx<;>simp only[B7,f32,f1k]at hf;have⟨⟨⟨ht,h1⟩,R⟩,h3⟩:=hf;have S:=Bv s h1;obtain⟨et,O,hu,X,a6⟩:∃ e O,P.underlying t=some (.slice e)/\P.info? e=some O/\O.size=sz:=by
  split at ht
  ·split at ht
   ·exact⟨_,_,by assumption,by assumption,by simpa using ht⟩
   ·cases ht
  ·cases ht
 have G:∀ z len cap l h,a.eval y=.slice z len cap->(Instr.sliceBounds true len cap (a8.map a.eval) (K.map a.eval) none).run P w=.ok (l,h,cap) w->
  (execOp a.eval a1).run P w=.ok (.value (.slice (if cap=l then z else z.map (·.add (l*sz))) (h-l) (cap-l))) w:=by
  intro z len cap l h D C;simp only[execOp,ho];apply Ey;simp only[Instr.sliceAt,f5v,f4m hu,Result.andThen,Instr.slice,D,f3x,C,Hg X,a6];rfl
 simp only[Be]at d;split at d
 ·rename_i B e;rw[e]at S;have⟨z,cap,D,U,a5⟩:=Qu S;split at d
  ·rename_i h A;split at d
   ·rename_i l I;split at d
    ·rename_i T;cases d;have C:=a68 (P:=P) (w:=w) s true R h3 U A I;refine⟨_,G z _ cap l h D C,?_⟩;have W:h<=B.length:=by
      rcases W9 s h3 A with ⟨_,rfl⟩|⟨_,_,n,_,_,_,M,rfl⟩<;>omega
     have m:((B.take h).drop l).length=h-l:=(by simp;omega);cases p:(B.take h).drop l with
     |nil=>
       have:h-l=0:=(by rw[<-m,p];rfl);rw[this];exact .pure (x:=.fz []) (.fz0 _ _)
     |cons Q er=>
       have a4:l<h:=by
        have:0<h-l:=(by rw[<-m,p];simp);omega
       have V:B≠[]:=(by rintro rfl;simp at p);obtain⟨b,off,f,cells,te,q,rfl,hF,g,aa,hc⟩:=a5 V;have a2:B[l]?=some Q:=by
        have:((B.take h).drop l)[0]?=some Q:=by rw[p];rfl
        rwa [f1l,f5y,ez3 a4]at this
       have Z:f=sz:=by
        rw[<-g Q (f0q a2)]
        have:=f35.1 T Q (by rw[p];simp);simpa using this
       subst Z;rw[iN om,<-p];simp only[f3y,Yo];have j:h-l=((B.take h).drop l).length:=m.symm;rw[j];refine .pure (x:=.fz _) (.fz _ b (off+l*f) _ f cells te q hF (by rw[<-j];omega) ?_ ?_ ?_)
       ·intro e' M;exact g e' (f0s (f0t M))
       ·rw[<-j,f5c,<-f6n];have:(l+(h-l))*f<=B.length*f:=f0r _ om;omega
       ·intro i e' k c u hi hk a7;have K:B[l+i]?=some e':=by
         rw[f1l]at hi;have:l+i<h:=by
          rcases f5u (l+i) h with h'|h'
          ·exact h'
          ·rw[f0e (by simp;omega)]at hi;cases hi
         rwa [ez3 this]at hi
        refine hc (l+i) e' k c u K hk ?_;rw[<-a7,f6n];congr 1;omega
    ·cases d
   ·cases d
  ·cases d
 ·rename_i e;rw[e]at S;have⟨z,D⟩:=Jc S;split at d
  ·rename_i h A;split at d
   ·rename_i l I;cases d;have z1:h=0:=(by rcases W9 s h3 A with ⟨_,rfl⟩|⟨_,_,n,_,_,_,M,rfl⟩<;>omega);subst z1;have z2:l=0:=(by rcases W9 s R I with ⟨_,rfl⟩|⟨_,_,n,_,_,_,M,rfl⟩<;>omega);subst z2;have C:=a68 (P:=P) (w:=w) s true R h3 (cap:=0) (f6o _) A I;exact⟨_,G z 0 0 0 0 D C,.pure (x:=.emp) (.emp _)⟩
   ·cases d
  ·cases d
 ·rename_i r f off len tot e;rw[e]at S;split at d
  ·rename_i o L;have⟨a9,m,N⟩:=Ie hs L;split at d
   ·rename_i J;obtain⟨J,rfl⟩:=J;split at d
    ·rename_i h A;split at d
     ·rename_i l I;rcases Kh S N with ⟨z,rfl,rfl,rfl,D⟩|⟨x',cap,F,g,g1,g2,g3,g4,D⟩
      ·have z1:h=0:=(by rcases W9 s h3 A with ⟨_,rfl⟩|⟨_,_,n,_,_,_,M,rfl⟩<;>omega);subst z1;have z2:l=0:=(by rcases W9 s R I with ⟨_,rfl⟩|⟨_,_,n,_,_,_,M,rfl⟩<;>omega);subst z2;have C:=a68 (P:=P) (w:=w) s true R h3 (cap:=0) (f6o _) A I;rw[iP rfl]at d;cases d;exact⟨_,G z 0 0 0 0 D C,.own0 r _ _⟩
      ·have a0:tot-off<=cap:=om;have C:=a68 (P:=P) (w:=w) s true R h3 a0 A I;have W:h<=tot-off:=(by rcases W9 s h3 A with ⟨_,rfl⟩|⟨_,_,n,_,_,_,M,rfl⟩<;>omega);refine⟨_,G _ _ cap l h D C,?_⟩;split at d
       ·rename_i Y;subst Y;cases d;have Q:(if cap=0 then some (⟨x'.b,off*x'.sz,none⟩:Addr)else(some (⟨x'.b,off*x'.sz,none⟩:Addr)).map (·.add (0*f)))=some ⟨x'.b,off*x'.sz,none⟩:=by
         split
         ·rfl
         ·simp[Addr.add]
        rw[Q];exact .own r f off h tot (cap-0) x' F (N _ F) g om om om (by simpa using g4)
       ·rename_i Y;split at d
        ·rename_i a3;cases d;rw[show h-l=0 from by omega];exact .pure (x:=.fz []) (.fz0 _ _)
        ·rename_i a3;cases d;rw[iN om];simp only[f3y,Yo];have e5:off*x'.sz+l*f=(off+l)*x'.sz:=(by rw[g,f6n]);rw[e5];exact .own r f (off+l) (h-l) tot (cap-l) x' F (N _ F) g om om om (by rw[show off+l+(cap-l)=off+cap from by omega];exact g4)
     ·cases d
    ·cases d
   ·cases d
  ·cases d
 ·cases d
def dg2{P:Program}{x:Opd}{o:Op}(q:B7 P (.slicez x) o=true):Fz P o (.slicez x):=by
 intro E w H fr a v p F I G b;cases o<;>simp only[B7,f1k]at q;rename_i t y lo hi N;simp only[f32]at q;obtain⟨⟨⟨⟨u,A⟩,B⟩,h3⟩,h4⟩:=q;obtain⟨k,rfl⟩:=b48 h3;obtain⟨K,rfl⟩:=b48 h4;have m:=Bv G A;obtain⟨M,d,J,n⟩:∃ e d,P.underlying t=some (.slice e)/\P.info? e=some d:=by
  split at u
  ·obtain⟨d,h⟩:=ez4.1 u;exact⟨_,d,by assumption,h⟩
  ·cases u
 have i:∀ j len cap,a.eval y=.slice j len cap->(execOp a.eval p).run P w=.ok (.value (.slice j 0 0)) w:=by
  intro j len cap g;simp only[execOp,F];apply Ey;have C:(Instr.sliceBounds true len cap (lo.map a.eval) (some (.int k 0)) (some (.int K 0))).run P w=.ok (0,0,0) w:=by
   unfold Instr.sliceBounds;have z:∀ (kk:IntKind) (c:Nat) (f:BoundsCode),(Instr.sliceBound (.int kk 0) c f).run P w=.ok 0 w:=by
    intro kk c f;simp only[Instr.sliceBound,asIntOf,f5v,f5w,Result.andThen];rw[iP om];rfl
   simp only[f5v,z,Result.andThen];cases lo with
   |none=>rfl
   |some l=>
     obtain⟨kk,D⟩:=b48 (by simpa using B);cases D;simp only[f3y,show a.eval (.const (.int kk 0))=.int kk 0 from rfl,f1n,if_true,z,Result.andThen];rfl
  simp only[Instr.sliceAt,f5v,f4m J,Result.andThen,Instr.slice,g,f3y,show ∀ kk,a.eval (.const (.int kk 0))=.int kk 0 from λ_=>rfl,C,Hg n,if_true];rfl
 simp only[Be]at b;split at b
 ·rename_i L e;rw[e]at m;cases b;obtain⟨j,cap,g,_⟩:=Qu m;exact⟨_,i _ _ _ g,.pure (x:=.emp) (.emp _)⟩
 ·rename_i e;rw[e]at m;cases b;obtain⟨j,g⟩:=Jc m;exact⟨_,i _ _ _ g,.pure (x:=.emp) (.emp _)⟩
 ·rename_i r sz off len tot e;rw[e]at m;cases s:B1 H r tot with
  |none=>rw[s]at b;cases b
  |some o=>
    rw[s]at b;cases b;obtain⟨j,cap,g⟩:=bn0 I m s;exact⟨_,i _ _ _ g,.pure (x:=.emp) (.emp _)⟩
 ·cases b
def dg5{P:Program}{x lo hi mx:Opd}{o:Op}(hf:B7 P (.slice3 x lo hi mx) o=true):Fz P o (.slice3 x lo hi mx):=by
 intro E w H fr a v a7 ho hs hr C;cases o<;>try (simp only[B7,f1k]at hf;done)
 rename_i t y K R V;cases R<;>cases V<;>simp only[B7,f32,f1k]at hf;rename_i R V;have⟨⟨⟨⟨ht,h1⟩,M⟩,h3⟩,h4⟩:=hf;have D:=Bv hr h1;obtain⟨et,s,hu,I⟩:∃ e s,P.underlying t=some (.slice e)/\P.info? e=some s:=by
  split at ht
  ·have⟨s,h⟩:=ez4.1 ht;exact⟨_,s,by assumption,h⟩
  ·cases ht
 simp only[Be]at C;split at C
 ·rename_i c i;obtain⟨u,len,cap,j,a5⟩:∃ u len cap,a.eval y=.slice u len cap/\c<=cap:=by
   unfold Z6 at i;split at i
   ·rename_i e;rw[e]at D;cases i;have⟨u,j⟩:=Jc D;exact⟨u,0,0,j,f6o _⟩
   ·rename_i es e;rw[e]at D;cases i;obtain⟨u,cap,j,a1,_⟩:=Qu D;exact⟨u,_,cap,j,a1⟩
   ·rename_i r sz off len tot e;rw[e]at D;cases p:B1 H r tot with
    |none=>rw[p]at i;cases i
    |some o=>
      rw[p]at i;cases i;rcases Kh D (Ie hs p).2.2 with ⟨u,rfl,rfl,rfl,j⟩|⟨x',cap,_,_,g1,g2,g3,_,j⟩
      ·exact⟨u,0,0,j,f6o _⟩
      ·exact⟨_,len,cap,j,by simp only;omega⟩
   ·cases i
  split at C
  ·rename_i m hm;split at C
   ·rename_i h hh;split at C
    ·rename_i l p;cases C;have J:∀ {z:Opd} {Y:Operand} {d L k:Nat},Bw z Y=true->C9 (evalA fr) (some z) d L=some k->∃ kk n,a.eval Y=.int kk n/\0<=n/\n<=L/\k=n.toNat:=by
      intro z Y d L k hz hb
      have:=W9 hr (x:=some z) (x':=some Y) (by simpa [B7.fitOO]using hz) hb;rcases this with ⟨h,_⟩|⟨y',kk,n,h,j,h0,h1,rfl⟩
      ·cases h
      ·cases h;exact⟨kk,n,j,h0,h1,rfl⟩
     obtain⟨k1,B,e1,p1,q1,rfl⟩:=J h4 hm;obtain⟨k2,W,e2,p2,q2,rfl⟩:=J h3 hh;obtain⟨g,p3,q3,rfl,a2⟩:∃ g:Int,0<=g/\g<=(W.toNat:Int)/\l=g.toNat/\((∃ z X,K=some z/\a.eval z=.int X g)\/(K=none/\g=0)):=by
      cases K with
      |some z=>
        have⟨X,g,e3,p3,q3,h⟩:=J M p;exact⟨g,p3,q3,h,.inl ⟨z,X,rfl,e3⟩⟩
      |none=>
        simp only at M;split at M
        ·simp only[f2f]at M;subst M;simp only[C9,evalA]at p;split at p
         ·cases p;exact⟨0,by omega,by omega,rfl,.inr ⟨rfl,rfl⟩⟩
         ·cases p
        ·cases M
     have c1:0<=B/\B<=(cap:Int):=⟨p1,by omega⟩;have O:Rep E (ay3 (evalA fr x) B.toNat g.toNat W.toNat) (.slice (if B.toNat=g.toNat then u else u.map (·.add (g.toNat*s.size))) (W.toNat-g.toNat) (B.toNat-g.toNat)):=by
      unfold ay3;split
      ·rename_i es e;split
       ·rename_i A;have⟨Ma,F⟩:=A;rw[e]at D;obtain⟨Z,N,f,_,a4⟩:=Qu D;rw[j]at f;cases f;rw[Ma,F];cases Q:es with
        |nil=>exact .pure (x:=.fz []) (.fz0 _ _)
        |cons e0 er=>
          obtain⟨b,off,sz,cells,te,q,rfl,hF,U,S,G⟩:=a4 (by rw[Q];simp);rw[Q]at F U S G;have a6:0<(e0::er).length:=(by simp);rw[iN om];simp only[f3y,f5z,f60];exact .pure (x:=.fz _) (.fz _ b off _ sz cells te q hF om U S G)
       ·exact .top _
      ·rename_i r sz off len tot e;split
       ·rename_i A;have⟨Ma,F,ab⟩:=A;rw[e]at D i;have G:∃ o,B1 H r tot=some o/\c=tot-off:=by
         unfold Z6 at i;simp only at i;cases p:B1 H r tot with
         |none=>rw[p]at i;cases i
         |some o=>rw[p]at i;cases i;exact⟨o,rfl,rfl⟩
        have⟨o,p,a8⟩:=G;rw[Ma,F];rcases Kh D (Ie hs p).2.2 with ⟨Z,rfl,rfl,rfl,f⟩|⟨x',N,g0,a0,g1,g2,g3,g4,f⟩
        ·rw[j]at f;cases f;have:B.toNat=0:=om;rw[this];exact .own0 _ _ _
        ·rw[j]at f;cases f;have aa:W.toNat<=B.toNat:=om;have a9:B.toNat<=cap:=om;have T:(off+B.toNat)*x'.sz<=x'.n:=f61 (f0r _ om) g4;simp only[f3y,f5z,f60];split<;>exact .own _ _ _ _ _ _ x' g0 ((Ie hs p).2.2 _ g0) a0 g1 om om T
       ·exact .top _
      ·rename_i e;split
       ·rename_i A;have⟨Ma,h20,a3⟩:=A;rw[Ma,h20,a3];exact .pure (x:=.emp) (.emp _)
       ·exact .top _
      ·exact .top _
     refine⟨.slice (if B.toNat=g.toNat then u else u.map (·.add (g.toNat*s.size))) (W.toNat-g.toNat) (B.toNat-g.toNat),?_,O⟩;simp only[execOp,ho];apply Ey;rcases a2 with ⟨z,X,rfl,e3⟩|⟨rfl,rfl⟩
     ·simp only[Instr.sliceAt,f5v,f4m hu,Result.andThen,Instr.slice,j,f3y,Instr.sliceBounds,Instr.sliceBound,e1,e2,e3,asIntOf,f5w,iP c1,iP (And.intro p2 q2),iP (And.intro p3 q3),Hg I]
     ·simp only[Instr.sliceAt,f5v,f4m hu,Result.andThen,Instr.slice,j,f3y,f3x,Instr.sliceBounds,Instr.sliceBound,e1,e2,asIntOf,f5w,iP c1,iP (And.intro p2 q2),Hg I]
      rfl
    ·cases C
   ·cases C
  ·cases C
 ·cases C
def b5p{E:Env}{w:World}{H:AH}(P:Sim E w H){x:AV}{v:Value}(S:Rep E x v){els:List LA}(g:Ih H x=some els) :
 ∃ a cap,v=.slice a els.length cap/\els.length<=cap/\(els≠[]->∃ b off sz cells t q,a=some ⟨b,off,none⟩/\w.heap[b]?=some (.cells cells t q)/\ (∀ e∈els,e.length=sz)/\off+els.length*sz<=cells.size/\(∀ (i:Nat) v,i<els.length*sz->cells[off+i]?=some v->v.oneCell'=true)/\∀ (i:Nat) e (k:Nat) c u,els[i]?=some e->e[k]?=some c->cells[off+(i*sz+k)]?=some u->Rep E c u):=by
 unfold Ih at g;split at g
 ·cases g;obtain⟨a,rfl⟩:=Jc S;exact⟨a,0,rfl,f6o _,λh=>absurd rfl h⟩
 ·rename_i I;cases g;have⟨a,cap,hv,B,O⟩:=Qu S;refine⟨a,cap,by simpa using hv,by simpa using B,λh=>?_⟩;have⟨b,off,sz,cells,t,q,Y,X,D,M,G⟩:=O (by rintro rfl;exact h rfl);refine⟨b,off,sz,cells,t,q,Y,P.frz _ _ (.inl X),?_,by simpa using M,?_,?_⟩
  ·intro e A;obtain⟨F,N,rfl⟩:=f62.1 A;simpa using D F N
  ·intro m v A z;rw[f3z]at A;have n:0<sz:=by
    rcases f1o sz with J|J
    ·subst J;omega
    ·exact J
   have L:=Nat.div_add_mod m sz;have a1:=f6w m n;have s:m/sz<I.length:=(Nat.div_lt_iff_lt_mul n).2 A;have g:=ez2 s;have C:=D _ (f0q g);have j:=ez2 (l:=I[m/sz]) (i:=m%sz) om;exact(G _ _ _ _ v g j (by rw[<-z,Nat.mul_comm (m/sz) sz,L])).one
  ·intro i e k c u hi j R;rw[f2i]at hi;cases p:I[i]? with
   |none=>rw[p]at hi;cases hi
   |some F =>
     rw[p]at hi;cases hi;rw[f2i]at j;cases y:F[k]? with
     |none=>rw[y]at j;cases j
     |some V=>rw[y]at j;cases j;exact .pure (G i F k V u p y R)
 ·rename_i r a2 off len tot;split at g
  ·rename_i o hl;split at g
   ·rename_i a0;cases g;have⟨K,C,Q⟩:=Ie P hl;have d:((o.drop off).take len).length=len:=(by simp;omega);rcases Kh S Q with ⟨a,rfl,rfl,rfl,rfl⟩|⟨x',cap,T,_,g1,W,g3,g4,rfl⟩
    ·exact⟨a,0,by simp,by simp,λh=>by simp at h⟩
    ·refine⟨_,cap,by rw[d],by rw[d];exact W,λ_=>?_⟩;have f:=Hs P K T;have⟨cells,t,q,Z,hn,hq,U,G⟩:=f.blk;refine⟨_,_,x'.sz,cells,t,q,rfl,Z,?_,?_,λm v _ z=>U _ v z,?_⟩
     ·intro e A;exact f.sz e (f0t (f0s A))
     ·rw[d,<-f6n];have U:=f.fits;have h2:(off+len)*x'.sz<=o.length*x'.sz:=f0r _ om;omega
     ·intro i e k c u hi j R;have s:i<len:=by
       rcases f5u i len with h|h
       ·exact h
       ·rw[f0e (by simp;omega)]at hi;cases hi
      rw[ez3 s,f1l]at hi;refine G (off+i) e k c u hi j ?_;rw[<-R,f6n];congr 1;omega
   ·cases g
  ·cases g
 ·cases g
def cq4:∀ {els:List LA} {l:List UInt8},J6 els=some l->∃ a:LI,els=a.map (λn=>[AV.int .u8 n])/\l=a.map λn=>UInt8.ofNat n.toNat
 |[],l,h=>by simp only[J6,f2h]at h;subst h;exact⟨[],rfl,rfl⟩
 |e::r,l,h=>by
   unfold J6 at h;split at h
   ·rename_i b;cases b
   ·rename_i n f b;cases b;cases c:J6 r with
    |none=>rw[c]at h;cases h
    |some d =>
      rw[c]at h;cases h;obtain⟨a,rfl,rfl⟩:=cq4 c;exact⟨n::a,rfl,rfl⟩
   ·cases h
def c00:∀ (a:LI) (s:ByteArray),(a.foldl (λr n=>r.push (UInt8.ofNat n.toNat)) s)=⟨(s.data.toList++a.map λn=>UInt8.ofNat n.toNat).toArray⟩
 |[],s=>by simp
 |n::a,s=>by
   rw[f40,c00 a]
   congr 1
   simp[ByteArray.push]
def di9{P:Program}{x:Opd}{o:Op}(J:B7 P (.convbs x) o=true):Fz P o (.convbs x):=by
 intro E w H fr a v z Q S R d;cases o<;>simp only[B7,f32,f1k]at J;rename_i s t y;have⟨⟨A,G⟩,h3⟩:=J;have U:=Bv R h3;have N:P.underlying t=some .string:=by
  split at G<;>first|assumption|cases G
 obtain⟨K,T,O⟩:∃ e,P.underlying s=some (.slice e)/\P.underlying e=some (.int .u8):=by
  split at A
  ·split at A
   ·exact⟨_,by assumption,by assumption⟩
   ·cases A
  ·cases A
 simp only[Be]at d;cases g:Ih H (evalA fr x)with
 |none=>rw[g]at d;cases d
 |some els=>
   rw[g]at d;cases f:J6 els with
   |none=>simp only[f36,f,f3x]at d;cases d
   |some l=>
     simp only[f36,f,f3y,f2h]at d;subst d;obtain⟨V,rfl,rfl⟩:=cq4 f;have⟨F,cap,c,I,C⟩:=b5p S U g;have Cj:∀ u,(Conv.bytesToString (a.eval y)).run P w=.ok u w->(execOp a.eval z).run P w=.ok (.value u) w:=by
      intro u p;simp only[execOp,Q];apply Ey;rw[c]at p ⊢;rw[run_convert_bytes_string w s t K F _ _ T O N];exact p
     cases V with
     |nil=>
       refine⟨.string ⟨#[]⟩,Cj _ ?_,.pure (x:=.str []) (.str [])⟩;rw[c];cases F with
       |none=>rfl
       |some b=>
         have:=run_bytesToString (P:=P) w b 0 cap [] rfl;exact this
     |cons n0 j=>
       obtain⟨b,off,sz,cells,W,q,rfl,L,D,B,_,M⟩:=C sm;have m:sz=1:=(by rw[<-D [AV.int .u8 n0] sm];rfl);subst m;rw[f3z]at B;have h:(loadCells ⟨b,off,none⟩ (n0::j).length).run P w=.ok ((n0::j).map (Value.int .u8)).toArray w:=by
        rw[a67 P L off _ om]
        congr 1
        apply f1j;intro i;rw[f06];by_cases hi:i<(n0::j).length
        ·have k:off+i<cells.size:=om;rw[iP om,ey4 k]
         have:=M i [AV.int .u8 (n0::j)[i]] 0 (AV.int .u8 (n0::j)[i]) cells[off+i] (by rw[f2i,ez2 hi];rfl) rfl
          (by rw[show off+(i*1+0)=off+i from by omega];exact ey4 k)
         rw[Fm this];rw[f0g,f2i,ez2 hi];rfl
        ·rw[iN om,f0g,f0e (by simpa using hi)]
       refine⟨.string ((n0::j).foldl (λr n=>r.push (UInt8.ofNat n.toNat)) ByteArray.empty),Cj _ ?_,?_⟩
       ·rw[c,f3z];exact run_bytesToString (P:=P) w ⟨b,off,none⟩ _ cap (n0::j) h
       ·rw[c00];exact .pure (x:=.str _) (.str _)
def Pp(P:Program)(t:TypeId)(a:Array Value):Value:=if Jl P t then .agg a else(a[0]?).getD undef
def ap0{P:Program}{t:TypeId}{n:Nat}(j:Pv P t (Jl P t) n=true)(e:Jl P t=true\/n=1)
 (w:World) (a:Array Value) (off:Nat) (f:off+n<=a.size):(part t a off).run P w=.ok (Pp P t (a.extract off (off+n))) w:=by
 have d:=a5q j;have⟨i,hi,g⟩:=d.info;unfold part Pp;simp only[f5v,a1l d,Result.andThen];cases b:Jl P t with
 |true=>simp only[if_true,f5v,Hg hi,g,Result.andThen,f5w]
 |false=>
   have:n=1:=by
    rcases e with h|h
    ·rw[h]at b;cases b
    ·exact h
   subst this;have c:a[off]?=some (a[off]' om):=ey4 _;simp only[f1k,if_false,c,f5w];rw[f06,iP om,f5y,c];rfl
def Ye:∀ {ks:List EK} {e f:LA} {r:Bool},Cu ks e f=some r->e.length=ks.length/\f.length=ks.length
 |ks,e,f,r,h=>by
   unfold Cu at h;split at h
   ·exact⟨rfl,rfl⟩
   ·split at h
    ·rename_i a _ _ b _ _ c _;cases d:Cu a b c with
     |none=>rw[d]at h;cases h
     |some g=>have:=Ye d;simp[this.1,this.2]
    ·cases h
   ·rename_i a _ b _ c;cases d:Cu a b c with
    |none=>rw[d]at h;cases h
    |some g=>have:=Ye d;simp[this.1,this.2]
   ·rename_i a _ b _ c;cases d:Cu a b c with
    |none=>rw[d]at h;cases h
    |some g=>have:=Ye d;simp[this.1,this.2]
   ·cases h
def ah5:∀ (m:Nat) {j:List EK} {o p:LA} {r:Bool},m<=j.length->Cu j o p=some r->
 ∃ g i,Cu (j.take m) (o.take m) (p.take m)=some g/\Cu (j.drop m) (o.drop m) (p.drop m)=some i/\r=(g&&i)
 |0,j,o,p,r,_,h=>⟨true,r,rfl,h,by simp⟩
 |m+1,j,o,p,r,hm,h=>by
   unfold Cu at h;split at h
   ·simp at hm
   ·split at h
    ·rename_i d k a e t b f s;cases c:Cu d e f with
     |none=>rw[c]at h;cases h
     |some q=>
       rw[c]at h;cases h;obtain⟨g,i,l,n,rfl⟩:=ah5 m (by simpa using hm) c;refine⟨(a==b)&&g,i,?_,n,by simp[f4n]⟩;simp only[f12];unfold Cu;rw[iP s,l];rfl
    ·cases h
   ·rename_i d a e b f;cases c:Cu d e f with
    |none=>rw[c]at h;cases h
    |some q=>
      rw[c]at h;cases h;obtain⟨g,i,l,n,rfl⟩:=ah5 m (by simpa using hm) c;refine⟨(a==b)&&g,i,?_,n,by simp[f4n]⟩;simp only[f12];unfold Cu;rw[l];rfl
   ·rename_i d a e b f;cases c:Cu d e f with
    |none=>rw[c]at h;cases h
    |some q=>
      rw[c]at h;cases h;obtain⟨g,i,l,n,rfl⟩:=ah5 m (by simpa using hm) c;refine⟨(a==b)&&g,i,?_,n,by simp[f4n]⟩;simp only[f12];unfold Cu;rw[l];rfl
   ·cases h
def RepL.extract{E:Env}{f:LA}{e:Array Value}(h:RepL E f e)(off n:Nat):RepL E ((f.drop off).take n) (e.extract off (off+n)):=by
 refine⟨by have:=h.1;simp;omega,λi c u a b=>?_⟩;have hi:i<n:=by
  rcases f5u i n with d|d
  ·exact d
  ·rw[f0e (by simp;omega)]at a;cases a
 rw[ez3 hi,f1l]at a;rw[f06]at b;split at b
 ·exact h.2 _ c u a b
 ·cases b
def cf5{P:Program}{E:Env}(w:World)(D:Nat)(ok:TypeId->List EK->Bool)
 (q:∀ (t:TypeId) (b:List EK),ok t b=true->Pv P t (Jl P t) b.length=true/\(Jl P t=true\/b.length=1)/\ ∀ (k l:LA) (c d:Array Value) (r:Bool),RepL E k c->RepL E l d->Cu b k l=some r->(Op.equalIn D t (Pp P t c) (Pp P t d)).run P w=.ok r w)
 (k l:LA) (c d:Array Value) (y:RepL E k c) (z:RepL E l d) :
 ∀ (x:List Field) (off:Nat) (b:List EK) (r:Bool),off<=k.length->off<=l.length->T7.fields ok (λt=>(P.info? t).map (·.size)) x off b=true->Cu b (k.drop off) (l.drop off)=some r->
   (Op.eqFields D c d x).run P w=.ok r w
 |[],off,b,r,_,_,h,he=>by
   simp only[T7.fields,f2f]at h;subst h;unfold Cu at he;split at he
   ·cases he;rfl
   all_goals first|(rename_i e _ _;cases e;done)|cases he
 |f::x,off,b,r,hox,hoy,h,he=>by
   simp only[T7.fields,f32,f2f]at h;have⟨⟨g,p⟩,h⟩:=h;split at h
   ·rename_i m M;simp only[f32,f2f]at h;have⟨⟨C,s⟩,i⟩:=h;obtain⟨I,L,J,H,rfl⟩:=ah5 m C he;have o:(b.take m).length=m:=(by simp;omega);have⟨j,a,B⟩:=q f.type _ s;rw[o]at j a;have n:=Ye he;have u:off+m<=c.size:=(by have:=y.1;have:=n.1;simp at this;omega);have v:off+m<=d.size:=(by have:=z.1;have:=n.2;simp at this;omega);have F:=ap0 j a w c off u;have G:=ap0 j a w d off v;have A:=B _ _ _ _ I (y.extract off m) (z.extract off m) J;unfold Op.eqFields;rw[iP g,p];simp only[f5v,F,G,Result.andThen,A];have K:=cf5 w D ok q k l c d y z x (off+m) (b.drop m) L (by have:=y.1;omega) (by have:=z.1;omega) i (by rw[f4o,f4o]at H;exact H);cases I
    ·simp[f5w]
    ·simp only[f5d,f1k,if_false,f5e];exact K
   ·cases h
def cf4{P:Program}{E:Env}(w:World)(D:Nat)(e:TypeId)(sz:Nat)(ok:List EK->Bool)
 (p:∀ a:List EK,ok a=true->Pv P e (Jl P e) a.length=true/\(Jl P e=true\/a.length=1)/\ ∀ (g i:LA) (d f:Array Value) (r:Bool),RepL E g d->RepL E i f->Cu a g i=some r->(Op.equalIn D e (Pp P e d) (Pp P e f)).run P w=.ok r w)
 (g i:LA) (d f:Array Value) (A:RepL E g d) (B:RepL E i f) :
 ∀ (m j:Nat) (a:List EK) (r:Bool),(∀ l,l<m->ok ((a.drop (l*sz)).take sz)=true)->a.length=m*sz->Cu a (g.drop (j*sz)) (i.drop (j*sz))=some r->
   (Op.eqItems D e sz d f (List.range' j m)).run P w=.ok r w
 |0,j,a,r,_,t,he=>by
   have:a=[]:=ez8.1 om;subst this;unfold Cu at he;split at he
   ·cases he;rfl
   all_goals first|(rename_i e _ _;cases e;done)|cases he
 |m+1,j,a,r,hk,t,he=>by
   have x:sz<=a.length:=(by rw[t,f63];omega);obtain⟨F,I,G,C,rfl⟩:=ah5 sz x he;have o:(a.take sz).length=sz:=(by simp;omega);have n:=hk 0 om;rw[f5z,f4p]at n;have⟨k,b,v⟩:=p _ n;rw[o]at k b;have c:=Ye he;have J:(g.drop (j*sz)).length=g.length-j*sz:=(by simp);have K:(i.drop (j*sz)).length=i.length-j*sz:=(by simp);have q:j*sz+sz<=d.size:=by
    have:=A.1;rcases f1o sz with h|h
    ·subst h;simp
    ·have:=c.1;have:=c.2;omega
   have s:j*sz+sz<=f.size:=by
    have:=B.1;rcases f1o sz with h|h
    ·subst h;simp
    ·have:=c.1;have:=c.2;omega
   have y:=ap0 k b w d (j*sz) q;have z:=ap0 k b w f (j*sz) s;have u:=v _ _ _ _ F (A.extract (j*sz) sz) (B.extract (j*sz) sz) G;rw[f37];unfold Op.eqItems;simp only[f5v,y,z,Result.andThen,u];have H:=cf4 w D e sz ok p g i d f A B m (j+1) (a.drop sz) I (λl t=>by
    have:=hk (l+1) om
    rwa [f63,f65,<-f4o]at this) (by rw[f38,t,f63];omega) (by
    rw[f4o,f4o]at C;rw[f63];exact C)
   cases F
   ·simp[f5w]
   ·simp only[f5d,f1k,if_false,f5e];exact H
def b5n{P:Program}{E:Env}(w:World):∀ (d:Nat) (t:TypeId) (z:List EK),T7 P d t z=true->
 Pv P t (Jl P t) z.length=true/\(Jl P t=true\/z.length=1)/\
 ∀ (D:Nat) (g j:LA) (c f:Array Value) (r:Bool),d<=D->RepL E g c->RepL E j f->Cu z g j=some r->(Op.equalIn D t (Pp P t c) (Pp P t f)).run P w=.ok r w
 |0,_,_,h=>by simp[T7]at h
 |d+1,t,z,h=>by
   unfold T7 at h;rw[f32]at h;obtain⟨K,h⟩:=h;refine⟨K,?_,?_⟩
   ·split at h
    ·simp only[f2f]at h;subst h;exact .inr rfl
    ·simp only[f2f]at h;subst h;exact .inr rfl
    ·simp only[f2f]at h;subst h;exact .inr rfl
    ·rename_i b;exact .inl (by unfold Jl;rw[b])
    ·rename_i b;exact .inl (by unfold Jl;rw[b])
    ·cases h
   ·intro D g j c f r R F G a;obtain⟨D,rfl⟩:∃ M,D=M+1:=⟨D-1,by omega⟩;have one:∀ {x y:AV},g=[x]->j=[y]->∃ u v,c[0]?=some u/\f[0]?=some v/\Rep E x u/\Rep E y v:=by
     rintro x y rfl rfl;have p:c[0]?=some (c[0]'(by have:=F.1;simp at this;omega)):=ey4 _;have q:f[0]?=some (f[0]'(by have:=G.1;simp at this;omega)):=ey4 _;exact⟨_,_,p,q,F.2 0 x _ rfl p,G.2 0 y _ rfl q⟩
    split at h
    ·rename_i b;simp only[f2f]at h;subst h;obtain⟨B,C⟩:=Ye a;obtain⟨x,rfl⟩:=f07.1 B;obtain⟨y,rfl⟩:=f07.1 C;cases x<;>(try (simp[Cu]at a;done));cases y<;>(try (simp[Cu]at a;done));obtain⟨u,v,p,q,m,o⟩:=one rfl rfl;simp only[Cu,f3y,f2h,f5f]at a;subst a;simp only[Pp,Jl,b,p,q,f31,f1k,if_false];rw[Se m,Se o];exact run_equalIn_bool' w D t _ _ b
    ·rename_i k b;simp only[f2f]at h;subst h;obtain⟨B,C⟩:=Ye a;obtain⟨x,rfl⟩:=f07.1 B;obtain⟨y,rfl⟩:=f07.1 C;cases x<;>(try (simp[Cu]at a;done));cases y<;>(try (simp[Cu]at a;done));obtain⟨u,v,p,q,m,o⟩:=one rfl rfl;simp only[Cu]at a;split at a
     ·rename_i N;subst N;simp only[f3y,f2h,f5f]at a;subst a;simp only[Pp,Jl,b,p,q,f31,f1k,if_false];rw[Fm m,Fm o];exact run_equalIn_int w D t _ _ _ _ b
     ·cases a
    ·rename_i b;simp only[f2f]at h;subst h;obtain⟨B,C⟩:=Ye a;obtain⟨x,rfl⟩:=f07.1 B;obtain⟨y,rfl⟩:=f07.1 C;cases x<;>(try (simp[Cu]at a;done));cases y<;>(try (simp[Cu]at a;done));obtain⟨u,v,p,q,m,o⟩:=one rfl rfl;simp only[Cu,f3y,f2h,f5f]at a;subst a;simp only[Pp,Jl,b,p,q,f31,f1k,if_false];rw[Lo m,Lo o,run_equalIn_string w D t _ _ b,b1b,b1b]
    ·rename_i L b;rw[f32]at h;have s:P.underlying t=some (.struct (P.fieldsOf t)):=(by unfold Program.fieldsOf;rw[b]);have J:P.fieldsOf t=L:=(by rw[b]at s;cases s;rfl);simp only[Pp,Jl,b,if_true];rw[run_equalIn_struct w D t c f s (by simpa using h.1),J];refine cf5 w D (T7 P d) (λQ A H=>?_) g j c f F G L.toList 0 z r (f6m _) (f6m _) h.2 (by simpa using a);obtain⟨m,o,h3⟩:=b5n w d Q A H;exact⟨m,o,λg j c f r=>h3 D g j c f r om⟩
    ·rename_i n e b;split at h
     ·rename_i i hi;rw[f32,f2f,f35]at h;have I:P.cellsOf e=i.size:=(by unfold Program.cellsOf;rw[hi];rfl);simp only[Pp,Jl,b,if_true];rw[run_equalIn_array w D c f b hi,List.range_eq_range',I];refine cf4 w D e i.size (T7 P d e) (λA H=>?_) g j c f F G n 0 z r (λl O=>h.2 l (f4q.2 O)) h.1 (by simpa using a);obtain⟨m,o,h3⟩:=b5n w d e A H;exact⟨m,o,λg j c f r=>h3 D g j c f r om⟩
     ·cases h
    ·cases h
def di2{P:Program}{b:Bool}{f:List EK}{x y:Opd}{o:Op}(m:B7 P (.eqs b f x y) o=true):Fz P o (.eqs b f x y):=by
 intro E w H fr a v s G O n c;cases o<;>simp only[B7,f32,f1k,f2f]at m;rename_i M t x' N Q;obtain⟨⟨⟨⟨⟨rfl,I⟩,h⟩,F⟩,C⟩,D⟩:=m;have p:=Bv n C;have q:=Bv n D;simp only[Be]at c;split at c
 ·rename_i u z A B;rw[A]at p;rw[B]at q;cases g:Cu f u z with
  |none=>rw[g]at c;cases c
  |some r=>
    rw[g]at c;cases c;have⟨k,i,K,ix⟩:=a1q p;have⟨l,j,L,J⟩:=a1q q;have d:=(b5n (E:=E) w 20 t f h).2.2 10000 u z k l r om ⟨K,ix⟩ ⟨L,J⟩ g;simp only[Pp,I,if_true]at d;refine⟨.bool (r != b),?_,.pure (x:=.bool _) (.bool _)⟩;simp only[execOp,G,i,j];apply Ey;simp only[f5v,run_eqGuard_agg w _ t x' N k l (by simpa using F),Result.andThen];have e:(Op.equal t (.agg k) (.agg l)).run P w=.ok r w:=d;cases b<;>simp only[binOp,if_true,if_false,f1k,f5v,e,Result.andThen]<;>cases r<;>rfl
 ·cases c
def b7e:∀ (b:List Value) (k off:Nat) (a:Array Value),((b.zipIdx k).foldl (λ(a:Array Value) (x:Value×Nat)=>a.setIfInBounds (off+x.2) x.1) a)=splice a (off+k) b
 |[],_,_,_=>rfl
 |v::b,k,off,a=>by
   rw[List.zipIdx_cons,f40,b7e b (k+1) off,splice];rfl
theorem au1(e:LA)(j:Nat)(a:LA)(h:j+a.length<=e.length):(lay e j a).length=e.length:=by
 unfold lay;simp;omega
def c3i(e:LA)(j:Nat)(a:LA)(h:j+a.length<=e.length)(m:Nat) :
 (lay e j a)[m]?=if j<=m/\m<j+a.length then a[m-j]? else e[m]?:=by
 unfold lay;rw[f0o,f0o];have d:(e.take j).length=j:=by simp;omega
 have f:(e.take j++a).length=j+a.length:=by simp;omega
 rw[d,f];by_cases b:m<j
 ·rw[iP om,iP b,iN om,ez3 b]
 ·by_cases c:m<j+a.length
  ·rw[iP c,iN b,iP ⟨by omega,c⟩]
  ·rw[iN c,iN om,f1l];congr 1;omega
def RepL.splice{E:Env}{f:LA}{k:Array Value}(h:RepL E f k){d:LA}{j:Array Value}(g:RepL E d j)(off:Nat)(a:off+d.length<=f.length) :
 RepL E (lay f off d) (Abs.splice k off j.toList):=by
 have l:=h.1;have m:=g.1;refine⟨by rw[au1 _ _ _ a,Wv];exact l,λi c u hi b=>?_⟩;rw[c3i _ _ _ a]at hi;rw[a5z _ _ _ _ (by simp;omega)]at b;by_cases e:off<=i/\i<off+d.length
 ·rw[iP e]at hi;rw[iP ⟨e.1,by simp;omega⟩]at b;exact g.2 _ c u hi (by simpa using b)
 ·rw[iN e]at hi;rw[iN (by simp;omega)]at b;exact h.2 i c u hi b
def ag6{P:Program}{E:Env}{fr:LA}{a:Act}(t:RepL E fr a.tmps)(d:Nat->Option (Nat×Nat)):∀ (c:List (Nat×Nat×Opd)) (f:List (Nat×Operand)) (cells:LA) (j:Array Value) (b:LA),
 B7.fitParts d c f=true->RepL E cells j->D9 (evalA fr) cells c=some b ->
 ∃ g,Instr.fill d j (f.map λx=>(x.1,a.eval x.2))=some g/\RepL E b g
 |[],f,cells,j,b,l,h,he=>by
   cases f with
   |cons p f=>simp[B7.fitParts]at l
   |nil=>simp only[D9,f2h]at he;subst he;exact⟨j,rfl,h⟩
 |(off,size,x)::c,f,cells,j,b,l,h,he=>by
   cases f with
   |nil=>simp[B7.fitParts]at l
   |cons p f=>
     have⟨i,y⟩:=p;simp only[B7.fitParts,f32,f2f]at l;have⟨⟨A,o⟩,k⟩:=l;have B:=Bv t o;unfold D9 at he;split at he
     ·rename_i q n;split at he
      ·rename_i z;have s:=ai5 B n
       have:=h.splice s off om;have⟨g,m,u⟩:=ag6 (P:=P) t d c f _ _ b k this he;refine⟨g,?_,u⟩;simp only[f5b,Instr.fill,A];have v:=s.1;have w:=h.1;rw[iN (by simp;omega)];have e:=b7e (a.eval y).cells.toList 0 off j;rw[f5y]at e;have r:((a.eval y).cells.zipIdx.foldl (λq x=>q.setIfInBounds (off+x.2) x.1) j)=splice j off (a.eval y).cells.toList:=by
        rw[<-e,<-Array.foldl_toList,Array.toList_zipIdx]
       first
        |(rw[r];exact m)
        |(simp only[r];exact m)
        |(refine Eq.trans ?_ m;congr 1)
      ·cases he
     ·cases he
def c13{α β:Type}(f:α->Option β)(g:α->β):∀ (l:List α),(∀ x∈l,f x=some (g x))->l.mapM f=some (l.map g)
 |[],_=>by simp
 |x::l,h=>by
   simp[f4r,h x sm,c13 f g l (λy a=>h y (by simp[a]))]
def dj2{P:Program}{zero:LA}{b:List (Nat×Nat×Opd)}{o:Op}(L:B7 P (.build zero b) o=true):Fz P o (.build zero b):=by
 intro E w H fr a v N R S M r;cases o<;>simp only[B7,f32,f1k]at L;rename_i t A;have⟨s,j⟩:=L;obtain⟨J,z,q,y,I⟩:∃ J z,P.info? t=some J/\J.zero=some z/\repCs zero z.cells.toList=true:=by
  split at s
  ·split at s
   ·exact⟨_,_,by assumption,by assumption,s⟩
   ·cases s
  ·cases s
 have u:RepL E zero z.cells:=by have:=Sf (E:=E) I;simpa using this
 simp only[Be]at r;cases c:D9 (evalA fr) zero b with
 |none=>rw[c]at r;cases r
 |some cells=>
   rw[c]at r;cases r;have K:∃ d,P.built t (A.map λ(i,x)=>(i,a.eval x)).toList=some d/\RepL E cells d:=by
    unfold Program.built;have O:(A.map λ(i,x)=>(i,a.eval x)).toList=A.toList.map λx=>(x.1,a.eval x.2):=(by simp);rw[O];split at j
    ·rename_i B G;rw[f32]at j;have⟨g,p⟩:=j;have⟨d,l,k⟩:=ag6 (P:=P) M _ b A.toList zero z.cells cells p u c;refine⟨d,?_,k⟩;have Q:=c13 (λf:Field=>(P.info? f.type).map λi=>(f.offset,i.size)) (λf=>(f.offset,P.cellsOf f.type)) B.toList (λf C=>by
      have:=f35.1 g f C;have⟨i,hi⟩:=ez4.1 this;simp[hi,Program.cellsOf])
     simp only[q,G,y,Q];rw[<-l]
     congr 1
     funext i;rw[f0g,f2i];cases m:B[i]? with
     |none=>have:B.toList[i]?=none:=by simpa using m
            rw[this];rfl
     |some f=>
       have h:B.toList[i]?=some f:=(by simpa using m);rw[h]
       have:=f35.1 g f (f0q h);have⟨T,D⟩:=ez4.1 this;simp[D,Program.cellsOf]
    ·rename_i n e G;split at j
     ·rename_i U F;have⟨d,l,k⟩:=ag6 (P:=P) M _ b A.toList zero z.cells cells j u c;exact⟨d,by simp only[q,G,y,F];exact l,k⟩
     ·cases j
    ·cases j
   have⟨d,l,k⟩:=K;refine⟨.agg d,?_,.agg _ _ k.1 k.2⟩;simp only[execOp,R];apply Ey;exact run_build w t _ d l
def c1h{P:Program}{b:AOp}{o:Op}(a:B7 P b o=true):Fz P o b:=by
 cases b
 case mv=>exact dg9 a
 case pick=>exact dg6 a
 case build=>exact dj2 a
 case load c n x=>cases o<;>first|exact dh3 a|(simp only[B7,f1k]at a;done)
 case nilchk=>exact dg8 a
 case bini=>exact dj8 a
 case bins=>exact dj7 a
 case eqb=>exact di3 a
 case eqs=>exact di2 a
 case un=>exact df9 a
 case convi=>exact di8 a
 case convbs=>exact di9 a
 case convss=>exact di5 a
 case slices=>exact dg3 a
 case slicel=>exact dg4 a
 case slicez=>exact dg2 a
 case slice3=>exact dg5 a
 case faddr=>exact di0 a
 case field=>exact dh9 a
 case iaddr=>exact dh8 a
 case iaddra=>exact dh7 a
 case indexs=>exact dh5 a
 case indexa=>exact dh6 a
 case cap=>exact dj1 a
 case ext=>exact di1 a
 case len=>exact dh4 a
 case min2 x y=>exact c1g (isMax:=false) a
 case max2 x y=>exact c1g (isMax:=true) a
 case mkfn=>exact dh2 a
 all_goals (cases o<;>simp only[B7,f1k]at a)
def chunks{α:Type}(sz:Nat):Nat->List α->List (List α)
 |0,_=>[]
 |n+1,l=>l.take sz::chunks sz n (l.drop sz)
def E4(H:AH):AV->Option (List LA)
 |.str s=>some (s.map λb=>[.int .u8 b.toNat])
 |x=>Ih H x
def Cw(op:AOp)(ev:Opd->AV)(H:AH):Option (AV×AH):=
 match op with
 |.alloc a=>if a.length≠0 then some (.ptr H.length 0 0 1,H++[some [a]])else none
 |.box x=>
   match cellsOf (ev x)with
   |some a=>if a.length≠0/\a.all cellA=true then some (.ptr H.length 0 0 1,H++[some [a]])else none
   |none=>none
 |.bslice sz len zero parts=>
   match D9 ev (List.replicate len zero).flatten (parts.map λx=>(x.1*sz,sz,x.2))with
   |some cells=>if cells.all cellA=true then some (.own H.length sz 0 len len,H++[some (chunks sz len cells)])else none
   |none=>none
 |.store n p x=>
   match ev p,cellsOf (ev x)with
   |.ptr r i j tot,some a=>
     match B1 H r tot with
     |some o=>
       match o[i]? with
       |some e=>if a.length=n/\j+n<=e.length/\a.all cellA=true then some (U,H.set r (some (o.set i (lay e j a))))else none
       |none=>none
     |none=>none
   |_,_=>none
 |.convsb x=>
   match ev x with
   |.str s=>some (.own H.length 1 0 s.length s.length,H++[some (s.map λb=>[.int .u8 b.toNat])])
   |_=>none
 |.mksl sz bytes zero len cap=>
   match ev len,ev cap with
   |.int _ l,.int _ c=>
     if 0<=l/\l<=c/\c<=1000000000/\bytes<=10000 then some (.own H.length sz 0 l.toNat l.toNat,H++[some (List.replicate l.toNat zero)])else none
   |_,_=>none
 |.append sz bytes zero x y=>
   match ev x,E4 H (ev y)with
   |.emp,some news=>if news.length*bytes<=1000000000000/\news.length<=1000000000/\news.all (λe=>decide (e.length=sz))=true then some (.own H.length sz 0 news.length news.length,H++[some news])else none
   |.own r sz' off len tot,some news=>
     match B1 H r tot with
     |some o=>
       if news.all (λe=>decide (e.length=sz))=false\/sz'≠sz then none
       else if off=0/\len=tot then
        if(tot+news.length)*bytes<=1000000000000/\tot+news.length<=1000000000 then some (.own r sz 0 (tot+news.length) (tot+news.length),H.set r (some (o++news)))else none
       else if off+len+news.length<=tot then
        some (.own r sz off (len+news.length) tot,H.set r (some (o.take (off+len)++news++o.drop (off+len+news.length))))
       else none
     |none=>none
   |_,_=>none
 |.copy sz x y=>
   match ev x,E4 H (ev y)with
   |.own r sz' off len tot,some src=>
     match B1 H r tot with
     |some o=>
       if off+len<=tot/\src.all (λe=>decide (e.length=sz))=true/\sz'=sz then
        some (.N (min src.length len:Nat),H.set r (some (o.take off++src.take (min src.length len)++o.drop (off+min src.length len))))
       else none
     |none=>none
   |.emp,some _=>some (.N 0,H)
   |_,_=>none
 |.clear sz zero x=>
   match ev x with
   |.own r sz' off len tot=>
     match B1 H r tot with
     |some o=>if off+len<=tot/\sz'=sz then some (.tuple [],H.set r (some (o.take off++List.replicate len zero++o.drop (off+len))))else none
     |none=>none
   |.emp=>some (.tuple [],H)
   |.fz []=>some (.tuple [],H)
   |_=>none
 |_=>none
def Yf(P:Program)(e:TypeId)(sz a:Nat)(zero:LA):Bool:=
 match P.info? e with
 |some i=>decide (i.size=sz)&&decide (i.bytes=a)&&decide (0<sz)&&decide (zero.length=sz)&&zero.all cellA &&
   (match i.zero with|some z=>repCs zero z.cells.toList|none=>false)
 |none=>false
def Ci(P:Program)(op:AOp)(o:Op):Bool:=
 match op,o with
 |.alloc cs,.alloc t=>
   (match P.info? t with
    |some i=>match i.zero with
      |some z=>repCs cs z.cells.toList&&cs.all cellA
      |none=>false
    |none=>false)
 |.box x,.box _ y=>Bw x y
 |.bslice sz len zero parts,.buildSlice t n ps=>
   decide (n=len)&&decide (len*sz<=16777216) &&
   (match P.underlying t with
    |some (.slice e)=>(match P.info? e with|some i=>Yf P e sz i.bytes zero|none=>false)
    |_=>false)&&B7.fitParts (λi=>some (i*sz,sz)) (parts.map λx=>(x.1*sz,sz,x.2)) ps.toList
 |.store n p x,.store t p' x'=>(match P.info? t with|some i=>decide (i.size=n)|none=>false)&&Bw p p'&&Bw x x'
 |.convsb x,.convert s t y=>
   (match P.underlying s with|some .string=>true|_=>false) &&
   (match P.underlying t with|some (.slice e)=>(match P.underlying e with|some (.int .u8)=>true|_=>false)|_=>false)&&Bw x y
 |.mksl sz bytes zero len cap,.makeSlice t l c=>
   (match P.underlying t with|some (.slice e)=>Yf P e sz bytes zero|_=>false)&&Bw len l&&Bw cap c
 |.append sz bytes zero x y,.call { callee:=.builtin .append,args:=args,argTypes:=ts }=>
   (match args.toList,ts.toList with
    |[x',y'],[t,u]=>(match P.underlying t with|some (.slice e)=>Yf P e sz bytes zero|_=>false)&&(match P.underlying u with|some (.int _)=>false|none=>false|some _=>true)&&Bw x x'&&Bw y y'
    |_,_=>false)
 |.copy sz x y,.call { callee:=.builtin .copy,args:=args,argTypes:=ts }=>
   (match args.toList,ts.toList with
    |[x',y'],t::_=>(match P.underlying t with|some (.slice e)=>(match P.info? e with|some i=>decide (i.size=sz)|none=>false)|_=>false)&&Bw x x'&&Bw y y'
    |_,_=>false)
 |.clear sz zero x,.call { callee:=.builtin .clear,args:=args,argTypes:=ts }=>
   (match args.toList,ts.toList with
    |[x'],[t]=>(match P.underlying t with|some (.slice e)=>(match P.info? e with|some i=>Yf P e sz i.bytes zero|none=>false)|_=>false)&&Bw x x'
    |_,_=>false)
 |_,_=>false
def Uy(P:Program)(o:Op)(e:AOp):Prop:=
 ∀ (E:Env) (w:World) (H:AH) (fr:LA) (a:Act) (v:AV) (d:AH) (b:Oper),b.op=o->Sim E w H->RepL E fr a.tmps->Cw e (evalA fr) H=some (v,d)->
   ∃ u w' c,((execOp a.eval b).run P w=.ok (.value u) w'\/((execOp a.eval b).run P w=.ok .skip w'/\u=undef))/\Le E c/\Sim c w' d/\Rep c v u
def D6.of{E:Env}{sz:Nat}{a:LA}{cells:Array Value}(h:RepL E a cells)(f:a.length=sz):D6 E sz cells [a]:=by
 intro i e k c u hi b d
 match i,hi with
 |0,hi=>simp at hi;subst hi;exact h.2 k c u b (by simpa using d)
 |i+1,hi=>simp at hi
def ones{E:Env}{c:LA}{cells:Array Value}(h:RepL E c cells)(e:c.all cellA=true):∀ (i:Nat) v,cells[i]?=some v->v.oneCell'=true:=by
 intro i v b;have hi:i<c.length:=by
  rw[h.1];rcases f5u i cells.size with a|a
  ·exact a
  ·rw[f05 a]at b;cases b
 have d:=ez2 hi;exact cp3 (h.2 i _ v d b) (f35.1 e _ (f0q d))
def dk2{P:Program}{b:LA}{o:Op}(e:Ci P (.alloc b) o=true):Uy P o (.alloc b):=by
 intro E w H fr a v q k m n s g;cases o<;>simp only[Ci,f1k]at e;rename_i t;obtain⟨j,z,h,p,c⟩:∃ j z,P.info? t=some j/\j.zero=some z/\(repCs b z.cells.toList&&b.all cellA)=true:=by
  split at e
  ·split at e
   ·exact⟨_,_,by assumption,by assumption,e⟩
   ·cases e
  ·cases e
 rw[f32]at c;have d:RepL E b z.cells:=by have:=Sf (E:=E) c.1;simpa using this
 simp only[Cw]at g;split at g
 ·rename_i l;cases g;have r:=d.1;have⟨i,f⟩:=n.new [b] b.length z.cells t (0,0) om (.inl rfl) sm (by simp;omega) (ones d c.2) (D6.of d rfl);refine⟨.pointer (some ⟨w.heap.size,0,none⟩),_,_,.inl ?_,i,f,?_⟩
  ·simp only[execOp,m];apply Ey;simp only[Instr.alloc,zeroValue,typeInfo,f5v,h,p,Result.andThen,f5w,newVar,newRow,program,Sem.run,newObj];rfl
  ·have:=Rep.ptr (E:=E.with H.length ⟨w.heap.size,b.length,z.cells.size,[b].length⟩) H.length 0 0 1 _ (Env.with_same _ _ _) rfl;simpa using this
 ·cases g
def dj6{P:Program}{x:Opd}{o:Op}(i:Ci P (.box x) o=true):Uy P o (.box x):=by
 intro E w H fr a v p j k m l b;cases o<;>simp only[Ci,f1k]at i;rename_i t y;have n:=Bv l i;simp only[Cw]at b;split at b
 ·rename_i d f;have e:=ai5 n f;split at b
  ·rename_i h;cases b;have q:=e.1;have⟨g,c⟩:=m.new [d] d.length (a.eval y).cells t (0,0) om (.inl rfl) sm (by simp;omega) (ones e h.2) (D6.of e rfl);refine⟨.pointer (some ⟨w.heap.size,0,none⟩),_,_,.inl ?_,g,c,?_⟩
   ·simp only[execOp,k];apply Ey;simp only[Instr.box,f5v,Result.andThen,f5w,newVar,newRow,Sem.run,newObj];rfl
   ·have:=Rep.ptr (E:=E.with H.length ⟨w.heap.size,d.length,(a.eval y).cells.size,[d].length⟩) H.length 0 0 1 _ (Env.with_same _ _ _) rfl;simpa using this
  ·cases b
 ·cases b
theorem Yh{α:Type}(sz:Nat):∀ (n:Nat) (l:List α),(chunks sz n l).length=n
 |0,_=>rfl
 |n+1,l=>by simp[chunks,Yh sz n]
def ay6{α:Type}(sz:Nat):∀ (n:Nat) (l:List α) (i:Nat),i<n->(chunks sz n l)[i]?=some ((l.drop (i*sz)).take sz)
 |0,_,_,h=>by omega
 |n+1,l,0,_=>by simp[chunks]
 |n+1,l,i+1,h=>by
   rw[chunks,ez9,ay6 sz n _ i om,f4o]
   congr 3
   rw[f6n];omega
def D6.chunks{E:Env}{sz n:Nat}{g:LA}{cells:Array Value}(h:RepL E g cells):D6 E sz cells (chunks sz n g):=by
 intro i e k c u hi b j;have d:i<n:=by
  rcases f5u i n with a|a
  ·exact a
  ·rw[f0e (by rw[Yh];exact a)]at hi;cases hi
 rw[ay6 sz n g i d]at hi;cases hi;have f:k<sz:=by
  rcases f5u k sz with a|a
  ·exact a
  ·rw[f0e (by simp;omega)]at b;cases b
 rw[ez3 f,f1l]at b;exact h.2 _ c u b j
def b5i:∀ {ev:Opd->AV} (b:List (Nat×Nat×Opd)) {cells a:LA},D9 ev cells b=some a->a.length=cells.length
 |_,[],_,_,h=>by simp only[D9,f2h]at h;rw[h]
 |ev,(off,size,x)::b,cells,a,h=>by
   unfold D9 at h;split at h
   ·split at h
    ·rename_i c;rw[b5i b h,au1 _ _ _ om]
    ·cases h
   ·cases h
def a5f{E:Env}{zero:LA}{z:Array Value}(h:RepL E zero z)(n:Nat):RepL E (List.replicate n zero).flatten ((Array.range (n*z.size)).map (z[· % z.size]!)):=by
 have l:=h.1;refine⟨by simp[l],λi c u k b=>?_⟩;have hi:i<n*z.size:=by
  rcases f5u i (n*z.size)with h'|h'
  ·exact h'
  ·rw[f05 (by simpa using h')]at b;cases b
 have a:0<z.size:=by
  rcases f1o z.size with f|f
  ·rw[f]at hi;simp at hi
  ·exact f
 have d:i%z.size<z.size:=f6w i a;have e:z[i%z.size]?=some u:=by
  rw[f1p,f0u,iP hi]at b;simp only[f3y,f2h]at b;rw[<-b,getElem!_pos z (i%z.size) d];exact ey4 d
 have g:zero[i%z.size]?=some c:=by
  rw[<-k];clear k b e
  induction n generalizing i with
  |zero=>simp at hi
  |succ n m=>
    rw[f13,f2k,f0o];by_cases j:i<zero.length
    ·rw[iP j,f39 om]
    ·rw[iN j]
     have:=m (i:=i-zero.length) (by rw[f6n]at hi;omega) (f6w _ a);rw[<-this]
     congr 1
     rw[l,Nat.mod_eq_sub_mod om]
 exact h.2 _ c u g e
def dj4{P:Program}{sz len:Nat}{zero:LA}{d:List (Nat×Opd)}{o:Op}(R:Ci P (.bslice sz len zero d) o=true):Uy P o (.bslice sz len zero d):=by
 intro E w H fr a v H' T W Z Y m;cases o<;>simp only[Ci,f1k,f32,f2f]at R;rename_i t n N;obtain⟨⟨⟨rfl,D⟩,k⟩,X⟩:=R;obtain⟨e,i,z,K,hi,J,s,y,a0,hz,L⟩:∃ e i z,P.underlying t=some (.slice e)/\P.info? e=some i/\i.size=sz/\0<sz/\zero.length=sz/\zero.all cellA=true/\i.zero=some z/\repCs zero z.cells.toList=true:=by
  split at k
  ·rename_i e K;split at k
   ·rename_i i hi;unfold Yf at k;simp only[hi,f32,f2f]at k;obtain⟨⟨⟨⟨⟨p,_⟩,l⟩,h3⟩,h4⟩,h5⟩:=k;split at h5
    ·exact⟨e,i,_,K,hi,p,l,h3,h4,by assumption,h5⟩
    ·cases h5
   ·cases k
  ·cases k
 have A:RepL E zero z.cells:=by have:=Sf (E:=E) L;simpa using this
 simp only[Cw]at m;split at m
 ·rename_i cells c;split at m
  ·rename_i q;cases m;have b:=a5f A n;have B:z.cells.size=sz:=(by rw[<-A.1,y]);rw[B]at b;have⟨C,p,l⟩:=ag6 (P:=P) Y (λi=>some (i*sz,sz)) _ N.toList _ _ cells X b c;have S:cells.length=n*sz:=(by rw[b5i _ c];simp[y]);have⟨I,u⟩:=Z.new (chunks sz n cells) sz C e (0,0) s (.inl rfl) (by
    intro e' G;have⟨M,j⟩:=f0h.1 G;have r:M<n:=by
     rcases f5u M n with F|F
     ·exact F
     ·rw[f0e (by rw[Yh];exact F)]at j;cases j
    rw[ay6 _ _ _ _ r]at j;cases j;have:(M+1)*sz<=n*sz:=f0r _ r;rw[f6n]at this;simp;omega) (by rw[Yh];have:=l.1;omega) (ones l q) (D6.chunks l)
   refine⟨.slice (some ⟨w.heap.size,0,none⟩) n n,_,_,.inl ?_,I,u,?_⟩
   ·simp only[execOp,W];apply Ey;have O:(N.map λ(i,x)=>(i,a.eval x)).toList=N.toList.map λx=>(x.1,a.eval x.2):=(by simp);simp only[Instr.buildSlice,f5v,f4m K,Result.andThen,Hg hi,J];rw[iN om];by_cases Q:n*sz=0
    ·have V:n=0:=by
      rcases Nat.mul_eq_zero.1 Q with h|h
      ·exact h
      ·omega
     subst V;simp only[f5z,if_true,f5w,f5v,Result.andThen];simp only[f5z]at p;rw[O];have U:∀ f g:Nat->Value,(Array.range 0).map f=(Array.range 0).map g:=λf g=>(by simp);rw[U _ (λx=>z.cells[x%sz]!)];simp only[p];simp only[newRow,newObj,f5v,Sem.run,Result.andThen,f5w];rfl
    ·simp only[iN Q,zeroValue,typeInfo,f5v,hi,hz,Result.andThen,f5w,program,Sem.run,B];rw[O];simp only[p];simp only[newRow,newObj,f5v,Sem.run,Result.andThen,f5w];rfl
   ·have:=Rep.own (E:=E.with H.length ⟨w.heap.size,sz,C.size,(chunks sz n cells).length⟩) H.length sz 0 n n n _ (Env.with_same _ _ _) (Yh _ _ _) rfl om (f6o _) om (by have:=l.1;simp;omega);simpa using this
  ·cases m
 ·cases m
def bp7{P:Program}{t:TypeId}{i:TypeInfo}(hi:P.info? t=some i){w:World}{b off:Nat}{cells:Array Value}{a:TypeId}{q:Nat×Nat}
 (d:w.heap[b]?=some (.cells cells a q)) (f:q=(0,0)\/cells.size<=q.1) (e:off+i.size<=cells.size) (v:Value) (g:v.cells.size=i.size) (c:∀ u∈v.cells.toList,u.oneCell'=true) :
 (storeVar t ⟨b,off,none⟩ v).run P w=.ok () (Gh w b (.cells (splice cells off v.cells.toList) a q)):=by
 unfold storeVar;simp only[f5v,Hg hi,Result.andThen,g,ne_eq,f2j,if_false]
 have:=a65 P b a q off v.cells.toList 0 cells w d f (by simp;omega) c;simpa [Sem.run,pure,f5w]using this
def as6{E:Env}{a:LA}{cells:Array Value}(h:RepL E a cells)(b:a.all cellA=true):∀ u∈cells.toList,u.oneCell'=true:=by
 intro u c;have⟨i,hi⟩:=f0h.1 c;exact ones h b i u (by simpa using hi)
def a1e{cells:Array Value}(h:∀ (i:Nat) v,cells[i]?=some v->v.oneCell'=true)(k:Nat)(c:List Value)(d:∀ u∈c,u.oneCell'=true)(b:k+c.length<=cells.size) :
 ∀ (i:Nat) v,(splice cells k c)[i]?=some v->v.oneCell'=true:=by
 intro i v a;rw[a5z _ _ _ _ b]at a;split at a
 ·exact d v (f0q a)
 ·exact h i v a
def Ng{i j sz:Nat}(h:i<j):i*sz+sz<=j*sz:=by
 have:(i+1)*sz<=j*sz:=f0r _ h
 rwa [f6n,Nat.one_mul]at this
def D6.lay{E:Env}{sz:Nat}{cells:Array Value}{o:AObj}(h:D6 E sz cells o)(m:∀ e∈o,e.length=sz)(v:o.length*sz<=cells.size){i:Nat}{e:LA}(p:o[i]?=some e)
 {n:LA} {x:Array Value} (t:RepL E n x) (j:Nat) (C:j+n.length<=sz):D6 E sz (splice cells (i*sz+j) x.toList) (o.set i (Abs.lay e j n)):=by
 have l:i<o.length:=by
  rcases f5u i o.length with b|b
  ·exact b
  ·rw[f0e b]at p;cases p
 have z:=m e (f0q p);have B:=t.1;have h3:=Ng (sz:=sz) l;intro w s k c u a d g;rw[a5z _ _ _ _ (by simp;omega)]at g;rw[f2e]at a;by_cases f:i=w
 ·subst f;rw[iP rfl,iP l]at a;cases a;rw[c3i _ _ _ om]at d;by_cases q:j<=k/\k<j+n.length
  ·rw[iP q]at d;rw[iP ⟨by omega,by simp;omega⟩]at g;refine t.2 _ c u d ?_;rw[<-g,f0i];congr 1;omega
  ·rw[iN q]at d;rw[iN (by simp;omega)]at g;exact h i e k c u p d g
 ·rw[iN f]at a;have A:k<sz:=by
   rcases f5u k s.length with b|b
   ·rw[m s (f0q a)]at b;exact b
   ·rw[f0e b]at d;cases d
  rw[iN (by
   rintro⟨q,y⟩;simp at y;rcases Nat.lt_or_gt_of_ne f with r|r
   ·have:=Ng (sz:=sz) r;omega
   ·have:=Ng (sz:=sz) r;omega)]at g
  exact h w s k c u a d g
def dg1{P:Program}{n:Nat}{p x:Opd}{o:Op}(Q:Ci P (.store n p x) o=true):Uy P o (.store n p x):=by
 intro E w H fr a v H' X ho L V c;cases o<;>simp only[Ci,f1k,f32]at Q;rename_i t p' x';have⟨⟨M,h1⟩,h2⟩:=Q;have T:=Bv V h1;have hx:=Bv V h2;obtain⟨it,G,S⟩:∃ i,P.info? t=some i/\i.size=n:=by
  split at M
  ·exact⟨_,by assumption,by simpa using M⟩
  ·cases M
 simp only[Cw]at c;split at c
 ·rename_i r i j tot Y e1 B;rw[e1]at T;split at c
  ·rename_i o hl;have⟨h,R,N⟩:=Ie L hl;split at c
   ·rename_i e A;split at c
    ·rename_i J;have⟨a0,a1,d⟩:=J;cases c;have⟨y,W,K⟩:=Z8 T N;have b:=Hs L h W;have⟨cells,te,q,hb,g,U,l,m⟩:=b.blk;have z:=ai5 hx B;have F:i<o.length:=by
      rcases f5u i o.length with f|f
      ·exact f
      ·rw[f0e f]at A;cases A
     have D:=b.sz e (f0q A);have h3:=Ng (sz:=y.sz) F;have k:=b.fits;have O:=z.1;have s:=bp7 (P:=P) G (w:=w) (off:=i*y.sz+j) hb (by rw[g];exact U) (by rw[S,g];omega) (a.eval x') (by rw[S];omega) (as6 z d);have⟨I,u⟩:=L.write h W (o':=o.set i (lay e j Y)) (splice cells (i*y.sz+j) (a.eval x').cells.toList) te q (by rw[Wv];exact g) U sm
      (by
       intro Z C;rcases ey6 C with f|f
       ·exact b.sz Z f
       ·rw[f,au1 _ _ _ om];exact D)
      (by simpa using k) (a1e l _ _ (as6 z d) (by simp;omega)) (D6.lay m b.sz om A z j om)
     refine⟨undef,_,_,.inr ⟨?_,rfl⟩,I,u,.top _⟩;simp only[execOp,ho,Instr.storeAt,K,Instr.sureAddr,f5v,f5w,Result.andThen,s]
    ·cases c
   ·cases c
  ·cases c
 ·cases c
def Tp{P:Program}{E:Env}{w:World}{H:AH}(U:Sim E w H){y:AV}{v:Value}(Q:Rep E y v){news:List LA}(I:E4 H y=some news)(sz:Nat)(r:∀ e∈news,e.length=sz) :
 ∃ B:Array Value,B.size=news.length*sz/\D6 E sz B news/\(∀ u∈B.toList,u.oneCell'=true)/\(Builtin.lenOf v).run P w=.ok news.length w/\
   ∀ m,m<=news.length->(Builtin.firstCells sz m v).run P w=.ok (B.extract 0 (m*sz)) w:=by
 by_cases l:∃ s,y=.str s
 ·obtain⟨s,rfl⟩:=l;simp only[E4,f2h]at I;subst I;rw[Lo Q];have O:(⟨s.toArray⟩:ByteArray).size=s.length:=by simp[ByteArray.size]
  cases s with
  |nil=>
    refine⟨#[],by simp,λi e k c u hi=>by simp at hi,by simp,by simp[Builtin.lenOf,f5w,ByteArray.size],λm h=>?_⟩;have:m=0:=(by simpa using h);subst this;simp[Builtin.firstCells,f5w]
  |cons C M=>
    have A:sz=1:=(by rw[<-r [.int .u8 C.toNat] sm];rfl);subst A;refine⟨((C::M).map λb=>Value.int .u8 b.toNat).toArray,by simp,?_,by simp[Value.oneCell'],by simp[Builtin.lenOf,f5w,ByteArray.size],λm h=>?_⟩
    ·intro i e k c u hi g f;rw[f2i]at hi;cases p:(C::M)[i]? with
     |none=>rw[p]at hi;cases hi
     |some b=>
       rw[p]at hi;cases hi
       match k,g with
       |0,g=>
         simp at g;subst g;rw[f0g,f6p,f5y,f2i,p]at f;cases f;exact .pure (x:=.int _ _) (.int _ _)
       |k+1,g=>simp at g
    ·simp only[Builtin.firstCells];rw[f5w]
     congr 1
     apply f6v;simp[f5g]
 ·have F:Ih H y=some news:=by
   rw[<-I];cases y<;>first|rfl|exact absurd ⟨_,rfl⟩ l
  obtain⟨K,cap,rfl,N,J⟩:=b5p U Q F;have a:(Builtin.lenOf (.slice K news.length cap)).run P w=.ok news.length w:=by simp[Builtin.lenOf,f5w]
  cases news with
  |nil=>
    refine⟨#[],by simp,λi e k c u hi=>by simp at hi,by simp,a,λm h=>?_⟩;have:m=0:=(by simpa using h);subst this;cases K with
    |none=>simp[Builtin.firstCells,f5w]
    |some b=>simp[Builtin.firstCells,loadCells,loadCellsFrom,f5w]
  |cons n D=>
    obtain⟨b,off,d,cells,t,q,rfl,p,z,G,j,S⟩:=J sm;have:d=sz:=(by rw[<-z n sm,r n sm]);subst this;have o:∀ m,m<=(n::D).length->m*d<=(n::D).length*d:=λm h=>f0r _ h;generalize V:(n::D).length*d=L at G j o;refine⟨cells.extract off (off+L),by simp;omega,?_,?_,a,λm h=>?_⟩
    ·intro i e k c u hi g f;rw[f06]at f;split at f
     ·exact S i e k c u hi g f
     ·cases f
    ·intro u f;have⟨i,hi⟩:=f0h.1 f;rw[f0i,f06]at hi;split at hi
     ·rename_i R;exact j i u om hi
     ·cases hi
    ·simp only[Builtin.firstCells];have T:=o m h;rw[a67 P p off _ om]
     congr 1
     apply f1j;intro i;by_cases R:i<m*d
     ·rw[f06,f06];rw[iP om,iP (by simp;omega),f66,f06,iP om]
     ·rw[f05 (by simp;omega),f05 (by simp;omega)]
def D6.splice{E:Env}{sz:Nat}{cells:Array Value}{o news:AObj}(h:D6 E sz cells o)(p:∀ e∈o,e.length=sz)(f:∀ e∈news,e.length=sz)
 {q:Array Value} (v:D6 E sz q news) (w:q.size=news.length*sz) (k:Nat) (z:k<=o.length) (n:(k+news.length)*sz<=cells.size) :
 D6 E sz (Abs.splice cells (k*sz) q.toList) (o.take k++news++o.drop (k+news.length)):=by
 rw[f6n]at n;intro i e m c u hi b a;rw[a5z _ _ _ _ (by simp;omega)]at a;have d:∀ l:List LA,(∀ e∈l,e.length=sz)->e∈l->m<sz:=by
  intro l t s;rcases f5u m e.length with j|j
  ·rw[t e s]at j;exact j
  ·rw[f0e j]at b;cases b
 rw[f0o,f0o]at hi;have x:(o.take k).length=k:=by simp;omega
 have y:(o.take k++news).length=k+news.length:=by simp;omega
 rw[x,y]at hi;by_cases g:i<k
 ·rw[iP om,iP g,ez3 g]at hi
  have:=d o p (f0q hi);have h4:=Ng (sz:=sz) g;rw[iN (by simp;omega)]at a;exact h i e m c u hi b a
 ·by_cases r:i<k+news.length
  ·rw[iP r,iN g]at hi
   have:=d news f (f0q hi);have h4:(i-k)*sz+sz<=news.length*sz:=Ng om;have h5:i*sz=(i-k)*sz+k*sz:=(by rw[<-f6n];congr 1;omega);rw[iP ⟨by omega,by simp;omega⟩]at a;refine v (i-k) e m c u hi b ?_;rw[<-a,f0i];congr 1;omega
  ·rw[iN r,f1l]at hi;have h5:(k+news.length)*sz<=i*sz:=f0r _ om;rw[f6n]at h5;rw[iN (by simp;omega)]at a;refine h i e m c u ?_ b a;rw[<-hi];congr 1;omega
def bk4{o news:AObj}(k:Nat)(h:k+news.length<=o.length):(o.take k++news++o.drop (k+news.length)).length=o.length:=by
 simp;omega
def a61{H:AH}{r:Nat}{o:AObj}(h:H.at r=some o):H.set r (some o)=H:=by
 unfold AH.at at h;apply List.ext_getElem?;intro i;rw[f2e];split
 ·rename_i e;subst e;split
  ·cases a:H[r]? with
   |none=>rw[a]at h;cases h
   |some x=>rw[a]at h;simp at h;rw[h]
  ·rename_i b;rw[f0e om]
 ·rfl
def Sim.newEmpty{E:Env}{w:World}{H:AH}(h:Sim E w H):Sim E w (H++[some []]):=by
 have e:E.ρ H.length=none:=by
  cases g:E.ρ H.length with
  |none=>rfl
  |some x=>have:=h.dom _ _ g;omega
 have c:∀ {r o},AH.at (H++[some []]) r=some o->H.at r=some o\/(r=H.length/\o=[]):=by
  intro r o b;rcases f2g r H.length with a|a|a
  ·rw[b6s _ a]at b;exact .inl b
  ·subst a;rw[ct6]at b;cases b;exact .inr ⟨rfl,rfl⟩
  ·rw[ct5 _ a]at b;cases b
 refine⟨h.os,h.tape,h.output,h.frz,h.disj,λr x b=>?_,λr o b=>?_,λr i o o' x x' a d h3 h4 f=>?_⟩
 ·have:=h.dom r x b;simp;omega
 ·rcases c b with a|⟨rfl,rfl⟩
  ·exact h.obj r o a
  ·exact .inl ⟨rfl,e⟩
 ·rcases c a with a|⟨rfl,rfl⟩
  ·rcases c d with d|⟨rfl,rfl⟩
   ·exact h.inj r i o o' x x' a d h3 h4 f
   ·rw[e]at h4;cases h4
  ·rw[e]at h3;cases h3
structure El(P:Program)(e:TypeId)(sz bytes:Nat)(zero:LA):Prop where
 ex:∃ i z,P.info? e=some i/\i.size=sz/\i.bytes=bytes/\i.zero=some z/\repCs zero z.cells.toList=true
 pos:0<sz
 len:zero.length=sz
 all:zero.all cellA=true
theorem ah8{P:Program}{e:TypeId}{sz a:Nat}{zero:LA}(h:Yf P e sz a zero=true):El P e sz a zero:=by
 unfold Yf at h;split at h
 ·rename_i i hi;simp only[f32,f2f]at h;have⟨⟨⟨⟨⟨b,c⟩,h3⟩,h4⟩,h5⟩,h6⟩:=h;split at h6
  ·exact⟨⟨i,_,hi,b,c,by assumption,h6⟩,h3,h4,h5⟩
  ·cases h6
 ·cases h
def b28{P:Program}(n:Nat)(w:World):(askRoom n).run P w=.ok () w:=by
 unfold askRoom;split<;>rfl
def b29{P:Program}{w:World}{t u e:TypeId}{sz a:Nat}{zero:LA}(F:TypeId)(D:P.underlying t=some (.slice e))(l:El P e sz a zero)
 (E:∃ d,P.underlying u=some d/\∀ k,d≠.int k) {v:Value} {n:Nat} {h:Array Value} (f:(Builtin.lenOf v).run P w=.ok n w) (m:(Builtin.firstCells sz n v).run P w=.ok h w)
 (r:∀ x∈h.toList,x.oneCell'=true) {b off len cap:Nat} {cells:Array Value} {o:TypeId} {q:Nat×Nat} (s:w.heap[b]?=some (.cells cells o q)) (B:q=(0,0)\/cells.size<=q.1)
 (c:len+n<=cap) (p:off+len*sz+h.size<=cells.size) :
 (Builtin.append_ #[t,u] F #[.slice (some ⟨b,off,none⟩) len cap,v]).run P w=.ok (.slice (some ⟨b,off,none⟩) (len+n) cap) (Gh w b (.cells (splice cells (off+len*sz) h.toList) o q)):=by
 obtain⟨i,z,hi,C,_⟩:=l.ex;have⟨d,y,j⟩:=E;have g:=a65 P b o q (off+len*sz) h.toList 0 cells w s B (by simp;omega) r;rw[f5y]at g;unfold Builtin.append_;simp only[f0g,ez7,ez9,f5v,f4m D,Result.andThen,Hg hi,C,f4m y,f5w];have A:(match d with|.int _=>true|_=>false)=false:=by
  cases d<;>first|rfl|exact absurd rfl (j _)
 simp only[A,f1k,if_false,f,iP c,f4s,if_true,m,f5v,Result.andThen,Yo,g,f5w]
def ap1{P:Program}{w:World}{t u e:TypeId}{sz a:Nat}{zero:LA}(K:TypeId)(H:P.underlying t=some (.slice e))(o:El P e sz a zero)
 (I:∃ d,P.underlying u=some d/\∀ k,d≠.int k) {v:Value} {n:Nat} {B old:Array Value} {base:Option Addr} {len cap:Nat} (f:(Builtin.lenOf v).run P w=.ok n w)
 (p:(Builtin.firstCells sz n v).run P w.drew=.ok B w.drew) (j:(Builtin.firstCells sz len (.slice base len cap)).run P w.drew=.ok old w.drew)
 (c:cap<len+n) (l:len+n<=1000000000) (C:(len+n)*a<=1000000000000) :
 ∃ (x:Nat) (k:Nat) (z:Value),len+n<=x/\RepL ⟨λ_=>none,λ_=>none,λ_=>none,w.os,w.tape,w.output⟩ zero z.cells/\
   (Builtin.append_ #[t,u] K #[.slice base len cap,v]).run P w=.ok (.slice (some ⟨w.heap.size,0,none⟩) (len+n) x) (World.alloc { w with drawn:=k } (.cells (old++B++Builtin.zeroCells z.cells (x-(len+n))) e)):=by
 have⟨i,z,hi,G,y,J,q⟩:=o.ex;have⟨d,D,m⟩:=I;have r:RepL ⟨λ_=>none,λ_=>none,λ_=>none,w.os,w.tape,w.output⟩ zero z.cells:=by have:=Sf (E:=⟨λ_=>none,λ_=>none,λ_=>none,w.os,w.tape,w.output⟩) q;simpa using this
 refine⟨Question.cut (.appendCap (len+n) cap e) (w.tape w.drawn (.appendCap (len+n) cap e)),w.drawn+1,z,by simp[Question.cut],r,?_⟩;unfold Builtin.append_;simp only[f0g,ez7,ez9,f5v,f4m H,Result.andThen,Hg hi,G,f4m D,f5w];have F:(match d with|.int _=>true|_=>false)=false:=by
  cases d<;>first|rfl|exact absurd rfl (m _)
 have b:∀ w',(typeInfo e).run P w'=.ok i w':=by
  intro w';unfold typeInfo;simp only[f5v,program,Sem.run,Result.andThen,hi];rfl
 have s:∀ w',(zeroValue e).run P w'=.ok z w':=by
  intro w';unfold zeroValue;simp only[f5v,b,Result.andThen,J,f5w]
 have A:=growslice_fits c (show(len+n)*a<=140737488355328 by omega);have g:¬ ((len+n:Nat):Int)>IntKind.i64.max:=by simp[IntKind.max,IntKind.bits,IntKind.signed];omega
 simp only[F,f1k,if_false,f,iN (show ¬ len+n<=cap by omega),f5v,b,Result.andThen,y];rw[iN (by rintro⟨h,_⟩;exact g h)];simp only[f5v,b,Result.andThen,y];rw[iN om];simp only[f5v,run_choose_drew,Question.forced,f1k,if_false,Result.andThen,b28,j,f4s,if_true,p,s,newRow,newObj,f5w,Sem.run,b];rfl
def cc7{P:Program}{u:TypeId}(h:(match P.underlying u with|some (.int _)=>false|none=>false|some _=>true)=true):∃ d,P.underlying u=some d/\∀ k,d≠.int k:=by
 split at h
 ·cases h
 ·cases h
 ·rename_i d a b;exact⟨d,b,λk c=>by subst c;exact a k rfl⟩
def az8{news:List LA}{sz:Nat}(h:news.all (λe=>decide (e.length=sz))=true):∀ e∈news,e.length=sz:=by
 intro e a
 have:=f35.1 h e a;simpa using this
def V0{E:Env}{zero:LA}{z:Array Value}(h:RepL E zero z)(b:zero.all cellA=true)(n:Nat):∀ (i:Nat) v,(Builtin.zeroCells z n)[i]?=some v->v.oneCell'=true:=by
 intro i v a;unfold Builtin.zeroCells at a;have hi:i<n*z.size:=by
  rcases f5u i (n*z.size)with h'|h'
  ·exact h'
  ·rw[f05 (by simpa using h')]at a;cases a
 have d:0<z.size:=by
  rcases f1o z.size with e|e
  ·rw[e]at hi;simp at hi
  ·exact e
 have c:i%z.size<z.size:=f6w i d;rw[f1p,f0u,iP hi]at a;simp only[f3y,f2h]at a;rw[getElem!_pos z (i%z.size) c]at a;exact ones h b _ v (by rw[<-a];exact ey4 c)
def D6.append3{E:Env}{sz:Nat}{a b c:Array Value}{o news:AObj}(p:D6 E sz a o)(q:D6 E sz b news)(r:a.size=o.length*sz)(s:b.size=news.length*sz)
 (m:∀ e∈o,e.length=sz) (n:∀ e∈news,e.length=sz):D6 E sz (a++b++c) (o++news):=by
 intro i e k v u hi f g;rw[f0o]at hi;by_cases h:i<o.length
 ·rw[iP h]at hi;have l:k<sz:=by
   rcases f5u k e.length with d|d
   ·rw[m e (f0q hi)]at d;exact d
   ·rw[f0e d]at f;cases f
  have:=Ng (sz:=sz) h;rw[ex7 (by simp;omega),ex7 om]at g;exact p i e k v u hi f g
 ·rw[iN h]at hi;have j:i-o.length<news.length:=by
   rcases f5u (i-o.length) news.length with d|d
   ·exact d
   ·rw[f0e d]at hi;cases hi
  have l:k<sz:=by
   rcases f5u k e.length with d|d
   ·rw[n e (f0q hi)]at d;exact d
   ·rw[f0e d]at f;cases f
  have:=Ng (sz:=sz) j;have h5:i*sz=(i-o.length)*sz+o.length*sz:=by rw[<-f6n];congr 1;omega
  rw[ex7 (by simp;omega),Array.getElem?_append_right om]at g;refine q (i-o.length) e k v u hi f ?_;rw[<-g];congr 1;omega
def U0{a b:Array Value}(d:∀ (i:Nat) v,a[i]?=some v->v.oneCell'=true)(e:∀ (i:Nat) v,b[i]?=some v->v.oneCell'=true):∀ (i:Nat) v,(a++b)[i]?=some v->v.oneCell'=true:=by
 intro i v c;rw[f0f]at c;split at c
 ·exact d i v c
 ·exact e _ v c
def as8{a:Array Value}(h:∀ u∈a.toList,u.oneCell'=true):∀ (i:Nat) v,a[i]?=some v->v.oneCell'=true:=by
 intro i v b;exact h v (f0q (by rw[f0i];exact b))
def dq6{H c:AH}(h:∀ r o,H.at r=some o->c.at r=some o){r tot:Nat}{o:AObj}(a:B1 H r tot=some o):B1 c r tot=some o:=by
 unfold B1 at a ⊢;cases b:H.at r with
 |none=>rw[b]at a;cases a
 |some o'=>rw[b]at a;rw[h r o' b];exact a
def d7d{H c:AH}(h:∀ r o,H.at r=some o->c.at r=some o){y:AV}{news:List LA}(a:E4 H y=some news):E4 c y=some news:=by
 cases y<;>first|exact a|skip
 rename_i r sz off len tot;simp only[E4,Ih]at a ⊢;cases b:B1 H r tot with
 |none=>rw[b]at a;cases a
 |some o=>rw[b]at a;rw[dq6 h b];exact a
def er3{H:AH}:∀ r o,H.at r=some o->AH.at (H++[none]) r=some o:=by
 intro r o h;rw[b6s _ (Tc h)];exact h
def cu5{P:Program}{E:Env}{w:World}{H:AH}(K:Sim E w H){t u e:TypeId}{sz a:Nat}{zero:LA}(Q:TypeId)(X:P.underlying t=some (.slice e))(c:El P e sz a zero)
 (Y:∃ d,P.underlying u=some d/\∀ k,d≠.int k) {y:AV} {S:Value} (D:Rep E y S) {news:List LA} (h:E4 H y=some news) (f:∀ e∈news,e.length=sz) (J:0<news.length)
 (T:news.length*a<=1000000000000) (hl:news.length<=1000000000) (C:Option Addr) (r:Nat) (W:r<H.length) (U:∀ x,E.ρ r=some x->x.t=0) :
 ∃ R w' F,(Builtin.append_ #[t,u] Q #[.slice C 0 0,S]).run P w=.ok R w'/\Le E F/\Sim F w' (H.set r (some news))/\Rep F (.own r sz 0 news.length news.length) R:=by
 obtain⟨_,_,_,_,n,_⟩:=Tp (P:=P) K D h sz f;have L:Sim E w.drew H:=K.drawn (w.drawn+1);obtain⟨B,l,q,p,_,G⟩:=Tp (P:=P) L D h sz f;have g:=G news.length (f6o _);have j:B.extract 0 (news.length*sz)=B:=by rw[<-l];simp
 rw[j]at g;have o:(Builtin.firstCells sz 0 (.slice C 0 0)).run P w.drew=.ok #[] w.drew:=by
  cases C<;>simp[Builtin.firstCells,f5w,loadCells,loadCellsFrom]
 have⟨m,k,z,V,O,s⟩:=ap1 (P:=P) (w:=w) Q X c Y n g o (base:=C) (len:=0) (cap:=0) om om (by simpa using T);have b:D6 E sz (#[]++B++Builtin.zeroCells z.cells (m-(0+news.length))) ([]++news):=D6.append3 (λi e k v u hi=>by simp at hi) q sm l sm f;rw[f41]at b;have M:Sim E { w with drawn:=k } H:=K.drawn k;have⟨I,A⟩:=M.renew W news sz (#[]++B++Builtin.zeroCells z.cells (m-(0+news.length))) e (0,0) (λy D=>by rw[U y D];exact J) c.pos (.inl rfl) f (by simp;omega)
  (U0 (U0 (λi v Z=>by simp at Z) (as8 p)) (V0 O c.all _)) b
 refine⟨_,_,_,s,I,A,?_⟩;have N:z.cells.size=sz:=by rw[<-O.1,c.len]
 have:=Rep.own (E:=E.with r ⟨w.heap.size,sz,(#[]++B++Builtin.zeroCells z.cells (m-(0+news.length))).size,news.length⟩) r sz 0 news.length news.length m _ (Env.with_same _ _ _) rfl rfl om om om
  (by
   simp only[f2l,f4t,N,l];have:(0+m)*sz=news.length*sz+(m-(0+news.length))*sz:=(by rw[<-f6n];congr 1;omega);simp only[this];exact f67 sm)
 simpa using this
def dk0{P:Program}{sz S:Nat}{zero:LA}{x y:Opd}{o:Op}(hf:Ci P (.append sz S zero x y) o=true):Uy P o (.append sz S zero x y):=by
 intro E w H fr a v H' B ho hs hr D;cases o<;>simp only[Ci,f1k]at hf;rename_i c;have⟨ac,av,ts⟩:=c;cases ac<;>try (simp only[Ci,f1k]at hf;done)
 rename_i b;cases b<;>simp only[Ci,f1k]at hf;split at hf
 ·rename_i x' y' t u U ar;simp only[f32]at hf;have⟨⟨⟨ht,hu⟩,h1⟩,h2⟩:=hf;have hx:=Bv hr h1;have hy:=Bv hr h2;have U:av= #[x',y']:=by apply f6v;simpa using U
  have ar:ts= #[t,u]:=by apply f6v;simpa using ar
  subst U;subst ar;obtain⟨e,X,F⟩:∃ e,P.underlying t=some (.slice e)/\El P e sz S zero:=by
   split at ht
   ·exact⟨_,by assumption,ah8 ht⟩
   ·cases ht
  have hu:=cc7 hu;have Cj:∀ {s:Value} {u':Value} {w':World},a.eval x'=s->(Builtin.append_ #[t,u] B.type #[s,a.eval y']).run P w=.ok u' w'->(execOp a.eval B).run P w=.ok (.value u') w':=by
   intro s u' w' b7 l;subst b7;simp only[execOp,ho,resolve,f5v,f5w,Result.andThen,invoke,builtin,f34,f5b,f5x,l]
  simp only[Cw]at D;split at D
  ·rename_i news e1 G;rw[e1]at hx;have⟨L,n⟩:=Jc hx;split at D
   ·rename_i b4;have⟨hb,hl,Y⟩:=b4;cases D;have C:=az8 Y;rcases f1o news.length with h0|a5
    ·have a4:news=[]:=ez8.1 h0;subst a4;have⟨us,a8,a6,O,p,al⟩:=Tp (P:=P) hs hy G sz C;have ax:=al 0 (f6o _);have l:(Builtin.append_ #[t,u] B.type #[.slice L 0 0,a.eval y']).run P w=.ok (.slice L 0 0) w:=by
      obtain⟨i,z,hi,aq,_⟩:=F.ex;have⟨d,hd,ak⟩:=hu;have hm:(match d with|.int _=>true|_=>false)=false:=by
       cases d<;>first|rfl|exact absurd rfl (ak _)
      unfold Builtin.append_;simp only[f0g,ez7,ez9,f5v,f4m X,Result.andThen,Hg hi,aq,f4m hd,f5w,hm,f1k,if_false,p,f3w,f5y,f6o,if_true,f4s,ax]
      have aa:(us.extract 0 (0*sz)).toList=[]:=(by simp);cases L with
      |none=>simp[f5w,Sem.run]
      |some L=>simp only[aa,storeCells,f5v,f5w,Result.andThen]
     exact⟨_,w,E,.inl (Cj n l),Le.refl E,hs.newEmpty,.own0 _ _ _⟩
    ·have⟨u',w',E',h1,h2,h3,h4⟩:=cu5 (P:=P) hs.reserve B.type X F hu hy (d7d er3 G) C a5 hb hl L H.length sm (λx au=>by
      have:=hs.dom _ _ au;omega)
     have e2:(H++[none]).set H.length (some news)=H++[some news]:=(by simp);rw[e2]at h3;exact⟨u',w',E',.inl (Cj n h1),h2,h3,h4⟩
   ·cases D
  ·rename_i r f off len tot news e1 G;rw[e1]at hx;split at D
   ·rename_i o hl;have⟨V,p,a7⟩:=Ie hs hl;split at D
    ·cases D
    ·rename_i Y;have aj:news.all (λe=>decide (e.length=sz))=true:=by
      cases h:news.all (λe=>decide (e.length=sz))with
      |true=>rfl
      |false=>exact absurd (.inl h) Y
     have b9:f=sz:=by
      rcases Nat.decEq f sz with h|h
      ·exact absurd (.inr h) Y
      ·exact h
     subst b9;have C:=az8 aj;have⟨us,a8,a6,O,A,al⟩:=Tp (P:=P) hs hy G f C;have M:=al news.length (f6o _);have am:us.extract 0 (news.length*f)=us:=(by rw[<-a8];simp);rw[am]at M;split at D
     ·rename_i K;obtain⟨rfl,rfl⟩:=K;split at D
      ·rename_i hb;have⟨hb,b1⟩:=hb;cases D;rcases f1o news.length with h0|a5
       ·have a4:news=[]:=ez8.1 h0;subst a4;obtain⟨L,cap,n,a3⟩:∃ L cap,a.eval x'=.slice L len cap/\len<=cap:=by
         rcases Kh hx a7 with ⟨L,_,rfl,_,he⟩|⟨x2,cap,_,_,_,g,_,_,he⟩
         ·exact⟨L,0,he,f6o _⟩
         ·exact⟨_,cap,he,g⟩
        have l:(Builtin.append_ #[t,u] B.type #[.slice L len cap,a.eval y']).run P w=.ok (.slice L len cap) w:=by
         obtain⟨i,z,hi,aq,_⟩:=F.ex;have⟨d,hd,ak⟩:=hu;have hm:(match d with|.int _=>true|_=>false)=false:=by
          cases d<;>first|rfl|exact absurd rfl (ak _)
         have aa:us.toList=[]:=by
          have:us.size=0:=(by simpa using a8);simpa using this
         rw[f3w]at M A;unfold Builtin.append_;simp only[f0g,ez7,ez9,f5v,f4m X,Result.andThen,Hg hi,aq,f4m hd,f5w,hm,f1k,if_false,A,f5y,a3,if_true,f4s,M]
         cases L with
         |none=>simp[f5w,Sem.run]
         |some L=>simp only[aa,storeCells,f5v,f5w,Result.andThen]
        refine⟨_,w,E,.inl (Cj n l),Le.refl E,?_,?_⟩
        ·rw[f42,a61 V];exact hs
        ·rw[<-n];simpa using hx
       ·rcases Kh hx a7 with ⟨L,_,rfl,_,n⟩|⟨x2,cap,ab,m,g1,g2,g3,g4,n⟩
        ·have ho:o=[]:=ez8.1 p;subst ho;have⟨u',w',E',h1,h2,h3,h4⟩:=cu5 (P:=P) hs B.type X F hu hy G C a5 (by simpa using hb) om L r (Tc V) (λx au=>a7 x au);exact⟨u',w',E',.inl (Cj n h1),h2,by simpa using h3,by simpa using h4⟩
        ·have j:=Hs hs V ab;have⟨cells,te,q,Z,a1,hq,I,J⟩:=j.blk;have R:∀ e∈o,e.length=f:=(by rw[<-m];exact j.sz);rw[f5z]at n;rw[f66,m]at g4;have bb:len*f<=cap*f:=f0r _ g2;by_cases W:len+news.length<=cap
         ·have N:(len+news.length)*f<=cap*f:=f0r _ W;rw[f6n]at N;have l:=b29 (P:=P) B.type X F hu A M O (off:=0) Z (by rw[a1];exact hq) W om;rw[f66]at l;have ag:=D6.splice (E:=E) (sz:=f) (cells:=cells) (o:=o) (news:=news) (by rw[<-m];exact J) R C a6 a8 o.length (f6o _) (by rw[p,f6n];omega);have e4:o.take o.length++news++o.drop (o.length+news.length)=o++news:=(by simp);rw[e4,p]at ag;have⟨af,Q⟩:=hs.write V ab (o':=o++news) (splice cells (len*f) us.toList) te q (by rw[Wv];exact a1) hq sm
           (by
            intro e' a2;rcases f43.1 a2 with T|T
            ·exact j.sz e' T
            ·rw[m];exact C e' T)
           (by rw[f1q,p,m,f6n];omega) (a1e I _ _ O (by simp;omega)) (by rw[m];exact ag)
          refine⟨_,_,_,.inl (Cj n l),af,Q,?_⟩
          have:=Rep.own (E:=E.with r { x2 with t:=(o++news).length }) r f 0 (len+news.length) (len+news.length) cap _ (Env.with_same _ _ _) (by simp;omega) m om W om (by rw[f66];simp only[m];omega);simpa using this
         ·have b6:Sim E w.drew H:=hs.drawn (w.drawn+1);obtain⟨ah,a9,ao,an,_,aw⟩:=Tp (P:=P) b6 hy G f C;have ai:=aw news.length (f6o _);have ae:ah.extract 0 (news.length*f)=ah:=(by rw[<-a9];simp);rw[ae]at ai;have b0:(Builtin.firstCells f len (.slice (some ⟨x2.b,0,none⟩) len cap)).run P w.drew=.ok (cells.extract 0 (0+len*f)) w.drew:=by
           simp only[Builtin.firstCells];exact a67 P (w:=w.drew) Z 0 _ om
          have⟨nc,k,z,b3,hz,l⟩:=ap1 (P:=P) (w:=w) B.type X F hu A ai b0 (base:=some ⟨x2.b,0,none⟩) (len:=len) (cap:=cap) om om hb;have b5:D6 E f (cells.extract 0 (0+len*f)) o:=by
           intro i e' k' c u' hi hk a0;rw[f06]at a0;split at a0
           ·rw[f66]at a0;rw[<-m]at a0;exact J i e' k' c u' hi hk a0
           ·cases a0
          have ap:=D6.append3 (c:=Builtin.zeroCells z.cells (nc-(len+news.length))) b5 ao (by simp;rw[p];omega) a9 R C;have b8:Sim E { w with drawn:=k } H:=hs.drawn k;have⟨af,Q⟩:=b8.renew (Tc V) (o++news) f (cells.extract 0 (0+len*f)++ah++Builtin.zeroCells z.cells (nc-(len+news.length))) e (0,0)
           (λy hy=>by rw[a7 y hy];simp;omega) F.pos (.inl rfl)
           (by
            intro e' a2;rcases f43.1 a2 with T|T
            ·exact R e' T
            ·exact C e' T)
           (by rw[f1q,f6n,p];simp;omega)
           (U0 (U0 (λi v D=>by
            rw[f06]at D;split at D
            ·exact I _ v D
            ·cases D) (as8 an)) (V0 hz F.all _)) ap
          refine⟨_,_,_,.inl (Cj n l),af,Q,?_⟩;have ba:z.cells.size=f:=by rw[<-hz.1,F.len]
          have:=Rep.own (E:=E.with r ⟨w.heap.size,f,(cells.extract 0 (0+len*f)++ah++Builtin.zeroCells z.cells (nc-(len+news.length))).size,(o++news).length⟩) r f 0 (len+news.length) (len+news.length) nc _ (Env.with_same _ _ _)
           (by simp;omega) rfl om b3 om
           (by
            simp only[f2l,f4t,ba,a9];have e6:(0+nc)*f=len*f+news.length*f+(nc-(len+news.length))*f:=(by rw[<-f6n,<-f6n];congr 1;omega);rw[e6];have:(cells.extract 0 (0+len*f)).size=len*f:=(by simp;omega);rw[this];exact f6o _)
          simpa using this
      ·cases D
     ·rename_i K;split at D
      ·rename_i af;cases D;rcases Kh hx a7 with ⟨L,rfl,rfl,rfl,n⟩|⟨x2,cap,ab,m,g1,g2,g3,g4,n⟩
       ·exact absurd ⟨rfl,rfl⟩ K
       ·have j:=Hs hs V ab;have⟨cells,te,q,Z,a1,hq,I,J⟩:=j.blk;have R:∀ e∈o,e.length=f:=(by rw[<-m];exact j.sz);have ay:=j.fits;rw[m]at g4 ay n;have N:(off+len+news.length)*f<=o.length*f:=f0r _ om;have b2:=N;rw[f6n]at N;rw[f6n]at N;have l:=b29 (P:=P) B.type X F hu A M O (off:=off*f) Z (by rw[a1];exact hq) (show len+news.length<=cap by omega) om;have ag:=D6.splice (E:=E) (sz:=f) (cells:=cells) (o:=o) (news:=news) (by rw[<-m];exact J) R C a6 a8 (off+len) om om;rw[<-f6n]at l;have a3:(o.take (off+len)++news++o.drop (off+len+news.length)).length=o.length:=bk4 _ om;have⟨az,Q⟩:=hs.write V ab (o':=o.take (off+len)++news++o.drop (off+len+news.length)) (splice cells ((off+len)*f) us.toList) te q (by rw[Wv];exact a1) hq (by rw[a3];exact f6o _)
         (by
          intro e' a2;rcases f43.1 a2 with T|T
          ·rcases f43.1 T with T|T
           ·exact j.sz e' (f0s T)
           ·rw[m];exact C e' T
          ·exact j.sz e' (f0t T))
         (by rw[a3];exact j.fits) (a1e I _ _ O (by rw[f6n];simp;omega)) (by rw[m];exact ag)
        refine⟨_,_,_,.inl (Cj n l),az,Q,?_⟩
        have:=Rep.own (E:=E.with r { x2 with t:=(o.take (off+len)++news++o.drop (off+len+news.length)).length }) r f off (len+news.length) tot cap _ (Env.with_same _ _ _) (by rw[a3];exact p) m om om g3 (by simp only[m];exact g4);rw[<-m];rw[<-m]at this;exact this
      ·cases D
   ·cases D
  ·cases D
 ·cases hf
def c0n{E:Env}{w:World}{H:AH}(L:Sim E w H){r:Nat}{o news:AObj}{x:Own}(i:H.at r=some o)(M:E.ρ r=some x)(v:∀ e∈news,e.length=x.sz)
 {y:Array Value} (n:D6 E x.sz y news) (I:y.size=news.length*x.sz) (m:∀ u∈y.toList,u.oneCell'=true) (p:Nat) (K:p+news.length<=o.length) {cells:Array Value} {J:TypeId} {q:Nat×Nat}
 (N:w.heap[x.b]?=some (.cells cells J q)) :
 ∃ A,Le E A/\Sim A (Gh w x.b (.cells (splice cells (p*x.sz) y.toList) J q)) (H.set r (some (o.take p++news++o.drop (p+news.length))))/\A.ρ r=some { x with t:=(o.take p++news++o.drop (p+news.length)).length }:=by
 have a:=Hs L i M;have⟨z,P,Q,c,C,O,f,g⟩:=a.blk;rw[N]at c;cases c;have j:=a.fits;have l:(p+news.length)*x.sz<=o.length*x.sz:=f0r _ K;have h:=l;rw[f6n]at h;have G:=D6.splice (E:=E) (sz:=x.sz) (cells:=cells) (o:=o) (news:=news) g a.sz v n I p om om;have k:(o.take p++news++o.drop (p+news.length)).length=o.length:=bk4 _ K;have⟨F,s⟩:=L.write i M (o':=o.take p++news++o.drop (p+news.length)) (splice cells (p*x.sz) y.toList) J q (by rw[Wv];exact C) O (by rw[k];exact f6o _)
  (by
   intro B D;rcases f43.1 D with d|d
   ·rcases f43.1 d with d|d
    ·exact a.sz B (f0s d)
    ·exact v B d
   ·exact a.sz B (f0t d))
  (by rw[k];exact j) (a1e f _ _ m (by simp;omega)) G
 exact⟨_,F,s,Env.with_same _ _ _⟩
theorem di4{P:Program}{sz:Nat}{x y:Opd}{o:Op}(hf:Ci P (.copy sz x y) o=true):Uy P o (.copy sz x y):=by
 intro E w H fr a v H' oper ho hs hr hv;cases o<;>simp only[Ci,f1k]at hf;rename_i c;obtain⟨callee,args,ts⟩:=c;cases callee<;>try (simp only[Ci,f1k]at hf;done)
 rename_i b;cases b<;>simp only[Ci,f1k]at hf;split at hf
 ·rename_i x' y' t ts' hargs hts;simp only[f32]at hf;obtain⟨⟨ht,h1⟩,h2⟩:=hf;have hx:=Bv hr h1;have hy:=Bv hr h2;have hargs:args= #[x',y']:=by apply f6v;simpa using hargs
  have hts0:ts[0]?=some t:=by
   have:ts.toList[0]?=some t:=(by rw[hts];rfl);simpa using this
  subst hargs;obtain⟨e,i,hte,hi,hisz⟩:∃ e i,P.underlying t=some (.slice e)/\P.info? e=some i/\i.size=sz:=by
   split at ht
   ·split at ht
    ·exact⟨_,_,by assumption,by assumption,by simpa using ht⟩
    ·cases ht
   ·cases ht
  have Cj:∀ {s:Value} {u':Value} {w':World},a.eval x'=s->(Builtin.copy_ ts oper.type #[s,a.eval y']).run P w=.ok u' w'->(execOp a.eval oper).run P w=.ok (.value u') w':=by
   intro s u' w' hse hrun;subst hse;simp only[execOp,ho,resolve,f5v,f5w,Result.andThen,invoke,builtin,f34,f5b,f5x,hrun]
  simp only[Cw]at hv;split at hv
  ·rename_i r sz' off len tot src e1 hsrc;rw[e1]at hx;split at hv
   ·rename_i o hl;obtain⟨hat,hlen,htt⟩:=Ie hs hl;split at hv
    ·rename_i hok;obtain⟨hle,hall,rfl⟩:=hok;cases hv;have hsz:=az8 hall;obtain⟨us,hus,hrow,hone,hlenof,hfc⟩:=Tp (P:=P) hs hy hsrc sz' hsz;have hfc1:=hfc (min src.length len) (Nat.min_le_left _ _);have hrun0:∀ (ad:Option Addr) (cap:Nat) (w':World),(∀ b,ad=some b->(storeCells b (us.extract 0 (min src.length len*sz')).toList).run P w=.ok () w')->(ad=none->w'=w)->
      (Builtin.copy_ ts oper.type #[.slice ad len cap,a.eval y']).run P w=.ok (.int .i64 (min src.length len:Nat)) w':=by
      intro ad cap w' h1 h2;unfold Builtin.copy_;have hmin:Nat.min src.length len=min src.length len:=rfl;simp only[hts0,f0g,ez7,ez9,f5v,f4m hte,Result.andThen,hlenof,Hg hi,hisz,hmin,hfc1];cases ad with
      |none=>rw[h2 rfl];simp[f5w,goInt]
      |some b=>simp only[h1 b rfl,f5v,Result.andThen,f5w,goInt]
     rcases Kh hx htt with ⟨ad,rfl,rfl,rfl,hxv⟩|⟨x2,cap,hx2,hsx,g1,g2,g3,g4,hxv⟩
     ·have hmin0:min src.length 0=0:=Nat.min_zero _;have ho:o=[]:=ez8.1 hlen;subst ho;refine⟨_,w,E,.inl (Cj hxv (hrun0 ad 0 w (λb _=>?_) (λ_=>rfl))),Le.refl E,?_,.pure (x:=.int _ _) (.int _ _)⟩
      ·rw[hmin0];simp[storeCells,f5w]
      ·rw[hmin0];simp[a61 hat];exact hs
     ·have hlies:=Hs hs hat hx2;obtain⟨cells,te,q,hblk,hcn,hq,_,_⟩:=hlies.blk;have hfit:=hlies.fits;have hm1:min src.length len<=src.length:=Nat.min_le_left _ _;have hm2:min src.length len<=len:=Nat.min_le_right _ _;generalize min src.length len=m at *;have hnl:(src.take m).length=m:=(by simp;omega);have hsm:m*sz'<=src.length*sz':=f0r _ hm1;have hus2:(us.extract 0 (m*sz')).size=(src.take m).length*x2.sz:=(by rw[hnl,hsx];simp;omega);have hrow2:D6 E x2.sz (us.extract 0 (m*sz')) (src.take m):=by
       intro i e k c u hi hk hu;have him:i<m:=by
        rcases f5u i m with h'|h'
        ·exact h'
        ·rw[f0e om]at hi;cases hi
       rw[ez3 him]at hi;rw[f06]at hu;split at hu
       ·rw[f66,hsx]at hu;exact hrow i e k c u hi hk hu
       ·cases hu
      have hone2:∀ u∈(us.extract 0 (m*sz')).toList,u.oneCell'=true:=by
       intro u hu;obtain⟨i,hi⟩:=f0h.1 hu;rw[f0i,f06]at hi;split at hi
       ·exact hone u (f0q (by rw[f0i];exact hi))
       ·cases hi
      obtain⟨E',h1,h2,h3⟩:=c0n hs hat hx2 (news:=src.take m) (λe he=>by rw[hsx];exact hsz e (f0s he)) hrow2 hus2 hone2 off (by rw[hnl];omega) hblk;have hmul:(off+m)*x2.sz<=o.length*x2.sz:=f0r _ om;rw[f6n,hsx]at hmul;have hfit':o.length*sz'<=x2.n:=(by rw[<-hsx];exact hfit);have hst:=a65 P x2.b te q (off*x2.sz) (us.extract 0 (m*sz')).toList 0 cells w hblk (by rw[hcn];exact hq) (by simp;rw[hsx];omega) hone2;rw[f5y]at hst;rw[hnl]at h2;refine⟨_,_,E',.inl (Cj hxv (hrun0 _ cap _ (λb hb=>by cases hb;exact hst) (λh=>by cases h))),h1,h2,.pure (x:=.int _ _) (.int _ _)⟩
    ·cases hv
   ·cases hv
  ·rename_i src e1 hsrc;rw[e1]at hx;obtain⟨ad,hxv⟩:=Jc hx;cases hv;have hrun:∃ k,(Builtin.lenOf (a.eval y')).run P w=.ok k w/\(Builtin.firstCells sz 0 (a.eval y')).run P w=.ok #[] w:=by
    by_cases hstr:∃ s,evalA fr y=.str s
    ·obtain⟨s,hs'⟩:=hstr;rw[hs']at hy;rw[Lo hy];exact⟨_,by simp[Builtin.lenOf,f5w];rfl,by simp[Builtin.firstCells,f5w]⟩
    ·have hel:Ih H (evalA fr y)=some src:=by
      rw[<-hsrc];cases hyy:evalA fr y<;>first|rfl|exact absurd ⟨_,hyy⟩ hstr
     obtain⟨ad',cap',hyv,_⟩:=b5p hs hy hel;rw[hyv];refine⟨_,by simp[Builtin.lenOf,f5w];rfl,?_⟩;cases ad'<;>simp[Builtin.firstCells,f5w,loadCells,loadCellsFrom]
   obtain⟨k,hk1,hk2⟩:=hrun;refine⟨.int .i64 0,w,E,.inl (Cj hxv ?_),Le.refl E,hs,.pure (x:=.int _ _) (.int _ _)⟩;unfold Builtin.copy_;have hmin:Nat.min k 0=0:=Nat.min_zero _;simp only[hts0,f0g,ez7,ez9,f5v,f4m hte,Result.andThen,hk1,Hg hi,hisz,hmin,hk2];cases ad with
   |none=>simp[f5w,goInt]
   |some b=>simp[storeCells,f5w,goInt]
  ·cases hv
 ·cases hf
def dj0{P:Program}{sz:Nat}{zero:LA}{x:Opd}{o:Op}(M:Ci P (.clear sz zero x) o=true):Uy P o (.clear sz zero x):=by
 intro E w H fr a v H' y ho N hr A;cases o<;>simp only[Ci,f1k]at M;rename_i c;have⟨B,U,ts⟩:=c;cases B<;>try (simp only[Ci,f1k]at M;done)
 rename_i b;cases b<;>simp only[Ci,f1k]at M;split at M
 ·rename_i x' t f O;simp only[f32]at M;have⟨ht,h1⟩:=M;have T:=Bv hr h1;have f:U= #[x']:=by apply f6v;simpa using f
  have O:ts= #[t]:=by apply f6v;simpa using O
  subst f;subst O;obtain⟨e,am,a5,g⟩:∃ e b,P.underlying t=some (.slice e)/\El P e sz b zero:=by
   split at ht
   ·split at ht
    ·exact⟨_,_,by assumption,ah8 ht⟩
    ·cases ht
   ·cases ht
  obtain⟨i,z,hi,ao,_,hz,ag⟩:=g.ex;have G:RepL E zero z.cells:=by have:=Sf (E:=E) ag;simpa using this
  have Cj:∀ {s:Value} {u':Value} {w':World},a.eval x'=s->(Builtin.clear_ #[t] y.type #[s]).run P w=.ok u' w'->(execOp a.eval y).run P w=.ok (.value u') w':=by
   intro s u' w' ac a3;subst ac;simp only[execOp,ho,resolve,f5v,f5w,Result.andThen,invoke,builtin,f34,f5b,f5x,a3]
  have j:∀ S cap,a.eval x'=.slice S 0 cap->(execOp a.eval y).run P w=.ok (.value (.tuple #[])) w:=by
   intro S cap he;refine Cj he ?_;unfold Builtin.clear_;simp only[f0g,ez7,f5v,f4m a5,Result.andThen];cases S<;>simp[f5w]
  have F:Rep E (.tuple []) (.tuple #[]):=.tuple [] #[] rfl (λi c u hc=>by simp at hc);simp only[Cw]at A;split at A
  ·rename_i r R off len tot V;rw[V]at T;split at A
   ·rename_i o hl;have⟨C,a0,af⟩:=Ie N hl;split at A
    ·rename_i ab;obtain⟨an,rfl⟩:=ab;cases A;rcases Kh T af with ⟨S,rfl,rfl,rfl,d⟩|⟨I,cap,a7,h,g1,g2,g3,g4,d⟩
     ·have ho:o=[]:=ez8.1 a0;subst ho;refine⟨_,w,E,.inl (j _ _ d),Le.refl E,?_,F⟩;simp[a61 C];exact N
     ·rcases f1o len with h0|ak
      ·subst h0;refine⟨_,w,E,.inl (j _ _ d),Le.refl E,?_,F⟩;have:o.take off++List.replicate 0 zero++o.drop (off+0)=o:=(by simp);rw[this,a61 C];exact N
      ·have m:=Hs N C a7;obtain⟨cells,te,q,J,a9,hq,_,_⟩:=m.blk;have W:=m.fits;have p:z.cells.size=R:=(by rw[<-G.1,g.len]);have ah:∀ e∈List.replicate len zero,e.length=I.sz:=λe he=>(by rw[ez5 he,g.len,h]);have a8:=a5f G len;have a6:(Builtin.zeroCells z.cells len).size=(List.replicate len zero).length*I.sz:=(by rw[f4t,p,f0j,h]);have a2:D6 E I.sz (Builtin.zeroCells z.cells len) (List.replicate len zero):=by
        intro i e k c u hi hk Q;have Y:i<len:=by
         rcases f5u i len with L|L
         ·exact L
         ·rw[f0e (by simpa using L)]at hi;cases hi
        rw[f00,iP Y]at hi;cases hi;have D:k<zero.length:=by
         rcases f5u k zero.length with L|L
         ·exact L
         ·rw[f0e L]at hk;cases hk
        have aj:=Ng (sz:=R) Y;have X:(i*I.sz+k)%z.cells.size=k:=by
         rw[h,p,f65,ex8];exact f39 (by rw[g.len]at D;exact D)
        unfold Builtin.zeroCells at Q;rw[f1p,f0u,iP (by rw[h,p];rw[g.len]at D;omega)]at Q;simp only[f3y,f2h,X]at Q;have Z:k<z.cells.size:=(by rw[p,<-g.len];exact D);rw[getElem!_pos z.cells k Z]at Q;exact G.2 k c u hk (by rw[<-Q];exact ey4 Z)
       have K:∀ u∈(Builtin.zeroCells z.cells len).toList,u.oneCell'=true:=by
        intro u Q;have⟨i,hi⟩:=f0h.1 Q;rw[f0i]at hi;exact V0 G g.all len i u hi
       have⟨E',h1,h2,h3⟩:=c0n N C a7 (news:=List.replicate len zero) ah a2 a6 K off (by simp;omega) J;have a1:(off+len)*I.sz<=o.length*I.sz:=f0r _ om;rw[f6n,h]at a1;have aa:o.length*R<=I.n:=(by rw[<-h];exact W);have a4:=a65 P I.b te q (off*I.sz) (Builtin.zeroCells z.cells len).toList 0 cells w J (by rw[a9];exact hq) (by simp[f4t,p];rw[h];omega) K;rw[f5y]at a4;rw[f0j]at h2;refine⟨.tuple #[],_,E',.inl (Cj d ?_),h1,h2,.tuple [] #[] rfl (λi c u hc=>by simp at hc)⟩;unfold Builtin.clear_;have ae:(typeInfo e).run P w=.ok i w:=by
        unfold typeInfo;simp only[f5v,program,Sem.run,Result.andThen,hi];rfl
       have ai:(zeroValue e).run P w=.ok z w:=by
        unfold zeroValue;simp only[f5v,ae,Result.andThen,hz,f5w]
       simp only[f0g,ez7,f5v,f4m a5,Result.andThen];obtain⟨al,rfl⟩:∃ l,len=l+1:=⟨len-1,by omega⟩;simp only[f5v,ai,Result.andThen,a4,f5w]
    ·cases A
   ·cases A
  ·rename_i V;rw[V]at T;have⟨S,d⟩:=Jc T;cases A;exact⟨_,w,E,.inl (j _ _ d),Le.refl E,N,F⟩
  ·rename_i V;rw[V]at T;obtain⟨S,cap,d,_⟩:=Qu T;cases A;exact⟨_,w,E,.inl (j _ _ d),Le.refl E,N,F⟩
  ·cases A
 ·cases M
def al0{n:Int}(a:0<=n)(b:n<=1000000000):IntKind.i64.wrap n=n:=by
 unfold IntKind.wrap;simp[IntKind.bits,IntKind.signed,Int.bmod];omega
def dh1{P:Program}{sz b:Nat}{zero:LA}{l c:Opd}{o:Op}(hf:Ci P (.mksl sz b zero l c) o=true):Uy P o (.mksl sz b zero l c):=by
 intro E w H fr a v H' a3 ho hs hr A;cases o<;>simp only[Ci,f1k,f32]at hf;rename_i t l' c';have⟨⟨X,h1⟩,h2⟩:=hf;have hl:=Bv hr h1;have hc:=Bv hr h2;obtain⟨e,Y,d⟩:∃ e,P.underlying t=some (.slice e)/\El P e sz b zero:=by
  split at X
  ·exact⟨_,by assumption,ah8 X⟩
  ·cases X
 have⟨i,z,hi,W,O,hz,a1⟩:=d.ex;have r:RepL E zero z.cells:=by have:=Sf (E:=E) a1;simpa using this
 have s:z.cells.size=sz:=by rw[<-r.1,d.len]
 simp only[Cw]at A;split at A
 ·rename_i k m k' n e1 N;rw[e1]at hl;rw[N]at hc;split at A
  ·rename_i V;have⟨h0,a5,hn,a4⟩:=V;cases A;have h:=a5f r n.toNat;rw[s]at h;have q:m.toNat*sz<=n.toNat*sz:=f0r _ om;have J:D6 E sz ((Array.range (n.toNat*sz)).map (z.cells[· % sz]!)) (List.replicate m.toNat zero):=by
    intro j e' kk cc u p S M;have D:j<m.toNat:=by
     rcases f5u j m.toNat with y|y
     ·exact y
     ·rw[f0e (by simpa using y)]at p;cases p
    rw[f00,iP D]at p;cases p;have F:kk<sz:=by
     rcases f5u kk zero.length with y|y
     ·rw[d.len]at y;exact y
     ·rw[f0e y]at S;cases S
    have:=Ng (sz:=sz) D;have C:(j*sz+kk)%sz=kk:=by
     rw[f65,ex8];exact f39 F
    rw[f1p,f0u,iP om]at M;simp only[f3y,f2h,C]at M;have G:kk<z.cells.size:=(by rw[s];exact F);rw[getElem!_pos z.cells kk G]at M;exact r.2 kk cc u S (by rw[<-M];exact ey4 G)
   have I:∀ (j:Nat) u,((Array.range (n.toNat*sz)).map (z.cells[· % sz]!))[j]?=some u->u.oneCell'=true:=by
    have:=V0 r d.all n.toNat;unfold Builtin.zeroCells at this;rw[s]at this;exact this
   have⟨T,K⟩:=hs.new (List.replicate m.toNat zero) sz ((Array.range (n.toNat*sz)).map (z.cells[· % sz]!)) e (0,0) d.pos (.inl rfl)
    (λe' R=>by rw[ez5 R,d.len]) (by simp;exact q) I J
   refine⟨.slice (some ⟨w.heap.size,0,none⟩) m.toNat n.toNat,_,_,.inl ?_,T,K,?_⟩
   ·simp only[execOp,ho,Fm hl,Fm hc];apply Ey;have L:(typeInfo e).run P w=.ok i w:=by
     unfold typeInfo;simp only[f5v,program,Sem.run,Result.andThen,hi];rfl
    have a2:(zeroValue e).run P w=.ok z w:=by
     unfold zeroValue;simp only[f5v,L,Result.andThen,hz,f5w]
    have Z:=al0 (n:=m) h0 om;have a0:=al0 (n:=n) om hn;have U:(b:Int)*n<=10000*1000000000:=by
     refine f68 (ew7 (c:=n) (show(b:Int)<=10000 by omega) om) ?_;omega
    have Q:((decide (n<0)||decide ((b:Int)*n>2 ^ 48))=true\/decide (m<0)=true\/decide (m>n)=true)=False:=by
     simp;omega
    unfold Instr.makeSlice;simp only[f5v,f4m Y,Result.andThen,asInt,asIntOf,f5w,L,O,Z,a0];rw[iN (by simp;omega)];simp only[f5v,b28,Result.andThen,Hg hi,W];by_cases B:n.toNat*sz=0
    ·simp only[B,if_true,f5w,f5v,Result.andThen,newRow,newObj,Sem.run];have N:∀ f g:Nat->Value,(Array.range 0).map f=(Array.range 0).map g:=λf g=>(by simp);rw[N _ (λx=>z.cells[x%sz]!)];rfl
    ·simp only[iN B,f5v,a2,Result.andThen,f5w,newRow,newObj,Sem.run,s];rfl
   ·have:=Rep.own (E:=E.with H.length ⟨w.heap.size,sz,((Array.range (n.toNat*sz)).map (z.cells[· % sz]!)).size,(List.replicate m.toNat zero).length⟩) H.length sz 0 m.toNat m.toNat n.toNat _ (Env.with_same _ _ _) sm rfl om om om sm;simpa using this
  ·cases A
 ·cases A
def di7{P:Program}{x:Opd}{o:Op}(K:Ci P (.convsb x) o=true):Uy P o (.convsb x):=by
 intro E w H fr a v U M R T S g;cases o<;>simp only[Ci,f1k,f32]at K;rename_i s t y;have⟨⟨J,r⟩,h3⟩:=K;have L:=Bv S h3;have G:P.underlying s=some .string:=by
  split at J<;>first|assumption|cases J
 obtain⟨e,I,F⟩:∃ e,P.underlying t=some (.slice e)/\P.underlying e=some (.int .u8):=by
  split at r
  ·split at r
   ·exact⟨_,by assumption,by assumption⟩
   ·cases r
  ·cases r
 simp only[Cw]at g;split at g
 ·rename_i d N;rw[N]at L;cases g;have n:(⟨d.toArray⟩:ByteArray).size=d.length:=by simp[ByteArray.size]
  have f:=run_bytes_of_string (P:=P) w s t e ⟨d.toArray⟩ G I F;rw[n]at f;have j:d.length<=grownCap w d.length 0 e:=grownCap_ge w _ _ _;generalize Q:grownCap w d.length 0 e=l at j f;let cells:Array Value:=(d.toArray.map λb=>Value.int .u8 b.toNat)++Array.replicate (l-d.length) (.int .u8 0);have p:cells.size=l:=by simp[cells];omega
  have A:bytesRow ⟨d.toArray⟩ l=cells:=by
   simp only[bytesRow,cells,n]
  rw[A,p]at f;have C:Sim E w.drew H:=T.drawn (w.drawn+1);have⟨B,q⟩:=C.new (d.map λb=>[AV.int .u8 b.toNat]) 1 cells e (l,l+1) om (.inr om) sm (by simp;omega)
   (by
    intro i v g;simp only[cells]at g;rw[f0f]at g;split at g
    ·rw[f1p]at g;cases h:d.toArray[i]? with
     |none=>rw[h]at g;cases g
     |some b=>rw[h]at g;cases g;rfl
    ·rw[ez6]at g;split at g
     ·cases g;rfl
     ·cases g)
   (by
    intro i V k c u hi m D;rw[f2i]at hi;cases h:d[i]? with
    |none=>rw[h]at hi;cases hi
    |some b=>
      rw[h]at hi;cases hi;have O:i<d.length:=by
       rcases f5u i d.length with z|z
       ·exact z
       ·rw[f0e z]at h;cases h
      match k,m with
      |0,m=>
        simp at m;subst m;simp only[cells]at D;rw[ex7 (by simp;omega),f6p,f5y,f1p,f0g,h]at D;cases D;exact .pure (x:=.int _ _) (.int _ _)
      |k+1,m=>simp at m)
  refine⟨.slice (some ⟨w.heap.size,0,none⟩) d.length l,_,_,.inl ?_,B,q,?_⟩
  ·simp only[execOp,R,Lo L];apply Ey;exact f
  ·have:=Rep.own (E:=E.with H.length ⟨w.drew.heap.size,1,cells.size,(d.map λb=>[AV.int .u8 b.toNat]).length⟩) H.length 1 0 d.length d.length l _ (Env.with_same _ _ _) sm rfl om j om (by simp[p]);simpa using this
 ·cases g
def dk4{P:Program}{b:AOp}{o:Op}(a:Ci P b o=true):Uy P o b:=by
 cases b
 case alloc=>exact dk2 a
 case box=>exact dj6 a
 case bslice=>exact dj4 a
 case store=>exact dg1 a
 case convsb=>exact di7 a
 case mksl=>exact dh1 a
 case append=>exact dk0 a
 case copy=>exact di4 a
 case clear=>exact dj0 a
 all_goals (cases o<;>simp only[Ci,f1k]at a)
def E8(op:AOp)(ev:Opd->AV)(H:AH):Option (AV×AH):=
 match Be op ev H with
 |some v=>some (v,H)
 |none=>Cw op ev H
theorem cv4{op:AOp}{ev:Opd->AV}{H:AH}{v:AV}(h:Be op ev H=some v):E8 op ev H=some (v,H):=by
 unfold E8;rw[h]
def dg7{P:Program}{c:AOp}{o:Op}(d:(B7 P c o||Ci P c o)=true){E:Env}{w:World}{H:AH}{fr:LA}{a:Act}{v:AV}{g:AH}{b:Oper}(j:b.op=o)(i:Sim E w H)
 (k:RepL E fr a.tmps) (h:E8 c (evalA fr) H=some (v,g)) :
 ∃ u w' f,((execOp a.eval b).run P w=.ok (.value u) w'\/((execOp a.eval b).run P w=.ok .skip w'/\u=undef))/\Le E f/\Sim f w' g/\Rep f v u:=by
 unfold E8 at h;rw[f44]at d;have q:∀ (e:Ci P c o=true),Be c (evalA fr) H=none:=by
  intro e;cases c<;>first|rfl|(cases o<;>simp only[Ci,f1k]at e)
 have p:∀ (e:B7 P c o=true),Cw c (evalA fr) H=none:=by
  intro e;cases c<;>first|rfl|(cases o<;>simp only[B7,f1k]at e)
 rcases d with d|d
 ·rw[p d]at h;split at h
  ·rename_i r n;cases h;have⟨u,l,m⟩:=c1h d E w H fr a v b j i k n;exact⟨u,w,E,.inl l,Le.refl E,i,m⟩
  ·cases h
 ·rw[q d]at h;exact dk4 d E w H fr a v g b j i k h
section
structure AInstr where
 dst:Option Nat
 guard:Option (Nat×Bool)
 op:AOp
 deriving Inhabited
def I0(d s:Nat):AInstr:=⟨some d,none,.mv (.t s)⟩
def I1(d:Nat)(o:AOp):AInstr:=⟨some d,none,o⟩
def I2(d g:Nat)(o:AOp):AInstr:=⟨some d,some (g,true),o⟩
def I3(d g:Nat)(o:AOp):AInstr:=⟨some d,some (g,false),o⟩
def I4(d g s:Nat):AInstr:=⟨some d,some (g,true),.mv (.t s)⟩
def I5(d g s:Nat):AInstr:=⟨some d,some (g,false),.mv (.t s)⟩
def I6(d n s:Nat):AInstr:=⟨some d,none,.faddr n (.t s)⟩
def I7(d s:Nat):AInstr:=⟨some d,none,.load false 1 (.t s)⟩
def I8(d s n:Nat):AInstr:=⟨some d,none,.ext (.t s) n⟩
def I9(n p s:Nat):AInstr:=⟨none,none,.store n (.t p) (.t s)⟩
def KI(n:Int):Opd:=.c (.N n)
inductive ACode where
 |skip
 |reg (ops:List AInstr)
 |dreg (ops:List AInstr)
 |dregE (segs:List (List (Nat×AInstr))) (tab:List (List Nat))
 |seq (a b:ACode)
 |cond (c:Opd) (a b:ACode)
 |block (id:Nat) (b:ACode)
 |loop (b:ACode)
 |exit (id:Nat)
 |ret
 |bad
 deriving Inhabited
inductive AExit where
 |normal
 |exit (id:Nat)
 |ret
def d6c:AExit->Exit
 |.normal=>.normal
 |.exit id=>.exit id
 |.ret=>.ret
def L9(a:Array Oper):Option (Nat×Bool)->Option (Nat×Bool)->Bool
 |none,none=>true
 |some (s,b),some (j,b')=>(b==b')&&decide ((a[j]?).bind (·.dst)=some s)
 |_,_=>false
def fitI(P:Program)(a:Array Oper)(i:AInstr)(o:Oper):Bool:=
 decide (i.dst=o.dst)&&L9 a i.guard o.guard &&
 match i.op,o.op with
 |.call f args,.call { callee:=.value (.func g),args:=as,argTypes:=_ }=>decide (f=g)&&B7.fitOs args as.toList
 |.calld x args,.call { callee:=.value y,args:=as,argTypes:=_ }=>Bw x y&&B7.fitOs args as.toList
 |.eqnil neg x,.binOp op t y (.const (.slice none 0 0)) _=>decide (op=if neg then .neq else .eql)&&(match P.underlying t with|some (.slice _)=>true|_=>false)&&Bw x y
 |.eqnil _ _,_=>false
 |.call _ _,_=>false
 |.calld _ _,_=>false
 |.bad,_=>true
 |ao,oo=>B7 P ao oo||Ci P ao oo
def Rf(P:Program)(a:Array Oper):List AInstr->List Oper->Bool
 |[],[]=>true
 |i::is,o::os=>fitI P a i o&&Rf P a is os
 |_,_=>false
def Ex:AOp->LQ
 |.mv x=>[x]
 |.pick c a b=>[c,a,b]
 |.alloc _=>[]
 |.box x=>[x]
 |.build _ parts=>parts.map (·.2.2)
 |.bslice _ _ _ parts=>parts.map (·.2)
 |.load _ _ x=>[x]
 |.store _ p x=>[p,x]
 |.nilchk x=>[x]
 |.bini _ x y=>[x,y]
 |.bins _ x y=>[x,y]
 |.eqb _ x y=>[x,y]
 |.eqs _ _ x y=>[x,y]
 |.un _ x=>[x]
 |.convi _ x=>[x]
 |.convsb x=>[x]
 |.convbs x=>[x]
 |.convss x=>[x]
 |.mksl _ _ _ l c=>[l,c]
 |.slices x lo hi=>x::(lo.toList++hi.toList)
 |.slicel _ x lo hi=>x::(lo.toList++hi.toList)
 |.slicez x=>[x]
 |.slice3 x lo hi mx=>[x,lo,hi,mx]
 |.eqnil _ x=>[x]
 |.faddr _ x=>[x]
 |.field _ _ _ x=>[x]
 |.iaddr _ x i=>[x,i]
 |.iaddra _ _ x i=>[x,i]
 |.indexs x i=>[x,i]
 |.indexa _ _ _ x i=>[x,i]
 |.cap x=>[x]
 |.ext x _=>[x]
 |.len _ x=>[x]
 |.append _ _ _ x y=>[x,y]
 |.copy _ x y=>[x,y]
 |.clear _ _ x=>[x]
 |.min2 x y=>[x,y]
 |.max2 x y=>[x,y]
 |.mkfn _ f c=>f++c
 |.call _ args=>args
 |.calld x args=>x::args
 |.bad=>[]
def b1w:Opd->lN
 |.t n=>[n]
 |.c _=>[]
def slotsI(i:AInstr):lN:=
 (Ex i.op).flatMap b1w++(match i.guard with
  |some (g,_)=>[g]
  |none=>[])
def Oz(a:Array Oper):Nat->Nat->Nat->Bool
 |0,_,_=>false
 |k+1,j,i=>match a[j]? with
   |some o=>o.after.any λe=>Region.binds .any e&&(e.on==i||Oz a k e.on i)
   |none=>false
def cj6(is:List AInstr)(c:Array Oper)(i:Nat)(a:AInstr)(o:Oper):Bool:=
 (List.range is.length).all (λj=>match is[j]? with
  |some b=>match b.dst with
    |some d=>(!(slotsI a).contains d||(decide (j<i)&&o.after.any λe=>e.on==j&&Region.binds .any e)||(decide (i<j)&&Oz c is.length j i))&&(decide (i=j)||decide (a.dst≠some d))
    |none=>true
  |none=>true)&&o.after.all λe=> !Region.binds .any e||decide (e.on<i)
def el3(is:List AInstr)(b:Array Oper):Bool:=
 (List.range is.length).all λi=>match is[i]?,b[i]? with
  |some a,some o=>cj6 is b i a o
  |_,_=>true
def Yy(a:Array Oper)(tab:List lN):Bool:=
 decide (tab.length=a.size)&&(List.range a.size).all λj=>match a[j]? with
  |some o=>o.after.all (λe=> !Region.binds .any e||decide (e.on<j)) &&
   (tab.getD j []).all λi=>o.after.any λe=>Region.binds .any e&&(e.on==i||(tab.getD e.on []).contains i)
  |none=>true
def sepOK(tab:List lN):List (List (Nat×AInstr))->Bool
 |[]=>true
 |s::rest=> !s.isEmpty&&rest.flatten.all (λy=>s.all λx=>(tab.getD y.1 []).contains x.1)&&sepOK tab rest
def bp1(P:Program)(a:Array Oper)(l:List (Nat×AInstr)):Bool:=
 (l.all λx=>match a[x.1]? with|some o=>fitI P a x.2 o|none=>false)&&decide ((l.map Prod.fst).Nodup)&&(List.range a.size).all λj=>(l.map Prod.fst).contains j
def fitC(P:Program):ACode->Code->Bool
 |.skip,.skip=>true
 |.reg is,.region _ ops false=>Rf P ops is ops.toList
 |.dreg is,.region _ ops true=>P.follows .mixedOrders&&(Rf P ops is ops.toList&&el3 is ops)
 |.dregE segs tab,.region _ ops true=>P.follows .mixedOrders&&(bp1 P ops segs.flatten&&(Yy ops tab&&sepOK tab segs))
 |.seq a b,.seq c d=>fitC P a c&&fitC P b d
 |.cond x a b,.cond y c d=>Bw x y&&fitC P a c&&fitC P b d
 |.block i a,.block j c=>decide (i=j)&&fitC P a c
 |.loop a,.loop c=>fitC P a c
 |.exit i,.exit j=>decide (i=j)
 |.ret,.ret=>true
 |.bad,_=>true
 |_,_=>false
structure LeN(n:Nat)(E E':Env):Prop where
 F:∀ b o,E.F b=some o->E'.F b=some o
 ρ:∀ r x,r<n->E.ρ r=some x->∃ x',E'.ρ r=some x'/\(x'=x\/x.t<x'.t)
 X:E'.X=E.X
 os:E'.os=E.os
 tape:E'.tape=E.tape
 output:E'.output=E.output
theorem Le.toN{E a:Env}(h:Le E a)(n:Nat):LeN n E a:=⟨h.F,λr x _ b=>h.ρ r x b,h.X,h.os,h.tape,h.output⟩
theorem LeN.refl(n:Nat)(E:Env):LeN n E E:=(Le.refl E).toN n
theorem LeN.trans{n:Nat}{A B C:Env}(h:LeN n A B)(a:LeN n B C):LeN n A C:=by
 refine⟨λb o d=>a.F b o (h.F b o d),λr x c f=>?_,a.X.trans h.X,a.os.trans h.os,a.tape.trans h.tape,a.output.trans h.output⟩;have⟨y,g,e⟩:=h.ρ r x c f;have⟨z,j,i⟩:=a.ρ r y c g
 grind
theorem LeN.full{n:Nat}{E a:Env}{w:World}{H:AH}(h:LeN n E a)(d:Sim E w H)(c:H.length<=n):Le E a :=
 ⟨h.F,λr x b=>h.ρ r x (f1r (d.dom r x b) c) b,h.X,h.os,h.tape,h.output⟩
def ak4(P:Program)(f:FuncId):Prop:=∃ a,P.funcs[f]?=some a/\(a.name == "runtime.NumGoroutine")=false/\a.body.isNone=false
def C(P:Program)(f:FuncId)(a:LA)(H:AH)(K:AV->AH->Prop):Prop:=
 ak4 P f/\∀ E w d,Sim E w H->RepL E a d->Calls P f d w λe w'=>∃ v b x c,e=.returned v/\K x c/\LeN H.length E b/\Sim b w' c/\Rep b x v
theorem C.mono{P:Program}{f:FuncId}{a:LA}{H:AH}{K c:AV->AH->Prop}(h:C P f a H K)(d:∀ x b,K x b->c x b):C P f a H c :=
 ⟨h.1,λE w i g e=>(h.2 E w i g e).mono λ_ _ ⟨v,E',x,b,he,hx,rest⟩=>⟨v,E',x,b,he,d _ _ hx,rest⟩⟩
def Bd(fr:LA)(d:Option Nat)(v:AV):LA:=
 match d with
 |some d=>fr.set d v
 |none=>fr
def Xh(x:Option (AV×AH))(K:AV->AH->Prop):Prop:=
 match x with
 |some (v,H)=>K v H
 |none=>False
theorem df7{x:Option (AV×AH)}{K:AV->AH->Prop}(h:Xh x K):∃ v H,x=some (v,H)/\K v H:=by
 unfold Xh at h
 grind
def Q6(H:AH):AV->Option (Option Bool)
 |.fz []=>some none
 |.emp=>some none
 |.fz (_::_)=>some (some false)
 |.own r _ _ len tot=>(B1 H r tot).map λ_=>if 0<len then some false else none
 |_=>none
def Qq(P:Program)(i:AInstr)(K:LA->AH->Prop)(fr:LA)(H:AH):Prop:=
 match i.op with
 |.call f args=>C P f (args.map (evalA fr)) H λx a=>K (Bd fr i.dst x) a
 |.calld x args=>∃ f first cap,evalA fr x=.fn (.func f) first cap/\C P f (first++args.map (evalA fr)++cap) H λx a=>K (Bd fr i.dst x) a
 |.eqnil neg x=>∃ q,Q6 H (evalA fr x)=some q/\∀ b,(∀ c,q=some c->b=c)->K (Bd fr i.dst (.bool (b != neg))) H
 |op=>Xh (E8 op (evalA fr) H) λv a=>K (Bd fr i.dst v) a
def Ue(x:Option AV)(a:Bool)(c no:Prop):Prop:=(∃ b,x=some (.bool b)/\(b=a->c)/\(b≠a->no))\/(x=some (.tuple [])/\no)
def RA(P:Program):List AInstr->(LA->AH->Prop)->LA->AH->Prop
 |[],K,fr,H=>K fr H
 |i::rest,K,fr,H=>
   match i.guard with
   |none=>Qq P i (RA P rest K) fr H
   |some (g,want)=>Ue (fr[g]?) want (Qq P i (RA P rest K) fr H) (RA P rest K (Bd fr i.dst (.tuple [])) H)
abbrev APost:=AExit->LA->AH->Prop
def lft(n0:Nat)(E:Env)(Q:APost):Exit->Act->World->Prop:=λex e w' =>
 ∃ c b d a,d6c a=ex/\Q a b d/\LeN n0 E c/\Sim c w' d/\RepL c b e.tmps/\e.defers=[]
def W(P:Program)(n0:Nat)(b:ACode)(Q:APost)(fr:LA)(H:AH):Prop:=
 ∀ (c:Code) (E:Env) (w:World) (a:Act),fitC P b c=true->Sim E w H->RepL E fr a.tmps->a.defers=[]->c.wp P (lft n0 E Q) a w
section
variable {P:Program} {n0:Nat} {Q Q':APost} {fr:List AV} {H:AH}
theorem L1{E:Env}{a:Act}(b:RepL E fr a.tmps){x:AV}{v:Value}(c:Rep E x v)(d:Option Nat):RepL E (Bd fr d x) (a.put d v).tmps:=by
 cases d with
 |none=>exact b
 |some d=>exact b.set c d
theorem L2{a:Act}(h:a.defers=[])(d:Option Nat)(v:Value):(a.put d v).defers=[]:=by
 cases d<;>exact h
theorem c3f{E d:Env}(j:LeN n0 E d){ex:Exit}{a:Act}{w:World}(h:lft n0 d Q ex a w):lft n0 E Q ex a w:=by
 have⟨e,c,f,b,g,i,h3,h4⟩:=h;exact⟨e,c,f,b,g,i,j.trans h3,h4⟩
theorem Wf{f:ACode}(h:W P n0 f Q fr H)(m:∀ ex b d,Q ex b d->Q' ex b d):W P n0 f Q' fr H:=by
 intro c E w a l o n k;refine f75 (h c E w a l o n k) ?_;rintro ex p w' ⟨g,b,d,e,i,j,h3⟩;exact⟨g,b,d,e,i,m _ _ _ j,h3⟩
theorem cy6(h:Q .normal fr H):W P n0 .skip Q fr H:=by
 intro c E w a d f e b;cases c<;>simp only[fitC,f1k]at d;exact wp_skip ⟨E,fr,H,.normal,rfl,h,LeN.refl _ _,f,e,b⟩
theorem cy7(h:Q .ret fr H):W P n0 .ret Q fr H:=by
 intro c E w a d f e b;cases c<;>simp only[fitC,f1k]at d;exact wp_ret ⟨E,fr,H,.ret,rfl,h,LeN.refl _ _,f,e,b⟩
theorem cy8{id:Nat}(h:Q (.exit id) fr H):W P n0 (.exit id) Q fr H:=by
 intro c E w a b f e d;cases c<;>simp only[fitC,f1k]at b;simp only[f2f]at b;subst b;exact wp_exit ⟨E,fr,H,.exit id,rfl,h,LeN.refl _ _,f,e,d⟩
def ev2(P:Program)(n0:Nat)(b:ACode)(Q:APost):APost
 |.normal,fr,H=>W P n0 b Q fr H
 |e,fr,H=>Q e fr H
theorem ak0{x y:ACode}(h:W P n0 x (ev2 P n0 y Q) fr H):W P n0 (.seq x y) Q fr H:=by
 intro c E w a i o n l;cases c<;>simp only[fitC,f1k,f32]at i;rename_i c d;refine wp_seq (f75 (h c E w a i.1 o n l) ?_);rintro ex k w' ⟨e,b,j,f,rfl,g,h3,h4,h5,h6⟩;cases f with
 |normal=>exact f75 (g d e w' k i.2 h4 h5 h6) (λex a w m=>c3f h3 m)
 |exit id=>exact⟨e,b,j,.exit id,rfl,g,h3,h4,h5,h6⟩
 |ret=>exact⟨e,b,j,.ret,rfl,g,h3,h4,h5,h6⟩
theorem ak1{x:Opd}{a b:ACode}(f:Bool)(q:evalA fr x=.bool f)(p:f=true->W P n0 a Q fr H)(g:f=false->W P n0 b Q fr H):W P n0 (.cond x a b) Q fr H:=by
 intro c E w e k l i j;cases c<;>simp only[fitC,f1k,f32]at k;rename_i y c d;have⟨⟨n,o⟩,h3⟩:=k;have m:=Bv i n;rw[q]at m;exact wp_cond_split (Se m) (λh=>p h c E w e o l i j) (λh=>g h d E w e h3 l i j)
def b04(id:Nat)(Q:APost):APost
 |.exit j,fr,H=>if j=id then Q .normal fr H else Q (.exit j) fr H
 |e,fr,H=>Q e fr H
theorem b73{id:Nat}{b:ACode}(h:W P n0 b (b04 id Q) fr H):W P n0 (.block id b) Q fr H:=by
 intro c E w a k o n m;cases c<;>simp only[fitC,f1k,f32,f2f]at k;rename_i j c;obtain⟨rfl,k⟩:=k;refine wp_block (f75 (h c E w a k o n m) ?_);rintro ex p w' ⟨g,d,i,l,rfl,f,h3,h4,h5,h6⟩;cases l with
 |normal=>exact⟨g,d,i,.normal,rfl,f,h3,h4,h5,h6⟩
 |ret=>exact⟨g,d,i,.ret,rfl,f,h3,h4,h5,h6⟩
 |exit j=>
   simp only[b04]at f;show(if j=id then _ else _);split
   ·rename_i e;rw[iP e]at f;exact⟨g,d,i,.normal,rfl,f,h3,h4,h5,h6⟩
   ·rename_i e;rw[iN e]at f;exact⟨g,d,i,.exit j,rfl,f,h3,h4,h5,h6⟩
def Wk(n0:Nat)(fr:LA)(H:AH)(b:LA)(d:AH):Prop:=
 ∀ (E:Env) (w:World) (c:Array Value),Sim E w H->RepL E fr c->∃ a,LeN n0 E a/\Sim a w d/\RepL a b c
theorem Wk.refl(n0:Nat)(fr:LA)(H:AH):Wk n0 fr H fr H:=λE _ _ b a=>⟨E,LeN.refl _ _,b,a⟩
theorem Wk.trans{n0:Nat}{c d e:LA}{H1 a b:AH}(h:Wk n0 c H1 d a)(m:Wk n0 d a e b):Wk n0 c H1 e b:=by
 intro E w f o n;have⟨g,a1,j,k⟩:=h E w f o n;have⟨i,a2,b2,l⟩:=m g w f j k;exact⟨i,a1.trans a2,b2,l⟩
theorem b01{e:ACode}{b:LA}{d:AH}(o:Wk n0 fr H b d)(h:W P n0 e Q b d):W P n0 e Q fr H:=by
 intro c E w a k n m j;have⟨f,g,i,h3⟩:=o E w a.tmps n m;exact f75 (h c f w a k i h3 j) (λex a w l=>c3f g l)
def QWk(n0:Nat)(Q:APost):APost:=λex fr H=>∃ a b,Wk n0 fr H a b/\Q ex a b
theorem eu2{f:ACode}(h:W P n0 f (QWk n0 Q) fr H):W P n0 f Q fr H:=by
 intro c E w a q s r p;refine f75 (h c E w a q s r p) ?_;rintro ex k w' ⟨g,l,t,b,rfl,⟨d,j,e,o⟩,h3,h4,h5,h6⟩;have⟨i,m,n,g3⟩:=e g w' k.tmps h4 h5;exact⟨i,d,j,b,rfl,o,h3.trans m,n,g3,h6⟩
def ev3(n0:Nat)(I:Nat->LA->AH->Prop)(n:Nat)(Q:APost):APost
 |.normal,fr,H=>∃ a b,Wk n0 fr H a b/\∃ c,c<n/\I c a b
 |e,fr,H=>Q e fr H
theorem eu3{b:ACode}(I:Nat->LA->AH->Prop)(n:Nat)(B:I n fr H)(e:∀ n fr H,I n fr H->W P n0 b (ev3 n0 I n Q) fr H):W P n0 (.loop b) Q fr H:=by
 intro c E w a t F D C;cases c<;>simp only[fitC,f1k]at t;rename_i c;refine wp_loop_ghost (λn a w=>∃ f d h,I n d h/\LeN n0 E f/\Sim f w h/\RepL f d a.tmps/\a.defers=[]) n ⟨E,fr,H,B,LeN.refl _ _,F,D,C⟩ ?_;rintro n a w ⟨u,j,H1,hI,g,r,q,o⟩;refine f75 (e n j H1 hI c u w a t r q o) ?_;rintro ex y w' ⟨f,d,h,i,rfl,l,h3,h4,h5,h6⟩;cases i with
 |normal=>
   have⟨k,x,s,G,p,m⟩:=l;have⟨v,z,A,g3⟩:=s f w' y.tmps h4 h5;exact⟨G,p,v,k,x,m,(g.trans h3).trans z,A,g3,h6⟩
 |exit id=>exact⟨f,d,h,.exit id,rfl,l,g.trans h3,h4,h5,h6⟩
 |ret=>exact⟨f,d,h,.ret,rfl,l,g.trans h3,h4,h5,h6⟩
theorem a48{E:Env}{a:Act}(g:RepL E fr a.tmps):∀ (d:LQ) (b:List Operand),B7.fitOs d b=true->RepL E (d.map (evalA fr)) (b.map a.eval).toArray:=by
 intro d
 induction d with
 |nil=>intro b h;cases b<;>simp only[B7.fitOs,f1k]at h;exact RepL.nil E
 |cons x d j=>
   intro b h;cases b with
   |nil=>simp[B7.fitOs]at h
   |cons y b=>
     simp only[B7.fitOs,f32]at h
     have:=j b h.2;refine⟨by have:=this.1;simp at this;simp[this],λi c u e f=>?_⟩;cases i with
     |zero=>simp at e f;subst e;subst f;exact Bv g h.1
     |succ i=>exact this.2 i c u (by simpa using e) (by simpa using f)
theorem a1m{f:FuncId}(h:ak4 P f)(a:Array Value)(w:World):(callFunc f a).run P w=.ok (.enter f a) w:=by
 have⟨d,b,c,h3⟩:=h;unfold callFunc;simp only[f5v,program,Sem.run,Result.andThen,b,c,f1k,if_false,h3];rfl
theorem ej5{j:Env}{w:World}{a:Act}{o:Oper}{f:Bool}{x:Opd}{g:BinOp}{t A:TypeId}{y:Operand}(l:o.op=.binOp g t y (.const (.slice none 0 0)) A)
 (k:(decide (g=if f then .neq else .eql)&&(match P.underlying t with|some (.slice _)=>true|_=>false)&&Bw x y)=true) (C:Sim j w H) (s:RepL j fr a.tmps) {q:Option Bool} (r:Q6 H (evalA fr x)=some q) :
 ∃ b:Bool,(∀ c,q=some c->b=c)/\(execOp a.eval o).run P w=.ok (.value (.bool (b != f))) w:=by
 simp only[f32,f2f]at k;have⟨⟨h,D⟩,v⟩:=k;have z:=Bv s v;obtain⟨B,u⟩:∃ e,P.underlying t=some (.slice e):=by
  grind
 obtain⟨d,len,cap,n,m⟩:∃ d len cap,a.eval y=.slice d len cap/\∀ c,q=some c->d.isNone=c:=by
  unfold Q6 at r
  grind [Qu,Jc,B1,Option.some.injEq,Kh,Ie]
 have i:(Op.equal t (.slice d len cap) (.slice none 0 0)).run P w=.ok d.isNone w:=by
  have:Op.equal t (.slice d len cap) (.slice none 0 0)=Op.equalIn (9999+1) t (.slice d len cap) (.slice none 0 0):=rfl;rw[this];unfold Op.equalIn;simp only[f5v,f4m u,Result.andThen];cases d<;>rfl
 refine⟨d.isNone,m,?_⟩;simp only[execOp,l,n,show a.eval (.const (.slice none 0 0))=.slice none 0 0 from rfl];apply Ey;have p:∀ g,(eqGuard g t y (.const (.slice none 0 0)) (.slice d len cap) (.slice none 0 0)).run P w=.ok () w:=λg=>by cases g<;>rfl
 simp only[f5v,p,Result.andThen,h];cases f<;>simp only[binOp,if_true,if_false,f1k,f5v,i,Result.andThen]<;>cases d<;>rfl
theorem b1m{E D:Env}{w:World}{a:Act}{a5:Array Oper}{i:AInstr}{o:Oper}(d:fitI P a5 i o=true)(U:Sim D w H)(z:RepL D fr a.tmps)(Y:a.defers=[])(s:LeN n0 E D)
 {K:LA->AH->Prop} (h:Qq P i K fr H) {next:Act->World->Prop} {QQ:Exit->Act->World->Prop}
 (Z:∀ B O n a' w',K O n->LeN n0 E B->Sim B w' n->RepL B O a'.tmps->a'.defers=[]->next a' w'):o.wp P a w next QQ:=by
 unfold fitI at d;rw[f32,f32]at d;obtain⟨⟨l,_⟩,d⟩:=d;have l:i.dst=o.dst:=by simpa using l
 have p:∀ {f:FuncId} {k:LA} {L:Array Value},C P f k H (λx n=>K (Bd fr i.dst x) n)->RepL D k L->(execOp a.eval o).run P w=.ok (.enter f L) w->o.wp P a w next QQ:=by
  intro f k L X a4 c;unfold Oper.wp;rw[c];refine(X.2 D w L U a4).mono ?_;rintro e w' ⟨v,B,x,n,rfl,F,j,A,J⟩;have r:=j.full U (f6o _);rw[l]at F;exact Z B _ n _ w' F (s.trans (r.toN n0)) A (L1 (z.mono r) J o.dst) (L2 Y _ _)
 have plain:(B7 P i.op o.op||Ci P i.op o.op)=true->(∃ v n,E8 i.op (evalA fr) H=some (v,n)/\K (Bd fr i.dst v) n)->o.wp P a w next QQ:=by
  rintro d ⟨v,n,hv,F⟩;have⟨u,w',B,c,j,A,J⟩:=dg7 d rfl U z hv;rw[l]at F;unfold Oper.wp;rcases c with c|⟨c,rfl⟩
  ·rw[c];exact Z B _ n _ w' F (s.trans (j.toN n0)) A (L1 (z.mono j) J o.dst) (L2 Y _ _)
  ·rw[c];exact Z B _ n _ w' F (s.trans (j.toN n0)) A (L1 (z.mono j) J o.dst) (L2 Y _ _)
 have⟨a1,a2,op⟩:=i;unfold Qq at h;cases op
 case call f k=>
  simp only at d h;split at d
  ·rename_i f' G g as a0 M N;cases M;rw[f32,f2f]at d;obtain⟨rfl,m⟩:=d;refine p h (a48 z _ as.toList m) ?_;have:(as.toList.map a.eval).toArray=as.map a.eval:=(by apply f6v;simp);rw[this];simp only[execOp,N,resolve,Deferred.ofValue,show ∀ g,a.eval (.func g)=.func (.func g) #[] #[]from λ_=>rfl,f5v,f5w,Result.andThen,invoke];rw[show(#[]++as.map a.eval++ #[]:Array Value)=as.map a.eval from by simp];exact a1m h.1 _ _
  all_goals first|(rename_i e _;cases e;done)|(rename_i e;cases e;done)|(simp at d;done)|(simp_all;done)
 case calld x k=>
  simp only at d h;split at d
  ·rename_i e _;cases e
  ·rename_i x' G y as a0 M N;cases M;rw[f32]at d;have⟨J,m⟩:=d;have⟨f,first,cap,a3,X⟩:=h;have W:=Bv z J;rw[a3]at W;have⟨L,ws,V,l1,l2,i1,i2⟩:=b2c W;have T:=a48 z _ as.toList m;have e3:(as.toList.map a.eval).toArray=as.map a.eval:=(by apply f6v;simp);rw[e3]at T;have S:=RepL.append (RepL.append (show RepL D first L from ⟨l1,i1⟩) T) (show RepL D cap ws from ⟨l2,i2⟩);refine p X S ?_;simp only[execOp,N,resolve,V,Deferred.ofValue,f5v,f5w,Result.andThen,invoke];exact a1m X.1 _ _
  all_goals first|(rename_i e _;cases e;done)|(rename_i e;cases e;done)|(simp at d;done)|(simp_all;done)
 case eqnil=>
  simp only at d h;have I:a1=o.dst:=l;have⟨q,hq,F⟩:=h;split at d
  ·rename_i e _;cases e
  ·rename_i e _;cases e
  ·rename_i a6 x' bo t y ty M N;cases M;have⟨b,hb,c⟩:=ej5 N d U z hq;have R:=F b hb;rw[I]at R;unfold Oper.wp;rw[c];exact Z D _ H _ w R s U (L1 z (.pure (x:=.bool _) (.bool _)) o.dst) (L2 Y _ _)
  all_goals first|(rename_i e _;cases e;done)|(rename_i e;cases e;done)|(simp at d;done)|(simp_all;done)
 case bad=>exact(show False from h).elim
 all_goals
  simp only at h;refine plain ?_ (df7 h)
  revert d
  cases o.op<;>intro d<;>first|exact d|(simp at d;done)
theorem ap4(E:Env):Rep E (.tuple []) undef:=.tuple [] #[] rfl (λi c u a _=>by simp at a)
theorem bm7{fr:LA}{s:Nat}{x:AV}(a:fr[s]?=some x):s<fr.length:=by
 grind
theorem ak6{E:Env}{a:Array Value}{c:Array Oper}{s j:Nat}{b:Bool}(h:RepL E fr a)(f:fr[s]?=some (.bool b))(i:(c[j]?).bind (·.dst)=some s):yielded c a j=some b:=by
 have d:s<a.size:=by have:=h.1;have:=bm7 f;omega
 have e:a[s]?=some (.bool b):=by
  have g:=ey4 d;rw[g,Se (h.2 s _ _ f g)]
 unfold yielded;rw[i];simp[e]
theorem b0c{E:Env}{a:Array Value}{b:Array Oper}{s j:Nat}(f:RepL E fr a)(e:fr[s]?=some (.tuple []))(g:(b[j]?).bind (·.dst)=some s):yielded b a j=none:=by
 have d:s<a.size:=by have:=f.1;have:=bm7 e;omega
 have c:=ey4 d;obtain⟨i,h,_⟩:=bs5 (f.2 s _ _ e c);rw[h]at c;unfold yielded;rw[g];simp[c]
theorem b2h{E:Env}{ops:Array Oper}:∀ (l:List Oper) (is:List AInstr) (E1:Env) (a:Act) (w:World) (fr:List AV) (H:AH),Rf P ops is l=true->RA P is (Q .normal) fr H->Sim E1 w H->RepL E1 fr a.tmps->a.defers=[]->
 LeN n0 E E1->wpList P ops (lft n0 E Q) l a w
 |[],is,E1,a,w,fr,H,hf,h,hs,hr,hd,hle=>by
   cases is with
   |cons i is=>simp[Rf]at hf
   |nil=>exact⟨E1,fr,H,.normal,rfl,h,hle,hs,hr,hd⟩
 |o::l,is,E1,a,w,fr,H,hf,h,hs,hr,hd,hle=>by
   cases is with
   |nil=>simp[Rf]at hf
   |cons i is=>
     simp only[Rf,f32]at hf;obtain⟨hi,hrest⟩:=hf;have step:∀ (hst:Qq P i (RA P is (Q .normal)) fr H),o.wp P a w (wpList P ops (lft n0 E Q) l) (lft n0 E Q):=λhst=>
      b1m hi hs hr hd hle hst λE' fr' H' a' w' hK hle' hs' hr' hd'=>b2h l is E' a' w' fr' H' hrest hK hs' hr' hd' hle'
     have hg:L9 ops i.guard o.guard=true:=by
      grind [fitI]
     have hdst:i.dst=o.dst:=by
      grind [fitI]
     unfold RA at h;unfold wpList;cases hig:i.guard with
     |none=>
       rw[hig]at hg h;cases hog:o.guard with
       |some g=>rw[hog]at hg;simp[L9]at hg
       |none=>
         rw[if_pos (by simp[Region.wanted,hog])];exact .inl (step h)
     |some g=>
       obtain⟨s,want⟩:=g;rw[hig]at hg h;cases hog:o.guard with
       |none=>rw[hog]at hg;simp[L9]at hg
       |some g' =>
         obtain⟨j,want'⟩:=g';rw[hog]at hg;simp only[L9,f32,beq_iff_eq,f2f]at hg;obtain⟨rfl,hj⟩:=hg;have skip:Region.wanted o (yielded ops a.tmps)=false->RA P is (Q .normal) (Bd fr i.dst (.tuple [])) H->(if Region.wanted o (yielded ops a.tmps)=true then o.wp P a w (wpList P ops (lft n0 E Q) l) (lft n0 E Q)\/(o.asks P a w/\LetsOut (lft n0 E Q))else wpList P ops (lft n0 E Q) l (a.put o.dst undef) w):=by
          intro hw hno;rw[hw,if_neg (by simp)];refine b2h l is E1 _ w _ H hrest hno hs ?_ (L2 hd _ _) hle
          grind [L1,ap4]
         rcases h with ⟨b,hb,hyes,hno⟩|⟨hb,hno⟩
         ·have hy:yielded ops a.tmps j=some b:=ak6 hr hb hj;have hw:Region.wanted o (yielded ops a.tmps)=(b==want):=by
           simp only[Region.wanted,hog,hy]
           grind
          grind
         ·have hy:yielded ops a.tmps j=none:=b0c hr hb hj;have hw:Region.wanted o (yielded ops a.tmps)=false:=by
           simp only[Region.wanted,hog,hy];rfl
          exact skip hw hno
theorem b02{is:List AInstr}(h:RA P is (Q .normal) fr H):W P n0 (.reg is) Q fr H:=by
 intro c E w a hf hs hr hd;cases c<;>try (simp only[fitC,f1k]at hf;done)
 rename_i id ops draw;cases draw<;>simp only[fitC,f1k]at hf;exact wp_region_list (b2h ops.toList is E a w fr H hf h hs hr hd (LeN.refl _ _))
end
end
inductive ARes where
 |tmp (t:Nat)
 |cell (t:Nat) (agg:Bool) (n:Nat)
 deriving Inhabited
def Hx(fr:LA)(H:AH):ARes->Option AV
 |.tmp t=>some ((fr[t]?).getD .top)
 |.cell t agg n=>(Lr H n ((fr[t]?).getD .top)).map (Fg agg)
def Hd(fr:LA)(H:AH):List ARes->Option LA
 |[]=>some []
 |r::rs=>
   match Hx fr H r,Hd fr H rs with
   |some v,some vs=>some (v::vs)
   |_,_=>none
def Iy:LA->AV
 |[v]=>v
 |vs=>.tuple vs
def Fs(a:List ARes)(fr:LA)(H:AH):Option AV:=(Hd fr H a).map Iy
def b5b(P:Program):ARes->ResultVar->Bool
 |.tmp t,.tmp u=>decide (t=u)
 |.cell t agg n,.cell u ty=>decide (t=u)&&Pv P ty agg n&&(agg||decide (n=1))
 |_,_=>false
def fitRs(P:Program):List ARes->List ResultVar->Bool
 |[],[]=>true
 |a::as,b::bs=>b5b P a b&&fitRs P as bs
 |_,_=>false
def bp8{P:Program}{E:Env}{w:World}{H:AH}{fr:LA}{e:Array Value}(R:Sim E w H)(I:RepL E fr e)(f:ResultVar->Sem Value)(N:∀ t,f (.tmp t)=pure (e.getD t undef))
 (O:∀ a t,f (.cell a t)=do loadVar t (←asAddr (e.getD a undef))):∀ (z:List ARes) (bs:List ResultVar) (B:LA),fitRs P z bs=true->Hd fr H z=some B->
 ∃ A:List Value,(bs.mapM f).run P w=.ok A w/\RepL E B A.toArray
 |[],bs,B,s,he=>by
   cases bs with
   |cons b bs=>simp[fitRs]at s
   |nil=>simp only[Hd,f2h]at he;subst he;exact⟨[],by simp[f5w],RepL.nil E⟩
 |r::z,bs,B,s,he=>by
   cases bs with
   |nil=>simp[fitRs]at s
   |cons b bs=>
     simp only[fitRs,f32]at s;have⟨j,D⟩:=s;simp only[Hd]at he;split at he
     ·rename_i v A m S;cases he;have⟨Z,y,k⟩:=bp8 R I f N O z bs A D S;have L:∃ u,(f b).run P w=.ok u w/\Rep E v u:=by
       cases r with
       |tmp t=>
         cases b<;>simp only[b5b,f1k,f2f]at j;subst j;simp only[Hx,f2h]at m;subst m;exact⟨_,by rw[N];rfl,I.get _ _⟩
       |cell t l n=>
         cases b<;>simp only[b5b,f1k,f32,f2f]at j;rename_i a ty;obtain⟨⟨rfl,K⟩,x⟩:=j;have X:=a5q K;simp only[Hx]at m;cases o:Lr H n ((fr[t]?).getD .top)with
         |none=>rw[o]at m;cases m
         |some M=>
           rw[o]at m;cases m;have⟨b',off,cells,te,q,W,T,F,g⟩:=bx5 (P:=P) R (I.get t undef) o;have d:l=false->n=1:=(by intro h;subst h;simpa using x);have G:=bp9 (P:=P) X T F d;refine⟨if l then .agg (cells.extract off (off+n))else(cells[off]?).getD undef,?_,?_⟩
           ·simp only[O,W,asAddr,f5v,f5w,Result.andThen];exact G
           ·cases l with
            |true=>exact .agg _ _ (by simpa using g.1) g.2
            |false=>
              have:=d rfl;subst this;simp only[Fg,f1k,if_false];have U:=g.1;have Q:M[0]?=some (M[0]'(by simp at U;omega)):=ez2 _;rw[Q,ey4 (show off<cells.size from by omega)];exact g.2 0 _ _ Q (by rw[f06];simp;omega)
      have⟨u,V,J⟩:=L;refine⟨u::Z,?_,?_⟩
      ·simp only[f4r,f5v,V,Result.andThen,y,f5w]
      ·refine⟨by have:=k.1;simp at this;simp[this],λi c Y C p=>?_⟩;cases i with
       |zero=>simp at C p;subst C;subst p;exact J
       |succ i=>exact k.2 i c Y (by simpa using C) (by simpa using p)
     ·cases he
def a5b(a:List ARes)(K:AV->AH->Prop):APost
 |.exit _,_,_=>False
 |_,fr,H=>∃ x,Fs a fr H=some x/\K x H
structure FnD(P:Program)(f:FuncId)(np nt:Nat)(res:List ARes)(ac:ACode):Prop where
 ex:∃ fn code,P.funcs[f]?=some fn/\(fn.name == "runtime.NumGoroutine")=false/\fn.body=some code/\fn.ntmps=np+nt/\fitC P ac code=true/\fitRs P res fn.results.toList=true
def ew3{P:Program}{f:FuncId}{Z U:Nat}{g:List ARes}{V:ACode}(Q:FnD P f Z U g V){d:LA}{H:AH}{K:AV->AH->Prop}(hn:d.length=Z)
 (h:W P H.length V (a5b g K) (d++List.replicate U .top) H):C P f d H K:=by
 have⟨I,p,X,l,e,a0,s,z⟩:=Q.ex;refine⟨⟨I,X,l,by simp[e]⟩,λE w n hs Y=>?_⟩;refine calls_of_wp X e ?_;have hl:=Y.1;have k:RepL E (d++List.replicate U .top) (n++Array.replicate (I.ntmps-n.size) undef):=by
  refine RepL.append Y ⟨by simp;omega,λi c u J _=>?_⟩;rw[f00]at J;split at J
  ·cases J;exact .top _
  ·cases J
 refine f75 (h p E w ⟨_,[]⟩ s hs k rfl) ?_;rintro ex G w' ⟨E',q,F,M,rfl,N,S,B,T,O⟩;have Cj:(∃ x,Fs g q F=some x/\K x F)->G.defers=[]/\∃ v,(results I G.tmps).run P w'=.ok v w' /\
  (∃ v' j x o,Ending.returned v=.returned v'/\K x o/\LeN H.length E j/\Sim j w' o/\Rep j x v'):=by
  rintro⟨x,D,hK⟩;unfold Fs at D;cases m:Hd q F g with
  |none=>rw[m]at D;cases D
  |some xs=>
    rw[m]at D;cases D;have⟨L,A,b⟩:=bp8 (P:=P) B T (fun|.tmp t=>pure (G.tmps.getD t undef)|.cell a t=>do loadVar t (←asAddr (G.tmps.getD a undef))) (λ_=>rfl) (λ_ _=>rfl) g I.results.toList xs z m;refine⟨O,(if h:L.toArray.size=1 then L.toArray[0]else .tuple L.toArray),?_,_,E',_,F,rfl,hK,S,B,?_⟩
    ·unfold results;rw[Array.mapM_eq_mapM_toList,f5v,Sem.run_map];refine Eq.trans (congrArg (λr:Result (List Value)=>Result.andThen (Result.andThen r (λa w=>.ok a.toArray w):Result (Array Value)) (λn=>(pure (if h:n.size=1 then n[0]else .tuple n):Sem Value).run P)) A) ?_;rfl
    ·match xs,b with
     |[x],b=>
       have R:L.toArray.size=1:=b.1.symm;rw[dif_pos R];exact b.2 0 x _ rfl (ey4 om)
     |[],b=>
       rw[dif_neg (by rw[<-b.1];simp)];exact .tuple _ _ b.1 b.2
     |x::y::r,b=>
       rw[dif_neg (by rw[<-b.1];simp)];exact .tuple _ _ b.1 b.2
 cases M with
 |normal=>exact Cj N
 |ret=>exact Cj N
 |exit id=>exact N.elim
def Yp:LA->LA->Prop
 |[],[]=>True
 |x::xs,y::ys=>(x=.top\/x=y)/\Yp xs ys
 |_,_=>False
def Yp.rep{E:Env}:∀ {b a:LA} {j:Array Value},Yp b a->RepL E a j->RepL E b j:=by
 intro b a j h k;have g:∀ (b a:LA),Yp b a->b.length=a.length/\∀ (i:Nat) c,b[i]?=some c->c=.top\/a[i]?=some c:=by
  intro b
  induction b with
  |nil=>intro a h;cases a with|nil=>exact⟨rfl,λi c d=>by simp at d⟩|cons=>exact h.elim
  |cons x b n=>
    intro a h;cases a with
    |nil=>exact h.elim
    |cons y a=>
      have⟨e,f⟩:=n a h.2;refine⟨by simp[e],λi c d=>?_⟩;cases i with
      |zero=>simp at d;subst d;rcases h.1 with rfl|rfl<;>simp
      |succ i=>exact f i c (by simpa using d)
 have⟨e,f⟩:=g b a h;refine⟨e.trans k.1,λi c u d m=>?_⟩;rcases f i c d with rfl|l
 ·exact .top _
 ·exact k.2 i c u l m
def az9{n0:Nat}{fr a:LA}{H:AH}(h:Yp a fr):Wk n0 fr H a H:=λE _ _ c b=>⟨E,LeN.refl _ _,c,h.rep b⟩
mutual
def ren(τ:Nat->Option Nat):AV->AV
 |.own r sz off len tot=>match τ r with|some a=>.own a sz off len tot|none=>.top
 |.ptr r i j tot=>match τ r with|some a=>.ptr a i j tot|none=>.top
 |.agg cs=>.agg (Ck τ cs)
 |.tuple cs=>.tuple (Ck τ cs)
 |.fn f first cap=>.fn f (Ck τ first) (Ck τ cap)
 |.top=>.top
 |.bool b=>.bool b
 |.int k n=>.int k n
 |.str s=>.str s
 |.nilp=>.nilp
 |.emp=>.emp
 |.fz es=>.fz es
 |.fptr cs=>.fptr cs
 |.nilfn=>.nilfn
def Ck(τ:Nat->Option Nat):LA->LA
 |[]=>[]
 |x::xs=>ren τ x::Ck τ xs
end
def Lq(τ:Nat->Option Nat):∀ a:LA,Ck τ a=a.map (ren τ)
 |[]=>by simp[Ck]
 |x::a=>by simp[Ck,Lq τ a]
def bt9(τ:Nat->Option Nat)(p:PV):ren τ (emb p)=emb p:=by
 cases p<;>simp[emb,ren]
def Z7{E E0:Env}{τ:Nat->Option Nat}(H:∀ b o,E.F b=some o->E0.F b=some o)(z:∀ r l y,τ r=some l->E.ρ r=some y->E0.ρ l=some y){x:AV}{v:Value}(h:Rep E x v):Rep E0 (ren τ x) v:=by
 induction h with
 |top v=>simp only[ren];exact .top v
 |pure h=>rw[bt9];exact .pure (h.mono H)
 |agg A G s _ w=>
   simp only[ren,Lq];refine .agg _ _ (by simpa using s) (λi c u e n=>?_);rw[f2i]at e;cases d:A[i]? with
   |none=>rw[d]at e;cases e
   |some m=>rw[d]at e;cases e;exact w i m u d n
 |tuple A G s _ w=>
   simp only[ren,Lq];refine .tuple _ _ (by simpa using s) (λi c u e n=>?_);rw[f2i]at e;cases d:A[i]? with
   |none=>rw[d]at e;cases e
   |some m=>rw[d]at e;cases e;exact w i m u d n
 |fn f first cap G K s I _ _ w D =>
   simp only[ren,Lq];refine .fn f _ _ _ _ (by simpa using s) (by simpa using I) (λi c u e n=>?_) (λi c u e n=>?_)
   ·rw[f2i]at e;cases d:first[i]? with
    |none=>rw[d]at e;cases e
    |some m=>rw[d]at e;cases e;exact w i m u d n
   ·rw[f2i]at e;cases d:cap[i]? with
    |none=>rw[d]at e;cases e
    |some m=>rw[d]at e;cases e;exact D i m u d n
 |own0 r sz a=>
   simp only[ren];split
   ·exact .own0 _ sz a
   ·exact .top _
 |own r sz off len tot cap x p g C t q e J=>
   simp only[ren];split
   ·rename_i l k;exact .own l sz off len tot cap x (z r l x k p) g C t q e J
   ·exact .top _
 |ptr r i j tot x p g=>
   simp only[ren];split
   ·rename_i l k;exact .ptr l i j tot x (z r l x k p) g
   ·exact .top _
 |stale_own r sz off len tot v x p g B=>
   simp only[ren];split
   ·rename_i l k;exact .stale_own l sz off len tot v x (z r l x k p) g B
   ·exact .top _
 |stale_ptr r i j tot v x p g B=>
   simp only[ren];split
   ·rename_i l k;exact .stale_ptr l i j tot v x (z r l x k p) g B
   ·exact .top _
def renO(τ:Nat->Option Nat)(o:AObj):AObj:=o.map (Ck τ)
def bu3(τ:Nat->Option Nat)(o:AObj):(renO τ o).length=o.length:=by simp[renO]
def Lies.ren{E E0:Env}{τ:Nat->Option Nat}(u:∀ b o,E.F b=some o->E0.F b=some o)(H:∀ r n y,τ r=some n->E.ρ r=some y->E0.ρ n=some y){w w':World}{o:AObj}{x:Own}
 (h:Lies E w o x) (g:E0.F x.b=none/\E0.X x.b=none) (G:w'.heap[x.b]?=w.heap[x.b]?):Lies E0 w' (renO τ o) x:=by
 have⟨cells,t,q,z,B,C,s,A⟩:=h.blk;refine⟨by rw[bu3];exact h.t,h.pos,g,⟨cells,t,q,G.trans z,B,C,s,?_⟩,?_,by rw[bu3];exact h.fits⟩
 ·intro i e k c v hi f D;unfold renO at hi;rw[f2i]at hi;cases a:o[i]? with
  |none=>rw[a]at hi;cases hi
  |some j =>
    rw[a]at hi;cases hi;rw[Lq,f2i]at f;cases d:j[k]? with
    |none=>rw[d]at f;cases f
    |some p=>rw[d]at f;cases f;exact Z7 u H (A i j k p v a d D)
 ·intro e m;unfold renO at m;obtain⟨j,l,rfl⟩:=f62.1 m;rw[Lq,f3z];exact h.sz j l
section
def Bh(a:lN)(r:Nat):Option Nat:=a.idxOf? r
def Iz(a:lN)(n:Nat)(i:Nat):Option Nat:=if i<a.length then a[i]? else some (n+(i-a.length))
def Cp(H:AH):lN->List (Option AObj)->AH
 |r::rs,o::os=>Cp (H.set r o) rs os
 |_,_=>H
def back(a:lN)(H b:AH):AH:=
 Cp H a (b.map λo=>o.map (renO (Iz a H.length)))++(b.drop a.length).map λo=>o.map (renO (Iz a H.length))
def Z2:∀ (b:lN) (H:AH) (a:List (Option AObj)),(Cp H b a).length=H.length
 |[],H,a=>by cases a<;>rfl
 |r::b,H,[]=>rfl
 |r::b,H,o::a=>by rw[Cp,Z2 b];simp
theorem a1j:∀ (b:lN) (H:AH) (a:List (Option AObj)) (r:Nat),r∉b->(Cp H b a)[r]?=H[r]?
 |[],H,a,r,_=>by cases a<;>rfl
 |s::b,H,[],r,_=>rfl
 |s::b,H,o::a,r,h=>by
   simp only[f5h,not_or]at h;rw[Cp,a1j b _ a r h.2,f0p (Ne.symm h.1)]
def b24:∀ (a:lN) (H:AH) (b:List (Option AObj)) (i r:Nat),a.Nodup->a[i]?=some r->i<b.length->r<H.length->(Cp H a b)[r]?=b[i]?
 |[],_,_,_,_,_,h,_,_=>by simp at h
 |s::a,H,[],_,_,_,_,h,_=>by simp at h
 |s::a,H,o::b,0,r,hn,h,_,hr=>by
   simp at h;subst h;rw[Cp,a1j a _ b s (f45.1 hn).1,f04 hr];rfl
 |s::a,H,o::b,i+1,r,hn,h,hi,hr=>by
   rw[Cp,b24 a _ b i r (f45.1 hn).2 (by simpa using h) (by simpa using hi) (by simpa using hr)];rfl
def Ll{a:lN}{r i:Nat}(h:Bh a r=some i):a[i]?=some r:=by
 unfold Bh at h;obtain⟨b,c,_⟩:=List.idxOf?_eq_some_iff.1 h;rw[ez2 b];simpa using c
def Mf{a:lN}{r i:Nat}(f:a.Nodup)(h:a[i]?=some r):Bh a r=some i:=by
 cases d:Bh a r with
 |none=>
   unfold Bh at d;rw[List.idxOf?_eq_none_iff]at d;exact absurd (f0q h) (by simpa using d)
 |some j=>
   have c:=Ll d;have hi:i<a.length:=by
    rcases f5u i a.length with b|b
    ·exact b
    ·rw[f0e b]at h;cases h
   have e:j<a.length:=by
    rcases f5u j a.length with b|b
    ·exact b
    ·rw[f0e b]at c;cases c
   rw[ez2 hi]at h;rw[ez2 e]at c;have:a[i]=a[j]:=(f4a h).trans (f4a c).symm;rw[(List.getElem_inj f).1 this]
def bh1{a:lN}{r:Nat}(h:Bh a r=none):r∉a:=by
 unfold Bh at h;rw[List.idxOf?_eq_none_iff]at h;simpa using h
open Classical in
def b7c{P:Program}{f:FuncId}{N:LA}{H:AH}{K K0:AV->AH->Prop}(a:lN)(V:a.Nodup)(ag:∀ r∈a,r<H.length)
 (hC:C P f (Ck (Bh a) N) (a.map λr=>(H.at r).map (renO (Bh a))) K0)
 (hK:∀ x H',K0 x H'->a.length<=H'.length/\K (ren (Iz a H.length) x) (back a H H')):C P f N H K:=by
 refine⟨hC.1,λE w vs J hr=>?_⟩;let m:Nat->Prop:=λb=>∃ r o x,r∉a/\H.at r=some o/\E.ρ r=some x/\x.b=b;let E0:Env:={ F:=E.F,X:=λb=>match E.X b with|some o=>some o|none=>if m b then w.heap[b]? else none,ρ:=λi=>(a[i]?).bind E.ρ,os:=E.os,tape:=E.tape,output:=E.output };let H0:AH:=a.map λr=>(H.at r).map (renO (Bh a));have hτ:∀ r I y,Bh a r=some I->E.ρ r=some y->E0.ρ I=some y:=by
  intro r I y l A;simp only[E0,Ll l,f36,A]
 have ab:∀ b,¬ m b->E0.X b=E.X b:=by
  intro b g;simp only[E0];split
  ·rename_i h;rw[h]
  ·rename_i h;rw[iN g,h]
 have ac:∀ b,m b->E0.X b=w.heap[b]?:=by
  intro b g;simp only[E0];split
  ·rename_i o h;exact(J.frz b o (.inr h)).symm
  ·rw[iP g]
 have U:∀ i o0,AH.at H0 i=some o0->∃ r o,a[i]?=some r/\H.at r=some o/\o0=renO (Bh a) o:=by
  intro i o0 h;simp only[AH.at,H0,f2i]at h;cases k:a[i]? with
  |none=>rw[k]at h;cases h
  |some r=>
    rw[k]at h;simp only[f3y,f3a]at h;cases R:H.at r with
    |none=>simp only[AH.at]at R;rw[R]at h;cases h
    |some o=>simp only[AH.at]at R;rw[R]at h;cases h;exact⟨r,o,rfl,R,rfl⟩
 have an:Sim E0 w H0:=by
  refine⟨J.os,J.tape,J.output,λb o g=>?_,λb o g=>?_,λi x hi=>?_,λi o0 R=>?_,λi i' L o2 x1 x2 l A h3 h4 g=>?_⟩
  ·rcases g with g|g
   ·exact J.frz b o (.inl g)
   ·by_cases D:m b
    ·rw[ac b D]at g;exact g
    ·rw[ab b D]at g;exact J.frz b o (.inr g)
  ·by_cases D:m b
   ·obtain⟨r,o',x,a0,ah,hx,rfl⟩:=D
    have:=(Hs J ah hx).out.1
    change E.F x.b=some o at g
    rw[this]at g;cases g
   ·rw[ab b D];exact J.disj b o g
  ·simp only[E0]at hi;cases k:a[i]? with
   |none=>rw[k]at hi;cases hi
   |some r=>
     rcases f5u i a.length with h'|h'
     ·simpa [H0]using h'
     ·rw[f0e h']at k;cases k
  ·obtain⟨r,o,k,a4,rfl⟩:=U i o0 R;rcases J.obj r o a4 with ⟨rfl,hn⟩|⟨x,hx,W⟩
   ·exact .inl ⟨rfl,by simp only[E0,k,f36,hn]⟩
   ·refine .inr ⟨x,by simp only[E0,k,f36,hx],Lies.ren (E:=E) (E0:=E0) (λ_ _ h=>h) hτ W ⟨W.out.1,?_⟩ rfl⟩;rw[ab x.b ?_]
    ·exact W.out.2
    ·rintro⟨I,o',x',a0,ah,b5,au⟩
     have:=J.inj I r o' o x' x ah a4 b5 hx au;subst this;exact a0 (f0q k)
  ·obtain⟨r,o,k,a4,rfl⟩:=U i L l;obtain⟨I,o',a9,am,rfl⟩:=U i' o2 A;simp only[E0,k,f36]at h3;simp only[E0,a9,f36]at h4
   have:=J.inj r I o o' x1 x2 a4 am h3 h4 g;subst this;have e1:=Mf V k;have e2:=Mf V a9;rw[e1]at e2;cases e2;rfl
 have az:RepL E0 (Ck (Bh a) N) vs:=by
  rw[Lq];refine⟨by simpa using hr.1,λi c u p hu=>?_⟩;rw[f2i]at p;cases ae:N[i]? with
  |none=>rw[ae]at p;cases p
  |some c'=>rw[ae]at p;cases p;exact Z7 (E:=E) (E0:=E0) (λ_ _ h=>h) hτ (hr.2 i c' u ae hu)
 refine(hC.2 E0 w vs an az).mono ?_;rintro e w' ⟨v,S,x,H1,he,aq,ay,n,b6⟩;have⟨b9,ar⟩:=hK x H1 aq;have d:Le E0 S:=ay.full an (f6o _);let Y:Nat->Option Own:=λr=>match Bh a r with
  |some i=>S.ρ i
  |none=>if r<H.length then E.ρ r else S.ρ (a.length+(r-H.length))
 let z:Env:={ F:=S.F,X:=E.X,ρ:=Y,os:=E.os,tape:=E.tape,output:=E.output };have hσ:∀ i I y,Iz a H.length i=some I->S.ρ i=some y->z.ρ I=some y:=by
  intro i I y l A;unfold Iz at l;split at l
  ·simp only[z,Y,Mf V l,A]
  ·rename_i hi;cases l;have M:Bh a (H.length+(i-a.length))=none:=by
    cases p:Bh a (H.length+(i-a.length))with
    |none=>rfl
    |some j=>have:=ag _ (f0q (Ll p));omega
   simp only[z,Y,M];rw[iN om,show a.length+(H.length+(i-a.length)-H.length)=i from by omega];exact A
 have ai:∀ b o,S.F b=some o->z.F b=some o:=λ_ _ h=>h;have a5:Le E z:=by
  refine⟨λb o g=>d.F b o g,λr y G=>?_,rfl,rfl,rfl,rfl⟩;cases p:Bh a r with
  |some i=>
    have⟨y',b7,h⟩:=d.ρ i y (hτ r i y p G);exact⟨y',by simp only[z,Y,p];exact b7,h⟩
  |none=>exact⟨y,by simp only[z,Y,p];rw[iP (J.dom r y G)];exact G,.inl rfl⟩
 have af:∀ r o y,r∉a->H.at r=some o->E.ρ r=some y->w'.heap[y.b]?=w.heap[y.b]?/\S.F y.b=none:=by
  intro r o y a0 R G;have D:m y.b:=⟨r,o,y,a0,R,G,rfl⟩;have l:=ac y.b D;obtain⟨cells,t,q,g,_⟩:=(Hs J R G).blk;rw[g]at l;have A:S.X y.b=some (.cells cells t q):=by rw[d.X];exact l
  refine⟨(n.frz _ _ (.inr A)).trans g.symm,?_⟩;cases hF:S.F y.b with
  |none=>rfl
  |some o'=>have:=n.disj _ _ hF;rw[A]at this;cases this
 have aw:(back a H H1).length=H.length+(H1.length-a.length):=by simp[back,Z2]
 have ad:∀ r o,AH.at (back a H H1) r=some o->(∃ i L,Iz a H.length i=some r/\H1.at i=some L/\o=renO (Iz a H.length) L)\/(r∉a/\r<H.length/\H.at r=some o):=by
  intro r o h;unfold AH.at back at h;rcases f5u r H.length with s|s
  ·rw[ey5 (by rw[Z2];exact s)]at h;cases p:Bh a r with
   |none=>
     have B:=bh1 p;rw[a1j a _ _ r B]at h;exact .inr ⟨B,s,h⟩
   |some i=>
     have k:=Ll p;have ax:i<a.length:=by
      rcases f5u i a.length with h'|h'
      ·exact h'
      ·rw[f0e h']at k;cases k
     rw[b24 a _ _ i r V k (by simp;omega) s,f2i]at h;left;cases l:H1[i]? with
     |none=>rw[l]at h;cases h
     |some oo=>
       rw[l]at h;simp only[f3y,f3a]at h;cases oo with
       |none=>cases h
       |some L=>cases h;exact⟨i,L,by unfold Iz;rw[iP ax];exact k,by unfold AH.at;rw[l];rfl,rfl⟩
  ·rw[ex6 (by rw[Z2];exact s),Z2,f2i,f1l]at h;left;cases l:H1[a.length+(r-H.length)]? with
   |none=>rw[l]at h;cases h
   |some oo=>
     rw[l]at h;simp only[f3y,f3a]at h;cases oo with
     |none=>cases h
     |some L=>
       cases h;refine⟨a.length+(r-H.length),L,?_,by unfold AH.at;rw[l];rfl,rfl⟩;unfold Iz;rw[iN om]
       congr 1;omega
 have O:∀ i r y,Iz a H.length i=some r->z.ρ r=some y->S.ρ i=some y:=by
  intro i r y l A;unfold Iz at l;split at l
  ·simp only[z,Y,Mf V l]at A;exact A
  ·cases l;have M:Bh a (H.length+(i-a.length))=none:=by
    cases p:Bh a (H.length+(i-a.length))with
    |none=>rfl
    |some j=>have:=ag _ (f0q (Ll p));omega
   simp only[z,Y,M]at A;rw[iN om,show a.length+(H.length+(i-a.length)-H.length)=i from by omega]at A;exact A
 have Q:∀ r y,r∉a->r<H.length->z.ρ r=some y->E.ρ r=some y:=by
  intro r y l A h3;have M:Bh a r=none:=by
   cases p:Bh a r with
   |none=>rfl
   |some j=>exact absurd (f0q (Ll p)) l
  simp only[z,Y,M]at h3;rw[iP A]at h3;exact h3
 have b0:Sim z w' (back a H H1):=by
  refine⟨n.os.trans d.os,n.tape.trans d.tape,n.output.trans d.output,λb o g=>?_,λb o g=>?_,λr y G=>?_,λr o R=>?_,λr I o o' y y' l A h3 h4 g=>?_⟩
  ·rcases g with g|g
   ·exact n.frz b o (.inl g)
   ·have:E0.X b=some o:=by
     change E.X b=some o at g
     simp only[E0,g]
    exact n.frz b o (.inr (by rw[d.X];exact this))
  ·have:=n.disj b o g;rw[d.X]at this
   change E.X b=none
   simp only[E0]at this;split at this
   ·cases this
   ·assumption
  ·rw[aw];cases p:Bh a r with
   |some i=>have:=ag r (f0q (Ll p));omega
   |none=>
     simp only[z,Y,p]at G;split at G
     ·omega
     ·have:=n.dom _ _ G;omega
  ·rcases ad r o R with ⟨i,L,hi,l,rfl⟩|⟨B,s,l⟩
   ·rcases n.obj i L l with ⟨rfl,hn⟩|⟨y,G,W⟩
    ·left;refine⟨rfl,?_⟩;cases G:z.ρ r with
     |none=>rfl
     |some y=>have:=O i r y hi G;rw[hn]at this;cases this
    ·right;refine⟨y,hσ i r y hi G,W.ren (E0:=z) ai hσ ⟨W.out.1,?_⟩ rfl⟩
     have:=W.out.2;rw[d.X]at this
     change E.X y.b=none
     simp only[E0]at this;split at this
     ·cases this
     ·assumption
   ·rcases J.obj r o l with ⟨rfl,hn⟩|⟨y,G,W⟩
    ·left;refine⟨rfl,?_⟩;cases G:z.ρ r with
     |none=>rfl
     |some y=>have:=Q r y B s G;rw[hn]at this;cases this
    ·right;have⟨k1,k2⟩:=af r o y B l G;have M:Bh a r=none:=by
      cases p:Bh a r with
      |none=>rfl
      |some j=>exact absurd (f0q (Ll p)) B
     exact⟨y,by simp only[z,Y,M];rw[iP s];exact G,W.mono a5 ⟨k2,W.out.2⟩ k1⟩
  ·have T:∀ i L r y r2 o2 y2,Iz a H.length i=some r->H1.at i=some L->z.ρ r=some y->r2∉a->r2<H.length->H.at r2=some o2->z.ρ r2=some y2->y.b≠y2.b:=by
    intro i L r y r2 o2 y2 a1 a2 a3 b1 b2 b3 b4 av;have b8:=O i r y a1 a3;have ao:=Q r2 y2 b1 b2 b4;have D:m y2.b:=⟨r2,o2,y2,b1,b3,ao,rfl⟩;obtain⟨cells,t,q,aj,_⟩:=(Hs J b3 ao).blk;have A:S.X y2.b=some (.cells cells t q):=by rw[d.X,ac _ D];exact aj
    have:=(Hs n a2 b8).out.2;rw[av,A]at this;cases this
   rcases ad r o l with ⟨i,L,hi,al,rfl⟩|⟨B,s,ak⟩<;>rcases ad I o' A with ⟨i',ap,Z,a7,rfl⟩|⟨a8,aa,a6⟩
   ·have:=n.inj i i' L ap y y' al a7 (O i r y hi h3) (O i' I y' Z h4) g;subst this;rw[hi]at Z;cases Z;rfl
   ·exact absurd g (T i L r y I o' y' hi al h3 a8 aa a6 h4)
   ·exact absurd g.symm (T i' ap I y' r o y Z a7 h4 B s ak h3)
   ·exact J.inj r I o o' y y' ak a6 (Q r y B s h3) (Q I y' a8 aa h4) g
 exact⟨v,z,_,_,he,ar,a5.toN _,b0,Z7 ai hσ b6⟩
end
section
def Db(H:AH):Nat->AV->PV
 |0,x=>(Dr x).getD .top
 |n+1,.own r _ off len tot=>
   match B1 H r tot with
   |some o=>if off+len<=tot then .fz (((o.drop off).take len).map λe=>e.map (Db H n))else .top
   |none=>.top
 |n+1,.ptr r i j tot=>
   match B1 H r tot with
   |some o=>match o[i]? with
     |some e=>if j<=e.length then .fptr ((e.drop j).map (Db H n))else .top
     |none=>.top
   |none=>.top
 |_+1,x=>(Dr x).getD .top
mutual
def Cd(H:AH):AV->AV
 |.agg cs=>.agg (B9 H cs)
 |.tuple cs=>.tuple (B9 H cs)
 |.fn f first cap=>.fn f (B9 H first) (B9 H cap)
 |.own r sz off len tot=>emb (Db H 4 (.own r sz off len tot))
 |.ptr r i j tot=>emb (Db H 4 (.ptr r i j tot))
 |.top=>.top
 |.bool b=>.bool b
 |.int k n=>.int k n
 |.str s=>.str s
 |.nilp=>.nilp
 |.emp=>.emp
 |.fz es=>.fz es
 |.fptr cs=>.fptr cs
 |.nilfn=>.nilfn
def B9(H:AH):LA->LA
 |[]=>[]
 |x::xs=>Cd H x::B9 H xs
end
def a5l(H:AH):∀ a:LA,B9 H a=a.map (Cd H)
 |[]=>by simp[B9]
 |x::a=>by simp[B9,a5l H a]
mutual
def Ed:AV->Bool
 |.bool _|.int _ _|.str _|.nilp|.emp|.nilfn|.top=>true
 |.agg cs=>Re cs
 |.tuple cs=>Re cs
 |_=>false
def Re:LA->Bool
 |[]=>true
 |x::xs=>Ed x&&Re xs
end
def d95{E r:Env}{x:AV}{v:Value}(h:Rep E x v):Ed x=true->Rep r x v:=by
 induction h with
 |top v=>exact λ_=>.top v
 |pure h=>
   intro d;refine .pure ?_;cases h with
   |top=>exact .top _ (by assumption)
   |bool b=>exact .bool b
   |int k n=>exact .int k n
   |str s=>exact .str s
   |nilp=>exact .nilp
   |emp a=>exact .emp a
   |nilfn=>exact .nilfn
   |fz0 a cap=>exact .fz0 a cap
   |fz=>simp[emb,Ed]at d
   |fptr=>simp[emb,Ed]at d
 |agg j q m _ p=>
   intro d;simp only[Ed]at d;have g:∀ (l:LA),Re l=true->∀ c∈l,Ed c=true:=by
    intro l
    induction l with
    |nil=>intro _ c e;simp at e
    |cons y l f =>
      intro h c e;simp only[Re,f32]at h;rcases f5h.1 e with rfl|e
      ·exact h.1
      ·exact f h.2 c e
   exact .agg j q m (λi c u e o=>p i c u e o (g j d c (f0q e)))
 |tuple j q m _ p=>
   intro d;simp only[Ed]at d;have g:∀ (l:LA),Re l=true->∀ c∈l,Ed c=true:=by
    intro l
    induction l with
    |nil=>intro _ c e;simp at e
    |cons y l f =>
      intro h c e;simp only[Re,f32]at h;rcases f5h.1 e with rfl|e
      ·exact h.1
      ·exact f h.2 c e
   exact .tuple j q m (λi c u e o=>p i c u e o (g j d c (f0q e)))
 |fn=>intro d;simp[Ed]at d
 |own0=>intro d;simp[Ed]at d
 |own=>intro d;simp[Ed]at d
 |ptr=>intro d;simp[Ed]at d
 |stale_own=>intro d;simp[Ed]at d
 |stale_ptr=>intro d;simp[Ed]at d
def b1a{F:Nat->Option Obj}{E:Env}(i:∀ b o,E.F b=some o->F b=some o){x:AV}{v:Value}(h:Rep E x v)(d:v.oneCell'=true):RepP F ((Dr x).getD .top) v:=by
 cases j:Dr x with
 |none=>exact .top v d
 |some p=>
   have:=bs6 j;subst this;have c:∀ q:PV,Rep E (emb q) v->RepP E.F q v:=by
    intro q e;generalize a:emb q=y at e;cases e with
    |top v=>
      cases q<;>simp only[emb]at a<;>first|cases a|skip
      exact .top v d
    |pure g =>
      rename_i f;have:q=f:=by
       cases q<;>cases f<;>simp only[emb]at a<;>first|rfl|(cases a;rfl)|cases a
      subst this;exact g
    |_=>cases q<;>simp only[emb]at a<;>cases a
   exact(c p h).mono i
def a5k{E:Env}{w:World}{H:AH}(P:Sim E w H){F:Nat->Option Obj}(X:∀ b o,E.F b=some o->F b=some o)
 (B:∀ r o x,H.at r=some o->E.ρ r=some x->F x.b=w.heap[x.b]?):∀ (n:Nat) (x:AV) (v:Value),Rep E x v->v.oneCell'=true->RepP F (Db H n x) v:=by
 intro n
 induction n with
 |zero=>intro x v h A;simp only[Db];exact b1a X h A
 |succ n Y=>
   intro x v h A;cases x
   case own r sz off len tot=>
    simp only[Db];split
    ·rename_i o U;have⟨m,L,D⟩:=Ie P U;split
     ·rename_i a2;have V:((o.drop off).take len).length=len:=(by simp;omega);rcases Kh h D with ⟨a,rfl,rfl,rfl,rfl⟩|⟨y,cap,N,a3,g1,Z,g3,g4,rfl⟩
      ·have:((o.drop 0).take 0).map (λe=>e.map (Db H n))=[]:=(by simp);rw[this];exact .fz0 _ _
      ·have d:=Hs P m N;have⟨cells,t,q,R,hn,hq,s,S⟩:=d.blk;have l:=B r o y m N;rw[R]at l;have M:(off+len)*y.sz<=o.length*y.sz:=f0r _ om;have K:=d.fits;rw[f6n]at M;have Q:len=(((o.drop off).take len).map λe=>e.map (Db H n)).length:=(by rw[f3z,V]);rw[show Value.slice (some ⟨y.b,off*y.sz,none⟩) len cap=Value.slice (some ⟨y.b,off*y.sz,none⟩) (((o.drop off).take len).map λe=>e.map (Db H n)).length cap from by rw[<-Q]];refine .fz _ y.b (off*y.sz) cap y.sz cells t q l (by rw[<-Q];exact Z) ?_ (by rw[<-Q];omega) ?_
       ·intro e I;obtain⟨O,T,rfl⟩:=f62.1 I;rw[f3z];exact d.sz O (f0t (f0s T))
       ·intro i e k c u hi p W;rw[f2i]at hi;cases g:((o.drop off).take len)[i]? with
        |none=>rw[g]at hi;cases hi
        |some O =>
          rw[g]at hi;cases hi;have C:i<len:=by
           rcases f5u i len with G|G
           ·exact G
           ·rw[f0e om]at g;cases g
          rw[ez3 C,f1l]at g;rw[f2i]at p;cases f:O[k]? with
          |none=>rw[f]at p;cases p
          |some J =>
            rw[f]at p;cases p;have z:cells[(off+i)*y.sz+k]?=some u:=(by rw[<-W,f6n];congr 1;omega);exact Y J u (S (off+i) O k J u g f z) (s _ u z)
     ·exact .top v A
    ·exact .top v A
   case ptr r i j tot=>
    simp only[Db];split
    ·rename_i o U;have⟨m,L,D⟩:=Ie P U;split
     ·rename_i e I;split
      ·rename_i a1;obtain⟨y,N,rfl⟩:=Z8 h D;have d:=Hs P m N;have⟨cells,t,q,R,hn,hq,s,S⟩:=d.blk;have l:=B r o y m N;rw[R]at l;have C:i<o.length:=by
        rcases f5u i o.length with G|G
        ·exact G
        ·rw[f0e G]at I;cases I
       have a0:=d.sz e (f0q I);have hm:=Ng (sz:=y.sz) C;have K:=d.fits;refine .fptr _ y.b _ cells t q l (by simp;omega) ?_;intro k c u p W;rw[f2i,f1l]at p;cases f:e[j+k]? with
       |none=>rw[f]at p;cases p
       |some J =>
         rw[f]at p;cases p;have z:cells[i*y.sz+(j+k)]?=some u:=(by rw[<-W];congr 1;omega);exact Y J u (S i e (j+k) J u I f z) (s _ u z)
      ·exact .top v A
     ·exact .top v A
    ·exact .top v A
   all_goals (simp only[Db];exact b1a X h A)
def d5j{E E0:Env}{w:World}{H:AH}(A:Sim E w H)(q:∀ b o,E.F b=some o->E0.F b=some o)
 (l:∀ r o x,H.at r=some o->E.ρ r=some x->E0.F x.b=w.heap[x.b]?) {x:AV} {v:Value} (h:Rep E x v):Rep E0 (Cd H x) v:=by
 induction h with
 |top v=>simp only[Cd];exact .top v
 |pure h=>
   rename_i x v;have e:Cd H (emb x)=emb x:=(by cases x<;>simp[emb,Cd]);rw[e];exact .pure (h.mono q)
 |agg C I y _ B=>
   simp only[Cd,a5l];refine .agg _ _ (by simpa using y) (λi c u g n=>?_);rw[f2i]at g;cases d:C[i]? with
   |none=>rw[d]at g;cases g
   |some m=>rw[d]at g;cases g;exact B i m u d n
 |tuple C I y _ B=>
   simp only[Cd,a5l];refine .tuple _ _ (by simpa using y) (λi c u g n=>?_);rw[f2i]at g;cases d:C[i]? with
   |none=>rw[d]at g;cases g
   |some m=>rw[d]at g;cases g;exact B i m u d n
 |fn f first cap I L y J _ _ B G =>
   simp only[Cd,a5l];refine .fn f _ _ _ _ (by simpa using y) (by simpa using J) (λi c u g n=>?_) (λi c u g n=>?_)
   ·rw[f2i]at g;cases d:first[i]? with
    |none=>rw[d]at g;cases g
    |some m=>rw[d]at g;cases g;exact B i m u d n
   ·rw[f2i]at g;cases d:cap[i]? with
    |none=>rw[d]at g;cases g
    |some m=>rw[d]at g;cases g;exact G i m u d n
 |own0 r sz a=>simp only[Cd];exact .pure (a5k A q l 4 _ _ (.own0 r sz a) rfl)
 |own r sz off len tot cap x p k D z t g K=>simp only[Cd];exact .pure (a5k A q l 4 _ _ (.own r sz off len tot cap x p k D z t g K) rfl)
 |ptr r i j tot x p k=>simp only[Cd];exact .pure (a5k A q l 4 _ _ (.ptr r i j tot x p k) rfl)
 |stale_own r sz off len tot v x p k s=>simp only[Cd];exact .pure (a5k A q l 4 _ _ (.stale_own r sz off len tot v x p k s) s)
 |stale_ptr r i j tot v x p k s=>simp only[Cd];exact .pure (a5k A q l 4 _ _ (.stale_ptr r i j tot v x p k s) s)
open Classical in
def d4r{P:Program}{f:FuncId}{d:LA}{H:AH}{K0:AV->AH->Prop}(U:C P f (B9 H d) [] K0)(V:∀ x S,K0 x S->Ed x=true)(E:Env)(w:World)(D:Array Value)(g:Sim E w H)(Q:RepL E d D) :
 Calls P f D w λe w'=>∃ v x H1,e=.returned v/\K0 x H1/\Sim E w' H/\Rep E x v:=by
 let m:Nat->Prop:=λb=>∃ r o x,H.at r=some o/\E.ρ r=some x/\x.b=b;let E0:Env:={ F:=λb=>if m b then w.heap[b]? else E.F b,X:=E.X,ρ:=λ_=>none,os:=E.os,tape:=E.tape,output:=E.output };have s:∀ b,m b->E.F b=none/\E.X b=none:=by
  rintro b ⟨r,o,x,n,G,rfl⟩;exact(Hs g n G).out
 have O:∀ b o,E.F b=some o->E0.F b=some o:=by
  intro b o a;simp only[E0];rw[iN (λK=>by rw[(s b K).1]at a;cases a)];exact a
 have l:∀ r o x,H.at r=some o->E.ρ r=some x->E0.F x.b=w.heap[x.b]?:=by
  intro r o x n G;simp only[E0];rw[iP ⟨r,o,x,n,G,rfl⟩]
 have M:Sim E0 w []:=by
  refine⟨g.os,g.tape,g.output,λb o a=>?_,λb o a=>?_,λi x hi=>(by cases hi),λi o0 B=>(by simp[AH.at]at B),λi i' o1 o2 x1 x2 n=>(by simp[AH.at]at n)⟩
  ·rcases a with a|a
   ·simp only[E0]at a;split at a
    ·exact a
    ·exact g.frz b o (.inl a)
   ·exact g.frz b o (.inr a)
  ·simp only[E0]at a;split at a
   ·rename_i K;exact(s b K).2
   ·exact g.disj b o a
 have L:RepL E0 (B9 H d) D:=by
  rw[a5l];refine⟨by simpa using Q.1,λi c u A Y=>?_⟩;rw[f2i]at A;cases p:d[i]? with
  |none=>rw[p]at A;cases A
  |some T=>rw[p]at A;cases A;exact d5j g O l (Q.2 i T u p Y)
 refine(U.2 E0 w D M L).mono ?_;rintro e w' ⟨v,Z,x,H1,W,z,j,k,N⟩;have I:=V x H1 z;have h:∀ b o,E0.F b=some o\/E0.X b=some o->w'.heap[b]?=some o:=by
  intro b o a;rcases a with a|a
  ·exact k.frz b o (.inl (j.F b o a))
  ·exact k.frz b o (.inr (by rw[j.X];exact a))
 refine⟨v,x,H1,W,z,?_,d95 N I⟩;refine⟨k.os.trans j.os,k.tape.trans j.tape,k.output.trans j.output,λb o a=>?_,g.disj,g.dom,λr o B=>?_,g.inj⟩
 ·rcases a with a|a
  ·exact h b o (.inl (O b o a))
  ·exact h b o (.inr a)
 ·rcases g.obj r o B with n|⟨y,R,J⟩
  ·exact .inl n
  ·refine .inr ⟨y,R,J.mono (Le.refl E) J.out ?_⟩;obtain⟨cells,t,q,a,_⟩:=J.blk;rw[a];exact h y.b _ (.inl (by rw[l r o y B R,a]))
def ew2{P:Program}{f:FuncId}{a:LA}{H:AH}{K K0:AV->AH->Prop}(g:C P f (B9 H a) [] K0)(i:∀ x b,K0 x b->Ed x=true/\K x H):C P f a H K:=by
 refine⟨g.1,λE w n l k=>(d4r g (λx b h=>(i x b h).1) E w n l k).mono ?_⟩;rintro e w' ⟨v,x,H1,j,c,d,m⟩;exact⟨v,E,x,H,j,(i x H1 c).2,LeN.refl _ _,d,m⟩
def Ii(H:AH):Nat->AV->lN
 |0,_=>[]
 |n+1,.own r _ off len tot=>r::(match B1 H r tot with
   |some o=>((o.drop off).take len).flatMap λe=>e.flatMap (Ii H n)
   |none=>[])
 |n+1,.ptr r i j tot=>r::(match B1 H r tot with
   |some o=>match o[i]? with
     |some e=>(e.drop j).flatMap (Ii H n)
     |none=>[]
   |none=>[])
 |_+1,_=>[]
mutual
def M5(H:AH):AV->lN
 |.agg cs=>Gy H cs
 |.tuple cs=>Gy H cs
 |.fn _ first cap=>Gy H first++Gy H cap
 |.own r sz off len tot=>Ii H 4 (.own r sz off len tot)
 |.ptr r i j tot=>Ii H 4 (.ptr r i j tot)
 |_=>[]
def Gy(H:AH):LA->lN
 |[]=>[]
 |x::xs=>M5 H x++Gy H xs
end
def c3c{H a:AH}{r tot:Nat}(h:H.at r=a.at r):B1 H r tot=B1 a r tot:=by unfold B1;rw[h]
def al5{H k:AH}:∀ (n:Nat) (x:AV),(∀ r∈Ii H n x,H.at r=k.at r)->Db H n x=Db k n x
 |0,x,_=>rfl
 |n+1,x,h=>by
   cases x
   case own r sz off len tot=>
    have a:=c3c (tot:=tot) (h r (by simp[Ii]));simp only[Db,<-a];cases f:B1 H r tot with
    |none=>rfl
    |some o=>
      simp only;split
      ·congr 1
       refine f16 λe d=>f16 λc b=>al5 n c λs g=>h s ?_;simp only[Ii,f,f5h,f3b];exact .inr ⟨e,d,c,b,g⟩
      ·rfl
   case ptr r i j tot=>
    have a:=c3c (tot:=tot) (h r (by simp[Ii]));simp only[Db,<-a];cases f:B1 H r tot with
    |none=>rfl
    |some o=>
      simp only;cases d:o[i]? with
      |none=>rfl
      |some e=>
        simp only;split
        ·congr 1
         refine f16 λc b=>al5 n c λs g=>h s ?_;simp only[Ii,f,d,f5h,f3b];exact .inr ⟨c,b,g⟩
        ·rfl
   all_goals rfl
mutual
def d5k{H b:AH}:∀ x:AV,(∀ r∈M5 H x,H.at r=b.at r)->Cd H x=Cd b x
 |.own r sz off len tot,h=>by simp only[Cd];rw[al5 4 _ h]
 |.ptr r i j tot,h=>by simp only[Cd];rw[al5 4 _ h]
 |.agg cs,h=>by simp only[Cd];rw[a18 cs h]
 |.tuple cs,h=>by simp only[Cd];rw[a18 cs h]
 |.fn f first cap,h=>by
   simp only[M5,f43]at h;simp only[Cd];rw[a18 first λr a=>h r (.inl a),a18 cap λr a=>h r (.inr a)]
 |.top,_=>by simp[Cd]
 |.bool _,_=>by simp[Cd]
 |.int _ _,_=>by simp[Cd]
 |.str _,_=>by simp[Cd]
 |.nilp,_=>by simp[Cd]
 |.emp,_=>by simp[Cd]
 |.fz _,_=>by simp[Cd]
 |.fptr _,_=>by simp[Cd]
 |.nilfn,_=>by simp[Cd]
def a18{H c:AH}:∀ a:LA,(∀ r∈Gy H a,H.at r=c.at r)->B9 H a=B9 c a
 |[],_=>by simp[B9]
 |x::a,h=>by
   simp only[Gy,f43]at h;simp only[B9];rw[d5k x λr b=>h r (.inl b),a18 a λr b=>h r (.inr b)]
end
end
mutual
def frz(r:Nat)(a:List LP):AV->AV
 |.own r' sz off len tot=>if r'=r then(if tot=a.length/\off+len<=tot then .fz ((a.drop off).take len)else .top)else .own r' sz off len tot
 |.ptr r' i j tot=>if r'=r then(if tot=a.length then(match a[i]? with|some e=>if j<=e.length then .fptr (e.drop j)else .top|none=>.top)else .top)else .ptr r' i j tot
 |.agg cs=>.agg (C5 r a cs)
 |.tuple cs=>.tuple (C5 r a cs)
 |.fn f first cap=>.fn f (C5 r a first) (C5 r a cap)
 |.top=>.top
 |.bool b=>.bool b
 |.int k n=>.int k n
 |.str s=>.str s
 |.nilp=>.nilp
 |.emp=>.emp
 |.fz a=>.fz a
 |.fptr cs=>.fptr cs
 |.nilfn=>.nilfn
def C5(r:Nat)(a:List LP):LA->LA
 |[]=>[]
 |x::xs=>frz r a x::C5 r a xs
end
def Ya(r:Nat)(b:List LP):∀ a:LA,C5 r b a=a.map (frz r b)
 |[]=>by simp[C5]
 |x::a=>by simp[C5,Ya r b a]
def RepL.mapped{E e:Env}{f:AV->AV}{d:LA}{g:Array Value}(h:RepL E d g)(k:∀ c u,Rep E c u->Rep e (f c) u):RepL e (d.map f) g:=by
 refine⟨by simpa using h.1,λi c u b l=>?_⟩;rw[f2i]at b;cases a:d[i]? with
 |none=>rw[a]at b;cases b
 |some j=>rw[a]at b;cases b;exact k _ _ (h.2 i j u a l)
def d94{E R:Env}{w:World}{H:AH}(hs:Sim E w H){r:Nat}{D:List LP}(Z:H.at r=some (D.map λe=>e.map emb))(hF:∀ b o,E.F b=some o->R.F b=some o)(X:R.ρ=E.ρ)
 (J:∀ x,E.ρ r=some x->R.F x.b=w.heap[x.b]?) {x:AV} {v:Value} (h:Rep E x v):Rep R (frz r D x) v:=by
 have m:∀ x,E.ρ r=some x->Lies E w (D.map λe=>e.map emb) x:=λx p=>Hs hs Z p;have pv:∀ (c:PV) u,Rep E (emb c) u->u.oneCell'=true->RepP R.F c u:=by
  intro c u g S
  have:=b1a hF g S;have e:(Dr (emb c)).getD .top=c:=by cases c<;>rfl
  rwa [e]at this
 induction h with
 |top v=>simp only[frz];exact .top v
 |pure h=>
   rename_i x v;have e:frz r D (emb x)=emb x:=(by cases x<;>simp[emb,frz]);rw[e];exact .pure (h.mono hF)
 |agg Y vs n _ V=>
   simp only[frz,Ya];refine .agg _ _ (by simpa using n) (λi c u g B=>?_);rw[f2i]at g;cases d:Y[i]? with
   |none=>rw[d]at g;cases g
   |some K=>rw[d]at g;cases g;exact V i K u d B
 |tuple Y vs n _ V=>
   simp only[frz,Ya];refine .tuple _ _ (by simpa using n) (λi c u g B=>?_);rw[f2i]at g;cases d:Y[i]? with
   |none=>rw[d]at g;cases g
   |some K=>rw[d]at g;cases g;exact V i K u d B
 |fn f first cap vs ws n hm _ _ V a3 =>
   simp only[frz,Ya];refine .fn f _ _ _ _ (by simpa using n) (by simpa using hm) (λi c u g B=>?_) (λi c u g B=>?_)
   ·rw[f2i]at g;cases d:first[i]? with
    |none=>rw[d]at g;cases g
    |some K=>rw[d]at g;cases g;exact V i K u d B
   ·rw[f2i]at g;cases d:cap[i]? with
    |none=>rw[d]at g;cases g
    |some K=>rw[d]at g;cases g;exact a3 i K u d B
 |own0 G sz a=>
   simp only[frz];split
   ·split
    ·rw[f4u];exact .pure (x:=.fz []) (.fz0 _ _)
    ·exact .top _
   ·exact .own0 G sz a
 |own G sz off len tot cap x p l a1 T I g hn=>
   simp only[frz];split
   ·rename_i O;subst O;split
    ·rename_i N;have⟨a2,a6⟩:=N;have n:=m x p;have⟨cells,t,q,hb,a0,hq,z,A⟩:=n.blk;have s:=J x p;rw[hb]at s;have M:((D.drop off).take len).length=len:=(by simp;omega);have U:(off+len)*x.sz<=D.length*x.sz:=f0r _ om;have y:=n.fits;rw[f3z]at y;rw[f6n]at U;rw[show Value.slice (some ⟨x.b,off*x.sz,none⟩) len cap=Value.slice (some ⟨x.b,off*x.sz,none⟩) ((D.drop off).take len).length cap from by rw[M]];refine .pure (x:=.fz _) (.fz _ x.b (off*x.sz) cap x.sz cells t q s (by rw[M];exact I) ?_ (by rw[M];omega) ?_)
     ·intro e Q
      have:=n.sz (e.map emb) (f62.2 ⟨e,f0t (f0s Q),rfl⟩);simpa using this
     ·intro i e k c u hi W B;have L:i<len:=by
       rcases f5u i len with P|P
       ·exact P
       ·rw[f0e om]at hi;cases hi
      rw[ez3 L,f1l]at hi;have C:cells[(off+i)*x.sz+k]?=some u:=(by rw[<-B,f6n];congr 1;omega);exact pv c u (A (off+i) (e.map emb) k (emb c) u (by rw[f2i,hi];rfl) (by rw[f2i,W];rfl) C) (z _ u C)
    ·exact .top _
   ·exact .own G sz off len tot cap x (by rw[X];exact p) l a1 T I g hn
 |ptr G i j tot x p l=>
   simp only[frz];split
   ·rename_i O;subst O;split
    ·rename_i a2;split
     ·rename_i e Q;split
      ·rename_i a5;have n:=m x p;have⟨cells,t,q,hb,a0,hq,z,A⟩:=n.blk;have s:=J x p;rw[hb]at s;have L:i<D.length:=by
        rcases f5u i D.length with P|P
        ·exact P
        ·rw[f0e P]at Q;cases Q
       have a4:e.length=x.sz:=by
        have:=n.sz (e.map emb) (f62.2 ⟨e,f0q Q,rfl⟩);simpa using this
       have hm:=Ng (sz:=x.sz) L;have y:=n.fits;rw[f3z]at y;refine .pure (x:=.fptr _) (.fptr _ x.b _ cells t q s (by simp;omega) ?_);intro k c u W B;rw[f1l]at W;have C:cells[i*x.sz+(j+k)]?=some u:=(by rw[<-B];congr 1;omega);exact pv c u (A i (e.map emb) (j+k) (emb c) u (by rw[f2i,Q];rfl) (by rw[f2i,W];rfl) C) (z _ u C)
      ·exact .top _
     ·exact .top _
    ·exact .top _
   ·exact .ptr G i j tot x (by rw[X];exact p) l
 |stale_own G sz off len tot v x p l S=>
   simp only[frz];split
   ·rename_i O;subst O;split
    ·rename_i N;have n:=m x p
     have:=n.t;rw[f3z]at this;omega
    ·exact .top _
   ·exact .stale_own G sz off len tot v x (by rw[X];exact p) l S
 |stale_ptr G i j tot v x p l S=>
   simp only[frz];split
   ·rename_i O;subst O;split
    ·rename_i N;have n:=m x p
     have:=n.t;rw[f3z]at this;omega
    ·exact .top _
   ·exact .stale_ptr G i j tot v x (by rw[X];exact p) l S
def Jz(f:LA->LA)(H:AH):AH:=H.map λo=>o.map λo=>o.map f
def a54{f:LA->LA}{H:AH}{r:Nat}{o:AObj}(h:AH.at (Jz f H) r=some o):∃ o',H.at r=some o'/\o=o'.map f:=by
 unfold AH.at Jz at h;rw[f2i]at h;cases a:H[r]? with
 |none=>rw[a]at h;cases h
 |some b=>
   rw[a]at h;simp only[f3y,f3a]at h;cases b with
   |none=>cases h
   |some o'=>cases h;exact⟨o',by unfold AH.at;rw[a];rfl,rfl⟩
def cy4{n0:Nat}{fr:LA}{H:AH}(r:Nat)(M:List LP)(f:H.at r=some (M.map λe=>e.map emb)):Wk n0 fr H (C5 r M fr) (Jz (C5 r M) (H.set r none)):=by
 intro E w vs d hr;rw[Ya];let l:Env:={ E with F:=λb=>if(∃ x,E.ρ r=some x/\x.b=b)then w.heap[b]? else E.F b };have B:∀ b,(∃ x,E.ρ r=some x/\x.b=b)->E.F b=none/\E.X b=none:=by
  rintro b ⟨x,m,rfl⟩;exact(Hs d f m).out
 have T:∀ b o,E.F b=some o->l.F b=some o:=by
  intro b o a;simp only[l];rw[iN (λQ=>by rw[(B b Q).1]at a;cases a)];exact a
 have I:∀ x,E.ρ r=some x->l.F x.b=w.heap[x.b]?:=by
  intro x m;simp only[l];rw[iP ⟨x,m,rfl⟩]
 have C:∀ c u,Rep E c u->Rep l (frz r M c) u:=λc u h=>d94 d f T rfl I h;have P:Le E l:=⟨T,λs x m=>⟨x,m,.inl rfl⟩,rfl,rfl,rfl,rfl⟩;refine⟨l,P.toN n0,?_,hr.mapped C⟩;refine⟨d.os,d.tape,d.output,λb o a=>?_,λb o a=>?_,λs x m=>by simp[Jz];exact d.dom s x m,λs o ho=>?_,λs s' o o' x x' V W h3 h4 a=>?_⟩
 ·rcases a with a|a
  ·simp only[l]at a;split at a
   ·exact a
   ·exact d.frz b o (.inl a)
  ·exact d.frz b o (.inr a)
 ·simp only[l]at a;split at a
  ·rename_i Q;exact(B b Q).2
  ·exact d.disj b o a
 ·obtain⟨o',g,rfl⟩:=a54 ho;have j:r≠s:=by
   rintro rfl;rw[a52 _ (Tc f)]at g;cases g
  rw[Ux _ j]at g;rcases d.obj s o' g with ⟨rfl,Z⟩|⟨x,m,A⟩
  ·exact .inl ⟨rfl,Z⟩
  ·refine .inr ⟨x,m,?_⟩;have⟨cells,t,q,a,N,hq,G,J⟩:=A.blk;refine⟨by rw[f3z];exact A.t,A.pos,⟨?_,A.out.2⟩,⟨cells,t,q,a,N,hq,G,?_⟩,?_,by rw[f3z];exact A.fits⟩
   ·simp only[l];rw[iN]
    ·exact A.out.1
    ·rintro⟨y,hy,S⟩;exact j (d.inj r s _ _ y x f g hy m S)
   ·intro i e k c v hi D hv;rw[f2i]at hi;cases n:o'[i]? with
    |none=>rw[n]at hi;cases hi
    |some L =>
      rw[n]at hi;cases hi;rw[Ya,f2i]at D;cases z:L[k]? with
      |none=>rw[z]at D;cases D
      |some U=>rw[z]at D;cases D;exact C _ _ (J i L k U v n z hv)
   ·intro e Y;obtain⟨L,O,rfl⟩:=f62.1 Y;rw[Ya,f3z];exact A.sz L O
 ·obtain⟨p,hp,rfl⟩:=a54 V;obtain⟨p',R,rfl⟩:=a54 W;have K:∀ {s o},AH.at (H.set r none) s=some o->H.at s=some o:=by
   intro s o h;by_cases j:r=s
   ·subst j;rw[a52 _ (Tc f)]at h;cases h
   ·rwa [Ux _ j]at h
  exact d.inj s s' p p' x x' (K hp) (K R) h3 h4 a
def Wp(n r:Nat):Option Nat:=if r<n then some r else none
def et8{n0:Nat}{fr:LA}{H:AH}(n:Nat)(N:n0<=n):Wk n0 fr H (Ck (Wp n) fr) (Jz (Ck (Wp n)) (H.take n)):=by
 intro E w O f L;rw[Lq];let d:Env:={ E with ρ:=λr=>if r<n then E.ρ r else none };have F:∀ r A y,Wp n r=some A->E.ρ r=some y->d.ρ A=some y:=by
  intro r A y j m;unfold Wp at j;split at j
  ·cases j;simp only[d];rw[iP (by assumption)];exact m
  ·cases j
 have q:∀ c u,Rep E c u->Rep d (ren (Wp n) c) u:=λc u h=>Z7 (E:=E) (E0:=d) (λ_ _ h=>h) F h;have g:∀ s x,d.ρ s=some x->s<n/\E.ρ s=some x:=by
  intro s x e;simp only[d]at e;split at e
  ·exact⟨by assumption,e⟩
  ·cases e
 have i:∀ {s o},AH.at (H.take n) s=some o->H.at s=some o:=by
  intro s o h;unfold AH.at at h ⊢;rcases f5u s n with B|B
  ·rwa [ez3 B]at h
  ·rw[f0e (by simp;omega)]at h;cases h
 refine⟨d,⟨λ_ _ h=>h,λr x D e=>⟨x,by simp only[d];rw[iP om];exact e,.inl rfl⟩,rfl,rfl,rfl,rfl⟩,?_,L.mapped q⟩;refine⟨f.os,f.tape,f.output,f.frz,f.disj,λs x e=>?_,λs o J=>?_,λs G o o' x x' j m h3 h4 I=>?_⟩
 ·have⟨a,b⟩:=g s x e
  have:=f.dom s x b;simp[Jz];omega
 ·obtain⟨o',k,rfl⟩:=a54 J;have l:s<n:=by have:=Tc k;simp at this;omega
  have v:=i k;rcases f.obj s o' v with ⟨rfl,t⟩|⟨x,e,C⟩
  ·exact .inl ⟨rfl,by simp only[d];rw[iP l];exact t⟩
  ·refine .inr ⟨x,by simp only[d];rw[iP l];exact e,?_⟩
   have:=Lies.ren (E:=E) (E0:=d) (τ:=Wp n) (λ_ _ h=>h) F C C.out (w':=w) rfl;exact this
 ·obtain⟨p,K,rfl⟩:=a54 j;obtain⟨M,z,rfl⟩:=a54 m;exact f.inj s G p M x x' (i K) (i z) (g s x h3).2 (g G x' h4).2 I
def KWk(n:Nat)(K:AV->AH->Prop):AV->AH->Prop:=λx H=>∃ x' a,Wk n [x] H [x'] a/\K x' a
def ew0{P:Program}{f:FuncId}{a:LA}{H:AH}{K:AV->AH->Prop}(h:C P f a H (KWk H.length K)):C P f a H K:=by
 refine⟨h.1,λE w A y t=>(h.2 E w A y t).mono ?_⟩;rintro e w' ⟨v,m,x,B,s,⟨l,o,k,r⟩,g,j,z⟩;have⟨n,p,q,h3⟩:=k m w' #[v] j ⟨rfl,λi c u b d=>by
  match i,b,d with
  |0,b,d=>simp at b d;subst b;subst d;exact z
  |i+1,b,_=>simp at b⟩
 exact⟨v,n,l,o,s,r,g.trans p,q,h3.2 0 l v rfl rfl⟩
def b0a{P:Program}{f:FuncId}{e g:Nat}{b:List ARes}{d:ACode}(c:FnD P f e g b d){a:LA}{H:AH}{K:AV->AH->Prop}(i:a.length=e)
 (h:W P H.length d (a5b b (KWk H.length K)) (a++List.replicate g .top) H):C P f a H K:=ew0 (ew3 c i h)
def ef3(a no:Prop):Ue (some (.bool true)) true a no=a:=by
 simp[Ue]
def ef4(a no:Prop):Ue (some (.bool false)) true a no=no:=by
 simp[Ue]
section
def Zs:AV->AV
 |.bool b=>.bool b
 |_=>.top
theorem R4(b:Bool):Zs (.bool b)=.bool b:=qq
theorem e4r{x:AV}{b:Bool}(h:Zs x=.bool b):x=.bool b:=by cases x<;>simp_all [Zs]
theorem e4q(x:AV):Zs x≠.tuple []:=by cases x<;>simp[Zs]
def WA(P:Program)(n0:Nat):ACode->APost->LA->AH->Prop
 |.skip,Q,fr,H=>Q .normal fr H
 |.reg is,Q,fr,H=>RA P is (Q .normal) fr H
 |.seq a b,Q,fr,H=>WA P n0 a (λe fr H=>match e with|.normal=>WA P n0 b Q fr H|.exit i=>Q (.exit i) fr H|.ret=>Q .ret fr H) fr H
 |.cond c a b,Q,fr,H=>Ue (some (Zs (evalA fr c))) true (WA P n0 a Q fr H) (WA P n0 b Q fr H)
 |.block id b,Q,fr,H=>WA P n0 b (b04 id Q) fr H
 |.exit id,Q,fr,H=>Q (.exit id) fr H
 |.ret,Q,fr,H=>Q .ret fr H
 |ac,Q,fr,H=>W P n0 ac Q fr H
theorem a59{P:Program}{n0:Nat}:∀ {j:ACode} {Q:APost} {fr:LA} {H:AH},WA P n0 j Q fr H->W P n0 j Q fr H
 |.skip,_,_,_,h=>cy6 h
 |.reg _,_,_,_,h=>b02 h
 |.seq a b,Q,fr,H,h=>by
   refine ak0 (Wf (a59 h) ?_);intro e fr H g;cases e with
   |normal=>exact a59 g
   |exit i=>exact g
   |ret=>exact g
 |.cond c a b,Q,fr,H,h=>by
   rcases h with ⟨k,f,l,m⟩|⟨f,_⟩
   case inr=>exact absurd (by simpa using f) (e4q _)
   refine ak1 k (e4r (by simpa using f)) (λe=>a59 (l e)) (λe=>a59 (m (by simp[e])))
 |.block _ _,_,_,_,h=>b73 (a59 h)
 |.exit _,_,_,_,h=>cy8 h
 |.ret,_,_,_,h=>cy7 h
 |.loop _,_,_,_,h=>h
 |.dreg _,_,_,_,h=>h
 |.dregE _ _,_,_,_,h=>h
 |.bad,_,_,_,h=>h
inductive Tag {α:Sort _} (a:α):Type
 |mk
def b4m(x:Option AV)(a:Bool)(b no:Prop)(_:Tag b)(_:Tag no):Prop:=Ue x a b no
def Zi(x:Option (AV×AH))(K:AV->AH->Prop)(_:Tag K):Prop:=Xh x K
def RT(P:Program)(is:List AInstr)(K:LA->AH->Prop)(fr:LA)(H:AH)(_:Tag is)(_:Tag K):Prop:=RA P is K fr H
def WT(P:Program)(n0:Nat)(a:ACode)(Q:APost)(fr:LA)(H:AH)(_:Tag a)(_:Tag Q):Prop:=WA P n0 a Q fr H
def b76(P:Program)(n0:Nat)(b:ACode)(Q:APost)(_:Tag b)(_:Tag Q):APost:=λe fr H=>match e with|.normal=>WA P n0 b Q fr H|.exit i=>Q (.exit i) fr H|.ret=>Q .ret fr H
section
variable {P:Program} {n0:Nat}
theorem b74{a:ACode}{Q:APost}{fr:LA}{H:AH}(h:WT P n0 a Q fr H .mk .mk):W P n0 a Q fr H:=a59 h
theorem Rm(Q:APost)(fr:LA)(H:AH)(m n):WT P n0 .skip Q fr H m n=Q .normal fr H:=qq
theorem Rq(is:List AInstr)(Q:APost)(fr:LA)(H:AH)(m n):WT P n0 (.reg is) Q fr H m n=RT P is (Q .normal) fr H .mk .mk:=qq
theorem Ro(a b:ACode)(Q:APost)(fr:LA)(H:AH)(m n):WT P n0 (.seq a b) Q fr H m n=WT P n0 a (b76 P n0 b Q .mk .mk) fr H .mk .mk:=qq
theorem Ry(b:ACode)(Q:APost)(fr:LA)(H:AH)(m n):b76 P n0 b Q m n .normal fr H=WT P n0 b Q fr H .mk .mk:=qq
theorem Rx(b:ACode)(Q:APost)(fr:LA)(H:AH)(m n):b76 P n0 b Q m n .ret fr H=Q .ret fr H:=qq
theorem Rz(a:List ARes)(K:AV->AH->Prop)(fr:LA)(H:AH):a5b a K .ret fr H=∃ x,Fs a fr H=some x/\K x H:=qq
theorem Rs(c:Opd)(a b:ACode)(Q:APost)(fr:LA)(H:AH)(m n):WT P n0 (.cond c a b) Q fr H m n=b4m (some (Zs (evalA fr c))) true (WT P n0 a Q fr H .mk .mk) (WT P n0 b Q fr H .mk .mk) .mk .mk:=qq
theorem Rp(Q:APost)(fr:LA)(H:AH)(m n):WT P n0 .ret Q fr H m n=Q .ret fr H:=qq
theorem R8(a no:Prop)(m n):b4m (some (.bool true)) true a no m n=a:=ef3 a no
theorem R9(a no:Prop)(m n):b4m (some (.bool false)) true a no m n=no:=ef4 a no
theorem Qy(v:AV)(H:AH)(K:AV->AH->Prop)(m):Zi (some (v,H)) K m=K v H:=qq
theorem Qz(c:Prop)[Decidable c](x:Option (AV×AH))(K:AV->AH->Prop)(m):Zi (if c then x else none) K m=(c/\Zi x K .mk):=by
 by_cases h:c<;>simp[h,Zi,Xh]
theorem Rt(K:LA->AH->Prop)(fr:LA)(H:AH)(t u):RT P [] K fr H t u=K fr H:=qq
theorem d04{op:AOp}(c:∀ (P:Program) d K fr H,Qq P ⟨d,none,op⟩ K fr H=Xh (E8 op (evalA fr) H) λv a=>K (Bd fr d v) a)(b:∀ ev H,Be op ev H=none)(d:Option Nat)(rest:List AInstr)(K:LA->AH->Prop)(fr:LA)(H:AH)(t u) :
 RT P (⟨d,none,op⟩::rest) K fr H t u=Zi (Cw op (evalA fr) H) (λv a=>RT P rest K (Bd fr d v) a .mk .mk) .mk:=by
 show Qq P ⟨d,none,op⟩ (RA P rest K) fr H=_;rw[c];unfold E8;rw[b];rfl
def pickV(c a b:AV):Option AV:=
 match c with
 |.bool true=>some a
 |.bool false=>some b
 |_=>none
theorem N1(a b:AV):pickV (.bool true) a b=some a:=qq
theorem N2(a b:AV):pickV (.bool false) a b=some b:=qq
def Zm(H:AH)(x:AV):Option AV:=
 match x with
 |.ptr r i j tot=>(B1 H r tot).map λ_=>.ptr r i j tot
 |.fptr cs=>some (.fptr cs)
 |_=>none
theorem Nc(H:AH)(r i j tot:Nat):Zm H (.ptr r i j tot)=(B1 H r tot).map λ_=>.ptr r i j tot:=qq
theorem Nd(H:AH)(a:LP):Zm H (.fptr a)=some (.fptr a):=qq
def Tb(op:BinOp)(x y:AV):Option AV:=
 match x,y with
 |.int k a,.int k' b=>if k=k'\/op=.shl\/op=.shr then Hw op k a b else none
 |_,_=>none
theorem Oo(op:BinOp)(k:IntKind)(a b:Int):Tb op (.int k a) (.int k b)=Hw op k a b:=by simp[Tb]
theorem Om(k c:IntKind)(a b:Int):Tb .shl (.int k a) (.int c b)=Hw .shl k a b:=by simp[Tb]
theorem Ol(k c:IntKind)(a b:Int):Tb .shr (.int k a) (.int c b)=Hw .shr k a b:=by simp[Tb]
theorem Pf(k:IntKind)(a b:Int):Hw .add k a b=some (.int k (k.wrap (a+b))):=qq
theorem P0(k:IntKind)(a b:Int):Hw .sub k a b=some (.int k (k.wrap (a-b))):=qq
theorem P7(k:IntKind)(a b:Int):Hw .mul k a b=some (.int k (k.wrap (a*b))):=qq
theorem P4(k:IntKind)(a b:Int):Hw .quo k a b=if b=0 then none else some (.int k (k.wrap (a.tdiv b))):=qq
theorem P3(k:IntKind)(a b:Int):Hw .rem k a b=if b=0 then none else some (.int k (a.tmod b)):=qq
theorem Pe(k:IntKind)(a b:Int):Hw .and k a b=some (.int k (k.wrap (BitVec.ofInt k.bits a &&& BitVec.ofInt k.bits b).toNat)):=qq
theorem P5(k:IntKind)(a b:Int):Hw .or k a b=some (.int k (k.wrap (BitVec.ofInt k.bits a ||| BitVec.ofInt k.bits b).toNat)):=qq
theorem Pc(k:IntKind)(a b:Int):Hw .eql k a b=some (.bool (decide (a=b))):=qq
theorem P6(k:IntKind)(a b:Int):Hw .neq k a b=some (.bool (!decide (a=b))):=qq
theorem P8(k:IntKind)(a b:Int):Hw .lss k a b=some (.bool (decide (a<b))):=qq
theorem P9(k:IntKind)(a b:Int):Hw .leq k a b=some (.bool (decide (a<=b))):=qq
theorem Pa(k:IntKind)(a b:Int):Hw .gtr k a b=some (.bool (decide (b<a))):=qq
theorem Pb(k:IntKind)(a b:Int):Hw .geq k a b=some (.bool (decide (b<=a))):=qq
theorem P2(k:IntKind)(a b:Int):Hw .shl k a b=if b<0 then none else some (.int k (k.wrap (a*2 ^ (min b.toNat k.bits)))):=qq
theorem P1(k:IntKind)(a b:Int):Hw .shr k a b=if b<0 then none else some (.int k (a.fdiv (2 ^ (min b.toNat k.bits)))):=qq
def a4x(op:BinOp)(x y:AV):Option AV:=
 match x,y with
 |.str a,.str b=>Qj op a b
 |_,_=>none
theorem Ok(op:BinOp)(a b:List UInt8):a4x op (.str a) (.str b)=Qj op a b:=qq
theorem Oy(a b:List UInt8):Qj .add a b=if a.length+b.length<=1000000000 then some (.str (a++b))else none:=qq
theorem Ox(a b:List UInt8):Qj .eql a b=some (.bool (decide (a=b))):=by
 simp only[Qj,f2h,AV.bool.injEq];by_cases h:a=b<;>simp[h]
theorem Oq(a b:List UInt8):Qj .neq a b=some (.bool (!decide (a=b))):=by
 simp only[Qj,f2h,AV.bool.injEq];by_cases h:a=b<;>simp[h]
def a4g(c:Bool)(x y:AV):Option AV:=
 match x,y with
 |.bool a,.bool b=>some (.bool ((a==b) != c))
 |_,_=>none
theorem O9(c a b:Bool):a4g c (.bool a) (.bool b)=some (.bool ((a==b) != c)):=qq
def Wq(op:UnOp)(x:AV):Option AV:=
 match x with
 |.bool b=>if op=.not then some (.bool !b)else none
 |.int k n=>unI op k n
 |_=>none
theorem Mb(b:Bool):Wq .not (.bool b)=some (.bool !b):=qq
def a4m(k:IntKind)(x:AV):Option AV:=
 match x with
 |.int _ n=>some (.int k (k.wrap n))
 |_=>none
theorem Oh(k a:IntKind)(n:Int):a4m k (.int a n)=some (.int k (k.wrap n)):=qq
def a4l(x:AV):Option AV:=
 match x with
 |.str s=>some (.str s)
 |_=>none
def Yz(ev:Opd->AV)(x:AV)(lo hi:Option Opd):Option AV:=
 match x with
 |.str s=>
   match C9 ev hi s.length s.length with
   |some h=>
     match C9 ev lo 0 h with
     |some l=>some (.str ((s.take h).drop l))
     |none=>none
   |none=>none
 |_=>none
def b6k(x:AV)(a:Nat):Option Nat:=
 match x with
 |.int _ n=>if 0<=n/\n<=a then some n.toNat else none
 |_=>none
def Dy(x:Option Nat)(K:Nat->Option AV):Option AV:=
 match x with
 |some n=>K n
 |none=>none
theorem Mt(ev:Opd->AV)(s:List UInt8)(lo hi:Option Opd):Yz ev (.str s) lo hi=Dy (C9 ev hi s.length s.length) λh=>Dy (C9 ev lo 0 h) λl=>some (.str ((s.take h).drop l)):=by
 simp only[Yz,Dy]
theorem Cb(ev:Opd->AV)(d a:Nat):C9 ev none d a=some d:=qq
theorem Ca(ev:Opd->AV)(x:Opd)(d a:Nat):C9 ev (some x) d a=b6k (ev x) a:=qq
theorem Cc(k:IntKind)(n:Int)(a:Nat):b6k (.int k n) a=if 0<=n/\n<=a then some n.toNat else none:=qq
theorem N6(n:Nat)(K:Nat->Option AV):Dy (some n) K=K n:=qq
theorem N7(c:Prop)[Decidable c](n:Nat)(K:Nat->Option AV):Dy (if c then some n else none) K=if c then K n else none:=by
 by_cases h:c<;>simp[h,Dy]
def a0p(H:AH)(off:Nat)(x:AV):Option AV:=
 match x with
 |.ptr r i j tot=>(B1 H r tot).map λ_=>.ptr r i (j+off) tot
 |.fptr cs=>if off<=cs.length then some (.fptr (cs.drop off))else none
 |_=>none
theorem O4(H:AH)(off r i j tot:Nat):a0p H off (.ptr r i j tot)=(B1 H r tot).map λ_=>.ptr r i (j+off) tot:=qq
theorem O5(H:AH)(off:Nat)(a:LP):a0p H off (.fptr a)=if off<=a.length then some (.fptr (a.drop off))else none:=qq
def a49(a:Bool)(off n:Nat)(x:AV):Option AV:=
 match x with
 |.agg cs=>if off+n<=cs.length then some (Fg a ((cs.drop off).take n))else none
 |_=>none
theorem O3(a:Bool)(off n:Nat)(b:LA):a49 a off n (.agg b)=if off+n<=b.length then some (Fg a ((b.drop off).take n))else none:=qq
def Zu(x i:AV):Option AV:=
 match x,i with
 |.str s,.int _ n=>if 0<=n then(s[n.toNat]?).map λb=>.int .u8 b.toNat else none
 |_,_=>none
theorem Nv(s:List UInt8)(k:IntKind)(n:Int):Zu (.str s) (.int k n)=if 0<=n/\n<s.length then some (.int .u8 ((s.getD n.toNat 0).toNat:Nat))else none:=by
 simp only[Zu];by_cases h:0<=n
 ·rw[iP h];by_cases a:n<s.length
  ·rw[iP ⟨h,a⟩,ez2 (show n.toNat<s.length by omega)];simp[ex9,ez2 (show n.toNat<s.length by omega)]
  ·rw[iN om,f0e om];rfl
 ·rw[iN h,iN om]
def a4a(x:AV)(i:Nat):Option AV:=
 match x with
 |.tuple vs=>vs[i]?
 |_=>none
theorem O6(a:LA)(i:Nat):a4a (.tuple a) i=a[i]?:=qq
def a2g(x:AV):Option AV:=
 match x with
 |.str s=>some (.N s.length)
 |_=>none
theorem Np(s:List UInt8):a2g (.str s)=some (.N s.length):=qq
def U9(H:AH)(x:AV):Option AV:=
 match x with
 |.emp=>some (.N 0)
 |.fz es=>some (.N es.length)
 |.own r _ _ len tot=>(B1 H r tot).map λ_=>.N len
 |_=>none
theorem Nr(H:AH):U9 H .emp=some (.N 0):=qq
theorem Ly(H:AH)(a:List LP):U9 H (.fz a)=some (.N a.length):=qq
theorem Nq(H:AH)(r sz off len tot:Nat):U9 H (.own r sz off len tot)=(B1 H r tot).map λ_=>.N len:=qq
def a26(x y:AV):Option AV:=
 match x,y with
 |.int k a,.int _ b=>some (.int k (if b<a then b else a))
 |_,_=>none
theorem Ni(k c:IntKind)(a b:Int):a26 (.int k a) (.int c b)=some (.int k (if b<a then b else a)):=qq
def a2b(x y:AV):Option AV:=
 match x,y with
 |.int k a,.int _ b=>some (.int k (if b>a then b else a))
 |_,_=>none
theorem Nk(k c:IntKind)(a b:Int):a2b (.int k a) (.int c b)=some (.int k (if b>a then b else a)):=qq
def T0(H:AH)(sz:Nat)(x i:AV):Option AV:=
 match x,i with
 |.fz es,.int _ n=>if 0<=n then
  match es[n.toNat]? with
  |some e=>if e.length=sz then some (.fptr e)else none
  |none=>none
   else none
 |.own r sz' off len tot,.int _ n=>
   if 0<=n/\n<len/\sz'=sz then(B1 H r tot).map λ_=>.ptr r (off+n.toNat) 0 tot else none
 |_,_=>none
theorem B0{α:Type}[Inhabited α](H:AH)(sz:Nat)(a:List α)(f:α->LP)(k:IntKind)(n:Int):T0 H sz (.fz (a.map f)) (.int k n)=if(0<=n/\n<a.length)/\(f (a.getD n.toNat df)).length=sz then some (.fptr (f (a.getD n.toNat df)))else none:=by
 simp only[T0];by_cases h:0<=n
 ·rw[iP h,f2i];by_cases b:n<a.length
  ·rw[ez2 (show n.toNat<a.length by omega)];simp[ex9,ez2 (show n.toNat<a.length by omega),h,b]
  ·rw[iN om,f0e om];rfl
 ·rw[iN h,iN om]
theorem Nw(H:AH)(sz r a off len tot:Nat)(k:IntKind)(n:Int):T0 H sz (.own r a off len tot) (.int k n)=if 0<=n/\n<len/\a=sz then(B1 H r tot).map λ_=>.ptr r (off+n.toNat) 0 tot else none:=qq
variable (d:Option Nat) (rest:List AInstr) (K:List AV->AH->Prop) (fr:List AV) (H:AH)
theorem Ru(x:Opd)(t u):RT P (⟨d,none,.mv x⟩::rest) K fr H t u=RT P rest K (Bd fr d (evalA fr x)) H .mk .mk:=qq
theorem Rg(n:Nat):evalA fr (.t n)=(fr[n]?).getD .top:=qq
theorem Rh(v:AV):evalA fr (.c v)=v:=qq
theorem Qs(n:Nat)(v:AV):Bd fr (some n) v=fr.set n v:=qq
theorem Mw(n:Nat)(a:LP):Lr H n (.fptr a)=if n<=a.length then some ((a.take n).map emb)else none:=qq
end
end
section
theorem a11{ev a:Opd->AV}{x:Option Opd}(h:∀ y∈x.toList,ev y=a y)(d t:Nat):C9 ev x d t=C9 a x d t:=by
 cases x with
 |none=>rfl
 |some x=>simp only[C9,h x sm]
theorem b5j{ev b:Opd->AV}:∀ (a:List (Nat×Nat×Opd)) (cells:LA),(∀ p∈a,ev p.2.2=b p.2.2)->D9 ev cells a=D9 b cells a
 |[],_,_=>rfl
 |(off,size,x)::rest,cells,h=>by
   have c:ev x=b x:=h (off,size,x) sm;simp only[D9,c];cases cellsOf (b x)with
   |none=>rfl
   |some e=>simp only[];split<;>first|exact b5j rest _ (λp d=>h p (by simp[d]))|rfl
theorem b6v{op:AOp}{ev a:Opd->AV}(H:AH)(h:∀ x∈Ex op,ev x=a x):E8 op ev H=E8 op a H:=by
 unfold E8;have m:Be op ev H=Be op a H:=by
  cases op
  case build zero c=>
   simp only[Be];rw[b5j c zero (λp j=>h _ (f62.2 ⟨p,j,rfl⟩))]
  case slices x lo hi=>
   have g:∀ d t,C9 ev lo d t=C9 a lo d t:=a11 (λy b=>h y (by simp[Ex]at b ⊢;simp[b]));have e:∀ d t,C9 ev hi d t=C9 a hi d t:=a11 (λy b=>h y (by simp[Ex]at b ⊢;simp[b]));simp only[Be,h x (by simp[Ex]),g,e]
  case slicel sz x lo hi=>
   have g:∀ d t,C9 ev lo d t=C9 a lo d t:=a11 (λy b=>h y (by simp[Ex]at b ⊢;simp[b]));have e:∀ d t,C9 ev hi d t=C9 a hi d t:=a11 (λy b=>h y (by simp[Ex]at b ⊢;simp[b]));simp only[Be,h x (by simp[Ex]),g,e]
  case slice3 x lo hi l=>
   have g:∀ d t,C9 ev (some lo) d t=C9 a (some lo) d t:=a11 (λy b=>h y (by simp[Ex]at b ⊢;simp[b]));have e:∀ d t,C9 ev (some hi) d t=C9 a (some hi) d t:=a11 (λy b=>h y (by simp[Ex]at b ⊢;simp[b]));have i:∀ d t,C9 ev (some l) d t=C9 a (some l) d t:=a11 (λy b=>h y (by simp[Ex]at b ⊢;simp[b]));simp only[Be,h x (by simp[Ex]),g,e,i]
  case mkfn f first cap=>
   have o:first.map ev=first.map a:=f16 λx i=>h x (by simp[Ex,i])
   have r:cap.map ev=cap.map a:=f16 λx i=>h x (by simp[Ex,i]);simp only[Be,o,r]
  case len k x=>cases k<;>simp only[Be,h x (by simp[Ex])]
  all_goals (simp only[Ex,f5h,f3c,f6z,forall_eq_or_imp,forall_eq]at h;simp only[Be,h])
 have n:Cw op ev H=Cw op a H:=by
  cases op
  case bslice sz len zero c=>
   simp only[Cw];rw[b5j _ _ (λp j=>by obtain⟨q,s,rfl⟩:=f62.1 j;exact h _ (f62.2 ⟨q,s,rfl⟩))]
  all_goals first
   |rfl
   |(simp only[Ex,f5h,f3c,f6z,forall_eq_or_imp,forall_eq]at h;simp only[Cw,h])
 rw[m,n]
def Kw(P:Program)(op:AOp)(ev:Opd->AV)(H:AH)(v:AV):Prop:=
 match op with
 |.call f args=>C P f (args.map ev) H λx a=>x=v/\a=H
 |.calld x args=>∃ f first cap,ev x=.fn (.func f) first cap/\C P f (first++args.map ev++cap) H λx a=>x=v/\a=H
 |.eqnil neg x=>∃ b,Q6 H (ev x)=some (some b)/\v=.bool (b != neg)
 |op=>E8 op ev H=some (v,H)
theorem d79{P:Program}{op:AOp}{ev b:Opd->AV}{H:AH}{v:AV}(h:∀ x∈Ex op,ev x=b x)(c:Kw P op ev H v):Kw P op b H v:=by
 have i:=b6v H h;cases op
 case call f a=>
  have d:a.map ev=a.map b:=f16 λx g=>h x (by simp[Ex,g]);simp only[Kw,d]at c ⊢;exact c
 case calld x a=>
  have d:a.map ev=a.map b:=f16 λx g=>h x (by simp[Ex,g]);have e:ev x=b x:=h x (by simp[Ex]);simp only[Kw,d,e]at c ⊢;exact c
 case eqnil j x=>
  have e:ev x=b x:=h x (by simp[Ex]);simp only[Kw,e]at c ⊢;exact c
 all_goals (simp only[Kw]at c ⊢;rw[<-i];exact c)
theorem d7a{P:Program}{i:AInstr}{fr:LA}{H:AH}{v:AV}(j:Kw P i.op (evalA fr) H v):Qq P i (λf k=>f=Bd fr i.dst v/\k=H) fr H:=by
 have⟨d,g,op⟩:=i;cases op
 case call f e=>exact C.mono j λx k ⟨a,h⟩=>⟨by rw[a],h⟩
 case calld x e=>
  have⟨f,first,cap,a,h⟩:=j;exact⟨f,first,cap,a,h.mono λx k ⟨a,h⟩=>⟨by rw[a],h⟩⟩
 case eqnil m x=>
  obtain⟨b,a,rfl⟩:=j;exact⟨_,a,λc l=>by rw[l b rfl];exact⟨rfl,rfl⟩⟩
 all_goals (simp only[Kw]at j;simp only[Qq,j,Xh];first|exact⟨rfl,rfl⟩|exact⟨trivial,trivial⟩)
def Wh(a:LA)(d:Option Nat)(v:AV):Prop:=∀ t,d=some t->t<a.length->a[t]?=some v
def Wi(P:Program)(H:AH)(d c:LA)(a:AInstr):Prop:=
 match a.guard with
 |none=>∃ v,Kw P a.op (evalA d) H v/\Wh c a.dst v
 |some (g,want)=>(∃ b,d[g]?=some (.bool b)/\(b=want->∃ v,Kw P a.op (evalA d) H v/\Wh c a.dst v)/\(b≠want->Wh c a.dst (.tuple [])))\/(d[g]?=some (.tuple [])/\Wh c a.dst (.tuple []))
structure Sees(is:List AInstr)(fr fs fv:LA)(i:Nat)(a:AInstr):Prop where
 old:∀ t∈slotsI a,(∀ (j:Nat) (b:AInstr),j<i->is[j]?=some b->b.dst≠some t)->fv[t]?=fr[t]?
 new:∀ t∈slotsI a,∀ (j:Nat) (b:AInstr),j<i->is[j]?=some b->b.dst=some t->fv[t]?=fs[t]?
def Te(P:Program):List AInstr->(LA->Prop)->LA->AH->Prop
 |[],K,fr,_=>K fr
 |i::rest,K,fr,H=>
   match i.guard with
   |none=>∃ v,Kw P i.op (evalA fr) H v/\Te P rest K (Bd fr i.dst v) H
   |some (g,want)=>Ue (fr[g]?) want (∃ v,Kw P i.op (evalA fr) H v/\Te P rest K (Bd fr i.dst v) H) (Te P rest K (Bd fr i.dst (.tuple [])) H)
def b7d(is:List AInstr):Prop:=∀ (i j:Nat) (a b:AInstr) (d:Nat),is[i]?=some a->is[j]?=some b->b.dst=some d->a.dst=some d->i=j
theorem b25(fr:LA)(d:Option Nat)(v:AV):(Bd fr d v).length=fr.length:=by cases d<;>simp[Bd]
theorem a62{fr:LA}{d:Option Nat}{v:AV}{t:Nat}(h:d≠some t):(Bd fr d v)[t]?=fr[t]?:=by
 cases d with
 |none=>rfl
 |some d=>simp only[Bd];exact f0p (λe=>h (by rw[e]))
theorem ce7{fr a:LA}{op:AOp}(h:∀ t∈(Ex op).flatMap b1w,fr[t]?=a[t]?):∀ x∈Ex op,evalA fr x=evalA a x:=by
 intro x b;cases x with
 |c v=>rfl
 |t n=>simp only[evalA];rw[h n (f3b.2 ⟨_,b,by simp[b1w]⟩)]
theorem d05{P:Program}{H:AH}{K:LA->Prop}:∀ (is:List AInstr) (fr:LA),b7d is->Te P is K fr H->
 ∃ c,K c/\c.length=fr.length/\(∀ t,(∀ (j:Nat) (a:AInstr),is[j]?=some a->a.dst≠some t)->c[t]?=fr[t]?)/\∀ (j:Nat) (a:AInstr),is[j]?=some a->∃ s,Wi P H s c a/\Sees is fr c s j a
 |[],fr,_,h=>⟨fr,h,rfl,λ_ _=>rfl,λj a m=>by simp at m⟩
 |i::rest,fr,hap,h=>by
   have A:b7d rest:=λp q a b d S f k E=>by
    have:=hap (p+1) (q+1) a b d (by simpa using S) (by simpa using f) k E;omega
   have o:∀ v,Te P rest K (Bd fr i.dst v) H->(∀ c,Wh c i.dst v->Wi P H fr c i)->∃ c,K c/\c.length=fr.length/\(∀ t,(∀ (j:Nat) (a:AInstr),(i::rest)[j]?=some a->a.dst≠some t)->c[t]?=fr[t]?)/\
    ∀ (j:Nat) (a:AInstr),(i::rest)[j]?=some a->∃ s,Wi P H s c a/\Sees (i::rest) fr c s j a:=by
    intro v B I;have⟨c,O,M,h3,h4⟩:=d05 rest _ A B;rw[b25]at M;have r:∀ t,i.dst=some t->c[t]?=(Bd fr i.dst v)[t]?:=λt k=>h3 t (λj a m F=>by have:=hap 0 (j+1) i a t rfl (by simpa using m) F k;omega);have R:Wh c i.dst v:=by
     intro t k n;rw[r t k,k];simp only[Bd];rw[f04 om]
    refine⟨c,O,M,λt x=>?_,λj a m=>?_⟩
    ·rw[h3 t (λj a m=>x (j+1) a (by simpa using m))];exact a62 (x 0 i rfl)
    ·cases j with
     |zero=>
       simp at m;subst m;exact⟨fr,I c R,λt _ _=>rfl,λt _ j b n=>by omega⟩
     |succ j=>
       have⟨s,V,L⟩:=h4 j a (by simpa using m);refine⟨s,V,λt x e=>?_,λt x y b n u k=>?_⟩
       ·rw[L.old t x (λy b n f=>e (y+1) b om (by simpa using f))];exact a62 (e 0 i om rfl)
       ·cases y with
        |zero=>
          simp at u;subst u;rw[L.old t x (λy b n f G=>by have:=hap 0 (y+1) _ b t rfl (by simpa using f) G k;omega),r t k]
        |succ y=>exact L.new t x y b om (by simpa using u) k
   unfold Te at h;cases z:i.guard with
   |none=>
     rw[z]at h;have⟨v,B,J⟩:=h;exact o v J λc w=>by unfold Wi;rw[z];exact⟨v,B,w⟩
   |some N=>
     have⟨g,D⟩:=N;rw[z]at h;rcases h with ⟨b,f,C,e⟩|⟨f,e⟩
     ·by_cases l:b=D
      ·have⟨v,B,J⟩:=C l;exact o v J λc w=>by unfold Wi;rw[z];exact .inl ⟨b,f,λ_=>⟨v,B,w⟩,λU=>absurd l U⟩
      ·exact o (.tuple []) (e l) λc w=>by unfold Wi;rw[z];exact .inl ⟨b,f,λT=>absurd T l,λ_=>w⟩
     ·exact o (.tuple []) e λc w=>by unfold Wi;rw[z];exact .inr ⟨f,w⟩
theorem cw3{c:Array Oper}{a:Array Bool}(b:∀ (j:Nat) (o:Oper),c[j]?=some o->a.getD j false=true->∀ e∈o.after,Region.binds .any e=true->a.getD e.on false=true) :
 ∀ (k j i:Nat),Oz c k j i=true->a.getD j false=true->a.getD i false=true
 |0,_,_,h,_=>by simp[Oz]at h
 |k+1,j,i,h,hj=>by
   unfold Oz at h;split at h
   ·rename_i o l;have⟨e,g,f⟩:=f1s.1 h;simp only[f32,f44,beq_iff_eq]at f
    have:=b j o l hj e g f.1;rcases f.2 with d|d
    ·rw[<-d];exact this
    ·exact cw3 b k e.on i d this
   ·cases h
theorem aw0{P:Program}{ops:Array Oper}:∀ {is:List AInstr} {os:List Oper},Rf P ops is os=true->is.length=os.length/\∀ (i:Nat) (o:Oper),os[i]?=some o->∃ a,is[i]?=some a/\fitI P ops a o=true
 |[],[],_=>⟨rfl,λi o h=>by simp at h⟩
 |[],_::_,h=>by simp[Rf]at h
 |_::_,[],h=>by simp[Rf]at h
 |a::is,o::os,h=>by
   simp only[Rf,f32]at h;obtain⟨h1,h2⟩:=aw0 h.2;refine⟨by simp[h1],λi o' ho=>?_⟩;cases i with
   |zero=>simp at ho;subst ho;exact⟨a,rfl,h.1⟩
   |succ i=>simpa using h2 i o' (by simpa using ho)
theorem b63{p q:Nat->Bool}:∀ (l:lN) (i:Nat),i∈l->(∀ j,q j=true->p j=true)->p i=true->q i=false->l.countP q<l.countP p
 |x::l,i,hi,hqp,hp,hq=>by
   simp only[List.countP_cons];by_cases a:x=i
   ·subst a;have:l.countP q<=l.countP p:=List.countP_mono_left λj _=>hqp j;simp[hp,hq];omega
   ·have:=b63 l i (by simpa [Ne.symm a]using hi) hqp hp hq;have b:(if q x=true then 1 else 0)<=(if p x=true then 1 else 0):=by
     by_cases h:q x=true
     ·simp[h,hqp x h]
     ·simp[h]
    omega
 |[],_,hi,_,_,_=>by simp at hi
section
variable {P:Program} {n0:Nat} {Q:APost} {fr:List AV} {H:AH}
theorem ek5{E:Env}{ops:Array Oper}{is:List AInstr}{fs:List AV}(hfit:Rf P ops is ops.toList=true)
 (hdep:∀ (i:Nat) (a:AInstr) (o:Oper),is[i]?=some a->ops[i]?=some o->(∀ (j:Nat) (b:AInstr) (d:Nat),is[j]?=some b->b.dst=some d->(d∈slotsI a->(j<i/\∃ e∈o.after,e.on=j/\Region.binds .any e=true)\/(i<j/\Oz ops is.length j i=true))/\(a.dst=some d->i=j))/\∀ e∈o.after,Region.binds .any e=true->e.on<i)
 (hlen:fs.length=fr.length) (hold:∀ t,(∀ (j:Nat) (a:AInstr),is[j]?=some a->a.dst≠some t)->fs[t]?=fr[t]?) (hgood:∀ (j:Nat) (a:AInstr),is[j]?=some a->∃ fv,Wi P H fv fs a/\Sees is fr fs fv j a) (hQ:Q .normal fs H) :
 ∀ (fuel:Nat) (listed:Array Bool) (a:Act) (w:World),listed.size=ops.size->(List.range ops.size).countP (λj=> !listed.getD j true)<=fuel->
   (∃ E' fL,LeN n0 E E'/\Sim E' w H/\RepL E' fL a.tmps/\a.defers=[]/\fL.length=fr.length/\(∀ (t j:Nat) (b:AInstr),is[j]?=some b->b.dst=some t->listed.getD j false=true->fL[t]?=fs[t]?)/\ (∀ t,(∀ (j:Nat) (b:AInstr),is[j]?=some b->b.dst=some t->listed.getD j false=false)->fL[t]?=fr[t]?)/\(∀ (j:Nat) (o:Oper),ops[j]?=some o->listed.getD j false=true->∀ e∈o.after,Region.binds .any e=true->listed.getD e.on false=true))->wpAny P .any ops (lft n0 E Q) fuel listed a w:=by
 have hsz:=(aw0 hfit).1;have hget:=(aw0 hfit).2;have Cj:∀ (listed:Array Bool) (a:Act) (w:World),listed.size=ops.size->(∀ j,j<ops.size->listed.getD j true=true)->
  (∃ E' fL,LeN n0 E E'/\Sim E' w H/\RepL E' fL a.tmps/\a.defers=[]/\fL.length=fr.length/\(∀ (t j:Nat) (b:AInstr),is[j]?=some b->b.dst=some t->listed.getD j false=true->fL[t]?=fs[t]?)/\ (∀ t,(∀ (j:Nat) (b:AInstr),is[j]?=some b->b.dst=some t->listed.getD j false=false)->fL[t]?=fr[t]?)/\(∀ (j:Nat) (o:Oper),ops[j]?=some o->listed.getD j false=true->∀ e∈o.after,Region.binds .any e=true->listed.getD e.on false=true))->lft n0 E Q .normal a w:=by
  rintro listed a w hls hall ⟨E',fL,h1,h2,h3,h4,h5,h6,h7,_⟩;have:fL=fs:=by
   apply List.ext_getElem?;intro t;by_cases hw:∃ (j:Nat) (b:AInstr),is[j]?=some b/\b.dst=some t
   ·obtain⟨j,b,hj,hb⟩:=hw;refine h6 t j b hj hb ?_;have hjl:j<is.length:=by
     rcases f5u j is.length with h|h
     ·exact h
     ·rw[f0e h]at hj;cases hj
    have hjs:j<ops.size:=by rw[hsz]at hjl;simpa using hjl
    have:=hall j hjs;have hjl':j<listed.size:=om;simp[ex5,ey4 hjl']at this ⊢;exact this
   ·have hn:∀ (j:Nat) (b:AInstr),is[j]?=some b->b.dst≠some t:=λj b hj hb=>hw ⟨j,b,hj,hb⟩;rw[h7 t (λj b hj hb=>absurd hb (hn j b hj)),hold t hn]
  subst this;exact⟨E',fL,H,.normal,rfl,hQ,h1,h2,h3,h4⟩
 have ready0:∀ (listed:Array Bool),listed.size=ops.size->Region.ready .any ops listed=[]->∀ j,j<ops.size->listed.getD j true=true:=by
  intro listed hls hr j
  induction j using Nat.strongRecOn with
  |ind j ih=>
    intro hj;cases hlj:listed.getD j true with
    |true=>rfl
    |false=>
      have ho:=ey4 hj;obtain⟨a,ha,_⟩:=hget j ops[j] (by simp);have hm:j∈Region.ready .any ops listed:=f6x.2 ⟨hlj,_,ho,λe he hb=>by
       have hlt:=(hdep j a _ ha ho).2 e he hb;have hlt':e.on<listed.size:=om
       have:=ih e.on hlt om;simp[ex5,ey4 hlt']at this ⊢;exact this⟩
      rw[hr]at hm;cases hm
 intro fuel
 induction fuel with
 |zero=>
   intro listed a w hls hcnt hinv;have hall:∀ j,j<ops.size->listed.getD j true=true:=by
    intro j hj;have h0:(List.range ops.size).countP (λj=> !listed.getD j true)=0:=om
    have:=List.countP_eq_zero.1 h0 j (f4q.2 hj);simpa using this
   refine⟨?_,Cj listed a w hls hall hinv⟩;cases hr:Region.ready .any ops listed with
   |nil=>rfl
   |cons x xs=>
     have hx:x∈Region.ready .any ops listed:=(by rw[hr];simp);obtain⟨h0,o,ho,_⟩:=f6x.1 hx
     have:=hall x (ey0.1 ho).1;rw[this]at h0;cases h0
 |succ fuel ih=>
   intro listed a w hls hcnt hinv;refine⟨λhr=>Cj listed a w hls (ready0 listed hls hr) hinv,λi hi=>?_⟩;obtain⟨h0,o,ho,haft⟩:=f6x.1 hi;have his:i<ops.size:=(ey0.1 ho).1;obtain⟨A7,hins,hfi⟩:=hget i o (by simpa using ho);obtain⟨hd1,hd2⟩:=hdep i A7 o hins ho;obtain⟨E',fL,g1,g2,g3,g4,g5,g6,g7,g8⟩:=hinv;obtain⟨fv,hgd,hsee⟩:=hgood i A7 hins;have hi0:listed.getD i false=false:=by
    have hil:i<listed.size:=om;simp[ex5,ey4 hil]at h0 ⊢;exact h0
   have hsl:∀ t∈slotsI A7,fL[t]?=fv[t]?:=by
    intro t ht;by_cases hw:∃ (j:Nat) (b:AInstr),is[j]?=some b/\b.dst=some t
    ·obtain⟨j,b,hj,hb⟩:=hw;have huniq:∀ (j':Nat) (b':AInstr),is[j']?=some b'->b'.dst=some t->j'=j:=by
      intro j' b' hj' hb';have hjl:j'<is.length:=by
       rcases f5u j' is.length with h|h
       ·exact h
       ·rw[f0e h]at hj';cases hj'
      have hjo:j'<ops.size:=(by rw[hsz]at hjl;simpa using hjl);exact((hdep j' b' _ hj' (ey4 hjo)).1 j b t hj hb).2 hb'
     rcases(hd1 j b t hj hb).1 ht with ⟨hlt,e,he,hej,hbind⟩|⟨hlt,hanc⟩
     ·subst hej;rw[g6 t _ b hj hb (haft e he hbind),hsee.new t ht _ b hlt hj hb]
     ·have hjf:listed.getD j false=false:=by
       cases hlj:listed.getD j false with
       |false=>rfl
       |true=>rw[cw3 g8 _ _ _ hanc hlj]at hi0;cases hi0
      rw[g7 t (λj' b' hj' hb'=>by rw[huniq j' b' hj' hb'];exact hjf),hsee.old t ht (λj' b' hlt' hj' hb'=>by have:=huniq j' b' hj' hb';omega)]
    ·have hn:∀ (j:Nat) (b:AInstr),is[j]?=some b->b.dst≠some t:=λj b hj hb=>hw ⟨j,b,hj,hb⟩;rw[g7 t (λj b hj hb=>absurd hb (hn j b hj)),hsee.old t ht (λj b _ hj=>hn j b hj)]
   have hcnt':(List.range ops.size).countP (λj=> !(listed.setIfInBounds i true).getD j true)<=fuel:=by
    have:=b63 (p:=λj=> !listed.getD j true) (q:=λj=> !(listed.setIfInBounds i true).getD j true) (List.range ops.size) i (f4q.2 his) (λj hj=>by
     by_cases hij:i=j
     ·subst hij;have hil:i<listed.size:=om;simp[ex5,hil]at hj
     ·rw[f6q true hij]at hj;exact hj) (by simp[h0]) (by
      have hil:i<listed.size:=om;simp[ex5,hil])
    omega
   have next:∀ (E2:Env) (v:AV) (a':Act) (w':World),LeN n0 E E2->Sim E2 w' H->RepL E2 (Bd fL A7.dst v) a'.tmps->a'.defers=[]->Wh fs A7.dst v->wpAny P .any ops (lft n0 E Q) fuel (listed.setIfInBounds i true) a' w':=by
    intro E2 v a' w' k1 k2 k3 k4 k5;refine ih _ a' w' (by simp[hls]) hcnt' ⟨E2,_,k1,k2,k3,k4,by rw[b25,g5],λt j b hj hb hl=>?_,λt hn=>?_,λj o' hj hl e he hbind=>?_⟩
    ·by_cases hij:i=j
     ·subst hij;rw[hins]at hj;cases hj;rw[hb];simp only[Bd];by_cases hlt:t<fs.length
      ·rw[f04 om,k5 t hb hlt]
      ·rw[f0e (by simp;omega),f0e om]
     ·rw[a62 (λhd=>hij ((hd1 j b t hj hb).2 hd))];rw[f6q false hij]at hl;exact g6 t j b hj hb hl
    ·have hni:A7.dst≠some t:=λhd=>by
      have:=hn i A7 hins hd;have hil:i<listed.size:=om;simp[ex5,hil]at this
     rw[a62 hni];refine g7 t (λj b hj hb=>?_);have hij:i≠j:=λe=>by subst e;rw[hins]at hj;cases hj;exact hni hb
     have:=hn j b hj hb;rw[f6q false hij]at this;exact this
    ·by_cases hij:i=j
     ·subst hij;rw[ho]at hj;cases hj;exact f5i (haft e he hbind)
     ·rw[f6q false hij]at hl;exact f5i (g8 j o' hj hl e he hbind)
   have hdst:A7.dst=o.dst:=by
    unfold fitI at hfi;rw[f32,f32]at hfi;simpa using hfi.1.1
   have hg:L9 ops A7.guard o.guard=true:=by
    unfold fitI at hfi;rw[f32,f32]at hfi;exact hfi.1.2
   have step:(∃ v,Kw P A7.op (evalA fv) H v/\Wh fs A7.dst v)->o.wp P a w (wpAny P .any ops (lft n0 E Q) fuel (listed.setIfInBounds i true)) (lft n0 E Q):=by
    rintro⟨v,hv,hp⟩;have hv':Kw P A7.op (evalA fL) H v:=d79 (ce7 λt ht=>(hsl t (f0v _ ht)).symm) hv;refine b1m hfi g2 g3 g4 g1 (d7a hv') ?_;rintro E2 fr' H' a' w' ⟨rfl,rfl⟩ k1 k2 k3 k4;exact next E2 v a' w' k1 k2 k3 k4 hp
   unfold wpOp;rw[ho];simp only[];unfold Wi at hgd;cases hig:A7.guard with
   |none=>
     rw[hig]at hg hgd;cases hog:o.guard with
     |some g=>rw[hog]at hg;simp[L9]at hg
     |none=>
       rw[if_pos (by simp[Region.wanted,hog])];exact .inl (step hgd)
   |some g=>
     obtain⟨s,want⟩:=g;rw[hig]at hg hgd;cases hog:o.guard with
     |none=>rw[hog]at hg;simp[L9]at hg
     |some g' =>
       obtain⟨j,want'⟩:=g';rw[hog]at hg;simp only[L9,f32,beq_iff_eq,f2f]at hg;obtain⟨rfl,hj⟩:=hg;have hgs:s∈slotsI A7:=(by unfold slotsI;rw[hig];simp);have skip:Region.wanted o (yielded ops a.tmps)=false->Wh fs A7.dst (.tuple [])->(if Region.wanted o (yielded ops a.tmps)=true then o.wp P a w (wpAny P .any ops (lft n0 E Q) fuel (listed.setIfInBounds i true)) (lft n0 E Q)\/(o.asks P a w/\LetsOut (lft n0 E Q))else wpAny P .any ops (lft n0 E Q) fuel (listed.setIfInBounds i true) (a.put o.dst undef) w):=by
        intro hw hp;rw[hw,if_neg (by simp)];refine next E' (.tuple []) _ w g1 g2 ?_ (L2 g4 _ _) hp;rw[hdst];exact L1 g3 (ap4 E') _
       rcases hgd with ⟨b,hb,hyes,hno⟩|⟨hb,hp⟩
       ·have hy:yielded ops a.tmps j=some b:=ak6 g3 (by rw[hsl s hgs,hb]) hj;have hw:Region.wanted o (yielded ops a.tmps)=(b==want):=by
         simp only[Region.wanted,hog,hy];cases b<;>cases want<;>rfl
        by_cases hbw:b=want
        ·rw[hw,if_pos (by simpa using hbw)];exact .inl (step (hyes hbw))
        ·exact skip (by rw[hw];simpa using hbw) (hno hbw)
       ·have hy:yielded ops a.tmps j=none:=b0c g3 (by rw[hsl s hgs,hb]) hj;have hw:Region.wanted o (yielded ops a.tmps)=false:=by
         simp only[Region.wanted,hog,hy];rfl
        exact skip hw hp
theorem b72{is:List AInstr}(h:Te P is (λf=>Q .normal f H) fr H):W P n0 (.dreg is) Q fr H:=by
 intro c E w a hf hs hr hd;cases c<;>try (simp only[fitC,f1k]at hf;done)
 rename_i id ops draw;cases draw<;>simp only[fitC,f1k,f32]at hf;obtain⟨hm,hfit,hdeps⟩:=hf;have hsz:=(aw0 hfit).1;have hdep:∀ (i:Nat) (a:AInstr) (o:Oper),is[i]?=some a->ops[i]?=some o->(∀ (j:Nat) (b:AInstr) (d:Nat),is[j]?=some b->b.dst=some d->(d∈slotsI a->(j<i/\∃ e∈o.after,e.on=j/\Region.binds .any e=true)\/(i<j/\Oz ops is.length j i=true))/\(a.dst=some d->i=j))/\∀ e∈o.after,Region.binds .any e=true->e.on<i:=by
  intro i a o ha ho;have hil:i<is.length:=by
   rcases f5u i is.length with h|h
   ·exact h
   ·rw[f0e h]at ha;cases ha
  have h1:=f35.1 hdeps i (f4q.2 hil);simp only[ha,ho,cj6,f32]at h1;refine⟨λj b d hb hd=>?_,λe he hbind=>?_⟩
  ·have hjl:j<is.length:=by
    rcases f5u j is.length with h|h
    ·exact h
    ·rw[f0e h]at hb;cases hb
   have h2:=f35.1 h1.1 j (f4q.2 hjl);simp only[hb,hd,f32,f44,f2f]at h2;refine⟨λhm=>?_,λhe=>?_⟩
   ·rcases h2.1 with (h3|⟨h3,h4⟩)|h3
    ·simp[hm]at h3
    ·refine .inl ?_;obtain⟨e,he,hb'⟩:=f1s.1 h4;simp only[f32,beq_iff_eq]at hb';exact⟨h3,e,he,hb'.1,hb'.2⟩
    ·exact .inr h3
   ·rcases h2.2 with h3|h3
    ·exact h3
    ·exact absurd he h3
  ·have h2:=ew5.1 h1.2 e he;simpa [hbind]using h2
 have hap:b7d is:=by
  intro i j a b d ha hb hd hd';have hil:i<is.length:=by
   rcases f5u i is.length with h|h
   ·exact h
   ·rw[f0e h]at ha;cases ha
  have hio:i<ops.size:=by rw[hsz]at hil;simpa using hil
  have:=(hdep i a _ ha (ey4 hio)).1 j b d hb hd;exact this.2 hd'
 obtain⟨fs,k1,k2,k3,k4⟩:=d05 is fr hap h;refine wp_region_any hm ?_;refine ek5 hfit hdep k2 k3 k4 k1 ops.size _ a _ (by simp) ?_ ⟨E,fr,LeN.refl _ _,⟨hs.os,hs.tape,hs.output,hs.frz,hs.disj,hs.dom,λr o h=>?_,hs.inj⟩,hr,hd,rfl,λt j b hj hb hl=>?_,λ_ _=>rfl,λj o hj hl=>?_⟩
 ·refine f61 (List.countP_le_length) (by simp)
 ·rcases hs.obj r o h with h|⟨x,hx,hl⟩
  ·exact .inl h
  ·exact .inr ⟨x,hx,⟨hl.t,hl.pos,hl.out,hl.blk,hl.sz,hl.fits⟩⟩
 ·simp[ex5,ez6]at hl;split at hl<;>simp at hl
 ·simp[ex5,ez6]at hl;split at hl<;>simp at hl
end
end
section
section
variable {P:Program} {n0:Nat}
variable (d:Option Nat) (rest:List AInstr) (K:List AV->Prop) (fr:List AV) (H:AH)
end
end
section
section
variable {P:Program} {n0:Nat} (d:Option Nat) (rest:List AInstr) (K:List AV->AH->Prop) (L:List AV->Prop) (fr:List AV) (H:AH)
def a4u(H:AH)(x:AV):Option (AV×AH):=
    match cellsOf (x)with
    |some a=>if a.length≠0/\a.all cellA=true then some (.ptr H.length 0 0 1,H++[some [a]])else none
    |none=>none
def a5x(H:AH)(n:Nat)(p:AV)(x:AV):Option (AV×AH):=
    match p,cellsOf (x)with
    |.ptr r i j tot,some cs=>
      match B1 H r tot with
      |some o=>
        match o[i]? with
        |some e=>if cs.length=n/\j+n<=e.length/\cs.all cellA=true then some (U,H.set r (some (o.set i (lay e j cs))))else none
        |none=>none
      |none=>none
    |_,_=>none
def ai1(H:AH)(x:AV):Option (AV×AH):=
    match x with
    |.str s=>some (.own H.length 1 0 s.length s.length,H++[some (s.map λb=>[.int .u8 b.toNat])])
    |_=>none
def a6x(H:AH)(sz:Nat)(a:Nat)(zero:LA)(len:AV)(cap:AV):Option (AV×AH):=
    match len,cap with
    |.int _ l,.int _ c=>
      if 0<=l/\l<=c/\c<=1000000000/\a<=10000 then some (.own H.length sz 0 l.toNat l.toNat,H++[some (List.replicate l.toNat zero)])else none
    |_,_=>none
def Yl(H:AH)(sz:Nat)(a:Nat)(zero:LA)(x:AV)(y:AV):Option (AV×AH):=
    match x,E4 H (y)with
    |.emp,some news=>if news.length*a<=1000000000000/\news.length<=1000000000/\news.all (λe=>decide (e.length=sz))=true then some (.own H.length sz 0 news.length news.length,H++[some news])else none
    |.own r sz' off len tot,some news=>
      match B1 H r tot with
      |some o=>
        if news.all (λe=>decide (e.length=sz))=false\/sz'≠sz then none
        else if off=0/\len=tot then
         if(tot+news.length)*a<=1000000000000/\tot+news.length<=1000000000 then some (.own r sz 0 (tot+news.length) (tot+news.length),H.set r (some (o++news)))else none
        else if off+len+news.length<=tot then
         some (.own r sz off (len+news.length) tot,H.set r (some (o.take (off+len)++news++o.drop (off+len+news.length))))
        else none
      |none=>none
    |_,_=>none
theorem Rw(sz:Nat)(a:Nat)(zero:LA)(x:Opd)(y:Opd)(t u):RT P (⟨d,none,.append sz a zero x y⟩::rest) K fr H t u=Zi (Yl H sz a zero (evalA fr x) (evalA fr y)) (λv b=>RT P rest K (Bd fr d v) b .mk .mk) .mk:=d04 (λ_ _ _ _ _=>rfl) (λ_ _=>rfl) _ _ _ _ _ _ _
def ai0(H:AH)(sz:Nat)(x:AV)(y:AV):Option (AV×AH):=
    match x,E4 H (y)with
    |.own r sz' off len tot,some src=>
      match B1 H r tot with
      |some o=>
        if off+len<=tot/\src.all (λe=>decide (e.length=sz))=true/\sz'=sz then
         some (.N (min src.length len:Nat),H.set r (some (o.take off++src.take (min src.length len)++o.drop (off+min src.length len))))
        else none
      |none=>none
    |.emp,some _=>some (.N 0,H)
    |_,_=>none
def ai3(H:AH)(sz:Nat)(zero:LA)(x:AV):Option (AV×AH):=
    match x with
    |.own r sz' off len tot=>
      match B1 H r tot with
      |some o=>if off+len<=tot/\sz'=sz then some (.tuple [],H.set r (some (o.take off++List.replicate len zero++o.drop (off+len))))else none
      |none=>none
    |.emp=>some (.tuple [],H)
    |.fz []=>some (.tuple [],H)
    |_=>none
def Zx(H:AH)(len:Nat)(sz:Nat)(x:AV)(i:AV):Option AV:=
    match x,i with
    |.ptr r k j tot,.int _ n=>if 0<=n/\n<len then(B1 H r tot).map λ_=>.ptr r k (j+n.toNat*sz) tot else none
    |.fptr cs,.int _ n=>if 0<=n/\n<len/\n.toNat*sz<=cs.length then some (.fptr (cs.drop (n.toNat*sz)))else none
    |_,_=>none
def a4f(H:AH)(a:Bool)(b:List EK)(x:AV)(y:AV):Option AV:=
    match x,y with
    |.agg xs,.agg ys=>(Cu b xs ys).map λr=>.bool (r != a)
    |_,_=>none
def b6f:Option LA->Option (AV×AH)
 |some a=>if a.length≠0/\a.all cellA=true then some (.ptr H.length 0 0 1,H++[some [a]])else none
 |none=>none
def b1l(n r i j:Nat)(o:AObj)(a:LA):Option LA->Option (AV×AH)
 |some e=>if a.length=n/\j+n<=e.length/\a.all cellA=true then some (U,H.set r (some (o.set i (lay e j a))))else none
 |none=>none
def an2(n r i j:Nat):Option AObj->Option LA->Option (AV×AH)
 |some o,some cs=>b1l H n r i j o cs o[i]?
 |_,_=>none
def b64(sz r a off len tot:Nat):Option AObj->Option (List LA)->Option (AV×AH)
 |some o,some src=>if off+len<=tot/\src.all (λe=>decide (e.length=sz))=true/\a=sz then
  some (.N (min src.length len:Nat),H.set r (some (o.take off++src.take (min src.length len)++o.drop (off+min src.length len))))
  else none
 |_,_=>none
def elC(off len tot:Nat):Option AObj->Option (List LA)
 |some o=>if off+len<=tot then some ((o.drop off).take len)else none
 |none=>none
def rdO(i j n:Nat):Option AObj->Option LA
 |some o=>match o[i]? with
   |some e=>if j+n<=e.length then some ((e.drop j).take n)else none
   |none=>none
 |none=>none
theorem Mv(n r i j tot:Nat):Lr H n (.ptr r i j tot)=rdO i j n (B1 H r tot):=by
 simp only[Lr];cases B1 H r tot<;>rfl
theorem Nh(sz a:Nat)(zero:LA)(k b:IntKind)(l c:Int):a6x H sz a zero (.int k l) (.int b c)=if 0<=l/\l<=c/\c<=1000000000/\a<=10000 then some (.own H.length sz 0 l.toNat l.toNat,H++[some (List.replicate l.toNat zero)])else none:=qq
theorem Oi(x:AV):a4u H x=b6f H (cellsOf x):=by unfold a4u b6f;cases cellsOf x<;>rfl
theorem Oj(a:LA):b6f H (some a)=if a.length≠0/\a.all cellA=true then some (.ptr H.length 0 0 1,H++[some [a]])else none:=qq
theorem Mk(n r i j tot:Nat)(x:AV):a5x H n (.ptr r i j tot) x=an2 H n r i j (B1 H r tot) (cellsOf x):=by
 unfold a5x;cases b:cellsOf x with
 |none=>simp only[];unfold an2;split<;>simp_all
 |some a=>
   simp only[];cases c:B1 H r tot with
   |none=>rfl
   |some o=>simp only[an2];cases o[i]?<;>rfl
theorem Mm(n r i j:Nat)(o:AObj)(a:LA):an2 H n r i j (some o) (some a)=b1l H n r i j o a o[i]?:=qq
theorem Ml(n r i j:Nat)(o:AObj)(a e:LA):b1l H n r i j o a (some e)=if a.length=n/\j+n<=e.length/\a.all cellA=true then some (U,H.set r (some (o.set i (lay e j a))))else none:=qq
theorem Og(s:List UInt8):ai1 H (.str s)=some (.own H.length 1 0 s.length s.length,H++[some (s.map λb=>[.int .u8 b.toNat])]):=qq
theorem Gz(sz r a off len tot:Nat)(y:AV):ai0 H sz (.own r a off len tot) y=b64 H sz r a off len tot (B1 H r tot) (E4 H y):=by
 unfold ai0;cases E4 H y with
 |none=>simp only[];unfold b64;split<;>simp_all
 |some b=>simp only[];cases B1 H r tot<;>rfl
theorem H4(sz r b off len tot:Nat)(o:AObj)(a:List LA):b64 H sz r b off len tot (some o) (some a)=if off+len<=tot/\a.all (λe=>decide (e.length=sz))=true/\b=sz then
 some (.N (min a.length len:Nat),H.set r (some (o.take off++a.take (min a.length len)++o.drop (off+min a.length len))))
        else none:=qq
theorem Mn(s:List UInt8):E4 H (.str s)=some (s.map λb=>[.int .u8 b.toNat]):=qq
theorem Mp(a:List LP):E4 H (.fz a)=some (a.map λe=>e.map emb):=qq
theorem Mq:E4 H .emp=some []:=qq
theorem M4(r sz off len tot:Nat):Ih H (.own r sz off len tot)=elC off len tot (B1 H r tot):=by
 simp only[Ih];cases B1 H r tot<;>rfl
theorem Mo(r sz off len tot:Nat):E4 H (.own r sz off len tot)=elC off len tot (B1 H r tot):=M4 H r sz off len tot
theorem Oc(off len tot:Nat)(o:AObj):elC off len tot (some o)=if off+len<=tot then some ((o.drop off).take len)else none:=qq
theorem O8(a:Bool)(b:List EK)(c e:LA):a4f H a b (.agg c) (.agg e)=(Cu b c e).map λr=>.bool (r != a):=qq
theorem Mx(i j n:Nat)(o:AObj):rdO i j n (some o)=match o[i]? with|some e=>if j+n<=e.length then some ((e.drop j).take n)else none|none=>none:=qq
theorem Nl(o:AObj)(H:AH)(tot:Nat):B1 (some o::H) 0 tot=if o.length=tot then some o else none:=qq
theorem Nn(x:Option AObj)(H:AH)(r tot:Nat):B1 (x::H) (r+1) tot=B1 H r tot:=qq
end
end
section
section
variable {P:Program} {n0:Nat}
theorem eu1{fr a:LA}{H:AH}(h:Yp a (Ck (Wp 0) fr)):Wk 0 fr H a []:=by
 have:=et8 (n0:=0) (fr:=fr) (H:=H) 0 (f6o _);exact this.trans (az9 h)
end
end
section
open Go Go.Proofs Go.RowKit
section
variable {P:Program}
theorem Sim.below{E:Env}{w w':World}{H:AH}(h:Sim E w H)(f:Below w.heap.size w w'):Sim E w' H:=by
 have d:∀ (b:Nat) o,w.heap[b]?=some o->w'.heap[b]?=some o:=λb o a=>by
  have g:b<w.heap.size:=by
   rcases f5u b w.heap.size with h|h
   ·exact h
   ·rw[f05 h]at a;cases a
  rw[f.block b g,a]
 refine⟨f.os.trans h.os,f.tape.trans h.tape,f.output.trans h.output,λb o k=>d b o (h.frz b o k),h.disj,h.dom,λr o l=>?_,h.inj⟩;rcases h.obj r o l with i|⟨x,m,c⟩
 ·exact .inl i
 ·have⟨cells,t,q,j,e⟩:=c.blk;exact .inr ⟨x,m,c.t,c.pos,c.out,⟨cells,t,q,d _ _ j,e⟩,c.sz,c.fits⟩
theorem ak5{f:FuncId}{a:LA}{H:AH}{x:AV}{v:Value}(h:ak4 P f)(g:∀ E w b,Sim E w H->RepL E a b->Calls P f b w λe w'=>e=.returned v/\Below w.heap.size w w')(j:∀ E,Rep E x v) :
 C P f a H (λy d=>y=x/\d=H):=
 ⟨h,λE w b c i=>(g E w b c i).mono λ_ w' ⟨h1,h2⟩=>⟨v,E,x,H,h1,⟨rfl,rfl⟩,LeN.refl _ _,c.below h2,j E⟩⟩
theorem RepL.one{E:Env}{x:AV}{a:Array Value}(h:RepL E [x] a):∃ v,a= #[v]/\Rep E x v:=by
 have b:=h.1;have⟨l⟩:=a
 match l,b with
 |[v],_=>exact⟨v,rfl,h.2 0 x v rfl rfl⟩
theorem RepL.two{E:Env}{x y:AV}{a:Array Value}(h:RepL E [x,y] a):∃ v u,a= #[v,u]/\Rep E x v/\Rep E y u:=by
 have b:=h.1;have⟨l⟩:=a
 match l,b with
 |[v,u],_=>exact⟨v,u,rfl,h.2 0 x v rfl rfl,h.2 1 y u rfl rfl⟩
end
end
end Go.Proofs.YtddlanlnaenaoaaGreatDoor.Abs
