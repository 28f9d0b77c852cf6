/-
  Part 1 of the proof: no condition. (Parts of the abstract layer, of the program's functions in its form, and of their contracts.)
-/
import Derived.IntWalk
import Derived.KernelRfl
import Derived.Laws.Entries
import Derived.Laws.Sem
import Derived.WalkKit
import Derived.Laws.Tables
import Derived.Laws.IdiomStrings
import Derived.Deep.LoopGhost
import Derived.Orders
set_option maxRecDepth 100000
set_option maxHeartbeats 8000000
set_option linter.unusedSimpArgs false
set_option linter.unusedVariables false
set_option linter.unusedSectionVars false
namespace Go.Proofs.YtbngojdlgfhacaaGreatDoor.Abs
theorem dq{p:Prop}(h:p:=by first|omega|decide +kernel|(simp only[List.length_cons,List.length_nil];omega)|(apply And.intro<;>first|decide|(simp;done))|fail):p:=h
theorem dz{p:Prop}(h:p:=by first|omega|decide +kernel|fail):p:=h
theorem tA{p q:Prop}(a:p)(b:q):p/\q:=⟨a,b⟩
theorem qq{α:Sort _}{a:α}:a=a:=rfl
theorem itP:∀ {α:Type} {c:Prop} [Decidable c] {a b:α},c->(if c then a else b)=a:=λh=>if_pos h
theorem itN:∀ {α:Type} {c:Prop} [Decidable c] {a b:α},¬ c->(if c then a else b)=b:=λh=>if_neg h
theorem c95:∀ {α β:Type} (f:α->Option β),(none:Option α).bind f=none:=λ_=>rfl
theorem kk{p:Prop}(h:p:=by kernel_rfl):p:=h
theorem om{p:Prop}(h:p:=by omega):p:=h
theorem e3y:type_of% @Array.getElem?_setIfInBounds.{0}:=@Array.getElem?_setIfInBounds
theorem e3z:type_of% @Array.getD_eq_getD_getElem?.{0}:=@Array.getD_eq_getD_getElem?
theorem e40:type_of% @List.getElem?_append_right.{0}:=@List.getElem?_append_right
theorem e41:type_of% @Array.getElem?_append_left.{0}:=@Array.getElem?_append_left
theorem e42:type_of% @List.getD_eq_getElem?_getD.{0}:=@List.getD_eq_getElem?_getD
theorem e43:type_of% @Array.getElem?_eq_some_iff.{0}:=@Array.getElem?_eq_some_iff
theorem e44:type_of% @Array.getElem?_eq_getElem.{0}:=@Array.getElem?_eq_getElem
theorem e45:type_of% @Classical.byContradiction:=@Classical.byContradiction
theorem e46:type_of% @List.drop_eq_getElem_cons.{0}:=@List.drop_eq_getElem_cons
theorem e47:type_of% @List.getElem?_eq_getElem.{0}:=@List.getElem?_eq_getElem
theorem e48:type_of% @List.getElem?_take_of_lt.{0}:=@List.getElem?_take_of_lt
theorem e49:type_of% @List.getElem?_cons_zero.{0}:=@List.getElem?_cons_zero
theorem e4a:type_of% @List.length_eq_zero_iff.{0}:=@List.length_eq_zero_iff
theorem e4b:type_of% @List.getElem?_cons_succ.{0}:=@List.getElem?_cons_succ
theorem e4c:type_of% @Option.bind_eq_some_iff.{0,0}:=@Option.bind_eq_some_iff
theorem e4d:type_of% @decide_eq_false_iff_not:=@decide_eq_false_iff_not
theorem e4e:type_of% @Array.getElem?_eq_none.{0}:=@Array.getElem?_eq_none
theorem e4f:type_of% @Array.getElem?_extract.{0}:=@Array.getElem?_extract
theorem e4g:type_of% @Option.map_eq_some_iff.{0,0}:=@Option.map_eq_some_iff
theorem e4h:type_of% @List.take_of_length_le.{0}:=@List.take_of_length_le
theorem e4i:type_of% @List.drop_of_length_le.{0}:=@List.drop_of_length_le
theorem e4j:type_of% @List.getElem?_eq_none.{0}:=@List.getElem?_eq_none
theorem e4k:type_of% @List.getElem?_toArray.{0}:=@List.getElem?_toArray
theorem e4l:type_of% @List.mem_iff_getElem?.{0}:=@List.mem_iff_getElem?
theorem e4m:type_of% @Array.getElem?_toList.{0}:=@Array.getElem?_toList
theorem e4n:type_of% @List.length_replicate.{0}:=@List.length_replicate
theorem e4o:type_of% @List.mem_append_right.{0}:=@List.mem_append_right
theorem e4p:type_of% @List.take_append_drop.{0}:=@List.take_append_drop
theorem e4q:type_of% @List.mem_of_getElem?.{0}:=@List.mem_of_getElem?
theorem e4r:type_of% @Nat.mul_le_mul_right:=@Nat.mul_le_mul_right
theorem e4s:type_of% @List.mem_of_mem_take.{0}:=@List.mem_of_mem_take
theorem e4t:type_of% @List.mem_append_left.{0}:=@List.mem_append_left
theorem e4u:type_of% @List.mem_cons_of_mem.{0}:=@List.mem_cons_of_mem
theorem e4v:type_of% @List.mem_iff_getElem.{0}:=@List.mem_iff_getElem
theorem e4w:type_of% @List.take_succ_cons.{0}:=@List.take_succ_cons
theorem e4x:type_of% @List.replicate_succ.{0}:=@List.replicate_succ
theorem e4y:type_of% @List.map_congr_left.{0,0}:=@List.map_congr_left
theorem e4z:type_of% @List.replicate_zero.{0}:=@List.replicate_zero
theorem e50:type_of% @List.drop_succ_cons.{0}:=@List.drop_succ_cons
theorem e51:type_of% @List.length_pos_iff.{0}:=@List.length_pos_iff
theorem e52:type_of% @Bool.false_eq_true:=@Bool.false_eq_true
theorem e53:type_of% @List.getElem?_drop.{0}:=@List.getElem?_drop
theorem e54:type_of% @Option.isSome_none.{0}:=@Option.isSome_none
theorem e55:type_of% @Option.isSome_some.{0}:=@Option.isSome_some
theorem e56:type_of% @Nat.eq_zero_or_pos:=@Nat.eq_zero_or_pos
theorem e57:type_of% @Array.getElem?_map.{0,0}:=@Array.getElem?_map
theorem e58:type_of% @List.length_append.{0}:=@List.length_append
theorem e59:type_of% @List.mem_singleton.{0}:=@List.mem_singleton
theorem e5a:type_of% @List.mem_cons_self.{0}:=@List.mem_cons_self
theorem e5b:type_of% @List.set_cons_succ.{0}:=@List.set_cons_succ
theorem e5c:type_of% @List.set_cons_zero.{0}:=@List.set_cons_zero
theorem e5d:type_of% @List.pairwise_cons.{0}:=@List.pairwise_cons
theorem e5e:type_of% @Bool.not_eq_false':=@Bool.not_eq_false'
theorem e5f:type_of% @Bool.false_ne_true:=@Bool.false_ne_true
theorem e5g:type_of% @List.getElem?_set.{0}:=@List.getElem?_set
theorem e5h:type_of% @decide_eq_true_eq:=@decide_eq_true_eq
theorem e5i:type_of% @Option.some.injEq.{0}:=@Option.some.injEq
theorem e5j:type_of% @List.getElem?_map.{0,0}:=@List.getElem?_map
theorem e5k:type_of% @not_true_eq_false:=@not_true_eq_false
theorem e5l:type_of% @List.flatten_cons.{0}:=@List.flatten_cons
theorem e5m:type_of% @List.mem_range'_1:=@List.mem_range'_1
theorem e5n:type_of% @Bool.not_eq_true':=@Bool.not_eq_true'
theorem e5o:type_of% @List.append_assoc.{0}:=@List.append_assoc
theorem e5p:type_of% @List.take_add_one.{0}:=@List.take_add_one
theorem e5q:type_of% @Bool.eq_false_iff:=@Bool.eq_false_iff
theorem e5r:type_of% @not_false_eq_true:=@not_false_eq_true
theorem e5s:type_of% @Int.toNat_natCast:=@Int.toNat_natCast
theorem e5t:type_of% @of_decide_eq_true:=@of_decide_eq_true
theorem e5u:type_of% @Option.getD_some.{0}:=@Option.getD_some
theorem e5v:type_of% @Bool.and_eq_true:=@Bool.and_eq_true
theorem e5w:type_of% @List.length_cons.{0}:=@List.length_cons
theorem e5x:type_of% @List.all_eq_true.{0}:=@List.all_eq_true
theorem e5y:type_of% @Option.bind_some.{0,0}:=@Option.bind_some
theorem e5z:type_of% @List.range'_succ:=@List.range'_succ
theorem e60:type_of% @List.length_drop.{0}:=@List.length_drop
theorem e61:type_of% @List.not_mem_nil.{0}:=@List.not_mem_nil
theorem e62:type_of% @List.cons_append.{0}:=@List.cons_append
theorem e63:type_of% @List.getElem_mem.{0}:=@List.getElem_mem
theorem e64:type_of% @Nat.lt_succ_self:=@Nat.lt_succ_self
theorem e65:type_of% @List.flatten_nil.{0}:=@List.flatten_nil
theorem e66:type_of% @decide_eq_decide:=@decide_eq_decide
theorem e67:type_of% @List.length_take.{0}:=@List.length_take
theorem e68:type_of% @List.take_length.{0}:=@List.take_length
theorem e69:type_of% @List.drop_length.{0}:=@List.drop_length
theorem e6a:type_of% @Bool.not_eq_true:=@Bool.not_eq_true
theorem e6b:type_of% @Option.getD_none.{0}:=@Option.getD_none
theorem e6c:type_of% @Option.bind_none.{0,0}:=@Option.bind_none
theorem e6d:type_of% @List.range'_zero:=@List.range'_zero
theorem e6e:type_of% @List.length_set.{0}:=@List.length_set
theorem e6f:type_of% @List.length_nil.{0}:=@List.length_nil
theorem e6g:type_of% @Option.map_none.{0,0}:=@Option.map_none
theorem e6h:type_of% @Option.map_some.{0,0}:=@Option.map_some
theorem e6i:type_of% @List.length_map.{0,0}:=@List.length_map
theorem e6j:type_of% @List.foldl_cons.{0,0}:=@List.foldl_cons
theorem e6k:type_of% @List.nil_append.{0}:=@List.nil_append
theorem e6l:type_of% @List.append_nil.{0}:=@List.append_nil
theorem e6m:type_of% @List.mem_append.{0}:=@List.mem_append
theorem e6n:type_of% @Bool.or_eq_true:=@Bool.or_eq_true
theorem e6o:type_of% @List.map_append.{0,0}:=@List.map_append
theorem e6p:type_of% @Bool.eq_iff_iff:=@Bool.eq_iff_iff
theorem e6q:type_of% @decide_eq_false:=@decide_eq_false
theorem e6r:type_of% @Nat.not_lt_zero:=@Nat.not_lt_zero
theorem e6s:type_of% @Nat.min_eq_left:=@Nat.min_eq_left
theorem e6t:type_of% @Bool.decide_and:=@Bool.decide_and
theorem e6u:type_of% @Go.run_underlying:=@Go.run_underlying
theorem e6v:type_of% @List.drop_drop.{0}:=@List.drop_drop
theorem e6w:type_of% @List.drop_zero.{0}:=@List.drop_zero
theorem e6x:type_of% @List.mem_range:=@List.mem_range
theorem e6y:type_of% @Bool.not_false:=@Bool.not_false
theorem e6z:type_of% @List.take_zero.{0}:=@List.take_zero
theorem e70:type_of% @Bool.and_false:=@Bool.and_false
theorem e71:type_of% @Bool.false_and:=@Bool.false_and
theorem e72:type_of% @Bool.bne_false:=@Bool.bne_false
theorem e73:type_of% @decide_eq_true:=@decide_eq_true
theorem e74:type_of% @Go.IntWalk.i64_in:=@Go.IntWalk.i64_in
theorem e75:type_of% @List.map_cons.{0,0}:=@List.map_cons
theorem e76:type_of% @Bool.not_true:=@Bool.not_true
theorem e77:type_of% @Bool.true_and:=@Bool.true_and
theorem e78:type_of% @Bool.and_true:=@Bool.and_true
theorem e79:type_of% @List.mem_cons.{0}:=@List.mem_cons
theorem e7a:type_of% @List.all_cons.{0}:=@List.all_cons
theorem e7b:type_of% @List.sum_cons.{0}:=@List.sum_cons
theorem e7c:type_of% @Bool.and_self:=@Bool.and_self
theorem e7d:type_of% @Bool.false_or:=@Bool.false_or
theorem e7e:type_of% @Bool.bne_true:=@Bool.bne_true
theorem e7f:type_of% @Int.lt_irrefl:=@Int.lt_irrefl
theorem e7g:type_of% @false_implies:=@false_implies
theorem e7h:type_of% @Nat.lt_or_ge:=@Nat.lt_or_ge
theorem e7i:type_of% @Go.Sem.run_bind:=@Go.Sem.run_bind
theorem e7j:type_of% @Go.Sem.run_pure:=@Go.Sem.run_pure
theorem e7k:type_of% @List.map_nil.{0,0}:=@List.map_nil
theorem e7l:type_of% @Nat.add_zero:=@Nat.add_zero
theorem e7m:type_of% @Nat.sub_zero:=@Nat.sub_zero
theorem e7n:type_of% @Nat.le_trans:=@Nat.le_trans
theorem e7o:type_of% @List.mem_map.{0,0}:=@List.mem_map
theorem e7p:type_of% @Nat.zero_add:=@Nat.zero_add
theorem e7q:type_of% @List.map_map.{0,0,0}:=@List.map_map
theorem e7r:type_of% @decide_false:=@decide_false
theorem e7s:type_of% @List.all_nil.{0}:=@List.all_nil
theorem e7t:type_of% @Bool.true_or:=@Bool.true_or
theorem e7u:type_of% @List.set_set.{0}:=@List.set_set
theorem e7v:type_of% @true_implies:=@true_implies
theorem e7w:type_of% @Nat.zero_le:=@Nat.zero_le
theorem e7x:type_of% @Nat.add_mul:=@Nat.add_mul
theorem e7y:type_of% @Nat.le_refl:=@Nat.le_refl
theorem e7z:type_of% @decide_true:=@decide_true
theorem e80:type_of% @Int.le_refl:=@Int.le_refl
theorem e81:type_of% @Array.ext'.{0}:=@Array.ext'
theorem e82:type_of% @and_true:=@and_true
theorem e83:type_of% @true_and:=@true_and
inductive PV where
 |top
 |bool (b:Bool)
 |int (k:IntKind) (n:Int)
 |str (s:List UInt8)
 |nilp
 |emp
 |fz (es:List (List PV))
 |fptr (cs:List PV)
 |nilfn
 deriving Inhabited
inductive AV where
 |top
 |bool (b:Bool)
 |int (k:IntKind) (n:Int)
 |str (s:List UInt8)
 |agg (cs:List AV)
 |tuple (vs:List AV)
 |nilp
 |emp
 |fz (es:List (List PV))
 |fptr (cs:List PV)
 |own (r sz off len tot:Nat)
 |ptr (r i j tot:Nat)
 |fn (f:Fn) (first cap:List AV)
 |nilfn
 deriving Inhabited
def emb:PV->AV
 |.top=>.top
 |.bool b=>.bool b
 |.int k n=>.int k n
 |.str s=>.str s
 |.nilp=>.nilp
 |.emp=>.emp
 |.fz es=>.fz es
 |.fptr cs=>.fptr cs
 |.nilfn=>.nilfn
def Cw:AV->Option PV
 |.top=>some .top
 |.bool b=>some (.bool b)
 |.int k n=>some (.int k n)
 |.str s=>some (.str s)
 |.nilp=>some .nilp
 |.emp=>some .emp
 |.fz es=>some (.fz es)
 |.fptr cs=>some (.fptr cs)
 |.nilfn=>some .nilfn
 |_=>none
structure Own where
 b:Nat
 sz:Nat
 n:Nat
 t:Nat
structure Env where
 F:Nat->Option Obj
 X:Nat->Option Obj
 ρ:Nat->Option Own
 os:Os
 tape:Nat->Question->Nat
 output:Array (Nat×ByteArray)
inductive RepP (F:Nat->Option Obj):PV->Value->Prop
 |top (v) (h1:v.oneCell'=true):RepP F .top v
 |bool (b):RepP F (.bool b) (.bool b)
 |int (k n):RepP F (.int k n) (.int k n)
 |str (s:List UInt8):RepP F (.str s) (.string ⟨s.toArray⟩)
 |nilp:RepP F .nilp (.pointer none)
 |emp (a):RepP F .emp (.slice a 0 0)
 |nilfn:RepP F .nilfn .nilFunc
 |fz0 (a cap):RepP F (.fz []) (.slice a 0 cap)
 |fz (es:List (List PV)) (b off cap sz:Nat) (cells:Array Value) (t:TypeId) (q:Nat×Nat) (hF:F b=some (.cells cells t q)) (hcap:es.length<=cap)
  (hsz:∀ e∈es,e.length=sz) (hin:off+es.length*sz<=cells.size)
  (hc:∀ (i:Nat) e (k:Nat) c v,es[i]?=some e->e[k]?=some c->cells[off+(i*sz+k)]?=some v->RepP F c v):RepP F (.fz es) (.slice (some ⟨b,off,none⟩) es.length cap)
 |fptr (cs:List PV) (b off:Nat) (cells:Array Value) (t:TypeId) (q:Nat×Nat) (hF:F b=some (.cells cells t q))
  (hin:off+cs.length<=cells.size)
  (hc:∀ (k:Nat) c v,cs[k]?=some c->cells[off+k]?=some v->RepP F c v):RepP F (.fptr cs) (.pointer (some ⟨b,off,none⟩))
inductive Rep (E:Env):AV->Value->Prop
 |top (v):Rep E .top v
 |pure {x:PV} {v} (h:RepP E.F x v):Rep E (emb x) v
 |agg (cs:List AV) (vs:Array Value) (hl:cs.length=vs.size) (h:∀ (i:Nat) c v,cs[i]?=some c->vs[i]?=some v->Rep E c v):Rep E (.agg cs) (.agg vs)
 |tuple (cs:List AV) (vs:Array Value) (hl:cs.length=vs.size) (h:∀ (i:Nat) c v,cs[i]?=some c->vs[i]?=some v->Rep E c v):Rep E (.tuple cs) (.tuple vs)
 |fn (f:Fn) (first cap:List AV) (vs ws:Array Value) (hl:first.length=vs.size) (hm:cap.length=ws.size)
  (h:∀ (i:Nat) c v,first[i]?=some c->vs[i]?=some v->Rep E c v) (h':∀ (i:Nat) c v,cap[i]?=some c->ws[i]?=some v->Rep E c v):Rep E (.fn f first cap) (.func f vs ws)
 |own0 (r sz a):Rep E (.own r sz 0 0 0) (.slice a 0 0)
 |own (r sz off len tot cap:Nat) (x:Own) (hρ:E.ρ r=some x) (htot:x.t=tot) (hsz:x.sz=sz) (hlen:off+len<=tot) (hcap:len<=cap) (hc:tot<=off+cap) (hn:(off+cap)*x.sz<=x.n) :
  Rep E (.own r sz off len tot) (.slice (some ⟨x.b,off*x.sz,none⟩) len cap)
 |ptr (r i j tot:Nat) (x:Own) (hρ:E.ρ r=some x) (htot:x.t=tot):Rep E (.ptr r i j tot) (.pointer (some ⟨x.b,i*x.sz+j,none⟩))
 |stale_own (r sz off len tot v) (x:Own) (hρ:E.ρ r=some x) (htot:tot<x.t) (h1:v.oneCell'=true):Rep E (.own r sz off len tot) v
 |stale_ptr (r i j tot v) (x:Own) (hρ:E.ρ r=some x) (htot:tot<x.t) (h1:v.oneCell'=true):Rep E (.ptr r i j tot) v
abbrev AObj:=List (List AV)
abbrev AH:=List (Option AObj)
def AH.at(H:AH)(r:Nat):Option AObj:=(H[r]?).join
structure Lies(E:Env)(w:World)(o:AObj)(x:Own):Prop where
 t:x.t=o.length
 pos:0<x.sz
 out:E.F x.b=none/\E.X x.b=none
 blk:∃ (cells:Array Value) (t:TypeId) (q:Nat×Nat),w.heap[x.b]?=some (.cells cells t q)/\cells.size=x.n/\(q=(0,0)\/x.n<=q.1)/\(∀ (i:Nat) v,cells[i]?=some v->v.oneCell'=true)/\
  ∀ (i:Nat) e (k:Nat) c v,o[i]?=some e->e[k]?=some c->cells[i*x.sz+k]?=some v->Rep E c v
 sz:∀ e∈o,e.length=x.sz
 fits:o.length*x.sz<=x.n
structure Sim(E:Env)(w:World)(H:AH):Prop where
 os:w.os=E.os
 tape:w.tape=E.tape
 output:w.output=E.output
 frz:∀ b o,E.F b=some o\/E.X b=some o->w.heap[b]?=some o
 disj:∀ b o,E.F b=some o->E.X b=none
 dom:∀ r x,E.ρ r=some x->r<H.length
 obj:∀ r o,H.at r=some o->(o=[]/\E.ρ r=none)\/∃ x,E.ρ r=some x/\Lies E w o x
 inj:∀ r r' o o' x x',H.at r=some o->H.at r'=some o'->E.ρ r=some x->E.ρ r'=some x'->x.b=x'.b->r=r'
structure Le(E E':Env):Prop where
 F:∀ b o,E.F b=some o->E'.F b=some o
 ρ:∀ r x,E.ρ r=some x->∃ x',E'.ρ r=some x'/\(x'=x\/x.t<x'.t)
 X:E'.X=E.X
 os:E'.os=E.os
 tape:E'.tape=E.tape
 output:E'.output=E.output
theorem Le.refl(E:Env):Le E E:=⟨λ_ _ h=>h,λ_ x h=>⟨x,h,.inl rfl⟩,rfl,rfl,rfl,rfl⟩
theorem RepP.mono{F F':Nat->Option Obj}(hF:∀ b o,F b=some o->F' b=some o){x:PV}{v:Value}(h:RepP F x v):RepP F' x v:=by
 induction h with
 |top v h1=>exact .top v h1
 |bool b=>exact .bool b
 |int k n=>exact .int k n
 |str s=>exact .str s
 |nilp=>exact .nilp
 |emp a=>exact .emp a
 |nilfn=>exact .nilfn
 |fz0 a cap=>exact .fz0 a cap
 |fz es b off cap sz cells t q h1 hcap hsz hin _ ih=>exact .fz es b off cap sz cells t q (hF _ _ h1) hcap hsz hin ih
 |fptr cs b off cells t q h1 hin _ ih=>exact .fptr cs b off cells t q (hF _ _ h1) hin ih
theorem RepP.one{F:Nat->Option Obj}{x:PV}{v:Value}(h:RepP F x v):v.oneCell'=true:=by
 cases h<;>first|rfl|assumption
theorem Rep.mono{E E':Env}(hE:Le E E'){x:AV}{v:Value}(h:Rep E x v):Rep E' x v:=by
 induction h with
 |top v=>exact .top v
 |pure h=>exact .pure (h.mono hE.F)
 |agg cs vs hl _ ih=>exact .agg cs vs hl ih
 |tuple cs vs hl _ ih=>exact .tuple cs vs hl ih
 |fn f first cap vs ws hl hm _ _ ih ih'=>exact .fn f first cap vs ws hl hm ih ih'
 |own0 r sz a=>exact .own0 r sz a
 |own r sz off len tot cap x hρ htot hsz hlen hcap hc hn=>
   obtain⟨x',hx',e⟩:=hE.ρ r x hρ;rcases e with rfl|e
   ·exact .own r sz off len tot cap x' hx' htot hsz hlen hcap hc hn
   ·exact .stale_own r sz off len tot _ x' hx' om rfl
 |ptr r i j tot x hρ htot=>
   obtain⟨x',hx',e⟩:=hE.ρ r x hρ;rcases e with rfl|e
   ·exact .ptr r i j tot x' hx' htot
   ·exact .stale_ptr r i j tot _ x' hx' om rfl
 |stale_own r sz off len tot v x hρ htot h1=>
   obtain⟨x',hx',e⟩:=hE.ρ r x hρ;exact .stale_own r sz off len tot v x' hx' (by rcases e with rfl|e<;>omega) h1
 |stale_ptr r i j tot v x hρ htot h1=>
   obtain⟨x',hx',e⟩:=hE.ρ r x hρ;exact .stale_ptr r i j tot v x' hx' (by rcases e with rfl|e<;>omega) h1
section
section inv
variable {E:Env} {v:Value}
theorem Q4{b}(h:Rep E (.bool b) v):v=.bool b:=by
 generalize hx:AV.bool b=x at h;cases h<;>try cases hx
 case pure y h=>cases y<;>simp only[emb]at hx<;>cases hx<;>cases h;rfl
theorem Ec{k n}(h:Rep E (.int k n) v):v=.int k n:=by
 generalize hx:AV.int k n=x at h;cases h<;>try cases hx
 case pure y h=>cases y<;>simp only[emb]at hx<;>cases hx<;>cases h;rfl
theorem Jh{s}(h:Rep E (.str s) v):v=.string ⟨s.toArray⟩:=by
 generalize hx:AV.str s=x at h;cases h<;>try cases hx
 case pure y h=>cases y<;>simp only[emb]at hx<;>cases hx<;>cases h;rfl
theorem Hg(h:Rep E .emp v):∃ a,v=.slice a 0 0:=by
 generalize hx:AV.emp=x at h;cases h<;>try cases hx
 case pure y h=>cases y<;>simp only[emb]at hx<;>cases hx<;>cases h;exact⟨_,rfl⟩
theorem d28{es}(h:Rep E (.fz es) v):RepP E.F (.fz es) v:=by
 generalize hx:AV.fz es=x at h;cases h<;>try cases hx
 case pure y h=>cases y<;>simp only[emb]at hx<;>cases hx<;>exact h
theorem be3{cs}(h:Rep E (.fptr cs) v):RepP E.F (.fptr cs) v:=by
 generalize hx:AV.fptr cs=x at h;cases h<;>try cases hx
 case pure y h=>cases y<;>simp only[emb]at hx<;>cases hx<;>exact h
theorem a01{cs}(h:Rep E (.agg cs) v):∃ vs:Array Value,v=.agg vs/\cs.length=vs.size/\∀ (i:Nat) c u,cs[i]?=some c->vs[i]?=some u->Rep E c u:=by
 generalize hx:AV.agg cs=x at h;cases h<;>try cases hx
 case pure y h=>cases y<;>simp only[emb]at hx<;>cases hx
 case agg vs hl h=>exact⟨vs,rfl,hl,h⟩
theorem be1{cs}(h:Rep E (.tuple cs) v):∃ vs:Array Value,v=.tuple vs/\cs.length=vs.size/\∀ (i:Nat) c u,cs[i]?=some c->vs[i]?=some u->Rep E c u:=by
 generalize hx:AV.tuple cs=x at h;cases h<;>try cases hx
 case pure y h=>cases y<;>simp only[emb]at hx<;>cases hx
 case tuple vs hl h=>exact⟨vs,rfl,hl,h⟩
theorem be4{f first cap}(h:Rep E (.fn f first cap) v):∃ vs ws:Array Value,v=.func f vs ws/\first.length=vs.size/\cap.length=ws.size/\
 (∀ (i:Nat) c u,first[i]?=some c->vs[i]?=some u->Rep E c u)/\∀ (i:Nat) c u,cap[i]?=some c->ws[i]?=some u->Rep E c u:=by
 generalize hx:AV.fn f first cap=x at h
 cases h<;>try cases hx
 case pure y h=>cases y<;>simp only[emb]at hx<;>cases hx
 case fn vs ws _ _ _ _=>exact⟨vs,ws,rfl,by assumption,by assumption,by assumption,by assumption⟩
theorem Iu{r sz off len tot}(h:Rep E (.own r sz off len tot) v)(hs:∀ x,E.ρ r=some x->x.t=tot) :
 (∃ a,off=0/\len=0/\tot=0/\v=.slice a 0 0)\/
 ∃ (x:Own) (cap:Nat),E.ρ r=some x/\x.sz=sz/\off+len<=tot/\len<=cap/\tot<=off+cap/\(off+cap)*x.sz<=x.n/\v=.slice (some ⟨x.b,off*x.sz,none⟩) len cap:=by
 generalize hx:AV.own r sz off len tot=x at h;cases h<;>try cases hx
 case pure y h=>cases y<;>simp only[emb]at hx<;>cases hx
 case own0 a=>exact .inl ⟨a,rfl,rfl,rfl,rfl⟩
 case own cap x _ _ _ _ _ _ _=>exact .inr ⟨x,cap,by assumption,by assumption,by assumption,by assumption,by assumption,by assumption,rfl⟩
 case stale_own=>rename_i x hρ htot;have:=hs _ hρ;omega
theorem X6{r i j tot}(h:Rep E (.ptr r i j tot) v)(hs:∀ x,E.ρ r=some x->x.t=tot) :
 ∃ x:Own,E.ρ r=some x/\v=.pointer (some ⟨x.b,i*x.sz+j,none⟩):=by
 generalize hx:AV.ptr r i j tot=x at h;cases h<;>try cases hx
 case pure y h=>cases y<;>simp only[emb]at hx<;>cases hx
 case ptr x hρ htot=>exact⟨x,hρ,rfl⟩
 case stale_ptr=>rename_i x hρ htot;have:=hs _ hρ;omega
theorem ay1{cs}(h:Rep E (.fptr cs) v):∃ b off cells t q,v=.pointer (some ⟨b,off,none⟩)/\E.F b=some (.cells cells t q)/\off+cs.length<=cells.size/\
 ∀ (k:Nat) c u,cs[k]?=some c->cells[off+k]?=some u->RepP E.F c u:=by
 cases be3 h with
 |fptr _ b off cells t q hF hin hc=>exact⟨b,off,cells,t,q,rfl,hF,hin,hc⟩
theorem Oe{es}(h:Rep E (.fz es) v):∃ a cap,v=.slice a es.length cap/\es.length<=cap/\(es≠[]->∃ b off sz cells t q,a=some ⟨b,off,none⟩/\E.F b=some (.cells cells t q)/\ (∀ e∈es,e.length=sz)/\off+es.length*sz<=cells.size/\∀ (i:Nat) e (k:Nat) c u,es[i]?=some e->e[k]?=some c->cells[off+(i*sz+k)]?=some u->RepP E.F c u):=by
 cases d28 h with
 |fz0 a cap=>exact⟨a,cap,rfl,e7w _,λh=>absurd rfl h⟩
 |fz _ b off cap sz cells t q hF hcap hsz hin hc=>exact⟨_,cap,rfl,hcap,λ_=>⟨b,off,sz,cells,t,q,rfl,hF,hsz,hin,hc⟩⟩
theorem be2{x:AV}{p:PV}(hp:Cw x=some p):x=emb p:=by
 cases x<;>simp only[Cw]at hp<;>cases hp<;>rfl
end inv
def RepL(E:Env)(xs:List AV)(vs:Array Value):Prop:=xs.length=vs.size/\∀ (i:Nat) c u,xs[i]?=some c->vs[i]?=some u->Rep E c u
theorem RepL.mono{E E':Env}(hE:Le E E'){xs vs}(h:RepL E xs vs):RepL E' xs vs:=⟨h.1,λi c u hc hu=>(h.2 i c u hc hu).mono hE⟩
theorem RepL.set{E:Env}{xs:List AV}{vs:Array Value}(h:RepL E xs vs){x:AV}{v:Value}(hx:Rep E x v)(d:Nat):RepL E (xs.set d x) (vs.setIfInBounds d v):=by
 refine⟨by simp[h.1],λi c u hc hu=>?_⟩;have hl:=h.1;rw[e5g]at hc;rw[e3y]at hu;by_cases hd:d=i
 ·subst hd;simp only[if_true]at hc hu;split at hc
  ·rename_i hlt;rw[if_pos om]at hu;cases hc;cases hu;exact hx
  ·cases hc
 ·rw[if_neg hd]at hc hu;exact h.2 i c u hc hu
theorem RepL.get{E:Env}{xs:List AV}{vs:Array Value}(h:RepL E xs vs)(i:Nat)(u:Value):Rep E ((xs[i]?).getD .top) (vs.getD i u):=by
 rcases e7h i xs.length with hi|hi
 ·have h1:xs[i]?=some xs[i]:=e47 hi;have h2:vs[i]?=some (vs[i]'(by have:=h.1;omega)):=e44 (by have:=h.1;omega);rw[h1];simp only[e5u,Array.getD,show i<vs.size from by have:=h.1;omega,dif_pos];exact h.2 i _ _ h1 h2
 ·rw[e4j hi];exact .top _
theorem RepL.nil(E:Env):RepL E [] #[]:=⟨rfl,λi c u hc=>by simp at hc⟩
theorem RepL.append{E:Env}{xs ys:List AV}{vs ws:Array Value}(h:RepL E xs vs)(h':RepL E ys ws):RepL E (xs++ys) (vs++ws):=by
 refine⟨by simp[h.1,h'.1],λi c u hc hu=>?_⟩;rw[List.getElem?_append]at hc;rw[Array.getElem?_append]at hu
 have:=h.1;by_cases hi:i<xs.length
 ·rw[if_pos hi]at hc;rw[if_pos om]at hu;exact h.2 i c u hc hu
 ·rw[if_neg hi]at hc;rw[if_neg om]at hu;exact h'.2 _ c u hc (by rw[show i-xs.length=i-vs.size from by omega];exact hu)
inductive Opd where
 |t (n:Nat)
 |c (v:AV)
 deriving Inhabited
def evalA(fr:List AV):Opd->AV
 |.t n=>(fr[n]?).getD .top
 |.c v=>v
def a8n:AV->Value->Bool
 |.top,_=>true
 |.bool b,.bool c=>b==c
 |.int k n,.int k' m=>decide (k=k')&&decide (n=m)
 |.str s,.string t=>decide (s=t.data.toList)
 |.nilp,.pointer none=>true
 |.emp,.slice _ 0 0=>true
 |.nilfn,.nilFunc=>true
 |.fn f [] [],.func g vs ws=>decide (f=g)&&vs.size==0&&ws.size==0
 |_,_=>false
def repCs:List AV->List Value->Bool
 |[],[]=>true
 |x::xs,v::vs=>a8n x v&&repCs xs vs
 |_,_=>false
def ay2:AV->Value->Bool
 |.agg cs,.agg vs=>repCs cs vs.toList
 |x,v=>a8n x v
theorem be6{E:Env}{x:AV}{v:Value}(h:a8n x v=true):Rep E x v:=by
 unfold a8n at h;split at h
 ·exact .top _
 ·have:=eq_of_beq h;subst this;exact .pure (x:=.bool _) (.bool _)
 ·simp only[e5v,e5h]at h;obtain⟨rfl,rfl⟩:=h;exact .pure (x:=.int _ _) (.int _ _)
 ·rename_i s t;simp only[e5h]at h;subst h;have:(⟨t.data.toList.toArray⟩:ByteArray)=t:=by cases t;simp
  exact this▸.pure (x:=.str _) (.str _)
 ·exact .pure (x:=.nilp) .nilp
 ·exact .pure (x:=.emp) (.emp _)
 ·exact .pure (x:=.nilfn) .nilfn
 ·rename_i f g vs ws;simp only[e5v,e5h,beq_iff_eq]at h;obtain⟨⟨rfl,h1⟩,h2⟩:=h;exact .fn f [] [] vs ws (by simp[h1]) (by simp[h2]) (λi c u hc=>by simp at hc) (λi c u hc=>by simp at hc)
 ·cases h
theorem Q5{E:Env}:∀ {xs:List AV} {vs:List Value},repCs xs vs=true->RepL E xs vs.toArray
 |[],[],_=>RepL.nil E
 |[],_::_,h=>by simp[repCs]at h
 |_::_,[],h=>by simp[repCs]at h
 |x::xs,v::vs,h=>by
   simp only[repCs,e5v]at h;have ih:=Q5 (E:=E) h.2;refine⟨by have:=ih.1;simp at this;simp[this],λi c u hc hu=>?_⟩;cases i with
   |zero=>simp at hc hu;subst hc;subst hu;exact be6 h.1
   |succ i=>exact ih.2 i c u (by simpa using hc) (by simpa using hu)
theorem d2d{E:Env}{x:AV}{v:Value}(h:ay2 x v=true):Rep E x v:=by
 unfold ay2 at h;split at h
 ·rename_i cs vs
  have:=Q5 (E:=E) h;exact .agg cs vs (by simpa using this.1) (λi c u hc hu=>this.2 i c u hc (by simpa using hu))
 ·exact be6 h
def Be:Opd->Operand->Bool
 |.t n,.tmp m=>decide (n=m)
 |.c x,.const v=>ay2 x v
 |.c (.fn f [] []),.func g=>decide (f=.func g)
 |_,_=>false
theorem Bd{E:Env}{fr:List AV}{a:Act}(hr:RepL E fr a.tmps){x:Opd}{y:Operand}(h:Be x y=true):Rep E (evalA fr x) (a.eval y):=by
 unfold Be at h;split at h
 ·simp only[e5h]at h;subst h;exact hr.get _ _
 ·exact d2d h
 ·simp only[e5h]at h;subst h;exact .fn _ [] [] #[] #[] rfl rfl (λi c u hc=>by simp at hc) (λi c u hc=>by simp at hc)
 ·cases h
end
def cellA:AV->Bool
 |.top|.agg _|.tuple _=>false
 |_=>true
theorem c8m{E:Env}{x:AV}{v:Value}(h:Rep E x v)(hx:cellA x=true):v.oneCell'=true:=by
 cases h with
 |top=>simp[cellA]at hx
 |pure h=>cases h<;>first|rfl|simp[cellA,emb]at hx
 |agg=>simp[cellA]at hx
 |tuple=>simp[cellA]at hx
 |fn=>rfl
 |own0=>rfl
 |own=>rfl
 |ptr=>rfl
 |stale_own _ _ _ _ _ _ _ _ _ h1=>exact h1
 |stale_ptr _ _ _ _ _ _ _ _ h1=>exact h1
theorem b37{H:AH}{r:Nat}(o:Option AObj)(h:r<H.length):AH.at (H++[o]) r=H.at r:=by
 unfold AH.at;rw[List.getElem?_append_left h]
theorem c9p(H:AH)(o:Option AObj):AH.at (H++[o]) H.length=o:=by
 unfold AH.at;simp
theorem c9o{H:AH}{r:Nat}(o:Option AObj)(h:H.length<r):AH.at (H++[o]) r=none:=by
 unfold AH.at;rw[e40 om,e4j (by simp;omega)];rfl
theorem Qx{H:AH}{r:Nat}{o:AObj}(h:H.at r=some o):r<H.length:=by
 unfold AH.at at h;rcases e7h r H.length with h1|h1
 ·exact h1
 ·rw[e4j h1]at h;cases h
theorem a1y{H:AH}{r:Nat}(o:Option AObj)(h:r<H.length):AH.at (H.set r o) r=o:=by
 unfold AH.at;rw[List.getElem?_set_self h];rfl
theorem Sc{H:AH}{r s:Nat}(o:Option AObj)(h:r≠s):AH.at (H.set r o) s=H.at s:=by
 unfold AH.at;rw[List.getElem?_set_ne h]
theorem Sb{w:World}{b:Nat}{o:Obj}(h:w.heap[b]?=some o):b<w.heap.size:=by
 rcases e7h b w.heap.size with h1|h1
 ·exact h1
 ·rw[e4e h1]at h;cases h
def Fe(w:World)(b:Nat)(o:Obj):World:={ w with heap:=w.heap.setIfInBounds b o }
theorem bl2{w:World}{b:Nat}(o:Obj)(h:b<w.heap.size):(Fe w b o).heap[b]?=some o:=by
 simp[Fe,e3y,h]
theorem bl3{w:World}{b c:Nat}(o:Obj)(h:b≠c):(Fe w b o).heap[c]?=w.heap[c]?:=by
 simp[Fe,e3y,h]
theorem e2z(w:World)(o:Obj):(w.alloc o).heap[w.heap.size]?=some o:=by unfold World.alloc;simp
theorem cb6{w:World}{b:Nat}(o:Obj)(h:b<w.heap.size):(w.alloc o).heap[b]?=w.heap[b]?:=by
 unfold World.alloc;simp only[Array.getElem?_push];rw[if_neg om]
def Ce(E:Env)(sz:Nat)(cells:Array Value)(o:AObj):Prop:=
 ∀ (i:Nat) e (k:Nat) c v,o[i]?=some e->e[k]?=some c->cells[i*sz+k]?=some v->Rep E c v
theorem Ce.mono{E E':Env}(h:Le E E'){sz cells o}(hr:Ce E sz cells o):Ce E' sz cells o:=
 λi e k c v h1 h2 h3=>(hr i e k c v h1 h2 h3).mono h
theorem Lies.mono{E E':Env}{w w':World}{o:AObj}{x:Own}(hE:Le E E')(h:Lies E w o x)(hF:E'.F x.b=none/\E'.X x.b=none)(hw:w'.heap[x.b]?=w.heap[x.b]?):Lies E' w' o x:=by
 obtain⟨cells,t,q,hb,hn,hq,h1,hc⟩:=h.blk;exact⟨h.t,h.pos,hF,⟨cells,t,q,hw.trans hb,hn,hq,h1,λi e k c v h1 h2 h3=>(hc i e k c v h1 h2 h3).mono hE⟩,h.sz,h.fits⟩
theorem Sim.drawn{E:Env}{w:World}{H:AH}(h:Sim E w H)(n:Nat):Sim E { w with drawn:=n } H:=
 ⟨h.os,h.tape,h.output,h.frz,h.disj,h.dom,λr o ho=>by
  rcases h.obj r o ho with h1|⟨x,hx,hl⟩
  ·exact .inl h1
  ·exact .inr ⟨x,hx,hl.t,hl.pos,hl.out,hl.blk,hl.sz,hl.fits⟩,h.inj⟩
theorem Sim.fresh{E:Env}{w:World}{H:AH}(h:Sim E w H):E.F w.heap.size=none/\E.X w.heap.size=none:=by
 constructor
 ·cases hF:E.F w.heap.size with
  |none=>rfl
  |some o=>have:=Sb (h.frz _ _ (.inl hF));omega
 ·cases hF:E.X w.heap.size with
  |none=>rfl
  |some o=>have:=Sb (h.frz _ _ (.inr hF));omega
theorem Sim.lt{E:Env}{w:World}{H:AH}(h:Sim E w H){r:Nat}{o:AObj}{x:Own}(hr:H.at r=some o)(hx:E.ρ r=some x):x.b<w.heap.size:=by
 rcases h.obj r o hr with h1|⟨x',hx',hl⟩
 ·rw[h1.2]at hx;cases hx
 ·rw[hx]at hx';cases hx';obtain⟨cells,t,q,hb,_⟩:=hl.blk;exact Sb hb
def Env.with(E:Env)(r:Nat)(x:Own):Env:={ E with ρ:=λs=>if s=r then some x else E.ρ s }
theorem Env.with_same(E:Env)(r:Nat)(x:Own):(E.with r x).ρ r=some x:=by simp[Env.with]
theorem Env.with_ne(E:Env){r s:Nat}(x:Own)(h:s≠r):(E.with r x).ρ s=E.ρ s:=by simp[Env.with,h]
theorem Env.le_with{E:Env}{r:Nat}(x:Own)(h:∀ y,E.ρ r=some y->y=x\/y.t<x.t):Le E (E.with r x):=by
 refine⟨λ_ _ h=>h,λs y hy=>?_,rfl,rfl,rfl,rfl⟩;by_cases hs:s=r
 ·subst hs;refine⟨x,E.with_same s x,?_⟩;rcases h y hy with rfl|h
  ·exact .inl rfl
  ·exact .inr h
 ·exact⟨y,(E.with_ne x hs).trans hy,.inl rfl⟩
theorem Sim.renew{E:Env}{w:World}{H:AH}(h:Sim E w H){r:Nat}(hr:r<H.length)(o:AObj)(sz:Nat)(cells:Array Value)(t:TypeId)(q:Nat×Nat)
 (hgrow:∀ y,E.ρ r=some y->y.t<o.length) (hpos:0<sz) (hq:q=(0,0)\/cells.size<=q.1)
 (hsz:∀ e∈o,e.length=sz) (hfit:o.length*sz<=cells.size) (h1:∀ (i:Nat) v,cells[i]?=some v->v.oneCell'=true) (hc:Ce E sz cells o) :
 Le E (E.with r ⟨w.heap.size,sz,cells.size,o.length⟩)/\Sim (E.with r ⟨w.heap.size,sz,cells.size,o.length⟩) (w.alloc (.cells cells t q)) (H.set r (some o)):=by
 have hle:Le E (E.with r ⟨w.heap.size,sz,cells.size,o.length⟩):=Env.le_with _ (λy hy=>.inr (hgrow y hy));refine⟨hle,h.os,h.tape,h.output,λb o' hb=>(cb6 _ (Sb (h.frz b o' hb))).trans (h.frz b o' hb),h.disj,?_,?_,?_⟩
 ·intro s x hs;rw[e6e];by_cases hsr:s=r
  ·subst hsr;exact hr
  ·rw[Env.with_ne _ _ hsr]at hs;exact h.dom s x hs
 ·intro s o' hs;by_cases hsr:s=r
  ·subst hsr;rw[a1y _ hr]at hs;cases hs;exact .inr ⟨_,Env.with_same _ _ _,rfl,hpos,h.fresh,⟨cells,t,q,e2z _ _,rfl,hq,h1,hc.mono hle⟩,hsz,hfit⟩
  ·rw[Sc _ (Ne.symm hsr)]at hs;rcases h.obj s o' hs with ⟨h1,h2⟩|⟨x,hx,hl⟩
   ·exact .inl ⟨h1,(Env.with_ne _ _ hsr).trans h2⟩
   ·exact .inr ⟨x,(Env.with_ne _ _ hsr).trans hx,hl.mono hle hl.out (cb6 _ (h.lt hs hx))⟩
 ·intro s s' o1 o2 x1 x2 h1 h2 h3 h4 hb;by_cases hs:s=r
  ·by_cases hs':s'=r
   ·omega
   ·subst hs;rw[Env.with_same]at h3;cases h3;rw[Env.with_ne _ _ hs']at h4;rw[Sc _ (Ne.symm hs')]at h2
    have:=h.lt h2 h4;simp at hb;omega
  ·by_cases hs':s'=r
   ·subst hs';rw[Env.with_same]at h4;cases h4;rw[Env.with_ne _ _ hs]at h3;rw[Sc _ (Ne.symm hs)]at h1
    have:=h.lt h1 h3;simp at hb;omega
   ·rw[Env.with_ne _ _ hs]at h3;rw[Env.with_ne _ _ hs']at h4;rw[Sc _ (Ne.symm hs)]at h1;rw[Sc _ (Ne.symm hs')]at h2;exact h.inj s s' o1 o2 x1 x2 h1 h2 h3 h4 hb
theorem Sim.reserve{E:Env}{w:World}{H:AH}(h:Sim E w H):Sim E w (H++[none]):=by
 have key:∀ {r o},AH.at (H++[none]) r=some o->H.at r=some o:=by
  intro r o hr;rcases Nat.lt_trichotomy r H.length with h1|h1|h1
  ·rwa [b37 _ h1]at hr
  ·subst h1;rw[c9p]at hr;cases hr
  ·rw[c9o _ h1]at hr;cases hr
 refine⟨h.os,h.tape,h.output,h.frz,h.disj,λr x hr=>?_,λr o hr=>h.obj r o (key hr),λr r' o o' x x' h1 h2=>h.inj r r' o o' x x' (key h1) (key h2)⟩
 have:=h.dom r x hr;simp;omega
theorem Sim.new{E:Env}{w:World}{H:AH}(h:Sim E w H)(o:AObj)(sz:Nat)(cells:Array Value)(t:TypeId)(q:Nat×Nat)
 (hpos:0<sz) (hq:q=(0,0)\/cells.size<=q.1) (hsz:∀ e∈o,e.length=sz) (hfit:o.length*sz<=cells.size) (h1:∀ (i:Nat) v,cells[i]?=some v->v.oneCell'=true) (hc:Ce E sz cells o) :
 Le E (E.with H.length ⟨w.heap.size,sz,cells.size,o.length⟩)/\Sim (E.with H.length ⟨w.heap.size,sz,cells.size,o.length⟩) (w.alloc (.cells cells t q)) (H++[some o]):=by
 have hn:E.ρ H.length=none:=by
  cases hρ:E.ρ H.length with
  |none=>rfl
  |some x=>have:=h.dom _ _ hρ;omega
 have:=h.reserve.renew (r:=H.length) (by simp) o sz cells t q (λy hy=>by rw[hn]at hy;cases hy) hpos hq hsz hfit h1 hc;have e:(H++[none]).set H.length (some o)=H++[some o]:=by simp
 rwa [e]at this
theorem Sim.write{E:Env}{w:World}{H:AH}(h:Sim E w H){r:Nat}{o o':AObj}{x:Own}(hr:H.at r=some o)(hx:E.ρ r=some x)
 (cells:Array Value) (t:TypeId) (q:Nat×Nat) (hn:cells.size=x.n) (hq:q=(0,0)\/x.n<=q.1)
 (hlen:o.length<=o'.length) (hsz:∀ e∈o',e.length=x.sz) (hfit:o'.length*x.sz<=x.n) (h1:∀ (i:Nat) v,cells[i]?=some v->v.oneCell'=true) (hc:Ce E x.sz cells o') :
 Le E (E.with r { x with t:=o'.length })/\Sim (E.with r { x with t:=o'.length }) (Fe w x.b (.cells cells t q)) (H.set r (some o')):=by
 have hl:Lies E w o x:=by
  rcases h.obj r o hr with h1|⟨x',hx',hl⟩
  ·rw[h1.2]at hx;cases hx
  ·rw[hx]at hx';cases hx';exact hl
 have hle:Le E (E.with r { x with t:=o'.length }):=Env.le_with _ (λy hy=>by
  rw[hx]at hy;cases hy;rcases e7h o.length o'.length with h1|h1
  ·right;simp only;have:=hl.t;omega
  ·left;have:o'.length=x.t:=(by have:=hl.t;omega);rw[this])
 have hlt:r<H.length:=Qx hr;have hbl:x.b<w.heap.size:=h.lt hr hx;refine⟨hle,h.os,h.tape,h.output,λb o1 hb=>?_,h.disj,?_,?_,?_⟩
 ·have hne:x.b≠b:=by
   rintro rfl
   have:=hl.out
   change E.F x.b=some o1\/E.X x.b=some o1 at hb
   rw[this.1,this.2]at hb;rcases hb with hb|hb<;>cases hb
  exact(bl3 _ hne).trans (h.frz b o1 hb)
 ·intro s y hs;rw[e6e];by_cases hsr:s=r
  ·subst hsr;exact hlt
  ·rw[Env.with_ne _ _ hsr]at hs;exact h.dom s y hs
 ·intro s o1 hs;by_cases hsr:s=r
  ·subst hsr;rw[a1y _ hlt]at hs;cases hs;exact .inr ⟨_,Env.with_same _ _ _,rfl,hl.pos,hl.out,⟨cells,t,q,bl2 _ hbl,hn,hq,h1,hc.mono hle⟩,hsz,hfit⟩
  ·rw[Sc _ (Ne.symm hsr)]at hs;rcases h.obj s o1 hs with ⟨h1,h2⟩|⟨y,hy,hl'⟩
   ·exact .inl ⟨h1,(Env.with_ne _ _ hsr).trans h2⟩
   ·exact .inr ⟨y,(Env.with_ne _ _ hsr).trans hy,hl'.mono hle hl'.out (bl3 _ (λe=>hsr (h.inj s r o1 o y x hs hr hy hx e.symm)))⟩
 ·intro s s' o1 o2 x1 x2 h1 h2 h3 h4 hb;have key:∀ {s o1 x1},AH.at (H.set r (some o')) s=some o1->(E.with r { x with t:=o'.length }).ρ s=some x1->∃ o2 x2,H.at s=some o2/\E.ρ s=some x2/\x1.b=x2.b:=by
   intro s o1 x1 h1 h2;by_cases hs:s=r
   ·subst hs;rw[Env.with_same]at h2;cases h2;exact⟨o,x,hr,hx,rfl⟩
   ·rw[Env.with_ne _ _ hs]at h2;rw[Sc _ (Ne.symm hs)]at h1;exact⟨o1,x1,h1,h2,rfl⟩
  obtain⟨p1,y1,a1,b1,c1⟩:=key h1 h3;obtain⟨p2,y2,a2,b2,c2⟩:=key h2 h4;exact h.inj s s' p1 p2 y1 y2 a1 a2 b1 b2 om
theorem Vu(b off k:Nat):(⟨b,off,none⟩:Addr).add k=⟨b,off+k,none⟩:=by
 unfold Addr.add;split<;>simp_all
theorem b2q{w:World}{b:Nat}{cells:Array Value}{t:TypeId}{q:Nat×Nat}(hb:w.heap[b]?=some (.cells cells t q))(i:Nat):w.cell? ⟨b,i,none⟩=cells[i]?:=by
 unfold World.cell?;simp[hb]
theorem a3g(P:Program){w:World}{b:Nat}{cells:Array Value}{t:TypeId}{q:Nat×Nat}(hb:w.heap[b]?=some (.cells cells t q))(off n:Nat)(h:off+n<=cells.size) :
 (loadCells ⟨b,off,none⟩ n).run P w=.ok (cells.extract off (off+n)) w:=by
 rw[run_loadCells (P:=P) w ⟨b,off,none⟩ n (λj=>(cells[off+j]?).getD undef) (λj hj=>by
  rw[Vu,b2q hb,e44 om];rfl)]
 congr 1
 apply Array.ext
 ·simp;omega
 ·intro i h1 h2;simp at h1;simp[e44 (show off+i<cells.size from by omega)]
def splice:Array Value->Nat->List Value->Array Value
 |c,_,[]=>c
 |c,k,v::vs=>splice (c.setIfInBounds k v) (k+1) vs
theorem Uk:∀ (vs:List Value) (c:Array Value) (k:Nat),(splice c k vs).size=c.size
 |[],_,_=>rfl
 |v::vs,c,k=>by rw[splice,Uk vs];simp
theorem a3a:∀ (vs:List Value) (c:Array Value) (k m:Nat),k+vs.length<=c.size->
 (splice c k vs)[m]?=if k<=m/\m<k+vs.length then vs[m-k]? else c[m]?
 |[],c,k,m,_=>by rw[splice,if_neg (by simp only[e6f];omega)]
 |v::vs,c,k,m,h=>by
   simp only[e5w]at h;rw[splice,a3a vs _ _ _ (by simp;omega)];by_cases h1:k+1<=m/\m<k+1+vs.length
   ·rw[if_pos h1,if_pos (by simp only[e5w];omega)];rw[show m-k=(m-(k+1))+1 from by omega];rfl
   ·rw[if_neg h1,e3y];by_cases h2:k=m
    ·subst h2;simp;omega
    ·rw[if_neg h2,if_neg (by simp only[e5w];omega)]
theorem d38{w:World}{b:Nat}{o:Obj}(h:w.heap[b]?=some o):Fe w b o=w:=by
 unfold Fe;have:w.heap.setIfInBounds b o=w.heap:=by
  apply Array.ext
  ·simp
  ·intro i h1 h2;rw[Array.getElem_setIfInBounds (by simpa using h1)];split
   ·rename_i e;subst e;rw[e44 h2]at h;cases h;rfl
   ·rfl
 rw[this]
theorem d39(w:World)(b:Nat)(o o':Obj):Fe (Fe w b o) b o'=Fe w b o':=by
 unfold Fe;simp
theorem d1s{w:World}{b:Nat}{cells:Array Value}{t:TypeId}{q:Nat×Nat}(hb:w.heap[b]?=some (.cells cells t q))(k:Nat)(v:Value) :
 w.setCell ⟨b,k,none⟩ v=Fe w b (.cells (cells.setIfInBounds k v) t q):=by
 unfold World.setCell Fe;have:∀ f:Obj->Obj,w.heap.modify b f=w.heap.setIfInBounds b (f (.cells cells t q)):=by
  intro f;apply Array.ext_getElem?;intro i;rw[Array.getElem?_modify,e3y];split
  ·rename_i e;subst e;rw[if_pos (Sb hb),hb];rfl
  ·rfl
 rw[this];rfl
theorem a3f(P:Program)(b:Nat)(t:TypeId)(q:Nat×Nat)(o:Nat):∀ (vs:List Value) (i:Nat) (cells:Array Value) (w:World),w.heap[b]?=some (.cells cells t q)->
 (q=(0,0)\/cells.size<=q.1)->o+i+vs.length<=cells.size->(∀ v∈vs,v.oneCell'=true)->
 (storeCells ⟨b,o,none⟩ vs i).run P w=.ok () (Fe w b (.cells (splice cells (o+i) vs) t q))
 |[],i,cells,w,hb,_,_,_=>by
   rw[splice,d38 hb];rfl
 |v::vs,i,cells,w,hb,hq,hin,h1=>by
   simp only[e5w]at hin;have hfz:w.frozen? ⟨b,o+i,none⟩=false:=by
    unfold World.frozen?;simp only[hb];rcases hq with rfl|hq
    ·simp
    ·simp;omega
   have hst:(store ((⟨b,o,none⟩:Addr).add i) v).run P w=.ok () (Fe w b (.cells (cells.setIfInBounds (o+i) v) t q)):=by
    rw[Vu,run_store P w _ v _ (h1 v (by simp)),b2q hb,e44 om];simp only[hfz];rw[d1s hb];rfl
   have hb':(Fe w b (.cells (cells.setIfInBounds (o+i) v) t q)).heap[b]?=some (.cells (cells.setIfInBounds (o+i) v) t q):=bl2 _ (Sb hb);have ih:=a3f P b t q o vs (i+1) (cells.setIfInBounds (o+i) v) _ hb' (by simpa using hq) (by simp;omega) (λu hu=>h1 u (by simp[hu]));rw[storeCells];simp only[e7i,hst,Result.andThen,ih,d39,splice];rfl
structure TI(P:Program)(t:TypeId)(agg:Bool)(n:Nat):Prop where
 info:∃ i,P.info? t=some i/\i.size=n
 und:∃ d,P.underlying t=some d/\(agg=true↔((∃ fs,d=.struct fs)\/∃ k e,d=.array k e))
def Nl(P:Program)(t:TypeId)(agg:Bool)(n:Nat):Bool:=
 (match P.info? t with|some i=>decide (i.size=n)|none=>false) &&
 (match P.underlying t with|some (.struct _)=>agg|some (.array _ _)=>agg|some _=> !agg|none=>false)
theorem a32{P:Program}{t:TypeId}{agg:Bool}{n:Nat}(h:Nl P t agg n=true):TI P t agg n:=by
 unfold Nl at h;rw[e5v]at h;obtain⟨h1,h2⟩:=h;constructor
 ·cases hi:P.info? t with
  |none=>rw[hi]at h1;cases h1
  |some i=>rw[hi]at h1;exact⟨i,rfl,by simpa using h1⟩
 ·cases hu:P.underlying t with
  |none=>rw[hu]at h2;cases h2
  |some d=>
    rw[hu]at h2;refine⟨d,rfl,?_⟩;cases d<;>simp_all
theorem Fb{P:Program}{t:TypeId}{i:TypeInfo}(h:P.info? t=some i)(w:World):(sizeOf t).run P w=.ok i.size w:=by
 unfold sizeOf typeInfo;simp[e7i,h,program,Sem.run,Result.andThen]
theorem Zy{P:Program}{t:TypeId}{agg:Bool}{n:Nat}(h:TI P t agg n)(w:World):(isAgg t).run P w=.ok agg w:=by
 obtain⟨d,hd,hagg⟩:=h.und;unfold isAgg;simp only[e7i,e6u hd,Result.andThen];cases d<;>simp at hagg<;>simp[hagg,pure,Sem.run]
theorem bc0{P:Program}{t:TypeId}{agg:Bool}{n:Nat}(h:TI P t agg n){w:World}{b off:Nat}{cells:Array Value}{te:TypeId}{q:Nat×Nat}
 (hb:w.heap[b]?=some (.cells cells te q)) (hin:off+n<=cells.size) (h1:agg=false->n=1) :
 (loadVar t ⟨b,off,none⟩).run P w=.ok (if agg then .agg (cells.extract off (off+n))else(cells[off]?).getD undef) w:=by
 obtain⟨i,hi,hn⟩:=h.info;unfold loadVar;simp only[e7i,Zy h,Result.andThen];cases agg with
 |true=>
   simp only[if_true,e7i,Fb hi,Result.andThen,hn,a3g P hb off n hin];rfl
 |false=>
   have h1:=h1 rfl;subst h1;simp only[e52,if_false,run_load,b2q hb,e44 (show off<cells.size from by omega)];rfl
inductive EK where
 |b|i|s
 deriving DecidableEq,Inhabited
inductive AOp where
 |mv (x:Opd)
 |pick (c a b:Opd)
 |alloc (cs:List AV)
 |box (x:Opd)
 |build (zero:List AV) (parts:List (Nat×Nat×Opd))
 |bslice (sz len:Nat) (zero:List AV) (parts:List (Nat×Opd))
 |load (agg:Bool) (n:Nat) (x:Opd)
 |store (n:Nat) (p x:Opd)
 |nilchk (x:Opd)
 |bini (op:BinOp) (x y:Opd)
 |bins (op:BinOp) (x y:Opd)
 |eqb (neg:Bool) (x y:Opd)
 |eqs (neg:Bool) (ks:List EK) (x y:Opd)
 |un (op:UnOp) (x:Opd)
 |convi (k:IntKind) (x:Opd)
 |convsb (x:Opd)
 |convbs (x:Opd)
 |convss (x:Opd)
 |mksl (sz bytes:Nat) (zero:List AV) (len cap:Opd)
 |slices (x:Opd) (lo hi:Option Opd)
 |slicel (sz:Nat) (x:Opd) (lo hi:Option Opd)
 |slicez (x:Opd)
 |slice3 (x lo hi mx:Opd)
 |eqnil (neg:Bool) (x:Opd)
 |faddr (off:Nat) (x:Opd)
 |field (agg:Bool) (off n:Nat) (x:Opd)
 |iaddr (sz:Nat) (x i:Opd)
 |iaddra (len sz:Nat) (x i:Opd)
 |indexs (x i:Opd)
 |indexa (agg:Bool) (len sz:Nat) (x i:Opd)
 |cap (x:Opd)
 |ext (x:Opd) (i:Nat)
 |len (str:Bool) (x:Opd)
 |append (sz bytes:Nat) (zero:List AV) (x y:Opd)
 |copy (sz:Nat) (x y:Opd)
 |clear (sz:Nat) (zero:List AV) (x:Opd)
 |min2 (x y:Opd)
 |max2 (x y:Opd)
 |mkfn (f:Fn) (first cap:List Opd)
 |call (f:FuncId) (args:List Opd)
 |calld (x:Opd) (args:List Opd)
 |bad
 deriving Inhabited
def Am(H:AH)(r tot:Nat):Option AObj:=
 match H.at r with
 |some o=>if o.length=tot then some o else none
 |none=>none
def cellsOf:AV->Option (List AV)
 |.agg cs=>some cs
 |.top=>none
 |.tuple _=>none
 |x=>some [x]
def Du(agg:Bool)(cs:List AV):AV:=if agg then .agg cs else(cs[0]?).getD .top
def Jl(H:AH)(n:Nat):AV->Option (List AV)
 |.ptr r i j tot=>
   match Am H r tot with
   |some o=>
     match o[i]? with
     |some e=>if j+n<=e.length then some ((e.drop j).take n)else none
     |none=>none
   |none=>none
 |.fptr cs=>if n<=cs.length then some ((cs.take n).map emb)else none
 |_=>none
def lay(e:List AV)(j:Nat)(cs:List AV):List AV:=e.take j++cs++e.drop (j+cs.length)
def Ch(ev:Opd->AV):List AV->List (Nat×Nat×Opd)->Option (List AV)
 |cells,[]=>some cells
 |cells,(off,size,x)::rest=>
   match cellsOf (ev x)with
   |some cs=>if cs.length=size/\off+size<=cells.length then Ch ev (lay cells off cs) rest else none
   |none=>none
def Fw(op:BinOp)(k:IntKind)(a b:Int):Option AV:=
 match op with
 |.add=>some (.int k (k.wrap (a+b)))
 |.sub=>some (.int k (k.wrap (a-b)))
 |.mul=>some (.int k (k.wrap (a*b)))
 |.quo=>if b=0 then none else some (.int k (k.wrap (a.tdiv b)))
 |.rem=>if b=0 then none else some (.int k (a.tmod b))
 |.and=>some (.int k (k.wrap (BitVec.ofInt k.bits a &&& BitVec.ofInt k.bits b).toNat))
 |.or=>some (.int k (k.wrap (BitVec.ofInt k.bits a ||| BitVec.ofInt k.bits b).toNat))
 |.xor=>some (.int k (k.wrap (BitVec.ofInt k.bits a ^^^ BitVec.ofInt k.bits b).toNat))
 |.andNot=>some (.int k (k.wrap (BitVec.ofInt k.bits a &&& ~~~ BitVec.ofInt k.bits b).toNat))
 |.eql=>some (.bool (a==b))
 |.neq=>some (.bool (a != b))
 |.lss=>some (.bool (decide (a<b)))
 |.leq=>some (.bool (decide (a<=b)))
 |.gtr=>some (.bool (decide (a>b)))
 |.geq=>some (.bool (decide (a>=b)))
 |.shl=>if b<0 then none else some (.int k (k.wrap (a*2 ^ (min b.toNat k.bits))))
 |.shr=>if b<0 then none else some (.int k (a.fdiv (2 ^ (min b.toNat k.bits))))
def O7(op:BinOp)(a b:List UInt8):Option AV:=
 match op with
 |.add=>if a.length+b.length<=1000000000 then some (.str (a++b))else none
 |.eql=>some (.bool (a==b))
 |.neq=>some (.bool (!(a==b)))
 |.lss=>some (.bool (Op.bytesLess a b))
 |.leq=>some (.bool (Op.bytesLess a b||a==b))
 |.gtr=>some (.bool (!(Op.bytesLess a b||a==b)))
 |.geq=>some (.bool (!Op.bytesLess a b))
 |_=>none
def unI(op:UnOp)(k:IntKind)(n:Int):Option AV:=
 match op with
 |.neg=>some (.int k (k.wrap (0-n)))
 |.xor=>some (.int k (k.wrap (BitVec.ofInt k.bits (if k.signed then -1 else k.max) ^^^ BitVec.ofInt k.bits n).toNat))
 |_=>none
def Bo(ev:Opd->AV)(x:Option Opd)(dflt top:Nat):Option Nat:=
 match x with
 |none=>some dflt
 |some x=>
   match ev x with
   |.int _ n=>if 0<=n/\n<=top then some n.toNat else none
   |_=>none
def Cb:List EK->List AV->List AV->Option Bool
 |[],[],[]=>some true
 |.i::ks,.int k a::xs,.int k' b::ys=>if k=k' then(Cb ks xs ys).map λr=>(a==b)&&r else none
 |.s::ks,.str a::xs,.str b::ys=>(Cb ks xs ys).map λr=>(a==b)&&r
 |.b::ks,.bool a::xs,.bool b::ys=>(Cb ks xs ys).map λr=>(a==b)&&r
 |_,_,_=>none
def G5(H:AH):AV->Option (List (List AV))
 |.emp=>some []
 |.fz es=>some (es.map λe=>e.map emb)
 |.own r _ off len tot=>
   match Am H r tot with
   |some o=>if off+len<=tot then some ((o.drop off).take len)else none
   |none=>none
 |_=>none
def X4(H:AH):AV->Option Nat
 |.emp=>some 0
 |.fz es=>some es.length
 |.own r _ off _ tot=>(Am H r tot).map λ_=>tot-off
 |_=>none
def Hl:List (List AV)->Option (List UInt8)
 |[]=>some []
 |[.int .u8 n]::r=>(Hl r).map λl=>UInt8.ofNat n.toNat::l
 |_=>none
def am7(x:AV)(m l h:Nat):AV:=
 match x with
 |.fz es=>if l=0/\h=es.length then .fz es else .top
 |.own r sz off len tot=>if l=0/\h=len/\tot<=off+m then .own r sz off len tot else .top
 |.emp=>if l=0/\h=0/\m=0 then .emp else .top
 |_=>.top
def Ar(op:AOp)(ev:Opd->AV)(H:AH):Option AV:=
 match op with
 |.mv x=>some (ev x)
 |.pick c a b=>
   match ev c with
   |.bool true=>some (ev a)
   |.bool false=>some (ev b)
   |_=>none
 |.build zero parts=>(Ch ev zero parts).map .agg
 |.load agg n x=>(Jl H n (ev x)).map (Du agg)
 |.nilchk x=>
   match ev x with
   |.ptr r i j tot=>(Am H r tot).map λ_=>.ptr r i j tot
   |.fptr cs=>some (.fptr cs)
   |_=>none
 |.bini op x y=>
   match ev x,ev y with
   |.int k a,.int k' b=>if k=k'\/op=.shl\/op=.shr then Fw op k a b else none
   |_,_=>none
 |.bins op x y=>
   match ev x,ev y with
   |.str a,.str b=>O7 op a b
   |_,_=>none
 |.eqb neg x y=>
   match ev x,ev y with
   |.bool a,.bool b=>some (.bool ((a==b) != neg))
   |_,_=>none
 |.un op x=>
   match ev x with
   |.bool b=>if op=.not then some (.bool !b)else none
   |.int k n=>unI op k n
   |_=>none
 |.convi k x=>
   match ev x with
   |.int _ n=>some (.int k (k.wrap n))
   |_=>none
 |.convss x=>
   match ev x with
   |.str s=>some (.str s)
   |_=>none
 |.slices x lo hi=>
   match ev x with
   |.str s=>
     match Bo ev hi s.length s.length with
     |some h=>
       match Bo ev lo 0 h with
       |some l=>some (.str ((s.take h).drop l))
       |none=>none
     |none=>none
   |_=>none
 |.faddr off x=>
   match ev x with
   |.ptr r i j tot=>(Am H r tot).map λ_=>.ptr r i (j+off) tot
   |.fptr cs=>if off<=cs.length then some (.fptr (cs.drop off))else none
   |_=>none
 |.field agg off n x=>
   match ev x with
   |.agg cs=>if off+n<=cs.length then some (Du agg ((cs.drop off).take n))else none
   |_=>none
 |.indexa agg len sz x i=>
   match ev x,ev i with
   |.agg cs,.int _ n=>if 0<=n/\n<len/\n.toNat*sz+sz<=cs.length then some (Du agg ((cs.drop (n.toNat*sz)).take sz))else none
   |_,_=>none
 |.cap x=>
   match ev x with
   |.emp=>some (.int .i64 0)
   |_=>none
 |.indexs x i=>
   match ev x,ev i with
   |.str s,.int _ n=>if 0<=n then(s[n.toNat]?).map λb=>.int .u8 b.toNat else none
   |_,_=>none
 |.ext x i=>
   match ev x with
   |.tuple vs=>vs[i]?
   |_=>none
 |.len true x=>
   match ev x with
   |.str s=>some (.int .i64 s.length)
   |_=>none
 |.len false x=>
   match ev x with
   |.emp=>some (.int .i64 0)
   |.fz es=>some (.int .i64 es.length)
   |.own r _ _ len tot=>(Am H r tot).map λ_=>.int .i64 len
   |_=>none
 |.min2 x y=>
   match ev x,ev y with
   |.int k a,.int _ b=>some (.int k (if b<a then b else a))
   |_,_=>none
 |.max2 x y=>
   match ev x,ev y with
   |.int k a,.int _ b=>some (.int k (if b>a then b else a))
   |_,_=>none
 |.mkfn f first cap=>some (.fn f (first.map ev) (cap.map ev))
 |.slicel sz x lo hi=>
   match ev x with
   |.fz es=>
     match Bo ev hi es.length es.length with
     |some h=>
       match Bo ev lo 0 h with
       |some l=>if((es.take h).drop l).all (λe=>decide (e.length=sz))then some (.fz ((es.take h).drop l))else none
       |none=>none
     |none=>none
   |.emp=>
     match Bo ev hi 0 0 with
     |some _=>
       match Bo ev lo 0 0 with
       |some _=>some .emp
       |none=>none
     |none=>none
   |.own r sz' off len tot=>
     match Am H r tot with
     |some _=>
       if off<=tot/\sz'=sz then
        match Bo ev hi len (tot-off)with
        |some h=>
          match Bo ev lo 0 h with
          |some l=>
            if l=0 then some (.own r sz off h tot)
            else if h<=l then some (.fz [])
            else some (.own r sz (off+l) (h-l) tot)
          |none=>none
        |none=>none
       else none
     |none=>none
   |_=>none
 |.slicez x=>
   match ev x with
   |.fz _=>some .emp
   |.emp=>some .emp
   |.own r _ _ _ tot=>(Am H r tot).map λ_=>.emp
   |_=>none
 |.slice3 x lo hi mx=>
   match X4 H (ev x)with
   |some c=>
     match Bo ev (some mx) 0 c with
     |some m=>
       match Bo ev (some hi) 0 m with
       |some h=>
         match Bo ev (some lo) 0 h with
         |some l=>some (am7 (ev x) m l h)
         |none=>none
       |none=>none
     |none=>none
   |none=>none
 |.iaddr sz x i=>
   match ev x,ev i with
   |.fz es,.int _ n=>if 0<=n then
    match es[n.toNat]? with
    |some e=>if e.length=sz then some (.fptr e)else none
    |none=>none
     else none
   |.own r sz' off len tot,.int _ n=>
     if 0<=n/\n<len/\sz'=sz then(Am H r tot).map λ_=>.ptr r (off+n.toNat) 0 tot else none
   |_,_=>none
 |.iaddra len sz x i=>
   match ev x,ev i with
   |.ptr r k j tot,.int _ n=>if 0<=n/\n<len then(Am H r tot).map λ_=>.ptr r k (j+n.toNat*sz) tot else none
   |.fptr cs,.int _ n=>if 0<=n/\n<len/\n.toNat*sz<=cs.length then some (.fptr (cs.drop (n.toNat*sz)))else none
   |_,_=>none
 |.convbs x=>((G5 H (ev x)).bind Hl).map .str
 |.eqs neg ks x y=>
   match ev x,ev y with
   |.agg xs,.agg ys=>(Cb ks xs ys).map λr=>.bool (r != neg)
   |_,_=>none
 |_=>none
def isZ:Option Operand->Bool
 |some (.const (.int _ n))=>decide (n=0)
 |_=>false
theorem b0r{x:Option Operand}(h:isZ x=true):∃ k,x=some (.const (.int k 0)):=by
 unfold isZ at h;split at h
 ·rw[e5h]at h;subst h;exact⟨_,rfl⟩
 ·cases h
def Ha(P:Program)(t:TypeId):Bool:=match P.underlying t with
 |some (.struct _)=>true
 |some (.array _ _)=>true
 |_=>false
def Qt(P:Program):Nat->TypeId->List EK->Bool
 |0,_,_=>false
 |d+1,t,ks=>
   Nl P t (Ha P t) ks.length &&
   match P.underlying t with
   |some .bool=>decide (ks=[.b])
   |some (.int _)=>decide (ks=[.i])
   |some .string=>decide (ks=[.s])
   |some (.struct fs)=> !P.stoodInHeld t&&fields (Qt P d) (λt=>(P.info? t).map (·.size)) fs.toList 0 ks
   |some (.array n e)=>(match P.info? e with
     |some i=>decide (ks.length=n*i.size)&&(List.range n).all λj=>Qt P d e ((ks.drop (j*i.size)).take i.size)
     |none=>false)
   |_=>false
where
 fields (ok:TypeId->List EK->Bool) (size:TypeId->Option Nat):List Field->Nat->List EK->Bool
  |[],_,ks=>decide (ks=[])
  |f::fs,off,ks=>decide (f.name ≠ "_")&&decide (f.offset=off)&&(match size f.type with
    |some m=>decide (m<=ks.length)&&ok f.type (ks.take m)&&fields ok size fs (off+m) (ks.drop m)
    |none=>false)
def Ap(P:Program)(op:AOp)(o:Op):Bool:=
 match op,o with
 |.mv x,.move y=>Be x y
 |.mv x,.assign y=>Be x y
 |.pick c a b,.pick c' a' b'=>Be c c'&&Be a a'&&Be b b'
 |.load agg n x,.load t y=>Nl P t agg n&&(agg||decide (n=1))&&Be x y
 |.nilchk x,.nilCheck y=>Be x y
 |.bini op x y,.binOp op' _ x' y' _=>decide (op=op')&&Be x x'&&Be y y'
 |.bins op x y,.binOp op' _ x' y' _=>decide (op=op')&&Be x x'&&Be y y'
 |.eqb neg x y,.binOp op' t x' y' _=>decide (op'=if neg then .neq else .eql)&&(match P.underlying t with|some .bool=>true|_=>false)&&Be x x'&&Be y y'
 |.un op x,.unOp op' _ x'=>decide (op=op')&&Be x x'
 |.convi k x,.convert s t y=>(P.underlying s).isSome&&(match P.underlying t with|some (.int k')=>decide (k=k')|_=>false)&&Be x y
 |.convss x,.convert s t y=>(P.underlying s).isSome&&(match P.underlying t with|some .string=>true|_=>false)&&Be x y
 |.slices x lo hi,.slice t y lo' hi' none=>(match P.underlying t with|some .string=>true|_=>false)&&Be x y&&fitOO lo lo'&&fitOO hi hi'
 |.faddr off x,.fieldAddr t y f=>
   (match P.underlying t with
    |some (.struct fs)=>match fs[f]? with
      |some g=>decide (g.offset=off)&&(match P.info? g.type with|some i=>decide (i.size≠0)|none=>false)
      |none=>false
    |_=>false)&&Be x y
 |.field agg off n x,.field t y f=>
   (match P.underlying t with
    |some (.struct fs)=>match fs[f]? with
      |some g=>decide (g.offset=off)&&Nl P g.type agg n&&(agg||decide (n=1))
      |none=>false
    |_=>false)&&Be x y
 |.indexa agg len sz x i,.index t y j=>(match P.underlying t with|some (.array n e)=>decide (n=len)&&Nl P e agg sz&&(agg||decide (sz=1))|_=>false)&&Be x y&&Be i j
 |.cap x,.call { callee:=.builtin .cap,args:=args,argTypes:=ts }=>
   (match args.toList,ts.toList with
    |[y],[t]=>(match P.underlying t with|some (.slice _)=>true|_=>false)&&Be x y
    |_,_=>false)
 |.indexs x i,.index t y j=>(match P.underlying t with|some .string=>true|_=>false)&&Be x y&&Be i j
 |.ext x i,.extract y j=>decide (i=j)&&Be x y
 |.len str x,.call { callee:=.builtin .len,args:=args,argTypes:=ts }=>
   (match args.toList,ts.toList with
    |[y],[t]=>(match P.underlying t with|some .string=>str|some (.slice _)=> !str|_=>false)&&Be x y
    |_,_=>false)
 |.min2 x y,.call { callee:=.builtin .min,args:=args,argTypes:=_ }=>
   (match args.toList with|[x',y']=>Be x x'&&Be y y'|_=>false)
 |.max2 x y,.call { callee:=.builtin .max,args:=args,argTypes:=_ }=>
   (match args.toList with|[x',y']=>Be x x'&&Be y y'|_=>false)
 |.mkfn f first cap,.makeFunc g first' cap'=>decide (f=g)&&fitOs first first'.toList&&fitOs cap cap'.toList
 |.slicel sz x lo hi,.slice t y lo' hi' none=>
   (match P.underlying t with|some (.slice e)=>(match P.info? e with|some i=>decide (i.size=sz)|none=>false)|_=>false)&&Be x y&&fitOO lo lo'&&fitOO hi hi'
 |.slicez x,.slice t y lo hi mx=>
   (match P.underlying t with|some (.slice e)=>(P.info? e).isSome|_=>false)&&Be x y&&(lo.isNone||isZ lo)&&isZ hi&&isZ mx
 |.slice3 x lo hi mx,.slice t y lo' (some hi') (some mx')=>
   (match P.underlying t with|some (.slice e)=>(P.info? e).isSome|_=>false)&&Be x y&&(match lo' with
    |some lo'=>Be lo lo'
    |none=>match lo with
      |.c (.int .i64 n)=>decide (n=0)
      |_=>false)&&Be hi hi'&&Be mx mx'
 |.iaddr sz x i,.indexAddr t y j=>
   (match P.underlying t with|some (.slice e)=>(match P.info? e with|some i=>decide (i.size=sz)|none=>false)|_=>false)&&Be x y&&Be i j
 |.iaddra len sz x i,.indexAddr t y j=>
   (match P.underlying t with|some (.array n e)=>decide (n=len)&&(match P.info? e with|some i=>decide (i.size=sz)|none=>false)|_=>false)&&Be x y&&Be i j
 |.convbs x,.convert s t y=>
   (match P.underlying s with|some (.slice e)=>(match P.underlying e with|some (.int .u8)=>(match P.info? e with|some i=>decide (i.size=1)|none=>false)|_=>false)|_=>false) &&
   (match P.underlying t with|some .string=>true|_=>false)&&Be x y
 |.eqs neg ks x y,.binOp op' t x' y' _=>decide (op'=if neg then .neq else .eql)&&Ha P t &&
   Qt P 20 t ks&&!P.eqGuardType P.depth t&&Be x x'&&Be y y'
 |.build zero parts,.build t ps=>
   (match P.info? t with
    |some i=>match i.zero with
      |some z=>repCs zero z.cells.toList
      |none=>false
    |none=>false) &&
   (match P.underlying t with
    |some (.struct fs)=>fs.toList.all (λf=>(P.info? f.type).isSome)&&fitParts (λi=>match fs[i]? with
     |some f=>match P.info? f.type with
       |some i=>some (f.offset,i.size)
       |none=>none
     |none=>none) parts ps.toList
    |some (.array _ e)=>(match P.info? e with|some i=>fitParts (λk=>some (k*i.size,i.size)) parts ps.toList|none=>false)
    |_=>false)
 |_,_=>false
where
 fitOO:Option Opd->Option Operand->Bool
  |none,none=>true
  |some x,some y=>Be x y
  |_,_=>false
 fitParts (place:Nat->Option (Nat×Nat)):List (Nat×Nat×Opd)->List (Nat×Operand)->Bool
  |[],[]=>true
  |(off,size,x)::xs,(i,y)::ys=>decide (place i=some (off,size))&&Be x y&&fitParts place xs ys
  |_,_=>false
 fitOs:List Opd->List Operand->Bool
  |[],[]=>true
  |x::xs,y::ys=>Be x y&&fitOs xs ys
  |_,_=>false
def Eg(P:Program)(o:Op)(ao:AOp):Prop:=
 ∀ (E:Env) (w:World) (H:AH) (fr:List AV) (a:Act) (v:AV) (oper:Oper),oper.op=o->Sim E w H->RepL E fr a.tmps->Ar ao (evalA fr) H=some v->
   ∃ u,(execOp a.eval oper).run P w=.ok (.value u) w/\Rep E v u
theorem Dn{P:Program}{s:Sem Value}{w w':World}{u:Value}(h:s.run P w=.ok u w'):(do pure (Next.value (←s)):Sem Next).run P w=.ok (.value u) w':=by
 simp only[e7i,h,Result.andThen];rfl
theorem G1{E:Env}{w:World}{H:AH}(hs:Sim E w H){r tot:Nat}{o:AObj}(h:Am H r tot=some o):H.at r=some o/\o.length=tot/\∀ x,E.ρ r=some x->x.t=tot:=by
 unfold Am at h;split at h
 ·rename_i o' ho;split at h
  ·rename_i hl;cases h;refine⟨ho,hl,λx hx=>?_⟩;rcases hs.obj r _ ho with ⟨h1,h2⟩|⟨y,hy,hy'⟩
   ·rw[h2]at hx;cases hx
   ·rw[hx]at hy;cases hy;rw[hy'.t,hl]
  ·cases h
 ·cases h
theorem Fq{E:Env}{w:World}{H:AH}(hs:Sim E w H){r:Nat}{o:AObj}{x:Own}(h:H.at r=some o)(hx:E.ρ r=some x):Lies E w o x:=by
 rcases hs.obj r o h with ⟨_,h2⟩|⟨y,hy,hl⟩
 ·rw[h2]at hx;cases hx
 ·rw[hx]at hy;cases hy;exact hl
theorem a63{E:Env}{x:AV}{v:Value}(h:Rep E x v){cs:List AV}(hc:cellsOf x=some cs):RepL E cs v.cells:=by
 by_cases hx:∃ ds,x=.agg ds
 ·obtain⟨ds,rfl⟩:=hx;simp only[cellsOf,e5i]at hc;subst hc;obtain⟨vs,rfl,hl,hi⟩:=a01 h;exact⟨hl,hi⟩
 ·have h1:cellA x=true:=by
   cases x<;>first|rfl|(simp[cellsOf]at hc;done)|exact absurd ⟨_,rfl⟩ hx
  have h2:cs=[x]:=by
   cases x<;>first|(simp only[cellsOf,e5i]at hc;exact hc.symm)|(simp[cellsOf]at hc;done)|exact absurd ⟨_,rfl⟩ hx
  have h3:v.cells= #[v]:=by
   have:=c8m h h1;cases v<;>first|rfl|(simp[Value.oneCell']at this;done)
  rw[h2,h3];refine⟨rfl,λi c u hc hu=>?_⟩
  match i,hc,hu with
  |0,hc,hu=>simp at hc hu;subst hc;subst hu;exact h
  |i+1,hc,_=>simp at hc
theorem bj3{P:Program}{E:Env}{w:World}{H:AH}(hs:Sim E w H){n:Nat}{x:AV}{v:Value}(hx:Rep E x v){cs:List AV}(hr:Jl H n x=some cs) :
 ∃ b off cells te q,v=.pointer (some ⟨b,off,none⟩)/\w.heap[b]?=some (.cells cells te q)/\off+n<=cells.size/\RepL E cs (cells.extract off (off+n)):=by
 unfold Jl at hr;split at hr
 ·rename_i r i j tot;split at hr
  ·rename_i o ho;obtain⟨hat,hlen,ht⟩:=G1 hs ho;split at hr
   ·rename_i e he;split at hr
    ·rename_i hj;cases hr;obtain⟨y,hy,rfl⟩:=X6 hx ht;have hl:=Fq hs hat hy;obtain⟨cells,te,q,hb,hn,hq,_,hc⟩:=hl.blk;have hie:i<o.length:=by
      rcases e7h i o.length with h|h
      ·exact h
      ·rw[e4j h]at he;cases he
     have hsz:e.length=y.sz:=hl.sz e (e4q he);have hfit:i*y.sz+j+n<=cells.size:=by
      have h1:=hl.fits;have h2:(i+1)*y.sz<=o.length*y.sz:=e4r _ hie;rw[e7x]at h2;omega
     refine⟨_,_,cells,te,q,rfl,hb,hfit,?_,?_⟩
     ·simp;omega
     ·intro k c u hk hu;have hkn:k<n:=by
       rcases e7h k n with h|h
       ·exact h
       ·rw[e4j (by simp;omega)]at hk;cases hk
      have hk':e[j+k]?=some c:=by
       rw[e48 hkn,e53]at hk;exact hk
      have hu':cells[i*y.sz+(j+k)]?=some u:=by
       rw[e4f]at hu;split at hu
       ·rw[<-hu];congr 1;omega
       ·cases hu
      exact hc i e (j+k) c u he hk' hu'
    ·cases hr
   ·cases hr
  ·cases hr
 ·rename_i ds;split at hr
  ·rename_i hn;cases hr;have hp:=be3 hx;cases hp with
   |fptr _ b off cells t q hF hin hc=>
     refine⟨b,off,cells,t,q,rfl,hs.frz _ _ (.inl hF),by omega,by simp;omega,?_⟩;intro k c u hk hu;have hkn:k<n:=by
      rcases e7h k n with h|h
      ·exact h
      ·rw[e4j (by simp;omega)]at hk;cases hk
     rw[e5j,e48 hkn]at hk;cases hd:ds[k]? with
     |none=>rw[hd]at hk;cases hk
     |some d=>
       rw[hd]at hk;cases hk;have hu':cells[off+k]?=some u:=by
        rw[e4f]at hu;split at hu
        ·exact hu
        ·cases hu
       exact .pure (hc k d u hd hu')
  ·cases hr
 ·cases hr
theorem d4o{P:Program}{agg:Bool}{n:Nat}{x:Opd}{t:TypeId}{y:Operand}(hf:Ap P (.load agg n x) (.load t y)=true):Eg P (.load t y) (.load agg n x):=by
 intro E w H fr a v oper ho hs hr hv;simp only[Ap,e5v]at hf;obtain⟨⟨ht,hn⟩,hf⟩:=hf;have ht:=a32 ht;have hx:=Bd hr hf;simp only[Ar]at hv;cases hrd:Jl H n (evalA fr x)with
 |none=>rw[hrd]at hv;cases hv
 |some cs=>
   rw[hrd]at hv;cases hv;obtain⟨b,off,cells,te,q,hv,hb,hin,hcs⟩:=bj3 (P:=P) hs hx hrd;have h1:agg=false->n=1:=(by intro h;subst h;simpa using hn);have hrun:=bc0 (P:=P) ht hb hin h1;refine⟨if agg then .agg (cells.extract off (off+n))else(cells[off]?).getD undef,?_,?_⟩
   ·simp only[execOp,ho];apply Dn;simp only[Instr.loadAt,hv,Instr.sureAddr,e7i,e7j,Result.andThen];exact hrun
   ·cases agg with
    |true=>exact .agg _ _ (by simpa using hcs.1) hcs.2
    |false=>
      have:=h1 rfl;subst this;simp only[Du,e52,if_false];have hl:=hcs.1;have h0:cs[0]?=some (cs[0]'(by simp at hl;omega)):=e47 _;rw[h0,e44 (show off<cells.size from by omega)];exact hcs.2 0 _ _ h0 (by rw[e4f];simp;omega)
theorem d4k{P:Program}{x:Opd}{o:Op}(hf:Ap P (.mv x) o=true):Eg P o (.mv x):=by
 intro E w H fr a v oper ho hs hr hv;simp only[Ar,e5i]at hv;subst hv;cases o<;>simp only[Ap,e52]at hf
 all_goals
  refine⟨_,?_,Bd hr hf⟩;simp only[execOp,ho];rfl
theorem d4h{P:Program}{c x y:Opd}{o:Op}(hf:Ap P (.pick c x y) o=true):Eg P o (.pick c x y):=by
 intro E w H fr a v oper ho hs hr hv;cases o<;>simp only[Ap,e5v,e52]at hf;rename_i c' x' y';obtain⟨⟨h1,h2⟩,h3⟩:=hf;have hc:=Bd hr h1;simp only[Ar]at hv;split at hv
 ·rename_i he;rw[he]at hc;cases hv;refine⟨_,?_,Bd hr h2⟩;simp only[execOp,ho,Q4 hc,asBool,e7i,e7j,Result.andThen];rfl
 ·rename_i he;rw[he]at hc;cases hv;refine⟨_,?_,Bd hr h3⟩;simp only[execOp,ho,Q4 hc,asBool,e7i,e7j,Result.andThen];rfl
 ·cases hv
theorem d4j{P:Program}{x:Opd}{o:Op}(hf:Ap P (.nilchk x) o=true):Eg P o (.nilchk x):=by
 intro E w H fr a v oper ho hs hr hv;cases o<;>simp only[Ap,e52]at hf;rename_i x';have hx:=Bd hr hf;simp only[Ar]at hv;split at hv
 ·rename_i r i j tot he;rw[he]at hx;cases hl:Am H r tot with
  |none=>rw[hl]at hv;cases hv
  |some o=>
    rw[hl]at hv;cases hv;obtain⟨y,hy,hv⟩:=X6 hx (G1 hs hl).2.2;refine⟨_,?_,hx⟩;simp only[execOp,ho,hv];rfl
 ·rename_i cs he;rw[he]at hx;cases hv;obtain⟨b,off,cells,t,q,hv,_⟩:=ay1 hx;refine⟨_,?_,hx⟩;simp only[execOp,ho,hv];rfl
 ·cases hv
theorem d1x{P:Program}{w:World}(op:BinOp)(t:TypeId)(x y:Operand)(k k':IntKind)(a b:Int):(eqGuard op t x y (.int k a) (.int k' b)).run P w=.ok () w:=by
 cases op<;>rfl
theorem d1w{P:Program}{w:World}(op:BinOp)(t:TypeId)(x y:Operand)(a b:ByteArray):(eqGuard op t x y (.string a) (.string b)).run P w=.ok () w:=by
 cases op<;>rfl
theorem d1y{P:Program}{w:World}(op:BinOp)(t:TypeId)(x y:Operand)(a b:Bool):(eqGuard op t x y (.bool a) (.bool b)).run P w=.ok () w:=by
 cases op<;>rfl
theorem d5d{P:Program}{op:BinOp}{x y:Opd}{o:Op}(hf:Ap P (.bini op x y) o=true):Eg P o (.bini op x y):=by
 intro E w H fr a v oper ho hs hr hv;cases o<;>simp only[Ap,e5v,e52,e5h]at hf;rename_i op' t x' y' t';obtain⟨⟨rfl,h1⟩,h2⟩:=hf;have hx:=Bd hr h1;have hy:=Bd hr h2;simp only[Ar]at hv;split at hv
 ·rename_i k m k' n e1 e2;rw[e1]at hx;rw[e2]at hy;split at hv
  ·rename_i hk;have key:∃ u,(binOp op t (.int k m) (.int k' n)).run P w=.ok u w/\Rep E v u:=by
    cases op<;>simp only[Fw]at hv<;>simp only[binOp]
    case shl=>
     split at hv
     ·cases hv
     ·rename_i hb;cases hv;refine⟨_,?_,.pure (x:=.int _ _) (.int _ _)⟩;simp only[Op.shift,if_neg hb];rfl
    case shr=>
     split at hv
     ·cases hv
     ·rename_i hb;cases hv;refine⟨_,?_,.pure (x:=.int _ _) (.int _ _)⟩;simp only[Op.shift,if_neg hb];rfl
    all_goals
     have hkk:k=k':=(by simpa using hk);subst hkk;simp only[ne_eq,e5k,if_false]
    case quo=>
     split at hv
     ·cases hv
     ·rename_i hb;cases hv;refine⟨_,?_,.pure (x:=.int _ _) (.int _ _)⟩;simp only[Op.intDiv,if_neg hb];rfl
    case rem=>
     split at hv
     ·cases hv
     ·rename_i hb;cases hv;refine⟨_,?_,.pure (x:=.int _ _) (.int _ _)⟩;simp only[Op.intDiv,if_neg hb];rfl
    case eql=>cases hv;exact⟨_,rfl,.pure (x:=.bool _) (.bool _)⟩
    case neq=>cases hv;exact⟨_,rfl,.pure (x:=.bool _) (.bool _)⟩
    case lss=>cases hv;exact⟨_,rfl,.pure (x:=.bool _) (.bool _)⟩
    case leq=>cases hv;exact⟨_,rfl,.pure (x:=.bool _) (.bool _)⟩
    case gtr=>cases hv;exact⟨_,rfl,.pure (x:=.bool _) (.bool _)⟩
    case geq=>cases hv;exact⟨_,rfl,.pure (x:=.bool _) (.bool _)⟩
    all_goals (cases hv;exact⟨_,rfl,.pure (x:=.int _ _) (.int _ _)⟩)
   obtain⟨u,hu,hru⟩:=key;refine⟨u,?_,hru⟩;simp only[execOp,ho,Ec hx,Ec hy];apply Dn;simp only[e7i,d1x,Result.andThen,hu]
  ·cases hv
 ·cases hv
theorem au3(l:List UInt8):(⟨l.toArray⟩:ByteArray).toList=l:=by simp
theorem d5c{P:Program}{op:BinOp}{x y:Opd}{o:Op}(hf:Ap P (.bins op x y) o=true):Eg P o (.bins op x y):=by
 intro E w H fr a v oper ho hs hr hv;cases o<;>simp only[Ap,e5v,e52,e5h]at hf;rename_i op' t x' y' t';obtain⟨⟨rfl,h1⟩,h2⟩:=hf;have hx:=Bd hr h1;have hy:=Bd hr h2;simp only[Ar]at hv;split at hv
 ·rename_i s s' e1 e2;rw[e1]at hx;rw[e2]at hy;have key:∃ u,(binOp op t (.string ⟨s.toArray⟩) (.string ⟨s'.toArray⟩)).run P w=.ok u w/\Rep E v u:=by
   cases op<;>simp only[O7]at hv<;>simp only[binOp,Op.stringOp,au3]
   case add=>
    split at hv
    ·rename_i hl;cases hv;have hz:∀ l:List UInt8,(⟨l.toArray⟩:ByteArray).size=l.length:=(by intro l;simp[ByteArray.size]);rw[if_neg (by rw[hz,hz];simp[IntKind.max,IntKind.bits,IntKind.signed];omega)];have:(⟨s.toArray⟩:ByteArray)++⟨s'.toArray⟩=⟨(s++s').toArray⟩:=by
      apply ByteArray.ext;simp
     rw[this];exact⟨_,rfl,.pure (x:=.str _) (.str _)⟩
    ·cases hv
   all_goals first|(cases hv;exact⟨_,rfl,.pure (x:=.bool _) (.bool _)⟩)|cases hv
  obtain⟨u,hu,hru⟩:=key;refine⟨u,?_,hru⟩;simp only[execOp,ho,Jh hx,Jh hy];apply Dn;simp only[e7i,d1w,Result.andThen,hu]
 ·cases hv
theorem d4y{P:Program}{neg:Bool}{x y:Opd}{o:Op}(hf:Ap P (.eqb neg x y) o=true):Eg P o (.eqb neg x y):=by
 intro E w H fr a v oper ho hs hr hv;cases o<;>simp only[Ap,e5v,e52,e5h]at hf;rename_i op' t x' y' t';obtain⟨⟨⟨rfl,ht⟩,h1⟩,h2⟩:=hf;have hx:=Bd hr h1;have hy:=Bd hr h2;have ht:P.underlying t=some .bool:=by
  split at ht<;>first|assumption|cases ht
 simp only[Ar]at hv;split at hv
 ·rename_i b c e1 e2;rw[e1]at hx;rw[e2]at hy;cases hv;have heq:(Op.equal t (.bool b) (.bool c)).run P w=.ok (b==c) w:=by
   have:Op.equal t (.bool b) (.bool c)=Op.equalIn (9999+1) t (.bool b) (.bool c):=rfl;rw[this];unfold Op.equalIn;simp only[e7i,e6u ht,Result.andThen];rfl
  refine⟨.bool ((b==c) != neg),?_,.pure (x:=.bool _) (.bool _)⟩;simp only[execOp,ho,Q4 hx,Q4 hy];apply Dn;simp only[e7i,d1y,Result.andThen];cases neg<;>simp only[binOp,if_true,if_false,e52,e7i,heq,Result.andThen]<;>cases b<;>cases c<;>rfl
 ·cases hv
theorem d4a{P:Program}{op:UnOp}{x:Opd}{o:Op}(hf:Ap P (.un op x) o=true):Eg P o (.un op x):=by
 intro E w H fr a v oper ho hs hr hv;cases o<;>simp only[Ap,e5v,e52,e5h]at hf;rename_i op' t x';obtain⟨rfl,h1⟩:=hf;have hx:=Bd hr h1;simp only[Ar]at hv;split at hv
 ·rename_i b e;rw[e]at hx;split at hv
  ·rename_i ho';subst ho';cases hv;refine⟨_,?_,.pure (x:=.bool _) (.bool _)⟩;simp only[execOp,ho,Q4 hx];rfl
  ·cases hv
 ·rename_i k n e;rw[e]at hx;cases op<;>simp only[unI]at hv<;>cases hv
  all_goals
   refine⟨_,?_,.pure (x:=.int _ _) (.int _ _)⟩;simp only[execOp,ho,Ec hx];rfl
 ·cases hv
theorem d53{P:Program}{k:IntKind}{x:Opd}{o:Op}(hf:Ap P (.convi k x) o=true):Eg P o (.convi k x):=by
 intro E w H fr a v oper ho hs hr hv;cases o<;>simp only[Ap,e5v,e52,e5h]at hf;rename_i s t y;obtain⟨⟨hsrc,hdst⟩,h1⟩:=hf;have hx:=Bd hr h1;obtain⟨ds,hds⟩:=Option.isSome_iff_exists.1 hsrc;have hdst:P.underlying t=some (.int k):=by
  split at hdst
  ·rename_i k' hk';simp only[e5h]at hdst;subst hdst;exact hk'
  ·cases hdst
 simp only[Ar]at hv;split at hv
 ·rename_i k0 n e;rw[e]at hx;cases hv;refine⟨_,?_,.pure (x:=.int _ _) (.int _ _)⟩;simp only[execOp,ho,Ec hx];apply Dn;simp only[convert,e7i,e6u hds,e6u hdst,Result.andThen];cases ds<;>rfl
 ·cases hv
theorem d50{P:Program}{x:Opd}{o:Op}(hf:Ap P (.convss x) o=true):Eg P o (.convss x):=by
 intro E w H fr a v oper ho hs hr hv;cases o<;>simp only[Ap,e5v,e52,e5h]at hf;rename_i s t y;obtain⟨⟨hsrc,hdst⟩,h1⟩:=hf;have hx:=Bd hr h1;obtain⟨ds,hds⟩:=Option.isSome_iff_exists.1 hsrc;have hdst:P.underlying t=some .string:=by
  split at hdst<;>first|assumption|cases hdst
 simp only[Ar]at hv;split at hv
 ·rename_i n e;rw[e]at hx;cases hv;refine⟨_,?_,.pure (x:=.str _) (.str _)⟩;simp only[execOp,ho,Jh hx];apply Dn;simp only[convert,e7i,e6u hds,e6u hdst,Result.andThen];cases ds<;>rfl
 ·cases hv
theorem d4w{P:Program}{x:Opd}{i:Nat}{o:Op}(hf:Ap P (.ext x i) o=true):Eg P o (.ext x i):=by
 intro E w H fr a v oper ho hs hr hv;cases o<;>simp only[Ap,e5v,e52,e5h]at hf;rename_i y j;obtain⟨rfl,h1⟩:=hf;have hx:=Bd hr h1;simp only[Ar]at hv;split at hv
 ·rename_i vs e;rw[e]at hx;obtain⟨us,hu,hl,hi⟩:=be1 hx;have hlt:i<us.size:=by
   rcases e7h i vs.length with h|h
   ·omega
   ·rw[e4j h]at hv;cases hv
  have hg:us[i]?=some us[i]:=e44 hlt;refine⟨us[i],?_,hi i v _ hv hg⟩;simp only[execOp,ho,hu];apply Dn;simp only[Instr.extract,hg];rfl
 ·cases hv
theorem b9v{E:Env}{w:World}{H:AH}(hs:Sim E w H){r sz off len tot:Nat}{v:Value}(h:Rep E (.own r sz off len tot) v){o:AObj}(ho:Am H r tot=some o) :
 ∃ a cap,v=.slice a len cap:=by
 rcases Iu h (G1 hs ho).2.2 with ⟨a,h1,h2,h3,rfl⟩|⟨x,cap,_,_,_,_,_,_,rfl⟩
 ·subst h2;exact⟨a,0,rfl⟩
 ·exact⟨_,cap,rfl⟩
theorem d4p{P:Program}{str:Bool}{x:Opd}{o:Op}(hf:Ap P (.len str x) o=true):Eg P o (.len str x):=by
 intro E w H fr a v oper ho hs hr hv;cases o<;>simp only[Ap,e52]at hf;rename_i c;obtain⟨callee,args,ts⟩:=c;cases callee<;>try (simp only[Ap,e52]at hf;done)
 rename_i b;cases b<;>simp only[Ap,e52]at hf;split at hf
 ·rename_i y t hargs hts;rw[e5v]at hf;obtain⟨ht,h1⟩:=hf;have hx:=Bd hr h1;have hargs:args= #[y]:=by apply e81;simpa using hargs
  have hts:ts= #[t]:=by apply e81;simpa using hts
  subst hargs;subst hts;have Bv:∀ n:Nat,v=.int .i64 n->(Builtin.len_ #[t] oper.type #[a.eval y]).run P w=.ok (.int .i64 n) w->
   ∃ u,(execOp a.eval oper).run P w=.ok (.value u) w/\Rep E v u:=by
   intro n hv hrun;subst hv;refine⟨.int .i64 n,?_,.pure (x:=.int _ _) (.int _ _)⟩;simp only[execOp,ho,resolve,e7i,e7j,Result.andThen,invoke,builtin,List.map_toArray,e75,e7k,hrun]
  cases str with
  |true=>
    have hund:P.underlying t=some .string:=by
     split at ht<;>first|assumption|cases ht
    simp only[Ar]at hv;split at hv
    ·rename_i s e;rw[e]at hx;cases hv;refine Bv s.length rfl ?_;rw[Jh hx];unfold Builtin.len_;simp only[e4k,e49,e7i,e6u hund,Result.andThen];simp[goInt,ByteArray.size]
    ·cases hv
  |false=>
    obtain⟨et,hund⟩:∃ e,P.underlying t=some (.slice e):=by
     split at ht
     ·cases ht
     ·exact⟨_,by assumption⟩
     ·cases ht
    have key:∀ (n cap:Nat) (ad:Option Addr),a.eval y=.slice ad n cap->(Builtin.len_ #[t] oper.type #[a.eval y]).run P w=.ok (.int .i64 n) w:=by
     intro n cap ad he;rw[he];unfold Builtin.len_;simp only[e4k,e49,e7i,e6u hund,Result.andThen];rfl
    simp only[Ar]at hv;split at hv
    ·rename_i e;rw[e]at hx;cases hv;obtain⟨ad,hu⟩:=Hg hx;exact Bv 0 rfl (key 0 0 ad hu)
    ·rename_i es e;rw[e]at hx;cases hv;obtain⟨ad,cap,hu,_⟩:=Oe hx;exact Bv es.length rfl (key _ cap ad hu)
    ·rename_i r sz off len tot e;rw[e]at hx;cases hl:Am H r tot with
     |none=>rw[hl]at hv;cases hv
     |some o=>
       rw[hl]at hv;cases hv;obtain⟨ad,cap,hu⟩:=b9v hs hx hl;exact Bv len rfl (key _ cap ad hu)
    ·cases hv
 ·cases hf
theorem bq1{P:Program}{isMax:Bool}{x y:Opd}{o:Op}(hf:Ap P (if isMax then .max2 x y else .min2 x y) o=true):Eg P o (if isMax then .max2 x y else .min2 x y):=by
 intro E w H fr a v oper ho hs hr hv;cases isMax<;>simp only[e52,if_false,if_true]at hf hv
 all_goals
  cases o<;>simp only[Ap,e52]at hf;rename_i c;obtain⟨callee,args,ts⟩:=c;cases callee<;>try (simp only[Ap,e52]at hf;done)
  rename_i b;cases b<;>simp only[Ap,e52]at hf;split at hf
  ·rename_i x' y' hargs;rw[e5v]at hf;have hx:=Bd hr hf.1;have hy:=Bd hr hf.2;have hargs:args= #[x',y']:=(by apply e81;simpa using hargs);subst hargs;simp only[Ar]at hv;split at hv
   ·rename_i k m k' n e1 e2;rw[e1]at hx;rw[e2]at hy;cases hv;refine⟨_,?_,.pure (x:=.int _ _) (.int _ _)⟩;simp only[execOp,ho,resolve,e7i,e7j,Result.andThen,invoke,builtin,List.map_toArray,e75,e7k,Ec hx,Ec hy,Builtin.max_,Builtin.min_,List.foldlM_cons,List.foldlM_nil,Builtin.max2,Builtin.min2]
   ·cases hv
  ·cases hf
theorem d4n{P:Program}{f:Fn}{first cap:List Opd}{o:Op}(hf:Ap P (.mkfn f first cap) o=true):Eg P o (.mkfn f first cap):=by
 intro E w H fr a v oper ho hs hr hv;cases o<;>simp only[Ap,e5v,e52,e5h]at hf;rename_i g first' cap'
 obtain⟨⟨rfl,h1⟩,h2⟩:=hf;have key:∀ (xs:List Opd) (ys:List Operand),Ap.fitOs xs ys=true->RepL E (xs.map (evalA fr)) (ys.map a.eval).toArray:=by
  intro xs
  induction xs with
  |nil=>intro ys h;cases ys<;>simp only[Ap.fitOs,e52]at h;exact RepL.nil E
  |cons x xs ih=>
    intro ys h;cases ys with
    |nil=>simp[Ap.fitOs]at h
    |cons y ys=>
      simp only[Ap.fitOs,e5v]at h
      have:=ih ys h.2;refine⟨by have:=this.1;simp at this;simp[this],λi c u hc hu=>?_⟩;cases i with
      |zero=>simp at hc hu;subst hc;subst hu;exact Bd hr h.1
      |succ i=>exact this.2 i c u (by simpa using hc) (by simpa using hu)
 have k1:=key _ _ h1;have k2:=key _ _ h2;simp only[Ar,e5i]at hv;subst hv;refine⟨.func f (first'.map a.eval) (cap'.map a.eval),?_,?_⟩
 ·simp only[execOp,ho];rfl
 ·refine .fn _ _ _ _ _ (by simpa using k1.1) (by simpa using k2.1) (λi c u hc hu=>k1.2 i c u hc (by simpa using hu)) (λi c u hc hu=>k2.2 i c u hc (by simpa using hu))
theorem d4v{P:Program}{off:Nat}{x:Opd}{o:Op}(hf:Ap P (.faddr off x) o=true):Eg P o (.faddr off x):=by
 intro E w H fr a v oper ho hs hr hv;cases o<;>simp only[Ap,e5v,e52]at hf;rename_i t y f;obtain⟨ht,h1⟩:=hf;have hx:=Bd hr h1;obtain⟨fs,g,i,hu,hg,hoff,hi,hsz⟩:∃ fs g i,P.underlying t=some (.struct fs)/\fs[f]?=some g/\g.offset=off/\P.info? g.type=some i/\i.size≠0:=by
  split at ht
  ·split at ht
   ·rw[e5v]at ht;obtain⟨h2,h3⟩:=ht;split at h3
    ·exact⟨_,_,_,by assumption,by assumption,by simpa using h2,by assumption,by simpa using h3⟩
    ·cases h3
   ·cases ht
  ·cases ht
 have key:∀ b k,a.eval y=.pointer (some ⟨b,k,none⟩)->(execOp a.eval oper).run P w=.ok (.value (.pointer (some ⟨b,k+off,none⟩))) w:=by
  intro b k he;simp only[execOp,ho];apply Dn;simp only[Instr.fieldAt,e7i,e6u hu,Result.andThen,hg,he,Instr.sureAddr,e7j,fieldPlace,Fb hi,if_neg hsz,Vu,hoff]
 simp only[Ar]at hv;split at hv
 ·rename_i r k j tot e;rw[e]at hx;cases hl:Am H r tot with
  |none=>rw[hl]at hv;cases hv
  |some o=>
    rw[hl]at hv;cases hv;obtain⟨x',hx',he⟩:=X6 hx (G1 hs hl).2.2;refine⟨_,key _ _ he,?_⟩;rw[Nat.add_assoc];exact .ptr r k (j+off) tot x' hx' ((G1 hs hl).2.2 x' hx')
 ·rename_i cs e;rw[e]at hx;split at hv
  ·rename_i hle;cases hv;obtain⟨b,k,cells,te,q,he,hF,hin,hc⟩:=ay1 hx;refine⟨_,key _ _ he,.pure (x:=.fptr _) (.fptr _ b (k+off) cells te q hF (by simp;omega) ?_)⟩;intro m c u hm hu';rw[e53]at hm;exact hc (off+m) c u hm (by rw[<-hu'];congr 1;omega)
  ·cases hv
 ·cases hv
theorem d4t{P:Program}{sz:Nat}{x i:Opd}{o:Op}(hf:Ap P (.iaddr sz x i) o=true):Eg P o (.iaddr sz x i):=by
 intro E w H fr a v oper ho hs hr hv;cases o<;>simp only[Ap,e5v,e52]at hf;rename_i t y j;obtain⟨⟨ht,h1⟩,h2⟩:=hf;have hx:=Bd hr h1;have hi:=Bd hr h2;obtain⟨et,inf,hu,hinf,hsz⟩:∃ e inf,P.underlying t=some (.slice e)/\P.info? e=some inf/\inf.size=sz:=by
  split at ht
  ·split at ht
   ·exact⟨_,_,by assumption,by assumption,by simpa using ht⟩
   ·cases ht
  ·cases ht
 have key:∀ b k len cap kk n,a.eval y=.slice (some ⟨b,k,none⟩) len cap->a.eval j=.int kk n->0<=n->n<len->
  (execOp a.eval oper).run P w=.ok (.value (.pointer (some ⟨b,k+n.toNat*sz,none⟩))) w:=by
  intro b k len cap kk n he hj h0 hlt;simp only[execOp,ho];apply Dn;simp only[Instr.indexAt,hj,he,asIntOf,e7i,e7j,Result.andThen,e6u hu,if_pos (And.intro h0 hlt),Fb hinf,hsz,Vu]
 simp only[Ar]at hv;split at hv
 ·rename_i es kk n e1 e2;rw[e1]at hx;rw[e2]at hi;split at hv
  ·rename_i h0;split at hv
   ·rename_i e he;split at hv
    ·rename_i hle;cases hv;have hlt:n.toNat<es.length:=by
      rcases e7h n.toNat es.length with h|h
      ·exact h
      ·rw[e4j h]at he;cases he
     obtain⟨ad,cap,hv',hcap,hne⟩:=Oe hx;obtain⟨b,off,sz',cells,te,q,rfl,hF,hsz',hin,hc⟩:=hne (by rintro rfl;simp at hlt);have hsz'':sz'=sz:=(by rw[<-hsz' e (e4q he),hle]);subst hsz'';refine⟨_,key b off _ cap kk n hv' (Ec hi) h0 om,.pure (x:=.fptr _) (.fptr _ b _ cells te q hF ?_ ?_)⟩
     ·have h3:(n.toNat+1)*sz'<=es.length*sz':=e4r _ hlt;rw[e7x]at h3;omega
     ·intro k c u hk hu';exact hc n.toNat e k c u he hk (by rw[<-hu'];congr 1;omega)
    ·cases hv
   ·cases hv
  ·cases hv
 ·rename_i r sz' off len tot kk n e1 e2;rw[e1]at hx;rw[e2]at hi;split at hv
  ·rename_i h0;obtain⟨h0,hlt,rfl⟩:=h0;cases hl:Am H r tot with
   |none=>rw[hl]at hv;cases hv
   |some o=>
     rw[hl]at hv;cases hv;obtain⟨hat,hlen,htt⟩:=G1 hs hl;rcases Iu hx htt with ⟨ad,z1,z2,z3,_⟩|⟨x',cap,hx',hsz',g1,g2,g3,g4,hv'⟩
     ·omega
     ·refine⟨_,key _ _ len cap kk n hv' (Ec hi) h0 hlt,?_⟩
      have:=Rep.ptr (E:=E) r (off+n.toNat) 0 tot x' hx' (htt _ hx');rw[hsz',e7x,e7l]at this;rw[hsz'];exact this
  ·cases hv
 ·cases hv
theorem d4s{P:Program}{len sz:Nat}{x i:Opd}{o:Op}(hf:Ap P (.iaddra len sz x i) o=true):Eg P o (.iaddra len sz x i):=by
 intro E w H fr a v oper ho hs hr hv;cases o<;>simp only[Ap,e5v,e52]at hf;rename_i t y j;obtain⟨⟨ht,h1⟩,h2⟩:=hf;have hx:=Bd hr h1;have hi:=Bd hr h2;obtain⟨et,inf,hu,hinf,hsz⟩:∃ e inf,P.underlying t=some (.array len e)/\P.info? e=some inf/\inf.size=sz:=by
  split at ht
  ·rw[e5v,e5h]at ht;obtain⟨rfl,ht⟩:=ht;split at ht
   ·exact⟨_,_,by assumption,by assumption,by simpa using ht⟩
   ·cases ht
  ·cases ht
 have key:∀ b k kk n,a.eval y=.pointer (some ⟨b,k,none⟩)->a.eval j=.int kk n->0<=n->n<len->
  (execOp a.eval oper).run P w=.ok (.value (.pointer (some ⟨b,k+n.toNat*sz,none⟩))) w:=by
  intro b k kk n he hj h0 hlt;simp only[execOp,ho];apply Dn;simp only[Instr.indexAt,hj,he,asIntOf,e7i,e7j,Result.andThen,e6u hu,Instr.sureAddr,if_pos (And.intro h0 hlt),Fb hinf,hsz,Vu]
 simp only[Ar]at hv;split at hv
 ·rename_i r k j' tot kk n e1 e2;rw[e1]at hx;rw[e2]at hi;split at hv
  ·rename_i h0;cases hl:Am H r tot with
   |none=>rw[hl]at hv;cases hv
   |some o=>
     rw[hl]at hv;cases hv;obtain⟨x',hx',he⟩:=X6 hx (G1 hs hl).2.2;refine⟨_,key _ _ kk n he (Ec hi) h0.1 h0.2,?_⟩;rw[Nat.add_assoc];exact .ptr r k _ tot x' hx' ((G1 hs hl).2.2 x' hx')
  ·cases hv
 ·rename_i cs kk n e1 e2;rw[e1]at hx;rw[e2]at hi;split at hv
  ·rename_i h0;cases hv;obtain⟨b,k,cells,te,q,he,hF,hin,hc⟩:=ay1 hx;refine⟨_,key _ _ kk n he (Ec hi) h0.1 h0.2.1,.pure (x:=.fptr _) (.fptr _ b _ cells te q hF (by simp;omega) ?_)⟩;intro m c u hm hu';rw[e53]at hm;exact hc _ c u hm (by rw[<-hu'];congr 1;omega)
  ·cases hv
 ·cases hv
theorem d4q{P:Program}{x i:Opd}{o:Op}(hf:Ap P (.indexs x i) o=true):Eg P o (.indexs x i):=by
 intro E w H fr a v oper ho hs hr hv;cases o<;>simp only[Ap,e5v,e52]at hf;rename_i t y j;obtain⟨⟨ht,h1⟩,h2⟩:=hf;have hx:=Bd hr h1;have hi:=Bd hr h2;have hu:P.underlying t=some .string:=by
  split at ht<;>first|assumption|cases ht
 simp only[Ar]at hv;split at hv
 ·rename_i s kk n e1 e2;rw[e1]at hx;rw[e2]at hi;split at hv
  ·rename_i h0;cases hb:s[n.toNat]? with
   |none=>rw[hb]at hv;cases hv
   |some b=>
     rw[hb]at hv;cases hv;refine⟨_,?_,.pure (x:=.int _ _) (.int _ _)⟩;simp only[execOp,ho];apply Dn;have hb':(⟨s.toArray⟩:ByteArray)[n.toNat]?=some b:=by
      have hlt:n.toNat<s.length:=by
       rcases e7h n.toNat s.length with h|h
       ·exact h
       ·rw[e4j h]at hb;cases hb
      have hlt':n.toNat<(⟨s.toArray⟩:ByteArray).size:=(by simpa [ByteArray.size]using hlt);rw[getElem?_pos (⟨s.toArray⟩:ByteArray) n.toNat hlt'];rw[e47 hlt]at hb;cases hb;rfl
     simp only[Instr.index,Ec hi,Jh hx,asIntOf,e7i,e7j,Result.andThen,e6u hu,if_pos h0,hb']
  ·cases hv
 ·cases hv
theorem d4u{P:Program}{agg:Bool}{off n:Nat}{x:Opd}{o:Op}(hf:Ap P (.field agg off n x) o=true):Eg P o (.field agg off n x):=by
 intro E w H fr a v oper ho hs hr hv;cases o<;>simp only[Ap,e5v,e52]at hf;rename_i t y f;obtain⟨ht,h1⟩:=hf;have hx:=Bd hr h1;obtain⟨fs,g,hu,hg,hoff,htb,hn⟩:∃ fs g,P.underlying t=some (.struct fs)/\fs[f]?=some g/\g.offset=off/\Nl P g.type agg n=true/\(agg||decide (n=1))=true:=by
  split at ht
  ·split at ht
   ·rw[e5v,e5v]at ht;obtain⟨⟨h2,h3⟩,h4⟩:=ht;exact⟨_,_,by assumption,by assumption,by simpa using h2,h3,h4⟩
   ·cases ht
  ·cases ht
 have ti:=a32 htb;obtain⟨i,hi,hin⟩:=ti.info;simp only[Ar]at hv;split at hv
 ·rename_i cs e;rw[e]at hx;split at hv
  ·rename_i hle;cases hv;obtain⟨vs,he,hl,hc⟩:=a01 hx;cases agg with
   |true=>
     refine⟨.agg (vs.extract off (off+n)),?_,.agg _ _ (by simp;omega) ?_⟩
     ·simp only[execOp,ho];apply Dn;simp only[Instr.field,he,asAgg,e7i,e7j,Result.andThen,e6u hu,hg,part,Zy ti,if_true,Fb hi,hin,hoff]
     ·intro k c u hk hu';have hkn:k<n:=by
       rcases e7h k n with h|h
       ·exact h
       ·rw[e4j (by simp;omega)]at hk;cases hk
      rw[e48 hkn,e53]at hk;rw[e4f]at hu';split at hu'
      ·exact hc _ c u hk hu'
      ·cases hu'
   |false=>
     have:n=1:=(by simpa using hn);subst this;have h0:vs[off]?=some (vs[off]' om):=e44 _;refine⟨vs[off]' om,?_,?_⟩
     ·simp only[execOp,ho];apply Dn;simp only[Instr.field,he,asAgg,e7i,e7j,Result.andThen,e6u hu,hg,part,Zy ti,hoff,h0,e52,if_false]
     ·simp only[Du,e52,if_false];have:((cs.drop off).take 1)[0]?=some (cs[off]' om):=by
       rw[e48 om,e53];simp
      rw[this];exact hc off _ _ (e47 om) h0
  ·cases hv
 ·cases hv
theorem d4r{P:Program}{agg:Bool}{len sz:Nat}{x i:Opd}{o:Op}(hf:Ap P (.indexa agg len sz x i) o=true):Eg P o (.indexa agg len sz x i):=by
 intro E w H fr a v oper ho hs hr hv;cases o<;>simp only[Ap,e5v,e52]at hf;rename_i t y j;obtain⟨⟨ht,h1⟩,h2⟩:=hf;have hx:=Bd hr h1;have hi:=Bd hr h2;obtain⟨e,hu,htb,hn⟩:∃ e,P.underlying t=some (.array len e)/\Nl P e agg sz=true/\(agg||decide (sz=1))=true:=by
  split at ht
  ·simp only[e5v,e5h]at ht;obtain⟨⟨rfl,h3⟩,h4⟩:=ht;exact⟨_,by assumption,h3,h4⟩
  ·cases ht
 have ti:=a32 htb;obtain⟨inf,hinf,hin⟩:=ti.info;simp only[Ar]at hv;split at hv
 ·rename_i cs k n e1 e2;rw[e1]at hx;rw[e2]at hi;split at hv
  ·rename_i hle;obtain⟨h0,hl,hle⟩:=hle;cases hv;obtain⟨vs,he,hlen,hc⟩:=a01 hx;have hb:0<=n/\n<(len:Int):=⟨h0,hl⟩;generalize hoff:n.toNat*sz=off at hle;cases agg with
   |true=>
     refine⟨.agg (vs.extract off (off+sz)),?_,.agg _ _ (by simp;omega) ?_⟩
     ·simp only[execOp,ho];apply Dn;simp only[Instr.index,Ec hi,he,asIntOf,e7i,e7j,Result.andThen,e6u hu,if_pos hb,Fb hinf,hin,part,Zy ti,if_true,hoff]
     ·intro k c u hk hu';have hkn:k<sz:=by
       rcases e7h k sz with h|h
       ·exact h
       ·rw[e4j (by simp;omega)]at hk;cases hk
      rw[e48 hkn,e53]at hk;rw[e4f]at hu';split at hu'
      ·exact hc _ c u hk hu'
      ·cases hu'
   |false=>
     have:sz=1:=(by simpa using hn);subst this;have h0:vs[off]?=some (vs[off]' om):=e44 _;refine⟨vs[off]' om,?_,?_⟩
     ·simp only[execOp,ho];apply Dn;simp only[Instr.index,Ec hi,he,asIntOf,e7i,e7j,Result.andThen,e6u hu,if_pos hb,Fb hinf,hin,part,Zy ti,hoff,h0,e52,if_false]
     ·simp only[Du,e52,if_false];have:((cs.drop off).take 1)[0]?=some (cs[off]' om):=by
       rw[e48 om,e53];simp
      rw[this];exact hc off _ _ (e47 om) h0
  ·cases hv
 ·cases hv
theorem d56{P:Program}{x:Opd}{o:Op}(hf:Ap P (.cap x) o=true):Eg P o (.cap x):=by
 intro E w H fr a v oper ho hs hr hv;cases o<;>simp only[Ap,e52]at hf;rename_i c;obtain⟨callee,args,ts⟩:=c;cases callee<;>try (simp only[Ap,e52]at hf;done)
 rename_i b;cases b<;>simp only[Ap,e52]at hf;split at hf
 ·rename_i y t hargs hts;rw[e5v]at hf;obtain⟨ht,h1⟩:=hf;have hx:=Bd hr h1;have hargs:args= #[y]:=by apply e81;simpa using hargs
  have hts:ts= #[t]:=by apply e81;simpa using hts
  subst hargs;subst hts;obtain⟨et,hund⟩:∃ e,P.underlying t=some (.slice e):=by
   split at ht
   ·exact⟨_,by assumption⟩
   ·cases ht
  simp only[Ar]at hv;split at hv
  ·rename_i e;rw[e]at hx;cases hv;obtain⟨ad,he⟩:=Hg hx;have hrun:(Builtin.cap_ #[t] oper.type #[a.eval y]).run P w=.ok (.int .i64 0) w:=by
    rw[he];unfold Builtin.cap_;simp only[e4k,e49,e7i,e6u hund,Result.andThen];rfl
   refine⟨.int .i64 0,?_,.pure (x:=.int _ _) (.int _ _)⟩;simp only[execOp,ho,resolve,e7i,e7j,Result.andThen,invoke,builtin,List.map_toArray,e75,e7k,hrun]
  ·cases hv
 ·cases hf
theorem Tn{E:Env}{fr:List AV}{a:Act}(hr:RepL E fr a.tmps){x:Option Opd}{x':Option Operand}(hf:Ap.fitOO x x'=true){d top m:Nat}(h:Bo (evalA fr) x d top=some m) :
 (x'=none/\m=d)\/∃ y' k n,x'=some y'/\a.eval y'=.int k n/\0<=n/\n<=top/\m=n.toNat:=by
 cases x with
 |none=>
   cases x' with
   |none=>simp only[Bo,e5i]at h;exact .inl ⟨rfl,h.symm⟩
   |some y'=>simp[Ap.fitOO]at hf
 |some y=>
   cases x' with
   |none=>simp[Ap.fitOO]at hf
   |some y' =>
     simp only[Ap.fitOO]at hf;have hy:=Bd hr hf;simp only[Bo]at h;split at h
     ·rename_i k n e;rw[e]at hy;split at h
      ·rename_i hb;cases h;exact .inr ⟨y',k,n,rfl,Ec hy,hb.1,hb.2,rfl⟩
      ·cases h
     ·cases h
theorem a3h{P:Program}{w:World}{E:Env}{fr:List AV}{a:Act}(hr:RepL E fr a.tmps)(isSlice:Bool){lo hi:Option Opd}{lo' hi':Option Operand}
 (hl:Ap.fitOO lo lo'=true) (hh:Ap.fitOO hi hi'=true) {len cap top h l:Nat} (htop:top<=cap) (h1:Bo (evalA fr) hi len top=some h) (h2:Bo (evalA fr) lo 0 h=some l) :
 (Instr.sliceBounds isSlice len cap (lo'.map a.eval) (hi'.map a.eval) none).run P w=.ok (l,h,cap) w:=by
 unfold Instr.sliceBounds;rcases Tn hr hh h1 with ⟨rfl,rfl⟩|⟨y',k,n,rfl,he,hn,hm,rfl⟩<;>rcases Tn hr hl h2 with ⟨rfl,rfl⟩|⟨z',k',n',rfl,he',hn',hm',rfl⟩
 ·rfl
 ·simp only[e6g,e6h,e7i,e7j,Result.andThen,Instr.sliceBound,he',asIntOf,if_pos (And.intro hn' hm')]
 ·have c1:0<=n/\n<=(cap:Int):=⟨hn,by omega⟩;simp only[e6g,e6h,e7i,e7j,Result.andThen,Instr.sliceBound,he,asIntOf,if_pos c1]
 ·have c1:0<=n/\n<=(cap:Int):=⟨hn,by omega⟩;simp only[e6h,e7i,e7j,Result.andThen,Instr.sliceBound,he,he',asIntOf,if_pos c1,if_pos (And.intro hn' hm')]
theorem d4e{P:Program}{x:Opd}{lo hi:Option Opd}{o:Op}(hf:Ap P (.slices x lo hi) o=true):Eg P o (.slices x lo hi):=by
 intro E w H fr a v oper ho hs hr hv;cases o<;>simp only[Ap,e52]at hf;rename_i t y lo' hi' mx;cases mx<;>simp only[Ap,e5v,e52]at hf;obtain⟨⟨⟨ht,h1⟩,h2⟩,h3⟩:=hf;have hx:=Bd hr h1;have hu:P.underlying t=some .string:=by
  split at ht<;>first|assumption|cases ht
 simp only[Ar]at hv;split at hv
 ·rename_i s e;rw[e]at hx;split at hv
  ·rename_i h hh;split at hv
   ·rename_i l hl;cases hv;have hz:(⟨s.toArray⟩:ByteArray).size=s.length:=(by simp[ByteArray.size]);have hb:=a3h (P:=P) (w:=w) hr false h2 h3 (cap:=s.length) (e7y _) hh hl;refine⟨.string ((⟨s.toArray⟩:ByteArray).extract l h),?_,?_⟩
    ·simp only[execOp,ho];apply Dn;simp only[Instr.sliceAt,e7i,e6u hu,Result.andThen,Instr.slice,Jh hx,hz,e6g,e54,e52,if_false,hb];rfl
    ·have:(⟨s.toArray⟩:ByteArray).extract l h=⟨((s.take h).drop l).toArray⟩:=by
      apply ByteArray.ext;simp[List.drop_take]
     rw[this];exact .pure (x:=.str _) (.str _)
   ·cases hv
  ·cases hv
 ·cases hv
theorem d4f{P:Program}{sz:Nat}{x:Opd}{lo hi:Option Opd}{o:Op}(hf:Ap P (.slicel sz x lo hi) o=true):Eg P o (.slicel sz x lo hi):=by
 intro E w H fr a v oper ho hs hr hv;cases o<;>simp only[Ap,e52]at hf;rename_i t y lo' hi' mx;cases mx<;>simp only[Ap,e5v,e52]at hf;obtain⟨⟨⟨ht,h1⟩,h2⟩,h3⟩:=hf;have hx:=Bd hr h1;obtain⟨et,inf,hu,hinf,hsz⟩:∃ e inf,P.underlying t=some (.slice e)/\P.info? e=some inf/\inf.size=sz:=by
  split at ht
  ·split at ht
   ·exact⟨_,_,by assumption,by assumption,by simpa using ht⟩
   ·cases ht
  ·cases ht
 have key:∀ ad len cap l h,a.eval y=.slice ad len cap->(Instr.sliceBounds true len cap (lo'.map a.eval) (hi'.map a.eval) none).run P w=.ok (l,h,cap) w->
  (execOp a.eval oper).run P w=.ok (.value (.slice (if cap=l then ad else ad.map (·.add (l*sz))) (h-l) (cap-l))) w:=by
  intro ad len cap l h he hb;simp only[execOp,ho];apply Dn;simp only[Instr.sliceAt,e7i,e6u hu,Result.andThen,Instr.slice,he,e6g,hb,Fb hinf,hsz];rfl
 simp only[Ar]at hv;split at hv
 ·rename_i es e;rw[e]at hx;obtain⟨ad,cap,he,hcap,hne⟩:=Oe hx;split at hv
  ·rename_i h hh;split at hv
   ·rename_i l hl;split at hv
    ·rename_i hall;cases hv;have hb:=a3h (P:=P) (w:=w) hr true h2 h3 hcap hh hl;refine⟨_,key ad _ cap l h he hb,?_⟩;have hhle:h<=es.length:=by
      rcases Tn hr h3 hh with ⟨_,rfl⟩|⟨_,_,n,_,_,_,hm,rfl⟩<;>omega
     have hlen:((es.take h).drop l).length=h-l:=(by simp;omega);cases hes:(es.take h).drop l with
     |nil=>
       have:h-l=0:=(by rw[<-hlen,hes];rfl);rw[this];exact .pure (x:=.fz []) (.fz0 _ _)
     |cons e0 er=>
       have hlt:l<h:=by
        have:0<h-l:=(by rw[<-hlen,hes];simp);omega
       have hes0:es≠[]:=(by rintro rfl;simp at hes);obtain⟨b,off,sz',cells,te,q,rfl,hF,hsz',hin,hc⟩:=hne hes0;have he0:es[l]?=some e0:=by
        have:((es.take h).drop l)[0]?=some e0:=by rw[hes];rfl
        rwa [e53,e7l,e48 hlt]at this
       have hsz2:sz'=sz:=by
        rw[<-hsz' e0 (e4q he0)]
        have:=e5x.1 hall e0 (by rw[hes];simp);simpa using this
       subst hsz2;rw[if_neg om,<-hes];simp only[e6h,Vu];have hlen':h-l=((es.take h).drop l).length:=hlen.symm;rw[hlen'];refine .pure (x:=.fz _) (.fz _ b (off+l*sz') _ sz' cells te q hF (by rw[<-hlen'];omega) ?_ ?_ ?_)
       ·intro e' hm;exact hsz' e' (e4s (List.mem_of_mem_drop hm))
       ·rw[<-hlen',Nat.add_assoc,<-e7x];have:(l+(h-l))*sz'<=es.length*sz':=e4r _ om;omega
       ·intro i e' k c u hi hk hu';have hi':es[l+i]?=some e':=by
         rw[e53]at hi;have:l+i<h:=by
          rcases e7h (l+i) h with h'|h'
          ·exact h'
          ·rw[e4j (by simp;omega)]at hi;cases hi
         rwa [e48 this]at hi
        refine hc (l+i) e' k c u hi' hk ?_;rw[<-hu',e7x];congr 1;omega
    ·cases hv
   ·cases hv
  ·cases hv
 ·rename_i e;rw[e]at hx;obtain⟨ad,he⟩:=Hg hx;split at hv
  ·rename_i h hh;split at hv
   ·rename_i l hl;cases hv;have z1:h=0:=(by rcases Tn hr h3 hh with ⟨_,rfl⟩|⟨_,_,n,_,_,_,hm,rfl⟩<;>omega);subst z1;have z2:l=0:=(by rcases Tn hr h2 hl with ⟨_,rfl⟩|⟨_,_,n,_,_,_,hm,rfl⟩<;>omega);subst z2;have hb:=a3h (P:=P) (w:=w) hr true h2 h3 (cap:=0) (e7y _) hh hl;exact⟨_,key ad 0 0 0 0 he hb,.pure (x:=.emp) (.emp _)⟩
   ·cases hv
  ·cases hv
 ·rename_i r sz' off len tot e;rw[e]at hx;split at hv
  ·rename_i o hlive;obtain⟨hat,hlen,htt⟩:=G1 hs hlive;split at hv
   ·rename_i hoff;obtain⟨hoff,rfl⟩:=hoff;split at hv
    ·rename_i h hh;split at hv
     ·rename_i l hl;rcases Iu hx htt with ⟨ad,rfl,rfl,rfl,he⟩|⟨x',cap,hx',hsz',g1,g2,g3,g4,he⟩
      ·have z1:h=0:=(by rcases Tn hr h3 hh with ⟨_,rfl⟩|⟨_,_,n,_,_,_,hm,rfl⟩<;>omega);subst z1;have z2:l=0:=(by rcases Tn hr h2 hl with ⟨_,rfl⟩|⟨_,_,n,_,_,_,hm,rfl⟩<;>omega);subst z2;have hb:=a3h (P:=P) (w:=w) hr true h2 h3 (cap:=0) (e7y _) hh hl;rw[if_pos rfl]at hv;cases hv;exact⟨_,key ad 0 0 0 0 he hb,.own0 r _ _⟩
      ·have htop:tot-off<=cap:=om;have hb:=a3h (P:=P) (w:=w) hr true h2 h3 htop hh hl;have hhle:h<=tot-off:=(by rcases Tn hr h3 hh with ⟨_,rfl⟩|⟨_,_,n,_,_,_,hm,rfl⟩<;>omega);refine⟨_,key _ _ cap l h he hb,?_⟩;split at hv
       ·rename_i hl0;subst hl0;cases hv;have e0:(if cap=0 then some (⟨x'.b,off*x'.sz,none⟩:Addr)else(some (⟨x'.b,off*x'.sz,none⟩:Addr)).map (·.add (0*sz')))=some ⟨x'.b,off*x'.sz,none⟩:=by
         split
         ·rfl
         ·simp[Addr.add]
        rw[e0];exact .own r sz' off h tot (cap-0) x' hx' (htt _ hx') hsz' om om om (by simpa using g4)
       ·rename_i hl0;split at hv
        ·rename_i hle;cases hv;rw[show h-l=0 from by omega];exact .pure (x:=.fz []) (.fz0 _ _)
        ·rename_i hle;cases hv;rw[if_neg om];simp only[e6h,Vu];have e5:off*x'.sz+l*sz'=(off+l)*x'.sz:=(by rw[hsz',e7x]);rw[e5];exact .own r sz' (off+l) (h-l) tot (cap-l) x' hx' (htt _ hx') hsz' om om om (by rw[show off+l+(cap-l)=off+cap from by omega];exact g4)
     ·cases hv
    ·cases hv
   ·cases hv
  ·cases hv
 ·cases hv
theorem d4d{P:Program}{x:Opd}{o:Op}(hf:Ap P (.slicez x) o=true):Eg P o (.slicez x):=by
 intro E w H fr a v oper ho hs hr hv;cases o<;>simp only[Ap,e52]at hf;rename_i t y lo hi mx;simp only[e5v]at hf;obtain⟨⟨⟨⟨ht,h1⟩,h2⟩,h3⟩,h4⟩:=hf;obtain⟨k,rfl⟩:=b0r h3;obtain⟨k',rfl⟩:=b0r h4;have hx:=Bd hr h1;obtain⟨et,inf,hu,hinf⟩:∃ e inf,P.underlying t=some (.slice e)/\P.info? e=some inf:=by
  split at ht
  ·obtain⟨inf,h⟩:=Option.isSome_iff_exists.1 ht;exact⟨_,inf,by assumption,h⟩
  ·cases ht
 have key:∀ ad len cap,a.eval y=.slice ad len cap->(execOp a.eval oper).run P w=.ok (.value (.slice ad 0 0)) w:=by
  intro ad len cap he;simp only[execOp,ho];apply Dn;have hb:(Instr.sliceBounds true len cap (lo.map a.eval) (some (.int k 0)) (some (.int k' 0))).run P w=.ok (0,0,0) w:=by
   unfold Instr.sliceBounds;have z:∀ (kk:IntKind) (c:Nat) (code:BoundsCode),(Instr.sliceBound (.int kk 0) c code).run P w=.ok 0 w:=by
    intro kk c code;simp only[Instr.sliceBound,asIntOf,e7i,e7j,Result.andThen];rw[if_pos om];rfl
   simp only[e7i,z,Result.andThen];cases lo with
   |none=>rfl
   |some l=>
     obtain⟨kk,hk⟩:=b0r (by simpa using h2);cases hk;simp only[e6h,show a.eval (.const (.int kk 0))=.int kk 0 from rfl,e55,if_true,z,Result.andThen];rfl
  simp only[Instr.sliceAt,e7i,e6u hu,Result.andThen,Instr.slice,he,e6h,show ∀ kk,a.eval (.const (.int kk 0))=.int kk 0 from λ_=>rfl,hb,Fb hinf,if_true];rfl
 simp only[Ar]at hv;split at hv
 ·rename_i es e;rw[e]at hx;cases hv;obtain⟨ad,cap,he,_⟩:=Oe hx;exact⟨_,key _ _ _ he,.pure (x:=.emp) (.emp _)⟩
 ·rename_i e;rw[e]at hx;cases hv;obtain⟨ad,he⟩:=Hg hx;exact⟨_,key _ _ _ he,.pure (x:=.emp) (.emp _)⟩
 ·rename_i r sz off len tot e;rw[e]at hx;cases hl:Am H r tot with
  |none=>rw[hl]at hv;cases hv
  |some o=>
    rw[hl]at hv;cases hv;obtain⟨ad,cap,he⟩:=b9v hs hx hl;exact⟨_,key _ _ _ he,.pure (x:=.emp) (.emp _)⟩
 ·cases hv
theorem d4g{P:Program}{x lo hi mx:Opd}{o:Op}(hf:Ap P (.slice3 x lo hi mx) o=true):Eg P o (.slice3 x lo hi mx):=by
 intro E w H fr a v oper ho hs hr hv;cases o<;>try (simp only[Ap,e52]at hf;done)
 rename_i t y lo' hi' mx';cases hi'<;>cases mx'<;>simp only[Ap,e5v,e52]at hf;rename_i hi' mx';obtain⟨⟨⟨⟨ht,h1⟩,h2⟩,h3⟩,h4⟩:=hf;have hx:=Bd hr h1;obtain⟨et,inf,hu,hinf⟩:∃ e inf,P.underlying t=some (.slice e)/\P.info? e=some inf:=by
  split at ht
  ·obtain⟨inf,h⟩:=Option.isSome_iff_exists.1 ht;exact⟨_,inf,by assumption,h⟩
  ·cases ht
 simp only[Ar]at hv;split at hv
 ·rename_i c hc;obtain⟨ad,len,cap,he,hcap⟩:∃ ad len cap,a.eval y=.slice ad len cap/\c<=cap:=by
   unfold X4 at hc;split at hc
   ·rename_i e;rw[e]at hx;cases hc;obtain⟨ad,he⟩:=Hg hx;exact⟨ad,0,0,he,e7y _⟩
   ·rename_i es e;rw[e]at hx;cases hc;obtain⟨ad,cap,he,hle,_⟩:=Oe hx;exact⟨ad,_,cap,he,hle⟩
   ·rename_i r sz off len tot e;rw[e]at hx;cases hl:Am H r tot with
    |none=>rw[hl]at hc;cases hc
    |some o=>
      rw[hl]at hc;cases hc;rcases Iu hx (G1 hs hl).2.2 with ⟨ad,rfl,rfl,rfl,he⟩|⟨x',cap,_,_,g1,g2,g3,_,he⟩
      ·exact⟨ad,0,0,he,e7y _⟩
      ·exact⟨_,len,cap,he,by simp only;omega⟩
   ·cases hc
  split at hv
  ·rename_i m hm;split at hv
   ·rename_i h hh;split at hv
    ·rename_i l hl;cases hv;have key:∀ {z:Opd} {z':Operand} {d top k:Nat},Be z z'=true->Bo (evalA fr) (some z) d top=some k->∃ kk n,a.eval z'=.int kk n/\0<=n/\n<=top/\k=n.toNat:=by
      intro z z' d top k hz hb
      have:=Tn hr (x:=some z) (x':=some z') (by simpa [Ap.fitOO]using hz) hb;rcases this with ⟨h,_⟩|⟨y',kk,n,h,he,h0,h1,rfl⟩
      ·cases h
      ·cases h;exact⟨kk,n,he,h0,h1,rfl⟩
     obtain⟨k1,n1,e1,p1,q1,rfl⟩:=key h4 hm;obtain⟨k2,n2,e2,p2,q2,rfl⟩:=key h3 hh;obtain⟨n3,p3,q3,rfl,hlo⟩:∃ n3:Int,0<=n3/\n3<=(n2.toNat:Int)/\l=n3.toNat/\((∃ z k3,lo'=some z/\a.eval z=.int k3 n3)\/(lo'=none/\n3=0)):=by
      cases lo' with
      |some z=>
        obtain⟨k3,n3,e3,p3,q3,h⟩:=key h2 hl;exact⟨n3,p3,q3,h,.inl ⟨z,k3,rfl,e3⟩⟩
      |none=>
        simp only at h2;split at h2
        ·simp only[e5h]at h2;subst h2;simp only[Bo,evalA]at hl;split at hl
         ·cases hl;exact⟨0,by omega,by omega,rfl,.inr ⟨rfl,rfl⟩⟩
         ·cases hl
        ·cases h2
     have c1:0<=n1/\n1<=(cap:Int):=⟨p1,by omega⟩;have fine:Rep E (am7 (evalA fr x) n1.toNat n3.toNat n2.toNat) (.slice (if n1.toNat=n3.toNat then ad else ad.map (·.add (n3.toNat*inf.size))) (n2.toNat-n3.toNat) (n1.toNat-n3.toNat)):=by
      unfold am7;split
      ·rename_i es e;split
       ·rename_i hc2;obtain⟨Xv,h2l⟩:=hc2;rw[e]at hx;obtain⟨ad2,cap2,he2,_,hne⟩:=Oe hx;rw[he]at he2;cases he2;rw[Xv,h2l];cases hes:es with
        |nil=>exact .pure (x:=.fz []) (.fz0 _ _)
        |cons e0 er=>
          obtain⟨b,off,sz,cells,te,q,rfl,hF,hsz,hin,hcc⟩:=hne (by rw[hes];simp);rw[hes]at h2l hsz hin hcc;have hpos:0<(e0::er).length:=(by simp);rw[if_neg om];simp only[e6h,Nat.zero_mul,e7m];exact .pure (x:=.fz _) (.fz _ b off _ sz cells te q hF om hsz hin hcc)
       ·exact .top _
      ·rename_i r sz off len tot e;split
       ·rename_i hc2;obtain⟨Xv,h2l,htm⟩:=hc2;rw[e]at hx hc;have hcc:∃ o,Am H r tot=some o/\c=tot-off:=by
         unfold X4 at hc;simp only at hc;cases hl:Am H r tot with
         |none=>rw[hl]at hc;cases hc
         |some o=>rw[hl]at hc;cases hc;exact⟨o,rfl,rfl⟩
        obtain⟨o,hl,hco⟩:=hcc;rw[Xv,h2l];rcases Iu hx (G1 hs hl).2.2 with ⟨ad2,rfl,rfl,rfl,he2⟩|⟨x',cap2,g0,g00,g1,g2,g3,g4,he2⟩
        ·rw[he]at he2;cases he2;have:n1.toNat=0:=om;rw[this];exact .own0 _ _ _
        ·rw[he]at he2;cases he2;have hq2:n2.toNat<=n1.toNat:=om;have hn1:n1.toNat<=cap:=om;have hmul:(off+n1.toNat)*x'.sz<=x'.n:=e7n (e4r _ om) g4;simp only[e6h,Nat.zero_mul,e7m];split<;>exact .own _ _ _ _ _ _ x' g0 ((G1 hs hl).2.2 _ g0) g00 g1 om om hmul
       ·exact .top _
      ·rename_i e;split
       ·rename_i hc2;obtain⟨Xv,h20,hm0⟩:=hc2;rw[Xv,h20,hm0];exact .pure (x:=.emp) (.emp _)
       ·exact .top _
      ·exact .top _
     refine⟨.slice (if n1.toNat=n3.toNat then ad else ad.map (·.add (n3.toNat*inf.size))) (n2.toNat-n3.toNat) (n1.toNat-n3.toNat),?_,fine⟩;simp only[execOp,ho];apply Dn;rcases hlo with ⟨z,k3,rfl,e3⟩|⟨rfl,rfl⟩
     ·simp only[Instr.sliceAt,e7i,e6u hu,Result.andThen,Instr.slice,he,e6h,Instr.sliceBounds,Instr.sliceBound,e1,e2,e3,asIntOf,e7j,if_pos c1,if_pos (And.intro p2 q2),if_pos (And.intro p3 q3),Fb hinf]
     ·simp only[Instr.sliceAt,e7i,e6u hu,Result.andThen,Instr.slice,he,e6h,e6g,Instr.sliceBounds,Instr.sliceBound,e1,e2,asIntOf,e7j,if_pos c1,if_pos (And.intro p2 q2),Fb hinf]
      rfl
    ·cases hv
   ·cases hv
  ·cases hv
 ·cases hv
theorem b24{E:Env}{w:World}{H:AH}(hs:Sim E w H){x:AV}{v:Value}(hx:Rep E x v){els:List (List AV)}(he:G5 H x=some els) :
 ∃ a cap,v=.slice a els.length cap/\els.length<=cap/\(els≠[]->∃ b off sz cells t q,a=some ⟨b,off,none⟩/\w.heap[b]?=some (.cells cells t q)/\ (∀ e∈els,e.length=sz)/\off+els.length*sz<=cells.size/\(∀ (i:Nat) v,i<els.length*sz->cells[off+i]?=some v->v.oneCell'=true)/\∀ (i:Nat) e (k:Nat) c u,els[i]?=some e->e[k]?=some c->cells[off+(i*sz+k)]?=some u->Rep E c u):=by
 unfold G5 at he;split at he
 ·cases he;obtain⟨a,rfl⟩:=Hg hx;exact⟨a,0,rfl,e7y _,λh=>absurd rfl h⟩
 ·rename_i es;cases he;obtain⟨a,cap,hv,hcap,hne⟩:=Oe hx;refine⟨a,cap,by simpa using hv,by simpa using hcap,λh=>?_⟩;obtain⟨b,off,sz,cells,t,q,ha,hF,hsz,hin,hc⟩:=hne (by rintro rfl;exact h rfl);refine⟨b,off,sz,cells,t,q,ha,hs.frz _ _ (.inl hF),?_,by simpa using hin,?_,?_⟩
  ·intro e hm;obtain⟨e',hm',rfl⟩:=e7o.1 hm;simpa using hsz e' hm'
  ·intro m v hm hmv;rw[e6i]at hm;have hpos:0<sz:=by
    rcases e56 sz with h0|h0
    ·subst h0;omega
    ·exact h0
   have hdm:=Nat.div_add_mod m sz;have hml:=Nat.mod_lt m hpos;have hil:m/sz<es.length:=(Nat.div_lt_iff_lt_mul hpos).2 hm;have he:=e47 hil;have hlen:=hsz _ (e4q he);have hk:=e47 (l:=es[m/sz]) (i:=m%sz) om
   exact(hc _ _ _ _ v he hk (by rw[<-hmv,Nat.mul_comm (m/sz) sz,hdm])).one
  ·intro i e k c u hi hk hu;rw[e5j]at hi;cases hi':es[i]? with
   |none=>rw[hi']at hi;cases hi
   |some e' =>
     rw[hi']at hi;cases hi;rw[e5j]at hk;cases hk':e'[k]? with
     |none=>rw[hk']at hk;cases hk
     |some c'=>rw[hk']at hk;cases hk;exact .pure (hc i e' k c' u hi' hk' hu)
 ·rename_i r sz0 off len tot;split at he
  ·rename_i o hl;split at he
   ·rename_i hle;cases he;obtain⟨hat,hlen,htt⟩:=G1 hs hl;have hlen2:((o.drop off).take len).length=len:=(by simp;omega);rcases Iu hx htt with ⟨a,rfl,rfl,rfl,rfl⟩|⟨x',cap,hx',_,g1,g2,g3,g4,rfl⟩
    ·exact⟨a,0,by simp,by simp,λh=>by simp at h⟩
    ·refine⟨_,cap,by rw[hlen2],by rw[hlen2];exact g2,λ_=>?_⟩;have hlies:=Fq hs hat hx';obtain⟨cells,t,q,hb,hn,hq,h1,hc⟩:=hlies.blk;refine⟨_,_,x'.sz,cells,t,q,rfl,hb,?_,?_,λm v _ hmv=>h1 _ v hmv,?_⟩
     ·intro e hm;exact hlies.sz e (List.mem_of_mem_drop (e4s hm))
     ·rw[hlen2,<-e7x];have h1:=hlies.fits;have h2:(off+len)*x'.sz<=o.length*x'.sz:=e4r _ om;omega
     ·intro i e k c u hi hk hu;have hil:i<len:=by
       rcases e7h i len with h|h
       ·exact h
       ·rw[e4j (by simp;omega)]at hi;cases hi
      rw[e48 hil,e53]at hi;refine hc (off+i) e k c u hi hk ?_;rw[<-hu,e7x];congr 1;omega
   ·cases he
  ·cases he
 ·cases he
theorem c8x:∀ {els:List (List AV)} {l:List UInt8},Hl els=some l->∃ ns:List Int,els=ns.map (λn=>[AV.int .u8 n])/\l=ns.map λn=>UInt8.ofNat n.toNat
 |[],l,h=>by simp only[Hl,e5i]at h;subst h;exact⟨[],rfl,rfl⟩
 |e::r,l,h=>by
   unfold Hl at h;split at h
   ·rename_i he;cases he
   ·rename_i n r' he;cases he;cases hr:Hl r with
    |none=>rw[hr]at h;cases h
    |some l' =>
      rw[hr]at h;cases h;obtain⟨ns,rfl,rfl⟩:=c8x hr;exact⟨n::ns,rfl,rfl⟩
   ·cases h
theorem bl4:∀ (ns:List Int) (s:ByteArray),(ns.foldl (λr n=>r.push (UInt8.ofNat n.toNat)) s)=⟨(s.data.toList++ns.map λn=>UInt8.ofNat n.toNat).toArray⟩
 |[],s=>by simp
 |n::ns,s=>by
   rw[e6j,bl4 ns]
   congr 1
   simp[ByteArray.push]
theorem d54{P:Program}{x:Opd}{o:Op}(hf:Ap P (.convbs x) o=true):Eg P o (.convbs x):=by
 intro E w H fr a v oper ho hs hr hv;cases o<;>simp only[Ap,e5v,e52]at hf;rename_i s t y;obtain⟨⟨h1,h2⟩,h3⟩:=hf;have hx:=Bd hr h3;have hd:P.underlying t=some .string:=by
  split at h2<;>first|assumption|cases h2
 obtain⟨et,hu,he⟩:∃ e,P.underlying s=some (.slice e)/\P.underlying e=some (.int .u8):=by
  split at h1
  ·split at h1
   ·exact⟨_,by assumption,by assumption⟩
   ·cases h1
  ·cases h1
 simp only[Ar]at hv;cases hel:G5 H (evalA fr x)with
 |none=>rw[hel]at hv;cases hv
 |some els=>
   rw[hel]at hv;cases hby:Hl els with
   |none=>simp only[e5y,hby,e6g]at hv;cases hv
   |some l=>
     simp only[e5y,hby,e6h,e5i]at hv;subst hv;obtain⟨ns,rfl,rfl⟩:=c8x hby;obtain⟨ad,cap,hval,hcap,hne⟩:=b24 hs hx hel;have Bv:∀ u,(Conv.bytesToString (a.eval y)).run P w=.ok u w->(execOp a.eval oper).run P w=.ok (.value u) w:=by
      intro u hu';simp only[execOp,ho];apply Dn;rw[hval]at hu' ⊢;rw[run_convert_bytes_string w s t et ad _ _ hu he hd];exact hu'
     cases ns with
     |nil=>
       refine⟨.string ⟨#[]⟩,Bv _ ?_,.pure (x:=.str []) (.str [])⟩;rw[hval];cases ad with
       |none=>rfl
       |some b=>
         have:=run_bytesToString (P:=P) w b 0 cap [] rfl;exact this
     |cons n0 nr=>
       obtain⟨b,off,sz,cells,te,q,rfl,hb,hsz,hin,_,hc⟩:=hne (by simp);have hsz1:sz=1:=(by rw[<-hsz [AV.int .u8 n0] (by simp)];rfl);subst hsz1;rw[e6i]at hin;have hload:(loadCells ⟨b,off,none⟩ (n0::nr).length).run P w=.ok ((n0::nr).map (Value.int .u8)).toArray w:=by
        rw[a3g P hb off _ om]
        congr 1
        apply Array.ext_getElem?;intro i;rw[e4f];by_cases hi:i<(n0::nr).length
        ·have hcl:off+i<cells.size:=om;rw[if_pos om,e44 hcl]
         have:=hc i [AV.int .u8 (n0::nr)[i]] 0 (AV.int .u8 (n0::nr)[i]) cells[off+i] (by rw[e5j,e47 hi];rfl) rfl
          (by rw[show off+(i*1+0)=off+i from by omega];exact e44 hcl)
         rw[Ec this];rw[e4k,e5j,e47 hi];rfl
        ·rw[if_neg om,e4k,e4j (by simpa using hi)]
       refine⟨.string ((n0::nr).foldl (λr n=>r.push (UInt8.ofNat n.toNat)) ByteArray.empty),Bv _ ?_,?_⟩
       ·rw[hval,e6i];exact run_bytesToString (P:=P) w ⟨b,off,none⟩ _ cap (n0::nr) hload
       ·rw[bl4];exact .pure (x:=.str _) (.str _)
def Nb(P:Program)(t:TypeId)(cs:Array Value):Value:=if Ha P t then .agg cs else(cs[0]?).getD undef
theorem a8i{P:Program}{t:TypeId}{n:Nat}(ht:Nl P t (Ha P t) n=true)(h1:Ha P t=true\/n=1)
 (w:World) (cs:Array Value) (off:Nat) (hin:off+n<=cs.size):(part t cs off).run P w=.ok (Nb P t (cs.extract off (off+n))) w:=by
 have ti:=a32 ht;obtain⟨i,hi,hn⟩:=ti.info;unfold part Nb;simp only[e7i,Zy ti,Result.andThen];cases hag:Ha P t with
 |true=>simp only[if_true,e7i,Fb hi,hn,Result.andThen,e7j]
 |false=>
   have:n=1:=by
    rcases h1 with h|h
    ·rw[h]at hag;cases hag
    ·exact h
   subst this;have h0:cs[off]?=some (cs[off]' om):=e44 _;simp only[e52,if_false,h0,e7j];rw[e4f,if_pos om,e7l,h0];rfl
theorem Vi:∀ {ks:List EK} {xs ys:List AV} {r:Bool},Cb ks xs ys=some r->xs.length=ks.length/\ys.length=ks.length
 |ks,xs,ys,r,h=>by
   unfold Cb at h;split at h
   ·exact⟨rfl,rfl⟩
   ·split at h
    ·rename_i ks' _ _ xs' _ _ ys' _;cases hr:Cb ks' xs' ys' with
     |none=>rw[hr]at h;cases h
     |some r0=>have:=Vi hr;simp[this.1,this.2]
    ·cases h
   ·rename_i ks' _ xs' _ ys';cases hr:Cb ks' xs' ys' with
    |none=>rw[hr]at h;cases h
    |some r0=>have:=Vi hr;simp[this.1,this.2]
   ·rename_i ks' _ xs' _ ys';cases hr:Cb ks' xs' ys' with
    |none=>rw[hr]at h;cases h
    |some r0=>have:=Vi hr;simp[this.1,this.2]
   ·cases h
theorem a5s:∀ (m:Nat) {ks:List EK} {xs ys:List AV} {r:Bool},m<=ks.length->Cb ks xs ys=some r->
 ∃ r1 r2,Cb (ks.take m) (xs.take m) (ys.take m)=some r1/\Cb (ks.drop m) (xs.drop m) (ys.drop m)=some r2/\r=(r1&&r2)
 |0,ks,xs,ys,r,_,h=>⟨true,r,rfl,h,by simp⟩
 |m+1,ks,xs,ys,r,hm,h=>by
   unfold Cb at h;split at h
   ·simp at hm
   ·split at h
    ·rename_i ks' k a xs' k' b ys' hk;cases hr:Cb ks' xs' ys' with
     |none=>rw[hr]at h;cases h
     |some r0=>
       rw[hr]at h;cases h;obtain⟨r1,r2,h1,h2,rfl⟩:=a5s m (by simpa using hm) hr;refine⟨(a==b)&&r1,r2,?_,h2,by simp[Bool.and_assoc]⟩;simp only[e4w];unfold Cb;rw[if_pos hk,h1];rfl
    ·cases h
   ·rename_i ks' a xs' b ys';cases hr:Cb ks' xs' ys' with
    |none=>rw[hr]at h;cases h
    |some r0=>
      rw[hr]at h;cases h;obtain⟨r1,r2,h1,h2,rfl⟩:=a5s m (by simpa using hm) hr;refine⟨(a==b)&&r1,r2,?_,h2,by simp[Bool.and_assoc]⟩;simp only[e4w];unfold Cb;rw[h1];rfl
   ·rename_i ks' a xs' b ys';cases hr:Cb ks' xs' ys' with
    |none=>rw[hr]at h;cases h
    |some r0=>
      rw[hr]at h;cases h;obtain⟨r1,r2,h1,h2,rfl⟩:=a5s m (by simpa using hm) hr;refine⟨(a==b)&&r1,r2,?_,h2,by simp[Bool.and_assoc]⟩;simp only[e4w];unfold Cb;rw[h1];rfl
   ·cases h
theorem RepL.extract{E:Env}{xs:List AV}{vs:Array Value}(h:RepL E xs vs)(off n:Nat):RepL E ((xs.drop off).take n) (vs.extract off (off+n)):=by
 refine⟨by have:=h.1;simp;omega,λi c u hc hu=>?_⟩;have hi:i<n:=by
  rcases e7h i n with h'|h'
  ·exact h'
  ·rw[e4j (by simp;omega)]at hc;cases hc
 rw[e48 hi,e53]at hc;rw[e4f]at hu;split at hu
 ·exact h.2 _ c u hc hu
 ·cases hu
theorem c65{P:Program}{E:Env}(w:World)(D:Nat)(ok:TypeId->List EK->Bool)
 (hok:∀ (t:TypeId) (ks:List EK),ok t ks=true->Nl P t (Ha P t) ks.length=true/\(Ha P t=true\/ks.length=1)/\ ∀ (xs ys:List AV) (vs ws:Array Value) (r:Bool),RepL E xs vs->RepL E ys ws->Cb ks xs ys=some r->(Op.equalIn D t (Nb P t vs) (Nb P t ws)).run P w=.ok r w)
 (xs ys:List AV) (vs ws:Array Value) (hx:RepL E xs vs) (hy:RepL E ys ws) :
 ∀ (fs:List Field) (off:Nat) (ks:List EK) (r:Bool),off<=xs.length->off<=ys.length->Qt.fields ok (λt=>(P.info? t).map (·.size)) fs off ks=true->Cb ks (xs.drop off) (ys.drop off)=some r->
   (Op.eqFields D vs ws fs).run P w=.ok r w
 |[],off,ks,r,_,_,h,he=>by
   simp only[Qt.fields,e5h]at h;subst h;unfold Cb at he;split at he
   ·cases he;rfl
   all_goals first|(rename_i e _ _;cases e;done)|cases he
 |f::fs,off,ks,r,hox,hoy,h,he=>by
   simp only[Qt.fields,e5v,e5h]at h;obtain⟨⟨hname,hoff⟩,h⟩:=h;split at h
   ·rename_i m hm;simp only[e5v,e5h]at h;obtain⟨⟨hle,hokf⟩,hrest⟩:=h;obtain⟨r1,r2,h1,h2,rfl⟩:=a5s m hle he;have hlen:(ks.take m).length=m:=(by simp;omega);obtain⟨hti,hone,heq⟩:=hok f.type _ hokf;rw[hlen]at hti hone;have hl1:=Vi he;have hxin:off+m<=vs.size:=(by have:=hx.1;have:=hl1.1;simp at this;omega);have hyin:off+m<=ws.size:=(by have:=hy.1;have:=hl1.2;simp at this;omega);have hp1:=a8i hti hone w vs off hxin;have hp2:=a8i hti hone w ws off hyin;have he1:=heq _ _ _ _ r1 (hx.extract off m) (hy.extract off m) h1;unfold Op.eqFields;rw[if_pos hname,hoff];simp only[e7i,hp1,hp2,Result.andThen,he1];have ih:=c65 w D ok hok xs ys vs ws hx hy fs (off+m) (ks.drop m) r2 (by have:=hx.1;omega) (by have:=hy.1;omega) hrest (by rw[e6v,e6v]at h2;exact h2);cases r1
    ·simp[e7j]
    ·simp only[e76,e52,if_false,e77];exact ih
   ·cases h
theorem c64{P:Program}{E:Env}(w:World)(D:Nat)(e:TypeId)(sz:Nat)(ok:List EK->Bool)
 (hok:∀ ks:List EK,ok ks=true->Nl P e (Ha P e) ks.length=true/\(Ha P e=true\/ks.length=1)/\ ∀ (xs ys:List AV) (vs ws:Array Value) (r:Bool),RepL E xs vs->RepL E ys ws->Cb ks xs ys=some r->(Op.equalIn D e (Nb P e vs) (Nb P e ws)).run P w=.ok r w)
 (xs ys:List AV) (vs ws:Array Value) (hx:RepL E xs vs) (hy:RepL E ys ws) :
 ∀ (m j:Nat) (ks:List EK) (r:Bool),(∀ l,l<m->ok ((ks.drop (l*sz)).take sz)=true)->ks.length=m*sz->Cb ks (xs.drop (j*sz)) (ys.drop (j*sz))=some r->
   (Op.eqItems D e sz vs ws (List.range' j m)).run P w=.ok r w
 |0,j,ks,r,_,hl,he=>by
   have:ks=[]:=e4a.1 om;subst this;unfold Cb at he;split at he
   ·cases he;rfl
   all_goals first|(rename_i e _ _;cases e;done)|cases he
 |m+1,j,ks,r,hk,hl,he=>by
   have hle:sz<=ks.length:=(by rw[hl,Nat.succ_mul];omega);obtain⟨r1,r2,h1,h2,rfl⟩:=a5s sz hle he;have hlen:(ks.take sz).length=sz:=(by simp;omega);have hk0:=hk 0 om;rw[Nat.zero_mul,e6w]at hk0;obtain⟨hti,hone,heq⟩:=hok _ hk0;rw[hlen]at hti hone;have hl1:=Vi he;have e1:(xs.drop (j*sz)).length=xs.length-j*sz:=(by simp);have e2:(ys.drop (j*sz)).length=ys.length-j*sz:=(by simp);have hxin:j*sz+sz<=vs.size:=by
    have:=hx.1;rcases e56 sz with h|h
    ·subst h;simp
    ·have:=hl1.1;have:=hl1.2;omega
   have hyin:j*sz+sz<=ws.size:=by
    have:=hy.1;rcases e56 sz with h|h
    ·subst h;simp
    ·have:=hl1.1;have:=hl1.2;omega
   have hp1:=a8i hti hone w vs (j*sz) hxin;have hp2:=a8i hti hone w ws (j*sz) hyin;have he1:=heq _ _ _ _ r1 (hx.extract (j*sz) sz) (hy.extract (j*sz) sz) h1;rw[e5z];unfold Op.eqItems;simp only[e7i,hp1,hp2,Result.andThen,he1];have ih:=c64 w D e sz ok hok xs ys vs ws hx hy m (j+1) (ks.drop sz) r2 (λl hl=>by
    have:=hk (l+1) om
    rwa [Nat.succ_mul,Nat.add_comm,<-e6v]at this) (by rw[e60,hl,Nat.succ_mul];omega) (by
    rw[e6v,e6v]at h2;rw[Nat.succ_mul];exact h2)
   cases r1
   ·simp[e7j]
   ·simp only[e76,e52,if_false,e77];exact ih
theorem b1z{P:Program}{E:Env}(w:World):∀ (d:Nat) (t:TypeId) (ks:List EK),Qt P d t ks=true->
 Nl P t (Ha P t) ks.length=true/\(Ha P t=true\/ks.length=1)/\
 ∀ (D:Nat) (xs ys:List AV) (vs ws:Array Value) (r:Bool),d<=D->RepL E xs vs->RepL E ys ws->Cb ks xs ys=some r->(Op.equalIn D t (Nb P t vs) (Nb P t ws)).run P w=.ok r w
 |0,_,_,h=>by simp[Qt]at h
 |d+1,t,ks,h=>by
   unfold Qt at h;rw[e5v]at h;obtain⟨hti,h⟩:=h;refine⟨hti,?_,?_⟩
   ·split at h
    ·simp only[e5h]at h;subst h;exact .inr rfl
    ·simp only[e5h]at h;subst h;exact .inr rfl
    ·simp only[e5h]at h;subst h;exact .inr rfl
    ·rename_i hu;exact .inl (by unfold Ha;rw[hu])
    ·rename_i hu;exact .inl (by unfold Ha;rw[hu])
    ·cases h
   ·intro D xs ys vs ws r hD hx hy he;obtain⟨D,rfl⟩:∃ D',D=D'+1:=⟨D-1,by omega⟩;have one:∀ {x y:AV},xs=[x]->ys=[y]->∃ u v,vs[0]?=some u/\ws[0]?=some v/\Rep E x u/\Rep E y v:=by
     rintro x y rfl rfl;have hv:vs[0]?=some (vs[0]'(by have:=hx.1;simp at this;omega)):=e44 _;have hw:ws[0]?=some (ws[0]'(by have:=hy.1;simp at this;omega)):=e44 _;exact⟨_,_,hv,hw,hx.2 0 x _ rfl hv,hy.2 0 y _ rfl hw⟩
    split at h
    ·rename_i hu;simp only[e5h]at h;subst h;obtain⟨l1,l2⟩:=Vi he;obtain⟨x,rfl⟩:=List.length_eq_one_iff.1 l1;obtain⟨y,rfl⟩:=List.length_eq_one_iff.1 l2;cases x<;>(try (simp[Cb]at he;done));cases y<;>(try (simp[Cb]at he;done));obtain⟨u,v,hv,hw,h1,h2⟩:=one rfl rfl;simp only[Cb,e6h,e5i,e78]at he;subst he;simp only[Nb,Ha,hu,hv,hw,e5u,e52,if_false];rw[Q4 h1,Q4 h2];exact run_equalIn_bool' w D t _ _ hu
    ·rename_i k hu;simp only[e5h]at h;subst h;obtain⟨l1,l2⟩:=Vi he;obtain⟨x,rfl⟩:=List.length_eq_one_iff.1 l1;obtain⟨y,rfl⟩:=List.length_eq_one_iff.1 l2;cases x<;>(try (simp[Cb]at he;done));cases y<;>(try (simp[Cb]at he;done));obtain⟨u,v,hv,hw,h1,h2⟩:=one rfl rfl;simp only[Cb]at he;split at he
     ·rename_i hk;subst hk;simp only[e6h,e5i,e78]at he;subst he;simp only[Nb,Ha,hu,hv,hw,e5u,e52,if_false];rw[Ec h1,Ec h2];exact run_equalIn_int w D t _ _ _ _ hu
     ·cases he
    ·rename_i hu;simp only[e5h]at h;subst h;obtain⟨l1,l2⟩:=Vi he;obtain⟨x,rfl⟩:=List.length_eq_one_iff.1 l1;obtain⟨y,rfl⟩:=List.length_eq_one_iff.1 l2;cases x<;>(try (simp[Cb]at he;done));cases y<;>(try (simp[Cb]at he;done));obtain⟨u,v,hv,hw,h1,h2⟩:=one rfl rfl;simp only[Cb,e6h,e5i,e78]at he;subst he;simp only[Nb,Ha,hu,hv,hw,e5u,e52,if_false];rw[Jh h1,Jh h2,run_equalIn_string w D t _ _ hu,au3,au3]
    ·rename_i fs hu;rw[e5v]at h;have hfo:P.underlying t=some (.struct (P.fieldsOf t)):=(by unfold Program.fieldsOf;rw[hu]);have hfs:P.fieldsOf t=fs:=(by rw[hu]at hfo;cases hfo;rfl);simp only[Nb,Ha,hu,if_true];rw[run_equalIn_struct w D t vs ws hfo (by simpa using h.1),hfs];refine c65 w D (Qt P d) (λt' ks' h'=>?_) xs ys vs ws hx hy fs.toList 0 ks r (e7w _) (e7w _) h.2 (by simpa using he);obtain⟨h1,h2,h3⟩:=b1z w d t' ks' h';exact⟨h1,h2,λxs ys vs ws r=>h3 D xs ys vs ws r om⟩
    ·rename_i n e hu;split at h
     ·rename_i i hi;rw[e5v,e5h,e5x]at h;have hce:P.cellsOf e=i.size:=(by unfold Program.cellsOf;rw[hi];rfl);simp only[Nb,Ha,hu,if_true];rw[run_equalIn_array w D vs ws hu hi,List.range_eq_range',hce];refine c64 w D e i.size (Qt P d e) (λks' h'=>?_) xs ys vs ws hx hy n 0 ks r (λl hl=>h.2 l (e6x.2 hl)) h.1 (by simpa using he);obtain⟨h1,h2,h3⟩:=b1z w d e ks' h';exact⟨h1,h2,λxs ys vs ws r=>h3 D xs ys vs ws r om⟩
     ·cases h
    ·cases h
theorem d4x{P:Program}{neg:Bool}{ks:List EK}{x y:Opd}{o:Op}(hf:Ap P (.eqs neg ks x y) o=true):Eg P o (.eqs neg ks x y):=by
 intro E w H fr a v oper ho hs hr hv;cases o<;>simp only[Ap,e5v,e52,e5h]at hf;rename_i op' t x' y' t';obtain⟨⟨⟨⟨⟨rfl,ht⟩,hty⟩,hg⟩,h1⟩,h2⟩:=hf;have hx:=Bd hr h1;have hy:=Bd hr h2;simp only[Ar]at hv;split at hv
 ·rename_i xs ys e1 e2;rw[e1]at hx;rw[e2]at hy;cases he:Cb ks xs ys with
  |none=>rw[he]at hv;cases hv
  |some r=>
    rw[he]at hv;cases hv;obtain⟨vs,hvx,lx,ix⟩:=a01 hx;obtain⟨ws,hvy,ly,iy⟩:=a01 hy;have heq:=(b1z (E:=E) w 20 t ks hty).2.2 10000 xs ys vs ws r om ⟨lx,ix⟩ ⟨ly,iy⟩ he;simp only[Nb,ht,if_true]at heq;refine⟨.bool (r != neg),?_,.pure (x:=.bool _) (.bool _)⟩;simp only[execOp,ho,hvx,hvy];apply Dn;simp only[e7i,run_eqGuard_agg w _ t x' y' vs ws (by simpa using hg),Result.andThen];have heq':(Op.equal t (.agg vs) (.agg ws)).run P w=.ok r w:=heq;cases neg<;>simp only[binOp,if_true,if_false,e52,e7i,heq',Result.andThen]<;>cases r<;>rfl
 ·cases hv
theorem b46:∀ (vs:List Value) (k off:Nat) (cs:Array Value),((vs.zipIdx k).foldl (λ(cs:Array Value) (x:Value×Nat)=>cs.setIfInBounds (off+x.2) x.1) cs)=splice cs (off+k) vs
 |[],_,_,_=>rfl
 |v::vs,k,off,cs=>by
   rw[List.zipIdx_cons,e6j,b46 vs (k+1) off,splice];rfl
theorem a9i(e:List AV)(j:Nat)(cs:List AV)(h:j+cs.length<=e.length):(lay e j cs).length=e.length:=by
 unfold lay;simp;omega
theorem bw2(e:List AV)(j:Nat)(cs:List AV)(h:j+cs.length<=e.length)(m:Nat) :
 (lay e j cs)[m]?=if j<=m/\m<j+cs.length then cs[m-j]? else e[m]?:=by
 unfold lay;rw[List.getElem?_append,List.getElem?_append];have h1:(e.take j).length=j:=by simp;omega
 have h2:(e.take j++cs).length=j+cs.length:=by simp;omega
 rw[h1,h2];by_cases c1:m<j
 ·rw[if_pos om,if_pos c1,if_neg om,e48 c1]
 ·by_cases c2:m<j+cs.length
  ·rw[if_pos c2,if_neg c1,if_pos ⟨by omega,c2⟩]
  ·rw[if_neg c2,if_neg om,e53];congr 1;omega
theorem RepL.splice{E:Env}{xs:List AV}{vs:Array Value}(h:RepL E xs vs){cs:List AV}{us:Array Value}(hc:RepL E cs us)(off:Nat)(hin:off+cs.length<=xs.length) :
 RepL E (lay xs off cs) (Abs.splice vs off us.toList):=by
 have h1:=h.1;have h2:=hc.1;refine⟨by rw[a9i _ _ _ hin,Uk];exact h1,λi c u hi hu=>?_⟩;rw[bw2 _ _ _ hin]at hi;rw[a3a _ _ _ _ (by simp;omega)]at hu;by_cases c1:off<=i/\i<off+cs.length
 ·rw[if_pos c1]at hi;rw[if_pos ⟨c1.1,by simp;omega⟩]at hu;exact hc.2 _ c u hi (by simpa using hu)
 ·rw[if_neg c1]at hi;rw[if_neg (by simp;omega)]at hu;exact h.2 i c u hi hu
theorem a5j{P:Program}{E:Env}{fr:List AV}{a:Act}(hr:RepL E fr a.tmps)(place:Nat->Option (Nat×Nat)):∀ (parts:List (Nat×Nat×Opd)) (ps:List (Nat×Operand)) (cells:List AV) (vs:Array Value) (cells':List AV),
 Ap.fitParts place parts ps=true->RepL E cells vs->Ch (evalA fr) cells parts=some cells' ->
 ∃ vs',Instr.fill place vs (ps.map λx=>(x.1,a.eval x.2))=some vs'/\RepL E cells' vs'
 |[],ps,cells,vs,cells',hf,h,he=>by
   cases ps with
   |cons p ps=>simp[Ap.fitParts]at hf
   |nil=>simp only[Ch,e5i]at he;subst he;exact⟨vs,rfl,h⟩
 |(off,size,x)::parts,ps,cells,vs,cells',hf,h,he=>by
   cases ps with
   |nil=>simp[Ap.fitParts]at hf
   |cons p ps=>
     obtain⟨i,y⟩:=p;simp only[Ap.fitParts,e5v,e5h]at hf;obtain⟨⟨hp,hxy⟩,hrest⟩:=hf;have hx:=Bd hr hxy;unfold Ch at he;split at he
     ·rename_i cs hcs;split at he
      ·rename_i hle;have hc:=a63 hx hcs
       have:=h.splice hc off om;obtain⟨vs',h1,h2⟩:=a5j (P:=P) hr place parts ps _ _ cells' hrest this he;refine⟨vs',?_,h2⟩;simp only[e75,Instr.fill,hp];have hl1:=hc.1;have hl2:=h.1;rw[if_neg (by simp;omega)];have e:=b46 (a.eval y).cells.toList 0 off vs;rw[e7l]at e;have e2:((a.eval y).cells.zipIdx.foldl (λcs x=>cs.setIfInBounds (off+x.2) x.1) vs)=splice vs off (a.eval y).cells.toList:=by
        rw[<-e,<-Array.foldl_toList,Array.toList_zipIdx]
       first
        |(rw[e2];exact h1)
        |(simp only[e2];exact h1)
        |(refine Eq.trans ?_ h1;congr 1)
      ·cases he
     ·cases he
theorem bo9{α β:Type}(f:α->Option β)(g:α->β):∀ (l:List α),(∀ x∈l,f x=some (g x))->l.mapM f=some (l.map g)
 |[],_=>by simp
 |x::l,h=>by
   simp[List.mapM_cons,h x (by simp),bo9 f g l (λy hy=>h y (by simp[hy]))]
theorem d57{P:Program}{zero:List AV}{parts:List (Nat×Nat×Opd)}{o:Op}(hf:Ap P (.build zero parts) o=true):Eg P o (.build zero parts):=by
 intro E w H fr a v oper ho hs hr hv;cases o<;>simp only[Ap,e5v,e52]at hf;rename_i t ps;obtain⟨hz,hp⟩:=hf;obtain⟨it,z,hit,hzz,hzc⟩:∃ it z,P.info? t=some it/\it.zero=some z/\repCs zero z.cells.toList=true:=by
  split at hz
  ·split at hz
   ·exact⟨_,_,by assumption,by assumption,hz⟩
   ·cases hz
  ·cases hz
 have hzr:RepL E zero z.cells:=by have:=Q5 (E:=E) hzc;simpa using this
 simp only[Ar]at hv;cases hfill:Ch (evalA fr) zero parts with
 |none=>rw[hfill]at hv;cases hv
 |some cells=>
   rw[hfill]at hv;cases hv;have key:∃ vs',P.built t (ps.map λ(i,x)=>(i,a.eval x)).toList=some vs'/\RepL E cells vs':=by
    unfold Program.built;have e0:(ps.map λ(i,x)=>(i,a.eval x)).toList=ps.toList.map λx=>(x.1,a.eval x.2):=(by simp);rw[e0];split at hp
    ·rename_i fs hu;rw[e5v]at hp;obtain⟨hall,hfit⟩:=hp;obtain⟨vs',h1,h2⟩:=a5j (P:=P) hr _ parts ps.toList zero z.cells cells hfit hzr hfill;refine⟨vs',?_,h2⟩;have hm:=bo9 (λf:Field=>(P.info? f.type).map λi=>(f.offset,i.size)) (λf=>(f.offset,P.cellsOf f.type)) fs.toList (λf hfm=>by
      have:=e5x.1 hall f hfm;obtain⟨i,hi⟩:=Option.isSome_iff_exists.1 this;simp[hi,Program.cellsOf])
     simp only[hit,hu,hzz,hm];rw[<-h1]
     congr 1
     funext i;rw[e4k,e5j];cases hfi:fs[i]? with
     |none=>have:fs.toList[i]?=none:=by simpa using hfi
            rw[this];rfl
     |some f=>
       have hfi':fs.toList[i]?=some f:=(by simpa using hfi);rw[hfi']
       have:=e5x.1 hall f (e4q hfi');obtain⟨i',hi'⟩:=Option.isSome_iff_exists.1 this;simp[hi',Program.cellsOf]
    ·rename_i n e hu;split at hp
     ·rename_i ie hie;obtain⟨vs',h1,h2⟩:=a5j (P:=P) hr _ parts ps.toList zero z.cells cells hp hzr hfill;exact⟨vs',by simp only[hit,hu,hzz,hie];exact h1,h2⟩
     ·cases hp
    ·cases hp
   obtain⟨vs',h1,h2⟩:=key;refine⟨.agg vs',?_,.agg _ _ h2.1 h2.2⟩;simp only[execOp,ho];apply Dn;exact run_build w t _ vs' h1
theorem bq2{P:Program}{ao:AOp}{o:Op}(hf:Ap P ao o=true):Eg P o ao:=by
 cases ao
 case mv=>exact d4k hf
 case pick=>exact d4h hf
 case build=>exact d57 hf
 case load agg n x=>cases o<;>first|exact d4o hf|(simp only[Ap,e52]at hf;done)
 case nilchk=>exact d4j hf
 case bini=>exact d5d hf
 case bins=>exact d5c hf
 case eqb=>exact d4y hf
 case eqs=>exact d4x hf
 case un=>exact d4a hf
 case convi=>exact d53 hf
 case convbs=>exact d54 hf
 case convss=>exact d50 hf
 case slices=>exact d4e hf
 case slicel=>exact d4f hf
 case slicez=>exact d4d hf
 case slice3=>exact d4g hf
 case faddr=>exact d4v hf
 case field=>exact d4u hf
 case iaddr=>exact d4t hf
 case iaddra=>exact d4s hf
 case indexs=>exact d4q hf
 case indexa=>exact d4r hf
 case cap=>exact d56 hf
 case ext=>exact d4w hf
 case len=>exact d4p hf
 case min2 x y=>exact bq1 (isMax:=false) hf
 case max2 x y=>exact bq1 (isMax:=true) hf
 case mkfn=>exact d4n hf
 all_goals (cases o<;>simp only[Ap,e52]at hf)
def chunks{α:Type}(sz:Nat):Nat->List α->List (List α)
 |0,_=>[]
 |n+1,l=>l.take sz::chunks sz n (l.drop sz)
def D4(H:AH):AV->Option (List (List AV))
 |.str s=>some (s.map λb=>[.int .u8 b.toNat])
 |x=>G5 H x
def Cc(op:AOp)(ev:Opd->AV)(H:AH):Option (AV×AH):=
 match op with
 |.alloc cs=>if cs.length≠0 then some (.ptr H.length 0 0 1,H++[some [cs]])else none
 |.box x=>
   match cellsOf (ev x)with
   |some cs=>if cs.length≠0/\cs.all cellA=true then some (.ptr H.length 0 0 1,H++[some [cs]])else none
   |none=>none
 |.bslice sz len zero parts=>
   match Ch ev (List.replicate len zero).flatten (parts.map λx=>(x.1*sz,sz,x.2))with
   |some cells=>if cells.all cellA=true then some (.own H.length sz 0 len len,H++[some (chunks sz len cells)])else none
   |none=>none
 |.store n p x=>
   match ev p,cellsOf (ev x)with
   |.ptr r i j tot,some cs=>
     match Am H r tot with
     |some o=>
       match o[i]? with
       |some e=>if cs.length=n/\j+n<=e.length/\cs.all cellA=true then some (.top,H.set r (some (o.set i (lay e j cs))))else none
       |none=>none
     |none=>none
   |_,_=>none
 |.convsb x=>
   match ev x with
   |.str s=>some (.own H.length 1 0 s.length s.length,H++[some (s.map λb=>[.int .u8 b.toNat])])
   |_=>none
 |.mksl sz bytes zero len cap=>
   match ev len,ev cap with
   |.int _ l,.int _ c=>
     if 0<=l/\l<=c/\c<=1000000000/\bytes<=10000 then some (.own H.length sz 0 l.toNat l.toNat,H++[some (List.replicate l.toNat zero)])else none
   |_,_=>none
 |.append sz bytes zero x y=>
   match ev x,D4 H (ev y)with
   |.emp,some news=>if news.length*bytes<=1000000000000/\news.length<=1000000000/\news.all (λe=>decide (e.length=sz))=true then some (.own H.length sz 0 news.length news.length,H++[some news])else none
   |.own r sz' off len tot,some news=>
     match Am H r tot with
     |some o=>
       if news.all (λe=>decide (e.length=sz))=false\/sz'≠sz then none
       else if off=0/\len=tot then
        if(tot+news.length)*bytes<=1000000000000/\tot+news.length<=1000000000 then some (.own r sz 0 (tot+news.length) (tot+news.length),H.set r (some (o++news)))else none
       else if off+len+news.length<=tot then
        some (.own r sz off (len+news.length) tot,H.set r (some (o.take (off+len)++news++o.drop (off+len+news.length))))
       else none
     |none=>none
   |_,_=>none
 |.copy sz x y=>
   match ev x,D4 H (ev y)with
   |.own r sz' off len tot,some src=>
     match Am H r tot with
     |some o=>
       if off+len<=tot/\src.all (λe=>decide (e.length=sz))=true/\sz'=sz then
        some (.int .i64 (min src.length len:Nat),H.set r (some (o.take off++src.take (min src.length len)++o.drop (off+min src.length len))))
       else none
     |none=>none
   |.emp,some _=>some (.int .i64 0,H)
   |_,_=>none
 |.clear sz zero x=>
   match ev x with
   |.own r sz' off len tot=>
     match Am H r tot with
     |some o=>if off+len<=tot/\sz'=sz then some (.tuple [],H.set r (some (o.take off++List.replicate len zero++o.drop (off+len))))else none
     |none=>none
   |.emp=>some (.tuple [],H)
   |.fz []=>some (.tuple [],H)
   |_=>none
 |_=>none
def Vk(P:Program)(e:TypeId)(sz bytes:Nat)(zero:List AV):Bool:=
 match P.info? e with
 |some i=>decide (i.size=sz)&&decide (i.bytes=bytes)&&decide (0<sz)&&decide (zero.length=sz)&&zero.all cellA &&
   (match i.zero with|some z=>repCs zero z.cells.toList|none=>false)
 |none=>false
def Bu(P:Program)(op:AOp)(o:Op):Bool:=
 match op,o with
 |.alloc cs,.alloc t=>
   (match P.info? t with
    |some i=>match i.zero with
      |some z=>repCs cs z.cells.toList&&cs.all cellA
      |none=>false
    |none=>false)
 |.box x,.box _ y=>Be x y
 |.bslice sz len zero parts,.buildSlice t n ps=>
   decide (n=len)&&decide (len*sz<=16777216) &&
   (match P.underlying t with
    |some (.slice e)=>(match P.info? e with|some i=>Vk P e sz i.bytes zero|none=>false)
    |_=>false)&&Ap.fitParts (λi=>some (i*sz,sz)) (parts.map λx=>(x.1*sz,sz,x.2)) ps.toList
 |.store n p x,.store t p' x'=>(match P.info? t with|some i=>decide (i.size=n)|none=>false)&&Be p p'&&Be x x'
 |.convsb x,.convert s t y=>
   (match P.underlying s with|some .string=>true|_=>false) &&
   (match P.underlying t with|some (.slice e)=>(match P.underlying e with|some (.int .u8)=>true|_=>false)|_=>false)&&Be x y
 |.mksl sz bytes zero len cap,.makeSlice t l c=>
   (match P.underlying t with|some (.slice e)=>Vk P e sz bytes zero|_=>false)&&Be len l&&Be cap c
 |.append sz bytes zero x y,.call { callee:=.builtin .append,args:=args,argTypes:=ts }=>
   (match args.toList,ts.toList with
    |[x',y'],[t,u]=>(match P.underlying t with|some (.slice e)=>Vk P e sz bytes zero|_=>false)&&(match P.underlying u with|some (.int _)=>false|none=>false|some _=>true)&&Be x x'&&Be y y'
    |_,_=>false)
 |.copy sz x y,.call { callee:=.builtin .copy,args:=args,argTypes:=ts }=>
   (match args.toList,ts.toList with
    |[x',y'],t::_=>(match P.underlying t with|some (.slice e)=>(match P.info? e with|some i=>decide (i.size=sz)|none=>false)|_=>false)&&Be x x'&&Be y y'
    |_,_=>false)
 |.clear sz zero x,.call { callee:=.builtin .clear,args:=args,argTypes:=ts }=>
   (match args.toList,ts.toList with
    |[x'],[t]=>(match P.underlying t with|some (.slice e)=>(match P.info? e with|some i=>Vk P e sz i.bytes zero|none=>false)|_=>false)&&Be x x'
    |_,_=>false)
 |_,_=>false
def Sf(P:Program)(o:Op)(ao:AOp):Prop:=
 ∀ (E:Env) (w:World) (H:AH) (fr:List AV) (a:Act) (v:AV) (H':AH) (oper:Oper),oper.op=o->Sim E w H->RepL E fr a.tmps->Cc ao (evalA fr) H=some (v,H')->
   ∃ u w' E',((execOp a.eval oper).run P w=.ok (.value u) w'\/((execOp a.eval oper).run P w=.ok .skip w'/\u=undef))/\Le E E'/\Sim E' w' H'/\Rep E' v u
theorem Ce.of{E:Env}{sz:Nat}{xs:List AV}{cells:Array Value}(h:RepL E xs cells)(hl:xs.length=sz):Ce E sz cells [xs]:=by
 intro i e k c u hi hk hu
 match i,hi with
 |0,hi=>simp at hi;subst hi;exact h.2 k c u hk (by simpa using hu)
 |i+1,hi=>simp at hi
theorem Sx{E:Env}{xs:List AV}{cells:Array Value}(h:RepL E xs cells)(hc:xs.all cellA=true):∀ (i:Nat) v,cells[i]?=some v->v.oneCell'=true:=by
 intro i v hv;have hi:i<xs.length:=by
  rw[h.1];rcases e7h i cells.size with h'|h'
  ·exact h'
  ·rw[e4e h']at hv;cases hv
 have hx:=e47 hi;exact c8m (h.2 i _ v hx hv) (e5x.1 hc _ (e4q hx))
theorem d5h{P:Program}{cs:List AV}{o:Op}(hf:Bu P (.alloc cs) o=true):Sf P o (.alloc cs):=by
 intro E w H fr a v H' oper ho hs hr hv;cases o<;>simp only[Bu,e52]at hf;rename_i t;obtain⟨it,z,hit,hz,hzc⟩:∃ it z,P.info? t=some it/\it.zero=some z/\(repCs cs z.cells.toList&&cs.all cellA)=true:=by
  split at hf
  ·split at hf
   ·exact⟨_,_,by assumption,by assumption,hf⟩
   ·cases hf
  ·cases hf
 rw[e5v]at hzc;have hzr:RepL E cs z.cells:=by have:=Q5 (E:=E) hzc.1;simpa using this
 simp only[Cc]at hv;split at hv
 ·rename_i hne;cases hv;have hl:=hzr.1;obtain⟨hle,hsim⟩:=hs.new [cs] cs.length z.cells t (0,0) om (.inl rfl) (by simp) (by simp;omega) (Sx hzr hzc.2) (Ce.of hzr rfl);refine⟨.pointer (some ⟨w.heap.size,0,none⟩),_,_,.inl ?_,hle,hsim,?_⟩
  ·simp only[execOp,ho];apply Dn;simp only[Instr.alloc,zeroValue,typeInfo,e7i,hit,hz,Result.andThen,e7j,newVar,newRow,program,Sem.run,newObj];rfl
  ·have:=Rep.ptr (E:=E.with H.length ⟨w.heap.size,cs.length,z.cells.size,[cs].length⟩) H.length 0 0 1 _ (Env.with_same _ _ _) rfl;simpa using this
 ·cases hv
theorem d5b{P:Program}{x:Opd}{o:Op}(hf:Bu P (.box x) o=true):Sf P o (.box x):=by
 intro E w H fr a v H' oper ho hs hr hv;cases o<;>simp only[Bu,e52]at hf;rename_i t y;have hx:=Bd hr hf;simp only[Cc]at hv;split at hv
 ·rename_i cs hcs;have hc:=a63 hx hcs;split at hv
  ·rename_i hne;cases hv;have hl:=hc.1;obtain⟨hle,hsim⟩:=hs.new [cs] cs.length (a.eval y).cells t (0,0) om (.inl rfl) (by simp) (by simp;omega) (Sx hc hne.2) (Ce.of hc rfl);refine⟨.pointer (some ⟨w.heap.size,0,none⟩),_,_,.inl ?_,hle,hsim,?_⟩
   ·simp only[execOp,ho];apply Dn;simp only[Instr.box,e7i,Result.andThen,e7j,newVar,newRow,Sem.run,newObj];rfl
   ·have:=Rep.ptr (E:=E.with H.length ⟨w.heap.size,cs.length,(a.eval y).cells.size,[cs].length⟩) H.length 0 0 1 _ (Env.with_same _ _ _) rfl;simpa using this
  ·cases hv
 ·cases hv
theorem Vp{α:Type}(sz:Nat):∀ (n:Nat) (l:List α),(chunks sz n l).length=n
 |0,_=>rfl
 |n+1,l=>by simp[chunks,Vp sz n]
theorem am9{α:Type}(sz:Nat):∀ (n:Nat) (l:List α) (i:Nat),i<n->(chunks sz n l)[i]?=some ((l.drop (i*sz)).take sz)
 |0,_,_,h=>by omega
 |n+1,l,0,_=>by simp[chunks]
 |n+1,l,i+1,h=>by
   rw[chunks,e4b,am9 sz n _ i om,e6v]
   congr 3
   rw[e7x];omega
theorem Ce.chunks{E:Env}{sz n:Nat}{xs:List AV}{cells:Array Value}(h:RepL E xs cells):Ce E sz cells (chunks sz n xs):=by
 intro i e k c u hi hk hu;have hin:i<n:=by
  rcases e7h i n with h'|h'
  ·exact h'
  ·rw[e4j (by rw[Vp];exact h')]at hi;cases hi
 rw[am9 sz n xs i hin]at hi;cases hi;have hks:k<sz:=by
  rcases e7h k sz with h'|h'
  ·exact h'
  ·rw[e4j (by simp;omega)]at hk;cases hk
 rw[e48 hks,e53]at hk;exact h.2 _ c u hk hu
theorem b1u:∀ {ev:Opd->AV} (parts:List (Nat×Nat×Opd)) {cells cells':List AV},Ch ev cells parts=some cells'->cells'.length=cells.length
 |_,[],_,_,h=>by simp only[Ch,e5i]at h;rw[h]
 |ev,(off,size,x)::parts,cells,cells',h=>by
   unfold Ch at h;split at h
   ·split at h
    ·rename_i hle;rw[b1u parts h,a9i _ _ _ om]
    ·cases h
   ·cases h
theorem a2t{E:Env}{zero:List AV}{z:Array Value}(h:RepL E zero z)(n:Nat):RepL E (List.replicate n zero).flatten ((Array.range (n*z.size)).map (z[· % z.size]!)):=by
 have hl:=h.1;refine⟨by simp[hl],λi c u hc hu=>?_⟩;have hi:i<n*z.size:=by
  rcases e7h i (n*z.size)with h'|h'
  ·exact h'
  ·rw[e4e (by simpa using h')]at hu;cases hu
 have hpos:0<z.size:=by
  rcases e56 z.size with h0|h0
  ·rw[h0]at hi;simp at hi
  ·exact h0
 have hml:i%z.size<z.size:=Nat.mod_lt i hpos;have hu':z[i%z.size]?=some u:=by
  rw[e57,Array.getElem?_range,if_pos hi]at hu;simp only[e6h,e5i]at hu;rw[<-hu,getElem!_pos z (i%z.size) hml];exact e44 hml
 have hc':zero[i%z.size]?=some c:=by
  rw[<-hc];clear hc hu hu'
  induction n generalizing i with
  |zero=>simp at hi
  |succ n ih=>
    rw[e4x,e5l,List.getElem?_append];by_cases c1:i<zero.length
    ·rw[if_pos c1,Nat.mod_eq_of_lt om]
    ·rw[if_neg c1]
     have:=ih (i:=i-zero.length) (by rw[e7x]at hi;omega) (Nat.mod_lt _ hpos);rw[<-this]
     congr 1
     rw[hl,Nat.mod_eq_sub_mod om]
 exact h.2 _ c u hc' hu'
theorem d59{P:Program}{sz len:Nat}{zero:List AV}{parts:List (Nat×Opd)}{o:Op}(hf:Bu P (.bslice sz len zero parts) o=true):Sf P o (.bslice sz len zero parts):=by
 intro E w H fr a v H' oper ho hs hr hv;cases o<;>simp only[Bu,e52,e5v,e5h]at hf;rename_i t n ps;obtain⟨⟨⟨rfl,hsmall⟩,ht⟩,hp⟩:=hf;obtain⟨e,i,z,hu,hi,hsz,hpos,hzl,hzA,hz,hzc⟩:∃ e i z,P.underlying t=some (.slice e)/\P.info? e=some i/\i.size=sz/\0<sz/\zero.length=sz/\zero.all cellA=true/\i.zero=some z/\repCs zero z.cells.toList=true:=by
  split at ht
  ·rename_i e hu;split at ht
   ·rename_i i hi;unfold Vk at ht;simp only[hi,e5v,e5h]at ht;obtain⟨⟨⟨⟨⟨h1,_⟩,h2⟩,h3⟩,h4⟩,h5⟩:=ht;split at h5
    ·exact⟨e,i,_,hu,hi,h1,h2,h3,h4,by assumption,h5⟩
    ·cases h5
   ·cases ht
  ·cases ht
 have hzr:RepL E zero z.cells:=by have:=Q5 (E:=E) hzc;simpa using this
 simp only[Cc]at hv;split at hv
 ·rename_i cells hcells;split at hv
  ·rename_i hall;cases hv;have hzcells:=a2t hzr n;have hzs:z.cells.size=sz:=(by rw[<-hzr.1,hzl]);rw[hzs]at hzcells;obtain⟨vs',h1,h2⟩:=a5j (P:=P) hr (λi=>some (i*sz,sz)) _ ps.toList _ _ cells hp hzcells hcells;have hlen:cells.length=n*sz:=(by rw[b1u _ hcells];simp[hzl]);obtain⟨hle,hsim⟩:=hs.new (chunks sz n cells) sz vs' e (0,0) hpos (.inl rfl) (by
    intro e' he';obtain⟨i',hi'⟩:=e4l.1 he';have hin:i'<n:=by
     rcases e7h i' n with h'|h'
     ·exact h'
     ·rw[e4j (by rw[Vp];exact h')]at hi';cases hi'
    rw[am9 _ _ _ _ hin]at hi';cases hi';have:(i'+1)*sz<=n*sz:=e4r _ hin;rw[e7x]at this;simp;omega) (by rw[Vp];have:=h2.1;omega) (Sx h2 hall) (Ce.chunks h2)
   refine⟨.slice (some ⟨w.heap.size,0,none⟩) n n,_,_,.inl ?_,hle,hsim,?_⟩
   ·simp only[execOp,ho];apply Dn;have e1:(ps.map λ(i,x)=>(i,a.eval x)).toList=ps.toList.map λx=>(x.1,a.eval x.2):=(by simp);simp only[Instr.buildSlice,e7i,e6u hu,Result.andThen,Fb hi,hsz];rw[if_neg om];by_cases h0:n*sz=0
    ·have hn:n=0:=by
      rcases Nat.mul_eq_zero.1 h0 with h|h
      ·exact h
      ·omega
     subst hn;simp only[Nat.zero_mul,if_true,e7j,e7i,Result.andThen];simp only[Nat.zero_mul]at h1;rw[e1];have e2:∀ f g:Nat->Value,(Array.range 0).map f=(Array.range 0).map g:=λf g=>(by simp);rw[e2 _ (λx=>z.cells[x%sz]!)];simp only[h1];simp only[newRow,newObj,e7i,Sem.run,Result.andThen,e7j];rfl
    ·simp only[if_neg h0,zeroValue,typeInfo,e7i,hi,hz,Result.andThen,e7j,program,Sem.run,hzs];rw[e1];simp only[h1];simp only[newRow,newObj,e7i,Sem.run,Result.andThen,e7j];rfl
   ·have:=Rep.own (E:=E.with H.length ⟨w.heap.size,sz,vs'.size,(chunks sz n cells).length⟩) H.length sz 0 n n n _ (Env.with_same _ _ _) (Vp _ _ _) rfl om (e7y _) om (by have:=h2.1;simp;omega);simpa using this
  ·cases hv
 ·cases hv
theorem bb8{P:Program}{t:TypeId}{i:TypeInfo}(hi:P.info? t=some i){w:World}{b off:Nat}{cells:Array Value}{te:TypeId}{q:Nat×Nat}
 (hb:w.heap[b]?=some (.cells cells te q)) (hq:q=(0,0)\/cells.size<=q.1) (hin:off+i.size<=cells.size) (v:Value) (hv:v.cells.size=i.size) (h1:∀ u∈v.cells.toList,u.oneCell'=true) :
 (storeVar t ⟨b,off,none⟩ v).run P w=.ok () (Fe w b (.cells (splice cells off v.cells.toList) te q)):=by
 unfold storeVar;simp only[e7i,Fb hi,Result.andThen,hv,ne_eq,e5k,if_false]
 have:=a3f P b te q off v.cells.toList 0 cells w hb hq (by simp;omega) h1;simpa [Sem.run,pure,e7j]using this
theorem a9b{E:Env}{xs:List AV}{cells:Array Value}(h:RepL E xs cells)(hc:xs.all cellA=true):∀ u∈cells.toList,u.oneCell'=true:=by
 intro u hu;obtain⟨i,hi⟩:=e4l.1 hu;exact Sx h hc i u (by simpa using hi)
theorem Zr{cells:Array Value}(h:∀ (i:Nat) v,cells[i]?=some v->v.oneCell'=true)(k:Nat)(us:List Value)(hu:∀ u∈us,u.oneCell'=true)(hin:k+us.length<=cells.size) :
 ∀ (i:Nat) v,(splice cells k us)[i]?=some v->v.oneCell'=true:=by
 intro i v hv;rw[a3a _ _ _ _ hin]at hv;split at hv
 ·exact hu v (e4q hv)
 ·exact h i v hv
theorem L7{i j sz:Nat}(h:i<j):i*sz+sz<=j*sz:=by
 have:(i+1)*sz<=j*sz:=e4r _ h
 rwa [e7x,Nat.one_mul]at this
theorem Ce.lay{E:Env}{sz:Nat}{cells:Array Value}{o:AObj}(h:Ce E sz cells o)(hsz:∀ e∈o,e.length=sz)(hfit:o.length*sz<=cells.size){i:Nat}{e:List AV}(he:o[i]?=some e)
 {cs:List AV} {us:Array Value} (hc:RepL E cs us) (j:Nat) (hj:j+cs.length<=sz):Ce E sz (splice cells (i*sz+j) us.toList) (o.set i (Abs.lay e j cs)):=by
 have hil:i<o.length:=by
  rcases e7h i o.length with h'|h'
  ·exact h'
  ·rw[e4j h']at he;cases he
 have hel:=hsz e (e4q he);have hus:=hc.1;have h3:=L7 (sz:=sz) hil;intro i' e' k c u hi' hk hu;rw[a3a _ _ _ _ (by simp;omega)]at hu;rw[e5g]at hi';by_cases hii:i=i'
 ·subst hii;rw[if_pos rfl,if_pos hil]at hi';cases hi';rw[bw2 _ _ _ om]at hk;by_cases c1:j<=k/\k<j+cs.length
  ·rw[if_pos c1]at hk;rw[if_pos ⟨by omega,by simp;omega⟩]at hu;refine hc.2 _ c u hk ?_;rw[<-hu,e4m];congr 1;omega
  ·rw[if_neg c1]at hk;rw[if_neg (by simp;omega)]at hu;exact h i e k c u he hk hu
 ·rw[if_neg hii]at hi';have hkl:k<sz:=by
   rcases e7h k e'.length with h'|h'
   ·rw[hsz e' (e4q hi')]at h';exact h'
   ·rw[e4j h']at hk;cases hk
  rw[if_neg (by
   rintro⟨c1,c2⟩;simp at c2;rcases Nat.lt_or_gt_of_ne hii with c3|c3
   ·have:=L7 (sz:=sz) c3;omega
   ·have:=L7 (sz:=sz) c3;omega)]at hu
  exact h i' e' k c u hi' hk hu
theorem d4c{P:Program}{n:Nat}{p x:Opd}{o:Op}(hf:Bu P (.store n p x) o=true):Sf P o (.store n p x):=by
 intro E w H fr a v H' oper ho hs hr hv;cases o<;>simp only[Bu,e52,e5v]at hf;rename_i t p' x';obtain⟨⟨ht,h1⟩,h2⟩:=hf;have hp:=Bd hr h1;have hx:=Bd hr h2;obtain⟨it,hit,hn⟩:∃ i,P.info? t=some i/\i.size=n:=by
  split at ht
  ·exact⟨_,by assumption,by simpa using ht⟩
  ·cases ht
 simp only[Cc]at hv;split at hv
 ·rename_i r i j tot cs e1 hcs;rw[e1]at hp;split at hv
  ·rename_i o hl;obtain⟨hat,hlen,htt⟩:=G1 hs hl;split at hv
   ·rename_i e he;split at hv
    ·rename_i hok;obtain⟨hcl,hjn,hall⟩:=hok;cases hv;obtain⟨y,hy,hpv⟩:=X6 hp htt;have hlies:=Fq hs hat hy;obtain⟨cells,te,q,hb,hcn,hq,hone,hrow⟩:=hlies.blk;have hc:=a63 hx hcs;have hil:i<o.length:=by
      rcases e7h i o.length with h'|h'
      ·exact h'
      ·rw[e4j h']at he;cases he
     have hel:=hlies.sz e (e4q he);have h3:=L7 (sz:=y.sz) hil;have hfit:=hlies.fits;have hcl':=hc.1;have hrun:=bb8 (P:=P) hit (w:=w) (off:=i*y.sz+j) hb (by rw[hcn];exact hq) (by rw[hn,hcn];omega) (a.eval x') (by rw[hn];omega) (a9b hc hall);obtain⟨hle,hsim⟩:=hs.write hat hy (o':=o.set i (lay e j cs)) (splice cells (i*y.sz+j) (a.eval x').cells.toList) te q (by rw[Uk];exact hcn) hq (by simp)
      (by
       intro e' he';rcases List.mem_or_eq_of_mem_set he' with h'|h'
       ·exact hlies.sz e' h'
       ·rw[h',a9i _ _ _ om];exact hel)
      (by simpa using hfit) (Zr hone _ _ (a9b hc hall) (by simp;omega)) (Ce.lay hrow hlies.sz om he hc j om)
     refine⟨undef,_,_,.inr ⟨?_,rfl⟩,hle,hsim,.top _⟩;simp only[execOp,ho,Instr.storeAt,hpv,Instr.sureAddr,e7i,e7j,Result.andThen,hrun]
    ·cases hv
   ·cases hv
  ·cases hv
 ·cases hv
theorem Rj{P:Program}{E:Env}{w:World}{H:AH}(hs:Sim E w H){y:AV}{v:Value}(hy:Rep E y v){news:List (List AV)}(hn:D4 H y=some news)(sz:Nat)(hsz:∀ e∈news,e.length=sz) :
 ∃ us:Array Value,us.size=news.length*sz/\Ce E sz us news/\(∀ u∈us.toList,u.oneCell'=true)/\(Builtin.lenOf v).run P w=.ok news.length w/\
   ∀ m,m<=news.length->(Builtin.firstCells sz m v).run P w=.ok (us.extract 0 (m*sz)) w:=by
 by_cases hstr:∃ s,y=.str s
 ·obtain⟨s,rfl⟩:=hstr;simp only[D4,e5i]at hn;subst hn;rw[Jh hy];have hlen:(⟨s.toArray⟩:ByteArray).size=s.length:=by simp[ByteArray.size]
  cases s with
  |nil=>
    refine⟨#[],by simp,λi e k c u hi=>by simp at hi,by simp,by simp[Builtin.lenOf,e7j,ByteArray.size],λm hm=>?_⟩;have:m=0:=(by simpa using hm);subst this;simp[Builtin.firstCells,e7j]
  |cons b0 br=>
    have hsz1:sz=1:=(by rw[<-hsz [.int .u8 b0.toNat] (by simp)];rfl);subst hsz1;refine⟨((b0::br).map λb=>Value.int .u8 b.toNat).toArray,by simp,?_,by simp[Value.oneCell'],by simp[Builtin.lenOf,e7j,ByteArray.size],λm hm=>?_⟩
    ·intro i e k c u hi hk hu;rw[e5j]at hi;cases hb:(b0::br)[i]? with
     |none=>rw[hb]at hi;cases hi
     |some b=>
       rw[hb]at hi;cases hi
       match k,hk with
       |0,hk=>
         simp at hk;subst hk;rw[e4k,Nat.mul_one,e7l,e5j,hb]at hu;cases hu;exact .pure (x:=.int _ _) (.int _ _)
       |k+1,hk=>simp at hk
    ·simp only[Builtin.firstCells];rw[e7j]
     congr 1
     apply e81;simp[List.map_take]
 ·have hel:G5 H y=some news:=by
   rw[<-hn];cases y<;>first|rfl|exact absurd ⟨_,rfl⟩ hstr
  obtain⟨ad,cap,rfl,hcap,hne⟩:=b24 hs hy hel;have hlenof:(Builtin.lenOf (.slice ad news.length cap)).run P w=.ok news.length w:=by simp[Builtin.lenOf,e7j]
  cases news with
  |nil=>
    refine⟨#[],by simp,λi e k c u hi=>by simp at hi,by simp,hlenof,λm hm=>?_⟩;have:m=0:=(by simpa using hm);subst this;cases ad with
    |none=>simp[Builtin.firstCells,e7j]
    |some b=>simp[Builtin.firstCells,loadCells,loadCellsFrom,e7j]
  |cons e0 er=>
    obtain⟨b,off,sz',cells,t,q,rfl,hb,hsz',hin,hone,hc⟩:=hne (by simp);have:sz'=sz:=(by rw[<-hsz' e0 (by simp),hsz e0 (by simp)]);subst this;have hL0:∀ m,m<=(e0::er).length->m*sz'<=(e0::er).length*sz':=λm hm=>e4r _ hm;generalize hL:(e0::er).length*sz'=L at hin hone hL0;refine⟨cells.extract off (off+L),by simp;omega,?_,?_,hlenof,λm hm=>?_⟩
    ·intro i e k c u hi hk hu;rw[e4f]at hu;split at hu
     ·exact hc i e k c u hi hk hu
     ·cases hu
    ·intro u hu;obtain⟨i,hi⟩:=e4l.1 hu;rw[e4m,e4f]at hi;split at hi
     ·rename_i h';exact hone i u om hi
     ·cases hi
    ·simp only[Builtin.firstCells];have hm':=hL0 m hm;rw[a3g P hb off _ om]
     congr 1
     apply Array.ext_getElem?;intro i;by_cases h':i<m*sz'
     ·rw[e4f,e4f];rw[if_pos om,if_pos (by simp;omega),e7p,e4f,if_pos om]
     ·rw[e4e (by simp;omega),e4e (by simp;omega)]
theorem Ce.splice{E:Env}{sz:Nat}{cells:Array Value}{o news:AObj}(h:Ce E sz cells o)(hsz:∀ e∈o,e.length=sz)(hsz':∀ e∈news,e.length=sz)
 {us:Array Value} (hu:Ce E sz us news) (hus:us.size=news.length*sz) (k:Nat) (hk:k<=o.length) (hin:(k+news.length)*sz<=cells.size) :
 Ce E sz (Abs.splice cells (k*sz) us.toList) (o.take k++news++o.drop (k+news.length)):=by
 rw[e7x]at hin;intro i e m c u hi hm hv;rw[a3a _ _ _ _ (by simp;omega)]at hv;have hml:∀ l:List (List AV),(∀ e∈l,e.length=sz)->e∈l->m<sz:=by
  intro l hl he;rcases e7h m e.length with h'|h'
  ·rw[hl e he]at h';exact h'
  ·rw[e4j h']at hm;cases hm
 rw[List.getElem?_append,List.getElem?_append]at hi;have l1:(o.take k).length=k:=by simp;omega
 have l2:(o.take k++news).length=k+news.length:=by simp;omega
 rw[l1,l2]at hi;by_cases c1:i<k
 ·rw[if_pos om,if_pos c1,e48 c1]at hi
  have:=hml o hsz (e4q hi);have h4:=L7 (sz:=sz) c1;rw[if_neg (by simp;omega)]at hv;exact h i e m c u hi hm hv
 ·by_cases c2:i<k+news.length
  ·rw[if_pos c2,if_neg c1]at hi
   have:=hml news hsz' (e4q hi);have h4:(i-k)*sz+sz<=news.length*sz:=L7 om;have h5:i*sz=(i-k)*sz+k*sz:=(by rw[<-e7x];congr 1;omega);rw[if_pos ⟨by omega,by simp;omega⟩]at hv;refine hu (i-k) e m c u hi hm ?_;rw[<-hv,e4m];congr 1;omega
  ·rw[if_neg c2,e53]at hi;have h5:(k+news.length)*sz<=i*sz:=e4r _ om;rw[e7x]at h5;rw[if_neg (by simp;omega)]at hv;refine h i e m c u ?_ hm hv;rw[<-hi];congr 1;omega
theorem b9c{o news:AObj}(k:Nat)(h:k+news.length<=o.length):(o.take k++news++o.drop (k+news.length)).length=o.length:=by
 simp;omega
theorem a3d{H:AH}{r:Nat}{o:AObj}(h:H.at r=some o):H.set r (some o)=H:=by
 unfold AH.at at h;apply List.ext_getElem?;intro i;rw[e5g];split
 ·rename_i e;subst e;split
  ·cases hr:H[r]? with
   |none=>rw[hr]at h;cases h
   |some x=>rw[hr]at h;simp at h;rw[h]
  ·rename_i h';rw[e4j om]
 ·rfl
theorem Sim.newEmpty{E:Env}{w:World}{H:AH}(h:Sim E w H):Sim E w (H++[some []]):=by
 have hn:E.ρ H.length=none:=by
  cases hρ:E.ρ H.length with
  |none=>rfl
  |some x=>have:=h.dom _ _ hρ;omega
 have key:∀ {r o},AH.at (H++[some []]) r=some o->H.at r=some o\/(r=H.length/\o=[]):=by
  intro r o hr;rcases Nat.lt_trichotomy r H.length with h1|h1|h1
  ·rw[b37 _ h1]at hr;exact .inl hr
  ·subst h1;rw[c9p]at hr;cases hr;exact .inr ⟨rfl,rfl⟩
  ·rw[c9o _ h1]at hr;cases hr
 refine⟨h.os,h.tape,h.output,h.frz,h.disj,λr x hr=>?_,λr o hr=>?_,λr r' o o' x x' h1 h2 h3 h4 hb=>?_⟩
 ·have:=h.dom r x hr;simp;omega
 ·rcases key hr with h1|⟨rfl,rfl⟩
  ·exact h.obj r o h1
  ·exact .inl ⟨rfl,hn⟩
 ·rcases key h1 with h1|⟨rfl,rfl⟩
  ·rcases key h2 with h2|⟨rfl,rfl⟩
   ·exact h.inj r r' o o' x x' h1 h2 h3 h4 hb
   ·rw[hn]at h4;cases h4
  ·rw[hn]at h3;cases h3
structure El(P:Program)(e:TypeId)(sz bytes:Nat)(zero:List AV):Prop where
 ex:∃ i z,P.info? e=some i/\i.size=sz/\i.bytes=bytes/\i.zero=some z/\repCs zero z.cells.toList=true
 pos:0<sz
 len:zero.length=sz
 all:zero.all cellA=true
theorem a5u{P:Program}{e:TypeId}{sz bytes:Nat}{zero:List AV}(h:Vk P e sz bytes zero=true):El P e sz bytes zero:=by
 unfold Vk at h;split at h
 ·rename_i i hi;simp only[e5v,e5h]at h;obtain⟨⟨⟨⟨⟨h1,h2⟩,h3⟩,h4⟩,h5⟩,h6⟩:=h;split at h6
  ·exact⟨⟨i,_,hi,h1,h2,by assumption,h6⟩,h3,h4,h5⟩
  ·cases h6
 ·cases h
theorem ax9{P:Program}(n:Nat)(w:World):(askRoom n).run P w=.ok () w:=by
 unfold askRoom;split<;>rfl
theorem ay0{P:Program}{w:World}{t u e:TypeId}{sz bytes:Nat}{zero:List AV}(ty:TypeId)(ht:P.underlying t=some (.slice e))(hel:El P e sz bytes zero)
 (hu:∃ d,P.underlying u=some d/\∀ k,d≠.int k) {v:Value} {n:Nat} {us:Array Value} (hlen:(Builtin.lenOf v).run P w=.ok n w) (hfc:(Builtin.firstCells sz n v).run P w=.ok us w)
 (h1:∀ x∈us.toList,x.oneCell'=true) {b off len cap:Nat} {cells:Array Value} {te:TypeId} {q:Nat×Nat} (hb:w.heap[b]?=some (.cells cells te q)) (hq:q=(0,0)\/cells.size<=q.1)
 (hroom:len+n<=cap) (hfit:off+len*sz+us.size<=cells.size) :
 (Builtin.append_ #[t,u] ty #[.slice (some ⟨b,off,none⟩) len cap,v]).run P w=.ok (.slice (some ⟨b,off,none⟩) (len+n) cap) (Fe w b (.cells (splice cells (off+len*sz) us.toList) te q)):=by
 obtain⟨i,z,hi,hs,_⟩:=hel.ex;obtain⟨d,hd,hdk⟩:=hu;have hst:=a3f P b te q (off+len*sz) us.toList 0 cells w hb hq (by simp;omega) h1;rw[e7l]at hst;unfold Builtin.append_;simp only[e4k,e49,e4b,e7i,e6u ht,Result.andThen,Fb hi,hs,e6u hd,e7j];have hm:(match d with|.int _=>true|_=>false)=false:=by
  cases d<;>first|rfl|exact absurd rfl (hdk _)
 simp only[hm,e52,if_false,hlen,if_pos hroom,e6y,if_true,hfc,e7i,Result.andThen,Vu,hst,e7j]
theorem a8j{P:Program}{w:World}{t u e:TypeId}{sz bytes:Nat}{zero:List AV}(ty:TypeId)(ht:P.underlying t=some (.slice e))(hel:El P e sz bytes zero)
 (hu:∃ d,P.underlying u=some d/\∀ k,d≠.int k) {v:Value} {n:Nat} {us old:Array Value} {base:Option Addr} {len cap:Nat} (hlen:(Builtin.lenOf v).run P w=.ok n w)
 (hfc:(Builtin.firstCells sz n v).run P w.drew=.ok us w.drew) (hold:(Builtin.firstCells sz len (.slice base len cap)).run P w.drew=.ok old w.drew)
 (hroom:cap<len+n) (hsmall:len+n<=1000000000) (hby:(len+n)*bytes<=1000000000000) :
 ∃ (nc:Nat) (k:Nat) (z:Value),len+n<=nc/\RepL ⟨λ_=>none,λ_=>none,λ_=>none,w.os,w.tape,w.output⟩ zero z.cells/\
   (Builtin.append_ #[t,u] ty #[.slice base len cap,v]).run P w=.ok (.slice (some ⟨w.heap.size,0,none⟩) (len+n) nc) (World.alloc { w with drawn:=k } (.cells (old++us++Builtin.zeroCells z.cells (nc-(len+n))) e)):=by
 obtain⟨i,z,hi,hs,hb,hz,hzc⟩:=hel.ex;obtain⟨d,hd,hdk⟩:=hu;have hzr:RepL ⟨λ_=>none,λ_=>none,λ_=>none,w.os,w.tape,w.output⟩ zero z.cells:=by have:=Q5 (E:=⟨λ_=>none,λ_=>none,λ_=>none,w.os,w.tape,w.output⟩) hzc;simpa using this
 refine⟨Question.cut (.appendCap (len+n) cap e) (w.tape w.drawn (.appendCap (len+n) cap e)),w.drawn+1,z,by simp[Question.cut],hzr,?_⟩;unfold Builtin.append_;simp only[e4k,e49,e4b,e7i,e6u ht,Result.andThen,Fb hi,hs,e6u hd,e7j];have hm:(match d with|.int _=>true|_=>false)=false:=by
  cases d<;>first|rfl|exact absurd rfl (hdk _)
 have hti:∀ w',(typeInfo e).run P w'=.ok i w':=by
  intro w';unfold typeInfo;simp only[e7i,program,Sem.run,Result.andThen,hi];rfl
 have hzv:∀ w',(zeroValue e).run P w'=.ok z w':=by
  intro w';unfold zeroValue;simp only[e7i,hti,Result.andThen,hz,e7j]
 have hfit:=growslice_fits hroom (show(len+n)*bytes<=140737488355328 by omega);have hmax:¬ ((len+n:Nat):Int)>IntKind.i64.max:=by simp[IntKind.max,IntKind.bits,IntKind.signed];omega
 simp only[hm,e52,if_false,hlen,if_neg (show ¬ len+n<=cap by omega),e7i,hti,Result.andThen,hb];rw[if_neg (by rintro⟨h,_⟩;exact hmax h)];simp only[e7i,hti,Result.andThen,hb];rw[if_neg om];simp only[e7i,run_choose_drew,Question.forced,e52,if_false,Result.andThen,ax9,hold,e6y,if_true,hfc,hzv,newRow,newObj,e7j,Sem.run,hti];rfl
theorem c5d{P:Program}{u:TypeId}(h:(match P.underlying u with|some (.int _)=>false|none=>false|some _=>true)=true):∃ d,P.underlying u=some d/\∀ k,d≠.int k:=by
 split at h
 ·cases h
 ·cases h
 ·rename_i d hne hd;exact⟨d,hd,λk hk=>by subst hk;exact hne k rfl⟩
theorem ao0{news:List (List AV)}{sz:Nat}(h:news.all (λe=>decide (e.length=sz))=true):∀ e∈news,e.length=sz:=by
 intro e he
 have:=e5x.1 h e he;simpa using this
theorem Sh{E:Env}{zero:List AV}{z:Array Value}(h:RepL E zero z)(hall:zero.all cellA=true)(n:Nat):∀ (i:Nat) v,(Builtin.zeroCells z n)[i]?=some v->v.oneCell'=true:=by
 intro i v hv;unfold Builtin.zeroCells at hv;have hi:i<n*z.size:=by
  rcases e7h i (n*z.size)with h'|h'
  ·exact h'
  ·rw[e4e (by simpa using h')]at hv;cases hv
 have hpos:0<z.size:=by
  rcases e56 z.size with h0|h0
  ·rw[h0]at hi;simp at hi
  ·exact h0
 have hml:i%z.size<z.size:=Nat.mod_lt i hpos;rw[e57,Array.getElem?_range,if_pos hi]at hv;simp only[e6h,e5i]at hv;rw[getElem!_pos z (i%z.size) hml]at hv;exact Sx h hall _ v (by rw[<-hv];exact e44 hml)
theorem Ce.append3{E:Env}{sz:Nat}{a b c:Array Value}{o news:AObj}(ha:Ce E sz a o)(hb:Ce E sz b news)(hsa:a.size=o.length*sz)(hsb:b.size=news.length*sz)
 (h1:∀ e∈o,e.length=sz) (h2:∀ e∈news,e.length=sz):Ce E sz (a++b++c) (o++news):=by
 intro i e k v u hi hk hu;rw[List.getElem?_append]at hi;by_cases c1:i<o.length
 ·rw[if_pos c1]at hi;have hkl:k<sz:=by
   rcases e7h k e.length with h'|h'
   ·rw[h1 e (e4q hi)]at h';exact h'
   ·rw[e4j h']at hk;cases hk
  have:=L7 (sz:=sz) c1;rw[e41 (by simp;omega),e41 om]at hu;exact ha i e k v u hi hk hu
 ·rw[if_neg c1]at hi;have hil:i-o.length<news.length:=by
   rcases e7h (i-o.length) news.length with h'|h'
   ·exact h'
   ·rw[e4j h']at hi;cases hi
  have hkl:k<sz:=by
   rcases e7h k e.length with h'|h'
   ·rw[h2 e (e4q hi)]at h';exact h'
   ·rw[e4j h']at hk;cases hk
  have:=L7 (sz:=sz) hil;have h5:i*sz=(i-o.length)*sz+o.length*sz:=by rw[<-e7x];congr 1;omega
  rw[e41 (by simp;omega),Array.getElem?_append_right om]at hu;refine hb (i-o.length) e k v u hi hk ?_;rw[<-hu];congr 1;omega
theorem Rv{a b:Array Value}(ha:∀ (i:Nat) v,a[i]?=some v->v.oneCell'=true)(hb:∀ (i:Nat) v,b[i]?=some v->v.oneCell'=true):∀ (i:Nat) v,(a++b)[i]?=some v->v.oneCell'=true:=by
 intro i v hv;rw[Array.getElem?_append]at hv;split at hv
 ·exact ha i v hv
 ·exact hb _ v hv
theorem a9d{a:Array Value}(h:∀ u∈a.toList,u.oneCell'=true):∀ (i:Nat) v,a[i]?=some v->v.oneCell'=true:=by
 intro i v hv;exact h v (e4q (by rw[e4m];exact hv))
theorem d6r{H H':AH}(h:∀ r o,H.at r=some o->H'.at r=some o){r tot:Nat}{o:AObj}(hl:Am H r tot=some o):Am H' r tot=some o:=by
 unfold Am at hl ⊢;cases ha:H.at r with
 |none=>rw[ha]at hl;cases hl
 |some o'=>rw[ha]at hl;rw[h r o' ha];exact hl
theorem d10{H H':AH}(h:∀ r o,H.at r=some o->H'.at r=some o){y:AV}{news:List (List AV)}(hy:D4 H y=some news):D4 H' y=some news:=by
 cases y<;>first|exact hy|skip
 rename_i r sz off len tot;simp only[D4,G5]at hy ⊢;cases hl:Am H r tot with
 |none=>rw[hl]at hy;cases hy
 |some o=>rw[hl]at hy;rw[d6r h hl];exact hy
theorem e2o{H:AH}:∀ r o,H.at r=some o->AH.at (H++[none]) r=some o:=by
 intro r o h;rw[b37 _ (Qx h)];exact h
theorem c9x{P:Program}{E:Env}{w:World}{H:AH}(hs:Sim E w H){t u e:TypeId}{sz bytes:Nat}{zero:List AV}(ty:TypeId)(ht:P.underlying t=some (.slice e))(hel:El P e sz bytes zero)
 (hu:∃ d,P.underlying u=some d/\∀ k,d≠.int k) {y:AV} {vy:Value} (hy:Rep E y vy) {news:List (List AV)} (hsrc:D4 H y=some news) (hsz:∀ e∈news,e.length=sz) (hne:0<news.length)
 (hb:news.length*bytes<=1000000000000) (hl:news.length<=1000000000) (ad:Option Addr) (r:Nat) (hr:r<H.length) (hg:∀ x,E.ρ r=some x->x.t=0) :
 ∃ u' w' E',(Builtin.append_ #[t,u] ty #[.slice ad 0 0,vy]).run P w=.ok u' w'/\Le E E'/\Sim E' w' (H.set r (some news))/\Rep E' (.own r sz 0 news.length news.length) u':=by
 obtain⟨_,_,_,_,hlen,_⟩:=Rj (P:=P) hs hy hsrc sz hsz;have hsd:Sim E w.drew H:=hs.drawn (w.drawn+1);obtain⟨us,hus,hrow,hone,_,hfc⟩:=Rj (P:=P) hsd hy hsrc sz hsz;have hfc':=hfc news.length (e7y _);have hfull:us.extract 0 (news.length*sz)=us:=by rw[<-hus];simp
 rw[hfull]at hfc';have hold:(Builtin.firstCells sz 0 (.slice ad 0 0)).run P w.drew=.ok #[] w.drew:=by
  cases ad<;>simp[Builtin.firstCells,e7j,loadCells,loadCellsFrom]
 obtain⟨nc,k,z,hnc,hz,hrun⟩:=a8j (P:=P) (w:=w) ty ht hel hu hlen hfc' hold (base:=ad) (len:=0) (cap:=0) om om (by simpa using hb);have hrow2:Ce E sz (#[]++us++Builtin.zeroCells z.cells (nc-(0+news.length))) ([]++news):=Ce.append3 (λi e k v u hi=>by simp at hi) hrow (by simp) hus (by simp) hsz;rw[e6k]at hrow2;have hsk:Sim E { w with drawn:=k } H:=hs.drawn k;obtain⟨hle,hsim⟩:=hsk.renew hr news sz (#[]++us++Builtin.zeroCells z.cells (nc-(0+news.length))) e (0,0) (λy hy=>by rw[hg y hy];exact hne) hel.pos (.inl rfl) hsz (by simp;omega)
  (Rv (Rv (λi v hv=>by simp at hv) (a9d hone)) (Sh hz hel.all _)) hrow2
 refine⟨_,_,_,hrun,hle,hsim,?_⟩;have hzs:z.cells.size=sz:=by rw[<-hz.1,hel.len]
 have:=Rep.own (E:=E.with r ⟨w.heap.size,sz,(#[]++us++Builtin.zeroCells z.cells (nc-(0+news.length))).size,news.length⟩) r sz 0 news.length news.length nc _ (Env.with_same _ _ _) rfl rfl om om om
  (by
   simp only[Array.size_append,size_zeroCells,hzs,hus];have:(0+nc)*sz=news.length*sz+(nc-(0+news.length))*sz:=(by rw[<-e7x];congr 1;omega);simp only[this];exact Nat.le_of_eq (by simp))
 simpa using this
theorem d5f{P:Program}{sz bytes:Nat}{zero:List AV}{x y:Opd}{o:Op}(hf:Bu P (.append sz bytes zero x y) o=true):Sf P o (.append sz bytes zero x y):=by
 intro E w H fr a v H' oper ho hs hr hv;cases o<;>simp only[Bu,e52]at hf;rename_i c;obtain⟨callee,args,ts⟩:=c;cases callee<;>try (simp only[Bu,e52]at hf;done)
 rename_i b;cases b<;>simp only[Bu,e52]at hf;split at hf
 ·rename_i x' y' t u hargs hts;simp only[e5v]at hf;obtain⟨⟨⟨ht,hu⟩,h1⟩,h2⟩:=hf;have hx:=Bd hr h1;have hy:=Bd hr h2;have hargs:args= #[x',y']:=by apply e81;simpa using hargs
  have hts:ts= #[t,u]:=by apply e81;simpa using hts
  subst hargs;subst hts;obtain⟨e,hte,hel⟩:∃ e,P.underlying t=some (.slice e)/\El P e sz bytes zero:=by
   split at ht
   ·exact⟨_,by assumption,a5u ht⟩
   ·cases ht
  have hu:=c5d hu;have Bv:∀ {s:Value} {u':Value} {w':World},a.eval x'=s->(Builtin.append_ #[t,u] oper.type #[s,a.eval y']).run P w=.ok u' w'->(execOp a.eval oper).run P w=.ok (.value u') w':=by
   intro s u' w' hse hrun;subst hse;simp only[execOp,ho,resolve,e7i,e7j,Result.andThen,invoke,builtin,List.map_toArray,e75,e7k,hrun]
  simp only[Cc]at hv;split at hv
  ·rename_i news e1 hsrc;rw[e1]at hx;obtain⟨ad,hxv⟩:=Hg hx;split at hv
   ·rename_i hok;obtain⟨hb,hl,hall⟩:=hok;cases hv;have hsz:=ao0 hall;rcases e56 news.length with h0|hpos
    ·have hnil:news=[]:=e4a.1 h0;subst hnil;obtain⟨us,hus,hrow,hone,hlen,hfc⟩:=Rj (P:=P) hs hy hsrc sz hsz;have hfc0:=hfc 0 (e7y _);have hrun:(Builtin.append_ #[t,u] oper.type #[.slice ad 0 0,a.eval y']).run P w=.ok (.slice ad 0 0) w:=by
      obtain⟨i,z,hi,hsi,_⟩:=hel.ex;obtain⟨d,hd,hdk⟩:=hu;have hm:(match d with|.int _=>true|_=>false)=false:=by
       cases d<;>first|rfl|exact absurd rfl (hdk _)
      unfold Builtin.append_;simp only[e4k,e49,e4b,e7i,e6u hte,Result.andThen,Fb hi,hsi,e6u hd,e7j,hm,e52,if_false,hlen,e6f,e7l,e7y,if_true,e6y,hfc0]
      have hus0:(us.extract 0 (0*sz)).toList=[]:=(by simp);cases ad with
      |none=>simp[e7j,Sem.run]
      |some ad=>simp only[hus0,storeCells,e7i,e7j,Result.andThen]
     exact⟨_,w,E,.inl (Bv hxv hrun),Le.refl E,hs.newEmpty,.own0 _ _ _⟩
    ·obtain⟨u',w',E',h1,h2,h3,h4⟩:=c9x (P:=P) hs.reserve oper.type hte hel hu hy (d10 e2o hsrc) hsz hpos hb hl ad H.length (by simp) (λx hx'=>by
      have:=hs.dom _ _ hx';omega)
     have e2:(H++[none]).set H.length (some news)=H++[some news]:=(by simp);rw[e2]at h3;exact⟨u',w',E',.inl (Bv hxv h1),h2,h3,h4⟩
   ·cases hv
  ·rename_i r sz' off len tot news e1 hsrc;rw[e1]at hx;split at hv
   ·rename_i o hl;obtain⟨hat,hlen,htt⟩:=G1 hs hl;split at hv
    ·cases hv
    ·rename_i hall;have hall1:news.all (λe=>decide (e.length=sz))=true:=by
      cases h:news.all (λe=>decide (e.length=sz))with
      |true=>rfl
      |false=>exact absurd (.inl h) hall
     have hss:sz'=sz:=by
      rcases Nat.decEq sz' sz with h|h
      ·exact absurd (.inr h) hall
      ·exact h
     subst hss;have hsz:=ao0 hall1;obtain⟨us,hus,hrow,hone,hlenof,hfc⟩:=Rj (P:=P) hs hy hsrc sz' hsz;have hfc1:=hfc news.length (e7y _);have hfull:us.extract 0 (news.length*sz')=us:=(by rw[<-hus];simp);rw[hfull]at hfc1;split at hv
     ·rename_i hfront;obtain⟨rfl,rfl⟩:=hfront;split at hv
      ·rename_i hb;obtain⟨hb,hsmall⟩:=hb;cases hv;rcases e56 news.length with h0|hpos
       ·have hnil:news=[]:=e4a.1 h0;subst hnil;obtain⟨ad,cap,hxv,hll⟩:∃ ad cap,a.eval x'=.slice ad len cap/\len<=cap:=by
         rcases Iu hx htt with ⟨ad,_,rfl,_,he⟩|⟨x2,cap,_,_,_,g,_,_,he⟩
         ·exact⟨ad,0,he,e7y _⟩
         ·exact⟨_,cap,he,g⟩
        have hrun:(Builtin.append_ #[t,u] oper.type #[.slice ad len cap,a.eval y']).run P w=.ok (.slice ad len cap) w:=by
         obtain⟨i,z,hi,hsi,_⟩:=hel.ex;obtain⟨d,hd,hdk⟩:=hu;have hm:(match d with|.int _=>true|_=>false)=false:=by
          cases d<;>first|rfl|exact absurd rfl (hdk _)
         have hus0:us.toList=[]:=by
          have:us.size=0:=(by simpa using hus);simpa using this
         rw[e6f]at hfc1 hlenof;unfold Builtin.append_;simp only[e4k,e49,e4b,e7i,e6u hte,Result.andThen,Fb hi,hsi,e6u hd,e7j,hm,e52,if_false,hlenof,e7l,hll,if_true,e6y,hfc1]
         cases ad with
         |none=>simp[e7j,Sem.run]
         |some ad=>simp only[hus0,storeCells,e7i,e7j,Result.andThen]
        refine⟨_,w,E,.inl (Bv hxv hrun),Le.refl E,?_,?_⟩
        ·rw[e6l,a3d hat];exact hs
        ·rw[<-hxv];simpa using hx
       ·rcases Iu hx htt with ⟨ad,_,rfl,_,hxv⟩|⟨x2,cap,hx2,hsx,g1,g2,g3,g4,hxv⟩
        ·have ho:o=[]:=e4a.1 hlen;subst ho;obtain⟨u',w',E',h1,h2,h3,h4⟩:=c9x (P:=P) hs oper.type hte hel hu hy hsrc hsz hpos (by simpa using hb) om ad r (Qx hat) (λx hx'=>htt x hx');exact⟨u',w',E',.inl (Bv hxv h1),h2,by simpa using h3,by simpa using h4⟩
        ·have hlies:=Fq hs hat hx2;obtain⟨cells,te,q,hblk,hcn,hq,hcone,hcrow⟩:=hlies.blk;have hszo:∀ e∈o,e.length=sz':=(by rw[<-hsx];exact hlies.sz);rw[Nat.zero_mul]at hxv;rw[e7p,hsx]at g4;have hlc:len*sz'<=cap*sz':=e4r _ g2;by_cases hroom:len+news.length<=cap
         ·have hmul:(len+news.length)*sz'<=cap*sz':=e4r _ hroom;rw[e7x]at hmul;have hrun:=ay0 (P:=P) oper.type hte hel hu hlenof hfc1 hone (off:=0) hblk (by rw[hcn];exact hq) hroom om;rw[e7p]at hrun;have hrs:=Ce.splice (E:=E) (sz:=sz') (cells:=cells) (o:=o) (news:=news) (by rw[<-hsx];exact hcrow) hszo hsz hrow hus o.length (e7y _) (by rw[hlen,e7x];omega);have e4:o.take o.length++news++o.drop (o.length+news.length)=o++news:=(by simp);rw[e4,hlen]at hrs;obtain⟨hle,hsim⟩:=hs.write hat hx2 (o':=o++news) (splice cells (len*sz') us.toList) te q (by rw[Uk];exact hcn) hq (by simp)
           (by
            intro e' he';rcases e6m.1 he' with h'|h'
            ·exact hlies.sz e' h'
            ·rw[hsx];exact hsz e' h')
           (by rw[e58,hlen,hsx,e7x];omega) (Zr hcone _ _ hone (by simp;omega)) (by rw[hsx];exact hrs)
          refine⟨_,_,_,.inl (Bv hxv hrun),hle,hsim,?_⟩
          have:=Rep.own (E:=E.with r { x2 with t:=(o++news).length }) r sz' 0 (len+news.length) (len+news.length) cap _ (Env.with_same _ _ _) (by simp;omega) hsx om hroom om (by rw[e7p];simp only[hsx];omega);simpa using this
         ·have hsd:Sim E w.drew H:=hs.drawn (w.drawn+1);obtain⟨us',hus',hrow',hone',_,hfc'⟩:=Rj (P:=P) hsd hy hsrc sz' hsz;have hfc2:=hfc' news.length (e7y _);have hfull':us'.extract 0 (news.length*sz')=us':=(by rw[<-hus'];simp);rw[hfull']at hfc2;have hold:(Builtin.firstCells sz' len (.slice (some ⟨x2.b,0,none⟩) len cap)).run P w.drew=.ok (cells.extract 0 (0+len*sz')) w.drew:=by
           simp only[Builtin.firstCells];exact a3g P (w:=w.drew) hblk 0 _ om
          obtain⟨nc,k,z,hnc,hz,hrun⟩:=a8j (P:=P) (w:=w) oper.type hte hel hu hlenof hfc2 hold (base:=some ⟨x2.b,0,none⟩) (len:=len) (cap:=cap) om om hb;have hro:Ce E sz' (cells.extract 0 (0+len*sz')) o:=by
           intro i e' k' c u' hi hk hu';rw[e4f]at hu';split at hu'
           ·rw[e7p]at hu';rw[<-hsx]at hu';exact hcrow i e' k' c u' hi hk hu'
           ·cases hu'
          have hrow2:=Ce.append3 (c:=Builtin.zeroCells z.cells (nc-(len+news.length))) hro hrow' (by simp;rw[hlen];omega) hus' hszo hsz;have hsk:Sim E { w with drawn:=k } H:=hs.drawn k;obtain⟨hle,hsim⟩:=hsk.renew (Qx hat) (o++news) sz' (cells.extract 0 (0+len*sz')++us'++Builtin.zeroCells z.cells (nc-(len+news.length))) e (0,0)
           (λy hy=>by rw[htt y hy];simp;omega) hel.pos (.inl rfl)
           (by
            intro e' he';rcases e6m.1 he' with h'|h'
            ·exact hszo e' h'
            ·exact hsz e' h')
           (by rw[e58,e7x,hlen];simp;omega)
           (Rv (Rv (λi v hv=>by
            rw[e4f]at hv;split at hv
            ·exact hcone _ v hv
            ·cases hv) (a9d hone')) (Sh hz hel.all _)) hrow2
          refine⟨_,_,_,.inl (Bv hxv hrun),hle,hsim,?_⟩;have hzs:z.cells.size=sz':=by rw[<-hz.1,hel.len]
          have:=Rep.own (E:=E.with r ⟨w.heap.size,sz',(cells.extract 0 (0+len*sz')++us'++Builtin.zeroCells z.cells (nc-(len+news.length))).size,(o++news).length⟩) r sz' 0 (len+news.length) (len+news.length) nc _ (Env.with_same _ _ _)
           (by simp;omega) rfl om hnc om
           (by
            simp only[Array.size_append,size_zeroCells,hzs,hus'];have e6:(0+nc)*sz'=len*sz'+news.length*sz'+(nc-(len+news.length))*sz':=(by rw[<-e7x,<-e7x];congr 1;omega);rw[e6];have:(cells.extract 0 (0+len*sz')).size=len*sz':=(by simp;omega);rw[this];exact e7y _)
          simpa using this
      ·cases hv
     ·rename_i hfront;split at hv
      ·rename_i hle;cases hv;rcases Iu hx htt with ⟨ad,rfl,rfl,rfl,hxv⟩|⟨x2,cap,hx2,hsx,g1,g2,g3,g4,hxv⟩
       ·exact absurd ⟨rfl,rfl⟩ hfront
       ·have hlies:=Fq hs hat hx2;obtain⟨cells,te,q,hblk,hcn,hq,hcone,hcrow⟩:=hlies.blk;have hszo:∀ e∈o,e.length=sz':=(by rw[<-hsx];exact hlies.sz);have hfit:=hlies.fits;rw[hsx]at g4 hfit hxv;have hmul:(off+len+news.length)*sz'<=o.length*sz':=e4r _ om;have hmul':=hmul;rw[e7x]at hmul;rw[e7x]at hmul;have hrun:=ay0 (P:=P) oper.type hte hel hu hlenof hfc1 hone (off:=off*sz') hblk (by rw[hcn];exact hq) (show len+news.length<=cap by omega) om;have hrs:=Ce.splice (E:=E) (sz:=sz') (cells:=cells) (o:=o) (news:=news) (by rw[<-hsx];exact hcrow) hszo hsz hrow hus (off+len) om om;rw[<-e7x]at hrun;have hll:(o.take (off+len)++news++o.drop (off+len+news.length)).length=o.length:=b9c _ om;obtain⟨hle',hsim⟩:=hs.write hat hx2 (o':=o.take (off+len)++news++o.drop (off+len+news.length)) (splice cells ((off+len)*sz') us.toList) te q (by rw[Uk];exact hcn) hq (by rw[hll];exact e7y _)
         (by
          intro e' he';rcases e6m.1 he' with h'|h'
          ·rcases e6m.1 h' with h'|h'
           ·exact hlies.sz e' (e4s h')
           ·rw[hsx];exact hsz e' h'
          ·exact hlies.sz e' (List.mem_of_mem_drop h'))
         (by rw[hll];exact hlies.fits) (Zr hcone _ _ hone (by rw[e7x];simp;omega)) (by rw[hsx];exact hrs)
        refine⟨_,_,_,.inl (Bv hxv hrun),hle',hsim,?_⟩
        have:=Rep.own (E:=E.with r { x2 with t:=(o.take (off+len)++news++o.drop (off+len+news.length)).length }) r sz' off (len+news.length) tot cap _ (Env.with_same _ _ _) (by rw[hll];exact hlen) hsx om om g3 (by simp only[hsx];exact g4);rw[<-hsx];rw[<-hsx]at this;exact this
      ·cases hv
   ·cases hv
  ·cases hv
 ·cases hf
theorem bn2{E:Env}{w:World}{H:AH}(hs:Sim E w H){r:Nat}{o news:AObj}{x:Own}(hat:H.at r=some o)(hx:E.ρ r=some x)(hsz:∀ e∈news,e.length=x.sz)
 {us:Array Value} (hrow:Ce E x.sz us news) (hus:us.size=news.length*x.sz) (hone:∀ u∈us.toList,u.oneCell'=true) (p:Nat) (hp:p+news.length<=o.length) {cells:Array Value} {te:TypeId} {q:Nat×Nat}
 (hb:w.heap[x.b]?=some (.cells cells te q)) :
 ∃ E',Le E E'/\Sim E' (Fe w x.b (.cells (splice cells (p*x.sz) us.toList) te q)) (H.set r (some (o.take p++news++o.drop (p+news.length))))/\E'.ρ r=some { x with t:=(o.take p++news++o.drop (p+news.length)).length }:=by
 have hlies:=Fq hs hat hx;obtain⟨cells',te',q',hblk,hcn,hq,hcone,hcrow⟩:=hlies.blk;rw[hb]at hblk;cases hblk;have hfit:=hlies.fits;have hmul:(p+news.length)*x.sz<=o.length*x.sz:=e4r _ hp;have hmul':=hmul;rw[e7x]at hmul';have hrs:=Ce.splice (E:=E) (sz:=x.sz) (cells:=cells) (o:=o) (news:=news) hcrow hlies.sz hsz hrow hus p om om;have hll:(o.take p++news++o.drop (p+news.length)).length=o.length:=b9c _ hp;obtain⟨hle,hsim⟩:=hs.write hat hx (o':=o.take p++news++o.drop (p+news.length)) (splice cells (p*x.sz) us.toList) te q (by rw[Uk];exact hcn) hq (by rw[hll];exact e7y _)
  (by
   intro e' he';rcases e6m.1 he' with h'|h'
   ·rcases e6m.1 h' with h'|h'
    ·exact hlies.sz e' (e4s h')
    ·exact hsz e' h'
   ·exact hlies.sz e' (List.mem_of_mem_drop h'))
  (by rw[hll];exact hfit) (Zr hcone _ _ hone (by simp;omega)) hrs
 exact⟨_,hle,hsim,Env.with_same _ _ _⟩
theorem d4z{P:Program}{sz:Nat}{x y:Opd}{o:Op}(hf:Bu P (.copy sz x y) o=true):Sf P o (.copy sz x y):=by
 intro E w H fr a v H' oper ho hs hr hv;cases o<;>simp only[Bu,e52]at hf;rename_i c;obtain⟨callee,args,ts⟩:=c;cases callee<;>try (simp only[Bu,e52]at hf;done)
 rename_i b;cases b<;>simp only[Bu,e52]at hf;split at hf
 ·rename_i x' y' t ts' hargs hts;simp only[e5v]at hf;obtain⟨⟨ht,h1⟩,h2⟩:=hf;have hx:=Bd hr h1;have hy:=Bd hr h2;have hargs:args= #[x',y']:=by apply e81;simpa using hargs
  have hts0:ts[0]?=some t:=by
   have:ts.toList[0]?=some t:=(by rw[hts];rfl);simpa using this
  subst hargs;obtain⟨e,i,hte,hi,hisz⟩:∃ e i,P.underlying t=some (.slice e)/\P.info? e=some i/\i.size=sz:=by
   split at ht
   ·split at ht
    ·exact⟨_,_,by assumption,by assumption,by simpa using ht⟩
    ·cases ht
   ·cases ht
  have Bv:∀ {s:Value} {u':Value} {w':World},a.eval x'=s->(Builtin.copy_ ts oper.type #[s,a.eval y']).run P w=.ok u' w'->(execOp a.eval oper).run P w=.ok (.value u') w':=by
   intro s u' w' hse hrun;subst hse;simp only[execOp,ho,resolve,e7i,e7j,Result.andThen,invoke,builtin,List.map_toArray,e75,e7k,hrun]
  simp only[Cc]at hv;split at hv
  ·rename_i r sz' off len tot src e1 hsrc;rw[e1]at hx;split at hv
   ·rename_i o hl;obtain⟨hat,hlen,htt⟩:=G1 hs hl;split at hv
    ·rename_i hok;obtain⟨hle,hall,rfl⟩:=hok;cases hv;have hsz:=ao0 hall;obtain⟨us,hus,hrow,hone,hlenof,hfc⟩:=Rj (P:=P) hs hy hsrc sz' hsz;have hfc1:=hfc (min src.length len) (Nat.min_le_left _ _);have hrun0:∀ (ad:Option Addr) (cap:Nat) (w':World),(∀ b,ad=some b->(storeCells b (us.extract 0 (min src.length len*sz')).toList).run P w=.ok () w')->(ad=none->w'=w)->
      (Builtin.copy_ ts oper.type #[.slice ad len cap,a.eval y']).run P w=.ok (.int .i64 (min src.length len:Nat)) w':=by
      intro ad cap w' h1 h2;unfold Builtin.copy_;have hmin:Nat.min src.length len=min src.length len:=rfl;simp only[hts0,e4k,e49,e4b,e7i,e6u hte,Result.andThen,hlenof,Fb hi,hisz,hmin,hfc1];cases ad with
      |none=>rw[h2 rfl];simp[e7j,goInt]
      |some b=>simp only[h1 b rfl,e7i,Result.andThen,e7j,goInt]
     rcases Iu hx htt with ⟨ad,rfl,rfl,rfl,hxv⟩|⟨x2,cap,hx2,hsx,g1,g2,g3,g4,hxv⟩
     ·have hmin0:min src.length 0=0:=Nat.min_zero _;have ho:o=[]:=e4a.1 hlen;subst ho;refine⟨_,w,E,.inl (Bv hxv (hrun0 ad 0 w (λb _=>?_) (λ_=>rfl))),Le.refl E,?_,.pure (x:=.int _ _) (.int _ _)⟩
      ·rw[hmin0];simp[storeCells,e7j]
      ·rw[hmin0];simp[a3d hat];exact hs
     ·have hlies:=Fq hs hat hx2;obtain⟨cells,te,q,hblk,hcn,hq,_,_⟩:=hlies.blk;have hfit:=hlies.fits;have hm1:min src.length len<=src.length:=Nat.min_le_left _ _;have hm2:min src.length len<=len:=Nat.min_le_right _ _;generalize min src.length len=m at *;have hnl:(src.take m).length=m:=(by simp;omega);have hsm:m*sz'<=src.length*sz':=e4r _ hm1;have hus2:(us.extract 0 (m*sz')).size=(src.take m).length*x2.sz:=(by rw[hnl,hsx];simp;omega);have hrow2:Ce E x2.sz (us.extract 0 (m*sz')) (src.take m):=by
       intro i e k c u hi hk hu;have him:i<m:=by
        rcases e7h i m with h'|h'
        ·exact h'
        ·rw[e4j om]at hi;cases hi
       rw[e48 him]at hi;rw[e4f]at hu;split at hu
       ·rw[e7p,hsx]at hu;exact hrow i e k c u hi hk hu
       ·cases hu
      have hone2:∀ u∈(us.extract 0 (m*sz')).toList,u.oneCell'=true:=by
       intro u hu;obtain⟨i,hi⟩:=e4l.1 hu;rw[e4m,e4f]at hi;split at hi
       ·exact hone u (e4q (by rw[e4m];exact hi))
       ·cases hi
      obtain⟨E',h1,h2,h3⟩:=bn2 hs hat hx2 (news:=src.take m) (λe he=>by rw[hsx];exact hsz e (e4s he)) hrow2 hus2 hone2 off (by rw[hnl];omega) hblk;have hmul:(off+m)*x2.sz<=o.length*x2.sz:=e4r _ om;rw[e7x,hsx]at hmul;have hfit':o.length*sz'<=x2.n:=(by rw[<-hsx];exact hfit);have hst:=a3f P x2.b te q (off*x2.sz) (us.extract 0 (m*sz')).toList 0 cells w hblk (by rw[hcn];exact hq) (by simp;rw[hsx];omega) hone2;rw[e7l]at hst;rw[hnl]at h2;refine⟨_,_,E',.inl (Bv hxv (hrun0 _ cap _ (λb hb=>by cases hb;exact hst) (λh=>by cases h))),h1,h2,.pure (x:=.int _ _) (.int _ _)⟩
    ·cases hv
   ·cases hv
  ·rename_i src e1 hsrc;rw[e1]at hx;obtain⟨ad,hxv⟩:=Hg hx;cases hv;have hrun:∃ k,(Builtin.lenOf (a.eval y')).run P w=.ok k w/\(Builtin.firstCells sz 0 (a.eval y')).run P w=.ok #[] w:=by
    by_cases hstr:∃ s,evalA fr y=.str s
    ·obtain⟨s,hs'⟩:=hstr;rw[hs']at hy;rw[Jh hy];exact⟨_,by simp[Builtin.lenOf,e7j];rfl,by simp[Builtin.firstCells,e7j]⟩
    ·have hel:G5 H (evalA fr y)=some src:=by
      rw[<-hsrc];cases hyy:evalA fr y<;>first|rfl|exact absurd ⟨_,hyy⟩ hstr
     obtain⟨ad',cap',hyv,_⟩:=b24 hs hy hel;rw[hyv];refine⟨_,by simp[Builtin.lenOf,e7j];rfl,?_⟩;cases ad'<;>simp[Builtin.firstCells,e7j,loadCells,loadCellsFrom]
   obtain⟨k,hk1,hk2⟩:=hrun;refine⟨.int .i64 0,w,E,.inl (Bv hxv ?_),Le.refl E,hs,.pure (x:=.int _ _) (.int _ _)⟩;unfold Builtin.copy_;have hmin:Nat.min k 0=0:=Nat.min_zero _;simp only[hts0,e4k,e49,e4b,e7i,e6u hte,Result.andThen,hk1,Fb hi,hisz,hmin,hk2];cases ad with
   |none=>simp[e7j,goInt]
   |some b=>simp[storeCells,e7j,goInt]
  ·cases hv
 ·cases hf
theorem d55{P:Program}{sz:Nat}{zero:List AV}{x:Opd}{o:Op}(hf:Bu P (.clear sz zero x) o=true):Sf P o (.clear sz zero x):=by
 intro E w H fr a v H' oper ho hs hr hv;cases o<;>simp only[Bu,e52]at hf;rename_i c;obtain⟨callee,args,ts⟩:=c;cases callee<;>try (simp only[Bu,e52]at hf;done)
 rename_i b;cases b<;>simp only[Bu,e52]at hf;split at hf
 ·rename_i x' t hargs hts;simp only[e5v]at hf;obtain⟨ht,h1⟩:=hf;have hx:=Bd hr h1;have hargs:args= #[x']:=by apply e81;simpa using hargs
  have hts:ts= #[t]:=by apply e81;simpa using hts
  subst hargs;subst hts;obtain⟨e,by_,hte,hel⟩:∃ e b,P.underlying t=some (.slice e)/\El P e sz b zero:=by
   split at ht
   ·split at ht
    ·exact⟨_,_,by assumption,a5u ht⟩
    ·cases ht
   ·cases ht
  obtain⟨i,z,hi,hsi,_,hz,hzc⟩:=hel.ex;have hzr:RepL E zero z.cells:=by have:=Q5 (E:=E) hzc;simpa using this
  have Bv:∀ {s:Value} {u':Value} {w':World},a.eval x'=s->(Builtin.clear_ #[t] oper.type #[s]).run P w=.ok u' w'->(execOp a.eval oper).run P w=.ok (.value u') w':=by
   intro s u' w' hse hrun;subst hse;simp only[execOp,ho,resolve,e7i,e7j,Result.andThen,invoke,builtin,List.map_toArray,e75,e7k,hrun]
  have fin0:∀ ad cap,a.eval x'=.slice ad 0 cap->(execOp a.eval oper).run P w=.ok (.value (.tuple #[])) w:=by
   intro ad cap he;refine Bv he ?_;unfold Builtin.clear_;simp only[e4k,e49,e7i,e6u hte,Result.andThen];cases ad<;>simp[e7j]
  have hnt:Rep E (.tuple []) (.tuple #[]):=.tuple [] #[] rfl (λi c u hc=>by simp at hc);simp only[Cc]at hv;split at hv
  ·rename_i r sz' off len tot e1;rw[e1]at hx;split at hv
   ·rename_i o hl;obtain⟨hat,hlen,htt⟩:=G1 hs hl;split at hv
    ·rename_i hok;obtain⟨hle,rfl⟩:=hok;cases hv;rcases Iu hx htt with ⟨ad,rfl,rfl,rfl,hxv⟩|⟨x2,cap,hx2,hsx,g1,g2,g3,g4,hxv⟩
     ·have ho:o=[]:=e4a.1 hlen;subst ho;refine⟨_,w,E,.inl (fin0 _ _ hxv),Le.refl E,?_,hnt⟩;simp[a3d hat];exact hs
     ·rcases e56 len with h0|hpos
      ·subst h0;refine⟨_,w,E,.inl (fin0 _ _ hxv),Le.refl E,?_,hnt⟩;have:o.take off++List.replicate 0 zero++o.drop (off+0)=o:=(by simp);rw[this,a3d hat];exact hs
      ·have hlies:=Fq hs hat hx2;obtain⟨cells,te,q,hblk,hcn,hq,_,_⟩:=hlies.blk;have hfit:=hlies.fits;have hzs:z.cells.size=sz':=(by rw[<-hzr.1,hel.len]);have hzl:∀ e∈List.replicate len zero,e.length=x2.sz:=λe he=>(by rw[List.eq_of_mem_replicate he,hel.len,hsx]);have hzcells:=a2t hzr len;have husz:(Builtin.zeroCells z.cells len).size=(List.replicate len zero).length*x2.sz:=(by rw[size_zeroCells,hzs,e4n,hsx]);have hrow:Ce E x2.sz (Builtin.zeroCells z.cells len) (List.replicate len zero):=by
        intro i e k c u hi hk hu;have hil:i<len:=by
         rcases e7h i len with h'|h'
         ·exact h'
         ·rw[e4j (by simpa using h')]at hi;cases hi
        rw[List.getElem?_replicate,if_pos hil]at hi;cases hi;have hkl:k<zero.length:=by
         rcases e7h k zero.length with h'|h'
         ·exact h'
         ·rw[e4j h']at hk;cases hk
        have hil':=L7 (sz:=sz') hil;have hidx:(i*x2.sz+k)%z.cells.size=k:=by
         rw[hsx,hzs,Nat.add_comm,Nat.add_mul_mod_self_right];exact Nat.mod_eq_of_lt (by rw[hel.len]at hkl;exact hkl)
        unfold Builtin.zeroCells at hu;rw[e57,Array.getElem?_range,if_pos (by rw[hsx,hzs];rw[hel.len]at hkl;omega)]at hu;simp only[e6h,e5i,hidx]at hu;have hkz:k<z.cells.size:=(by rw[hzs,<-hel.len];exact hkl);rw[getElem!_pos z.cells k hkz]at hu;exact hzr.2 k c u hk (by rw[<-hu];exact e44 hkz)
       have hone:∀ u∈(Builtin.zeroCells z.cells len).toList,u.oneCell'=true:=by
        intro u hu;obtain⟨i,hi⟩:=e4l.1 hu;rw[e4m]at hi;exact Sh hzr hel.all len i u hi
       obtain⟨E',h1,h2,h3⟩:=bn2 hs hat hx2 (news:=List.replicate len zero) hzl hrow husz hone off (by simp;omega) hblk;have hmul:(off+len)*x2.sz<=o.length*x2.sz:=e4r _ om;rw[e7x,hsx]at hmul;have hfit':o.length*sz'<=x2.n:=(by rw[<-hsx];exact hfit);have hst:=a3f P x2.b te q (off*x2.sz) (Builtin.zeroCells z.cells len).toList 0 cells w hblk (by rw[hcn];exact hq) (by simp[size_zeroCells,hzs];rw[hsx];omega) hone;rw[e7l]at hst;rw[e4n]at h2;refine⟨.tuple #[],_,E',.inl (Bv hxv ?_),h1,h2,.tuple [] #[] rfl (λi c u hc=>by simp at hc)⟩;unfold Builtin.clear_;have hti:(typeInfo e).run P w=.ok i w:=by
        unfold typeInfo;simp only[e7i,program,Sem.run,Result.andThen,hi];rfl
       have hzv:(zeroValue e).run P w=.ok z w:=by
        unfold zeroValue;simp only[e7i,hti,Result.andThen,hz,e7j]
       simp only[e4k,e49,e7i,e6u hte,Result.andThen];obtain⟨len',rfl⟩:∃ l,len=l+1:=⟨len-1,by omega⟩;simp only[e7i,hzv,Result.andThen,hst,e7j]
    ·cases hv
   ·cases hv
  ·rename_i e1;rw[e1]at hx;obtain⟨ad,hxv⟩:=Hg hx;cases hv;exact⟨_,w,E,.inl (fin0 _ _ hxv),Le.refl E,hs,hnt⟩
  ·rename_i e1;rw[e1]at hx;obtain⟨ad,cap,hxv,_⟩:=Oe hx;cases hv;exact⟨_,w,E,.inl (fin0 _ _ hxv),Le.refl E,hs,hnt⟩
  ·cases hv
 ·cases hf
theorem a7g{n:Int}(h0:0<=n)(h1:n<=1000000000):IntKind.i64.wrap n=n:=by
 unfold IntKind.wrap;simp[IntKind.bits,IntKind.signed,Int.bmod];omega
theorem d4m{P:Program}{sz bytes:Nat}{zero:List AV}{l c:Opd}{o:Op}(hf:Bu P (.mksl sz bytes zero l c) o=true):Sf P o (.mksl sz bytes zero l c):=by
 intro E w H fr a v H' oper ho hs hr hv;cases o<;>simp only[Bu,e52,e5v]at hf;rename_i t l' c';obtain⟨⟨ht,h1⟩,h2⟩:=hf;have hl:=Bd hr h1;have hc:=Bd hr h2;obtain⟨e,hte,hel⟩:∃ e,P.underlying t=some (.slice e)/\El P e sz bytes zero:=by
  split at ht
  ·exact⟨_,by assumption,a5u ht⟩
  ·cases ht
 obtain⟨i,z,hi,hsi,hby,hz,hzc⟩:=hel.ex;have hzr:RepL E zero z.cells:=by have:=Q5 (E:=E) hzc;simpa using this
 have hzs:z.cells.size=sz:=by rw[<-hzr.1,hel.len]
 simp only[Cc]at hv;split at hv
 ·rename_i k m k' n e1 e2;rw[e1]at hl;rw[e2]at hc;split at hv
  ·rename_i hok;obtain⟨h0,hmn,hn,hbb⟩:=hok;cases hv;have hzcells:=a2t hzr n.toNat;rw[hzs]at hzcells;have hlenle:m.toNat*sz<=n.toNat*sz:=e4r _ om;have hrow:Ce E sz ((Array.range (n.toNat*sz)).map (z.cells[· % sz]!)) (List.replicate m.toNat zero):=by
    intro j e' kk cc u hi' hk hu;have hil:j<m.toNat:=by
     rcases e7h j m.toNat with h'|h'
     ·exact h'
     ·rw[e4j (by simpa using h')]at hi';cases hi'
    rw[List.getElem?_replicate,if_pos hil]at hi';cases hi';have hkl:kk<sz:=by
     rcases e7h kk zero.length with h'|h'
     ·rw[hel.len]at h';exact h'
     ·rw[e4j h']at hk;cases hk
    have:=L7 (sz:=sz) hil;have hidx:(j*sz+kk)%sz=kk:=by
     rw[Nat.add_comm,Nat.add_mul_mod_self_right];exact Nat.mod_eq_of_lt hkl
    rw[e57,Array.getElem?_range,if_pos om]at hu;simp only[e6h,e5i,hidx]at hu;have hkz:kk<z.cells.size:=(by rw[hzs];exact hkl);rw[getElem!_pos z.cells kk hkz]at hu;exact hzr.2 kk cc u hk (by rw[<-hu];exact e44 hkz)
   have hone:∀ (j:Nat) u,((Array.range (n.toNat*sz)).map (z.cells[· % sz]!))[j]?=some u->u.oneCell'=true:=by
    have:=Sh hzr hel.all n.toNat;unfold Builtin.zeroCells at this;rw[hzs]at this;exact this
   obtain⟨hle,hsim⟩:=hs.new (List.replicate m.toNat zero) sz ((Array.range (n.toNat*sz)).map (z.cells[· % sz]!)) e (0,0) hel.pos (.inl rfl)
    (λe' he'=>by rw[List.eq_of_mem_replicate he',hel.len]) (by simp;exact hlenle) hone hrow
   refine⟨.slice (some ⟨w.heap.size,0,none⟩) m.toNat n.toNat,_,_,.inl ?_,hle,hsim,?_⟩
   ·simp only[execOp,ho,Ec hl,Ec hc];apply Dn;have hti:(typeInfo e).run P w=.ok i w:=by
     unfold typeInfo;simp only[e7i,program,Sem.run,Result.andThen,hi];rfl
    have hzv:(zeroValue e).run P w=.ok z w:=by
     unfold zeroValue;simp only[e7i,hti,Result.andThen,hz,e7j]
    have hw1:=a7g (n:=m) h0 om;have hw2:=a7g (n:=n) om hn;have hmulb:(bytes:Int)*n<=10000*1000000000:=by
     refine Int.le_trans (Int.mul_le_mul_of_nonneg_right (c:=n) (show(bytes:Int)<=10000 by omega) om) ?_;omega
    have hcond:((decide (n<0)||decide ((bytes:Int)*n>2 ^ 48))=true\/decide (m<0)=true\/decide (m>n)=true)=False:=by
     simp;omega
    unfold Instr.makeSlice;simp only[e7i,e6u hte,Result.andThen,asInt,asIntOf,e7j,hti,hby,hw1,hw2];rw[if_neg (by simp;omega)];simp only[e7i,ax9,Result.andThen,Fb hi,hsi];by_cases h00:n.toNat*sz=0
    ·simp only[h00,if_true,e7j,e7i,Result.andThen,newRow,newObj,Sem.run];have e2:∀ f g:Nat->Value,(Array.range 0).map f=(Array.range 0).map g:=λf g=>(by simp);rw[e2 _ (λx=>z.cells[x%sz]!)];rfl
    ·simp only[if_neg h00,e7i,hzv,Result.andThen,e7j,newRow,newObj,Sem.run,hzs];rfl
   ·have:=Rep.own (E:=E.with H.length ⟨w.heap.size,sz,((Array.range (n.toNat*sz)).map (z.cells[· % sz]!)).size,(List.replicate m.toNat zero).length⟩) H.length sz 0 m.toNat m.toNat n.toNat _ (Env.with_same _ _ _) (by simp) rfl om om om (by simp);simpa using this
  ·cases hv
 ·cases hv
theorem d52{P:Program}{x:Opd}{o:Op}(hf:Bu P (.convsb x) o=true):Sf P o (.convsb x):=by
 intro E w H fr a v H' oper ho hs hr hv;cases o<;>simp only[Bu,e52,e5v]at hf;rename_i s t y;obtain⟨⟨h1,h2⟩,h3⟩:=hf;have hx:=Bd hr h3;have hus:P.underlying s=some .string:=by
  split at h1<;>first|assumption|cases h1
 obtain⟨e,hut,hue⟩:∃ e,P.underlying t=some (.slice e)/\P.underlying e=some (.int .u8):=by
  split at h2
  ·split at h2
   ·exact⟨_,by assumption,by assumption⟩
   ·cases h2
  ·cases h2
 simp only[Cc]at hv;split at hv
 ·rename_i str e1;rw[e1]at hx;cases hv;have hbs:(⟨str.toArray⟩:ByteArray).size=str.length:=by simp[ByteArray.size]
  have hrun0:=run_bytes_of_string (P:=P) w s t e ⟨str.toArray⟩ hus hut hue;rw[hbs]at hrun0;have hcut:str.length<=grownCap w str.length 0 e:=grownCap_ge w _ _ _;generalize hnc:grownCap w str.length 0 e=nc at hcut hrun0;let cells:Array Value:=(str.toArray.map λb=>Value.int .u8 b.toNat)++Array.replicate (nc-str.length) (.int .u8 0);have hcs:cells.size=nc:=by simp[cells];omega
  have hbr:bytesRow ⟨str.toArray⟩ nc=cells:=by
   simp only[bytesRow,cells,hbs]
  rw[hbr,hcs]at hrun0;have hsd:Sim E w.drew H:=hs.drawn (w.drawn+1);obtain⟨hle,hsim⟩:=hsd.new (str.map λb=>[AV.int .u8 b.toNat]) 1 cells e (nc,nc+1) om (.inr om) (by simp) (by simp;omega)
   (by
    intro i v hv;simp only[cells]at hv;rw[Array.getElem?_append]at hv;split at hv
    ·rw[e57]at hv;cases hb:str.toArray[i]? with
     |none=>rw[hb]at hv;cases hv
     |some b=>rw[hb]at hv;cases hv;rfl
    ·rw[Array.getElem?_replicate]at hv;split at hv
     ·cases hv;rfl
     ·cases hv)
   (by
    intro i e' k c u hi hk hu;rw[e5j]at hi;cases hb:str[i]? with
    |none=>rw[hb]at hi;cases hi
    |some b=>
      rw[hb]at hi;cases hi;have hil:i<str.length:=by
       rcases e7h i str.length with h'|h'
       ·exact h'
       ·rw[e4j h']at hb;cases hb
      match k,hk with
      |0,hk=>
        simp at hk;subst hk;simp only[cells]at hu;rw[e41 (by simp;omega),Nat.mul_one,e7l,e57,e4k,hb]at hu;cases hu;exact .pure (x:=.int _ _) (.int _ _)
      |k+1,hk=>simp at hk)
  refine⟨.slice (some ⟨w.heap.size,0,none⟩) str.length nc,_,_,.inl ?_,hle,hsim,?_⟩
  ·simp only[execOp,ho,Jh hx];apply Dn;exact hrun0
  ·have:=Rep.own (E:=E.with H.length ⟨w.drew.heap.size,1,cells.size,(str.map λb=>[AV.int .u8 b.toNat]).length⟩) H.length 1 0 str.length str.length nc _ (Env.with_same _ _ _) (by simp) rfl om hcut om (by simp[hcs]);simpa using this
 ·cases hv
theorem d5j{P:Program}{ao:AOp}{o:Op}(hf:Bu P ao o=true):Sf P o ao:=by
 cases ao
 case alloc=>exact d5h hf
 case box=>exact d5b hf
 case bslice=>exact d59 hf
 case store=>exact d4c hf
 case convsb=>exact d52 hf
 case mksl=>exact d4m hf
 case append=>exact d5f hf
 case copy=>exact d4z hf
 case clear=>exact d55 hf
 all_goals (cases o<;>simp only[Bu,e52]at hf)
def D8(op:AOp)(ev:Opd->AV)(H:AH):Option (AV×AH):=
 match Ar op ev H with
 |some v=>some (v,H)
 |none=>Cc op ev H
theorem ca6{op:AOp}{ev:Opd->AV}{H:AH}{v:AV}(h:Ar op ev H=some v):D8 op ev H=some (v,H):=by
 unfold D8;rw[h]
theorem d4i{P:Program}{ao:AOp}{o:Op}(hf:(Ap P ao o||Bu P ao o)=true){E:Env}{w:World}{H:AH}{fr:List AV}{a:Act}{v:AV}{H':AH}{oper:Oper}(ho:oper.op=o)(hs:Sim E w H)
 (hr:RepL E fr a.tmps) (h:D8 ao (evalA fr) H=some (v,H')) :
 ∃ u w' E',((execOp a.eval oper).run P w=.ok (.value u) w'\/((execOp a.eval oper).run P w=.ok .skip w'/\u=undef))/\Le E E'/\Sim E' w' H'/\Rep E' v u:=by
 unfold D8 at h;rw[e6n]at hf;have k1:∀ (h0:Bu P ao o=true),Ar ao (evalA fr) H=none:=by
  intro h0;cases ao<;>first|rfl|(cases o<;>simp only[Bu,e52]at h0)
 have k0:∀ (h0:Ap P ao o=true),Cc ao (evalA fr) H=none:=by
  intro h0;cases ao<;>first|rfl|(cases o<;>simp only[Ap,e52]at h0)
 rcases hf with hf|hf
 ·rw[k0 hf]at h;split at h
  ·rename_i v' hv;cases h;obtain⟨u,h1,h2⟩:=bq2 hf E w H fr a v oper ho hs hr hv;exact⟨u,w,E,.inl h1,Le.refl E,hs,h2⟩
  ·cases h
 ·rw[k1 hf]at h;exact d5j hf E w H fr a v H' oper ho hs hr h
section
structure AInstr where
 dst:Option Nat
 guard:Option (Nat×Bool)
 op:AOp
 deriving Inhabited
def I0(d s:Nat):AInstr:=⟨some d,none,.mv (.t s)⟩
def I1(d:Nat)(o:AOp):AInstr:=⟨some d,none,o⟩
def I2(d g:Nat)(o:AOp):AInstr:=⟨some d,some (g,true),o⟩
def I3(d g:Nat)(o:AOp):AInstr:=⟨some d,some (g,false),o⟩
def I4(d g s:Nat):AInstr:=⟨some d,some (g,true),.mv (.t s)⟩
def I5(d g s:Nat):AInstr:=⟨some d,some (g,false),.mv (.t s)⟩
def I6(d n s:Nat):AInstr:=⟨some d,none,.faddr n (.t s)⟩
def I7(d s:Nat):AInstr:=⟨some d,none,.load false 1 (.t s)⟩
def I8(d s n:Nat):AInstr:=⟨some d,none,.ext (.t s) n⟩
def I9(n p s:Nat):AInstr:=⟨none,none,.store n (.t p) (.t s)⟩
def KI(n:Int):Opd:=.c (.int .i64 n)
inductive ACode where
 |skip
 |reg (ops:List AInstr)
 |dreg (ops:List AInstr)
 |dregE (segs:List (List (Nat×AInstr))) (tab:List (List Nat))
 |seq (a b:ACode)
 |cond (c:Opd) (a b:ACode)
 |block (id:Nat) (b:ACode)
 |loop (b:ACode)
 |exit (id:Nat)
 |ret
 |bad
 deriving Inhabited
inductive AExit where
 |normal
 |exit (id:Nat)
 |ret
def d03:AExit->Exit
 |.normal=>.normal
 |.exit id=>.exit id
 |.ret=>.ret
def J4(ops:Array Oper):Option (Nat×Bool)->Option (Nat×Bool)->Bool
 |none,none=>true
 |some (s,b),some (j,b')=>(b==b')&&decide ((ops[j]?).bind (·.dst)=some s)
 |_,_=>false
def fitI(P:Program)(ops:Array Oper)(i:AInstr)(o:Oper):Bool:=
 decide (i.dst=o.dst)&&J4 ops i.guard o.guard &&
 match i.op,o.op with
 |.call f args,.call { callee:=.value (.func g),args:=as,argTypes:=_ }=>decide (f=g)&&Ap.fitOs args as.toList
 |.calld x args,.call { callee:=.value y,args:=as,argTypes:=_ }=>Be x y&&Ap.fitOs args as.toList
 |.eqnil neg x,.binOp op t y (.const (.slice none 0 0)) _=>decide (op=if neg then .neq else .eql)&&(match P.underlying t with|some (.slice _)=>true|_=>false)&&Be x y
 |.eqnil _ _,_=>false
 |.call _ _,_=>false
 |.calld _ _,_=>false
 |.bad,_=>true
 |ao,oo=>Ap P ao oo||Bu P ao oo
def P2(P:Program)(ops:Array Oper):List AInstr->List Oper->Bool
 |[],[]=>true
 |i::is,o::os=>fitI P ops i o&&P2 P ops is os
 |_,_=>false
def Dm:AOp->List Opd
 |.mv x=>[x]
 |.pick c a b=>[c,a,b]
 |.alloc _=>[]
 |.box x=>[x]
 |.build _ parts=>parts.map (·.2.2)
 |.bslice _ _ _ parts=>parts.map (·.2)
 |.load _ _ x=>[x]
 |.store _ p x=>[p,x]
 |.nilchk x=>[x]
 |.bini _ x y=>[x,y]
 |.bins _ x y=>[x,y]
 |.eqb _ x y=>[x,y]
 |.eqs _ _ x y=>[x,y]
 |.un _ x=>[x]
 |.convi _ x=>[x]
 |.convsb x=>[x]
 |.convbs x=>[x]
 |.convss x=>[x]
 |.mksl _ _ _ l c=>[l,c]
 |.slices x lo hi=>x::(lo.toList++hi.toList)
 |.slicel _ x lo hi=>x::(lo.toList++hi.toList)
 |.slicez x=>[x]
 |.slice3 x lo hi mx=>[x,lo,hi,mx]
 |.eqnil _ x=>[x]
 |.faddr _ x=>[x]
 |.field _ _ _ x=>[x]
 |.iaddr _ x i=>[x,i]
 |.iaddra _ _ x i=>[x,i]
 |.indexs x i=>[x,i]
 |.indexa _ _ _ x i=>[x,i]
 |.cap x=>[x]
 |.ext x _=>[x]
 |.len _ x=>[x]
 |.append _ _ _ x y=>[x,y]
 |.copy _ x y=>[x,y]
 |.clear _ _ x=>[x]
 |.min2 x y=>[x,y]
 |.max2 x y=>[x,y]
 |.mkfn _ f c=>f++c
 |.call _ args=>args
 |.calld x args=>x::args
 |.bad=>[]
def aw8:Opd->List Nat
 |.t n=>[n]
 |.c _=>[]
def slotsI(i:AInstr):List Nat:=
 (Dm i.op).flatMap aw8++(match i.guard with
  |some (g,_)=>[g]
  |none=>[])
def Yh(ops:Array Oper):Nat->Nat->Nat->Bool
 |0,_,_=>false
 |k+1,j,i=>match ops[j]? with
   |some o=>o.after.any λe=>Region.binds .any e&&(e.on==i||Yh ops k e.on i)
   |none=>false
def c74(is:List AInstr)(ops:Array Oper)(i:Nat)(a:AInstr)(o:Oper):Bool:=
 (List.range is.length).all (λj=>match is[j]? with
  |some b=>match b.dst with
    |some d=>(!(slotsI a).contains d||(decide (j<i)&&o.after.any λe=>e.on==j&&Region.binds .any e)||(decide (i<j)&&Yh ops is.length j i))&&(decide (i=j)||decide (a.dst≠some d))
    |none=>true
  |none=>true)&&o.after.all λe=> !Region.binds .any e||decide (e.on<i)
def e0z(is:List AInstr)(ops:Array Oper):Bool:=
 (List.range is.length).all λi=>match is[i]?,ops[i]? with
  |some a,some o=>c74 is ops i a o
  |_,_=>true
def Wu(ops:Array Oper)(tab:List (List Nat)):Bool:=
 decide (tab.length=ops.size)&&(List.range ops.size).all λj=>match ops[j]? with
  |some o=>o.after.all (λe=> !Region.binds .any e||decide (e.on<j)) &&
   (tab.getD j []).all λi=>o.after.any λe=>Region.binds .any e&&(e.on==i||(tab.getD e.on []).contains i)
  |none=>true
def sepOK(tab:List (List Nat)):List (List (Nat×AInstr))->Bool
 |[]=>true
 |s::rest=> !s.isEmpty&&rest.flatten.all (λy=>s.all λx=>(tab.getD y.1 []).contains x.1)&&sepOK tab rest
def bb3(P:Program)(ops:Array Oper)(l:List (Nat×AInstr)):Bool:=
 (l.all λx=>match ops[x.1]? with|some o=>fitI P ops x.2 o|none=>false)&&decide ((l.map Prod.fst).Nodup)&&(List.range ops.size).all λj=>(l.map Prod.fst).contains j
def fitC(P:Program):ACode->Code->Bool
 |.skip,.skip=>true
 |.reg is,.region _ ops false=>P2 P ops is ops.toList
 |.dreg is,.region _ ops true=>P.follows .mixedOrders&&(P2 P ops is ops.toList&&e0z is ops)
 |.dregE segs tab,.region _ ops true=>P.follows .mixedOrders&&(bb3 P ops segs.flatten&&(Wu ops tab&&sepOK tab segs))
 |.seq a b,.seq c d=>fitC P a c&&fitC P b d
 |.cond x a b,.cond y c d=>Be x y&&fitC P a c&&fitC P b d
 |.block i a,.block j c=>decide (i=j)&&fitC P a c
 |.loop a,.loop c=>fitC P a c
 |.exit i,.exit j=>decide (i=j)
 |.ret,.ret=>true
 |.bad,_=>true
 |_,_=>false
structure LeN(n:Nat)(E E':Env):Prop where
 F:∀ b o,E.F b=some o->E'.F b=some o
 ρ:∀ r x,r<n->E.ρ r=some x->∃ x',E'.ρ r=some x'/\(x'=x\/x.t<x'.t)
 X:E'.X=E.X
 os:E'.os=E.os
 tape:E'.tape=E.tape
 output:E'.output=E.output
theorem Le.toN{E E':Env}(h:Le E E')(n:Nat):LeN n E E':=⟨h.F,λr x _ hr=>h.ρ r x hr,h.X,h.os,h.tape,h.output⟩
theorem LeN.refl(n:Nat)(E:Env):LeN n E E:=(Le.refl E).toN n
theorem LeN.trans{n:Nat}{A B C:Env}(h:LeN n A B)(h':LeN n B C):LeN n A C:=by
 refine⟨λb o hb=>h'.F b o (h.F b o hb),λr x hn hr=>?_,h'.X.trans h.X,h'.os.trans h.os,h'.tape.trans h.tape,h'.output.trans h.output⟩;obtain⟨y,hy,e⟩:=h.ρ r x hn hr;obtain⟨z,hz,e'⟩:=h'.ρ r y hn hy;refine⟨z,hz,?_⟩;rcases e with rfl|e
 ·exact e'
 ·rcases e' with rfl|e'
  ·exact .inr e
  ·exact .inr (Nat.lt_trans e e')
theorem LeN.full{n:Nat}{E E':Env}{w:World}{H:AH}(h:LeN n E E')(hs:Sim E w H)(hn:H.length<=n):Le E E' :=
 ⟨h.F,λr x hr=>h.ρ r x (Nat.lt_of_lt_of_le (hs.dom r x hr) hn) hr,h.X,h.os,h.tape,h.output⟩
def ar6(P:Program)(f:FuncId):Prop:=∃ fn,P.funcs[f]?=some fn/\(fn.name == "runtime.NumGoroutine")=false/\fn.body.isNone=false
def C(P:Program)(f:FuncId)(args:List AV)(H:AH)(K:AV->AH->Prop):Prop:=
 ar6 P f/\∀ E w vs,Sim E w H->RepL E args vs->Calls P f vs w λe w'=>∃ v E' x H',e=.returned v/\K x H'/\LeN H.length E E'/\Sim E' w' H'/\Rep E' x v
theorem C.mono{P:Program}{f:FuncId}{args:List AV}{H:AH}{K K':AV->AH->Prop}(h:C P f args H K)(hk:∀ x H',K x H'->K' x H'):C P f args H K' :=
 ⟨h.1,λE w vs hs hr=>(h.2 E w vs hs hr).mono λ_ _ ⟨v,E',x,H',he,hx,rest⟩=>⟨v,E',x,H',he,hk _ _ hx,rest⟩⟩
def Aq(fr:List AV)(d:Option Nat)(v:AV):List AV:=
 match d with
 |some d=>fr.set d v
 |none=>fr
def V1(x:Option (AV×AH))(K:AV->AH->Prop):Prop:=
 match x with
 |some (v,H)=>K v H
 |none=>False
theorem d47{x:Option (AV×AH)}{K:AV->AH->Prop}(h:V1 x K):∃ v H,x=some (v,H)/\K v H:=by
 unfold V1 at h;split at h
 ·exact⟨_,_,rfl,h⟩
 ·exact h.elim
def Nx(H:AH):AV->Option (Option Bool)
 |.fz []=>some none
 |.emp=>some none
 |.fz (_::_)=>some (some false)
 |.own r _ _ len tot=>(Am H r tot).map λ_=>if 0<len then some false else none
 |_=>none
def Ob(P:Program)(i:AInstr)(K:List AV->AH->Prop)(fr:List AV)(H:AH):Prop:=
 match i.op with
 |.call f args=>C P f (args.map (evalA fr)) H λx H'=>K (Aq fr i.dst x) H'
 |.calld x args=>∃ f first cap,evalA fr x=.fn (.func f) first cap/\C P f (first++args.map (evalA fr)++cap) H λx H'=>K (Aq fr i.dst x) H'
 |.eqnil neg x=>∃ q,Nx H (evalA fr x)=some q/\∀ b,(∀ c,q=some c->b=c)->K (Aq fr i.dst (.bool (b != neg))) H
 |op=>V1 (D8 op (evalA fr) H) λv H'=>K (Aq fr i.dst v) H'
def S5(x:Option AV)(want:Bool)(yes no:Prop):Prop:=(∃ b,x=some (.bool b)/\(b=want->yes)/\(b≠want->no))\/(x=some (.tuple [])/\no)
def RA(P:Program):List AInstr->(List AV->AH->Prop)->List AV->AH->Prop
 |[],K,fr,H=>K fr H
 |i::rest,K,fr,H=>
   match i.guard with
   |none=>Ob P i (RA P rest K) fr H
   |some (g,want)=>S5 (fr[g]?) want (Ob P i (RA P rest K) fr H) (RA P rest K (Aq fr i.dst (.tuple [])) H)
abbrev APost:=AExit->List AV->AH->Prop
def lft(n0:Nat)(E:Env)(Q:APost):Exit->Act->World->Prop:=λex a' w' =>
 ∃ E' fr' H' aex,d03 aex=ex/\Q aex fr' H'/\LeN n0 E E'/\Sim E' w' H'/\RepL E' fr' a'.tmps/\a'.defers=[]
def W(P:Program)(n0:Nat)(ac:ACode)(Q:APost)(fr:List AV)(H:AH):Prop:=
 ∀ (c:Code) (E:Env) (w:World) (a:Act),fitC P ac c=true->Sim E w H->RepL E fr a.tmps->a.defers=[]->c.wp P (lft n0 E Q) a w
section
variable {P:Program} {n0:Nat} {Q Q':APost} {fr:List AV} {H:AH}
theorem Iz{E:Env}{a:Act}(hr:RepL E fr a.tmps){x:AV}{v:Value}(hx:Rep E x v)(d:Option Nat):RepL E (Aq fr d x) (a.put d v).tmps:=by
 cases d with
 |none=>exact hr
 |some d=>exact hr.set hx d
theorem J0{a:Act}(h:a.defers=[])(d:Option Nat)(v:Value):(a.put d v).defers=[]:=by
 cases d<;>exact h
theorem bv9{E E':Env}(hE:LeN n0 E E'){ex:Exit}{a:Act}{w:World}(h:lft n0 E' Q ex a w):lft n0 E Q ex a w:=by
 obtain⟨E2,fr',H',aex,h1,h2,h3,h4⟩:=h;exact⟨E2,fr',H',aex,h1,h2,hE.trans h3,h4⟩
theorem Tu{ac:ACode}(h:W P n0 ac Q fr H)(hq:∀ ex fr' H',Q ex fr' H'->Q' ex fr' H'):W P n0 ac Q' fr H:=by
 intro c E w a hf hs hr hd;refine wp_mono (h c E w a hf hs hr hd) ?_;rintro ex a' w' ⟨E',fr',H',aex,h1,h2,h3⟩;exact⟨E',fr',H',aex,h1,hq _ _ _ h2,h3⟩
theorem cd8(h:Q .normal fr H):W P n0 .skip Q fr H:=by
 intro c E w a hf hs hr hd;cases c<;>simp only[fitC,e52]at hf;exact wp_skip ⟨E,fr,H,.normal,rfl,h,LeN.refl _ _,hs,hr,hd⟩
theorem cd9(h:Q .ret fr H):W P n0 .ret Q fr H:=by
 intro c E w a hf hs hr hd;cases c<;>simp only[fitC,e52]at hf;exact wp_ret ⟨E,fr,H,.ret,rfl,h,LeN.refl _ _,hs,hr,hd⟩
theorem ce0{id:Nat}(h:Q (.exit id) fr H):W P n0 (.exit id) Q fr H:=by
 intro c E w a hf hs hr hd;cases c<;>simp only[fitC,e52]at hf;simp only[e5h]at hf;subst hf;exact wp_exit ⟨E,fr,H,.exit id,rfl,h,LeN.refl _ _,hs,hr,hd⟩
def e3l(P:Program)(n0:Nat)(b:ACode)(Q:APost):APost
 |.normal,fr,H=>W P n0 b Q fr H
 |e,fr,H=>Q e fr H
theorem a6k{x y:ACode}(h:W P n0 x (e3l P n0 y Q) fr H):W P n0 (.seq x y) Q fr H:=by
 intro c E w a hf hs hr hd;cases c<;>simp only[fitC,e52,e5v]at hf;rename_i c d;refine wp_seq (wp_mono (h c E w a hf.1 hs hr hd) ?_);rintro ex a' w' ⟨E',fr',H',aex,rfl,h2,h3,h4,h5,h6⟩;cases aex with
 |normal=>exact wp_mono (h2 d E' w' a' hf.2 h4 h5 h6) (λex a w hl=>bv9 h3 hl)
 |exit id=>exact⟨E',fr',H',.exit id,rfl,h2,h3,h4,h5,h6⟩
 |ret=>exact⟨E',fr',H',.ret,rfl,h2,h3,h4,h5,h6⟩
theorem a6l{x:Opd}{a b:ACode}(bv:Bool)(hx:evalA fr x=.bool bv)(ht:bv=true->W P n0 a Q fr H)(hf':bv=false->W P n0 b Q fr H):W P n0 (.cond x a b) Q fr H:=by
 intro c E w act hf hs hr hd;cases c<;>simp only[fitC,e52,e5v]at hf;rename_i y c d;obtain⟨⟨h1,h2⟩,h3⟩:=hf;have hv:=Bd hr h1;rw[hx]at hv;exact wp_cond_split (Q4 hv) (λh=>ht h c E w act h2 hs hr hd) (λh=>hf' h d E w act h3 hs hr hd)
def ar1(id:Nat)(Q:APost):APost
 |.exit j,fr,H=>if j=id then Q .normal fr H else Q (.exit j) fr H
 |e,fr,H=>Q e fr H
theorem b3i{id:Nat}{b:ACode}(h:W P n0 b (ar1 id Q) fr H):W P n0 (.block id b) Q fr H:=by
 intro c E w a hf hs hr hd;cases c<;>simp only[fitC,e52,e5v,e5h]at hf;rename_i j c;obtain⟨rfl,hf⟩:=hf;refine wp_block (wp_mono (h c E w a hf hs hr hd) ?_);rintro ex a' w' ⟨E',fr',H',aex,rfl,h2,h3,h4,h5,h6⟩;cases aex with
 |normal=>exact⟨E',fr',H',.normal,rfl,h2,h3,h4,h5,h6⟩
 |ret=>exact⟨E',fr',H',.ret,rfl,h2,h3,h4,h5,h6⟩
 |exit j=>
   simp only[ar1]at h2
   show(if j=id then _ else _);split
   ·rename_i e;rw[if_pos e]at h2;exact⟨E',fr',H',.normal,rfl,h2,h3,h4,h5,h6⟩
   ·rename_i e;rw[if_neg e]at h2;exact⟨E',fr',H',.exit j,rfl,h2,h3,h4,h5,h6⟩
def Wk(n0:Nat)(fr:List AV)(H:AH)(fr':List AV)(H':AH):Prop:=
 ∀ (E:Env) (w:World) (vs:Array Value),Sim E w H->RepL E fr vs->∃ E',LeN n0 E E'/\Sim E' w H'/\RepL E' fr' vs
theorem Wk.refl(n0:Nat)(fr:List AV)(H:AH):Wk n0 fr H fr H:=λE _ _ hs hr=>⟨E,LeN.refl _ _,hs,hr⟩
theorem Wk.trans{n0:Nat}{f1 f2 f3:List AV}{H1 H2 H3:AH}(h:Wk n0 f1 H1 f2 H2)(h':Wk n0 f2 H2 f3 H3):Wk n0 f1 H1 f3 H3:=by
 intro E w vs hs hr;obtain⟨E1,a1,b1,c1⟩:=h E w vs hs hr;obtain⟨E2,a2,b2,c2⟩:=h' E1 w vs b1 c1;exact⟨E2,a1.trans a2,b2,c2⟩
theorem ao4{ac:ACode}{fr':List AV}{H':AH}(hw:Wk n0 fr H fr' H')(h:W P n0 ac Q fr' H'):W P n0 ac Q fr H:=by
 intro c E w a hf hs hr hd;obtain⟨E',h1,h2,h3⟩:=hw E w a.tmps hs hr;exact wp_mono (h c E' w a hf h2 h3 hd) (λex a w hl=>bv9 h1 hl)
def QWk(n0:Nat)(Q:APost):APost:=λex fr H=>∃ fr' H',Wk n0 fr H fr' H'/\Q ex fr' H'
theorem e3b{ac:ACode}(h:W P n0 ac (QWk n0 Q) fr H):W P n0 ac Q fr H:=by
 intro c E w a hf hs hr hd;refine wp_mono (h c E w a hf hs hr hd) ?_;rintro ex a' w' ⟨E',fr',H',aex,rfl,⟨fr2,H2,hwk,h2⟩,h3,h4,h5,h6⟩;obtain⟨E2,g1,g2,g3⟩:=hwk E' w' a'.tmps h4 h5;exact⟨E2,fr2,H2,aex,rfl,h2,h3.trans g1,g2,g3,h6⟩
def e3m(n0:Nat)(I:Nat->List AV->AH->Prop)(n:Nat)(Q:APost):APost
 |.normal,fr,H=>∃ fr' H',Wk n0 fr H fr' H'/\∃ n',n'<n/\I n' fr' H'
 |e,fr,H=>Q e fr H
theorem e3c{b:ACode}(I:Nat->List AV->AH->Prop)(n:Nat)(h0:I n fr H)(hround:∀ n fr H,I n fr H->W P n0 b (e3m n0 I n Q) fr H):W P n0 (.loop b) Q fr H:=by
 intro c E w a hf hs hr hd;cases c<;>simp only[fitC,e52]at hf;rename_i c;refine wp_loop_ghost (λn a w=>∃ E' fr' H',I n fr' H'/\LeN n0 E E'/\Sim E' w H'/\RepL E' fr' a.tmps/\a.defers=[]) n ⟨E,fr,H,h0,LeN.refl _ _,hs,hr,hd⟩ ?_;rintro n a w ⟨E1,fr1,H1,hI,hle,hs1,hr1,hd1⟩;refine wp_mono (hround n fr1 H1 hI c E1 w a hf hs1 hr1 hd1) ?_;rintro ex a' w' ⟨E',fr',H',aex,rfl,h2,h3,h4,h5,h6⟩;cases aex with
 |normal=>
   obtain⟨fr2,H2,hwk,n',hlt,hI'⟩:=h2;obtain⟨E2,g1,g2,g3⟩:=hwk E' w' a'.tmps h4 h5;exact⟨n',hlt,E2,fr2,H2,hI',(hle.trans h3).trans g1,g2,g3,h6⟩
 |exit id=>exact⟨E',fr',H',.exit id,rfl,h2,hle.trans h3,h4,h5,h6⟩
 |ret=>exact⟨E',fr',H',.ret,rfl,h2,hle.trans h3,h4,h5,h6⟩
theorem a1b{E:Env}{a:Act}(hr:RepL E fr a.tmps):∀ (xs:List Opd) (ys:List Operand),Ap.fitOs xs ys=true->RepL E (xs.map (evalA fr)) (ys.map a.eval).toArray:=by
 intro xs
 induction xs with
 |nil=>intro ys h;cases ys<;>simp only[Ap.fitOs,e52]at h;exact RepL.nil E
 |cons x xs ih=>
   intro ys h;cases ys with
   |nil=>simp[Ap.fitOs]at h
   |cons y ys=>
     simp only[Ap.fitOs,e5v]at h
     have:=ih ys h.2;refine⟨by have:=this.1;simp at this;simp[this],λi c u hc hu=>?_⟩;cases i with
     |zero=>simp at hc hu;subst hc;subst hu;exact Bd hr h.1
     |succ i=>exact this.2 i c u (by simpa using hc) (by simpa using hu)
theorem Zz{f:FuncId}(h:ar6 P f)(args:Array Value)(w:World):(callFunc f args).run P w=.ok (.enter f args) w:=by
 obtain⟨fn,h1,h2,h3⟩:=h;unfold callFunc;simp only[e7i,program,Sem.run,Result.andThen,h1,h2,e52,if_false,h3];rfl
theorem e0f{E1:Env}{w:World}{a:Act}{o:Oper}{neg:Bool}{x:Opd}{bo:BinOp}{t ty:TypeId}{y:Operand}(e2:o.op=.binOp bo t y (.const (.slice none 0 0)) ty)
 (hf:(decide (bo=if neg then .neq else .eql)&&(match P.underlying t with|some (.slice _)=>true|_=>false)&&Be x y)=true) (hs:Sim E1 w H) (hr:RepL E1 fr a.tmps) {q:Option Bool} (hq:Nx H (evalA fr x)=some q) :
 ∃ b:Bool,(∀ c,q=some c->b=c)/\(execOp a.eval o).run P w=.ok (.value (.bool (b != neg))) w:=by
 simp only[e5v,e5h]at hf;obtain⟨⟨hbo,ht⟩,hx⟩:=hf;have hxr:=Bd hr hx;obtain⟨et,hu⟩:∃ e,P.underlying t=some (.slice e):=by
  split at ht
  ·exact⟨_,by assumption⟩
  ·cases ht
 obtain⟨ad,len,cap,he,hb⟩:∃ ad len cap,a.eval y=.slice ad len cap/\∀ c,q=some c->ad.isNone=c:=by
  unfold Nx at hq;split at hq
  ·rename_i e;rw[e]at hxr;cases hq;obtain⟨ad,cap,he,_⟩:=Oe hxr;exact⟨ad,_,cap,he,λc hc=>by cases hc⟩
  ·rename_i e;rw[e]at hxr;cases hq;obtain⟨ad,he⟩:=Hg hxr;exact⟨ad,0,0,he,λc hc=>by cases hc⟩
  ·rename_i e0 er e;rw[e]at hxr;cases hq;obtain⟨ad,cap,he,_,hne⟩:=Oe hxr;obtain⟨b,off,sz,cells,t',q',rfl,_⟩:=hne (by simp);exact⟨_,_,cap,he,λc hc=>by cases hc;rfl⟩
  ·rename_i r sz off len tot e;rw[e]at hxr;cases hl:Am H r tot with
   |none=>rw[hl]at hq;cases hq
   |some o=>
     rw[hl]at hq;simp only[e6h,e5i]at hq;rcases Iu hxr (G1 hs hl).2.2 with ⟨ad,rfl,rfl,rfl,he⟩|⟨x',cap,_,_,g1,g2,g3,_,he⟩
     ·exact⟨ad,0,0,he,λc hc=>by rw[<-hq]at hc;simp at hc⟩
     ·refine⟨_,len,cap,he,λc hc=>?_⟩;rw[<-hq]at hc;split at hc
      ·cases hc;rfl
      ·cases hc
  ·cases hq
 have heq:(Op.equal t (.slice ad len cap) (.slice none 0 0)).run P w=.ok ad.isNone w:=by
  have:Op.equal t (.slice ad len cap) (.slice none 0 0)=Op.equalIn (9999+1) t (.slice ad len cap) (.slice none 0 0):=rfl;rw[this];unfold Op.equalIn;simp only[e7i,e6u hu,Result.andThen];cases ad<;>rfl
 refine⟨ad.isNone,hb,?_⟩;simp only[execOp,e2,he,show a.eval (.const (.slice none 0 0))=.slice none 0 0 from rfl];apply Dn;have hg:∀ bo,(eqGuard bo t y (.const (.slice none 0 0)) (.slice ad len cap) (.slice none 0 0)).run P w=.ok () w:=λbo=>by cases bo<;>rfl
 simp only[e7i,hg,Result.andThen,hbo];cases neg<;>simp only[binOp,if_true,if_false,e52,e7i,heq,Result.andThen]<;>cases ad<;>rfl
theorem av9{E E1:Env}{w:World}{a:Act}{ops:Array Oper}{i:AInstr}{o:Oper}(hf:fitI P ops i o=true)(hs:Sim E1 w H)(hr:RepL E1 fr a.tmps)(hd:a.defers=[])(hle:LeN n0 E E1)
 {K:List AV->AH->Prop} (h:Ob P i K fr H) {next:Act->World->Prop} {QQ:Exit->Act->World->Prop}
 (hk:∀ E' fr' H' a' w',K fr' H'->LeN n0 E E'->Sim E' w' H'->RepL E' fr' a'.tmps->a'.defers=[]->next a' w'):o.wp P a w next QQ:=by
 unfold fitI at hf;rw[e5v,e5v]at hf;obtain⟨⟨hdst,_⟩,hf⟩:=hf;have hdst:i.dst=o.dst:=by simpa using hdst
 have callk:∀ {f:FuncId} {args:List AV} {vs:Array Value},C P f args H (λx H'=>K (Aq fr i.dst x) H')->RepL E1 args vs->(execOp a.eval o).run P w=.ok (.enter f vs) w->o.wp P a w next QQ:=by
  intro f args vs hC hrl hrun;unfold Oper.wp;rw[hrun]
  refine(hC.2 E1 w vs hs hrl).mono ?_;rintro e w' ⟨v,E',x,H',rfl,hK,hle',hs',hx⟩;have hfull:=hle'.full hs (e7y _);rw[hdst]at hK;exact hk E' _ H' _ w' hK (hle.trans (hfull.toN n0)) hs' (Iz (hr.mono hfull) hx o.dst) (J0 hd _ _)
 have plain:(Ap P i.op o.op||Bu P i.op o.op)=true->(∃ v H',D8 i.op (evalA fr) H=some (v,H')/\K (Aq fr i.dst v) H')->o.wp P a w next QQ:=by
  rintro hf ⟨v,H',hv,hK⟩;obtain⟨u,w',E',hrun,hle',hs',hx⟩:=d4i hf rfl hs hr hv;rw[hdst]at hK;unfold Oper.wp;rcases hrun with hrun|⟨hrun,rfl⟩
  ·rw[hrun];exact hk E' _ H' _ w' hK (hle.trans (hle'.toN n0)) hs' (Iz (hr.mono hle') hx o.dst) (J0 hd _ _)
  ·rw[hrun];exact hk E' _ H' _ w' hK (hle.trans (hle'.toN n0)) hs' (Iz (hr.mono hle') hx o.dst) (J0 hd _ _)
 obtain⟨dst,guard,op⟩:=i;unfold Ob at h;cases op
 case call f args=>
  simp only at hf h;split at hf
  ·rename_i f' args' g as ats e1 e2;cases e1;rw[e5v,e5h]at hf;obtain⟨rfl,hargs⟩:=hf;refine callk h (a1b hr _ as.toList hargs) ?_;have:(as.toList.map a.eval).toArray=as.map a.eval:=(by apply e81;simp);rw[this];simp only[execOp,e2,resolve,Deferred.ofValue,show ∀ g,a.eval (.func g)=.func (.func g) #[] #[]from λ_=>rfl,e7i,e7j,Result.andThen,invoke];rw[show(#[]++as.map a.eval++ #[]:Array Value)=as.map a.eval from by simp];exact Zz h.1 _ _
  all_goals first|(rename_i e _;cases e;done)|(rename_i e;cases e;done)|(simp at hf;done)|(simp_all;done)
 case calld x args=>
  simp only at hf h;split at hf
  ·rename_i e _;cases e
  ·rename_i x' args' y as ats e1 e2;cases e1;rw[e5v]at hf;obtain⟨hx,hargs⟩:=hf;obtain⟨f,first,cap,hev,hC⟩:=h;have hxr:=Bd hr hx;rw[hev]at hxr;obtain⟨vs,ws,hval,l1,l2,i1,i2⟩:=be4 hxr;have har:=a1b hr _ as.toList hargs;have e3:(as.toList.map a.eval).toArray=as.map a.eval:=(by apply e81;simp);rw[e3]at har;have hall:=RepL.append (RepL.append (show RepL E1 first vs from ⟨l1,i1⟩) har) (show RepL E1 cap ws from ⟨l2,i2⟩);refine callk hC hall ?_;simp only[execOp,e2,resolve,hval,Deferred.ofValue,e7i,e7j,Result.andThen,invoke];exact Zz hC.1 _ _
  all_goals first|(rename_i e _;cases e;done)|(rename_i e;cases e;done)|(simp at hf;done)|(simp_all;done)
 case eqnil=>
  simp only at hf h;have hdst':dst=o.dst:=hdst;obtain⟨q,hq,hK⟩:=h;split at hf
  ·rename_i e _;cases e
  ·rename_i e _;cases e
  ·rename_i neg' x' bo t y ty e1 e2;cases e1;obtain⟨b,hb,hrun⟩:=e0f e2 hf hs hr hq;have hK':=hK b hb;rw[hdst']at hK';unfold Oper.wp;rw[hrun];exact hk E1 _ H _ w hK' hle hs (Iz hr (.pure (x:=.bool _) (.bool _)) o.dst) (J0 hd _ _)
  all_goals first|(rename_i e _;cases e;done)|(rename_i e;cases e;done)|(simp at hf;done)|(simp_all;done)
 case bad=>exact(show False from h).elim
 all_goals
  simp only at h;refine plain ?_ (d47 h)
  revert hf
  cases o.op<;>intro hf<;>first|exact hf|(simp at hf;done)
theorem a8m(E:Env):Rep E (.tuple []) undef:=.tuple [] #[] rfl (λi c u hc _=>by simp at hc)
theorem b9u{fr:List AV}{s:Nat}{x:AV}(hb:fr[s]?=some x):s<fr.length:=by
 rcases e7h s fr.length with h'|h'
 ·exact h'
 ·rw[e4j h']at hb;cases hb
theorem a7c{E:Env}{tmps:Array Value}{ops:Array Oper}{s j:Nat}{b:Bool}(hr:RepL E fr tmps)(hb:fr[s]?=some (.bool b))(hj:(ops[j]?).bind (·.dst)=some s):yielded ops tmps j=some b:=by
 have hlt:s<tmps.size:=by have:=hr.1;have:=b9u hb;omega
 have htm:tmps[s]?=some (.bool b):=by
  have hg:=e44 hlt;rw[hg,Q4 (hr.2 s _ _ hb hg)]
 unfold yielded;rw[hj];simp[htm]
theorem ar8{E:Env}{tmps:Array Value}{ops:Array Oper}{s j:Nat}(hr:RepL E fr tmps)(hb:fr[s]?=some (.tuple []))(hj:(ops[j]?).bind (·.dst)=some s):yielded ops tmps j=none:=by
 have hlt:s<tmps.size:=by have:=hr.1;have:=b9u hb;omega
 have hg:=e44 hlt;obtain⟨vs,hv,_⟩:=be1 (hr.2 s _ _ hb hg);rw[hv]at hg;unfold yielded;rw[hj];simp[hg]
theorem ay7{E:Env}{ops:Array Oper}:∀ (l:List Oper) (is:List AInstr) (E1:Env) (a:Act) (w:World) (fr:List AV) (H:AH),P2 P ops is l=true->RA P is (Q .normal) fr H->Sim E1 w H->RepL E1 fr a.tmps->a.defers=[]->
 LeN n0 E E1->wpList P ops (lft n0 E Q) l a w
 |[],is,E1,a,w,fr,H,hf,h,hs,hr,hd,hle=>by
   cases is with
   |cons i is=>simp[P2]at hf
   |nil=>exact⟨E1,fr,H,.normal,rfl,h,hle,hs,hr,hd⟩
 |o::l,is,E1,a,w,fr,H,hf,h,hs,hr,hd,hle=>by
   cases is with
   |nil=>simp[P2]at hf
   |cons i is=>
     simp only[P2,e5v]at hf;obtain⟨hi,hrest⟩:=hf;have step:∀ (hst:Ob P i (RA P is (Q .normal)) fr H),o.wp P a w (wpList P ops (lft n0 E Q) l) (lft n0 E Q):=λhst=>
      av9 hi hs hr hd hle hst λE' fr' H' a' w' hK hle' hs' hr' hd'=>ay7 l is E' a' w' fr' H' hrest hK hs' hr' hd' hle'
     have hg:J4 ops i.guard o.guard=true:=by
      unfold fitI at hi;rw[e5v,e5v]at hi;exact hi.1.2
     have hdst:i.dst=o.dst:=by
      unfold fitI at hi;rw[e5v,e5v]at hi;simpa using hi.1.1
     unfold RA at h;unfold wpList;cases hig:i.guard with
     |none=>
       rw[hig]at hg h;cases hog:o.guard with
       |some g=>rw[hog]at hg;simp[J4]at hg
       |none=>
         rw[if_pos (by simp[Region.wanted,hog])];exact .inl (step h)
     |some g=>
       obtain⟨s,want⟩:=g;rw[hig]at hg h;cases hog:o.guard with
       |none=>rw[hog]at hg;simp[J4]at hg
       |some g' =>
         obtain⟨j,want'⟩:=g';rw[hog]at hg;simp only[J4,e5v,beq_iff_eq,e5h]at hg;obtain⟨rfl,hj⟩:=hg;have skip:Region.wanted o (yielded ops a.tmps)=false->RA P is (Q .normal) (Aq fr i.dst (.tuple [])) H->(if Region.wanted o (yielded ops a.tmps)=true then o.wp P a w (wpList P ops (lft n0 E Q) l) (lft n0 E Q)\/(o.asks P a w/\LetsOut (lft n0 E Q))else wpList P ops (lft n0 E Q) l (a.put o.dst undef) w):=by
          intro hw hno;rw[hw,if_neg (by simp)];refine ay7 l is E1 _ w _ H hrest hno hs ?_ (J0 hd _ _) hle;rw[hdst];exact Iz hr (a8m E1) _
         rcases h with ⟨b,hb,hyes,hno⟩|⟨hb,hno⟩
         ·have hy:yielded ops a.tmps j=some b:=a7c hr hb hj;have hw:Region.wanted o (yielded ops a.tmps)=(b==want):=by
           simp only[Region.wanted,hog,hy];cases b<;>cases want<;>rfl
          by_cases hbw:b=want
          ·rw[hw,if_pos (by simpa using hbw)];exact .inl (step (hyes hbw))
          ·exact skip (by rw[hw];simpa using hbw) (hno hbw)
         ·have hy:yielded ops a.tmps j=none:=ar8 hr hb hj;have hw:Region.wanted o (yielded ops a.tmps)=false:=by
           simp only[Region.wanted,hog,hy];rfl
          exact skip hw hno
theorem ao5{is:List AInstr}(h:RA P is (Q .normal) fr H):W P n0 (.reg is) Q fr H:=by
 intro c E w a hf hs hr hd;cases c<;>try (simp only[fitC,e52]at hf;done)
 rename_i id ops draw;cases draw<;>simp only[fitC,e52]at hf;exact wp_region_list (ay7 ops.toList is E a w fr H hf h hs hr hd (LeN.refl _ _))
end
end
inductive ARes where
 |tmp (t:Nat)
 |cell (t:Nat) (agg:Bool) (n:Nat)
 deriving Inhabited
def Fx(fr:List AV)(H:AH):ARes->Option AV
 |.tmp t=>some ((fr[t]?).getD .top)
 |.cell t agg n=>(Jl H n ((fr[t]?).getD .top)).map (Du agg)
def F8(fr:List AV)(H:AH):List ARes->Option (List AV)
 |[]=>some []
 |r::rs=>
   match Fx fr H r,F8 fr H rs with
   |some v,some vs=>some (v::vs)
   |_,_=>none
def Gk:List AV->AV
 |[v]=>v
 |vs=>.tuple vs
def Ea(rs:List ARes)(fr:List AV)(H:AH):Option AV:=(F8 fr H rs).map Gk
def b1o(P:Program):ARes->ResultVar->Bool
 |.tmp t,.tmp u=>decide (t=u)
 |.cell t agg n,.cell u ty=>decide (t=u)&&Nl P ty agg n&&(agg||decide (n=1))
 |_,_=>false
def fitRs(P:Program):List ARes->List ResultVar->Bool
 |[],[]=>true
 |a::as,b::bs=>b1o P a b&&fitRs P as bs
 |_,_=>false
theorem bb9{P:Program}{E:Env}{w:World}{H:AH}{fr:List AV}{tmps:Array Value}(hs:Sim E w H)(hr:RepL E fr tmps)(f:ResultVar->Sem Value)(g1:∀ t,f (.tmp t)=pure (tmps.getD t undef))
 (g2:∀ a t,f (.cell a t)=do loadVar t (←asAddr (tmps.getD a undef))):∀ (rs:List ARes) (bs:List ResultVar) (xs:List AV),fitRs P rs bs=true->F8 fr H rs=some xs->
 ∃ vs:List Value,(bs.mapM f).run P w=.ok vs w/\RepL E xs vs.toArray
 |[],bs,xs,hf,he=>by
   cases bs with
   |cons b bs=>simp[fitRs]at hf
   |nil=>simp only[F8,e5i]at he;subst he;exact⟨[],by simp[e7j],RepL.nil E⟩
 |r::rs,bs,xs,hf,he=>by
   cases bs with
   |nil=>simp[fitRs]at hf
   |cons b bs=>
     simp only[fitRs,e5v]at hf;obtain⟨hf1,hf2⟩:=hf;simp only[F8]at he;split at he
     ·rename_i v vs h1 h2;cases he;obtain⟨us,hrun,hrep⟩:=bb9 hs hr f g1 g2 rs bs vs hf2 h2;have key:∃ u,(f b).run P w=.ok u w/\Rep E v u:=by
       cases r with
       |tmp t=>
         cases b<;>simp only[b1o,e52,e5h]at hf1;subst hf1;simp only[Fx,e5i]at h1;subst h1;exact⟨_,by rw[g1];rfl,hr.get _ _⟩
       |cell t agg n=>
         cases b<;>simp only[b1o,e52,e5v,e5h]at hf1;rename_i a ty;obtain⟨⟨rfl,hti⟩,hone⟩:=hf1;have ti:=a32 hti;simp only[Fx]at h1;cases hrd:Jl H n ((fr[t]?).getD .top)with
         |none=>rw[hrd]at h1;cases h1
         |some cs=>
           rw[hrd]at h1;cases h1;obtain⟨b',off,cells,te,q,hv,hb,hin,hcs⟩:=bj3 (P:=P) hs (hr.get t undef) hrd;have hone':agg=false->n=1:=(by intro h;subst h;simpa using hone);have hld:=bc0 (P:=P) ti hb hin hone';refine⟨if agg then .agg (cells.extract off (off+n))else(cells[off]?).getD undef,?_,?_⟩
           ·simp only[g2,hv,asAddr,e7i,e7j,Result.andThen];exact hld
           ·cases agg with
            |true=>exact .agg _ _ (by simpa using hcs.1) hcs.2
            |false=>
              have:=hone' rfl;subst this;simp only[Du,e52,if_false];have hl:=hcs.1;have h0:cs[0]?=some (cs[0]'(by simp at hl;omega)):=e47 _;rw[h0,e44 (show off<cells.size from by omega)];exact hcs.2 0 _ _ h0 (by rw[e4f];simp;omega)
      obtain⟨u,hu,hru⟩:=key;refine⟨u::us,?_,?_⟩
      ·simp only[List.mapM_cons,e7i,hu,Result.andThen,hrun,e7j]
      ·refine⟨by have:=hrep.1;simp at this;simp[this],λi c u' hc hu'=>?_⟩;cases i with
       |zero=>simp at hc hu';subst hc;subst hu';exact hru
       |succ i=>exact hrep.2 i c u' (by simpa using hc) (by simpa using hu')
     ·cases he
def a2q(res:List ARes)(K:AV->AH->Prop):APost
 |.exit _,_,_=>False
 |_,fr,H=>∃ x,Ea res fr H=some x/\K x H
structure FnD(P:Program)(f:FuncId)(np nt:Nat)(res:List ARes)(ac:ACode):Prop where
 ex:∃ fn code,P.funcs[f]?=some fn/\(fn.name == "runtime.NumGoroutine")=false/\fn.body=some code/\fn.ntmps=np+nt/\fitC P ac code=true/\fitRs P res fn.results.toList=true
theorem e3w{P:Program}{f:FuncId}{np nt:Nat}{res:List ARes}{ac:ACode}(hfd:FnD P f np nt res ac){args:List AV}{H:AH}{K:AV->AH->Prop}(hn:args.length=np)
 (h:W P H.length ac (a2q res K) (args++List.replicate nt .top) H):C P f args H K:=by
 obtain⟨fn,code,hf,hname,hbody,hnt,hfit,hres⟩:=hfd.ex;refine⟨⟨fn,hf,hname,by simp[hbody]⟩,λE w vs hs hr=>?_⟩;refine calls_of_wp hf hbody ?_;have hl:=hr.1;have hinit:RepL E (args++List.replicate nt .top) (vs++Array.replicate (fn.ntmps-vs.size) undef):=by
  refine RepL.append hr ⟨by simp;omega,λi c u hc _=>?_⟩;rw[List.getElem?_replicate]at hc;split at hc
  ·cases hc;exact .top _
  ·cases hc
 refine wp_mono (h code E w ⟨_,[]⟩ hfit hs hinit rfl) ?_;rintro ex a' w' ⟨E',fr',H',aex,rfl,hQ,hle,hs',hr',hd'⟩;have Bv:(∃ x,Ea res fr' H'=some x/\K x H')->a'.defers=[]/\∃ v,(results fn a'.tmps).run P w'=.ok v w' /\
  (∃ v' E'' x H'',Ending.returned v=.returned v'/\K x H''/\LeN H.length E E''/\Sim E'' w' H''/\Rep E'' x v'):=by
  rintro⟨x,hx,hK⟩;unfold Ea at hx;cases hxs:F8 fr' H' res with
  |none=>rw[hxs]at hx;cases hx
  |some xs=>
    rw[hxs]at hx;cases hx;obtain⟨us,hrun,hrep⟩:=bb9 (P:=P) hs' hr' (fun|.tmp t=>pure (a'.tmps.getD t undef)|.cell a t=>do loadVar t (←asAddr (a'.tmps.getD a undef))) (λ_=>rfl) (λ_ _=>rfl) res fn.results.toList xs hres hxs;refine⟨hd',(if h:us.toArray.size=1 then us.toArray[0]else .tuple us.toArray),?_,_,E',_,H',rfl,hK,hle,hs',?_⟩
    ·unfold results;rw[Array.mapM_eq_mapM_toList,e7i,Sem.run_map];refine Eq.trans (congrArg (λr:Result (List Value)=>Result.andThen (Result.andThen r (λa w=>.ok a.toArray w):Result (Array Value)) (λvs=>(pure (if h:vs.size=1 then vs[0]else .tuple vs):Sem Value).run P)) hrun) ?_;rfl
    ·match xs,hrep with
     |[x],hrep=>
       have hl1:us.toArray.size=1:=hrep.1.symm;rw[dif_pos hl1];exact hrep.2 0 x _ rfl (e44 om)
     |[],hrep=>
       rw[dif_neg (by rw[<-hrep.1];simp)];exact .tuple _ _ hrep.1 hrep.2
     |x::y::r,hrep=>
       rw[dif_neg (by rw[<-hrep.1];simp)];exact .tuple _ _ hrep.1 hrep.2
 cases aex with
 |normal=>exact Bv hQ
 |ret=>exact Bv hQ
 |exit id=>exact hQ.elim
def Wj:List AV->List AV->Prop
 |[],[]=>True
 |x::xs,y::ys=>(x=.top\/x=y)/\Wj xs ys
 |_,_=>False
theorem Wj.rep{E:Env}:∀ {xs ys:List AV} {vs:Array Value},Wj xs ys->RepL E ys vs->RepL E xs vs:=by
 intro xs ys vs h hr;have key:∀ (xs ys:List AV),Wj xs ys->xs.length=ys.length/\∀ (i:Nat) c,xs[i]?=some c->c=.top\/ys[i]?=some c:=by
  intro xs
  induction xs with
  |nil=>intro ys h;cases ys with|nil=>exact⟨rfl,λi c hc=>by simp at hc⟩|cons=>exact h.elim
  |cons x xs ih=>
    intro ys h;cases ys with
    |nil=>exact h.elim
    |cons y ys=>
      obtain⟨h1,h2⟩:=ih ys h.2;refine⟨by simp[h1],λi c hc=>?_⟩;cases i with
      |zero=>simp at hc;subst hc;rcases h.1 with rfl|rfl<;>simp
      |succ i=>exact h2 i c (by simpa using hc)
 obtain⟨h1,h2⟩:=key xs ys h;refine⟨h1.trans hr.1,λi c u hc hu=>?_⟩;rcases h2 i c hc with rfl|h'
 ·exact .top _
 ·exact hr.2 i c u h' hu
theorem ao2{n0:Nat}{fr fr':List AV}{H:AH}(h:Wj fr' fr):Wk n0 fr H fr' H:=λE _ _ hs hr=>⟨E,LeN.refl _ _,hs,h.rep hr⟩
mutual
def ren(τ:Nat->Option Nat):AV->AV
 |.own r sz off len tot=>match τ r with|some r'=>.own r' sz off len tot|none=>.top
 |.ptr r i j tot=>match τ r with|some r'=>.ptr r' i j tot|none=>.top
 |.agg cs=>.agg (Bw τ cs)
 |.tuple cs=>.tuple (Bw τ cs)
 |.fn f first cap=>.fn f (Bw τ first) (Bw τ cap)
 |.top=>.top
 |.bool b=>.bool b
 |.int k n=>.int k n
 |.str s=>.str s
 |.nilp=>.nilp
 |.emp=>.emp
 |.fz es=>.fz es
 |.fptr cs=>.fptr cs
 |.nilfn=>.nilfn
def Bw(τ:Nat->Option Nat):List AV->List AV
 |[]=>[]
 |x::xs=>ren τ x::Bw τ xs
end
theorem Jj(τ:Nat->Option Nat):∀ xs:List AV,Bw τ xs=xs.map (ren τ)
 |[]=>by simp[Bw]
 |x::xs=>by simp[Bw,Jj τ xs]
theorem bf6(τ:Nat->Option Nat)(p:PV):ren τ (emb p)=emb p:=by
 cases p<;>simp[emb,ren]
theorem X5{E E0:Env}{τ:Nat->Option Nat}(hF:∀ b o,E.F b=some o->E0.F b=some o)(hτ:∀ r r' y,τ r=some r'->E.ρ r=some y->E0.ρ r'=some y){x:AV}{v:Value}(h:Rep E x v):Rep E0 (ren τ x) v:=by
 induction h with
 |top v=>simp only[ren];exact .top v
 |pure h=>rw[bf6];exact .pure (h.mono hF)
 |agg cs vs hl _ ih=>
   simp only[ren,Jj];refine .agg _ _ (by simpa using hl) (λi c u hc hu=>?_);rw[e5j]at hc;cases hci:cs[i]? with
   |none=>rw[hci]at hc;cases hc
   |some c'=>rw[hci]at hc;cases hc;exact ih i c' u hci hu
 |tuple cs vs hl _ ih=>
   simp only[ren,Jj];refine .tuple _ _ (by simpa using hl) (λi c u hc hu=>?_);rw[e5j]at hc;cases hci:cs[i]? with
   |none=>rw[hci]at hc;cases hc
   |some c'=>rw[hci]at hc;cases hc;exact ih i c' u hci hu
 |fn f first cap vs ws hl hm _ _ ih ih' =>
   simp only[ren,Jj];refine .fn f _ _ _ _ (by simpa using hl) (by simpa using hm) (λi c u hc hu=>?_) (λi c u hc hu=>?_)
   ·rw[e5j]at hc;cases hci:first[i]? with
    |none=>rw[hci]at hc;cases hc
    |some c'=>rw[hci]at hc;cases hc;exact ih i c' u hci hu
   ·rw[e5j]at hc;cases hci:cap[i]? with
    |none=>rw[hci]at hc;cases hc
    |some c'=>rw[hci]at hc;cases hc;exact ih' i c' u hci hu
 |own0 r sz a=>
   simp only[ren];split
   ·exact .own0 _ sz a
   ·exact .top _
 |own r sz off len tot cap x hρ htot hsz hlen hcap hc hn=>
   simp only[ren];split
   ·rename_i r' hr';exact .own r' sz off len tot cap x (hτ r r' x hr' hρ) htot hsz hlen hcap hc hn
   ·exact .top _
 |ptr r i j tot x hρ htot=>
   simp only[ren];split
   ·rename_i r' hr';exact .ptr r' i j tot x (hτ r r' x hr' hρ) htot
   ·exact .top _
 |stale_own r sz off len tot v x hρ htot h1=>
   simp only[ren];split
   ·rename_i r' hr';exact .stale_own r' sz off len tot v x (hτ r r' x hr' hρ) htot h1
   ·exact .top _
 |stale_ptr r i j tot v x hρ htot h1=>
   simp only[ren];split
   ·rename_i r' hr';exact .stale_ptr r' i j tot v x (hτ r r' x hr' hρ) htot h1
   ·exact .top _
def renO(τ:Nat->Option Nat)(o:AObj):AObj:=o.map (Bw τ)
theorem bg0(τ:Nat->Option Nat)(o:AObj):(renO τ o).length=o.length:=by simp[renO]
theorem Lies.ren{E E0:Env}{τ:Nat->Option Nat}(hF:∀ b o,E.F b=some o->E0.F b=some o)(hτ:∀ r r' y,τ r=some r'->E.ρ r=some y->E0.ρ r'=some y){w w':World}{o:AObj}{x:Own}
 (h:Lies E w o x) (hout:E0.F x.b=none/\E0.X x.b=none) (hw:w'.heap[x.b]?=w.heap[x.b]?):Lies E0 w' (renO τ o) x:=by
 obtain⟨cells,t,q,hb,hn,hq,h1,hc⟩:=h.blk;refine⟨by rw[bg0];exact h.t,h.pos,hout,⟨cells,t,q,hw.trans hb,hn,hq,h1,?_⟩,?_,by rw[bg0];exact h.fits⟩
 ·intro i e k c v hi hk hv;unfold renO at hi;rw[e5j]at hi;cases hi':o[i]? with
  |none=>rw[hi']at hi;cases hi
  |some e' =>
    rw[hi']at hi;cases hi;rw[Jj,e5j]at hk;cases hk':e'[k]? with
    |none=>rw[hk']at hk;cases hk
    |some c'=>rw[hk']at hk;cases hk;exact X5 hF hτ (hc i e' k c' v hi' hk' hv)
 ·intro e he;unfold renO at he;obtain⟨e',he',rfl⟩:=e7o.1 he;rw[Jj,e6i];exact h.sz e' he'
section
def Aw(rs:List Nat)(r:Nat):Option Nat:=rs.idxOf? r
def Gl(rs:List Nat)(n:Nat)(i:Nat):Option Nat:=if i<rs.length then rs[i]? else some (n+(i-rs.length))
def C3(H:AH):List Nat->List (Option AObj)->AH
 |r::rs,o::os=>C3 (H.set r o) rs os
 |_,_=>H
def N9(rs:List Nat)(H H':AH):AH:=
 C3 H rs (H'.map λo=>o.map (renO (Gl rs H.length)))++(H'.drop rs.length).map λo=>o.map (renO (Gl rs H.length))
theorem Wy:∀ (rs:List Nat) (H:AH) (os:List (Option AObj)),(C3 H rs os).length=H.length
 |[],H,os=>by cases os<;>rfl
 |r::rs,H,[]=>rfl
 |r::rs,H,o::os=>by rw[C3,Wy rs];simp
theorem Zw:∀ (rs:List Nat) (H:AH) (os:List (Option AObj)) (r:Nat),r∉rs->(C3 H rs os)[r]?=H[r]?
 |[],H,os,r,_=>by cases os<;>rfl
 |s::rs,H,[],r,_=>rfl
 |s::rs,H,o::os,r,h=>by
   simp only[e79,not_or]at h;rw[C3,Zw rs _ os r h.2,List.getElem?_set_ne (Ne.symm h.1)]
theorem ax6:∀ (rs:List Nat) (H:AH) (os:List (Option AObj)) (i r:Nat),rs.Nodup->rs[i]?=some r->i<os.length->r<H.length->(C3 H rs os)[r]?=os[i]?
 |[],_,_,_,_,_,h,_,_=>by simp at h
 |s::rs,H,[],_,_,_,_,h,_=>by simp at h
 |s::rs,H,o::os,0,r,hn,h,_,hr=>by
   simp at h;subst h;rw[C3,Zw rs _ os s (List.nodup_cons.1 hn).1,List.getElem?_set_self hr];rfl
 |s::rs,H,o::os,i+1,r,hn,h,hi,hr=>by
   rw[C3,ax6 rs _ os i r (List.nodup_cons.1 hn).2 (by simpa using h) (by simpa using hi) (by simpa using hr)];rfl
theorem Jf{rs:List Nat}{r i:Nat}(h:Aw rs r=some i):rs[i]?=some r:=by
 unfold Aw at h;obtain⟨h1,h2,_⟩:=List.idxOf?_eq_some_iff.1 h;rw[e47 h1];simpa using h2
theorem K9{rs:List Nat}{r i:Nat}(hn:rs.Nodup)(h:rs[i]?=some r):Aw rs r=some i:=by
 cases hc:Aw rs r with
 |none=>
   unfold Aw at hc;rw[List.idxOf?_eq_none_iff]at hc;exact absurd (e4q h) (by simpa using hc)
 |some j=>
   have h2:=Jf hc;have hi:i<rs.length:=by
    rcases e7h i rs.length with h'|h'
    ·exact h'
    ·rw[e4j h']at h;cases h
   have hj:j<rs.length:=by
    rcases e7h j rs.length with h'|h'
    ·exact h'
    ·rw[e4j h']at h2;cases h2
   rw[e47 hi]at h;rw[e47 hj]at h2;have:rs[i]=rs[j]:=(Option.some.inj h).trans (Option.some.inj h2).symm;rw[(List.getElem_inj hn).1 this]
theorem b8h{rs:List Nat}{r:Nat}(h:Aw rs r=none):r∉rs:=by
 unfold Aw at h;rw[List.idxOf?_eq_none_iff]at h;simpa using h
open Classical in
theorem b44{P:Program}{f:FuncId}{args:List AV}{H:AH}{K K0:AV->AH->Prop}(rs:List Nat)(hnd:rs.Nodup)(hlt:∀ r∈rs,r<H.length)
 (hC:C P f (Bw (Aw rs) args) (rs.map λr=>(H.at r).map (renO (Aw rs))) K0)
 (hK:∀ x H',K0 x H'->rs.length<=H'.length/\K (ren (Gl rs H.length) x) (N9 rs H H')):C P f args H K:=by
 refine⟨hC.1,λE w vs hs hr=>?_⟩;let other:Nat->Prop:=λb=>∃ r o x,r∉rs/\H.at r=some o/\E.ρ r=some x/\x.b=b;let E0:Env:={ F:=E.F,X:=λb=>match E.X b with|some o=>some o|none=>if other b then w.heap[b]? else none,ρ:=λi=>(rs[i]?).bind E.ρ,os:=E.os,tape:=E.tape,output:=E.output };let H0:AH:=rs.map λr=>(H.at r).map (renO (Aw rs));have hτ:∀ r r' y,Aw rs r=some r'->E.ρ r=some y->E0.ρ r'=some y:=by
  intro r r' y h1 h2;simp only[E0,Jf h1,e5y,h2]
 have hX0:∀ b,¬ other b->E0.X b=E.X b:=by
  intro b hb;simp only[E0];split
  ·rename_i h;rw[h]
  ·rename_i h;rw[if_neg hb,h]
 have hXo:∀ b,other b->E0.X b=w.heap[b]?:=by
  intro b hb;simp only[E0];split
  ·rename_i o h;exact(hs.frz b o (.inr h)).symm
  ·rw[if_pos hb]
 have hat0:∀ i o0,AH.at H0 i=some o0->∃ r o,rs[i]?=some r/\H.at r=some o/\o0=renO (Aw rs) o:=by
  intro i o0 h;simp only[AH.at,H0,e5j]at h;cases hri:rs[i]? with
  |none=>rw[hri]at h;cases h
  |some r=>
    rw[hri]at h;simp only[e6h,Option.join_some]at h;cases ho:H.at r with
    |none=>simp only[AH.at]at ho;rw[ho]at h;cases h
    |some o=>simp only[AH.at]at ho;rw[ho]at h;cases h;exact⟨r,o,rfl,ho,rfl⟩
 have hs0:Sim E0 w H0:=by
  refine⟨hs.os,hs.tape,hs.output,λb o hb=>?_,λb o hb=>?_,λi x hi=>?_,λi o0 ho=>?_,λi i' o1 o2 x1 x2 h1 h2 h3 h4 hb=>?_⟩
  ·rcases hb with hb|hb
   ·exact hs.frz b o (.inl hb)
   ·by_cases hob:other b
    ·rw[hXo b hob]at hb;exact hb
    ·rw[hX0 b hob]at hb;exact hs.frz b o (.inr hb)
  ·by_cases hob:other b
   ·obtain⟨r,o',x,hr',ho',hx,rfl⟩:=hob
    have:=(Fq hs ho' hx).out.1
    change E.F x.b=some o at hb
    rw[this]at hb;cases hb
   ·rw[hX0 b hob];exact hs.disj b o hb
  ·simp only[E0]at hi;cases hri:rs[i]? with
   |none=>rw[hri]at hi;cases hi
   |some r=>
     rcases e7h i rs.length with h'|h'
     ·simpa [H0]using h'
     ·rw[e4j h']at hri;cases hri
  ·obtain⟨r,o,hri,hro,rfl⟩:=hat0 i o0 ho;rcases hs.obj r o hro with ⟨rfl,hn⟩|⟨x,hx,hl⟩
   ·exact .inl ⟨rfl,by simp only[E0,hri,e5y,hn]⟩
   ·refine .inr ⟨x,by simp only[E0,hri,e5y,hx],Lies.ren (E:=E) (E0:=E0) (λ_ _ h=>h) hτ hl ⟨hl.out.1,?_⟩ rfl⟩;rw[hX0 x.b ?_]
    ·exact hl.out.2
    ·rintro⟨r',o',x',hr',ho',hx',hb'⟩
     have:=hs.inj r' r o' o x' x ho' hro hx' hx hb';subst this;exact hr' (e4q hri)
  ·obtain⟨r,o,hri,hro,rfl⟩:=hat0 i o1 h1;obtain⟨r',o',hri',hro',rfl⟩:=hat0 i' o2 h2;simp only[E0,hri,e5y]at h3;simp only[E0,hri',e5y]at h4
   have:=hs.inj r r' o o' x1 x2 hro hro' h3 h4 hb;subst this;have e1:=K9 hnd hri;have e2:=K9 hnd hri';rw[e1]at e2;cases e2;rfl
 have hr0:RepL E0 (Bw (Aw rs) args) vs:=by
  rw[Jj];refine⟨by simpa using hr.1,λi c u hc hu=>?_⟩;rw[e5j]at hc;cases hci:args[i]? with
  |none=>rw[hci]at hc;cases hc
  |some c'=>rw[hci]at hc;cases hc;exact X5 (E:=E) (E0:=E0) (λ_ _ h=>h) hτ (hr.2 i c' u hci hu)
 refine(hC.2 E0 w vs hs0 hr0).mono ?_;rintro e w' ⟨v,E1,x,H1,he,hK0,hle,hs1,hx1⟩;obtain⟨hlen,hKK⟩:=hK x H1 hK0;have hfull:Le E0 E1:=hle.full hs0 (e7y _);let ρ':Nat->Option Own:=λr=>match Aw rs r with
  |some i=>E1.ρ i
  |none=>if r<H.length then E.ρ r else E1.ρ (rs.length+(r-H.length))
 let E':Env:={ F:=E1.F,X:=E.X,ρ:=ρ',os:=E.os,tape:=E.tape,output:=E.output };have hσ:∀ i r' y,Gl rs H.length i=some r'->E1.ρ i=some y->E'.ρ r'=some y:=by
  intro i r' y h1 h2;unfold Gl at h1;split at h1
  ·simp only[E',ρ',K9 hnd h1,h2]
  ·rename_i hi;cases h1;have hno:Aw rs (H.length+(i-rs.length))=none:=by
    cases hc:Aw rs (H.length+(i-rs.length))with
    |none=>rfl
    |some j=>have:=hlt _ (e4q (Jf hc));omega
   simp only[E',ρ',hno];rw[if_neg om,show rs.length+(H.length+(i-rs.length)-H.length)=i from by omega];exact h2
 have hF1:∀ b o,E1.F b=some o->E'.F b=some o:=λ_ _ h=>h;have hEE':Le E E':=by
  refine⟨λb o hb=>hfull.F b o hb,λr y hy=>?_,rfl,rfl,rfl,rfl⟩;cases hc:Aw rs r with
  |some i=>
    obtain⟨y',hy',h⟩:=hfull.ρ i y (hτ r i y hc hy);exact⟨y',by simp only[E',ρ',hc];exact hy',h⟩
  |none=>exact⟨y,by simp only[E',ρ',hc];rw[if_pos (hs.dom r y hy)];exact hy,.inl rfl⟩
 have hkeep:∀ r o y,r∉rs->H.at r=some o->E.ρ r=some y->w'.heap[y.b]?=w.heap[y.b]?/\E1.F y.b=none:=by
  intro r o y hr' ho hy;have hob:other y.b:=⟨r,o,y,hr',ho,hy,rfl⟩;have h1:=hXo y.b hob;obtain⟨cells,t,q,hb,_⟩:=(Fq hs ho hy).blk;rw[hb]at h1;have h2:E1.X y.b=some (.cells cells t q):=by rw[hfull.X];exact h1
  refine⟨(hs1.frz _ _ (.inr h2)).trans hb.symm,?_⟩;cases hF:E1.F y.b with
  |none=>rfl
  |some o'=>have:=hs1.disj _ _ hF;rw[h2]at this;cases this
 have hbl:(N9 rs H H1).length=H.length+(H1.length-rs.length):=by simp[N9,Wy]
 have hat:∀ r o,AH.at (N9 rs H H1) r=some o->(∃ i o1,Gl rs H.length i=some r/\H1.at i=some o1/\o=renO (Gl rs H.length) o1)\/(r∉rs/\r<H.length/\H.at r=some o):=by
  intro r o h;unfold AH.at N9 at h;rcases e7h r H.length with hrl|hrl
  ·rw[List.getElem?_append_left (by rw[Wy];exact hrl)]at h;cases hc:Aw rs r with
   |none=>
     have hnr:=b8h hc;rw[Zw rs _ _ r hnr]at h;exact .inr ⟨hnr,hrl,h⟩
   |some i=>
     have hri:=Jf hc;have hil:i<rs.length:=by
      rcases e7h i rs.length with h'|h'
      ·exact h'
      ·rw[e4j h']at hri;cases hri
     rw[ax6 rs _ _ i r hnd hri (by simp;omega) hrl,e5j]at h;left;cases h1:H1[i]? with
     |none=>rw[h1]at h;cases h
     |some oo=>
       rw[h1]at h;simp only[e6h,Option.join_some]at h;cases oo with
       |none=>cases h
       |some o1=>cases h;exact⟨i,o1,by unfold Gl;rw[if_pos hil];exact hri,by unfold AH.at;rw[h1];rfl,rfl⟩
  ·rw[e40 (by rw[Wy];exact hrl),Wy,e5j,e53]at h;left;cases h1:H1[rs.length+(r-H.length)]? with
   |none=>rw[h1]at h;cases h
   |some oo=>
     rw[h1]at h;simp only[e6h,Option.join_some]at h;cases oo with
     |none=>cases h
     |some o1=>
       cases h;refine⟨rs.length+(r-H.length),o1,?_,by unfold AH.at;rw[h1];rfl,rfl⟩;unfold Gl;rw[if_neg om]
       congr 1;omega
 have hinv:∀ i r y,Gl rs H.length i=some r->E'.ρ r=some y->E1.ρ i=some y:=by
  intro i r y h1 h2;unfold Gl at h1;split at h1
  ·simp only[E',ρ',K9 hnd h1]at h2;exact h2
  ·cases h1;have hno:Aw rs (H.length+(i-rs.length))=none:=by
    cases hc:Aw rs (H.length+(i-rs.length))with
    |none=>rfl
    |some j=>have:=hlt _ (e4q (Jf hc));omega
   simp only[E',ρ',hno]at h2;rw[if_neg om,show rs.length+(H.length+(i-rs.length)-H.length)=i from by omega]at h2;exact h2
 have hold:∀ r y,r∉rs->r<H.length->E'.ρ r=some y->E.ρ r=some y:=by
  intro r y h1 h2 h3;have hno:Aw rs r=none:=by
   cases hc:Aw rs r with
   |none=>rfl
   |some j=>exact absurd (e4q (Jf hc)) h1
  simp only[E',ρ',hno]at h3;rw[if_pos h2]at h3;exact h3
 have hs':Sim E' w' (N9 rs H H1):=by
  refine⟨hs1.os.trans hfull.os,hs1.tape.trans hfull.tape,hs1.output.trans hfull.output,λb o hb=>?_,λb o hb=>?_,λr y hy=>?_,λr o ho=>?_,λr r' o o' y y' h1 h2 h3 h4 hb=>?_⟩
  ·rcases hb with hb|hb
   ·exact hs1.frz b o (.inl hb)
   ·have:E0.X b=some o:=by
     change E.X b=some o at hb
     simp only[E0,hb]
    exact hs1.frz b o (.inr (by rw[hfull.X];exact this))
  ·have:=hs1.disj b o hb;rw[hfull.X]at this
   change E.X b=none
   simp only[E0]at this;split at this
   ·cases this
   ·assumption
  ·rw[hbl];cases hc:Aw rs r with
   |some i=>have:=hlt r (e4q (Jf hc));omega
   |none=>
     simp only[E',ρ',hc]at hy;split at hy
     ·omega
     ·have:=hs1.dom _ _ hy;omega
  ·rcases hat r o ho with ⟨i,o1,hi,h1,rfl⟩|⟨hnr,hrl,h1⟩
   ·rcases hs1.obj i o1 h1 with ⟨rfl,hn⟩|⟨y,hy,hl⟩
    ·left;refine⟨rfl,?_⟩;cases hy:E'.ρ r with
     |none=>rfl
     |some y=>have:=hinv i r y hi hy;rw[hn]at this;cases this
    ·right;refine⟨y,hσ i r y hi hy,hl.ren (E0:=E') hF1 hσ ⟨hl.out.1,?_⟩ rfl⟩
     have:=hl.out.2;rw[hfull.X]at this
     change E.X y.b=none
     simp only[E0]at this;split at this
     ·cases this
     ·assumption
   ·rcases hs.obj r o h1 with ⟨rfl,hn⟩|⟨y,hy,hl⟩
    ·left;refine⟨rfl,?_⟩;cases hy:E'.ρ r with
     |none=>rfl
     |some y=>have:=hold r y hnr hrl hy;rw[hn]at this;cases this
    ·right;obtain⟨k1,k2⟩:=hkeep r o y hnr h1 hy;have hno:Aw rs r=none:=by
      cases hc:Aw rs r with
      |none=>rfl
      |some j=>exact absurd (e4q (Jf hc)) hnr
     exact⟨y,by simp only[E',ρ',hno];rw[if_pos hrl];exact hy,hl.mono hEE' ⟨k2,hl.out.2⟩ k1⟩
  ·have cross:∀ i o1 r y r2 o2 y2,Gl rs H.length i=some r->H1.at i=some o1->E'.ρ r=some y->r2∉rs->r2<H.length->H.at r2=some o2->E'.ρ r2=some y2->y.b≠y2.b:=by
    intro i o1 r y r2 o2 y2 a1 a2 a3 b1 b2 b3 b4 hbb;have hy1:=hinv i r y a1 a3;have hy2:=hold r2 y2 b1 b2 b4;have hob:other y2.b:=⟨r2,o2,y2,b1,b3,hy2,rfl⟩;obtain⟨cells,t,q,hblk,_⟩:=(Fq hs b3 hy2).blk;have h2:E1.X y2.b=some (.cells cells t q):=by rw[hfull.X,hXo _ hob];exact hblk
    have:=(Fq hs1 a2 hy1).out.2;rw[hbb,h2]at this;cases this
   rcases hat r o h1 with ⟨i,o1,hi,hi1,rfl⟩|⟨hnr,hrl,hh1⟩<;>rcases hat r' o' h2 with ⟨i',o1',hi',hi1',rfl⟩|⟨hnr',hrl',hh1'⟩
   ·have:=hs1.inj i i' o1 o1' y y' hi1 hi1' (hinv i r y hi h3) (hinv i' r' y' hi' h4) hb;subst this;rw[hi]at hi';cases hi';rfl
   ·exact absurd hb (cross i o1 r y r' o' y' hi hi1 h3 hnr' hrl' hh1' h4)
   ·exact absurd hb.symm (cross i' o1' r' y' r o y hi' hi1' h4 hnr hrl hh1 h3)
   ·exact hs.inj r r' o o' y y' hh1 hh1' (hold r y hnr hrl h3) (hold r' y' hnr' hrl' h4) hb
 exact⟨v,E',_,_,he,hKK,hEE'.toN _,hs',X5 hF1 hσ hx1⟩
end
section
def Cq(H:AH):Nat->AV->PV
 |0,x=>(Cw x).getD .top
 |n+1,.own r _ off len tot=>
   match Am H r tot with
   |some o=>if off+len<=tot then .fz (((o.drop off).take len).map λe=>e.map (Cq H n))else .top
   |none=>.top
 |n+1,.ptr r i j tot=>
   match Am H r tot with
   |some o=>match o[i]? with
     |some e=>if j<=e.length then .fptr ((e.drop j).map (Cq H n))else .top
     |none=>.top
   |none=>.top
 |_+1,x=>(Cw x).getD .top
mutual
def Bp(H:AH):AV->AV
 |.agg cs=>.agg (B3 H cs)
 |.tuple cs=>.tuple (B3 H cs)
 |.fn f first cap=>.fn f (B3 H first) (B3 H cap)
 |.own r sz off len tot=>emb (Cq H 4 (.own r sz off len tot))
 |.ptr r i j tot=>emb (Cq H 4 (.ptr r i j tot))
 |.top=>.top
 |.bool b=>.bool b
 |.int k n=>.int k n
 |.str s=>.str s
 |.nilp=>.nilp
 |.emp=>.emp
 |.fz es=>.fz es
 |.fptr cs=>.fptr cs
 |.nilfn=>.nilfn
def B3(H:AH):List AV->List AV
 |[]=>[]
 |x::xs=>Bp H x::B3 H xs
end
theorem a2x(H:AH):∀ xs:List AV,B3 H xs=xs.map (Bp H)
 |[]=>by simp[B3]
 |x::xs=>by simp[B3,a2x H xs]
mutual
def Db:AV->Bool
 |.bool _|.int _ _|.str _|.nilp|.emp|.nilfn|.top=>true
 |.agg cs=>P1 cs
 |.tuple cs=>P1 cs
 |_=>false
def P1:List AV->Bool
 |[]=>true
 |x::xs=>Db x&&P1 xs
end
theorem d2a{E E':Env}{x:AV}{v:Value}(h:Rep E x v):Db x=true->Rep E' x v:=by
 induction h with
 |top v=>exact λ_=>.top v
 |pure h=>
   intro hf;refine .pure ?_;cases h with
   |top=>exact .top _ (by assumption)
   |bool b=>exact .bool b
   |int k n=>exact .int k n
   |str s=>exact .str s
   |nilp=>exact .nilp
   |emp a=>exact .emp a
   |nilfn=>exact .nilfn
   |fz0 a cap=>exact .fz0 a cap
   |fz=>simp[emb,Db]at hf
   |fptr=>simp[emb,Db]at hf
 |agg cs vs hl _ ih=>
   intro hf;simp only[Db]at hf;have key:∀ (l:List AV),P1 l=true->∀ c∈l,Db c=true:=by
    intro l
    induction l with
    |nil=>intro _ c hc;simp at hc
    |cons y l ih' =>
      intro h c hc;simp only[P1,e5v]at h;rcases e79.1 hc with rfl|hc
      ·exact h.1
      ·exact ih' h.2 c hc
   exact .agg cs vs hl (λi c u hc hu=>ih i c u hc hu (key cs hf c (e4q hc)))
 |tuple cs vs hl _ ih=>
   intro hf;simp only[Db]at hf;have key:∀ (l:List AV),P1 l=true->∀ c∈l,Db c=true:=by
    intro l
    induction l with
    |nil=>intro _ c hc;simp at hc
    |cons y l ih' =>
      intro h c hc;simp only[P1,e5v]at h;rcases e79.1 hc with rfl|hc
      ·exact h.1
      ·exact ih' h.2 c hc
   exact .tuple cs vs hl (λi c u hc hu=>ih i c u hc hu (key cs hf c (e4q hc)))
 |fn=>intro hf;simp[Db]at hf
 |own0=>intro hf;simp[Db]at hf
 |own=>intro hf;simp[Db]at hf
 |ptr=>intro hf;simp[Db]at hf
 |stale_own=>intro hf;simp[Db]at hf
 |stale_ptr=>intro hf;simp[Db]at hf
theorem au2{F:Nat->Option Obj}{E:Env}(hF:∀ b o,E.F b=some o->F b=some o){x:AV}{v:Value}(h:Rep E x v)(h1:v.oneCell'=true):RepP F ((Cw x).getD .top) v:=by
 cases hp:Cw x with
 |none=>exact .top v h1
 |some p=>
   have:=be2 hp;subst this;have key:∀ q:PV,Rep E (emb q) v->RepP E.F q v:=by
    intro q hq;generalize hy:emb q=y at hq;cases hq with
    |top v=>
      cases q<;>simp only[emb]at hy<;>first|cases hy|skip
      exact .top v h1
    |pure h' =>
      rename_i q';have:q=q':=by
       cases q<;>cases q'<;>simp only[emb]at hy<;>first|rfl|(cases hy;rfl)|cases hy
      subst this;exact h'
    |_=>cases q<;>simp only[emb]at hy<;>cases hy
   exact(key p h).mono hF
theorem a2w{E:Env}{w:World}{H:AH}(hs:Sim E w H){F:Nat->Option Obj}(hF:∀ b o,E.F b=some o->F b=some o)
 (hown:∀ r o x,H.at r=some o->E.ρ r=some x->F x.b=w.heap[x.b]?):∀ (n:Nat) (x:AV) (v:Value),Rep E x v->v.oneCell'=true->RepP F (Cq H n x) v:=by
 intro n
 induction n with
 |zero=>intro x v h h1;simp only[Cq];exact au2 hF h h1
 |succ n ih=>
   intro x v h h1;cases x
   case own r sz off len tot=>
    simp only[Cq];split
    ·rename_i o hl;obtain⟨hat,hlen,htt⟩:=G1 hs hl;split
     ·rename_i hle;have hll:((o.drop off).take len).length=len:=(by simp;omega);rcases Iu h htt with ⟨a,rfl,rfl,rfl,rfl⟩|⟨y,cap,hy,hsz,g1,g2,g3,g4,rfl⟩
      ·have:((o.drop 0).take 0).map (λe=>e.map (Cq H n))=[]:=(by simp);rw[this];exact .fz0 _ _
      ·have hlies:=Fq hs hat hy;obtain⟨cells,t,q,hb,hn,hq,hone,hc⟩:=hlies.blk;have hFb:=hown r o y hat hy;rw[hb]at hFb;have hmul:(off+len)*y.sz<=o.length*y.sz:=e4r _ om;have hfit:=hlies.fits;rw[e7x]at hmul;have e1:len=(((o.drop off).take len).map λe=>e.map (Cq H n)).length:=(by rw[e6i,hll]);rw[show Value.slice (some ⟨y.b,off*y.sz,none⟩) len cap=Value.slice (some ⟨y.b,off*y.sz,none⟩) (((o.drop off).take len).map λe=>e.map (Cq H n)).length cap from by rw[<-e1]];refine .fz _ y.b (off*y.sz) cap y.sz cells t q hFb (by rw[<-e1];exact g2) ?_ (by rw[<-e1];omega) ?_
       ·intro e he;obtain⟨e',he',rfl⟩:=e7o.1 he;rw[e6i];exact hlies.sz e' (List.mem_of_mem_drop (e4s he'))
       ·intro i e k c u hi hk hu;rw[e5j]at hi;cases hi':((o.drop off).take len)[i]? with
        |none=>rw[hi']at hi;cases hi
        |some e' =>
          rw[hi']at hi;cases hi;have hil:i<len:=by
           rcases e7h i len with h'|h'
           ·exact h'
           ·rw[e4j om]at hi';cases hi'
          rw[e48 hil,e53]at hi';rw[e5j]at hk;cases hk':e'[k]? with
          |none=>rw[hk']at hk;cases hk
          |some c' =>
            rw[hk']at hk;cases hk;have hu':cells[(off+i)*y.sz+k]?=some u:=(by rw[<-hu,e7x];congr 1;omega);exact ih c' u (hc (off+i) e' k c' u hi' hk' hu') (hone _ u hu')
     ·exact .top v h1
    ·exact .top v h1
   case ptr r i j tot=>
    simp only[Cq];split
    ·rename_i o hl;obtain⟨hat,hlen,htt⟩:=G1 hs hl;split
     ·rename_i e he;split
      ·rename_i hje;obtain⟨y,hy,rfl⟩:=X6 h htt;have hlies:=Fq hs hat hy;obtain⟨cells,t,q,hb,hn,hq,hone,hc⟩:=hlies.blk;have hFb:=hown r o y hat hy;rw[hb]at hFb;have hil:i<o.length:=by
        rcases e7h i o.length with h'|h'
        ·exact h'
        ·rw[e4j h']at he;cases he
       have hel:=hlies.sz e (e4q he);have hm:=L7 (sz:=y.sz) hil;have hfit:=hlies.fits;refine .fptr _ y.b _ cells t q hFb (by simp;omega) ?_;intro k c u hk hu;rw[e5j,e53]at hk;cases hk':e[j+k]? with
       |none=>rw[hk']at hk;cases hk
       |some c' =>
         rw[hk']at hk;cases hk;have hu':cells[i*y.sz+(j+k)]?=some u:=(by rw[<-hu];congr 1;omega);exact ih c' u (hc i e (j+k) c' u he hk' hu') (hone _ u hu')
      ·exact .top v h1
     ·exact .top v h1
    ·exact .top v h1
   all_goals (simp only[Cq];exact au2 hF h h1)
theorem cy1{E E0:Env}{w:World}{H:AH}(hs:Sim E w H)(hF:∀ b o,E.F b=some o->E0.F b=some o)
 (hown:∀ r o x,H.at r=some o->E.ρ r=some x->E0.F x.b=w.heap[x.b]?) {x:AV} {v:Value} (h:Rep E x v):Rep E0 (Bp H x) v:=by
 induction h with
 |top v=>simp only[Bp];exact .top v
 |pure h=>
   rename_i x v;have e:Bp H (emb x)=emb x:=(by cases x<;>simp[emb,Bp]);rw[e];exact .pure (h.mono hF)
 |agg cs vs hl _ ih=>
   simp only[Bp,a2x];refine .agg _ _ (by simpa using hl) (λi c u hc hu=>?_);rw[e5j]at hc;cases hci:cs[i]? with
   |none=>rw[hci]at hc;cases hc
   |some c'=>rw[hci]at hc;cases hc;exact ih i c' u hci hu
 |tuple cs vs hl _ ih=>
   simp only[Bp,a2x];refine .tuple _ _ (by simpa using hl) (λi c u hc hu=>?_);rw[e5j]at hc;cases hci:cs[i]? with
   |none=>rw[hci]at hc;cases hc
   |some c'=>rw[hci]at hc;cases hc;exact ih i c' u hci hu
 |fn f first cap vs ws hl hm _ _ ih ih' =>
   simp only[Bp,a2x];refine .fn f _ _ _ _ (by simpa using hl) (by simpa using hm) (λi c u hc hu=>?_) (λi c u hc hu=>?_)
   ·rw[e5j]at hc;cases hci:first[i]? with
    |none=>rw[hci]at hc;cases hc
    |some c'=>rw[hci]at hc;cases hc;exact ih i c' u hci hu
   ·rw[e5j]at hc;cases hci:cap[i]? with
    |none=>rw[hci]at hc;cases hc
    |some c'=>rw[hci]at hc;cases hc;exact ih' i c' u hci hu
 |own0 r sz a=>simp only[Bp];exact .pure (a2w hs hF hown 4 _ _ (.own0 r sz a) rfl)
 |own r sz off len tot cap x hρ htot hsz hlen hcap hc hn=>simp only[Bp];exact .pure (a2w hs hF hown 4 _ _ (.own r sz off len tot cap x hρ htot hsz hlen hcap hc hn) rfl)
 |ptr r i j tot x hρ htot=>simp only[Bp];exact .pure (a2w hs hF hown 4 _ _ (.ptr r i j tot x hρ htot) rfl)
 |stale_own r sz off len tot v x hρ htot h1=>simp only[Bp];exact .pure (a2w hs hF hown 4 _ _ (.stale_own r sz off len tot v x hρ htot h1) h1)
 |stale_ptr r i j tot v x hρ htot h1=>simp only[Bp];exact .pure (a2w hs hF hown 4 _ _ (.stale_ptr r i j tot v x hρ htot h1) h1)
open Classical in
theorem cw3{P:Program}{f:FuncId}{args:List AV}{H:AH}{K0:AV->AH->Prop}(hC:C P f (B3 H args) [] K0)(hK:∀ x H',K0 x H'->Db x=true)(E:Env)(w:World)(vs:Array Value)(hs:Sim E w H)(hr:RepL E args vs) :
 Calls P f vs w λe w'=>∃ v x H1,e=.returned v/\K0 x H1/\Sim E w' H/\Rep E x v:=by
 let mine:Nat->Prop:=λb=>∃ r o x,H.at r=some o/\E.ρ r=some x/\x.b=b;let E0:Env:={ F:=λb=>if mine b then w.heap[b]? else E.F b,X:=E.X,ρ:=λ_=>none,os:=E.os,tape:=E.tape,output:=E.output };have hFm:∀ b,mine b->E.F b=none/\E.X b=none:=by
  rintro b ⟨r,o,x,h1,h2,rfl⟩
  exact(Fq hs h1 h2).out
 have hF:∀ b o,E.F b=some o->E0.F b=some o:=by
  intro b o hb;simp only[E0];rw[if_neg (λhm=>by rw[(hFm b hm).1]at hb;cases hb)];exact hb
 have hown:∀ r o x,H.at r=some o->E.ρ r=some x->E0.F x.b=w.heap[x.b]?:=by
  intro r o x h1 h2;simp only[E0];rw[if_pos ⟨r,o,x,h1,h2,rfl⟩]
 have hs0:Sim E0 w []:=by
  refine⟨hs.os,hs.tape,hs.output,λb o hb=>?_,λb o hb=>?_,λi x hi=>(by cases hi),λi o0 ho=>(by simp[AH.at]at ho),λi i' o1 o2 x1 x2 h1=>(by simp[AH.at]at h1)⟩
  ·rcases hb with hb|hb
   ·simp only[E0]at hb;split at hb
    ·exact hb
    ·exact hs.frz b o (.inl hb)
   ·exact hs.frz b o (.inr hb)
  ·simp only[E0]at hb;split at hb
   ·rename_i hm;exact(hFm b hm).2
   ·exact hs.disj b o hb
 have hr0:RepL E0 (B3 H args) vs:=by
  rw[a2x];refine⟨by simpa using hr.1,λi c u hc hu=>?_⟩;rw[e5j]at hc;cases hci:args[i]? with
  |none=>rw[hci]at hc;cases hc
  |some c'=>rw[hci]at hc;cases hc;exact cy1 hs hF hown (hr.2 i c' u hci hu)
 refine(hC.2 E0 w vs hs0 hr0).mono ?_;rintro e w' ⟨v,E1,x,H1,he,hK0,hle,hs1,hx1⟩;have hfl:=hK x H1 hK0;have hblk:∀ b o,E0.F b=some o\/E0.X b=some o->w'.heap[b]?=some o:=by
  intro b o hb;rcases hb with hb|hb
  ·exact hs1.frz b o (.inl (hle.F b o hb))
  ·exact hs1.frz b o (.inr (by rw[hle.X];exact hb))
 refine⟨v,x,H1,he,hK0,?_,d2a hx1 hfl⟩;refine⟨hs1.os.trans hle.os,hs1.tape.trans hle.tape,hs1.output.trans hle.output,λb o hb=>?_,hs.disj,hs.dom,λr o ho=>?_,hs.inj⟩
 ·rcases hb with hb|hb
  ·exact hblk b o (.inl (hF b o hb))
  ·exact hblk b o (.inr hb)
 ·rcases hs.obj r o ho with h1|⟨y,hy,hl⟩
  ·exact .inl h1
  ·refine .inr ⟨y,hy,hl.mono (Le.refl E) hl.out ?_⟩;obtain⟨cells,t,q,hb,_⟩:=hl.blk;rw[hb];exact hblk y.b _ (.inl (by rw[hown r o y ho hy,hb]))
theorem e3v{P:Program}{f:FuncId}{args:List AV}{H:AH}{K K0:AV->AH->Prop}(hC:C P f (B3 H args) [] K0)(hK:∀ x H',K0 x H'->Db x=true/\K x H):C P f args H K:=by
 refine⟨hC.1,λE w vs hs hr=>(cw3 hC (λx H' h=>(hK x H' h).1) E w vs hs hr).mono ?_⟩;rintro e w' ⟨v,x,H1,he,hK0,hs',hx⟩;exact⟨v,E,x,H,he,(hK x H1 hK0).2,LeN.refl _ _,hs',hx⟩
def G6(H:AH):Nat->AV->List Nat
 |0,_=>[]
 |n+1,.own r _ off len tot=>r::(match Am H r tot with
   |some o=>((o.drop off).take len).flatMap λe=>e.flatMap (G6 H n)
   |none=>[])
 |n+1,.ptr r i j tot=>r::(match Am H r tot with
   |some o=>match o[i]? with
     |some e=>(e.drop j).flatMap (G6 H n)
     |none=>[]
   |none=>[])
 |_+1,_=>[]
mutual
def Jv(H:AH):AV->List Nat
 |.agg cs=>F7 H cs
 |.tuple cs=>F7 H cs
 |.fn _ first cap=>F7 H first++F7 H cap
 |.own r sz off len tot=>G6 H 4 (.own r sz off len tot)
 |.ptr r i j tot=>G6 H 4 (.ptr r i j tot)
 |_=>[]
def F7(H:AH):List AV->List Nat
 |[]=>[]
 |x::xs=>Jv H x++F7 H xs
end
theorem bv5{H H':AH}{r tot:Nat}(h:H.at r=H'.at r):Am H r tot=Am H' r tot:=by unfold Am;rw[h]
theorem a7m{H H':AH}:∀ (n:Nat) (x:AV),(∀ r∈G6 H n x,H.at r=H'.at r)->Cq H n x=Cq H' n x
 |0,x,_=>rfl
 |n+1,x,h=>by
   cases x
   case own r sz off len tot=>
    have h0:=bv5 (tot:=tot) (h r (by simp[G6]));simp only[Cq,<-h0];cases hl:Am H r tot with
    |none=>rfl
    |some o=>
      simp only;split
      ·congr 1
       refine e4y λe he=>e4y λc hc=>a7m n c λs hs=>h s ?_;simp only[G6,hl,e79,List.mem_flatMap];exact .inr ⟨e,he,c,hc,hs⟩
      ·rfl
   case ptr r i j tot=>
    have h0:=bv5 (tot:=tot) (h r (by simp[G6]));simp only[Cq,<-h0];cases hl:Am H r tot with
    |none=>rfl
    |some o=>
      simp only;cases he:o[i]? with
      |none=>rfl
      |some e=>
        simp only;split
        ·congr 1
         refine e4y λc hc=>a7m n c λs hs=>h s ?_;simp only[G6,hl,he,e79,List.mem_flatMap];exact .inr ⟨c,hc,hs⟩
        ·rfl
   all_goals rfl
mutual
theorem cy2{H H':AH}:∀ x:AV,(∀ r∈Jv H x,H.at r=H'.at r)->Bp H x=Bp H' x
 |.own r sz off len tot,h=>by simp only[Bp];rw[a7m 4 _ h]
 |.ptr r i j tot,h=>by simp only[Bp];rw[a7m 4 _ h]
 |.agg cs,h=>by simp only[Bp];rw[Zi cs h]
 |.tuple cs,h=>by simp only[Bp];rw[Zi cs h]
 |.fn f first cap,h=>by
   simp only[Jv,e6m]at h;simp only[Bp];rw[Zi first λr hr=>h r (.inl hr),Zi cap λr hr=>h r (.inr hr)]
 |.top,_=>by simp[Bp]
 |.bool _,_=>by simp[Bp]
 |.int _ _,_=>by simp[Bp]
 |.str _,_=>by simp[Bp]
 |.nilp,_=>by simp[Bp]
 |.emp,_=>by simp[Bp]
 |.fz _,_=>by simp[Bp]
 |.fptr _,_=>by simp[Bp]
 |.nilfn,_=>by simp[Bp]
theorem Zi{H H':AH}:∀ xs:List AV,(∀ r∈F7 H xs,H.at r=H'.at r)->B3 H xs=B3 H' xs
 |[],_=>by simp[B3]
 |x::xs,h=>by
   simp only[F7,e6m]at h;simp only[B3];rw[cy2 x λr hr=>h r (.inl hr),Zi xs λr hr=>h r (.inr hr)]
end
end
mutual
def frz(r:Nat)(es:List (List PV)):AV->AV
 |.own r' sz off len tot=>if r'=r then(if tot=es.length/\off+len<=tot then .fz ((es.drop off).take len)else .top)else .own r' sz off len tot
 |.ptr r' i j tot=>if r'=r then(if tot=es.length then(match es[i]? with|some e=>if j<=e.length then .fptr (e.drop j)else .top|none=>.top)else .top)else .ptr r' i j tot
 |.agg cs=>.agg (Bm r es cs)
 |.tuple cs=>.tuple (Bm r es cs)
 |.fn f first cap=>.fn f (Bm r es first) (Bm r es cap)
 |.top=>.top
 |.bool b=>.bool b
 |.int k n=>.int k n
 |.str s=>.str s
 |.nilp=>.nilp
 |.emp=>.emp
 |.fz es=>.fz es
 |.fptr cs=>.fptr cs
 |.nilfn=>.nilfn
def Bm(r:Nat)(es:List (List PV)):List AV->List AV
 |[]=>[]
 |x::xs=>frz r es x::Bm r es xs
end
theorem Vf(r:Nat)(es:List (List PV)):∀ xs:List AV,Bm r es xs=xs.map (frz r es)
 |[]=>by simp[Bm]
 |x::xs=>by simp[Bm,Vf r es xs]
theorem RepL.mapped{E E':Env}{f:AV->AV}{xs:List AV}{vs:Array Value}(h:RepL E xs vs)(hf:∀ c u,Rep E c u->Rep E' (f c) u):RepL E' (xs.map f) vs:=by
 refine⟨by simpa using h.1,λi c u hc hu=>?_⟩;rw[e5j]at hc;cases hci:xs[i]? with
 |none=>rw[hci]at hc;cases hc
 |some c'=>rw[hci]at hc;cases hc;exact hf _ _ (h.2 i c' u hci hu)
theorem d29{E E2:Env}{w:World}{H:AH}(hs:Sim E w H){r:Nat}{es:List (List PV)}(hat:H.at r=some (es.map λe=>e.map emb))(hF:∀ b o,E.F b=some o->E2.F b=some o)(hρ:E2.ρ=E.ρ)
 (hown:∀ x,E.ρ r=some x->E2.F x.b=w.heap[x.b]?) {x:AV} {v:Value} (h:Rep E x v):Rep E2 (frz r es x) v:=by
 have hlies:∀ x,E.ρ r=some x->Lies E w (es.map λe=>e.map emb) x:=λx hx=>Fq hs hat hx;have pv:∀ (c:PV) u,Rep E (emb c) u->u.oneCell'=true->RepP E2.F c u:=by
  intro c u hc h1
  have:=au2 hF hc h1;have e:(Cw (emb c)).getD .top=c:=by cases c<;>rfl
  rwa [e]at this
 induction h with
 |top v=>simp only[frz];exact .top v
 |pure h=>
   rename_i x v;have e:frz r es (emb x)=emb x:=(by cases x<;>simp[emb,frz]);rw[e];exact .pure (h.mono hF)
 |agg cs vs hl _ ih=>
   simp only[frz,Vf];refine .agg _ _ (by simpa using hl) (λi c u hc hu=>?_);rw[e5j]at hc;cases hci:cs[i]? with
   |none=>rw[hci]at hc;cases hc
   |some c'=>rw[hci]at hc;cases hc;exact ih i c' u hci hu
 |tuple cs vs hl _ ih=>
   simp only[frz,Vf];refine .tuple _ _ (by simpa using hl) (λi c u hc hu=>?_);rw[e5j]at hc;cases hci:cs[i]? with
   |none=>rw[hci]at hc;cases hc
   |some c'=>rw[hci]at hc;cases hc;exact ih i c' u hci hu
 |fn f first cap vs ws hl hm _ _ ih ih' =>
   simp only[frz,Vf];refine .fn f _ _ _ _ (by simpa using hl) (by simpa using hm) (λi c u hc hu=>?_) (λi c u hc hu=>?_)
   ·rw[e5j]at hc;cases hci:first[i]? with
    |none=>rw[hci]at hc;cases hc
    |some c'=>rw[hci]at hc;cases hc;exact ih i c' u hci hu
   ·rw[e5j]at hc;cases hci:cap[i]? with
    |none=>rw[hci]at hc;cases hc
    |some c'=>rw[hci]at hc;cases hc;exact ih' i c' u hci hu
 |own0 r' sz a=>
   simp only[frz];split
   ·split
    ·rw[e6z];exact .pure (x:=.fz []) (.fz0 _ _)
    ·exact .top _
   ·exact .own0 r' sz a
 |own r' sz off len tot cap x hx htot hsz hlen hcap hc hn=>
   simp only[frz];split
   ·rename_i hr;subst hr;split
    ·rename_i hok;obtain⟨htl,hle⟩:=hok;have hl:=hlies x hx;obtain⟨cells,t,q,hb,hcn,hq,hone,hrow⟩:=hl.blk;have hFb:=hown x hx;rw[hb]at hFb;have hll:((es.drop off).take len).length=len:=(by simp;omega);have hmul:(off+len)*x.sz<=es.length*x.sz:=e4r _ om;have hfit:=hl.fits;rw[e6i]at hfit;rw[e7x]at hmul;rw[show Value.slice (some ⟨x.b,off*x.sz,none⟩) len cap=Value.slice (some ⟨x.b,off*x.sz,none⟩) ((es.drop off).take len).length cap from by rw[hll]];refine .pure (x:=.fz _) (.fz _ x.b (off*x.sz) cap x.sz cells t q hFb (by rw[hll];exact hcap) ?_ (by rw[hll];omega) ?_)
     ·intro e he
      have:=hl.sz (e.map emb) (e7o.2 ⟨e,List.mem_of_mem_drop (e4s he),rfl⟩);simpa using this
     ·intro i e k c u hi hk hu;have hil:i<len:=by
       rcases e7h i len with h'|h'
       ·exact h'
       ·rw[e4j om]at hi;cases hi
      rw[e48 hil,e53]at hi;have hu':cells[(off+i)*x.sz+k]?=some u:=(by rw[<-hu,e7x];congr 1;omega);exact pv c u (hrow (off+i) (e.map emb) k (emb c) u (by rw[e5j,hi];rfl) (by rw[e5j,hk];rfl) hu') (hone _ u hu')
    ·exact .top _
   ·exact .own r' sz off len tot cap x (by rw[hρ];exact hx) htot hsz hlen hcap hc hn
 |ptr r' i j tot x hx htot=>
   simp only[frz];split
   ·rename_i hr;subst hr;split
    ·rename_i htl;split
     ·rename_i e he;split
      ·rename_i hje;have hl:=hlies x hx;obtain⟨cells,t,q,hb,hcn,hq,hone,hrow⟩:=hl.blk;have hFb:=hown x hx;rw[hb]at hFb;have hil:i<es.length:=by
        rcases e7h i es.length with h'|h'
        ·exact h'
        ·rw[e4j h']at he;cases he
       have hel:e.length=x.sz:=by
        have:=hl.sz (e.map emb) (e7o.2 ⟨e,e4q he,rfl⟩);simpa using this
       have hm:=L7 (sz:=x.sz) hil;have hfit:=hl.fits;rw[e6i]at hfit;refine .pure (x:=.fptr _) (.fptr _ x.b _ cells t q hFb (by simp;omega) ?_);intro k c u hk hu;rw[e53]at hk;have hu':cells[i*x.sz+(j+k)]?=some u:=(by rw[<-hu];congr 1;omega);exact pv c u (hrow i (e.map emb) (j+k) (emb c) u (by rw[e5j,he];rfl) (by rw[e5j,hk];rfl) hu') (hone _ u hu')
      ·exact .top _
     ·exact .top _
    ·exact .top _
   ·exact .ptr r' i j tot x (by rw[hρ];exact hx) htot
 |stale_own r' sz off len tot v x hx htot h1=>
   simp only[frz];split
   ·rename_i hr;subst hr;split
    ·rename_i hok;have hl:=hlies x hx
     have:=hl.t;rw[e6i]at this;omega
    ·exact .top _
   ·exact .stale_own r' sz off len tot v x (by rw[hρ];exact hx) htot h1
 |stale_ptr r' i j tot v x hx htot h1=>
   simp only[frz];split
   ·rename_i hr;subst hr;split
    ·rename_i hok;have hl:=hlies x hx
     have:=hl.t;rw[e6i]at this;omega
    ·exact .top _
   ·exact .stale_ptr r' i j tot v x (by rw[hρ];exact hx) htot h1
def Hj(f:List AV->List AV)(H:AH):AH:=H.map λo=>o.map λo=>o.map f
theorem a1z{f:List AV->List AV}{H:AH}{r:Nat}{o:AObj}(h:AH.at (Hj f H) r=some o):∃ o',H.at r=some o'/\o=o'.map f:=by
 unfold AH.at Hj at h;rw[e5j]at h;cases hr:H[r]? with
 |none=>rw[hr]at h;cases h
 |some oo=>
   rw[hr]at h;simp only[e6h,Option.join_some]at h;cases oo with
   |none=>cases h
   |some o'=>cases h;exact⟨o',by unfold AH.at;rw[hr];rfl,rfl⟩
theorem cd6{n0:Nat}{fr:List AV}{H:AH}(r:Nat)(es:List (List PV))(hat:H.at r=some (es.map λe=>e.map emb)):Wk n0 fr H (Bm r es fr) (Hj (Bm r es) (H.set r none)):=by
 intro E w vs hs hr;rw[Vf];let E2:Env:={ E with F:=λb=>if(∃ x,E.ρ r=some x/\x.b=b)then w.heap[b]? else E.F b };have hFm:∀ b,(∃ x,E.ρ r=some x/\x.b=b)->E.F b=none/\E.X b=none:=by
  rintro b ⟨x,hx,rfl⟩
  exact(Fq hs hat hx).out
 have hF:∀ b o,E.F b=some o->E2.F b=some o:=by
  intro b o hb;simp only[E2];rw[if_neg (λhm=>by rw[(hFm b hm).1]at hb;cases hb)];exact hb
 have hown:∀ x,E.ρ r=some x->E2.F x.b=w.heap[x.b]?:=by
  intro x hx;simp only[E2];rw[if_pos ⟨x,hx,rfl⟩]
 have hfr:∀ c u,Rep E c u->Rep E2 (frz r es c) u:=λc u h=>d29 hs hat hF rfl hown h;have hle:Le E E2:=⟨hF,λs x hx=>⟨x,hx,.inl rfl⟩,rfl,rfl,rfl,rfl⟩;refine⟨E2,hle.toN n0,?_,hr.mapped hfr⟩;refine⟨hs.os,hs.tape,hs.output,λb o hb=>?_,λb o hb=>?_,λs x hx=>by simp[Hj];exact hs.dom s x hx,λs o ho=>?_,λs s' o o' x x' h1 h2 h3 h4 hb=>?_⟩
 ·rcases hb with hb|hb
  ·simp only[E2]at hb;split at hb
   ·exact hb
   ·exact hs.frz b o (.inl hb)
  ·exact hs.frz b o (.inr hb)
 ·simp only[E2]at hb;split at hb
  ·rename_i hm;exact(hFm b hm).2
  ·exact hs.disj b o hb
 ·obtain⟨o',ho',rfl⟩:=a1z ho;have hsr:r≠s:=by
   rintro rfl;rw[a1y _ (Qx hat)]at ho';cases ho'
  rw[Sc _ hsr]at ho';rcases hs.obj s o' ho' with ⟨rfl,hn⟩|⟨x,hx,hl⟩
  ·exact .inl ⟨rfl,hn⟩
  ·refine .inr ⟨x,hx,?_⟩;obtain⟨cells,t,q,hb,hcn,hq,hone,hrow⟩:=hl.blk;refine⟨by rw[e6i];exact hl.t,hl.pos,⟨?_,hl.out.2⟩,⟨cells,t,q,hb,hcn,hq,hone,?_⟩,?_,by rw[e6i];exact hl.fits⟩
   ·simp only[E2];rw[if_neg]
    ·exact hl.out.1
    ·rintro⟨y,hy,hyb⟩;exact hsr (hs.inj r s _ _ y x hat ho' hy hx hyb)
   ·intro i e k c v hi hk hv;rw[e5j]at hi;cases hi':o'[i]? with
    |none=>rw[hi']at hi;cases hi
    |some e' =>
      rw[hi']at hi;cases hi;rw[Vf,e5j]at hk;cases hk':e'[k]? with
      |none=>rw[hk']at hk;cases hk
      |some c'=>rw[hk']at hk;cases hk;exact hfr _ _ (hrow i e' k c' v hi' hk' hv)
   ·intro e he;obtain⟨e',he',rfl⟩:=e7o.1 he;rw[Vf,e6i];exact hl.sz e' he'
 ·obtain⟨p,hp,rfl⟩:=a1z h1;obtain⟨p',hp',rfl⟩:=a1z h2;have key:∀ {s o},AH.at (H.set r none) s=some o->H.at s=some o:=by
   intro s o h;by_cases hsr:r=s
   ·subst hsr;rw[a1y _ (Qx hat)]at h;cases h
   ·rwa [Sc _ hsr]at h
  exact hs.inj s s' p p' x x' (key hp) (key hp') h3 h4 hb
def Uc(n r:Nat):Option Nat:=if r<n then some r else none
theorem e37{n0:Nat}{fr:List AV}{H:AH}(n:Nat)(hn:n0<=n):Wk n0 fr H (Bw (Uc n) fr) (Hj (Bw (Uc n)) (H.take n)):=by
 intro E w vs hs hr;rw[Jj];let E2:Env:={ E with ρ:=λr=>if r<n then E.ρ r else none };have hτ:∀ r r' y,Uc n r=some r'->E.ρ r=some y->E2.ρ r'=some y:=by
  intro r r' y h1 h2;unfold Uc at h1;split at h1
  ·cases h1;simp only[E2];rw[if_pos (by assumption)];exact h2
  ·cases h1
 have hfr:∀ c u,Rep E c u->Rep E2 (ren (Uc n) c) u:=λc u h=>X5 (E:=E) (E0:=E2) (λ_ _ h=>h) hτ h;have hrn:∀ s x,E2.ρ s=some x->s<n/\E.ρ s=some x:=by
  intro s x hx;simp only[E2]at hx;split at hx
  ·exact⟨by assumption,hx⟩
  ·cases hx
 have key:∀ {s o},AH.at (H.take n) s=some o->H.at s=some o:=by
  intro s o h;unfold AH.at at h ⊢;rcases e7h s n with h'|h'
  ·rwa [e48 h']at h
  ·rw[e4j (by simp;omega)]at h;cases h
 refine⟨E2,⟨λ_ _ h=>h,λr x hrn' hx=>⟨x,by simp only[E2];rw[if_pos om];exact hx,.inl rfl⟩,rfl,rfl,rfl,rfl⟩,?_,hr.mapped hfr⟩;refine⟨hs.os,hs.tape,hs.output,hs.frz,hs.disj,λs x hx=>?_,λs o ho=>?_,λs s' o o' x x' h1 h2 h3 h4 hb=>?_⟩
 ·obtain⟨a,b⟩:=hrn s x hx
  have:=hs.dom s x b;simp[Hj];omega
 ·obtain⟨o',ho',rfl⟩:=a1z ho;have hsn:s<n:=by have:=Qx ho';simp at this;omega
  have ho2:=key ho';rcases hs.obj s o' ho2 with ⟨rfl,hn'⟩|⟨x,hx,hl⟩
  ·exact .inl ⟨rfl,by simp only[E2];rw[if_pos hsn];exact hn'⟩
  ·refine .inr ⟨x,by simp only[E2];rw[if_pos hsn];exact hx,?_⟩
   have:=Lies.ren (E:=E) (E0:=E2) (τ:=Uc n) (λ_ _ h=>h) hτ hl hl.out (w':=w) rfl;exact this
 ·obtain⟨p,hp,rfl⟩:=a1z h1;obtain⟨p',hp',rfl⟩:=a1z h2;exact hs.inj s s' p p' x x' (key hp) (key hp') (hrn s x h3).2 (hrn s' x' h4).2 hb
def KWk(n:Nat)(K:AV->AH->Prop):AV->AH->Prop:=λx H=>∃ x' H',Wk n [x] H [x'] H'/\K x' H'
theorem e3t{P:Program}{f:FuncId}{args:List AV}{H:AH}{K:AV->AH->Prop}(h:C P f args H (KWk H.length K)):C P f args H K:=by
 refine⟨h.1,λE w vs hs hr=>(h.2 E w vs hs hr).mono ?_⟩;rintro e w' ⟨v,E',x,H',he,⟨x2,H2,hwk,hK⟩,hle,hs',hx⟩;obtain⟨E2,h1,h2,h3⟩:=hwk E' w' #[v] hs' ⟨rfl,λi c u hc hu=>by
  match i,hc,hu with
  |0,hc,hu=>simp at hc hu;subst hc;subst hu;exact hx
  |i+1,hc,_=>simp at hc⟩
 exact⟨v,E2,x2,H2,he,hK,hle.trans h1,h2,h3.2 0 x2 v rfl rfl⟩
theorem ar7{P:Program}{f:FuncId}{np nt:Nat}{res:List ARes}{ac:ACode}(hfd:FnD P f np nt res ac){args:List AV}{H:AH}{K:AV->AH->Prop}(hn:args.length=np)
 (h:W P H.length ac (a2q res (KWk H.length K)) (args++List.replicate nt .top) H):C P f args H K:=e3t (e3w hfd hn h)
theorem dx5(yes no:Prop):S5 (some (.bool true)) true yes no=yes:=by
 simp[S5]
theorem dx6(yes no:Prop):S5 (some (.bool false)) true yes no=no:=by
 simp[S5]
section
def Xp:AV->AV
 |.bool b=>.bool b
 |_=>.top
theorem Ou(b:Bool):Xp (.bool b)=.bool b:=qq
theorem dg6{x:AV}{b:Bool}(h:Xp x=.bool b):x=.bool b:=by cases x<;>simp_all [Xp]
theorem dg5(x:AV):Xp x≠.tuple []:=by cases x<;>simp[Xp]
def WA(P:Program)(n0:Nat):ACode->APost->List AV->AH->Prop
 |.skip,Q,fr,H=>Q .normal fr H
 |.reg is,Q,fr,H=>RA P is (Q .normal) fr H
 |.seq a b,Q,fr,H=>WA P n0 a (λe fr H=>match e with|.normal=>WA P n0 b Q fr H|.exit i=>Q (.exit i) fr H|.ret=>Q .ret fr H) fr H
 |.cond c a b,Q,fr,H=>S5 (some (Xp (evalA fr c))) true (WA P n0 a Q fr H) (WA P n0 b Q fr H)
 |.block id b,Q,fr,H=>WA P n0 b (ar1 id Q) fr H
 |.exit id,Q,fr,H=>Q (.exit id) fr H
 |.ret,Q,fr,H=>Q .ret fr H
 |ac,Q,fr,H=>W P n0 ac Q fr H
theorem a24{P:Program}{n0:Nat}:∀ {ac:ACode} {Q:APost} {fr:List AV} {H:AH},WA P n0 ac Q fr H->W P n0 ac Q fr H
 |.skip,_,_,_,h=>cd8 h
 |.reg _,_,_,_,h=>ao5 h
 |.seq a b,Q,fr,H,h=>by
   refine a6k (Tu (a24 h) ?_);intro e fr H hq;cases e with
   |normal=>exact a24 hq
   |exit i=>exact hq
   |ret=>exact hq
 |.cond c a b,Q,fr,H,h=>by
   rcases h with ⟨bv,hb,h1,h2⟩|⟨hb,_⟩
   case inr=>exact absurd (by simpa using hb) (dg5 _)
   refine a6l bv (dg6 (by simpa using hb)) (λe=>a24 (h1 e)) (λe=>a24 (h2 (by simp[e])))
 |.block _ _,_,_,_,h=>b3i (a24 h)
 |.exit _,_,_,_,h=>ce0 h
 |.ret,_,_,_,h=>cd9 h
 |.loop _,_,_,_,h=>h
 |.dreg _,_,_,_,h=>h
 |.dregE _ _,_,_,_,h=>h
 |.bad,_,_,_,h=>h
inductive Tag {α:Sort _} (a:α):Type
 |mk
def b11(x:Option AV)(want:Bool)(yes no:Prop)(_:Tag yes)(_:Tag no):Prop:=S5 x want yes no
def Xf(x:Option (AV×AH))(K:AV->AH->Prop)(_:Tag K):Prop:=V1 x K
def RT(P:Program)(is:List AInstr)(K:List AV->AH->Prop)(fr:List AV)(H:AH)(_:Tag is)(_:Tag K):Prop:=RA P is K fr H
def WT(P:Program)(n0:Nat)(ac:ACode)(Q:APost)(fr:List AV)(H:AH)(_:Tag ac)(_:Tag Q):Prop:=WA P n0 ac Q fr H
def b3y(P:Program)(n0:Nat)(b:ACode)(Q:APost)(_:Tag b)(_:Tag Q):APost:=λe fr H=>match e with|.normal=>WA P n0 b Q fr H|.exit i=>Q (.exit i) fr H|.ret=>Q .ret fr H
section
variable {P:Program} {n0:Nat}
theorem b3j{ac:ACode}{Q:APost}{fr:List AV}{H:AH}(h:WT P n0 ac Q fr H .mk .mk):W P n0 ac Q fr H:=a24 h
theorem Pe(Q:APost)(fr:List AV)(H:AH)(m n):WT P n0 .skip Q fr H m n=Q .normal fr H:=qq
theorem Ph(is:List AInstr)(Q:APost)(fr:List AV)(H:AH)(m n):WT P n0 (.reg is) Q fr H m n=RT P is (Q .normal) fr H .mk .mk:=qq
theorem Pf(a b:ACode)(Q:APost)(fr:List AV)(H:AH)(m n):WT P n0 (.seq a b) Q fr H m n=WT P n0 a (b3y P n0 b Q .mk .mk) fr H .mk .mk:=qq
theorem Ps(b:ACode)(Q:APost)(fr:List AV)(H:AH)(m n):b3y P n0 b Q m n .normal fr H=WT P n0 b Q fr H .mk .mk:=qq
theorem Pr(b:ACode)(Q:APost)(fr:List AV)(H:AH)(m n):b3y P n0 b Q m n .ret fr H=Q .ret fr H:=qq
theorem Pt(res:List ARes)(K:AV->AH->Prop)(fr:List AV)(H:AH):a2q res K .ret fr H=∃ x,Ea res fr H=some x/\K x H:=qq
theorem Pi(c:Opd)(a b:ACode)(Q:APost)(fr:List AV)(H:AH)(m n):WT P n0 (.cond c a b) Q fr H m n=b11 (some (Xp (evalA fr c))) true (WT P n0 a Q fr H .mk .mk) (WT P n0 b Q fr H .mk .mk) .mk .mk:=qq
theorem Pg(Q:APost)(fr:List AV)(H:AH)(m n):WT P n0 .ret Q fr H m n=Q .ret fr H:=qq
theorem Ov(yes no:Prop)(m n):b11 (some (.bool true)) true yes no m n=yes:=dx5 yes no
theorem Ow(yes no:Prop)(m n):b11 (some (.bool false)) true yes no m n=no:=dx6 yes no
theorem Ok(v:AV)(H:AH)(K:AV->AH->Prop)(m):Xf (some (v,H)) K m=K v H:=qq
theorem Ol(c:Prop)[Decidable c](x:Option (AV×AH))(K:AV->AH->Prop)(m):Xf (if c then x else none) K m=(c/\Xf x K .mk):=by
 by_cases h:c<;>simp[h,Xf,V1]
theorem Pn(K:List AV->AH->Prop)(fr:List AV)(H:AH)(t u):RT P [] K fr H t u=K fr H:=qq
theorem cf6{op:AOp}(hs:∀ (P:Program) d K fr H,Ob P ⟨d,none,op⟩ K fr H=V1 (D8 op (evalA fr) H) λv H'=>K (Aq fr d v) H')(h0:∀ ev H,Ar op ev H=none)(d:Option Nat)(rest:List AInstr)(K:List AV->AH->Prop)(fr:List AV)(H:AH)(t u) :
 RT P (⟨d,none,op⟩::rest) K fr H t u=Xf (Cc op (evalA fr) H) (λv H'=>RT P rest K (Aq fr d v) H' .mk .mk) .mk:=by
 show Ob P ⟨d,none,op⟩ (RA P rest K) fr H=_;rw[hs];unfold D8;rw[h0];rfl
def pickV(c a b:AV):Option AV:=
 match c with
 |.bool true=>some a
 |.bool false=>some b
 |_=>none
theorem Kv(a b:AV):pickV (.bool true) a b=some a:=qq
theorem Kw(a b:AV):pickV (.bool false) a b=some b:=qq
def Xj(H:AH)(x:AV):Option AV:=
 match x with
 |.ptr r i j tot=>(Am H r tot).map λ_=>.ptr r i j tot
 |.fptr cs=>some (.fptr cs)
 |_=>none
theorem L5(H:AH)(r i j tot:Nat):Xj H (.ptr r i j tot)=(Am H r tot).map λ_=>.ptr r i j tot:=qq
theorem L6(H:AH)(cs:List PV):Xj H (.fptr cs)=some (.fptr cs):=qq
def Qw(op:BinOp)(x y:AV):Option AV:=
 match x,y with
 |.int k a,.int k' b=>if k=k'\/op=.shl\/op=.shr then Fw op k a b else none
 |_,_=>none
theorem Mb(op:BinOp)(k:IntKind)(a b:Int):Qw op (.int k a) (.int k b)=Fw op k a b:=by simp[Qw]
theorem Ma(k k':IntKind)(a b:Int):Qw .shl (.int k a) (.int k' b)=Fw .shl k a b:=by simp[Qw]
theorem M9(k k':IntKind)(a b:Int):Qw .shr (.int k a) (.int k' b)=Fw .shr k a b:=by simp[Qw]
theorem N0(k:IntKind)(a b:Int):Fw .add k a b=some (.int k (k.wrap (a+b))):=qq
theorem Mk(k:IntKind)(a b:Int):Fw .sub k a b=some (.int k (k.wrap (a-b))):=qq
theorem Mr(k:IntKind)(a b:Int):Fw .mul k a b=some (.int k (k.wrap (a*b))):=qq
theorem Mo(k:IntKind)(a b:Int):Fw .quo k a b=if b=0 then none else some (.int k (k.wrap (a.tdiv b))):=qq
theorem Mn(k:IntKind)(a b:Int):Fw .rem k a b=if b=0 then none else some (.int k (a.tmod b)):=qq
theorem Mz(k:IntKind)(a b:Int):Fw .and k a b=some (.int k (k.wrap (BitVec.ofInt k.bits a &&& BitVec.ofInt k.bits b).toNat)):=qq
theorem Mp(k:IntKind)(a b:Int):Fw .or k a b=some (.int k (k.wrap (BitVec.ofInt k.bits a ||| BitVec.ofInt k.bits b).toNat)):=qq
theorem Mj(k:IntKind)(a b:Int):Fw .xor k a b=some (.int k (k.wrap (BitVec.ofInt k.bits a ^^^ BitVec.ofInt k.bits b).toNat)):=qq
theorem Mx(k:IntKind)(a b:Int):Fw .andNot k a b=some (.int k (k.wrap (BitVec.ofInt k.bits a &&& ~~~ BitVec.ofInt k.bits b).toNat)):=qq
theorem Mw(k:IntKind)(a b:Int):Fw .eql k a b=some (.bool (decide (a=b))):=qq
theorem Mq(k:IntKind)(a b:Int):Fw .neq k a b=some (.bool (!decide (a=b))):=qq
theorem Ms(k:IntKind)(a b:Int):Fw .lss k a b=some (.bool (decide (a<b))):=qq
theorem Mt(k:IntKind)(a b:Int):Fw .leq k a b=some (.bool (decide (a<=b))):=qq
theorem Mu(k:IntKind)(a b:Int):Fw .gtr k a b=some (.bool (decide (b<a))):=qq
theorem Mv(k:IntKind)(a b:Int):Fw .geq k a b=some (.bool (decide (b<=a))):=qq
theorem Mm(k:IntKind)(a b:Int):Fw .shl k a b=if b<0 then none else some (.int k (k.wrap (a*2 ^ (min b.toNat k.bits)))):=qq
theorem Ml(k:IntKind)(a b:Int):Fw .shr k a b=if b<0 then none else some (.int k (a.fdiv (2 ^ (min b.toNat k.bits)))):=qq
def a1w(op:BinOp)(x y:AV):Option AV:=
 match x,y with
 |.str a,.str b=>O7 op a b
 |_,_=>none
theorem M8(op:BinOp)(a b:List UInt8):a1w op (.str a) (.str b)=O7 op a b:=qq
theorem Mi(a b:List UInt8):O7 .add a b=if a.length+b.length<=1000000000 then some (.str (a++b))else none:=qq
theorem Mh(a b:List UInt8):O7 .eql a b=some (.bool (decide (a=b))):=by
 simp only[O7,e5i,AV.bool.injEq];by_cases h:a=b<;>simp[h]
theorem Mc(a b:List UInt8):O7 .neq a b=some (.bool (!decide (a=b))):=by
 simp only[O7,e5i,AV.bool.injEq];by_cases h:a=b<;>simp[h]
theorem Md(a b:List UInt8):O7 .lss a b=some (.bool (Op.bytesLess a b)):=qq
theorem Me(a b:List UInt8):O7 .leq a b=some (.bool (Op.bytesLess a b||a==b)):=qq
theorem Mf(a b:List UInt8):O7 .gtr a b=some (.bool (!(Op.bytesLess a b||a==b))):=qq
theorem Mg(a b:List UInt8):O7 .geq a b=some (.bool (!Op.bytesLess a b)):=qq
def a1k(neg:Bool)(x y:AV):Option AV:=
 match x,y with
 |.bool a,.bool b=>some (.bool ((a==b) != neg))
 |_,_=>none
theorem Lu(neg a b:Bool):a1k neg (.bool a) (.bool b)=some (.bool ((a==b) != neg)):=qq
def Ud(op:UnOp)(x:AV):Option AV:=
 match x with
 |.bool b=>if op=.not then some (.bool !b)else none
 |.int k n=>unI op k n
 |_=>none
theorem K6(b:Bool):Ud .not (.bool b)=some (.bool !b):=qq
theorem K7(k:IntKind)(n:Int):Ud .neg (.int k n)=some (.int k (k.wrap (0-n))):=qq
theorem K5(k:IntKind)(n:Int):Ud .xor (.int k n)=some (.int k (k.wrap (BitVec.ofInt k.bits (if k.signed then -1 else k.max) ^^^ BitVec.ofInt k.bits n).toNat)):=qq
def a1o(k:IntKind)(x:AV):Option AV:=
 match x with
 |.int _ n=>some (.int k (k.wrap n))
 |_=>none
theorem M4(k k':IntKind)(n:Int):a1o k (.int k' n)=some (.int k (k.wrap n)):=qq
def a1n(x:AV):Option AV:=
 match x with
 |.str s=>some (.str s)
 |_=>none
theorem M2(s:List UInt8):a1n (.str s)=some (.str s):=qq
def Wx(ev:Opd->AV)(x:AV)(lo hi:Option Opd):Option AV:=
 match x with
 |.str s=>
   match Bo ev hi s.length s.length with
   |some h=>
     match Bo ev lo 0 h with
     |some l=>some (.str ((s.take h).drop l))
     |none=>none
   |none=>none
 |_=>none
def b2z(x:AV)(top:Nat):Option Nat:=
 match x with
 |.int _ n=>if 0<=n/\n<=top then some n.toNat else none
 |_=>none
def Qe(x:Option Nat)(K:Nat->Option AV):Option AV:=
 match x with
 |some n=>K n
 |none=>none
theorem Kk(ev:Opd->AV)(s:List UInt8)(lo hi:Option Opd):Wx ev (.str s) lo hi=Qe (Bo ev hi s.length s.length) λh=>Qe (Bo ev lo 0 h) λl=>some (.str ((s.take h).drop l)):=by
 simp only[Wx,Qe]
theorem E8(ev:Opd->AV)(d top:Nat):Bo ev none d top=some d:=qq
theorem E7(ev:Opd->AV)(x:Opd)(d top:Nat):Bo ev (some x) d top=b2z (ev x) top:=qq
theorem E9(k:IntKind)(n:Int)(top:Nat):b2z (.int k n) top=if 0<=n/\n<=top then some n.toNat else none:=qq
theorem Kz(n:Nat)(K:Nat->Option AV):Qe (some n) K=K n:=qq
theorem L0(c:Prop)[Decidable c](n:Nat)(K:Nat->Option AV):Qe (if c then some n else none) K=if c then K n else none:=by
 by_cases h:c<;>simp[h,Qe]
def Y7(H:AH)(off:Nat)(x:AV):Option AV:=
 match x with
 |.ptr r i j tot=>(Am H r tot).map λ_=>.ptr r i (j+off) tot
 |.fptr cs=>if off<=cs.length then some (.fptr (cs.drop off))else none
 |_=>none
theorem Lp(H:AH)(off r i j tot:Nat):Y7 H off (.ptr r i j tot)=(Am H r tot).map λ_=>.ptr r i (j+off) tot:=qq
theorem Lq(H:AH)(off:Nat)(cs:List PV):Y7 H off (.fptr cs)=if off<=cs.length then some (.fptr (cs.drop off))else none:=qq
def a1c(agg:Bool)(off n:Nat)(x:AV):Option AV:=
 match x with
 |.agg cs=>if off+n<=cs.length then some (Du agg ((cs.drop off).take n))else none
 |_=>none
theorem Lo(agg:Bool)(off n:Nat)(cs:List AV):a1c agg off n (.agg cs)=if off+n<=cs.length then some (Du agg ((cs.drop off).take n))else none:=qq
def Xr(x i:AV):Option AV:=
 match x,i with
 |.str s,.int _ n=>if 0<=n then(s[n.toNat]?).map λb=>.int .u8 b.toNat else none
 |_,_=>none
theorem Lj(s:List UInt8)(k:IntKind)(n:Int):Xr (.str s) (.int k n)=if 0<=n/\n<s.length then some (.int .u8 ((s.getD n.toNat 0).toNat:Nat))else none:=by
 simp only[Xr];by_cases h:0<=n
 ·rw[if_pos h];by_cases h2:n<s.length
  ·rw[if_pos ⟨h,h2⟩,e47 (show n.toNat<s.length by omega)];simp[e42,e47 (show n.toNat<s.length by omega)]
  ·rw[if_neg om,e4j om];rfl
 ·rw[if_neg h,if_neg om]
def a1e(x:AV)(i:Nat):Option AV:=
 match x with
 |.tuple vs=>vs[i]?
 |_=>none
theorem Lr(vs:List AV)(i:Nat):a1e (.tuple vs) i=vs[i]?:=qq
def a0m(x:AV):Option AV:=
 match x with
 |.str s=>some (.int .i64 s.length)
 |_=>none
theorem Lf(s:List UInt8):a0m (.str s)=some (.int .i64 s.length):=qq
def S1(H:AH)(x:AV):Option AV:=
 match x with
 |.emp=>some (.int .i64 0)
 |.fz es=>some (.int .i64 es.length)
 |.own r _ _ len tot=>(Am H r tot).map λ_=>.int .i64 len
 |_=>none
theorem Lh(H:AH):S1 H .emp=some (.int .i64 0):=qq
theorem Jq(H:AH)(es:List (List PV)):S1 H (.fz es)=some (.int .i64 es.length):=qq
theorem Lg(H:AH)(r sz off len tot:Nat):S1 H (.own r sz off len tot)=(Am H r tot).map λ_=>.int .i64 len:=qq
def a0c(x y:AV):Option AV:=
 match x,y with
 |.int k a,.int _ b=>some (.int k (if b<a then b else a))
 |_,_=>none
theorem L9(k k':IntKind)(a b:Int):a0c (.int k a) (.int k' b)=some (.int k (if b<a then b else a)):=qq
def a0i(x y:AV):Option AV:=
 match x,y with
 |.int k a,.int _ b=>some (.int k (if b>a then b else a))
 |_,_=>none
theorem Lb(k k':IntKind)(a b:Int):a0i (.int k a) (.int k' b)=some (.int k (if b>a then b else a)):=qq
def Qo(H:AH)(sz:Nat)(x i:AV):Option AV:=
 match x,i with
 |.fz es,.int _ n=>if 0<=n then
  match es[n.toNat]? with
  |some e=>if e.length=sz then some (.fptr e)else none
  |none=>none
   else none
 |.own r sz' off len tot,.int _ n=>
   if 0<=n/\n<len/\sz'=sz then(Am H r tot).map λ_=>.ptr r (off+n.toNat) 0 tot else none
 |_,_=>none
theorem B8{α:Type}[Inhabited α](H:AH)(sz:Nat)(xs:List α)(f:α->List PV)(k:IntKind)(n:Int):Qo H sz (.fz (xs.map f)) (.int k n)=if(0<=n/\n<xs.length)/\(f (xs.getD n.toNat default)).length=sz then some (.fptr (f (xs.getD n.toNat default)))else none:=by
 simp only[Qo];by_cases h:0<=n
 ·rw[if_pos h,e5j];by_cases h2:n<xs.length
  ·rw[e47 (show n.toNat<xs.length by omega)];simp[e42,e47 (show n.toNat<xs.length by omega),h,h2]
  ·rw[if_neg om,e4j om];rfl
 ·rw[if_neg h,if_neg om]
theorem Lk(H:AH)(sz r sz' off len tot:Nat)(k:IntKind)(n:Int):Qo H sz (.own r sz' off len tot) (.int k n)=if 0<=n/\n<len/\sz'=sz then(Am H r tot).map λ_=>.ptr r (off+n.toNat) 0 tot else none:=qq
variable (d:Option Nat) (rest:List AInstr) (K:List AV->AH->Prop) (fr:List AV) (H:AH)
theorem Po(x:Opd)(t u):RT P (⟨d,none,.mv x⟩::rest) K fr H t u=RT P rest K (Aq fr d (evalA fr x)) H .mk .mk:=qq
theorem P3(n:Nat):evalA fr (.t n)=(fr[n]?).getD .top:=qq
theorem P4(v:AV):evalA fr (.c v)=v:=qq
theorem Od(n:Nat)(v:AV):Aq fr (some n) v=fr.set n v:=qq
theorem Kr(n:Nat)(cs:List PV):Jl H n (.fptr cs)=if n<=cs.length then some ((cs.take n).map emb)else none:=qq
end
end
end Go.Proofs.YtbngojdlgfhacaaGreatDoor.Abs
