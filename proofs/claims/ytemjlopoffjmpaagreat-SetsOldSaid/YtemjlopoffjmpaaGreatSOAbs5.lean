/-
  The abstract layer, part 5: operations that make no new memory and call nothing.
-/
import Derived.Test.YtemjlopoffjmpaaGreatSOAbs4
set_option linter.unusedSimpArgs false
set_option linter.unusedVariables false
namespace Go.Proofs.YtemjlopoffjmpaaGreat.Abs
open Go
inductive EK where
 | b | i | s
 deriving DecidableEq, Inhabited
inductive AOp where
 | mv (x : Opd)
 | pick (c a b : Opd)
 | alloc (cs : List AV)
 | box (x : Opd)
 | build (zero : List AV) (parts : List (Nat × Nat × Opd))
 | bslice (sz len : Nat) (zero : List AV) (parts : List (Nat × Opd))
 | load (agg : Bool) (n : Nat) (x : Opd)
 | store (n : Nat) (p x : Opd)
 | nilchk (x : Opd)
 | bini (op : BinOp) (x y : Opd)
 | bins (op : BinOp) (x y : Opd)
 | eqb (neg : Bool) (x y : Opd)
 | eqs (neg : Bool) (ks : List EK) (x y : Opd)
 | un (op : UnOp) (x : Opd)
 | convi (k : IntKind) (x : Opd)
 | convsb (x : Opd)
 | convbs (x : Opd)
 | convss (x : Opd)
 | mksl (sz bytes : Nat) (zero : List AV) (len cap : Opd)
 | slices (x : Opd) (lo hi : Option Opd)
 | slicel (sz : Nat) (x : Opd) (lo hi : Option Opd)
 | slicez (x : Opd)
 | slice3 (x lo hi mx : Opd)
 | eqnil (neg : Bool) (x : Opd)
 | faddr (off : Nat) (x : Opd)
 | field (agg : Bool) (off n : Nat) (x : Opd)
 | iaddr (sz : Nat) (x i : Opd)
 | iaddra (len sz : Nat) (x i : Opd)
 | indexs (x i : Opd)
 | ext (x : Opd) (i : Nat)
 | len (str : Bool) (x : Opd)
 | append (sz bytes : Nat) (zero : List AV) (x y : Opd)
 | copy (sz : Nat) (x y : Opd)
 | clear (sz : Nat) (zero : List AV) (x : Opd)
 | min2 (x y : Opd)
 | max2 (x y : Opd)
 | mkfn (f : Fn) (first cap : List Opd)
 | call (f : FuncId) (args : List Opd)
 | calld (x : Opd) (args : List Opd)
 | bad
 deriving Inhabited
def liveO (H : AH) (r tot : Nat) : Option AObj :=
 match H.at r with
 | some o => if o.length = tot then some o else none
 | none => none
def cellsOf : AV → Option (List AV)
 | .agg cs => some cs
 | .top => none
 | .tuple _ => none
 | x => some [x]
def unAgg (agg : Bool) (cs : List AV) : AV := if agg then .agg cs else (cs[0]?).getD .top
def readAt (H : AH) (n : Nat) : AV → Option (List AV)
 | .ptr r i j tot =>
   match liveO H r tot with
   | some o =>
     match o[i]? with
     | some e => if j + n ≤ e.length then some ((e.drop j).take n) else none
     | none => none
   | none => none
 | .fptr cs => if n ≤ cs.length then some ((cs.take n).map emb) else none
 | _ => none
def lay (e : List AV) (j : Nat) (cs : List AV) : List AV := e.take j ++ cs ++ e.drop (j + cs.length)
def fillA (ev : Opd → AV) : List AV → List (Nat × Nat × Opd) → Option (List AV)
 | cells, [] => some cells
 | cells, (off, size, x) :: rest =>
   match cellsOf (ev x) with
   | some cs => if cs.length = size ∧ off + size ≤ cells.length then fillA ev (lay cells off cs) rest else none
   | none => none
def binI (op : BinOp) (k : IntKind) (a b : Int) : Option AV :=
 match op with
 | .add => some (.int k (k.wrap (a + b)))
 | .sub => some (.int k (k.wrap (a - b)))
 | .mul => some (.int k (k.wrap (a * b)))
 | .quo => if b = 0 then none else some (.int k (k.wrap (a.tdiv b)))
 | .rem => if b = 0 then none else some (.int k (a.tmod b))
 | .and => some (.int k (k.wrap (BitVec.ofInt k.bits a &&& BitVec.ofInt k.bits b).toNat))
 | .or => some (.int k (k.wrap (BitVec.ofInt k.bits a ||| BitVec.ofInt k.bits b).toNat))
 | .xor => some (.int k (k.wrap (BitVec.ofInt k.bits a ^^^ BitVec.ofInt k.bits b).toNat))
 | .andNot => some (.int k (k.wrap (BitVec.ofInt k.bits a &&& ~~~ BitVec.ofInt k.bits b).toNat))
 | .eql => some (.bool (a == b))
 | .neq => some (.bool (a != b))
 | .lss => some (.bool (decide (a < b)))
 | .leq => some (.bool (decide (a ≤ b)))
 | .gtr => some (.bool (decide (a > b)))
 | .geq => some (.bool (decide (a ≥ b)))
 | .shl => if b < 0 then none else some (.int k (k.wrap (a * 2 ^ (min b.toNat k.bits))))
 | .shr => if b < 0 then none else some (.int k (a.fdiv (2 ^ (min b.toNat k.bits))))
def binS (op : BinOp) (a b : List UInt8) : Option AV :=
 match op with
 | .add => if a.length + b.length ≤ 1000000000 then some (.str (a ++ b)) else none
 | .eql => some (.bool (a == b))
 | .neq => some (.bool (!(a == b)))
 | .lss => some (.bool (Op.bytesLess a b))
 | .leq => some (.bool (Op.bytesLess a b || a == b))
 | .gtr => some (.bool (!(Op.bytesLess a b || a == b)))
 | .geq => some (.bool (!Op.bytesLess a b))
 | _ => none
def unI (op : UnOp) (k : IntKind) (n : Int) : Option AV :=
 match op with
 | .neg => some (.int k (k.wrap (0 - n)))
 | .xor => some (.int k (k.wrap (BitVec.ofInt k.bits (if k.signed then -1 else k.max) ^^^ BitVec.ofInt k.bits n).toNat))
 | _ => none
def bnd (ev : Opd → AV) (x : Option Opd) (dflt top : Nat) : Option Nat :=
 match x with
 | none => some dflt
 | some x =>
   match ev x with
   | .int _ n => if 0 ≤ n ∧ n ≤ top then some n.toNat else none
   | _ => none
def eqCells : List EK → List AV → List AV → Option Bool
 | [], [], [] => some true
 | .i :: ks, .int k a :: xs, .int k' b :: ys => if k = k' then (eqCells ks xs ys).map fun r => (a == b) && r else none
 | .s :: ks, .str a :: xs, .str b :: ys => (eqCells ks xs ys).map fun r => (a == b) && r
 | .b :: ks, .bool a :: xs, .bool b :: ys => (eqCells ks xs ys).map fun r => (a == b) && r
 | _, _, _ => none
def elemsOf (H : AH) : AV → Option (List (List AV))
 | .emp => some []
 | .fz es => some (es.map fun e => e.map emb)
 | .own r _ off len tot =>
   match liveO H r tot with
   | some o => if off + len ≤ tot then some ((o.drop off).take len) else none
   | none => none
 | _ => none
def roomOf (H : AH) : AV → Option Nat
 | .emp => some 0
 | .fz es => some es.length
 | .own r _ off _ tot => (liveO H r tot).map fun _ => tot - off
 | _ => none
def bytesOf : List (List AV) → Option (List UInt8)
 | [] => some []
 | [.int .u8 n] :: r => (bytesOf r).map fun l => UInt8.ofNat n.toNat :: l
 | _ => none
def aop0 (op : AOp) (ev : Opd → AV) (H : AH) : Option AV :=
 match op with
 | .mv x => some (ev x)
 | .pick c a b =>
   match ev c with
   | .bool true => some (ev a)
   | .bool false => some (ev b)
   | _ => none
 | .build zero parts => (fillA ev zero parts).map .agg
 | .load agg n x => (readAt H n (ev x)).map (unAgg agg)
 | .nilchk x =>
   match ev x with
   | .ptr r i j tot => (liveO H r tot).map fun _ => .ptr r i j tot
   | .fptr cs => some (.fptr cs)
   | _ => none
 | .bini op x y =>
   match ev x, ev y with
   | .int k a, .int k' b => if k = k' ∨ op = .shl ∨ op = .shr then binI op k a b else none
   | _, _ => none
 | .bins op x y =>
   match ev x, ev y with
   | .str a, .str b => binS op a b
   | _, _ => none
 | .eqb neg x y =>
   match ev x, ev y with
   | .bool a, .bool b => some (.bool ((a == b) != neg))
   | _, _ => none
 | .un op x =>
   match ev x with
   | .bool b => if op = .not then some (.bool !b) else none
   | .int k n => unI op k n
   | _ => none
 | .convi k x =>
   match ev x with
   | .int _ n => some (.int k (k.wrap n))
   | _ => none
 | .convss x =>
   match ev x with
   | .str s => some (.str s)
   | _ => none
 | .slices x lo hi =>
   match ev x with
   | .str s =>
     match bnd ev hi s.length s.length with
     | some h =>
       match bnd ev lo 0 h with
       | some l => some (.str ((s.take h).drop l))
       | none => none
     | none => none
   | _ => none
 | .faddr off x =>
   match ev x with
   | .ptr r i j tot => (liveO H r tot).map fun _ => .ptr r i (j + off) tot
   | .fptr cs => if off ≤ cs.length then some (.fptr (cs.drop off)) else none
   | _ => none
 | .field agg off n x =>
   match ev x with
   | .agg cs => if off + n ≤ cs.length then some (unAgg agg ((cs.drop off).take n)) else none
   | _ => none
 | .indexs x i =>
   match ev x, ev i with
   | .str s, .int _ n => if 0 ≤ n then (s[n.toNat]?).map fun b => .int .u8 b.toNat else none
   | _, _ => none
 | .ext x i =>
   match ev x with
   | .tuple vs => vs[i]?
   | _ => none
 | .len true x =>
   match ev x with
   | .str s => some (.int .i64 s.length)
   | _ => none
 | .len false x =>
   match ev x with
   | .emp => some (.int .i64 0)
   | .fz es => some (.int .i64 es.length)
   | .own r _ _ len tot => (liveO H r tot).map fun _ => .int .i64 len
   | _ => none
 | .min2 x y =>
   match ev x, ev y with
   | .int k a, .int _ b => some (.int k (if b < a then b else a))
   | _, _ => none
 | .max2 x y =>
   match ev x, ev y with
   | .int k a, .int _ b => some (.int k (if b > a then b else a))
   | _, _ => none
 | .mkfn f first cap => some (.fn f (first.map ev) (cap.map ev))
 | .slicel sz x lo hi =>
   match ev x with
   | .fz es =>
     match bnd ev hi es.length es.length with
     | some h =>
       match bnd ev lo 0 h with
       | some l => if ((es.take h).drop l).all (fun e => decide (e.length = sz)) then some (.fz ((es.take h).drop l)) else none
       | none => none
     | none => none
   | .emp =>
     match bnd ev hi 0 0 with
     | some _ =>
       match bnd ev lo 0 0 with
       | some _ => some .emp
       | none => none
     | none => none
   | .own r sz' off len tot =>
     match liveO H r tot with
     | some _ =>
       if off ≤ tot ∧ sz' = sz then
        match bnd ev hi len (tot - off) with
        | some h =>
          match bnd ev lo 0 h with
          | some l =>
            if l = 0 then some (.own r sz off h tot)
            else if h ≤ l then some (.fz [])
            else some (.own r sz (off + l) (h - l) tot)
          | none => none
        | none => none
       else none
     | none => none
   | _ => none
 | .slicez x =>
   match ev x with
   | .fz _ => some .emp
   | .emp => some .emp
   | .own r _ _ _ tot => (liveO H r tot).map fun _ => .emp
   | _ => none
 | .slice3 x lo hi mx =>
   match roomOf H (ev x) with
   | some c =>
     match bnd ev (some mx) 0 c with
     | some m =>
       match bnd ev (some hi) 0 m with
       | some h =>
         match bnd ev (some lo) 0 h with
         | some _ => some .top
         | none => none
       | none => none
     | none => none
   | none => none
 | .iaddr sz x i =>
   match ev x, ev i with
   | .fz es, .int _ n => if 0 ≤ n then
    match es[n.toNat]? with
    | some e => if e.length = sz then some (.fptr e) else none
    | none => none
     else none
   | .own r sz' off len tot, .int _ n =>
     if 0 ≤ n ∧ n < len ∧ sz' = sz then (liveO H r tot).map fun _ => .ptr r (off + n.toNat) 0 tot else none
   | _, _ => none
 | .iaddra len sz x i =>
   match ev x, ev i with
   | .ptr r k j tot, .int _ n => if 0 ≤ n ∧ n < len then (liveO H r tot).map fun _ => .ptr r k (j + n.toNat * sz) tot else none
   | .fptr cs, .int _ n => if 0 ≤ n ∧ n < len ∧ n.toNat * sz ≤ cs.length then some (.fptr (cs.drop (n.toNat * sz))) else none
   | _, _ => none
 | .convbs x => ((elemsOf H (ev x)).bind bytesOf).map .str
 | .eqs neg ks x y =>
   match ev x, ev y with
   | .agg xs, .agg ys => (eqCells ks xs ys).map fun r => .bool (r != neg)
   | _, _ => none
 | _ => none
def isZ : Option Operand → Bool
 | some (.const (.int _ n)) => decide (n = 0)
 | _ => false
theorem isZ_ok {x : Option Operand} (h : isZ x = true) : ∃ k, x = some (.const (.int k 0)) := by
 unfold isZ at h
 split at h
 ·rw [decide_eq_true_eq] at h; subst h; exact ⟨_, rfl⟩
 ·cases h
def eqTy (P : Program) : Nat → TypeId → List EK → Bool
 | 0, _, _ => false
 | d + 1, t, ks =>
   tiB P t (match P.underlying t with | some (.struct _) => true | _ => false) ks.length &&
   match P.underlying t with
   | some .bool => decide (ks = [.b])
   | some (.int _) => decide (ks = [.i])
   | some .string => decide (ks = [.s])
   | some (.struct fs) => !P.stoodInHeld t && fields (eqTy P d) (fun t => (P.info? t).map (·.size)) fs.toList 0 ks
   | _ => false
where
 fields (ok : TypeId → List EK → Bool) (size : TypeId → Option Nat) : List Field → Nat → List EK → Bool
  | [], _, ks => decide (ks = [])
  | f :: fs, off, ks => decide (f.name ≠ "_") && decide (f.offset = off) && (match size f.type with
    | some m => decide (m ≤ ks.length) && ok f.type (ks.take m) && fields ok size fs (off + m) (ks.drop m)
    | none => false)
def fit0 (P : Program) (op : AOp) (o : Op) : Bool :=
 match op, o with
 | .mv x, .move y => fitO x y
 | .mv x, .assign y => fitO x y
 | .pick c a b, .pick c' a' b' => fitO c c' && fitO a a' && fitO b b'
 | .load agg n x, .load t y => tiB P t agg n && (agg || decide (n = 1)) && fitO x y
 | .nilchk x, .nilCheck y => fitO x y
 | .bini op x y, .binOp op' _ x' y' _ => decide (op = op') && fitO x x' && fitO y y'
 | .bins op x y, .binOp op' _ x' y' _ => decide (op = op') && fitO x x' && fitO y y'
 | .eqb neg x y, .binOp op' t x' y' _ => decide (op' = if neg then .neq else .eql) && (match P.underlying t with | some .bool => true | _ => false) && fitO x x' && fitO y y'
 | .un op x, .unOp op' _ x' => decide (op = op') && fitO x x'
 | .convi k x, .convert s t y => (P.underlying s).isSome && (match P.underlying t with | some (.int k') => decide (k = k') | _ => false) && fitO x y
 | .convss x, .convert s t y => (P.underlying s).isSome && (match P.underlying t with | some .string => true | _ => false) && fitO x y
 | .slices x lo hi, .slice t y lo' hi' none => (match P.underlying t with | some .string => true | _ => false) && fitO x y && fitOO lo lo' && fitOO hi hi'
 | .faddr off x, .fieldAddr t y f =>
   (match P.underlying t with
    | some (.struct fs) => match fs[f]? with
      | some g => decide (g.offset = off) && (match P.info? g.type with | some i => decide (i.size ≠ 0) | none => false)
      | none => false
    | _ => false) && fitO x y
 | .field agg off n x, .field t y f =>
   (match P.underlying t with
    | some (.struct fs) => match fs[f]? with
      | some g => decide (g.offset = off) && tiB P g.type agg n && (agg || decide (n = 1))
      | none => false
    | _ => false) && fitO x y
 | .indexs x i, .index t y j => (match P.underlying t with | some .string => true | _ => false) && fitO x y && fitO i j
 | .ext x i, .extract y j => decide (i = j) && fitO x y
 | .len str x, .call { callee := .builtin .len, args := args, argTypes := ts } =>
   (match args.toList, ts.toList with
    | [y], [t] => (match P.underlying t with | some .string => str | some (.slice _) => !str | _ => false) && fitO x y
    | _, _ => false)
 | .min2 x y, .call { callee := .builtin .min, args := args, argTypes := _ } =>
   (match args.toList with | [x', y'] => fitO x x' && fitO y y' | _ => false)
 | .max2 x y, .call { callee := .builtin .max, args := args, argTypes := _ } =>
   (match args.toList with | [x', y'] => fitO x x' && fitO y y' | _ => false)
 | .mkfn f first cap, .makeFunc g first' cap' => decide (f = g) && fitOs first first'.toList && fitOs cap cap'.toList
 | .slicel sz x lo hi, .slice t y lo' hi' none =>
   (match P.underlying t with | some (.slice e) => (match P.info? e with | some i => decide (i.size = sz) | none => false) | _ => false) && fitO x y && fitOO lo lo' && fitOO hi hi'
 | .slicez x, .slice t y lo hi mx =>
   (match P.underlying t with | some (.slice e) => (P.info? e).isSome | _ => false) && fitO x y && (lo.isNone || isZ lo) && isZ hi && isZ mx
 | .slice3 x lo hi mx, .slice t y (some lo') (some hi') (some mx') =>
   (match P.underlying t with | some (.slice e) => (P.info? e).isSome | _ => false) && fitO x y && fitO lo lo' && fitO hi hi' && fitO mx mx'
 | .iaddr sz x i, .indexAddr t y j =>
   (match P.underlying t with | some (.slice e) => (match P.info? e with | some i => decide (i.size = sz) | none => false) | _ => false) && fitO x y && fitO i j
 | .iaddra len sz x i, .indexAddr t y j =>
   (match P.underlying t with | some (.array n e) => decide (n = len) && (match P.info? e with | some i => decide (i.size = sz) | none => false) | _ => false) && fitO x y && fitO i j
 | .convbs x, .convert s t y =>
   (match P.underlying s with | some (.slice e) => (match P.underlying e with | some (.int .u8) => (match P.info? e with | some i => decide (i.size = 1) | none => false) | _ => false) | _ => false) &&
   (match P.underlying t with | some .string => true | _ => false) && fitO x y
 | .eqs neg ks x y, .binOp op' t x' y' _ => decide (op' = if neg then .neq else .eql) && (match P.underlying t with | some (.struct _) => true | _ => false) &&
   eqTy P 20 t ks && !P.eqGuardType P.depth t && fitO x x' && fitO y y'
 | .build zero parts, .build t ps =>
   (match P.info? t with
    | some i => match i.zero with
      | some z => repCs zero z.cells.toList
      | none => false
    | none => false) &&
   (match P.underlying t with
    | some (.struct fs) => fs.toList.all (fun f => (P.info? f.type).isSome) && fitParts (fun i => match fs[i]? with
     | some f => match P.info? f.type with
       | some i => some (f.offset, i.size)
       | none => none
     | none => none) parts ps.toList
    | some (.array _ e) => (match P.info? e with | some i => fitParts (fun k => some (k * i.size, i.size)) parts ps.toList | none => false)
    | _ => false)
 | _, _ => false
where
 fitOO : Option Opd → Option Operand → Bool
  | none, none => true
  | some x, some y => fitO x y
  | _, _ => false
 fitParts (place : Nat → Option (Nat × Nat)) : List (Nat × Nat × Opd) → List (Nat × Operand) → Bool
  | [], [] => true
  | (off, size, x) :: xs, (i, y) :: ys => decide (place i = some (off, size)) && fitO x y && fitParts place xs ys
  | _, _ => false
 fitOs : List Opd → List Operand → Bool
  | [], [] => true
  | x :: xs, y :: ys => fitO x y && fitOs xs ys
  | _, _ => false
def Sound0 (P : Program) (o : Op) (ao : AOp) : Prop :=
 ∀ (E : Env) (w : World) (H : AH) (fr : List AV) (a : Act) (v : AV) (oper : Oper), oper.op = o → Sim E w H → RepL E fr a.tmps → aop0 ao (evalA fr) H = some v →
   ∃ u, (execOp a.eval oper).run P w = .ok (.value u) w ∧ Rep E v u
end Go.Proofs.YtemjlopoffjmpaaGreat.Abs
