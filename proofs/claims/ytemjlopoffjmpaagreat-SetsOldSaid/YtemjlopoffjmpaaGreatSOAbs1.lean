/-
  The abstract layer, part 1: abstract values, the relation between abstract and real values, the relation between an abstract heap and a world.
-/
import Derived.WalkKit
set_option linter.unusedSimpArgs false
set_option linter.unusedVariables false
namespace Go.Proofs.YtemjlopoffjmpaaGreat.Abs
inductive PV where
 | top
 | bool (b : Bool)
 | int (k : IntKind) (n : Int)
 | str (s : List UInt8)
 | nilp
 | emp
 | fz (es : List (List PV))
 | fptr (cs : List PV)
 | nilfn
 deriving Inhabited
inductive AV where
 | top
 | bool (b : Bool)
 | int (k : IntKind) (n : Int)
 | str (s : List UInt8)
 | agg (cs : List AV)
 | tuple (vs : List AV)
 | nilp
 | emp
 | fz (es : List (List PV))
 | fptr (cs : List PV)
 | own (r sz off len tot : Nat)
 | ptr (r i j tot : Nat)
 | fn (f : Fn) (first cap : List AV)
 | nilfn
 deriving Inhabited
def emb : PV → AV
 | .top => .top
 | .bool b => .bool b
 | .int k n => .int k n
 | .str s => .str s
 | .nilp => .nilp
 | .emp => .emp
 | .fz es => .fz es
 | .fptr cs => .fptr cs
 | .nilfn => .nilfn
def toPV : AV → Option PV
 | .top => some .top
 | .bool b => some (.bool b)
 | .int k n => some (.int k n)
 | .str s => some (.str s)
 | .nilp => some .nilp
 | .emp => some .emp
 | .fz es => some (.fz es)
 | .fptr cs => some (.fptr cs)
 | .nilfn => some .nilfn
 | _ => none
structure Own where
 b : Nat
 sz : Nat
 n : Nat
 t : Nat
structure Env where
 F : Nat → Option Obj
 X : Nat → Option Obj
 ρ : Nat → Option Own
 os : Os
 tape : Nat → Question → Nat
 output : Array (Nat × ByteArray)
inductive RepP (F : Nat → Option Obj) : PV → Value → Prop
 | top (v) (h1 : v.oneCell' = true) : RepP F .top v
 | bool (b) : RepP F (.bool b) (.bool b)
 | int (k n) : RepP F (.int k n) (.int k n)
 | str (s : List UInt8) : RepP F (.str s) (.string ⟨s.toArray⟩)
 | nilp : RepP F .nilp (.pointer none)
 | emp (a) : RepP F .emp (.slice a 0 0)
 | nilfn : RepP F .nilfn .nilFunc
 | fz0 (a cap) : RepP F (.fz []) (.slice a 0 cap)
 | fz (es : List (List PV)) (b off cap sz : Nat) (cells : Array Value) (t : TypeId) (q : Nat × Nat) (hF : F b = some (.cells cells t q)) (hcap : es.length ≤ cap)
  (hsz : ∀ e ∈ es, e.length = sz) (hin : off + es.length * sz ≤ cells.size)
  (hc : ∀ (i : Nat) e (k : Nat) c v, es[i]? = some e → e[k]? = some c → cells[off + (i * sz + k)]? = some v → RepP F c v) : RepP F (.fz es) (.slice (some ⟨b, off, none⟩) es.length cap)
 | fptr (cs : List PV) (b off : Nat) (cells : Array Value) (t : TypeId) (q : Nat × Nat) (hF : F b = some (.cells cells t q))
  (hin : off + cs.length ≤ cells.size)
  (hc : ∀ (k : Nat) c v, cs[k]? = some c → cells[off + k]? = some v → RepP F c v) : RepP F (.fptr cs) (.pointer (some ⟨b, off, none⟩))
inductive Rep (E : Env) : AV → Value → Prop
 | top (v) : Rep E .top v
 | pure {x : PV} {v} (h : RepP E.F x v) : Rep E (emb x) v
 | agg (cs : List AV) (vs : Array Value) (hl : cs.length = vs.size) (h : ∀ (i : Nat) c v, cs[i]? = some c → vs[i]? = some v → Rep E c v) : Rep E (.agg cs) (.agg vs)
 | tuple (cs : List AV) (vs : Array Value) (hl : cs.length = vs.size) (h : ∀ (i : Nat) c v, cs[i]? = some c → vs[i]? = some v → Rep E c v) : Rep E (.tuple cs) (.tuple vs)
 | fn (f : Fn) (first cap : List AV) (vs ws : Array Value) (hl : first.length = vs.size) (hm : cap.length = ws.size)
  (h : ∀ (i : Nat) c v, first[i]? = some c → vs[i]? = some v → Rep E c v) (h' : ∀ (i : Nat) c v, cap[i]? = some c → ws[i]? = some v → Rep E c v) : Rep E (.fn f first cap) (.func f vs ws)
 | own0 (r sz a) : Rep E (.own r sz 0 0 0) (.slice a 0 0)
 | own (r sz off len tot cap : Nat) (x : Own) (hρ : E.ρ r = some x) (htot : x.t = tot) (hsz : x.sz = sz) (hlen : off + len ≤ tot) (hcap : len ≤ cap) (hc : tot ≤ off + cap) (hn : (off + cap) * x.sz ≤ x.n) :
  Rep E (.own r sz off len tot) (.slice (some ⟨x.b, off * x.sz, none⟩) len cap)
 | ptr (r i j tot : Nat) (x : Own) (hρ : E.ρ r = some x) (htot : x.t = tot) : Rep E (.ptr r i j tot) (.pointer (some ⟨x.b, i * x.sz + j, none⟩))
 | stale_own (r sz off len tot v) (x : Own) (hρ : E.ρ r = some x) (htot : tot < x.t) (h1 : v.oneCell' = true) : Rep E (.own r sz off len tot) v
 | stale_ptr (r i j tot v) (x : Own) (hρ : E.ρ r = some x) (htot : tot < x.t) (h1 : v.oneCell' = true) : Rep E (.ptr r i j tot) v
abbrev AObj := List (List AV)
abbrev AH := List (Option AObj)
def AH.at (H : AH) (r : Nat) : Option AObj := (H[r]?).join
structure Lies (E : Env) (w : World) (o : AObj) (x : Own) : Prop where
 t : x.t = o.length
 pos : 0 < x.sz
 out : E.F x.b = none ∧ E.X x.b = none
 blk : ∃ (cells : Array Value) (t : TypeId) (q : Nat × Nat), w.heap[x.b]? = some (.cells cells t q) ∧ cells.size = x.n ∧ (q = (0, 0) ∨ x.n ≤ q.1) ∧ (∀ (i : Nat) v, cells[i]? = some v → v.oneCell' = true) ∧
  ∀ (i : Nat) e (k : Nat) c v, o[i]? = some e → e[k]? = some c → cells[i * x.sz + k]? = some v → Rep E c v
 sz : ∀ e ∈ o, e.length = x.sz
 fits : o.length * x.sz ≤ x.n
structure Sim (E : Env) (w : World) (H : AH) : Prop where
 os : w.os = E.os
 tape : w.tape = E.tape
 output : w.output = E.output
 frz : ∀ b o, E.F b = some o ∨ E.X b = some o → w.heap[b]? = some o
 disj : ∀ b o, E.F b = some o → E.X b = none
 dom : ∀ r x, E.ρ r = some x → r < H.length
 obj : ∀ r o, H.at r = some o → (o = [] ∧ E.ρ r = none) ∨ ∃ x, E.ρ r = some x ∧ Lies E w o x
 inj : ∀ r r' o o' x x', H.at r = some o → H.at r' = some o' → E.ρ r = some x → E.ρ r' = some x' → x.b = x'.b → r = r'
structure Le (E E' : Env) : Prop where
 F : ∀ b o, E.F b = some o → E'.F b = some o
 ρ : ∀ r x, E.ρ r = some x → ∃ x', E'.ρ r = some x' ∧ (x' = x ∨ x.t < x'.t)
 X : E'.X = E.X
 os : E'.os = E.os
 tape : E'.tape = E.tape
 output : E'.output = E.output
theorem Le.refl (E : Env) : Le E E := ⟨fun _ _ h => h, fun _ x h => ⟨x, h, .inl rfl⟩, rfl, rfl, rfl, rfl⟩
theorem Le.trans {A B C : Env} (h : Le A B) (h' : Le B C) : Le A C := by
 refine ⟨fun b o hb => h'.F b o (h.F b o hb), fun r x hr => ?_, h'.X.trans h.X, h'.os.trans h.os, h'.tape.trans h.tape, h'.output.trans h.output⟩
 obtain ⟨y, hy, e⟩ := h.ρ r x hr
 obtain ⟨z, hz, e'⟩ := h'.ρ r y hy
 refine ⟨z, hz, ?_⟩
 rcases e with rfl | e
 ·exact e'
 ·rcases e' with rfl | e'
  ·exact .inr e
  ·exact .inr (Nat.lt_trans e e')
theorem RepP.mono {F F' : Nat → Option Obj} (hF : ∀ b o, F b = some o → F' b = some o) {x : PV} {v : Value} (h : RepP F x v) : RepP F' x v := by
 induction h with
 | top v h1 => exact .top v h1
 | bool b => exact .bool b
 | int k n => exact .int k n
 | str s => exact .str s
 | nilp => exact .nilp
 | emp a => exact .emp a
 | nilfn => exact .nilfn
 | fz0 a cap => exact .fz0 a cap
 | fz es b off cap sz cells t q h1 hcap hsz hin _ ih => exact .fz es b off cap sz cells t q (hF _ _ h1) hcap hsz hin ih
 | fptr cs b off cells t q h1 hin _ ih => exact .fptr cs b off cells t q (hF _ _ h1) hin ih
theorem RepP.one {F : Nat → Option Obj} {x : PV} {v : Value} (h : RepP F x v) : v.oneCell' = true := by
 cases h <;> first | rfl | assumption
theorem Rep.mono {E E' : Env} (hE : Le E E') {x : AV} {v : Value} (h : Rep E x v) : Rep E' x v := by
 induction h with
 | top v => exact .top v
 | pure h => exact .pure (h.mono hE.F)
 | agg cs vs hl _ ih => exact .agg cs vs hl ih
 | tuple cs vs hl _ ih => exact .tuple cs vs hl ih
 | fn f first cap vs ws hl hm _ _ ih ih' => exact .fn f first cap vs ws hl hm ih ih'
 | own0 r sz a => exact .own0 r sz a
 | own r sz off len tot cap x hρ htot hsz hlen hcap hc hn =>
   obtain ⟨x', hx', e⟩ := hE.ρ r x hρ
   rcases e with rfl | e
   ·exact .own r sz off len tot cap x' hx' htot hsz hlen hcap hc hn
   ·exact .stale_own r sz off len tot _ x' hx' (by omega) rfl
 | ptr r i j tot x hρ htot =>
   obtain ⟨x', hx', e⟩ := hE.ρ r x hρ
   rcases e with rfl | e
   ·exact .ptr r i j tot x' hx' htot
   ·exact .stale_ptr r i j tot _ x' hx' (by omega) rfl
 | stale_own r sz off len tot v x hρ htot h1 =>
   obtain ⟨x', hx', e⟩ := hE.ρ r x hρ
   exact .stale_own r sz off len tot v x' hx' (by rcases e with rfl | e <;> omega) h1
 | stale_ptr r i j tot v x hρ htot h1 =>
   obtain ⟨x', hx', e⟩ := hE.ρ r x hρ
   exact .stale_ptr r i j tot v x' hx' (by rcases e with rfl | e <;> omega) h1
end Go.Proofs.YtemjlopoffjmpaaGreat.Abs
