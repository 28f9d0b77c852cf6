/-
  The abstract layer, part 18: code, contracts, and the rules by which code is walked over abstract frames and heaps.
-/
import Derived.Test.YtemjlopoffjmpaaGreatSOAbs17
import Derived.Deep.LoopGhost
import Derived.Orders
set_option linter.unusedSimpArgs false
set_option linter.unusedVariables false
namespace Go.Proofs.YtemjlopoffjmpaaGreat.Abs
open Go
structure AInstr where
 dst : Option Nat
 guard : Option (Nat × Bool)
 op : AOp
 deriving Inhabited
def I0 (d s : Nat) : AInstr := ⟨some d, none, .mv (.t s)⟩
def I1 (d : Nat) (o : AOp) : AInstr := ⟨some d, none, o⟩
def I2 (d g : Nat) (o : AOp) : AInstr := ⟨some d, some (g, true), o⟩
def I3 (d g : Nat) (o : AOp) : AInstr := ⟨some d, some (g, false), o⟩
def I4 (d g s : Nat) : AInstr := ⟨some d, some (g, true), .mv (.t s)⟩
def I5 (d g s : Nat) : AInstr := ⟨some d, some (g, false), .mv (.t s)⟩
def I6 (d n s : Nat) : AInstr := ⟨some d, none, .faddr n (.t s)⟩
def I7 (d s : Nat) : AInstr := ⟨some d, none, .load false 1 (.t s)⟩
def I8 (d s n : Nat) : AInstr := ⟨some d, none, .ext (.t s) n⟩
def I9 (n p s : Nat) : AInstr := ⟨none, none, .store n (.t p) (.t s)⟩
def KI (n : Int) : Opd := .c (.int .i64 n)
inductive ACode where
 | skip
 | reg (ops : List AInstr)
 | dreg (ops : List AInstr)
 | dregE (segs : List (List (Nat × AInstr))) (tab : List (List Nat))
 | seq (a b : ACode)
 | cond (c : Opd) (a b : ACode)
 | block (id : Nat) (b : ACode)
 | loop (b : ACode)
 | exit (id : Nat)
 | ret
 | bad
 deriving Inhabited
inductive AExit where
 | normal
 | exit (id : Nat)
 | ret
def toExit : AExit → Exit
 | .normal => .normal
 | .exit id => .exit id
 | .ret => .ret
def fitG (ops : Array Oper) : Option (Nat × Bool) → Option (Nat × Bool) → Bool
 | none, none => true
 | some (s, b), some (j, b') => (b == b') && decide ((ops[j]?).bind (·.dst) = some s)
 | _, _ => false
def fitI (P : Program) (ops : Array Oper) (i : AInstr) (o : Oper) : Bool :=
 decide (i.dst = o.dst) && fitG ops i.guard o.guard &&
 match i.op, o.op with
 | .call f args, .call { callee := .value (.func g), args := as, argTypes := _ } => decide (f = g) && fit0.fitOs args as.toList
 | .calld x args, .call { callee := .value y, args := as, argTypes := _ } => fitO x y && fit0.fitOs args as.toList
 | .eqnil neg x, .binOp op t y (.const (.slice none 0 0)) _ => decide (op = if neg then .neq else .eql) && (match P.underlying t with | some (.slice _) => true | _ => false) && fitO x y
 | .eqnil _ _, _ => false
 | .call _ _, _ => false
 | .calld _ _, _ => false
 | .bad, _ => false
 | ao, oo => fit0 P ao oo || fit1 P ao oo
def fitOps (P : Program) (ops : Array Oper) : List AInstr → List Oper → Bool
 | [], [] => true
 | i :: is, o :: os => fitI P ops i o && fitOps P ops is os
 | _, _ => false
def opdsA : AOp → List Opd
 | .mv x => [x]
 | .pick c a b => [c, a, b]
 | .alloc _ => []
 | .box x => [x]
 | .build _ parts => parts.map (·.2.2)
 | .bslice _ _ _ parts => parts.map (·.2)
 | .load _ _ x => [x]
 | .store _ p x => [p, x]
 | .nilchk x => [x]
 | .bini _ x y => [x, y]
 | .bins _ x y => [x, y]
 | .eqb _ x y => [x, y]
 | .eqs _ _ x y => [x, y]
 | .un _ x => [x]
 | .convi _ x => [x]
 | .convsb x => [x]
 | .convbs x => [x]
 | .convss x => [x]
 | .mksl _ _ _ l c => [l, c]
 | .slices x lo hi => x :: (lo.toList ++ hi.toList)
 | .slicel _ x lo hi => x :: (lo.toList ++ hi.toList)
 | .slicez x => [x]
 | .slice3 x lo hi mx => [x, lo, hi, mx]
 | .eqnil _ x => [x]
 | .faddr _ x => [x]
 | .field _ _ _ x => [x]
 | .iaddr _ x i => [x, i]
 | .iaddra _ _ x i => [x, i]
 | .indexs x i => [x, i]
 | .ext x _ => [x]
 | .len _ x => [x]
 | .append _ _ _ x y => [x, y]
 | .copy _ x y => [x, y]
 | .clear _ _ x => [x]
 | .min2 x y => [x, y]
 | .max2 x y => [x, y]
 | .mkfn _ f c => f ++ c
 | .call _ args => args
 | .calld x args => x :: args
 | .bad => []
def slotT : Opd → List Nat
 | .t n => [n]
 | .c _ => []
def slotsI (i : AInstr) : List Nat :=
 (opdsA i.op).flatMap slotT ++ (match i.guard with
  | some (g, _) => [g]
  | none => [])
def anc (ops : Array Oper) : Nat → Nat → Nat → Bool
 | 0, _, _ => false
 | k + 1, j, i => match ops[j]? with
   | some o => o.after.any fun e => Region.binds .any e && (e.on == i || anc ops k e.on i)
   | none => false
def depI (is : List AInstr) (ops : Array Oper) (i : Nat) (a : AInstr) (o : Oper) : Bool :=
 (List.range is.length).all (fun j => match is[j]? with
  | some b => match b.dst with
    | some d => (!(slotsI a).contains d || (decide (j < i) && o.after.any fun e => e.on == j && Region.binds .any e) || (decide (i < j) && anc ops is.length j i)) && (decide (i = j) || decide (a.dst ≠ some d))
    | none => true
  | none => true) && o.after.all fun e => !Region.binds .any e || decide (e.on < i)
def depsOK (is : List AInstr) (ops : Array Oper) : Bool :=
 (List.range is.length).all fun i => match is[i]?, ops[i]? with
  | some a, some o => depI is ops i a o
  | _, _ => true
def tabOK (ops : Array Oper) (tab : List (List Nat)) : Bool :=
 decide (tab.length = ops.size) && (List.range ops.size).all fun j => match ops[j]? with
  | some o => o.after.all (fun e => !Region.binds .any e || decide (e.on < j)) &&
   (tab.getD j []).all fun i => o.after.any fun e => Region.binds .any e && (e.on == i || (tab.getD e.on []).contains i)
  | none => true
def sepOK (tab : List (List Nat)) : List (List (Nat × AInstr)) → Bool
 | [] => true
 | s :: rest => !s.isEmpty && rest.flatten.all (fun y => s.all fun x => (tab.getD y.1 []).contains x.1) && sepOK tab rest
def segOK (P : Program) (ops : Array Oper) (l : List (Nat × AInstr)) : Bool :=
 (l.all fun x => match ops[x.1]? with | some o => fitI P ops x.2 o | none => false) && decide ((l.map Prod.fst).Nodup) && (List.range ops.size).all fun j => (l.map Prod.fst).contains j
def fitC (P : Program) : ACode → Code → Bool
 | .skip, .skip => true
 | .reg is, .region _ ops false => fitOps P ops is ops.toList
 | .dreg is, .region _ ops true => P.follows .mixedOrders && (fitOps P ops is ops.toList && depsOK is ops)
 | .dregE segs tab, .region _ ops true => P.follows .mixedOrders && (segOK P ops segs.flatten && (tabOK ops tab && sepOK tab segs))
 | .seq a b, .seq c d => fitC P a c && fitC P b d
 | .cond x a b, .cond y c d => fitO x y && fitC P a c && fitC P b d
 | .block i a, .block j c => decide (i = j) && fitC P a c
 | .loop a, .loop c => fitC P a c
 | .exit i, .exit j => decide (i = j)
 | .ret, .ret => true
 | _, _ => false
structure LeN (n : Nat) (E E' : Env) : Prop where
 F : ∀ b o, E.F b = some o → E'.F b = some o
 ρ : ∀ r x, r < n → E.ρ r = some x → ∃ x', E'.ρ r = some x' ∧ (x' = x ∨ x.t < x'.t)
 X : E'.X = E.X
 os : E'.os = E.os
 tape : E'.tape = E.tape
 output : E'.output = E.output
theorem Le.toN {E E' : Env} (h : Le E E') (n : Nat) : LeN n E E' := ⟨h.F, fun r x _ hr => h.ρ r x hr, h.X, h.os, h.tape, h.output⟩
theorem LeN.refl (n : Nat) (E : Env) : LeN n E E := (Le.refl E).toN n
theorem LeN.trans {n : Nat} {A B C : Env} (h : LeN n A B) (h' : LeN n B C) : LeN n A C := by
 refine ⟨fun b o hb => h'.F b o (h.F b o hb), fun r x hn hr => ?_, h'.X.trans h.X, h'.os.trans h.os, h'.tape.trans h.tape, h'.output.trans h.output⟩
 obtain ⟨y, hy, e⟩ := h.ρ r x hn hr
 obtain ⟨z, hz, e'⟩ := h'.ρ r y hn hy
 refine ⟨z, hz, ?_⟩
 rcases e with rfl | e
 ·exact e'
 ·rcases e' with rfl | e'
  ·exact .inr e
  ·exact .inr (Nat.lt_trans e e')
theorem LeN.full {n : Nat} {E E' : Env} {w : World} {H : AH} (h : LeN n E E') (hs : Sim E w H) (hn : H.length ≤ n) : Le E E' :=
 ⟨h.F, fun r x hr => h.ρ r x (Nat.lt_of_lt_of_le (hs.dom r x hr) hn) hr, h.X, h.os, h.tape, h.output⟩
def Enters (P : Program) (f : FuncId) : Prop := ∃ fn, P.funcs[f]? = some fn ∧ (fn.name == "runtime.NumGoroutine") = false ∧ fn.body.isNone = false
def C (P : Program) (f : FuncId) (args : List AV) (H : AH) (K : AV → AH → Prop) : Prop :=
 Enters P f ∧ ∀ E w vs, Sim E w H → RepL E args vs → Calls P f vs w fun e w' => ∃ v E' x H', e = .returned v ∧ K x H' ∧ LeN H.length E E' ∧ Sim E' w' H' ∧ Rep E' x v
theorem C.mono {P : Program} {f : FuncId} {args : List AV} {H : AH} {K K' : AV → AH → Prop} (h : C P f args H K) (hk : ∀ x H', K x H' → K' x H') : C P f args H K' :=
 ⟨h.1, fun E w vs hs hr => (h.2 E w vs hs hr).mono fun _ _ ⟨v, E', x, H', he, hx, rest⟩ => ⟨v, E', x, H', he, hk _ _ hx, rest⟩⟩
def setA (fr : List AV) (d : Option Nat) (v : AV) : List AV :=
 match d with
 | some d => fr.set d v
 | none => fr
def onSome (x : Option (AV × AH)) (K : AV → AH → Prop) : Prop :=
 match x with
 | some (v, H) => K v H
 | none => False
theorem onSome_ex {x : Option (AV × AH)} {K : AV → AH → Prop} (h : onSome x K) : ∃ v H, x = some (v, H) ∧ K v H := by
 unfold onSome at h
 split at h
 ·exact ⟨_, _, rfl, h⟩
 ·exact h.elim
def nilq (H : AH) : AV → Option (Option Bool)
 | .fz [] => some none
 | .emp => some none
 | .fz (_ :: _) => some (some false)
 | .own r _ _ len tot => (liveO H r tot).map fun _ => if 0 < len then some false else none
 | _ => none
def stepA (P : Program) (i : AInstr) (K : List AV → AH → Prop) (fr : List AV) (H : AH) : Prop :=
 match i.op with
 | .call f args => C P f (args.map (evalA fr)) H fun x H' => K (setA fr i.dst x) H'
 | .calld x args => ∃ f first cap, evalA fr x = .fn (.func f) first cap ∧ C P f (first ++ args.map (evalA fr) ++ cap) H fun x H' => K (setA fr i.dst x) H'
 | .eqnil neg x => ∃ q, nilq H (evalA fr x) = some q ∧ ∀ b, (∀ c, q = some c → b = c) → K (setA fr i.dst (.bool (b != neg))) H
 | op => onSome (aop op (evalA fr) H) fun v H' => K (setA fr i.dst v) H'
def guardA (x : Option AV) (want : Bool) (yes no : Prop) : Prop := (∃ b, x = some (.bool b) ∧ (b = want → yes) ∧ (b ≠ want → no)) ∨ (x = some (.tuple []) ∧ no)
def RA (P : Program) : List AInstr → (List AV → AH → Prop) → List AV → AH → Prop
 | [], K, fr, H => K fr H
 | i :: rest, K, fr, H =>
   match i.guard with
   | none => stepA P i (RA P rest K) fr H
   | some (g, want) => guardA (fr[g]?) want (stepA P i (RA P rest K) fr H) (RA P rest K (setA fr i.dst (.tuple [])) H)
abbrev APost := AExit → List AV → AH → Prop
def lft (n0 : Nat) (E : Env) (Q : APost) : Exit → Act → World → Prop := fun ex a' w' =>
 ∃ E' fr' H' aex, toExit aex = ex ∧ Q aex fr' H' ∧ LeN n0 E E' ∧ Sim E' w' H' ∧ RepL E' fr' a'.tmps ∧ a'.defers = []
def W (P : Program) (n0 : Nat) (ac : ACode) (Q : APost) (fr : List AV) (H : AH) : Prop :=
 ∀ (c : Code) (E : Env) (w : World) (a : Act), fitC P ac c = true → Sim E w H → RepL E fr a.tmps → a.defers = [] → c.wp P (lft n0 E Q) a w
section
variable {P : Program} {n0 : Nat} {Q Q' : APost} {fr : List AV} {H : AH}
theorem put_rep {E : Env} {a : Act} (hr : RepL E fr a.tmps) {x : AV} {v : Value} (hx : Rep E x v) (d : Option Nat) : RepL E (setA fr d x) (a.put d v).tmps := by
 cases d with
 | none => exact hr
 | some d => exact hr.set hx d
theorem put_defers {a : Act} (h : a.defers = []) (d : Option Nat) (v : Value) : (a.put d v).defers = [] := by
 cases d <;> exact h
theorem lft_le {E E' : Env} (hE : LeN n0 E E') {ex : Exit} {a : Act} {w : World} (h : lft n0 E' Q ex a w) : lft n0 E Q ex a w := by
 obtain ⟨E2, fr', H', aex, h1, h2, h3, h4⟩ := h
 exact ⟨E2, fr', H', aex, h1, h2, hE.trans h3, h4⟩
theorem W_mono {ac : ACode} (h : W P n0 ac Q fr H) (hq : ∀ ex fr' H', Q ex fr' H' → Q' ex fr' H') : W P n0 ac Q' fr H := by
 intro c E w a hf hs hr hd
 refine wp_mono (h c E w a hf hs hr hd) ?_
 rintro ex a' w' ⟨E', fr', H', aex, h1, h2, h3⟩
 exact ⟨E', fr', H', aex, h1, hq _ _ _ h2, h3⟩
theorem W_skip (h : Q .normal fr H) : W P n0 .skip Q fr H := by
 intro c E w a hf hs hr hd
 cases c <;> simp only [fitC, Bool.false_eq_true] at hf
 exact wp_skip ⟨E, fr, H, .normal, rfl, h, LeN.refl _ _, hs, hr, hd⟩
theorem W_ret (h : Q .ret fr H) : W P n0 .ret Q fr H := by
 intro c E w a hf hs hr hd
 cases c <;> simp only [fitC, Bool.false_eq_true] at hf
 exact wp_ret ⟨E, fr, H, .ret, rfl, h, LeN.refl _ _, hs, hr, hd⟩
theorem W_exit {id : Nat} (h : Q (.exit id) fr H) : W P n0 (.exit id) Q fr H := by
 intro c E w a hf hs hr hd
 cases c <;> simp only [fitC, Bool.false_eq_true] at hf
 simp only [decide_eq_true_eq] at hf
 subst hf
 exact wp_exit ⟨E, fr, H, .exit id, rfl, h, LeN.refl _ _, hs, hr, hd⟩
def QSeq (P : Program) (n0 : Nat) (b : ACode) (Q : APost) : APost
 | .normal, fr, H => W P n0 b Q fr H
 | e, fr, H => Q e fr H
theorem W_seq {x y : ACode} (h : W P n0 x (QSeq P n0 y Q) fr H) : W P n0 (.seq x y) Q fr H := by
 intro c E w a hf hs hr hd
 cases c <;> simp only [fitC, Bool.false_eq_true, Bool.and_eq_true] at hf
 rename_i c d
 refine wp_seq (wp_mono (h c E w a hf.1 hs hr hd) ?_)
 rintro ex a' w' ⟨E', fr', H', aex, rfl, h2, h3, h4, h5, h6⟩
 cases aex with
 | normal => exact wp_mono (h2 d E' w' a' hf.2 h4 h5 h6) (fun ex a w hl => lft_le h3 hl)
 | exit id => exact ⟨E', fr', H', .exit id, rfl, h2, h3, h4, h5, h6⟩
 | ret => exact ⟨E', fr', H', .ret, rfl, h2, h3, h4, h5, h6⟩
theorem W_cond {x : Opd} {a b : ACode} (bv : Bool) (hx : evalA fr x = .bool bv) (ht : bv = true → W P n0 a Q fr H) (hf' : bv = false → W P n0 b Q fr H) : W P n0 (.cond x a b) Q fr H := by
 intro c E w act hf hs hr hd
 cases c <;> simp only [fitC, Bool.false_eq_true, Bool.and_eq_true] at hf
 rename_i y c d
 obtain ⟨⟨h1, h2⟩, h3⟩ := hf
 have hv := fitO_ok hr h1
 rw [hx] at hv
 exact wp_cond_split (rep_bool hv) (fun h => ht h c E w act h2 hs hr hd) (fun h => hf' h d E w act h3 hs hr hd)
def QBlock (id : Nat) (Q : APost) : APost
 | .exit j, fr, H => if j = id then Q .normal fr H else Q (.exit j) fr H
 | e, fr, H => Q e fr H
theorem W_block {id : Nat} {b : ACode} (h : W P n0 b (QBlock id Q) fr H) : W P n0 (.block id b) Q fr H := by
 intro c E w a hf hs hr hd
 cases c <;> simp only [fitC, Bool.false_eq_true, Bool.and_eq_true, decide_eq_true_eq] at hf
 rename_i j c
 obtain ⟨rfl, hf⟩ := hf
 refine wp_block (wp_mono (h c E w a hf hs hr hd) ?_)
 rintro ex a' w' ⟨E', fr', H', aex, rfl, h2, h3, h4, h5, h6⟩
 cases aex with
 | normal => exact ⟨E', fr', H', .normal, rfl, h2, h3, h4, h5, h6⟩
 | ret => exact ⟨E', fr', H', .ret, rfl, h2, h3, h4, h5, h6⟩
 | exit j =>
   simp only [QBlock] at h2
   show (if j = id then _ else _)
   split
   ·rename_i e; rw [if_pos e] at h2; exact ⟨E', fr', H', .normal, rfl, h2, h3, h4, h5, h6⟩
   ·rename_i e; rw [if_neg e] at h2; exact ⟨E', fr', H', .exit j, rfl, h2, h3, h4, h5, h6⟩
def Wk (n0 : Nat) (fr : List AV) (H : AH) (fr' : List AV) (H' : AH) : Prop :=
 ∀ (E : Env) (w : World) (vs : Array Value), Sim E w H → RepL E fr vs → ∃ E', LeN n0 E E' ∧ Sim E' w H' ∧ RepL E' fr' vs
theorem Wk.refl (n0 : Nat) (fr : List AV) (H : AH) : Wk n0 fr H fr H := fun E _ _ hs hr => ⟨E, LeN.refl _ _, hs, hr⟩
theorem Wk.trans {n0 : Nat} {f1 f2 f3 : List AV} {H1 H2 H3 : AH} (h : Wk n0 f1 H1 f2 H2) (h' : Wk n0 f2 H2 f3 H3) : Wk n0 f1 H1 f3 H3 := by
 intro E w vs hs hr
 obtain ⟨E1, a1, b1, c1⟩ := h E w vs hs hr
 obtain ⟨E2, a2, b2, c2⟩ := h' E1 w vs b1 c1
 exact ⟨E2, a1.trans a2, b2, c2⟩
theorem W_wk {ac : ACode} {fr' : List AV} {H' : AH} (hw : Wk n0 fr H fr' H') (h : W P n0 ac Q fr' H') : W P n0 ac Q fr H := by
 intro c E w a hf hs hr hd
 obtain ⟨E', h1, h2, h3⟩ := hw E w a.tmps hs hr
 exact wp_mono (h c E' w a hf h2 h3 hd) (fun ex a w hl => lft_le h1 hl)
def QLoop (n0 : Nat) (I : Nat → List AV → AH → Prop) (n : Nat) (Q : APost) : APost
 | .normal, fr, H => ∃ fr' H', Wk n0 fr H fr' H' ∧ ∃ n', n' < n ∧ I n' fr' H'
 | e, fr, H => Q e fr H
theorem W_loop {b : ACode} (I : Nat → List AV → AH → Prop) (n : Nat) (h0 : I n fr H) (hround : ∀ n fr H, I n fr H → W P n0 b (QLoop n0 I n Q) fr H) : W P n0 (.loop b) Q fr H := by
 intro c E w a hf hs hr hd
 cases c <;> simp only [fitC, Bool.false_eq_true] at hf
 rename_i c
 refine wp_loop_ghost (fun n a w => ∃ E' fr' H', I n fr' H' ∧ LeN n0 E E' ∧ Sim E' w H' ∧ RepL E' fr' a.tmps ∧ a.defers = []) n ⟨E, fr, H, h0, LeN.refl _ _, hs, hr, hd⟩ ?_
 rintro n a w ⟨E1, fr1, H1, hI, hle, hs1, hr1, hd1⟩
 refine wp_mono (hround n fr1 H1 hI c E1 w a hf hs1 hr1 hd1) ?_
 rintro ex a' w' ⟨E', fr', H', aex, rfl, h2, h3, h4, h5, h6⟩
 cases aex with
 | normal =>
   obtain ⟨fr2, H2, hwk, n', hlt, hI'⟩ := h2
   obtain ⟨E2, g1, g2, g3⟩ := hwk E' w' a'.tmps h4 h5
   exact ⟨n', hlt, E2, fr2, H2, hI', (hle.trans h3).trans g1, g2, g3, h6⟩
 | exit id => exact ⟨E', fr', H', .exit id, rfl, h2, hle.trans h3, h4, h5, h6⟩
 | ret => exact ⟨E', fr', H', .ret, rfl, h2, hle.trans h3, h4, h5, h6⟩
theorem fitOs_ok {E : Env} {a : Act} (hr : RepL E fr a.tmps) : ∀ (xs : List Opd) (ys : List Operand), fit0.fitOs xs ys = true → RepL E (xs.map (evalA fr)) (ys.map a.eval).toArray := by
 intro xs
 induction xs with
 | nil => intro ys h; cases ys <;> simp only [fit0.fitOs, Bool.false_eq_true] at h; exact RepL.nil E
 | cons x xs ih =>
   intro ys h
   cases ys with
   | nil => simp [fit0.fitOs] at h
   | cons y ys =>
     simp only [fit0.fitOs, Bool.and_eq_true] at h
     have := ih ys h.2
     refine ⟨by have := this.1; simp at this; simp [this], fun i c u hc hu => ?_⟩
     cases i with
     | zero => simp at hc hu; subst hc; subst hu; exact fitO_ok hr h.1
     | succ i => exact this.2 i c u (by simpa using hc) (by simpa using hu)
theorem run_callFunc {f : FuncId} (h : Enters P f) (args : Array Value) (w : World) : (callFunc f args).run P w = .ok (.enter f args) w := by
 obtain ⟨fn, h1, h2, h3⟩ := h
 unfold callFunc
 simp only [Sem.run_bind, program, Sem.run, Result.andThen, h1, h2, Bool.false_eq_true, if_false, h3]
 rfl
theorem eqnil_run {E1 : Env} {w : World} {a : Act} {o : Oper} {neg : Bool} {x : Opd} {bo : BinOp} {t ty : TypeId} {y : Operand} (e2 : o.op = .binOp bo t y (.const (.slice none 0 0)) ty)
 (hf : (decide (bo = if neg then .neq else .eql) && (match P.underlying t with | some (.slice _) => true | _ => false) && fitO x y) = true) (hs : Sim E1 w H) (hr : RepL E1 fr a.tmps) {q : Option Bool} (hq : nilq H (evalA fr x) = some q) :
 ∃ b : Bool, (∀ c, q = some c → b = c) ∧ (execOp a.eval o).run P w = .ok (.value (.bool (b != neg))) w := by
 simp only [Bool.and_eq_true, decide_eq_true_eq] at hf
 obtain ⟨⟨hbo, ht⟩, hx⟩ := hf
 have hxr := fitO_ok hr hx
 obtain ⟨et, hu⟩ : ∃ e, P.underlying t = some (.slice e) := by
  split at ht
  ·exact ⟨_, by assumption⟩
  ·cases ht
 obtain ⟨ad, len, cap, he, hb⟩ : ∃ ad len cap, a.eval y = .slice ad len cap ∧ ∀ c, q = some c → ad.isNone = c := by
  unfold nilq at hq
  split at hq
  ·rename_i e; rw [e] at hxr; cases hq
   obtain ⟨ad, cap, he, _⟩ := rep_fz_inv hxr
   exact ⟨ad, _, cap, he, fun c hc => by cases hc⟩
  ·rename_i e; rw [e] at hxr; cases hq
   obtain ⟨ad, he⟩ := rep_emp hxr
   exact ⟨ad, 0, 0, he, fun c hc => by cases hc⟩
  ·rename_i e0 er e; rw [e] at hxr; cases hq
   obtain ⟨ad, cap, he, _, hne⟩ := rep_fz_inv hxr
   obtain ⟨b, off, sz, cells, t', q', rfl, _⟩ := hne (by simp)
   exact ⟨_, _, cap, he, fun c hc => by cases hc; rfl⟩
  ·rename_i r sz off len tot e; rw [e] at hxr
   cases hl : liveO H r tot with
   | none => rw [hl] at hq; cases hq
   | some o =>
     rw [hl] at hq
     simp only [Option.map_some, Option.some.injEq] at hq
     rcases rep_own hxr (live_of hs hl).2.2 with ⟨ad, rfl, rfl, rfl, he⟩ | ⟨x', cap, _, _, g1, g2, g3, _, he⟩
     ·exact ⟨ad, 0, 0, he, fun c hc => by rw [← hq] at hc; simp at hc⟩
     ·refine ⟨_, len, cap, he, fun c hc => ?_⟩
      rw [← hq] at hc
      split at hc
      ·cases hc; rfl
      ·cases hc
  ·cases hq
 have heq : (Op.equal t (.slice ad len cap) (.slice none 0 0)).run P w = .ok ad.isNone w := by
  have : Op.equal t (.slice ad len cap) (.slice none 0 0) = Op.equalIn (9999 + 1) t (.slice ad len cap) (.slice none 0 0) := rfl
  rw [this]
  unfold Op.equalIn
  simp only [Sem.run_bind, run_underlying hu, Result.andThen]
  cases ad <;> rfl
 refine ⟨ad.isNone, hb, ?_⟩
 simp only [execOp, e2, he, show a.eval (.const (.slice none 0 0)) = .slice none 0 0 from rfl]
 apply run_v
 have hg : ∀ bo, (eqGuard bo t y (.const (.slice none 0 0)) (.slice ad len cap) (.slice none 0 0)).run P w = .ok () w := fun bo => by cases bo <;> rfl
 simp only [Sem.run_bind, hg, Result.andThen, hbo]
 cases neg <;> simp only [binOp, if_true, if_false, Bool.false_eq_true, Sem.run_bind, heq, Result.andThen] <;> cases ad <;> rfl
theorem step_ok {E E1 : Env} {w : World} {a : Act} {ops : Array Oper} {i : AInstr} {o : Oper} (hf : fitI P ops i o = true) (hs : Sim E1 w H) (hr : RepL E1 fr a.tmps) (hd : a.defers = []) (hle : LeN n0 E E1)
 {K : List AV → AH → Prop} (h : stepA P i K fr H) {next : Act → World → Prop} {QQ : Exit → Act → World → Prop}
 (hk : ∀ E' fr' H' a' w', K fr' H' → LeN n0 E E' → Sim E' w' H' → RepL E' fr' a'.tmps → a'.defers = [] → next a' w') : o.wp P a w next QQ := by
 unfold fitI at hf
 rw [Bool.and_eq_true, Bool.and_eq_true] at hf
 obtain ⟨⟨hdst, _⟩, hf⟩ := hf
 have hdst : i.dst = o.dst := by simpa using hdst
 have callk : ∀ {f : FuncId} {args : List AV} {vs : Array Value}, C P f args H (fun x H' => K (setA fr i.dst x) H') → RepL E1 args vs → (execOp a.eval o).run P w = .ok (.enter f vs) w → o.wp P a w next QQ := by
  intro f args vs hC hrl hrun
  unfold Oper.wp
  rw [hrun]
  refine (hC.2 E1 w vs hs hrl).mono ?_
  rintro e w' ⟨v, E', x, H', rfl, hK, hle', hs', hx⟩
  have hfull := hle'.full hs (Nat.le_refl _)
  rw [hdst] at hK
  exact hk E' _ H' _ w' hK (hle.trans (hfull.toN n0)) hs' (put_rep (hr.mono hfull) hx o.dst) (put_defers hd _ _)
 have plain : (fit0 P i.op o.op || fit1 P i.op o.op) = true → (∃ v H', aop i.op (evalA fr) H = some (v, H') ∧ K (setA fr i.dst v) H') → o.wp P a w next QQ := by
  rintro hf ⟨v, H', hv, hK⟩
  obtain ⟨u, w', E', hrun, hle', hs', hx⟩ := ok_op hf rfl hs hr hv
  rw [hdst] at hK
  unfold Oper.wp
  rcases hrun with hrun | ⟨hrun, rfl⟩
  ·rw [hrun]
   exact hk E' _ H' _ w' hK (hle.trans (hle'.toN n0)) hs' (put_rep (hr.mono hle') hx o.dst) (put_defers hd _ _)
  ·rw [hrun]
   exact hk E' _ H' _ w' hK (hle.trans (hle'.toN n0)) hs' (put_rep (hr.mono hle') hx o.dst) (put_defers hd _ _)
 obtain ⟨dst, guard, op⟩ := i
 unfold stepA at h
 cases op
 case call f args =>
  simp only at hf h
  split at hf
  ·rename_i f' args' g as ats e1 e2
   cases e1
   rw [Bool.and_eq_true, decide_eq_true_eq] at hf
   obtain ⟨rfl, hargs⟩ := hf
   refine callk h (fitOs_ok hr _ as.toList hargs) ?_
   have : (as.toList.map a.eval).toArray = as.map a.eval := by apply Array.ext'; simp
   rw [this]
   simp only [execOp, e2, resolve, Deferred.ofValue, show ∀ g, a.eval (.func g) = .func (.func g) #[] #[] from fun _ => rfl, Sem.run_bind, Sem.run_pure, Result.andThen, invoke]
   rw [show (#[] ++ as.map a.eval ++ #[] : Array Value) = as.map a.eval from by simp]
   exact run_callFunc h.1 _ _
  all_goals first | (rename_i e _; cases e; done) | (rename_i e; cases e; done) | (simp at hf; done) | (simp_all; done)
 case calld x args =>
  simp only at hf h
  split at hf
  ·rename_i e _; cases e
  ·rename_i x' args' y as ats e1 e2
   cases e1
   rw [Bool.and_eq_true] at hf
   obtain ⟨hx, hargs⟩ := hf
   obtain ⟨f, first, cap, hev, hC⟩ := h
   have hxr := fitO_ok hr hx
   rw [hev] at hxr
   obtain ⟨vs, ws, hval, l1, l2, i1, i2⟩ := rep_fn hxr
   have har := fitOs_ok hr _ as.toList hargs
   have e3 : (as.toList.map a.eval).toArray = as.map a.eval := by apply Array.ext'; simp
   rw [e3] at har
   have hall := RepL.append (RepL.append (show RepL E1 first vs from ⟨l1, i1⟩) har) (show RepL E1 cap ws from ⟨l2, i2⟩)
   refine callk hC hall ?_
   simp only [execOp, e2, resolve, hval, Deferred.ofValue, Sem.run_bind, Sem.run_pure, Result.andThen, invoke]
   exact run_callFunc hC.1 _ _
  all_goals first | (rename_i e _; cases e; done) | (rename_i e; cases e; done) | (simp at hf; done) | (simp_all; done)
 case eqnil =>
  simp only at hf h
  have hdst' : dst = o.dst := hdst
  obtain ⟨q, hq, hK⟩ := h
  split at hf
  ·rename_i e _; cases e
  ·rename_i e _; cases e
  ·rename_i neg' x' bo t y ty e1 e2
   cases e1
   obtain ⟨b, hb, hrun⟩ := eqnil_run e2 hf hs hr hq
   have hK' := hK b hb
   rw [hdst'] at hK'
   unfold Oper.wp
   rw [hrun]
   exact hk E1 _ H _ w hK' hle hs (put_rep hr (.pure (x := .bool _) (.bool _)) o.dst) (put_defers hd _ _)
  all_goals first | (rename_i e _; cases e; done) | (rename_i e; cases e; done) | (simp at hf; done) | (simp_all; done)
 all_goals
  simp only at h
  refine plain ?_ (onSome_ex h)
  revert hf
  cases o.op <;> intro hf <;> first | exact hf | (simp at hf; done)
theorem rep_undef (E : Env) : Rep E (.tuple []) undef := .tuple [] #[] rfl (fun i c u hc _ => by simp at hc)
theorem slot_lt {fr : List AV} {s : Nat} {x : AV} (hb : fr[s]? = some x) : s < fr.length := by
 rcases Nat.lt_or_ge s fr.length with h' | h'
 ·exact h'
 ·rw [List.getElem?_eq_none h'] at hb; cases hb
theorem yielded_bool {E : Env} {tmps : Array Value} {ops : Array Oper} {s j : Nat} {b : Bool} (hr : RepL E fr tmps) (hb : fr[s]? = some (.bool b)) (hj : (ops[j]?).bind (·.dst) = some s) : yielded ops tmps j = some b := by
 have hlt : s < tmps.size := by have := hr.1; have := slot_lt hb; omega
 have htm : tmps[s]? = some (.bool b) := by
  have hg := Array.getElem?_eq_getElem hlt
  rw [hg, rep_bool (hr.2 s _ _ hb hg)]
 unfold yielded
 rw [hj]
 simp [htm]
theorem yielded_undef {E : Env} {tmps : Array Value} {ops : Array Oper} {s j : Nat} (hr : RepL E fr tmps) (hb : fr[s]? = some (.tuple [])) (hj : (ops[j]?).bind (·.dst) = some s) : yielded ops tmps j = none := by
 have hlt : s < tmps.size := by have := hr.1; have := slot_lt hb; omega
 have hg := Array.getElem?_eq_getElem hlt
 obtain ⟨vs, hv, _⟩ := rep_tuple (hr.2 s _ _ hb hg)
 rw [hv] at hg
 unfold yielded
 rw [hj]
 simp [hg]
theorem region_ok {E : Env} {ops : Array Oper} : ∀ (l : List Oper) (is : List AInstr) (E1 : Env) (a : Act) (w : World) (fr : List AV) (H : AH), fitOps P ops is l = true → RA P is (Q .normal) fr H → Sim E1 w H → RepL E1 fr a.tmps → a.defers = [] →
 LeN n0 E E1 → wpList P ops (lft n0 E Q) l a w
 | [], is, E1, a, w, fr, H, hf, h, hs, hr, hd, hle => by
   cases is with
   | cons i is => simp [fitOps] at hf
   | nil => exact ⟨E1, fr, H, .normal, rfl, h, hle, hs, hr, hd⟩
 | o :: l, is, E1, a, w, fr, H, hf, h, hs, hr, hd, hle => by
   cases is with
   | nil => simp [fitOps] at hf
   | cons i is =>
     simp only [fitOps, Bool.and_eq_true] at hf
     obtain ⟨hi, hrest⟩ := hf
     have step : ∀ (hst : stepA P i (RA P is (Q .normal)) fr H), o.wp P a w (wpList P ops (lft n0 E Q) l) (lft n0 E Q) := fun hst =>
      step_ok hi hs hr hd hle hst fun E' fr' H' a' w' hK hle' hs' hr' hd' => region_ok l is E' a' w' fr' H' hrest hK hs' hr' hd' hle'
     have hg : fitG ops i.guard o.guard = true := by
      unfold fitI at hi
      rw [Bool.and_eq_true, Bool.and_eq_true] at hi
      exact hi.1.2
     have hdst : i.dst = o.dst := by
      unfold fitI at hi
      rw [Bool.and_eq_true, Bool.and_eq_true] at hi
      simpa using hi.1.1
     unfold RA at h
     unfold wpList
     cases hig : i.guard with
     | none =>
       rw [hig] at hg h
       cases hog : o.guard with
       | some g => rw [hog] at hg; simp [fitG] at hg
       | none =>
         rw [if_pos (by simp [Region.wanted, hog])]
         exact .inl (step h)
     | some g =>
       obtain ⟨s, want⟩ := g
       rw [hig] at hg h
       cases hog : o.guard with
       | none => rw [hog] at hg; simp [fitG] at hg
       | some g' =>
         obtain ⟨j, want'⟩ := g'
         rw [hog] at hg
         simp only [fitG, Bool.and_eq_true, beq_iff_eq, decide_eq_true_eq] at hg
         obtain ⟨rfl, hj⟩ := hg
         have skip : Region.wanted o (yielded ops a.tmps) = false → RA P is (Q .normal) (setA fr i.dst (.tuple [])) H → (if Region.wanted o (yielded ops a.tmps) = true then o.wp P a w (wpList P ops (lft n0 E Q) l) (lft n0 E Q) ∨ (o.asks P a w ∧ LetsOut (lft n0 E Q)) else wpList P ops (lft n0 E Q) l (a.put o.dst undef) w) := by
          intro hw hno
          rw [hw, if_neg (by simp)]
          refine region_ok l is E1 _ w _ H hrest hno hs ?_ (put_defers hd _ _) hle
          rw [hdst]
          exact put_rep hr (rep_undef E1) _
         rcases h with ⟨b, hb, hyes, hno⟩ | ⟨hb, hno⟩
         ·have hy : yielded ops a.tmps j = some b := yielded_bool hr hb hj
          have hw : Region.wanted o (yielded ops a.tmps) = (b == want) := by
           simp only [Region.wanted, hog, hy]
           cases b <;> cases want <;> rfl
          by_cases hbw : b = want
          ·rw [hw, if_pos (by simpa using hbw)]
           exact .inl (step (hyes hbw))
          ·exact skip (by rw [hw]; simpa using hbw) (hno hbw)
         ·have hy : yielded ops a.tmps j = none := yielded_undef hr hb hj
          have hw : Region.wanted o (yielded ops a.tmps) = false := by
           simp only [Region.wanted, hog, hy]
           rfl
          exact skip hw hno
theorem W_reg {is : List AInstr} (h : RA P is (Q .normal) fr H) : W P n0 (.reg is) Q fr H := by
 intro c E w a hf hs hr hd
 cases c <;> try (simp only [fitC, Bool.false_eq_true] at hf; done)
 rename_i id ops draw
 cases draw <;> simp only [fitC, Bool.false_eq_true] at hf
 exact wp_region_list (region_ok ops.toList is E a w fr H hf h hs hr hd (LeN.refl _ _))
end
end Go.Proofs.YtemjlopoffjmpaaGreat.Abs
