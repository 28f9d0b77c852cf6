/-
  The abstract layer, part 23: code as one proposition, and the equations by which simp walks it.
-/
import Derived.Test.YtemjlopoffjmpaaGreatSOAbs22
set_option linter.unusedSimpArgs false
set_option linter.unusedVariables false
namespace Go.Proofs.YtemjlopoffjmpaaGreat.Abs
open Go
def isB : AV → AV
 | .bool b => .bool b
 | _ => .top
theorem isB_bool (b : Bool) : isB (.bool b) = .bool b := (_root_.id rfl)
theorem isB_eq {x : AV} {b : Bool} (h : isB x = .bool b) : x = .bool b := by cases x <;> simp_all [isB]
theorem isB_ne (x : AV) : isB x ≠ .tuple [] := by cases x <;> simp [isB]
def WA (P : Program) (n0 : Nat) : ACode → APost → List AV → AH → Prop
 | .skip, Q, fr, H => Q .normal fr H
 | .reg is, Q, fr, H => RA P is (Q .normal) fr H
 | .seq a b, Q, fr, H => WA P n0 a (fun e fr H => match e with | .normal => WA P n0 b Q fr H | .exit i => Q (.exit i) fr H | .ret => Q .ret fr H) fr H
 | .cond c a b, Q, fr, H => guardA (some (isB (evalA fr c))) true (WA P n0 a Q fr H) (WA P n0 b Q fr H)
 | .block id b, Q, fr, H => WA P n0 b (QBlock id Q) fr H
 | .exit id, Q, fr, H => Q (.exit id) fr H
 | .ret, Q, fr, H => Q .ret fr H
 | ac, Q, fr, H => W P n0 ac Q fr H
theorem WA_ok {P : Program} {n0 : Nat} : ∀ {ac : ACode} {Q : APost} {fr : List AV} {H : AH}, WA P n0 ac Q fr H → W P n0 ac Q fr H
 | .skip, _, _, _, h => W_skip h
 | .reg _, _, _, _, h => W_reg h
 | .seq a b, Q, fr, H, h => by
   refine W_seq (W_mono (WA_ok h) ?_)
   intro e fr H hq
   cases e with
   | normal => exact WA_ok hq
   | exit i => exact hq
   | ret => exact hq
 | .cond c a b, Q, fr, H, h => by
   rcases h with ⟨bv, hb, h1, h2⟩ | ⟨hb, _⟩
   case inr => exact absurd (by simpa using hb) (isB_ne _)
   refine W_cond bv (isB_eq (by simpa using hb)) (fun e => WA_ok (h1 e)) (fun e => WA_ok (h2 (by simp [e])))
 | .block _ _, _, _, _, h => W_block (WA_ok h)
 | .exit _, _, _, _, h => W_exit h
 | .ret, _, _, _, h => W_ret h
 | .loop _, _, _, _, h => h
 | .dreg _, _, _, _, h => h
 | .dregE _ _, _, _, _, h => h
 | .bad, _, _, _, h => h
inductive Tag {α : Sort _} (a : α) : Type
 | mk
def guardT (x : Option AV) (want : Bool) (yes no : Prop) (_ : Tag yes) (_ : Tag no) : Prop := guardA x want yes no
def onV (x : Option AV) (K : AV → Prop) (_ : Tag K) : Prop := ∃ v, x = some v ∧ K v
def onS (x : Option (AV × AH)) (K : AV → AH → Prop) (_ : Tag K) : Prop := onSome x K
def RT (P : Program) (is : List AInstr) (K : List AV → AH → Prop) (fr : List AV) (H : AH) (_ : Tag is) (_ : Tag K) : Prop := RA P is K fr H
def CT (P : Program) (f : FuncId) (args : List AV) (H : AH) (K : AV → AH → Prop) (_ : Tag K) : Prop := C P f args H K
def WT (P : Program) (n0 : Nat) (ac : ACode) (Q : APost) (fr : List AV) (H : AH) (_ : Tag ac) (_ : Tag Q) : Prop := WA P n0 ac Q fr H
def QThen (P : Program) (n0 : Nat) (b : ACode) (Q : APost) (_ : Tag b) (_ : Tag Q) : APost := fun e fr H => match e with | .normal => WA P n0 b Q fr H | .exit i => Q (.exit i) fr H | .ret => Q .ret fr H
def QBlk (id : Nat) (Q : APost) (_ : Tag Q) : APost := QBlock id Q
section
variable {P : Program} {n0 : Nat}
theorem WT_ok {ac : ACode} {Q : APost} {fr : List AV} {H : AH} (h : WT P n0 ac Q fr H .mk .mk) : W P n0 ac Q fr H := WA_ok h
theorem WT_skip (Q : APost) (fr : List AV) (H : AH) (m n) : WT P n0 .skip Q fr H m n = Q .normal fr H := (_root_.id rfl)
theorem WT_reg (is : List AInstr) (Q : APost) (fr : List AV) (H : AH) (m n) : WT P n0 (.reg is) Q fr H m n = RT P is (Q .normal) fr H .mk .mk := (_root_.id rfl)
theorem WT_seq (a b : ACode) (Q : APost) (fr : List AV) (H : AH) (m n) : WT P n0 (.seq a b) Q fr H m n = WT P n0 a (QThen P n0 b Q .mk .mk) fr H .mk .mk := (_root_.id rfl)
theorem QThen_normal (b : ACode) (Q : APost) (fr : List AV) (H : AH) (m n) : QThen P n0 b Q m n .normal fr H = WT P n0 b Q fr H .mk .mk := (_root_.id rfl)
theorem QThen_exit (b : ACode) (Q : APost) (i : Nat) (fr : List AV) (H : AH) (m n) : QThen P n0 b Q m n (.exit i) fr H = Q (.exit i) fr H := (_root_.id rfl)
theorem QThen_ret (b : ACode) (Q : APost) (fr : List AV) (H : AH) (m n) : QThen P n0 b Q m n .ret fr H = Q .ret fr H := (_root_.id rfl)
theorem QBlk_normal (id : Nat) (Q : APost) (fr : List AV) (H : AH) (m) : QBlk id Q m .normal fr H = Q .normal fr H := (_root_.id rfl)
theorem QBlk_ret (id : Nat) (Q : APost) (fr : List AV) (H : AH) (m) : QBlk id Q m .ret fr H = Q .ret fr H := (_root_.id rfl)
theorem QBlk_hit (id : Nat) (Q : APost) (fr : List AV) (H : AH) (m) : QBlk id Q m (.exit id) fr H = Q .normal fr H := by simp [QBlk, QBlock]
theorem QBlk_miss (id j : Nat) (h : (j == id) = false) (Q : APost) (fr : List AV) (H : AH) (m) : QBlk id Q m (.exit j) fr H = Q (.exit j) fr H := by
 have : j ≠ id := by simpa using h
 simp [QBlk, QBlock, this]
theorem QRet_normal (res : List ARes) (K : AV → AH → Prop) (fr : List AV) (H : AH) : QRet res K .normal fr H = ∃ x, ares res fr H = some x ∧ K x H := (_root_.id rfl)
theorem QRet_ret (res : List ARes) (K : AV → AH → Prop) (fr : List AV) (H : AH) : QRet res K .ret fr H = ∃ x, ares res fr H = some x ∧ K x H := (_root_.id rfl)
theorem WT_cond (c : Opd) (a b : ACode) (Q : APost) (fr : List AV) (H : AH) (m n) : WT P n0 (.cond c a b) Q fr H m n = guardT (some (isB (evalA fr c))) true (WT P n0 a Q fr H .mk .mk) (WT P n0 b Q fr H .mk .mk) .mk .mk := (_root_.id rfl)
theorem WT_block (id : Nat) (b : ACode) (Q : APost) (fr : List AV) (H : AH) (m n) : WT P n0 (.block id b) Q fr H m n = WT P n0 b (QBlk id Q .mk) fr H .mk .mk := (_root_.id rfl)
theorem WT_exit (id : Nat) (Q : APost) (fr : List AV) (H : AH) (m n) : WT P n0 (.exit id) Q fr H m n = Q (.exit id) fr H := (_root_.id rfl)
theorem WT_ret (Q : APost) (fr : List AV) (H : AH) (m n) : WT P n0 .ret Q fr H m n = Q .ret fr H := (_root_.id rfl)
theorem WT_loop {b : ACode} {Q : APost} {fr : List AV} {H : AH} {m n} (h : W P n0 (.loop b) Q fr H) : WT P n0 (.loop b) Q fr H m n := h
theorem CT_ok {f : FuncId} {args : List AV} {H : AH} {K K' : AV → AH → Prop} {m} (h : C P f args H K') (hk : ∀ x H', K' x H' → K x H') : CT P f args H K m := h.mono hk
theorem guardT_tt (yes no : Prop) (m n) : guardT (some (.bool true)) true yes no m n = yes := guardA_tt yes no
theorem guardT_ff (yes no : Prop) (m n) : guardT (some (.bool false)) false yes no m n = yes := guardA_ff yes no
theorem guardT_tf (yes no : Prop) (m n) : guardT (some (.bool true)) false yes no m n = no := guardA_tf yes no
theorem guardT_ft (yes no : Prop) (m n) : guardT (some (.bool false)) true yes no m n = no := guardA_ft yes no
theorem guardT_un (want : Bool) (yes no : Prop) (m n) : guardT (some (.tuple [])) want yes no m n = no := by simp [guardT, guardA]
theorem guard_both {b want : Bool} {yes no : Prop} {m n} (h1 : b = want → yes) (h2 : b = !want → no) : guardT (some (.bool b)) want yes no m n := by
 refine .inl ⟨b, rfl, h1, fun h => h2 ?_⟩
 cases b <;> cases want <;> simp_all
theorem onV_some (v : AV) (K : AV → Prop) (m) : onV (some v) K m = K v := by simp [onV]
theorem onV_none (K : AV → Prop) (m) : onV none K m = False := by simp [onV]
theorem onV_ite (c : Prop) [Decidable c] (x : Option AV) (K : AV → Prop) (m) : onV (if c then x else none) K m = (c ∧ onV x K .mk) := by
 by_cases h : c <;> simp [h, onV]
theorem onV_ite' (c : Prop) [Decidable c] (x : Option AV) (K : AV → Prop) (m) : onV (if c then none else x) K m = (¬c ∧ onV x K .mk) := by
 by_cases h : c <;> simp [h, onV]
theorem onV_dite (c : Prop) [Decidable c] (x : c → Option AV) (K : AV → Prop) (m) : onV (if h : c then x h else none) K m = ∃ h : c, onV (x h) K .mk := by
 by_cases h : c <;> simp [h, onV]
theorem onS_some (v : AV) (H : AH) (K : AV → AH → Prop) (m) : onS (some (v, H)) K m = K v H := (_root_.id rfl)
theorem onS_none (K : AV → AH → Prop) (m) : onS none K m = False := (_root_.id rfl)
theorem onS_ite (c : Prop) [Decidable c] (x : Option (AV × AH)) (K : AV → AH → Prop) (m) : onS (if c then x else none) K m = (c ∧ onS x K .mk) := by
 by_cases h : c <;> simp [h, onS, onSome]
theorem RT_nil (K : List AV → AH → Prop) (fr : List AV) (H : AH) (t u) : RT P [] K fr H t u = K fr H := (_root_.id rfl)
theorem RT_guard (d : Option Nat) (g : Nat) (want : Bool) (op : AOp) (rest : List AInstr) (K : List AV → AH → Prop) (fr : List AV) (H : AH) (t u) :
 RT P (⟨d, some (g, want), op⟩ :: rest) K fr H t u = guardT (fr[g]?) want (RT P (⟨d, none, op⟩ :: rest) K fr H .mk .mk) (RT P rest K (setA fr d (.tuple [])) H .mk .mk) .mk .mk := by
 cases op <;> rfl
theorem RT_0 {op : AOp} (hs : ∀ (P : Program) d K fr H, stepA P ⟨d, none, op⟩ K fr H = onSome (aop op (evalA fr) H) fun v H' => K (setA fr d v) H') (h1 : ∀ ev H, aop1 op ev H = none) (d : Option Nat) (rest : List AInstr) (K : List AV → AH → Prop) (fr : List AV) (H : AH) (t u) :
 RT P (⟨d, none, op⟩ :: rest) K fr H t u = onV (aop0 op (evalA fr) H) (fun v => RT P rest K (setA fr d v) H .mk .mk) .mk := by
 show stepA P ⟨d, none, op⟩ (RA P rest K) fr H = _
 rw [hs]
 unfold aop
 cases aop0 op (evalA fr) H with
 | none => rw [h1]; simp [onSome, onV_none]
 | some v => rw [onV_some]; rfl
theorem RT_1 {op : AOp} (hs : ∀ (P : Program) d K fr H, stepA P ⟨d, none, op⟩ K fr H = onSome (aop op (evalA fr) H) fun v H' => K (setA fr d v) H') (h0 : ∀ ev H, aop0 op ev H = none) (d : Option Nat) (rest : List AInstr) (K : List AV → AH → Prop) (fr : List AV) (H : AH) (t u) :
 RT P (⟨d, none, op⟩ :: rest) K fr H t u = onS (aop1 op (evalA fr) H) (fun v H' => RT P rest K (setA fr d v) H' .mk .mk) .mk := by
 show stepA P ⟨d, none, op⟩ (RA P rest K) fr H = _
 rw [hs]
 unfold aop
 rw [h0]
 rfl
def pickV (c a b : AV) : Option AV :=
 match c with
 | .bool true => some a
 | .bool false => some b
 | _ => none
theorem pickV_t (a b : AV) : pickV (.bool true) a b = some a := (_root_.id rfl)
theorem pickV_f (a b : AV) : pickV (.bool false) a b = some b := (_root_.id rfl)
def nilchkV (H : AH) (x : AV) : Option AV :=
 match x with
 | .ptr r i j tot => (liveO H r tot).map fun _ => .ptr r i j tot
 | .fptr cs => some (.fptr cs)
 | _ => none
theorem nilchkV_ptr (H : AH) (r i j tot : Nat) : nilchkV H (.ptr r i j tot) = (liveO H r tot).map fun _ => .ptr r i j tot := (_root_.id rfl)
theorem nilchkV_fptr (H : AH) (cs : List PV) : nilchkV H (.fptr cs) = some (.fptr cs) := (_root_.id rfl)
def biniV (op : BinOp) (x y : AV) : Option AV :=
 match x, y with
 | .int k a, .int k' b => if k = k' ∨ op = .shl ∨ op = .shr then binI op k a b else none
 | _, _ => none
theorem biniV_same (op : BinOp) (k : IntKind) (a b : Int) : biniV op (.int k a) (.int k b) = binI op k a b := by simp [biniV]
theorem biniV_shl (k k' : IntKind) (a b : Int) : biniV .shl (.int k a) (.int k' b) = binI .shl k a b := by simp [biniV]
theorem biniV_shr (k k' : IntKind) (a b : Int) : biniV .shr (.int k a) (.int k' b) = binI .shr k a b := by simp [biniV]
theorem binI_add (k : IntKind) (a b : Int) : binI .add k a b = some (.int k (k.wrap (a + b))) := (_root_.id rfl)
theorem binI_sub (k : IntKind) (a b : Int) : binI .sub k a b = some (.int k (k.wrap (a - b))) := (_root_.id rfl)
theorem binI_mul (k : IntKind) (a b : Int) : binI .mul k a b = some (.int k (k.wrap (a * b))) := (_root_.id rfl)
theorem binI_quo (k : IntKind) (a b : Int) : binI .quo k a b = if b = 0 then none else some (.int k (k.wrap (a.tdiv b))) := (_root_.id rfl)
theorem binI_rem (k : IntKind) (a b : Int) : binI .rem k a b = if b = 0 then none else some (.int k (a.tmod b)) := (_root_.id rfl)
theorem binI_and (k : IntKind) (a b : Int) : binI .and k a b = some (.int k (k.wrap (BitVec.ofInt k.bits a &&& BitVec.ofInt k.bits b).toNat)) := (_root_.id rfl)
theorem binI_or (k : IntKind) (a b : Int) : binI .or k a b = some (.int k (k.wrap (BitVec.ofInt k.bits a ||| BitVec.ofInt k.bits b).toNat)) := (_root_.id rfl)
theorem binI_xor (k : IntKind) (a b : Int) : binI .xor k a b = some (.int k (k.wrap (BitVec.ofInt k.bits a ^^^ BitVec.ofInt k.bits b).toNat)) := (_root_.id rfl)
theorem binI_andNot (k : IntKind) (a b : Int) : binI .andNot k a b = some (.int k (k.wrap (BitVec.ofInt k.bits a &&& ~~~ BitVec.ofInt k.bits b).toNat)) := (_root_.id rfl)
theorem binI_eql (k : IntKind) (a b : Int) : binI .eql k a b = some (.bool (decide (a = b))) := (_root_.id rfl)
theorem binI_neq (k : IntKind) (a b : Int) : binI .neq k a b = some (.bool (!decide (a = b))) := (_root_.id rfl)
theorem binI_lss (k : IntKind) (a b : Int) : binI .lss k a b = some (.bool (decide (a < b))) := (_root_.id rfl)
theorem binI_leq (k : IntKind) (a b : Int) : binI .leq k a b = some (.bool (decide (a ≤ b))) := (_root_.id rfl)
theorem binI_gtr (k : IntKind) (a b : Int) : binI .gtr k a b = some (.bool (decide (b < a))) := (_root_.id rfl)
theorem binI_geq (k : IntKind) (a b : Int) : binI .geq k a b = some (.bool (decide (b ≤ a))) := (_root_.id rfl)
theorem binI_shl (k : IntKind) (a b : Int) : binI .shl k a b = if b < 0 then none else some (.int k (k.wrap (a * 2 ^ (min b.toNat k.bits)))) := (_root_.id rfl)
theorem binI_shr (k : IntKind) (a b : Int) : binI .shr k a b = if b < 0 then none else some (.int k (a.fdiv (2 ^ (min b.toNat k.bits)))) := (_root_.id rfl)
def binsV (op : BinOp) (x y : AV) : Option AV :=
 match x, y with
 | .str a, .str b => binS op a b
 | _, _ => none
theorem binsV_str (op : BinOp) (a b : List UInt8) : binsV op (.str a) (.str b) = binS op a b := (_root_.id rfl)
theorem binS_add (a b : List UInt8) : binS .add a b = if a.length + b.length ≤ 1000000000 then some (.str (a ++ b)) else none := (_root_.id rfl)
theorem binS_eql (a b : List UInt8) : binS .eql a b = some (.bool (decide (a = b))) := by
 simp only [binS, Option.some.injEq, AV.bool.injEq]; by_cases h : a = b <;> simp [h]
theorem binS_neq (a b : List UInt8) : binS .neq a b = some (.bool (!decide (a = b))) := by
 simp only [binS, Option.some.injEq, AV.bool.injEq]; by_cases h : a = b <;> simp [h]
theorem binS_lss (a b : List UInt8) : binS .lss a b = some (.bool (Op.bytesLess a b)) := (_root_.id rfl)
theorem binS_leq (a b : List UInt8) : binS .leq a b = some (.bool (Op.bytesLess a b || a == b)) := (_root_.id rfl)
theorem binS_gtr (a b : List UInt8) : binS .gtr a b = some (.bool (!(Op.bytesLess a b || a == b))) := (_root_.id rfl)
theorem binS_geq (a b : List UInt8) : binS .geq a b = some (.bool (!Op.bytesLess a b)) := (_root_.id rfl)
def eqbV (neg : Bool) (x y : AV) : Option AV :=
 match x, y with
 | .bool a, .bool b => some (.bool ((a == b) != neg))
 | _, _ => none
theorem eqbV_bool (neg a b : Bool) : eqbV neg (.bool a) (.bool b) = some (.bool ((a == b) != neg)) := (_root_.id rfl)
def unV (op : UnOp) (x : AV) : Option AV :=
 match x with
 | .bool b => if op = .not then some (.bool !b) else none
 | .int k n => unI op k n
 | _ => none
theorem unV_not (b : Bool) : unV .not (.bool b) = some (.bool !b) := (_root_.id rfl)
theorem unV_neg (k : IntKind) (n : Int) : unV .neg (.int k n) = some (.int k (k.wrap (0 - n))) := (_root_.id rfl)
theorem unV_xor (k : IntKind) (n : Int) : unV .xor (.int k n) = some (.int k (k.wrap (BitVec.ofInt k.bits (if k.signed then -1 else k.max) ^^^ BitVec.ofInt k.bits n).toNat)) := (_root_.id rfl)
def conviV (k : IntKind) (x : AV) : Option AV :=
 match x with
 | .int _ n => some (.int k (k.wrap n))
 | _ => none
theorem conviV_int (k k' : IntKind) (n : Int) : conviV k (.int k' n) = some (.int k (k.wrap n)) := (_root_.id rfl)
def convssV (x : AV) : Option AV :=
 match x with
 | .str s => some (.str s)
 | _ => none
theorem convssV_str (s : List UInt8) : convssV (.str s) = some (.str s) := (_root_.id rfl)
def slicesV (ev : Opd → AV) (x : AV) (lo hi : Option Opd) : Option AV :=
 match x with
 | .str s =>
   match bnd ev hi s.length s.length with
   | some h =>
     match bnd ev lo 0 h with
     | some l => some (.str ((s.take h).drop l))
     | none => none
   | none => none
 | _ => none
def bndV (x : AV) (top : Nat) : Option Nat :=
 match x with
 | .int _ n => if 0 ≤ n ∧ n ≤ top then some n.toNat else none
 | _ => none
def onN (x : Option Nat) (K : Nat → Option AV) : Option AV :=
 match x with
 | some n => K n
 | none => none
theorem slicesV_str (ev : Opd → AV) (s : List UInt8) (lo hi : Option Opd) : slicesV ev (.str s) lo hi = onN (bnd ev hi s.length s.length) fun h => onN (bnd ev lo 0 h) fun l => some (.str ((s.take h).drop l)) := by
 simp only [slicesV, onN]
theorem bnd_none (ev : Opd → AV) (d top : Nat) : bnd ev none d top = some d := (_root_.id rfl)
theorem bnd_some (ev : Opd → AV) (x : Opd) (d top : Nat) : bnd ev (some x) d top = bndV (ev x) top := (_root_.id rfl)
theorem bndV_int (k : IntKind) (n : Int) (top : Nat) : bndV (.int k n) top = if 0 ≤ n ∧ n ≤ top then some n.toNat else none := (_root_.id rfl)
theorem onN_some (n : Nat) (K : Nat → Option AV) : onN (some n) K = K n := (_root_.id rfl)
theorem onN_ite (c : Prop) [Decidable c] (n : Nat) (K : Nat → Option AV) : onN (if c then some n else none) K = if c then K n else none := by
 by_cases h : c <;> simp [h, onN]
def faddrV (H : AH) (off : Nat) (x : AV) : Option AV :=
 match x with
 | .ptr r i j tot => (liveO H r tot).map fun _ => .ptr r i (j + off) tot
 | .fptr cs => if off ≤ cs.length then some (.fptr (cs.drop off)) else none
 | _ => none
theorem faddrV_ptr (H : AH) (off r i j tot : Nat) : faddrV H off (.ptr r i j tot) = (liveO H r tot).map fun _ => .ptr r i (j + off) tot := (_root_.id rfl)
theorem faddrV_fptr (H : AH) (off : Nat) (cs : List PV) : faddrV H off (.fptr cs) = if off ≤ cs.length then some (.fptr (cs.drop off)) else none := (_root_.id rfl)
def fieldV (agg : Bool) (off n : Nat) (x : AV) : Option AV :=
 match x with
 | .agg cs => if off + n ≤ cs.length then some (unAgg agg ((cs.drop off).take n)) else none
 | _ => none
theorem fieldV_agg (agg : Bool) (off n : Nat) (cs : List AV) : fieldV agg off n (.agg cs) = if off + n ≤ cs.length then some (unAgg agg ((cs.drop off).take n)) else none := (_root_.id rfl)
def indexsV (x i : AV) : Option AV :=
 match x, i with
 | .str s, .int _ n => if 0 ≤ n then (s[n.toNat]?).map fun b => .int .u8 b.toNat else none
 | _, _ => none
theorem indexsV_str (s : List UInt8) (k : IntKind) (n : Int) : indexsV (.str s) (.int k n) = if 0 ≤ n ∧ n < s.length then some (.int .u8 ((s.getD n.toNat 0).toNat : Nat)) else none := by
 simp only [indexsV]
 by_cases h : 0 ≤ n
 ·rw [if_pos h]
  by_cases h2 : n < s.length
  ·rw [if_pos ⟨h, h2⟩, List.getElem?_eq_getElem (show n.toNat < s.length by omega)]
   simp [List.getD_eq_getElem?_getD, List.getElem?_eq_getElem (show n.toNat < s.length by omega)]
  ·rw [if_neg (by omega), List.getElem?_eq_none (by omega)]; rfl
 ·rw [if_neg h, if_neg (by omega)]
def extV (x : AV) (i : Nat) : Option AV :=
 match x with
 | .tuple vs => vs[i]?
 | _ => none
theorem extV_tuple (vs : List AV) (i : Nat) : extV (.tuple vs) i = vs[i]? := (_root_.id rfl)
def lensV (x : AV) : Option AV :=
 match x with
 | .str s => some (.int .i64 s.length)
 | _ => none
theorem lensV_str (s : List UInt8) : lensV (.str s) = some (.int .i64 s.length) := (_root_.id rfl)
def lenV (H : AH) (x : AV) : Option AV :=
 match x with
 | .emp => some (.int .i64 0)
 | .fz es => some (.int .i64 es.length)
 | .own r _ _ len tot => (liveO H r tot).map fun _ => .int .i64 len
 | _ => none
theorem lenV_emp (H : AH) : lenV H .emp = some (.int .i64 0) := (_root_.id rfl)
theorem lenV_fz (H : AH) (es : List (List PV)) : lenV H (.fz es) = some (.int .i64 es.length) := (_root_.id rfl)
theorem lenV_own (H : AH) (r sz off len tot : Nat) : lenV H (.own r sz off len tot) = (liveO H r tot).map fun _ => .int .i64 len := (_root_.id rfl)
def min2V (x y : AV) : Option AV :=
 match x, y with
 | .int k a, .int _ b => some (.int k (if b < a then b else a))
 | _, _ => none
theorem min2V_int (k k' : IntKind) (a b : Int) : min2V (.int k a) (.int k' b) = some (.int k (if b < a then b else a)) := (_root_.id rfl)
def max2V (x y : AV) : Option AV :=
 match x, y with
 | .int k a, .int _ b => some (.int k (if b > a then b else a))
 | _, _ => none
theorem max2V_int (k k' : IntKind) (a b : Int) : max2V (.int k a) (.int k' b) = some (.int k (if b > a then b else a)) := (_root_.id rfl)
def iaddrV (H : AH) (sz : Nat) (x i : AV) : Option AV :=
 match x, i with
 | .fz es, .int _ n => if 0 ≤ n then
  match es[n.toNat]? with
  | some e => if e.length = sz then some (.fptr e) else none
  | none => none
   else none
 | .own r sz' off len tot, .int _ n =>
   if 0 ≤ n ∧ n < len ∧ sz' = sz then (liveO H r tot).map fun _ => .ptr r (off + n.toNat) 0 tot else none
 | _, _ => none
theorem iaddrV_map {α : Type} [Inhabited α] (H : AH) (sz : Nat) (xs : List α) (f : α → List PV) (k : IntKind) (n : Int) : iaddrV H sz (.fz (xs.map f)) (.int k n) = if (0 ≤ n ∧ n < xs.length) ∧ (f (xs.getD n.toNat default)).length = sz then some (.fptr (f (xs.getD n.toNat default))) else none := by
 simp only [iaddrV]
 by_cases h : 0 ≤ n
 ·rw [if_pos h, List.getElem?_map]
  by_cases h2 : n < xs.length
  ·rw [List.getElem?_eq_getElem (show n.toNat < xs.length by omega)]
   simp [List.getD_eq_getElem?_getD, List.getElem?_eq_getElem (show n.toNat < xs.length by omega), h, h2]
  ·rw [if_neg (by omega), List.getElem?_eq_none (by omega)]; rfl
 ·rw [if_neg h, if_neg (by omega)]
theorem iaddrV_own (H : AH) (sz r sz' off len tot : Nat) (k : IntKind) (n : Int) : iaddrV H sz (.own r sz' off len tot) (.int k n) = if 0 ≤ n ∧ n < len ∧ sz' = sz then (liveO H r tot).map fun _ => .ptr r (off + n.toNat) 0 tot else none := (_root_.id rfl)
variable (d : Option Nat) (rest : List AInstr) (K : List AV → AH → Prop) (fr : List AV) (H : AH)
theorem RT_mv (x : Opd) (t u) : RT P (⟨d, none, .mv x⟩ :: rest) K fr H t u = RT P rest K (setA fr d (evalA fr x)) H .mk .mk := (_root_.id rfl)
theorem RT_pick (c a b : Opd) (t u) : RT P (⟨d, none, .pick c a b⟩ :: rest) K fr H t u = onV (pickV (evalA fr c) (evalA fr a) (evalA fr b)) (fun v => RT P rest K (setA fr d v) H .mk .mk) .mk := RT_0 (fun _ _ _ _ _ => rfl) (fun _ _ => rfl) _ _ _ _ _ _ _
theorem RT_nilchk (x : Opd) (t u) : RT P (⟨d, none, .nilchk x⟩ :: rest) K fr H t u = onV (nilchkV H (evalA fr x)) (fun v => RT P rest K (setA fr d v) H .mk .mk) .mk := RT_0 (fun _ _ _ _ _ => rfl) (fun _ _ => rfl) _ _ _ _ _ _ _
theorem RT_build (zero : List AV) (parts : List (Nat × Nat × Opd)) (t u) : RT P (⟨d, none, .build zero parts⟩ :: rest) K fr H t u = onV ((fillA (evalA fr) zero parts).map .agg) (fun v => RT P rest K (setA fr d v) H .mk .mk) .mk := RT_0 (fun _ _ _ _ _ => rfl) (fun _ _ => rfl) _ _ _ _ _ _ _
theorem RT_load (agg : Bool) (n : Nat) (x : Opd) (t u) : RT P (⟨d, none, .load agg n x⟩ :: rest) K fr H t u = onV ((readAt H n (evalA fr x)).map (unAgg agg)) (fun v => RT P rest K (setA fr d v) H .mk .mk) .mk := RT_0 (fun _ _ _ _ _ => rfl) (fun _ _ => rfl) _ _ _ _ _ _ _
theorem RT_bini (op : BinOp) (x y : Opd) (t u) : RT P (⟨d, none, .bini op x y⟩ :: rest) K fr H t u = onV (biniV op (evalA fr x) (evalA fr y)) (fun v => RT P rest K (setA fr d v) H .mk .mk) .mk := RT_0 (fun _ _ _ _ _ => rfl) (fun _ _ => rfl) _ _ _ _ _ _ _
theorem RT_bins (op : BinOp) (x y : Opd) (t u) : RT P (⟨d, none, .bins op x y⟩ :: rest) K fr H t u = onV (binsV op (evalA fr x) (evalA fr y)) (fun v => RT P rest K (setA fr d v) H .mk .mk) .mk := RT_0 (fun _ _ _ _ _ => rfl) (fun _ _ => rfl) _ _ _ _ _ _ _
theorem RT_eqb (neg : Bool) (x y : Opd) (t u) : RT P (⟨d, none, .eqb neg x y⟩ :: rest) K fr H t u = onV (eqbV neg (evalA fr x) (evalA fr y)) (fun v => RT P rest K (setA fr d v) H .mk .mk) .mk := RT_0 (fun _ _ _ _ _ => rfl) (fun _ _ => rfl) _ _ _ _ _ _ _
theorem RT_un (op : UnOp) (x : Opd) (t u) : RT P (⟨d, none, .un op x⟩ :: rest) K fr H t u = onV (unV op (evalA fr x)) (fun v => RT P rest K (setA fr d v) H .mk .mk) .mk := RT_0 (fun _ _ _ _ _ => rfl) (fun _ _ => rfl) _ _ _ _ _ _ _
theorem RT_convi (k : IntKind) (x : Opd) (t u) : RT P (⟨d, none, .convi k x⟩ :: rest) K fr H t u = onV (conviV k (evalA fr x)) (fun v => RT P rest K (setA fr d v) H .mk .mk) .mk := RT_0 (fun _ _ _ _ _ => rfl) (fun _ _ => rfl) _ _ _ _ _ _ _
theorem RT_convss (x : Opd) (t u) : RT P (⟨d, none, .convss x⟩ :: rest) K fr H t u = onV (convssV (evalA fr x)) (fun v => RT P rest K (setA fr d v) H .mk .mk) .mk := RT_0 (fun _ _ _ _ _ => rfl) (fun _ _ => rfl) _ _ _ _ _ _ _
theorem RT_convbs (x : Opd) (t u) : RT P (⟨d, none, .convbs x⟩ :: rest) K fr H t u = onV (((elemsOf H (evalA fr x)).bind bytesOf).map .str) (fun v => RT P rest K (setA fr d v) H .mk .mk) .mk := RT_0 (fun _ _ _ _ _ => rfl) (fun _ _ => rfl) _ _ _ _ _ _ _
theorem RT_slices (x : Opd) (lo hi : Option Opd) (t u) : RT P (⟨d, none, .slices x lo hi⟩ :: rest) K fr H t u = onV (slicesV (evalA fr) (evalA fr x) lo hi) (fun v => RT P rest K (setA fr d v) H .mk .mk) .mk := RT_0 (fun _ _ _ _ _ => rfl) (fun _ _ => rfl) _ _ _ _ _ _ _
theorem RT_faddr (off : Nat) (x : Opd) (t u) : RT P (⟨d, none, .faddr off x⟩ :: rest) K fr H t u = onV (faddrV H off (evalA fr x)) (fun v => RT P rest K (setA fr d v) H .mk .mk) .mk := RT_0 (fun _ _ _ _ _ => rfl) (fun _ _ => rfl) _ _ _ _ _ _ _
theorem RT_field (agg : Bool) (off n : Nat) (x : Opd) (t u) : RT P (⟨d, none, .field agg off n x⟩ :: rest) K fr H t u = onV (fieldV agg off n (evalA fr x)) (fun v => RT P rest K (setA fr d v) H .mk .mk) .mk := RT_0 (fun _ _ _ _ _ => rfl) (fun _ _ => rfl) _ _ _ _ _ _ _
theorem RT_indexs (x i : Opd) (t u) : RT P (⟨d, none, .indexs x i⟩ :: rest) K fr H t u = onV (indexsV (evalA fr x) (evalA fr i)) (fun v => RT P rest K (setA fr d v) H .mk .mk) .mk := RT_0 (fun _ _ _ _ _ => rfl) (fun _ _ => rfl) _ _ _ _ _ _ _
theorem RT_ext (x : Opd) (i : Nat) (t u) : RT P (⟨d, none, .ext x i⟩ :: rest) K fr H t u = onV (extV (evalA fr x) i) (fun v => RT P rest K (setA fr d v) H .mk .mk) .mk := RT_0 (fun _ _ _ _ _ => rfl) (fun _ _ => rfl) _ _ _ _ _ _ _
theorem RT_lens (x : Opd) (t u) : RT P (⟨d, none, .len true x⟩ :: rest) K fr H t u = onV (lensV (evalA fr x)) (fun v => RT P rest K (setA fr d v) H .mk .mk) .mk := RT_0 (fun _ _ _ _ _ => rfl) (fun _ _ => rfl) _ _ _ _ _ _ _
theorem RT_len (x : Opd) (t u) : RT P (⟨d, none, .len false x⟩ :: rest) K fr H t u = onV (lenV H (evalA fr x)) (fun v => RT P rest K (setA fr d v) H .mk .mk) .mk := RT_0 (fun _ _ _ _ _ => rfl) (fun _ _ => rfl) _ _ _ _ _ _ _
theorem RT_min2 (x y : Opd) (t u) : RT P (⟨d, none, .min2 x y⟩ :: rest) K fr H t u = onV (min2V (evalA fr x) (evalA fr y)) (fun v => RT P rest K (setA fr d v) H .mk .mk) .mk := RT_0 (fun _ _ _ _ _ => rfl) (fun _ _ => rfl) _ _ _ _ _ _ _
theorem RT_max2 (x y : Opd) (t u) : RT P (⟨d, none, .max2 x y⟩ :: rest) K fr H t u = onV (max2V (evalA fr x) (evalA fr y)) (fun v => RT P rest K (setA fr d v) H .mk .mk) .mk := RT_0 (fun _ _ _ _ _ => rfl) (fun _ _ => rfl) _ _ _ _ _ _ _
theorem RT_iaddr (sz : Nat) (x i : Opd) (t u) : RT P (⟨d, none, .iaddr sz x i⟩ :: rest) K fr H t u = onV (iaddrV H sz (evalA fr x) (evalA fr i)) (fun v => RT P rest K (setA fr d v) H .mk .mk) .mk := RT_0 (fun _ _ _ _ _ => rfl) (fun _ _ => rfl) _ _ _ _ _ _ _
theorem RT_mkfn (f : Fn) (first cap : List Opd) (t u) : RT P (⟨d, none, .mkfn f first cap⟩ :: rest) K fr H t u = RT P rest K (setA fr d (.fn f (first.map (evalA fr)) (cap.map (evalA fr)))) H .mk .mk := (_root_.id rfl)
theorem RT_call (f : FuncId) (args : List Opd) (t u) : RT P (⟨d, none, .call f args⟩ :: rest) K fr H t u = CT P f (args.map (evalA fr)) H (fun x H' => RT P rest K (setA fr d x) H' .mk .mk) .mk := (_root_.id rfl)
theorem RT_alloc (cs : List AV) (t u) : RT P (⟨d, none, .alloc cs⟩ :: rest) K fr H t u = onS (if cs.length ≠ 0 then some (.ptr H.length 0 0 1, H ++ [some [cs]]) else none) (fun v H' => RT P rest K (setA fr d v) H' .mk .mk) .mk := RT_1 (fun _ _ _ _ _ => rfl) (fun _ _ => rfl) _ _ _ _ _ _ _
theorem evalA_t (n : Nat) : evalA fr (.t n) = (fr[n]?).getD .top := (_root_.id rfl)
theorem evalA_c (v : AV) : evalA fr (.c v) = v := (_root_.id rfl)
theorem setA_some (n : Nat) (v : AV) : setA fr (some n) v = fr.set n v := (_root_.id rfl)
theorem setA_none (v : AV) : setA fr none v = fr := (_root_.id rfl)
theorem readAt_fptr (n : Nat) (cs : List PV) : readAt H n (.fptr cs) = if n ≤ cs.length then some ((cs.take n).map emb) else none := (_root_.id rfl)
end
end Go.Proofs.YtemjlopoffjmpaaGreat.Abs
