/-
  The abstract layer, part 25: the equations by which simp walks a drawn region without effects.
-/
import Derived.Test.YtemjlopoffjmpaaGreatSOAbs24
set_option linter.unusedSimpArgs false
set_option linter.unusedVariables false
namespace Go.Proofs.YtemjlopoffjmpaaGreat.Abs
open Go
def RS (P : Program) (is : List AInstr) (K : List AV → Prop) (fr : List AV) (H : AH) (_ : Tag is) (_ : Tag K) : Prop := RSA P is K fr H
def CS (P : Program) (f : FuncId) (args : List AV) (H : AH) (K : AV → Prop) (_ : Tag K) : Prop := ∃ v, C P f args H (fun x H' => x = v ∧ H' = H) ∧ K v
section
variable {P : Program} {n0 : Nat}
theorem WT_draw {is : List AInstr} {Q : APost} {fr : List AV} {H : AH} {m n} (h : RS P is (fun f => Q .normal f H) fr H .mk .mk) : WT P n0 (.dreg is) Q fr H m n := W_dreg_same h
theorem RS_nil (K : List AV → Prop) (fr : List AV) (H : AH) (t u) : RS P [] K fr H t u = K fr := (_root_.id rfl)
theorem RS_guard (d : Option Nat) (g : Nat) (want : Bool) (op : AOp) (rest : List AInstr) (K : List AV → Prop) (fr : List AV) (H : AH) (t u) :
 RS P (⟨d, some (g, want), op⟩ :: rest) K fr H t u = guardT (fr[g]?) want (RS P (⟨d, none, op⟩ :: rest) K fr H .mk .mk) (RS P rest K (setA fr d (.tuple [])) H .mk .mk) .mk .mk := (_root_.id rfl)
theorem RS_0 {op : AOp} (hs : ∀ (P : Program) ev H v, stepVal P op ev H v = (aop op ev H = some (v, H))) (h1 : ∀ ev H, aop1 op ev H = none) (d : Option Nat) (rest : List AInstr) (K : List AV → Prop) (fr : List AV) (H : AH) (t u) :
 RS P (⟨d, none, op⟩ :: rest) K fr H t u = onV (aop0 op (evalA fr) H) (fun v => RS P rest K (setA fr d v) H .mk .mk) .mk := by
 show (∃ v, stepVal P op (evalA fr) H v ∧ RSA P rest K (setA fr d v) H) = _
 simp only [hs]
 unfold aop
 cases aop0 op (evalA fr) H with
 | none => simp [h1, onV_none]
 | some v => simp [onV_some]; rfl
theorem RS_call (d : Option Nat) (rest : List AInstr) (K : List AV → Prop) (fr : List AV) (H : AH) (f : FuncId) (args : List Opd) (t u) : RS P (⟨d, none, .call f args⟩ :: rest) K fr H t u = CS P f (args.map (evalA fr)) H (fun v => RS P rest K (setA fr d v) H .mk .mk) .mk := (_root_.id rfl)
variable (d : Option Nat) (rest : List AInstr) (K : List AV → Prop) (fr : List AV) (H : AH)
theorem RS_mv (x : Opd) (t u) : RS P (⟨d, none, .mv x⟩ :: rest) K fr H t u = RS P rest K (setA fr d (evalA fr x)) H .mk .mk := by rw [RS_0 (fun _ _ _ _ => rfl) (fun _ _ => rfl)]; exact onV_some _ _ _
theorem RS_pick (c a b : Opd) (t u) : RS P (⟨d, none, .pick c a b⟩ :: rest) K fr H t u = onV (pickV (evalA fr c) (evalA fr a) (evalA fr b)) (fun v => RS P rest K (setA fr d v) H .mk .mk) .mk := RS_0 (fun _ _ _ _ => rfl) (fun _ _ => rfl) _ _ _ _ _ _ _
theorem RS_nilchk (x : Opd) (t u) : RS P (⟨d, none, .nilchk x⟩ :: rest) K fr H t u = onV (nilchkV H (evalA fr x)) (fun v => RS P rest K (setA fr d v) H .mk .mk) .mk := RS_0 (fun _ _ _ _ => rfl) (fun _ _ => rfl) _ _ _ _ _ _ _
theorem RS_build (zero : List AV) (parts : List (Nat × Nat × Opd)) (t u) : RS P (⟨d, none, .build zero parts⟩ :: rest) K fr H t u = onV ((fillA (evalA fr) zero parts).map .agg) (fun v => RS P rest K (setA fr d v) H .mk .mk) .mk := RS_0 (fun _ _ _ _ => rfl) (fun _ _ => rfl) _ _ _ _ _ _ _
theorem RS_load (agg : Bool) (n : Nat) (x : Opd) (t u) : RS P (⟨d, none, .load agg n x⟩ :: rest) K fr H t u = onV ((readAt H n (evalA fr x)).map (unAgg agg)) (fun v => RS P rest K (setA fr d v) H .mk .mk) .mk := RS_0 (fun _ _ _ _ => rfl) (fun _ _ => rfl) _ _ _ _ _ _ _
theorem RS_bini (op : BinOp) (x y : Opd) (t u) : RS P (⟨d, none, .bini op x y⟩ :: rest) K fr H t u = onV (biniV op (evalA fr x) (evalA fr y)) (fun v => RS P rest K (setA fr d v) H .mk .mk) .mk := RS_0 (fun _ _ _ _ => rfl) (fun _ _ => rfl) _ _ _ _ _ _ _
theorem RS_bins (op : BinOp) (x y : Opd) (t u) : RS P (⟨d, none, .bins op x y⟩ :: rest) K fr H t u = onV (binsV op (evalA fr x) (evalA fr y)) (fun v => RS P rest K (setA fr d v) H .mk .mk) .mk := RS_0 (fun _ _ _ _ => rfl) (fun _ _ => rfl) _ _ _ _ _ _ _
theorem RS_eqb (neg : Bool) (x y : Opd) (t u) : RS P (⟨d, none, .eqb neg x y⟩ :: rest) K fr H t u = onV (eqbV neg (evalA fr x) (evalA fr y)) (fun v => RS P rest K (setA fr d v) H .mk .mk) .mk := RS_0 (fun _ _ _ _ => rfl) (fun _ _ => rfl) _ _ _ _ _ _ _
theorem RS_un (op : UnOp) (x : Opd) (t u) : RS P (⟨d, none, .un op x⟩ :: rest) K fr H t u = onV (unV op (evalA fr x)) (fun v => RS P rest K (setA fr d v) H .mk .mk) .mk := RS_0 (fun _ _ _ _ => rfl) (fun _ _ => rfl) _ _ _ _ _ _ _
theorem RS_convi (k : IntKind) (x : Opd) (t u) : RS P (⟨d, none, .convi k x⟩ :: rest) K fr H t u = onV (conviV k (evalA fr x)) (fun v => RS P rest K (setA fr d v) H .mk .mk) .mk := RS_0 (fun _ _ _ _ => rfl) (fun _ _ => rfl) _ _ _ _ _ _ _
theorem RS_convss (x : Opd) (t u) : RS P (⟨d, none, .convss x⟩ :: rest) K fr H t u = onV (convssV (evalA fr x)) (fun v => RS P rest K (setA fr d v) H .mk .mk) .mk := RS_0 (fun _ _ _ _ => rfl) (fun _ _ => rfl) _ _ _ _ _ _ _
theorem RS_convbs (x : Opd) (t u) : RS P (⟨d, none, .convbs x⟩ :: rest) K fr H t u = onV (((elemsOf H (evalA fr x)).bind bytesOf).map .str) (fun v => RS P rest K (setA fr d v) H .mk .mk) .mk := RS_0 (fun _ _ _ _ => rfl) (fun _ _ => rfl) _ _ _ _ _ _ _
theorem RS_slices (x : Opd) (lo hi : Option Opd) (t u) : RS P (⟨d, none, .slices x lo hi⟩ :: rest) K fr H t u = onV (slicesV (evalA fr) (evalA fr x) lo hi) (fun v => RS P rest K (setA fr d v) H .mk .mk) .mk := RS_0 (fun _ _ _ _ => rfl) (fun _ _ => rfl) _ _ _ _ _ _ _
theorem RS_faddr (off : Nat) (x : Opd) (t u) : RS P (⟨d, none, .faddr off x⟩ :: rest) K fr H t u = onV (faddrV H off (evalA fr x)) (fun v => RS P rest K (setA fr d v) H .mk .mk) .mk := RS_0 (fun _ _ _ _ => rfl) (fun _ _ => rfl) _ _ _ _ _ _ _
theorem RS_field (agg : Bool) (off n : Nat) (x : Opd) (t u) : RS P (⟨d, none, .field agg off n x⟩ :: rest) K fr H t u = onV (fieldV agg off n (evalA fr x)) (fun v => RS P rest K (setA fr d v) H .mk .mk) .mk := RS_0 (fun _ _ _ _ => rfl) (fun _ _ => rfl) _ _ _ _ _ _ _
theorem RS_indexs (x i : Opd) (t u) : RS P (⟨d, none, .indexs x i⟩ :: rest) K fr H t u = onV (indexsV (evalA fr x) (evalA fr i)) (fun v => RS P rest K (setA fr d v) H .mk .mk) .mk := RS_0 (fun _ _ _ _ => rfl) (fun _ _ => rfl) _ _ _ _ _ _ _
theorem RS_ext (x : Opd) (i : Nat) (t u) : RS P (⟨d, none, .ext x i⟩ :: rest) K fr H t u = onV (extV (evalA fr x) i) (fun v => RS P rest K (setA fr d v) H .mk .mk) .mk := RS_0 (fun _ _ _ _ => rfl) (fun _ _ => rfl) _ _ _ _ _ _ _
theorem RS_lens (x : Opd) (t u) : RS P (⟨d, none, .len true x⟩ :: rest) K fr H t u = onV (lensV (evalA fr x)) (fun v => RS P rest K (setA fr d v) H .mk .mk) .mk := RS_0 (fun _ _ _ _ => rfl) (fun _ _ => rfl) _ _ _ _ _ _ _
theorem RS_len (x : Opd) (t u) : RS P (⟨d, none, .len false x⟩ :: rest) K fr H t u = onV (lenV H (evalA fr x)) (fun v => RS P rest K (setA fr d v) H .mk .mk) .mk := RS_0 (fun _ _ _ _ => rfl) (fun _ _ => rfl) _ _ _ _ _ _ _
theorem RS_min2 (x y : Opd) (t u) : RS P (⟨d, none, .min2 x y⟩ :: rest) K fr H t u = onV (min2V (evalA fr x) (evalA fr y)) (fun v => RS P rest K (setA fr d v) H .mk .mk) .mk := RS_0 (fun _ _ _ _ => rfl) (fun _ _ => rfl) _ _ _ _ _ _ _
theorem RS_max2 (x y : Opd) (t u) : RS P (⟨d, none, .max2 x y⟩ :: rest) K fr H t u = onV (max2V (evalA fr x) (evalA fr y)) (fun v => RS P rest K (setA fr d v) H .mk .mk) .mk := RS_0 (fun _ _ _ _ => rfl) (fun _ _ => rfl) _ _ _ _ _ _ _
theorem RS_iaddr (sz : Nat) (x i : Opd) (t u) : RS P (⟨d, none, .iaddr sz x i⟩ :: rest) K fr H t u = onV (iaddrV H sz (evalA fr x) (evalA fr i)) (fun v => RS P rest K (setA fr d v) H .mk .mk) .mk := RS_0 (fun _ _ _ _ => rfl) (fun _ _ => rfl) _ _ _ _ _ _ _
theorem RS_mkfn (f : Fn) (first cap : List Opd) (t u) : RS P (⟨d, none, .mkfn f first cap⟩ :: rest) K fr H t u = RS P rest K (setA fr d (.fn f (first.map (evalA fr)) (cap.map (evalA fr)))) H .mk .mk := by rw [RS_0 (fun _ _ _ _ => rfl) (fun _ _ => rfl)]; exact onV_some _ _ _
end
end Go.Proofs.YtemjlopoffjmpaaGreat.Abs
