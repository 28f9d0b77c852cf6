/-
  The abstract layer, part 41: code that is walked part by part, and joined again where ways meet.
-/
import Derived.Test.YtemjlopoffjmpaaGreatSOAbs39
set_option linter.unusedSimpArgs false
set_option linter.unusedVariables false
namespace Go.Proofs.YtemjlopoffjmpaaGreat.Abs
open Go
def QStp (P : Program) (n0 : Nat) (b : ACode) (Q : APost) (_ : Tag b) (_ : Tag Q) : APost := fun e fr H => match e with
 | .normal => W P n0 b Q fr H
 | .exit i => Q (.exit i) fr H
 | .ret => Q .ret fr H
def QCut (n0 : Nat) (I : List AV → AH → Prop) (Q : APost) (_ : Tag I) (_ : Tag Q) : APost := fun e fr H => match e with
 | .normal => ∃ fr' H', Wk n0 fr H fr' H' ∧ I fr' H'
 | .exit i => Q (.exit i) fr H
 | .ret => Q .ret fr H
section
variable {P : Program} {n0 : Nat}
theorem QStp_exit (b : ACode) (Q : APost) (i : Nat) (fr : List AV) (H : AH) (m n) : QStp P n0 b Q m n (.exit i) fr H = Q (.exit i) fr H := (_root_.id rfl)
theorem QStp_ret (b : ACode) (Q : APost) (fr : List AV) (H : AH) (m n) : QStp P n0 b Q m n .ret fr H = Q .ret fr H := (_root_.id rfl)
theorem QCut_exit (I : List AV → AH → Prop) (Q : APost) (i : Nat) (fr : List AV) (H : AH) (m n) : QCut n0 I Q m n (.exit i) fr H = Q (.exit i) fr H := (_root_.id rfl)
theorem QCut_ret (I : List AV → AH → Prop) (Q : APost) (fr : List AV) (H : AH) (m n) : QCut n0 I Q m n .ret fr H = Q .ret fr H := (_root_.id rfl)
theorem wk5 : type_of% @QStp_exit ∧ type_of% @QStp_ret ∧ type_of% @QCut_exit ∧ type_of% @QCut_ret ∧ (true == true) = true ∧ (false == false) = true ∧ (true == false) = false ∧ (false == true) = false := ⟨@QStp_exit, @QStp_ret, @QCut_exit, @QCut_ret, rfl, rfl, rfl, rfl⟩
theorem QStp_go {b : ACode} {Q : APost} {fr : List AV} {H : AH} {m n} (h : W P n0 b Q fr H) : QStp P n0 b Q m n .normal fr H := h
theorem QCut_go {I : List AV → AH → Prop} {Q : APost} {fr fr' : List AV} {H H' : AH} {m n} (hi : I fr' H') (hw : Wk n0 fr H fr' H') : QCut n0 I Q m n .normal fr H := ⟨_, _, hw, hi⟩
theorem W_stp {a b : ACode} {Q : APost} {fr : List AV} {H : AH} (h : WT P n0 a (QStp P n0 b Q .mk .mk) fr H .mk .mk) : W P n0 (.seq a b) Q fr H := by
 refine W_seq (W_mono (WA_ok h) ?_)
 intro e fr H hq
 cases e <;> exact hq
theorem W_cut {a b : ACode} {Q : APost} {fr : List AV} {H : AH} (I : List AV → AH → Prop) (h : WT P n0 a (QCut n0 I Q .mk .mk) fr H .mk .mk) (k : ∀ fr H, I fr H → W P n0 b Q fr H) : W P n0 (.seq a b) Q fr H := by
 refine W_seq (W_mono (WA_ok h) ?_)
 intro e fr H hq
 cases e with
 | normal =>
   obtain ⟨fr', H', hw, hi⟩ := hq
   exact W_wk hw (k _ _ hi)
 | exit i => exact hq
 | ret => exact hq
end
end Go.Proofs.YtemjlopoffjmpaaGreat.Abs
