/-
  The abstract layer, part 27: the walk's equations for loops.
-/
import Derived.Test.YtemjlopoffjmpaaGreatSOAbs26
set_option linter.unusedSimpArgs false
set_option linter.unusedVariables false
namespace Go.Proofs.YtemjlopoffjmpaaGreat.Abs
open Go
section
variable {P : Program} {n0 : Nat}
theorem QLoop_go {I : Nat → List AV → AH → Prop} {n n' : Nat} {Q : APost} {fr fr' : List AV} {H : AH} (hlt : n' < n) (hI : I n' fr' H) (hw : Tops fr' fr) : QLoop n0 I n Q .normal fr H :=
 ⟨fr', H, Wk_tops hw, n', hlt, hI⟩
theorem QLoop_wk {I : Nat → List AV → AH → Prop} {n n' : Nat} {Q : APost} {fr fr' : List AV} {H H' : AH} (hlt : n' < n) (hI : I n' fr' H') (hw : Wk n0 fr H fr' H') : QLoop n0 I n Q .normal fr H :=
 ⟨fr', H', hw, n', hlt, hI⟩
theorem QLoop_exit (I : Nat → List AV → AH → Prop) (n id : Nat) (Q : APost) (fr : List AV) (H : AH) : QLoop n0 I n Q (.exit id) fr H = Q (.exit id) fr H := (_root_.id rfl)
theorem QLoop_ret (I : Nat → List AV → AH → Prop) (n : Nat) (Q : APost) (fr : List AV) (H : AH) : QLoop n0 I n Q .ret fr H = Q .ret fr H := (_root_.id rfl)
theorem Tops_nil : Tops [] [] = True := (_root_.id rfl)
theorem Tops_top (x : AV) (xs ys : List AV) : Tops (.top :: xs) (x :: ys) = Tops xs ys := by simp [Tops]
theorem Tops_same (x : AV) (xs ys : List AV) : Tops (x :: xs) (x :: ys) = Tops xs ys := by simp [Tops]
theorem Wk_clear {fr fr' : List AV} {H : AH} (h : Tops fr' (renL (upTo 0) fr)) : Wk 0 fr H fr' [] := by
 have := Wk_forget (n0 := 0) (fr := fr) (H := H) 0 (Nat.le_refl _)
 exact this.trans (Wk_tops h)
theorem upTo_zero (r : Nat) : upTo 0 r = none := by simp [upTo]
end
end Go.Proofs.YtemjlopoffjmpaaGreat.Abs
