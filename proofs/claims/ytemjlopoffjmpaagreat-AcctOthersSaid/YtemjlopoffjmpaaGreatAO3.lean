/-
  Part 3 of the proof: no condition. (Parts of the abstract layer, of the program's functions in its form, and of their contracts.)
-/
import Derived.Test.YtemjlopoffjmpaaGreatAOWk
import Derived.Test.YtemjlopoffjmpaaGreatAOWk3
import Derived.Test.YtemjlopoffjmpaaGreatAO2
import Derived.Test.YtemjlopoffjmpaaGreatAO1
import Derived.Test.YtemjlopoffjmpaaGreatAOAbs39
import Derived.Test.YtemjlopoffjmpaaGreatAOAbs22
import Derived.Test.YtemjlopoffjmpaaGreatProg
import Derived.KernelRfl
import Derived.Test.YtemjlopoffjmpaaGreatAOAbs35
import Derived.Test.YtemjlopoffjmpaaGreatAOAbs37
import Derived.Test.YtemjlopoffjmpaaGreatAOAbs41
import Derived.Test.YtemjlopoffjmpaaGreatAOAbs38
import Derived.ProofKit
set_option linter.unusedSimpArgs false
set_option linter.unusedVariables false
namespace Go.Proofs.YtemjlopoffjmpaaGreat.Abs
open Go Go.Proofs
theorem newL (H : AH) : C Tryz.prog 34 [] H (fun x H' => x = aset newA ∧ H' = H) := new_spec H
theorem addOk_iff (l : List Dset) (n : Int) : addOk l n = true ↔ l.length < 8 ∧ 1 ≤ n ∧ n ≤ 65535 ∧ (l.length = 0 ∨ (l.getD (l.length - 1) default).id < n) := by
 unfold addOk
 rw [Bool.and_eq_true, Bool.and_eq_true, Bool.and_eq_true, Bool.or_eq_true, decide_eq_true_eq, decide_eq_true_eq, decide_eq_true_eq, decide_eq_true_eq, decide_eq_true_eq, and_assoc, and_assoc]
theorem addOk_no {l : List Dset} {n : Int} (h : ¬ (l.length < 8 ∧ 1 ≤ n ∧ n ≤ 65535 ∧ (l.length = 0 ∨ (l.getD (l.length - 1) default).id < n))) : addOk l n = false :=
 Bool.eq_false_iff.2 fun e => h ((addOk_iff l n).1 e)
theorem more0 (l : List Dset) (hl : Short l) (x : Dset) (hx : x.files.length ≤ 1000000) :
 C Tryz.prog 108 [asets l, .agg (cellD x)] [] (fun y H' => y = outA (addA l x.id x) ∧ H' = []) := by
 have hl1 := hl.1
 refine C_body' d108 rfl (WT_ok ?_)
 unfold c108
 have hyes : addOk l x.id = true → outA (addA l x.id x) = .tuple [asets (l ++ [x]), .int .i64 0] := fun h => by
  have : addA l x.id x = (l ++ [{ x with id := x.id }], 0) := if_pos h
  rw [this]; rfl
 have hno : addOk l x.id = false → outA (addA l x.id x) = .tuple [asets l, .int .i64 8] := fun h => by
  have : addA l x.id x = (l, 8) := if_neg (by rw [h]; decide)
  rw [this]; rfl
 have hidd := rid68 x.id
 by_cases g1 : (8 : Int) ≤ (l.length : Int)
 ·have hn := hno (addOk_no (by omega))
  simp only [asets, cellD, aset, lay, wk3, wk, iaddrV_map, Nat.reduceAdd, Nat.reduceSub, Nat.reduceMul, Nat.reduceLeDiff, Nat.reduceEqDiff, Nat.reduceBEq, Int.reduceLE, Int.reduceLT, Int.reduceEq, Int.reduceNe, Int.reduceAdd, Int.reduceSub, Int.reduceToNat, Int.reduceNeg, ↓reduceIte, reduceCtorEq]
  refine WT_drawE ?_
  simp only [g1, lay, wk3, wk, iaddrV_map, Nat.reduceAdd, Nat.reduceSub, Nat.reduceMul, Nat.reduceLeDiff, Nat.reduceEqDiff, Nat.reduceBEq, Int.reduceLE, Int.reduceLT, Int.reduceEq, Int.reduceNe, Int.reduceAdd, Int.reduceSub, Int.reduceToNat, Int.reduceNeg, ↓reduceIte, reduceCtorEq]
  refine WDT_more 0 ?_
  simp only [g1, lay, wk3, wk, iaddrV_map, Nat.reduceAdd, Nat.reduceSub, Nat.reduceMul, Nat.reduceLeDiff, Nat.reduceEqDiff, Nat.reduceBEq, Int.reduceLE, Int.reduceLT, Int.reduceEq, Int.reduceNe, Int.reduceAdd, Int.reduceSub, Int.reduceToNat, Int.reduceNeg, ↓reduceIte, reduceCtorEq]
  refine ⟨by rfl, ?_⟩
  exact KWk_bare (by simp [bare, bareL]) ⟨by rw [hn]; rfl, rfl⟩
 by_cases g2 : x.id < 1
 ·have hn := hno (addOk_no (by omega))
  simp only [asets, cellD, aset, lay, wk3, wk, iaddrV_map, Nat.reduceAdd, Nat.reduceSub, Nat.reduceMul, Nat.reduceLeDiff, Nat.reduceEqDiff, Nat.reduceBEq, Int.reduceLE, Int.reduceLT, Int.reduceEq, Int.reduceNe, Int.reduceAdd, Int.reduceSub, Int.reduceToNat, Int.reduceNeg, ↓reduceIte, reduceCtorEq]
  refine WT_drawE ?_
  simp only [g1, g2, lay, wk3, wk, iaddrV_map, Nat.reduceAdd, Nat.reduceSub, Nat.reduceMul, Nat.reduceLeDiff, Nat.reduceEqDiff, Nat.reduceBEq, Int.reduceLE, Int.reduceLT, Int.reduceEq, Int.reduceNe, Int.reduceAdd, Int.reduceSub, Int.reduceToNat, Int.reduceNeg, ↓reduceIte, reduceCtorEq]
  refine WDT_more 0 ?_
  simp only [g1, g2, lay, wk3, wk, iaddrV_map, Nat.reduceAdd, Nat.reduceSub, Nat.reduceMul, Nat.reduceLeDiff, Nat.reduceEqDiff, Nat.reduceBEq, Int.reduceLE, Int.reduceLT, Int.reduceEq, Int.reduceNe, Int.reduceAdd, Int.reduceSub, Int.reduceToNat, Int.reduceNeg, ↓reduceIte, reduceCtorEq]
  refine ⟨by rfl, ?_⟩
  exact KWk_bare (by simp [bare, bareL]) ⟨by rw [hn]; rfl, rfl⟩
 by_cases g3 : x.id ≤ 65535
 case neg =>
  have hn := hno (addOk_no (by omega))
  have he : (decide (0 ≤ x.id) && decide (x.id ≤ 65535)) = false := by simp; omega
  simp only [he] at hidd
  simp only [asets, cellD, aset, lay, wk3, wk, iaddrV_map, Nat.reduceAdd, Nat.reduceSub, Nat.reduceMul, Nat.reduceLeDiff, Nat.reduceEqDiff, Nat.reduceBEq, Int.reduceLE, Int.reduceLT, Int.reduceEq, Int.reduceNe, Int.reduceAdd, Int.reduceSub, Int.reduceToNat, Int.reduceNeg, ↓reduceIte, reduceCtorEq]
  refine WT_drawE ?_
  simp only [g1, g2, lay, wk3, wk, iaddrV_map, Nat.reduceAdd, Nat.reduceSub, Nat.reduceMul, Nat.reduceLeDiff, Nat.reduceEqDiff, Nat.reduceBEq, Int.reduceLE, Int.reduceLT, Int.reduceEq, Int.reduceNe, Int.reduceAdd, Int.reduceSub, Int.reduceToNat, Int.reduceNeg, ↓reduceIte, reduceCtorEq]
  refine CT_ok (hidd _) ?_
  rintro _ _ ⟨rfl, rfl⟩
  simp only [g1, g2, lay, wk3, wk, iaddrV_map, Nat.reduceAdd, Nat.reduceSub, Nat.reduceMul, Nat.reduceLeDiff, Nat.reduceEqDiff, Nat.reduceBEq, Int.reduceLE, Int.reduceLT, Int.reduceEq, Int.reduceNe, Int.reduceAdd, Int.reduceSub, Int.reduceToNat, Int.reduceNeg, ↓reduceIte, reduceCtorEq]
  refine WDT_more 0 ?_
  simp only [g1, g2, lay, wk3, wk, iaddrV_map, Nat.reduceAdd, Nat.reduceSub, Nat.reduceMul, Nat.reduceLeDiff, Nat.reduceEqDiff, Nat.reduceBEq, Int.reduceLE, Int.reduceLT, Int.reduceEq, Int.reduceNe, Int.reduceAdd, Int.reduceSub, Int.reduceToNat, Int.reduceNeg, ↓reduceIte, reduceCtorEq]
  refine ⟨by rfl, ?_⟩
  exact KWk_bare (by simp [bare, bareL]) ⟨by rw [hn]; rfl, rfl⟩
 have he : (decide (0 ≤ x.id) && decide (x.id ≤ 65535)) = true := by simp; omega
 simp only [he] at hidd
 have hml : (l ++ [x]).length = l.length + 1 := by simp
 rcases Nat.eq_zero_or_pos l.length with h0 | h0
 ·have hn := hyes ((addOk_iff _ _).2 ⟨by omega, by omega, by omega, by omega⟩)
  have g4 : ¬ (0 : Int) < (l.length : Int) := by omega
  simp only [asets, cellD, aset, lay, wk3, wk, iaddrV_map, Nat.reduceAdd, Nat.reduceSub, Nat.reduceMul, Nat.reduceLeDiff, Nat.reduceEqDiff, Nat.reduceBEq, Int.reduceLE, Int.reduceLT, Int.reduceEq, Int.reduceNe, Int.reduceAdd, Int.reduceSub, Int.reduceToNat, Int.reduceNeg, ↓reduceIte, reduceCtorEq]
  refine WT_drawE ?_
  simp only [g1, g2, lay, wk3, wk, iaddrV_map, Nat.reduceAdd, Nat.reduceSub, Nat.reduceMul, Nat.reduceLeDiff, Nat.reduceEqDiff, Nat.reduceBEq, Int.reduceLE, Int.reduceLT, Int.reduceEq, Int.reduceNe, Int.reduceAdd, Int.reduceSub, Int.reduceToNat, Int.reduceNeg, ↓reduceIte, reduceCtorEq]
  refine CT_ok (hidd _) ?_
  rintro _ _ ⟨rfl, rfl⟩
  simp only [g1, g2, g4, lay, wk3, wk, iaddrV_map, Nat.reduceAdd, Nat.reduceSub, Nat.reduceMul, Nat.reduceLeDiff, Nat.reduceEqDiff, Nat.reduceBEq, Int.reduceLE, Int.reduceLT, Int.reduceEq, Int.reduceNe, Int.reduceAdd, Int.reduceSub, Int.reduceToNat, Int.reduceNeg, ↓reduceIte, reduceCtorEq]
  refine WDT_more 0 ?_
  simp only [g1, g2, g4, lay, wk3, wk, iaddrV_map, Nat.reduceAdd, Nat.reduceSub, Nat.reduceMul, Nat.reduceLeDiff, Nat.reduceEqDiff, Nat.reduceBEq, Int.reduceLE, Int.reduceLT, Int.reduceEq, Int.reduceNe, Int.reduceAdd, Int.reduceSub, Int.reduceToNat, Int.reduceNeg, ↓reduceIte, reduceCtorEq]
  refine ⟨by rfl, ?_⟩
  refine WT_drawE ?_
  refine WDT_more 2 ?_
  simp only [cellsD, rows5D, lay, wk3, wk, iaddrV_map, Nat.reduceAdd, Nat.reduceSub, Nat.reduceMul, Nat.reduceLeDiff, Nat.reduceEqDiff, Nat.reduceBEq, Int.reduceLE, Int.reduceLT, Int.reduceEq, Int.reduceNe, Int.reduceAdd, Int.reduceSub, Int.reduceToNat, Int.reduceNeg, ↓reduceIte, reduceCtorEq]
  refine ⟨by omega, ?_⟩
  simp only [ren, renL, cellsD, rows5D, lay, wk3, wk, iaddrV_map, Nat.reduceAdd, Nat.reduceSub, Nat.reduceMul, Nat.reduceLeDiff, Nat.reduceEqDiff, Nat.reduceBEq, Int.reduceLE, Int.reduceLT, Int.reduceEq, Int.reduceNe, Int.reduceAdd, Int.reduceSub, Int.reduceToNat, Int.reduceNeg, ↓reduceIte, reduceCtorEq]
  refine ⟨⟨by omega, by omega⟩, by omega, by omega, by rfl, ⟨by omega, by omega⟩, ?_⟩
  rw [hn]
  exact KWk_sets 1 (l ++ [x]) 0 _ (by simp) (by rw [List.map_append]; rfl) ⟨rfl, rfl⟩
 ·have w1 : IntKind.i64.wrap ((l.length : Int) - 1) = ((l.length - 1 : Nat) : Int) := by rw [IntWalk.i64_in _ (by omega)]; omega
  have g4 : (0 : Int) < (l.length : Int) := by omega
  have g6 : (0 : Int) ≤ ((l.length - 1 : Nat) : Int) := by omega
  have g7 : ((l.length - 1 : Nat) : Int) < (l.length : Int) := by omega
  simp only [asets, cellD, aset, lay, wk3, wk, iaddrV_map, Nat.reduceAdd, Nat.reduceSub, Nat.reduceMul, Nat.reduceLeDiff, Nat.reduceEqDiff, Nat.reduceBEq, Int.reduceLE, Int.reduceLT, Int.reduceEq, Int.reduceNe, Int.reduceAdd, Int.reduceSub, Int.reduceToNat, Int.reduceNeg, ↓reduceIte, reduceCtorEq]
  refine WT_drawE ?_
  simp only [g1, g2, lay, wk3, wk, iaddrV_map, Nat.reduceAdd, Nat.reduceSub, Nat.reduceMul, Nat.reduceLeDiff, Nat.reduceEqDiff, Nat.reduceBEq, Int.reduceLE, Int.reduceLT, Int.reduceEq, Int.reduceNe, Int.reduceAdd, Int.reduceSub, Int.reduceToNat, Int.reduceNeg, ↓reduceIte, reduceCtorEq]
  refine CT_ok (hidd _) ?_
  rintro _ _ ⟨rfl, rfl⟩
  simp only [g1, g2, g4, lay, wk3, wk, iaddrV_map, Nat.reduceAdd, Nat.reduceSub, Nat.reduceMul, Nat.reduceLeDiff, Nat.reduceEqDiff, Nat.reduceBEq, Int.reduceLE, Int.reduceLT, Int.reduceEq, Int.reduceNe, Int.reduceAdd, Int.reduceSub, Int.reduceToNat, Int.reduceNeg, ↓reduceIte, reduceCtorEq]
  refine WDT_more 0 ?_
  simp only [g1, g2, g4, g6, g7, w1, iaddr_dset, pdset, lay, wk3, wk, iaddrV_map, Nat.reduceAdd, Nat.reduceSub, Nat.reduceMul, Nat.reduceLeDiff, Nat.reduceEqDiff, Nat.reduceBEq, Int.reduceLE, Int.reduceLT, Int.reduceEq, Int.reduceNe, Int.reduceAdd, Int.reduceSub, Int.reduceToNat, Int.reduceNeg, ↓reduceIte, reduceCtorEq]
  refine ⟨by rfl, ?_⟩
  by_cases g5 : x.id ≤ (l.getD (l.length - 1) default).id
  ·have hn := hno (addOk_no (by omega))
   simp only [g5, lay, wk3, wk, iaddrV_map, Nat.reduceAdd, Nat.reduceSub, Nat.reduceMul, Nat.reduceLeDiff, Nat.reduceEqDiff, Nat.reduceBEq, Int.reduceLE, Int.reduceLT, Int.reduceEq, Int.reduceNe, Int.reduceAdd, Int.reduceSub, Int.reduceToNat, Int.reduceNeg, ↓reduceIte, reduceCtorEq]
   exact KWk_bare (by simp [bare, bareL]) ⟨by rw [hn]; rfl, rfl⟩
  ·have hn := hyes ((addOk_iff _ _).2 ⟨by omega, by omega, by omega, by omega⟩)
   simp only [g5, lay, wk3, wk, iaddrV_map, Nat.reduceAdd, Nat.reduceSub, Nat.reduceMul, Nat.reduceLeDiff, Nat.reduceEqDiff, Nat.reduceBEq, Int.reduceLE, Int.reduceLT, Int.reduceEq, Int.reduceNe, Int.reduceAdd, Int.reduceSub, Int.reduceToNat, Int.reduceNeg, ↓reduceIte, reduceCtorEq]
   refine WT_drawE ?_
   refine WDT_more 2 ?_
   simp only [cellsD, rows5D, lay, wk3, wk, iaddrV_map, Nat.reduceAdd, Nat.reduceSub, Nat.reduceMul, Nat.reduceLeDiff, Nat.reduceEqDiff, Nat.reduceBEq, Int.reduceLE, Int.reduceLT, Int.reduceEq, Int.reduceNe, Int.reduceAdd, Int.reduceSub, Int.reduceToNat, Int.reduceNeg, ↓reduceIte, reduceCtorEq]
   refine ⟨by omega, ?_⟩
   simp only [ren, renL, cellsD, rows5D, lay, wk3, wk, iaddrV_map, Nat.reduceAdd, Nat.reduceSub, Nat.reduceMul, Nat.reduceLeDiff, Nat.reduceEqDiff, Nat.reduceBEq, Int.reduceLE, Int.reduceLT, Int.reduceEq, Int.reduceNe, Int.reduceAdd, Int.reduceSub, Int.reduceToNat, Int.reduceNeg, ↓reduceIte, reduceCtorEq]
   refine ⟨⟨by omega, by omega⟩, by omega, by omega, by rfl, ⟨by omega, by omega⟩, ?_⟩
   rw [hn]
   exact KWk_sets 1 (l ++ [x]) 0 _ (by simp) (by rw [List.map_append]; rfl) ⟨rfl, rfl⟩
theorem moreL (l : List Dset) (hl : Short l) (x : Dset) (hx : x.files.length ≤ 1000000) (H : AH) :
 C Tryz.prog 108 [asets l, .agg (cellD x)] H (fun y H' => y = outA (addA l x.id x) ∧ H' = H) :=
 C_any (more0 l hl x hx) (by simp [bareL, bare, asets, cellD, aset]) (outA_bare _) H
theorem addA_id (l : List Dset) (n : Int) (x y : Dset) (h : ({ x with id := n } : Dset) = y) : addA l n x = addA l n y := by
 subst h; rfl
theorem rcreate0 (l : List Dset) (hl : Short l) (next q : Int) : C Tryz.prog 70 [asets l, .int .i64 next, .int .i64 q] [] (fun x H' => x = outA (createA l next q) ∧ H' = []) := by
 refine C_body' d70 rfl (WT_ok ?_)
 unfold c70 createA
 by_cases h1 : q < 0
 ·rw [if_pos (.inl h1)]
  simp only [h1, lay, wk3, wk, iaddrV_map, Nat.reduceAdd, Nat.reduceSub, Nat.reduceMul, Nat.reduceLeDiff, Nat.reduceEqDiff, Nat.reduceBEq, Int.reduceLE, Int.reduceLT, Int.reduceEq, Int.reduceNe, Int.reduceAdd, Int.reduceSub, Int.reduceToNat, Int.reduceNeg, ↓reduceIte, reduceCtorEq]
  exact KWk_bare (by simp [bare, bareL, asets]) ⟨rfl, rfl⟩
 by_cases h2 : 255 < q
 ·rw [if_pos (.inr h2)]
  simp only [h1, h2, lay, wk3, wk, iaddrV_map, Nat.reduceAdd, Nat.reduceSub, Nat.reduceMul, Nat.reduceLeDiff, Nat.reduceEqDiff, Nat.reduceBEq, Int.reduceLE, Int.reduceLT, Int.reduceEq, Int.reduceNe, Int.reduceAdd, Int.reduceSub, Int.reduceToNat, Int.reduceNeg, ↓reduceIte, reduceCtorEq]
  exact KWk_bare (by simp [bare, bareL, asets]) ⟨rfl, rfl⟩
 ·rw [if_neg (fun h => h.elim h1 h2), addA_id l next _ ⟨next, 1, 0, q, newA⟩ rfl]
  simp only [h1, h2, lay, wk3, wk, iaddrV_map, Nat.reduceAdd, Nat.reduceSub, Nat.reduceMul, Nat.reduceLeDiff, Nat.reduceEqDiff, Nat.reduceBEq, Int.reduceLE, Int.reduceLT, Int.reduceEq, Int.reduceNe, Int.reduceAdd, Int.reduceSub, Int.reduceToNat, Int.reduceNeg, ↓reduceIte, reduceCtorEq]
  refine CT_ok (newL _) ?_
  rintro _ _ ⟨rfl, rfl⟩
  simp only [aset, lay, wk3, wk, iaddrV_map, Nat.reduceAdd, Nat.reduceSub, Nat.reduceMul, Nat.reduceLeDiff, Nat.reduceEqDiff, Nat.reduceBEq, Int.reduceLE, Int.reduceLT, Int.reduceEq, Int.reduceNe, Int.reduceAdd, Int.reduceSub, Int.reduceToNat, Int.reduceNeg, ↓reduceIte, reduceCtorEq]
  refine CT_ok (moreL l hl ⟨next, 1, 0, q, newA⟩ (show newA.length ≤ 1000000 by decide) _) ?_
  rintro _ _ ⟨rfl, rfl⟩
  simp only [outA, lay, wk3, wk, iaddrV_map, Nat.reduceAdd, Nat.reduceSub, Nat.reduceMul, Nat.reduceLeDiff, Nat.reduceEqDiff, Nat.reduceBEq, Int.reduceLE, Int.reduceLT, Int.reduceEq, Int.reduceNe, Int.reduceAdd, Int.reduceSub, Int.reduceToNat, Int.reduceNeg, ↓reduceIte, reduceCtorEq]
  exact KWk_bare (by simp [bare, bareL, asets]) ⟨rfl, rfl⟩
theorem rsnap0 (l : List Dset) (hl : Short l) (next i : Int) : C Tryz.prog 71 [asets l, .int .i64 next, .int .i64 i] [] (fun x H' => x = outA (snapA l next i) ∧ H' = []) := by
 refine C_body' d71 rfl (WT_ok ?_)
 unfold c71
 simp only [lay, wk3, wk, iaddrV_map, Nat.reduceAdd, Nat.reduceSub, Nat.reduceMul, Nat.reduceLeDiff, Nat.reduceEqDiff, Nat.reduceBEq, Int.reduceLE, Int.reduceLT, Int.reduceEq, Int.reduceNe, Int.reduceAdd, Int.reduceSub, Int.reduceToNat, Int.reduceNeg, ↓reduceIte, reduceCtorEq]
 refine CT_ok (rgetL l hl.1 i _) ?_
 rintro _ _ ⟨rfl, rfl⟩
 cases hg : getA l i with
 | none =>
   have e : snapA l next i = (l, 2) := by unfold snapA; rw [hg]
   rw [e]
   simp only [getV, lay, wk3, wk, iaddrV_map, Nat.reduceAdd, Nat.reduceSub, Nat.reduceMul, Nat.reduceLeDiff, Nat.reduceEqDiff, Nat.reduceBEq, Int.reduceLE, Int.reduceLT, Int.reduceEq, Int.reduceNe, Int.reduceAdd, Int.reduceSub, Int.reduceToNat, Int.reduceNeg, ↓reduceIte, reduceCtorEq]
   exact KWk_bare (by simp [bare, bareL, asets]) ⟨rfl, rfl⟩
 | some d =>
   have hd := hl.2 d (getA_mem hg).1
   by_cases h2 : d.kind = 2
   ·have e : snapA l next i = (l, 11) := by unfold snapA; rw [hg]; exact if_pos h2
    rw [e]
    simp only [getV, h2, cellD, aset, lay, wk3, wk, iaddrV_map, Nat.reduceAdd, Nat.reduceSub, Nat.reduceMul, Nat.reduceLeDiff, Nat.reduceEqDiff, Nat.reduceBEq, Int.reduceLE, Int.reduceLT, Int.reduceEq, Int.reduceNe, Int.reduceAdd, Int.reduceSub, Int.reduceToNat, Int.reduceNeg, ↓reduceIte, reduceCtorEq]
    exact KWk_bare (by simp [bare, bareL, asets]) ⟨rfl, rfl⟩
   ·have e : snapA l next i = addA l next ⟨next, 2, i, 0, d.files⟩ := by unfold snapA; rw [hg]; exact (if_neg h2).trans (addA_id l next _ _ rfl)
    rw [e]
    simp only [getV, h2, cellD, aset, lay, wk3, wk, iaddrV_map, Nat.reduceAdd, Nat.reduceSub, Nat.reduceMul, Nat.reduceLeDiff, Nat.reduceEqDiff, Nat.reduceBEq, Int.reduceLE, Int.reduceLT, Int.reduceEq, Int.reduceNe, Int.reduceAdd, Int.reduceSub, Int.reduceToNat, Int.reduceNeg, ↓reduceIte, reduceCtorEq]
    refine CT_ok (moreL l hl ⟨next, 2, i, 0, d.files⟩ hd _) ?_
    rintro _ _ ⟨rfl, rfl⟩
    simp only [outA, lay, wk3, wk, iaddrV_map, Nat.reduceAdd, Nat.reduceSub, Nat.reduceMul, Nat.reduceLeDiff, Nat.reduceEqDiff, Nat.reduceBEq, Int.reduceLE, Int.reduceLT, Int.reduceEq, Int.reduceNe, Int.reduceAdd, Int.reduceSub, Int.reduceToNat, Int.reduceNeg, ↓reduceIte, reduceCtorEq]
    exact KWk_bare (by simp [bare, bareL, asets]) ⟨rfl, rfl⟩
theorem rclone0 (l : List Dset) (hl : Short l) (next i : Int) : C Tryz.prog 72 [asets l, .int .i64 next, .int .i64 i] [] (fun x H' => x = outA (cloneA l next i) ∧ H' = []) := by
 refine C_body' d72 rfl (WT_ok ?_)
 unfold c72
 simp only [lay, wk3, wk, iaddrV_map, Nat.reduceAdd, Nat.reduceSub, Nat.reduceMul, Nat.reduceLeDiff, Nat.reduceEqDiff, Nat.reduceBEq, Int.reduceLE, Int.reduceLT, Int.reduceEq, Int.reduceNe, Int.reduceAdd, Int.reduceSub, Int.reduceToNat, Int.reduceNeg, ↓reduceIte, reduceCtorEq]
 refine CT_ok (rgetL l hl.1 i _) ?_
 rintro _ _ ⟨rfl, rfl⟩
 cases hg : getA l i with
 | none =>
   have e : cloneA l next i = (l, 2) := by unfold cloneA; rw [hg]
   rw [e]
   simp only [getV, lay, wk3, wk, iaddrV_map, Nat.reduceAdd, Nat.reduceSub, Nat.reduceMul, Nat.reduceLeDiff, Nat.reduceEqDiff, Nat.reduceBEq, Int.reduceLE, Int.reduceLT, Int.reduceEq, Int.reduceNe, Int.reduceAdd, Int.reduceSub, Int.reduceToNat, Int.reduceNeg, ↓reduceIte, reduceCtorEq]
   exact KWk_bare (by simp [bare, bareL, asets]) ⟨rfl, rfl⟩
 | some d =>
   have hd := hl.2 d (getA_mem hg).1
   by_cases h2 : d.kind = 2
   ·have e : cloneA l next i = addA l next ⟨next, 1, i, 0, d.files⟩ := by unfold cloneA; rw [hg]; exact (if_pos h2).trans (addA_id l next _ _ rfl)
    rw [e]
    simp only [getV, h2, cellD, aset, lay, wk3, wk, iaddrV_map, Nat.reduceAdd, Nat.reduceSub, Nat.reduceMul, Nat.reduceLeDiff, Nat.reduceEqDiff, Nat.reduceBEq, Int.reduceLE, Int.reduceLT, Int.reduceEq, Int.reduceNe, Int.reduceAdd, Int.reduceSub, Int.reduceToNat, Int.reduceNeg, ↓reduceIte, reduceCtorEq]
    refine CT_ok (moreL l hl ⟨next, 1, i, 0, d.files⟩ hd _) ?_
    rintro _ _ ⟨rfl, rfl⟩
    simp only [outA, lay, wk3, wk, iaddrV_map, Nat.reduceAdd, Nat.reduceSub, Nat.reduceMul, Nat.reduceLeDiff, Nat.reduceEqDiff, Nat.reduceBEq, Int.reduceLE, Int.reduceLT, Int.reduceEq, Int.reduceNe, Int.reduceAdd, Int.reduceSub, Int.reduceToNat, Int.reduceNeg, ↓reduceIte, reduceCtorEq]
    exact KWk_bare (by simp [bare, bareL, asets]) ⟨rfl, rfl⟩
   ·have e : cloneA l next i = (l, 1) := by unfold cloneA; rw [hg]; exact if_neg h2
    rw [e]
    simp only [getV, h2, cellD, aset, lay, wk3, wk, iaddrV_map, Nat.reduceAdd, Nat.reduceSub, Nat.reduceMul, Nat.reduceLeDiff, Nat.reduceEqDiff, Nat.reduceBEq, Int.reduceLE, Int.reduceLT, Int.reduceEq, Int.reduceNe, Int.reduceAdd, Int.reduceSub, Int.reduceToNat, Int.reduceNeg, ↓reduceIte, reduceCtorEq]
    exact KWk_bare (by simp [bare, bareL, asets]) ⟨rfl, rfl⟩
end Go.Proofs.YtemjlopoffjmpaaGreat.Abs
set_option linter.unusedSimpArgs false
set_option linter.unusedVariables false
namespace Go.Proofs.YtemjlopoffjmpaaGreat.Abs
open Go Go.Proofs
def StepR (l : List UInt8) (n : Int) (x : AV) (H' : AH) : Prop := ∃ (k i m n' : Int) (p q t : List UInt8), p.length ≤ 1000000 ∧ q.length ≤ 1000000 ∧ t.length ≤ 1000000 ∧ (n ≤ n' ∧ 1 ≤ k ∧ (k ≤ 5 ∨ 9 ≤ k) ∧ k ≤ 14) ∧ x = editA k i m p q t ∧ H' = picksH l n'
theorem KWk_step {l : List UInt8} {n k i m n' : Int} {p q t : List UInt8} {R : AH} (hp : p.length ≤ 1000000) (hq : q.length ≤ 1000000) (ht : t.length ≤ 1000000) (hn : n ≤ n' ∧ 1 ≤ k ∧ (k ≤ 5 ∨ 9 ≤ k) ∧ k ≤ 14) :
 KWk 1 (StepR l n) (.agg [.int .i64 k, .int .i64 i, .int .i64 m, .int .i64 0, .int .i64 0, .str p, .str q, .str t, .emp]) (some [[.fz (l.map pbyte), .int .i64 n']] :: R) := by
 refine ⟨_, _, ?_, k, i, m, n', p, q, t, hp, hq, ht, hn, rfl, rfl⟩
 have h := Wk_forget (n0 := 1) (fr := [editA k i m p q t]) (H := some [[.fz (l.map pbyte), .int .i64 n']] :: R) 1 (Nat.le_refl _)
 simpa [mapH, renL, ren, editA, picksH] using h
theorem set45 (l : List UInt8) (n i : Int) (hn : 0 ≤ n) (hl : l.length ≤ 1000000) :
 C Tryz.prog 45 [.ptr 0 0 0 1, .int .i64 i] (picksH l n) (StepR l n) := by
 refine C_body' d45 rfl (WT_ok ?_)
 unfold c45
 simp only [picksH, lay, iaddr_node, pnode, wk3, wk, seval]
 refine CT_ok (num_at l n 6 (by omega) hl _) ?_
 rintro _ H ⟨m, n1, rfl, k1, k2, k3, k4, _, rfl⟩
 have g1 : m < 6 := k2 (by omega)
 have w1 : IntKind.i64.wrap (9 + m) = 9 + m := IntWalk.i64_in _ (by omega)
 simp only [w1, lay, iaddr_node, pnode, wk3, wk, seval]
 by_cases v9 : 9 + m = 9
 ·simp only [v9, lay, iaddr_node, pnode, wk3, wk, seval]
  refine CT_ok (num_at l n1 9 (by omega) hl _) ?_
  rintro _ H ⟨m2, n2, rfl, j1, j2, j3, j4, _, rfl⟩
  simp only [lay, iaddr_node, pnode, wk3, wk, seval]
  exact KWk_step (by simp) (by simp) (by simp) (by omega)
 by_cases v13 : 9 + m = 13
 ·simp only [v13, lay, iaddr_node, pnode, wk3, wk, seval]
  refine CT_ok (num_at l n1 8 (by omega) hl _) ?_
  rintro _ H ⟨m2, n2, rfl, j1, j2, j3, j4, _, rfl⟩
  have w2 : IntKind.i64.wrap (1 + m2) = 1 + m2 := IntWalk.i64_in _ (by omega)
  simp only [w2, lay, iaddr_node, pnode, wk3, wk, seval]
  exact KWk_step (by simp) (by simp) (by simp) (by omega)
 ·simp only [v9, v13, lay, iaddr_node, pnode, wk3, wk, seval]
  exact KWk_step (by simp) (by simp) (by simp) (by omega)
def poolC (nx : Int) (v : AV) : List AV := [.emp, .emp, .int .i64 0, .int .i64 0, .bool false, .int .i64 0, .int .i64 0, .int .u32 0, .int .u32 0, .int .u32 0, .int .u32 0, .int .i64 0, .int .i64 nx, .int .i64 0, .int .i64 0, .int .i64 0, .int .u32 0, .int .u32 0, .int .u32 0, .int .u32 0, .int .i64 0, .int .i64 0, .int .u32 0, .int .u32 0, .int .u32 0, .int .u32 0, .int .i64 0, .int .i64 0, .int .u32 0, .int .u32 0, .int .u32 0, .int .u32 0, .int .i64 0, .emp, .emp, .emp, .emp, .int .i64 0, .int .i64 0, v, .bool false]
def ansC (e m : Int) : List AV := [.int .i64 e, .str [], .int .i64 0, .int .i64 0, .int .i64 0, .int .i64 0, .emp, .int .i64 m]
def toldA (nx : Int) (l : List Dset) (e m : Int) : AV := .tuple [.agg (poolC nx (asets l)), .agg (ansC e m)]
theorem told_bare (nx : Int) (l : List Dset) (e m : Int) : bare (toldA nx l e m) = true := by simp [toldA, poolC, ansC, bare, bareL, asets]
theorem tells86 (nx : Int) (l : List Dset) (e : Int) (H : AH) : C Tryz.prog 86 [.agg (poolC nx (asets l)), .int .i64 e] H (fun x H' => x = toldA nx l e 0 ∧ H' = H) := by
 refine C_any ?_ (by simp [bareL, bare, asets, poolC]) (told_bare _ _ _ _) H
 refine C_body' d86 rfl (WT_ok ?_)
 unfold c86
 simp only [poolC, asets, lay, slicelV_own, slicelV_fz, onLive_some, RT_slicel, RE_slicel, slice3V_eq, room3_some, roomOf_own, roomOf_fz, RT_slice3, RT_calld, apI_some, clC_some, clearV_own, clearV_fz, wk3, wk, iaddrV_map, seval]
 exact KWk_bare (by simp [bare, bareL]) ⟨rfl, rfl⟩
theorem changes87 (k : Int) (hk : k ≤ 5 ∨ 9 ≤ k) (hk2 : k ≤ 14) (H : AH) : C Tryz.prog 87 [.int .i64 k] H (fun x H' => x = .bool true ∧ H' = H) := by
 refine C_body d87 rfl (WT_ok ?_)
 unfold c87
 have h6 : ¬ k = 6 := by omega
 have h7 : ¬ k = 7 := by omega
 have h8 : ¬ k = 8 := by omega
 have h17 : k ≤ 17 := by omega
 simp only [h6, h7, h8, h17, lay, slicelV_own, slicelV_fz, onLive_some, RT_slicel, RE_slicel, slice3V_eq, room3_some, roomOf_own, roomOf_fz, RT_slice3, RT_calld, apI_some, clC_some, clearV_own, clearV_fz, wk3, wk, iaddrV_map, seval]
end Go.Proofs.YtemjlopoffjmpaaGreat.Abs
set_option linter.unusedSimpArgs false
set_option linter.unusedVariables false
namespace Go.Proofs.YtemjlopoffjmpaaGreat.Abs
open Go Go.Proofs
theorem filesA_may {l : List Dset} (h : MayL l) (i : Int) {s : List Node} (hs : Wf s) : MayL (filesA l i s).1 ∧ (filesA l i s).1.length = l.length := by
 unfold filesA
 cases hg : getA l i with
 | none => exact ⟨h, rfl⟩
 | some d =>
   simp only
   split
   ·exact ⟨h, rfl⟩
   ·split
    ·exact ⟨h, rfl⟩
    ·refine ⟨?_, List.length_set⟩
     rcases find_of (l := l) (i := i) with ⟨e, _⟩ | ⟨k, e, hk, hid, _⟩
     ·rw [getA_no e] at hg; cases hg
     rw [getA_of e] at hg
     have hd := Option.some.inj hg
     rw [e, Int.toNat_natCast, ← hd]
     show MayL (l.set k _)
     rw [set_map h hk (fun d => { d with files := s })]
     obtain ⟨r, hr⟩ := h.tree
     refine h.map _ (fun d _ => by split <;> rfl) (fun d _ => by split <;> rfl) (fun d _ => by split <;> rfl) (fun d hd => ?_) (fun d hd e => ?_) (fun d hd e => ?_) r (fun d hd o ho e => ?_)
     ·split
      ·exact hs
      ·exact (h.each d hd).files
     ·have := ((h.each d hd).snap e).2
      split <;> exact this
     ·have := (h.each d hd).live e
      split <;> exact this
     ·have : o.id = d.origin := by
       rw [e]; split <;> rfl
      exact hr d hd o ho this
theorem filesL (l : List Dset) (hl : Short l) (i : Int) (s : List Node) (hs : s.length ≤ 1000000) (H : AH) :
 C Tryz.prog 17 [asets l, .int .i64 i, aset s] H (fun y H' => y = outA (filesA l i s) ∧ H' = H) :=
 C_any (filesA0 l hl i s hs) (by simp [bareL, bare, asets, aset]) (outA_bare _) H
def StepN (nx nx' : Int) (l l' : List Dset) : Prop := (l ≠ [] → l' ≠ []) ∧ ((∀ d ∈ l, d.id < nx) → ∀ d ∈ l', d.id < nx')
theorem StepN.refl (nx : Int) (l : List Dset) : StepN nx nx l l := ⟨fun h => h, fun h => h⟩
theorem filesA_ids {l : List Dset} (i : Int) (s : List Node) {nx : Int} (h : ∀ d ∈ l, d.id < nx) : ∀ d ∈ (filesA l i s).1, d.id < nx := by
 unfold filesA
 cases hg : getA l i with
 | none => exact h
 | some d =>
   simp only
   split
   ·exact h
   ·split
    ·exact h
    ·intro x hx
     rcases List.mem_or_eq_of_mem_set hx with hx | rfl
     ·exact h x hx
     ·exact h d (getA_mem hg).1
def PoolR (nx : Int) (l : List Dset) (y : AV) : Prop := ∃ (l' : List Dset) (nx' e m : Int), MayL l' ∧ StepN nx nx' l l' ∧ nx ≤ nx' ∧ nx' ≤ nx + 1 ∧ y = toldA nx' l' e m
theorem PoolR.bare {nx : Int} {l : List Dset} {y : AV} (h : PoolR nx l y) : bare y = true := by
 obtain ⟨l', nx', e, m, _, _, _, _, rfl⟩ := h
 exact told_bare _ _ _ _
set_option maxHeartbeats 2000000 in
theorem files88_0 (l : List Dset) (hM : MayL l) (nx k i m : Int) (hk : 1 ≤ k ∧ k ≤ 5) (p q t : List UInt8) (hp : p.length ≤ 1000000) (hq : q.length ≤ 1000000) (ht : t.length ≤ 1000000) :
 C Tryz.prog 88 [.agg (poolC nx (asets l)), editA k i m p q t] [] (fun y H' => PoolR nx l y ∧ H' = []) := by
 have hl := hM.short
 have told : ∀ e : Int, PoolR nx l (toldA nx l e 0) := fun e => ⟨l, nx, e, 0, hM, StepN.refl _ _, Int.le_refl _, by omega, rfl⟩
 have put : ∀ u, Wf u → PoolR nx l (toldA nx (filesA l i u).1 (filesA l i u).2 0) := fun u hu => by
  obtain ⟨h1, h2⟩ := filesA_may hM i hu
  exact ⟨_, nx, _, 0, h1, ⟨fun h e => h (List.length_eq_zero_iff.1 (by rw [← h2, e]; rfl)), filesA_ids i u⟩, Int.le_refl _, by omega, rfl⟩
 refine C_body' d88 rfl (WT_ok ?_)
 unfold c88
 simp only [poolC, editA, asets, lay, iaddr_node, pnode, wk3, wk, Nat.reduceAdd, Nat.reduceSub, Nat.reduceMul, Nat.reduceLeDiff, Nat.reduceEqDiff, Nat.reduceBEq, Int.reduceLE, Int.reduceLT, Int.reduceEq, Int.reduceNe, Int.reduceAdd, Int.reduceSub, Int.reduceToNat, Int.reduceNeg, ↓reduceIte, reduceCtorEq]
 refine CT_ok (rgetL l hl.1 i _) ?_
 rintro _ _ ⟨rfl, rfl⟩
 cases hg : getA l i with
 | none =>
   simp only [getV, lay, iaddr_node, pnode, wk3, wk, Nat.reduceAdd, Nat.reduceSub, Nat.reduceMul, Nat.reduceLeDiff, Nat.reduceEqDiff, Nat.reduceBEq, Int.reduceLE, Int.reduceLT, Int.reduceEq, Int.reduceNe, Int.reduceAdd, Int.reduceSub, Int.reduceToNat, Int.reduceNeg, ↓reduceIte, reduceCtorEq]
   refine CT_ok (tells86 nx l 2 _) ?_
   rintro _ _ ⟨rfl, rfl⟩
   simp only [toldA, poolC, ansC, asets, lay, iaddr_node, pnode, wk3, wk, Nat.reduceAdd, Nat.reduceSub, Nat.reduceMul, Nat.reduceLeDiff, Nat.reduceEqDiff, Nat.reduceBEq, Int.reduceLE, Int.reduceLT, Int.reduceEq, Int.reduceNe, Int.reduceAdd, Int.reduceSub, Int.reduceToNat, Int.reduceNeg, ↓reduceIte, reduceCtorEq]
   exact KWk_bare (told_bare nx l 2 0) ⟨told 2, rfl⟩
 | some d =>
 have hd := hM.each d (getA_mem hg).1
 simp only [getV, cellD, aset, lay, iaddr_node, pnode, wk3, wk, Nat.reduceAdd, Nat.reduceSub, Nat.reduceMul, Nat.reduceLeDiff, Nat.reduceEqDiff, Nat.reduceBEq, Int.reduceLE, Int.reduceLT, Int.reduceEq, Int.reduceNe, Int.reduceAdd, Int.reduceSub, Int.reduceToNat, Int.reduceNeg, ↓reduceIte, reduceCtorEq]
 refine CT_ok (changes87 k (by omega) (by omega) _) ?_
 rintro _ _ ⟨rfl, rfl⟩
 by_cases h2 : d.kind = 2
 ·simp only [h2, lay, iaddr_node, pnode, wk3, wk, Nat.reduceAdd, Nat.reduceSub, Nat.reduceMul, Nat.reduceLeDiff, Nat.reduceEqDiff, Nat.reduceBEq, Int.reduceLE, Int.reduceLT, Int.reduceEq, Int.reduceNe, Int.reduceAdd, Int.reduceSub, Int.reduceToNat, Int.reduceNeg, ↓reduceIte, reduceCtorEq]
  refine CT_ok (tells86 nx l 11 _) ?_
  rintro _ _ ⟨rfl, rfl⟩
  simp only [toldA, poolC, ansC, asets, lay, iaddr_node, pnode, wk3, wk, Nat.reduceAdd, Nat.reduceSub, Nat.reduceMul, Nat.reduceLeDiff, Nat.reduceEqDiff, Nat.reduceBEq, Int.reduceLE, Int.reduceLT, Int.reduceEq, Int.reduceNe, Int.reduceAdd, Int.reduceSub, Int.reduceToNat, Int.reduceNeg, ↓reduceIte, reduceCtorEq]
  exact KWk_bare (told_bare nx l 11 0) ⟨told 11, rfl⟩
 by_cases h_1 : k = 1
 ·simp only [h2, h_1, lay, iaddr_node, pnode, wk3, wk, Nat.reduceAdd, Nat.reduceSub, Nat.reduceMul, Nat.reduceLeDiff, Nat.reduceEqDiff, Nat.reduceBEq, Int.reduceLE, Int.reduceLT, Int.reduceEq, Int.reduceNe, Int.reduceAdd, Int.reduceSub, Int.reduceToNat, Int.reduceNeg, ↓reduceIte, reduceCtorEq]
  refine CT_ok (make_next (parts_loose p hp) (fun _ h => h) d.files hd.files m _) ?_
  rintro _ _ ⟨rfl, u, e, hu, rfl⟩
  by_cases he : e = 0
  ·simp only [aset, he, lay, iaddr_node, pnode, wk3, wk, Nat.reduceAdd, Nat.reduceSub, Nat.reduceMul, Nat.reduceLeDiff, Nat.reduceEqDiff, Nat.reduceBEq, Int.reduceLE, Int.reduceLT, Int.reduceEq, Int.reduceNe, Int.reduceAdd, Int.reduceSub, Int.reduceToNat, Int.reduceNeg, ↓reduceIte, reduceCtorEq]
   refine CT_ok (filesL l hl i u (by have := hu.len; omega) _) ?_
   rintro _ _ ⟨rfl, rfl⟩
   simp only [outA, asets, lay, iaddr_node, pnode, wk3, wk, Nat.reduceAdd, Nat.reduceSub, Nat.reduceMul, Nat.reduceLeDiff, Nat.reduceEqDiff, Nat.reduceBEq, Int.reduceLE, Int.reduceLT, Int.reduceEq, Int.reduceNe, Int.reduceAdd, Int.reduceSub, Int.reduceToNat, Int.reduceNeg, ↓reduceIte, reduceCtorEq]
   refine WT_drawE ?_
   refine WDT_more 0 ?_
   simp only [lay, iaddr_node, pnode, wk3, wk, Nat.reduceAdd, Nat.reduceSub, Nat.reduceMul, Nat.reduceLeDiff, Nat.reduceEqDiff, Nat.reduceBEq, Int.reduceLE, Int.reduceLT, Int.reduceEq, Int.reduceNe, Int.reduceAdd, Int.reduceSub, Int.reduceToNat, Int.reduceNeg, ↓reduceIte, reduceCtorEq]
   refine ⟨by omega, by rfl, ?_⟩
   exact KWk_bare (told_bare nx (filesA l i u).1 (filesA l i u).2 0) ⟨put u hu, rfl⟩
  ·simp only [aset, he, lay, iaddr_node, pnode, wk3, wk, Nat.reduceAdd, Nat.reduceSub, Nat.reduceMul, Nat.reduceLeDiff, Nat.reduceEqDiff, Nat.reduceBEq, Int.reduceLE, Int.reduceLT, Int.reduceEq, Int.reduceNe, Int.reduceAdd, Int.reduceSub, Int.reduceToNat, Int.reduceNeg, ↓reduceIte, reduceCtorEq]
   refine CT_ok (tells86 nx l e _) ?_
   rintro _ _ ⟨rfl, rfl⟩
   simp only [toldA, poolC, ansC, asets, lay, iaddr_node, pnode, wk3, wk, Nat.reduceAdd, Nat.reduceSub, Nat.reduceMul, Nat.reduceLeDiff, Nat.reduceEqDiff, Nat.reduceBEq, Int.reduceLE, Int.reduceLT, Int.reduceEq, Int.reduceNe, Int.reduceAdd, Int.reduceSub, Int.reduceToNat, Int.reduceNeg, ↓reduceIte, reduceCtorEq]
   exact KWk_bare (told_bare nx l e 0) ⟨told e, rfl⟩
 by_cases h_2 : k = 2
 ·simp only [h2, h_2, lay, iaddr_node, pnode, wk3, wk, Nat.reduceAdd, Nat.reduceSub, Nat.reduceMul, Nat.reduceLeDiff, Nat.reduceEqDiff, Nat.reduceBEq, Int.reduceLE, Int.reduceLT, Int.reduceEq, Int.reduceNe, Int.reduceAdd, Int.reduceSub, Int.reduceToNat, Int.reduceNeg, ↓reduceIte, reduceCtorEq]
  refine CT_ok (drop_spec (parts_loose p hp) d.files hd.files _) ?_
  rintro _ _ ⟨rfl, u, e, hu, rfl⟩
  by_cases he : e = 0
  ·simp only [aset, he, lay, iaddr_node, pnode, wk3, wk, Nat.reduceAdd, Nat.reduceSub, Nat.reduceMul, Nat.reduceLeDiff, Nat.reduceEqDiff, Nat.reduceBEq, Int.reduceLE, Int.reduceLT, Int.reduceEq, Int.reduceNe, Int.reduceAdd, Int.reduceSub, Int.reduceToNat, Int.reduceNeg, ↓reduceIte, reduceCtorEq]
   refine CT_ok (filesL l hl i u (by have := hu.len; omega) _) ?_
   rintro _ _ ⟨rfl, rfl⟩
   simp only [outA, asets, lay, iaddr_node, pnode, wk3, wk, Nat.reduceAdd, Nat.reduceSub, Nat.reduceMul, Nat.reduceLeDiff, Nat.reduceEqDiff, Nat.reduceBEq, Int.reduceLE, Int.reduceLT, Int.reduceEq, Int.reduceNe, Int.reduceAdd, Int.reduceSub, Int.reduceToNat, Int.reduceNeg, ↓reduceIte, reduceCtorEq]
   refine WT_drawE ?_
   refine WDT_more 0 ?_
   simp only [lay, iaddr_node, pnode, wk3, wk, Nat.reduceAdd, Nat.reduceSub, Nat.reduceMul, Nat.reduceLeDiff, Nat.reduceEqDiff, Nat.reduceBEq, Int.reduceLE, Int.reduceLT, Int.reduceEq, Int.reduceNe, Int.reduceAdd, Int.reduceSub, Int.reduceToNat, Int.reduceNeg, ↓reduceIte, reduceCtorEq]
   refine ⟨by omega, by rfl, ?_⟩
   exact KWk_bare (told_bare nx (filesA l i u).1 (filesA l i u).2 0) ⟨put u hu, rfl⟩
  ·simp only [aset, he, lay, iaddr_node, pnode, wk3, wk, Nat.reduceAdd, Nat.reduceSub, Nat.reduceMul, Nat.reduceLeDiff, Nat.reduceEqDiff, Nat.reduceBEq, Int.reduceLE, Int.reduceLT, Int.reduceEq, Int.reduceNe, Int.reduceAdd, Int.reduceSub, Int.reduceToNat, Int.reduceNeg, ↓reduceIte, reduceCtorEq]
   refine CT_ok (tells86 nx l e _) ?_
   rintro _ _ ⟨rfl, rfl⟩
   simp only [toldA, poolC, ansC, asets, lay, iaddr_node, pnode, wk3, wk, Nat.reduceAdd, Nat.reduceSub, Nat.reduceMul, Nat.reduceLeDiff, Nat.reduceEqDiff, Nat.reduceBEq, Int.reduceLE, Int.reduceLT, Int.reduceEq, Int.reduceNe, Int.reduceAdd, Int.reduceSub, Int.reduceToNat, Int.reduceNeg, ↓reduceIte, reduceCtorEq]
   exact KWk_bare (told_bare nx l e 0) ⟨told e, rfl⟩
 by_cases h_3 : k = 3
 ·simp only [h2, h_3, lay, iaddr_node, pnode, wk3, wk, Nat.reduceAdd, Nat.reduceSub, Nat.reduceMul, Nat.reduceLeDiff, Nat.reduceEqDiff, Nat.reduceBEq, Int.reduceLE, Int.reduceLT, Int.reduceEq, Int.reduceNe, Int.reduceAdd, Int.reduceSub, Int.reduceToNat, Int.reduceNeg, ↓reduceIte, reduceCtorEq]
  refine CT_ok (move_spec (parts_loose p hp) (parts_loose q hq) (fun _ h => h) d.files hd.files _) ?_
  rintro _ _ ⟨rfl, u, e, hu, rfl⟩
  by_cases he : e = 0
  ·simp only [aset, he, lay, iaddr_node, pnode, wk3, wk, Nat.reduceAdd, Nat.reduceSub, Nat.reduceMul, Nat.reduceLeDiff, Nat.reduceEqDiff, Nat.reduceBEq, Int.reduceLE, Int.reduceLT, Int.reduceEq, Int.reduceNe, Int.reduceAdd, Int.reduceSub, Int.reduceToNat, Int.reduceNeg, ↓reduceIte, reduceCtorEq]
   refine CT_ok (filesL l hl i u (by have := hu.len; omega) _) ?_
   rintro _ _ ⟨rfl, rfl⟩
   simp only [outA, asets, lay, iaddr_node, pnode, wk3, wk, Nat.reduceAdd, Nat.reduceSub, Nat.reduceMul, Nat.reduceLeDiff, Nat.reduceEqDiff, Nat.reduceBEq, Int.reduceLE, Int.reduceLT, Int.reduceEq, Int.reduceNe, Int.reduceAdd, Int.reduceSub, Int.reduceToNat, Int.reduceNeg, ↓reduceIte, reduceCtorEq]
   refine WT_drawE ?_
   refine WDT_more 0 ?_
   simp only [lay, iaddr_node, pnode, wk3, wk, Nat.reduceAdd, Nat.reduceSub, Nat.reduceMul, Nat.reduceLeDiff, Nat.reduceEqDiff, Nat.reduceBEq, Int.reduceLE, Int.reduceLT, Int.reduceEq, Int.reduceNe, Int.reduceAdd, Int.reduceSub, Int.reduceToNat, Int.reduceNeg, ↓reduceIte, reduceCtorEq]
   refine ⟨by omega, by rfl, ?_⟩
   exact KWk_bare (told_bare nx (filesA l i u).1 (filesA l i u).2 0) ⟨put u hu, rfl⟩
  ·simp only [aset, he, lay, iaddr_node, pnode, wk3, wk, Nat.reduceAdd, Nat.reduceSub, Nat.reduceMul, Nat.reduceLeDiff, Nat.reduceEqDiff, Nat.reduceBEq, Int.reduceLE, Int.reduceLT, Int.reduceEq, Int.reduceNe, Int.reduceAdd, Int.reduceSub, Int.reduceToNat, Int.reduceNeg, ↓reduceIte, reduceCtorEq]
   refine CT_ok (tells86 nx l e _) ?_
   rintro _ _ ⟨rfl, rfl⟩
   simp only [toldA, poolC, ansC, asets, lay, iaddr_node, pnode, wk3, wk, Nat.reduceAdd, Nat.reduceSub, Nat.reduceMul, Nat.reduceLeDiff, Nat.reduceEqDiff, Nat.reduceBEq, Int.reduceLE, Int.reduceLT, Int.reduceEq, Int.reduceNe, Int.reduceAdd, Int.reduceSub, Int.reduceToNat, Int.reduceNeg, ↓reduceIte, reduceCtorEq]
   exact KWk_bare (told_bare nx l e 0) ⟨told e, rfl⟩
 by_cases h_4 : k = 4
 ·simp only [h2, h_4, lay, iaddr_node, pnode, wk3, wk, Nat.reduceAdd, Nat.reduceSub, Nat.reduceMul, Nat.reduceLeDiff, Nat.reduceEqDiff, Nat.reduceBEq, Int.reduceLE, Int.reduceLT, Int.reduceEq, Int.reduceNe, Int.reduceAdd, Int.reduceSub, Int.reduceToNat, Int.reduceNeg, ↓reduceIte, reduceCtorEq]
  refine CT_ok (write_next (parts_loose p hp) d.files hd.files m t (by omega) _) ?_
  rintro _ _ ⟨rfl, u, e, hu, rfl⟩
  by_cases he : e = 0
  ·simp only [aset, he, lay, iaddr_node, pnode, wk3, wk, Nat.reduceAdd, Nat.reduceSub, Nat.reduceMul, Nat.reduceLeDiff, Nat.reduceEqDiff, Nat.reduceBEq, Int.reduceLE, Int.reduceLT, Int.reduceEq, Int.reduceNe, Int.reduceAdd, Int.reduceSub, Int.reduceToNat, Int.reduceNeg, ↓reduceIte, reduceCtorEq]
   refine CT_ok (filesL l hl i u (by have := hu.len; omega) _) ?_
   rintro _ _ ⟨rfl, rfl⟩
   simp only [outA, asets, lay, iaddr_node, pnode, wk3, wk, Nat.reduceAdd, Nat.reduceSub, Nat.reduceMul, Nat.reduceLeDiff, Nat.reduceEqDiff, Nat.reduceBEq, Int.reduceLE, Int.reduceLT, Int.reduceEq, Int.reduceNe, Int.reduceAdd, Int.reduceSub, Int.reduceToNat, Int.reduceNeg, ↓reduceIte, reduceCtorEq]
   refine WT_drawE ?_
   refine WDT_more 0 ?_
   simp only [lay, iaddr_node, pnode, wk3, wk, Nat.reduceAdd, Nat.reduceSub, Nat.reduceMul, Nat.reduceLeDiff, Nat.reduceEqDiff, Nat.reduceBEq, Int.reduceLE, Int.reduceLT, Int.reduceEq, Int.reduceNe, Int.reduceAdd, Int.reduceSub, Int.reduceToNat, Int.reduceNeg, ↓reduceIte, reduceCtorEq]
   refine ⟨by omega, by rfl, ?_⟩
   exact KWk_bare (told_bare nx (filesA l i u).1 (filesA l i u).2 0) ⟨put u hu, rfl⟩
  ·simp only [aset, he, lay, iaddr_node, pnode, wk3, wk, Nat.reduceAdd, Nat.reduceSub, Nat.reduceMul, Nat.reduceLeDiff, Nat.reduceEqDiff, Nat.reduceBEq, Int.reduceLE, Int.reduceLT, Int.reduceEq, Int.reduceNe, Int.reduceAdd, Int.reduceSub, Int.reduceToNat, Int.reduceNeg, ↓reduceIte, reduceCtorEq]
   refine CT_ok (tells86 nx l e _) ?_
   rintro _ _ ⟨rfl, rfl⟩
   simp only [toldA, poolC, ansC, asets, lay, iaddr_node, pnode, wk3, wk, Nat.reduceAdd, Nat.reduceSub, Nat.reduceMul, Nat.reduceLeDiff, Nat.reduceEqDiff, Nat.reduceBEq, Int.reduceLE, Int.reduceLT, Int.reduceEq, Int.reduceNe, Int.reduceAdd, Int.reduceSub, Int.reduceToNat, Int.reduceNeg, ↓reduceIte, reduceCtorEq]
   exact KWk_bare (told_bare nx l e 0) ⟨told e, rfl⟩
 have h_5 : k = 5 := by omega
 ·simp only [h2, h_1, h_2, h_3, h_4, h_5, lay, iaddr_node, pnode, wk3, wk, Nat.reduceAdd, Nat.reduceSub, Nat.reduceMul, Nat.reduceLeDiff, Nat.reduceEqDiff, Nat.reduceBEq, Int.reduceLE, Int.reduceLT, Int.reduceEq, Int.reduceNe, Int.reduceAdd, Int.reduceSub, Int.reduceToNat, Int.reduceNeg, ↓reduceIte, reduceCtorEq]
  refine CT_ok (cut_spec (parts_loose p hp) d.files hd.files m _) ?_
  rintro _ _ ⟨rfl, u, e, hu, rfl⟩
  by_cases he : e = 0
  ·simp only [aset, he, lay, iaddr_node, pnode, wk3, wk, Nat.reduceAdd, Nat.reduceSub, Nat.reduceMul, Nat.reduceLeDiff, Nat.reduceEqDiff, Nat.reduceBEq, Int.reduceLE, Int.reduceLT, Int.reduceEq, Int.reduceNe, Int.reduceAdd, Int.reduceSub, Int.reduceToNat, Int.reduceNeg, ↓reduceIte, reduceCtorEq]
   refine CT_ok (filesL l hl i u (by have := hu.len; omega) _) ?_
   rintro _ _ ⟨rfl, rfl⟩
   simp only [outA, asets, lay, iaddr_node, pnode, wk3, wk, Nat.reduceAdd, Nat.reduceSub, Nat.reduceMul, Nat.reduceLeDiff, Nat.reduceEqDiff, Nat.reduceBEq, Int.reduceLE, Int.reduceLT, Int.reduceEq, Int.reduceNe, Int.reduceAdd, Int.reduceSub, Int.reduceToNat, Int.reduceNeg, ↓reduceIte, reduceCtorEq]
   refine WT_drawE ?_
   refine WDT_more 0 ?_
   simp only [lay, iaddr_node, pnode, wk3, wk, Nat.reduceAdd, Nat.reduceSub, Nat.reduceMul, Nat.reduceLeDiff, Nat.reduceEqDiff, Nat.reduceBEq, Int.reduceLE, Int.reduceLT, Int.reduceEq, Int.reduceNe, Int.reduceAdd, Int.reduceSub, Int.reduceToNat, Int.reduceNeg, ↓reduceIte, reduceCtorEq]
   refine ⟨by omega, by rfl, ?_⟩
   exact KWk_bare (told_bare nx (filesA l i u).1 (filesA l i u).2 0) ⟨put u hu, rfl⟩
  ·simp only [aset, he, lay, iaddr_node, pnode, wk3, wk, Nat.reduceAdd, Nat.reduceSub, Nat.reduceMul, Nat.reduceLeDiff, Nat.reduceEqDiff, Nat.reduceBEq, Int.reduceLE, Int.reduceLT, Int.reduceEq, Int.reduceNe, Int.reduceAdd, Int.reduceSub, Int.reduceToNat, Int.reduceNeg, ↓reduceIte, reduceCtorEq]
   refine CT_ok (tells86 nx l e _) ?_
   rintro _ _ ⟨rfl, rfl⟩
   simp only [toldA, poolC, ansC, asets, lay, iaddr_node, pnode, wk3, wk, Nat.reduceAdd, Nat.reduceSub, Nat.reduceMul, Nat.reduceLeDiff, Nat.reduceEqDiff, Nat.reduceBEq, Int.reduceLE, Int.reduceLT, Int.reduceEq, Int.reduceNe, Int.reduceAdd, Int.reduceSub, Int.reduceToNat, Int.reduceNeg, ↓reduceIte, reduceCtorEq]
   exact KWk_bare (told_bare nx l e 0) ⟨told e, rfl⟩
end Go.Proofs.YtemjlopoffjmpaaGreat.Abs
set_option linter.unusedSimpArgs false
set_option linter.unusedVariables false
namespace Go.Proofs.YtemjlopoffjmpaaGreat.Abs
open Go Go.Proofs
theorem index50G (l : List Dset) (hl : l.length ≤ 1000000) (R : AH) (g : FuncId) (cap : List AV) (p : Dset → Bool)
 (hf : ∀ d, C Tryz.prog g (AV.agg (cellD d) :: cap) (some (l.map cellD) :: R) (fun x H' => x = .bool (p d) ∧ H' = some (l.map cellD) :: R)) :
 C Tryz.prog 50 [.own 0 5 0 l.length l.length, .fn (.func g) [] cap] (some (l.map cellD) :: R) (fun x H' => x = .int .i64 (idxA p l) ∧ H' = some (l.map cellD) :: R) := by
 refine C_body d50 rfl (WT_ok ?_)
 unfold c50
 simp only [wk, iaddrV_map, Nat.reduceAdd, Nat.reduceSub, Nat.reduceMul, Nat.reduceLeDiff, Nat.reduceEqDiff, Nat.reduceBEq, Int.reduceLE, Int.reduceLT, Int.reduceEq, Int.reduceNe, Int.reduceAdd, Int.reduceSub, Int.reduceToNat, Int.reduceNeg, ↓reduceIte, reduceCtorEq]
 refine WT_loop (W_wk (fr' := [.own 0 5 0 l.length l.length, .fn (.func g) [] cap, .top, .top, .int .i64 0, .top, .own 0 5 0 l.length l.length, .int .i64 l.length, .int .i64 0] ++ List.replicate 10 .top) (Wk_tops ?_) (W_loop (fun n fr H' => ∃ k : Nat, k ≤ l.length ∧ n = l.length - k ∧ (∀ j, j < k → p (l.getD j default) = false) ∧ H' = some (l.map cellD) :: R ∧ fr = [.own 0 5 0 l.length l.length, .fn (.func g) [] cap, .top, .top, .int .i64 0, .top, .own 0 5 0 l.length l.length, .int .i64 l.length, .int .i64 k] ++ List.replicate 10 .top) l.length ⟨0, by omega, rfl, fun j hj => by omega, rfl, rfl⟩ ?_))
 ·simp only [List.replicate_succ, List.replicate_zero, List.cons_append, List.nil_append, Tops_top, Tops_same, Tops_nil]
 rintro n fr H' ⟨k, hk, rfl, hne, rfl, rfl⟩
 refine WT_ok ?_
 simp only [lay, wk, iaddrV_map, Nat.reduceAdd, Nat.reduceSub, Nat.reduceMul, Nat.reduceLeDiff, Nat.reduceEqDiff, Nat.reduceBEq, Int.reduceLE, Int.reduceLT, Int.reduceEq, Int.reduceNe, Int.reduceAdd, Int.reduceSub, Int.reduceToNat, Int.reduceNeg, ↓reduceIte, reduceCtorEq]
 refine guard_both ?_ ?_ <;> intro h <;> simp only [hy] at h
 ·have hk2 : k < l.length := by omega
  have hc := cell_at hk2
  have w2 : IntKind.i64.wrap ((k : Int) + 1) = (k : Int) + 1 := IntWalk.i64_in _ (by omega)
  have h0 : (0 : Int) ≤ k := by omega
  have h5 : (cellD (l.getD k default)).take 5 = cellD (l.getD k default) := rfl
  have h6 : 5 ≤ (cellD (l.getD k default)).length := Nat.le_refl 5
  have hfk := hf (l.getD k default)
  simp only [h, h0, hc, h5, h6, lay, RT_calld, wk, iaddrV_map, Nat.reduceAdd, Nat.reduceSub, Nat.reduceMul, Nat.reduceLeDiff, Nat.reduceEqDiff, Nat.reduceBEq, Int.reduceLE, Int.reduceLT, Int.reduceEq, Int.reduceNe, Int.reduceAdd, Int.reduceSub, Int.reduceToNat, Int.reduceNeg, ↓reduceIte, reduceCtorEq]
  refine ⟨_, _, _, rfl, hfk.mono ?_⟩
  rintro _ _ ⟨rfl, rfl⟩
  cases hp : p (l.getD k default)
  ·simp only [w2, wk, iaddrV_map, Nat.reduceAdd, Nat.reduceSub, Nat.reduceMul, Nat.reduceLeDiff, Nat.reduceEqDiff, Nat.reduceBEq, Int.reduceLE, Int.reduceLT, Int.reduceEq, Int.reduceNe, Int.reduceAdd, Int.reduceSub, Int.reduceToNat, Int.reduceNeg, ↓reduceIte, reduceCtorEq]
   refine QLoop_go (n' := l.length - (k + 1)) (by omega) ⟨k + 1, by omega, rfl, fun j hj => ?_, rfl, rfl⟩ ?_
   ·rcases Nat.lt_or_ge j k with h' | h'
    ·exact hne j h'
    ·have : j = k := by omega
     subst this; exact hp
   ·simp only [List.replicate_succ, List.replicate_zero, List.cons_append, List.nil_append, Tops_top, Tops_same, Tops_nil, Int.natCast_add, Int.natCast_one]
  ·simp only [wk, iaddrV_map, Nat.reduceAdd, Nat.reduceSub, Nat.reduceMul, Nat.reduceLeDiff, Nat.reduceEqDiff, Nat.reduceBEq, Int.reduceLE, Int.reduceLT, Int.reduceEq, Int.reduceNe, Int.reduceAdd, Int.reduceSub, Int.reduceToNat, Int.reduceNeg, ↓reduceIte, reduceCtorEq]
   rw [idxA_some hk2 hp hne]
 ·simp only [h, wk, iaddrV_map, Nat.reduceAdd, Nat.reduceSub, Nat.reduceMul, Nat.reduceLeDiff, Nat.reduceEqDiff, Nat.reduceBEq, Int.reduceLE, Int.reduceLT, Int.reduceEq, Int.reduceNe, Int.reduceAdd, Int.reduceSub, Int.reduceToNat, Int.reduceNeg, ↓reduceIte, reduceCtorEq]
  rw [idxA_none fun j hj => hne j (by omega)]
theorem isId51_L (d : Dset) (i : Int) (l : List Dset) (o : Option AObj) : C Tryz.prog 51 [.agg (cellD d), .ptr 1 0 0 1] [some (l.map cellD), some [[.int .i64 i]]] (fun x H' => x = .bool (decide (d.id = i)) ∧ H' = [some (l.map cellD), some [[.int .i64 i]]]) :=
 C_call [1] (by simp) (by simp) (by simpa [renL, ren, toCallee, renO, cellD, aset, AH.at] using isId44 d i) (by rintro _ _ ⟨rfl, rfl⟩; exact ⟨Nat.le_refl _, by simp [ren], by simp [back, setAll, renO, renL, ren]⟩)
theorem index_put (l : List Dset) (hl : l.length ≤ 1000000) (i : Int) (R : AH) : C Tryz.prog 50 [.own 1 5 0 l.length l.length, .fn (.func 51) [] [.ptr 0 0 0 1]] (some [[.int .i64 i]] :: some (l.map cellD) :: R) (fun x H' => x = .int .i64 (findA l i) ∧ H' = some [[.int .i64 i]] :: some (l.map cellD) :: R) :=
 C_call [1, 0] (by simp) (by simp) (K0 := fun x H' => x = .int .i64 (idxA (fun d => decide (d.id = i)) l) ∧ H' = [some (l.map cellD), some [[.int .i64 i]]])
  (by simpa [renL, ren, toCallee, renO_cells, renO_box, AH.at, show List.idxOf? 0 [1, 0] = some 1 from rfl, show List.idxOf? 1 [1, 0] = some 0 from rfl] using index50G l hl [some [[.int .i64 i]]] 51 [.ptr 1 0 0 1] (fun d => decide (d.id = i)) (fun d => isId51_L d i l none))
  (by rintro _ _ ⟨rfl, rfl⟩; exact ⟨Nat.le_refl _, by simp [ren, findA], by simp [back, setAll, renO_cells, renO_box]⟩)
theorem put16_0 (l : List Dset) (hl : Short l) (i : Int) (t : List Node) (ht : t.length ≤ 1000000) :
 C Tryz.prog 16 [asets l, .int .i64 i, aset t] [] (fun y H' => y = outA (filesA l i t) ∧ H' = []) := by
 have hl1 := hl.1
 refine C_body' d16 rfl (WT_ok ?_)
 unfold c16
 simp only [lay, wk3, wk, iaddrV_map, Nat.reduceAdd, Nat.reduceSub, Nat.reduceMul, Nat.reduceLeDiff, Nat.reduceEqDiff, Nat.reduceBEq, Int.reduceLE, Int.reduceLT, Int.reduceEq, Int.reduceNe, Int.reduceAdd, Int.reduceSub, Int.reduceToNat, Int.reduceNeg, ↓reduceIte, reduceCtorEq]
 refine CT_ok (cloneL l hl1 _) ?_
 rintro _ _ ⟨rfl, rfl⟩
 simp only [asets, aset, lay, wk3, wk, iaddrV_map, Nat.reduceAdd, Nat.reduceSub, Nat.reduceMul, Nat.reduceLeDiff, Nat.reduceEqDiff, Nat.reduceBEq, Int.reduceLE, Int.reduceLT, Int.reduceEq, Int.reduceNe, Int.reduceAdd, Int.reduceSub, Int.reduceToNat, Int.reduceNeg, ↓reduceIte, reduceCtorEq]
 refine WT_loop (W_wk (fr' := [asets l, .int .i64 i, aset t, .top, .ptr 0 0 0 1, .top, .emp, .int .i64 0, .own 1 5 0 l.length l.length, .top, .top, .top, .top, .top, .top, .top, .top, .int .i64 l.length, .int .i64 0] ++ List.replicate 58 .top) (Wk_tops ?_) (W_loop (fun n fr H' => ∃ k : Nat, k ≤ l.length ∧ n = l.length - k ∧ H' = [some [[.int .i64 i]], some (l.map cellD)] ∧ fr = [asets l, .int .i64 i, aset t, .top, .ptr 0 0 0 1, .top, .emp, .int .i64 0, .own 1 5 0 l.length l.length, .top, .top, .top, .top, .top, .top, .top, .top, .int .i64 l.length, .int .i64 k] ++ List.replicate 58 .top) l.length ⟨0, by omega, rfl, rfl, rfl⟩ ?_))
 ·simp only [asets, aset, List.replicate_succ, List.replicate_zero, List.cons_append, List.nil_append, Tops_top, Tops_same, Tops_nil]
 rintro n fr H' ⟨k, hk, rfl, rfl, rfl⟩
 refine WT_ok ?_
 simp only [asets, aset, lay, wk3, wk, iaddrV_map, Nat.reduceAdd, Nat.reduceSub, Nat.reduceMul, Nat.reduceLeDiff, Nat.reduceEqDiff, Nat.reduceBEq, Int.reduceLE, Int.reduceLT, Int.reduceEq, Int.reduceNe, Int.reduceAdd, Int.reduceSub, Int.reduceToNat, Int.reduceNeg, ↓reduceIte, reduceCtorEq]
 refine guard_both ?_ ?_ <;> intro h <;> simp only [hy] at h
 ·have hk2 : k < l.length := by omega
  have hc := cell_at hk2
  have hs := cell_same hk2
  have w2 : IntKind.i64.wrap ((k : Int) + 1) = (k : Int) + 1 := IntWalk.i64_in _ (by omega)
  have h0 : (0 : Int) ≤ k := by omega
  have hf := hl.get hk2
  generalize l.getD k default = d at hc hs hf
  simp only [h, h0, hc, cellD, aset, lay, wk3, wk, iaddrV_map, Nat.reduceAdd, Nat.reduceSub, Nat.reduceMul, Nat.reduceLeDiff, Nat.reduceEqDiff, Nat.reduceBEq, Int.reduceLE, Int.reduceLT, Int.reduceEq, Int.reduceNe, Int.reduceAdd, Int.reduceSub, Int.reduceToNat, Int.reduceNeg, ↓reduceIte, reduceCtorEq]
  refine CT_ok (cloneF d.files hf _) ?_
  rintro _ _ ⟨rfl, rfl⟩
  simp only [cellD, aset] at hs
  simp only [h, h0, hc, hs, cellD, w2, aset, lay, wk3, wk, iaddrV_map, Nat.reduceAdd, Nat.reduceSub, Nat.reduceMul, Nat.reduceLeDiff, Nat.reduceEqDiff, Nat.reduceBEq, Int.reduceLE, Int.reduceLT, Int.reduceEq, Int.reduceNe, Int.reduceAdd, Int.reduceSub, Int.reduceToNat, Int.reduceNeg, ↓reduceIte, reduceCtorEq]
  refine QLoop_go (n' := l.length - (k + 1)) (by omega) ⟨k + 1, by omega, rfl, rfl, rfl⟩ ?_
  simp only [asets, aset, List.replicate_succ, List.replicate_zero, List.cons_append, List.nil_append, Tops_top, Tops_same, Tops_nil, Int.natCast_add, Int.natCast_one]
 simp only [h, wk3, wk, iaddrV_map, Nat.reduceAdd, Nat.reduceSub, Nat.reduceMul, Nat.reduceLeDiff, Nat.reduceEqDiff, Nat.reduceBEq, Int.reduceLE, Int.reduceLT, Int.reduceEq, Int.reduceNe, Int.reduceAdd, Int.reduceSub, Int.reduceToNat, Int.reduceNeg, ↓reduceIte, reduceCtorEq]
 refine CT_ok (getL l hl i _) ?_
 rintro _ _ ⟨rfl, rfl⟩
 have out : ∀ (o : AObj) (e : Int), KWk 0 (fun y H' => y = outA (l, e) ∧ H' = []) (.tuple [.own 1 5 0 l.length l.length, .int .i64 e]) [some [[.int .i64 i]], some (l.map cellD), some o] := fun o e =>
  KWk_sets 1 l e _ rfl rfl ⟨rfl, rfl⟩
 cases hg : getA l i with
 | none =>
   have e : filesA l i t = (l, 2) := by unfold filesA; rw [hg]
   rw [e]
   simp only [getV, lay, wk3, wk, iaddrV_map, Nat.reduceAdd, Nat.reduceSub, Nat.reduceMul, Nat.reduceLeDiff, Nat.reduceEqDiff, Nat.reduceBEq, Int.reduceLE, Int.reduceLT, Int.reduceEq, Int.reduceNe, Int.reduceAdd, Int.reduceSub, Int.reduceToNat, Int.reduceNeg, ↓reduceIte, reduceCtorEq]
   refine CT_ok (Used_spec t ht _) ?_
   rintro _ _ ⟨rfl, rfl⟩
   simp only [lay, wk3, wk, iaddrV_map, Nat.reduceAdd, Nat.reduceSub, Nat.reduceMul, Nat.reduceLeDiff, Nat.reduceEqDiff, Nat.reduceBEq, Int.reduceLE, Int.reduceLT, Int.reduceEq, Int.reduceNe, Int.reduceAdd, Int.reduceSub, Int.reduceToNat, Int.reduceNeg, ↓reduceIte, reduceCtorEq]
   exact out _ _
 | some d =>
   have hd := hl.2 d (getA_mem hg).1
   by_cases h2 : d.kind = 2
   ·have e : filesA l i t = (l, 11) := by unfold filesA; rw [hg]; exact if_pos h2
    rw [e]
    simp only [getV, h2, cellD, aset, lay, wk3, wk, iaddrV_map, Nat.reduceAdd, Nat.reduceSub, Nat.reduceMul, Nat.reduceLeDiff, Nat.reduceEqDiff, Nat.reduceBEq, Int.reduceLE, Int.reduceLT, Int.reduceEq, Int.reduceNe, Int.reduceAdd, Int.reduceSub, Int.reduceToNat, Int.reduceNeg, ↓reduceIte, reduceCtorEq]
    refine CT_ok (Used_spec t ht _) ?_
    rintro _ _ ⟨rfl, rfl⟩
    simp only [h2, lay, wk3, wk, iaddrV_map, Nat.reduceAdd, Nat.reduceSub, Nat.reduceMul, Nat.reduceLeDiff, Nat.reduceEqDiff, Nat.reduceBEq, Int.reduceLE, Int.reduceLT, Int.reduceEq, Int.reduceNe, Int.reduceAdd, Int.reduceSub, Int.reduceToNat, Int.reduceNeg, ↓reduceIte, reduceCtorEq]
    exact out _ _
   have hB : filesA l i t = if 0 < d.quota ∧ d.quota < used t ∧ used d.files < used t then (l, 9) else (l.set (findA l i).toNat { d with files := t }, 0) := by
    unfold filesA; rw [hg]; exact if_neg h2
   obtain ⟨k, ek, hk, hdk⟩ : ∃ k : Nat, findA l i = k ∧ k < l.length ∧ l.getD k default = d := by
    unfold getA at hg
    rcases find_of (l := l) (i := i) with ⟨e, _⟩ | ⟨k, e, hk, _, _⟩
    ·rw [e] at hg; cases hg
    ·rw [e, if_pos (by omega), Int.toNat_natCast] at hg
     exact ⟨k, e, hk, Option.some.inj hg⟩
   rw [ek, Int.toNat_natCast] at hB
   have hc : (l.map cellD)[k]? = some (cellD d) := by rw [cell_at hk, hdk]
   have hsw := set_cellD l k { d with files := t }
   have fin : KWk 0 (fun y H' => y = outA (l.set k { d with files := t }, 0) ∧ H' = []) (.tuple [.own 1 5 0 l.length l.length, .int .i64 0]) [some [[.int .i64 i]], some ((l.map cellD).set k (cellD { d with files := t })), some [cellD d]] :=
    KWk_sets 1 (l.set k { d with files := t }) 0 _ (by simp) (by rw [hsw]; rfl) ⟨rfl, rfl⟩
   have k0 : (0 : Int) ≤ k := by omega
   have k1 : (k : Int) < l.length := by omega
   simp only [cellD, aset] at hc fin
   simp only [getV, cellD, aset, lay, wk3, wk, iaddrV_map, Nat.reduceAdd, Nat.reduceSub, Nat.reduceMul, Nat.reduceLeDiff, Nat.reduceEqDiff, Nat.reduceBEq, Int.reduceLE, Int.reduceLT, Int.reduceEq, Int.reduceNe, Int.reduceAdd, Int.reduceSub, Int.reduceToNat, Int.reduceNeg, ↓reduceIte, reduceCtorEq]
   refine CT_ok (Used_spec t ht _) ?_
   rintro _ _ ⟨rfl, rfl⟩
   simp only [h2, lay, wk3, wk, iaddrV_map, Nat.reduceAdd, Nat.reduceSub, Nat.reduceMul, Nat.reduceLeDiff, Nat.reduceEqDiff, Nat.reduceBEq, Int.reduceLE, Int.reduceLT, Int.reduceEq, Int.reduceNe, Int.reduceAdd, Int.reduceSub, Int.reduceToNat, Int.reduceNeg, ↓reduceIte, reduceCtorEq]
   by_cases h3 : 0 < d.quota
   case neg =>
    rw [if_neg (fun h => h3 h.1)] at hB
    rw [hB]
    simp only [h3, lay, wk3, wk, iaddrV_map, Nat.reduceAdd, Nat.reduceSub, Nat.reduceMul, Nat.reduceLeDiff, Nat.reduceEqDiff, Nat.reduceBEq, Int.reduceLE, Int.reduceLT, Int.reduceEq, Int.reduceNe, Int.reduceAdd, Int.reduceSub, Int.reduceToNat, Int.reduceNeg, ↓reduceIte, reduceCtorEq]
    refine CT_ok (index_put l hl1 i _) ?_
    rintro _ _ ⟨rfl, rfl⟩
    simp only [ek, lay, wk3, wk, iaddrV_map, Nat.reduceAdd, Nat.reduceSub, Nat.reduceMul, Nat.reduceLeDiff, Nat.reduceEqDiff, Nat.reduceBEq, Int.reduceLE, Int.reduceLT, Int.reduceEq, Int.reduceNe, Int.reduceAdd, Int.reduceSub, Int.reduceToNat, Int.reduceNeg, ↓reduceIte, reduceCtorEq]
    refine CT_ok (cloneF t ht _) ?_
    rintro _ _ ⟨rfl, rfl⟩
    simp only [k0, k1, hc, aset, lay, wk3, wk, iaddrV_map, Nat.reduceAdd, Nat.reduceSub, Nat.reduceMul, Nat.reduceLeDiff, Nat.reduceEqDiff, Nat.reduceBEq, Int.reduceLE, Int.reduceLT, Int.reduceEq, Int.reduceNe, Int.reduceAdd, Int.reduceSub, Int.reduceToNat, Int.reduceNeg, ↓reduceIte, reduceCtorEq]
    exact fin
   by_cases h4 : d.quota < (used t : Int)
   case neg =>
    rw [if_neg (fun h => h4 h.2.1)] at hB
    rw [hB]
    simp only [h3, h4, lay, wk3, wk, iaddrV_map, Nat.reduceAdd, Nat.reduceSub, Nat.reduceMul, Nat.reduceLeDiff, Nat.reduceEqDiff, Nat.reduceBEq, Int.reduceLE, Int.reduceLT, Int.reduceEq, Int.reduceNe, Int.reduceAdd, Int.reduceSub, Int.reduceToNat, Int.reduceNeg, ↓reduceIte, reduceCtorEq]
    refine CT_ok (index_put l hl1 i _) ?_
    rintro _ _ ⟨rfl, rfl⟩
    simp only [ek, lay, wk3, wk, iaddrV_map, Nat.reduceAdd, Nat.reduceSub, Nat.reduceMul, Nat.reduceLeDiff, Nat.reduceEqDiff, Nat.reduceBEq, Int.reduceLE, Int.reduceLT, Int.reduceEq, Int.reduceNe, Int.reduceAdd, Int.reduceSub, Int.reduceToNat, Int.reduceNeg, ↓reduceIte, reduceCtorEq]
    refine CT_ok (cloneF t ht _) ?_
    rintro _ _ ⟨rfl, rfl⟩
    simp only [k0, k1, hc, aset, lay, wk3, wk, iaddrV_map, Nat.reduceAdd, Nat.reduceSub, Nat.reduceMul, Nat.reduceLeDiff, Nat.reduceEqDiff, Nat.reduceBEq, Int.reduceLE, Int.reduceLT, Int.reduceEq, Int.reduceNe, Int.reduceAdd, Int.reduceSub, Int.reduceToNat, Int.reduceNeg, ↓reduceIte, reduceCtorEq]
    exact fin
   simp only [h3, h4, lay, wk3, wk, iaddrV_map, Nat.reduceAdd, Nat.reduceSub, Nat.reduceMul, Nat.reduceLeDiff, Nat.reduceEqDiff, Nat.reduceBEq, Int.reduceLE, Int.reduceLT, Int.reduceEq, Int.reduceNe, Int.reduceAdd, Int.reduceSub, Int.reduceToNat, Int.reduceNeg, ↓reduceIte, reduceCtorEq]
   refine CT_ok (Used_spec d.files hd _) ?_
   rintro _ _ ⟨rfl, rfl⟩
   by_cases h5 : (used d.files : Int) < (used t : Int)
   case neg =>
    rw [if_neg (fun h => h5 (by omega))] at hB
    rw [hB]
    simp only [h5, lay, wk3, wk, iaddrV_map, Nat.reduceAdd, Nat.reduceSub, Nat.reduceMul, Nat.reduceLeDiff, Nat.reduceEqDiff, Nat.reduceBEq, Int.reduceLE, Int.reduceLT, Int.reduceEq, Int.reduceNe, Int.reduceAdd, Int.reduceSub, Int.reduceToNat, Int.reduceNeg, ↓reduceIte, reduceCtorEq]
    refine CT_ok (index_put l hl1 i _) ?_
    rintro _ _ ⟨rfl, rfl⟩
    simp only [ek, lay, wk3, wk, iaddrV_map, Nat.reduceAdd, Nat.reduceSub, Nat.reduceMul, Nat.reduceLeDiff, Nat.reduceEqDiff, Nat.reduceBEq, Int.reduceLE, Int.reduceLT, Int.reduceEq, Int.reduceNe, Int.reduceAdd, Int.reduceSub, Int.reduceToNat, Int.reduceNeg, ↓reduceIte, reduceCtorEq]
    refine CT_ok (cloneF t ht _) ?_
    rintro _ _ ⟨rfl, rfl⟩
    simp only [k0, k1, hc, aset, lay, wk3, wk, iaddrV_map, Nat.reduceAdd, Nat.reduceSub, Nat.reduceMul, Nat.reduceLeDiff, Nat.reduceEqDiff, Nat.reduceBEq, Int.reduceLE, Int.reduceLT, Int.reduceEq, Int.reduceNe, Int.reduceAdd, Int.reduceSub, Int.reduceToNat, Int.reduceNeg, ↓reduceIte, reduceCtorEq]
    exact fin
   rw [if_pos ⟨h3, h4, by omega⟩] at hB
   rw [hB]
   simp only [h5, lay, wk3, wk, iaddrV_map, Nat.reduceAdd, Nat.reduceSub, Nat.reduceMul, Nat.reduceLeDiff, Nat.reduceEqDiff, Nat.reduceBEq, Int.reduceLE, Int.reduceLT, Int.reduceEq, Int.reduceNe, Int.reduceAdd, Int.reduceSub, Int.reduceToNat, Int.reduceNeg, ↓reduceIte, reduceCtorEq]
   exact out _ _
theorem put16 (l : List Dset) (hl : Short l) (i : Int) (t : List Node) (ht : t.length ≤ 1000000) (H : AH) :
 C Tryz.prog 16 [asets l, .int .i64 i, aset t] H (fun y H' => y = outA (filesA l i t) ∧ H' = H) :=
 C_any (put16_0 l hl i t ht) (by simp [bareL, bare, asets, aset]) (outA_bare _) H
end Go.Proofs.YtemjlopoffjmpaaGreat.Abs
namespace Go.Proofs.YtemjlopoffjmpaaGreat.Abs
open Go
def c14 : ACode :=
 (.seq (.reg [⟨some 4, none, .mv (.c (.emp))⟩])
 (.seq (.reg [⟨some 9, none, .build [.int .i64 0, .int .i64 0, .int .i64 0, .int .i64 0, .int .i64 0, .int .u32 0, .int .u32 0, .int .u32 0, .int .u32 0, .int .i64 0, .int .i64 0, .int .u32 0, .int .u32 0, .int .u32 0, .int .u32 0, .int .i64 0, .int .i64 0, .int .u32 0, .int .u32 0, .int .u32 0, .int .u32 0, .int .i64 0] [(1, 1, (.c (.int .i64 2)))]⟩,
  ⟨some 10, none, .call 34 []⟩,
  ⟨some 11, none, .build [.int .i64 0, .int .i64 0, .int .i64 0, .int .i64 0, .emp] [(0, 1, (.c (.int .i64 1))), (1, 1, (.c (.int .i64 1))), (4, 1, (.t 10))]⟩,
  ⟨some 12, none, .bslice 5 1 [.int .i64 0, .int .i64 0, .int .i64 0, .int .i64 0, .emp] [(0, (.t 11))]⟩,
  ⟨some 13, none, .build [.emp, .emp, .int .i64 0, .int .i64 0, .bool false, .int .i64 0, .int .i64 0, .int .u32 0, .int .u32 0, .int .u32 0, .int .u32 0, .int .i64 0, .int .i64 0, .int .i64 0, .int .i64 0, .int .i64 0, .int .u32 0, .int .u32 0, .int .u32 0, .int .u32 0, .int .i64 0, .int .i64 0, .int .u32 0, .int .u32 0, .int .u32 0, .int .u32 0, .int .i64 0, .int .i64 0, .int .u32 0, .int .u32 0, .int .u32 0, .int .u32 0, .int .i64 0, .emp, .emp, .emp, .emp, .int .i64 0, .int .i64 0, .emp, .bool false] [(11, 22, (.t 9)), (39, 1, (.t 12))]⟩,
  ⟨some 5, none, .alloc [.emp, .emp, .int .i64 0, .int .i64 0, .bool false, .int .i64 0, .int .i64 0, .int .u32 0, .int .u32 0, .int .u32 0, .int .u32 0, .int .i64 0, .int .i64 0, .int .i64 0, .int .i64 0, .int .i64 0, .int .u32 0, .int .u32 0, .int .u32 0, .int .u32 0, .int .i64 0, .int .i64 0, .int .u32 0, .int .u32 0, .int .u32 0, .int .u32 0, .int .i64 0, .int .i64 0, .int .u32 0, .int .u32 0, .int .u32 0, .int .u32 0, .int .i64 0, .emp, .emp, .emp, .emp, .int .i64 0, .int .i64 0, .emp, .bool false]⟩,
  ⟨none, none, .store 41 (.t 5) (.t 13)⟩])
 (.seq (.seq (.reg [⟨some 6, none, .mv (.c (.int .i64 0))⟩])
 (.block 0
 (.loop
 (.seq (.seq (.reg [⟨some 14, none, .mv (.t 6)⟩,
  ⟨some 15, none, .mv (.t 1)⟩,
  ⟨some 16, none, .bini .lss (.t 14) (.t 15)⟩,
  ⟨some 17, none, .mv (.t 16)⟩,
  ⟨some 18, (some (17, true)), .mv (.t 0)⟩,
  ⟨some 19, (some (17, true)), .call 43 [(.t 18)]⟩,
  ⟨some 20, (some (17, true)), .un .not (.t 19)⟩,
  ⟨some 21, none, .pick (.t 17) (.t 20) (.c (.bool false))⟩])
 (.cond (.t 21)
 .skip
 (.exit 0)))
 (.seq (.block 1
 (.seq (.reg [⟨some 24, none, .mv (.t 0)⟩,
  ⟨some 25, none, .call 44 [(.t 24), (.c (.int .i64 8))]⟩,
  ⟨some 26, none, .bini .add (.c (.int .i64 1)) (.t 25)⟩,
  ⟨some 7, none, .mv (.t 26)⟩])
 (.seq (.reg [⟨some 27, none, .mv (.t 0)⟩,
  ⟨some 28, none, .mv (.t 7)⟩,
  ⟨some 29, none, .call 45 [(.t 27), (.t 28)]⟩,
  ⟨some 8, none, .alloc [.int .i64 0, .int .i64 0, .int .i64 0, .int .i64 0, .int .i64 0, .str [], .str [], .str [], .emp]⟩,
  ⟨none, none, .store 9 (.t 8) (.t 29)⟩])
 (.seq (.seq (.reg [⟨some 30, none, .mv (.t 0)⟩,
  ⟨some 31, none, .call 44 [(.t 30), (.c (.int .i64 3))]⟩,
  ⟨some 32, none, .bini .gtr (.t 31) (.c (.int .i64 0))⟩])
 (.cond (.t 32)
 (.reg [⟨some 33, none, .mv (.t 0)⟩,
  ⟨some 34, none, .mv (.t 7)⟩,
  ⟨some 35, none, .call 46 [(.t 33), (.t 34)]⟩,
  ⟨none, none, .store 9 (.t 8) (.t 35)⟩])
 .skip))
 (.reg [⟨some 37, none, .load true 41 (.t 5)⟩,
  ⟨some 38, none, .load true 9 (.t 8)⟩,
  ⟨some 39, none, .call 47 [(.t 37), (.t 38)]⟩,
  ⟨some 36, none, .mv (.t 39)⟩,
  ⟨some 40, none, .ext (.t 36) 0⟩,
  ⟨some 41, none, .ext (.t 36) 1⟩,
  ⟨none, none, .store 41 (.t 5) (.t 40)⟩])))))
 (.reg [⟨some 22, none, .mv (.t 6)⟩,
  ⟨some 23, none, .bini .add (.t 22) (.c (.int .i64 1))⟩,
  ⟨some 6, none, .mv (.t 23)⟩]))))))
 (.seq (.reg [⟨some 42, none, .faddr 39 (.t 5)⟩,
  ⟨some 43, none, .load false 1 (.t 42)⟩,
  ⟨some 4, none, .mv (.t 43)⟩])
 .ret))))
theorem d14 : FnD Tryz.prog 14 2 42 [.tmp 4] c14 := ⟨Tryz.f14, _, Tryz.func14, by kernel_rfl, rfl, rfl, by kernel_rfl, by kernel_rfl⟩
end Go.Proofs.YtemjlopoffjmpaaGreat.Abs
namespace Go.Proofs.YtemjlopoffjmpaaGreat.Abs
open Go
def c47 : ACode :=
 (.seq (.reg [⟨some 2, none, .box (.t 0)⟩,
  ⟨some 3, none, .box (.t 1)⟩,
  ⟨some 4, none, .alloc [.emp, .emp, .int .i64 0, .int .i64 0, .bool false, .int .i64 0, .int .i64 0, .int .u32 0, .int .u32 0, .int .u32 0, .int .u32 0, .int .i64 0, .int .i64 0, .int .i64 0, .int .i64 0, .int .i64 0, .int .u32 0, .int .u32 0, .int .u32 0, .int .u32 0, .int .i64 0, .int .i64 0, .int .u32 0, .int .u32 0, .int .u32 0, .int .u32 0, .int .i64 0, .int .i64 0, .int .u32 0, .int .u32 0, .int .u32 0, .int .u32 0, .int .i64 0, .emp, .emp, .emp, .emp, .int .i64 0, .int .i64 0, .emp, .bool false]⟩,
  ⟨some 5, none, .alloc [.int .i64 0, .str [], .int .i64 0, .int .i64 0, .int .i64 0, .int .i64 0, .emp, .int .i64 0]⟩])
 (.seq (.seq (.reg [⟨some 9, none, .faddr 0 (.t 3)⟩,
  ⟨some 10, none, .load false 1 (.t 9)⟩,
  ⟨some 11, none, .bini .lss (.t 10) (.c (.int .i64 1))⟩,
  ⟨some 12, none, .mv (.t 11)⟩,
  ⟨some 13, (some (12, false)), .faddr 0 (.t 3)⟩,
  ⟨some 14, (some (12, false)), .load false 1 (.t 13)⟩,
  ⟨some 15, (some (12, false)), .bini .gtr (.t 14) (.c (.int .i64 22))⟩,
  ⟨some 16, none, .pick (.t 12) (.c (.bool true)) (.t 15)⟩])
 (.cond (.t 16)
 (.seq (.reg [⟨some 17, none, .load true 41 (.t 2)⟩,
  ⟨some 18, none, .call 86 [(.t 17), (.c (.int .i64 1))]⟩,
  ⟨some 19, none, .ext (.t 18) 0⟩,
  ⟨some 20, none, .ext (.t 18) 1⟩,
  ⟨none, none, .store 41 (.t 4) (.t 19)⟩,
  ⟨none, none, .store 8 (.t 5) (.t 20)⟩])
 .ret)
 .skip))
 (.seq (.seq (.reg [⟨some 21, none, .faddr 40 (.t 2)⟩,
  ⟨some 22, none, .load false 1 (.t 21)⟩,
  ⟨some 23, none, .mv (.t 22)⟩,
  ⟨some 24, (some (23, true)), .faddr 0 (.t 3)⟩,
  ⟨some 25, (some (23, true)), .load false 1 (.t 24)⟩,
  ⟨some 26, (some (23, true)), .call 87 [(.t 25)]⟩,
  ⟨some 27, none, .pick (.t 23) (.t 26) (.c (.bool false))⟩])
 (.cond (.t 27)
 (.seq (.reg [⟨some 28, none, .load true 41 (.t 2)⟩,
  ⟨some 29, none, .call 86 [(.t 28), (.c (.int .i64 11))]⟩,
  ⟨some 30, none, .ext (.t 29) 0⟩,
  ⟨some 31, none, .ext (.t 29) 1⟩,
  ⟨none, none, .store 41 (.t 4) (.t 30)⟩,
  ⟨none, none, .store 8 (.t 5) (.t 31)⟩])
 .ret)
 .skip))
 (.seq (.block 0
 (.seq (.reg [⟨some 33, none, .faddr 0 (.t 3)⟩,
  ⟨some 34, none, .load false 1 (.t 33)⟩,
  ⟨some 35, none, .bini .leq (.t 34) (.c (.int .i64 8))⟩,
  ⟨some 32, none, .mv (.t 35)⟩])
 (.cond (.t 32)
 (.seq (.reg [⟨some 36, none, .load true 41 (.t 2)⟩,
  ⟨some 37, none, .load true 9 (.t 3)⟩,
  ⟨some 38, none, .call 88 [(.t 36), (.t 37)]⟩,
  ⟨some 39, none, .ext (.t 38) 0⟩,
  ⟨some 40, none, .ext (.t 38) 1⟩,
  ⟨none, none, .store 41 (.t 4) (.t 39)⟩,
  ⟨none, none, .store 8 (.t 5) (.t 40)⟩])
 .ret)
 (.seq (.reg [⟨some 42, none, .faddr 0 (.t 3)⟩,
  ⟨some 43, none, .load false 1 (.t 42)⟩,
  ⟨some 44, none, .bini .leq (.t 43) (.c (.int .i64 14))⟩,
  ⟨some 41, none, .mv (.t 44)⟩])
 (.cond (.t 41)
 (.seq (.reg [⟨some 45, none, .load true 41 (.t 2)⟩,
  ⟨some 46, none, .load true 9 (.t 3)⟩,
  ⟨some 47, none, .call 89 [(.t 45), (.t 46)]⟩,
  ⟨some 48, none, .ext (.t 47) 0⟩,
  ⟨some 49, none, .ext (.t 47) 1⟩,
  ⟨none, none, .store 41 (.t 4) (.t 48)⟩,
  ⟨none, none, .store 8 (.t 5) (.t 49)⟩])
 .ret)
 .skip)))))
 (.seq (.reg [⟨some 50, none, .build [.int .i64 0, .str [], .int .i64 0, .int .i64 0, .int .i64 0, .int .i64 0, .emp, .int .i64 0] []⟩,
  ⟨some 6, none, .alloc [.int .i64 0, .str [], .int .i64 0, .int .i64 0, .int .i64 0, .int .i64 0, .emp, .int .i64 0]⟩,
  ⟨none, none, .store 8 (.t 6) (.t 50)⟩])
 (.seq (.seq (.reg [⟨some 51, none, .faddr 0 (.t 3)⟩,
  ⟨some 52, none, .load false 1 (.t 51)⟩])
 (.block 1
 (.seq (.reg [⟨some 64, none, .bini .eql (.t 52) (.c (.int .i64 15))⟩,
  ⟨some 63, none, .mv (.t 64)⟩])
 (.cond (.t 63)
 (.seq (.seq (.reg [⟨some 65, none, .faddr 2 (.t 3)⟩,
  ⟨some 66, none, .load false 1 (.t 65)⟩,
  ⟨some 67, none, .bini .lss (.t 66) (.c (.int .i64 0))⟩,
  ⟨some 68, none, .mv (.t 67)⟩,
  ⟨some 69, (some (68, false)), .faddr 2 (.t 3)⟩,
  ⟨some 70, (some (68, false)), .load false 1 (.t 69)⟩,
  ⟨some 71, (some (68, false)), .bini .gtr (.t 70) (.c (.int .i64 1))⟩,
  ⟨some 72, none, .pick (.t 68) (.c (.bool true)) (.t 71)⟩])
 (.cond (.t 72)
 (.seq (.reg [⟨some 73, none, .load true 41 (.t 2)⟩,
  ⟨some 74, none, .call 86 [(.t 73), (.c (.int .i64 1))]⟩,
  ⟨some 75, none, .ext (.t 74) 0⟩,
  ⟨some 76, none, .ext (.t 74) 1⟩,
  ⟨none, none, .store 41 (.t 4) (.t 75)⟩,
  ⟨none, none, .store 8 (.t 5) (.t 76)⟩])
 .ret)
 .skip))
 (.seq (.reg [⟨some 78, none, .load true 41 (.t 2)⟩,
  ⟨some 79, none, .faddr 2 (.t 3)⟩,
  ⟨some 80, none, .load false 1 (.t 79)⟩,
  ⟨some 81, none, .bini .eql (.t 80) (.c (.int .i64 1))⟩,
  ⟨some 82, none, .call 90 [(.t 78), (.t 81)]⟩,
  ⟨some 77, none, .mv (.t 82)⟩,
  ⟨some 83, none, .ext (.t 77) 0⟩,
  ⟨some 84, none, .ext (.t 77) 1⟩,
  ⟨none, none, .store 41 (.t 2) (.t 83)⟩,
  ⟨some 85, none, .faddr 0 (.t 6)⟩,
  ⟨none, none, .store 1 (.t 85) (.t 84)⟩])
 (.seq (.reg [⟨some 86, none, .faddr 0 (.t 6)⟩,
  ⟨some 87, none, .load false 1 (.t 86)⟩,
  ⟨some 88, none, .bini .eql (.t 87) (.c (.int .i64 0))⟩])
 (.cond (.t 88)
 (.reg [⟨some 89, none, .faddr 11 (.t 2)⟩,
  ⟨some 90, none, .faddr 0 (.t 89)⟩,
  ⟨some 91, none, .load false 1 (.t 90)⟩,
  ⟨some 92, none, .faddr 7 (.t 6)⟩,
  ⟨none, none, .store 1 (.t 92) (.t 91)⟩])
 .skip))))
 (.seq (.reg [⟨some 94, none, .bini .eql (.t 52) (.c (.int .i64 16))⟩,
  ⟨some 93, none, .mv (.t 94)⟩])
 (.cond (.t 93)
 (.reg [⟨some 96, none, .load true 41 (.t 2)⟩,
  ⟨some 97, none, .call 91 [(.t 96)]⟩,
  ⟨some 95, none, .mv (.t 97)⟩,
  ⟨some 98, none, .ext (.t 95) 0⟩,
  ⟨some 99, none, .ext (.t 95) 1⟩,
  ⟨none, none, .store 41 (.t 2) (.t 98)⟩,
  ⟨some 100, none, .faddr 0 (.t 6)⟩,
  ⟨none, none, .store 1 (.t 100) (.t 99)⟩])
 (.seq (.reg [⟨some 102, none, .bini .eql (.t 52) (.c (.int .i64 17))⟩,
  ⟨some 101, none, .mv (.t 102)⟩])
 (.cond (.t 101)
 (.reg [⟨some 104, none, .load true 41 (.t 2)⟩,
  ⟨some 105, none, .call 92 [(.t 104)]⟩,
  ⟨some 103, none, .mv (.t 105)⟩,
  ⟨some 106, none, .ext (.t 103) 0⟩,
  ⟨some 107, none, .ext (.t 103) 1⟩,
  ⟨none, none, .store 41 (.t 2) (.t 106)⟩,
  ⟨some 108, none, .faddr 0 (.t 6)⟩,
  ⟨none, none, .store 1 (.t 108) (.t 107)⟩])
 (.seq (.reg [⟨some 110, none, .bini .eql (.t 52) (.c (.int .i64 18))⟩,
  ⟨some 109, none, .mv (.t 110)⟩])
 (.cond (.t 109)
 (.seq (.reg [⟨some 112, none, .faddr 0 (.t 2)⟩,
  ⟨some 113, none, .load true 5 (.t 112)⟩,
  ⟨some 114, none, .faddr 2 (.t 3)⟩,
  ⟨some 115, none, .load false 1 (.t 114)⟩,
  ⟨some 116, none, .call 93 [(.t 113), (.t 115)]⟩,
  ⟨some 111, none, .mv (.t 116)⟩,
  ⟨some 117, none, .ext (.t 111) 0⟩,
  ⟨some 118, none, .ext (.t 111) 1⟩,
  ⟨some 7, none, .alloc [.emp, .emp, .int .i64 0, .int .i64 0, .bool false, .int .i64 0, .int .i64 0, .int .u32 0, .int .u32 0, .int .u32 0, .int .u32 0, .int .i64 0, .int .i64 0, .int .i64 0, .int .i64 0, .int .i64 0, .int .u32 0, .int .u32 0, .int .u32 0, .int .u32 0, .int .i64 0, .int .i64 0, .int .u32 0, .int .u32 0, .int .u32 0, .int .u32 0, .int .i64 0, .int .i64 0, .int .u32 0, .int .u32 0, .int .u32 0, .int .u32 0, .int .i64 0, .emp, .emp, .emp, .emp, .int .i64 0, .int .i64 0, .emp, .bool false]⟩,
  ⟨none, none, .store 41 (.t 7) (.t 117)⟩,
  ⟨some 8, none, .mv (.t 118)⟩])
 (.seq (.seq (.reg [⟨some 119, none, .mv (.t 8)⟩,
  ⟨some 120, none, .bini .neq (.t 119) (.c (.int .i64 0))⟩])
 (.cond (.t 120)
 (.seq (.reg [⟨some 121, none, .faddr 0 (.t 7)⟩,
  ⟨some 122, none, .load true 5 (.t 121)⟩,
  ⟨some 123, none, .faddr 0 (.t 2)⟩,
  ⟨none, none, .store 5 (.t 123) (.t 122)⟩])
 (.seq (.reg [⟨some 124, none, .load true 41 (.t 2)⟩,
  ⟨some 125, none, .mv (.t 8)⟩,
  ⟨some 126, none, .call 86 [(.t 124), (.t 125)]⟩,
  ⟨some 127, none, .ext (.t 126) 0⟩,
  ⟨some 128, none, .ext (.t 126) 1⟩,
  ⟨none, none, .store 41 (.t 4) (.t 127)⟩,
  ⟨none, none, .store 8 (.t 5) (.t 128)⟩])
 .ret))
 .skip))
 (.dregE [[(0, ⟨some 129, none, .load true 41 (.t 7)⟩),
  (1, ⟨some 130, none, .faddr 11 (.t 7)⟩),
  (2, ⟨some 131, none, .faddr 0 (.t 130)⟩),
  (3, ⟨some 132, none, .load false 1 (.t 131)⟩),
  (4, ⟨none, none, .store 41 (.t 2) (.t 129)⟩)],
  [(5, ⟨some 133, none, .faddr 7 (.t 6)⟩)],
  [(6, ⟨none, none, .store 1 (.t 133) (.t 132)⟩)]]
  [[], [], [1], [1, 2], [0], [0, 1, 2, 3, 4], [0, 1, 2, 3, 4, 5]])))
 (.seq (.seq (.reg [⟨some 135, none, .bini .eql (.t 52) (.c (.int .i64 19))⟩,
  ⟨some 134, none, .mv (.t 135)⟩])
 (.cond (.t 134)
 .skip
 (.reg [⟨some 136, none, .bini .eql (.t 52) (.c (.int .i64 20))⟩,
  ⟨some 134, none, .mv (.t 136)⟩])))
 (.cond (.t 134)
 (.seq (.seq (.reg [⟨some 137, none, .faddr 2 (.t 3)⟩,
  ⟨some 138, none, .load false 1 (.t 137)⟩,
  ⟨some 139, none, .bini .lss (.t 138) (.c (.int .i64 0))⟩,
  ⟨some 140, none, .mv (.t 139)⟩,
  ⟨some 141, (some (140, false)), .faddr 2 (.t 3)⟩,
  ⟨some 142, (some (140, false)), .load false 1 (.t 141)⟩,
  ⟨some 143, (some (140, false)), .bini .gtr (.t 142) (.c (.int .i64 200))⟩,
  ⟨some 144, none, .pick (.t 140) (.c (.bool true)) (.t 143)⟩])
 (.cond (.t 144)
 (.seq (.reg [⟨some 145, none, .load true 41 (.t 2)⟩,
  ⟨some 146, none, .call 86 [(.t 145), (.c (.int .i64 1))]⟩,
  ⟨some 147, none, .ext (.t 146) 0⟩,
  ⟨some 148, none, .ext (.t 146) 1⟩,
  ⟨none, none, .store 41 (.t 4) (.t 147)⟩,
  ⟨none, none, .store 8 (.t 5) (.t 148)⟩])
 .ret)
 .skip))
 (.seq (.reg [⟨some 149, none, .faddr 0 (.t 3)⟩,
  ⟨some 150, none, .load false 1 (.t 149)⟩,
  ⟨some 151, none, .bini .eql (.t 150) (.c (.int .i64 19))⟩])
 (.cond (.t 151)
 (.reg [⟨some 152, none, .faddr 2 (.t 3)⟩,
  ⟨some 153, none, .load false 1 (.t 152)⟩,
  ⟨some 154, none, .faddr 0 (.t 2)⟩,
  ⟨some 155, none, .faddr 3 (.t 154)⟩,
  ⟨none, none, .store 1 (.t 155) (.t 153)⟩])
 (.reg [⟨some 156, none, .faddr 2 (.t 3)⟩,
  ⟨some 157, none, .load false 1 (.t 156)⟩,
  ⟨some 158, none, .faddr 0 (.t 2)⟩,
  ⟨some 159, none, .faddr 2 (.t 158)⟩,
  ⟨none, none, .store 1 (.t 159) (.t 157)⟩]))))
 (.seq (.reg [⟨some 161, none, .bini .eql (.t 52) (.c (.int .i64 21))⟩,
  ⟨some 160, none, .mv (.t 161)⟩])
 (.cond (.t 160)
 (.reg [⟨some 162, none, .faddr 0 (.t 2)⟩,
  ⟨some 163, none, .load true 5 (.t 162)⟩,
  ⟨some 164, none, .faddr 8 (.t 3)⟩,
  ⟨some 165, none, .load false 1 (.t 164)⟩,
  ⟨some 166, none, .call 94 [(.t 163), (.t 165)]⟩,
  ⟨some 167, none, .build [.emp, .emp, .int .i64 0, .int .i64 0, .bool false, .int .i64 0, .int .i64 0, .int .u32 0, .int .u32 0, .int .u32 0, .int .u32 0, .int .i64 0, .int .i64 0, .int .i64 0, .int .i64 0, .int .i64 0, .int .u32 0, .int .u32 0, .int .u32 0, .int .u32 0, .int .i64 0, .int .i64 0, .int .u32 0, .int .u32 0, .int .u32 0, .int .u32 0, .int .i64 0, .int .i64 0, .int .u32 0, .int .u32 0, .int .u32 0, .int .u32 0, .int .i64 0, .emp, .emp, .emp, .emp, .int .i64 0, .int .i64 0, .emp, .bool false] [(0, 5, (.t 166))]⟩,
  ⟨none, none, .store 41 (.t 2) (.t 167)⟩])
 (.reg [⟨some 53, none, .faddr 0 (.t 2)⟩,
  ⟨some 54, none, .load true 5 (.t 53)⟩,
  ⟨some 55, none, .faddr 2 (.t 3)⟩,
  ⟨some 56, none, .load false 1 (.t 55)⟩,
  ⟨some 57, none, .faddr 3 (.t 3)⟩,
  ⟨some 58, none, .load false 1 (.t 57)⟩,
  ⟨some 59, none, .faddr 4 (.t 3)⟩,
  ⟨some 60, none, .load false 1 (.t 59)⟩,
  ⟨some 61, none, .call 95 [(.t 54), (.t 56), (.t 58), (.t 60)]⟩,
  ⟨some 62, none, .faddr 0 (.t 2)⟩,
  ⟨none, none, .store 5 (.t 62) (.t 61)⟩])))))))))))))))
 (.seq (.dregE [[(0, ⟨some 168, none, .load true 41 (.t 2)⟩),
  (1, ⟨some 169, none, .load true 8 (.t 6)⟩),
  (2, ⟨none, none, .store 41 (.t 4) (.t 168)⟩)],
  [(3, ⟨none, none, .store 8 (.t 5) (.t 169)⟩)]]
  [[], [], [0], [0, 1, 2]])
 .ret)))))))
theorem d47 : FnD Tryz.prog 47 2 168 [.cell 4 true 41, .cell 5 true 8] c47 := ⟨Tryz.f47, _, Tryz.func47, by kernel_rfl, rfl, rfl, by kernel_rfl, by kernel_rfl⟩
end Go.Proofs.YtemjlopoffjmpaaGreat.Abs
namespace Go.Proofs.YtemjlopoffjmpaaGreat.Abs
open Go
def c89 : ACode :=
 (.seq (.reg [⟨some 2, none, .box (.t 0)⟩,
  ⟨some 3, none, .box (.t 1)⟩,
  ⟨some 4, none, .alloc [.emp, .emp, .int .i64 0, .int .i64 0, .bool false, .int .i64 0, .int .i64 0, .int .u32 0, .int .u32 0, .int .u32 0, .int .u32 0, .int .i64 0, .int .i64 0, .int .i64 0, .int .i64 0, .int .i64 0, .int .u32 0, .int .u32 0, .int .u32 0, .int .u32 0, .int .i64 0, .int .i64 0, .int .u32 0, .int .u32 0, .int .u32 0, .int .u32 0, .int .i64 0, .int .i64 0, .int .u32 0, .int .u32 0, .int .u32 0, .int .u32 0, .int .i64 0, .emp, .emp, .emp, .emp, .int .i64 0, .int .i64 0, .emp, .bool false]⟩,
  ⟨some 5, none, .alloc [.int .i64 0, .str [], .int .i64 0, .int .i64 0, .int .i64 0, .int .i64 0, .emp, .int .i64 0]⟩])
 (.seq (.reg [⟨some 9, none, .faddr 39 (.t 2)⟩,
  ⟨some 10, none, .load false 1 (.t 9)⟩,
  ⟨some 6, none, .mv (.t 10)⟩,
  ⟨some 7, none, .mv (.c (.int .i64 0))⟩])
 (.seq (.reg [⟨some 11, none, .faddr 11 (.t 2)⟩,
  ⟨some 12, none, .faddr 1 (.t 11)⟩,
  ⟨some 13, none, .load false 1 (.t 12)⟩,
  ⟨some 8, none, .mv (.t 13)⟩])
 (.seq (.seq (.reg [⟨some 14, none, .faddr 0 (.t 3)⟩,
  ⟨some 15, none, .load false 1 (.t 14)⟩])
 (.block 0
 (.seq (.reg [⟨some 24, none, .bini .eql (.t 15) (.c (.int .i64 9))⟩,
  ⟨some 23, none, .mv (.t 24)⟩])
 (.cond (.t 23)
 (.reg [⟨some 26, none, .mv (.t 6)⟩,
  ⟨some 27, none, .mv (.t 8)⟩,
  ⟨some 28, none, .faddr 2 (.t 3)⟩,
  ⟨some 29, none, .load false 1 (.t 28)⟩,
  ⟨some 30, none, .call 70 [(.t 26), (.t 27), (.t 29)]⟩,
  ⟨some 25, none, .mv (.t 30)⟩,
  ⟨some 31, none, .ext (.t 25) 0⟩,
  ⟨some 32, none, .ext (.t 25) 1⟩,
  ⟨some 6, none, .mv (.t 31)⟩,
  ⟨some 7, none, .mv (.t 32)⟩])
 (.seq (.reg [⟨some 34, none, .bini .eql (.t 15) (.c (.int .i64 10))⟩,
  ⟨some 33, none, .mv (.t 34)⟩])
 (.cond (.t 33)
 (.reg [⟨some 36, none, .mv (.t 6)⟩,
  ⟨some 37, none, .mv (.t 8)⟩,
  ⟨some 38, none, .faddr 1 (.t 3)⟩,
  ⟨some 39, none, .load false 1 (.t 38)⟩,
  ⟨some 40, none, .call 71 [(.t 36), (.t 37), (.t 39)]⟩,
  ⟨some 35, none, .mv (.t 40)⟩,
  ⟨some 41, none, .ext (.t 35) 0⟩,
  ⟨some 42, none, .ext (.t 35) 1⟩,
  ⟨some 6, none, .mv (.t 41)⟩,
  ⟨some 7, none, .mv (.t 42)⟩])
 (.seq (.reg [⟨some 44, none, .bini .eql (.t 15) (.c (.int .i64 11))⟩,
  ⟨some 43, none, .mv (.t 44)⟩])
 (.cond (.t 43)
 (.reg [⟨some 46, none, .mv (.t 6)⟩,
  ⟨some 47, none, .mv (.t 8)⟩,
  ⟨some 48, none, .faddr 1 (.t 3)⟩,
  ⟨some 49, none, .load false 1 (.t 48)⟩,
  ⟨some 50, none, .call 72 [(.t 46), (.t 47), (.t 49)]⟩,
  ⟨some 45, none, .mv (.t 50)⟩,
  ⟨some 51, none, .ext (.t 45) 0⟩,
  ⟨some 52, none, .ext (.t 45) 1⟩,
  ⟨some 6, none, .mv (.t 51)⟩,
  ⟨some 7, none, .mv (.t 52)⟩])
 (.seq (.reg [⟨some 54, none, .bini .eql (.t 15) (.c (.int .i64 12))⟩,
  ⟨some 53, none, .mv (.t 54)⟩])
 (.cond (.t 53)
 (.reg [⟨some 56, none, .mv (.t 6)⟩,
  ⟨some 57, none, .faddr 1 (.t 3)⟩,
  ⟨some 58, none, .load false 1 (.t 57)⟩,
  ⟨some 59, none, .call 73 [(.t 56), (.t 58)]⟩,
  ⟨some 55, none, .mv (.t 59)⟩,
  ⟨some 60, none, .ext (.t 55) 0⟩,
  ⟨some 61, none, .ext (.t 55) 1⟩,
  ⟨some 6, none, .mv (.t 60)⟩,
  ⟨some 7, none, .mv (.t 61)⟩])
 (.seq (.reg [⟨some 63, none, .bini .eql (.t 15) (.c (.int .i64 13))⟩,
  ⟨some 62, none, .mv (.t 63)⟩])
 (.cond (.t 62)
 (.reg [⟨some 65, none, .mv (.t 6)⟩,
  ⟨some 66, none, .faddr 1 (.t 3)⟩,
  ⟨some 67, none, .load false 1 (.t 66)⟩,
  ⟨some 68, none, .faddr 2 (.t 3)⟩,
  ⟨some 69, none, .load false 1 (.t 68)⟩,
  ⟨some 70, none, .call 74 [(.t 65), (.t 67), (.t 69)]⟩,
  ⟨some 64, none, .mv (.t 70)⟩,
  ⟨some 71, none, .ext (.t 64) 0⟩,
  ⟨some 72, none, .ext (.t 64) 1⟩,
  ⟨some 6, none, .mv (.t 71)⟩,
  ⟨some 7, none, .mv (.t 72)⟩])
 (.reg [⟨some 17, none, .mv (.t 6)⟩,
  ⟨some 18, none, .faddr 1 (.t 3)⟩,
  ⟨some 19, none, .load false 1 (.t 18)⟩,
  ⟨some 20, none, .call 75 [(.t 17), (.t 19)]⟩,
  ⟨some 16, none, .mv (.t 20)⟩,
  ⟨some 21, none, .ext (.t 16) 0⟩,
  ⟨some 22, none, .ext (.t 16) 1⟩,
  ⟨some 6, none, .mv (.t 21)⟩,
  ⟨some 7, none, .mv (.t 22)⟩])))))))))))))
 (.seq (.seq (.reg [⟨some 73, none, .mv (.t 7)⟩,
  ⟨some 74, none, .bini .neq (.t 73) (.c (.int .i64 0))⟩])
 (.cond (.t 74)
 (.seq (.reg [⟨some 75, none, .load true 41 (.t 2)⟩,
  ⟨some 76, none, .mv (.t 7)⟩,
  ⟨some 77, none, .call 86 [(.t 75), (.t 76)]⟩,
  ⟨some 78, none, .ext (.t 77) 0⟩,
  ⟨some 79, none, .ext (.t 77) 1⟩,
  ⟨none, none, .store 41 (.t 4) (.t 78)⟩,
  ⟨none, none, .store 8 (.t 5) (.t 79)⟩])
 .ret)
 .skip))
 (.seq (.reg [⟨some 80, none, .mv (.t 6)⟩,
  ⟨some 81, none, .faddr 39 (.t 2)⟩,
  ⟨none, none, .store 1 (.t 81) (.t 80)⟩])
 (.seq (.seq (.reg [⟨some 82, none, .faddr 0 (.t 3)⟩,
  ⟨some 83, none, .load false 1 (.t 82)⟩,
  ⟨some 84, none, .bini .gtr (.t 83) (.c (.int .i64 11))⟩])
 (.cond (.t 84)
 (.seq (.reg [⟨some 85, none, .load true 41 (.t 2)⟩,
  ⟨some 86, none, .build [.int .i64 0, .str [], .int .i64 0, .int .i64 0, .int .i64 0, .int .i64 0, .emp, .int .i64 0] []⟩,
  ⟨none, none, .store 41 (.t 4) (.t 85)⟩,
  ⟨none, none, .store 8 (.t 5) (.t 86)⟩])
 .ret)
 .skip))
 (.seq (.reg [⟨some 87, none, .mv (.t 8)⟩,
  ⟨some 88, none, .bini .add (.t 87) (.c (.int .i64 1))⟩,
  ⟨some 89, none, .faddr 11 (.t 2)⟩,
  ⟨some 90, none, .faddr 1 (.t 89)⟩,
  ⟨none, none, .store 1 (.t 90) (.t 88)⟩])
 (.seq (.reg [⟨some 91, none, .load true 41 (.t 2)⟩,
  ⟨some 92, none, .mv (.t 8)⟩,
  ⟨some 93, none, .build [.int .i64 0, .str [], .int .i64 0, .int .i64 0, .int .i64 0, .int .i64 0, .emp, .int .i64 0] [(7, 1, (.t 92))]⟩,
  ⟨none, none, .store 41 (.t 4) (.t 91)⟩,
  ⟨none, none, .store 8 (.t 5) (.t 93)⟩])
 .ret)))))))))
theorem d89 : FnD Tryz.prog 89 2 92 [.cell 4 true 41, .cell 5 true 8] c89 := ⟨Tryz.f89, _, Tryz.func89, by kernel_rfl, rfl, rfl, by kernel_rfl, by kernel_rfl⟩
end Go.Proofs.YtemjlopoffjmpaaGreat.Abs
set_option linter.unusedSimpArgs false
set_option linter.unusedVariables false
namespace Go.Proofs.YtemjlopoffjmpaaGreat.Abs
open Go Go.Proofs
theorem hgB_hangs (l : List Dset) (i : Int) : hgB l i = hangsA l i := by
 unfold hgB hangsA
 rcases idxA_cases (fun d => decide (d.origin = i)) l with ⟨h1, h2⟩ | ⟨k, h1, h2, h3, _⟩
 ·rw [h1, decide_eq_false (by decide), List.any_eq_false]
  intro d hd
  obtain ⟨n, hn, rfl⟩ := mem_dgetD hd
  rw [h2 n hn]; decide
 ·rw [h1, decide_eq_true (by omega), List.any_eq_true]
  exact ⟨_, dgetD_mem h2, h3⟩
theorem filter_erase {l : List Dset} (h : MayL l) {k : Nat} (hk : k < l.length) : l.filter (notA (l.getD k default).id) = l.eraseIdx k := by
 have e : l = l.take k ++ l.getD k default :: l.drop (k + 1) := by
  have : l.drop k = l.getD k default :: l.drop (k + 1) := by
   rw [List.drop_eq_getElem_cons hk, List.getD_eq_getElem?_getD, List.getElem?_eq_getElem hk]; rfl
  rw [← this, List.take_append_drop]
 have h1 : ∀ d ∈ l.take k, notA (l.getD k default).id d = true := fun d hd => by
  obtain ⟨j, hj, rfl⟩ := List.mem_iff_getElem.1 hd
  rw [List.length_take] at hj
  have hj2 : j < l.length := by omega
  have := h.lt (i := j) (j := k) (by omega) hk
  unfold notA
  rw [List.getElem_take, decide_eq_false]; rfl
  intro hh
  rw [List.getD_eq_getElem?_getD, List.getElem?_eq_getElem hj2] at this
  have h3 : (l[j]).id < (l.getD k default).id := this
  omega
 have h2 : ∀ d ∈ l.drop (k + 1), notA (l.getD k default).id d = true := fun d hd => by
  obtain ⟨j, hj, rfl⟩ := List.mem_iff_getElem.1 hd
  rw [List.length_drop] at hj
  have hj2 : k + 1 + j < l.length := by omega
  have := h.lt (i := k) (j := k + 1 + j) (by omega) hj2
  unfold notA
  rw [List.getElem_drop, decide_eq_false]; rfl
  intro hh
  rw [List.getD_eq_getElem?_getD (l := l) (i := k + 1 + j), List.getElem?_eq_getElem hj2] at this
  have h3 : (l.getD k default).id < (l[k + 1 + j]).id := this
  omega
 have h3 : notA (l.getD k default).id (l.getD k default) = false := by unfold notA; simp
 refine (congrArg (List.filter (notA (l.getD k default).id)) e).trans ?_
 rw [List.filter_append, List.filter_cons, List.filter_eq_self.2 h1, List.filter_eq_self.2 h2, h3, if_neg (by decide), List.eraseIdx_eq_take_drop_succ]
theorem destR_eq {l : List Dset} (h : MayL l) (i : Int) : destR l i = destroyA l i := by
 unfold destR destroyA
 rcases find_of (l := l) (i := i) with ⟨e, _⟩ | ⟨k, e, hk, hid, _⟩
 ·rw [getA_no e, if_pos (by omega)]
 ·rw [getA_of e, if_neg (by omega), e, Int.toNat_natCast, hgB_hangs, ← hid, filter_erase h hk]
theorem addA_ne {l : List Dset} (h : l ≠ []) (n : Int) (x : Dset) : (addA l n x).1 ≠ [] := by
 unfold addA
 split
 ·simp
 ·exact h
theorem createA_ne {l : List Dset} (h : l ≠ []) (n q : Int) : (createA l n q).1 ≠ [] := by
 unfold createA
 split
 ·exact h
 ·exact addA_ne h _ _
theorem snapA_ne {l : List Dset} (h : l ≠ []) (n i : Int) : (snapA l n i).1 ≠ [] := by
 unfold snapA
 cases getA l i with
 | none => exact h
 | some d => simp only; split; exact h; exact addA_ne h _ _
theorem cloneA_ne {l : List Dset} (h : l ≠ []) (n i : Int) : (cloneA l n i).1 ≠ [] := by
 unfold cloneA
 cases getA l i with
 | none => exact h
 | some d => simp only; split; exact addA_ne h _ _; exact h
theorem ne_len {l l' : List Dset} (h : l ≠ []) (e : l'.length = l.length) : l' ≠ [] := fun e2 => h (List.length_eq_zero_iff.1 (by rw [← e, e2]; rfl))
theorem backA_ne {l : List Dset} (h : l ≠ []) (i j : Int) : (backA l i j).1 ≠ [] := by
 unfold backA
 split
 ·exact h
 ·simp only
  split
  ·exact h
  ·split
   ·exact h
   ·exact ne_len h List.length_set
theorem promoteA_ne {l : List Dset} (hM : MayL l) (h : l ≠ []) (i : Int) : (promoteA l i).1 ≠ [] := by
 rcases promote_facts hM i with ⟨hA, _⟩ | ⟨c, _, ⟨_, hA⟩ | ⟨_, _, s, o, _, _, hA⟩⟩
 ·rw [hA]; exact h
 ·rw [hA]; exact h
 ·rw [hA]; exact ne_len h (List.length_map _)
theorem destroyA_ne {l : List Dset} (hM : MayL l) (h : l ≠ []) (i : Int) : (destroyA l i).1 ≠ [] := by
 unfold destroyA
 split
 ·exact h
 ·rename_i h1
  split
  ·exact h
  ·rename_i h2
   rcases find_of (l := l) (i := i) with ⟨e, _⟩ | ⟨k, e, hk, hid, _⟩
   ·omega
   rw [e, Int.toNat_natCast] at h2 ⊢
   intro e2
   have hlen := List.length_eraseIdx (l := l) (i := k)
   rw [if_pos hk] at hlen
   have e3 : (l.eraseIdx k).length = 0 := by rw [show l.eraseIdx k = [] from e2]; rfl
   have h4 : l.length = 1 := by omega
   obtain ⟨d, rfl⟩ := List.length_eq_one_iff.1 h4
   have hk0 : k = 0 := by simp at hk; omega
   subst hk0
   have hd := hM.each d (by simp)
   have hk1 : d.kind = 1 := by
    rcases hd.kinds with hh | hh
    ·exact hh
    ·obtain ⟨_, o, ho, _, hok⟩ := hd.snap hh
     rw [List.mem_singleton] at ho
     subst ho; omega
   exact h2 (.inr ⟨hk1, by unfold livesA; simp [hk1]⟩)
theorem addA_ids {l : List Dset} (n : Int) (x : Dset) (h : ∀ d ∈ l, d.id < n) : ∀ d ∈ (addA l n x).1, d.id < n + 1 := by
 unfold addA
 intro d hd
 split at hd
 ·rcases List.mem_append.1 hd with hd | hd
  ·have := h d hd; omega
  ·rw [List.mem_singleton] at hd; subst hd; show n < n + 1; omega
 ·have := h d hd; omega
theorem lt_more {l : List Dset} {n : Int} (h : ∀ d ∈ l, d.id < n) : ∀ d ∈ l, d.id < n + 1 := fun d hd => by have := h d hd; omega
theorem createA_ids {l : List Dset} (n q : Int) (h : ∀ d ∈ l, d.id < n) : ∀ d ∈ (createA l n q).1, d.id < n + 1 := by
 unfold createA
 split
 ·exact lt_more h
 ·exact addA_ids _ _ h
theorem snapA_ids {l : List Dset} (n i : Int) (h : ∀ d ∈ l, d.id < n) : ∀ d ∈ (snapA l n i).1, d.id < n + 1 := by
 unfold snapA
 cases getA l i with
 | none => exact lt_more h
 | some d =>
   simp only
   split
   ·exact lt_more h
   ·exact addA_ids _ _ h
theorem cloneA_ids {l : List Dset} (n i : Int) (h : ∀ d ∈ l, d.id < n) : ∀ d ∈ (cloneA l n i).1, d.id < n + 1 := by
 unfold cloneA
 cases getA l i with
 | none => exact lt_more h
 | some d =>
   simp only
   split
   ·exact addA_ids _ _ h
   ·exact lt_more h
theorem backA_ids {l : List Dset} (i j : Int) {n : Int} (h : ∀ d ∈ l, d.id < n) : ∀ d ∈ (backA l i j).1, d.id < n := by
 unfold backA
 split
 ·exact h
 ·rename_i h1
  simp only
  split
  ·exact h
  ·split
   ·exact h
   ·intro x hx
    rcases find_of (l := l) (i := i) with ⟨e, _⟩ | ⟨k, e, hk, _, _⟩
    ·omega
    ·rcases List.mem_or_eq_of_mem_set hx with hx | rfl
     ·exact h x hx
     ·show (l.getD (findA l i).toNat default).id < n
      rw [e, Int.toNat_natCast]; exact h _ (dgetD_mem hk)
theorem promoteA_ids {l : List Dset} (hM : MayL l) (i : Int) {n : Int} (h : ∀ d ∈ l, d.id < n) : ∀ d ∈ (promoteA l i).1, d.id < n := by
 rcases promote_facts hM i with ⟨hA, _⟩ | ⟨c, _, ⟨_, hA⟩ | ⟨_, _, s, o, _, _, hA⟩⟩
 ·rw [hA]; exact h
 ·rw [hA]; exact h
 ·rw [hA]
  intro d hd
  obtain ⟨x, hx, rfl⟩ := List.mem_map.1 hd
  exact h x hx
theorem destroyA_ids {l : List Dset} (i : Int) {n : Int} (h : ∀ d ∈ l, d.id < n) : ∀ d ∈ (destroyA l i).1, d.id < n := by
 unfold destroyA
 split
 ·exact h
 ·split
  ·exact h
  ·exact fun d hd => h d (List.mem_of_mem_eraseIdx hd)
section
variable (l : List Dset)
theorem rcreateL (hl : Short l) (next q : Int) (H : AH) : C Tryz.prog 70 [asets l, .int .i64 next, .int .i64 q] H (fun x H' => x = outA (createA l next q) ∧ H' = H) := C_any (rcreate0 l hl next q) (by simp [bareL, bare, asets]) (outA_bare _) H
theorem rsnapL (hl : Short l) (next q : Int) (H : AH) : C Tryz.prog 71 [asets l, .int .i64 next, .int .i64 q] H (fun x H' => x = outA (snapA l next q) ∧ H' = H) := C_any (rsnap0 l hl next q) (by simp [bareL, bare, asets]) (outA_bare _) H
theorem rcloneL (hl : Short l) (next q : Int) (H : AH) : C Tryz.prog 72 [asets l, .int .i64 next, .int .i64 q] H (fun x H' => x = outA (cloneA l next q) ∧ H' = H) := C_any (rclone0 l hl next q) (by simp [bareL, bare, asets]) (outA_bare _) H
theorem rpromoteL (hM : MayL l) (i : Int) (H : AH) : C Tryz.prog 73 [asets l, .int .i64 i] H (fun x H' => x = outA (promoteA l i) ∧ H' = H) := C_any (rpromote0 l hM i) (by simp [bareL, bare, asets]) (outA_bare _) H
theorem rbackL (hl : Short l) (i j : Int) (H : AH) : C Tryz.prog 74 [asets l, .int .i64 i, .int .i64 j] H (fun x H' => x = outA (backA l i j) ∧ H' = H) := C_any (rback0 l hl i j) (by simp [bareL, bare, asets]) (outA_bare _) H
theorem rdestroyL (hM : MayL l) (i : Int) (H : AH) : C Tryz.prog 75 [asets l, .int .i64 i] H (fun x H' => x = outA (destroyA l i) ∧ H' = H) := by
 rw [← destR_eq hM i]
 exact C_any (rdestroy0 l hM.short i) (by simp [bareL, bare, asets]) (outA_bare _) H
end
set_option maxHeartbeats 2000000 in
theorem sets89_0 (l : List Dset) (hM : MayL l) (nx k i m : Int) (hk : 9 ≤ k ∧ k ≤ 14) (hnx : 0 ≤ nx ∧ nx ≤ 1000000) (p q t : List UInt8) :
 C Tryz.prog 89 [.agg (poolC nx (asets l)), editA k i m p q t] [] (fun y H' => PoolR nx l y ∧ H' = []) := by
 have hl := hM.short
 have told : ∀ e : Int, PoolR nx l (toldA nx l e 0) := fun e => ⟨l, nx, e, 0, hM, StepN.refl _ _, Int.le_refl _, by omega, rfl⟩
 have w1 : IntKind.i64.wrap (nx + 1) = nx + 1 := IntWalk.i64_in _ (by omega)
 refine C_body' d89 rfl (WT_ok ?_)
 unfold c89
 simp only [poolC, editA, asets, lay, iaddr_node, pnode, wk3, wk, seval]
 by_cases h_9 : k = 9
 ·simp only [h_9, lay, iaddr_node, pnode, wk3, wk, seval]
  refine CT_ok (rcreateL l hl nx m _) ?_
  rintro _ _ ⟨rfl, rfl⟩
  have hm := createA_may hM nx m
  have hne : StepN nx (nx + 1) l (createA l nx m).1 := ⟨fun h => createA_ne h nx m, createA_ids nx m⟩
  generalize createA l nx m = r at hm hne
  obtain ⟨l', e⟩ := r
  by_cases he : e = 0
  ·simp only [outA, asets, he, h_9, w1, lay, iaddr_node, pnode, wk3, wk, seval]
   exact KWk_bare (told_bare (nx + 1) l' 0 nx) ⟨⟨l', nx + 1, 0, nx, hm, hne, by omega, Int.le_refl _, rfl⟩, rfl⟩
  ·simp only [outA, asets, he, lay, iaddr_node, pnode, wk3, wk, seval]
   refine CT_ok (tells86 nx l e _) ?_
   rintro _ _ ⟨rfl, rfl⟩
   simp only [toldA, poolC, ansC, asets, lay, iaddr_node, pnode, wk3, wk, seval]
   exact KWk_bare (told_bare nx l e 0) ⟨told e, rfl⟩
 by_cases h_10 : k = 10
 ·simp only [h_10, lay, iaddr_node, pnode, wk3, wk, seval]
  refine CT_ok (rsnapL l hl nx i _) ?_
  rintro _ _ ⟨rfl, rfl⟩
  have hm := snapA_may hM nx i
  have hne : StepN nx (nx + 1) l (snapA l nx i).1 := ⟨fun h => snapA_ne h nx i, snapA_ids nx i⟩
  generalize snapA l nx i = r at hm hne
  obtain ⟨l', e⟩ := r
  by_cases he : e = 0
  ·simp only [outA, asets, he, h_10, w1, lay, iaddr_node, pnode, wk3, wk, seval]
   exact KWk_bare (told_bare (nx + 1) l' 0 nx) ⟨⟨l', nx + 1, 0, nx, hm, hne, by omega, Int.le_refl _, rfl⟩, rfl⟩
  ·simp only [outA, asets, he, lay, iaddr_node, pnode, wk3, wk, seval]
   refine CT_ok (tells86 nx l e _) ?_
   rintro _ _ ⟨rfl, rfl⟩
   simp only [toldA, poolC, ansC, asets, lay, iaddr_node, pnode, wk3, wk, seval]
   exact KWk_bare (told_bare nx l e 0) ⟨told e, rfl⟩
 by_cases h_11 : k = 11
 ·simp only [h_11, lay, iaddr_node, pnode, wk3, wk, seval]
  refine CT_ok (rcloneL l hl nx i _) ?_
  rintro _ _ ⟨rfl, rfl⟩
  have hm := cloneA_may hM nx i
  have hne : StepN nx (nx + 1) l (cloneA l nx i).1 := ⟨fun h => cloneA_ne h nx i, cloneA_ids nx i⟩
  generalize cloneA l nx i = r at hm hne
  obtain ⟨l', e⟩ := r
  by_cases he : e = 0
  ·simp only [outA, asets, he, h_11, w1, lay, iaddr_node, pnode, wk3, wk, seval]
   exact KWk_bare (told_bare (nx + 1) l' 0 nx) ⟨⟨l', nx + 1, 0, nx, hm, hne, by omega, Int.le_refl _, rfl⟩, rfl⟩
  ·simp only [outA, asets, he, lay, iaddr_node, pnode, wk3, wk, seval]
   refine CT_ok (tells86 nx l e _) ?_
   rintro _ _ ⟨rfl, rfl⟩
   simp only [toldA, poolC, ansC, asets, lay, iaddr_node, pnode, wk3, wk, seval]
   exact KWk_bare (told_bare nx l e 0) ⟨told e, rfl⟩
 by_cases h_12 : k = 12
 ·simp only [h_12, lay, iaddr_node, pnode, wk3, wk, seval]
  refine CT_ok (rpromoteL l hM i _) ?_
  rintro _ _ ⟨rfl, rfl⟩
  have hm := promoteA_may hM i
  have hne : StepN nx nx l (promoteA l i).1 := ⟨fun h => promoteA_ne hM h i, promoteA_ids hM i⟩
  generalize promoteA l i = r at hm hne
  obtain ⟨l', e⟩ := r
  by_cases he : e = 0
  ·simp only [outA, asets, he, h_12, w1, lay, iaddr_node, pnode, wk3, wk, seval]
   exact KWk_bare (told_bare nx l' 0 0) ⟨⟨l', nx, 0, 0, hm, hne, Int.le_refl _, by omega, rfl⟩, rfl⟩
  ·simp only [outA, asets, he, lay, iaddr_node, pnode, wk3, wk, seval]
   refine CT_ok (tells86 nx l e _) ?_
   rintro _ _ ⟨rfl, rfl⟩
   simp only [toldA, poolC, ansC, asets, lay, iaddr_node, pnode, wk3, wk, seval]
   exact KWk_bare (told_bare nx l e 0) ⟨told e, rfl⟩
 by_cases h_13 : k = 13
 ·simp only [h_13, lay, iaddr_node, pnode, wk3, wk, seval]
  refine CT_ok (rbackL l hl i m _) ?_
  rintro _ _ ⟨rfl, rfl⟩
  have hm := backA_may hM i m
  have hne : StepN nx nx l (backA l i m).1 := ⟨fun h => backA_ne h i m, backA_ids i m⟩
  generalize backA l i m = r at hm hne
  obtain ⟨l', e⟩ := r
  by_cases he : e = 0
  ·simp only [outA, asets, he, h_13, w1, lay, iaddr_node, pnode, wk3, wk, seval]
   exact KWk_bare (told_bare nx l' 0 0) ⟨⟨l', nx, 0, 0, hm, hne, Int.le_refl _, by omega, rfl⟩, rfl⟩
  ·simp only [outA, asets, he, lay, iaddr_node, pnode, wk3, wk, seval]
   refine CT_ok (tells86 nx l e _) ?_
   rintro _ _ ⟨rfl, rfl⟩
   simp only [toldA, poolC, ansC, asets, lay, iaddr_node, pnode, wk3, wk, seval]
   exact KWk_bare (told_bare nx l e 0) ⟨told e, rfl⟩
 have h_14 : k = 14 := by omega
 ·simp only [h_14, lay, iaddr_node, pnode, wk3, wk, seval]
  refine CT_ok (rdestroyL l hM i _) ?_
  rintro _ _ ⟨rfl, rfl⟩
  have hm := destroyA_may hM i
  have hne : StepN nx nx l (destroyA l i).1 := ⟨fun h => destroyA_ne hM h i, destroyA_ids i⟩
  generalize destroyA l i = r at hm hne
  obtain ⟨l', e⟩ := r
  by_cases he : e = 0
  ·simp only [outA, asets, he, h_14, w1, lay, iaddr_node, pnode, wk3, wk, seval]
   exact KWk_bare (told_bare nx l' 0 0) ⟨⟨l', nx, 0, 0, hm, hne, Int.le_refl _, by omega, rfl⟩, rfl⟩
  ·simp only [outA, asets, he, lay, iaddr_node, pnode, wk3, wk, seval]
   refine CT_ok (tells86 nx l e _) ?_
   rintro _ _ ⟨rfl, rfl⟩
   simp only [toldA, poolC, ansC, asets, lay, iaddr_node, pnode, wk3, wk, seval]
   exact KWk_bare (told_bare nx l e 0) ⟨told e, rfl⟩
end Go.Proofs.YtemjlopoffjmpaaGreat.Abs
set_option linter.unusedSimpArgs false
set_option linter.unusedVariables false
namespace Go.Proofs.YtemjlopoffjmpaaGreat.Abs
open Go Go.Proofs
theorem files88 (l : List Dset) (hM : MayL l) (nx k i m : Int) (hk : 1 ≤ k ∧ k ≤ 5) (p q t : List UInt8) (hp : p.length ≤ 1000000) (hq : q.length ≤ 1000000) (ht : t.length ≤ 1000000) (H : AH) :
 C Tryz.prog 88 [.agg (poolC nx (asets l)), editA k i m p q t] H (fun y H' => H' = H ∧ PoolR nx l y) :=
 (C_pure (K0 := PoolR nx l) (files88_0 l hM nx k i m hk p q t hp hq ht) (fun τ => renL_bare τ _ (by simp [bareL, bare, asets, poolC, editA])) (by intro x hx τ; exact ren_bare _ _ hx.bare) H).mono fun y H' h => ⟨h.2, h.1⟩
theorem sets89 (l : List Dset) (hM : MayL l) (nx k i m : Int) (hk : 9 ≤ k ∧ k ≤ 14) (hnx : 0 ≤ nx ∧ nx ≤ 1000000) (p q t : List UInt8) (H : AH) :
 C Tryz.prog 89 [.agg (poolC nx (asets l)), editA k i m p q t] H (fun y H' => H' = H ∧ PoolR nx l y) :=
 (C_pure (K0 := PoolR nx l) (sets89_0 l hM nx k i m hk hnx p q t) (fun τ => renL_bare τ _ (by simp [bareL, bare, asets, poolC, editA])) (by intro x hx τ; exact ren_bare _ _ hx.bare) H).mono fun y H' h => ⟨h.2, h.1⟩
set_option maxRecDepth 8000 in
set_option maxHeartbeats 2000000 in
theorem do47_0 (l : List Dset) (hM : MayL l) (nx k i m : Int) (hk : 1 ≤ k ∧ (k ≤ 5 ∨ 9 ≤ k) ∧ k ≤ 14) (hnx : 0 ≤ nx ∧ nx ≤ 1000000) (p q t : List UInt8) (hp : p.length ≤ 1000000) (hq : q.length ≤ 1000000) (ht : t.length ≤ 1000000) :
 C Tryz.prog 47 [.agg (poolC nx (asets l)), editA k i m p q t] [] (fun y H' => PoolR nx l y ∧ H' = []) := by
 have h1 : ¬ k < 1 := by omega
 have h22 : ¬ 22 < k := by omega
 have h14 : k ≤ 14 := hk.2.2
 refine C_body' d47 rfl (WT_ok ?_)
 unfold c47
 by_cases h8 : k ≤ 8
 ·simp only [h1, h22, h8, poolC, editA, asets, lay, iaddr_node, pnode, wk3, wk, seval]
  refine CT_ok (files88 l hM nx k i m (by omega) p q t hp hq ht _) ?_
  rintro _ _ ⟨rfl, l', nx', e, m', r1, r2, r3, r4, rfl⟩
  simp only [toldA, poolC, ansC, asets, lay, iaddr_node, pnode, wk3, wk, seval]
  exact KWk_bare (told_bare nx' l' e m') ⟨⟨l', nx', e, m', r1, r2, r3, r4, rfl⟩, rfl⟩
 ·simp only [h1, h22, h8, h14, poolC, editA, asets, lay, iaddr_node, pnode, wk3, wk, seval]
  refine CT_ok (sets89 l hM nx k i m (by omega) hnx p q t _) ?_
  rintro _ _ ⟨rfl, l', nx', e, m', r1, r2, r3, r4, rfl⟩
  simp only [toldA, poolC, ansC, asets, lay, iaddr_node, pnode, wk3, wk, seval]
  exact KWk_bare (told_bare nx' l' e m') ⟨⟨l', nx', e, m', r1, r2, r3, r4, rfl⟩, rfl⟩
theorem do47 (l : List Dset) (hM : MayL l) (nx k i m : Int) (hk : 1 ≤ k ∧ (k ≤ 5 ∨ 9 ≤ k) ∧ k ≤ 14) (hnx : 0 ≤ nx ∧ nx ≤ 1000000) (p q t : List UInt8) (hp : p.length ≤ 1000000) (hq : q.length ≤ 1000000) (ht : t.length ≤ 1000000) (H : AH) :
 C Tryz.prog 47 [.agg (poolC nx (asets l)), editA k i m p q t] H (fun y H' => H' = H ∧ PoolR nx l y) :=
 (C_pure (K0 := PoolR nx l) (do47_0 l hM nx k i m hk hnx p q t hp hq ht) (fun τ => renL_bare τ _ (by simp [bareL, bare, asets, poolC, editA])) (by intro x hx τ; exact ren_bare _ _ hx.bare) H).mono fun y H' h => ⟨h.2, h.1⟩
end Go.Proofs.YtemjlopoffjmpaaGreat.Abs
set_option linter.unusedSimpArgs false
set_option linter.unusedVariables false
namespace Go.Proofs.YtemjlopoffjmpaaGreat.Abs
open Go Go.Proofs
def StepAt (l : List UInt8) (n : Int) (R : AH) (x : AV) (H' : AH) : Prop := ∃ (k i m n' : Int) (p q t : List UInt8), p.length ≤ 1000000 ∧ q.length ≤ 1000000 ∧ t.length ≤ 1000000 ∧ (n ≤ n' ∧ 1 ≤ k ∧ (k ≤ 5 ∨ 9 ≤ k) ∧ k ≤ 14) ∧ x = editA k i m p q t ∧ H' = some [[.fz (l.map pbyte), .int .i64 n']] :: R
theorem set_at45 (l : List UInt8) (n i : Int) (hn : 0 ≤ n) (hl : l.length ≤ 1000000) (R : AH) :
 C Tryz.prog 45 [.ptr 0 0 0 1, .int .i64 i] (some [[.fz (l.map pbyte), .int .i64 n]] :: R) (StepAt l n R) := by
 refine C_call (K0 := StepR l n) [0] (by simp) (by simp) ?_ ?_
 ·exact set45 l n i hn hl
 ·rintro _ _ ⟨k, i', m, n', p, q, t, h1, h2, h3, h4, rfl, rfl⟩
  exact ⟨Nat.le_refl _, k, i', m, n', p, q, t, h1, h2, h3, h4, by simp [editA, ren, renL], by simp [back, setAll, picksH, renO, renL, ren]⟩
theorem edit_at (l : List UInt8) (n i : Int) (hn : 0 ≤ n) (hl : l.length ≤ 1000000) (R : AH) :
 C Tryz.prog 46 [.ptr 0 0 0 1, .int .i64 i] (some [[.fz (l.map pbyte), .int .i64 n]] :: R) (StepAt l n R) := by
 refine C_call (K0 := EditR l n) [0] (by simp) (by simp) ?_ ?_
 ·exact edit_spec l n i hn hl
 ·rintro _ _ ⟨k, i', m, n', p, q, t, h1, h2, h3, h4, rfl, rfl⟩
  exact ⟨Nat.le_refl _, k, i', m, n', p, q, t, h1, h2, h3, by omega, by simp [editA, ren, renL], by simp [back, setAll, picksH, renO, renL, ren]⟩
theorem over_at (l : List UInt8) (n : Int) (R : AH) :
 C Tryz.prog 43 [.ptr 0 0 0 1] (some [[.fz (l.map pbyte), .int .i64 n]] :: R) (fun x H' => x = .bool (decide ((l.map pbyte).length ≤ n)) ∧ H' = some [[.fz (l.map pbyte), .int .i64 n]] :: R) := by
 refine C_call (K0 := fun x H' => x = .bool (decide ((l.map pbyte).length ≤ n)) ∧ H' = [some [[.fz (l.map pbyte), .int .i64 n]]]) [0] (by simp) (by simp) ?_ ?_
 ·exact over_spec (l.map pbyte) n
 ·rintro _ _ ⟨rfl, rfl⟩
  exact ⟨Nat.le_refl _, by simp [ren], by simp [back, setAll, renO, renL, ren]⟩
theorem Wk_three {fr fr' : List AV} {o o' : AObj} {G : AH} (ho : o.map (renL (upTo 3)) = o) (ho' : o'.map (renL (upTo 3)) = o') (h : Tops fr' (renL (upTo 3) fr)) : Wk 1 fr (some o :: none :: some o' :: G) fr' [some o, none, some o'] := by
 have h1 := (Wk_forget (n0 := 1) (fr := fr) (H := some o :: none :: some o' :: G) 3 (by omega)).trans (Wk_tops h)
 have e : mapH (renL (upTo 3)) ((some o :: none :: some o' :: G).take 3) = [some o, none, some o'] := by
  simp only [List.take_succ_cons, List.take_zero, mapH, List.map_cons, List.map_nil, Option.map_some, Option.map_none, ho, ho']
 rwa [e] at h1
theorem renO_pool (τ : Nat → Option Nat) (nx : Int) (l : List Dset) : List.map (renL τ) [poolC nx (asets l)] = [poolC nx (asets l)] := by simp [poolC, asets, renL, ren]
theorem renO_picks (τ : Nat → Option Nat) (l : List UInt8) (n : Int) : List.map (renL τ) [[AV.fz (l.map pbyte), .int .i64 n]] = [[AV.fz (l.map pbyte), .int .i64 n]] := by simp [renL, ren]
def firstD : Dset := ⟨1, 1, 0, 0, newA⟩
theorem firstD_may : MayL [firstD] := by
 refine ⟨by decide, by simp, fun d hd => ?_, fun i => i.toNat, fun d hd o ho e => ?_⟩
 ·rw [List.mem_singleton] at hd
  subst hd
  exact ⟨⟨by decide, by decide⟩, ⟨by decide, by decide⟩, newA_wf, .inl rfl, fun e => absurd e (by decide), fun _ => .inl rfl⟩
 ·rw [List.mem_singleton] at hd ho
  subst hd; subst ho
  exact absurd e (by decide)
def SetsR (l : List UInt8) (n : Int) (x : AV) (H' : AH) : Prop := ∃ L n', MayL L ∧ L ≠ [] ∧ (n ≤ n' ∧ ∀ d ∈ L, d.id < 900) ∧ x = asets L ∧ H' = picksH l n'
theorem KWk_list {l : List UInt8} {n n' : Int} {L : List Dset} {R : AH} (h : MayL L) (hne : L ≠ []) (hn : n ≤ n' ∧ ∀ d ∈ L, d.id < 900) : KWk 1 (SetsR l n) (asets L) (some [[.fz (l.map pbyte), .int .i64 n']] :: R) := by
 refine ⟨_, _, ?_, L, n', h, hne, hn, rfl, rfl⟩
 have h := Wk_forget (n0 := 1) (fr := [asets L]) (H := some [[.fz (l.map pbyte), .int .i64 n']] :: R) 1 (Nat.le_refl _)
 simpa [mapH, renL, ren, asets, picksH] using h
theorem Wk_first {fr fr' : List AV} (l : List UInt8) (n : Int) (h : Tops fr' (renL (upTo 3) (frzL 1 [pdset firstD] fr))) :
 Wk 1 fr [some [[.fz (l.map pbyte), .int .i64 n]], some [cellD firstD], some [poolC 2 (.own 1 5 0 1 1)]] fr' [some [[.fz (l.map pbyte), .int .i64 n]], none, some [poolC 2 (asets [firstD])]] := by
 have h1 := Wk_freeze (n0 := 1) (fr := fr) (H := [some [[.fz (l.map pbyte), .int .i64 n]], some [cellD firstD], some [poolC 2 (.own 1 5 0 1 1)]]) 1 [pdset firstD] rfl
 have e : mapH (frzL 1 [pdset firstD]) (List.set [some [[AV.fz (l.map pbyte), .int .i64 n]], some [cellD firstD], some [poolC 2 (.own 1 5 0 1 1)]] 1 none) = [some [[.fz (l.map pbyte), .int .i64 n]], none, some [poolC 2 (asets [firstD])]] := by
  simp [mapH, frzL, frz, poolC, asets]
 rw [e] at h1
 exact h1.trans (Wk_three (renO_picks _ l n) (renO_pool _ _ _) h)
set_option maxRecDepth 8000 in
set_option maxHeartbeats 4000000 in
theorem sets14 (l : List UInt8) (n : Int) (most : Nat) (hm : most ≤ 100) (hn : 0 ≤ n) (hl : l.length ≤ 1000000) :
 C Tryz.prog 14 [.ptr 0 0 0 1, .int .i64 most] (picksH l n) (SetsR l n) := by
 refine C_body' d14 rfl (WT_ok ?_)
 unfold c14
 simp only [picksH, lay, iaddr_node, pnode, wk3, wk, seval]
 refine CT_ok (new_spec _) ?_
 rintro _ _ ⟨rfl, rfl⟩
 simp only [aset, lay, iaddr_node, pnode, wk3, wk, seval]
 refine WT_loop (W_wk (fr' := [.ptr 0 0 0 1, .int .i64 most, .top, .top, .emp, .ptr 2 0 0 1, .int .i64 (0 : Nat)] ++ List.replicate 37 .top) (Wk_first l n ?_) (W_loop (fun nn fr H' => ∃ (j : Nat) (L : List Dset) (nx n' : Int), j ≤ most ∧ nn = most - j ∧ MayL L ∧ L ≠ [] ∧ ((0 ≤ nx ∧ nx ≤ 2 + j) ∧ ∀ d ∈ L, d.id < nx) ∧ n ≤ n' ∧ H' = [some [[.fz (l.map pbyte), .int .i64 n']], none, some [poolC nx (asets L)]] ∧
  fr = [.ptr 0 0 0 1, .int .i64 most, .top, .top, .emp, .ptr 2 0 0 1, .int .i64 j] ++ List.replicate 37 .top) most ⟨0, [firstD], 2, n, by omega, rfl, firstD_may, by simp, ⟨by omega, by simp [firstD]⟩, by omega, rfl, rfl⟩ ?_))
 ·simp only [frzL, frz, renL, ren, upTo, show (0 : Nat) < 3 by omega, show (2 : Nat) < 3 by omega, show ¬ (0 : Nat) = 1 by omega, show ¬ (2 : Nat) = 1 by omega, if_true, if_false, List.replicate_succ, List.replicate_zero, List.cons_append, List.nil_append, Tops_top, Tops_same, Tops_nil, Int.natCast_zero]
 rintro nn fr H ⟨j, L, nx, n', hj, rfl, hL, hne, ⟨hnx, hid⟩, hn', rfl, rfl⟩
 have hid9 : ∀ d ∈ L, d.id < 900 := fun d hd => by have := hid d hd; omega
 refine WT_ok ?_
 simp only [poolC, asets, lay, iaddr_node, pnode, wk3, wk, seval]
 by_cases h : (j : Int) < most
 case neg =>
  simp only [h, lay, iaddr_node, pnode, wk3, wk, seval]
  exact KWk_list hL hne ⟨hn', hid9⟩
 simp only [h, lay, iaddr_node, pnode, wk3, wk, seval]
 refine CT_ok (over_at l n' _) ?_
 rintro _ _ ⟨rfl, rfl⟩
 simp only [h, lay, iaddr_node, pnode, wk3, wk, seval]
 refine guard_both ?_ ?_ <;> intro h2 <;> simp only [hy] at h2
 ·simp only [h, h2, lay, iaddr_node, pnode, wk3, wk, seval]
  have w2 : IntKind.i64.wrap ((j : Int) + 1) = (j : Int) + 1 := IntWalk.i64_in _ (by omega)
  refine CT_ok (num_at l n' 8 (by omega) hl _) ?_
  rintro _ H ⟨m1, n1, rfl, k1, k2, k3, k4, _, rfl⟩
  have g1 : m1 < 8 := k2 (by omega)
  have w1 : IntKind.i64.wrap (1 + m1) = 1 + m1 := IntWalk.i64_in _ (by omega)
  simp only [w1, lay, iaddr_node, pnode, wk3, wk, seval]
  refine CT_ok (set_at45 l n1 (1 + m1) (by omega) hl _) ?_
  rintro _ H ⟨k, i, m, n2, p, q, t, hp, hq, ht, hk, rfl, rfl⟩
  simp only [editA, lay, iaddr_node, pnode, wk3, wk, seval]
  refine CT_ok (num_at l n2 3 (by omega) hl _) ?_
  rintro _ H ⟨m3, n3, rfl, j1, j2, j3, j4, _, rfl⟩
  simp only [lay, iaddr_node, pnode, wk3, wk, seval]
  by_cases h3 : 0 < m3
  ·simp only [h3, lay, iaddr_node, pnode, wk3, wk, seval]
   refine CT_ok (edit_at l n3 (1 + m1) (by omega) hl _) ?_
   rintro _ H ⟨k, i, m, n4, p, q, t, hp, hq, ht, hk, rfl, rfl⟩
   simp only [editA, lay, iaddr_node, pnode, wk3, wk, seval]
   refine CT_ok (do47 L hL nx k i m hk.2 (by omega) p q t hp hq ht _) ?_
   rintro _ _ ⟨rfl, L', nx', e, m', r1, r2, r3, r4, rfl⟩
   simp only [toldA, poolC, ansC, asets, w2, lay, iaddr_node, pnode, wk3, wk, seval]
   refine QLoop_wk (n' := most - (j + 1)) (by omega) ⟨j + 1, L', nx', n4, by omega, rfl, r1, r2.1 hne, ⟨by omega, r2.2 hid⟩, by omega, rfl, rfl⟩ (Wk_three (renO_picks _ l _) (renO_pool _ nx' L') ?_)
   simp only [renL, ren, upTo, show (0 : Nat) < 3 by omega, show (2 : Nat) < 3 by omega, if_true, List.replicate_succ, List.replicate_zero, List.cons_append, List.nil_append, Tops_top, Tops_same, Tops_nil, Int.natCast_add, Int.natCast_one]
  ·simp only [h3, lay, iaddr_node, pnode, wk3, wk, seval]
   refine CT_ok (do47 L hL nx k i m hk.2 (by omega) p q t hp hq ht _) ?_
   rintro _ _ ⟨rfl, L', nx', e, m', r1, r2, r3, r4, rfl⟩
   simp only [toldA, poolC, ansC, asets, w2, lay, iaddr_node, pnode, wk3, wk, seval]
   refine QLoop_wk (n' := most - (j + 1)) (by omega) ⟨j + 1, L', nx', n3, by omega, rfl, r1, r2.1 hne, ⟨by omega, r2.2 hid⟩, by omega, rfl, rfl⟩ (Wk_three (renO_picks _ l _) (renO_pool _ nx' L') ?_)
   simp only [renL, ren, upTo, show (0 : Nat) < 3 by omega, show (2 : Nat) < 3 by omega, if_true, List.replicate_succ, List.replicate_zero, List.cons_append, List.nil_append, Tops_top, Tops_same, Tops_nil, Int.natCast_add, Int.natCast_one]
 ·simp only [h, h2, lay, iaddr_node, pnode, wk3, wk, seval]
  exact KWk_list hL hne ⟨hn', hid9⟩
end Go.Proofs.YtemjlopoffjmpaaGreat.Abs
namespace Go.Proofs.YtemjlopoffjmpaaGreat.Abs
open Go
end Go.Proofs.YtemjlopoffjmpaaGreat.Abs
set_option linter.unusedSimpArgs false
set_option linter.unusedVariables false
namespace Go.Proofs.YtemjlopoffjmpaaGreat.Abs
open Go Go.Proofs
end Go.Proofs.YtemjlopoffjmpaaGreat.Abs
set_option linter.unusedSimpArgs false
set_option linter.unusedVariables false
namespace Go.Proofs.YtemjlopoffjmpaaGreat.Abs
open Go Go.Proofs
section
variable (l : List Dset) (hl : Short l) (a b : Int) (H : AH)
include hl
end
end Go.Proofs.YtemjlopoffjmpaaGreat.Abs
namespace Go.Proofs.YtemjlopoffjmpaaGreat.Abs
open Go
end Go.Proofs.YtemjlopoffjmpaaGreat.Abs
namespace Go.Proofs.YtemjlopoffjmpaaGreat.Abs
open Go
end Go.Proofs.YtemjlopoffjmpaaGreat.Abs
namespace Go.Proofs.YtemjlopoffjmpaaGreat.Abs
open Go
end Go.Proofs.YtemjlopoffjmpaaGreat.Abs
namespace Go.Proofs.YtemjlopoffjmpaaGreat.Abs
open Go
end Go.Proofs.YtemjlopoffjmpaaGreat.Abs
namespace Go.Proofs.YtemjlopoffjmpaaGreat.Abs
open Go
end Go.Proofs.YtemjlopoffjmpaaGreat.Abs
namespace Go.Proofs.YtemjlopoffjmpaaGreat.Abs
open Go
end Go.Proofs.YtemjlopoffjmpaaGreat.Abs
namespace Go.Proofs.YtemjlopoffjmpaaGreat.Abs
open Go
end Go.Proofs.YtemjlopoffjmpaaGreat.Abs
namespace Go.Proofs.YtemjlopoffjmpaaGreat.Abs
open Go
end Go.Proofs.YtemjlopoffjmpaaGreat.Abs
namespace Go.Proofs.YtemjlopoffjmpaaGreat.Abs
open Go
end Go.Proofs.YtemjlopoffjmpaaGreat.Abs
namespace Go.Proofs.YtemjlopoffjmpaaGreat.Abs
open Go
end Go.Proofs.YtemjlopoffjmpaaGreat.Abs
namespace Go.Proofs.YtemjlopoffjmpaaGreat.Abs
open Go
end Go.Proofs.YtemjlopoffjmpaaGreat.Abs
namespace Go.Proofs.YtemjlopoffjmpaaGreat.Abs
open Go
end Go.Proofs.YtemjlopoffjmpaaGreat.Abs
namespace Go.Proofs.YtemjlopoffjmpaaGreat.Abs
open Go
end Go.Proofs.YtemjlopoffjmpaaGreat.Abs
namespace Go.Proofs.YtemjlopoffjmpaaGreat.Abs
open Go
end Go.Proofs.YtemjlopoffjmpaaGreat.Abs
namespace Go.Proofs.YtemjlopoffjmpaaGreat.Abs
open Go
end Go.Proofs.YtemjlopoffjmpaaGreat.Abs
namespace Go.Proofs.YtemjlopoffjmpaaGreat.Abs
open Go
end Go.Proofs.YtemjlopoffjmpaaGreat.Abs
namespace Go.Proofs.YtemjlopoffjmpaaGreat.Abs
open Go
end Go.Proofs.YtemjlopoffjmpaaGreat.Abs
namespace Go.Proofs.YtemjlopoffjmpaaGreat.Abs
open Go
end Go.Proofs.YtemjlopoffjmpaaGreat.Abs
namespace Go.Proofs.YtemjlopoffjmpaaGreat.Abs
open Go
def nf : PV := .fz [[.int .i64 2, .int .i64 0, .str [], .str [], .int .i64 0], [.int .i64 0, .int .i64 0, .str [], .str [], .int .i64 0], [.int .i64 0, .int .i64 0, .str [], .str [], .int .i64 0], [.int .i64 0, .int .i64 0, .str [], .str [], .int .i64 0], [.int .i64 0, .int .i64 0, .str [], .str [], .int .i64 0], [.int .i64 0, .int .i64 0, .str [], .str [], .int .i64 0], [.int .i64 0, .int .i64 0, .str [], .str [], .int .i64 0], [.int .i64 0, .int .i64 0, .str [], .str [], .int .i64 0]]
def m1 : Memo := ⟨24, [.fz [[.int .i64 1, .int .i64 1, .int .i64 0, .int .i64 0, nf]], .int .i64 2, .int .i64 1], .tuple [.fz [[.int .i64 1, .int .i64 1, .int .i64 0, .int .i64 0, nf], [.int .i64 2, .int .i64 2, .int .i64 1, .int .i64 0, nf]], .int .i64 0]⟩
def m2 : Memo := ⟨25, [.fz [[.int .i64 1, .int .i64 1, .int .i64 0, .int .i64 0, nf], [.int .i64 2, .int .i64 2, .int .i64 1, .int .i64 0, nf]], .int .i64 3, .int .i64 2], .tuple [.fz [[.int .i64 1, .int .i64 1, .int .i64 0, .int .i64 0, nf], [.int .i64 2, .int .i64 2, .int .i64 1, .int .i64 0, nf], [.int .i64 3, .int .i64 1, .int .i64 2, .int .i64 0, nf]], .int .i64 0]⟩
def m3 : Memo := ⟨29, [.fz [[.int .i64 1, .int .i64 1, .int .i64 0, .int .i64 0, nf], [.int .i64 2, .int .i64 2, .int .i64 1, .int .i64 0, nf], [.int .i64 3, .int .i64 1, .int .i64 2, .int .i64 0, nf]], .int .i64 3], .tuple [.fz [[.int .i64 1, .int .i64 1, .int .i64 2, .int .i64 0, nf], [.int .i64 2, .int .i64 2, .int .i64 3, .int .i64 0, nf], [.int .i64 3, .int .i64 1, .int .i64 0, .int .i64 0, nf]], .int .i64 0]⟩
def m4 : Memo := ⟨32, [.fz [[.int .i64 1, .int .i64 1, .int .i64 2, .int .i64 0, nf], [.int .i64 2, .int .i64 2, .int .i64 3, .int .i64 0, nf], [.int .i64 3, .int .i64 1, .int .i64 0, .int .i64 0, nf]], .int .i64 2], .tuple [.fz [[.int .i64 1, .int .i64 1, .int .i64 2, .int .i64 0, nf], [.int .i64 2, .int .i64 2, .int .i64 3, .int .i64 0, nf], [.int .i64 3, .int .i64 1, .int .i64 0, .int .i64 0, nf]], .int .i64 10]⟩
end Go.Proofs.YtemjlopoffjmpaaGreat.Abs
set_option linter.unusedSimpArgs false
set_option linter.unusedVariables false
namespace Go.Proofs.YtemjlopoffjmpaaGreat.Abs
open Go Go.Proofs
theorem pick_index {n : Int} (hn : 0 ≤ n) {m : Nat} (hm : 0 < m) : ∃ k : Nat, n.tmod (m : Int) = k ∧ k < m := by
 have h1 := Int.tmod_nonneg (m : Int) hn
 have h2 := Int.tmod_lt_of_pos n (show (0 : Int) < m by omega)
 exact ⟨(n.tmod (m : Int)).toNat, by omega, by omega⟩
end Go.Proofs.YtemjlopoffjmpaaGreat.Abs
set_option linter.unusedSimpArgs false
set_option linter.unusedVariables false
namespace Go.Proofs.YtemjlopoffjmpaaGreat.Abs
open Go Go.Proofs
theorem made_at (l : List UInt8) (H : AH) : C Tryz.prog 13 [.fz (l.map pbyte)] H (fun x H' => x = .ptr H.length 0 0 1 ∧ H' = H ++ [some [[.fz (l.map pbyte), .int .i64 0]]]) :=
 C_call [] List.nodup_nil (fun r hr => by cases hr) (by simpa [renL, ren] using made_spec l) (by rintro _ _ ⟨rfl, rfl⟩; exact ⟨Nat.zero_le _, by simp [ren, toCaller, back, setAll, picksH, renO, renL]⟩)
theorem pset_at (l : List UInt8) (n : Int) (most : Nat) (hm : most ≤ 1000000) (hn : 0 ≤ n) (hl : l.length ≤ 1000000) (r : Nat) (H : AH) (hr : H.at r = some [[.fz (l.map pbyte), .int .i64 n]]) :
 C Tryz.prog 15 [.ptr r 0 0 1, .int .i64 most] H (fun x H' => ∃ t n', Wf t ∧ n ≤ n' ∧ x = aset t ∧ H' = H.set r (some [[.fz (l.map pbyte), .int .i64 n']])) := by
 refine C_call [r] (by simp) (by simpa using at_lt hr) (K0 := fun x H' => ∃ t n', Wf t ∧ n ≤ n' ∧ x = aset t ∧ H' = picksH l n') ?_ ?_
 ·simpa [renL, ren, toCallee, hr, renO, picksH] using set_spec l n most hm hn hl
 ·rintro _ _ ⟨u, n', hu, hn', rfl, rfl⟩
  refine ⟨by simp [picksH], u, n', hu, hn', by simp [aset, ren], ?_⟩
  simp [back, setAll, picksH, renO, renL, ren]
def reqA (l : List Dset) (k : Nat) (q : Int) : List Dset := if (l.getD k default).kind = 1 then l.set k { l.getD k default with quota := q } else l
theorem reqA_len (l : List Dset) (k : Nat) (q : Int) : (reqA l k q).length = l.length := by unfold reqA; split; exact List.length_set; rfl
theorem reqA_map {l : List Dset} (h : MayL l) {k : Nat} (hk : k < l.length) (q : Int) : reqA l k q = l.map fun d => if d.id = (l.getD k default).id ∧ d.kind = 1 then { d with quota := q } else d := by
 unfold reqA
 split
 ·rename_i h1
  rw [set_map h hk (fun d => { d with quota := q })]
  apply List.map_congr_left
  intro d hd
  by_cases e : d.id = (l.getD k default).id
  ·rw [if_pos e, if_pos ⟨e, by rw [h.inj' hd (dgetD_mem hk) e]; exact h1⟩]
  ·rw [if_neg e, if_neg (fun h => e h.1)]
 ·rename_i h1
  conv => lhs; rw [← List.map_id l]
  apply List.map_congr_left
  intro d hd
  rw [if_neg (fun h2 => h1 (by rw [← h.inj' hd (dgetD_mem hk) h2.1]; exact h2.2))]; rfl
theorem reqA_may {l : List Dset} (h : MayL l) {k : Nat} (hk : k < l.length) {q : Int} (hq : 0 ≤ q ∧ q ≤ 255) : MayL (reqA l k q) := by
 rw [reqA_map h hk q]
 generalize (l.getD k default).id = i
 have hid : ∀ d : Dset, (if d.id = i ∧ d.kind = 1 then { d with quota := q } else d).id = d.id := fun d => by split <;> rfl
 have hkd : ∀ d : Dset, (if d.id = i ∧ d.kind = 1 then { d with quota := q } else d).kind = d.kind := fun d => by split <;> rfl
 have hor : ∀ d : Dset, (if d.id = i ∧ d.kind = 1 then { d with quota := q } else d).origin = d.origin := fun d => by split <;> rfl
 have hfl : ∀ d : Dset, (if d.id = i ∧ d.kind = 1 then { d with quota := q } else d).files = d.files := fun d => by split <;> rfl
 obtain ⟨r, hr⟩ := h.tree
 refine ⟨by rw [List.length_map]; exact h.len, ?_, fun d hd => ?_, r, fun d hd o ho e => ?_⟩
 ·rw [List.pairwise_map]
  refine h.sorted.imp fun hab => ?_
  rw [hid, hid]; exact hab
 ·obtain ⟨d0, h0, rfl⟩ := List.mem_map.1 hd
  have hm := h.each d0 h0
  refine ⟨by rw [hid]; exact hm.id, ?_, by rw [hfl]; exact hm.files, by rw [hkd]; exact hm.kinds, fun e => ?_, fun e => ?_⟩
  ·split
   ·exact hq
   ·exact hm.quota
  ·rw [hkd] at e
   obtain ⟨h1, o, ho, hoi, hok⟩ := hm.snap e
   refine ⟨?_, _, List.mem_map.2 ⟨o, ho, rfl⟩, by rw [hid, hor]; exact hoi, by rw [hkd]; exact hok⟩
   rw [if_neg (fun h => by omega)]; exact h1
  ·rw [hkd] at e
   rcases hm.live e with h1 | ⟨o, ho, hoi, hok⟩
   ·exact .inl (by rw [hor]; exact h1)
   ·exact .inr ⟨_, List.mem_map.2 ⟨o, ho, rfl⟩, by rw [hid, hor]; exact hoi, by rw [hkd]; exact hok⟩
 ·obtain ⟨d0, h0, rfl⟩ := List.mem_map.1 hd
  obtain ⟨o0, h1, rfl⟩ := List.mem_map.1 ho
  rw [hid, hid]
  rw [hid, hor] at e
  exact hr d0 h0 o0 h1 e
end Go.Proofs.YtemjlopoffjmpaaGreat.Abs
namespace Go.Proofs.YtemjlopoffjmpaaGreat.Abs
open Go
def c12 : ACode :=
 (.seq (.reg [⟨some 0, none, .mv (.c (.bool false))⟩])
 (.seq (.reg [⟨some 11, none, .call 34 []⟩,
  ⟨some 12, none, .call 41 [(.t 11), (.c (.str [97])), (.c (.int .i64 1))]⟩,
  ⟨some 10, none, .mv (.t 12)⟩,
  ⟨some 13, none, .ext (.t 10) 0⟩,
  ⟨some 14, none, .ext (.t 10) 1⟩,
  ⟨some 1, none, .mv (.t 13)⟩,
  ⟨some 2, none, .mv (.t 14)⟩])
 (.seq (.reg [⟨some 16, none, .mv (.t 1)⟩,
  ⟨some 17, none, .call 42 [(.t 16), (.c (.str [97])), (.c (.int .i64 0)), (.c (.str [120]))]⟩,
  ⟨some 15, none, .mv (.t 17)⟩,
  ⟨some 18, none, .ext (.t 15) 0⟩,
  ⟨some 19, none, .ext (.t 15) 1⟩,
  ⟨some 1, none, .mv (.t 18)⟩])
 (.seq (.reg [⟨some 20, none, .call 34 []⟩,
  ⟨some 21, none, .build [.int .i64 0, .int .i64 0, .int .i64 0, .int .i64 0, .emp] [(0, 1, (.c (.int .i64 1))), (1, 1, (.c (.int .i64 1))), (3, 1, (.c (.int .i64 1))), (4, 1, (.t 20))]⟩,
  ⟨some 22, none, .bslice 5 1 [.int .i64 0, .int .i64 0, .int .i64 0, .int .i64 0, .emp] [(0, (.t 21))]⟩,
  ⟨some 3, none, .mv (.t 22)⟩])
 (.seq (.reg [⟨some 24, none, .mv (.t 3)⟩,
  ⟨some 25, none, .mv (.t 1)⟩,
  ⟨some 26, none, .call 16 [(.t 24), (.c (.int .i64 1)), (.t 25)]⟩,
  ⟨some 23, none, .mv (.t 26)⟩,
  ⟨some 27, none, .ext (.t 23) 0⟩,
  ⟨some 28, none, .ext (.t 23) 1⟩,
  ⟨some 4, none, .mv (.t 27)⟩,
  ⟨some 5, none, .mv (.t 28)⟩])
 (.seq (.reg [⟨some 30, none, .mv (.t 1)⟩,
  ⟨some 31, none, .call 42 [(.t 30), (.c (.str [97])), (.c (.int .i64 40)), (.c (.str [120]))]⟩,
  ⟨some 29, none, .mv (.t 31)⟩,
  ⟨some 32, none, .ext (.t 29) 0⟩,
  ⟨some 33, none, .ext (.t 29) 1⟩,
  ⟨some 6, none, .mv (.t 32)⟩,
  ⟨some 7, none, .mv (.t 33)⟩])
 (.seq (.reg [⟨some 35, none, .mv (.t 4)⟩,
  ⟨some 36, none, .mv (.t 6)⟩,
  ⟨some 37, none, .call 16 [(.t 35), (.c (.int .i64 1)), (.t 36)]⟩,
  ⟨some 34, none, .mv (.t 37)⟩,
  ⟨some 38, none, .ext (.t 34) 0⟩,
  ⟨some 39, none, .ext (.t 34) 1⟩,
  ⟨some 8, none, .mv (.t 38)⟩,
  ⟨some 9, none, .mv (.t 39)⟩])
 (.seq (.reg [⟨some 40, none, .mv (.t 1)⟩,
  ⟨some 41, none, .call 19 [(.t 40)]⟩,
  ⟨some 42, none, .bini .eql (.t 41) (.c (.int .i64 1))⟩,
  ⟨some 43, none, .mv (.t 42)⟩,
  ⟨some 44, (some (43, true)), .mv (.t 5)⟩,
  ⟨some 45, (some (43, true)), .bini .eql (.t 44) (.c (.int .i64 0))⟩,
  ⟨some 46, none, .pick (.t 43) (.t 45) (.c (.bool false))⟩,
  ⟨some 47, none, .mv (.t 46)⟩,
  ⟨some 48, (some (47, true)), .mv (.t 4)⟩,
  ⟨some 49, (some (47, true)), .len false (.t 48)⟩,
  ⟨some 50, (some (47, true)), .bini .eql (.t 49) (.c (.int .i64 1))⟩,
  ⟨some 51, none, .pick (.t 47) (.t 50) (.c (.bool false))⟩,
  ⟨some 52, none, .mv (.t 51)⟩,
  ⟨some 53, (some (52, true)), .mv (.t 4)⟩,
  ⟨some 54, (some (52, true)), .iaddr 5 (.t 53) (.c (.int .i64 0))⟩,
  ⟨some 55, (some (52, true)), .faddr 4 (.t 54)⟩,
  ⟨some 56, (some (52, true)), .load false 1 (.t 55)⟩,
  ⟨some 57, (some (52, true)), .mv (.t 1)⟩,
  ⟨some 58, (some (52, true)), .call 28 [(.t 56), (.t 57)]⟩,
  ⟨some 59, none, .pick (.t 52) (.t 58) (.c (.bool false))⟩,
  ⟨some 60, none, .mv (.t 59)⟩,
  ⟨some 61, (some (60, true)), .mv (.t 9)⟩,
  ⟨some 62, (some (60, true)), .bini .eql (.t 61) (.c (.int .i64 9))⟩,
  ⟨some 63, none, .pick (.t 60) (.t 62) (.c (.bool false))⟩,
  ⟨some 64, none, .mv (.t 63)⟩,
  ⟨some 65, (some (64, true)), .mv (.t 3)⟩,
  ⟨some 66, (some (64, true)), .call 21 [(.t 65)]⟩,
  ⟨some 67, (some (64, true)), .bini .eql (.t 66) (.c (.int .i64 5))⟩,
  ⟨some 68, none, .pick (.t 64) (.t 67) (.c (.bool false))⟩,
  ⟨some 69, none, .mv (.t 68)⟩,
  ⟨some 70, (some (69, true)), .mv (.t 4)⟩,
  ⟨some 71, (some (69, true)), .call 21 [(.t 70)]⟩,
  ⟨some 72, (some (69, true)), .bini .eql (.t 71) (.c (.int .i64 7))⟩,
  ⟨some 73, none, .pick (.t 69) (.t 72) (.c (.bool false))⟩,
  ⟨some 0, none, .mv (.t 73)⟩])
 .ret))))))))
theorem d12 : FnD Tryz.prog 12 0 74 [.tmp 0] c12 := ⟨Tryz.f12, _, Tryz.func12, by kernel_rfl, rfl, rfl, by kernel_rfl, by kernel_rfl⟩
end Go.Proofs.YtemjlopoffjmpaaGreat.Abs
namespace Go.Proofs.YtemjlopoffjmpaaGreat.Abs
open Go
def tabBegun : List (Nat × FD) := [
 (12, ⟨0, 74, [.tmp 0], c12⟩),
 (34, ⟨0, 7, [.tmp 0], c34⟩),
 (19, ⟨1, 18, [.tmp 2], c19⟩),
 (16, ⟨3, 74, [.tmp 6, .tmp 7], c16⟩),
 (41, ⟨3, 54, [.tmp 6, .tmp 7], c41⟩),
 (42, ⟨4, 64, [.tmp 8, .tmp 9], c42⟩),
 (21, ⟨1, 18, [.tmp 2], c21⟩),
 (28, ⟨2, 24, [.tmp 4], c28⟩),
 (48, ⟨1, 7, [.tmp 2], c48⟩),
 (49, ⟨1, 7, [.tmp 2], c49⟩),
 (27, ⟨2, 17, [.cell 4 true 5, .tmp 5], c27⟩),
 (50, ⟨2, 17, [.tmp 4], c50⟩),
 (51, ⟨2, 6, [.tmp 3], c51⟩),
 (78, ⟨2, 53, [.tmp 4, .tmp 5, .tmp 6], c78⟩),
 (79, ⟨3, 30, [.tmp 6, .tmp 7], c79⟩),
 (80, ⟨1, 17, [.tmp 2, .tmp 3], c80⟩),
 (81, ⟨3, 21, [.tmp 6], c81⟩),
 (82, ⟨2, 24, [.tmp 4, .tmp 5], c82⟩),
 (83, ⟨2, 11, [.tmp 4], c83⟩),
 (55, ⟨1, 25, [.tmp 2], c55⟩),
 (112, ⟨2, 18, [.tmp 4, .tmp 5], c112⟩),
 (56, ⟨1, 22, [.tmp 2], c56⟩),
 (59, ⟨2, 6, [.tmp 4], c59⟩),
 (111, ⟨2, 79, [.tmp 4], c111⟩),
 (109, ⟨1, 45, [.tmp 2, .tmp 3], c109⟩),
 (110, ⟨2, 46, [.tmp 4, .tmp 5], c110⟩),
 (101, ⟨2, 17, [.tmp 4], c101⟩),
 (102, ⟨2, 6, [.tmp 3], c102⟩),
 (127, ⟨1, 56, [.tmp 2], c127⟩),
 (129, ⟨1, 15, [.tmp 2], c129⟩)]
theorem tabBegun_ok : ∀ p ∈ tabBegun, FnD Tryz.prog p.1 p.2.np p.2.nt p.2.res p.2.ac := by
 intro p hp
 simp only [tabBegun, List.mem_cons, List.not_mem_nil, or_false] at hp
 rcases hp with rfl | rfl | rfl | rfl | rfl | rfl | rfl | rfl | rfl | rfl | rfl | rfl | rfl | rfl | rfl | rfl | rfl | rfl | rfl | rfl | rfl | rfl | rfl | rfl | rfl | rfl | rfl | rfl | rfl | rfl
 ·exact d12
 ·exact d34
 ·exact d19
 ·exact d16
 ·exact d41
 ·exact d42
 ·exact d21
 ·exact d28
 ·exact d48
 ·exact d49
 ·exact d27
 ·exact d50
 ·exact d51
 ·exact d78
 ·exact d79
 ·exact d80
 ·exact d81
 ·exact d82
 ·exact d83
 ·exact d55
 ·exact d112
 ·exact d56
 ·exact d59
 ·exact d111
 ·exact d109
 ·exact d110
 ·exact d101
 ·exact d102
 ·exact d127
 ·exact d129
end Go.Proofs.YtemjlopoffjmpaaGreat.Abs
set_option linter.unusedSimpArgs false
set_option linter.unusedVariables false
namespace Go.Proofs.YtemjlopoffjmpaaGreat.Abs
open Go
def orcL : CallF := fun f args H =>
 if f = 53 then
  match args with
  | [.str b] => some (.int .i64 (countA b), H)
  | _ => none
 else orcC f args H
theorem orcL_ok : EvOk Tryz.prog orcL := by
 intro f args H x H' h
 unfold orcL at h
 split at h
 ·rename_i hf
  subst hf
  split at h
  ·cases h
   exact parts_spec _ H
  ·cases h
 ·exact orcC_ok f args H x H' h
def fzB (f : Nat) : Bool := f == 34 || f == 81 || f == 49 || f == 16 || f == 109 || f == 111
theorem evB_ok : EvOk Tryz.prog (evF tabBegun orcL fzB 40 40) := evF_ok tabBegun_ok orcL_ok fzB 40 40
def mBegun : Memo := ⟨12, [], .bool true⟩
theorem mBegun_so : mBegun.so Tryz.prog := Memo.of evB_ok mBegun (by kernel_rfl)
end Go.Proofs.YtemjlopoffjmpaaGreat.Abs
set_option linter.unusedSimpArgs false
set_option linter.unusedVariables false
namespace Go.Proofs.YtemjlopoffjmpaaGreat.Abs
open Go Go.Proofs
theorem frz_row (r : Nat) (l : List Dset) (n : Nat) (h : n = l.length) : frz r (l.map pdset) (.own r 5 0 n n) = asets l := by
 subst h
 simp only [frz, if_true, List.length_map, Nat.zero_add, Nat.le_refl, and_self, List.drop_zero, asets]
 rw [List.take_of_length_le (by simp)]
end Go.Proofs.YtemjlopoffjmpaaGreat.Abs
set_option linter.unusedSimpArgs false
set_option linter.unusedVariables false
namespace Go.Proofs.YtemjlopoffjmpaaGreat.Abs
open Go Go.Proofs
theorem Wk_one1 {fr fr' : List AV} {o : AObj} {G : AH} (ho : o.map (renL (upTo 1)) = o) (h : Tops fr' (renL (upTo 1) fr)) : Wk 1 fr (some o :: G) fr' [some o] := by
 have h1 := (Wk_forget (n0 := 1) (fr := fr) (H := some o :: G) 1 (Nat.le_refl _)).trans (Wk_tops h)
 have e : mapH (renL (upTo 1)) ((some o :: G).take 1) = [some o] := by
  simp only [List.take_succ_cons, List.take_zero, mapH, List.map_cons, List.map_nil, Option.map_some, ho]
 rwa [e] at h1
theorem sameO0 (a b : List Dset) (ha : Short a) (hb : Short b) : C Tryz.prog 18 [asets a, .own 0 5 0 b.length b.length] [some (b.map cellD)] (fun x H' => x = .bool (decide (a = b)) ∧ H' = [some (b.map cellD)]) := by
 have ha1 := ha.1
 have hb1 := hb.1
 have hst := renO_cells (upTo 1) b
 refine C_body' d18 rfl (WT_ok ?_)
 unfold c18
 simp only [asets, lay, wk5, slicelV_own, slicelV_fz, onLive_some, RT_slicel, RE_slicel, slice3V_eq, room3_some, roomOf_own, roomOf_fz, RT_slice3, RT_calld, apI_some, clC_some, clearV_own, clearV_fz, wk3, wk, iaddrV_map, Nat.reduceAdd, Nat.reduceSub, Nat.reduceMul, Nat.reduceLeDiff, Nat.reduceEqDiff, Nat.reduceBEq, Int.reduceLE, Int.reduceLT, Int.reduceEq, Int.reduceNe, Int.reduceAdd, Int.reduceSub, Int.reduceToNat, Int.reduceNeg, ↓reduceIte, reduceCtorEq]
 by_cases hlen : a.length = b.length
 ·have hlen' : (a.length : Int) = b.length := by omega
  simp only [hlen', lay, wk5, slicelV_own, slicelV_fz, onLive_some, RT_slicel, RE_slicel, slice3V_eq, room3_some, roomOf_own, roomOf_fz, RT_slice3, RT_calld, apI_some, clC_some, clearV_own, clearV_fz, wk3, wk, iaddrV_map, Nat.reduceAdd, Nat.reduceSub, Nat.reduceMul, Nat.reduceLeDiff, Nat.reduceEqDiff, Nat.reduceBEq, Int.reduceLE, Int.reduceLT, Int.reduceEq, Int.reduceNe, Int.reduceAdd, Int.reduceSub, Int.reduceToNat, Int.reduceNeg, ↓reduceIte, reduceCtorEq]
  refine WT_loop (W_wk (fr' := [asets a, .own 0 5 0 b.length b.length, .top, .top, .bool false, .int .i64 (0 : Nat)] ++ List.replicate 55 .top) (Wk_tops ?_) (W_loop (fun n fr H' => ∃ i : Nat, i ≤ a.length ∧ n = a.length - i ∧ (∀ j, j < i → a.getD j default = b.getD j default) ∧ H' = [some (b.map cellD)] ∧ fr = [asets a, .own 0 5 0 b.length b.length, .top, .top, .bool false, .int .i64 i] ++ List.replicate 55 .top) a.length ⟨0, by omega, rfl, fun j hj => by omega, rfl, rfl⟩ ?_))
  ·simp only [asets, List.replicate_succ, List.replicate_zero, List.cons_append, List.nil_append, Tops_top, Tops_same, Tops_nil, Int.natCast_zero]
  rintro n fr H' ⟨i, hi, rfl, hj, rfl, rfl⟩
  refine WT_ok ?_
  simp only [asets, iaddr_dset, lay, wk5, slicelV_own, slicelV_fz, onLive_some, RT_slicel, RE_slicel, slice3V_eq, room3_some, roomOf_own, roomOf_fz, RT_slice3, RT_calld, apI_some, clC_some, clearV_own, clearV_fz, wk3, wk, iaddrV_map, Nat.reduceAdd, Nat.reduceSub, Nat.reduceMul, Nat.reduceLeDiff, Nat.reduceEqDiff, Nat.reduceBEq, Int.reduceLE, Int.reduceLT, Int.reduceEq, Int.reduceNe, Int.reduceAdd, Int.reduceSub, Int.reduceToNat, Int.reduceNeg, ↓reduceIte, reduceCtorEq]
  by_cases h : (i : Int) < b.length
  ·have hil : i < a.length := by omega
   have hib : i < b.length := by omega
   have h0 : (0 : Int) ≤ i := by omega
   have w2 : IntKind.i64.wrap ((i : Int) + 1) = (i : Int) + 1 := IntWalk.i64_in _ (by omega)
   have hfa := ha.get hil
   have hfb := hb.get hib
   have hcb := cell_at hib
   have e6' : ∀ x, (pdset x).length = 5 := fun _ => rfl
   have hne : a.getD i default ≠ b.getD i default → decide (a = b) = false := fun h => decide_eq_false fun e => h (by rw [e])
   have hnext : a.getD i default = b.getD i default → ∀ j, j < i + 1 → a.getD j default = b.getD j default := fun h j hj2 => by
    rcases Nat.lt_or_ge j i with h' | h'
    ·exact hj j h'
    ·have : j = i := by omega
     subst this; exact h
   generalize hax : a.getD i default = x at hfa hne hnext
   generalize b.getD i default = y at hfb hne hnext hcb
   simp only [h, hlen', lay, wk5, slicelV_own, slicelV_fz, onLive_some, RT_slicel, RE_slicel, slice3V_eq, room3_some, roomOf_own, roomOf_fz, RT_slice3, RT_calld, apI_some, clC_some, clearV_own, clearV_fz, wk3, wk, iaddrV_map, Nat.reduceAdd, Nat.reduceSub, Nat.reduceMul, Nat.reduceLeDiff, Nat.reduceEqDiff, Nat.reduceBEq, Int.reduceLE, Int.reduceLT, Int.reduceEq, Int.reduceNe, Int.reduceAdd, Int.reduceSub, Int.reduceToNat, Int.reduceNeg, ↓reduceIte, reduceCtorEq]
   refine WT_drawE ?_
   refine WDT_more 2 ?_
   simp only [h, h0, hlen', hcb, hax, e6', iaddr_dset, pdset, cellD, aset, ren, renL, lay, wk5, slicelV_own, slicelV_fz, onLive_some, RT_slicel, RE_slicel, slice3V_eq, room3_some, roomOf_own, roomOf_fz, RT_slice3, RT_calld, apI_some, clC_some, clearV_own, clearV_fz, wk3, wk, iaddrV_map, Nat.reduceAdd, Nat.reduceSub, Nat.reduceMul, Nat.reduceLeDiff, Nat.reduceEqDiff, Nat.reduceBEq, Int.reduceLE, Int.reduceLT, Int.reduceEq, Int.reduceNe, Int.reduceAdd, Int.reduceSub, Int.reduceToNat, Int.reduceNeg, ↓reduceIte, reduceCtorEq]
   refine ⟨by omega, by omega, by omega, by rfl, ?_⟩
   by_cases q1 : x.id = y.id
   case neg =>
    simp only [q1, lay, wk5, slicelV_own, slicelV_fz, onLive_some, RT_slicel, RE_slicel, slice3V_eq, room3_some, roomOf_own, roomOf_fz, RT_slice3, RT_calld, apI_some, clC_some, clearV_own, clearV_fz, wk3, wk, iaddrV_map, Nat.reduceAdd, Nat.reduceSub, Nat.reduceMul, Nat.reduceLeDiff, Nat.reduceEqDiff, Nat.reduceBEq, Int.reduceLE, Int.reduceLT, Int.reduceEq, Int.reduceNe, Int.reduceAdd, Int.reduceSub, Int.reduceToNat, Int.reduceNeg, ↓reduceIte, reduceCtorEq]
    exact KWk_first rfl hst ⟨by rw [hne (fun e => q1 (by rw [e]))], rfl⟩
   by_cases q2 : x.kind = y.kind
   case neg =>
    simp only [q1, q2, lay, wk5, slicelV_own, slicelV_fz, onLive_some, RT_slicel, RE_slicel, slice3V_eq, room3_some, roomOf_own, roomOf_fz, RT_slice3, RT_calld, apI_some, clC_some, clearV_own, clearV_fz, wk3, wk, iaddrV_map, Nat.reduceAdd, Nat.reduceSub, Nat.reduceMul, Nat.reduceLeDiff, Nat.reduceEqDiff, Nat.reduceBEq, Int.reduceLE, Int.reduceLT, Int.reduceEq, Int.reduceNe, Int.reduceAdd, Int.reduceSub, Int.reduceToNat, Int.reduceNeg, ↓reduceIte, reduceCtorEq]
    exact KWk_first rfl hst ⟨by rw [hne (fun e => q2 (by rw [e]))], rfl⟩
   by_cases q3 : x.origin = y.origin
   case neg =>
    simp only [q1, q2, q3, lay, wk5, slicelV_own, slicelV_fz, onLive_some, RT_slicel, RE_slicel, slice3V_eq, room3_some, roomOf_own, roomOf_fz, RT_slice3, RT_calld, apI_some, clC_some, clearV_own, clearV_fz, wk3, wk, iaddrV_map, Nat.reduceAdd, Nat.reduceSub, Nat.reduceMul, Nat.reduceLeDiff, Nat.reduceEqDiff, Nat.reduceBEq, Int.reduceLE, Int.reduceLT, Int.reduceEq, Int.reduceNe, Int.reduceAdd, Int.reduceSub, Int.reduceToNat, Int.reduceNeg, ↓reduceIte, reduceCtorEq]
    exact KWk_first rfl hst ⟨by rw [hne (fun e => q3 (by rw [e]))], rfl⟩
   by_cases q4 : x.quota = y.quota
   case neg =>
    simp only [q1, q2, q3, q4, lay, wk5, slicelV_own, slicelV_fz, onLive_some, RT_slicel, RE_slicel, slice3V_eq, room3_some, roomOf_own, roomOf_fz, RT_slice3, RT_calld, apI_some, clC_some, clearV_own, clearV_fz, wk3, wk, iaddrV_map, Nat.reduceAdd, Nat.reduceSub, Nat.reduceMul, Nat.reduceLeDiff, Nat.reduceEqDiff, Nat.reduceBEq, Int.reduceLE, Int.reduceLT, Int.reduceEq, Int.reduceNe, Int.reduceAdd, Int.reduceSub, Int.reduceToNat, Int.reduceNeg, ↓reduceIte, reduceCtorEq]
    exact KWk_first rfl hst ⟨by rw [hne (fun e => q4 (by rw [e]))], rfl⟩
   simp only [q1, q2, q3, q4, lay, wk5, slicelV_own, slicelV_fz, onLive_some, RT_slicel, RE_slicel, slice3V_eq, room3_some, roomOf_own, roomOf_fz, RT_slice3, RT_calld, apI_some, clC_some, clearV_own, clearV_fz, wk3, wk, iaddrV_map, Nat.reduceAdd, Nat.reduceSub, Nat.reduceMul, Nat.reduceLeDiff, Nat.reduceEqDiff, Nat.reduceBEq, Int.reduceLE, Int.reduceLT, Int.reduceEq, Int.reduceNe, Int.reduceAdd, Int.reduceSub, Int.reduceToNat, Int.reduceNeg, ↓reduceIte, reduceCtorEq]
   refine CT_ok (same33 x.files y.files hfa hfb _) ?_
   rintro _ _ ⟨rfl, rfl⟩
   by_cases q5 : x.files = y.files
   case neg =>
    simp only [q5, lay, wk5, slicelV_own, slicelV_fz, onLive_some, RT_slicel, RE_slicel, slice3V_eq, room3_some, roomOf_own, roomOf_fz, RT_slice3, RT_calld, apI_some, clC_some, clearV_own, clearV_fz, wk3, wk, iaddrV_map, Nat.reduceAdd, Nat.reduceSub, Nat.reduceMul, Nat.reduceLeDiff, Nat.reduceEqDiff, Nat.reduceBEq, Int.reduceLE, Int.reduceLT, Int.reduceEq, Int.reduceNe, Int.reduceAdd, Int.reduceSub, Int.reduceToNat, Int.reduceNeg, ↓reduceIte, reduceCtorEq]
    exact KWk_first rfl hst ⟨by rw [hne (fun e => q5 (by rw [e]))], rfl⟩
   have q : x = y := by cases x; cases y; simp_all
   simp only [q5, w2, lay, wk5, slicelV_own, slicelV_fz, onLive_some, RT_slicel, RE_slicel, slice3V_eq, room3_some, roomOf_own, roomOf_fz, RT_slice3, RT_calld, apI_some, clC_some, clearV_own, clearV_fz, wk3, wk, iaddrV_map, Nat.reduceAdd, Nat.reduceSub, Nat.reduceMul, Nat.reduceLeDiff, Nat.reduceEqDiff, Nat.reduceBEq, Int.reduceLE, Int.reduceLT, Int.reduceEq, Int.reduceNe, Int.reduceAdd, Int.reduceSub, Int.reduceToNat, Int.reduceNeg, ↓reduceIte, reduceCtorEq]
   refine QLoop_wk (n' := a.length - (i + 1)) (by omega) ⟨i + 1, by omega, rfl, hnext q, rfl, rfl⟩ (Wk_one1 hst ?_)
   simp only [asets, renL, ren, upTo, show (0 : Nat) < 1 by omega, if_true, List.replicate_succ, List.replicate_zero, List.cons_append, List.nil_append, Tops_top, Tops_same, Tops_nil, Int.natCast_add, Int.natCast_one]
  ·have : a = b := by
    apply List.ext_getElem hlen
    intro j h1 h2
    have := hj j (by omega)
    rwa [List.getD_eq_getElem?_getD, List.getElem?_eq_getElem h1, List.getD_eq_getElem?_getD, List.getElem?_eq_getElem h2] at this
   have hd : decide (a = b) = true := decide_eq_true this
   simp only [h, hd, hlen', lay, wk5, slicelV_own, slicelV_fz, onLive_some, RT_slicel, RE_slicel, slice3V_eq, room3_some, roomOf_own, roomOf_fz, RT_slice3, RT_calld, apI_some, clC_some, clearV_own, clearV_fz, wk3, wk, iaddrV_map, Nat.reduceAdd, Nat.reduceSub, Nat.reduceMul, Nat.reduceLeDiff, Nat.reduceEqDiff, Nat.reduceBEq, Int.reduceLE, Int.reduceLT, Int.reduceEq, Int.reduceNe, Int.reduceAdd, Int.reduceSub, Int.reduceToNat, Int.reduceNeg, ↓reduceIte, reduceCtorEq]
   exact KWk_first rfl hst ⟨rfl, rfl⟩
 ·have hlen' : ¬ (a.length : Int) = b.length := by omega
  have : ¬ a = b := fun e => hlen (by rw [e])
  simp only [hlen', this, lay, wk5, slicelV_own, slicelV_fz, onLive_some, RT_slicel, RE_slicel, slice3V_eq, room3_some, roomOf_own, roomOf_fz, RT_slice3, RT_calld, apI_some, clC_some, clearV_own, clearV_fz, wk3, wk, iaddrV_map, Nat.reduceAdd, Nat.reduceSub, Nat.reduceMul, Nat.reduceLeDiff, Nat.reduceEqDiff, Nat.reduceBEq, Int.reduceLE, Int.reduceLT, Int.reduceEq, Int.reduceNe, Int.reduceAdd, Int.reduceSub, Int.reduceToNat, Int.reduceNeg, ↓reduceIte, reduceCtorEq]
  exact KWk_first rfl hst ⟨rfl, rfl⟩
theorem sameO (a b : List Dset) (ha : Short a) (hb : Short b) (r n : Nat) (hn : n = b.length) (H : AH) (hr : H.at r = some (b.map cellD)) : C Tryz.prog 18 [asets a, .own r 5 0 n n] H (fun x H' => x = .bool (decide (a = b)) ∧ H' = H) := by
 subst hn
 refine C_call [r] (by simp) (by simpa using at_lt hr) (K0 := fun x H' => x = .bool (decide (a = b)) ∧ H' = [some (b.map cellD)]) ?_ ?_
 ·simpa [renL, ren, toCallee, asets, renO_cells, hr] using sameO0 a b ha hb
 ·rintro _ _ ⟨rfl, rfl⟩
  refine ⟨by simp, by simp [ren], ?_⟩
  simp [back, setAll, renO_cells, set_at hr]
end Go.Proofs.YtemjlopoffjmpaaGreat.Abs
set_option linter.unusedSimpArgs false
set_option linter.unusedVariables false
namespace Go.Proofs.YtemjlopoffjmpaaGreat.Abs
open Go Go.Proofs
structure FilesR (l x : List Dset) (w i : Int) (fs : List Node) (n : Int) : Prop where
 may : MayL x
 len : (x.length : Int) = n
 gone : w = 1 → ∀ d ∈ l, d.id = i → getA x d.id = none
 kept : ∀ d ∈ l, ¬ (w = 1 ∧ d.id = i) → ∃ d', getA x d.id = some d' ∧ d'.kind = d.kind ∧ d'.quota = d.quota ∧ (w ≠ 0 → d'.origin = d.origin) ∧ d'.files = if w = 5 ∧ d.id = i then fs else d.files
section
variable {l : List Dset} (h : MayL l) (i j : Int)
include h
end
end Go.Proofs.YtemjlopoffjmpaaGreat.Abs
set_option linter.unusedSimpArgs false
set_option linter.unusedVariables false
namespace Go.Proofs.YtemjlopoffjmpaaGreat.Abs
open Go Go.Proofs
theorem find_mem {l : List Dset} (h : MayL l) {d : Dset} (hd : d ∈ l) : ∃ k : Nat, findA l d.id = k ∧ k < l.length ∧ l.getD k default = d := by
 have hf := h.find hd
 rcases find_of (l := l) (i := d.id) with ⟨e, _⟩ | ⟨k, e, hk, _⟩
 ·rw [getA_no e] at hf; cases hf
 ·rw [getA_of e] at hf
  exact ⟨k, e, hk, Option.some.inj hf⟩
def putsF (i : Int) (t : List Node) (x : Dset) : Dset := if x.id = i then { x with files := t } else x
theorem filesA_ok {l : List Dset} (h : MayL l) {d : Dset} (hd : d ∈ l) (t : List Node) (h0 : (filesA l d.id t).2 = 0) : filesA l d.id t = (l.map (putsF d.id t), 0) ∧ d.kind = 1 := by
 obtain ⟨k, e, hk, rfl⟩ := find_mem h hd
 unfold filesA at h0 ⊢
 rw [h.find (dgetD_mem hk)] at h0 ⊢
 simp only at h0 ⊢
 split
 ·rename_i h1; rw [if_pos h1] at h0; cases h0
 ·rename_i h1
  rw [if_neg h1] at h0
  split
  ·rename_i h2; rw [if_pos h2] at h0; cases h0
  ·rw [e, Int.toNat_natCast]
   refine ⟨?_, by rcases (h.each _ (dgetD_mem hk)).kinds with q | q; exact q; exact absurd q h1⟩
   have := set_map h hk (fun d => { d with files := t })
   exact congrArg (·, (0 : Int)) this
end Go.Proofs.YtemjlopoffjmpaaGreat.Abs
set_option linter.unusedSimpArgs false
set_option linter.unusedVariables false
namespace Go.Proofs.YtemjlopoffjmpaaGreat.Abs
open Go Go.Proofs
theorem sets_at (l : List UInt8) (n : Int) (most : Nat) (hm : most ≤ 100) (hn : 0 ≤ n) (hl : l.length ≤ 1000000) (r : Nat) (H : AH) (hr : H.at r = some [[.fz (l.map pbyte), .int .i64 n]]) :
 C Tryz.prog 14 [.ptr r 0 0 1, .int .i64 most] H (fun x H' => ∃ L n', MayL L ∧ L ≠ [] ∧ (∀ d ∈ L, d.id < 900) ∧ x = asets L ∧ H' = H.set r (some [[.fz (l.map pbyte), .int .i64 n']])) := by
 refine C_call [r] (by simp) (by simpa using at_lt hr) (K0 := SetsR l n) ?_ ?_
 ·simpa [renL, ren, toCallee, hr, renO, picksH] using sets14 l n most hm hn hl
 ·rintro _ _ ⟨L, n', hL, hne, ⟨_, hid⟩, rfl, rfl⟩
  refine ⟨by simp [picksH], L, n', hL, hne, hid, by simp [asets, ren], ?_⟩
  simp [back, setAll, picksH, renO, renL, ren]
theorem files_tell {l : List Dset} (h : MayL l) {d : Dset} (hd : d ∈ l) (t : List Node) :
 (d.kind = 2 → filesA l d.id t = (l, 11)) ∧ (d.kind = 1 → (0 < d.quota ∧ d.quota < used t ∧ used d.files < used t) → filesA l d.id t = (l, 9)) ∧
  (d.kind = 1 → ¬ (0 < d.quota ∧ d.quota < used t ∧ used d.files < used t) → filesA l d.id t = (l.map (putsF d.id t), 0)) := by
 have hu : filesA l d.id t = if d.kind = 2 then (l, 11) else if 0 < d.quota ∧ d.quota < used t ∧ used d.files < used t then (l, 9) else (l.set (findA l d.id).toNat { d with files := t }, 0) := by
  unfold filesA; rw [h.find hd]
 refine ⟨fun hk => by rw [hu, if_pos hk], fun hk hq => by rw [hu, if_neg (by omega), if_pos hq], fun hk hq => ?_⟩
 refine (filesA_ok h hd t ?_).1
 rw [hu, if_neg (by omega), if_neg hq]
theorem reqA_get (l : List Dset) {k : Nat} (hk : k < l.length) (q : Int) : (reqA l k q).getD k default = if (l.getD k default).kind = 1 then { l.getD k default with quota := q } else l.getD k default := by
 unfold reqA
 by_cases h : (l.getD k default).kind = 1
 ·rw [if_pos h, if_pos h, List.getD_eq_getElem?_getD, List.getElem?_set, if_pos rfl, if_pos hk]; rfl
 ·rw [if_neg h, if_neg h]
theorem map_getD (f : Dset → Dset) (l : List Dset) {k : Nat} (hk : k < l.length) : (l.map f).getD k default = f (l.getD k default) := by
 rw [List.getD_eq_getElem?_getD, List.getElem?_map, List.getD_eq_getElem?_getD, List.getElem?_eq_getElem hk]; rfl
theorem one_of (l : List Dset) {k : Nat} (hk : k < l.length) : ((l.map pdset).take (k + 1)).drop k = [l.getD k default].map pdset := by
 rw [← List.map_take, ← List.map_drop, List.take_add_one, List.getElem?_eq_getElem hk, List.drop_append]
 simp only [List.length_take, List.getD_eq_getElem?_getD, List.getElem?_eq_getElem hk, Option.getD_some, Option.toList_some]
 have : List.drop k (List.take k l) = [] := List.drop_eq_nil_of_le (by simp; omega)
 rw [this, show k - min k l.length = 0 by omega]; rfl
theorem Wk_four {fr fr' : List AV} {o o' : AObj} {G : AH} (h : Tops fr' (renL (upTo 3) fr)) (ho : o.map (renL (upTo 3)) = o := by simp [renL, ren, cellD, aset]) (ho' : o'.map (renL (upTo 3)) = o' := by simp [renL, ren, cellD, aset]) : Wk 0 fr (none :: some o :: some o' :: G) fr' [none, some o, some o'] := by
 have h1 := (Wk_forget (n0 := 0) (fr := fr) (H := none :: some o :: some o' :: G) 3 (by omega)).trans (Wk_tops h)
 have e : mapH (renL (upTo 3)) ((none :: some o :: some o' :: G).take 3) = [none, some o, some o'] := by
  simp only [List.take_succ_cons, List.take_zero, mapH, List.map_cons, List.map_nil, Option.map_some, Option.map_none, ho, ho']
 rwa [e] at h1
set_option maxRecDepth 10000 in
set_option maxHeartbeats 8000000 in
theorem acctOthers_spec (l m : List UInt8) (n : Int) (hn : 0 ≤ n ∧ n ≤ 255) (q : Int) (hq : 0 ≤ q ∧ q ≤ 255) : C Tryz.prog 4 [.fz (l.map pbyte), .fz (m.map pbyte), .int .u8 n, .int .u8 q] [] (fun x _ => x = .bool true) := by
 refine C_body d4 rfl ?_
 unfold c4
 refine W_stp ?_
 simp only [wk5, wk3, wk, iaddrV_map, Nat.reduceAdd, Nat.reduceSub, Nat.reduceMul, Nat.reduceLeDiff, Nat.reduceEqDiff, Nat.reduceBEq, Int.reduceLE, Int.reduceLT, Int.reduceEq, Int.reduceNe, Int.reduceAdd, Int.reduceSub, Int.reduceToNat, Int.reduceNeg, ↓reduceIte, reduceCtorEq]
 refine QStp_go (W_stp ?_)
 simp only [wk5, wk3, wk, iaddrV_map, Nat.reduceAdd, Nat.reduceSub, Nat.reduceMul, Nat.reduceLeDiff, Nat.reduceEqDiff, Nat.reduceBEq, Int.reduceLE, Int.reduceLT, Int.reduceEq, Int.reduceNe, Int.reduceAdd, Int.reduceSub, Int.reduceToNat, Int.reduceNeg, ↓reduceIte, reduceCtorEq]
 refine CT_ok (Memo.any mBegun_so []) ?_
 rintro _ _ ⟨rfl, rfl⟩
 simp only [mBegun, wk5, wk3, wk, iaddrV_map, Nat.reduceAdd, Nat.reduceSub, Nat.reduceMul, Nat.reduceLeDiff, Nat.reduceEqDiff, Nat.reduceBEq, Int.reduceLE, Int.reduceLT, Int.reduceEq, Int.reduceNe, Int.reduceAdd, Int.reduceSub, Int.reduceToNat, Int.reduceNeg, ↓reduceIte, reduceCtorEq]
 refine QStp_go (W_stp ?_)
 simp only [wk5, wk3, wk, iaddrV_map, Nat.reduceAdd, Nat.reduceSub, Nat.reduceMul, Nat.reduceLeDiff, Nat.reduceEqDiff, Nat.reduceBEq, Int.reduceLE, Int.reduceLT, Int.reduceEq, Int.reduceNe, Int.reduceAdd, Int.reduceSub, Int.reduceToNat, Int.reduceNeg, ↓reduceIte, reduceCtorEq]
 by_cases h1 : (80 : Int) < l.length
 ·simp only [h1, wk5, wk3, wk, iaddrV_map, Nat.reduceAdd, Nat.reduceSub, Nat.reduceMul, Nat.reduceLeDiff, Nat.reduceEqDiff, Nat.reduceBEq, Int.reduceLE, Int.reduceLT, Int.reduceEq, Int.reduceNe, Int.reduceAdd, Int.reduceSub, Int.reduceToNat, Int.reduceNeg, ↓reduceIte, reduceCtorEq]
 by_cases h1m : (60 : Int) < m.length
 ·simp only [h1, h1m, wk5, wk3, wk, iaddrV_map, Nat.reduceAdd, Nat.reduceSub, Nat.reduceMul, Nat.reduceLeDiff, Nat.reduceEqDiff, Nat.reduceBEq, Int.reduceLE, Int.reduceLT, Int.reduceEq, Int.reduceNe, Int.reduceAdd, Int.reduceSub, Int.reduceToNat, Int.reduceNeg, ↓reduceIte, reduceCtorEq]
 simp only [h1, h1m, wk5, wk3, wk, iaddrV_map, Nat.reduceAdd, Nat.reduceSub, Nat.reduceMul, Nat.reduceLeDiff, Nat.reduceEqDiff, Nat.reduceBEq, Int.reduceLE, Int.reduceLT, Int.reduceEq, Int.reduceNe, Int.reduceAdd, Int.reduceSub, Int.reduceToNat, Int.reduceNeg, ↓reduceIte, reduceCtorEq]
 refine QStp_go (W_stp ?_)
 simp only [lay, wk5, wk3, wk, iaddrV_map, Nat.reduceAdd, Nat.reduceSub, Nat.reduceMul, Nat.reduceLeDiff, Nat.reduceEqDiff, Nat.reduceBEq, Int.reduceLE, Int.reduceLT, Int.reduceEq, Int.reduceNe, Int.reduceAdd, Int.reduceSub, Int.reduceToNat, Int.reduceNeg, ↓reduceIte, reduceCtorEq]
 refine CT_ok (made_at l _) ?_
 rintro _ _ ⟨rfl, rfl⟩
 simp only [lay, wk5, wk3, wk, iaddrV_map, Nat.reduceAdd, Nat.reduceSub, Nat.reduceMul, Nat.reduceLeDiff, Nat.reduceEqDiff, Nat.reduceBEq, Int.reduceLE, Int.reduceLT, Int.reduceEq, Int.reduceNe, Int.reduceAdd, Int.reduceSub, Int.reduceToNat, Int.reduceNeg, ↓reduceIte, reduceCtorEq]
 refine CT_ok (sets_at l 0 25 (by omega) (by omega) (by omega) 1 _ rfl) ?_
 rintro _ _ ⟨L, n0, hL, hne0, _, rfl, rfl⟩
 have hpos : 0 < L.length := List.length_pos_iff.2 hne0
 have hlen0 := hL.len
 simp only [asets, cellsD, rows5D, List.length_map, lay, wk5, wk3, wk, iaddrV_map, Nat.reduceAdd, Nat.reduceSub, Nat.reduceMul, Nat.reduceLeDiff, Nat.reduceEqDiff, Nat.reduceBEq, Int.reduceLE, Int.reduceLT, Int.reduceEq, Int.reduceNe, Int.reduceAdd, Int.reduceSub, Int.reduceToNat, Int.reduceNeg, ↓reduceIte, reduceCtorEq]
 refine ⟨⟨by omega, by omega⟩, ?_⟩
 refine QStp_go (W_stp ?_)
 have wn : IntKind.i64.wrap n = n := IntWalk.i64_in _ (by omega)
 obtain ⟨k, hk, hkl⟩ := pick_index hn.1 hpos
 have k0 : (0 : Int) ≤ k := by omega
 have k1 : (k : Int) < L.length := by omega
 have kz : ¬ (L.length : Int) = 0 := by omega
 have hck := cell_at hkl
 obtain ⟨a, ha, ha30⟩ := pick_index hq.1 (m := 30) (by omega)
 replace ha : q.tmod 30 = a := ha
 have wa : IntKind.i64.wrap (a : Int) = a := IntWalk.i64_in _ (by omega)
 have hM := reqA_may hL hkl (q := (a : Int)) (by omega)
 have hMl := reqA_len L k a
 have hMg := reqA_get L hkl a
 have hc1 := dgetD_mem (l := reqA L k a) (n := k) (by omega)
 simp only [wn, hk, kz, k0, k1, hck, cellD, aset, Int.toNat_natCast, lay, wk5, wk3, wk, iaddrV_map, Nat.reduceAdd, Nat.reduceSub, Nat.reduceMul, Nat.reduceLeDiff, Nat.reduceEqDiff, Nat.reduceBEq, Int.reduceLE, Int.reduceLT, Int.reduceEq, Int.reduceNe, Int.reduceAdd, Int.reduceSub, Int.reduceToNat, Int.reduceNeg, ↓reduceIte, reduceCtorEq]
 refine QStp_go (W_cut (fun fr H => H = [none, some [[.fz (l.map pbyte), .int .i64 n0]], some [cellD ((reqA L k a).getD k default)]] ∧ fr = [.fz (l.map pbyte), .fz (m.map pbyte), .int .u8 n, .int .u8 q, .top, .top, .top, .top, .bool false, asets (reqA L k a), .ptr 2 0 0 1] ++ List.replicate 126 .top) ?_ ?_)
 ·have hz : frz 0 ((reqA L k a).map pdset) (.own 0 5 0 L.length L.length) = asets (reqA L k a) := frz_row 0 _ _ (by rw [reqA_len])
  have f1 : ∀ rows, frz 0 ((reqA L k a).map pdset) (.fz rows) = .fz rows := fun _ => rfl
  have f2 : ∀ k' n, frz 0 ((reqA L k a).map pdset) (.int k' n) = .int k' n := fun _ _ => rfl
  have f3 : ∀ b, frz 0 ((reqA L k a).map pdset) (.bool b) = .bool b := fun _ => rfl
  have f4 : frz 0 ((reqA L k a).map pdset) (.ptr 2 0 0 1) = .ptr 2 0 0 1 := rfl
  have f5 : ∀ s, frz 0 ((reqA L k a).map pdset) (.str s) = .str s := fun _ => rfl
  by_cases c1 : (L.getD k default).kind = 1
  ·have hset : (reqA L k a).map cellD = (L.map cellD).set k (cellD { L.getD k default with quota := (a : Int) }) := by unfold reqA; rw [if_pos c1, List.map_set]
   rw [if_pos c1] at hMg
   generalize L.getD k default = c at *
   simp only [c1, ha, wa, lay, wk5, wk3, wk, iaddrV_map, Nat.reduceAdd, Nat.reduceSub, Nat.reduceMul, Nat.reduceLeDiff, Nat.reduceEqDiff, Nat.reduceBEq, Int.reduceLE, Int.reduceLT, Int.reduceEq, Int.reduceNe, Int.reduceAdd, Int.reduceSub, Int.reduceToNat, Int.reduceNeg, ↓reduceIte, reduceCtorEq]
   refine WT_drawE ?_
   refine WDT_more 0 ?_
   simp only [wn, hk, kz, k0, k1, hck, cellD, aset, Int.toNat_natCast, lay, wk5, wk3, wk, iaddrV_map, Nat.reduceAdd, Nat.reduceSub, Nat.reduceMul, Nat.reduceLeDiff, Nat.reduceEqDiff, Nat.reduceBEq, Int.reduceLE, Int.reduceLT, Int.reduceEq, Int.reduceNe, Int.reduceAdd, Int.reduceSub, Int.reduceToNat, Int.reduceNeg, ↓reduceIte, reduceCtorEq]
   refine ⟨by rfl, ?_⟩
   have e5 : ∀ a b c d e : AV, [a, b, c, d, e].length = 5 := fun _ _ _ _ _ => rfl
   refine QCut_go ⟨rfl, rfl⟩ ((Wk_freeze 0 ((reqA L k a).map pdset) ?_).trans ?_)
   ·rw [cellsD, hset]
    simp only [cellD, aset, c1]
    rfl
   ·have eh : mapH (frzL 0 ((reqA L k a).map pdset)) (List.set [some ((L.map cellD).set k [.int .i64 c.id, .int .i64 1, .int .i64 c.origin, .int .i64 a, .fz (c.files.map pnode)]), some [[.fz (l.map pbyte), .int .i64 n0]], some [[AV.int .i64 c.id, .int .i64 1, .int .i64 c.origin, .int .i64 a, .fz (c.files.map pnode)]]] 0 none) = [none, some [[.fz (l.map pbyte), .int .i64 n0]], some [cellD ((reqA L k a).getD k default)]] := by
     rw [hMg]
     simp only [List.set_cons_zero, mapH, List.map_cons, List.map_nil, Option.map_some, Option.map_none, frzL, f1, f2, cellD, aset, c1]
    rw [eh]
    refine Wk_tops ?_
    simp only [frzL, hz, f1, f2, f3, f4, f5, asets, aset, List.replicate_succ, List.replicate_zero, List.cons_append, List.nil_append, Tops_top, Tops_same, Tops_nil]
  ·have hset : reqA L k a = L := by unfold reqA; rw [if_neg c1]
   rw [if_neg c1] at hMg
   generalize L.getD k default = c at *
   simp only [c1, ha, wa, lay, wk5, wk3, wk, iaddrV_map, Nat.reduceAdd, Nat.reduceSub, Nat.reduceMul, Nat.reduceLeDiff, Nat.reduceEqDiff, Nat.reduceBEq, Int.reduceLE, Int.reduceLT, Int.reduceEq, Int.reduceNe, Int.reduceAdd, Int.reduceSub, Int.reduceToNat, Int.reduceNeg, ↓reduceIte, reduceCtorEq]
   refine QCut_go ⟨rfl, rfl⟩ ((Wk_freeze 0 ((reqA L k a).map pdset) ?_).trans ?_)
   ·rw [cellsD, hset]
    rfl
   ·have eh : mapH (frzL 0 ((reqA L k a).map pdset)) (List.set [some (L.map cellD), some [[.fz (l.map pbyte), .int .i64 n0]], some [[AV.int .i64 c.id, .int .i64 c.kind, .int .i64 c.origin, .int .i64 c.quota, .fz (c.files.map pnode)]]] 0 none) = [none, some [[.fz (l.map pbyte), .int .i64 n0]], some [cellD ((reqA L k a).getD k default)]] := by
     rw [hMg]
     simp only [List.set_cons_zero, mapH, List.map_cons, List.map_nil, Option.map_some, Option.map_none, frzL, f1, f2, cellD, aset]
    rw [eh]
    refine Wk_tops ?_
    simp only [frzL, hz, f1, f2, f3, f4, f5, asets, aset, List.replicate_succ, List.replicate_zero, List.cons_append, List.nil_append, Tops_top, Tops_same, Tops_nil]
 rintro fr H ⟨rfl, rfl⟩
 clear hMg hck
 generalize reqA L k a = X at *
 generalize X.getD k default = c at *
 have hcw := (hM.each c hc1).files
 have hcl := hcw.len
 refine W_stp ?_
 simp only [asets, cellD, aset, lay, wk5, wk3, wk, iaddrV_map, Nat.reduceAdd, Nat.reduceSub, Nat.reduceMul, Nat.reduceLeDiff, Nat.reduceEqDiff, Nat.reduceBEq, Int.reduceLE, Int.reduceLT, Int.reduceEq, Int.reduceNe, Int.reduceAdd, Int.reduceSub, Int.reduceToNat, Int.reduceNeg, ↓reduceIte, reduceCtorEq]
 refine CT_ok (made_at m _) ?_
 rintro _ _ ⟨rfl, rfl⟩
 simp only [lay, wk5, wk3, wk, iaddrV_map, Nat.reduceAdd, Nat.reduceSub, Nat.reduceMul, Nat.reduceLeDiff, Nat.reduceEqDiff, Nat.reduceBEq, Int.reduceLE, Int.reduceLT, Int.reduceEq, Int.reduceNe, Int.reduceAdd, Int.reduceSub, Int.reduceToNat, Int.reduceNeg, ↓reduceIte, reduceCtorEq]
 refine CT_ok (pset_at m 0 25 (by omega) (by omega) (by omega) 3 _ rfl) ?_
 rintro _ _ ⟨t, n1, ht, _, rfl, rfl⟩
 have htl := ht.len
 simp only [aset, lay, wk5, wk3, wk, iaddrV_map, Nat.reduceAdd, Nat.reduceSub, Nat.reduceMul, Nat.reduceLeDiff, Nat.reduceEqDiff, Nat.reduceBEq, Int.reduceLE, Int.reduceLT, Int.reduceEq, Int.reduceNe, Int.reduceAdd, Int.reduceSub, Int.reduceToNat, Int.reduceNeg, ↓reduceIte, reduceCtorEq]
 refine QStp_go (W_stp ?_)
 simp only [lay, wk5, wk3, wk, iaddrV_map, Nat.reduceAdd, Nat.reduceSub, Nat.reduceMul, Nat.reduceLeDiff, Nat.reduceEqDiff, Nat.reduceBEq, Int.reduceLE, Int.reduceLT, Int.reduceEq, Int.reduceNe, Int.reduceAdd, Int.reduceSub, Int.reduceToNat, Int.reduceNeg, ↓reduceIte, reduceCtorEq]
 refine CT_ok (put16 X hM.short c.id t (by omega) _) ?_
 rintro _ _ ⟨rfl, rfl⟩
 have htell := files_tell hM hc1 t
 have hXX : decide (X = X) = true := decide_eq_true rfl
 by_cases q2 : c.kind = 2
 ·rw [htell.1 q2]
  simp only [outA, asets, lay, wk5, wk3, wk, iaddrV_map, Nat.reduceAdd, Nat.reduceSub, Nat.reduceMul, Nat.reduceLeDiff, Nat.reduceEqDiff, Nat.reduceBEq, Int.reduceLE, Int.reduceLT, Int.reduceEq, Int.reduceNe, Int.reduceAdd, Int.reduceSub, Int.reduceToNat, Int.reduceNeg, ↓reduceIte, reduceCtorEq]
  refine QStp_go (W_stp ?_)
  simp only [q2, lay, wk5, wk3, wk, iaddrV_map, Nat.reduceAdd, Nat.reduceSub, Nat.reduceMul, Nat.reduceLeDiff, Nat.reduceEqDiff, Nat.reduceBEq, Int.reduceLE, Int.reduceLT, Int.reduceEq, Int.reduceNe, Int.reduceAdd, Int.reduceSub, Int.reduceToNat, Int.reduceNeg, ↓reduceIte, reduceCtorEq]
  refine CT_ok (sameS X X hM.short hM.short _) ?_
  rintro _ _ ⟨rfl, rfl⟩
  simp only [hXX, lay, wk5, wk3, wk, iaddrV_map, Nat.reduceAdd, Nat.reduceSub, Nat.reduceMul, Nat.reduceLeDiff, Nat.reduceEqDiff, Nat.reduceBEq, Int.reduceLE, Int.reduceLT, Int.reduceEq, Int.reduceNe, Int.reduceAdd, Int.reduceSub, Int.reduceToNat, Int.reduceNeg, ↓reduceIte, reduceCtorEq]
  refine QStp_go (W_stp ?_)
  simp only [lay, wk5, wk3, wk, iaddrV_map, Nat.reduceAdd, Nat.reduceSub, Nat.reduceMul, Nat.reduceLeDiff, Nat.reduceEqDiff, Nat.reduceBEq, Int.reduceLE, Int.reduceLT, Int.reduceEq, Int.reduceNe, Int.reduceAdd, Int.reduceSub, Int.reduceToNat, Int.reduceNeg, ↓reduceIte, reduceCtorEq]
  refine WT_drawE ?_
  simp only [lay, wk5, wk3, wk, iaddrV_map, Nat.reduceAdd, Nat.reduceSub, Nat.reduceMul, Nat.reduceLeDiff, Nat.reduceEqDiff, Nat.reduceBEq, Int.reduceLE, Int.reduceLT, Int.reduceEq, Int.reduceNe, Int.reduceAdd, Int.reduceSub, Int.reduceToNat, Int.reduceNeg, ↓reduceIte, reduceCtorEq]
  refine WDT_more 0 ?_
  simp only [lay, wk5, wk3, wk, iaddrV_map, Nat.reduceAdd, Nat.reduceSub, Nat.reduceMul, Nat.reduceLeDiff, Nat.reduceEqDiff, Nat.reduceBEq, Int.reduceLE, Int.reduceLT, Int.reduceEq, Int.reduceNe, Int.reduceAdd, Int.reduceSub, Int.reduceToNat, Int.reduceNeg, ↓reduceIte, reduceCtorEq]
  refine ⟨by rfl, ?_⟩
  refine WDT_more 0 ?_
  simp only [lay, wk5, wk3, wk, iaddrV_map, Nat.reduceAdd, Nat.reduceSub, Nat.reduceMul, Nat.reduceLeDiff, Nat.reduceEqDiff, Nat.reduceBEq, Int.reduceLE, Int.reduceLT, Int.reduceEq, Int.reduceNe, Int.reduceAdd, Int.reduceSub, Int.reduceToNat, Int.reduceNeg, ↓reduceIte, reduceCtorEq]
  rfl
 have q1 : c.kind = 1 := by rcases (hM.each c hc1).kinds with e | e; exact e; exact absurd e q2
 by_cases hqu : 0 < c.quota ∧ c.quota < used t ∧ used c.files < used t
 ·have hq2 : (used c.files : Int) < (used t : Int) := by omega
  rw [htell.2.1 q1 hqu]
  simp only [outA, asets, lay, wk5, wk3, wk, iaddrV_map, Nat.reduceAdd, Nat.reduceSub, Nat.reduceMul, Nat.reduceLeDiff, Nat.reduceEqDiff, Nat.reduceBEq, Int.reduceLE, Int.reduceLT, Int.reduceEq, Int.reduceNe, Int.reduceAdd, Int.reduceSub, Int.reduceToNat, Int.reduceNeg, ↓reduceIte, reduceCtorEq]
  refine QStp_go (W_stp ?_)
  simp only [q1, lay, wk5, wk3, wk, iaddrV_map, Nat.reduceAdd, Nat.reduceSub, Nat.reduceMul, Nat.reduceLeDiff, Nat.reduceEqDiff, Nat.reduceBEq, Int.reduceLE, Int.reduceLT, Int.reduceEq, Int.reduceNe, Int.reduceAdd, Int.reduceSub, Int.reduceToNat, Int.reduceNeg, ↓reduceIte, reduceCtorEq]
  refine CT_ok (sameS X X hM.short hM.short _) ?_
  rintro _ _ ⟨rfl, rfl⟩
  simp only [hXX, lay, wk5, wk3, wk, iaddrV_map, Nat.reduceAdd, Nat.reduceSub, Nat.reduceMul, Nat.reduceLeDiff, Nat.reduceEqDiff, Nat.reduceBEq, Int.reduceLE, Int.reduceLT, Int.reduceEq, Int.reduceNe, Int.reduceAdd, Int.reduceSub, Int.reduceToNat, Int.reduceNeg, ↓reduceIte, reduceCtorEq]
  refine QStp_go (W_stp ?_)
  simp only [lay, wk5, wk3, wk, iaddrV_map, Nat.reduceAdd, Nat.reduceSub, Nat.reduceMul, Nat.reduceLeDiff, Nat.reduceEqDiff, Nat.reduceBEq, Int.reduceLE, Int.reduceLT, Int.reduceEq, Int.reduceNe, Int.reduceAdd, Int.reduceSub, Int.reduceToNat, Int.reduceNeg, ↓reduceIte, reduceCtorEq]
  refine WT_drawE ?_
  simp only [lay, wk5, wk3, wk, iaddrV_map, Nat.reduceAdd, Nat.reduceSub, Nat.reduceMul, Nat.reduceLeDiff, Nat.reduceEqDiff, Nat.reduceBEq, Int.reduceLE, Int.reduceLT, Int.reduceEq, Int.reduceNe, Int.reduceAdd, Int.reduceSub, Int.reduceToNat, Int.reduceNeg, ↓reduceIte, reduceCtorEq]
  refine WDT_more 0 ?_
  simp only [lay, wk5, wk3, wk, iaddrV_map, Nat.reduceAdd, Nat.reduceSub, Nat.reduceMul, Nat.reduceLeDiff, Nat.reduceEqDiff, Nat.reduceBEq, Int.reduceLE, Int.reduceLT, Int.reduceEq, Int.reduceNe, Int.reduceAdd, Int.reduceSub, Int.reduceToNat, Int.reduceNeg, ↓reduceIte, reduceCtorEq]
  refine SET_pure (x := .int .i64 (used t)) rfl rfl rfl (Used_spec t (by omega) []) (by simp) ?_
  simp only [lay, wk5, wk3, wk, iaddrV_map, Nat.reduceAdd, Nat.reduceSub, Nat.reduceMul, Nat.reduceLeDiff, Nat.reduceEqDiff, Nat.reduceBEq, Int.reduceLE, Int.reduceLT, Int.reduceEq, Int.reduceNe, Int.reduceAdd, Int.reduceSub, Int.reduceToNat, Int.reduceNeg, ↓reduceIte, reduceCtorEq]
  refine ⟨by rfl, ?_⟩
  refine CT_ok (Used_spec c.files (by omega) _) ?_
  rintro _ _ ⟨rfl, rfl⟩
  simp only [hq2, lay, wk5, wk3, wk, iaddrV_map, Nat.reduceAdd, Nat.reduceSub, Nat.reduceMul, Nat.reduceLeDiff, Nat.reduceEqDiff, Nat.reduceBEq, Int.reduceLE, Int.reduceLT, Int.reduceEq, Int.reduceNe, Int.reduceAdd, Int.reduceSub, Int.reduceToNat, Int.reduceNeg, ↓reduceIte, reduceCtorEq]
  refine WDT_more 0 ?_
  simp only [lay, wk5, wk3, wk, iaddrV_map, Nat.reduceAdd, Nat.reduceSub, Nat.reduceMul, Nat.reduceLeDiff, Nat.reduceEqDiff, Nat.reduceBEq, Int.reduceLE, Int.reduceLT, Int.reduceEq, Int.reduceNe, Int.reduceAdd, Int.reduceSub, Int.reduceToNat, Int.reduceNeg, ↓reduceIte, reduceCtorEq]
  refine SET_pure (x := .int .i64 (used t)) rfl rfl rfl (Used_spec t (by omega) []) (by simp) ?_
  simp only [hqu.2.1, lay, wk5, wk3, wk, iaddrV_map, Nat.reduceAdd, Nat.reduceSub, Nat.reduceMul, Nat.reduceLeDiff, Nat.reduceEqDiff, Nat.reduceBEq, Int.reduceLE, Int.reduceLT, Int.reduceEq, Int.reduceNe, Int.reduceAdd, Int.reduceSub, Int.reduceToNat, Int.reduceNeg, ↓reduceIte, reduceCtorEq]
  rfl
 rw [htell.2.2 q1 hqu]
 have hY := (filesA_may hM c.id ht).1
 rw [htell.2.2 q1 hqu] at hY
 replace hY : MayL (X.map (putsF c.id t)) := hY
 have hYl : ((X.map (putsF c.id t)).length : Int) = X.length := by rw [List.length_map]
 have hXl := hM.len
 simp only [outA, asets, hYl, lay, wk5, wk3, wk, iaddrV_map, Nat.reduceAdd, Nat.reduceSub, Nat.reduceMul, Nat.reduceLeDiff, Nat.reduceEqDiff, Nat.reduceBEq, Int.reduceLE, Int.reduceLT, Int.reduceEq, Int.reduceNe, Int.reduceAdd, Int.reduceSub, Int.reduceToNat, Int.reduceNeg, ↓reduceIte, reduceCtorEq]
 refine QStp_go (W_stp ?_)
 simp only [q1, hYl, lay, wk5, wk3, wk, iaddrV_map, Nat.reduceAdd, Nat.reduceSub, Nat.reduceMul, Nat.reduceLeDiff, Nat.reduceEqDiff, Nat.reduceBEq, Int.reduceLE, Int.reduceLT, Int.reduceEq, Int.reduceNe, Int.reduceAdd, Int.reduceSub, Int.reduceToNat, Int.reduceNeg, ↓reduceIte, reduceCtorEq]
 refine QStp_go (W_stp ?_)
 simp only [lay, wk5, wk3, wk, iaddrV_map, Nat.reduceAdd, Nat.reduceSub, Nat.reduceMul, Nat.reduceLeDiff, Nat.reduceEqDiff, Nat.reduceBEq, Int.reduceLE, Int.reduceLT, Int.reduceEq, Int.reduceNe, Int.reduceAdd, Int.reduceSub, Int.reduceToNat, Int.reduceNeg, ↓reduceIte, reduceCtorEq]
 refine QStp_go (W_stp ?_)
 simp only [lay, wk5, wk3, wk, iaddrV_map, Nat.reduceAdd, Nat.reduceSub, Nat.reduceMul, Nat.reduceLeDiff, Nat.reduceEqDiff, Nat.reduceBEq, Int.reduceLE, Int.reduceLT, Int.reduceEq, Int.reduceNe, Int.reduceAdd, Int.reduceSub, Int.reduceToNat, Int.reduceNeg, ↓reduceIte, reduceCtorEq]
 refine WT_loop (W_wk (fr' := [.fz (l.map pbyte), .fz (m.map pbyte), .int .u8 n, .int .u8 q, .top, .top, .top, .top, .bool false, asets X, .ptr 2 0 0 1, aset t, asets (X.map (putsF c.id t)), .int .i64 0, .int .i64 (0 : Nat)] ++ List.replicate 122 .top) (Wk_four ?_) (W_loop (fun nn fr H' => ∃ j : Nat, j ≤ X.length ∧ nn = X.length - j ∧ H' = [none, some [[.fz (l.map pbyte), .int .i64 n0]], some [cellD ⟨c.id, 1, c.origin, c.quota, c.files⟩]] ∧ fr = [.fz (l.map pbyte), .fz (m.map pbyte), .int .u8 n, .int .u8 q, .top, .top, .top, .top, .bool false, asets X, .ptr 2 0 0 1, aset t, asets (X.map (putsF c.id t)), .int .i64 0, .int .i64 j] ++ List.replicate 122 .top) X.length ⟨0, by omega, rfl, rfl, rfl⟩ ?_))
 ·simp only [cellD, asets, aset, renL, ren, upTo, show (2 : Nat) < 3 by omega, if_true, List.replicate_succ, List.replicate_zero, List.cons_append, List.nil_append, Tops_top, Tops_same, Tops_nil, Int.natCast_zero]
 rintro nn fr H' ⟨j, hj, rfl, rfl, rfl⟩
 refine WT_ok ?_
 simp only [asets, aset, cellD, lay, wk5, slicelV_own, slicelV_fz, onLive_some, RT_slicel, RE_slicel, slice3V_eq, room3_some, roomOf_own, roomOf_fz, RT_slice3, RT_calld, apI_some, clC_some, clearV_own, clearV_fz, wk3, wk, iaddrV_map, Nat.reduceAdd, Nat.reduceSub, Nat.reduceMul, Nat.reduceLeDiff, Nat.reduceEqDiff, Nat.reduceBEq, Int.reduceLE, Int.reduceLT, Int.reduceEq, Int.reduceNe, Int.reduceAdd, Int.reduceSub, Int.reduceToNat, Int.reduceNeg, ↓reduceIte, reduceCtorEq]
 by_cases h5 : (j : Int) < X.length
 ·have w4 : IntKind.i64.wrap ((j : Int) + 1) = (j : Int) + 1 := IntWalk.i64_in _ (by omega)
  have j0 : (0 : Int) ≤ j := by omega
  have hjl : j < X.length := by omega
  have e6' : ∀ x, (pdset x).length = 5 := fun _ => rfl
  have hmg := map_getD (putsF c.id t) X hjl
  have hone := one_of (X.map (putsF c.id t)) (k := j) (by rw [List.length_map]; exact hjl)
  rw [hmg] at hone
  have hxm := dgetD_mem hjl
  generalize hde : X.getD j default = d at hmg hone hxm
  have hdf := (hM.each d hxm).files.len
  have ht1 : ((j : Int) + 1).toNat = j + 1 := by omega
  by_cases c2 : d.id = c.id
  ·skip
   have hw : putsF c.id t d = ⟨c.id, d.kind, d.origin, d.quota, t⟩ := by unfold putsF; rw [if_pos c2, ← c2]
   rw [hw] at hone
   have hs1 : Short [(⟨c.id, d.kind, d.origin, d.quota, t⟩ : Dset)] := ⟨by simp, by simp; omega⟩
   have hww : decide ([(⟨c.id, d.kind, d.origin, d.quota, t⟩ : Dset)] = [⟨c.id, d.kind, d.origin, d.quota, t⟩]) = true := decide_eq_true rfl
   simp only [h5, j0, e6', hde, c2, iaddr_dset, Int.toNat_natCast, pdset, lay, wk5, slicelV_own, slicelV_fz, onLive_some, RT_slicel, RE_slicel, slice3V_eq, room3_some, roomOf_own, roomOf_fz, RT_slice3, RT_calld, apI_some, clC_some, clearV_own, clearV_fz, wk3, wk, iaddrV_map, Nat.reduceAdd, Nat.reduceSub, Nat.reduceMul, Nat.reduceLeDiff, Nat.reduceEqDiff, Nat.reduceBEq, Int.reduceLE, Int.reduceLT, Int.reduceEq, Int.reduceNe, Int.reduceAdd, Int.reduceSub, Int.reduceToNat, Int.reduceNeg, ↓reduceIte, reduceCtorEq]
   refine WT_drawE ?_
   refine WDT_more 1 ?_
   simp only [h5, j0, e6', hde, c2, hYl, w4, ht1, hone, iaddr_dset, Int.toNat_natCast, pdset, ren, renL, lay, wk5, slicelV_own, slicelV_fz, onLive_some, RT_slicel, RE_slicel, slice3V_eq, room3_some, roomOf_own, roomOf_fz, RT_slice3, RT_calld, apI_some, clC_some, clearV_own, clearV_fz, wk3, wk, iaddrV_map, Nat.reduceAdd, Nat.reduceSub, Nat.reduceMul, Nat.reduceLeDiff, Nat.reduceEqDiff, Nat.reduceBEq, Int.reduceLE, Int.reduceLT, Int.reduceEq, Int.reduceNe, Int.reduceAdd, Int.reduceSub, Int.reduceToNat, Int.reduceNeg, ↓reduceIte, reduceCtorEq]
   refine ⟨⟨by omega, by omega⟩, by omega, by omega, by rfl, ?_⟩
   refine CT_ok (sameO [⟨c.id, d.kind, d.origin, d.quota, t⟩] [⟨c.id, d.kind, d.origin, d.quota, t⟩] hs1 hs1 4 1 rfl _ rfl) ?_
   rintro _ _ ⟨rfl, rfl⟩
   simp only [hww, w4, lay, wk5, slicelV_own, slicelV_fz, onLive_some, RT_slicel, RE_slicel, slice3V_eq, room3_some, roomOf_own, roomOf_fz, RT_slice3, RT_calld, apI_some, clC_some, clearV_own, clearV_fz, wk3, wk, iaddrV_map, Nat.reduceAdd, Nat.reduceSub, Nat.reduceMul, Nat.reduceLeDiff, Nat.reduceEqDiff, Nat.reduceBEq, Int.reduceLE, Int.reduceLT, Int.reduceEq, Int.reduceNe, Int.reduceAdd, Int.reduceSub, Int.reduceToNat, Int.reduceNeg, ↓reduceIte, reduceCtorEq]
   refine QLoop_wk (n' := X.length - (j + 1)) (by omega) ⟨j + 1, by omega, rfl, rfl, rfl⟩ (Wk_four ?_)
   simp only [cellD, asets, aset, renL, ren, upTo, show (2 : Nat) < 3 by omega, if_true, List.replicate_succ, List.replicate_zero, List.cons_append, List.nil_append, Tops_top, Tops_same, Tops_nil, Int.natCast_add, Int.natCast_one]
  ·skip
   have hw : putsF c.id t d = ⟨d.id, d.kind, d.origin, d.quota, d.files⟩ := by unfold putsF; rw [if_neg c2]
   rw [hw] at hone
   have hs1 : Short [(⟨d.id, d.kind, d.origin, d.quota, d.files⟩ : Dset)] := ⟨by simp, by simp; omega⟩
   have hww : decide ([(⟨d.id, d.kind, d.origin, d.quota, d.files⟩ : Dset)] = [⟨d.id, d.kind, d.origin, d.quota, d.files⟩]) = true := decide_eq_true rfl
   simp only [h5, j0, e6', hde, c2, iaddr_dset, Int.toNat_natCast, pdset, lay, wk5, slicelV_own, slicelV_fz, onLive_some, RT_slicel, RE_slicel, slice3V_eq, room3_some, roomOf_own, roomOf_fz, RT_slice3, RT_calld, apI_some, clC_some, clearV_own, clearV_fz, wk3, wk, iaddrV_map, Nat.reduceAdd, Nat.reduceSub, Nat.reduceMul, Nat.reduceLeDiff, Nat.reduceEqDiff, Nat.reduceBEq, Int.reduceLE, Int.reduceLT, Int.reduceEq, Int.reduceNe, Int.reduceAdd, Int.reduceSub, Int.reduceToNat, Int.reduceNeg, ↓reduceIte, reduceCtorEq]
   refine WT_drawE ?_
   refine WDT_more 1 ?_
   simp only [h5, j0, e6', hde, c2, hYl, w4, ht1, hone, iaddr_dset, Int.toNat_natCast, pdset, ren, renL, lay, wk5, slicelV_own, slicelV_fz, onLive_some, RT_slicel, RE_slicel, slice3V_eq, room3_some, roomOf_own, roomOf_fz, RT_slice3, RT_calld, apI_some, clC_some, clearV_own, clearV_fz, wk3, wk, iaddrV_map, Nat.reduceAdd, Nat.reduceSub, Nat.reduceMul, Nat.reduceLeDiff, Nat.reduceEqDiff, Nat.reduceBEq, Int.reduceLE, Int.reduceLT, Int.reduceEq, Int.reduceNe, Int.reduceAdd, Int.reduceSub, Int.reduceToNat, Int.reduceNeg, ↓reduceIte, reduceCtorEq]
   refine ⟨⟨by omega, by omega⟩, by omega, by omega, by rfl, ?_⟩
   refine CT_ok (sameO [⟨d.id, d.kind, d.origin, d.quota, d.files⟩] [⟨d.id, d.kind, d.origin, d.quota, d.files⟩] hs1 hs1 4 1 rfl _ rfl) ?_
   rintro _ _ ⟨rfl, rfl⟩
   simp only [hww, w4, lay, wk5, slicelV_own, slicelV_fz, onLive_some, RT_slicel, RE_slicel, slice3V_eq, room3_some, roomOf_own, roomOf_fz, RT_slice3, RT_calld, apI_some, clC_some, clearV_own, clearV_fz, wk3, wk, iaddrV_map, Nat.reduceAdd, Nat.reduceSub, Nat.reduceMul, Nat.reduceLeDiff, Nat.reduceEqDiff, Nat.reduceBEq, Int.reduceLE, Int.reduceLT, Int.reduceEq, Int.reduceNe, Int.reduceAdd, Int.reduceSub, Int.reduceToNat, Int.reduceNeg, ↓reduceIte, reduceCtorEq]
   refine QLoop_wk (n' := X.length - (j + 1)) (by omega) ⟨j + 1, by omega, rfl, rfl, rfl⟩ (Wk_four ?_)
   simp only [cellD, asets, aset, renL, ren, upTo, show (2 : Nat) < 3 by omega, if_true, List.replicate_succ, List.replicate_zero, List.cons_append, List.nil_append, Tops_top, Tops_same, Tops_nil, Int.natCast_add, Int.natCast_one]
 ·simp only [h5, lay, wk5, slicelV_own, slicelV_fz, onLive_some, RT_slicel, RE_slicel, slice3V_eq, room3_some, roomOf_own, roomOf_fz, RT_slice3, RT_calld, apI_some, clC_some, clearV_own, clearV_fz, wk3, wk, iaddrV_map, Nat.reduceAdd, Nat.reduceSub, Nat.reduceMul, Nat.reduceLeDiff, Nat.reduceEqDiff, Nat.reduceBEq, Int.reduceLE, Int.reduceLT, Int.reduceEq, Int.reduceNe, Int.reduceAdd, Int.reduceSub, Int.reduceToNat, Int.reduceNeg, ↓reduceIte, reduceCtorEq]
  refine QStp_go (WT_ok ?_)
  simp only [lay, wk5, slicelV_own, slicelV_fz, onLive_some, RT_slicel, RE_slicel, slice3V_eq, room3_some, roomOf_own, roomOf_fz, RT_slice3, RT_calld, apI_some, clC_some, clearV_own, clearV_fz, wk3, wk, iaddrV_map, Nat.reduceAdd, Nat.reduceSub, Nat.reduceMul, Nat.reduceLeDiff, Nat.reduceEqDiff, Nat.reduceBEq, Int.reduceLE, Int.reduceLT, Int.reduceEq, Int.reduceNe, Int.reduceAdd, Int.reduceSub, Int.reduceToNat, Int.reduceNeg, ↓reduceIte, reduceCtorEq]
end Go.Proofs.YtemjlopoffjmpaaGreat.Abs
set_option linter.unusedSimpArgs false
set_option linter.unusedVariables false
namespace Go.Proofs.YtemjlopoffjmpaaGreat.Abs
open Go Go.Proofs
theorem rep_row {w : World} {a : Option Addr} {len cap : Nat} {zs : List Int}
 (h : (a = none ∧ len = 0 ∧ cap = 0 ∧ zs = []) ∨ ∃ x, a = some x ∧ len ≤ cap ∧ cap ≤ maxLen ∧ zs.length = cap ∧ (∀ i, i < zs.length → w.cell? (x.add i) = some (.int .u8 (zs.getD i 0))) ∧ ∀ n ∈ zs, (Lit.int .u8 n).wf = true) :
 ∃ l : List UInt8, Rep (E0 w) (.fz (l.map pbyte)) (.slice a len cap) := by
 rcases h with ⟨rfl, rfl, rfl, rfl⟩ | ⟨x, rfl, hl, hm, hz, hcell, hwf⟩
 ·exact ⟨[], .pure (x := .fz []) (.fz0 _ _)⟩
 ·by_cases h0 : len = 0
  ·subst h0
   exact ⟨[], .pure (x := .fz []) (.fz0 _ _)⟩
  ·have hc0 := hcell 0 (by omega)
   obtain ⟨b, off, spot⟩ := x
   simp only [Addr.add, if_true, World.cell?] at hc0
   cases hb : w.heap[b]? with
   | none => rw [hb] at hc0; cases hc0
   | some o =>
     rw [hb] at hc0
     cases o with
     | cells c t q =>
       simp only at hc0
       split at hc0
       ·cases hc0
       ·rename_i hsp
        have hsp2 : spot = none := by cases spot with
         | none => rfl
         | some _ => simp at hsp
        subst hsp2
        have hci : ∀ i, i < zs.length → c[off + i]? = some (.int .u8 (zs.getD i 0)) := by
         intro i hi
         have := hcell i hi
         unfold Addr.add at this
         split at this
         ·rename_i e; subst e; simpa [World.cell?, hb] using this
         ·simpa [World.cell?, hb] using this
        refine ⟨(zs.take len).map fun n => UInt8.ofNat n.toNat, ?_⟩
        have hlen : (((zs.take len).map fun n => UInt8.ofNat n.toNat).map pbyte).length = len := by simp; omega
        have key := RepP.fz (F := (E0 w).F) (((zs.take len).map fun n => UInt8.ofNat n.toNat).map pbyte) b off cap 1 c t q hb (by rw [hlen]; exact hl) (by
         intro e he
         obtain ⟨y, _, rfl⟩ := List.mem_map.1 he
         rfl) (by
         rw [hlen]
         have h1 := hci (len - 1) (by omega)
         have : off + (len - 1) < c.size := by
          apply Classical.byContradiction
          intro h
          rw [Array.getElem?_eq_none (by omega)] at h1
          cases h1
         omega) (by
         intro i e k cc v he hk hv
         rw [List.map_map, List.getElem?_map] at he
         have hi : i < (zs.take len).length := by
          apply Classical.byContradiction
          intro h
          rw [List.getElem?_eq_none (by omega)] at he
          cases he
         rw [List.getElem?_eq_getElem hi] at he
         simp only [Option.map_some, Option.some.injEq, Function.comp] at he
         subst he
         have hk0 : k = 0 := by
          apply Classical.byContradiction
          intro h
          rw [List.getElem?_eq_none (by simp [pbyte]; omega)] at hk
          cases hk
         subst hk0
         simp only [pbyte, List.getElem?_cons_zero, Option.some.injEq] at hk
         subst hk
         rw [List.length_take] at hi
         rw [Nat.mul_one, Nat.add_zero, hci i (by omega)] at hv
         cases hv
         have hg : zs.getD i 0 = (zs.take len)[i]'(by rw [List.length_take]; exact hi) := by
          rw [List.getElem_take, List.getD_eq_getElem?_getD, List.getElem?_eq_getElem (by omega), Option.getD_some]
         rw [hg]
         have hw := hwf ((zs.take len)[i]'(by rw [List.length_take]; exact hi)) (List.mem_of_mem_take (List.getElem_mem _))
         generalize (zs.take len)[i]'(by rw [List.length_take]; exact hi) = n at hw
         have hn : 0 ≤ n ∧ n < 256 := by
          have := hw; simp [Lit.wf, IntKind.min, IntKind.max, IntKind.bits, IntKind.signed] at this; omega
         have : ((UInt8.ofNat n.toNat).toNat : Int) = n := by
          rw [UInt8.toNat_ofNat']
          omega
         rw [this]
         exact .int _ _)
        rw [hlen] at key
        exact .pure (x := .fz _) key
     | _ => simp at hc0
theorem repL_one {E : Env} {x : AV} {v : Value} (h : Rep E x v) : RepL E [x] #[v] := by
 refine ⟨rfl, fun i c u hc hu => ?_⟩
 match i, hc, hu with
 | 0, hc, hu => simp at hc hu; subst hc; subst hu; exact h
 | i + 1, hc, _ => simp at hc
end Go.Proofs.YtemjlopoffjmpaaGreat.Abs
