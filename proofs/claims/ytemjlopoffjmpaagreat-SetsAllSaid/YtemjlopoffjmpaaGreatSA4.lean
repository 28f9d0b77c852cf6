/-
  Part 4 of the proof: no condition. (Parts of the abstract layer, of the program's functions in its form, and of their contracts.)
-/
import Derived.Test.YtemjlopoffjmpaaGreatSAWk
import Derived.Test.YtemjlopoffjmpaaGreatSAWk3
import Derived.Test.YtemjlopoffjmpaaGreatSAAbs39
import Derived.Test.YtemjlopoffjmpaaGreatSAAbs41
import Derived.Test.YtemjlopoffjmpaaGreatSA1
import Derived.Test.YtemjlopoffjmpaaGreatSA3
import Derived.Test.YtemjlopoffjmpaaGreatSA2
import Derived.Test.YtemjlopoffjmpaaGreatSAAbs22
import Derived.Test.YtemjlopoffjmpaaGreatProg
import Derived.KernelRfl
import Derived.Test.YtemjlopoffjmpaaGreatSAAbs35
import Derived.Test.YtemjlopoffjmpaaGreatSAAbs37
import Derived.Test.YtemjlopoffjmpaaGreatSAAbs38
import Derived.ProofKit
set_option linter.unusedSimpArgs false
set_option linter.unusedVariables false
namespace Go.Proofs.YtemjlopoffjmpaaGreat.Abs
open Go Go.Proofs
theorem torn_nil0 : C Tryz.prog 103 [.fz []] [] (fun y _ => y = .bool false) := by
 have h08 : ¬ ((0 : Nat) : Int) = 8 := by decide
 refine C_body d103 rfl (WT_ok ?_)
 delta c103 I0 I1 I2 I3 I4 I5 I6 I7 I8 I9 KI
 simp only [h08, lay, wk5, wk4, wk3, wk, iaddrV_map, Nat.reduceAdd, Nat.reduceSub, Nat.reduceMul, Nat.reduceLeDiff, Nat.reduceEqDiff, Nat.reduceBEq, Int.reduceLE, Int.reduceLT, Int.reduceEq, Int.reduceNe, Int.reduceAdd, Int.reduceSub, Int.reduceToNat, Int.reduceNeg, ↓reduceIte, reduceCtorEq]
theorem torn_nil (H : AH) : C Tryz.prog 103 [.fz []] H (fun x H' => x = .bool false ∧ H' = H) :=
 C_flat (K0 := fun x _ => x = .bool false) torn_nil0 (by rintro x _ rfl; exact ⟨rfl, rfl, rfl⟩)
theorem rmay_nil0 : C Tryz.prog 62 [.fz []] [] (fun y _ => y = .bool false) := by
 refine C_body d62 rfl (WT_ok ?_)
 delta c62 I0 I1 I2 I3 I4 I5 I6 I7 I8 I9 KI
 simp only [lay, wk5, wk4, wk3, wk, iaddrV_map, Nat.reduceAdd, Nat.reduceSub, Nat.reduceMul, Nat.reduceLeDiff, Nat.reduceEqDiff, Nat.reduceBEq, Int.reduceLE, Int.reduceLT, Int.reduceEq, Int.reduceNe, Int.reduceAdd, Int.reduceSub, Int.reduceToNat, Int.reduceNeg, ↓reduceIte, reduceCtorEq]
 refine CT_ok (torn_nil _) ?_
 rintro _ _ ⟨rfl, rfl⟩
 simp only [lay, wk5, wk4, wk3, wk, iaddrV_map, Nat.reduceAdd, Nat.reduceSub, Nat.reduceMul, Nat.reduceLeDiff, Nat.reduceEqDiff, Nat.reduceBEq, Int.reduceLE, Int.reduceLT, Int.reduceEq, Int.reduceNe, Int.reduceAdd, Int.reduceSub, Int.reduceToNat, Int.reduceNeg, ↓reduceIte, reduceCtorEq]
theorem rmay_nil (H : AH) : C Tryz.prog 62 [.fz []] H (fun x H' => x = .bool false ∧ H' = H) :=
 C_flat (K0 := fun x _ => x = .bool false) rmay_nil0 (by rintro x _ rfl; exact ⟨rfl, rfl, rfl⟩)
set_option maxRecDepth 10000 in
set_option maxHeartbeats 8000000 in
theorem mayG0 (l : List Dset) (hl : Loose l) : C Tryz.prog 31 [asets l] [] (fun x _ => ∃ b : Bool, x = .bool b ∧ (b = true ↔ MayL l)) := by
 have hl1 := hl.1
 have no : ¬ MayL l → ∃ b : Bool, AV.bool false = .bool b ∧ (b = true ↔ MayL l) := fun h => ⟨false, rfl, by simp [h]⟩
 refine C_body d31 rfl ?_
 delta c31 I0 I1 I2 I3 I4 I5 I6 I7 I8 I9 KI
 refine W_stp ?_
 simp only [asets, lay, wk5, wk4, wk3, wk, iaddrV_map, Nat.reduceAdd, Nat.reduceSub, Nat.reduceMul, Nat.reduceLeDiff, Nat.reduceEqDiff, Nat.reduceBEq, Int.reduceLE, Int.reduceLT, Int.reduceEq, Int.reduceNe, Int.reduceAdd, Int.reduceSub, Int.reduceToNat, Int.reduceNeg, ↓reduceIte, reduceCtorEq]
 refine QStp_go (W_stp ?_)
 by_cases g8 : (8 : Int) < l.length
 ·simp only [g8, lay, wk5, wk4, wk3, wk, iaddrV_map, Nat.reduceAdd, Nat.reduceSub, Nat.reduceMul, Nat.reduceLeDiff, Nat.reduceEqDiff, Nat.reduceBEq, Int.reduceLE, Int.reduceLT, Int.reduceEq, Int.reduceNe, Int.reduceAdd, Int.reduceSub, Int.reduceToNat, Int.reduceNeg, ↓reduceIte, reduceCtorEq]
  exact no fun h => by have := h.len; omega
 simp only [g8, lay, wk5, wk4, wk3, wk, iaddrV_map, Nat.reduceAdd, Nat.reduceSub, Nat.reduceMul, Nat.reduceLeDiff, Nat.reduceEqDiff, Nat.reduceBEq, Int.reduceLE, Int.reduceLT, Int.reduceEq, Int.reduceNe, Int.reduceAdd, Int.reduceSub, Int.reduceToNat, Int.reduceNeg, ↓reduceIte, reduceCtorEq]
 refine QStp_go (W_cut (fun fr H => (∀ k, k < l.length → SetB l k) ∧ H = [] ∧ fr = [asets l, .top, .bool false] ++ List.replicate 124 .top) ?_ ?_)
 ·simp only [lay, wk5, wk4, wk3, wk, iaddrV_map, Nat.reduceAdd, Nat.reduceSub, Nat.reduceMul, Nat.reduceLeDiff, Nat.reduceEqDiff, Nat.reduceBEq, Int.reduceLE, Int.reduceLT, Int.reduceEq, Int.reduceNe, Int.reduceAdd, Int.reduceSub, Int.reduceToNat, Int.reduceNeg, ↓reduceIte, reduceCtorEq]
  refine WT_loop (W_wk (fr' := [asets l, .top, .bool false, .int .i64 (0 : Nat)] ++ List.replicate 123 .top) (Wk_tops ?_) (W_loop (fun n fr H' => ∃ i : Nat, i ≤ l.length ∧ n = l.length - i ∧ (∀ j, j < i → SetB l j) ∧ H' = [] ∧ fr = [asets l, .top, .bool false, .int .i64 i] ++ List.replicate 123 .top) l.length ⟨0, by omega, rfl, fun j hj => by omega, rfl, rfl⟩ ?_))
  ·simp only [asets, tp, Int.natCast_zero]
  rintro n fr H' ⟨i, hi, rfl, hB, rfl, rfl⟩
  refine WT_ok ?_
  simp only [asets, lay, wk5, wk4, wk3, wk, iaddrV_map, Nat.reduceAdd, Nat.reduceSub, Nat.reduceMul, Nat.reduceLeDiff, Nat.reduceEqDiff, Nat.reduceBEq, Int.reduceLE, Int.reduceLT, Int.reduceEq, Int.reduceNe, Int.reduceAdd, Int.reduceSub, Int.reduceToNat, Int.reduceNeg, ↓reduceIte, reduceCtorEq]
  by_cases hh : (i : Int) < l.length
  case neg =>
   have : i = l.length := by omega
   subst this
   simp only [hh, lay, wk5, wk4, wk3, wk, iaddrV_map, Nat.reduceAdd, Nat.reduceSub, Nat.reduceMul, Nat.reduceLeDiff, Nat.reduceEqDiff, Nat.reduceBEq, Int.reduceLE, Int.reduceLT, Int.reduceEq, Int.reduceNe, Int.reduceAdd, Int.reduceSub, Int.reduceToNat, Int.reduceNeg, ↓reduceIte, reduceCtorEq]
   refine QCut_go ⟨hB, rfl, rfl⟩ (Wk_tops ?_)
   simp only [asets, tp]
  have hil : i < l.length := by omega
  have h0 : (0 : Int) ≤ i := by omega
  have w2 : IntKind.i64.wrap ((i : Int) + 1) = (i : Int) + 1 := IntWalk.i64_in _ (by omega)
  have e6' : ∀ x, (pdset x).length = 5 := fun _ => rfl
  have hsb := fun hM : MayL l => hM.setB hil
  have hdf := hl.2 _ (dgetD_mem hil)
  have hnext : SetB l i → ∀ j, j < i + 1 → SetB l j := fun h j hj => by
   rcases Nat.lt_or_ge j i with h' | h'
   ·exact hB j h'
   ·have : j = i := by omega
    subst this; exact h
  have mk : ∀ d, l.getD i default = d → (1 ≤ d.id ∧ d.id ≤ 65535) → (i = 0 ∨ (l.getD (i - 1) default).id < d.id) → Wf d.files → (0 ≤ d.quota ∧ d.quota ≤ 255) → (d.kind = 1 ∨ d.kind = 2) → (d.kind = 2 → d.quota = 0 ∧ ∃ o, getA l d.origin = some o ∧ o.kind = 1) → (d.kind = 1 → d.origin = 0 ∨ ∃ o, getA l d.origin = some o ∧ o.kind = 2) → SetB l i := by
   rintro d rfl h1 h2 h3 h4 h5 h6 h7
   exact ⟨h1, h2, h3, h4, h5, h6, h7⟩
  have un : ∀ d, l.getD i default = d → SetB l i → (1 ≤ d.id ∧ d.id ≤ 65535) ∧ (i = 0 ∨ (l.getD (i - 1) default).id < d.id) ∧ Wf d.files ∧ (0 ≤ d.quota ∧ d.quota ≤ 255) ∧ (d.kind = 1 ∨ d.kind = 2) ∧ (d.kind = 2 → d.quota = 0 ∧ ∃ o, getA l d.origin = some o ∧ o.kind = 1) ∧ (d.kind = 1 → d.origin = 0 ∨ ∃ o, getA l d.origin = some o ∧ o.kind = 2) := by
   rintro d rfl ⟨h1, h2, h3, h4, h5, h6, h7⟩
   exact ⟨h1, h2, h3, h4, h5, h6, h7⟩
  generalize hd : l.getD i default = d at hdf mk un
  replace mk := mk d rfl
  replace un := fun hM : MayL l => un d rfl (hsb hM)
  have hrid := rid68 d.id
  simp only [hh, h0, e6', hd, iaddr_dset, pdset, Int.toNat_natCast, lay, wk5, wk4, wk3, wk, iaddrV_map, Nat.reduceAdd, Nat.reduceSub, Nat.reduceMul, Nat.reduceLeDiff, Nat.reduceEqDiff, Nat.reduceBEq, Int.reduceLE, Int.reduceLT, Int.reduceEq, Int.reduceNe, Int.reduceAdd, Int.reduceSub, Int.reduceToNat, Int.reduceNeg, ↓reduceIte, reduceCtorEq]
  refine WT_drawE ?_
  by_cases c1 : d.id < 1
  ·simp only [c1, lay, wk5, wk4, wk3, wk, iaddrV_map, Nat.reduceAdd, Nat.reduceSub, Nat.reduceMul, Nat.reduceLeDiff, Nat.reduceEqDiff, Nat.reduceBEq, Int.reduceLE, Int.reduceLT, Int.reduceEq, Int.reduceNe, Int.reduceAdd, Int.reduceSub, Int.reduceToNat, Int.reduceNeg, ↓reduceIte, reduceCtorEq]
   refine WDT_more 0 ?_
   simp only [lay, wk5, wk4, wk3, wk, iaddrV_map, Nat.reduceAdd, Nat.reduceSub, Nat.reduceMul, Nat.reduceLeDiff, Nat.reduceEqDiff, Nat.reduceBEq, Int.reduceLE, Int.reduceLT, Int.reduceEq, Int.reduceNe, Int.reduceAdd, Int.reduceSub, Int.reduceToNat, Int.reduceNeg, ↓reduceIte, reduceCtorEq]
   refine ⟨by rfl, ?_⟩
   exact no fun hM => by have := (un hM).1; omega
  have hi0 : (decide (0 ≤ d.id)) = true := decide_eq_true (by omega)
  by_cases c2 : d.id ≤ 65535
  case neg =>
   have hi1 : decide (d.id ≤ 65535) = false := decide_eq_false c2
   rw [hi0, hi1] at hrid
   simp only [c1, lay, wk5, wk4, wk3, wk, iaddrV_map, Nat.reduceAdd, Nat.reduceSub, Nat.reduceMul, Nat.reduceLeDiff, Nat.reduceEqDiff, Nat.reduceBEq, Int.reduceLE, Int.reduceLT, Int.reduceEq, Int.reduceNe, Int.reduceAdd, Int.reduceSub, Int.reduceToNat, Int.reduceNeg, ↓reduceIte, reduceCtorEq]
   refine CT_ok (hrid _) ?_
   rintro _ _ ⟨rfl, rfl⟩
   simp only [Bool.and_false, lay, wk5, wk4, wk3, wk, iaddrV_map, Nat.reduceAdd, Nat.reduceSub, Nat.reduceMul, Nat.reduceLeDiff, Nat.reduceEqDiff, Nat.reduceBEq, Int.reduceLE, Int.reduceLT, Int.reduceEq, Int.reduceNe, Int.reduceAdd, Int.reduceSub, Int.reduceToNat, Int.reduceNeg, ↓reduceIte, reduceCtorEq]
   refine WDT_more 0 ?_
   simp only [lay, wk5, wk4, wk3, wk, iaddrV_map, Nat.reduceAdd, Nat.reduceSub, Nat.reduceMul, Nat.reduceLeDiff, Nat.reduceEqDiff, Nat.reduceBEq, Int.reduceLE, Int.reduceLT, Int.reduceEq, Int.reduceNe, Int.reduceAdd, Int.reduceSub, Int.reduceToNat, Int.reduceNeg, ↓reduceIte, reduceCtorEq]
   refine ⟨by rfl, ?_⟩
   exact no fun hM => by have := (un hM).1; omega
  have hi1 : decide (d.id ≤ 65535) = true := decide_eq_true c2
  rw [hi0, hi1] at hrid
  simp only [c1, lay, wk5, wk4, wk3, wk, iaddrV_map, Nat.reduceAdd, Nat.reduceSub, Nat.reduceMul, Nat.reduceLeDiff, Nat.reduceEqDiff, Nat.reduceBEq, Int.reduceLE, Int.reduceLT, Int.reduceEq, Int.reduceNe, Int.reduceAdd, Int.reduceSub, Int.reduceToNat, Int.reduceNeg, ↓reduceIte, reduceCtorEq]
  refine CT_ok (hrid _) ?_
  rintro _ _ ⟨rfl, rfl⟩
  by_cases i0 : (0 : Int) < i
  ·have w1 : IntKind.i64.wrap ((i : Int) - 1) = ((i - 1 : Nat) : Int) := by rw [IntWalk.i64_in _ (by omega)]; omega
   have k0 : (0 : Int) ≤ (i - 1 : Nat) := by omega
   have k1' : ((i - 1 : Nat) : Int) < l.length := by omega
   simp only [i0, Bool.and_self, lay, wk5, wk4, wk3, wk, iaddrV_map, Nat.reduceAdd, Nat.reduceSub, Nat.reduceMul, Nat.reduceLeDiff, Nat.reduceEqDiff, Nat.reduceBEq, Int.reduceLE, Int.reduceLT, Int.reduceEq, Int.reduceNe, Int.reduceAdd, Int.reduceSub, Int.reduceToNat, Int.reduceNeg, ↓reduceIte, reduceCtorEq]
   refine WDT_more 0 ?_
   simp only [i0, w1, k0, k1', e6', iaddr_dset, pdset, Int.toNat_natCast, lay, wk5, wk4, wk3, wk, iaddrV_map, Nat.reduceAdd, Nat.reduceSub, Nat.reduceMul, Nat.reduceLeDiff, Nat.reduceEqDiff, Nat.reduceBEq, Int.reduceLE, Int.reduceLT, Int.reduceEq, Int.reduceNe, Int.reduceAdd, Int.reduceSub, Int.reduceToNat, Int.reduceNeg, ↓reduceIte, reduceCtorEq]
   refine ⟨by rfl, ?_⟩
   by_cases cs : d.id ≤ (l.getD (i - 1) default).id
   ·simp only [cs, lay, wk5, wk4, wk3, wk, iaddrV_map, Nat.reduceAdd, Nat.reduceSub, Nat.reduceMul, Nat.reduceLeDiff, Nat.reduceEqDiff, Nat.reduceBEq, Int.reduceLE, Int.reduceLT, Int.reduceEq, Int.reduceNe, Int.reduceAdd, Int.reduceSub, Int.reduceToNat, Int.reduceNeg, ↓reduceIte, reduceCtorEq]
    exact no fun hM => by rcases (un hM).2.1 with e | e <;> omega
   simp only [cs, lay, wk5, wk4, wk3, wk, iaddrV_map, Nat.reduceAdd, Nat.reduceSub, Nat.reduceMul, Nat.reduceLeDiff, Nat.reduceEqDiff, Nat.reduceBEq, Int.reduceLE, Int.reduceLT, Int.reduceEq, Int.reduceNe, Int.reduceAdd, Int.reduceSub, Int.reduceToNat, Int.reduceNeg, ↓reduceIte, reduceCtorEq]
   rcases hdf with hw | hz
   case inr =>
    have hn := rmay_nil
    simp only [hz, List.map_nil, lay, wk5, wk4, wk3, wk, iaddrV_map, Nat.reduceAdd, Nat.reduceSub, Nat.reduceMul, Nat.reduceLeDiff, Nat.reduceEqDiff, Nat.reduceBEq, Int.reduceLE, Int.reduceLT, Int.reduceEq, Int.reduceNe, Int.reduceAdd, Int.reduceSub, Int.reduceToNat, Int.reduceNeg, ↓reduceIte, reduceCtorEq]
    refine CT_ok (hn _) ?_
    rintro _ _ ⟨rfl, rfl⟩
    simp only [lay, wk5, wk4, wk3, wk, iaddrV_map, Nat.reduceAdd, Nat.reduceSub, Nat.reduceMul, Nat.reduceLeDiff, Nat.reduceEqDiff, Nat.reduceBEq, Int.reduceLE, Int.reduceLT, Int.reduceEq, Int.reduceNe, Int.reduceAdd, Int.reduceSub, Int.reduceToNat, Int.reduceNeg, ↓reduceIte, reduceCtorEq]
    exact no fun hM => by have := (un hM).2.2.1.len; rw [hz] at this; simp at this
   refine CT_ok (may69 d.files hw _) ?_
   rintro _ _ ⟨rfl, rfl⟩
   by_cases c3 : d.quota < 0
   ·simp only [c3, lay, wk5, wk4, wk3, wk, iaddrV_map, Nat.reduceAdd, Nat.reduceSub, Nat.reduceMul, Nat.reduceLeDiff, Nat.reduceEqDiff, Nat.reduceBEq, Int.reduceLE, Int.reduceLT, Int.reduceEq, Int.reduceNe, Int.reduceAdd, Int.reduceSub, Int.reduceToNat, Int.reduceNeg, ↓reduceIte, reduceCtorEq]
    exact no fun hM => by have := (un hM).2.2.2.1; omega
   by_cases c4 : (255 : Int) < d.quota
   ·simp only [c3, c4, lay, wk5, wk4, wk3, wk, iaddrV_map, Nat.reduceAdd, Nat.reduceSub, Nat.reduceMul, Nat.reduceLeDiff, Nat.reduceEqDiff, Nat.reduceBEq, Int.reduceLE, Int.reduceLT, Int.reduceEq, Int.reduceNe, Int.reduceAdd, Int.reduceSub, Int.reduceToNat, Int.reduceNeg, ↓reduceIte, reduceCtorEq]
    exact no fun hM => by have := (un hM).2.2.2.1; omega
   simp only [c3, c4, lay, wk5, wk4, wk3, wk, iaddrV_map, Nat.reduceAdd, Nat.reduceSub, Nat.reduceMul, Nat.reduceLeDiff, Nat.reduceEqDiff, Nat.reduceBEq, Int.reduceLE, Int.reduceLT, Int.reduceEq, Int.reduceNe, Int.reduceAdd, Int.reduceSub, Int.reduceToNat, Int.reduceNeg, ↓reduceIte, reduceCtorEq]
   refine CT_ok (rgetL l (by omega) d.origin _) ?_
   rintro _ _ ⟨rfl, rfl⟩
   by_cases k2 : d.kind = 2
   ·by_cases q0 : d.quota = 0
    case neg =>
     cases hg : getA l d.origin with
     | none =>
       simp only [getV, k2, q0, lay, wk5, wk4, wk3, wk, iaddrV_map, Nat.reduceAdd, Nat.reduceSub, Nat.reduceMul, Nat.reduceLeDiff, Nat.reduceEqDiff, Nat.reduceBEq, Int.reduceLE, Int.reduceLT, Int.reduceEq, Int.reduceNe, Int.reduceAdd, Int.reduceSub, Int.reduceToNat, Int.reduceNeg, ↓reduceIte, reduceCtorEq]
       exact no fun hM => q0 ((un hM).2.2.2.2.2.1 k2).1
     | some o =>
       simp only [getV, k2, q0, cellD, aset, lay, wk5, wk4, wk3, wk, iaddrV_map, Nat.reduceAdd, Nat.reduceSub, Nat.reduceMul, Nat.reduceLeDiff, Nat.reduceEqDiff, Nat.reduceBEq, Int.reduceLE, Int.reduceLT, Int.reduceEq, Int.reduceNe, Int.reduceAdd, Int.reduceSub, Int.reduceToNat, Int.reduceNeg, ↓reduceIte, reduceCtorEq]
       exact no fun hM => q0 ((un hM).2.2.2.2.2.1 k2).1
    cases hg : getA l d.origin with
    | none =>
      simp only [getV, k2, q0, lay, wk5, wk4, wk3, wk, iaddrV_map, Nat.reduceAdd, Nat.reduceSub, Nat.reduceMul, Nat.reduceLeDiff, Nat.reduceEqDiff, Nat.reduceBEq, Int.reduceLE, Int.reduceLT, Int.reduceEq, Int.reduceNe, Int.reduceAdd, Int.reduceSub, Int.reduceToNat, Int.reduceNeg, ↓reduceIte, reduceCtorEq]
      exact no fun hM => by obtain ⟨_, o, ho, _⟩ := (un hM).2.2.2.2.2.1 k2; rw [hg] at ho; cases ho
    | some o =>
      by_cases ok : o.kind = 1
      ·simp only [getV, k2, q0, ok, w2, cellD, aset, lay, wk5, wk4, wk3, wk, iaddrV_map, Nat.reduceAdd, Nat.reduceSub, Nat.reduceMul, Nat.reduceLeDiff, Nat.reduceEqDiff, Nat.reduceBEq, Int.reduceLE, Int.reduceLT, Int.reduceEq, Int.reduceNe, Int.reduceAdd, Int.reduceSub, Int.reduceToNat, Int.reduceNeg, ↓reduceIte, reduceCtorEq]
       refine QLoop_wk (n' := l.length - (i + 1)) (by omega) ⟨i + 1, by omega, rfl, hnext (mk ⟨by omega, c2⟩ (.inr (by omega)) hw ⟨by omega, by omega⟩ (.inr k2) (fun _ => ⟨q0, o, hg, ok⟩) (fun e => by omega)), rfl, rfl⟩ (Wk_none ?_)
       simp only [asets, renL, ren, tq]
      ·simp only [getV, k2, q0, ok, cellD, aset, lay, wk5, wk4, wk3, wk, iaddrV_map, Nat.reduceAdd, Nat.reduceSub, Nat.reduceMul, Nat.reduceLeDiff, Nat.reduceEqDiff, Nat.reduceBEq, Int.reduceLE, Int.reduceLT, Int.reduceEq, Int.reduceNe, Int.reduceAdd, Int.reduceSub, Int.reduceToNat, Int.reduceNeg, ↓reduceIte, reduceCtorEq]
       exact no fun hM => by obtain ⟨_, o', ho, hk⟩ := (un hM).2.2.2.2.2.1 k2; rw [hg] at ho; cases ho; exact ok hk
   by_cases k1 : d.kind = 1
   case neg =>
    cases hg : getA l d.origin with
    | none =>
      simp only [getV, k1, k2, lay, wk5, wk4, wk3, wk, iaddrV_map, Nat.reduceAdd, Nat.reduceSub, Nat.reduceMul, Nat.reduceLeDiff, Nat.reduceEqDiff, Nat.reduceBEq, Int.reduceLE, Int.reduceLT, Int.reduceEq, Int.reduceNe, Int.reduceAdd, Int.reduceSub, Int.reduceToNat, Int.reduceNeg, ↓reduceIte, reduceCtorEq]
      exact no fun hM => by rcases (un hM).2.2.2.2.1 with e | e; exact k1 e; exact k2 e
    | some o =>
      simp only [getV, k1, k2, cellD, aset, lay, wk5, wk4, wk3, wk, iaddrV_map, Nat.reduceAdd, Nat.reduceSub, Nat.reduceMul, Nat.reduceLeDiff, Nat.reduceEqDiff, Nat.reduceBEq, Int.reduceLE, Int.reduceLT, Int.reduceEq, Int.reduceNe, Int.reduceAdd, Int.reduceSub, Int.reduceToNat, Int.reduceNeg, ↓reduceIte, reduceCtorEq]
      exact no fun hM => by rcases (un hM).2.2.2.2.1 with e | e; exact k1 e; exact k2 e
   by_cases o0 : d.origin = 0
   ·cases hg : getA l d.origin with
    | none =>
      simp only [getV, k1, o0, w2, lay, wk5, wk4, wk3, wk, iaddrV_map, Nat.reduceAdd, Nat.reduceSub, Nat.reduceMul, Nat.reduceLeDiff, Nat.reduceEqDiff, Nat.reduceBEq, Int.reduceLE, Int.reduceLT, Int.reduceEq, Int.reduceNe, Int.reduceAdd, Int.reduceSub, Int.reduceToNat, Int.reduceNeg, ↓reduceIte, reduceCtorEq]
      refine QLoop_wk (n' := l.length - (i + 1)) (by omega) ⟨i + 1, by omega, rfl, hnext (mk ⟨by omega, c2⟩ (.inr (by omega)) hw ⟨by omega, by omega⟩ (.inl k1) (fun e => by omega) (fun _ => .inl o0)), rfl, rfl⟩ (Wk_none ?_)
      simp only [asets, renL, ren, tq]
    | some o =>
      simp only [getV, k1, o0, w2, cellD, aset, lay, wk5, wk4, wk3, wk, iaddrV_map, Nat.reduceAdd, Nat.reduceSub, Nat.reduceMul, Nat.reduceLeDiff, Nat.reduceEqDiff, Nat.reduceBEq, Int.reduceLE, Int.reduceLT, Int.reduceEq, Int.reduceNe, Int.reduceAdd, Int.reduceSub, Int.reduceToNat, Int.reduceNeg, ↓reduceIte, reduceCtorEq]
      refine QLoop_wk (n' := l.length - (i + 1)) (by omega) ⟨i + 1, by omega, rfl, hnext (mk ⟨by omega, c2⟩ (.inr (by omega)) hw ⟨by omega, by omega⟩ (.inl k1) (fun e => by omega) (fun _ => .inl o0)), rfl, rfl⟩ (Wk_none ?_)
      simp only [asets, renL, ren, tq]
   cases hg : getA l d.origin with
   | none =>
     simp only [getV, k1, o0, lay, wk5, wk4, wk3, wk, iaddrV_map, Nat.reduceAdd, Nat.reduceSub, Nat.reduceMul, Nat.reduceLeDiff, Nat.reduceEqDiff, Nat.reduceBEq, Int.reduceLE, Int.reduceLT, Int.reduceEq, Int.reduceNe, Int.reduceAdd, Int.reduceSub, Int.reduceToNat, Int.reduceNeg, ↓reduceIte, reduceCtorEq]
     exact no fun hM => by
      rcases (un hM).2.2.2.2.2.2 k1 with e | ⟨o, ho, _⟩
      ·exact o0 e
      ·rw [hg] at ho; cases ho
   | some o =>
     by_cases ok : o.kind = 2
     ·simp only [getV, k1, o0, ok, w2, cellD, aset, lay, wk5, wk4, wk3, wk, iaddrV_map, Nat.reduceAdd, Nat.reduceSub, Nat.reduceMul, Nat.reduceLeDiff, Nat.reduceEqDiff, Nat.reduceBEq, Int.reduceLE, Int.reduceLT, Int.reduceEq, Int.reduceNe, Int.reduceAdd, Int.reduceSub, Int.reduceToNat, Int.reduceNeg, ↓reduceIte, reduceCtorEq]
      refine QLoop_wk (n' := l.length - (i + 1)) (by omega) ⟨i + 1, by omega, rfl, hnext (mk ⟨by omega, c2⟩ (.inr (by omega)) hw ⟨by omega, by omega⟩ (.inl k1) (fun e => by omega) (fun _ => .inr ⟨o, hg, ok⟩)), rfl, rfl⟩ (Wk_none ?_)
      simp only [asets, renL, ren, tq]
     ·simp only [getV, k1, o0, ok, cellD, aset, lay, wk5, wk4, wk3, wk, iaddrV_map, Nat.reduceAdd, Nat.reduceSub, Nat.reduceMul, Nat.reduceLeDiff, Nat.reduceEqDiff, Nat.reduceBEq, Int.reduceLE, Int.reduceLT, Int.reduceEq, Int.reduceNe, Int.reduceAdd, Int.reduceSub, Int.reduceToNat, Int.reduceNeg, ↓reduceIte, reduceCtorEq]
      exact no fun hM => by
       rcases (un hM).2.2.2.2.2.2 k1 with e | ⟨o', ho, hk⟩
       ·exact o0 e
       ·rw [hg] at ho; cases ho; exact ok hk
  ·have hi0' : i = 0 := by omega
   simp only [i0, Bool.and_self, lay, wk5, wk4, wk3, wk, iaddrV_map, Nat.reduceAdd, Nat.reduceSub, Nat.reduceMul, Nat.reduceLeDiff, Nat.reduceEqDiff, Nat.reduceBEq, Int.reduceLE, Int.reduceLT, Int.reduceEq, Int.reduceNe, Int.reduceAdd, Int.reduceSub, Int.reduceToNat, Int.reduceNeg, ↓reduceIte, reduceCtorEq]
   refine WDT_more 0 ?_
   simp only [i0, lay, wk5, wk4, wk3, wk, iaddrV_map, Nat.reduceAdd, Nat.reduceSub, Nat.reduceMul, Nat.reduceLeDiff, Nat.reduceEqDiff, Nat.reduceBEq, Int.reduceLE, Int.reduceLT, Int.reduceEq, Int.reduceNe, Int.reduceAdd, Int.reduceSub, Int.reduceToNat, Int.reduceNeg, ↓reduceIte, reduceCtorEq]
   refine ⟨by rfl, ?_⟩
   rcases hdf with hw | hz
   case inr =>
    have hn := rmay_nil
    simp only [hz, List.map_nil, lay, wk5, wk4, wk3, wk, iaddrV_map, Nat.reduceAdd, Nat.reduceSub, Nat.reduceMul, Nat.reduceLeDiff, Nat.reduceEqDiff, Nat.reduceBEq, Int.reduceLE, Int.reduceLT, Int.reduceEq, Int.reduceNe, Int.reduceAdd, Int.reduceSub, Int.reduceToNat, Int.reduceNeg, ↓reduceIte, reduceCtorEq]
    refine CT_ok (hn _) ?_
    rintro _ _ ⟨rfl, rfl⟩
    simp only [lay, wk5, wk4, wk3, wk, iaddrV_map, Nat.reduceAdd, Nat.reduceSub, Nat.reduceMul, Nat.reduceLeDiff, Nat.reduceEqDiff, Nat.reduceBEq, Int.reduceLE, Int.reduceLT, Int.reduceEq, Int.reduceNe, Int.reduceAdd, Int.reduceSub, Int.reduceToNat, Int.reduceNeg, ↓reduceIte, reduceCtorEq]
    exact no fun hM => by have := (un hM).2.2.1.len; rw [hz] at this; simp at this
   refine CT_ok (may69 d.files hw _) ?_
   rintro _ _ ⟨rfl, rfl⟩
   by_cases c3 : d.quota < 0
   ·simp only [c3, lay, wk5, wk4, wk3, wk, iaddrV_map, Nat.reduceAdd, Nat.reduceSub, Nat.reduceMul, Nat.reduceLeDiff, Nat.reduceEqDiff, Nat.reduceBEq, Int.reduceLE, Int.reduceLT, Int.reduceEq, Int.reduceNe, Int.reduceAdd, Int.reduceSub, Int.reduceToNat, Int.reduceNeg, ↓reduceIte, reduceCtorEq]
    exact no fun hM => by have := (un hM).2.2.2.1; omega
   by_cases c4 : (255 : Int) < d.quota
   ·simp only [c3, c4, lay, wk5, wk4, wk3, wk, iaddrV_map, Nat.reduceAdd, Nat.reduceSub, Nat.reduceMul, Nat.reduceLeDiff, Nat.reduceEqDiff, Nat.reduceBEq, Int.reduceLE, Int.reduceLT, Int.reduceEq, Int.reduceNe, Int.reduceAdd, Int.reduceSub, Int.reduceToNat, Int.reduceNeg, ↓reduceIte, reduceCtorEq]
    exact no fun hM => by have := (un hM).2.2.2.1; omega
   simp only [c3, c4, lay, wk5, wk4, wk3, wk, iaddrV_map, Nat.reduceAdd, Nat.reduceSub, Nat.reduceMul, Nat.reduceLeDiff, Nat.reduceEqDiff, Nat.reduceBEq, Int.reduceLE, Int.reduceLT, Int.reduceEq, Int.reduceNe, Int.reduceAdd, Int.reduceSub, Int.reduceToNat, Int.reduceNeg, ↓reduceIte, reduceCtorEq]
   refine CT_ok (rgetL l (by omega) d.origin _) ?_
   rintro _ _ ⟨rfl, rfl⟩
   by_cases k2 : d.kind = 2
   ·by_cases q0 : d.quota = 0
    case neg =>
     cases hg : getA l d.origin with
     | none =>
       simp only [getV, k2, q0, lay, wk5, wk4, wk3, wk, iaddrV_map, Nat.reduceAdd, Nat.reduceSub, Nat.reduceMul, Nat.reduceLeDiff, Nat.reduceEqDiff, Nat.reduceBEq, Int.reduceLE, Int.reduceLT, Int.reduceEq, Int.reduceNe, Int.reduceAdd, Int.reduceSub, Int.reduceToNat, Int.reduceNeg, ↓reduceIte, reduceCtorEq]
       exact no fun hM => q0 ((un hM).2.2.2.2.2.1 k2).1
     | some o =>
       simp only [getV, k2, q0, cellD, aset, lay, wk5, wk4, wk3, wk, iaddrV_map, Nat.reduceAdd, Nat.reduceSub, Nat.reduceMul, Nat.reduceLeDiff, Nat.reduceEqDiff, Nat.reduceBEq, Int.reduceLE, Int.reduceLT, Int.reduceEq, Int.reduceNe, Int.reduceAdd, Int.reduceSub, Int.reduceToNat, Int.reduceNeg, ↓reduceIte, reduceCtorEq]
       exact no fun hM => q0 ((un hM).2.2.2.2.2.1 k2).1
    cases hg : getA l d.origin with
    | none =>
      simp only [getV, k2, q0, lay, wk5, wk4, wk3, wk, iaddrV_map, Nat.reduceAdd, Nat.reduceSub, Nat.reduceMul, Nat.reduceLeDiff, Nat.reduceEqDiff, Nat.reduceBEq, Int.reduceLE, Int.reduceLT, Int.reduceEq, Int.reduceNe, Int.reduceAdd, Int.reduceSub, Int.reduceToNat, Int.reduceNeg, ↓reduceIte, reduceCtorEq]
      exact no fun hM => by obtain ⟨_, o, ho, _⟩ := (un hM).2.2.2.2.2.1 k2; rw [hg] at ho; cases ho
    | some o =>
      by_cases ok : o.kind = 1
      ·simp only [getV, k2, q0, ok, w2, cellD, aset, lay, wk5, wk4, wk3, wk, iaddrV_map, Nat.reduceAdd, Nat.reduceSub, Nat.reduceMul, Nat.reduceLeDiff, Nat.reduceEqDiff, Nat.reduceBEq, Int.reduceLE, Int.reduceLT, Int.reduceEq, Int.reduceNe, Int.reduceAdd, Int.reduceSub, Int.reduceToNat, Int.reduceNeg, ↓reduceIte, reduceCtorEq]
       refine QLoop_wk (n' := l.length - (i + 1)) (by omega) ⟨i + 1, by omega, rfl, hnext (mk ⟨by omega, c2⟩ (.inl hi0') hw ⟨by omega, by omega⟩ (.inr k2) (fun _ => ⟨q0, o, hg, ok⟩) (fun e => by omega)), rfl, rfl⟩ (Wk_none ?_)
       simp only [asets, renL, ren, tq]
      ·simp only [getV, k2, q0, ok, cellD, aset, lay, wk5, wk4, wk3, wk, iaddrV_map, Nat.reduceAdd, Nat.reduceSub, Nat.reduceMul, Nat.reduceLeDiff, Nat.reduceEqDiff, Nat.reduceBEq, Int.reduceLE, Int.reduceLT, Int.reduceEq, Int.reduceNe, Int.reduceAdd, Int.reduceSub, Int.reduceToNat, Int.reduceNeg, ↓reduceIte, reduceCtorEq]
       exact no fun hM => by obtain ⟨_, o', ho, hk⟩ := (un hM).2.2.2.2.2.1 k2; rw [hg] at ho; cases ho; exact ok hk
   by_cases k1 : d.kind = 1
   case neg =>
    cases hg : getA l d.origin with
    | none =>
      simp only [getV, k1, k2, lay, wk5, wk4, wk3, wk, iaddrV_map, Nat.reduceAdd, Nat.reduceSub, Nat.reduceMul, Nat.reduceLeDiff, Nat.reduceEqDiff, Nat.reduceBEq, Int.reduceLE, Int.reduceLT, Int.reduceEq, Int.reduceNe, Int.reduceAdd, Int.reduceSub, Int.reduceToNat, Int.reduceNeg, ↓reduceIte, reduceCtorEq]
      exact no fun hM => by rcases (un hM).2.2.2.2.1 with e | e; exact k1 e; exact k2 e
    | some o =>
      simp only [getV, k1, k2, cellD, aset, lay, wk5, wk4, wk3, wk, iaddrV_map, Nat.reduceAdd, Nat.reduceSub, Nat.reduceMul, Nat.reduceLeDiff, Nat.reduceEqDiff, Nat.reduceBEq, Int.reduceLE, Int.reduceLT, Int.reduceEq, Int.reduceNe, Int.reduceAdd, Int.reduceSub, Int.reduceToNat, Int.reduceNeg, ↓reduceIte, reduceCtorEq]
      exact no fun hM => by rcases (un hM).2.2.2.2.1 with e | e; exact k1 e; exact k2 e
   by_cases o0 : d.origin = 0
   ·cases hg : getA l d.origin with
    | none =>
      simp only [getV, k1, o0, w2, lay, wk5, wk4, wk3, wk, iaddrV_map, Nat.reduceAdd, Nat.reduceSub, Nat.reduceMul, Nat.reduceLeDiff, Nat.reduceEqDiff, Nat.reduceBEq, Int.reduceLE, Int.reduceLT, Int.reduceEq, Int.reduceNe, Int.reduceAdd, Int.reduceSub, Int.reduceToNat, Int.reduceNeg, ↓reduceIte, reduceCtorEq]
      refine QLoop_wk (n' := l.length - (i + 1)) (by omega) ⟨i + 1, by omega, rfl, hnext (mk ⟨by omega, c2⟩ (.inl hi0') hw ⟨by omega, by omega⟩ (.inl k1) (fun e => by omega) (fun _ => .inl o0)), rfl, rfl⟩ (Wk_none ?_)
      simp only [asets, renL, ren, tq]
    | some o =>
      simp only [getV, k1, o0, w2, cellD, aset, lay, wk5, wk4, wk3, wk, iaddrV_map, Nat.reduceAdd, Nat.reduceSub, Nat.reduceMul, Nat.reduceLeDiff, Nat.reduceEqDiff, Nat.reduceBEq, Int.reduceLE, Int.reduceLT, Int.reduceEq, Int.reduceNe, Int.reduceAdd, Int.reduceSub, Int.reduceToNat, Int.reduceNeg, ↓reduceIte, reduceCtorEq]
      refine QLoop_wk (n' := l.length - (i + 1)) (by omega) ⟨i + 1, by omega, rfl, hnext (mk ⟨by omega, c2⟩ (.inl hi0') hw ⟨by omega, by omega⟩ (.inl k1) (fun e => by omega) (fun _ => .inl o0)), rfl, rfl⟩ (Wk_none ?_)
      simp only [asets, renL, ren, tq]
   cases hg : getA l d.origin with
   | none =>
     simp only [getV, k1, o0, lay, wk5, wk4, wk3, wk, iaddrV_map, Nat.reduceAdd, Nat.reduceSub, Nat.reduceMul, Nat.reduceLeDiff, Nat.reduceEqDiff, Nat.reduceBEq, Int.reduceLE, Int.reduceLT, Int.reduceEq, Int.reduceNe, Int.reduceAdd, Int.reduceSub, Int.reduceToNat, Int.reduceNeg, ↓reduceIte, reduceCtorEq]
     exact no fun hM => by
      rcases (un hM).2.2.2.2.2.2 k1 with e | ⟨o, ho, _⟩
      ·exact o0 e
      ·rw [hg] at ho; cases ho
   | some o =>
     by_cases ok : o.kind = 2
     ·simp only [getV, k1, o0, ok, w2, cellD, aset, lay, wk5, wk4, wk3, wk, iaddrV_map, Nat.reduceAdd, Nat.reduceSub, Nat.reduceMul, Nat.reduceLeDiff, Nat.reduceEqDiff, Nat.reduceBEq, Int.reduceLE, Int.reduceLT, Int.reduceEq, Int.reduceNe, Int.reduceAdd, Int.reduceSub, Int.reduceToNat, Int.reduceNeg, ↓reduceIte, reduceCtorEq]
      refine QLoop_wk (n' := l.length - (i + 1)) (by omega) ⟨i + 1, by omega, rfl, hnext (mk ⟨by omega, c2⟩ (.inl hi0') hw ⟨by omega, by omega⟩ (.inl k1) (fun e => by omega) (fun _ => .inr ⟨o, hg, ok⟩)), rfl, rfl⟩ (Wk_none ?_)
      simp only [asets, renL, ren, tq]
     ·simp only [getV, k1, o0, ok, cellD, aset, lay, wk5, wk4, wk3, wk, iaddrV_map, Nat.reduceAdd, Nat.reduceSub, Nat.reduceMul, Nat.reduceLeDiff, Nat.reduceEqDiff, Nat.reduceBEq, Int.reduceLE, Int.reduceLT, Int.reduceEq, Int.reduceNe, Int.reduceAdd, Int.reduceSub, Int.reduceToNat, Int.reduceNeg, ↓reduceIte, reduceCtorEq]
      exact no fun hM => by
       rcases (un hM).2.2.2.2.2.2 k1 with e | ⟨o', ho, hk⟩
       ·exact o0 e
       ·rw [hg] at ho; cases ho; exact ok hk
 rintro fr H ⟨hB, rfl, rfl⟩
 have hl8 : l.length ≤ 8 := by omega
 refine W_cut (fun fr H => (∀ d ∈ l, (iterD l (2 * l.length + 1) d).id = 0) ∧ H = [] ∧ fr = [asets l, .top, .bool false] ++ List.replicate 124 .top) ?_ ?_
 ·simp only [asets, lay, wk5, wk4, wk3, wk, iaddrV_map, Nat.reduceAdd, Nat.reduceSub, Nat.reduceMul, Nat.reduceLeDiff, Nat.reduceEqDiff, Nat.reduceBEq, Int.reduceLE, Int.reduceLT, Int.reduceEq, Int.reduceNe, Int.reduceAdd, Int.reduceSub, Int.reduceToNat, Int.reduceNeg, ↓reduceIte, reduceCtorEq]
  refine WT_loop (W_wk (fr' := [asets l, .top, .bool false, .top, .top, .top, .top, .int .i64 (0 : Nat)] ++ List.replicate 119 .top) (Wk_tops ?_) (W_loop (fun n fr H' => ∃ i : Nat, i ≤ l.length ∧ n = l.length - i ∧ (∀ j, j < i → (iterD l (2 * l.length + 1) (l.getD j default)).id = 0) ∧ H' = [] ∧ fr = [asets l, .top, .bool false, .top, .top, .top, .top, .int .i64 i] ++ List.replicate 119 .top) l.length ⟨0, by omega, rfl, fun j hj => by omega, rfl, rfl⟩ ?_))
  ·simp only [asets, tp, Int.natCast_zero]
  rintro n fr H' ⟨i, hi, rfl, hj, rfl, rfl⟩
  refine WT_ok ?_
  simp only [asets, lay, wk5, wk4, wk3, wk, iaddrV_map, Nat.reduceAdd, Nat.reduceSub, Nat.reduceMul, Nat.reduceLeDiff, Nat.reduceEqDiff, Nat.reduceBEq, Int.reduceLE, Int.reduceLT, Int.reduceEq, Int.reduceNe, Int.reduceAdd, Int.reduceSub, Int.reduceToNat, Int.reduceNeg, ↓reduceIte, reduceCtorEq]
  by_cases hh : (i : Int) < l.length
  case neg =>
   have : i = l.length := by omega
   subst this
   simp only [hh, lay, wk5, wk4, wk3, wk, iaddrV_map, Nat.reduceAdd, Nat.reduceSub, Nat.reduceMul, Nat.reduceLeDiff, Nat.reduceEqDiff, Nat.reduceBEq, Int.reduceLE, Int.reduceLT, Int.reduceEq, Int.reduceNe, Int.reduceAdd, Int.reduceSub, Int.reduceToNat, Int.reduceNeg, ↓reduceIte, reduceCtorEq]
   refine QCut_go ⟨fun d hd => ?_, rfl, rfl⟩ (Wk_tops ?_)
   ·obtain ⟨k, hk, rfl⟩ := mem_dgetD hd
    exact hj k hk
   ·simp only [asets, tp]
  have hil : i < l.length := by omega
  have h0 : (0 : Int) ≤ i := by omega
  have w2 : IntKind.i64.wrap ((i : Int) + 1) = (i : Int) + 1 := IntWalk.i64_in _ (by omega)
  have wm : IntKind.i64.wrap (2 * (l.length : Int)) = ((2 * l.length : Nat) : Int) := by rw [IntWalk.i64_in _ (by omega)]; omega
  have e6' : ∀ x, (pdset x).length = 5 := fun _ => rfl
  have hend := fun hM : MayL l => hM.out (dgetD_mem hil) (m := 2 * l.length + 1) (by omega)
  have hnext : (iterD l (2 * l.length + 1) (l.getD i default)).id = 0 → ∀ j, j < i + 1 → (iterD l (2 * l.length + 1) (l.getD j default)).id = 0 := fun h j hj2 => by
   rcases Nat.lt_or_ge j i with h' | h'
   ·exact hj j h'
   ·have : j = i := by omega
    subst this; exact h
  simp only [hh, h0, e6', iaddr_dset, pdset, Int.toNat_natCast, lay, wk5, wk4, wk3, wk, iaddrV_map, Nat.reduceAdd, Nat.reduceSub, Nat.reduceMul, Nat.reduceLeDiff, Nat.reduceEqDiff, Nat.reduceBEq, Int.reduceLE, Int.reduceLT, Int.reduceEq, Int.reduceNe, Int.reduceAdd, Int.reduceSub, Int.reduceToNat, Int.reduceNeg, ↓reduceIte, reduceCtorEq]
  refine WT_loop (W_wk (fr' := [asets l, .top, .bool false, .top, .top, .top, .top, .int .i64 i, .ptr 0 0 0 1, .int .i64 (0 : Nat)] ++ List.replicate 117 .top) (Wk_tops ?_) (W_loop (fun n fr H' => ∃ (k : Nat) (cs : List AV), k ≤ 2 * l.length + 1 ∧ n = 2 * l.length + 1 - k ∧ (cs = cellD (iterD l k (l.getD i default)) ∨ (iterD l k (l.getD i default) = ⟨0, 0, 0, 0, []⟩ ∧ cs = zeroC)) ∧ H' = [some [cs]] ∧ fr = [asets l, .top, .bool false, .top, .top, .top, .top, .int .i64 i, .ptr 0 0 0 1, .int .i64 k] ++ List.replicate 117 .top) (2 * l.length + 1) ⟨0, _, by omega, rfl, .inl rfl, rfl, rfl⟩ ?_))
  ·simp only [asets, tp, Int.natCast_zero]
  rintro n fr H' ⟨k, cs, hk, rfl, hcs, rfl, rfl⟩
  refine WT_ok ?_
  have v2 : IntKind.i64.wrap ((k : Int) + 1) = (k : Int) + 1 := IntWalk.i64_in _ (by omega)
  have hstep : ∀ o, getA l (iterD l k (l.getD i default)).origin = o → iterD l (k + 1) (l.getD i default) = o.getD ⟨0, 0, 0, 0, []⟩ := fun o ho => by rw [iterD_succ]; unfold stepD; rw [ho]
  by_cases y0 : (k : Int) ≤ ((2 * l.length : Nat) : Int)
  ·rcases hcs with rfl | ⟨hz, rfl⟩
   ·generalize iterD l k (l.getD i default) = x at hstep ⊢
    simp only [y0, wm, asets, cellD, aset, lay, wk5, wk4, wk3, wk, iaddrV_map, Nat.reduceAdd, Nat.reduceSub, Nat.reduceMul, Nat.reduceLeDiff, Nat.reduceEqDiff, Nat.reduceBEq, Int.reduceLE, Int.reduceLT, Int.reduceEq, Int.reduceNe, Int.reduceAdd, Int.reduceSub, Int.reduceToNat, Int.reduceNeg, ↓reduceIte, reduceCtorEq]
    refine CT_ok (rgetL l (by omega) _ _) ?_
    rintro _ _ ⟨rfl, rfl⟩
    cases hg : getA l x.origin with
    | none =>
      have hs := hstep _ hg
      simp only [getV, v2, asets, cellD, aset, lay, wk5, wk4, wk3, wk, iaddrV_map, Nat.reduceAdd, Nat.reduceSub, Nat.reduceMul, Nat.reduceLeDiff, Nat.reduceEqDiff, Nat.reduceBEq, Int.reduceLE, Int.reduceLT, Int.reduceEq, Int.reduceNe, Int.reduceAdd, Int.reduceSub, Int.reduceToNat, Int.reduceNeg, ↓reduceIte, reduceCtorEq]
      refine QLoop_go (n' := 2 * l.length + 1 - (k + 1)) (by omega) ⟨k + 1, zeroC, by omega, rfl, .inr ⟨hs, rfl⟩, rfl, rfl⟩ ?_
      simp only [asets, renL, ren, tq]
    | some o =>
      have hs := hstep _ hg
      simp only [getV, v2, asets, cellD, aset, lay, wk5, wk4, wk3, wk, iaddrV_map, Nat.reduceAdd, Nat.reduceSub, Nat.reduceMul, Nat.reduceLeDiff, Nat.reduceEqDiff, Nat.reduceBEq, Int.reduceLE, Int.reduceLT, Int.reduceEq, Int.reduceNe, Int.reduceAdd, Int.reduceSub, Int.reduceToNat, Int.reduceNeg, ↓reduceIte, reduceCtorEq]
      refine QLoop_go (n' := 2 * l.length + 1 - (k + 1)) (by omega) ⟨k + 1, cellD o, by omega, rfl, .inl (by rw [hs]; rfl), rfl, rfl⟩ ?_
      simp only [asets, renL, ren, tq]
   ·rw [hz] at hstep
    simp only [y0, wm, asets, zeroC, lay, wk5, wk4, wk3, wk, iaddrV_map, Nat.reduceAdd, Nat.reduceSub, Nat.reduceMul, Nat.reduceLeDiff, Nat.reduceEqDiff, Nat.reduceBEq, Int.reduceLE, Int.reduceLT, Int.reduceEq, Int.reduceNe, Int.reduceAdd, Int.reduceSub, Int.reduceToNat, Int.reduceNeg, ↓reduceIte, reduceCtorEq]
    refine CT_ok (rgetL l (by omega) _ _) ?_
    rintro _ _ ⟨rfl, rfl⟩
    have hg0 : getA l 0 = none := getA_none fun d hd e => by have := id_ofB hB hd; omega
    have hs := hstep _ hg0
    rw [hg0]
    simp only [getV, v2, asets, cellD, aset, lay, wk5, wk4, wk3, wk, iaddrV_map, Nat.reduceAdd, Nat.reduceSub, Nat.reduceMul, Nat.reduceLeDiff, Nat.reduceEqDiff, Nat.reduceBEq, Int.reduceLE, Int.reduceLT, Int.reduceEq, Int.reduceNe, Int.reduceAdd, Int.reduceSub, Int.reduceToNat, Int.reduceNeg, ↓reduceIte, reduceCtorEq]
    refine QLoop_go (n' := 2 * l.length + 1 - (k + 1)) (by omega) ⟨k + 1, zeroC, by omega, rfl, .inr ⟨hs, rfl⟩, rfl, rfl⟩ ?_
    simp only [asets, renL, ren, tq]
  ·have hk2 : k = 2 * l.length + 1 := by omega
   subst hk2
   rcases hcs with rfl | ⟨hz, rfl⟩
   ·generalize iterD l (2 * l.length + 1) (l.getD i default) = x at hend hnext ⊢
    by_cases hx : x.id = 0
    ·simp only [y0, wm, hx, w2, asets, cellD, aset, lay, wk5, wk4, wk3, wk, iaddrV_map, Nat.reduceAdd, Nat.reduceSub, Nat.reduceMul, Nat.reduceLeDiff, Nat.reduceEqDiff, Nat.reduceBEq, Int.reduceLE, Int.reduceLT, Int.reduceEq, Int.reduceNe, Int.reduceAdd, Int.reduceSub, Int.reduceToNat, Int.reduceNeg, ↓reduceIte, reduceCtorEq]
     refine QLoop_wk (n' := l.length - (i + 1)) (by omega) ⟨i + 1, by omega, rfl, hnext hx, rfl, rfl⟩ (Wk_none ?_)
     simp only [asets, renL, ren, tq]
    ·simp only [y0, wm, hx, w2, asets, cellD, aset, lay, wk5, wk4, wk3, wk, iaddrV_map, Nat.reduceAdd, Nat.reduceSub, Nat.reduceMul, Nat.reduceLeDiff, Nat.reduceEqDiff, Nat.reduceBEq, Int.reduceLE, Int.reduceLT, Int.reduceEq, Int.reduceNe, Int.reduceAdd, Int.reduceSub, Int.reduceToNat, Int.reduceNeg, ↓reduceIte, reduceCtorEq]
     exact no fun hM => hx (hend hM)
   ·rw [hz] at hnext
    simp only [y0, wm, w2, asets, zeroC, lay, wk5, wk4, wk3, wk, iaddrV_map, Nat.reduceAdd, Nat.reduceSub, Nat.reduceMul, Nat.reduceLeDiff, Nat.reduceEqDiff, Nat.reduceBEq, Int.reduceLE, Int.reduceLT, Int.reduceEq, Int.reduceNe, Int.reduceAdd, Int.reduceSub, Int.reduceToNat, Int.reduceNeg, ↓reduceIte, reduceCtorEq]
    refine QLoop_wk (n' := l.length - (i + 1)) (by omega) ⟨i + 1, by omega, rfl, hnext rfl, rfl, rfl⟩ (Wk_none ?_)
    simp only [asets, renL, ren, tq]
 rintro fr H ⟨hout, rfl, rfl⟩
 refine WT_ok ?_
 simp only [lay, wk5, wk4, wk3, wk, iaddrV_map, Nat.reduceAdd, Nat.reduceSub, Nat.reduceMul, Nat.reduceLeDiff, Nat.reduceEqDiff, Nat.reduceBEq, Int.reduceLE, Int.reduceLT, Int.reduceEq, Int.reduceNe, Int.reduceAdd, Int.reduceSub, Int.reduceToNat, Int.reduceNeg, ↓reduceIte, reduceCtorEq]
 exact ⟨true, rfl, by simp [mayL_of hB hl8 _ hout]⟩
theorem mayG (l : List Dset) (hl : Loose l) (H : AH) : C Tryz.prog 31 [asets l] H (fun x H' => (∃ b : Bool, x = .bool b ∧ (b = true ↔ MayL l)) ∧ H' = H) :=
 C_flat (K0 := fun x _ => ∃ b : Bool, x = .bool b ∧ (b = true ↔ MayL l)) (mayG0 l hl) (by rintro x _ ⟨b, rfl, h⟩; exact ⟨rfl, ⟨b, rfl, h⟩, rfl⟩)
end Go.Proofs.YtemjlopoffjmpaaGreat.Abs
set_option linter.unusedSimpArgs false
set_option linter.unusedVariables false
namespace Go.Proofs.YtemjlopoffjmpaaGreat.Abs
open Go Go.Proofs
theorem getD_ext {α : Type} [Inhabited α] {a b : List α} (hlen : a.length = b.length) (h : ∀ j, j < a.length → a.getD j default = b.getD j default) : a = b := by
 apply List.ext_getElem hlen
 intro j h1 h2
 have := h j h1
 rwa [List.getD_eq_getElem?_getD, List.getElem?_eq_getElem h1, List.getD_eq_getElem?_getD, List.getElem?_eq_getElem h2] at this
theorem equal107_0 (a b : List Node) (ha : a.length ≤ 1000000) (hb : b.length ≤ 1000000) : C Tryz.prog 107 [aset a, aset b] [] (fun x _ => x = .bool (decide (a = b))) := by
 refine C_body d107 rfl (WT_ok ?_)
 delta c107 I0 I1 I2 I3 I4 I5 I6 I7 I8 I9 KI
 simp only [aset, lay, iaddr_node, pnode, wk3, wk, Nat.reduceAdd, Nat.reduceSub, Nat.reduceMul, Nat.reduceLeDiff, Nat.reduceEqDiff, Nat.reduceBEq, Int.reduceLE, Int.reduceLT, Int.reduceEq, Int.reduceNe, Int.reduceAdd, Int.reduceSub, Int.reduceToNat, Int.reduceNeg, ↓reduceIte, reduceCtorEq]
 by_cases hlen : a.length = b.length
 ·have hlen' : (a.length : Int) = b.length := by omega
  simp only [hlen', lay, iaddr_node, pnode, wk3, wk, Nat.reduceAdd, Nat.reduceSub, Nat.reduceMul, Nat.reduceLeDiff, Nat.reduceEqDiff, Nat.reduceBEq, Int.reduceLE, Int.reduceLT, Int.reduceEq, Int.reduceNe, Int.reduceAdd, Int.reduceSub, Int.reduceToNat, Int.reduceNeg, ↓reduceIte, reduceCtorEq]
  refine WT_loop (W_wk (fr' := [aset a, aset b, .top, .top, .bool false, .top, .top, .top, .top, .top, .top, .top, .int .i64 b.length, .int .i64 (0 : Nat)] ++ List.replicate 12 .top) (Wk_tops ?_) (W_loop (fun n fr H' => ∃ i : Nat, i ≤ a.length ∧ n = a.length - i ∧ (∀ j, j < i → a.getD j default = b.getD j default) ∧ H' = [] ∧ fr = [aset a, aset b, .top, .top, .bool false, .top, .top, .top, .top, .top, .top, .top, .int .i64 b.length, .int .i64 i] ++ List.replicate 12 .top) a.length ⟨0, by omega, rfl, fun j hj => by omega, rfl, rfl⟩ ?_))
  ·simp only [aset, tp, Int.natCast_zero]
  rintro n fr H' ⟨i, hi, rfl, hj, rfl, rfl⟩
  refine WT_ok ?_
  simp only [aset, lay, iaddr_node, pnode, wk3, wk, Nat.reduceAdd, Nat.reduceSub, Nat.reduceMul, Nat.reduceLeDiff, Nat.reduceEqDiff, Nat.reduceBEq, Int.reduceLE, Int.reduceLT, Int.reduceEq, Int.reduceNe, Int.reduceAdd, Int.reduceSub, Int.reduceToNat, Int.reduceNeg, ↓reduceIte, reduceCtorEq]
  by_cases h : (i : Int) < b.length
  ·have hil : i < a.length := by omega
   have h0 : (0 : Int) ≤ i := by omega
   have h1 : (i : Int) < a.length := by omega
   have w2 : IntKind.i64.wrap ((i : Int) + 1) = (i : Int) + 1 := IntWalk.i64_in _ (by omega)
   simp only [h, lay, iaddr_node, pnode, wk3, wk, Nat.reduceAdd, Nat.reduceSub, Nat.reduceMul, Nat.reduceLeDiff, Nat.reduceEqDiff, Nat.reduceBEq, Int.reduceLE, Int.reduceLT, Int.reduceEq, Int.reduceNe, Int.reduceAdd, Int.reduceSub, Int.reduceToNat, Int.reduceNeg, ↓reduceIte, reduceCtorEq]
   refine WT_draw ?_
   by_cases h2 : a.getD i default = b.getD i default
   ·simp only [h, h0, h1, h2, eqCells_node, w2, lay, iaddr_node, pnode, wk3, wk, Nat.reduceAdd, Nat.reduceSub, Nat.reduceMul, Nat.reduceLeDiff, Nat.reduceEqDiff, Nat.reduceBEq, Int.reduceLE, Int.reduceLT, Int.reduceEq, Int.reduceNe, Int.reduceAdd, Int.reduceSub, Int.reduceToNat, Int.reduceNeg, ↓reduceIte, reduceCtorEq]
    refine QLoop_go (n' := a.length - (i + 1)) (by omega) ⟨i + 1, by omega, rfl, fun j hj2 => ?_, rfl, rfl⟩ ?_
    ·rcases Nat.lt_or_ge j i with h' | h'
     ·exact hj j h'
     ·have : j = i := by omega
      subst this; exact h2
    ·simp only [aset, tq]
   ·have : ¬ a = b := fun e => h2 (by rw [e])
    simp only [h, h0, h1, h2, this, eqCells_node, w2, lay, iaddr_node, pnode, wk3, wk, Nat.reduceAdd, Nat.reduceSub, Nat.reduceMul, Nat.reduceLeDiff, Nat.reduceEqDiff, Nat.reduceBEq, Int.reduceLE, Int.reduceLT, Int.reduceEq, Int.reduceNe, Int.reduceAdd, Int.reduceSub, Int.reduceToNat, Int.reduceNeg, ↓reduceIte, reduceCtorEq]
  ·have : a = b := getD_ext hlen fun j hj2 => hj j (by omega)
   have hd : decide (a = b) = true := decide_eq_true this
   simp only [h, hd, lay, iaddr_node, pnode, wk3, wk, Nat.reduceAdd, Nat.reduceSub, Nat.reduceMul, Nat.reduceLeDiff, Nat.reduceEqDiff, Nat.reduceBEq, Int.reduceLE, Int.reduceLT, Int.reduceEq, Int.reduceNe, Int.reduceAdd, Int.reduceSub, Int.reduceToNat, Int.reduceNeg, ↓reduceIte, reduceCtorEq]
 ·have hlen' : ¬ (a.length : Int) = b.length := by omega
  have : ¬ a = b := fun e => hlen (by rw [e])
  simp only [hlen', this, lay, iaddr_node, pnode, wk3, wk, Nat.reduceAdd, Nat.reduceSub, Nat.reduceMul, Nat.reduceLeDiff, Nat.reduceEqDiff, Nat.reduceBEq, Int.reduceLE, Int.reduceLT, Int.reduceEq, Int.reduceNe, Int.reduceAdd, Int.reduceSub, Int.reduceToNat, Int.reduceNeg, ↓reduceIte, reduceCtorEq]
theorem equal107 (a b : List Node) (ha : a.length ≤ 1000000) (hb : b.length ≤ 1000000) (H : AH) : C Tryz.prog 107 [aset a, aset b] H (fun x H' => x = .bool (decide (a = b)) ∧ H' = H) :=
 C_flat (K0 := fun x _ => x = .bool (decide (a = b))) (equal107_0 a b ha hb) (by rintro x _ rfl; exact ⟨rfl, rfl, rfl⟩)
theorem same69_0 (a b : List Node) (ha : a.length ≤ 1000000) (hb : b.length ≤ 1000000) : C Tryz.prog 69 [aset a, aset b] [] (fun x _ => x = .bool (decide (a = b))) := by
 refine C_body d69 rfl (WT_ok ?_)
 delta c69 I0 I1 I2 I3 I4 I5 I6 I7 I8 I9 KI
 simp only [lay, iaddr_node, pnode, wk3, wk, Nat.reduceAdd, Nat.reduceSub, Nat.reduceMul, Nat.reduceLeDiff, Nat.reduceEqDiff, Nat.reduceBEq, Int.reduceLE, Int.reduceLT, Int.reduceEq, Int.reduceNe, Int.reduceAdd, Int.reduceSub, Int.reduceToNat, Int.reduceNeg, ↓reduceIte, reduceCtorEq]
 refine CT_ok (equal107 a b ha hb _) ?_
 rintro _ _ ⟨rfl, rfl⟩
 simp only [lay, iaddr_node, pnode, wk3, wk, Nat.reduceAdd, Nat.reduceSub, Nat.reduceMul, Nat.reduceLeDiff, Nat.reduceEqDiff, Nat.reduceBEq, Int.reduceLE, Int.reduceLT, Int.reduceEq, Int.reduceNe, Int.reduceAdd, Int.reduceSub, Int.reduceToNat, Int.reduceNeg, ↓reduceIte, reduceCtorEq]
theorem same69 (a b : List Node) (ha : a.length ≤ 1000000) (hb : b.length ≤ 1000000) (H : AH) : C Tryz.prog 69 [aset a, aset b] H (fun x H' => x = .bool (decide (a = b)) ∧ H' = H) :=
 C_flat (K0 := fun x _ => x = .bool (decide (a = b))) (same69_0 a b ha hb) (by rintro x _ rfl; exact ⟨rfl, rfl, rfl⟩)
theorem same68_0 (x y : Dset) (hx : x.files.length ≤ 1000000) (hy : y.files.length ≤ 1000000) : C Tryz.prog 68 [.agg (cellD x), .agg (cellD y)] [] (fun z _ => z = .bool (decide (x = y))) := by
 have no : x ≠ y → AV.bool false = .bool (decide (x = y)) := fun h => by rw [decide_eq_false h]
 refine C_body d68 rfl (WT_ok ?_)
 delta c68 I0 I1 I2 I3 I4 I5 I6 I7 I8 I9 KI
 by_cases q1 : x.id = y.id
 case neg =>
  simp only [q1, cellD, aset, lay, iaddr_node, pnode, wk3, wk, Nat.reduceAdd, Nat.reduceSub, Nat.reduceMul, Nat.reduceLeDiff, Nat.reduceEqDiff, Nat.reduceBEq, Int.reduceLE, Int.reduceLT, Int.reduceEq, Int.reduceNe, Int.reduceAdd, Int.reduceSub, Int.reduceToNat, Int.reduceNeg, ↓reduceIte, reduceCtorEq]
  exact no fun e => q1 (by rw [e])
 by_cases q2 : x.kind = y.kind
 case neg =>
  simp only [q1, q2, cellD, aset, lay, iaddr_node, pnode, wk3, wk, Nat.reduceAdd, Nat.reduceSub, Nat.reduceMul, Nat.reduceLeDiff, Nat.reduceEqDiff, Nat.reduceBEq, Int.reduceLE, Int.reduceLT, Int.reduceEq, Int.reduceNe, Int.reduceAdd, Int.reduceSub, Int.reduceToNat, Int.reduceNeg, ↓reduceIte, reduceCtorEq]
  exact no fun e => q2 (by rw [e])
 by_cases q3 : x.origin = y.origin
 case neg =>
  simp only [q1, q2, q3, cellD, aset, lay, iaddr_node, pnode, wk3, wk, Nat.reduceAdd, Nat.reduceSub, Nat.reduceMul, Nat.reduceLeDiff, Nat.reduceEqDiff, Nat.reduceBEq, Int.reduceLE, Int.reduceLT, Int.reduceEq, Int.reduceNe, Int.reduceAdd, Int.reduceSub, Int.reduceToNat, Int.reduceNeg, ↓reduceIte, reduceCtorEq]
  exact no fun e => q3 (by rw [e])
 by_cases q4 : x.quota = y.quota
 case neg =>
  simp only [q1, q2, q3, q4, cellD, aset, lay, iaddr_node, pnode, wk3, wk, Nat.reduceAdd, Nat.reduceSub, Nat.reduceMul, Nat.reduceLeDiff, Nat.reduceEqDiff, Nat.reduceBEq, Int.reduceLE, Int.reduceLT, Int.reduceEq, Int.reduceNe, Int.reduceAdd, Int.reduceSub, Int.reduceToNat, Int.reduceNeg, ↓reduceIte, reduceCtorEq]
  exact no fun e => q4 (by rw [e])
 simp only [q1, q2, q3, q4, cellD, aset, lay, iaddr_node, pnode, wk3, wk, Nat.reduceAdd, Nat.reduceSub, Nat.reduceMul, Nat.reduceLeDiff, Nat.reduceEqDiff, Nat.reduceBEq, Int.reduceLE, Int.reduceLT, Int.reduceEq, Int.reduceNe, Int.reduceAdd, Int.reduceSub, Int.reduceToNat, Int.reduceNeg, ↓reduceIte, reduceCtorEq]
 refine CT_ok (same69 x.files y.files hx hy _) ?_
 rintro _ _ ⟨rfl, rfl⟩
 simp only [lay, iaddr_node, pnode, wk3, wk, Nat.reduceAdd, Nat.reduceSub, Nat.reduceMul, Nat.reduceLeDiff, Nat.reduceEqDiff, Nat.reduceBEq, Int.reduceLE, Int.reduceLT, Int.reduceEq, Int.reduceNe, Int.reduceAdd, Int.reduceSub, Int.reduceToNat, Int.reduceNeg, ↓reduceIte, reduceCtorEq]
 by_cases q5 : x.files = y.files
 ·have q : x = y := by cases x; cases y; simp_all
  rw [decide_eq_true q5, decide_eq_true q]
 ·rw [decide_eq_false q5]
  exact no fun e => q5 (by rw [e])
theorem same68 (x y : Dset) (hx : x.files.length ≤ 1000000) (hy : y.files.length ≤ 1000000) (H : AH) : C Tryz.prog 68 [.agg (cellD x), .agg (cellD y)] H (fun z H' => z = .bool (decide (x = y)) ∧ H' = H) :=
 C_flat (K0 := fun z _ => z = .bool (decide (x = y))) (same68_0 x y hx hy) (by rintro x _ rfl; exact ⟨rfl, rfl, rfl⟩)
theorem same67_0 (a b : List Dset) (ha : Short a) (hb : Short b) : C Tryz.prog 67 [asets a, asets b, .fn (.func 68) [] []] [] (fun x _ => x = .bool (decide (a = b))) := by
 have ha1 := ha.1
 have hb1 := hb.1
 refine C_body d67 rfl (WT_ok ?_)
 delta c67 I0 I1 I2 I3 I4 I5 I6 I7 I8 I9 KI
 simp only [asets, lay, wk5, wk4, wk3, wk, iaddrV_map, Nat.reduceAdd, Nat.reduceSub, Nat.reduceMul, Nat.reduceLeDiff, Nat.reduceEqDiff, Nat.reduceBEq, Int.reduceLE, Int.reduceLT, Int.reduceEq, Int.reduceNe, Int.reduceAdd, Int.reduceSub, Int.reduceToNat, Int.reduceNeg, ↓reduceIte, reduceCtorEq]
 by_cases hlen : a.length = b.length
 case neg =>
  have hlen' : ¬ (a.length : Int) = b.length := by omega
  have : ¬ a = b := fun e => hlen (by rw [e])
  simp only [hlen', this, lay, wk5, wk4, wk3, wk, iaddrV_map, Nat.reduceAdd, Nat.reduceSub, Nat.reduceMul, Nat.reduceLeDiff, Nat.reduceEqDiff, Nat.reduceBEq, Int.reduceLE, Int.reduceLT, Int.reduceEq, Int.reduceNe, Int.reduceAdd, Int.reduceSub, Int.reduceToNat, Int.reduceNeg, ↓reduceIte, reduceCtorEq]
 have hlen' : (a.length : Int) = b.length := by omega
 simp only [hlen', lay, wk5, wk4, wk3, wk, iaddrV_map, Nat.reduceAdd, Nat.reduceSub, Nat.reduceMul, Nat.reduceLeDiff, Nat.reduceEqDiff, Nat.reduceBEq, Int.reduceLE, Int.reduceLT, Int.reduceEq, Int.reduceNe, Int.reduceAdd, Int.reduceSub, Int.reduceToNat, Int.reduceNeg, ↓reduceIte, reduceCtorEq]
 refine WT_loop (W_wk (fr' := [asets a, asets b, .fn (.func 68) [] [], .top, .top, .top, .bool false, .top, .top, .top, .top, .top, .top, .top, .top, asets a, .int .i64 b.length, .int .i64 (0 : Nat)] ++ List.replicate 14 .top) (Wk_tops ?_) (W_loop (fun n fr H' => ∃ i : Nat, i ≤ a.length ∧ n = a.length - i ∧ (∀ j, j < i → a.getD j default = b.getD j default) ∧ H' = [] ∧ fr = [asets a, asets b, .fn (.func 68) [] [], .top, .top, .top, .bool false, .top, .top, .top, .top, .top, .top, .top, .top, asets a, .int .i64 b.length, .int .i64 i] ++ List.replicate 14 .top) a.length ⟨0, by omega, rfl, fun j hj => by omega, rfl, rfl⟩ ?_))
 ·simp only [asets, tp, Int.natCast_zero]
 rintro n fr H' ⟨i, hi, rfl, hj, rfl, rfl⟩
 refine WT_ok ?_
 simp only [asets, lay, wk5, wk4, wk3, wk, iaddrV_map, Nat.reduceAdd, Nat.reduceSub, Nat.reduceMul, Nat.reduceLeDiff, Nat.reduceEqDiff, Nat.reduceBEq, Int.reduceLE, Int.reduceLT, Int.reduceEq, Int.reduceNe, Int.reduceAdd, Int.reduceSub, Int.reduceToNat, Int.reduceNeg, ↓reduceIte, reduceCtorEq]
 by_cases h : (i : Int) < b.length
 ·have hil : i < a.length := by omega
  have hib : i < b.length := by omega
  have h0 : (0 : Int) ≤ i := by omega
  have h1 : (i : Int) < a.length := by omega
  have w2 : IntKind.i64.wrap ((i : Int) + 1) = (i : Int) + 1 := IntWalk.i64_in _ (by omega)
  have e6' : ∀ x, (pdset x).length = 5 := fun _ => rfl
  have hfa := ha.get hil
  have hfb := hb.get hib
  have hne : a.getD i default ≠ b.getD i default → decide (a = b) = false := fun h => decide_eq_false fun e => h (by rw [e])
  have hnext : a.getD i default = b.getD i default → ∀ j, j < i + 1 → a.getD j default = b.getD j default := fun h j hj2 => by
   rcases Nat.lt_or_ge j i with h' | h'
   ·exact hj j h'
   ·have : j = i := by omega
    subst this; exact h
  generalize hax : a.getD i default = x at hfa hne hnext
  generalize hbx : b.getD i default = y at hfb hne hnext
  simp only [h, h0, h1, hlen', hax, hbx, e6', iaddr_dset, pdset, Int.toNat_natCast, lay, wk5, wk4, wk3, wk, iaddrV_map, Nat.reduceAdd, Nat.reduceSub, Nat.reduceMul, Nat.reduceLeDiff, Nat.reduceEqDiff, Nat.reduceBEq, Int.reduceLE, Int.reduceLT, Int.reduceEq, Int.reduceNe, Int.reduceAdd, Int.reduceSub, Int.reduceToNat, Int.reduceNeg, ↓reduceIte, reduceCtorEq]
  refine ⟨_, _, _, rfl, (same68 x y hfa hfb _).mono ?_⟩
  rintro _ _ ⟨rfl, rfl⟩
  by_cases q : x = y
  ·have hd : decide (x = y) = true := decide_eq_true q
   simp only [hd, w2, lay, wk5, wk4, wk3, wk, iaddrV_map, Nat.reduceAdd, Nat.reduceSub, Nat.reduceMul, Nat.reduceLeDiff, Nat.reduceEqDiff, Nat.reduceBEq, Int.reduceLE, Int.reduceLT, Int.reduceEq, Int.reduceNe, Int.reduceAdd, Int.reduceSub, Int.reduceToNat, Int.reduceNeg, ↓reduceIte, reduceCtorEq]
   refine QLoop_wk (n' := a.length - (i + 1)) (by omega) ⟨i + 1, by omega, rfl, hnext q, rfl, rfl⟩ (Wk_none ?_)
   simp only [asets, renL, ren, tq]
  ·have hd : decide (x = y) = false := decide_eq_false q
   have hq := hne q
   simp only [hd, hq, lay, wk5, wk4, wk3, wk, iaddrV_map, Nat.reduceAdd, Nat.reduceSub, Nat.reduceMul, Nat.reduceLeDiff, Nat.reduceEqDiff, Nat.reduceBEq, Int.reduceLE, Int.reduceLT, Int.reduceEq, Int.reduceNe, Int.reduceAdd, Int.reduceSub, Int.reduceToNat, Int.reduceNeg, ↓reduceIte, reduceCtorEq]
 ·have : a = b := getD_ext hlen fun j hj2 => hj j (by omega)
  have hd : decide (a = b) = true := decide_eq_true this
  simp only [h, hd, lay, wk5, wk4, wk3, wk, iaddrV_map, Nat.reduceAdd, Nat.reduceSub, Nat.reduceMul, Nat.reduceLeDiff, Nat.reduceEqDiff, Nat.reduceBEq, Int.reduceLE, Int.reduceLT, Int.reduceEq, Int.reduceNe, Int.reduceAdd, Int.reduceSub, Int.reduceToNat, Int.reduceNeg, ↓reduceIte, reduceCtorEq]
theorem same67 (a b : List Dset) (ha : Short a) (hb : Short b) (H : AH) : C Tryz.prog 67 [asets a, asets b, .fn (.func 68) [] []] H (fun x H' => x = .bool (decide (a = b)) ∧ H' = H) :=
 C_flat (K0 := fun x _ => x = .bool (decide (a = b))) (same67_0 a b ha hb) (by rintro x _ rfl; exact ⟨rfl, rfl, rfl⟩)
theorem same35_0 (a b : List Dset) (ha : Short a) (hb : Short b) : C Tryz.prog 35 [asets a, asets b] [] (fun x _ => x = .bool (decide (a = b))) := by
 refine C_body d35 rfl (WT_ok ?_)
 delta c35 I0 I1 I2 I3 I4 I5 I6 I7 I8 I9 KI
 simp only [lay, wk5, wk4, wk3, wk, iaddrV_map, Nat.reduceAdd, Nat.reduceSub, Nat.reduceMul, Nat.reduceLeDiff, Nat.reduceEqDiff, Nat.reduceBEq, Int.reduceLE, Int.reduceLT, Int.reduceEq, Int.reduceNe, Int.reduceAdd, Int.reduceSub, Int.reduceToNat, Int.reduceNeg, ↓reduceIte, reduceCtorEq]
 refine CT_ok (same67 a b ha hb _) ?_
 rintro _ _ ⟨rfl, rfl⟩
 simp only [lay, wk5, wk4, wk3, wk, iaddrV_map, Nat.reduceAdd, Nat.reduceSub, Nat.reduceMul, Nat.reduceLeDiff, Nat.reduceEqDiff, Nat.reduceBEq, Int.reduceLE, Int.reduceLT, Int.reduceEq, Int.reduceNe, Int.reduceAdd, Int.reduceSub, Int.reduceToNat, Int.reduceNeg, ↓reduceIte, reduceCtorEq]
theorem same35 (a b : List Dset) (ha : Short a) (hb : Short b) (H : AH) : C Tryz.prog 35 [asets a, asets b] H (fun x H' => x = .bool (decide (a = b)) ∧ H' = H) :=
 C_flat (K0 := fun x _ => x = .bool (decide (a = b))) (same35_0 a b ha hb) (by rintro x _ rfl; exact ⟨rfl, rfl, rfl⟩)
end Go.Proofs.YtemjlopoffjmpaaGreat.Abs
set_option linter.unusedSimpArgs false
set_option linter.unusedVariables false
namespace Go.Proofs.YtemjlopoffjmpaaGreat.Abs
open Go Go.Proofs
section
variable (l : List Dset) (hl : Short l) (a b : Int) (H : AH)
include hl
theorem createL : C Tryz.prog 37 [asets l, .int .i64 a, .int .i64 b] H (fun x H' => x = outA (createA l a b) ∧ H' = H) := C_any (create0 l hl a b) (by simp [bareL, asets_bare, bare]) (outA_bare _) H
theorem snapL : C Tryz.prog 24 [asets l, .int .i64 a, .int .i64 b] H (fun x H' => x = outA (snapA l a b) ∧ H' = H) := C_any (snap0 l hl a b) (by simp [bareL, asets_bare, bare]) (outA_bare _) H
theorem dcloneL : C Tryz.prog 25 [asets l, .int .i64 a, .int .i64 b] H (fun x H' => x = outA (cloneA l a b) ∧ H' = H) := C_any (dclone0 l hl a b) (by simp [bareL, asets_bare, bare]) (outA_bare _) H
theorem promoteL : C Tryz.prog 29 [asets l, .int .i64 a] H (fun x H' => x = outA (promoteA l a) ∧ H' = H) := C_any (promote0 l hl a) (by simp [bareL, asets_bare, bare]) (outA_bare _) H
theorem backL : C Tryz.prog 38 [asets l, .int .i64 a, .int .i64 b] H (fun x H' => x = outA (backA l a b) ∧ H' = H) := C_any (dback0 l hl a b) (by simp [bareL, asets_bare, bare]) (outA_bare _) H
theorem destroyL : C Tryz.prog 32 [asets l, .int .i64 a] H (fun x H' => x = outA (destroyA l a) ∧ H' = H) := C_any (destroy0 l hl a) (by simp [bareL, asets_bare, bare]) (outA_bare _) H
end
end Go.Proofs.YtemjlopoffjmpaaGreat.Abs
set_option linter.unusedSimpArgs false
set_option linter.unusedVariables false
namespace Go.Proofs.YtemjlopoffjmpaaGreat.Abs
open Go Go.Proofs
theorem same28_emp0 : C Tryz.prog 28 [.emp, .emp] [] (fun x _ => x = .bool true) := by
 refine C_body d28 rfl (WT_ok ?_)
 delta c28 I0 I1 I2 I3 I4 I5 I6 I7 I8 I9 KI
 simp only [lay, wk5, wk4, wk3, wk, iaddrV_map, Nat.reduceAdd, Nat.reduceSub, Nat.reduceMul, Nat.reduceLeDiff, Nat.reduceEqDiff, Nat.reduceBEq, Int.reduceLE, Int.reduceLT, Int.reduceEq, Int.reduceNe, Int.reduceAdd, Int.reduceSub, Int.reduceToNat, Int.reduceNeg, ↓reduceIte, reduceCtorEq]
 refine WT_loop (W_wk (fr' := [.emp, .emp, .top, .top, .bool false, .int .i64 0] ++ List.replicate 20 .top) (Wk_tops ?_) (W_loop (fun n fr H' => H' = [] ∧ fr = [.emp, .emp, .top, .top, .bool false, .int .i64 0] ++ List.replicate 20 .top) 0 ⟨rfl, rfl⟩ ?_))
 ·simp only [tp]
 rintro n fr H' ⟨rfl, rfl⟩
 refine WT_ok ?_
 simp only [lay, wk5, wk4, wk3, wk, iaddrV_map, Nat.reduceAdd, Nat.reduceSub, Nat.reduceMul, Nat.reduceLeDiff, Nat.reduceEqDiff, Nat.reduceBEq, Int.reduceLE, Int.reduceLT, Int.reduceEq, Int.reduceNe, Int.reduceAdd, Int.reduceSub, Int.reduceToNat, Int.reduceNeg, ↓reduceIte, reduceCtorEq]
theorem same28_emp (H : AH) : C Tryz.prog 28 [.emp, .emp] H (fun x H' => x = .bool true ∧ H' = H) :=
 C_flat (K0 := fun x _ => x = .bool true) same28_emp0 (by rintro x _ rfl; exact ⟨rfl, rfl, rfl⟩)
theorem same28_set (s : List Node) (hs : s.length ≤ 1000000) (H : AH) : C Tryz.prog 28 [aset s, aset s] H (fun x H' => x = .bool true ∧ H' = H) :=
 (same33 s s hs hs H).mono fun x H' h => ⟨by rw [h.1, decide_eq_true rfl], h.2⟩
theorem Wk_two2 {fr fr' : List AV} {o o' : AObj} {G : AH} (ho : o.map (renL (upTo 2)) = o) (ho' : o'.map (renL (upTo 2)) = o') (h : Tops fr' (renL (upTo 2) fr)) : Wk 2 fr (some o :: some o' :: G) fr' [some o, some o'] := by
 have h1 := (Wk_forget (n0 := 2) (fr := fr) (H := some o :: some o' :: G) 2 (Nat.le_refl _)).trans (Wk_tops h)
 have e : mapH (renL (upTo 2)) ((some o :: some o' :: G).take 2) = [some o, some o'] := by
  simp only [List.take_succ_cons, List.take_zero, mapH, List.map_cons, List.map_nil, Option.map_some, ho, ho']
 rwa [e] at h1
theorem one18_0 (a b c d : Int) (f : AV) (hc : cellA f = true) (hb : bare f = true) (hf : ∀ H, C Tryz.prog 28 [f, f] H (fun x H' => x = .bool true ∧ H' = H)) :
 C Tryz.prog 18 [.own 0 5 0 1 1, .own 1 5 0 1 1] [some [[.int .i64 a, .int .i64 b, .int .i64 c, .int .i64 d, f]], some [[.int .i64 a, .int .i64 b, .int .i64 c, .int .i64 d, f]]] (fun x H' => x = .bool true ∧ H' = [some [[.int .i64 a, .int .i64 b, .int .i64 c, .int .i64 d, f]], some [[.int .i64 a, .int .i64 b, .int .i64 c, .int .i64 d, f]]]) := by
 have hst : ∀ τ, List.map (renL τ) [[.int .i64 a, .int .i64 b, .int .i64 c, .int .i64 d, f]] = [[.int .i64 a, .int .i64 b, .int .i64 c, .int .i64 d, f]] := fun τ => by
  simp [renL, ren, ren_bare τ f hb]
 refine C_body' d18 rfl (WT_ok ?_)
 delta c18 I0 I1 I2 I3 I4 I5 I6 I7 I8 I9 KI
 simp only [lay, wk5, wk4, wk3, wk, iaddrV_map, Nat.reduceAdd, Nat.reduceSub, Nat.reduceMul, Nat.reduceLeDiff, Nat.reduceEqDiff, Nat.reduceBEq, Int.reduceLE, Int.reduceLT, Int.reduceEq, Int.reduceNe, Int.reduceAdd, Int.reduceSub, Int.reduceToNat, Int.reduceNeg, ↓reduceIte, reduceCtorEq]
 refine WT_loop (W_wk (fr' := [.own 0 5 0 1 1, .own 1 5 0 1 1, .top, .top, .bool false, .int .i64 (0 : Nat)] ++ List.replicate 55 .top) (Wk_tops ?_) (W_loop (fun n fr H' => ∃ i : Nat, i ≤ 1 ∧ n = 1 - i ∧ H' = [some [[.int .i64 a, .int .i64 b, .int .i64 c, .int .i64 d, f]], some [[.int .i64 a, .int .i64 b, .int .i64 c, .int .i64 d, f]]] ∧ fr = [.own 0 5 0 1 1, .own 1 5 0 1 1, .top, .top, .bool false, .int .i64 i] ++ List.replicate 55 .top) 1 ⟨0, by omega, rfl, rfl, rfl⟩ ?_))
 ·simp only [tp, Int.natCast_zero]
 rintro n fr H' ⟨i, hi, rfl, rfl, rfl⟩
 refine WT_ok ?_
 simp only [lay, wk5, wk4, wk3, wk, iaddrV_map, Nat.reduceAdd, Nat.reduceSub, Nat.reduceMul, Nat.reduceLeDiff, Nat.reduceEqDiff, Nat.reduceBEq, Int.reduceLE, Int.reduceLT, Int.reduceEq, Int.reduceNe, Int.reduceAdd, Int.reduceSub, Int.reduceToNat, Int.reduceNeg, ↓reduceIte, reduceCtorEq]
 rcases (by omega : i = 0 ∨ i = 1) with rfl | rfl
 ·have h01 : ((0 : Nat) : Int) < ((1 : Nat) : Int) := by decide
  have h00 : (0 : Int) ≤ ((0 : Nat) : Int) := by decide
  have w2 : IntKind.i64.wrap (((0 : Nat) : Int) + 1) = ((1 : Nat) : Int) := by decide
  simp only [h01, lay, wk5, wk4, wk3, wk, iaddrV_map, Nat.reduceAdd, Nat.reduceSub, Nat.reduceMul, Nat.reduceLeDiff, Nat.reduceEqDiff, Nat.reduceBEq, Int.reduceLE, Int.reduceLT, Int.reduceEq, Int.reduceNe, Int.reduceAdd, Int.reduceSub, Int.reduceToNat, Int.reduceNeg, ↓reduceIte, reduceCtorEq]
  refine WT_drawE ?_
  refine WDT_more 2 ?_
  have haa : ∀ z : Int, (z = z) = True := fun z => eq_self z
  simp only [h01, h00, hc, haa, Int.toNat_natCast, ren, renL, lay, wk5, wk4, wk3, wk, iaddrV_map, Nat.reduceAdd, Nat.reduceSub, Nat.reduceMul, Nat.reduceLeDiff, Nat.reduceEqDiff, Nat.reduceBEq, Int.reduceLE, Int.reduceLT, Int.reduceEq, Int.reduceNe, Int.reduceAdd, Int.reduceSub, Int.reduceToNat, Int.reduceNeg, ↓reduceIte, reduceCtorEq]
  refine ⟨by omega, by omega, by omega, by rfl, ?_⟩
  refine CT_ok (hf _) ?_
  rintro _ _ ⟨rfl, rfl⟩
  simp only [w2, lay, wk5, wk4, wk3, wk, iaddrV_map, Nat.reduceAdd, Nat.reduceSub, Nat.reduceMul, Nat.reduceLeDiff, Nat.reduceEqDiff, Nat.reduceBEq, Int.reduceLE, Int.reduceLT, Int.reduceEq, Int.reduceNe, Int.reduceAdd, Int.reduceSub, Int.reduceToNat, Int.reduceNeg, ↓reduceIte, reduceCtorEq]
  refine QLoop_wk (n' := 0) (by omega) ⟨1, by omega, rfl, rfl, rfl⟩ (Wk_two2 (hst _) (hst _) ?_)
  simp only [renL, ren, upTo, show (0 : Nat) < 2 by omega, show (1 : Nat) < 2 by omega, if_true, tp]
 ·have h11 : ¬ ((1 : Nat) : Int) < ((1 : Nat) : Int) := by decide
  simp only [h11, lay, wk5, wk4, wk3, wk, iaddrV_map, Nat.reduceAdd, Nat.reduceSub, Nat.reduceMul, Nat.reduceLeDiff, Nat.reduceEqDiff, Nat.reduceBEq, Int.reduceLE, Int.reduceLT, Int.reduceEq, Int.reduceNe, Int.reduceAdd, Int.reduceSub, Int.reduceToNat, Int.reduceNeg, ↓reduceIte, reduceCtorEq]
  exact KWk_two rfl (hst _) (hst _) ⟨rfl, rfl⟩
theorem one18 (a b c d : Int) (f : AV) (hc : cellA f = true) (hb : bare f = true) (hf : ∀ H, C Tryz.prog 28 [f, f] H (fun x H' => x = .bool true ∧ H' = H)) (o o' : AObj) :
 C Tryz.prog 18 [.own 2 5 0 1 1, .own 3 5 0 1 1] [some o, some o', some [[.int .i64 a, .int .i64 b, .int .i64 c, .int .i64 d, f]], some [[.int .i64 a, .int .i64 b, .int .i64 c, .int .i64 d, f]]] (fun x H' => x = .bool true) := by
 have hst : ∀ τ, List.map (renL τ) [[.int .i64 a, .int .i64 b, .int .i64 c, .int .i64 d, f]] = [[.int .i64 a, .int .i64 b, .int .i64 c, .int .i64 d, f]] := fun τ => by
  simp [renL, ren, ren_bare τ f hb]
 refine C_call [2, 3] (by simp) (by simp) (K0 := fun x H' => x = .bool true ∧ H' = [some [[.int .i64 a, .int .i64 b, .int .i64 c, .int .i64 d, f]], some [[.int .i64 a, .int .i64 b, .int .i64 c, .int .i64 d, f]]]) ?_ ?_
 ·have := one18_0 a b c d f hc hb hf
  simpa [renL, ren, toCallee, AH.at, renO, hst, ren_bare _ f hb, show List.idxOf? 2 [2, 3] = some 0 from rfl, show List.idxOf? 3 [2, 3] = some 1 from rfl] using this
 ·rintro _ _ ⟨rfl, rfl⟩
  exact ⟨Nat.le_refl _, by simp [ren]⟩
theorem iaddraV_ptr (H : AH) (len sz r k j tot : Nat) (kk : IntKind) (n : Int) : iaddraV H len sz (.ptr r k j tot) (.int kk n) = if 0 ≤ n ∧ n < len then (liveO H r tot).map fun _ => .ptr r k (j + n.toNat * sz) tot else none := rfl
theorem getV_any (o : Option Dset) (ho : ∀ d, o = some d → d.files.length ≤ 1000000) : ∃ (a b c d : Int) (f : AV) (k : Bool), getV o = .tuple [.agg [.int .i64 a, .int .i64 b, .int .i64 c, .int .i64 d, f], .bool k] ∧ cellA f = true ∧ bare f = true ∧ ∀ H, C Tryz.prog 28 [f, f] H (fun x H' => x = .bool true ∧ H' = H) := by
 cases o with
 | none => exact ⟨0, 0, 0, 0, .emp, false, rfl, rfl, rfl, same28_emp⟩
 | some x => exact ⟨x.id, x.kind, x.origin, x.quota, aset x.files, true, rfl, rfl, rfl, same28_set x.files (ho x rfl)⟩
set_option maxRecDepth 10000 in
set_option maxHeartbeats 8000000 in
theorem alike36_0 (l : List Dset) (hM : MayL l) (i j nx q : Int) : C Tryz.prog 36 [asets l, .int .i64 i, .int .i64 j, .int .i64 nx, .int .i64 q] [] (fun x _ => x = .bool true) := by
 have hs := hM.short
 have c6 : ((6 : Nat) : Int) = 6 := rfl
 refine C_body d36 rfl ?_
 delta c36 I0 I1 I2 I3 I4 I5 I6 I7 I8 I9 KI
 refine W_stp ?_
 simp only [asets, lay, wk5, wk4, wk3, wk, iaddrV_map, Nat.reduceAdd, Nat.reduceSub, Nat.reduceMul, Nat.reduceLeDiff, Nat.reduceEqDiff, Nat.reduceBEq, Int.reduceLE, Int.reduceLT, Int.reduceEq, Int.reduceNe, Int.reduceAdd, Int.reduceSub, Int.reduceToNat, Int.reduceNeg, ↓reduceIte, reduceCtorEq]
 refine QStp_go (W_stp ?_)
 obtain ⟨a, b, c, d, f, k, hv, hfc, hfb, hf⟩ := getV_any (getA l i) (fun d hd => hs.2 d (getA_mem hd).1)
 have hone := fun o o' => one18 a b c d f hfc hfb hf o o'
 simp only [lay, wk5, wk4, wk3, wk, iaddrV_map, Nat.reduceAdd, Nat.reduceSub, Nat.reduceMul, Nat.reduceLeDiff, Nat.reduceEqDiff, Nat.reduceBEq, Int.reduceLE, Int.reduceLT, Int.reduceEq, Int.reduceNe, Int.reduceAdd, Int.reduceSub, Int.reduceToNat, Int.reduceNeg, ↓reduceIte, reduceCtorEq]
 refine CT_ok (getL l hs i _) ?_
 rintro _ _ ⟨rfl, rfl⟩
 rw [hv]
 simp only [hfc, lay, wk5, wk4, wk3, wk, iaddrV_map, Nat.reduceAdd, Nat.reduceSub, Nat.reduceMul, Nat.reduceLeDiff, Nat.reduceEqDiff, Nat.reduceBEq, Int.reduceLE, Int.reduceLT, Int.reduceEq, Int.reduceNe, Int.reduceAdd, Int.reduceSub, Int.reduceToNat, Int.reduceNeg, ↓reduceIte, reduceCtorEq]
 refine QStp_go (W_stp ?_)
 simp only [lay, wk5, wk4, wk3, wk, iaddrV_map, Nat.reduceAdd, Nat.reduceSub, Nat.reduceMul, Nat.reduceLeDiff, Nat.reduceEqDiff, Nat.reduceBEq, Int.reduceLE, Int.reduceLT, Int.reduceEq, Int.reduceNe, Int.reduceAdd, Int.reduceSub, Int.reduceToNat, Int.reduceNeg, ↓reduceIte, reduceCtorEq]
 refine CT_ok (rgetL l hs.1 i _) ?_
 rintro _ _ ⟨rfl, rfl⟩
 rw [hv]
 simp only [hfc, lay, wk5, wk4, wk3, wk, iaddrV_map, Nat.reduceAdd, Nat.reduceSub, Nat.reduceMul, Nat.reduceLeDiff, Nat.reduceEqDiff, Nat.reduceBEq, Int.reduceLE, Int.reduceLT, Int.reduceEq, Int.reduceNe, Int.reduceAdd, Int.reduceSub, Int.reduceToNat, Int.reduceNeg, ↓reduceIte, reduceCtorEq]
 refine QStp_go (W_cut (fun fr H => H = [] ∧ fr = [asets l, .int .i64 i, .int .i64 j, .int .i64 nx, .int .i64 q, .top, .top, .top, .top, .top, .bool false] ++ List.replicate 157 .top) ?_ ?_)
 ·have hkk : (k == k) = true := by cases k <;> rfl
  simp only [hkk, hfc, lay, wk5, wk4, wk3, wk, iaddrV_map, Nat.reduceAdd, Nat.reduceSub, Nat.reduceMul, Nat.reduceLeDiff, Nat.reduceEqDiff, Nat.reduceBEq, Int.reduceLE, Int.reduceLT, Int.reduceEq, Int.reduceNe, Int.reduceAdd, Int.reduceSub, Int.reduceToNat, Int.reduceNeg, ↓reduceIte, reduceCtorEq]
  refine CT_ok (hone _ _) ?_
  rintro _ H rfl
  simp only [lay, wk5, wk4, wk3, wk, iaddrV_map, Nat.reduceAdd, Nat.reduceSub, Nat.reduceMul, Nat.reduceLeDiff, Nat.reduceEqDiff, Nat.reduceBEq, Int.reduceLE, Int.reduceLT, Int.reduceEq, Int.reduceNe, Int.reduceAdd, Int.reduceSub, Int.reduceToNat, Int.reduceNeg, ↓reduceIte, reduceCtorEq]
  refine QCut_go ⟨rfl, rfl⟩ (Wk_none ?_)
  simp only [asets, renL, ren, tp]
 rintro fr H ⟨rfl, rfl⟩
 refine W_stp ?_
 simp only [asets, lay, wk5, wk4, wk3, wk, iaddrV_map, Nat.reduceAdd, Nat.reduceSub, Nat.reduceMul, Nat.reduceLeDiff, Nat.reduceEqDiff, Nat.reduceBEq, Int.reduceLE, Int.reduceLT, Int.reduceEq, Int.reduceNe, Int.reduceAdd, Int.reduceSub, Int.reduceToNat, Int.reduceNeg, ↓reduceIte, reduceCtorEq]
 refine QStp_go (W_stp ?_)
 simp only [lay, wk5, wk4, wk3, wk, iaddrV_map, Nat.reduceAdd, Nat.reduceSub, Nat.reduceMul, Nat.reduceLeDiff, Nat.reduceEqDiff, Nat.reduceBEq, Int.reduceLE, Int.reduceLT, Int.reduceEq, Int.reduceNe, Int.reduceAdd, Int.reduceSub, Int.reduceToNat, Int.reduceNeg, ↓reduceIte, reduceCtorEq]
 have m0 := (createA_may hM nx q).short
 have g0 := createL l hs nx q
 have h0 := rcreateL l hs nx q
 generalize createA l nx q = r0 at m0 g0 h0
 refine QStp_go (W_stp ?_)
 simp only [lay, wk5, wk4, wk3, wk, iaddrV_map, Nat.reduceAdd, Nat.reduceSub, Nat.reduceMul, Nat.reduceLeDiff, Nat.reduceEqDiff, Nat.reduceBEq, Int.reduceLE, Int.reduceLT, Int.reduceEq, Int.reduceNe, Int.reduceAdd, Int.reduceSub, Int.reduceToNat, Int.reduceNeg, ↓reduceIte, reduceCtorEq]
 refine CT_ok (g0 _) ?_
 rintro _ _ ⟨rfl, rfl⟩
 simp only [outA, asets, iaddraV_ptr, c6, lay, wk5, wk4, wk3, wk, iaddrV_map, Nat.reduceAdd, Nat.reduceSub, Nat.reduceMul, Nat.reduceLeDiff, Nat.reduceEqDiff, Nat.reduceBEq, Int.reduceLE, Int.reduceLT, Int.reduceEq, Int.reduceNe, Int.reduceAdd, Int.reduceSub, Int.reduceToNat, Int.reduceNeg, ↓reduceIte, reduceCtorEq]
 refine QStp_go (W_stp ?_)
 simp only [lay, wk5, wk4, wk3, wk, iaddrV_map, Nat.reduceAdd, Nat.reduceSub, Nat.reduceMul, Nat.reduceLeDiff, Nat.reduceEqDiff, Nat.reduceBEq, Int.reduceLE, Int.reduceLT, Int.reduceEq, Int.reduceNe, Int.reduceAdd, Int.reduceSub, Int.reduceToNat, Int.reduceNeg, ↓reduceIte, reduceCtorEq]
 refine CT_ok (h0 _) ?_
 rintro _ _ ⟨rfl, rfl⟩
 simp only [outA, asets, iaddraV_ptr, c6, lay, wk5, wk4, wk3, wk, iaddrV_map, Nat.reduceAdd, Nat.reduceSub, Nat.reduceMul, Nat.reduceLeDiff, Nat.reduceEqDiff, Nat.reduceBEq, Int.reduceLE, Int.reduceLT, Int.reduceEq, Int.reduceNe, Int.reduceAdd, Int.reduceSub, Int.reduceToNat, Int.reduceNeg, ↓reduceIte, reduceCtorEq]
 have m1 := (snapA_may hM nx i).short
 have g1 := snapL l hs nx i
 have h1 := rsnapL l hs nx i
 generalize snapA l nx i = r1 at m1 g1 h1
 refine QStp_go (W_stp ?_)
 simp only [lay, wk5, wk4, wk3, wk, iaddrV_map, Nat.reduceAdd, Nat.reduceSub, Nat.reduceMul, Nat.reduceLeDiff, Nat.reduceEqDiff, Nat.reduceBEq, Int.reduceLE, Int.reduceLT, Int.reduceEq, Int.reduceNe, Int.reduceAdd, Int.reduceSub, Int.reduceToNat, Int.reduceNeg, ↓reduceIte, reduceCtorEq]
 refine CT_ok (g1 _) ?_
 rintro _ _ ⟨rfl, rfl⟩
 simp only [outA, asets, iaddraV_ptr, c6, lay, wk5, wk4, wk3, wk, iaddrV_map, Nat.reduceAdd, Nat.reduceSub, Nat.reduceMul, Nat.reduceLeDiff, Nat.reduceEqDiff, Nat.reduceBEq, Int.reduceLE, Int.reduceLT, Int.reduceEq, Int.reduceNe, Int.reduceAdd, Int.reduceSub, Int.reduceToNat, Int.reduceNeg, ↓reduceIte, reduceCtorEq]
 refine QStp_go (W_stp ?_)
 simp only [lay, wk5, wk4, wk3, wk, iaddrV_map, Nat.reduceAdd, Nat.reduceSub, Nat.reduceMul, Nat.reduceLeDiff, Nat.reduceEqDiff, Nat.reduceBEq, Int.reduceLE, Int.reduceLT, Int.reduceEq, Int.reduceNe, Int.reduceAdd, Int.reduceSub, Int.reduceToNat, Int.reduceNeg, ↓reduceIte, reduceCtorEq]
 refine CT_ok (h1 _) ?_
 rintro _ _ ⟨rfl, rfl⟩
 simp only [outA, asets, iaddraV_ptr, c6, lay, wk5, wk4, wk3, wk, iaddrV_map, Nat.reduceAdd, Nat.reduceSub, Nat.reduceMul, Nat.reduceLeDiff, Nat.reduceEqDiff, Nat.reduceBEq, Int.reduceLE, Int.reduceLT, Int.reduceEq, Int.reduceNe, Int.reduceAdd, Int.reduceSub, Int.reduceToNat, Int.reduceNeg, ↓reduceIte, reduceCtorEq]
 have m2 := (cloneA_may hM nx i).short
 have g2 := dcloneL l hs nx i
 have h2 := rcloneL l hs nx i
 generalize cloneA l nx i = r2 at m2 g2 h2
 refine QStp_go (W_stp ?_)
 simp only [lay, wk5, wk4, wk3, wk, iaddrV_map, Nat.reduceAdd, Nat.reduceSub, Nat.reduceMul, Nat.reduceLeDiff, Nat.reduceEqDiff, Nat.reduceBEq, Int.reduceLE, Int.reduceLT, Int.reduceEq, Int.reduceNe, Int.reduceAdd, Int.reduceSub, Int.reduceToNat, Int.reduceNeg, ↓reduceIte, reduceCtorEq]
 refine CT_ok (g2 _) ?_
 rintro _ _ ⟨rfl, rfl⟩
 simp only [outA, asets, iaddraV_ptr, c6, lay, wk5, wk4, wk3, wk, iaddrV_map, Nat.reduceAdd, Nat.reduceSub, Nat.reduceMul, Nat.reduceLeDiff, Nat.reduceEqDiff, Nat.reduceBEq, Int.reduceLE, Int.reduceLT, Int.reduceEq, Int.reduceNe, Int.reduceAdd, Int.reduceSub, Int.reduceToNat, Int.reduceNeg, ↓reduceIte, reduceCtorEq]
 refine QStp_go (W_stp ?_)
 simp only [lay, wk5, wk4, wk3, wk, iaddrV_map, Nat.reduceAdd, Nat.reduceSub, Nat.reduceMul, Nat.reduceLeDiff, Nat.reduceEqDiff, Nat.reduceBEq, Int.reduceLE, Int.reduceLT, Int.reduceEq, Int.reduceNe, Int.reduceAdd, Int.reduceSub, Int.reduceToNat, Int.reduceNeg, ↓reduceIte, reduceCtorEq]
 refine CT_ok (h2 _) ?_
 rintro _ _ ⟨rfl, rfl⟩
 simp only [outA, asets, iaddraV_ptr, c6, lay, wk5, wk4, wk3, wk, iaddrV_map, Nat.reduceAdd, Nat.reduceSub, Nat.reduceMul, Nat.reduceLeDiff, Nat.reduceEqDiff, Nat.reduceBEq, Int.reduceLE, Int.reduceLT, Int.reduceEq, Int.reduceNe, Int.reduceAdd, Int.reduceSub, Int.reduceToNat, Int.reduceNeg, ↓reduceIte, reduceCtorEq]
 have m3 := (promoteA_may hM i).short
 have g3 := promoteL l hs i
 have h3 := rpromoteL l hM i
 generalize promoteA l i = r3 at m3 g3 h3
 refine QStp_go (W_stp ?_)
 simp only [lay, wk5, wk4, wk3, wk, iaddrV_map, Nat.reduceAdd, Nat.reduceSub, Nat.reduceMul, Nat.reduceLeDiff, Nat.reduceEqDiff, Nat.reduceBEq, Int.reduceLE, Int.reduceLT, Int.reduceEq, Int.reduceNe, Int.reduceAdd, Int.reduceSub, Int.reduceToNat, Int.reduceNeg, ↓reduceIte, reduceCtorEq]
 refine CT_ok (g3 _) ?_
 rintro _ _ ⟨rfl, rfl⟩
 simp only [outA, asets, iaddraV_ptr, c6, lay, wk5, wk4, wk3, wk, iaddrV_map, Nat.reduceAdd, Nat.reduceSub, Nat.reduceMul, Nat.reduceLeDiff, Nat.reduceEqDiff, Nat.reduceBEq, Int.reduceLE, Int.reduceLT, Int.reduceEq, Int.reduceNe, Int.reduceAdd, Int.reduceSub, Int.reduceToNat, Int.reduceNeg, ↓reduceIte, reduceCtorEq]
 refine QStp_go (W_stp ?_)
 simp only [lay, wk5, wk4, wk3, wk, iaddrV_map, Nat.reduceAdd, Nat.reduceSub, Nat.reduceMul, Nat.reduceLeDiff, Nat.reduceEqDiff, Nat.reduceBEq, Int.reduceLE, Int.reduceLT, Int.reduceEq, Int.reduceNe, Int.reduceAdd, Int.reduceSub, Int.reduceToNat, Int.reduceNeg, ↓reduceIte, reduceCtorEq]
 refine CT_ok (h3 _) ?_
 rintro _ _ ⟨rfl, rfl⟩
 simp only [outA, asets, iaddraV_ptr, c6, lay, wk5, wk4, wk3, wk, iaddrV_map, Nat.reduceAdd, Nat.reduceSub, Nat.reduceMul, Nat.reduceLeDiff, Nat.reduceEqDiff, Nat.reduceBEq, Int.reduceLE, Int.reduceLT, Int.reduceEq, Int.reduceNe, Int.reduceAdd, Int.reduceSub, Int.reduceToNat, Int.reduceNeg, ↓reduceIte, reduceCtorEq]
 have m4 := (backA_may hM i j).short
 have g4 := backL l hs i j
 have h4 := rbackL l hs i j
 generalize backA l i j = r4 at m4 g4 h4
 refine QStp_go (W_stp ?_)
 simp only [lay, wk5, wk4, wk3, wk, iaddrV_map, Nat.reduceAdd, Nat.reduceSub, Nat.reduceMul, Nat.reduceLeDiff, Nat.reduceEqDiff, Nat.reduceBEq, Int.reduceLE, Int.reduceLT, Int.reduceEq, Int.reduceNe, Int.reduceAdd, Int.reduceSub, Int.reduceToNat, Int.reduceNeg, ↓reduceIte, reduceCtorEq]
 refine CT_ok (g4 _) ?_
 rintro _ _ ⟨rfl, rfl⟩
 simp only [outA, asets, iaddraV_ptr, c6, lay, wk5, wk4, wk3, wk, iaddrV_map, Nat.reduceAdd, Nat.reduceSub, Nat.reduceMul, Nat.reduceLeDiff, Nat.reduceEqDiff, Nat.reduceBEq, Int.reduceLE, Int.reduceLT, Int.reduceEq, Int.reduceNe, Int.reduceAdd, Int.reduceSub, Int.reduceToNat, Int.reduceNeg, ↓reduceIte, reduceCtorEq]
 refine QStp_go (W_stp ?_)
 simp only [lay, wk5, wk4, wk3, wk, iaddrV_map, Nat.reduceAdd, Nat.reduceSub, Nat.reduceMul, Nat.reduceLeDiff, Nat.reduceEqDiff, Nat.reduceBEq, Int.reduceLE, Int.reduceLT, Int.reduceEq, Int.reduceNe, Int.reduceAdd, Int.reduceSub, Int.reduceToNat, Int.reduceNeg, ↓reduceIte, reduceCtorEq]
 refine CT_ok (h4 _) ?_
 rintro _ _ ⟨rfl, rfl⟩
 simp only [outA, asets, iaddraV_ptr, c6, lay, wk5, wk4, wk3, wk, iaddrV_map, Nat.reduceAdd, Nat.reduceSub, Nat.reduceMul, Nat.reduceLeDiff, Nat.reduceEqDiff, Nat.reduceBEq, Int.reduceLE, Int.reduceLT, Int.reduceEq, Int.reduceNe, Int.reduceAdd, Int.reduceSub, Int.reduceToNat, Int.reduceNeg, ↓reduceIte, reduceCtorEq]
 have m5 := (destroyA_may hM i).short
 have g5 := destroyL l hs i
 have h5 := rdestroyL l hM i
 generalize destroyA l i = r5 at m5 g5 h5
 refine QStp_go (W_stp ?_)
 simp only [lay, wk5, wk4, wk3, wk, iaddrV_map, Nat.reduceAdd, Nat.reduceSub, Nat.reduceMul, Nat.reduceLeDiff, Nat.reduceEqDiff, Nat.reduceBEq, Int.reduceLE, Int.reduceLT, Int.reduceEq, Int.reduceNe, Int.reduceAdd, Int.reduceSub, Int.reduceToNat, Int.reduceNeg, ↓reduceIte, reduceCtorEq]
 refine CT_ok (g5 _) ?_
 rintro _ _ ⟨rfl, rfl⟩
 simp only [outA, asets, iaddraV_ptr, c6, lay, wk5, wk4, wk3, wk, iaddrV_map, Nat.reduceAdd, Nat.reduceSub, Nat.reduceMul, Nat.reduceLeDiff, Nat.reduceEqDiff, Nat.reduceBEq, Int.reduceLE, Int.reduceLT, Int.reduceEq, Int.reduceNe, Int.reduceAdd, Int.reduceSub, Int.reduceToNat, Int.reduceNeg, ↓reduceIte, reduceCtorEq]
 refine QStp_go (W_stp ?_)
 simp only [lay, wk5, wk4, wk3, wk, iaddrV_map, Nat.reduceAdd, Nat.reduceSub, Nat.reduceMul, Nat.reduceLeDiff, Nat.reduceEqDiff, Nat.reduceBEq, Int.reduceLE, Int.reduceLT, Int.reduceEq, Int.reduceNe, Int.reduceAdd, Int.reduceSub, Int.reduceToNat, Int.reduceNeg, ↓reduceIte, reduceCtorEq]
 refine CT_ok (h5 _) ?_
 rintro _ _ ⟨rfl, rfl⟩
 simp only [outA, asets, iaddraV_ptr, c6, lay, wk5, wk4, wk3, wk, iaddrV_map, Nat.reduceAdd, Nat.reduceSub, Nat.reduceMul, Nat.reduceLeDiff, Nat.reduceEqDiff, Nat.reduceBEq, Int.reduceLE, Int.reduceLT, Int.reduceEq, Int.reduceNe, Int.reduceAdd, Int.reduceSub, Int.reduceToNat, Int.reduceNeg, ↓reduceIte, reduceCtorEq]
 refine QStp_go (W_cut (fun fr H => H = [] ∧ fr = [.top, .top, .top, .top, .top, .top, .top, .top, .top, .top, .bool false] ++ List.replicate 157 .top) ?_ ?_)
 ·simp only [lay, wk5, wk4, wk3, wk, iaddrV_map, Nat.reduceAdd, Nat.reduceSub, Nat.reduceMul, Nat.reduceLeDiff, Nat.reduceEqDiff, Nat.reduceBEq, Int.reduceLE, Int.reduceLT, Int.reduceEq, Int.reduceNe, Int.reduceAdd, Int.reduceSub, Int.reduceToNat, Int.reduceNeg, ↓reduceIte, reduceCtorEq]
  refine WT_loop (W_wk (fr' := [asets l, .int .i64 i, .int .i64 j, .int .i64 nx, .int .i64 q, .top, .top, .top, .top, .top, .bool false, .top, .top, .top, .top, .ptr 0 0 0 1, .ptr 1 0 0 1, .ptr 2 0 0 1, .ptr 3 0 0 1, .int .i64 (0 : Nat)] ++ List.replicate 148 .top) (Wk_tops ?_) (W_loop (fun nn fr H' => ∃ k : Nat, k ≤ 6 ∧ nn = 6 - k ∧ H' = [some [[asets r0.1, asets r1.1, asets r2.1, asets r3.1, asets r4.1, asets r5.1]], some [[asets r0.1, asets r1.1, asets r2.1, asets r3.1, asets r4.1, asets r5.1]], some [[.int .i64 r0.2, .int .i64 r1.2, .int .i64 r2.2, .int .i64 r3.2, .int .i64 r4.2, .int .i64 r5.2]], some [[.int .i64 r0.2, .int .i64 r1.2, .int .i64 r2.2, .int .i64 r3.2, .int .i64 r4.2, .int .i64 r5.2]]] ∧ fr = [asets l, .int .i64 i, .int .i64 j, .int .i64 nx, .int .i64 q, .top, .top, .top, .top, .top, .bool false, .top, .top, .top, .top, .ptr 0 0 0 1, .ptr 1 0 0 1, .ptr 2 0 0 1, .ptr 3 0 0 1, .int .i64 k] ++ List.replicate 148 .top) 6 ⟨0, by omega, rfl, rfl, rfl⟩ ?_))
  ·simp only [asets, tp, Int.natCast_zero]
  rintro nn fr H' ⟨k, hk, rfl, rfl, rfl⟩
  refine WT_ok ?_
  simp only [asets, lay, wk5, wk4, wk3, wk, iaddrV_map, Nat.reduceAdd, Nat.reduceSub, Nat.reduceMul, Nat.reduceLeDiff, Nat.reduceEqDiff, Nat.reduceBEq, Int.reduceLE, Int.reduceLT, Int.reduceEq, Int.reduceNe, Int.reduceAdd, Int.reduceSub, Int.reduceToNat, Int.reduceNeg, ↓reduceIte, reduceCtorEq]
  by_cases h5 : (k : Int) < 6
  case neg =>
   simp only [h5, lay, wk5, wk4, wk3, wk, iaddrV_map, Nat.reduceAdd, Nat.reduceSub, Nat.reduceMul, Nat.reduceLeDiff, Nat.reduceEqDiff, Nat.reduceBEq, Int.reduceLE, Int.reduceLT, Int.reduceEq, Int.reduceNe, Int.reduceAdd, Int.reduceSub, Int.reduceToNat, Int.reduceNeg, ↓reduceIte, reduceCtorEq]
   refine QCut_go ⟨rfl, rfl⟩ (Wk_none ?_)
   simp only [renL, ren, tp]
  have hk5 : k < 6 := by omega
  clear h5 hk
  rcases (by omega : k = 0 ∨ k = 1 ∨ k = 2 ∨ k = 3 ∨ k = 4 ∨ k = 5) with rfl | rfl | rfl | rfl | rfl | rfl
  ·have ck : ((0 : Nat) : Int) = 0 := rfl
   have w4 : IntKind.i64.wrap 1 = 1 := by decide
   have ck1 : ((1 : Nat) : Int) = 1 := rfl
   have hd : decide (r0.1 = r0.1) = true := decide_eq_true rfl
   have he : (r0.2 = r0.2) = True := eq_self _
   simp only [ck, lay, wk5, wk4, wk3, wk, iaddrV_map, Nat.reduceAdd, Nat.reduceSub, Nat.reduceMul, Nat.reduceLeDiff, Nat.reduceEqDiff, Nat.reduceBEq, Int.reduceLE, Int.reduceLT, Int.reduceEq, Int.reduceNe, Int.reduceAdd, Int.reduceSub, Int.reduceToNat, Int.reduceNeg, ↓reduceIte, reduceCtorEq]
   refine WT_drawE ?_
   refine WDT_more 0 ?_
   simp only [ck, iaddraV_ptr, c6, he, lay, wk5, wk4, wk3, wk, iaddrV_map, Nat.reduceAdd, Nat.reduceSub, Nat.reduceMul, Nat.reduceLeDiff, Nat.reduceEqDiff, Nat.reduceBEq, Int.reduceLE, Int.reduceLT, Int.reduceEq, Int.reduceNe, Int.reduceAdd, Int.reduceSub, Int.reduceToNat, Int.reduceNeg, ↓reduceIte, reduceCtorEq]
   refine ⟨by rfl, ?_⟩
   refine WDT_more 0 ?_
   simp only [ck, iaddraV_ptr, c6, lay, wk5, wk4, wk3, wk, iaddrV_map, Nat.reduceAdd, Nat.reduceSub, Nat.reduceMul, Nat.reduceLeDiff, Nat.reduceEqDiff, Nat.reduceBEq, Int.reduceLE, Int.reduceLT, Int.reduceEq, Int.reduceNe, Int.reduceAdd, Int.reduceSub, Int.reduceToNat, Int.reduceNeg, ↓reduceIte, reduceCtorEq]
   refine ⟨by rfl, ?_⟩
   refine CT_ok (sameS r0.1 r0.1 m0 m0 _) ?_
   rintro _ _ ⟨rfl, rfl⟩
   simp only [hd, w4, lay, wk5, wk4, wk3, wk, iaddrV_map, Nat.reduceAdd, Nat.reduceSub, Nat.reduceMul, Nat.reduceLeDiff, Nat.reduceEqDiff, Nat.reduceBEq, Int.reduceLE, Int.reduceLT, Int.reduceEq, Int.reduceNe, Int.reduceAdd, Int.reduceSub, Int.reduceToNat, Int.reduceNeg, ↓reduceIte, reduceCtorEq]
   refine QLoop_go (n' := 6 - (0 + 1)) (by omega) ⟨1, by omega, rfl, rfl, rfl⟩ ?_
   simp only [asets, ck1, tp]
  ·have ck : ((1 : Nat) : Int) = 1 := rfl
   have w4 : IntKind.i64.wrap 2 = 2 := by decide
   have ck1 : ((2 : Nat) : Int) = 2 := rfl
   have hd : decide (r1.1 = r1.1) = true := decide_eq_true rfl
   have he : (r1.2 = r1.2) = True := eq_self _
   simp only [ck, lay, wk5, wk4, wk3, wk, iaddrV_map, Nat.reduceAdd, Nat.reduceSub, Nat.reduceMul, Nat.reduceLeDiff, Nat.reduceEqDiff, Nat.reduceBEq, Int.reduceLE, Int.reduceLT, Int.reduceEq, Int.reduceNe, Int.reduceAdd, Int.reduceSub, Int.reduceToNat, Int.reduceNeg, ↓reduceIte, reduceCtorEq]
   refine WT_drawE ?_
   refine WDT_more 0 ?_
   simp only [ck, iaddraV_ptr, c6, he, lay, wk5, wk4, wk3, wk, iaddrV_map, Nat.reduceAdd, Nat.reduceSub, Nat.reduceMul, Nat.reduceLeDiff, Nat.reduceEqDiff, Nat.reduceBEq, Int.reduceLE, Int.reduceLT, Int.reduceEq, Int.reduceNe, Int.reduceAdd, Int.reduceSub, Int.reduceToNat, Int.reduceNeg, ↓reduceIte, reduceCtorEq]
   refine ⟨by rfl, ?_⟩
   refine WDT_more 0 ?_
   simp only [ck, iaddraV_ptr, c6, lay, wk5, wk4, wk3, wk, iaddrV_map, Nat.reduceAdd, Nat.reduceSub, Nat.reduceMul, Nat.reduceLeDiff, Nat.reduceEqDiff, Nat.reduceBEq, Int.reduceLE, Int.reduceLT, Int.reduceEq, Int.reduceNe, Int.reduceAdd, Int.reduceSub, Int.reduceToNat, Int.reduceNeg, ↓reduceIte, reduceCtorEq]
   refine ⟨by rfl, ?_⟩
   refine CT_ok (sameS r1.1 r1.1 m1 m1 _) ?_
   rintro _ _ ⟨rfl, rfl⟩
   simp only [hd, w4, lay, wk5, wk4, wk3, wk, iaddrV_map, Nat.reduceAdd, Nat.reduceSub, Nat.reduceMul, Nat.reduceLeDiff, Nat.reduceEqDiff, Nat.reduceBEq, Int.reduceLE, Int.reduceLT, Int.reduceEq, Int.reduceNe, Int.reduceAdd, Int.reduceSub, Int.reduceToNat, Int.reduceNeg, ↓reduceIte, reduceCtorEq]
   refine QLoop_go (n' := 6 - (1 + 1)) (by omega) ⟨2, by omega, rfl, rfl, rfl⟩ ?_
   simp only [asets, ck1, tp]
  ·have ck : ((2 : Nat) : Int) = 2 := rfl
   have w4 : IntKind.i64.wrap 3 = 3 := by decide
   have ck1 : ((3 : Nat) : Int) = 3 := rfl
   have hd : decide (r2.1 = r2.1) = true := decide_eq_true rfl
   have he : (r2.2 = r2.2) = True := eq_self _
   simp only [ck, lay, wk5, wk4, wk3, wk, iaddrV_map, Nat.reduceAdd, Nat.reduceSub, Nat.reduceMul, Nat.reduceLeDiff, Nat.reduceEqDiff, Nat.reduceBEq, Int.reduceLE, Int.reduceLT, Int.reduceEq, Int.reduceNe, Int.reduceAdd, Int.reduceSub, Int.reduceToNat, Int.reduceNeg, ↓reduceIte, reduceCtorEq]
   refine WT_drawE ?_
   refine WDT_more 0 ?_
   simp only [ck, iaddraV_ptr, c6, he, lay, wk5, wk4, wk3, wk, iaddrV_map, Nat.reduceAdd, Nat.reduceSub, Nat.reduceMul, Nat.reduceLeDiff, Nat.reduceEqDiff, Nat.reduceBEq, Int.reduceLE, Int.reduceLT, Int.reduceEq, Int.reduceNe, Int.reduceAdd, Int.reduceSub, Int.reduceToNat, Int.reduceNeg, ↓reduceIte, reduceCtorEq]
   refine ⟨by rfl, ?_⟩
   refine WDT_more 0 ?_
   simp only [ck, iaddraV_ptr, c6, lay, wk5, wk4, wk3, wk, iaddrV_map, Nat.reduceAdd, Nat.reduceSub, Nat.reduceMul, Nat.reduceLeDiff, Nat.reduceEqDiff, Nat.reduceBEq, Int.reduceLE, Int.reduceLT, Int.reduceEq, Int.reduceNe, Int.reduceAdd, Int.reduceSub, Int.reduceToNat, Int.reduceNeg, ↓reduceIte, reduceCtorEq]
   refine ⟨by rfl, ?_⟩
   refine CT_ok (sameS r2.1 r2.1 m2 m2 _) ?_
   rintro _ _ ⟨rfl, rfl⟩
   simp only [hd, w4, lay, wk5, wk4, wk3, wk, iaddrV_map, Nat.reduceAdd, Nat.reduceSub, Nat.reduceMul, Nat.reduceLeDiff, Nat.reduceEqDiff, Nat.reduceBEq, Int.reduceLE, Int.reduceLT, Int.reduceEq, Int.reduceNe, Int.reduceAdd, Int.reduceSub, Int.reduceToNat, Int.reduceNeg, ↓reduceIte, reduceCtorEq]
   refine QLoop_go (n' := 6 - (2 + 1)) (by omega) ⟨3, by omega, rfl, rfl, rfl⟩ ?_
   simp only [asets, ck1, tp]
  ·have ck : ((3 : Nat) : Int) = 3 := rfl
   have w4 : IntKind.i64.wrap 4 = 4 := by decide
   have ck1 : ((4 : Nat) : Int) = 4 := rfl
   have hd : decide (r3.1 = r3.1) = true := decide_eq_true rfl
   have he : (r3.2 = r3.2) = True := eq_self _
   simp only [ck, lay, wk5, wk4, wk3, wk, iaddrV_map, Nat.reduceAdd, Nat.reduceSub, Nat.reduceMul, Nat.reduceLeDiff, Nat.reduceEqDiff, Nat.reduceBEq, Int.reduceLE, Int.reduceLT, Int.reduceEq, Int.reduceNe, Int.reduceAdd, Int.reduceSub, Int.reduceToNat, Int.reduceNeg, ↓reduceIte, reduceCtorEq]
   refine WT_drawE ?_
   refine WDT_more 0 ?_
   simp only [ck, iaddraV_ptr, c6, he, lay, wk5, wk4, wk3, wk, iaddrV_map, Nat.reduceAdd, Nat.reduceSub, Nat.reduceMul, Nat.reduceLeDiff, Nat.reduceEqDiff, Nat.reduceBEq, Int.reduceLE, Int.reduceLT, Int.reduceEq, Int.reduceNe, Int.reduceAdd, Int.reduceSub, Int.reduceToNat, Int.reduceNeg, ↓reduceIte, reduceCtorEq]
   refine ⟨by rfl, ?_⟩
   refine WDT_more 0 ?_
   simp only [ck, iaddraV_ptr, c6, lay, wk5, wk4, wk3, wk, iaddrV_map, Nat.reduceAdd, Nat.reduceSub, Nat.reduceMul, Nat.reduceLeDiff, Nat.reduceEqDiff, Nat.reduceBEq, Int.reduceLE, Int.reduceLT, Int.reduceEq, Int.reduceNe, Int.reduceAdd, Int.reduceSub, Int.reduceToNat, Int.reduceNeg, ↓reduceIte, reduceCtorEq]
   refine ⟨by rfl, ?_⟩
   refine CT_ok (sameS r3.1 r3.1 m3 m3 _) ?_
   rintro _ _ ⟨rfl, rfl⟩
   simp only [hd, w4, lay, wk5, wk4, wk3, wk, iaddrV_map, Nat.reduceAdd, Nat.reduceSub, Nat.reduceMul, Nat.reduceLeDiff, Nat.reduceEqDiff, Nat.reduceBEq, Int.reduceLE, Int.reduceLT, Int.reduceEq, Int.reduceNe, Int.reduceAdd, Int.reduceSub, Int.reduceToNat, Int.reduceNeg, ↓reduceIte, reduceCtorEq]
   refine QLoop_go (n' := 6 - (3 + 1)) (by omega) ⟨4, by omega, rfl, rfl, rfl⟩ ?_
   simp only [asets, ck1, tp]
  ·have ck : ((4 : Nat) : Int) = 4 := rfl
   have w4 : IntKind.i64.wrap 5 = 5 := by decide
   have ck1 : ((5 : Nat) : Int) = 5 := rfl
   have hd : decide (r4.1 = r4.1) = true := decide_eq_true rfl
   have he : (r4.2 = r4.2) = True := eq_self _
   simp only [ck, lay, wk5, wk4, wk3, wk, iaddrV_map, Nat.reduceAdd, Nat.reduceSub, Nat.reduceMul, Nat.reduceLeDiff, Nat.reduceEqDiff, Nat.reduceBEq, Int.reduceLE, Int.reduceLT, Int.reduceEq, Int.reduceNe, Int.reduceAdd, Int.reduceSub, Int.reduceToNat, Int.reduceNeg, ↓reduceIte, reduceCtorEq]
   refine WT_drawE ?_
   refine WDT_more 0 ?_
   simp only [ck, iaddraV_ptr, c6, he, lay, wk5, wk4, wk3, wk, iaddrV_map, Nat.reduceAdd, Nat.reduceSub, Nat.reduceMul, Nat.reduceLeDiff, Nat.reduceEqDiff, Nat.reduceBEq, Int.reduceLE, Int.reduceLT, Int.reduceEq, Int.reduceNe, Int.reduceAdd, Int.reduceSub, Int.reduceToNat, Int.reduceNeg, ↓reduceIte, reduceCtorEq]
   refine ⟨by rfl, ?_⟩
   refine WDT_more 0 ?_
   simp only [ck, iaddraV_ptr, c6, lay, wk5, wk4, wk3, wk, iaddrV_map, Nat.reduceAdd, Nat.reduceSub, Nat.reduceMul, Nat.reduceLeDiff, Nat.reduceEqDiff, Nat.reduceBEq, Int.reduceLE, Int.reduceLT, Int.reduceEq, Int.reduceNe, Int.reduceAdd, Int.reduceSub, Int.reduceToNat, Int.reduceNeg, ↓reduceIte, reduceCtorEq]
   refine ⟨by rfl, ?_⟩
   refine CT_ok (sameS r4.1 r4.1 m4 m4 _) ?_
   rintro _ _ ⟨rfl, rfl⟩
   simp only [hd, w4, lay, wk5, wk4, wk3, wk, iaddrV_map, Nat.reduceAdd, Nat.reduceSub, Nat.reduceMul, Nat.reduceLeDiff, Nat.reduceEqDiff, Nat.reduceBEq, Int.reduceLE, Int.reduceLT, Int.reduceEq, Int.reduceNe, Int.reduceAdd, Int.reduceSub, Int.reduceToNat, Int.reduceNeg, ↓reduceIte, reduceCtorEq]
   refine QLoop_go (n' := 6 - (4 + 1)) (by omega) ⟨5, by omega, rfl, rfl, rfl⟩ ?_
   simp only [asets, ck1, tp]
  ·have ck : ((5 : Nat) : Int) = 5 := rfl
   have w4 : IntKind.i64.wrap 6 = 6 := by decide
   have ck1 : ((6 : Nat) : Int) = 6 := rfl
   have hd : decide (r5.1 = r5.1) = true := decide_eq_true rfl
   have he : (r5.2 = r5.2) = True := eq_self _
   simp only [ck, lay, wk5, wk4, wk3, wk, iaddrV_map, Nat.reduceAdd, Nat.reduceSub, Nat.reduceMul, Nat.reduceLeDiff, Nat.reduceEqDiff, Nat.reduceBEq, Int.reduceLE, Int.reduceLT, Int.reduceEq, Int.reduceNe, Int.reduceAdd, Int.reduceSub, Int.reduceToNat, Int.reduceNeg, ↓reduceIte, reduceCtorEq]
   refine WT_drawE ?_
   refine WDT_more 0 ?_
   simp only [ck, iaddraV_ptr, c6, he, lay, wk5, wk4, wk3, wk, iaddrV_map, Nat.reduceAdd, Nat.reduceSub, Nat.reduceMul, Nat.reduceLeDiff, Nat.reduceEqDiff, Nat.reduceBEq, Int.reduceLE, Int.reduceLT, Int.reduceEq, Int.reduceNe, Int.reduceAdd, Int.reduceSub, Int.reduceToNat, Int.reduceNeg, ↓reduceIte, reduceCtorEq]
   refine ⟨by rfl, ?_⟩
   refine WDT_more 0 ?_
   simp only [ck, iaddraV_ptr, c6, lay, wk5, wk4, wk3, wk, iaddrV_map, Nat.reduceAdd, Nat.reduceSub, Nat.reduceMul, Nat.reduceLeDiff, Nat.reduceEqDiff, Nat.reduceBEq, Int.reduceLE, Int.reduceLT, Int.reduceEq, Int.reduceNe, Int.reduceAdd, Int.reduceSub, Int.reduceToNat, Int.reduceNeg, ↓reduceIte, reduceCtorEq]
   refine ⟨by rfl, ?_⟩
   refine CT_ok (sameS r5.1 r5.1 m5 m5 _) ?_
   rintro _ _ ⟨rfl, rfl⟩
   simp only [hd, w4, lay, wk5, wk4, wk3, wk, iaddrV_map, Nat.reduceAdd, Nat.reduceSub, Nat.reduceMul, Nat.reduceLeDiff, Nat.reduceEqDiff, Nat.reduceBEq, Int.reduceLE, Int.reduceLT, Int.reduceEq, Int.reduceNe, Int.reduceAdd, Int.reduceSub, Int.reduceToNat, Int.reduceNeg, ↓reduceIte, reduceCtorEq]
   refine QLoop_go (n' := 6 - (5 + 1)) (by omega) ⟨6, by omega, rfl, rfl, rfl⟩ ?_
   simp only [asets, ck1, tp]
 rintro fr H ⟨rfl, rfl⟩
 refine WT_ok ?_
 simp only [lay, wk5, wk4, wk3, wk, iaddrV_map, Nat.reduceAdd, Nat.reduceSub, Nat.reduceMul, Nat.reduceLeDiff, Nat.reduceEqDiff, Nat.reduceBEq, Int.reduceLE, Int.reduceLT, Int.reduceEq, Int.reduceNe, Int.reduceAdd, Int.reduceSub, Int.reduceToNat, Int.reduceNeg, ↓reduceIte, reduceCtorEq]
theorem alike36 (l : List Dset) (hM : MayL l) (i j nx q : Int) (H : AH) : C Tryz.prog 36 [asets l, .int .i64 i, .int .i64 j, .int .i64 nx, .int .i64 q] H (fun x H' => x = .bool true ∧ H' = H) :=
 C_flat (K0 := fun x _ => x = .bool true) (alike36_0 l hM i j nx q) (by rintro x _ rfl; exact ⟨rfl, rfl, rfl⟩)
end Go.Proofs.YtemjlopoffjmpaaGreat.Abs
namespace Go.Proofs.YtemjlopoffjmpaaGreat.Abs
open Go
end Go.Proofs.YtemjlopoffjmpaaGreat.Abs
namespace Go.Proofs.YtemjlopoffjmpaaGreat.Abs
open Go
end Go.Proofs.YtemjlopoffjmpaaGreat.Abs
namespace Go.Proofs.YtemjlopoffjmpaaGreat.Abs
open Go
end Go.Proofs.YtemjlopoffjmpaaGreat.Abs
set_option linter.unusedSimpArgs false
set_option linter.unusedVariables false
namespace Go.Proofs.YtemjlopoffjmpaaGreat.Abs
open Go Go.Proofs
end Go.Proofs.YtemjlopoffjmpaaGreat.Abs
set_option linter.unusedSimpArgs false
set_option linter.unusedVariables false
namespace Go.Proofs.YtemjlopoffjmpaaGreat.Abs
open Go Go.Proofs
end Go.Proofs.YtemjlopoffjmpaaGreat.Abs
namespace Go.Proofs.YtemjlopoffjmpaaGreat.Abs
open Go
def c23 : ACode :=
 (.seq (.reg [I1 0 (.mv (.c (.bool false)))])
 (.seq (.reg [I1 14 (.call 37 [(.c (.emp)), (KI 1), (KI 0)]), I0 13 14, I8 15 13 0, I8 16 13 1, I0 1 15, I0 2 16])
 (.seq (.reg [I0 18 1, I1 19 (.call 24 [(.t 18), (KI 2), (KI 1)]), I0 17 19, I8 20 17 0, I8 21 17 1, I0 3 20, I0 4 21])
 (.seq (.reg [I0 23 3, I1 24 (.call 25 [(.t 23), (KI 3), (KI 2)]), I0 22 24, I8 25 22 0, I8 26 22 1, I0 5 25, I0 6 26])
 (.seq (.reg [I0 28 5, I1 29 (.call 29 [(.t 28), (KI 3)]), I0 27 29, I8 30 27 0, I8 31 27 1, I0 7 30, I0 8 31])
 (.seq (.reg [I0 33 7, I1 34 (.call 32 [(.t 33), (KI 2)]), I0 32 34, I8 35 32 0, I8 36 32 1, I0 9 35, I0 10 36])
 (.seq (.reg [I0 38 7, I1 39 (.call 27 [(.t 38), (KI 1)]), I0 37 39, I8 40 37 0, I8 41 37 1, I1 11 (.alloc [.int .i64 0, .int .i64 0, .int .i64 0, .int .i64 0, .emp]), I9 5 11 40, I0 12 41])
 (.seq (.reg [I0 42 2, I1 43 (.bini .eql (.t 42) (KI 0)), I0 44 43, I4 45 44 4, I2 46 44 (.bini .eql (.t 45) (KI 0)), I1 47 (.pick (.t 44) (.t 46) (.c (.bool false))), I0 48 47, I4 49 48 6, I2 50 48 (.bini .eql (.t 49) (KI 0)), I1 51 (.pick (.t 48) (.t 50) (.c (.bool false))), I0 52 51, I4 53 52 8, I2 54 52 (.bini .eql (.t 53) (KI 0)), I1 55 (.pick (.t 52) (.t 54) (.c (.bool false))), I0 56 55, I4 57 56 10, I2 58 56 (.bini .eql (.t 57) (KI 10)), I1 59 (.pick (.t 56) (.t 58) (.c (.bool false))), I0 60 59, I4 61 60 12, I1 62 (.pick (.t 60) (.t 61) (.c (.bool false))), I0 63 62, I2 64 63 (.faddr 2 (.t 11)), I2 65 63 (.load false 1 (.t 64)), I2 66 63 (.bini .eql (.t 65) (KI 2)), I1 67 (.pick (.t 63) (.t 66) (.c (.bool false))), I0 68 67, I4 69 68 7, I2 70 68 (.call 33 [(.t 69)]), I1 71 (.pick (.t 68) (.t 70) (.c (.bool false))), I0 72 71, I2 73 72 (.build [.int .i64 0, .int .i64 0, .int .i64 0, .int .i64 0, .emp] []), I2 74 72 (.bslice 5 1 [.int .i64 0, .int .i64 0, .int .i64 0, .int .i64 0, .emp] [(0, (.t 73))]), I2 75 72 (.call 33 [(.t 74)]), I2 76 72 (.un .not (.t 75)), I1 77 (.pick (.t 72) (.t 76) (.c (.bool false))), I0 78 77, I4 79 78 7, I4 80 78 7, I2 81 78 (.call 35 [(.t 79), (.t 80)]), I1 82 (.pick (.t 78) (.t 81) (.c (.bool false))), I0 83 82, I4 84 83 7, I4 85 83 5, I2 86 83 (.call 35 [(.t 84), (.t 85)]), I2 87 83 (.un .not (.t 86)), I1 88 (.pick (.t 83) (.t 87) (.c (.bool false))), I0 0 88])
 .ret))))))))
theorem d23 : FnD Tryz.prog 23 0 89 [.tmp 0] c23 := ⟨Tryz.f23, _, Tryz.func23, by kernel_rfl, rfl, rfl, by kernel_rfl, by kernel_rfl⟩
end Go.Proofs.YtemjlopoffjmpaaGreat.Abs
namespace Go.Proofs.YtemjlopoffjmpaaGreat.Abs
open Go
def tabForms : List (Nat × FD) := [
 (59, ⟨2, 6, [.tmp 4], c59⟩),
 (102, ⟨2, 6, [.tmp 3], c102⟩),
 (101, ⟨2, 17, [.tmp 4], c101⟩),
 (60, ⟨3, 19, [.tmp 6], c60⟩),
 (56, ⟨1, 22, [.tmp 2], c56⟩),
 (48, ⟨1, 7, [.tmp 2], c48⟩),
 (49, ⟨1, 7, [.tmp 2], c49⟩),
 (57, ⟨3, 42, [.tmp 6, .tmp 7], c57⟩),
 (37, ⟨3, 21, [.tmp 6, .tmp 7], c37⟩),
 (24, ⟨3, 33, [.tmp 6, .tmp 7], c24⟩),
 (25, ⟨3, 33, [.tmp 6, .tmp 7], c25⟩),
 (29, ⟨2, 117, [.tmp 4, .tmp 5], c29⟩),
 (38, ⟨3, 69, [.tmp 6, .tmp 7], c38⟩),
 (32, ⟨2, 52, [.tmp 4, .tmp 5], c32⟩),
 (27, ⟨2, 17, [.cell 4 true 5, .tmp 5], c27⟩),
 (33, ⟨1, 28, [.tmp 2], c33⟩),
 (66, ⟨1, 71, [.tmp 2], c66⟩),
 (105, ⟨1, 5, [.tmp 2], c105⟩),
 (131, ⟨1, 63, [.tmp 2], c131⟩),
 (158, ⟨2, 36, [.tmp 4], c158⟩),
 (159, ⟨2, 17, [.tmp 4], c159⟩),
 (160, ⟨2, 48, [.tmp 4], c160⟩),
 (202, ⟨2, 21, [.tmp 4], c202⟩),
 (106, ⟨2, 24, [.tmp 4], c106⟩),
 (35, ⟨2, 6, [.tmp 4], c35⟩),
 (67, ⟨3, 29, [.tmp 6], c67⟩),
 (68, ⟨2, 36, [.tmp 4], c68⟩),
 (69, ⟨2, 6, [.tmp 4], c69⟩),
 (107, ⟨2, 24, [.tmp 4], c107⟩),
 (76, ⟨0, 7, [.tmp 0], c76⟩),
 (77, ⟨3, 17, [.tmp 4], c77⟩),
 (63, ⟨2, 7, [.tmp 4], c63⟩),
 (64, ⟨2, 6, [.tmp 3], c64⟩),
 (65, ⟨3, 30, [.tmp 6], c65⟩),
 (201, ⟨1, 21, [.tmp 2], c201⟩),
 (224, ⟨1, 15, [.tmp 2], c224⟩),
 (23, ⟨0, 89, [.tmp 0], c23⟩)]
theorem tabForms_ok : ∀ p ∈ tabForms, FnD Tryz.prog p.1 p.2.np p.2.nt p.2.res p.2.ac := by
 intro p hp
 simp only [tabForms, List.mem_cons, List.not_mem_nil, or_false] at hp
 rcases hp with rfl | rfl | rfl | rfl | rfl | rfl | rfl | rfl | rfl | rfl | rfl | rfl | rfl | rfl | rfl | rfl | rfl | rfl | rfl | rfl | rfl | rfl | rfl | rfl | rfl | rfl | rfl | rfl | rfl | rfl | rfl | rfl | rfl | rfl | rfl | rfl | rfl
 ·exact d59
 ·exact d102
 ·exact d101
 ·exact d60
 ·exact d56
 ·exact d48
 ·exact d49
 ·exact d57
 ·exact d37
 ·exact d24
 ·exact d25
 ·exact d29
 ·exact d38
 ·exact d32
 ·exact d27
 ·exact d33
 ·exact d66
 ·exact d105
 ·exact d131
 ·exact d158
 ·exact d159
 ·exact d160
 ·exact d202
 ·exact d106
 ·exact d35
 ·exact d67
 ·exact d68
 ·exact d69
 ·exact d107
 ·exact d76
 ·exact d77
 ·exact d63
 ·exact d64
 ·exact d65
 ·exact d201
 ·exact d224
 ·exact d23
end Go.Proofs.YtemjlopoffjmpaaGreat.Abs
namespace Go.Proofs.YtemjlopoffjmpaaGreat.Abs
open Go
def nf : PV := .fz [[.int .i64 2, .int .i64 0, .str [], .str [], .int .i64 0], [.int .i64 0, .int .i64 0, .str [], .str [], .int .i64 0], [.int .i64 0, .int .i64 0, .str [], .str [], .int .i64 0], [.int .i64 0, .int .i64 0, .str [], .str [], .int .i64 0], [.int .i64 0, .int .i64 0, .str [], .str [], .int .i64 0], [.int .i64 0, .int .i64 0, .str [], .str [], .int .i64 0], [.int .i64 0, .int .i64 0, .str [], .str [], .int .i64 0], [.int .i64 0, .int .i64 0, .str [], .str [], .int .i64 0]]
def fzF (f : Nat) : Bool := f == 76 || f == 49 || f == 37 || f == 24 || f == 25 || f == 29 || f == 38 || f == 32 || f == 27
theorem ev_ok : EvOk Tryz.prog (evF tabForms orcC fzF 40 40) := evF_ok tabForms_ok orcC_ok fzF 40 40
def m0 : Memo := ⟨37, [.emp, .int .i64 1, .int .i64 0], .tuple [.fz [[.int .i64 1, .int .i64 1, .int .i64 0, .int .i64 0, nf]], .int .i64 0]⟩
theorem m0_so : m0.so Tryz.prog := Memo.of ev_ok m0 (by kernel_rfl)
def m1 : Memo := ⟨24, [.fz [[.int .i64 1, .int .i64 1, .int .i64 0, .int .i64 0, nf]], .int .i64 2, .int .i64 1], .tuple [.fz [[.int .i64 1, .int .i64 1, .int .i64 0, .int .i64 0, nf], [.int .i64 2, .int .i64 2, .int .i64 1, .int .i64 0, nf]], .int .i64 0]⟩
theorem m1_so : m1.so Tryz.prog := Memo.of ev_ok m1 (by kernel_rfl)
def m2 : Memo := ⟨25, [.fz [[.int .i64 1, .int .i64 1, .int .i64 0, .int .i64 0, nf], [.int .i64 2, .int .i64 2, .int .i64 1, .int .i64 0, nf]], .int .i64 3, .int .i64 2], .tuple [.fz [[.int .i64 1, .int .i64 1, .int .i64 0, .int .i64 0, nf], [.int .i64 2, .int .i64 2, .int .i64 1, .int .i64 0, nf], [.int .i64 3, .int .i64 1, .int .i64 2, .int .i64 0, nf]], .int .i64 0]⟩
theorem m2_so : m2.so Tryz.prog := Memo.of ev_ok m2 (by kernel_rfl)
def m3 : Memo := ⟨29, [.fz [[.int .i64 1, .int .i64 1, .int .i64 0, .int .i64 0, nf], [.int .i64 2, .int .i64 2, .int .i64 1, .int .i64 0, nf], [.int .i64 3, .int .i64 1, .int .i64 2, .int .i64 0, nf]], .int .i64 3], .tuple [.fz [[.int .i64 1, .int .i64 1, .int .i64 2, .int .i64 0, nf], [.int .i64 2, .int .i64 2, .int .i64 3, .int .i64 0, nf], [.int .i64 3, .int .i64 1, .int .i64 0, .int .i64 0, nf]], .int .i64 0]⟩
theorem m3_so : m3.so Tryz.prog := Memo.of ev_ok m3 (by kernel_rfl)
def m4 : Memo := ⟨32, [.fz [[.int .i64 1, .int .i64 1, .int .i64 2, .int .i64 0, nf], [.int .i64 2, .int .i64 2, .int .i64 3, .int .i64 0, nf], [.int .i64 3, .int .i64 1, .int .i64 0, .int .i64 0, nf]], .int .i64 2], .tuple [.fz [[.int .i64 1, .int .i64 1, .int .i64 2, .int .i64 0, nf], [.int .i64 2, .int .i64 2, .int .i64 3, .int .i64 0, nf], [.int .i64 3, .int .i64 1, .int .i64 0, .int .i64 0, nf]], .int .i64 10]⟩
theorem m4_so : m4.so Tryz.prog := Memo.of ev_ok m4 (by kernel_rfl)
def m5 : Memo := ⟨33, [.fz [[.int .i64 1, .int .i64 1, .int .i64 2, .int .i64 0, nf], [.int .i64 2, .int .i64 2, .int .i64 3, .int .i64 0, nf], [.int .i64 3, .int .i64 1, .int .i64 0, .int .i64 0, nf]]], .bool true⟩
theorem m5_so : m5.so Tryz.prog := Memo.of ev_ok m5 (by kernel_rfl)
def m6 : Memo := ⟨35, [.fz [[.int .i64 1, .int .i64 1, .int .i64 2, .int .i64 0, nf], [.int .i64 2, .int .i64 2, .int .i64 3, .int .i64 0, nf], [.int .i64 3, .int .i64 1, .int .i64 0, .int .i64 0, nf]], .fz [[.int .i64 1, .int .i64 1, .int .i64 2, .int .i64 0, nf], [.int .i64 2, .int .i64 2, .int .i64 3, .int .i64 0, nf], [.int .i64 3, .int .i64 1, .int .i64 0, .int .i64 0, nf]]], .bool true⟩
theorem m6_so : m6.so Tryz.prog := Memo.of ev_ok m6 (by kernel_rfl)
def m7 : Memo := ⟨35, [.fz [[.int .i64 1, .int .i64 1, .int .i64 2, .int .i64 0, nf], [.int .i64 2, .int .i64 2, .int .i64 3, .int .i64 0, nf], [.int .i64 3, .int .i64 1, .int .i64 0, .int .i64 0, nf]], .fz [[.int .i64 1, .int .i64 1, .int .i64 0, .int .i64 0, nf], [.int .i64 2, .int .i64 2, .int .i64 1, .int .i64 0, nf], [.int .i64 3, .int .i64 1, .int .i64 2, .int .i64 0, nf]]], .bool false⟩
theorem m7_so : m7.so Tryz.prog := Memo.of ev_ok m7 (by kernel_rfl)
def memoB : List Memo := [m0, m1, m2, m3, m4, m5, m6, m7]
theorem memoB_so : ∀ m ∈ memoB, m.so Tryz.prog := by
 intro m hm
 simp only [memoB, List.mem_cons, List.not_mem_nil, or_false] at hm
 rcases hm with rfl | rfl | rfl | rfl | rfl | rfl | rfl | rfl
 ·exact m0_so
 ·exact m1_so
 ·exact m2_so
 ·exact m3_so
 ·exact m4_so
 ·exact m5_so
 ·exact m6_so
 ·exact m7_so
def m100 : Memo := ⟨23, [], .bool true⟩
theorem m100_so : m100.so Tryz.prog := Memo.of (evF_ok tabForms_ok (memo_ok orcC_ok memoB_so) fzF 40 40) m100 (by kernel_rfl)
end Go.Proofs.YtemjlopoffjmpaaGreat.Abs
set_option linter.unusedSimpArgs false
set_option linter.unusedVariables false
namespace Go.Proofs.YtemjlopoffjmpaaGreat.Abs
open Go Go.Proofs
theorem pick_index {n : Int} (hn : 0 ≤ n) {m : Nat} (hm : 0 < m) : ∃ k : Nat, n.tmod (m : Int) = k ∧ k < m := by
 have h1 := Int.tmod_nonneg (m : Int) hn
 have h2 := Int.tmod_lt_of_pos n (show (0 : Int) < m by omega)
 exact ⟨(n.tmod (m : Int)).toNat, by omega, by omega⟩
end Go.Proofs.YtemjlopoffjmpaaGreat.Abs
set_option linter.unusedSimpArgs false
set_option linter.unusedVariables false
namespace Go.Proofs.YtemjlopoffjmpaaGreat.Abs
open Go Go.Proofs
end Go.Proofs.YtemjlopoffjmpaaGreat.Abs
namespace Go.Proofs.YtemjlopoffjmpaaGreat.Abs
open Go
end Go.Proofs.YtemjlopoffjmpaaGreat.Abs
namespace Go.Proofs.YtemjlopoffjmpaaGreat.Abs
open Go
end Go.Proofs.YtemjlopoffjmpaaGreat.Abs
set_option linter.unusedSimpArgs false
set_option linter.unusedVariables false
namespace Go.Proofs.YtemjlopoffjmpaaGreat.Abs
open Go
end Go.Proofs.YtemjlopoffjmpaaGreat.Abs
set_option linter.unusedSimpArgs false
set_option linter.unusedVariables false
namespace Go.Proofs.YtemjlopoffjmpaaGreat.Abs
open Go Go.Proofs
theorem frz_row (r : Nat) (l : List Dset) (n : Nat) (h : n = l.length) : frz r (l.map pdset) (.own r 5 0 n n) = asets l := by
 subst h
 simp only [frz, if_true, List.length_map, Nat.zero_add, Nat.le_refl, and_self, List.drop_zero, asets]
 rw [List.take_of_length_le (by simp)]
end Go.Proofs.YtemjlopoffjmpaaGreat.Abs
set_option linter.unusedSimpArgs false
set_option linter.unusedVariables false
namespace Go.Proofs.YtemjlopoffjmpaaGreat.Abs
open Go Go.Proofs
end Go.Proofs.YtemjlopoffjmpaaGreat.Abs
set_option linter.unusedSimpArgs false
set_option linter.unusedVariables false
namespace Go.Proofs.YtemjlopoffjmpaaGreat.Abs
open Go Go.Proofs
structure FilesR (l x : List Dset) (w i : Int) (fs : List Node) (n : Int) : Prop where
 may : MayL x
 len : (x.length : Int) = n
 gone : w = 1 → ∀ d ∈ l, d.id = i → getA x d.id = none
 kept : ∀ d ∈ l, ¬ (w = 1 ∧ d.id = i) → ∃ d', getA x d.id = some d' ∧ d'.kind = d.kind ∧ d'.quota = d.quota ∧ (w ≠ 0 → d'.origin = d.origin) ∧ d'.files = if w = 5 ∧ d.id = i then fs else d.files
section
variable {l : List Dset} (h : MayL l) (i j : Int)
include h
end
end Go.Proofs.YtemjlopoffjmpaaGreat.Abs
set_option linter.unusedSimpArgs false
set_option linter.unusedVariables false
namespace Go.Proofs.YtemjlopoffjmpaaGreat.Abs
open Go Go.Proofs
end Go.Proofs.YtemjlopoffjmpaaGreat.Abs
set_option linter.unusedSimpArgs false
set_option linter.unusedVariables false
namespace Go.Proofs.YtemjlopoffjmpaaGreat.Abs
open Go Go.Proofs
end Go.Proofs.YtemjlopoffjmpaaGreat.Abs
set_option linter.unusedSimpArgs false
set_option linter.unusedVariables false
namespace Go.Proofs.YtemjlopoffjmpaaGreat.Abs
open Go Go.Proofs
theorem Wk_row {n0 : Nat} {fr : List AV} {H : AH} (r : Nat) {o o' : AObj} (hat : H.at r = some o) (hl : o'.length = o.length)
 (hr : ∀ (i : Nat) e', o'[i]? = some e' → ∃ e, o[i]? = some e ∧ e'.length = e.length ∧ ∀ (k : Nat) c', e'[k]? = some c' → ∃ c, e[k]? = some c ∧ ∀ E v, Rep E c v → Rep E c' v) : Wk n0 fr H fr (H.set r (some o')) := by
 intro E w vs hs hrl
 refine ⟨E, LeN.refl _ _, ?_, hrl⟩
 have hlt := at_lt hat
 have atself : AH.at (H.set r (some o')) r = some o' := at_set_eq (some o') hlt
 have atne : ∀ r', r' ≠ r → AH.at (H.set r (some o')) r' = H.at r' := fun r' h => at_set_ne (some o') h.symm
 refine ⟨hs.os, hs.tape, hs.output, hs.frz, hs.disj, fun r' x hx => by rw [List.length_set]; exact hs.dom r' x hx, fun r' q hq => ?_, fun r1 r2 q q' x x' h1 h2 h3 h4 h5 => ?_⟩
 ·by_cases e : r' = r
  ·subst e
   rw [atself] at hq
   cases hq
   rcases hs.obj r' o hat with ⟨h1, h2⟩ | ⟨x, hx, hL⟩
   ·left
    refine ⟨List.length_eq_zero_iff.1 (by rw [hl, h1]; rfl), h2⟩
   ·right
    obtain ⟨cells, t, q, b1, b2, b3, b4, b5⟩ := hL.blk
    refine ⟨x, hx, hL.t.trans hl.symm, hL.pos, hL.out, ⟨cells, t, q, b1, b2, b3, b4, fun i e' k c' v g1 g2 g3 => ?_⟩, fun e' he' => ?_, by rw [hl]; exact hL.fits⟩
    ·obtain ⟨e, he, _, hc⟩ := hr i e' g1
     obtain ⟨c, hc1, hc2⟩ := hc k c' g2
     exact hc2 E v (b5 i e k c v he hc1 g3)
    ·obtain ⟨i, hi, rfl⟩ := List.mem_iff_getElem.1 he'
     obtain ⟨e, he, hle, _⟩ := hr i _ (List.getElem?_eq_getElem hi)
     rw [hle]
     exact hL.sz e (List.mem_of_getElem? he)
  ·rw [atne r' e] at hq
   exact hs.obj r' q hq
 ·have g : ∀ r' q, AH.at (H.set r (some o')) r' = some q → ∃ q2, H.at r' = some q2 := fun r' q h => by
   by_cases e : r' = r
   ·subst e; exact ⟨o, hat⟩
   ·rw [atne r' e] at h; exact ⟨q, h⟩
  obtain ⟨_, g1⟩ := g r1 q h1
  obtain ⟨_, g2⟩ := g r2 q' h2
  exact hs.inj r1 r2 _ _ x x' g1 g2 h3 h4 h5
theorem rep_emp_fz {E : Env} {v : Value} (h : Rep E .emp v) : Rep E (.fz []) v := by
 obtain ⟨a, rfl⟩ := rep_emp h
 exact .pure (x := .fz []) (.fz0 _ _)
end Go.Proofs.YtemjlopoffjmpaaGreat.Abs
set_option linter.unusedSimpArgs false
set_option linter.unusedVariables false
namespace Go.Proofs.YtemjlopoffjmpaaGreat.Abs
open Go Go.Proofs
theorem QCut_wk {I : List AV → AH → Prop} {Q : APost} {fr fr' : List AV} {H H' : AH} {m n} (hw : Wk 0 fr H fr' H') (h : QCut 0 I Q m n .normal fr' H') : QCut 0 I Q m n .normal fr H := by
 obtain ⟨f, G, h1, h2⟩ := h
 exact ⟨f, G, hw.trans h1, h2⟩
theorem loose_set {L : List Dset} (hL : MayL L) (k : Nat) (c : Dset) (hc : Wf c.files ∨ c.files = []) : Loose (L.set k c) := by
 refine ⟨by rw [List.length_set]; have := hL.len; omega, fun d hd => ?_⟩
 rcases List.mem_or_eq_of_mem_set hd with hd | rfl
 ·exact .inl (hL.each d hd).files
 ·exact hc
def frS (l : List UInt8) (how at' nx ii tt q : Int) (L X : List Dset) : List AV := [.fz (l.map pbyte), .int .u8 how, .int .u8 at', .int .i64 nx, .int .i64 ii, .int .i64 tt, .int .i64 q, .top, .top, .top, .top, .top, .top, .top, .bool false, asets L, asets X] ++ List.replicate 133 .top
theorem turn_go (l : List UInt8) (how at' nx ii tt q : Int) (L X : List Dset) (n : Nat) {fr : List AV} {H : AH} {Q : APost} {m} {m'} (hX : Loose X) (hn : n = X.length) (hat : H.at 1 = some (X.map cellD)) (h : Tops ([.fz (l.map pbyte), .int .u8 how, .int .u8 at', .int .i64 nx, .int .i64 ii, .int .i64 tt, .int .i64 q, .top, .top, .top, .top, .top, .top, .top, .bool false, asets L, .own 1 5 0 n n] ++ List.replicate 133 .top) fr) :
 QCut 0 (fun fr H => ∃ X : List Dset, Loose X ∧ H = [] ∧ fr = frS l how at' nx ii tt q L X) Q m m' .normal fr H := by
 refine QCut_go ⟨X, hX, rfl, rfl⟩ ((Wk_tops h).trans (Wk_froz 1 (X.map pdset) (by rw [cellsD]; exact hat) ?_))
 have hz : frz 1 (X.map pdset) (.own 1 5 0 n n) = asets X := frz_row 1 _ _ hn
 have f1 : ∀ rows, frz 1 (X.map pdset) (.fz rows) = .fz rows := fun _ => rfl
 have f2 : ∀ k n, frz 1 (X.map pdset) (.int k n) = .int k n := fun _ _ => rfl
 have f3 : ∀ b, frz 1 (X.map pdset) (.bool b) = .bool b := fun _ => rfl
 have f4 : frz 1 (X.map pdset) .top = .top := rfl
 simp only [frS, frzL, hz, f1, f2, f3, f4, asets, renL, ren, tp]
set_option maxRecDepth 10000 in
set_option maxHeartbeats 8000000 in
theorem setsAll_spec (l : List UInt8) (how : Int) (hh : 0 ≤ how ∧ how ≤ 255) (at' : Int) (ha : 0 ≤ at' ∧ at' ≤ 255) (nx : Int) (_ : IntKind.i64.min ≤ nx ∧ nx ≤ IntKind.i64.max) (ii : Int) (_ : IntKind.i64.min ≤ ii ∧ ii ≤ IntKind.i64.max) (tt : Int) (_ : IntKind.i64.min ≤ tt ∧ tt ≤ IntKind.i64.max) (q : Int) (_ : IntKind.i64.min ≤ q ∧ q ≤ IntKind.i64.max) :
 C Tryz.prog 8 [.fz (l.map pbyte), .int .u8 how, .int .u8 at', .int .i64 nx, .int .i64 ii, .int .i64 tt, .int .i64 q] [] (fun x _ => x = .bool true) := by
 refine C_body d8 rfl ?_
 delta c8 I0 I1 I2 I3 I4 I5 I6 I7 I8 I9 KI
 refine W_stp ?_
 simp only [wk5, wk4, wk3, wk, iaddrV_map, Nat.reduceAdd, Nat.reduceSub, Nat.reduceMul, Nat.reduceLeDiff, Nat.reduceEqDiff, Nat.reduceBEq, Int.reduceLE, Int.reduceLT, Int.reduceEq, Int.reduceNe, Int.reduceAdd, Int.reduceSub, Int.reduceToNat, Int.reduceNeg, ↓reduceIte, reduceCtorEq]
 refine QStp_go (W_stp ?_)
 simp only [wk5, wk4, wk3, wk, iaddrV_map, Nat.reduceAdd, Nat.reduceSub, Nat.reduceMul, Nat.reduceLeDiff, Nat.reduceEqDiff, Nat.reduceBEq, Int.reduceLE, Int.reduceLT, Int.reduceEq, Int.reduceNe, Int.reduceAdd, Int.reduceSub, Int.reduceToNat, Int.reduceNeg, ↓reduceIte, reduceCtorEq]
 refine CT_ok (Memo.any m100_so []) ?_
 rintro _ _ ⟨rfl, rfl⟩
 simp only [m100, wk5, wk4, wk3, wk, iaddrV_map, Nat.reduceAdd, Nat.reduceSub, Nat.reduceMul, Nat.reduceLeDiff, Nat.reduceEqDiff, Nat.reduceBEq, Int.reduceLE, Int.reduceLT, Int.reduceEq, Int.reduceNe, Int.reduceAdd, Int.reduceSub, Int.reduceToNat, Int.reduceNeg, ↓reduceIte, reduceCtorEq]
 refine QStp_go (W_stp ?_)
 simp only [wk5, wk4, wk3, wk, iaddrV_map, Nat.reduceAdd, Nat.reduceSub, Nat.reduceMul, Nat.reduceLeDiff, Nat.reduceEqDiff, Nat.reduceBEq, Int.reduceLE, Int.reduceLT, Int.reduceEq, Int.reduceNe, Int.reduceAdd, Int.reduceSub, Int.reduceToNat, Int.reduceNeg, ↓reduceIte, reduceCtorEq]
 by_cases h1 : (80 : Int) < l.length
 ·simp only [h1, wk5, wk4, wk3, wk, iaddrV_map, Nat.reduceAdd, Nat.reduceSub, Nat.reduceMul, Nat.reduceLeDiff, Nat.reduceEqDiff, Nat.reduceBEq, Int.reduceLE, Int.reduceLT, Int.reduceEq, Int.reduceNe, Int.reduceAdd, Int.reduceSub, Int.reduceToNat, Int.reduceNeg, ↓reduceIte, reduceCtorEq]
 simp only [h1, wk5, wk4, wk3, wk, iaddrV_map, Nat.reduceAdd, Nat.reduceSub, Nat.reduceMul, Nat.reduceLeDiff, Nat.reduceEqDiff, Nat.reduceBEq, Int.reduceLE, Int.reduceLT, Int.reduceEq, Int.reduceNe, Int.reduceAdd, Int.reduceSub, Int.reduceToNat, Int.reduceNeg, ↓reduceIte, reduceCtorEq]
 refine QStp_go (W_stp ?_)
 simp only [wk5, wk4, wk3, wk, iaddrV_map, Nat.reduceAdd, Nat.reduceSub, Nat.reduceMul, Nat.reduceLeDiff, Nat.reduceEqDiff, Nat.reduceBEq, Int.reduceLE, Int.reduceLT, Int.reduceEq, Int.reduceNe, Int.reduceAdd, Int.reduceSub, Int.reduceToNat, Int.reduceNeg, ↓reduceIte, reduceCtorEq]
 refine CT_ok (made_spec l) ?_
 rintro _ _ ⟨rfl, rfl⟩
 simp only [wk5, wk4, wk3, wk, iaddrV_map, Nat.reduceAdd, Nat.reduceSub, Nat.reduceMul, Nat.reduceLeDiff, Nat.reduceEqDiff, Nat.reduceBEq, Int.reduceLE, Int.reduceLT, Int.reduceEq, Int.reduceNe, Int.reduceAdd, Int.reduceSub, Int.reduceToNat, Int.reduceNeg, ↓reduceIte, reduceCtorEq]
 refine CT_ok (sets14 l 0 25 (by omega) (by omega) (by omega)) ?_
 rintro _ _ ⟨L, n0, hL, hne0, _, rfl, rfl⟩
 have hpos : 0 < L.length := List.length_pos_iff.2 hne0
 have hlen0 := hL.len
 simp only [picksH, wk5, wk4, wk3, wk, iaddrV_map, Nat.reduceAdd, Nat.reduceSub, Nat.reduceMul, Nat.reduceLeDiff, Nat.reduceEqDiff, Nat.reduceBEq, Int.reduceLE, Int.reduceLT, Int.reduceEq, Int.reduceNe, Int.reduceAdd, Int.reduceSub, Int.reduceToNat, Int.reduceNeg, ↓reduceIte, reduceCtorEq]
 refine QStp_go (W_stp ?_)
 simp only [lay, wk5, wk4, wk3, wk, iaddrV_map, Nat.reduceAdd, Nat.reduceSub, Nat.reduceMul, Nat.reduceLeDiff, Nat.reduceEqDiff, Nat.reduceBEq, Int.reduceLE, Int.reduceLT, Int.reduceEq, Int.reduceNe, Int.reduceAdd, Int.reduceSub, Int.reduceToNat, Int.reduceNeg, ↓reduceIte, reduceCtorEq]
 refine CT_ok (may33 L hL.loose _) ?_
 rintro _ _ ⟨⟨b, rfl, hb⟩, rfl⟩
 obtain rfl : b = true := hb.2 hL
 simp only [lay, wk5, wk4, wk3, wk, iaddrV_map, Nat.reduceAdd, Nat.reduceSub, Nat.reduceMul, Nat.reduceLeDiff, Nat.reduceEqDiff, Nat.reduceBEq, Int.reduceLE, Int.reduceLT, Int.reduceEq, Int.reduceNe, Int.reduceAdd, Int.reduceSub, Int.reduceToNat, Int.reduceNeg, ↓reduceIte, reduceCtorEq]
 refine QStp_go (W_stp ?_)
 simp only [asets, cellsD, rows5D, List.length_map, lay, wk5, wk4, wk3, wk, iaddrV_map, Nat.reduceAdd, Nat.reduceSub, Nat.reduceMul, Nat.reduceLeDiff, Nat.reduceEqDiff, Nat.reduceBEq, Int.reduceLE, Int.reduceLT, Int.reduceEq, Int.reduceNe, Int.reduceAdd, Int.reduceSub, Int.reduceToNat, Int.reduceNeg, ↓reduceIte, reduceCtorEq]
 refine ⟨⟨by omega, by omega⟩, ?_⟩
 refine QStp_go (W_stp ?_)
 have wn : IntKind.i64.wrap at' = at' := IntWalk.i64_in _ (by omega)
 obtain ⟨k, hk, hkl⟩ := pick_index ha.1 hpos
 have k0 : (0 : Int) ≤ k := by omega
 have k1 : (k : Int) < L.length := by omega
 have kz : ¬ (L.length : Int) = 0 := by omega
 have hck := cell_at hkl
 have hcw := (hL.each _ (dgetD_mem hkl)).files
 have hset := set_cellD L k
 have hsl : ∀ c' : Dset, L.length = (L.set k c').length := fun c' => List.length_set.symm
 have hlo := fun c' h => loose_set hL k c' h
 generalize L.getD k default = c at hck hcw
 simp only [wn, hk, kz, k0, k1, Int.toNat_natCast, lay, wk5, wk4, wk3, wk, iaddrV_map, Nat.reduceAdd, Nat.reduceSub, Nat.reduceMul, Nat.reduceLeDiff, Nat.reduceEqDiff, Nat.reduceBEq, Int.reduceLE, Int.reduceLT, Int.reduceEq, Int.reduceNe, Int.reduceAdd, Int.reduceSub, Int.reduceToNat, Int.reduceNeg, ↓reduceIte, reduceCtorEq]
 have hw0 := Int.tmod_nonneg 8 hh.1
 have hw8 := Int.tmod_lt_of_pos how (show (0 : Int) < 8 by omega)
 obtain ⟨w, hw⟩ : ∃ w, how.tmod 8 = w := ⟨_, rfl⟩
 rw [hw] at hw0 hw8
 have hd0 : 0 ≤ how.tdiv 8 := Int.tdiv_nonneg hh.1 (by omega)
 have hdv : how.tdiv 8 = how / 8 := Int.tdiv_eq_ediv_of_nonneg hh.1
 have w8 : IntKind.u8.wrap (how.tdiv 8) = how.tdiv 8 := IntWalk.u8_in _ (by omega)
 have w4 : IntKind.i64.wrap ((how.tdiv 8).tmod 4) = (how.tdiv 8).tmod 4 := by have h1 := Int.tmod_nonneg 4 hd0; have h2 := Int.tmod_lt_of_pos (how.tdiv 8) (show (0 : Int) < 4 by omega); exact IntWalk.i64_in _ (by omega)
 have w10 : IntKind.i64.wrap ((how.tdiv 8).tmod 10) = (how.tdiv 8).tmod 10 := by have h1 := Int.tmod_nonneg 10 hd0; have h2 := Int.tmod_lt_of_pos (how.tdiv 8) (show (0 : Int) < 10 by omega); exact IntWalk.i64_in _ (by omega)
 refine QStp_go (W_cut (fun fr H => ∃ X : List Dset, Loose X ∧ H = [] ∧ fr = frS l how at' nx ii tt q L X) ?_ ?_)
 ·simp only [hw, lay, wk5, wk4, wk3, wk, iaddrV_map, Nat.reduceAdd, Nat.reduceSub, Nat.reduceMul, Nat.reduceLeDiff, Nat.reduceEqDiff, Nat.reduceBEq, Int.reduceLE, Int.reduceLT, Int.reduceEq, Int.reduceNe, Int.reduceAdd, Int.reduceSub, Int.reduceToNat, Int.reduceNeg, ↓reduceIte, reduceCtorEq]
  have hcase : w = 0 ∨ w = 1 ∨ w = 2 ∨ w = 3 ∨ w = 4 ∨ w = 5 ∨ w = 6 ∨ w = 7 := by omega
  rcases hcase with rfl | rfl | rfl | rfl | rfl | rfl | rfl | rfl
  ·simp only [hck, cellD, aset, lay, wk5, wk4, wk3, wk, iaddrV_map, Nat.reduceAdd, Nat.reduceSub, Nat.reduceMul, Nat.reduceLeDiff, Nat.reduceEqDiff, Nat.reduceBEq, Int.reduceLE, Int.reduceLT, Int.reduceEq, Int.reduceNe, Int.reduceAdd, Int.reduceSub, Int.reduceToNat, Int.reduceNeg, ↓reduceIte, reduceCtorEq]
   refine turn_go l how at' nx ii tt q L (L.set k { c with id := ii }) L.length (hlo _ (.inl hcw)) (hsl _) (by rw [← hset]; rfl) ?_
   simp only [asets, tp]
  ·simp only [w8, w4, hck, cellD, aset, lay, wk5, wk4, wk3, wk, iaddrV_map, Nat.reduceAdd, Nat.reduceSub, Nat.reduceMul, Nat.reduceLeDiff, Nat.reduceEqDiff, Nat.reduceBEq, Int.reduceLE, Int.reduceLT, Int.reduceEq, Int.reduceNe, Int.reduceAdd, Int.reduceSub, Int.reduceToNat, Int.reduceNeg, ↓reduceIte, reduceCtorEq]
   refine turn_go l how at' nx ii tt q L (L.set k { c with kind := (how.tdiv 8).tmod 4 }) L.length (hlo _ (.inl hcw)) (hsl _) (by rw [← hset]; rfl) ?_
   simp only [asets, tp]
  ·simp only [w8, w10, hck, cellD, aset, lay, wk5, wk4, wk3, wk, iaddrV_map, Nat.reduceAdd, Nat.reduceSub, Nat.reduceMul, Nat.reduceLeDiff, Nat.reduceEqDiff, Nat.reduceBEq, Int.reduceLE, Int.reduceLT, Int.reduceEq, Int.reduceNe, Int.reduceAdd, Int.reduceSub, Int.reduceToNat, Int.reduceNeg, ↓reduceIte, reduceCtorEq]
   refine turn_go l how at' nx ii tt q L (L.set k { c with origin := (how.tdiv 8).tmod 10 }) L.length (hlo _ (.inl hcw)) (hsl _) (by rw [← hset]; rfl) ?_
   simp only [asets, tp]
  ·simp only [hck, cellD, aset, lay, wk5, wk4, wk3, wk, iaddrV_map, Nat.reduceAdd, Nat.reduceSub, Nat.reduceMul, Nat.reduceLeDiff, Nat.reduceEqDiff, Nat.reduceBEq, Int.reduceLE, Int.reduceLT, Int.reduceEq, Int.reduceNe, Int.reduceAdd, Int.reduceSub, Int.reduceToNat, Int.reduceNeg, ↓reduceIte, reduceCtorEq]
   refine turn_go l how at' nx ii tt q L (L.set k { c with quota := q }) L.length (hlo _ (.inl hcw)) (hsl _) (by rw [← hset]; rfl) ?_
   simp only [asets, tp]
  ·simp only [hck, cellD, aset, lay, wk5, wk4, wk3, wk, iaddrV_map, Nat.reduceAdd, Nat.reduceSub, Nat.reduceMul, Nat.reduceLeDiff, Nat.reduceEqDiff, Nat.reduceBEq, Int.reduceLE, Int.reduceLT, Int.reduceEq, Int.reduceNe, Int.reduceAdd, Int.reduceSub, Int.reduceToNat, Int.reduceNeg, ↓reduceIte, reduceCtorEq]
   refine QCut_wk (Wk_row 1 (o := (L.map cellD).set k [.int .i64 c.id, .int .i64 c.kind, .int .i64 c.origin, .int .i64 c.quota, .emp]) (o' := (L.set k { c with files := [] }).map cellD) rfl ?_ ?_) ?_
   ·rw [List.length_map, List.length_set, List.length_set, List.length_map]
   ·intro x e' he'
    rw [← hset] at he'
    rw [List.getElem?_set] at he'
    by_cases hx : k = x
    ·subst hx
     rw [if_pos rfl] at he'
     rw [if_pos (by rw [List.length_map]; exact hkl)] at he'
     cases he'
     refine ⟨[.int .i64 c.id, .int .i64 c.kind, .int .i64 c.origin, .int .i64 c.quota, .emp], by rw [List.getElem?_set, if_pos rfl, if_pos (by rw [List.length_map]; exact hkl)], rfl, fun y c' hc' => ?_⟩
     rcases y with _ | _ | _ | _ | _ | y
     ·exact ⟨_, rfl, by cases hc'; exact fun _ _ h => h⟩
     ·exact ⟨_, rfl, by cases hc'; exact fun _ _ h => h⟩
     ·exact ⟨_, rfl, by cases hc'; exact fun _ _ h => h⟩
     ·exact ⟨_, rfl, by cases hc'; exact fun _ _ h => h⟩
     ·exact ⟨_, rfl, by cases hc'; exact fun _ _ h => rep_emp_fz h⟩
     ·cases hc'
    ·rw [if_neg hx] at he'
     exact ⟨e', by rw [List.getElem?_set, if_neg hx]; exact he', rfl, fun y c' hc' => ⟨c', hc', fun _ _ h => h⟩⟩
   refine turn_go l how at' nx ii tt q L (L.set k { c with files := [] }) L.length (hlo _ (.inr rfl)) (hsl _) rfl ?_
   simp only [asets, tp]
  ·simp only [hck, lay, wk5, wk4, wk3, wk, iaddrV_map, Nat.reduceAdd, Nat.reduceSub, Nat.reduceMul, Nat.reduceLeDiff, Nat.reduceEqDiff, Nat.reduceBEq, Int.reduceLE, Int.reduceLT, Int.reduceEq, Int.reduceNe, Int.reduceAdd, Int.reduceSub, Int.reduceToNat, Int.reduceNeg, ↓reduceIte, reduceCtorEq]
   refine CT_ok (newL _) ?_
   rintro _ _ ⟨rfl, rfl⟩
   simp only [aset, lay, wk5, wk4, wk3, wk, iaddrV_map, Nat.reduceAdd, Nat.reduceSub, Nat.reduceMul, Nat.reduceLeDiff, Nat.reduceEqDiff, Nat.reduceBEq, Int.reduceLE, Int.reduceLT, Int.reduceEq, Int.reduceNe, Int.reduceAdd, Int.reduceSub, Int.reduceToNat, Int.reduceNeg, ↓reduceIte, reduceCtorEq]
   refine ⟨⟨by omega, by omega⟩, ?_⟩
   refine turn_go l how at' nx ii tt q L (L ++ [⟨nx, 1, 0, 0, newA⟩]) (L.length + 1) ⟨by simp; omega, fun d hd => ?_⟩ (by simp) (by rw [List.map_append]; rfl) ?_
   ·rcases List.mem_append.1 hd with hd | hd
    ·exact .inl (hL.each d hd).files
    ·rw [List.mem_singleton] at hd; subst hd; exact .inl newA_wf
   simp only [asets, tp]
  ·simp only [hck, cellD, aset, lay, wk5, wk4, wk3, wk, iaddrV_map, Nat.reduceAdd, Nat.reduceSub, Nat.reduceMul, Nat.reduceLeDiff, Nat.reduceEqDiff, Nat.reduceBEq, Int.reduceLE, Int.reduceLT, Int.reduceEq, Int.reduceNe, Int.reduceAdd, Int.reduceSub, Int.reduceToNat, Int.reduceNeg, ↓reduceIte, reduceCtorEq]
   refine turn_go l how at' nx ii tt q L (L.set k { c with origin := tt }) L.length (hlo _ (.inl hcw)) (hsl _) (by rw [← hset]; rfl) ?_
   simp only [asets, tp]
  ·simp only [lay, wk5, wk4, wk3, wk, iaddrV_map, Nat.reduceAdd, Nat.reduceSub, Nat.reduceMul, Nat.reduceLeDiff, Nat.reduceEqDiff, Nat.reduceBEq, Int.reduceLE, Int.reduceLT, Int.reduceEq, Int.reduceNe, Int.reduceAdd, Int.reduceSub, Int.reduceToNat, Int.reduceNeg, ↓reduceIte, reduceCtorEq]
   refine turn_go l how at' nx ii tt q L L L.length hL.loose rfl rfl ?_
   simp only [asets, tp]
 rintro fr H ⟨X, hX, rfl, rfl⟩
 have hXs := hX.short
 refine W_stp ?_
 simp only [frS, asets, lay, wk5, wk4, wk3, wk, iaddrV_map, Nat.reduceAdd, Nat.reduceSub, Nat.reduceMul, Nat.reduceLeDiff, Nat.reduceEqDiff, Nat.reduceBEq, Int.reduceLE, Int.reduceLT, Int.reduceEq, Int.reduceNe, Int.reduceAdd, Int.reduceSub, Int.reduceToNat, Int.reduceNeg, ↓reduceIte, reduceCtorEq]
 refine CT_ok (may33 X hX _) ?_
 rintro _ _ ⟨⟨b1, rfl, hb1⟩, rfl⟩
 simp only [lay, wk5, wk4, wk3, wk, iaddrV_map, Nat.reduceAdd, Nat.reduceSub, Nat.reduceMul, Nat.reduceLeDiff, Nat.reduceEqDiff, Nat.reduceBEq, Int.reduceLE, Int.reduceLT, Int.reduceEq, Int.reduceNe, Int.reduceAdd, Int.reduceSub, Int.reduceToNat, Int.reduceNeg, ↓reduceIte, reduceCtorEq]
 refine CT_ok (mayG X hX _) ?_
 rintro _ _ ⟨⟨b2, rfl, hb2⟩, rfl⟩
 obtain rfl : b1 = b2 := by rw [Bool.eq_iff_iff, hb1, hb2]
 have hbb : (b1 == b1) = true := by cases b1 <;> rfl
 simp only [hbb, lay, wk5, wk4, wk3, wk, iaddrV_map, Nat.reduceAdd, Nat.reduceSub, Nat.reduceMul, Nat.reduceLeDiff, Nat.reduceEqDiff, Nat.reduceBEq, Int.reduceLE, Int.reduceLT, Int.reduceEq, Int.reduceNe, Int.reduceAdd, Int.reduceSub, Int.reduceToNat, Int.reduceNeg, ↓reduceIte, reduceCtorEq]
 refine CT_ok (same35 L X hL.short hXs _) ?_
 rintro _ _ ⟨rfl, rfl⟩
 simp only [lay, wk5, wk4, wk3, wk, iaddrV_map, Nat.reduceAdd, Nat.reduceSub, Nat.reduceMul, Nat.reduceLeDiff, Nat.reduceEqDiff, Nat.reduceBEq, Int.reduceLE, Int.reduceLT, Int.reduceEq, Int.reduceNe, Int.reduceAdd, Int.reduceSub, Int.reduceToNat, Int.reduceNeg, ↓reduceIte, reduceCtorEq]
 refine CT_ok (sameS L X hL.short hXs _) ?_
 rintro _ _ ⟨rfl, rfl⟩
 have hdd : (decide (L = X) == decide (L = X)) = true := by cases decide (L = X) <;> rfl
 simp only [hdd, lay, wk5, wk4, wk3, wk, iaddrV_map, Nat.reduceAdd, Nat.reduceSub, Nat.reduceMul, Nat.reduceLeDiff, Nat.reduceEqDiff, Nat.reduceBEq, Int.reduceLE, Int.reduceLT, Int.reduceEq, Int.reduceNe, Int.reduceAdd, Int.reduceSub, Int.reduceToNat, Int.reduceNeg, ↓reduceIte, reduceCtorEq]
 obtain ⟨ia, hia, hia9⟩ := pick_index ha.1 (m := 9) (by omega)
 obtain ⟨ih, hih, hih9⟩ := pick_index hh.1 (m := 9) (by omega)
 replace hia : at'.tmod 9 = ia := hia
 replace hih : how.tmod 9 = ih := hih
 have wa : IntKind.i64.wrap (ia : Int) = ia := IntWalk.i64_in _ (by omega)
 have wb : IntKind.i64.wrap (ih : Int) = ih := IntWalk.i64_in _ (by omega)
 have wa1 : IntKind.i64.wrap (1 + (ia : Int)) = 1 + (ia : Int) := IntWalk.i64_in _ (by omega)
 have wb1 : IntKind.i64.wrap (1 + (ih : Int)) = 1 + (ih : Int) := IntWalk.i64_in _ (by omega)
 refine QStp_go (W_stp ?_)
 simp only [hia, hih, wa, wb, wa1, wb1, lay, wk5, wk4, wk3, wk, iaddrV_map, Nat.reduceAdd, Nat.reduceSub, Nat.reduceMul, Nat.reduceLeDiff, Nat.reduceEqDiff, Nat.reduceBEq, Int.reduceLE, Int.reduceLT, Int.reduceEq, Int.reduceNe, Int.reduceAdd, Int.reduceSub, Int.reduceToNat, Int.reduceNeg, ↓reduceIte, reduceCtorEq]
 refine QStp_go (W_stp ?_)
 simp only [hia, hih, wa, wb, wa1, wb1, lay, wk5, wk4, wk3, wk, iaddrV_map, Nat.reduceAdd, Nat.reduceSub, Nat.reduceMul, Nat.reduceLeDiff, Nat.reduceEqDiff, Nat.reduceBEq, Int.reduceLE, Int.reduceLT, Int.reduceEq, Int.reduceNe, Int.reduceAdd, Int.reduceSub, Int.reduceToNat, Int.reduceNeg, ↓reduceIte, reduceCtorEq]
 refine QStp_go (W_stp ?_)
 simp only [lay, wk5, wk4, wk3, wk, iaddrV_map, Nat.reduceAdd, Nat.reduceSub, Nat.reduceMul, Nat.reduceLeDiff, Nat.reduceEqDiff, Nat.reduceBEq, Int.reduceLE, Int.reduceLT, Int.reduceEq, Int.reduceNe, Int.reduceAdd, Int.reduceSub, Int.reduceToNat, Int.reduceNeg, ↓reduceIte, reduceCtorEq]
 refine QStp_go (W_cut (fun fr H => H = [] ∧ fr = [.top, .top, .top, .top, .top, .top, .top, .top, .top, .top, .top, .top, .top, .top, .bool false] ++ List.replicate 135 .top) ?_ ?_)
 ·obtain ⟨v1, hv1, hl1⟩ : ∃ vs : List Int, (vs.map fun v => [AV.int .i64 v]) = [[.int .i64 ii], [.int .i64 (1 + (ia : Int))], [.int .i64 (1 + (ih : Int))], [.int .i64 2]] ∧ vs.length = 4 := ⟨[ii, 1 + (ia : Int), 1 + (ih : Int), 2], rfl, rfl⟩
  obtain ⟨v2, hv2, hl2⟩ : ∃ vs : List Int, (vs.map fun v => [AV.int .i64 v]) = [[.int .i64 tt], [.int .i64 (1 + (ih : Int))], [.int .i64 2], [.int .i64 (1 + (ia : Int))]] ∧ vs.length = 4 := ⟨[tt, 1 + (ih : Int), 2, 1 + (ia : Int)], rfl, rfl⟩
  obtain ⟨v3, hv3, hl3⟩ : ∃ vs : List Int, (vs.map fun v => [AV.int .i64 v]) = [[.int .i64 nx], [.int .i64 100], [.int .i64 9], [.int .i64 65536]] ∧ vs.length = 4 := ⟨[nx, 100, 9, 65536], rfl, rfl⟩
  simp only [lay, wk5, wk4, wk3, wk, iaddrV_map, Nat.reduceAdd, Nat.reduceSub, Nat.reduceMul, Nat.reduceLeDiff, Nat.reduceEqDiff, Nat.reduceBEq, Int.reduceLE, Int.reduceLT, Int.reduceEq, Int.reduceNe, Int.reduceAdd, Int.reduceSub, Int.reduceToNat, Int.reduceNeg, ↓reduceIte, reduceCtorEq]
  refine WT_loop (W_wk (fr' := [.fz (l.map pbyte), .int .u8 how, .int .u8 at', .int .i64 nx, .int .i64 ii, .int .i64 tt, .int .i64 q, .top, .top, .top, .top, .top, .top, .top, .bool false, asets L, .top, .top, .own 0 1 0 4 4, .own 1 1 0 4 4, .own 2 1 0 4 4, .int .i64 (0 : Nat)] ++ List.replicate 128 .top) (Wk_tops ?_) (W_loop (fun nn fr H' => ∃ k : Nat, k ≤ 4 ∧ nn = 4 - k ∧ H' = [some (v1.map fun v => [AV.int .i64 v]), some (v2.map fun v => [AV.int .i64 v]), some (v3.map fun v => [AV.int .i64 v])] ∧
   fr = [.fz (l.map pbyte), .int .u8 how, .int .u8 at', .int .i64 nx, .int .i64 ii, .int .i64 tt, .int .i64 q, .top, .top, .top, .top, .top, .top, .top, .bool false, asets L, .top, .top, .own 0 1 0 4 4, .own 1 1 0 4 4, .own 2 1 0 4 4, .int .i64 k] ++ List.replicate 128 .top) 4 ⟨0, by omega, rfl, by rw [hv1, hv2, hv3], rfl⟩ ?_))
  ·simp only [asets, tp, Int.natCast_zero]
  rintro nn fr H' ⟨k, hk, rfl, rfl, rfl⟩
  refine WT_ok ?_
  simp only [asets, lay, wk5, wk4, wk3, wk, iaddrV_map, Nat.reduceAdd, Nat.reduceSub, Nat.reduceMul, Nat.reduceLeDiff, Nat.reduceEqDiff, Nat.reduceBEq, Int.reduceLE, Int.reduceLT, Int.reduceEq, Int.reduceNe, Int.reduceAdd, Int.reduceSub, Int.reduceToNat, Int.reduceNeg, ↓reduceIte, reduceCtorEq]
  by_cases h5 : (k : Int) < 4
  ·have w4 : IntKind.i64.wrap ((k : Int) + 1) = (k : Int) + 1 := IntWalk.i64_in _ (by omega)
   have k0 : (0 : Int) ≤ k := by omega
   have h5' : (k : Int) < ((4 : Nat) : Int) := by omega
   have g1 : v1[k]? = some (v1[k]'(by omega)) := List.getElem?_eq_getElem (by omega)
   have g2 : v2[k]? = some (v2[k]'(by omega)) := List.getElem?_eq_getElem (by omega)
   have g3 : v3[k]? = some (v3[k]'(by omega)) := List.getElem?_eq_getElem (by omega)
   generalize v1[k]'(by omega) = x1 at g1
   generalize v2[k]'(by omega) = x2 at g2
   generalize v3[k]'(by omega) = x3 at g3
   simp only [h5, lay, wk5, wk4, wk3, wk, iaddrV_map, Nat.reduceAdd, Nat.reduceSub, Nat.reduceMul, Nat.reduceLeDiff, Nat.reduceEqDiff, Nat.reduceBEq, Int.reduceLE, Int.reduceLT, Int.reduceEq, Int.reduceNe, Int.reduceAdd, Int.reduceSub, Int.reduceToNat, Int.reduceNeg, ↓reduceIte, reduceCtorEq]
   refine WT_drawE ?_
   refine WDT_more 0 ?_
   simp only [h5', hl1, hl2, hl3, k0, g1, g2, g3, Int.toNat_natCast, lay, wk5, wk4, wk3, wk, iaddrV_map, Nat.reduceAdd, Nat.reduceSub, Nat.reduceMul, Nat.reduceLeDiff, Nat.reduceEqDiff, Nat.reduceBEq, Int.reduceLE, Int.reduceLT, Int.reduceEq, Int.reduceNe, Int.reduceAdd, Int.reduceSub, Int.reduceToNat, Int.reduceNeg, ↓reduceIte, reduceCtorEq]
   refine ⟨by rfl, ?_⟩
   refine CT_ok (alike36 L hL x1 x2 x3 q _) ?_
   rintro _ _ ⟨rfl, rfl⟩
   simp only [w4, lay, wk5, wk4, wk3, wk, iaddrV_map, Nat.reduceAdd, Nat.reduceSub, Nat.reduceMul, Nat.reduceLeDiff, Nat.reduceEqDiff, Nat.reduceBEq, Int.reduceLE, Int.reduceLT, Int.reduceEq, Int.reduceNe, Int.reduceAdd, Int.reduceSub, Int.reduceToNat, Int.reduceNeg, ↓reduceIte, reduceCtorEq]
   refine QLoop_go (n' := 4 - (k + 1)) (by omega) ⟨k + 1, by omega, rfl, rfl, rfl⟩ ?_
   simp only [asets, tq]
  ·simp only [h5, lay, wk5, wk4, wk3, wk, iaddrV_map, Nat.reduceAdd, Nat.reduceSub, Nat.reduceMul, Nat.reduceLeDiff, Nat.reduceEqDiff, Nat.reduceBEq, Int.reduceLE, Int.reduceLT, Int.reduceEq, Int.reduceNe, Int.reduceAdd, Int.reduceSub, Int.reduceToNat, Int.reduceNeg, ↓reduceIte, reduceCtorEq]
   refine QCut_go ⟨rfl, rfl⟩ (Wk_none ?_)
   simp only [renL, ren, tp]
 rintro fr H ⟨rfl, rfl⟩
 refine WT_ok ?_
 simp only [lay, wk5, wk4, wk3, wk, iaddrV_map, Nat.reduceAdd, Nat.reduceSub, Nat.reduceMul, Nat.reduceLeDiff, Nat.reduceEqDiff, Nat.reduceBEq, Int.reduceLE, Int.reduceLT, Int.reduceEq, Int.reduceNe, Int.reduceAdd, Int.reduceSub, Int.reduceToNat, Int.reduceNeg, ↓reduceIte, reduceCtorEq]
end Go.Proofs.YtemjlopoffjmpaaGreat.Abs
set_option linter.unusedSimpArgs false
set_option linter.unusedVariables false
namespace Go.Proofs.YtemjlopoffjmpaaGreat.Abs
open Go Go.Proofs
theorem rep_row {w : World} {a : Option Addr} {len cap : Nat} {zs : List Int}
 (h : (a = none ∧ len = 0 ∧ cap = 0 ∧ zs = []) ∨ ∃ x, a = some x ∧ len ≤ cap ∧ cap ≤ maxLen ∧ zs.length = cap ∧ (∀ i, i < zs.length → w.cell? (x.add i) = some (.int .u8 (zs.getD i 0))) ∧ ∀ n ∈ zs, (Lit.int .u8 n).wf = true) :
 ∃ l : List UInt8, Rep (E0 w) (.fz (l.map pbyte)) (.slice a len cap) := by
 rcases h with ⟨rfl, rfl, rfl, rfl⟩ | ⟨x, rfl, hl, hm, hz, hcell, hwf⟩
 ·exact ⟨[], .pure (x := .fz []) (.fz0 _ _)⟩
 ·by_cases h0 : len = 0
  ·subst h0
   exact ⟨[], .pure (x := .fz []) (.fz0 _ _)⟩
  ·have hc0 := hcell 0 (by omega)
   obtain ⟨b, off, spot⟩ := x
   simp only [Addr.add, if_true, World.cell?] at hc0
   cases hb : w.heap[b]? with
   | none => rw [hb] at hc0; cases hc0
   | some o =>
     rw [hb] at hc0
     cases o with
     | cells c t q =>
       simp only at hc0
       split at hc0
       ·cases hc0
       ·rename_i hsp
        have hsp2 : spot = none := by cases spot with
         | none => rfl
         | some _ => simp at hsp
        subst hsp2
        have hci : ∀ i, i < zs.length → c[off + i]? = some (.int .u8 (zs.getD i 0)) := by
         intro i hi
         have := hcell i hi
         unfold Addr.add at this
         split at this
         ·rename_i e; subst e; simpa [World.cell?, hb] using this
         ·simpa [World.cell?, hb] using this
        refine ⟨(zs.take len).map fun n => UInt8.ofNat n.toNat, ?_⟩
        have hlen : (((zs.take len).map fun n => UInt8.ofNat n.toNat).map pbyte).length = len := by simp; omega
        have key := RepP.fz (F := (E0 w).F) (((zs.take len).map fun n => UInt8.ofNat n.toNat).map pbyte) b off cap 1 c t q hb (by rw [hlen]; exact hl) (by
         intro e he
         obtain ⟨y, _, rfl⟩ := List.mem_map.1 he
         rfl) (by
         rw [hlen]
         have h1 := hci (len - 1) (by omega)
         have : off + (len - 1) < c.size := by
          apply Classical.byContradiction
          intro h
          rw [Array.getElem?_eq_none (by omega)] at h1
          cases h1
         omega) (by
         intro i e k cc v he hk hv
         rw [List.map_map, List.getElem?_map] at he
         have hi : i < (zs.take len).length := by
          apply Classical.byContradiction
          intro h
          rw [List.getElem?_eq_none (by omega)] at he
          cases he
         rw [List.getElem?_eq_getElem hi] at he
         simp only [Option.map_some, Option.some.injEq, Function.comp] at he
         subst he
         have hk0 : k = 0 := by
          apply Classical.byContradiction
          intro h
          rw [List.getElem?_eq_none (by simp [pbyte]; omega)] at hk
          cases hk
         subst hk0
         simp only [pbyte, List.getElem?_cons_zero, Option.some.injEq] at hk
         subst hk
         rw [List.length_take] at hi
         rw [Nat.mul_one, Nat.add_zero, hci i (by omega)] at hv
         cases hv
         have hg : zs.getD i 0 = (zs.take len)[i]'(by rw [List.length_take]; exact hi) := by
          rw [List.getElem_take, List.getD_eq_getElem?_getD, List.getElem?_eq_getElem (by omega), Option.getD_some]
         rw [hg]
         have hw := hwf ((zs.take len)[i]'(by rw [List.length_take]; exact hi)) (List.mem_of_mem_take (List.getElem_mem _))
         generalize (zs.take len)[i]'(by rw [List.length_take]; exact hi) = n at hw
         have hn : 0 ≤ n ∧ n < 256 := by
          have := hw; simp [Lit.wf, IntKind.min, IntKind.max, IntKind.bits, IntKind.signed] at this; omega
         have : ((UInt8.ofNat n.toNat).toNat : Int) = n := by
          rw [UInt8.toNat_ofNat']
          omega
         rw [this]
         exact .int _ _)
        rw [hlen] at key
        exact .pure (x := .fz _) key
     | _ => simp at hc0
theorem repL_one {E : Env} {x : AV} {v : Value} (h : Rep E x v) : RepL E [x] #[v] := by
 refine ⟨rfl, fun i c u hc hu => ?_⟩
 match i, hc, hu with
 | 0, hc, hu => simp at hc hu; subst hc; subst hu; exact h
 | i + 1, hc, _ => simp at hc
end Go.Proofs.YtemjlopoffjmpaaGreat.Abs
