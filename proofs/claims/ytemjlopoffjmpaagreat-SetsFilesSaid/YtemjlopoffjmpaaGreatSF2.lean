/-
  Part 2 of the proof: no condition. (Parts of the abstract layer, of the program's functions in its form, and of their contracts.)
-/
import Derived.Test.YtemjlopoffjmpaaGreatSFWk
import Derived.Test.YtemjlopoffjmpaaGreatSFWk3
import Derived.Test.YtemjlopoffjmpaaGreatSF1
import Derived.Test.YtemjlopoffjmpaaGreatSFAbs38
import Derived.Test.YtemjlopoffjmpaaGreatSFAbs36
import Derived.Test.YtemjlopoffjmpaaGreatSFAbs39
import Derived.Test.YtemjlopoffjmpaaGreatSFAbs27
import Derived.Test.YtemjlopoffjmpaaGreatSFAbs22
import Derived.Test.YtemjlopoffjmpaaGreatProg
import Derived.KernelRfl
set_option linter.unusedSimpArgs false
set_option linter.unusedVariables false
namespace Go.Proofs.YtemjlopoffjmpaaGreat.Abs
open Go Go.Proofs
theorem Wk_empAt {n0 : Nat} {fr : List AV} {H : AH} (j sz : Nat) (h : fr[j]? = some .emp) : Wk n0 fr H (fr.set j (.own H.length sz 0 0 0)) (H ++ [some []]) := by
 intro E w vs hs hr
 refine ⟨E, LeN.refl _ _, hs.newEmpty, by rw [List.length_set]; exact hr.1, fun i c u hc hu => ?_⟩
 rw [List.getElem?_set] at hc
 by_cases hij : j = i
 ·subst hij
  rw [if_pos rfl] at hc
  split at hc
  ·cases hc
   obtain ⟨a, rfl⟩ := rep_emp (hr.2 j _ u h hu)
   exact .own0 _ _ _
  ·cases hc
 ·rw [if_neg hij] at hc
  exact hr.2 i c u hc hu
def kid (s : List Node) (n : Int) (i : Nat) : Prop := 1 ≤ i ∧ i < s.length ∧ ((s.getD i default).kind = 1 ∨ (s.getD i default).kind = 2) ∧ (s.getD i default).up = n
def cellI (i : Nat) : List AV := [.int .i64 i]
def pint (i : Nat) : List PV := [.int .i64 i]
theorem swap_mem (l : List Nat) (i j : Nat) (hi : i < l.length) (hj : j < l.length) (x : Nat) : x ∈ (l.set i (l.getD j 0)).set j (l.getD i 0) ↔ x ∈ l := by
 have gi : l.getD i 0 = l[i] := by rw [List.getD_eq_getElem?_getD, List.getElem?_eq_getElem hi]; rfl
 have gj : l.getD j 0 = l[j] := by rw [List.getD_eq_getElem?_getD, List.getElem?_eq_getElem hj]; rfl
 rw [gi, gj]
 simp only [List.mem_iff_getElem?, List.getElem?_set, List.length_set]
 constructor
 ·rintro ⟨k, hk⟩
  by_cases h1 : j = k
  ·subst h1
   rw [if_pos rfl, if_pos (by omega)] at hk
   exact ⟨i, by rw [← hk]; exact List.getElem?_eq_getElem hi⟩
  ·rw [if_neg h1] at hk
   by_cases h2 : i = k
   ·subst h2
    rw [if_pos rfl, if_pos hi] at hk
    exact ⟨j, by rw [← hk]; exact List.getElem?_eq_getElem hj⟩
   ·rw [if_neg h2] at hk
    exact ⟨k, hk⟩
 ·rintro ⟨k, hk⟩
  by_cases h1 : k = i
  ·subst h1
   refine ⟨j, ?_⟩
   rw [if_pos rfl, if_pos (by omega)]
   rw [List.getElem?_eq_getElem hi] at hk
   exact hk
  ·by_cases h2 : k = j
   ·subst h2
    refine ⟨i, ?_⟩
    rw [List.getElem?_eq_getElem hj] at hk
    rw [if_neg h1, if_pos rfl, if_pos hi]
    exact hk
   ·exact ⟨k, by rw [if_neg (Ne.symm h2), if_neg (Ne.symm h1)]; exact hk⟩
theorem iaddr_node (H : AH) (s : List Node) (k : IntKind) (n : Int) : iaddrV H 5 (.fz (s.map pnode)) (.int k n) = if 0 ≤ n ∧ n < s.length then some (.fptr (pnode (s.getD n.toNat default))) else none := by
 rw [iaddrV_map]
 have : (pnode (s.getD n.toNat default)).length = 5 := rfl
 simp only [this, and_true]
theorem set_cell (l : List Nat) (i x : Nat) : (List.map cellI l).set i [AV.int .i64 (x : Int)] = (l.set i x).map cellI := by rw [List.map_set]; rfl
theorem Wk_ints {fr fr' : List AV} {l : List Nat} {G : AH} (h : Tops fr' (renL (upTo 1) fr)) : Wk 0 fr (some (l.map cellI) :: G) fr' [some (l.map cellI)] := by
 have h1 := (Wk_forget (n0 := 0) (fr := fr) (H := some (l.map cellI) :: G) 1 (Nat.zero_le _)).trans (Wk_tops h)
 have e : mapH (renL (upTo 1)) ((some (l.map cellI) :: G).take 1) = [some (l.map cellI)] := by
  simp only [List.take_succ_cons, List.take_zero, mapH, List.map_cons, List.map_nil, Option.map_some, List.map_map]
  congr 2
 rwa [e] at h1
theorem kids_spec0 (s : List Node) (hs : s.length ≤ 1000000) (n : Int) :
 C Tryz.prog 111 [aset s, .int .i64 n] [] (fun x H' => ∃ l : List Nat, x = .fz (l.map pint) ∧ (∀ i, i ∈ l ↔ kid s n i) ∧ l.length ≤ s.length ∧ H' = []) := by
 refine C_body' d111 rfl (WT_ok ?_)
 unfold c111
 simp only [aset, iaddr_node, pnode, wk3, wk, Nat.reduceAdd, Nat.reduceSub, Nat.reduceMul, Nat.reduceLeDiff, Nat.reduceEqDiff, Nat.reduceBEq, Int.reduceLE, Int.reduceLT, Int.reduceEq, Int.reduceNe, Int.reduceAdd, Int.reduceSub, Int.reduceToNat, Int.reduceNeg, ↓reduceIte, reduceCtorEq]
 refine WT_loop (W_wk (Wk_empAt 5 1 rfl) (W_loop (fun nn fr H' => ∃ (i : Nat) (l : List Nat), 1 ≤ i ∧ (i ≤ s.length ∨ i = 1) ∧ nn = s.length - i ∧ (∀ j, j ∈ l ↔ kid s n j ∧ j < i) ∧ l.length < i ∧ H' = [some (l.map cellI)] ∧
  fr = [.fz (s.map pnode), .int .i64 n, .top, .top, .emp, .own 0 1 0 l.length l.length, .int .i64 i, .top] ++ List.replicate 73 .top) (s.length - 1) ⟨1, [], by omega, by omega, rfl, by simp [kid]; omega, by simp, rfl, rfl⟩ ?_))
 rintro nn fr H' ⟨i, l, hi1, hi, rfl, hmem, hll, rfl, rfl⟩
 refine WT_ok ?_
 simp only [iaddr_node, pnode, wk3, wk, Nat.reduceAdd, Nat.reduceSub, Nat.reduceMul, Nat.reduceLeDiff, Nat.reduceEqDiff, Nat.reduceBEq, Int.reduceLE, Int.reduceLT, Int.reduceEq, Int.reduceNe, Int.reduceAdd, Int.reduceSub, Int.reduceToNat, Int.reduceNeg, ↓reduceIte, reduceCtorEq]
 refine guard_both ?_ ?_ <;> intro h <;> simp only [hy] at h
 ·have hil : i < s.length := by omega
  have h0 : (0 : Int) ≤ i := by omega
  have w2 : IntKind.i64.wrap ((i : Int) + 1) = (i : Int) + 1 := IntWalk.i64_in _ (by omega)
  simp only [h0, h, iaddr_node, pnode, wk3, wk, Nat.reduceAdd, Nat.reduceSub, Nat.reduceMul, Nat.reduceLeDiff, Nat.reduceEqDiff, Nat.reduceBEq, Int.reduceLE, Int.reduceLT, Int.reduceEq, Int.reduceNe, Int.reduceAdd, Int.reduceSub, Int.reduceToNat, Int.reduceNeg, ↓reduceIte, reduceCtorEq]
  by_cases hk : kid s n i
  ·have hup : (s.getD i default).up = n := hk.2.2.2
   rcases hk.2.2.1 with h1 | h1 <;> simp only [h0, h, h1, hup, iaddr_node, pnode, wk3, wk, Nat.reduceAdd, Nat.reduceSub, Nat.reduceMul, Nat.reduceLeDiff, Nat.reduceEqDiff, Nat.reduceBEq, Int.reduceLE, Int.reduceLT, Int.reduceEq, Int.reduceNe, Int.reduceAdd, Int.reduceSub, Int.reduceToNat, Int.reduceNeg, ↓reduceIte, reduceCtorEq]
   all_goals
    have e : List.map cellI l ++ [[AV.int .i64 (i : Int)]] = (l ++ [i]).map cellI := by simp [cellI]
    have hmem2 : ∀ j, j ∈ l ++ [i] ↔ kid s n j ∧ j < i + 1 := by
     intro j
     rw [List.mem_append, hmem, List.mem_singleton]
     constructor
     ·rintro (⟨a, b⟩ | rfl)
      ·exact ⟨a, by omega⟩
      ·exact ⟨hk, by omega⟩
     ·rintro ⟨a, b⟩
      rcases Nat.lt_or_ge j i with h' | h'
      ·exact .inl ⟨a, h'⟩
      ·exact .inr (by omega)
    rw [e]
    refine ⟨⟨by omega, by omega⟩, ?_⟩
    refine WT_loop (W_wk (Wk_ints (fr' := [.fz (s.map pnode), .int .i64 n, .top, .top, .emp, .own 0 1 0 (l.length + 1) (l.length + 1), .int .i64 i, .int .i64 l.length] ++ List.replicate 73 .top) ?_) (W_loop (fun nn fr H' => ∃ (k : Nat) (l' : List Nat), k < l'.length ∧ l'.length = l.length + 1 ∧ nn = k ∧ (∀ j, j ∈ l' ↔ kid s n j ∧ j < i + 1) ∧ H' = [some (l'.map cellI)] ∧
     fr = [.fz (s.map pnode), .int .i64 n, .top, .top, .emp, .own 0 1 0 (l.length + 1) (l.length + 1), .int .i64 i, .int .i64 k] ++ List.replicate 73 .top) l.length ⟨l.length, l ++ [i], by simp, by simp, rfl, hmem2, rfl, rfl⟩ ?_))
    ·simp only [List.replicate_succ, List.replicate_zero, List.cons_append, List.nil_append, renL, ren, upTo, Nat.zero_lt_one, if_true, Tops_top, Tops_same, Tops_nil]
    rintro k fr H' ⟨_, l', hkl, hl', rfl, hm', rfl, rfl⟩
    refine WT_ok ?_
    simp only [iaddr_node, pnode, wk3, wk, Nat.reduceAdd, Nat.reduceSub, Nat.reduceMul, Nat.reduceLeDiff, Nat.reduceEqDiff, Nat.reduceBEq, Int.reduceLE, Int.reduceLT, Int.reduceEq, Int.reduceNe, Int.reduceAdd, Int.reduceSub, Int.reduceToNat, Int.reduceNeg, ↓reduceIte, reduceCtorEq]
    refine WT_draw ?_
    simp only [iaddr_node, pnode, wk3, wk, Nat.reduceAdd, Nat.reduceSub, Nat.reduceMul, Nat.reduceLeDiff, Nat.reduceEqDiff, Nat.reduceBEq, Int.reduceLE, Int.reduceLT, Int.reduceEq, Int.reduceNe, Int.reduceAdd, Int.reduceSub, Int.reduceToNat, Int.reduceNeg, ↓reduceIte, reduceCtorEq]
    refine guard_both ?_ ?_ <;> intro hk0 <;> simp only [hy] at hk0
    ·have hkp : 0 < k := by omega
     have hx := List.getElem?_eq_getElem (show k - 1 < l'.length by omega)
     have hy := List.getElem?_eq_getElem (show k < l'.length by omega)
     have hkx := (hm' l'[k - 1]).1 (List.getElem_mem _)
     generalize l'[k - 1] = xx at hx hkx
     generalize l'[k] = yy at hy
     have hxr := hkx.1.2.1
     have wk1 : IntKind.i64.wrap ((k : Int) - 1) = ((k - 1 : Nat) : Int) := by rw [IntWalk.i64_in _ (by omega)]; omega
     simp only [hk0, h0, h, hl', hx, wk1, cellI, iaddr_node, pnode, wk3, wk, Nat.reduceAdd, Nat.reduceSub, Nat.reduceMul, Nat.reduceLeDiff, Nat.reduceEqDiff, Nat.reduceBEq, Int.reduceLE, Int.reduceLT, Int.reduceEq, Int.reduceNe, Int.reduceAdd, Int.reduceSub, Int.reduceToNat, Int.reduceNeg, ↓reduceIte, reduceCtorEq]
     refine ⟨⟨by omega, by omega⟩, ⟨by omega, by omega⟩, ?_⟩
     refine guard_both ?_ ?_ <;> intro hb
     ·simp only [hb, iaddr_node, pnode, wk3, wk, Nat.reduceAdd, Nat.reduceSub, Nat.reduceMul, Nat.reduceLeDiff, Nat.reduceEqDiff, Nat.reduceBEq, Int.reduceLE, Int.reduceLT, Int.reduceEq, Int.reduceNe, Int.reduceAdd, Int.reduceSub, Int.reduceToNat, Int.reduceNeg, ↓reduceIte, reduceCtorEq]
      refine WT_drawE ?_
      refine WDT_more 0 ?_
      simp only [hl', hx, hy, wk1, cellI, iaddr_node, pnode, wk3, wk, Nat.reduceAdd, Nat.reduceSub, Nat.reduceMul, Nat.reduceLeDiff, Nat.reduceEqDiff, Nat.reduceBEq, Int.reduceLE, Int.reduceLT, Int.reduceEq, Int.reduceNe, Int.reduceAdd, Int.reduceSub, Int.reduceToNat, Int.reduceNeg, ↓reduceIte, reduceCtorEq]
      refine ⟨⟨by omega, by omega⟩, ⟨by omega, by omega⟩, ⟨by omega, by omega⟩, by omega, by rfl, ⟨by omega, by omega⟩, ?_⟩
      have hz : (l'.set (k - 1) yy)[k]? = some yy := by rw [List.getElem?_set_ne (by omega)]; exact hy
      have hsw : ∀ j, j ∈ (l'.set (k - 1) yy).set k xx ↔ kid s n j ∧ j < i + 1 := by
       intro j
       have := swap_mem l' (k - 1) k (by omega) (by omega) j
       rw [List.getD_eq_getElem?_getD, List.getD_eq_getElem?_getD, hx, hy] at this
       rw [← hm' j]; exact this
      rw [set_cell]
      simp only [hz, wk1, cellI, lay, List.getElem?_map, Option.map_some, iaddr_node, pnode, wk3, wk, Nat.reduceAdd, Nat.reduceSub, Nat.reduceMul, Nat.reduceLeDiff, Nat.reduceEqDiff, Nat.reduceBEq, Int.reduceLE, Int.reduceLT, Int.reduceEq, Int.reduceNe, Int.reduceAdd, Int.reduceSub, Int.reduceToNat, Int.reduceNeg, ↓reduceIte, reduceCtorEq]
      rw [set_cell]
      refine QLoop_go (n' := k - 1) (by omega) ⟨k - 1, (l'.set (k - 1) yy).set k xx, by simp; omega, by simp; omega, rfl, hsw, rfl, rfl⟩ ?_
      simp only [List.replicate_succ, List.replicate_zero, List.cons_append, List.nil_append, Tops_top, Tops_same, Tops_nil]
     ·simp only [hb, w2, iaddr_node, pnode, wk3, wk, Nat.reduceAdd, Nat.reduceSub, Nat.reduceMul, Nat.reduceLeDiff, Nat.reduceEqDiff, Nat.reduceBEq, Int.reduceLE, Int.reduceLT, Int.reduceEq, Int.reduceNe, Int.reduceAdd, Int.reduceSub, Int.reduceToNat, Int.reduceNeg, ↓reduceIte, reduceCtorEq]
      refine QLoop_go (n' := s.length - (i + 1)) (by omega) ⟨i + 1, l', by omega, by omega, rfl, hm', by omega, rfl, rfl⟩ ?_
      simp only [hl', List.replicate_succ, List.replicate_zero, List.cons_append, List.nil_append, Tops_top, Tops_same, Tops_nil, Int.natCast_add, Int.natCast_one]
    ·simp only [hk0, w2, iaddr_node, pnode, wk3, wk, Nat.reduceAdd, Nat.reduceSub, Nat.reduceMul, Nat.reduceLeDiff, Nat.reduceEqDiff, Nat.reduceBEq, Int.reduceLE, Int.reduceLT, Int.reduceEq, Int.reduceNe, Int.reduceAdd, Int.reduceSub, Int.reduceToNat, Int.reduceNeg, ↓reduceIte, reduceCtorEq]
     refine QLoop_go (n' := s.length - (i + 1)) (by omega) ⟨i + 1, l', by omega, by omega, rfl, hm', by omega, rfl, rfl⟩ ?_
     simp only [hl', List.replicate_succ, List.replicate_zero, List.cons_append, List.nil_append, Tops_top, Tops_same, Tops_nil, Int.natCast_add, Int.natCast_one]
  ·have fin : ∀ j, j ∈ l ↔ kid s n j ∧ j < i + 1 := by
    intro j
    rw [hmem]
    constructor
    ·exact fun ⟨a, b⟩ => ⟨a, by omega⟩
    ·rintro ⟨a, b⟩
     refine ⟨a, ?_⟩
     rcases Nat.lt_or_ge j i with h' | h'
     ·exact h'
     ·have : j = i := by omega
      subst this; exact absurd a hk
   by_cases h1 : (s.getD i default).kind = 1
   ·have h3 : ¬ (s.getD i default).up = n := fun e => hk ⟨hi1, hil, .inl h1, e⟩
    simp only [h0, h, h1, h3, w2, iaddr_node, pnode, wk3, wk, Nat.reduceAdd, Nat.reduceSub, Nat.reduceMul, Nat.reduceLeDiff, Nat.reduceEqDiff, Nat.reduceBEq, Int.reduceLE, Int.reduceLT, Int.reduceEq, Int.reduceNe, Int.reduceAdd, Int.reduceSub, Int.reduceToNat, Int.reduceNeg, ↓reduceIte, reduceCtorEq]
    refine QLoop_go (n' := s.length - (i + 1)) (by omega) ⟨i + 1, l, by omega, by omega, rfl, fin, by omega, rfl, rfl⟩ ?_
    simp only [List.replicate_succ, List.replicate_zero, List.cons_append, List.nil_append, Tops_top, Tops_same, Tops_nil, Int.natCast_add, Int.natCast_one]
   ·by_cases h2 : (s.getD i default).kind = 2
    ·have h3 : ¬ (s.getD i default).up = n := fun e => hk ⟨hi1, hil, .inr h2, e⟩
     simp only [h0, h, h2, h3, w2, iaddr_node, pnode, wk3, wk, Nat.reduceAdd, Nat.reduceSub, Nat.reduceMul, Nat.reduceLeDiff, Nat.reduceEqDiff, Nat.reduceBEq, Int.reduceLE, Int.reduceLT, Int.reduceEq, Int.reduceNe, Int.reduceAdd, Int.reduceSub, Int.reduceToNat, Int.reduceNeg, ↓reduceIte, reduceCtorEq]
     refine QLoop_go (n' := s.length - (i + 1)) (by omega) ⟨i + 1, l, by omega, by omega, rfl, fin, by omega, rfl, rfl⟩ ?_
     simp only [List.replicate_succ, List.replicate_zero, List.cons_append, List.nil_append, Tops_top, Tops_same, Tops_nil, Int.natCast_add, Int.natCast_one]
    ·simp only [h0, h, h1, h2, w2, iaddr_node, pnode, wk3, wk, Nat.reduceAdd, Nat.reduceSub, Nat.reduceMul, Nat.reduceLeDiff, Nat.reduceEqDiff, Nat.reduceBEq, Int.reduceLE, Int.reduceLT, Int.reduceEq, Int.reduceNe, Int.reduceAdd, Int.reduceSub, Int.reduceToNat, Int.reduceNeg, ↓reduceIte, reduceCtorEq]
     refine QLoop_go (n' := s.length - (i + 1)) (by omega) ⟨i + 1, l, by omega, by omega, rfl, fin, by omega, rfl, rfl⟩ ?_
     simp only [List.replicate_succ, List.replicate_zero, List.cons_append, List.nil_append, Tops_top, Tops_same, Tops_nil, Int.natCast_add, Int.natCast_one]
 ·simp only [h, iaddr_node, pnode, wk3, wk, Nat.reduceAdd, Nat.reduceSub, Nat.reduceMul, Nat.reduceLeDiff, Nat.reduceEqDiff, Nat.reduceBEq, Int.reduceLE, Int.reduceLT, Int.reduceEq, Int.reduceNe, Int.reduceAdd, Int.reduceSub, Int.reduceToNat, Int.reduceNeg, ↓reduceIte, reduceCtorEq]
  refine KWk_frozen 0 (l.map pint) ?_ (.fz (l.map pint)) ?_ ⟨l, rfl, fun j => ?_, by omega, rfl⟩
  ·simp [AH.at, cellI, pint, emb]
  ·simp only [frzL, frz, renL, ren, if_true, List.length_map, Nat.zero_add, Nat.le_refl, and_self, List.drop_zero]
   rw [List.take_of_length_le (by simp)]
  ·rw [hmem]
   constructor
   ·exact fun h => h.1
   ·intro hk
    have := hk.2.1
    exact ⟨hk, by omega⟩
theorem kids_spec (s : List Node) (hs : s.length ≤ 1000000) (n : Int) (H : AH) : C Tryz.prog 111 [aset s, .int .i64 n] H (fun x H' => (∃ l : List Nat, x = .fz (l.map pint) ∧ (∀ i, i ∈ l ↔ kid s n i) ∧ l.length ≤ s.length) ∧ H' = H) :=
 C_pure (K0 := fun x => ∃ l : List Nat, x = .fz (l.map pint) ∧ (∀ i, i ∈ l ↔ kid s n i) ∧ l.length ≤ s.length) ((kids_spec0 s hs n).mono fun x H' ⟨l, h1, h2, h3, h4⟩ => ⟨⟨l, h1, h2, h3⟩, h4⟩) (fun τ => by simp [renL, ren, aset]) (by rintro y ⟨l, rfl, _⟩ τ; simp [ren]) H
end Go.Proofs.YtemjlopoffjmpaaGreat.Abs
set_option linter.unusedSimpArgs false
set_option linter.unusedVariables false
namespace Go.Proofs.YtemjlopoffjmpaaGreat.Abs
open Go Go.Proofs
theorem iaddr_int (H : AH) (l : List Nat) (k : IntKind) (n : Int) : iaddrV H 1 (.fz (l.map pint)) (.int k n) = if 0 ≤ n ∧ n < l.length then some (.fptr (pint (l.getD n.toNat default))) else none := by
 rw [iaddrV_map]
 have : (pint (l.getD n.toNat default)).length = 1 := rfl
 simp only [this, and_true]
def pname (x : List UInt8) : List PV := [.str x]
theorem iaddr_name (H : AH) (l : List (List UInt8)) (k : IntKind) (n : Int) : iaddrV H 1 (.fz (l.map pname)) (.int k n) = if 0 ≤ n ∧ n < l.length then some (.fptr (pname (l.getD n.toNat default))) else none := by
 rw [iaddrV_map]
 have : (pname (l.getD n.toNat default)).length = 1 := rfl
 simp only [this, and_true]
theorem kid_spec (s : List Node) (hs : s.length ≤ 1000000) (n : Int) (nm : List UInt8) (H : AH) :
 C Tryz.prog 79 [aset s, .int .i64 n, .str nm] H (fun x H' => H' = H ∧ ((∃ k : Nat, kid s n k ∧ (s.getD k default).name = nm ∧ x = .tuple [.int .i64 k, .bool true]) ∨ (x = .tuple [.int .i64 0, .bool false] ∧ ∀ k, kid s n k → (s.getD k default).name ≠ nm))) := by
 refine C_body d79 rfl (WT_ok ?_)
 unfold c79
 simp only [aset, iaddr_node, pnode, wk3, wk, seval]
 refine CT_ok (kids_spec s hs n H) ?_
 rintro _ H ⟨⟨l, rfl, hl, hll⟩, rfl⟩
 simp only [iaddr_node, pnode, wk3, wk, seval]
 refine WT_loop (W_wk (fr' := [.fz (s.map pnode), .int .i64 n, .str nm, .top, .top, .top, .int .i64 0, .bool false, .fz (l.map pint), .int .i64 0] ++ List.replicate 23 .top) (Wk_tops ?_) (W_loop (fun nn fr H' => ∃ j : Nat, j ≤ l.length ∧ nn = l.length - j ∧ (∀ i, i < j → (s.getD (l.getD i 0) default).name ≠ nm) ∧ H' = H ∧ fr = [.fz (s.map pnode), .int .i64 n, .str nm, .top, .top, .top, .int .i64 0, .bool false, .fz (l.map pint), .int .i64 j] ++ List.replicate 23 .top) l.length ⟨0, by omega, rfl, fun i hi => by omega, rfl, rfl⟩ ?_))
 ·simp only [List.replicate_succ, List.replicate_zero, List.cons_append, List.nil_append, Tops_top, Tops_same, Tops_nil]
 rintro nn fr H ⟨j, hj, rfl, hno, rfl, rfl⟩
 refine WT_ok ?_
 simp only [iaddr_node, pnode, wk3, wk, seval]
 refine guard_both ?_ ?_ <;> intro h <;> simp only [hy] at h
 ·have hjl : j < l.length := by omega
  have h0 : (0 : Int) ≤ j := by omega
  have hmem : l.getD j 0 ∈ l := by rw [List.getD_eq_getElem?_getD, List.getElem?_eq_getElem hjl]; exact List.getElem_mem _
  have hk := (hl _).1 hmem
  have hd : l.getD j default = l.getD j 0 := rfl
  have hk2 := hk.2.1
  have h1 : (0 : Int) ≤ (l.getD j 0 : Nat) := by omega
  have h2 : ((l.getD j 0 : Nat) : Int) < s.length := by omega
  have w2 : IntKind.i64.wrap ((j : Int) + 1) = (j : Int) + 1 := IntWalk.i64_in _ (by omega)
  simp only [h0, h, h1, h2, hd, iaddr_int, pint, iaddr_node, pnode, wk3, wk, seval]
  refine guard_both ?_ ?_ <;> intro h3 <;> simp only [hy] at h3
  ·simp only [h3, h0, h, hd, iaddr_int, pint, iaddr_node, pnode, wk3, wk, seval]
   exact .inl ⟨_, hk, h3, rfl⟩
  ·simp only [h3, w2, iaddr_node, pnode, wk3, wk, seval]
   refine QLoop_go (n' := l.length - (j + 1)) (by omega) ⟨j + 1, by omega, rfl, fun i hi => ?_, rfl, rfl⟩ ?_
   ·rcases Nat.lt_or_ge i j with h' | h'
    ·exact hno i h'
    ·have : i = j := by omega
     subst this; exact h3
   ·simp only [List.replicate_succ, List.replicate_zero, List.cons_append, List.nil_append, Tops_top, Tops_same, Tops_nil, Int.natCast_add, Int.natCast_one]
 ·simp only [h, iaddr_node, pnode, wk3, wk, seval]
  refine .inr fun k hk => ?_
  obtain ⟨i, hi, he⟩ := List.mem_iff_getElem.1 ((hl k).2 hk)
  have := hno i (by omega)
  have hg : l.getD i 0 = k := by rw [List.getD_eq_getElem?_getD, List.getElem?_eq_getElem hi]; exact he
  rwa [hg] at this
def downR (s : List Node) : List (List UInt8) → Nat → Nat → Prop
 | [], a, b => a = b
 | x :: l, a, b => (s.getD a default).kind = 2 ∧ ∃ k, kid s a k ∧ (s.getD k default).name = x ∧ downR s l k b
def downF (s : List Node) (l : List (List UInt8)) : Prop := ∃ (l1 : List (List UInt8)) (x : List UInt8) (l2 : List (List UInt8)) (a : Nat), l = l1 ++ x :: l2 ∧ downR s l1 0 a ∧ a < s.length ∧ ((s.getD a default).kind ≠ 2 ∨ ∀ k, kid s a k → (s.getD k default).name ≠ x)
theorem downR_snoc {s : List Node} {x : List UInt8} : ∀ {l : List (List UInt8)} {a b k : Nat}, downR s l a b → (s.getD b default).kind = 2 → kid s b k → (s.getD k default).name = x → downR s (l ++ [x]) a k
 | [], a, b, k, h, h1, h2, h3 => by
   simp only [downR] at h; subst h
   exact ⟨h1, k, h2, h3, rfl⟩
 | y :: l, a, b, k, ⟨g1, m, g2, g3, g4⟩, h1, h2, h3 => ⟨g1, m, g2, g3, downR_snoc g4 h1 h2 h3⟩
theorem down_spec (s : List Node) (hs : s.length ≤ 1000000) (h0s : 0 < s.length) (l : List (List UInt8)) (hl : l.length ≤ 1000000) (H : AH) :
 C Tryz.prog 110 [aset s, .fz (l.map pname)] H (fun x H' => H' = H ∧ ((∃ k : Nat, k < s.length ∧ downR s l 0 k ∧ x = .tuple [.int .i64 k, .int .i64 0]) ∨ ∃ e : Int, e ≠ 0 ∧ downF s l ∧ x = .tuple [.int .i64 0, .int .i64 e])) := by
 refine C_body d110 rfl (WT_ok ?_)
 unfold c110
 simp only [aset, iaddr_node, pnode, wk3, wk, seval]
 refine WT_loop (W_loop (fun nn fr H' => ∃ (j a : Nat), j ≤ l.length ∧ nn = l.length - j ∧ a < s.length ∧ downR s (l.take j) 0 a ∧ H' = H ∧ fr = [.fz (s.map pnode), .fz (l.map pname), .top, .top, .int .i64 0, .int .i64 0, .int .i64 a, .int .i64 j] ++ List.replicate 40 .top) l.length ⟨0, 0, by omega, rfl, h0s, rfl, rfl, rfl⟩ ?_)
 rintro nn fr H ⟨j, a, hj, rfl, ha, hR, rfl, rfl⟩
 refine WT_ok ?_
 simp only [iaddr_node, pnode, wk3, wk, seval]
 refine guard_both ?_ ?_ <;> intro h <;> simp only [hy] at h
 ·have hjl : j < l.length := by omega
  have h0 : (0 : Int) ≤ j := by omega
  have h1 : (0 : Int) ≤ a := by omega
  have h2 : (a : Int) < s.length := by omega
  have h2' : ¬ (s.length : Int) ≤ a := by omega
  have w2 : IntKind.i64.wrap ((j : Int) + 1) = (j : Int) + 1 := IntWalk.i64_in _ (by omega)
  have hsplit : l = l.take j ++ l.getD j default :: l.drop (j + 1) := by
   rw [List.getD_eq_getElem?_getD, List.getElem?_eq_getElem hjl, Option.getD_some, List.getElem_cons_drop, List.take_append_drop]
  simp only [h0, h, h1, h2, h2', iaddr_name, pname, iaddr_node, pnode, wk3, wk, seval]
  by_cases hk : (s.getD a default).kind = 2
  ·simp only [hk, h0, h, h1, h2, iaddr_name, pname, iaddr_node, pnode, wk3, wk, seval]
   refine CT_ok (kid_spec s hs a (l.getD j default) H) ?_
   rintro _ H ⟨rfl, ⟨k, hk1, hk2, rfl⟩ | ⟨rfl, hno⟩⟩
   ·simp only [w2, iaddr_node, pnode, wk3, wk, seval]
    refine QLoop_go (n' := l.length - (j + 1)) (by omega) ⟨j + 1, k, by omega, rfl, hk1.2.1, ?_, rfl, rfl⟩ ?_
    ·rw [List.take_add_one, List.getElem?_eq_getElem hjl]
     refine downR_snoc hR hk hk1 ?_
     rw [hk2, List.getD_eq_getElem?_getD, List.getElem?_eq_getElem hjl]
     rfl
    ·simp only [List.replicate_succ, List.replicate_zero, List.cons_append, List.nil_append, Tops_top, Tops_same, Tops_nil, Int.natCast_add, Int.natCast_one]
   ·simp only [iaddr_node, pnode, wk3, wk, seval]
    refine CT_ok (lost_spec s hs H) ?_
    rintro _ _ ⟨rfl, rfl⟩
    simp only [iaddr_node, pnode, wk3, wk, seval]
    refine guard_both ?_ ?_ <;> intro h3 <;> simp only [h3, iaddr_node, pnode, wk3, wk, seval]
    ·exact .inr ⟨12, by omega, ⟨_, _, _, a, hsplit, hR, ha, .inr hno⟩, rfl⟩
    ·exact .inr ⟨2, by omega, ⟨_, _, _, a, hsplit, hR, ha, .inr hno⟩, rfl⟩
  ·simp only [hk, iaddr_node, pnode, wk3, wk, seval]
   exact .inr ⟨5, by omega, ⟨_, _, _, a, hsplit, hR, ha, .inl hk⟩, rfl⟩
 ·have : j = l.length := by omega
  subst this
  rw [List.take_length] at hR
  simp only [h, iaddr_node, pnode, wk3, wk, seval]
  exact .inl ⟨a, ha, hR, rfl⟩
end Go.Proofs.YtemjlopoffjmpaaGreat.Abs
set_option linter.unusedSimpArgs false
set_option linter.unusedVariables false
namespace Go.Proofs.YtemjlopoffjmpaaGreat.Abs
open Go Go.Proofs
def PartsC (path : List UInt8) (P : List (List UInt8) → Prop) (B : Prop) : Prop :=
 ∀ H, C Tryz.prog 109 [.str path] H (fun x H' => H' = H ∧ ((∃ l : List (List UInt8), P l ∧ l.length ≤ 7 ∧ x = .tuple [.fz (l.map pname), .bool true]) ∨ (B ∧ x = .tuple [.fz [], .bool false])))
theorem find_spec {path : List UInt8} {P : List (List UInt8) → Prop} {B : Prop} (hp : PartsC path P B) (s : List Node) (hs : s.length ≤ 1000000) (h0s : 0 < s.length) (H : AH) :
 C Tryz.prog 112 [aset s, .str path] H (fun x H' => H' = H ∧ ((∃ l, P l ∧ ∃ k : Nat, k < s.length ∧ downR s l 0 k ∧ x = .tuple [.int .i64 k, .int .i64 0]) ∨ ∃ e : Int, e ≠ 0 ∧ (B ∨ ∃ l, P l ∧ downF s l) ∧ x = .tuple [.int .i64 0, .int .i64 e])) := by
 refine C_body d112 rfl (WT_ok ?_)
 unfold c112
 simp only [aset, iaddr_node, pnode, wk3, wk, seval]
 refine CT_ok (hp H) ?_
 rintro _ H ⟨rfl, ⟨l, hl, hlen, rfl⟩ | ⟨hB, rfl⟩⟩
 ·simp only [iaddr_node, pnode, wk3, wk, seval]
  refine CT_ok (down_spec s hs h0s l (by omega) H) ?_
  rintro _ H ⟨rfl, ⟨k, hk, hR, rfl⟩ | ⟨e, he, hF, rfl⟩⟩
  ·simp only [iaddr_node, pnode, wk3, wk, seval]
   exact .inl ⟨l, hl, k, hk, hR, rfl⟩
  ·simp only [iaddr_node, pnode, wk3, wk, seval]
   exact .inr ⟨e, he, .inr ⟨l, hl, hF⟩, rfl⟩
 ·simp only [iaddr_node, pnode, wk3, wk, seval]
  exact .inr ⟨1, by omega, .inl hB, rfl⟩
theorem file_spec {path : List UInt8} {P : List (List UInt8) → Prop} {B : Prop} (hp : PartsC path P B) (s : List Node) (hs : s.length ≤ 1000000) (h0s : 0 < s.length) (H : AH) :
 C Tryz.prog 82 [aset s, .str path] H (fun x H' => H' = H ∧ ((∃ l, P l ∧ ∃ k : Nat, k < s.length ∧ downR s l 0 k ∧ (s.getD k default).kind ≠ 2 ∧ x = .tuple [.int .i64 k, .int .i64 0]) ∨
   ∃ e : Int, e ≠ 0 ∧ (B ∨ (∃ l, P l ∧ downF s l) ∨ ∃ l, P l ∧ ∃ k : Nat, k < s.length ∧ downR s l 0 k ∧ (s.getD k default).kind = 2) ∧ x = .tuple [.int .i64 0, .int .i64 e])) := by
 refine C_body d82 rfl (WT_ok ?_)
 unfold c82
 simp only [aset, iaddr_node, pnode, wk3, wk, seval]
 refine CT_ok (find_spec hp s hs h0s H) ?_
 rintro _ H ⟨rfl, ⟨l, hl, k, hk, hR, rfl⟩ | ⟨e, he, hF, rfl⟩⟩
 ·have h1 : (0 : Int) ≤ k := by omega
  have h2 : (k : Int) < s.length := by omega
  simp only [h1, h2, iaddr_node, pnode, wk3, wk, seval]
  refine guard_both ?_ ?_ <;> intro h3 <;> simp only [hy] at h3 <;> simp only [h3, iaddr_node, pnode, wk3, wk, seval]
  ·exact .inr ⟨4, by omega, .inr (.inr ⟨l, hl, k, hk, hR, h3⟩), rfl⟩
  ·exact .inl ⟨l, hl, k, hk, hR, h3, rfl⟩
 ·simp only [he, iaddr_node, pnode, wk3, wk, seval]
  refine .inr ⟨e, he, ?_, rfl⟩
  rcases hF with h | h
  ·exact .inl h
  ·exact .inr (.inl h)
theorem slicel_names (H : AH) (fr : List AV) (l : List (List UInt8)) (x : Opd) (n : Nat) (hn : n ≤ l.length) (h0 : evalA fr x = .fz (l.map pname)) (lo hi : Option Opd) (hlo : bnd (evalA fr) lo 0 n = some 0) (hhi : bnd (evalA fr) hi l.length l.length = some n) :
 aop0 (.slicel 1 x lo hi) (evalA fr) H = some (.fz ((l.take n).map pname)) := by
 simp only [aop0, h0, List.length_map, hhi, hlo, List.drop_zero]
 rw [if_pos, List.map_take]
 rw [List.all_eq_true]
 intro e he
 obtain ⟨y, _, rfl⟩ := List.mem_map.1 (List.mem_of_mem_take he)
 rfl
theorem RT_slicel_names {P : Program} (d : Option Nat) (rest : List AInstr) (K : List AV → AH → Prop) (fr : List AV) (H : AH) (l : List (List UInt8)) (x hi : Opd) (k : IntKind) (n : Nat) (hn : n ≤ l.length) (h0 : evalA fr x = .fz (l.map pname)) (h1 : evalA fr hi = .int k (n : Int)) (t u)
 (h : RT P rest K (setA fr d (.fz ((l.take n).map pname))) H .mk .mk) : RT P (⟨d, none, .slicel 1 x none (some hi)⟩ :: rest) K fr H t u := by
 have e := slicel_names H fr l x n hn h0 none (some hi) rfl (by simp only [bnd, h1, Int.toNat_natCast]; rw [if_pos (by omega)])
 show RA P _ K fr H
 unfold RA
 show onSome (aop (.slicel 1 x none (some hi)) (evalA fr) H) _
 unfold aop
 rw [e]
 exact h
theorem place_spec {path : List UInt8} {P : List (List UInt8) → Prop} {B : Prop} (hp : PartsC path P B) (s : List Node) (hs : s.length ≤ 1000000) (h0s : 0 < s.length) (H : AH) :
 C Tryz.prog 78 [aset s, .str path] H (fun x H' => H' = H ∧ ((∃ l a, P (l ++ [a]) ∧ ∃ k : Nat, k < s.length ∧ downR s l 0 k ∧ (s.getD k default).kind = 2 ∧ x = .tuple [.int .i64 k, .str a, .int .i64 0]) ∨
   ∃ e : Int, e ≠ 0 ∧ x = .tuple [.int .i64 0, .str [], .int .i64 e])) := by
 refine C_body d78 rfl (WT_ok ?_)
 unfold c78
 simp only [aset, iaddr_node, pnode, wk3, wk, seval]
 refine CT_ok (hp H) ?_
 rintro _ H ⟨rfl, ⟨l, hl, hlen, rfl⟩ | ⟨hB, rfl⟩⟩
 ·simp only [iaddr_node, pnode, wk3, wk, seval]
  refine guard_both ?_ ?_ <;> intro h3 <;> simp only [hy] at h3
  ·simp only [h3, iaddr_node, pnode, wk3, wk, seval]
   exact .inr ⟨1, by omega, rfl⟩
  ·have hl0 : 0 < l.length := by omega
   have w1 : IntKind.i64.wrap ((l.length : Int) - 1) = ((l.length - 1 : Nat) : Int) := by rw [IntWalk.i64_in _ (by omega)]; omega
   have hsplit : l = l.take (l.length - 1) ++ [l.getD (l.length - 1) default] := by
    rw [List.getD_eq_getElem?_getD, List.getElem?_eq_getElem (by omega), Option.getD_some]
    have := List.take_append_drop (l.length - 1) l
    rw [List.drop_eq_getElem_cons (by omega), List.drop_eq_nil_of_le (by omega)] at this
    exact this.symm
   simp only [h3, w1, iaddr_node, pnode, wk3, wk, seval]
   refine RT_slicel_names _ _ _ _ _ l _ _ _ (l.length - 1) (by omega) rfl rfl _ _ ?_
   simp only [h3, w1, iaddr_node, pnode, wk3, wk, seval]
   refine CT_ok (down_spec s hs h0s (l.take (l.length - 1)) (by simp; omega) H) ?_
   rintro _ H ⟨rfl, ⟨k, hk, hR, rfl⟩ | ⟨e, he, hF, rfl⟩⟩
   ·have h1 : (0 : Int) ≤ k := by omega
    have h2 : (k : Int) < s.length := by omega
    have h2' : ¬ (s.length : Int) ≤ k := by omega
    have h4 : (0 : Int) ≤ ((l.length - 1 : Nat) : Int) := by omega
    have h5 : ((l.length - 1 : Nat) : Int) < l.length := by omega
    simp only [h1, h2, h2', iaddr_node, pnode, wk3, wk, seval]
    refine guard_both ?_ ?_ <;> intro h6 <;> simp only [hy] at h6
    ·simp only [h6, iaddr_node, pnode, wk3, wk, seval]
     exact .inr ⟨5, by omega, rfl⟩
    ·simp only [h6, iaddr_node, pnode, wk3, wk, seval]
     refine WT_draw ?_
     simp only [w1, h4, h5, iaddr_name, pname, iaddr_node, pnode, wk3, wk, seval]
     refine .inl ⟨l.take (l.length - 1), _, ?_, k, hk, hR, by simpa using h6, rfl⟩
     rw [← hsplit]; exact hl
   ·simp only [he, iaddr_node, pnode, wk3, wk, seval]
    exact .inr ⟨e, he, rfl⟩
 ·simp only [iaddr_node, pnode, wk3, wk, seval]
  exact .inr ⟨1, by omega, rfl⟩
end Go.Proofs.YtemjlopoffjmpaaGreat.Abs
set_option linter.unusedSimpArgs false
set_option linter.unusedVariables false
namespace Go.Proofs.YtemjlopoffjmpaaGreat.Abs
open Go Go.Proofs
def itUp (s : List Node) : Nat → Nat → Nat
 | 0, i => i
 | m + 1, i => itUp s m (s.getD i default).up.toNat
theorem itUp_succ (s : List Node) : ∀ (m i : Nat), itUp s (m + 1) i = (s.getD (itUp s m i) default).up.toNat
 | 0, _ => rfl
 | m + 1, i => itUp_succ s m _
theorem itUp_add (s : List Node) : ∀ (m n i : Nat), itUp s (m + n) i = itUp s n (itUp s m i)
 | 0, n, i => by rw [Nat.zero_add]; rfl
 | m + 1, n, i => by rw [show m + 1 + n = (m + n) + 1 by omega]; exact itUp_add s m n _
theorem Wf.up8 {s : List Node} (h : Wf s) {i : Nat} (hi : i < 8) : (s.getD i default).up.toNat < 8 := by have := h.upD i (by have := h.len; omega); omega
theorem Wf.itUp0 {s : List Node} (h : Wf s) : ∀ m, itUp s m 0 = 0
 | 0 => rfl
 | m + 1 => by show itUp s m (s.getD 0 default).up.toNat = 0; rw [h.top]; exact h.itUp0 m
theorem Wf.itUp8 {s : List Node} (h : Wf s) : ∀ (m : Nat) {i : Nat}, i < 8 → itUp s m i < 8
 | 0, _, hi => hi
 | m + 1, _, hi => h.itUp8 m (h.up8 hi)
theorem Wf.upk {s : List Node} (h : Wf s) {i : Nat} (hi : i < 8) (hk : (s.getD i default).kind ≠ 0) : (s.getD (s.getD i default).up.toNat default).kind = 2 := by
 by_cases h0 : i = 0
 ·subst h0; rw [h.top]; exact h.root2
 ·exact (h.ok i (by omega) hi).upf hk
theorem Wf.itUpk {s : List Node} (h : Wf s) : ∀ (m : Nat) {i : Nat}, i < 8 → (s.getD i default).kind ≠ 0 → (s.getD (itUp s m i) default).kind ≠ 0
 | 0, _, _, hk => hk
 | m + 1, _, hi, hk => h.itUpk m (h.up8 hi) (by rw [h.upk hi hk]; decide)
theorem Wf.climb {s : List Node} (h : Wf s) {i : Nat} (hi : i < 8) (hk : (s.getD i default).kind ≠ 0) : itUp s 8 i = 0 := by
 obtain ⟨r0, hr0⟩ := h.tree
 obtain ⟨r, hr8, hr⟩ := rank8 r0 h.len (fun i hi => h.up8 hi) hr0
 have g : ∀ m, itUp s m i = 0 ∨ r (itUp s m i) + m ≤ r i := by
  intro m
  induction m with
  | zero => right; exact Nat.le_refl _
  | succ m ih =>
    rcases ih with ih | ih
    ·left; rw [itUp_succ, ih, h.top]; rfl
    ·by_cases h0 : itUp s m i = 0
     ·left; rw [itUp_succ, h0, h.top]; rfl
     ·right
      rw [itUp_succ]
      have := hr (itUp s m i) (by omega) (h.itUp8 m hi) (h.itUpk m hi hk)
      omega
 rcases g 8 with e | e
 ·exact e
 ·have := hr8 i hi; omega
theorem withA_nat (s : List Node) (n : Nat) (x : Node) : withA s n x = s.set n x := by
 unfold withA
 rw [if_pos (by omega), Int.toNat_natCast]
theorem Wf.kidOf {s : List Node} (h : Wf s) {i : Nat} {n : Int} (h1 : 1 ≤ i) (hi : i < 8) (hk : (s.getD i default).kind ≠ 0) (hu : (s.getD i default).up = n) : kid s n i :=
 ⟨h1, by have := h.len; omega, by rcases (h.ok i h1 hi).kinds with e | e; exact absurd e hk; exact e, hu⟩
theorem make_wf {s : List Node} (h : Wf s) {kind : Int} {up n : Nat} {a : List UInt8} (hup : up < 8) (hk2 : (s.getD up default).kind = 2) (hno : ∀ k, kid s up k → (s.getD k default).name ≠ a) (hn : n < 8) (hn0 : (s.getD n default).kind = 0) (hk : kind = 1 ∨ kind = 2) (ha : mayN a = true) :
 Wf (withA s n ⟨kind, up, a, [], 0⟩) := by
 rw [withA_nat]
 have hn1 : 1 ≤ n := by
  rcases Nat.eq_zero_or_pos n with e | e
  ·subst e; exact absurd hn0 h.root
  ·exact e
 have hk0 : kind ≠ 0 := by omega
 have hne : up ≠ n := by rintro rfl; omega
 have nou : ∀ i, 1 ≤ i → i < 8 → (s.getD i default).kind ≠ 0 → (s.getD i default).up.toNat ≠ n := fun i h1 h8 hki e => by
  have := h.upk h8 hki; rw [e] at this; omega
 obtain ⟨r, hr⟩ := h.tree
 refine h.put hn1 hn (x := ⟨kind, up, a, [], 0⟩) ⟨rfl, .inr hk, fun e => absurd e hk0, fun _ => rfl, fun _ => ha, ⟨by show (0 : Int) ≤ up; omega, by show (up : Int) < 8; omega⟩, fun _ => hk2, by show 0 ≤ 128; omega⟩ (fun _ => .inl hne) (.inr fun i h1 h8 _ hki => nou i h1 h8 hki) ?_ (fun i => if i = n then r up + 1 else r i) ?_ ?_
 ·intro _ i h1 h8 _ hki hu hnm
  exact hno i (h.kidOf h1 h8 hki hu) hnm
 ·intro i h1 h8 hin hki
  show (if _ then _ else _) < (if _ then _ else _)
  rw [if_neg (nou i h1 h8 hki), if_neg hin]
  exact hr i h1 h8 hki
 ·intro _
  show (if (up : Int).toNat = n then r up + 1 else r (up : Int).toNat) < (if n = n then r up + 1 else r n)
  rw [Int.toNat_natCast, if_neg hne, if_pos rfl]
  omega
theorem drop_wf {s : List Node} (h : Wf s) {k : Nat} (hk1 : k ≠ 0) (hk : k < 8) (hno : ∀ i, ¬ kid s k i) : Wf (withA s k ⟨0, 0, [], [], 0⟩) := by
 rw [withA_nat]
 obtain ⟨r, hr⟩ := h.tree
 refine h.put (by omega) hk (x := ⟨0, 0, [], [], 0⟩) ⟨rfl, .inl rfl, fun _ => rfl, fun e => absurd e (by decide), fun e => absurd rfl e, ⟨by decide, by decide⟩, fun e => absurd rfl e, by show 0 ≤ 128; omega⟩ (fun e => absurd rfl e) (.inr fun i h1 h8 _ hki e => ?_) (fun e => absurd rfl e) r (fun i h1 h8 _ hki => hr i h1 h8 hki) (fun e => absurd rfl e)
 have := h.upD i (by have := h.len; omega)
 exact hno i (h.kidOf h1 h8 hki (by omega))
theorem body_wf {s : List Node} (h : Wf s) {k : Nat} (hk : k < 8) (hk2 : (s.getD k default).kind ≠ 2) (hk0 : (s.getD k default).kind ≠ 0) {y : List UInt8} (hy : y.length ≤ 128) : Wf (withA s k ⟨(s.getD k default).kind, (s.getD k default).up, (s.getD k default).name, y, (s.getD k default).bad⟩) := by
 rw [withA_nat]
 have hk1 : k ≠ 0 := by rintro rfl; exact hk2 h.root2
 have o := h.ok k (by omega) hk
 obtain ⟨r, hr⟩ := h.tree
 refine h.put (by omega) hk (x := ⟨(s.getD k default).kind, (s.getD k default).up, (s.getD k default).name, y, (s.getD k default).bad⟩) ⟨o.bad, o.kinds, fun e => absurd e hk0, fun e => absurd e hk2, o.name, o.up, o.upf, hy⟩ (fun _ => .inl fun e => ?_) (.inr fun i h1 h8 _ hki e => ?_) (fun _ i h1 h8 hik hki hu hnm => ?_) r (fun i h1 h8 _ hki => hr i h1 h8 hki) (fun _ => hr k (by omega) hk hk0)
 ·have := h.upk hk hk0
  rw [show (s.getD k default).up.toNat = k from e] at this; exact hk2 this
 ·have := h.upk h8 hki
  rw [e] at this; exact hk2 this
 ·exact hik (h.uniq i k h1 h8 (by omega) hk hki hk0 hu hnm)
open Classical in
theorem move_wf {s : List Node} (h : Wf s) {k up : Nat} {a : List UInt8} (hk1 : k ≠ 0) (hk : k < 8) (hk0 : (s.getD k default).kind ≠ 0) (hup : up < 8) (hk2 : (s.getD up default).kind = 2) (hno : ∀ k, kid s up k → (s.getD k default).name ≠ a) (ha : mayN a = true)
 (hin : ∀ m, itUp s m up ≠ k) : Wf (withA s k ⟨(s.getD k default).kind, up, a, (s.getD k default).body, (s.getD k default).bad⟩) := by
 rw [withA_nat]
 have o := h.ok k (by omega) hk
 have hne : up ≠ k := hin 0
 obtain ⟨r, hr⟩ := h.tree
 refine h.put (by omega) hk (x := ⟨(s.getD k default).kind, up, a, (s.getD k default).body, (s.getD k default).bad⟩) ⟨o.bad, o.kinds, fun e => absurd e hk0, o.fold, fun _ => ha, ⟨by show (0 : Int) ≤ up; omega, by show (up : Int) < 8; omega⟩, fun _ => hk2, o.body⟩ (fun _ => .inl hne) ?_ ?_ (fun i => if (∃ m, itUp s m i = k) then r up + 1 + r i else r i) ?_ ?_
 ·by_cases e : (s.getD k default).kind = 2
  ·exact .inl e
  ·refine .inr fun i h1 h8 _ hki e2 => ?_
   have := h.upk h8 hki
   rw [e2] at this; exact e this
 ·intro _ i h1 h8 _ hki hu hnm
  exact hno i (h.kidOf h1 h8 hki hu) hnm
 ·intro i h1 h8 hik hki
  have hri := hr i h1 h8 hki
  have e : (∃ m, itUp s m (s.getD i default).up.toNat = k) ↔ ∃ m, itUp s m i = k := by
   constructor
   ·rintro ⟨m, hm⟩; exact ⟨m + 1, hm⟩
   ·rintro ⟨m, hm⟩
    cases m with
    | zero => exact absurd hm hik
    | succ m => exact ⟨m, hm⟩
  show (if _ then _ else _) < (if _ then _ else _)
  by_cases g : ∃ m, itUp s m i = k
  ·rw [if_pos (e.2 g), if_pos g]; omega
  ·rw [if_neg (fun h => g (e.1 h)), if_neg g]; exact hri
 ·intro _
  have g : ¬ ∃ m, itUp s m up = k := fun ⟨m, hm⟩ => hin m hm
  show (if ∃ m, itUp s m up = k then _ else r up) < (if _ then _ else _)
  rw [if_neg g, if_pos ⟨0, rfl⟩]; omega
end Go.Proofs.YtemjlopoffjmpaaGreat.Abs
set_option linter.unusedSimpArgs false
set_option linter.unusedVariables false
namespace Go.Proofs.YtemjlopoffjmpaaGreat.Abs
open Go Go.Proofs
theorem there_nat {s : List Node} {n : Nat} (hn : n < s.length) (hk : (s.getD n default).kind ≠ 0) : there s n = true := by
 unfold there
 rw [Bool.and_eq_true]
 exact ⟨decide_eq_true ⟨by omega, by omega⟩, decide_eq_true (by rw [Int.toNat_natCast]; exact hk)⟩
theorem within_spec (s : List Node) (hw : Wf s) (n top : Nat) (hn : n < s.length) (hnk : (s.getD n default).kind ≠ 0) (ht : top < s.length) (htk : (s.getD top default).kind ≠ 0) (H : AH) :
 C Tryz.prog 126 [aset s, .int .i64 n, .int .i64 top] H (fun x H' => ∃ b, x = .bool b ∧ (b = true ↔ ∃ m, itUp s m n = top) ∧ H' = H) := by
 have hlen := hw.len
 have t1 := there_nat hn hnk
 have t2 := there_nat ht htk
 refine C_body d126 rfl (WT_ok ?_)
 unfold c126
 simp only [aset, iaddr_node, pnode, wk3, wk, seval]
 refine CT_ok (there_spec s n H) ?_
 rintro _ H ⟨rfl, rfl⟩
 simp only [t1, iaddr_node, pnode, wk3, wk, seval]
 refine CT_ok (there_spec s top H) ?_
 rintro _ H ⟨rfl, rfl⟩
 simp only [t2, iaddr_node, pnode, wk3, wk, seval]
 refine WT_loop (W_wk (fr' := [.fz (s.map pnode), .int .i64 n, .int .i64 top, .top, .top, .top, .bool false, .int .i64 0] ++ List.replicate 33 .top) (Wk_tops ?_) (W_loop (fun nn fr H' => ∃ (k : Nat), k ≤ s.length ∧ nn = s.length - k ∧ (∀ j, j < k → itUp s j n ≠ top ∧ itUp s j n ≠ 0) ∧ H' = H ∧ fr = [.fz (s.map pnode), .int .i64 (itUp s k n : Nat), .int .i64 top, .top, .top, .top, .bool false, .int .i64 k] ++ List.replicate 33 .top) s.length ⟨0, by omega, rfl, fun j hj => by omega, rfl, rfl⟩ ?_))
 ·simp only [List.replicate_succ, List.replicate_zero, List.cons_append, List.nil_append, Tops_top, Tops_same, Tops_nil]
 rintro nn fr H ⟨k, hk, rfl, hj, rfl, rfl⟩
 refine WT_ok ?_
 simp only [iaddr_node, pnode, wk3, wk, seval]
 have ha : itUp s k n < 8 := hw.itUp8 k (by omega)
 have g1 : (0 : Int) ≤ (itUp s k n : Nat) := by omega
 have g2 : ((itUp s k n : Nat) : Int) < s.length := by omega
 have w2 : IntKind.i64.wrap ((k : Int) + 1) = (k : Int) + 1 := IntWalk.i64_in _ (by omega)
 have fin : (itUp s k n = 0 ∨ k = 8) → itUp s k n ≠ top → ¬ ∃ m, itUp s m n = top := by
  rintro h0 h1 ⟨m, hm⟩
  rcases Nat.lt_or_ge m k with h | h
  ·exact (hj m h).1 hm
  ·have e := itUp_add s k (m - k) n
   rw [show k + (m - k) = m by omega, hm] at e
   have z : itUp s k n = 0 := by
    rcases h0 with h0 | h0
    ·exact h0
    ·subst h0; exact hw.climb (by omega) hnk
   rw [z, hw.itUp0] at e
   omega
 refine guard_both ?_ ?_ <;> intro h3 <;> simp only [hy] at h3
 ·simp only [h3, iaddr_node, pnode, wk3, wk, seval]
  refine guard_both ?_ ?_ <;> intro h4 <;> simp only [hy] at h4
  ·simp only [h3, h4, iaddr_node, pnode, wk3, wk, seval]
   refine guard_both ?_ ?_ <;> intro h5 <;> simp only [hy] at h5
   ·simp only [h3, h4, h5, g1, g2, w2, iaddr_node, pnode, wk3, wk, seval]
    have hu := hw.upD (itUp s k n) (by omega)
    refine QLoop_go (n' := s.length - (k + 1)) (by omega) ⟨k + 1, by omega, rfl, fun j h => ?_, rfl, rfl⟩ ?_
    ·rcases Nat.lt_or_ge j k with h' | h'
     ·exact hj j h'
     ·have : j = k := by omega
      subst this
      exact ⟨by omega, by omega⟩
    ·have e : ((itUp s (k + 1) n : Nat) : Int) = (s.getD (itUp s k n) default).up := by rw [itUp_succ]; omega
     simp only [e, List.replicate_succ, List.replicate_zero, List.cons_append, List.nil_append, Tops_top, Tops_same, Tops_nil, Int.natCast_add, Int.natCast_one]
   ·simp only [h3, h4, h5, iaddr_node, pnode, wk3, wk, seval]
    refine ⟨_, rfl, ?_⟩
    have := fin (.inl (by omega)) (by omega)
    simp only [decide_eq_true_eq]
    exact ⟨fun e => absurd (by omega) h4, fun e => absurd e this⟩
  ·simp only [h3, h4, iaddr_node, pnode, wk3, wk, seval]
   exact ⟨_, rfl, ⟨fun _ => ⟨k, by omega⟩, fun _ => by simp⟩⟩
 ·simp only [h3, iaddr_node, pnode, wk3, wk, seval]
  refine ⟨_, rfl, ?_⟩
  simp only [decide_eq_true_eq]
  exact ⟨fun e => ⟨k, by omega⟩, fun e => Classical.byContradiction fun g => fin (.inr (by omega)) (by omega) e⟩
theorem make_spec {path : List UInt8} {P : List (List UInt8) → Prop} {B : Prop} (hp : PartsC path P B) (s : List Node) (hs : s.length ≤ 1000000) (h0s : 0 < s.length) (kind : Int) (H : AH) :
 C Tryz.prog 41 [aset s, .str path, .int .i64 kind] H (fun x H' => H' = H ∧ ((∃ e : Int, e ≠ 0 ∧ x = .tuple [aset s, .int .i64 e]) ∨
   ∃ l a up n, P (l ++ [a]) ∧ up < s.length ∧ downR s l 0 up ∧ (s.getD up default).kind = 2 ∧ (∀ k, kid s up k → (s.getD k default).name ≠ a) ∧ n < s.length ∧ (s.getD n default).kind = 0 ∧ (kind = 1 ∨ kind = 2) ∧ x = .tuple [aset (withA s n ⟨kind, up, a, [], 0⟩), .int .i64 0])) := by
 refine C_body d41 rfl (WT_ok ?_)
 unfold c41
 simp only [aset, iaddr_node, pnode, wk3, wk, seval]
 by_cases hk : kind = 1 ∨ kind = 2
 ·rcases hk with rfl | rfl
  all_goals
   simp only [iaddr_node, pnode, wk3, wk, seval]
   refine CT_ok (place_spec hp s hs h0s H) ?_
   rintro _ H ⟨rfl, ⟨l, a, hl, up, hup, hR, hk2, rfl⟩ | ⟨e, he, rfl⟩⟩
   ·simp only [iaddr_node, pnode, wk3, wk, seval]
    refine CT_ok (kid_spec s hs up a H) ?_
    rintro _ H ⟨rfl, ⟨k, hk, hnm, rfl⟩ | ⟨rfl, hno⟩⟩
    ·simp only [iaddr_node, pnode, wk3, wk, seval]
     exact .inl ⟨3, by omega, rfl⟩
    ·simp only [iaddr_node, pnode, wk3, wk, seval]
     refine CT_ok (free_spec s hs H) ?_
     rintro _ H ⟨rfl, ⟨n, hn, hn0, rfl⟩ | rfl⟩
     ·simp only [iaddr_node, pnode, wk3, wk, seval]
      refine CT_ok (with_spec s hs n ⟨_, up, a, [], 0⟩ H) ?_
      rintro _ H ⟨rfl, rfl⟩
      simp only [iaddr_node, pnode, wk3, wk, seval]
      exact .inr ⟨l, a, up, n, hl, hup, hR, hk2, hno, hn, hn0, by simp, rfl⟩
     ·simp only [iaddr_node, pnode, wk3, wk, seval]
      exact .inl ⟨8, by omega, rfl⟩
   ·simp only [he, iaddr_node, pnode, wk3, wk, seval]
    exact .inl ⟨e, he, rfl⟩
 ·have h1 : ¬ kind = 1 := fun e => hk (.inl e)
  have h2 : ¬ kind = 2 := fun e => hk (.inr e)
  simp only [h1, h2, iaddr_node, pnode, wk3, wk, seval]
  exact .inl ⟨1, by omega, rfl⟩
end Go.Proofs.YtemjlopoffjmpaaGreat.Abs
set_option linter.unusedSimpArgs false
set_option linter.unusedVariables false
namespace Go.Proofs.YtemjlopoffjmpaaGreat.Abs
open Go Go.Proofs
def NextW (s : List Node) (x : AV) : Prop := ∃ (t : List Node) (e : Int), Wf t ∧ x = .tuple [aset t, .int .i64 e]
theorem KWk_bare {K : AV → AH → Prop} {x : AV} {H : AH} (hx : bare x = true) (hk : K x []) : KWk 0 K x H := by
 refine ⟨x, [], ?_, hk⟩
 have := Wk_forget (n0 := 0) (fr := [x]) (H := H) 0 (Nat.le_refl _)
 rw [renL_bare _ _ (by simp [bareL, hx])] at this
 simpa [mapH] using this
theorem bare_next (t : List Node) (e : Int) : bare (.tuple [aset t, .int .i64 e]) = true := by simp [bare, bareL, aset]
theorem next_pure {f : FuncId} {args : List AV} {s : List Node} (h : C Tryz.prog f args [] (fun x H' => NextW s x ∧ H' = [])) (ha : bareL args = true) (H : AH) : C Tryz.prog f args H (fun x H' => H' = H ∧ NextW s x) :=
 (C_pure (K0 := fun x => NextW s x) h (fun τ => renL_bare τ _ ha) (by rintro x ⟨t, e, _, rfl⟩ τ; exact ren_bare τ _ (bare_next t e)) H).mono fun x H' h => ⟨h.2, h.1⟩
theorem downR_some {s : List Node} (h : Wf s) : ∀ {l : List (List UInt8)} {k : Nat}, downR s l 0 k → (s.getD k default).kind ≠ 0 := by
 have g : ∀ (l : List (List UInt8)) (a k : Nat), (s.getD a default).kind ≠ 0 → downR s l a k → (s.getD k default).kind ≠ 0 := by
  intro l
  induction l with
  | nil => intro a k ha hR; simp only [downR] at hR; subst hR; exact ha
  | cons x l ih =>
    rintro a k ha ⟨_, m, hm, _, hR⟩
    refine ih m k ?_ hR
    rcases hm.2.2.1 with e | e <;> rw [e] <;> decide
 exact fun {l k} => g l 0 k h.root
theorem drop_spec {path : List UInt8} {P : List (List UInt8) → Prop} {B : Prop} (hp : PartsC path P B) (s : List Node) (hw : Wf s) (H : AH) :
 C Tryz.prog 98 [aset s, .str path] H (fun x H' => H' = H ∧ NextW s x) := by
 have hlen := hw.len
 refine C_body d98 rfl (WT_ok ?_)
 unfold c98
 simp only [aset, iaddr_node, pnode, wk3, wk, seval]
 refine CT_ok (find_spec hp s (by omega) (by omega) H) ?_
 rintro _ H ⟨rfl, ⟨l, hl, k, hk, hR, rfl⟩ | ⟨e, he, hF, rfl⟩⟩
 ·simp only [iaddr_node, pnode, wk3, wk, seval]
  refine guard_both ?_ ?_ <;> intro h3 <;> simp only [hy] at h3
  ·simp only [h3, iaddr_node, pnode, wk3, wk, seval]
   exact ⟨s, 4, hw, rfl⟩
  ·simp only [h3, iaddr_node, pnode, wk3, wk, seval]
   refine CT_ok (kids_spec s (by omega) k H) ?_
   rintro _ H ⟨⟨l2, rfl, hl2, hll2⟩, rfl⟩
   simp only [iaddr_node, pnode, wk3, wk, seval]
   refine guard_both ?_ ?_ <;> intro h4 <;> simp only [hy] at h4
   ·simp only [h4, iaddr_node, pnode, wk3, wk, seval]
    exact ⟨s, 6, hw, rfl⟩
   ·simp only [h4, iaddr_node, pnode, wk3, wk, seval]
    refine CT_ok (with_spec s (by omega) k ⟨0, 0, [], [], 0⟩ H) ?_
    rintro _ H ⟨rfl, rfl⟩
    simp only [iaddr_node, pnode, wk3, wk, seval]
    refine ⟨_, 0, drop_wf hw (by omega) (by omega) (fun i hi => ?_), rfl⟩
    have := (hl2 i).2 hi
    have : l2 = [] := by
     have : ¬ 0 < l2.length := by omega
     exact List.eq_nil_of_length_eq_zero (by omega)
    subst this; cases (hl2 i).2 hi
 ·simp only [he, iaddr_node, pnode, wk3, wk, seval]
  exact ⟨s, e, hw, rfl⟩
theorem move_spec0 {path path2 : List UInt8} {P P' : List (List UInt8) → Prop} {B B' : Prop} (hp : PartsC path P B) (hp' : PartsC path2 P' B') (hP : ∀ l, P' l → ∀ x ∈ l, mayN x = true) (s : List Node) (hw : Wf s) :
 C Tryz.prog 99 [aset s, .str path, .str path2] [] (fun x H' => NextW s x ∧ H' = []) := by
 have hlen := hw.len
 refine C_body' d99 rfl (WT_ok ?_)
 unfold c99
 simp only [aset, iaddr_node, pnode, wk3, wk, seval]
 refine CT_ok (find_spec hp s (by omega) (by omega) []) ?_
 rintro _ _ ⟨rfl, ⟨l0, hl0, k, hk, hR0, rfl⟩ | ⟨e, he, hF, rfl⟩⟩
 ·simp only [iaddr_node, pnode, wk3, wk, seval]
  refine guard_both ?_ ?_ <;> intro h3 <;> simp only [hy] at h3
  ·simp only [h3, iaddr_node, pnode, wk3, wk, seval]
   exact KWk_bare (bare_next s _) ⟨⟨s, _, hw, rfl⟩, rfl⟩
  ·simp only [h3, iaddr_node, pnode, wk3, wk, seval]
   refine CT_ok (place_spec hp' s (by omega) (by omega) []) ?_
   rintro _ _ ⟨rfl, ⟨l, a, hl, up, hup, hR, hk2, rfl⟩ | ⟨e, he, rfl⟩⟩
   ·simp only [iaddr_node, pnode, wk3, wk, seval]
    have h1 : (0 : Int) ≤ k := by omega
    have h2 : (k : Int) < s.length := by omega
    refine CT_ok (kid_spec s (by omega) up a []) ?_
    rintro _ _ ⟨rfl, ⟨m, hm, hnm, rfl⟩ | ⟨rfl, hno⟩⟩
    ·simp only [iaddr_node, pnode, wk3, wk, seval]
     refine guard_both ?_ ?_ <;> intro h4 <;> simp only [hy] at h4
     ·simp only [h4, iaddr_node, pnode, wk3, wk, seval]
      exact KWk_bare (bare_next s _) ⟨⟨s, _, hw, rfl⟩, rfl⟩
     ·simp only [h4, iaddr_node, pnode, wk3, wk, seval]
      exact KWk_bare (bare_next s _) ⟨⟨s, _, hw, rfl⟩, rfl⟩
    ·simp only [iaddr_node, pnode, wk3, wk, seval]
     refine CT_ok (within_spec s hw up k hup (by omega) hk (downR_some hw hR0) []) ?_
     rintro _ _ ⟨b, rfl, hb, rfl⟩
     simp only [iaddr_node, pnode, wk3, wk, seval]
     cases b
     ·simp only [h1, h2, lay, iaddr_node, pnode, wk3, wk, seval]
      refine CT_ok (with_spec s (by omega) k ⟨(s.getD k default).kind, up, a, (s.getD k default).body, (s.getD k default).bad⟩ _) ?_
      rintro _ _ ⟨rfl, rfl⟩
      simp only [iaddr_node, pnode, wk3, wk, seval]
      have hin : ∀ m, itUp s m up ≠ k := fun m e => by
       have := hb.2 ⟨m, e⟩
       cases this
      exact KWk_bare (bare_next _ _) ⟨⟨_, _, move_wf hw (by omega) (by omega) (downR_some hw hR0) (by omega) hk2 hno (hP _ hl a (by simp)) hin, rfl⟩, rfl⟩
     ·simp only [iaddr_node, pnode, wk3, wk, seval]
      exact KWk_bare (bare_next s _) ⟨⟨s, _, hw, rfl⟩, rfl⟩
   ·simp only [he, iaddr_node, pnode, wk3, wk, seval]
    exact KWk_bare (bare_next s _) ⟨⟨s, _, hw, rfl⟩, rfl⟩
 ·simp only [he, iaddr_node, pnode, wk3, wk, seval]
  exact KWk_bare (bare_next s _) ⟨⟨s, _, hw, rfl⟩, rfl⟩
theorem move_spec {path path2 : List UInt8} {P P' : List (List UInt8) → Prop} {B B' : Prop} (hp : PartsC path P B) (hp' : PartsC path2 P' B') (hP : ∀ l, P' l → ∀ x ∈ l, mayN x = true) (s : List Node) (hw : Wf s) (H : AH) :
 C Tryz.prog 99 [aset s, .str path, .str path2] H (fun x H' => H' = H ∧ NextW s x) := next_pure (move_spec0 hp hp' hP s hw) (by simp [bareL, bare, aset]) H
theorem cut_spec0 {path : List UInt8} {P : List (List UInt8) → Prop} {B : Prop} (hp : PartsC path P B) (s : List Node) (hw : Wf s) (size : Int) :
 C Tryz.prog 100 [aset s, .str path, .int .i64 size] [] (fun x H' => NextW s x ∧ H' = []) := by
 have hlen := hw.len
 refine C_body' d100 rfl (WT_ok ?_)
 unfold c100
 simp only [aset, iaddr_node, pnode, wk3, wk, seval]
 refine CT_ok (file_spec hp s (by omega) (by omega) []) ?_
 rintro _ _ ⟨rfl, ⟨l, hl, k, hk, hR, hk2, rfl⟩ | ⟨e, he, hF, rfl⟩⟩
 ·simp only [iaddr_node, pnode, wk3, wk, seval]
  have h1 : (0 : Int) ≤ k := by omega
  have h2 : (k : Int) < s.length := by omega
  refine guard_both ?_ ?_ <;> intro h3 <;> simp only [hy] at h3
  ·simp only [h3, iaddr_node, pnode, wk3, wk, seval]
   exact KWk_bare (bare_next s _) ⟨⟨s, _, hw, rfl⟩, rfl⟩
  ·simp only [h3, iaddr_node, pnode, wk3, wk, seval]
   refine guard_both ?_ ?_ <;> intro h4 <;> simp only [hy] at h4
   ·simp only [h4, iaddr_node, pnode, wk3, wk, seval]
    exact KWk_bare (bare_next s _) ⟨⟨s, _, hw, rfl⟩, rfl⟩
   ·simp only [h1, h2, h4, lay, iaddr_node, pnode, wk3, wk, seval]
    obtain ⟨m, rfl⟩ : ∃ m : Nat, size = m := ⟨size.toNat, by omega⟩
    refine CT_ok (long_spec (s.getD k default).body m (by omega) _) ?_
    rintro _ _ ⟨rfl, rfl⟩
    simp only [lay, iaddr_node, pnode, wk3, wk, seval]
    refine CT_ok (with_spec s (by omega) k ⟨(s.getD k default).kind, (s.getD k default).up, (s.getD k default).name, longA (s.getD k default).body m, (s.getD k default).bad⟩ _) ?_
    rintro _ _ ⟨rfl, rfl⟩
    simp only [iaddr_node, pnode, wk3, wk, seval]
    exact KWk_bare (bare_next _ _) ⟨⟨_, _, body_wf hw (by omega) hk2 (downR_some hw hR) (y := longA (s.getD k default).body m) (by rw [longA_len]; omega), rfl⟩, rfl⟩
 ·simp only [he, iaddr_node, pnode, wk3, wk, seval]
  exact KWk_bare (bare_next s _) ⟨⟨s, _, hw, rfl⟩, rfl⟩
theorem cut_spec {path : List UInt8} {P : List (List UInt8) → Prop} {B : Prop} (hp : PartsC path P B) (s : List Node) (hw : Wf s) (size : Int) (H : AH) :
 C Tryz.prog 100 [aset s, .str path, .int .i64 size] H (fun x H' => H' = H ∧ NextW s x) := next_pure (cut_spec0 hp s hw size) (by simp [bareL, bare, aset]) H
end Go.Proofs.YtemjlopoffjmpaaGreat.Abs
set_option linter.unusedSimpArgs false
set_option linter.unusedVariables false
namespace Go.Proofs.YtemjlopoffjmpaaGreat.Abs
open Go Go.Proofs
def WriteR (P : List (List UInt8) → Prop) (B : Prop) (s : List Node) (off : Int) (text : List UInt8) (x : AV) : Prop :=
 (((B ∨ (∃ l, P l ∧ downF s l) ∨ ∃ l, P l ∧ ∃ k : Nat, k < s.length ∧ downR s l 0 k ∧ (s.getD k default).kind = 2) ∨ off < 0 ∨ 128 < off + text.length) ∧ ∃ e : Int, x = .tuple [aset s, .int .i64 e]) ∨ (text = [] ∧ x = .tuple [aset s, .int .i64 0]) ∨
   ∃ l, P l ∧ ∃ k : Nat, k < s.length ∧ downR s l 0 k ∧ (s.getD k default).kind ≠ 2 ∧ ∃ y, (y.length ≤ 128 ∧ (off = 0 → (s.getD k default).body = [] → y = text)) ∧ x = .tuple [aset (withA s k ⟨(s.getD k default).kind, (s.getD k default).up, (s.getD k default).name, y, (s.getD k default).bad⟩), .int .i64 0]
theorem slicel_own (H : AH) (fr : List AV) (r n : Nat) (x lo : Opd) (k : IntKind) (o : Nat) (ho : o < n) (h0 : evalA fr x = .own r 1 0 n n) (h1 : evalA fr lo = .int k (o : Int)) (hr : (liveO H r n).isSome = true) :
 aop0 (.slicel 1 x (some lo) none) (evalA fr) H = some (.own r 1 o (n - o) n) := by
 obtain ⟨ob, hob⟩ := Option.isSome_iff_exists.1 hr
 have hb : bnd (evalA fr) (some lo) 0 n = some o := by
  simp only [bnd, h1, Int.toNat_natCast]
  rw [if_pos (by omega)]
 have hb2 : bnd (evalA fr) none n (n - 0) = some n := rfl
 simp only [aop0, h0, hob]
 rw [if_pos ⟨Nat.zero_le _, trivial⟩]
 simp only [hb2, hb]
 by_cases h : o = 0
 ·subst h; simp
 ·rw [if_neg h, if_neg (by omega), Nat.zero_add]
theorem RT_slicel_own {P : Program} (d : Option Nat) (rest : List AInstr) (K : List AV → AH → Prop) (fr : List AV) (H : AH) (r n : Nat) (x lo : Opd) (k : IntKind) (o : Nat) (ho : o < n) (h0 : evalA fr x = .own r 1 0 n n) (h1 : evalA fr lo = .int k (o : Int)) (hr : (liveO H r n).isSome = true) (t u)
 (h : RT P rest K (setA fr d (.own r 1 o (n - o) n)) H .mk .mk) : RT P (⟨d, none, .slicel 1 x (some lo) none⟩ :: rest) K fr H t u := by
 have e := slicel_own H fr r n x lo k o ho h0 h1 hr
 show RA P _ K fr H
 unfold RA
 show onSome (aop (.slicel 1 x (some lo) none) (evalA fr) H) _
 unfold aop
 rw [e]
 exact h
def overA (b : List UInt8) (o : Nat) (t : List UInt8) : List UInt8 := b.take o ++ t ++ b.drop (o + t.length)
theorem overA_len (b : List UInt8) (o : Nat) (t : List UInt8) (h : o + t.length ≤ b.length) : (overA b o t).length = b.length := by
 unfold overA; simp only [List.length_append, List.length_take, List.length_drop]; omega
theorem over_cells (b : List UInt8) (o : Nat) (t : List UInt8) : List.take o (b.map fun b => [AV.int .u8 b.toNat]) ++ List.take t.length (t.map fun b => [AV.int .u8 b.toNat]) ++ List.drop (o + t.length) (b.map fun b => [AV.int .u8 b.toNat]) = (overA b o t).map fun b => [AV.int .u8 b.toNat] := by
 unfold overA
 rw [List.take_of_length_le (l := t.map _) (by simp)]
 simp only [List.map_append, List.map_take, List.map_drop]
theorem write_spec0 {path : List UInt8} {P : List (List UInt8) → Prop} {B : Prop} (hp : PartsC path P B) (s : List Node) (hw : Wf s) (off : Int) (text : List UInt8) (htl : text.length < 2 ^ 40) :
 C Tryz.prog 42 [aset s, .str path, .int .i64 off, .str text] [] (fun x H' => WriteR P B s off text x ∧ H' = []) := by
 have hlen := hw.len
 refine C_body' d42 rfl (WT_ok ?_)
 unfold c42
 simp only [aset, iaddr_node, pnode, wk3, wk, seval]
 refine CT_ok (file_spec hp s (by omega) (by omega) []) ?_
 rintro _ _ ⟨rfl, ⟨l, hl, k, hk, hR, hk2, rfl⟩ | ⟨e, he, hF, rfl⟩⟩
 ·simp only [iaddr_node, pnode, wk3, wk, seval]
  have h1 : (0 : Int) ≤ k := by omega
  have h2 : (k : Int) < s.length := by omega
  refine guard_both ?_ ?_ <;> intro h3 <;> simp only [hy] at h3
  ·simp only [h3, iaddr_node, pnode, wk3, wk, seval]
   exact KWk_bare (bare_next s _) ⟨.inl ⟨.inr (.inl h3), _, rfl⟩, rfl⟩
  ·simp only [h3, iaddr_node, pnode, wk3, wk, seval]
   by_cases h4 : (128 : Int) < off
   ·simp only [h4, iaddr_node, pnode, wk3, wk, seval]
    exact KWk_bare (bare_next s _) ⟨.inl ⟨.inr (.inr (by omega)), _, rfl⟩, rfl⟩
   ·have w1 : IntKind.i64.wrap ((128 : Int) - off) = 128 - off := IntWalk.i64_in _ (by omega)
    simp only [h4, w1, iaddr_node, pnode, wk3, wk, seval]
    refine guard_both ?_ ?_ <;> intro h5 <;> simp only [hy] at h5
    ·simp only [h5, iaddr_node, pnode, wk3, wk, seval]
     exact KWk_bare (bare_next s _) ⟨.inl ⟨.inr (.inr (by omega)), _, rfl⟩, rfl⟩
    ·simp only [h5, iaddr_node, pnode, wk3, wk, seval]
     refine guard_both ?_ ?_ <;> intro h6 <;> simp only [hy] at h6
     ·simp only [h6, iaddr_node, pnode, wk3, wk, seval]
      subst h6; exact KWk_bare (bare_next s _) ⟨.inr (.inl ⟨rfl, rfl⟩), rfl⟩
     ·obtain ⟨o, rfl⟩ : ∃ m : Nat, off = m := ⟨off.toNat, by omega⟩
      have w2 : IntKind.i64.wrap ((o : Int) + text.length) = ((o + text.length : Nat) : Int) := by rw [IntWalk.i64_in _ (by omega)]; omega
      have hb := hw.bodyD k hk
      simp only [h1, h2, h6, w2, lay, iaddr_node, pnode, wk3, wk, seval]
      rw [show (if ((o + text.length : Nat) : Int) > ((s.getD k default).body.length : Nat) then ((o + text.length : Nat) : Int) else ((s.getD k default).body.length : Nat)) = ((max (s.getD k default).body.length (o + text.length) : Nat) : Int) by split <;> omega]
      generalize hm : max (s.getD k default).body.length (o + text.length) = m
      have hm1 : o + text.length ≤ m := by omega
      have hm2 : m ≤ 128 := by omega
      have htp : 0 < text.length := List.length_pos_iff.2 h6
      refine CT_ok (long_spec (s.getD k default).body m (by omega) _) ?_
      rintro _ _ ⟨rfl, rfl⟩
      simp only [h6, lay, longA_len, iaddr_node, pnode, wk3, wk, seval]
      refine RT_slicel_own _ _ _ _ _ 1 m _ _ _ o (by omega) rfl rfl ?_ _ _ ?_
      ·simp [liveO, AH.at, longA_len]
      simp only [lay, longA_len, iaddr_node, pnode, wk3, wk, seval]
      refine ⟨⟨by omega, by simp⟩, ?_⟩
      rw [← List.length_append, ← List.length_append, show min text.length (m - o) = text.length by omega, over_cells, List.length_map, overA_len _ _ _ (by rw [longA_len]; omega), longA_len]
      simp only [iaddr_node, pnode, wk3, wk, seval]
      rw [List.take_of_length_le (by rw [List.length_map, overA_len _ _ _ (by rw [longA_len]; omega), longA_len]; omega), Option.bind_some, bytesOf_map]
      simp only [lay, iaddr_node, pnode, wk3, wk, seval]
      refine CT_ok (with_spec s (by omega) k ⟨(s.getD k default).kind, (s.getD k default).up, (s.getD k default).name, overA (longA (s.getD k default).body m) o text, (s.getD k default).bad⟩ _) ?_
      rintro _ _ ⟨rfl, rfl⟩
      simp only [iaddr_node, pnode, wk3, wk, seval]
      refine KWk_bare (bare_next _ _) ⟨.inr (.inr ⟨l, hl, k, hk, hR, hk2, overA (longA (s.getD k default).body m) o text, ⟨?_, fun h hb0 => ?_⟩, rfl⟩), rfl⟩
      ·rw [overA_len _ _ _ (by rw [longA_len]; omega), longA_len]; omega
      ·have : o = 0 := by omega
       subst this
       rw [hb0, List.length_nil] at hm
       have : m = text.length := by omega
       subst this
       rw [hb0]
       unfold overA
       rw [Nat.zero_add, List.drop_of_length_le (by rw [longA_len]; exact Nat.le_refl _)]
       simp
 ·simp only [he, iaddr_node, pnode, wk3, wk, seval]
  exact KWk_bare (bare_next s _) ⟨.inl ⟨.inl hF, _, rfl⟩, rfl⟩
theorem WriteR_bare {P : List (List UInt8) → Prop} {B : Prop} {s : List Node} {off : Int} {text : List UInt8} {x : AV} (h : WriteR P B s off text x) : ∃ t e, x = .tuple [aset t, .int .i64 e] := by
 rcases h with ⟨_, e, rfl⟩ | ⟨_, rfl⟩ | ⟨_, _, _, _, _, _, _, _, rfl⟩
 ·exact ⟨_, _, rfl⟩
 ·exact ⟨_, _, rfl⟩
 ·exact ⟨_, _, rfl⟩
theorem write_spec {path : List UInt8} {P : List (List UInt8) → Prop} {B : Prop} (hp : PartsC path P B) (s : List Node) (hw : Wf s) (off : Int) (text : List UInt8) (htl : text.length < 2 ^ 40) (H : AH) :
 C Tryz.prog 42 [aset s, .str path, .int .i64 off, .str text] H (fun x H' => H' = H ∧ WriteR P B s off text x) :=
 (C_pure (K0 := WriteR P B s off text) (write_spec0 hp s hw off text htl) (fun τ => renL_bare τ _ (by simp [bareL, bare, aset])) (by rintro x hx τ; obtain ⟨t, e, rfl⟩ := WriteR_bare hx; exact ren_bare τ _ (bare_next t e)) H).mono fun x H' h => ⟨h.2, h.1⟩
theorem WriteR_next {P : List (List UInt8) → Prop} {B : Prop} {s : List Node} (hw : Wf s) {off : Int} {text : List UInt8} {x : AV} (h : WriteR P B s off text x) : NextW s x := by
 rcases h with ⟨_, e, rfl⟩ | ⟨_, rfl⟩ | ⟨l, _, k, hk, hR, hk2, y, hy, rfl⟩
 ·exact ⟨_, _, hw, rfl⟩
 ·exact ⟨_, _, hw, rfl⟩
 ·exact ⟨_, _, body_wf hw (by have := hw.len; omega) hk2 (downR_some hw hR) hy.1, rfl⟩
end Go.Proofs.YtemjlopoffjmpaaGreat.Abs
set_option linter.unusedSimpArgs false
set_option linter.unusedVariables false
namespace Go.Proofs.YtemjlopoffjmpaaGreat.Abs
open Go Go.Proofs
def cellN (x : List UInt8) : List AV := [.str x]
theorem Wk_strs {fr fr' : List AV} {l : List (List UInt8)} {G : AH} (h : Tops fr' (renL (upTo 1) fr)) : Wk 0 fr (some (l.map cellN) :: G) fr' [some (l.map cellN)] := by
 have h1 := (Wk_forget (n0 := 0) (fr := fr) (H := some (l.map cellN) :: G) 1 (Nat.zero_le _)).trans (Wk_tops h)
 have e : mapH (renL (upTo 1)) ((some (l.map cellN) :: G).take 1) = [some (l.map cellN)] := by
  simp only [List.take_succ_cons, List.take_zero, mapH, List.map_cons, List.map_nil, Option.map_some, List.map_map]
  congr 2
 rwa [e] at h1
theorem KWk_none {K : AV → AH → Prop} {b : Bool} {H : AH} (hk : K (.tuple [.fz [], .bool b]) []) : KWk 0 K (.tuple [.emp, .bool b]) H := by
 have h1 := Wk_forget (n0 := 0) (fr := [.tuple [.emp, .bool b]]) (H := H) 0 (Nat.le_refl _)
 have e : renL (upTo 0) [.tuple [.emp, .bool b]] = [.tuple [.emp, .bool b]] := by simp [renL, ren]
 have e2 : mapH (renL (upTo 0)) (H.take 0) = [] := by simp [mapH]
 rw [e, e2] at h1
 refine ⟨_, [], h1.trans ?_, hk⟩
 intro E w vs hs hr
 refine ⟨E, LeN.refl _ _, hs, hr.1, fun i c u hc hu => ?_⟩
 match i, hc, hu with
 | 0, hc, hu =>
   simp at hc; subst hc
   obtain ⟨ws, rfl, hl, hw⟩ := rep_tuple (hr.2 0 _ u rfl hu)
   refine .tuple _ _ hl fun i c u hc hu => ?_
   match i, hc, hu with
   | 0, hc, hu =>
     simp at hc; subst hc
     obtain ⟨a, rfl⟩ := rep_emp (hw 0 _ u rfl hu)
     exact .pure (x := .fz []) (.fz0 _ _)
   | 1, hc, hu => simp at hc; subst hc; exact hw 1 _ u rfl hu
   | i + 2, hc, _ => simp at hc
 | i + 1, hc, _ => simp at hc
def partsGo : List UInt8 → List UInt8 → List (List UInt8) → Option (List (List UInt8))
 | [], cur, out => if mayN cur = true ∧ out.length < 7 then some (out ++ [cur]) else none
 | c :: r, cur, out => if c = 47 then (if mayN cur = true ∧ out.length < 7 then partsGo r [] (out ++ [cur]) else none) else partsGo r (cur ++ [c]) out
def partsA (path : List UInt8) : Option (List (List UInt8)) := if path = [] then some [] else partsGo path [] []
def partsV : Option (List (List UInt8)) → AV
 | some l => .tuple [.fz (l.map pname), .bool true]
 | none => .tuple [.fz [], .bool false]
theorem partsGo_ok : ∀ (r cur : List UInt8) (out l : List (List UInt8)), partsGo r cur out = some l → (∀ x ∈ out, mayN x = true) → out.length ≤ 7 → (∀ x ∈ l, mayN x = true) ∧ l.length ≤ 7
 | [], cur, out, l, h, ho, hl => by
   unfold partsGo at h
   split at h
   ·rename_i hc
    cases h
    refine ⟨fun x hx => ?_, by simp; omega⟩
    rcases List.mem_append.1 hx with hx | hx
    ·exact ho x hx
    ·rw [List.mem_singleton] at hx; subst hx; exact hc.1
   ·cases h
 | c :: r, cur, out, l, h, ho, hl => by
   unfold partsGo at h
   split at h
   ·split at h
    ·rename_i hc
     refine partsGo_ok r [] _ l h (fun x hx => ?_) (by simp; omega)
     rcases List.mem_append.1 hx with hx | hx
     ·exact ho x hx
     ·rw [List.mem_singleton] at hx; subst hx; exact hc.1
    ·cases h
   ·exact partsGo_ok r _ out l h ho hl
theorem partsA_ok {path : List UInt8} {l : List (List UInt8)} (h : partsA path = some l) : (∀ x ∈ l, mayN x = true) ∧ l.length ≤ 7 := by
 unfold partsA at h
 split at h
 ·cases h; exact ⟨fun x hx => (by cases hx), by simp⟩
 ·exact partsGo_ok _ _ _ _ h (fun x hx => by cases hx) (by simp)
theorem parts_spec0 (path : List UInt8) (hp : path.length ≤ 1000000) :
 C Tryz.prog 109 [.str path] [] (fun x H' => x = partsV (partsA path) ∧ H' = []) := by
 refine C_body' d109 rfl (WT_ok ?_)
 unfold c109
 simp only [iaddr_node, pnode, wk3, wk, seval]
 refine guard_both ?_ ?_ <;> intro h0 <;> simp only [hy] at h0
 ·simp only [h0, iaddr_node, pnode, wk3, wk, seval]
  refine KWk_none ⟨?_, rfl⟩
  simp [partsA, partsV]
 ·have hA : partsA path = partsGo path [] [] := by unfold partsA; rw [if_neg h0]
  simp only [h0, iaddr_node, pnode, wk3, wk, seval]
  refine WT_loop (W_wk (Wk_empAt 4 1 rfl) (W_wk (fr' := [.str path, .top, .emp, .bool false, .own 0 1 0 0 0, .int .i64 0, .int .i64 0] ++ List.replicate 39 .top) (Wk_tops ?_) (W_loop (fun nn fr H' => ∃ (i from' : Nat) (l : List (List UInt8)), from' ≤ i ∧ i ≤ path.length + 1 ∧ nn = path.length + 1 - i ∧ l.length ≤ 7 ∧
   (i ≤ path.length → partsA path = partsGo (path.drop i) (List.drop from' (List.take i path)) l) ∧ (i = path.length + 1 → partsA path = some l) ∧ H' = [some (l.map cellN)] ∧
   fr = [.str path, .top, .emp, .bool false, .own 0 1 0 l.length l.length, .int .i64 from', .int .i64 i] ++ List.replicate 39 .top) (path.length + 1) ⟨0, 0, [], by omega, by omega, rfl, by simp, fun _ => hA, fun h => by omega, rfl, rfl⟩ ?_)))
  ·simp only [List.replicate_succ, List.replicate_zero, List.set_cons_succ, List.set_cons_zero, List.cons_append, List.nil_append, List.length_nil, Tops_top, Tops_same, Tops_nil]
  rintro nn fr H' ⟨i, from', l, hfi, hi, rfl, hl, hgo, hend, rfl, rfl⟩
  refine WT_ok ?_
  simp only [iaddr_node, pnode, wk3, wk, seval]
  refine guard_both ?_ ?_ <;> intro h <;> simp only [hy] at h
  ·have g0 : (0 : Int) ≤ i := by omega
   have gf : (0 : Int) ≤ from' := by omega
   have gfi : (from' : Int) ≤ i := by omega
   have w2 : IntKind.i64.wrap ((i : Int) + 1) = ((i + 1 : Nat) : Int) := by rw [IntWalk.i64_in _ (by omega)]; omega
   have hgo' := hgo (by omega)
   generalize hcur : List.drop from' (List.take i path) = cur at hgo'
   by_cases h1 : (i : Int) < path.length
   ·have hil : i < path.length := by omega
    have hd : path.drop i = path[i] :: path.drop (i + 1) := List.drop_eq_getElem_cons hil
    have hgi : path.getD i 0 = path[i] := by rw [List.getD_eq_getElem?_getD, List.getElem?_eq_getElem hil]; rfl
    rw [hd] at hgo'
    unfold partsGo at hgo'
    simp only [h, h1, g0, gf, gfi, hgi, iaddr_node, pnode, wk3, wk, seval]
    refine guard_both ?_ ?_ <;> intro h2 <;> simp only [hy] at h2
    ·have h47 : ¬ path[i] = 47 := by
      intro e; rw [e] at h2; exact h2 rfl
     rw [if_neg h47] at hgo'
     simp only [h, h1, h2, w2, iaddr_node, pnode, wk3, wk, seval]
     refine QLoop_go (n' := path.length + 1 - (i + 1)) (by omega) ⟨i + 1, from', l, by omega, by omega, rfl, hl, fun _ => ?_, fun e => by omega, rfl, rfl⟩ (by simp only [List.replicate_succ, List.replicate_zero, List.cons_append, List.nil_append, Tops_top, Tops_same, Tops_nil])
     rw [hgo', ← hcur, List.take_add_one, List.getElem?_eq_getElem hil, List.drop_append_of_le_length (by simp; omega)]
     rfl
    ·have h47 : path[i] = 47 := by
      have h3 : path[i].toNat = 47 := by omega
      exact UInt8.toNat_inj.1 h3
     rw [if_pos h47] at hgo'
     simp only [h, h1, h2, g0, gf, gfi, hcur, iaddr_node, pnode, wk3, wk, seval]
     refine CT_ok (mayname_spec _ ?_ _) ?_
     ·rw [← hcur]; simp only [List.length_drop, List.length_take]; omega
     rintro _ H ⟨rfl, rfl⟩
     by_cases hm : mayN cur = true
     ·by_cases h3 : (7 : Int) ≤ l.length
      ·rw [if_neg (by omega)] at hgo'
       simp only [h, h1, h2, h3, hm, g0, gf, gfi, iaddr_node, pnode, wk3, wk, seval]
       refine KWk_none ⟨?_, rfl⟩
       rw [hgo']; rfl
      ·rw [if_pos ⟨hm, by omega⟩] at hgo'
       have e : List.map cellN l ++ [[AV.str cur]] = (l ++ [cur]).map cellN := by simp [cellN]
       simp only [h, h1, h2, h3, hm, g0, gf, gfi, w2, hcur, iaddr_node, pnode, wk3, wk, seval]
       rw [e]
       refine ⟨⟨by omega, by omega⟩, ?_⟩
       refine QLoop_wk (n' := path.length + 1 - (i + 1)) (by omega) ⟨i + 1, i + 1, l ++ [cur], by omega, by omega, rfl, by simp; omega, fun _ => ?_, fun e => by omega, rfl, rfl⟩ (Wk_strs ?_)
       ·rw [hgo', show List.drop (i + 1) (List.take (i + 1) path) = [] from List.drop_of_length_le (by simp; omega)]
       ·simp only [List.length_append, List.length_cons, List.length_nil, List.replicate_succ, List.replicate_zero, List.cons_append, List.nil_append, renL, ren, upTo, Nat.zero_add, Nat.zero_lt_one, if_true, Tops_top, Tops_same, Tops_nil]
     ·rw [if_neg (by simp [hm])] at hgo'
      rw [Bool.not_eq_true] at hm
      simp only [h, h1, h2, hm, g0, gf, gfi, iaddr_node, pnode, wk3, wk, seval]
      refine KWk_none ⟨?_, rfl⟩
      rw [hgo']; rfl
   ·have hil : i = path.length := by omega
    rw [List.drop_of_length_le (by omega)] at hgo'
    unfold partsGo at hgo'
    simp only [h, h1, g0, gf, gfi, hcur, iaddr_node, pnode, wk3, wk, seval]
    refine CT_ok (mayname_spec _ ?_ _) ?_
    ·rw [← hcur]; simp only [List.length_drop, List.length_take]; omega
    rintro _ H ⟨rfl, rfl⟩
    by_cases hm : mayN cur = true
    ·by_cases h3 : (7 : Int) ≤ l.length
     ·rw [if_neg (by omega)] at hgo'
      simp only [h, h1, h3, hm, g0, gf, gfi, iaddr_node, pnode, wk3, wk, seval]
      refine KWk_none ⟨?_, rfl⟩
      rw [hgo']; rfl
     ·rw [if_pos ⟨hm, by omega⟩] at hgo'
      have e : List.map cellN l ++ [[AV.str cur]] = (l ++ [cur]).map cellN := by simp [cellN]
      simp only [h, h1, h3, hm, g0, gf, gfi, w2, hcur, iaddr_node, pnode, wk3, wk, seval]
      rw [e]
      refine ⟨⟨by omega, by omega⟩, ?_⟩
      refine QLoop_wk (n' := path.length + 1 - (i + 1)) (by omega) ⟨i + 1, i + 1, l ++ [cur], by omega, by omega, rfl, by simp; omega, fun e => by omega, fun _ => hgo', rfl, rfl⟩ (Wk_strs ?_)
      simp only [List.length_append, List.length_cons, List.length_nil, List.replicate_succ, List.replicate_zero, List.cons_append, List.nil_append, renL, ren, upTo, Nat.zero_add, Nat.zero_lt_one, if_true, Tops_top, Tops_same, Tops_nil]
    ·rw [if_neg (by simp [hm])] at hgo'
     rw [Bool.not_eq_true] at hm
     simp only [h, h1, hm, g0, gf, gfi, iaddr_node, pnode, wk3, wk, seval]
     refine KWk_none ⟨?_, rfl⟩
     rw [hgo']; rfl
  ·have hA2 := hend (by omega)
   simp only [h, iaddr_node, pnode, wk3, wk, seval]
   refine KWk_frozen 0 (l.map pname) ?_ (.tuple [.fz (l.map pname), .bool true]) ?_ ⟨by rw [hA2]; rfl, rfl⟩
   ·simp [AH.at, cellN, pname, emb]
   ·simp only [frzL, frz, renL, ren, if_true, List.length_map, Nat.zero_add, Nat.le_refl, and_self, List.drop_zero]
    rw [List.take_of_length_le (by simp)]
theorem parts_exact (path : List UInt8) (hp : path.length ≤ 1000000) : PartsC path (fun l => partsA path = some l) (partsA path = none) := fun H =>
 (C_pure (K0 := fun x => x = partsV (partsA path)) (parts_spec0 path hp) (fun τ => renL_bare τ _ (by simp [bareL, bare])) (by rintro x rfl τ; cases partsA path <;> exact ren_bare τ _ (by simp [bare, bareL, partsV])) H).mono fun x H' h => ⟨h.2, by
  rw [h.1]
  cases e : partsA path with
  | some l => exact .inl ⟨l, rfl, (partsA_ok e).2, rfl⟩
  | none => exact .inr ⟨rfl, rfl⟩⟩
theorem PartsC.weak {path : List UInt8} {P P' : List (List UInt8) → Prop} {B B' : Prop} (h : PartsC path P B) (hP : ∀ l, P l → P' l) (hB : B → B') : PartsC path P' B' := fun H =>
 (h H).mono fun x H' g => ⟨g.1, g.2.elim (fun ⟨l, h1, h2, h3⟩ => .inl ⟨l, hP l h1, h2, h3⟩) (fun ⟨h1, h2⟩ => .inr ⟨hB h1, h2⟩)⟩
def Names (l : List (List UInt8)) : Prop := ∀ x ∈ l, mayN x = true
theorem parts_loose (path : List UInt8) (hp : path.length ≤ 1000000) : PartsC path Names True := (parts_exact path hp).weak (fun l h => (partsA_ok h).1) (fun _ => trivial)
end Go.Proofs.YtemjlopoffjmpaaGreat.Abs
set_option linter.unusedSimpArgs false
set_option linter.unusedVariables false
namespace Go.Proofs.YtemjlopoffjmpaaGreat.Abs
open Go Go.Proofs
theorem make_next {path : List UInt8} {P : List (List UInt8) → Prop} {B : Prop} (hp : PartsC path P B) (hP : ∀ l, P l → ∀ x ∈ l, mayN x = true) (s : List Node) (hw : Wf s) (kind : Int) (H : AH) :
 C Tryz.prog 41 [aset s, .str path, .int .i64 kind] H (fun x H' => H' = H ∧ NextW s x) := by
 have hlen := hw.len
 refine (make_spec hp s (by omega) (by omega) kind H).mono ?_
 rintro x H' ⟨rfl, ⟨e, _, rfl⟩ | ⟨l, a, up, n, hl, hup, _, hk2, hno, hn, hn0, hk, rfl⟩⟩
 ·exact ⟨rfl, _, _, hw, rfl⟩
 ·exact ⟨rfl, _, _, make_wf hw (by omega) hk2 hno (by omega) hn0 hk (hP _ hl a (by simp)), rfl⟩
theorem write_next {path : List UInt8} {P : List (List UInt8) → Prop} {B : Prop} (hp : PartsC path P B) (s : List Node) (hw : Wf s) (off : Int) (text : List UInt8) (htl : text.length < 2 ^ 40) (H : AH) :
 C Tryz.prog 42 [aset s, .str path, .int .i64 off, .str text] H (fun x H' => H' = H ∧ NextW s x) := (write_spec hp s hw off text htl H).mono fun x H' h => ⟨h.1, WriteR_next hw h.2⟩
end Go.Proofs.YtemjlopoffjmpaaGreat.Abs
set_option linter.unusedSimpArgs false
set_option linter.unusedVariables false
namespace Go.Proofs.YtemjlopoffjmpaaGreat.Abs
open Go Go.Proofs
def editA (k i n : Int) (p q t : List UInt8) : AV := .agg [.int .i64 k, .int .i64 i, .int .i64 n, .int .i64 0, .int .i64 0, .str p, .str q, .str t, .emp]
def EditR (l : List UInt8) (n : Int) (x : AV) (H' : AH) : Prop := ∃ (k i m n' : Int) (p q t : List UInt8), p.length ≤ 1000000 ∧ q.length ≤ 1000000 ∧ t.length ≤ 1000000 ∧ (n ≤ n' ∧ 1 ≤ k ∧ k ≤ 5) ∧ x = editA k i m p q t ∧ H' = picksH l n'
theorem KWk_edit {l : List UInt8} {n k i m n' : Int} {p q t : List UInt8} {R : AH} (hp : p.length ≤ 1000000) (hq : q.length ≤ 1000000) (ht : t.length ≤ 1000000) (hn : n ≤ n' ∧ 1 ≤ k ∧ k ≤ 5) :
 KWk 1 (EditR l n) (.agg [.int .i64 k, .int .i64 i, .int .i64 m, .int .i64 0, .int .i64 0, .str p, .str q, .str t, .emp]) (some [[.fz (l.map pbyte), .int .i64 n']] :: R) := by
 refine ⟨_, _, ?_, k, i, m, n', p, q, t, hp, hq, ht, hn, rfl, rfl⟩
 have h := Wk_forget (n0 := 1) (fr := [editA k i m p q t]) (H := some [[.fz (l.map pbyte), .int .i64 n']] :: R) 1 (Nat.le_refl _)
 simpa [mapH, renL, ren, editA, picksH] using h
theorem path_at (l : List UInt8) (n : Int) (hn : 0 ≤ n) (hl : l.length ≤ 1000000) (R : AH) :
 C Tryz.prog 84 [.ptr 0 0 0 1] (some [[.fz (l.map pbyte), .int .i64 n]] :: R) (fun x H' => ∃ (p : List UInt8) (n' : Int), x = .str p ∧ p.length ≤ 11 ∧ n ≤ n' ∧ H' = some [[.fz (l.map pbyte), .int .i64 n']] :: R) := by
 refine C_call (K0 := fun x H' => ∃ (p : List UInt8) (n' : Int), x = .str p ∧ p.length ≤ 11 ∧ n ≤ n' ∧ n' ≤ n + 1 ∧ H' = picksH l n') [0] (by simp) (by simp) ?_ ?_
 ·exact path_spec l n hn hl
 ·rintro _ _ ⟨p, n', rfl, h1, h2, h3, rfl⟩
  exact ⟨Nat.le_refl _, p, n', rfl, h1, h2, by simp [back, setAll, picksH, renO, renL, ren]⟩
section
variable {c : Nat} {late : List Loc → List Loc → Prop} {K : List Nat → Nat → AV → AH → Prop} {t : Tag K}
theorem CFT_num (l : List UInt8) (n k : Int) (hn : 0 ≤ n) (hl : l.length ≤ 1000000) {R : AH} (hc : 0 < c ∧ c ≤ R.length + 1) (hlate : late [.con 0] [.con 0, .len 0])
 (hk : ∀ m n' : Int, 0 ≤ m → (1 ≤ k → m < k) → (k < 1 → m = 0) → n ≤ n' → K [0] c (.int .i64 m) (some [[.fz (l.map pbyte), .int .i64 n']] :: R)) :
 CFT Tryz.prog 44 [.ptr 0 0 0 1, .int .i64 k] c (some [[.fz (l.map pbyte), .int .i64 n]] :: R) late K t := by
 refine CFT_ok [0] 0 (num_spec l n k hn hl) (by simp; omega) hlate ?_
 rintro _ _ ⟨m, n', rfl, h1, h2, h3, h4, h5, rfl⟩
 have := hk m n' h1 h2 h3 h4
 refine ⟨by simp [picksH], ?_⟩
 simpa [setAll, picksH, renO, renL, ren] using this
theorem CFT_path (l : List UInt8) (n : Int) (hn : 0 ≤ n) (hl : l.length ≤ 1000000) {R : AH} (hc : 0 < c ∧ c ≤ R.length + 1) (hlate : late [.con 0] [.con 0, .len 0])
 (hk : ∀ (p : List UInt8) (n' : Int), p.length ≤ 11 → n ≤ n' → K [0] c (.str p) (some [[.fz (l.map pbyte), .int .i64 n']] :: R)) :
 CFT Tryz.prog 84 [.ptr 0 0 0 1] c (some [[.fz (l.map pbyte), .int .i64 n]] :: R) late K t := by
 refine CFT_ok [0] 0 (path_spec l n hn hl) (by simp; omega) hlate ?_
 rintro _ _ ⟨m, n', rfl, h1, h2, h3, rfl⟩
 have := hk m n' h1 h2
 refine ⟨by simp [picksH], ?_⟩
 simpa [setAll, picksH, renO, renL, ren] using this
theorem CFT_text (l : List UInt8) (n : Int) (hn : 0 ≤ n) (hl : l.length ≤ 1000000) {R : AH} (hc : 0 < c ∧ c ≤ R.length + 1) (hlate : late [.con 0] [.con 0, .len 0])
 (hk : ∀ (p : List UInt8) (n' : Int), p.length ≤ 129 → n ≤ n' → K [0] c (.str p) (some [[.fz (l.map pbyte), .int .i64 n']] :: R)) :
 CFT Tryz.prog 85 [.ptr 0 0 0 1] c (some [[.fz (l.map pbyte), .int .i64 n]] :: R) late K t := by
 refine CFT_ok [0] 0 (text_spec l n hn hl) (by simp; omega) hlate ?_
 rintro _ _ ⟨m, n', rfl, h1, h2, h3, rfl⟩
 have := hk m n' h1 h2
 refine ⟨by simp [picksH], ?_⟩
 simpa [setAll, picksH, renO, renL, ren] using this
end
theorem ints_get (vs : List Int) (m : Int) (h0 : 0 ≤ m) (h : m < vs.length) : ∃ v, (vs.map fun v => [AV.int .i64 v])[m.toNat]? = some [AV.int .i64 v] ∧ v ∈ vs := by
 refine ⟨vs[m.toNat]'(by omega), ?_, List.getElem_mem _⟩
 rw [List.getElem?_map, List.getElem?_eq_getElem (by omega), Option.map_some]
theorem edit_spec (l : List UInt8) (n i : Int) (hn : 0 ≤ n) (hl : l.length ≤ 1000000) :
 C Tryz.prog 46 [.ptr 0 0 0 1, .int .i64 i] (picksH l n) (EditR l n) := by
 refine C_body' d46 rfl (WT_ok ?_)
 unfold c46
 simp only [picksH, iaddr_node, pnode, wk3, wk, Nat.reduceAdd, Nat.reduceSub, Nat.reduceMul, Nat.reduceLeDiff, Nat.reduceEqDiff, Nat.reduceBEq, Int.reduceLE, Int.reduceLT, Int.reduceEq, Int.reduceNe, Int.reduceAdd, Int.reduceSub, Int.reduceToNat, Int.reduceNeg, ↓reduceIte, reduceCtorEq]
 refine WT_drawE ?_
 refine WDT_more 2 ?_
 simp only [picksH, lay, iaddr_node, pnode, wk3, wk, Nat.reduceAdd, Nat.reduceSub, Nat.reduceMul, Nat.reduceLeDiff, Nat.reduceEqDiff, Nat.reduceBEq, Int.reduceLE, Int.reduceLT, Int.reduceEq, Int.reduceNe, Int.reduceAdd, Int.reduceSub, Int.reduceToNat, Int.reduceNeg, ↓reduceIte, reduceCtorEq]
 refine ⟨by omega, by omega, ?_⟩
 refine CFT_num l n 12 hn hl (by simp) ⟨by rfl, by rfl⟩ ?_
 intro m n' h1 h2 h3 h4
 have g1 : m < 12 := h2 (by omega)
 obtain ⟨v, hv, hvm⟩ := ints_get [1, 1, 1, 2, 3, 3, 4, 4, 4, 5, 1, 4] m h1 g1
 simp only [List.map_cons, List.map_nil] at hv
 have hvb : 1 ≤ v ∧ v ≤ 5 := by simp at hvm; omega
 simp only [ren, renL, h1, g1, hv, lay, iaddr_node, pnode, wk3, wk, Nat.reduceAdd, Nat.reduceSub, Nat.reduceMul, Nat.reduceLeDiff, Nat.reduceEqDiff, Nat.reduceBEq, Int.reduceLE, Int.reduceLT, Int.reduceEq, Int.reduceNe, Int.reduceAdd, Int.reduceSub, Int.reduceToNat, Int.reduceNeg, ↓reduceIte, reduceCtorEq]
 refine ⟨g1, ?_⟩
 refine CFT_path l n' (by omega) hl (by simp) ⟨by rfl, by rfl⟩ ?_
 intro p n1 hp hn1
 simp only [ren, renL, lay, iaddr_node, pnode, wk3, wk, Nat.reduceAdd, Nat.reduceSub, Nat.reduceMul, Nat.reduceLeDiff, Nat.reduceEqDiff, Nat.reduceBEq, Int.reduceLE, Int.reduceLT, Int.reduceEq, Int.reduceNe, Int.reduceAdd, Int.reduceSub, Int.reduceToNat, Int.reduceNeg, ↓reduceIte, reduceCtorEq]
 refine ⟨by rfl, ?_⟩
 by_cases v1 : v = 1
 ·simp only [v1, lay, iaddr_node, pnode, wk3, wk, Nat.reduceAdd, Nat.reduceSub, Nat.reduceMul, Nat.reduceLeDiff, Nat.reduceEqDiff, Nat.reduceBEq, Int.reduceLE, Int.reduceLT, Int.reduceEq, Int.reduceNe, Int.reduceAdd, Int.reduceSub, Int.reduceToNat, Int.reduceNeg, ↓reduceIte, reduceCtorEq]
  refine CT_ok (num_at l n1 2 (by omega) hl _) ?_
  rintro _ H ⟨m2, n2, rfl, k1, k2, k3, k4, _, rfl⟩
  simp only [lay, iaddr_node, pnode, wk3, wk, Nat.reduceAdd, Nat.reduceSub, Nat.reduceMul, Nat.reduceLeDiff, Nat.reduceEqDiff, Nat.reduceBEq, Int.reduceLE, Int.reduceLT, Int.reduceEq, Int.reduceNe, Int.reduceAdd, Int.reduceSub, Int.reduceToNat, Int.reduceNeg, ↓reduceIte, reduceCtorEq]
  refine CT_ok (num_at l n2 16 (by omega) hl _) ?_
  rintro _ H ⟨m3, n3, rfl, j1, j2, j3, j4, _, rfl⟩
  simp only [lay, iaddr_node, pnode, wk3, wk, Nat.reduceAdd, Nat.reduceSub, Nat.reduceMul, Nat.reduceLeDiff, Nat.reduceEqDiff, Nat.reduceBEq, Int.reduceLE, Int.reduceLT, Int.reduceEq, Int.reduceNe, Int.reduceAdd, Int.reduceSub, Int.reduceToNat, Int.reduceNeg, ↓reduceIte, reduceCtorEq]
  refine guard_both ?_ ?_ <;> intro b <;> simp only [hy] at b
  ·simp only [b, lay, iaddr_node, pnode, wk3, wk, Nat.reduceAdd, Nat.reduceSub, Nat.reduceMul, Nat.reduceLeDiff, Nat.reduceEqDiff, Nat.reduceBEq, Int.reduceLE, Int.reduceLT, Int.reduceEq, Int.reduceNe, Int.reduceAdd, Int.reduceSub, Int.reduceToNat, Int.reduceNeg, ↓reduceIte, reduceCtorEq]
   refine CT_ok (num_at l n3 5 (by omega) hl _) ?_
   rintro _ H ⟨m4, n4, rfl, i1, i2, i3, i4, _, rfl⟩
   simp only [lay, iaddr_node, pnode, wk3, wk, Nat.reduceAdd, Nat.reduceSub, Nat.reduceMul, Nat.reduceLeDiff, Nat.reduceEqDiff, Nat.reduceBEq, Int.reduceLE, Int.reduceLT, Int.reduceEq, Int.reduceNe, Int.reduceAdd, Int.reduceSub, Int.reduceToNat, Int.reduceNeg, ↓reduceIte, reduceCtorEq]
   exact KWk_edit (by omega) (by simp) (by simp) (by omega)
  ·simp only [b, lay, iaddr_node, pnode, wk3, wk, Nat.reduceAdd, Nat.reduceSub, Nat.reduceMul, Nat.reduceLeDiff, Nat.reduceEqDiff, Nat.reduceBEq, Int.reduceLE, Int.reduceLT, Int.reduceEq, Int.reduceNe, Int.reduceAdd, Int.reduceSub, Int.reduceToNat, Int.reduceNeg, ↓reduceIte, reduceCtorEq]
   exact KWk_edit (by omega) (by simp) (by simp) (by omega)
 by_cases v3 : v = 3
 ·simp only [v3, lay, iaddr_node, pnode, wk3, wk, Nat.reduceAdd, Nat.reduceSub, Nat.reduceMul, Nat.reduceLeDiff, Nat.reduceEqDiff, Nat.reduceBEq, Int.reduceLE, Int.reduceLT, Int.reduceEq, Int.reduceNe, Int.reduceAdd, Int.reduceSub, Int.reduceToNat, Int.reduceNeg, ↓reduceIte, reduceCtorEq]
  refine CT_ok (path_at l n1 (by omega) hl _) ?_
  rintro _ H ⟨q, n2, rfl, k1, k2, rfl⟩
  simp only [lay, iaddr_node, pnode, wk3, wk, Nat.reduceAdd, Nat.reduceSub, Nat.reduceMul, Nat.reduceLeDiff, Nat.reduceEqDiff, Nat.reduceBEq, Int.reduceLE, Int.reduceLT, Int.reduceEq, Int.reduceNe, Int.reduceAdd, Int.reduceSub, Int.reduceToNat, Int.reduceNeg, ↓reduceIte, reduceCtorEq]
  exact KWk_edit (by omega) (by omega) (by simp) (by omega)
 by_cases v4 : v = 4
 ·simp only [v4, lay, iaddr_node, pnode, wk3, wk, Nat.reduceAdd, Nat.reduceSub, Nat.reduceMul, Nat.reduceLeDiff, Nat.reduceEqDiff, Nat.reduceBEq, Int.reduceLE, Int.reduceLT, Int.reduceEq, Int.reduceNe, Int.reduceAdd, Int.reduceSub, Int.reduceToNat, Int.reduceNeg, ↓reduceIte, reduceCtorEq]
  refine WT_drawE ?_
  refine WDT_more 1 ?_
  simp only [ren, renL, lay, iaddr_node, pnode, wk3, wk, Nat.reduceAdd, Nat.reduceSub, Nat.reduceMul, Nat.reduceLeDiff, Nat.reduceEqDiff, Nat.reduceBEq, Int.reduceLE, Int.reduceLT, Int.reduceEq, Int.reduceNe, Int.reduceAdd, Int.reduceSub, Int.reduceToNat, Int.reduceNeg, ↓reduceIte, reduceCtorEq]
  refine ⟨by omega, ?_⟩
  refine CFT_num l n1 8 (by omega) hl (by simp) ⟨by rfl, by rfl⟩ ?_
  intro m2 n2 k1 k2 k3 k4
  have k5 : m2 < 8 := k2 (by omega)
  obtain ⟨u, hu, _⟩ := ints_get [0, 0, 1, 31, 32, 64, 100, 130] m2 k1 k5
  simp only [List.map_cons, List.map_nil] at hu
  simp only [ren, renL, k1, k5, hu, lay, iaddr_node, pnode, wk3, wk, Nat.reduceAdd, Nat.reduceSub, Nat.reduceMul, Nat.reduceLeDiff, Nat.reduceEqDiff, Nat.reduceBEq, Int.reduceLE, Int.reduceLT, Int.reduceEq, Int.reduceNe, Int.reduceAdd, Int.reduceSub, Int.reduceToNat, Int.reduceNeg, ↓reduceIte, reduceCtorEq]
  refine ⟨k5, ?_⟩
  refine CFT_text l n2 (by omega) hl (by simp) ⟨by rfl, by rfl⟩ ?_
  intro q n3 hq hn3
  simp only [ren, renL, lay, iaddr_node, pnode, wk3, wk, Nat.reduceAdd, Nat.reduceSub, Nat.reduceMul, Nat.reduceLeDiff, Nat.reduceEqDiff, Nat.reduceBEq, Int.reduceLE, Int.reduceLT, Int.reduceEq, Int.reduceNe, Int.reduceAdd, Int.reduceSub, Int.reduceToNat, Int.reduceNeg, ↓reduceIte, reduceCtorEq]
  refine ⟨by rfl, ?_⟩
  exact KWk_edit (by omega) (by simp) (by omega) (by omega)
 by_cases v5 : v = 5
 ·simp only [v5, lay, iaddr_node, pnode, wk3, wk, Nat.reduceAdd, Nat.reduceSub, Nat.reduceMul, Nat.reduceLeDiff, Nat.reduceEqDiff, Nat.reduceBEq, Int.reduceLE, Int.reduceLT, Int.reduceEq, Int.reduceNe, Int.reduceAdd, Int.reduceSub, Int.reduceToNat, Int.reduceNeg, ↓reduceIte, reduceCtorEq]
  refine CT_ok (num_at l n1 8 (by omega) hl _) ?_
  rintro _ H ⟨m2, n2, rfl, k1, k2, k3, k4, _, rfl⟩
  have k5 : m2 < 8 := k2 (by omega)
  obtain ⟨u, hu, _⟩ := ints_get [0, 1, 32, 33, 128, 129, 60, 64] m2 k1 k5
  simp only [List.map_cons, List.map_nil] at hu
  simp only [k1, k5, hu, lay, iaddr_node, pnode, wk3, wk, Nat.reduceAdd, Nat.reduceSub, Nat.reduceMul, Nat.reduceLeDiff, Nat.reduceEqDiff, Nat.reduceBEq, Int.reduceLE, Int.reduceLT, Int.reduceEq, Int.reduceNe, Int.reduceAdd, Int.reduceSub, Int.reduceToNat, Int.reduceNeg, ↓reduceIte, reduceCtorEq]
  first | exact KWk_edit (by omega) (by simp) (by simp) (by omega) | exact ⟨k5, KWk_edit (by omega) (by simp) (by simp) (by omega)⟩
 ·simp only [v1, v3, v4, v5, lay, iaddr_node, pnode, wk3, wk, Nat.reduceAdd, Nat.reduceSub, Nat.reduceMul, Nat.reduceLeDiff, Nat.reduceEqDiff, Nat.reduceBEq, Int.reduceLE, Int.reduceLT, Int.reduceEq, Int.reduceNe, Int.reduceAdd, Int.reduceSub, Int.reduceToNat, Int.reduceNeg, ↓reduceIte, reduceCtorEq]
  exact KWk_edit (by omega) (by simp) (by simp) (by omega)
end Go.Proofs.YtemjlopoffjmpaaGreat.Abs
set_option linter.unusedSimpArgs false
set_option linter.unusedVariables false
namespace Go.Proofs.YtemjlopoffjmpaaGreat.Abs
open Go Go.Proofs
theorem newA_get (i : Nat) (h1 : 1 ≤ i) (h8 : i < 8) : newA.getD i default = ⟨0, 0, [], [], 0⟩ := by
 rcases (by omega : i = 1 ∨ i = 2 ∨ i = 3 ∨ i = 4 ∨ i = 5 ∨ i = 6 ∨ i = 7) with rfl | rfl | rfl | rfl | rfl | rfl | rfl <;> rfl
theorem newA_wf : Wf newA := by
 refine ⟨rfl, rfl, fun i h1 h8 => ?_, fun i k h1 h8 _ _ hk => ?_, fun i => i, fun i h1 h8 hk => ?_⟩
 ·rw [newA_get i h1 h8]
  exact ⟨rfl, .inl rfl, fun _ => rfl, fun e => absurd e (by decide), fun e => absurd rfl e, ⟨by decide, by decide⟩, fun e => absurd rfl e, by show 0 ≤ 128; omega⟩
 ·rw [newA_get i h1 h8] at hk; exact absurd rfl hk
 ·rw [newA_get i h1 h8] at hk; exact absurd rfl hk
end Go.Proofs.YtemjlopoffjmpaaGreat.Abs
set_option linter.unusedSimpArgs false
set_option linter.unusedVariables false
namespace Go.Proofs.YtemjlopoffjmpaaGreat.Abs
open Go Go.Proofs
theorem clone_emp0 : C Tryz.prog 48 [.emp] [] (fun x H' => x = .own 0 5 0 0 0 ∧ H' = [some []]) := by
 refine C_body' d48 rfl (WT_ok ?_)
 unfold c48
 simp only [wk3, wk, iaddrV_map, seval]
 intro b
 cases b
 ·simp only [wk3, wk, iaddrV_map, seval]
  exact ⟨_, _, Wk.refl _ _ _, rfl, rfl⟩
 ·simp only [wk3, wk, iaddrV_map, seval]
  exact ⟨_, _, Wk_emp 5, rfl, rfl⟩
theorem clone2_emp0 : C Tryz.prog 49 [.emp] [] (fun x H' => x = .own 0 5 0 0 0 ∧ H' = [some []]) := by
 refine C_body' d49 rfl (WT_ok ?_)
 unfold c49
 simp only [wk3, wk, iaddrV_map, seval]
 intro b
 cases b
 ·simp only [wk3, wk, iaddrV_map, seval]
  exact ⟨_, _, Wk.refl _ _ _, rfl, rfl⟩
 ·simp only [wk3, wk, iaddrV_map, seval]
  exact ⟨_, _, Wk_emp 5, rfl, rfl⟩
theorem clone_emp (H : AH) : C Tryz.prog 48 [.emp] H (fun x H' => x = .own H.length 5 0 0 0 ∧ H' = H ++ [some []]) :=
 C_call [] List.nodup_nil (fun r hr => by cases hr) clone_emp0 (by rintro _ _ ⟨rfl, rfl⟩; exact ⟨Nat.zero_le _, by simp [ren, toCaller, back, setAll, renO]⟩)
theorem clone2_emp (H : AH) : C Tryz.prog 49 [.emp] H (fun x H' => x = .own H.length 5 0 0 0 ∧ H' = H ++ [some []]) :=
 C_call [] List.nodup_nil (fun r hr => by cases hr) clone2_emp0 (by rintro _ _ ⟨rfl, rfl⟩; exact ⟨Nat.zero_le _, by simp [ren, toCaller, back, setAll, renO]⟩)
def orcC : CallF := fun f args H =>
 if f = 48 ∨ f = 49 then
  match args with
  | [.emp] => some (.own H.length 5 0 0 0, H ++ [some []])
  | _ => none
 else none
theorem orcC_ok : EvOk Tryz.prog orcC := by
 intro f args H x H' h
 unfold orcC at h
 split at h
 ·rename_i hf
  split at h
  ·cases h
   rcases hf with rfl | rfl
   ·exact clone_emp H
   ·exact clone2_emp H
  ·cases h
 ·cases h
end Go.Proofs.YtemjlopoffjmpaaGreat.Abs
set_option linter.unusedSimpArgs false
set_option linter.unusedVariables false
namespace Go.Proofs.YtemjlopoffjmpaaGreat.Abs
open Go Go.Proofs
def cellD (d : Dset) : List AV := [.int .i64 d.id, .int .i64 d.kind, .int .i64 d.origin, .int .i64 d.quota, aset d.files]
theorem clone_set0 (x : Node) (s : List Node) (hs : (x :: s).length ≤ 1000000) : C Tryz.prog 49 [aset (x :: s)] [] (fun y H' => y = aset (x :: s) ∧ H' = []) := by
 refine C_body' d49 rfl (WT_ok ?_)
 unfold c49
 simp only [aset, wk3, wk, iaddrV_map, seval]
 refine ⟨⟨?_, by simp at hs; omega, by simp at hs; omega⟩, ?_⟩
 ·rw [Bool.and_eq_true]
  refine ⟨rfl, ?_⟩
  rw [List.all_eq_true]
  intro e he
  obtain ⟨r, hr, rfl⟩ := List.mem_map.1 he
  obtain ⟨z, _, rfl⟩ := List.mem_map.1 hr
  rfl
 ·refine KWk_frozen 0 ((x :: s).map pnode) rfl (aset (x :: s)) ?_ ⟨rfl, rfl⟩
  simp only [frzL, frz, renL, ren, if_true, List.length_map, List.length_cons, Nat.zero_add, Nat.le_refl, and_self, List.drop_zero, aset]
  rw [List.take_of_length_le (by simp)]
theorem KWk_first {K : AV → AH → Prop} {x : AV} {o : AObj} {G : AH} (hx : bare x = true) (ho : o.map (renL (upTo 1)) = o) (hk : K x [some o]) : KWk 1 K x (some o :: G) := by
 refine ⟨x, [some o], ?_, hk⟩
 have h1 := Wk_forget (n0 := 1) (fr := [x]) (H := some o :: G) 1 (Nat.le_refl _)
 rw [renL_bare _ _ (by simp [bareL, hx])] at h1
 have e : mapH (renL (upTo 1)) ((some o :: G).take 1) = [some o] := by
  simp only [List.take_succ_cons, List.take_zero, mapH, List.map_cons, List.map_nil, Option.map_some, ho]
 rwa [e] at h1
theorem isId82 (d : Dset) (i : Int) : C Tryz.prog 102 [.agg (cellD d), .ptr 0 0 0 1] [some [[.int .i64 i]]] (fun x H' => x = .bool (decide (d.id = i)) ∧ H' = [some [[.int .i64 i]]]) := by
 refine C_body' d102 rfl (WT_ok ?_)
 unfold c102
 simp only [cellD, aset, lay, wk, iaddrV_map, seval]
 refine KWk_first (by simp [bare]) (by simp [renL, ren]) ⟨rfl, rfl⟩
end Go.Proofs.YtemjlopoffjmpaaGreat.Abs
set_option linter.unusedSimpArgs false
set_option linter.unusedVariables false
namespace Go.Proofs.YtemjlopoffjmpaaGreat.Abs
open Go Go.Proofs
theorem Wk_empFz {n0 : Nat} {fr : List AV} {H : AH} (j : Nat) (h : fr[j]? = some .emp) : Wk n0 fr H (fr.set j (.fz [])) H := by
 intro E w vs hs hr
 refine ⟨E, LeN.refl _ _, hs, by rw [List.length_set]; exact hr.1, fun i c u hc hu => ?_⟩
 rw [List.getElem?_set] at hc
 by_cases hij : j = i
 ·subst hij
  rw [if_pos rfl] at hc
  split at hc
  ·cases hc
   obtain ⟨a, rfl⟩ := rep_emp (hr.2 j _ u h hu)
   exact .pure (x := .fz []) (.fz0 _ _)
  ·cases hc
 ·rw [if_neg hij] at hc
  exact hr.2 i c u hc hu
theorem Wk_none {fr fr' : List AV} {H : AH} (h : Tops fr' (renL (upTo 0) fr)) : Wk 0 fr H fr' [] := by
 have h1 := (Wk_forget (n0 := 0) (fr := fr) (H := H) 0 (Nat.le_refl _)).trans (Wk_tops h)
 simpa [mapH] using h1
end Go.Proofs.YtemjlopoffjmpaaGreat.Abs
set_option linter.unusedSimpArgs false
set_option linter.unusedVariables false
namespace Go.Proofs.YtemjlopoffjmpaaGreat.Abs
open Go Go.Proofs
theorem cellD_emb (d : Dset) : (pdset d).map emb = cellD d := rfl
theorem cellsD (l : List Dset) : (l.map pdset).map (fun e => e.map emb) = l.map cellD := by rw [List.map_map]; rfl
theorem rows5D (l : List Dset) : (l.map cellD).all (fun e => decide (e.length = 5)) = true := by
 rw [List.all_eq_true]
 intro e he
 obtain ⟨d, _, rfl⟩ := List.mem_map.1 he
 rfl
theorem q00 : (if 0 < 0 then some false else none : Option Bool) = none := rfl
theorem q01 (n : Nat) : (if 0 < n + 1 then some false else none : Option Bool) = some false := if_pos (Nat.succ_pos n)
theorem cloneL0 (l : List Dset) (hl : l.length ≤ 1000000) : C Tryz.prog 48 [asets l] [] (fun x H' => x = .own 0 5 0 l.length l.length ∧ H' = [some (l.map cellD)]) := by
 refine C_body' d48 rfl (WT_ok ?_)
 unfold c48
 cases l with
 | nil =>
   simp only [asets, wk3, wk, iaddrV_map, seval]
   intro b
   cases b
   ·simp only [wk3, wk, iaddrV_map, seval]
    exact ⟨_, _, Wk.refl _ _ _, rfl, rfl⟩
   ·simp only [wk3, wk, iaddrV_map, seval]
    exact ⟨_, _, Wk_emp 5, rfl, rfl⟩
 | cons d l =>
   simp only [List.length_cons] at hl
   have h5 := rows5D (d :: l)
   simp only [List.map_cons, List.all_cons] at h5
   simp only [asets, cellsD, cellD_emb, wk3, wk, iaddrV_map, seval]
   exact ⟨⟨h5, by omega, by omega⟩, _, _, Wk.refl _ _ _, rfl, rfl⟩
theorem cloneO0 (l : List Dset) (hl : l.length ≤ 1000000) : C Tryz.prog 48 [.own 0 5 0 l.length l.length] [some (l.map cellD)] (fun x H' => x = .own 1 5 0 l.length l.length ∧ H' = [some (l.map cellD), some (l.map cellD)]) := by
 refine C_body' d48 rfl (WT_ok ?_)
 unfold c48
 cases l with
 | nil =>
   simp only [asets, q00, wk3, wk, iaddrV_map, seval]
   intro b
   cases b
   ·simp only [wk3, wk, iaddrV_map, seval]
    exact ⟨_, _, Wk.refl _ _ _, rfl, rfl⟩
   ·simp only [wk3, wk, iaddrV_map, seval]
    exact ⟨_, _, Wk_empAt (fr := [.emp]) (H := [some []]) 0 5 rfl, rfl, rfl⟩
 | cons d l =>
   simp only [List.length_cons] at hl
   have h5 := rows5D (d :: l)
   simp only [List.map_cons, List.all_cons] at h5
   have h6 : List.take (l.length + 1) (cellD d :: List.map cellD l) = cellD d :: List.map cellD l := List.take_of_length_le (by simp)
   simp only [asets, q01, h6, wk3, wk, iaddrV_map, seval]
   exact ⟨⟨h5, by omega, by omega⟩, _, _, Wk.refl _ _ _, rfl, rfl⟩
theorem cloneF0 (s : List Node) (hs : s.length ≤ 1000000) : C Tryz.prog 49 [aset s] [] (fun y H' => y = aset s ∧ H' = []) := by
 cases s with
 | cons x s => exact clone_set0 x s hs
 | nil =>
   refine C_body' d49 rfl (WT_ok ?_)
   unfold c49
   simp only [aset, wk3, wk, iaddrV_map, seval]
   intro b
   cases b
   ·simp only [wk3, wk, iaddrV_map, seval]
    exact KWk_frozen 0 [] rfl (.fz []) (by simp [frzL, frz, renL, ren]) ⟨rfl, rfl⟩
   ·simp only [wk3, wk, iaddrV_map, seval]
    exact ⟨_, _, Wk_empFz (fr := [.emp]) 0 rfl, rfl, rfl⟩
end Go.Proofs.YtemjlopoffjmpaaGreat.Abs
set_option linter.unusedSimpArgs false
set_option linter.unusedVariables false
namespace Go.Proofs.YtemjlopoffjmpaaGreat.Abs
open Go Go.Proofs
theorem renO_cells (τ : Nat → Option Nat) (l : List Dset) : renO τ (l.map cellD) = l.map cellD := by
 unfold renO
 rw [List.map_map]
 apply List.map_congr_left
 intro d _
 simp [cellD, aset, renL, ren]
theorem cloneL (l : List Dset) (hl : l.length ≤ 1000000) (H : AH) : C Tryz.prog 48 [asets l] H (fun x H' => x = .own H.length 5 0 l.length l.length ∧ H' = H ++ [some (l.map cellD)]) :=
 C_call [] List.nodup_nil (fun r hr => by cases hr) (by simpa [renL, ren, asets] using cloneL0 l hl) (by rintro _ _ ⟨rfl, rfl⟩; exact ⟨Nat.zero_le _, by simp [ren, toCaller, back, setAll, renO_cells]⟩)
theorem cloneF (s : List Node) (hs : s.length ≤ 1000000) (H : AH) : C Tryz.prog 49 [aset s] H (fun y H' => y = aset s ∧ H' = H) :=
 C_pure (K0 := fun y => y = aset s) (cloneF0 s hs) (fun τ => renL_bare τ _ (by simp [bareL, bare, aset])) (by rintro y rfl τ; simp [aset, ren]) H
theorem cell_at {l : List Dset} {k : Nat} (hk : k < l.length) : (l.map cellD)[k]? = some (cellD (l.getD k default)) := by
 rw [List.getElem?_map, List.getElem?_eq_getElem hk, List.getD_eq_getElem?_getD, List.getElem?_eq_getElem hk]; rfl
theorem cell_same {l : List Dset} {k : Nat} (hk : k < l.length) : (l.map cellD).set k (cellD (l.getD k default)) = l.map cellD := by
 apply List.ext_getElem?
 intro i
 rw [List.getElem?_set]
 by_cases h : k = i
 ·subst h; rw [if_pos rfl, if_pos (by simpa using hk), cell_at hk]
 ·rw [if_neg h]
def Short (l : List Dset) : Prop := l.length ≤ 1000000 ∧ ∀ d ∈ l, d.files.length ≤ 1000000
theorem Short.get {l : List Dset} (h : Short l) {k : Nat} (hk : k < l.length) : (l.getD k default).files.length ≤ 1000000 := by
 rw [List.getD_eq_getElem?_getD, List.getElem?_eq_getElem hk]; exact h.2 _ (List.getElem_mem hk)
theorem twin0 (l : List Dset) (hl : Short l) : C Tryz.prog 56 [asets l] [] (fun x H' => x = .own 0 5 0 l.length l.length ∧ H' = [some (l.map cellD)]) := by
 have hl1 := hl.1
 refine C_body' d56 rfl (WT_ok ?_)
 unfold c56
 simp only [wk, iaddrV_map, seval]
 refine CT_ok (cloneL l hl.1 _) ?_
 rintro _ _ ⟨rfl, rfl⟩
 simp only [lay, wk, iaddrV_map, seval]
 refine WT_loop (W_wk (fr' := [.own 0 5 0 l.length l.length, .top, .emp, .top, .top, .top, .own 0 5 0 l.length l.length, .int .i64 l.length, .int .i64 0] ++ List.replicate 14 .top) (Wk_tops ?_) (W_loop (fun n fr H' => ∃ k : Nat, k ≤ l.length ∧ n = l.length - k ∧ H' = [some (l.map cellD)] ∧ fr = [.own 0 5 0 l.length l.length, .top, .emp, .top, .top, .top, .own 0 5 0 l.length l.length, .int .i64 l.length, .int .i64 k] ++ List.replicate 14 .top) l.length ⟨0, by omega, rfl, rfl, rfl⟩ ?_))
 ·simp only [List.replicate_succ, List.replicate_zero, List.cons_append, List.nil_append, Tops_top, Tops_same, Tops_nil]
 rintro n fr H' ⟨k, hk, rfl, rfl, rfl⟩
 refine WT_ok ?_
 simp only [lay, wk, iaddrV_map, seval]
 refine guard_both ?_ ?_ <;> intro h <;> simp only [hy] at h
 ·have hk2 : k < l.length := by omega
  have hc := cell_at hk2
  have hs := cell_same hk2
  have w2 : IntKind.i64.wrap ((k : Int) + 1) = (k : Int) + 1 := IntWalk.i64_in _ (by omega)
  have h0 : (0 : Int) ≤ k := by omega
  have hf := hl.get hk2
  generalize l.getD k default = d at hc hs hf
  simp only [h, h0, hc, cellD, aset, lay, wk, iaddrV_map, seval]
  refine CT_ok (cloneF d.files hf _) ?_
  rintro _ _ ⟨rfl, rfl⟩
  simp only [cellD, aset] at hs
  simp only [h, h0, hc, hs, cellD, w2, aset, lay, wk, iaddrV_map, seval]
  refine QLoop_go (n' := l.length - (k + 1)) (by omega) ⟨k + 1, by omega, rfl, rfl, rfl⟩ ?_
  simp only [List.replicate_succ, List.replicate_zero, List.cons_append, List.nil_append, Tops_top, Tops_same, Tops_nil, Int.natCast_add, Int.natCast_one]
 ·simp only [h, wk, iaddrV_map, seval]
  exact ⟨_, _, Wk.refl _ _ _, rfl, rfl⟩
theorem twinL (l : List Dset) (hl : Short l) (H : AH) : C Tryz.prog 56 [asets l] H (fun x H' => x = .own H.length 5 0 l.length l.length ∧ H' = H ++ [some (l.map cellD)]) :=
 C_call [] List.nodup_nil (fun r hr => by cases hr) (by simpa [renL, ren, asets] using twin0 l hl) (by rintro _ _ ⟨rfl, rfl⟩; exact ⟨Nat.zero_le _, by simp [ren, toCaller, back, setAll, renO_cells]⟩)
theorem twinO0 (l : List Dset) (hl : Short l) : C Tryz.prog 56 [.own 0 5 0 l.length l.length] [some (l.map cellD)] (fun x H' => x = .own 1 5 0 l.length l.length ∧ H' = [some (l.map cellD), some (l.map cellD)]) := by
 have hl1 := hl.1
 refine C_body' d56 rfl (WT_ok ?_)
 unfold c56
 simp only [wk, iaddrV_map, seval]
 refine CT_ok (cloneO0 l hl.1) ?_
 rintro _ _ ⟨rfl, rfl⟩
 simp only [lay, wk, iaddrV_map, seval]
 refine WT_loop (W_wk (fr' := [.own 1 5 0 l.length l.length, .top, .emp, .top, .top, .top, .own 1 5 0 l.length l.length, .int .i64 l.length, .int .i64 0] ++ List.replicate 14 .top) (Wk_tops ?_) (W_loop (fun n fr H' => ∃ k : Nat, k ≤ l.length ∧ n = l.length - k ∧ H' = [some (l.map cellD), some (l.map cellD)] ∧ fr = [.own 1 5 0 l.length l.length, .top, .emp, .top, .top, .top, .own 1 5 0 l.length l.length, .int .i64 l.length, .int .i64 k] ++ List.replicate 14 .top) l.length ⟨0, by omega, rfl, rfl, rfl⟩ ?_))
 ·simp only [List.replicate_succ, List.replicate_zero, List.cons_append, List.nil_append, Tops_top, Tops_same, Tops_nil]
 rintro n fr H' ⟨k, hk, rfl, rfl, rfl⟩
 refine WT_ok ?_
 simp only [lay, wk, iaddrV_map, seval]
 refine guard_both ?_ ?_ <;> intro h <;> simp only [hy] at h
 ·have hk2 : k < l.length := by omega
  have hc := cell_at hk2
  have hs := cell_same hk2
  have w2 : IntKind.i64.wrap ((k : Int) + 1) = (k : Int) + 1 := IntWalk.i64_in _ (by omega)
  have h0 : (0 : Int) ≤ k := by omega
  have hf := hl.get hk2
  generalize l.getD k default = d at hc hs hf
  simp only [h, h0, hc, cellD, aset, lay, wk, iaddrV_map, seval]
  refine CT_ok (cloneF d.files hf _) ?_
  rintro _ _ ⟨rfl, rfl⟩
  simp only [cellD, aset] at hs
  simp only [h, h0, hc, hs, cellD, w2, aset, lay, wk, iaddrV_map, seval]
  refine QLoop_go (n' := l.length - (k + 1)) (by omega) ⟨k + 1, by omega, rfl, rfl, rfl⟩ ?_
  simp only [List.replicate_succ, List.replicate_zero, List.cons_append, List.nil_append, Tops_top, Tops_same, Tops_nil, Int.natCast_add, Int.natCast_one]
 ·simp only [h, wk, iaddrV_map, seval]
  exact ⟨_, _, Wk.refl _ _ _, rfl, rfl⟩
end Go.Proofs.YtemjlopoffjmpaaGreat.Abs
set_option linter.unusedSimpArgs false
set_option linter.unusedVariables false
namespace Go.Proofs.YtemjlopoffjmpaaGreat.Abs
open Go Go.Proofs
def idxA (p : Dset → Bool) (l : List Dset) : Int := match l.findIdx? p with
 | some i => i
 | none => -1
theorem idxA_some {p : Dset → Bool} {l : List Dset} {k : Nat} (hk : k < l.length) (hp : p (l.getD k default) = true) (hn : ∀ j, j < k → p (l.getD j default) = false) : idxA p l = k := by
 have g : ∀ j (h : j < l.length), l.getD j default = l[j] := fun j h => by rw [List.getD_eq_getElem?_getD, List.getElem?_eq_getElem h]; rfl
 have : l.findIdx? p = some k := by
  rw [List.findIdx?_eq_some_iff_getElem]
  refine ⟨hk, by rw [← g k hk]; exact hp, fun j hj => ?_⟩
  rw [← g j (by omega), hn j hj]; decide
 unfold idxA
 rw [this]
theorem idxA_none {p : Dset → Bool} {l : List Dset} (hn : ∀ j, j < l.length → p (l.getD j default) = false) : idxA p l = -1 := by
 have : l.findIdx? p = none := by
  rw [List.findIdx?_eq_none_iff]
  intro x hx
  obtain ⟨j, hj, rfl⟩ := List.mem_iff_getElem.1 hx
  have := hn j hj
  rwa [List.getD_eq_getElem?_getD, List.getElem?_eq_getElem hj] at this
 unfold idxA
 rw [this]
theorem idxA_cases (p : Dset → Bool) (l : List Dset) : (idxA p l = -1 ∧ ∀ j, j < l.length → p (l.getD j default) = false) ∨ ∃ k : Nat, idxA p l = k ∧ k < l.length ∧ p (l.getD k default) = true ∧ ∀ j, j < k → p (l.getD j default) = false := by
 have g : ∀ j (h : j < l.length), l.getD j default = l[j] := fun j h => by rw [List.getD_eq_getElem?_getD, List.getElem?_eq_getElem h]; rfl
 unfold idxA
 cases e : l.findIdx? p with
 | none =>
   refine .inl ⟨rfl, fun j hj => ?_⟩
   rw [List.findIdx?_eq_none_iff] at e
   rw [g j hj]; exact e _ (List.getElem_mem hj)
 | some k =>
   rw [List.findIdx?_eq_some_iff_getElem] at e
   obtain ⟨h1, h2, h3⟩ := e
   refine .inr ⟨k, rfl, h1, by rw [g k h1]; exact h2, fun j hj => ?_⟩
   rw [g j (by omega)]
   have := h3 j hj
   simpa using this
theorem index81G (l : List Dset) (hl : l.length ≤ 1000000) (R : AH) (g : FuncId) (cap : List AV) (p : Dset → Bool)
 (hf : ∀ d, C Tryz.prog g (AV.agg (cellD d) :: cap) (some (l.map cellD) :: R) (fun x H' => x = .bool (p d) ∧ H' = some (l.map cellD) :: R)) :
 C Tryz.prog 101 [.own 0 5 0 l.length l.length, .fn (.func g) [] cap] (some (l.map cellD) :: R) (fun x H' => x = .int .i64 (idxA p l) ∧ H' = some (l.map cellD) :: R) := by
 refine C_body d101 rfl (WT_ok ?_)
 unfold c101
 simp only [wk, iaddrV_map, seval]
 refine WT_loop (W_wk (fr' := [.own 0 5 0 l.length l.length, .fn (.func g) [] cap, .top, .top, .int .i64 0, .top, .own 0 5 0 l.length l.length, .int .i64 l.length, .int .i64 0] ++ List.replicate 10 .top) (Wk_tops ?_) (W_loop (fun n fr H' => ∃ k : Nat, k ≤ l.length ∧ n = l.length - k ∧ (∀ j, j < k → p (l.getD j default) = false) ∧ H' = some (l.map cellD) :: R ∧ fr = [.own 0 5 0 l.length l.length, .fn (.func g) [] cap, .top, .top, .int .i64 0, .top, .own 0 5 0 l.length l.length, .int .i64 l.length, .int .i64 k] ++ List.replicate 10 .top) l.length ⟨0, by omega, rfl, fun j hj => by omega, rfl, rfl⟩ ?_))
 ·simp only [List.replicate_succ, List.replicate_zero, List.cons_append, List.nil_append, Tops_top, Tops_same, Tops_nil]
 rintro n fr H' ⟨k, hk, rfl, hne, rfl, rfl⟩
 refine WT_ok ?_
 simp only [lay, wk, iaddrV_map, seval]
 refine guard_both ?_ ?_ <;> intro h <;> simp only [hy] at h
 ·have hk2 : k < l.length := by omega
  have hc := cell_at hk2
  have w2 : IntKind.i64.wrap ((k : Int) + 1) = (k : Int) + 1 := IntWalk.i64_in _ (by omega)
  have h0 : (0 : Int) ≤ k := by omega
  have h5 : (cellD (l.getD k default)).take 5 = cellD (l.getD k default) := rfl
  have h6 : 5 ≤ (cellD (l.getD k default)).length := Nat.le_refl 5
  have hfk := hf (l.getD k default)
  simp only [h, h0, hc, h5, h6, lay, RT_calld, wk, iaddrV_map, seval]
  refine ⟨_, _, _, rfl, hfk.mono ?_⟩
  rintro _ _ ⟨rfl, rfl⟩
  cases hp : p (l.getD k default)
  ·simp only [w2, wk, iaddrV_map, seval]
   refine QLoop_go (n' := l.length - (k + 1)) (by omega) ⟨k + 1, by omega, rfl, fun j hj => ?_, rfl, rfl⟩ ?_
   ·rcases Nat.lt_or_ge j k with h' | h'
    ·exact hne j h'
    ·have : j = k := by omega
     subst this; exact hp
   ·simp only [List.replicate_succ, List.replicate_zero, List.cons_append, List.nil_append, Tops_top, Tops_same, Tops_nil, Int.natCast_add, Int.natCast_one]
  ·simp only [wk, iaddrV_map, seval]
   rw [idxA_some hk2 hp hne]
 ·simp only [h, wk, iaddrV_map, seval]
  rw [idxA_none fun j hj => hne j (by omega)]
def findA (l : List Dset) (i : Int) : Int := idxA (fun d => decide (d.id = i)) l
theorem find_of {l : List Dset} {i : Int} : (findA l i = -1 ∧ ∀ j, j < l.length → (l.getD j default).id ≠ i) ∨ ∃ k : Nat, findA l i = k ∧ k < l.length ∧ (l.getD k default).id = i ∧ ∀ j, j < k → (l.getD j default).id ≠ i := by
 rcases idxA_cases (fun d => decide (d.id = i)) l with ⟨h1, h2⟩ | ⟨k, h1, h2, h3, h4⟩
 ·exact .inl ⟨h1, fun j hj => by simpa using h2 j hj⟩
 ·exact .inr ⟨k, h1, h2, by simpa using h3, fun j hj => by simpa using h4 j hj⟩
theorem isId82_L (d : Dset) (i : Int) (l : List Dset) : C Tryz.prog 102 [.agg (cellD d), .ptr 1 0 0 1] [some (l.map cellD), some [[.int .i64 i]]] (fun x H' => x = .bool (decide (d.id = i)) ∧ H' = [some (l.map cellD), some [[.int .i64 i]]]) :=
 C_call [1] (by simp) (by simp) (by simpa [renL, ren, toCallee, renO, cellD, aset, AH.at] using isId82 d i) (by rintro _ _ ⟨rfl, rfl⟩; exact ⟨Nat.le_refl _, by simp [ren], by simp [back, setAll, renO, renL, ren]⟩)
theorem find0 (l : List Dset) (hl : l.length ≤ 1000000) (i : Int) : C Tryz.prog 59 [.own 0 5 0 l.length l.length, .int .i64 i] [some (l.map cellD)] (fun x H' => x = .int .i64 (findA l i) ∧ H' = [some (l.map cellD)]) := by
 refine C_body' d59 rfl (WT_ok ?_)
 unfold c59
 simp only [lay, wk, iaddrV_map, seval]
 refine CT_ok (index81G l hl [some [[.int .i64 i]]] 102 [.ptr 1 0 0 1] (fun d => decide (d.id = i)) (fun d => isId82_L d i l)) ?_
 rintro _ _ ⟨rfl, rfl⟩
 simp only [wk, iaddrV_map, seval]
 refine KWk_first (by simp [bare]) ?_ ⟨rfl, rfl⟩
 exact renO_cells _ l
theorem find1 (l : List Dset) (hl : l.length ≤ 1000000) (i : Int) (R : AH) : C Tryz.prog 59 [.own 0 5 0 l.length l.length, .int .i64 i] (some (l.map cellD) :: R) (fun x H' => x = .int .i64 (findA l i) ∧ H' = some (l.map cellD) :: R) :=
 C_call [0] (by simp) (by simp) (by simpa [renL, ren, toCallee, renO_cells, AH.at] using find0 l hl i) (by rintro _ _ ⟨rfl, rfl⟩; exact ⟨Nat.le_refl _, by simp [ren], by simp [back, setAll, renO_cells]⟩)
theorem contains65 (l : List Dset) (hl : l.length ≤ 1000000) (R : AH) (g : FuncId) (cap : List AV) (p : Dset → Bool)
 (hf : ∀ d, C Tryz.prog g (AV.agg (cellD d) :: cap) (some (l.map cellD) :: R) (fun x H' => x = .bool (p d) ∧ H' = some (l.map cellD) :: R)) :
 C Tryz.prog 63 [.own 0 5 0 l.length l.length, .fn (.func g) [] cap] (some (l.map cellD) :: R) (fun x H' => x = .bool (decide (0 ≤ idxA p l)) ∧ H' = some (l.map cellD) :: R) := by
 refine C_body d63 rfl (WT_ok ?_)
 unfold c63
 simp only [lay, wk, iaddrV_map, seval]
 refine CT_ok (index81G l hl R g cap p hf) ?_
 rintro _ _ ⟨rfl, rfl⟩
 simp only [wk, iaddrV_map, seval]
def isA (l : List Dset) (i kind : Int) : Bool := decide (0 ≤ findA l i) && decide ((l.getD (findA l i).toNat default).kind = kind)
theorem is63 (l : List Dset) (hl : l.length ≤ 1000000) (i kind : Int) (R : AH) : C Tryz.prog 60 [.own 0 5 0 l.length l.length, .int .i64 i, .int .i64 kind] (some (l.map cellD) :: R) (fun x H' => x = .bool (isA l i kind) ∧ H' = some (l.map cellD) :: R) := by
 refine C_body d60 rfl (WT_ok ?_)
 unfold c60
 simp only [lay, wk, iaddrV_map, seval]
 refine CT_ok (find1 l hl i R) ?_
 rintro _ _ ⟨rfl, rfl⟩
 unfold isA
 rcases find_of (l := l) (i := i) with ⟨e, _⟩ | ⟨k, e, hk, _, _⟩
 ·simp only [e, lay, Bool.false_and, wk, iaddrV_map, seval]
 ·have hc := cell_at hk
  have h0 : (0 : Int) ≤ k := by omega
  have h1 : (k : Int) < l.length := by omega
  rw [e]
  simp only [hc, h0, h1, cellD, lay, wk, iaddrV_map, seval]
theorem is66 (d : Dset) (i : Int) : C Tryz.prog 64 [.agg (cellD d), .ptr 0 0 0 1] [some [[.int .i64 i]]] (fun x H' => x = .bool (decide (d.origin = i)) ∧ H' = [some [[.int .i64 i]]]) := by
 refine C_body' d64 rfl (WT_ok ?_)
 unfold c64
 simp only [cellD, aset, lay, wk, iaddrV_map, seval]
 refine KWk_first (by simp [bare]) (by simp [renL, ren]) ⟨rfl, rfl⟩
theorem KWk_two {K : AV → AH → Prop} {x : AV} {o o' : AObj} {G : AH} (hx : bare x = true) (ho : o.map (renL (upTo 2)) = o) (ho' : o'.map (renL (upTo 2)) = o') (hk : K x [some o, some o']) : KWk 2 K x (some o :: some o' :: G) := by
 refine ⟨x, [some o, some o'], ?_, hk⟩
 have h1 := Wk_forget (n0 := 2) (fr := [x]) (H := some o :: some o' :: G) 2 (Nat.le_refl _)
 rw [renL_bare _ _ (by simp [bareL, hx])] at h1
 have e : mapH (renL (upTo 2)) ((some o :: some o' :: G).take 2) = [some o, some o'] := by
  simp only [List.take_succ_cons, List.take_zero, mapH, List.map_cons, List.map_nil, Option.map_some, ho, ho']
 rwa [e] at h1
def laterA (i j : Int) (d : Dset) : Bool := decide (d.kind = 2) && decide (d.origin = i) && decide (j < d.id)
theorem later64 (d : Dset) (i j : Int) : C Tryz.prog 77 [.agg (cellD d), .ptr 0 0 0 1, .ptr 1 0 0 1] [some [[.int .i64 i]], some [[.int .i64 j]]] (fun x H' => x = .bool (laterA i j d) ∧ H' = [some [[.int .i64 i]], some [[.int .i64 j]]]) := by
 refine C_body' d77 rfl (WT_ok ?_)
 unfold c77
 unfold laterA
 simp only [cellD, aset, lay, wk, iaddrV_map, seval]
 refine guard_both ?_ ?_ <;> intro h <;> simp only [hy] at h
 ·simp only [h, cellD, aset, lay, wk, iaddrV_map, seval]
  refine guard_both ?_ ?_ <;> intro h2 <;> simp only [hy] at h2
  ·simp only [h, h2, cellD, aset, lay, wk, iaddrV_map, seval]
   refine KWk_two (by simp [bare]) (by simp [renL, ren]) (by simp [renL, ren]) ⟨rfl, rfl⟩
  ·simp only [h, h2, cellD, aset, lay, wk, iaddrV_map, seval]
   refine KWk_two (by simp [bare]) (by simp [renL, ren]) (by simp [renL, ren]) ⟨?_, rfl⟩
   first | rfl | simp
 ·simp only [h, cellD, aset, lay, wk, iaddrV_map, seval]
  refine KWk_two (by simp [bare]) (by simp [renL, ren]) (by simp [renL, ren]) ⟨?_, rfl⟩
  first | rfl | simp
end Go.Proofs.YtemjlopoffjmpaaGreat.Abs
set_option linter.unusedSimpArgs false
set_option linter.unusedVariables false
namespace Go.Proofs.YtemjlopoffjmpaaGreat.Abs
open Go Go.Proofs
def zeroC : List AV := [.int .i64 0, .int .i64 0, .int .i64 0, .int .i64 0, .emp]
theorem delete67 (l : List Dset) (hl : l.length ≤ 1000000) (i : Nat) (hi : i < l.length) :
 C Tryz.prog 65 [.own 0 5 0 l.length l.length, .int .i64 i, .int .i64 ((i + 1 : Nat) : Int)] [some (l.map cellD)] (fun x H' => x = .own 0 5 0 (l.length - 1) l.length ∧ H' = [some ((l.eraseIdx i).map cellD ++ [zeroC])]) := by
 refine C_body d65 rfl (WT_ok ?_)
 unfold c65
 have h1 : ¬ (i : Int) = ((i + 1 : Nat) : Int) := by omega
 simp only [h1, lay, slicelV_own, slicelV_fz, onLive_some, RT_slicel, RE_slicel, slice3V_eq, room3_some, roomOf_own, roomOf_fz, RT_slice3, RT_calld, apI_some, clC_some, clearV_own, clearV_fz, wk3, wk, iaddrV_map, Nat.reduceAdd, Nat.reduceSub, Nat.reduceMul, Nat.reduceLeDiff, Nat.reduceEqDiff, Nat.reduceBEq, Int.reduceLE, Int.reduceLT, Int.reduceEq, Int.reduceNe, Int.reduceAdd, Int.reduceSub, Int.reduceToNat, Int.reduceNeg, ↓reduceIte, reduceCtorEq]
 refine ⟨⟨by omega, by omega⟩, ⟨by omega, by omega⟩, ⟨by omega, by omega⟩, ?_⟩
 refine WT_drawE ?_
 refine WDT_more 0 ?_
 have h2 : ¬ i + 1 = 0 := by omega
 have hlen : (l.map cellD).length = l.length := List.length_map _
 have er : (l.eraseIdx i).map cellD = (l.map cellD).take i ++ (l.map cellD).drop (i + 1) := by rw [List.eraseIdx_eq_take_drop_succ, List.map_append, List.map_take, List.map_drop]
 rw [er]
 generalize hcs : l.map cellD = cs at hlen
 have h5 : cs.all (fun e => decide (e.length = 5)) = true := by rw [← hcs]; exact rows5D l
 generalize hn : l.length = n at *
 clear hcs er hn
 by_cases h3 : n ≤ i + 1
 ·have hA : ∀ z, appendV [some cs] 5 56 z (.own 0 5 0 i n) (.fz []) = some (.own 0 5 0 i n, [some cs]) := fun z => appendV_in _ _ _ _ _ _ _ _ _ (by
   simp [apI, srcOf, elemsOf, liveO, AH.at, hlen]; omega)
  simp only [h2, h3, hlen, lay, slicelV_own, slicelV_fz, onLive_some, RT_slicel, RE_slicel, slice3V_eq, room3_some, roomOf_own, roomOf_fz, RT_slice3, RT_calld, apI_some, clC_some, clearV_own, clearV_fz, wk3, wk, iaddrV_map, Nat.reduceAdd, Nat.reduceSub, Nat.reduceMul, Nat.reduceLeDiff, Nat.reduceEqDiff, Nat.reduceBEq, Int.reduceLE, Int.reduceLT, Int.reduceEq, Int.reduceNe, Int.reduceAdd, Int.reduceSub, Int.reduceToNat, Int.reduceNeg, ↓reduceIte, reduceCtorEq]
  refine ⟨⟨by omega, by omega⟩, ⟨by omega, by omega⟩, by rfl, ?_⟩
  simp only [hA, hlen, lay, slicelV_own, slicelV_fz, onLive_some, RT_slicel, RE_slicel, slice3V_eq, room3_some, roomOf_own, roomOf_fz, RT_slice3, RT_calld, apI_some, clC_some, clearV_own, clearV_fz, wk3, wk, iaddrV_map, Nat.reduceAdd, Nat.reduceSub, Nat.reduceMul, Nat.reduceLeDiff, Nat.reduceEqDiff, Nat.reduceBEq, Int.reduceLE, Int.reduceLT, Int.reduceEq, Int.reduceNe, Int.reduceAdd, Int.reduceSub, Int.reduceToNat, Int.reduceNeg, ↓reduceIte, reduceCtorEq]
  by_cases h0 : i = 0
  ·subst h0
   have : n = 1 := by omega
   subst this
   simp only [hlen, lay, slicelV_own, slicelV_fz, onLive_some, RT_slicel, RE_slicel, slice3V_eq, room3_some, roomOf_own, roomOf_fz, RT_slice3, RT_calld, apI_some, clC_some, clearV_own, clearV_fz, wk3, wk, iaddrV_map, Nat.reduceAdd, Nat.reduceSub, Nat.reduceMul, Nat.reduceLeDiff, Nat.reduceEqDiff, Nat.reduceBEq, Int.reduceLE, Int.reduceLT, Int.reduceEq, Int.reduceNe, Int.reduceAdd, Int.reduceSub, Int.reduceToNat, Int.reduceNeg, ↓reduceIte, reduceCtorEq]
   refine ⟨by omega, by omega, ?_⟩
   rw [List.drop_of_length_le (by omega)]; rfl
  ·have h4 : ¬ n ≤ i := by omega
   simp only [h0, h4, hlen, lay, slicelV_own, slicelV_fz, onLive_some, RT_slicel, RE_slicel, slice3V_eq, room3_some, roomOf_own, roomOf_fz, RT_slice3, RT_calld, apI_some, clC_some, clearV_own, clearV_fz, wk3, wk, iaddrV_map, Nat.reduceAdd, Nat.reduceSub, Nat.reduceMul, Nat.reduceLeDiff, Nat.reduceEqDiff, Nat.reduceBEq, Int.reduceLE, Int.reduceLT, Int.reduceEq, Int.reduceNe, Int.reduceAdd, Int.reduceSub, Int.reduceToNat, Int.reduceNeg, ↓reduceIte, reduceCtorEq]
   have hi1 : i = n - 1 := by omega
   refine ⟨⟨by omega, by omega⟩, ⟨by omega, by omega⟩, by omega, by rw [hi1], ?_⟩
   rw [List.drop_of_length_le (by omega), List.drop_of_length_le (by omega), show n - i = 1 by omega]
   simp only [List.append_nil]; rfl
 ·have hB : ∀ z, appendV [some cs] 5 56 z (.own 0 5 0 i n) (.own 0 5 (i + 1) (n - (i + 1)) n) = some (.own 0 5 0 (n - 1) n, [some (cs.take i ++ cs.drop (i + 1) ++ cs.drop (n - 1))]) := fun z => appendV_in _ _ _ _ _ _ _ _ _ (by
   have e1 : (cs.drop (i + 1)).take (n - (i + 1)) = cs.drop (i + 1) := List.take_of_length_le (by simp [hlen])
   have e2 : i + (n - (i + 1)) = n - 1 := by omega
   have e3 : (cs.drop (i + 1)).all (fun e => decide (e.length = 5)) = true := by
    rw [List.all_eq_true] at h5 ⊢
    exact fun e he => h5 e (List.mem_of_mem_drop he)
   have e4 : srcOf [some cs] (.own 0 5 (i + 1) (n - (i + 1)) n) = some (cs.drop (i + 1)) := by
    rw [srcOf_own, liveO_cons_zero, if_pos hlen, elC_some, if_pos (by omega), e1]
   rw [e4, liveO_cons_zero, if_pos hlen, apI_some, if_pos ⟨e3, by simp [hlen]; omega, by omega⟩]
   simp only [List.length_drop, hlen, Nat.zero_add, e2, List.set_cons_zero])
  have hos : (cs.take i ++ cs.drop (i + 1) ++ cs.drop (n - 1)).length = n := by simp [hlen]; omega
  have hot : (cs.take i ++ cs.drop (i + 1) ++ cs.drop (n - 1)).take (n - 1) = cs.take i ++ cs.drop (i + 1) := by
   rw [List.take_append_of_le_length (by simp [hlen]; omega), List.take_of_length_le (by simp [hlen]; omega)]
  generalize cs.take i ++ cs.drop (i + 1) ++ cs.drop (n - 1) = os at hB hos hot
  rw [← hot]
  have h4 : ¬ n - 1 = 0 := by omega
  have h6 : ¬ n ≤ n - 1 := by omega
  simp only [h2, h3, hlen, lay, slicelV_own, slicelV_fz, onLive_some, RT_slicel, RE_slicel, slice3V_eq, room3_some, roomOf_own, roomOf_fz, RT_slice3, RT_calld, apI_some, clC_some, clearV_own, clearV_fz, wk3, wk, iaddrV_map, Nat.reduceAdd, Nat.reduceSub, Nat.reduceMul, Nat.reduceLeDiff, Nat.reduceEqDiff, Nat.reduceBEq, Int.reduceLE, Int.reduceLT, Int.reduceEq, Int.reduceNe, Int.reduceAdd, Int.reduceSub, Int.reduceToNat, Int.reduceNeg, ↓reduceIte, reduceCtorEq]
  refine ⟨⟨by omega, by omega⟩, ⟨by omega, by omega⟩, by rfl, ?_⟩
  simp only [hB, h4, h6, hos, hlen, lay, slicelV_own, slicelV_fz, onLive_some, RT_slicel, RE_slicel, slice3V_eq, room3_some, roomOf_own, roomOf_fz, RT_slice3, RT_calld, apI_some, clC_some, clearV_own, clearV_fz, wk3, wk, iaddrV_map, Nat.reduceAdd, Nat.reduceSub, Nat.reduceMul, Nat.reduceLeDiff, Nat.reduceEqDiff, Nat.reduceBEq, Int.reduceLE, Int.reduceLT, Int.reduceEq, Int.reduceNe, Int.reduceAdd, Int.reduceSub, Int.reduceToNat, Int.reduceNeg, ↓reduceIte, reduceCtorEq]
  refine ⟨⟨by omega, by omega⟩, ⟨by omega, by omega⟩, by omega, ?_⟩
  rw [List.drop_of_length_le (by omega), show n - (n - 1) = 1 by omega]
  simp only [List.append_nil]; rfl
end Go.Proofs.YtemjlopoffjmpaaGreat.Abs
set_option linter.unusedSimpArgs false
set_option linter.unusedVariables false
namespace Go.Proofs.YtemjlopoffjmpaaGreat.Abs
open Go Go.Proofs
theorem set_at {H : AH} {r : Nat} {o : AObj} (h : H.at r = some o) : H.set r (some o) = H := by
 have h1 := at_lt h
 unfold AH.at at h
 rw [List.getElem?_eq_getElem h1] at h
 have h2 : H[r] = some o := h
 rw [← h2, List.set_getElem_self]
theorem twinO (l : List Dset) (hl : Short l) (r : Nat) (H : AH) (hr : H.at r = some (l.map cellD)) : C Tryz.prog 56 [.own r 5 0 l.length l.length] H (fun x H' => x = .own H.length 5 0 l.length l.length ∧ H' = H ++ [some (l.map cellD)]) := by
 refine C_call [r] (by simp) (by simpa using at_lt hr) (K0 := fun x H' => x = .own 1 5 0 l.length l.length ∧ H' = [some (l.map cellD), some (l.map cellD)]) ?_ ?_
 ·simpa [renL, ren, toCallee, renO_cells, hr] using twinO0 l hl
 ·rintro _ _ ⟨rfl, rfl⟩
  refine ⟨by simp, by simp [ren, toCaller], ?_⟩
  simp [back, setAll, renO_cells, set_at hr]
def addOk (l : List Dset) (next : Int) : Bool := decide (l.length < 8) && decide (1 ≤ next) && decide (next ≤ 65535) && (decide (l.length = 0) || decide ((l.getD (l.length - 1) default).id < next))
def addA (l : List Dset) (next : Int) (x : Dset) : List Dset × Int := if addOk l next = true then (l ++ [{ x with id := next }], 0) else (l, 8)
def outA (r : List Dset × Int) : AV := .tuple [asets r.1, .int .i64 r.2]
theorem Short.snoc {l : List Dset} (h : Short l) (h8 : l.length < 8) {x : Dset} (hx : x.files.length ≤ 1000000) : Short (l ++ [x]) := by
 refine ⟨by simp; omega, fun d hd => ?_⟩
 rcases List.mem_append.1 hd with hd | hd
 ·exact h.2 d hd
 ·rw [List.mem_singleton] at hd; subst hd; exact hx
theorem KWk_sets {K : AV → AH → Prop} {H : AH} (r : Nat) (l : List Dset) (e : Int) (L : Nat) (hL : L = l.length) (hat : H.at r = some (l.map cellD)) (hk : K (.tuple [asets l, .int .i64 e]) []) : KWk 0 K (.tuple [.own r 5 0 L L, .int .i64 e]) H := by
 subst hL
 refine KWk_frozen r (l.map pdset) (by rw [cellsD]; exact hat) _ ?_ hk
 simp only [frzL, frz, renL, ren, asets, if_true, List.length_map, Nat.zero_add, Nat.le_refl, and_self, List.drop_zero]
 rw [List.take_of_length_le (by simp)]
section
variable {c : Nat} {H : AH} {late : List Loc → List Loc → Prop} {K : List Nat → Nat → AV → AH → Prop} {t : Tag K}
theorem CFT_clone (l : List Dset) (hl : l.length ≤ 1000000) (hc : c < H.length) (hk : K [c] (c + 1) (.own c 5 0 l.length l.length) (H.set c (some (l.map cellD)))) : CFT Tryz.prog 48 [asets l] c H late K t := by
 refine CET_ok [] 1 (x := .own 0 5 0 l.length l.length) (H1 := [some (l.map cellD)]) (by simpa [renL, ren, asets] using cloneL0 l hl) (fun y G h => h) ⟨by simp, by simp, by omega, by simp⟩ ?_
 simpa [setAll, renO_cells, ren, toCl, List.range'] using hk
end
theorem add0 (l : List Dset) (hl : Short l) (next : Int) (x : Dset) (hx : x.files.length ≤ 1000000) :
 C Tryz.prog 57 [asets l, .int .i64 next, .agg (cellD x)] [] (fun y H' => y = outA (addA l next x) ∧ H' = []) := by
 have hl1 := hl.1
 refine C_body' d57 rfl (WT_ok ?_)
 unfold c57
 by_cases hok : addOk l next = true
 ·rw [show addA l next x = (l ++ [{ x with id := next }], 0) from if_pos hok]
  simp only [addOk, Bool.and_eq_true, Bool.or_eq_true, decide_eq_true_eq] at hok
  obtain ⟨⟨⟨h1, h2⟩, h3⟩, h4⟩ := hok
  have g1 : ¬ (8 : Int) ≤ (l.length : Int) := by omega
  have g2 : ¬ next < 1 := by omega
  have g3 : ¬ 65535 < next := by omega
  have hml : (l ++ [{ x with id := next }]).length = l.length + 1 := by simp
  rcases Nat.eq_zero_or_pos l.length with h0 | h0
  ·have g4 : ¬ (0 : Int) < (l.length : Int) := by omega
   simp only [asets, cellD, aset, g1, g2, g3, g4, lay, wk3, wk, iaddrV_map, Nat.reduceAdd, Nat.reduceSub, Nat.reduceMul, Nat.reduceLeDiff, Nat.reduceEqDiff, Nat.reduceBEq, Int.reduceLE, Int.reduceLT, Int.reduceEq, Int.reduceNe, Int.reduceAdd, Int.reduceSub, Int.reduceToNat, Int.reduceNeg, ↓reduceIte, reduceCtorEq]
   refine WT_drawE ?_
   refine WDT_more 2 ?_
   simp only [lay, wk3, wk, iaddrV_map, Nat.reduceAdd, Nat.reduceSub, Nat.reduceMul, Nat.reduceLeDiff, Nat.reduceEqDiff, Nat.reduceBEq, Int.reduceLE, Int.reduceLT, Int.reduceEq, Int.reduceNe, Int.reduceAdd, Int.reduceSub, Int.reduceToNat, Int.reduceNeg, ↓reduceIte, reduceCtorEq]
   refine ⟨by omega, CFT_clone l hl1 (by simp) ?_⟩
   simp only [ren, renL, lay, wk3, wk, iaddrV_map, Nat.reduceAdd, Nat.reduceSub, Nat.reduceMul, Nat.reduceLeDiff, Nat.reduceEqDiff, Nat.reduceBEq, Int.reduceLE, Int.reduceLT, Int.reduceEq, Int.reduceNe, Int.reduceAdd, Int.reduceSub, Int.reduceToNat, Int.reduceNeg, ↓reduceIte, reduceCtorEq]
   refine ⟨by rfl, ?_⟩
   refine ⟨⟨by omega, by omega⟩, ?_⟩
   rw [← hml]
   refine CT_ok (twinO (l ++ [{ x with id := next }]) (hl.snoc (by omega) hx) 2 _ (by simp [AH.at, cellD, aset])) ?_
   rintro _ _ ⟨rfl, rfl⟩
   simp only [lay, wk3, wk, iaddrV_map, Nat.reduceAdd, Nat.reduceSub, Nat.reduceMul, Nat.reduceLeDiff, Nat.reduceEqDiff, Nat.reduceBEq, Int.reduceLE, Int.reduceLT, Int.reduceEq, Int.reduceNe, Int.reduceAdd, Int.reduceSub, Int.reduceToNat, Int.reduceNeg, ↓reduceIte, reduceCtorEq]
   refine KWk_sets 3 (l ++ [{ x with id := next }]) 0 _ (by simp) rfl ⟨rfl, rfl⟩
  ·have g4 : (0 : Int) < (l.length : Int) := by omega
   have g5 : ¬ next ≤ (l.getD (l.length - 1) default).id := by omega
   have w1 : IntKind.i64.wrap ((l.length : Int) - 1) = ((l.length - 1 : Nat) : Int) := by rw [IntWalk.i64_in _ (by omega)]; omega
   have g6 : (0 : Int) ≤ ((l.length - 1 : Nat) : Int) := by omega
   have g7 : ((l.length - 1 : Nat) : Int) < (l.length : Int) := by omega
   simp only [asets, cellD, aset, pdset, g1, g2, g3, g4, g5, g6, g7, w1, lay, wk3, wk, iaddrV_map, Nat.reduceAdd, Nat.reduceSub, Nat.reduceMul, Nat.reduceLeDiff, Nat.reduceEqDiff, Nat.reduceBEq, Int.reduceLE, Int.reduceLT, Int.reduceEq, Int.reduceNe, Int.reduceAdd, Int.reduceSub, Int.reduceToNat, Int.reduceNeg, ↓reduceIte, reduceCtorEq]
   refine WT_drawE ?_
   refine WDT_more 2 ?_
   simp only [lay, wk3, wk, iaddrV_map, Nat.reduceAdd, Nat.reduceSub, Nat.reduceMul, Nat.reduceLeDiff, Nat.reduceEqDiff, Nat.reduceBEq, Int.reduceLE, Int.reduceLT, Int.reduceEq, Int.reduceNe, Int.reduceAdd, Int.reduceSub, Int.reduceToNat, Int.reduceNeg, ↓reduceIte, reduceCtorEq]
   refine ⟨by omega, CFT_clone l hl1 (by simp) ?_⟩
   simp only [ren, renL, lay, wk3, wk, iaddrV_map, Nat.reduceAdd, Nat.reduceSub, Nat.reduceMul, Nat.reduceLeDiff, Nat.reduceEqDiff, Nat.reduceBEq, Int.reduceLE, Int.reduceLT, Int.reduceEq, Int.reduceNe, Int.reduceAdd, Int.reduceSub, Int.reduceToNat, Int.reduceNeg, ↓reduceIte, reduceCtorEq]
   refine ⟨by rfl, ?_⟩
   refine ⟨⟨by omega, by omega⟩, ?_⟩
   rw [← hml]
   refine CT_ok (twinO (l ++ [{ x with id := next }]) (hl.snoc (by omega) hx) 2 _ (by simp [AH.at, cellD, aset])) ?_
   rintro _ _ ⟨rfl, rfl⟩
   simp only [lay, wk3, wk, iaddrV_map, Nat.reduceAdd, Nat.reduceSub, Nat.reduceMul, Nat.reduceLeDiff, Nat.reduceEqDiff, Nat.reduceBEq, Int.reduceLE, Int.reduceLT, Int.reduceEq, Int.reduceNe, Int.reduceAdd, Int.reduceSub, Int.reduceToNat, Int.reduceNeg, ↓reduceIte, reduceCtorEq]
   refine KWk_sets 3 (l ++ [{ x with id := next }]) 0 _ (by simp) rfl ⟨rfl, rfl⟩
 ·rw [show addA l next x = (l, 8) from if_neg hok]
  have e5 : ∀ k : Nat, (pdset (l.getD k default)).length = 5 := fun _ => rfl
  by_cases g1 : (8 : Int) ≤ (l.length : Int)
  ·simp only [asets, cellD, aset, g1, lay, wk3, wk, iaddrV_map, Nat.reduceAdd, Nat.reduceSub, Nat.reduceMul, Nat.reduceLeDiff, Nat.reduceEqDiff, Nat.reduceBEq, Int.reduceLE, Int.reduceLT, Int.reduceEq, Int.reduceNe, Int.reduceAdd, Int.reduceSub, Int.reduceToNat, Int.reduceNeg, ↓reduceIte, reduceCtorEq]
   refine CT_ok (twinL l hl _) ?_
   rintro _ _ ⟨rfl, rfl⟩
   simp only [lay, wk3, wk, iaddrV_map, Nat.reduceAdd, Nat.reduceSub, Nat.reduceMul, Nat.reduceLeDiff, Nat.reduceEqDiff, Nat.reduceBEq, Int.reduceLE, Int.reduceLT, Int.reduceEq, Int.reduceNe, Int.reduceAdd, Int.reduceSub, Int.reduceToNat, Int.reduceNeg, ↓reduceIte, reduceCtorEq]
   exact KWk_sets 1 l 8 _ rfl rfl ⟨rfl, rfl⟩
  by_cases g2 : next < 1
  ·simp only [asets, cellD, aset, g1, g2, lay, wk3, wk, iaddrV_map, Nat.reduceAdd, Nat.reduceSub, Nat.reduceMul, Nat.reduceLeDiff, Nat.reduceEqDiff, Nat.reduceBEq, Int.reduceLE, Int.reduceLT, Int.reduceEq, Int.reduceNe, Int.reduceAdd, Int.reduceSub, Int.reduceToNat, Int.reduceNeg, ↓reduceIte, reduceCtorEq]
   refine CT_ok (twinL l hl _) ?_
   rintro _ _ ⟨rfl, rfl⟩
   simp only [lay, wk3, wk, iaddrV_map, Nat.reduceAdd, Nat.reduceSub, Nat.reduceMul, Nat.reduceLeDiff, Nat.reduceEqDiff, Nat.reduceBEq, Int.reduceLE, Int.reduceLT, Int.reduceEq, Int.reduceNe, Int.reduceAdd, Int.reduceSub, Int.reduceToNat, Int.reduceNeg, ↓reduceIte, reduceCtorEq]
   exact KWk_sets 1 l 8 _ rfl rfl ⟨rfl, rfl⟩
  by_cases g3 : 65535 < next
  ·simp only [asets, cellD, aset, g1, g2, g3, lay, wk3, wk, iaddrV_map, Nat.reduceAdd, Nat.reduceSub, Nat.reduceMul, Nat.reduceLeDiff, Nat.reduceEqDiff, Nat.reduceBEq, Int.reduceLE, Int.reduceLT, Int.reduceEq, Int.reduceNe, Int.reduceAdd, Int.reduceSub, Int.reduceToNat, Int.reduceNeg, ↓reduceIte, reduceCtorEq]
   refine CT_ok (twinL l hl _) ?_
   rintro _ _ ⟨rfl, rfl⟩
   simp only [lay, wk3, wk, iaddrV_map, Nat.reduceAdd, Nat.reduceSub, Nat.reduceMul, Nat.reduceLeDiff, Nat.reduceEqDiff, Nat.reduceBEq, Int.reduceLE, Int.reduceLT, Int.reduceEq, Int.reduceNe, Int.reduceAdd, Int.reduceSub, Int.reduceToNat, Int.reduceNeg, ↓reduceIte, reduceCtorEq]
   exact KWk_sets 1 l 8 _ rfl rfl ⟨rfl, rfl⟩
  have hok2 : ¬ (l.length = 0 ∨ (l.getD (l.length - 1) default).id < next) := by
   intro h
   apply hok
   simp only [addOk, Bool.and_eq_true, Bool.or_eq_true, decide_eq_true_eq]
   exact ⟨⟨⟨by omega, by omega⟩, by omega⟩, h⟩
  have g4 : (0 : Int) < (l.length : Int) := by
   have : ¬ l.length = 0 := fun e => hok2 (.inl e)
   omega
  have g5 : next ≤ (l.getD (l.length - 1) default).id := Int.not_lt.1 fun e => hok2 (.inr e)
  have w1 : IntKind.i64.wrap ((l.length : Int) - 1) = ((l.length - 1 : Nat) : Int) := by rw [IntWalk.i64_in _ (by omega)]; omega
  have g6 : (0 : Int) ≤ ((l.length - 1 : Nat) : Int) := by omega
  have g7 : ((l.length - 1 : Nat) : Int) < (l.length : Int) := by omega
  simp only [asets, cellD, aset, pdset, g1, g2, g3, g4, g5, g6, g7, w1, lay, wk3, wk, iaddrV_map, Nat.reduceAdd, Nat.reduceSub, Nat.reduceMul, Nat.reduceLeDiff, Nat.reduceEqDiff, Nat.reduceBEq, Int.reduceLE, Int.reduceLT, Int.reduceEq, Int.reduceNe, Int.reduceAdd, Int.reduceSub, Int.reduceToNat, Int.reduceNeg, ↓reduceIte, reduceCtorEq]
  refine CT_ok (twinL l hl _) ?_
  rintro _ _ ⟨rfl, rfl⟩
  simp only [lay, wk3, wk, iaddrV_map, Nat.reduceAdd, Nat.reduceSub, Nat.reduceMul, Nat.reduceLeDiff, Nat.reduceEqDiff, Nat.reduceBEq, Int.reduceLE, Int.reduceLT, Int.reduceEq, Int.reduceNe, Int.reduceAdd, Int.reduceSub, Int.reduceToNat, Int.reduceNeg, ↓reduceIte, reduceCtorEq]
  exact KWk_sets 1 l 8 _ rfl rfl ⟨rfl, rfl⟩
theorem outA_bare (r : List Dset × Int) : bare (outA r) = true := by simp [outA, bare, bareL, asets]
theorem C_any {f : FuncId} {args : List AV} {y : AV} (h : C Tryz.prog f args [] (fun x H' => x = y ∧ H' = [])) (ha : bareL args = true) (hy : bare y = true) (H : AH) : C Tryz.prog f args H (fun x H' => x = y ∧ H' = H) :=
 C_pure (K0 := fun x => x = y) h (fun τ => renL_bare τ _ ha) (by rintro x rfl τ; exact ren_bare τ _ hy) H
theorem addL (l : List Dset) (hl : Short l) (next : Int) (x : Dset) (hx : x.files.length ≤ 1000000) (H : AH) :
 C Tryz.prog 57 [asets l, .int .i64 next, .agg (cellD x)] H (fun y H' => y = outA (addA l next x) ∧ H' = H) :=
 C_any (add0 l hl next x hx) (by simp [bareL, bare, asets, cellD, aset]) (outA_bare _) H
end Go.Proofs.YtemjlopoffjmpaaGreat.Abs
namespace Go.Proofs.YtemjlopoffjmpaaGreat.Abs
open Go
def c24 : ACode :=
 (.seq (.reg [⟨some 6, none, .mv (.c (.emp))⟩,
  ⟨some 7, none, .mv (.c (.int .i64 0))⟩])
 (.seq (.reg [⟨some 11, none, .mv (.t 0)⟩,
  ⟨some 12, none, .mv (.t 2)⟩,
  ⟨some 13, none, .call 27 [(.t 11), (.t 12)]⟩,
  ⟨some 10, none, .mv (.t 13)⟩,
  ⟨some 14, none, .ext (.t 10) 0⟩,
  ⟨some 15, none, .ext (.t 10) 1⟩,
  ⟨some 8, none, .alloc [.int .i64 0, .int .i64 0, .int .i64 0, .int .i64 0, .emp]⟩,
  ⟨none, none, .store 5 (.t 8) (.t 14)⟩,
  ⟨some 9, none, .mv (.t 15)⟩])
 (.seq (.block 0
 (.seq (.reg [⟨some 17, none, .mv (.t 9)⟩,
  ⟨some 18, none, .un .not (.t 17)⟩,
  ⟨some 16, none, .mv (.t 18)⟩])
 (.cond (.t 16)
 (.seq (.reg [⟨some 19, none, .mv (.t 0)⟩,
  ⟨some 20, none, .call 56 [(.t 19)]⟩,
  ⟨some 6, none, .mv (.t 20)⟩,
  ⟨some 7, none, .mv (.c (.int .i64 2))⟩])
 .ret)
 (.seq (.reg [⟨some 22, none, .faddr 1 (.t 8)⟩,
  ⟨some 23, none, .load false 1 (.t 22)⟩,
  ⟨some 24, none, .bini .eql (.t 23) (.c (.int .i64 2))⟩,
  ⟨some 21, none, .mv (.t 24)⟩])
 (.cond (.t 21)
 (.seq (.reg [⟨some 25, none, .mv (.t 0)⟩,
  ⟨some 26, none, .call 56 [(.t 25)]⟩,
  ⟨some 6, none, .mv (.t 26)⟩,
  ⟨some 7, none, .mv (.c (.int .i64 11))⟩])
 .ret)
 .skip)))))
 (.seq (.reg [⟨some 27, none, .mv (.t 0)⟩,
  ⟨some 28, none, .mv (.t 1)⟩,
  ⟨some 29, none, .mv (.t 2)⟩,
  ⟨some 30, none, .faddr 4 (.t 8)⟩,
  ⟨some 31, none, .load false 1 (.t 30)⟩,
  ⟨some 32, none, .build [.int .i64 0, .int .i64 0, .int .i64 0, .int .i64 0, .emp] [(1, 1, (.c (.int .i64 2))), (2, 1, (.t 29)), (4, 1, (.t 31))]⟩,
  ⟨some 33, none, .call 57 [(.t 27), (.t 28), (.t 32)]⟩,
  ⟨some 34, none, .ext (.t 33) 0⟩,
  ⟨some 35, none, .ext (.t 33) 1⟩,
  ⟨some 6, none, .mv (.t 34)⟩,
  ⟨some 7, none, .mv (.t 35)⟩])
 .ret))))
theorem d24 : FnD Tryz.prog 24 3 33 [.tmp 6, .tmp 7] c24 := ⟨Tryz.f24, _, Tryz.func24, by kernel_rfl, rfl, rfl, by kernel_rfl, by kernel_rfl⟩
end Go.Proofs.YtemjlopoffjmpaaGreat.Abs
namespace Go.Proofs.YtemjlopoffjmpaaGreat.Abs
open Go
def c25 : ACode :=
 (.seq (.reg [⟨some 6, none, .mv (.c (.emp))⟩,
  ⟨some 7, none, .mv (.c (.int .i64 0))⟩])
 (.seq (.reg [⟨some 11, none, .mv (.t 0)⟩,
  ⟨some 12, none, .mv (.t 2)⟩,
  ⟨some 13, none, .call 27 [(.t 11), (.t 12)]⟩,
  ⟨some 10, none, .mv (.t 13)⟩,
  ⟨some 14, none, .ext (.t 10) 0⟩,
  ⟨some 15, none, .ext (.t 10) 1⟩,
  ⟨some 8, none, .alloc [.int .i64 0, .int .i64 0, .int .i64 0, .int .i64 0, .emp]⟩,
  ⟨none, none, .store 5 (.t 8) (.t 14)⟩,
  ⟨some 9, none, .mv (.t 15)⟩])
 (.seq (.block 0
 (.seq (.reg [⟨some 17, none, .mv (.t 9)⟩,
  ⟨some 18, none, .un .not (.t 17)⟩,
  ⟨some 16, none, .mv (.t 18)⟩])
 (.cond (.t 16)
 (.seq (.reg [⟨some 19, none, .mv (.t 0)⟩,
  ⟨some 20, none, .call 56 [(.t 19)]⟩,
  ⟨some 6, none, .mv (.t 20)⟩,
  ⟨some 7, none, .mv (.c (.int .i64 2))⟩])
 .ret)
 (.seq (.reg [⟨some 22, none, .faddr 1 (.t 8)⟩,
  ⟨some 23, none, .load false 1 (.t 22)⟩,
  ⟨some 24, none, .bini .neq (.t 23) (.c (.int .i64 2))⟩,
  ⟨some 21, none, .mv (.t 24)⟩])
 (.cond (.t 21)
 (.seq (.reg [⟨some 25, none, .mv (.t 0)⟩,
  ⟨some 26, none, .call 56 [(.t 25)]⟩,
  ⟨some 6, none, .mv (.t 26)⟩,
  ⟨some 7, none, .mv (.c (.int .i64 1))⟩])
 .ret)
 .skip)))))
 (.seq (.reg [⟨some 27, none, .mv (.t 0)⟩,
  ⟨some 28, none, .mv (.t 1)⟩,
  ⟨some 29, none, .mv (.t 2)⟩,
  ⟨some 30, none, .faddr 4 (.t 8)⟩,
  ⟨some 31, none, .load false 1 (.t 30)⟩,
  ⟨some 32, none, .build [.int .i64 0, .int .i64 0, .int .i64 0, .int .i64 0, .emp] [(1, 1, (.c (.int .i64 1))), (2, 1, (.t 29)), (4, 1, (.t 31))]⟩,
  ⟨some 33, none, .call 57 [(.t 27), (.t 28), (.t 32)]⟩,
  ⟨some 34, none, .ext (.t 33) 0⟩,
  ⟨some 35, none, .ext (.t 33) 1⟩,
  ⟨some 6, none, .mv (.t 34)⟩,
  ⟨some 7, none, .mv (.t 35)⟩])
 .ret))))
theorem d25 : FnD Tryz.prog 25 3 33 [.tmp 6, .tmp 7] c25 := ⟨Tryz.f25, _, Tryz.func25, by kernel_rfl, rfl, rfl, by kernel_rfl, by kernel_rfl⟩
end Go.Proofs.YtemjlopoffjmpaaGreat.Abs
namespace Go.Proofs.YtemjlopoffjmpaaGreat.Abs
open Go
def c27 : ACode :=
 (.seq (.reg [⟨some 4, none, .alloc [.int .i64 0, .int .i64 0, .int .i64 0, .int .i64 0, .emp]⟩,
  ⟨some 5, none, .mv (.c (.bool false))⟩])
 (.seq (.reg [⟨some 7, none, .mv (.t 0)⟩,
  ⟨some 8, none, .call 56 [(.t 7)]⟩,
  ⟨some 0, none, .mv (.t 8)⟩])
 (.seq (.reg [⟨some 9, none, .mv (.t 0)⟩,
  ⟨some 10, none, .mv (.t 1)⟩,
  ⟨some 11, none, .call 59 [(.t 9), (.t 10)]⟩,
  ⟨some 6, none, .mv (.t 11)⟩])
 (.seq (.seq (.reg [⟨some 12, none, .mv (.t 6)⟩,
  ⟨some 13, none, .bini .lss (.t 12) (.c (.int .i64 0))⟩])
 (.cond (.t 13)
 (.seq (.reg [⟨some 14, none, .build [.int .i64 0, .int .i64 0, .int .i64 0, .int .i64 0, .emp] []⟩,
  ⟨none, none, .store 5 (.t 4) (.t 14)⟩,
  ⟨some 5, none, .mv (.c (.bool false))⟩])
 .ret)
 .skip))
 (.seq (.reg [⟨some 15, none, .mv (.t 0)⟩,
  ⟨some 16, none, .mv (.t 6)⟩,
  ⟨some 17, none, .iaddr 5 (.t 15) (.t 16)⟩,
  ⟨some 18, none, .load true 5 (.t 17)⟩,
  ⟨none, none, .store 5 (.t 4) (.t 18)⟩,
  ⟨some 5, none, .mv (.c (.bool true))⟩])
 .ret)))))
theorem d27 : FnD Tryz.prog 27 2 17 [.cell 4 true 5, .tmp 5] c27 := ⟨Tryz.f27, _, Tryz.func27, by kernel_rfl, rfl, rfl, by kernel_rfl, by kernel_rfl⟩
end Go.Proofs.YtemjlopoffjmpaaGreat.Abs
namespace Go.Proofs.YtemjlopoffjmpaaGreat.Abs
open Go
def c37 : ACode :=
 (.seq (.reg [⟨some 6, none, .mv (.c (.emp))⟩,
  ⟨some 7, none, .mv (.c (.int .i64 0))⟩])
 (.seq (.seq (.reg [⟨some 8, none, .mv (.t 2)⟩,
  ⟨some 9, none, .bini .lss (.t 8) (.c (.int .i64 0))⟩,
  ⟨some 10, none, .mv (.t 9)⟩,
  ⟨some 11, (some (10, false)), .mv (.t 2)⟩,
  ⟨some 12, (some (10, false)), .bini .gtr (.t 11) (.c (.int .i64 255))⟩,
  ⟨some 13, none, .pick (.t 10) (.c (.bool true)) (.t 12)⟩])
 (.cond (.t 13)
 (.seq (.reg [⟨some 14, none, .mv (.t 0)⟩,
  ⟨some 15, none, .call 56 [(.t 14)]⟩,
  ⟨some 6, none, .mv (.t 15)⟩,
  ⟨some 7, none, .mv (.c (.int .i64 1))⟩])
 .ret)
 .skip))
 (.seq (.reg [⟨some 16, none, .mv (.t 0)⟩,
  ⟨some 17, none, .mv (.t 1)⟩,
  ⟨some 18, none, .mv (.t 2)⟩,
  ⟨some 19, none, .call 76 []⟩,
  ⟨some 20, none, .build [.int .i64 0, .int .i64 0, .int .i64 0, .int .i64 0, .emp] [(1, 1, (.c (.int .i64 1))), (3, 1, (.t 18)), (4, 1, (.t 19))]⟩,
  ⟨some 21, none, .call 57 [(.t 16), (.t 17), (.t 20)]⟩,
  ⟨some 22, none, .ext (.t 21) 0⟩,
  ⟨some 23, none, .ext (.t 21) 1⟩,
  ⟨some 6, none, .mv (.t 22)⟩,
  ⟨some 7, none, .mv (.t 23)⟩])
 .ret)))
theorem d37 : FnD Tryz.prog 37 3 21 [.tmp 6, .tmp 7] c37 := ⟨Tryz.f37, _, Tryz.func37, by kernel_rfl, rfl, rfl, by kernel_rfl, by kernel_rfl⟩
end Go.Proofs.YtemjlopoffjmpaaGreat.Abs
namespace Go.Proofs.YtemjlopoffjmpaaGreat.Abs
open Go
def c76 : ACode :=
 (.seq (.reg [⟨some 0, none, .mv (.c (.emp))⟩])
 (.seq (.reg [⟨some 2, none, .mksl 5 56 [.int .i64 0, .int .i64 0, .str [], .str [], .int .i64 0] (.c (.int .i64 8)) (.c (.int .i64 8))⟩,
  ⟨some 1, none, .mv (.t 2)⟩])
 (.seq (.reg [⟨some 3, none, .mv (.t 1)⟩,
  ⟨some 4, none, .iaddr 5 (.t 3) (.c (.int .i64 0))⟩,
  ⟨some 5, none, .faddr 0 (.t 4)⟩,
  ⟨none, none, .store 1 (.t 5) (.c (.int .i64 2))⟩])
 (.seq (.reg [⟨some 6, none, .mv (.t 1)⟩,
  ⟨some 0, none, .mv (.t 6)⟩])
 .ret))))
theorem d76 : FnD Tryz.prog 76 0 7 [.tmp 0] c76 := ⟨Tryz.f76, _, Tryz.func76, by kernel_rfl, rfl, rfl, by kernel_rfl, by kernel_rfl⟩
end Go.Proofs.YtemjlopoffjmpaaGreat.Abs
set_option linter.unusedSimpArgs false
set_option linter.unusedVariables false
namespace Go.Proofs.YtemjlopoffjmpaaGreat.Abs
open Go Go.Proofs
theorem findAt (l : List Dset) (hl : l.length ≤ 1000000) (i : Int) (r : Nat) (H : AH) (hr : H.at r = some (l.map cellD)) : C Tryz.prog 59 [.own r 5 0 l.length l.length, .int .i64 i] H (fun x H' => x = .int .i64 (findA l i) ∧ H' = H) := by
 refine C_call [r] (by simp) (by simpa using at_lt hr) (K0 := fun x H' => x = .int .i64 (findA l i) ∧ H' = [some (l.map cellD)]) ?_ ?_
 ·simpa [renL, ren, toCallee, renO_cells, hr] using find0 l hl i
 ·rintro _ _ ⟨rfl, rfl⟩
  refine ⟨by simp, by simp [ren], ?_⟩
  simp [back, setAll, renO_cells, set_at hr]
theorem isAt (l : List Dset) (hl : l.length ≤ 1000000) (i k : Int) (r : Nat) (H : AH) (hr : H.at r = some (l.map cellD)) : C Tryz.prog 60 [.own r 5 0 l.length l.length, .int .i64 i, .int .i64 k] H (fun x H' => x = .bool (isA l i k) ∧ H' = H) := by
 refine C_call [r] (by simp) (by simpa using at_lt hr) (K0 := fun x H' => x = .bool (isA l i k) ∧ H' = [some (l.map cellD)]) ?_ ?_
 ·simpa [renL, ren, toCallee, renO_cells, hr] using is63 l hl i k []
 ·rintro _ _ ⟨rfl, rfl⟩
  refine ⟨by simp, by simp [ren], ?_⟩
  simp [back, setAll, renO_cells, set_at hr]
def getA (l : List Dset) (i : Int) : Option Dset := if 0 ≤ findA l i then some (l.getD (findA l i).toNat default) else none
def getV : Option Dset → AV
 | some d => .tuple [.agg (cellD d), .bool true]
 | none => .tuple [.agg [.int .i64 0, .int .i64 0, .int .i64 0, .int .i64 0, .emp], .bool false]
theorem getV_bare (o : Option Dset) : bare (getV o) = true := by cases o <;> simp [getV, bare, bareL, cellD, aset]
theorem get0 (l : List Dset) (hl : Short l) (i : Int) : C Tryz.prog 27 [asets l, .int .i64 i] [] (fun x H' => x = getV (getA l i) ∧ H' = []) := by
 have hl1 := hl.1
 refine C_body' d27 rfl (WT_ok ?_)
 unfold c27
 simp only [lay, wk3, wk, iaddrV_map, Nat.reduceAdd, Nat.reduceSub, Nat.reduceMul, Nat.reduceLeDiff, Nat.reduceEqDiff, Nat.reduceBEq, Int.reduceLE, Int.reduceLT, Int.reduceEq, Int.reduceNe, Int.reduceAdd, Int.reduceSub, Int.reduceToNat, Int.reduceNeg, ↓reduceIte, reduceCtorEq]
 refine CT_ok (twinL l hl _) ?_
 rintro _ _ ⟨rfl, rfl⟩
 simp only [lay, wk3, wk, iaddrV_map, Nat.reduceAdd, Nat.reduceSub, Nat.reduceMul, Nat.reduceLeDiff, Nat.reduceEqDiff, Nat.reduceBEq, Int.reduceLE, Int.reduceLT, Int.reduceEq, Int.reduceNe, Int.reduceAdd, Int.reduceSub, Int.reduceToNat, Int.reduceNeg, ↓reduceIte, reduceCtorEq]
 refine CT_ok (findAt l hl1 i 1 _ rfl) ?_
 rintro _ _ ⟨rfl, rfl⟩
 unfold getA
 rcases find_of (l := l) (i := i) with ⟨e, _⟩ | ⟨k, e, hk, _, _⟩
 ·simp only [e, lay, wk3, wk, iaddrV_map, Nat.reduceAdd, Nat.reduceSub, Nat.reduceMul, Nat.reduceLeDiff, Nat.reduceEqDiff, Nat.reduceBEq, Int.reduceLE, Int.reduceLT, Int.reduceEq, Int.reduceNe, Int.reduceAdd, Int.reduceSub, Int.reduceToNat, Int.reduceNeg, ↓reduceIte, reduceCtorEq]
  exact KWk_bare (by simp [bare, bareL]) ⟨rfl, rfl⟩
 ·have hc := cell_at hk
  have h0 : (0 : Int) ≤ k := by omega
  have h1 : (k : Int) < l.length := by omega
  have h2 : ¬ (k : Int) < 0 := by omega
  rw [e]
  simp only [hc, h0, h1, h2, cellD, aset, lay, wk3, wk, iaddrV_map, Nat.reduceAdd, Nat.reduceSub, Nat.reduceMul, Nat.reduceLeDiff, Nat.reduceEqDiff, Nat.reduceBEq, Int.reduceLE, Int.reduceLT, Int.reduceEq, Int.reduceNe, Int.reduceAdd, Int.reduceSub, Int.reduceToNat, Int.reduceNeg, ↓reduceIte, reduceCtorEq]
  exact KWk_bare (by simp [bare, bareL]) ⟨rfl, rfl⟩
theorem getL (l : List Dset) (hl : Short l) (i : Int) (H : AH) : C Tryz.prog 27 [asets l, .int .i64 i] H (fun x H' => x = getV (getA l i) ∧ H' = H) :=
 C_any (get0 l hl i) (by simp [bareL, bare, asets]) (getV_bare _) H
theorem getA_mem {l : List Dset} {i : Int} {d : Dset} (h : getA l i = some d) : d ∈ l ∧ d.id = i := by
 unfold getA at h
 rcases find_of (l := l) (i := i) with ⟨e, _⟩ | ⟨k, e, hk, hid, _⟩
 ·rw [e] at h; cases h
 ·rw [e, if_pos (by omega), Int.toNat_natCast] at h
  cases h
  refine ⟨?_, hid⟩
  rw [List.getD_eq_getElem?_getD, List.getElem?_eq_getElem hk]; exact List.getElem_mem hk
theorem newN0 : C Tryz.prog 76 [] [] (fun x H' => x = aset newA ∧ H' = []) := by
 refine C_body' d76 rfl (WT_ok ?_)
 unfold c76
 simp only [lay, wk3, wk, iaddrV_map, Nat.reduceAdd, Nat.reduceSub, Nat.reduceMul, Nat.reduceLeDiff, Nat.reduceEqDiff, Nat.reduceBEq, Int.reduceLE, Int.reduceLT, Int.reduceEq, Int.reduceNe, Int.reduceAdd, Int.reduceSub, Int.reduceToNat, Int.reduceNeg, ↓reduceIte, reduceCtorEq]
 exact ⟨by omega, KWk_frozen 0 (newA.map pnode) rfl (aset newA) rfl ⟨rfl, rfl⟩⟩
theorem newN (H : AH) : C Tryz.prog 76 [] H (fun x H' => x = aset newA ∧ H' = H) := C_any newN0 rfl (by simp [aset, bare]) H
def createA (l : List Dset) (next q : Int) : List Dset × Int := if q < 0 ∨ 255 < q then (l, 1) else addA l next ⟨0, 1, 0, q, newA⟩
theorem create0 (l : List Dset) (hl : Short l) (next q : Int) : C Tryz.prog 37 [asets l, .int .i64 next, .int .i64 q] [] (fun x H' => x = outA (createA l next q) ∧ H' = []) := by
 refine C_body' d37 rfl (WT_ok ?_)
 unfold c37 createA
 by_cases h1 : q < 0
 ·rw [if_pos (.inl h1)]
  simp only [h1, lay, wk3, wk, iaddrV_map, Nat.reduceAdd, Nat.reduceSub, Nat.reduceMul, Nat.reduceLeDiff, Nat.reduceEqDiff, Nat.reduceBEq, Int.reduceLE, Int.reduceLT, Int.reduceEq, Int.reduceNe, Int.reduceAdd, Int.reduceSub, Int.reduceToNat, Int.reduceNeg, ↓reduceIte, reduceCtorEq]
  refine CT_ok (twinL l hl _) ?_
  rintro _ _ ⟨rfl, rfl⟩
  simp only [lay, wk3, wk, iaddrV_map, Nat.reduceAdd, Nat.reduceSub, Nat.reduceMul, Nat.reduceLeDiff, Nat.reduceEqDiff, Nat.reduceBEq, Int.reduceLE, Int.reduceLT, Int.reduceEq, Int.reduceNe, Int.reduceAdd, Int.reduceSub, Int.reduceToNat, Int.reduceNeg, ↓reduceIte, reduceCtorEq]
  exact KWk_sets 0 l 1 _ rfl rfl ⟨rfl, rfl⟩
 by_cases h2 : 255 < q
 ·rw [if_pos (.inr h2)]
  simp only [h1, h2, lay, wk3, wk, iaddrV_map, Nat.reduceAdd, Nat.reduceSub, Nat.reduceMul, Nat.reduceLeDiff, Nat.reduceEqDiff, Nat.reduceBEq, Int.reduceLE, Int.reduceLT, Int.reduceEq, Int.reduceNe, Int.reduceAdd, Int.reduceSub, Int.reduceToNat, Int.reduceNeg, ↓reduceIte, reduceCtorEq]
  refine CT_ok (twinL l hl _) ?_
  rintro _ _ ⟨rfl, rfl⟩
  simp only [lay, wk3, wk, iaddrV_map, Nat.reduceAdd, Nat.reduceSub, Nat.reduceMul, Nat.reduceLeDiff, Nat.reduceEqDiff, Nat.reduceBEq, Int.reduceLE, Int.reduceLT, Int.reduceEq, Int.reduceNe, Int.reduceAdd, Int.reduceSub, Int.reduceToNat, Int.reduceNeg, ↓reduceIte, reduceCtorEq]
  exact KWk_sets 0 l 1 _ rfl rfl ⟨rfl, rfl⟩
 ·rw [if_neg (fun h => h.elim h1 h2)]
  simp only [h1, h2, lay, wk3, wk, iaddrV_map, Nat.reduceAdd, Nat.reduceSub, Nat.reduceMul, Nat.reduceLeDiff, Nat.reduceEqDiff, Nat.reduceBEq, Int.reduceLE, Int.reduceLT, Int.reduceEq, Int.reduceNe, Int.reduceAdd, Int.reduceSub, Int.reduceToNat, Int.reduceNeg, ↓reduceIte, reduceCtorEq]
  refine CT_ok (newN _) ?_
  rintro _ _ ⟨rfl, rfl⟩
  simp only [aset, lay, wk3, wk, iaddrV_map, Nat.reduceAdd, Nat.reduceSub, Nat.reduceMul, Nat.reduceLeDiff, Nat.reduceEqDiff, Nat.reduceBEq, Int.reduceLE, Int.reduceLT, Int.reduceEq, Int.reduceNe, Int.reduceAdd, Int.reduceSub, Int.reduceToNat, Int.reduceNeg, ↓reduceIte, reduceCtorEq]
  refine CT_ok (addL l hl next ⟨0, 1, 0, q, newA⟩ (show newA.length ≤ 1000000 by decide) _) ?_
  rintro _ _ ⟨rfl, rfl⟩
  simp only [outA, lay, wk3, wk, iaddrV_map, Nat.reduceAdd, Nat.reduceSub, Nat.reduceMul, Nat.reduceLeDiff, Nat.reduceEqDiff, Nat.reduceBEq, Int.reduceLE, Int.reduceLT, Int.reduceEq, Int.reduceNe, Int.reduceAdd, Int.reduceSub, Int.reduceToNat, Int.reduceNeg, ↓reduceIte, reduceCtorEq]
  exact KWk_bare (by simp [bare, bareL, asets]) ⟨rfl, rfl⟩
def snapA (l : List Dset) (next i : Int) : List Dset × Int := match getA l i with
 | none => (l, 2)
 | some d => if d.kind = 2 then (l, 11) else addA l next ⟨0, 2, i, 0, d.files⟩
theorem snap0 (l : List Dset) (hl : Short l) (next i : Int) : C Tryz.prog 24 [asets l, .int .i64 next, .int .i64 i] [] (fun x H' => x = outA (snapA l next i) ∧ H' = []) := by
 refine C_body' d24 rfl (WT_ok ?_)
 unfold c24
 simp only [lay, wk3, wk, iaddrV_map, Nat.reduceAdd, Nat.reduceSub, Nat.reduceMul, Nat.reduceLeDiff, Nat.reduceEqDiff, Nat.reduceBEq, Int.reduceLE, Int.reduceLT, Int.reduceEq, Int.reduceNe, Int.reduceAdd, Int.reduceSub, Int.reduceToNat, Int.reduceNeg, ↓reduceIte, reduceCtorEq]
 refine CT_ok (getL l hl i _) ?_
 rintro _ _ ⟨rfl, rfl⟩
 cases hg : getA l i with
 | none =>
   have e : snapA l next i = (l, 2) := by unfold snapA; rw [hg]
   rw [e]
   simp only [getV, lay, wk3, wk, iaddrV_map, Nat.reduceAdd, Nat.reduceSub, Nat.reduceMul, Nat.reduceLeDiff, Nat.reduceEqDiff, Nat.reduceBEq, Int.reduceLE, Int.reduceLT, Int.reduceEq, Int.reduceNe, Int.reduceAdd, Int.reduceSub, Int.reduceToNat, Int.reduceNeg, ↓reduceIte, reduceCtorEq]
   refine CT_ok (twinL l hl _) ?_
   rintro _ _ ⟨rfl, rfl⟩
   simp only [lay, wk3, wk, iaddrV_map, Nat.reduceAdd, Nat.reduceSub, Nat.reduceMul, Nat.reduceLeDiff, Nat.reduceEqDiff, Nat.reduceBEq, Int.reduceLE, Int.reduceLT, Int.reduceEq, Int.reduceNe, Int.reduceAdd, Int.reduceSub, Int.reduceToNat, Int.reduceNeg, ↓reduceIte, reduceCtorEq]
   exact KWk_sets 1 l 2 _ rfl rfl ⟨rfl, rfl⟩
 | some d =>
   have hd := hl.2 d (getA_mem hg).1
   by_cases h2 : d.kind = 2
   ·have e : snapA l next i = (l, 11) := by unfold snapA; rw [hg]; exact if_pos h2
    rw [e]
    simp only [getV, h2, cellD, aset, lay, wk3, wk, iaddrV_map, Nat.reduceAdd, Nat.reduceSub, Nat.reduceMul, Nat.reduceLeDiff, Nat.reduceEqDiff, Nat.reduceBEq, Int.reduceLE, Int.reduceLT, Int.reduceEq, Int.reduceNe, Int.reduceAdd, Int.reduceSub, Int.reduceToNat, Int.reduceNeg, ↓reduceIte, reduceCtorEq]
    refine CT_ok (twinL l hl _) ?_
    rintro _ _ ⟨rfl, rfl⟩
    simp only [lay, wk3, wk, iaddrV_map, Nat.reduceAdd, Nat.reduceSub, Nat.reduceMul, Nat.reduceLeDiff, Nat.reduceEqDiff, Nat.reduceBEq, Int.reduceLE, Int.reduceLT, Int.reduceEq, Int.reduceNe, Int.reduceAdd, Int.reduceSub, Int.reduceToNat, Int.reduceNeg, ↓reduceIte, reduceCtorEq]
    exact KWk_sets 1 l 11 _ rfl rfl ⟨rfl, rfl⟩
   ·have e : snapA l next i = addA l next ⟨0, 2, i, 0, d.files⟩ := by unfold snapA; rw [hg]; exact if_neg h2
    rw [e]
    simp only [getV, h2, cellD, aset, lay, wk3, wk, iaddrV_map, Nat.reduceAdd, Nat.reduceSub, Nat.reduceMul, Nat.reduceLeDiff, Nat.reduceEqDiff, Nat.reduceBEq, Int.reduceLE, Int.reduceLT, Int.reduceEq, Int.reduceNe, Int.reduceAdd, Int.reduceSub, Int.reduceToNat, Int.reduceNeg, ↓reduceIte, reduceCtorEq]
    refine CT_ok (addL l hl next ⟨0, 2, i, 0, d.files⟩ hd _) ?_
    rintro _ _ ⟨rfl, rfl⟩
    simp only [outA, lay, wk3, wk, iaddrV_map, Nat.reduceAdd, Nat.reduceSub, Nat.reduceMul, Nat.reduceLeDiff, Nat.reduceEqDiff, Nat.reduceBEq, Int.reduceLE, Int.reduceLT, Int.reduceEq, Int.reduceNe, Int.reduceAdd, Int.reduceSub, Int.reduceToNat, Int.reduceNeg, ↓reduceIte, reduceCtorEq]
    exact KWk_bare (by simp [bare, bareL, asets]) ⟨rfl, rfl⟩
def cloneA (l : List Dset) (next i : Int) : List Dset × Int := match getA l i with
 | none => (l, 2)
 | some d => if d.kind = 2 then addA l next ⟨0, 1, i, 0, d.files⟩ else (l, 1)
theorem dclone0 (l : List Dset) (hl : Short l) (next i : Int) : C Tryz.prog 25 [asets l, .int .i64 next, .int .i64 i] [] (fun x H' => x = outA (cloneA l next i) ∧ H' = []) := by
 refine C_body' d25 rfl (WT_ok ?_)
 unfold c25
 simp only [lay, wk3, wk, iaddrV_map, Nat.reduceAdd, Nat.reduceSub, Nat.reduceMul, Nat.reduceLeDiff, Nat.reduceEqDiff, Nat.reduceBEq, Int.reduceLE, Int.reduceLT, Int.reduceEq, Int.reduceNe, Int.reduceAdd, Int.reduceSub, Int.reduceToNat, Int.reduceNeg, ↓reduceIte, reduceCtorEq]
 refine CT_ok (getL l hl i _) ?_
 rintro _ _ ⟨rfl, rfl⟩
 cases hg : getA l i with
 | none =>
   have e : cloneA l next i = (l, 2) := by unfold cloneA; rw [hg]
   rw [e]
   simp only [getV, lay, wk3, wk, iaddrV_map, Nat.reduceAdd, Nat.reduceSub, Nat.reduceMul, Nat.reduceLeDiff, Nat.reduceEqDiff, Nat.reduceBEq, Int.reduceLE, Int.reduceLT, Int.reduceEq, Int.reduceNe, Int.reduceAdd, Int.reduceSub, Int.reduceToNat, Int.reduceNeg, ↓reduceIte, reduceCtorEq]
   refine CT_ok (twinL l hl _) ?_
   rintro _ _ ⟨rfl, rfl⟩
   simp only [lay, wk3, wk, iaddrV_map, Nat.reduceAdd, Nat.reduceSub, Nat.reduceMul, Nat.reduceLeDiff, Nat.reduceEqDiff, Nat.reduceBEq, Int.reduceLE, Int.reduceLT, Int.reduceEq, Int.reduceNe, Int.reduceAdd, Int.reduceSub, Int.reduceToNat, Int.reduceNeg, ↓reduceIte, reduceCtorEq]
   exact KWk_sets 1 l 2 _ rfl rfl ⟨rfl, rfl⟩
 | some d =>
   have hd := hl.2 d (getA_mem hg).1
   by_cases h2 : d.kind = 2
   ·have e : cloneA l next i = addA l next ⟨0, 1, i, 0, d.files⟩ := by unfold cloneA; rw [hg]; exact if_pos h2
    rw [e]
    simp only [getV, h2, cellD, aset, lay, wk3, wk, iaddrV_map, Nat.reduceAdd, Nat.reduceSub, Nat.reduceMul, Nat.reduceLeDiff, Nat.reduceEqDiff, Nat.reduceBEq, Int.reduceLE, Int.reduceLT, Int.reduceEq, Int.reduceNe, Int.reduceAdd, Int.reduceSub, Int.reduceToNat, Int.reduceNeg, ↓reduceIte, reduceCtorEq]
    refine CT_ok (addL l hl next ⟨0, 1, i, 0, d.files⟩ hd _) ?_
    rintro _ _ ⟨rfl, rfl⟩
    simp only [outA, lay, wk3, wk, iaddrV_map, Nat.reduceAdd, Nat.reduceSub, Nat.reduceMul, Nat.reduceLeDiff, Nat.reduceEqDiff, Nat.reduceBEq, Int.reduceLE, Int.reduceLT, Int.reduceEq, Int.reduceNe, Int.reduceAdd, Int.reduceSub, Int.reduceToNat, Int.reduceNeg, ↓reduceIte, reduceCtorEq]
    exact KWk_bare (by simp [bare, bareL, asets]) ⟨rfl, rfl⟩
   ·have e : cloneA l next i = (l, 1) := by unfold cloneA; rw [hg]; exact if_neg h2
    rw [e]
    simp only [getV, h2, cellD, aset, lay, wk3, wk, iaddrV_map, Nat.reduceAdd, Nat.reduceSub, Nat.reduceMul, Nat.reduceLeDiff, Nat.reduceEqDiff, Nat.reduceBEq, Int.reduceLE, Int.reduceLT, Int.reduceEq, Int.reduceNe, Int.reduceAdd, Int.reduceSub, Int.reduceToNat, Int.reduceNeg, ↓reduceIte, reduceCtorEq]
    refine CT_ok (twinL l hl _) ?_
    rintro _ _ ⟨rfl, rfl⟩
    simp only [lay, wk3, wk, iaddrV_map, Nat.reduceAdd, Nat.reduceSub, Nat.reduceMul, Nat.reduceLeDiff, Nat.reduceEqDiff, Nat.reduceBEq, Int.reduceLE, Int.reduceLT, Int.reduceEq, Int.reduceNe, Int.reduceAdd, Int.reduceSub, Int.reduceToNat, Int.reduceNeg, ↓reduceIte, reduceCtorEq]
    exact KWk_sets 1 l 1 _ rfl rfl ⟨rfl, rfl⟩
end Go.Proofs.YtemjlopoffjmpaaGreat.Abs
set_option linter.unusedSimpArgs false
set_option linter.unusedVariables false
namespace Go.Proofs.YtemjlopoffjmpaaGreat.Abs
open Go Go.Proofs
theorem iaddr_dset (H : AH) (l : List Dset) (k : IntKind) (n : Int) : iaddrV H 5 (.fz (l.map pdset)) (.int k n) = if 0 ≤ n ∧ n < l.length then some (.fptr (pdset (l.getD n.toNat default))) else none := by
 rw [iaddrV_map]
 have : (pdset (l.getD n.toNat default)).length = 5 := rfl
 simp only [this, and_true]
theorem rid68 (n : Int) (H : AH) : C Tryz.prog 61 [.int .i64 n] H (fun x H' => x = .bool (decide (0 ≤ n) && decide (n ≤ 65535)) ∧ H' = H) := by
 refine C_body d61 rfl (WT_ok ?_)
 unfold c61
 simp only [lay, wk3, wk, iaddrV_map, seval]
 refine guard_both ?_ ?_ <;> intro h <;> simp only [hy] at h <;> simp only [h, lay, Bool.false_and, wk3, wk, iaddrV_map, seval]
theorem rat85 (l : List Dset) (hl : l.length ≤ 1000000) (i : Int) (H : AH) : C Tryz.prog 52 [asets l, .int .i64 i] H (fun x H' => x = .int .i64 (findA l i) ∧ H' = H) := by
 refine C_body d52 rfl (WT_ok ?_)
 unfold c52
 simp only [asets, lay, wk3, wk, iaddrV_map, seval]
 refine WT_loop (W_loop (fun n fr H' => ∃ k : Nat, k ≤ l.length ∧ n = l.length - k ∧ (∀ j, j < k → (l.getD j default).id ≠ i) ∧ H' = H ∧ fr = [asets l, .int .i64 i, .top, .top, .int .i64 0, .int .i64 k] ++ List.replicate 14 .top) l.length ⟨0, by omega, rfl, fun j hj => by omega, rfl, rfl⟩ ?_)
 rintro n fr H' ⟨k, hk, rfl, hne, rfl, rfl⟩
 refine WT_ok ?_
 simp only [asets, lay, wk3, wk, iaddrV_map, seval]
 refine guard_both ?_ ?_ <;> intro h <;> simp only [hy] at h
 ·have hk2 : k < l.length := by omega
  have w2 : IntKind.i64.wrap ((k : Int) + 1) = (k : Int) + 1 := IntWalk.i64_in _ (by omega)
  have h0 : (0 : Int) ≤ k := by omega
  have e5 : (pdset (l.getD k default)).length = 5 := rfl
  simp only [h, h0, e5, pdset, lay, wk3, wk, iaddrV_map, seval]
  by_cases hid : (l.getD k default).id = i
  ·simp only [hid, lay, wk3, wk, iaddrV_map, seval]
   unfold findA
   rw [idxA_some hk2 (by simpa using hid) (fun j hj => by simpa using hne j hj)]
  ·simp only [hid, w2, lay, wk3, wk, iaddrV_map, seval]
   refine QLoop_go (n' := l.length - (k + 1)) (by omega) ⟨k + 1, by omega, rfl, fun j hj => ?_, rfl, rfl⟩ ?_
   ·rcases Nat.lt_or_ge j k with h' | h'
    ·exact hne j h'
    ·have : j = k := by omega
     subst this; exact hid
   ·simp only [asets, List.replicate_succ, List.replicate_zero, List.cons_append, List.nil_append, Tops_top, Tops_same, Tops_nil, Int.natCast_add, Int.natCast_one]
 ·simp only [h, lay, wk3, wk, iaddrV_map, seval]
  unfold findA
  rw [idxA_none fun j hj => by simpa using hne j (by omega)]
theorem rget0 (l : List Dset) (hl : l.length ≤ 1000000) (i : Int) : C Tryz.prog 30 [asets l, .int .i64 i] [] (fun x H' => x = getV (getA l i) ∧ H' = []) := by
 refine C_body' d30 rfl (WT_ok ?_)
 unfold c30
 simp only [lay, wk3, wk, iaddrV_map, seval]
 refine CT_ok (rat85 l hl i _) ?_
 rintro _ _ ⟨rfl, rfl⟩
 unfold getA
 rcases find_of (l := l) (i := i) with ⟨e, _⟩ | ⟨k, e, hk, _, _⟩
 ·simp only [e, asets, lay, wk3, wk, iaddrV_map, seval]
  exact KWk_bare (by simp [bare, bareL]) ⟨rfl, rfl⟩
 ·have h0 : (0 : Int) ≤ k := by omega
  have h1 : (k : Int) < l.length := by omega
  have h2 : ¬ (k : Int) < 0 := by omega
  have e5 : (pdset (l.getD k default)).length = 5 := rfl
  rw [e]
  simp only [h0, h1, h2, e5, asets, pdset, lay, wk3, wk, iaddrV_map, seval]
  exact KWk_bare (by simp [bare, bareL]) ⟨rfl, rfl⟩
theorem rgetL (l : List Dset) (hl : l.length ≤ 1000000) (i : Int) (H : AH) : C Tryz.prog 30 [asets l, .int .i64 i] H (fun x H' => x = getV (getA l i) ∧ H' = H) :=
 C_any (rget0 l hl i) (by simp [bareL, bare, asets]) (getV_bare _) H
theorem bad96 (s : List Node) (hs : s.length ≤ 1000000) (H : AH) : C Tryz.prog 130 [aset s] H (fun x H' => x = .bool (s.any fun x => decide (x.bad ≠ 0)) ∧ H' = H) := by
 refine C_body d130 rfl (WT_ok ?_)
 unfold c130
 simp only [aset, wk, iaddrV_map, seval]
 refine WT_loop (W_loop (fun n fr H' => ∃ i : Nat, i ≤ s.length ∧ n = s.length - i ∧ (∀ j, j < i → (s.getD j default).bad = 0) ∧ H' = H ∧ fr = [aset s, .top, .bool false, .int .i64 i] ++ List.replicate 12 .top) s.length ⟨0, by omega, rfl, fun j hj => by omega, rfl, rfl⟩ ?_)
 rintro n fr H' ⟨i, hi, rfl, hj, rfl, rfl⟩
 refine WT_ok ?_
 simp only [aset, iaddr_node, pnode, wk3, wk, seval]
 refine guard_both ?_ ?_ <;> intro h <;> simp only [hy] at h
 ·have hil : i < s.length := by omega
  have h0 : (0 : Int) ≤ i := by omega
  have w2 : IntKind.i64.wrap ((i : Int) + 1) = (i : Int) + 1 := IntWalk.i64_in _ (by omega)
  by_cases h2 : (s.getD i default).bad = 0
  ·simp only [h, h0, h2, w2, iaddr_node, pnode, wk3, wk, seval]
   refine QLoop_go (n' := s.length - (i + 1)) (by omega) ⟨i + 1, by omega, rfl, fun j hj2 => ?_, rfl, rfl⟩ ?_
   ·rcases Nat.lt_or_ge j i with h' | h'
    ·exact hj j h'
    ·have : j = i := by omega
     subst this; exact h2
   ·simp only [aset, List.replicate_succ, List.replicate_zero, List.cons_append, List.nil_append, Tops_top, Tops_same, Tops_nil, Int.natCast_add, Int.natCast_one]
  ·simp only [h, h0, h2, iaddr_node, pnode, wk3, wk, seval]
   have : (s.any fun x => decide (x.bad ≠ 0)) = true := by
    rw [List.any_eq_true]
    exact ⟨_, getD_mem hil, by simpa using h2⟩
   rw [this]
 ·simp only [h, iaddr_node, pnode, wk3, wk, seval]
  have : (s.any fun x => decide (x.bad ≠ 0)) = false := by
   rw [List.any_eq_false]
   intro x hx
   obtain ⟨n, hn, rfl⟩ := mem_getD hx
   simpa using hj n (by omega)
  rw [this]
theorem folder_exact (s : List Node) (n : Int) (H : AH) : C Tryz.prog 128 [aset s, .int .i64 n] H (fun x H' => x = .bool (decide (0 ≤ n ∧ n < s.length) && decide ((s.getD n.toNat default).kind = 2 ∨ (s.getD n.toNat default).kind = 3)) ∧ H' = H) := by
 refine C_body d128 rfl (WT_ok ?_)
 unfold c128
 simp only [aset, iaddr_node, pnode, wk3, wk, seval]
 by_cases h : 0 ≤ n
 ·by_cases h2 : n < s.length
  ·simp only [h, h2, iaddr_node, pnode, wk3, wk, seval]
   by_cases h3 : (s.getD n.toNat default).kind = 2
   ·simp only [h3, true_or, iaddr_node, pnode, wk3, wk, seval]
    simp [h, h2]
   ·by_cases h4 : (s.getD n.toNat default).kind = 3
    ·simp only [h3, h4, or_true, iaddr_node, pnode, wk3, wk, seval]
     exact ⟨⟨h, h2⟩, by simp [h, h2]⟩
    ·simp only [h3, h4, or_false, iaddr_node, pnode, wk3, wk, seval]
     exact ⟨⟨h, h2⟩, by simp⟩
  ·simp only [h, h2, and_false, Bool.false_and, iaddr_node, pnode, wk3, wk, seval]
 ·simp only [h, false_and, Bool.false_and, iaddr_node, pnode, wk3, wk, seval]
theorem eqCells_node (x y : Node) : eqCells [.i, .i, .s, .s, .i] [.int .i64 x.kind, .int .i64 x.up, .str x.name, .str x.body, .int .i64 x.bad] [.int .i64 y.kind, .int .i64 y.up, .str y.name, .str y.body, .int .i64 y.bad] = some (decide (x = y)) := by
 simp only [eqCells, if_true, Option.map_some, Option.some.injEq]
 cases x; cases y
 simp only [Node.mk.injEq]
 rw [Bool.eq_iff_iff]
 simp only [Bool.and_eq_true, beq_iff_eq, decide_eq_true_eq, and_true]
theorem same33 (a b : List Node) (ha : a.length ≤ 1000000) (hb : b.length ≤ 1000000) (H : AH) : C Tryz.prog 28 [aset a, aset b] H (fun x H' => x = .bool (decide (a = b)) ∧ H' = H) := by
 refine C_body d28 rfl (WT_ok ?_)
 unfold c28
 simp only [aset, iaddr_node, pnode, wk3, wk, seval]
 by_cases hlen : a.length = b.length
 ·have hlen' : (a.length : Int) = b.length := by omega
  simp only [hlen', iaddr_node, pnode, wk3, wk, seval]
  refine WT_loop (W_wk (fr' := [aset a, aset b, .top, .top, .bool false, .int .i64 0] ++ List.replicate 20 .top) (Wk_tops ?_) (W_loop (fun n fr H' => ∃ i : Nat, i ≤ a.length ∧ n = a.length - i ∧ (∀ j, j < i → a.getD j default = b.getD j default) ∧ H' = H ∧ fr = [aset a, aset b, .top, .top, .bool false, .int .i64 i] ++ List.replicate 20 .top) a.length ⟨0, by omega, rfl, fun j hj => by omega, rfl, rfl⟩ ?_))
  ·simp only [aset, List.replicate_succ, List.replicate_zero, List.cons_append, List.nil_append, Tops_top, Tops_same, Tops_nil]
  rintro n fr H' ⟨i, hi, rfl, hj, rfl, rfl⟩
  refine WT_ok ?_
  simp only [aset, iaddr_node, pnode, wk3, wk, seval]
  refine guard_both ?_ ?_ <;> intro h <;> simp only [hy] at h
  ·have hil : i < a.length := by omega
   have h0 : (0 : Int) ≤ i := by omega
   have h1 : (i : Int) < b.length := by omega
   have w2 : IntKind.i64.wrap ((i : Int) + 1) = (i : Int) + 1 := IntWalk.i64_in _ (by omega)
   simp only [h, iaddr_node, pnode, wk3, wk, seval]
   refine WT_draw ?_
   by_cases h2 : a.getD i default = b.getD i default
   ·simp only [h, h0, h1, h2, eqCells_node, w2, iaddr_node, pnode, wk3, wk, seval]
    refine QLoop_go (n' := a.length - (i + 1)) (by omega) ⟨i + 1, by omega, rfl, fun j hj2 => ?_, rfl, rfl⟩ ?_
    ·rcases Nat.lt_or_ge j i with h' | h'
     ·exact hj j h'
     ·have : j = i := by omega
      subst this; exact h2
    ·simp only [aset, List.replicate_succ, List.replicate_zero, List.cons_append, List.nil_append, Tops_top, Tops_same, Tops_nil, Int.natCast_add, Int.natCast_one]
   ·have : ¬ a = b := fun e => h2 (by rw [e])
    simp only [h, h0, h1, h2, this, eqCells_node, w2, iaddr_node, pnode, wk3, wk, seval]
  ·have : a = b := by
    apply List.ext_getElem hlen
    intro j h1 h2
    have := hj j (by omega)
    rwa [List.getD_eq_getElem?_getD, List.getElem?_eq_getElem h1, List.getD_eq_getElem?_getD, List.getElem?_eq_getElem h2] at this
   have hd : decide (a = b) = true := decide_eq_true this
   simp only [h, hd, iaddr_node, pnode, wk3, wk, seval]
 ·have hlen' : ¬ (a.length : Int) = b.length := by omega
  have : ¬ a = b := fun e => hlen (by rw [e])
  simp only [hlen', this, iaddr_node, pnode, wk3, wk, seval]
end Go.Proofs.YtemjlopoffjmpaaGreat.Abs
set_option linter.unusedSimpArgs false
set_option linter.unusedVariables false
namespace Go.Proofs.YtemjlopoffjmpaaGreat.Abs
open Go Go.Proofs
theorem asets_bare (l : List Dset) : bare (asets l) = true := by simp [asets, bare]
theorem sameS0 (a b : List Dset) (ha : Short a) (hb : Short b) : C Tryz.prog 18 [asets a, asets b] [] (fun x H' => x = .bool (decide (a = b)) ∧ H' = []) := by
 have ha1 := ha.1
 have hb1 := hb.1
 refine C_body' d18 rfl (WT_ok ?_)
 unfold c18
 simp only [asets, wk3, wk, iaddrV_map, Nat.reduceAdd, Nat.reduceSub, Nat.reduceMul, Nat.reduceLeDiff, Nat.reduceEqDiff, Nat.reduceBEq, Int.reduceLE, Int.reduceLT, Int.reduceEq, Int.reduceNe, Int.reduceAdd, Int.reduceSub, Int.reduceToNat, Int.reduceNeg, ↓reduceIte, reduceCtorEq]
 by_cases hlen : a.length = b.length
 ·have hlen' : (a.length : Int) = b.length := by omega
  simp only [hlen', wk3, wk, iaddrV_map, Nat.reduceAdd, Nat.reduceSub, Nat.reduceMul, Nat.reduceLeDiff, Nat.reduceEqDiff, Nat.reduceBEq, Int.reduceLE, Int.reduceLT, Int.reduceEq, Int.reduceNe, Int.reduceAdd, Int.reduceSub, Int.reduceToNat, Int.reduceNeg, ↓reduceIte, reduceCtorEq]
  refine WT_loop (W_wk (fr' := [asets a, asets b, .top, .top, .bool false, .int .i64 0] ++ List.replicate 55 .top) (Wk_tops ?_) (W_loop (fun n fr H' => ∃ i : Nat, i ≤ a.length ∧ n = a.length - i ∧ (∀ j, j < i → a.getD j default = b.getD j default) ∧ H' = [] ∧ fr = [asets a, asets b, .top, .top, .bool false, .int .i64 i] ++ List.replicate 55 .top) a.length ⟨0, by omega, rfl, fun j hj => by omega, rfl, rfl⟩ ?_))
  ·simp only [asets, List.replicate_succ, List.replicate_zero, List.cons_append, List.nil_append, Tops_top, Tops_same, Tops_nil]
  rintro n fr H' ⟨i, hi, rfl, hj, rfl, rfl⟩
  refine WT_ok ?_
  simp only [asets, iaddr_dset, wk3, wk, iaddrV_map, Nat.reduceAdd, Nat.reduceSub, Nat.reduceMul, Nat.reduceLeDiff, Nat.reduceEqDiff, Nat.reduceBEq, Int.reduceLE, Int.reduceLT, Int.reduceEq, Int.reduceNe, Int.reduceAdd, Int.reduceSub, Int.reduceToNat, Int.reduceNeg, ↓reduceIte, reduceCtorEq]
  refine guard_both ?_ ?_ <;> intro h <;> simp only [hy] at h
  ·have hil : i < a.length := by omega
   have h0 : (0 : Int) ≤ i := by omega
   have h1 : (i : Int) < b.length := by omega
   have w2 : IntKind.i64.wrap ((i : Int) + 1) = (i : Int) + 1 := IntWalk.i64_in _ (by omega)
   have hfa := ha.get hil
   have hfb := hb.get (show i < b.length by omega)
   have hne : a.getD i default ≠ b.getD i default → decide (a = b) = false := fun h => decide_eq_false fun e => h (by rw [e])
   have hnext : a.getD i default = b.getD i default → ∀ j, j < i + 1 → a.getD j default = b.getD j default := fun h j hj2 => by
    rcases Nat.lt_or_ge j i with h' | h'
    ·exact hj j h'
    ·have : j = i := by omega
     subst this; exact h
   simp only [h, iaddr_dset, wk3, wk, iaddrV_map, Nat.reduceAdd, Nat.reduceSub, Nat.reduceMul, Nat.reduceLeDiff, Nat.reduceEqDiff, Nat.reduceBEq, Int.reduceLE, Int.reduceLT, Int.reduceEq, Int.reduceNe, Int.reduceAdd, Int.reduceSub, Int.reduceToNat, Int.reduceNeg, ↓reduceIte, reduceCtorEq]
   refine WT_drawE ?_
   refine WDT_more 2 ?_
   simp only [h, h0, h1, iaddr_dset, pdset, ren, renL, lay, wk3, wk, iaddrV_map, Nat.reduceAdd, Nat.reduceSub, Nat.reduceMul, Nat.reduceLeDiff, Nat.reduceEqDiff, Nat.reduceBEq, Int.reduceLE, Int.reduceLT, Int.reduceEq, Int.reduceNe, Int.reduceAdd, Int.reduceSub, Int.reduceToNat, Int.reduceNeg, ↓reduceIte, reduceCtorEq]
   refine ⟨by omega, by omega, by omega, by rfl, ?_⟩
   generalize a.getD i default = x at hfa hne hnext ⊢
   generalize b.getD i default = y at hfb hne hnext ⊢
   by_cases q1 : x.id = y.id
   case neg =>
    simp only [q1, lay, wk3, wk, iaddrV_map, Nat.reduceAdd, Nat.reduceSub, Nat.reduceMul, Nat.reduceLeDiff, Nat.reduceEqDiff, Nat.reduceBEq, Int.reduceLE, Int.reduceLT, Int.reduceEq, Int.reduceNe, Int.reduceAdd, Int.reduceSub, Int.reduceToNat, Int.reduceNeg, ↓reduceIte, reduceCtorEq]
    exact KWk_bare rfl ⟨by rw [hne (fun e => q1 (by rw [e]))], rfl⟩
   by_cases q2 : x.kind = y.kind
   case neg =>
    simp only [q1, q2, lay, wk3, wk, iaddrV_map, Nat.reduceAdd, Nat.reduceSub, Nat.reduceMul, Nat.reduceLeDiff, Nat.reduceEqDiff, Nat.reduceBEq, Int.reduceLE, Int.reduceLT, Int.reduceEq, Int.reduceNe, Int.reduceAdd, Int.reduceSub, Int.reduceToNat, Int.reduceNeg, ↓reduceIte, reduceCtorEq]
    exact KWk_bare rfl ⟨by rw [hne (fun e => q2 (by rw [e]))], rfl⟩
   by_cases q3 : x.origin = y.origin
   case neg =>
    simp only [q1, q2, q3, lay, wk3, wk, iaddrV_map, Nat.reduceAdd, Nat.reduceSub, Nat.reduceMul, Nat.reduceLeDiff, Nat.reduceEqDiff, Nat.reduceBEq, Int.reduceLE, Int.reduceLT, Int.reduceEq, Int.reduceNe, Int.reduceAdd, Int.reduceSub, Int.reduceToNat, Int.reduceNeg, ↓reduceIte, reduceCtorEq]
    exact KWk_bare rfl ⟨by rw [hne (fun e => q3 (by rw [e]))], rfl⟩
   by_cases q4 : x.quota = y.quota
   case neg =>
    simp only [q1, q2, q3, q4, lay, wk3, wk, iaddrV_map, Nat.reduceAdd, Nat.reduceSub, Nat.reduceMul, Nat.reduceLeDiff, Nat.reduceEqDiff, Nat.reduceBEq, Int.reduceLE, Int.reduceLT, Int.reduceEq, Int.reduceNe, Int.reduceAdd, Int.reduceSub, Int.reduceToNat, Int.reduceNeg, ↓reduceIte, reduceCtorEq]
    exact KWk_bare rfl ⟨by rw [hne (fun e => q4 (by rw [e]))], rfl⟩
   simp only [q1, q2, q3, q4, lay, wk3, wk, iaddrV_map, Nat.reduceAdd, Nat.reduceSub, Nat.reduceMul, Nat.reduceLeDiff, Nat.reduceEqDiff, Nat.reduceBEq, Int.reduceLE, Int.reduceLT, Int.reduceEq, Int.reduceNe, Int.reduceAdd, Int.reduceSub, Int.reduceToNat, Int.reduceNeg, ↓reduceIte, reduceCtorEq]
   refine CT_ok (same33 x.files y.files hfa hfb _) ?_
   rintro _ _ ⟨rfl, rfl⟩
   by_cases q5 : x.files = y.files
   case neg =>
    simp only [q5, lay, wk3, wk, iaddrV_map, Nat.reduceAdd, Nat.reduceSub, Nat.reduceMul, Nat.reduceLeDiff, Nat.reduceEqDiff, Nat.reduceBEq, Int.reduceLE, Int.reduceLT, Int.reduceEq, Int.reduceNe, Int.reduceAdd, Int.reduceSub, Int.reduceToNat, Int.reduceNeg, ↓reduceIte, reduceCtorEq]
    exact KWk_bare rfl ⟨by rw [hne (fun e => q5 (by rw [e]))], rfl⟩
   have q : x = y := by cases x; cases y; simp_all
   simp only [q5, w2, lay, wk3, wk, iaddrV_map, Nat.reduceAdd, Nat.reduceSub, Nat.reduceMul, Nat.reduceLeDiff, Nat.reduceEqDiff, Nat.reduceBEq, Int.reduceLE, Int.reduceLT, Int.reduceEq, Int.reduceNe, Int.reduceAdd, Int.reduceSub, Int.reduceToNat, Int.reduceNeg, ↓reduceIte, reduceCtorEq]
   refine QLoop_wk (n' := a.length - (i + 1)) (by omega) ⟨i + 1, by omega, rfl, hnext q, rfl, rfl⟩ (Wk_none ?_)
   simp only [asets, renL, ren, List.replicate_succ, List.replicate_zero, List.cons_append, List.nil_append, Tops_top, Tops_same, Tops_nil, Int.natCast_add, Int.natCast_one]
  ·have : a = b := by
    apply List.ext_getElem hlen
    intro j h1 h2
    have := hj j (by omega)
    rwa [List.getD_eq_getElem?_getD, List.getElem?_eq_getElem h1, List.getD_eq_getElem?_getD, List.getElem?_eq_getElem h2] at this
   have hd : decide (a = b) = true := decide_eq_true this
   simp only [h, hd, wk3, wk, iaddrV_map, Nat.reduceAdd, Nat.reduceSub, Nat.reduceMul, Nat.reduceLeDiff, Nat.reduceEqDiff, Nat.reduceBEq, Int.reduceLE, Int.reduceLT, Int.reduceEq, Int.reduceNe, Int.reduceAdd, Int.reduceSub, Int.reduceToNat, Int.reduceNeg, ↓reduceIte, reduceCtorEq]
   exact KWk_bare rfl ⟨rfl, rfl⟩
 ·have hlen' : ¬ (a.length : Int) = b.length := by omega
  have : ¬ a = b := fun e => hlen (by rw [e])
  simp only [hlen', this, wk3, wk, iaddrV_map, Nat.reduceAdd, Nat.reduceSub, Nat.reduceMul, Nat.reduceLeDiff, Nat.reduceEqDiff, Nat.reduceBEq, Int.reduceLE, Int.reduceLT, Int.reduceEq, Int.reduceNe, Int.reduceAdd, Int.reduceSub, Int.reduceToNat, Int.reduceNeg, ↓reduceIte, reduceCtorEq]
  exact KWk_bare rfl ⟨rfl, rfl⟩
theorem sameS (a b : List Dset) (ha : Short a) (hb : Short b) (H : AH) : C Tryz.prog 18 [asets a, asets b] H (fun x H' => x = .bool (decide (a = b)) ∧ H' = H) :=
 C_any (sameS0 a b ha hb) (by simp [bareL, asets_bare]) rfl H
end Go.Proofs.YtemjlopoffjmpaaGreat.Abs
set_option linter.unusedSimpArgs false
set_option linter.unusedVariables false
namespace Go.Proofs.YtemjlopoffjmpaaGreat.Abs
open Go Go.Proofs
theorem eqCells5 (k u b k' u' b' : Int) (nm bo nm' bo' : List UInt8) : eqCells [.i, .i, .s, .s, .i] [.int .i64 k, .int .i64 u, .str nm, .str bo, .int .i64 b] [.int .i64 k', .int .i64 u', .str nm', .str bo', .int .i64 b'] = some (decide (k = k') && (decide (u = u') && (decide (nm = nm') && (decide (bo = bo') && decide (b = b'))))) := by
 have h := eqCells_node ⟨k, u, nm, bo, b⟩ ⟨k', u', nm', bo', b'⟩
 refine h.trans ?_
 congr 1
 rw [Bool.eq_iff_iff]
 simp only [Node.mk.injEq, Bool.and_eq_true, decide_eq_true_eq]
set_option maxRecDepth 10000 in
set_option maxHeartbeats 1000000 in
theorem torn0 (s : List Node) (hw : Wf s) : C Tryz.prog 103 [aset s] [] (fun x H' => x = .bool true ∧ H' = []) := by
 have hlen := hw.len
 refine C_body' d103 rfl (WT_ok ?_)
 unfold c103
 have htop := hw.top
 have hl8 : (s.length : Int) = 8 := by omega
 have hz : (s.getD (0 : Int).toNat default) = ⟨2, 0, [], [], 0⟩ := htop
 simp only [aset, hl8, eqCells5, htop, iaddr_node, pnode, wk3, wk, seval]
 refine WT_loop (W_wk (fr' := [aset s, .top, .bool false, .int .i64 (1 : Nat)] ++ List.replicate 136 .top) (Wk_tops ?_) (W_loop (fun n fr H' => ∃ i : Nat, 1 ≤ i ∧ i ≤ 8 ∧ n = 8 - i ∧ H' = [] ∧ fr = [aset s, .top, .bool false, .int .i64 i] ++ List.replicate 136 .top) 7 ⟨1, by omega, by omega, rfl, rfl, rfl⟩ ?_))
 ·simp only [aset, List.replicate_succ, List.replicate_zero, List.cons_append, List.nil_append, Tops_top, Tops_same, Tops_nil, Int.cast_ofNat_Int]
 rintro n fr H' ⟨i, h1, h8, rfl, rfl, rfl⟩
 refine WT_ok ?_
 simp only [aset, hl8, iaddr_node, pnode, wk3, wk, seval]
 refine guard_both ?_ ?_ <;> intro h <;> simp only [hy] at h
 ·have hi8 : i < 8 := by omega
  have ho := hw.ok i h1 hi8
  have h0 : (0 : Int) ≤ i := by omega
  have w2 : IntKind.i64.wrap ((i : Int) + 1) = (i : Int) + 1 := IntWalk.i64_in _ (by omega)
  have hch : (s.getD i default).kind ≠ 0 → itUp s 8 i = 0 := hw.climb hi8
  have hun := fun k hk1 hk8 => hw.uniq k i hk1 hk8 h1 hi8
  have hupk : (s.getD i default).kind ≠ 0 → (s.getD (s.getD i default).up.toNat default).kind = 2 := ho.upf
  generalize hx : s.getD i default = x at ho hch hun hupk ⊢
  by_cases hk0 : x.kind = 0
  ·have hxz : x = ⟨0, 0, [], [], 0⟩ := ho.none hk0
   subst hxz
   simp only [h, h0, hx, hl8, eqCells5, w2, lay, iaddr_node, pnode, wk3, wk, seval]
   refine QLoop_wk (n' := 8 - (i + 1)) (by omega) ⟨i + 1, by omega, by omega, rfl, rfl, rfl⟩ (Wk_none ?_)
   simp only [aset, renL, ren, List.replicate_succ, List.replicate_zero, List.cons_append, List.nil_append, Tops_top, Tops_same, Tops_nil, Int.natCast_add, Int.natCast_one]
  ·have hb := ho.bad
   have hnm := ho.name hk0
   have hnl := (mayN_len hnm).2
   have hup := ho.up
   have hbo := ho.body
   have hb128 : ¬ (128 : Int) < x.body.length := by omega
   have z128 : ¬ (128 : Int) < ((0 : Nat) : Int) := by decide
   have hN := mayname_spec x.name (by omega)
   have hF := folder_exact s x.up
   have hfd : (decide (0 ≤ x.up ∧ x.up < s.length) && decide ((s.getD x.up.toNat default).kind = 2 ∨ (s.getD x.up.toNat default).kind = 3)) = true := by
    rw [Bool.and_eq_true]; exact ⟨decide_eq_true ⟨hup.1, by omega⟩, decide_eq_true (.inl (hupk hk0))⟩
   rw [hfd] at hF
   rw [hnm] at hN
   have hun2 : ∀ k : Nat, 1 ≤ k → k < i → (s.getD k default).kind ≠ 0 → (s.getD k default).up = x.up → (s.getD k default).name ≠ x.name := fun k hk1 hk2 hkk hku hkn => by
    have := hun k hk1 (by omega) hkk hk0 hku hkn
    omega
   have hk2 : ∀ k : Nat, k < 8 → (s.getD k default).kind ≠ 3 := fun k hk8 => by rcases hw.kindsD k (by omega) with e | e | e <;> rw [e] <;> decide
   have hit : itUp s 8 i = 0 := hch hk0
   have h8i : i ≠ 0 := by omega
   have hit8 : ∀ m, itUp s m i < 8 := fun m => hw.itUp8 m hi8
   have hxk : (s.getD i default).kind ≠ 0 := by rw [hx]; exact hk0
   rcases ho.kinds with e | e | e
   ·exact absurd e hk0
   ·simp only [h, h0, hx, hl8, e, hb, w2, lay, iaddr_node, pnode, wk3, wk, seval]
    refine CT_ok (hN _) ?_
    rintro _ _ ⟨rfl, rfl⟩
    simp only [lay, iaddr_node, pnode, wk3, wk, seval]
    refine CT_ok (hF _) ?_
    rintro _ _ ⟨rfl, rfl⟩
    simp only [hb128, lay, iaddr_node, pnode, wk3, wk, seval]
    refine WT_loop (W_wk (fr' := [aset s, .top, .bool false, .int .i64 i, .ptr 0 0 0 1, .int .i64 (1 : Nat)] ++ List.replicate 134 .top) (Wk_tops ?_) (W_loop (fun n fr H' => ∃ (k : Nat) (kd bd : Int) (bo : List UInt8), 1 ≤ k ∧ k ≤ i ∧ n = i - k ∧ H' = [some [[.int .i64 kd, .int .i64 x.up, .str x.name, .str bo, .int .i64 bd]]] ∧ fr = [aset s, .top, .bool false, .int .i64 i, .ptr 0 0 0 1, .int .i64 k] ++ List.replicate 134 .top) (i - 1) ⟨1, _, _, _, by omega, by omega, rfl, rfl, rfl⟩ ?_))
    ·simp only [aset, List.replicate_succ, List.replicate_zero, List.cons_append, List.nil_append, Tops_top, Tops_same, Tops_nil, Int.cast_ofNat_Int]
    rintro n fr H' ⟨k, kd, bd, bo, hk1, hki, rfl, rfl, rfl⟩
    refine WT_ok ?_
    simp only [aset, lay, iaddr_node, pnode, wk3, wk, seval]
    refine guard_both ?_ ?_ <;> intro hh <;> simp only [hy] at hh
    ·have g0 : (0 : Int) ≤ k := by omega
     have g1 : (k : Int) < 8 := by omega
     have v2 : IntKind.i64.wrap ((k : Int) + 1) = (k : Int) + 1 := IntWalk.i64_in _ (by omega)
     have hu3 := hun2 k hk1 (by omega)
     have hk3 := hk2 k (by omega)
     simp only [hh, aset, lay, iaddr_node, pnode, wk3, wk, seval]
     refine WT_draw ?_
     by_cases z0 : (s.getD k default).kind = 0
     ·simp only [hh, g0, g1, hl8, z0, v2, lay, iaddr_node, pnode, wk3, wk, seval]
      refine QLoop_go (n' := i - (k + 1)) (by omega) ⟨k + 1, kd, bd, bo, by omega, by omega, rfl, rfl, rfl⟩ ?_
      simp only [aset, List.replicate_succ, List.replicate_zero, List.cons_append, List.nil_append, Tops_top, Tops_same, Tops_nil, Int.natCast_add, Int.natCast_one]
     ·by_cases z1 : (s.getD k default).up = x.up
      ·have z2 := hu3 z0 z1
       simp only [hh, g0, g1, hl8, z0, hk3, z1, z2, v2, lay, iaddr_node, pnode, wk3, wk, seval]
       refine QLoop_go (n' := i - (k + 1)) (by omega) ⟨k + 1, kd, bd, bo, by omega, by omega, rfl, rfl, rfl⟩ ?_
       simp only [aset, List.replicate_succ, List.replicate_zero, List.cons_append, List.nil_append, Tops_top, Tops_same, Tops_nil, Int.natCast_add, Int.natCast_one]
      ·simp only [hh, g0, g1, hl8, z0, hk3, z1, v2, lay, iaddr_node, pnode, wk3, wk, seval]
       refine QLoop_go (n' := i - (k + 1)) (by omega) ⟨k + 1, kd, bd, bo, by omega, by omega, rfl, rfl, rfl⟩ ?_
       simp only [aset, List.replicate_succ, List.replicate_zero, List.cons_append, List.nil_append, Tops_top, Tops_same, Tops_nil, Int.natCast_add, Int.natCast_one]
    ·simp only [hh, aset, lay, iaddr_node, pnode, wk3, wk, seval]
     refine WT_loop (W_wk (fr' := [aset s, .top, .bool false, .int .i64 i, .top, .top, .int .i64 (itUp s 0 i : Nat), .int .i64 (0 : Nat)] ++ List.replicate 132 .top) (Wk_none ?_) (W_loop (fun n fr H' => ∃ k : Nat, k ≤ 8 ∧ n = 8 - k ∧ H' = [] ∧ fr = [aset s, .top, .bool false, .int .i64 i, .top, .top, .int .i64 (itUp s k i : Nat), .int .i64 k] ++ List.replicate 132 .top) 8 ⟨0, by omega, rfl, rfl, rfl⟩ ?_))
     ·simp only [itUp, aset, renL, ren, List.replicate_succ, List.replicate_zero, List.cons_append, List.nil_append, Tops_top, Tops_same, Tops_nil, Int.cast_ofNat_Int]
     rintro n fr H' ⟨k, hk8, rfl, rfl, rfl⟩
     refine WT_ok ?_
     have v2 : IntKind.i64.wrap ((k : Int) + 1) = (k : Int) + 1 := IntWalk.i64_in _ (by omega)
     have g0 : (0 : Int) ≤ (itUp s k i : Nat) := by omega
     have g1 : ((itUp s k i : Nat) : Int) < 8 := by have := hit8 k; omega
     by_cases y0 : (k : Int) < 8
     ·by_cases y1 : (0 : Int) < (itUp s k i : Nat)
      ·simp only [y0, y1, g0, g1, hl8, v2, aset, lay, iaddr_node, pnode, wk3, wk, seval]
       have hupn := hw.upD (itUp s k i) (by have := hit8 k; omega)
       refine QLoop_go (n' := 8 - (k + 1)) (by omega) ⟨k + 1, by omega, rfl, rfl, rfl⟩ ?_
       have eu : ((itUp s (k + 1) i : Nat) : Int) = (s.getD (itUp s k i) default).up := by rw [itUp_succ]; omega
       simp only [aset, eu, List.replicate_succ, List.replicate_zero, List.cons_append, List.nil_append, Tops_top, Tops_same, Tops_nil, Int.natCast_add, Int.natCast_one]
      ·have y2 : ((itUp s k i : Nat) : Int) = 0 := by omega
       simp only [y0, y2, hl8, w2, aset, lay, iaddr_node, pnode, wk3, wk, seval]
       refine QLoop_go (n' := 8 - (i + 1)) (by omega) ⟨i + 1, by omega, by omega, rfl, rfl, rfl⟩ ?_
       simp only [aset, List.replicate_succ, List.replicate_zero, List.cons_append, List.nil_append, Tops_top, Tops_same, Tops_nil, Int.natCast_add, Int.natCast_one]
     ·have hk : k = 8 := by omega
      subst hk
      have y2 : ((itUp s 8 i : Nat) : Int) = 0 := by omega
      simp only [y0, y2, hl8, w2, aset, lay, iaddr_node, pnode, wk3, wk, seval]
      refine QLoop_go (n' := 8 - (i + 1)) (by omega) ⟨i + 1, by omega, by omega, rfl, rfl, rfl⟩ ?_
      simp only [aset, List.replicate_succ, List.replicate_zero, List.cons_append, List.nil_append, Tops_top, Tops_same, Tops_nil, Int.natCast_add, Int.natCast_one]
   ·have hbe := ho.fold e
    simp only [h, h0, hx, hl8, e, hb, hbe, w2, lay, iaddr_node, pnode, wk3, wk, seval]
    refine CT_ok (hN _) ?_
    rintro _ _ ⟨rfl, rfl⟩
    simp only [lay, iaddr_node, pnode, wk3, wk, seval]
    refine CT_ok (hF _) ?_
    rintro _ _ ⟨rfl, rfl⟩
    simp only [z128, lay, iaddr_node, pnode, wk3, wk, seval]
    refine WT_loop (W_wk (fr' := [aset s, .top, .bool false, .int .i64 i, .ptr 0 0 0 1, .int .i64 (1 : Nat)] ++ List.replicate 134 .top) (Wk_tops ?_) (W_loop (fun n fr H' => ∃ (k : Nat) (kd bd : Int) (bo : List UInt8), 1 ≤ k ∧ k ≤ i ∧ n = i - k ∧ H' = [some [[.int .i64 kd, .int .i64 x.up, .str x.name, .str bo, .int .i64 bd]]] ∧ fr = [aset s, .top, .bool false, .int .i64 i, .ptr 0 0 0 1, .int .i64 k] ++ List.replicate 134 .top) (i - 1) ⟨1, _, _, _, by omega, by omega, rfl, rfl, rfl⟩ ?_))
    ·simp only [aset, List.replicate_succ, List.replicate_zero, List.cons_append, List.nil_append, Tops_top, Tops_same, Tops_nil, Int.cast_ofNat_Int]
    rintro n fr H' ⟨k, kd, bd, bo, hk1, hki, rfl, rfl, rfl⟩
    refine WT_ok ?_
    simp only [aset, lay, iaddr_node, pnode, wk3, wk, seval]
    refine guard_both ?_ ?_ <;> intro hh <;> simp only [hy] at hh
    ·have g0 : (0 : Int) ≤ k := by omega
     have g1 : (k : Int) < 8 := by omega
     have v2 : IntKind.i64.wrap ((k : Int) + 1) = (k : Int) + 1 := IntWalk.i64_in _ (by omega)
     have hu3 := hun2 k hk1 (by omega)
     have hk3 := hk2 k (by omega)
     simp only [hh, aset, lay, iaddr_node, pnode, wk3, wk, seval]
     refine WT_draw ?_
     by_cases z0 : (s.getD k default).kind = 0
     ·simp only [hh, g0, g1, hl8, z0, v2, lay, iaddr_node, pnode, wk3, wk, seval]
      refine QLoop_go (n' := i - (k + 1)) (by omega) ⟨k + 1, kd, bd, bo, by omega, by omega, rfl, rfl, rfl⟩ ?_
      simp only [aset, List.replicate_succ, List.replicate_zero, List.cons_append, List.nil_append, Tops_top, Tops_same, Tops_nil, Int.natCast_add, Int.natCast_one]
     ·by_cases z1 : (s.getD k default).up = x.up
      ·have z2 := hu3 z0 z1
       simp only [hh, g0, g1, hl8, z0, hk3, z1, z2, v2, lay, iaddr_node, pnode, wk3, wk, seval]
       refine QLoop_go (n' := i - (k + 1)) (by omega) ⟨k + 1, kd, bd, bo, by omega, by omega, rfl, rfl, rfl⟩ ?_
       simp only [aset, List.replicate_succ, List.replicate_zero, List.cons_append, List.nil_append, Tops_top, Tops_same, Tops_nil, Int.natCast_add, Int.natCast_one]
      ·simp only [hh, g0, g1, hl8, z0, hk3, z1, v2, lay, iaddr_node, pnode, wk3, wk, seval]
       refine QLoop_go (n' := i - (k + 1)) (by omega) ⟨k + 1, kd, bd, bo, by omega, by omega, rfl, rfl, rfl⟩ ?_
       simp only [aset, List.replicate_succ, List.replicate_zero, List.cons_append, List.nil_append, Tops_top, Tops_same, Tops_nil, Int.natCast_add, Int.natCast_one]
    ·simp only [hh, aset, lay, iaddr_node, pnode, wk3, wk, seval]
     refine WT_loop (W_wk (fr' := [aset s, .top, .bool false, .int .i64 i, .top, .top, .int .i64 (itUp s 0 i : Nat), .int .i64 (0 : Nat)] ++ List.replicate 132 .top) (Wk_none ?_) (W_loop (fun n fr H' => ∃ k : Nat, k ≤ 8 ∧ n = 8 - k ∧ H' = [] ∧ fr = [aset s, .top, .bool false, .int .i64 i, .top, .top, .int .i64 (itUp s k i : Nat), .int .i64 k] ++ List.replicate 132 .top) 8 ⟨0, by omega, rfl, rfl, rfl⟩ ?_))
     ·simp only [itUp, aset, renL, ren, List.replicate_succ, List.replicate_zero, List.cons_append, List.nil_append, Tops_top, Tops_same, Tops_nil, Int.cast_ofNat_Int]
     rintro n fr H' ⟨k, hk8, rfl, rfl, rfl⟩
     refine WT_ok ?_
     have v2 : IntKind.i64.wrap ((k : Int) + 1) = (k : Int) + 1 := IntWalk.i64_in _ (by omega)
     have g0 : (0 : Int) ≤ (itUp s k i : Nat) := by omega
     have g1 : ((itUp s k i : Nat) : Int) < 8 := by have := hit8 k; omega
     by_cases y0 : (k : Int) < 8
     ·by_cases y1 : (0 : Int) < (itUp s k i : Nat)
      ·simp only [y0, y1, g0, g1, hl8, v2, aset, lay, iaddr_node, pnode, wk3, wk, seval]
       have hupn := hw.upD (itUp s k i) (by have := hit8 k; omega)
       refine QLoop_go (n' := 8 - (k + 1)) (by omega) ⟨k + 1, by omega, rfl, rfl, rfl⟩ ?_
       have eu : ((itUp s (k + 1) i : Nat) : Int) = (s.getD (itUp s k i) default).up := by rw [itUp_succ]; omega
       simp only [aset, eu, List.replicate_succ, List.replicate_zero, List.cons_append, List.nil_append, Tops_top, Tops_same, Tops_nil, Int.natCast_add, Int.natCast_one]
      ·have y2 : ((itUp s k i : Nat) : Int) = 0 := by omega
       simp only [y0, y2, hl8, w2, aset, lay, iaddr_node, pnode, wk3, wk, seval]
       refine QLoop_go (n' := 8 - (i + 1)) (by omega) ⟨i + 1, by omega, by omega, rfl, rfl, rfl⟩ ?_
       simp only [aset, List.replicate_succ, List.replicate_zero, List.cons_append, List.nil_append, Tops_top, Tops_same, Tops_nil, Int.natCast_add, Int.natCast_one]
     ·have hk : k = 8 := by omega
      subst hk
      have y2 : ((itUp s 8 i : Nat) : Int) = 0 := by omega
      simp only [y0, y2, hl8, w2, aset, lay, iaddr_node, pnode, wk3, wk, seval]
      refine QLoop_go (n' := 8 - (i + 1)) (by omega) ⟨i + 1, by omega, by omega, rfl, rfl, rfl⟩ ?_
      simp only [aset, List.replicate_succ, List.replicate_zero, List.cons_append, List.nil_append, Tops_top, Tops_same, Tops_nil, Int.natCast_add, Int.natCast_one]
 ·have : i = 8 := by omega
  subst this
  simp only [h, iaddr_node, pnode, wk3, wk, seval]
  exact KWk_bare rfl ⟨rfl, rfl⟩
end Go.Proofs.YtemjlopoffjmpaaGreat.Abs
set_option linter.unusedSimpArgs false
set_option linter.unusedVariables false
namespace Go.Proofs.YtemjlopoffjmpaaGreat.Abs
open Go Go.Proofs
theorem broken84 (s : List Node) (hs : s.length ≤ 1000000) (H : AH) : C Tryz.prog 104 [aset s] H (fun x H' => x = .bool ((s.any fun x => decide (x.kind = 3)) || (s.any fun x => decide (x.bad ≠ 0))) ∧ H' = H) := by
 refine C_body d104 rfl (WT_ok ?_)
 unfold c104
 simp only [lay, wk, iaddrV_map, seval]
 refine CT_ok (lost_spec s hs H) ?_
 rintro _ _ ⟨rfl, rfl⟩
 cases hl : (s.any fun x => decide (x.kind = 3))
 ·simp only [lay, wk, iaddrV_map, seval]
  refine CT_ok (bad96 s hs _) ?_
  rintro _ _ ⟨rfl, rfl⟩
  simp only [lay, Bool.false_or, wk, iaddrV_map, seval]
 ·simp only [lay, Bool.true_or, wk, iaddrV_map, seval]
theorem Wf.whole {s : List Node} (h : Wf s) : ((s.any fun x => decide (x.kind = 3)) || (s.any fun x => decide (x.bad ≠ 0))) = false := by
 rw [Bool.or_eq_false_iff]
 constructor
 ·rw [List.any_eq_false]
  intro x hx
  obtain ⟨n, hn, rfl⟩ := mem_getD hx
  rcases h.kindsD n hn with e | e | e <;> rw [e] <;> decide
 ·rw [List.any_eq_false]
  intro x hx
  obtain ⟨n, hn, rfl⟩ := mem_getD hx
  rw [h.badD n hn]; decide
theorem may69_0 (s : List Node) (hw : Wf s) : C Tryz.prog 62 [aset s] [] (fun x H' => x = .bool true ∧ H' = []) := by
 have hlen := hw.len
 refine C_body' d62 rfl (WT_ok ?_)
 unfold c62
 simp only [lay, wk, iaddrV_map, seval]
 refine CT_ok (torn0 s hw) ?_
 rintro _ _ ⟨rfl, rfl⟩
 simp only [lay, wk, iaddrV_map, seval]
 refine CT_ok (broken84 s (by omega) _) ?_
 rintro _ _ ⟨rfl, rfl⟩
 rw [hw.whole]
 simp only [lay, wk, iaddrV_map, seval]
 exact KWk_bare rfl ⟨rfl, rfl⟩
theorem may69 (s : List Node) (hw : Wf s) (H : AH) : C Tryz.prog 62 [aset s] H (fun x H' => x = .bool true ∧ H' = H) :=
 C_any (may69_0 s hw) (by simp [bareL, bare, aset]) rfl H
structure MayD (l : List Dset) (d : Dset) : Prop where
 id : 1 ≤ d.id ∧ d.id ≤ 65535
 quota : 0 ≤ d.quota ∧ d.quota ≤ 255
 files : Wf d.files
 kinds : d.kind = 1 ∨ d.kind = 2
 snap : d.kind = 2 → d.quota = 0 ∧ ∃ o ∈ l, o.id = d.origin ∧ o.kind = 1
 live : d.kind = 1 → d.origin = 0 ∨ ∃ o ∈ l, o.id = d.origin ∧ o.kind = 2
structure MayL (l : List Dset) : Prop where
 len : l.length ≤ 8
 sorted : l.Pairwise fun a b => a.id < b.id
 each : ∀ d ∈ l, MayD l d
 tree : ∃ r : Int → Nat, ∀ d ∈ l, ∀ o ∈ l, o.id = d.origin → r o.id < r d.id
theorem MayL.short {l : List Dset} (h : MayL l) : Short l := ⟨by have := h.len; omega, fun d hd => by have := (h.each d hd).files.len; omega⟩
theorem MayL.lt {l : List Dset} (h : MayL l) {i j : Nat} (hij : i < j) (hj : j < l.length) : (l.getD i default).id < (l.getD j default).id := by
 have := List.pairwise_iff_getElem.1 h.sorted i j (by omega) hj hij
 rw [List.getD_eq_getElem?_getD, List.getElem?_eq_getElem (show i < l.length by omega), List.getD_eq_getElem?_getD, List.getElem?_eq_getElem hj]
 exact this
theorem dgetD_mem {l : List Dset} {n : Nat} (h : n < l.length) : l.getD n default ∈ l := by
 rw [List.getD_eq_getElem?_getD, List.getElem?_eq_getElem h]
 exact List.getElem_mem h
theorem mem_dgetD {l : List Dset} {x : Dset} (h : x ∈ l) : ∃ n, n < l.length ∧ l.getD n default = x := by
 obtain ⟨n, hn, rfl⟩ := List.mem_iff_getElem.1 h
 exact ⟨n, hn, by rw [List.getD_eq_getElem?_getD, List.getElem?_eq_getElem hn]; rfl⟩
theorem MayL.inj {l : List Dset} (h : MayL l) {i j : Nat} (hi : i < l.length) (hj : j < l.length) (e : (l.getD i default).id = (l.getD j default).id) : i = j := by
 rcases Nat.lt_trichotomy i j with hh | hh | hh
 ·have := h.lt hh hj; omega
 ·exact hh
 ·have := h.lt hh hi; omega
theorem MayL.inj' {l : List Dset} (h : MayL l) {a b : Dset} (ha : a ∈ l) (hb : b ∈ l) (e : a.id = b.id) : a = b := by
 obtain ⟨i, hi, rfl⟩ := mem_dgetD ha
 obtain ⟨j, hj, rfl⟩ := mem_dgetD hb
 rw [h.inj hi hj e]
theorem MayL.find {l : List Dset} (h : MayL l) {d : Dset} (hd : d ∈ l) : getA l d.id = some d := by
 obtain ⟨i, hi, rfl⟩ := mem_dgetD hd
 unfold getA
 rcases find_of (l := l) (i := (l.getD i default).id) with ⟨e, hn⟩ | ⟨k, e, hk, hid, _⟩
 ·exact absurd rfl (hn i hi)
 ·rw [e, if_pos (by omega), Int.toNat_natCast, h.inj hk hi hid]
theorem getA_none {l : List Dset} {i : Int} (h : ∀ d ∈ l, d.id ≠ i) : getA l i = none := by
 unfold getA
 rcases find_of (l := l) (i := i) with ⟨e, hn⟩ | ⟨k, e, hk, hid, _⟩
 ·rw [e]; rfl
 ·exact absurd hid (h _ (dgetD_mem hk))
def stepD (l : List Dset) (d : Dset) : Dset := (getA l d.origin).getD ⟨0, 0, 0, 0, []⟩
def iterD (l : List Dset) : Nat → Dset → Dset
 | 0, d => d
 | m + 1, d => iterD l m (stepD l d)
theorem iterD_succ (l : List Dset) : ∀ (m : Nat) (d : Dset), iterD l (m + 1) d = stepD l (iterD l m d)
 | 0, _ => rfl
 | m + 1, d => iterD_succ l m (stepD l d)
end Go.Proofs.YtemjlopoffjmpaaGreat.Abs
set_option linter.unusedSimpArgs false
set_option linter.unusedVariables false
namespace Go.Proofs.YtemjlopoffjmpaaGreat.Abs
open Go Go.Proofs
theorem rankN_mono {α : Type} (r : α → Nat) (a b : Nat) (hab : a < b) : ∀ (l : List α), (∃ j ∈ l, r j = a) → l.countP (fun j => decide (r j < a)) < l.countP (fun j => decide (r j < b)) := by
 intro l
 induction l with
 | nil => rintro ⟨j, hj, _⟩; cases hj
 | cons x l ih =>
   rintro ⟨j, hj, e⟩
   have le : l.countP (fun j => decide (r j < a)) ≤ l.countP (fun j => decide (r j < b)) := List.countP_mono_left (fun y _ h => by simp at h ⊢; omega)
   rw [List.countP_cons, List.countP_cons]
   rcases List.mem_cons.1 hj with rfl | hj
   ·rw [if_neg (by simp; omega), if_pos (by simp; omega)]; omega
   ·have := ih ⟨j, hj, e⟩
    by_cases h1 : r x < a
    ·rw [if_pos (by simpa using h1), if_pos (by simp; omega)]; omega
    ·rw [if_neg (by simpa using h1)]; omega
theorem MayL.out {l : List Dset} (h : MayL l) {d : Dset} (hd : d ∈ l) {m : Nat} (hm : l.length ≤ m) : (iterD l m d).id = 0 := by
 obtain ⟨r, hr⟩ := h.tree
 have hz : ∀ m, iterD l m ⟨0, 0, 0, 0, []⟩ = ⟨0, 0, 0, 0, []⟩ := by
  intro m
  induction m with
  | zero => rfl
  | succ m ih =>
    show iterD l m (stepD l ⟨0, 0, 0, 0, []⟩) = _
    have : stepD l ⟨0, 0, 0, 0, []⟩ = ⟨0, 0, 0, 0, []⟩ := by
     unfold stepD
     rw [getA_none (fun d hd => by have := (h.each d hd).id; show d.id ≠ 0; omega)]; rfl
    rw [this, ih]
 let f : Dset → Nat := fun x => l.countP fun y => decide (r y.id < r x.id)
 have hf : ∀ x ∈ l, ∀ y ∈ l, r y.id < r x.id → f y < f x := fun x hx y hy hxy => rankN_mono (fun z : Dset => r z.id) _ _ hxy l ⟨y, hy, rfl⟩
 have hfl : ∀ x ∈ l, f x < l.length := fun x hx => by
  have h1 := rankN_mono (fun z : Dset => r z.id) (r x.id) (r x.id + 1) (by omega) l ⟨x, hx, rfl⟩
  have h2 : l.countP (fun j => decide (r j.id < r x.id + 1)) ≤ l.length := List.countP_le_length
  show l.countP _ < _
  omega
 have g : ∀ m, iterD l m d = ⟨0, 0, 0, 0, []⟩ ∨ (iterD l m d ∈ l ∧ f (iterD l m d) + m ≤ f d) := by
  intro m
  induction m with
  | zero => exact .inr ⟨hd, Nat.le_refl _⟩
  | succ m ih =>
    rw [iterD_succ]
    rcases ih with ih | ⟨hm, ih⟩
    ·left; rw [ih]; exact hz 1
    ·unfold stepD
     cases ho : getA l (iterD l m d).origin with
     | none => left; rfl
     | some o =>
       right
       obtain ⟨ho1, ho2⟩ := getA_mem ho
       refine ⟨ho1, ?_⟩
       have := hf _ hm o ho1 (hr _ hm o ho1 ho2)
       show f o + (m + 1) ≤ f d
       omega
 rcases g m with e | ⟨hm2, e⟩
 ·rw [e]
 ·have := hfl d hd; omega
set_option maxRecDepth 10000 in
set_option maxHeartbeats 2000000 in
theorem maysets0 (l : List Dset) (h : MayL l) : C Tryz.prog 31 [asets l] [] (fun x H' => x = .bool true ∧ H' = []) := by
 have hl8 := h.len
 refine C_body' d31 rfl (WT_ok ?_)
 unfold c31
 have g8 : ¬ (8 : Int) < l.length := by omega
 simp only [asets, g8, wk3, wk, iaddrV_map, seval]
 refine WT_loop (W_wk (fr' := [asets l, .top, .bool false, .int .i64 (0 : Nat)] ++ List.replicate 123 .top) (Wk_tops ?_) (W_loop (fun n fr H' => ∃ i : Nat, i ≤ l.length ∧ n = l.length - i ∧ H' = [] ∧ fr = [asets l, .top, .bool false, .int .i64 i] ++ List.replicate 123 .top) l.length ⟨0, by omega, rfl, rfl, rfl⟩ ?_))
 ·simp only [asets, List.replicate_succ, List.replicate_zero, List.cons_append, List.nil_append, Tops_top, Tops_same, Tops_nil, Int.cast_ofNat_Int]
 rintro n fr H' ⟨i, hi, rfl, rfl, rfl⟩
 refine WT_ok ?_
 simp only [asets, iaddr_dset, wk3, wk, iaddrV_map, seval]
 refine guard_both ?_ ?_ <;> intro hh <;> simp only [hy] at hh
 ·have hil : i < l.length := by omega
  have h0 : (0 : Int) ≤ i := by omega
  have w2 : IntKind.i64.wrap ((i : Int) + 1) = (i : Int) + 1 := IntWalk.i64_in _ (by omega)
  have hm := h.each _ (dgetD_mem hil)
  have hid0 : (decide (0 ≤ (l.getD i default).id) && decide ((l.getD i default).id ≤ 65535)) = true := by rw [Bool.and_eq_true]; exact ⟨decide_eq_true (by have := hm.id; omega), decide_eq_true hm.id.2⟩
  have hid1 : ¬ (l.getD i default).id < 1 := by have := hm.id; omega
  have hq0 : ¬ (l.getD i default).quota < 0 := by have := hm.quota; omega
  have hq1 : ¬ 255 < (l.getD i default).quota := by have := hm.quota; omega
  simp only [hh, h0, hid1, iaddr_dset, pdset, lay, wk3, wk, iaddrV_map, seval]
  refine WT_drawE ?_
  simp only [hh, h0, hid1, iaddr_dset, pdset, lay, wk3, wk, iaddrV_map, seval]
  refine CT_ok (rid68 _ _) ?_
  rintro _ _ ⟨rfl, rfl⟩
  rw [hid0]
  have hmay := may69 (l.getD i default).files hm.files
  have cont : ∀ (o : Option Dset), getA l (l.getD i default).origin = o → True := fun _ _ => trivial
  rcases Nat.eq_zero_or_pos i with i0 | i0
  ·have hi0 : ¬ (0 : Int) < i := by omega
   simp only [hi0, iaddr_dset, pdset, lay, wk3, wk, iaddrV_map, seval]
   refine WDT_more 0 ?_
   simp only [hi0, iaddr_dset, pdset, lay, wk3, wk, iaddrV_map, seval]
   refine ⟨by rfl, ?_⟩
   refine CT_ok (hmay _) ?_
   rintro _ _ ⟨rfl, rfl⟩
   simp only [hq0, hq1, iaddr_dset, pdset, lay, wk3, wk, iaddrV_map, seval]
   refine CT_ok (rgetL l (by omega) _ _) ?_
   rintro _ _ ⟨rfl, rfl⟩
   rcases hm.kinds with e | e
   ·by_cases oz : (l.getD i default).origin = 0
    ·cases hg : getA l (l.getD i default).origin
     ·simp only [getV, e, oz, w2, cellD, aset, lay, wk3, wk, iaddrV_map, seval]
      refine QLoop_wk (n' := l.length - (i + 1)) (by omega) ⟨i + 1, by omega, rfl, rfl, rfl⟩ (Wk_none ?_)
      simp only [asets, renL, ren, List.replicate_succ, List.replicate_zero, List.cons_append, List.nil_append, Tops_top, Tops_same, Tops_nil, Int.natCast_add, Int.natCast_one]
     ·simp only [getV, e, oz, w2, cellD, aset, lay, wk3, wk, iaddrV_map, seval]
      refine QLoop_wk (n' := l.length - (i + 1)) (by omega) ⟨i + 1, by omega, rfl, rfl, rfl⟩ (Wk_none ?_)
      simp only [asets, renL, ren, List.replicate_succ, List.replicate_zero, List.cons_append, List.nil_append, Tops_top, Tops_same, Tops_nil, Int.natCast_add, Int.natCast_one]
    ·obtain ⟨o, ho, hoi, hok⟩ := (hm.live e).resolve_left oz
     have hg := h.find ho
     rw [hoi] at hg
     rw [hg]
     simp only [getV, e, oz, hok, w2, cellD, aset, lay, wk3, wk, iaddrV_map, seval]
     refine QLoop_wk (n' := l.length - (i + 1)) (by omega) ⟨i + 1, by omega, rfl, rfl, rfl⟩ (Wk_none ?_)
     simp only [asets, renL, ren, List.replicate_succ, List.replicate_zero, List.cons_append, List.nil_append, Tops_top, Tops_same, Tops_nil, Int.natCast_add, Int.natCast_one]
   ·obtain ⟨hq, o, ho, hoi, hok⟩ := hm.snap e
    have hg := h.find ho
    rw [hoi] at hg
    rw [hg]
    simp only [getV, e, hq, hok, w2, cellD, aset, lay, wk3, wk, iaddrV_map, seval]
    refine QLoop_wk (n' := l.length - (i + 1)) (by omega) ⟨i + 1, by omega, rfl, rfl, rfl⟩ (Wk_none ?_)
    simp only [asets, renL, ren, List.replicate_succ, List.replicate_zero, List.cons_append, List.nil_append, Tops_top, Tops_same, Tops_nil, Int.natCast_add, Int.natCast_one]
  ·have hi0 : (0 : Int) < i := by omega
   have w1 : IntKind.i64.wrap ((i : Int) - 1) = ((i - 1 : Nat) : Int) := by rw [IntWalk.i64_in _ (by omega)]; omega
   have k0 : (0 : Int) ≤ (i - 1 : Nat) := by omega
   have k1 : ((i - 1 : Nat) : Int) < l.length := by omega
   have k2 : ¬ (l.getD i default).id ≤ (l.getD (i - 1) default).id := by have := h.lt (show i - 1 < i by omega) hil; omega
   simp only [hi0, iaddr_dset, pdset, lay, wk3, wk, iaddrV_map, seval]
   refine WDT_more 0 ?_
   simp only [hi0, w1, k0, k1, iaddr_dset, pdset, lay, wk3, wk, iaddrV_map, seval]
   refine ⟨by rfl, ?_⟩
   simp only [k2, iaddr_dset, pdset, lay, wk3, wk, iaddrV_map, seval]
   refine CT_ok (hmay _) ?_
   rintro _ _ ⟨rfl, rfl⟩
   simp only [hq0, hq1, iaddr_dset, pdset, lay, wk3, wk, iaddrV_map, seval]
   refine CT_ok (rgetL l (by omega) _ _) ?_
   rintro _ _ ⟨rfl, rfl⟩
   rcases hm.kinds with e | e
   ·by_cases oz : (l.getD i default).origin = 0
    ·cases hg : getA l (l.getD i default).origin
     ·simp only [getV, e, oz, w2, cellD, aset, lay, wk3, wk, iaddrV_map, seval]
      refine QLoop_wk (n' := l.length - (i + 1)) (by omega) ⟨i + 1, by omega, rfl, rfl, rfl⟩ (Wk_none ?_)
      simp only [asets, renL, ren, List.replicate_succ, List.replicate_zero, List.cons_append, List.nil_append, Tops_top, Tops_same, Tops_nil, Int.natCast_add, Int.natCast_one]
     ·simp only [getV, e, oz, w2, cellD, aset, lay, wk3, wk, iaddrV_map, seval]
      refine QLoop_wk (n' := l.length - (i + 1)) (by omega) ⟨i + 1, by omega, rfl, rfl, rfl⟩ (Wk_none ?_)
      simp only [asets, renL, ren, List.replicate_succ, List.replicate_zero, List.cons_append, List.nil_append, Tops_top, Tops_same, Tops_nil, Int.natCast_add, Int.natCast_one]
    ·obtain ⟨o, ho, hoi, hok⟩ := (hm.live e).resolve_left oz
     have hg := h.find ho
     rw [hoi] at hg
     rw [hg]
     simp only [getV, e, oz, hok, w2, cellD, aset, lay, wk3, wk, iaddrV_map, seval]
     refine QLoop_wk (n' := l.length - (i + 1)) (by omega) ⟨i + 1, by omega, rfl, rfl, rfl⟩ (Wk_none ?_)
     simp only [asets, renL, ren, List.replicate_succ, List.replicate_zero, List.cons_append, List.nil_append, Tops_top, Tops_same, Tops_nil, Int.natCast_add, Int.natCast_one]
   ·obtain ⟨hq, o, ho, hoi, hok⟩ := hm.snap e
    have hg := h.find ho
    rw [hoi] at hg
    rw [hg]
    simp only [getV, e, hq, hok, w2, cellD, aset, lay, wk3, wk, iaddrV_map, seval]
    refine QLoop_wk (n' := l.length - (i + 1)) (by omega) ⟨i + 1, by omega, rfl, rfl, rfl⟩ (Wk_none ?_)
    simp only [asets, renL, ren, List.replicate_succ, List.replicate_zero, List.cons_append, List.nil_append, Tops_top, Tops_same, Tops_nil, Int.natCast_add, Int.natCast_one]
 ·simp only [hh, asets, iaddr_dset, wk3, wk, iaddrV_map, seval]
  refine WT_loop (W_wk (fr' := [asets l, .top, .bool false, .top, .top, .top, .top, .int .i64 (0 : Nat)] ++ List.replicate 119 .top) (Wk_tops ?_) (W_loop (fun n fr H' => ∃ i : Nat, i ≤ l.length ∧ n = l.length - i ∧ H' = [] ∧ fr = [asets l, .top, .bool false, .top, .top, .top, .top, .int .i64 i] ++ List.replicate 119 .top) l.length ⟨0, by omega, rfl, rfl, rfl⟩ ?_))
  ·simp only [asets, List.replicate_succ, List.replicate_zero, List.cons_append, List.nil_append, Tops_top, Tops_same, Tops_nil, Int.cast_ofNat_Int]
  clear hh hi
  rintro n fr H' ⟨i, hi, rfl, rfl, rfl⟩
  refine WT_ok ?_
  simp only [asets, iaddr_dset, wk3, wk, iaddrV_map, seval]
  refine guard_both ?_ ?_ <;> intro hh <;> simp only [hy] at hh
  ·have hil : i < l.length := by omega
   have h0 : (0 : Int) ≤ i := by omega
   have w2 : IntKind.i64.wrap ((i : Int) + 1) = (i : Int) + 1 := IntWalk.i64_in _ (by omega)
   have wm : IntKind.i64.wrap (2 * (l.length : Int)) = ((2 * l.length : Nat) : Int) := by rw [IntWalk.i64_in _ (by omega)]; omega
   have hend := h.out (dgetD_mem hil) (m := 2 * l.length + 1) (by omega)
   simp only [hh, h0, iaddr_dset, pdset, lay, wk3, wk, iaddrV_map, seval]
   refine WT_loop (W_wk (fr' := [asets l, .top, .bool false, .top, .top, .top, .top, .int .i64 i, .ptr 0 0 0 1, .int .i64 (0 : Nat)] ++ List.replicate 117 .top) (Wk_tops ?_) (W_loop (fun n fr H' => ∃ (k : Nat) (cs : List AV), k ≤ 2 * l.length + 1 ∧ n = 2 * l.length + 1 - k ∧ (cs = cellD (iterD l k (l.getD i default)) ∨ (iterD l k (l.getD i default) = ⟨0, 0, 0, 0, []⟩ ∧ cs = zeroC)) ∧ H' = [some [cs]] ∧ fr = [asets l, .top, .bool false, .top, .top, .top, .top, .int .i64 i, .ptr 0 0 0 1, .int .i64 k] ++ List.replicate 117 .top) (2 * l.length + 1) ⟨0, _, by omega, rfl, .inl rfl, rfl, rfl⟩ ?_))
   ·simp only [asets, List.replicate_succ, List.replicate_zero, List.cons_append, List.nil_append, Tops_top, Tops_same, Tops_nil, Int.cast_ofNat_Int]
   rintro n fr H' ⟨k, cs, hk, rfl, hcs, rfl, rfl⟩
   refine WT_ok ?_
   have v2 : IntKind.i64.wrap ((k : Int) + 1) = (k : Int) + 1 := IntWalk.i64_in _ (by omega)
   have hstep : ∀ o, getA l (iterD l k (l.getD i default)).origin = o → iterD l (k + 1) (l.getD i default) = o.getD ⟨0, 0, 0, 0, []⟩ := fun o ho => by rw [iterD_succ]; unfold stepD; rw [ho]
   by_cases y0 : (k : Int) ≤ ((2 * l.length : Nat) : Int)
   ·rcases hcs with rfl | ⟨hz, rfl⟩
    ·generalize iterD l k (l.getD i default) = x at hstep ⊢
     simp only [y0, wm, asets, cellD, aset, lay, wk3, wk, iaddrV_map, seval]
     refine CT_ok (rgetL l (by omega) _ _) ?_
     rintro _ _ ⟨rfl, rfl⟩
     cases hg : getA l x.origin with
     | none =>
       have hs := hstep _ hg
       simp only [getV, v2, asets, cellD, aset, lay, wk3, wk, iaddrV_map, seval]
       refine QLoop_go (n' := 2 * l.length + 1 - (k + 1)) (by omega) ⟨k + 1, zeroC, by omega, rfl, .inr ⟨hs, rfl⟩, rfl, rfl⟩ ?_
       simp only [asets, renL, ren, List.replicate_succ, List.replicate_zero, List.cons_append, List.nil_append, Tops_top, Tops_same, Tops_nil, Int.natCast_add, Int.natCast_one]
     | some o =>
       have hs := hstep _ hg
       simp only [getV, v2, asets, cellD, aset, lay, wk3, wk, iaddrV_map, seval]
       refine QLoop_go (n' := 2 * l.length + 1 - (k + 1)) (by omega) ⟨k + 1, cellD o, by omega, rfl, .inl (by rw [hs]; rfl), rfl, rfl⟩ ?_
       simp only [asets, renL, ren, List.replicate_succ, List.replicate_zero, List.cons_append, List.nil_append, Tops_top, Tops_same, Tops_nil, Int.natCast_add, Int.natCast_one]
    ·rw [hz] at hstep
     simp only [y0, wm, asets, zeroC, lay, wk3, wk, iaddrV_map, seval]
     refine CT_ok (rgetL l (by omega) _ _) ?_
     rintro _ _ ⟨rfl, rfl⟩
     cases hg : getA l 0 with
     | none =>
       have hs := hstep _ hg
       simp only [getV, v2, asets, cellD, aset, lay, wk3, wk, iaddrV_map, seval]
       refine QLoop_go (n' := 2 * l.length + 1 - (k + 1)) (by omega) ⟨k + 1, zeroC, by omega, rfl, .inr ⟨hs, rfl⟩, rfl, rfl⟩ ?_
       simp only [asets, renL, ren, List.replicate_succ, List.replicate_zero, List.cons_append, List.nil_append, Tops_top, Tops_same, Tops_nil, Int.natCast_add, Int.natCast_one]
     | some o =>
       have hs := hstep _ hg
       simp only [getV, v2, asets, cellD, aset, lay, wk3, wk, iaddrV_map, seval]
       refine QLoop_go (n' := 2 * l.length + 1 - (k + 1)) (by omega) ⟨k + 1, cellD o, by omega, rfl, .inl (by rw [hs]; rfl), rfl, rfl⟩ ?_
       simp only [asets, renL, ren, List.replicate_succ, List.replicate_zero, List.cons_append, List.nil_append, Tops_top, Tops_same, Tops_nil, Int.natCast_add, Int.natCast_one]
   ·have hk2 : k = 2 * l.length + 1 := by omega
    subst hk2
    rcases hcs with rfl | ⟨hz, rfl⟩
    ·generalize iterD l (2 * l.length + 1) (l.getD i default) = x at hend ⊢
     simp only [y0, wm, hend, w2, asets, cellD, aset, lay, wk3, wk, iaddrV_map, seval]
     refine QLoop_wk (n' := l.length - (i + 1)) (by omega) ⟨i + 1, by omega, rfl, rfl, rfl⟩ (Wk_none ?_)
     simp only [asets, renL, ren, List.replicate_succ, List.replicate_zero, List.cons_append, List.nil_append, Tops_top, Tops_same, Tops_nil, Int.natCast_add, Int.natCast_one]
    ·simp only [y0, wm, w2, asets, zeroC, lay, wk3, wk, iaddrV_map, seval]
     refine QLoop_wk (n' := l.length - (i + 1)) (by omega) ⟨i + 1, by omega, rfl, rfl, rfl⟩ (Wk_none ?_)
     simp only [asets, renL, ren, List.replicate_succ, List.replicate_zero, List.cons_append, List.nil_append, Tops_top, Tops_same, Tops_nil, Int.natCast_add, Int.natCast_one]
  ·simp only [hh, wk3, wk, iaddrV_map, seval]
   exact KWk_bare rfl ⟨rfl, rfl⟩
theorem maysets (l : List Dset) (h : MayL l) (H : AH) : C Tryz.prog 31 [asets l] H (fun x H' => x = .bool true ∧ H' = H) :=
 C_any (maysets0 l h) (by simp [bareL, asets_bare]) rfl H
end Go.Proofs.YtemjlopoffjmpaaGreat.Abs
namespace Go.Proofs.YtemjlopoffjmpaaGreat.Abs
open Go
def c29 : ACode :=
 (.seq (.reg [⟨some 4, none, .mv (.c (.emp))⟩,
  ⟨some 5, none, .mv (.c (.int .i64 0))⟩])
 (.seq (.reg [⟨some 14, none, .mv (.t 0)⟩,
  ⟨some 15, none, .call 56 [(.t 14)]⟩,
  ⟨some 6, none, .mv (.t 15)⟩])
 (.seq (.reg [⟨some 16, none, .mv (.t 6)⟩,
  ⟨some 7, none, .mv (.t 16)⟩])
 (.seq (.reg [⟨some 17, none, .mv (.t 7)⟩,
  ⟨some 18, none, .mv (.t 1)⟩,
  ⟨some 19, none, .call 59 [(.t 17), (.t 18)]⟩,
  ⟨some 8, none, .mv (.t 19)⟩])
 (.seq (.block 0
 (.seq (.reg [⟨some 21, none, .mv (.t 8)⟩,
  ⟨some 22, none, .bini .lss (.t 21) (.c (.int .i64 0))⟩,
  ⟨some 20, none, .mv (.t 22)⟩])
 (.cond (.t 20)
 (.seq (.reg [⟨some 23, none, .mv (.t 6)⟩,
  ⟨some 4, none, .mv (.t 23)⟩,
  ⟨some 5, none, .mv (.c (.int .i64 2))⟩])
 .ret)
 (.seq (.reg [⟨some 25, none, .mv (.t 7)⟩,
  ⟨some 26, none, .mv (.t 8)⟩,
  ⟨some 27, none, .iaddr 5 (.t 25) (.t 26)⟩,
  ⟨some 28, none, .faddr 1 (.t 27)⟩,
  ⟨some 29, none, .load false 1 (.t 28)⟩,
  ⟨some 30, none, .bini .neq (.t 29) (.c (.int .i64 1))⟩,
  ⟨some 31, none, .mv (.t 30)⟩,
  ⟨some 32, (some (31, false)), .mv (.t 7)⟩,
  ⟨some 33, (some (31, false)), .mv (.t 8)⟩,
  ⟨some 34, (some (31, false)), .iaddr 5 (.t 32) (.t 33)⟩,
  ⟨some 35, (some (31, false)), .faddr 2 (.t 34)⟩,
  ⟨some 36, (some (31, false)), .load false 1 (.t 35)⟩,
  ⟨some 37, (some (31, false)), .bini .eql (.t 36) (.c (.int .i64 0))⟩,
  ⟨some 38, none, .pick (.t 31) (.c (.bool true)) (.t 37)⟩,
  ⟨some 24, none, .mv (.t 38)⟩])
 (.cond (.t 24)
 (.seq (.reg [⟨some 39, none, .mv (.t 6)⟩,
  ⟨some 4, none, .mv (.t 39)⟩,
  ⟨some 5, none, .mv (.c (.int .i64 1))⟩])
 .ret)
 .skip)))))
 (.seq (.reg [⟨some 40, none, .mv (.t 7)⟩,
  ⟨some 41, none, .mv (.t 7)⟩,
  ⟨some 42, none, .mv (.t 8)⟩,
  ⟨some 43, none, .iaddr 5 (.t 41) (.t 42)⟩,
  ⟨some 44, none, .faddr 2 (.t 43)⟩,
  ⟨some 45, none, .load false 1 (.t 44)⟩,
  ⟨some 46, none, .call 59 [(.t 40), (.t 45)]⟩,
  ⟨some 9, none, .mv (.t 46)⟩])
 (.seq (.seq (.reg [⟨some 47, none, .mv (.t 9)⟩,
  ⟨some 48, none, .bini .lss (.t 47) (.c (.int .i64 0))⟩,
  ⟨some 49, none, .mv (.t 48)⟩,
  ⟨some 50, (some (49, false)), .mv (.t 7)⟩,
  ⟨some 51, (some (49, false)), .mv (.t 7)⟩,
  ⟨some 52, (some (49, false)), .mv (.t 9)⟩,
  ⟨some 53, (some (49, false)), .iaddr 5 (.t 51) (.t 52)⟩,
  ⟨some 54, (some (49, false)), .faddr 2 (.t 53)⟩,
  ⟨some 55, (some (49, false)), .load false 1 (.t 54)⟩,
  ⟨some 56, (some (49, false)), .call 60 [(.t 50), (.t 55), (.c (.int .i64 1))]⟩,
  ⟨some 57, (some (49, false)), .un .not (.t 56)⟩,
  ⟨some 58, none, .pick (.t 49) (.c (.bool true)) (.t 57)⟩])
 (.cond (.t 58)
 (.seq (.reg [⟨some 59, none, .mv (.t 6)⟩,
  ⟨some 4, none, .mv (.t 59)⟩,
  ⟨some 5, none, .mv (.c (.int .i64 1))⟩])
 .ret)
 .skip))
 (.seq (.reg [⟨some 60, none, .mv (.t 7)⟩,
  ⟨some 61, none, .mv (.t 9)⟩,
  ⟨some 62, none, .iaddr 5 (.t 60) (.t 61)⟩,
  ⟨some 63, none, .faddr 2 (.t 62)⟩,
  ⟨some 64, none, .load false 1 (.t 63)⟩,
  ⟨some 10, none, .mv (.t 64)⟩])
 (.seq (.reg [⟨some 65, none, .mv (.t 7)⟩,
  ⟨some 66, none, .mv (.t 10)⟩,
  ⟨some 67, none, .call 59 [(.t 65), (.t 66)]⟩,
  ⟨some 11, none, .mv (.t 67)⟩])
 (.seq (.dregE [[(0, ⟨some 68, none, .mv (.t 7)⟩),
  (1, ⟨some 69, none, .mv (.t 8)⟩),
  (2, ⟨some 70, none, .mv (.t 7)⟩),
  (3, ⟨some 71, none, .mv (.t 11)⟩),
  (4, ⟨some 72, none, .mv (.t 7)⟩),
  (5, ⟨some 73, none, .mv (.t 11)⟩),
  (6, ⟨some 74, none, .iaddr 5 (.t 72) (.t 73)⟩),
  (7, ⟨some 75, none, .faddr 2 (.t 74)⟩),
  (8, ⟨some 76, none, .load false 1 (.t 75)⟩),
  (9, ⟨some 77, none, .mv (.t 7)⟩),
  (10, ⟨some 78, none, .mv (.t 9)⟩),
  (11, ⟨some 79, none, .iaddr 5 (.t 77) (.t 78)⟩),
  (12, ⟨some 80, none, .faddr 0 (.t 79)⟩),
  (13, ⟨some 81, none, .load false 1 (.t 80)⟩),
  (14, ⟨some 82, none, .iaddr 5 (.t 68) (.t 69)⟩),
  (15, ⟨some 83, none, .faddr 2 (.t 82)⟩),
  (16, ⟨none, none, .store 1 (.t 83) (.t 76)⟩)],
  [(17, ⟨some 84, none, .iaddr 5 (.t 70) (.t 71)⟩)],
  [(18, ⟨some 85, none, .faddr 2 (.t 84)⟩)],
  [(19, ⟨none, none, .store 1 (.t 85) (.t 81)⟩)]]
  [[], [], [], [], [], [], [4, 5], [4, 5, 6], [4, 5, 6, 7], [], [], [9, 10], [9, 10, 11], [9, 10, 11, 12], [0, 1, 4, 5, 6, 7, 8, 9, 10, 11, 12, 13], [0, 1, 4, 5, 6, 7, 8, 9, 10, 11, 12, 13, 14], [0, 1, 4, 5, 6, 7, 8, 9, 10, 11, 12, 13, 14, 15], [0, 1, 2, 3, 4, 5, 6, 7, 8, 9, 10, 11, 12, 13, 14, 15, 16], [0, 1, 2, 3, 4, 5, 6, 7, 8, 9, 10, 11, 12, 13, 14, 15, 16, 17], [0, 1, 2, 3, 4, 5, 6, 7, 8, 9, 10, 11, 12, 13, 14, 15, 16, 17, 18]])
 (.seq (.seq (.reg [⟨some 86, none, .mv (.t 7)⟩,
  ⟨some 87, none, .len false (.t 86)⟩,
  ⟨some 88, none, .mv (.c (.int .i64 0))⟩])
 (.block 1
 (.loop
 (.seq (.reg [⟨some 89, none, .bini .lss (.t 88) (.t 87)⟩])
 (.seq (.cond (.t 89)
 .skip
 (.exit 1))
 (.seq (.block 2
 (.seq (.reg [⟨some 90, none, .mv (.t 88)⟩,
  ⟨some 91, none, .iaddr 5 (.t 86) (.t 88)⟩,
  ⟨some 92, none, .load true 5 (.t 91)⟩,
  ⟨some 13, none, .alloc [.int .i64 0, .int .i64 0, .int .i64 0, .int .i64 0, .emp]⟩,
  ⟨some 12, none, .mv (.t 90)⟩,
  ⟨none, none, .store 5 (.t 13) (.t 92)⟩])
 (.seq (.dreg [⟨some 93, none, .faddr 1 (.t 13)⟩,
  ⟨some 94, none, .load false 1 (.t 93)⟩,
  ⟨some 95, none, .bini .eql (.t 94) (.c (.int .i64 2))⟩,
  ⟨some 96, none, .mv (.t 95)⟩,
  ⟨some 97, (some (96, true)), .faddr 2 (.t 13)⟩,
  ⟨some 98, (some (96, true)), .load false 1 (.t 97)⟩,
  ⟨some 99, (some (96, true)), .mv (.t 10)⟩,
  ⟨some 100, (some (96, true)), .bini .eql (.t 98) (.t 99)⟩,
  ⟨some 101, none, .pick (.t 96) (.t 100) (.c (.bool false))⟩,
  ⟨some 102, none, .mv (.t 101)⟩,
  ⟨some 103, (some (102, true)), .faddr 0 (.t 13)⟩,
  ⟨some 104, (some (102, true)), .load false 1 (.t 103)⟩,
  ⟨some 105, (some (102, true)), .mv (.t 7)⟩,
  ⟨some 106, (some (102, true)), .mv (.t 9)⟩,
  ⟨some 107, (some (102, true)), .iaddr 5 (.t 105) (.t 106)⟩,
  ⟨some 108, (some (102, true)), .faddr 0 (.t 107)⟩,
  ⟨some 109, (some (102, true)), .load false 1 (.t 108)⟩,
  ⟨some 110, (some (102, true)), .bini .leq (.t 104) (.t 109)⟩,
  ⟨some 111, none, .pick (.t 102) (.t 110) (.c (.bool false))⟩])
 (.cond (.t 111)
 (.reg [⟨some 112, none, .mv (.t 7)⟩,
  ⟨some 113, none, .mv (.t 12)⟩,
  ⟨some 114, none, .mv (.t 1)⟩,
  ⟨some 115, none, .iaddr 5 (.t 112) (.t 113)⟩,
  ⟨some 116, none, .faddr 2 (.t 115)⟩,
  ⟨none, none, .store 1 (.t 116) (.t 114)⟩])
 .skip))))
 (.reg [⟨some 117, none, .bini .add (.t 88) (.c (.int .i64 1))⟩,
  ⟨some 88, none, .mv (.t 117)⟩])))))))
 (.seq (.reg [⟨some 118, none, .mv (.t 6)⟩,
  ⟨some 4, none, .mv (.t 118)⟩,
  ⟨some 5, none, .mv (.c (.int .i64 0))⟩])
 .ret))))))))))))
theorem d29 : FnD Tryz.prog 29 2 117 [.tmp 4, .tmp 5] c29 := ⟨Tryz.f29, _, Tryz.func29, by kernel_rfl, rfl, rfl, by kernel_rfl, by kernel_rfl⟩
end Go.Proofs.YtemjlopoffjmpaaGreat.Abs
namespace Go.Proofs.YtemjlopoffjmpaaGreat.Abs
open Go
def c38 : ACode :=
 (.seq (.reg [⟨some 4, none, .box (.t 1)⟩,
  ⟨some 5, none, .box (.t 2)⟩,
  ⟨some 6, none, .mv (.c (.emp))⟩,
  ⟨some 7, none, .mv (.c (.int .i64 0))⟩])
 (.seq (.reg [⟨some 13, none, .mv (.t 0)⟩,
  ⟨some 14, none, .call 56 [(.t 13)]⟩,
  ⟨some 8, none, .mv (.t 14)⟩])
 (.seq (.reg [⟨some 15, none, .mv (.t 8)⟩,
  ⟨some 9, none, .mv (.t 15)⟩])
 (.seq (.dregE [[(0, ⟨some 16, none, .mv (.t 9)⟩),
  (1, ⟨some 17, none, .load false 1 (.t 4)⟩),
  (3, ⟨some 19, none, .mv (.t 9)⟩),
  (4, ⟨some 20, none, .load false 1 (.t 5)⟩),
  (2, ⟨some 18, none, .call 59 [(.t 16), (.t 17)]⟩)],
  [(5, ⟨some 21, none, .call 59 [(.t 19), (.t 20)]⟩)],
  [(6, ⟨some 10, none, .mv (.t 18)⟩)],
  [(7, ⟨some 11, none, .mv (.t 21)⟩)]]
  [[], [], [0, 1], [], [], [0, 1, 2, 3, 4], [0, 1, 2, 3, 4, 5], [0, 1, 2, 3, 4, 5, 6]])
 (.seq (.reg [⟨some 22, none, .mkfn (.func 77) [] [(.t 4), (.t 5)]⟩,
  ⟨some 12, none, .mv (.t 22)⟩])
 (.seq (.block 0
 (.seq (.reg [⟨some 24, none, .mv (.t 10)⟩,
  ⟨some 25, none, .bini .lss (.t 24) (.c (.int .i64 0))⟩,
  ⟨some 26, none, .mv (.t 25)⟩,
  ⟨some 27, (some (26, false)), .mv (.t 11)⟩,
  ⟨some 28, (some (26, false)), .bini .lss (.t 27) (.c (.int .i64 0))⟩,
  ⟨some 29, none, .pick (.t 26) (.c (.bool true)) (.t 28)⟩,
  ⟨some 23, none, .mv (.t 29)⟩])
 (.cond (.t 23)
 (.seq (.reg [⟨some 30, none, .mv (.t 8)⟩,
  ⟨some 6, none, .mv (.t 30)⟩,
  ⟨some 7, none, .mv (.c (.int .i64 2))⟩])
 .ret)
 (.seq (.dreg [⟨some 32, none, .mv (.t 9)⟩,
  ⟨some 33, none, .mv (.t 10)⟩,
  ⟨some 34, none, .iaddr 5 (.t 32) (.t 33)⟩,
  ⟨some 35, none, .faddr 1 (.t 34)⟩,
  ⟨some 36, none, .load false 1 (.t 35)⟩,
  ⟨some 37, none, .bini .neq (.t 36) (.c (.int .i64 1))⟩,
  ⟨some 38, none, .mv (.t 37)⟩,
  ⟨some 39, (some (38, false)), .mv (.t 9)⟩,
  ⟨some 40, (some (38, false)), .mv (.t 11)⟩,
  ⟨some 41, (some (38, false)), .iaddr 5 (.t 39) (.t 40)⟩,
  ⟨some 42, (some (38, false)), .faddr 1 (.t 41)⟩,
  ⟨some 43, (some (38, false)), .load false 1 (.t 42)⟩,
  ⟨some 44, (some (38, false)), .bini .neq (.t 43) (.c (.int .i64 2))⟩,
  ⟨some 45, none, .pick (.t 38) (.c (.bool true)) (.t 44)⟩,
  ⟨some 46, none, .mv (.t 45)⟩,
  ⟨some 47, (some (46, false)), .mv (.t 9)⟩,
  ⟨some 48, (some (46, false)), .mv (.t 11)⟩,
  ⟨some 49, (some (46, false)), .iaddr 5 (.t 47) (.t 48)⟩,
  ⟨some 50, (some (46, false)), .faddr 2 (.t 49)⟩,
  ⟨some 51, (some (46, false)), .load false 1 (.t 50)⟩,
  ⟨some 52, (some (46, false)), .load false 1 (.t 4)⟩,
  ⟨some 53, (some (46, false)), .bini .neq (.t 51) (.t 52)⟩,
  ⟨some 54, none, .pick (.t 46) (.c (.bool true)) (.t 53)⟩,
  ⟨some 31, none, .mv (.t 54)⟩])
 (.cond (.t 31)
 (.seq (.reg [⟨some 55, none, .mv (.t 8)⟩,
  ⟨some 6, none, .mv (.t 55)⟩,
  ⟨some 7, none, .mv (.c (.int .i64 1))⟩])
 .ret)
 (.seq (.reg [⟨some 57, none, .mv (.t 9)⟩,
  ⟨some 58, none, .mv (.t 12)⟩,
  ⟨some 59, none, .call 63 [(.t 57), (.t 58)]⟩,
  ⟨some 56, none, .mv (.t 59)⟩])
 (.cond (.t 56)
 (.seq (.reg [⟨some 60, none, .mv (.t 8)⟩,
  ⟨some 6, none, .mv (.t 60)⟩,
  ⟨some 7, none, .mv (.c (.int .i64 10))⟩])
 .ret)
 .skip)))))))
 (.seq (.reg [⟨some 61, none, .mv (.t 9)⟩,
  ⟨some 62, none, .mv (.t 10)⟩,
  ⟨some 63, none, .mv (.t 9)⟩,
  ⟨some 64, none, .mv (.t 11)⟩,
  ⟨some 65, none, .iaddr 5 (.t 63) (.t 64)⟩,
  ⟨some 66, none, .faddr 4 (.t 65)⟩,
  ⟨some 67, none, .load false 1 (.t 66)⟩,
  ⟨some 68, none, .call 49 [(.t 67)]⟩,
  ⟨some 69, none, .iaddr 5 (.t 61) (.t 62)⟩,
  ⟨some 70, none, .faddr 4 (.t 69)⟩,
  ⟨none, none, .store 1 (.t 70) (.t 68)⟩])
 (.seq (.reg [⟨some 71, none, .mv (.t 8)⟩,
  ⟨some 6, none, .mv (.t 71)⟩,
  ⟨some 7, none, .mv (.c (.int .i64 0))⟩])
 .ret))))))))
theorem d38 : FnD Tryz.prog 38 3 69 [.tmp 6, .tmp 7] c38 := ⟨Tryz.f38, _, Tryz.func38, by kernel_rfl, rfl, rfl, by kernel_rfl, by kernel_rfl⟩
end Go.Proofs.YtemjlopoffjmpaaGreat.Abs
namespace Go.Proofs.YtemjlopoffjmpaaGreat.Abs
open Go
def c32 : ACode :=
 (.seq (.reg [⟨some 3, none, .box (.t 1)⟩,
  ⟨some 4, none, .mv (.c (.emp))⟩,
  ⟨some 5, none, .mv (.c (.int .i64 0))⟩])
 (.seq (.reg [⟨some 12, none, .mv (.t 0)⟩,
  ⟨some 13, none, .call 56 [(.t 12)]⟩,
  ⟨some 6, none, .mv (.t 13)⟩])
 (.seq (.reg [⟨some 14, none, .mv (.t 6)⟩,
  ⟨some 7, none, .mv (.t 14)⟩])
 (.seq (.reg [⟨some 15, none, .mv (.t 7)⟩,
  ⟨some 16, none, .load false 1 (.t 3)⟩,
  ⟨some 17, none, .call 59 [(.t 15), (.t 16)]⟩,
  ⟨some 8, none, .mv (.t 17)⟩])
 (.seq (.reg [⟨some 9, none, .mv (.c (.int .i64 0))⟩])
 (.seq (.seq (.reg [⟨some 18, none, .mv (.t 7)⟩,
  ⟨some 19, none, .len false (.t 18)⟩,
  ⟨some 20, none, .mv (.c (.int .i64 0))⟩])
 (.block 0
 (.loop
 (.seq (.reg [⟨some 21, none, .bini .lss (.t 20) (.t 19)⟩])
 (.seq (.cond (.t 21)
 .skip
 (.exit 0))
 (.seq (.block 1
 (.seq (.reg [⟨some 22, none, .iaddr 5 (.t 18) (.t 20)⟩,
  ⟨some 23, none, .load true 5 (.t 22)⟩,
  ⟨some 11, none, .alloc [.int .i64 0, .int .i64 0, .int .i64 0, .int .i64 0, .emp]⟩,
  ⟨none, none, .store 5 (.t 11) (.t 23)⟩])
 (.seq (.reg [⟨some 24, none, .faddr 1 (.t 11)⟩,
  ⟨some 25, none, .load false 1 (.t 24)⟩,
  ⟨some 26, none, .bini .eql (.t 25) (.c (.int .i64 1))⟩])
 (.cond (.t 26)
 (.reg [⟨some 27, none, .mv (.t 9)⟩,
  ⟨some 28, none, .bini .add (.t 27) (.c (.int .i64 1))⟩,
  ⟨some 9, none, .mv (.t 28)⟩])
 .skip))))
 (.reg [⟨some 29, none, .bini .add (.t 20) (.c (.int .i64 1))⟩,
  ⟨some 20, none, .mv (.t 29)⟩])))))))
 (.seq (.block 2
 (.seq (.reg [⟨some 31, none, .mv (.t 8)⟩,
  ⟨some 32, none, .bini .lss (.t 31) (.c (.int .i64 0))⟩,
  ⟨some 30, none, .mv (.t 32)⟩])
 (.cond (.t 30)
 (.seq (.reg [⟨some 33, none, .mv (.t 6)⟩,
  ⟨some 4, none, .mv (.t 33)⟩,
  ⟨some 5, none, .mv (.c (.int .i64 2))⟩])
 .ret)
 (.seq (.seq (.reg [⟨some 35, none, .mv (.t 7)⟩,
  ⟨some 36, none, .mkfn (.func 64) [] [(.t 3)]⟩,
  ⟨some 37, none, .call 63 [(.t 35), (.t 36)]⟩,
  ⟨some 34, none, .mv (.t 37)⟩])
 (.cond (.t 34)
 .skip
 (.reg [⟨some 38, none, .mv (.t 7)⟩,
  ⟨some 39, none, .mv (.t 8)⟩,
  ⟨some 40, none, .iaddr 5 (.t 38) (.t 39)⟩,
  ⟨some 41, none, .faddr 1 (.t 40)⟩,
  ⟨some 42, none, .load false 1 (.t 41)⟩,
  ⟨some 43, none, .bini .eql (.t 42) (.c (.int .i64 1))⟩,
  ⟨some 44, none, .mv (.t 43)⟩,
  ⟨some 45, (some (44, true)), .mv (.t 9)⟩,
  ⟨some 46, (some (44, true)), .bini .eql (.t 45) (.c (.int .i64 1))⟩,
  ⟨some 47, none, .pick (.t 44) (.t 46) (.c (.bool false))⟩,
  ⟨some 34, none, .mv (.t 47)⟩])))
 (.cond (.t 34)
 (.seq (.reg [⟨some 48, none, .mv (.t 6)⟩,
  ⟨some 4, none, .mv (.t 48)⟩,
  ⟨some 5, none, .mv (.c (.int .i64 10))⟩])
 .ret)
 .skip)))))
 (.seq (.reg [⟨some 49, none, .mv (.t 6)⟩,
  ⟨some 50, none, .mv (.t 8)⟩,
  ⟨some 51, none, .mv (.t 8)⟩,
  ⟨some 52, none, .bini .add (.t 51) (.c (.int .i64 1))⟩,
  ⟨some 53, none, .call 65 [(.t 49), (.t 50), (.t 52)]⟩,
  ⟨some 4, none, .mv (.t 53)⟩,
  ⟨some 5, none, .mv (.c (.int .i64 0))⟩])
 .ret))))))))
theorem d32 : FnD Tryz.prog 32 2 52 [.tmp 4, .tmp 5] c32 := ⟨Tryz.f32, _, Tryz.func32, by kernel_rfl, rfl, rfl, by kernel_rfl, by kernel_rfl⟩
end Go.Proofs.YtemjlopoffjmpaaGreat.Abs
