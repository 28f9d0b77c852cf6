/-
  Part 4 of the proof: no condition. (Parts of the abstract layer, of the program's functions in its form, and of their contracts.)
-/
import Derived.Test.YtemjlopoffjmpaaWk
import Derived.Test.YtemjlopoffjmpaaWk3
import Derived.Test.YtemjlopoffjmpaaSM3
import Derived.Test.YtemjlopoffjmpaaSM2
import Derived.Test.YtemjlopoffjmpaaAbs22
import Derived.Test.YtemjlopoffjmpaaProg
import Derived.KernelRfl
import Derived.Test.YtemjlopoffjmpaaAbs35
import Derived.Test.YtemjlopoffjmpaaSM1
import Derived.Test.YtemjlopoffjmpaaAbs37
import Derived.Test.YtemjlopoffjmpaaAbs38
import Derived.ProofKit
set_option linter.unusedSimpArgs false
set_option linter.unusedVariables false
namespace Go.Proofs.Ytemjlopoffjmpaa.Abs
open Go Go.Proofs

section
variable {c : Nat} {H : AH} {late : List Loc → List Loc → Prop} {K : List Nat → Nat → AV → AH → Prop} {t : Tag K}
theorem CFT_find (l : List Dset) (hl : l.length ≤ 1000000) (i : Int) (r : Nat) (hr : H.at r = some (l.map cellD)) (hrc : r < c) (hc : c ≤ H.length) (hk : K [r] c (.int .i64 (findA l i)) H) : CFT Try.prog 62 [.own r 5 0 l.length l.length, .int .i64 i] c H late K t := by
  refine CET_ok [r] 0 (x := .int .i64 (findA l i)) (H1 := [some (l.map cellD)]) (by simpa [renL, ren, toCallee, renO_cells, hr] using find0 l hl i) (fun y G h => h) ⟨by simp, by simpa using hrc, by omega, by simp⟩ ?_
  simpa [setAll, renO_cells, ren, List.range', set_at hr] using hk
end
theorem later_L (d : Dset) (i j : Int) (l : List Dset) : C Try.prog 64 [.agg (cellD d), .ptr 1 0 0 1, .ptr 2 0 0 1] [some (l.map cellD), some [[.int .i64 i]], some [[.int .i64 j]]] (fun x H' => x = .bool (laterA i j d) ∧ H' = [some (l.map cellD), some [[.int .i64 i]], some [[.int .i64 j]]]) :=
  C_call [1, 2] (by simp) (by simp) (by simpa [renL, ren, toCallee, renO_box, renL_cell, AH.at, show List.idxOf? 1 [1, 2] = some 0 from rfl, show List.idxOf? 2 [1, 2] = some 1 from rfl] using later64 d i j) (by rintro _ _ ⟨rfl, rfl⟩; exact ⟨Nat.le_refl _, by simp [ren], by simp [back, setAll, renO_box]⟩)
theorem later_at (l : List Dset) (hl : l.length ≤ 1000000) (i j : Int) : C Try.prog 65 [.own 2 5 0 l.length l.length, .fn (.func 64) [] [.ptr 0 0 0 1, .ptr 1 0 0 1]] [some [[.int .i64 i]], some [[.int .i64 j]], some (l.map cellD)] (fun x H' => x = .bool (decide (0 ≤ idxA (laterA i j) l)) ∧ H' = [some [[.int .i64 i]], some [[.int .i64 j]], some (l.map cellD)]) :=
  C_call [2, 0, 1] (by simp) (by simp) (K0 := fun x H' => x = .bool (decide (0 ≤ idxA (laterA i j) l)) ∧ H' = [some (l.map cellD), some [[.int .i64 i]], some [[.int .i64 j]]])
    (by simpa [renL, ren, toCallee, renO_cells, renO_box, AH.at, show List.idxOf? 0 [2, 0, 1] = some 1 from rfl, show List.idxOf? 1 [2, 0, 1] = some 2 from rfl, show List.idxOf? 2 [2, 0, 1] = some 0 from rfl] using contains65 l hl [some [[.int .i64 i]], some [[.int .i64 j]]] 64 [.ptr 1 0 0 1, .ptr 2 0 0 1] (laterA i j) (fun d => later_L d i j l))
    (by rintro _ _ ⟨rfl, rfl⟩; exact ⟨Nat.le_refl _, by simp [ren], by simp [back, setAll, renO_cells, renO_box]⟩)

theorem set_cellD (l : List Dset) (k : Nat) (d : Dset) : (l.map cellD).set k (cellD d) = (l.set k d).map cellD := by rw [List.map_set]
/-- dset.Back -/
def backA (l : List Dset) (i j : Int) : List Dset × Int :=
  if findA l i < 0 ∨ findA l j < 0 then (l, 2) else
  let d := l.getD (findA l i).toNat default
  let s := l.getD (findA l j).toNat default
  if d.kind ≠ 1 ∨ s.kind ≠ 2 ∨ s.origin ≠ i then (l, 1) else if 0 ≤ idxA (laterA i j) l then (l, 10) else (l.set (findA l i).toNat { d with files := s.files }, 0)

theorem dback0 (l : List Dset) (hl : Short l) (i j : Int) : C Try.prog 29 [asets l, .int .i64 i, .int .i64 j] [] (fun x H' => x = outA (backA l i j) ∧ H' = []) := by
  have hl1 := hl.1
  refine C_body' d29 rfl (WT_ok ?_)
  unfold c29
  simp only [lay, wk3, onStO, bareL, toCl, chunks, wk, iaddrV_map, emb, unAgg, ares, aresL, ares1, tupled, forall_const, Nat.reduceAdd, Nat.reduceSub, Nat.reduceMul, Nat.reduceLeDiff, Nat.reduceEqDiff, Nat.reduceBEq, Int.reduceLE, Int.reduceLT, Int.reduceEq, Int.reduceNe, Int.reduceAdd, Int.reduceSub, Int.reduceToNat, Int.reduceNeg, ↓reduceIte, reduceCtorEq, cellsOf, cellA, lay, fillA]
  refine CT_ok (twinL l hl _) ?_
  rintro _ _ ⟨rfl, rfl⟩
  simp only [lay, wk3, onStO, bareL, toCl, chunks, wk, iaddrV_map, emb, unAgg, ares, aresL, ares1, tupled, forall_const, Nat.reduceAdd, Nat.reduceSub, Nat.reduceMul, Nat.reduceLeDiff, Nat.reduceEqDiff, Nat.reduceBEq, Int.reduceLE, Int.reduceLT, Int.reduceEq, Int.reduceNe, Int.reduceAdd, Int.reduceSub, Int.reduceToNat, Int.reduceNeg, ↓reduceIte, reduceCtorEq, cellsOf, cellA, lay, fillA]
  refine WT_drawE ?_
  refine WDT_more 0 ?_
  simp only [lay, wk3, onStO, bareL, toCl, chunks, wk, iaddrV_map, emb, unAgg, ares, aresL, ares1, tupled, forall_const, Nat.reduceAdd, Nat.reduceSub, Nat.reduceMul, Nat.reduceLeDiff, Nat.reduceEqDiff, Nat.reduceBEq, Int.reduceLE, Int.reduceLT, Int.reduceEq, Int.reduceNe, Int.reduceAdd, Int.reduceSub, Int.reduceToNat, Int.reduceNeg, ↓reduceIte, reduceCtorEq, cellsOf, cellA, lay, fillA]
  refine CFT_find l hl1 i 2 rfl (by omega) (by simp) ?_
  simp only [ren, renL, lay, wk3, onStO, bareL, toCl, chunks, wk, iaddrV_map, emb, unAgg, ares, aresL, ares1, tupled, forall_const, Nat.reduceAdd, Nat.reduceSub, Nat.reduceMul, Nat.reduceLeDiff, Nat.reduceEqDiff, Nat.reduceBEq, Int.reduceLE, Int.reduceLT, Int.reduceEq, Int.reduceNe, Int.reduceAdd, Int.reduceSub, Int.reduceToNat, Int.reduceNeg, ↓reduceIte, reduceCtorEq, cellsOf, cellA, lay, fillA]
  refine ⟨by rfl, ?_⟩
  refine CT_ok (findAt l hl1 j 2 _ rfl) ?_
  rintro _ _ ⟨rfl, rfl⟩
  simp only [lay, wk3, onStO, bareL, toCl, chunks, wk, iaddrV_map, emb, unAgg, ares, aresL, ares1, tupled, forall_const, Nat.reduceAdd, Nat.reduceSub, Nat.reduceMul, Nat.reduceLeDiff, Nat.reduceEqDiff, Nat.reduceBEq, Int.reduceLE, Int.reduceLT, Int.reduceEq, Int.reduceNe, Int.reduceAdd, Int.reduceSub, Int.reduceToNat, Int.reduceNeg, ↓reduceIte, reduceCtorEq, cellsOf, cellA, lay, fillA]
  rcases find_of (l := l) (i := i) with ⟨e, _⟩ | ⟨k, e, hk, _, _⟩
  · have hA : backA l i j = (l, 2) := by unfold backA; rw [if_pos (.inl (by omega))]
    simp only [e, hA, lay, wk3, onStO, bareL, toCl, chunks, wk, iaddrV_map, emb, unAgg, ares, aresL, ares1, tupled, forall_const, Nat.reduceAdd, Nat.reduceSub, Nat.reduceMul, Nat.reduceLeDiff, Nat.reduceEqDiff, Nat.reduceBEq, Int.reduceLE, Int.reduceLT, Int.reduceEq, Int.reduceNe, Int.reduceAdd, Int.reduceSub, Int.reduceToNat, Int.reduceNeg, ↓reduceIte, reduceCtorEq, cellsOf, cellA, lay, fillA]
    exact KWk_sets 2 l 2 _ rfl rfl ⟨rfl, rfl⟩
  rcases find_of (l := l) (i := j) with ⟨e', _⟩ | ⟨m, e', hm, _, _⟩
  · have hA : backA l i j = (l, 2) := by unfold backA; rw [if_pos (.inr (by omega))]
    have h2 : ¬ (k : Int) < 0 := by omega
    simp only [e, e', h2, hA, lay, wk3, onStO, bareL, toCl, chunks, wk, iaddrV_map, emb, unAgg, ares, aresL, ares1, tupled, forall_const, Nat.reduceAdd, Nat.reduceSub, Nat.reduceMul, Nat.reduceLeDiff, Nat.reduceEqDiff, Nat.reduceBEq, Int.reduceLE, Int.reduceLT, Int.reduceEq, Int.reduceNe, Int.reduceAdd, Int.reduceSub, Int.reduceToNat, Int.reduceNeg, ↓reduceIte, reduceCtorEq, cellsOf, cellA, lay, fillA]
    exact KWk_sets 2 l 2 _ rfl rfl ⟨rfl, rfl⟩
  have hB : backA l i j = if (l.getD k default).kind ≠ 1 ∨ (l.getD m default).kind ≠ 2 ∨ (l.getD m default).origin ≠ i then (l, 1) else if 0 ≤ idxA (laterA i j) l then (l, 10) else (l.set k ⟨(l.getD k default).id, (l.getD k default).kind, (l.getD k default).origin, (l.getD k default).quota, (l.getD m default).files⟩, 0) := by
    unfold backA; rw [e, e', if_neg (by omega)]; rfl
  have hc := cell_at hk
  have hc' := cell_at hm
  have h0 : (0 : Int) ≤ k := by omega
  have h1 : (k : Int) < l.length := by omega
  have h2 : ¬ (k : Int) < 0 := by omega
  have h0' : (0 : Int) ≤ m := by omega
  have h1' : (m : Int) < l.length := by omega
  have h2' : ¬ (m : Int) < 0 := by omega
  have hf := hl.get hm
  generalize l.getD k default = d at hB hc
  generalize l.getD m default = s at hB hc' hf
  simp only [e, e', h2, h2', lay, wk3, onStO, bareL, toCl, chunks, wk, iaddrV_map, emb, unAgg, ares, aresL, ares1, tupled, forall_const, Nat.reduceAdd, Nat.reduceSub, Nat.reduceMul, Nat.reduceLeDiff, Nat.reduceEqDiff, Nat.reduceBEq, Int.reduceLE, Int.reduceLT, Int.reduceEq, Int.reduceNe, Int.reduceAdd, Int.reduceSub, Int.reduceToNat, Int.reduceNeg, ↓reduceIte, reduceCtorEq, cellsOf, cellA, lay, fillA]
  refine WT_draw ?_
  by_cases g1 : d.kind = 1
  · by_cases g2 : s.kind = 2
    · by_cases g3 : s.origin = i
      · rw [if_neg (fun h => h.elim (fun h => h g1) (fun h => h.elim (fun h => h g2) (fun h => h g3)))] at hB
        simp only [h0, h1, h0', h1', hc, hc', g1, g2, g3, cellD, aset, lay, wk3, onStO, bareL, toCl, chunks, wk, iaddrV_map, emb, unAgg, ares, aresL, ares1, tupled, forall_const, Nat.reduceAdd, Nat.reduceSub, Nat.reduceMul, Nat.reduceLeDiff, Nat.reduceEqDiff, Nat.reduceBEq, Int.reduceLE, Int.reduceLT, Int.reduceEq, Int.reduceNe, Int.reduceAdd, Int.reduceSub, Int.reduceToNat, Int.reduceNeg, ↓reduceIte, reduceCtorEq, cellsOf, cellA, lay, fillA]
        refine CT_ok (later_at l hl1 i j) ?_
        rintro _ _ ⟨rfl, rfl⟩
        by_cases g4 : 0 ≤ idxA (laterA i j) l
        · rw [if_pos g4] at hB
          simp only [g4, lay, wk3, onStO, bareL, toCl, chunks, wk, iaddrV_map, emb, unAgg, ares, aresL, ares1, tupled, forall_const, Nat.reduceAdd, Nat.reduceSub, Nat.reduceMul, Nat.reduceLeDiff, Nat.reduceEqDiff, Nat.reduceBEq, Int.reduceLE, Int.reduceLT, Int.reduceEq, Int.reduceNe, Int.reduceAdd, Int.reduceSub, Int.reduceToNat, Int.reduceNeg, ↓reduceIte, reduceCtorEq, cellsOf, cellA, lay, fillA]
          exact KWk_sets 2 l 10 _ rfl rfl ⟨by rw [hB]; rfl, rfl⟩
        · rw [if_neg g4] at hB
          simp only [g4, h0, h1, h0', h1', hc, hc', cellD, aset, lay, wk3, onStO, bareL, toCl, chunks, wk, iaddrV_map, emb, unAgg, ares, aresL, ares1, tupled, forall_const, Nat.reduceAdd, Nat.reduceSub, Nat.reduceMul, Nat.reduceLeDiff, Nat.reduceEqDiff, Nat.reduceBEq, Int.reduceLE, Int.reduceLT, Int.reduceEq, Int.reduceNe, Int.reduceAdd, Int.reduceSub, Int.reduceToNat, Int.reduceNeg, ↓reduceIte, reduceCtorEq, cellsOf, cellA, lay, fillA]
          refine CT_ok (cloneF s.files hf _) ?_
          rintro _ _ ⟨rfl, rfl⟩
          have hst := set_cellD l k ⟨d.id, d.kind, d.origin, d.quota, s.files⟩
          simp only [cellD, aset] at hst
          rw [g1] at hst hB
          simp only [h0, h1, hc, g1, hst, cellD, aset, lay, wk3, onStO, bareL, toCl, chunks, wk, iaddrV_map, emb, unAgg, ares, aresL, ares1, tupled, forall_const, Nat.reduceAdd, Nat.reduceSub, Nat.reduceMul, Nat.reduceLeDiff, Nat.reduceEqDiff, Nat.reduceBEq, Int.reduceLE, Int.reduceLT, Int.reduceEq, Int.reduceNe, Int.reduceAdd, Int.reduceSub, Int.reduceToNat, Int.reduceNeg, ↓reduceIte, reduceCtorEq, cellsOf, cellA, lay, fillA]
          exact KWk_sets 2 (l.set k ⟨d.id, 1, d.origin, d.quota, s.files⟩) 0 _ (by simp) rfl ⟨by rw [hB]; rfl, rfl⟩
      · rw [if_pos (.inr (.inr g3))] at hB
        simp only [h0, h1, h0', h1', hc, hc', g1, g2, g3, cellD, aset, lay, wk3, onStO, bareL, toCl, chunks, wk, iaddrV_map, emb, unAgg, ares, aresL, ares1, tupled, forall_const, Nat.reduceAdd, Nat.reduceSub, Nat.reduceMul, Nat.reduceLeDiff, Nat.reduceEqDiff, Nat.reduceBEq, Int.reduceLE, Int.reduceLT, Int.reduceEq, Int.reduceNe, Int.reduceAdd, Int.reduceSub, Int.reduceToNat, Int.reduceNeg, ↓reduceIte, reduceCtorEq, cellsOf, cellA, lay, fillA]
        exact KWk_sets 2 l 1 _ rfl rfl ⟨by rw [hB]; rfl, rfl⟩
    · rw [if_pos (.inr (.inl g2))] at hB
      simp only [h0, h1, h0', h1', hc, hc', g1, g2, cellD, aset, lay, wk3, onStO, bareL, toCl, chunks, wk, iaddrV_map, emb, unAgg, ares, aresL, ares1, tupled, forall_const, Nat.reduceAdd, Nat.reduceSub, Nat.reduceMul, Nat.reduceLeDiff, Nat.reduceEqDiff, Nat.reduceBEq, Int.reduceLE, Int.reduceLT, Int.reduceEq, Int.reduceNe, Int.reduceAdd, Int.reduceSub, Int.reduceToNat, Int.reduceNeg, ↓reduceIte, reduceCtorEq, cellsOf, cellA, lay, fillA]
      exact KWk_sets 2 l 1 _ rfl rfl ⟨by rw [hB]; rfl, rfl⟩
  · rw [if_pos (.inl g1)] at hB
    simp only [h0, h1, h0', h1', hc, hc', g1, cellD, aset, lay, wk3, onStO, bareL, toCl, chunks, wk, iaddrV_map, emb, unAgg, ares, aresL, ares1, tupled, forall_const, Nat.reduceAdd, Nat.reduceSub, Nat.reduceMul, Nat.reduceLeDiff, Nat.reduceEqDiff, Nat.reduceBEq, Int.reduceLE, Int.reduceLT, Int.reduceEq, Int.reduceNe, Int.reduceAdd, Int.reduceSub, Int.reduceToNat, Int.reduceNeg, ↓reduceIte, reduceCtorEq, cellsOf, cellA, lay, fillA]
    exact KWk_sets 2 l 1 _ rfl rfl ⟨by rw [hB]; rfl, rfl⟩
end Go.Proofs.Ytemjlopoffjmpaa.Abs
set_option linter.unusedSimpArgs false
set_option linter.unusedVariables false
namespace Go.Proofs.Ytemjlopoffjmpaa.Abs
open Go Go.Proofs

/-- The first k of them are turned. -/
def someA (g : Dset → Dset) (l : List Dset) (k : Nat) : List Dset := (l.map g).take k ++ l.drop k
theorem someA_get (g : Dset → Dset) (l : List Dset) (k j : Nat) (hk : k ≤ l.length) : (someA g l k)[j]? = if j < k then (l[j]?).map g else l[j]? := by
  unfold someA
  rw [List.getElem?_append, List.length_take, List.length_map, Nat.min_eq_left hk]
  by_cases h : j < k
  · rw [if_pos h, if_pos h, List.getElem?_take, if_pos h, List.getElem?_map]
  · rw [if_neg h, if_neg h, List.getElem?_drop]; congr 1; omega
theorem someA_len (g : Dset → Dset) (l : List Dset) (k : Nat) (hk : k ≤ l.length) : (someA g l k).length = l.length := by
  unfold someA
  simp; omega
theorem someA_succ (g : Dset → Dset) (l : List Dset) (k : Nat) (hk : k < l.length) : (someA g l k).set k (g (l.getD k default)) = someA g l (k + 1) := by
  apply List.ext_getElem?
  intro j
  rw [List.getElem?_set, someA_get _ _ _ _ (by omega), someA_get _ _ _ _ (by omega), someA_len _ _ _ (by omega)]
  by_cases h : k = j
  · subst h
    rw [if_pos rfl, if_pos hk, if_pos (by omega), List.getElem?_eq_getElem hk, List.getD_eq_getElem?_getD, List.getElem?_eq_getElem hk]; rfl
  · rw [if_neg h]
    by_cases h2 : j < k
    · rw [if_pos h2, if_pos (by omega)]
    · rw [if_neg h2, if_neg (by omega)]
theorem someA_getD (g : Dset → Dset) (l : List Dset) (k j : Nat) (hk : k ≤ l.length) : (someA g l k).getD j default = if j < k ∧ j < l.length then g (l.getD j default) else l.getD j default := by
  rw [List.getD_eq_getElem?_getD, someA_get _ _ _ _ hk]
  by_cases h : j < k
  · rw [if_pos h, if_pos ⟨h, by omega⟩, List.getElem?_eq_getElem (show j < l.length by omega), List.getD_eq_getElem?_getD, List.getElem?_eq_getElem (show j < l.length by omega)]; rfl
  · rw [if_neg h, if_neg (by omega), List.getD_eq_getElem?_getD]
theorem someA_zero (g : Dset → Dset) (l : List Dset) : someA g l 0 = l := by simp [someA]
theorem someA_all (g : Dset → Dset) (l : List Dset) : someA g l l.length = l.map g := by
  unfold someA
  rw [List.take_of_length_le (by simp), List.drop_length, List.append_nil]

/-- A snapshot of one set, as old as another or older, becomes another set's. -/
def turnA (was sid i : Int) (x : Dset) : Dset := if x.kind = 2 ∧ x.origin = was ∧ x.id ≤ sid then ⟨x.id, x.kind, i, x.quota, x.files⟩ else x
theorem turnA_id (was sid i : Int) (x : Dset) : (turnA was sid i x).id = x.id := by unfold turnA; split <;> rfl
def reorig (d : Dset) (o : Int) : Dset := ⟨d.id, d.kind, o, d.quota, d.files⟩
/-- dset.Promote, of sets that are found. -/
def promoted (l : List Dset) (i : Int) (ki ks ko : Nat) : List Dset :=
  let was := (l.getD ks default).origin
  let l1 := l.set ki (reorig (l.getD ki default) (l.getD ko default).origin)
  let l2 := l1.set ko (reorig (l1.getD ko default) (l.getD ks default).id)
  l2.map (turnA was (l.getD ks default).id i)
/-- dset.Promote -/
def promoteA (l : List Dset) (i : Int) : List Dset × Int :=
  if findA l i < 0 then (l, 2) else
  let d := l.getD (findA l i).toNat default
  if d.kind ≠ 1 ∨ d.origin = 0 then (l, 1) else
  let s := l.getD (findA l d.origin).toNat default
  if findA l d.origin < 0 ∨ isA l s.origin 1 = false then (l, 1) else (promoted l i (findA l i).toNat (findA l d.origin).toNat (findA l s.origin).toNat, 0)

theorem Wk_obj1 {fr fr' : List AV} {o : AObj} {G : AH} (ho : o.map (renL (upTo 1)) = o) (h : Tops fr' (renL (upTo 1) fr)) : Wk 0 fr (some o :: G) fr' [some o] := by
  have h1 := (Wk_forget (n0 := 0) (fr := fr) (H := some o :: G) 1 (Nat.zero_le _)).trans (Wk_tops h)
  have e : mapH (renL (upTo 1)) ((some o :: G).take 1) = [some o] := by
    simp only [List.take_succ_cons, List.take_zero, mapH, List.map_cons, List.map_nil, Option.map_some, ho]
  rwa [e] at h1

theorem promote0 (l : List Dset) (hl : Short l) (i : Int) : C Try.prog 28 [asets l, .int .i64 i] [] (fun x H' => x = outA (promoteA l i) ∧ H' = []) := by
  have hl1 := hl.1
  refine C_body' d28 rfl (WT_ok ?_)
  unfold c28
  simp only [lay, wk3, onStO, bareL, toCl, chunks, wk, iaddrV_map, emb, unAgg, ares, aresL, ares1, tupled, forall_const, Nat.reduceAdd, Nat.reduceSub, Nat.reduceMul, Nat.reduceLeDiff, Nat.reduceEqDiff, Nat.reduceBEq, Int.reduceLE, Int.reduceLT, Int.reduceEq, Int.reduceNe, Int.reduceAdd, Int.reduceSub, Int.reduceToNat, Int.reduceNeg, ↓reduceIte, reduceCtorEq, cellsOf, cellA, lay, fillA]
  refine CT_ok (twinL l hl _) ?_
  rintro _ _ ⟨rfl, rfl⟩
  simp only [lay, wk3, onStO, bareL, toCl, chunks, wk, iaddrV_map, emb, unAgg, ares, aresL, ares1, tupled, forall_const, Nat.reduceAdd, Nat.reduceSub, Nat.reduceMul, Nat.reduceLeDiff, Nat.reduceEqDiff, Nat.reduceBEq, Int.reduceLE, Int.reduceLT, Int.reduceEq, Int.reduceNe, Int.reduceAdd, Int.reduceSub, Int.reduceToNat, Int.reduceNeg, ↓reduceIte, reduceCtorEq, cellsOf, cellA, lay, fillA]
  refine CT_ok (findAt l hl1 i 0 _ rfl) ?_
  rintro _ _ ⟨rfl, rfl⟩
  simp only [lay, wk3, onStO, bareL, toCl, chunks, wk, iaddrV_map, emb, unAgg, ares, aresL, ares1, tupled, forall_const, Nat.reduceAdd, Nat.reduceSub, Nat.reduceMul, Nat.reduceLeDiff, Nat.reduceEqDiff, Nat.reduceBEq, Int.reduceLE, Int.reduceLT, Int.reduceEq, Int.reduceNe, Int.reduceAdd, Int.reduceSub, Int.reduceToNat, Int.reduceNeg, ↓reduceIte, reduceCtorEq, cellsOf, cellA, lay, fillA]
  rcases find_of (l := l) (i := i) with ⟨e, _⟩ | ⟨k, e, hk, _, _⟩
  · have hA : promoteA l i = (l, 2) := by unfold promoteA; rw [if_pos (by omega)]
    simp only [e, hA, lay, wk3, onStO, bareL, toCl, chunks, wk, iaddrV_map, emb, unAgg, ares, aresL, ares1, tupled, forall_const, Nat.reduceAdd, Nat.reduceSub, Nat.reduceMul, Nat.reduceLeDiff, Nat.reduceEqDiff, Nat.reduceBEq, Int.reduceLE, Int.reduceLT, Int.reduceEq, Int.reduceNe, Int.reduceAdd, Int.reduceSub, Int.reduceToNat, Int.reduceNeg, ↓reduceIte, reduceCtorEq, cellsOf, cellA, lay, fillA]
    exact KWk_sets 0 l 2 _ rfl rfl ⟨rfl, rfl⟩
  have hc := cell_at hk
  have h0 : (0 : Int) ≤ k := by omega
  have h1 : (k : Int) < l.length := by omega
  have h2 : ¬ (k : Int) < 0 := by omega
  by_cases g1 : (l.getD k default).kind = 1
  case neg =>
    have hA : promoteA l i = (l, 1) := by unfold promoteA; rw [if_neg (by omega)]; simp only [e, Int.toNat_natCast]; rw [if_pos (.inl g1)]
    simp only [e, h0, h1, h2, hc, g1, cellD, aset, lay, wk3, onStO, bareL, toCl, chunks, wk, iaddrV_map, emb, unAgg, ares, aresL, ares1, tupled, forall_const, Nat.reduceAdd, Nat.reduceSub, Nat.reduceMul, Nat.reduceLeDiff, Nat.reduceEqDiff, Nat.reduceBEq, Int.reduceLE, Int.reduceLT, Int.reduceEq, Int.reduceNe, Int.reduceAdd, Int.reduceSub, Int.reduceToNat, Int.reduceNeg, ↓reduceIte, reduceCtorEq, cellsOf, cellA, lay, fillA]
    exact KWk_sets 0 l 1 _ rfl rfl ⟨by rw [hA]; rfl, rfl⟩
  by_cases g2 : (l.getD k default).origin = 0
  · have hA : promoteA l i = (l, 1) := by unfold promoteA; rw [if_neg (by omega)]; simp only [e, Int.toNat_natCast]; rw [if_pos (.inr g2)]
    simp only [e, h0, h1, h2, hc, g1, g2, cellD, aset, lay, wk3, onStO, bareL, toCl, chunks, wk, iaddrV_map, emb, unAgg, ares, aresL, ares1, tupled, forall_const, Nat.reduceAdd, Nat.reduceSub, Nat.reduceMul, Nat.reduceLeDiff, Nat.reduceEqDiff, Nat.reduceBEq, Int.reduceLE, Int.reduceLT, Int.reduceEq, Int.reduceNe, Int.reduceAdd, Int.reduceSub, Int.reduceToNat, Int.reduceNeg, ↓reduceIte, reduceCtorEq, cellsOf, cellA, lay, fillA]
    exact KWk_sets 0 l 1 _ rfl rfl ⟨by rw [hA]; rfl, rfl⟩
  have hB : promoteA l i = if findA l (l.getD k default).origin < 0 ∨ isA l (l.getD (findA l (l.getD k default).origin).toNat default).origin 1 = false then (l, 1) else (promoted l i k (findA l (l.getD k default).origin).toNat (findA l (l.getD (findA l (l.getD k default).origin).toNat default).origin).toNat, 0) := by
    unfold promoteA; rw [if_neg (by omega)]; simp only [e, Int.toNat_natCast]; rw [if_neg (fun h => h.elim (fun h => h g1) g2)]
  simp only [e, h0, h1, h2, hc, g1, g2, cellD, aset, lay, wk3, onStO, bareL, toCl, chunks, wk, iaddrV_map, emb, unAgg, ares, aresL, ares1, tupled, forall_const, Nat.reduceAdd, Nat.reduceSub, Nat.reduceMul, Nat.reduceLeDiff, Nat.reduceEqDiff, Nat.reduceBEq, Int.reduceLE, Int.reduceLT, Int.reduceEq, Int.reduceNe, Int.reduceAdd, Int.reduceSub, Int.reduceToNat, Int.reduceNeg, ↓reduceIte, reduceCtorEq, cellsOf, cellA, lay, fillA]
  refine CT_ok (findAt l hl1 (l.getD k default).origin 0 _ rfl) ?_
  rintro _ _ ⟨rfl, rfl⟩
  rcases find_of (l := l) (i := (l.getD k default).origin) with ⟨e', _⟩ | ⟨m, e', hm, _, _⟩
  · rw [if_pos (.inl (by omega))] at hB
    simp only [e', lay, wk3, onStO, bareL, toCl, chunks, wk, iaddrV_map, emb, unAgg, ares, aresL, ares1, tupled, forall_const, Nat.reduceAdd, Nat.reduceSub, Nat.reduceMul, Nat.reduceLeDiff, Nat.reduceEqDiff, Nat.reduceBEq, Int.reduceLE, Int.reduceLT, Int.reduceEq, Int.reduceNe, Int.reduceAdd, Int.reduceSub, Int.reduceToNat, Int.reduceNeg, ↓reduceIte, reduceCtorEq, cellsOf, cellA, lay, fillA]
    exact KWk_sets 0 l 1 _ rfl rfl ⟨by rw [hB]; rfl, rfl⟩
  rw [e', Int.toNat_natCast] at hB
  have hc' := cell_at hm
  have h0' : (0 : Int) ≤ m := by omega
  have h1' : (m : Int) < l.length := by omega
  have h2' : ¬ (m : Int) < 0 := by omega
  simp only [e', h0', h1', h2', hc', cellD, aset, lay, wk3, onStO, bareL, toCl, chunks, wk, iaddrV_map, emb, unAgg, ares, aresL, ares1, tupled, forall_const, Nat.reduceAdd, Nat.reduceSub, Nat.reduceMul, Nat.reduceLeDiff, Nat.reduceEqDiff, Nat.reduceBEq, Int.reduceLE, Int.reduceLT, Int.reduceEq, Int.reduceNe, Int.reduceAdd, Int.reduceSub, Int.reduceToNat, Int.reduceNeg, ↓reduceIte, reduceCtorEq, cellsOf, cellA, lay, fillA]
  refine CT_ok (isAt l hl1 (l.getD m default).origin 1 0 _ (by simp [AH.at, cellD, aset])) ?_
  rintro _ _ ⟨rfl, rfl⟩
  cases h3 : isA l (l.getD m default).origin 1
  · rw [if_pos (.inr h3)] at hB
    simp only [lay, wk3, onStO, bareL, toCl, chunks, wk, iaddrV_map, emb, unAgg, ares, aresL, ares1, tupled, forall_const, Nat.reduceAdd, Nat.reduceSub, Nat.reduceMul, Nat.reduceLeDiff, Nat.reduceEqDiff, Nat.reduceBEq, Int.reduceLE, Int.reduceLT, Int.reduceEq, Int.reduceNe, Int.reduceAdd, Int.reduceSub, Int.reduceToNat, Int.reduceNeg, ↓reduceIte, reduceCtorEq, cellsOf, cellA, lay, fillA]
    exact KWk_sets 0 l 1 _ rfl rfl ⟨by rw [hB]; rfl, rfl⟩
  rw [if_neg (fun h => h.elim h2' (fun h => by rw [h3] at h; cases h))] at hB
  obtain ⟨o, e2, ho⟩ : ∃ o : Nat, findA l (l.getD m default).origin = o ∧ o < l.length := by
    unfold isA at h3
    rcases find_of (l := l) (i := (l.getD m default).origin) with ⟨e2, _⟩ | ⟨o, e2, ho, _, _⟩
    · rw [e2] at h3; simp at h3
    · exact ⟨o, e2, ho⟩
  rw [e2, Int.toNat_natCast] at hB
  have hc2 := cell_at ho
  have h02 : (0 : Int) ≤ o := by omega
  have h12 : (o : Int) < l.length := by omega
  simp only [h0', h1', hc', cellD, aset, lay, wk3, onStO, bareL, toCl, chunks, wk, iaddrV_map, emb, unAgg, ares, aresL, ares1, tupled, forall_const, Nat.reduceAdd, Nat.reduceSub, Nat.reduceMul, Nat.reduceLeDiff, Nat.reduceEqDiff, Nat.reduceBEq, Int.reduceLE, Int.reduceLT, Int.reduceEq, Int.reduceNe, Int.reduceAdd, Int.reduceSub, Int.reduceToNat, Int.reduceNeg, ↓reduceIte, reduceCtorEq, cellsOf, cellA, lay, fillA]
  refine CT_ok (findAt l hl1 (l.getD m default).origin 0 _ (by simp [AH.at, cellD, aset])) ?_
  rintro _ _ ⟨rfl, rfl⟩
  simp only [e2, lay, wk3, onStO, bareL, toCl, chunks, wk, iaddrV_map, emb, unAgg, ares, aresL, ares1, tupled, forall_const, Nat.reduceAdd, Nat.reduceSub, Nat.reduceMul, Nat.reduceLeDiff, Nat.reduceEqDiff, Nat.reduceBEq, Int.reduceLE, Int.reduceLT, Int.reduceEq, Int.reduceNe, Int.reduceAdd, Int.reduceSub, Int.reduceToNat, Int.reduceNeg, ↓reduceIte, reduceCtorEq, cellsOf, cellA, lay, fillA]
  refine WT_drawE ?_
  refine WDT_more 0 ?_
  simp only [cellD, aset] at hc hc' hc2
  have hs1 := set_cellD l k (reorig (l.getD k default) (l.getD o default).origin)
  have hl1' : (l.set k (reorig (l.getD k default) (l.getD o default).origin)).length = l.length := List.length_set
  have hpr : promoted l i k m o = ((l.set k (reorig (l.getD k default) (l.getD o default).origin)).set o (reorig ((l.set k (reorig (l.getD k default) (l.getD o default).origin)).getD o default) (l.getD m default).id)).map (turnA (l.getD m default).origin (l.getD m default).id i) := rfl
  rw [hpr] at hB
  have hmid : (l.set k (reorig (l.getD k default) (l.getD o default).origin)).getD m default = l.getD m default ∨ ((l.set k (reorig (l.getD k default) (l.getD o default).origin)).getD m default).id = (l.getD m default).id := by
    rw [List.getD_eq_getElem?_getD, List.getElem?_set]
    by_cases hkm : k = m
    · subst hkm; right; rw [if_pos rfl, if_pos hk]; rfl
    · left; rw [if_neg hkm, List.getD_eq_getElem?_getD]
  simp only [cellD, aset, reorig] at hs1
  simp only [reorig] at hl1' hB hmid
  generalize hL1 : l.set k ⟨(l.getD k default).id, (l.getD k default).kind, (l.getD o default).origin, (l.getD k default).quota, (l.getD k default).files⟩ = l1 at hs1 hl1' hB hmid
  have hc3 := cell_at (l := l1) (k := o) (by omega)
  have hs2 := set_cellD l1 o (reorig (l1.getD o default) (l.getD m default).id)
  have hl2' : (l1.set o (reorig (l1.getD o default) (l.getD m default).id)).length = l1.length := List.length_set
  have hmid2 : ((l1.set o (reorig (l1.getD o default) (l.getD m default).id)).getD m default).id = (l.getD m default).id := by
    have h : (l1.getD m default).id = (l.getD m default).id := by rcases hmid with h | h; rw [h]; exact h
    rw [List.getD_eq_getElem?_getD, List.getElem?_set]
    by_cases hom : o = m
    · subst hom; rw [if_pos rfl, if_pos (by omega)]; exact h
    · rw [if_neg hom, ← List.getD_eq_getElem?_getD]; exact h
  simp only [cellD, aset, reorig] at hs2 hc3
  simp only [reorig] at hl2' hmid2
  generalize hL2 : l1.set o ⟨(l1.getD o default).id, (l1.getD o default).kind, (l.getD m default).id, (l1.getD o default).quota, (l1.getD o default).files⟩ = l2 at hs2 hl2' hB hmid2
  have hl2 : l2.length = l.length := hl2'.trans hl1'
  simp only [h0, h1, h0', h1', h02, h12, hc, hc', hc2, hs1, hc3, hs2, hl1', hl2, lay, wk3, onStO, bareL, toCl, chunks, wk, iaddrV_map, emb, unAgg, ares, aresL, ares1, tupled, forall_const, Nat.reduceAdd, Nat.reduceSub, Nat.reduceMul, Nat.reduceLeDiff, Nat.reduceEqDiff, Nat.reduceBEq, Int.reduceLE, Int.reduceLT, Int.reduceEq, Int.reduceNe, Int.reduceAdd, Int.reduceSub, Int.reduceToNat, Int.reduceNeg, ↓reduceIte, reduceCtorEq, cellsOf, cellA, lay, fillA]
  refine ⟨by omega, by rfl, ?_⟩
  have hcm := cell_at (l := l2) (k := m) (by omega)
  generalize l.getD m default = sm at *
  clear hs1 hc3 hs2 hL1 hL2 hc hc' hc2
  have hre : ([some (List.map (fun d : Dset => cellD d) l2)] : AH) = [some (l2.map cellD)] := rfl
  refine WT_loop (W_wk (fr' := [asets l, .int .i64 i, .top, .top, .emp, .int .i64 0, .own 0 5 0 l.length l.length, .own 0 5 0 l.length l.length, .int .i64 k, .int .i64 m, .int .i64 sm.origin, .int .i64 o, .top, .top] ++ List.replicate 72 .top ++ [.own 0 5 0 l.length l.length, .int .i64 l.length, .int .i64 0] ++ List.replicate 30 .top) (Wk_tops ?_) (W_loop (fun n fr H' => ∃ j : Nat, j ≤ l.length ∧ n = l.length - j ∧ H' = [some ((someA (turnA sm.origin sm.id i) l2 j).map cellD)] ∧
    fr = [asets l, .int .i64 i, .top, .top, .emp, .int .i64 0, .own 0 5 0 l.length l.length, .own 0 5 0 l.length l.length, .int .i64 k, .int .i64 m, .int .i64 sm.origin, .int .i64 o, .top, .top] ++ List.replicate 72 .top ++ [.own 0 5 0 l.length l.length, .int .i64 l.length, .int .i64 j] ++ List.replicate 30 .top) l.length ⟨0, by omega, rfl, by rw [someA_zero], rfl⟩ ?_))
  · simp only [asets, List.replicate_succ, List.replicate_zero, List.cons_append, List.nil_append, Tops_top, Tops_same, Tops_nil]
  rintro n fr H' ⟨j, hj, rfl, rfl, rfl⟩
  refine WT_ok ?_
  have hsl := someA_len (turnA sm.origin sm.id i) l2 j (by omega)
  simp only [lay, wk3, onStO, bareL, toCl, chunks, wk, iaddrV_map, emb, unAgg, ares, aresL, ares1, tupled, forall_const, Nat.reduceAdd, Nat.reduceSub, Nat.reduceMul, Nat.reduceLeDiff, Nat.reduceEqDiff, Nat.reduceBEq, Int.reduceLE, Int.reduceLT, Int.reduceEq, Int.reduceNe, Int.reduceAdd, Int.reduceSub, Int.reduceToNat, Int.reduceNeg, ↓reduceIte, reduceCtorEq, cellsOf, cellA, lay, fillA]
  refine guard_both ?_ ?_ <;> intro h <;> simp only [hy] at h
  · have hj2 : j < l.length := by omega
    have hcj := cell_at (l := someA (turnA sm.origin sm.id i) l2 j) (k := j) (by omega)
    have hcm := cell_at (l := someA (turnA sm.origin sm.id i) l2 j) (k := m) (by omega)
    have hgj : (someA (turnA sm.origin sm.id i) l2 j).getD j default = l2.getD j default := by rw [someA_getD _ _ _ _ (by omega), if_neg (by omega)]
    have hgm : ((someA (turnA sm.origin sm.id i) l2 j).getD m default).id = sm.id := by
      rw [someA_getD _ _ _ _ (by omega)]
      split
      · rw [turnA_id]; exact hmid2
      · exact hmid2
    have hsu := someA_succ (turnA sm.origin sm.id i) l2 j (by omega)
    have hsw := set_cellD (someA (turnA sm.origin sm.id i) l2 j) j (turnA sm.origin sm.id i (l2.getD j default))
    rw [hsu] at hsw
    rw [hgj] at hcj
    generalize (someA (turnA sm.origin sm.id i) l2 j).getD m default = dm at hcm hgm
    have hss := someA_len (turnA sm.origin sm.id i) l2 (j + 1) (by omega)
    have hself : ¬ ((l2.getD j default).kind = 2 ∧ (l2.getD j default).origin = sm.origin ∧ (l2.getD j default).id ≤ sm.id) → (someA (turnA sm.origin sm.id i) l2 (j + 1)).map cellD = (someA (turnA sm.origin sm.id i) l2 j).map cellD := fun hn => by
      have : turnA sm.origin sm.id i (l2.getD j default) = l2.getD j default := by unfold turnA; rw [if_neg hn]
      rw [this] at hsw
      rw [← hsw]
      have := cell_same (l := someA (turnA sm.origin sm.id i) l2 j) (k := j) (by omega)
      rwa [hgj] at this
    have hyes : ((l2.getD j default).kind = 2 ∧ (l2.getD j default).origin = sm.origin ∧ (l2.getD j default).id ≤ sm.id) → ((someA (turnA sm.origin sm.id i) l2 j).map cellD).set j [.int .i64 (l2.getD j default).id, .int .i64 (l2.getD j default).kind, .int .i64 i, .int .i64 (l2.getD j default).quota, .fz ((l2.getD j default).files.map pnode)] = (someA (turnA sm.origin sm.id i) l2 (j + 1)).map cellD := fun hy => by
      have : turnA sm.origin sm.id i (l2.getD j default) = ⟨(l2.getD j default).id, (l2.getD j default).kind, i, (l2.getD j default).quota, (l2.getD j default).files⟩ := by unfold turnA; rw [if_pos hy]
      rw [this] at hsw
      exact hsw
    generalize someA (turnA sm.origin sm.id i) l2 j = lj at *
    generalize hlj' : someA (turnA sm.origin sm.id i) l2 (j + 1) = lj' at *
    generalize l2.getD j default = dj at *
    have w2 : IntKind.i64.wrap ((j : Int) + 1) = (j : Int) + 1 := IntWalk.i64_in _ (by omega)
    have k0 : (0 : Int) ≤ j := by omega
    have k1 : (j : Int) < l.length := by omega
    have k3 : lj.length = l.length := by omega
    simp only [cellD, aset] at hcj hcm
    simp only [h, k0, k1, k3, hcj, cellD, aset, lay, wk3, onStO, bareL, toCl, chunks, wk, iaddrV_map, emb, unAgg, ares, aresL, ares1, tupled, forall_const, Nat.reduceAdd, Nat.reduceSub, Nat.reduceMul, Nat.reduceLeDiff, Nat.reduceEqDiff, Nat.reduceBEq, Int.reduceLE, Int.reduceLT, Int.reduceEq, Int.reduceNe, Int.reduceAdd, Int.reduceSub, Int.reduceToNat, Int.reduceNeg, ↓reduceIte, reduceCtorEq, cellsOf, cellA, lay, fillA]
    refine WT_draw ?_
    by_cases q1 : dj.kind = 2
    · by_cases q2 : dj.origin = sm.origin
      · by_cases q3 : dj.id ≤ sm.id
        · have hn := hyes ⟨q1, q2, q3⟩
          rw [q1] at hn
          simp only [h, h0', h1', k0, k1, k3, hcj, hcm, hgm, q1, q2, q3, hn, w2, cellD, aset, lay, wk3, onStO, bareL, toCl, chunks, wk, iaddrV_map, emb, unAgg, ares, aresL, ares1, tupled, forall_const, Nat.reduceAdd, Nat.reduceSub, Nat.reduceMul, Nat.reduceLeDiff, Nat.reduceEqDiff, Nat.reduceBEq, Int.reduceLE, Int.reduceLT, Int.reduceEq, Int.reduceNe, Int.reduceAdd, Int.reduceSub, Int.reduceToNat, Int.reduceNeg, ↓reduceIte, reduceCtorEq, cellsOf, cellA, lay, fillA]
          refine QLoop_wk (n' := l.length - (j + 1)) (by omega) ⟨j + 1, by omega, rfl, by rw [hlj'], rfl⟩ (Wk_obj1 (renO_cells _ _) ?_)
          simp only [renL, ren, asets, upTo, show (0 : Nat) < 1 by omega, if_true, List.replicate_succ, List.replicate_zero, List.cons_append, List.nil_append, Tops_top, Tops_same, Tops_nil, Int.natCast_add, Int.natCast_one]
        · rw [← hself (fun h => q3 h.2.2)]
          rw [← hself (fun h => q3 h.2.2)] at hcj hcm
          simp only [h, h0', h1', k0, k1, k3, hss, hl2, hcj, hcm, hgm, q1, q2, q3, w2, cellD, aset, lay, wk3, onStO, bareL, toCl, chunks, wk, iaddrV_map, emb, unAgg, ares, aresL, ares1, tupled, forall_const, Nat.reduceAdd, Nat.reduceSub, Nat.reduceMul, Nat.reduceLeDiff, Nat.reduceEqDiff, Nat.reduceBEq, Int.reduceLE, Int.reduceLT, Int.reduceEq, Int.reduceNe, Int.reduceAdd, Int.reduceSub, Int.reduceToNat, Int.reduceNeg, ↓reduceIte, reduceCtorEq, cellsOf, cellA, lay, fillA]
          refine QLoop_wk (n' := l.length - (j + 1)) (by omega) ⟨j + 1, by omega, rfl, by rw [hlj'], rfl⟩ (Wk_obj1 (renO_cells _ _) ?_)
          simp only [renL, ren, asets, upTo, show (0 : Nat) < 1 by omega, if_true, List.replicate_succ, List.replicate_zero, List.cons_append, List.nil_append, Tops_top, Tops_same, Tops_nil, Int.natCast_add, Int.natCast_one]
      · rw [← hself (fun h => q2 h.2.1)]
        simp only [h, q1, q2, w2, cellD, aset, lay, wk3, onStO, bareL, toCl, chunks, wk, iaddrV_map, emb, unAgg, ares, aresL, ares1, tupled, forall_const, Nat.reduceAdd, Nat.reduceSub, Nat.reduceMul, Nat.reduceLeDiff, Nat.reduceEqDiff, Nat.reduceBEq, Int.reduceLE, Int.reduceLT, Int.reduceEq, Int.reduceNe, Int.reduceAdd, Int.reduceSub, Int.reduceToNat, Int.reduceNeg, ↓reduceIte, reduceCtorEq, cellsOf, cellA, lay, fillA]
        refine QLoop_wk (n' := l.length - (j + 1)) (by omega) ⟨j + 1, by omega, rfl, by rw [hlj'], rfl⟩ (Wk_obj1 (renO_cells _ _) ?_)
        simp only [renL, ren, asets, upTo, show (0 : Nat) < 1 by omega, if_true, List.replicate_succ, List.replicate_zero, List.cons_append, List.nil_append, Tops_top, Tops_same, Tops_nil, Int.natCast_add, Int.natCast_one]
    · rw [← hself (fun h => q1 h.1)]
      simp only [h, q1, w2, cellD, aset, lay, wk3, onStO, bareL, toCl, chunks, wk, iaddrV_map, emb, unAgg, ares, aresL, ares1, tupled, forall_const, Nat.reduceAdd, Nat.reduceSub, Nat.reduceMul, Nat.reduceLeDiff, Nat.reduceEqDiff, Nat.reduceBEq, Int.reduceLE, Int.reduceLT, Int.reduceEq, Int.reduceNe, Int.reduceAdd, Int.reduceSub, Int.reduceToNat, Int.reduceNeg, ↓reduceIte, reduceCtorEq, cellsOf, cellA, lay, fillA]
      refine QLoop_wk (n' := l.length - (j + 1)) (by omega) ⟨j + 1, by omega, rfl, by rw [hlj'], rfl⟩ (Wk_obj1 (renO_cells _ _) ?_)
      simp only [renL, ren, asets, upTo, show (0 : Nat) < 1 by omega, if_true, List.replicate_succ, List.replicate_zero, List.cons_append, List.nil_append, Tops_top, Tops_same, Tops_nil, Int.natCast_add, Int.natCast_one]
  · have : j = l.length := by omega
    subst this
    rw [← hl2, someA_all, hl2]
    simp only [h, lay, wk3, onStO, bareL, toCl, chunks, wk, iaddrV_map, emb, unAgg, ares, aresL, ares1, tupled, forall_const, Nat.reduceAdd, Nat.reduceSub, Nat.reduceMul, Nat.reduceLeDiff, Nat.reduceEqDiff, Nat.reduceBEq, Int.reduceLE, Int.reduceLT, Int.reduceEq, Int.reduceNe, Int.reduceAdd, Int.reduceSub, Int.reduceToNat, Int.reduceNeg, ↓reduceIte, reduceCtorEq, cellsOf, cellA, lay, fillA]
    exact KWk_sets 0 (l2.map (turnA sm.origin sm.id i)) 0 _ (by simp; omega) rfl ⟨by rw [hB]; rfl, rfl⟩
end Go.Proofs.Ytemjlopoffjmpaa.Abs
set_option linter.unusedSimpArgs false
set_option linter.unusedVariables false
namespace Go.Proofs.Ytemjlopoffjmpaa.Abs
open Go Go.Proofs

theorem MayD.mono {l l' : List Dset} {d : Dset} (h : MayD l d) (hs : ∀ o ∈ l, ∃ o' ∈ l', o'.id = o.id ∧ o'.kind = o.kind) : MayD l' d := by
  refine ⟨h.id, h.quota, h.files, h.kinds, fun e => ?_, fun e => ?_⟩
  · obtain ⟨h1, o, ho, hi, hk⟩ := h.snap e
    obtain ⟨o', ho', hi', hk'⟩ := hs o ho
    exact ⟨h1, o', ho', by omega, by omega⟩
  · rcases h.live e with h1 | ⟨o, ho, hi, hk⟩
    · exact .inl h1
    · obtain ⟨o', ho', hi', hk'⟩ := hs o ho
      exact .inr ⟨o', ho', by omega, by omega⟩
/-- An origin is none, or there. -/
theorem MayD.origin {l : List Dset} {d : Dset} (h : MayD l d) : d.origin = 0 ∨ ∃ o ∈ l, o.id = d.origin := by
  rcases h.kinds with e | e
  · rcases h.live e with h1 | ⟨o, ho, hi, _⟩
    · exact .inl h1
    · exact .inr ⟨o, ho, hi⟩
  · obtain ⟨_, o, ho, hi, _⟩ := h.snap e
    exact .inr ⟨o, ho, hi⟩

theorem addA_may {l : List Dset} (h : MayL l) {next : Int} {x : Dset} (hf : Wf x.files) (hq : 0 ≤ x.quota ∧ x.quota ≤ 255)
    (hk : (x.kind = 1 ∧ (x.origin = 0 ∨ ∃ o ∈ l, o.id = x.origin ∧ o.kind = 2)) ∨ (x.kind = 2 ∧ x.quota = 0 ∧ ∃ o ∈ l, o.id = x.origin ∧ o.kind = 1)) : MayL (addA l next x).1 := by
  unfold addA
  split
  case isFalse => exact h
  case isTrue hok =>
    simp only [addOk, Bool.and_eq_true, Bool.or_eq_true, decide_eq_true_eq] at hok
    obtain ⟨⟨⟨h1, h2⟩, h3⟩, h4⟩ := hok
    have hlt : ∀ d ∈ l, d.id < next := fun d hd => by
      obtain ⟨n, hn, rfl⟩ := mem_dgetD hd
      rcases h4 with h4 | h4
      · omega
      · rcases Nat.lt_or_ge n (l.length - 1) with h5 | h5
        · have := h.lt h5 (by omega); omega
        · have : n = l.length - 1 := by omega
          rw [this]; exact h4
    have hox : x.origin = 0 ∨ ∃ o ∈ l, o.id = x.origin := by
      rcases hk with ⟨_, h5 | ⟨o, ho, hi, _⟩⟩ | ⟨_, _, o, ho, hi, _⟩
      · exact .inl h5
      · exact .inr ⟨o, ho, hi⟩
      · exact .inr ⟨o, ho, hi⟩
    have hne : x.origin ≠ next := by
      rcases hox with h5 | ⟨o, ho, hi⟩
      · omega
      · have := hlt o ho; omega
    have hsub : ∀ o ∈ l, ∃ o' ∈ l ++ [({ x with id := next } : Dset)], o'.id = o.id ∧ o'.kind = o.kind := fun o ho => ⟨o, by simp [ho], rfl, rfl⟩
    refine ⟨by simp; omega, ?_, fun d hd => ?_, ?_⟩
    · rw [List.pairwise_append]
      refine ⟨h.sorted, by simp, fun a ha b hb => ?_⟩
      rw [List.mem_singleton] at hb
      subst hb
      exact hlt a ha
    · rcases List.mem_append.1 hd with hd | hd
      · exact (h.each d hd).mono hsub
      · rw [List.mem_singleton] at hd
        subst hd
        refine ⟨⟨h2, h3⟩, hq, hf, ?_, fun e => ?_, fun e => ?_⟩
        · rcases hk with ⟨e, _⟩ | ⟨e, _⟩
          · exact .inl e
          · exact .inr e
        · rcases hk with ⟨e', _⟩ | ⟨_, e2, o, ho, hi, hok⟩
          · have : x.kind = 2 := e
            omega
          · exact ⟨e2, o, by simp [ho], hi, hok⟩
        · rcases hk with ⟨_, h5 | ⟨o, ho, hi, hok⟩⟩ | ⟨e', _⟩
          · exact .inl h5
          · exact .inr ⟨o, by simp [ho], hi, hok⟩
          · have : x.kind = 1 := e
            omega
    · obtain ⟨r, hr⟩ := h.tree
      refine ⟨fun i => if i = next then r x.origin + 1 else r i, fun d hd o ho e => ?_⟩
      show (if o.id = next then _ else _) < (if d.id = next then _ else _)
      rcases List.mem_append.1 hd with hd | hd
      · have hd1 := hlt d hd
        rw [if_neg (show ¬ d.id = next by omega)]
        rcases List.mem_append.1 ho with ho | ho
        · have ho1 := hlt o ho
          rw [if_neg (by omega)]
          exact hr d hd o ho e
        · rw [List.mem_singleton] at ho
          subst ho
          exfalso
          have e' : next = d.origin := e
          rcases (h.each d hd).origin with h5 | ⟨o, ho, hi⟩
          · omega
          · have := hlt o ho; omega
      · rw [List.mem_singleton] at hd
        subst hd
        rw [if_pos rfl]
        rcases List.mem_append.1 ho with ho | ho
        · have ho1 := hlt o ho
          rw [if_neg (by omega)]
          have e' : o.id = x.origin := e
          rw [e']; omega
        · rw [List.mem_singleton] at ho
          subst ho
          exfalso
          have e' : next = x.origin := e
          exact hne e'.symm
theorem addA_same {l : List Dset} {next : Int} {x : Dset} (h : (addA l next x).2 ≠ 0) : (addA l next x).1 = l := by
  unfold addA at h ⊢
  split
  · rename_i hok; rw [if_pos hok] at h; exact absurd rfl h
  · rfl
theorem createA_may {l : List Dset} (h : MayL l) (next q : Int) : MayL (createA l next q).1 := by
  unfold createA
  split
  · exact h
  · exact addA_may h newA_wf ⟨by show 0 ≤ q; omega, by show q ≤ 255; omega⟩ (.inl ⟨rfl, .inl rfl⟩)
theorem createA_same {l : List Dset} {next q : Int} (h : (createA l next q).2 ≠ 0) : (createA l next q).1 = l := by
  unfold createA at h ⊢
  split
  · rfl
  · rename_i hc; rw [if_neg hc] at h; exact addA_same h
theorem snapA_may {l : List Dset} (h : MayL l) (next i : Int) : MayL (snapA l next i).1 := by
  unfold snapA
  cases hg : getA l i with
  | none => exact h
  | some d =>
    obtain ⟨hd, hi⟩ := getA_mem hg
    have hm := h.each d hd
    simp only
    split
    · exact h
    · rename_i hk
      exact addA_may h hm.files ⟨Int.le_refl 0, by show (0 : Int) ≤ 255; omega⟩ (.inr ⟨rfl, rfl, d, hd, hi, by rcases hm.kinds with e | e; exact e; exact absurd e hk⟩)
theorem snapA_same {l : List Dset} {next i : Int} (h : (snapA l next i).2 ≠ 0) : (snapA l next i).1 = l := by
  unfold snapA at h ⊢
  cases hg : getA l i with
  | none => rfl
  | some d =>
    rw [hg] at h
    simp only at h ⊢
    split
    · rfl
    · rename_i hc; rw [if_neg hc] at h; exact addA_same h
theorem cloneA_may {l : List Dset} (h : MayL l) (next i : Int) : MayL (cloneA l next i).1 := by
  unfold cloneA
  cases hg : getA l i with
  | none => exact h
  | some d =>
    obtain ⟨hd, hi⟩ := getA_mem hg
    have hm := h.each d hd
    simp only
    split
    · rename_i hk
      exact addA_may h hm.files ⟨Int.le_refl 0, by show (0 : Int) ≤ 255; omega⟩ (.inl ⟨rfl, .inr ⟨d, hd, hi, hk⟩⟩)
    · exact h
theorem cloneA_same {l : List Dset} {next i : Int} (h : (cloneA l next i).2 ≠ 0) : (cloneA l next i).1 = l := by
  unfold cloneA at h ⊢
  cases hg : getA l i with
  | none => rfl
  | some d =>
    rw [hg] at h
    simp only at h ⊢
    split
    · rename_i hc; rw [if_pos hc] at h; exact addA_same h
    · rfl

theorem eraseIdx_mem {l : List Dset} (h : MayL l) {k : Nat} (hk : k < l.length) {d : Dset} : d ∈ l.eraseIdx k ↔ d ∈ l ∧ d.id ≠ (l.getD k default).id := by
  rw [List.mem_eraseIdx_iff_getElem]
  constructor
  · rintro ⟨j, hj, hjk, rfl⟩
    refine ⟨List.getElem_mem hj, fun e => hjk ?_⟩
    have : (l.getD j default).id = (l.getD k default).id := by
      rw [List.getD_eq_getElem?_getD, List.getElem?_eq_getElem hj]; exact e
    exact h.inj hj hk this
  · rintro ⟨hd, hne⟩
    obtain ⟨j, hj, rfl⟩ := mem_dgetD hd
    refine ⟨j, hj, fun e => hne (by rw [e]), ?_⟩
    rw [List.getD_eq_getElem?_getD, List.getElem?_eq_getElem hj]; rfl
theorem hangsA_false {l : List Dset} {i : Int} (h : ¬ hangsA l i = true) : ∀ d ∈ l, d.origin ≠ i := by
  intro d hd e
  apply h
  unfold hangsA
  obtain ⟨n, hn, rfl⟩ := mem_dgetD hd
  rcases idxA_cases (fun d => decide (d.origin = i)) l with ⟨_, h2⟩ | ⟨k, h1, _, _⟩
  · have h3 := of_decide_eq_false (h2 n hn)
    exact absurd e h3
  · rw [h1]; exact decide_eq_true (by omega)
theorem destroyA_may {l : List Dset} (h : MayL l) (i : Int) : MayL (destroyA l i).1 := by
  unfold destroyA
  split
  · exact h
  · rename_i h1
    split
    · exact h
    · rename_i h2
      rcases find_of (l := l) (i := i) with ⟨e, _⟩ | ⟨k, e, hk, hid, _⟩
      · omega
      · rw [e, Int.toNat_natCast]
        have hno := hangsA_false (fun hh => h2 (.inl hh))
        have hsub : ∀ d ∈ l.eraseIdx k, d ∈ l := fun d hd => ((eraseIdx_mem h hk).1 hd).1
        have hle := List.length_eraseIdx_le l k
        refine ⟨by have := h.len; show (l.eraseIdx k).length ≤ 8; omega, h.sorted.sublist (List.eraseIdx_sublist l k), fun d hd => ?_, ?_⟩
        · have hdl := hsub d hd
          have hm := h.each d hdl
          refine ⟨hm.id, hm.quota, hm.files, hm.kinds, fun e => ?_, fun e => ?_⟩
          · obtain ⟨h3, o, ho, hoi, hok⟩ := hm.snap e
            exact ⟨h3, o, (eraseIdx_mem h hk).2 ⟨ho, fun e2 => hno d hdl (by omega)⟩, hoi, hok⟩
          · rcases hm.live e with h3 | ⟨o, ho, hoi, hok⟩
            · exact .inl h3
            · exact .inr ⟨o, (eraseIdx_mem h hk).2 ⟨ho, fun e2 => hno d hdl (by omega)⟩, hoi, hok⟩
        · obtain ⟨r, hr⟩ := h.tree
          exact ⟨r, fun d hd o ho e => hr d (hsub d hd) o (hsub o ho) e⟩
theorem destroyA_same {l : List Dset} {i : Int} (h : (destroyA l i).2 ≠ 0) : (destroyA l i).1 = l := by
  unfold destroyA at h ⊢
  split
  · rfl
  · rename_i h1
    rw [if_neg h1] at h
    split
    · rfl
    · rename_i h2; rw [if_neg h2] at h; exact absurd rfl h

/-- Sets that are turned one by one, IDs and kinds kept. -/
theorem MayL.map {l : List Dset} (h : MayL l) (f : Dset → Dset) (hid : ∀ d ∈ l, (f d).id = d.id) (hkind : ∀ d ∈ l, (f d).kind = d.kind) (hquota : ∀ d ∈ l, (f d).quota = d.quota) (hfiles : ∀ d ∈ l, Wf (f d).files)
    (hsnap : ∀ d ∈ l, d.kind = 2 → ∃ o ∈ l, o.id = (f d).origin ∧ o.kind = 1) (hlive : ∀ d ∈ l, d.kind = 1 → (f d).origin = 0 ∨ ∃ o ∈ l, o.id = (f d).origin ∧ o.kind = 2)
    (r : Int → Nat) (hr : ∀ d ∈ l, ∀ o ∈ l, o.id = (f d).origin → r o.id < r d.id) : MayL (l.map f) := by
  have hmem : ∀ d ∈ l.map f, ∃ d0 ∈ l, f d0 = d := fun d hd => by
    obtain ⟨d0, h0, e⟩ := List.mem_map.1 hd
    exact ⟨d0, h0, e⟩
  refine ⟨by rw [List.length_map]; exact h.len, ?_, fun d hd => ?_, r, fun d hd o ho e => ?_⟩
  · rw [List.pairwise_map]
    refine h.sorted.imp_of_mem fun ha hb hab => ?_
    rw [hid _ ha, hid _ hb]; exact hab
  · obtain ⟨d0, h0, rfl⟩ := hmem d hd
    have hm := h.each d0 h0
    refine ⟨by rw [hid d0 h0]; exact hm.id, by rw [hquota d0 h0]; exact hm.quota, hfiles d0 h0, by rw [hkind d0 h0]; exact hm.kinds, fun e => ?_, fun e => ?_⟩
    · rw [hkind d0 h0] at e
      obtain ⟨o, ho, hoi, hok⟩ := hsnap d0 h0 e
      exact ⟨by rw [hquota d0 h0]; exact (hm.snap e).1, f o, List.mem_map.2 ⟨o, ho, rfl⟩, by rw [hid o ho]; exact hoi, by rw [hkind o ho]; exact hok⟩
    · rw [hkind d0 h0] at e
      rcases hlive d0 h0 e with h1 | ⟨o, ho, hoi, hok⟩
      · exact .inl h1
      · exact .inr ⟨f o, List.mem_map.2 ⟨o, ho, rfl⟩, by rw [hid o ho]; exact hoi, by rw [hkind o ho]; exact hok⟩
  · obtain ⟨d0, h0, rfl⟩ := hmem d hd
    obtain ⟨o0, h1, rfl⟩ := hmem o ho
    rw [hid d0 h0, hid o0 h1]
    rw [hid o0 h1] at e
    exact hr d0 h0 o0 h1 e
theorem set_map {l : List Dset} (h : MayL l) {k : Nat} (hk : k < l.length) (g : Dset → Dset) : l.set k (g (l.getD k default)) = l.map fun d => if d.id = (l.getD k default).id then g d else d := by
  apply List.ext_getElem?
  intro j
  rw [List.getElem?_set, List.getElem?_map]
  by_cases hjl : j < l.length
  · have hj : l[j] = l.getD j default := by rw [List.getD_eq_getElem?_getD, List.getElem?_eq_getElem hjl]; rfl
    rw [List.getElem?_eq_getElem hjl, Option.map_some, hj]
    by_cases hkj : k = j
    · subst hkj; rw [if_pos rfl, if_pos hk, if_pos rfl]
    · rw [if_neg hkj, if_neg fun e => hkj (h.inj hk hjl e.symm)]
  · rw [List.getElem?_eq_none (by omega)]
    by_cases hkj : k = j
    · omega
    · rw [if_neg hkj]; rfl
theorem backA_may {l : List Dset} (h : MayL l) (i j : Int) : MayL (backA l i j).1 := by
  unfold backA
  split
  · exact h
  · rename_i h1
    rcases find_of (l := l) (i := i) with ⟨e, _⟩ | ⟨k, e, hk, hid, _⟩
    · omega
    rcases find_of (l := l) (i := j) with ⟨e', _⟩ | ⟨m, e', hm, hid', _⟩
    · omega
    rw [e, e', Int.toNat_natCast, Int.toNat_natCast]
    simp only
    split
    · exact h
    · split
      · exact h
      · show MayL (l.set k _)
        rw [set_map h hk (fun d => { d with files := (l.getD m default).files })]
        obtain ⟨r, hr⟩ := h.tree
        have hfm := (h.each _ (dgetD_mem hm)).files
        refine h.map _ (fun d _ => by split <;> rfl) (fun d _ => by split <;> rfl) (fun d _ => by split <;> rfl) (fun d hd => ?_) (fun d hd e => ?_) (fun d hd e => ?_) r (fun d hd o ho e => ?_)
        · split
          · exact hfm
          · exact (h.each d hd).files
        · have := ((h.each d hd).snap e).2
          split <;> exact this
        · have := (h.each d hd).live e
          split <;> exact this
        · have : o.id = d.origin := by
            rw [e]; split <;> rfl
          exact hr d hd o ho this
theorem backA_same {l : List Dset} {i j : Int} (h : (backA l i j).2 ≠ 0) : (backA l i j).1 = l := by
  unfold backA at h ⊢
  split
  · rfl
  · rename_i h1
    rw [if_neg h1] at h
    simp only at h ⊢
    split
    · rfl
    · rename_i h2
      rw [if_neg h2] at h
      split
      · rfl
      · rename_i h3; rw [if_neg h3] at h; exact absurd rfl h

theorem isA_true {l : List Dset} {i k : Int} (h : isA l i k = true) : ∃ o : Nat, findA l i = o ∧ o < l.length ∧ (l.getD o default).id = i ∧ (l.getD o default).kind = k := by
  unfold isA at h
  rw [Bool.and_eq_true] at h
  have h1 := of_decide_eq_true h.1
  have h2 := of_decide_eq_true h.2
  rcases find_of (l := l) (i := i) with ⟨e, _⟩ | ⟨o, e, ho, hoi, _⟩
  · omega
  · rw [e, Int.toNat_natCast] at h2
    exact ⟨o, e, ho, hoi, h2⟩
theorem turnA_live {was sid i : Int} {x : Dset} (h : x.kind = 1) : turnA was sid i x = x := by
  unfold turnA
  rw [if_neg fun hh => by omega]
theorem turnA_re {was sid i : Int} {x : Dset} (v : Int) (h : x.kind = 1) : turnA was sid i (reorig x v) = reorig x v := turnA_live (x := reorig x v) h
/-- How each set is turned. -/
def proF (c o s x : Dset) : Dset := if x.id = c.id then reorig x o.origin else if x.id = o.id then reorig x s.id else turnA s.origin s.id c.id x
theorem promoted_map {l : List Dset} (h : MayL l) {ki ks ko : Nat} (hi : ki < l.length) (ho : ko < l.length) (hne : ki ≠ ko) (hc1 : (l.getD ki default).kind = 1) (ho1 : (l.getD ko default).kind = 1) :
    promoted l (l.getD ki default).id ki ks ko = l.map (proF (l.getD ki default) (l.getD ko default) (l.getD ks default)) := by
  unfold promoted
  apply List.ext_getElem?
  intro j
  simp only [List.getElem?_map, List.getElem?_set, List.length_set]
  by_cases hjl : j < l.length
  · have hj : l[j] = l.getD j default := by rw [List.getD_eq_getElem?_getD, List.getElem?_eq_getElem hjl]; rfl
    rw [List.getElem?_eq_getElem hjl, Option.map_some, hj]
    unfold proF
    by_cases h1 : ko = j
    · subst h1
      have e1 : (l.set ki (reorig (l.getD ki default) (l.getD ko default).origin)).getD ko default = l.getD ko default := by
        rw [List.getD_eq_getElem?_getD, List.getElem?_set_ne hne, ← List.getD_eq_getElem?_getD]
      rw [if_pos rfl, if_pos ho, e1, if_neg fun e => hne (h.inj hi ho e.symm), if_pos rfl, Option.map_some, turnA_re _ ho1]
    · rw [if_neg h1]
      by_cases h2 : ki = j
      · subst h2
        rw [if_pos rfl, if_pos hi, if_pos rfl, Option.map_some, turnA_re _ hc1]
      · rw [if_neg h2, if_neg fun e => h2 (h.inj hi hjl e.symm), if_neg fun e => h1 (h.inj ho hjl e.symm)]
        rfl
  · rw [List.getElem?_eq_none (by omega)]
    by_cases h1 : ko = j
    · omega
    · by_cases h2 : ki = j
      · omega
      · rw [if_neg h1, if_neg h2]; rfl

theorem proF_may {l : List Dset} (h : MayL l) {c o s : Dset} (hc : c ∈ l) (ho : o ∈ l) (hs : s ∈ l) (hck : c.kind = 1) (hok : o.kind = 1) (hsk : s.kind = 2) (hcs : c.origin = s.id) (hso : s.origin = o.id) : MayL (l.map (proF c o s)) := by
  obtain ⟨r, hr⟩ := h.tree
  have r1 : r o.id < r s.id := hr s hs o ho hso.symm
  have r2 : r s.id < r c.id := hr c hc s hs hcs.symm
  have tsplit : ∀ d : Dset, (d.kind = 2 ∧ d.origin = s.origin ∧ d.id ≤ s.id ∧ turnA s.origin s.id c.id d = ⟨d.id, d.kind, c.id, d.quota, d.files⟩) ∨ (¬ (d.kind = 2 ∧ d.origin = s.origin ∧ d.id ≤ s.id) ∧ turnA s.origin s.id c.id d = d) := fun d => by
    unfold turnA
    by_cases hh : d.kind = 2 ∧ d.origin = s.origin ∧ d.id ≤ s.id
    · left; rw [if_pos hh]; exact ⟨hh.1, hh.2.1, hh.2.2, rfl⟩
    · right; rw [if_neg hh]; exact ⟨hh, rfl⟩
  have hF : ∀ d ∈ l, (proF c o s d).id = d.id ∧ (proF c o s d).kind = d.kind ∧ (proF c o s d).quota = d.quota ∧ (proF c o s d).files = d.files := fun d hd => by
    unfold proF
    split
    · exact ⟨rfl, rfl, rfl, rfl⟩
    · split
      · exact ⟨rfl, rfl, rfl, rfl⟩
      · rcases tsplit d with ⟨_, _, _, e⟩ | ⟨_, e⟩ <;> rw [e] <;> exact ⟨rfl, rfl, rfl, rfl⟩
  -- what becomes of its origin
  have hO : ∀ d ∈ l, (d = c ∧ (proF c o s d).origin = o.origin) ∨ (d = o ∧ d ≠ c ∧ (proF c o s d).origin = s.id) ∨ (d ≠ c ∧ d ≠ o ∧ (d.kind = 2 ∧ d.origin = s.origin ∧ d.id ≤ s.id) ∧ (proF c o s d).origin = c.id) ∨ (d ≠ c ∧ d ≠ o ∧ ¬ (d.kind = 2 ∧ d.origin = s.origin ∧ d.id ≤ s.id) ∧ (proF c o s d).origin = d.origin) := fun d hd => by
    unfold proF
    by_cases h1 : d.id = c.id
    · left; rw [if_pos h1]; exact ⟨h.inj' hd hc h1, rfl⟩
    · have n1 : d ≠ c := fun e => h1 (by rw [e])
      rw [if_neg h1]
      by_cases h2 : d.id = o.id
      · right; left; rw [if_pos h2]; exact ⟨h.inj' hd ho h2, n1, rfl⟩
      · have n2 : d ≠ o := fun e => h2 (by rw [e])
        rw [if_neg h2]
        right; right
        rcases tsplit d with ⟨e1, e2, e3, e⟩ | ⟨e1, e⟩
        · left; rw [e]; exact ⟨n1, n2, ⟨e1, e2, e3⟩, rfl⟩
        · right; rw [e]; exact ⟨n1, n2, e1, rfl⟩
  have hsT : s.kind = 2 ∧ s.origin = s.origin ∧ s.id ≤ s.id := ⟨hsk, rfl, Int.le_refl _⟩
  have rT : ∀ d ∈ l, (d.kind = 2 ∧ d.origin = s.origin ∧ d.id ≤ s.id) → r o.id < r d.id := fun d hd e => hr d hd o ho (by rw [e.2.1, hso])
  let R : Dset → Nat := fun d => if d = c then r o.id else if (d.kind = 2 ∧ d.origin = s.origin ∧ d.id ≤ s.id) then r o.id + 1 else if d = o then r o.id + 2 else if r o.id < r d.id then r d.id + 4 else r d.id
  have hR : ∀ d ∈ l, ((getA l d.id).map R).getD 0 = R d := fun d hd => by
    rw [h.find hd]; rfl
  have hco : c ≠ o := fun e => by rw [e] at r2; omega
  have hcT : ¬ (c.kind = 2 ∧ c.origin = s.origin ∧ c.id ≤ s.id) := fun e => by omega
  have hoT : ¬ (o.kind = 2 ∧ o.origin = s.origin ∧ o.id ≤ s.id) := fun e => by omega
  refine h.map _ (fun d hd => (hF d hd).1) (fun d hd => (hF d hd).2.1) (fun d hd => (hF d hd).2.2.1) (fun d hd => by rw [(hF d hd).2.2.2]; exact (h.each d hd).files) (fun d hd e => ?_) (fun d hd e => ?_) (fun i => ((getA l i).map R).getD 0) (fun d hd p hp e => ?_)
  · rcases hO d hd with ⟨rfl, _⟩ | ⟨rfl, _, _⟩ | ⟨_, _, _, e2⟩ | ⟨_, _, _, e2⟩
    · omega
    · omega
    · exact ⟨c, hc, e2.symm, hck⟩
    · rw [e2]; exact ((h.each d hd).snap e).2
  · rcases hO d hd with ⟨rfl, e2⟩ | ⟨rfl, _, e2⟩ | ⟨_, _, e3, _⟩ | ⟨_, _, _, e2⟩
    · rw [e2]; exact (h.each o ho).live hok
    · rw [e2]; exact .inr ⟨s, hs, rfl, hsk⟩
    · omega
    · rw [e2]; exact (h.each d hd).live e
  · rw [hR d hd, hR p hp]
    have Rc : R c = r o.id := if_pos rfl
    have Ro : R o = r o.id + 2 := by show (if o = c then _ else _) = _; rw [if_neg hco.symm, if_neg hoT, if_pos rfl]
    have RT : ∀ d, d ≠ c → (d.kind = 2 ∧ d.origin = s.origin ∧ d.id ≤ s.id) → R d = r o.id + 1 := fun d h1 h2 => by show (if d = c then _ else _) = _; rw [if_neg h1, if_pos h2]
    have RE : ∀ d, d ≠ c → ¬ (d.kind = 2 ∧ d.origin = s.origin ∧ d.id ≤ s.id) → d ≠ o → R d = if r o.id < r d.id then r d.id + 4 else r d.id := fun d h1 h2 h3 => by show (if d = c then _ else _) = _; rw [if_neg h1, if_neg h2, if_neg h3]
    have hsc : s ≠ c := fun e => by rw [e] at hsk; omega
    rcases hO d hd with ⟨rfl, e2⟩ | ⟨rfl, _, e2⟩ | ⟨n1, _, e3, e2⟩ | ⟨n1, n2, n3, e2⟩
    · have hpo : p.id = o.origin := e.trans e2
      have r3 := hr o ho p hp hpo
      have hpc : p ≠ d := fun e => by rw [e] at r3; omega
      have hpo : p ≠ o := fun e => by rw [e] at r3; omega
      have hpT : ¬ (p.kind = 2 ∧ p.origin = s.origin ∧ p.id ≤ s.id) := fun e => by have := rT p hp e; omega
      rw [Rc, RE p hpc hpT hpo, if_neg (by omega)]
      exact r3
    · have hps : p = s := h.inj' hp hs (e.trans e2)
      rw [hps, Ro, RT s hsc hsT]; omega
    · have hpc : p = c := h.inj' hp hc (e.trans e2)
      rw [hpc, Rc, RT d n1 e3]; omega
    · have r3 := hr d hd p hp (e.trans e2)
      rw [RE d n1 n3 n2]
      by_cases p1 : p = c
      · rw [p1] at r3
        rw [p1, Rc, if_pos (by omega)]; omega
      · by_cases p2 : p.kind = 2 ∧ p.origin = s.origin ∧ p.id ≤ s.id
        · have := rT p hp p2
          rw [RT p p1 p2, if_pos (by omega)]; omega
        · by_cases p3 : p = o
          · rw [p3] at r3
            rw [p3, Ro, if_pos r3]; omega
          · rw [RE p p1 p2 p3]
            by_cases p4 : r o.id < r p.id
            · rw [if_pos p4, if_pos (by omega)]; omega
            · rw [if_neg p4]; split <;> omega
theorem promoteA_may {l : List Dset} (h : MayL l) (i : Int) : MayL (promoteA l i).1 := by
  unfold promoteA
  split
  · exact h
  · rename_i h1
    rcases find_of (l := l) (i := i) with ⟨e, _⟩ | ⟨k, e, hk, hid, _⟩
    · omega
    rw [e, Int.toNat_natCast]
    simp only
    split
    · exact h
    · rename_i h2
      split
      · exact h
      · rename_i h3
        have hk1 : (l.getD k default).kind = 1 := Classical.byContradiction fun hh => h2 (.inl hh)
        rcases find_of (l := l) (i := (l.getD k default).origin) with ⟨e', _⟩ | ⟨m, e', hm, hid', _⟩
        · exact absurd (.inl (by omega)) h3
        rw [e', Int.toNat_natCast] at h3 ⊢
        have h4 : isA l (l.getD m default).origin 1 = true := by
          cases hh : isA l (l.getD m default).origin 1
          · exact absurd (.inr hh) h3
          · rfl
        obtain ⟨o, e2, ho, hoi, hok⟩ := isA_true h4
        rw [e2, Int.toNat_natCast]
        have hms : (l.getD m default).kind = 2 := by
          rcases (h.each _ (dgetD_mem hk)).live hk1 with h5 | ⟨x, hx, hxi, hxk⟩
          · exact absurd (.inr h5) h2
          · have : x = l.getD m default := h.inj' hx (dgetD_mem hm) (by omega)
            rw [← this]; exact hxk
        have hne : k ≠ o := by
          intro hko
          obtain ⟨r, hr⟩ := h.tree
          have r1 := hr _ (dgetD_mem hm) _ (dgetD_mem ho) hoi
          have r2 := hr _ (dgetD_mem hk) _ (dgetD_mem hm) hid'
          rw [← hko] at r1
          omega
        show MayL (promoted l i k m o)
        rw [← hid, promoted_map h hk ho hne hk1 hok]
        exact proF_may h (dgetD_mem hk) (dgetD_mem ho) (dgetD_mem hm) hk1 hok hms hid'.symm hoi.symm
theorem promoteA_same {l : List Dset} {i : Int} (h : (promoteA l i).2 ≠ 0) : (promoteA l i).1 = l := by
  unfold promoteA at h ⊢
  split
  · rfl
  · rename_i h1
    rw [if_neg h1] at h
    simp only at h ⊢
    split
    · rfl
    · rename_i h2
      rw [if_neg h2] at h
      split
      · rfl
      · rename_i h3; rw [if_neg h3] at h; exact absurd rfl h
end Go.Proofs.Ytemjlopoffjmpaa.Abs
/-
  The code of some functions in the abstract layer's form, each checked against the program's own. Written by gen.py.
-/
namespace Go.Proofs.Ytemjlopoffjmpaa.Abs
open Go

/-- (*strings.Builder).grow -/
def c99 : ACode :=
 (.seq (.dregE [[(0, ⟨some 5, none, .mv (.t 0)⟩),
  (1, ⟨some 6, none, .nilchk (.t 5)⟩),
  (2, ⟨some 7, none, .faddr 1 (.t 6)⟩),
  (3, ⟨some 8, none, .load false 1 (.t 7)⟩),
  (4, ⟨some 9, none, .bad⟩),
  (5, ⟨some 10, none, .bini .mul (.c (.int .i64 2)) (.t 9)⟩),
  (6, ⟨some 11, none, .mv (.t 1)⟩),
  (7, ⟨some 12, none, .bini .add (.t 10) (.t 11)⟩),
  (9, ⟨some 14, none, .mv (.t 0)⟩),
  (10, ⟨some 15, none, .nilchk (.t 14)⟩),
  (11, ⟨some 16, none, .faddr 1 (.t 15)⟩),
  (12, ⟨some 17, none, .load false 1 (.t 16)⟩),
  (13, ⟨some 18, none, .len false (.t 17)⟩),
  (8, ⟨some 13, none, .call 105 [(.t 12)]⟩)],
  [(14, ⟨some 19, none, .slicel 1 (.t 13) none (some (.t 18))⟩)],
  [(15, ⟨some 4, none, .mv (.t 19)⟩)]]
  [[], [0], [0, 1], [0, 1, 2], [0, 1, 2, 3], [0, 1, 2, 3, 4], [], [0, 1, 2, 3, 4, 5, 6], [0, 1, 2, 3, 4, 5, 6, 7], [], [9], [9, 10], [9, 10, 11], [9, 10, 11, 12], [0, 1, 2, 3, 4, 5, 6, 7, 8, 9, 10, 11, 12, 13], [0, 1, 2, 3, 4, 5, 6, 7, 8, 9, 10, 11, 12, 13, 14]])
 (.seq (.reg [⟨some 20, none, .mv (.t 4)⟩,
  ⟨some 21, none, .mv (.t 0)⟩,
  ⟨some 22, none, .nilchk (.t 21)⟩,
  ⟨some 23, none, .faddr 1 (.t 22)⟩,
  ⟨some 24, none, .load false 1 (.t 23)⟩,
  ⟨some 25, none, .copy 1 (.t 20) (.t 24)⟩])
 (.reg [⟨some 26, none, .mv (.t 0)⟩,
  ⟨some 27, none, .mv (.t 4)⟩,
  ⟨some 28, none, .nilchk (.t 26)⟩,
  ⟨some 29, none, .faddr 1 (.t 28)⟩,
  ⟨none, none, .store 1 (.t 29) (.t 27)⟩])))
-- not all of it is covered: builtin cap

/-- (palimp/node.row).may -/
def c100 : ACode :=
 (.seq (.reg [⟨some 1, none, .box (.t 0)⟩,
  ⟨some 2, none, .mv (.c (.bool false))⟩])
 (.seq (.seq (.reg [⟨some 7, none, .faddr 0 (.t 1)⟩,
  ⟨some 8, none, .load false 1 (.t 7)⟩,
  ⟨some 9, none, .len false (.t 8)⟩,
  ⟨some 10, none, .bini .neq (.t 9) (.c (.int .i64 8))⟩,
  ⟨some 11, none, .mv (.t 10)⟩,
  ⟨some 12, (some (11, false)), .faddr 0 (.t 1)⟩,
  ⟨some 13, (some (11, false)), .load false 1 (.t 12)⟩,
  ⟨some 14, (some (11, false)), .iaddr 5 (.t 13) (.c (.int .i64 0))⟩,
  ⟨some 15, (some (11, false)), .load true 5 (.t 14)⟩,
  ⟨some 16, (some (11, false)), .build [.int .i64 0, .int .i64 0, .str [], .str [], .int .i64 0] [(0, 1, (.c (.int .i64 2)))]⟩,
  ⟨some 17, (some (11, false)), .eqs true [.i, .i, .s, .s, .i] (.t 15) (.t 16)⟩,
  ⟨some 18, none, .pick (.t 11) (.c (.bool true)) (.t 17)⟩])
 (.cond (.t 18)
 (.seq (.reg [⟨some 2, none, .mv (.c (.bool false))⟩])
 .ret)
 .skip))
 (.seq (.seq (.reg [⟨some 19, none, .faddr 0 (.t 1)⟩,
  ⟨some 20, none, .load false 1 (.t 19)⟩,
  ⟨some 21, none, .slicel 5 (.t 20) (some (.c (.int .i64 1))) none⟩,
  ⟨some 22, none, .len false (.t 21)⟩,
  ⟨some 23, none, .mv (.c (.int .i64 0))⟩])
 (.block 0
 (.loop
 (.seq (.reg [⟨some 24, none, .bini .lss (.t 23) (.t 22)⟩])
 (.seq (.cond (.t 24)
 .skip
 (.exit 0))
 (.seq (.block 1
 (.seq (.reg [⟨some 25, none, .iaddr 5 (.t 21) (.t 23)⟩,
  ⟨some 26, none, .load true 5 (.t 25)⟩,
  ⟨some 4, none, .alloc [.int .i64 0, .int .i64 0, .str [], .str [], .int .i64 0]⟩,
  ⟨none, none, .store 5 (.t 4) (.t 26)⟩])
 (.seq (.reg [⟨some 27, none, .load true 5 (.t 4)⟩,
  ⟨some 28, none, .build [.int .i64 0, .int .i64 0, .str [], .str [], .int .i64 0] []⟩,
  ⟨some 29, none, .eqs true [.i, .i, .s, .s, .i] (.t 27) (.t 28)⟩,
  ⟨some 30, none, .mv (.t 29)⟩,
  ⟨some 31, (some (30, true)), .load true 1 (.t 1)⟩,
  ⟨some 32, (some (30, true)), .load true 5 (.t 4)⟩,
  ⟨some 33, (some (30, true)), .call 106 [(.t 31), (.t 32)]⟩,
  ⟨some 34, (some (30, true)), .un .not (.t 33)⟩,
  ⟨some 35, none, .pick (.t 30) (.t 34) (.c (.bool false))⟩])
 (.cond (.t 35)
 (.seq (.reg [⟨some 2, none, .mv (.c (.bool false))⟩])
 .ret)
 .skip))))
 (.reg [⟨some 36, none, .bini .add (.t 23) (.c (.int .i64 1))⟩,
  ⟨some 23, none, .mv (.t 36)⟩])))))))
 (.seq (.seq (.reg [⟨some 37, none, .faddr 0 (.t 1)⟩,
  ⟨some 38, none, .load false 1 (.t 37)⟩,
  ⟨some 39, none, .len false (.t 38)⟩,
  ⟨some 40, none, .mv (.c (.int .i64 0))⟩])
 (.block 2
 (.loop
 (.seq (.reg [⟨some 41, none, .bini .lss (.t 40) (.t 39)⟩])
 (.seq (.cond (.t 41)
 .skip
 (.exit 2))
 (.seq (.block 3
 (.seq (.reg [⟨some 42, none, .mv (.t 40)⟩,
  ⟨some 43, none, .iaddr 5 (.t 38) (.t 40)⟩,
  ⟨some 44, none, .load true 5 (.t 43)⟩,
  ⟨some 6, none, .alloc [.int .i64 0, .int .i64 0, .str [], .str [], .int .i64 0]⟩,
  ⟨some 5, none, .mv (.t 42)⟩,
  ⟨none, none, .store 5 (.t 6) (.t 44)⟩])
 (.seq (.reg [⟨some 45, none, .mv (.t 5)⟩,
  ⟨some 46, none, .bini .gtr (.t 45) (.c (.int .i64 0))⟩,
  ⟨some 47, none, .mv (.t 46)⟩,
  ⟨some 48, (some (47, true)), .faddr 0 (.t 6)⟩,
  ⟨some 49, (some (47, true)), .load false 1 (.t 48)⟩,
  ⟨some 50, (some (47, true)), .bini .neq (.t 49) (.c (.int .i64 0))⟩,
  ⟨some 51, none, .pick (.t 47) (.t 50) (.c (.bool false))⟩,
  ⟨some 52, none, .mv (.t 51)⟩,
  ⟨some 53, (some (52, true)), .load true 1 (.t 1)⟩,
  ⟨some 54, (some (52, true)), .mv (.t 5)⟩,
  ⟨some 55, (some (52, true)), .call 107 [(.t 53), (.t 54)]⟩,
  ⟨some 56, (some (52, true)), .un .not (.t 55)⟩,
  ⟨some 57, (some (52, true)), .mv (.t 56)⟩,
  ⟨some 58, (some (57, false)), .load true 1 (.t 1)⟩,
  ⟨some 59, (some (57, false)), .mv (.t 5)⟩,
  ⟨some 60, (some (57, false)), .call 108 [(.t 58), (.t 59)]⟩,
  ⟨some 61, (some (52, true)), .pick (.t 57) (.c (.bool true)) (.t 60)⟩,
  ⟨some 62, none, .pick (.t 52) (.t 61) (.c (.bool false))⟩])
 (.cond (.t 62)
 (.seq (.reg [⟨some 2, none, .mv (.c (.bool false))⟩])
 .ret)
 .skip))))
 (.reg [⟨some 63, none, .bini .add (.t 40) (.c (.int .i64 1))⟩,
  ⟨some 40, none, .mv (.t 63)⟩])))))))
 (.seq (.reg [⟨some 2, none, .mv (.c (.bool true))⟩])
 .ret)))))
theorem d100 : FnD Try.prog 100 1 63 [.tmp 2] c100 := ⟨Try.f100, _, Try.func100, by kernel_rfl, rfl, rfl, by kernel_rfl, by kernel_rfl⟩

/-- math/bits.Mul -/
def c101 : ACode :=
 (.seq (.reg [⟨some 4, none, .mv (.c (.int .u64 0))⟩,
  ⟨some 5, none, .mv (.c (.int .u64 0))⟩])
 (.seq (.cond (.c (.bool false))
 (.seq (.reg [⟨some 11, none, .mv (.t 0)⟩,
  ⟨some 12, none, .convi .u32 (.t 11)⟩,
  ⟨some 13, none, .mv (.t 1)⟩,
  ⟨some 14, none, .convi .u32 (.t 13)⟩,
  ⟨some 15, none, .call 109 [(.t 12), (.t 14)]⟩,
  ⟨some 10, none, .mv (.t 15)⟩,
  ⟨some 16, none, .ext (.t 10) 0⟩,
  ⟨some 17, none, .ext (.t 10) 1⟩,
  ⟨some 6, none, .mv (.t 16)⟩,
  ⟨some 7, none, .mv (.t 17)⟩])
 (.seq (.reg [⟨some 18, none, .mv (.t 6)⟩,
  ⟨some 19, none, .convi .u64 (.t 18)⟩,
  ⟨some 20, none, .mv (.t 7)⟩,
  ⟨some 21, none, .convi .u64 (.t 20)⟩,
  ⟨some 4, none, .mv (.t 19)⟩,
  ⟨some 5, none, .mv (.t 21)⟩])
 .ret))
 .skip)
 (.seq (.reg [⟨some 23, none, .mv (.t 0)⟩,
  ⟨some 24, none, .mv (.t 1)⟩,
  ⟨some 25, none, .call 110 [(.t 23), (.t 24)]⟩,
  ⟨some 22, none, .mv (.t 25)⟩,
  ⟨some 26, none, .ext (.t 22) 0⟩,
  ⟨some 27, none, .ext (.t 22) 1⟩,
  ⟨some 8, none, .mv (.t 26)⟩,
  ⟨some 9, none, .mv (.t 27)⟩])
 (.seq (.reg [⟨some 28, none, .mv (.t 8)⟩,
  ⟨some 29, none, .mv (.t 9)⟩,
  ⟨some 4, none, .mv (.t 28)⟩,
  ⟨some 5, none, .mv (.t 29)⟩])
 .ret))))
theorem d101 : FnD Try.prog 101 2 28 [.tmp 4, .tmp 5] c101 := ⟨Try.f101, _, Try.func101, by kernel_rfl, rfl, rfl, by kernel_rfl, by kernel_rfl⟩

/-- strings.HasPrefix -/
def c102 : ACode :=
 (.seq (.reg [⟨some 4, none, .mv (.c (.bool false))⟩])
 (.seq (.reg [⟨some 5, none, .mv (.t 0)⟩,
  ⟨some 6, none, .mv (.t 1)⟩,
  ⟨some 7, none, .call 111 [(.t 5), (.t 6)]⟩,
  ⟨some 4, none, .mv (.t 7)⟩])
 .ret))
theorem d102 : FnD Try.prog 102 2 6 [.tmp 4] c102 := ⟨Try.f102, _, Try.func102, by kernel_rfl, rfl, rfl, by kernel_rfl, by kernel_rfl⟩

/-- (*strings.Builder).Len -/
def c103 : ACode :=
 (.seq (.reg [⟨some 2, none, .mv (.c (.int .i64 0))⟩])
 (.seq (.reg [⟨some 3, none, .mv (.t 0)⟩,
  ⟨some 4, none, .nilchk (.t 3)⟩,
  ⟨some 5, none, .faddr 1 (.t 4)⟩,
  ⟨some 6, none, .load false 1 (.t 5)⟩,
  ⟨some 7, none, .len false (.t 6)⟩,
  ⟨some 2, none, .mv (.t 7)⟩])
 .ret))
theorem d103 : FnD Try.prog 103 1 7 [.tmp 2] c103 := ⟨Try.f103, _, Try.func103, by kernel_rfl, rfl, rfl, by kernel_rfl, by kernel_rfl⟩

/-- (palimp/node.row).alone -/
def c106 : ACode :=
 (.seq (.reg [⟨some 2, none, .box (.t 0)⟩,
  ⟨some 3, none, .box (.t 1)⟩,
  ⟨some 4, none, .mv (.c (.bool false))⟩])
 (.seq (.block 0
 (.seq (.reg [⟨some 6, none, .faddr 4 (.t 3)⟩,
  ⟨some 7, none, .load false 1 (.t 6)⟩,
  ⟨some 8, none, .bini .neq (.t 7) (.c (.int .i64 0))⟩,
  ⟨some 9, none, .mv (.t 8)⟩,
  ⟨some 10, (some (9, false)), .faddr 2 (.t 3)⟩,
  ⟨some 11, (some (9, false)), .load false 1 (.t 10)⟩,
  ⟨some 12, (some (9, false)), .call 112 [(.t 11)]⟩,
  ⟨some 13, (some (9, false)), .un .not (.t 12)⟩,
  ⟨some 14, none, .pick (.t 9) (.c (.bool true)) (.t 13)⟩,
  ⟨some 15, none, .mv (.t 14)⟩,
  ⟨some 16, (some (15, false)), .load true 1 (.t 2)⟩,
  ⟨some 17, (some (15, false)), .faddr 1 (.t 3)⟩,
  ⟨some 18, (some (15, false)), .load false 1 (.t 17)⟩,
  ⟨some 19, (some (15, false)), .call 113 [(.t 16), (.t 18)]⟩,
  ⟨some 20, (some (15, false)), .un .not (.t 19)⟩,
  ⟨some 21, none, .pick (.t 15) (.c (.bool true)) (.t 20)⟩,
  ⟨some 5, none, .mv (.t 21)⟩])
 (.cond (.t 5)
 (.seq (.reg [⟨some 4, none, .mv (.c (.bool false))⟩])
 .ret)
 (.seq (.reg [⟨some 23, none, .faddr 0 (.t 3)⟩,
  ⟨some 24, none, .load false 1 (.t 23)⟩,
  ⟨some 25, none, .bini .eql (.t 24) (.c (.int .i64 1))⟩,
  ⟨some 22, none, .mv (.t 25)⟩])
 (.cond (.t 22)
 (.seq (.reg [⟨some 26, none, .faddr 3 (.t 3)⟩,
  ⟨some 27, none, .load false 1 (.t 26)⟩,
  ⟨some 28, none, .len true (.t 27)⟩,
  ⟨some 29, none, .bini .leq (.t 28) (.c (.int .i64 128))⟩,
  ⟨some 4, none, .mv (.t 29)⟩])
 .ret)
 .skip)))))
 (.seq (.reg [⟨some 30, none, .faddr 0 (.t 3)⟩,
  ⟨some 31, none, .load false 1 (.t 30)⟩,
  ⟨some 32, none, .bini .eql (.t 31) (.c (.int .i64 2))⟩,
  ⟨some 33, none, .mv (.t 32)⟩,
  ⟨some 34, (some (33, true)), .faddr 3 (.t 3)⟩,
  ⟨some 35, (some (33, true)), .load false 1 (.t 34)⟩,
  ⟨some 36, (some (33, true)), .bins .eql (.t 35) (.c (.str []))⟩,
  ⟨some 37, none, .pick (.t 33) (.t 36) (.c (.bool false))⟩,
  ⟨some 4, none, .mv (.t 37)⟩])
 .ret)))
theorem d106 : FnD Try.prog 106 2 36 [.tmp 4] c106 := ⟨Try.f106, _, Try.func106, by kernel_rfl, rfl, rfl, by kernel_rfl, by kernel_rfl⟩

/-- (palimp/node.row).leads -/
def c107 : ACode :=
 (.seq (.reg [⟨some 2, none, .box (.t 0)⟩,
  ⟨some 4, none, .mv (.c (.bool false))⟩])
 (.seq (.seq (.reg [⟨some 5, none, .faddr 0 (.t 2)⟩,
  ⟨some 6, none, .load false 1 (.t 5)⟩,
  ⟨some 7, none, .len false (.t 6)⟩,
  ⟨some 8, none, .mv (.c (.int .i64 0))⟩])
 (.block 0
 (.loop
 (.seq (.reg [⟨some 9, none, .bini .lss (.t 8) (.t 7)⟩])
 (.seq (.cond (.t 9)
 .skip
 (.exit 0))
 (.seq (.block 1
 (.seq (.seq (.reg [⟨some 10, none, .mv (.t 1)⟩,
  ⟨some 11, none, .bini .eql (.t 10) (.c (.int .i64 0))⟩])
 (.cond (.t 11)
 (.seq (.reg [⟨some 4, none, .mv (.c (.bool true))⟩])
 .ret)
 .skip))
 (.reg [⟨some 12, none, .faddr 0 (.t 2)⟩,
  ⟨some 13, none, .load false 1 (.t 12)⟩,
  ⟨some 14, none, .mv (.t 1)⟩,
  ⟨some 15, none, .iaddr 5 (.t 13) (.t 14)⟩,
  ⟨some 16, none, .faddr 1 (.t 15)⟩,
  ⟨some 17, none, .load false 1 (.t 16)⟩,
  ⟨some 1, none, .mv (.t 17)⟩])))
 (.reg [⟨some 18, none, .bini .add (.t 8) (.c (.int .i64 1))⟩,
  ⟨some 8, none, .mv (.t 18)⟩])))))))
 (.seq (.reg [⟨some 4, none, .mv (.c (.bool false))⟩])
 .ret)))
theorem d107 : FnD Try.prog 107 2 17 [.tmp 4] c107 := ⟨Try.f107, _, Try.func107, by kernel_rfl, rfl, rfl, by kernel_rfl, by kernel_rfl⟩

/-- (palimp/node.row).twin -/
def c108 : ACode :=
 (.seq (.reg [⟨some 2, none, .box (.t 0)⟩,
  ⟨some 4, none, .mv (.c (.bool false))⟩])
 (.seq (.seq (.reg [⟨some 7, none, .faddr 0 (.t 2)⟩,
  ⟨some 8, none, .load false 1 (.t 7)⟩,
  ⟨some 9, none, .len false (.t 8)⟩,
  ⟨some 10, none, .mv (.c (.int .i64 0))⟩])
 (.block 0
 (.loop
 (.seq (.reg [⟨some 11, none, .bini .lss (.t 10) (.t 9)⟩])
 (.seq (.cond (.t 11)
 .skip
 (.exit 0))
 (.seq (.block 1
 (.seq (.reg [⟨some 12, none, .mv (.t 10)⟩,
  ⟨some 13, none, .iaddr 5 (.t 8) (.t 10)⟩,
  ⟨some 14, none, .load true 5 (.t 13)⟩,
  ⟨some 6, none, .alloc [.int .i64 0, .int .i64 0, .str [], .str [], .int .i64 0]⟩,
  ⟨some 5, none, .mv (.t 12)⟩,
  ⟨none, none, .store 5 (.t 6) (.t 14)⟩])
 (.seq (.dreg [⟨some 15, none, .mv (.t 5)⟩,
  ⟨some 16, none, .bini .gtr (.t 15) (.c (.int .i64 0))⟩,
  ⟨some 17, none, .mv (.t 16)⟩,
  ⟨some 18, (some (17, true)), .mv (.t 5)⟩,
  ⟨some 19, (some (17, true)), .mv (.t 1)⟩,
  ⟨some 20, (some (17, true)), .bini .neq (.t 18) (.t 19)⟩,
  ⟨some 21, none, .pick (.t 17) (.t 20) (.c (.bool false))⟩,
  ⟨some 22, none, .mv (.t 21)⟩,
  ⟨some 23, (some (22, true)), .faddr 0 (.t 6)⟩,
  ⟨some 24, (some (22, true)), .load false 1 (.t 23)⟩,
  ⟨some 25, (some (22, true)), .bini .neq (.t 24) (.c (.int .i64 0))⟩,
  ⟨some 26, none, .pick (.t 22) (.t 25) (.c (.bool false))⟩,
  ⟨some 27, none, .mv (.t 26)⟩,
  ⟨some 28, (some (27, true)), .faddr 1 (.t 6)⟩,
  ⟨some 29, (some (27, true)), .load false 1 (.t 28)⟩,
  ⟨some 30, (some (27, true)), .faddr 0 (.t 2)⟩,
  ⟨some 31, (some (27, true)), .load false 1 (.t 30)⟩,
  ⟨some 32, (some (27, true)), .mv (.t 1)⟩,
  ⟨some 33, (some (27, true)), .iaddr 5 (.t 31) (.t 32)⟩,
  ⟨some 34, (some (27, true)), .faddr 1 (.t 33)⟩,
  ⟨some 35, (some (27, true)), .load false 1 (.t 34)⟩,
  ⟨some 36, (some (27, true)), .bini .eql (.t 29) (.t 35)⟩,
  ⟨some 37, none, .pick (.t 27) (.t 36) (.c (.bool false))⟩,
  ⟨some 38, none, .mv (.t 37)⟩,
  ⟨some 39, (some (38, true)), .faddr 2 (.t 6)⟩,
  ⟨some 40, (some (38, true)), .load false 1 (.t 39)⟩,
  ⟨some 41, (some (38, true)), .faddr 0 (.t 2)⟩,
  ⟨some 42, (some (38, true)), .load false 1 (.t 41)⟩,
  ⟨some 43, (some (38, true)), .mv (.t 1)⟩,
  ⟨some 44, (some (38, true)), .iaddr 5 (.t 42) (.t 43)⟩,
  ⟨some 45, (some (38, true)), .faddr 2 (.t 44)⟩,
  ⟨some 46, (some (38, true)), .load false 1 (.t 45)⟩,
  ⟨some 47, (some (38, true)), .bins .eql (.t 40) (.t 46)⟩,
  ⟨some 48, none, .pick (.t 38) (.t 47) (.c (.bool false))⟩])
 (.cond (.t 48)
 (.seq (.reg [⟨some 4, none, .mv (.c (.bool true))⟩])
 .ret)
 .skip))))
 (.reg [⟨some 49, none, .bini .add (.t 10) (.c (.int .i64 1))⟩,
  ⟨some 10, none, .mv (.t 49)⟩])))))))
 (.seq (.reg [⟨some 4, none, .mv (.c (.bool false))⟩])
 .ret)))
theorem d108 : FnD Try.prog 108 2 48 [.tmp 4] c108 := ⟨Try.f108, _, Try.func108, by kernel_rfl, rfl, rfl, by kernel_rfl, by kernel_rfl⟩

/-- math/bits.Mul32 -/
def c109 : ACode :=
 (.seq (.reg [⟨some 4, none, .mv (.c (.int .u32 0))⟩,
  ⟨some 5, none, .mv (.c (.int .u32 0))⟩])
 (.seq (.reg [⟨some 7, none, .mv (.t 0)⟩,
  ⟨some 8, none, .convi .u64 (.t 7)⟩,
  ⟨some 9, none, .mv (.t 1)⟩,
  ⟨some 10, none, .convi .u64 (.t 9)⟩,
  ⟨some 11, none, .bini .mul (.t 8) (.t 10)⟩,
  ⟨some 6, none, .mv (.t 11)⟩])
 (.seq (.reg [⟨some 12, none, .mv (.t 6)⟩,
  ⟨some 13, none, .bini .shr (.t 12) (.c (.int .u64 32))⟩,
  ⟨some 14, none, .convi .u32 (.t 13)⟩,
  ⟨some 15, none, .mv (.t 6)⟩,
  ⟨some 16, none, .convi .u32 (.t 15)⟩,
  ⟨some 4, none, .mv (.t 14)⟩,
  ⟨some 5, none, .mv (.t 16)⟩])
 .ret)))
theorem d109 : FnD Try.prog 109 2 15 [.tmp 4, .tmp 5] c109 := ⟨Try.f109, _, Try.func109, by kernel_rfl, rfl, rfl, by kernel_rfl, by kernel_rfl⟩

/-- math/bits.Mul64 -/
def c110 : ACode :=
 (.seq (.reg [⟨some 4, none, .mv (.c (.int .u64 0))⟩,
  ⟨some 5, none, .mv (.c (.int .u64 0))⟩])
 (.seq (.reg [⟨some 14, none, .mv (.t 0)⟩,
  ⟨some 15, none, .bini .and (.t 14) (.c (.int .u64 4294967295))⟩,
  ⟨some 6, none, .mv (.t 15)⟩])
 (.seq (.reg [⟨some 16, none, .mv (.t 0)⟩,
  ⟨some 17, none, .bini .shr (.t 16) (.c (.int .u64 32))⟩,
  ⟨some 7, none, .mv (.t 17)⟩])
 (.seq (.reg [⟨some 18, none, .mv (.t 1)⟩,
  ⟨some 19, none, .bini .and (.t 18) (.c (.int .u64 4294967295))⟩,
  ⟨some 8, none, .mv (.t 19)⟩])
 (.seq (.reg [⟨some 20, none, .mv (.t 1)⟩,
  ⟨some 21, none, .bini .shr (.t 20) (.c (.int .u64 32))⟩,
  ⟨some 9, none, .mv (.t 21)⟩])
 (.seq (.reg [⟨some 22, none, .mv (.t 6)⟩,
  ⟨some 23, none, .mv (.t 8)⟩,
  ⟨some 24, none, .bini .mul (.t 22) (.t 23)⟩,
  ⟨some 10, none, .mv (.t 24)⟩])
 (.seq (.reg [⟨some 25, none, .mv (.t 7)⟩,
  ⟨some 26, none, .mv (.t 8)⟩,
  ⟨some 27, none, .bini .mul (.t 25) (.t 26)⟩,
  ⟨some 28, none, .mv (.t 10)⟩,
  ⟨some 29, none, .bini .shr (.t 28) (.c (.int .u64 32))⟩,
  ⟨some 30, none, .bini .add (.t 27) (.t 29)⟩,
  ⟨some 11, none, .mv (.t 30)⟩])
 (.seq (.reg [⟨some 31, none, .mv (.t 11)⟩,
  ⟨some 32, none, .bini .and (.t 31) (.c (.int .u64 4294967295))⟩,
  ⟨some 12, none, .mv (.t 32)⟩])
 (.seq (.reg [⟨some 33, none, .mv (.t 11)⟩,
  ⟨some 34, none, .bini .shr (.t 33) (.c (.int .u64 32))⟩,
  ⟨some 13, none, .mv (.t 34)⟩])
 (.seq (.reg [⟨some 35, none, .mv (.t 12)⟩,
  ⟨some 36, none, .mv (.t 6)⟩,
  ⟨some 37, none, .mv (.t 9)⟩,
  ⟨some 38, none, .bini .mul (.t 36) (.t 37)⟩,
  ⟨some 39, none, .bini .add (.t 35) (.t 38)⟩,
  ⟨some 12, none, .mv (.t 39)⟩])
 (.seq (.reg [⟨some 40, none, .mv (.t 7)⟩,
  ⟨some 41, none, .mv (.t 9)⟩,
  ⟨some 42, none, .bini .mul (.t 40) (.t 41)⟩,
  ⟨some 43, none, .mv (.t 13)⟩,
  ⟨some 44, none, .bini .add (.t 42) (.t 43)⟩,
  ⟨some 45, none, .mv (.t 12)⟩,
  ⟨some 46, none, .bini .shr (.t 45) (.c (.int .u64 32))⟩,
  ⟨some 47, none, .bini .add (.t 44) (.t 46)⟩,
  ⟨some 4, none, .mv (.t 47)⟩])
 (.seq (.reg [⟨some 48, none, .mv (.t 0)⟩,
  ⟨some 49, none, .mv (.t 1)⟩,
  ⟨some 50, none, .bini .mul (.t 48) (.t 49)⟩,
  ⟨some 5, none, .mv (.t 50)⟩])
 .ret))))))))))))
theorem d110 : FnD Try.prog 110 2 49 [.tmp 4, .tmp 5] c110 := ⟨Try.f110, _, Try.func110, by kernel_rfl, rfl, rfl, by kernel_rfl, by kernel_rfl⟩

/-- internal/stringslite.HasPrefix -/
def c111 : ACode :=
 (.seq (.reg [⟨some 4, none, .mv (.c (.bool false))⟩])
 (.seq (.reg [⟨some 5, none, .mv (.t 0)⟩,
  ⟨some 6, none, .len true (.t 5)⟩,
  ⟨some 7, none, .mv (.t 1)⟩,
  ⟨some 8, none, .len true (.t 7)⟩,
  ⟨some 9, none, .bini .geq (.t 6) (.t 8)⟩,
  ⟨some 10, none, .mv (.t 9)⟩,
  ⟨some 11, (some (10, true)), .mv (.t 0)⟩,
  ⟨some 12, (some (10, true)), .mv (.t 1)⟩,
  ⟨some 13, (some (10, true)), .len true (.t 12)⟩,
  ⟨some 14, (some (10, true)), .slices (.t 11) none (some (.t 13))⟩,
  ⟨some 15, (some (10, true)), .mv (.t 1)⟩,
  ⟨some 16, (some (10, true)), .bins .eql (.t 14) (.t 15)⟩,
  ⟨some 17, none, .pick (.t 10) (.t 16) (.c (.bool false))⟩,
  ⟨some 4, none, .mv (.t 17)⟩])
 .ret))
theorem d111 : FnD Try.prog 111 2 16 [.tmp 4] c111 := ⟨Try.f111, _, Try.func111, by kernel_rfl, rfl, rfl, by kernel_rfl, by kernel_rfl⟩

/-- palimp/name.May -/
def c112 : ACode :=
 (.seq (.reg [⟨some 2, none, .mv (.c (.bool false))⟩])
 (.seq (.reg [⟨some 3, none, .mv (.t 0)⟩,
  ⟨some 4, none, .bins .neq (.t 3) (.c (.str []))⟩,
  ⟨some 5, none, .mv (.t 4)⟩,
  ⟨some 6, (some (5, true)), .mv (.t 0)⟩,
  ⟨some 7, (some (5, true)), .len true (.t 6)⟩,
  ⟨some 8, (some (5, true)), .bini .leq (.t 7) (.c (.int .i64 8))⟩,
  ⟨some 9, none, .pick (.t 5) (.t 8) (.c (.bool false))⟩,
  ⟨some 10, none, .mv (.t 9)⟩,
  ⟨some 11, (some (10, true)), .mv (.t 0)⟩,
  ⟨some 12, (some (10, true)), .call 114 [(.t 11)]⟩,
  ⟨some 13, none, .pick (.t 10) (.t 12) (.c (.bool false))⟩,
  ⟨some 14, none, .mv (.t 13)⟩,
  ⟨some 15, (some (14, true)), .mv (.t 0)⟩,
  ⟨some 16, (some (14, true)), .bins .neq (.t 15) (.c (.str [46]))⟩,
  ⟨some 17, none, .pick (.t 14) (.t 16) (.c (.bool false))⟩,
  ⟨some 18, none, .mv (.t 17)⟩,
  ⟨some 19, (some (18, true)), .mv (.t 0)⟩,
  ⟨some 20, (some (18, true)), .bins .neq (.t 19) (.c (.str [46, 46]))⟩,
  ⟨some 21, none, .pick (.t 18) (.t 20) (.c (.bool false))⟩,
  ⟨some 2, none, .mv (.t 21)⟩])
 .ret))
theorem d112 : FnD Try.prog 112 1 21 [.tmp 2] c112 := ⟨Try.f112, _, Try.func112, by kernel_rfl, rfl, rfl, by kernel_rfl, by kernel_rfl⟩

end Go.Proofs.Ytemjlopoffjmpaa.Abs
/-
  The code of some functions in the abstract layer's form, each checked against the program's own. Written by gen.py.
-/
namespace Go.Proofs.Ytemjlopoffjmpaa.Abs
open Go

/-- (palimp/node.row).folder -/
def c113 : ACode :=
 (.seq (.reg [⟨some 2, none, .box (.t 0)⟩,
  ⟨some 4, none, .mv (.c (.bool false))⟩])
 (.seq (.reg [⟨some 5, none, .mv (.t 1)⟩,
  ⟨some 6, none, .bini .geq (.t 5) (.c (.int .i64 0))⟩,
  ⟨some 7, none, .mv (.t 6)⟩,
  ⟨some 8, (some (7, true)), .mv (.t 1)⟩,
  ⟨some 9, (some (7, true)), .faddr 0 (.t 2)⟩,
  ⟨some 10, (some (7, true)), .load false 1 (.t 9)⟩,
  ⟨some 11, (some (7, true)), .len false (.t 10)⟩,
  ⟨some 12, (some (7, true)), .bini .lss (.t 8) (.t 11)⟩,
  ⟨some 13, none, .pick (.t 7) (.t 12) (.c (.bool false))⟩,
  ⟨some 14, none, .mv (.t 13)⟩,
  ⟨some 15, (some (14, true)), .faddr 0 (.t 2)⟩,
  ⟨some 16, (some (14, true)), .load false 1 (.t 15)⟩,
  ⟨some 17, (some (14, true)), .mv (.t 1)⟩,
  ⟨some 18, (some (14, true)), .iaddr 5 (.t 16) (.t 17)⟩,
  ⟨some 19, (some (14, true)), .faddr 0 (.t 18)⟩,
  ⟨some 20, (some (14, true)), .load false 1 (.t 19)⟩,
  ⟨some 21, (some (14, true)), .bini .eql (.t 20) (.c (.int .i64 2))⟩,
  ⟨some 22, none, .pick (.t 14) (.t 21) (.c (.bool false))⟩,
  ⟨some 4, none, .mv (.t 22)⟩])
 .ret))
theorem d113 : FnD Try.prog 113 2 21 [.tmp 4] c113 := ⟨Try.f113, _, Try.func113, by kernel_rfl, rfl, rfl, by kernel_rfl, by kernel_rfl⟩

/-- palimp/name.plain -/
def c114 : ACode :=
 (.seq (.reg [⟨some 2, none, .mv (.c (.bool false))⟩])
 (.seq (.seq (.reg [⟨some 5, none, .mv (.t 0)⟩,
  ⟨some 6, none, .convsb (.t 5)⟩,
  ⟨some 7, none, .len false (.t 6)⟩,
  ⟨some 8, none, .mv (.c (.int .i64 0))⟩])
 (.block 0
 (.loop
 (.seq (.reg [⟨some 9, none, .bini .lss (.t 8) (.t 7)⟩])
 (.seq (.cond (.t 9)
 .skip
 (.exit 0))
 (.seq (.block 1
 (.seq (.reg [⟨some 10, none, .iaddr 1 (.t 6) (.t 8)⟩,
  ⟨some 11, none, .load false 1 (.t 10)⟩,
  ⟨some 4, none, .mv (.t 11)⟩])
 (.seq (.reg [⟨some 12, none, .mv (.t 4)⟩,
  ⟨some 13, none, .call 115 [(.c (.str [97, 98, 99, 100, 101, 102, 103, 104, 105, 106, 107, 108, 109, 110, 111, 112, 113, 114, 115, 116, 117, 118, 119, 120, 121, 122, 48, 49, 50, 51, 52, 53, 54, 55, 56, 57, 46, 95, 45])), (.t 12)]⟩,
  ⟨some 14, none, .bini .lss (.t 13) (.c (.int .i64 0))⟩])
 (.cond (.t 14)
 (.seq (.reg [⟨some 2, none, .mv (.c (.bool false))⟩])
 .ret)
 .skip))))
 (.reg [⟨some 15, none, .bini .add (.t 8) (.c (.int .i64 1))⟩,
  ⟨some 8, none, .mv (.t 15)⟩])))))))
 (.seq (.reg [⟨some 2, none, .mv (.c (.bool true))⟩])
 .ret)))
theorem d114 : FnD Try.prog 114 1 15 [.tmp 2] c114 := ⟨Try.f114, _, Try.func114, by kernel_rfl, rfl, rfl, by kernel_rfl, by kernel_rfl⟩

/-- strings.IndexByte -/
def c115 : ACode :=
 (.seq (.reg [⟨some 4, none, .mv (.c (.int .i64 0))⟩])
 (.seq (.reg [⟨some 5, none, .mv (.t 0)⟩,
  ⟨some 6, none, .mv (.t 1)⟩,
  ⟨some 7, none, .call 116 [(.t 5), (.t 6)]⟩,
  ⟨some 4, none, .mv (.t 7)⟩])
 .ret))
theorem d115 : FnD Try.prog 115 2 6 [.tmp 4] c115 := ⟨Try.f115, _, Try.func115, by kernel_rfl, rfl, rfl, by kernel_rfl, by kernel_rfl⟩

/-- internal/stringslite.IndexByte -/
def c116 : ACode :=
 (.seq (.reg [⟨some 4, none, .mv (.c (.int .i64 0))⟩])
 (.seq (.reg [⟨some 5, none, .mv (.t 0)⟩,
  ⟨some 6, none, .mv (.t 1)⟩,
  ⟨some 7, none, .call 117 [(.t 5), (.t 6)]⟩,
  ⟨some 4, none, .mv (.t 7)⟩])
 .ret))
theorem d116 : FnD Try.prog 116 2 6 [.tmp 4] c116 := ⟨Try.f116, _, Try.func116, by kernel_rfl, rfl, rfl, by kernel_rfl, by kernel_rfl⟩

end Go.Proofs.Ytemjlopoffjmpaa.Abs
/-
  A table of functions, to run them by themselves. Written by gentab.py.
-/
namespace Go.Proofs.Ytemjlopoffjmpaa.Abs
open Go
def tabForms : List (Nat × FD) := [
  (62, ⟨2, 6, [.tmp 4], c62⟩),
  (82, ⟨2, 6, [.tmp 3], c82⟩),
  (81, ⟨2, 17, [.tmp 4], c81⟩),
  (63, ⟨3, 19, [.tmp 6], c63⟩),
  (59, ⟨1, 22, [.tmp 2], c59⟩),
  (40, ⟨1, 7, [.tmp 2], c40⟩),
  (41, ⟨1, 7, [.tmp 2], c41⟩),
  (60, ⟨3, 42, [.tmp 6, .tmp 7], c60⟩),
  (25, ⟨3, 21, [.tmp 6, .tmp 7], c25⟩),
  (26, ⟨3, 33, [.tmp 6, .tmp 7], c26⟩),
  (27, ⟨3, 33, [.tmp 6, .tmp 7], c27⟩),
  (28, ⟨2, 117, [.tmp 4, .tmp 5], c28⟩),
  (29, ⟨3, 69, [.tmp 6, .tmp 7], c29⟩),
  (30, ⟨2, 52, [.tmp 4, .tmp 5], c30⟩),
  (42, ⟨2, 17, [.cell 4 true 5, .tmp 5], c42⟩),
  (57, ⟨1, 28, [.tmp 2], c57⟩),
  (77, ⟨1, 71, [.tmp 2], c77⟩),
  (92, ⟨1, 5, [.tmp 2], c92⟩),
  (100, ⟨1, 63, [.tmp 2], c100⟩),
  (106, ⟨2, 36, [.tmp 4], c106⟩),
  (107, ⟨2, 17, [.tmp 4], c107⟩),
  (108, ⟨2, 48, [.tmp 4], c108⟩),
  (113, ⟨2, 21, [.tmp 4], c113⟩),
  (93, ⟨2, 24, [.tmp 4], c93⟩),
  (58, ⟨2, 6, [.tmp 4], c58⟩),
  (78, ⟨3, 29, [.tmp 6], c78⟩),
  (79, ⟨2, 36, [.tmp 4], c79⟩),
  (80, ⟨2, 6, [.tmp 4], c80⟩),
  (94, ⟨2, 24, [.tmp 4], c94⟩),
  (61, ⟨0, 7, [.tmp 0], c61⟩),
  (64, ⟨3, 17, [.tmp 4], c64⟩),
  (65, ⟨2, 7, [.tmp 4], c65⟩),
  (66, ⟨2, 6, [.tmp 3], c66⟩),
  (67, ⟨3, 30, [.tmp 6], c67⟩),
  (112, ⟨1, 21, [.tmp 2], c112⟩),
  (114, ⟨1, 15, [.tmp 2], c114⟩),
  (23, ⟨0, 89, [.tmp 0], c23⟩),
  (7, ⟨0, 291, [.tmp 0], c7⟩)]
theorem tabForms_ok : ∀ p ∈ tabForms, FnD Try.prog p.1 p.2.np p.2.nt p.2.res p.2.ac := by
  intro p hp
  simp only [tabForms, List.mem_cons, List.not_mem_nil, or_false] at hp
  rcases hp with rfl | rfl | rfl | rfl | rfl | rfl | rfl | rfl | rfl | rfl | rfl | rfl | rfl | rfl | rfl | rfl | rfl | rfl | rfl | rfl | rfl | rfl | rfl | rfl | rfl | rfl | rfl | rfl | rfl | rfl | rfl | rfl | rfl | rfl | rfl | rfl | rfl | rfl
  · exact d62
  · exact d82
  · exact d81
  · exact d63
  · exact d59
  · exact d40
  · exact d41
  · exact d60
  · exact d25
  · exact d26
  · exact d27
  · exact d28
  · exact d29
  · exact d30
  · exact d42
  · exact d57
  · exact d77
  · exact d92
  · exact d100
  · exact d106
  · exact d107
  · exact d108
  · exact d113
  · exact d93
  · exact d58
  · exact d78
  · exact d79
  · exact d80
  · exact d94
  · exact d61
  · exact d64
  · exact d65
  · exact d66
  · exact d67
  · exact d112
  · exact d114
  · exact d23
  · exact d7
end Go.Proofs.Ytemjlopoffjmpaa.Abs
/-
  The deeds of the closed statement, each run by itself. Written by forms.py.
-/
namespace Go.Proofs.Ytemjlopoffjmpaa.Abs
open Go
/-- The files of a new set. -/
def nf : PV := .fz [[.int .i64 2, .int .i64 0, .str [], .str [], .int .i64 0], [.int .i64 0, .int .i64 0, .str [], .str [], .int .i64 0], [.int .i64 0, .int .i64 0, .str [], .str [], .int .i64 0], [.int .i64 0, .int .i64 0, .str [], .str [], .int .i64 0], [.int .i64 0, .int .i64 0, .str [], .str [], .int .i64 0], [.int .i64 0, .int .i64 0, .str [], .str [], .int .i64 0], [.int .i64 0, .int .i64 0, .str [], .str [], .int .i64 0], [.int .i64 0, .int .i64 0, .str [], .str [], .int .i64 0]]
def fzF (f : Nat) : Bool := f == 61 || f == 41 || f == 25 || f == 26 || f == 27 || f == 28 || f == 29 || f == 30 || f == 42
theorem ev_ok : EvOk Try.prog (evF tabForms orcC fzF 40 40) := evF_ok tabForms_ok orcC_ok fzF 40 40
def m0 : Memo := ⟨25, [.emp, .int .i64 1, .int .i64 0], .tuple [.fz [[.int .i64 1, .int .i64 1, .int .i64 0, .int .i64 0, nf]], .int .i64 0]⟩
theorem m0_so : m0.so Try.prog := Memo.of ev_ok m0 (by kernel_rfl)
def m1 : Memo := ⟨26, [.fz [[.int .i64 1, .int .i64 1, .int .i64 0, .int .i64 0, nf]], .int .i64 2, .int .i64 1], .tuple [.fz [[.int .i64 1, .int .i64 1, .int .i64 0, .int .i64 0, nf], [.int .i64 2, .int .i64 2, .int .i64 1, .int .i64 0, nf]], .int .i64 0]⟩
theorem m1_so : m1.so Try.prog := Memo.of ev_ok m1 (by kernel_rfl)
def m2 : Memo := ⟨27, [.fz [[.int .i64 1, .int .i64 1, .int .i64 0, .int .i64 0, nf], [.int .i64 2, .int .i64 2, .int .i64 1, .int .i64 0, nf]], .int .i64 3, .int .i64 2], .tuple [.fz [[.int .i64 1, .int .i64 1, .int .i64 0, .int .i64 0, nf], [.int .i64 2, .int .i64 2, .int .i64 1, .int .i64 0, nf], [.int .i64 3, .int .i64 1, .int .i64 2, .int .i64 0, nf]], .int .i64 0]⟩
theorem m2_so : m2.so Try.prog := Memo.of ev_ok m2 (by kernel_rfl)
def m3 : Memo := ⟨28, [.fz [[.int .i64 1, .int .i64 1, .int .i64 0, .int .i64 0, nf], [.int .i64 2, .int .i64 2, .int .i64 1, .int .i64 0, nf], [.int .i64 3, .int .i64 1, .int .i64 2, .int .i64 0, nf]], .int .i64 3], .tuple [.fz [[.int .i64 1, .int .i64 1, .int .i64 2, .int .i64 0, nf], [.int .i64 2, .int .i64 2, .int .i64 3, .int .i64 0, nf], [.int .i64 3, .int .i64 1, .int .i64 0, .int .i64 0, nf]], .int .i64 0]⟩
theorem m3_so : m3.so Try.prog := Memo.of ev_ok m3 (by kernel_rfl)
def m4 : Memo := ⟨30, [.fz [[.int .i64 1, .int .i64 1, .int .i64 2, .int .i64 0, nf], [.int .i64 2, .int .i64 2, .int .i64 3, .int .i64 0, nf], [.int .i64 3, .int .i64 1, .int .i64 0, .int .i64 0, nf]], .int .i64 2], .tuple [.fz [[.int .i64 1, .int .i64 1, .int .i64 2, .int .i64 0, nf], [.int .i64 2, .int .i64 2, .int .i64 3, .int .i64 0, nf], [.int .i64 3, .int .i64 1, .int .i64 0, .int .i64 0, nf]], .int .i64 10]⟩
theorem m4_so : m4.so Try.prog := Memo.of ev_ok m4 (by kernel_rfl)
def m5 : Memo := ⟨57, [.fz [[.int .i64 1, .int .i64 1, .int .i64 2, .int .i64 0, nf], [.int .i64 2, .int .i64 2, .int .i64 3, .int .i64 0, nf], [.int .i64 3, .int .i64 1, .int .i64 0, .int .i64 0, nf]]], .bool true⟩
theorem m5_so : m5.so Try.prog := Memo.of ev_ok m5 (by kernel_rfl)
def m6 : Memo := ⟨58, [.fz [[.int .i64 1, .int .i64 1, .int .i64 2, .int .i64 0, nf], [.int .i64 2, .int .i64 2, .int .i64 3, .int .i64 0, nf], [.int .i64 3, .int .i64 1, .int .i64 0, .int .i64 0, nf]], .fz [[.int .i64 1, .int .i64 1, .int .i64 2, .int .i64 0, nf], [.int .i64 2, .int .i64 2, .int .i64 3, .int .i64 0, nf], [.int .i64 3, .int .i64 1, .int .i64 0, .int .i64 0, nf]]], .bool true⟩
theorem m6_so : m6.so Try.prog := Memo.of ev_ok m6 (by kernel_rfl)
def m7 : Memo := ⟨58, [.fz [[.int .i64 1, .int .i64 1, .int .i64 2, .int .i64 0, nf], [.int .i64 2, .int .i64 2, .int .i64 3, .int .i64 0, nf], [.int .i64 3, .int .i64 1, .int .i64 0, .int .i64 0, nf]], .fz [[.int .i64 1, .int .i64 1, .int .i64 0, .int .i64 0, nf], [.int .i64 2, .int .i64 2, .int .i64 1, .int .i64 0, nf], [.int .i64 3, .int .i64 1, .int .i64 2, .int .i64 0, nf]]], .bool false⟩
theorem m7_so : m7.so Try.prog := Memo.of ev_ok m7 (by kernel_rfl)
def memoB : List Memo := [m0, m1, m2, m3, m4, m5, m6, m7]
theorem memoB_so : ∀ m ∈ memoB, m.so Try.prog := by
  intro m hm
  simp only [memoB, List.mem_cons, List.not_mem_nil, or_false] at hm
  rcases hm with rfl | rfl | rfl | rfl | rfl | rfl | rfl | rfl
  · exact m0_so
  · exact m1_so
  · exact m2_so
  · exact m3_so
  · exact m4_so
  · exact m5_so
  · exact m6_so
  · exact m7_so
def m100 : Memo := ⟨23, [], .bool true⟩
theorem m100_so : m100.so Try.prog := Memo.of (evF_ok tabForms_ok (memo_ok orcC_ok memoB_so) fzF 40 40) m100 (by kernel_rfl)
end Go.Proofs.Ytemjlopoffjmpaa.Abs
set_option linter.unusedSimpArgs false
set_option linter.unusedVariables false
namespace Go.Proofs.Ytemjlopoffjmpaa.Abs
open Go Go.Proofs

section
variable (l : List Dset) (hl : Short l) (a b : Int) (H : AH)
include hl
theorem createL : C Try.prog 25 [asets l, .int .i64 a, .int .i64 b] H (fun x H' => x = outA (createA l a b) ∧ H' = H) := C_any (create0 l hl a b) (by simp [bareL, asets_bare, bare]) (outA_bare _) H
theorem snapL : C Try.prog 26 [asets l, .int .i64 a, .int .i64 b] H (fun x H' => x = outA (snapA l a b) ∧ H' = H) := C_any (snap0 l hl a b) (by simp [bareL, asets_bare, bare]) (outA_bare _) H
theorem dcloneL : C Try.prog 27 [asets l, .int .i64 a, .int .i64 b] H (fun x H' => x = outA (cloneA l a b) ∧ H' = H) := C_any (dclone0 l hl a b) (by simp [bareL, asets_bare, bare]) (outA_bare _) H
theorem promoteL : C Try.prog 28 [asets l, .int .i64 a] H (fun x H' => x = outA (promoteA l a) ∧ H' = H) := C_any (promote0 l hl a) (by simp [bareL, asets_bare, bare]) (outA_bare _) H
theorem backL : C Try.prog 29 [asets l, .int .i64 a, .int .i64 b] H (fun x H' => x = outA (backA l a b) ∧ H' = H) := C_any (dback0 l hl a b) (by simp [bareL, asets_bare, bare]) (outA_bare _) H
theorem destroyL : C Try.prog 30 [asets l, .int .i64 a] H (fun x H' => x = outA (destroyA l a) ∧ H' = H) := C_any (destroy0 l hl a) (by simp [bareL, asets_bare, bare]) (outA_bare _) H
end
/-- The first sets. -/
def firstL : List Dset := [⟨1, 1, 0, 0, newA⟩]
theorem firstL_may : MayL firstL := by
  refine ⟨by decide, by simp [firstL], fun d hd => ?_, fun _ => 0, fun d hd o ho e => ?_⟩
  · rw [firstL, List.mem_singleton] at hd
    subst hd
    exact ⟨by decide, by decide, newA_wf, .inl rfl, fun e => absurd e (by decide), fun _ => .inl rfl⟩
  · rw [firstL, List.mem_singleton] at hd ho
    subst hd; subst ho
    exact absurd e (by decide)
set_option maxRecDepth 10000 in
set_option maxHeartbeats 2000000 in
theorem setsMay_spec (l : List UInt8) : C Try.prog 6 [.fz (l.map pbyte)] [] (fun x _ => x = .bool true) := by
  refine C_body d6 rfl (WT_ok ?_)
  unfold c6
  simp only [wk3, onStO, bareL, toCl, chunks, wk, iaddrV_map, emb, unAgg, ares, aresL, ares1, tupled, forall_const, Nat.reduceAdd, Nat.reduceSub, Nat.reduceMul, Nat.reduceLeDiff, Nat.reduceEqDiff, Nat.reduceBEq, Int.reduceLE, Int.reduceLT, Int.reduceEq, Int.reduceNe, Int.reduceAdd, Int.reduceSub, Int.reduceToNat, Int.reduceNeg, ↓reduceIte, reduceCtorEq, cellsOf, cellA, lay, fillA]
  refine CT_ok (Memo.any m100_so []) ?_
  rintro _ _ ⟨rfl, rfl⟩
  simp only [m100, wk3, onStO, bareL, toCl, chunks, wk, iaddrV_map, emb, unAgg, ares, aresL, ares1, tupled, forall_const, Nat.reduceAdd, Nat.reduceSub, Nat.reduceMul, Nat.reduceLeDiff, Nat.reduceEqDiff, Nat.reduceBEq, Int.reduceLE, Int.reduceLT, Int.reduceEq, Int.reduceNe, Int.reduceAdd, Int.reduceSub, Int.reduceToNat, Int.reduceNeg, ↓reduceIte, reduceCtorEq, cellsOf, cellA, lay, fillA]
  by_cases h1 : (150 : Int) < l.length
  · simp only [h1, wk3, onStO, bareL, toCl, chunks, wk, iaddrV_map, emb, unAgg, ares, aresL, ares1, tupled, forall_const, Nat.reduceAdd, Nat.reduceSub, Nat.reduceMul, Nat.reduceLeDiff, Nat.reduceEqDiff, Nat.reduceBEq, Int.reduceLE, Int.reduceLT, Int.reduceEq, Int.reduceNe, Int.reduceAdd, Int.reduceSub, Int.reduceToNat, Int.reduceNeg, ↓reduceIte, reduceCtorEq, cellsOf, cellA, lay, fillA]
  simp only [h1, wk3, onStO, bareL, toCl, chunks, wk, iaddrV_map, emb, unAgg, ares, aresL, ares1, tupled, forall_const, Nat.reduceAdd, Nat.reduceSub, Nat.reduceMul, Nat.reduceLeDiff, Nat.reduceEqDiff, Nat.reduceBEq, Int.reduceLE, Int.reduceLT, Int.reduceEq, Int.reduceNe, Int.reduceAdd, Int.reduceSub, Int.reduceToNat, Int.reduceNeg, ↓reduceIte, reduceCtorEq, cellsOf, cellA, lay, fillA]
  refine CT_ok (made_spec l) ?_
  rintro _ _ ⟨rfl, rfl⟩
  simp only [wk3, onStO, bareL, toCl, chunks, wk, iaddrV_map, emb, unAgg, ares, aresL, ares1, tupled, forall_const, Nat.reduceAdd, Nat.reduceSub, Nat.reduceMul, Nat.reduceLeDiff, Nat.reduceEqDiff, Nat.reduceBEq, Int.reduceLE, Int.reduceLT, Int.reduceEq, Int.reduceNe, Int.reduceAdd, Int.reduceSub, Int.reduceToNat, Int.reduceNeg, ↓reduceIte, reduceCtorEq, cellsOf, cellA, lay, fillA]
  refine CT_ok (new_spec _) ?_
  rintro _ _ ⟨rfl, rfl⟩
  simp only [picksH, aset, wk3, onStO, bareL, toCl, chunks, wk, iaddrV_map, emb, unAgg, ares, aresL, ares1, tupled, forall_const, Nat.reduceAdd, Nat.reduceSub, Nat.reduceMul, Nat.reduceLeDiff, Nat.reduceEqDiff, Nat.reduceBEq, Int.reduceLE, Int.reduceLT, Int.reduceEq, Int.reduceNe, Int.reduceAdd, Int.reduceSub, Int.reduceToNat, Int.reduceNeg, ↓reduceIte, reduceCtorEq, cellsOf, cellA, lay, fillA]
  refine WT_loop (W_wk (fr' := [.fz (l.map pbyte), .top, .bool false, .ptr 0 0 0 1, asets firstL, .int .i64 (0 : Nat)] ++ List.replicate 99 .top) (Wk_froz1 (es := firstL.map pdset) ?_ ?_ ?_) (W_loop (fun n fr H' => ∃ (k : Nat) (n' : Int) (ll : List Dset), k ≤ 40 ∧ n = 40 - k ∧ 0 ≤ n' ∧ MayL ll ∧ H' = [some [[.fz (l.map pbyte), .int .i64 n']]] ∧
    fr = [.fz (l.map pbyte), .top, .bool false, .ptr 0 0 0 1, asets ll, .int .i64 k] ++ List.replicate 99 .top) 40 ⟨0, 0, firstL, by omega, rfl, by omega, firstL_may, rfl, rfl⟩ ?_))
  · simp [frzL, frz]
  · simp [renL, ren]
  · simp [frzL, frz, renL, ren, upTo, asets, firstL, pdset, Tops_top, Tops_same, Tops_nil]
  rintro n fr H' ⟨k, n', ll, hk, rfl, hn', hw, rfl, rfl⟩
  refine WT_ok ?_
  simp only [lay, wk3, onStO, bareL, toCl, chunks, wk, iaddrV_map, emb, unAgg, ares, aresL, ares1, tupled, forall_const, Nat.reduceAdd, Nat.reduceSub, Nat.reduceMul, Nat.reduceLeDiff, Nat.reduceEqDiff, Nat.reduceBEq, Int.reduceLE, Int.reduceLT, Int.reduceEq, Int.reduceNe, Int.reduceAdd, Int.reduceSub, Int.reduceToNat, Int.reduceNeg, ↓reduceIte, reduceCtorEq, cellsOf, cellA, lay, fillA]
  by_cases h2 : (k : Int) < 40
  · have w2 : IntKind.i64.wrap ((k : Int) + 1) = ((k + 1 : Nat) : Int) := by rw [IntWalk.i64_in _ (by omega)]; omega
    simp only [h2, lay, wk3, onStO, bareL, toCl, chunks, wk, iaddrV_map, emb, unAgg, ares, aresL, ares1, tupled, forall_const, Nat.reduceAdd, Nat.reduceSub, Nat.reduceMul, Nat.reduceLeDiff, Nat.reduceEqDiff, Nat.reduceBEq, Int.reduceLE, Int.reduceLT, Int.reduceEq, Int.reduceNe, Int.reduceAdd, Int.reduceSub, Int.reduceToNat, Int.reduceNeg, ↓reduceIte, reduceCtorEq, cellsOf, cellA, lay, fillA]
    refine CT_ok (over_spec (l.map pbyte) n') ?_
    rintro _ _ ⟨rfl, rfl⟩
    simp only [h2, lay, wk3, onStO, bareL, toCl, chunks, wk, iaddrV_map, emb, unAgg, ares, aresL, ares1, tupled, forall_const, Nat.reduceAdd, Nat.reduceSub, Nat.reduceMul, Nat.reduceLeDiff, Nat.reduceEqDiff, Nat.reduceBEq, Int.reduceLE, Int.reduceLT, Int.reduceEq, Int.reduceNe, Int.reduceAdd, Int.reduceSub, Int.reduceToNat, Int.reduceNeg, ↓reduceIte, reduceCtorEq, cellsOf, cellA, lay, fillA]
    by_cases h3 : (l.length : Int) ≤ n'
    · simp only [h2, h3, lay, wk3, onStO, bareL, toCl, chunks, wk, iaddrV_map, emb, unAgg, ares, aresL, ares1, tupled, forall_const, Nat.reduceAdd, Nat.reduceSub, Nat.reduceMul, Nat.reduceLeDiff, Nat.reduceEqDiff, Nat.reduceBEq, Int.reduceLE, Int.reduceLT, Int.reduceEq, Int.reduceNe, Int.reduceAdd, Int.reduceSub, Int.reduceToNat, Int.reduceNeg, ↓reduceIte, reduceCtorEq, cellsOf, cellA, lay, fillA]
    · simp only [h2, h3, lay, wk3, onStO, bareL, toCl, chunks, wk, iaddrV_map, emb, unAgg, ares, aresL, ares1, tupled, forall_const, Nat.reduceAdd, Nat.reduceSub, Nat.reduceMul, Nat.reduceLeDiff, Nat.reduceEqDiff, Nat.reduceBEq, Int.reduceLE, Int.reduceLT, Int.reduceEq, Int.reduceNe, Int.reduceAdd, Int.reduceSub, Int.reduceToNat, Int.reduceNeg, ↓reduceIte, reduceCtorEq, cellsOf, cellA, lay, fillA]
      refine CT_ok (num_at l n' 12 hn' (by omega) _) ?_
      rintro _ _ ⟨m, n1, rfl, m1, m2, _, m4, m5, rfl⟩
      simp only [lay, wk3, onStO, bareL, toCl, chunks, wk, iaddrV_map, emb, unAgg, ares, aresL, ares1, tupled, forall_const, Nat.reduceAdd, Nat.reduceSub, Nat.reduceMul, Nat.reduceLeDiff, Nat.reduceEqDiff, Nat.reduceBEq, Int.reduceLE, Int.reduceLT, Int.reduceEq, Int.reduceNe, Int.reduceAdd, Int.reduceSub, Int.reduceToNat, Int.reduceNeg, ↓reduceIte, reduceCtorEq, cellsOf, cellA, lay, fillA]
      generalize IntKind.i64.wrap (1 + m) = id
      refine CT_ok (num_at l n1 7 (by omega) (by omega) _) ?_
      rintro _ _ ⟨m', n2, rfl, q1, q2, _, q4, q5, rfl⟩
      simp only [lay, wk3, onStO, bareL, toCl, chunks, wk, iaddrV_map, emb, unAgg, ares, aresL, ares1, tupled, forall_const, Nat.reduceAdd, Nat.reduceSub, Nat.reduceMul, Nat.reduceLeDiff, Nat.reduceEqDiff, Nat.reduceBEq, Int.reduceLE, Int.reduceLT, Int.reduceEq, Int.reduceNe, Int.reduceAdd, Int.reduceSub, Int.reduceToNat, Int.reduceNeg, ↓reduceIte, reduceCtorEq, cellsOf, cellA, lay, fillA]
      by_cases c0 : m' = 0
      · simp only [c0, lay, wk3, onStO, bareL, toCl, chunks, wk, iaddrV_map, emb, unAgg, ares, aresL, ares1, tupled, forall_const, Nat.reduceAdd, Nat.reduceSub, Nat.reduceMul, Nat.reduceLeDiff, Nat.reduceEqDiff, Nat.reduceBEq, Int.reduceLE, Int.reduceLT, Int.reduceEq, Int.reduceNe, Int.reduceAdd, Int.reduceSub, Int.reduceToNat, Int.reduceNeg, ↓reduceIte, reduceCtorEq, cellsOf, cellA, lay, fillA]
        refine CT_ok (num_at l n2 300 (by omega) (by omega) _) ?_
        rintro _ _ ⟨q, n3, rfl, t1, t2, _, t4, t5, rfl⟩
        simp only [lay, wk3, onStO, bareL, toCl, chunks, wk, iaddrV_map, emb, unAgg, ares, aresL, ares1, tupled, forall_const, Nat.reduceAdd, Nat.reduceSub, Nat.reduceMul, Nat.reduceLeDiff, Nat.reduceEqDiff, Nat.reduceBEq, Int.reduceLE, Int.reduceLT, Int.reduceEq, Int.reduceNe, Int.reduceAdd, Int.reduceSub, Int.reduceToNat, Int.reduceNeg, ↓reduceIte, reduceCtorEq, cellsOf, cellA, lay, fillA]
        generalize IntKind.i64.wrap (q - 10) = quota
        generalize IntKind.i64.wrap ((k : Int) + 2) = next
        refine CT_ok (createL ll hw.short next quota _) ?_
        rintro _ _ ⟨rfl, rfl⟩
        have hr := createA_may hw next quota
        have hrs := @createA_same ll next quota
        generalize hrr : createA ll next quota = r at hr hrs
        simp only [outA, lay, wk3, onStO, bareL, toCl, chunks, wk, iaddrV_map, emb, unAgg, ares, aresL, ares1, tupled, forall_const, Nat.reduceAdd, Nat.reduceSub, Nat.reduceMul, Nat.reduceLeDiff, Nat.reduceEqDiff, Nat.reduceBEq, Int.reduceLE, Int.reduceLT, Int.reduceEq, Int.reduceNe, Int.reduceAdd, Int.reduceSub, Int.reduceToNat, Int.reduceNeg, ↓reduceIte, reduceCtorEq, cellsOf, cellA, lay, fillA]
        refine CT_ok (maysets r.1 hr _) ?_
        rintro _ _ ⟨rfl, rfl⟩
        simp only [lay, wk3, onStO, bareL, toCl, chunks, wk, iaddrV_map, emb, unAgg, ares, aresL, ares1, tupled, forall_const, Nat.reduceAdd, Nat.reduceSub, Nat.reduceMul, Nat.reduceLeDiff, Nat.reduceEqDiff, Nat.reduceBEq, Int.reduceLE, Int.reduceLT, Int.reduceEq, Int.reduceNe, Int.reduceAdd, Int.reduceSub, Int.reduceToNat, Int.reduceNeg, ↓reduceIte, reduceCtorEq, cellsOf, cellA, lay, fillA]
        by_cases he : r.2 = 0
        · simp only [he, w2, lay, wk3, onStO, bareL, toCl, chunks, wk, iaddrV_map, emb, unAgg, ares, aresL, ares1, tupled, forall_const, Nat.reduceAdd, Nat.reduceSub, Nat.reduceMul, Nat.reduceLeDiff, Nat.reduceEqDiff, Nat.reduceBEq, Int.reduceLE, Int.reduceLT, Int.reduceEq, Int.reduceNe, Int.reduceAdd, Int.reduceSub, Int.reduceToNat, Int.reduceNeg, ↓reduceIte, reduceCtorEq, cellsOf, cellA, lay, fillA]
          refine QLoop_go (n' := 40 - (k + 1)) (by omega) ⟨k + 1, n3, r.1, by omega, rfl, by omega, hr, rfl, rfl⟩ ?_
          simp only [asets, List.replicate_succ, List.replicate_zero, List.cons_append, List.nil_append, Tops_top, Tops_same, Tops_nil, Int.natCast_add, Int.natCast_one]
        · have hs : decide (r.1 = ll) = true := decide_eq_true (hrs he)
          simp only [he, lay, wk3, onStO, bareL, toCl, chunks, wk, iaddrV_map, emb, unAgg, ares, aresL, ares1, tupled, forall_const, Nat.reduceAdd, Nat.reduceSub, Nat.reduceMul, Nat.reduceLeDiff, Nat.reduceEqDiff, Nat.reduceBEq, Int.reduceLE, Int.reduceLT, Int.reduceEq, Int.reduceNe, Int.reduceAdd, Int.reduceSub, Int.reduceToNat, Int.reduceNeg, ↓reduceIte, reduceCtorEq, cellsOf, cellA, lay, fillA]
          refine CT_ok (sameS r.1 ll hr.short hw.short _) ?_
          rintro _ _ ⟨rfl, rfl⟩
          simp only [hs, w2, lay, wk3, onStO, bareL, toCl, chunks, wk, iaddrV_map, emb, unAgg, ares, aresL, ares1, tupled, forall_const, Nat.reduceAdd, Nat.reduceSub, Nat.reduceMul, Nat.reduceLeDiff, Nat.reduceEqDiff, Nat.reduceBEq, Int.reduceLE, Int.reduceLT, Int.reduceEq, Int.reduceNe, Int.reduceAdd, Int.reduceSub, Int.reduceToNat, Int.reduceNeg, ↓reduceIte, reduceCtorEq, cellsOf, cellA, lay, fillA]
          refine QLoop_go (n' := 40 - (k + 1)) (by omega) ⟨k + 1, n3, r.1, by omega, rfl, by omega, hr, rfl, rfl⟩ ?_
          simp only [asets, List.replicate_succ, List.replicate_zero, List.cons_append, List.nil_append, Tops_top, Tops_same, Tops_nil, Int.natCast_add, Int.natCast_one]

      by_cases c1 : m' = 1
      · simp only [c1, lay, wk3, onStO, bareL, toCl, chunks, wk, iaddrV_map, emb, unAgg, ares, aresL, ares1, tupled, forall_const, Nat.reduceAdd, Nat.reduceSub, Nat.reduceMul, Nat.reduceLeDiff, Nat.reduceEqDiff, Nat.reduceBEq, Int.reduceLE, Int.reduceLT, Int.reduceEq, Int.reduceNe, Int.reduceAdd, Int.reduceSub, Int.reduceToNat, Int.reduceNeg, ↓reduceIte, reduceCtorEq, cellsOf, cellA, lay, fillA]
        generalize IntKind.i64.wrap ((k : Int) + 2) = next
        refine CT_ok (snapL ll hw.short next id _) ?_
        rintro _ _ ⟨rfl, rfl⟩
        have hr := snapA_may hw next id
        have hrs := @snapA_same ll next id
        generalize hrr : snapA ll next id = r at hr hrs
        simp only [outA, lay, wk3, onStO, bareL, toCl, chunks, wk, iaddrV_map, emb, unAgg, ares, aresL, ares1, tupled, forall_const, Nat.reduceAdd, Nat.reduceSub, Nat.reduceMul, Nat.reduceLeDiff, Nat.reduceEqDiff, Nat.reduceBEq, Int.reduceLE, Int.reduceLT, Int.reduceEq, Int.reduceNe, Int.reduceAdd, Int.reduceSub, Int.reduceToNat, Int.reduceNeg, ↓reduceIte, reduceCtorEq, cellsOf, cellA, lay, fillA]
        refine CT_ok (maysets r.1 hr _) ?_
        rintro _ _ ⟨rfl, rfl⟩
        simp only [lay, wk3, onStO, bareL, toCl, chunks, wk, iaddrV_map, emb, unAgg, ares, aresL, ares1, tupled, forall_const, Nat.reduceAdd, Nat.reduceSub, Nat.reduceMul, Nat.reduceLeDiff, Nat.reduceEqDiff, Nat.reduceBEq, Int.reduceLE, Int.reduceLT, Int.reduceEq, Int.reduceNe, Int.reduceAdd, Int.reduceSub, Int.reduceToNat, Int.reduceNeg, ↓reduceIte, reduceCtorEq, cellsOf, cellA, lay, fillA]
        by_cases he : r.2 = 0
        · simp only [he, w2, lay, wk3, onStO, bareL, toCl, chunks, wk, iaddrV_map, emb, unAgg, ares, aresL, ares1, tupled, forall_const, Nat.reduceAdd, Nat.reduceSub, Nat.reduceMul, Nat.reduceLeDiff, Nat.reduceEqDiff, Nat.reduceBEq, Int.reduceLE, Int.reduceLT, Int.reduceEq, Int.reduceNe, Int.reduceAdd, Int.reduceSub, Int.reduceToNat, Int.reduceNeg, ↓reduceIte, reduceCtorEq, cellsOf, cellA, lay, fillA]
          refine QLoop_go (n' := 40 - (k + 1)) (by omega) ⟨k + 1, n2, r.1, by omega, rfl, by omega, hr, rfl, rfl⟩ ?_
          simp only [asets, List.replicate_succ, List.replicate_zero, List.cons_append, List.nil_append, Tops_top, Tops_same, Tops_nil, Int.natCast_add, Int.natCast_one]
        · have hs : decide (r.1 = ll) = true := decide_eq_true (hrs he)
          simp only [he, lay, wk3, onStO, bareL, toCl, chunks, wk, iaddrV_map, emb, unAgg, ares, aresL, ares1, tupled, forall_const, Nat.reduceAdd, Nat.reduceSub, Nat.reduceMul, Nat.reduceLeDiff, Nat.reduceEqDiff, Nat.reduceBEq, Int.reduceLE, Int.reduceLT, Int.reduceEq, Int.reduceNe, Int.reduceAdd, Int.reduceSub, Int.reduceToNat, Int.reduceNeg, ↓reduceIte, reduceCtorEq, cellsOf, cellA, lay, fillA]
          refine CT_ok (sameS r.1 ll hr.short hw.short _) ?_
          rintro _ _ ⟨rfl, rfl⟩
          simp only [hs, w2, lay, wk3, onStO, bareL, toCl, chunks, wk, iaddrV_map, emb, unAgg, ares, aresL, ares1, tupled, forall_const, Nat.reduceAdd, Nat.reduceSub, Nat.reduceMul, Nat.reduceLeDiff, Nat.reduceEqDiff, Nat.reduceBEq, Int.reduceLE, Int.reduceLT, Int.reduceEq, Int.reduceNe, Int.reduceAdd, Int.reduceSub, Int.reduceToNat, Int.reduceNeg, ↓reduceIte, reduceCtorEq, cellsOf, cellA, lay, fillA]
          refine QLoop_go (n' := 40 - (k + 1)) (by omega) ⟨k + 1, n2, r.1, by omega, rfl, by omega, hr, rfl, rfl⟩ ?_
          simp only [asets, List.replicate_succ, List.replicate_zero, List.cons_append, List.nil_append, Tops_top, Tops_same, Tops_nil, Int.natCast_add, Int.natCast_one]

      by_cases c2 : m' = 2
      · simp only [c2, lay, wk3, onStO, bareL, toCl, chunks, wk, iaddrV_map, emb, unAgg, ares, aresL, ares1, tupled, forall_const, Nat.reduceAdd, Nat.reduceSub, Nat.reduceMul, Nat.reduceLeDiff, Nat.reduceEqDiff, Nat.reduceBEq, Int.reduceLE, Int.reduceLT, Int.reduceEq, Int.reduceNe, Int.reduceAdd, Int.reduceSub, Int.reduceToNat, Int.reduceNeg, ↓reduceIte, reduceCtorEq, cellsOf, cellA, lay, fillA]
        generalize IntKind.i64.wrap ((k : Int) + 2) = next
        refine CT_ok (snapL ll hw.short next id _) ?_
        rintro _ _ ⟨rfl, rfl⟩
        have hr := snapA_may hw next id
        have hrs := @snapA_same ll next id
        generalize hrr : snapA ll next id = r at hr hrs
        simp only [outA, lay, wk3, onStO, bareL, toCl, chunks, wk, iaddrV_map, emb, unAgg, ares, aresL, ares1, tupled, forall_const, Nat.reduceAdd, Nat.reduceSub, Nat.reduceMul, Nat.reduceLeDiff, Nat.reduceEqDiff, Nat.reduceBEq, Int.reduceLE, Int.reduceLT, Int.reduceEq, Int.reduceNe, Int.reduceAdd, Int.reduceSub, Int.reduceToNat, Int.reduceNeg, ↓reduceIte, reduceCtorEq, cellsOf, cellA, lay, fillA]
        refine CT_ok (maysets r.1 hr _) ?_
        rintro _ _ ⟨rfl, rfl⟩
        simp only [lay, wk3, onStO, bareL, toCl, chunks, wk, iaddrV_map, emb, unAgg, ares, aresL, ares1, tupled, forall_const, Nat.reduceAdd, Nat.reduceSub, Nat.reduceMul, Nat.reduceLeDiff, Nat.reduceEqDiff, Nat.reduceBEq, Int.reduceLE, Int.reduceLT, Int.reduceEq, Int.reduceNe, Int.reduceAdd, Int.reduceSub, Int.reduceToNat, Int.reduceNeg, ↓reduceIte, reduceCtorEq, cellsOf, cellA, lay, fillA]
        by_cases he : r.2 = 0
        · simp only [he, w2, lay, wk3, onStO, bareL, toCl, chunks, wk, iaddrV_map, emb, unAgg, ares, aresL, ares1, tupled, forall_const, Nat.reduceAdd, Nat.reduceSub, Nat.reduceMul, Nat.reduceLeDiff, Nat.reduceEqDiff, Nat.reduceBEq, Int.reduceLE, Int.reduceLT, Int.reduceEq, Int.reduceNe, Int.reduceAdd, Int.reduceSub, Int.reduceToNat, Int.reduceNeg, ↓reduceIte, reduceCtorEq, cellsOf, cellA, lay, fillA]
          refine QLoop_go (n' := 40 - (k + 1)) (by omega) ⟨k + 1, n2, r.1, by omega, rfl, by omega, hr, rfl, rfl⟩ ?_
          simp only [asets, List.replicate_succ, List.replicate_zero, List.cons_append, List.nil_append, Tops_top, Tops_same, Tops_nil, Int.natCast_add, Int.natCast_one]
        · have hs : decide (r.1 = ll) = true := decide_eq_true (hrs he)
          simp only [he, lay, wk3, onStO, bareL, toCl, chunks, wk, iaddrV_map, emb, unAgg, ares, aresL, ares1, tupled, forall_const, Nat.reduceAdd, Nat.reduceSub, Nat.reduceMul, Nat.reduceLeDiff, Nat.reduceEqDiff, Nat.reduceBEq, Int.reduceLE, Int.reduceLT, Int.reduceEq, Int.reduceNe, Int.reduceAdd, Int.reduceSub, Int.reduceToNat, Int.reduceNeg, ↓reduceIte, reduceCtorEq, cellsOf, cellA, lay, fillA]
          refine CT_ok (sameS r.1 ll hr.short hw.short _) ?_
          rintro _ _ ⟨rfl, rfl⟩
          simp only [hs, w2, lay, wk3, onStO, bareL, toCl, chunks, wk, iaddrV_map, emb, unAgg, ares, aresL, ares1, tupled, forall_const, Nat.reduceAdd, Nat.reduceSub, Nat.reduceMul, Nat.reduceLeDiff, Nat.reduceEqDiff, Nat.reduceBEq, Int.reduceLE, Int.reduceLT, Int.reduceEq, Int.reduceNe, Int.reduceAdd, Int.reduceSub, Int.reduceToNat, Int.reduceNeg, ↓reduceIte, reduceCtorEq, cellsOf, cellA, lay, fillA]
          refine QLoop_go (n' := 40 - (k + 1)) (by omega) ⟨k + 1, n2, r.1, by omega, rfl, by omega, hr, rfl, rfl⟩ ?_
          simp only [asets, List.replicate_succ, List.replicate_zero, List.cons_append, List.nil_append, Tops_top, Tops_same, Tops_nil, Int.natCast_add, Int.natCast_one]

      by_cases c3 : m' = 3
      · simp only [c3, lay, wk3, onStO, bareL, toCl, chunks, wk, iaddrV_map, emb, unAgg, ares, aresL, ares1, tupled, forall_const, Nat.reduceAdd, Nat.reduceSub, Nat.reduceMul, Nat.reduceLeDiff, Nat.reduceEqDiff, Nat.reduceBEq, Int.reduceLE, Int.reduceLT, Int.reduceEq, Int.reduceNe, Int.reduceAdd, Int.reduceSub, Int.reduceToNat, Int.reduceNeg, ↓reduceIte, reduceCtorEq, cellsOf, cellA, lay, fillA]
        generalize IntKind.i64.wrap ((k : Int) + 2) = next
        refine CT_ok (dcloneL ll hw.short next id _) ?_
        rintro _ _ ⟨rfl, rfl⟩
        have hr := cloneA_may hw next id
        have hrs := @cloneA_same ll next id
        generalize hrr : cloneA ll next id = r at hr hrs
        simp only [outA, lay, wk3, onStO, bareL, toCl, chunks, wk, iaddrV_map, emb, unAgg, ares, aresL, ares1, tupled, forall_const, Nat.reduceAdd, Nat.reduceSub, Nat.reduceMul, Nat.reduceLeDiff, Nat.reduceEqDiff, Nat.reduceBEq, Int.reduceLE, Int.reduceLT, Int.reduceEq, Int.reduceNe, Int.reduceAdd, Int.reduceSub, Int.reduceToNat, Int.reduceNeg, ↓reduceIte, reduceCtorEq, cellsOf, cellA, lay, fillA]
        refine CT_ok (maysets r.1 hr _) ?_
        rintro _ _ ⟨rfl, rfl⟩
        simp only [lay, wk3, onStO, bareL, toCl, chunks, wk, iaddrV_map, emb, unAgg, ares, aresL, ares1, tupled, forall_const, Nat.reduceAdd, Nat.reduceSub, Nat.reduceMul, Nat.reduceLeDiff, Nat.reduceEqDiff, Nat.reduceBEq, Int.reduceLE, Int.reduceLT, Int.reduceEq, Int.reduceNe, Int.reduceAdd, Int.reduceSub, Int.reduceToNat, Int.reduceNeg, ↓reduceIte, reduceCtorEq, cellsOf, cellA, lay, fillA]
        by_cases he : r.2 = 0
        · simp only [he, w2, lay, wk3, onStO, bareL, toCl, chunks, wk, iaddrV_map, emb, unAgg, ares, aresL, ares1, tupled, forall_const, Nat.reduceAdd, Nat.reduceSub, Nat.reduceMul, Nat.reduceLeDiff, Nat.reduceEqDiff, Nat.reduceBEq, Int.reduceLE, Int.reduceLT, Int.reduceEq, Int.reduceNe, Int.reduceAdd, Int.reduceSub, Int.reduceToNat, Int.reduceNeg, ↓reduceIte, reduceCtorEq, cellsOf, cellA, lay, fillA]
          refine QLoop_go (n' := 40 - (k + 1)) (by omega) ⟨k + 1, n2, r.1, by omega, rfl, by omega, hr, rfl, rfl⟩ ?_
          simp only [asets, List.replicate_succ, List.replicate_zero, List.cons_append, List.nil_append, Tops_top, Tops_same, Tops_nil, Int.natCast_add, Int.natCast_one]
        · have hs : decide (r.1 = ll) = true := decide_eq_true (hrs he)
          simp only [he, lay, wk3, onStO, bareL, toCl, chunks, wk, iaddrV_map, emb, unAgg, ares, aresL, ares1, tupled, forall_const, Nat.reduceAdd, Nat.reduceSub, Nat.reduceMul, Nat.reduceLeDiff, Nat.reduceEqDiff, Nat.reduceBEq, Int.reduceLE, Int.reduceLT, Int.reduceEq, Int.reduceNe, Int.reduceAdd, Int.reduceSub, Int.reduceToNat, Int.reduceNeg, ↓reduceIte, reduceCtorEq, cellsOf, cellA, lay, fillA]
          refine CT_ok (sameS r.1 ll hr.short hw.short _) ?_
          rintro _ _ ⟨rfl, rfl⟩
          simp only [hs, w2, lay, wk3, onStO, bareL, toCl, chunks, wk, iaddrV_map, emb, unAgg, ares, aresL, ares1, tupled, forall_const, Nat.reduceAdd, Nat.reduceSub, Nat.reduceMul, Nat.reduceLeDiff, Nat.reduceEqDiff, Nat.reduceBEq, Int.reduceLE, Int.reduceLT, Int.reduceEq, Int.reduceNe, Int.reduceAdd, Int.reduceSub, Int.reduceToNat, Int.reduceNeg, ↓reduceIte, reduceCtorEq, cellsOf, cellA, lay, fillA]
          refine QLoop_go (n' := 40 - (k + 1)) (by omega) ⟨k + 1, n2, r.1, by omega, rfl, by omega, hr, rfl, rfl⟩ ?_
          simp only [asets, List.replicate_succ, List.replicate_zero, List.cons_append, List.nil_append, Tops_top, Tops_same, Tops_nil, Int.natCast_add, Int.natCast_one]

      by_cases c4 : m' = 4
      · simp only [c4, lay, wk3, onStO, bareL, toCl, chunks, wk, iaddrV_map, emb, unAgg, ares, aresL, ares1, tupled, forall_const, Nat.reduceAdd, Nat.reduceSub, Nat.reduceMul, Nat.reduceLeDiff, Nat.reduceEqDiff, Nat.reduceBEq, Int.reduceLE, Int.reduceLT, Int.reduceEq, Int.reduceNe, Int.reduceAdd, Int.reduceSub, Int.reduceToNat, Int.reduceNeg, ↓reduceIte, reduceCtorEq, cellsOf, cellA, lay, fillA]
        refine CT_ok (promoteL ll hw.short id _) ?_
        rintro _ _ ⟨rfl, rfl⟩
        have hr := promoteA_may hw id
        have hrs := @promoteA_same ll id
        generalize hrr : promoteA ll id = r at hr hrs
        simp only [outA, lay, wk3, onStO, bareL, toCl, chunks, wk, iaddrV_map, emb, unAgg, ares, aresL, ares1, tupled, forall_const, Nat.reduceAdd, Nat.reduceSub, Nat.reduceMul, Nat.reduceLeDiff, Nat.reduceEqDiff, Nat.reduceBEq, Int.reduceLE, Int.reduceLT, Int.reduceEq, Int.reduceNe, Int.reduceAdd, Int.reduceSub, Int.reduceToNat, Int.reduceNeg, ↓reduceIte, reduceCtorEq, cellsOf, cellA, lay, fillA]
        refine CT_ok (maysets r.1 hr _) ?_
        rintro _ _ ⟨rfl, rfl⟩
        simp only [lay, wk3, onStO, bareL, toCl, chunks, wk, iaddrV_map, emb, unAgg, ares, aresL, ares1, tupled, forall_const, Nat.reduceAdd, Nat.reduceSub, Nat.reduceMul, Nat.reduceLeDiff, Nat.reduceEqDiff, Nat.reduceBEq, Int.reduceLE, Int.reduceLT, Int.reduceEq, Int.reduceNe, Int.reduceAdd, Int.reduceSub, Int.reduceToNat, Int.reduceNeg, ↓reduceIte, reduceCtorEq, cellsOf, cellA, lay, fillA]
        by_cases he : r.2 = 0
        · simp only [he, w2, lay, wk3, onStO, bareL, toCl, chunks, wk, iaddrV_map, emb, unAgg, ares, aresL, ares1, tupled, forall_const, Nat.reduceAdd, Nat.reduceSub, Nat.reduceMul, Nat.reduceLeDiff, Nat.reduceEqDiff, Nat.reduceBEq, Int.reduceLE, Int.reduceLT, Int.reduceEq, Int.reduceNe, Int.reduceAdd, Int.reduceSub, Int.reduceToNat, Int.reduceNeg, ↓reduceIte, reduceCtorEq, cellsOf, cellA, lay, fillA]
          refine QLoop_go (n' := 40 - (k + 1)) (by omega) ⟨k + 1, n2, r.1, by omega, rfl, by omega, hr, rfl, rfl⟩ ?_
          simp only [asets, List.replicate_succ, List.replicate_zero, List.cons_append, List.nil_append, Tops_top, Tops_same, Tops_nil, Int.natCast_add, Int.natCast_one]
        · have hs : decide (r.1 = ll) = true := decide_eq_true (hrs he)
          simp only [he, lay, wk3, onStO, bareL, toCl, chunks, wk, iaddrV_map, emb, unAgg, ares, aresL, ares1, tupled, forall_const, Nat.reduceAdd, Nat.reduceSub, Nat.reduceMul, Nat.reduceLeDiff, Nat.reduceEqDiff, Nat.reduceBEq, Int.reduceLE, Int.reduceLT, Int.reduceEq, Int.reduceNe, Int.reduceAdd, Int.reduceSub, Int.reduceToNat, Int.reduceNeg, ↓reduceIte, reduceCtorEq, cellsOf, cellA, lay, fillA]
          refine CT_ok (sameS r.1 ll hr.short hw.short _) ?_
          rintro _ _ ⟨rfl, rfl⟩
          simp only [hs, w2, lay, wk3, onStO, bareL, toCl, chunks, wk, iaddrV_map, emb, unAgg, ares, aresL, ares1, tupled, forall_const, Nat.reduceAdd, Nat.reduceSub, Nat.reduceMul, Nat.reduceLeDiff, Nat.reduceEqDiff, Nat.reduceBEq, Int.reduceLE, Int.reduceLT, Int.reduceEq, Int.reduceNe, Int.reduceAdd, Int.reduceSub, Int.reduceToNat, Int.reduceNeg, ↓reduceIte, reduceCtorEq, cellsOf, cellA, lay, fillA]
          refine QLoop_go (n' := 40 - (k + 1)) (by omega) ⟨k + 1, n2, r.1, by omega, rfl, by omega, hr, rfl, rfl⟩ ?_
          simp only [asets, List.replicate_succ, List.replicate_zero, List.cons_append, List.nil_append, Tops_top, Tops_same, Tops_nil, Int.natCast_add, Int.natCast_one]

      by_cases c5 : m' = 5
      · simp only [c5, lay, wk3, onStO, bareL, toCl, chunks, wk, iaddrV_map, emb, unAgg, ares, aresL, ares1, tupled, forall_const, Nat.reduceAdd, Nat.reduceSub, Nat.reduceMul, Nat.reduceLeDiff, Nat.reduceEqDiff, Nat.reduceBEq, Int.reduceLE, Int.reduceLT, Int.reduceEq, Int.reduceNe, Int.reduceAdd, Int.reduceSub, Int.reduceToNat, Int.reduceNeg, ↓reduceIte, reduceCtorEq, cellsOf, cellA, lay, fillA]
        refine CT_ok (num_at l n2 12 (by omega) (by omega) _) ?_
        rintro _ _ ⟨q, n3, rfl, t1, t2, _, t4, t5, rfl⟩
        simp only [lay, wk3, onStO, bareL, toCl, chunks, wk, iaddrV_map, emb, unAgg, ares, aresL, ares1, tupled, forall_const, Nat.reduceAdd, Nat.reduceSub, Nat.reduceMul, Nat.reduceLeDiff, Nat.reduceEqDiff, Nat.reduceBEq, Int.reduceLE, Int.reduceLT, Int.reduceEq, Int.reduceNe, Int.reduceAdd, Int.reduceSub, Int.reduceToNat, Int.reduceNeg, ↓reduceIte, reduceCtorEq, cellsOf, cellA, lay, fillA]
        generalize IntKind.i64.wrap (1 + q) = tto
        refine CT_ok (backL ll hw.short id tto _) ?_
        rintro _ _ ⟨rfl, rfl⟩
        have hr := backA_may hw id tto
        have hrs := @backA_same ll id tto
        generalize hrr : backA ll id tto = r at hr hrs
        simp only [outA, lay, wk3, onStO, bareL, toCl, chunks, wk, iaddrV_map, emb, unAgg, ares, aresL, ares1, tupled, forall_const, Nat.reduceAdd, Nat.reduceSub, Nat.reduceMul, Nat.reduceLeDiff, Nat.reduceEqDiff, Nat.reduceBEq, Int.reduceLE, Int.reduceLT, Int.reduceEq, Int.reduceNe, Int.reduceAdd, Int.reduceSub, Int.reduceToNat, Int.reduceNeg, ↓reduceIte, reduceCtorEq, cellsOf, cellA, lay, fillA]
        refine CT_ok (maysets r.1 hr _) ?_
        rintro _ _ ⟨rfl, rfl⟩
        simp only [lay, wk3, onStO, bareL, toCl, chunks, wk, iaddrV_map, emb, unAgg, ares, aresL, ares1, tupled, forall_const, Nat.reduceAdd, Nat.reduceSub, Nat.reduceMul, Nat.reduceLeDiff, Nat.reduceEqDiff, Nat.reduceBEq, Int.reduceLE, Int.reduceLT, Int.reduceEq, Int.reduceNe, Int.reduceAdd, Int.reduceSub, Int.reduceToNat, Int.reduceNeg, ↓reduceIte, reduceCtorEq, cellsOf, cellA, lay, fillA]
        by_cases he : r.2 = 0
        · simp only [he, w2, lay, wk3, onStO, bareL, toCl, chunks, wk, iaddrV_map, emb, unAgg, ares, aresL, ares1, tupled, forall_const, Nat.reduceAdd, Nat.reduceSub, Nat.reduceMul, Nat.reduceLeDiff, Nat.reduceEqDiff, Nat.reduceBEq, Int.reduceLE, Int.reduceLT, Int.reduceEq, Int.reduceNe, Int.reduceAdd, Int.reduceSub, Int.reduceToNat, Int.reduceNeg, ↓reduceIte, reduceCtorEq, cellsOf, cellA, lay, fillA]
          refine QLoop_go (n' := 40 - (k + 1)) (by omega) ⟨k + 1, n3, r.1, by omega, rfl, by omega, hr, rfl, rfl⟩ ?_
          simp only [asets, List.replicate_succ, List.replicate_zero, List.cons_append, List.nil_append, Tops_top, Tops_same, Tops_nil, Int.natCast_add, Int.natCast_one]
        · have hs : decide (r.1 = ll) = true := decide_eq_true (hrs he)
          simp only [he, lay, wk3, onStO, bareL, toCl, chunks, wk, iaddrV_map, emb, unAgg, ares, aresL, ares1, tupled, forall_const, Nat.reduceAdd, Nat.reduceSub, Nat.reduceMul, Nat.reduceLeDiff, Nat.reduceEqDiff, Nat.reduceBEq, Int.reduceLE, Int.reduceLT, Int.reduceEq, Int.reduceNe, Int.reduceAdd, Int.reduceSub, Int.reduceToNat, Int.reduceNeg, ↓reduceIte, reduceCtorEq, cellsOf, cellA, lay, fillA]
          refine CT_ok (sameS r.1 ll hr.short hw.short _) ?_
          rintro _ _ ⟨rfl, rfl⟩
          simp only [hs, w2, lay, wk3, onStO, bareL, toCl, chunks, wk, iaddrV_map, emb, unAgg, ares, aresL, ares1, tupled, forall_const, Nat.reduceAdd, Nat.reduceSub, Nat.reduceMul, Nat.reduceLeDiff, Nat.reduceEqDiff, Nat.reduceBEq, Int.reduceLE, Int.reduceLT, Int.reduceEq, Int.reduceNe, Int.reduceAdd, Int.reduceSub, Int.reduceToNat, Int.reduceNeg, ↓reduceIte, reduceCtorEq, cellsOf, cellA, lay, fillA]
          refine QLoop_go (n' := 40 - (k + 1)) (by omega) ⟨k + 1, n3, r.1, by omega, rfl, by omega, hr, rfl, rfl⟩ ?_
          simp only [asets, List.replicate_succ, List.replicate_zero, List.cons_append, List.nil_append, Tops_top, Tops_same, Tops_nil, Int.natCast_add, Int.natCast_one]

      · simp only [c0, c1, c2, c3, c4, c5, lay, wk3, onStO, bareL, toCl, chunks, wk, iaddrV_map, emb, unAgg, ares, aresL, ares1, tupled, forall_const, Nat.reduceAdd, Nat.reduceSub, Nat.reduceMul, Nat.reduceLeDiff, Nat.reduceEqDiff, Nat.reduceBEq, Int.reduceLE, Int.reduceLT, Int.reduceEq, Int.reduceNe, Int.reduceAdd, Int.reduceSub, Int.reduceToNat, Int.reduceNeg, ↓reduceIte, reduceCtorEq, cellsOf, cellA, lay, fillA]
        refine CT_ok (destroyL ll hw.short id _) ?_
        rintro _ _ ⟨rfl, rfl⟩
        have hr := destroyA_may hw id
        have hrs := @destroyA_same ll id
        generalize hrr : destroyA ll id = r at hr hrs
        simp only [outA, lay, wk3, onStO, bareL, toCl, chunks, wk, iaddrV_map, emb, unAgg, ares, aresL, ares1, tupled, forall_const, Nat.reduceAdd, Nat.reduceSub, Nat.reduceMul, Nat.reduceLeDiff, Nat.reduceEqDiff, Nat.reduceBEq, Int.reduceLE, Int.reduceLT, Int.reduceEq, Int.reduceNe, Int.reduceAdd, Int.reduceSub, Int.reduceToNat, Int.reduceNeg, ↓reduceIte, reduceCtorEq, cellsOf, cellA, lay, fillA]
        refine CT_ok (maysets r.1 hr _) ?_
        rintro _ _ ⟨rfl, rfl⟩
        simp only [lay, wk3, onStO, bareL, toCl, chunks, wk, iaddrV_map, emb, unAgg, ares, aresL, ares1, tupled, forall_const, Nat.reduceAdd, Nat.reduceSub, Nat.reduceMul, Nat.reduceLeDiff, Nat.reduceEqDiff, Nat.reduceBEq, Int.reduceLE, Int.reduceLT, Int.reduceEq, Int.reduceNe, Int.reduceAdd, Int.reduceSub, Int.reduceToNat, Int.reduceNeg, ↓reduceIte, reduceCtorEq, cellsOf, cellA, lay, fillA]
        by_cases he : r.2 = 0
        · simp only [he, w2, lay, wk3, onStO, bareL, toCl, chunks, wk, iaddrV_map, emb, unAgg, ares, aresL, ares1, tupled, forall_const, Nat.reduceAdd, Nat.reduceSub, Nat.reduceMul, Nat.reduceLeDiff, Nat.reduceEqDiff, Nat.reduceBEq, Int.reduceLE, Int.reduceLT, Int.reduceEq, Int.reduceNe, Int.reduceAdd, Int.reduceSub, Int.reduceToNat, Int.reduceNeg, ↓reduceIte, reduceCtorEq, cellsOf, cellA, lay, fillA]
          refine QLoop_go (n' := 40 - (k + 1)) (by omega) ⟨k + 1, n2, r.1, by omega, rfl, by omega, hr, rfl, rfl⟩ ?_
          simp only [asets, List.replicate_succ, List.replicate_zero, List.cons_append, List.nil_append, Tops_top, Tops_same, Tops_nil, Int.natCast_add, Int.natCast_one]
        · have hs : decide (r.1 = ll) = true := decide_eq_true (hrs he)
          simp only [he, lay, wk3, onStO, bareL, toCl, chunks, wk, iaddrV_map, emb, unAgg, ares, aresL, ares1, tupled, forall_const, Nat.reduceAdd, Nat.reduceSub, Nat.reduceMul, Nat.reduceLeDiff, Nat.reduceEqDiff, Nat.reduceBEq, Int.reduceLE, Int.reduceLT, Int.reduceEq, Int.reduceNe, Int.reduceAdd, Int.reduceSub, Int.reduceToNat, Int.reduceNeg, ↓reduceIte, reduceCtorEq, cellsOf, cellA, lay, fillA]
          refine CT_ok (sameS r.1 ll hr.short hw.short _) ?_
          rintro _ _ ⟨rfl, rfl⟩
          simp only [hs, w2, lay, wk3, onStO, bareL, toCl, chunks, wk, iaddrV_map, emb, unAgg, ares, aresL, ares1, tupled, forall_const, Nat.reduceAdd, Nat.reduceSub, Nat.reduceMul, Nat.reduceLeDiff, Nat.reduceEqDiff, Nat.reduceBEq, Int.reduceLE, Int.reduceLT, Int.reduceEq, Int.reduceNe, Int.reduceAdd, Int.reduceSub, Int.reduceToNat, Int.reduceNeg, ↓reduceIte, reduceCtorEq, cellsOf, cellA, lay, fillA]
          refine QLoop_go (n' := 40 - (k + 1)) (by omega) ⟨k + 1, n2, r.1, by omega, rfl, by omega, hr, rfl, rfl⟩ ?_
          simp only [asets, List.replicate_succ, List.replicate_zero, List.cons_append, List.nil_append, Tops_top, Tops_same, Tops_nil, Int.natCast_add, Int.natCast_one]

  · simp only [h2, lay, wk3, onStO, bareL, toCl, chunks, wk, iaddrV_map, emb, unAgg, ares, aresL, ares1, tupled, forall_const, Nat.reduceAdd, Nat.reduceSub, Nat.reduceMul, Nat.reduceLeDiff, Nat.reduceEqDiff, Nat.reduceBEq, Int.reduceLE, Int.reduceLT, Int.reduceEq, Int.reduceNe, Int.reduceAdd, Int.reduceSub, Int.reduceToNat, Int.reduceNeg, ↓reduceIte, reduceCtorEq, cellsOf, cellA, lay, fillA]
end Go.Proofs.Ytemjlopoffjmpaa.Abs
set_option linter.unusedSimpArgs false
set_option linter.unusedVariables false
namespace Go.Proofs.Ytemjlopoffjmpaa.Abs
open Go Go.Proofs

/-- A row of bytes that came in. -/
theorem rep_row {w : World} {a : Option Addr} {len cap : Nat} {zs : List Int}
    (h : (a = none ∧ len = 0 ∧ cap = 0 ∧ zs = []) ∨ ∃ x, a = some x ∧ len ≤ cap ∧ cap ≤ maxLen ∧ zs.length = cap ∧ (∀ i, i < zs.length → w.cell? (x.add i) = some (.int .u8 (zs.getD i 0))) ∧ ∀ n ∈ zs, (Lit.int .u8 n).wf = true) :
    ∃ l : List UInt8, Rep (E0 w) (.fz (l.map pbyte)) (.slice a len cap) := by
  rcases h with ⟨rfl, rfl, rfl, rfl⟩ | ⟨x, rfl, hl, hm, hz, hcell, hwf⟩
  · exact ⟨[], .pure (x := .fz []) (.fz0 _ _)⟩
  · by_cases h0 : len = 0
    · subst h0
      exact ⟨[], .pure (x := .fz []) (.fz0 _ _)⟩
    · have hc0 := hcell 0 (by omega)
      obtain ⟨b, off, spot⟩ := x
      simp only [Addr.add, if_true, World.cell?] at hc0
      cases hb : w.heap[b]? with
      | none => rw [hb] at hc0; cases hc0
      | some o =>
        rw [hb] at hc0
        cases o with
        | cells c t q =>
          simp only at hc0
          split at hc0
          · cases hc0
          · rename_i hsp
            have hsp2 : spot = none := by cases spot with
              | none => rfl
              | some _ => simp at hsp
            subst hsp2
            have hci : ∀ i, i < zs.length → c[off + i]? = some (.int .u8 (zs.getD i 0)) := by
              intro i hi
              have := hcell i hi
              unfold Addr.add at this
              split at this
              · rename_i e; subst e; simpa [World.cell?, hb] using this
              · simpa [World.cell?, hb] using this
            refine ⟨(zs.take len).map fun n => UInt8.ofNat n.toNat, ?_⟩
            have hlen : (((zs.take len).map fun n => UInt8.ofNat n.toNat).map pbyte).length = len := by simp; omega
            have key := RepP.fz (F := (E0 w).F) (((zs.take len).map fun n => UInt8.ofNat n.toNat).map pbyte) b off cap 1 c t q hb (by rw [hlen]; exact hl) (by
              intro e he
              obtain ⟨y, _, rfl⟩ := List.mem_map.1 he
              rfl) (by
              rw [hlen]
              have h1 := hci (len - 1) (by omega)
              have : off + (len - 1) < c.size := by
                apply Classical.byContradiction
                intro h
                rw [Array.getElem?_eq_none (by omega)] at h1
                cases h1
              omega) (by
              intro i e k cc v he hk hv
              rw [List.map_map, List.getElem?_map] at he
              have hi : i < (zs.take len).length := by
                apply Classical.byContradiction
                intro h
                rw [List.getElem?_eq_none (by omega)] at he
                cases he
              rw [List.getElem?_eq_getElem hi] at he
              simp only [Option.map_some, Option.some.injEq, Function.comp] at he
              subst he
              have hk0 : k = 0 := by
                apply Classical.byContradiction
                intro h
                rw [List.getElem?_eq_none (by simp [pbyte]; omega)] at hk
                cases hk
              subst hk0
              simp only [pbyte, List.getElem?_cons_zero, Option.some.injEq] at hk
              subst hk
              rw [List.length_take] at hi
              rw [Nat.mul_one, Nat.add_zero, hci i (by omega)] at hv
              cases hv
              have hg : zs.getD i 0 = (zs.take len)[i]'(by rw [List.length_take]; exact hi) := by
                rw [List.getElem_take, List.getD_eq_getElem?_getD, List.getElem?_eq_getElem (by omega), Option.getD_some]
              rw [hg]
              have hw := hwf ((zs.take len)[i]'(by rw [List.length_take]; exact hi)) (List.mem_of_mem_take (List.getElem_mem _))
              generalize (zs.take len)[i]'(by rw [List.length_take]; exact hi) = n at hw
              have hn : 0 ≤ n ∧ n < 256 := by
                have := hw; simp [Lit.wf, IntKind.min, IntKind.max, IntKind.bits, IntKind.signed] at this; omega
              have : ((UInt8.ofNat n.toNat).toNat : Int) = n := by
                rw [UInt8.toNat_ofNat']
                omega
              rw [this]
              exact .int _ _)
            rw [hlen] at key
            exact .pure (x := .fz _) key
        | _ => simp at hc0
theorem repL_one {E : Env} {x : AV} {v : Value} (h : Rep E x v) : RepL E [x] #[v] := by
  refine ⟨rfl, fun i c u hc hu => ?_⟩
  match i, hc, hu with
  | 0, hc, hu => simp at hc hu; subst hc; subst hu; exact h
  | i + 1, hc, _ => simp at hc
theorem repL_two {E : Env} {x y : AV} {v u : Value} (h : Rep E x v) (h' : Rep E y u) : RepL E [x, y] #[v, u] := (repL_one h).append (repL_one h')
end Go.Proofs.Ytemjlopoffjmpaa.Abs
