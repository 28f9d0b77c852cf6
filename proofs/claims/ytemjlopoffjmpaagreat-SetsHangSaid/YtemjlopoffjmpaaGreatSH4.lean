/-
  Part 4 of the proof: no condition. (Parts of the abstract layer, of the program's functions in its form, and of their contracts.)
-/
import Derived.Test.YtemjlopoffjmpaaGreatSHWk
import Derived.Test.YtemjlopoffjmpaaGreatSHWk3
import Derived.Test.YtemjlopoffjmpaaGreatSH1
import Derived.Test.YtemjlopoffjmpaaGreatSH3
import Derived.Test.YtemjlopoffjmpaaGreatSHAbs22
import Derived.Test.YtemjlopoffjmpaaGreatProg
import Derived.KernelRfl
import Derived.Test.YtemjlopoffjmpaaGreatSH2
import Derived.Test.YtemjlopoffjmpaaGreatSHAbs35
import Derived.Test.YtemjlopoffjmpaaGreatSHAbs37
import Derived.Test.YtemjlopoffjmpaaGreatSHAbs38
import Derived.ProofKit
set_option linter.unusedSimpArgs false
set_option linter.unusedVariables false
namespace Go.Proofs.YtemjlopoffjmpaaGreat.Abs
open Go Go.Proofs

theorem hgB_hangs (l : List Dset) (i : Int) : hgB l i = hangsA l i := by
  unfold hgB hangsA
  rcases idxA_cases (fun d => decide (d.origin = i)) l with ⟨h1, h2⟩ | ⟨k, h1, h2, h3, _⟩
  · rw [h1, decide_eq_false (by decide), List.any_eq_false]
    intro d hd
    obtain ⟨n, hn, rfl⟩ := mem_dgetD hd
    rw [h2 n hn]; decide
  · rw [h1, decide_eq_true (by omega), List.any_eq_true]
    exact ⟨_, dgetD_mem h2, h3⟩
theorem filter_erase {l : List Dset} (h : MayL l) {k : Nat} (hk : k < l.length) : l.filter (notA (l.getD k default).id) = l.eraseIdx k := by
  have e : l = l.take k ++ l.getD k default :: l.drop (k + 1) := by
    have : l.drop k = l.getD k default :: l.drop (k + 1) := by
      rw [List.drop_eq_getElem_cons hk, List.getD_eq_getElem?_getD, List.getElem?_eq_getElem hk]; rfl
    rw [← this, List.take_append_drop]
  have h1 : ∀ d ∈ l.take k, notA (l.getD k default).id d = true := fun d hd => by
    obtain ⟨j, hj, rfl⟩ := List.mem_iff_getElem.1 hd
    rw [List.length_take] at hj
    have hj2 : j < l.length := by omega
    have := h.lt (i := j) (j := k) (by omega) hk
    unfold notA
    rw [List.getElem_take, decide_eq_false]; rfl
    intro hh
    rw [List.getD_eq_getElem?_getD, List.getElem?_eq_getElem hj2] at this
    have h3 : (l[j]).id < (l.getD k default).id := this
    omega
  have h2 : ∀ d ∈ l.drop (k + 1), notA (l.getD k default).id d = true := fun d hd => by
    obtain ⟨j, hj, rfl⟩ := List.mem_iff_getElem.1 hd
    rw [List.length_drop] at hj
    have hj2 : k + 1 + j < l.length := by omega
    have := h.lt (i := k) (j := k + 1 + j) (by omega) hj2
    unfold notA
    rw [List.getElem_drop, decide_eq_false]; rfl
    intro hh
    rw [List.getD_eq_getElem?_getD (l := l) (i := k + 1 + j), List.getElem?_eq_getElem hj2] at this
    have h3 : (l.getD k default).id < (l[k + 1 + j]).id := this
    omega
  have h3 : notA (l.getD k default).id (l.getD k default) = false := by unfold notA; simp
  refine (congrArg (List.filter (notA (l.getD k default).id)) e).trans ?_
  rw [List.filter_append, List.filter_cons, List.filter_eq_self.2 h1, List.filter_eq_self.2 h2, h3, if_neg (by decide), List.eraseIdx_eq_take_drop_succ]
theorem destR_eq {l : List Dset} (h : MayL l) (i : Int) : destR l i = destroyA l i := by
  unfold destR destroyA
  rcases find_of (l := l) (i := i) with ⟨e, _⟩ | ⟨k, e, hk, hid, _⟩
  · rw [getA_no e, if_pos (by omega)]
  · rw [getA_of e, if_neg (by omega), e, Int.toNat_natCast, hgB_hangs, ← hid, filter_erase h hk]

theorem addA_ne {l : List Dset} (h : l ≠ []) (n : Int) (x : Dset) : (addA l n x).1 ≠ [] := by
  unfold addA
  split
  · simp
  · exact h
theorem createA_ne {l : List Dset} (h : l ≠ []) (n q : Int) : (createA l n q).1 ≠ [] := by
  unfold createA
  split
  · exact h
  · exact addA_ne h _ _
theorem snapA_ne {l : List Dset} (h : l ≠ []) (n i : Int) : (snapA l n i).1 ≠ [] := by
  unfold snapA
  cases getA l i with
  | none => exact h
  | some d => simp only; split; exact h; exact addA_ne h _ _
theorem cloneA_ne {l : List Dset} (h : l ≠ []) (n i : Int) : (cloneA l n i).1 ≠ [] := by
  unfold cloneA
  cases getA l i with
  | none => exact h
  | some d => simp only; split; exact addA_ne h _ _; exact h
theorem ne_len {l l' : List Dset} (h : l ≠ []) (e : l'.length = l.length) : l' ≠ [] := fun e2 => h (List.length_eq_zero_iff.1 (by rw [← e, e2]; rfl))
theorem backA_ne {l : List Dset} (h : l ≠ []) (i j : Int) : (backA l i j).1 ≠ [] := by
  unfold backA
  split
  · exact h
  · simp only
    split
    · exact h
    · split
      · exact h
      · exact ne_len h List.length_set
theorem promoteA_ne {l : List Dset} (hM : MayL l) (h : l ≠ []) (i : Int) : (promoteA l i).1 ≠ [] := by
  rcases promote_facts hM i with ⟨hA, _⟩ | ⟨c, _, ⟨_, hA⟩ | ⟨_, _, s, o, _, _, hA⟩⟩
  · rw [hA]; exact h
  · rw [hA]; exact h
  · rw [hA]; exact ne_len h (List.length_map _)
theorem destroyA_ne {l : List Dset} (hM : MayL l) (h : l ≠ []) (i : Int) : (destroyA l i).1 ≠ [] := by
  unfold destroyA
  split
  · exact h
  · rename_i h1
    split
    · exact h
    · rename_i h2
      rcases find_of (l := l) (i := i) with ⟨e, _⟩ | ⟨k, e, hk, hid, _⟩
      · omega
      rw [e, Int.toNat_natCast] at h2 ⊢
      intro e2
      have hlen := List.length_eraseIdx (l := l) (i := k)
      rw [if_pos hk] at hlen
      have e3 : (l.eraseIdx k).length = 0 := by rw [show l.eraseIdx k = [] from e2]; rfl
      have h4 : l.length = 1 := by omega
      obtain ⟨d, rfl⟩ := List.length_eq_one_iff.1 h4
      have hk0 : k = 0 := by simp at hk; omega
      subst hk0
      have hd := hM.each d (by simp)
      have hk1 : d.kind = 1 := by
        rcases hd.kinds with hh | hh
        · exact hh
        · obtain ⟨_, o, ho, _, hok⟩ := hd.snap hh
          rw [List.mem_singleton] at ho
          subst ho; omega
      exact h2 (.inr ⟨hk1, by unfold livesA; simp [hk1]⟩)

section
variable (l : List Dset)
theorem rcreateL (hl : Short l) (next q : Int) (H : AH) : C Tryz.prog 70 [asets l, .int .i64 next, .int .i64 q] H (fun x H' => x = outA (createA l next q) ∧ H' = H) := C_any (rcreate0 l hl next q) (by simp [bareL, bare, asets]) (outA_bare _) H
theorem rsnapL (hl : Short l) (next q : Int) (H : AH) : C Tryz.prog 71 [asets l, .int .i64 next, .int .i64 q] H (fun x H' => x = outA (snapA l next q) ∧ H' = H) := C_any (rsnap0 l hl next q) (by simp [bareL, bare, asets]) (outA_bare _) H
theorem rcloneL (hl : Short l) (next q : Int) (H : AH) : C Tryz.prog 72 [asets l, .int .i64 next, .int .i64 q] H (fun x H' => x = outA (cloneA l next q) ∧ H' = H) := C_any (rclone0 l hl next q) (by simp [bareL, bare, asets]) (outA_bare _) H
theorem rpromoteL (hM : MayL l) (i : Int) (H : AH) : C Tryz.prog 73 [asets l, .int .i64 i] H (fun x H' => x = outA (promoteA l i) ∧ H' = H) := C_any (rpromote0 l hM i) (by simp [bareL, bare, asets]) (outA_bare _) H
theorem rbackL (hl : Short l) (i j : Int) (H : AH) : C Tryz.prog 74 [asets l, .int .i64 i, .int .i64 j] H (fun x H' => x = outA (backA l i j) ∧ H' = H) := C_any (rback0 l hl i j) (by simp [bareL, bare, asets]) (outA_bare _) H
theorem rdestroyL (hM : MayL l) (i : Int) (H : AH) : C Tryz.prog 75 [asets l, .int .i64 i] H (fun x H' => x = outA (destroyA l i) ∧ H' = H) := by
  rw [← destR_eq hM i]
  exact C_any (rdestroy0 l hM.short i) (by simp [bareL, bare, asets]) (outA_bare _) H
end

set_option maxHeartbeats 2000000 in
theorem sets89_0 (l : List Dset) (hM : MayL l) (nx k i m : Int) (hk : 9 ≤ k ∧ k ≤ 14) (hnx : 0 ≤ nx ∧ nx ≤ 1000000) (p q t : List UInt8) :
    C Tryz.prog 89 [.agg (poolC nx (asets l)), editA k i m p q t] [] (fun y H' => PoolR nx l y ∧ H' = []) := by
  have hl := hM.short
  have told : ∀ e : Int, PoolR nx l (toldA nx l e 0) := fun e => ⟨l, nx, e, 0, hM, fun h => h, Int.le_refl _, by omega, rfl⟩
  have w1 : IntKind.i64.wrap (nx + 1) = nx + 1 := IntWalk.i64_in _ (by omega)
  refine C_body' d89 rfl (WT_ok ?_)
  unfold c89
  simp only [poolC, editA, asets, lay, iaddr_node, pnode, wk3, onStO, bareL, toCl, onApO, chunks, wk, emb, unAgg, ares, aresL, ares1, tupled, forall_const, Nat.reduceAdd, Nat.reduceSub, Nat.reduceMul, Nat.reduceLeDiff, Nat.reduceEqDiff, Nat.reduceBEq, Int.reduceLE, Int.reduceLT, Int.reduceEq, Int.reduceNe, Int.reduceAdd, Int.reduceSub, Int.reduceToNat, Int.reduceNeg, ↓reduceIte, reduceCtorEq, cellsOf, cellA, lay, fillA]
  by_cases h_9 : k = 9
  · simp only [h_9, lay, iaddr_node, pnode, wk3, onStO, bareL, toCl, onApO, chunks, wk, emb, unAgg, ares, aresL, ares1, tupled, forall_const, Nat.reduceAdd, Nat.reduceSub, Nat.reduceMul, Nat.reduceLeDiff, Nat.reduceEqDiff, Nat.reduceBEq, Int.reduceLE, Int.reduceLT, Int.reduceEq, Int.reduceNe, Int.reduceAdd, Int.reduceSub, Int.reduceToNat, Int.reduceNeg, ↓reduceIte, reduceCtorEq, cellsOf, cellA, lay, fillA]
    refine CT_ok (rcreateL l hl nx m _) ?_
    rintro _ _ ⟨rfl, rfl⟩
    have hm := createA_may hM nx m
    have hne : l ≠ [] → (createA l nx m).1 ≠ [] := fun h => createA_ne h nx m
    generalize createA l nx m = r at hm hne
    obtain ⟨l', e⟩ := r
    by_cases he : e = 0
    · simp only [outA, asets, he, h_9, w1, lay, iaddr_node, pnode, wk3, onStO, bareL, toCl, onApO, chunks, wk, emb, unAgg, ares, aresL, ares1, tupled, forall_const, Nat.reduceAdd, Nat.reduceSub, Nat.reduceMul, Nat.reduceLeDiff, Nat.reduceEqDiff, Nat.reduceBEq, Int.reduceLE, Int.reduceLT, Int.reduceEq, Int.reduceNe, Int.reduceAdd, Int.reduceSub, Int.reduceToNat, Int.reduceNeg, ↓reduceIte, reduceCtorEq, cellsOf, cellA, lay, fillA]
      exact KWk_bare (told_bare (nx + 1) l' 0 nx) ⟨⟨l', nx + 1, 0, nx, hm, hne, by omega, Int.le_refl _, rfl⟩, rfl⟩
    · simp only [outA, asets, he, lay, iaddr_node, pnode, wk3, onStO, bareL, toCl, onApO, chunks, wk, emb, unAgg, ares, aresL, ares1, tupled, forall_const, Nat.reduceAdd, Nat.reduceSub, Nat.reduceMul, Nat.reduceLeDiff, Nat.reduceEqDiff, Nat.reduceBEq, Int.reduceLE, Int.reduceLT, Int.reduceEq, Int.reduceNe, Int.reduceAdd, Int.reduceSub, Int.reduceToNat, Int.reduceNeg, ↓reduceIte, reduceCtorEq, cellsOf, cellA, lay, fillA]
      refine CT_ok (tells86 nx l e _) ?_
      rintro _ _ ⟨rfl, rfl⟩
      simp only [toldA, poolC, ansC, asets, lay, iaddr_node, pnode, wk3, onStO, bareL, toCl, onApO, chunks, wk, emb, unAgg, ares, aresL, ares1, tupled, forall_const, Nat.reduceAdd, Nat.reduceSub, Nat.reduceMul, Nat.reduceLeDiff, Nat.reduceEqDiff, Nat.reduceBEq, Int.reduceLE, Int.reduceLT, Int.reduceEq, Int.reduceNe, Int.reduceAdd, Int.reduceSub, Int.reduceToNat, Int.reduceNeg, ↓reduceIte, reduceCtorEq, cellsOf, cellA, lay, fillA]
      exact KWk_bare (told_bare nx l e 0) ⟨told e, rfl⟩
  by_cases h_10 : k = 10
  · simp only [h_10, lay, iaddr_node, pnode, wk3, onStO, bareL, toCl, onApO, chunks, wk, emb, unAgg, ares, aresL, ares1, tupled, forall_const, Nat.reduceAdd, Nat.reduceSub, Nat.reduceMul, Nat.reduceLeDiff, Nat.reduceEqDiff, Nat.reduceBEq, Int.reduceLE, Int.reduceLT, Int.reduceEq, Int.reduceNe, Int.reduceAdd, Int.reduceSub, Int.reduceToNat, Int.reduceNeg, ↓reduceIte, reduceCtorEq, cellsOf, cellA, lay, fillA]
    refine CT_ok (rsnapL l hl nx i _) ?_
    rintro _ _ ⟨rfl, rfl⟩
    have hm := snapA_may hM nx i
    have hne : l ≠ [] → (snapA l nx i).1 ≠ [] := fun h => snapA_ne h nx i
    generalize snapA l nx i = r at hm hne
    obtain ⟨l', e⟩ := r
    by_cases he : e = 0
    · simp only [outA, asets, he, h_10, w1, lay, iaddr_node, pnode, wk3, onStO, bareL, toCl, onApO, chunks, wk, emb, unAgg, ares, aresL, ares1, tupled, forall_const, Nat.reduceAdd, Nat.reduceSub, Nat.reduceMul, Nat.reduceLeDiff, Nat.reduceEqDiff, Nat.reduceBEq, Int.reduceLE, Int.reduceLT, Int.reduceEq, Int.reduceNe, Int.reduceAdd, Int.reduceSub, Int.reduceToNat, Int.reduceNeg, ↓reduceIte, reduceCtorEq, cellsOf, cellA, lay, fillA]
      exact KWk_bare (told_bare (nx + 1) l' 0 nx) ⟨⟨l', nx + 1, 0, nx, hm, hne, by omega, Int.le_refl _, rfl⟩, rfl⟩
    · simp only [outA, asets, he, lay, iaddr_node, pnode, wk3, onStO, bareL, toCl, onApO, chunks, wk, emb, unAgg, ares, aresL, ares1, tupled, forall_const, Nat.reduceAdd, Nat.reduceSub, Nat.reduceMul, Nat.reduceLeDiff, Nat.reduceEqDiff, Nat.reduceBEq, Int.reduceLE, Int.reduceLT, Int.reduceEq, Int.reduceNe, Int.reduceAdd, Int.reduceSub, Int.reduceToNat, Int.reduceNeg, ↓reduceIte, reduceCtorEq, cellsOf, cellA, lay, fillA]
      refine CT_ok (tells86 nx l e _) ?_
      rintro _ _ ⟨rfl, rfl⟩
      simp only [toldA, poolC, ansC, asets, lay, iaddr_node, pnode, wk3, onStO, bareL, toCl, onApO, chunks, wk, emb, unAgg, ares, aresL, ares1, tupled, forall_const, Nat.reduceAdd, Nat.reduceSub, Nat.reduceMul, Nat.reduceLeDiff, Nat.reduceEqDiff, Nat.reduceBEq, Int.reduceLE, Int.reduceLT, Int.reduceEq, Int.reduceNe, Int.reduceAdd, Int.reduceSub, Int.reduceToNat, Int.reduceNeg, ↓reduceIte, reduceCtorEq, cellsOf, cellA, lay, fillA]
      exact KWk_bare (told_bare nx l e 0) ⟨told e, rfl⟩
  by_cases h_11 : k = 11
  · simp only [h_11, lay, iaddr_node, pnode, wk3, onStO, bareL, toCl, onApO, chunks, wk, emb, unAgg, ares, aresL, ares1, tupled, forall_const, Nat.reduceAdd, Nat.reduceSub, Nat.reduceMul, Nat.reduceLeDiff, Nat.reduceEqDiff, Nat.reduceBEq, Int.reduceLE, Int.reduceLT, Int.reduceEq, Int.reduceNe, Int.reduceAdd, Int.reduceSub, Int.reduceToNat, Int.reduceNeg, ↓reduceIte, reduceCtorEq, cellsOf, cellA, lay, fillA]
    refine CT_ok (rcloneL l hl nx i _) ?_
    rintro _ _ ⟨rfl, rfl⟩
    have hm := cloneA_may hM nx i
    have hne : l ≠ [] → (cloneA l nx i).1 ≠ [] := fun h => cloneA_ne h nx i
    generalize cloneA l nx i = r at hm hne
    obtain ⟨l', e⟩ := r
    by_cases he : e = 0
    · simp only [outA, asets, he, h_11, w1, lay, iaddr_node, pnode, wk3, onStO, bareL, toCl, onApO, chunks, wk, emb, unAgg, ares, aresL, ares1, tupled, forall_const, Nat.reduceAdd, Nat.reduceSub, Nat.reduceMul, Nat.reduceLeDiff, Nat.reduceEqDiff, Nat.reduceBEq, Int.reduceLE, Int.reduceLT, Int.reduceEq, Int.reduceNe, Int.reduceAdd, Int.reduceSub, Int.reduceToNat, Int.reduceNeg, ↓reduceIte, reduceCtorEq, cellsOf, cellA, lay, fillA]
      exact KWk_bare (told_bare (nx + 1) l' 0 nx) ⟨⟨l', nx + 1, 0, nx, hm, hne, by omega, Int.le_refl _, rfl⟩, rfl⟩
    · simp only [outA, asets, he, lay, iaddr_node, pnode, wk3, onStO, bareL, toCl, onApO, chunks, wk, emb, unAgg, ares, aresL, ares1, tupled, forall_const, Nat.reduceAdd, Nat.reduceSub, Nat.reduceMul, Nat.reduceLeDiff, Nat.reduceEqDiff, Nat.reduceBEq, Int.reduceLE, Int.reduceLT, Int.reduceEq, Int.reduceNe, Int.reduceAdd, Int.reduceSub, Int.reduceToNat, Int.reduceNeg, ↓reduceIte, reduceCtorEq, cellsOf, cellA, lay, fillA]
      refine CT_ok (tells86 nx l e _) ?_
      rintro _ _ ⟨rfl, rfl⟩
      simp only [toldA, poolC, ansC, asets, lay, iaddr_node, pnode, wk3, onStO, bareL, toCl, onApO, chunks, wk, emb, unAgg, ares, aresL, ares1, tupled, forall_const, Nat.reduceAdd, Nat.reduceSub, Nat.reduceMul, Nat.reduceLeDiff, Nat.reduceEqDiff, Nat.reduceBEq, Int.reduceLE, Int.reduceLT, Int.reduceEq, Int.reduceNe, Int.reduceAdd, Int.reduceSub, Int.reduceToNat, Int.reduceNeg, ↓reduceIte, reduceCtorEq, cellsOf, cellA, lay, fillA]
      exact KWk_bare (told_bare nx l e 0) ⟨told e, rfl⟩
  by_cases h_12 : k = 12
  · simp only [h_12, lay, iaddr_node, pnode, wk3, onStO, bareL, toCl, onApO, chunks, wk, emb, unAgg, ares, aresL, ares1, tupled, forall_const, Nat.reduceAdd, Nat.reduceSub, Nat.reduceMul, Nat.reduceLeDiff, Nat.reduceEqDiff, Nat.reduceBEq, Int.reduceLE, Int.reduceLT, Int.reduceEq, Int.reduceNe, Int.reduceAdd, Int.reduceSub, Int.reduceToNat, Int.reduceNeg, ↓reduceIte, reduceCtorEq, cellsOf, cellA, lay, fillA]
    refine CT_ok (rpromoteL l hM i _) ?_
    rintro _ _ ⟨rfl, rfl⟩
    have hm := promoteA_may hM i
    have hne : l ≠ [] → (promoteA l i).1 ≠ [] := fun h => promoteA_ne hM h i
    generalize promoteA l i = r at hm hne
    obtain ⟨l', e⟩ := r
    by_cases he : e = 0
    · simp only [outA, asets, he, h_12, w1, lay, iaddr_node, pnode, wk3, onStO, bareL, toCl, onApO, chunks, wk, emb, unAgg, ares, aresL, ares1, tupled, forall_const, Nat.reduceAdd, Nat.reduceSub, Nat.reduceMul, Nat.reduceLeDiff, Nat.reduceEqDiff, Nat.reduceBEq, Int.reduceLE, Int.reduceLT, Int.reduceEq, Int.reduceNe, Int.reduceAdd, Int.reduceSub, Int.reduceToNat, Int.reduceNeg, ↓reduceIte, reduceCtorEq, cellsOf, cellA, lay, fillA]
      exact KWk_bare (told_bare nx l' 0 0) ⟨⟨l', nx, 0, 0, hm, hne, Int.le_refl _, by omega, rfl⟩, rfl⟩
    · simp only [outA, asets, he, lay, iaddr_node, pnode, wk3, onStO, bareL, toCl, onApO, chunks, wk, emb, unAgg, ares, aresL, ares1, tupled, forall_const, Nat.reduceAdd, Nat.reduceSub, Nat.reduceMul, Nat.reduceLeDiff, Nat.reduceEqDiff, Nat.reduceBEq, Int.reduceLE, Int.reduceLT, Int.reduceEq, Int.reduceNe, Int.reduceAdd, Int.reduceSub, Int.reduceToNat, Int.reduceNeg, ↓reduceIte, reduceCtorEq, cellsOf, cellA, lay, fillA]
      refine CT_ok (tells86 nx l e _) ?_
      rintro _ _ ⟨rfl, rfl⟩
      simp only [toldA, poolC, ansC, asets, lay, iaddr_node, pnode, wk3, onStO, bareL, toCl, onApO, chunks, wk, emb, unAgg, ares, aresL, ares1, tupled, forall_const, Nat.reduceAdd, Nat.reduceSub, Nat.reduceMul, Nat.reduceLeDiff, Nat.reduceEqDiff, Nat.reduceBEq, Int.reduceLE, Int.reduceLT, Int.reduceEq, Int.reduceNe, Int.reduceAdd, Int.reduceSub, Int.reduceToNat, Int.reduceNeg, ↓reduceIte, reduceCtorEq, cellsOf, cellA, lay, fillA]
      exact KWk_bare (told_bare nx l e 0) ⟨told e, rfl⟩
  by_cases h_13 : k = 13
  · simp only [h_13, lay, iaddr_node, pnode, wk3, onStO, bareL, toCl, onApO, chunks, wk, emb, unAgg, ares, aresL, ares1, tupled, forall_const, Nat.reduceAdd, Nat.reduceSub, Nat.reduceMul, Nat.reduceLeDiff, Nat.reduceEqDiff, Nat.reduceBEq, Int.reduceLE, Int.reduceLT, Int.reduceEq, Int.reduceNe, Int.reduceAdd, Int.reduceSub, Int.reduceToNat, Int.reduceNeg, ↓reduceIte, reduceCtorEq, cellsOf, cellA, lay, fillA]
    refine CT_ok (rbackL l hl i m _) ?_
    rintro _ _ ⟨rfl, rfl⟩
    have hm := backA_may hM i m
    have hne : l ≠ [] → (backA l i m).1 ≠ [] := fun h => backA_ne h i m
    generalize backA l i m = r at hm hne
    obtain ⟨l', e⟩ := r
    by_cases he : e = 0
    · simp only [outA, asets, he, h_13, w1, lay, iaddr_node, pnode, wk3, onStO, bareL, toCl, onApO, chunks, wk, emb, unAgg, ares, aresL, ares1, tupled, forall_const, Nat.reduceAdd, Nat.reduceSub, Nat.reduceMul, Nat.reduceLeDiff, Nat.reduceEqDiff, Nat.reduceBEq, Int.reduceLE, Int.reduceLT, Int.reduceEq, Int.reduceNe, Int.reduceAdd, Int.reduceSub, Int.reduceToNat, Int.reduceNeg, ↓reduceIte, reduceCtorEq, cellsOf, cellA, lay, fillA]
      exact KWk_bare (told_bare nx l' 0 0) ⟨⟨l', nx, 0, 0, hm, hne, Int.le_refl _, by omega, rfl⟩, rfl⟩
    · simp only [outA, asets, he, lay, iaddr_node, pnode, wk3, onStO, bareL, toCl, onApO, chunks, wk, emb, unAgg, ares, aresL, ares1, tupled, forall_const, Nat.reduceAdd, Nat.reduceSub, Nat.reduceMul, Nat.reduceLeDiff, Nat.reduceEqDiff, Nat.reduceBEq, Int.reduceLE, Int.reduceLT, Int.reduceEq, Int.reduceNe, Int.reduceAdd, Int.reduceSub, Int.reduceToNat, Int.reduceNeg, ↓reduceIte, reduceCtorEq, cellsOf, cellA, lay, fillA]
      refine CT_ok (tells86 nx l e _) ?_
      rintro _ _ ⟨rfl, rfl⟩
      simp only [toldA, poolC, ansC, asets, lay, iaddr_node, pnode, wk3, onStO, bareL, toCl, onApO, chunks, wk, emb, unAgg, ares, aresL, ares1, tupled, forall_const, Nat.reduceAdd, Nat.reduceSub, Nat.reduceMul, Nat.reduceLeDiff, Nat.reduceEqDiff, Nat.reduceBEq, Int.reduceLE, Int.reduceLT, Int.reduceEq, Int.reduceNe, Int.reduceAdd, Int.reduceSub, Int.reduceToNat, Int.reduceNeg, ↓reduceIte, reduceCtorEq, cellsOf, cellA, lay, fillA]
      exact KWk_bare (told_bare nx l e 0) ⟨told e, rfl⟩
  have h_14 : k = 14 := by omega
  · simp only [h_14, lay, iaddr_node, pnode, wk3, onStO, bareL, toCl, onApO, chunks, wk, emb, unAgg, ares, aresL, ares1, tupled, forall_const, Nat.reduceAdd, Nat.reduceSub, Nat.reduceMul, Nat.reduceLeDiff, Nat.reduceEqDiff, Nat.reduceBEq, Int.reduceLE, Int.reduceLT, Int.reduceEq, Int.reduceNe, Int.reduceAdd, Int.reduceSub, Int.reduceToNat, Int.reduceNeg, ↓reduceIte, reduceCtorEq, cellsOf, cellA, lay, fillA]
    refine CT_ok (rdestroyL l hM i _) ?_
    rintro _ _ ⟨rfl, rfl⟩
    have hm := destroyA_may hM i
    have hne : l ≠ [] → (destroyA l i).1 ≠ [] := fun h => destroyA_ne hM h i
    generalize destroyA l i = r at hm hne
    obtain ⟨l', e⟩ := r
    by_cases he : e = 0
    · simp only [outA, asets, he, h_14, w1, lay, iaddr_node, pnode, wk3, onStO, bareL, toCl, onApO, chunks, wk, emb, unAgg, ares, aresL, ares1, tupled, forall_const, Nat.reduceAdd, Nat.reduceSub, Nat.reduceMul, Nat.reduceLeDiff, Nat.reduceEqDiff, Nat.reduceBEq, Int.reduceLE, Int.reduceLT, Int.reduceEq, Int.reduceNe, Int.reduceAdd, Int.reduceSub, Int.reduceToNat, Int.reduceNeg, ↓reduceIte, reduceCtorEq, cellsOf, cellA, lay, fillA]
      exact KWk_bare (told_bare nx l' 0 0) ⟨⟨l', nx, 0, 0, hm, hne, Int.le_refl _, by omega, rfl⟩, rfl⟩
    · simp only [outA, asets, he, lay, iaddr_node, pnode, wk3, onStO, bareL, toCl, onApO, chunks, wk, emb, unAgg, ares, aresL, ares1, tupled, forall_const, Nat.reduceAdd, Nat.reduceSub, Nat.reduceMul, Nat.reduceLeDiff, Nat.reduceEqDiff, Nat.reduceBEq, Int.reduceLE, Int.reduceLT, Int.reduceEq, Int.reduceNe, Int.reduceAdd, Int.reduceSub, Int.reduceToNat, Int.reduceNeg, ↓reduceIte, reduceCtorEq, cellsOf, cellA, lay, fillA]
      refine CT_ok (tells86 nx l e _) ?_
      rintro _ _ ⟨rfl, rfl⟩
      simp only [toldA, poolC, ansC, asets, lay, iaddr_node, pnode, wk3, onStO, bareL, toCl, onApO, chunks, wk, emb, unAgg, ares, aresL, ares1, tupled, forall_const, Nat.reduceAdd, Nat.reduceSub, Nat.reduceMul, Nat.reduceLeDiff, Nat.reduceEqDiff, Nat.reduceBEq, Int.reduceLE, Int.reduceLT, Int.reduceEq, Int.reduceNe, Int.reduceAdd, Int.reduceSub, Int.reduceToNat, Int.reduceNeg, ↓reduceIte, reduceCtorEq, cellsOf, cellA, lay, fillA]
      exact KWk_bare (told_bare nx l e 0) ⟨told e, rfl⟩
end Go.Proofs.YtemjlopoffjmpaaGreat.Abs
set_option linter.unusedSimpArgs false
set_option linter.unusedVariables false
namespace Go.Proofs.YtemjlopoffjmpaaGreat.Abs
open Go Go.Proofs

/-- Sets of which some may be destroyed. -/
def freeA (l : List Dset) (d : Dset) : Prop := hgB l d.id = false ∧ (d.kind = 2 ∨ 1 < livesA l)
theorem lives_one {l : List Dset} {d : Dset} (hd : d ∈ l) (hk : d.kind = 1) : 0 < livesA l := List.countP_pos_iff.2 ⟨d, hd, decide_eq_true hk⟩
/-- One of the greatest rank: nobody's origin. -/
theorem leaf_exists (r : Int → Nat) : ∀ (l : List Dset), l ≠ [] → ∃ d ∈ l, ∀ o ∈ l, r o.id ≤ r d.id
  | [], h => absurd rfl h
  | [d], _ => ⟨d, by simp, fun o ho => by rw [List.mem_singleton] at ho; rw [ho]; exact Nat.le_refl _⟩
  | d :: x :: l, _ => by
    obtain ⟨m, hm, h⟩ := leaf_exists r (x :: l) (by simp)
    rcases Nat.le_total (r d.id) (r m.id) with h1 | h1
    · refine ⟨m, List.mem_cons_of_mem _ hm, fun o ho => ?_⟩
      rcases List.mem_cons.1 ho with rfl | ho
      · exact h1
      · exact h o ho
    · refine ⟨d, by simp, fun o ho => ?_⟩
      rcases List.mem_cons.1 ho with rfl | ho
      · exact Nat.le_refl _
      · exact Nat.le_trans (h o ho) h1
theorem hgB_false {l : List Dset} {i : Int} (h : ∀ d ∈ l, d.origin ≠ i) : hgB l i = false := by
  unfold hgB
  rw [List.any_eq_false]
  intro d hd
  rw [decide_eq_false (h d hd)]; decide
theorem free_exists {l : List Dset} (h : MayL l) (h1 : 1 < l.length) : ∃ d ∈ l, freeA l d := by
  obtain ⟨r, hr⟩ := h.tree
  obtain ⟨d, hd, hmax⟩ := leaf_exists r l (fun e => by rw [e] at h1; simp at h1)
  have hno : hgB l d.id = false := hgB_false fun x hx e => by
    have := hr x hx d hd e.symm
    have := hmax x hx
    omega
  refine ⟨d, hd, hno, ?_⟩
  rcases (h.each d hd).kinds with hk | hk
  · right
    apply Classical.byContradiction
    intro hlt
    have hl1 : livesA l = 1 := by have := lives_one hd hk; omega
    -- every other is a snapshot of d
    have hall : ∀ x ∈ l, x = d := by
      intro x hx
      rcases (h.each x hx).kinds with hx1 | hx2
      · -- two that live: the same
        apply Classical.byContradiction
        intro hne
        obtain ⟨a, ha, rfl⟩ := mem_dgetD hx
        obtain ⟨b, hb, rfl⟩ := mem_dgetD hd
        have hab : a ≠ b := fun e => hne (by rw [e])
        have h2 := List.countP_eq_length_filter (p := fun d : Dset => decide (d.kind = 1)) (l := l)
        have h3 : (l.filter fun d : Dset => decide (d.kind = 1)).length = 1 := by rw [← h2]; exact hl1
        obtain ⟨z, hz⟩ := List.length_eq_one_iff.1 h3
        have ha2 : l.getD a default ∈ l.filter fun d : Dset => decide (d.kind = 1) := List.mem_filter.2 ⟨dgetD_mem ha, decide_eq_true hx1⟩
        have hb2 : l.getD b default ∈ l.filter fun d : Dset => decide (d.kind = 1) := List.mem_filter.2 ⟨dgetD_mem hb, decide_eq_true hk⟩
        rw [hz, List.mem_singleton] at ha2 hb2
        exact hne (ha2.trans hb2.symm)
      · obtain ⟨_, o, ho, hoi, hok⟩ := (h.each x hx).snap hx2
        -- its origin lives: it is d
        have hod : o = d := by
          have h2 := List.countP_eq_length_filter (p := fun d : Dset => decide (d.kind = 1)) (l := l)
          have h3 : (l.filter fun d : Dset => decide (d.kind = 1)).length = 1 := by rw [← h2]; exact hl1
          obtain ⟨z, hz⟩ := List.length_eq_one_iff.1 h3
          have ha2 : o ∈ l.filter fun d : Dset => decide (d.kind = 1) := List.mem_filter.2 ⟨ho, decide_eq_true hok⟩
          have hb2 : d ∈ l.filter fun d : Dset => decide (d.kind = 1) := List.mem_filter.2 ⟨hd, decide_eq_true hk⟩
          rw [hz, List.mem_singleton] at ha2 hb2
          exact ha2.trans hb2.symm
        exfalso
        have : hgB l d.id = true := by
          unfold hgB
          rw [List.any_eq_true]
          exact ⟨x, hx, decide_eq_true (by rw [← hoi, hod])⟩
        rw [hno] at this; cases this
    have e0 : l.getD 0 default = l.getD 1 default := by rw [hall _ (dgetD_mem (n := 0) (by omega)), hall _ (dgetD_mem (n := 1) h1)]
    have := h.inj (i := 0) (j := 1) (by omega) h1 (by rw [e0])
    omega
  · exact .inl hk
/-- What Destroy tells of a set that is there. -/
theorem destroy_tell {l : List Dset} (h : MayL l) {d : Dset} (hd : d ∈ l) :
    (freeA l d → destroyA l d.id = (l.filter (notA d.id), 0) ∧ (l.filter (notA d.id)).length = l.length - 1) ∧ (¬ freeA l d → destroyA l d.id = (l, 10)) := by
  rw [← destR_eq h]
  obtain ⟨k, hk, rfl⟩ := mem_dgetD hd
  unfold destR
  rw [h.find hd]
  simp only
  have hm := h.each _ hd
  have hpos := fun hk1 => lives_one hd hk1
  refine ⟨fun hf => ?_, fun hf => ?_⟩
  · have hn : ¬ (hgB l (l.getD k default).id = true ∨ ((l.getD k default).kind = 1 ∧ livesA l = 1)) := by
      rintro (hh | ⟨h1, h2⟩)
      · rw [hf.1] at hh; cases hh
      · rcases hf.2 with h3 | h3
        · omega
        · omega
    rw [if_neg hn]
    refine ⟨rfl, ?_⟩
    rw [filter_erase h hk, List.length_eraseIdx, if_pos hk]
  · rw [if_pos]
    apply Classical.byContradiction
    intro hn
    refine hf ⟨?_, ?_⟩
    · cases hh : hgB l (l.getD k default).id
      · rfl
      · exact absurd (.inl hh) hn
    · rcases hm.kinds with h1 | h1
      · right
        have := hpos h1
        have : livesA l ≠ 1 := fun e => hn (.inr ⟨h1, e⟩)
        omega
      · exact .inl h1
end Go.Proofs.YtemjlopoffjmpaaGreat.Abs
/-
  The code of some functions in the abstract layer's form, each checked against the program's own. Written by gen.py.
-/
namespace Go.Proofs.YtemjlopoffjmpaaGreat.Abs
open Go

/-- (*palimp/palimpmade.Picks).Sets -/
def c14 : ACode :=
 (.seq (.reg [⟨some 4, none, .mv (.c (.emp))⟩])
 (.seq (.reg [⟨some 9, none, .build [.int .i64 0, .int .i64 0, .int .i64 0, .int .i64 0, .int .i64 0, .int .u32 0, .int .u32 0, .int .u32 0, .int .u32 0, .int .i64 0, .int .i64 0, .int .u32 0, .int .u32 0, .int .u32 0, .int .u32 0, .int .i64 0, .int .i64 0, .int .u32 0, .int .u32 0, .int .u32 0, .int .u32 0, .int .i64 0] [(1, 1, (.c (.int .i64 2)))]⟩,
  ⟨some 10, none, .call 34 []⟩,
  ⟨some 11, none, .build [.int .i64 0, .int .i64 0, .int .i64 0, .int .i64 0, .emp] [(0, 1, (.c (.int .i64 1))), (1, 1, (.c (.int .i64 1))), (4, 1, (.t 10))]⟩,
  ⟨some 12, none, .bslice 5 1 [.int .i64 0, .int .i64 0, .int .i64 0, .int .i64 0, .emp] [(0, (.t 11))]⟩,
  ⟨some 13, none, .build [.emp, .emp, .int .i64 0, .int .i64 0, .bool false, .int .i64 0, .int .i64 0, .int .u32 0, .int .u32 0, .int .u32 0, .int .u32 0, .int .i64 0, .int .i64 0, .int .i64 0, .int .i64 0, .int .i64 0, .int .u32 0, .int .u32 0, .int .u32 0, .int .u32 0, .int .i64 0, .int .i64 0, .int .u32 0, .int .u32 0, .int .u32 0, .int .u32 0, .int .i64 0, .int .i64 0, .int .u32 0, .int .u32 0, .int .u32 0, .int .u32 0, .int .i64 0, .emp, .emp, .emp, .emp, .int .i64 0, .int .i64 0, .emp, .bool false] [(11, 22, (.t 9)), (39, 1, (.t 12))]⟩,
  ⟨some 5, none, .alloc [.emp, .emp, .int .i64 0, .int .i64 0, .bool false, .int .i64 0, .int .i64 0, .int .u32 0, .int .u32 0, .int .u32 0, .int .u32 0, .int .i64 0, .int .i64 0, .int .i64 0, .int .i64 0, .int .i64 0, .int .u32 0, .int .u32 0, .int .u32 0, .int .u32 0, .int .i64 0, .int .i64 0, .int .u32 0, .int .u32 0, .int .u32 0, .int .u32 0, .int .i64 0, .int .i64 0, .int .u32 0, .int .u32 0, .int .u32 0, .int .u32 0, .int .i64 0, .emp, .emp, .emp, .emp, .int .i64 0, .int .i64 0, .emp, .bool false]⟩,
  ⟨none, none, .store 41 (.t 5) (.t 13)⟩])
 (.seq (.seq (.reg [⟨some 6, none, .mv (.c (.int .i64 0))⟩])
 (.block 0
 (.loop
 (.seq (.seq (.reg [⟨some 14, none, .mv (.t 6)⟩,
  ⟨some 15, none, .mv (.t 1)⟩,
  ⟨some 16, none, .bini .lss (.t 14) (.t 15)⟩,
  ⟨some 17, none, .mv (.t 16)⟩,
  ⟨some 18, (some (17, true)), .mv (.t 0)⟩,
  ⟨some 19, (some (17, true)), .call 43 [(.t 18)]⟩,
  ⟨some 20, (some (17, true)), .un .not (.t 19)⟩,
  ⟨some 21, none, .pick (.t 17) (.t 20) (.c (.bool false))⟩])
 (.cond (.t 21)
 .skip
 (.exit 0)))
 (.seq (.block 1
 (.seq (.reg [⟨some 24, none, .mv (.t 0)⟩,
  ⟨some 25, none, .call 44 [(.t 24), (.c (.int .i64 8))]⟩,
  ⟨some 26, none, .bini .add (.c (.int .i64 1)) (.t 25)⟩,
  ⟨some 7, none, .mv (.t 26)⟩])
 (.seq (.reg [⟨some 27, none, .mv (.t 0)⟩,
  ⟨some 28, none, .mv (.t 7)⟩,
  ⟨some 29, none, .call 45 [(.t 27), (.t 28)]⟩,
  ⟨some 8, none, .alloc [.int .i64 0, .int .i64 0, .int .i64 0, .int .i64 0, .int .i64 0, .str [], .str [], .str [], .emp]⟩,
  ⟨none, none, .store 9 (.t 8) (.t 29)⟩])
 (.seq (.seq (.reg [⟨some 30, none, .mv (.t 0)⟩,
  ⟨some 31, none, .call 44 [(.t 30), (.c (.int .i64 3))]⟩,
  ⟨some 32, none, .bini .gtr (.t 31) (.c (.int .i64 0))⟩])
 (.cond (.t 32)
 (.reg [⟨some 33, none, .mv (.t 0)⟩,
  ⟨some 34, none, .mv (.t 7)⟩,
  ⟨some 35, none, .call 46 [(.t 33), (.t 34)]⟩,
  ⟨none, none, .store 9 (.t 8) (.t 35)⟩])
 .skip))
 (.reg [⟨some 37, none, .load true 41 (.t 5)⟩,
  ⟨some 38, none, .load true 9 (.t 8)⟩,
  ⟨some 39, none, .call 47 [(.t 37), (.t 38)]⟩,
  ⟨some 36, none, .mv (.t 39)⟩,
  ⟨some 40, none, .ext (.t 36) 0⟩,
  ⟨some 41, none, .ext (.t 36) 1⟩,
  ⟨none, none, .store 41 (.t 5) (.t 40)⟩])))))
 (.reg [⟨some 22, none, .mv (.t 6)⟩,
  ⟨some 23, none, .bini .add (.t 22) (.c (.int .i64 1))⟩,
  ⟨some 6, none, .mv (.t 23)⟩]))))))
 (.seq (.reg [⟨some 42, none, .faddr 39 (.t 5)⟩,
  ⟨some 43, none, .load false 1 (.t 42)⟩,
  ⟨some 4, none, .mv (.t 43)⟩])
 .ret))))
theorem d14 : FnD Tryz.prog 14 2 42 [.tmp 4] c14 := ⟨Tryz.f14, _, Tryz.func14, by kernel_rfl, rfl, rfl, by kernel_rfl, by kernel_rfl⟩

end Go.Proofs.YtemjlopoffjmpaaGreat.Abs
/-
  The code of some functions in the abstract layer's form, each checked against the program's own. Written by gen.py.
-/
namespace Go.Proofs.YtemjlopoffjmpaaGreat.Abs
open Go

/-- palimp/palimpref25.Do -/
def c47 : ACode :=
 (.seq (.reg [⟨some 2, none, .box (.t 0)⟩,
  ⟨some 3, none, .box (.t 1)⟩,
  ⟨some 4, none, .alloc [.emp, .emp, .int .i64 0, .int .i64 0, .bool false, .int .i64 0, .int .i64 0, .int .u32 0, .int .u32 0, .int .u32 0, .int .u32 0, .int .i64 0, .int .i64 0, .int .i64 0, .int .i64 0, .int .i64 0, .int .u32 0, .int .u32 0, .int .u32 0, .int .u32 0, .int .i64 0, .int .i64 0, .int .u32 0, .int .u32 0, .int .u32 0, .int .u32 0, .int .i64 0, .int .i64 0, .int .u32 0, .int .u32 0, .int .u32 0, .int .u32 0, .int .i64 0, .emp, .emp, .emp, .emp, .int .i64 0, .int .i64 0, .emp, .bool false]⟩,
  ⟨some 5, none, .alloc [.int .i64 0, .str [], .int .i64 0, .int .i64 0, .int .i64 0, .int .i64 0, .emp, .int .i64 0]⟩])
 (.seq (.seq (.reg [⟨some 9, none, .faddr 0 (.t 3)⟩,
  ⟨some 10, none, .load false 1 (.t 9)⟩,
  ⟨some 11, none, .bini .lss (.t 10) (.c (.int .i64 1))⟩,
  ⟨some 12, none, .mv (.t 11)⟩,
  ⟨some 13, (some (12, false)), .faddr 0 (.t 3)⟩,
  ⟨some 14, (some (12, false)), .load false 1 (.t 13)⟩,
  ⟨some 15, (some (12, false)), .bini .gtr (.t 14) (.c (.int .i64 22))⟩,
  ⟨some 16, none, .pick (.t 12) (.c (.bool true)) (.t 15)⟩])
 (.cond (.t 16)
 (.seq (.reg [⟨some 17, none, .load true 41 (.t 2)⟩,
  ⟨some 18, none, .call 86 [(.t 17), (.c (.int .i64 1))]⟩,
  ⟨some 19, none, .ext (.t 18) 0⟩,
  ⟨some 20, none, .ext (.t 18) 1⟩,
  ⟨none, none, .store 41 (.t 4) (.t 19)⟩,
  ⟨none, none, .store 8 (.t 5) (.t 20)⟩])
 .ret)
 .skip))
 (.seq (.seq (.reg [⟨some 21, none, .faddr 40 (.t 2)⟩,
  ⟨some 22, none, .load false 1 (.t 21)⟩,
  ⟨some 23, none, .mv (.t 22)⟩,
  ⟨some 24, (some (23, true)), .faddr 0 (.t 3)⟩,
  ⟨some 25, (some (23, true)), .load false 1 (.t 24)⟩,
  ⟨some 26, (some (23, true)), .call 87 [(.t 25)]⟩,
  ⟨some 27, none, .pick (.t 23) (.t 26) (.c (.bool false))⟩])
 (.cond (.t 27)
 (.seq (.reg [⟨some 28, none, .load true 41 (.t 2)⟩,
  ⟨some 29, none, .call 86 [(.t 28), (.c (.int .i64 11))]⟩,
  ⟨some 30, none, .ext (.t 29) 0⟩,
  ⟨some 31, none, .ext (.t 29) 1⟩,
  ⟨none, none, .store 41 (.t 4) (.t 30)⟩,
  ⟨none, none, .store 8 (.t 5) (.t 31)⟩])
 .ret)
 .skip))
 (.seq (.block 0
 (.seq (.reg [⟨some 33, none, .faddr 0 (.t 3)⟩,
  ⟨some 34, none, .load false 1 (.t 33)⟩,
  ⟨some 35, none, .bini .leq (.t 34) (.c (.int .i64 8))⟩,
  ⟨some 32, none, .mv (.t 35)⟩])
 (.cond (.t 32)
 (.seq (.reg [⟨some 36, none, .load true 41 (.t 2)⟩,
  ⟨some 37, none, .load true 9 (.t 3)⟩,
  ⟨some 38, none, .call 88 [(.t 36), (.t 37)]⟩,
  ⟨some 39, none, .ext (.t 38) 0⟩,
  ⟨some 40, none, .ext (.t 38) 1⟩,
  ⟨none, none, .store 41 (.t 4) (.t 39)⟩,
  ⟨none, none, .store 8 (.t 5) (.t 40)⟩])
 .ret)
 (.seq (.reg [⟨some 42, none, .faddr 0 (.t 3)⟩,
  ⟨some 43, none, .load false 1 (.t 42)⟩,
  ⟨some 44, none, .bini .leq (.t 43) (.c (.int .i64 14))⟩,
  ⟨some 41, none, .mv (.t 44)⟩])
 (.cond (.t 41)
 (.seq (.reg [⟨some 45, none, .load true 41 (.t 2)⟩,
  ⟨some 46, none, .load true 9 (.t 3)⟩,
  ⟨some 47, none, .call 89 [(.t 45), (.t 46)]⟩,
  ⟨some 48, none, .ext (.t 47) 0⟩,
  ⟨some 49, none, .ext (.t 47) 1⟩,
  ⟨none, none, .store 41 (.t 4) (.t 48)⟩,
  ⟨none, none, .store 8 (.t 5) (.t 49)⟩])
 .ret)
 .skip)))))
 (.seq (.reg [⟨some 50, none, .build [.int .i64 0, .str [], .int .i64 0, .int .i64 0, .int .i64 0, .int .i64 0, .emp, .int .i64 0] []⟩,
  ⟨some 6, none, .alloc [.int .i64 0, .str [], .int .i64 0, .int .i64 0, .int .i64 0, .int .i64 0, .emp, .int .i64 0]⟩,
  ⟨none, none, .store 8 (.t 6) (.t 50)⟩])
 (.seq (.seq (.reg [⟨some 51, none, .faddr 0 (.t 3)⟩,
  ⟨some 52, none, .load false 1 (.t 51)⟩])
 (.block 1
 (.seq (.reg [⟨some 64, none, .bini .eql (.t 52) (.c (.int .i64 15))⟩,
  ⟨some 63, none, .mv (.t 64)⟩])
 (.cond (.t 63)
 (.seq (.seq (.reg [⟨some 65, none, .faddr 2 (.t 3)⟩,
  ⟨some 66, none, .load false 1 (.t 65)⟩,
  ⟨some 67, none, .bini .lss (.t 66) (.c (.int .i64 0))⟩,
  ⟨some 68, none, .mv (.t 67)⟩,
  ⟨some 69, (some (68, false)), .faddr 2 (.t 3)⟩,
  ⟨some 70, (some (68, false)), .load false 1 (.t 69)⟩,
  ⟨some 71, (some (68, false)), .bini .gtr (.t 70) (.c (.int .i64 1))⟩,
  ⟨some 72, none, .pick (.t 68) (.c (.bool true)) (.t 71)⟩])
 (.cond (.t 72)
 (.seq (.reg [⟨some 73, none, .load true 41 (.t 2)⟩,
  ⟨some 74, none, .call 86 [(.t 73), (.c (.int .i64 1))]⟩,
  ⟨some 75, none, .ext (.t 74) 0⟩,
  ⟨some 76, none, .ext (.t 74) 1⟩,
  ⟨none, none, .store 41 (.t 4) (.t 75)⟩,
  ⟨none, none, .store 8 (.t 5) (.t 76)⟩])
 .ret)
 .skip))
 (.seq (.reg [⟨some 78, none, .load true 41 (.t 2)⟩,
  ⟨some 79, none, .faddr 2 (.t 3)⟩,
  ⟨some 80, none, .load false 1 (.t 79)⟩,
  ⟨some 81, none, .bini .eql (.t 80) (.c (.int .i64 1))⟩,
  ⟨some 82, none, .call 90 [(.t 78), (.t 81)]⟩,
  ⟨some 77, none, .mv (.t 82)⟩,
  ⟨some 83, none, .ext (.t 77) 0⟩,
  ⟨some 84, none, .ext (.t 77) 1⟩,
  ⟨none, none, .store 41 (.t 2) (.t 83)⟩,
  ⟨some 85, none, .faddr 0 (.t 6)⟩,
  ⟨none, none, .store 1 (.t 85) (.t 84)⟩])
 (.seq (.reg [⟨some 86, none, .faddr 0 (.t 6)⟩,
  ⟨some 87, none, .load false 1 (.t 86)⟩,
  ⟨some 88, none, .bini .eql (.t 87) (.c (.int .i64 0))⟩])
 (.cond (.t 88)
 (.reg [⟨some 89, none, .faddr 11 (.t 2)⟩,
  ⟨some 90, none, .faddr 0 (.t 89)⟩,
  ⟨some 91, none, .load false 1 (.t 90)⟩,
  ⟨some 92, none, .faddr 7 (.t 6)⟩,
  ⟨none, none, .store 1 (.t 92) (.t 91)⟩])
 .skip))))
 (.seq (.reg [⟨some 94, none, .bini .eql (.t 52) (.c (.int .i64 16))⟩,
  ⟨some 93, none, .mv (.t 94)⟩])
 (.cond (.t 93)
 (.reg [⟨some 96, none, .load true 41 (.t 2)⟩,
  ⟨some 97, none, .call 91 [(.t 96)]⟩,
  ⟨some 95, none, .mv (.t 97)⟩,
  ⟨some 98, none, .ext (.t 95) 0⟩,
  ⟨some 99, none, .ext (.t 95) 1⟩,
  ⟨none, none, .store 41 (.t 2) (.t 98)⟩,
  ⟨some 100, none, .faddr 0 (.t 6)⟩,
  ⟨none, none, .store 1 (.t 100) (.t 99)⟩])
 (.seq (.reg [⟨some 102, none, .bini .eql (.t 52) (.c (.int .i64 17))⟩,
  ⟨some 101, none, .mv (.t 102)⟩])
 (.cond (.t 101)
 (.reg [⟨some 104, none, .load true 41 (.t 2)⟩,
  ⟨some 105, none, .call 92 [(.t 104)]⟩,
  ⟨some 103, none, .mv (.t 105)⟩,
  ⟨some 106, none, .ext (.t 103) 0⟩,
  ⟨some 107, none, .ext (.t 103) 1⟩,
  ⟨none, none, .store 41 (.t 2) (.t 106)⟩,
  ⟨some 108, none, .faddr 0 (.t 6)⟩,
  ⟨none, none, .store 1 (.t 108) (.t 107)⟩])
 (.seq (.reg [⟨some 110, none, .bini .eql (.t 52) (.c (.int .i64 18))⟩,
  ⟨some 109, none, .mv (.t 110)⟩])
 (.cond (.t 109)
 (.seq (.reg [⟨some 112, none, .faddr 0 (.t 2)⟩,
  ⟨some 113, none, .load true 5 (.t 112)⟩,
  ⟨some 114, none, .faddr 2 (.t 3)⟩,
  ⟨some 115, none, .load false 1 (.t 114)⟩,
  ⟨some 116, none, .call 93 [(.t 113), (.t 115)]⟩,
  ⟨some 111, none, .mv (.t 116)⟩,
  ⟨some 117, none, .ext (.t 111) 0⟩,
  ⟨some 118, none, .ext (.t 111) 1⟩,
  ⟨some 7, none, .alloc [.emp, .emp, .int .i64 0, .int .i64 0, .bool false, .int .i64 0, .int .i64 0, .int .u32 0, .int .u32 0, .int .u32 0, .int .u32 0, .int .i64 0, .int .i64 0, .int .i64 0, .int .i64 0, .int .i64 0, .int .u32 0, .int .u32 0, .int .u32 0, .int .u32 0, .int .i64 0, .int .i64 0, .int .u32 0, .int .u32 0, .int .u32 0, .int .u32 0, .int .i64 0, .int .i64 0, .int .u32 0, .int .u32 0, .int .u32 0, .int .u32 0, .int .i64 0, .emp, .emp, .emp, .emp, .int .i64 0, .int .i64 0, .emp, .bool false]⟩,
  ⟨none, none, .store 41 (.t 7) (.t 117)⟩,
  ⟨some 8, none, .mv (.t 118)⟩])
 (.seq (.seq (.reg [⟨some 119, none, .mv (.t 8)⟩,
  ⟨some 120, none, .bini .neq (.t 119) (.c (.int .i64 0))⟩])
 (.cond (.t 120)
 (.seq (.reg [⟨some 121, none, .faddr 0 (.t 7)⟩,
  ⟨some 122, none, .load true 5 (.t 121)⟩,
  ⟨some 123, none, .faddr 0 (.t 2)⟩,
  ⟨none, none, .store 5 (.t 123) (.t 122)⟩])
 (.seq (.reg [⟨some 124, none, .load true 41 (.t 2)⟩,
  ⟨some 125, none, .mv (.t 8)⟩,
  ⟨some 126, none, .call 86 [(.t 124), (.t 125)]⟩,
  ⟨some 127, none, .ext (.t 126) 0⟩,
  ⟨some 128, none, .ext (.t 126) 1⟩,
  ⟨none, none, .store 41 (.t 4) (.t 127)⟩,
  ⟨none, none, .store 8 (.t 5) (.t 128)⟩])
 .ret))
 .skip))
 (.dregE [[(0, ⟨some 129, none, .load true 41 (.t 7)⟩),
  (1, ⟨some 130, none, .faddr 11 (.t 7)⟩),
  (2, ⟨some 131, none, .faddr 0 (.t 130)⟩),
  (3, ⟨some 132, none, .load false 1 (.t 131)⟩),
  (4, ⟨none, none, .store 41 (.t 2) (.t 129)⟩)],
  [(5, ⟨some 133, none, .faddr 7 (.t 6)⟩)],
  [(6, ⟨none, none, .store 1 (.t 133) (.t 132)⟩)]]
  [[], [], [1], [1, 2], [0], [0, 1, 2, 3, 4], [0, 1, 2, 3, 4, 5]])))
 (.seq (.seq (.reg [⟨some 135, none, .bini .eql (.t 52) (.c (.int .i64 19))⟩,
  ⟨some 134, none, .mv (.t 135)⟩])
 (.cond (.t 134)
 .skip
 (.reg [⟨some 136, none, .bini .eql (.t 52) (.c (.int .i64 20))⟩,
  ⟨some 134, none, .mv (.t 136)⟩])))
 (.cond (.t 134)
 (.seq (.seq (.reg [⟨some 137, none, .faddr 2 (.t 3)⟩,
  ⟨some 138, none, .load false 1 (.t 137)⟩,
  ⟨some 139, none, .bini .lss (.t 138) (.c (.int .i64 0))⟩,
  ⟨some 140, none, .mv (.t 139)⟩,
  ⟨some 141, (some (140, false)), .faddr 2 (.t 3)⟩,
  ⟨some 142, (some (140, false)), .load false 1 (.t 141)⟩,
  ⟨some 143, (some (140, false)), .bini .gtr (.t 142) (.c (.int .i64 200))⟩,
  ⟨some 144, none, .pick (.t 140) (.c (.bool true)) (.t 143)⟩])
 (.cond (.t 144)
 (.seq (.reg [⟨some 145, none, .load true 41 (.t 2)⟩,
  ⟨some 146, none, .call 86 [(.t 145), (.c (.int .i64 1))]⟩,
  ⟨some 147, none, .ext (.t 146) 0⟩,
  ⟨some 148, none, .ext (.t 146) 1⟩,
  ⟨none, none, .store 41 (.t 4) (.t 147)⟩,
  ⟨none, none, .store 8 (.t 5) (.t 148)⟩])
 .ret)
 .skip))
 (.seq (.reg [⟨some 149, none, .faddr 0 (.t 3)⟩,
  ⟨some 150, none, .load false 1 (.t 149)⟩,
  ⟨some 151, none, .bini .eql (.t 150) (.c (.int .i64 19))⟩])
 (.cond (.t 151)
 (.reg [⟨some 152, none, .faddr 2 (.t 3)⟩,
  ⟨some 153, none, .load false 1 (.t 152)⟩,
  ⟨some 154, none, .faddr 0 (.t 2)⟩,
  ⟨some 155, none, .faddr 3 (.t 154)⟩,
  ⟨none, none, .store 1 (.t 155) (.t 153)⟩])
 (.reg [⟨some 156, none, .faddr 2 (.t 3)⟩,
  ⟨some 157, none, .load false 1 (.t 156)⟩,
  ⟨some 158, none, .faddr 0 (.t 2)⟩,
  ⟨some 159, none, .faddr 2 (.t 158)⟩,
  ⟨none, none, .store 1 (.t 159) (.t 157)⟩]))))
 (.seq (.reg [⟨some 161, none, .bini .eql (.t 52) (.c (.int .i64 21))⟩,
  ⟨some 160, none, .mv (.t 161)⟩])
 (.cond (.t 160)
 (.reg [⟨some 162, none, .faddr 0 (.t 2)⟩,
  ⟨some 163, none, .load true 5 (.t 162)⟩,
  ⟨some 164, none, .faddr 8 (.t 3)⟩,
  ⟨some 165, none, .load false 1 (.t 164)⟩,
  ⟨some 166, none, .call 94 [(.t 163), (.t 165)]⟩,
  ⟨some 167, none, .build [.emp, .emp, .int .i64 0, .int .i64 0, .bool false, .int .i64 0, .int .i64 0, .int .u32 0, .int .u32 0, .int .u32 0, .int .u32 0, .int .i64 0, .int .i64 0, .int .i64 0, .int .i64 0, .int .i64 0, .int .u32 0, .int .u32 0, .int .u32 0, .int .u32 0, .int .i64 0, .int .i64 0, .int .u32 0, .int .u32 0, .int .u32 0, .int .u32 0, .int .i64 0, .int .i64 0, .int .u32 0, .int .u32 0, .int .u32 0, .int .u32 0, .int .i64 0, .emp, .emp, .emp, .emp, .int .i64 0, .int .i64 0, .emp, .bool false] [(0, 5, (.t 166))]⟩,
  ⟨none, none, .store 41 (.t 2) (.t 167)⟩])
 (.reg [⟨some 53, none, .faddr 0 (.t 2)⟩,
  ⟨some 54, none, .load true 5 (.t 53)⟩,
  ⟨some 55, none, .faddr 2 (.t 3)⟩,
  ⟨some 56, none, .load false 1 (.t 55)⟩,
  ⟨some 57, none, .faddr 3 (.t 3)⟩,
  ⟨some 58, none, .load false 1 (.t 57)⟩,
  ⟨some 59, none, .faddr 4 (.t 3)⟩,
  ⟨some 60, none, .load false 1 (.t 59)⟩,
  ⟨some 61, none, .call 95 [(.t 54), (.t 56), (.t 58), (.t 60)]⟩,
  ⟨some 62, none, .faddr 0 (.t 2)⟩,
  ⟨none, none, .store 5 (.t 62) (.t 61)⟩])))))))))))))))
 (.seq (.dregE [[(0, ⟨some 168, none, .load true 41 (.t 2)⟩),
  (1, ⟨some 169, none, .load true 8 (.t 6)⟩),
  (2, ⟨none, none, .store 41 (.t 4) (.t 168)⟩)],
  [(3, ⟨none, none, .store 8 (.t 5) (.t 169)⟩)]]
  [[], [], [0], [0, 1, 2]])
 .ret)))))))
theorem d47 : FnD Tryz.prog 47 2 168 [.cell 4 true 41, .cell 5 true 8] c47 := ⟨Tryz.f47, _, Tryz.func47, by kernel_rfl, rfl, rfl, by kernel_rfl, by kernel_rfl⟩

end Go.Proofs.YtemjlopoffjmpaaGreat.Abs
set_option linter.unusedSimpArgs false
set_option linter.unusedVariables false
namespace Go.Proofs.YtemjlopoffjmpaaGreat.Abs
open Go Go.Proofs

theorem files88 (l : List Dset) (hM : MayL l) (nx k i m : Int) (hk : 1 ≤ k ∧ k ≤ 5) (p q t : List UInt8) (hp : p.length ≤ 1000000) (hq : q.length ≤ 1000000) (ht : t.length ≤ 1000000) (H : AH) :
    C Tryz.prog 88 [.agg (poolC nx (asets l)), editA k i m p q t] H (fun y H' => H' = H ∧ PoolR nx l y) :=
  (C_pure (K0 := PoolR nx l) (files88_0 l hM nx k i m hk p q t hp hq ht) (fun τ => renL_bare τ _ (by simp [bareL, bare, asets, poolC, editA])) (by intro x hx τ; exact ren_bare _ _ hx.bare) H).mono fun y H' h => ⟨h.2, h.1⟩
theorem sets89 (l : List Dset) (hM : MayL l) (nx k i m : Int) (hk : 9 ≤ k ∧ k ≤ 14) (hnx : 0 ≤ nx ∧ nx ≤ 1000000) (p q t : List UInt8) (H : AH) :
    C Tryz.prog 89 [.agg (poolC nx (asets l)), editA k i m p q t] H (fun y H' => H' = H ∧ PoolR nx l y) :=
  (C_pure (K0 := PoolR nx l) (sets89_0 l hM nx k i m hk hnx p q t) (fun τ => renL_bare τ _ (by simp [bareL, bare, asets, poolC, editA])) (by intro x hx τ; exact ren_bare _ _ hx.bare) H).mono fun y H' h => ⟨h.2, h.1⟩

set_option maxRecDepth 8000 in
set_option maxHeartbeats 2000000 in
theorem do47_0 (l : List Dset) (hM : MayL l) (nx k i m : Int) (hk : 1 ≤ k ∧ (k ≤ 5 ∨ 9 ≤ k) ∧ k ≤ 14) (hnx : 0 ≤ nx ∧ nx ≤ 1000000) (p q t : List UInt8) (hp : p.length ≤ 1000000) (hq : q.length ≤ 1000000) (ht : t.length ≤ 1000000) :
    C Tryz.prog 47 [.agg (poolC nx (asets l)), editA k i m p q t] [] (fun y H' => PoolR nx l y ∧ H' = []) := by
  have h1 : ¬ k < 1 := by omega
  have h22 : ¬ 22 < k := by omega
  have h14 : k ≤ 14 := hk.2.2
  refine C_body' d47 rfl (WT_ok ?_)
  unfold c47
  by_cases h8 : k ≤ 8
  · simp only [h1, h22, h8, poolC, editA, asets, lay, iaddr_node, pnode, wk3, onStO, bareL, toCl, onApO, chunks, wk, emb, unAgg, ares, aresL, ares1, tupled, forall_const, Nat.reduceAdd, Nat.reduceSub, Nat.reduceMul, Nat.reduceLeDiff, Nat.reduceEqDiff, Nat.reduceBEq, Int.reduceLE, Int.reduceLT, Int.reduceEq, Int.reduceNe, Int.reduceAdd, Int.reduceSub, Int.reduceToNat, Int.reduceNeg, ↓reduceIte, reduceCtorEq, cellsOf, cellA, lay, fillA]
    refine CT_ok (files88 l hM nx k i m (by omega) p q t hp hq ht _) ?_
    rintro _ _ ⟨rfl, l', nx', e, m', r1, r2, r3, r4, rfl⟩
    simp only [toldA, poolC, ansC, asets, lay, iaddr_node, pnode, wk3, onStO, bareL, toCl, onApO, chunks, wk, emb, unAgg, ares, aresL, ares1, tupled, forall_const, Nat.reduceAdd, Nat.reduceSub, Nat.reduceMul, Nat.reduceLeDiff, Nat.reduceEqDiff, Nat.reduceBEq, Int.reduceLE, Int.reduceLT, Int.reduceEq, Int.reduceNe, Int.reduceAdd, Int.reduceSub, Int.reduceToNat, Int.reduceNeg, ↓reduceIte, reduceCtorEq, cellsOf, cellA, lay, fillA]
    exact KWk_bare (told_bare nx' l' e m') ⟨⟨l', nx', e, m', r1, r2, r3, r4, rfl⟩, rfl⟩
  · simp only [h1, h22, h8, h14, poolC, editA, asets, lay, iaddr_node, pnode, wk3, onStO, bareL, toCl, onApO, chunks, wk, emb, unAgg, ares, aresL, ares1, tupled, forall_const, Nat.reduceAdd, Nat.reduceSub, Nat.reduceMul, Nat.reduceLeDiff, Nat.reduceEqDiff, Nat.reduceBEq, Int.reduceLE, Int.reduceLT, Int.reduceEq, Int.reduceNe, Int.reduceAdd, Int.reduceSub, Int.reduceToNat, Int.reduceNeg, ↓reduceIte, reduceCtorEq, cellsOf, cellA, lay, fillA]
    refine CT_ok (sets89 l hM nx k i m (by omega) hnx p q t _) ?_
    rintro _ _ ⟨rfl, l', nx', e, m', r1, r2, r3, r4, rfl⟩
    simp only [toldA, poolC, ansC, asets, lay, iaddr_node, pnode, wk3, onStO, bareL, toCl, onApO, chunks, wk, emb, unAgg, ares, aresL, ares1, tupled, forall_const, Nat.reduceAdd, Nat.reduceSub, Nat.reduceMul, Nat.reduceLeDiff, Nat.reduceEqDiff, Nat.reduceBEq, Int.reduceLE, Int.reduceLT, Int.reduceEq, Int.reduceNe, Int.reduceAdd, Int.reduceSub, Int.reduceToNat, Int.reduceNeg, ↓reduceIte, reduceCtorEq, cellsOf, cellA, lay, fillA]
    exact KWk_bare (told_bare nx' l' e m') ⟨⟨l', nx', e, m', r1, r2, r3, r4, rfl⟩, rfl⟩
theorem do47 (l : List Dset) (hM : MayL l) (nx k i m : Int) (hk : 1 ≤ k ∧ (k ≤ 5 ∨ 9 ≤ k) ∧ k ≤ 14) (hnx : 0 ≤ nx ∧ nx ≤ 1000000) (p q t : List UInt8) (hp : p.length ≤ 1000000) (hq : q.length ≤ 1000000) (ht : t.length ≤ 1000000) (H : AH) :
    C Tryz.prog 47 [.agg (poolC nx (asets l)), editA k i m p q t] H (fun y H' => H' = H ∧ PoolR nx l y) :=
  (C_pure (K0 := PoolR nx l) (do47_0 l hM nx k i m hk hnx p q t hp hq ht) (fun τ => renL_bare τ _ (by simp [bareL, bare, asets, poolC, editA])) (by intro x hx τ; exact ren_bare _ _ hx.bare) H).mono fun y H' h => ⟨h.2, h.1⟩
end Go.Proofs.YtemjlopoffjmpaaGreat.Abs
set_option linter.unusedSimpArgs false
set_option linter.unusedVariables false
namespace Go.Proofs.YtemjlopoffjmpaaGreat.Abs
open Go Go.Proofs

/-- A step, whatever else there is. -/
def StepAt (l : List UInt8) (n : Int) (R : AH) (x : AV) (H' : AH) : Prop := ∃ (k i m n' : Int) (p q t : List UInt8), p.length ≤ 1000000 ∧ q.length ≤ 1000000 ∧ t.length ≤ 1000000 ∧ (n ≤ n' ∧ 1 ≤ k ∧ (k ≤ 5 ∨ 9 ≤ k) ∧ k ≤ 14) ∧ x = editA k i m p q t ∧ H' = some [[.fz (l.map pbyte), .int .i64 n']] :: R
theorem set_at45 (l : List UInt8) (n i : Int) (hn : 0 ≤ n) (hl : l.length ≤ 1000000) (R : AH) :
    C Tryz.prog 45 [.ptr 0 0 0 1, .int .i64 i] (some [[.fz (l.map pbyte), .int .i64 n]] :: R) (StepAt l n R) := by
  refine C_call (K0 := StepR l n) [0] (by simp) (by simp) ?_ ?_
  · exact set45 l n i hn hl
  · rintro _ _ ⟨k, i', m, n', p, q, t, h1, h2, h3, h4, rfl, rfl⟩
    exact ⟨Nat.le_refl _, k, i', m, n', p, q, t, h1, h2, h3, h4, by simp [editA, ren, renL], by simp [back, setAll, picksH, renO, renL, ren]⟩
theorem edit_at (l : List UInt8) (n i : Int) (hn : 0 ≤ n) (hl : l.length ≤ 1000000) (R : AH) :
    C Tryz.prog 46 [.ptr 0 0 0 1, .int .i64 i] (some [[.fz (l.map pbyte), .int .i64 n]] :: R) (StepAt l n R) := by
  refine C_call (K0 := EditR l n) [0] (by simp) (by simp) ?_ ?_
  · exact edit_spec l n i hn hl
  · rintro _ _ ⟨k, i', m, n', p, q, t, h1, h2, h3, h4, rfl, rfl⟩
    exact ⟨Nat.le_refl _, k, i', m, n', p, q, t, h1, h2, h3, by omega, by simp [editA, ren, renL], by simp [back, setAll, picksH, renO, renL, ren]⟩
theorem over_at (l : List UInt8) (n : Int) (R : AH) :
    C Tryz.prog 43 [.ptr 0 0 0 1] (some [[.fz (l.map pbyte), .int .i64 n]] :: R) (fun x H' => x = .bool (decide ((l.map pbyte).length ≤ n)) ∧ H' = some [[.fz (l.map pbyte), .int .i64 n]] :: R) := by
  refine C_call (K0 := fun x H' => x = .bool (decide ((l.map pbyte).length ≤ n)) ∧ H' = [some [[.fz (l.map pbyte), .int .i64 n]]]) [0] (by simp) (by simp) ?_ ?_
  · exact over_spec (l.map pbyte) n
  · rintro _ _ ⟨rfl, rfl⟩
    exact ⟨Nat.le_refl _, by simp [ren], by simp [back, setAll, renO, renL, ren]⟩

theorem Wk_three {fr fr' : List AV} {o o' : AObj} {G : AH} (ho : o.map (renL (upTo 3)) = o) (ho' : o'.map (renL (upTo 3)) = o') (h : Tops fr' (renL (upTo 3) fr)) : Wk 1 fr (some o :: none :: some o' :: G) fr' [some o, none, some o'] := by
  have h1 := (Wk_forget (n0 := 1) (fr := fr) (H := some o :: none :: some o' :: G) 3 (by omega)).trans (Wk_tops h)
  have e : mapH (renL (upTo 3)) ((some o :: none :: some o' :: G).take 3) = [some o, none, some o'] := by
    simp only [List.take_succ_cons, List.take_zero, mapH, List.map_cons, List.map_nil, Option.map_some, Option.map_none, ho, ho']
  rwa [e] at h1
theorem renO_pool (τ : Nat → Option Nat) (nx : Int) (l : List Dset) : List.map (renL τ) [poolC nx (asets l)] = [poolC nx (asets l)] := by simp [poolC, asets, renL, ren]
theorem renO_picks (τ : Nat → Option Nat) (l : List UInt8) (n : Int) : List.map (renL τ) [[AV.fz (l.map pbyte), .int .i64 n]] = [[AV.fz (l.map pbyte), .int .i64 n]] := by simp [renL, ren]

def firstD : Dset := ⟨1, 1, 0, 0, newA⟩
theorem firstD_may : MayL [firstD] := by
  refine ⟨by decide, by simp, fun d hd => ?_, fun i => i.toNat, fun d hd o ho e => ?_⟩
  · rw [List.mem_singleton] at hd
    subst hd
    exact ⟨⟨by decide, by decide⟩, ⟨by decide, by decide⟩, newA_wf, .inl rfl, fun e => absurd e (by decide), fun _ => .inl rfl⟩
  · rw [List.mem_singleton] at hd ho
    subst hd; subst ho
    exact absurd e (by decide)
def SetsR (l : List UInt8) (n : Int) (x : AV) (H' : AH) : Prop := ∃ L n', MayL L ∧ L ≠ [] ∧ n ≤ n' ∧ x = asets L ∧ H' = picksH l n'
theorem KWk_list {l : List UInt8} {n n' : Int} {L : List Dset} {R : AH} (h : MayL L) (hne : L ≠ []) (hn : n ≤ n') : KWk 1 (SetsR l n) (asets L) (some [[.fz (l.map pbyte), .int .i64 n']] :: R) := by
  refine ⟨_, _, ?_, L, n', h, hne, hn, rfl, rfl⟩
  have h := Wk_forget (n0 := 1) (fr := [asets L]) (H := some [[.fz (l.map pbyte), .int .i64 n']] :: R) 1 (Nat.le_refl _)
  simpa [mapH, renL, ren, asets, picksH] using h
theorem Wk_first {fr fr' : List AV} (l : List UInt8) (n : Int) (h : Tops fr' (renL (upTo 3) (frzL 1 [pdset firstD] fr))) :
    Wk 1 fr [some [[.fz (l.map pbyte), .int .i64 n]], some [cellD firstD], some [poolC 2 (.own 1 5 0 1 1)]] fr' [some [[.fz (l.map pbyte), .int .i64 n]], none, some [poolC 2 (asets [firstD])]] := by
  have h1 := Wk_freeze (n0 := 1) (fr := fr) (H := [some [[.fz (l.map pbyte), .int .i64 n]], some [cellD firstD], some [poolC 2 (.own 1 5 0 1 1)]]) 1 [pdset firstD] rfl
  have e : mapH (frzL 1 [pdset firstD]) (List.set [some [[AV.fz (l.map pbyte), .int .i64 n]], some [cellD firstD], some [poolC 2 (.own 1 5 0 1 1)]] 1 none) = [some [[.fz (l.map pbyte), .int .i64 n]], none, some [poolC 2 (asets [firstD])]] := by
    simp [mapH, frzL, frz, poolC, asets]
  rw [e] at h1
  exact h1.trans (Wk_three (renO_picks _ l n) (renO_pool _ _ _) h)
set_option maxRecDepth 8000 in
set_option maxHeartbeats 4000000 in
/-- palimpmade.Sets -/
theorem sets14 (l : List UInt8) (n : Int) (most : Nat) (hm : most ≤ 1000) (hn : 0 ≤ n) (hl : l.length ≤ 1000000) :
    C Tryz.prog 14 [.ptr 0 0 0 1, .int .i64 most] (picksH l n) (SetsR l n) := by
  refine C_body' d14 rfl (WT_ok ?_)
  unfold c14
  simp only [picksH, lay, iaddr_node, pnode, wk3, onStO, bareL, toCl, onApO, chunks, wk, emb, unAgg, ares, aresL, ares1, tupled, forall_const, Nat.reduceAdd, Nat.reduceSub, Nat.reduceMul, Nat.reduceLeDiff, Nat.reduceEqDiff, Nat.reduceBEq, Int.reduceLE, Int.reduceLT, Int.reduceEq, Int.reduceNe, Int.reduceAdd, Int.reduceSub, Int.reduceToNat, Int.reduceNeg, ↓reduceIte, reduceCtorEq, cellsOf, cellA, lay, fillA]
  refine CT_ok (new_spec _) ?_
  rintro _ _ ⟨rfl, rfl⟩
  simp only [aset, lay, iaddr_node, pnode, wk3, onStO, bareL, toCl, onApO, chunks, wk, emb, unAgg, ares, aresL, ares1, tupled, forall_const, Nat.reduceAdd, Nat.reduceSub, Nat.reduceMul, Nat.reduceLeDiff, Nat.reduceEqDiff, Nat.reduceBEq, Int.reduceLE, Int.reduceLT, Int.reduceEq, Int.reduceNe, Int.reduceAdd, Int.reduceSub, Int.reduceToNat, Int.reduceNeg, ↓reduceIte, reduceCtorEq, cellsOf, cellA, lay, fillA]
  refine WT_loop (W_wk (fr' := [.ptr 0 0 0 1, .int .i64 most, .top, .top, .emp, .ptr 2 0 0 1, .int .i64 (0 : Nat)] ++ List.replicate 37 .top) (Wk_first l n ?_) (W_loop (fun nn fr H' => ∃ (j : Nat) (L : List Dset) (nx n' : Int), j ≤ most ∧ nn = most - j ∧ MayL L ∧ L ≠ [] ∧ (0 ≤ nx ∧ nx ≤ 2 + j) ∧ n ≤ n' ∧ H' = [some [[.fz (l.map pbyte), .int .i64 n']], none, some [poolC nx (asets L)]] ∧
    fr = [.ptr 0 0 0 1, .int .i64 most, .top, .top, .emp, .ptr 2 0 0 1, .int .i64 j] ++ List.replicate 37 .top) most ⟨0, [firstD], 2, n, by omega, rfl, firstD_may, by simp, by omega, by omega, rfl, rfl⟩ ?_))
  · simp only [frzL, frz, renL, ren, upTo, show (0 : Nat) < 3 by omega, show (2 : Nat) < 3 by omega, show ¬ (0 : Nat) = 1 by omega, show ¬ (2 : Nat) = 1 by omega, if_true, if_false, List.replicate_succ, List.replicate_zero, List.cons_append, List.nil_append, Tops_top, Tops_same, Tops_nil, Int.natCast_zero]
  rintro nn fr H ⟨j, L, nx, n', hj, rfl, hL, hne, hnx, hn', rfl, rfl⟩
  refine WT_ok ?_
  simp only [poolC, asets, lay, iaddr_node, pnode, wk3, onStO, bareL, toCl, onApO, chunks, wk, emb, unAgg, ares, aresL, ares1, tupled, forall_const, Nat.reduceAdd, Nat.reduceSub, Nat.reduceMul, Nat.reduceLeDiff, Nat.reduceEqDiff, Nat.reduceBEq, Int.reduceLE, Int.reduceLT, Int.reduceEq, Int.reduceNe, Int.reduceAdd, Int.reduceSub, Int.reduceToNat, Int.reduceNeg, ↓reduceIte, reduceCtorEq, cellsOf, cellA, lay, fillA]
  by_cases h : (j : Int) < most
  case neg =>
    simp only [h, lay, iaddr_node, pnode, wk3, onStO, bareL, toCl, onApO, chunks, wk, emb, unAgg, ares, aresL, ares1, tupled, forall_const, Nat.reduceAdd, Nat.reduceSub, Nat.reduceMul, Nat.reduceLeDiff, Nat.reduceEqDiff, Nat.reduceBEq, Int.reduceLE, Int.reduceLT, Int.reduceEq, Int.reduceNe, Int.reduceAdd, Int.reduceSub, Int.reduceToNat, Int.reduceNeg, ↓reduceIte, reduceCtorEq, cellsOf, cellA, lay, fillA]
    exact KWk_list hL hne hn'
  simp only [h, lay, iaddr_node, pnode, wk3, onStO, bareL, toCl, onApO, chunks, wk, emb, unAgg, ares, aresL, ares1, tupled, forall_const, Nat.reduceAdd, Nat.reduceSub, Nat.reduceMul, Nat.reduceLeDiff, Nat.reduceEqDiff, Nat.reduceBEq, Int.reduceLE, Int.reduceLT, Int.reduceEq, Int.reduceNe, Int.reduceAdd, Int.reduceSub, Int.reduceToNat, Int.reduceNeg, ↓reduceIte, reduceCtorEq, cellsOf, cellA, lay, fillA]
  refine CT_ok (over_at l n' _) ?_
  rintro _ _ ⟨rfl, rfl⟩
  simp only [h, lay, iaddr_node, pnode, wk3, onStO, bareL, toCl, onApO, chunks, wk, emb, unAgg, ares, aresL, ares1, tupled, forall_const, Nat.reduceAdd, Nat.reduceSub, Nat.reduceMul, Nat.reduceLeDiff, Nat.reduceEqDiff, Nat.reduceBEq, Int.reduceLE, Int.reduceLT, Int.reduceEq, Int.reduceNe, Int.reduceAdd, Int.reduceSub, Int.reduceToNat, Int.reduceNeg, ↓reduceIte, reduceCtorEq, cellsOf, cellA, lay, fillA]
  refine guard_both ?_ ?_ <;> intro h2 <;> simp only [hy] at h2
  · simp only [h, h2, lay, iaddr_node, pnode, wk3, onStO, bareL, toCl, onApO, chunks, wk, emb, unAgg, ares, aresL, ares1, tupled, forall_const, Nat.reduceAdd, Nat.reduceSub, Nat.reduceMul, Nat.reduceLeDiff, Nat.reduceEqDiff, Nat.reduceBEq, Int.reduceLE, Int.reduceLT, Int.reduceEq, Int.reduceNe, Int.reduceAdd, Int.reduceSub, Int.reduceToNat, Int.reduceNeg, ↓reduceIte, reduceCtorEq, cellsOf, cellA, lay, fillA]
    have w2 : IntKind.i64.wrap ((j : Int) + 1) = (j : Int) + 1 := IntWalk.i64_in _ (by omega)
    refine CT_ok (num_at l n' 8 (by omega) hl _) ?_
    rintro _ H ⟨m1, n1, rfl, k1, k2, k3, k4, _, rfl⟩
    have g1 : m1 < 8 := k2 (by omega)
    have w1 : IntKind.i64.wrap (1 + m1) = 1 + m1 := IntWalk.i64_in _ (by omega)
    simp only [w1, lay, iaddr_node, pnode, wk3, onStO, bareL, toCl, onApO, chunks, wk, emb, unAgg, ares, aresL, ares1, tupled, forall_const, Nat.reduceAdd, Nat.reduceSub, Nat.reduceMul, Nat.reduceLeDiff, Nat.reduceEqDiff, Nat.reduceBEq, Int.reduceLE, Int.reduceLT, Int.reduceEq, Int.reduceNe, Int.reduceAdd, Int.reduceSub, Int.reduceToNat, Int.reduceNeg, ↓reduceIte, reduceCtorEq, cellsOf, cellA, lay, fillA]
    refine CT_ok (set_at45 l n1 (1 + m1) (by omega) hl _) ?_
    rintro _ H ⟨k, i, m, n2, p, q, t, hp, hq, ht, hk, rfl, rfl⟩
    simp only [editA, lay, iaddr_node, pnode, wk3, onStO, bareL, toCl, onApO, chunks, wk, emb, unAgg, ares, aresL, ares1, tupled, forall_const, Nat.reduceAdd, Nat.reduceSub, Nat.reduceMul, Nat.reduceLeDiff, Nat.reduceEqDiff, Nat.reduceBEq, Int.reduceLE, Int.reduceLT, Int.reduceEq, Int.reduceNe, Int.reduceAdd, Int.reduceSub, Int.reduceToNat, Int.reduceNeg, ↓reduceIte, reduceCtorEq, cellsOf, cellA, lay, fillA]
    refine CT_ok (num_at l n2 3 (by omega) hl _) ?_
    rintro _ H ⟨m3, n3, rfl, j1, j2, j3, j4, _, rfl⟩
    simp only [lay, iaddr_node, pnode, wk3, onStO, bareL, toCl, onApO, chunks, wk, emb, unAgg, ares, aresL, ares1, tupled, forall_const, Nat.reduceAdd, Nat.reduceSub, Nat.reduceMul, Nat.reduceLeDiff, Nat.reduceEqDiff, Nat.reduceBEq, Int.reduceLE, Int.reduceLT, Int.reduceEq, Int.reduceNe, Int.reduceAdd, Int.reduceSub, Int.reduceToNat, Int.reduceNeg, ↓reduceIte, reduceCtorEq, cellsOf, cellA, lay, fillA]
    by_cases h3 : 0 < m3
    · simp only [h3, lay, iaddr_node, pnode, wk3, onStO, bareL, toCl, onApO, chunks, wk, emb, unAgg, ares, aresL, ares1, tupled, forall_const, Nat.reduceAdd, Nat.reduceSub, Nat.reduceMul, Nat.reduceLeDiff, Nat.reduceEqDiff, Nat.reduceBEq, Int.reduceLE, Int.reduceLT, Int.reduceEq, Int.reduceNe, Int.reduceAdd, Int.reduceSub, Int.reduceToNat, Int.reduceNeg, ↓reduceIte, reduceCtorEq, cellsOf, cellA, lay, fillA]
      refine CT_ok (edit_at l n3 (1 + m1) (by omega) hl _) ?_
      rintro _ H ⟨k, i, m, n4, p, q, t, hp, hq, ht, hk, rfl, rfl⟩
      simp only [editA, lay, iaddr_node, pnode, wk3, onStO, bareL, toCl, onApO, chunks, wk, emb, unAgg, ares, aresL, ares1, tupled, forall_const, Nat.reduceAdd, Nat.reduceSub, Nat.reduceMul, Nat.reduceLeDiff, Nat.reduceEqDiff, Nat.reduceBEq, Int.reduceLE, Int.reduceLT, Int.reduceEq, Int.reduceNe, Int.reduceAdd, Int.reduceSub, Int.reduceToNat, Int.reduceNeg, ↓reduceIte, reduceCtorEq, cellsOf, cellA, lay, fillA]
      refine CT_ok (do47 L hL nx k i m hk.2 (by omega) p q t hp hq ht _) ?_
      rintro _ _ ⟨rfl, L', nx', e, m', r1, r2, r3, r4, rfl⟩
      simp only [toldA, poolC, ansC, asets, w2, lay, iaddr_node, pnode, wk3, onStO, bareL, toCl, onApO, chunks, wk, emb, unAgg, ares, aresL, ares1, tupled, forall_const, Nat.reduceAdd, Nat.reduceSub, Nat.reduceMul, Nat.reduceLeDiff, Nat.reduceEqDiff, Nat.reduceBEq, Int.reduceLE, Int.reduceLT, Int.reduceEq, Int.reduceNe, Int.reduceAdd, Int.reduceSub, Int.reduceToNat, Int.reduceNeg, ↓reduceIte, reduceCtorEq, cellsOf, cellA, lay, fillA]
      refine QLoop_wk (n' := most - (j + 1)) (by omega) ⟨j + 1, L', nx', n4, by omega, rfl, r1, r2 hne, by omega, by omega, rfl, rfl⟩ (Wk_three (renO_picks _ l _) (renO_pool _ nx' L') ?_)
      simp only [renL, ren, upTo, show (0 : Nat) < 3 by omega, show (2 : Nat) < 3 by omega, if_true, List.replicate_succ, List.replicate_zero, List.cons_append, List.nil_append, Tops_top, Tops_same, Tops_nil, Int.natCast_add, Int.natCast_one]
    · simp only [h3, lay, iaddr_node, pnode, wk3, onStO, bareL, toCl, onApO, chunks, wk, emb, unAgg, ares, aresL, ares1, tupled, forall_const, Nat.reduceAdd, Nat.reduceSub, Nat.reduceMul, Nat.reduceLeDiff, Nat.reduceEqDiff, Nat.reduceBEq, Int.reduceLE, Int.reduceLT, Int.reduceEq, Int.reduceNe, Int.reduceAdd, Int.reduceSub, Int.reduceToNat, Int.reduceNeg, ↓reduceIte, reduceCtorEq, cellsOf, cellA, lay, fillA]
      refine CT_ok (do47 L hL nx k i m hk.2 (by omega) p q t hp hq ht _) ?_
      rintro _ _ ⟨rfl, L', nx', e, m', r1, r2, r3, r4, rfl⟩
      simp only [toldA, poolC, ansC, asets, w2, lay, iaddr_node, pnode, wk3, onStO, bareL, toCl, onApO, chunks, wk, emb, unAgg, ares, aresL, ares1, tupled, forall_const, Nat.reduceAdd, Nat.reduceSub, Nat.reduceMul, Nat.reduceLeDiff, Nat.reduceEqDiff, Nat.reduceBEq, Int.reduceLE, Int.reduceLT, Int.reduceEq, Int.reduceNe, Int.reduceAdd, Int.reduceSub, Int.reduceToNat, Int.reduceNeg, ↓reduceIte, reduceCtorEq, cellsOf, cellA, lay, fillA]
      refine QLoop_wk (n' := most - (j + 1)) (by omega) ⟨j + 1, L', nx', n3, by omega, rfl, r1, r2 hne, by omega, by omega, rfl, rfl⟩ (Wk_three (renO_picks _ l _) (renO_pool _ nx' L') ?_)
      simp only [renL, ren, upTo, show (0 : Nat) < 3 by omega, show (2 : Nat) < 3 by omega, if_true, List.replicate_succ, List.replicate_zero, List.cons_append, List.nil_append, Tops_top, Tops_same, Tops_nil, Int.natCast_add, Int.natCast_one]
  · simp only [h, h2, lay, iaddr_node, pnode, wk3, onStO, bareL, toCl, onApO, chunks, wk, emb, unAgg, ares, aresL, ares1, tupled, forall_const, Nat.reduceAdd, Nat.reduceSub, Nat.reduceMul, Nat.reduceLeDiff, Nat.reduceEqDiff, Nat.reduceBEq, Int.reduceLE, Int.reduceLT, Int.reduceEq, Int.reduceNe, Int.reduceAdd, Int.reduceSub, Int.reduceToNat, Int.reduceNeg, ↓reduceIte, reduceCtorEq, cellsOf, cellA, lay, fillA]
    exact KWk_list hL hne hn'
end Go.Proofs.YtemjlopoffjmpaaGreat.Abs
set_option linter.unusedSimpArgs false
set_option linter.unusedVariables false
namespace Go.Proofs.YtemjlopoffjmpaaGreat.Abs
open Go Go.Proofs

section
variable (l : List Dset) (hl : Short l) (a b : Int) (H : AH)
include hl
theorem destroyL : C Tryz.prog 32 [asets l, .int .i64 a] H (fun x H' => x = outA (destroyA l a) ∧ H' = H) := C_any (destroy0 l hl a) (by simp [bareL, asets_bare, bare]) (outA_bare _) H
end
end Go.Proofs.YtemjlopoffjmpaaGreat.Abs
/-
  The code of some functions in the abstract layer's form, each checked against the program's own. Written by gen.py.
-/
namespace Go.Proofs.YtemjlopoffjmpaaGreat.Abs
open Go

/-- palimp/node.May -/
def c105 : ACode :=
 (.seq (.reg [⟨some 2, none, .mv (.c (.bool false))⟩])
 (.seq (.reg [⟨some 3, none, .mv (.t 0)⟩,
  ⟨some 4, none, .build [.emp] [(0, 1, (.t 3))]⟩,
  ⟨some 5, none, .call 131 [(.t 4)]⟩,
  ⟨some 2, none, .mv (.t 5)⟩])
 .ret))
theorem d105 : FnD Tryz.prog 105 1 5 [.tmp 2] c105 := ⟨Tryz.f105, _, Tryz.func105, by kernel_rfl, rfl, rfl, by kernel_rfl, by kernel_rfl⟩

end Go.Proofs.YtemjlopoffjmpaaGreat.Abs
/-
  The code of some functions in the abstract layer's form, each checked against the program's own. Written by gen.py.
-/
namespace Go.Proofs.YtemjlopoffjmpaaGreat.Abs
open Go

/-- (palimp/dset.family).round -/
def c106 : ACode :=
 (.seq (.reg [⟨some 4, none, .mv (.c (.bool false))⟩])
 (.seq (.reg [⟨some 7, none, .mv (.t 1)⟩,
  ⟨some 5, none, .mv (.t 7)⟩])
 (.seq (.seq (.reg [⟨some 8, none, .mv (.t 0)⟩,
  ⟨some 9, none, .len false (.t 8)⟩,
  ⟨some 10, none, .mv (.c (.int .i64 0))⟩])
 (.block 0
 (.loop
 (.seq (.reg [⟨some 11, none, .bini .lss (.t 10) (.t 9)⟩])
 (.seq (.cond (.t 11)
 .skip
 (.exit 0))
 (.seq (.block 1
 (.seq (.reg [⟨some 12, none, .mv (.t 0)⟩,
  ⟨some 13, none, .mv (.t 5)⟩,
  ⟨some 14, none, .call 59 [(.t 12), (.t 13)]⟩,
  ⟨some 6, none, .mv (.t 14)⟩])
 (.seq (.seq (.reg [⟨some 15, none, .mv (.t 6)⟩,
  ⟨some 16, none, .bini .lss (.t 15) (.c (.int .i64 0))⟩])
 (.cond (.t 16)
 (.seq (.reg [⟨some 4, none, .mv (.c (.bool false))⟩])
 .ret)
 .skip))
 (.seq (.reg [⟨some 17, none, .mv (.t 0)⟩,
  ⟨some 18, none, .mv (.t 6)⟩,
  ⟨some 19, none, .iaddr 5 (.t 17) (.t 18)⟩,
  ⟨some 20, none, .faddr 2 (.t 19)⟩,
  ⟨some 21, none, .load false 1 (.t 20)⟩,
  ⟨some 5, none, .mv (.t 21)⟩])
 (.seq (.reg [⟨some 22, none, .mv (.t 5)⟩,
  ⟨some 23, none, .mv (.t 1)⟩,
  ⟨some 24, none, .bini .eql (.t 22) (.t 23)⟩])
 (.cond (.t 24)
 (.seq (.reg [⟨some 4, none, .mv (.c (.bool true))⟩])
 .ret)
 .skip))))))
 (.reg [⟨some 25, none, .bini .add (.t 10) (.c (.int .i64 1))⟩,
  ⟨some 10, none, .mv (.t 25)⟩])))))))
 (.seq (.reg [⟨some 4, none, .mv (.c (.bool false))⟩])
 .ret))))
theorem d106 : FnD Tryz.prog 106 2 24 [.tmp 4] c106 := ⟨Tryz.f106, _, Tryz.func106, by kernel_rfl, rfl, rfl, by kernel_rfl, by kernel_rfl⟩

end Go.Proofs.YtemjlopoffjmpaaGreat.Abs
/-
  The code of some functions in the abstract layer's form, each checked against the program's own. Written by gen.py.
-/
namespace Go.Proofs.YtemjlopoffjmpaaGreat.Abs
open Go

/-- slices.Equal(palimp/api.Set,palimp/api.Node) -/
def c107 : ACode :=
 (.seq (.reg [⟨some 4, none, .mv (.c (.bool false))⟩])
 (.seq (.seq (.reg [⟨some 6, none, .mv (.t 0)⟩,
  ⟨some 7, none, .len false (.t 6)⟩,
  ⟨some 8, none, .mv (.t 1)⟩,
  ⟨some 9, none, .len false (.t 8)⟩,
  ⟨some 10, none, .bini .neq (.t 7) (.t 9)⟩])
 (.cond (.t 10)
 (.seq (.reg [⟨some 4, none, .mv (.c (.bool false))⟩])
 .ret)
 .skip))
 (.seq (.seq (.reg [⟨some 11, none, .mv (.t 0)⟩,
  ⟨some 12, none, .len false (.t 11)⟩,
  ⟨some 13, none, .mv (.c (.int .i64 0))⟩])
 (.block 0
 (.loop
 (.seq (.reg [⟨some 14, none, .bini .lss (.t 13) (.t 12)⟩])
 (.seq (.cond (.t 14)
 .skip
 (.exit 0))
 (.seq (.block 1
 (.seq (.reg [⟨some 15, none, .mv (.t 13)⟩,
  ⟨some 5, none, .mv (.t 15)⟩])
 (.seq (.dreg [⟨some 16, none, .mv (.t 0)⟩,
  ⟨some 17, none, .mv (.t 5)⟩,
  ⟨some 18, none, .iaddr 5 (.t 16) (.t 17)⟩,
  ⟨some 19, none, .load true 5 (.t 18)⟩,
  ⟨some 20, none, .mv (.t 1)⟩,
  ⟨some 21, none, .mv (.t 5)⟩,
  ⟨some 22, none, .iaddr 5 (.t 20) (.t 21)⟩,
  ⟨some 23, none, .load true 5 (.t 22)⟩,
  ⟨some 24, none, .eqs true [.i, .i, .s, .s, .i] (.t 19) (.t 23)⟩])
 (.cond (.t 24)
 (.seq (.reg [⟨some 4, none, .mv (.c (.bool false))⟩])
 .ret)
 .skip))))
 (.reg [⟨some 25, none, .bini .add (.t 13) (.c (.int .i64 1))⟩,
  ⟨some 13, none, .mv (.t 25)⟩])))))))
 (.seq (.reg [⟨some 4, none, .mv (.c (.bool true))⟩])
 .ret))))
theorem d107 : FnD Tryz.prog 107 2 24 [.tmp 4] c107 := ⟨Tryz.f107, _, Tryz.func107, by kernel_rfl, rfl, rfl, by kernel_rfl, by kernel_rfl⟩

end Go.Proofs.YtemjlopoffjmpaaGreat.Abs
/-
  The code of some functions in the abstract layer's form, each checked against the program's own. Written by gen.py.
-/
namespace Go.Proofs.YtemjlopoffjmpaaGreat.Abs
open Go

/-- (palimp/node.row).may -/
def c131 : ACode :=
 (.seq (.reg [⟨some 1, none, .box (.t 0)⟩,
  ⟨some 2, none, .mv (.c (.bool false))⟩])
 (.seq (.seq (.reg [⟨some 7, none, .faddr 0 (.t 1)⟩,
  ⟨some 8, none, .load false 1 (.t 7)⟩,
  ⟨some 9, none, .len false (.t 8)⟩,
  ⟨some 10, none, .bini .neq (.t 9) (.c (.int .i64 8))⟩,
  ⟨some 11, none, .mv (.t 10)⟩,
  ⟨some 12, (some (11, false)), .faddr 0 (.t 1)⟩,
  ⟨some 13, (some (11, false)), .load false 1 (.t 12)⟩,
  ⟨some 14, (some (11, false)), .iaddr 5 (.t 13) (.c (.int .i64 0))⟩,
  ⟨some 15, (some (11, false)), .load true 5 (.t 14)⟩,
  ⟨some 16, (some (11, false)), .build [.int .i64 0, .int .i64 0, .str [], .str [], .int .i64 0] [(0, 1, (.c (.int .i64 2)))]⟩,
  ⟨some 17, (some (11, false)), .eqs true [.i, .i, .s, .s, .i] (.t 15) (.t 16)⟩,
  ⟨some 18, none, .pick (.t 11) (.c (.bool true)) (.t 17)⟩])
 (.cond (.t 18)
 (.seq (.reg [⟨some 2, none, .mv (.c (.bool false))⟩])
 .ret)
 .skip))
 (.seq (.seq (.reg [⟨some 19, none, .faddr 0 (.t 1)⟩,
  ⟨some 20, none, .load false 1 (.t 19)⟩,
  ⟨some 21, none, .slicel 5 (.t 20) (some (.c (.int .i64 1))) none⟩,
  ⟨some 22, none, .len false (.t 21)⟩,
  ⟨some 23, none, .mv (.c (.int .i64 0))⟩])
 (.block 0
 (.loop
 (.seq (.reg [⟨some 24, none, .bini .lss (.t 23) (.t 22)⟩])
 (.seq (.cond (.t 24)
 .skip
 (.exit 0))
 (.seq (.block 1
 (.seq (.reg [⟨some 25, none, .iaddr 5 (.t 21) (.t 23)⟩,
  ⟨some 26, none, .load true 5 (.t 25)⟩,
  ⟨some 4, none, .alloc [.int .i64 0, .int .i64 0, .str [], .str [], .int .i64 0]⟩,
  ⟨none, none, .store 5 (.t 4) (.t 26)⟩])
 (.seq (.reg [⟨some 27, none, .load true 5 (.t 4)⟩,
  ⟨some 28, none, .build [.int .i64 0, .int .i64 0, .str [], .str [], .int .i64 0] []⟩,
  ⟨some 29, none, .eqs true [.i, .i, .s, .s, .i] (.t 27) (.t 28)⟩,
  ⟨some 30, none, .mv (.t 29)⟩,
  ⟨some 31, (some (30, true)), .load true 1 (.t 1)⟩,
  ⟨some 32, (some (30, true)), .load true 5 (.t 4)⟩,
  ⟨some 33, (some (30, true)), .call 158 [(.t 31), (.t 32)]⟩,
  ⟨some 34, (some (30, true)), .un .not (.t 33)⟩,
  ⟨some 35, none, .pick (.t 30) (.t 34) (.c (.bool false))⟩])
 (.cond (.t 35)
 (.seq (.reg [⟨some 2, none, .mv (.c (.bool false))⟩])
 .ret)
 .skip))))
 (.reg [⟨some 36, none, .bini .add (.t 23) (.c (.int .i64 1))⟩,
  ⟨some 23, none, .mv (.t 36)⟩])))))))
 (.seq (.seq (.reg [⟨some 37, none, .faddr 0 (.t 1)⟩,
  ⟨some 38, none, .load false 1 (.t 37)⟩,
  ⟨some 39, none, .len false (.t 38)⟩,
  ⟨some 40, none, .mv (.c (.int .i64 0))⟩])
 (.block 2
 (.loop
 (.seq (.reg [⟨some 41, none, .bini .lss (.t 40) (.t 39)⟩])
 (.seq (.cond (.t 41)
 .skip
 (.exit 2))
 (.seq (.block 3
 (.seq (.reg [⟨some 42, none, .mv (.t 40)⟩,
  ⟨some 43, none, .iaddr 5 (.t 38) (.t 40)⟩,
  ⟨some 44, none, .load true 5 (.t 43)⟩,
  ⟨some 6, none, .alloc [.int .i64 0, .int .i64 0, .str [], .str [], .int .i64 0]⟩,
  ⟨some 5, none, .mv (.t 42)⟩,
  ⟨none, none, .store 5 (.t 6) (.t 44)⟩])
 (.seq (.reg [⟨some 45, none, .mv (.t 5)⟩,
  ⟨some 46, none, .bini .gtr (.t 45) (.c (.int .i64 0))⟩,
  ⟨some 47, none, .mv (.t 46)⟩,
  ⟨some 48, (some (47, true)), .faddr 0 (.t 6)⟩,
  ⟨some 49, (some (47, true)), .load false 1 (.t 48)⟩,
  ⟨some 50, (some (47, true)), .bini .neq (.t 49) (.c (.int .i64 0))⟩,
  ⟨some 51, none, .pick (.t 47) (.t 50) (.c (.bool false))⟩,
  ⟨some 52, none, .mv (.t 51)⟩,
  ⟨some 53, (some (52, true)), .load true 1 (.t 1)⟩,
  ⟨some 54, (some (52, true)), .mv (.t 5)⟩,
  ⟨some 55, (some (52, true)), .call 159 [(.t 53), (.t 54)]⟩,
  ⟨some 56, (some (52, true)), .un .not (.t 55)⟩,
  ⟨some 57, (some (52, true)), .mv (.t 56)⟩,
  ⟨some 58, (some (57, false)), .load true 1 (.t 1)⟩,
  ⟨some 59, (some (57, false)), .mv (.t 5)⟩,
  ⟨some 60, (some (57, false)), .call 160 [(.t 58), (.t 59)]⟩,
  ⟨some 61, (some (52, true)), .pick (.t 57) (.c (.bool true)) (.t 60)⟩,
  ⟨some 62, none, .pick (.t 52) (.t 61) (.c (.bool false))⟩])
 (.cond (.t 62)
 (.seq (.reg [⟨some 2, none, .mv (.c (.bool false))⟩])
 .ret)
 .skip))))
 (.reg [⟨some 63, none, .bini .add (.t 40) (.c (.int .i64 1))⟩,
  ⟨some 40, none, .mv (.t 63)⟩])))))))
 (.seq (.reg [⟨some 2, none, .mv (.c (.bool true))⟩])
 .ret)))))
theorem d131 : FnD Tryz.prog 131 1 63 [.tmp 2] c131 := ⟨Tryz.f131, _, Tryz.func131, by kernel_rfl, rfl, rfl, by kernel_rfl, by kernel_rfl⟩

end Go.Proofs.YtemjlopoffjmpaaGreat.Abs
/-
  The code of some functions in the abstract layer's form, each checked against the program's own. Written by gen.py.
-/
namespace Go.Proofs.YtemjlopoffjmpaaGreat.Abs
open Go

/-- (palimp/node.row).alone -/
def c158 : ACode :=
 (.seq (.reg [⟨some 2, none, .box (.t 0)⟩,
  ⟨some 3, none, .box (.t 1)⟩,
  ⟨some 4, none, .mv (.c (.bool false))⟩])
 (.seq (.block 0
 (.seq (.reg [⟨some 6, none, .faddr 4 (.t 3)⟩,
  ⟨some 7, none, .load false 1 (.t 6)⟩,
  ⟨some 8, none, .bini .neq (.t 7) (.c (.int .i64 0))⟩,
  ⟨some 9, none, .mv (.t 8)⟩,
  ⟨some 10, (some (9, false)), .faddr 2 (.t 3)⟩,
  ⟨some 11, (some (9, false)), .load false 1 (.t 10)⟩,
  ⟨some 12, (some (9, false)), .call 201 [(.t 11)]⟩,
  ⟨some 13, (some (9, false)), .un .not (.t 12)⟩,
  ⟨some 14, none, .pick (.t 9) (.c (.bool true)) (.t 13)⟩,
  ⟨some 15, none, .mv (.t 14)⟩,
  ⟨some 16, (some (15, false)), .load true 1 (.t 2)⟩,
  ⟨some 17, (some (15, false)), .faddr 1 (.t 3)⟩,
  ⟨some 18, (some (15, false)), .load false 1 (.t 17)⟩,
  ⟨some 19, (some (15, false)), .call 202 [(.t 16), (.t 18)]⟩,
  ⟨some 20, (some (15, false)), .un .not (.t 19)⟩,
  ⟨some 21, none, .pick (.t 15) (.c (.bool true)) (.t 20)⟩,
  ⟨some 5, none, .mv (.t 21)⟩])
 (.cond (.t 5)
 (.seq (.reg [⟨some 4, none, .mv (.c (.bool false))⟩])
 .ret)
 (.seq (.reg [⟨some 23, none, .faddr 0 (.t 3)⟩,
  ⟨some 24, none, .load false 1 (.t 23)⟩,
  ⟨some 25, none, .bini .eql (.t 24) (.c (.int .i64 1))⟩,
  ⟨some 22, none, .mv (.t 25)⟩])
 (.cond (.t 22)
 (.seq (.reg [⟨some 26, none, .faddr 3 (.t 3)⟩,
  ⟨some 27, none, .load false 1 (.t 26)⟩,
  ⟨some 28, none, .len true (.t 27)⟩,
  ⟨some 29, none, .bini .leq (.t 28) (.c (.int .i64 128))⟩,
  ⟨some 4, none, .mv (.t 29)⟩])
 .ret)
 .skip)))))
 (.seq (.reg [⟨some 30, none, .faddr 0 (.t 3)⟩,
  ⟨some 31, none, .load false 1 (.t 30)⟩,
  ⟨some 32, none, .bini .eql (.t 31) (.c (.int .i64 2))⟩,
  ⟨some 33, none, .mv (.t 32)⟩,
  ⟨some 34, (some (33, true)), .faddr 3 (.t 3)⟩,
  ⟨some 35, (some (33, true)), .load false 1 (.t 34)⟩,
  ⟨some 36, (some (33, true)), .bins .eql (.t 35) (.c (.str []))⟩,
  ⟨some 37, none, .pick (.t 33) (.t 36) (.c (.bool false))⟩,
  ⟨some 4, none, .mv (.t 37)⟩])
 .ret)))
theorem d158 : FnD Tryz.prog 158 2 36 [.tmp 4] c158 := ⟨Tryz.f158, _, Tryz.func158, by kernel_rfl, rfl, rfl, by kernel_rfl, by kernel_rfl⟩

end Go.Proofs.YtemjlopoffjmpaaGreat.Abs
/-
  The code of some functions in the abstract layer's form, each checked against the program's own. Written by gen.py.
-/
namespace Go.Proofs.YtemjlopoffjmpaaGreat.Abs
open Go

/-- (palimp/node.row).leads -/
def c159 : ACode :=
 (.seq (.reg [⟨some 2, none, .box (.t 0)⟩,
  ⟨some 4, none, .mv (.c (.bool false))⟩])
 (.seq (.seq (.reg [⟨some 5, none, .faddr 0 (.t 2)⟩,
  ⟨some 6, none, .load false 1 (.t 5)⟩,
  ⟨some 7, none, .len false (.t 6)⟩,
  ⟨some 8, none, .mv (.c (.int .i64 0))⟩])
 (.block 0
 (.loop
 (.seq (.reg [⟨some 9, none, .bini .lss (.t 8) (.t 7)⟩])
 (.seq (.cond (.t 9)
 .skip
 (.exit 0))
 (.seq (.block 1
 (.seq (.seq (.reg [⟨some 10, none, .mv (.t 1)⟩,
  ⟨some 11, none, .bini .eql (.t 10) (.c (.int .i64 0))⟩])
 (.cond (.t 11)
 (.seq (.reg [⟨some 4, none, .mv (.c (.bool true))⟩])
 .ret)
 .skip))
 (.reg [⟨some 12, none, .faddr 0 (.t 2)⟩,
  ⟨some 13, none, .load false 1 (.t 12)⟩,
  ⟨some 14, none, .mv (.t 1)⟩,
  ⟨some 15, none, .iaddr 5 (.t 13) (.t 14)⟩,
  ⟨some 16, none, .faddr 1 (.t 15)⟩,
  ⟨some 17, none, .load false 1 (.t 16)⟩,
  ⟨some 1, none, .mv (.t 17)⟩])))
 (.reg [⟨some 18, none, .bini .add (.t 8) (.c (.int .i64 1))⟩,
  ⟨some 8, none, .mv (.t 18)⟩])))))))
 (.seq (.reg [⟨some 4, none, .mv (.c (.bool false))⟩])
 .ret)))
theorem d159 : FnD Tryz.prog 159 2 17 [.tmp 4] c159 := ⟨Tryz.f159, _, Tryz.func159, by kernel_rfl, rfl, rfl, by kernel_rfl, by kernel_rfl⟩

end Go.Proofs.YtemjlopoffjmpaaGreat.Abs
/-
  The code of some functions in the abstract layer's form, each checked against the program's own. Written by gen.py.
-/
namespace Go.Proofs.YtemjlopoffjmpaaGreat.Abs
open Go

/-- (palimp/node.row).twin -/
def c160 : ACode :=
 (.seq (.reg [⟨some 2, none, .box (.t 0)⟩,
  ⟨some 4, none, .mv (.c (.bool false))⟩])
 (.seq (.seq (.reg [⟨some 7, none, .faddr 0 (.t 2)⟩,
  ⟨some 8, none, .load false 1 (.t 7)⟩,
  ⟨some 9, none, .len false (.t 8)⟩,
  ⟨some 10, none, .mv (.c (.int .i64 0))⟩])
 (.block 0
 (.loop
 (.seq (.reg [⟨some 11, none, .bini .lss (.t 10) (.t 9)⟩])
 (.seq (.cond (.t 11)
 .skip
 (.exit 0))
 (.seq (.block 1
 (.seq (.reg [⟨some 12, none, .mv (.t 10)⟩,
  ⟨some 13, none, .iaddr 5 (.t 8) (.t 10)⟩,
  ⟨some 14, none, .load true 5 (.t 13)⟩,
  ⟨some 6, none, .alloc [.int .i64 0, .int .i64 0, .str [], .str [], .int .i64 0]⟩,
  ⟨some 5, none, .mv (.t 12)⟩,
  ⟨none, none, .store 5 (.t 6) (.t 14)⟩])
 (.seq (.dreg [⟨some 15, none, .mv (.t 5)⟩,
  ⟨some 16, none, .bini .gtr (.t 15) (.c (.int .i64 0))⟩,
  ⟨some 17, none, .mv (.t 16)⟩,
  ⟨some 18, (some (17, true)), .mv (.t 5)⟩,
  ⟨some 19, (some (17, true)), .mv (.t 1)⟩,
  ⟨some 20, (some (17, true)), .bini .neq (.t 18) (.t 19)⟩,
  ⟨some 21, none, .pick (.t 17) (.t 20) (.c (.bool false))⟩,
  ⟨some 22, none, .mv (.t 21)⟩,
  ⟨some 23, (some (22, true)), .faddr 0 (.t 6)⟩,
  ⟨some 24, (some (22, true)), .load false 1 (.t 23)⟩,
  ⟨some 25, (some (22, true)), .bini .neq (.t 24) (.c (.int .i64 0))⟩,
  ⟨some 26, none, .pick (.t 22) (.t 25) (.c (.bool false))⟩,
  ⟨some 27, none, .mv (.t 26)⟩,
  ⟨some 28, (some (27, true)), .faddr 1 (.t 6)⟩,
  ⟨some 29, (some (27, true)), .load false 1 (.t 28)⟩,
  ⟨some 30, (some (27, true)), .faddr 0 (.t 2)⟩,
  ⟨some 31, (some (27, true)), .load false 1 (.t 30)⟩,
  ⟨some 32, (some (27, true)), .mv (.t 1)⟩,
  ⟨some 33, (some (27, true)), .iaddr 5 (.t 31) (.t 32)⟩,
  ⟨some 34, (some (27, true)), .faddr 1 (.t 33)⟩,
  ⟨some 35, (some (27, true)), .load false 1 (.t 34)⟩,
  ⟨some 36, (some (27, true)), .bini .eql (.t 29) (.t 35)⟩,
  ⟨some 37, none, .pick (.t 27) (.t 36) (.c (.bool false))⟩,
  ⟨some 38, none, .mv (.t 37)⟩,
  ⟨some 39, (some (38, true)), .faddr 2 (.t 6)⟩,
  ⟨some 40, (some (38, true)), .load false 1 (.t 39)⟩,
  ⟨some 41, (some (38, true)), .faddr 0 (.t 2)⟩,
  ⟨some 42, (some (38, true)), .load false 1 (.t 41)⟩,
  ⟨some 43, (some (38, true)), .mv (.t 1)⟩,
  ⟨some 44, (some (38, true)), .iaddr 5 (.t 42) (.t 43)⟩,
  ⟨some 45, (some (38, true)), .faddr 2 (.t 44)⟩,
  ⟨some 46, (some (38, true)), .load false 1 (.t 45)⟩,
  ⟨some 47, (some (38, true)), .bins .eql (.t 40) (.t 46)⟩,
  ⟨some 48, none, .pick (.t 38) (.t 47) (.c (.bool false))⟩])
 (.cond (.t 48)
 (.seq (.reg [⟨some 4, none, .mv (.c (.bool true))⟩])
 .ret)
 .skip))))
 (.reg [⟨some 49, none, .bini .add (.t 10) (.c (.int .i64 1))⟩,
  ⟨some 10, none, .mv (.t 49)⟩])))))))
 (.seq (.reg [⟨some 4, none, .mv (.c (.bool false))⟩])
 .ret)))
theorem d160 : FnD Tryz.prog 160 2 48 [.tmp 4] c160 := ⟨Tryz.f160, _, Tryz.func160, by kernel_rfl, rfl, rfl, by kernel_rfl, by kernel_rfl⟩

end Go.Proofs.YtemjlopoffjmpaaGreat.Abs
/-
  The code of some functions in the abstract layer's form, each checked against the program's own. Written by gen.py.
-/
namespace Go.Proofs.YtemjlopoffjmpaaGreat.Abs
open Go

/-- palimp/name.May -/
def c201 : ACode :=
 (.seq (.reg [⟨some 2, none, .mv (.c (.bool false))⟩])
 (.seq (.reg [⟨some 3, none, .mv (.t 0)⟩,
  ⟨some 4, none, .bins .neq (.t 3) (.c (.str []))⟩,
  ⟨some 5, none, .mv (.t 4)⟩,
  ⟨some 6, (some (5, true)), .mv (.t 0)⟩,
  ⟨some 7, (some (5, true)), .len true (.t 6)⟩,
  ⟨some 8, (some (5, true)), .bini .leq (.t 7) (.c (.int .i64 8))⟩,
  ⟨some 9, none, .pick (.t 5) (.t 8) (.c (.bool false))⟩,
  ⟨some 10, none, .mv (.t 9)⟩,
  ⟨some 11, (some (10, true)), .mv (.t 0)⟩,
  ⟨some 12, (some (10, true)), .call 224 [(.t 11)]⟩,
  ⟨some 13, none, .pick (.t 10) (.t 12) (.c (.bool false))⟩,
  ⟨some 14, none, .mv (.t 13)⟩,
  ⟨some 15, (some (14, true)), .mv (.t 0)⟩,
  ⟨some 16, (some (14, true)), .bins .neq (.t 15) (.c (.str [46]))⟩,
  ⟨some 17, none, .pick (.t 14) (.t 16) (.c (.bool false))⟩,
  ⟨some 18, none, .mv (.t 17)⟩,
  ⟨some 19, (some (18, true)), .mv (.t 0)⟩,
  ⟨some 20, (some (18, true)), .bins .neq (.t 19) (.c (.str [46, 46]))⟩,
  ⟨some 21, none, .pick (.t 18) (.t 20) (.c (.bool false))⟩,
  ⟨some 2, none, .mv (.t 21)⟩])
 .ret))
theorem d201 : FnD Tryz.prog 201 1 21 [.tmp 2] c201 := ⟨Tryz.f201, _, Tryz.func201, by kernel_rfl, rfl, rfl, by kernel_rfl, by kernel_rfl⟩

end Go.Proofs.YtemjlopoffjmpaaGreat.Abs
/-
  The code of some functions in the abstract layer's form, each checked against the program's own. Written by gen.py.
-/
namespace Go.Proofs.YtemjlopoffjmpaaGreat.Abs
open Go

/-- (palimp/node.row).folder -/
def c202 : ACode :=
 (.seq (.reg [⟨some 2, none, .box (.t 0)⟩,
  ⟨some 4, none, .mv (.c (.bool false))⟩])
 (.seq (.reg [⟨some 5, none, .mv (.t 1)⟩,
  ⟨some 6, none, .bini .geq (.t 5) (.c (.int .i64 0))⟩,
  ⟨some 7, none, .mv (.t 6)⟩,
  ⟨some 8, (some (7, true)), .mv (.t 1)⟩,
  ⟨some 9, (some (7, true)), .faddr 0 (.t 2)⟩,
  ⟨some 10, (some (7, true)), .load false 1 (.t 9)⟩,
  ⟨some 11, (some (7, true)), .len false (.t 10)⟩,
  ⟨some 12, (some (7, true)), .bini .lss (.t 8) (.t 11)⟩,
  ⟨some 13, none, .pick (.t 7) (.t 12) (.c (.bool false))⟩,
  ⟨some 14, none, .mv (.t 13)⟩,
  ⟨some 15, (some (14, true)), .faddr 0 (.t 2)⟩,
  ⟨some 16, (some (14, true)), .load false 1 (.t 15)⟩,
  ⟨some 17, (some (14, true)), .mv (.t 1)⟩,
  ⟨some 18, (some (14, true)), .iaddr 5 (.t 16) (.t 17)⟩,
  ⟨some 19, (some (14, true)), .faddr 0 (.t 18)⟩,
  ⟨some 20, (some (14, true)), .load false 1 (.t 19)⟩,
  ⟨some 21, (some (14, true)), .bini .eql (.t 20) (.c (.int .i64 2))⟩,
  ⟨some 22, none, .pick (.t 14) (.t 21) (.c (.bool false))⟩,
  ⟨some 4, none, .mv (.t 22)⟩])
 .ret))
theorem d202 : FnD Tryz.prog 202 2 21 [.tmp 4] c202 := ⟨Tryz.f202, _, Tryz.func202, by kernel_rfl, rfl, rfl, by kernel_rfl, by kernel_rfl⟩

end Go.Proofs.YtemjlopoffjmpaaGreat.Abs
/-
  The code of some functions in the abstract layer's form, each checked against the program's own. Written by gen.py.
-/
namespace Go.Proofs.YtemjlopoffjmpaaGreat.Abs
open Go

/-- palimp/name.plain -/
def c224 : ACode :=
 (.seq (.reg [⟨some 2, none, .mv (.c (.bool false))⟩])
 (.seq (.seq (.reg [⟨some 5, none, .mv (.t 0)⟩,
  ⟨some 6, none, .convsb (.t 5)⟩,
  ⟨some 7, none, .len false (.t 6)⟩,
  ⟨some 8, none, .mv (.c (.int .i64 0))⟩])
 (.block 0
 (.loop
 (.seq (.reg [⟨some 9, none, .bini .lss (.t 8) (.t 7)⟩])
 (.seq (.cond (.t 9)
 .skip
 (.exit 0))
 (.seq (.block 1
 (.seq (.reg [⟨some 10, none, .iaddr 1 (.t 6) (.t 8)⟩,
  ⟨some 11, none, .load false 1 (.t 10)⟩,
  ⟨some 4, none, .mv (.t 11)⟩])
 (.seq (.reg [⟨some 12, none, .mv (.t 4)⟩,
  ⟨some 13, none, .call 229 [(.c (.str [97, 98, 99, 100, 101, 102, 103, 104, 105, 106, 107, 108, 109, 110, 111, 112, 113, 114, 115, 116, 117, 118, 119, 120, 121, 122, 48, 49, 50, 51, 52, 53, 54, 55, 56, 57, 46, 95, 45])), (.t 12)]⟩,
  ⟨some 14, none, .bini .lss (.t 13) (.c (.int .i64 0))⟩])
 (.cond (.t 14)
 (.seq (.reg [⟨some 2, none, .mv (.c (.bool false))⟩])
 .ret)
 .skip))))
 (.reg [⟨some 15, none, .bini .add (.t 8) (.c (.int .i64 1))⟩,
  ⟨some 8, none, .mv (.t 15)⟩])))))))
 (.seq (.reg [⟨some 2, none, .mv (.c (.bool true))⟩])
 .ret)))
theorem d224 : FnD Tryz.prog 224 1 15 [.tmp 2] c224 := ⟨Tryz.f224, _, Tryz.func224, by kernel_rfl, rfl, rfl, by kernel_rfl, by kernel_rfl⟩

end Go.Proofs.YtemjlopoffjmpaaGreat.Abs
/-
  The code of some functions in the abstract layer's form, each checked against the program's own. Written by gen.py.
-/
namespace Go.Proofs.YtemjlopoffjmpaaGreat.Abs
open Go

/-- palimp/palimplaw18.begun -/
def c23 : ACode :=
 (.seq (.reg [⟨some 0, none, .mv (.c (.bool false))⟩])
 (.seq (.reg [⟨some 14, none, .call 37 [(.c (.emp)), (.c (.int .i64 1)), (.c (.int .i64 0))]⟩,
  ⟨some 13, none, .mv (.t 14)⟩,
  ⟨some 15, none, .ext (.t 13) 0⟩,
  ⟨some 16, none, .ext (.t 13) 1⟩,
  ⟨some 1, none, .mv (.t 15)⟩,
  ⟨some 2, none, .mv (.t 16)⟩])
 (.seq (.reg [⟨some 18, none, .mv (.t 1)⟩,
  ⟨some 19, none, .call 24 [(.t 18), (.c (.int .i64 2)), (.c (.int .i64 1))]⟩,
  ⟨some 17, none, .mv (.t 19)⟩,
  ⟨some 20, none, .ext (.t 17) 0⟩,
  ⟨some 21, none, .ext (.t 17) 1⟩,
  ⟨some 3, none, .mv (.t 20)⟩,
  ⟨some 4, none, .mv (.t 21)⟩])
 (.seq (.reg [⟨some 23, none, .mv (.t 3)⟩,
  ⟨some 24, none, .call 25 [(.t 23), (.c (.int .i64 3)), (.c (.int .i64 2))]⟩,
  ⟨some 22, none, .mv (.t 24)⟩,
  ⟨some 25, none, .ext (.t 22) 0⟩,
  ⟨some 26, none, .ext (.t 22) 1⟩,
  ⟨some 5, none, .mv (.t 25)⟩,
  ⟨some 6, none, .mv (.t 26)⟩])
 (.seq (.reg [⟨some 28, none, .mv (.t 5)⟩,
  ⟨some 29, none, .call 29 [(.t 28), (.c (.int .i64 3))]⟩,
  ⟨some 27, none, .mv (.t 29)⟩,
  ⟨some 30, none, .ext (.t 27) 0⟩,
  ⟨some 31, none, .ext (.t 27) 1⟩,
  ⟨some 7, none, .mv (.t 30)⟩,
  ⟨some 8, none, .mv (.t 31)⟩])
 (.seq (.reg [⟨some 33, none, .mv (.t 7)⟩,
  ⟨some 34, none, .call 32 [(.t 33), (.c (.int .i64 2))]⟩,
  ⟨some 32, none, .mv (.t 34)⟩,
  ⟨some 35, none, .ext (.t 32) 0⟩,
  ⟨some 36, none, .ext (.t 32) 1⟩,
  ⟨some 9, none, .mv (.t 35)⟩,
  ⟨some 10, none, .mv (.t 36)⟩])
 (.seq (.reg [⟨some 38, none, .mv (.t 7)⟩,
  ⟨some 39, none, .call 27 [(.t 38), (.c (.int .i64 1))]⟩,
  ⟨some 37, none, .mv (.t 39)⟩,
  ⟨some 40, none, .ext (.t 37) 0⟩,
  ⟨some 41, none, .ext (.t 37) 1⟩,
  ⟨some 11, none, .alloc [.int .i64 0, .int .i64 0, .int .i64 0, .int .i64 0, .emp]⟩,
  ⟨none, none, .store 5 (.t 11) (.t 40)⟩,
  ⟨some 12, none, .mv (.t 41)⟩])
 (.seq (.reg [⟨some 42, none, .mv (.t 2)⟩,
  ⟨some 43, none, .bini .eql (.t 42) (.c (.int .i64 0))⟩,
  ⟨some 44, none, .mv (.t 43)⟩,
  ⟨some 45, (some (44, true)), .mv (.t 4)⟩,
  ⟨some 46, (some (44, true)), .bini .eql (.t 45) (.c (.int .i64 0))⟩,
  ⟨some 47, none, .pick (.t 44) (.t 46) (.c (.bool false))⟩,
  ⟨some 48, none, .mv (.t 47)⟩,
  ⟨some 49, (some (48, true)), .mv (.t 6)⟩,
  ⟨some 50, (some (48, true)), .bini .eql (.t 49) (.c (.int .i64 0))⟩,
  ⟨some 51, none, .pick (.t 48) (.t 50) (.c (.bool false))⟩,
  ⟨some 52, none, .mv (.t 51)⟩,
  ⟨some 53, (some (52, true)), .mv (.t 8)⟩,
  ⟨some 54, (some (52, true)), .bini .eql (.t 53) (.c (.int .i64 0))⟩,
  ⟨some 55, none, .pick (.t 52) (.t 54) (.c (.bool false))⟩,
  ⟨some 56, none, .mv (.t 55)⟩,
  ⟨some 57, (some (56, true)), .mv (.t 10)⟩,
  ⟨some 58, (some (56, true)), .bini .eql (.t 57) (.c (.int .i64 10))⟩,
  ⟨some 59, none, .pick (.t 56) (.t 58) (.c (.bool false))⟩,
  ⟨some 60, none, .mv (.t 59)⟩,
  ⟨some 61, (some (60, true)), .mv (.t 12)⟩,
  ⟨some 62, none, .pick (.t 60) (.t 61) (.c (.bool false))⟩,
  ⟨some 63, none, .mv (.t 62)⟩,
  ⟨some 64, (some (63, true)), .faddr 2 (.t 11)⟩,
  ⟨some 65, (some (63, true)), .load false 1 (.t 64)⟩,
  ⟨some 66, (some (63, true)), .bini .eql (.t 65) (.c (.int .i64 2))⟩,
  ⟨some 67, none, .pick (.t 63) (.t 66) (.c (.bool false))⟩,
  ⟨some 68, none, .mv (.t 67)⟩,
  ⟨some 69, (some (68, true)), .mv (.t 7)⟩,
  ⟨some 70, (some (68, true)), .call 33 [(.t 69)]⟩,
  ⟨some 71, none, .pick (.t 68) (.t 70) (.c (.bool false))⟩,
  ⟨some 72, none, .mv (.t 71)⟩,
  ⟨some 73, (some (72, true)), .build [.int .i64 0, .int .i64 0, .int .i64 0, .int .i64 0, .emp] []⟩,
  ⟨some 74, (some (72, true)), .bslice 5 1 [.int .i64 0, .int .i64 0, .int .i64 0, .int .i64 0, .emp] [(0, (.t 73))]⟩,
  ⟨some 75, (some (72, true)), .call 33 [(.t 74)]⟩,
  ⟨some 76, (some (72, true)), .un .not (.t 75)⟩,
  ⟨some 77, none, .pick (.t 72) (.t 76) (.c (.bool false))⟩,
  ⟨some 78, none, .mv (.t 77)⟩,
  ⟨some 79, (some (78, true)), .mv (.t 7)⟩,
  ⟨some 80, (some (78, true)), .mv (.t 7)⟩,
  ⟨some 81, (some (78, true)), .call 35 [(.t 79), (.t 80)]⟩,
  ⟨some 82, none, .pick (.t 78) (.t 81) (.c (.bool false))⟩,
  ⟨some 83, none, .mv (.t 82)⟩,
  ⟨some 84, (some (83, true)), .mv (.t 7)⟩,
  ⟨some 85, (some (83, true)), .mv (.t 5)⟩,
  ⟨some 86, (some (83, true)), .call 35 [(.t 84), (.t 85)]⟩,
  ⟨some 87, (some (83, true)), .un .not (.t 86)⟩,
  ⟨some 88, none, .pick (.t 83) (.t 87) (.c (.bool false))⟩,
  ⟨some 0, none, .mv (.t 88)⟩])
 .ret))))))))
theorem d23 : FnD Tryz.prog 23 0 89 [.tmp 0] c23 := ⟨Tryz.f23, _, Tryz.func23, by kernel_rfl, rfl, rfl, by kernel_rfl, by kernel_rfl⟩

end Go.Proofs.YtemjlopoffjmpaaGreat.Abs
/-
  The code of some functions in the abstract layer's form, each checked against the program's own. Written by gen.py.
-/
namespace Go.Proofs.YtemjlopoffjmpaaGreat.Abs
open Go

/-- palimp/dset.May -/
def c33 : ACode :=
 (.seq (.reg [⟨some 2, none, .mv (.c (.bool false))⟩])
 (.seq (.reg [⟨some 3, none, .mv (.c (.int .i64 0))⟩])
 (.seq (.seq (.reg [⟨some 6, none, .mv (.t 0)⟩,
  ⟨some 7, none, .len false (.t 6)⟩,
  ⟨some 8, none, .mv (.c (.int .i64 0))⟩])
 (.block 0
 (.loop
 (.seq (.reg [⟨some 9, none, .bini .lss (.t 8) (.t 7)⟩])
 (.seq (.cond (.t 9)
 .skip
 (.exit 0))
 (.seq (.block 1
 (.seq (.reg [⟨some 10, none, .iaddr 5 (.t 6) (.t 8)⟩,
  ⟨some 11, none, .load true 5 (.t 10)⟩,
  ⟨some 5, none, .alloc [.int .i64 0, .int .i64 0, .int .i64 0, .int .i64 0, .emp]⟩,
  ⟨none, none, .store 5 (.t 5) (.t 11)⟩])
 (.seq (.seq (.reg [⟨some 12, none, .faddr 0 (.t 5)⟩,
  ⟨some 13, none, .load false 1 (.t 12)⟩,
  ⟨some 14, none, .mv (.t 3)⟩,
  ⟨some 15, none, .bini .leq (.t 13) (.t 14)⟩,
  ⟨some 16, none, .mv (.t 15)⟩,
  ⟨some 17, (some (16, false)), .load true 5 (.t 5)⟩,
  ⟨some 18, (some (16, false)), .mv (.t 0)⟩,
  ⟨some 19, (some (16, false)), .build [.int .i64 0, .int .i64 0, .int .i64 0, .int .i64 0, .emp, .emp] [(0, 5, (.t 17)), (5, 1, (.t 18))]⟩,
  ⟨some 20, (some (16, false)), .call 66 [(.t 19)]⟩,
  ⟨some 21, (some (16, false)), .un .not (.t 20)⟩,
  ⟨some 22, none, .pick (.t 16) (.c (.bool true)) (.t 21)⟩])
 (.cond (.t 22)
 (.seq (.reg [⟨some 2, none, .mv (.c (.bool false))⟩])
 .ret)
 .skip))
 (.reg [⟨some 23, none, .faddr 0 (.t 5)⟩,
  ⟨some 24, none, .load false 1 (.t 23)⟩,
  ⟨some 3, none, .mv (.t 24)⟩]))))
 (.reg [⟨some 25, none, .bini .add (.t 8) (.c (.int .i64 1))⟩,
  ⟨some 8, none, .mv (.t 25)⟩])))))))
 (.seq (.reg [⟨some 26, none, .mv (.t 0)⟩,
  ⟨some 27, none, .len false (.t 26)⟩,
  ⟨some 28, none, .bini .leq (.t 27) (.c (.int .i64 8))⟩,
  ⟨some 2, none, .mv (.t 28)⟩])
 .ret))))
theorem d33 : FnD Tryz.prog 33 1 28 [.tmp 2] c33 := ⟨Tryz.f33, _, Tryz.func33, by kernel_rfl, rfl, rfl, by kernel_rfl, by kernel_rfl⟩

end Go.Proofs.YtemjlopoffjmpaaGreat.Abs
/-
  The code of some functions in the abstract layer's form, each checked against the program's own. Written by gen.py.
-/
namespace Go.Proofs.YtemjlopoffjmpaaGreat.Abs
open Go

/-- palimp/dset.Same -/
def c35 : ACode :=
 (.seq (.reg [⟨some 4, none, .mv (.c (.bool false))⟩])
 (.seq (.reg [⟨some 5, none, .mv (.t 0)⟩,
  ⟨some 6, none, .mv (.t 1)⟩,
  ⟨some 7, none, .call 67 [(.t 5), (.t 6), (.c (.fn (.func 68) [] []))]⟩,
  ⟨some 4, none, .mv (.t 7)⟩])
 .ret))
theorem d35 : FnD Tryz.prog 35 2 6 [.tmp 4] c35 := ⟨Tryz.f35, _, Tryz.func35, by kernel_rfl, rfl, rfl, by kernel_rfl, by kernel_rfl⟩

end Go.Proofs.YtemjlopoffjmpaaGreat.Abs
/-
  The code of some functions in the abstract layer's form, each checked against the program's own. Written by gen.py.
-/
namespace Go.Proofs.YtemjlopoffjmpaaGreat.Abs
open Go

/-- (palimp/dset.member).may -/
def c66 : ACode :=
 (.seq (.reg [⟨some 1, none, .box (.t 0)⟩,
  ⟨some 2, none, .mv (.c (.bool false))⟩])
 (.seq (.seq (.reg [⟨some 3, none, .faddr 0 (.t 1)⟩,
  ⟨some 4, none, .faddr 0 (.t 3)⟩,
  ⟨some 5, none, .load false 1 (.t 4)⟩,
  ⟨some 6, none, .bini .lss (.t 5) (.c (.int .i64 1))⟩,
  ⟨some 7, none, .mv (.t 6)⟩,
  ⟨some 8, (some (7, false)), .faddr 0 (.t 1)⟩,
  ⟨some 9, (some (7, false)), .faddr 0 (.t 8)⟩,
  ⟨some 10, (some (7, false)), .load false 1 (.t 9)⟩,
  ⟨some 11, (some (7, false)), .bini .gtr (.t 10) (.c (.int .i64 65535))⟩,
  ⟨some 12, none, .pick (.t 7) (.c (.bool true)) (.t 11)⟩,
  ⟨some 13, none, .mv (.t 12)⟩,
  ⟨some 14, (some (13, false)), .faddr 0 (.t 1)⟩,
  ⟨some 15, (some (13, false)), .faddr 4 (.t 14)⟩,
  ⟨some 16, (some (13, false)), .load false 1 (.t 15)⟩,
  ⟨some 17, (some (13, false)), .call 105 [(.t 16)]⟩,
  ⟨some 18, (some (13, false)), .un .not (.t 17)⟩,
  ⟨some 19, none, .pick (.t 13) (.c (.bool true)) (.t 18)⟩,
  ⟨some 20, none, .mv (.t 19)⟩,
  ⟨some 21, (some (20, false)), .faddr 0 (.t 1)⟩,
  ⟨some 22, (some (20, false)), .faddr 3 (.t 21)⟩,
  ⟨some 23, (some (20, false)), .load false 1 (.t 22)⟩,
  ⟨some 24, (some (20, false)), .bini .lss (.t 23) (.c (.int .i64 0))⟩,
  ⟨some 25, none, .pick (.t 20) (.c (.bool true)) (.t 24)⟩,
  ⟨some 26, none, .mv (.t 25)⟩,
  ⟨some 27, (some (26, false)), .faddr 0 (.t 1)⟩,
  ⟨some 28, (some (26, false)), .faddr 3 (.t 27)⟩,
  ⟨some 29, (some (26, false)), .load false 1 (.t 28)⟩,
  ⟨some 30, (some (26, false)), .bini .gtr (.t 29) (.c (.int .i64 255))⟩,
  ⟨some 31, none, .pick (.t 26) (.c (.bool true)) (.t 30)⟩])
 (.cond (.t 31)
 (.seq (.reg [⟨some 2, none, .mv (.c (.bool false))⟩])
 .ret)
 .skip))
 (.seq (.seq (.reg [⟨some 32, none, .faddr 0 (.t 1)⟩,
  ⟨some 33, none, .faddr 1 (.t 32)⟩,
  ⟨some 34, none, .load false 1 (.t 33)⟩])
 (.block 0
 (.seq (.reg [⟨some 36, none, .bini .eql (.t 34) (.c (.int .i64 1))⟩,
  ⟨some 35, none, .mv (.t 36)⟩])
 (.cond (.t 35)
 (.seq (.reg [⟨some 37, none, .faddr 0 (.t 1)⟩,
  ⟨some 38, none, .faddr 2 (.t 37)⟩,
  ⟨some 39, none, .load false 1 (.t 38)⟩,
  ⟨some 40, none, .bini .eql (.t 39) (.c (.int .i64 0))⟩,
  ⟨some 41, none, .mv (.t 40)⟩,
  ⟨some 42, (some (41, false)), .faddr 5 (.t 1)⟩,
  ⟨some 43, (some (41, false)), .load false 1 (.t 42)⟩,
  ⟨some 44, (some (41, false)), .faddr 0 (.t 1)⟩,
  ⟨some 45, (some (41, false)), .faddr 2 (.t 44)⟩,
  ⟨some 46, (some (41, false)), .load false 1 (.t 45)⟩,
  ⟨some 47, (some (41, false)), .call 60 [(.t 43), (.t 46), (.c (.int .i64 2))]⟩,
  ⟨some 48, (some (41, false)), .mv (.t 47)⟩,
  ⟨some 49, (some (48, true)), .faddr 5 (.t 1)⟩,
  ⟨some 50, (some (48, true)), .load false 1 (.t 49)⟩,
  ⟨some 51, (some (48, true)), .faddr 0 (.t 1)⟩,
  ⟨some 52, (some (48, true)), .faddr 0 (.t 51)⟩,
  ⟨some 53, (some (48, true)), .load false 1 (.t 52)⟩,
  ⟨some 54, (some (48, true)), .call 106 [(.t 50), (.t 53)]⟩,
  ⟨some 55, (some (48, true)), .un .not (.t 54)⟩,
  ⟨some 56, (some (41, false)), .pick (.t 48) (.t 55) (.c (.bool false))⟩,
  ⟨some 57, none, .pick (.t 41) (.c (.bool true)) (.t 56)⟩,
  ⟨some 2, none, .mv (.t 57)⟩])
 .ret)
 (.seq (.reg [⟨some 59, none, .bini .eql (.t 34) (.c (.int .i64 2))⟩,
  ⟨some 58, none, .mv (.t 59)⟩])
 (.cond (.t 58)
 (.seq (.reg [⟨some 60, none, .faddr 0 (.t 1)⟩,
  ⟨some 61, none, .faddr 3 (.t 60)⟩,
  ⟨some 62, none, .load false 1 (.t 61)⟩,
  ⟨some 63, none, .bini .eql (.t 62) (.c (.int .i64 0))⟩,
  ⟨some 64, none, .mv (.t 63)⟩,
  ⟨some 65, (some (64, true)), .faddr 5 (.t 1)⟩,
  ⟨some 66, (some (64, true)), .load false 1 (.t 65)⟩,
  ⟨some 67, (some (64, true)), .faddr 0 (.t 1)⟩,
  ⟨some 68, (some (64, true)), .faddr 2 (.t 67)⟩,
  ⟨some 69, (some (64, true)), .load false 1 (.t 68)⟩,
  ⟨some 70, (some (64, true)), .call 60 [(.t 66), (.t 69), (.c (.int .i64 1))]⟩,
  ⟨some 71, none, .pick (.t 64) (.t 70) (.c (.bool false))⟩,
  ⟨some 2, none, .mv (.t 71)⟩])
 .ret)
 .skip))))))
 (.seq (.reg [⟨some 2, none, .mv (.c (.bool false))⟩])
 .ret))))
theorem d66 : FnD Tryz.prog 66 1 71 [.tmp 2] c66 := ⟨Tryz.f66, _, Tryz.func66, by kernel_rfl, rfl, rfl, by kernel_rfl, by kernel_rfl⟩

end Go.Proofs.YtemjlopoffjmpaaGreat.Abs
/-
  The code of some functions in the abstract layer's form, each checked against the program's own. Written by gen.py.
-/
namespace Go.Proofs.YtemjlopoffjmpaaGreat.Abs
open Go

/-- slices.EqualFunc(()palimp/api.Dset,()palimp/api.Dset,palimp/api.Dset,palimp/api.Dset) -/
def c67 : ACode :=
 (.seq (.reg [⟨some 6, none, .mv (.c (.bool false))⟩])
 (.seq (.seq (.reg [⟨some 10, none, .mv (.t 0)⟩,
  ⟨some 11, none, .len false (.t 10)⟩,
  ⟨some 12, none, .mv (.t 1)⟩,
  ⟨some 13, none, .len false (.t 12)⟩,
  ⟨some 14, none, .bini .neq (.t 11) (.t 13)⟩])
 (.cond (.t 14)
 (.seq (.reg [⟨some 6, none, .mv (.c (.bool false))⟩])
 .ret)
 .skip))
 (.seq (.seq (.reg [⟨some 15, none, .mv (.t 0)⟩,
  ⟨some 16, none, .len false (.t 15)⟩,
  ⟨some 17, none, .mv (.c (.int .i64 0))⟩])
 (.block 0
 (.loop
 (.seq (.reg [⟨some 18, none, .bini .lss (.t 17) (.t 16)⟩])
 (.seq (.cond (.t 18)
 .skip
 (.exit 0))
 (.seq (.block 1
 (.seq (.reg [⟨some 19, none, .mv (.t 17)⟩,
  ⟨some 20, none, .iaddr 5 (.t 15) (.t 17)⟩,
  ⟨some 21, none, .load true 5 (.t 20)⟩,
  ⟨some 8, none, .alloc [.int .i64 0, .int .i64 0, .int .i64 0, .int .i64 0, .emp]⟩,
  ⟨some 7, none, .mv (.t 19)⟩,
  ⟨none, none, .store 5 (.t 8) (.t 21)⟩])
 (.seq (.reg [⟨some 22, none, .mv (.t 1)⟩,
  ⟨some 23, none, .mv (.t 7)⟩,
  ⟨some 24, none, .iaddr 5 (.t 22) (.t 23)⟩,
  ⟨some 25, none, .load true 5 (.t 24)⟩,
  ⟨some 9, none, .alloc [.int .i64 0, .int .i64 0, .int .i64 0, .int .i64 0, .emp]⟩,
  ⟨none, none, .store 5 (.t 9) (.t 25)⟩])
 (.seq (.reg [⟨some 26, none, .mv (.t 2)⟩,
  ⟨some 27, none, .load true 5 (.t 8)⟩,
  ⟨some 28, none, .load true 5 (.t 9)⟩,
  ⟨some 29, none, .calld (.t 26) [(.t 27), (.t 28)]⟩,
  ⟨some 30, none, .un .not (.t 29)⟩])
 (.cond (.t 30)
 (.seq (.reg [⟨some 6, none, .mv (.c (.bool false))⟩])
 .ret)
 .skip)))))
 (.reg [⟨some 31, none, .bini .add (.t 17) (.c (.int .i64 1))⟩,
  ⟨some 17, none, .mv (.t 31)⟩])))))))
 (.seq (.reg [⟨some 6, none, .mv (.c (.bool true))⟩])
 .ret))))
theorem d67 : FnD Tryz.prog 67 3 29 [.tmp 6] c67 := ⟨Tryz.f67, _, Tryz.func67, by kernel_rfl, rfl, rfl, by kernel_rfl, by kernel_rfl⟩

end Go.Proofs.YtemjlopoffjmpaaGreat.Abs
/-
  The code of some functions in the abstract layer's form, each checked against the program's own. Written by gen.py.
-/
namespace Go.Proofs.YtemjlopoffjmpaaGreat.Abs
open Go

/-- palimp/dset.Same$1 -/
def c68 : ACode :=
 (.seq (.reg [⟨some 2, none, .box (.t 0)⟩,
  ⟨some 3, none, .box (.t 1)⟩,
  ⟨some 4, none, .mv (.c (.bool false))⟩])
 (.seq (.reg [⟨some 5, none, .faddr 0 (.t 2)⟩,
  ⟨some 6, none, .load false 1 (.t 5)⟩,
  ⟨some 7, none, .faddr 0 (.t 3)⟩,
  ⟨some 8, none, .load false 1 (.t 7)⟩,
  ⟨some 9, none, .bini .eql (.t 6) (.t 8)⟩,
  ⟨some 10, none, .mv (.t 9)⟩,
  ⟨some 11, (some (10, true)), .faddr 1 (.t 2)⟩,
  ⟨some 12, (some (10, true)), .load false 1 (.t 11)⟩,
  ⟨some 13, (some (10, true)), .faddr 1 (.t 3)⟩,
  ⟨some 14, (some (10, true)), .load false 1 (.t 13)⟩,
  ⟨some 15, (some (10, true)), .bini .eql (.t 12) (.t 14)⟩,
  ⟨some 16, none, .pick (.t 10) (.t 15) (.c (.bool false))⟩,
  ⟨some 17, none, .mv (.t 16)⟩,
  ⟨some 18, (some (17, true)), .faddr 2 (.t 2)⟩,
  ⟨some 19, (some (17, true)), .load false 1 (.t 18)⟩,
  ⟨some 20, (some (17, true)), .faddr 2 (.t 3)⟩,
  ⟨some 21, (some (17, true)), .load false 1 (.t 20)⟩,
  ⟨some 22, (some (17, true)), .bini .eql (.t 19) (.t 21)⟩,
  ⟨some 23, none, .pick (.t 17) (.t 22) (.c (.bool false))⟩,
  ⟨some 24, none, .mv (.t 23)⟩,
  ⟨some 25, (some (24, true)), .faddr 3 (.t 2)⟩,
  ⟨some 26, (some (24, true)), .load false 1 (.t 25)⟩,
  ⟨some 27, (some (24, true)), .faddr 3 (.t 3)⟩,
  ⟨some 28, (some (24, true)), .load false 1 (.t 27)⟩,
  ⟨some 29, (some (24, true)), .bini .eql (.t 26) (.t 28)⟩,
  ⟨some 30, none, .pick (.t 24) (.t 29) (.c (.bool false))⟩,
  ⟨some 31, none, .mv (.t 30)⟩,
  ⟨some 32, (some (31, true)), .faddr 4 (.t 2)⟩,
  ⟨some 33, (some (31, true)), .load false 1 (.t 32)⟩,
  ⟨some 34, (some (31, true)), .faddr 4 (.t 3)⟩,
  ⟨some 35, (some (31, true)), .load false 1 (.t 34)⟩,
  ⟨some 36, (some (31, true)), .call 69 [(.t 33), (.t 35)]⟩,
  ⟨some 37, none, .pick (.t 31) (.t 36) (.c (.bool false))⟩,
  ⟨some 4, none, .mv (.t 37)⟩])
 .ret))
theorem d68 : FnD Tryz.prog 68 2 36 [.tmp 4] c68 := ⟨Tryz.f68, _, Tryz.func68, by kernel_rfl, rfl, rfl, by kernel_rfl, by kernel_rfl⟩

end Go.Proofs.YtemjlopoffjmpaaGreat.Abs
/-
  The code of some functions in the abstract layer's form, each checked against the program's own. Written by gen.py.
-/
namespace Go.Proofs.YtemjlopoffjmpaaGreat.Abs
open Go

/-- palimp/node.Same -/
def c69 : ACode :=
 (.seq (.reg [⟨some 4, none, .mv (.c (.bool false))⟩])
 (.seq (.reg [⟨some 5, none, .mv (.t 0)⟩,
  ⟨some 6, none, .mv (.t 1)⟩,
  ⟨some 7, none, .call 107 [(.t 5), (.t 6)]⟩,
  ⟨some 4, none, .mv (.t 7)⟩])
 .ret))
theorem d69 : FnD Tryz.prog 69 2 6 [.tmp 4] c69 := ⟨Tryz.f69, _, Tryz.func69, by kernel_rfl, rfl, rfl, by kernel_rfl, by kernel_rfl⟩

end Go.Proofs.YtemjlopoffjmpaaGreat.Abs
/-
  A table of functions, to run them by themselves. Written by gentab.py.
-/
namespace Go.Proofs.YtemjlopoffjmpaaGreat.Abs
open Go
def tabForms : List (Nat × FD) := [
  (59, ⟨2, 6, [.tmp 4], c59⟩),
  (102, ⟨2, 6, [.tmp 3], c102⟩),
  (101, ⟨2, 17, [.tmp 4], c101⟩),
  (60, ⟨3, 19, [.tmp 6], c60⟩),
  (56, ⟨1, 22, [.tmp 2], c56⟩),
  (48, ⟨1, 7, [.tmp 2], c48⟩),
  (49, ⟨1, 7, [.tmp 2], c49⟩),
  (57, ⟨3, 42, [.tmp 6, .tmp 7], c57⟩),
  (37, ⟨3, 21, [.tmp 6, .tmp 7], c37⟩),
  (24, ⟨3, 33, [.tmp 6, .tmp 7], c24⟩),
  (25, ⟨3, 33, [.tmp 6, .tmp 7], c25⟩),
  (29, ⟨2, 117, [.tmp 4, .tmp 5], c29⟩),
  (38, ⟨3, 69, [.tmp 6, .tmp 7], c38⟩),
  (32, ⟨2, 52, [.tmp 4, .tmp 5], c32⟩),
  (27, ⟨2, 17, [.cell 4 true 5, .tmp 5], c27⟩),
  (33, ⟨1, 28, [.tmp 2], c33⟩),
  (66, ⟨1, 71, [.tmp 2], c66⟩),
  (105, ⟨1, 5, [.tmp 2], c105⟩),
  (131, ⟨1, 63, [.tmp 2], c131⟩),
  (158, ⟨2, 36, [.tmp 4], c158⟩),
  (159, ⟨2, 17, [.tmp 4], c159⟩),
  (160, ⟨2, 48, [.tmp 4], c160⟩),
  (202, ⟨2, 21, [.tmp 4], c202⟩),
  (106, ⟨2, 24, [.tmp 4], c106⟩),
  (35, ⟨2, 6, [.tmp 4], c35⟩),
  (67, ⟨3, 29, [.tmp 6], c67⟩),
  (68, ⟨2, 36, [.tmp 4], c68⟩),
  (69, ⟨2, 6, [.tmp 4], c69⟩),
  (107, ⟨2, 24, [.tmp 4], c107⟩),
  (76, ⟨0, 7, [.tmp 0], c76⟩),
  (77, ⟨3, 17, [.tmp 4], c77⟩),
  (63, ⟨2, 7, [.tmp 4], c63⟩),
  (64, ⟨2, 6, [.tmp 3], c64⟩),
  (65, ⟨3, 30, [.tmp 6], c65⟩),
  (201, ⟨1, 21, [.tmp 2], c201⟩),
  (224, ⟨1, 15, [.tmp 2], c224⟩),
  (23, ⟨0, 89, [.tmp 0], c23⟩)]
theorem tabForms_ok : ∀ p ∈ tabForms, FnD Tryz.prog p.1 p.2.np p.2.nt p.2.res p.2.ac := by
  intro p hp
  simp only [tabForms, List.mem_cons, List.not_mem_nil, or_false] at hp
  rcases hp with rfl | rfl | rfl | rfl | rfl | rfl | rfl | rfl | rfl | rfl | rfl | rfl | rfl | rfl | rfl | rfl | rfl | rfl | rfl | rfl | rfl | rfl | rfl | rfl | rfl | rfl | rfl | rfl | rfl | rfl | rfl | rfl | rfl | rfl | rfl | rfl | rfl
  · exact d59
  · exact d102
  · exact d101
  · exact d60
  · exact d56
  · exact d48
  · exact d49
  · exact d57
  · exact d37
  · exact d24
  · exact d25
  · exact d29
  · exact d38
  · exact d32
  · exact d27
  · exact d33
  · exact d66
  · exact d105
  · exact d131
  · exact d158
  · exact d159
  · exact d160
  · exact d202
  · exact d106
  · exact d35
  · exact d67
  · exact d68
  · exact d69
  · exact d107
  · exact d76
  · exact d77
  · exact d63
  · exact d64
  · exact d65
  · exact d201
  · exact d224
  · exact d23
end Go.Proofs.YtemjlopoffjmpaaGreat.Abs
/-
  The deeds of the closed statement, each run by itself. Written by forms.py.
-/
namespace Go.Proofs.YtemjlopoffjmpaaGreat.Abs
open Go
/-- The files of a new set. -/
def nf : PV := .fz [[.int .i64 2, .int .i64 0, .str [], .str [], .int .i64 0], [.int .i64 0, .int .i64 0, .str [], .str [], .int .i64 0], [.int .i64 0, .int .i64 0, .str [], .str [], .int .i64 0], [.int .i64 0, .int .i64 0, .str [], .str [], .int .i64 0], [.int .i64 0, .int .i64 0, .str [], .str [], .int .i64 0], [.int .i64 0, .int .i64 0, .str [], .str [], .int .i64 0], [.int .i64 0, .int .i64 0, .str [], .str [], .int .i64 0], [.int .i64 0, .int .i64 0, .str [], .str [], .int .i64 0]]
def fzF (f : Nat) : Bool := f == 76 || f == 49 || f == 37 || f == 24 || f == 25 || f == 29 || f == 38 || f == 32 || f == 27
theorem ev_ok : EvOk Tryz.prog (evF tabForms orcC fzF 40 40) := evF_ok tabForms_ok orcC_ok fzF 40 40
def m0 : Memo := ⟨37, [.emp, .int .i64 1, .int .i64 0], .tuple [.fz [[.int .i64 1, .int .i64 1, .int .i64 0, .int .i64 0, nf]], .int .i64 0]⟩
theorem m0_so : m0.so Tryz.prog := Memo.of ev_ok m0 (by kernel_rfl)
def m1 : Memo := ⟨24, [.fz [[.int .i64 1, .int .i64 1, .int .i64 0, .int .i64 0, nf]], .int .i64 2, .int .i64 1], .tuple [.fz [[.int .i64 1, .int .i64 1, .int .i64 0, .int .i64 0, nf], [.int .i64 2, .int .i64 2, .int .i64 1, .int .i64 0, nf]], .int .i64 0]⟩
theorem m1_so : m1.so Tryz.prog := Memo.of ev_ok m1 (by kernel_rfl)
def m2 : Memo := ⟨25, [.fz [[.int .i64 1, .int .i64 1, .int .i64 0, .int .i64 0, nf], [.int .i64 2, .int .i64 2, .int .i64 1, .int .i64 0, nf]], .int .i64 3, .int .i64 2], .tuple [.fz [[.int .i64 1, .int .i64 1, .int .i64 0, .int .i64 0, nf], [.int .i64 2, .int .i64 2, .int .i64 1, .int .i64 0, nf], [.int .i64 3, .int .i64 1, .int .i64 2, .int .i64 0, nf]], .int .i64 0]⟩
theorem m2_so : m2.so Tryz.prog := Memo.of ev_ok m2 (by kernel_rfl)
def m3 : Memo := ⟨29, [.fz [[.int .i64 1, .int .i64 1, .int .i64 0, .int .i64 0, nf], [.int .i64 2, .int .i64 2, .int .i64 1, .int .i64 0, nf], [.int .i64 3, .int .i64 1, .int .i64 2, .int .i64 0, nf]], .int .i64 3], .tuple [.fz [[.int .i64 1, .int .i64 1, .int .i64 2, .int .i64 0, nf], [.int .i64 2, .int .i64 2, .int .i64 3, .int .i64 0, nf], [.int .i64 3, .int .i64 1, .int .i64 0, .int .i64 0, nf]], .int .i64 0]⟩
theorem m3_so : m3.so Tryz.prog := Memo.of ev_ok m3 (by kernel_rfl)
def m4 : Memo := ⟨32, [.fz [[.int .i64 1, .int .i64 1, .int .i64 2, .int .i64 0, nf], [.int .i64 2, .int .i64 2, .int .i64 3, .int .i64 0, nf], [.int .i64 3, .int .i64 1, .int .i64 0, .int .i64 0, nf]], .int .i64 2], .tuple [.fz [[.int .i64 1, .int .i64 1, .int .i64 2, .int .i64 0, nf], [.int .i64 2, .int .i64 2, .int .i64 3, .int .i64 0, nf], [.int .i64 3, .int .i64 1, .int .i64 0, .int .i64 0, nf]], .int .i64 10]⟩
theorem m4_so : m4.so Tryz.prog := Memo.of ev_ok m4 (by kernel_rfl)
def m5 : Memo := ⟨33, [.fz [[.int .i64 1, .int .i64 1, .int .i64 2, .int .i64 0, nf], [.int .i64 2, .int .i64 2, .int .i64 3, .int .i64 0, nf], [.int .i64 3, .int .i64 1, .int .i64 0, .int .i64 0, nf]]], .bool true⟩
theorem m5_so : m5.so Tryz.prog := Memo.of ev_ok m5 (by kernel_rfl)
def m6 : Memo := ⟨35, [.fz [[.int .i64 1, .int .i64 1, .int .i64 2, .int .i64 0, nf], [.int .i64 2, .int .i64 2, .int .i64 3, .int .i64 0, nf], [.int .i64 3, .int .i64 1, .int .i64 0, .int .i64 0, nf]], .fz [[.int .i64 1, .int .i64 1, .int .i64 2, .int .i64 0, nf], [.int .i64 2, .int .i64 2, .int .i64 3, .int .i64 0, nf], [.int .i64 3, .int .i64 1, .int .i64 0, .int .i64 0, nf]]], .bool true⟩
theorem m6_so : m6.so Tryz.prog := Memo.of ev_ok m6 (by kernel_rfl)
def m7 : Memo := ⟨35, [.fz [[.int .i64 1, .int .i64 1, .int .i64 2, .int .i64 0, nf], [.int .i64 2, .int .i64 2, .int .i64 3, .int .i64 0, nf], [.int .i64 3, .int .i64 1, .int .i64 0, .int .i64 0, nf]], .fz [[.int .i64 1, .int .i64 1, .int .i64 0, .int .i64 0, nf], [.int .i64 2, .int .i64 2, .int .i64 1, .int .i64 0, nf], [.int .i64 3, .int .i64 1, .int .i64 2, .int .i64 0, nf]]], .bool false⟩
theorem m7_so : m7.so Tryz.prog := Memo.of ev_ok m7 (by kernel_rfl)
def memoB : List Memo := [m0, m1, m2, m3, m4, m5, m6, m7]
theorem memoB_so : ∀ m ∈ memoB, m.so Tryz.prog := by
  intro m hm
  simp only [memoB, List.mem_cons, List.not_mem_nil, or_false] at hm
  rcases hm with rfl | rfl | rfl | rfl | rfl | rfl | rfl | rfl
  · exact m0_so
  · exact m1_so
  · exact m2_so
  · exact m3_so
  · exact m4_so
  · exact m5_so
  · exact m6_so
  · exact m7_so
def m100 : Memo := ⟨23, [], .bool true⟩
theorem m100_so : m100.so Tryz.prog := Memo.of (evF_ok tabForms_ok (memo_ok orcC_ok memoB_so) fzF 40 40) m100 (by kernel_rfl)
end Go.Proofs.YtemjlopoffjmpaaGreat.Abs
set_option linter.unusedSimpArgs false
set_option linter.unusedVariables false
namespace Go.Proofs.YtemjlopoffjmpaaGreat.Abs
open Go Go.Proofs

set_option maxRecDepth 10000 in
set_option maxHeartbeats 8000000 in
theorem setsHang_spec (l : List UInt8) : C Tryz.prog 7 [.fz (l.map pbyte)] [] (fun x _ => x = .bool true) := by
  refine C_body d7 rfl (WT_ok ?_)
  unfold c7
  simp only [wk3, onStO, bareL, toCl, onApO, chunks, wk, iaddrV_map, emb, unAgg, ares, aresL, ares1, tupled, forall_const, Nat.reduceAdd, Nat.reduceSub, Nat.reduceMul, Nat.reduceLeDiff, Nat.reduceEqDiff, Nat.reduceBEq, Int.reduceLE, Int.reduceLT, Int.reduceEq, Int.reduceNe, Int.reduceAdd, Int.reduceSub, Int.reduceToNat, Int.reduceNeg, ↓reduceIte, reduceCtorEq, cellsOf, cellA, lay, fillA]
  refine CT_ok (Memo.any m100_so []) ?_
  rintro _ _ ⟨rfl, rfl⟩
  simp only [m100, wk3, onStO, bareL, toCl, onApO, chunks, wk, iaddrV_map, emb, unAgg, ares, aresL, ares1, tupled, forall_const, Nat.reduceAdd, Nat.reduceSub, Nat.reduceMul, Nat.reduceLeDiff, Nat.reduceEqDiff, Nat.reduceBEq, Int.reduceLE, Int.reduceLT, Int.reduceEq, Int.reduceNe, Int.reduceAdd, Int.reduceSub, Int.reduceToNat, Int.reduceNeg, ↓reduceIte, reduceCtorEq, cellsOf, cellA, lay, fillA]
  by_cases h1 : (80 : Int) < l.length
  · simp only [h1, wk3, onStO, bareL, toCl, onApO, chunks, wk, iaddrV_map, emb, unAgg, ares, aresL, ares1, tupled, forall_const, Nat.reduceAdd, Nat.reduceSub, Nat.reduceMul, Nat.reduceLeDiff, Nat.reduceEqDiff, Nat.reduceBEq, Int.reduceLE, Int.reduceLT, Int.reduceEq, Int.reduceNe, Int.reduceAdd, Int.reduceSub, Int.reduceToNat, Int.reduceNeg, ↓reduceIte, reduceCtorEq, cellsOf, cellA, lay, fillA]
  simp only [h1, wk3, onStO, bareL, toCl, onApO, chunks, wk, iaddrV_map, emb, unAgg, ares, aresL, ares1, tupled, forall_const, Nat.reduceAdd, Nat.reduceSub, Nat.reduceMul, Nat.reduceLeDiff, Nat.reduceEqDiff, Nat.reduceBEq, Int.reduceLE, Int.reduceLT, Int.reduceEq, Int.reduceNe, Int.reduceAdd, Int.reduceSub, Int.reduceToNat, Int.reduceNeg, ↓reduceIte, reduceCtorEq, cellsOf, cellA, lay, fillA]
  refine CT_ok (made_spec l) ?_
  rintro _ _ ⟨rfl, rfl⟩
  simp only [wk3, onStO, bareL, toCl, onApO, chunks, wk, iaddrV_map, emb, unAgg, ares, aresL, ares1, tupled, forall_const, Nat.reduceAdd, Nat.reduceSub, Nat.reduceMul, Nat.reduceLeDiff, Nat.reduceEqDiff, Nat.reduceBEq, Int.reduceLE, Int.reduceLT, Int.reduceEq, Int.reduceNe, Int.reduceAdd, Int.reduceSub, Int.reduceToNat, Int.reduceNeg, ↓reduceIte, reduceCtorEq, cellsOf, cellA, lay, fillA]
  refine CT_ok (sets14 l 0 25 (by omega) (by omega) (by omega)) ?_
  rintro _ _ ⟨L0, n0, hL0, hne0, _, rfl, rfl⟩
  simp only [wk3, onStO, bareL, toCl, onApO, chunks, wk, iaddrV_map, emb, unAgg, ares, aresL, ares1, tupled, forall_const, Nat.reduceAdd, Nat.reduceSub, Nat.reduceMul, Nat.reduceLeDiff, Nat.reduceEqDiff, Nat.reduceBEq, Int.reduceLE, Int.reduceLT, Int.reduceEq, Int.reduceNe, Int.reduceAdd, Int.reduceSub, Int.reduceToNat, Int.reduceNeg, ↓reduceIte, reduceCtorEq, cellsOf, cellA, lay, fillA]
  have hlen0 := hL0.len
  refine WT_loop (W_wk (fr' := [.fz (l.map pbyte), .top, .bool false, asets L0, .int .i64 (0 : Nat)] ++ List.replicate 129 .top) (Wk_clear ?_) (W_loop (fun n fr H' => ∃ (k : Nat) (L : List Dset), k ≤ 8 ∧ n = 8 - k ∧ MayL L ∧ L ≠ [] ∧ L.length + k ≤ 8 ∧ H' = [] ∧
    fr = [.fz (l.map pbyte), .top, .bool false, asets L, .int .i64 k] ++ List.replicate 129 .top) 8 ⟨0, L0, by omega, rfl, hL0, hne0, by omega, rfl, rfl⟩ ?_))
  · simp only [asets, renL, ren, List.replicate_succ, List.replicate_zero, List.cons_append, List.nil_append, Tops_top, Tops_same, Tops_nil, Int.natCast_zero]
  rintro n fr H' ⟨k, L, hk, rfl, hL, hne, hlk, rfl, rfl⟩
  refine WT_ok ?_
  have hpos : 0 < L.length := List.length_pos_iff.2 hne
  have one : L.length = 1 → (L.getD 0 default).kind = 1 := fun h4 => by
    obtain ⟨d, rfl⟩ := List.length_eq_one_iff.1 h4
    have hd := hL.each d (by simp)
    show d.kind = 1
    rcases hd.kinds with hh | hh
    · exact hh
    · obtain ⟨_, o, ho, _, hok⟩ := hd.snap hh
      rw [List.mem_singleton] at ho
      subst ho; omega
  simp only [asets, lay, wk3, onStO, bareL, toCl, onApO, chunks, wk, iaddrV_map, emb, unAgg, ares, aresL, ares1, tupled, forall_const, Nat.reduceAdd, Nat.reduceSub, Nat.reduceMul, Nat.reduceLeDiff, Nat.reduceEqDiff, Nat.reduceBEq, Int.reduceLE, Int.reduceLT, Int.reduceEq, Int.reduceNe, Int.reduceAdd, Int.reduceSub, Int.reduceToNat, Int.reduceNeg, ↓reduceIte, reduceCtorEq, cellsOf, cellA, lay, fillA]
  have h2 : (k : Int) < 8 := by omega
  by_cases h3 : (1 : Int) < L.length
  case neg =>
    have h4 : L.length = 1 := by omega
    have h5 : (L.length : Int) = 1 := by omega
    have e5 : (pdset (L.getD 0 default)).length = 5 := rfl
    have h6 := one h4
    have h7 : (0 : Int) < L.length := by omega
    simp only [h2, h3, h5, iaddr_dset, Int.toNat_zero, Int.le_refl, e5, pdset, h6, h7, lay, wk3, onStO, bareL, toCl, onApO, chunks, wk, iaddrV_map, emb, unAgg, ares, aresL, ares1, tupled, forall_const, Nat.reduceAdd, Nat.reduceSub, Nat.reduceMul, Nat.reduceLeDiff, Nat.reduceEqDiff, Nat.reduceBEq, Int.reduceLE, Int.reduceLT, Int.reduceEq, Int.reduceNe, Int.reduceAdd, Int.reduceSub, Int.reduceToNat, Int.reduceNeg, ↓reduceIte, reduceCtorEq, cellsOf, cellA, lay, fillA]
  have w1 : IntKind.i64.wrap ((L.length : Int) - 1) = (L.length : Int) - 1 := IntWalk.i64_in _ (by omega)
  simp only [h2, h3, w1, lay, wk3, onStO, bareL, toCl, onApO, chunks, wk, iaddrV_map, emb, unAgg, ares, aresL, ares1, tupled, forall_const, Nat.reduceAdd, Nat.reduceSub, Nat.reduceMul, Nat.reduceLeDiff, Nat.reduceEqDiff, Nat.reduceBEq, Int.reduceLE, Int.reduceLT, Int.reduceEq, Int.reduceNe, Int.reduceAdd, Int.reduceSub, Int.reduceToNat, Int.reduceNeg, ↓reduceIte, reduceCtorEq, cellsOf, cellA, lay, fillA]
  refine WT_loop (W_wk (fr' := [.fz (l.map pbyte), .top, .bool false, asets L, .int .i64 k, asets L, .bool false, .int .i64 ((L.length : Int) - 1)] ++ List.replicate 126 .top) (Wk_tops ?_) (W_loop (fun n fr H' => ∃ (c : Nat) (X : List Dset) (dn : Bool), c ≤ L.length ∧ n = c ∧ H' = [] ∧ ((dn = false ∧ X = L ∧ ∀ j, c ≤ j → j < L.length → ¬ freeA L (L.getD j default)) ∨ (dn = true ∧ MayL X ∧ X.length = L.length - 1)) ∧
    fr = [.fz (l.map pbyte), .top, .bool false, asets L, .int .i64 k, asets X, .bool dn, .int .i64 ((c : Int) - 1)] ++ List.replicate 126 .top) L.length ⟨L.length, L, false, by omega, rfl, rfl, .inl ⟨rfl, rfl, fun j h1 h2 => by omega⟩, rfl⟩ ?_))
  · simp only [asets, List.replicate_succ, List.replicate_zero, List.cons_append, List.nil_append, Tops_top, Tops_same, Tops_nil]
  rintro n fr H' ⟨c, X, dn, hc, rfl, rfl, hx, rfl⟩
  refine WT_ok ?_
  simp only [asets, lay, wk3, onStO, bareL, toCl, onApO, chunks, wk, iaddrV_map, emb, unAgg, ares, aresL, ares1, tupled, forall_const, Nat.reduceAdd, Nat.reduceSub, Nat.reduceMul, Nat.reduceLeDiff, Nat.reduceEqDiff, Nat.reduceBEq, Int.reduceLE, Int.reduceLT, Int.reduceEq, Int.reduceNe, Int.reduceAdd, Int.reduceSub, Int.reduceToNat, Int.reduceNeg, ↓reduceIte, reduceCtorEq, cellsOf, cellA, lay, fillA]
  have w2 : IntKind.i64.wrap ((k : Int) + 1) = (k : Int) + 1 := IntWalk.i64_in _ (by omega)
  rcases hx with ⟨rfl, rfl, hno⟩ | ⟨rfl, hX, hXl⟩
  case inr =>
    have hXi : (X.length : Int) = (L.length : Int) - 1 := by omega
    have hXne : X ≠ [] := fun e => by rw [e] at hXl; simp at hXl; omega
    by_cases h4 : (0 : Int) ≤ (n : Int) - 1
    all_goals
      simp only [h4, w1, hXi, lay, wk3, onStO, bareL, toCl, onApO, chunks, wk, iaddrV_map, emb, unAgg, ares, aresL, ares1, tupled, forall_const, Nat.reduceAdd, Nat.reduceSub, Nat.reduceMul, Nat.reduceLeDiff, Nat.reduceEqDiff, Nat.reduceBEq, Int.reduceLE, Int.reduceLT, Int.reduceEq, Int.reduceNe, Int.reduceAdd, Int.reduceSub, Int.reduceToNat, Int.reduceNeg, ↓reduceIte, reduceCtorEq, cellsOf, cellA, lay, fillA]
      refine CT_ok (maysets X hX _) ?_
      rintro _ _ ⟨rfl, rfl⟩
      simp only [w2, lay, wk3, onStO, bareL, toCl, onApO, chunks, wk, iaddrV_map, emb, unAgg, ares, aresL, ares1, tupled, forall_const, Nat.reduceAdd, Nat.reduceSub, Nat.reduceMul, Nat.reduceLeDiff, Nat.reduceEqDiff, Nat.reduceBEq, Int.reduceLE, Int.reduceLT, Int.reduceEq, Int.reduceNe, Int.reduceAdd, Int.reduceSub, Int.reduceToNat, Int.reduceNeg, ↓reduceIte, reduceCtorEq, cellsOf, cellA, lay, fillA]
      refine QLoop_go (n' := 8 - (k + 1)) (by omega) ⟨k + 1, X, by omega, rfl, hX, hXne, by omega, rfl, rfl⟩ ?_
      simp only [asets, List.replicate_succ, List.replicate_zero, List.cons_append, List.nil_append, Tops_top, Tops_same, Tops_nil, Int.natCast_add, Int.natCast_one]
  by_cases h4 : (0 : Int) ≤ (n : Int) - 1
  case neg =>
    exfalso
    obtain ⟨d, hd, hf⟩ := free_exists hL (by omega)
    obtain ⟨j, hj, rfl⟩ := mem_dgetD hd
    exact hno j (by omega) hj hf
  obtain ⟨m, rfl⟩ : ∃ m, n = m + 1 := ⟨n - 1, by omega⟩
  have ei : ((m + 1 : Nat) : Int) - 1 = (m : Int) := by omega
  have hm : m < X.length := by omega
  have hmi : (m : Int) < X.length := by omega
  have h0 : (0 : Int) ≤ m := by omega
  have e5 : (pdset (X.getD m default)).length = 5 := rfl
  have w5 : IntKind.i64.wrap ((m : Int) - 1) = (m : Int) - 1 := IntWalk.i64_in _ (by omega)
  simp only [ei, h0, hmi, iaddr_dset, Int.toNat_natCast, e5, pdset, lay, wk3, onStO, bareL, toCl, onApO, chunks, wk, iaddrV_map, emb, unAgg, ares, aresL, ares1, tupled, forall_const, Nat.reduceAdd, Nat.reduceSub, Nat.reduceMul, Nat.reduceLeDiff, Nat.reduceEqDiff, Nat.reduceBEq, Int.reduceLE, Int.reduceLT, Int.reduceEq, Int.reduceNe, Int.reduceAdd, Int.reduceSub, Int.reduceToNat, Int.reduceNeg, ↓reduceIte, reduceCtorEq, cellsOf, cellA, lay, fillA]
  refine CT_ok (destroyL X hL.short (X.getD m default).id _) ?_
  rintro _ _ ⟨rfl, rfl⟩
  have ht := destroy_tell hL (dgetD_mem hm)
  have hY := destroyA_may hL (X.getD m default).id
  generalize destroyA X (X.getD m default).id = r at ht hY
  obtain ⟨Y, e⟩ := r
  simp only [outA, asets, lay, wk3, onStO, bareL, toCl, onApO, chunks, wk, iaddrV_map, emb, unAgg, ares, aresL, ares1, tupled, forall_const, Nat.reduceAdd, Nat.reduceSub, Nat.reduceMul, Nat.reduceLeDiff, Nat.reduceEqDiff, Nat.reduceBEq, Int.reduceLE, Int.reduceLT, Int.reduceEq, Int.reduceNe, Int.reduceAdd, Int.reduceSub, Int.reduceToNat, Int.reduceNeg, ↓reduceIte, reduceCtorEq, cellsOf, cellA, lay, fillA]
  refine WT_loop (W_wk (fr' := [.fz (l.map pbyte), .top, .bool false, asets X, .int .i64 k, asets X, .bool false, .int .i64 m, asets Y, .int .i64 e, .bool false, .int .i64 (0 : Nat), .int .i64 (0 : Nat)] ++ List.replicate 121 .top) (Wk_tops ?_) (W_loop (fun n fr H' => ∃ (j : Nat), j ≤ X.length ∧ n = X.length - j ∧ H' = [] ∧
    fr = [.fz (l.map pbyte), .top, .bool false, asets X, .int .i64 k, asets X, .bool false, .int .i64 m, asets Y, .int .i64 e, .bool (hgB (X.take j) (X.getD m default).id), .int .i64 (livesA (X.take j)), .int .i64 j] ++ List.replicate 121 .top) X.length ⟨0, by omega, rfl, rfl, rfl⟩ ?_))
  · simp only [asets, List.replicate_succ, List.replicate_zero, List.cons_append, List.nil_append, Tops_top, Tops_same, Tops_nil, Int.natCast_zero]
  rintro n fr H' ⟨j, hj, rfl, rfl, rfl⟩
  refine WT_ok ?_
  simp only [asets, lay, wk3, onStO, bareL, toCl, onApO, chunks, wk, iaddrV_map, emb, unAgg, ares, aresL, ares1, tupled, forall_const, Nat.reduceAdd, Nat.reduceSub, Nat.reduceMul, Nat.reduceLeDiff, Nat.reduceEqDiff, Nat.reduceBEq, Int.reduceLE, Int.reduceLT, Int.reduceEq, Int.reduceNe, Int.reduceAdd, Int.reduceSub, Int.reduceToNat, Int.reduceNeg, ↓reduceIte, reduceCtorEq, cellsOf, cellA, lay, fillA]
  by_cases h5 : (j : Int) < X.length
  · have hjl : j < X.length := by omega
    have hu := hgB_take X (X.getD m default).id j hjl
    have ht2 := livesA_take X j hjl
    have hle := livesA_le (X.take j)
    have hle2 : (X.take j).length ≤ X.length := by simp; omega
    have w3 : IntKind.i64.wrap ((livesA (X.take j) : Int) + 1) = (livesA (X.take j) : Int) + 1 := IntWalk.i64_in _ (by omega)
    have w4 : IntKind.i64.wrap ((j : Int) + 1) = (j : Int) + 1 := IntWalk.i64_in _ (by omega)
    have j0 : (0 : Int) ≤ j := by omega
    have e6 : (pdset (X.getD j default)).length = 5 := rfl
    simp only [h5, lay, wk3, onStO, bareL, toCl, onApO, chunks, wk, iaddrV_map, emb, unAgg, ares, aresL, ares1, tupled, forall_const, Nat.reduceAdd, Nat.reduceSub, Nat.reduceMul, Nat.reduceLeDiff, Nat.reduceEqDiff, Nat.reduceBEq, Int.reduceLE, Int.reduceLT, Int.reduceEq, Int.reduceNe, Int.reduceAdd, Int.reduceSub, Int.reduceToNat, Int.reduceNeg, ↓reduceIte, reduceCtorEq, cellsOf, cellA, lay, fillA]
    refine WT_draw ?_
    cases hb : hgB (X.take j) (X.getD m default).id <;> rcases Classical.propComplete ((X.getD j default).kind = 1) with p1 | p1 <;> rcases Classical.propComplete ((X.getD j default).origin = (X.getD m default).id) with p2 | p2
    all_goals
      simp only [p1, p2, if_true, if_false, decide_true, decide_false, hb, Bool.or_true, Bool.true_or, Bool.or_false, Bool.false_or] at hu ht2
      simp only [p1, p2, hb, h5, j0, h0, hmi, iaddr_dset, Int.toNat_natCast, e5, e6, pdset, w3, w4, lay, wk3, onStO, bareL, toCl, onApO, chunks, wk, iaddrV_map, emb, unAgg, ares, aresL, ares1, tupled, forall_const, Nat.reduceAdd, Nat.reduceSub, Nat.reduceMul, Nat.reduceLeDiff, Nat.reduceEqDiff, Nat.reduceBEq, Int.reduceLE, Int.reduceLT, Int.reduceEq, Int.reduceNe, Int.reduceAdd, Int.reduceSub, Int.reduceToNat, Int.reduceNeg, ↓reduceIte, reduceCtorEq, cellsOf, cellA, lay, fillA]
      refine QLoop_go (n' := X.length - (j + 1)) (by omega) ⟨j + 1, by omega, rfl, rfl, rfl⟩ ?_
      simp only [hu, ht2, asets, List.replicate_succ, List.replicate_zero, List.cons_append, List.nil_append, Tops_top, Tops_same, Tops_nil, Int.natCast_add, Int.natCast_one, Nat.add_zero]
  have : j = X.length := by omega
  subst this
  have hl2 : X.take X.length = X := List.take_length
  simp only [h5, hl2, lay, wk3, onStO, bareL, toCl, onApO, chunks, wk, iaddrV_map, emb, unAgg, ares, aresL, ares1, tupled, forall_const, Nat.reduceAdd, Nat.reduceSub, Nat.reduceMul, Nat.reduceLeDiff, Nat.reduceEqDiff, Nat.reduceBEq, Int.reduceLE, Int.reduceLT, Int.reduceEq, Int.reduceNe, Int.reduceAdd, Int.reduceSub, Int.reduceToNat, Int.reduceNeg, ↓reduceIte, reduceCtorEq, cellsOf, cellA, lay, fillA]
  have q1 : (true == true) = true := rfl
  have q2 : (false == false) = true := rfl
  by_cases hf : freeA X (X.getD m default)
  · obtain ⟨hr, hYl⟩ := ht.1 hf
    obtain ⟨rfl, rfl⟩ : Y = X.filter (notA (X.getD m default).id) ∧ e = 0 := ⟨congrArg Prod.fst hr, congrArg Prod.snd hr⟩
    have hs := hf.1
    rcases hf.2 with hk2 | hk2
    · simp only [hs, hk2, h0, hmi, iaddr_dset, Int.toNat_natCast, e5, pdset, w5, q1, q2, lay, wk3, onStO, bareL, toCl, onApO, chunks, wk, iaddrV_map, emb, unAgg, ares, aresL, ares1, tupled, forall_const, Nat.reduceAdd, Nat.reduceSub, Nat.reduceMul, Nat.reduceLeDiff, Nat.reduceEqDiff, Nat.reduceBEq, Int.reduceLE, Int.reduceLT, Int.reduceEq, Int.reduceNe, Int.reduceAdd, Int.reduceSub, Int.reduceToNat, Int.reduceNeg, ↓reduceIte, reduceCtorEq, cellsOf, cellA, lay, fillA]
      refine QLoop_go (n' := m) (by omega) ⟨m, _, true, by omega, rfl, rfl, .inr ⟨rfl, hY, hYl⟩, rfl⟩ ?_
      simp only [asets, List.replicate_succ, List.replicate_zero, List.cons_append, List.nil_append, Tops_top, Tops_same, Tops_nil]
    · have hk3 : (1 : Int) < livesA X := by omega
      rcases Classical.propComplete ((X.getD m default).kind = 2) with p1 | p1
      all_goals
        simp only [hs, p1, hk3, h0, hmi, iaddr_dset, Int.toNat_natCast, e5, pdset, w5, q1, q2, lay, wk3, onStO, bareL, toCl, onApO, chunks, wk, iaddrV_map, emb, unAgg, ares, aresL, ares1, tupled, forall_const, Nat.reduceAdd, Nat.reduceSub, Nat.reduceMul, Nat.reduceLeDiff, Nat.reduceEqDiff, Nat.reduceBEq, Int.reduceLE, Int.reduceLT, Int.reduceEq, Int.reduceNe, Int.reduceAdd, Int.reduceSub, Int.reduceToNat, Int.reduceNeg, ↓reduceIte, reduceCtorEq, cellsOf, cellA, lay, fillA]
        refine QLoop_go (n' := m) (by omega) ⟨m, _, true, by omega, rfl, rfl, .inr ⟨rfl, hY, hYl⟩, rfl⟩ ?_
        simp only [asets, List.replicate_succ, List.replicate_zero, List.cons_append, List.nil_append, Tops_top, Tops_same, Tops_nil]
  · have hr := ht.2 hf
    obtain ⟨rfl, rfl⟩ : Y = X ∧ e = 10 := ⟨congrArg Prod.fst hr, congrArg Prod.snd hr⟩
    have hno2 : ∀ j, m ≤ j → j < Y.length → ¬ freeA Y (Y.getD j default) := fun j h6 h7 => by
      rcases Nat.eq_or_lt_of_le h6 with h8 | h8
      · rw [← h8]; exact hf
      · exact hno j h8 h7
    cases hb : hgB Y (Y.getD m default).id
    · have p1 : ¬ (Y.getD m default).kind = 2 := fun h => hf ⟨hb, .inl h⟩
      have p2 : ¬ (1 : Int) < livesA Y := fun h => hf ⟨hb, .inr (by omega)⟩
      simp only [hb, p1, p2, h0, hmi, iaddr_dset, Int.toNat_natCast, e5, pdset, w5, q1, q2, lay, wk3, onStO, bareL, toCl, onApO, chunks, wk, iaddrV_map, emb, unAgg, ares, aresL, ares1, tupled, forall_const, Nat.reduceAdd, Nat.reduceSub, Nat.reduceMul, Nat.reduceLeDiff, Nat.reduceEqDiff, Nat.reduceBEq, Int.reduceLE, Int.reduceLT, Int.reduceEq, Int.reduceNe, Int.reduceAdd, Int.reduceSub, Int.reduceToNat, Int.reduceNeg, ↓reduceIte, reduceCtorEq, cellsOf, cellA, lay, fillA]
      refine QLoop_go (n' := m) (by omega) ⟨m, Y, false, by omega, rfl, rfl, .inl ⟨rfl, rfl, hno2⟩, rfl⟩ ?_
      simp only [asets, List.replicate_succ, List.replicate_zero, List.cons_append, List.nil_append, Tops_top, Tops_same, Tops_nil]
    · simp only [hb, h0, hmi, iaddr_dset, Int.toNat_natCast, e5, pdset, w5, q1, q2, lay, wk3, onStO, bareL, toCl, onApO, chunks, wk, iaddrV_map, emb, unAgg, ares, aresL, ares1, tupled, forall_const, Nat.reduceAdd, Nat.reduceSub, Nat.reduceMul, Nat.reduceLeDiff, Nat.reduceEqDiff, Nat.reduceBEq, Int.reduceLE, Int.reduceLT, Int.reduceEq, Int.reduceNe, Int.reduceAdd, Int.reduceSub, Int.reduceToNat, Int.reduceNeg, ↓reduceIte, reduceCtorEq, cellsOf, cellA, lay, fillA]
      refine QLoop_go (n' := m) (by omega) ⟨m, Y, false, by omega, rfl, rfl, .inl ⟨rfl, rfl, hno2⟩, rfl⟩ ?_
      simp only [asets, List.replicate_succ, List.replicate_zero, List.cons_append, List.nil_append, Tops_top, Tops_same, Tops_nil]
end Go.Proofs.YtemjlopoffjmpaaGreat.Abs
set_option linter.unusedSimpArgs false
set_option linter.unusedVariables false
namespace Go.Proofs.YtemjlopoffjmpaaGreat.Abs
open Go Go.Proofs

/-- A row of bytes that came in. -/
theorem rep_row {w : World} {a : Option Addr} {len cap : Nat} {zs : List Int}
    (h : (a = none ∧ len = 0 ∧ cap = 0 ∧ zs = []) ∨ ∃ x, a = some x ∧ len ≤ cap ∧ cap ≤ maxLen ∧ zs.length = cap ∧ (∀ i, i < zs.length → w.cell? (x.add i) = some (.int .u8 (zs.getD i 0))) ∧ ∀ n ∈ zs, (Lit.int .u8 n).wf = true) :
    ∃ l : List UInt8, Rep (E0 w) (.fz (l.map pbyte)) (.slice a len cap) := by
  rcases h with ⟨rfl, rfl, rfl, rfl⟩ | ⟨x, rfl, hl, hm, hz, hcell, hwf⟩
  · exact ⟨[], .pure (x := .fz []) (.fz0 _ _)⟩
  · by_cases h0 : len = 0
    · subst h0
      exact ⟨[], .pure (x := .fz []) (.fz0 _ _)⟩
    · have hc0 := hcell 0 (by omega)
      obtain ⟨b, off, spot⟩ := x
      simp only [Addr.add, if_true, World.cell?] at hc0
      cases hb : w.heap[b]? with
      | none => rw [hb] at hc0; cases hc0
      | some o =>
        rw [hb] at hc0
        cases o with
        | cells c t q =>
          simp only at hc0
          split at hc0
          · cases hc0
          · rename_i hsp
            have hsp2 : spot = none := by cases spot with
              | none => rfl
              | some _ => simp at hsp
            subst hsp2
            have hci : ∀ i, i < zs.length → c[off + i]? = some (.int .u8 (zs.getD i 0)) := by
              intro i hi
              have := hcell i hi
              unfold Addr.add at this
              split at this
              · rename_i e; subst e; simpa [World.cell?, hb] using this
              · simpa [World.cell?, hb] using this
            refine ⟨(zs.take len).map fun n => UInt8.ofNat n.toNat, ?_⟩
            have hlen : (((zs.take len).map fun n => UInt8.ofNat n.toNat).map pbyte).length = len := by simp; omega
            have key := RepP.fz (F := (E0 w).F) (((zs.take len).map fun n => UInt8.ofNat n.toNat).map pbyte) b off cap 1 c t q hb (by rw [hlen]; exact hl) (by
              intro e he
              obtain ⟨y, _, rfl⟩ := List.mem_map.1 he
              rfl) (by
              rw [hlen]
              have h1 := hci (len - 1) (by omega)
              have : off + (len - 1) < c.size := by
                apply Classical.byContradiction
                intro h
                rw [Array.getElem?_eq_none (by omega)] at h1
                cases h1
              omega) (by
              intro i e k cc v he hk hv
              rw [List.map_map, List.getElem?_map] at he
              have hi : i < (zs.take len).length := by
                apply Classical.byContradiction
                intro h
                rw [List.getElem?_eq_none (by omega)] at he
                cases he
              rw [List.getElem?_eq_getElem hi] at he
              simp only [Option.map_some, Option.some.injEq, Function.comp] at he
              subst he
              have hk0 : k = 0 := by
                apply Classical.byContradiction
                intro h
                rw [List.getElem?_eq_none (by simp [pbyte]; omega)] at hk
                cases hk
              subst hk0
              simp only [pbyte, List.getElem?_cons_zero, Option.some.injEq] at hk
              subst hk
              rw [List.length_take] at hi
              rw [Nat.mul_one, Nat.add_zero, hci i (by omega)] at hv
              cases hv
              have hg : zs.getD i 0 = (zs.take len)[i]'(by rw [List.length_take]; exact hi) := by
                rw [List.getElem_take, List.getD_eq_getElem?_getD, List.getElem?_eq_getElem (by omega), Option.getD_some]
              rw [hg]
              have hw := hwf ((zs.take len)[i]'(by rw [List.length_take]; exact hi)) (List.mem_of_mem_take (List.getElem_mem _))
              generalize (zs.take len)[i]'(by rw [List.length_take]; exact hi) = n at hw
              have hn : 0 ≤ n ∧ n < 256 := by
                have := hw; simp [Lit.wf, IntKind.min, IntKind.max, IntKind.bits, IntKind.signed] at this; omega
              have : ((UInt8.ofNat n.toNat).toNat : Int) = n := by
                rw [UInt8.toNat_ofNat']
                omega
              rw [this]
              exact .int _ _)
            rw [hlen] at key
            exact .pure (x := .fz _) key
        | _ => simp at hc0
theorem repL_one {E : Env} {x : AV} {v : Value} (h : Rep E x v) : RepL E [x] #[v] := by
  refine ⟨rfl, fun i c u hc hu => ?_⟩
  match i, hc, hu with
  | 0, hc, hu => simp at hc hu; subst hc; subst hu; exact h
  | i + 1, hc, _ => simp at hc
end Go.Proofs.YtemjlopoffjmpaaGreat.Abs
