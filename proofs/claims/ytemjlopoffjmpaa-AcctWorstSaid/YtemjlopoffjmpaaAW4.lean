/-
  Part 4 of the proof: no condition. (Parts of the abstract layer, of the program's functions in its form, and of their contracts.)
-/
import Derived.Test.YtemjlopoffjmpaaWk
import Derived.Test.YtemjlopoffjmpaaWk3
import Derived.Test.YtemjlopoffjmpaaAW3
import Derived.Test.YtemjlopoffjmpaaAW2
import Derived.Test.YtemjlopoffjmpaaAW1
import Derived.Test.YtemjlopoffjmpaaAbs35
import Derived.Test.YtemjlopoffjmpaaAbs36
import Derived.Test.YtemjlopoffjmpaaAbs37
import Derived.KernelRfl
import Derived.Test.YtemjlopoffjmpaaAbs38
import Derived.ProofKit
set_option linter.unusedSimpArgs false
set_option linter.unusedVariables false
namespace Go.Proofs.Ytemjlopoffjmpaa.Abs
open Go Go.Proofs

theorem grown_spec (l : List UInt8) (n : Int) (s : List Node) (hw : Wf s) (most : Nat) (hm : most ≤ 1000000) (hn : 0 ≤ n) (hl : l.length ≤ 1000000) :
    C Try.prog 45 [.ptr 0 0 0 1, aset s, .int .i64 most] (picksH l n) (fun x H' => ∃ t n', Wf t ∧ n ≤ n' ∧ x = aset t ∧ H' = picksH l n') := by
  refine C_body d45 rfl (WT_ok ?_)
  unfold c45
  simp only [picksH, aset, iaddr_node, pnode, wk3, onStO, bareL, toCl, Bool.bne_false, Bool.bne_true, chunks, List.flatten_cons, List.flatten_nil, List.getElem?_map, List.nil_append, List.append_nil, wk, List.getElem?_cons_succ, List.getElem?_cons_zero, Option.getD_some, List.set_cons_succ, List.set_cons_zero, List.length_map, List.length_cons, List.length_nil, List.take_succ_cons, List.take_zero, List.drop_succ_cons, List.drop_zero, List.map_cons, List.map_nil, emb, unAgg, Option.map_some, List.cons_append, List.replicate_succ, List.replicate_zero, decide_eq_true_eq, decide_eq_false_iff_not, if_true, if_false, Bool.false_eq_true, ares, aresL, ares1, tupled, ge_iff_le, Option.some.injEq, exists_eq_left', Bool.not_eq_true', Bool.not_eq_false', Bool.not_true, Bool.not_false, decide_true, decide_false, true_implies, false_implies, forall_const, and_true, true_and, not_true_eq_false, not_false_eq_true, Nat.reduceAdd, Nat.reduceSub, Nat.reduceMul, Nat.reduceLeDiff, Nat.reduceEqDiff, Nat.reduceBEq, Nat.zero_le, Nat.le_refl, Int.reduceLE, Int.reduceLT, Int.reduceEq, Int.reduceNe, Int.reduceAdd, Int.reduceSub, Int.reduceToNat, Int.reduceNeg, ↓reduceIte, reduceCtorEq, Int.toNat_natCast, Nat.add_zero, Nat.zero_add, cellsOf, cellA, List.all_cons, List.all_nil, Bool.and_true, Bool.true_and, lay, List.length_append, List.length_set, List.length_replicate, ne_eq, fillA]
  refine WT_loop (W_loop (fun nn fr H' => ∃ (j : Nat) (t : List Node) (n' : Int), Wf t ∧ n ≤ n' ∧ j ≤ most ∧ nn = most - j ∧ H' = [some [[.fz (l.map pbyte), .int .i64 n']]] ∧ fr = [.ptr 0 0 0 1, .fz (t.map pnode), .int .i64 most, .top, .top, .top, .emp, .int .i64 j] ++ List.replicate 18 .top) most ⟨0, s, n, hw, by omega, by omega, rfl, rfl, rfl⟩ ?_)
  rintro nn fr H ⟨j, t, n', ht, hn', hj, rfl, rfl, rfl⟩
  refine WT_ok ?_
  simp only [iaddr_node, pnode, wk3, onStO, bareL, toCl, Bool.bne_false, Bool.bne_true, chunks, List.flatten_cons, List.flatten_nil, List.getElem?_map, List.nil_append, List.append_nil, wk, List.getElem?_cons_succ, List.getElem?_cons_zero, Option.getD_some, List.set_cons_succ, List.set_cons_zero, List.length_map, List.length_cons, List.length_nil, List.take_succ_cons, List.take_zero, List.drop_succ_cons, List.drop_zero, List.map_cons, List.map_nil, emb, unAgg, Option.map_some, List.cons_append, List.replicate_succ, List.replicate_zero, decide_eq_true_eq, decide_eq_false_iff_not, if_true, if_false, Bool.false_eq_true, ares, aresL, ares1, tupled, ge_iff_le, Option.some.injEq, exists_eq_left', Bool.not_eq_true', Bool.not_eq_false', Bool.not_true, Bool.not_false, decide_true, decide_false, true_implies, false_implies, forall_const, and_true, true_and, not_true_eq_false, not_false_eq_true, Nat.reduceAdd, Nat.reduceSub, Nat.reduceMul, Nat.reduceLeDiff, Nat.reduceEqDiff, Nat.reduceBEq, Nat.zero_le, Nat.le_refl, Int.reduceLE, Int.reduceLT, Int.reduceEq, Int.reduceNe, Int.reduceAdd, Int.reduceSub, Int.reduceToNat, Int.reduceNeg, ↓reduceIte, reduceCtorEq, Int.toNat_natCast, Nat.add_zero, Nat.zero_add, cellsOf, cellA, List.all_cons, List.all_nil, Bool.and_true, Bool.true_and, lay, List.length_append, List.length_set, List.length_replicate, ne_eq, fillA]
  by_cases h : (j : Int) < most
  · simp only [h, iaddr_node, pnode, wk3, onStO, bareL, toCl, Bool.bne_false, Bool.bne_true, chunks, List.flatten_cons, List.flatten_nil, List.getElem?_map, List.nil_append, List.append_nil, wk, List.getElem?_cons_succ, List.getElem?_cons_zero, Option.getD_some, List.set_cons_succ, List.set_cons_zero, List.length_map, List.length_cons, List.length_nil, List.take_succ_cons, List.take_zero, List.drop_succ_cons, List.drop_zero, List.map_cons, List.map_nil, emb, unAgg, Option.map_some, List.cons_append, List.replicate_succ, List.replicate_zero, decide_eq_true_eq, decide_eq_false_iff_not, if_true, if_false, Bool.false_eq_true, ares, aresL, ares1, tupled, ge_iff_le, Option.some.injEq, exists_eq_left', Bool.not_eq_true', Bool.not_eq_false', Bool.not_true, Bool.not_false, decide_true, decide_false, true_implies, false_implies, forall_const, and_true, true_and, not_true_eq_false, not_false_eq_true, Nat.reduceAdd, Nat.reduceSub, Nat.reduceMul, Nat.reduceLeDiff, Nat.reduceEqDiff, Nat.reduceBEq, Nat.zero_le, Nat.le_refl, Int.reduceLE, Int.reduceLT, Int.reduceEq, Int.reduceNe, Int.reduceAdd, Int.reduceSub, Int.reduceToNat, Int.reduceNeg, ↓reduceIte, reduceCtorEq, Int.toNat_natCast, Nat.add_zero, Nat.zero_add, cellsOf, cellA, List.all_cons, List.all_nil, Bool.and_true, Bool.true_and, lay, List.length_append, List.length_set, List.length_replicate, ne_eq, fillA]
    refine CT_ok (over_spec (l.map pbyte) n') ?_
    rintro _ _ ⟨rfl, rfl⟩
    simp only [h, iaddr_node, pnode, wk3, onStO, bareL, toCl, Bool.bne_false, Bool.bne_true, chunks, List.flatten_cons, List.flatten_nil, List.getElem?_map, List.nil_append, List.append_nil, wk, List.getElem?_cons_succ, List.getElem?_cons_zero, Option.getD_some, List.set_cons_succ, List.set_cons_zero, List.length_map, List.length_cons, List.length_nil, List.take_succ_cons, List.take_zero, List.drop_succ_cons, List.drop_zero, List.map_cons, List.map_nil, emb, unAgg, Option.map_some, List.cons_append, List.replicate_succ, List.replicate_zero, decide_eq_true_eq, decide_eq_false_iff_not, if_true, if_false, Bool.false_eq_true, ares, aresL, ares1, tupled, ge_iff_le, Option.some.injEq, exists_eq_left', Bool.not_eq_true', Bool.not_eq_false', Bool.not_true, Bool.not_false, decide_true, decide_false, true_implies, false_implies, forall_const, and_true, true_and, not_true_eq_false, not_false_eq_true, Nat.reduceAdd, Nat.reduceSub, Nat.reduceMul, Nat.reduceLeDiff, Nat.reduceEqDiff, Nat.reduceBEq, Nat.zero_le, Nat.le_refl, Int.reduceLE, Int.reduceLT, Int.reduceEq, Int.reduceNe, Int.reduceAdd, Int.reduceSub, Int.reduceToNat, Int.reduceNeg, ↓reduceIte, reduceCtorEq, Int.toNat_natCast, Nat.add_zero, Nat.zero_add, cellsOf, cellA, List.all_cons, List.all_nil, Bool.and_true, Bool.true_and, lay, List.length_append, List.length_set, List.length_replicate, ne_eq, fillA]
    refine guard_both ?_ ?_ <;> intro h2 <;> simp only [decide_eq_true_eq, decide_eq_false_iff_not, Bool.not_true, Bool.not_false, Bool.not_eq_true', Bool.not_eq_false', Bool.and_eq_true, Bool.or_eq_true, List.length_map] at h2
    · simp only [h, h2, iaddr_node, pnode, wk3, onStO, bareL, toCl, Bool.bne_false, Bool.bne_true, chunks, List.flatten_cons, List.flatten_nil, List.getElem?_map, List.nil_append, List.append_nil, wk, List.getElem?_cons_succ, List.getElem?_cons_zero, Option.getD_some, List.set_cons_succ, List.set_cons_zero, List.length_map, List.length_cons, List.length_nil, List.take_succ_cons, List.take_zero, List.drop_succ_cons, List.drop_zero, List.map_cons, List.map_nil, emb, unAgg, Option.map_some, List.cons_append, List.replicate_succ, List.replicate_zero, decide_eq_true_eq, decide_eq_false_iff_not, if_true, if_false, Bool.false_eq_true, ares, aresL, ares1, tupled, ge_iff_le, Option.some.injEq, exists_eq_left', Bool.not_eq_true', Bool.not_eq_false', Bool.not_true, Bool.not_false, decide_true, decide_false, true_implies, false_implies, forall_const, and_true, true_and, not_true_eq_false, not_false_eq_true, Nat.reduceAdd, Nat.reduceSub, Nat.reduceMul, Nat.reduceLeDiff, Nat.reduceEqDiff, Nat.reduceBEq, Nat.zero_le, Nat.le_refl, Int.reduceLE, Int.reduceLT, Int.reduceEq, Int.reduceNe, Int.reduceAdd, Int.reduceSub, Int.reduceToNat, Int.reduceNeg, ↓reduceIte, reduceCtorEq, Int.toNat_natCast, Nat.add_zero, Nat.zero_add, cellsOf, cellA, List.all_cons, List.all_nil, Bool.and_true, Bool.true_and, lay, List.length_append, List.length_set, List.length_replicate, ne_eq, fillA]
      refine CT_ok (edit_spec l n' 1 (by omega) hl) ?_
      rintro _ _ ⟨k, i, m, n2, p, q, e, hp, hq, he, hn2, rfl, rfl⟩
      simp only [editA, picksH, iaddr_node, pnode, wk3, onStO, bareL, toCl, Bool.bne_false, Bool.bne_true, chunks, List.flatten_cons, List.flatten_nil, List.getElem?_map, List.nil_append, List.append_nil, wk, List.getElem?_cons_succ, List.getElem?_cons_zero, Option.getD_some, List.set_cons_succ, List.set_cons_zero, List.length_map, List.length_cons, List.length_nil, List.take_succ_cons, List.take_zero, List.drop_succ_cons, List.drop_zero, List.map_cons, List.map_nil, emb, unAgg, Option.map_some, List.cons_append, List.replicate_succ, List.replicate_zero, decide_eq_true_eq, decide_eq_false_iff_not, if_true, if_false, Bool.false_eq_true, ares, aresL, ares1, tupled, ge_iff_le, Option.some.injEq, exists_eq_left', Bool.not_eq_true', Bool.not_eq_false', Bool.not_true, Bool.not_false, decide_true, decide_false, true_implies, false_implies, forall_const, and_true, true_and, not_true_eq_false, not_false_eq_true, Nat.reduceAdd, Nat.reduceSub, Nat.reduceMul, Nat.reduceLeDiff, Nat.reduceEqDiff, Nat.reduceBEq, Nat.zero_le, Nat.le_refl, Int.reduceLE, Int.reduceLT, Int.reduceEq, Int.reduceNe, Int.reduceAdd, Int.reduceSub, Int.reduceToNat, Int.reduceNeg, ↓reduceIte, reduceCtorEq, Int.toNat_natCast, Nat.add_zero, Nat.zero_add, cellsOf, cellA, List.all_cons, List.all_nil, Bool.and_true, Bool.true_and, lay, List.length_append, List.length_set, List.length_replicate, ne_eq, fillA]
      refine CT_ok (done_spec t ht k i m 0 0 p q e hp hq he _) ?_
      rintro _ _ ⟨rfl, u, er, hu, rfl⟩
      have w2 : IntKind.i64.wrap ((j : Int) + 1) = (j : Int) + 1 := IntWalk.i64_in _ (by omega)
      simp only [aset, w2, iaddr_node, pnode, wk3, onStO, bareL, toCl, Bool.bne_false, Bool.bne_true, chunks, List.flatten_cons, List.flatten_nil, List.getElem?_map, List.nil_append, List.append_nil, wk, List.getElem?_cons_succ, List.getElem?_cons_zero, Option.getD_some, List.set_cons_succ, List.set_cons_zero, List.length_map, List.length_cons, List.length_nil, List.take_succ_cons, List.take_zero, List.drop_succ_cons, List.drop_zero, List.map_cons, List.map_nil, emb, unAgg, Option.map_some, List.cons_append, List.replicate_succ, List.replicate_zero, decide_eq_true_eq, decide_eq_false_iff_not, if_true, if_false, Bool.false_eq_true, ares, aresL, ares1, tupled, ge_iff_le, Option.some.injEq, exists_eq_left', Bool.not_eq_true', Bool.not_eq_false', Bool.not_true, Bool.not_false, decide_true, decide_false, true_implies, false_implies, forall_const, and_true, true_and, not_true_eq_false, not_false_eq_true, Nat.reduceAdd, Nat.reduceSub, Nat.reduceMul, Nat.reduceLeDiff, Nat.reduceEqDiff, Nat.reduceBEq, Nat.zero_le, Nat.le_refl, Int.reduceLE, Int.reduceLT, Int.reduceEq, Int.reduceNe, Int.reduceAdd, Int.reduceSub, Int.reduceToNat, Int.reduceNeg, ↓reduceIte, reduceCtorEq, Int.toNat_natCast, Nat.add_zero, Nat.zero_add, cellsOf, cellA, List.all_cons, List.all_nil, Bool.and_true, Bool.true_and, lay, List.length_append, List.length_set, List.length_replicate, ne_eq, fillA]
      refine QLoop_go (n' := most - (j + 1)) (by omega) ⟨j + 1, u, n2, hu, by omega, by omega, rfl, rfl, rfl⟩ ?_
      simp only [List.replicate_succ, List.replicate_zero, List.cons_append, List.nil_append, Tops_top, Tops_same, Tops_nil, Int.natCast_add, Int.natCast_one]
    · simp only [h, h2, iaddr_node, pnode, wk3, onStO, bareL, toCl, Bool.bne_false, Bool.bne_true, chunks, List.flatten_cons, List.flatten_nil, List.getElem?_map, List.nil_append, List.append_nil, wk, List.getElem?_cons_succ, List.getElem?_cons_zero, Option.getD_some, List.set_cons_succ, List.set_cons_zero, List.length_map, List.length_cons, List.length_nil, List.take_succ_cons, List.take_zero, List.drop_succ_cons, List.drop_zero, List.map_cons, List.map_nil, emb, unAgg, Option.map_some, List.cons_append, List.replicate_succ, List.replicate_zero, decide_eq_true_eq, decide_eq_false_iff_not, if_true, if_false, Bool.false_eq_true, ares, aresL, ares1, tupled, ge_iff_le, Option.some.injEq, exists_eq_left', Bool.not_eq_true', Bool.not_eq_false', Bool.not_true, Bool.not_false, decide_true, decide_false, true_implies, false_implies, forall_const, and_true, true_and, not_true_eq_false, not_false_eq_true, Nat.reduceAdd, Nat.reduceSub, Nat.reduceMul, Nat.reduceLeDiff, Nat.reduceEqDiff, Nat.reduceBEq, Nat.zero_le, Nat.le_refl, Int.reduceLE, Int.reduceLT, Int.reduceEq, Int.reduceNe, Int.reduceAdd, Int.reduceSub, Int.reduceToNat, Int.reduceNeg, ↓reduceIte, reduceCtorEq, Int.toNat_natCast, Nat.add_zero, Nat.zero_add, cellsOf, cellA, List.all_cons, List.all_nil, Bool.and_true, Bool.true_and, lay, List.length_append, List.length_set, List.length_replicate, ne_eq, fillA]
      exact ⟨t, n', ht, hn', rfl, rfl⟩
  · simp only [h, iaddr_node, pnode, wk3, onStO, bareL, toCl, Bool.bne_false, Bool.bne_true, chunks, List.flatten_cons, List.flatten_nil, List.getElem?_map, List.nil_append, List.append_nil, wk, List.getElem?_cons_succ, List.getElem?_cons_zero, Option.getD_some, List.set_cons_succ, List.set_cons_zero, List.length_map, List.length_cons, List.length_nil, List.take_succ_cons, List.take_zero, List.drop_succ_cons, List.drop_zero, List.map_cons, List.map_nil, emb, unAgg, Option.map_some, List.cons_append, List.replicate_succ, List.replicate_zero, decide_eq_true_eq, decide_eq_false_iff_not, if_true, if_false, Bool.false_eq_true, ares, aresL, ares1, tupled, ge_iff_le, Option.some.injEq, exists_eq_left', Bool.not_eq_true', Bool.not_eq_false', Bool.not_true, Bool.not_false, decide_true, decide_false, true_implies, false_implies, forall_const, and_true, true_and, not_true_eq_false, not_false_eq_true, Nat.reduceAdd, Nat.reduceSub, Nat.reduceMul, Nat.reduceLeDiff, Nat.reduceEqDiff, Nat.reduceBEq, Nat.zero_le, Nat.le_refl, Int.reduceLE, Int.reduceLT, Int.reduceEq, Int.reduceNe, Int.reduceAdd, Int.reduceSub, Int.reduceToNat, Int.reduceNeg, ↓reduceIte, reduceCtorEq, Int.toNat_natCast, Nat.add_zero, Nat.zero_add, cellsOf, cellA, List.all_cons, List.all_nil, Bool.and_true, Bool.true_and, lay, List.length_append, List.length_set, List.length_replicate, ne_eq, fillA]
    exact ⟨t, n', ht, hn', rfl, rfl⟩

theorem newA_wf : Wf newA := Wf.of rfl (by decide) (by
  intro x hx
  rcases List.mem_cons.1 hx with rfl | hx
  · exact ⟨by decide, by decide, fun h => rfl⟩
  · have hx2 : x ∈ List.replicate 7 (⟨0, 0, [], [], 0⟩ : Node) := hx
    have := List.eq_of_mem_replicate hx2
    subst this
    exact ⟨by decide, by decide, fun h => rfl⟩)
theorem set_spec (l : List UInt8) (n : Int) (most : Nat) (hm : most ≤ 1000000) (hn : 0 ≤ n) (hl : l.length ≤ 1000000) :
    C Try.prog 16 [.ptr 0 0 0 1, .int .i64 most] (picksH l n) (fun x H' => ∃ t n', Wf t ∧ n ≤ n' ∧ x = aset t ∧ H' = picksH l n') := by
  refine C_body d16 rfl (WT_ok ?_)
  unfold c16
  simp only [iaddr_node, pnode, wk3, onStO, bareL, toCl, Bool.bne_false, Bool.bne_true, chunks, List.flatten_cons, List.flatten_nil, List.getElem?_map, List.nil_append, List.append_nil, wk, List.getElem?_cons_succ, List.getElem?_cons_zero, Option.getD_some, List.set_cons_succ, List.set_cons_zero, List.length_map, List.length_cons, List.length_nil, List.take_succ_cons, List.take_zero, List.drop_succ_cons, List.drop_zero, List.map_cons, List.map_nil, emb, unAgg, Option.map_some, List.cons_append, List.replicate_succ, List.replicate_zero, decide_eq_true_eq, decide_eq_false_iff_not, if_true, if_false, Bool.false_eq_true, ares, aresL, ares1, tupled, ge_iff_le, Option.some.injEq, exists_eq_left', Bool.not_eq_true', Bool.not_eq_false', Bool.not_true, Bool.not_false, decide_true, decide_false, true_implies, false_implies, forall_const, and_true, true_and, not_true_eq_false, not_false_eq_true, Nat.reduceAdd, Nat.reduceSub, Nat.reduceMul, Nat.reduceLeDiff, Nat.reduceEqDiff, Nat.reduceBEq, Nat.zero_le, Nat.le_refl, Int.reduceLE, Int.reduceLT, Int.reduceEq, Int.reduceNe, Int.reduceAdd, Int.reduceSub, Int.reduceToNat, Int.reduceNeg, ↓reduceIte, reduceCtorEq, Int.toNat_natCast, Nat.add_zero, Nat.zero_add, cellsOf, cellA, List.all_cons, List.all_nil, Bool.and_true, Bool.true_and, lay, List.length_append, List.length_set, List.length_replicate, ne_eq, fillA]
  refine CT_ok (new_spec _) ?_
  rintro _ _ ⟨rfl, rfl⟩
  simp only [iaddr_node, pnode, wk3, onStO, bareL, toCl, Bool.bne_false, Bool.bne_true, chunks, List.flatten_cons, List.flatten_nil, List.getElem?_map, List.nil_append, List.append_nil, wk, List.getElem?_cons_succ, List.getElem?_cons_zero, Option.getD_some, List.set_cons_succ, List.set_cons_zero, List.length_map, List.length_cons, List.length_nil, List.take_succ_cons, List.take_zero, List.drop_succ_cons, List.drop_zero, List.map_cons, List.map_nil, emb, unAgg, Option.map_some, List.cons_append, List.replicate_succ, List.replicate_zero, decide_eq_true_eq, decide_eq_false_iff_not, if_true, if_false, Bool.false_eq_true, ares, aresL, ares1, tupled, ge_iff_le, Option.some.injEq, exists_eq_left', Bool.not_eq_true', Bool.not_eq_false', Bool.not_true, Bool.not_false, decide_true, decide_false, true_implies, false_implies, forall_const, and_true, true_and, not_true_eq_false, not_false_eq_true, Nat.reduceAdd, Nat.reduceSub, Nat.reduceMul, Nat.reduceLeDiff, Nat.reduceEqDiff, Nat.reduceBEq, Nat.zero_le, Nat.le_refl, Int.reduceLE, Int.reduceLT, Int.reduceEq, Int.reduceNe, Int.reduceAdd, Int.reduceSub, Int.reduceToNat, Int.reduceNeg, ↓reduceIte, reduceCtorEq, Int.toNat_natCast, Nat.add_zero, Nat.zero_add, cellsOf, cellA, List.all_cons, List.all_nil, Bool.and_true, Bool.true_and, lay, List.length_append, List.length_set, List.length_replicate, ne_eq, fillA]
  refine CT_ok (grown_spec l n newA newA_wf most hm hn hl) ?_
  rintro _ _ ⟨t, n', ht, hn', rfl, rfl⟩
  simp only [iaddr_node, pnode, wk3, onStO, bareL, toCl, Bool.bne_false, Bool.bne_true, chunks, List.flatten_cons, List.flatten_nil, List.getElem?_map, List.nil_append, List.append_nil, wk, List.getElem?_cons_succ, List.getElem?_cons_zero, Option.getD_some, List.set_cons_succ, List.set_cons_zero, List.length_map, List.length_cons, List.length_nil, List.take_succ_cons, List.take_zero, List.drop_succ_cons, List.drop_zero, List.map_cons, List.map_nil, emb, unAgg, Option.map_some, List.cons_append, List.replicate_succ, List.replicate_zero, decide_eq_true_eq, decide_eq_false_iff_not, if_true, if_false, Bool.false_eq_true, ares, aresL, ares1, tupled, ge_iff_le, Option.some.injEq, exists_eq_left', Bool.not_eq_true', Bool.not_eq_false', Bool.not_true, Bool.not_false, decide_true, decide_false, true_implies, false_implies, forall_const, and_true, true_and, not_true_eq_false, not_false_eq_true, Nat.reduceAdd, Nat.reduceSub, Nat.reduceMul, Nat.reduceLeDiff, Nat.reduceEqDiff, Nat.reduceBEq, Nat.zero_le, Nat.le_refl, Int.reduceLE, Int.reduceLT, Int.reduceEq, Int.reduceNe, Int.reduceAdd, Int.reduceSub, Int.reduceToNat, Int.reduceNeg, ↓reduceIte, reduceCtorEq, Int.toNat_natCast, Nat.add_zero, Nat.zero_add, cellsOf, cellA, List.all_cons, List.all_nil, Bool.and_true, Bool.true_and, lay, List.length_append, List.length_set, List.length_replicate, ne_eq, fillA]
  exact ⟨t, n', ht, hn', rfl, rfl⟩
end Go.Proofs.Ytemjlopoffjmpaa.Abs
set_option linter.unusedSimpArgs false
set_option linter.unusedVariables false
namespace Go.Proofs.Ytemjlopoffjmpaa.Abs
open Go Go.Proofs

theorem used_set (f : List UInt8 → Nat) (x : Node) : ∀ (s : List Node) (n : Nat), n < s.length → usedA f (s.set n x) + f (s.getD n default).body = usedA f s + f x.body
  | [], n, h => absurd h (by simp)
  | y :: s, 0, _ => by simp only [usedA, List.set_cons_zero, List.map_cons, List.sum_cons, List.getD_cons_zero]; omega
  | y :: s, n + 1, h => by
    have := used_set f x s n (by simpa using h)
    simp only [usedA, List.set_cons_succ, List.map_cons, List.sum_cons, List.getD_cons_succ] at this ⊢
    omega
theorem kinds_set (x : Node) : ∀ (s : List Node) (n : Nat), n < s.length → kinds (s.set n x) + (if (s.getD n default).kind = 0 then 0 else 1) = kinds s + if x.kind = 0 then 0 else 1
  | [], n, h => absurd h (by simp)
  | y :: s, 0, _ => by
    simp only [kinds, List.set_cons_zero, List.countP_cons, List.getD_cons_zero]
    by_cases h1 : x.kind = 0 <;> by_cases h2 : y.kind = 0 <;> simp [h1, h2] <;> omega
  | y :: s, n + 1, h => by
    have := kinds_set x s n (by simpa using h)
    simp only [kinds, List.set_cons_succ, List.countP_cons, List.getD_cons_succ] at this ⊢
    omega
theorem withA_nat (s : List Node) (n : Nat) (x : Node) : withA s n x = s.set n x := by
  unfold withA; rw [if_pos (by omega), Int.toNat_natCast]
theorem getD_set (s : List Node) (n : Nat) (x : Node) (hn : n < s.length) (k : Nat) : (s.set n x).getD k default = if k = n then x else s.getD k default := by
  rw [List.getD_eq_getElem?_getD, List.getElem?_set]
  by_cases h : n = k
  · subst h; rw [if_pos rfl, if_pos hn, if_pos rfl]; rfl
  · rw [if_neg h, if_neg (Ne.symm h), List.getD_eq_getElem?_getD]
theorem one_split {α : Type} {y x : α} {l1 l2 : List α} (h : [y] = l1 ++ x :: l2) : l1 = [] ∧ x = y ∧ l2 = [] := by
  cases l1 with
  | nil => simp at h; exact ⟨rfl, h.1.symm, h.2⟩
  | cons z l1 => simp at h

theorem write_new {s : List Node} {nm : List UInt8} {n : Nat} {text : List UInt8} {x : AV} (hw : Wf s) (hk0 : (s.getD 0 default).kind = 2) (hno : ∀ k, kid s (0 : Nat) k → (s.getD k default).name ≠ nm)
    (hn : n < s.length) (hn0 : (s.getD n default).kind = 0) (ht : text.length ≤ 128) (hx : WriteR (fun l => l = [nm]) False (withA s n ⟨1, (0 : Nat), nm, [], 0⟩) 0 text x) :
    ∃ u : List Node, (∃ e : Int, x = .tuple [aset u, .int .i64 e]) ∧ u.length = s.length ∧ used u = used s + countA text ∧ worst1 countA u = worst1 countA s + 1 + countA text := by
  rw [withA_nat] at hx
  have hn1 : n ≠ 0 := fun e => by subst e; omega
  have hc0 : countA [] = 0 := by rfl
  have hb : (s.getD n default).body = [] := (hw.getD n hn).none hn0
  have g0 : (s.set n ⟨1, (0 : Nat), nm, [], 0⟩).getD 0 default = s.getD 0 default := by rw [getD_set _ _ _ hn, if_neg (Ne.symm hn1)]
  have gn : (s.set n ⟨1, (0 : Nat), nm, [], 0⟩).getD n default = ⟨1, (0 : Nat), nm, [], 0⟩ := by rw [getD_set _ _ _ hn, if_pos rfl]
  have hkn : kid (s.set n ⟨1, (0 : Nat), nm, [], 0⟩) (0 : Nat) n := ⟨by omega, by simpa using hn, by rw [gn]; exact .inl rfl, by rw [gn]⟩
  have uniq : ∀ m, kid (s.set n ⟨1, (0 : Nat), nm, [], 0⟩) (0 : Nat) m → ((s.set n ⟨1, (0 : Nat), nm, [], 0⟩).getD m default).name = nm → m = n := by
    intro m hm hnm
    apply Classical.byContradiction
    intro e
    obtain ⟨a, b, c, d⟩ := hm
    rw [getD_set _ _ _ hn, if_neg e] at c d hnm
    exact hno m ⟨a, by simpa using b, c, d⟩ hnm
  have hu := used_set countA ⟨1, (0 : Nat), nm, [], 0⟩ s n hn
  have hk := kinds_set ⟨1, (0 : Nat), nm, [], 0⟩ s n hn
  rw [hb] at hu
  rw [if_pos hn0] at hk
  simp only [hc0, Nat.add_zero] at hu hk
  rw [if_neg (by decide)] at hk
  have down1 : ∀ k, downR (s.set n ⟨1, (0 : Nat), nm, [], 0⟩) [nm] 0 k → k = n := by
    rintro k ⟨_, m, hm, hnm, hR⟩
    have : m = k := hR
    subst this
    exact uniq m hm hnm
  rcases hx with ⟨h, _⟩ | ⟨rfl, rfl⟩ | ⟨l, rfl, k, hk', hR, _, y, ⟨_, hy⟩, rfl⟩
  · exfalso
    rcases h with (h | ⟨l, rfl, l1, x, l2, a, he, hR, ha, hd⟩ | ⟨l, rfl, k, _, hR, hk2⟩) | h | h
    · exact h
    · obtain ⟨rfl, rfl, rfl⟩ := one_split he
      have : 0 = a := hR
      subst this
      rcases hd with hd | hd
      · rw [g0] at hd; exact hd hk0
      · exact hd n hkn (by rw [gn])
    · have := down1 k hR
      subst this
      rw [gn] at hk2
      exact absurd (show (1 : Int) = 2 from hk2) (by decide)
    · omega
    · omega
  · refine ⟨_, ⟨0, rfl⟩, by simp, ?_, ?_⟩
    · show usedA countA _ = usedA countA s + _
      rw [hc0]; omega
    · unfold worst1
      rw [hc0]; omega
  · have := down1 k hR
    subst this
    rw [gn] at hy ⊢
    have hy' := hy rfl rfl
    subst hy'
    rw [withA_nat]
    have hu2 := used_set countA ⟨1, (0 : Nat), nm, y, 0⟩ (s.set k ⟨1, (0 : Nat), nm, [], 0⟩) k (by simpa using hn)
    have hk2 := kinds_set ⟨1, (0 : Nat), nm, y, 0⟩ (s.set k ⟨1, (0 : Nat), nm, [], 0⟩) k (by simpa using hn)
    rw [gn] at hu2 hk2
    simp only [hc0, Nat.add_zero] at hu2 hk2
    refine ⟨(s.set k ⟨1, (0 : Nat), nm, [], 0⟩).set k ⟨1, (0 : Nat), nm, y, 0⟩, ⟨0, rfl⟩, by simp, ?_, ?_⟩
    · show usedA countA _ = usedA countA s + _
      omega
    · unfold worst1
      simp only [if_neg (show ¬ (1 : Int) = 0 by decide)] at hk2
      omega
end Go.Proofs.Ytemjlopoffjmpaa.Abs
/-
  A table of functions, to run them by themselves. Written by gentab.py.
-/
namespace Go.Proofs.Ytemjlopoffjmpaa.Abs
open Go
def tabBegun : List (Nat × FD) := [
  (8, ⟨0, 74, [.tmp 0], c8⟩),
  (10, ⟨0, 7, [.tmp 0], c10⟩),
  (14, ⟨1, 18, [.tmp 2], c14⟩),
  (15, ⟨3, 74, [.tmp 6, .tmp 7], c15⟩),
  (17, ⟨3, 54, [.tmp 6, .tmp 7], c17⟩),
  (18, ⟨4, 64, [.tmp 8, .tmp 9], c18⟩),
  (19, ⟨1, 18, [.tmp 2], c19⟩),
  (33, ⟨2, 24, [.tmp 4], c33⟩),
  (40, ⟨1, 7, [.tmp 2], c40⟩),
  (41, ⟨1, 7, [.tmp 2], c41⟩),
  (42, ⟨2, 17, [.cell 4 true 5, .tmp 5], c42⟩),
  (43, ⟨2, 17, [.tmp 4], c43⟩),
  (44, ⟨2, 6, [.tmp 3], c44⟩),
  (46, ⟨2, 53, [.tmp 4, .tmp 5, .tmp 6], c46⟩),
  (47, ⟨3, 30, [.tmp 6, .tmp 7], c47⟩),
  (48, ⟨1, 17, [.tmp 2, .tmp 3], c48⟩),
  (49, ⟨3, 21, [.tmp 6], c49⟩),
  (50, ⟨2, 24, [.tmp 4, .tmp 5], c50⟩),
  (51, ⟨2, 11, [.tmp 4], c51⟩),
  (52, ⟨1, 25, [.tmp 2], c52⟩),
  (56, ⟨2, 18, [.tmp 4, .tmp 5], c56⟩),
  (59, ⟨1, 22, [.tmp 2], c59⟩),
  (62, ⟨2, 6, [.tmp 4], c62⟩),
  (71, ⟨2, 79, [.tmp 4], c71⟩),
  (74, ⟨1, 45, [.tmp 2, .tmp 3], c74⟩),
  (75, ⟨2, 46, [.tmp 4, .tmp 5], c75⟩),
  (81, ⟨2, 17, [.tmp 4], c81⟩),
  (82, ⟨2, 6, [.tmp 3], c82⟩),
  (87, ⟨1, 56, [.tmp 2], c87⟩),
  (88, ⟨1, 15, [.tmp 2], c88⟩)]
theorem tabBegun_ok : ∀ p ∈ tabBegun, FnD Try.prog p.1 p.2.np p.2.nt p.2.res p.2.ac := by
  intro p hp
  simp only [tabBegun, List.mem_cons, List.not_mem_nil, or_false] at hp
  rcases hp with rfl | rfl | rfl | rfl | rfl | rfl | rfl | rfl | rfl | rfl | rfl | rfl | rfl | rfl | rfl | rfl | rfl | rfl | rfl | rfl | rfl | rfl | rfl | rfl | rfl | rfl | rfl | rfl | rfl | rfl
  · exact d8
  · exact d10
  · exact d14
  · exact d15
  · exact d17
  · exact d18
  · exact d19
  · exact d33
  · exact d40
  · exact d41
  · exact d42
  · exact d43
  · exact d44
  · exact d46
  · exact d47
  · exact d48
  · exact d49
  · exact d50
  · exact d51
  · exact d52
  · exact d56
  · exact d59
  · exact d62
  · exact d71
  · exact d74
  · exact d75
  · exact d81
  · exact d82
  · exact d87
  · exact d88
end Go.Proofs.Ytemjlopoffjmpaa.Abs
set_option linter.unusedSimpArgs false
set_option linter.unusedVariables false
namespace Go.Proofs.Ytemjlopoffjmpaa.Abs
open Go Go.Proofs

/-- slices.Clone of what is empty: an object without elements. -/
theorem clone_emp0 : C Try.prog 40 [.emp] [] (fun x H' => x = .own 0 5 0 0 0 ∧ H' = [some []]) := by
  refine C_body' d40 rfl (WT_ok ?_)
  unfold c40
  simp only [wk3, onStO, bareL, toCl, Bool.bne_false, Bool.bne_true, chunks, List.flatten_cons, List.flatten_nil, List.getElem?_map, List.nil_append, List.append_nil, wk, iaddrV_map, List.getElem?_cons_succ, List.getElem?_cons_zero, Option.getD_some, List.set_cons_succ, List.set_cons_zero, List.length_map, List.length_cons, List.length_nil, List.take_succ_cons, List.take_zero, List.drop_succ_cons, List.drop_zero, List.map_cons, List.map_nil, emb, unAgg, Option.map_some, List.cons_append, List.replicate_succ, List.replicate_zero, decide_eq_true_eq, decide_eq_false_iff_not, if_true, if_false, Bool.false_eq_true, ares, aresL, ares1, tupled, ge_iff_le, Option.some.injEq, exists_eq_left', Bool.not_eq_true', Bool.not_eq_false', Bool.not_true, Bool.not_false, decide_true, decide_false, true_implies, false_implies, forall_const, and_true, true_and, not_true_eq_false, not_false_eq_true, Nat.reduceAdd, Nat.reduceSub, Nat.reduceMul, Nat.reduceLeDiff, Nat.reduceEqDiff, Nat.reduceBEq, Nat.zero_le, Nat.le_refl, Int.reduceLE, Int.reduceLT, Int.reduceEq, Int.reduceNe, Int.reduceAdd, Int.reduceSub, Int.reduceToNat, Int.reduceNeg, ↓reduceIte, reduceCtorEq, Int.toNat_natCast, Nat.add_zero, Nat.zero_add, cellsOf, cellA, List.all_cons, List.all_nil, Bool.and_true, Bool.true_and, lay, List.length_append, List.length_set, List.length_replicate, ne_eq, fillA]
  intro b
  cases b
  · simp only [wk3, onStO, bareL, toCl, Bool.bne_false, Bool.bne_true, chunks, List.flatten_cons, List.flatten_nil, List.getElem?_map, List.nil_append, List.append_nil, wk, iaddrV_map, List.getElem?_cons_succ, List.getElem?_cons_zero, Option.getD_some, List.set_cons_succ, List.set_cons_zero, List.length_map, List.length_cons, List.length_nil, List.take_succ_cons, List.take_zero, List.drop_succ_cons, List.drop_zero, List.map_cons, List.map_nil, emb, unAgg, Option.map_some, List.cons_append, List.replicate_succ, List.replicate_zero, decide_eq_true_eq, decide_eq_false_iff_not, if_true, if_false, Bool.false_eq_true, ares, aresL, ares1, tupled, ge_iff_le, Option.some.injEq, exists_eq_left', Bool.not_eq_true', Bool.not_eq_false', Bool.not_true, Bool.not_false, decide_true, decide_false, true_implies, false_implies, forall_const, and_true, true_and, not_true_eq_false, not_false_eq_true, Nat.reduceAdd, Nat.reduceSub, Nat.reduceMul, Nat.reduceLeDiff, Nat.reduceEqDiff, Nat.reduceBEq, Nat.zero_le, Nat.le_refl, Int.reduceLE, Int.reduceLT, Int.reduceEq, Int.reduceNe, Int.reduceAdd, Int.reduceSub, Int.reduceToNat, Int.reduceNeg, ↓reduceIte, reduceCtorEq, Int.toNat_natCast, Nat.add_zero, Nat.zero_add, cellsOf, cellA, List.all_cons, List.all_nil, Bool.and_true, Bool.true_and, lay, List.length_append, List.length_set, List.length_replicate, ne_eq, fillA]
    exact ⟨_, _, Wk.refl _ _ _, rfl, rfl⟩
  · simp only [wk3, onStO, bareL, toCl, Bool.bne_false, Bool.bne_true, chunks, List.flatten_cons, List.flatten_nil, List.getElem?_map, List.nil_append, List.append_nil, wk, iaddrV_map, List.getElem?_cons_succ, List.getElem?_cons_zero, Option.getD_some, List.set_cons_succ, List.set_cons_zero, List.length_map, List.length_cons, List.length_nil, List.take_succ_cons, List.take_zero, List.drop_succ_cons, List.drop_zero, List.map_cons, List.map_nil, emb, unAgg, Option.map_some, List.cons_append, List.replicate_succ, List.replicate_zero, decide_eq_true_eq, decide_eq_false_iff_not, if_true, if_false, Bool.false_eq_true, ares, aresL, ares1, tupled, ge_iff_le, Option.some.injEq, exists_eq_left', Bool.not_eq_true', Bool.not_eq_false', Bool.not_true, Bool.not_false, decide_true, decide_false, true_implies, false_implies, forall_const, and_true, true_and, not_true_eq_false, not_false_eq_true, Nat.reduceAdd, Nat.reduceSub, Nat.reduceMul, Nat.reduceLeDiff, Nat.reduceEqDiff, Nat.reduceBEq, Nat.zero_le, Nat.le_refl, Int.reduceLE, Int.reduceLT, Int.reduceEq, Int.reduceNe, Int.reduceAdd, Int.reduceSub, Int.reduceToNat, Int.reduceNeg, ↓reduceIte, reduceCtorEq, Int.toNat_natCast, Nat.add_zero, Nat.zero_add, cellsOf, cellA, List.all_cons, List.all_nil, Bool.and_true, Bool.true_and, lay, List.length_append, List.length_set, List.length_replicate, ne_eq, fillA]
    exact ⟨_, _, Wk_emp 5, rfl, rfl⟩
theorem clone2_emp0 : C Try.prog 41 [.emp] [] (fun x H' => x = .own 0 5 0 0 0 ∧ H' = [some []]) := by
  refine C_body' d41 rfl (WT_ok ?_)
  unfold c41
  simp only [wk3, onStO, bareL, toCl, Bool.bne_false, Bool.bne_true, chunks, List.flatten_cons, List.flatten_nil, List.getElem?_map, List.nil_append, List.append_nil, wk, iaddrV_map, List.getElem?_cons_succ, List.getElem?_cons_zero, Option.getD_some, List.set_cons_succ, List.set_cons_zero, List.length_map, List.length_cons, List.length_nil, List.take_succ_cons, List.take_zero, List.drop_succ_cons, List.drop_zero, List.map_cons, List.map_nil, emb, unAgg, Option.map_some, List.cons_append, List.replicate_succ, List.replicate_zero, decide_eq_true_eq, decide_eq_false_iff_not, if_true, if_false, Bool.false_eq_true, ares, aresL, ares1, tupled, ge_iff_le, Option.some.injEq, exists_eq_left', Bool.not_eq_true', Bool.not_eq_false', Bool.not_true, Bool.not_false, decide_true, decide_false, true_implies, false_implies, forall_const, and_true, true_and, not_true_eq_false, not_false_eq_true, Nat.reduceAdd, Nat.reduceSub, Nat.reduceMul, Nat.reduceLeDiff, Nat.reduceEqDiff, Nat.reduceBEq, Nat.zero_le, Nat.le_refl, Int.reduceLE, Int.reduceLT, Int.reduceEq, Int.reduceNe, Int.reduceAdd, Int.reduceSub, Int.reduceToNat, Int.reduceNeg, ↓reduceIte, reduceCtorEq, Int.toNat_natCast, Nat.add_zero, Nat.zero_add, cellsOf, cellA, List.all_cons, List.all_nil, Bool.and_true, Bool.true_and, lay, List.length_append, List.length_set, List.length_replicate, ne_eq, fillA]
  intro b
  cases b
  · simp only [wk3, onStO, bareL, toCl, Bool.bne_false, Bool.bne_true, chunks, List.flatten_cons, List.flatten_nil, List.getElem?_map, List.nil_append, List.append_nil, wk, iaddrV_map, List.getElem?_cons_succ, List.getElem?_cons_zero, Option.getD_some, List.set_cons_succ, List.set_cons_zero, List.length_map, List.length_cons, List.length_nil, List.take_succ_cons, List.take_zero, List.drop_succ_cons, List.drop_zero, List.map_cons, List.map_nil, emb, unAgg, Option.map_some, List.cons_append, List.replicate_succ, List.replicate_zero, decide_eq_true_eq, decide_eq_false_iff_not, if_true, if_false, Bool.false_eq_true, ares, aresL, ares1, tupled, ge_iff_le, Option.some.injEq, exists_eq_left', Bool.not_eq_true', Bool.not_eq_false', Bool.not_true, Bool.not_false, decide_true, decide_false, true_implies, false_implies, forall_const, and_true, true_and, not_true_eq_false, not_false_eq_true, Nat.reduceAdd, Nat.reduceSub, Nat.reduceMul, Nat.reduceLeDiff, Nat.reduceEqDiff, Nat.reduceBEq, Nat.zero_le, Nat.le_refl, Int.reduceLE, Int.reduceLT, Int.reduceEq, Int.reduceNe, Int.reduceAdd, Int.reduceSub, Int.reduceToNat, Int.reduceNeg, ↓reduceIte, reduceCtorEq, Int.toNat_natCast, Nat.add_zero, Nat.zero_add, cellsOf, cellA, List.all_cons, List.all_nil, Bool.and_true, Bool.true_and, lay, List.length_append, List.length_set, List.length_replicate, ne_eq, fillA]
    exact ⟨_, _, Wk.refl _ _ _, rfl, rfl⟩
  · simp only [wk3, onStO, bareL, toCl, Bool.bne_false, Bool.bne_true, chunks, List.flatten_cons, List.flatten_nil, List.getElem?_map, List.nil_append, List.append_nil, wk, iaddrV_map, List.getElem?_cons_succ, List.getElem?_cons_zero, Option.getD_some, List.set_cons_succ, List.set_cons_zero, List.length_map, List.length_cons, List.length_nil, List.take_succ_cons, List.take_zero, List.drop_succ_cons, List.drop_zero, List.map_cons, List.map_nil, emb, unAgg, Option.map_some, List.cons_append, List.replicate_succ, List.replicate_zero, decide_eq_true_eq, decide_eq_false_iff_not, if_true, if_false, Bool.false_eq_true, ares, aresL, ares1, tupled, ge_iff_le, Option.some.injEq, exists_eq_left', Bool.not_eq_true', Bool.not_eq_false', Bool.not_true, Bool.not_false, decide_true, decide_false, true_implies, false_implies, forall_const, and_true, true_and, not_true_eq_false, not_false_eq_true, Nat.reduceAdd, Nat.reduceSub, Nat.reduceMul, Nat.reduceLeDiff, Nat.reduceEqDiff, Nat.reduceBEq, Nat.zero_le, Nat.le_refl, Int.reduceLE, Int.reduceLT, Int.reduceEq, Int.reduceNe, Int.reduceAdd, Int.reduceSub, Int.reduceToNat, Int.reduceNeg, ↓reduceIte, reduceCtorEq, Int.toNat_natCast, Nat.add_zero, Nat.zero_add, cellsOf, cellA, List.all_cons, List.all_nil, Bool.and_true, Bool.true_and, lay, List.length_append, List.length_set, List.length_replicate, ne_eq, fillA]
    exact ⟨_, _, Wk_emp 5, rfl, rfl⟩
theorem clone_emp (H : AH) : C Try.prog 40 [.emp] H (fun x H' => x = .own H.length 5 0 0 0 ∧ H' = H ++ [some []]) :=
  C_call [] List.nodup_nil (fun r hr => by cases hr) clone_emp0 (by rintro _ _ ⟨rfl, rfl⟩; exact ⟨Nat.zero_le _, by simp [ren, toCaller, back, setAll, renO]⟩)
theorem clone2_emp (H : AH) : C Try.prog 41 [.emp] H (fun x H' => x = .own H.length 5 0 0 0 ∧ H' = H ++ [some []]) :=
  C_call [] List.nodup_nil (fun r hr => by cases hr) clone2_emp0 (by rintro _ _ ⟨rfl, rfl⟩; exact ⟨Nat.zero_le _, by simp [ren, toCaller, back, setAll, renO]⟩)

/-- What is known of functions beside their text. -/
def orcC : CallF := fun f args H =>
  if f = 40 ∨ f = 41 then
    match args with
    | [.emp] => some (.own H.length 5 0 0 0, H ++ [some []])
    | _ => none
  else none
theorem orcC_ok : EvOk Try.prog orcC := by
  intro f args H x H' h
  unfold orcC at h
  split at h
  · rename_i hf
    split at h
    · cases h
      rcases hf with rfl | rfl
      · exact clone_emp H
      · exact clone2_emp H
    · cases h
  · cases h
end Go.Proofs.Ytemjlopoffjmpaa.Abs
set_option linter.unusedSimpArgs false
set_option linter.unusedVariables false
namespace Go.Proofs.Ytemjlopoffjmpaa.Abs
open Go

def orcL : CallF := fun f args H =>
  if f = 39 then
    match args with
    | [.str b] => some (.int .i64 (countA b), H)
    | _ => none
  else orcC f args H
theorem orcL_ok : EvOk Try.prog orcL := by
  intro f args H x H' h
  unfold orcL at h
  split at h
  · rename_i hf
    subst hf
    split at h
    · cases h
      exact parts_spec _ H
    · cases h
  · exact orcC_ok f args H x H' h
def fzB (f : Nat) : Bool := f == 10 || f == 49 || f == 41 || f == 15 || f == 74 || f == 71
theorem evB_ok : EvOk Try.prog (evF tabBegun orcL fzB 40 40) := evF_ok tabBegun_ok orcL_ok fzB 40 40

/-- Parts of "new". -/
def mNew : Memo := ⟨74, [.str [110, 101, 119]], .tuple [.fz [[.str [110, 101, 119]]], .bool true]⟩
theorem mNew_so : mNew.so Try.prog := Memo.of evB_ok mNew (by kernel_rfl)
/-- begun of law 19 -/
def mBegun : Memo := ⟨8, [], .bool true⟩
theorem mBegun_so : mBegun.so Try.prog := Memo.of evB_ok mBegun (by kernel_rfl)
end Go.Proofs.Ytemjlopoffjmpaa.Abs
set_option linter.unusedSimpArgs false
set_option linter.unusedVariables false
namespace Go.Proofs.Ytemjlopoffjmpaa.Abs
open Go Go.Proofs

theorem Wk_keep1 {fr fr' : List AV} {o : AObj} {G : AH} (ho : o.map (renL (upTo 1)) = o) (h : Tops fr' (renL (upTo 1) fr)) : Wk 1 fr (some o :: G) fr' [some o] := by
  have h1 := (Wk_forget (n0 := 1) (fr := fr) (H := some o :: G) 1 (Nat.le_refl _)).trans (Wk_tops h)
  have e : mapH (renL (upTo 1)) ((some o :: G).take 1) = [some o] := by
    simp only [List.take_succ_cons, List.take_zero, mapH, List.map_cons, List.map_nil, Option.map_some, ho]
  rwa [e] at h1
/-- acct.Worst of a slice of one set. -/
theorem worst_own0 (a b c d : Int) (s : List Node) (hs : s.length ≤ 1000000) :
    C Try.prog 19 [.own 0 5 0 1 1] [some [[.int .i64 a, .int .i64 b, .int .i64 c, .int .i64 d, aset s]]] (fun x H' => x = .int .i64 ((3 + worst1 countA s : Nat) : Int) ∧ H' = [some [[.int .i64 a, .int .i64 b, .int .i64 c, .int .i64 d, aset s]]]) := by
  refine C_body' d19 rfl (WT_ok ?_)
  unfold c19
  simp only [aset, wk, iaddrV_map, List.getElem?_cons_succ, List.getElem?_cons_zero, Option.getD_some, List.set_cons_succ, List.set_cons_zero, List.length_map, List.length_cons, List.length_nil, List.take_succ_cons, List.take_zero, List.drop_succ_cons, List.drop_zero, List.map_cons, List.map_nil, emb, unAgg, Option.map_some, List.cons_append, List.nil_append, List.replicate_succ, List.replicate_zero, decide_eq_true_eq, decide_eq_false_iff_not, if_true, if_false, Bool.false_eq_true, ares, aresL, ares1, tupled, ge_iff_le, Option.some.injEq, exists_eq_left', Bool.not_eq_true', Bool.not_eq_false', Bool.not_true, Bool.not_false, decide_true, decide_false, true_implies, false_implies, forall_const, and_true, true_and, not_true_eq_false, not_false_eq_true, Nat.reduceAdd, Nat.reduceSub, Nat.reduceMul, Nat.reduceLeDiff, Nat.reduceEqDiff, Nat.reduceBEq, Nat.zero_le, Nat.le_refl, Int.reduceLE, Int.reduceLT, Int.reduceEq, Int.reduceNe, Int.reduceAdd, Int.reduceSub, Int.reduceToNat, Int.reduceNeg, ↓reduceIte, reduceCtorEq, Int.toNat_natCast, Nat.add_zero, Nat.zero_add, cellsOf, cellA, List.all_cons, List.all_nil, Bool.and_true, Bool.true_and, lay, List.length_append, List.length_set, List.length_replicate, ne_eq, fillA]
  have hb := worst1_le countA countA_le s hs
  refine WT_loop (W_loop (fun n fr H' => ∃ i : Nat, i ≤ 1 ∧ n = 1 - i ∧ H' = [some [[.int .i64 a, .int .i64 b, .int .i64 c, .int .i64 d, .fz (s.map pnode)]]] ∧ fr = [.own 0 5 0 1 1, .top, .int .i64 0, .int .i64 ((3 + i * worst1 countA s : Nat) : Int), .top, .top, .own 0 5 0 1 1, .int .i64 (1 : Nat), .int .i64 i, .top, .top, .top, .top, .top, .top, .top, .top, .top, .top]) 1 ⟨0, by omega, rfl, rfl, by simp⟩ ?_)
  rintro n fr H' ⟨i, hi, rfl, rfl, rfl⟩
  refine WT_ok ?_
  simp only [lay, wk, iaddrV_map, List.getElem?_cons_succ, List.getElem?_cons_zero, Option.getD_some, List.set_cons_succ, List.set_cons_zero, List.length_map, List.length_cons, List.length_nil, List.take_succ_cons, List.take_zero, List.drop_succ_cons, List.drop_zero, List.map_cons, List.map_nil, emb, unAgg, Option.map_some, List.cons_append, List.nil_append, List.replicate_succ, List.replicate_zero, decide_eq_true_eq, decide_eq_false_iff_not, if_true, if_false, Bool.false_eq_true, ares, aresL, ares1, tupled, ge_iff_le, Option.some.injEq, exists_eq_left', Bool.not_eq_true', Bool.not_eq_false', Bool.not_true, Bool.not_false, decide_true, decide_false, true_implies, false_implies, forall_const, and_true, true_and, not_true_eq_false, not_false_eq_true, Nat.reduceAdd, Nat.reduceSub, Nat.reduceMul, Nat.reduceLeDiff, Nat.reduceEqDiff, Nat.reduceBEq, Nat.zero_le, Nat.le_refl, Int.reduceLE, Int.reduceLT, Int.reduceEq, Int.reduceNe, Int.reduceAdd, Int.reduceSub, Int.reduceToNat, Int.reduceNeg, ↓reduceIte, reduceCtorEq, Int.toNat_natCast, Nat.add_zero, Nat.zero_add, cellsOf, cellA, List.all_cons, List.all_nil, Bool.and_true, Bool.true_and, lay, List.length_append, List.length_set, List.length_replicate, ne_eq, fillA]
  refine guard_both ?_ ?_ <;> intro h <;> simp only [decide_eq_true_eq, decide_eq_false_iff_not, Bool.not_true, Bool.not_false, Bool.not_eq_true', Bool.not_eq_false', Bool.and_eq_true, Bool.or_eq_true, List.length_map] at h
  · have : i = 0 := by omega
    subst this
    simp only [h, lay, wk, iaddrV_map, List.getElem?_cons_succ, List.getElem?_cons_zero, Option.getD_some, List.set_cons_succ, List.set_cons_zero, List.length_map, List.length_cons, List.length_nil, List.take_succ_cons, List.take_zero, List.drop_succ_cons, List.drop_zero, List.map_cons, List.map_nil, emb, unAgg, Option.map_some, List.cons_append, List.nil_append, List.replicate_succ, List.replicate_zero, decide_eq_true_eq, decide_eq_false_iff_not, if_true, if_false, Bool.false_eq_true, ares, aresL, ares1, tupled, ge_iff_le, Option.some.injEq, exists_eq_left', Bool.not_eq_true', Bool.not_eq_false', Bool.not_true, Bool.not_false, decide_true, decide_false, true_implies, false_implies, forall_const, and_true, true_and, not_true_eq_false, not_false_eq_true, Nat.reduceAdd, Nat.reduceSub, Nat.reduceMul, Nat.reduceLeDiff, Nat.reduceEqDiff, Nat.reduceBEq, Nat.zero_le, Nat.le_refl, Int.reduceLE, Int.reduceLT, Int.reduceEq, Int.reduceNe, Int.reduceAdd, Int.reduceSub, Int.reduceToNat, Int.reduceNeg, ↓reduceIte, reduceCtorEq, Int.toNat_natCast, Nat.add_zero, Nat.zero_add, cellsOf, cellA, List.all_cons, List.all_nil, Bool.and_true, Bool.true_and, lay, List.length_append, List.length_set, List.length_replicate, ne_eq, fillA]
    refine ⟨by omega, ?_⟩
    refine CT_ok (worst1_spec countA parts_spec countA_le a b c d s hs _) ?_
    rintro _ _ ⟨rfl, rfl⟩
    have w1 : IntKind.i64.wrap (((3 + 0 * worst1 countA s : Nat) : Int) + (worst1 countA s : Int)) = ((3 + 1 * worst1 countA s : Nat) : Int) := by rw [IntWalk.i64_in _ (by omega)]; omega
    have w2 : IntKind.i64.wrap (((0 : Nat) : Int) + 1) = ((1 : Nat) : Int) := by rw [IntWalk.i64_in _ (by omega)]; omega
    simp only [w1, w2, wk, iaddrV_map, List.getElem?_cons_succ, List.getElem?_cons_zero, Option.getD_some, List.set_cons_succ, List.set_cons_zero, List.length_map, List.length_cons, List.length_nil, List.take_succ_cons, List.take_zero, List.drop_succ_cons, List.drop_zero, List.map_cons, List.map_nil, emb, unAgg, Option.map_some, List.cons_append, List.nil_append, List.replicate_succ, List.replicate_zero, decide_eq_true_eq, decide_eq_false_iff_not, if_true, if_false, Bool.false_eq_true, ares, aresL, ares1, tupled, ge_iff_le, Option.some.injEq, exists_eq_left', Bool.not_eq_true', Bool.not_eq_false', Bool.not_true, Bool.not_false, decide_true, decide_false, true_implies, false_implies, forall_const, and_true, true_and, not_true_eq_false, not_false_eq_true, Nat.reduceAdd, Nat.reduceSub, Nat.reduceMul, Nat.reduceLeDiff, Nat.reduceEqDiff, Nat.reduceBEq, Nat.zero_le, Nat.le_refl, Int.reduceLE, Int.reduceLT, Int.reduceEq, Int.reduceNe, Int.reduceAdd, Int.reduceSub, Int.reduceToNat, Int.reduceNeg, ↓reduceIte, reduceCtorEq, Int.toNat_natCast, Nat.add_zero, Nat.zero_add, cellsOf, cellA, List.all_cons, List.all_nil, Bool.and_true, Bool.true_and, lay, List.length_append, List.length_set, List.length_replicate, ne_eq, fillA]
    refine QLoop_wk (n' := 0) (by omega) ⟨1, by omega, rfl, rfl, rfl⟩ (Wk_keep1 ?_ ?_)
    · simp [renL, ren]
    · simp only [renL, ren, upTo, Nat.zero_lt_one, if_true, Tops_top, Tops_same, Tops_nil]
  · have : i = 1 := by omega
    subst this
    simp only [h, wk, iaddrV_map, List.getElem?_cons_succ, List.getElem?_cons_zero, Option.getD_some, List.set_cons_succ, List.set_cons_zero, List.length_map, List.length_cons, List.length_nil, List.take_succ_cons, List.take_zero, List.drop_succ_cons, List.drop_zero, List.map_cons, List.map_nil, emb, unAgg, Option.map_some, List.cons_append, List.nil_append, List.replicate_succ, List.replicate_zero, decide_eq_true_eq, decide_eq_false_iff_not, if_true, if_false, Bool.false_eq_true, ares, aresL, ares1, tupled, ge_iff_le, Option.some.injEq, exists_eq_left', Bool.not_eq_true', Bool.not_eq_false', Bool.not_true, Bool.not_false, decide_true, decide_false, true_implies, false_implies, forall_const, and_true, true_and, not_true_eq_false, not_false_eq_true, Nat.reduceAdd, Nat.reduceSub, Nat.reduceMul, Nat.reduceLeDiff, Nat.reduceEqDiff, Nat.reduceBEq, Nat.zero_le, Nat.le_refl, Int.reduceLE, Int.reduceLT, Int.reduceEq, Int.reduceNe, Int.reduceAdd, Int.reduceSub, Int.reduceToNat, Int.reduceNeg, ↓reduceIte, reduceCtorEq, Int.toNat_natCast, Nat.add_zero, Nat.zero_add, cellsOf, cellA, List.all_cons, List.all_nil, Bool.and_true, Bool.true_and, lay, List.length_append, List.length_set, List.length_replicate, ne_eq, fillA]
    refine ⟨_, _, Wk.refl _ _ _, ?_, rfl⟩
    rw [Nat.one_mul]
theorem worst_own (r : Nat) (H : AH) (a b c d : Int) (s : List Node) (hs : s.length ≤ 1000000) (hH : H.at r = some [[.int .i64 a, .int .i64 b, .int .i64 c, .int .i64 d, aset s]]) :
    C Try.prog 19 [.own r 5 0 1 1] H (fun x H' => x = .int .i64 ((3 + worst1 countA s : Nat) : Int) ∧ H' = H) := by
  have hr : r < H.length := by
    apply Classical.byContradiction
    intro h
    simp [AH.at, List.getElem?_eq_none (Nat.le_of_not_lt h)] at hH
  refine C_call [r] (by simp) (by simpa using hr) ?_ ?_ (K0 := fun x H' => x = .int .i64 ((3 + worst1 countA s : Nat) : Int) ∧ H' = [some [[.int .i64 a, .int .i64 b, .int .i64 c, .int .i64 d, aset s]]])
  · have := worst_own0 a b c d s hs
    simpa [renL, ren, toCallee, hH, renO, aset] using this
  · rintro _ _ ⟨rfl, rfl⟩
    refine ⟨by simp, by simp [ren], ?_⟩
    simp [back, setAll, renO, renL, ren, aset]
    have h2 : H[r] = some [[.int .i64 a, .int .i64 b, .int .i64 c, .int .i64 d, .fz (s.map pnode)]] := by
      have h3 := hH
      simp only [AH.at, List.getElem?_eq_getElem hr, Option.join, aset] at h3
      simpa using h3
    rw [← h2, List.set_getElem_self]

theorem parts_new : PartsC [110, 101, 119] (fun l => l = [[110, 101, 119]]) False := fun H =>
  (Memo.any mNew_so H).mono fun x H' h => ⟨h.2, .inl ⟨_, rfl, by decide, h.1⟩⟩

theorem make_new {s : List Node} {nm : List UInt8} {n : Nat} (hw : Wf s) (hn : n < s.length) (hn0 : (s.getD n default).kind = 0) (hk0 : (s.getD 0 default).kind = 2) :
    Wf (withA s n ⟨1, (0 : Nat), nm, [], 0⟩) ∧ worst1 countA (withA s n ⟨1, (0 : Nat), nm, [], 0⟩) = worst1 countA s + 1 := by
  have hb : (s.getD n default).body = [] := (hw.getD n hn).none hn0
  have hc0 : countA [] = 0 := by rfl
  refine ⟨withA_wf hw n (x := ⟨1, (0 : Nat), nm, [], 0⟩) ⟨⟨Int.natCast_nonneg _, by show ((0 : Nat) : Int) < 8; omega⟩, by simp, fun _ => rfl⟩ (fun _ => by show (1 : Int) ≠ 0; decide), ?_⟩
  rw [withA_nat]
  have hu := used_set countA ⟨1, (0 : Nat), nm, [], 0⟩ s n hn
  have hk := kinds_set ⟨1, (0 : Nat), nm, [], 0⟩ s n hn
  rw [hb] at hu
  rw [if_pos hn0] at hk
  simp only [hc0, Nat.add_zero] at hu hk
  rw [if_neg (by decide)] at hk
  unfold worst1
  omega
theorem acctWorst_spec (l text : List UInt8) : C Try.prog 4 [.fz (l.map pbyte), .str text] [] (fun x _ => x = .bool true) := by
  refine C_body d4 rfl (WT_ok ?_)
  unfold c4
  simp only [wk3, chunks, List.flatten_cons, List.flatten_nil, List.getElem?_map, List.nil_append, List.append_nil, wk, iaddrV_map, List.getElem?_cons_succ, List.getElem?_cons_zero, Option.getD_some, List.set_cons_succ, List.set_cons_zero, List.length_map, List.length_cons, List.length_nil, List.take_succ_cons, List.take_zero, List.drop_succ_cons, List.drop_zero, List.map_cons, List.map_nil, emb, unAgg, Option.map_some, List.cons_append, List.replicate_succ, List.replicate_zero, decide_eq_true_eq, decide_eq_false_iff_not, if_true, if_false, Bool.false_eq_true, ares, aresL, ares1, tupled, ge_iff_le, Option.some.injEq, exists_eq_left', Bool.not_eq_true', Bool.not_eq_false', Bool.not_true, Bool.not_false, decide_true, decide_false, true_implies, false_implies, forall_const, and_true, true_and, not_true_eq_false, not_false_eq_true, Nat.reduceAdd, Nat.reduceSub, Nat.reduceMul, Nat.reduceLeDiff, Nat.reduceEqDiff, Nat.reduceBEq, Nat.zero_le, Nat.le_refl, Int.reduceLE, Int.reduceLT, Int.reduceEq, Int.reduceNe, Int.reduceAdd, Int.reduceSub, Int.reduceToNat, Int.reduceNeg, ↓reduceIte, reduceCtorEq, Int.toNat_natCast, Nat.add_zero, Nat.zero_add, cellsOf, cellA, List.all_cons, List.all_nil, Bool.and_true, Bool.true_and, lay, List.length_append, List.length_set, List.length_replicate, ne_eq, fillA]
  refine CT_ok (Memo.any mBegun_so []) ?_
  rintro _ _ ⟨rfl, rfl⟩
  simp only [mBegun, wk3, chunks, List.flatten_cons, List.flatten_nil, List.getElem?_map, List.nil_append, List.append_nil, wk, iaddrV_map, List.getElem?_cons_succ, List.getElem?_cons_zero, Option.getD_some, List.set_cons_succ, List.set_cons_zero, List.length_map, List.length_cons, List.length_nil, List.take_succ_cons, List.take_zero, List.drop_succ_cons, List.drop_zero, List.map_cons, List.map_nil, emb, unAgg, Option.map_some, List.cons_append, List.replicate_succ, List.replicate_zero, decide_eq_true_eq, decide_eq_false_iff_not, if_true, if_false, Bool.false_eq_true, ares, aresL, ares1, tupled, ge_iff_le, Option.some.injEq, exists_eq_left', Bool.not_eq_true', Bool.not_eq_false', Bool.not_true, Bool.not_false, decide_true, decide_false, true_implies, false_implies, forall_const, and_true, true_and, not_true_eq_false, not_false_eq_true, Nat.reduceAdd, Nat.reduceSub, Nat.reduceMul, Nat.reduceLeDiff, Nat.reduceEqDiff, Nat.reduceBEq, Nat.zero_le, Nat.le_refl, Int.reduceLE, Int.reduceLT, Int.reduceEq, Int.reduceNe, Int.reduceAdd, Int.reduceSub, Int.reduceToNat, Int.reduceNeg, ↓reduceIte, reduceCtorEq, Int.toNat_natCast, Nat.add_zero, Nat.zero_add, cellsOf, cellA, List.all_cons, List.all_nil, Bool.and_true, Bool.true_and, lay, List.length_append, List.length_set, List.length_replicate, ne_eq, fillA]
  by_cases h1 : (60 : Int) < l.length
  · simp only [h1, wk3, chunks, List.flatten_cons, List.flatten_nil, List.getElem?_map, List.nil_append, List.append_nil, wk, iaddrV_map, List.getElem?_cons_succ, List.getElem?_cons_zero, Option.getD_some, List.set_cons_succ, List.set_cons_zero, List.length_map, List.length_cons, List.length_nil, List.take_succ_cons, List.take_zero, List.drop_succ_cons, List.drop_zero, List.map_cons, List.map_nil, emb, unAgg, Option.map_some, List.cons_append, List.replicate_succ, List.replicate_zero, decide_eq_true_eq, decide_eq_false_iff_not, if_true, if_false, Bool.false_eq_true, ares, aresL, ares1, tupled, ge_iff_le, Option.some.injEq, exists_eq_left', Bool.not_eq_true', Bool.not_eq_false', Bool.not_true, Bool.not_false, decide_true, decide_false, true_implies, false_implies, forall_const, and_true, true_and, not_true_eq_false, not_false_eq_true, Nat.reduceAdd, Nat.reduceSub, Nat.reduceMul, Nat.reduceLeDiff, Nat.reduceEqDiff, Nat.reduceBEq, Nat.zero_le, Nat.le_refl, Int.reduceLE, Int.reduceLT, Int.reduceEq, Int.reduceNe, Int.reduceAdd, Int.reduceSub, Int.reduceToNat, Int.reduceNeg, ↓reduceIte, reduceCtorEq, Int.toNat_natCast, Nat.add_zero, Nat.zero_add, cellsOf, cellA, List.all_cons, List.all_nil, Bool.and_true, Bool.true_and, lay, List.length_append, List.length_set, List.length_replicate, ne_eq, fillA]
  by_cases h2 : (128 : Int) < text.length
  · simp only [h1, h2, wk3, chunks, List.flatten_cons, List.flatten_nil, List.getElem?_map, List.nil_append, List.append_nil, wk, iaddrV_map, List.getElem?_cons_succ, List.getElem?_cons_zero, Option.getD_some, List.set_cons_succ, List.set_cons_zero, List.length_map, List.length_cons, List.length_nil, List.take_succ_cons, List.take_zero, List.drop_succ_cons, List.drop_zero, List.map_cons, List.map_nil, emb, unAgg, Option.map_some, List.cons_append, List.replicate_succ, List.replicate_zero, decide_eq_true_eq, decide_eq_false_iff_not, if_true, if_false, Bool.false_eq_true, ares, aresL, ares1, tupled, ge_iff_le, Option.some.injEq, exists_eq_left', Bool.not_eq_true', Bool.not_eq_false', Bool.not_true, Bool.not_false, decide_true, decide_false, true_implies, false_implies, forall_const, and_true, true_and, not_true_eq_false, not_false_eq_true, Nat.reduceAdd, Nat.reduceSub, Nat.reduceMul, Nat.reduceLeDiff, Nat.reduceEqDiff, Nat.reduceBEq, Nat.zero_le, Nat.le_refl, Int.reduceLE, Int.reduceLT, Int.reduceEq, Int.reduceNe, Int.reduceAdd, Int.reduceSub, Int.reduceToNat, Int.reduceNeg, ↓reduceIte, reduceCtorEq, Int.toNat_natCast, Nat.add_zero, Nat.zero_add, cellsOf, cellA, List.all_cons, List.all_nil, Bool.and_true, Bool.true_and, lay, List.length_append, List.length_set, List.length_replicate, ne_eq, fillA]
  simp only [h1, h2, wk3, chunks, List.flatten_cons, List.flatten_nil, List.getElem?_map, List.nil_append, List.append_nil, wk, iaddrV_map, List.getElem?_cons_succ, List.getElem?_cons_zero, Option.getD_some, List.set_cons_succ, List.set_cons_zero, List.length_map, List.length_cons, List.length_nil, List.take_succ_cons, List.take_zero, List.drop_succ_cons, List.drop_zero, List.map_cons, List.map_nil, emb, unAgg, Option.map_some, List.cons_append, List.replicate_succ, List.replicate_zero, decide_eq_true_eq, decide_eq_false_iff_not, if_true, if_false, Bool.false_eq_true, ares, aresL, ares1, tupled, ge_iff_le, Option.some.injEq, exists_eq_left', Bool.not_eq_true', Bool.not_eq_false', Bool.not_true, Bool.not_false, decide_true, decide_false, true_implies, false_implies, forall_const, and_true, true_and, not_true_eq_false, not_false_eq_true, Nat.reduceAdd, Nat.reduceSub, Nat.reduceMul, Nat.reduceLeDiff, Nat.reduceEqDiff, Nat.reduceBEq, Nat.zero_le, Nat.le_refl, Int.reduceLE, Int.reduceLT, Int.reduceEq, Int.reduceNe, Int.reduceAdd, Int.reduceSub, Int.reduceToNat, Int.reduceNeg, ↓reduceIte, reduceCtorEq, Int.toNat_natCast, Nat.add_zero, Nat.zero_add, cellsOf, cellA, List.all_cons, List.all_nil, Bool.and_true, Bool.true_and, lay, List.length_append, List.length_set, List.length_replicate, ne_eq, fillA]
  refine CT_ok (made_spec l) ?_
  rintro _ _ ⟨rfl, rfl⟩
  simp only [wk3, chunks, List.flatten_cons, List.flatten_nil, List.getElem?_map, List.nil_append, List.append_nil, wk, iaddrV_map, List.getElem?_cons_succ, List.getElem?_cons_zero, Option.getD_some, List.set_cons_succ, List.set_cons_zero, List.length_map, List.length_cons, List.length_nil, List.take_succ_cons, List.take_zero, List.drop_succ_cons, List.drop_zero, List.map_cons, List.map_nil, emb, unAgg, Option.map_some, List.cons_append, List.replicate_succ, List.replicate_zero, decide_eq_true_eq, decide_eq_false_iff_not, if_true, if_false, Bool.false_eq_true, ares, aresL, ares1, tupled, ge_iff_le, Option.some.injEq, exists_eq_left', Bool.not_eq_true', Bool.not_eq_false', Bool.not_true, Bool.not_false, decide_true, decide_false, true_implies, false_implies, forall_const, and_true, true_and, not_true_eq_false, not_false_eq_true, Nat.reduceAdd, Nat.reduceSub, Nat.reduceMul, Nat.reduceLeDiff, Nat.reduceEqDiff, Nat.reduceBEq, Nat.zero_le, Nat.le_refl, Int.reduceLE, Int.reduceLT, Int.reduceEq, Int.reduceNe, Int.reduceAdd, Int.reduceSub, Int.reduceToNat, Int.reduceNeg, ↓reduceIte, reduceCtorEq, Int.toNat_natCast, Nat.add_zero, Nat.zero_add, cellsOf, cellA, List.all_cons, List.all_nil, Bool.and_true, Bool.true_and, lay, List.length_append, List.length_set, List.length_replicate, ne_eq, fillA]
  refine CT_ok (set_spec l 0 15 (by omega) (by omega) (by omega)) ?_
  rintro _ _ ⟨s, n', hw, _, rfl, rfl⟩
  have hlen := hw.len
  simp only [aset, picksH, wk3, chunks, List.flatten_cons, List.flatten_nil, List.getElem?_map, List.nil_append, List.append_nil, wk, iaddrV_map, List.getElem?_cons_succ, List.getElem?_cons_zero, Option.getD_some, List.set_cons_succ, List.set_cons_zero, List.length_map, List.length_cons, List.length_nil, List.take_succ_cons, List.take_zero, List.drop_succ_cons, List.drop_zero, List.map_cons, List.map_nil, emb, unAgg, Option.map_some, List.cons_append, List.replicate_succ, List.replicate_zero, decide_eq_true_eq, decide_eq_false_iff_not, if_true, if_false, Bool.false_eq_true, ares, aresL, ares1, tupled, ge_iff_le, Option.some.injEq, exists_eq_left', Bool.not_eq_true', Bool.not_eq_false', Bool.not_true, Bool.not_false, decide_true, decide_false, true_implies, false_implies, forall_const, and_true, true_and, not_true_eq_false, not_false_eq_true, Nat.reduceAdd, Nat.reduceSub, Nat.reduceMul, Nat.reduceLeDiff, Nat.reduceEqDiff, Nat.reduceBEq, Nat.zero_le, Nat.le_refl, Int.reduceLE, Int.reduceLT, Int.reduceEq, Int.reduceNe, Int.reduceAdd, Int.reduceSub, Int.reduceToNat, Int.reduceNeg, ↓reduceIte, reduceCtorEq, Int.toNat_natCast, Nat.add_zero, Nat.zero_add, cellsOf, cellA, List.all_cons, List.all_nil, Bool.and_true, Bool.true_and, lay, List.length_append, List.length_set, List.length_replicate, ne_eq, fillA]
  refine CT_ok (make_spec parts_new s (by omega) (by omega) 1 _) ?_
  rintro _ _ ⟨rfl, ⟨e, he, rfl⟩ | ⟨l1, a, up, n, hP, hup, hR, hk0, hno, hn, hn0, _, rfl⟩⟩
  · simp only [aset, he, wk3, chunks, List.flatten_cons, List.flatten_nil, List.getElem?_map, List.nil_append, List.append_nil, wk, iaddrV_map, List.getElem?_cons_succ, List.getElem?_cons_zero, Option.getD_some, List.set_cons_succ, List.set_cons_zero, List.length_map, List.length_cons, List.length_nil, List.take_succ_cons, List.take_zero, List.drop_succ_cons, List.drop_zero, List.map_cons, List.map_nil, emb, unAgg, Option.map_some, List.cons_append, List.replicate_succ, List.replicate_zero, decide_eq_true_eq, decide_eq_false_iff_not, if_true, if_false, Bool.false_eq_true, ares, aresL, ares1, tupled, ge_iff_le, Option.some.injEq, exists_eq_left', Bool.not_eq_true', Bool.not_eq_false', Bool.not_true, Bool.not_false, decide_true, decide_false, true_implies, false_implies, forall_const, and_true, true_and, not_true_eq_false, not_false_eq_true, Nat.reduceAdd, Nat.reduceSub, Nat.reduceMul, Nat.reduceLeDiff, Nat.reduceEqDiff, Nat.reduceBEq, Nat.zero_le, Nat.le_refl, Int.reduceLE, Int.reduceLT, Int.reduceEq, Int.reduceNe, Int.reduceAdd, Int.reduceSub, Int.reduceToNat, Int.reduceNeg, ↓reduceIte, reduceCtorEq, Int.toNat_natCast, Nat.add_zero, Nat.zero_add, cellsOf, cellA, List.all_cons, List.all_nil, Bool.and_true, Bool.true_and, lay, List.length_append, List.length_set, List.length_replicate, ne_eq, fillA]
  · obtain ⟨rfl, rfl⟩ : l1 = [] ∧ a = [110, 101, 119] := by
      cases l1 with
      | nil => simpa using hP
      | cons z l1 => simp at hP
    have : 0 = up := hR
    subst this
    obtain ⟨hwt, hwst⟩ := make_new (nm := [110, 101, 119]) hw hn hn0 hk0
    have hb1 := worst1_le countA countA_le s (by omega)
    have hc := countA_le text
    have hub : used s ≤ 4 * s.length := usedA_le countA countA_le s
    have htlen := hwt.len
    have hmk : ∀ (X : AV), WriteR (fun l => l = [[110, 101, 119]]) False (withA s n ⟨1, (0 : Nat), [110, 101, 119], [], 0⟩) 0 text X → ∃ u : List Node, (∃ e : Int, X = .tuple [aset u, .int .i64 e]) ∧ u.length = s.length ∧ used u = used s + countA text ∧ worst1 countA u = worst1 countA s + 1 + countA text := fun X hX => write_new hw hk0 hno hn hn0 (by omega) hX
    generalize withA s n ⟨1, (0 : Nat), [110, 101, 119], [], 0⟩ = t at hwt hwst htlen hmk ⊢
    simp only [aset, wk3, chunks, List.flatten_cons, List.flatten_nil, List.getElem?_map, List.nil_append, List.append_nil, wk, iaddrV_map, List.getElem?_cons_succ, List.getElem?_cons_zero, Option.getD_some, List.set_cons_succ, List.set_cons_zero, List.length_map, List.length_cons, List.length_nil, List.take_succ_cons, List.take_zero, List.drop_succ_cons, List.drop_zero, List.map_cons, List.map_nil, emb, unAgg, Option.map_some, List.cons_append, List.replicate_succ, List.replicate_zero, decide_eq_true_eq, decide_eq_false_iff_not, if_true, if_false, Bool.false_eq_true, ares, aresL, ares1, tupled, ge_iff_le, Option.some.injEq, exists_eq_left', Bool.not_eq_true', Bool.not_eq_false', Bool.not_true, Bool.not_false, decide_true, decide_false, true_implies, false_implies, forall_const, and_true, true_and, not_true_eq_false, not_false_eq_true, Nat.reduceAdd, Nat.reduceSub, Nat.reduceMul, Nat.reduceLeDiff, Nat.reduceEqDiff, Nat.reduceBEq, Nat.zero_le, Nat.le_refl, Int.reduceLE, Int.reduceLT, Int.reduceEq, Int.reduceNe, Int.reduceAdd, Int.reduceSub, Int.reduceToNat, Int.reduceNeg, ↓reduceIte, reduceCtorEq, Int.toNat_natCast, Nat.add_zero, Nat.zero_add, cellsOf, cellA, List.all_cons, List.all_nil, Bool.and_true, Bool.true_and, lay, List.length_append, List.length_set, List.length_replicate, ne_eq, fillA]
    refine CT_ok (write_spec parts_new t hwt 0 text (by omega) _) ?_
    rintro X _ ⟨rfl, hX⟩
    have hX2 := hmk X hX
    clear hX hmk
    obtain ⟨u, hX3, hul, hu1, hu2⟩ := hX2
    obtain ⟨e, hX4⟩ := hX3
    subst hX4
    simp only [aset, wk3, chunks, List.flatten_cons, List.flatten_nil, List.getElem?_map, List.nil_append, List.append_nil, wk, iaddrV_map, List.getElem?_cons_succ, List.getElem?_cons_zero, Option.getD_some, List.set_cons_succ, List.set_cons_zero, List.length_map, List.length_cons, List.length_nil, List.take_succ_cons, List.take_zero, List.drop_succ_cons, List.drop_zero, List.map_cons, List.map_nil, emb, unAgg, Option.map_some, List.cons_append, List.replicate_succ, List.replicate_zero, decide_eq_true_eq, decide_eq_false_iff_not, if_true, if_false, Bool.false_eq_true, ares, aresL, ares1, tupled, ge_iff_le, Option.some.injEq, exists_eq_left', Bool.not_eq_true', Bool.not_eq_false', Bool.not_true, Bool.not_false, decide_true, decide_false, true_implies, false_implies, forall_const, and_true, true_and, not_true_eq_false, not_false_eq_true, Nat.reduceAdd, Nat.reduceSub, Nat.reduceMul, Nat.reduceLeDiff, Nat.reduceEqDiff, Nat.reduceBEq, Nat.zero_le, Nat.le_refl, Int.reduceLE, Int.reduceLT, Int.reduceEq, Int.reduceNe, Int.reduceAdd, Int.reduceSub, Int.reduceToNat, Int.reduceNeg, ↓reduceIte, reduceCtorEq, Int.toNat_natCast, Nat.add_zero, Nat.zero_add, cellsOf, cellA, List.all_cons, List.all_nil, Bool.and_true, Bool.true_and, lay, List.length_append, List.length_set, List.length_replicate, ne_eq, fillA]
    refine CT_ok (worst_own 1 _ 1 1 0 0 s (by omega) rfl) ?_
    rintro _ _ ⟨rfl, rfl⟩
    simp only [aset, wk3, chunks, List.flatten_cons, List.flatten_nil, List.getElem?_map, List.nil_append, List.append_nil, wk, iaddrV_map, List.getElem?_cons_succ, List.getElem?_cons_zero, Option.getD_some, List.set_cons_succ, List.set_cons_zero, List.length_map, List.length_cons, List.length_nil, List.take_succ_cons, List.take_zero, List.drop_succ_cons, List.drop_zero, List.map_cons, List.map_nil, emb, unAgg, Option.map_some, List.cons_append, List.replicate_succ, List.replicate_zero, decide_eq_true_eq, decide_eq_false_iff_not, if_true, if_false, Bool.false_eq_true, ares, aresL, ares1, tupled, ge_iff_le, Option.some.injEq, exists_eq_left', Bool.not_eq_true', Bool.not_eq_false', Bool.not_true, Bool.not_false, decide_true, decide_false, true_implies, false_implies, forall_const, and_true, true_and, not_true_eq_false, not_false_eq_true, Nat.reduceAdd, Nat.reduceSub, Nat.reduceMul, Nat.reduceLeDiff, Nat.reduceEqDiff, Nat.reduceBEq, Nat.zero_le, Nat.le_refl, Int.reduceLE, Int.reduceLT, Int.reduceEq, Int.reduceNe, Int.reduceAdd, Int.reduceSub, Int.reduceToNat, Int.reduceNeg, ↓reduceIte, reduceCtorEq, Int.toNat_natCast, Nat.add_zero, Nat.zero_add, cellsOf, cellA, List.all_cons, List.all_nil, Bool.and_true, Bool.true_and, lay, List.length_append, List.length_set, List.length_replicate, ne_eq, fillA]
    refine CT_ok (worst_own 2 _ 1 1 0 0 t (by omega) rfl) ?_
    rintro _ _ ⟨rfl, rfl⟩
    have w1 : IntKind.i64.wrap (((3 + worst1 countA s : Nat) : Int) + 1) = ((3 + worst1 countA s + 1 : Nat) : Int) := by rw [IntWalk.i64_in _ (by omega)]; omega
    have e1 : ((3 + worst1 countA t : Nat) : Int) = ((3 + worst1 countA s + 1 : Nat) : Int) := by omega
    simp only [w1, e1, aset, wk3, chunks, List.flatten_cons, List.flatten_nil, List.getElem?_map, List.nil_append, List.append_nil, wk, iaddrV_map, List.getElem?_cons_succ, List.getElem?_cons_zero, Option.getD_some, List.set_cons_succ, List.set_cons_zero, List.length_map, List.length_cons, List.length_nil, List.take_succ_cons, List.take_zero, List.drop_succ_cons, List.drop_zero, List.map_cons, List.map_nil, emb, unAgg, Option.map_some, List.cons_append, List.replicate_succ, List.replicate_zero, decide_eq_true_eq, decide_eq_false_iff_not, if_true, if_false, Bool.false_eq_true, ares, aresL, ares1, tupled, ge_iff_le, Option.some.injEq, exists_eq_left', Bool.not_eq_true', Bool.not_eq_false', Bool.not_true, Bool.not_false, decide_true, decide_false, true_implies, false_implies, forall_const, and_true, true_and, not_true_eq_false, not_false_eq_true, Nat.reduceAdd, Nat.reduceSub, Nat.reduceMul, Nat.reduceLeDiff, Nat.reduceEqDiff, Nat.reduceBEq, Nat.zero_le, Nat.le_refl, Int.reduceLE, Int.reduceLT, Int.reduceEq, Int.reduceNe, Int.reduceAdd, Int.reduceSub, Int.reduceToNat, Int.reduceNeg, ↓reduceIte, reduceCtorEq, Int.toNat_natCast, Nat.add_zero, Nat.zero_add, cellsOf, cellA, List.all_cons, List.all_nil, Bool.and_true, Bool.true_and, lay, List.length_append, List.length_set, List.length_replicate, ne_eq, fillA]
    refine CT_ok (worst_own 3 _ 1 1 0 0 u (by omega) rfl) ?_
    rintro _ _ ⟨rfl, rfl⟩
    simp only [w1, wk3, chunks, List.flatten_cons, List.flatten_nil, List.getElem?_map, List.nil_append, List.append_nil, wk, iaddrV_map, List.getElem?_cons_succ, List.getElem?_cons_zero, Option.getD_some, List.set_cons_succ, List.set_cons_zero, List.length_map, List.length_cons, List.length_nil, List.take_succ_cons, List.take_zero, List.drop_succ_cons, List.drop_zero, List.map_cons, List.map_nil, emb, unAgg, Option.map_some, List.cons_append, List.replicate_succ, List.replicate_zero, decide_eq_true_eq, decide_eq_false_iff_not, if_true, if_false, Bool.false_eq_true, ares, aresL, ares1, tupled, ge_iff_le, Option.some.injEq, exists_eq_left', Bool.not_eq_true', Bool.not_eq_false', Bool.not_true, Bool.not_false, decide_true, decide_false, true_implies, false_implies, forall_const, and_true, true_and, not_true_eq_false, not_false_eq_true, Nat.reduceAdd, Nat.reduceSub, Nat.reduceMul, Nat.reduceLeDiff, Nat.reduceEqDiff, Nat.reduceBEq, Nat.zero_le, Nat.le_refl, Int.reduceLE, Int.reduceLT, Int.reduceEq, Int.reduceNe, Int.reduceAdd, Int.reduceSub, Int.reduceToNat, Int.reduceNeg, ↓reduceIte, reduceCtorEq, Int.toNat_natCast, Nat.add_zero, Nat.zero_add, cellsOf, cellA, List.all_cons, List.all_nil, Bool.and_true, Bool.true_and, lay, List.length_append, List.length_set, List.length_replicate, ne_eq, fillA]
    refine CT_ok (count_spec text _) ?_
    rintro _ _ ⟨rfl, rfl⟩
    have w2 : IntKind.i64.wrap (((3 + worst1 countA s + 1 : Nat) : Int) + (countA text : Int)) = ((3 + worst1 countA s + 1 + countA text : Nat) : Int) := by rw [IntWalk.i64_in _ (by omega)]; omega
    have e2 : ((3 + worst1 countA u : Nat) : Int) = ((3 + worst1 countA s + 1 + countA text : Nat) : Int) := by omega
    simp only [w1, w2, e2, wk3, chunks, List.flatten_cons, List.flatten_nil, List.getElem?_map, List.nil_append, List.append_nil, wk, iaddrV_map, List.getElem?_cons_succ, List.getElem?_cons_zero, Option.getD_some, List.set_cons_succ, List.set_cons_zero, List.length_map, List.length_cons, List.length_nil, List.take_succ_cons, List.take_zero, List.drop_succ_cons, List.drop_zero, List.map_cons, List.map_nil, emb, unAgg, Option.map_some, List.cons_append, List.replicate_succ, List.replicate_zero, decide_eq_true_eq, decide_eq_false_iff_not, if_true, if_false, Bool.false_eq_true, ares, aresL, ares1, tupled, ge_iff_le, Option.some.injEq, exists_eq_left', Bool.not_eq_true', Bool.not_eq_false', Bool.not_true, Bool.not_false, decide_true, decide_false, true_implies, false_implies, forall_const, and_true, true_and, not_true_eq_false, not_false_eq_true, Nat.reduceAdd, Nat.reduceSub, Nat.reduceMul, Nat.reduceLeDiff, Nat.reduceEqDiff, Nat.reduceBEq, Nat.zero_le, Nat.le_refl, Int.reduceLE, Int.reduceLT, Int.reduceEq, Int.reduceNe, Int.reduceAdd, Int.reduceSub, Int.reduceToNat, Int.reduceNeg, ↓reduceIte, reduceCtorEq, Int.toNat_natCast, Nat.add_zero, Nat.zero_add, cellsOf, cellA, List.all_cons, List.all_nil, Bool.and_true, Bool.true_and, lay, List.length_append, List.length_set, List.length_replicate, ne_eq, fillA]
    refine CT_ok (Used_spec u (by omega) _) ?_
    rintro _ _ ⟨rfl, rfl⟩
    simp only [wk3, chunks, List.flatten_cons, List.flatten_nil, List.getElem?_map, List.nil_append, List.append_nil, wk, iaddrV_map, List.getElem?_cons_succ, List.getElem?_cons_zero, Option.getD_some, List.set_cons_succ, List.set_cons_zero, List.length_map, List.length_cons, List.length_nil, List.take_succ_cons, List.take_zero, List.drop_succ_cons, List.drop_zero, List.map_cons, List.map_nil, emb, unAgg, Option.map_some, List.cons_append, List.replicate_succ, List.replicate_zero, decide_eq_true_eq, decide_eq_false_iff_not, if_true, if_false, Bool.false_eq_true, ares, aresL, ares1, tupled, ge_iff_le, Option.some.injEq, exists_eq_left', Bool.not_eq_true', Bool.not_eq_false', Bool.not_true, Bool.not_false, decide_true, decide_false, true_implies, false_implies, forall_const, and_true, true_and, not_true_eq_false, not_false_eq_true, Nat.reduceAdd, Nat.reduceSub, Nat.reduceMul, Nat.reduceLeDiff, Nat.reduceEqDiff, Nat.reduceBEq, Nat.zero_le, Nat.le_refl, Int.reduceLE, Int.reduceLT, Int.reduceEq, Int.reduceNe, Int.reduceAdd, Int.reduceSub, Int.reduceToNat, Int.reduceNeg, ↓reduceIte, reduceCtorEq, Int.toNat_natCast, Nat.add_zero, Nat.zero_add, cellsOf, cellA, List.all_cons, List.all_nil, Bool.and_true, Bool.true_and, lay, List.length_append, List.length_set, List.length_replicate, ne_eq, fillA]
    refine CT_ok (Used_spec s (by omega) _) ?_
    rintro _ _ ⟨rfl, rfl⟩
    simp only [wk3, chunks, List.flatten_cons, List.flatten_nil, List.getElem?_map, List.nil_append, List.append_nil, wk, iaddrV_map, List.getElem?_cons_succ, List.getElem?_cons_zero, Option.getD_some, List.set_cons_succ, List.set_cons_zero, List.length_map, List.length_cons, List.length_nil, List.take_succ_cons, List.take_zero, List.drop_succ_cons, List.drop_zero, List.map_cons, List.map_nil, emb, unAgg, Option.map_some, List.cons_append, List.replicate_succ, List.replicate_zero, decide_eq_true_eq, decide_eq_false_iff_not, if_true, if_false, Bool.false_eq_true, ares, aresL, ares1, tupled, ge_iff_le, Option.some.injEq, exists_eq_left', Bool.not_eq_true', Bool.not_eq_false', Bool.not_true, Bool.not_false, decide_true, decide_false, true_implies, false_implies, forall_const, and_true, true_and, not_true_eq_false, not_false_eq_true, Nat.reduceAdd, Nat.reduceSub, Nat.reduceMul, Nat.reduceLeDiff, Nat.reduceEqDiff, Nat.reduceBEq, Nat.zero_le, Nat.le_refl, Int.reduceLE, Int.reduceLT, Int.reduceEq, Int.reduceNe, Int.reduceAdd, Int.reduceSub, Int.reduceToNat, Int.reduceNeg, ↓reduceIte, reduceCtorEq, Int.toNat_natCast, Nat.add_zero, Nat.zero_add, cellsOf, cellA, List.all_cons, List.all_nil, Bool.and_true, Bool.true_and, lay, List.length_append, List.length_set, List.length_replicate, ne_eq, fillA]
    refine CT_ok (count_spec text _) ?_
    rintro _ _ ⟨rfl, rfl⟩
    have w3 : IntKind.i64.wrap ((used s : Int) + (countA text : Int)) = (used u : Int) := by rw [IntWalk.i64_in _ (by omega)]; omega
    simp only [w3, wk3, chunks, List.flatten_cons, List.flatten_nil, List.getElem?_map, List.nil_append, List.append_nil, wk, iaddrV_map, List.getElem?_cons_succ, List.getElem?_cons_zero, Option.getD_some, List.set_cons_succ, List.set_cons_zero, List.length_map, List.length_cons, List.length_nil, List.take_succ_cons, List.take_zero, List.drop_succ_cons, List.drop_zero, List.map_cons, List.map_nil, emb, unAgg, Option.map_some, List.cons_append, List.replicate_succ, List.replicate_zero, decide_eq_true_eq, decide_eq_false_iff_not, if_true, if_false, Bool.false_eq_true, ares, aresL, ares1, tupled, ge_iff_le, Option.some.injEq, exists_eq_left', Bool.not_eq_true', Bool.not_eq_false', Bool.not_true, Bool.not_false, decide_true, decide_false, true_implies, false_implies, forall_const, and_true, true_and, not_true_eq_false, not_false_eq_true, Nat.reduceAdd, Nat.reduceSub, Nat.reduceMul, Nat.reduceLeDiff, Nat.reduceEqDiff, Nat.reduceBEq, Nat.zero_le, Nat.le_refl, Int.reduceLE, Int.reduceLT, Int.reduceEq, Int.reduceNe, Int.reduceAdd, Int.reduceSub, Int.reduceToNat, Int.reduceNeg, ↓reduceIte, reduceCtorEq, Int.toNat_natCast, Nat.add_zero, Nat.zero_add, cellsOf, cellA, List.all_cons, List.all_nil, Bool.and_true, Bool.true_and, lay, List.length_append, List.length_set, List.length_replicate, ne_eq, fillA]

end Go.Proofs.Ytemjlopoffjmpaa.Abs
set_option linter.unusedSimpArgs false
set_option linter.unusedVariables false
namespace Go.Proofs.Ytemjlopoffjmpaa.Abs
open Go Go.Proofs

/-- A row of bytes that came in. -/
theorem rep_row {w : World} {a : Option Addr} {len cap : Nat} {zs : List Int}
    (h : (a = none ∧ len = 0 ∧ cap = 0 ∧ zs = []) ∨ ∃ x, a = some x ∧ len ≤ cap ∧ cap ≤ maxLen ∧ zs.length = cap ∧ (∀ i, i < zs.length → w.cell? (x.add i) = some (.int .u8 (zs.getD i 0))) ∧ ∀ n ∈ zs, (Lit.int .u8 n).wf = true) :
    ∃ l : List UInt8, Rep (E0 w) (.fz (l.map pbyte)) (.slice a len cap) := by
  rcases h with ⟨rfl, rfl, rfl, rfl⟩ | ⟨x, rfl, hl, hm, hz, hcell, hwf⟩
  · exact ⟨[], .pure (x := .fz []) (.fz0 _ _)⟩
  · by_cases h0 : len = 0
    · subst h0
      exact ⟨[], .pure (x := .fz []) (.fz0 _ _)⟩
    · have hc0 := hcell 0 (by omega)
      obtain ⟨b, off, spot⟩ := x
      simp only [Addr.add, if_true, World.cell?] at hc0
      cases hb : w.heap[b]? with
      | none => rw [hb] at hc0; cases hc0
      | some o =>
        rw [hb] at hc0
        cases o with
        | cells c t q =>
          simp only at hc0
          split at hc0
          · cases hc0
          · rename_i hsp
            have hsp2 : spot = none := by cases spot with
              | none => rfl
              | some _ => simp at hsp
            subst hsp2
            have hci : ∀ i, i < zs.length → c[off + i]? = some (.int .u8 (zs.getD i 0)) := by
              intro i hi
              have := hcell i hi
              unfold Addr.add at this
              split at this
              · rename_i e; subst e; simpa [World.cell?, hb] using this
              · simpa [World.cell?, hb] using this
            refine ⟨(zs.take len).map fun n => UInt8.ofNat n.toNat, ?_⟩
            have hlen : (((zs.take len).map fun n => UInt8.ofNat n.toNat).map pbyte).length = len := by simp; omega
            have key := RepP.fz (F := (E0 w).F) (((zs.take len).map fun n => UInt8.ofNat n.toNat).map pbyte) b off cap 1 c t q hb (by rw [hlen]; exact hl) (by
              intro e he
              obtain ⟨y, _, rfl⟩ := List.mem_map.1 he
              rfl) (by
              rw [hlen]
              have h1 := hci (len - 1) (by omega)
              have : off + (len - 1) < c.size := by
                apply Classical.byContradiction
                intro h
                rw [Array.getElem?_eq_none (by omega)] at h1
                cases h1
              omega) (by
              intro i e k cc v he hk hv
              rw [List.map_map, List.getElem?_map] at he
              have hi : i < (zs.take len).length := by
                apply Classical.byContradiction
                intro h
                rw [List.getElem?_eq_none (by omega)] at he
                cases he
              rw [List.getElem?_eq_getElem hi] at he
              simp only [Option.map_some, Option.some.injEq, Function.comp] at he
              subst he
              have hk0 : k = 0 := by
                apply Classical.byContradiction
                intro h
                rw [List.getElem?_eq_none (by simp [pbyte]; omega)] at hk
                cases hk
              subst hk0
              simp only [pbyte, List.getElem?_cons_zero, Option.some.injEq] at hk
              subst hk
              rw [List.length_take] at hi
              rw [Nat.mul_one, Nat.add_zero, hci i (by omega)] at hv
              cases hv
              have hg : zs.getD i 0 = (zs.take len)[i]'(by rw [List.length_take]; exact hi) := by
                rw [List.getElem_take, List.getD_eq_getElem?_getD, List.getElem?_eq_getElem (by omega), Option.getD_some]
              rw [hg]
              have hw := hwf ((zs.take len)[i]'(by rw [List.length_take]; exact hi)) (List.mem_of_mem_take (List.getElem_mem _))
              generalize (zs.take len)[i]'(by rw [List.length_take]; exact hi) = n at hw
              have hn : 0 ≤ n ∧ n < 256 := by
                have := hw; simp [Lit.wf, IntKind.min, IntKind.max, IntKind.bits, IntKind.signed] at this; omega
              have : ((UInt8.ofNat n.toNat).toNat : Int) = n := by
                rw [UInt8.toNat_ofNat']
                omega
              rw [this]
              exact .int _ _)
            rw [hlen] at key
            exact .pure (x := .fz _) key
        | _ => simp at hc0
theorem repL_one {E : Env} {x : AV} {v : Value} (h : Rep E x v) : RepL E [x] #[v] := by
  refine ⟨rfl, fun i c u hc hu => ?_⟩
  match i, hc, hu with
  | 0, hc, hu => simp at hc hu; subst hc; subst hu; exact h
  | i + 1, hc, _ => simp at hc
theorem repL_two {E : Env} {x y : AV} {v u : Value} (h : Rep E x v) (h' : Rep E y u) : RepL E [x, y] #[v, u] := (repL_one h).append (repL_one h')
end Go.Proofs.Ytemjlopoffjmpaa.Abs
