/-
  Part 3 of the proof: no condition. (Parts of the abstract layer, of the program's functions in its form, and of their contracts.)
-/
import Derived.Test.YtemjlopoffjmpaaWk
import Derived.Test.YtemjlopoffjmpaaWk3
import Derived.Test.YtemjlopoffjmpaaAbs36
import Derived.Test.YtemjlopoffjmpaaAQ1
import Derived.Test.YtemjlopoffjmpaaAQ2
import Derived.Test.YtemjlopoffjmpaaAbs35
import Derived.Test.YtemjlopoffjmpaaAbs37
import Derived.KernelRfl
import Derived.Test.YtemjlopoffjmpaaAbs38
import Derived.ProofKit
set_option linter.unusedSimpArgs false
set_option linter.unusedVariables false
namespace Go.Proofs.Ytemjlopoffjmpaa.Abs
open Go Go.Proofs

/-- slices.Clone of what is empty: an object without elements. -/
theorem clone_emp0 : C Try.prog 40 [.emp] [] (fun x H' => x = .own 0 5 0 0 0 ∧ H' = [some []]) := by
  refine C_body' d40 rfl (WT_ok ?_)
  unfold c40
  simp only [wk3, onStO, bareL, toCl, chunks, wk, iaddrV_map, emb, unAgg, ares, aresL, ares1, tupled, forall_const, Nat.reduceAdd, Nat.reduceSub, Nat.reduceMul, Nat.reduceLeDiff, Nat.reduceEqDiff, Nat.reduceBEq, Int.reduceLE, Int.reduceLT, Int.reduceEq, Int.reduceNe, Int.reduceAdd, Int.reduceSub, Int.reduceToNat, Int.reduceNeg, ↓reduceIte, reduceCtorEq, cellsOf, cellA, lay, fillA]
  intro b
  cases b
  · simp only [wk3, onStO, bareL, toCl, chunks, wk, iaddrV_map, emb, unAgg, ares, aresL, ares1, tupled, forall_const, Nat.reduceAdd, Nat.reduceSub, Nat.reduceMul, Nat.reduceLeDiff, Nat.reduceEqDiff, Nat.reduceBEq, Int.reduceLE, Int.reduceLT, Int.reduceEq, Int.reduceNe, Int.reduceAdd, Int.reduceSub, Int.reduceToNat, Int.reduceNeg, ↓reduceIte, reduceCtorEq, cellsOf, cellA, lay, fillA]
    exact ⟨_, _, Wk.refl _ _ _, rfl, rfl⟩
  · simp only [wk3, onStO, bareL, toCl, chunks, wk, iaddrV_map, emb, unAgg, ares, aresL, ares1, tupled, forall_const, Nat.reduceAdd, Nat.reduceSub, Nat.reduceMul, Nat.reduceLeDiff, Nat.reduceEqDiff, Nat.reduceBEq, Int.reduceLE, Int.reduceLT, Int.reduceEq, Int.reduceNe, Int.reduceAdd, Int.reduceSub, Int.reduceToNat, Int.reduceNeg, ↓reduceIte, reduceCtorEq, cellsOf, cellA, lay, fillA]
    exact ⟨_, _, Wk_emp 5, rfl, rfl⟩
theorem clone2_emp0 : C Try.prog 41 [.emp] [] (fun x H' => x = .own 0 5 0 0 0 ∧ H' = [some []]) := by
  refine C_body' d41 rfl (WT_ok ?_)
  unfold c41
  simp only [wk3, onStO, bareL, toCl, chunks, wk, iaddrV_map, emb, unAgg, ares, aresL, ares1, tupled, forall_const, Nat.reduceAdd, Nat.reduceSub, Nat.reduceMul, Nat.reduceLeDiff, Nat.reduceEqDiff, Nat.reduceBEq, Int.reduceLE, Int.reduceLT, Int.reduceEq, Int.reduceNe, Int.reduceAdd, Int.reduceSub, Int.reduceToNat, Int.reduceNeg, ↓reduceIte, reduceCtorEq, cellsOf, cellA, lay, fillA]
  intro b
  cases b
  · simp only [wk3, onStO, bareL, toCl, chunks, wk, iaddrV_map, emb, unAgg, ares, aresL, ares1, tupled, forall_const, Nat.reduceAdd, Nat.reduceSub, Nat.reduceMul, Nat.reduceLeDiff, Nat.reduceEqDiff, Nat.reduceBEq, Int.reduceLE, Int.reduceLT, Int.reduceEq, Int.reduceNe, Int.reduceAdd, Int.reduceSub, Int.reduceToNat, Int.reduceNeg, ↓reduceIte, reduceCtorEq, cellsOf, cellA, lay, fillA]
    exact ⟨_, _, Wk.refl _ _ _, rfl, rfl⟩
  · simp only [wk3, onStO, bareL, toCl, chunks, wk, iaddrV_map, emb, unAgg, ares, aresL, ares1, tupled, forall_const, Nat.reduceAdd, Nat.reduceSub, Nat.reduceMul, Nat.reduceLeDiff, Nat.reduceEqDiff, Nat.reduceBEq, Int.reduceLE, Int.reduceLT, Int.reduceEq, Int.reduceNe, Int.reduceAdd, Int.reduceSub, Int.reduceToNat, Int.reduceNeg, ↓reduceIte, reduceCtorEq, cellsOf, cellA, lay, fillA]
    exact ⟨_, _, Wk_emp 5, rfl, rfl⟩
theorem clone_emp (H : AH) : C Try.prog 40 [.emp] H (fun x H' => x = .own H.length 5 0 0 0 ∧ H' = H ++ [some []]) :=
  C_call [] List.nodup_nil (fun r hr => by cases hr) clone_emp0 (by rintro _ _ ⟨rfl, rfl⟩; exact ⟨Nat.zero_le _, by simp [ren, toCaller, back, setAll, renO]⟩)
theorem clone2_emp (H : AH) : C Try.prog 41 [.emp] H (fun x H' => x = .own H.length 5 0 0 0 ∧ H' = H ++ [some []]) :=
  C_call [] List.nodup_nil (fun r hr => by cases hr) clone2_emp0 (by rintro _ _ ⟨rfl, rfl⟩; exact ⟨Nat.zero_le _, by simp [ren, toCaller, back, setAll, renO]⟩)

/-- What is known of functions beside their text. -/
def orcC : CallF := fun f args H =>
  if f = 40 ∨ f = 41 then
    match args with
    | [.emp] => some (.own H.length 5 0 0 0, H ++ [some []])
    | _ => none
  else none
theorem orcC_ok : EvOk Try.prog orcC := by
  intro f args H x H' h
  unfold orcC at h
  split at h
  · rename_i hf
    split at h
    · cases h
      rcases hf with rfl | rfl
      · exact clone_emp H
      · exact clone2_emp H
    · cases h
  · cases h
end Go.Proofs.Ytemjlopoffjmpaa.Abs
set_option linter.unusedSimpArgs false
set_option linter.unusedVariables false
namespace Go.Proofs.Ytemjlopoffjmpaa.Abs
open Go Go.Proofs

def cellD (d : Dset) : List AV := [.int .i64 d.id, .int .i64 d.kind, .int .i64 d.origin, .int .i64 d.quota, aset d.files]

/-- slices.Clone of a list of one set. -/
theorem clone_one0 (d : Dset) : C Try.prog 40 [.fz [pdset d]] [] (fun x H' => x = .own 0 5 0 1 1 ∧ H' = [some [cellD d]]) := by
  refine C_body' d40 rfl (WT_ok ?_)
  unfold c40
  simp only [pdset, wk3, onStO, bareL, toCl, chunks, wk, iaddrV_map, emb, unAgg, ares, aresL, ares1, tupled, forall_const, Nat.reduceAdd, Nat.reduceSub, Nat.reduceMul, Nat.reduceLeDiff, Nat.reduceEqDiff, Nat.reduceBEq, Int.reduceLE, Int.reduceLT, Int.reduceEq, Int.reduceNe, Int.reduceAdd, Int.reduceSub, Int.reduceToNat, Int.reduceNeg, ↓reduceIte, reduceCtorEq, cellsOf, cellA, lay, fillA]
  exact ⟨_, _, Wk.refl _ _ _, rfl, rfl⟩
/-- slices.Clone of a set's files: the same rows, frozen. -/
theorem clone_set0 (x : Node) (s : List Node) (hs : (x :: s).length ≤ 1000000) : C Try.prog 41 [aset (x :: s)] [] (fun y H' => y = aset (x :: s) ∧ H' = []) := by
  refine C_body' d41 rfl (WT_ok ?_)
  unfold c41
  simp only [aset, wk3, onStO, bareL, toCl, chunks, wk, iaddrV_map, emb, unAgg, ares, aresL, ares1, tupled, forall_const, Nat.reduceAdd, Nat.reduceSub, Nat.reduceMul, Nat.reduceLeDiff, Nat.reduceEqDiff, Nat.reduceBEq, Int.reduceLE, Int.reduceLT, Int.reduceEq, Int.reduceNe, Int.reduceAdd, Int.reduceSub, Int.reduceToNat, Int.reduceNeg, ↓reduceIte, reduceCtorEq, cellsOf, cellA, lay, fillA]
  refine ⟨⟨?_, by simp at hs; omega, by simp at hs; omega⟩, ?_⟩
  · rw [Bool.and_eq_true]
    refine ⟨rfl, ?_⟩
    rw [List.all_eq_true]
    intro e he
    obtain ⟨r, hr, rfl⟩ := List.mem_map.1 he
    obtain ⟨z, _, rfl⟩ := List.mem_map.1 hr
    rfl
  · refine KWk_frozen 0 ((x :: s).map pnode) rfl (aset (x :: s)) ?_ ⟨rfl, rfl⟩
    simp only [frzL, frz, renL, ren, if_true, List.length_map, List.length_cons, Nat.zero_add, Nat.le_refl, and_self, List.drop_zero, aset]
    rw [List.take_of_length_le (by simp)]
theorem clone_set (x : Node) (s : List Node) (hs : (x :: s).length ≤ 1000000) (H : AH) : C Try.prog 41 [aset (x :: s)] H (fun y H' => y = aset (x :: s) ∧ H' = H) :=
  C_pure (K0 := fun y => y = aset (x :: s)) (clone_set0 x s hs) (fun τ => renL_bare τ _ (by simp [bareL, bare, aset])) (by rintro y rfl τ; simp [aset, ren]) H
theorem clone_one (d : Dset) (H : AH) : C Try.prog 40 [.fz [pdset d]] H (fun x H' => x = .own H.length 5 0 1 1 ∧ H' = H ++ [some [cellD d]]) :=
  C_call [] List.nodup_nil (fun r hr => by cases hr) (by simpa [renL, ren] using clone_one0 d) (by rintro _ _ ⟨rfl, rfl⟩; exact ⟨Nat.zero_le _, by simp [ren, toCaller, back, setAll, renO, cellD, renL, aset]⟩)
theorem RT_calld {P : Program} (d : Option Nat) (rest : List AInstr) (K : List AV → AH → Prop) (fr : List AV) (H : AH) (x : Opd) (args : List Opd) (t u) :
    RT P (⟨d, none, .calld x args⟩ :: rest) K fr H t u = ∃ f first cap, evalA fr x = .fn (.func f) first cap ∧ C P f (first ++ args.map (evalA fr) ++ cap) H fun y H' => RT P rest K (setA fr d y) H' .mk .mk := (_root_.id rfl)
theorem KWk_first {K : AV → AH → Prop} {x : AV} {o : AObj} {G : AH} (hx : bare x = true) (ho : o.map (renL (upTo 1)) = o) (hk : K x [some o]) : KWk 1 K x (some o :: G) := by
  refine ⟨x, [some o], ?_, hk⟩
  have h1 := Wk_forget (n0 := 1) (fr := [x]) (H := some o :: G) 1 (Nat.le_refl _)
  rw [renL_bare _ _ (by simp [bareL, hx])] at h1
  have e : mapH (renL (upTo 1)) ((some o :: G).take 1) = [some o] := by
    simp only [List.take_succ_cons, List.take_zero, mapH, List.map_cons, List.map_nil, Option.map_some, ho]
  rwa [e] at h1
/-- The closures that look for an ID. -/
theorem isId44 (d : Dset) (i : Int) : C Try.prog 44 [.agg (cellD d), .ptr 0 0 0 1] [some [[.int .i64 i]]] (fun x H' => x = .bool (decide (d.id = i)) ∧ H' = [some [[.int .i64 i]]]) := by
  refine C_body' d44 rfl (WT_ok ?_)
  unfold c44
  simp only [cellD, aset, lay, wk, iaddrV_map, emb, unAgg, ares, aresL, ares1, tupled, forall_const, Nat.reduceAdd, Nat.reduceSub, Nat.reduceMul, Nat.reduceLeDiff, Nat.reduceEqDiff, Nat.reduceBEq, Int.reduceLE, Int.reduceLT, Int.reduceEq, Int.reduceNe, Int.reduceAdd, Int.reduceSub, Int.reduceToNat, Int.reduceNeg, ↓reduceIte, reduceCtorEq, cellsOf, cellA, lay, fillA]
  refine KWk_first (by simp [bare]) (by simp [renL, ren]) ⟨rfl, rfl⟩
theorem isId82 (d : Dset) (i : Int) : C Try.prog 82 [.agg (cellD d), .ptr 0 0 0 1] [some [[.int .i64 i]]] (fun x H' => x = .bool (decide (d.id = i)) ∧ H' = [some [[.int .i64 i]]]) := by
  refine C_body' d82 rfl (WT_ok ?_)
  unfold c82
  simp only [cellD, aset, lay, wk, iaddrV_map, emb, unAgg, ares, aresL, ares1, tupled, forall_const, Nat.reduceAdd, Nat.reduceSub, Nat.reduceMul, Nat.reduceLeDiff, Nat.reduceEqDiff, Nat.reduceBEq, Int.reduceLE, Int.reduceLT, Int.reduceEq, Int.reduceNe, Int.reduceAdd, Int.reduceSub, Int.reduceToNat, Int.reduceNeg, ↓reduceIte, reduceCtorEq, cellsOf, cellA, lay, fillA]
  refine KWk_first (by simp [bare]) (by simp [renL, ren]) ⟨rfl, rfl⟩
theorem isId44_at (d : Dset) (i : Int) (R : AH) : C Try.prog 44 [.agg (cellD d), .ptr 0 0 0 1] (some [[.int .i64 i]] :: R) (fun x H' => x = .bool (decide (d.id = i)) ∧ H' = some [[.int .i64 i]] :: R) :=
  C_call [0] (by simp) (by simp) (by simpa [renL, ren, toCallee, renO, cellD, aset, AH.at] using isId44 d i) (by rintro _ _ ⟨rfl, rfl⟩; exact ⟨Nat.le_refl _, by simp [ren], by simp [back, setAll, renO, renL, ren]⟩)
theorem isId82_at (d : Dset) (i : Int) (R : AH) : C Try.prog 82 [.agg (cellD d), .ptr 0 0 0 1] (some [[.int .i64 i]] :: R) (fun x H' => x = .bool (decide (d.id = i)) ∧ H' = some [[.int .i64 i]] :: R) :=
  C_call [0] (by simp) (by simp) (by simpa [renL, ren, toCallee, renO, cellD, aset, AH.at] using isId82 d i) (by rintro _ _ ⟨rfl, rfl⟩; exact ⟨Nat.le_refl _, by simp [ren], by simp [back, setAll, renO, renL, ren]⟩)
end Go.Proofs.Ytemjlopoffjmpaa.Abs
set_option linter.unusedSimpArgs false
set_option linter.unusedVariables false
namespace Go.Proofs.Ytemjlopoffjmpaa.Abs
open Go Go.Proofs

theorem index43 (d : Dset) (i : Int) : C Try.prog 43 [.own 1 5 0 1 1, .fn (.func 44) [] [.ptr 0 0 0 1]] [some [[.int .i64 i]], some [cellD d]] (fun x H' => x = .int .i64 (if d.id = i then 0 else -1) ∧ H' = [some [[.int .i64 i]], some [cellD d]]) := by
  refine C_body d43 rfl (WT_ok ?_)
  unfold c43
  simp only [cellD, aset, lay, wk, iaddrV_map, emb, unAgg, ares, aresL, ares1, tupled, forall_const, Nat.reduceAdd, Nat.reduceSub, Nat.reduceMul, Nat.reduceLeDiff, Nat.reduceEqDiff, Nat.reduceBEq, Int.reduceLE, Int.reduceLT, Int.reduceEq, Int.reduceNe, Int.reduceAdd, Int.reduceSub, Int.reduceToNat, Int.reduceNeg, ↓reduceIte, reduceCtorEq, cellsOf, cellA, lay, fillA]
  refine WT_loop (W_loop (fun n fr H' => ∃ k : Nat, k ≤ 1 ∧ n = 1 - k ∧ (k = 1 → d.id ≠ i) ∧ H' = [some [[.int .i64 i]], some [cellD d]] ∧ fr = [.own 1 5 0 1 1, .fn (.func 44) [] [.ptr 0 0 0 1], .top, .top, .int .i64 0, .top, .own 1 5 0 1 1, .int .i64 (1 : Nat), .int .i64 k] ++ List.replicate 10 .top) 1 ⟨0, by omega, rfl, by omega, rfl, rfl⟩ ?_)
  rintro n fr H' ⟨k, hk, rfl, hne, rfl, rfl⟩
  refine WT_ok ?_
  simp only [cellD, aset, lay, wk, iaddrV_map, emb, unAgg, ares, aresL, ares1, tupled, forall_const, Nat.reduceAdd, Nat.reduceSub, Nat.reduceMul, Nat.reduceLeDiff, Nat.reduceEqDiff, Nat.reduceBEq, Int.reduceLE, Int.reduceLT, Int.reduceEq, Int.reduceNe, Int.reduceAdd, Int.reduceSub, Int.reduceToNat, Int.reduceNeg, ↓reduceIte, reduceCtorEq, cellsOf, cellA, lay, fillA]
  refine guard_both ?_ ?_ <;> intro h <;> simp only [hy] at h
  · have : k = 0 := by omega
    subst this
    simp only [h, lay, RT_calld, wk, iaddrV_map, emb, unAgg, ares, aresL, ares1, tupled, forall_const, Nat.reduceAdd, Nat.reduceSub, Nat.reduceMul, Nat.reduceLeDiff, Nat.reduceEqDiff, Nat.reduceBEq, Int.reduceLE, Int.reduceLT, Int.reduceEq, Int.reduceNe, Int.reduceAdd, Int.reduceSub, Int.reduceToNat, Int.reduceNeg, ↓reduceIte, reduceCtorEq, cellsOf, cellA, lay, fillA]
    refine ⟨by omega, _, _, _, rfl, (isId44_at d i _).mono ?_⟩
    rintro _ _ ⟨rfl, rfl⟩
    have w2 : IntKind.i64.wrap (((0 : Nat) : Int) + 1) = ((1 : Nat) : Int) := by rw [IntWalk.i64_in _ (by omega)]; omega
    by_cases hd : d.id = i
    · simp only [hd, wk, iaddrV_map, emb, unAgg, ares, aresL, ares1, tupled, forall_const, Nat.reduceAdd, Nat.reduceSub, Nat.reduceMul, Nat.reduceLeDiff, Nat.reduceEqDiff, Nat.reduceBEq, Int.reduceLE, Int.reduceLT, Int.reduceEq, Int.reduceNe, Int.reduceAdd, Int.reduceSub, Int.reduceToNat, Int.reduceNeg, ↓reduceIte, reduceCtorEq, cellsOf, cellA, lay, fillA]
      rfl
    · simp only [hd, w2, wk, iaddrV_map, emb, unAgg, ares, aresL, ares1, tupled, forall_const, Nat.reduceAdd, Nat.reduceSub, Nat.reduceMul, Nat.reduceLeDiff, Nat.reduceEqDiff, Nat.reduceBEq, Int.reduceLE, Int.reduceLT, Int.reduceEq, Int.reduceNe, Int.reduceAdd, Int.reduceSub, Int.reduceToNat, Int.reduceNeg, ↓reduceIte, reduceCtorEq, cellsOf, cellA, lay, fillA]
      refine QLoop_go (n' := 0) (by omega) ⟨1, by omega, rfl, fun _ => trivial, rfl, rfl⟩ ?_
      simp only [List.replicate_succ, List.replicate_zero, List.cons_append, List.nil_append, Tops_top, Tops_same, Tops_nil]
  · have : k = 1 := by omega
    subst this
    simp only [h, hne rfl, wk, iaddrV_map, emb, unAgg, ares, aresL, ares1, tupled, forall_const, Nat.reduceAdd, Nat.reduceSub, Nat.reduceMul, Nat.reduceLeDiff, Nat.reduceEqDiff, Nat.reduceBEq, Int.reduceLE, Int.reduceLT, Int.reduceEq, Int.reduceNe, Int.reduceAdd, Int.reduceSub, Int.reduceToNat, Int.reduceNeg, ↓reduceIte, reduceCtorEq, cellsOf, cellA, lay, fillA]
theorem index81 (d : Dset) (i : Int) : C Try.prog 81 [.own 1 5 0 1 1, .fn (.func 82) [] [.ptr 0 0 0 1]] [some [[.int .i64 i]], some [cellD d]] (fun x H' => x = .int .i64 (if d.id = i then 0 else -1) ∧ H' = [some [[.int .i64 i]], some [cellD d]]) := by
  refine C_body d81 rfl (WT_ok ?_)
  unfold c81
  simp only [cellD, aset, lay, wk, iaddrV_map, emb, unAgg, ares, aresL, ares1, tupled, forall_const, Nat.reduceAdd, Nat.reduceSub, Nat.reduceMul, Nat.reduceLeDiff, Nat.reduceEqDiff, Nat.reduceBEq, Int.reduceLE, Int.reduceLT, Int.reduceEq, Int.reduceNe, Int.reduceAdd, Int.reduceSub, Int.reduceToNat, Int.reduceNeg, ↓reduceIte, reduceCtorEq, cellsOf, cellA, lay, fillA]
  refine WT_loop (W_loop (fun n fr H' => ∃ k : Nat, k ≤ 1 ∧ n = 1 - k ∧ (k = 1 → d.id ≠ i) ∧ H' = [some [[.int .i64 i]], some [cellD d]] ∧ fr = [.own 1 5 0 1 1, .fn (.func 82) [] [.ptr 0 0 0 1], .top, .top, .int .i64 0, .top, .own 1 5 0 1 1, .int .i64 (1 : Nat), .int .i64 k] ++ List.replicate 10 .top) 1 ⟨0, by omega, rfl, by omega, rfl, rfl⟩ ?_)
  rintro n fr H' ⟨k, hk, rfl, hne, rfl, rfl⟩
  refine WT_ok ?_
  simp only [cellD, aset, lay, wk, iaddrV_map, emb, unAgg, ares, aresL, ares1, tupled, forall_const, Nat.reduceAdd, Nat.reduceSub, Nat.reduceMul, Nat.reduceLeDiff, Nat.reduceEqDiff, Nat.reduceBEq, Int.reduceLE, Int.reduceLT, Int.reduceEq, Int.reduceNe, Int.reduceAdd, Int.reduceSub, Int.reduceToNat, Int.reduceNeg, ↓reduceIte, reduceCtorEq, cellsOf, cellA, lay, fillA]
  refine guard_both ?_ ?_ <;> intro h <;> simp only [hy] at h
  · have : k = 0 := by omega
    subst this
    simp only [h, lay, RT_calld, wk, iaddrV_map, emb, unAgg, ares, aresL, ares1, tupled, forall_const, Nat.reduceAdd, Nat.reduceSub, Nat.reduceMul, Nat.reduceLeDiff, Nat.reduceEqDiff, Nat.reduceBEq, Int.reduceLE, Int.reduceLT, Int.reduceEq, Int.reduceNe, Int.reduceAdd, Int.reduceSub, Int.reduceToNat, Int.reduceNeg, ↓reduceIte, reduceCtorEq, cellsOf, cellA, lay, fillA]
    refine ⟨by omega, _, _, _, rfl, (isId82_at d i _).mono ?_⟩
    rintro _ _ ⟨rfl, rfl⟩
    have w2 : IntKind.i64.wrap (((0 : Nat) : Int) + 1) = ((1 : Nat) : Int) := by rw [IntWalk.i64_in _ (by omega)]; omega
    by_cases hd : d.id = i
    · simp only [hd, wk, iaddrV_map, emb, unAgg, ares, aresL, ares1, tupled, forall_const, Nat.reduceAdd, Nat.reduceSub, Nat.reduceMul, Nat.reduceLeDiff, Nat.reduceEqDiff, Nat.reduceBEq, Int.reduceLE, Int.reduceLT, Int.reduceEq, Int.reduceNe, Int.reduceAdd, Int.reduceSub, Int.reduceToNat, Int.reduceNeg, ↓reduceIte, reduceCtorEq, cellsOf, cellA, lay, fillA]
      rfl
    · simp only [hd, w2, wk, iaddrV_map, emb, unAgg, ares, aresL, ares1, tupled, forall_const, Nat.reduceAdd, Nat.reduceSub, Nat.reduceMul, Nat.reduceLeDiff, Nat.reduceEqDiff, Nat.reduceBEq, Int.reduceLE, Int.reduceLT, Int.reduceEq, Int.reduceNe, Int.reduceAdd, Int.reduceSub, Int.reduceToNat, Int.reduceNeg, ↓reduceIte, reduceCtorEq, cellsOf, cellA, lay, fillA]
      refine QLoop_go (n' := 0) (by omega) ⟨1, by omega, rfl, fun _ => trivial, rfl, rfl⟩ ?_
      simp only [List.replicate_succ, List.replicate_zero, List.cons_append, List.nil_append, Tops_top, Tops_same, Tops_nil]
  · have : k = 1 := by omega
    subst this
    simp only [h, hne rfl, wk, iaddrV_map, emb, unAgg, ares, aresL, ares1, tupled, forall_const, Nat.reduceAdd, Nat.reduceSub, Nat.reduceMul, Nat.reduceLeDiff, Nat.reduceEqDiff, Nat.reduceBEq, Int.reduceLE, Int.reduceLT, Int.reduceEq, Int.reduceNe, Int.reduceAdd, Int.reduceSub, Int.reduceToNat, Int.reduceNeg, ↓reduceIte, reduceCtorEq, cellsOf, cellA, lay, fillA]
end Go.Proofs.Ytemjlopoffjmpaa.Abs
set_option linter.unusedSimpArgs false
set_option linter.unusedVariables false
namespace Go.Proofs.Ytemjlopoffjmpaa.Abs
open Go Go.Proofs

theorem index62 (d : Dset) (i : Int) : C Try.prog 62 [.own 0 5 0 1 1, .int .i64 i] [some [cellD d]] (fun x H' => x = .int .i64 (if d.id = i then 0 else -1) ∧ H' = [some [cellD d]]) := by
  refine C_body' d62 rfl (WT_ok ?_)
  unfold c62
  simp only [cellD, aset, lay, wk, iaddrV_map, emb, unAgg, ares, aresL, ares1, tupled, forall_const, Nat.reduceAdd, Nat.reduceSub, Nat.reduceMul, Nat.reduceLeDiff, Nat.reduceEqDiff, Nat.reduceBEq, Int.reduceLE, Int.reduceLT, Int.reduceEq, Int.reduceNe, Int.reduceAdd, Int.reduceSub, Int.reduceToNat, Int.reduceNeg, ↓reduceIte, reduceCtorEq, cellsOf, cellA, lay, fillA]
  refine CT_ok (C_call (K := fun x H' => x = .int .i64 (if d.id = i then 0 else -1) ∧ H' = [some [cellD d], some [[.int .i64 i]]]) [1, 0] (by simp) (by simp) (by simpa [renL, ren, toCallee, renO, cellD, aset, AH.at, show List.idxOf? 0 [1, 0] = some 1 from rfl, show List.idxOf? 1 [1, 0] = some 0 from rfl] using index81 d i) (by rintro _ _ ⟨rfl, rfl⟩; exact ⟨Nat.le_refl _, by simp [ren], by simp [back, setAll, renO, renL, ren, cellD, aset]⟩)) ?_
  rintro _ _ ⟨rfl, rfl⟩
  simp only [cellD, aset, lay, wk, iaddrV_map, emb, unAgg, ares, aresL, ares1, tupled, forall_const, Nat.reduceAdd, Nat.reduceSub, Nat.reduceMul, Nat.reduceLeDiff, Nat.reduceEqDiff, Nat.reduceBEq, Int.reduceLE, Int.reduceLT, Int.reduceEq, Int.reduceNe, Int.reduceAdd, Int.reduceSub, Int.reduceToNat, Int.reduceNeg, ↓reduceIte, reduceCtorEq, cellsOf, cellA, lay, fillA]
  exact KWk_first (by simp [bare]) (by simp [renL, ren]) ⟨rfl, rfl⟩
end Go.Proofs.Ytemjlopoffjmpaa.Abs
set_option linter.unusedSimpArgs false
set_option linter.unusedVariables false
namespace Go.Proofs.Ytemjlopoffjmpaa.Abs
open Go Go.Proofs

theorem twin59 (d : Dset) (y : Node) (s : List Node) (hd : d.files = y :: s) (hs : d.files.length ≤ 1000000) : C Try.prog 59 [.fz [pdset d]] [] (fun x H' => x = .own 0 5 0 1 1 ∧ H' = [some [cellD d]]) := by
  refine C_body' d59 rfl (WT_ok ?_)
  unfold c59
  simp only [wk, iaddrV_map, emb, unAgg, ares, aresL, ares1, tupled, forall_const, Nat.reduceAdd, Nat.reduceSub, Nat.reduceMul, Nat.reduceLeDiff, Nat.reduceEqDiff, Nat.reduceBEq, Int.reduceLE, Int.reduceLT, Int.reduceEq, Int.reduceNe, Int.reduceAdd, Int.reduceSub, Int.reduceToNat, Int.reduceNeg, ↓reduceIte, reduceCtorEq, cellsOf, cellA, lay, fillA]
  refine CT_ok (clone_one d _) ?_
  rintro _ _ ⟨rfl, rfl⟩
  simp only [cellD, aset, lay, wk, iaddrV_map, emb, unAgg, ares, aresL, ares1, tupled, forall_const, Nat.reduceAdd, Nat.reduceSub, Nat.reduceMul, Nat.reduceLeDiff, Nat.reduceEqDiff, Nat.reduceBEq, Int.reduceLE, Int.reduceLT, Int.reduceEq, Int.reduceNe, Int.reduceAdd, Int.reduceSub, Int.reduceToNat, Int.reduceNeg, ↓reduceIte, reduceCtorEq, cellsOf, cellA, lay, fillA]
  refine WT_loop (W_loop (fun n fr H' => ∃ k : Nat, k ≤ 1 ∧ n = 1 - k ∧ H' = [some [cellD d]] ∧ fr = [.own 0 5 0 1 1, .top, .emp, .top, .fz [pdset d], .own 0 5 0 1 1, .own 0 5 0 1 1, .int .i64 (1 : Nat), .int .i64 k] ++ List.replicate 14 .top) 1 ⟨0, by omega, rfl, rfl, rfl⟩ ?_)
  rintro n fr H' ⟨k, hk, rfl, rfl, rfl⟩
  refine WT_ok ?_
  simp only [cellD, aset, lay, wk, iaddrV_map, emb, unAgg, ares, aresL, ares1, tupled, forall_const, Nat.reduceAdd, Nat.reduceSub, Nat.reduceMul, Nat.reduceLeDiff, Nat.reduceEqDiff, Nat.reduceBEq, Int.reduceLE, Int.reduceLT, Int.reduceEq, Int.reduceNe, Int.reduceAdd, Int.reduceSub, Int.reduceToNat, Int.reduceNeg, ↓reduceIte, reduceCtorEq, cellsOf, cellA, lay, fillA]
  refine guard_both ?_ ?_ <;> intro h <;> simp only [hy] at h
  · have : k = 0 := by omega
    subst this
    have w2 : IntKind.i64.wrap (((0 : Nat) : Int) + 1) = ((1 : Nat) : Int) := by rw [IntWalk.i64_in _ (by omega)]; omega
    simp only [h, lay, wk, iaddrV_map, emb, unAgg, ares, aresL, ares1, tupled, forall_const, Nat.reduceAdd, Nat.reduceSub, Nat.reduceMul, Nat.reduceLeDiff, Nat.reduceEqDiff, Nat.reduceBEq, Int.reduceLE, Int.reduceLT, Int.reduceEq, Int.reduceNe, Int.reduceAdd, Int.reduceSub, Int.reduceToNat, Int.reduceNeg, ↓reduceIte, reduceCtorEq, cellsOf, cellA, lay, fillA]
    refine ⟨by omega, ?_⟩
    rw [hd]
    refine CT_ok (clone_set y s (by rw [← hd]; exact hs) _) ?_
    rintro _ _ ⟨rfl, rfl⟩
    simp only [h, aset, lay, w2, wk, iaddrV_map, emb, unAgg, ares, aresL, ares1, tupled, forall_const, Nat.reduceAdd, Nat.reduceSub, Nat.reduceMul, Nat.reduceLeDiff, Nat.reduceEqDiff, Nat.reduceBEq, Int.reduceLE, Int.reduceLT, Int.reduceEq, Int.reduceNe, Int.reduceAdd, Int.reduceSub, Int.reduceToNat, Int.reduceNeg, ↓reduceIte, reduceCtorEq, cellsOf, cellA, lay, fillA]
    refine ⟨by omega, QLoop_go (n' := 0) (by omega) ⟨1, by omega, rfl, rfl, rfl⟩ ?_⟩
    simp only [List.replicate_succ, List.replicate_zero, List.cons_append, List.nil_append, Tops_top, Tops_same, Tops_nil]
  · have : k = 1 := by omega
    subst this
    simp only [h, wk, iaddrV_map, emb, unAgg, ares, aresL, ares1, tupled, forall_const, Nat.reduceAdd, Nat.reduceSub, Nat.reduceMul, Nat.reduceLeDiff, Nat.reduceEqDiff, Nat.reduceBEq, Int.reduceLE, Int.reduceLT, Int.reduceEq, Int.reduceNe, Int.reduceAdd, Int.reduceSub, Int.reduceToNat, Int.reduceNeg, ↓reduceIte, reduceCtorEq, cellsOf, cellA, lay, fillA]
    exact ⟨_, _, Wk.refl _ _ _, rfl, rfl⟩
end Go.Proofs.Ytemjlopoffjmpaa.Abs
set_option linter.unusedSimpArgs false
set_option linter.unusedVariables false
namespace Go.Proofs.Ytemjlopoffjmpaa.Abs
open Go Go.Proofs

theorem twin_at (d : Dset) (y : Node) (s : List Node) (hd : d.files = y :: s) (hs : d.files.length ≤ 1000000) (H : AH) : C Try.prog 59 [.fz [pdset d]] H (fun x H' => x = .own H.length 5 0 1 1 ∧ H' = H ++ [some [cellD d]]) :=
  C_call [] List.nodup_nil (fun r hr => by cases hr) (by simpa [renL, ren] using twin59 d y s hd hs) (by rintro _ _ ⟨rfl, rfl⟩; exact ⟨Nat.zero_le _, by simp [ren, toCaller, back, setAll, renO, cellD, renL, aset]⟩)

/-- dset.Get of a list of one set, by its ID. -/
theorem get_one0 (d : Dset) (y : Node) (s : List Node) (hd : d.files = y :: s) (hs : d.files.length ≤ 1000000) (i : Int) (hi : i = d.id) : C Try.prog 42 [.fz [pdset d], .int .i64 i] [] (fun x H' => x = .tuple [.agg (cellD d), .bool true] ∧ H' = []) := by
  subst hi
  refine C_body' d42 rfl (WT_ok ?_)
  unfold c42
  simp only [wk, iaddrV_map, emb, unAgg, ares, aresL, ares1, tupled, forall_const, Nat.reduceAdd, Nat.reduceSub, Nat.reduceMul, Nat.reduceLeDiff, Nat.reduceEqDiff, Nat.reduceBEq, Int.reduceLE, Int.reduceLT, Int.reduceEq, Int.reduceNe, Int.reduceAdd, Int.reduceSub, Int.reduceToNat, Int.reduceNeg, ↓reduceIte, reduceCtorEq, cellsOf, cellA, lay, fillA]
  refine CT_ok (twin_at d y s hd hs _) ?_
  rintro _ _ ⟨rfl, rfl⟩
  simp only [cellD, aset, lay, wk, iaddrV_map, emb, unAgg, ares, aresL, ares1, tupled, forall_const, Nat.reduceAdd, Nat.reduceSub, Nat.reduceMul, Nat.reduceLeDiff, Nat.reduceEqDiff, Nat.reduceBEq, Int.reduceLE, Int.reduceLT, Int.reduceEq, Int.reduceNe, Int.reduceAdd, Int.reduceSub, Int.reduceToNat, Int.reduceNeg, ↓reduceIte, reduceCtorEq, cellsOf, cellA, lay, fillA]
  refine CT_ok (C_call (K := fun x H' => x = .int .i64 0 ∧ H' = [some [[.int .i64 0, .int .i64 0, .int .i64 0, .int .i64 0, .emp]], some [cellD d]]) [1] (by simp) (by simp) (by simpa [renL, ren, toCallee, renO, cellD, aset, AH.at] using index62 d d.id) (by rintro _ _ ⟨rfl, rfl⟩; exact ⟨Nat.le_refl _, by simp [ren], by simp [back, setAll, renO, renL, ren, cellD, aset]⟩)) ?_
  rintro _ _ ⟨rfl, rfl⟩
  simp only [cellD, aset, lay, wk, iaddrV_map, emb, unAgg, ares, aresL, ares1, tupled, forall_const, Nat.reduceAdd, Nat.reduceSub, Nat.reduceMul, Nat.reduceLeDiff, Nat.reduceEqDiff, Nat.reduceBEq, Int.reduceLE, Int.reduceLT, Int.reduceEq, Int.reduceNe, Int.reduceAdd, Int.reduceSub, Int.reduceToNat, Int.reduceNeg, ↓reduceIte, reduceCtorEq, cellsOf, cellA, lay, fillA]
  exact ⟨by omega, KWk_bare (by simp [bare, bareL]) ⟨rfl, rfl⟩⟩
end Go.Proofs.Ytemjlopoffjmpaa.Abs
set_option linter.unusedSimpArgs false
set_option linter.unusedVariables false
namespace Go.Proofs.Ytemjlopoffjmpaa.Abs
open Go Go.Proofs

theorem get_one (d : Dset) (y : Node) (s : List Node) (hd : d.files = y :: s) (hs : d.files.length ≤ 1000000) (H : AH) : C Try.prog 42 [.fz [pdset d], .int .i64 d.id] H (fun x H' => x = .tuple [.agg (cellD d), .bool true] ∧ H' = H) :=
  C_pure (K0 := fun x => x = .tuple [.agg (cellD d), .bool true]) (get_one0 d y s hd hs d.id rfl) (fun τ => renL_bare τ _ (by simp [bareL, bare])) (by rintro x rfl τ; exact ren_bare τ _ (by simp [bare, bareL, cellD, aset])) H

theorem index43_at (d : Dset) (R : AH) : C Try.prog 43 [.own 1 5 0 1 1, .fn (.func 44) [] [.ptr 0 0 0 1]] (some [[.int .i64 d.id]] :: some [cellD d] :: R) (fun x H' => x = .int .i64 0 ∧ H' = some [[.int .i64 d.id]] :: some [cellD d] :: R) :=
  C_call [0, 1] (by simp) (by simp) (by simpa [renL, ren, toCallee, renO, cellD, aset, AH.at, show List.idxOf? 0 [0, 1] = some 0 from rfl, show List.idxOf? 1 [0, 1] = some 1 from rfl] using index43 d d.id) (by rintro _ _ ⟨rfl, rfl⟩; exact ⟨Nat.le_refl _, by simp [ren], by simp [back, setAll, renO, renL, ren, cellD, aset]⟩)
/-- What Put hands back. -/
def putA (d : Dset) (t : List Node) : AV := if 0 < d.quota ∧ d.quota < used t ∧ used d.files < used t then .tuple [.fz [pdset d], .int .i64 9] else .tuple [.fz [pdset { d with files := t }], .int .i64 0]
/-- acct.Put into a list of one set that lives. -/
theorem put_one0 (d : Dset) (y : Node) (s : List Node) (hd : d.files = y :: s) (hs : d.files.length ≤ 1000000) (hk : d.kind = 1) (t : List Node) (y' : Node) (s' : List Node) (ht : t = y' :: s') (hs' : t.length ≤ 1000000) :
    C Try.prog 15 [.fz [pdset d], .int .i64 d.id, aset t] [] (fun x H' => x = putA d t ∧ H' = []) := by
  refine C_body' d15 rfl (WT_ok ?_)
  unfold c15
  simp only [aset, wk, iaddrV_map, emb, unAgg, ares, aresL, ares1, tupled, forall_const, Nat.reduceAdd, Nat.reduceSub, Nat.reduceMul, Nat.reduceLeDiff, Nat.reduceEqDiff, Nat.reduceBEq, Int.reduceLE, Int.reduceLT, Int.reduceEq, Int.reduceNe, Int.reduceAdd, Int.reduceSub, Int.reduceToNat, Int.reduceNeg, ↓reduceIte, reduceCtorEq, cellsOf, cellA, lay, fillA]
  refine CT_ok (clone_one d _) ?_
  rintro _ _ ⟨rfl, rfl⟩
  simp only [cellD, aset, lay, wk, iaddrV_map, emb, unAgg, ares, aresL, ares1, tupled, forall_const, Nat.reduceAdd, Nat.reduceSub, Nat.reduceMul, Nat.reduceLeDiff, Nat.reduceEqDiff, Nat.reduceBEq, Int.reduceLE, Int.reduceLT, Int.reduceEq, Int.reduceNe, Int.reduceAdd, Int.reduceSub, Int.reduceToNat, Int.reduceNeg, ↓reduceIte, reduceCtorEq, cellsOf, cellA, lay, fillA]
  refine WT_loop (W_loop (fun n fr H' => ∃ k : Nat, k ≤ 1 ∧ n = 1 - k ∧ H' = [some [[.int .i64 d.id]], some [cellD d]] ∧ fr = [.fz [pdset d], .int .i64 d.id, .fz (t.map pnode), .top, .ptr 0 0 0 1, .top, .emp, .int .i64 0, .own 1 5 0 1 1, .top, .top, .top, .top, .top, .fz [pdset d], .own 1 5 0 1 1, .own 1 5 0 1 1, .int .i64 (1 : Nat), .int .i64 k] ++ List.replicate 58 .top) 1 ⟨0, by omega, rfl, rfl, rfl⟩ ?_)
  rintro n fr H' ⟨k, hk', rfl, rfl, rfl⟩
  refine WT_ok ?_
  simp only [cellD, aset, lay, wk, iaddrV_map, emb, unAgg, ares, aresL, ares1, tupled, forall_const, Nat.reduceAdd, Nat.reduceSub, Nat.reduceMul, Nat.reduceLeDiff, Nat.reduceEqDiff, Nat.reduceBEq, Int.reduceLE, Int.reduceLT, Int.reduceEq, Int.reduceNe, Int.reduceAdd, Int.reduceSub, Int.reduceToNat, Int.reduceNeg, ↓reduceIte, reduceCtorEq, cellsOf, cellA, lay, fillA]
  refine guard_both ?_ ?_ <;> intro h <;> simp only [hy] at h
  · have : k = 0 := by omega
    subst this
    have w2 : IntKind.i64.wrap (((0 : Nat) : Int) + 1) = ((1 : Nat) : Int) := by rw [IntWalk.i64_in _ (by omega)]; omega
    simp only [h, lay, wk, iaddrV_map, emb, unAgg, ares, aresL, ares1, tupled, forall_const, Nat.reduceAdd, Nat.reduceSub, Nat.reduceMul, Nat.reduceLeDiff, Nat.reduceEqDiff, Nat.reduceBEq, Int.reduceLE, Int.reduceLT, Int.reduceEq, Int.reduceNe, Int.reduceAdd, Int.reduceSub, Int.reduceToNat, Int.reduceNeg, ↓reduceIte, reduceCtorEq, cellsOf, cellA, lay, fillA]
    refine ⟨by omega, ?_⟩
    rw [hd]
    refine CT_ok (clone_set y s (by rw [← hd]; exact hs) _) ?_
    rintro _ _ ⟨rfl, rfl⟩
    simp only [h, aset, lay, w2, wk, iaddrV_map, emb, unAgg, ares, aresL, ares1, tupled, forall_const, Nat.reduceAdd, Nat.reduceSub, Nat.reduceMul, Nat.reduceLeDiff, Nat.reduceEqDiff, Nat.reduceBEq, Int.reduceLE, Int.reduceLT, Int.reduceEq, Int.reduceNe, Int.reduceAdd, Int.reduceSub, Int.reduceToNat, Int.reduceNeg, ↓reduceIte, reduceCtorEq, cellsOf, cellA, lay, fillA]
    refine ⟨by omega, QLoop_go (n' := 0) (by omega) ⟨1, by omega, rfl, rfl, rfl⟩ ?_⟩
    simp only [List.replicate_succ, List.replicate_zero, List.cons_append, List.nil_append, Tops_top, Tops_same, Tops_nil]
  · have : k = 1 := by omega
    subst this
    simp only [h, wk, iaddrV_map, emb, unAgg, ares, aresL, ares1, tupled, forall_const, Nat.reduceAdd, Nat.reduceSub, Nat.reduceMul, Nat.reduceLeDiff, Nat.reduceEqDiff, Nat.reduceBEq, Int.reduceLE, Int.reduceLT, Int.reduceEq, Int.reduceNe, Int.reduceAdd, Int.reduceSub, Int.reduceToNat, Int.reduceNeg, ↓reduceIte, reduceCtorEq, cellsOf, cellA, lay, fillA]
    refine CT_ok (get_one d y s hd hs _) ?_
    rintro _ _ ⟨rfl, rfl⟩
    simp only [cellD, aset, lay, wk, iaddrV_map, emb, unAgg, ares, aresL, ares1, tupled, forall_const, Nat.reduceAdd, Nat.reduceSub, Nat.reduceMul, Nat.reduceLeDiff, Nat.reduceEqDiff, Nat.reduceBEq, Int.reduceLE, Int.reduceLT, Int.reduceEq, Int.reduceNe, Int.reduceAdd, Int.reduceSub, Int.reduceToNat, Int.reduceNeg, ↓reduceIte, reduceCtorEq, cellsOf, cellA, lay, fillA]
    refine CT_ok (Used_spec t hs' _) ?_
    rintro _ _ ⟨rfl, rfl⟩
    simp only [hk, lay, wk, iaddrV_map, emb, unAgg, ares, aresL, ares1, tupled, forall_const, Nat.reduceAdd, Nat.reduceSub, Nat.reduceMul, Nat.reduceLeDiff, Nat.reduceEqDiff, Nat.reduceBEq, Int.reduceLE, Int.reduceLT, Int.reduceEq, Int.reduceNe, Int.reduceAdd, Int.reduceSub, Int.reduceToNat, Int.reduceNeg, ↓reduceIte, reduceCtorEq, cellsOf, cellA, lay, fillA]
    by_cases h1 : 0 < d.quota
    · by_cases h2 : d.quota < (used t : Int)
      · simp only [h1, h2, lay, wk, iaddrV_map, emb, unAgg, ares, aresL, ares1, tupled, forall_const, Nat.reduceAdd, Nat.reduceSub, Nat.reduceMul, Nat.reduceLeDiff, Nat.reduceEqDiff, Nat.reduceBEq, Int.reduceLE, Int.reduceLT, Int.reduceEq, Int.reduceNe, Int.reduceAdd, Int.reduceSub, Int.reduceToNat, Int.reduceNeg, ↓reduceIte, reduceCtorEq, cellsOf, cellA, lay, fillA]
        refine CT_ok (Used_spec d.files hs _) ?_
        rintro _ _ ⟨rfl, rfl⟩
        by_cases h3 : (used d.files : Int) < (used t : Int)
        · simp only [h1, h2, h3, lay, wk, iaddrV_map, emb, unAgg, ares, aresL, ares1, tupled, forall_const, Nat.reduceAdd, Nat.reduceSub, Nat.reduceMul, Nat.reduceLeDiff, Nat.reduceEqDiff, Nat.reduceBEq, Int.reduceLE, Int.reduceLT, Int.reduceEq, Int.reduceNe, Int.reduceAdd, Int.reduceSub, Int.reduceToNat, Int.reduceNeg, ↓reduceIte, reduceCtorEq, cellsOf, cellA, lay, fillA]
          refine KWk_frozen 1 [pdset ⟨d.id, 1, d.origin, d.quota, d.files⟩] rfl (.tuple [.fz [pdset ⟨d.id, 1, d.origin, d.quota, d.files⟩], .int .i64 9]) ?_ ⟨?_, rfl⟩
          · simp [frzL, frz, renL, ren, pdset]
          · unfold putA
            rw [if_pos ⟨h1, h2, by omega⟩]
            simp only [pdset, hk]
        · simp only [h1, h2, h3, lay, wk, iaddrV_map, emb, unAgg, ares, aresL, ares1, tupled, forall_const, Nat.reduceAdd, Nat.reduceSub, Nat.reduceMul, Nat.reduceLeDiff, Nat.reduceEqDiff, Nat.reduceBEq, Int.reduceLE, Int.reduceLT, Int.reduceEq, Int.reduceNe, Int.reduceAdd, Int.reduceSub, Int.reduceToNat, Int.reduceNeg, ↓reduceIte, reduceCtorEq, cellsOf, cellA, lay, fillA]
          refine CT_ok (index43_at ⟨d.id, 1, d.origin, d.quota, d.files⟩ _) ?_
          rintro _ _ ⟨rfl, rfl⟩
          simp only [cellD, aset, hk, lay, wk, iaddrV_map, emb, unAgg, ares, aresL, ares1, tupled, forall_const, Nat.reduceAdd, Nat.reduceSub, Nat.reduceMul, Nat.reduceLeDiff, Nat.reduceEqDiff, Nat.reduceBEq, Int.reduceLE, Int.reduceLT, Int.reduceEq, Int.reduceNe, Int.reduceAdd, Int.reduceSub, Int.reduceToNat, Int.reduceNeg, ↓reduceIte, reduceCtorEq, cellsOf, cellA, lay, fillA]
          rw [ht]
          refine CT_ok (clone_set y' s' (by rw [← ht]; exact hs') _) ?_
          rintro _ _ ⟨rfl, rfl⟩
          rw [← ht]
          simp only [cellD, aset, hk, lay, wk, iaddrV_map, emb, unAgg, ares, aresL, ares1, tupled, forall_const, Nat.reduceAdd, Nat.reduceSub, Nat.reduceMul, Nat.reduceLeDiff, Nat.reduceEqDiff, Nat.reduceBEq, Int.reduceLE, Int.reduceLT, Int.reduceEq, Int.reduceNe, Int.reduceAdd, Int.reduceSub, Int.reduceToNat, Int.reduceNeg, ↓reduceIte, reduceCtorEq, cellsOf, cellA, lay, fillA]
          refine ⟨by omega, KWk_frozen 1 [pdset ⟨d.id, 1, d.origin, d.quota, t⟩] rfl (.tuple [.fz [pdset ⟨d.id, 1, d.origin, d.quota, t⟩], .int .i64 0]) ?_ ⟨?_, rfl⟩⟩
          · simp [frzL, frz, renL, ren, pdset]
          · unfold putA
            rw [if_neg (fun h => h3 (by omega))]
            simp only [pdset, hk]
      · simp only [h1, h2, lay, wk, iaddrV_map, emb, unAgg, ares, aresL, ares1, tupled, forall_const, Nat.reduceAdd, Nat.reduceSub, Nat.reduceMul, Nat.reduceLeDiff, Nat.reduceEqDiff, Nat.reduceBEq, Int.reduceLE, Int.reduceLT, Int.reduceEq, Int.reduceNe, Int.reduceAdd, Int.reduceSub, Int.reduceToNat, Int.reduceNeg, ↓reduceIte, reduceCtorEq, cellsOf, cellA, lay, fillA]
        refine CT_ok (index43_at ⟨d.id, 1, d.origin, d.quota, d.files⟩ _) ?_
        rintro _ _ ⟨rfl, rfl⟩
        simp only [cellD, aset, hk, lay, wk, iaddrV_map, emb, unAgg, ares, aresL, ares1, tupled, forall_const, Nat.reduceAdd, Nat.reduceSub, Nat.reduceMul, Nat.reduceLeDiff, Nat.reduceEqDiff, Nat.reduceBEq, Int.reduceLE, Int.reduceLT, Int.reduceEq, Int.reduceNe, Int.reduceAdd, Int.reduceSub, Int.reduceToNat, Int.reduceNeg, ↓reduceIte, reduceCtorEq, cellsOf, cellA, lay, fillA]
        rw [ht]
        refine CT_ok (clone_set y' s' (by rw [← ht]; exact hs') _) ?_
        rintro _ _ ⟨rfl, rfl⟩
        rw [← ht]
        simp only [cellD, aset, hk, lay, wk, iaddrV_map, emb, unAgg, ares, aresL, ares1, tupled, forall_const, Nat.reduceAdd, Nat.reduceSub, Nat.reduceMul, Nat.reduceLeDiff, Nat.reduceEqDiff, Nat.reduceBEq, Int.reduceLE, Int.reduceLT, Int.reduceEq, Int.reduceNe, Int.reduceAdd, Int.reduceSub, Int.reduceToNat, Int.reduceNeg, ↓reduceIte, reduceCtorEq, cellsOf, cellA, lay, fillA]
        refine ⟨by omega, KWk_frozen 1 [pdset ⟨d.id, 1, d.origin, d.quota, t⟩] rfl (.tuple [.fz [pdset ⟨d.id, 1, d.origin, d.quota, t⟩], .int .i64 0]) ?_ ⟨?_, rfl⟩⟩
        · simp [frzL, frz, renL, ren, pdset]
        · unfold putA
          rw [if_neg (fun h => h2 h.2.1)]
          simp only [pdset, hk]
    · simp only [h1, lay, wk, iaddrV_map, emb, unAgg, ares, aresL, ares1, tupled, forall_const, Nat.reduceAdd, Nat.reduceSub, Nat.reduceMul, Nat.reduceLeDiff, Nat.reduceEqDiff, Nat.reduceBEq, Int.reduceLE, Int.reduceLT, Int.reduceEq, Int.reduceNe, Int.reduceAdd, Int.reduceSub, Int.reduceToNat, Int.reduceNeg, ↓reduceIte, reduceCtorEq, cellsOf, cellA, lay, fillA]
      refine CT_ok (index43_at ⟨d.id, 1, d.origin, d.quota, d.files⟩ _) ?_
      rintro _ _ ⟨rfl, rfl⟩
      simp only [cellD, aset, hk, lay, wk, iaddrV_map, emb, unAgg, ares, aresL, ares1, tupled, forall_const, Nat.reduceAdd, Nat.reduceSub, Nat.reduceMul, Nat.reduceLeDiff, Nat.reduceEqDiff, Nat.reduceBEq, Int.reduceLE, Int.reduceLT, Int.reduceEq, Int.reduceNe, Int.reduceAdd, Int.reduceSub, Int.reduceToNat, Int.reduceNeg, ↓reduceIte, reduceCtorEq, cellsOf, cellA, lay, fillA]
      rw [ht]
      refine CT_ok (clone_set y' s' (by rw [← ht]; exact hs') _) ?_
      rintro _ _ ⟨rfl, rfl⟩
      rw [← ht]
      simp only [cellD, aset, hk, lay, wk, iaddrV_map, emb, unAgg, ares, aresL, ares1, tupled, forall_const, Nat.reduceAdd, Nat.reduceSub, Nat.reduceMul, Nat.reduceLeDiff, Nat.reduceEqDiff, Nat.reduceBEq, Int.reduceLE, Int.reduceLT, Int.reduceEq, Int.reduceNe, Int.reduceAdd, Int.reduceSub, Int.reduceToNat, Int.reduceNeg, ↓reduceIte, reduceCtorEq, cellsOf, cellA, lay, fillA]
      refine ⟨by omega, KWk_frozen 1 [pdset ⟨d.id, 1, d.origin, d.quota, t⟩] rfl (.tuple [.fz [pdset ⟨d.id, 1, d.origin, d.quota, t⟩], .int .i64 0]) ?_ ⟨?_, rfl⟩⟩
      · simp [frzL, frz, renL, ren, pdset]
      · unfold putA
        rw [if_neg (fun h => h1 h.1)]
        simp only [pdset, hk]
end Go.Proofs.Ytemjlopoffjmpaa.Abs
/-
  A table of functions, to run them by themselves. Written by gentab.py.
-/
namespace Go.Proofs.Ytemjlopoffjmpaa.Abs
open Go
def tabBegun : List (Nat × FD) := [
  (8, ⟨0, 74, [.tmp 0], c8⟩),
  (10, ⟨0, 7, [.tmp 0], c10⟩),
  (14, ⟨1, 18, [.tmp 2], c14⟩),
  (15, ⟨3, 74, [.tmp 6, .tmp 7], c15⟩),
  (17, ⟨3, 54, [.tmp 6, .tmp 7], c17⟩),
  (18, ⟨4, 64, [.tmp 8, .tmp 9], c18⟩),
  (19, ⟨1, 18, [.tmp 2], c19⟩),
  (33, ⟨2, 24, [.tmp 4], c33⟩),
  (40, ⟨1, 7, [.tmp 2], c40⟩),
  (41, ⟨1, 7, [.tmp 2], c41⟩),
  (42, ⟨2, 17, [.cell 4 true 5, .tmp 5], c42⟩),
  (43, ⟨2, 17, [.tmp 4], c43⟩),
  (44, ⟨2, 6, [.tmp 3], c44⟩),
  (46, ⟨2, 53, [.tmp 4, .tmp 5, .tmp 6], c46⟩),
  (47, ⟨3, 30, [.tmp 6, .tmp 7], c47⟩),
  (48, ⟨1, 17, [.tmp 2, .tmp 3], c48⟩),
  (49, ⟨3, 21, [.tmp 6], c49⟩),
  (50, ⟨2, 24, [.tmp 4, .tmp 5], c50⟩),
  (51, ⟨2, 11, [.tmp 4], c51⟩),
  (52, ⟨1, 25, [.tmp 2], c52⟩),
  (56, ⟨2, 18, [.tmp 4, .tmp 5], c56⟩),
  (59, ⟨1, 22, [.tmp 2], c59⟩),
  (62, ⟨2, 6, [.tmp 4], c62⟩),
  (71, ⟨2, 79, [.tmp 4], c71⟩),
  (74, ⟨1, 45, [.tmp 2, .tmp 3], c74⟩),
  (75, ⟨2, 46, [.tmp 4, .tmp 5], c75⟩),
  (81, ⟨2, 17, [.tmp 4], c81⟩),
  (82, ⟨2, 6, [.tmp 3], c82⟩),
  (87, ⟨1, 56, [.tmp 2], c87⟩),
  (88, ⟨1, 15, [.tmp 2], c88⟩)]
theorem tabBegun_ok : ∀ p ∈ tabBegun, FnD Try.prog p.1 p.2.np p.2.nt p.2.res p.2.ac := by
  intro p hp
  simp only [tabBegun, List.mem_cons, List.not_mem_nil, or_false] at hp
  rcases hp with rfl | rfl | rfl | rfl | rfl | rfl | rfl | rfl | rfl | rfl | rfl | rfl | rfl | rfl | rfl | rfl | rfl | rfl | rfl | rfl | rfl | rfl | rfl | rfl | rfl | rfl | rfl | rfl | rfl | rfl
  · exact d8
  · exact d10
  · exact d14
  · exact d15
  · exact d17
  · exact d18
  · exact d19
  · exact d33
  · exact d40
  · exact d41
  · exact d42
  · exact d43
  · exact d44
  · exact d46
  · exact d47
  · exact d48
  · exact d49
  · exact d50
  · exact d51
  · exact d52
  · exact d56
  · exact d59
  · exact d62
  · exact d71
  · exact d74
  · exact d75
  · exact d81
  · exact d82
  · exact d87
  · exact d88
end Go.Proofs.Ytemjlopoffjmpaa.Abs
set_option linter.unusedSimpArgs false
set_option linter.unusedVariables false
namespace Go.Proofs.Ytemjlopoffjmpaa.Abs
open Go

def orcL : CallF := fun f args H =>
  if f = 39 then
    match args with
    | [.str b] => some (.int .i64 (countA b), H)
    | _ => none
  else orcC f args H
theorem orcL_ok : EvOk Try.prog orcL := by
  intro f args H x H' h
  unfold orcL at h
  split at h
  · rename_i hf
    subst hf
    split at h
    · cases h
      exact parts_spec _ H
    · cases h
  · exact orcC_ok f args H x H' h
def fzB (f : Nat) : Bool := f == 10 || f == 49 || f == 41 || f == 15 || f == 74 || f == 71
theorem evB_ok : EvOk Try.prog (evF tabBegun orcL fzB 40 40) := evF_ok tabBegun_ok orcL_ok fzB 40 40

/-- Parts of "new". -/
def mNew : Memo := ⟨74, [.str [110, 101, 119]], .tuple [.fz [[.str [110, 101, 119]]], .bool true]⟩
theorem mNew_so : mNew.so Try.prog := Memo.of evB_ok mNew (by kernel_rfl)
/-- begun of law 19 -/
def mBegun : Memo := ⟨8, [], .bool true⟩
theorem mBegun_so : mBegun.so Try.prog := Memo.of evB_ok mBegun (by kernel_rfl)
end Go.Proofs.Ytemjlopoffjmpaa.Abs
set_option linter.unusedSimpArgs false
set_option linter.unusedVariables false
namespace Go.Proofs.Ytemjlopoffjmpaa.Abs
open Go Go.Proofs

theorem put_one (d : Dset) (y : Node) (s : List Node) (hd : d.files = y :: s) (hs : d.files.length ≤ 1000000) (hk : d.kind = 1) (t : List Node) (y' : Node) (s' : List Node) (ht : t = y' :: s') (hs' : t.length ≤ 1000000) (H : AH) :
    C Try.prog 15 [.fz [pdset d], .int .i64 d.id, aset t] H (fun x H' => x = putA d t ∧ H' = H) :=
  C_pure (K0 := fun x => x = putA d t) (put_one0 d y s hd hs hk t y' s' ht hs') (fun τ => renL_bare τ _ (by simp [bareL, bare, aset])) (by rintro x rfl τ; unfold putA; split <;> exact ren_bare τ _ (by simp [bare, bareL])) H

theorem Wf.cons {s : List Node} (h : Wf s) : ∃ y r, s = y :: r := by
  cases s with
  | nil => have := h.len; simp at this
  | cons y r => exact ⟨y, r, rfl⟩

theorem Wk_froz1 {fr fr' : List AV} {o : AObj} {es : List (List PV)} {G : AH} (ho1 : o.map (frzL 1 es) = o) (ho2 : o.map (renL (upTo 1)) = o) (h : Tops fr' (renL (upTo 1) (frzL 1 es fr))) : Wk 0 fr (some o :: some (es.map fun e => e.map emb) :: G) fr' [some o] := by
  have h1 := (Wk_freeze (n0 := 0) (fr := fr) (H := some o :: some (es.map fun e => e.map emb) :: G) 1 es rfl).trans ((Wk_forget 1 (Nat.zero_le _)).trans (Wk_tops h))
  have e : mapH (renL (upTo 1)) ((mapH (frzL 1 es) ((some o :: some (es.map fun e => e.map emb) :: G).set 1 none)).take 1) = [some o] := by
    simp only [List.set_cons_succ, List.set_cons_zero, mapH, List.map_cons, Option.map_some, List.take_succ_cons, List.take_zero, List.map_nil, ho1, ho2]
  rwa [e] at h1

theorem iaddr_lit (H : AH) (k : IntKind) (a b c d e : PV) : iaddrV H 5 (.fz [[a, b, c, d, e]]) (.int k 0) = some (.fptr [a, b, c, d, e]) := by
  simp [iaddrV]
section
variable {c : Nat} {late : List Loc → List Loc → Prop} {K : List Nat → Nat → AV → AH → Prop} {t : Tag K}
theorem CFT_edit (l : List UInt8) (n i : Int) (hn : 0 ≤ n) (hl : l.length ≤ 1000000) {R : AH} (hc : 0 < c ∧ c ≤ R.length + 1) (hlate : late [.con 0] [.con 0, .len 0])
    (hk : ∀ (k i m n' : Int) (p q t : List UInt8), p.length ≤ 1000000 → q.length ≤ 1000000 → t.length ≤ 1000000 → n ≤ n' → K [0] c (editA k i m p q t) (some [[.fz (l.map pbyte), .int .i64 n']] :: R)) :
    CFT Try.prog 13 [.ptr 0 0 0 1, .int .i64 i] c (some [[.fz (l.map pbyte), .int .i64 n]] :: R) late K t := by
  refine CFT_ok [0] 0 (edit_spec l n i hn hl) (by simp; omega) hlate ?_
  rintro _ _ ⟨k, i, m, n', p, q, t, hp, hq, ht, hn', rfl, rfl⟩
  have := hk k i m n' p q t hp hq ht hn'
  refine ⟨by simp [picksH], ?_⟩
  simpa [setAll, picksH, renO, renL, ren, editA] using this
end
theorem one_1 : (!decide (((1 : Nat) : Int) = 1)) = false := rfl
/-- How the law's list of one set stands. -/
def qset (q : Int) (s : List Node) : Dset := ⟨1, 1, 0, q, s⟩
theorem acctQuota_spec (l : List UInt8) (c : Int) : C Try.prog 3 [.fz (l.map pbyte), .int .u8 c] [] (fun x _ => x = .bool true) := by
  refine C_body d3 rfl (WT_ok ?_)
  unfold c3
  simp only [wk3, onStO, bareL, toCl, chunks, wk, iaddrV_map, emb, unAgg, ares, aresL, ares1, tupled, forall_const, Nat.reduceAdd, Nat.reduceSub, Nat.reduceMul, Nat.reduceLeDiff, Nat.reduceEqDiff, Nat.reduceBEq, Int.reduceLE, Int.reduceLT, Int.reduceEq, Int.reduceNe, Int.reduceAdd, Int.reduceSub, Int.reduceToNat, Int.reduceNeg, ↓reduceIte, reduceCtorEq, cellsOf, cellA, lay, fillA]
  refine CT_ok (Memo.any mBegun_so []) ?_
  rintro _ _ ⟨rfl, rfl⟩
  simp only [mBegun, wk3, onStO, bareL, toCl, chunks, wk, iaddrV_map, emb, unAgg, ares, aresL, ares1, tupled, forall_const, Nat.reduceAdd, Nat.reduceSub, Nat.reduceMul, Nat.reduceLeDiff, Nat.reduceEqDiff, Nat.reduceBEq, Int.reduceLE, Int.reduceLT, Int.reduceEq, Int.reduceNe, Int.reduceAdd, Int.reduceSub, Int.reduceToNat, Int.reduceNeg, ↓reduceIte, reduceCtorEq, cellsOf, cellA, lay, fillA]
  by_cases h1 : (150 : Int) < l.length
  · simp only [h1, wk3, onStO, bareL, toCl, chunks, wk, iaddrV_map, emb, unAgg, ares, aresL, ares1, tupled, forall_const, Nat.reduceAdd, Nat.reduceSub, Nat.reduceMul, Nat.reduceLeDiff, Nat.reduceEqDiff, Nat.reduceBEq, Int.reduceLE, Int.reduceLT, Int.reduceEq, Int.reduceNe, Int.reduceAdd, Int.reduceSub, Int.reduceToNat, Int.reduceNeg, ↓reduceIte, reduceCtorEq, cellsOf, cellA, lay, fillA]
  simp only [h1, wk3, onStO, bareL, toCl, chunks, wk, iaddrV_map, emb, unAgg, ares, aresL, ares1, tupled, forall_const, Nat.reduceAdd, Nat.reduceSub, Nat.reduceMul, Nat.reduceLeDiff, Nat.reduceEqDiff, Nat.reduceBEq, Int.reduceLE, Int.reduceLT, Int.reduceEq, Int.reduceNe, Int.reduceAdd, Int.reduceSub, Int.reduceToNat, Int.reduceNeg, ↓reduceIte, reduceCtorEq, cellsOf, cellA, lay, fillA]
  refine CT_ok (made_spec l) ?_
  rintro _ _ ⟨rfl, rfl⟩
  simp only [wk3, onStO, bareL, toCl, chunks, wk, iaddrV_map, emb, unAgg, ares, aresL, ares1, tupled, forall_const, Nat.reduceAdd, Nat.reduceSub, Nat.reduceMul, Nat.reduceLeDiff, Nat.reduceEqDiff, Nat.reduceBEq, Int.reduceLE, Int.reduceLT, Int.reduceEq, Int.reduceNe, Int.reduceAdd, Int.reduceSub, Int.reduceToNat, Int.reduceNeg, ↓reduceIte, reduceCtorEq, cellsOf, cellA, lay, fillA]
  refine CT_ok (new_spec _) ?_
  rintro _ _ ⟨rfl, rfl⟩
  simp only [picksH, aset, wk3, onStO, bareL, toCl, chunks, wk, iaddrV_map, emb, unAgg, ares, aresL, ares1, tupled, forall_const, Nat.reduceAdd, Nat.reduceSub, Nat.reduceMul, Nat.reduceLeDiff, Nat.reduceEqDiff, Nat.reduceBEq, Int.reduceLE, Int.reduceLT, Int.reduceEq, Int.reduceNe, Int.reduceAdd, Int.reduceSub, Int.reduceToNat, Int.reduceNeg, ↓reduceIte, reduceCtorEq, cellsOf, cellA, lay, fillA]
  generalize IntKind.i64.wrap (c.tmod 9) = q
  refine WT_loop (W_wk (fr' := [.fz (l.map pbyte), .int .u8 c, .top, .top, .bool false, .int .i64 q, .ptr 0 0 0 1, .fz [pdset (qset q newA)], .int .i64 0] ++ List.replicate 92 .top) (Wk_froz1 (es := [pdset (qset q newA)]) ?_ ?_ ?_) (W_loop (fun n fr H' => ∃ (k : Nat) (n' : Int) (s : List Node), k ≤ 40 ∧ n = 40 - k ∧ 0 ≤ n' ∧ Wf s ∧ (0 < q → (used s : Int) ≤ q) ∧ H' = [some [[.fz (l.map pbyte), .int .i64 n']]] ∧
    fr = [.fz (l.map pbyte), .int .u8 c, .top, .top, .bool false, .int .i64 q, .ptr 0 0 0 1, .fz [pdset (qset q s)], .int .i64 k] ++ List.replicate 92 .top) 40 ⟨0, 0, newA, by omega, rfl, by omega, newA_wf, fun h => by show (0 : Int) ≤ q; omega, rfl, rfl⟩ ?_))
  · simp [frzL, frz]
  · simp [renL, ren]
  · simp [frzL, frz, renL, ren, upTo, Tops_top, Tops_same, Tops_nil]
  rintro n fr H' ⟨k, n', s, hk, rfl, hn', hw, hq, rfl, rfl⟩
  refine WT_ok ?_
  simp only [wk3, onStO, bareL, toCl, chunks, wk, iaddrV_map, emb, unAgg, ares, aresL, ares1, tupled, forall_const, Nat.reduceAdd, Nat.reduceSub, Nat.reduceMul, Nat.reduceLeDiff, Nat.reduceEqDiff, Nat.reduceBEq, Int.reduceLE, Int.reduceLT, Int.reduceEq, Int.reduceNe, Int.reduceAdd, Int.reduceSub, Int.reduceToNat, Int.reduceNeg, ↓reduceIte, reduceCtorEq, cellsOf, cellA, lay, fillA]
  by_cases h2 : (k : Int) < 40
  · simp only [h2, wk3, onStO, bareL, toCl, chunks, wk, iaddrV_map, emb, unAgg, ares, aresL, ares1, tupled, forall_const, Nat.reduceAdd, Nat.reduceSub, Nat.reduceMul, Nat.reduceLeDiff, Nat.reduceEqDiff, Nat.reduceBEq, Int.reduceLE, Int.reduceLT, Int.reduceEq, Int.reduceNe, Int.reduceAdd, Int.reduceSub, Int.reduceToNat, Int.reduceNeg, ↓reduceIte, reduceCtorEq, cellsOf, cellA, lay, fillA]
    refine CT_ok (over_spec (l.map pbyte) n') ?_
    rintro _ _ ⟨rfl, rfl⟩
    simp only [h2, wk3, onStO, bareL, toCl, chunks, wk, iaddrV_map, emb, unAgg, ares, aresL, ares1, tupled, forall_const, Nat.reduceAdd, Nat.reduceSub, Nat.reduceMul, Nat.reduceLeDiff, Nat.reduceEqDiff, Nat.reduceBEq, Int.reduceLE, Int.reduceLT, Int.reduceEq, Int.reduceNe, Int.reduceAdd, Int.reduceSub, Int.reduceToNat, Int.reduceNeg, ↓reduceIte, reduceCtorEq, cellsOf, cellA, lay, fillA]
    refine guard_both ?_ ?_ <;> intro h3 <;> simp only [hy] at h3
    · simp only [h2, h3, wk3, onStO, bareL, toCl, chunks, wk, iaddrV_map, emb, unAgg, ares, aresL, ares1, tupled, forall_const, Nat.reduceAdd, Nat.reduceSub, Nat.reduceMul, Nat.reduceLeDiff, Nat.reduceEqDiff, Nat.reduceBEq, Int.reduceLE, Int.reduceLT, Int.reduceEq, Int.reduceNe, Int.reduceAdd, Int.reduceSub, Int.reduceToNat, Int.reduceNeg, ↓reduceIte, reduceCtorEq, cellsOf, cellA, lay, fillA]
      refine WT_drawE ?_
      refine WDT_more 0 ?_
      simp only [qset, pdset, iaddr_lit, lay, wk3, onStO, bareL, toCl, chunks, wk, iaddrV_map, emb, unAgg, ares, aresL, ares1, tupled, forall_const, Nat.reduceAdd, Nat.reduceSub, Nat.reduceMul, Nat.reduceLeDiff, Nat.reduceEqDiff, Nat.reduceBEq, Int.reduceLE, Int.reduceLT, Int.reduceEq, Int.reduceNe, Int.reduceAdd, Int.reduceSub, Int.reduceToNat, Int.reduceNeg, ↓reduceIte, reduceCtorEq, cellsOf, cellA, lay, fillA]
      refine CFT_edit l n' 1 hn' (by omega) (by simp) ⟨by rfl, by rfl⟩ ?_
      intro ek ei em n2 ep eq et hp hq2 ht hn2
      simp only [editA, lay, wk3, onStO, bareL, toCl, chunks, wk, iaddrV_map, emb, unAgg, ares, aresL, ares1, tupled, forall_const, Nat.reduceAdd, Nat.reduceSub, Nat.reduceMul, Nat.reduceLeDiff, Nat.reduceEqDiff, Nat.reduceBEq, Int.reduceLE, Int.reduceLT, Int.reduceEq, Int.reduceNe, Int.reduceAdd, Int.reduceSub, Int.reduceToNat, Int.reduceNeg, ↓reduceIte, reduceCtorEq, cellsOf, cellA, lay, fillA]
      refine ⟨by rfl, ?_⟩
      refine CT_ok (done_spec s hw ek ei em 0 0 ep eq et hp hq2 ht _) ?_
      rintro _ _ ⟨rfl, u, er, hu, rfl⟩
      simp only [aset, lay, wk3, onStO, bareL, toCl, chunks, wk, iaddrV_map, emb, unAgg, ares, aresL, ares1, tupled, forall_const, Nat.reduceAdd, Nat.reduceSub, Nat.reduceMul, Nat.reduceLeDiff, Nat.reduceEqDiff, Nat.reduceBEq, Int.reduceLE, Int.reduceLT, Int.reduceEq, Int.reduceNe, Int.reduceAdd, Int.reduceSub, Int.reduceToNat, Int.reduceNeg, ↓reduceIte, reduceCtorEq, cellsOf, cellA, lay, fillA]
      refine WDT_more 0 ?_
      simp only [lay, wk3, onStO, bareL, toCl, chunks, wk, iaddrV_map, emb, unAgg, ares, aresL, ares1, tupled, forall_const, Nat.reduceAdd, Nat.reduceSub, Nat.reduceMul, Nat.reduceLeDiff, Nat.reduceEqDiff, Nat.reduceBEq, Int.reduceLE, Int.reduceLT, Int.reduceEq, Int.reduceNe, Int.reduceAdd, Int.reduceSub, Int.reduceToNat, Int.reduceNeg, ↓reduceIte, reduceCtorEq, cellsOf, cellA, lay, fillA]
      refine ⟨by rfl, guard_both ?_ ?_⟩ <;> intro h4 <;> simp only [hy] at h4
      · have w2 : IntKind.i64.wrap ((k : Int) + 1) = ((k + 1 : Nat) : Int) := by rw [IntWalk.i64_in _ (by omega)]; omega
        simp only [h4, w2, wk3, onStO, bareL, toCl, chunks, wk, iaddrV_map, emb, unAgg, ares, aresL, ares1, tupled, forall_const, Nat.reduceAdd, Nat.reduceSub, Nat.reduceMul, Nat.reduceLeDiff, Nat.reduceEqDiff, Nat.reduceBEq, Int.reduceLE, Int.reduceLT, Int.reduceEq, Int.reduceNe, Int.reduceAdd, Int.reduceSub, Int.reduceToNat, Int.reduceNeg, ↓reduceIte, reduceCtorEq, cellsOf, cellA, lay, fillA]
        refine QLoop_go (n' := 40 - (k + 1 : Nat)) (by omega) ⟨k + 1, n2, s, by omega, rfl, by omega, hw, hq, rfl, rfl⟩ ?_
        simp only [qset, pdset, aset, Int.natCast_add, Int.cast_ofNat_Int, List.replicate_succ, List.replicate_zero, List.cons_append, List.nil_append, Tops_top, Tops_same, Tops_nil]
      · obtain ⟨y, r, hyr⟩ := hw.cons
        obtain ⟨y', r', hyr'⟩ := hu.cons
        simp only [h4, qset, pdset, iaddr_lit, lay, wk3, onStO, bareL, toCl, chunks, wk, iaddrV_map, emb, unAgg, ares, aresL, ares1, tupled, forall_const, Nat.reduceAdd, Nat.reduceSub, Nat.reduceMul, Nat.reduceLeDiff, Nat.reduceEqDiff, Nat.reduceBEq, Int.reduceLE, Int.reduceLT, Int.reduceEq, Int.reduceNe, Int.reduceAdd, Int.reduceSub, Int.reduceToNat, Int.reduceNeg, ↓reduceIte, reduceCtorEq, cellsOf, cellA, lay, fillA]
        refine CT_ok (Used_spec s (by have := hw.len; omega) _) ?_
        rintro _ _ ⟨rfl, rfl⟩
        simp only [lay, wk3, onStO, bareL, toCl, chunks, wk, iaddrV_map, emb, unAgg, ares, aresL, ares1, tupled, forall_const, Nat.reduceAdd, Nat.reduceSub, Nat.reduceMul, Nat.reduceLeDiff, Nat.reduceEqDiff, Nat.reduceBEq, Int.reduceLE, Int.reduceLT, Int.reduceEq, Int.reduceNe, Int.reduceAdd, Int.reduceSub, Int.reduceToNat, Int.reduceNeg, ↓reduceIte, reduceCtorEq, cellsOf, cellA, lay, fillA]
        refine CT_ok (put_one (qset q s) y r hyr (by have := hw.len; simp [qset]; omega) rfl u y' r' hyr' (by have := hu.len; omega) _) ?_
        rintro _ _ ⟨rfl, rfl⟩
        by_cases hp : 0 < q ∧ q < used u ∧ used s < used u
        · have w2 : IntKind.i64.wrap ((k : Int) + 1) = ((k + 1 : Nat) : Int) := by rw [IntWalk.i64_in _ (by omega)]; omega
          have q0 : ¬ q = 0 := by omega
          have q1 : ¬ (used u : Int) ≤ q := by omega
          have q2 : ¬ (used u : Int) ≤ (used s : Int) := by omega
          have q3 : ¬ q < (used s : Int) := by have := hq hp.1; omega
          simp only [putA, qset, hp, pdset, one_1, w2, and_self, if_true, lay, wk3, onStO, bareL, toCl, chunks, wk, iaddrV_map, emb, unAgg, ares, aresL, ares1, tupled, forall_const, Nat.reduceAdd, Nat.reduceSub, Nat.reduceMul, Nat.reduceLeDiff, Nat.reduceEqDiff, Nat.reduceBEq, Int.reduceLE, Int.reduceLT, Int.reduceEq, Int.reduceNe, Int.reduceAdd, Int.reduceSub, Int.reduceToNat, Int.reduceNeg, ↓reduceIte, reduceCtorEq, cellsOf, cellA, lay, fillA]
          simp only [q0, lay, wk3, onStO, bareL, toCl, chunks, wk, iaddrV_map, emb, unAgg, ares, aresL, ares1, tupled, forall_const, Nat.reduceAdd, Nat.reduceSub, Nat.reduceMul, Nat.reduceLeDiff, Nat.reduceEqDiff, Nat.reduceBEq, Int.reduceLE, Int.reduceLT, Int.reduceEq, Int.reduceNe, Int.reduceAdd, Int.reduceSub, Int.reduceToNat, Int.reduceNeg, ↓reduceIte, reduceCtorEq, cellsOf, cellA, lay, fillA]
          refine CT_ok (Used_spec u (by have := hu.len; omega) _) ?_
          rintro _ _ ⟨rfl, rfl⟩
          simp only [q1, lay, wk3, onStO, bareL, toCl, chunks, wk, iaddrV_map, emb, unAgg, ares, aresL, ares1, tupled, forall_const, Nat.reduceAdd, Nat.reduceSub, Nat.reduceMul, Nat.reduceLeDiff, Nat.reduceEqDiff, Nat.reduceBEq, Int.reduceLE, Int.reduceLT, Int.reduceEq, Int.reduceNe, Int.reduceAdd, Int.reduceSub, Int.reduceToNat, Int.reduceNeg, ↓reduceIte, reduceCtorEq, cellsOf, cellA, lay, fillA]
          refine CT_ok (Used_spec u (by have := hu.len; omega) _) ?_
          rintro _ _ ⟨rfl, rfl⟩
          simp only [q2, iaddr_lit, lay, wk3, onStO, bareL, toCl, chunks, wk, iaddrV_map, emb, unAgg, ares, aresL, ares1, tupled, forall_const, Nat.reduceAdd, Nat.reduceSub, Nat.reduceMul, Nat.reduceLeDiff, Nat.reduceEqDiff, Nat.reduceBEq, Int.reduceLE, Int.reduceLT, Int.reduceEq, Int.reduceNe, Int.reduceAdd, Int.reduceSub, Int.reduceToNat, Int.reduceNeg, ↓reduceIte, reduceCtorEq, cellsOf, cellA, lay, fillA]
          refine CT_ok (Used_spec s (by have := hw.len; omega) _) ?_
          rintro _ _ ⟨rfl, rfl⟩
          have q4 : decide (0 < q) = true := by simp [hp.1]
          simp only [q4, q3, w2, lay, wk3, onStO, bareL, toCl, chunks, wk, iaddrV_map, emb, unAgg, ares, aresL, ares1, tupled, forall_const, Nat.reduceAdd, Nat.reduceSub, Nat.reduceMul, Nat.reduceLeDiff, Nat.reduceEqDiff, Nat.reduceBEq, Int.reduceLE, Int.reduceLT, Int.reduceEq, Int.reduceNe, Int.reduceAdd, Int.reduceSub, Int.reduceToNat, Int.reduceNeg, ↓reduceIte, reduceCtorEq, cellsOf, cellA, lay, fillA]
          refine QLoop_go (n' := 40 - (k + 1 : Nat)) (by omega) ⟨k + 1, n2, s, by omega, rfl, by omega, hw, hq, rfl, rfl⟩ ?_
          simp only [qset, pdset, aset, Int.natCast_add, Int.cast_ofNat_Int, List.replicate_succ, List.replicate_zero, List.cons_append, List.nil_append, Tops_top, Tops_same, Tops_nil]
        · have w2 : IntKind.i64.wrap ((k : Int) + 1) = ((k + 1 : Nat) : Int) := by rw [IntWalk.i64_in _ (by omega)]; omega
          have q3 : 0 < q → (used u : Int) ≤ q := fun h => by have := hq h; omega
          simp only [putA, qset, hp, pdset, one_1, if_false, iaddr_lit, lay, wk3, onStO, bareL, toCl, chunks, wk, iaddrV_map, emb, unAgg, ares, aresL, ares1, tupled, forall_const, Nat.reduceAdd, Nat.reduceSub, Nat.reduceMul, Nat.reduceLeDiff, Nat.reduceEqDiff, Nat.reduceBEq, Int.reduceLE, Int.reduceLT, Int.reduceEq, Int.reduceNe, Int.reduceAdd, Int.reduceSub, Int.reduceToNat, Int.reduceNeg, ↓reduceIte, reduceCtorEq, cellsOf, cellA, lay, fillA]
          refine CT_ok (Used_spec u (by have := hu.len; omega) _) ?_
          rintro _ _ ⟨rfl, rfl⟩
          by_cases q5 : 0 < q
          · have q4 : decide (0 < q) = true := by simp [q5]
            have q6 : ¬ q < (used u : Int) := by have := q3 q5; omega
            simp only [q4, q6, w2, lay, wk3, onStO, bareL, toCl, chunks, wk, iaddrV_map, emb, unAgg, ares, aresL, ares1, tupled, forall_const, Nat.reduceAdd, Nat.reduceSub, Nat.reduceMul, Nat.reduceLeDiff, Nat.reduceEqDiff, Nat.reduceBEq, Int.reduceLE, Int.reduceLT, Int.reduceEq, Int.reduceNe, Int.reduceAdd, Int.reduceSub, Int.reduceToNat, Int.reduceNeg, ↓reduceIte, reduceCtorEq, cellsOf, cellA, lay, fillA]
            refine QLoop_go (n' := 40 - (k + 1 : Nat)) (by omega) ⟨k + 1, n2, u, by omega, rfl, by omega, hu, q3, rfl, rfl⟩ ?_
            simp only [qset, pdset, aset, Int.natCast_add, Int.cast_ofNat_Int, List.replicate_succ, List.replicate_zero, List.cons_append, List.nil_append, Tops_top, Tops_same, Tops_nil]
          · have q4 : decide (0 < q) = false := by simp [q5]
            simp only [q4, w2, lay, wk3, onStO, bareL, toCl, chunks, wk, iaddrV_map, emb, unAgg, ares, aresL, ares1, tupled, forall_const, Nat.reduceAdd, Nat.reduceSub, Nat.reduceMul, Nat.reduceLeDiff, Nat.reduceEqDiff, Nat.reduceBEq, Int.reduceLE, Int.reduceLT, Int.reduceEq, Int.reduceNe, Int.reduceAdd, Int.reduceSub, Int.reduceToNat, Int.reduceNeg, ↓reduceIte, reduceCtorEq, cellsOf, cellA, lay, fillA]
            refine QLoop_go (n' := 40 - (k + 1 : Nat)) (by omega) ⟨k + 1, n2, u, by omega, rfl, by omega, hu, q3, rfl, rfl⟩ ?_
            simp only [qset, pdset, aset, Int.natCast_add, Int.cast_ofNat_Int, List.replicate_succ, List.replicate_zero, List.cons_append, List.nil_append, Tops_top, Tops_same, Tops_nil]
    · simp only [h2, h3, wk3, onStO, bareL, toCl, chunks, wk, iaddrV_map, emb, unAgg, ares, aresL, ares1, tupled, forall_const, Nat.reduceAdd, Nat.reduceSub, Nat.reduceMul, Nat.reduceLeDiff, Nat.reduceEqDiff, Nat.reduceBEq, Int.reduceLE, Int.reduceLT, Int.reduceEq, Int.reduceNe, Int.reduceAdd, Int.reduceSub, Int.reduceToNat, Int.reduceNeg, ↓reduceIte, reduceCtorEq, cellsOf, cellA, lay, fillA]
  · simp only [h2, wk3, onStO, bareL, toCl, chunks, wk, iaddrV_map, emb, unAgg, ares, aresL, ares1, tupled, forall_const, Nat.reduceAdd, Nat.reduceSub, Nat.reduceMul, Nat.reduceLeDiff, Nat.reduceEqDiff, Nat.reduceBEq, Int.reduceLE, Int.reduceLT, Int.reduceEq, Int.reduceNe, Int.reduceAdd, Int.reduceSub, Int.reduceToNat, Int.reduceNeg, ↓reduceIte, reduceCtorEq, cellsOf, cellA, lay, fillA]
end Go.Proofs.Ytemjlopoffjmpaa.Abs
set_option linter.unusedSimpArgs false
set_option linter.unusedVariables false
namespace Go.Proofs.Ytemjlopoffjmpaa.Abs
open Go Go.Proofs

/-- A row of bytes that came in. -/
theorem rep_row {w : World} {a : Option Addr} {len cap : Nat} {zs : List Int}
    (h : (a = none ∧ len = 0 ∧ cap = 0 ∧ zs = []) ∨ ∃ x, a = some x ∧ len ≤ cap ∧ cap ≤ maxLen ∧ zs.length = cap ∧ (∀ i, i < zs.length → w.cell? (x.add i) = some (.int .u8 (zs.getD i 0))) ∧ ∀ n ∈ zs, (Lit.int .u8 n).wf = true) :
    ∃ l : List UInt8, Rep (E0 w) (.fz (l.map pbyte)) (.slice a len cap) := by
  rcases h with ⟨rfl, rfl, rfl, rfl⟩ | ⟨x, rfl, hl, hm, hz, hcell, hwf⟩
  · exact ⟨[], .pure (x := .fz []) (.fz0 _ _)⟩
  · by_cases h0 : len = 0
    · subst h0
      exact ⟨[], .pure (x := .fz []) (.fz0 _ _)⟩
    · have hc0 := hcell 0 (by omega)
      obtain ⟨b, off, spot⟩ := x
      simp only [Addr.add, if_true, World.cell?] at hc0
      cases hb : w.heap[b]? with
      | none => rw [hb] at hc0; cases hc0
      | some o =>
        rw [hb] at hc0
        cases o with
        | cells c t q =>
          simp only at hc0
          split at hc0
          · cases hc0
          · rename_i hsp
            have hsp2 : spot = none := by cases spot with
              | none => rfl
              | some _ => simp at hsp
            subst hsp2
            have hci : ∀ i, i < zs.length → c[off + i]? = some (.int .u8 (zs.getD i 0)) := by
              intro i hi
              have := hcell i hi
              unfold Addr.add at this
              split at this
              · rename_i e; subst e; simpa [World.cell?, hb] using this
              · simpa [World.cell?, hb] using this
            refine ⟨(zs.take len).map fun n => UInt8.ofNat n.toNat, ?_⟩
            have hlen : (((zs.take len).map fun n => UInt8.ofNat n.toNat).map pbyte).length = len := by simp; omega
            have key := RepP.fz (F := (E0 w).F) (((zs.take len).map fun n => UInt8.ofNat n.toNat).map pbyte) b off cap 1 c t q hb (by rw [hlen]; exact hl) (by
              intro e he
              obtain ⟨y, _, rfl⟩ := List.mem_map.1 he
              rfl) (by
              rw [hlen]
              have h1 := hci (len - 1) (by omega)
              have : off + (len - 1) < c.size := by
                apply Classical.byContradiction
                intro h
                rw [Array.getElem?_eq_none (by omega)] at h1
                cases h1
              omega) (by
              intro i e k cc v he hk hv
              rw [List.map_map, List.getElem?_map] at he
              have hi : i < (zs.take len).length := by
                apply Classical.byContradiction
                intro h
                rw [List.getElem?_eq_none (by omega)] at he
                cases he
              rw [List.getElem?_eq_getElem hi] at he
              simp only [Option.map_some, Option.some.injEq, Function.comp] at he
              subst he
              have hk0 : k = 0 := by
                apply Classical.byContradiction
                intro h
                rw [List.getElem?_eq_none (by simp [pbyte]; omega)] at hk
                cases hk
              subst hk0
              simp only [pbyte, List.getElem?_cons_zero, Option.some.injEq] at hk
              subst hk
              rw [List.length_take] at hi
              rw [Nat.mul_one, Nat.add_zero, hci i (by omega)] at hv
              cases hv
              have hg : zs.getD i 0 = (zs.take len)[i]'(by rw [List.length_take]; exact hi) := by
                rw [List.getElem_take, List.getD_eq_getElem?_getD, List.getElem?_eq_getElem (by omega), Option.getD_some]
              rw [hg]
              have hw := hwf ((zs.take len)[i]'(by rw [List.length_take]; exact hi)) (List.mem_of_mem_take (List.getElem_mem _))
              generalize (zs.take len)[i]'(by rw [List.length_take]; exact hi) = n at hw
              have hn : 0 ≤ n ∧ n < 256 := by
                have := hw; simp [Lit.wf, IntKind.min, IntKind.max, IntKind.bits, IntKind.signed] at this; omega
              have : ((UInt8.ofNat n.toNat).toNat : Int) = n := by
                rw [UInt8.toNat_ofNat']
                omega
              rw [this]
              exact .int _ _)
            rw [hlen] at key
            exact .pure (x := .fz _) key
        | _ => simp at hc0
theorem repL_one {E : Env} {x : AV} {v : Value} (h : Rep E x v) : RepL E [x] #[v] := by
  refine ⟨rfl, fun i c u hc hu => ?_⟩
  match i, hc, hu with
  | 0, hc, hu => simp at hc hu; subst hc; subst hu; exact h
  | i + 1, hc, _ => simp at hc
theorem repL_two {E : Env} {x y : AV} {v u : Value} (h : Rep E x v) (h' : Rep E y u) : RepL E [x, y] #[v, u] := (repL_one h).append (repL_one h')
end Go.Proofs.Ytemjlopoffjmpaa.Abs
