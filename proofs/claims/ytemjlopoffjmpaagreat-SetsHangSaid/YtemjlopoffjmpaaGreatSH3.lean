/-
  Part 3 of the proof: no condition. (Parts of the abstract layer, of the program's functions in its form, and of their contracts.)
-/
import Derived.Test.YtemjlopoffjmpaaGreatSHWk
import Derived.Test.YtemjlopoffjmpaaGreatSHWk3
import Derived.Test.YtemjlopoffjmpaaGreatSH1
import Derived.Test.YtemjlopoffjmpaaGreatSH2
import Derived.Test.YtemjlopoffjmpaaGreatSHAbs22
import Derived.Test.YtemjlopoffjmpaaGreatProg
import Derived.KernelRfl
import Derived.Test.YtemjlopoffjmpaaGreatSHAbs39
set_option linter.unusedSimpArgs false
set_option linter.unusedVariables false
namespace Go.Proofs.YtemjlopoffjmpaaGreat.Abs
open Go Go.Proofs

theorem rankN_mono {α : Type} (r : α → Nat) (a b : Nat) (hab : a < b) : ∀ (l : List α), (∃ j ∈ l, r j = a) → l.countP (fun j => decide (r j < a)) < l.countP (fun j => decide (r j < b)) := by
  intro l
  induction l with
  | nil => rintro ⟨j, hj, _⟩; cases hj
  | cons x l ih =>
    rintro ⟨j, hj, e⟩
    have le : l.countP (fun j => decide (r j < a)) ≤ l.countP (fun j => decide (r j < b)) := List.countP_mono_left (fun y _ h => by simp at h ⊢; omega)
    rw [List.countP_cons, List.countP_cons]
    rcases List.mem_cons.1 hj with rfl | hj
    · rw [if_neg (by simp; omega), if_pos (by simp; omega)]; omega
    · have := ih ⟨j, hj, e⟩
      by_cases h1 : r x < a
      · rw [if_pos (by simpa using h1), if_pos (by simp; omega)]; omega
      · rw [if_neg (by simpa using h1)]; omega
/-- So many steps by origins lead out. -/
theorem MayL.out {l : List Dset} (h : MayL l) {d : Dset} (hd : d ∈ l) {m : Nat} (hm : l.length ≤ m) : (iterD l m d).id = 0 := by
  obtain ⟨r, hr⟩ := h.tree
  have hz : ∀ m, iterD l m ⟨0, 0, 0, 0, []⟩ = ⟨0, 0, 0, 0, []⟩ := by
    intro m
    induction m with
    | zero => rfl
    | succ m ih =>
      show iterD l m (stepD l ⟨0, 0, 0, 0, []⟩) = _
      have : stepD l ⟨0, 0, 0, 0, []⟩ = ⟨0, 0, 0, 0, []⟩ := by
        unfold stepD
        rw [getA_none (fun d hd => by have := (h.each d hd).id; show d.id ≠ 0; omega)]; rfl
      rw [this, ih]
  let f : Dset → Nat := fun x => l.countP fun y => decide (r y.id < r x.id)
  have hf : ∀ x ∈ l, ∀ y ∈ l, r y.id < r x.id → f y < f x := fun x hx y hy hxy => rankN_mono (fun z : Dset => r z.id) _ _ hxy l ⟨y, hy, rfl⟩
  have hfl : ∀ x ∈ l, f x < l.length := fun x hx => by
    have h1 := rankN_mono (fun z : Dset => r z.id) (r x.id) (r x.id + 1) (by omega) l ⟨x, hx, rfl⟩
    have h2 : l.countP (fun j => decide (r j.id < r x.id + 1)) ≤ l.length := List.countP_le_length
    show l.countP _ < _
    omega
  have g : ∀ m, iterD l m d = ⟨0, 0, 0, 0, []⟩ ∨ (iterD l m d ∈ l ∧ f (iterD l m d) + m ≤ f d) := by
    intro m
    induction m with
    | zero => exact .inr ⟨hd, Nat.le_refl _⟩
    | succ m ih =>
      rw [iterD_succ]
      rcases ih with ih | ⟨hm, ih⟩
      · left; rw [ih]; exact hz 1
      · unfold stepD
        cases ho : getA l (iterD l m d).origin with
        | none => left; rfl
        | some o =>
          right
          obtain ⟨ho1, ho2⟩ := getA_mem ho
          refine ⟨ho1, ?_⟩
          have := hf _ hm o ho1 (hr _ hm o ho1 ho2)
          show f o + (m + 1) ≤ f d
          omega
  rcases g m with e | ⟨hm2, e⟩
  · rw [e]
  · have := hfl d hd; omega

set_option maxRecDepth 10000 in
set_option maxHeartbeats 2000000 in
theorem maysets0 (l : List Dset) (h : MayL l) : C Tryz.prog 31 [asets l] [] (fun x H' => x = .bool true ∧ H' = []) := by
  have hl8 := h.len
  refine C_body' d31 rfl (WT_ok ?_)
  unfold c31
  have g8 : ¬ (8 : Int) < l.length := by omega
  simp only [asets, g8, wk3, onStO, bareL, toCl, onApO, chunks, wk, iaddrV_map, emb, unAgg, ares, aresL, ares1, tupled, forall_const, Nat.reduceAdd, Nat.reduceSub, Nat.reduceMul, Nat.reduceLeDiff, Nat.reduceEqDiff, Nat.reduceBEq, Int.reduceLE, Int.reduceLT, Int.reduceEq, Int.reduceNe, Int.reduceAdd, Int.reduceSub, Int.reduceToNat, Int.reduceNeg, ↓reduceIte, reduceCtorEq, cellsOf, cellA, lay, fillA]
  refine WT_loop (W_wk (fr' := [asets l, .top, .bool false, .int .i64 (0 : Nat)] ++ List.replicate 123 .top) (Wk_tops ?_) (W_loop (fun n fr H' => ∃ i : Nat, i ≤ l.length ∧ n = l.length - i ∧ H' = [] ∧ fr = [asets l, .top, .bool false, .int .i64 i] ++ List.replicate 123 .top) l.length ⟨0, by omega, rfl, rfl, rfl⟩ ?_))
  · simp only [asets, List.replicate_succ, List.replicate_zero, List.cons_append, List.nil_append, Tops_top, Tops_same, Tops_nil, Int.cast_ofNat_Int]
  rintro n fr H' ⟨i, hi, rfl, rfl, rfl⟩
  refine WT_ok ?_
  simp only [asets, iaddr_dset, wk3, onStO, bareL, toCl, onApO, chunks, wk, iaddrV_map, emb, unAgg, ares, aresL, ares1, tupled, forall_const, Nat.reduceAdd, Nat.reduceSub, Nat.reduceMul, Nat.reduceLeDiff, Nat.reduceEqDiff, Nat.reduceBEq, Int.reduceLE, Int.reduceLT, Int.reduceEq, Int.reduceNe, Int.reduceAdd, Int.reduceSub, Int.reduceToNat, Int.reduceNeg, ↓reduceIte, reduceCtorEq, cellsOf, cellA, lay, fillA]
  refine guard_both ?_ ?_ <;> intro hh <;> simp only [hy] at hh
  · have hil : i < l.length := by omega
    have h0 : (0 : Int) ≤ i := by omega
    have w2 : IntKind.i64.wrap ((i : Int) + 1) = (i : Int) + 1 := IntWalk.i64_in _ (by omega)
    have hm := h.each _ (dgetD_mem hil)
    have hid0 : (decide (0 ≤ (l.getD i default).id) && decide ((l.getD i default).id ≤ 65535)) = true := by rw [Bool.and_eq_true]; exact ⟨decide_eq_true (by have := hm.id; omega), decide_eq_true hm.id.2⟩
    have hid1 : ¬ (l.getD i default).id < 1 := by have := hm.id; omega
    have hq0 : ¬ (l.getD i default).quota < 0 := by have := hm.quota; omega
    have hq1 : ¬ 255 < (l.getD i default).quota := by have := hm.quota; omega
    simp only [hh, h0, hid1, iaddr_dset, pdset, lay, wk3, onStO, bareL, toCl, onApO, chunks, wk, iaddrV_map, emb, unAgg, ares, aresL, ares1, tupled, forall_const, Nat.reduceAdd, Nat.reduceSub, Nat.reduceMul, Nat.reduceLeDiff, Nat.reduceEqDiff, Nat.reduceBEq, Int.reduceLE, Int.reduceLT, Int.reduceEq, Int.reduceNe, Int.reduceAdd, Int.reduceSub, Int.reduceToNat, Int.reduceNeg, ↓reduceIte, reduceCtorEq, cellsOf, cellA, lay, fillA]
    refine WT_drawE ?_
    simp only [hh, h0, hid1, iaddr_dset, pdset, lay, wk3, onStO, bareL, toCl, onApO, chunks, wk, iaddrV_map, emb, unAgg, ares, aresL, ares1, tupled, forall_const, Nat.reduceAdd, Nat.reduceSub, Nat.reduceMul, Nat.reduceLeDiff, Nat.reduceEqDiff, Nat.reduceBEq, Int.reduceLE, Int.reduceLT, Int.reduceEq, Int.reduceNe, Int.reduceAdd, Int.reduceSub, Int.reduceToNat, Int.reduceNeg, ↓reduceIte, reduceCtorEq, cellsOf, cellA, lay, fillA]
    refine CT_ok (rid68 _ _) ?_
    rintro _ _ ⟨rfl, rfl⟩
    rw [hid0]
    have hmay := may69 (l.getD i default).files hm.files
    have cont : ∀ (o : Option Dset), getA l (l.getD i default).origin = o → True := fun _ _ => trivial
    rcases Nat.eq_zero_or_pos i with i0 | i0
    · have hi0 : ¬ (0 : Int) < i := by omega
      simp only [hi0, iaddr_dset, pdset, lay, wk3, onStO, bareL, toCl, onApO, chunks, wk, iaddrV_map, emb, unAgg, ares, aresL, ares1, tupled, forall_const, Nat.reduceAdd, Nat.reduceSub, Nat.reduceMul, Nat.reduceLeDiff, Nat.reduceEqDiff, Nat.reduceBEq, Int.reduceLE, Int.reduceLT, Int.reduceEq, Int.reduceNe, Int.reduceAdd, Int.reduceSub, Int.reduceToNat, Int.reduceNeg, ↓reduceIte, reduceCtorEq, cellsOf, cellA, lay, fillA]
      refine WDT_more 0 ?_
      simp only [hi0, iaddr_dset, pdset, lay, wk3, onStO, bareL, toCl, onApO, chunks, wk, iaddrV_map, emb, unAgg, ares, aresL, ares1, tupled, forall_const, Nat.reduceAdd, Nat.reduceSub, Nat.reduceMul, Nat.reduceLeDiff, Nat.reduceEqDiff, Nat.reduceBEq, Int.reduceLE, Int.reduceLT, Int.reduceEq, Int.reduceNe, Int.reduceAdd, Int.reduceSub, Int.reduceToNat, Int.reduceNeg, ↓reduceIte, reduceCtorEq, cellsOf, cellA, lay, fillA]
      refine ⟨by rfl, ?_⟩
      refine CT_ok (hmay _) ?_
      rintro _ _ ⟨rfl, rfl⟩
      simp only [hq0, hq1, iaddr_dset, pdset, lay, wk3, onStO, bareL, toCl, onApO, chunks, wk, iaddrV_map, emb, unAgg, ares, aresL, ares1, tupled, forall_const, Nat.reduceAdd, Nat.reduceSub, Nat.reduceMul, Nat.reduceLeDiff, Nat.reduceEqDiff, Nat.reduceBEq, Int.reduceLE, Int.reduceLT, Int.reduceEq, Int.reduceNe, Int.reduceAdd, Int.reduceSub, Int.reduceToNat, Int.reduceNeg, ↓reduceIte, reduceCtorEq, cellsOf, cellA, lay, fillA]
      refine CT_ok (rgetL l (by omega) _ _) ?_
      rintro _ _ ⟨rfl, rfl⟩
      rcases hm.kinds with e | e
      · by_cases oz : (l.getD i default).origin = 0
        · cases hg : getA l (l.getD i default).origin
          · simp only [getV, e, oz, w2, cellD, aset, lay, wk3, onStO, bareL, toCl, onApO, chunks, wk, iaddrV_map, emb, unAgg, ares, aresL, ares1, tupled, forall_const, Nat.reduceAdd, Nat.reduceSub, Nat.reduceMul, Nat.reduceLeDiff, Nat.reduceEqDiff, Nat.reduceBEq, Int.reduceLE, Int.reduceLT, Int.reduceEq, Int.reduceNe, Int.reduceAdd, Int.reduceSub, Int.reduceToNat, Int.reduceNeg, ↓reduceIte, reduceCtorEq, cellsOf, cellA, lay, fillA]
            refine QLoop_wk (n' := l.length - (i + 1)) (by omega) ⟨i + 1, by omega, rfl, rfl, rfl⟩ (Wk_none ?_)
            simp only [asets, renL, ren, List.replicate_succ, List.replicate_zero, List.cons_append, List.nil_append, Tops_top, Tops_same, Tops_nil, Int.natCast_add, Int.natCast_one]
          · simp only [getV, e, oz, w2, cellD, aset, lay, wk3, onStO, bareL, toCl, onApO, chunks, wk, iaddrV_map, emb, unAgg, ares, aresL, ares1, tupled, forall_const, Nat.reduceAdd, Nat.reduceSub, Nat.reduceMul, Nat.reduceLeDiff, Nat.reduceEqDiff, Nat.reduceBEq, Int.reduceLE, Int.reduceLT, Int.reduceEq, Int.reduceNe, Int.reduceAdd, Int.reduceSub, Int.reduceToNat, Int.reduceNeg, ↓reduceIte, reduceCtorEq, cellsOf, cellA, lay, fillA]
            refine QLoop_wk (n' := l.length - (i + 1)) (by omega) ⟨i + 1, by omega, rfl, rfl, rfl⟩ (Wk_none ?_)
            simp only [asets, renL, ren, List.replicate_succ, List.replicate_zero, List.cons_append, List.nil_append, Tops_top, Tops_same, Tops_nil, Int.natCast_add, Int.natCast_one]
        · obtain ⟨o, ho, hoi, hok⟩ := (hm.live e).resolve_left oz
          have hg := h.find ho
          rw [hoi] at hg
          rw [hg]
          simp only [getV, e, oz, hok, w2, cellD, aset, lay, wk3, onStO, bareL, toCl, onApO, chunks, wk, iaddrV_map, emb, unAgg, ares, aresL, ares1, tupled, forall_const, Nat.reduceAdd, Nat.reduceSub, Nat.reduceMul, Nat.reduceLeDiff, Nat.reduceEqDiff, Nat.reduceBEq, Int.reduceLE, Int.reduceLT, Int.reduceEq, Int.reduceNe, Int.reduceAdd, Int.reduceSub, Int.reduceToNat, Int.reduceNeg, ↓reduceIte, reduceCtorEq, cellsOf, cellA, lay, fillA]
          refine QLoop_wk (n' := l.length - (i + 1)) (by omega) ⟨i + 1, by omega, rfl, rfl, rfl⟩ (Wk_none ?_)
          simp only [asets, renL, ren, List.replicate_succ, List.replicate_zero, List.cons_append, List.nil_append, Tops_top, Tops_same, Tops_nil, Int.natCast_add, Int.natCast_one]
      · obtain ⟨hq, o, ho, hoi, hok⟩ := hm.snap e
        have hg := h.find ho
        rw [hoi] at hg
        rw [hg]
        simp only [getV, e, hq, hok, w2, cellD, aset, lay, wk3, onStO, bareL, toCl, onApO, chunks, wk, iaddrV_map, emb, unAgg, ares, aresL, ares1, tupled, forall_const, Nat.reduceAdd, Nat.reduceSub, Nat.reduceMul, Nat.reduceLeDiff, Nat.reduceEqDiff, Nat.reduceBEq, Int.reduceLE, Int.reduceLT, Int.reduceEq, Int.reduceNe, Int.reduceAdd, Int.reduceSub, Int.reduceToNat, Int.reduceNeg, ↓reduceIte, reduceCtorEq, cellsOf, cellA, lay, fillA]
        refine QLoop_wk (n' := l.length - (i + 1)) (by omega) ⟨i + 1, by omega, rfl, rfl, rfl⟩ (Wk_none ?_)
        simp only [asets, renL, ren, List.replicate_succ, List.replicate_zero, List.cons_append, List.nil_append, Tops_top, Tops_same, Tops_nil, Int.natCast_add, Int.natCast_one]
    · have hi0 : (0 : Int) < i := by omega
      have w1 : IntKind.i64.wrap ((i : Int) - 1) = ((i - 1 : Nat) : Int) := by rw [IntWalk.i64_in _ (by omega)]; omega
      have k0 : (0 : Int) ≤ (i - 1 : Nat) := by omega
      have k1 : ((i - 1 : Nat) : Int) < l.length := by omega
      have k2 : ¬ (l.getD i default).id ≤ (l.getD (i - 1) default).id := by have := h.lt (show i - 1 < i by omega) hil; omega
      simp only [hi0, iaddr_dset, pdset, lay, wk3, onStO, bareL, toCl, onApO, chunks, wk, iaddrV_map, emb, unAgg, ares, aresL, ares1, tupled, forall_const, Nat.reduceAdd, Nat.reduceSub, Nat.reduceMul, Nat.reduceLeDiff, Nat.reduceEqDiff, Nat.reduceBEq, Int.reduceLE, Int.reduceLT, Int.reduceEq, Int.reduceNe, Int.reduceAdd, Int.reduceSub, Int.reduceToNat, Int.reduceNeg, ↓reduceIte, reduceCtorEq, cellsOf, cellA, lay, fillA]
      refine WDT_more 0 ?_
      simp only [hi0, w1, k0, k1, iaddr_dset, pdset, lay, wk3, onStO, bareL, toCl, onApO, chunks, wk, iaddrV_map, emb, unAgg, ares, aresL, ares1, tupled, forall_const, Nat.reduceAdd, Nat.reduceSub, Nat.reduceMul, Nat.reduceLeDiff, Nat.reduceEqDiff, Nat.reduceBEq, Int.reduceLE, Int.reduceLT, Int.reduceEq, Int.reduceNe, Int.reduceAdd, Int.reduceSub, Int.reduceToNat, Int.reduceNeg, ↓reduceIte, reduceCtorEq, cellsOf, cellA, lay, fillA]
      refine ⟨by rfl, ?_⟩
      simp only [k2, iaddr_dset, pdset, lay, wk3, onStO, bareL, toCl, onApO, chunks, wk, iaddrV_map, emb, unAgg, ares, aresL, ares1, tupled, forall_const, Nat.reduceAdd, Nat.reduceSub, Nat.reduceMul, Nat.reduceLeDiff, Nat.reduceEqDiff, Nat.reduceBEq, Int.reduceLE, Int.reduceLT, Int.reduceEq, Int.reduceNe, Int.reduceAdd, Int.reduceSub, Int.reduceToNat, Int.reduceNeg, ↓reduceIte, reduceCtorEq, cellsOf, cellA, lay, fillA]
      refine CT_ok (hmay _) ?_
      rintro _ _ ⟨rfl, rfl⟩
      simp only [hq0, hq1, iaddr_dset, pdset, lay, wk3, onStO, bareL, toCl, onApO, chunks, wk, iaddrV_map, emb, unAgg, ares, aresL, ares1, tupled, forall_const, Nat.reduceAdd, Nat.reduceSub, Nat.reduceMul, Nat.reduceLeDiff, Nat.reduceEqDiff, Nat.reduceBEq, Int.reduceLE, Int.reduceLT, Int.reduceEq, Int.reduceNe, Int.reduceAdd, Int.reduceSub, Int.reduceToNat, Int.reduceNeg, ↓reduceIte, reduceCtorEq, cellsOf, cellA, lay, fillA]
      refine CT_ok (rgetL l (by omega) _ _) ?_
      rintro _ _ ⟨rfl, rfl⟩
      rcases hm.kinds with e | e
      · by_cases oz : (l.getD i default).origin = 0
        · cases hg : getA l (l.getD i default).origin
          · simp only [getV, e, oz, w2, cellD, aset, lay, wk3, onStO, bareL, toCl, onApO, chunks, wk, iaddrV_map, emb, unAgg, ares, aresL, ares1, tupled, forall_const, Nat.reduceAdd, Nat.reduceSub, Nat.reduceMul, Nat.reduceLeDiff, Nat.reduceEqDiff, Nat.reduceBEq, Int.reduceLE, Int.reduceLT, Int.reduceEq, Int.reduceNe, Int.reduceAdd, Int.reduceSub, Int.reduceToNat, Int.reduceNeg, ↓reduceIte, reduceCtorEq, cellsOf, cellA, lay, fillA]
            refine QLoop_wk (n' := l.length - (i + 1)) (by omega) ⟨i + 1, by omega, rfl, rfl, rfl⟩ (Wk_none ?_)
            simp only [asets, renL, ren, List.replicate_succ, List.replicate_zero, List.cons_append, List.nil_append, Tops_top, Tops_same, Tops_nil, Int.natCast_add, Int.natCast_one]
          · simp only [getV, e, oz, w2, cellD, aset, lay, wk3, onStO, bareL, toCl, onApO, chunks, wk, iaddrV_map, emb, unAgg, ares, aresL, ares1, tupled, forall_const, Nat.reduceAdd, Nat.reduceSub, Nat.reduceMul, Nat.reduceLeDiff, Nat.reduceEqDiff, Nat.reduceBEq, Int.reduceLE, Int.reduceLT, Int.reduceEq, Int.reduceNe, Int.reduceAdd, Int.reduceSub, Int.reduceToNat, Int.reduceNeg, ↓reduceIte, reduceCtorEq, cellsOf, cellA, lay, fillA]
            refine QLoop_wk (n' := l.length - (i + 1)) (by omega) ⟨i + 1, by omega, rfl, rfl, rfl⟩ (Wk_none ?_)
            simp only [asets, renL, ren, List.replicate_succ, List.replicate_zero, List.cons_append, List.nil_append, Tops_top, Tops_same, Tops_nil, Int.natCast_add, Int.natCast_one]
        · obtain ⟨o, ho, hoi, hok⟩ := (hm.live e).resolve_left oz
          have hg := h.find ho
          rw [hoi] at hg
          rw [hg]
          simp only [getV, e, oz, hok, w2, cellD, aset, lay, wk3, onStO, bareL, toCl, onApO, chunks, wk, iaddrV_map, emb, unAgg, ares, aresL, ares1, tupled, forall_const, Nat.reduceAdd, Nat.reduceSub, Nat.reduceMul, Nat.reduceLeDiff, Nat.reduceEqDiff, Nat.reduceBEq, Int.reduceLE, Int.reduceLT, Int.reduceEq, Int.reduceNe, Int.reduceAdd, Int.reduceSub, Int.reduceToNat, Int.reduceNeg, ↓reduceIte, reduceCtorEq, cellsOf, cellA, lay, fillA]
          refine QLoop_wk (n' := l.length - (i + 1)) (by omega) ⟨i + 1, by omega, rfl, rfl, rfl⟩ (Wk_none ?_)
          simp only [asets, renL, ren, List.replicate_succ, List.replicate_zero, List.cons_append, List.nil_append, Tops_top, Tops_same, Tops_nil, Int.natCast_add, Int.natCast_one]
      · obtain ⟨hq, o, ho, hoi, hok⟩ := hm.snap e
        have hg := h.find ho
        rw [hoi] at hg
        rw [hg]
        simp only [getV, e, hq, hok, w2, cellD, aset, lay, wk3, onStO, bareL, toCl, onApO, chunks, wk, iaddrV_map, emb, unAgg, ares, aresL, ares1, tupled, forall_const, Nat.reduceAdd, Nat.reduceSub, Nat.reduceMul, Nat.reduceLeDiff, Nat.reduceEqDiff, Nat.reduceBEq, Int.reduceLE, Int.reduceLT, Int.reduceEq, Int.reduceNe, Int.reduceAdd, Int.reduceSub, Int.reduceToNat, Int.reduceNeg, ↓reduceIte, reduceCtorEq, cellsOf, cellA, lay, fillA]
        refine QLoop_wk (n' := l.length - (i + 1)) (by omega) ⟨i + 1, by omega, rfl, rfl, rfl⟩ (Wk_none ?_)
        simp only [asets, renL, ren, List.replicate_succ, List.replicate_zero, List.cons_append, List.nil_append, Tops_top, Tops_same, Tops_nil, Int.natCast_add, Int.natCast_one]
  · simp only [hh, asets, iaddr_dset, wk3, onStO, bareL, toCl, onApO, chunks, wk, iaddrV_map, emb, unAgg, ares, aresL, ares1, tupled, forall_const, Nat.reduceAdd, Nat.reduceSub, Nat.reduceMul, Nat.reduceLeDiff, Nat.reduceEqDiff, Nat.reduceBEq, Int.reduceLE, Int.reduceLT, Int.reduceEq, Int.reduceNe, Int.reduceAdd, Int.reduceSub, Int.reduceToNat, Int.reduceNeg, ↓reduceIte, reduceCtorEq, cellsOf, cellA, lay, fillA]
    refine WT_loop (W_wk (fr' := [asets l, .top, .bool false, .top, .top, .top, .top, .int .i64 (0 : Nat)] ++ List.replicate 119 .top) (Wk_tops ?_) (W_loop (fun n fr H' => ∃ i : Nat, i ≤ l.length ∧ n = l.length - i ∧ H' = [] ∧ fr = [asets l, .top, .bool false, .top, .top, .top, .top, .int .i64 i] ++ List.replicate 119 .top) l.length ⟨0, by omega, rfl, rfl, rfl⟩ ?_))
    · simp only [asets, List.replicate_succ, List.replicate_zero, List.cons_append, List.nil_append, Tops_top, Tops_same, Tops_nil, Int.cast_ofNat_Int]
    clear hh hi
    rintro n fr H' ⟨i, hi, rfl, rfl, rfl⟩
    refine WT_ok ?_
    simp only [asets, iaddr_dset, wk3, onStO, bareL, toCl, onApO, chunks, wk, iaddrV_map, emb, unAgg, ares, aresL, ares1, tupled, forall_const, Nat.reduceAdd, Nat.reduceSub, Nat.reduceMul, Nat.reduceLeDiff, Nat.reduceEqDiff, Nat.reduceBEq, Int.reduceLE, Int.reduceLT, Int.reduceEq, Int.reduceNe, Int.reduceAdd, Int.reduceSub, Int.reduceToNat, Int.reduceNeg, ↓reduceIte, reduceCtorEq, cellsOf, cellA, lay, fillA]
    refine guard_both ?_ ?_ <;> intro hh <;> simp only [hy] at hh
    · have hil : i < l.length := by omega
      have h0 : (0 : Int) ≤ i := by omega
      have w2 : IntKind.i64.wrap ((i : Int) + 1) = (i : Int) + 1 := IntWalk.i64_in _ (by omega)
      have wm : IntKind.i64.wrap (2 * (l.length : Int)) = ((2 * l.length : Nat) : Int) := by rw [IntWalk.i64_in _ (by omega)]; omega
      have hend := h.out (dgetD_mem hil) (m := 2 * l.length + 1) (by omega)
      simp only [hh, h0, iaddr_dset, pdset, lay, wk3, onStO, bareL, toCl, onApO, chunks, wk, iaddrV_map, emb, unAgg, ares, aresL, ares1, tupled, forall_const, Nat.reduceAdd, Nat.reduceSub, Nat.reduceMul, Nat.reduceLeDiff, Nat.reduceEqDiff, Nat.reduceBEq, Int.reduceLE, Int.reduceLT, Int.reduceEq, Int.reduceNe, Int.reduceAdd, Int.reduceSub, Int.reduceToNat, Int.reduceNeg, ↓reduceIte, reduceCtorEq, cellsOf, cellA, lay, fillA]
      refine WT_loop (W_wk (fr' := [asets l, .top, .bool false, .top, .top, .top, .top, .int .i64 i, .ptr 0 0 0 1, .int .i64 (0 : Nat)] ++ List.replicate 117 .top) (Wk_tops ?_) (W_loop (fun n fr H' => ∃ (k : Nat) (cs : List AV), k ≤ 2 * l.length + 1 ∧ n = 2 * l.length + 1 - k ∧ (cs = cellD (iterD l k (l.getD i default)) ∨ (iterD l k (l.getD i default) = ⟨0, 0, 0, 0, []⟩ ∧ cs = zeroC)) ∧ H' = [some [cs]] ∧ fr = [asets l, .top, .bool false, .top, .top, .top, .top, .int .i64 i, .ptr 0 0 0 1, .int .i64 k] ++ List.replicate 117 .top) (2 * l.length + 1) ⟨0, _, by omega, rfl, .inl rfl, rfl, rfl⟩ ?_))
      · simp only [asets, List.replicate_succ, List.replicate_zero, List.cons_append, List.nil_append, Tops_top, Tops_same, Tops_nil, Int.cast_ofNat_Int]
      rintro n fr H' ⟨k, cs, hk, rfl, hcs, rfl, rfl⟩
      refine WT_ok ?_
      have v2 : IntKind.i64.wrap ((k : Int) + 1) = (k : Int) + 1 := IntWalk.i64_in _ (by omega)
      have hstep : ∀ o, getA l (iterD l k (l.getD i default)).origin = o → iterD l (k + 1) (l.getD i default) = o.getD ⟨0, 0, 0, 0, []⟩ := fun o ho => by rw [iterD_succ]; unfold stepD; rw [ho]
      by_cases y0 : (k : Int) ≤ ((2 * l.length : Nat) : Int)
      · rcases hcs with rfl | ⟨hz, rfl⟩
        · generalize iterD l k (l.getD i default) = x at hstep ⊢
          simp only [y0, wm, asets, cellD, aset, lay, wk3, onStO, bareL, toCl, onApO, chunks, wk, iaddrV_map, emb, unAgg, ares, aresL, ares1, tupled, forall_const, Nat.reduceAdd, Nat.reduceSub, Nat.reduceMul, Nat.reduceLeDiff, Nat.reduceEqDiff, Nat.reduceBEq, Int.reduceLE, Int.reduceLT, Int.reduceEq, Int.reduceNe, Int.reduceAdd, Int.reduceSub, Int.reduceToNat, Int.reduceNeg, ↓reduceIte, reduceCtorEq, cellsOf, cellA, lay, fillA]
          refine CT_ok (rgetL l (by omega) _ _) ?_
          rintro _ _ ⟨rfl, rfl⟩
          cases hg : getA l x.origin with
          | none =>
            have hs := hstep _ hg
            simp only [getV, v2, asets, cellD, aset, lay, wk3, onStO, bareL, toCl, onApO, chunks, wk, iaddrV_map, emb, unAgg, ares, aresL, ares1, tupled, forall_const, Nat.reduceAdd, Nat.reduceSub, Nat.reduceMul, Nat.reduceLeDiff, Nat.reduceEqDiff, Nat.reduceBEq, Int.reduceLE, Int.reduceLT, Int.reduceEq, Int.reduceNe, Int.reduceAdd, Int.reduceSub, Int.reduceToNat, Int.reduceNeg, ↓reduceIte, reduceCtorEq, cellsOf, cellA, lay, fillA]
            refine QLoop_go (n' := 2 * l.length + 1 - (k + 1)) (by omega) ⟨k + 1, zeroC, by omega, rfl, .inr ⟨hs, rfl⟩, rfl, rfl⟩ ?_
            simp only [asets, renL, ren, List.replicate_succ, List.replicate_zero, List.cons_append, List.nil_append, Tops_top, Tops_same, Tops_nil, Int.natCast_add, Int.natCast_one]
          | some o =>
            have hs := hstep _ hg
            simp only [getV, v2, asets, cellD, aset, lay, wk3, onStO, bareL, toCl, onApO, chunks, wk, iaddrV_map, emb, unAgg, ares, aresL, ares1, tupled, forall_const, Nat.reduceAdd, Nat.reduceSub, Nat.reduceMul, Nat.reduceLeDiff, Nat.reduceEqDiff, Nat.reduceBEq, Int.reduceLE, Int.reduceLT, Int.reduceEq, Int.reduceNe, Int.reduceAdd, Int.reduceSub, Int.reduceToNat, Int.reduceNeg, ↓reduceIte, reduceCtorEq, cellsOf, cellA, lay, fillA]
            refine QLoop_go (n' := 2 * l.length + 1 - (k + 1)) (by omega) ⟨k + 1, cellD o, by omega, rfl, .inl (by rw [hs]; rfl), rfl, rfl⟩ ?_
            simp only [asets, renL, ren, List.replicate_succ, List.replicate_zero, List.cons_append, List.nil_append, Tops_top, Tops_same, Tops_nil, Int.natCast_add, Int.natCast_one]
        · rw [hz] at hstep
          simp only [y0, wm, asets, zeroC, lay, wk3, onStO, bareL, toCl, onApO, chunks, wk, iaddrV_map, emb, unAgg, ares, aresL, ares1, tupled, forall_const, Nat.reduceAdd, Nat.reduceSub, Nat.reduceMul, Nat.reduceLeDiff, Nat.reduceEqDiff, Nat.reduceBEq, Int.reduceLE, Int.reduceLT, Int.reduceEq, Int.reduceNe, Int.reduceAdd, Int.reduceSub, Int.reduceToNat, Int.reduceNeg, ↓reduceIte, reduceCtorEq, cellsOf, cellA, lay, fillA]
          refine CT_ok (rgetL l (by omega) _ _) ?_
          rintro _ _ ⟨rfl, rfl⟩
          cases hg : getA l 0 with
          | none =>
            have hs := hstep _ hg
            simp only [getV, v2, asets, cellD, aset, lay, wk3, onStO, bareL, toCl, onApO, chunks, wk, iaddrV_map, emb, unAgg, ares, aresL, ares1, tupled, forall_const, Nat.reduceAdd, Nat.reduceSub, Nat.reduceMul, Nat.reduceLeDiff, Nat.reduceEqDiff, Nat.reduceBEq, Int.reduceLE, Int.reduceLT, Int.reduceEq, Int.reduceNe, Int.reduceAdd, Int.reduceSub, Int.reduceToNat, Int.reduceNeg, ↓reduceIte, reduceCtorEq, cellsOf, cellA, lay, fillA]
            refine QLoop_go (n' := 2 * l.length + 1 - (k + 1)) (by omega) ⟨k + 1, zeroC, by omega, rfl, .inr ⟨hs, rfl⟩, rfl, rfl⟩ ?_
            simp only [asets, renL, ren, List.replicate_succ, List.replicate_zero, List.cons_append, List.nil_append, Tops_top, Tops_same, Tops_nil, Int.natCast_add, Int.natCast_one]
          | some o =>
            have hs := hstep _ hg
            simp only [getV, v2, asets, cellD, aset, lay, wk3, onStO, bareL, toCl, onApO, chunks, wk, iaddrV_map, emb, unAgg, ares, aresL, ares1, tupled, forall_const, Nat.reduceAdd, Nat.reduceSub, Nat.reduceMul, Nat.reduceLeDiff, Nat.reduceEqDiff, Nat.reduceBEq, Int.reduceLE, Int.reduceLT, Int.reduceEq, Int.reduceNe, Int.reduceAdd, Int.reduceSub, Int.reduceToNat, Int.reduceNeg, ↓reduceIte, reduceCtorEq, cellsOf, cellA, lay, fillA]
            refine QLoop_go (n' := 2 * l.length + 1 - (k + 1)) (by omega) ⟨k + 1, cellD o, by omega, rfl, .inl (by rw [hs]; rfl), rfl, rfl⟩ ?_
            simp only [asets, renL, ren, List.replicate_succ, List.replicate_zero, List.cons_append, List.nil_append, Tops_top, Tops_same, Tops_nil, Int.natCast_add, Int.natCast_one]
      · have hk2 : k = 2 * l.length + 1 := by omega
        subst hk2
        rcases hcs with rfl | ⟨hz, rfl⟩
        · generalize iterD l (2 * l.length + 1) (l.getD i default) = x at hend ⊢
          simp only [y0, wm, hend, w2, asets, cellD, aset, lay, wk3, onStO, bareL, toCl, onApO, chunks, wk, iaddrV_map, emb, unAgg, ares, aresL, ares1, tupled, forall_const, Nat.reduceAdd, Nat.reduceSub, Nat.reduceMul, Nat.reduceLeDiff, Nat.reduceEqDiff, Nat.reduceBEq, Int.reduceLE, Int.reduceLT, Int.reduceEq, Int.reduceNe, Int.reduceAdd, Int.reduceSub, Int.reduceToNat, Int.reduceNeg, ↓reduceIte, reduceCtorEq, cellsOf, cellA, lay, fillA]
          refine QLoop_wk (n' := l.length - (i + 1)) (by omega) ⟨i + 1, by omega, rfl, rfl, rfl⟩ (Wk_none ?_)
          simp only [asets, renL, ren, List.replicate_succ, List.replicate_zero, List.cons_append, List.nil_append, Tops_top, Tops_same, Tops_nil, Int.natCast_add, Int.natCast_one]
        · simp only [y0, wm, w2, asets, zeroC, lay, wk3, onStO, bareL, toCl, onApO, chunks, wk, iaddrV_map, emb, unAgg, ares, aresL, ares1, tupled, forall_const, Nat.reduceAdd, Nat.reduceSub, Nat.reduceMul, Nat.reduceLeDiff, Nat.reduceEqDiff, Nat.reduceBEq, Int.reduceLE, Int.reduceLT, Int.reduceEq, Int.reduceNe, Int.reduceAdd, Int.reduceSub, Int.reduceToNat, Int.reduceNeg, ↓reduceIte, reduceCtorEq, cellsOf, cellA, lay, fillA]
          refine QLoop_wk (n' := l.length - (i + 1)) (by omega) ⟨i + 1, by omega, rfl, rfl, rfl⟩ (Wk_none ?_)
          simp only [asets, renL, ren, List.replicate_succ, List.replicate_zero, List.cons_append, List.nil_append, Tops_top, Tops_same, Tops_nil, Int.natCast_add, Int.natCast_one]
    · simp only [hh, wk3, onStO, bareL, toCl, onApO, chunks, wk, iaddrV_map, emb, unAgg, ares, aresL, ares1, tupled, forall_const, Nat.reduceAdd, Nat.reduceSub, Nat.reduceMul, Nat.reduceLeDiff, Nat.reduceEqDiff, Nat.reduceBEq, Int.reduceLE, Int.reduceLT, Int.reduceEq, Int.reduceNe, Int.reduceAdd, Int.reduceSub, Int.reduceToNat, Int.reduceNeg, ↓reduceIte, reduceCtorEq, cellsOf, cellA, lay, fillA]
      exact KWk_bare rfl ⟨rfl, rfl⟩
theorem maysets (l : List Dset) (h : MayL l) (H : AH) : C Tryz.prog 31 [asets l] H (fun x H' => x = .bool true ∧ H' = H) :=
  C_any (maysets0 l h) (by simp [bareL, asets_bare]) rfl H
end Go.Proofs.YtemjlopoffjmpaaGreat.Abs
/-
  The code of some functions in the abstract layer's form, each checked against the program's own. Written by gen.py.
-/
namespace Go.Proofs.YtemjlopoffjmpaaGreat.Abs
open Go

/-- palimp/dset.Promote -/
def c29 : ACode :=
 (.seq (.reg [⟨some 4, none, .mv (.c (.emp))⟩,
  ⟨some 5, none, .mv (.c (.int .i64 0))⟩])
 (.seq (.reg [⟨some 14, none, .mv (.t 0)⟩,
  ⟨some 15, none, .call 56 [(.t 14)]⟩,
  ⟨some 6, none, .mv (.t 15)⟩])
 (.seq (.reg [⟨some 16, none, .mv (.t 6)⟩,
  ⟨some 7, none, .mv (.t 16)⟩])
 (.seq (.reg [⟨some 17, none, .mv (.t 7)⟩,
  ⟨some 18, none, .mv (.t 1)⟩,
  ⟨some 19, none, .call 59 [(.t 17), (.t 18)]⟩,
  ⟨some 8, none, .mv (.t 19)⟩])
 (.seq (.block 0
 (.seq (.reg [⟨some 21, none, .mv (.t 8)⟩,
  ⟨some 22, none, .bini .lss (.t 21) (.c (.int .i64 0))⟩,
  ⟨some 20, none, .mv (.t 22)⟩])
 (.cond (.t 20)
 (.seq (.reg [⟨some 23, none, .mv (.t 6)⟩,
  ⟨some 4, none, .mv (.t 23)⟩,
  ⟨some 5, none, .mv (.c (.int .i64 2))⟩])
 .ret)
 (.seq (.reg [⟨some 25, none, .mv (.t 7)⟩,
  ⟨some 26, none, .mv (.t 8)⟩,
  ⟨some 27, none, .iaddr 5 (.t 25) (.t 26)⟩,
  ⟨some 28, none, .faddr 1 (.t 27)⟩,
  ⟨some 29, none, .load false 1 (.t 28)⟩,
  ⟨some 30, none, .bini .neq (.t 29) (.c (.int .i64 1))⟩,
  ⟨some 31, none, .mv (.t 30)⟩,
  ⟨some 32, (some (31, false)), .mv (.t 7)⟩,
  ⟨some 33, (some (31, false)), .mv (.t 8)⟩,
  ⟨some 34, (some (31, false)), .iaddr 5 (.t 32) (.t 33)⟩,
  ⟨some 35, (some (31, false)), .faddr 2 (.t 34)⟩,
  ⟨some 36, (some (31, false)), .load false 1 (.t 35)⟩,
  ⟨some 37, (some (31, false)), .bini .eql (.t 36) (.c (.int .i64 0))⟩,
  ⟨some 38, none, .pick (.t 31) (.c (.bool true)) (.t 37)⟩,
  ⟨some 24, none, .mv (.t 38)⟩])
 (.cond (.t 24)
 (.seq (.reg [⟨some 39, none, .mv (.t 6)⟩,
  ⟨some 4, none, .mv (.t 39)⟩,
  ⟨some 5, none, .mv (.c (.int .i64 1))⟩])
 .ret)
 .skip)))))
 (.seq (.reg [⟨some 40, none, .mv (.t 7)⟩,
  ⟨some 41, none, .mv (.t 7)⟩,
  ⟨some 42, none, .mv (.t 8)⟩,
  ⟨some 43, none, .iaddr 5 (.t 41) (.t 42)⟩,
  ⟨some 44, none, .faddr 2 (.t 43)⟩,
  ⟨some 45, none, .load false 1 (.t 44)⟩,
  ⟨some 46, none, .call 59 [(.t 40), (.t 45)]⟩,
  ⟨some 9, none, .mv (.t 46)⟩])
 (.seq (.seq (.reg [⟨some 47, none, .mv (.t 9)⟩,
  ⟨some 48, none, .bini .lss (.t 47) (.c (.int .i64 0))⟩,
  ⟨some 49, none, .mv (.t 48)⟩,
  ⟨some 50, (some (49, false)), .mv (.t 7)⟩,
  ⟨some 51, (some (49, false)), .mv (.t 7)⟩,
  ⟨some 52, (some (49, false)), .mv (.t 9)⟩,
  ⟨some 53, (some (49, false)), .iaddr 5 (.t 51) (.t 52)⟩,
  ⟨some 54, (some (49, false)), .faddr 2 (.t 53)⟩,
  ⟨some 55, (some (49, false)), .load false 1 (.t 54)⟩,
  ⟨some 56, (some (49, false)), .call 60 [(.t 50), (.t 55), (.c (.int .i64 1))]⟩,
  ⟨some 57, (some (49, false)), .un .not (.t 56)⟩,
  ⟨some 58, none, .pick (.t 49) (.c (.bool true)) (.t 57)⟩])
 (.cond (.t 58)
 (.seq (.reg [⟨some 59, none, .mv (.t 6)⟩,
  ⟨some 4, none, .mv (.t 59)⟩,
  ⟨some 5, none, .mv (.c (.int .i64 1))⟩])
 .ret)
 .skip))
 (.seq (.reg [⟨some 60, none, .mv (.t 7)⟩,
  ⟨some 61, none, .mv (.t 9)⟩,
  ⟨some 62, none, .iaddr 5 (.t 60) (.t 61)⟩,
  ⟨some 63, none, .faddr 2 (.t 62)⟩,
  ⟨some 64, none, .load false 1 (.t 63)⟩,
  ⟨some 10, none, .mv (.t 64)⟩])
 (.seq (.reg [⟨some 65, none, .mv (.t 7)⟩,
  ⟨some 66, none, .mv (.t 10)⟩,
  ⟨some 67, none, .call 59 [(.t 65), (.t 66)]⟩,
  ⟨some 11, none, .mv (.t 67)⟩])
 (.seq (.dregE [[(0, ⟨some 68, none, .mv (.t 7)⟩),
  (1, ⟨some 69, none, .mv (.t 8)⟩),
  (2, ⟨some 70, none, .mv (.t 7)⟩),
  (3, ⟨some 71, none, .mv (.t 11)⟩),
  (4, ⟨some 72, none, .mv (.t 7)⟩),
  (5, ⟨some 73, none, .mv (.t 11)⟩),
  (6, ⟨some 74, none, .iaddr 5 (.t 72) (.t 73)⟩),
  (7, ⟨some 75, none, .faddr 2 (.t 74)⟩),
  (8, ⟨some 76, none, .load false 1 (.t 75)⟩),
  (9, ⟨some 77, none, .mv (.t 7)⟩),
  (10, ⟨some 78, none, .mv (.t 9)⟩),
  (11, ⟨some 79, none, .iaddr 5 (.t 77) (.t 78)⟩),
  (12, ⟨some 80, none, .faddr 0 (.t 79)⟩),
  (13, ⟨some 81, none, .load false 1 (.t 80)⟩),
  (14, ⟨some 82, none, .iaddr 5 (.t 68) (.t 69)⟩),
  (15, ⟨some 83, none, .faddr 2 (.t 82)⟩),
  (16, ⟨none, none, .store 1 (.t 83) (.t 76)⟩)],
  [(17, ⟨some 84, none, .iaddr 5 (.t 70) (.t 71)⟩)],
  [(18, ⟨some 85, none, .faddr 2 (.t 84)⟩)],
  [(19, ⟨none, none, .store 1 (.t 85) (.t 81)⟩)]]
  [[], [], [], [], [], [], [4, 5], [4, 5, 6], [4, 5, 6, 7], [], [], [9, 10], [9, 10, 11], [9, 10, 11, 12], [0, 1, 4, 5, 6, 7, 8, 9, 10, 11, 12, 13], [0, 1, 4, 5, 6, 7, 8, 9, 10, 11, 12, 13, 14], [0, 1, 4, 5, 6, 7, 8, 9, 10, 11, 12, 13, 14, 15], [0, 1, 2, 3, 4, 5, 6, 7, 8, 9, 10, 11, 12, 13, 14, 15, 16], [0, 1, 2, 3, 4, 5, 6, 7, 8, 9, 10, 11, 12, 13, 14, 15, 16, 17], [0, 1, 2, 3, 4, 5, 6, 7, 8, 9, 10, 11, 12, 13, 14, 15, 16, 17, 18]])
 (.seq (.seq (.reg [⟨some 86, none, .mv (.t 7)⟩,
  ⟨some 87, none, .len false (.t 86)⟩,
  ⟨some 88, none, .mv (.c (.int .i64 0))⟩])
 (.block 1
 (.loop
 (.seq (.reg [⟨some 89, none, .bini .lss (.t 88) (.t 87)⟩])
 (.seq (.cond (.t 89)
 .skip
 (.exit 1))
 (.seq (.block 2
 (.seq (.reg [⟨some 90, none, .mv (.t 88)⟩,
  ⟨some 91, none, .iaddr 5 (.t 86) (.t 88)⟩,
  ⟨some 92, none, .load true 5 (.t 91)⟩,
  ⟨some 13, none, .alloc [.int .i64 0, .int .i64 0, .int .i64 0, .int .i64 0, .emp]⟩,
  ⟨some 12, none, .mv (.t 90)⟩,
  ⟨none, none, .store 5 (.t 13) (.t 92)⟩])
 (.seq (.dreg [⟨some 93, none, .faddr 1 (.t 13)⟩,
  ⟨some 94, none, .load false 1 (.t 93)⟩,
  ⟨some 95, none, .bini .eql (.t 94) (.c (.int .i64 2))⟩,
  ⟨some 96, none, .mv (.t 95)⟩,
  ⟨some 97, (some (96, true)), .faddr 2 (.t 13)⟩,
  ⟨some 98, (some (96, true)), .load false 1 (.t 97)⟩,
  ⟨some 99, (some (96, true)), .mv (.t 10)⟩,
  ⟨some 100, (some (96, true)), .bini .eql (.t 98) (.t 99)⟩,
  ⟨some 101, none, .pick (.t 96) (.t 100) (.c (.bool false))⟩,
  ⟨some 102, none, .mv (.t 101)⟩,
  ⟨some 103, (some (102, true)), .faddr 0 (.t 13)⟩,
  ⟨some 104, (some (102, true)), .load false 1 (.t 103)⟩,
  ⟨some 105, (some (102, true)), .mv (.t 7)⟩,
  ⟨some 106, (some (102, true)), .mv (.t 9)⟩,
  ⟨some 107, (some (102, true)), .iaddr 5 (.t 105) (.t 106)⟩,
  ⟨some 108, (some (102, true)), .faddr 0 (.t 107)⟩,
  ⟨some 109, (some (102, true)), .load false 1 (.t 108)⟩,
  ⟨some 110, (some (102, true)), .bini .leq (.t 104) (.t 109)⟩,
  ⟨some 111, none, .pick (.t 102) (.t 110) (.c (.bool false))⟩])
 (.cond (.t 111)
 (.reg [⟨some 112, none, .mv (.t 7)⟩,
  ⟨some 113, none, .mv (.t 12)⟩,
  ⟨some 114, none, .mv (.t 1)⟩,
  ⟨some 115, none, .iaddr 5 (.t 112) (.t 113)⟩,
  ⟨some 116, none, .faddr 2 (.t 115)⟩,
  ⟨none, none, .store 1 (.t 116) (.t 114)⟩])
 .skip))))
 (.reg [⟨some 117, none, .bini .add (.t 88) (.c (.int .i64 1))⟩,
  ⟨some 88, none, .mv (.t 117)⟩])))))))
 (.seq (.reg [⟨some 118, none, .mv (.t 6)⟩,
  ⟨some 4, none, .mv (.t 118)⟩,
  ⟨some 5, none, .mv (.c (.int .i64 0))⟩])
 .ret))))))))))))
theorem d29 : FnD Tryz.prog 29 2 117 [.tmp 4, .tmp 5] c29 := ⟨Tryz.f29, _, Tryz.func29, by kernel_rfl, rfl, rfl, by kernel_rfl, by kernel_rfl⟩

end Go.Proofs.YtemjlopoffjmpaaGreat.Abs
/-
  The code of some functions in the abstract layer's form, each checked against the program's own. Written by gen.py.
-/
namespace Go.Proofs.YtemjlopoffjmpaaGreat.Abs
open Go

/-- palimp/dset.Back -/
def c38 : ACode :=
 (.seq (.reg [⟨some 4, none, .box (.t 1)⟩,
  ⟨some 5, none, .box (.t 2)⟩,
  ⟨some 6, none, .mv (.c (.emp))⟩,
  ⟨some 7, none, .mv (.c (.int .i64 0))⟩])
 (.seq (.reg [⟨some 13, none, .mv (.t 0)⟩,
  ⟨some 14, none, .call 56 [(.t 13)]⟩,
  ⟨some 8, none, .mv (.t 14)⟩])
 (.seq (.reg [⟨some 15, none, .mv (.t 8)⟩,
  ⟨some 9, none, .mv (.t 15)⟩])
 (.seq (.dregE [[(0, ⟨some 16, none, .mv (.t 9)⟩),
  (1, ⟨some 17, none, .load false 1 (.t 4)⟩),
  (3, ⟨some 19, none, .mv (.t 9)⟩),
  (4, ⟨some 20, none, .load false 1 (.t 5)⟩),
  (2, ⟨some 18, none, .call 59 [(.t 16), (.t 17)]⟩)],
  [(5, ⟨some 21, none, .call 59 [(.t 19), (.t 20)]⟩)],
  [(6, ⟨some 10, none, .mv (.t 18)⟩)],
  [(7, ⟨some 11, none, .mv (.t 21)⟩)]]
  [[], [], [0, 1], [], [], [0, 1, 2, 3, 4], [0, 1, 2, 3, 4, 5], [0, 1, 2, 3, 4, 5, 6]])
 (.seq (.reg [⟨some 22, none, .mkfn (.func 77) [] [(.t 4), (.t 5)]⟩,
  ⟨some 12, none, .mv (.t 22)⟩])
 (.seq (.block 0
 (.seq (.reg [⟨some 24, none, .mv (.t 10)⟩,
  ⟨some 25, none, .bini .lss (.t 24) (.c (.int .i64 0))⟩,
  ⟨some 26, none, .mv (.t 25)⟩,
  ⟨some 27, (some (26, false)), .mv (.t 11)⟩,
  ⟨some 28, (some (26, false)), .bini .lss (.t 27) (.c (.int .i64 0))⟩,
  ⟨some 29, none, .pick (.t 26) (.c (.bool true)) (.t 28)⟩,
  ⟨some 23, none, .mv (.t 29)⟩])
 (.cond (.t 23)
 (.seq (.reg [⟨some 30, none, .mv (.t 8)⟩,
  ⟨some 6, none, .mv (.t 30)⟩,
  ⟨some 7, none, .mv (.c (.int .i64 2))⟩])
 .ret)
 (.seq (.dreg [⟨some 32, none, .mv (.t 9)⟩,
  ⟨some 33, none, .mv (.t 10)⟩,
  ⟨some 34, none, .iaddr 5 (.t 32) (.t 33)⟩,
  ⟨some 35, none, .faddr 1 (.t 34)⟩,
  ⟨some 36, none, .load false 1 (.t 35)⟩,
  ⟨some 37, none, .bini .neq (.t 36) (.c (.int .i64 1))⟩,
  ⟨some 38, none, .mv (.t 37)⟩,
  ⟨some 39, (some (38, false)), .mv (.t 9)⟩,
  ⟨some 40, (some (38, false)), .mv (.t 11)⟩,
  ⟨some 41, (some (38, false)), .iaddr 5 (.t 39) (.t 40)⟩,
  ⟨some 42, (some (38, false)), .faddr 1 (.t 41)⟩,
  ⟨some 43, (some (38, false)), .load false 1 (.t 42)⟩,
  ⟨some 44, (some (38, false)), .bini .neq (.t 43) (.c (.int .i64 2))⟩,
  ⟨some 45, none, .pick (.t 38) (.c (.bool true)) (.t 44)⟩,
  ⟨some 46, none, .mv (.t 45)⟩,
  ⟨some 47, (some (46, false)), .mv (.t 9)⟩,
  ⟨some 48, (some (46, false)), .mv (.t 11)⟩,
  ⟨some 49, (some (46, false)), .iaddr 5 (.t 47) (.t 48)⟩,
  ⟨some 50, (some (46, false)), .faddr 2 (.t 49)⟩,
  ⟨some 51, (some (46, false)), .load false 1 (.t 50)⟩,
  ⟨some 52, (some (46, false)), .load false 1 (.t 4)⟩,
  ⟨some 53, (some (46, false)), .bini .neq (.t 51) (.t 52)⟩,
  ⟨some 54, none, .pick (.t 46) (.c (.bool true)) (.t 53)⟩,
  ⟨some 31, none, .mv (.t 54)⟩])
 (.cond (.t 31)
 (.seq (.reg [⟨some 55, none, .mv (.t 8)⟩,
  ⟨some 6, none, .mv (.t 55)⟩,
  ⟨some 7, none, .mv (.c (.int .i64 1))⟩])
 .ret)
 (.seq (.reg [⟨some 57, none, .mv (.t 9)⟩,
  ⟨some 58, none, .mv (.t 12)⟩,
  ⟨some 59, none, .call 63 [(.t 57), (.t 58)]⟩,
  ⟨some 56, none, .mv (.t 59)⟩])
 (.cond (.t 56)
 (.seq (.reg [⟨some 60, none, .mv (.t 8)⟩,
  ⟨some 6, none, .mv (.t 60)⟩,
  ⟨some 7, none, .mv (.c (.int .i64 10))⟩])
 .ret)
 .skip)))))))
 (.seq (.reg [⟨some 61, none, .mv (.t 9)⟩,
  ⟨some 62, none, .mv (.t 10)⟩,
  ⟨some 63, none, .mv (.t 9)⟩,
  ⟨some 64, none, .mv (.t 11)⟩,
  ⟨some 65, none, .iaddr 5 (.t 63) (.t 64)⟩,
  ⟨some 66, none, .faddr 4 (.t 65)⟩,
  ⟨some 67, none, .load false 1 (.t 66)⟩,
  ⟨some 68, none, .call 49 [(.t 67)]⟩,
  ⟨some 69, none, .iaddr 5 (.t 61) (.t 62)⟩,
  ⟨some 70, none, .faddr 4 (.t 69)⟩,
  ⟨none, none, .store 1 (.t 70) (.t 68)⟩])
 (.seq (.reg [⟨some 71, none, .mv (.t 8)⟩,
  ⟨some 6, none, .mv (.t 71)⟩,
  ⟨some 7, none, .mv (.c (.int .i64 0))⟩])
 .ret))))))))
theorem d38 : FnD Tryz.prog 38 3 69 [.tmp 6, .tmp 7] c38 := ⟨Tryz.f38, _, Tryz.func38, by kernel_rfl, rfl, rfl, by kernel_rfl, by kernel_rfl⟩

end Go.Proofs.YtemjlopoffjmpaaGreat.Abs
/-
  The code of some functions in the abstract layer's form, each checked against the program's own. Written by gen.py.
-/
namespace Go.Proofs.YtemjlopoffjmpaaGreat.Abs
open Go

/-- palimp/dset.Destroy -/
def c32 : ACode :=
 (.seq (.reg [⟨some 3, none, .box (.t 1)⟩,
  ⟨some 4, none, .mv (.c (.emp))⟩,
  ⟨some 5, none, .mv (.c (.int .i64 0))⟩])
 (.seq (.reg [⟨some 12, none, .mv (.t 0)⟩,
  ⟨some 13, none, .call 56 [(.t 12)]⟩,
  ⟨some 6, none, .mv (.t 13)⟩])
 (.seq (.reg [⟨some 14, none, .mv (.t 6)⟩,
  ⟨some 7, none, .mv (.t 14)⟩])
 (.seq (.reg [⟨some 15, none, .mv (.t 7)⟩,
  ⟨some 16, none, .load false 1 (.t 3)⟩,
  ⟨some 17, none, .call 59 [(.t 15), (.t 16)]⟩,
  ⟨some 8, none, .mv (.t 17)⟩])
 (.seq (.reg [⟨some 9, none, .mv (.c (.int .i64 0))⟩])
 (.seq (.seq (.reg [⟨some 18, none, .mv (.t 7)⟩,
  ⟨some 19, none, .len false (.t 18)⟩,
  ⟨some 20, none, .mv (.c (.int .i64 0))⟩])
 (.block 0
 (.loop
 (.seq (.reg [⟨some 21, none, .bini .lss (.t 20) (.t 19)⟩])
 (.seq (.cond (.t 21)
 .skip
 (.exit 0))
 (.seq (.block 1
 (.seq (.reg [⟨some 22, none, .iaddr 5 (.t 18) (.t 20)⟩,
  ⟨some 23, none, .load true 5 (.t 22)⟩,
  ⟨some 11, none, .alloc [.int .i64 0, .int .i64 0, .int .i64 0, .int .i64 0, .emp]⟩,
  ⟨none, none, .store 5 (.t 11) (.t 23)⟩])
 (.seq (.reg [⟨some 24, none, .faddr 1 (.t 11)⟩,
  ⟨some 25, none, .load false 1 (.t 24)⟩,
  ⟨some 26, none, .bini .eql (.t 25) (.c (.int .i64 1))⟩])
 (.cond (.t 26)
 (.reg [⟨some 27, none, .mv (.t 9)⟩,
  ⟨some 28, none, .bini .add (.t 27) (.c (.int .i64 1))⟩,
  ⟨some 9, none, .mv (.t 28)⟩])
 .skip))))
 (.reg [⟨some 29, none, .bini .add (.t 20) (.c (.int .i64 1))⟩,
  ⟨some 20, none, .mv (.t 29)⟩])))))))
 (.seq (.block 2
 (.seq (.reg [⟨some 31, none, .mv (.t 8)⟩,
  ⟨some 32, none, .bini .lss (.t 31) (.c (.int .i64 0))⟩,
  ⟨some 30, none, .mv (.t 32)⟩])
 (.cond (.t 30)
 (.seq (.reg [⟨some 33, none, .mv (.t 6)⟩,
  ⟨some 4, none, .mv (.t 33)⟩,
  ⟨some 5, none, .mv (.c (.int .i64 2))⟩])
 .ret)
 (.seq (.seq (.reg [⟨some 35, none, .mv (.t 7)⟩,
  ⟨some 36, none, .mkfn (.func 64) [] [(.t 3)]⟩,
  ⟨some 37, none, .call 63 [(.t 35), (.t 36)]⟩,
  ⟨some 34, none, .mv (.t 37)⟩])
 (.cond (.t 34)
 .skip
 (.reg [⟨some 38, none, .mv (.t 7)⟩,
  ⟨some 39, none, .mv (.t 8)⟩,
  ⟨some 40, none, .iaddr 5 (.t 38) (.t 39)⟩,
  ⟨some 41, none, .faddr 1 (.t 40)⟩,
  ⟨some 42, none, .load false 1 (.t 41)⟩,
  ⟨some 43, none, .bini .eql (.t 42) (.c (.int .i64 1))⟩,
  ⟨some 44, none, .mv (.t 43)⟩,
  ⟨some 45, (some (44, true)), .mv (.t 9)⟩,
  ⟨some 46, (some (44, true)), .bini .eql (.t 45) (.c (.int .i64 1))⟩,
  ⟨some 47, none, .pick (.t 44) (.t 46) (.c (.bool false))⟩,
  ⟨some 34, none, .mv (.t 47)⟩])))
 (.cond (.t 34)
 (.seq (.reg [⟨some 48, none, .mv (.t 6)⟩,
  ⟨some 4, none, .mv (.t 48)⟩,
  ⟨some 5, none, .mv (.c (.int .i64 10))⟩])
 .ret)
 .skip)))))
 (.seq (.reg [⟨some 49, none, .mv (.t 6)⟩,
  ⟨some 50, none, .mv (.t 8)⟩,
  ⟨some 51, none, .mv (.t 8)⟩,
  ⟨some 52, none, .bini .add (.t 51) (.c (.int .i64 1))⟩,
  ⟨some 53, none, .call 65 [(.t 49), (.t 50), (.t 52)]⟩,
  ⟨some 4, none, .mv (.t 53)⟩,
  ⟨some 5, none, .mv (.c (.int .i64 0))⟩])
 .ret))))))))
theorem d32 : FnD Tryz.prog 32 2 52 [.tmp 4, .tmp 5] c32 := ⟨Tryz.f32, _, Tryz.func32, by kernel_rfl, rfl, rfl, by kernel_rfl, by kernel_rfl⟩

end Go.Proofs.YtemjlopoffjmpaaGreat.Abs
set_option linter.unusedSimpArgs false
set_option linter.unusedVariables false
namespace Go.Proofs.YtemjlopoffjmpaaGreat.Abs
open Go Go.Proofs

theorem renO_box (τ : Nat → Option Nat) (k : IntKind) (n : Int) : renO τ [[.int k n]] = [[.int k n]] := by simp [renO, renL, ren]
theorem is66_L (d : Dset) (i : Int) (l : List Dset) : C Tryz.prog 64 [.agg (cellD d), .ptr 1 0 0 1] [some (l.map cellD), some [[.int .i64 i]]] (fun x H' => x = .bool (decide (d.origin = i)) ∧ H' = [some (l.map cellD), some [[.int .i64 i]]]) :=
  C_call [1] (by simp) (by simp) (by simpa [renL, ren, toCallee, renO, cellD, aset, AH.at] using is66 d i) (by rintro _ _ ⟨rfl, rfl⟩; exact ⟨Nat.le_refl _, by simp [ren], by simp [back, setAll, renO, renL, ren]⟩)
/-- Does something hang on it? -/
def hangsA (l : List Dset) (i : Int) : Bool := decide (0 ≤ idxA (fun d => decide (d.origin = i)) l)
theorem hangs_at (l : List Dset) (hl : l.length ≤ 1000000) (i : Int) : C Tryz.prog 63 [.own 1 5 0 l.length l.length, .fn (.func 64) [] [.ptr 0 0 0 1]] [some [[.int .i64 i]], some (l.map cellD)] (fun x H' => x = .bool (hangsA l i) ∧ H' = [some [[.int .i64 i]], some (l.map cellD)]) :=
  C_call [1, 0] (by simp) (by simp) (K0 := fun x H' => x = .bool (decide (0 ≤ idxA (fun d => decide (d.origin = i)) l)) ∧ H' = [some (l.map cellD), some [[.int .i64 i]]])
    (by simpa [renL, ren, toCallee, renO_cells, renO_box, AH.at, show List.idxOf? 0 [1, 0] = some 1 from rfl, show List.idxOf? 1 [1, 0] = some 0 from rfl] using contains65 l hl [some [[.int .i64 i]]] 64 [.ptr 1 0 0 1] (fun d => decide (d.origin = i)) (fun d => is66_L d i l))
    (by rintro _ _ ⟨rfl, rfl⟩; exact ⟨Nat.le_refl _, by simp [ren, hangsA], by simp [back, setAll, renO_cells, renO_box]⟩)

def livesA (l : List Dset) : Nat := l.countP fun d => decide (d.kind = 1)
theorem livesA_take (l : List Dset) (k : Nat) (h : k < l.length) : livesA (l.take (k + 1)) = livesA (l.take k) + if (l.getD k default).kind = 1 then 1 else 0 := by
  unfold livesA
  rw [List.take_add_one, List.getElem?_eq_getElem h, List.countP_append]
  simp only [List.getD_eq_getElem?_getD, List.getElem?_eq_getElem h, Option.getD_some, Option.toList_some, List.countP_cons, List.countP_nil, decide_eq_true_eq]
  omega
theorem livesA_le (l : List Dset) : livesA l ≤ l.length := List.countP_le_length
/-- dset.Destroy -/
def destroyA (l : List Dset) (i : Int) : List Dset × Int :=
  if findA l i < 0 then (l, 2) else if hangsA l i = true ∨ ((l.getD (findA l i).toNat default).kind = 1 ∧ livesA l = 1) then (l, 10) else (l.eraseIdx (findA l i).toNat, 0)

theorem Wk_obj2 {fr fr' : List AV} {o o' : AObj} {G : AH} (ho : o.map (renL (upTo 2)) = o) (ho' : o'.map (renL (upTo 2)) = o') (h : Tops fr' (renL (upTo 2) fr)) : Wk 0 fr (some o :: some o' :: G) fr' [some o, some o'] := by
  have h1 := (Wk_forget (n0 := 0) (fr := fr) (H := some o :: some o' :: G) 2 (Nat.zero_le _)).trans (Wk_tops h)
  have e : mapH (renL (upTo 2)) ((some o :: some o' :: G).take 2) = [some o, some o'] := by
    simp only [List.take_succ_cons, List.take_zero, mapH, List.map_cons, List.map_nil, Option.map_some, ho, ho']
  rwa [e] at h1

theorem renO_del (τ : Nat → Option Nat) (l : List Dset) : renO τ (l.map cellD ++ [zeroC]) = l.map cellD ++ [zeroC] := by
  have := renO_cells τ l
  unfold renO at this ⊢
  rw [List.map_append, this]
  simp [zeroC, renL, ren]
theorem deleteAt (l : List Dset) (hl : l.length ≤ 1000000) (k : Nat) (hk : k < l.length) (r : Nat) (H : AH) (hr : H.at r = some (l.map cellD)) :
    C Tryz.prog 65 [.own r 5 0 l.length l.length, .int .i64 k, .int .i64 ((k + 1 : Nat) : Int)] H (fun x H' => x = .own r 5 0 (l.length - 1) l.length ∧ H' = H.set r (some ((l.eraseIdx k).map cellD ++ [zeroC]))) := by
  refine C_call [r] (by simp) (by simpa using at_lt hr) (K0 := fun x H' => x = .own 0 5 0 (l.length - 1) l.length ∧ H' = [some ((l.eraseIdx k).map cellD ++ [zeroC])]) ?_ ?_
  · simpa [renL, ren, toCallee, renO_cells, hr] using delete67 l hl k hk
  · rintro _ _ ⟨rfl, rfl⟩
    refine ⟨by simp, by simp [ren, toCaller], ?_⟩
    simp [back, setAll, renO_del]
theorem KWk_del {K : AV → AH → Prop} {H : AH} (r : Nat) (l : List Dset) (e : Int) (n : Nat) (hn : n = l.length + 1) (hat : H.at r = some (l.map cellD ++ [zeroC])) (hk : K (.tuple [asets l, .int .i64 e]) []) : KWk 0 K (.tuple [.own r 5 0 (n - 1) n, .int .i64 e]) H := by
  subst hn
  refine KWk_frozen r (l.map pdset ++ [[.int .i64 0, .int .i64 0, .int .i64 0, .int .i64 0, .emp]]) (by rw [List.map_append, cellsD]; exact hat) _ ?_ hk
  simp only [frzL, frz, renL, ren, asets, if_true, List.length_append, List.length_cons, List.length_nil, List.length_map, Nat.zero_add, Nat.le_refl, and_self, List.drop_zero, Nat.add_sub_cancel]
  rw [List.take_append_of_le_length (by simp), List.take_of_length_le (by simp)]
  simp [ren]
theorem destroy0 (l : List Dset) (hl : Short l) (i : Int) : C Tryz.prog 32 [asets l, .int .i64 i] [] (fun x H' => x = outA (destroyA l i) ∧ H' = []) := by
  have hl1 := hl.1
  refine C_body' d32 rfl (WT_ok ?_)
  unfold c32
  simp only [lay, wk3, onStO, bareL, toCl, onApO, chunks, wk, iaddrV_map, emb, unAgg, ares, aresL, ares1, tupled, forall_const, Nat.reduceAdd, Nat.reduceSub, Nat.reduceMul, Nat.reduceLeDiff, Nat.reduceEqDiff, Nat.reduceBEq, Int.reduceLE, Int.reduceLT, Int.reduceEq, Int.reduceNe, Int.reduceAdd, Int.reduceSub, Int.reduceToNat, Int.reduceNeg, ↓reduceIte, reduceCtorEq, cellsOf, cellA, lay, fillA]
  refine CT_ok (twinL l hl _) ?_
  rintro _ _ ⟨rfl, rfl⟩
  simp only [lay, wk3, onStO, bareL, toCl, onApO, chunks, wk, iaddrV_map, emb, unAgg, ares, aresL, ares1, tupled, forall_const, Nat.reduceAdd, Nat.reduceSub, Nat.reduceMul, Nat.reduceLeDiff, Nat.reduceEqDiff, Nat.reduceBEq, Int.reduceLE, Int.reduceLT, Int.reduceEq, Int.reduceNe, Int.reduceAdd, Int.reduceSub, Int.reduceToNat, Int.reduceNeg, ↓reduceIte, reduceCtorEq, cellsOf, cellA, lay, fillA]
  refine CT_ok (findAt l hl1 i 1 _ rfl) ?_
  rintro _ _ ⟨rfl, rfl⟩
  simp only [lay, wk3, onStO, bareL, toCl, onApO, chunks, wk, iaddrV_map, emb, unAgg, ares, aresL, ares1, tupled, forall_const, Nat.reduceAdd, Nat.reduceSub, Nat.reduceMul, Nat.reduceLeDiff, Nat.reduceEqDiff, Nat.reduceBEq, Int.reduceLE, Int.reduceLT, Int.reduceEq, Int.reduceNe, Int.reduceAdd, Int.reduceSub, Int.reduceToNat, Int.reduceNeg, ↓reduceIte, reduceCtorEq, cellsOf, cellA, lay, fillA]
  refine WT_loop (W_wk (fr' := [asets l, .int .i64 i, .top, .ptr 0 0 0 1, .emp, .int .i64 0, .own 1 5 0 l.length l.length, .own 1 5 0 l.length l.length, .int .i64 (findA l i), .int .i64 0, .top, .top, .top, .top, .top, .top, .top, .top, .own 1 5 0 l.length l.length, .int .i64 l.length, .int .i64 0] ++ List.replicate 33 .top) (Wk_tops ?_) (W_loop (fun n fr H' => ∃ k : Nat, k ≤ l.length ∧ n = l.length - k ∧ H' = [some [[.int .i64 i]], some (l.map cellD)] ∧
    fr = [asets l, .int .i64 i, .top, .ptr 0 0 0 1, .emp, .int .i64 0, .own 1 5 0 l.length l.length, .own 1 5 0 l.length l.length, .int .i64 (findA l i), .int .i64 (livesA (l.take k)), .top, .top, .top, .top, .top, .top, .top, .top, .own 1 5 0 l.length l.length, .int .i64 l.length, .int .i64 k] ++ List.replicate 33 .top) l.length ⟨0, by omega, rfl, rfl, rfl⟩ ?_))
  · simp only [List.replicate_succ, List.replicate_zero, List.cons_append, List.nil_append, Tops_top, Tops_same, Tops_nil]
  rintro n fr H' ⟨k, hk, rfl, rfl, rfl⟩
  refine WT_ok ?_
  simp only [lay, slicelV_own, slicelV_fz, onLive_some, RT_slicel, RE_slicel, slice3V_eq, room3_some, roomOf_own, roomOf_fz, RT_slice3, RT_calld, apI_some, clC_some, clearV_own, clearV_fz, wk3, onStO, bareL, toCl, onApO, chunks, wk, iaddrV_map, emb, unAgg, ares, aresL, ares1, tupled, forall_const, Nat.reduceAdd, Nat.reduceSub, Nat.reduceMul, Nat.reduceLeDiff, Nat.reduceEqDiff, Nat.reduceBEq, Int.reduceLE, Int.reduceLT, Int.reduceEq, Int.reduceNe, Int.reduceAdd, Int.reduceSub, Int.reduceToNat, Int.reduceNeg, ↓reduceIte, reduceCtorEq, cellsOf, cellA, lay, fillA]
  refine guard_both ?_ ?_ <;> intro h <;> simp only [hy] at h
  · have hk2 : k < l.length := by omega
    have hc := cell_at hk2
    have ht := livesA_take l k hk2
    have hle := livesA_le (l.take k)
    have hle2 : (l.take k).length ≤ l.length := by simp; omega
    have w2 : IntKind.i64.wrap ((k : Int) + 1) = (k : Int) + 1 := IntWalk.i64_in _ (by omega)
    have w3 : IntKind.i64.wrap ((livesA (l.take k) : Int) + 1) = ((livesA (l.take k) + 1 : Nat) : Int) := by rw [IntWalk.i64_in _ (by omega)]; omega
    have h0 : (0 : Int) ≤ k := by omega
    generalize l.getD k default = d at hc ht
    by_cases h1 : d.kind = 1
    · rw [if_pos h1] at ht
      simp only [h, h0, hc, h1, w2, w3, cellD, aset, lay, slicelV_own, slicelV_fz, onLive_some, RT_slicel, RE_slicel, slice3V_eq, room3_some, roomOf_own, roomOf_fz, RT_slice3, RT_calld, apI_some, clC_some, clearV_own, clearV_fz, wk3, onStO, bareL, toCl, onApO, chunks, wk, iaddrV_map, emb, unAgg, ares, aresL, ares1, tupled, forall_const, Nat.reduceAdd, Nat.reduceSub, Nat.reduceMul, Nat.reduceLeDiff, Nat.reduceEqDiff, Nat.reduceBEq, Int.reduceLE, Int.reduceLT, Int.reduceEq, Int.reduceNe, Int.reduceAdd, Int.reduceSub, Int.reduceToNat, Int.reduceNeg, ↓reduceIte, reduceCtorEq, cellsOf, cellA, lay, fillA]
      refine QLoop_wk (n' := l.length - (k + 1)) (by omega) ⟨k + 1, by omega, rfl, rfl, rfl⟩ (Wk_obj2 (renO_box _ _ _) (renO_cells _ _) ?_)
      simp only [ht, renL, ren, asets, upTo, show (0 : Nat) < 2 by omega, show (1 : Nat) < 2 by omega, if_true, List.replicate_succ, List.replicate_zero, List.cons_append, List.nil_append, Tops_top, Tops_same, Tops_nil, Int.natCast_add, Int.natCast_one]
    · replace ht : livesA (l.take (k + 1)) = livesA (l.take k) := by rw [ht, if_neg h1]; rfl
      simp only [h, h0, hc, h1, w2, cellD, aset, lay, slicelV_own, slicelV_fz, onLive_some, RT_slicel, RE_slicel, slice3V_eq, room3_some, roomOf_own, roomOf_fz, RT_slice3, RT_calld, apI_some, clC_some, clearV_own, clearV_fz, wk3, onStO, bareL, toCl, onApO, chunks, wk, iaddrV_map, emb, unAgg, ares, aresL, ares1, tupled, forall_const, Nat.reduceAdd, Nat.reduceSub, Nat.reduceMul, Nat.reduceLeDiff, Nat.reduceEqDiff, Nat.reduceBEq, Int.reduceLE, Int.reduceLT, Int.reduceEq, Int.reduceNe, Int.reduceAdd, Int.reduceSub, Int.reduceToNat, Int.reduceNeg, ↓reduceIte, reduceCtorEq, cellsOf, cellA, lay, fillA]
      refine QLoop_wk (n' := l.length - (k + 1)) (by omega) ⟨k + 1, by omega, rfl, rfl, rfl⟩ (Wk_obj2 (renO_box _ _ _) (renO_cells _ _) ?_)
      simp only [ht, renL, ren, asets, upTo, show (0 : Nat) < 2 by omega, show (1 : Nat) < 2 by omega, if_true, List.replicate_succ, List.replicate_zero, List.cons_append, List.nil_append, Tops_top, Tops_same, Tops_nil, Int.natCast_add, Int.natCast_one]
  · have : k = l.length := by omega
    subst this
    have hl2 : l.take l.length = l := List.take_length
    have hle := livesA_le l
    simp only [h, hl2, lay, slicelV_own, slicelV_fz, onLive_some, RT_slicel, RE_slicel, slice3V_eq, room3_some, roomOf_own, roomOf_fz, RT_slice3, RT_calld, apI_some, clC_some, clearV_own, clearV_fz, wk3, onStO, bareL, toCl, onApO, chunks, wk, iaddrV_map, emb, unAgg, ares, aresL, ares1, tupled, forall_const, Nat.reduceAdd, Nat.reduceSub, Nat.reduceMul, Nat.reduceLeDiff, Nat.reduceEqDiff, Nat.reduceBEq, Int.reduceLE, Int.reduceLT, Int.reduceEq, Int.reduceNe, Int.reduceAdd, Int.reduceSub, Int.reduceToNat, Int.reduceNeg, ↓reduceIte, reduceCtorEq, cellsOf, cellA, lay, fillA]
    rcases find_of (l := l) (i := i) with ⟨e, _⟩ | ⟨k, e, hk3, _, _⟩
    · have hA : destroyA l i = (l, 2) := by unfold destroyA; rw [e]; rfl
      simp only [e, hA, lay, slicelV_own, slicelV_fz, onLive_some, RT_slicel, RE_slicel, slice3V_eq, room3_some, roomOf_own, roomOf_fz, RT_slice3, RT_calld, apI_some, clC_some, clearV_own, clearV_fz, wk3, onStO, bareL, toCl, onApO, chunks, wk, iaddrV_map, emb, unAgg, ares, aresL, ares1, tupled, forall_const, Nat.reduceAdd, Nat.reduceSub, Nat.reduceMul, Nat.reduceLeDiff, Nat.reduceEqDiff, Nat.reduceBEq, Int.reduceLE, Int.reduceLT, Int.reduceEq, Int.reduceNe, Int.reduceAdd, Int.reduceSub, Int.reduceToNat, Int.reduceNeg, ↓reduceIte, reduceCtorEq, cellsOf, cellA, lay, fillA]
      exact KWk_sets 1 l 2 _ rfl rfl ⟨rfl, rfl⟩
    · have hc := cell_at hk3
      have h0 : (0 : Int) ≤ k := by omega
      have h1 : (k : Int) < l.length := by omega
      have h2 : ¬ (k : Int) < 0 := by omega
      have w2 : IntKind.i64.wrap ((k : Int) + 1) = ((k + 1 : Nat) : Int) := by rw [IntWalk.i64_in _ (by omega)]; omega
      simp only [e, h2, lay, slicelV_own, slicelV_fz, onLive_some, RT_slicel, RE_slicel, slice3V_eq, room3_some, roomOf_own, roomOf_fz, RT_slice3, RT_calld, apI_some, clC_some, clearV_own, clearV_fz, wk3, onStO, bareL, toCl, onApO, chunks, wk, iaddrV_map, emb, unAgg, ares, aresL, ares1, tupled, forall_const, Nat.reduceAdd, Nat.reduceSub, Nat.reduceMul, Nat.reduceLeDiff, Nat.reduceEqDiff, Nat.reduceBEq, Int.reduceLE, Int.reduceLT, Int.reduceEq, Int.reduceNe, Int.reduceAdd, Int.reduceSub, Int.reduceToNat, Int.reduceNeg, ↓reduceIte, reduceCtorEq, cellsOf, cellA, lay, fillA]
      refine CT_ok (hangs_at l hl1 i) ?_
      rintro _ _ ⟨rfl, rfl⟩
      cases hh : hangsA l i
      · have hbare : (l.eraseIdx k).length + 1 = l.length := by rw [List.length_eraseIdx, if_pos hk3]; omega
        by_cases hk1 : (l.getD k default).kind = 1
        · by_cases hk4 : (livesA l : Int) = 1
          · have hA : destroyA l i = (l, 10) := by unfold destroyA; rw [e, if_neg h2, if_pos (.inr ⟨by rw [Int.toNat_natCast]; exact hk1, by omega⟩)]
            simp only [hA, hc, h0, h1, hk1, hk4, cellD, aset, lay, slicelV_own, slicelV_fz, onLive_some, RT_slicel, RE_slicel, slice3V_eq, room3_some, roomOf_own, roomOf_fz, RT_slice3, RT_calld, apI_some, clC_some, clearV_own, clearV_fz, wk3, onStO, bareL, toCl, onApO, chunks, wk, iaddrV_map, emb, unAgg, ares, aresL, ares1, tupled, forall_const, Nat.reduceAdd, Nat.reduceSub, Nat.reduceMul, Nat.reduceLeDiff, Nat.reduceEqDiff, Nat.reduceBEq, Int.reduceLE, Int.reduceLT, Int.reduceEq, Int.reduceNe, Int.reduceAdd, Int.reduceSub, Int.reduceToNat, Int.reduceNeg, ↓reduceIte, reduceCtorEq, cellsOf, cellA, lay, fillA]
            exact KWk_sets 1 l 10 _ rfl rfl ⟨rfl, rfl⟩
          · have hA : destroyA l i = (l.eraseIdx k, 0) := by unfold destroyA; rw [e, if_neg h2, if_neg (fun h => h.elim (fun h => by rw [hh] at h; cases h) (fun h => hk4 (by omega))), Int.toNat_natCast]
            simp only [hA, hc, h0, h1, hk1, hk4, w2, cellD, aset, lay, slicelV_own, slicelV_fz, onLive_some, RT_slicel, RE_slicel, slice3V_eq, room3_some, roomOf_own, roomOf_fz, RT_slice3, RT_calld, apI_some, clC_some, clearV_own, clearV_fz, wk3, onStO, bareL, toCl, onApO, chunks, wk, iaddrV_map, emb, unAgg, ares, aresL, ares1, tupled, forall_const, Nat.reduceAdd, Nat.reduceSub, Nat.reduceMul, Nat.reduceLeDiff, Nat.reduceEqDiff, Nat.reduceBEq, Int.reduceLE, Int.reduceLT, Int.reduceEq, Int.reduceNe, Int.reduceAdd, Int.reduceSub, Int.reduceToNat, Int.reduceNeg, ↓reduceIte, reduceCtorEq, cellsOf, cellA, lay, fillA]
            refine CT_ok (deleteAt l hl1 k hk3 1 _ rfl) ?_
            rintro _ _ ⟨rfl, rfl⟩
            simp only [lay, slicelV_own, slicelV_fz, onLive_some, RT_slicel, RE_slicel, slice3V_eq, room3_some, roomOf_own, roomOf_fz, RT_slice3, RT_calld, apI_some, clC_some, clearV_own, clearV_fz, wk3, onStO, bareL, toCl, onApO, chunks, wk, iaddrV_map, emb, unAgg, ares, aresL, ares1, tupled, forall_const, Nat.reduceAdd, Nat.reduceSub, Nat.reduceMul, Nat.reduceLeDiff, Nat.reduceEqDiff, Nat.reduceBEq, Int.reduceLE, Int.reduceLT, Int.reduceEq, Int.reduceNe, Int.reduceAdd, Int.reduceSub, Int.reduceToNat, Int.reduceNeg, ↓reduceIte, reduceCtorEq, cellsOf, cellA, lay, fillA]
            exact KWk_del 1 (l.eraseIdx k) 0 _ (by omega) rfl ⟨by rw [hA]; rfl, rfl⟩
        · have hA : destroyA l i = (l.eraseIdx k, 0) := by unfold destroyA; rw [e, if_neg h2, if_neg (fun h => h.elim (fun h => by rw [hh] at h; cases h) (fun h => hk1 (by rw [← h.1, Int.toNat_natCast]))), Int.toNat_natCast]
          simp only [hA, hc, h0, h1, hk1, w2, cellD, aset, lay, slicelV_own, slicelV_fz, onLive_some, RT_slicel, RE_slicel, slice3V_eq, room3_some, roomOf_own, roomOf_fz, RT_slice3, RT_calld, apI_some, clC_some, clearV_own, clearV_fz, wk3, onStO, bareL, toCl, onApO, chunks, wk, iaddrV_map, emb, unAgg, ares, aresL, ares1, tupled, forall_const, Nat.reduceAdd, Nat.reduceSub, Nat.reduceMul, Nat.reduceLeDiff, Nat.reduceEqDiff, Nat.reduceBEq, Int.reduceLE, Int.reduceLT, Int.reduceEq, Int.reduceNe, Int.reduceAdd, Int.reduceSub, Int.reduceToNat, Int.reduceNeg, ↓reduceIte, reduceCtorEq, cellsOf, cellA, lay, fillA]
          refine CT_ok (deleteAt l hl1 k hk3 1 _ rfl) ?_
          rintro _ _ ⟨rfl, rfl⟩
          simp only [lay, slicelV_own, slicelV_fz, onLive_some, RT_slicel, RE_slicel, slice3V_eq, room3_some, roomOf_own, roomOf_fz, RT_slice3, RT_calld, apI_some, clC_some, clearV_own, clearV_fz, wk3, onStO, bareL, toCl, onApO, chunks, wk, iaddrV_map, emb, unAgg, ares, aresL, ares1, tupled, forall_const, Nat.reduceAdd, Nat.reduceSub, Nat.reduceMul, Nat.reduceLeDiff, Nat.reduceEqDiff, Nat.reduceBEq, Int.reduceLE, Int.reduceLT, Int.reduceEq, Int.reduceNe, Int.reduceAdd, Int.reduceSub, Int.reduceToNat, Int.reduceNeg, ↓reduceIte, reduceCtorEq, cellsOf, cellA, lay, fillA]
          exact KWk_del 1 (l.eraseIdx k) 0 _ (by omega) rfl ⟨by rw [hA]; rfl, rfl⟩
      · have hA : destroyA l i = (l, 10) := by unfold destroyA; rw [e, if_neg h2, if_pos (.inl hh)]
        simp only [hA, lay, slicelV_own, slicelV_fz, onLive_some, RT_slicel, RE_slicel, slice3V_eq, room3_some, roomOf_own, roomOf_fz, RT_slice3, RT_calld, apI_some, clC_some, clearV_own, clearV_fz, wk3, onStO, bareL, toCl, onApO, chunks, wk, iaddrV_map, emb, unAgg, ares, aresL, ares1, tupled, forall_const, Nat.reduceAdd, Nat.reduceSub, Nat.reduceMul, Nat.reduceLeDiff, Nat.reduceEqDiff, Nat.reduceBEq, Int.reduceLE, Int.reduceLT, Int.reduceEq, Int.reduceNe, Int.reduceAdd, Int.reduceSub, Int.reduceToNat, Int.reduceNeg, ↓reduceIte, reduceCtorEq, cellsOf, cellA, lay, fillA]
        exact KWk_sets 1 l 10 _ rfl rfl ⟨rfl, rfl⟩
end Go.Proofs.YtemjlopoffjmpaaGreat.Abs
set_option linter.unusedSimpArgs false
set_option linter.unusedVariables false
namespace Go.Proofs.YtemjlopoffjmpaaGreat.Abs
open Go Go.Proofs

section
variable {c : Nat} {H : AH} {late : List Loc → List Loc → Prop} {K : List Nat → Nat → AV → AH → Prop} {t : Tag K}
end
theorem set_cellD (l : List Dset) (k : Nat) (d : Dset) : (l.map cellD).set k (cellD d) = (l.set k d).map cellD := by rw [List.map_set]
/-- dset.Back -/
def backA (l : List Dset) (i j : Int) : List Dset × Int :=
  if findA l i < 0 ∨ findA l j < 0 then (l, 2) else
  let d := l.getD (findA l i).toNat default
  let s := l.getD (findA l j).toNat default
  if d.kind ≠ 1 ∨ s.kind ≠ 2 ∨ s.origin ≠ i then (l, 1) else if 0 ≤ idxA (laterA i j) l then (l, 10) else (l.set (findA l i).toNat { d with files := s.files }, 0)

end Go.Proofs.YtemjlopoffjmpaaGreat.Abs
set_option linter.unusedSimpArgs false
set_option linter.unusedVariables false
namespace Go.Proofs.YtemjlopoffjmpaaGreat.Abs
open Go Go.Proofs

/-- The first k of them are turned. -/
def someA (g : Dset → Dset) (l : List Dset) (k : Nat) : List Dset := (l.map g).take k ++ l.drop k
theorem someA_get (g : Dset → Dset) (l : List Dset) (k j : Nat) (hk : k ≤ l.length) : (someA g l k)[j]? = if j < k then (l[j]?).map g else l[j]? := by
  unfold someA
  rw [List.getElem?_append, List.length_take, List.length_map, Nat.min_eq_left hk]
  by_cases h : j < k
  · rw [if_pos h, if_pos h, List.getElem?_take, if_pos h, List.getElem?_map]
  · rw [if_neg h, if_neg h, List.getElem?_drop]; congr 1; omega
theorem someA_len (g : Dset → Dset) (l : List Dset) (k : Nat) (hk : k ≤ l.length) : (someA g l k).length = l.length := by
  unfold someA
  simp; omega
theorem someA_succ (g : Dset → Dset) (l : List Dset) (k : Nat) (hk : k < l.length) : (someA g l k).set k (g (l.getD k default)) = someA g l (k + 1) := by
  apply List.ext_getElem?
  intro j
  rw [List.getElem?_set, someA_get _ _ _ _ (by omega), someA_get _ _ _ _ (by omega), someA_len _ _ _ (by omega)]
  by_cases h : k = j
  · subst h
    rw [if_pos rfl, if_pos hk, if_pos (by omega), List.getElem?_eq_getElem hk, List.getD_eq_getElem?_getD, List.getElem?_eq_getElem hk]; rfl
  · rw [if_neg h]
    by_cases h2 : j < k
    · rw [if_pos h2, if_pos (by omega)]
    · rw [if_neg h2, if_neg (by omega)]
theorem someA_getD (g : Dset → Dset) (l : List Dset) (k j : Nat) (hk : k ≤ l.length) : (someA g l k).getD j default = if j < k ∧ j < l.length then g (l.getD j default) else l.getD j default := by
  rw [List.getD_eq_getElem?_getD, someA_get _ _ _ _ hk]
  by_cases h : j < k
  · rw [if_pos h, if_pos ⟨h, by omega⟩, List.getElem?_eq_getElem (show j < l.length by omega), List.getD_eq_getElem?_getD, List.getElem?_eq_getElem (show j < l.length by omega)]; rfl
  · rw [if_neg h, if_neg (by omega), List.getD_eq_getElem?_getD]
theorem someA_zero (g : Dset → Dset) (l : List Dset) : someA g l 0 = l := by simp [someA]
theorem someA_all (g : Dset → Dset) (l : List Dset) : someA g l l.length = l.map g := by
  unfold someA
  rw [List.take_of_length_le (by simp), List.drop_length, List.append_nil]

/-- A snapshot of one set, as old as another or older, becomes another set's. -/
def turnA (was sid i : Int) (x : Dset) : Dset := if x.kind = 2 ∧ x.origin = was ∧ x.id ≤ sid then ⟨x.id, x.kind, i, x.quota, x.files⟩ else x
def reorig (d : Dset) (o : Int) : Dset := ⟨d.id, d.kind, o, d.quota, d.files⟩
/-- dset.Promote, of sets that are found. -/
def promoted (l : List Dset) (i : Int) (ki ks ko : Nat) : List Dset :=
  let was := (l.getD ks default).origin
  let l1 := l.set ki (reorig (l.getD ki default) (l.getD ko default).origin)
  let l2 := l1.set ko (reorig (l1.getD ko default) (l.getD ks default).id)
  l2.map (turnA was (l.getD ks default).id i)
/-- dset.Promote -/
def promoteA (l : List Dset) (i : Int) : List Dset × Int :=
  if findA l i < 0 then (l, 2) else
  let d := l.getD (findA l i).toNat default
  if d.kind ≠ 1 ∨ d.origin = 0 then (l, 1) else
  let s := l.getD (findA l d.origin).toNat default
  if findA l d.origin < 0 ∨ isA l s.origin 1 = false then (l, 1) else (promoted l i (findA l i).toNat (findA l d.origin).toNat (findA l s.origin).toNat, 0)

end Go.Proofs.YtemjlopoffjmpaaGreat.Abs
set_option linter.unusedSimpArgs false
set_option linter.unusedVariables false
namespace Go.Proofs.YtemjlopoffjmpaaGreat.Abs
open Go Go.Proofs

theorem MayD.mono {l l' : List Dset} {d : Dset} (h : MayD l d) (hs : ∀ o ∈ l, ∃ o' ∈ l', o'.id = o.id ∧ o'.kind = o.kind) : MayD l' d := by
  refine ⟨h.id, h.quota, h.files, h.kinds, fun e => ?_, fun e => ?_⟩
  · obtain ⟨h1, o, ho, hi, hk⟩ := h.snap e
    obtain ⟨o', ho', hi', hk'⟩ := hs o ho
    exact ⟨h1, o', ho', by omega, by omega⟩
  · rcases h.live e with h1 | ⟨o, ho, hi, hk⟩
    · exact .inl h1
    · obtain ⟨o', ho', hi', hk'⟩ := hs o ho
      exact .inr ⟨o', ho', by omega, by omega⟩
/-- An origin is none, or there. -/
theorem MayD.origin {l : List Dset} {d : Dset} (h : MayD l d) : d.origin = 0 ∨ ∃ o ∈ l, o.id = d.origin := by
  rcases h.kinds with e | e
  · rcases h.live e with h1 | ⟨o, ho, hi, _⟩
    · exact .inl h1
    · exact .inr ⟨o, ho, hi⟩
  · obtain ⟨_, o, ho, hi, _⟩ := h.snap e
    exact .inr ⟨o, ho, hi⟩

theorem addA_may {l : List Dset} (h : MayL l) {next : Int} {x : Dset} (hf : Wf x.files) (hq : 0 ≤ x.quota ∧ x.quota ≤ 255)
    (hk : (x.kind = 1 ∧ (x.origin = 0 ∨ ∃ o ∈ l, o.id = x.origin ∧ o.kind = 2)) ∨ (x.kind = 2 ∧ x.quota = 0 ∧ ∃ o ∈ l, o.id = x.origin ∧ o.kind = 1)) : MayL (addA l next x).1 := by
  unfold addA
  split
  case isFalse => exact h
  case isTrue hok =>
    simp only [addOk, Bool.and_eq_true, Bool.or_eq_true, decide_eq_true_eq] at hok
    obtain ⟨⟨⟨h1, h2⟩, h3⟩, h4⟩ := hok
    have hlt : ∀ d ∈ l, d.id < next := fun d hd => by
      obtain ⟨n, hn, rfl⟩ := mem_dgetD hd
      rcases h4 with h4 | h4
      · omega
      · rcases Nat.lt_or_ge n (l.length - 1) with h5 | h5
        · have := h.lt h5 (by omega); omega
        · have : n = l.length - 1 := by omega
          rw [this]; exact h4
    have hox : x.origin = 0 ∨ ∃ o ∈ l, o.id = x.origin := by
      rcases hk with ⟨_, h5 | ⟨o, ho, hi, _⟩⟩ | ⟨_, _, o, ho, hi, _⟩
      · exact .inl h5
      · exact .inr ⟨o, ho, hi⟩
      · exact .inr ⟨o, ho, hi⟩
    have hne : x.origin ≠ next := by
      rcases hox with h5 | ⟨o, ho, hi⟩
      · omega
      · have := hlt o ho; omega
    have hsub : ∀ o ∈ l, ∃ o' ∈ l ++ [({ x with id := next } : Dset)], o'.id = o.id ∧ o'.kind = o.kind := fun o ho => ⟨o, by simp [ho], rfl, rfl⟩
    refine ⟨by simp; omega, ?_, fun d hd => ?_, ?_⟩
    · rw [List.pairwise_append]
      refine ⟨h.sorted, by simp, fun a ha b hb => ?_⟩
      rw [List.mem_singleton] at hb
      subst hb
      exact hlt a ha
    · rcases List.mem_append.1 hd with hd | hd
      · exact (h.each d hd).mono hsub
      · rw [List.mem_singleton] at hd
        subst hd
        refine ⟨⟨h2, h3⟩, hq, hf, ?_, fun e => ?_, fun e => ?_⟩
        · rcases hk with ⟨e, _⟩ | ⟨e, _⟩
          · exact .inl e
          · exact .inr e
        · rcases hk with ⟨e', _⟩ | ⟨_, e2, o, ho, hi, hok⟩
          · have : x.kind = 2 := e
            omega
          · exact ⟨e2, o, by simp [ho], hi, hok⟩
        · rcases hk with ⟨_, h5 | ⟨o, ho, hi, hok⟩⟩ | ⟨e', _⟩
          · exact .inl h5
          · exact .inr ⟨o, by simp [ho], hi, hok⟩
          · have : x.kind = 1 := e
            omega
    · obtain ⟨r, hr⟩ := h.tree
      refine ⟨fun i => if i = next then r x.origin + 1 else r i, fun d hd o ho e => ?_⟩
      show (if o.id = next then _ else _) < (if d.id = next then _ else _)
      rcases List.mem_append.1 hd with hd | hd
      · have hd1 := hlt d hd
        rw [if_neg (show ¬ d.id = next by omega)]
        rcases List.mem_append.1 ho with ho | ho
        · have ho1 := hlt o ho
          rw [if_neg (by omega)]
          exact hr d hd o ho e
        · rw [List.mem_singleton] at ho
          subst ho
          exfalso
          have e' : next = d.origin := e
          rcases (h.each d hd).origin with h5 | ⟨o, ho, hi⟩
          · omega
          · have := hlt o ho; omega
      · rw [List.mem_singleton] at hd
        subst hd
        rw [if_pos rfl]
        rcases List.mem_append.1 ho with ho | ho
        · have ho1 := hlt o ho
          rw [if_neg (by omega)]
          have e' : o.id = x.origin := e
          rw [e']; omega
        · rw [List.mem_singleton] at ho
          subst ho
          exfalso
          have e' : next = x.origin := e
          exact hne e'.symm
theorem createA_may {l : List Dset} (h : MayL l) (next q : Int) : MayL (createA l next q).1 := by
  unfold createA
  split
  · exact h
  · exact addA_may h newA_wf ⟨by show 0 ≤ q; omega, by show q ≤ 255; omega⟩ (.inl ⟨rfl, .inl rfl⟩)
theorem snapA_may {l : List Dset} (h : MayL l) (next i : Int) : MayL (snapA l next i).1 := by
  unfold snapA
  cases hg : getA l i with
  | none => exact h
  | some d =>
    obtain ⟨hd, hi⟩ := getA_mem hg
    have hm := h.each d hd
    simp only
    split
    · exact h
    · rename_i hk
      exact addA_may h hm.files ⟨Int.le_refl 0, by show (0 : Int) ≤ 255; omega⟩ (.inr ⟨rfl, rfl, d, hd, hi, by rcases hm.kinds with e | e; exact e; exact absurd e hk⟩)
theorem cloneA_may {l : List Dset} (h : MayL l) (next i : Int) : MayL (cloneA l next i).1 := by
  unfold cloneA
  cases hg : getA l i with
  | none => exact h
  | some d =>
    obtain ⟨hd, hi⟩ := getA_mem hg
    have hm := h.each d hd
    simp only
    split
    · rename_i hk
      exact addA_may h hm.files ⟨Int.le_refl 0, by show (0 : Int) ≤ 255; omega⟩ (.inl ⟨rfl, .inr ⟨d, hd, hi, hk⟩⟩)
    · exact h
theorem eraseIdx_mem {l : List Dset} (h : MayL l) {k : Nat} (hk : k < l.length) {d : Dset} : d ∈ l.eraseIdx k ↔ d ∈ l ∧ d.id ≠ (l.getD k default).id := by
  rw [List.mem_eraseIdx_iff_getElem]
  constructor
  · rintro ⟨j, hj, hjk, rfl⟩
    refine ⟨List.getElem_mem hj, fun e => hjk ?_⟩
    have : (l.getD j default).id = (l.getD k default).id := by
      rw [List.getD_eq_getElem?_getD, List.getElem?_eq_getElem hj]; exact e
    exact h.inj hj hk this
  · rintro ⟨hd, hne⟩
    obtain ⟨j, hj, rfl⟩ := mem_dgetD hd
    refine ⟨j, hj, fun e => hne (by rw [e]), ?_⟩
    rw [List.getD_eq_getElem?_getD, List.getElem?_eq_getElem hj]; rfl
theorem hangsA_false {l : List Dset} {i : Int} (h : ¬ hangsA l i = true) : ∀ d ∈ l, d.origin ≠ i := by
  intro d hd e
  apply h
  unfold hangsA
  obtain ⟨n, hn, rfl⟩ := mem_dgetD hd
  rcases idxA_cases (fun d => decide (d.origin = i)) l with ⟨_, h2⟩ | ⟨k, h1, _, _⟩
  · have h3 := of_decide_eq_false (h2 n hn)
    exact absurd e h3
  · rw [h1]; exact decide_eq_true (by omega)
theorem destroyA_may {l : List Dset} (h : MayL l) (i : Int) : MayL (destroyA l i).1 := by
  unfold destroyA
  split
  · exact h
  · rename_i h1
    split
    · exact h
    · rename_i h2
      rcases find_of (l := l) (i := i) with ⟨e, _⟩ | ⟨k, e, hk, hid, _⟩
      · omega
      · rw [e, Int.toNat_natCast]
        have hno := hangsA_false (fun hh => h2 (.inl hh))
        have hsub : ∀ d ∈ l.eraseIdx k, d ∈ l := fun d hd => ((eraseIdx_mem h hk).1 hd).1
        have hle := List.length_eraseIdx_le l k
        refine ⟨by have := h.len; show (l.eraseIdx k).length ≤ 8; omega, h.sorted.sublist (List.eraseIdx_sublist l k), fun d hd => ?_, ?_⟩
        · have hdl := hsub d hd
          have hm := h.each d hdl
          refine ⟨hm.id, hm.quota, hm.files, hm.kinds, fun e => ?_, fun e => ?_⟩
          · obtain ⟨h3, o, ho, hoi, hok⟩ := hm.snap e
            exact ⟨h3, o, (eraseIdx_mem h hk).2 ⟨ho, fun e2 => hno d hdl (by omega)⟩, hoi, hok⟩
          · rcases hm.live e with h3 | ⟨o, ho, hoi, hok⟩
            · exact .inl h3
            · exact .inr ⟨o, (eraseIdx_mem h hk).2 ⟨ho, fun e2 => hno d hdl (by omega)⟩, hoi, hok⟩
        · obtain ⟨r, hr⟩ := h.tree
          exact ⟨r, fun d hd o ho e => hr d (hsub d hd) o (hsub o ho) e⟩
/-- Sets that are turned one by one, IDs and kinds kept. -/
theorem MayL.map {l : List Dset} (h : MayL l) (f : Dset → Dset) (hid : ∀ d ∈ l, (f d).id = d.id) (hkind : ∀ d ∈ l, (f d).kind = d.kind) (hquota : ∀ d ∈ l, (f d).quota = d.quota) (hfiles : ∀ d ∈ l, Wf (f d).files)
    (hsnap : ∀ d ∈ l, d.kind = 2 → ∃ o ∈ l, o.id = (f d).origin ∧ o.kind = 1) (hlive : ∀ d ∈ l, d.kind = 1 → (f d).origin = 0 ∨ ∃ o ∈ l, o.id = (f d).origin ∧ o.kind = 2)
    (r : Int → Nat) (hr : ∀ d ∈ l, ∀ o ∈ l, o.id = (f d).origin → r o.id < r d.id) : MayL (l.map f) := by
  have hmem : ∀ d ∈ l.map f, ∃ d0 ∈ l, f d0 = d := fun d hd => by
    obtain ⟨d0, h0, e⟩ := List.mem_map.1 hd
    exact ⟨d0, h0, e⟩
  refine ⟨by rw [List.length_map]; exact h.len, ?_, fun d hd => ?_, r, fun d hd o ho e => ?_⟩
  · rw [List.pairwise_map]
    refine h.sorted.imp_of_mem fun ha hb hab => ?_
    rw [hid _ ha, hid _ hb]; exact hab
  · obtain ⟨d0, h0, rfl⟩ := hmem d hd
    have hm := h.each d0 h0
    refine ⟨by rw [hid d0 h0]; exact hm.id, by rw [hquota d0 h0]; exact hm.quota, hfiles d0 h0, by rw [hkind d0 h0]; exact hm.kinds, fun e => ?_, fun e => ?_⟩
    · rw [hkind d0 h0] at e
      obtain ⟨o, ho, hoi, hok⟩ := hsnap d0 h0 e
      exact ⟨by rw [hquota d0 h0]; exact (hm.snap e).1, f o, List.mem_map.2 ⟨o, ho, rfl⟩, by rw [hid o ho]; exact hoi, by rw [hkind o ho]; exact hok⟩
    · rw [hkind d0 h0] at e
      rcases hlive d0 h0 e with h1 | ⟨o, ho, hoi, hok⟩
      · exact .inl h1
      · exact .inr ⟨f o, List.mem_map.2 ⟨o, ho, rfl⟩, by rw [hid o ho]; exact hoi, by rw [hkind o ho]; exact hok⟩
  · obtain ⟨d0, h0, rfl⟩ := hmem d hd
    obtain ⟨o0, h1, rfl⟩ := hmem o ho
    rw [hid d0 h0, hid o0 h1]
    rw [hid o0 h1] at e
    exact hr d0 h0 o0 h1 e
theorem set_map {l : List Dset} (h : MayL l) {k : Nat} (hk : k < l.length) (g : Dset → Dset) : l.set k (g (l.getD k default)) = l.map fun d => if d.id = (l.getD k default).id then g d else d := by
  apply List.ext_getElem?
  intro j
  rw [List.getElem?_set, List.getElem?_map]
  by_cases hjl : j < l.length
  · have hj : l[j] = l.getD j default := by rw [List.getD_eq_getElem?_getD, List.getElem?_eq_getElem hjl]; rfl
    rw [List.getElem?_eq_getElem hjl, Option.map_some, hj]
    by_cases hkj : k = j
    · subst hkj; rw [if_pos rfl, if_pos hk, if_pos rfl]
    · rw [if_neg hkj, if_neg fun e => hkj (h.inj hk hjl e.symm)]
  · rw [List.getElem?_eq_none (by omega)]
    by_cases hkj : k = j
    · omega
    · rw [if_neg hkj]; rfl
theorem backA_may {l : List Dset} (h : MayL l) (i j : Int) : MayL (backA l i j).1 := by
  unfold backA
  split
  · exact h
  · rename_i h1
    rcases find_of (l := l) (i := i) with ⟨e, _⟩ | ⟨k, e, hk, hid, _⟩
    · omega
    rcases find_of (l := l) (i := j) with ⟨e', _⟩ | ⟨m, e', hm, hid', _⟩
    · omega
    rw [e, e', Int.toNat_natCast, Int.toNat_natCast]
    simp only
    split
    · exact h
    · split
      · exact h
      · show MayL (l.set k _)
        rw [set_map h hk (fun d => { d with files := (l.getD m default).files })]
        obtain ⟨r, hr⟩ := h.tree
        have hfm := (h.each _ (dgetD_mem hm)).files
        refine h.map _ (fun d _ => by split <;> rfl) (fun d _ => by split <;> rfl) (fun d _ => by split <;> rfl) (fun d hd => ?_) (fun d hd e => ?_) (fun d hd e => ?_) r (fun d hd o ho e => ?_)
        · split
          · exact hfm
          · exact (h.each d hd).files
        · have := ((h.each d hd).snap e).2
          split <;> exact this
        · have := (h.each d hd).live e
          split <;> exact this
        · have : o.id = d.origin := by
            rw [e]; split <;> rfl
          exact hr d hd o ho this
theorem isA_true {l : List Dset} {i k : Int} (h : isA l i k = true) : ∃ o : Nat, findA l i = o ∧ o < l.length ∧ (l.getD o default).id = i ∧ (l.getD o default).kind = k := by
  unfold isA at h
  rw [Bool.and_eq_true] at h
  have h1 := of_decide_eq_true h.1
  have h2 := of_decide_eq_true h.2
  rcases find_of (l := l) (i := i) with ⟨e, _⟩ | ⟨o, e, ho, hoi, _⟩
  · omega
  · rw [e, Int.toNat_natCast] at h2
    exact ⟨o, e, ho, hoi, h2⟩
theorem turnA_live {was sid i : Int} {x : Dset} (h : x.kind = 1) : turnA was sid i x = x := by
  unfold turnA
  rw [if_neg fun hh => by omega]
theorem turnA_re {was sid i : Int} {x : Dset} (v : Int) (h : x.kind = 1) : turnA was sid i (reorig x v) = reorig x v := turnA_live (x := reorig x v) h
/-- How each set is turned. -/
def proF (c o s x : Dset) : Dset := if x.id = c.id then reorig x o.origin else if x.id = o.id then reorig x s.id else turnA s.origin s.id c.id x
theorem promoted_map {l : List Dset} (h : MayL l) {ki ks ko : Nat} (hi : ki < l.length) (ho : ko < l.length) (hne : ki ≠ ko) (hc1 : (l.getD ki default).kind = 1) (ho1 : (l.getD ko default).kind = 1) :
    promoted l (l.getD ki default).id ki ks ko = l.map (proF (l.getD ki default) (l.getD ko default) (l.getD ks default)) := by
  unfold promoted
  apply List.ext_getElem?
  intro j
  simp only [List.getElem?_map, List.getElem?_set, List.length_set]
  by_cases hjl : j < l.length
  · have hj : l[j] = l.getD j default := by rw [List.getD_eq_getElem?_getD, List.getElem?_eq_getElem hjl]; rfl
    rw [List.getElem?_eq_getElem hjl, Option.map_some, hj]
    unfold proF
    by_cases h1 : ko = j
    · subst h1
      have e1 : (l.set ki (reorig (l.getD ki default) (l.getD ko default).origin)).getD ko default = l.getD ko default := by
        rw [List.getD_eq_getElem?_getD, List.getElem?_set_ne hne, ← List.getD_eq_getElem?_getD]
      rw [if_pos rfl, if_pos ho, e1, if_neg fun e => hne (h.inj hi ho e.symm), if_pos rfl, Option.map_some, turnA_re _ ho1]
    · rw [if_neg h1]
      by_cases h2 : ki = j
      · subst h2
        rw [if_pos rfl, if_pos hi, if_pos rfl, Option.map_some, turnA_re _ hc1]
      · rw [if_neg h2, if_neg fun e => h2 (h.inj hi hjl e.symm), if_neg fun e => h1 (h.inj ho hjl e.symm)]
        rfl
  · rw [List.getElem?_eq_none (by omega)]
    by_cases h1 : ko = j
    · omega
    · by_cases h2 : ki = j
      · omega
      · rw [if_neg h1, if_neg h2]; rfl

theorem proF_may {l : List Dset} (h : MayL l) {c o s : Dset} (hc : c ∈ l) (ho : o ∈ l) (hs : s ∈ l) (hck : c.kind = 1) (hok : o.kind = 1) (hsk : s.kind = 2) (hcs : c.origin = s.id) (hso : s.origin = o.id) : MayL (l.map (proF c o s)) := by
  obtain ⟨r, hr⟩ := h.tree
  have r1 : r o.id < r s.id := hr s hs o ho hso.symm
  have r2 : r s.id < r c.id := hr c hc s hs hcs.symm
  have tsplit : ∀ d : Dset, (d.kind = 2 ∧ d.origin = s.origin ∧ d.id ≤ s.id ∧ turnA s.origin s.id c.id d = ⟨d.id, d.kind, c.id, d.quota, d.files⟩) ∨ (¬ (d.kind = 2 ∧ d.origin = s.origin ∧ d.id ≤ s.id) ∧ turnA s.origin s.id c.id d = d) := fun d => by
    unfold turnA
    by_cases hh : d.kind = 2 ∧ d.origin = s.origin ∧ d.id ≤ s.id
    · left; rw [if_pos hh]; exact ⟨hh.1, hh.2.1, hh.2.2, rfl⟩
    · right; rw [if_neg hh]; exact ⟨hh, rfl⟩
  have hF : ∀ d ∈ l, (proF c o s d).id = d.id ∧ (proF c o s d).kind = d.kind ∧ (proF c o s d).quota = d.quota ∧ (proF c o s d).files = d.files := fun d hd => by
    unfold proF
    split
    · exact ⟨rfl, rfl, rfl, rfl⟩
    · split
      · exact ⟨rfl, rfl, rfl, rfl⟩
      · rcases tsplit d with ⟨_, _, _, e⟩ | ⟨_, e⟩ <;> rw [e] <;> exact ⟨rfl, rfl, rfl, rfl⟩
  -- what becomes of its origin
  have hO : ∀ d ∈ l, (d = c ∧ (proF c o s d).origin = o.origin) ∨ (d = o ∧ d ≠ c ∧ (proF c o s d).origin = s.id) ∨ (d ≠ c ∧ d ≠ o ∧ (d.kind = 2 ∧ d.origin = s.origin ∧ d.id ≤ s.id) ∧ (proF c o s d).origin = c.id) ∨ (d ≠ c ∧ d ≠ o ∧ ¬ (d.kind = 2 ∧ d.origin = s.origin ∧ d.id ≤ s.id) ∧ (proF c o s d).origin = d.origin) := fun d hd => by
    unfold proF
    by_cases h1 : d.id = c.id
    · left; rw [if_pos h1]; exact ⟨h.inj' hd hc h1, rfl⟩
    · have n1 : d ≠ c := fun e => h1 (by rw [e])
      rw [if_neg h1]
      by_cases h2 : d.id = o.id
      · right; left; rw [if_pos h2]; exact ⟨h.inj' hd ho h2, n1, rfl⟩
      · have n2 : d ≠ o := fun e => h2 (by rw [e])
        rw [if_neg h2]
        right; right
        rcases tsplit d with ⟨e1, e2, e3, e⟩ | ⟨e1, e⟩
        · left; rw [e]; exact ⟨n1, n2, ⟨e1, e2, e3⟩, rfl⟩
        · right; rw [e]; exact ⟨n1, n2, e1, rfl⟩
  have hsT : s.kind = 2 ∧ s.origin = s.origin ∧ s.id ≤ s.id := ⟨hsk, rfl, Int.le_refl _⟩
  have rT : ∀ d ∈ l, (d.kind = 2 ∧ d.origin = s.origin ∧ d.id ≤ s.id) → r o.id < r d.id := fun d hd e => hr d hd o ho (by rw [e.2.1, hso])
  let R : Dset → Nat := fun d => if d = c then r o.id else if (d.kind = 2 ∧ d.origin = s.origin ∧ d.id ≤ s.id) then r o.id + 1 else if d = o then r o.id + 2 else if r o.id < r d.id then r d.id + 4 else r d.id
  have hR : ∀ d ∈ l, ((getA l d.id).map R).getD 0 = R d := fun d hd => by
    rw [h.find hd]; rfl
  have hco : c ≠ o := fun e => by rw [e] at r2; omega
  have hcT : ¬ (c.kind = 2 ∧ c.origin = s.origin ∧ c.id ≤ s.id) := fun e => by omega
  have hoT : ¬ (o.kind = 2 ∧ o.origin = s.origin ∧ o.id ≤ s.id) := fun e => by omega
  refine h.map _ (fun d hd => (hF d hd).1) (fun d hd => (hF d hd).2.1) (fun d hd => (hF d hd).2.2.1) (fun d hd => by rw [(hF d hd).2.2.2]; exact (h.each d hd).files) (fun d hd e => ?_) (fun d hd e => ?_) (fun i => ((getA l i).map R).getD 0) (fun d hd p hp e => ?_)
  · rcases hO d hd with ⟨rfl, _⟩ | ⟨rfl, _, _⟩ | ⟨_, _, _, e2⟩ | ⟨_, _, _, e2⟩
    · omega
    · omega
    · exact ⟨c, hc, e2.symm, hck⟩
    · rw [e2]; exact ((h.each d hd).snap e).2
  · rcases hO d hd with ⟨rfl, e2⟩ | ⟨rfl, _, e2⟩ | ⟨_, _, e3, _⟩ | ⟨_, _, _, e2⟩
    · rw [e2]; exact (h.each o ho).live hok
    · rw [e2]; exact .inr ⟨s, hs, rfl, hsk⟩
    · omega
    · rw [e2]; exact (h.each d hd).live e
  · rw [hR d hd, hR p hp]
    have Rc : R c = r o.id := if_pos rfl
    have Ro : R o = r o.id + 2 := by show (if o = c then _ else _) = _; rw [if_neg hco.symm, if_neg hoT, if_pos rfl]
    have RT : ∀ d, d ≠ c → (d.kind = 2 ∧ d.origin = s.origin ∧ d.id ≤ s.id) → R d = r o.id + 1 := fun d h1 h2 => by show (if d = c then _ else _) = _; rw [if_neg h1, if_pos h2]
    have RE : ∀ d, d ≠ c → ¬ (d.kind = 2 ∧ d.origin = s.origin ∧ d.id ≤ s.id) → d ≠ o → R d = if r o.id < r d.id then r d.id + 4 else r d.id := fun d h1 h2 h3 => by show (if d = c then _ else _) = _; rw [if_neg h1, if_neg h2, if_neg h3]
    have hsc : s ≠ c := fun e => by rw [e] at hsk; omega
    rcases hO d hd with ⟨rfl, e2⟩ | ⟨rfl, _, e2⟩ | ⟨n1, _, e3, e2⟩ | ⟨n1, n2, n3, e2⟩
    · have hpo : p.id = o.origin := e.trans e2
      have r3 := hr o ho p hp hpo
      have hpc : p ≠ d := fun e => by rw [e] at r3; omega
      have hpo : p ≠ o := fun e => by rw [e] at r3; omega
      have hpT : ¬ (p.kind = 2 ∧ p.origin = s.origin ∧ p.id ≤ s.id) := fun e => by have := rT p hp e; omega
      rw [Rc, RE p hpc hpT hpo, if_neg (by omega)]
      exact r3
    · have hps : p = s := h.inj' hp hs (e.trans e2)
      rw [hps, Ro, RT s hsc hsT]; omega
    · have hpc : p = c := h.inj' hp hc (e.trans e2)
      rw [hpc, Rc, RT d n1 e3]; omega
    · have r3 := hr d hd p hp (e.trans e2)
      rw [RE d n1 n3 n2]
      by_cases p1 : p = c
      · rw [p1] at r3
        rw [p1, Rc, if_pos (by omega)]; omega
      · by_cases p2 : p.kind = 2 ∧ p.origin = s.origin ∧ p.id ≤ s.id
        · have := rT p hp p2
          rw [RT p p1 p2, if_pos (by omega)]; omega
        · by_cases p3 : p = o
          · rw [p3] at r3
            rw [p3, Ro, if_pos r3]; omega
          · rw [RE p p1 p2 p3]
            by_cases p4 : r o.id < r p.id
            · rw [if_pos p4, if_pos (by omega)]; omega
            · rw [if_neg p4]; split <;> omega
theorem promoteA_may {l : List Dset} (h : MayL l) (i : Int) : MayL (promoteA l i).1 := by
  unfold promoteA
  split
  · exact h
  · rename_i h1
    rcases find_of (l := l) (i := i) with ⟨e, _⟩ | ⟨k, e, hk, hid, _⟩
    · omega
    rw [e, Int.toNat_natCast]
    simp only
    split
    · exact h
    · rename_i h2
      split
      · exact h
      · rename_i h3
        have hk1 : (l.getD k default).kind = 1 := Classical.byContradiction fun hh => h2 (.inl hh)
        rcases find_of (l := l) (i := (l.getD k default).origin) with ⟨e', _⟩ | ⟨m, e', hm, hid', _⟩
        · exact absurd (.inl (by omega)) h3
        rw [e', Int.toNat_natCast] at h3 ⊢
        have h4 : isA l (l.getD m default).origin 1 = true := by
          cases hh : isA l (l.getD m default).origin 1
          · exact absurd (.inr hh) h3
          · rfl
        obtain ⟨o, e2, ho, hoi, hok⟩ := isA_true h4
        rw [e2, Int.toNat_natCast]
        have hms : (l.getD m default).kind = 2 := by
          rcases (h.each _ (dgetD_mem hk)).live hk1 with h5 | ⟨x, hx, hxi, hxk⟩
          · exact absurd (.inr h5) h2
          · have : x = l.getD m default := h.inj' hx (dgetD_mem hm) (by omega)
            rw [← this]; exact hxk
        have hne : k ≠ o := by
          intro hko
          obtain ⟨r, hr⟩ := h.tree
          have r1 := hr _ (dgetD_mem hm) _ (dgetD_mem ho) hoi
          have r2 := hr _ (dgetD_mem hk) _ (dgetD_mem hm) hid'
          rw [← hko] at r1
          omega
        show MayL (promoted l i k m o)
        rw [← hid, promoted_map h hk ho hne hk1 hok]
        exact proF_may h (dgetD_mem hk) (dgetD_mem ho) (dgetD_mem hm) hk1 hok hms hid'.symm hoi.symm
end Go.Proofs.YtemjlopoffjmpaaGreat.Abs
set_option linter.unusedSimpArgs false
set_option linter.unusedVariables false
namespace Go.Proofs.YtemjlopoffjmpaaGreat.Abs
open Go Go.Proofs

/-- palimpref16.Used -/
theorem rused0 (s : List Node) (hs : s.length ≤ 1000000) : C Tryz.prog 20 [aset s] [] (fun x _ => x = .int .i64 (used s)) := by
  refine C_body d20 rfl (WT_ok ?_)
  unfold c20
  simp only [aset, wk, iaddrV_map, emb, unAgg, ares, aresL, ares1, tupled, forall_const, Nat.reduceAdd, Nat.reduceSub, Nat.reduceMul, Nat.reduceLeDiff, Nat.reduceEqDiff, Nat.reduceBEq, Int.reduceLE, Int.reduceLT, Int.reduceEq, Int.reduceNe, Int.reduceAdd, Int.reduceSub, Int.reduceToNat, Int.reduceNeg, ↓reduceIte, reduceCtorEq, cellsOf, cellA, lay, fillA]
  refine WT_loop (W_loop (fun n fr H' => ∃ i : Nat, i ≤ s.length ∧ n = s.length - i ∧ H' = [] ∧ fr = [.fz (s.map pnode), .top, .int .i64 0, .int .i64 (used (s.take i)), .int .i64 i] ++ List.replicate 15 .top) s.length ⟨0, by omega, rfl, rfl, rfl⟩ ?_)
  rintro n fr H' ⟨i, hi, rfl, rfl, rfl⟩
  refine WT_ok ?_
  simp only [wk, iaddrV_map, emb, unAgg, ares, aresL, ares1, tupled, forall_const, Nat.reduceAdd, Nat.reduceSub, Nat.reduceMul, Nat.reduceLeDiff, Nat.reduceEqDiff, Nat.reduceBEq, Int.reduceLE, Int.reduceLT, Int.reduceEq, Int.reduceNe, Int.reduceAdd, Int.reduceSub, Int.reduceToNat, Int.reduceNeg, ↓reduceIte, reduceCtorEq, cellsOf, cellA, lay, fillA]
  refine guard_both ?_ ?_ <;> intro h <;> simp only [hy] at h <;> simp only [h, wk, iaddrV_map, emb, unAgg, ares, aresL, ares1, tupled, forall_const, Nat.reduceAdd, Nat.reduceSub, Nat.reduceMul, Nat.reduceLeDiff, Nat.reduceEqDiff, Nat.reduceBEq, Int.reduceLE, Int.reduceLT, Int.reduceEq, Int.reduceNe, Int.reduceAdd, Int.reduceSub, Int.reduceToNat, Int.reduceNeg, ↓reduceIte, reduceCtorEq, cellsOf, cellA, lay, fillA]
  · have hil : i < s.length := by omega
    refine ⟨⟨by omega, rfl⟩, ?_⟩
    simp only [pnode, wk, iaddrV_map, emb, unAgg, ares, aresL, ares1, tupled, forall_const, Nat.reduceAdd, Nat.reduceSub, Nat.reduceMul, Nat.reduceLeDiff, Nat.reduceEqDiff, Nat.reduceBEq, Int.reduceLE, Int.reduceLT, Int.reduceEq, Int.reduceNe, Int.reduceAdd, Int.reduceSub, Int.reduceToNat, Int.reduceNeg, ↓reduceIte, reduceCtorEq, cellsOf, cellA, lay, fillA]
    refine CT_ok (count_spec _ _) ?_
    rintro _ _ ⟨rfl, rfl⟩
    have hb := usedA_le countA countA_le (s.take i)
    have hb2 := countA_le (s.getD i default).body
    rw [List.length_take] at hb
    have w1 : IntKind.i64.wrap ((used (s.take i) : Int) + (countA (s.getD i default).body : Int)) = (used (s.take i) : Int) + (countA (s.getD i default).body : Int) := IntWalk.i64_in _ (by unfold used; omega)
    have w2 : IntKind.i64.wrap ((i : Int) + 1) = (i : Int) + 1 := IntWalk.i64_in _ (by omega)
    simp only [w1, w2, wk, iaddrV_map, emb, unAgg, ares, aresL, ares1, tupled, forall_const, Nat.reduceAdd, Nat.reduceSub, Nat.reduceMul, Nat.reduceLeDiff, Nat.reduceEqDiff, Nat.reduceBEq, Int.reduceLE, Int.reduceLT, Int.reduceEq, Int.reduceNe, Int.reduceAdd, Int.reduceSub, Int.reduceToNat, Int.reduceNeg, ↓reduceIte, reduceCtorEq, cellsOf, cellA, lay, fillA]
    refine QLoop_wk (n' := s.length - (i + 1)) (by omega) ⟨i + 1, by omega, rfl, rfl, rfl⟩ (Wk_clear ?_)
    simp only [renL, ren, upTo_zero, Tops_top, Tops_same, Tops_nil, used, usedA_take countA s i hil, Int.natCast_add, Int.natCast_one, List.replicate_succ, List.replicate_zero, List.cons_append, List.nil_append]
  · have : i = s.length := by omega
    subst this
    rw [List.take_length]
theorem rused (s : List Node) (hs : s.length ≤ 1000000) (H : AH) : C Tryz.prog 20 [aset s] H (fun x H' => x = .int .i64 (used s) ∧ H' = H) :=
  C_flat (K0 := fun x _ => x = .int .i64 (used s)) (rused0 s hs) (by rintro x _ rfl; exact ⟨rfl, rfl, rfl⟩)

/-- A call within a part that only looks at values. -/
theorem SET_pure {P : Program} {f : FuncId} {args : List Opd} {d : Option Nat} {c : Nat} {fr : List AV} {H : AH} {K : List Loc → List Loc → Nat → List AV → AH → Prop} {t} {vs : List AV} {x : AV} (ha : args.map (evalA fr) = vs) (hb : bareL vs = true) (hx : bare x = true)
    (h : C P f vs [] (fun y G => y = x ∧ G = [])) (hc : c ≤ H.length) (hk : K [] [] c (setA fr d x) H) : SET P (.call f args) d c fr H K t := by
  refine ⟨[], 0, x, [], List.nodup_nil, by simp, by omega, rfl, ?_, ?_⟩
  · rw [ha, renL_bare _ _ hb]; exact h
  · simp only [List.nil_append, List.range'_zero, List.map_nil, List.append_nil, Nat.add_zero]
    rw [ren_bare _ _ hx]
    exact hk

theorem CFT_pure {P : Program} {f : FuncId} {args : List AV} {c : Nat} {H : AH} {late : List Loc → List Loc → Prop} {K : List Nat → Nat → AV → AH → Prop} {t} {x : AV} (hb : bareL args = true) (hx : bare x = true)
    (h : C P f args [] (fun y G => y = x ∧ G = [])) (hc : c ≤ H.length) (hk : K [] c x H) : CFT P f args c H late K t := by
  refine .inl ⟨[], 0, x, [], List.nodup_nil, by simp, by omega, rfl, ?_, ?_⟩
  · rw [renL_bare _ _ hb]; exact h
  · simp only [List.nil_append, List.range'_zero, Nat.add_zero]
    rw [ren_bare _ _ hx]
    exact hk

theorem KWk_then {K : AV → AH → Prop} {x x' : AV} {H H' : AH} (h : Wk 0 [x] H [x'] H') (hk : KWk 0 K x' H') : KWk 0 K x H := by
  obtain ⟨y, G, h2, h3⟩ := hk
  exact ⟨y, G, h.trans h2, h3⟩
theorem frz_cell (r : Nat) (es : List (List PV)) (d : Dset) : frzL r es (cellD d) = cellD d := by simp [frzL, frz, cellD, aset]
theorem map_frz (r : Nat) (es : List (List PV)) (l : List Dset) : (l.map cellD).map (frzL r es) = l.map cellD := by
  rw [List.map_map]
  apply List.map_congr_left
  intro d _
  exact frz_cell r es d

theorem KWk_files (l : List Dset) (k : Nat) (d : Dset) (s : List Node) (o0 : AObj) :
    KWk 0 (fun y H' => y = outA (l.set k { d with files := s }, 0) ∧ H' = []) (.tuple [.own 1 5 0 l.length l.length, .int .i64 0])
      [some o0, some ((l.map cellD).set k [.int .i64 d.id, .int .i64 d.kind, .int .i64 d.origin, .int .i64 d.quota, .own 2 5 0 s.length s.length]), some ((s.map pnode).map fun e => e.map emb)] := by
  have h := Wk_freeze (n0 := 0) (fr := [.tuple [.own 1 5 0 l.length l.length, .int .i64 0]]) (H := [some o0, some ((l.map cellD).set k [.int .i64 d.id, .int .i64 d.kind, .int .i64 d.origin, .int .i64 d.quota, .own 2 5 0 s.length s.length]), some ((s.map pnode).map fun e => e.map emb)]) 2 (s.map pnode) rfl
  have e : frzL 2 (s.map pnode) [.int .i64 d.id, .int .i64 d.kind, .int .i64 d.origin, .int .i64 d.quota, .own 2 5 0 s.length s.length] = cellD { d with files := s } := by
    simp only [frzL, frz, cellD, aset, if_true, List.length_map, Nat.zero_add, Nat.le_refl, and_self, List.drop_zero]
    rw [List.take_of_length_le (by simp)]
  refine KWk_then h (KWk_sets 1 (l.set k { d with files := s }) 0 _ (by simp) ?_ ⟨rfl, rfl⟩)
  simp only [mapH, List.set_cons_succ, List.set_cons_zero, List.map_cons, List.map_nil, Option.map_some, Option.map_none, List.map_set, map_frz, e]
  rfl
/-- palimpref16.PutFiles -/
def filesA (l : List Dset) (i : Int) (s : List Node) : List Dset × Int := match getA l i with
  | none => (l, 2)
  | some d => if d.kind = 2 then (l, 11) else if 0 < d.quota ∧ d.quota < used s ∧ used d.files < used s then (l, 9) else (l.set (findA l i).toNat { d with files := s }, 0)
theorem filesA0 (l : List Dset) (hl : Short l) (i : Int) (s : List Node) (hs : s.length ≤ 1000000) :
    C Tryz.prog 17 [asets l, .int .i64 i, aset s] [] (fun y H' => y = outA (filesA l i s) ∧ H' = []) := by
  have hl1 := hl.1
  refine C_body' d17 rfl (WT_ok ?_)
  unfold c17
  simp only [lay, wk3, onStO, bareL, toCl, onApO, chunks, wk, iaddrV_map, emb, unAgg, ares, aresL, ares1, tupled, forall_const, Nat.reduceAdd, Nat.reduceSub, Nat.reduceMul, Nat.reduceLeDiff, Nat.reduceEqDiff, Nat.reduceBEq, Int.reduceLE, Int.reduceLT, Int.reduceEq, Int.reduceNe, Int.reduceAdd, Int.reduceSub, Int.reduceToNat, Int.reduceNeg, ↓reduceIte, reduceCtorEq, cellsOf, cellA, lay, fillA]
  refine CT_ok (rgetL l hl1 i _) ?_
  rintro _ _ ⟨rfl, rfl⟩
  cases hg : getA l i with
  | none =>
    have e : filesA l i s = (l, 2) := by unfold filesA; rw [hg]
    rw [e]
    simp only [getV, lay, wk3, onStO, bareL, toCl, onApO, chunks, wk, iaddrV_map, emb, unAgg, ares, aresL, ares1, tupled, forall_const, Nat.reduceAdd, Nat.reduceSub, Nat.reduceMul, Nat.reduceLeDiff, Nat.reduceEqDiff, Nat.reduceBEq, Int.reduceLE, Int.reduceLT, Int.reduceEq, Int.reduceNe, Int.reduceAdd, Int.reduceSub, Int.reduceToNat, Int.reduceNeg, ↓reduceIte, reduceCtorEq, cellsOf, cellA, lay, fillA]
    exact KWk_bare (by simp [bare, bareL, asets]) ⟨rfl, rfl⟩
  | some d =>
    have hd := hl.2 d (getA_mem hg).1
    by_cases h2 : d.kind = 2
    · have e : filesA l i s = (l, 11) := by unfold filesA; rw [hg]; exact if_pos h2
      rw [e]
      simp only [getV, h2, cellD, aset, lay, wk3, onStO, bareL, toCl, onApO, chunks, wk, iaddrV_map, emb, unAgg, ares, aresL, ares1, tupled, forall_const, Nat.reduceAdd, Nat.reduceSub, Nat.reduceMul, Nat.reduceLeDiff, Nat.reduceEqDiff, Nat.reduceBEq, Int.reduceLE, Int.reduceLT, Int.reduceEq, Int.reduceNe, Int.reduceAdd, Int.reduceSub, Int.reduceToNat, Int.reduceNeg, ↓reduceIte, reduceCtorEq, cellsOf, cellA, lay, fillA]
      exact KWk_bare (by simp [bare, bareL, asets]) ⟨rfl, rfl⟩
    have hB : filesA l i s = if 0 < d.quota ∧ d.quota < used s ∧ used d.files < used s then (l, 9) else (l.set (findA l i).toNat { d with files := s }, 0) := by
      unfold filesA; rw [hg]; exact if_neg h2
    obtain ⟨k, ek, hk, hdk⟩ : ∃ k : Nat, findA l i = k ∧ k < l.length ∧ l.getD k default = d := by
      unfold getA at hg
      rcases find_of (l := l) (i := i) with ⟨e, _⟩ | ⟨k, e, hk, _, _⟩
      · rw [e] at hg; cases hg
      · rw [e, if_pos (by omega), Int.toNat_natCast] at hg
        exact ⟨k, e, hk, Option.some.inj hg⟩
    rw [ek, Int.toNat_natCast] at hB
    have hc : (l.map cellD)[k]? = some (cellD d) := by rw [cell_at hk, hdk]
    have k0 : (0 : Int) ≤ k := by omega
    have k1 : (k : Int) < l.length := by omega
    by_cases h3 : 0 < d.quota
    case neg =>
      rw [if_neg (fun h => h3 h.1)] at hB
      simp only [getV, h2, cellD, aset, lay, wk3, onStO, bareL, toCl, onApO, chunks, wk, iaddrV_map, emb, unAgg, ares, aresL, ares1, tupled, forall_const, Nat.reduceAdd, Nat.reduceSub, Nat.reduceMul, Nat.reduceLeDiff, Nat.reduceEqDiff, Nat.reduceBEq, Int.reduceLE, Int.reduceLT, Int.reduceEq, Int.reduceNe, Int.reduceAdd, Int.reduceSub, Int.reduceToNat, Int.reduceNeg, ↓reduceIte, reduceCtorEq, cellsOf, cellA, lay, fillA]
      refine WT_drawE ?_
      simp only [h3, lay, wk3, onStO, bareL, toCl, onApO, chunks, wk, iaddrV_map, emb, unAgg, ares, aresL, ares1, tupled, forall_const, Nat.reduceAdd, Nat.reduceSub, Nat.reduceMul, Nat.reduceLeDiff, Nat.reduceEqDiff, Nat.reduceBEq, Int.reduceLE, Int.reduceLT, Int.reduceEq, Int.reduceNe, Int.reduceAdd, Int.reduceSub, Int.reduceToNat, Int.reduceNeg, ↓reduceIte, reduceCtorEq, cellsOf, cellA, lay, fillA]
      refine WDT_more 0 ?_
      simp only [h3, lay, wk3, onStO, bareL, toCl, onApO, chunks, wk, iaddrV_map, emb, unAgg, ares, aresL, ares1, tupled, forall_const, Nat.reduceAdd, Nat.reduceSub, Nat.reduceMul, Nat.reduceLeDiff, Nat.reduceEqDiff, Nat.reduceBEq, Int.reduceLE, Int.reduceLT, Int.reduceEq, Int.reduceNe, Int.reduceAdd, Int.reduceSub, Int.reduceToNat, Int.reduceNeg, ↓reduceIte, reduceCtorEq, cellsOf, cellA, lay, fillA]
      refine ⟨by rfl, ?_⟩
      refine WDT_more 0 ?_
      simp only [h3, lay, wk3, onStO, bareL, toCl, onApO, chunks, wk, iaddrV_map, emb, unAgg, ares, aresL, ares1, tupled, forall_const, Nat.reduceAdd, Nat.reduceSub, Nat.reduceMul, Nat.reduceLeDiff, Nat.reduceEqDiff, Nat.reduceBEq, Int.reduceLE, Int.reduceLT, Int.reduceEq, Int.reduceNe, Int.reduceAdd, Int.reduceSub, Int.reduceToNat, Int.reduceNeg, ↓reduceIte, reduceCtorEq, cellsOf, cellA, lay, fillA]
      refine ⟨by rfl, ?_⟩
      simp only [asets, cellsD, rows5D, List.length_map, lay, wk3, onStO, bareL, toCl, onApO, chunks, wk, iaddrV_map, emb, unAgg, ares, aresL, ares1, tupled, forall_const, Nat.reduceAdd, Nat.reduceSub, Nat.reduceMul, Nat.reduceLeDiff, Nat.reduceEqDiff, Nat.reduceBEq, Int.reduceLE, Int.reduceLT, Int.reduceEq, Int.reduceNe, Int.reduceAdd, Int.reduceSub, Int.reduceToNat, Int.reduceNeg, ↓reduceIte, reduceCtorEq, cellsOf, cellA, lay, fillA]
      refine ⟨⟨by omega, by omega⟩, ?_⟩
      refine CT_ok (rat85 l hl1 i _) ?_
      rintro _ _ ⟨rfl, rfl⟩
      simp only [ek, k0, k1, hc, cellD, aset, lay, wk3, onStO, bareL, toCl, onApO, chunks, wk, iaddrV_map, emb, unAgg, ares, aresL, ares1, tupled, forall_const, Nat.reduceAdd, Nat.reduceSub, Nat.reduceMul, Nat.reduceLeDiff, Nat.reduceEqDiff, Nat.reduceBEq, Int.reduceLE, Int.reduceLT, Int.reduceEq, Int.reduceNe, Int.reduceAdd, Int.reduceSub, Int.reduceToNat, Int.reduceNeg, ↓reduceIte, reduceCtorEq, cellsOf, cellA, lay, fillA]
      refine ⟨⟨rows5 s, by omega, by omega⟩, ?_⟩
      rw [hB]
      exact KWk_files l k d s _
    simp only [getV, h2, cellD, aset, lay, wk3, onStO, bareL, toCl, onApO, chunks, wk, iaddrV_map, emb, unAgg, ares, aresL, ares1, tupled, forall_const, Nat.reduceAdd, Nat.reduceSub, Nat.reduceMul, Nat.reduceLeDiff, Nat.reduceEqDiff, Nat.reduceBEq, Int.reduceLE, Int.reduceLT, Int.reduceEq, Int.reduceNe, Int.reduceAdd, Int.reduceSub, Int.reduceToNat, Int.reduceNeg, ↓reduceIte, reduceCtorEq, cellsOf, cellA, lay, fillA]
    refine WT_drawE ?_
    simp only [h3, lay, wk3, onStO, bareL, toCl, onApO, chunks, wk, iaddrV_map, emb, unAgg, ares, aresL, ares1, tupled, forall_const, Nat.reduceAdd, Nat.reduceSub, Nat.reduceMul, Nat.reduceLeDiff, Nat.reduceEqDiff, Nat.reduceBEq, Int.reduceLE, Int.reduceLT, Int.reduceEq, Int.reduceNe, Int.reduceAdd, Int.reduceSub, Int.reduceToNat, Int.reduceNeg, ↓reduceIte, reduceCtorEq, cellsOf, cellA, lay, fillA]
    refine WDT_more 0 ?_
    simp only [h3, lay, wk3, onStO, bareL, toCl, onApO, chunks, wk, iaddrV_map, emb, unAgg, ares, aresL, ares1, tupled, forall_const, Nat.reduceAdd, Nat.reduceSub, Nat.reduceMul, Nat.reduceLeDiff, Nat.reduceEqDiff, Nat.reduceBEq, Int.reduceLE, Int.reduceLT, Int.reduceEq, Int.reduceNe, Int.reduceAdd, Int.reduceSub, Int.reduceToNat, Int.reduceNeg, ↓reduceIte, reduceCtorEq, cellsOf, cellA, lay, fillA]
    refine SET_pure (x := .int .i64 (used s)) rfl rfl rfl (rused s hs []) (by simp) ?_
    simp only [lay, wk3, onStO, bareL, toCl, onApO, chunks, wk, iaddrV_map, emb, unAgg, ares, aresL, ares1, tupled, forall_const, Nat.reduceAdd, Nat.reduceSub, Nat.reduceMul, Nat.reduceLeDiff, Nat.reduceEqDiff, Nat.reduceBEq, Int.reduceLE, Int.reduceLT, Int.reduceEq, Int.reduceNe, Int.reduceAdd, Int.reduceSub, Int.reduceToNat, Int.reduceNeg, ↓reduceIte, reduceCtorEq, cellsOf, cellA, lay, fillA]
    refine ⟨by rfl, ?_⟩
    by_cases h4 : d.quota < (used s : Int)
    case neg =>
      rw [if_neg (fun h => h4 h.2.1)] at hB
      simp only [h3, h4, lay, wk3, onStO, bareL, toCl, onApO, chunks, wk, iaddrV_map, emb, unAgg, ares, aresL, ares1, tupled, forall_const, Nat.reduceAdd, Nat.reduceSub, Nat.reduceMul, Nat.reduceLeDiff, Nat.reduceEqDiff, Nat.reduceBEq, Int.reduceLE, Int.reduceLT, Int.reduceEq, Int.reduceNe, Int.reduceAdd, Int.reduceSub, Int.reduceToNat, Int.reduceNeg, ↓reduceIte, reduceCtorEq, cellsOf, cellA, lay, fillA]
      refine WDT_more 0 ?_
      simp only [h3, h4, lay, wk3, onStO, bareL, toCl, onApO, chunks, wk, iaddrV_map, emb, unAgg, ares, aresL, ares1, tupled, forall_const, Nat.reduceAdd, Nat.reduceSub, Nat.reduceMul, Nat.reduceLeDiff, Nat.reduceEqDiff, Nat.reduceBEq, Int.reduceLE, Int.reduceLT, Int.reduceEq, Int.reduceNe, Int.reduceAdd, Int.reduceSub, Int.reduceToNat, Int.reduceNeg, ↓reduceIte, reduceCtorEq, cellsOf, cellA, lay, fillA]
      refine ⟨by rfl, ?_⟩
      simp only [asets, cellsD, rows5D, List.length_map, lay, wk3, onStO, bareL, toCl, onApO, chunks, wk, iaddrV_map, emb, unAgg, ares, aresL, ares1, tupled, forall_const, Nat.reduceAdd, Nat.reduceSub, Nat.reduceMul, Nat.reduceLeDiff, Nat.reduceEqDiff, Nat.reduceBEq, Int.reduceLE, Int.reduceLT, Int.reduceEq, Int.reduceNe, Int.reduceAdd, Int.reduceSub, Int.reduceToNat, Int.reduceNeg, ↓reduceIte, reduceCtorEq, cellsOf, cellA, lay, fillA]
      refine ⟨⟨by omega, by omega⟩, ?_⟩
      refine CT_ok (rat85 l hl1 i _) ?_
      rintro _ _ ⟨rfl, rfl⟩
      simp only [ek, k0, k1, hc, cellD, aset, lay, wk3, onStO, bareL, toCl, onApO, chunks, wk, iaddrV_map, emb, unAgg, ares, aresL, ares1, tupled, forall_const, Nat.reduceAdd, Nat.reduceSub, Nat.reduceMul, Nat.reduceLeDiff, Nat.reduceEqDiff, Nat.reduceBEq, Int.reduceLE, Int.reduceLT, Int.reduceEq, Int.reduceNe, Int.reduceAdd, Int.reduceSub, Int.reduceToNat, Int.reduceNeg, ↓reduceIte, reduceCtorEq, cellsOf, cellA, lay, fillA]
      refine ⟨⟨rows5 s, by omega, by omega⟩, ?_⟩
      rw [hB]
      exact KWk_files l k d s _
    simp only [h3, h4, lay, wk3, onStO, bareL, toCl, onApO, chunks, wk, iaddrV_map, emb, unAgg, ares, aresL, ares1, tupled, forall_const, Nat.reduceAdd, Nat.reduceSub, Nat.reduceMul, Nat.reduceLeDiff, Nat.reduceEqDiff, Nat.reduceBEq, Int.reduceLE, Int.reduceLT, Int.reduceEq, Int.reduceNe, Int.reduceAdd, Int.reduceSub, Int.reduceToNat, Int.reduceNeg, ↓reduceIte, reduceCtorEq, cellsOf, cellA, lay, fillA]
    refine WDT_more 0 ?_
    simp only [h3, h4, lay, wk3, onStO, bareL, toCl, onApO, chunks, wk, iaddrV_map, emb, unAgg, ares, aresL, ares1, tupled, forall_const, Nat.reduceAdd, Nat.reduceSub, Nat.reduceMul, Nat.reduceLeDiff, Nat.reduceEqDiff, Nat.reduceBEq, Int.reduceLE, Int.reduceLT, Int.reduceEq, Int.reduceNe, Int.reduceAdd, Int.reduceSub, Int.reduceToNat, Int.reduceNeg, ↓reduceIte, reduceCtorEq, cellsOf, cellA, lay, fillA]
    refine SET_pure (x := .int .i64 (used s)) rfl rfl rfl (rused s hs []) (by simp) ?_
    simp only [lay, wk3, onStO, bareL, toCl, onApO, chunks, wk, iaddrV_map, emb, unAgg, ares, aresL, ares1, tupled, forall_const, Nat.reduceAdd, Nat.reduceSub, Nat.reduceMul, Nat.reduceLeDiff, Nat.reduceEqDiff, Nat.reduceBEq, Int.reduceLE, Int.reduceLT, Int.reduceEq, Int.reduceNe, Int.reduceAdd, Int.reduceSub, Int.reduceToNat, Int.reduceNeg, ↓reduceIte, reduceCtorEq, cellsOf, cellA, lay, fillA]
    refine ⟨by rfl, ?_⟩
    refine CT_ok (rused d.files hd _) ?_
    rintro _ _ ⟨rfl, rfl⟩
    by_cases h5 : (used d.files : Int) < (used s : Int)
    case neg =>
      rw [if_neg (fun h => h5 (by omega))] at hB
      simp only [h5, lay, wk3, onStO, bareL, toCl, onApO, chunks, wk, iaddrV_map, emb, unAgg, ares, aresL, ares1, tupled, forall_const, Nat.reduceAdd, Nat.reduceSub, Nat.reduceMul, Nat.reduceLeDiff, Nat.reduceEqDiff, Nat.reduceBEq, Int.reduceLE, Int.reduceLT, Int.reduceEq, Int.reduceNe, Int.reduceAdd, Int.reduceSub, Int.reduceToNat, Int.reduceNeg, ↓reduceIte, reduceCtorEq, cellsOf, cellA, lay, fillA]
      simp only [asets, cellsD, rows5D, List.length_map, lay, wk3, onStO, bareL, toCl, onApO, chunks, wk, iaddrV_map, emb, unAgg, ares, aresL, ares1, tupled, forall_const, Nat.reduceAdd, Nat.reduceSub, Nat.reduceMul, Nat.reduceLeDiff, Nat.reduceEqDiff, Nat.reduceBEq, Int.reduceLE, Int.reduceLT, Int.reduceEq, Int.reduceNe, Int.reduceAdd, Int.reduceSub, Int.reduceToNat, Int.reduceNeg, ↓reduceIte, reduceCtorEq, cellsOf, cellA, lay, fillA]
      refine ⟨⟨by omega, by omega⟩, ?_⟩
      refine CT_ok (rat85 l hl1 i _) ?_
      rintro _ _ ⟨rfl, rfl⟩
      simp only [ek, k0, k1, hc, cellD, aset, lay, wk3, onStO, bareL, toCl, onApO, chunks, wk, iaddrV_map, emb, unAgg, ares, aresL, ares1, tupled, forall_const, Nat.reduceAdd, Nat.reduceSub, Nat.reduceMul, Nat.reduceLeDiff, Nat.reduceEqDiff, Nat.reduceBEq, Int.reduceLE, Int.reduceLT, Int.reduceEq, Int.reduceNe, Int.reduceAdd, Int.reduceSub, Int.reduceToNat, Int.reduceNeg, ↓reduceIte, reduceCtorEq, cellsOf, cellA, lay, fillA]
      refine ⟨⟨rows5 s, by omega, by omega⟩, ?_⟩
      rw [hB]
      exact KWk_files l k d s _
    rw [if_pos ⟨h3, h4, by omega⟩] at hB
    simp only [h5, hB, lay, wk3, onStO, bareL, toCl, onApO, chunks, wk, iaddrV_map, emb, unAgg, ares, aresL, ares1, tupled, forall_const, Nat.reduceAdd, Nat.reduceSub, Nat.reduceMul, Nat.reduceLeDiff, Nat.reduceEqDiff, Nat.reduceBEq, Int.reduceLE, Int.reduceLT, Int.reduceEq, Int.reduceNe, Int.reduceAdd, Int.reduceSub, Int.reduceToNat, Int.reduceNeg, ↓reduceIte, reduceCtorEq, cellsOf, cellA, lay, fillA]
    exact KWk_bare (by simp [bare, bareL, asets]) ⟨rfl, rfl⟩
end Go.Proofs.YtemjlopoffjmpaaGreat.Abs
set_option linter.unusedSimpArgs false
set_option linter.unusedVariables false
namespace Go.Proofs.YtemjlopoffjmpaaGreat.Abs
open Go Go.Proofs

theorem getA_of {l : List Dset} {i : Int} {k : Nat} (h : findA l i = k) : getA l i = some (l.getD k default) := by
  unfold getA
  rw [h, if_pos (by omega), Int.toNat_natCast]
theorem getA_no {l : List Dset} {i : Int} (h : findA l i = -1) : getA l i = none := by
  unfold getA
  rw [h, if_neg (by decide)]
theorem renO_one (τ : Nat → Option Nat) (d : Dset) : renO τ [cellD d] = [cellD d] := renO_cells τ [d]

/-- palimpref16.Back -/
theorem rback0 (l : List Dset) (hl : Short l) (i j : Int) : C Tryz.prog 74 [asets l, .int .i64 i, .int .i64 j] [] (fun y H' => y = outA (backA l i j) ∧ H' = []) := by
  have hl1 := hl.1
  refine C_body' d74 rfl (WT_ok ?_)
  unfold c74
  simp only [lay, wk3, onStO, bareL, toCl, onApO, chunks, wk, iaddrV_map, emb, unAgg, ares, aresL, ares1, tupled, forall_const, Nat.reduceAdd, Nat.reduceSub, Nat.reduceMul, Nat.reduceLeDiff, Nat.reduceEqDiff, Nat.reduceBEq, Int.reduceLE, Int.reduceLT, Int.reduceEq, Int.reduceNe, Int.reduceAdd, Int.reduceSub, Int.reduceToNat, Int.reduceNeg, ↓reduceIte, reduceCtorEq, cellsOf, cellA, lay, fillA]
  refine CT_ok (rgetL l hl1 i _) ?_
  rintro _ _ ⟨rfl, rfl⟩
  rcases find_of (l := l) (i := i) with ⟨e, _⟩ | ⟨k, e, hk, hid, _⟩
  · have hA : backA l i j = (l, 2) := by unfold backA; rw [e]; exact if_pos (.inl (by decide))
    rw [getA_no e, hA]
    simp only [getV, lay, wk3, onStO, bareL, toCl, onApO, chunks, wk, iaddrV_map, emb, unAgg, ares, aresL, ares1, tupled, forall_const, Nat.reduceAdd, Nat.reduceSub, Nat.reduceMul, Nat.reduceLeDiff, Nat.reduceEqDiff, Nat.reduceBEq, Int.reduceLE, Int.reduceLT, Int.reduceEq, Int.reduceNe, Int.reduceAdd, Int.reduceSub, Int.reduceToNat, Int.reduceNeg, ↓reduceIte, reduceCtorEq, cellsOf, cellA, lay, fillA]
    refine CT_ok (rgetL l hl1 j _) ?_
    rintro _ _ ⟨rfl, rfl⟩
    cases getA l j with
    | none =>
      simp only [getV, lay, wk3, onStO, bareL, toCl, onApO, chunks, wk, iaddrV_map, emb, unAgg, ares, aresL, ares1, tupled, forall_const, Nat.reduceAdd, Nat.reduceSub, Nat.reduceMul, Nat.reduceLeDiff, Nat.reduceEqDiff, Nat.reduceBEq, Int.reduceLE, Int.reduceLT, Int.reduceEq, Int.reduceNe, Int.reduceAdd, Int.reduceSub, Int.reduceToNat, Int.reduceNeg, ↓reduceIte, reduceCtorEq, cellsOf, cellA, lay, fillA]
      exact KWk_bare (by simp [bare, bareL, asets]) ⟨rfl, rfl⟩
    | some s =>
      simp only [getV, cellD, aset, lay, wk3, onStO, bareL, toCl, onApO, chunks, wk, iaddrV_map, emb, unAgg, ares, aresL, ares1, tupled, forall_const, Nat.reduceAdd, Nat.reduceSub, Nat.reduceMul, Nat.reduceLeDiff, Nat.reduceEqDiff, Nat.reduceBEq, Int.reduceLE, Int.reduceLT, Int.reduceEq, Int.reduceNe, Int.reduceAdd, Int.reduceSub, Int.reduceToNat, Int.reduceNeg, ↓reduceIte, reduceCtorEq, cellsOf, cellA, lay, fillA]
      exact KWk_bare (by simp [bare, bareL, asets]) ⟨rfl, rfl⟩
  rw [getA_of e]
  simp only [getV, cellD, aset, lay, wk3, onStO, bareL, toCl, onApO, chunks, wk, iaddrV_map, emb, unAgg, ares, aresL, ares1, tupled, forall_const, Nat.reduceAdd, Nat.reduceSub, Nat.reduceMul, Nat.reduceLeDiff, Nat.reduceEqDiff, Nat.reduceBEq, Int.reduceLE, Int.reduceLT, Int.reduceEq, Int.reduceNe, Int.reduceAdd, Int.reduceSub, Int.reduceToNat, Int.reduceNeg, ↓reduceIte, reduceCtorEq, cellsOf, cellA, lay, fillA]
  refine CT_ok (rgetL l hl1 j _) ?_
  rintro _ _ ⟨rfl, rfl⟩
  rcases find_of (l := l) (i := j) with ⟨e', _⟩ | ⟨m, e', hm, hid', _⟩
  · have hA : backA l i j = (l, 2) := by unfold backA; rw [e']; exact if_pos (.inr (by decide))
    rw [getA_no e', hA]
    simp only [getV, lay, wk3, onStO, bareL, toCl, onApO, chunks, wk, iaddrV_map, emb, unAgg, ares, aresL, ares1, tupled, forall_const, Nat.reduceAdd, Nat.reduceSub, Nat.reduceMul, Nat.reduceLeDiff, Nat.reduceEqDiff, Nat.reduceBEq, Int.reduceLE, Int.reduceLT, Int.reduceEq, Int.reduceNe, Int.reduceAdd, Int.reduceSub, Int.reduceToNat, Int.reduceNeg, ↓reduceIte, reduceCtorEq, cellsOf, cellA, lay, fillA]
    exact KWk_bare (by simp [bare, bareL, asets]) ⟨rfl, rfl⟩
  rw [getA_of e']
  simp only [getV, cellD, aset, lay, wk3, onStO, bareL, toCl, onApO, chunks, wk, iaddrV_map, emb, unAgg, ares, aresL, ares1, tupled, forall_const, Nat.reduceAdd, Nat.reduceSub, Nat.reduceMul, Nat.reduceLeDiff, Nat.reduceEqDiff, Nat.reduceBEq, Int.reduceLE, Int.reduceLT, Int.reduceEq, Int.reduceNe, Int.reduceAdd, Int.reduceSub, Int.reduceToNat, Int.reduceNeg, ↓reduceIte, reduceCtorEq, cellsOf, cellA, lay, fillA]
  have hB : backA l i j = if (l.getD k default).kind ≠ 1 ∨ (l.getD m default).kind ≠ 2 ∨ (l.getD m default).origin ≠ i then (l, 1) else if 0 ≤ idxA (laterA i j) l then (l, 10) else (l.set k { (l.getD k default) with files := (l.getD m default).files }, 0) := by
    unfold backA
    rw [e, e', if_neg (by omega), Int.toNat_natCast, Int.toNat_natCast]
  by_cases h1 : (l.getD k default).kind = 1
  case neg =>
    rw [if_pos (.inl h1)] at hB
    simp only [h1, hB, lay, wk3, onStO, bareL, toCl, onApO, chunks, wk, iaddrV_map, emb, unAgg, ares, aresL, ares1, tupled, forall_const, Nat.reduceAdd, Nat.reduceSub, Nat.reduceMul, Nat.reduceLeDiff, Nat.reduceEqDiff, Nat.reduceBEq, Int.reduceLE, Int.reduceLT, Int.reduceEq, Int.reduceNe, Int.reduceAdd, Int.reduceSub, Int.reduceToNat, Int.reduceNeg, ↓reduceIte, reduceCtorEq, cellsOf, cellA, lay, fillA]
    exact KWk_bare (by simp [bare, bareL, asets]) ⟨rfl, rfl⟩
  by_cases h2 : (l.getD m default).kind = 2
  case neg =>
    rw [if_pos (.inr (.inl h2))] at hB
    simp only [h1, h2, hB, lay, wk3, onStO, bareL, toCl, onApO, chunks, wk, iaddrV_map, emb, unAgg, ares, aresL, ares1, tupled, forall_const, Nat.reduceAdd, Nat.reduceSub, Nat.reduceMul, Nat.reduceLeDiff, Nat.reduceEqDiff, Nat.reduceBEq, Int.reduceLE, Int.reduceLT, Int.reduceEq, Int.reduceNe, Int.reduceAdd, Int.reduceSub, Int.reduceToNat, Int.reduceNeg, ↓reduceIte, reduceCtorEq, cellsOf, cellA, lay, fillA]
    exact KWk_bare (by simp [bare, bareL, asets]) ⟨rfl, rfl⟩
  by_cases h3 : (l.getD m default).origin = i
  case neg =>
    rw [if_pos (.inr (.inr h3))] at hB
    simp only [h1, h2, h3, hB, lay, wk3, onStO, bareL, toCl, onApO, chunks, wk, iaddrV_map, emb, unAgg, ares, aresL, ares1, tupled, forall_const, Nat.reduceAdd, Nat.reduceSub, Nat.reduceMul, Nat.reduceLeDiff, Nat.reduceEqDiff, Nat.reduceBEq, Int.reduceLE, Int.reduceLT, Int.reduceEq, Int.reduceNe, Int.reduceAdd, Int.reduceSub, Int.reduceToNat, Int.reduceNeg, ↓reduceIte, reduceCtorEq, cellsOf, cellA, lay, fillA]
    exact KWk_bare (by simp [bare, bareL, asets]) ⟨rfl, rfl⟩
  rw [if_neg (fun hh => by rcases hh with hh | hh | hh <;> exact hh (by assumption))] at hB
  simp only [h1, h2, h3, lay, wk3, onStO, bareL, toCl, onApO, chunks, wk, iaddrV_map, emb, unAgg, ares, aresL, ares1, tupled, forall_const, Nat.reduceAdd, Nat.reduceSub, Nat.reduceMul, Nat.reduceLeDiff, Nat.reduceEqDiff, Nat.reduceBEq, Int.reduceLE, Int.reduceLT, Int.reduceEq, Int.reduceNe, Int.reduceAdd, Int.reduceSub, Int.reduceToNat, Int.reduceNeg, ↓reduceIte, reduceCtorEq, cellsOf, cellA, lay, fillA]
  refine WT_loop (W_wk (fr' := [asets l, .int .i64 i, .int .i64 j, .top, .top, .top, .emp, .int .i64 0, .ptr 0 0 0 1, .bool true, .ptr 1 0 0 1, .bool true, .int .i64 0] ++ List.replicate 78 .top) (Wk_obj2 (renO_one _ ⟨(l.getD k default).id, 1, (l.getD k default).origin, (l.getD k default).quota, (l.getD k default).files⟩) (renO_one _ ⟨(l.getD m default).id, 2, i, (l.getD m default).quota, (l.getD m default).files⟩) ?_) (W_loop (fun n fr H' => ∃ x : Nat, x ≤ l.length ∧ n = l.length - x ∧ (∀ y, y < x → laterA i j (l.getD y default) = false) ∧ H' = [some [cellD ⟨(l.getD k default).id, 1, (l.getD k default).origin, (l.getD k default).quota, (l.getD k default).files⟩], some [cellD ⟨(l.getD m default).id, 2, i, (l.getD m default).quota, (l.getD m default).files⟩]] ∧
    fr = [asets l, .int .i64 i, .int .i64 j, .top, .top, .top, .emp, .int .i64 0, .ptr 0 0 0 1, .bool true, .ptr 1 0 0 1, .bool true, .int .i64 x] ++ List.replicate 78 .top) l.length ⟨0, by omega, rfl, fun y hy => by omega, rfl, rfl⟩ ?_))
  · simp only [asets, upTo, renL, ren, List.replicate_succ, List.replicate_zero, List.cons_append, List.nil_append, Tops_top, Tops_same, Tops_nil, show (0 : Nat) < 2 by omega, show (1 : Nat) < 2 by omega, if_true]
  rintro n fr H' ⟨x, hx, rfl, hn, rfl, rfl⟩
  refine WT_ok ?_
  simp only [asets, lay, slicelV_own, slicelV_fz, onLive_some, RT_slicel, RE_slicel, slice3V_eq, room3_some, roomOf_own, roomOf_fz, RT_slice3, RT_calld, apI_some, clC_some, clearV_own, clearV_fz, wk3, onStO, bareL, toCl, onApO, chunks, wk, iaddrV_map, emb, unAgg, ares, aresL, ares1, tupled, forall_const, Nat.reduceAdd, Nat.reduceSub, Nat.reduceMul, Nat.reduceLeDiff, Nat.reduceEqDiff, Nat.reduceBEq, Int.reduceLE, Int.reduceLT, Int.reduceEq, Int.reduceNe, Int.reduceAdd, Int.reduceSub, Int.reduceToNat, Int.reduceNeg, ↓reduceIte, reduceCtorEq, cellsOf, cellA, lay, fillA]
  refine guard_both ?_ ?_ <;> intro h <;> simp only [hy] at h
  · have hx2 : x < l.length := by omega
    have w2 : IntKind.i64.wrap ((x : Int) + 1) = (x : Int) + 1 := IntWalk.i64_in _ (by omega)
    have h0 : (0 : Int) ≤ x := by omega
    have e5 : (pdset (l.getD x default)).length = 5 := rfl
    simp only [h, h0, e5, iaddr_dset, pdset, lay, slicelV_own, slicelV_fz, onLive_some, RT_slicel, RE_slicel, slice3V_eq, room3_some, roomOf_own, roomOf_fz, RT_slice3, RT_calld, apI_some, clC_some, clearV_own, clearV_fz, wk3, onStO, bareL, toCl, onApO, chunks, wk, iaddrV_map, emb, unAgg, ares, aresL, ares1, tupled, forall_const, Nat.reduceAdd, Nat.reduceSub, Nat.reduceMul, Nat.reduceLeDiff, Nat.reduceEqDiff, Nat.reduceBEq, Int.reduceLE, Int.reduceLT, Int.reduceEq, Int.reduceNe, Int.reduceAdd, Int.reduceSub, Int.reduceToNat, Int.reduceNeg, ↓reduceIte, reduceCtorEq, cellsOf, cellA, lay, fillA]
    by_cases g1 : (l.getD x default).kind = 2
    case neg =>
      simp only [g1, w2, lay, slicelV_own, slicelV_fz, onLive_some, RT_slicel, RE_slicel, slice3V_eq, room3_some, roomOf_own, roomOf_fz, RT_slice3, RT_calld, apI_some, clC_some, clearV_own, clearV_fz, wk3, onStO, bareL, toCl, onApO, chunks, wk, iaddrV_map, emb, unAgg, ares, aresL, ares1, tupled, forall_const, Nat.reduceAdd, Nat.reduceSub, Nat.reduceMul, Nat.reduceLeDiff, Nat.reduceEqDiff, Nat.reduceBEq, Int.reduceLE, Int.reduceLT, Int.reduceEq, Int.reduceNe, Int.reduceAdd, Int.reduceSub, Int.reduceToNat, Int.reduceNeg, ↓reduceIte, reduceCtorEq, cellsOf, cellA, lay, fillA]
      refine QLoop_go (n' := l.length - (x + 1)) (by omega) ⟨x + 1, by omega, rfl, fun y hy => ?_, rfl, rfl⟩ ?_
      · rcases Nat.lt_or_ge y x with h' | h'
        · exact hn y h'
        · have : y = x := by omega
          subst this
          unfold laterA
          simp only [g1, decide_false, Bool.false_and, Bool.and_false, Bool.not_false, if_false]
      · simp only [asets, List.replicate_succ, List.replicate_zero, List.cons_append, List.nil_append, Tops_top, Tops_same, Tops_nil, Int.natCast_add, Int.natCast_one]
    by_cases g2 : (l.getD x default).origin = i
    case neg =>
      simp only [g1, g2, h0, h, e5, iaddr_dset, pdset, w2, lay, slicelV_own, slicelV_fz, onLive_some, RT_slicel, RE_slicel, slice3V_eq, room3_some, roomOf_own, roomOf_fz, RT_slice3, RT_calld, apI_some, clC_some, clearV_own, clearV_fz, wk3, onStO, bareL, toCl, onApO, chunks, wk, iaddrV_map, emb, unAgg, ares, aresL, ares1, tupled, forall_const, Nat.reduceAdd, Nat.reduceSub, Nat.reduceMul, Nat.reduceLeDiff, Nat.reduceEqDiff, Nat.reduceBEq, Int.reduceLE, Int.reduceLT, Int.reduceEq, Int.reduceNe, Int.reduceAdd, Int.reduceSub, Int.reduceToNat, Int.reduceNeg, ↓reduceIte, reduceCtorEq, cellsOf, cellA, lay, fillA]
      refine QLoop_go (n' := l.length - (x + 1)) (by omega) ⟨x + 1, by omega, rfl, fun y hy => ?_, rfl, rfl⟩ ?_
      · rcases Nat.lt_or_ge y x with h' | h'
        · exact hn y h'
        · have : y = x := by omega
          subst this
          unfold laterA
          simp only [g2, decide_false, Bool.false_and, Bool.and_false, Bool.not_false, if_false]
      · simp only [asets, List.replicate_succ, List.replicate_zero, List.cons_append, List.nil_append, Tops_top, Tops_same, Tops_nil, Int.natCast_add, Int.natCast_one]
    by_cases g3 : j < (l.getD x default).id
    case neg =>
      simp only [g1, g2, g3, h0, h, e5, iaddr_dset, pdset, w2, lay, slicelV_own, slicelV_fz, onLive_some, RT_slicel, RE_slicel, slice3V_eq, room3_some, roomOf_own, roomOf_fz, RT_slice3, RT_calld, apI_some, clC_some, clearV_own, clearV_fz, wk3, onStO, bareL, toCl, onApO, chunks, wk, iaddrV_map, emb, unAgg, ares, aresL, ares1, tupled, forall_const, Nat.reduceAdd, Nat.reduceSub, Nat.reduceMul, Nat.reduceLeDiff, Nat.reduceEqDiff, Nat.reduceBEq, Int.reduceLE, Int.reduceLT, Int.reduceEq, Int.reduceNe, Int.reduceAdd, Int.reduceSub, Int.reduceToNat, Int.reduceNeg, ↓reduceIte, reduceCtorEq, cellsOf, cellA, lay, fillA]
      refine QLoop_go (n' := l.length - (x + 1)) (by omega) ⟨x + 1, by omega, rfl, fun y hy => ?_, rfl, rfl⟩ ?_
      · rcases Nat.lt_or_ge y x with h' | h'
        · exact hn y h'
        · have : y = x := by omega
          subst this
          unfold laterA
          simp only [g3, decide_false, Bool.false_and, Bool.and_false, Bool.not_false, if_false]
      · simp only [asets, List.replicate_succ, List.replicate_zero, List.cons_append, List.nil_append, Tops_top, Tops_same, Tops_nil, Int.natCast_add, Int.natCast_one]
    have hI : idxA (laterA i j) l = x := idxA_some hx2 (by unfold laterA; simp only [g1, g2, g3, decide_true, Bool.and_true]) hn
    rw [hI, if_pos (by omega)] at hB
    simp only [g1, g2, g3, h0, h, e5, iaddr_dset, pdset, hB, lay, slicelV_own, slicelV_fz, onLive_some, RT_slicel, RE_slicel, slice3V_eq, room3_some, roomOf_own, roomOf_fz, RT_slice3, RT_calld, apI_some, clC_some, clearV_own, clearV_fz, wk3, onStO, bareL, toCl, onApO, chunks, wk, iaddrV_map, emb, unAgg, ares, aresL, ares1, tupled, forall_const, Nat.reduceAdd, Nat.reduceSub, Nat.reduceMul, Nat.reduceLeDiff, Nat.reduceEqDiff, Nat.reduceBEq, Int.reduceLE, Int.reduceLT, Int.reduceEq, Int.reduceNe, Int.reduceAdd, Int.reduceSub, Int.reduceToNat, Int.reduceNeg, ↓reduceIte, reduceCtorEq, cellsOf, cellA, lay, fillA]
    exact KWk_bare (by simp [bare, bareL]) ⟨rfl, rfl⟩
  · have hI : idxA (laterA i j) l = -1 := idxA_none fun y hy => hn y (by omega)
    rw [hI, if_neg (by decide)] at hB
    simp only [h, cellsD, rows5D, lay, slicelV_own, slicelV_fz, onLive_some, RT_slicel, RE_slicel, slice3V_eq, room3_some, roomOf_own, roomOf_fz, RT_slice3, RT_calld, apI_some, clC_some, clearV_own, clearV_fz, wk3, onStO, bareL, toCl, onApO, chunks, wk, iaddrV_map, emb, unAgg, ares, aresL, ares1, tupled, forall_const, Nat.reduceAdd, Nat.reduceSub, Nat.reduceMul, Nat.reduceLeDiff, Nat.reduceEqDiff, Nat.reduceBEq, Int.reduceLE, Int.reduceLT, Int.reduceEq, Int.reduceNe, Int.reduceAdd, Int.reduceSub, Int.reduceToNat, Int.reduceNeg, ↓reduceIte, reduceCtorEq, cellsOf, cellA, lay, fillA]
    refine ⟨⟨by omega, by omega⟩, ?_⟩
    refine WT_drawE ?_
    refine WDT_more 0 ?_
    simp only [cellD, aset, lay, slicelV_own, slicelV_fz, onLive_some, RT_slicel, RE_slicel, slice3V_eq, room3_some, roomOf_own, roomOf_fz, RT_slice3, RT_calld, apI_some, clC_some, clearV_own, clearV_fz, wk3, onStO, bareL, toCl, onApO, chunks, wk, iaddrV_map, emb, unAgg, ares, aresL, ares1, tupled, forall_const, Nat.reduceAdd, Nat.reduceSub, Nat.reduceMul, Nat.reduceLeDiff, Nat.reduceEqDiff, Nat.reduceBEq, Int.reduceLE, Int.reduceLT, Int.reduceEq, Int.reduceNe, Int.reduceAdd, Int.reduceSub, Int.reduceToNat, Int.reduceNeg, ↓reduceIte, reduceCtorEq, cellsOf, cellA, lay, fillA]
    refine CFT_pure (x := .int .i64 (findA l i)) rfl rfl (rat85 l hl1 i []) (by simp) ?_
    have k0 : (0 : Int) ≤ k := by omega
    have k1 : (k : Int) < l.length := by omega
    have hc := cell_at hk
    simp only [e, k0, k1, hc, cellD, aset, lay, slicelV_own, slicelV_fz, onLive_some, RT_slicel, RE_slicel, slice3V_eq, room3_some, roomOf_own, roomOf_fz, RT_slice3, RT_calld, apI_some, clC_some, clearV_own, clearV_fz, wk3, onStO, bareL, toCl, onApO, chunks, wk, iaddrV_map, emb, unAgg, ares, aresL, ares1, tupled, forall_const, Nat.reduceAdd, Nat.reduceSub, Nat.reduceMul, Nat.reduceLeDiff, Nat.reduceEqDiff, Nat.reduceBEq, Int.reduceLE, Int.reduceLT, Int.reduceEq, Int.reduceNe, Int.reduceAdd, Int.reduceSub, Int.reduceToNat, Int.reduceNeg, ↓reduceIte, reduceCtorEq, cellsOf, cellA, lay, fillA]
    refine ⟨by rfl, ?_⟩
    rw [hB]
    exact KWk_sets 2 (l.set k _) 0 _ (by simp) (by rw [List.map_set]; rfl) ⟨rfl, rfl⟩
end Go.Proofs.YtemjlopoffjmpaaGreat.Abs
set_option linter.unusedSimpArgs false
set_option linter.unusedVariables false
namespace Go.Proofs.YtemjlopoffjmpaaGreat.Abs
open Go Go.Proofs

def notA (i : Int) (d : Dset) : Bool := !decide (d.id = i)
def hgB (l : List Dset) (i : Int) : Bool := l.any fun d => decide (d.origin = i)
theorem take_filter (p : Dset → Bool) (l : List Dset) (k : Nat) (h : k < l.length) : (l.take (k + 1)).filter p = (l.take k).filter p ++ if p (l.getD k default) then [l.getD k default] else [] := by
  rw [List.take_add_one, List.getElem?_eq_getElem h, List.filter_append]
  simp only [List.getD_eq_getElem?_getD, List.getElem?_eq_getElem h, Option.getD_some, Option.toList_some, List.filter_cons, List.filter_nil]
theorem hgB_take (l : List Dset) (i : Int) (k : Nat) (h : k < l.length) : hgB (l.take (k + 1)) i = (hgB (l.take k) i || decide ((l.getD k default).origin = i)) := by
  unfold hgB
  rw [List.take_add_one, List.getElem?_eq_getElem h, List.any_append]
  simp only [List.getD_eq_getElem?_getD, List.getElem?_eq_getElem h, Option.getD_some, Option.toList_some, List.any_cons, List.any_nil, Bool.or_false]
/-- palimpref16.Destroy -/
def destR (l : List Dset) (i : Int) : List Dset × Int := match getA l i with
  | none => (l, 2)
  | some d => if hgB l i = true ∨ (d.kind = 1 ∧ livesA l = 1) then (l, 10) else (l.filter (notA i), 0)
theorem rdestroy0 (l : List Dset) (hl : Short l) (i : Int) : C Tryz.prog 75 [asets l, .int .i64 i] [] (fun y H' => y = outA (destR l i) ∧ H' = []) := by
  have hl1 := hl.1
  refine C_body' d75 rfl (WT_ok ?_)
  unfold c75
  simp only [lay, wk3, onStO, bareL, toCl, onApO, chunks, wk, iaddrV_map, emb, unAgg, ares, aresL, ares1, tupled, forall_const, Nat.reduceAdd, Nat.reduceSub, Nat.reduceMul, Nat.reduceLeDiff, Nat.reduceEqDiff, Nat.reduceBEq, Int.reduceLE, Int.reduceLT, Int.reduceEq, Int.reduceNe, Int.reduceAdd, Int.reduceSub, Int.reduceToNat, Int.reduceNeg, ↓reduceIte, reduceCtorEq, cellsOf, cellA, lay, fillA]
  refine CT_ok (rgetL l hl1 i _) ?_
  rintro _ _ ⟨rfl, rfl⟩
  cases hg : getA l i with
  | none =>
    have hA : destR l i = (l, 2) := by unfold destR; rw [hg]
    rw [hA]
    simp only [getV, lay, wk3, onStO, bareL, toCl, onApO, chunks, wk, iaddrV_map, emb, unAgg, ares, aresL, ares1, tupled, forall_const, Nat.reduceAdd, Nat.reduceSub, Nat.reduceMul, Nat.reduceLeDiff, Nat.reduceEqDiff, Nat.reduceBEq, Int.reduceLE, Int.reduceLT, Int.reduceEq, Int.reduceNe, Int.reduceAdd, Int.reduceSub, Int.reduceToNat, Int.reduceNeg, ↓reduceIte, reduceCtorEq, cellsOf, cellA, lay, fillA]
    exact KWk_bare (by simp [bare, bareL, asets]) ⟨rfl, rfl⟩
  | some d =>
  have hB : destR l i = if hgB l i = true ∨ (d.kind = 1 ∧ livesA l = 1) then (l, 10) else (l.filter (notA i), 0) := by unfold destR; rw [hg]
  simp only [getV, cellD, aset, lay, wk3, onStO, bareL, toCl, onApO, chunks, wk, iaddrV_map, emb, unAgg, ares, aresL, ares1, tupled, forall_const, Nat.reduceAdd, Nat.reduceSub, Nat.reduceMul, Nat.reduceLeDiff, Nat.reduceEqDiff, Nat.reduceBEq, Int.reduceLE, Int.reduceLT, Int.reduceEq, Int.reduceNe, Int.reduceAdd, Int.reduceSub, Int.reduceToNat, Int.reduceNeg, ↓reduceIte, reduceCtorEq, cellsOf, cellA, lay, fillA]
  refine WT_loop (W_wk (fr' := [asets l, .int .i64 i, .top, .top, .emp, .int .i64 0, .ptr 0 0 0 1, .bool true, .int .i64 0, .bool false, .own 1 5 0 0 0, .int .i64 0] ++ List.replicate 59 .top) (H' := [some [cellD d], some []]) ((Wk_empAt 10 5 rfl).trans (Wk_tops ?_)) (W_loop (fun n fr H' => ∃ x : Nat, x ≤ l.length ∧ n = l.length - x ∧ H' = [some [cellD d], some (((l.take x).filter (notA i)).map cellD)] ∧
    fr = [asets l, .int .i64 i, .top, .top, .emp, .int .i64 0, .ptr 0 0 0 1, .bool true, .int .i64 (livesA (l.take x)), .bool (hgB (l.take x) i), .own 1 5 0 ((l.take x).filter (notA i)).length ((l.take x).filter (notA i)).length, .int .i64 x] ++ List.replicate 59 .top) l.length ⟨0, by omega, rfl, rfl, rfl⟩ ?_))
  · simp only [asets, List.replicate_succ, List.replicate_zero, List.cons_append, List.nil_append, List.set_cons_succ, List.set_cons_zero, List.length_cons, List.length_nil, Nat.zero_add, Tops_top, Tops_same, Tops_nil]
  rintro n fr H' ⟨x, hx, rfl, rfl, rfl⟩
  refine WT_ok ?_
  simp only [asets, lay, slicelV_own, slicelV_fz, onLive_some, RT_slicel, RE_slicel, slice3V_eq, room3_some, roomOf_own, roomOf_fz, RT_slice3, RT_calld, apI_some, clC_some, clearV_own, clearV_fz, wk3, onStO, bareL, toCl, onApO, chunks, wk, iaddrV_map, emb, unAgg, ares, aresL, ares1, tupled, forall_const, Nat.reduceAdd, Nat.reduceSub, Nat.reduceMul, Nat.reduceLeDiff, Nat.reduceEqDiff, Nat.reduceBEq, Int.reduceLE, Int.reduceLT, Int.reduceEq, Int.reduceNe, Int.reduceAdd, Int.reduceSub, Int.reduceToNat, Int.reduceNeg, ↓reduceIte, reduceCtorEq, cellsOf, cellA, lay, fillA]
  refine guard_both ?_ ?_ <;> intro h <;> simp only [hy] at h
  · have hx2 : x < l.length := by omega
    have w2 : IntKind.i64.wrap ((x : Int) + 1) = (x : Int) + 1 := IntWalk.i64_in _ (by omega)
    have h0 : (0 : Int) ≤ x := by omega
    have e5 : (pdset (l.getD x default)).length = 5 := rfl
    have ht := livesA_take l x hx2
    have hu := hgB_take l i x hx2
    have hf := take_filter (notA i) l x hx2
    have hle := livesA_le (l.take x)
    have hfl := List.length_filter_le (notA i) (l.take x)
    have hle2 : (l.take x).length ≤ l.length := by simp; omega
    have w3 : IntKind.i64.wrap ((livesA (l.take x) : Int) + 1) = ((livesA (l.take x) + 1 : Nat) : Int) := by rw [IntWalk.i64_in _ (by omega)]; omega
    simp only [h, h0, e5, iaddr_dset, pdset, lay, slicelV_own, slicelV_fz, onLive_some, RT_slicel, RE_slicel, slice3V_eq, room3_some, roomOf_own, roomOf_fz, RT_slice3, RT_calld, apI_some, clC_some, clearV_own, clearV_fz, wk3, onStO, bareL, toCl, onApO, chunks, wk, iaddrV_map, emb, unAgg, ares, aresL, ares1, tupled, forall_const, Nat.reduceAdd, Nat.reduceSub, Nat.reduceMul, Nat.reduceLeDiff, Nat.reduceEqDiff, Nat.reduceBEq, Int.reduceLE, Int.reduceLT, Int.reduceEq, Int.reduceNe, Int.reduceAdd, Int.reduceSub, Int.reduceToNat, Int.reduceNeg, ↓reduceIte, reduceCtorEq, cellsOf, cellA, lay, fillA]
    have ec : ∀ p : notA i (l.getD x default) = true, ((l.take (x + 1)).filter (notA i)).map cellD = ((l.take x).filter (notA i)).map cellD ++ [cellD (l.getD x default)] := fun p => by rw [hf, if_pos p, List.map_append]; rfl
    have en : ∀ p : ¬ notA i (l.getD x default) = true, (l.take (x + 1)).filter (notA i) = (l.take x).filter (notA i) := fun p => by rw [hf, if_neg p, List.append_nil]
    by_cases c1 : (l.getD x default).kind = 1
    · rw [if_pos c1] at ht
      cases hb : hgB (l.take x) i
      · rw [hb] at hu
        by_cases c2 : (l.getD x default).origin = i
        · skip
          by_cases c3 : (l.getD x default).id = i
          · have hno : ¬ notA i (l.getD x default) = true := by unfold notA; rw [c3]; simp
            rw [en hno] at hf
            simp only [h, h0, c1, hb, c3, w2, w3, e5, iaddr_dset, pdset, cellD, aset, c2, lay, slicelV_own, slicelV_fz, onLive_some, RT_slicel, RE_slicel, slice3V_eq, room3_some, roomOf_own, roomOf_fz, RT_slice3, RT_calld, apI_some, clC_some, clearV_own, clearV_fz, wk3, onStO, bareL, toCl, onApO, chunks, wk, iaddrV_map, emb, unAgg, ares, aresL, ares1, tupled, forall_const, Nat.reduceAdd, Nat.reduceSub, Nat.reduceMul, Nat.reduceLeDiff, Nat.reduceEqDiff, Nat.reduceBEq, Int.reduceLE, Int.reduceLT, Int.reduceEq, Int.reduceNe, Int.reduceAdd, Int.reduceSub, Int.reduceToNat, Int.reduceNeg, ↓reduceIte, reduceCtorEq, cellsOf, cellA, lay, fillA]
            refine QLoop_wk (n' := l.length - (x + 1)) (by omega) ⟨x + 1, by omega, rfl, (by rw [en hno]), rfl⟩ (Wk_obj2 (renO_one _ d) (renO_cells _ ((l.take x).filter (notA i))) ?_)
            simp only [ht, hu, en hno, c2, renL, ren, asets, upTo, show (0 : Nat) < 2 by omega, show (1 : Nat) < 2 by omega, if_true, List.replicate_succ, List.replicate_zero, List.cons_append, List.nil_append, Tops_top, Tops_same, Tops_nil, Int.natCast_add, Int.natCast_one, List.length_append, List.length_cons, List.length_nil, Nat.zero_add, Bool.or_true, Bool.true_or, Bool.or_false, Bool.false_or, decide_true, decide_false]
          · have hno : notA i (l.getD x default) = true := by unfold notA; rw [decide_eq_false c3]; rfl
            have ec2 := ec hno
            simp only [cellD, aset, c1, c2] at ec2
            simp only [h, h0, c1, hb, c3, w2, w3, e5, iaddr_dset, pdset, cellD, aset, c2, lay, slicelV_own, slicelV_fz, onLive_some, RT_slicel, RE_slicel, slice3V_eq, room3_some, roomOf_own, roomOf_fz, RT_slice3, RT_calld, apI_some, clC_some, clearV_own, clearV_fz, wk3, onStO, bareL, toCl, onApO, chunks, wk, iaddrV_map, emb, unAgg, ares, aresL, ares1, tupled, forall_const, Nat.reduceAdd, Nat.reduceSub, Nat.reduceMul, Nat.reduceLeDiff, Nat.reduceEqDiff, Nat.reduceBEq, Int.reduceLE, Int.reduceLT, Int.reduceEq, Int.reduceNe, Int.reduceAdd, Int.reduceSub, Int.reduceToNat, Int.reduceNeg, ↓reduceIte, reduceCtorEq, cellsOf, cellA, lay, fillA]
            refine ⟨⟨by omega, by omega⟩, ?_⟩
            refine QLoop_wk (n' := l.length - (x + 1)) (by omega) ⟨x + 1, by omega, rfl, (by rw [ec2]), rfl⟩ (Wk_obj2 (renO_one _ d) (by have := renO_cells (upTo 2) ((l.take (x + 1)).filter (notA i)); rw [ec2] at this; exact this) ?_)
            rw [if_pos hno] at hf
            simp only [ht, hu, hf, c2, renL, ren, asets, upTo, show (0 : Nat) < 2 by omega, show (1 : Nat) < 2 by omega, if_true, List.replicate_succ, List.replicate_zero, List.cons_append, List.nil_append, Tops_top, Tops_same, Tops_nil, Int.natCast_add, Int.natCast_one, List.length_append, List.length_cons, List.length_nil, Nat.zero_add, Bool.or_true, Bool.true_or, Bool.or_false, Bool.false_or, decide_true, decide_false]
        · skip
          by_cases c3 : (l.getD x default).id = i
          · have hno : ¬ notA i (l.getD x default) = true := by unfold notA; rw [c3]; simp
            rw [en hno] at hf
            simp only [h, h0, c1, hb, c3, w2, w3, e5, iaddr_dset, pdset, cellD, aset, c2, lay, slicelV_own, slicelV_fz, onLive_some, RT_slicel, RE_slicel, slice3V_eq, room3_some, roomOf_own, roomOf_fz, RT_slice3, RT_calld, apI_some, clC_some, clearV_own, clearV_fz, wk3, onStO, bareL, toCl, onApO, chunks, wk, iaddrV_map, emb, unAgg, ares, aresL, ares1, tupled, forall_const, Nat.reduceAdd, Nat.reduceSub, Nat.reduceMul, Nat.reduceLeDiff, Nat.reduceEqDiff, Nat.reduceBEq, Int.reduceLE, Int.reduceLT, Int.reduceEq, Int.reduceNe, Int.reduceAdd, Int.reduceSub, Int.reduceToNat, Int.reduceNeg, ↓reduceIte, reduceCtorEq, cellsOf, cellA, lay, fillA]
            refine QLoop_wk (n' := l.length - (x + 1)) (by omega) ⟨x + 1, by omega, rfl, (by rw [en hno]), rfl⟩ (Wk_obj2 (renO_one _ d) (renO_cells _ ((l.take x).filter (notA i))) ?_)
            simp only [ht, hu, en hno, c2, renL, ren, asets, upTo, show (0 : Nat) < 2 by omega, show (1 : Nat) < 2 by omega, if_true, List.replicate_succ, List.replicate_zero, List.cons_append, List.nil_append, Tops_top, Tops_same, Tops_nil, Int.natCast_add, Int.natCast_one, List.length_append, List.length_cons, List.length_nil, Nat.zero_add, Bool.or_true, Bool.true_or, Bool.or_false, Bool.false_or, decide_true, decide_false]
          · have hno : notA i (l.getD x default) = true := by unfold notA; rw [decide_eq_false c3]; rfl
            have ec2 := ec hno
            simp only [cellD, aset, c1, c2] at ec2
            simp only [h, h0, c1, hb, c3, w2, w3, e5, iaddr_dset, pdset, cellD, aset, c2, lay, slicelV_own, slicelV_fz, onLive_some, RT_slicel, RE_slicel, slice3V_eq, room3_some, roomOf_own, roomOf_fz, RT_slice3, RT_calld, apI_some, clC_some, clearV_own, clearV_fz, wk3, onStO, bareL, toCl, onApO, chunks, wk, iaddrV_map, emb, unAgg, ares, aresL, ares1, tupled, forall_const, Nat.reduceAdd, Nat.reduceSub, Nat.reduceMul, Nat.reduceLeDiff, Nat.reduceEqDiff, Nat.reduceBEq, Int.reduceLE, Int.reduceLT, Int.reduceEq, Int.reduceNe, Int.reduceAdd, Int.reduceSub, Int.reduceToNat, Int.reduceNeg, ↓reduceIte, reduceCtorEq, cellsOf, cellA, lay, fillA]
            refine ⟨⟨by omega, by omega⟩, ?_⟩
            refine QLoop_wk (n' := l.length - (x + 1)) (by omega) ⟨x + 1, by omega, rfl, (by rw [ec2]), rfl⟩ (Wk_obj2 (renO_one _ d) (by have := renO_cells (upTo 2) ((l.take (x + 1)).filter (notA i)); rw [ec2] at this; exact this) ?_)
            rw [if_pos hno] at hf
            simp only [ht, hu, hf, c2, renL, ren, asets, upTo, show (0 : Nat) < 2 by omega, show (1 : Nat) < 2 by omega, if_true, List.replicate_succ, List.replicate_zero, List.cons_append, List.nil_append, Tops_top, Tops_same, Tops_nil, Int.natCast_add, Int.natCast_one, List.length_append, List.length_cons, List.length_nil, Nat.zero_add, Bool.or_true, Bool.true_or, Bool.or_false, Bool.false_or, decide_true, decide_false]
      · rw [hb] at hu
        by_cases c3 : (l.getD x default).id = i
        · have hno : ¬ notA i (l.getD x default) = true := by unfold notA; rw [c3]; simp
          rw [en hno] at hf
          simp only [h, h0, c1, hb, c3, w2, w3, e5, iaddr_dset, pdset, cellD, aset, lay, slicelV_own, slicelV_fz, onLive_some, RT_slicel, RE_slicel, slice3V_eq, room3_some, roomOf_own, roomOf_fz, RT_slice3, RT_calld, apI_some, clC_some, clearV_own, clearV_fz, wk3, onStO, bareL, toCl, onApO, chunks, wk, iaddrV_map, emb, unAgg, ares, aresL, ares1, tupled, forall_const, Nat.reduceAdd, Nat.reduceSub, Nat.reduceMul, Nat.reduceLeDiff, Nat.reduceEqDiff, Nat.reduceBEq, Int.reduceLE, Int.reduceLT, Int.reduceEq, Int.reduceNe, Int.reduceAdd, Int.reduceSub, Int.reduceToNat, Int.reduceNeg, ↓reduceIte, reduceCtorEq, cellsOf, cellA, lay, fillA]
          refine QLoop_wk (n' := l.length - (x + 1)) (by omega) ⟨x + 1, by omega, rfl, (by rw [en hno]), rfl⟩ (Wk_obj2 (renO_one _ d) (renO_cells _ ((l.take x).filter (notA i))) ?_)
          simp only [ht, hu, en hno, renL, ren, asets, upTo, show (0 : Nat) < 2 by omega, show (1 : Nat) < 2 by omega, if_true, List.replicate_succ, List.replicate_zero, List.cons_append, List.nil_append, Tops_top, Tops_same, Tops_nil, Int.natCast_add, Int.natCast_one, List.length_append, List.length_cons, List.length_nil, Nat.zero_add, Bool.or_true, Bool.true_or, Bool.or_false, Bool.false_or, decide_true, decide_false]
        · have hno : notA i (l.getD x default) = true := by unfold notA; rw [decide_eq_false c3]; rfl
          have ec2 := ec hno
          simp only [cellD, aset, c1] at ec2
          simp only [h, h0, c1, hb, c3, w2, w3, e5, iaddr_dset, pdset, cellD, aset, lay, slicelV_own, slicelV_fz, onLive_some, RT_slicel, RE_slicel, slice3V_eq, room3_some, roomOf_own, roomOf_fz, RT_slice3, RT_calld, apI_some, clC_some, clearV_own, clearV_fz, wk3, onStO, bareL, toCl, onApO, chunks, wk, iaddrV_map, emb, unAgg, ares, aresL, ares1, tupled, forall_const, Nat.reduceAdd, Nat.reduceSub, Nat.reduceMul, Nat.reduceLeDiff, Nat.reduceEqDiff, Nat.reduceBEq, Int.reduceLE, Int.reduceLT, Int.reduceEq, Int.reduceNe, Int.reduceAdd, Int.reduceSub, Int.reduceToNat, Int.reduceNeg, ↓reduceIte, reduceCtorEq, cellsOf, cellA, lay, fillA]
          refine ⟨⟨by omega, by omega⟩, ?_⟩
          refine QLoop_wk (n' := l.length - (x + 1)) (by omega) ⟨x + 1, by omega, rfl, (by rw [ec2]), rfl⟩ (Wk_obj2 (renO_one _ d) (by have := renO_cells (upTo 2) ((l.take (x + 1)).filter (notA i)); rw [ec2] at this; exact this) ?_)
          rw [if_pos hno] at hf
          simp only [ht, hu, hf, renL, ren, asets, upTo, show (0 : Nat) < 2 by omega, show (1 : Nat) < 2 by omega, if_true, List.replicate_succ, List.replicate_zero, List.cons_append, List.nil_append, Tops_top, Tops_same, Tops_nil, Int.natCast_add, Int.natCast_one, List.length_append, List.length_cons, List.length_nil, Nat.zero_add, Bool.or_true, Bool.true_or, Bool.or_false, Bool.false_or, decide_true, decide_false]
    · replace ht : livesA (l.take (x + 1)) = livesA (l.take x) := by rw [ht, if_neg c1]; rfl
      cases hb : hgB (l.take x) i
      · rw [hb] at hu
        by_cases c2 : (l.getD x default).origin = i
        · skip
          by_cases c3 : (l.getD x default).id = i
          · have hno : ¬ notA i (l.getD x default) = true := by unfold notA; rw [c3]; simp
            rw [en hno] at hf
            simp only [h, h0, c1, hb, c3, w2, w3, e5, iaddr_dset, pdset, cellD, aset, c2, lay, slicelV_own, slicelV_fz, onLive_some, RT_slicel, RE_slicel, slice3V_eq, room3_some, roomOf_own, roomOf_fz, RT_slice3, RT_calld, apI_some, clC_some, clearV_own, clearV_fz, wk3, onStO, bareL, toCl, onApO, chunks, wk, iaddrV_map, emb, unAgg, ares, aresL, ares1, tupled, forall_const, Nat.reduceAdd, Nat.reduceSub, Nat.reduceMul, Nat.reduceLeDiff, Nat.reduceEqDiff, Nat.reduceBEq, Int.reduceLE, Int.reduceLT, Int.reduceEq, Int.reduceNe, Int.reduceAdd, Int.reduceSub, Int.reduceToNat, Int.reduceNeg, ↓reduceIte, reduceCtorEq, cellsOf, cellA, lay, fillA]
            refine QLoop_wk (n' := l.length - (x + 1)) (by omega) ⟨x + 1, by omega, rfl, (by rw [en hno]), rfl⟩ (Wk_obj2 (renO_one _ d) (renO_cells _ ((l.take x).filter (notA i))) ?_)
            simp only [ht, hu, en hno, c2, renL, ren, asets, upTo, show (0 : Nat) < 2 by omega, show (1 : Nat) < 2 by omega, if_true, List.replicate_succ, List.replicate_zero, List.cons_append, List.nil_append, Tops_top, Tops_same, Tops_nil, Int.natCast_add, Int.natCast_one, List.length_append, List.length_cons, List.length_nil, Nat.zero_add, Bool.or_true, Bool.true_or, Bool.or_false, Bool.false_or, decide_true, decide_false]
          · have hno : notA i (l.getD x default) = true := by unfold notA; rw [decide_eq_false c3]; rfl
            have ec2 := ec hno
            simp only [cellD, aset, c1, c2] at ec2
            simp only [h, h0, c1, hb, c3, w2, w3, e5, iaddr_dset, pdset, cellD, aset, c2, lay, slicelV_own, slicelV_fz, onLive_some, RT_slicel, RE_slicel, slice3V_eq, room3_some, roomOf_own, roomOf_fz, RT_slice3, RT_calld, apI_some, clC_some, clearV_own, clearV_fz, wk3, onStO, bareL, toCl, onApO, chunks, wk, iaddrV_map, emb, unAgg, ares, aresL, ares1, tupled, forall_const, Nat.reduceAdd, Nat.reduceSub, Nat.reduceMul, Nat.reduceLeDiff, Nat.reduceEqDiff, Nat.reduceBEq, Int.reduceLE, Int.reduceLT, Int.reduceEq, Int.reduceNe, Int.reduceAdd, Int.reduceSub, Int.reduceToNat, Int.reduceNeg, ↓reduceIte, reduceCtorEq, cellsOf, cellA, lay, fillA]
            refine ⟨⟨by omega, by omega⟩, ?_⟩
            refine QLoop_wk (n' := l.length - (x + 1)) (by omega) ⟨x + 1, by omega, rfl, (by rw [ec2]), rfl⟩ (Wk_obj2 (renO_one _ d) (by have := renO_cells (upTo 2) ((l.take (x + 1)).filter (notA i)); rw [ec2] at this; exact this) ?_)
            rw [if_pos hno] at hf
            simp only [ht, hu, hf, c2, renL, ren, asets, upTo, show (0 : Nat) < 2 by omega, show (1 : Nat) < 2 by omega, if_true, List.replicate_succ, List.replicate_zero, List.cons_append, List.nil_append, Tops_top, Tops_same, Tops_nil, Int.natCast_add, Int.natCast_one, List.length_append, List.length_cons, List.length_nil, Nat.zero_add, Bool.or_true, Bool.true_or, Bool.or_false, Bool.false_or, decide_true, decide_false]
        · skip
          by_cases c3 : (l.getD x default).id = i
          · have hno : ¬ notA i (l.getD x default) = true := by unfold notA; rw [c3]; simp
            rw [en hno] at hf
            simp only [h, h0, c1, hb, c3, w2, w3, e5, iaddr_dset, pdset, cellD, aset, c2, lay, slicelV_own, slicelV_fz, onLive_some, RT_slicel, RE_slicel, slice3V_eq, room3_some, roomOf_own, roomOf_fz, RT_slice3, RT_calld, apI_some, clC_some, clearV_own, clearV_fz, wk3, onStO, bareL, toCl, onApO, chunks, wk, iaddrV_map, emb, unAgg, ares, aresL, ares1, tupled, forall_const, Nat.reduceAdd, Nat.reduceSub, Nat.reduceMul, Nat.reduceLeDiff, Nat.reduceEqDiff, Nat.reduceBEq, Int.reduceLE, Int.reduceLT, Int.reduceEq, Int.reduceNe, Int.reduceAdd, Int.reduceSub, Int.reduceToNat, Int.reduceNeg, ↓reduceIte, reduceCtorEq, cellsOf, cellA, lay, fillA]
            refine QLoop_wk (n' := l.length - (x + 1)) (by omega) ⟨x + 1, by omega, rfl, (by rw [en hno]), rfl⟩ (Wk_obj2 (renO_one _ d) (renO_cells _ ((l.take x).filter (notA i))) ?_)
            simp only [ht, hu, en hno, c2, renL, ren, asets, upTo, show (0 : Nat) < 2 by omega, show (1 : Nat) < 2 by omega, if_true, List.replicate_succ, List.replicate_zero, List.cons_append, List.nil_append, Tops_top, Tops_same, Tops_nil, Int.natCast_add, Int.natCast_one, List.length_append, List.length_cons, List.length_nil, Nat.zero_add, Bool.or_true, Bool.true_or, Bool.or_false, Bool.false_or, decide_true, decide_false]
          · have hno : notA i (l.getD x default) = true := by unfold notA; rw [decide_eq_false c3]; rfl
            have ec2 := ec hno
            simp only [cellD, aset, c1, c2] at ec2
            simp only [h, h0, c1, hb, c3, w2, w3, e5, iaddr_dset, pdset, cellD, aset, c2, lay, slicelV_own, slicelV_fz, onLive_some, RT_slicel, RE_slicel, slice3V_eq, room3_some, roomOf_own, roomOf_fz, RT_slice3, RT_calld, apI_some, clC_some, clearV_own, clearV_fz, wk3, onStO, bareL, toCl, onApO, chunks, wk, iaddrV_map, emb, unAgg, ares, aresL, ares1, tupled, forall_const, Nat.reduceAdd, Nat.reduceSub, Nat.reduceMul, Nat.reduceLeDiff, Nat.reduceEqDiff, Nat.reduceBEq, Int.reduceLE, Int.reduceLT, Int.reduceEq, Int.reduceNe, Int.reduceAdd, Int.reduceSub, Int.reduceToNat, Int.reduceNeg, ↓reduceIte, reduceCtorEq, cellsOf, cellA, lay, fillA]
            refine ⟨⟨by omega, by omega⟩, ?_⟩
            refine QLoop_wk (n' := l.length - (x + 1)) (by omega) ⟨x + 1, by omega, rfl, (by rw [ec2]), rfl⟩ (Wk_obj2 (renO_one _ d) (by have := renO_cells (upTo 2) ((l.take (x + 1)).filter (notA i)); rw [ec2] at this; exact this) ?_)
            rw [if_pos hno] at hf
            simp only [ht, hu, hf, c2, renL, ren, asets, upTo, show (0 : Nat) < 2 by omega, show (1 : Nat) < 2 by omega, if_true, List.replicate_succ, List.replicate_zero, List.cons_append, List.nil_append, Tops_top, Tops_same, Tops_nil, Int.natCast_add, Int.natCast_one, List.length_append, List.length_cons, List.length_nil, Nat.zero_add, Bool.or_true, Bool.true_or, Bool.or_false, Bool.false_or, decide_true, decide_false]
      · rw [hb] at hu
        by_cases c3 : (l.getD x default).id = i
        · have hno : ¬ notA i (l.getD x default) = true := by unfold notA; rw [c3]; simp
          rw [en hno] at hf
          simp only [h, h0, c1, hb, c3, w2, w3, e5, iaddr_dset, pdset, cellD, aset, lay, slicelV_own, slicelV_fz, onLive_some, RT_slicel, RE_slicel, slice3V_eq, room3_some, roomOf_own, roomOf_fz, RT_slice3, RT_calld, apI_some, clC_some, clearV_own, clearV_fz, wk3, onStO, bareL, toCl, onApO, chunks, wk, iaddrV_map, emb, unAgg, ares, aresL, ares1, tupled, forall_const, Nat.reduceAdd, Nat.reduceSub, Nat.reduceMul, Nat.reduceLeDiff, Nat.reduceEqDiff, Nat.reduceBEq, Int.reduceLE, Int.reduceLT, Int.reduceEq, Int.reduceNe, Int.reduceAdd, Int.reduceSub, Int.reduceToNat, Int.reduceNeg, ↓reduceIte, reduceCtorEq, cellsOf, cellA, lay, fillA]
          refine QLoop_wk (n' := l.length - (x + 1)) (by omega) ⟨x + 1, by omega, rfl, (by rw [en hno]), rfl⟩ (Wk_obj2 (renO_one _ d) (renO_cells _ ((l.take x).filter (notA i))) ?_)
          simp only [ht, hu, en hno, renL, ren, asets, upTo, show (0 : Nat) < 2 by omega, show (1 : Nat) < 2 by omega, if_true, List.replicate_succ, List.replicate_zero, List.cons_append, List.nil_append, Tops_top, Tops_same, Tops_nil, Int.natCast_add, Int.natCast_one, List.length_append, List.length_cons, List.length_nil, Nat.zero_add, Bool.or_true, Bool.true_or, Bool.or_false, Bool.false_or, decide_true, decide_false]
        · have hno : notA i (l.getD x default) = true := by unfold notA; rw [decide_eq_false c3]; rfl
          have ec2 := ec hno
          simp only [cellD, aset, c1] at ec2
          simp only [h, h0, c1, hb, c3, w2, w3, e5, iaddr_dset, pdset, cellD, aset, lay, slicelV_own, slicelV_fz, onLive_some, RT_slicel, RE_slicel, slice3V_eq, room3_some, roomOf_own, roomOf_fz, RT_slice3, RT_calld, apI_some, clC_some, clearV_own, clearV_fz, wk3, onStO, bareL, toCl, onApO, chunks, wk, iaddrV_map, emb, unAgg, ares, aresL, ares1, tupled, forall_const, Nat.reduceAdd, Nat.reduceSub, Nat.reduceMul, Nat.reduceLeDiff, Nat.reduceEqDiff, Nat.reduceBEq, Int.reduceLE, Int.reduceLT, Int.reduceEq, Int.reduceNe, Int.reduceAdd, Int.reduceSub, Int.reduceToNat, Int.reduceNeg, ↓reduceIte, reduceCtorEq, cellsOf, cellA, lay, fillA]
          refine ⟨⟨by omega, by omega⟩, ?_⟩
          refine QLoop_wk (n' := l.length - (x + 1)) (by omega) ⟨x + 1, by omega, rfl, (by rw [ec2]), rfl⟩ (Wk_obj2 (renO_one _ d) (by have := renO_cells (upTo 2) ((l.take (x + 1)).filter (notA i)); rw [ec2] at this; exact this) ?_)
          rw [if_pos hno] at hf
          simp only [ht, hu, hf, renL, ren, asets, upTo, show (0 : Nat) < 2 by omega, show (1 : Nat) < 2 by omega, if_true, List.replicate_succ, List.replicate_zero, List.cons_append, List.nil_append, Tops_top, Tops_same, Tops_nil, Int.natCast_add, Int.natCast_one, List.length_append, List.length_cons, List.length_nil, Nat.zero_add, Bool.or_true, Bool.true_or, Bool.or_false, Bool.false_or, decide_true, decide_false]
  · have : x = l.length := by omega
    subst this
    have hl2 : l.take l.length = l := List.take_length
    have fin : ∀ hne : ¬ (hgB l i = true ∨ (d.kind = 1 ∧ livesA l = 1)), KWk 0 (fun y H' => y = outA (destR l i) ∧ H' = []) (.tuple [.own 1 5 0 (l.filter (notA i)).length (l.filter (notA i)).length, .int .i64 0]) [some [cellD d], some ((l.filter (notA i)).map cellD)] := fun hne => by
      rw [if_neg hne] at hB
      rw [hB]
      exact KWk_sets 1 (l.filter (notA i)) 0 _ rfl rfl ⟨rfl, rfl⟩
    simp only [cellD, aset] at fin
    simp only [h, hl2, cellD, aset, lay, slicelV_own, slicelV_fz, onLive_some, RT_slicel, RE_slicel, slice3V_eq, room3_some, roomOf_own, roomOf_fz, RT_slice3, RT_calld, apI_some, clC_some, clearV_own, clearV_fz, wk3, onStO, bareL, toCl, onApO, chunks, wk, iaddrV_map, emb, unAgg, ares, aresL, ares1, tupled, forall_const, Nat.reduceAdd, Nat.reduceSub, Nat.reduceMul, Nat.reduceLeDiff, Nat.reduceEqDiff, Nat.reduceBEq, Int.reduceLE, Int.reduceLT, Int.reduceEq, Int.reduceNe, Int.reduceAdd, Int.reduceSub, Int.reduceToNat, Int.reduceNeg, ↓reduceIte, reduceCtorEq, cellsOf, cellA, lay, fillA]
    cases hb : hgB l i
    · by_cases c1 : d.kind = 1
      · by_cases c2 : (livesA l : Int) = 1
        · rw [if_pos (.inr ⟨c1, by omega⟩)] at hB
          simp only [hb, c1, c2, hB, lay, slicelV_own, slicelV_fz, onLive_some, RT_slicel, RE_slicel, slice3V_eq, room3_some, roomOf_own, roomOf_fz, RT_slice3, RT_calld, apI_some, clC_some, clearV_own, clearV_fz, wk3, onStO, bareL, toCl, onApO, chunks, wk, iaddrV_map, emb, unAgg, ares, aresL, ares1, tupled, forall_const, Nat.reduceAdd, Nat.reduceSub, Nat.reduceMul, Nat.reduceLeDiff, Nat.reduceEqDiff, Nat.reduceBEq, Int.reduceLE, Int.reduceLT, Int.reduceEq, Int.reduceNe, Int.reduceAdd, Int.reduceSub, Int.reduceToNat, Int.reduceNeg, ↓reduceIte, reduceCtorEq, cellsOf, cellA, lay, fillA]
          exact KWk_bare (by simp [bare, bareL]) ⟨rfl, rfl⟩
        · replace fin := fin (by rw [hb]; intro hh; rcases hh with hh | hh; cases hh; omega)
          rw [c1] at fin
          simp only [hb, c1, c2, lay, slicelV_own, slicelV_fz, onLive_some, RT_slicel, RE_slicel, slice3V_eq, room3_some, roomOf_own, roomOf_fz, RT_slice3, RT_calld, apI_some, clC_some, clearV_own, clearV_fz, wk3, onStO, bareL, toCl, onApO, chunks, wk, iaddrV_map, emb, unAgg, ares, aresL, ares1, tupled, forall_const, Nat.reduceAdd, Nat.reduceSub, Nat.reduceMul, Nat.reduceLeDiff, Nat.reduceEqDiff, Nat.reduceBEq, Int.reduceLE, Int.reduceLT, Int.reduceEq, Int.reduceNe, Int.reduceAdd, Int.reduceSub, Int.reduceToNat, Int.reduceNeg, ↓reduceIte, reduceCtorEq, cellsOf, cellA, lay, fillA]
          exact fin
      · replace fin := fin (by rw [hb]; intro hh; rcases hh with hh | hh; cases hh; exact c1 hh.1)
        simp only [hb, c1, lay, slicelV_own, slicelV_fz, onLive_some, RT_slicel, RE_slicel, slice3V_eq, room3_some, roomOf_own, roomOf_fz, RT_slice3, RT_calld, apI_some, clC_some, clearV_own, clearV_fz, wk3, onStO, bareL, toCl, onApO, chunks, wk, iaddrV_map, emb, unAgg, ares, aresL, ares1, tupled, forall_const, Nat.reduceAdd, Nat.reduceSub, Nat.reduceMul, Nat.reduceLeDiff, Nat.reduceEqDiff, Nat.reduceBEq, Int.reduceLE, Int.reduceLT, Int.reduceEq, Int.reduceNe, Int.reduceAdd, Int.reduceSub, Int.reduceToNat, Int.reduceNeg, ↓reduceIte, reduceCtorEq, cellsOf, cellA, lay, fillA]
        exact fin
    · rw [if_pos (.inl hb)] at hB
      simp only [hb, hB, lay, slicelV_own, slicelV_fz, onLive_some, RT_slicel, RE_slicel, slice3V_eq, room3_some, roomOf_own, roomOf_fz, RT_slice3, RT_calld, apI_some, clC_some, clearV_own, clearV_fz, wk3, onStO, bareL, toCl, onApO, chunks, wk, iaddrV_map, emb, unAgg, ares, aresL, ares1, tupled, forall_const, Nat.reduceAdd, Nat.reduceSub, Nat.reduceMul, Nat.reduceLeDiff, Nat.reduceEqDiff, Nat.reduceBEq, Int.reduceLE, Int.reduceLT, Int.reduceEq, Int.reduceNe, Int.reduceAdd, Int.reduceSub, Int.reduceToNat, Int.reduceNeg, ↓reduceIte, reduceCtorEq, cellsOf, cellA, lay, fillA]
      exact KWk_bare (by simp [bare, bareL]) ⟨rfl, rfl⟩
end Go.Proofs.YtemjlopoffjmpaaGreat.Abs
set_option linter.unusedSimpArgs false
set_option linter.unusedVariables false
namespace Go.Proofs.YtemjlopoffjmpaaGreat.Abs
open Go Go.Proofs

/-- How palimpref16.Promote turns a set. -/
def proR (i sid oid oo : Int) (y : Dset) : Dset :=
  reorig y (if y.id = oid then sid else if y.id = i then oo else if y.kind = 2 ∧ y.origin = oid ∧ y.id ≤ sid then i else y.origin)
theorem proR_eq {c o s x : Dset} (hx : x.id = c.id → x.kind = 1) (hx2 : x.id = o.id → x.kind = 1) (hne : c.id ≠ o.id) (hso : s.origin = o.id) : proF c o s x = proR c.id s.id o.id o.origin x := by
  unfold proF proR turnA
  rw [hso]
  by_cases h1 : x.id = c.id
  · rw [if_pos h1, if_neg (fun e => hne (h1.symm.trans e)), if_pos h1]
  · rw [if_neg h1]
    by_cases h2 : x.id = o.id
    · rw [if_pos h2, if_pos h2]
    · rw [if_neg h2, if_neg h2, if_neg h1]
      split
      · rfl
      · rfl
theorem promote_facts {l : List Dset} (h : MayL l) (i : Int) : (promoteA l i = (l, 2) ∧ getA l i = none) ∨ ∃ c, getA l i = some c ∧ (((c.kind ≠ 1 ∨ c.origin = 0) ∧ promoteA l i = (l, 1)) ∨
    (c.kind = 1 ∧ c.origin ≠ 0 ∧ ∃ s o, getA l c.origin = some s ∧ getA l s.origin = some o ∧ promoteA l i = (l.map (proR i s.id o.id o.origin), 0))) := by
  rcases find_of (l := l) (i := i) with ⟨e, _⟩ | ⟨k, e, hk, hid, _⟩
  · exact .inl ⟨by unfold promoteA; rw [if_pos (by omega)], getA_no e⟩
  refine .inr ⟨_, getA_of e, ?_⟩
  have hP : promoteA l i = if (l.getD k default).kind ≠ 1 ∨ (l.getD k default).origin = 0 then (l, 1) else if findA l (l.getD k default).origin < 0 ∨ isA l (l.getD (findA l (l.getD k default).origin).toNat default).origin 1 = false then (l, 1) else (promoted l i k (findA l (l.getD k default).origin).toNat (findA l (l.getD (findA l (l.getD k default).origin).toNat default).origin).toNat, 0) := by
    unfold promoteA
    rw [if_neg (by omega)]
    simp only [e, Int.toNat_natCast]
  by_cases h2 : (l.getD k default).kind ≠ 1 ∨ (l.getD k default).origin = 0
  · exact .inl ⟨h2, by rw [hP, if_pos h2]⟩
  rw [if_neg h2] at hP
  have hk1 : (l.getD k default).kind = 1 := Classical.byContradiction fun hh => h2 (.inl hh)
  have hk0 : (l.getD k default).origin ≠ 0 := fun hh => h2 (.inr hh)
  refine .inr ⟨hk1, hk0, ?_⟩
  obtain ⟨x, hx, hxi, hxk⟩ : ∃ o ∈ l, o.id = (l.getD k default).origin ∧ o.kind = 2 := by
    rcases (h.each _ (dgetD_mem hk)).live hk1 with h5 | h5
    · exact absurd h5 hk0
    · exact h5
  obtain ⟨_, y, hy, hyi, hyk⟩ := (h.each _ hx).snap hxk
  have gx : getA l (l.getD k default).origin = some x := by rw [← hxi]; exact h.find hx
  have gy : getA l x.origin = some y := by rw [← hyi]; exact h.find hy
  refine ⟨x, y, gx, gy, ?_⟩
  rcases find_of (l := l) (i := (l.getD k default).origin) with ⟨e', _⟩ | ⟨m, e', hm, hid', _⟩
  · rw [getA_no e'] at gx; cases gx
  rw [getA_of e'] at gx
  have gx' := Option.some.inj gx
  rw [e', Int.toNat_natCast, gx'] at hP
  rcases find_of (l := l) (i := x.origin) with ⟨e2, _⟩ | ⟨o, e2, ho, hoi, _⟩
  · rw [getA_no e2] at gy; cases gy
  rw [getA_of e2] at gy
  have gy' := Option.some.inj gy
  have h3 : isA l x.origin 1 = true := by
    unfold isA
    rw [e2, Int.toNat_natCast, gy', hyk]
    simp
  rw [e2, Int.toNat_natCast, if_neg (fun hh => hh.elim (fun hh => by omega) (fun hh => by rw [h3] at hh; cases hh))] at hP
  have hne : k ≠ o := by
    intro hko
    obtain ⟨r, hr⟩ := h.tree
    have r1 := hr _ hx _ hy hyi
    have r2 := hr _ (dgetD_mem hk) _ hx hxi
    rw [← gy', ← hko] at r1
    omega
  have hnid : (l.getD k default).id ≠ y.id := by
    intro hh
    rw [← gy'] at hh
    exact hne (h.inj hk ho hh)
  have hpm := promoted_map (ks := m) h hk ho hne hk1 (by rw [gy']; exact hyk)
  rw [hid, gx', gy'] at hpm
  rw [hP, hpm]
  congr 1
  apply List.map_congr_left
  intro z hz
  rw [← hid]
  refine proR_eq (fun e => ?_) (fun e => ?_) hnid hyi.symm
  · rw [h.inj' hz (dgetD_mem hk) e]; exact hk1
  · rw [h.inj' hz hy e]; exact hyk
end Go.Proofs.YtemjlopoffjmpaaGreat.Abs
set_option linter.unusedSimpArgs false
set_option linter.unusedVariables false
namespace Go.Proofs.YtemjlopoffjmpaaGreat.Abs
open Go Go.Proofs

theorem row_at {L : List (List AV)} {x : Nat} (h : x < L.length) (r : List AV) : (L.set x r)[x]? = some r := by rw [List.getElem?_set, if_pos rfl, if_pos h]
theorem row_two (L : List (List AV)) (x : Nat) (a b : List AV) : (L.set x a).set x b = L.set x b := by rw [List.set_set]
set_option maxHeartbeats 4000000 in
theorem rpromote0 (l : List Dset) (hM : MayL l) (i : Int) : C Tryz.prog 73 [asets l, .int .i64 i] [] (fun y H' => y = outA (promoteA l i) ∧ H' = []) := by
  have hl := hM.short
  have hl1 := hl.1
  have hp := promote_facts hM i
  refine C_body' d73 rfl (WT_ok ?_)
  unfold c73
  simp only [lay, wk3, onStO, bareL, toCl, onApO, chunks, wk, iaddrV_map, emb, unAgg, ares, aresL, ares1, tupled, forall_const, Nat.reduceAdd, Nat.reduceSub, Nat.reduceMul, Nat.reduceLeDiff, Nat.reduceEqDiff, Nat.reduceBEq, Int.reduceLE, Int.reduceLT, Int.reduceEq, Int.reduceNe, Int.reduceAdd, Int.reduceSub, Int.reduceToNat, Int.reduceNeg, ↓reduceIte, reduceCtorEq, cellsOf, cellA, lay, fillA]
  refine CT_ok (rgetL l hl1 i _) ?_
  rintro _ _ ⟨rfl, rfl⟩
  rcases hp with ⟨hA, hg⟩ | ⟨c, hg, ⟨hc, hA⟩ | ⟨g1, g2, s, o, gs, go, hA⟩⟩
  · rw [hg, hA]
    simp only [getV, lay, wk3, onStO, bareL, toCl, onApO, chunks, wk, iaddrV_map, emb, unAgg, ares, aresL, ares1, tupled, forall_const, Nat.reduceAdd, Nat.reduceSub, Nat.reduceMul, Nat.reduceLeDiff, Nat.reduceEqDiff, Nat.reduceBEq, Int.reduceLE, Int.reduceLT, Int.reduceEq, Int.reduceNe, Int.reduceAdd, Int.reduceSub, Int.reduceToNat, Int.reduceNeg, ↓reduceIte, reduceCtorEq, cellsOf, cellA, lay, fillA]
    exact KWk_bare (by simp [bare, bareL, asets]) ⟨rfl, rfl⟩
  · rw [hg, hA]
    by_cases g1 : c.kind = 1
    · have g2 : c.origin = 0 := by rcases hc with hc | hc; exact absurd g1 hc; exact hc
      simp only [getV, cellD, aset, g1, g2, lay, wk3, onStO, bareL, toCl, onApO, chunks, wk, iaddrV_map, emb, unAgg, ares, aresL, ares1, tupled, forall_const, Nat.reduceAdd, Nat.reduceSub, Nat.reduceMul, Nat.reduceLeDiff, Nat.reduceEqDiff, Nat.reduceBEq, Int.reduceLE, Int.reduceLT, Int.reduceEq, Int.reduceNe, Int.reduceAdd, Int.reduceSub, Int.reduceToNat, Int.reduceNeg, ↓reduceIte, reduceCtorEq, cellsOf, cellA, lay, fillA]
      exact KWk_bare (by simp [bare, bareL, asets]) ⟨rfl, rfl⟩
    · simp only [getV, cellD, aset, g1, lay, wk3, onStO, bareL, toCl, onApO, chunks, wk, iaddrV_map, emb, unAgg, ares, aresL, ares1, tupled, forall_const, Nat.reduceAdd, Nat.reduceSub, Nat.reduceMul, Nat.reduceLeDiff, Nat.reduceEqDiff, Nat.reduceBEq, Int.reduceLE, Int.reduceLT, Int.reduceEq, Int.reduceNe, Int.reduceAdd, Int.reduceSub, Int.reduceToNat, Int.reduceNeg, ↓reduceIte, reduceCtorEq, cellsOf, cellA, lay, fillA]
      exact KWk_bare (by simp [bare, bareL, asets]) ⟨rfl, rfl⟩
  rw [hg]
  simp only [getV, cellD, aset, g1, g2, lay, wk3, onStO, bareL, toCl, onApO, chunks, wk, iaddrV_map, emb, unAgg, ares, aresL, ares1, tupled, forall_const, Nat.reduceAdd, Nat.reduceSub, Nat.reduceMul, Nat.reduceLeDiff, Nat.reduceEqDiff, Nat.reduceBEq, Int.reduceLE, Int.reduceLT, Int.reduceEq, Int.reduceNe, Int.reduceAdd, Int.reduceSub, Int.reduceToNat, Int.reduceNeg, ↓reduceIte, reduceCtorEq, cellsOf, cellA, lay, fillA]
  refine CT_ok (rgetL l hl1 c.origin _) ?_
  rintro _ _ ⟨rfl, rfl⟩
  rw [gs]
  simp only [getV, cellD, aset, lay, wk3, onStO, bareL, toCl, onApO, chunks, wk, iaddrV_map, emb, unAgg, ares, aresL, ares1, tupled, forall_const, Nat.reduceAdd, Nat.reduceSub, Nat.reduceMul, Nat.reduceLeDiff, Nat.reduceEqDiff, Nat.reduceBEq, Int.reduceLE, Int.reduceLT, Int.reduceEq, Int.reduceNe, Int.reduceAdd, Int.reduceSub, Int.reduceToNat, Int.reduceNeg, ↓reduceIte, reduceCtorEq, cellsOf, cellA, lay, fillA]
  refine CT_ok (rgetL l hl1 s.origin _) ?_
  rintro _ _ ⟨rfl, rfl⟩
  rw [go]
  simp only [getV, cellD, aset, asets, cellsD, rows5D, lay, wk3, onStO, bareL, toCl, onApO, chunks, wk, iaddrV_map, emb, unAgg, ares, aresL, ares1, tupled, forall_const, Nat.reduceAdd, Nat.reduceSub, Nat.reduceMul, Nat.reduceLeDiff, Nat.reduceEqDiff, Nat.reduceBEq, Int.reduceLE, Int.reduceLT, Int.reduceEq, Int.reduceNe, Int.reduceAdd, Int.reduceSub, Int.reduceToNat, Int.reduceNeg, ↓reduceIte, reduceCtorEq, cellsOf, cellA, lay, fillA]
  refine ⟨⟨by omega, by omega⟩, ?_⟩
  refine WT_loop (W_wk (fr' := [asets l, .int .i64 i, .top, .top, .emp, .int .i64 0, .ptr 0 0 0 1, .bool true, .ptr 1 0 0 1, .bool true, .ptr 2 0 0 1, .bool true, .own 3 5 0 l.length l.length, .int .i64 0] ++ List.replicate 100 .top) (Wk_tops ?_) (W_loop (fun n fr H' => ∃ x : Nat, x ≤ l.length ∧ n = l.length - x ∧ H' = [some [cellD ⟨c.id, 1, c.origin, c.quota, c.files⟩], some [cellD s], some [cellD o], some ((someA (proR i s.id o.id o.origin) l x).map cellD)] ∧
    fr = [asets l, .int .i64 i, .top, .top, .emp, .int .i64 0, .ptr 0 0 0 1, .bool true, .ptr 1 0 0 1, .bool true, .ptr 2 0 0 1, .bool true, .own 3 5 0 l.length l.length, .int .i64 x] ++ List.replicate 100 .top) l.length ⟨0, by omega, rfl, by rw [someA_zero]; rfl, rfl⟩ ?_))
  · simp only [asets, List.replicate_succ, List.replicate_zero, List.cons_append, List.nil_append, Tops_top, Tops_same, Tops_nil]
  rintro n fr H' ⟨x, hx, rfl, rfl, rfl⟩
  refine WT_ok ?_
  have hsl := someA_len (proR i s.id o.id o.origin) l x (by omega)
  simp only [asets, hsl, cellD, aset, lay, slicelV_own, slicelV_fz, onLive_some, RT_slicel, RE_slicel, slice3V_eq, room3_some, roomOf_own, roomOf_fz, RT_slice3, RT_calld, apI_some, clC_some, clearV_own, clearV_fz, wk3, onStO, bareL, toCl, onApO, chunks, wk, iaddrV_map, emb, unAgg, ares, aresL, ares1, tupled, forall_const, Nat.reduceAdd, Nat.reduceSub, Nat.reduceMul, Nat.reduceLeDiff, Nat.reduceEqDiff, Nat.reduceBEq, Int.reduceLE, Int.reduceLT, Int.reduceEq, Int.reduceNe, Int.reduceAdd, Int.reduceSub, Int.reduceToNat, Int.reduceNeg, ↓reduceIte, reduceCtorEq, cellsOf, cellA, lay, fillA]
  refine guard_both ?_ ?_ <;> intro h <;> simp only [hy] at h
  · have hx2 : x < l.length := by omega
    have w2 : IntKind.i64.wrap ((x : Int) + 1) = (x : Int) + 1 := IntWalk.i64_in _ (by omega)
    have h0 : (0 : Int) ≤ x := by omega
    have hcj := cell_at (l := someA (proR i s.id o.id o.origin) l x) (k := x) (by omega)
    have hgj : (someA (proR i s.id o.id o.origin) l x).getD x default = l.getD x default := by rw [someA_getD _ _ _ _ (by omega), if_neg (by omega)]
    have hsu := someA_succ (proR i s.id o.id o.origin) l x hx2
    have hsw := set_cellD (someA (proR i s.id o.id o.origin) l x) x (proR i s.id o.id o.origin (l.getD x default))
    have hsame := cell_same (l := someA (proR i s.id o.id o.origin) l x) (k := x) (by omega)
    rw [hsu] at hsw
    rw [hgj] at hcj hsame
    generalize someA (proR i s.id o.id o.origin) l x = lj at *
    generalize hlj' : someA (proR i s.id o.id o.origin) l (x + 1) = lj' at hsu hsw
    generalize l.getD x default = y at *
    have hrow : ∀ r, ((lj.map cellD).set x r)[x]? = some r := fun r => row_at (by rw [List.length_map]; omega) r
    have hlen : (lj.map cellD).length = l.length := by rw [List.length_map]; omega
    have hlen2 : ∀ r, ((lj.map cellD).set x r).length = l.length := fun r => by rw [List.length_set]; exact hlen
    unfold proR reorig at hsw
    simp only [cellD, aset] at hcj hsw hsame
    rcases Classical.propComplete (y.kind = 2) with p1 | p1
    · rcases Classical.propComplete (y.origin = o.id) with p2 | p2
      · rcases Classical.propComplete (y.id ≤ s.id) with p3 | p3
        · skip
          rcases Classical.propComplete (y.id = i) with p4 | p4 <;> rcases Classical.propComplete (y.id = o.id) with p5 | p5
          all_goals
            simp only [p1, p2, p3, p4, p5, and_true, and_false, and_self, false_and, if_true, if_false] at hsw
            simp only [lay, slicelV_own, slicelV_fz, onLive_some, RT_slicel, RE_slicel, slice3V_eq, room3_some, roomOf_own, roomOf_fz, RT_slice3, RT_calld, apI_some, clC_some, clearV_own, clearV_fz, wk3, onStO, bareL, toCl, onApO, chunks, wk, iaddrV_map, emb, unAgg, ares, aresL, ares1, tupled, forall_const, Nat.reduceAdd, Nat.reduceSub, Nat.reduceMul, Nat.reduceLeDiff, Nat.reduceEqDiff, Nat.reduceBEq, Int.reduceLE, Int.reduceLT, Int.reduceEq, Int.reduceNe, Int.reduceAdd, Int.reduceSub, Int.reduceToNat, Int.reduceNeg, ↓reduceIte, reduceCtorEq, cellsOf, cellA, lay, fillA]
            refine WT_draw ?_
            simp only [p1, p2, p3, p4, p5, h, h0, hsl, hcj, hrow, row_two, w2, lay, slicelV_own, slicelV_fz, onLive_some, RT_slicel, RE_slicel, slice3V_eq, room3_some, roomOf_own, roomOf_fz, RT_slice3, RT_calld, apI_some, clC_some, clearV_own, clearV_fz, wk3, onStO, bareL, toCl, onApO, chunks, wk, iaddrV_map, emb, unAgg, ares, aresL, ares1, tupled, forall_const, Nat.reduceAdd, Nat.reduceSub, Nat.reduceMul, Nat.reduceLeDiff, Nat.reduceEqDiff, Nat.reduceBEq, Int.reduceLE, Int.reduceLT, Int.reduceEq, Int.reduceNe, Int.reduceAdd, Int.reduceSub, Int.reduceToNat, Int.reduceNeg, ↓reduceIte, reduceCtorEq, cellsOf, cellA, lay, fillA]
            refine WT_draw ?_
            simp only [p1, p2, p3, p4, p5, h, h0, hsl, hcj, hrow, row_two, w2, lay, slicelV_own, slicelV_fz, onLive_some, RT_slicel, RE_slicel, slice3V_eq, room3_some, roomOf_own, roomOf_fz, RT_slice3, RT_calld, apI_some, clC_some, clearV_own, clearV_fz, wk3, onStO, bareL, toCl, onApO, chunks, wk, iaddrV_map, emb, unAgg, ares, aresL, ares1, tupled, forall_const, Nat.reduceAdd, Nat.reduceSub, Nat.reduceMul, Nat.reduceLeDiff, Nat.reduceEqDiff, Nat.reduceBEq, Int.reduceLE, Int.reduceLT, Int.reduceEq, Int.reduceNe, Int.reduceAdd, Int.reduceSub, Int.reduceToNat, Int.reduceNeg, ↓reduceIte, reduceCtorEq, cellsOf, cellA, lay, fillA]
            refine QLoop_go (n' := l.length - (x + 1)) (by omega) ⟨x + 1, by omega, rfl, (by first | rw [hlj', ← hsw, hsame] | rw [hlj', ← hsw]), rfl⟩ ?_
            simp only [asets, List.replicate_succ, List.replicate_zero, List.cons_append, List.nil_append, Tops_top, Tops_same, Tops_nil, Int.natCast_add, Int.natCast_one]
        · skip
          rcases Classical.propComplete (y.id = i) with p4 | p4 <;> rcases Classical.propComplete (y.id = o.id) with p5 | p5
          all_goals
            simp only [p1, p2, p3, p4, p5, and_true, and_false, and_self, false_and, if_true, if_false] at hsw
            simp only [lay, slicelV_own, slicelV_fz, onLive_some, RT_slicel, RE_slicel, slice3V_eq, room3_some, roomOf_own, roomOf_fz, RT_slice3, RT_calld, apI_some, clC_some, clearV_own, clearV_fz, wk3, onStO, bareL, toCl, onApO, chunks, wk, iaddrV_map, emb, unAgg, ares, aresL, ares1, tupled, forall_const, Nat.reduceAdd, Nat.reduceSub, Nat.reduceMul, Nat.reduceLeDiff, Nat.reduceEqDiff, Nat.reduceBEq, Int.reduceLE, Int.reduceLT, Int.reduceEq, Int.reduceNe, Int.reduceAdd, Int.reduceSub, Int.reduceToNat, Int.reduceNeg, ↓reduceIte, reduceCtorEq, cellsOf, cellA, lay, fillA]
            refine WT_draw ?_
            simp only [p1, p2, p3, p4, p5, h, h0, hsl, hcj, hrow, row_two, w2, lay, slicelV_own, slicelV_fz, onLive_some, RT_slicel, RE_slicel, slice3V_eq, room3_some, roomOf_own, roomOf_fz, RT_slice3, RT_calld, apI_some, clC_some, clearV_own, clearV_fz, wk3, onStO, bareL, toCl, onApO, chunks, wk, iaddrV_map, emb, unAgg, ares, aresL, ares1, tupled, forall_const, Nat.reduceAdd, Nat.reduceSub, Nat.reduceMul, Nat.reduceLeDiff, Nat.reduceEqDiff, Nat.reduceBEq, Int.reduceLE, Int.reduceLT, Int.reduceEq, Int.reduceNe, Int.reduceAdd, Int.reduceSub, Int.reduceToNat, Int.reduceNeg, ↓reduceIte, reduceCtorEq, cellsOf, cellA, lay, fillA]
            refine WT_draw ?_
            simp only [p1, p2, p3, p4, p5, h, h0, hsl, hcj, hrow, row_two, w2, lay, slicelV_own, slicelV_fz, onLive_some, RT_slicel, RE_slicel, slice3V_eq, room3_some, roomOf_own, roomOf_fz, RT_slice3, RT_calld, apI_some, clC_some, clearV_own, clearV_fz, wk3, onStO, bareL, toCl, onApO, chunks, wk, iaddrV_map, emb, unAgg, ares, aresL, ares1, tupled, forall_const, Nat.reduceAdd, Nat.reduceSub, Nat.reduceMul, Nat.reduceLeDiff, Nat.reduceEqDiff, Nat.reduceBEq, Int.reduceLE, Int.reduceLT, Int.reduceEq, Int.reduceNe, Int.reduceAdd, Int.reduceSub, Int.reduceToNat, Int.reduceNeg, ↓reduceIte, reduceCtorEq, cellsOf, cellA, lay, fillA]
            refine QLoop_go (n' := l.length - (x + 1)) (by omega) ⟨x + 1, by omega, rfl, (by first | rw [hlj', ← hsw, hsame] | rw [hlj', ← hsw]), rfl⟩ ?_
            simp only [asets, List.replicate_succ, List.replicate_zero, List.cons_append, List.nil_append, Tops_top, Tops_same, Tops_nil, Int.natCast_add, Int.natCast_one]
      · skip
        rcases Classical.propComplete (y.id = i) with p4 | p4 <;> rcases Classical.propComplete (y.id = o.id) with p5 | p5
        all_goals
          simp only [p1, p2, p4, p5, and_true, and_false, and_self, false_and, if_true, if_false] at hsw
          simp only [lay, slicelV_own, slicelV_fz, onLive_some, RT_slicel, RE_slicel, slice3V_eq, room3_some, roomOf_own, roomOf_fz, RT_slice3, RT_calld, apI_some, clC_some, clearV_own, clearV_fz, wk3, onStO, bareL, toCl, onApO, chunks, wk, iaddrV_map, emb, unAgg, ares, aresL, ares1, tupled, forall_const, Nat.reduceAdd, Nat.reduceSub, Nat.reduceMul, Nat.reduceLeDiff, Nat.reduceEqDiff, Nat.reduceBEq, Int.reduceLE, Int.reduceLT, Int.reduceEq, Int.reduceNe, Int.reduceAdd, Int.reduceSub, Int.reduceToNat, Int.reduceNeg, ↓reduceIte, reduceCtorEq, cellsOf, cellA, lay, fillA]
          refine WT_draw ?_
          simp only [p1, p2, p4, p5, h, h0, hsl, hcj, hrow, row_two, w2, lay, slicelV_own, slicelV_fz, onLive_some, RT_slicel, RE_slicel, slice3V_eq, room3_some, roomOf_own, roomOf_fz, RT_slice3, RT_calld, apI_some, clC_some, clearV_own, clearV_fz, wk3, onStO, bareL, toCl, onApO, chunks, wk, iaddrV_map, emb, unAgg, ares, aresL, ares1, tupled, forall_const, Nat.reduceAdd, Nat.reduceSub, Nat.reduceMul, Nat.reduceLeDiff, Nat.reduceEqDiff, Nat.reduceBEq, Int.reduceLE, Int.reduceLT, Int.reduceEq, Int.reduceNe, Int.reduceAdd, Int.reduceSub, Int.reduceToNat, Int.reduceNeg, ↓reduceIte, reduceCtorEq, cellsOf, cellA, lay, fillA]
          refine WT_draw ?_
          simp only [p1, p2, p4, p5, h, h0, hsl, hcj, hrow, row_two, w2, lay, slicelV_own, slicelV_fz, onLive_some, RT_slicel, RE_slicel, slice3V_eq, room3_some, roomOf_own, roomOf_fz, RT_slice3, RT_calld, apI_some, clC_some, clearV_own, clearV_fz, wk3, onStO, bareL, toCl, onApO, chunks, wk, iaddrV_map, emb, unAgg, ares, aresL, ares1, tupled, forall_const, Nat.reduceAdd, Nat.reduceSub, Nat.reduceMul, Nat.reduceLeDiff, Nat.reduceEqDiff, Nat.reduceBEq, Int.reduceLE, Int.reduceLT, Int.reduceEq, Int.reduceNe, Int.reduceAdd, Int.reduceSub, Int.reduceToNat, Int.reduceNeg, ↓reduceIte, reduceCtorEq, cellsOf, cellA, lay, fillA]
          refine QLoop_go (n' := l.length - (x + 1)) (by omega) ⟨x + 1, by omega, rfl, (by first | rw [hlj', ← hsw, hsame] | rw [hlj', ← hsw]), rfl⟩ ?_
          simp only [asets, List.replicate_succ, List.replicate_zero, List.cons_append, List.nil_append, Tops_top, Tops_same, Tops_nil, Int.natCast_add, Int.natCast_one]
    · skip
      rcases Classical.propComplete (y.id = i) with p4 | p4 <;> rcases Classical.propComplete (y.id = o.id) with p5 | p5
      all_goals
        simp only [p1, p4, p5, and_true, and_false, and_self, false_and, if_true, if_false] at hsw
        simp only [lay, slicelV_own, slicelV_fz, onLive_some, RT_slicel, RE_slicel, slice3V_eq, room3_some, roomOf_own, roomOf_fz, RT_slice3, RT_calld, apI_some, clC_some, clearV_own, clearV_fz, wk3, onStO, bareL, toCl, onApO, chunks, wk, iaddrV_map, emb, unAgg, ares, aresL, ares1, tupled, forall_const, Nat.reduceAdd, Nat.reduceSub, Nat.reduceMul, Nat.reduceLeDiff, Nat.reduceEqDiff, Nat.reduceBEq, Int.reduceLE, Int.reduceLT, Int.reduceEq, Int.reduceNe, Int.reduceAdd, Int.reduceSub, Int.reduceToNat, Int.reduceNeg, ↓reduceIte, reduceCtorEq, cellsOf, cellA, lay, fillA]
        refine WT_draw ?_
        simp only [p1, p4, p5, h, h0, hsl, hcj, hrow, row_two, w2, lay, slicelV_own, slicelV_fz, onLive_some, RT_slicel, RE_slicel, slice3V_eq, room3_some, roomOf_own, roomOf_fz, RT_slice3, RT_calld, apI_some, clC_some, clearV_own, clearV_fz, wk3, onStO, bareL, toCl, onApO, chunks, wk, iaddrV_map, emb, unAgg, ares, aresL, ares1, tupled, forall_const, Nat.reduceAdd, Nat.reduceSub, Nat.reduceMul, Nat.reduceLeDiff, Nat.reduceEqDiff, Nat.reduceBEq, Int.reduceLE, Int.reduceLT, Int.reduceEq, Int.reduceNe, Int.reduceAdd, Int.reduceSub, Int.reduceToNat, Int.reduceNeg, ↓reduceIte, reduceCtorEq, cellsOf, cellA, lay, fillA]
        refine WT_draw ?_
        simp only [p1, p4, p5, h, h0, hsl, hcj, hrow, row_two, w2, lay, slicelV_own, slicelV_fz, onLive_some, RT_slicel, RE_slicel, slice3V_eq, room3_some, roomOf_own, roomOf_fz, RT_slice3, RT_calld, apI_some, clC_some, clearV_own, clearV_fz, wk3, onStO, bareL, toCl, onApO, chunks, wk, iaddrV_map, emb, unAgg, ares, aresL, ares1, tupled, forall_const, Nat.reduceAdd, Nat.reduceSub, Nat.reduceMul, Nat.reduceLeDiff, Nat.reduceEqDiff, Nat.reduceBEq, Int.reduceLE, Int.reduceLT, Int.reduceEq, Int.reduceNe, Int.reduceAdd, Int.reduceSub, Int.reduceToNat, Int.reduceNeg, ↓reduceIte, reduceCtorEq, cellsOf, cellA, lay, fillA]
        refine QLoop_go (n' := l.length - (x + 1)) (by omega) ⟨x + 1, by omega, rfl, (by first | rw [hlj', ← hsw, hsame] | rw [hlj', ← hsw]), rfl⟩ ?_
        simp only [asets, List.replicate_succ, List.replicate_zero, List.cons_append, List.nil_append, Tops_top, Tops_same, Tops_nil, Int.natCast_add, Int.natCast_one]
  · have : x = l.length := by omega
    subst this
    simp only [h, someA_all, lay, slicelV_own, slicelV_fz, onLive_some, RT_slicel, RE_slicel, slice3V_eq, room3_some, roomOf_own, roomOf_fz, RT_slice3, RT_calld, apI_some, clC_some, clearV_own, clearV_fz, wk3, onStO, bareL, toCl, onApO, chunks, wk, iaddrV_map, emb, unAgg, ares, aresL, ares1, tupled, forall_const, Nat.reduceAdd, Nat.reduceSub, Nat.reduceMul, Nat.reduceLeDiff, Nat.reduceEqDiff, Nat.reduceBEq, Int.reduceLE, Int.reduceLT, Int.reduceEq, Int.reduceNe, Int.reduceAdd, Int.reduceSub, Int.reduceToNat, Int.reduceNeg, ↓reduceIte, reduceCtorEq, cellsOf, cellA, lay, fillA]
    rw [hA]
    exact KWk_sets 3 (l.map (proR i s.id o.id o.origin)) 0 _ (by simp) rfl ⟨rfl, rfl⟩
end Go.Proofs.YtemjlopoffjmpaaGreat.Abs
/-
  The code of some functions in the abstract layer's form, each checked against the program's own. Written by gen.py.
-/
namespace Go.Proofs.YtemjlopoffjmpaaGreat.Abs
open Go

/-- palimp/palimpref16.Create -/
def c70 : ACode :=
 (.seq (.reg [⟨some 6, none, .mv (.c (.emp))⟩,
  ⟨some 7, none, .mv (.c (.int .i64 0))⟩])
 (.seq (.seq (.reg [⟨some 8, none, .mv (.t 2)⟩,
  ⟨some 9, none, .bini .lss (.t 8) (.c (.int .i64 0))⟩,
  ⟨some 10, none, .mv (.t 9)⟩,
  ⟨some 11, (some (10, false)), .mv (.t 2)⟩,
  ⟨some 12, (some (10, false)), .bini .gtr (.t 11) (.c (.int .i64 255))⟩,
  ⟨some 13, none, .pick (.t 10) (.c (.bool true)) (.t 12)⟩])
 (.cond (.t 13)
 (.seq (.reg [⟨some 14, none, .mv (.t 0)⟩,
  ⟨some 6, none, .mv (.t 14)⟩,
  ⟨some 7, none, .mv (.c (.int .i64 1))⟩])
 .ret)
 .skip))
 (.seq (.reg [⟨some 15, none, .mv (.t 0)⟩,
  ⟨some 16, none, .mv (.t 1)⟩,
  ⟨some 17, none, .mv (.t 2)⟩,
  ⟨some 18, none, .call 34 []⟩,
  ⟨some 19, none, .build [.int .i64 0, .int .i64 0, .int .i64 0, .int .i64 0, .emp] [(0, 1, (.t 16)), (1, 1, (.c (.int .i64 1))), (3, 1, (.t 17)), (4, 1, (.t 18))]⟩,
  ⟨some 20, none, .call 108 [(.t 15), (.t 19)]⟩,
  ⟨some 21, none, .ext (.t 20) 0⟩,
  ⟨some 22, none, .ext (.t 20) 1⟩,
  ⟨some 6, none, .mv (.t 21)⟩,
  ⟨some 7, none, .mv (.t 22)⟩])
 .ret)))
theorem d70 : FnD Tryz.prog 70 3 20 [.tmp 6, .tmp 7] c70 := ⟨Tryz.f70, _, Tryz.func70, by kernel_rfl, rfl, rfl, by kernel_rfl, by kernel_rfl⟩

end Go.Proofs.YtemjlopoffjmpaaGreat.Abs
/-
  The code of some functions in the abstract layer's form, each checked against the program's own. Written by gen.py.
-/
namespace Go.Proofs.YtemjlopoffjmpaaGreat.Abs
open Go

/-- palimp/palimpref16.Snap -/
def c71 : ACode :=
 (.seq (.reg [⟨some 6, none, .mv (.c (.emp))⟩,
  ⟨some 7, none, .mv (.c (.int .i64 0))⟩])
 (.seq (.reg [⟨some 11, none, .mv (.t 0)⟩,
  ⟨some 12, none, .mv (.t 2)⟩,
  ⟨some 13, none, .call 30 [(.t 11), (.t 12)]⟩,
  ⟨some 10, none, .mv (.t 13)⟩,
  ⟨some 14, none, .ext (.t 10) 0⟩,
  ⟨some 15, none, .ext (.t 10) 1⟩,
  ⟨some 8, none, .alloc [.int .i64 0, .int .i64 0, .int .i64 0, .int .i64 0, .emp]⟩,
  ⟨none, none, .store 5 (.t 8) (.t 14)⟩,
  ⟨some 9, none, .mv (.t 15)⟩])
 (.seq (.seq (.reg [⟨some 16, none, .mv (.t 9)⟩,
  ⟨some 17, none, .un .not (.t 16)⟩])
 (.cond (.t 17)
 (.seq (.reg [⟨some 18, none, .mv (.t 0)⟩,
  ⟨some 6, none, .mv (.t 18)⟩,
  ⟨some 7, none, .mv (.c (.int .i64 2))⟩])
 .ret)
 .skip))
 (.seq (.seq (.reg [⟨some 19, none, .faddr 1 (.t 8)⟩,
  ⟨some 20, none, .load false 1 (.t 19)⟩,
  ⟨some 21, none, .bini .eql (.t 20) (.c (.int .i64 2))⟩])
 (.cond (.t 21)
 (.seq (.reg [⟨some 22, none, .mv (.t 0)⟩,
  ⟨some 6, none, .mv (.t 22)⟩,
  ⟨some 7, none, .mv (.c (.int .i64 11))⟩])
 .ret)
 .skip))
 (.seq (.reg [⟨some 23, none, .mv (.t 0)⟩,
  ⟨some 24, none, .mv (.t 1)⟩,
  ⟨some 25, none, .mv (.t 2)⟩,
  ⟨some 26, none, .faddr 4 (.t 8)⟩,
  ⟨some 27, none, .load false 1 (.t 26)⟩,
  ⟨some 28, none, .build [.int .i64 0, .int .i64 0, .int .i64 0, .int .i64 0, .emp] [(0, 1, (.t 24)), (1, 1, (.c (.int .i64 2))), (2, 1, (.t 25)), (4, 1, (.t 27))]⟩,
  ⟨some 29, none, .call 108 [(.t 23), (.t 28)]⟩,
  ⟨some 30, none, .ext (.t 29) 0⟩,
  ⟨some 31, none, .ext (.t 29) 1⟩,
  ⟨some 6, none, .mv (.t 30)⟩,
  ⟨some 7, none, .mv (.t 31)⟩])
 .ret)))))
theorem d71 : FnD Tryz.prog 71 3 29 [.tmp 6, .tmp 7] c71 := ⟨Tryz.f71, _, Tryz.func71, by kernel_rfl, rfl, rfl, by kernel_rfl, by kernel_rfl⟩

end Go.Proofs.YtemjlopoffjmpaaGreat.Abs
/-
  The code of some functions in the abstract layer's form, each checked against the program's own. Written by gen.py.
-/
namespace Go.Proofs.YtemjlopoffjmpaaGreat.Abs
open Go

/-- palimp/palimpref16.Clone -/
def c72 : ACode :=
 (.seq (.reg [⟨some 6, none, .mv (.c (.emp))⟩,
  ⟨some 7, none, .mv (.c (.int .i64 0))⟩])
 (.seq (.reg [⟨some 11, none, .mv (.t 0)⟩,
  ⟨some 12, none, .mv (.t 2)⟩,
  ⟨some 13, none, .call 30 [(.t 11), (.t 12)]⟩,
  ⟨some 10, none, .mv (.t 13)⟩,
  ⟨some 14, none, .ext (.t 10) 0⟩,
  ⟨some 15, none, .ext (.t 10) 1⟩,
  ⟨some 8, none, .alloc [.int .i64 0, .int .i64 0, .int .i64 0, .int .i64 0, .emp]⟩,
  ⟨none, none, .store 5 (.t 8) (.t 14)⟩,
  ⟨some 9, none, .mv (.t 15)⟩])
 (.seq (.seq (.reg [⟨some 16, none, .mv (.t 9)⟩,
  ⟨some 17, none, .un .not (.t 16)⟩])
 (.cond (.t 17)
 (.seq (.reg [⟨some 18, none, .mv (.t 0)⟩,
  ⟨some 6, none, .mv (.t 18)⟩,
  ⟨some 7, none, .mv (.c (.int .i64 2))⟩])
 .ret)
 .skip))
 (.seq (.seq (.reg [⟨some 19, none, .faddr 1 (.t 8)⟩,
  ⟨some 20, none, .load false 1 (.t 19)⟩,
  ⟨some 21, none, .bini .neq (.t 20) (.c (.int .i64 2))⟩])
 (.cond (.t 21)
 (.seq (.reg [⟨some 22, none, .mv (.t 0)⟩,
  ⟨some 6, none, .mv (.t 22)⟩,
  ⟨some 7, none, .mv (.c (.int .i64 1))⟩])
 .ret)
 .skip))
 (.seq (.reg [⟨some 23, none, .mv (.t 0)⟩,
  ⟨some 24, none, .mv (.t 1)⟩,
  ⟨some 25, none, .mv (.t 2)⟩,
  ⟨some 26, none, .faddr 4 (.t 8)⟩,
  ⟨some 27, none, .load false 1 (.t 26)⟩,
  ⟨some 28, none, .build [.int .i64 0, .int .i64 0, .int .i64 0, .int .i64 0, .emp] [(0, 1, (.t 24)), (1, 1, (.c (.int .i64 1))), (2, 1, (.t 25)), (4, 1, (.t 27))]⟩,
  ⟨some 29, none, .call 108 [(.t 23), (.t 28)]⟩,
  ⟨some 30, none, .ext (.t 29) 0⟩,
  ⟨some 31, none, .ext (.t 29) 1⟩,
  ⟨some 6, none, .mv (.t 30)⟩,
  ⟨some 7, none, .mv (.t 31)⟩])
 .ret)))))
theorem d72 : FnD Tryz.prog 72 3 29 [.tmp 6, .tmp 7] c72 := ⟨Tryz.f72, _, Tryz.func72, by kernel_rfl, rfl, rfl, by kernel_rfl, by kernel_rfl⟩

end Go.Proofs.YtemjlopoffjmpaaGreat.Abs
/-
  The code of some functions in the abstract layer's form, each checked against the program's own. Written by gen.py.
-/
namespace Go.Proofs.YtemjlopoffjmpaaGreat.Abs
open Go

/-- palimp/palimpref16.more -/
def c108 : ACode :=
 (.seq (.reg [⟨some 3, none, .box (.t 1)⟩,
  ⟨some 4, none, .mv (.c (.emp))⟩,
  ⟨some 5, none, .mv (.c (.int .i64 0))⟩])
 (.seq (.seq (.dregE [[(0, ⟨some 6, none, .mv (.t 0)⟩)],
  [(1, ⟨some 7, none, .len false (.t 6)⟩)],
  [(2, ⟨some 8, none, .bini .geq (.t 7) (.c (.int .i64 8))⟩)],
  [(3, ⟨some 9, none, .mv (.t 8)⟩)],
  [(4, ⟨some 10, (some (9, false)), .faddr 0 (.t 3)⟩)],
  [(5, ⟨some 11, (some (9, false)), .load false 1 (.t 10)⟩)],
  [(6, ⟨some 12, (some (9, false)), .bini .lss (.t 11) (.c (.int .i64 1))⟩)],
  [(7, ⟨some 13, none, .pick (.t 9) (.c (.bool true)) (.t 12)⟩)],
  [(8, ⟨some 14, none, .mv (.t 13)⟩)],
  [(9, ⟨some 15, (some (14, false)), .faddr 0 (.t 3)⟩)],
  [(10, ⟨some 16, (some (14, false)), .load false 1 (.t 15)⟩)],
  [(11, ⟨some 17, (some (14, false)), .call 61 [(.t 16)]⟩)],
  [(12, ⟨some 18, (some (14, false)), .un .not (.t 17)⟩)],
  [(13, ⟨some 19, none, .pick (.t 14) (.c (.bool true)) (.t 18)⟩)],
  [(14, ⟨some 20, none, .mv (.t 19)⟩)],
  [(15, ⟨some 21, (some (20, false)), .mv (.t 0)⟩)],
  [(16, ⟨some 22, (some (20, false)), .len false (.t 21)⟩)],
  [(17, ⟨some 23, (some (20, false)), .bini .gtr (.t 22) (.c (.int .i64 0))⟩)],
  [(18, ⟨some 24, (some (20, false)), .mv (.t 23)⟩)],
  [(19, ⟨some 25, (some (24, true)), .mv (.t 0)⟩),
  (20, ⟨some 26, (some (24, true)), .mv (.t 0)⟩),
  (21, ⟨some 27, (some (24, true)), .len false (.t 26)⟩),
  (22, ⟨some 28, (some (24, true)), .bini .sub (.t 27) (.c (.int .i64 1))⟩),
  (23, ⟨some 29, (some (24, true)), .iaddr 5 (.t 25) (.t 28)⟩),
  (24, ⟨some 30, (some (24, true)), .faddr 0 (.t 29)⟩),
  (25, ⟨some 31, (some (24, true)), .load false 1 (.t 30)⟩),
  (26, ⟨some 32, (some (24, true)), .faddr 0 (.t 3)⟩),
  (27, ⟨some 33, (some (24, true)), .load false 1 (.t 32)⟩)],
  [(28, ⟨some 34, (some (24, true)), .bini .geq (.t 31) (.t 33)⟩)],
  [(29, ⟨some 35, (some (20, false)), .pick (.t 24) (.t 34) (.c (.bool false))⟩)],
  [(30, ⟨some 36, none, .pick (.t 20) (.c (.bool true)) (.t 35)⟩)]]
  [[], [0], [0, 1], [0, 1, 2], [0, 1, 2, 3], [0, 1, 2, 3, 4], [0, 1, 2, 3, 4, 5], [0, 1, 2, 3, 4, 5, 6], [0, 1, 2, 3, 4, 5, 6, 7], [0, 1, 2, 3, 4, 5, 6, 7, 8], [0, 1, 2, 3, 4, 5, 6, 7, 8, 9], [0, 1, 2, 3, 4, 5, 6, 7, 8, 9, 10], [0, 1, 2, 3, 4, 5, 6, 7, 8, 9, 10, 11], [0, 1, 2, 3, 4, 5, 6, 7, 8, 9, 10, 11, 12], [0, 1, 2, 3, 4, 5, 6, 7, 8, 9, 10, 11, 12, 13], [0, 1, 2, 3, 4, 5, 6, 7, 8, 9, 10, 11, 12, 13, 14], [0, 1, 2, 3, 4, 5, 6, 7, 8, 9, 10, 11, 12, 13, 14, 15], [0, 1, 2, 3, 4, 5, 6, 7, 8, 9, 10, 11, 12, 13, 14, 15, 16], [0, 1, 2, 3, 4, 5, 6, 7, 8, 9, 10, 11, 12, 13, 14, 15, 16, 17], [0, 1, 2, 3, 4, 5, 6, 7, 8, 9, 10, 11, 12, 13, 14, 15, 16, 17, 18], [0, 1, 2, 3, 4, 5, 6, 7, 8, 9, 10, 11, 12, 13, 14, 15, 16, 17, 18], [0, 1, 2, 3, 4, 5, 6, 7, 8, 9, 10, 11, 12, 13, 14, 15, 16, 17, 18, 20], [0, 1, 2, 3, 4, 5, 6, 7, 8, 9, 10, 11, 12, 13, 14, 15, 16, 17, 18, 20, 21], [0, 1, 2, 3, 4, 5, 6, 7, 8, 9, 10, 11, 12, 13, 14, 15, 16, 17, 18, 19, 20, 21, 22], [0, 1, 2, 3, 4, 5, 6, 7, 8, 9, 10, 11, 12, 13, 14, 15, 16, 17, 18, 19, 20, 21, 22, 23], [0, 1, 2, 3, 4, 5, 6, 7, 8, 9, 10, 11, 12, 13, 14, 15, 16, 17, 18, 19, 20, 21, 22, 23, 24], [0, 1, 2, 3, 4, 5, 6, 7, 8, 9, 10, 11, 12, 13, 14, 15, 16, 17, 18], [0, 1, 2, 3, 4, 5, 6, 7, 8, 9, 10, 11, 12, 13, 14, 15, 16, 17, 18, 26], [0, 1, 2, 3, 4, 5, 6, 7, 8, 9, 10, 11, 12, 13, 14, 15, 16, 17, 18, 19, 20, 21, 22, 23, 24, 25, 26, 27], [0, 1, 2, 3, 4, 5, 6, 7, 8, 9, 10, 11, 12, 13, 14, 15, 16, 17, 18, 19, 20, 21, 22, 23, 24, 25, 26, 27, 28], [0, 1, 2, 3, 4, 5, 6, 7, 8, 9, 10, 11, 12, 13, 14, 15, 16, 17, 18, 19, 20, 21, 22, 23, 24, 25, 26, 27, 28, 29]])
 (.cond (.t 36)
 (.seq (.reg [⟨some 37, none, .mv (.t 0)⟩,
  ⟨some 4, none, .mv (.t 37)⟩,
  ⟨some 5, none, .mv (.c (.int .i64 8))⟩])
 .ret)
 .skip))
 (.seq (.dregE [[(0, ⟨some 38, none, .bslice 5 0 [.int .i64 0, .int .i64 0, .int .i64 0, .int .i64 0, .emp] []⟩),
  (1, ⟨some 39, none, .mv (.t 0)⟩),
  (2, ⟨some 40, none, .append 5 56 [.int .i64 0, .int .i64 0, .int .i64 0, .int .i64 0, .emp] (.t 38) (.t 39)⟩),
  (3, ⟨some 41, none, .load true 5 (.t 3)⟩),
  (4, ⟨some 42, none, .bslice 5 1 [.int .i64 0, .int .i64 0, .int .i64 0, .int .i64 0, .emp] [(0, (.t 41))]⟩)],
  [(5, ⟨some 43, none, .append 5 56 [.int .i64 0, .int .i64 0, .int .i64 0, .int .i64 0, .emp] (.t 40) (.t 42)⟩)],
  [(6, ⟨some 4, none, .mv (.t 43)⟩)],
  [(7, ⟨some 5, none, .mv (.c (.int .i64 0))⟩)]]
  [[], [], [0, 1], [], [3], [0, 1, 2, 3, 4], [0, 1, 2, 3, 4, 5], [0, 1, 2, 3, 4, 5, 6]])
 .ret)))
theorem d108 : FnD Tryz.prog 108 2 42 [.tmp 4, .tmp 5] c108 := ⟨Tryz.f108, _, Tryz.func108, by kernel_rfl, rfl, rfl, by kernel_rfl, by kernel_rfl⟩

end Go.Proofs.YtemjlopoffjmpaaGreat.Abs
set_option linter.unusedSimpArgs false
set_option linter.unusedVariables false
namespace Go.Proofs.YtemjlopoffjmpaaGreat.Abs
open Go Go.Proofs

theorem newL (H : AH) : C Tryz.prog 34 [] H (fun x H' => x = aset newA ∧ H' = H) := new_spec H
theorem addOk_iff (l : List Dset) (n : Int) : addOk l n = true ↔ l.length < 8 ∧ 1 ≤ n ∧ n ≤ 65535 ∧ (l.length = 0 ∨ (l.getD (l.length - 1) default).id < n) := by
  unfold addOk
  rw [Bool.and_eq_true, Bool.and_eq_true, Bool.and_eq_true, Bool.or_eq_true, decide_eq_true_eq, decide_eq_true_eq, decide_eq_true_eq, decide_eq_true_eq, decide_eq_true_eq, and_assoc, and_assoc]
theorem addOk_no {l : List Dset} {n : Int} (h : ¬ (l.length < 8 ∧ 1 ≤ n ∧ n ≤ 65535 ∧ (l.length = 0 ∨ (l.getD (l.length - 1) default).id < n))) : addOk l n = false :=
  Bool.eq_false_iff.2 fun e => h ((addOk_iff l n).1 e)
/-- palimpref16.more -/
theorem more0 (l : List Dset) (hl : Short l) (x : Dset) (hx : x.files.length ≤ 1000000) :
    C Tryz.prog 108 [asets l, .agg (cellD x)] [] (fun y H' => y = outA (addA l x.id x) ∧ H' = []) := by
  have hl1 := hl.1
  refine C_body' d108 rfl (WT_ok ?_)
  unfold c108
  have hyes : addOk l x.id = true → outA (addA l x.id x) = .tuple [asets (l ++ [x]), .int .i64 0] := fun h => by
    have : addA l x.id x = (l ++ [{ x with id := x.id }], 0) := if_pos h
    rw [this]; rfl
  have hno : addOk l x.id = false → outA (addA l x.id x) = .tuple [asets l, .int .i64 8] := fun h => by
    have : addA l x.id x = (l, 8) := if_neg (by rw [h]; decide)
    rw [this]; rfl
  have hidd := rid68 x.id
  by_cases g1 : (8 : Int) ≤ (l.length : Int)
  · have hn := hno (addOk_no (by omega))
    simp only [asets, cellD, aset, lay, wk3, onStO, bareL, toCl, onApO, chunks, wk, iaddrV_map, emb, unAgg, ares, aresL, ares1, tupled, forall_const, Nat.reduceAdd, Nat.reduceSub, Nat.reduceMul, Nat.reduceLeDiff, Nat.reduceEqDiff, Nat.reduceBEq, Int.reduceLE, Int.reduceLT, Int.reduceEq, Int.reduceNe, Int.reduceAdd, Int.reduceSub, Int.reduceToNat, Int.reduceNeg, ↓reduceIte, reduceCtorEq, cellsOf, cellA, lay, fillA]
    refine WT_drawE ?_
    simp only [g1, lay, wk3, onStO, bareL, toCl, onApO, chunks, wk, iaddrV_map, emb, unAgg, ares, aresL, ares1, tupled, forall_const, Nat.reduceAdd, Nat.reduceSub, Nat.reduceMul, Nat.reduceLeDiff, Nat.reduceEqDiff, Nat.reduceBEq, Int.reduceLE, Int.reduceLT, Int.reduceEq, Int.reduceNe, Int.reduceAdd, Int.reduceSub, Int.reduceToNat, Int.reduceNeg, ↓reduceIte, reduceCtorEq, cellsOf, cellA, lay, fillA]
    refine WDT_more 0 ?_
    simp only [g1, lay, wk3, onStO, bareL, toCl, onApO, chunks, wk, iaddrV_map, emb, unAgg, ares, aresL, ares1, tupled, forall_const, Nat.reduceAdd, Nat.reduceSub, Nat.reduceMul, Nat.reduceLeDiff, Nat.reduceEqDiff, Nat.reduceBEq, Int.reduceLE, Int.reduceLT, Int.reduceEq, Int.reduceNe, Int.reduceAdd, Int.reduceSub, Int.reduceToNat, Int.reduceNeg, ↓reduceIte, reduceCtorEq, cellsOf, cellA, lay, fillA]
    refine ⟨by rfl, ?_⟩
    exact KWk_bare (by simp [bare, bareL]) ⟨by rw [hn]; rfl, rfl⟩
  by_cases g2 : x.id < 1
  · have hn := hno (addOk_no (by omega))
    simp only [asets, cellD, aset, lay, wk3, onStO, bareL, toCl, onApO, chunks, wk, iaddrV_map, emb, unAgg, ares, aresL, ares1, tupled, forall_const, Nat.reduceAdd, Nat.reduceSub, Nat.reduceMul, Nat.reduceLeDiff, Nat.reduceEqDiff, Nat.reduceBEq, Int.reduceLE, Int.reduceLT, Int.reduceEq, Int.reduceNe, Int.reduceAdd, Int.reduceSub, Int.reduceToNat, Int.reduceNeg, ↓reduceIte, reduceCtorEq, cellsOf, cellA, lay, fillA]
    refine WT_drawE ?_
    simp only [g1, g2, lay, wk3, onStO, bareL, toCl, onApO, chunks, wk, iaddrV_map, emb, unAgg, ares, aresL, ares1, tupled, forall_const, Nat.reduceAdd, Nat.reduceSub, Nat.reduceMul, Nat.reduceLeDiff, Nat.reduceEqDiff, Nat.reduceBEq, Int.reduceLE, Int.reduceLT, Int.reduceEq, Int.reduceNe, Int.reduceAdd, Int.reduceSub, Int.reduceToNat, Int.reduceNeg, ↓reduceIte, reduceCtorEq, cellsOf, cellA, lay, fillA]
    refine WDT_more 0 ?_
    simp only [g1, g2, lay, wk3, onStO, bareL, toCl, onApO, chunks, wk, iaddrV_map, emb, unAgg, ares, aresL, ares1, tupled, forall_const, Nat.reduceAdd, Nat.reduceSub, Nat.reduceMul, Nat.reduceLeDiff, Nat.reduceEqDiff, Nat.reduceBEq, Int.reduceLE, Int.reduceLT, Int.reduceEq, Int.reduceNe, Int.reduceAdd, Int.reduceSub, Int.reduceToNat, Int.reduceNeg, ↓reduceIte, reduceCtorEq, cellsOf, cellA, lay, fillA]
    refine ⟨by rfl, ?_⟩
    exact KWk_bare (by simp [bare, bareL]) ⟨by rw [hn]; rfl, rfl⟩
  by_cases g3 : x.id ≤ 65535
  case neg =>
    have hn := hno (addOk_no (by omega))
    have he : (decide (0 ≤ x.id) && decide (x.id ≤ 65535)) = false := by simp; omega
    simp only [he] at hidd
    simp only [asets, cellD, aset, lay, wk3, onStO, bareL, toCl, onApO, chunks, wk, iaddrV_map, emb, unAgg, ares, aresL, ares1, tupled, forall_const, Nat.reduceAdd, Nat.reduceSub, Nat.reduceMul, Nat.reduceLeDiff, Nat.reduceEqDiff, Nat.reduceBEq, Int.reduceLE, Int.reduceLT, Int.reduceEq, Int.reduceNe, Int.reduceAdd, Int.reduceSub, Int.reduceToNat, Int.reduceNeg, ↓reduceIte, reduceCtorEq, cellsOf, cellA, lay, fillA]
    refine WT_drawE ?_
    simp only [g1, g2, lay, wk3, onStO, bareL, toCl, onApO, chunks, wk, iaddrV_map, emb, unAgg, ares, aresL, ares1, tupled, forall_const, Nat.reduceAdd, Nat.reduceSub, Nat.reduceMul, Nat.reduceLeDiff, Nat.reduceEqDiff, Nat.reduceBEq, Int.reduceLE, Int.reduceLT, Int.reduceEq, Int.reduceNe, Int.reduceAdd, Int.reduceSub, Int.reduceToNat, Int.reduceNeg, ↓reduceIte, reduceCtorEq, cellsOf, cellA, lay, fillA]
    refine CT_ok (hidd _) ?_
    rintro _ _ ⟨rfl, rfl⟩
    simp only [g1, g2, lay, wk3, onStO, bareL, toCl, onApO, chunks, wk, iaddrV_map, emb, unAgg, ares, aresL, ares1, tupled, forall_const, Nat.reduceAdd, Nat.reduceSub, Nat.reduceMul, Nat.reduceLeDiff, Nat.reduceEqDiff, Nat.reduceBEq, Int.reduceLE, Int.reduceLT, Int.reduceEq, Int.reduceNe, Int.reduceAdd, Int.reduceSub, Int.reduceToNat, Int.reduceNeg, ↓reduceIte, reduceCtorEq, cellsOf, cellA, lay, fillA]
    refine WDT_more 0 ?_
    simp only [g1, g2, lay, wk3, onStO, bareL, toCl, onApO, chunks, wk, iaddrV_map, emb, unAgg, ares, aresL, ares1, tupled, forall_const, Nat.reduceAdd, Nat.reduceSub, Nat.reduceMul, Nat.reduceLeDiff, Nat.reduceEqDiff, Nat.reduceBEq, Int.reduceLE, Int.reduceLT, Int.reduceEq, Int.reduceNe, Int.reduceAdd, Int.reduceSub, Int.reduceToNat, Int.reduceNeg, ↓reduceIte, reduceCtorEq, cellsOf, cellA, lay, fillA]
    refine ⟨by rfl, ?_⟩
    exact KWk_bare (by simp [bare, bareL]) ⟨by rw [hn]; rfl, rfl⟩
  have he : (decide (0 ≤ x.id) && decide (x.id ≤ 65535)) = true := by simp; omega
  simp only [he] at hidd
  have hml : (l ++ [x]).length = l.length + 1 := by simp
  rcases Nat.eq_zero_or_pos l.length with h0 | h0
  · have hn := hyes ((addOk_iff _ _).2 ⟨by omega, by omega, by omega, by omega⟩)
    have g4 : ¬ (0 : Int) < (l.length : Int) := by omega
    simp only [asets, cellD, aset, lay, wk3, onStO, bareL, toCl, onApO, chunks, wk, iaddrV_map, emb, unAgg, ares, aresL, ares1, tupled, forall_const, Nat.reduceAdd, Nat.reduceSub, Nat.reduceMul, Nat.reduceLeDiff, Nat.reduceEqDiff, Nat.reduceBEq, Int.reduceLE, Int.reduceLT, Int.reduceEq, Int.reduceNe, Int.reduceAdd, Int.reduceSub, Int.reduceToNat, Int.reduceNeg, ↓reduceIte, reduceCtorEq, cellsOf, cellA, lay, fillA]
    refine WT_drawE ?_
    simp only [g1, g2, lay, wk3, onStO, bareL, toCl, onApO, chunks, wk, iaddrV_map, emb, unAgg, ares, aresL, ares1, tupled, forall_const, Nat.reduceAdd, Nat.reduceSub, Nat.reduceMul, Nat.reduceLeDiff, Nat.reduceEqDiff, Nat.reduceBEq, Int.reduceLE, Int.reduceLT, Int.reduceEq, Int.reduceNe, Int.reduceAdd, Int.reduceSub, Int.reduceToNat, Int.reduceNeg, ↓reduceIte, reduceCtorEq, cellsOf, cellA, lay, fillA]
    refine CT_ok (hidd _) ?_
    rintro _ _ ⟨rfl, rfl⟩
    simp only [g1, g2, g4, lay, wk3, onStO, bareL, toCl, onApO, chunks, wk, iaddrV_map, emb, unAgg, ares, aresL, ares1, tupled, forall_const, Nat.reduceAdd, Nat.reduceSub, Nat.reduceMul, Nat.reduceLeDiff, Nat.reduceEqDiff, Nat.reduceBEq, Int.reduceLE, Int.reduceLT, Int.reduceEq, Int.reduceNe, Int.reduceAdd, Int.reduceSub, Int.reduceToNat, Int.reduceNeg, ↓reduceIte, reduceCtorEq, cellsOf, cellA, lay, fillA]
    refine WDT_more 0 ?_
    simp only [g1, g2, g4, lay, wk3, onStO, bareL, toCl, onApO, chunks, wk, iaddrV_map, emb, unAgg, ares, aresL, ares1, tupled, forall_const, Nat.reduceAdd, Nat.reduceSub, Nat.reduceMul, Nat.reduceLeDiff, Nat.reduceEqDiff, Nat.reduceBEq, Int.reduceLE, Int.reduceLT, Int.reduceEq, Int.reduceNe, Int.reduceAdd, Int.reduceSub, Int.reduceToNat, Int.reduceNeg, ↓reduceIte, reduceCtorEq, cellsOf, cellA, lay, fillA]
    refine ⟨by rfl, ?_⟩
    refine WT_drawE ?_
    refine WDT_more 2 ?_
    simp only [cellsD, rows5D, lay, wk3, onStO, bareL, toCl, onApO, chunks, wk, iaddrV_map, emb, unAgg, ares, aresL, ares1, tupled, forall_const, Nat.reduceAdd, Nat.reduceSub, Nat.reduceMul, Nat.reduceLeDiff, Nat.reduceEqDiff, Nat.reduceBEq, Int.reduceLE, Int.reduceLT, Int.reduceEq, Int.reduceNe, Int.reduceAdd, Int.reduceSub, Int.reduceToNat, Int.reduceNeg, ↓reduceIte, reduceCtorEq, cellsOf, cellA, lay, fillA]
    refine ⟨by omega, ?_⟩
    simp only [ren, renL, cellsD, rows5D, lay, wk3, onStO, bareL, toCl, onApO, chunks, wk, iaddrV_map, emb, unAgg, ares, aresL, ares1, tupled, forall_const, Nat.reduceAdd, Nat.reduceSub, Nat.reduceMul, Nat.reduceLeDiff, Nat.reduceEqDiff, Nat.reduceBEq, Int.reduceLE, Int.reduceLT, Int.reduceEq, Int.reduceNe, Int.reduceAdd, Int.reduceSub, Int.reduceToNat, Int.reduceNeg, ↓reduceIte, reduceCtorEq, cellsOf, cellA, lay, fillA]
    refine ⟨⟨by omega, by omega⟩, by omega, by omega, by rfl, ⟨by omega, by omega⟩, ?_⟩
    rw [hn]
    exact KWk_sets 1 (l ++ [x]) 0 _ (by simp) (by rw [List.map_append]; rfl) ⟨rfl, rfl⟩
  · have w1 : IntKind.i64.wrap ((l.length : Int) - 1) = ((l.length - 1 : Nat) : Int) := by rw [IntWalk.i64_in _ (by omega)]; omega
    have g4 : (0 : Int) < (l.length : Int) := by omega
    have g6 : (0 : Int) ≤ ((l.length - 1 : Nat) : Int) := by omega
    have g7 : ((l.length - 1 : Nat) : Int) < (l.length : Int) := by omega
    simp only [asets, cellD, aset, lay, wk3, onStO, bareL, toCl, onApO, chunks, wk, iaddrV_map, emb, unAgg, ares, aresL, ares1, tupled, forall_const, Nat.reduceAdd, Nat.reduceSub, Nat.reduceMul, Nat.reduceLeDiff, Nat.reduceEqDiff, Nat.reduceBEq, Int.reduceLE, Int.reduceLT, Int.reduceEq, Int.reduceNe, Int.reduceAdd, Int.reduceSub, Int.reduceToNat, Int.reduceNeg, ↓reduceIte, reduceCtorEq, cellsOf, cellA, lay, fillA]
    refine WT_drawE ?_
    simp only [g1, g2, lay, wk3, onStO, bareL, toCl, onApO, chunks, wk, iaddrV_map, emb, unAgg, ares, aresL, ares1, tupled, forall_const, Nat.reduceAdd, Nat.reduceSub, Nat.reduceMul, Nat.reduceLeDiff, Nat.reduceEqDiff, Nat.reduceBEq, Int.reduceLE, Int.reduceLT, Int.reduceEq, Int.reduceNe, Int.reduceAdd, Int.reduceSub, Int.reduceToNat, Int.reduceNeg, ↓reduceIte, reduceCtorEq, cellsOf, cellA, lay, fillA]
    refine CT_ok (hidd _) ?_
    rintro _ _ ⟨rfl, rfl⟩
    simp only [g1, g2, g4, lay, wk3, onStO, bareL, toCl, onApO, chunks, wk, iaddrV_map, emb, unAgg, ares, aresL, ares1, tupled, forall_const, Nat.reduceAdd, Nat.reduceSub, Nat.reduceMul, Nat.reduceLeDiff, Nat.reduceEqDiff, Nat.reduceBEq, Int.reduceLE, Int.reduceLT, Int.reduceEq, Int.reduceNe, Int.reduceAdd, Int.reduceSub, Int.reduceToNat, Int.reduceNeg, ↓reduceIte, reduceCtorEq, cellsOf, cellA, lay, fillA]
    refine WDT_more 0 ?_
    simp only [g1, g2, g4, g6, g7, w1, iaddr_dset, pdset, lay, wk3, onStO, bareL, toCl, onApO, chunks, wk, iaddrV_map, emb, unAgg, ares, aresL, ares1, tupled, forall_const, Nat.reduceAdd, Nat.reduceSub, Nat.reduceMul, Nat.reduceLeDiff, Nat.reduceEqDiff, Nat.reduceBEq, Int.reduceLE, Int.reduceLT, Int.reduceEq, Int.reduceNe, Int.reduceAdd, Int.reduceSub, Int.reduceToNat, Int.reduceNeg, ↓reduceIte, reduceCtorEq, cellsOf, cellA, lay, fillA]
    refine ⟨by rfl, ?_⟩
    by_cases g5 : x.id ≤ (l.getD (l.length - 1) default).id
    · have hn := hno (addOk_no (by omega))
      simp only [g5, lay, wk3, onStO, bareL, toCl, onApO, chunks, wk, iaddrV_map, emb, unAgg, ares, aresL, ares1, tupled, forall_const, Nat.reduceAdd, Nat.reduceSub, Nat.reduceMul, Nat.reduceLeDiff, Nat.reduceEqDiff, Nat.reduceBEq, Int.reduceLE, Int.reduceLT, Int.reduceEq, Int.reduceNe, Int.reduceAdd, Int.reduceSub, Int.reduceToNat, Int.reduceNeg, ↓reduceIte, reduceCtorEq, cellsOf, cellA, lay, fillA]
      exact KWk_bare (by simp [bare, bareL]) ⟨by rw [hn]; rfl, rfl⟩
    · have hn := hyes ((addOk_iff _ _).2 ⟨by omega, by omega, by omega, by omega⟩)
      simp only [g5, lay, wk3, onStO, bareL, toCl, onApO, chunks, wk, iaddrV_map, emb, unAgg, ares, aresL, ares1, tupled, forall_const, Nat.reduceAdd, Nat.reduceSub, Nat.reduceMul, Nat.reduceLeDiff, Nat.reduceEqDiff, Nat.reduceBEq, Int.reduceLE, Int.reduceLT, Int.reduceEq, Int.reduceNe, Int.reduceAdd, Int.reduceSub, Int.reduceToNat, Int.reduceNeg, ↓reduceIte, reduceCtorEq, cellsOf, cellA, lay, fillA]
      refine WT_drawE ?_
      refine WDT_more 2 ?_
      simp only [cellsD, rows5D, lay, wk3, onStO, bareL, toCl, onApO, chunks, wk, iaddrV_map, emb, unAgg, ares, aresL, ares1, tupled, forall_const, Nat.reduceAdd, Nat.reduceSub, Nat.reduceMul, Nat.reduceLeDiff, Nat.reduceEqDiff, Nat.reduceBEq, Int.reduceLE, Int.reduceLT, Int.reduceEq, Int.reduceNe, Int.reduceAdd, Int.reduceSub, Int.reduceToNat, Int.reduceNeg, ↓reduceIte, reduceCtorEq, cellsOf, cellA, lay, fillA]
      refine ⟨by omega, ?_⟩
      simp only [ren, renL, cellsD, rows5D, lay, wk3, onStO, bareL, toCl, onApO, chunks, wk, iaddrV_map, emb, unAgg, ares, aresL, ares1, tupled, forall_const, Nat.reduceAdd, Nat.reduceSub, Nat.reduceMul, Nat.reduceLeDiff, Nat.reduceEqDiff, Nat.reduceBEq, Int.reduceLE, Int.reduceLT, Int.reduceEq, Int.reduceNe, Int.reduceAdd, Int.reduceSub, Int.reduceToNat, Int.reduceNeg, ↓reduceIte, reduceCtorEq, cellsOf, cellA, lay, fillA]
      refine ⟨⟨by omega, by omega⟩, by omega, by omega, by rfl, ⟨by omega, by omega⟩, ?_⟩
      rw [hn]
      exact KWk_sets 1 (l ++ [x]) 0 _ (by simp) (by rw [List.map_append]; rfl) ⟨rfl, rfl⟩
theorem moreL (l : List Dset) (hl : Short l) (x : Dset) (hx : x.files.length ≤ 1000000) (H : AH) :
    C Tryz.prog 108 [asets l, .agg (cellD x)] H (fun y H' => y = outA (addA l x.id x) ∧ H' = H) :=
  C_any (more0 l hl x hx) (by simp [bareL, bare, asets, cellD, aset]) (outA_bare _) H
theorem addA_id (l : List Dset) (n : Int) (x y : Dset) (h : ({ x with id := n } : Dset) = y) : addA l n x = addA l n y := by
  subst h; rfl
/-- palimpref16.Create -/
theorem rcreate0 (l : List Dset) (hl : Short l) (next q : Int) : C Tryz.prog 70 [asets l, .int .i64 next, .int .i64 q] [] (fun x H' => x = outA (createA l next q) ∧ H' = []) := by
  refine C_body' d70 rfl (WT_ok ?_)
  unfold c70 createA
  by_cases h1 : q < 0
  · rw [if_pos (.inl h1)]
    simp only [h1, lay, wk3, onStO, bareL, toCl, onApO, chunks, wk, iaddrV_map, emb, unAgg, ares, aresL, ares1, tupled, forall_const, Nat.reduceAdd, Nat.reduceSub, Nat.reduceMul, Nat.reduceLeDiff, Nat.reduceEqDiff, Nat.reduceBEq, Int.reduceLE, Int.reduceLT, Int.reduceEq, Int.reduceNe, Int.reduceAdd, Int.reduceSub, Int.reduceToNat, Int.reduceNeg, ↓reduceIte, reduceCtorEq, cellsOf, cellA, lay, fillA]
    exact KWk_bare (by simp [bare, bareL, asets]) ⟨rfl, rfl⟩
  by_cases h2 : 255 < q
  · rw [if_pos (.inr h2)]
    simp only [h1, h2, lay, wk3, onStO, bareL, toCl, onApO, chunks, wk, iaddrV_map, emb, unAgg, ares, aresL, ares1, tupled, forall_const, Nat.reduceAdd, Nat.reduceSub, Nat.reduceMul, Nat.reduceLeDiff, Nat.reduceEqDiff, Nat.reduceBEq, Int.reduceLE, Int.reduceLT, Int.reduceEq, Int.reduceNe, Int.reduceAdd, Int.reduceSub, Int.reduceToNat, Int.reduceNeg, ↓reduceIte, reduceCtorEq, cellsOf, cellA, lay, fillA]
    exact KWk_bare (by simp [bare, bareL, asets]) ⟨rfl, rfl⟩
  · rw [if_neg (fun h => h.elim h1 h2), addA_id l next _ ⟨next, 1, 0, q, newA⟩ rfl]
    simp only [h1, h2, lay, wk3, onStO, bareL, toCl, onApO, chunks, wk, iaddrV_map, emb, unAgg, ares, aresL, ares1, tupled, forall_const, Nat.reduceAdd, Nat.reduceSub, Nat.reduceMul, Nat.reduceLeDiff, Nat.reduceEqDiff, Nat.reduceBEq, Int.reduceLE, Int.reduceLT, Int.reduceEq, Int.reduceNe, Int.reduceAdd, Int.reduceSub, Int.reduceToNat, Int.reduceNeg, ↓reduceIte, reduceCtorEq, cellsOf, cellA, lay, fillA]
    refine CT_ok (newL _) ?_
    rintro _ _ ⟨rfl, rfl⟩
    simp only [aset, lay, wk3, onStO, bareL, toCl, onApO, chunks, wk, iaddrV_map, emb, unAgg, ares, aresL, ares1, tupled, forall_const, Nat.reduceAdd, Nat.reduceSub, Nat.reduceMul, Nat.reduceLeDiff, Nat.reduceEqDiff, Nat.reduceBEq, Int.reduceLE, Int.reduceLT, Int.reduceEq, Int.reduceNe, Int.reduceAdd, Int.reduceSub, Int.reduceToNat, Int.reduceNeg, ↓reduceIte, reduceCtorEq, cellsOf, cellA, lay, fillA]
    refine CT_ok (moreL l hl ⟨next, 1, 0, q, newA⟩ (show newA.length ≤ 1000000 by decide) _) ?_
    rintro _ _ ⟨rfl, rfl⟩
    simp only [outA, lay, wk3, onStO, bareL, toCl, onApO, chunks, wk, iaddrV_map, emb, unAgg, ares, aresL, ares1, tupled, forall_const, Nat.reduceAdd, Nat.reduceSub, Nat.reduceMul, Nat.reduceLeDiff, Nat.reduceEqDiff, Nat.reduceBEq, Int.reduceLE, Int.reduceLT, Int.reduceEq, Int.reduceNe, Int.reduceAdd, Int.reduceSub, Int.reduceToNat, Int.reduceNeg, ↓reduceIte, reduceCtorEq, cellsOf, cellA, lay, fillA]
    exact KWk_bare (by simp [bare, bareL, asets]) ⟨rfl, rfl⟩
/-- palimpref16.Snap -/
theorem rsnap0 (l : List Dset) (hl : Short l) (next i : Int) : C Tryz.prog 71 [asets l, .int .i64 next, .int .i64 i] [] (fun x H' => x = outA (snapA l next i) ∧ H' = []) := by
  refine C_body' d71 rfl (WT_ok ?_)
  unfold c71
  simp only [lay, wk3, onStO, bareL, toCl, onApO, chunks, wk, iaddrV_map, emb, unAgg, ares, aresL, ares1, tupled, forall_const, Nat.reduceAdd, Nat.reduceSub, Nat.reduceMul, Nat.reduceLeDiff, Nat.reduceEqDiff, Nat.reduceBEq, Int.reduceLE, Int.reduceLT, Int.reduceEq, Int.reduceNe, Int.reduceAdd, Int.reduceSub, Int.reduceToNat, Int.reduceNeg, ↓reduceIte, reduceCtorEq, cellsOf, cellA, lay, fillA]
  refine CT_ok (rgetL l hl.1 i _) ?_
  rintro _ _ ⟨rfl, rfl⟩
  cases hg : getA l i with
  | none =>
    have e : snapA l next i = (l, 2) := by unfold snapA; rw [hg]
    rw [e]
    simp only [getV, lay, wk3, onStO, bareL, toCl, onApO, chunks, wk, iaddrV_map, emb, unAgg, ares, aresL, ares1, tupled, forall_const, Nat.reduceAdd, Nat.reduceSub, Nat.reduceMul, Nat.reduceLeDiff, Nat.reduceEqDiff, Nat.reduceBEq, Int.reduceLE, Int.reduceLT, Int.reduceEq, Int.reduceNe, Int.reduceAdd, Int.reduceSub, Int.reduceToNat, Int.reduceNeg, ↓reduceIte, reduceCtorEq, cellsOf, cellA, lay, fillA]
    exact KWk_bare (by simp [bare, bareL, asets]) ⟨rfl, rfl⟩
  | some d =>
    have hd := hl.2 d (getA_mem hg).1
    by_cases h2 : d.kind = 2
    · have e : snapA l next i = (l, 11) := by unfold snapA; rw [hg]; exact if_pos h2
      rw [e]
      simp only [getV, h2, cellD, aset, lay, wk3, onStO, bareL, toCl, onApO, chunks, wk, iaddrV_map, emb, unAgg, ares, aresL, ares1, tupled, forall_const, Nat.reduceAdd, Nat.reduceSub, Nat.reduceMul, Nat.reduceLeDiff, Nat.reduceEqDiff, Nat.reduceBEq, Int.reduceLE, Int.reduceLT, Int.reduceEq, Int.reduceNe, Int.reduceAdd, Int.reduceSub, Int.reduceToNat, Int.reduceNeg, ↓reduceIte, reduceCtorEq, cellsOf, cellA, lay, fillA]
      exact KWk_bare (by simp [bare, bareL, asets]) ⟨rfl, rfl⟩
    · have e : snapA l next i = addA l next ⟨next, 2, i, 0, d.files⟩ := by unfold snapA; rw [hg]; exact (if_neg h2).trans (addA_id l next _ _ rfl)
      rw [e]
      simp only [getV, h2, cellD, aset, lay, wk3, onStO, bareL, toCl, onApO, chunks, wk, iaddrV_map, emb, unAgg, ares, aresL, ares1, tupled, forall_const, Nat.reduceAdd, Nat.reduceSub, Nat.reduceMul, Nat.reduceLeDiff, Nat.reduceEqDiff, Nat.reduceBEq, Int.reduceLE, Int.reduceLT, Int.reduceEq, Int.reduceNe, Int.reduceAdd, Int.reduceSub, Int.reduceToNat, Int.reduceNeg, ↓reduceIte, reduceCtorEq, cellsOf, cellA, lay, fillA]
      refine CT_ok (moreL l hl ⟨next, 2, i, 0, d.files⟩ hd _) ?_
      rintro _ _ ⟨rfl, rfl⟩
      simp only [outA, lay, wk3, onStO, bareL, toCl, onApO, chunks, wk, iaddrV_map, emb, unAgg, ares, aresL, ares1, tupled, forall_const, Nat.reduceAdd, Nat.reduceSub, Nat.reduceMul, Nat.reduceLeDiff, Nat.reduceEqDiff, Nat.reduceBEq, Int.reduceLE, Int.reduceLT, Int.reduceEq, Int.reduceNe, Int.reduceAdd, Int.reduceSub, Int.reduceToNat, Int.reduceNeg, ↓reduceIte, reduceCtorEq, cellsOf, cellA, lay, fillA]
      exact KWk_bare (by simp [bare, bareL, asets]) ⟨rfl, rfl⟩
/-- palimpref16.Clone -/
theorem rclone0 (l : List Dset) (hl : Short l) (next i : Int) : C Tryz.prog 72 [asets l, .int .i64 next, .int .i64 i] [] (fun x H' => x = outA (cloneA l next i) ∧ H' = []) := by
  refine C_body' d72 rfl (WT_ok ?_)
  unfold c72
  simp only [lay, wk3, onStO, bareL, toCl, onApO, chunks, wk, iaddrV_map, emb, unAgg, ares, aresL, ares1, tupled, forall_const, Nat.reduceAdd, Nat.reduceSub, Nat.reduceMul, Nat.reduceLeDiff, Nat.reduceEqDiff, Nat.reduceBEq, Int.reduceLE, Int.reduceLT, Int.reduceEq, Int.reduceNe, Int.reduceAdd, Int.reduceSub, Int.reduceToNat, Int.reduceNeg, ↓reduceIte, reduceCtorEq, cellsOf, cellA, lay, fillA]
  refine CT_ok (rgetL l hl.1 i _) ?_
  rintro _ _ ⟨rfl, rfl⟩
  cases hg : getA l i with
  | none =>
    have e : cloneA l next i = (l, 2) := by unfold cloneA; rw [hg]
    rw [e]
    simp only [getV, lay, wk3, onStO, bareL, toCl, onApO, chunks, wk, iaddrV_map, emb, unAgg, ares, aresL, ares1, tupled, forall_const, Nat.reduceAdd, Nat.reduceSub, Nat.reduceMul, Nat.reduceLeDiff, Nat.reduceEqDiff, Nat.reduceBEq, Int.reduceLE, Int.reduceLT, Int.reduceEq, Int.reduceNe, Int.reduceAdd, Int.reduceSub, Int.reduceToNat, Int.reduceNeg, ↓reduceIte, reduceCtorEq, cellsOf, cellA, lay, fillA]
    exact KWk_bare (by simp [bare, bareL, asets]) ⟨rfl, rfl⟩
  | some d =>
    have hd := hl.2 d (getA_mem hg).1
    by_cases h2 : d.kind = 2
    · have e : cloneA l next i = addA l next ⟨next, 1, i, 0, d.files⟩ := by unfold cloneA; rw [hg]; exact (if_pos h2).trans (addA_id l next _ _ rfl)
      rw [e]
      simp only [getV, h2, cellD, aset, lay, wk3, onStO, bareL, toCl, onApO, chunks, wk, iaddrV_map, emb, unAgg, ares, aresL, ares1, tupled, forall_const, Nat.reduceAdd, Nat.reduceSub, Nat.reduceMul, Nat.reduceLeDiff, Nat.reduceEqDiff, Nat.reduceBEq, Int.reduceLE, Int.reduceLT, Int.reduceEq, Int.reduceNe, Int.reduceAdd, Int.reduceSub, Int.reduceToNat, Int.reduceNeg, ↓reduceIte, reduceCtorEq, cellsOf, cellA, lay, fillA]
      refine CT_ok (moreL l hl ⟨next, 1, i, 0, d.files⟩ hd _) ?_
      rintro _ _ ⟨rfl, rfl⟩
      simp only [outA, lay, wk3, onStO, bareL, toCl, onApO, chunks, wk, iaddrV_map, emb, unAgg, ares, aresL, ares1, tupled, forall_const, Nat.reduceAdd, Nat.reduceSub, Nat.reduceMul, Nat.reduceLeDiff, Nat.reduceEqDiff, Nat.reduceBEq, Int.reduceLE, Int.reduceLT, Int.reduceEq, Int.reduceNe, Int.reduceAdd, Int.reduceSub, Int.reduceToNat, Int.reduceNeg, ↓reduceIte, reduceCtorEq, cellsOf, cellA, lay, fillA]
      exact KWk_bare (by simp [bare, bareL, asets]) ⟨rfl, rfl⟩
    · have e : cloneA l next i = (l, 1) := by unfold cloneA; rw [hg]; exact if_neg h2
      rw [e]
      simp only [getV, h2, cellD, aset, lay, wk3, onStO, bareL, toCl, onApO, chunks, wk, iaddrV_map, emb, unAgg, ares, aresL, ares1, tupled, forall_const, Nat.reduceAdd, Nat.reduceSub, Nat.reduceMul, Nat.reduceLeDiff, Nat.reduceEqDiff, Nat.reduceBEq, Int.reduceLE, Int.reduceLT, Int.reduceEq, Int.reduceNe, Int.reduceAdd, Int.reduceSub, Int.reduceToNat, Int.reduceNeg, ↓reduceIte, reduceCtorEq, cellsOf, cellA, lay, fillA]
      exact KWk_bare (by simp [bare, bareL, asets]) ⟨rfl, rfl⟩
end Go.Proofs.YtemjlopoffjmpaaGreat.Abs
set_option linter.unusedSimpArgs false
set_option linter.unusedVariables false
namespace Go.Proofs.YtemjlopoffjmpaaGreat.Abs
open Go Go.Proofs

/-- A step on files, or on sets. -/
def StepR (l : List UInt8) (n : Int) (x : AV) (H' : AH) : Prop := ∃ (k i m n' : Int) (p q t : List UInt8), p.length ≤ 1000000 ∧ q.length ≤ 1000000 ∧ t.length ≤ 1000000 ∧ (n ≤ n' ∧ 1 ≤ k ∧ (k ≤ 5 ∨ 9 ≤ k) ∧ k ≤ 14) ∧ x = editA k i m p q t ∧ H' = picksH l n'
theorem KWk_step {l : List UInt8} {n k i m n' : Int} {p q t : List UInt8} {R : AH} (hp : p.length ≤ 1000000) (hq : q.length ≤ 1000000) (ht : t.length ≤ 1000000) (hn : n ≤ n' ∧ 1 ≤ k ∧ (k ≤ 5 ∨ 9 ≤ k) ∧ k ≤ 14) :
    KWk 1 (StepR l n) (.agg [.int .i64 k, .int .i64 i, .int .i64 m, .int .i64 0, .int .i64 0, .str p, .str q, .str t, .emp]) (some [[.fz (l.map pbyte), .int .i64 n']] :: R) := by
  refine ⟨_, _, ?_, k, i, m, n', p, q, t, hp, hq, ht, hn, rfl, rfl⟩
  have h := Wk_forget (n0 := 1) (fr := [editA k i m p q t]) (H := some [[.fz (l.map pbyte), .int .i64 n']] :: R) 1 (Nat.le_refl _)
  simpa [mapH, renL, ren, editA, picksH] using h
theorem set45 (l : List UInt8) (n i : Int) (hn : 0 ≤ n) (hl : l.length ≤ 1000000) :
    C Tryz.prog 45 [.ptr 0 0 0 1, .int .i64 i] (picksH l n) (StepR l n) := by
  refine C_body' d45 rfl (WT_ok ?_)
  unfold c45
  simp only [picksH, lay, iaddr_node, pnode, wk3, onStO, bareL, toCl, onApO, chunks, wk, emb, unAgg, ares, aresL, ares1, tupled, forall_const, Nat.reduceAdd, Nat.reduceSub, Nat.reduceMul, Nat.reduceLeDiff, Nat.reduceEqDiff, Nat.reduceBEq, Int.reduceLE, Int.reduceLT, Int.reduceEq, Int.reduceNe, Int.reduceAdd, Int.reduceSub, Int.reduceToNat, Int.reduceNeg, ↓reduceIte, reduceCtorEq, cellsOf, cellA, lay, fillA]
  refine CT_ok (num_at l n 6 (by omega) hl _) ?_
  rintro _ H ⟨m, n1, rfl, k1, k2, k3, k4, _, rfl⟩
  have g1 : m < 6 := k2 (by omega)
  have w1 : IntKind.i64.wrap (9 + m) = 9 + m := IntWalk.i64_in _ (by omega)
  simp only [w1, lay, iaddr_node, pnode, wk3, onStO, bareL, toCl, onApO, chunks, wk, emb, unAgg, ares, aresL, ares1, tupled, forall_const, Nat.reduceAdd, Nat.reduceSub, Nat.reduceMul, Nat.reduceLeDiff, Nat.reduceEqDiff, Nat.reduceBEq, Int.reduceLE, Int.reduceLT, Int.reduceEq, Int.reduceNe, Int.reduceAdd, Int.reduceSub, Int.reduceToNat, Int.reduceNeg, ↓reduceIte, reduceCtorEq, cellsOf, cellA, lay, fillA]
  by_cases v9 : 9 + m = 9
  · simp only [v9, lay, iaddr_node, pnode, wk3, onStO, bareL, toCl, onApO, chunks, wk, emb, unAgg, ares, aresL, ares1, tupled, forall_const, Nat.reduceAdd, Nat.reduceSub, Nat.reduceMul, Nat.reduceLeDiff, Nat.reduceEqDiff, Nat.reduceBEq, Int.reduceLE, Int.reduceLT, Int.reduceEq, Int.reduceNe, Int.reduceAdd, Int.reduceSub, Int.reduceToNat, Int.reduceNeg, ↓reduceIte, reduceCtorEq, cellsOf, cellA, lay, fillA]
    refine CT_ok (num_at l n1 9 (by omega) hl _) ?_
    rintro _ H ⟨m2, n2, rfl, j1, j2, j3, j4, _, rfl⟩
    simp only [lay, iaddr_node, pnode, wk3, onStO, bareL, toCl, onApO, chunks, wk, emb, unAgg, ares, aresL, ares1, tupled, forall_const, Nat.reduceAdd, Nat.reduceSub, Nat.reduceMul, Nat.reduceLeDiff, Nat.reduceEqDiff, Nat.reduceBEq, Int.reduceLE, Int.reduceLT, Int.reduceEq, Int.reduceNe, Int.reduceAdd, Int.reduceSub, Int.reduceToNat, Int.reduceNeg, ↓reduceIte, reduceCtorEq, cellsOf, cellA, lay, fillA]
    exact KWk_step (by simp) (by simp) (by simp) (by omega)
  by_cases v13 : 9 + m = 13
  · simp only [v13, lay, iaddr_node, pnode, wk3, onStO, bareL, toCl, onApO, chunks, wk, emb, unAgg, ares, aresL, ares1, tupled, forall_const, Nat.reduceAdd, Nat.reduceSub, Nat.reduceMul, Nat.reduceLeDiff, Nat.reduceEqDiff, Nat.reduceBEq, Int.reduceLE, Int.reduceLT, Int.reduceEq, Int.reduceNe, Int.reduceAdd, Int.reduceSub, Int.reduceToNat, Int.reduceNeg, ↓reduceIte, reduceCtorEq, cellsOf, cellA, lay, fillA]
    refine CT_ok (num_at l n1 8 (by omega) hl _) ?_
    rintro _ H ⟨m2, n2, rfl, j1, j2, j3, j4, _, rfl⟩
    have w2 : IntKind.i64.wrap (1 + m2) = 1 + m2 := IntWalk.i64_in _ (by omega)
    simp only [w2, lay, iaddr_node, pnode, wk3, onStO, bareL, toCl, onApO, chunks, wk, emb, unAgg, ares, aresL, ares1, tupled, forall_const, Nat.reduceAdd, Nat.reduceSub, Nat.reduceMul, Nat.reduceLeDiff, Nat.reduceEqDiff, Nat.reduceBEq, Int.reduceLE, Int.reduceLT, Int.reduceEq, Int.reduceNe, Int.reduceAdd, Int.reduceSub, Int.reduceToNat, Int.reduceNeg, ↓reduceIte, reduceCtorEq, cellsOf, cellA, lay, fillA]
    exact KWk_step (by simp) (by simp) (by simp) (by omega)
  · simp only [v9, v13, lay, iaddr_node, pnode, wk3, onStO, bareL, toCl, onApO, chunks, wk, emb, unAgg, ares, aresL, ares1, tupled, forall_const, Nat.reduceAdd, Nat.reduceSub, Nat.reduceMul, Nat.reduceLeDiff, Nat.reduceEqDiff, Nat.reduceBEq, Int.reduceLE, Int.reduceLT, Int.reduceEq, Int.reduceNe, Int.reduceAdd, Int.reduceSub, Int.reduceToNat, Int.reduceNeg, ↓reduceIte, reduceCtorEq, cellsOf, cellA, lay, fillA]
    exact KWk_step (by simp) (by simp) (by simp) (by omega)

/-- A pool of which the sets are all there is. -/
def poolC (nx : Int) (v : AV) : List AV := [.emp, .emp, .int .i64 0, .int .i64 0, .bool false, .int .i64 0, .int .i64 0, .int .u32 0, .int .u32 0, .int .u32 0, .int .u32 0, .int .i64 0, .int .i64 nx, .int .i64 0, .int .i64 0, .int .i64 0, .int .u32 0, .int .u32 0, .int .u32 0, .int .u32 0, .int .i64 0, .int .i64 0, .int .u32 0, .int .u32 0, .int .u32 0, .int .u32 0, .int .i64 0, .int .i64 0, .int .u32 0, .int .u32 0, .int .u32 0, .int .u32 0, .int .i64 0, .emp, .emp, .emp, .emp, .int .i64 0, .int .i64 0, v, .bool false]
def ansC (e m : Int) : List AV := [.int .i64 e, .str [], .int .i64 0, .int .i64 0, .int .i64 0, .int .i64 0, .emp, .int .i64 m]
def toldA (nx : Int) (l : List Dset) (e m : Int) : AV := .tuple [.agg (poolC nx (asets l)), .agg (ansC e m)]
theorem told_bare (nx : Int) (l : List Dset) (e m : Int) : bare (toldA nx l e m) = true := by simp [toldA, poolC, ansC, bare, bareL, asets]
theorem tells86 (nx : Int) (l : List Dset) (e : Int) (H : AH) : C Tryz.prog 86 [.agg (poolC nx (asets l)), .int .i64 e] H (fun x H' => x = toldA nx l e 0 ∧ H' = H) := by
  refine C_any ?_ (by simp [bareL, bare, asets, poolC]) (told_bare _ _ _ _) H
  refine C_body' d86 rfl (WT_ok ?_)
  unfold c86
  simp only [poolC, asets, lay, slicelV_own, slicelV_fz, onLive_some, RT_slicel, RE_slicel, slice3V_eq, room3_some, roomOf_own, roomOf_fz, RT_slice3, RT_calld, apI_some, clC_some, clearV_own, clearV_fz, wk3, onStO, bareL, toCl, onApO, chunks, wk, iaddrV_map, emb, unAgg, ares, aresL, ares1, tupled, forall_const, Nat.reduceAdd, Nat.reduceSub, Nat.reduceMul, Nat.reduceLeDiff, Nat.reduceEqDiff, Nat.reduceBEq, Int.reduceLE, Int.reduceLT, Int.reduceEq, Int.reduceNe, Int.reduceAdd, Int.reduceSub, Int.reduceToNat, Int.reduceNeg, ↓reduceIte, reduceCtorEq, cellsOf, cellA, lay, fillA]
  exact KWk_bare (by simp [bare, bareL]) ⟨rfl, rfl⟩
theorem changes87 (k : Int) (hk : k ≤ 5 ∨ 9 ≤ k) (hk2 : k ≤ 14) (H : AH) : C Tryz.prog 87 [.int .i64 k] H (fun x H' => x = .bool true ∧ H' = H) := by
  refine C_body d87 rfl (WT_ok ?_)
  unfold c87
  have h6 : ¬ k = 6 := by omega
  have h7 : ¬ k = 7 := by omega
  have h8 : ¬ k = 8 := by omega
  have h17 : k ≤ 17 := by omega
  simp only [h6, h7, h8, h17, lay, slicelV_own, slicelV_fz, onLive_some, RT_slicel, RE_slicel, slice3V_eq, room3_some, roomOf_own, roomOf_fz, RT_slice3, RT_calld, apI_some, clC_some, clearV_own, clearV_fz, wk3, onStO, bareL, toCl, onApO, chunks, wk, iaddrV_map, emb, unAgg, ares, aresL, ares1, tupled, forall_const, Nat.reduceAdd, Nat.reduceSub, Nat.reduceMul, Nat.reduceLeDiff, Nat.reduceEqDiff, Nat.reduceBEq, Int.reduceLE, Int.reduceLT, Int.reduceEq, Int.reduceNe, Int.reduceAdd, Int.reduceSub, Int.reduceToNat, Int.reduceNeg, ↓reduceIte, reduceCtorEq, cellsOf, cellA, lay, fillA]
end Go.Proofs.YtemjlopoffjmpaaGreat.Abs
set_option linter.unusedSimpArgs false
set_option linter.unusedVariables false
namespace Go.Proofs.YtemjlopoffjmpaaGreat.Abs
open Go Go.Proofs

theorem filesA_may {l : List Dset} (h : MayL l) (i : Int) {s : List Node} (hs : Wf s) : MayL (filesA l i s).1 ∧ (filesA l i s).1.length = l.length := by
  unfold filesA
  cases hg : getA l i with
  | none => exact ⟨h, rfl⟩
  | some d =>
    simp only
    split
    · exact ⟨h, rfl⟩
    · split
      · exact ⟨h, rfl⟩
      · refine ⟨?_, List.length_set⟩
        rcases find_of (l := l) (i := i) with ⟨e, _⟩ | ⟨k, e, hk, hid, _⟩
        · rw [getA_no e] at hg; cases hg
        rw [getA_of e] at hg
        have hd := Option.some.inj hg
        rw [e, Int.toNat_natCast, ← hd]
        show MayL (l.set k _)
        rw [set_map h hk (fun d => { d with files := s })]
        obtain ⟨r, hr⟩ := h.tree
        refine h.map _ (fun d _ => by split <;> rfl) (fun d _ => by split <;> rfl) (fun d _ => by split <;> rfl) (fun d hd => ?_) (fun d hd e => ?_) (fun d hd e => ?_) r (fun d hd o ho e => ?_)
        · split
          · exact hs
          · exact (h.each d hd).files
        · have := ((h.each d hd).snap e).2
          split <;> exact this
        · have := (h.each d hd).live e
          split <;> exact this
        · have : o.id = d.origin := by
            rw [e]; split <;> rfl
          exact hr d hd o ho this
theorem filesL (l : List Dset) (hl : Short l) (i : Int) (s : List Node) (hs : s.length ≤ 1000000) (H : AH) :
    C Tryz.prog 17 [asets l, .int .i64 i, aset s] H (fun y H' => y = outA (filesA l i s) ∧ H' = H) :=
  C_any (filesA0 l hl i s hs) (by simp [bareL, bare, asets, aset]) (outA_bare _) H

/-- What a step makes of a pool. -/
def PoolR (nx : Int) (l : List Dset) (y : AV) : Prop := ∃ (l' : List Dset) (nx' e m : Int), MayL l' ∧ (l ≠ [] → l' ≠ []) ∧ nx ≤ nx' ∧ nx' ≤ nx + 1 ∧ y = toldA nx' l' e m
theorem PoolR.bare {nx : Int} {l : List Dset} {y : AV} (h : PoolR nx l y) : bare y = true := by
  obtain ⟨l', nx', e, m, _, _, _, _, rfl⟩ := h
  exact told_bare _ _ _ _
set_option maxHeartbeats 2000000 in
theorem files88_0 (l : List Dset) (hM : MayL l) (nx k i m : Int) (hk : 1 ≤ k ∧ k ≤ 5) (p q t : List UInt8) (hp : p.length ≤ 1000000) (hq : q.length ≤ 1000000) (ht : t.length ≤ 1000000) :
    C Tryz.prog 88 [.agg (poolC nx (asets l)), editA k i m p q t] [] (fun y H' => PoolR nx l y ∧ H' = []) := by
  have hl := hM.short
  have told : ∀ e : Int, PoolR nx l (toldA nx l e 0) := fun e => ⟨l, nx, e, 0, hM, fun h => h, Int.le_refl _, by omega, rfl⟩
  have put : ∀ u, Wf u → PoolR nx l (toldA nx (filesA l i u).1 (filesA l i u).2 0) := fun u hu => by
    obtain ⟨h1, h2⟩ := filesA_may hM i hu
    exact ⟨_, nx, _, 0, h1, fun h e => h (List.length_eq_zero_iff.1 (by rw [← h2, e]; rfl)), Int.le_refl _, by omega, rfl⟩
  refine C_body' d88 rfl (WT_ok ?_)
  unfold c88
  simp only [poolC, editA, asets, lay, iaddr_node, pnode, wk3, onStO, bareL, toCl, onApO, chunks, wk, emb, unAgg, ares, aresL, ares1, tupled, forall_const, Nat.reduceAdd, Nat.reduceSub, Nat.reduceMul, Nat.reduceLeDiff, Nat.reduceEqDiff, Nat.reduceBEq, Int.reduceLE, Int.reduceLT, Int.reduceEq, Int.reduceNe, Int.reduceAdd, Int.reduceSub, Int.reduceToNat, Int.reduceNeg, ↓reduceIte, reduceCtorEq, cellsOf, cellA, lay, fillA]
  refine CT_ok (rgetL l hl.1 i _) ?_
  rintro _ _ ⟨rfl, rfl⟩
  cases hg : getA l i with
  | none =>
    simp only [getV, lay, iaddr_node, pnode, wk3, onStO, bareL, toCl, onApO, chunks, wk, emb, unAgg, ares, aresL, ares1, tupled, forall_const, Nat.reduceAdd, Nat.reduceSub, Nat.reduceMul, Nat.reduceLeDiff, Nat.reduceEqDiff, Nat.reduceBEq, Int.reduceLE, Int.reduceLT, Int.reduceEq, Int.reduceNe, Int.reduceAdd, Int.reduceSub, Int.reduceToNat, Int.reduceNeg, ↓reduceIte, reduceCtorEq, cellsOf, cellA, lay, fillA]
    refine CT_ok (tells86 nx l 2 _) ?_
    rintro _ _ ⟨rfl, rfl⟩
    simp only [toldA, poolC, ansC, asets, lay, iaddr_node, pnode, wk3, onStO, bareL, toCl, onApO, chunks, wk, emb, unAgg, ares, aresL, ares1, tupled, forall_const, Nat.reduceAdd, Nat.reduceSub, Nat.reduceMul, Nat.reduceLeDiff, Nat.reduceEqDiff, Nat.reduceBEq, Int.reduceLE, Int.reduceLT, Int.reduceEq, Int.reduceNe, Int.reduceAdd, Int.reduceSub, Int.reduceToNat, Int.reduceNeg, ↓reduceIte, reduceCtorEq, cellsOf, cellA, lay, fillA]
    exact KWk_bare (told_bare nx l 2 0) ⟨told 2, rfl⟩
  | some d =>
  have hd := hM.each d (getA_mem hg).1
  simp only [getV, cellD, aset, lay, iaddr_node, pnode, wk3, onStO, bareL, toCl, onApO, chunks, wk, emb, unAgg, ares, aresL, ares1, tupled, forall_const, Nat.reduceAdd, Nat.reduceSub, Nat.reduceMul, Nat.reduceLeDiff, Nat.reduceEqDiff, Nat.reduceBEq, Int.reduceLE, Int.reduceLT, Int.reduceEq, Int.reduceNe, Int.reduceAdd, Int.reduceSub, Int.reduceToNat, Int.reduceNeg, ↓reduceIte, reduceCtorEq, cellsOf, cellA, lay, fillA]
  refine CT_ok (changes87 k (by omega) (by omega) _) ?_
  rintro _ _ ⟨rfl, rfl⟩
  by_cases h2 : d.kind = 2
  · simp only [h2, lay, iaddr_node, pnode, wk3, onStO, bareL, toCl, onApO, chunks, wk, emb, unAgg, ares, aresL, ares1, tupled, forall_const, Nat.reduceAdd, Nat.reduceSub, Nat.reduceMul, Nat.reduceLeDiff, Nat.reduceEqDiff, Nat.reduceBEq, Int.reduceLE, Int.reduceLT, Int.reduceEq, Int.reduceNe, Int.reduceAdd, Int.reduceSub, Int.reduceToNat, Int.reduceNeg, ↓reduceIte, reduceCtorEq, cellsOf, cellA, lay, fillA]
    refine CT_ok (tells86 nx l 11 _) ?_
    rintro _ _ ⟨rfl, rfl⟩
    simp only [toldA, poolC, ansC, asets, lay, iaddr_node, pnode, wk3, onStO, bareL, toCl, onApO, chunks, wk, emb, unAgg, ares, aresL, ares1, tupled, forall_const, Nat.reduceAdd, Nat.reduceSub, Nat.reduceMul, Nat.reduceLeDiff, Nat.reduceEqDiff, Nat.reduceBEq, Int.reduceLE, Int.reduceLT, Int.reduceEq, Int.reduceNe, Int.reduceAdd, Int.reduceSub, Int.reduceToNat, Int.reduceNeg, ↓reduceIte, reduceCtorEq, cellsOf, cellA, lay, fillA]
    exact KWk_bare (told_bare nx l 11 0) ⟨told 11, rfl⟩
  by_cases h_1 : k = 1
  · simp only [h2, h_1, lay, iaddr_node, pnode, wk3, onStO, bareL, toCl, onApO, chunks, wk, emb, unAgg, ares, aresL, ares1, tupled, forall_const, Nat.reduceAdd, Nat.reduceSub, Nat.reduceMul, Nat.reduceLeDiff, Nat.reduceEqDiff, Nat.reduceBEq, Int.reduceLE, Int.reduceLT, Int.reduceEq, Int.reduceNe, Int.reduceAdd, Int.reduceSub, Int.reduceToNat, Int.reduceNeg, ↓reduceIte, reduceCtorEq, cellsOf, cellA, lay, fillA]
    refine CT_ok (make_next (parts_loose p hp) (fun _ h => h) d.files hd.files m _) ?_
    rintro _ _ ⟨rfl, u, e, hu, rfl⟩
    by_cases he : e = 0
    · simp only [aset, he, lay, iaddr_node, pnode, wk3, onStO, bareL, toCl, onApO, chunks, wk, emb, unAgg, ares, aresL, ares1, tupled, forall_const, Nat.reduceAdd, Nat.reduceSub, Nat.reduceMul, Nat.reduceLeDiff, Nat.reduceEqDiff, Nat.reduceBEq, Int.reduceLE, Int.reduceLT, Int.reduceEq, Int.reduceNe, Int.reduceAdd, Int.reduceSub, Int.reduceToNat, Int.reduceNeg, ↓reduceIte, reduceCtorEq, cellsOf, cellA, lay, fillA]
      refine CT_ok (filesL l hl i u (by have := hu.len; omega) _) ?_
      rintro _ _ ⟨rfl, rfl⟩
      simp only [outA, asets, lay, iaddr_node, pnode, wk3, onStO, bareL, toCl, onApO, chunks, wk, emb, unAgg, ares, aresL, ares1, tupled, forall_const, Nat.reduceAdd, Nat.reduceSub, Nat.reduceMul, Nat.reduceLeDiff, Nat.reduceEqDiff, Nat.reduceBEq, Int.reduceLE, Int.reduceLT, Int.reduceEq, Int.reduceNe, Int.reduceAdd, Int.reduceSub, Int.reduceToNat, Int.reduceNeg, ↓reduceIte, reduceCtorEq, cellsOf, cellA, lay, fillA]
      refine WT_drawE ?_
      refine WDT_more 0 ?_
      simp only [lay, iaddr_node, pnode, wk3, onStO, bareL, toCl, onApO, chunks, wk, emb, unAgg, ares, aresL, ares1, tupled, forall_const, Nat.reduceAdd, Nat.reduceSub, Nat.reduceMul, Nat.reduceLeDiff, Nat.reduceEqDiff, Nat.reduceBEq, Int.reduceLE, Int.reduceLT, Int.reduceEq, Int.reduceNe, Int.reduceAdd, Int.reduceSub, Int.reduceToNat, Int.reduceNeg, ↓reduceIte, reduceCtorEq, cellsOf, cellA, lay, fillA]
      refine ⟨by omega, by rfl, ?_⟩
      exact KWk_bare (told_bare nx (filesA l i u).1 (filesA l i u).2 0) ⟨put u hu, rfl⟩
    · simp only [aset, he, lay, iaddr_node, pnode, wk3, onStO, bareL, toCl, onApO, chunks, wk, emb, unAgg, ares, aresL, ares1, tupled, forall_const, Nat.reduceAdd, Nat.reduceSub, Nat.reduceMul, Nat.reduceLeDiff, Nat.reduceEqDiff, Nat.reduceBEq, Int.reduceLE, Int.reduceLT, Int.reduceEq, Int.reduceNe, Int.reduceAdd, Int.reduceSub, Int.reduceToNat, Int.reduceNeg, ↓reduceIte, reduceCtorEq, cellsOf, cellA, lay, fillA]
      refine CT_ok (tells86 nx l e _) ?_
      rintro _ _ ⟨rfl, rfl⟩
      simp only [toldA, poolC, ansC, asets, lay, iaddr_node, pnode, wk3, onStO, bareL, toCl, onApO, chunks, wk, emb, unAgg, ares, aresL, ares1, tupled, forall_const, Nat.reduceAdd, Nat.reduceSub, Nat.reduceMul, Nat.reduceLeDiff, Nat.reduceEqDiff, Nat.reduceBEq, Int.reduceLE, Int.reduceLT, Int.reduceEq, Int.reduceNe, Int.reduceAdd, Int.reduceSub, Int.reduceToNat, Int.reduceNeg, ↓reduceIte, reduceCtorEq, cellsOf, cellA, lay, fillA]
      exact KWk_bare (told_bare nx l e 0) ⟨told e, rfl⟩
  by_cases h_2 : k = 2
  · simp only [h2, h_2, lay, iaddr_node, pnode, wk3, onStO, bareL, toCl, onApO, chunks, wk, emb, unAgg, ares, aresL, ares1, tupled, forall_const, Nat.reduceAdd, Nat.reduceSub, Nat.reduceMul, Nat.reduceLeDiff, Nat.reduceEqDiff, Nat.reduceBEq, Int.reduceLE, Int.reduceLT, Int.reduceEq, Int.reduceNe, Int.reduceAdd, Int.reduceSub, Int.reduceToNat, Int.reduceNeg, ↓reduceIte, reduceCtorEq, cellsOf, cellA, lay, fillA]
    refine CT_ok (drop_spec (parts_loose p hp) d.files hd.files _) ?_
    rintro _ _ ⟨rfl, u, e, hu, rfl⟩
    by_cases he : e = 0
    · simp only [aset, he, lay, iaddr_node, pnode, wk3, onStO, bareL, toCl, onApO, chunks, wk, emb, unAgg, ares, aresL, ares1, tupled, forall_const, Nat.reduceAdd, Nat.reduceSub, Nat.reduceMul, Nat.reduceLeDiff, Nat.reduceEqDiff, Nat.reduceBEq, Int.reduceLE, Int.reduceLT, Int.reduceEq, Int.reduceNe, Int.reduceAdd, Int.reduceSub, Int.reduceToNat, Int.reduceNeg, ↓reduceIte, reduceCtorEq, cellsOf, cellA, lay, fillA]
      refine CT_ok (filesL l hl i u (by have := hu.len; omega) _) ?_
      rintro _ _ ⟨rfl, rfl⟩
      simp only [outA, asets, lay, iaddr_node, pnode, wk3, onStO, bareL, toCl, onApO, chunks, wk, emb, unAgg, ares, aresL, ares1, tupled, forall_const, Nat.reduceAdd, Nat.reduceSub, Nat.reduceMul, Nat.reduceLeDiff, Nat.reduceEqDiff, Nat.reduceBEq, Int.reduceLE, Int.reduceLT, Int.reduceEq, Int.reduceNe, Int.reduceAdd, Int.reduceSub, Int.reduceToNat, Int.reduceNeg, ↓reduceIte, reduceCtorEq, cellsOf, cellA, lay, fillA]
      refine WT_drawE ?_
      refine WDT_more 0 ?_
      simp only [lay, iaddr_node, pnode, wk3, onStO, bareL, toCl, onApO, chunks, wk, emb, unAgg, ares, aresL, ares1, tupled, forall_const, Nat.reduceAdd, Nat.reduceSub, Nat.reduceMul, Nat.reduceLeDiff, Nat.reduceEqDiff, Nat.reduceBEq, Int.reduceLE, Int.reduceLT, Int.reduceEq, Int.reduceNe, Int.reduceAdd, Int.reduceSub, Int.reduceToNat, Int.reduceNeg, ↓reduceIte, reduceCtorEq, cellsOf, cellA, lay, fillA]
      refine ⟨by omega, by rfl, ?_⟩
      exact KWk_bare (told_bare nx (filesA l i u).1 (filesA l i u).2 0) ⟨put u hu, rfl⟩
    · simp only [aset, he, lay, iaddr_node, pnode, wk3, onStO, bareL, toCl, onApO, chunks, wk, emb, unAgg, ares, aresL, ares1, tupled, forall_const, Nat.reduceAdd, Nat.reduceSub, Nat.reduceMul, Nat.reduceLeDiff, Nat.reduceEqDiff, Nat.reduceBEq, Int.reduceLE, Int.reduceLT, Int.reduceEq, Int.reduceNe, Int.reduceAdd, Int.reduceSub, Int.reduceToNat, Int.reduceNeg, ↓reduceIte, reduceCtorEq, cellsOf, cellA, lay, fillA]
      refine CT_ok (tells86 nx l e _) ?_
      rintro _ _ ⟨rfl, rfl⟩
      simp only [toldA, poolC, ansC, asets, lay, iaddr_node, pnode, wk3, onStO, bareL, toCl, onApO, chunks, wk, emb, unAgg, ares, aresL, ares1, tupled, forall_const, Nat.reduceAdd, Nat.reduceSub, Nat.reduceMul, Nat.reduceLeDiff, Nat.reduceEqDiff, Nat.reduceBEq, Int.reduceLE, Int.reduceLT, Int.reduceEq, Int.reduceNe, Int.reduceAdd, Int.reduceSub, Int.reduceToNat, Int.reduceNeg, ↓reduceIte, reduceCtorEq, cellsOf, cellA, lay, fillA]
      exact KWk_bare (told_bare nx l e 0) ⟨told e, rfl⟩
  by_cases h_3 : k = 3
  · simp only [h2, h_3, lay, iaddr_node, pnode, wk3, onStO, bareL, toCl, onApO, chunks, wk, emb, unAgg, ares, aresL, ares1, tupled, forall_const, Nat.reduceAdd, Nat.reduceSub, Nat.reduceMul, Nat.reduceLeDiff, Nat.reduceEqDiff, Nat.reduceBEq, Int.reduceLE, Int.reduceLT, Int.reduceEq, Int.reduceNe, Int.reduceAdd, Int.reduceSub, Int.reduceToNat, Int.reduceNeg, ↓reduceIte, reduceCtorEq, cellsOf, cellA, lay, fillA]
    refine CT_ok (move_spec (parts_loose p hp) (parts_loose q hq) (fun _ h => h) d.files hd.files _) ?_
    rintro _ _ ⟨rfl, u, e, hu, rfl⟩
    by_cases he : e = 0
    · simp only [aset, he, lay, iaddr_node, pnode, wk3, onStO, bareL, toCl, onApO, chunks, wk, emb, unAgg, ares, aresL, ares1, tupled, forall_const, Nat.reduceAdd, Nat.reduceSub, Nat.reduceMul, Nat.reduceLeDiff, Nat.reduceEqDiff, Nat.reduceBEq, Int.reduceLE, Int.reduceLT, Int.reduceEq, Int.reduceNe, Int.reduceAdd, Int.reduceSub, Int.reduceToNat, Int.reduceNeg, ↓reduceIte, reduceCtorEq, cellsOf, cellA, lay, fillA]
      refine CT_ok (filesL l hl i u (by have := hu.len; omega) _) ?_
      rintro _ _ ⟨rfl, rfl⟩
      simp only [outA, asets, lay, iaddr_node, pnode, wk3, onStO, bareL, toCl, onApO, chunks, wk, emb, unAgg, ares, aresL, ares1, tupled, forall_const, Nat.reduceAdd, Nat.reduceSub, Nat.reduceMul, Nat.reduceLeDiff, Nat.reduceEqDiff, Nat.reduceBEq, Int.reduceLE, Int.reduceLT, Int.reduceEq, Int.reduceNe, Int.reduceAdd, Int.reduceSub, Int.reduceToNat, Int.reduceNeg, ↓reduceIte, reduceCtorEq, cellsOf, cellA, lay, fillA]
      refine WT_drawE ?_
      refine WDT_more 0 ?_
      simp only [lay, iaddr_node, pnode, wk3, onStO, bareL, toCl, onApO, chunks, wk, emb, unAgg, ares, aresL, ares1, tupled, forall_const, Nat.reduceAdd, Nat.reduceSub, Nat.reduceMul, Nat.reduceLeDiff, Nat.reduceEqDiff, Nat.reduceBEq, Int.reduceLE, Int.reduceLT, Int.reduceEq, Int.reduceNe, Int.reduceAdd, Int.reduceSub, Int.reduceToNat, Int.reduceNeg, ↓reduceIte, reduceCtorEq, cellsOf, cellA, lay, fillA]
      refine ⟨by omega, by rfl, ?_⟩
      exact KWk_bare (told_bare nx (filesA l i u).1 (filesA l i u).2 0) ⟨put u hu, rfl⟩
    · simp only [aset, he, lay, iaddr_node, pnode, wk3, onStO, bareL, toCl, onApO, chunks, wk, emb, unAgg, ares, aresL, ares1, tupled, forall_const, Nat.reduceAdd, Nat.reduceSub, Nat.reduceMul, Nat.reduceLeDiff, Nat.reduceEqDiff, Nat.reduceBEq, Int.reduceLE, Int.reduceLT, Int.reduceEq, Int.reduceNe, Int.reduceAdd, Int.reduceSub, Int.reduceToNat, Int.reduceNeg, ↓reduceIte, reduceCtorEq, cellsOf, cellA, lay, fillA]
      refine CT_ok (tells86 nx l e _) ?_
      rintro _ _ ⟨rfl, rfl⟩
      simp only [toldA, poolC, ansC, asets, lay, iaddr_node, pnode, wk3, onStO, bareL, toCl, onApO, chunks, wk, emb, unAgg, ares, aresL, ares1, tupled, forall_const, Nat.reduceAdd, Nat.reduceSub, Nat.reduceMul, Nat.reduceLeDiff, Nat.reduceEqDiff, Nat.reduceBEq, Int.reduceLE, Int.reduceLT, Int.reduceEq, Int.reduceNe, Int.reduceAdd, Int.reduceSub, Int.reduceToNat, Int.reduceNeg, ↓reduceIte, reduceCtorEq, cellsOf, cellA, lay, fillA]
      exact KWk_bare (told_bare nx l e 0) ⟨told e, rfl⟩
  by_cases h_4 : k = 4
  · simp only [h2, h_4, lay, iaddr_node, pnode, wk3, onStO, bareL, toCl, onApO, chunks, wk, emb, unAgg, ares, aresL, ares1, tupled, forall_const, Nat.reduceAdd, Nat.reduceSub, Nat.reduceMul, Nat.reduceLeDiff, Nat.reduceEqDiff, Nat.reduceBEq, Int.reduceLE, Int.reduceLT, Int.reduceEq, Int.reduceNe, Int.reduceAdd, Int.reduceSub, Int.reduceToNat, Int.reduceNeg, ↓reduceIte, reduceCtorEq, cellsOf, cellA, lay, fillA]
    refine CT_ok (write_next (parts_loose p hp) d.files hd.files m t (by omega) _) ?_
    rintro _ _ ⟨rfl, u, e, hu, rfl⟩
    by_cases he : e = 0
    · simp only [aset, he, lay, iaddr_node, pnode, wk3, onStO, bareL, toCl, onApO, chunks, wk, emb, unAgg, ares, aresL, ares1, tupled, forall_const, Nat.reduceAdd, Nat.reduceSub, Nat.reduceMul, Nat.reduceLeDiff, Nat.reduceEqDiff, Nat.reduceBEq, Int.reduceLE, Int.reduceLT, Int.reduceEq, Int.reduceNe, Int.reduceAdd, Int.reduceSub, Int.reduceToNat, Int.reduceNeg, ↓reduceIte, reduceCtorEq, cellsOf, cellA, lay, fillA]
      refine CT_ok (filesL l hl i u (by have := hu.len; omega) _) ?_
      rintro _ _ ⟨rfl, rfl⟩
      simp only [outA, asets, lay, iaddr_node, pnode, wk3, onStO, bareL, toCl, onApO, chunks, wk, emb, unAgg, ares, aresL, ares1, tupled, forall_const, Nat.reduceAdd, Nat.reduceSub, Nat.reduceMul, Nat.reduceLeDiff, Nat.reduceEqDiff, Nat.reduceBEq, Int.reduceLE, Int.reduceLT, Int.reduceEq, Int.reduceNe, Int.reduceAdd, Int.reduceSub, Int.reduceToNat, Int.reduceNeg, ↓reduceIte, reduceCtorEq, cellsOf, cellA, lay, fillA]
      refine WT_drawE ?_
      refine WDT_more 0 ?_
      simp only [lay, iaddr_node, pnode, wk3, onStO, bareL, toCl, onApO, chunks, wk, emb, unAgg, ares, aresL, ares1, tupled, forall_const, Nat.reduceAdd, Nat.reduceSub, Nat.reduceMul, Nat.reduceLeDiff, Nat.reduceEqDiff, Nat.reduceBEq, Int.reduceLE, Int.reduceLT, Int.reduceEq, Int.reduceNe, Int.reduceAdd, Int.reduceSub, Int.reduceToNat, Int.reduceNeg, ↓reduceIte, reduceCtorEq, cellsOf, cellA, lay, fillA]
      refine ⟨by omega, by rfl, ?_⟩
      exact KWk_bare (told_bare nx (filesA l i u).1 (filesA l i u).2 0) ⟨put u hu, rfl⟩
    · simp only [aset, he, lay, iaddr_node, pnode, wk3, onStO, bareL, toCl, onApO, chunks, wk, emb, unAgg, ares, aresL, ares1, tupled, forall_const, Nat.reduceAdd, Nat.reduceSub, Nat.reduceMul, Nat.reduceLeDiff, Nat.reduceEqDiff, Nat.reduceBEq, Int.reduceLE, Int.reduceLT, Int.reduceEq, Int.reduceNe, Int.reduceAdd, Int.reduceSub, Int.reduceToNat, Int.reduceNeg, ↓reduceIte, reduceCtorEq, cellsOf, cellA, lay, fillA]
      refine CT_ok (tells86 nx l e _) ?_
      rintro _ _ ⟨rfl, rfl⟩
      simp only [toldA, poolC, ansC, asets, lay, iaddr_node, pnode, wk3, onStO, bareL, toCl, onApO, chunks, wk, emb, unAgg, ares, aresL, ares1, tupled, forall_const, Nat.reduceAdd, Nat.reduceSub, Nat.reduceMul, Nat.reduceLeDiff, Nat.reduceEqDiff, Nat.reduceBEq, Int.reduceLE, Int.reduceLT, Int.reduceEq, Int.reduceNe, Int.reduceAdd, Int.reduceSub, Int.reduceToNat, Int.reduceNeg, ↓reduceIte, reduceCtorEq, cellsOf, cellA, lay, fillA]
      exact KWk_bare (told_bare nx l e 0) ⟨told e, rfl⟩
  have h_5 : k = 5 := by omega
  · simp only [h2, h_1, h_2, h_3, h_4, h_5, lay, iaddr_node, pnode, wk3, onStO, bareL, toCl, onApO, chunks, wk, emb, unAgg, ares, aresL, ares1, tupled, forall_const, Nat.reduceAdd, Nat.reduceSub, Nat.reduceMul, Nat.reduceLeDiff, Nat.reduceEqDiff, Nat.reduceBEq, Int.reduceLE, Int.reduceLT, Int.reduceEq, Int.reduceNe, Int.reduceAdd, Int.reduceSub, Int.reduceToNat, Int.reduceNeg, ↓reduceIte, reduceCtorEq, cellsOf, cellA, lay, fillA]
    refine CT_ok (cut_spec (parts_loose p hp) d.files hd.files m _) ?_
    rintro _ _ ⟨rfl, u, e, hu, rfl⟩
    by_cases he : e = 0
    · simp only [aset, he, lay, iaddr_node, pnode, wk3, onStO, bareL, toCl, onApO, chunks, wk, emb, unAgg, ares, aresL, ares1, tupled, forall_const, Nat.reduceAdd, Nat.reduceSub, Nat.reduceMul, Nat.reduceLeDiff, Nat.reduceEqDiff, Nat.reduceBEq, Int.reduceLE, Int.reduceLT, Int.reduceEq, Int.reduceNe, Int.reduceAdd, Int.reduceSub, Int.reduceToNat, Int.reduceNeg, ↓reduceIte, reduceCtorEq, cellsOf, cellA, lay, fillA]
      refine CT_ok (filesL l hl i u (by have := hu.len; omega) _) ?_
      rintro _ _ ⟨rfl, rfl⟩
      simp only [outA, asets, lay, iaddr_node, pnode, wk3, onStO, bareL, toCl, onApO, chunks, wk, emb, unAgg, ares, aresL, ares1, tupled, forall_const, Nat.reduceAdd, Nat.reduceSub, Nat.reduceMul, Nat.reduceLeDiff, Nat.reduceEqDiff, Nat.reduceBEq, Int.reduceLE, Int.reduceLT, Int.reduceEq, Int.reduceNe, Int.reduceAdd, Int.reduceSub, Int.reduceToNat, Int.reduceNeg, ↓reduceIte, reduceCtorEq, cellsOf, cellA, lay, fillA]
      refine WT_drawE ?_
      refine WDT_more 0 ?_
      simp only [lay, iaddr_node, pnode, wk3, onStO, bareL, toCl, onApO, chunks, wk, emb, unAgg, ares, aresL, ares1, tupled, forall_const, Nat.reduceAdd, Nat.reduceSub, Nat.reduceMul, Nat.reduceLeDiff, Nat.reduceEqDiff, Nat.reduceBEq, Int.reduceLE, Int.reduceLT, Int.reduceEq, Int.reduceNe, Int.reduceAdd, Int.reduceSub, Int.reduceToNat, Int.reduceNeg, ↓reduceIte, reduceCtorEq, cellsOf, cellA, lay, fillA]
      refine ⟨by omega, by rfl, ?_⟩
      exact KWk_bare (told_bare nx (filesA l i u).1 (filesA l i u).2 0) ⟨put u hu, rfl⟩
    · simp only [aset, he, lay, iaddr_node, pnode, wk3, onStO, bareL, toCl, onApO, chunks, wk, emb, unAgg, ares, aresL, ares1, tupled, forall_const, Nat.reduceAdd, Nat.reduceSub, Nat.reduceMul, Nat.reduceLeDiff, Nat.reduceEqDiff, Nat.reduceBEq, Int.reduceLE, Int.reduceLT, Int.reduceEq, Int.reduceNe, Int.reduceAdd, Int.reduceSub, Int.reduceToNat, Int.reduceNeg, ↓reduceIte, reduceCtorEq, cellsOf, cellA, lay, fillA]
      refine CT_ok (tells86 nx l e _) ?_
      rintro _ _ ⟨rfl, rfl⟩
      simp only [toldA, poolC, ansC, asets, lay, iaddr_node, pnode, wk3, onStO, bareL, toCl, onApO, chunks, wk, emb, unAgg, ares, aresL, ares1, tupled, forall_const, Nat.reduceAdd, Nat.reduceSub, Nat.reduceMul, Nat.reduceLeDiff, Nat.reduceEqDiff, Nat.reduceBEq, Int.reduceLE, Int.reduceLT, Int.reduceEq, Int.reduceNe, Int.reduceAdd, Int.reduceSub, Int.reduceToNat, Int.reduceNeg, ↓reduceIte, reduceCtorEq, cellsOf, cellA, lay, fillA]
      exact KWk_bare (told_bare nx l e 0) ⟨told e, rfl⟩
end Go.Proofs.YtemjlopoffjmpaaGreat.Abs
