/-
  Part 3 of the proof: no condition. (Parts of the abstract layer, of the program's functions in its form, and of their contracts.)
-/
import Derived.Test.YtemjlopoffjmpaaWk
import Derived.Test.YtemjlopoffjmpaaWk3
import Derived.Test.YtemjlopoffjmpaaSM2
import Derived.Test.YtemjlopoffjmpaaSM1
import Derived.Test.YtemjlopoffjmpaaAbs36
import Derived.Test.YtemjlopoffjmpaaAbs39
import Derived.Test.YtemjlopoffjmpaaAbs38
import Derived.Test.YtemjlopoffjmpaaAbs27
import Derived.Lib.Join
set_option linter.unusedSimpArgs false
set_option linter.unusedVariables false
namespace Go.Proofs.Ytemjlopoffjmpaa.Abs
open Go Go.Proofs

/-- A step that changes files. -/
def editA (k i n : Int) (p q t : List UInt8) : AV := .agg [.int .i64 k, .int .i64 i, .int .i64 n, .int .i64 0, .int .i64 0, .str p, .str q, .str t, .emp]
def EditR (l : List UInt8) (n : Int) (x : AV) (H' : AH) : Prop := ∃ (k i m n' : Int) (p q t : List UInt8), p.length ≤ 1000000 ∧ q.length ≤ 1000000 ∧ t.length ≤ 1000000 ∧ n ≤ n' ∧ x = editA k i m p q t ∧ H' = picksH l n'

theorem KWk_edit {l : List UInt8} {n k i m n' : Int} {p q t : List UInt8} {R : AH} (hp : p.length ≤ 1000000) (hq : q.length ≤ 1000000) (ht : t.length ≤ 1000000) (hn : n ≤ n') :
    KWk 1 (EditR l n) (.agg [.int .i64 k, .int .i64 i, .int .i64 m, .int .i64 0, .int .i64 0, .str p, .str q, .str t, .emp]) (some [[.fz (l.map pbyte), .int .i64 n']] :: R) := by
  refine ⟨_, _, ?_, k, i, m, n', p, q, t, hp, hq, ht, hn, rfl, rfl⟩
  have h := Wk_forget (n0 := 1) (fr := [editA k i m p q t]) (H := some [[.fz (l.map pbyte), .int .i64 n']] :: R) 1 (Nat.le_refl _)
  simpa [mapH, renL, ren, editA, picksH] using h
theorem path_at (l : List UInt8) (n : Int) (hn : 0 ≤ n) (hl : l.length ≤ 1000000) (R : AH) :
    C Try.prog 37 [.ptr 0 0 0 1] (some [[.fz (l.map pbyte), .int .i64 n]] :: R) (fun x H' => ∃ (p : List UInt8) (n' : Int), x = .str p ∧ p.length ≤ 11 ∧ n ≤ n' ∧ H' = some [[.fz (l.map pbyte), .int .i64 n']] :: R) := by
  refine C_call (K0 := fun x H' => ∃ (p : List UInt8) (n' : Int), x = .str p ∧ p.length ≤ 11 ∧ n ≤ n' ∧ n' ≤ n + 1 ∧ H' = picksH l n') [0] (by simp) (by simp) ?_ ?_
  · exact path_spec l n hn hl
  · rintro _ _ ⟨p, n', rfl, h1, h2, h3, rfl⟩
    exact ⟨Nat.le_refl _, p, n', rfl, h1, h2, by simp [back, setAll, picksH, renO, renL, ren]⟩
section
variable {c : Nat} {late : List Loc → List Loc → Prop} {K : List Nat → Nat → AV → AH → Prop} {t : Tag K}
theorem CFT_num (l : List UInt8) (n k : Int) (hn : 0 ≤ n) (hl : l.length ≤ 1000000) {R : AH} (hc : 0 < c ∧ c ≤ R.length + 1) (hlate : late [.con 0] [.con 0, .len 0])
    (hk : ∀ m n' : Int, 0 ≤ m → (1 ≤ k → m < k) → (k < 1 → m = 0) → n ≤ n' → K [0] c (.int .i64 m) (some [[.fz (l.map pbyte), .int .i64 n']] :: R)) :
    CFT Try.prog 24 [.ptr 0 0 0 1, .int .i64 k] c (some [[.fz (l.map pbyte), .int .i64 n]] :: R) late K t := by
  refine CFT_ok [0] 0 (num_spec l n k hn hl) (by simp; omega) hlate ?_
  rintro _ _ ⟨m, n', rfl, h1, h2, h3, h4, h5, rfl⟩
  have := hk m n' h1 h2 h3 h4
  refine ⟨by simp [picksH], ?_⟩
  simpa [setAll, picksH, renO, renL, ren] using this
theorem CFT_path (l : List UInt8) (n : Int) (hn : 0 ≤ n) (hl : l.length ≤ 1000000) {R : AH} (hc : 0 < c ∧ c ≤ R.length + 1) (hlate : late [.con 0] [.con 0, .len 0])
    (hk : ∀ (p : List UInt8) (n' : Int), p.length ≤ 11 → n ≤ n' → K [0] c (.str p) (some [[.fz (l.map pbyte), .int .i64 n']] :: R)) :
    CFT Try.prog 37 [.ptr 0 0 0 1] c (some [[.fz (l.map pbyte), .int .i64 n]] :: R) late K t := by
  refine CFT_ok [0] 0 (path_spec l n hn hl) (by simp; omega) hlate ?_
  rintro _ _ ⟨m, n', rfl, h1, h2, h3, rfl⟩
  have := hk m n' h1 h2
  refine ⟨by simp [picksH], ?_⟩
  simpa [setAll, picksH, renO, renL, ren] using this
theorem CFT_text (l : List UInt8) (n : Int) (hn : 0 ≤ n) (hl : l.length ≤ 1000000) {R : AH} (hc : 0 < c ∧ c ≤ R.length + 1) (hlate : late [.con 0] [.con 0, .len 0])
    (hk : ∀ (p : List UInt8) (n' : Int), p.length ≤ 129 → n ≤ n' → K [0] c (.str p) (some [[.fz (l.map pbyte), .int .i64 n']] :: R)) :
    CFT Try.prog 38 [.ptr 0 0 0 1] c (some [[.fz (l.map pbyte), .int .i64 n]] :: R) late K t := by
  refine CFT_ok [0] 0 (text_spec l n hn hl) (by simp; omega) hlate ?_
  rintro _ _ ⟨m, n', rfl, h1, h2, h3, rfl⟩
  have := hk m n' h1 h2
  refine ⟨by simp [picksH], ?_⟩
  simpa [setAll, picksH, renO, renL, ren] using this
end

theorem ints_get (vs : List Int) (m : Int) (h0 : 0 ≤ m) (h : m < vs.length) : ∃ v, (vs.map fun v => [AV.int .i64 v])[m.toNat]? = some [AV.int .i64 v] := by
  refine ⟨vs[m.toNat]'(by omega), ?_⟩
  rw [List.getElem?_map, List.getElem?_eq_getElem (by omega), Option.map_some]
theorem edit_spec (l : List UInt8) (n i : Int) (hn : 0 ≤ n) (hl : l.length ≤ 1000000) :
    C Try.prog 13 [.ptr 0 0 0 1, .int .i64 i] (picksH l n) (EditR l n) := by
  refine C_body' d13 rfl (WT_ok ?_)
  unfold c13
  simp only [picksH, iaddr_node, pnode, wk3, onStO, bareL, toCl, chunks, wk, emb, unAgg, ares, aresL, ares1, tupled, forall_const, Nat.reduceAdd, Nat.reduceSub, Nat.reduceMul, Nat.reduceLeDiff, Nat.reduceEqDiff, Nat.reduceBEq, Int.reduceLE, Int.reduceLT, Int.reduceEq, Int.reduceNe, Int.reduceAdd, Int.reduceSub, Int.reduceToNat, Int.reduceNeg, ↓reduceIte, reduceCtorEq, cellsOf, cellA, lay, fillA]
  refine WT_drawE ?_
  refine WDT_more 2 ?_
  simp only [picksH, lay, iaddr_node, pnode, wk3, onStO, bareL, toCl, chunks, wk, emb, unAgg, ares, aresL, ares1, tupled, forall_const, Nat.reduceAdd, Nat.reduceSub, Nat.reduceMul, Nat.reduceLeDiff, Nat.reduceEqDiff, Nat.reduceBEq, Int.reduceLE, Int.reduceLT, Int.reduceEq, Int.reduceNe, Int.reduceAdd, Int.reduceSub, Int.reduceToNat, Int.reduceNeg, ↓reduceIte, reduceCtorEq, cellsOf, cellA, lay, fillA]
  refine ⟨by omega, by omega, ?_⟩
  refine CFT_num l n 12 hn hl (by simp) ⟨by rfl, by rfl⟩ ?_
  intro m n' h1 h2 h3 h4
  have g1 : m < 12 := h2 (by omega)
  obtain ⟨v, hv⟩ := ints_get [1, 1, 1, 2, 3, 3, 4, 4, 4, 5, 1, 4] m h1 g1
  simp only [List.map_cons, List.map_nil] at hv
  simp only [ren, renL, h1, g1, hv, lay, iaddr_node, pnode, wk3, onStO, bareL, toCl, chunks, wk, emb, unAgg, ares, aresL, ares1, tupled, forall_const, Nat.reduceAdd, Nat.reduceSub, Nat.reduceMul, Nat.reduceLeDiff, Nat.reduceEqDiff, Nat.reduceBEq, Int.reduceLE, Int.reduceLT, Int.reduceEq, Int.reduceNe, Int.reduceAdd, Int.reduceSub, Int.reduceToNat, Int.reduceNeg, ↓reduceIte, reduceCtorEq, cellsOf, cellA, lay, fillA]
  refine ⟨g1, ?_⟩
  refine CFT_path l n' (by omega) hl (by simp) ⟨by rfl, by rfl⟩ ?_
  intro p n1 hp hn1
  simp only [ren, renL, lay, iaddr_node, pnode, wk3, onStO, bareL, toCl, chunks, wk, emb, unAgg, ares, aresL, ares1, tupled, forall_const, Nat.reduceAdd, Nat.reduceSub, Nat.reduceMul, Nat.reduceLeDiff, Nat.reduceEqDiff, Nat.reduceBEq, Int.reduceLE, Int.reduceLT, Int.reduceEq, Int.reduceNe, Int.reduceAdd, Int.reduceSub, Int.reduceToNat, Int.reduceNeg, ↓reduceIte, reduceCtorEq, cellsOf, cellA, lay, fillA]
  refine ⟨by rfl, ?_⟩
  by_cases v1 : v = 1
  · simp only [v1, lay, iaddr_node, pnode, wk3, onStO, bareL, toCl, chunks, wk, emb, unAgg, ares, aresL, ares1, tupled, forall_const, Nat.reduceAdd, Nat.reduceSub, Nat.reduceMul, Nat.reduceLeDiff, Nat.reduceEqDiff, Nat.reduceBEq, Int.reduceLE, Int.reduceLT, Int.reduceEq, Int.reduceNe, Int.reduceAdd, Int.reduceSub, Int.reduceToNat, Int.reduceNeg, ↓reduceIte, reduceCtorEq, cellsOf, cellA, lay, fillA]
    refine CT_ok (num_at l n1 2 (by omega) hl _) ?_
    rintro _ H ⟨m2, n2, rfl, k1, k2, k3, k4, _, rfl⟩
    simp only [lay, iaddr_node, pnode, wk3, onStO, bareL, toCl, chunks, wk, emb, unAgg, ares, aresL, ares1, tupled, forall_const, Nat.reduceAdd, Nat.reduceSub, Nat.reduceMul, Nat.reduceLeDiff, Nat.reduceEqDiff, Nat.reduceBEq, Int.reduceLE, Int.reduceLT, Int.reduceEq, Int.reduceNe, Int.reduceAdd, Int.reduceSub, Int.reduceToNat, Int.reduceNeg, ↓reduceIte, reduceCtorEq, cellsOf, cellA, lay, fillA]
    refine CT_ok (num_at l n2 16 (by omega) hl _) ?_
    rintro _ H ⟨m3, n3, rfl, j1, j2, j3, j4, _, rfl⟩
    simp only [lay, iaddr_node, pnode, wk3, onStO, bareL, toCl, chunks, wk, emb, unAgg, ares, aresL, ares1, tupled, forall_const, Nat.reduceAdd, Nat.reduceSub, Nat.reduceMul, Nat.reduceLeDiff, Nat.reduceEqDiff, Nat.reduceBEq, Int.reduceLE, Int.reduceLT, Int.reduceEq, Int.reduceNe, Int.reduceAdd, Int.reduceSub, Int.reduceToNat, Int.reduceNeg, ↓reduceIte, reduceCtorEq, cellsOf, cellA, lay, fillA]
    refine guard_both ?_ ?_ <;> intro b <;> simp only [hy] at b
    · simp only [b, lay, iaddr_node, pnode, wk3, onStO, bareL, toCl, chunks, wk, emb, unAgg, ares, aresL, ares1, tupled, forall_const, Nat.reduceAdd, Nat.reduceSub, Nat.reduceMul, Nat.reduceLeDiff, Nat.reduceEqDiff, Nat.reduceBEq, Int.reduceLE, Int.reduceLT, Int.reduceEq, Int.reduceNe, Int.reduceAdd, Int.reduceSub, Int.reduceToNat, Int.reduceNeg, ↓reduceIte, reduceCtorEq, cellsOf, cellA, lay, fillA]
      refine CT_ok (num_at l n3 5 (by omega) hl _) ?_
      rintro _ H ⟨m4, n4, rfl, i1, i2, i3, i4, _, rfl⟩
      simp only [lay, iaddr_node, pnode, wk3, onStO, bareL, toCl, chunks, wk, emb, unAgg, ares, aresL, ares1, tupled, forall_const, Nat.reduceAdd, Nat.reduceSub, Nat.reduceMul, Nat.reduceLeDiff, Nat.reduceEqDiff, Nat.reduceBEq, Int.reduceLE, Int.reduceLT, Int.reduceEq, Int.reduceNe, Int.reduceAdd, Int.reduceSub, Int.reduceToNat, Int.reduceNeg, ↓reduceIte, reduceCtorEq, cellsOf, cellA, lay, fillA]
      exact KWk_edit (by omega) (by simp) (by simp) (by omega)
    · simp only [b, lay, iaddr_node, pnode, wk3, onStO, bareL, toCl, chunks, wk, emb, unAgg, ares, aresL, ares1, tupled, forall_const, Nat.reduceAdd, Nat.reduceSub, Nat.reduceMul, Nat.reduceLeDiff, Nat.reduceEqDiff, Nat.reduceBEq, Int.reduceLE, Int.reduceLT, Int.reduceEq, Int.reduceNe, Int.reduceAdd, Int.reduceSub, Int.reduceToNat, Int.reduceNeg, ↓reduceIte, reduceCtorEq, cellsOf, cellA, lay, fillA]
      exact KWk_edit (by omega) (by simp) (by simp) (by omega)
  by_cases v3 : v = 3
  · simp only [v3, lay, iaddr_node, pnode, wk3, onStO, bareL, toCl, chunks, wk, emb, unAgg, ares, aresL, ares1, tupled, forall_const, Nat.reduceAdd, Nat.reduceSub, Nat.reduceMul, Nat.reduceLeDiff, Nat.reduceEqDiff, Nat.reduceBEq, Int.reduceLE, Int.reduceLT, Int.reduceEq, Int.reduceNe, Int.reduceAdd, Int.reduceSub, Int.reduceToNat, Int.reduceNeg, ↓reduceIte, reduceCtorEq, cellsOf, cellA, lay, fillA]
    refine CT_ok (path_at l n1 (by omega) hl _) ?_
    rintro _ H ⟨q, n2, rfl, k1, k2, rfl⟩
    simp only [lay, iaddr_node, pnode, wk3, onStO, bareL, toCl, chunks, wk, emb, unAgg, ares, aresL, ares1, tupled, forall_const, Nat.reduceAdd, Nat.reduceSub, Nat.reduceMul, Nat.reduceLeDiff, Nat.reduceEqDiff, Nat.reduceBEq, Int.reduceLE, Int.reduceLT, Int.reduceEq, Int.reduceNe, Int.reduceAdd, Int.reduceSub, Int.reduceToNat, Int.reduceNeg, ↓reduceIte, reduceCtorEq, cellsOf, cellA, lay, fillA]
    exact KWk_edit (by omega) (by omega) (by simp) (by omega)
  by_cases v4 : v = 4
  · simp only [v4, lay, iaddr_node, pnode, wk3, onStO, bareL, toCl, chunks, wk, emb, unAgg, ares, aresL, ares1, tupled, forall_const, Nat.reduceAdd, Nat.reduceSub, Nat.reduceMul, Nat.reduceLeDiff, Nat.reduceEqDiff, Nat.reduceBEq, Int.reduceLE, Int.reduceLT, Int.reduceEq, Int.reduceNe, Int.reduceAdd, Int.reduceSub, Int.reduceToNat, Int.reduceNeg, ↓reduceIte, reduceCtorEq, cellsOf, cellA, lay, fillA]
    refine WT_drawE ?_
    refine WDT_more 1 ?_
    simp only [ren, renL, lay, iaddr_node, pnode, wk3, onStO, bareL, toCl, chunks, wk, emb, unAgg, ares, aresL, ares1, tupled, forall_const, Nat.reduceAdd, Nat.reduceSub, Nat.reduceMul, Nat.reduceLeDiff, Nat.reduceEqDiff, Nat.reduceBEq, Int.reduceLE, Int.reduceLT, Int.reduceEq, Int.reduceNe, Int.reduceAdd, Int.reduceSub, Int.reduceToNat, Int.reduceNeg, ↓reduceIte, reduceCtorEq, cellsOf, cellA, lay, fillA]
    refine ⟨by omega, ?_⟩
    refine CFT_num l n1 8 (by omega) hl (by simp) ⟨by rfl, by rfl⟩ ?_
    intro m2 n2 k1 k2 k3 k4
    have k5 : m2 < 8 := k2 (by omega)
    obtain ⟨u, hu⟩ := ints_get [0, 0, 1, 31, 32, 64, 100, 130] m2 k1 k5
    simp only [List.map_cons, List.map_nil] at hu
    simp only [ren, renL, k1, k5, hu, lay, iaddr_node, pnode, wk3, onStO, bareL, toCl, chunks, wk, emb, unAgg, ares, aresL, ares1, tupled, forall_const, Nat.reduceAdd, Nat.reduceSub, Nat.reduceMul, Nat.reduceLeDiff, Nat.reduceEqDiff, Nat.reduceBEq, Int.reduceLE, Int.reduceLT, Int.reduceEq, Int.reduceNe, Int.reduceAdd, Int.reduceSub, Int.reduceToNat, Int.reduceNeg, ↓reduceIte, reduceCtorEq, cellsOf, cellA, lay, fillA]
    refine ⟨k5, ?_⟩
    refine CFT_text l n2 (by omega) hl (by simp) ⟨by rfl, by rfl⟩ ?_
    intro q n3 hq hn3
    simp only [ren, renL, lay, iaddr_node, pnode, wk3, onStO, bareL, toCl, chunks, wk, emb, unAgg, ares, aresL, ares1, tupled, forall_const, Nat.reduceAdd, Nat.reduceSub, Nat.reduceMul, Nat.reduceLeDiff, Nat.reduceEqDiff, Nat.reduceBEq, Int.reduceLE, Int.reduceLT, Int.reduceEq, Int.reduceNe, Int.reduceAdd, Int.reduceSub, Int.reduceToNat, Int.reduceNeg, ↓reduceIte, reduceCtorEq, cellsOf, cellA, lay, fillA]
    refine ⟨by rfl, ?_⟩
    exact KWk_edit (by omega) (by simp) (by omega) (by omega)
  by_cases v5 : v = 5
  · simp only [v5, lay, iaddr_node, pnode, wk3, onStO, bareL, toCl, chunks, wk, emb, unAgg, ares, aresL, ares1, tupled, forall_const, Nat.reduceAdd, Nat.reduceSub, Nat.reduceMul, Nat.reduceLeDiff, Nat.reduceEqDiff, Nat.reduceBEq, Int.reduceLE, Int.reduceLT, Int.reduceEq, Int.reduceNe, Int.reduceAdd, Int.reduceSub, Int.reduceToNat, Int.reduceNeg, ↓reduceIte, reduceCtorEq, cellsOf, cellA, lay, fillA]
    refine CT_ok (num_at l n1 8 (by omega) hl _) ?_
    rintro _ H ⟨m2, n2, rfl, k1, k2, k3, k4, _, rfl⟩
    have k5 : m2 < 8 := k2 (by omega)
    obtain ⟨u, hu⟩ := ints_get [0, 1, 32, 33, 128, 129, 60, 64] m2 k1 k5
    simp only [List.map_cons, List.map_nil] at hu
    simp only [k1, k5, hu, lay, iaddr_node, pnode, wk3, onStO, bareL, toCl, chunks, wk, emb, unAgg, ares, aresL, ares1, tupled, forall_const, Nat.reduceAdd, Nat.reduceSub, Nat.reduceMul, Nat.reduceLeDiff, Nat.reduceEqDiff, Nat.reduceBEq, Int.reduceLE, Int.reduceLT, Int.reduceEq, Int.reduceNe, Int.reduceAdd, Int.reduceSub, Int.reduceToNat, Int.reduceNeg, ↓reduceIte, reduceCtorEq, cellsOf, cellA, lay, fillA]
    first | exact KWk_edit (by omega) (by simp) (by simp) (by omega) | exact ⟨k5, KWk_edit (by omega) (by simp) (by simp) (by omega)⟩
  · simp only [v1, v3, v4, v5, lay, iaddr_node, pnode, wk3, onStO, bareL, toCl, chunks, wk, emb, unAgg, ares, aresL, ares1, tupled, forall_const, Nat.reduceAdd, Nat.reduceSub, Nat.reduceMul, Nat.reduceLeDiff, Nat.reduceEqDiff, Nat.reduceBEq, Int.reduceLE, Int.reduceLT, Int.reduceEq, Int.reduceNe, Int.reduceAdd, Int.reduceSub, Int.reduceToNat, Int.reduceNeg, ↓reduceIte, reduceCtorEq, cellsOf, cellA, lay, fillA]
    exact KWk_edit (by omega) (by simp) (by simp) (by omega)
end Go.Proofs.Ytemjlopoffjmpaa.Abs
set_option linter.unusedSimpArgs false
set_option linter.unusedVariables false
namespace Go.Proofs.Ytemjlopoffjmpaa.Abs
open Go Go.Proofs

theorem grown_spec (l : List UInt8) (n : Int) (s : List Node) (hw : Wf s) (most : Nat) (hm : most ≤ 1000000) (hn : 0 ≤ n) (hl : l.length ≤ 1000000) :
    C Try.prog 45 [.ptr 0 0 0 1, aset s, .int .i64 most] (picksH l n) (fun x H' => ∃ t n', Wf t ∧ n ≤ n' ∧ x = aset t ∧ H' = picksH l n') := by
  refine C_body d45 rfl (WT_ok ?_)
  unfold c45
  simp only [picksH, aset, iaddr_node, pnode, wk3, onStO, bareL, toCl, chunks, wk, emb, unAgg, ares, aresL, ares1, tupled, forall_const, Nat.reduceAdd, Nat.reduceSub, Nat.reduceMul, Nat.reduceLeDiff, Nat.reduceEqDiff, Nat.reduceBEq, Int.reduceLE, Int.reduceLT, Int.reduceEq, Int.reduceNe, Int.reduceAdd, Int.reduceSub, Int.reduceToNat, Int.reduceNeg, ↓reduceIte, reduceCtorEq, cellsOf, cellA, lay, fillA]
  refine WT_loop (W_loop (fun nn fr H' => ∃ (j : Nat) (t : List Node) (n' : Int), Wf t ∧ n ≤ n' ∧ j ≤ most ∧ nn = most - j ∧ H' = [some [[.fz (l.map pbyte), .int .i64 n']]] ∧ fr = [.ptr 0 0 0 1, .fz (t.map pnode), .int .i64 most, .top, .top, .top, .emp, .int .i64 j] ++ List.replicate 18 .top) most ⟨0, s, n, hw, by omega, by omega, rfl, rfl, rfl⟩ ?_)
  rintro nn fr H ⟨j, t, n', ht, hn', hj, rfl, rfl, rfl⟩
  refine WT_ok ?_
  simp only [iaddr_node, pnode, wk3, onStO, bareL, toCl, chunks, wk, emb, unAgg, ares, aresL, ares1, tupled, forall_const, Nat.reduceAdd, Nat.reduceSub, Nat.reduceMul, Nat.reduceLeDiff, Nat.reduceEqDiff, Nat.reduceBEq, Int.reduceLE, Int.reduceLT, Int.reduceEq, Int.reduceNe, Int.reduceAdd, Int.reduceSub, Int.reduceToNat, Int.reduceNeg, ↓reduceIte, reduceCtorEq, cellsOf, cellA, lay, fillA]
  by_cases h : (j : Int) < most
  · simp only [h, iaddr_node, pnode, wk3, onStO, bareL, toCl, chunks, wk, emb, unAgg, ares, aresL, ares1, tupled, forall_const, Nat.reduceAdd, Nat.reduceSub, Nat.reduceMul, Nat.reduceLeDiff, Nat.reduceEqDiff, Nat.reduceBEq, Int.reduceLE, Int.reduceLT, Int.reduceEq, Int.reduceNe, Int.reduceAdd, Int.reduceSub, Int.reduceToNat, Int.reduceNeg, ↓reduceIte, reduceCtorEq, cellsOf, cellA, lay, fillA]
    refine CT_ok (over_spec (l.map pbyte) n') ?_
    rintro _ _ ⟨rfl, rfl⟩
    simp only [h, iaddr_node, pnode, wk3, onStO, bareL, toCl, chunks, wk, emb, unAgg, ares, aresL, ares1, tupled, forall_const, Nat.reduceAdd, Nat.reduceSub, Nat.reduceMul, Nat.reduceLeDiff, Nat.reduceEqDiff, Nat.reduceBEq, Int.reduceLE, Int.reduceLT, Int.reduceEq, Int.reduceNe, Int.reduceAdd, Int.reduceSub, Int.reduceToNat, Int.reduceNeg, ↓reduceIte, reduceCtorEq, cellsOf, cellA, lay, fillA]
    refine guard_both ?_ ?_ <;> intro h2 <;> simp only [hy] at h2
    · simp only [h, h2, iaddr_node, pnode, wk3, onStO, bareL, toCl, chunks, wk, emb, unAgg, ares, aresL, ares1, tupled, forall_const, Nat.reduceAdd, Nat.reduceSub, Nat.reduceMul, Nat.reduceLeDiff, Nat.reduceEqDiff, Nat.reduceBEq, Int.reduceLE, Int.reduceLT, Int.reduceEq, Int.reduceNe, Int.reduceAdd, Int.reduceSub, Int.reduceToNat, Int.reduceNeg, ↓reduceIte, reduceCtorEq, cellsOf, cellA, lay, fillA]
      refine CT_ok (edit_spec l n' 1 (by omega) hl) ?_
      rintro _ _ ⟨k, i, m, n2, p, q, e, hp, hq, he, hn2, rfl, rfl⟩
      simp only [editA, picksH, iaddr_node, pnode, wk3, onStO, bareL, toCl, chunks, wk, emb, unAgg, ares, aresL, ares1, tupled, forall_const, Nat.reduceAdd, Nat.reduceSub, Nat.reduceMul, Nat.reduceLeDiff, Nat.reduceEqDiff, Nat.reduceBEq, Int.reduceLE, Int.reduceLT, Int.reduceEq, Int.reduceNe, Int.reduceAdd, Int.reduceSub, Int.reduceToNat, Int.reduceNeg, ↓reduceIte, reduceCtorEq, cellsOf, cellA, lay, fillA]
      refine CT_ok (done_spec t ht k i m 0 0 p q e hp hq he _) ?_
      rintro _ _ ⟨rfl, u, er, hu, rfl⟩
      have w2 : IntKind.i64.wrap ((j : Int) + 1) = (j : Int) + 1 := IntWalk.i64_in _ (by omega)
      simp only [aset, w2, iaddr_node, pnode, wk3, onStO, bareL, toCl, chunks, wk, emb, unAgg, ares, aresL, ares1, tupled, forall_const, Nat.reduceAdd, Nat.reduceSub, Nat.reduceMul, Nat.reduceLeDiff, Nat.reduceEqDiff, Nat.reduceBEq, Int.reduceLE, Int.reduceLT, Int.reduceEq, Int.reduceNe, Int.reduceAdd, Int.reduceSub, Int.reduceToNat, Int.reduceNeg, ↓reduceIte, reduceCtorEq, cellsOf, cellA, lay, fillA]
      refine QLoop_go (n' := most - (j + 1)) (by omega) ⟨j + 1, u, n2, hu, by omega, by omega, rfl, rfl, rfl⟩ ?_
      simp only [List.replicate_succ, List.replicate_zero, List.cons_append, List.nil_append, Tops_top, Tops_same, Tops_nil, Int.natCast_add, Int.natCast_one]
    · simp only [h, h2, iaddr_node, pnode, wk3, onStO, bareL, toCl, chunks, wk, emb, unAgg, ares, aresL, ares1, tupled, forall_const, Nat.reduceAdd, Nat.reduceSub, Nat.reduceMul, Nat.reduceLeDiff, Nat.reduceEqDiff, Nat.reduceBEq, Int.reduceLE, Int.reduceLT, Int.reduceEq, Int.reduceNe, Int.reduceAdd, Int.reduceSub, Int.reduceToNat, Int.reduceNeg, ↓reduceIte, reduceCtorEq, cellsOf, cellA, lay, fillA]
      exact ⟨t, n', ht, hn', rfl, rfl⟩
  · simp only [h, iaddr_node, pnode, wk3, onStO, bareL, toCl, chunks, wk, emb, unAgg, ares, aresL, ares1, tupled, forall_const, Nat.reduceAdd, Nat.reduceSub, Nat.reduceMul, Nat.reduceLeDiff, Nat.reduceEqDiff, Nat.reduceBEq, Int.reduceLE, Int.reduceLT, Int.reduceEq, Int.reduceNe, Int.reduceAdd, Int.reduceSub, Int.reduceToNat, Int.reduceNeg, ↓reduceIte, reduceCtorEq, cellsOf, cellA, lay, fillA]
    exact ⟨t, n', ht, hn', rfl, rfl⟩

theorem newA_get (i : Nat) (h1 : 1 ≤ i) (h8 : i < 8) : newA.getD i default = ⟨0, 0, [], [], 0⟩ := by
  rcases (by omega : i = 1 ∨ i = 2 ∨ i = 3 ∨ i = 4 ∨ i = 5 ∨ i = 6 ∨ i = 7) with rfl | rfl | rfl | rfl | rfl | rfl | rfl <;> rfl
theorem newA_wf : Wf newA := by
  refine ⟨rfl, rfl, fun i h1 h8 => ?_, fun i k h1 h8 _ _ hk => ?_, fun i => i, fun i h1 h8 hk => ?_⟩
  · rw [newA_get i h1 h8]
    exact ⟨rfl, .inl rfl, fun _ => rfl, fun e => absurd e (by decide), fun e => absurd rfl e, ⟨by decide, by decide⟩, fun e => absurd rfl e, by show 0 ≤ 128; omega⟩
  · rw [newA_get i h1 h8] at hk; exact absurd rfl hk
  · rw [newA_get i h1 h8] at hk; exact absurd rfl hk
theorem set_spec (l : List UInt8) (n : Int) (most : Nat) (hm : most ≤ 1000000) (hn : 0 ≤ n) (hl : l.length ≤ 1000000) :
    C Try.prog 16 [.ptr 0 0 0 1, .int .i64 most] (picksH l n) (fun x H' => ∃ t n', Wf t ∧ n ≤ n' ∧ x = aset t ∧ H' = picksH l n') := by
  refine C_body d16 rfl (WT_ok ?_)
  unfold c16
  simp only [iaddr_node, pnode, wk3, onStO, bareL, toCl, chunks, wk, emb, unAgg, ares, aresL, ares1, tupled, forall_const, Nat.reduceAdd, Nat.reduceSub, Nat.reduceMul, Nat.reduceLeDiff, Nat.reduceEqDiff, Nat.reduceBEq, Int.reduceLE, Int.reduceLT, Int.reduceEq, Int.reduceNe, Int.reduceAdd, Int.reduceSub, Int.reduceToNat, Int.reduceNeg, ↓reduceIte, reduceCtorEq, cellsOf, cellA, lay, fillA]
  refine CT_ok (new_spec _) ?_
  rintro _ _ ⟨rfl, rfl⟩
  simp only [iaddr_node, pnode, wk3, onStO, bareL, toCl, chunks, wk, emb, unAgg, ares, aresL, ares1, tupled, forall_const, Nat.reduceAdd, Nat.reduceSub, Nat.reduceMul, Nat.reduceLeDiff, Nat.reduceEqDiff, Nat.reduceBEq, Int.reduceLE, Int.reduceLT, Int.reduceEq, Int.reduceNe, Int.reduceAdd, Int.reduceSub, Int.reduceToNat, Int.reduceNeg, ↓reduceIte, reduceCtorEq, cellsOf, cellA, lay, fillA]
  refine CT_ok (grown_spec l n newA newA_wf most hm hn hl) ?_
  rintro _ _ ⟨t, n', ht, hn', rfl, rfl⟩
  simp only [iaddr_node, pnode, wk3, onStO, bareL, toCl, chunks, wk, emb, unAgg, ares, aresL, ares1, tupled, forall_const, Nat.reduceAdd, Nat.reduceSub, Nat.reduceMul, Nat.reduceLeDiff, Nat.reduceEqDiff, Nat.reduceBEq, Int.reduceLE, Int.reduceLT, Int.reduceEq, Int.reduceNe, Int.reduceAdd, Int.reduceSub, Int.reduceToNat, Int.reduceNeg, ↓reduceIte, reduceCtorEq, cellsOf, cellA, lay, fillA]
  exact ⟨t, n', ht, hn', rfl, rfl⟩
end Go.Proofs.Ytemjlopoffjmpaa.Abs
set_option linter.unusedSimpArgs false
set_option linter.unusedVariables false
namespace Go.Proofs.Ytemjlopoffjmpaa.Abs
open Go Go.Proofs

/-- slices.Clone of what is empty: an object without elements. -/
theorem clone_emp0 : C Try.prog 40 [.emp] [] (fun x H' => x = .own 0 5 0 0 0 ∧ H' = [some []]) := by
  refine C_body' d40 rfl (WT_ok ?_)
  unfold c40
  simp only [wk3, onStO, bareL, toCl, chunks, wk, iaddrV_map, emb, unAgg, ares, aresL, ares1, tupled, forall_const, Nat.reduceAdd, Nat.reduceSub, Nat.reduceMul, Nat.reduceLeDiff, Nat.reduceEqDiff, Nat.reduceBEq, Int.reduceLE, Int.reduceLT, Int.reduceEq, Int.reduceNe, Int.reduceAdd, Int.reduceSub, Int.reduceToNat, Int.reduceNeg, ↓reduceIte, reduceCtorEq, cellsOf, cellA, lay, fillA]
  intro b
  cases b
  · simp only [wk3, onStO, bareL, toCl, chunks, wk, iaddrV_map, emb, unAgg, ares, aresL, ares1, tupled, forall_const, Nat.reduceAdd, Nat.reduceSub, Nat.reduceMul, Nat.reduceLeDiff, Nat.reduceEqDiff, Nat.reduceBEq, Int.reduceLE, Int.reduceLT, Int.reduceEq, Int.reduceNe, Int.reduceAdd, Int.reduceSub, Int.reduceToNat, Int.reduceNeg, ↓reduceIte, reduceCtorEq, cellsOf, cellA, lay, fillA]
    exact ⟨_, _, Wk.refl _ _ _, rfl, rfl⟩
  · simp only [wk3, onStO, bareL, toCl, chunks, wk, iaddrV_map, emb, unAgg, ares, aresL, ares1, tupled, forall_const, Nat.reduceAdd, Nat.reduceSub, Nat.reduceMul, Nat.reduceLeDiff, Nat.reduceEqDiff, Nat.reduceBEq, Int.reduceLE, Int.reduceLT, Int.reduceEq, Int.reduceNe, Int.reduceAdd, Int.reduceSub, Int.reduceToNat, Int.reduceNeg, ↓reduceIte, reduceCtorEq, cellsOf, cellA, lay, fillA]
    exact ⟨_, _, Wk_emp 5, rfl, rfl⟩
theorem clone2_emp0 : C Try.prog 41 [.emp] [] (fun x H' => x = .own 0 5 0 0 0 ∧ H' = [some []]) := by
  refine C_body' d41 rfl (WT_ok ?_)
  unfold c41
  simp only [wk3, onStO, bareL, toCl, chunks, wk, iaddrV_map, emb, unAgg, ares, aresL, ares1, tupled, forall_const, Nat.reduceAdd, Nat.reduceSub, Nat.reduceMul, Nat.reduceLeDiff, Nat.reduceEqDiff, Nat.reduceBEq, Int.reduceLE, Int.reduceLT, Int.reduceEq, Int.reduceNe, Int.reduceAdd, Int.reduceSub, Int.reduceToNat, Int.reduceNeg, ↓reduceIte, reduceCtorEq, cellsOf, cellA, lay, fillA]
  intro b
  cases b
  · simp only [wk3, onStO, bareL, toCl, chunks, wk, iaddrV_map, emb, unAgg, ares, aresL, ares1, tupled, forall_const, Nat.reduceAdd, Nat.reduceSub, Nat.reduceMul, Nat.reduceLeDiff, Nat.reduceEqDiff, Nat.reduceBEq, Int.reduceLE, Int.reduceLT, Int.reduceEq, Int.reduceNe, Int.reduceAdd, Int.reduceSub, Int.reduceToNat, Int.reduceNeg, ↓reduceIte, reduceCtorEq, cellsOf, cellA, lay, fillA]
    exact ⟨_, _, Wk.refl _ _ _, rfl, rfl⟩
  · simp only [wk3, onStO, bareL, toCl, chunks, wk, iaddrV_map, emb, unAgg, ares, aresL, ares1, tupled, forall_const, Nat.reduceAdd, Nat.reduceSub, Nat.reduceMul, Nat.reduceLeDiff, Nat.reduceEqDiff, Nat.reduceBEq, Int.reduceLE, Int.reduceLT, Int.reduceEq, Int.reduceNe, Int.reduceAdd, Int.reduceSub, Int.reduceToNat, Int.reduceNeg, ↓reduceIte, reduceCtorEq, cellsOf, cellA, lay, fillA]
    exact ⟨_, _, Wk_emp 5, rfl, rfl⟩
theorem clone_emp (H : AH) : C Try.prog 40 [.emp] H (fun x H' => x = .own H.length 5 0 0 0 ∧ H' = H ++ [some []]) :=
  C_call [] List.nodup_nil (fun r hr => by cases hr) clone_emp0 (by rintro _ _ ⟨rfl, rfl⟩; exact ⟨Nat.zero_le _, by simp [ren, toCaller, back, setAll, renO]⟩)
theorem clone2_emp (H : AH) : C Try.prog 41 [.emp] H (fun x H' => x = .own H.length 5 0 0 0 ∧ H' = H ++ [some []]) :=
  C_call [] List.nodup_nil (fun r hr => by cases hr) clone2_emp0 (by rintro _ _ ⟨rfl, rfl⟩; exact ⟨Nat.zero_le _, by simp [ren, toCaller, back, setAll, renO]⟩)

/-- What is known of functions beside their text. -/
def orcC : CallF := fun f args H =>
  if f = 40 ∨ f = 41 then
    match args with
    | [.emp] => some (.own H.length 5 0 0 0, H ++ [some []])
    | _ => none
  else none
theorem orcC_ok : EvOk Try.prog orcC := by
  intro f args H x H' h
  unfold orcC at h
  split at h
  · rename_i hf
    split at h
    · cases h
      rcases hf with rfl | rfl
      · exact clone_emp H
      · exact clone2_emp H
    · cases h
  · cases h
end Go.Proofs.Ytemjlopoffjmpaa.Abs
set_option linter.unusedSimpArgs false
set_option linter.unusedVariables false
namespace Go.Proofs.Ytemjlopoffjmpaa.Abs
open Go Go.Proofs

def cellD (d : Dset) : List AV := [.int .i64 d.id, .int .i64 d.kind, .int .i64 d.origin, .int .i64 d.quota, aset d.files]

/-- slices.Clone of a list of one set. -/
theorem clone_one0 (d : Dset) : C Try.prog 40 [.fz [pdset d]] [] (fun x H' => x = .own 0 5 0 1 1 ∧ H' = [some [cellD d]]) := by
  refine C_body' d40 rfl (WT_ok ?_)
  unfold c40
  simp only [pdset, wk3, onStO, bareL, toCl, chunks, wk, iaddrV_map, emb, unAgg, ares, aresL, ares1, tupled, forall_const, Nat.reduceAdd, Nat.reduceSub, Nat.reduceMul, Nat.reduceLeDiff, Nat.reduceEqDiff, Nat.reduceBEq, Int.reduceLE, Int.reduceLT, Int.reduceEq, Int.reduceNe, Int.reduceAdd, Int.reduceSub, Int.reduceToNat, Int.reduceNeg, ↓reduceIte, reduceCtorEq, cellsOf, cellA, lay, fillA]
  exact ⟨_, _, Wk.refl _ _ _, rfl, rfl⟩
/-- slices.Clone of a set's files: the same rows, frozen. -/
theorem clone_set0 (x : Node) (s : List Node) (hs : (x :: s).length ≤ 1000000) : C Try.prog 41 [aset (x :: s)] [] (fun y H' => y = aset (x :: s) ∧ H' = []) := by
  refine C_body' d41 rfl (WT_ok ?_)
  unfold c41
  simp only [aset, wk3, onStO, bareL, toCl, chunks, wk, iaddrV_map, emb, unAgg, ares, aresL, ares1, tupled, forall_const, Nat.reduceAdd, Nat.reduceSub, Nat.reduceMul, Nat.reduceLeDiff, Nat.reduceEqDiff, Nat.reduceBEq, Int.reduceLE, Int.reduceLT, Int.reduceEq, Int.reduceNe, Int.reduceAdd, Int.reduceSub, Int.reduceToNat, Int.reduceNeg, ↓reduceIte, reduceCtorEq, cellsOf, cellA, lay, fillA]
  refine ⟨⟨?_, by simp at hs; omega, by simp at hs; omega⟩, ?_⟩
  · rw [Bool.and_eq_true]
    refine ⟨rfl, ?_⟩
    rw [List.all_eq_true]
    intro e he
    obtain ⟨r, hr, rfl⟩ := List.mem_map.1 he
    obtain ⟨z, _, rfl⟩ := List.mem_map.1 hr
    rfl
  · refine KWk_frozen 0 ((x :: s).map pnode) rfl (aset (x :: s)) ?_ ⟨rfl, rfl⟩
    simp only [frzL, frz, renL, ren, if_true, List.length_map, List.length_cons, Nat.zero_add, Nat.le_refl, and_self, List.drop_zero, aset]
    rw [List.take_of_length_le (by simp)]
theorem clone_set (x : Node) (s : List Node) (hs : (x :: s).length ≤ 1000000) (H : AH) : C Try.prog 41 [aset (x :: s)] H (fun y H' => y = aset (x :: s) ∧ H' = H) :=
  C_pure (K0 := fun y => y = aset (x :: s)) (clone_set0 x s hs) (fun τ => renL_bare τ _ (by simp [bareL, bare, aset])) (by rintro y rfl τ; simp [aset, ren]) H
theorem clone_one (d : Dset) (H : AH) : C Try.prog 40 [.fz [pdset d]] H (fun x H' => x = .own H.length 5 0 1 1 ∧ H' = H ++ [some [cellD d]]) :=
  C_call [] List.nodup_nil (fun r hr => by cases hr) (by simpa [renL, ren] using clone_one0 d) (by rintro _ _ ⟨rfl, rfl⟩; exact ⟨Nat.zero_le _, by simp [ren, toCaller, back, setAll, renO, cellD, renL, aset]⟩)
theorem KWk_first {K : AV → AH → Prop} {x : AV} {o : AObj} {G : AH} (hx : bare x = true) (ho : o.map (renL (upTo 1)) = o) (hk : K x [some o]) : KWk 1 K x (some o :: G) := by
  refine ⟨x, [some o], ?_, hk⟩
  have h1 := Wk_forget (n0 := 1) (fr := [x]) (H := some o :: G) 1 (Nat.le_refl _)
  rw [renL_bare _ _ (by simp [bareL, hx])] at h1
  have e : mapH (renL (upTo 1)) ((some o :: G).take 1) = [some o] := by
    simp only [List.take_succ_cons, List.take_zero, mapH, List.map_cons, List.map_nil, Option.map_some, ho]
  rwa [e] at h1
/-- The closures that look for an ID. -/
theorem isId44 (d : Dset) (i : Int) : C Try.prog 44 [.agg (cellD d), .ptr 0 0 0 1] [some [[.int .i64 i]]] (fun x H' => x = .bool (decide (d.id = i)) ∧ H' = [some [[.int .i64 i]]]) := by
  refine C_body' d44 rfl (WT_ok ?_)
  unfold c44
  simp only [cellD, aset, lay, wk, iaddrV_map, emb, unAgg, ares, aresL, ares1, tupled, forall_const, Nat.reduceAdd, Nat.reduceSub, Nat.reduceMul, Nat.reduceLeDiff, Nat.reduceEqDiff, Nat.reduceBEq, Int.reduceLE, Int.reduceLT, Int.reduceEq, Int.reduceNe, Int.reduceAdd, Int.reduceSub, Int.reduceToNat, Int.reduceNeg, ↓reduceIte, reduceCtorEq, cellsOf, cellA, lay, fillA]
  refine KWk_first (by simp [bare]) (by simp [renL, ren]) ⟨rfl, rfl⟩
theorem isId82 (d : Dset) (i : Int) : C Try.prog 82 [.agg (cellD d), .ptr 0 0 0 1] [some [[.int .i64 i]]] (fun x H' => x = .bool (decide (d.id = i)) ∧ H' = [some [[.int .i64 i]]]) := by
  refine C_body' d82 rfl (WT_ok ?_)
  unfold c82
  simp only [cellD, aset, lay, wk, iaddrV_map, emb, unAgg, ares, aresL, ares1, tupled, forall_const, Nat.reduceAdd, Nat.reduceSub, Nat.reduceMul, Nat.reduceLeDiff, Nat.reduceEqDiff, Nat.reduceBEq, Int.reduceLE, Int.reduceLT, Int.reduceEq, Int.reduceNe, Int.reduceAdd, Int.reduceSub, Int.reduceToNat, Int.reduceNeg, ↓reduceIte, reduceCtorEq, cellsOf, cellA, lay, fillA]
  refine KWk_first (by simp [bare]) (by simp [renL, ren]) ⟨rfl, rfl⟩
theorem isId44_at (d : Dset) (i : Int) (R : AH) : C Try.prog 44 [.agg (cellD d), .ptr 0 0 0 1] (some [[.int .i64 i]] :: R) (fun x H' => x = .bool (decide (d.id = i)) ∧ H' = some [[.int .i64 i]] :: R) :=
  C_call [0] (by simp) (by simp) (by simpa [renL, ren, toCallee, renO, cellD, aset, AH.at] using isId44 d i) (by rintro _ _ ⟨rfl, rfl⟩; exact ⟨Nat.le_refl _, by simp [ren], by simp [back, setAll, renO, renL, ren]⟩)
theorem isId82_at (d : Dset) (i : Int) (R : AH) : C Try.prog 82 [.agg (cellD d), .ptr 0 0 0 1] (some [[.int .i64 i]] :: R) (fun x H' => x = .bool (decide (d.id = i)) ∧ H' = some [[.int .i64 i]] :: R) :=
  C_call [0] (by simp) (by simp) (by simpa [renL, ren, toCallee, renO, cellD, aset, AH.at] using isId82 d i) (by rintro _ _ ⟨rfl, rfl⟩; exact ⟨Nat.le_refl _, by simp [ren], by simp [back, setAll, renO, renL, ren]⟩)
end Go.Proofs.Ytemjlopoffjmpaa.Abs
set_option linter.unusedSimpArgs false
set_option linter.unusedVariables false
namespace Go.Proofs.Ytemjlopoffjmpaa.Abs
open Go Go.Proofs

theorem Wk_empFz {n0 : Nat} {fr : List AV} {H : AH} (j : Nat) (h : fr[j]? = some .emp) : Wk n0 fr H (fr.set j (.fz [])) H := by
  intro E w vs hs hr
  refine ⟨E, LeN.refl _ _, hs, by rw [List.length_set]; exact hr.1, fun i c u hc hu => ?_⟩
  rw [List.getElem?_set] at hc
  by_cases hij : j = i
  · subst hij
    rw [if_pos rfl] at hc
    split at hc
    · cases hc
      obtain ⟨a, rfl⟩ := rep_emp (hr.2 j _ u h hu)
      exact .pure (x := .fz []) (.fz0 _ _)
    · cases hc
  · rw [if_neg hij] at hc
    exact hr.2 i c u hc hu
/-- A row that is written no more, all else forgotten. -/
theorem Wk_froz {fr fr' : List AV} {H : AH} (r : Nat) (es : List (List PV)) (hat : H.at r = some (es.map fun e => e.map emb)) (h : Tops fr' (renL (upTo 0) (frzL r es fr))) : Wk 0 fr H fr' [] := by
  have h1 := (Wk_freeze (n0 := 0) (fr := fr) r es hat).trans ((Wk_forget 0 (Nat.le_refl _)).trans (Wk_tops h))
  simpa [mapH] using h1

/-- All objects are forgotten. -/
theorem Wk_none {fr fr' : List AV} {H : AH} (h : Tops fr' (renL (upTo 0) fr)) : Wk 0 fr H fr' [] := by
  have h1 := (Wk_forget (n0 := 0) (fr := fr) (H := H) 0 (Nat.le_refl _)).trans (Wk_tops h)
  simpa [mapH] using h1
theorem Wk_froz1 {fr fr' : List AV} {o : AObj} {es : List (List PV)} {G : AH} (ho1 : o.map (frzL 1 es) = o) (ho2 : o.map (renL (upTo 1)) = o) (h : Tops fr' (renL (upTo 1) (frzL 1 es fr))) : Wk 0 fr (some o :: some (es.map fun e => e.map emb) :: G) fr' [some o] := by
  have h1 := (Wk_freeze (n0 := 0) (fr := fr) (H := some o :: some (es.map fun e => e.map emb) :: G) 1 es rfl).trans ((Wk_forget 1 (Nat.zero_le _)).trans (Wk_tops h))
  have e : mapH (renL (upTo 1)) ((mapH (frzL 1 es) ((some o :: some (es.map fun e => e.map emb) :: G).set 1 none)).take 1) = [some o] := by
    simp only [List.set_cons_succ, List.set_cons_zero, mapH, List.map_cons, Option.map_some, List.take_succ_cons, List.take_zero, List.map_nil, ho1, ho2]
  rwa [e] at h1

end Go.Proofs.Ytemjlopoffjmpaa.Abs
set_option linter.unusedSimpArgs false
set_option linter.unusedVariables false
namespace Go.Proofs.Ytemjlopoffjmpaa.Abs
open Go Go.Proofs

theorem cellD_emb (d : Dset) : (pdset d).map emb = cellD d := rfl
theorem cellsD (l : List Dset) : (l.map pdset).map (fun e => e.map emb) = l.map cellD := by rw [List.map_map]; rfl
theorem rows5D (l : List Dset) : (l.map cellD).all (fun e => decide (e.length = 5)) = true := by
  rw [List.all_eq_true]
  intro e he
  obtain ⟨d, _, rfl⟩ := List.mem_map.1 he
  rfl
theorem eqnil_pos {d : Dset} {l : List Dset} (H : AH) : nilq H (.fz ((d :: l).map pdset)) = some (some false) := rfl

theorem q00 : (if 0 < 0 then some false else none : Option Bool) = none := rfl
theorem q01 (n : Nat) : (if 0 < n + 1 then some false else none : Option Bool) = some false := if_pos (Nat.succ_pos n)
/-- slices.Clone of sets. -/
theorem cloneL0 (l : List Dset) (hl : l.length ≤ 1000000) : C Try.prog 40 [asets l] [] (fun x H' => x = .own 0 5 0 l.length l.length ∧ H' = [some (l.map cellD)]) := by
  refine C_body' d40 rfl (WT_ok ?_)
  unfold c40
  cases l with
  | nil =>
    simp only [asets, wk3, onStO, bareL, toCl, chunks, wk, iaddrV_map, emb, unAgg, ares, aresL, ares1, tupled, forall_const, Nat.reduceAdd, Nat.reduceSub, Nat.reduceMul, Nat.reduceLeDiff, Nat.reduceEqDiff, Nat.reduceBEq, Int.reduceLE, Int.reduceLT, Int.reduceEq, Int.reduceNe, Int.reduceAdd, Int.reduceSub, Int.reduceToNat, Int.reduceNeg, ↓reduceIte, reduceCtorEq, cellsOf, cellA, lay, fillA]
    intro b
    cases b
    · simp only [wk3, onStO, bareL, toCl, chunks, wk, iaddrV_map, emb, unAgg, ares, aresL, ares1, tupled, forall_const, Nat.reduceAdd, Nat.reduceSub, Nat.reduceMul, Nat.reduceLeDiff, Nat.reduceEqDiff, Nat.reduceBEq, Int.reduceLE, Int.reduceLT, Int.reduceEq, Int.reduceNe, Int.reduceAdd, Int.reduceSub, Int.reduceToNat, Int.reduceNeg, ↓reduceIte, reduceCtorEq, cellsOf, cellA, lay, fillA]
      exact ⟨_, _, Wk.refl _ _ _, rfl, rfl⟩
    · simp only [wk3, onStO, bareL, toCl, chunks, wk, iaddrV_map, emb, unAgg, ares, aresL, ares1, tupled, forall_const, Nat.reduceAdd, Nat.reduceSub, Nat.reduceMul, Nat.reduceLeDiff, Nat.reduceEqDiff, Nat.reduceBEq, Int.reduceLE, Int.reduceLT, Int.reduceEq, Int.reduceNe, Int.reduceAdd, Int.reduceSub, Int.reduceToNat, Int.reduceNeg, ↓reduceIte, reduceCtorEq, cellsOf, cellA, lay, fillA]
      exact ⟨_, _, Wk_emp 5, rfl, rfl⟩
  | cons d l =>
    simp only [List.length_cons] at hl
    have h5 := rows5D (d :: l)
    simp only [List.map_cons, List.all_cons] at h5
    simp only [asets, cellsD, cellD_emb, wk3, onStO, bareL, toCl, chunks, wk, iaddrV_map, emb, unAgg, ares, aresL, ares1, tupled, forall_const, Nat.reduceAdd, Nat.reduceSub, Nat.reduceMul, Nat.reduceLeDiff, Nat.reduceEqDiff, Nat.reduceBEq, Int.reduceLE, Int.reduceLT, Int.reduceEq, Int.reduceNe, Int.reduceAdd, Int.reduceSub, Int.reduceToNat, Int.reduceNeg, ↓reduceIte, reduceCtorEq, cellsOf, cellA, lay, fillA]
    exact ⟨⟨h5, by omega, by omega⟩, _, _, Wk.refl _ _ _, rfl, rfl⟩
/-- slices.Clone of sets in memory of one's own. -/
theorem cloneO0 (l : List Dset) (hl : l.length ≤ 1000000) : C Try.prog 40 [.own 0 5 0 l.length l.length] [some (l.map cellD)] (fun x H' => x = .own 1 5 0 l.length l.length ∧ H' = [some (l.map cellD), some (l.map cellD)]) := by
  refine C_body' d40 rfl (WT_ok ?_)
  unfold c40
  cases l with
  | nil =>
    simp only [asets, q00, wk3, onStO, bareL, toCl, chunks, wk, iaddrV_map, emb, unAgg, ares, aresL, ares1, tupled, forall_const, Nat.reduceAdd, Nat.reduceSub, Nat.reduceMul, Nat.reduceLeDiff, Nat.reduceEqDiff, Nat.reduceBEq, Int.reduceLE, Int.reduceLT, Int.reduceEq, Int.reduceNe, Int.reduceAdd, Int.reduceSub, Int.reduceToNat, Int.reduceNeg, ↓reduceIte, reduceCtorEq, cellsOf, cellA, lay, fillA]
    intro b
    cases b
    · simp only [wk3, onStO, bareL, toCl, chunks, wk, iaddrV_map, emb, unAgg, ares, aresL, ares1, tupled, forall_const, Nat.reduceAdd, Nat.reduceSub, Nat.reduceMul, Nat.reduceLeDiff, Nat.reduceEqDiff, Nat.reduceBEq, Int.reduceLE, Int.reduceLT, Int.reduceEq, Int.reduceNe, Int.reduceAdd, Int.reduceSub, Int.reduceToNat, Int.reduceNeg, ↓reduceIte, reduceCtorEq, cellsOf, cellA, lay, fillA]
      exact ⟨_, _, Wk.refl _ _ _, rfl, rfl⟩
    · simp only [wk3, onStO, bareL, toCl, chunks, wk, iaddrV_map, emb, unAgg, ares, aresL, ares1, tupled, forall_const, Nat.reduceAdd, Nat.reduceSub, Nat.reduceMul, Nat.reduceLeDiff, Nat.reduceEqDiff, Nat.reduceBEq, Int.reduceLE, Int.reduceLT, Int.reduceEq, Int.reduceNe, Int.reduceAdd, Int.reduceSub, Int.reduceToNat, Int.reduceNeg, ↓reduceIte, reduceCtorEq, cellsOf, cellA, lay, fillA]
      exact ⟨_, _, Wk_empAt (fr := [.emp]) (H := [some []]) 0 5 rfl, rfl, rfl⟩
  | cons d l =>
    simp only [List.length_cons] at hl
    have h5 := rows5D (d :: l)
    simp only [List.map_cons, List.all_cons] at h5
    have h6 : List.take (l.length + 1) (cellD d :: List.map cellD l) = cellD d :: List.map cellD l := List.take_of_length_le (by simp)
    simp only [asets, q01, h6, wk3, onStO, bareL, toCl, chunks, wk, iaddrV_map, emb, unAgg, ares, aresL, ares1, tupled, forall_const, Nat.reduceAdd, Nat.reduceSub, Nat.reduceMul, Nat.reduceLeDiff, Nat.reduceEqDiff, Nat.reduceBEq, Int.reduceLE, Int.reduceLT, Int.reduceEq, Int.reduceNe, Int.reduceAdd, Int.reduceSub, Int.reduceToNat, Int.reduceNeg, ↓reduceIte, reduceCtorEq, cellsOf, cellA, lay, fillA]
    exact ⟨⟨h5, by omega, by omega⟩, _, _, Wk.refl _ _ _, rfl, rfl⟩
/-- slices.Clone of files: the same rows, written no more. -/
theorem cloneF0 (s : List Node) (hs : s.length ≤ 1000000) : C Try.prog 41 [aset s] [] (fun y H' => y = aset s ∧ H' = []) := by
  cases s with
  | cons x s => exact clone_set0 x s hs
  | nil =>
    refine C_body' d41 rfl (WT_ok ?_)
    unfold c41
    simp only [aset, wk3, onStO, bareL, toCl, chunks, wk, iaddrV_map, emb, unAgg, ares, aresL, ares1, tupled, forall_const, Nat.reduceAdd, Nat.reduceSub, Nat.reduceMul, Nat.reduceLeDiff, Nat.reduceEqDiff, Nat.reduceBEq, Int.reduceLE, Int.reduceLT, Int.reduceEq, Int.reduceNe, Int.reduceAdd, Int.reduceSub, Int.reduceToNat, Int.reduceNeg, ↓reduceIte, reduceCtorEq, cellsOf, cellA, lay, fillA]
    intro b
    cases b
    · simp only [wk3, onStO, bareL, toCl, chunks, wk, iaddrV_map, emb, unAgg, ares, aresL, ares1, tupled, forall_const, Nat.reduceAdd, Nat.reduceSub, Nat.reduceMul, Nat.reduceLeDiff, Nat.reduceEqDiff, Nat.reduceBEq, Int.reduceLE, Int.reduceLT, Int.reduceEq, Int.reduceNe, Int.reduceAdd, Int.reduceSub, Int.reduceToNat, Int.reduceNeg, ↓reduceIte, reduceCtorEq, cellsOf, cellA, lay, fillA]
      exact KWk_frozen 0 [] rfl (.fz []) (by simp [frzL, frz, renL, ren]) ⟨rfl, rfl⟩
    · simp only [wk3, onStO, bareL, toCl, chunks, wk, iaddrV_map, emb, unAgg, ares, aresL, ares1, tupled, forall_const, Nat.reduceAdd, Nat.reduceSub, Nat.reduceMul, Nat.reduceLeDiff, Nat.reduceEqDiff, Nat.reduceBEq, Int.reduceLE, Int.reduceLT, Int.reduceEq, Int.reduceNe, Int.reduceAdd, Int.reduceSub, Int.reduceToNat, Int.reduceNeg, ↓reduceIte, reduceCtorEq, cellsOf, cellA, lay, fillA]
      exact ⟨_, _, Wk_empFz (fr := [.emp]) 0 rfl, rfl, rfl⟩
end Go.Proofs.Ytemjlopoffjmpaa.Abs
set_option linter.unusedSimpArgs false
set_option linter.unusedVariables false
namespace Go.Proofs.Ytemjlopoffjmpaa.Abs
open Go Go.Proofs

theorem renO_cells (τ : Nat → Option Nat) (l : List Dset) : renO τ (l.map cellD) = l.map cellD := by
  unfold renO
  rw [List.map_map]
  apply List.map_congr_left
  intro d _
  simp [cellD, aset, renL, ren]
theorem cloneL (l : List Dset) (hl : l.length ≤ 1000000) (H : AH) : C Try.prog 40 [asets l] H (fun x H' => x = .own H.length 5 0 l.length l.length ∧ H' = H ++ [some (l.map cellD)]) :=
  C_call [] List.nodup_nil (fun r hr => by cases hr) (by simpa [renL, ren, asets] using cloneL0 l hl) (by rintro _ _ ⟨rfl, rfl⟩; exact ⟨Nat.zero_le _, by simp [ren, toCaller, back, setAll, renO_cells]⟩)
theorem cloneF (s : List Node) (hs : s.length ≤ 1000000) (H : AH) : C Try.prog 41 [aset s] H (fun y H' => y = aset s ∧ H' = H) :=
  C_pure (K0 := fun y => y = aset s) (cloneF0 s hs) (fun τ => renL_bare τ _ (by simp [bareL, bare, aset])) (by rintro y rfl τ; simp [aset, ren]) H

theorem cell_at {l : List Dset} {k : Nat} (hk : k < l.length) : (l.map cellD)[k]? = some (cellD (l.getD k default)) := by
  rw [List.getElem?_map, List.getElem?_eq_getElem hk, List.getD_eq_getElem?_getD, List.getElem?_eq_getElem hk]; rfl
theorem cell_same {l : List Dset} {k : Nat} (hk : k < l.length) : (l.map cellD).set k (cellD (l.getD k default)) = l.map cellD := by
  apply List.ext_getElem? 
  intro i
  rw [List.getElem?_set]
  by_cases h : k = i
  · subst h; rw [if_pos rfl, if_pos (by simpa using hk), cell_at hk]
  · rw [if_neg h]
/-- Files of a length that is no matter. -/
def Short (l : List Dset) : Prop := l.length ≤ 1000000 ∧ ∀ d ∈ l, d.files.length ≤ 1000000
theorem Short.get {l : List Dset} (h : Short l) {k : Nat} (hk : k < l.length) : (l.getD k default).files.length ≤ 1000000 := by
  rw [List.getD_eq_getElem?_getD, List.getElem?_eq_getElem hk]; exact h.2 _ (List.getElem_mem hk)

theorem twin0 (l : List Dset) (hl : Short l) : C Try.prog 59 [asets l] [] (fun x H' => x = .own 0 5 0 l.length l.length ∧ H' = [some (l.map cellD)]) := by
  have hl1 := hl.1
  refine C_body' d59 rfl (WT_ok ?_)
  unfold c59
  simp only [wk, iaddrV_map, emb, unAgg, ares, aresL, ares1, tupled, forall_const, Nat.reduceAdd, Nat.reduceSub, Nat.reduceMul, Nat.reduceLeDiff, Nat.reduceEqDiff, Nat.reduceBEq, Int.reduceLE, Int.reduceLT, Int.reduceEq, Int.reduceNe, Int.reduceAdd, Int.reduceSub, Int.reduceToNat, Int.reduceNeg, ↓reduceIte, reduceCtorEq, cellsOf, cellA, lay, fillA]
  refine CT_ok (cloneL l hl.1 _) ?_
  rintro _ _ ⟨rfl, rfl⟩
  simp only [lay, wk, iaddrV_map, emb, unAgg, ares, aresL, ares1, tupled, forall_const, Nat.reduceAdd, Nat.reduceSub, Nat.reduceMul, Nat.reduceLeDiff, Nat.reduceEqDiff, Nat.reduceBEq, Int.reduceLE, Int.reduceLT, Int.reduceEq, Int.reduceNe, Int.reduceAdd, Int.reduceSub, Int.reduceToNat, Int.reduceNeg, ↓reduceIte, reduceCtorEq, cellsOf, cellA, lay, fillA]
  refine WT_loop (W_wk (fr' := [.own 0 5 0 l.length l.length, .top, .emp, .top, .top, .top, .own 0 5 0 l.length l.length, .int .i64 l.length, .int .i64 0] ++ List.replicate 14 .top) (Wk_tops ?_) (W_loop (fun n fr H' => ∃ k : Nat, k ≤ l.length ∧ n = l.length - k ∧ H' = [some (l.map cellD)] ∧ fr = [.own 0 5 0 l.length l.length, .top, .emp, .top, .top, .top, .own 0 5 0 l.length l.length, .int .i64 l.length, .int .i64 k] ++ List.replicate 14 .top) l.length ⟨0, by omega, rfl, rfl, rfl⟩ ?_))
  · simp only [List.replicate_succ, List.replicate_zero, List.cons_append, List.nil_append, Tops_top, Tops_same, Tops_nil]
  rintro n fr H' ⟨k, hk, rfl, rfl, rfl⟩
  refine WT_ok ?_
  simp only [lay, wk, iaddrV_map, emb, unAgg, ares, aresL, ares1, tupled, forall_const, Nat.reduceAdd, Nat.reduceSub, Nat.reduceMul, Nat.reduceLeDiff, Nat.reduceEqDiff, Nat.reduceBEq, Int.reduceLE, Int.reduceLT, Int.reduceEq, Int.reduceNe, Int.reduceAdd, Int.reduceSub, Int.reduceToNat, Int.reduceNeg, ↓reduceIte, reduceCtorEq, cellsOf, cellA, lay, fillA]
  refine guard_both ?_ ?_ <;> intro h <;> simp only [hy] at h
  · have hk2 : k < l.length := by omega
    have hc := cell_at hk2
    have hs := cell_same hk2
    have w2 : IntKind.i64.wrap ((k : Int) + 1) = (k : Int) + 1 := IntWalk.i64_in _ (by omega)
    have h0 : (0 : Int) ≤ k := by omega
    have hf := hl.get hk2
    generalize l.getD k default = d at hc hs hf
    simp only [h, h0, hc, cellD, aset, lay, wk, iaddrV_map, emb, unAgg, ares, aresL, ares1, tupled, forall_const, Nat.reduceAdd, Nat.reduceSub, Nat.reduceMul, Nat.reduceLeDiff, Nat.reduceEqDiff, Nat.reduceBEq, Int.reduceLE, Int.reduceLT, Int.reduceEq, Int.reduceNe, Int.reduceAdd, Int.reduceSub, Int.reduceToNat, Int.reduceNeg, ↓reduceIte, reduceCtorEq, cellsOf, cellA, lay, fillA]
    refine CT_ok (cloneF d.files hf _) ?_
    rintro _ _ ⟨rfl, rfl⟩
    simp only [cellD, aset] at hs
    simp only [h, h0, hc, hs, cellD, w2, aset, lay, wk, iaddrV_map, emb, unAgg, ares, aresL, ares1, tupled, forall_const, Nat.reduceAdd, Nat.reduceSub, Nat.reduceMul, Nat.reduceLeDiff, Nat.reduceEqDiff, Nat.reduceBEq, Int.reduceLE, Int.reduceLT, Int.reduceEq, Int.reduceNe, Int.reduceAdd, Int.reduceSub, Int.reduceToNat, Int.reduceNeg, ↓reduceIte, reduceCtorEq, cellsOf, cellA, lay, fillA]
    refine QLoop_go (n' := l.length - (k + 1)) (by omega) ⟨k + 1, by omega, rfl, rfl, rfl⟩ ?_
    simp only [List.replicate_succ, List.replicate_zero, List.cons_append, List.nil_append, Tops_top, Tops_same, Tops_nil, Int.natCast_add, Int.natCast_one]
  · simp only [h, wk, iaddrV_map, emb, unAgg, ares, aresL, ares1, tupled, forall_const, Nat.reduceAdd, Nat.reduceSub, Nat.reduceMul, Nat.reduceLeDiff, Nat.reduceEqDiff, Nat.reduceBEq, Int.reduceLE, Int.reduceLT, Int.reduceEq, Int.reduceNe, Int.reduceAdd, Int.reduceSub, Int.reduceToNat, Int.reduceNeg, ↓reduceIte, reduceCtorEq, cellsOf, cellA, lay, fillA]
    exact ⟨_, _, Wk.refl _ _ _, rfl, rfl⟩
theorem twinL (l : List Dset) (hl : Short l) (H : AH) : C Try.prog 59 [asets l] H (fun x H' => x = .own H.length 5 0 l.length l.length ∧ H' = H ++ [some (l.map cellD)]) :=
  C_call [] List.nodup_nil (fun r hr => by cases hr) (by simpa [renL, ren, asets] using twin0 l hl) (by rintro _ _ ⟨rfl, rfl⟩; exact ⟨Nat.zero_le _, by simp [ren, toCaller, back, setAll, renO_cells]⟩)
/-- Of sets in memory of one's own. -/
theorem twinO0 (l : List Dset) (hl : Short l) : C Try.prog 59 [.own 0 5 0 l.length l.length] [some (l.map cellD)] (fun x H' => x = .own 1 5 0 l.length l.length ∧ H' = [some (l.map cellD), some (l.map cellD)]) := by
  have hl1 := hl.1
  refine C_body' d59 rfl (WT_ok ?_)
  unfold c59
  simp only [wk, iaddrV_map, emb, unAgg, ares, aresL, ares1, tupled, forall_const, Nat.reduceAdd, Nat.reduceSub, Nat.reduceMul, Nat.reduceLeDiff, Nat.reduceEqDiff, Nat.reduceBEq, Int.reduceLE, Int.reduceLT, Int.reduceEq, Int.reduceNe, Int.reduceAdd, Int.reduceSub, Int.reduceToNat, Int.reduceNeg, ↓reduceIte, reduceCtorEq, cellsOf, cellA, lay, fillA]
  refine CT_ok (cloneO0 l hl.1) ?_
  rintro _ _ ⟨rfl, rfl⟩
  simp only [lay, wk, iaddrV_map, emb, unAgg, ares, aresL, ares1, tupled, forall_const, Nat.reduceAdd, Nat.reduceSub, Nat.reduceMul, Nat.reduceLeDiff, Nat.reduceEqDiff, Nat.reduceBEq, Int.reduceLE, Int.reduceLT, Int.reduceEq, Int.reduceNe, Int.reduceAdd, Int.reduceSub, Int.reduceToNat, Int.reduceNeg, ↓reduceIte, reduceCtorEq, cellsOf, cellA, lay, fillA]
  refine WT_loop (W_wk (fr' := [.own 1 5 0 l.length l.length, .top, .emp, .top, .top, .top, .own 1 5 0 l.length l.length, .int .i64 l.length, .int .i64 0] ++ List.replicate 14 .top) (Wk_tops ?_) (W_loop (fun n fr H' => ∃ k : Nat, k ≤ l.length ∧ n = l.length - k ∧ H' = [some (l.map cellD), some (l.map cellD)] ∧ fr = [.own 1 5 0 l.length l.length, .top, .emp, .top, .top, .top, .own 1 5 0 l.length l.length, .int .i64 l.length, .int .i64 k] ++ List.replicate 14 .top) l.length ⟨0, by omega, rfl, rfl, rfl⟩ ?_))
  · simp only [List.replicate_succ, List.replicate_zero, List.cons_append, List.nil_append, Tops_top, Tops_same, Tops_nil]
  rintro n fr H' ⟨k, hk, rfl, rfl, rfl⟩
  refine WT_ok ?_
  simp only [lay, wk, iaddrV_map, emb, unAgg, ares, aresL, ares1, tupled, forall_const, Nat.reduceAdd, Nat.reduceSub, Nat.reduceMul, Nat.reduceLeDiff, Nat.reduceEqDiff, Nat.reduceBEq, Int.reduceLE, Int.reduceLT, Int.reduceEq, Int.reduceNe, Int.reduceAdd, Int.reduceSub, Int.reduceToNat, Int.reduceNeg, ↓reduceIte, reduceCtorEq, cellsOf, cellA, lay, fillA]
  refine guard_both ?_ ?_ <;> intro h <;> simp only [hy] at h
  · have hk2 : k < l.length := by omega
    have hc := cell_at hk2
    have hs := cell_same hk2
    have w2 : IntKind.i64.wrap ((k : Int) + 1) = (k : Int) + 1 := IntWalk.i64_in _ (by omega)
    have h0 : (0 : Int) ≤ k := by omega
    have hf := hl.get hk2
    generalize l.getD k default = d at hc hs hf
    simp only [h, h0, hc, cellD, aset, lay, wk, iaddrV_map, emb, unAgg, ares, aresL, ares1, tupled, forall_const, Nat.reduceAdd, Nat.reduceSub, Nat.reduceMul, Nat.reduceLeDiff, Nat.reduceEqDiff, Nat.reduceBEq, Int.reduceLE, Int.reduceLT, Int.reduceEq, Int.reduceNe, Int.reduceAdd, Int.reduceSub, Int.reduceToNat, Int.reduceNeg, ↓reduceIte, reduceCtorEq, cellsOf, cellA, lay, fillA]
    refine CT_ok (cloneF d.files hf _) ?_
    rintro _ _ ⟨rfl, rfl⟩
    simp only [cellD, aset] at hs
    simp only [h, h0, hc, hs, cellD, w2, aset, lay, wk, iaddrV_map, emb, unAgg, ares, aresL, ares1, tupled, forall_const, Nat.reduceAdd, Nat.reduceSub, Nat.reduceMul, Nat.reduceLeDiff, Nat.reduceEqDiff, Nat.reduceBEq, Int.reduceLE, Int.reduceLT, Int.reduceEq, Int.reduceNe, Int.reduceAdd, Int.reduceSub, Int.reduceToNat, Int.reduceNeg, ↓reduceIte, reduceCtorEq, cellsOf, cellA, lay, fillA]
    refine QLoop_go (n' := l.length - (k + 1)) (by omega) ⟨k + 1, by omega, rfl, rfl, rfl⟩ ?_
    simp only [List.replicate_succ, List.replicate_zero, List.cons_append, List.nil_append, Tops_top, Tops_same, Tops_nil, Int.natCast_add, Int.natCast_one]
  · simp only [h, wk, iaddrV_map, emb, unAgg, ares, aresL, ares1, tupled, forall_const, Nat.reduceAdd, Nat.reduceSub, Nat.reduceMul, Nat.reduceLeDiff, Nat.reduceEqDiff, Nat.reduceBEq, Int.reduceLE, Int.reduceLT, Int.reduceEq, Int.reduceNe, Int.reduceAdd, Int.reduceSub, Int.reduceToNat, Int.reduceNeg, ↓reduceIte, reduceCtorEq, cellsOf, cellA, lay, fillA]
    exact ⟨_, _, Wk.refl _ _ _, rfl, rfl⟩
end Go.Proofs.Ytemjlopoffjmpaa.Abs
set_option linter.unusedSimpArgs false
set_option linter.unusedVariables false
namespace Go.Proofs.Ytemjlopoffjmpaa.Abs
open Go Go.Proofs

/-- Where the first one is of which p holds; below 0: nowhere. -/
def idxA (p : Dset → Bool) (l : List Dset) : Int := match l.findIdx? p with
  | some i => i
  | none => -1
theorem idxA_some {p : Dset → Bool} {l : List Dset} {k : Nat} (hk : k < l.length) (hp : p (l.getD k default) = true) (hn : ∀ j, j < k → p (l.getD j default) = false) : idxA p l = k := by
  have g : ∀ j (h : j < l.length), l.getD j default = l[j] := fun j h => by rw [List.getD_eq_getElem?_getD, List.getElem?_eq_getElem h]; rfl
  have : l.findIdx? p = some k := by
    rw [List.findIdx?_eq_some_iff_getElem]
    refine ⟨hk, by rw [← g k hk]; exact hp, fun j hj => ?_⟩
    rw [← g j (by omega), hn j hj]; decide
  unfold idxA
  rw [this]
theorem idxA_none {p : Dset → Bool} {l : List Dset} (hn : ∀ j, j < l.length → p (l.getD j default) = false) : idxA p l = -1 := by
  have : l.findIdx? p = none := by
    rw [List.findIdx?_eq_none_iff]
    intro x hx
    obtain ⟨j, hj, rfl⟩ := List.mem_iff_getElem.1 hx
    have := hn j hj
    rwa [List.getD_eq_getElem?_getD, List.getElem?_eq_getElem hj] at this
  unfold idxA
  rw [this]
theorem idxA_cases (p : Dset → Bool) (l : List Dset) : (idxA p l = -1 ∧ ∀ j, j < l.length → p (l.getD j default) = false) ∨ ∃ k : Nat, idxA p l = k ∧ k < l.length ∧ p (l.getD k default) = true ∧ ∀ j, j < k → p (l.getD j default) = false := by
  have g : ∀ j (h : j < l.length), l.getD j default = l[j] := fun j h => by rw [List.getD_eq_getElem?_getD, List.getElem?_eq_getElem h]; rfl
  unfold idxA
  cases e : l.findIdx? p with
  | none =>
    refine .inl ⟨rfl, fun j hj => ?_⟩
    rw [List.findIdx?_eq_none_iff] at e
    rw [g j hj]; exact e _ (List.getElem_mem hj)
  | some k =>
    rw [List.findIdx?_eq_some_iff_getElem] at e
    obtain ⟨h1, h2, h3⟩ := e
    refine .inr ⟨k, rfl, h1, by rw [g k h1]; exact h2, fun j hj => ?_⟩
    rw [g j (by omega)]
    have := h3 j hj
    simpa using this

theorem index81G (l : List Dset) (hl : l.length ≤ 1000000) (R : AH) (g : FuncId) (cap : List AV) (p : Dset → Bool)
    (hf : ∀ d, C Try.prog g (AV.agg (cellD d) :: cap) (some (l.map cellD) :: R) (fun x H' => x = .bool (p d) ∧ H' = some (l.map cellD) :: R)) :
    C Try.prog 81 [.own 0 5 0 l.length l.length, .fn (.func g) [] cap] (some (l.map cellD) :: R) (fun x H' => x = .int .i64 (idxA p l) ∧ H' = some (l.map cellD) :: R) := by
  refine C_body d81 rfl (WT_ok ?_)
  unfold c81
  simp only [wk, iaddrV_map, emb, unAgg, ares, aresL, ares1, tupled, forall_const, Nat.reduceAdd, Nat.reduceSub, Nat.reduceMul, Nat.reduceLeDiff, Nat.reduceEqDiff, Nat.reduceBEq, Int.reduceLE, Int.reduceLT, Int.reduceEq, Int.reduceNe, Int.reduceAdd, Int.reduceSub, Int.reduceToNat, Int.reduceNeg, ↓reduceIte, reduceCtorEq, cellsOf, cellA, lay, fillA]
  refine WT_loop (W_wk (fr' := [.own 0 5 0 l.length l.length, .fn (.func g) [] cap, .top, .top, .int .i64 0, .top, .own 0 5 0 l.length l.length, .int .i64 l.length, .int .i64 0] ++ List.replicate 10 .top) (Wk_tops ?_) (W_loop (fun n fr H' => ∃ k : Nat, k ≤ l.length ∧ n = l.length - k ∧ (∀ j, j < k → p (l.getD j default) = false) ∧ H' = some (l.map cellD) :: R ∧ fr = [.own 0 5 0 l.length l.length, .fn (.func g) [] cap, .top, .top, .int .i64 0, .top, .own 0 5 0 l.length l.length, .int .i64 l.length, .int .i64 k] ++ List.replicate 10 .top) l.length ⟨0, by omega, rfl, fun j hj => by omega, rfl, rfl⟩ ?_))
  · simp only [List.replicate_succ, List.replicate_zero, List.cons_append, List.nil_append, Tops_top, Tops_same, Tops_nil]
  rintro n fr H' ⟨k, hk, rfl, hne, rfl, rfl⟩
  refine WT_ok ?_
  simp only [lay, wk, iaddrV_map, emb, unAgg, ares, aresL, ares1, tupled, forall_const, Nat.reduceAdd, Nat.reduceSub, Nat.reduceMul, Nat.reduceLeDiff, Nat.reduceEqDiff, Nat.reduceBEq, Int.reduceLE, Int.reduceLT, Int.reduceEq, Int.reduceNe, Int.reduceAdd, Int.reduceSub, Int.reduceToNat, Int.reduceNeg, ↓reduceIte, reduceCtorEq, cellsOf, cellA, lay, fillA]
  refine guard_both ?_ ?_ <;> intro h <;> simp only [hy] at h
  · have hk2 : k < l.length := by omega
    have hc := cell_at hk2
    have w2 : IntKind.i64.wrap ((k : Int) + 1) = (k : Int) + 1 := IntWalk.i64_in _ (by omega)
    have h0 : (0 : Int) ≤ k := by omega
    have h5 : (cellD (l.getD k default)).take 5 = cellD (l.getD k default) := rfl
    have h6 : 5 ≤ (cellD (l.getD k default)).length := Nat.le_refl 5
    have hfk := hf (l.getD k default)
    simp only [h, h0, hc, h5, h6, lay, RT_calld, wk, iaddrV_map, emb, unAgg, ares, aresL, ares1, tupled, forall_const, Nat.reduceAdd, Nat.reduceSub, Nat.reduceMul, Nat.reduceLeDiff, Nat.reduceEqDiff, Nat.reduceBEq, Int.reduceLE, Int.reduceLT, Int.reduceEq, Int.reduceNe, Int.reduceAdd, Int.reduceSub, Int.reduceToNat, Int.reduceNeg, ↓reduceIte, reduceCtorEq, cellsOf, cellA, lay, fillA]
    refine ⟨_, _, _, rfl, hfk.mono ?_⟩
    rintro _ _ ⟨rfl, rfl⟩
    cases hp : p (l.getD k default)
    · simp only [w2, wk, iaddrV_map, emb, unAgg, ares, aresL, ares1, tupled, forall_const, Nat.reduceAdd, Nat.reduceSub, Nat.reduceMul, Nat.reduceLeDiff, Nat.reduceEqDiff, Nat.reduceBEq, Int.reduceLE, Int.reduceLT, Int.reduceEq, Int.reduceNe, Int.reduceAdd, Int.reduceSub, Int.reduceToNat, Int.reduceNeg, ↓reduceIte, reduceCtorEq, cellsOf, cellA, lay, fillA]
      refine QLoop_go (n' := l.length - (k + 1)) (by omega) ⟨k + 1, by omega, rfl, fun j hj => ?_, rfl, rfl⟩ ?_
      · rcases Nat.lt_or_ge j k with h' | h'
        · exact hne j h'
        · have : j = k := by omega
          subst this; exact hp
      · simp only [List.replicate_succ, List.replicate_zero, List.cons_append, List.nil_append, Tops_top, Tops_same, Tops_nil, Int.natCast_add, Int.natCast_one]
    · simp only [wk, iaddrV_map, emb, unAgg, ares, aresL, ares1, tupled, forall_const, Nat.reduceAdd, Nat.reduceSub, Nat.reduceMul, Nat.reduceLeDiff, Nat.reduceEqDiff, Nat.reduceBEq, Int.reduceLE, Int.reduceLT, Int.reduceEq, Int.reduceNe, Int.reduceAdd, Int.reduceSub, Int.reduceToNat, Int.reduceNeg, ↓reduceIte, reduceCtorEq, cellsOf, cellA, lay, fillA]
      rw [idxA_some hk2 hp hne]
  · simp only [h, wk, iaddrV_map, emb, unAgg, ares, aresL, ares1, tupled, forall_const, Nat.reduceAdd, Nat.reduceSub, Nat.reduceMul, Nat.reduceLeDiff, Nat.reduceEqDiff, Nat.reduceBEq, Int.reduceLE, Int.reduceLT, Int.reduceEq, Int.reduceNe, Int.reduceAdd, Int.reduceSub, Int.reduceToNat, Int.reduceNeg, ↓reduceIte, reduceCtorEq, cellsOf, cellA, lay, fillA]
    rw [idxA_none fun j hj => hne j (by omega)]

/-- Where the set of an ID is. -/
def findA (l : List Dset) (i : Int) : Int := idxA (fun d => decide (d.id = i)) l
theorem find_of {l : List Dset} {i : Int} : (findA l i = -1 ∧ ∀ j, j < l.length → (l.getD j default).id ≠ i) ∨ ∃ k : Nat, findA l i = k ∧ k < l.length ∧ (l.getD k default).id = i ∧ ∀ j, j < k → (l.getD j default).id ≠ i := by
  rcases idxA_cases (fun d => decide (d.id = i)) l with ⟨h1, h2⟩ | ⟨k, h1, h2, h3, h4⟩
  · exact .inl ⟨h1, fun j hj => by simpa using h2 j hj⟩
  · exact .inr ⟨k, h1, h2, by simpa using h3, fun j hj => by simpa using h4 j hj⟩
theorem isId82_L (d : Dset) (i : Int) (l : List Dset) : C Try.prog 82 [.agg (cellD d), .ptr 1 0 0 1] [some (l.map cellD), some [[.int .i64 i]]] (fun x H' => x = .bool (decide (d.id = i)) ∧ H' = [some (l.map cellD), some [[.int .i64 i]]]) :=
  C_call [1] (by simp) (by simp) (by simpa [renL, ren, toCallee, renO, cellD, aset, AH.at] using isId82 d i) (by rintro _ _ ⟨rfl, rfl⟩; exact ⟨Nat.le_refl _, by simp [ren], by simp [back, setAll, renO, renL, ren]⟩)

theorem find0 (l : List Dset) (hl : l.length ≤ 1000000) (i : Int) : C Try.prog 62 [.own 0 5 0 l.length l.length, .int .i64 i] [some (l.map cellD)] (fun x H' => x = .int .i64 (findA l i) ∧ H' = [some (l.map cellD)]) := by
  refine C_body' d62 rfl (WT_ok ?_)
  unfold c62
  simp only [lay, wk, iaddrV_map, emb, unAgg, ares, aresL, ares1, tupled, forall_const, Nat.reduceAdd, Nat.reduceSub, Nat.reduceMul, Nat.reduceLeDiff, Nat.reduceEqDiff, Nat.reduceBEq, Int.reduceLE, Int.reduceLT, Int.reduceEq, Int.reduceNe, Int.reduceAdd, Int.reduceSub, Int.reduceToNat, Int.reduceNeg, ↓reduceIte, reduceCtorEq, cellsOf, cellA, lay, fillA]
  refine CT_ok (index81G l hl [some [[.int .i64 i]]] 82 [.ptr 1 0 0 1] (fun d => decide (d.id = i)) (fun d => isId82_L d i l)) ?_
  rintro _ _ ⟨rfl, rfl⟩
  simp only [wk, iaddrV_map, emb, unAgg, ares, aresL, ares1, tupled, forall_const, Nat.reduceAdd, Nat.reduceSub, Nat.reduceMul, Nat.reduceLeDiff, Nat.reduceEqDiff, Nat.reduceBEq, Int.reduceLE, Int.reduceLT, Int.reduceEq, Int.reduceNe, Int.reduceAdd, Int.reduceSub, Int.reduceToNat, Int.reduceNeg, ↓reduceIte, reduceCtorEq, cellsOf, cellA, lay, fillA]
  refine KWk_first (by simp [bare]) ?_ ⟨rfl, rfl⟩
  exact renO_cells _ l
theorem find1 (l : List Dset) (hl : l.length ≤ 1000000) (i : Int) (R : AH) : C Try.prog 62 [.own 0 5 0 l.length l.length, .int .i64 i] (some (l.map cellD) :: R) (fun x H' => x = .int .i64 (findA l i) ∧ H' = some (l.map cellD) :: R) :=
  C_call [0] (by simp) (by simp) (by simpa [renL, ren, toCallee, renO_cells, AH.at] using find0 l hl i) (by rintro _ _ ⟨rfl, rfl⟩; exact ⟨Nat.le_refl _, by simp [ren], by simp [back, setAll, renO_cells]⟩)
theorem contains65 (l : List Dset) (hl : l.length ≤ 1000000) (R : AH) (g : FuncId) (cap : List AV) (p : Dset → Bool)
    (hf : ∀ d, C Try.prog g (AV.agg (cellD d) :: cap) (some (l.map cellD) :: R) (fun x H' => x = .bool (p d) ∧ H' = some (l.map cellD) :: R)) :
    C Try.prog 65 [.own 0 5 0 l.length l.length, .fn (.func g) [] cap] (some (l.map cellD) :: R) (fun x H' => x = .bool (decide (0 ≤ idxA p l)) ∧ H' = some (l.map cellD) :: R) := by
  refine C_body d65 rfl (WT_ok ?_)
  unfold c65
  simp only [lay, wk, iaddrV_map, emb, unAgg, ares, aresL, ares1, tupled, forall_const, Nat.reduceAdd, Nat.reduceSub, Nat.reduceMul, Nat.reduceLeDiff, Nat.reduceEqDiff, Nat.reduceBEq, Int.reduceLE, Int.reduceLT, Int.reduceEq, Int.reduceNe, Int.reduceAdd, Int.reduceSub, Int.reduceToNat, Int.reduceNeg, ↓reduceIte, reduceCtorEq, cellsOf, cellA, lay, fillA]
  refine CT_ok (index81G l hl R g cap p hf) ?_
  rintro _ _ ⟨rfl, rfl⟩
  simp only [wk, iaddrV_map, emb, unAgg, ares, aresL, ares1, tupled, forall_const, Nat.reduceAdd, Nat.reduceSub, Nat.reduceMul, Nat.reduceLeDiff, Nat.reduceEqDiff, Nat.reduceBEq, Int.reduceLE, Int.reduceLT, Int.reduceEq, Int.reduceNe, Int.reduceAdd, Int.reduceSub, Int.reduceToNat, Int.reduceNeg, ↓reduceIte, reduceCtorEq, cellsOf, cellA, lay, fillA]
/-- Is there such a set, of that kind? -/
def isA (l : List Dset) (i kind : Int) : Bool := decide (0 ≤ findA l i) && decide ((l.getD (findA l i).toNat default).kind = kind)
theorem is63 (l : List Dset) (hl : l.length ≤ 1000000) (i kind : Int) (R : AH) : C Try.prog 63 [.own 0 5 0 l.length l.length, .int .i64 i, .int .i64 kind] (some (l.map cellD) :: R) (fun x H' => x = .bool (isA l i kind) ∧ H' = some (l.map cellD) :: R) := by
  refine C_body d63 rfl (WT_ok ?_)
  unfold c63
  simp only [lay, wk, iaddrV_map, emb, unAgg, ares, aresL, ares1, tupled, forall_const, Nat.reduceAdd, Nat.reduceSub, Nat.reduceMul, Nat.reduceLeDiff, Nat.reduceEqDiff, Nat.reduceBEq, Int.reduceLE, Int.reduceLT, Int.reduceEq, Int.reduceNe, Int.reduceAdd, Int.reduceSub, Int.reduceToNat, Int.reduceNeg, ↓reduceIte, reduceCtorEq, cellsOf, cellA, lay, fillA]
  refine CT_ok (find1 l hl i R) ?_
  rintro _ _ ⟨rfl, rfl⟩
  unfold isA
  rcases find_of (l := l) (i := i) with ⟨e, _⟩ | ⟨k, e, hk, _, _⟩
  · simp only [e, lay, Bool.false_and, wk, iaddrV_map, emb, unAgg, ares, aresL, ares1, tupled, forall_const, Nat.reduceAdd, Nat.reduceSub, Nat.reduceMul, Nat.reduceLeDiff, Nat.reduceEqDiff, Nat.reduceBEq, Int.reduceLE, Int.reduceLT, Int.reduceEq, Int.reduceNe, Int.reduceAdd, Int.reduceSub, Int.reduceToNat, Int.reduceNeg, ↓reduceIte, reduceCtorEq, cellsOf, cellA, lay, fillA]
  · have hc := cell_at hk
    have h0 : (0 : Int) ≤ k := by omega
    have h1 : (k : Int) < l.length := by omega
    rw [e]
    simp only [hc, h0, h1, cellD, lay, wk, iaddrV_map, emb, unAgg, ares, aresL, ares1, tupled, forall_const, Nat.reduceAdd, Nat.reduceSub, Nat.reduceMul, Nat.reduceLeDiff, Nat.reduceEqDiff, Nat.reduceBEq, Int.reduceLE, Int.reduceLT, Int.reduceEq, Int.reduceNe, Int.reduceAdd, Int.reduceSub, Int.reduceToNat, Int.reduceNeg, ↓reduceIte, reduceCtorEq, cellsOf, cellA, lay, fillA]
theorem is66 (d : Dset) (i : Int) : C Try.prog 66 [.agg (cellD d), .ptr 0 0 0 1] [some [[.int .i64 i]]] (fun x H' => x = .bool (decide (d.origin = i)) ∧ H' = [some [[.int .i64 i]]]) := by
  refine C_body' d66 rfl (WT_ok ?_)
  unfold c66
  simp only [cellD, aset, lay, wk, iaddrV_map, emb, unAgg, ares, aresL, ares1, tupled, forall_const, Nat.reduceAdd, Nat.reduceSub, Nat.reduceMul, Nat.reduceLeDiff, Nat.reduceEqDiff, Nat.reduceBEq, Int.reduceLE, Int.reduceLT, Int.reduceEq, Int.reduceNe, Int.reduceAdd, Int.reduceSub, Int.reduceToNat, Int.reduceNeg, ↓reduceIte, reduceCtorEq, cellsOf, cellA, lay, fillA]
  refine KWk_first (by simp [bare]) (by simp [renL, ren]) ⟨rfl, rfl⟩
theorem KWk_two {K : AV → AH → Prop} {x : AV} {o o' : AObj} {G : AH} (hx : bare x = true) (ho : o.map (renL (upTo 2)) = o) (ho' : o'.map (renL (upTo 2)) = o') (hk : K x [some o, some o']) : KWk 2 K x (some o :: some o' :: G) := by
  refine ⟨x, [some o, some o'], ?_, hk⟩
  have h1 := Wk_forget (n0 := 2) (fr := [x]) (H := some o :: some o' :: G) 2 (Nat.le_refl _)
  rw [renL_bare _ _ (by simp [bareL, hx])] at h1
  have e : mapH (renL (upTo 2)) ((some o :: some o' :: G).take 2) = [some o, some o'] := by
    simp only [List.take_succ_cons, List.take_zero, mapH, List.map_cons, List.map_nil, Option.map_some, ho, ho']
  rwa [e] at h1
/-- Is it a later snapshot of the set? -/
def laterA (i j : Int) (d : Dset) : Bool := decide (d.kind = 2) && decide (d.origin = i) && decide (j < d.id)
theorem later64 (d : Dset) (i j : Int) : C Try.prog 64 [.agg (cellD d), .ptr 0 0 0 1, .ptr 1 0 0 1] [some [[.int .i64 i]], some [[.int .i64 j]]] (fun x H' => x = .bool (laterA i j d) ∧ H' = [some [[.int .i64 i]], some [[.int .i64 j]]]) := by
  refine C_body' d64 rfl (WT_ok ?_)
  unfold c64
  unfold laterA
  simp only [cellD, aset, lay, wk, iaddrV_map, emb, unAgg, ares, aresL, ares1, tupled, forall_const, Nat.reduceAdd, Nat.reduceSub, Nat.reduceMul, Nat.reduceLeDiff, Nat.reduceEqDiff, Nat.reduceBEq, Int.reduceLE, Int.reduceLT, Int.reduceEq, Int.reduceNe, Int.reduceAdd, Int.reduceSub, Int.reduceToNat, Int.reduceNeg, ↓reduceIte, reduceCtorEq, cellsOf, cellA, lay, fillA]
  refine guard_both ?_ ?_ <;> intro h <;> simp only [hy] at h
  · simp only [h, cellD, aset, lay, wk, iaddrV_map, emb, unAgg, ares, aresL, ares1, tupled, forall_const, Nat.reduceAdd, Nat.reduceSub, Nat.reduceMul, Nat.reduceLeDiff, Nat.reduceEqDiff, Nat.reduceBEq, Int.reduceLE, Int.reduceLT, Int.reduceEq, Int.reduceNe, Int.reduceAdd, Int.reduceSub, Int.reduceToNat, Int.reduceNeg, ↓reduceIte, reduceCtorEq, cellsOf, cellA, lay, fillA]
    refine guard_both ?_ ?_ <;> intro h2 <;> simp only [hy] at h2
    · simp only [h, h2, cellD, aset, lay, wk, iaddrV_map, emb, unAgg, ares, aresL, ares1, tupled, forall_const, Nat.reduceAdd, Nat.reduceSub, Nat.reduceMul, Nat.reduceLeDiff, Nat.reduceEqDiff, Nat.reduceBEq, Int.reduceLE, Int.reduceLT, Int.reduceEq, Int.reduceNe, Int.reduceAdd, Int.reduceSub, Int.reduceToNat, Int.reduceNeg, ↓reduceIte, reduceCtorEq, cellsOf, cellA, lay, fillA]
      refine KWk_two (by simp [bare]) (by simp [renL, ren]) (by simp [renL, ren]) ⟨rfl, rfl⟩
    · simp only [h, h2, cellD, aset, lay, wk, iaddrV_map, emb, unAgg, ares, aresL, ares1, tupled, forall_const, Nat.reduceAdd, Nat.reduceSub, Nat.reduceMul, Nat.reduceLeDiff, Nat.reduceEqDiff, Nat.reduceBEq, Int.reduceLE, Int.reduceLT, Int.reduceEq, Int.reduceNe, Int.reduceAdd, Int.reduceSub, Int.reduceToNat, Int.reduceNeg, ↓reduceIte, reduceCtorEq, cellsOf, cellA, lay, fillA]
      refine KWk_two (by simp [bare]) (by simp [renL, ren]) (by simp [renL, ren]) ⟨?_, rfl⟩
      first | rfl | simp
  · simp only [h, cellD, aset, lay, wk, iaddrV_map, emb, unAgg, ares, aresL, ares1, tupled, forall_const, Nat.reduceAdd, Nat.reduceSub, Nat.reduceMul, Nat.reduceLeDiff, Nat.reduceEqDiff, Nat.reduceBEq, Int.reduceLE, Int.reduceLT, Int.reduceEq, Int.reduceNe, Int.reduceAdd, Int.reduceSub, Int.reduceToNat, Int.reduceNeg, ↓reduceIte, reduceCtorEq, cellsOf, cellA, lay, fillA]
    refine KWk_two (by simp [bare]) (by simp [renL, ren]) (by simp [renL, ren]) ⟨?_, rfl⟩
    first | rfl | simp
end Go.Proofs.Ytemjlopoffjmpaa.Abs
set_option linter.unusedSimpArgs false
set_option linter.unusedVariables false
namespace Go.Proofs.Ytemjlopoffjmpaa.Abs
open Go Go.Proofs

def zeroC : List AV := [.int .i64 0, .int .i64 0, .int .i64 0, .int .i64 0, .emp]
theorem delete67 (l : List Dset) (hl : l.length ≤ 1000000) (i : Nat) (hi : i < l.length) :
    C Try.prog 67 [.own 0 5 0 l.length l.length, .int .i64 i, .int .i64 ((i + 1 : Nat) : Int)] [some (l.map cellD)] (fun x H' => x = .own 0 5 0 (l.length - 1) l.length ∧ H' = [some ((l.eraseIdx i).map cellD ++ [zeroC])]) := by
  refine C_body d67 rfl (WT_ok ?_)
  unfold c67
  have h1 : ¬ (i : Int) = ((i + 1 : Nat) : Int) := by omega
  simp only [h1, lay, slicelV_own, slicelV_fz, onLive_some, RT_slicel, RE_slicel, slice3V_eq, room3_some, roomOf_own, roomOf_fz, RT_slice3, RT_calld, apI_some, clC_some, clearV_own, clearV_fz, wk3, onStO, bareL, toCl, chunks, wk, iaddrV_map, emb, unAgg, ares, aresL, ares1, tupled, forall_const, Nat.reduceAdd, Nat.reduceSub, Nat.reduceMul, Nat.reduceLeDiff, Nat.reduceEqDiff, Nat.reduceBEq, Int.reduceLE, Int.reduceLT, Int.reduceEq, Int.reduceNe, Int.reduceAdd, Int.reduceSub, Int.reduceToNat, Int.reduceNeg, ↓reduceIte, reduceCtorEq, cellsOf, cellA, lay, fillA]
  refine ⟨⟨by omega, by omega⟩, ⟨by omega, by omega⟩, ⟨by omega, by omega⟩, ?_⟩
  refine WT_drawE ?_
  refine WDT_more 0 ?_
  have h2 : ¬ i + 1 = 0 := by omega
  have hlen : (l.map cellD).length = l.length := List.length_map _
  have er : (l.eraseIdx i).map cellD = (l.map cellD).take i ++ (l.map cellD).drop (i + 1) := by rw [List.eraseIdx_eq_take_drop_succ, List.map_append, List.map_take, List.map_drop]
  rw [er]
  generalize hcs : l.map cellD = cs at hlen
  have h5 : cs.all (fun e => decide (e.length = 5)) = true := by rw [← hcs]; exact rows5D l
  generalize hn : l.length = n at *
  clear hcs er hn
  by_cases h3 : n ≤ i + 1
  · have hA : ∀ z, appendV [some cs] 5 56 z (.own 0 5 0 i n) (.fz []) = some (.own 0 5 0 i n, [some cs]) := fun z => appendV_in _ _ _ _ _ _ _ _ _ (by
      simp [apI, srcOf, elemsOf, liveO, AH.at, hlen]; omega)
    simp only [h2, h3, hlen, lay, slicelV_own, slicelV_fz, onLive_some, RT_slicel, RE_slicel, slice3V_eq, room3_some, roomOf_own, roomOf_fz, RT_slice3, RT_calld, apI_some, clC_some, clearV_own, clearV_fz, wk3, onStO, bareL, toCl, chunks, wk, iaddrV_map, emb, unAgg, ares, aresL, ares1, tupled, forall_const, Nat.reduceAdd, Nat.reduceSub, Nat.reduceMul, Nat.reduceLeDiff, Nat.reduceEqDiff, Nat.reduceBEq, Int.reduceLE, Int.reduceLT, Int.reduceEq, Int.reduceNe, Int.reduceAdd, Int.reduceSub, Int.reduceToNat, Int.reduceNeg, ↓reduceIte, reduceCtorEq, cellsOf, cellA, lay, fillA]
    refine ⟨⟨by omega, by omega⟩, ⟨by omega, by omega⟩, by rfl, ?_⟩
    simp only [hA, hlen, lay, slicelV_own, slicelV_fz, onLive_some, RT_slicel, RE_slicel, slice3V_eq, room3_some, roomOf_own, roomOf_fz, RT_slice3, RT_calld, apI_some, clC_some, clearV_own, clearV_fz, wk3, onStO, bareL, toCl, chunks, wk, iaddrV_map, emb, unAgg, ares, aresL, ares1, tupled, forall_const, Nat.reduceAdd, Nat.reduceSub, Nat.reduceMul, Nat.reduceLeDiff, Nat.reduceEqDiff, Nat.reduceBEq, Int.reduceLE, Int.reduceLT, Int.reduceEq, Int.reduceNe, Int.reduceAdd, Int.reduceSub, Int.reduceToNat, Int.reduceNeg, ↓reduceIte, reduceCtorEq, cellsOf, cellA, lay, fillA]
    by_cases h0 : i = 0
    · subst h0
      have : n = 1 := by omega
      subst this
      simp only [hlen, lay, slicelV_own, slicelV_fz, onLive_some, RT_slicel, RE_slicel, slice3V_eq, room3_some, roomOf_own, roomOf_fz, RT_slice3, RT_calld, apI_some, clC_some, clearV_own, clearV_fz, wk3, onStO, bareL, toCl, chunks, wk, iaddrV_map, emb, unAgg, ares, aresL, ares1, tupled, forall_const, Nat.reduceAdd, Nat.reduceSub, Nat.reduceMul, Nat.reduceLeDiff, Nat.reduceEqDiff, Nat.reduceBEq, Int.reduceLE, Int.reduceLT, Int.reduceEq, Int.reduceNe, Int.reduceAdd, Int.reduceSub, Int.reduceToNat, Int.reduceNeg, ↓reduceIte, reduceCtorEq, cellsOf, cellA, lay, fillA]
      refine ⟨by omega, by omega, ?_⟩
      rw [List.drop_of_length_le (by omega)]; rfl
    · have h4 : ¬ n ≤ i := by omega
      simp only [h0, h4, hlen, lay, slicelV_own, slicelV_fz, onLive_some, RT_slicel, RE_slicel, slice3V_eq, room3_some, roomOf_own, roomOf_fz, RT_slice3, RT_calld, apI_some, clC_some, clearV_own, clearV_fz, wk3, onStO, bareL, toCl, chunks, wk, iaddrV_map, emb, unAgg, ares, aresL, ares1, tupled, forall_const, Nat.reduceAdd, Nat.reduceSub, Nat.reduceMul, Nat.reduceLeDiff, Nat.reduceEqDiff, Nat.reduceBEq, Int.reduceLE, Int.reduceLT, Int.reduceEq, Int.reduceNe, Int.reduceAdd, Int.reduceSub, Int.reduceToNat, Int.reduceNeg, ↓reduceIte, reduceCtorEq, cellsOf, cellA, lay, fillA]
      have hi1 : i = n - 1 := by omega
      refine ⟨⟨by omega, by omega⟩, ⟨by omega, by omega⟩, by omega, by rw [hi1], ?_⟩
      rw [List.drop_of_length_le (by omega), List.drop_of_length_le (by omega), show n - i = 1 by omega]
      simp only [List.append_nil]; rfl
  · have hB : ∀ z, appendV [some cs] 5 56 z (.own 0 5 0 i n) (.own 0 5 (i + 1) (n - (i + 1)) n) = some (.own 0 5 0 (n - 1) n, [some (cs.take i ++ cs.drop (i + 1) ++ cs.drop (n - 1))]) := fun z => appendV_in _ _ _ _ _ _ _ _ _ (by
      have e1 : (cs.drop (i + 1)).take (n - (i + 1)) = cs.drop (i + 1) := List.take_of_length_le (by simp [hlen])
      have e2 : i + (n - (i + 1)) = n - 1 := by omega
      have e3 : (cs.drop (i + 1)).all (fun e => decide (e.length = 5)) = true := by
        rw [List.all_eq_true] at h5 ⊢
        exact fun e he => h5 e (List.mem_of_mem_drop he)
      have e4 : srcOf [some cs] (.own 0 5 (i + 1) (n - (i + 1)) n) = some (cs.drop (i + 1)) := by
        rw [srcOf_own, liveO_cons_zero, if_pos hlen, elC_some, if_pos (by omega), e1]
      rw [e4, liveO_cons_zero, if_pos hlen, apI_some, if_pos ⟨e3, by simp [hlen]; omega, by omega⟩]
      simp only [List.length_drop, hlen, Nat.zero_add, e2, List.set_cons_zero])
    have hos : (cs.take i ++ cs.drop (i + 1) ++ cs.drop (n - 1)).length = n := by simp [hlen]; omega
    have hot : (cs.take i ++ cs.drop (i + 1) ++ cs.drop (n - 1)).take (n - 1) = cs.take i ++ cs.drop (i + 1) := by
      rw [List.take_append_of_le_length (by simp [hlen]; omega), List.take_of_length_le (by simp [hlen]; omega)]
    generalize cs.take i ++ cs.drop (i + 1) ++ cs.drop (n - 1) = os at hB hos hot
    rw [← hot]
    have h4 : ¬ n - 1 = 0 := by omega
    have h6 : ¬ n ≤ n - 1 := by omega
    simp only [h2, h3, hlen, lay, slicelV_own, slicelV_fz, onLive_some, RT_slicel, RE_slicel, slice3V_eq, room3_some, roomOf_own, roomOf_fz, RT_slice3, RT_calld, apI_some, clC_some, clearV_own, clearV_fz, wk3, onStO, bareL, toCl, chunks, wk, iaddrV_map, emb, unAgg, ares, aresL, ares1, tupled, forall_const, Nat.reduceAdd, Nat.reduceSub, Nat.reduceMul, Nat.reduceLeDiff, Nat.reduceEqDiff, Nat.reduceBEq, Int.reduceLE, Int.reduceLT, Int.reduceEq, Int.reduceNe, Int.reduceAdd, Int.reduceSub, Int.reduceToNat, Int.reduceNeg, ↓reduceIte, reduceCtorEq, cellsOf, cellA, lay, fillA]
    refine ⟨⟨by omega, by omega⟩, ⟨by omega, by omega⟩, by rfl, ?_⟩
    simp only [hB, h4, h6, hos, hlen, lay, slicelV_own, slicelV_fz, onLive_some, RT_slicel, RE_slicel, slice3V_eq, room3_some, roomOf_own, roomOf_fz, RT_slice3, RT_calld, apI_some, clC_some, clearV_own, clearV_fz, wk3, onStO, bareL, toCl, chunks, wk, iaddrV_map, emb, unAgg, ares, aresL, ares1, tupled, forall_const, Nat.reduceAdd, Nat.reduceSub, Nat.reduceMul, Nat.reduceLeDiff, Nat.reduceEqDiff, Nat.reduceBEq, Int.reduceLE, Int.reduceLT, Int.reduceEq, Int.reduceNe, Int.reduceAdd, Int.reduceSub, Int.reduceToNat, Int.reduceNeg, ↓reduceIte, reduceCtorEq, cellsOf, cellA, lay, fillA]
    refine ⟨⟨by omega, by omega⟩, ⟨by omega, by omega⟩, by omega, ?_⟩
    rw [List.drop_of_length_le (by omega), show n - (n - 1) = 1 by omega]
    simp only [List.append_nil]; rfl
end Go.Proofs.Ytemjlopoffjmpaa.Abs
set_option linter.unusedSimpArgs false
set_option linter.unusedVariables false
namespace Go.Proofs.Ytemjlopoffjmpaa.Abs
open Go Go.Proofs

theorem set_at {H : AH} {r : Nat} {o : AObj} (h : H.at r = some o) : H.set r (some o) = H := by
  have h1 := at_lt h
  unfold AH.at at h
  rw [List.getElem?_eq_getElem h1] at h
  have h2 : H[r] = some o := h
  rw [← h2, List.set_getElem_self]
/-- twin of sets in memory of one's own, wherever they lie. -/
theorem twinO (l : List Dset) (hl : Short l) (r : Nat) (H : AH) (hr : H.at r = some (l.map cellD)) : C Try.prog 59 [.own r 5 0 l.length l.length] H (fun x H' => x = .own H.length 5 0 l.length l.length ∧ H' = H ++ [some (l.map cellD)]) := by
  refine C_call [r] (by simp) (by simpa using at_lt hr) (K0 := fun x H' => x = .own 1 5 0 l.length l.length ∧ H' = [some (l.map cellD), some (l.map cellD)]) ?_ ?_
  · simpa [renL, ren, toCallee, renO_cells, hr] using twinO0 l hl
  · rintro _ _ ⟨rfl, rfl⟩
    refine ⟨by simp, by simp [ren, toCaller], ?_⟩
    simp [back, setAll, renO_cells, set_at hr]

/-- One more set, the last one. -/
def addOk (l : List Dset) (next : Int) : Bool := decide (l.length < 8) && decide (1 ≤ next) && decide (next ≤ 65535) && (decide (l.length = 0) || decide ((l.getD (l.length - 1) default).id < next))
def addA (l : List Dset) (next : Int) (x : Dset) : List Dset × Int := if addOk l next = true then (l ++ [{ x with id := next }], 0) else (l, 8)
def outA (r : List Dset × Int) : AV := .tuple [asets r.1, .int .i64 r.2]
theorem Short.snoc {l : List Dset} (h : Short l) (h8 : l.length < 8) {x : Dset} (hx : x.files.length ≤ 1000000) : Short (l ++ [x]) := by
  refine ⟨by simp; omega, fun d hd => ?_⟩
  rcases List.mem_append.1 hd with hd | hd
  · exact h.2 d hd
  · rw [List.mem_singleton] at hd; subst hd; exact hx

theorem KWk_sets {K : AV → AH → Prop} {H : AH} (r : Nat) (l : List Dset) (e : Int) (L : Nat) (hL : L = l.length) (hat : H.at r = some (l.map cellD)) (hk : K (.tuple [asets l, .int .i64 e]) []) : KWk 0 K (.tuple [.own r 5 0 L L, .int .i64 e]) H := by
  subst hL
  refine KWk_frozen r (l.map pdset) (by rw [cellsD]; exact hat) _ ?_ hk
  simp only [frzL, frz, renL, ren, asets, if_true, List.length_map, Nat.zero_add, Nat.le_refl, and_self, List.drop_zero]
  rw [List.take_of_length_le (by simp)]

section
variable {c : Nat} {H : AH} {late : List Loc → List Loc → Prop} {K : List Nat → Nat → AV → AH → Prop} {t : Tag K}
theorem CFT_clone (l : List Dset) (hl : l.length ≤ 1000000) (hc : c < H.length) (hk : K [c] (c + 1) (.own c 5 0 l.length l.length) (H.set c (some (l.map cellD)))) : CFT Try.prog 40 [asets l] c H late K t := by
  refine CET_ok [] 1 (x := .own 0 5 0 l.length l.length) (H1 := [some (l.map cellD)]) (by simpa [renL, ren, asets] using cloneL0 l hl) (fun y G h => h) ⟨by simp, by simp, by omega, by simp⟩ ?_
  simpa [setAll, renO_cells, ren, toCl, List.range'] using hk
end
theorem add0 (l : List Dset) (hl : Short l) (next : Int) (x : Dset) (hx : x.files.length ≤ 1000000) :
    C Try.prog 60 [asets l, .int .i64 next, .agg (cellD x)] [] (fun y H' => y = outA (addA l next x) ∧ H' = []) := by
  have hl1 := hl.1
  refine C_body' d60 rfl (WT_ok ?_)
  unfold c60
  by_cases hok : addOk l next = true
  · rw [show addA l next x = (l ++ [{ x with id := next }], 0) from if_pos hok]
    simp only [addOk, Bool.and_eq_true, Bool.or_eq_true, decide_eq_true_eq] at hok
    obtain ⟨⟨⟨h1, h2⟩, h3⟩, h4⟩ := hok
    have g1 : ¬ (8 : Int) ≤ (l.length : Int) := by omega
    have g2 : ¬ next < 1 := by omega
    have g3 : ¬ 65535 < next := by omega
    have hml : (l ++ [{ x with id := next }]).length = l.length + 1 := by simp
    rcases Nat.eq_zero_or_pos l.length with h0 | h0
    · have g4 : ¬ (0 : Int) < (l.length : Int) := by omega
      simp only [asets, cellD, aset, g1, g2, g3, g4, lay, wk3, onStO, bareL, toCl, chunks, wk, iaddrV_map, emb, unAgg, ares, aresL, ares1, tupled, forall_const, Nat.reduceAdd, Nat.reduceSub, Nat.reduceMul, Nat.reduceLeDiff, Nat.reduceEqDiff, Nat.reduceBEq, Int.reduceLE, Int.reduceLT, Int.reduceEq, Int.reduceNe, Int.reduceAdd, Int.reduceSub, Int.reduceToNat, Int.reduceNeg, ↓reduceIte, reduceCtorEq, cellsOf, cellA, lay, fillA]
      refine WT_drawE ?_
      refine WDT_more 2 ?_
      simp only [lay, wk3, onStO, bareL, toCl, chunks, wk, iaddrV_map, emb, unAgg, ares, aresL, ares1, tupled, forall_const, Nat.reduceAdd, Nat.reduceSub, Nat.reduceMul, Nat.reduceLeDiff, Nat.reduceEqDiff, Nat.reduceBEq, Int.reduceLE, Int.reduceLT, Int.reduceEq, Int.reduceNe, Int.reduceAdd, Int.reduceSub, Int.reduceToNat, Int.reduceNeg, ↓reduceIte, reduceCtorEq, cellsOf, cellA, lay, fillA]
      refine ⟨by omega, CFT_clone l hl1 (by simp) ?_⟩
      simp only [ren, renL, lay, wk3, onStO, bareL, toCl, chunks, wk, iaddrV_map, emb, unAgg, ares, aresL, ares1, tupled, forall_const, Nat.reduceAdd, Nat.reduceSub, Nat.reduceMul, Nat.reduceLeDiff, Nat.reduceEqDiff, Nat.reduceBEq, Int.reduceLE, Int.reduceLT, Int.reduceEq, Int.reduceNe, Int.reduceAdd, Int.reduceSub, Int.reduceToNat, Int.reduceNeg, ↓reduceIte, reduceCtorEq, cellsOf, cellA, lay, fillA]
      refine ⟨by rfl, ?_⟩
      refine ⟨⟨by omega, by omega⟩, ?_⟩
      rw [← hml]
      refine CT_ok (twinO (l ++ [{ x with id := next }]) (hl.snoc (by omega) hx) 2 _ (by simp [AH.at, cellD, aset])) ?_
      rintro _ _ ⟨rfl, rfl⟩
      simp only [lay, wk3, onStO, bareL, toCl, chunks, wk, iaddrV_map, emb, unAgg, ares, aresL, ares1, tupled, forall_const, Nat.reduceAdd, Nat.reduceSub, Nat.reduceMul, Nat.reduceLeDiff, Nat.reduceEqDiff, Nat.reduceBEq, Int.reduceLE, Int.reduceLT, Int.reduceEq, Int.reduceNe, Int.reduceAdd, Int.reduceSub, Int.reduceToNat, Int.reduceNeg, ↓reduceIte, reduceCtorEq, cellsOf, cellA, lay, fillA]
      refine KWk_sets 3 (l ++ [{ x with id := next }]) 0 _ (by simp) rfl ⟨rfl, rfl⟩
    · have g4 : (0 : Int) < (l.length : Int) := by omega
      have g5 : ¬ next ≤ (l.getD (l.length - 1) default).id := by omega
      have w1 : IntKind.i64.wrap ((l.length : Int) - 1) = ((l.length - 1 : Nat) : Int) := by rw [IntWalk.i64_in _ (by omega)]; omega
      have g6 : (0 : Int) ≤ ((l.length - 1 : Nat) : Int) := by omega
      have g7 : ((l.length - 1 : Nat) : Int) < (l.length : Int) := by omega
      simp only [asets, cellD, aset, pdset, g1, g2, g3, g4, g5, g6, g7, w1, lay, wk3, onStO, bareL, toCl, chunks, wk, iaddrV_map, emb, unAgg, ares, aresL, ares1, tupled, forall_const, Nat.reduceAdd, Nat.reduceSub, Nat.reduceMul, Nat.reduceLeDiff, Nat.reduceEqDiff, Nat.reduceBEq, Int.reduceLE, Int.reduceLT, Int.reduceEq, Int.reduceNe, Int.reduceAdd, Int.reduceSub, Int.reduceToNat, Int.reduceNeg, ↓reduceIte, reduceCtorEq, cellsOf, cellA, lay, fillA]
      refine WT_drawE ?_
      refine WDT_more 2 ?_
      simp only [lay, wk3, onStO, bareL, toCl, chunks, wk, iaddrV_map, emb, unAgg, ares, aresL, ares1, tupled, forall_const, Nat.reduceAdd, Nat.reduceSub, Nat.reduceMul, Nat.reduceLeDiff, Nat.reduceEqDiff, Nat.reduceBEq, Int.reduceLE, Int.reduceLT, Int.reduceEq, Int.reduceNe, Int.reduceAdd, Int.reduceSub, Int.reduceToNat, Int.reduceNeg, ↓reduceIte, reduceCtorEq, cellsOf, cellA, lay, fillA]
      refine ⟨by omega, CFT_clone l hl1 (by simp) ?_⟩
      simp only [ren, renL, lay, wk3, onStO, bareL, toCl, chunks, wk, iaddrV_map, emb, unAgg, ares, aresL, ares1, tupled, forall_const, Nat.reduceAdd, Nat.reduceSub, Nat.reduceMul, Nat.reduceLeDiff, Nat.reduceEqDiff, Nat.reduceBEq, Int.reduceLE, Int.reduceLT, Int.reduceEq, Int.reduceNe, Int.reduceAdd, Int.reduceSub, Int.reduceToNat, Int.reduceNeg, ↓reduceIte, reduceCtorEq, cellsOf, cellA, lay, fillA]
      refine ⟨by rfl, ?_⟩
      refine ⟨⟨by omega, by omega⟩, ?_⟩
      rw [← hml]
      refine CT_ok (twinO (l ++ [{ x with id := next }]) (hl.snoc (by omega) hx) 2 _ (by simp [AH.at, cellD, aset])) ?_
      rintro _ _ ⟨rfl, rfl⟩
      simp only [lay, wk3, onStO, bareL, toCl, chunks, wk, iaddrV_map, emb, unAgg, ares, aresL, ares1, tupled, forall_const, Nat.reduceAdd, Nat.reduceSub, Nat.reduceMul, Nat.reduceLeDiff, Nat.reduceEqDiff, Nat.reduceBEq, Int.reduceLE, Int.reduceLT, Int.reduceEq, Int.reduceNe, Int.reduceAdd, Int.reduceSub, Int.reduceToNat, Int.reduceNeg, ↓reduceIte, reduceCtorEq, cellsOf, cellA, lay, fillA]
      refine KWk_sets 3 (l ++ [{ x with id := next }]) 0 _ (by simp) rfl ⟨rfl, rfl⟩
  · rw [show addA l next x = (l, 8) from if_neg hok]
    have e5 : ∀ k : Nat, (pdset (l.getD k default)).length = 5 := fun _ => rfl
    by_cases g1 : (8 : Int) ≤ (l.length : Int)
    · simp only [asets, cellD, aset, g1, lay, wk3, onStO, bareL, toCl, chunks, wk, iaddrV_map, emb, unAgg, ares, aresL, ares1, tupled, forall_const, Nat.reduceAdd, Nat.reduceSub, Nat.reduceMul, Nat.reduceLeDiff, Nat.reduceEqDiff, Nat.reduceBEq, Int.reduceLE, Int.reduceLT, Int.reduceEq, Int.reduceNe, Int.reduceAdd, Int.reduceSub, Int.reduceToNat, Int.reduceNeg, ↓reduceIte, reduceCtorEq, cellsOf, cellA, lay, fillA]
      refine CT_ok (twinL l hl _) ?_
      rintro _ _ ⟨rfl, rfl⟩
      simp only [lay, wk3, onStO, bareL, toCl, chunks, wk, iaddrV_map, emb, unAgg, ares, aresL, ares1, tupled, forall_const, Nat.reduceAdd, Nat.reduceSub, Nat.reduceMul, Nat.reduceLeDiff, Nat.reduceEqDiff, Nat.reduceBEq, Int.reduceLE, Int.reduceLT, Int.reduceEq, Int.reduceNe, Int.reduceAdd, Int.reduceSub, Int.reduceToNat, Int.reduceNeg, ↓reduceIte, reduceCtorEq, cellsOf, cellA, lay, fillA]
      exact KWk_sets 1 l 8 _ rfl rfl ⟨rfl, rfl⟩
    by_cases g2 : next < 1
    · simp only [asets, cellD, aset, g1, g2, lay, wk3, onStO, bareL, toCl, chunks, wk, iaddrV_map, emb, unAgg, ares, aresL, ares1, tupled, forall_const, Nat.reduceAdd, Nat.reduceSub, Nat.reduceMul, Nat.reduceLeDiff, Nat.reduceEqDiff, Nat.reduceBEq, Int.reduceLE, Int.reduceLT, Int.reduceEq, Int.reduceNe, Int.reduceAdd, Int.reduceSub, Int.reduceToNat, Int.reduceNeg, ↓reduceIte, reduceCtorEq, cellsOf, cellA, lay, fillA]
      refine CT_ok (twinL l hl _) ?_
      rintro _ _ ⟨rfl, rfl⟩
      simp only [lay, wk3, onStO, bareL, toCl, chunks, wk, iaddrV_map, emb, unAgg, ares, aresL, ares1, tupled, forall_const, Nat.reduceAdd, Nat.reduceSub, Nat.reduceMul, Nat.reduceLeDiff, Nat.reduceEqDiff, Nat.reduceBEq, Int.reduceLE, Int.reduceLT, Int.reduceEq, Int.reduceNe, Int.reduceAdd, Int.reduceSub, Int.reduceToNat, Int.reduceNeg, ↓reduceIte, reduceCtorEq, cellsOf, cellA, lay, fillA]
      exact KWk_sets 1 l 8 _ rfl rfl ⟨rfl, rfl⟩
    by_cases g3 : 65535 < next
    · simp only [asets, cellD, aset, g1, g2, g3, lay, wk3, onStO, bareL, toCl, chunks, wk, iaddrV_map, emb, unAgg, ares, aresL, ares1, tupled, forall_const, Nat.reduceAdd, Nat.reduceSub, Nat.reduceMul, Nat.reduceLeDiff, Nat.reduceEqDiff, Nat.reduceBEq, Int.reduceLE, Int.reduceLT, Int.reduceEq, Int.reduceNe, Int.reduceAdd, Int.reduceSub, Int.reduceToNat, Int.reduceNeg, ↓reduceIte, reduceCtorEq, cellsOf, cellA, lay, fillA]
      refine CT_ok (twinL l hl _) ?_
      rintro _ _ ⟨rfl, rfl⟩
      simp only [lay, wk3, onStO, bareL, toCl, chunks, wk, iaddrV_map, emb, unAgg, ares, aresL, ares1, tupled, forall_const, Nat.reduceAdd, Nat.reduceSub, Nat.reduceMul, Nat.reduceLeDiff, Nat.reduceEqDiff, Nat.reduceBEq, Int.reduceLE, Int.reduceLT, Int.reduceEq, Int.reduceNe, Int.reduceAdd, Int.reduceSub, Int.reduceToNat, Int.reduceNeg, ↓reduceIte, reduceCtorEq, cellsOf, cellA, lay, fillA]
      exact KWk_sets 1 l 8 _ rfl rfl ⟨rfl, rfl⟩
    have hok2 : ¬ (l.length = 0 ∨ (l.getD (l.length - 1) default).id < next) := by
      intro h
      apply hok
      simp only [addOk, Bool.and_eq_true, Bool.or_eq_true, decide_eq_true_eq]
      exact ⟨⟨⟨by omega, by omega⟩, by omega⟩, h⟩
    have g4 : (0 : Int) < (l.length : Int) := by
      have : ¬ l.length = 0 := fun e => hok2 (.inl e)
      omega
    have g5 : next ≤ (l.getD (l.length - 1) default).id := Int.not_lt.1 fun e => hok2 (.inr e)
    have w1 : IntKind.i64.wrap ((l.length : Int) - 1) = ((l.length - 1 : Nat) : Int) := by rw [IntWalk.i64_in _ (by omega)]; omega
    have g6 : (0 : Int) ≤ ((l.length - 1 : Nat) : Int) := by omega
    have g7 : ((l.length - 1 : Nat) : Int) < (l.length : Int) := by omega
    simp only [asets, cellD, aset, pdset, g1, g2, g3, g4, g5, g6, g7, w1, lay, wk3, onStO, bareL, toCl, chunks, wk, iaddrV_map, emb, unAgg, ares, aresL, ares1, tupled, forall_const, Nat.reduceAdd, Nat.reduceSub, Nat.reduceMul, Nat.reduceLeDiff, Nat.reduceEqDiff, Nat.reduceBEq, Int.reduceLE, Int.reduceLT, Int.reduceEq, Int.reduceNe, Int.reduceAdd, Int.reduceSub, Int.reduceToNat, Int.reduceNeg, ↓reduceIte, reduceCtorEq, cellsOf, cellA, lay, fillA]
    refine CT_ok (twinL l hl _) ?_
    rintro _ _ ⟨rfl, rfl⟩
    simp only [lay, wk3, onStO, bareL, toCl, chunks, wk, iaddrV_map, emb, unAgg, ares, aresL, ares1, tupled, forall_const, Nat.reduceAdd, Nat.reduceSub, Nat.reduceMul, Nat.reduceLeDiff, Nat.reduceEqDiff, Nat.reduceBEq, Int.reduceLE, Int.reduceLT, Int.reduceEq, Int.reduceNe, Int.reduceAdd, Int.reduceSub, Int.reduceToNat, Int.reduceNeg, ↓reduceIte, reduceCtorEq, cellsOf, cellA, lay, fillA]
    exact KWk_sets 1 l 8 _ rfl rfl ⟨rfl, rfl⟩
theorem outA_bare (r : List Dset × Int) : bare (outA r) = true := by simp [outA, bare, bareL, asets]
/-- From a contract over the empty heap to one over any. -/
theorem C_any {f : FuncId} {args : List AV} {y : AV} (h : C Try.prog f args [] (fun x H' => x = y ∧ H' = [])) (ha : bareL args = true) (hy : bare y = true) (H : AH) : C Try.prog f args H (fun x H' => x = y ∧ H' = H) :=
  C_pure (K0 := fun x => x = y) h (fun τ => renL_bare τ _ ha) (by rintro x rfl τ; exact ren_bare τ _ hy) H
theorem cellD_bare (d : Dset) : bare (.agg (cellD d)) = true := by simp [cellD, bare, bareL, aset]
theorem addL (l : List Dset) (hl : Short l) (next : Int) (x : Dset) (hx : x.files.length ≤ 1000000) (H : AH) :
    C Try.prog 60 [asets l, .int .i64 next, .agg (cellD x)] H (fun y H' => y = outA (addA l next x) ∧ H' = H) :=
  C_any (add0 l hl next x hx) (by simp [bareL, bare, asets, cellD, aset]) (outA_bare _) H
end Go.Proofs.Ytemjlopoffjmpaa.Abs
set_option linter.unusedSimpArgs false
set_option linter.unusedVariables false
namespace Go.Proofs.Ytemjlopoffjmpaa.Abs
open Go Go.Proofs

theorem findAt (l : List Dset) (hl : l.length ≤ 1000000) (i : Int) (r : Nat) (H : AH) (hr : H.at r = some (l.map cellD)) : C Try.prog 62 [.own r 5 0 l.length l.length, .int .i64 i] H (fun x H' => x = .int .i64 (findA l i) ∧ H' = H) := by
  refine C_call [r] (by simp) (by simpa using at_lt hr) (K0 := fun x H' => x = .int .i64 (findA l i) ∧ H' = [some (l.map cellD)]) ?_ ?_
  · simpa [renL, ren, toCallee, renO_cells, hr] using find0 l hl i
  · rintro _ _ ⟨rfl, rfl⟩
    refine ⟨by simp, by simp [ren], ?_⟩
    simp [back, setAll, renO_cells, set_at hr]
theorem isAt (l : List Dset) (hl : l.length ≤ 1000000) (i k : Int) (r : Nat) (H : AH) (hr : H.at r = some (l.map cellD)) : C Try.prog 63 [.own r 5 0 l.length l.length, .int .i64 i, .int .i64 k] H (fun x H' => x = .bool (isA l i k) ∧ H' = H) := by
  refine C_call [r] (by simp) (by simpa using at_lt hr) (K0 := fun x H' => x = .bool (isA l i k) ∧ H' = [some (l.map cellD)]) ?_ ?_
  · simpa [renL, ren, toCallee, renO_cells, hr] using is63 l hl i k []
  · rintro _ _ ⟨rfl, rfl⟩
    refine ⟨by simp, by simp [ren], ?_⟩
    simp [back, setAll, renO_cells, set_at hr]

/-- The set of an ID. -/
def getA (l : List Dset) (i : Int) : Option Dset := if 0 ≤ findA l i then some (l.getD (findA l i).toNat default) else none
def getV : Option Dset → AV
  | some d => .tuple [.agg (cellD d), .bool true]
  | none => .tuple [.agg [.int .i64 0, .int .i64 0, .int .i64 0, .int .i64 0, .emp], .bool false]
theorem getV_bare (o : Option Dset) : bare (getV o) = true := by cases o <;> simp [getV, bare, bareL, cellD, aset]
theorem get0 (l : List Dset) (hl : Short l) (i : Int) : C Try.prog 42 [asets l, .int .i64 i] [] (fun x H' => x = getV (getA l i) ∧ H' = []) := by
  have hl1 := hl.1
  refine C_body' d42 rfl (WT_ok ?_)
  unfold c42
  simp only [lay, wk3, onStO, bareL, toCl, chunks, wk, iaddrV_map, emb, unAgg, ares, aresL, ares1, tupled, forall_const, Nat.reduceAdd, Nat.reduceSub, Nat.reduceMul, Nat.reduceLeDiff, Nat.reduceEqDiff, Nat.reduceBEq, Int.reduceLE, Int.reduceLT, Int.reduceEq, Int.reduceNe, Int.reduceAdd, Int.reduceSub, Int.reduceToNat, Int.reduceNeg, ↓reduceIte, reduceCtorEq, cellsOf, cellA, lay, fillA]
  refine CT_ok (twinL l hl _) ?_
  rintro _ _ ⟨rfl, rfl⟩
  simp only [lay, wk3, onStO, bareL, toCl, chunks, wk, iaddrV_map, emb, unAgg, ares, aresL, ares1, tupled, forall_const, Nat.reduceAdd, Nat.reduceSub, Nat.reduceMul, Nat.reduceLeDiff, Nat.reduceEqDiff, Nat.reduceBEq, Int.reduceLE, Int.reduceLT, Int.reduceEq, Int.reduceNe, Int.reduceAdd, Int.reduceSub, Int.reduceToNat, Int.reduceNeg, ↓reduceIte, reduceCtorEq, cellsOf, cellA, lay, fillA]
  refine CT_ok (findAt l hl1 i 1 _ rfl) ?_
  rintro _ _ ⟨rfl, rfl⟩
  unfold getA
  rcases find_of (l := l) (i := i) with ⟨e, _⟩ | ⟨k, e, hk, _, _⟩
  · simp only [e, lay, wk3, onStO, bareL, toCl, chunks, wk, iaddrV_map, emb, unAgg, ares, aresL, ares1, tupled, forall_const, Nat.reduceAdd, Nat.reduceSub, Nat.reduceMul, Nat.reduceLeDiff, Nat.reduceEqDiff, Nat.reduceBEq, Int.reduceLE, Int.reduceLT, Int.reduceEq, Int.reduceNe, Int.reduceAdd, Int.reduceSub, Int.reduceToNat, Int.reduceNeg, ↓reduceIte, reduceCtorEq, cellsOf, cellA, lay, fillA]
    exact KWk_bare (by simp [bare, bareL]) ⟨rfl, rfl⟩
  · have hc := cell_at hk
    have h0 : (0 : Int) ≤ k := by omega
    have h1 : (k : Int) < l.length := by omega
    have h2 : ¬ (k : Int) < 0 := by omega
    rw [e]
    simp only [hc, h0, h1, h2, cellD, aset, lay, wk3, onStO, bareL, toCl, chunks, wk, iaddrV_map, emb, unAgg, ares, aresL, ares1, tupled, forall_const, Nat.reduceAdd, Nat.reduceSub, Nat.reduceMul, Nat.reduceLeDiff, Nat.reduceEqDiff, Nat.reduceBEq, Int.reduceLE, Int.reduceLT, Int.reduceEq, Int.reduceNe, Int.reduceAdd, Int.reduceSub, Int.reduceToNat, Int.reduceNeg, ↓reduceIte, reduceCtorEq, cellsOf, cellA, lay, fillA]
    exact KWk_bare (by simp [bare, bareL]) ⟨rfl, rfl⟩
theorem getL (l : List Dset) (hl : Short l) (i : Int) (H : AH) : C Try.prog 42 [asets l, .int .i64 i] H (fun x H' => x = getV (getA l i) ∧ H' = H) :=
  C_any (get0 l hl i) (by simp [bareL, bare, asets]) (getV_bare _) H
theorem getA_mem {l : List Dset} {i : Int} {d : Dset} (h : getA l i = some d) : d ∈ l ∧ d.id = i := by
  unfold getA at h
  rcases find_of (l := l) (i := i) with ⟨e, _⟩ | ⟨k, e, hk, hid, _⟩
  · rw [e] at h; cases h
  · rw [e, if_pos (by omega), Int.toNat_natCast] at h
    cases h
    refine ⟨?_, hid⟩
    rw [List.getD_eq_getElem?_getD, List.getElem?_eq_getElem hk]; exact List.getElem_mem hk

theorem newN0 : C Try.prog 61 [] [] (fun x H' => x = aset newA ∧ H' = []) := by
  refine C_body' d61 rfl (WT_ok ?_)
  unfold c61
  simp only [lay, wk3, onStO, bareL, toCl, chunks, wk, iaddrV_map, emb, unAgg, ares, aresL, ares1, tupled, forall_const, Nat.reduceAdd, Nat.reduceSub, Nat.reduceMul, Nat.reduceLeDiff, Nat.reduceEqDiff, Nat.reduceBEq, Int.reduceLE, Int.reduceLT, Int.reduceEq, Int.reduceNe, Int.reduceAdd, Int.reduceSub, Int.reduceToNat, Int.reduceNeg, ↓reduceIte, reduceCtorEq, cellsOf, cellA, lay, fillA]
  exact ⟨by omega, KWk_frozen 0 (newA.map pnode) rfl (aset newA) rfl ⟨rfl, rfl⟩⟩
theorem newN (H : AH) : C Try.prog 61 [] H (fun x H' => x = aset newA ∧ H' = H) := C_any newN0 rfl (by simp [aset, bare]) H

/-- dset.Create -/
def createA (l : List Dset) (next q : Int) : List Dset × Int := if q < 0 ∨ 255 < q then (l, 1) else addA l next ⟨0, 1, 0, q, newA⟩
theorem create0 (l : List Dset) (hl : Short l) (next q : Int) : C Try.prog 25 [asets l, .int .i64 next, .int .i64 q] [] (fun x H' => x = outA (createA l next q) ∧ H' = []) := by
  refine C_body' d25 rfl (WT_ok ?_)
  unfold c25 createA
  by_cases h1 : q < 0
  · rw [if_pos (.inl h1)]
    simp only [h1, lay, wk3, onStO, bareL, toCl, chunks, wk, iaddrV_map, emb, unAgg, ares, aresL, ares1, tupled, forall_const, Nat.reduceAdd, Nat.reduceSub, Nat.reduceMul, Nat.reduceLeDiff, Nat.reduceEqDiff, Nat.reduceBEq, Int.reduceLE, Int.reduceLT, Int.reduceEq, Int.reduceNe, Int.reduceAdd, Int.reduceSub, Int.reduceToNat, Int.reduceNeg, ↓reduceIte, reduceCtorEq, cellsOf, cellA, lay, fillA]
    refine CT_ok (twinL l hl _) ?_
    rintro _ _ ⟨rfl, rfl⟩
    simp only [lay, wk3, onStO, bareL, toCl, chunks, wk, iaddrV_map, emb, unAgg, ares, aresL, ares1, tupled, forall_const, Nat.reduceAdd, Nat.reduceSub, Nat.reduceMul, Nat.reduceLeDiff, Nat.reduceEqDiff, Nat.reduceBEq, Int.reduceLE, Int.reduceLT, Int.reduceEq, Int.reduceNe, Int.reduceAdd, Int.reduceSub, Int.reduceToNat, Int.reduceNeg, ↓reduceIte, reduceCtorEq, cellsOf, cellA, lay, fillA]
    exact KWk_sets 0 l 1 _ rfl rfl ⟨rfl, rfl⟩
  by_cases h2 : 255 < q
  · rw [if_pos (.inr h2)]
    simp only [h1, h2, lay, wk3, onStO, bareL, toCl, chunks, wk, iaddrV_map, emb, unAgg, ares, aresL, ares1, tupled, forall_const, Nat.reduceAdd, Nat.reduceSub, Nat.reduceMul, Nat.reduceLeDiff, Nat.reduceEqDiff, Nat.reduceBEq, Int.reduceLE, Int.reduceLT, Int.reduceEq, Int.reduceNe, Int.reduceAdd, Int.reduceSub, Int.reduceToNat, Int.reduceNeg, ↓reduceIte, reduceCtorEq, cellsOf, cellA, lay, fillA]
    refine CT_ok (twinL l hl _) ?_
    rintro _ _ ⟨rfl, rfl⟩
    simp only [lay, wk3, onStO, bareL, toCl, chunks, wk, iaddrV_map, emb, unAgg, ares, aresL, ares1, tupled, forall_const, Nat.reduceAdd, Nat.reduceSub, Nat.reduceMul, Nat.reduceLeDiff, Nat.reduceEqDiff, Nat.reduceBEq, Int.reduceLE, Int.reduceLT, Int.reduceEq, Int.reduceNe, Int.reduceAdd, Int.reduceSub, Int.reduceToNat, Int.reduceNeg, ↓reduceIte, reduceCtorEq, cellsOf, cellA, lay, fillA]
    exact KWk_sets 0 l 1 _ rfl rfl ⟨rfl, rfl⟩
  · rw [if_neg (fun h => h.elim h1 h2)]
    simp only [h1, h2, lay, wk3, onStO, bareL, toCl, chunks, wk, iaddrV_map, emb, unAgg, ares, aresL, ares1, tupled, forall_const, Nat.reduceAdd, Nat.reduceSub, Nat.reduceMul, Nat.reduceLeDiff, Nat.reduceEqDiff, Nat.reduceBEq, Int.reduceLE, Int.reduceLT, Int.reduceEq, Int.reduceNe, Int.reduceAdd, Int.reduceSub, Int.reduceToNat, Int.reduceNeg, ↓reduceIte, reduceCtorEq, cellsOf, cellA, lay, fillA]
    refine CT_ok (newN _) ?_
    rintro _ _ ⟨rfl, rfl⟩
    simp only [aset, lay, wk3, onStO, bareL, toCl, chunks, wk, iaddrV_map, emb, unAgg, ares, aresL, ares1, tupled, forall_const, Nat.reduceAdd, Nat.reduceSub, Nat.reduceMul, Nat.reduceLeDiff, Nat.reduceEqDiff, Nat.reduceBEq, Int.reduceLE, Int.reduceLT, Int.reduceEq, Int.reduceNe, Int.reduceAdd, Int.reduceSub, Int.reduceToNat, Int.reduceNeg, ↓reduceIte, reduceCtorEq, cellsOf, cellA, lay, fillA]
    refine CT_ok (addL l hl next ⟨0, 1, 0, q, newA⟩ (show newA.length ≤ 1000000 by decide) _) ?_
    rintro _ _ ⟨rfl, rfl⟩
    simp only [outA, lay, wk3, onStO, bareL, toCl, chunks, wk, iaddrV_map, emb, unAgg, ares, aresL, ares1, tupled, forall_const, Nat.reduceAdd, Nat.reduceSub, Nat.reduceMul, Nat.reduceLeDiff, Nat.reduceEqDiff, Nat.reduceBEq, Int.reduceLE, Int.reduceLT, Int.reduceEq, Int.reduceNe, Int.reduceAdd, Int.reduceSub, Int.reduceToNat, Int.reduceNeg, ↓reduceIte, reduceCtorEq, cellsOf, cellA, lay, fillA]
    exact KWk_bare (by simp [bare, bareL, asets]) ⟨rfl, rfl⟩
/-- dset.Snap -/
def snapA (l : List Dset) (next i : Int) : List Dset × Int := match getA l i with
  | none => (l, 2)
  | some d => if d.kind = 2 then (l, 11) else addA l next ⟨0, 2, i, 0, d.files⟩
theorem snap0 (l : List Dset) (hl : Short l) (next i : Int) : C Try.prog 26 [asets l, .int .i64 next, .int .i64 i] [] (fun x H' => x = outA (snapA l next i) ∧ H' = []) := by
  refine C_body' d26 rfl (WT_ok ?_)
  unfold c26
  simp only [lay, wk3, onStO, bareL, toCl, chunks, wk, iaddrV_map, emb, unAgg, ares, aresL, ares1, tupled, forall_const, Nat.reduceAdd, Nat.reduceSub, Nat.reduceMul, Nat.reduceLeDiff, Nat.reduceEqDiff, Nat.reduceBEq, Int.reduceLE, Int.reduceLT, Int.reduceEq, Int.reduceNe, Int.reduceAdd, Int.reduceSub, Int.reduceToNat, Int.reduceNeg, ↓reduceIte, reduceCtorEq, cellsOf, cellA, lay, fillA]
  refine CT_ok (getL l hl i _) ?_
  rintro _ _ ⟨rfl, rfl⟩
  cases hg : getA l i with
  | none =>
    have e : snapA l next i = (l, 2) := by unfold snapA; rw [hg]
    rw [e]
    simp only [getV, lay, wk3, onStO, bareL, toCl, chunks, wk, iaddrV_map, emb, unAgg, ares, aresL, ares1, tupled, forall_const, Nat.reduceAdd, Nat.reduceSub, Nat.reduceMul, Nat.reduceLeDiff, Nat.reduceEqDiff, Nat.reduceBEq, Int.reduceLE, Int.reduceLT, Int.reduceEq, Int.reduceNe, Int.reduceAdd, Int.reduceSub, Int.reduceToNat, Int.reduceNeg, ↓reduceIte, reduceCtorEq, cellsOf, cellA, lay, fillA]
    refine CT_ok (twinL l hl _) ?_
    rintro _ _ ⟨rfl, rfl⟩
    simp only [lay, wk3, onStO, bareL, toCl, chunks, wk, iaddrV_map, emb, unAgg, ares, aresL, ares1, tupled, forall_const, Nat.reduceAdd, Nat.reduceSub, Nat.reduceMul, Nat.reduceLeDiff, Nat.reduceEqDiff, Nat.reduceBEq, Int.reduceLE, Int.reduceLT, Int.reduceEq, Int.reduceNe, Int.reduceAdd, Int.reduceSub, Int.reduceToNat, Int.reduceNeg, ↓reduceIte, reduceCtorEq, cellsOf, cellA, lay, fillA]
    exact KWk_sets 1 l 2 _ rfl rfl ⟨rfl, rfl⟩
  | some d =>
    have hd := hl.2 d (getA_mem hg).1
    by_cases h2 : d.kind = 2
    · have e : snapA l next i = (l, 11) := by unfold snapA; rw [hg]; exact if_pos h2
      rw [e]
      simp only [getV, h2, cellD, aset, lay, wk3, onStO, bareL, toCl, chunks, wk, iaddrV_map, emb, unAgg, ares, aresL, ares1, tupled, forall_const, Nat.reduceAdd, Nat.reduceSub, Nat.reduceMul, Nat.reduceLeDiff, Nat.reduceEqDiff, Nat.reduceBEq, Int.reduceLE, Int.reduceLT, Int.reduceEq, Int.reduceNe, Int.reduceAdd, Int.reduceSub, Int.reduceToNat, Int.reduceNeg, ↓reduceIte, reduceCtorEq, cellsOf, cellA, lay, fillA]
      refine CT_ok (twinL l hl _) ?_
      rintro _ _ ⟨rfl, rfl⟩
      simp only [lay, wk3, onStO, bareL, toCl, chunks, wk, iaddrV_map, emb, unAgg, ares, aresL, ares1, tupled, forall_const, Nat.reduceAdd, Nat.reduceSub, Nat.reduceMul, Nat.reduceLeDiff, Nat.reduceEqDiff, Nat.reduceBEq, Int.reduceLE, Int.reduceLT, Int.reduceEq, Int.reduceNe, Int.reduceAdd, Int.reduceSub, Int.reduceToNat, Int.reduceNeg, ↓reduceIte, reduceCtorEq, cellsOf, cellA, lay, fillA]
      exact KWk_sets 1 l 11 _ rfl rfl ⟨rfl, rfl⟩
    · have e : snapA l next i = addA l next ⟨0, 2, i, 0, d.files⟩ := by unfold snapA; rw [hg]; exact if_neg h2
      rw [e]
      simp only [getV, h2, cellD, aset, lay, wk3, onStO, bareL, toCl, chunks, wk, iaddrV_map, emb, unAgg, ares, aresL, ares1, tupled, forall_const, Nat.reduceAdd, Nat.reduceSub, Nat.reduceMul, Nat.reduceLeDiff, Nat.reduceEqDiff, Nat.reduceBEq, Int.reduceLE, Int.reduceLT, Int.reduceEq, Int.reduceNe, Int.reduceAdd, Int.reduceSub, Int.reduceToNat, Int.reduceNeg, ↓reduceIte, reduceCtorEq, cellsOf, cellA, lay, fillA]
      refine CT_ok (addL l hl next ⟨0, 2, i, 0, d.files⟩ hd _) ?_
      rintro _ _ ⟨rfl, rfl⟩
      simp only [outA, lay, wk3, onStO, bareL, toCl, chunks, wk, iaddrV_map, emb, unAgg, ares, aresL, ares1, tupled, forall_const, Nat.reduceAdd, Nat.reduceSub, Nat.reduceMul, Nat.reduceLeDiff, Nat.reduceEqDiff, Nat.reduceBEq, Int.reduceLE, Int.reduceLT, Int.reduceEq, Int.reduceNe, Int.reduceAdd, Int.reduceSub, Int.reduceToNat, Int.reduceNeg, ↓reduceIte, reduceCtorEq, cellsOf, cellA, lay, fillA]
      exact KWk_bare (by simp [bare, bareL, asets]) ⟨rfl, rfl⟩
/-- dset.Clone -/
def cloneA (l : List Dset) (next i : Int) : List Dset × Int := match getA l i with
  | none => (l, 2)
  | some d => if d.kind = 2 then addA l next ⟨0, 1, i, 0, d.files⟩ else (l, 1)
theorem dclone0 (l : List Dset) (hl : Short l) (next i : Int) : C Try.prog 27 [asets l, .int .i64 next, .int .i64 i] [] (fun x H' => x = outA (cloneA l next i) ∧ H' = []) := by
  refine C_body' d27 rfl (WT_ok ?_)
  unfold c27
  simp only [lay, wk3, onStO, bareL, toCl, chunks, wk, iaddrV_map, emb, unAgg, ares, aresL, ares1, tupled, forall_const, Nat.reduceAdd, Nat.reduceSub, Nat.reduceMul, Nat.reduceLeDiff, Nat.reduceEqDiff, Nat.reduceBEq, Int.reduceLE, Int.reduceLT, Int.reduceEq, Int.reduceNe, Int.reduceAdd, Int.reduceSub, Int.reduceToNat, Int.reduceNeg, ↓reduceIte, reduceCtorEq, cellsOf, cellA, lay, fillA]
  refine CT_ok (getL l hl i _) ?_
  rintro _ _ ⟨rfl, rfl⟩
  cases hg : getA l i with
  | none =>
    have e : cloneA l next i = (l, 2) := by unfold cloneA; rw [hg]
    rw [e]
    simp only [getV, lay, wk3, onStO, bareL, toCl, chunks, wk, iaddrV_map, emb, unAgg, ares, aresL, ares1, tupled, forall_const, Nat.reduceAdd, Nat.reduceSub, Nat.reduceMul, Nat.reduceLeDiff, Nat.reduceEqDiff, Nat.reduceBEq, Int.reduceLE, Int.reduceLT, Int.reduceEq, Int.reduceNe, Int.reduceAdd, Int.reduceSub, Int.reduceToNat, Int.reduceNeg, ↓reduceIte, reduceCtorEq, cellsOf, cellA, lay, fillA]
    refine CT_ok (twinL l hl _) ?_
    rintro _ _ ⟨rfl, rfl⟩
    simp only [lay, wk3, onStO, bareL, toCl, chunks, wk, iaddrV_map, emb, unAgg, ares, aresL, ares1, tupled, forall_const, Nat.reduceAdd, Nat.reduceSub, Nat.reduceMul, Nat.reduceLeDiff, Nat.reduceEqDiff, Nat.reduceBEq, Int.reduceLE, Int.reduceLT, Int.reduceEq, Int.reduceNe, Int.reduceAdd, Int.reduceSub, Int.reduceToNat, Int.reduceNeg, ↓reduceIte, reduceCtorEq, cellsOf, cellA, lay, fillA]
    exact KWk_sets 1 l 2 _ rfl rfl ⟨rfl, rfl⟩
  | some d =>
    have hd := hl.2 d (getA_mem hg).1
    by_cases h2 : d.kind = 2
    · have e : cloneA l next i = addA l next ⟨0, 1, i, 0, d.files⟩ := by unfold cloneA; rw [hg]; exact if_pos h2
      rw [e]
      simp only [getV, h2, cellD, aset, lay, wk3, onStO, bareL, toCl, chunks, wk, iaddrV_map, emb, unAgg, ares, aresL, ares1, tupled, forall_const, Nat.reduceAdd, Nat.reduceSub, Nat.reduceMul, Nat.reduceLeDiff, Nat.reduceEqDiff, Nat.reduceBEq, Int.reduceLE, Int.reduceLT, Int.reduceEq, Int.reduceNe, Int.reduceAdd, Int.reduceSub, Int.reduceToNat, Int.reduceNeg, ↓reduceIte, reduceCtorEq, cellsOf, cellA, lay, fillA]
      refine CT_ok (addL l hl next ⟨0, 1, i, 0, d.files⟩ hd _) ?_
      rintro _ _ ⟨rfl, rfl⟩
      simp only [outA, lay, wk3, onStO, bareL, toCl, chunks, wk, iaddrV_map, emb, unAgg, ares, aresL, ares1, tupled, forall_const, Nat.reduceAdd, Nat.reduceSub, Nat.reduceMul, Nat.reduceLeDiff, Nat.reduceEqDiff, Nat.reduceBEq, Int.reduceLE, Int.reduceLT, Int.reduceEq, Int.reduceNe, Int.reduceAdd, Int.reduceSub, Int.reduceToNat, Int.reduceNeg, ↓reduceIte, reduceCtorEq, cellsOf, cellA, lay, fillA]
      exact KWk_bare (by simp [bare, bareL, asets]) ⟨rfl, rfl⟩
    · have e : cloneA l next i = (l, 1) := by unfold cloneA; rw [hg]; exact if_neg h2
      rw [e]
      simp only [getV, h2, cellD, aset, lay, wk3, onStO, bareL, toCl, chunks, wk, iaddrV_map, emb, unAgg, ares, aresL, ares1, tupled, forall_const, Nat.reduceAdd, Nat.reduceSub, Nat.reduceMul, Nat.reduceLeDiff, Nat.reduceEqDiff, Nat.reduceBEq, Int.reduceLE, Int.reduceLT, Int.reduceEq, Int.reduceNe, Int.reduceAdd, Int.reduceSub, Int.reduceToNat, Int.reduceNeg, ↓reduceIte, reduceCtorEq, cellsOf, cellA, lay, fillA]
      refine CT_ok (twinL l hl _) ?_
      rintro _ _ ⟨rfl, rfl⟩
      simp only [lay, wk3, onStO, bareL, toCl, chunks, wk, iaddrV_map, emb, unAgg, ares, aresL, ares1, tupled, forall_const, Nat.reduceAdd, Nat.reduceSub, Nat.reduceMul, Nat.reduceLeDiff, Nat.reduceEqDiff, Nat.reduceBEq, Int.reduceLE, Int.reduceLT, Int.reduceEq, Int.reduceNe, Int.reduceAdd, Int.reduceSub, Int.reduceToNat, Int.reduceNeg, ↓reduceIte, reduceCtorEq, cellsOf, cellA, lay, fillA]
      exact KWk_sets 1 l 1 _ rfl rfl ⟨rfl, rfl⟩
end Go.Proofs.Ytemjlopoffjmpaa.Abs
set_option linter.unusedSimpArgs false
set_option linter.unusedVariables false
namespace Go.Proofs.Ytemjlopoffjmpaa.Abs
open Go Go.Proofs

theorem iaddr_dset (H : AH) (l : List Dset) (k : IntKind) (n : Int) : iaddrV H 5 (.fz (l.map pdset)) (.int k n) = if 0 ≤ n ∧ n < l.length then some (.fptr (pdset (l.getD n.toNat default))) else none := by
  rw [iaddrV_map]
  have : (pdset (l.getD n.toNat default)).length = 5 := rfl
  simp only [this, and_true]

theorem rid68 (n : Int) (H : AH) : C Try.prog 68 [.int .i64 n] H (fun x H' => x = .bool (decide (0 ≤ n) && decide (n ≤ 65535)) ∧ H' = H) := by
  refine C_body d68 rfl (WT_ok ?_)
  unfold c68
  simp only [lay, wk3, onStO, bareL, toCl, chunks, wk, iaddrV_map, emb, unAgg, ares, aresL, ares1, tupled, forall_const, Nat.reduceAdd, Nat.reduceSub, Nat.reduceMul, Nat.reduceLeDiff, Nat.reduceEqDiff, Nat.reduceBEq, Int.reduceLE, Int.reduceLT, Int.reduceEq, Int.reduceNe, Int.reduceAdd, Int.reduceSub, Int.reduceToNat, Int.reduceNeg, ↓reduceIte, reduceCtorEq, cellsOf, cellA, lay, fillA]
  refine guard_both ?_ ?_ <;> intro h <;> simp only [hy] at h <;> simp only [h, lay, Bool.false_and, wk3, onStO, bareL, toCl, chunks, wk, iaddrV_map, emb, unAgg, ares, aresL, ares1, tupled, forall_const, Nat.reduceAdd, Nat.reduceSub, Nat.reduceMul, Nat.reduceLeDiff, Nat.reduceEqDiff, Nat.reduceBEq, Int.reduceLE, Int.reduceLT, Int.reduceEq, Int.reduceNe, Int.reduceAdd, Int.reduceSub, Int.reduceToNat, Int.reduceNeg, ↓reduceIte, reduceCtorEq, cellsOf, cellA, lay, fillA]

theorem rat85 (l : List Dset) (hl : l.length ≤ 1000000) (i : Int) (H : AH) : C Try.prog 85 [asets l, .int .i64 i] H (fun x H' => x = .int .i64 (findA l i) ∧ H' = H) := by
  refine C_body d85 rfl (WT_ok ?_)
  unfold c85
  simp only [asets, lay, wk3, onStO, bareL, toCl, chunks, wk, iaddrV_map, emb, unAgg, ares, aresL, ares1, tupled, forall_const, Nat.reduceAdd, Nat.reduceSub, Nat.reduceMul, Nat.reduceLeDiff, Nat.reduceEqDiff, Nat.reduceBEq, Int.reduceLE, Int.reduceLT, Int.reduceEq, Int.reduceNe, Int.reduceAdd, Int.reduceSub, Int.reduceToNat, Int.reduceNeg, ↓reduceIte, reduceCtorEq, cellsOf, cellA, lay, fillA]
  refine WT_loop (W_loop (fun n fr H' => ∃ k : Nat, k ≤ l.length ∧ n = l.length - k ∧ (∀ j, j < k → (l.getD j default).id ≠ i) ∧ H' = H ∧ fr = [asets l, .int .i64 i, .top, .top, .int .i64 0, .int .i64 k] ++ List.replicate 14 .top) l.length ⟨0, by omega, rfl, fun j hj => by omega, rfl, rfl⟩ ?_)
  rintro n fr H' ⟨k, hk, rfl, hne, rfl, rfl⟩
  refine WT_ok ?_
  simp only [asets, lay, wk3, onStO, bareL, toCl, chunks, wk, iaddrV_map, emb, unAgg, ares, aresL, ares1, tupled, forall_const, Nat.reduceAdd, Nat.reduceSub, Nat.reduceMul, Nat.reduceLeDiff, Nat.reduceEqDiff, Nat.reduceBEq, Int.reduceLE, Int.reduceLT, Int.reduceEq, Int.reduceNe, Int.reduceAdd, Int.reduceSub, Int.reduceToNat, Int.reduceNeg, ↓reduceIte, reduceCtorEq, cellsOf, cellA, lay, fillA]
  refine guard_both ?_ ?_ <;> intro h <;> simp only [hy] at h
  · have hk2 : k < l.length := by omega
    have w2 : IntKind.i64.wrap ((k : Int) + 1) = (k : Int) + 1 := IntWalk.i64_in _ (by omega)
    have h0 : (0 : Int) ≤ k := by omega
    have e5 : (pdset (l.getD k default)).length = 5 := rfl
    simp only [h, h0, e5, pdset, lay, wk3, onStO, bareL, toCl, chunks, wk, iaddrV_map, emb, unAgg, ares, aresL, ares1, tupled, forall_const, Nat.reduceAdd, Nat.reduceSub, Nat.reduceMul, Nat.reduceLeDiff, Nat.reduceEqDiff, Nat.reduceBEq, Int.reduceLE, Int.reduceLT, Int.reduceEq, Int.reduceNe, Int.reduceAdd, Int.reduceSub, Int.reduceToNat, Int.reduceNeg, ↓reduceIte, reduceCtorEq, cellsOf, cellA, lay, fillA]
    by_cases hid : (l.getD k default).id = i
    · simp only [hid, lay, wk3, onStO, bareL, toCl, chunks, wk, iaddrV_map, emb, unAgg, ares, aresL, ares1, tupled, forall_const, Nat.reduceAdd, Nat.reduceSub, Nat.reduceMul, Nat.reduceLeDiff, Nat.reduceEqDiff, Nat.reduceBEq, Int.reduceLE, Int.reduceLT, Int.reduceEq, Int.reduceNe, Int.reduceAdd, Int.reduceSub, Int.reduceToNat, Int.reduceNeg, ↓reduceIte, reduceCtorEq, cellsOf, cellA, lay, fillA]
      unfold findA
      rw [idxA_some hk2 (by simpa using hid) (fun j hj => by simpa using hne j hj)]
    · simp only [hid, w2, lay, wk3, onStO, bareL, toCl, chunks, wk, iaddrV_map, emb, unAgg, ares, aresL, ares1, tupled, forall_const, Nat.reduceAdd, Nat.reduceSub, Nat.reduceMul, Nat.reduceLeDiff, Nat.reduceEqDiff, Nat.reduceBEq, Int.reduceLE, Int.reduceLT, Int.reduceEq, Int.reduceNe, Int.reduceAdd, Int.reduceSub, Int.reduceToNat, Int.reduceNeg, ↓reduceIte, reduceCtorEq, cellsOf, cellA, lay, fillA]
      refine QLoop_go (n' := l.length - (k + 1)) (by omega) ⟨k + 1, by omega, rfl, fun j hj => ?_, rfl, rfl⟩ ?_
      · rcases Nat.lt_or_ge j k with h' | h'
        · exact hne j h'
        · have : j = k := by omega
          subst this; exact hid
      · simp only [asets, List.replicate_succ, List.replicate_zero, List.cons_append, List.nil_append, Tops_top, Tops_same, Tops_nil, Int.natCast_add, Int.natCast_one]
  · simp only [h, lay, wk3, onStO, bareL, toCl, chunks, wk, iaddrV_map, emb, unAgg, ares, aresL, ares1, tupled, forall_const, Nat.reduceAdd, Nat.reduceSub, Nat.reduceMul, Nat.reduceLeDiff, Nat.reduceEqDiff, Nat.reduceBEq, Int.reduceLE, Int.reduceLT, Int.reduceEq, Int.reduceNe, Int.reduceAdd, Int.reduceSub, Int.reduceToNat, Int.reduceNeg, ↓reduceIte, reduceCtorEq, cellsOf, cellA, lay, fillA]
    unfold findA
    rw [idxA_none fun j hj => by simpa using hne j (by omega)]
theorem rget0 (l : List Dset) (hl : l.length ≤ 1000000) (i : Int) : C Try.prog 70 [asets l, .int .i64 i] [] (fun x H' => x = getV (getA l i) ∧ H' = []) := by
  refine C_body' d70 rfl (WT_ok ?_)
  unfold c70
  simp only [lay, wk3, onStO, bareL, toCl, chunks, wk, iaddrV_map, emb, unAgg, ares, aresL, ares1, tupled, forall_const, Nat.reduceAdd, Nat.reduceSub, Nat.reduceMul, Nat.reduceLeDiff, Nat.reduceEqDiff, Nat.reduceBEq, Int.reduceLE, Int.reduceLT, Int.reduceEq, Int.reduceNe, Int.reduceAdd, Int.reduceSub, Int.reduceToNat, Int.reduceNeg, ↓reduceIte, reduceCtorEq, cellsOf, cellA, lay, fillA]
  refine CT_ok (rat85 l hl i _) ?_
  rintro _ _ ⟨rfl, rfl⟩
  unfold getA
  rcases find_of (l := l) (i := i) with ⟨e, _⟩ | ⟨k, e, hk, _, _⟩
  · simp only [e, asets, lay, wk3, onStO, bareL, toCl, chunks, wk, iaddrV_map, emb, unAgg, ares, aresL, ares1, tupled, forall_const, Nat.reduceAdd, Nat.reduceSub, Nat.reduceMul, Nat.reduceLeDiff, Nat.reduceEqDiff, Nat.reduceBEq, Int.reduceLE, Int.reduceLT, Int.reduceEq, Int.reduceNe, Int.reduceAdd, Int.reduceSub, Int.reduceToNat, Int.reduceNeg, ↓reduceIte, reduceCtorEq, cellsOf, cellA, lay, fillA]
    exact KWk_bare (by simp [bare, bareL]) ⟨rfl, rfl⟩
  · have h0 : (0 : Int) ≤ k := by omega
    have h1 : (k : Int) < l.length := by omega
    have h2 : ¬ (k : Int) < 0 := by omega
    have e5 : (pdset (l.getD k default)).length = 5 := rfl
    rw [e]
    simp only [h0, h1, h2, e5, asets, pdset, lay, wk3, onStO, bareL, toCl, chunks, wk, iaddrV_map, emb, unAgg, ares, aresL, ares1, tupled, forall_const, Nat.reduceAdd, Nat.reduceSub, Nat.reduceMul, Nat.reduceLeDiff, Nat.reduceEqDiff, Nat.reduceBEq, Int.reduceLE, Int.reduceLT, Int.reduceEq, Int.reduceNe, Int.reduceAdd, Int.reduceSub, Int.reduceToNat, Int.reduceNeg, ↓reduceIte, reduceCtorEq, cellsOf, cellA, lay, fillA]
    exact KWk_bare (by simp [bare, bareL]) ⟨rfl, rfl⟩
theorem rgetL (l : List Dset) (hl : l.length ≤ 1000000) (i : Int) (H : AH) : C Try.prog 70 [asets l, .int .i64 i] H (fun x H' => x = getV (getA l i) ∧ H' = H) :=
  C_any (rget0 l hl i) (by simp [bareL, bare, asets]) (getV_bare _) H

theorem bad96 (s : List Node) (hs : s.length ≤ 1000000) (H : AH) : C Try.prog 96 [aset s] H (fun x H' => x = .bool (s.any fun x => decide (x.bad ≠ 0)) ∧ H' = H) := by
  refine C_body d96 rfl (WT_ok ?_)
  unfold c96
  simp only [aset, wk, iaddrV_map, emb, unAgg, ares, aresL, ares1, tupled, forall_const, Nat.reduceAdd, Nat.reduceSub, Nat.reduceMul, Nat.reduceLeDiff, Nat.reduceEqDiff, Nat.reduceBEq, Int.reduceLE, Int.reduceLT, Int.reduceEq, Int.reduceNe, Int.reduceAdd, Int.reduceSub, Int.reduceToNat, Int.reduceNeg, ↓reduceIte, reduceCtorEq, cellsOf, cellA, lay, fillA]
  refine WT_loop (W_loop (fun n fr H' => ∃ i : Nat, i ≤ s.length ∧ n = s.length - i ∧ (∀ j, j < i → (s.getD j default).bad = 0) ∧ H' = H ∧ fr = [aset s, .top, .bool false, .int .i64 i] ++ List.replicate 12 .top) s.length ⟨0, by omega, rfl, fun j hj => by omega, rfl, rfl⟩ ?_)
  rintro n fr H' ⟨i, hi, rfl, hj, rfl, rfl⟩
  refine WT_ok ?_
  simp only [aset, iaddr_node, pnode, wk3, onStO, bareL, toCl, chunks, wk, emb, unAgg, ares, aresL, ares1, tupled, forall_const, Nat.reduceAdd, Nat.reduceSub, Nat.reduceMul, Nat.reduceLeDiff, Nat.reduceEqDiff, Nat.reduceBEq, Int.reduceLE, Int.reduceLT, Int.reduceEq, Int.reduceNe, Int.reduceAdd, Int.reduceSub, Int.reduceToNat, Int.reduceNeg, ↓reduceIte, reduceCtorEq, cellsOf, cellA, lay, fillA]
  refine guard_both ?_ ?_ <;> intro h <;> simp only [hy] at h
  · have hil : i < s.length := by omega
    have h0 : (0 : Int) ≤ i := by omega
    have w2 : IntKind.i64.wrap ((i : Int) + 1) = (i : Int) + 1 := IntWalk.i64_in _ (by omega)
    by_cases h2 : (s.getD i default).bad = 0
    · simp only [h, h0, h2, w2, iaddr_node, pnode, wk3, onStO, bareL, toCl, chunks, wk, emb, unAgg, ares, aresL, ares1, tupled, forall_const, Nat.reduceAdd, Nat.reduceSub, Nat.reduceMul, Nat.reduceLeDiff, Nat.reduceEqDiff, Nat.reduceBEq, Int.reduceLE, Int.reduceLT, Int.reduceEq, Int.reduceNe, Int.reduceAdd, Int.reduceSub, Int.reduceToNat, Int.reduceNeg, ↓reduceIte, reduceCtorEq, cellsOf, cellA, lay, fillA]
      refine QLoop_go (n' := s.length - (i + 1)) (by omega) ⟨i + 1, by omega, rfl, fun j hj2 => ?_, rfl, rfl⟩ ?_
      · rcases Nat.lt_or_ge j i with h' | h'
        · exact hj j h'
        · have : j = i := by omega
          subst this; exact h2
      · simp only [aset, List.replicate_succ, List.replicate_zero, List.cons_append, List.nil_append, Tops_top, Tops_same, Tops_nil, Int.natCast_add, Int.natCast_one]
    · simp only [h, h0, h2, iaddr_node, pnode, wk3, onStO, bareL, toCl, chunks, wk, emb, unAgg, ares, aresL, ares1, tupled, forall_const, Nat.reduceAdd, Nat.reduceSub, Nat.reduceMul, Nat.reduceLeDiff, Nat.reduceEqDiff, Nat.reduceBEq, Int.reduceLE, Int.reduceLT, Int.reduceEq, Int.reduceNe, Int.reduceAdd, Int.reduceSub, Int.reduceToNat, Int.reduceNeg, ↓reduceIte, reduceCtorEq, cellsOf, cellA, lay, fillA]
      have : (s.any fun x => decide (x.bad ≠ 0)) = true := by
        rw [List.any_eq_true]
        exact ⟨_, getD_mem hil, by simpa using h2⟩
      rw [this]
  · simp only [h, iaddr_node, pnode, wk3, onStO, bareL, toCl, chunks, wk, emb, unAgg, ares, aresL, ares1, tupled, forall_const, Nat.reduceAdd, Nat.reduceSub, Nat.reduceMul, Nat.reduceLeDiff, Nat.reduceEqDiff, Nat.reduceBEq, Int.reduceLE, Int.reduceLT, Int.reduceEq, Int.reduceNe, Int.reduceAdd, Int.reduceSub, Int.reduceToNat, Int.reduceNeg, ↓reduceIte, reduceCtorEq, cellsOf, cellA, lay, fillA]
    have : (s.any fun x => decide (x.bad ≠ 0)) = false := by
      rw [List.any_eq_false]
      intro x hx
      obtain ⟨n, hn, rfl⟩ := mem_getD hx
      simpa using hj n (by omega)
    rw [this]
theorem folder_exact (s : List Node) (n : Int) (H : AH) : C Try.prog 95 [aset s, .int .i64 n] H (fun x H' => x = .bool (decide (0 ≤ n ∧ n < s.length) && decide ((s.getD n.toNat default).kind = 2 ∨ (s.getD n.toNat default).kind = 3)) ∧ H' = H) := by
  refine C_body d95 rfl (WT_ok ?_)
  unfold c95
  simp only [aset, iaddr_node, pnode, wk3, onStO, bareL, toCl, chunks, wk, emb, unAgg, ares, aresL, ares1, tupled, forall_const, Nat.reduceAdd, Nat.reduceSub, Nat.reduceMul, Nat.reduceLeDiff, Nat.reduceEqDiff, Nat.reduceBEq, Int.reduceLE, Int.reduceLT, Int.reduceEq, Int.reduceNe, Int.reduceAdd, Int.reduceSub, Int.reduceToNat, Int.reduceNeg, ↓reduceIte, reduceCtorEq, cellsOf, cellA, lay, fillA]
  by_cases h : 0 ≤ n
  · by_cases h2 : n < s.length
    · simp only [h, h2, iaddr_node, pnode, wk3, onStO, bareL, toCl, chunks, wk, emb, unAgg, ares, aresL, ares1, tupled, forall_const, Nat.reduceAdd, Nat.reduceSub, Nat.reduceMul, Nat.reduceLeDiff, Nat.reduceEqDiff, Nat.reduceBEq, Int.reduceLE, Int.reduceLT, Int.reduceEq, Int.reduceNe, Int.reduceAdd, Int.reduceSub, Int.reduceToNat, Int.reduceNeg, ↓reduceIte, reduceCtorEq, cellsOf, cellA, lay, fillA]
      by_cases h3 : (s.getD n.toNat default).kind = 2
      · simp only [h3, true_or, iaddr_node, pnode, wk3, onStO, bareL, toCl, chunks, wk, emb, unAgg, ares, aresL, ares1, tupled, forall_const, Nat.reduceAdd, Nat.reduceSub, Nat.reduceMul, Nat.reduceLeDiff, Nat.reduceEqDiff, Nat.reduceBEq, Int.reduceLE, Int.reduceLT, Int.reduceEq, Int.reduceNe, Int.reduceAdd, Int.reduceSub, Int.reduceToNat, Int.reduceNeg, ↓reduceIte, reduceCtorEq, cellsOf, cellA, lay, fillA]
        simp [h, h2]
      · by_cases h4 : (s.getD n.toNat default).kind = 3
        · simp only [h3, h4, or_true, iaddr_node, pnode, wk3, onStO, bareL, toCl, chunks, wk, emb, unAgg, ares, aresL, ares1, tupled, forall_const, Nat.reduceAdd, Nat.reduceSub, Nat.reduceMul, Nat.reduceLeDiff, Nat.reduceEqDiff, Nat.reduceBEq, Int.reduceLE, Int.reduceLT, Int.reduceEq, Int.reduceNe, Int.reduceAdd, Int.reduceSub, Int.reduceToNat, Int.reduceNeg, ↓reduceIte, reduceCtorEq, cellsOf, cellA, lay, fillA]
          exact ⟨⟨h, h2⟩, by simp [h, h2]⟩
        · simp only [h3, h4, or_false, iaddr_node, pnode, wk3, onStO, bareL, toCl, chunks, wk, emb, unAgg, ares, aresL, ares1, tupled, forall_const, Nat.reduceAdd, Nat.reduceSub, Nat.reduceMul, Nat.reduceLeDiff, Nat.reduceEqDiff, Nat.reduceBEq, Int.reduceLE, Int.reduceLT, Int.reduceEq, Int.reduceNe, Int.reduceAdd, Int.reduceSub, Int.reduceToNat, Int.reduceNeg, ↓reduceIte, reduceCtorEq, cellsOf, cellA, lay, fillA]
          exact ⟨⟨h, h2⟩, by simp⟩
    · simp only [h, h2, and_false, Bool.false_and, iaddr_node, pnode, wk3, onStO, bareL, toCl, chunks, wk, emb, unAgg, ares, aresL, ares1, tupled, forall_const, Nat.reduceAdd, Nat.reduceSub, Nat.reduceMul, Nat.reduceLeDiff, Nat.reduceEqDiff, Nat.reduceBEq, Int.reduceLE, Int.reduceLT, Int.reduceEq, Int.reduceNe, Int.reduceAdd, Int.reduceSub, Int.reduceToNat, Int.reduceNeg, ↓reduceIte, reduceCtorEq, cellsOf, cellA, lay, fillA]
  · simp only [h, false_and, Bool.false_and, iaddr_node, pnode, wk3, onStO, bareL, toCl, chunks, wk, emb, unAgg, ares, aresL, ares1, tupled, forall_const, Nat.reduceAdd, Nat.reduceSub, Nat.reduceMul, Nat.reduceLeDiff, Nat.reduceEqDiff, Nat.reduceBEq, Int.reduceLE, Int.reduceLT, Int.reduceEq, Int.reduceNe, Int.reduceAdd, Int.reduceSub, Int.reduceToNat, Int.reduceNeg, ↓reduceIte, reduceCtorEq, cellsOf, cellA, lay, fillA]
theorem eqCells_node (x y : Node) : eqCells [.i, .i, .s, .s, .i] [.int .i64 x.kind, .int .i64 x.up, .str x.name, .str x.body, .int .i64 x.bad] [.int .i64 y.kind, .int .i64 y.up, .str y.name, .str y.body, .int .i64 y.bad] = some (decide (x = y)) := by
  simp only [eqCells, if_true, Option.map_some, Option.some.injEq]
  cases x; cases y
  simp only [Node.mk.injEq]
  rw [Bool.eq_iff_iff]
  simp only [Bool.and_eq_true, beq_iff_eq, decide_eq_true_eq, and_true]
theorem same33 (a b : List Node) (ha : a.length ≤ 1000000) (hb : b.length ≤ 1000000) (H : AH) : C Try.prog 33 [aset a, aset b] H (fun x H' => x = .bool (decide (a = b)) ∧ H' = H) := by
  refine C_body d33 rfl (WT_ok ?_)
  unfold c33
  simp only [aset, iaddr_node, pnode, wk3, onStO, bareL, toCl, chunks, wk, emb, unAgg, ares, aresL, ares1, tupled, forall_const, Nat.reduceAdd, Nat.reduceSub, Nat.reduceMul, Nat.reduceLeDiff, Nat.reduceEqDiff, Nat.reduceBEq, Int.reduceLE, Int.reduceLT, Int.reduceEq, Int.reduceNe, Int.reduceAdd, Int.reduceSub, Int.reduceToNat, Int.reduceNeg, ↓reduceIte, reduceCtorEq, cellsOf, cellA, lay, fillA]
  by_cases hlen : a.length = b.length
  · have hlen' : (a.length : Int) = b.length := by omega
    simp only [hlen', iaddr_node, pnode, wk3, onStO, bareL, toCl, chunks, wk, emb, unAgg, ares, aresL, ares1, tupled, forall_const, Nat.reduceAdd, Nat.reduceSub, Nat.reduceMul, Nat.reduceLeDiff, Nat.reduceEqDiff, Nat.reduceBEq, Int.reduceLE, Int.reduceLT, Int.reduceEq, Int.reduceNe, Int.reduceAdd, Int.reduceSub, Int.reduceToNat, Int.reduceNeg, ↓reduceIte, reduceCtorEq, cellsOf, cellA, lay, fillA]
    refine WT_loop (W_wk (fr' := [aset a, aset b, .top, .top, .bool false, .int .i64 0] ++ List.replicate 20 .top) (Wk_tops ?_) (W_loop (fun n fr H' => ∃ i : Nat, i ≤ a.length ∧ n = a.length - i ∧ (∀ j, j < i → a.getD j default = b.getD j default) ∧ H' = H ∧ fr = [aset a, aset b, .top, .top, .bool false, .int .i64 i] ++ List.replicate 20 .top) a.length ⟨0, by omega, rfl, fun j hj => by omega, rfl, rfl⟩ ?_))
    · simp only [aset, List.replicate_succ, List.replicate_zero, List.cons_append, List.nil_append, Tops_top, Tops_same, Tops_nil]
    rintro n fr H' ⟨i, hi, rfl, hj, rfl, rfl⟩
    refine WT_ok ?_
    simp only [aset, iaddr_node, pnode, wk3, onStO, bareL, toCl, chunks, wk, emb, unAgg, ares, aresL, ares1, tupled, forall_const, Nat.reduceAdd, Nat.reduceSub, Nat.reduceMul, Nat.reduceLeDiff, Nat.reduceEqDiff, Nat.reduceBEq, Int.reduceLE, Int.reduceLT, Int.reduceEq, Int.reduceNe, Int.reduceAdd, Int.reduceSub, Int.reduceToNat, Int.reduceNeg, ↓reduceIte, reduceCtorEq, cellsOf, cellA, lay, fillA]
    refine guard_both ?_ ?_ <;> intro h <;> simp only [hy] at h
    · have hil : i < a.length := by omega
      have h0 : (0 : Int) ≤ i := by omega
      have h1 : (i : Int) < b.length := by omega
      have w2 : IntKind.i64.wrap ((i : Int) + 1) = (i : Int) + 1 := IntWalk.i64_in _ (by omega)
      simp only [h, iaddr_node, pnode, wk3, onStO, bareL, toCl, chunks, wk, emb, unAgg, ares, aresL, ares1, tupled, forall_const, Nat.reduceAdd, Nat.reduceSub, Nat.reduceMul, Nat.reduceLeDiff, Nat.reduceEqDiff, Nat.reduceBEq, Int.reduceLE, Int.reduceLT, Int.reduceEq, Int.reduceNe, Int.reduceAdd, Int.reduceSub, Int.reduceToNat, Int.reduceNeg, ↓reduceIte, reduceCtorEq, cellsOf, cellA, lay, fillA]
      refine WT_draw ?_
      by_cases h2 : a.getD i default = b.getD i default
      · simp only [h, h0, h1, h2, eqCells_node, w2, iaddr_node, pnode, wk3, onStO, bareL, toCl, chunks, wk, emb, unAgg, ares, aresL, ares1, tupled, forall_const, Nat.reduceAdd, Nat.reduceSub, Nat.reduceMul, Nat.reduceLeDiff, Nat.reduceEqDiff, Nat.reduceBEq, Int.reduceLE, Int.reduceLT, Int.reduceEq, Int.reduceNe, Int.reduceAdd, Int.reduceSub, Int.reduceToNat, Int.reduceNeg, ↓reduceIte, reduceCtorEq, cellsOf, cellA, lay, fillA]
        refine QLoop_go (n' := a.length - (i + 1)) (by omega) ⟨i + 1, by omega, rfl, fun j hj2 => ?_, rfl, rfl⟩ ?_
        · rcases Nat.lt_or_ge j i with h' | h'
          · exact hj j h'
          · have : j = i := by omega
            subst this; exact h2
        · simp only [aset, List.replicate_succ, List.replicate_zero, List.cons_append, List.nil_append, Tops_top, Tops_same, Tops_nil, Int.natCast_add, Int.natCast_one]
      · have : ¬ a = b := fun e => h2 (by rw [e])
        simp only [h, h0, h1, h2, this, eqCells_node, w2, iaddr_node, pnode, wk3, onStO, bareL, toCl, chunks, wk, emb, unAgg, ares, aresL, ares1, tupled, forall_const, Nat.reduceAdd, Nat.reduceSub, Nat.reduceMul, Nat.reduceLeDiff, Nat.reduceEqDiff, Nat.reduceBEq, Int.reduceLE, Int.reduceLT, Int.reduceEq, Int.reduceNe, Int.reduceAdd, Int.reduceSub, Int.reduceToNat, Int.reduceNeg, ↓reduceIte, reduceCtorEq, cellsOf, cellA, lay, fillA]
    · have : a = b := by
        apply List.ext_getElem hlen
        intro j h1 h2
        have := hj j (by omega)
        rwa [List.getD_eq_getElem?_getD, List.getElem?_eq_getElem h1, List.getD_eq_getElem?_getD, List.getElem?_eq_getElem h2] at this
      have hd : decide (a = b) = true := decide_eq_true this
      simp only [h, hd, iaddr_node, pnode, wk3, onStO, bareL, toCl, chunks, wk, emb, unAgg, ares, aresL, ares1, tupled, forall_const, Nat.reduceAdd, Nat.reduceSub, Nat.reduceMul, Nat.reduceLeDiff, Nat.reduceEqDiff, Nat.reduceBEq, Int.reduceLE, Int.reduceLT, Int.reduceEq, Int.reduceNe, Int.reduceAdd, Int.reduceSub, Int.reduceToNat, Int.reduceNeg, ↓reduceIte, reduceCtorEq, cellsOf, cellA, lay, fillA]
  · have hlen' : ¬ (a.length : Int) = b.length := by omega
    have : ¬ a = b := fun e => hlen (by rw [e])
    simp only [hlen', this, iaddr_node, pnode, wk3, onStO, bareL, toCl, chunks, wk, emb, unAgg, ares, aresL, ares1, tupled, forall_const, Nat.reduceAdd, Nat.reduceSub, Nat.reduceMul, Nat.reduceLeDiff, Nat.reduceEqDiff, Nat.reduceBEq, Int.reduceLE, Int.reduceLT, Int.reduceEq, Int.reduceNe, Int.reduceAdd, Int.reduceSub, Int.reduceToNat, Int.reduceNeg, ↓reduceIte, reduceCtorEq, cellsOf, cellA, lay, fillA]
end Go.Proofs.Ytemjlopoffjmpaa.Abs
set_option linter.unusedSimpArgs false
set_option linter.unusedVariables false
namespace Go.Proofs.Ytemjlopoffjmpaa.Abs
open Go Go.Proofs

theorem asets_bare (l : List Dset) : bare (asets l) = true := by simp [asets, bare]
theorem sameS0 (a b : List Dset) (ha : Short a) (hb : Short b) : C Try.prog 32 [asets a, asets b] [] (fun x H' => x = .bool (decide (a = b)) ∧ H' = []) := by
  have ha1 := ha.1
  have hb1 := hb.1
  refine C_body' d32 rfl (WT_ok ?_)
  unfold c32
  simp only [asets, wk3, onStO, bareL, toCl, chunks, wk, iaddrV_map, emb, unAgg, ares, aresL, ares1, tupled, forall_const, Nat.reduceAdd, Nat.reduceSub, Nat.reduceMul, Nat.reduceLeDiff, Nat.reduceEqDiff, Nat.reduceBEq, Int.reduceLE, Int.reduceLT, Int.reduceEq, Int.reduceNe, Int.reduceAdd, Int.reduceSub, Int.reduceToNat, Int.reduceNeg, ↓reduceIte, reduceCtorEq, cellsOf, cellA, lay, fillA]
  by_cases hlen : a.length = b.length
  · have hlen' : (a.length : Int) = b.length := by omega
    simp only [hlen', wk3, onStO, bareL, toCl, chunks, wk, iaddrV_map, emb, unAgg, ares, aresL, ares1, tupled, forall_const, Nat.reduceAdd, Nat.reduceSub, Nat.reduceMul, Nat.reduceLeDiff, Nat.reduceEqDiff, Nat.reduceBEq, Int.reduceLE, Int.reduceLT, Int.reduceEq, Int.reduceNe, Int.reduceAdd, Int.reduceSub, Int.reduceToNat, Int.reduceNeg, ↓reduceIte, reduceCtorEq, cellsOf, cellA, lay, fillA]
    refine WT_loop (W_wk (fr' := [asets a, asets b, .top, .top, .bool false, .int .i64 0] ++ List.replicate 55 .top) (Wk_tops ?_) (W_loop (fun n fr H' => ∃ i : Nat, i ≤ a.length ∧ n = a.length - i ∧ (∀ j, j < i → a.getD j default = b.getD j default) ∧ H' = [] ∧ fr = [asets a, asets b, .top, .top, .bool false, .int .i64 i] ++ List.replicate 55 .top) a.length ⟨0, by omega, rfl, fun j hj => by omega, rfl, rfl⟩ ?_))
    · simp only [asets, List.replicate_succ, List.replicate_zero, List.cons_append, List.nil_append, Tops_top, Tops_same, Tops_nil]
    rintro n fr H' ⟨i, hi, rfl, hj, rfl, rfl⟩
    refine WT_ok ?_
    simp only [asets, iaddr_dset, wk3, onStO, bareL, toCl, chunks, wk, iaddrV_map, emb, unAgg, ares, aresL, ares1, tupled, forall_const, Nat.reduceAdd, Nat.reduceSub, Nat.reduceMul, Nat.reduceLeDiff, Nat.reduceEqDiff, Nat.reduceBEq, Int.reduceLE, Int.reduceLT, Int.reduceEq, Int.reduceNe, Int.reduceAdd, Int.reduceSub, Int.reduceToNat, Int.reduceNeg, ↓reduceIte, reduceCtorEq, cellsOf, cellA, lay, fillA]
    refine guard_both ?_ ?_ <;> intro h <;> simp only [hy] at h
    · have hil : i < a.length := by omega
      have h0 : (0 : Int) ≤ i := by omega
      have h1 : (i : Int) < b.length := by omega
      have w2 : IntKind.i64.wrap ((i : Int) + 1) = (i : Int) + 1 := IntWalk.i64_in _ (by omega)
      have hfa := ha.get hil
      have hfb := hb.get (show i < b.length by omega)
      have hne : a.getD i default ≠ b.getD i default → decide (a = b) = false := fun h => decide_eq_false fun e => h (by rw [e])
      have hnext : a.getD i default = b.getD i default → ∀ j, j < i + 1 → a.getD j default = b.getD j default := fun h j hj2 => by
        rcases Nat.lt_or_ge j i with h' | h'
        · exact hj j h'
        · have : j = i := by omega
          subst this; exact h
      simp only [h, iaddr_dset, wk3, onStO, bareL, toCl, chunks, wk, iaddrV_map, emb, unAgg, ares, aresL, ares1, tupled, forall_const, Nat.reduceAdd, Nat.reduceSub, Nat.reduceMul, Nat.reduceLeDiff, Nat.reduceEqDiff, Nat.reduceBEq, Int.reduceLE, Int.reduceLT, Int.reduceEq, Int.reduceNe, Int.reduceAdd, Int.reduceSub, Int.reduceToNat, Int.reduceNeg, ↓reduceIte, reduceCtorEq, cellsOf, cellA, lay, fillA]
      refine WT_drawE ?_
      refine WDT_more 2 ?_
      simp only [h, h0, h1, iaddr_dset, pdset, ren, renL, lay, wk3, onStO, bareL, toCl, chunks, wk, iaddrV_map, emb, unAgg, ares, aresL, ares1, tupled, forall_const, Nat.reduceAdd, Nat.reduceSub, Nat.reduceMul, Nat.reduceLeDiff, Nat.reduceEqDiff, Nat.reduceBEq, Int.reduceLE, Int.reduceLT, Int.reduceEq, Int.reduceNe, Int.reduceAdd, Int.reduceSub, Int.reduceToNat, Int.reduceNeg, ↓reduceIte, reduceCtorEq, cellsOf, cellA, lay, fillA]
      refine ⟨by omega, by omega, by omega, by rfl, ?_⟩
      generalize a.getD i default = x at hfa hne hnext ⊢
      generalize b.getD i default = y at hfb hne hnext ⊢
      by_cases q1 : x.id = y.id
      case neg =>
        simp only [q1, lay, wk3, onStO, bareL, toCl, chunks, wk, iaddrV_map, emb, unAgg, ares, aresL, ares1, tupled, forall_const, Nat.reduceAdd, Nat.reduceSub, Nat.reduceMul, Nat.reduceLeDiff, Nat.reduceEqDiff, Nat.reduceBEq, Int.reduceLE, Int.reduceLT, Int.reduceEq, Int.reduceNe, Int.reduceAdd, Int.reduceSub, Int.reduceToNat, Int.reduceNeg, ↓reduceIte, reduceCtorEq, cellsOf, cellA, lay, fillA]
        exact KWk_bare rfl ⟨by rw [hne (fun e => q1 (by rw [e]))], rfl⟩
      by_cases q2 : x.kind = y.kind
      case neg =>
        simp only [q1, q2, lay, wk3, onStO, bareL, toCl, chunks, wk, iaddrV_map, emb, unAgg, ares, aresL, ares1, tupled, forall_const, Nat.reduceAdd, Nat.reduceSub, Nat.reduceMul, Nat.reduceLeDiff, Nat.reduceEqDiff, Nat.reduceBEq, Int.reduceLE, Int.reduceLT, Int.reduceEq, Int.reduceNe, Int.reduceAdd, Int.reduceSub, Int.reduceToNat, Int.reduceNeg, ↓reduceIte, reduceCtorEq, cellsOf, cellA, lay, fillA]
        exact KWk_bare rfl ⟨by rw [hne (fun e => q2 (by rw [e]))], rfl⟩
      by_cases q3 : x.origin = y.origin
      case neg =>
        simp only [q1, q2, q3, lay, wk3, onStO, bareL, toCl, chunks, wk, iaddrV_map, emb, unAgg, ares, aresL, ares1, tupled, forall_const, Nat.reduceAdd, Nat.reduceSub, Nat.reduceMul, Nat.reduceLeDiff, Nat.reduceEqDiff, Nat.reduceBEq, Int.reduceLE, Int.reduceLT, Int.reduceEq, Int.reduceNe, Int.reduceAdd, Int.reduceSub, Int.reduceToNat, Int.reduceNeg, ↓reduceIte, reduceCtorEq, cellsOf, cellA, lay, fillA]
        exact KWk_bare rfl ⟨by rw [hne (fun e => q3 (by rw [e]))], rfl⟩
      by_cases q4 : x.quota = y.quota
      case neg =>
        simp only [q1, q2, q3, q4, lay, wk3, onStO, bareL, toCl, chunks, wk, iaddrV_map, emb, unAgg, ares, aresL, ares1, tupled, forall_const, Nat.reduceAdd, Nat.reduceSub, Nat.reduceMul, Nat.reduceLeDiff, Nat.reduceEqDiff, Nat.reduceBEq, Int.reduceLE, Int.reduceLT, Int.reduceEq, Int.reduceNe, Int.reduceAdd, Int.reduceSub, Int.reduceToNat, Int.reduceNeg, ↓reduceIte, reduceCtorEq, cellsOf, cellA, lay, fillA]
        exact KWk_bare rfl ⟨by rw [hne (fun e => q4 (by rw [e]))], rfl⟩
      simp only [q1, q2, q3, q4, lay, wk3, onStO, bareL, toCl, chunks, wk, iaddrV_map, emb, unAgg, ares, aresL, ares1, tupled, forall_const, Nat.reduceAdd, Nat.reduceSub, Nat.reduceMul, Nat.reduceLeDiff, Nat.reduceEqDiff, Nat.reduceBEq, Int.reduceLE, Int.reduceLT, Int.reduceEq, Int.reduceNe, Int.reduceAdd, Int.reduceSub, Int.reduceToNat, Int.reduceNeg, ↓reduceIte, reduceCtorEq, cellsOf, cellA, lay, fillA]
      refine CT_ok (same33 x.files y.files hfa hfb _) ?_
      rintro _ _ ⟨rfl, rfl⟩
      by_cases q5 : x.files = y.files
      case neg =>
        simp only [q5, lay, wk3, onStO, bareL, toCl, chunks, wk, iaddrV_map, emb, unAgg, ares, aresL, ares1, tupled, forall_const, Nat.reduceAdd, Nat.reduceSub, Nat.reduceMul, Nat.reduceLeDiff, Nat.reduceEqDiff, Nat.reduceBEq, Int.reduceLE, Int.reduceLT, Int.reduceEq, Int.reduceNe, Int.reduceAdd, Int.reduceSub, Int.reduceToNat, Int.reduceNeg, ↓reduceIte, reduceCtorEq, cellsOf, cellA, lay, fillA]
        exact KWk_bare rfl ⟨by rw [hne (fun e => q5 (by rw [e]))], rfl⟩
      have q : x = y := by cases x; cases y; simp_all
      simp only [q5, w2, lay, wk3, onStO, bareL, toCl, chunks, wk, iaddrV_map, emb, unAgg, ares, aresL, ares1, tupled, forall_const, Nat.reduceAdd, Nat.reduceSub, Nat.reduceMul, Nat.reduceLeDiff, Nat.reduceEqDiff, Nat.reduceBEq, Int.reduceLE, Int.reduceLT, Int.reduceEq, Int.reduceNe, Int.reduceAdd, Int.reduceSub, Int.reduceToNat, Int.reduceNeg, ↓reduceIte, reduceCtorEq, cellsOf, cellA, lay, fillA]
      refine QLoop_wk (n' := a.length - (i + 1)) (by omega) ⟨i + 1, by omega, rfl, hnext q, rfl, rfl⟩ (Wk_none ?_)
      simp only [asets, renL, ren, List.replicate_succ, List.replicate_zero, List.cons_append, List.nil_append, Tops_top, Tops_same, Tops_nil, Int.natCast_add, Int.natCast_one]
    · have : a = b := by
        apply List.ext_getElem hlen
        intro j h1 h2
        have := hj j (by omega)
        rwa [List.getD_eq_getElem?_getD, List.getElem?_eq_getElem h1, List.getD_eq_getElem?_getD, List.getElem?_eq_getElem h2] at this
      have hd : decide (a = b) = true := decide_eq_true this
      simp only [h, hd, wk3, onStO, bareL, toCl, chunks, wk, iaddrV_map, emb, unAgg, ares, aresL, ares1, tupled, forall_const, Nat.reduceAdd, Nat.reduceSub, Nat.reduceMul, Nat.reduceLeDiff, Nat.reduceEqDiff, Nat.reduceBEq, Int.reduceLE, Int.reduceLT, Int.reduceEq, Int.reduceNe, Int.reduceAdd, Int.reduceSub, Int.reduceToNat, Int.reduceNeg, ↓reduceIte, reduceCtorEq, cellsOf, cellA, lay, fillA]
      exact KWk_bare rfl ⟨rfl, rfl⟩
  · have hlen' : ¬ (a.length : Int) = b.length := by omega
    have : ¬ a = b := fun e => hlen (by rw [e])
    simp only [hlen', this, wk3, onStO, bareL, toCl, chunks, wk, iaddrV_map, emb, unAgg, ares, aresL, ares1, tupled, forall_const, Nat.reduceAdd, Nat.reduceSub, Nat.reduceMul, Nat.reduceLeDiff, Nat.reduceEqDiff, Nat.reduceBEq, Int.reduceLE, Int.reduceLT, Int.reduceEq, Int.reduceNe, Int.reduceAdd, Int.reduceSub, Int.reduceToNat, Int.reduceNeg, ↓reduceIte, reduceCtorEq, cellsOf, cellA, lay, fillA]
    exact KWk_bare rfl ⟨rfl, rfl⟩
theorem sameS (a b : List Dset) (ha : Short a) (hb : Short b) (H : AH) : C Try.prog 32 [asets a, asets b] H (fun x H' => x = .bool (decide (a = b)) ∧ H' = H) :=
  C_any (sameS0 a b ha hb) (by simp [bareL, asets_bare]) rfl H
end Go.Proofs.Ytemjlopoffjmpaa.Abs
set_option linter.unusedSimpArgs false
set_option linter.unusedVariables false
namespace Go.Proofs.Ytemjlopoffjmpaa.Abs
open Go Go.Proofs

def toBA (x : List UInt8) : ByteArray := ⟨x.toArray⟩
theorem toBA_list (l : List (List UInt8)) : (l.map toBA).map (·.data.toList) = l := by
  rw [List.map_map]
  have : ((fun x : ByteArray => x.data.toList) ∘ toBA) = id := by funext x; simp [toBA]
  rw [this, List.map_id]
theorem sjoin_spec (l : List (List UInt8)) (sep : List UInt8) (hl : l.length ≤ 1000000) (hlen : (Lib.join l sep).length ≤ 1000000) (H : AH) :
    C Try.prog 76 [.fz (l.map pname), .str sep] H (fun x H' => x = .str (Lib.join l sep) ∧ H' = H) := by
  refine C_lib ⟨Try.f76, Try.func76, by kernel_rfl, by kernel_rfl⟩ (v := .string ⟨(Lib.join l sep).toArray⟩) ?_ fun E => .pure (x := .str _) (.str _)
  intro E w vs hs hr
  obtain ⟨v, u, rfl, h1, h2⟩ := hr.two
  rw [rep_str h2]
  obtain ⟨a, cap, rfl, hcap, hb⟩ := rep_fz_inv h1
  by_cases h0 : l = []
  · subst h0
    refine (Try.strings_Join_none a cap ⟨sep.toArray⟩ w).mono ?_
    rintro e w' ⟨rfl, rfl⟩
    exact ⟨rfl, Go.RowKit.Below.refl _ _⟩
  · obtain ⟨b, off, sz, cells, t, q, rfl, hF, hsz, hin, hc⟩ := hb (by simpa using h0)
    have hw := hs.frz b _ (.inl hF)
    have hsz1 : sz = 1 := by
      obtain ⟨x, r, rfl⟩ := List.exists_cons_of_ne_nil h0
      exact (hsz (pname x) (by simp)).symm
    subst hsz1
    have key := Try.strings_Join b off cap (l.map toBA) ⟨sep.toArray⟩ w (fun j x hx => by
      rw [List.getElem?_map] at hx
      obtain ⟨y, hy, rfl⟩ := Option.map_eq_some_iff.1 hx
      have hj : j < l.length := by
        apply Classical.byContradiction; intro h; rw [List.getElem?_eq_none (by omega)] at hy; cases hy
      simp only [List.length_map] at hin
      have hlt : off + j < cells.size := by omega
      have hcc := hc j (pname y) 0 (.str y) cells[off + j] (by rw [List.getElem?_map, hy]; rfl) rfl (by rw [Nat.mul_one, Nat.add_zero]; exact Array.getElem?_eq_getElem hlt)
      have hv : cells[off + j] = .string ⟨y.toArray⟩ := by
        generalize cells[off + j] = v at hcc
        cases hcc; rfl
      show World.cell? w ⟨b, off + j, none⟩ = _
      simp only [World.cell?, hw]
      rw [Array.getElem?_eq_getElem hlt, hv]; rfl) (blk_lt hw) (by simp; omega) (by simpa using hcap) (by rw [toBA_list]; show (Lib.join l sep).length ≤ _; omega)
    rw [toBA_list] at key
    simpa using key
theorem join_spec (l : List (List UInt8)) (hl : l.length ≤ 1000000) (hlen : (Lib.join l [47]).length ≤ 1000000) (H : AH) :
    C Try.prog 55 [.fz (l.map pname)] H (fun x H' => x = .str (Lib.join l [47]) ∧ H' = H) := by
  refine C_body d55 rfl (WT_ok ?_)
  unfold c55
  simp only [wk, iaddrV_map, emb, unAgg, ares, aresL, ares1, tupled, forall_const, Nat.reduceAdd, Nat.reduceSub, Nat.reduceMul, Nat.reduceLeDiff, Nat.reduceEqDiff, Nat.reduceBEq, Int.reduceLE, Int.reduceLT, Int.reduceEq, Int.reduceNe, Int.reduceAdd, Int.reduceSub, Int.reduceToNat, Int.reduceNeg, ↓reduceIte, reduceCtorEq, cellsOf, cellA, lay, fillA]
  refine CT_ok (sjoin_spec l [47] hl hlen H) ?_
  rintro _ _ ⟨rfl, rfl⟩
  simp only [wk, iaddrV_map, emb, unAgg, ares, aresL, ares1, tupled, forall_const, Nat.reduceAdd, Nat.reduceSub, Nat.reduceMul, Nat.reduceLeDiff, Nat.reduceEqDiff, Nat.reduceBEq, Int.reduceLE, Int.reduceLT, Int.reduceEq, Int.reduceNe, Int.reduceAdd, Int.reduceSub, Int.reduceToNat, Int.reduceNeg, ↓reduceIte, reduceCtorEq, cellsOf, cellA, lay, fillA]

theorem okC_47 : okC 47 = false := by decide
theorem partsGo_name : ∀ (x rest cur : List UInt8) (out : List (List UInt8)), x.all (fun b => okC b.toNat) = true → partsGo (x ++ rest) cur out = partsGo rest (cur ++ x) out
  | [], rest, cur, out, _ => by simp
  | c :: x, rest, cur, out, h => by
    rw [List.all_cons, Bool.and_eq_true] at h
    have hc : ¬ c = 47 := by
      intro e; rw [e] at h; exact absurd h.1 (by decide)
    have e : partsGo (c :: (x ++ rest)) cur out = partsGo (x ++ rest) (cur ++ [c]) out := by
      rw [partsGo]; exact if_neg hc
    rw [List.cons_append, e, partsGo_name x rest (cur ++ [c]) out h.2, List.append_assoc]
    rfl
theorem mayN_all {x : List UInt8} (h : mayN x = true) : x.all (fun b => okC b.toNat) = true := by
  simp only [mayN, Bool.and_eq_true] at h; exact h.1
theorem partsGo_join : ∀ (r : List (List UInt8)) (cur : List UInt8) (out : List (List UInt8)), mayN cur = true → Names r → out.length + r.length < 7 → partsGo (Lib.joinTail [47] r) cur out = some (out ++ cur :: r)
  | [], cur, out, hc, _, hl => by
    show partsGo [] cur out = _
    unfold partsGo
    rw [if_pos ⟨hc, by simpa using hl⟩]
  | y :: r, cur, out, hc, hr, hl => by
    have e : Lib.joinTail [47] (y :: r) = 47 :: (y ++ Lib.joinTail [47] r) := by simp [Lib.joinTail]
    simp only [List.length_cons] at hl
    rw [e]
    unfold partsGo
    rw [if_pos rfl, if_pos ⟨hc, by omega⟩, partsGo_name y _ [] _ (mayN_all (hr y (by simp))), List.nil_append, partsGo_join r y _ (hr y (by simp)) (fun z hz => hr z (by simp [hz])) (by simp; omega)]
    simp
/-- The names of a way that is made of names. -/
theorem partsA_join {l : List (List UInt8)} (h : Names l) (hl : l.length ≤ 7) : partsA (Lib.join l [47]) = some l := by
  cases l with
  | nil => rfl
  | cons x r =>
    rw [Lib.join_cons]
    have hx := h x (by simp)
    have h1 := (mayN_len hx).1
    unfold partsA
    rw [if_neg (by cases x with | nil => simp at h1 | cons c x => simp), partsGo_name x _ [] [] (mayN_all hx), List.nil_append, partsGo_join r x [] hx (fun z hz => h z (by simp [hz])) (by simp at hl ⊢; omega)]
    rfl
theorem lens_names : ∀ (l : List (List UInt8)), Names l → Lib.lens l ≤ 8 * l.length
  | [], _ => by simp [Lib.lens]
  | x :: l, h => by
    have h1 := (mayN_len (h x (by simp))).2
    have h2 := lens_names l fun z hz => h z (by simp [hz])
    simp only [Lib.lens, List.map_cons, List.sum_cons, List.length_cons] at h2 ⊢
    omega
theorem join_short {l : List (List UInt8)} (h : Names l) (hl : l.length ≤ 7) : (Lib.join l [47]).length ≤ 100 := by
  cases l with
  | nil => simp [Lib.join_nil]
  | cons x r =>
    rw [Lib.join_length]
    have := lens_names _ h
    simp at hl this ⊢
    omega
end Go.Proofs.Ytemjlopoffjmpaa.Abs
set_option linter.unusedSimpArgs false
set_option linter.unusedVariables false
namespace Go.Proofs.Ytemjlopoffjmpaa.Abs
open Go Go.Proofs

/-- Seven steps up lead to the top. -/
theorem Wf.climb7 {s : List Node} (h : Wf s) {i : Nat} (hi : i < 8) (hk : (s.getD i default).kind ≠ 0) : itUp s 7 i = 0 := by
  obtain ⟨r0, hr0⟩ := h.tree
  obtain ⟨r, hr8, hr⟩ := rank8 r0 h.len (fun i hi => h.up8 hi) hr0
  have g : ∀ m, itUp s m i = 0 ∨ r (itUp s m i) + m ≤ r i := by
    intro m
    induction m with
    | zero => right; exact Nat.le_refl _
    | succ m ih =>
      rcases ih with ih | ih
      · left; rw [itUp_succ, ih, h.top]; rfl
      · by_cases h0 : itUp s m i = 0
        · left; rw [itUp_succ, h0, h.top]; rfl
        · right
          rw [itUp_succ]
          have := hr (itUp s m i) (by omega) (h.itUp8 m hi) (h.itUpk m hi hk)
          omega
  rcases g 7 with e | e
  · exact e
  · apply Classical.byContradiction
    intro h0
    have := hr (itUp s 7 i) (by omega) (h.itUp8 7 hi) (h.itUpk 7 hi hk)
    have := hr8 i hi
    omega

/-- The names on the way up. -/
def wayN (s : List Node) (n : Nat) : Nat → List (List UInt8)
  | 0 => []
  | k + 1 => (s.getD (itUp s k n) default).name :: wayN s n k
theorem wayN_len (s : List Node) (n : Nat) : ∀ k, (wayN s n k).length = k
  | 0 => rfl
  | k + 1 => by rw [wayN, List.length_cons, wayN_len s n k]
theorem wayN_down {s : List Node} (h : Wf s) {n : Nat} (hn : n < 8) (hk : (s.getD n default).kind ≠ 0) : ∀ k, (∀ j, j < k → itUp s j n ≠ 0) → downR s (wayN s n k) (itUp s k n) n
  | 0, _ => rfl
  | k + 1, hj => by
    have hm := h.itUp8 k hn
    have hmk := h.itUpk k hn hk
    have hm0 := hj k (by omega)
    rw [itUp_succ]
    have hu := h.upD (itUp s k n) (by have := h.len; omega)
    exact ⟨h.upk hm hmk, itUp s k n, h.kidOf (by omega) hm hmk (by omega), rfl, wayN_down h hn hk k fun j hj' => hj j (by omega)⟩
theorem wayN_names {s : List Node} (h : Wf s) {n : Nat} (hn : n < 8) (hk : (s.getD n default).kind ≠ 0) : ∀ k, (∀ j, j < k → itUp s j n ≠ 0) → Names (wayN s n k)
  | 0, _ => fun x hx => by cases hx
  | k + 1, hj => fun x hx => by
    have hm0 := hj k (by omega)
    rcases List.mem_cons.1 hx with rfl | hx
    · exact (h.ok _ (by omega) (h.itUp8 k hn)).name (h.itUpk k hn hk)
    · exact wayN_names h hn hk k (fun j hj' => hj j (by omega)) x hx

theorem way_spec0 (s : List Node) (hw : Wf s) (n : Nat) (hn : n < 8) :
    C Try.prog 21 [aset s, .int .i64 n] [] (fun x H' => (((s.getD n default).kind = 0 ∧ x = .tuple [.str [], .bool false]) ∨ ((s.getD n default).kind ≠ 0 ∧ ∃ l, downR s l 0 n ∧ Names l ∧ l.length ≤ 7 ∧ x = .tuple [.str (Lib.join l [47]), .bool true])) ∧ H' = []) := by
  have hlen := hw.len
  refine C_body' d21 rfl (WT_ok ?_)
  unfold c21
  simp only [aset, iaddr_node, pnode, wk3, onStO, bareL, toCl, chunks, wk, emb, unAgg, ares, aresL, ares1, tupled, forall_const, Nat.reduceAdd, Nat.reduceSub, Nat.reduceMul, Nat.reduceLeDiff, Nat.reduceEqDiff, Nat.reduceBEq, Int.reduceLE, Int.reduceLT, Int.reduceEq, Int.reduceNe, Int.reduceAdd, Int.reduceSub, Int.reduceToNat, Int.reduceNeg, ↓reduceIte, reduceCtorEq, cellsOf, cellA, lay, fillA]
  refine CT_ok (there_spec s n _) ?_
  rintro _ _ ⟨rfl, rfl⟩
  simp only [iaddr_node, pnode, wk3, onStO, bareL, toCl, chunks, wk, emb, unAgg, ares, aresL, ares1, tupled, forall_const, Nat.reduceAdd, Nat.reduceSub, Nat.reduceMul, Nat.reduceLeDiff, Nat.reduceEqDiff, Nat.reduceBEq, Int.reduceLE, Int.reduceLT, Int.reduceEq, Int.reduceNe, Int.reduceAdd, Int.reduceSub, Int.reduceToNat, Int.reduceNeg, ↓reduceIte, reduceCtorEq, cellsOf, cellA, lay, fillA]
  by_cases hk0 : (s.getD n default).kind = 0
  · have t1 : there s n = false := by
      unfold there
      rw [Int.toNat_natCast, hk0]; simp
    simp only [t1, iaddr_node, pnode, wk3, onStO, bareL, toCl, chunks, wk, emb, unAgg, ares, aresL, ares1, tupled, forall_const, Nat.reduceAdd, Nat.reduceSub, Nat.reduceMul, Nat.reduceLeDiff, Nat.reduceEqDiff, Nat.reduceBEq, Int.reduceLE, Int.reduceLT, Int.reduceEq, Int.reduceNe, Int.reduceAdd, Int.reduceSub, Int.reduceToNat, Int.reduceNeg, ↓reduceIte, reduceCtorEq, cellsOf, cellA, lay, fillA]
    exact KWk_bare rfl ⟨.inl ⟨hk0, rfl⟩, rfl⟩
  have t1 := there_nat (by omega) hk0
  simp only [t1, iaddr_node, pnode, wk3, onStO, bareL, toCl, chunks, wk, emb, unAgg, ares, aresL, ares1, tupled, forall_const, Nat.reduceAdd, Nat.reduceSub, Nat.reduceMul, Nat.reduceLeDiff, Nat.reduceEqDiff, Nat.reduceBEq, Int.reduceLE, Int.reduceLT, Int.reduceEq, Int.reduceNe, Int.reduceAdd, Int.reduceSub, Int.reduceToNat, Int.reduceNeg, ↓reduceIte, reduceCtorEq, cellsOf, cellA, lay, fillA]
  refine WT_loop (W_wk (Wk_empFz 6 rfl) (W_wk (fr' := [.fz (s.map pnode), .int .i64 n, .top, .top, .str [], .bool false, .fz [], .int .i64 0] ++ List.replicate 29 .top) (Wk_tops ?_) (W_loop (fun nn fr H' => ∃ k : Nat, k ≤ 7 ∧ nn = 7 - k ∧ (∀ j, j < k → itUp s j n ≠ 0) ∧ H' = [] ∧
    fr = [.fz (s.map pnode), .int .i64 (itUp s k n : Nat), .top, .top, .str [], .bool false, .fz ((wayN s n k).map pname), .int .i64 k] ++ List.replicate 29 .top) 7 ⟨0, by omega, rfl, fun j hj => by omega, rfl, rfl⟩ ?_)))
  · simp only [List.replicate_succ, List.replicate_zero, List.set_cons_succ, List.set_cons_zero, List.cons_append, List.nil_append, Tops_top, Tops_same, Tops_nil]
  rintro nn fr H' ⟨k, hk, rfl, hj, rfl, rfl⟩
  refine WT_ok ?_
  simp only [hlen, iaddr_node, pnode, wk3, onStO, bareL, toCl, chunks, wk, emb, unAgg, ares, aresL, ares1, tupled, forall_const, Nat.reduceAdd, Nat.reduceSub, Nat.reduceMul, Nat.reduceLeDiff, Nat.reduceEqDiff, Nat.reduceBEq, Int.reduceLE, Int.reduceLT, Int.reduceEq, Int.reduceNe, Int.reduceAdd, Int.reduceSub, Int.reduceToNat, Int.reduceNeg, ↓reduceIte, reduceCtorEq, cellsOf, cellA, lay, fillA]
  have h8 : (k : Int) < (8 : Nat) := by omega
  have hm := hw.itUp8 k hn
  have g1 : (0 : Int) ≤ (itUp s k n : Nat) := by omega
  have g2 : ((itUp s k n : Nat) : Int) < (8 : Nat) := by omega
  have w2 : IntKind.i64.wrap ((k : Int) + 1) = (k : Int) + 1 := IntWalk.i64_in _ (by omega)
  by_cases h0 : itUp s k n = 0
  · have h0' : ((itUp s k n : Nat) : Int) = 0 := by omega
    simp only [h8, h0', iaddr_node, pnode, wk3, onStO, bareL, toCl, chunks, wk, emb, unAgg, ares, aresL, ares1, tupled, forall_const, Nat.reduceAdd, Nat.reduceSub, Nat.reduceMul, Nat.reduceLeDiff, Nat.reduceEqDiff, Nat.reduceBEq, Int.reduceLE, Int.reduceLT, Int.reduceEq, Int.reduceNe, Int.reduceAdd, Int.reduceSub, Int.reduceToNat, Int.reduceNeg, ↓reduceIte, reduceCtorEq, cellsOf, cellA, lay, fillA]
    have hd := wayN_down hw hn hk0 k hj
    have hN := wayN_names hw hn hk0 k hj
    refine CT_ok (join_spec (wayN s n k) (by rw [wayN_len]; omega) (by have := join_short hN (by rw [wayN_len]; omega); omega) _) ?_
    rintro _ _ ⟨rfl, rfl⟩
    simp only [iaddr_node, pnode, wk3, onStO, bareL, toCl, chunks, wk, emb, unAgg, ares, aresL, ares1, tupled, forall_const, Nat.reduceAdd, Nat.reduceSub, Nat.reduceMul, Nat.reduceLeDiff, Nat.reduceEqDiff, Nat.reduceBEq, Int.reduceLE, Int.reduceLT, Int.reduceEq, Int.reduceNe, Int.reduceAdd, Int.reduceSub, Int.reduceToNat, Int.reduceNeg, ↓reduceIte, reduceCtorEq, cellsOf, cellA, lay, fillA]
    rw [h0] at hd
    exact KWk_bare rfl ⟨.inr ⟨hk0, _, hd, hN, by rw [wayN_len]; omega, rfl⟩, rfl⟩
  · have h0' : ¬ ((itUp s k n : Nat) : Int) = 0 := by omega
    have hk7 : k ≠ 7 := by rintro rfl; exact h0 (hw.climb7 hn hk0)
    simp only [h8, h0', hlen, g1, g2, w2, iaddr_node, pnode, wk3, onStO, bareL, toCl, chunks, wk, emb, unAgg, ares, aresL, ares1, tupled, forall_const, Nat.reduceAdd, Nat.reduceSub, Nat.reduceMul, Nat.reduceLeDiff, Nat.reduceEqDiff, Nat.reduceBEq, Int.reduceLE, Int.reduceLT, Int.reduceEq, Int.reduceNe, Int.reduceAdd, Int.reduceSub, Int.reduceToNat, Int.reduceNeg, ↓reduceIte, reduceCtorEq, cellsOf, cellA, lay, fillA]
    have hup := hw.upD (itUp s k n) (by omega)
    have eu : ((itUp s (k + 1) n : Nat) : Int) = (s.getD (itUp s k n) default).up := by rw [itUp_succ]; omega
    have hl := wayN_len s n k
    refine ⟨⟨?_, by omega, by omega⟩, ?_⟩
    · rw [List.all_eq_true]
      intro e he
      obtain ⟨r, hr, rfl⟩ := List.mem_map.1 he
      obtain ⟨z, _, rfl⟩ := List.mem_map.1 hr
      rfl
    · refine QLoop_wk (n' := 7 - (k + 1)) (by omega) ⟨k + 1, by omega, rfl, fun j h => ?_, rfl, rfl⟩ (Wk_froz 0 ((wayN s n (k + 1)).map pname) ?_ ?_)
      · rcases Nat.lt_or_ge j k with h' | h'
        · exact hj j h'
        · have : j = k := by omega
          subst this; exact h0
      · simp [AH.at, wayN, pname, emb]
      · have hl2 := wayN_len s n (k + 1)
        simp only [frzL, frz, renL, ren, if_true, List.length_map, hl, hl2, Nat.zero_add, Nat.add_comm 1 k, Nat.le_refl, and_self, List.drop_zero, eu, Int.natCast_add, Int.natCast_one, List.replicate_succ, List.replicate_zero, List.cons_append, List.nil_append]
        rw [List.take_of_length_le (by simp [hl2])]
        simp only [Tops_top, Tops_same, Tops_nil]
theorem way_spec (s : List Node) (hw : Wf s) (n : Nat) (hn : n < 8) (H : AH) :
    C Try.prog 21 [aset s, .int .i64 n] H (fun x H' => (((s.getD n default).kind = 0 ∧ x = .tuple [.str [], .bool false]) ∨ ((s.getD n default).kind ≠ 0 ∧ ∃ l, downR s l 0 n ∧ Names l ∧ l.length ≤ 7 ∧ x = .tuple [.str (Lib.join l [47]), .bool true])) ∧ H' = H) :=
  C_pure (K0 := fun x => ((s.getD n default).kind = 0 ∧ x = .tuple [.str [], .bool false]) ∨ ((s.getD n default).kind ≠ 0 ∧ ∃ l, downR s l 0 n ∧ Names l ∧ l.length ≤ 7 ∧ x = .tuple [.str (Lib.join l [47]), .bool true])) (way_spec0 s hw n hn) (fun τ => renL_bare τ _ (by simp [bareL, bare, aset])) (by rintro x (⟨_, rfl⟩ | ⟨_, l, _, _, _, rfl⟩) τ <;> exact ren_bare τ _ (by simp [bare, bareL])) H

/-- A way leads to one node alone. -/
theorem downR_uniq {s : List Node} (h : Wf s) : ∀ {l : List (List UInt8)} {a b c : Nat}, downR s l a b → downR s l a c → b = c
  | [], a, b, c, hb, hc => by simp only [downR] at hb hc; omega
  | x :: l, a, b, c, ⟨_, k, hk, hkn, hb⟩, ⟨_, m, hm, hmn, hc⟩ => by
    have hlen := h.len
    have e : k = m := h.uniq k m hk.1 (by have := hk.2.1; omega) hm.1 (by have := hm.2.1; omega) (by rcases hk.2.2.1 with e | e <;> rw [e] <;> decide) (by rcases hm.2.2.1 with e | e <;> rw [e] <;> decide) (by rw [hk.2.2.2, hm.2.2.2]) (by rw [hkn, hmn])
    subst e
    exact downR_uniq h hb hc
theorem downR_split {s : List Node} : ∀ {l1 l2 : List (List UInt8)} {a b : Nat}, downR s (l1 ++ l2) a b → ∃ c, downR s l1 a c ∧ downR s l2 c b
  | [], _, a, _, h => ⟨a, rfl, h⟩
  | x :: l1, l2, a, b, ⟨h1, k, hk, hkn, h⟩ => by
    obtain ⟨c, hc, hb⟩ := downR_split (l1 := l1) h
    exact ⟨c, ⟨h1, k, hk, hkn, hc⟩, hb⟩
theorem downF_not {s : List Node} (h : Wf s) {l : List (List UInt8)} {n : Nat} (hR : downR s l 0 n) : ¬ downF s l := by
  rintro ⟨l1, x, l2, a, rfl, h1, _, h2⟩
  obtain ⟨c, hc, hk, m, hm, hmn, _⟩ := downR_split hR
  have := downR_uniq h h1 hc
  subst this
  rcases h2 with h2 | h2
  · exact h2 hk
  · exact h2 m hm hmn
end Go.Proofs.Ytemjlopoffjmpaa.Abs
set_option linter.unusedSimpArgs false
set_option linter.unusedVariables false
namespace Go.Proofs.Ytemjlopoffjmpaa.Abs
open Go Go.Proofs

def cellsN (x : Node) : List AV := [.int .i64 x.kind, .int .i64 x.up, .str x.name, .str x.body, .int .i64 x.bad]
theorem renO_node (τ : Nat → Option Nat) (x : Node) : renO τ [cellsN x] = [cellsN x] := by simp [renO, cellsN, renL, ren]
theorem eqCells5 (k u b k' u' b' : Int) (nm bo nm' bo' : List UInt8) : eqCells [.i, .i, .s, .s, .i] [.int .i64 k, .int .i64 u, .str nm, .str bo, .int .i64 b] [.int .i64 k', .int .i64 u', .str nm', .str bo', .int .i64 b'] = some (decide (k = k') && (decide (u = u') && (decide (nm = nm') && (decide (bo = bo') && decide (b = b'))))) := by
  have h := eqCells_node ⟨k, u, nm, bo, b⟩ ⟨k', u', nm', bo', b'⟩
  refine h.trans ?_
  congr 1
  rw [Bool.eq_iff_iff]
  simp only [Node.mk.injEq, Bool.and_eq_true, decide_eq_true_eq]

set_option maxRecDepth 10000 in
set_option maxHeartbeats 1000000 in
theorem torn0 (s : List Node) (hw : Wf s) : C Try.prog 83 [aset s] [] (fun x H' => x = .bool true ∧ H' = []) := by
  have hlen := hw.len
  refine C_body' d83 rfl (WT_ok ?_)
  unfold c83
  have htop := hw.top
  have hl8 : (s.length : Int) = 8 := by omega
  have hz : (s.getD (0 : Int).toNat default) = ⟨2, 0, [], [], 0⟩ := htop
  simp only [aset, hl8, eqCells5, htop, iaddr_node, pnode, wk3, onStO, bareL, toCl, chunks, wk, emb, unAgg, ares, aresL, ares1, tupled, forall_const, Nat.reduceAdd, Nat.reduceSub, Nat.reduceMul, Nat.reduceLeDiff, Nat.reduceEqDiff, Nat.reduceBEq, Int.reduceLE, Int.reduceLT, Int.reduceEq, Int.reduceNe, Int.reduceAdd, Int.reduceSub, Int.reduceToNat, Int.reduceNeg, ↓reduceIte, reduceCtorEq, cellsOf, cellA, lay, fillA]
  refine WT_loop (W_wk (fr' := [aset s, .top, .bool false, .int .i64 (1 : Nat)] ++ List.replicate 136 .top) (Wk_tops ?_) (W_loop (fun n fr H' => ∃ i : Nat, 1 ≤ i ∧ i ≤ 8 ∧ n = 8 - i ∧ H' = [] ∧ fr = [aset s, .top, .bool false, .int .i64 i] ++ List.replicate 136 .top) 7 ⟨1, by omega, by omega, rfl, rfl, rfl⟩ ?_))
  · simp only [aset, List.replicate_succ, List.replicate_zero, List.cons_append, List.nil_append, Tops_top, Tops_same, Tops_nil, Int.cast_ofNat_Int]
  rintro n fr H' ⟨i, h1, h8, rfl, rfl, rfl⟩
  refine WT_ok ?_
  simp only [aset, hl8, iaddr_node, pnode, wk3, onStO, bareL, toCl, chunks, wk, emb, unAgg, ares, aresL, ares1, tupled, forall_const, Nat.reduceAdd, Nat.reduceSub, Nat.reduceMul, Nat.reduceLeDiff, Nat.reduceEqDiff, Nat.reduceBEq, Int.reduceLE, Int.reduceLT, Int.reduceEq, Int.reduceNe, Int.reduceAdd, Int.reduceSub, Int.reduceToNat, Int.reduceNeg, ↓reduceIte, reduceCtorEq, cellsOf, cellA, lay, fillA]
  refine guard_both ?_ ?_ <;> intro h <;> simp only [hy] at h
  · have hi8 : i < 8 := by omega
    have ho := hw.ok i h1 hi8
    have h0 : (0 : Int) ≤ i := by omega
    have w2 : IntKind.i64.wrap ((i : Int) + 1) = (i : Int) + 1 := IntWalk.i64_in _ (by omega)
    have hch : (s.getD i default).kind ≠ 0 → itUp s 8 i = 0 := hw.climb hi8
    have hun := fun k hk1 hk8 => hw.uniq k i hk1 hk8 h1 hi8
    have hupk : (s.getD i default).kind ≠ 0 → (s.getD (s.getD i default).up.toNat default).kind = 2 := ho.upf
    generalize hx : s.getD i default = x at ho hch hun hupk ⊢
    by_cases hk0 : x.kind = 0
    · have hxz : x = ⟨0, 0, [], [], 0⟩ := ho.none hk0
      subst hxz
      simp only [h, h0, hx, hl8, eqCells5, w2, lay, iaddr_node, pnode, wk3, onStO, bareL, toCl, chunks, wk, emb, unAgg, ares, aresL, ares1, tupled, forall_const, Nat.reduceAdd, Nat.reduceSub, Nat.reduceMul, Nat.reduceLeDiff, Nat.reduceEqDiff, Nat.reduceBEq, Int.reduceLE, Int.reduceLT, Int.reduceEq, Int.reduceNe, Int.reduceAdd, Int.reduceSub, Int.reduceToNat, Int.reduceNeg, ↓reduceIte, reduceCtorEq, cellsOf, cellA, lay, fillA]
      refine QLoop_wk (n' := 8 - (i + 1)) (by omega) ⟨i + 1, by omega, by omega, rfl, rfl, rfl⟩ (Wk_none ?_)
      simp only [aset, renL, ren, List.replicate_succ, List.replicate_zero, List.cons_append, List.nil_append, Tops_top, Tops_same, Tops_nil, Int.natCast_add, Int.natCast_one]
    · have hb := ho.bad
      have hnm := ho.name hk0
      have hnl := (mayN_len hnm).2
      have hup := ho.up
      have hbo := ho.body
      have hb128 : ¬ (128 : Int) < x.body.length := by omega
      have z128 : ¬ (128 : Int) < ((0 : Nat) : Int) := by decide
      have hN := mayname_spec x.name (by omega)
      have hF := folder_exact s x.up
      have hfd : (decide (0 ≤ x.up ∧ x.up < s.length) && decide ((s.getD x.up.toNat default).kind = 2 ∨ (s.getD x.up.toNat default).kind = 3)) = true := by
        rw [Bool.and_eq_true]; exact ⟨decide_eq_true ⟨hup.1, by omega⟩, decide_eq_true (.inl (hupk hk0))⟩
      rw [hfd] at hF
      rw [hnm] at hN
      have hun2 : ∀ k : Nat, 1 ≤ k → k < i → (s.getD k default).kind ≠ 0 → (s.getD k default).up = x.up → (s.getD k default).name ≠ x.name := fun k hk1 hk2 hkk hku hkn => by
        have := hun k hk1 (by omega) hkk hk0 hku hkn
        omega
      have hk2 : ∀ k : Nat, k < 8 → (s.getD k default).kind ≠ 3 := fun k hk8 => by rcases hw.kindsD k (by omega) with e | e | e <;> rw [e] <;> decide
      have hit : itUp s 8 i = 0 := hch hk0
      have h8i : i ≠ 0 := by omega
      have hit8 : ∀ m, itUp s m i < 8 := fun m => hw.itUp8 m hi8
      have hxk : (s.getD i default).kind ≠ 0 := by rw [hx]; exact hk0
      rcases ho.kinds with e | e | e
      · exact absurd e hk0
      · simp only [h, h0, hx, hl8, e, hb, w2, lay, iaddr_node, pnode, wk3, onStO, bareL, toCl, chunks, wk, emb, unAgg, ares, aresL, ares1, tupled, forall_const, Nat.reduceAdd, Nat.reduceSub, Nat.reduceMul, Nat.reduceLeDiff, Nat.reduceEqDiff, Nat.reduceBEq, Int.reduceLE, Int.reduceLT, Int.reduceEq, Int.reduceNe, Int.reduceAdd, Int.reduceSub, Int.reduceToNat, Int.reduceNeg, ↓reduceIte, reduceCtorEq, cellsOf, cellA, lay, fillA]
        refine CT_ok (hN _) ?_
        rintro _ _ ⟨rfl, rfl⟩
        simp only [lay, iaddr_node, pnode, wk3, onStO, bareL, toCl, chunks, wk, emb, unAgg, ares, aresL, ares1, tupled, forall_const, Nat.reduceAdd, Nat.reduceSub, Nat.reduceMul, Nat.reduceLeDiff, Nat.reduceEqDiff, Nat.reduceBEq, Int.reduceLE, Int.reduceLT, Int.reduceEq, Int.reduceNe, Int.reduceAdd, Int.reduceSub, Int.reduceToNat, Int.reduceNeg, ↓reduceIte, reduceCtorEq, cellsOf, cellA, lay, fillA]
        refine CT_ok (hF _) ?_
        rintro _ _ ⟨rfl, rfl⟩
        simp only [hb128, lay, iaddr_node, pnode, wk3, onStO, bareL, toCl, chunks, wk, emb, unAgg, ares, aresL, ares1, tupled, forall_const, Nat.reduceAdd, Nat.reduceSub, Nat.reduceMul, Nat.reduceLeDiff, Nat.reduceEqDiff, Nat.reduceBEq, Int.reduceLE, Int.reduceLT, Int.reduceEq, Int.reduceNe, Int.reduceAdd, Int.reduceSub, Int.reduceToNat, Int.reduceNeg, ↓reduceIte, reduceCtorEq, cellsOf, cellA, lay, fillA]
        refine WT_loop (W_wk (fr' := [aset s, .top, .bool false, .int .i64 i, .ptr 0 0 0 1, .int .i64 (1 : Nat)] ++ List.replicate 134 .top) (Wk_tops ?_) (W_loop (fun n fr H' => ∃ (k : Nat) (kd bd : Int) (bo : List UInt8), 1 ≤ k ∧ k ≤ i ∧ n = i - k ∧ H' = [some [[.int .i64 kd, .int .i64 x.up, .str x.name, .str bo, .int .i64 bd]]] ∧ fr = [aset s, .top, .bool false, .int .i64 i, .ptr 0 0 0 1, .int .i64 k] ++ List.replicate 134 .top) (i - 1) ⟨1, _, _, _, by omega, by omega, rfl, rfl, rfl⟩ ?_))
        · simp only [aset, List.replicate_succ, List.replicate_zero, List.cons_append, List.nil_append, Tops_top, Tops_same, Tops_nil, Int.cast_ofNat_Int]
        rintro n fr H' ⟨k, kd, bd, bo, hk1, hki, rfl, rfl, rfl⟩
        refine WT_ok ?_
        simp only [aset, lay, iaddr_node, pnode, wk3, onStO, bareL, toCl, chunks, wk, emb, unAgg, ares, aresL, ares1, tupled, forall_const, Nat.reduceAdd, Nat.reduceSub, Nat.reduceMul, Nat.reduceLeDiff, Nat.reduceEqDiff, Nat.reduceBEq, Int.reduceLE, Int.reduceLT, Int.reduceEq, Int.reduceNe, Int.reduceAdd, Int.reduceSub, Int.reduceToNat, Int.reduceNeg, ↓reduceIte, reduceCtorEq, cellsOf, cellA, lay, fillA]
        refine guard_both ?_ ?_ <;> intro hh <;> simp only [hy] at hh
        · have g0 : (0 : Int) ≤ k := by omega
          have g1 : (k : Int) < 8 := by omega
          have v2 : IntKind.i64.wrap ((k : Int) + 1) = (k : Int) + 1 := IntWalk.i64_in _ (by omega)
          have hu3 := hun2 k hk1 (by omega)
          have hk3 := hk2 k (by omega)
          simp only [hh, aset, lay, iaddr_node, pnode, wk3, onStO, bareL, toCl, chunks, wk, emb, unAgg, ares, aresL, ares1, tupled, forall_const, Nat.reduceAdd, Nat.reduceSub, Nat.reduceMul, Nat.reduceLeDiff, Nat.reduceEqDiff, Nat.reduceBEq, Int.reduceLE, Int.reduceLT, Int.reduceEq, Int.reduceNe, Int.reduceAdd, Int.reduceSub, Int.reduceToNat, Int.reduceNeg, ↓reduceIte, reduceCtorEq, cellsOf, cellA, lay, fillA]
          refine WT_draw ?_
          by_cases z0 : (s.getD k default).kind = 0
          · simp only [hh, g0, g1, hl8, z0, v2, lay, iaddr_node, pnode, wk3, onStO, bareL, toCl, chunks, wk, emb, unAgg, ares, aresL, ares1, tupled, forall_const, Nat.reduceAdd, Nat.reduceSub, Nat.reduceMul, Nat.reduceLeDiff, Nat.reduceEqDiff, Nat.reduceBEq, Int.reduceLE, Int.reduceLT, Int.reduceEq, Int.reduceNe, Int.reduceAdd, Int.reduceSub, Int.reduceToNat, Int.reduceNeg, ↓reduceIte, reduceCtorEq, cellsOf, cellA, lay, fillA]
            refine QLoop_go (n' := i - (k + 1)) (by omega) ⟨k + 1, kd, bd, bo, by omega, by omega, rfl, rfl, rfl⟩ ?_
            simp only [aset, List.replicate_succ, List.replicate_zero, List.cons_append, List.nil_append, Tops_top, Tops_same, Tops_nil, Int.natCast_add, Int.natCast_one]
          · by_cases z1 : (s.getD k default).up = x.up
            · have z2 := hu3 z0 z1
              simp only [hh, g0, g1, hl8, z0, hk3, z1, z2, v2, lay, iaddr_node, pnode, wk3, onStO, bareL, toCl, chunks, wk, emb, unAgg, ares, aresL, ares1, tupled, forall_const, Nat.reduceAdd, Nat.reduceSub, Nat.reduceMul, Nat.reduceLeDiff, Nat.reduceEqDiff, Nat.reduceBEq, Int.reduceLE, Int.reduceLT, Int.reduceEq, Int.reduceNe, Int.reduceAdd, Int.reduceSub, Int.reduceToNat, Int.reduceNeg, ↓reduceIte, reduceCtorEq, cellsOf, cellA, lay, fillA]
              refine QLoop_go (n' := i - (k + 1)) (by omega) ⟨k + 1, kd, bd, bo, by omega, by omega, rfl, rfl, rfl⟩ ?_
              simp only [aset, List.replicate_succ, List.replicate_zero, List.cons_append, List.nil_append, Tops_top, Tops_same, Tops_nil, Int.natCast_add, Int.natCast_one]
            · simp only [hh, g0, g1, hl8, z0, hk3, z1, v2, lay, iaddr_node, pnode, wk3, onStO, bareL, toCl, chunks, wk, emb, unAgg, ares, aresL, ares1, tupled, forall_const, Nat.reduceAdd, Nat.reduceSub, Nat.reduceMul, Nat.reduceLeDiff, Nat.reduceEqDiff, Nat.reduceBEq, Int.reduceLE, Int.reduceLT, Int.reduceEq, Int.reduceNe, Int.reduceAdd, Int.reduceSub, Int.reduceToNat, Int.reduceNeg, ↓reduceIte, reduceCtorEq, cellsOf, cellA, lay, fillA]
              refine QLoop_go (n' := i - (k + 1)) (by omega) ⟨k + 1, kd, bd, bo, by omega, by omega, rfl, rfl, rfl⟩ ?_
              simp only [aset, List.replicate_succ, List.replicate_zero, List.cons_append, List.nil_append, Tops_top, Tops_same, Tops_nil, Int.natCast_add, Int.natCast_one]
        · simp only [hh, aset, lay, iaddr_node, pnode, wk3, onStO, bareL, toCl, chunks, wk, emb, unAgg, ares, aresL, ares1, tupled, forall_const, Nat.reduceAdd, Nat.reduceSub, Nat.reduceMul, Nat.reduceLeDiff, Nat.reduceEqDiff, Nat.reduceBEq, Int.reduceLE, Int.reduceLT, Int.reduceEq, Int.reduceNe, Int.reduceAdd, Int.reduceSub, Int.reduceToNat, Int.reduceNeg, ↓reduceIte, reduceCtorEq, cellsOf, cellA, lay, fillA]
          refine WT_loop (W_wk (fr' := [aset s, .top, .bool false, .int .i64 i, .top, .top, .int .i64 (itUp s 0 i : Nat), .int .i64 (0 : Nat)] ++ List.replicate 132 .top) (Wk_none ?_) (W_loop (fun n fr H' => ∃ k : Nat, k ≤ 8 ∧ n = 8 - k ∧ H' = [] ∧ fr = [aset s, .top, .bool false, .int .i64 i, .top, .top, .int .i64 (itUp s k i : Nat), .int .i64 k] ++ List.replicate 132 .top) 8 ⟨0, by omega, rfl, rfl, rfl⟩ ?_))
          · simp only [itUp, aset, renL, ren, List.replicate_succ, List.replicate_zero, List.cons_append, List.nil_append, Tops_top, Tops_same, Tops_nil, Int.cast_ofNat_Int]
          rintro n fr H' ⟨k, hk8, rfl, rfl, rfl⟩
          refine WT_ok ?_
          have v2 : IntKind.i64.wrap ((k : Int) + 1) = (k : Int) + 1 := IntWalk.i64_in _ (by omega)
          have g0 : (0 : Int) ≤ (itUp s k i : Nat) := by omega
          have g1 : ((itUp s k i : Nat) : Int) < 8 := by have := hit8 k; omega
          by_cases y0 : (k : Int) < 8
          · by_cases y1 : (0 : Int) < (itUp s k i : Nat)
            · simp only [y0, y1, g0, g1, hl8, v2, aset, lay, iaddr_node, pnode, wk3, onStO, bareL, toCl, chunks, wk, emb, unAgg, ares, aresL, ares1, tupled, forall_const, Nat.reduceAdd, Nat.reduceSub, Nat.reduceMul, Nat.reduceLeDiff, Nat.reduceEqDiff, Nat.reduceBEq, Int.reduceLE, Int.reduceLT, Int.reduceEq, Int.reduceNe, Int.reduceAdd, Int.reduceSub, Int.reduceToNat, Int.reduceNeg, ↓reduceIte, reduceCtorEq, cellsOf, cellA, lay, fillA]
              have hupn := hw.upD (itUp s k i) (by have := hit8 k; omega)
              refine QLoop_go (n' := 8 - (k + 1)) (by omega) ⟨k + 1, by omega, rfl, rfl, rfl⟩ ?_
              have eu : ((itUp s (k + 1) i : Nat) : Int) = (s.getD (itUp s k i) default).up := by rw [itUp_succ]; omega
              simp only [aset, eu, List.replicate_succ, List.replicate_zero, List.cons_append, List.nil_append, Tops_top, Tops_same, Tops_nil, Int.natCast_add, Int.natCast_one]
            · have y2 : ((itUp s k i : Nat) : Int) = 0 := by omega
              simp only [y0, y2, hl8, w2, aset, lay, iaddr_node, pnode, wk3, onStO, bareL, toCl, chunks, wk, emb, unAgg, ares, aresL, ares1, tupled, forall_const, Nat.reduceAdd, Nat.reduceSub, Nat.reduceMul, Nat.reduceLeDiff, Nat.reduceEqDiff, Nat.reduceBEq, Int.reduceLE, Int.reduceLT, Int.reduceEq, Int.reduceNe, Int.reduceAdd, Int.reduceSub, Int.reduceToNat, Int.reduceNeg, ↓reduceIte, reduceCtorEq, cellsOf, cellA, lay, fillA]
              refine QLoop_go (n' := 8 - (i + 1)) (by omega) ⟨i + 1, by omega, by omega, rfl, rfl, rfl⟩ ?_
              simp only [aset, List.replicate_succ, List.replicate_zero, List.cons_append, List.nil_append, Tops_top, Tops_same, Tops_nil, Int.natCast_add, Int.natCast_one]
          · have hk : k = 8 := by omega
            subst hk
            have y2 : ((itUp s 8 i : Nat) : Int) = 0 := by omega
            simp only [y0, y2, hl8, w2, aset, lay, iaddr_node, pnode, wk3, onStO, bareL, toCl, chunks, wk, emb, unAgg, ares, aresL, ares1, tupled, forall_const, Nat.reduceAdd, Nat.reduceSub, Nat.reduceMul, Nat.reduceLeDiff, Nat.reduceEqDiff, Nat.reduceBEq, Int.reduceLE, Int.reduceLT, Int.reduceEq, Int.reduceNe, Int.reduceAdd, Int.reduceSub, Int.reduceToNat, Int.reduceNeg, ↓reduceIte, reduceCtorEq, cellsOf, cellA, lay, fillA]
            refine QLoop_go (n' := 8 - (i + 1)) (by omega) ⟨i + 1, by omega, by omega, rfl, rfl, rfl⟩ ?_
            simp only [aset, List.replicate_succ, List.replicate_zero, List.cons_append, List.nil_append, Tops_top, Tops_same, Tops_nil, Int.natCast_add, Int.natCast_one]
      · have hbe := ho.fold e
        simp only [h, h0, hx, hl8, e, hb, hbe, w2, lay, iaddr_node, pnode, wk3, onStO, bareL, toCl, chunks, wk, emb, unAgg, ares, aresL, ares1, tupled, forall_const, Nat.reduceAdd, Nat.reduceSub, Nat.reduceMul, Nat.reduceLeDiff, Nat.reduceEqDiff, Nat.reduceBEq, Int.reduceLE, Int.reduceLT, Int.reduceEq, Int.reduceNe, Int.reduceAdd, Int.reduceSub, Int.reduceToNat, Int.reduceNeg, ↓reduceIte, reduceCtorEq, cellsOf, cellA, lay, fillA]
        refine CT_ok (hN _) ?_
        rintro _ _ ⟨rfl, rfl⟩
        simp only [lay, iaddr_node, pnode, wk3, onStO, bareL, toCl, chunks, wk, emb, unAgg, ares, aresL, ares1, tupled, forall_const, Nat.reduceAdd, Nat.reduceSub, Nat.reduceMul, Nat.reduceLeDiff, Nat.reduceEqDiff, Nat.reduceBEq, Int.reduceLE, Int.reduceLT, Int.reduceEq, Int.reduceNe, Int.reduceAdd, Int.reduceSub, Int.reduceToNat, Int.reduceNeg, ↓reduceIte, reduceCtorEq, cellsOf, cellA, lay, fillA]
        refine CT_ok (hF _) ?_
        rintro _ _ ⟨rfl, rfl⟩
        simp only [z128, lay, iaddr_node, pnode, wk3, onStO, bareL, toCl, chunks, wk, emb, unAgg, ares, aresL, ares1, tupled, forall_const, Nat.reduceAdd, Nat.reduceSub, Nat.reduceMul, Nat.reduceLeDiff, Nat.reduceEqDiff, Nat.reduceBEq, Int.reduceLE, Int.reduceLT, Int.reduceEq, Int.reduceNe, Int.reduceAdd, Int.reduceSub, Int.reduceToNat, Int.reduceNeg, ↓reduceIte, reduceCtorEq, cellsOf, cellA, lay, fillA]
        refine WT_loop (W_wk (fr' := [aset s, .top, .bool false, .int .i64 i, .ptr 0 0 0 1, .int .i64 (1 : Nat)] ++ List.replicate 134 .top) (Wk_tops ?_) (W_loop (fun n fr H' => ∃ (k : Nat) (kd bd : Int) (bo : List UInt8), 1 ≤ k ∧ k ≤ i ∧ n = i - k ∧ H' = [some [[.int .i64 kd, .int .i64 x.up, .str x.name, .str bo, .int .i64 bd]]] ∧ fr = [aset s, .top, .bool false, .int .i64 i, .ptr 0 0 0 1, .int .i64 k] ++ List.replicate 134 .top) (i - 1) ⟨1, _, _, _, by omega, by omega, rfl, rfl, rfl⟩ ?_))
        · simp only [aset, List.replicate_succ, List.replicate_zero, List.cons_append, List.nil_append, Tops_top, Tops_same, Tops_nil, Int.cast_ofNat_Int]
        rintro n fr H' ⟨k, kd, bd, bo, hk1, hki, rfl, rfl, rfl⟩
        refine WT_ok ?_
        simp only [aset, lay, iaddr_node, pnode, wk3, onStO, bareL, toCl, chunks, wk, emb, unAgg, ares, aresL, ares1, tupled, forall_const, Nat.reduceAdd, Nat.reduceSub, Nat.reduceMul, Nat.reduceLeDiff, Nat.reduceEqDiff, Nat.reduceBEq, Int.reduceLE, Int.reduceLT, Int.reduceEq, Int.reduceNe, Int.reduceAdd, Int.reduceSub, Int.reduceToNat, Int.reduceNeg, ↓reduceIte, reduceCtorEq, cellsOf, cellA, lay, fillA]
        refine guard_both ?_ ?_ <;> intro hh <;> simp only [hy] at hh
        · have g0 : (0 : Int) ≤ k := by omega
          have g1 : (k : Int) < 8 := by omega
          have v2 : IntKind.i64.wrap ((k : Int) + 1) = (k : Int) + 1 := IntWalk.i64_in _ (by omega)
          have hu3 := hun2 k hk1 (by omega)
          have hk3 := hk2 k (by omega)
          simp only [hh, aset, lay, iaddr_node, pnode, wk3, onStO, bareL, toCl, chunks, wk, emb, unAgg, ares, aresL, ares1, tupled, forall_const, Nat.reduceAdd, Nat.reduceSub, Nat.reduceMul, Nat.reduceLeDiff, Nat.reduceEqDiff, Nat.reduceBEq, Int.reduceLE, Int.reduceLT, Int.reduceEq, Int.reduceNe, Int.reduceAdd, Int.reduceSub, Int.reduceToNat, Int.reduceNeg, ↓reduceIte, reduceCtorEq, cellsOf, cellA, lay, fillA]
          refine WT_draw ?_
          by_cases z0 : (s.getD k default).kind = 0
          · simp only [hh, g0, g1, hl8, z0, v2, lay, iaddr_node, pnode, wk3, onStO, bareL, toCl, chunks, wk, emb, unAgg, ares, aresL, ares1, tupled, forall_const, Nat.reduceAdd, Nat.reduceSub, Nat.reduceMul, Nat.reduceLeDiff, Nat.reduceEqDiff, Nat.reduceBEq, Int.reduceLE, Int.reduceLT, Int.reduceEq, Int.reduceNe, Int.reduceAdd, Int.reduceSub, Int.reduceToNat, Int.reduceNeg, ↓reduceIte, reduceCtorEq, cellsOf, cellA, lay, fillA]
            refine QLoop_go (n' := i - (k + 1)) (by omega) ⟨k + 1, kd, bd, bo, by omega, by omega, rfl, rfl, rfl⟩ ?_
            simp only [aset, List.replicate_succ, List.replicate_zero, List.cons_append, List.nil_append, Tops_top, Tops_same, Tops_nil, Int.natCast_add, Int.natCast_one]
          · by_cases z1 : (s.getD k default).up = x.up
            · have z2 := hu3 z0 z1
              simp only [hh, g0, g1, hl8, z0, hk3, z1, z2, v2, lay, iaddr_node, pnode, wk3, onStO, bareL, toCl, chunks, wk, emb, unAgg, ares, aresL, ares1, tupled, forall_const, Nat.reduceAdd, Nat.reduceSub, Nat.reduceMul, Nat.reduceLeDiff, Nat.reduceEqDiff, Nat.reduceBEq, Int.reduceLE, Int.reduceLT, Int.reduceEq, Int.reduceNe, Int.reduceAdd, Int.reduceSub, Int.reduceToNat, Int.reduceNeg, ↓reduceIte, reduceCtorEq, cellsOf, cellA, lay, fillA]
              refine QLoop_go (n' := i - (k + 1)) (by omega) ⟨k + 1, kd, bd, bo, by omega, by omega, rfl, rfl, rfl⟩ ?_
              simp only [aset, List.replicate_succ, List.replicate_zero, List.cons_append, List.nil_append, Tops_top, Tops_same, Tops_nil, Int.natCast_add, Int.natCast_one]
            · simp only [hh, g0, g1, hl8, z0, hk3, z1, v2, lay, iaddr_node, pnode, wk3, onStO, bareL, toCl, chunks, wk, emb, unAgg, ares, aresL, ares1, tupled, forall_const, Nat.reduceAdd, Nat.reduceSub, Nat.reduceMul, Nat.reduceLeDiff, Nat.reduceEqDiff, Nat.reduceBEq, Int.reduceLE, Int.reduceLT, Int.reduceEq, Int.reduceNe, Int.reduceAdd, Int.reduceSub, Int.reduceToNat, Int.reduceNeg, ↓reduceIte, reduceCtorEq, cellsOf, cellA, lay, fillA]
              refine QLoop_go (n' := i - (k + 1)) (by omega) ⟨k + 1, kd, bd, bo, by omega, by omega, rfl, rfl, rfl⟩ ?_
              simp only [aset, List.replicate_succ, List.replicate_zero, List.cons_append, List.nil_append, Tops_top, Tops_same, Tops_nil, Int.natCast_add, Int.natCast_one]
        · simp only [hh, aset, lay, iaddr_node, pnode, wk3, onStO, bareL, toCl, chunks, wk, emb, unAgg, ares, aresL, ares1, tupled, forall_const, Nat.reduceAdd, Nat.reduceSub, Nat.reduceMul, Nat.reduceLeDiff, Nat.reduceEqDiff, Nat.reduceBEq, Int.reduceLE, Int.reduceLT, Int.reduceEq, Int.reduceNe, Int.reduceAdd, Int.reduceSub, Int.reduceToNat, Int.reduceNeg, ↓reduceIte, reduceCtorEq, cellsOf, cellA, lay, fillA]
          refine WT_loop (W_wk (fr' := [aset s, .top, .bool false, .int .i64 i, .top, .top, .int .i64 (itUp s 0 i : Nat), .int .i64 (0 : Nat)] ++ List.replicate 132 .top) (Wk_none ?_) (W_loop (fun n fr H' => ∃ k : Nat, k ≤ 8 ∧ n = 8 - k ∧ H' = [] ∧ fr = [aset s, .top, .bool false, .int .i64 i, .top, .top, .int .i64 (itUp s k i : Nat), .int .i64 k] ++ List.replicate 132 .top) 8 ⟨0, by omega, rfl, rfl, rfl⟩ ?_))
          · simp only [itUp, aset, renL, ren, List.replicate_succ, List.replicate_zero, List.cons_append, List.nil_append, Tops_top, Tops_same, Tops_nil, Int.cast_ofNat_Int]
          rintro n fr H' ⟨k, hk8, rfl, rfl, rfl⟩
          refine WT_ok ?_
          have v2 : IntKind.i64.wrap ((k : Int) + 1) = (k : Int) + 1 := IntWalk.i64_in _ (by omega)
          have g0 : (0 : Int) ≤ (itUp s k i : Nat) := by omega
          have g1 : ((itUp s k i : Nat) : Int) < 8 := by have := hit8 k; omega
          by_cases y0 : (k : Int) < 8
          · by_cases y1 : (0 : Int) < (itUp s k i : Nat)
            · simp only [y0, y1, g0, g1, hl8, v2, aset, lay, iaddr_node, pnode, wk3, onStO, bareL, toCl, chunks, wk, emb, unAgg, ares, aresL, ares1, tupled, forall_const, Nat.reduceAdd, Nat.reduceSub, Nat.reduceMul, Nat.reduceLeDiff, Nat.reduceEqDiff, Nat.reduceBEq, Int.reduceLE, Int.reduceLT, Int.reduceEq, Int.reduceNe, Int.reduceAdd, Int.reduceSub, Int.reduceToNat, Int.reduceNeg, ↓reduceIte, reduceCtorEq, cellsOf, cellA, lay, fillA]
              have hupn := hw.upD (itUp s k i) (by have := hit8 k; omega)
              refine QLoop_go (n' := 8 - (k + 1)) (by omega) ⟨k + 1, by omega, rfl, rfl, rfl⟩ ?_
              have eu : ((itUp s (k + 1) i : Nat) : Int) = (s.getD (itUp s k i) default).up := by rw [itUp_succ]; omega
              simp only [aset, eu, List.replicate_succ, List.replicate_zero, List.cons_append, List.nil_append, Tops_top, Tops_same, Tops_nil, Int.natCast_add, Int.natCast_one]
            · have y2 : ((itUp s k i : Nat) : Int) = 0 := by omega
              simp only [y0, y2, hl8, w2, aset, lay, iaddr_node, pnode, wk3, onStO, bareL, toCl, chunks, wk, emb, unAgg, ares, aresL, ares1, tupled, forall_const, Nat.reduceAdd, Nat.reduceSub, Nat.reduceMul, Nat.reduceLeDiff, Nat.reduceEqDiff, Nat.reduceBEq, Int.reduceLE, Int.reduceLT, Int.reduceEq, Int.reduceNe, Int.reduceAdd, Int.reduceSub, Int.reduceToNat, Int.reduceNeg, ↓reduceIte, reduceCtorEq, cellsOf, cellA, lay, fillA]
              refine QLoop_go (n' := 8 - (i + 1)) (by omega) ⟨i + 1, by omega, by omega, rfl, rfl, rfl⟩ ?_
              simp only [aset, List.replicate_succ, List.replicate_zero, List.cons_append, List.nil_append, Tops_top, Tops_same, Tops_nil, Int.natCast_add, Int.natCast_one]
          · have hk : k = 8 := by omega
            subst hk
            have y2 : ((itUp s 8 i : Nat) : Int) = 0 := by omega
            simp only [y0, y2, hl8, w2, aset, lay, iaddr_node, pnode, wk3, onStO, bareL, toCl, chunks, wk, emb, unAgg, ares, aresL, ares1, tupled, forall_const, Nat.reduceAdd, Nat.reduceSub, Nat.reduceMul, Nat.reduceLeDiff, Nat.reduceEqDiff, Nat.reduceBEq, Int.reduceLE, Int.reduceLT, Int.reduceEq, Int.reduceNe, Int.reduceAdd, Int.reduceSub, Int.reduceToNat, Int.reduceNeg, ↓reduceIte, reduceCtorEq, cellsOf, cellA, lay, fillA]
            refine QLoop_go (n' := 8 - (i + 1)) (by omega) ⟨i + 1, by omega, by omega, rfl, rfl, rfl⟩ ?_
            simp only [aset, List.replicate_succ, List.replicate_zero, List.cons_append, List.nil_append, Tops_top, Tops_same, Tops_nil, Int.natCast_add, Int.natCast_one]
  · have : i = 8 := by omega
    subst this
    simp only [h, iaddr_node, pnode, wk3, onStO, bareL, toCl, chunks, wk, emb, unAgg, ares, aresL, ares1, tupled, forall_const, Nat.reduceAdd, Nat.reduceSub, Nat.reduceMul, Nat.reduceLeDiff, Nat.reduceEqDiff, Nat.reduceBEq, Int.reduceLE, Int.reduceLT, Int.reduceEq, Int.reduceNe, Int.reduceAdd, Int.reduceSub, Int.reduceToNat, Int.reduceNeg, ↓reduceIte, reduceCtorEq, cellsOf, cellA, lay, fillA]
    exact KWk_bare rfl ⟨rfl, rfl⟩
end Go.Proofs.Ytemjlopoffjmpaa.Abs
set_option linter.unusedSimpArgs false
set_option linter.unusedVariables false
namespace Go.Proofs.Ytemjlopoffjmpaa.Abs
open Go Go.Proofs

theorem broken84 (s : List Node) (hs : s.length ≤ 1000000) (H : AH) : C Try.prog 84 [aset s] H (fun x H' => x = .bool ((s.any fun x => decide (x.kind = 3)) || (s.any fun x => decide (x.bad ≠ 0))) ∧ H' = H) := by
  refine C_body d84 rfl (WT_ok ?_)
  unfold c84
  simp only [lay, wk, iaddrV_map, emb, unAgg, ares, aresL, ares1, tupled, forall_const, Nat.reduceAdd, Nat.reduceSub, Nat.reduceMul, Nat.reduceLeDiff, Nat.reduceEqDiff, Nat.reduceBEq, Int.reduceLE, Int.reduceLT, Int.reduceEq, Int.reduceNe, Int.reduceAdd, Int.reduceSub, Int.reduceToNat, Int.reduceNeg, ↓reduceIte, reduceCtorEq, cellsOf, cellA, lay, fillA]
  refine CT_ok (lost_spec s hs H) ?_
  rintro _ _ ⟨rfl, rfl⟩
  cases hl : (s.any fun x => decide (x.kind = 3))
  · simp only [lay, wk, iaddrV_map, emb, unAgg, ares, aresL, ares1, tupled, forall_const, Nat.reduceAdd, Nat.reduceSub, Nat.reduceMul, Nat.reduceLeDiff, Nat.reduceEqDiff, Nat.reduceBEq, Int.reduceLE, Int.reduceLT, Int.reduceEq, Int.reduceNe, Int.reduceAdd, Int.reduceSub, Int.reduceToNat, Int.reduceNeg, ↓reduceIte, reduceCtorEq, cellsOf, cellA, lay, fillA]
    refine CT_ok (bad96 s hs _) ?_
    rintro _ _ ⟨rfl, rfl⟩
    simp only [lay, Bool.false_or, wk, iaddrV_map, emb, unAgg, ares, aresL, ares1, tupled, forall_const, Nat.reduceAdd, Nat.reduceSub, Nat.reduceMul, Nat.reduceLeDiff, Nat.reduceEqDiff, Nat.reduceBEq, Int.reduceLE, Int.reduceLT, Int.reduceEq, Int.reduceNe, Int.reduceAdd, Int.reduceSub, Int.reduceToNat, Int.reduceNeg, ↓reduceIte, reduceCtorEq, cellsOf, cellA, lay, fillA]
  · simp only [lay, Bool.true_or, wk, iaddrV_map, emb, unAgg, ares, aresL, ares1, tupled, forall_const, Nat.reduceAdd, Nat.reduceSub, Nat.reduceMul, Nat.reduceLeDiff, Nat.reduceEqDiff, Nat.reduceBEq, Int.reduceLE, Int.reduceLT, Int.reduceEq, Int.reduceNe, Int.reduceAdd, Int.reduceSub, Int.reduceToNat, Int.reduceNeg, ↓reduceIte, reduceCtorEq, cellsOf, cellA, lay, fillA]
theorem Wf.whole {s : List Node} (h : Wf s) : ((s.any fun x => decide (x.kind = 3)) || (s.any fun x => decide (x.bad ≠ 0))) = false := by
  rw [Bool.or_eq_false_iff]
  constructor
  · rw [List.any_eq_false]
    intro x hx
    obtain ⟨n, hn, rfl⟩ := mem_getD hx
    rcases h.kindsD n hn with e | e | e <;> rw [e] <;> decide
  · rw [List.any_eq_false]
    intro x hx
    obtain ⟨n, hn, rfl⟩ := mem_getD hx
    rw [h.badD n hn]; decide
theorem may69_0 (s : List Node) (hw : Wf s) : C Try.prog 69 [aset s] [] (fun x H' => x = .bool true ∧ H' = []) := by
  have hlen := hw.len
  refine C_body' d69 rfl (WT_ok ?_)
  unfold c69
  simp only [lay, wk, iaddrV_map, emb, unAgg, ares, aresL, ares1, tupled, forall_const, Nat.reduceAdd, Nat.reduceSub, Nat.reduceMul, Nat.reduceLeDiff, Nat.reduceEqDiff, Nat.reduceBEq, Int.reduceLE, Int.reduceLT, Int.reduceEq, Int.reduceNe, Int.reduceAdd, Int.reduceSub, Int.reduceToNat, Int.reduceNeg, ↓reduceIte, reduceCtorEq, cellsOf, cellA, lay, fillA]
  refine CT_ok (torn0 s hw) ?_
  rintro _ _ ⟨rfl, rfl⟩
  simp only [lay, wk, iaddrV_map, emb, unAgg, ares, aresL, ares1, tupled, forall_const, Nat.reduceAdd, Nat.reduceSub, Nat.reduceMul, Nat.reduceLeDiff, Nat.reduceEqDiff, Nat.reduceBEq, Int.reduceLE, Int.reduceLT, Int.reduceEq, Int.reduceNe, Int.reduceAdd, Int.reduceSub, Int.reduceToNat, Int.reduceNeg, ↓reduceIte, reduceCtorEq, cellsOf, cellA, lay, fillA]
  refine CT_ok (broken84 s (by omega) _) ?_
  rintro _ _ ⟨rfl, rfl⟩
  rw [hw.whole]
  simp only [lay, wk, iaddrV_map, emb, unAgg, ares, aresL, ares1, tupled, forall_const, Nat.reduceAdd, Nat.reduceSub, Nat.reduceMul, Nat.reduceLeDiff, Nat.reduceEqDiff, Nat.reduceBEq, Int.reduceLE, Int.reduceLT, Int.reduceEq, Int.reduceNe, Int.reduceAdd, Int.reduceSub, Int.reduceToNat, Int.reduceNeg, ↓reduceIte, reduceCtorEq, cellsOf, cellA, lay, fillA]
  exact KWk_bare rfl ⟨rfl, rfl⟩
theorem may69 (s : List Node) (hw : Wf s) (H : AH) : C Try.prog 69 [aset s] H (fun x H' => x = .bool true ∧ H' = H) :=
  C_any (may69_0 s hw) (by simp [bareL, bare, aset]) rfl H

/-- A set that may be, beside the others. -/
structure MayD (l : List Dset) (d : Dset) : Prop where
  id : 1 ≤ d.id ∧ d.id ≤ 65535
  quota : 0 ≤ d.quota ∧ d.quota ≤ 255
  files : Wf d.files
  kinds : d.kind = 1 ∨ d.kind = 2
  snap : d.kind = 2 → d.quota = 0 ∧ ∃ o ∈ l, o.id = d.origin ∧ o.kind = 1
  live : d.kind = 1 → d.origin = 0 ∨ ∃ o ∈ l, o.id = d.origin ∧ o.kind = 2
/-- Sets that may be. -/
structure MayL (l : List Dset) : Prop where
  len : l.length ≤ 8
  sorted : l.Pairwise fun a b => a.id < b.id
  each : ∀ d ∈ l, MayD l d
  tree : ∃ r : Int → Nat, ∀ d ∈ l, ∀ o ∈ l, o.id = d.origin → r o.id < r d.id

theorem MayL.short {l : List Dset} (h : MayL l) : Short l := ⟨by have := h.len; omega, fun d hd => by have := (h.each d hd).files.len; omega⟩
theorem MayL.lt {l : List Dset} (h : MayL l) {i j : Nat} (hij : i < j) (hj : j < l.length) : (l.getD i default).id < (l.getD j default).id := by
  have := List.pairwise_iff_getElem.1 h.sorted i j (by omega) hj hij
  rw [List.getD_eq_getElem?_getD, List.getElem?_eq_getElem (show i < l.length by omega), List.getD_eq_getElem?_getD, List.getElem?_eq_getElem hj]
  exact this
theorem dgetD_mem {l : List Dset} {n : Nat} (h : n < l.length) : l.getD n default ∈ l := by
  rw [List.getD_eq_getElem?_getD, List.getElem?_eq_getElem h]
  exact List.getElem_mem h
theorem mem_dgetD {l : List Dset} {x : Dset} (h : x ∈ l) : ∃ n, n < l.length ∧ l.getD n default = x := by
  obtain ⟨n, hn, rfl⟩ := List.mem_iff_getElem.1 h
  exact ⟨n, hn, by rw [List.getD_eq_getElem?_getD, List.getElem?_eq_getElem hn]; rfl⟩
theorem MayL.inj {l : List Dset} (h : MayL l) {i j : Nat} (hi : i < l.length) (hj : j < l.length) (e : (l.getD i default).id = (l.getD j default).id) : i = j := by
  rcases Nat.lt_trichotomy i j with hh | hh | hh
  · have := h.lt hh hj; omega
  · exact hh
  · have := h.lt hh hi; omega
theorem MayL.inj' {l : List Dset} (h : MayL l) {a b : Dset} (ha : a ∈ l) (hb : b ∈ l) (e : a.id = b.id) : a = b := by
  obtain ⟨i, hi, rfl⟩ := mem_dgetD ha
  obtain ⟨j, hj, rfl⟩ := mem_dgetD hb
  rw [h.inj hi hj e]
theorem MayL.find {l : List Dset} (h : MayL l) {d : Dset} (hd : d ∈ l) : getA l d.id = some d := by
  obtain ⟨i, hi, rfl⟩ := mem_dgetD hd
  unfold getA
  rcases find_of (l := l) (i := (l.getD i default).id) with ⟨e, hn⟩ | ⟨k, e, hk, hid, _⟩
  · exact absurd rfl (hn i hi)
  · rw [e, if_pos (by omega), Int.toNat_natCast, h.inj hk hi hid]
theorem getA_none {l : List Dset} {i : Int} (h : ∀ d ∈ l, d.id ≠ i) : getA l i = none := by
  unfold getA
  rcases find_of (l := l) (i := i) with ⟨e, hn⟩ | ⟨k, e, hk, hid, _⟩
  · rw [e]; rfl
  · exact absurd hid (h _ (dgetD_mem hk))
/-- By origins, so many times. -/
def stepD (l : List Dset) (d : Dset) : Dset := (getA l d.origin).getD ⟨0, 0, 0, 0, []⟩
def iterD (l : List Dset) : Nat → Dset → Dset
  | 0, d => d
  | m + 1, d => iterD l m (stepD l d)
theorem iterD_succ (l : List Dset) : ∀ (m : Nat) (d : Dset), iterD l (m + 1) d = stepD l (iterD l m d)
  | 0, _ => rfl
  | m + 1, d => iterD_succ l m (stepD l d)
end Go.Proofs.Ytemjlopoffjmpaa.Abs
set_option linter.unusedSimpArgs false
set_option linter.unusedVariables false
namespace Go.Proofs.Ytemjlopoffjmpaa.Abs
open Go Go.Proofs

theorem rankN_mono {α : Type} (r : α → Nat) (a b : Nat) (hab : a < b) : ∀ (l : List α), (∃ j ∈ l, r j = a) → l.countP (fun j => decide (r j < a)) < l.countP (fun j => decide (r j < b)) := by
  intro l
  induction l with
  | nil => rintro ⟨j, hj, _⟩; cases hj
  | cons x l ih =>
    rintro ⟨j, hj, e⟩
    have le : l.countP (fun j => decide (r j < a)) ≤ l.countP (fun j => decide (r j < b)) := List.countP_mono_left (fun y _ h => by simp at h ⊢; omega)
    rw [List.countP_cons, List.countP_cons]
    rcases List.mem_cons.1 hj with rfl | hj
    · rw [if_neg (by simp; omega), if_pos (by simp; omega)]; omega
    · have := ih ⟨j, hj, e⟩
      by_cases h1 : r x < a
      · rw [if_pos (by simpa using h1), if_pos (by simp; omega)]; omega
      · rw [if_neg (by simpa using h1)]; omega
/-- So many steps by origins lead out. -/
theorem MayL.out {l : List Dset} (h : MayL l) {d : Dset} (hd : d ∈ l) {m : Nat} (hm : l.length ≤ m) : (iterD l m d).id = 0 := by
  obtain ⟨r, hr⟩ := h.tree
  have hz : ∀ m, iterD l m ⟨0, 0, 0, 0, []⟩ = ⟨0, 0, 0, 0, []⟩ := by
    intro m
    induction m with
    | zero => rfl
    | succ m ih =>
      show iterD l m (stepD l ⟨0, 0, 0, 0, []⟩) = _
      have : stepD l ⟨0, 0, 0, 0, []⟩ = ⟨0, 0, 0, 0, []⟩ := by
        unfold stepD
        rw [getA_none (fun d hd => by have := (h.each d hd).id; show d.id ≠ 0; omega)]; rfl
      rw [this, ih]
  let f : Dset → Nat := fun x => l.countP fun y => decide (r y.id < r x.id)
  have hf : ∀ x ∈ l, ∀ y ∈ l, r y.id < r x.id → f y < f x := fun x hx y hy hxy => rankN_mono (fun z : Dset => r z.id) _ _ hxy l ⟨y, hy, rfl⟩
  have hfl : ∀ x ∈ l, f x < l.length := fun x hx => by
    have h1 := rankN_mono (fun z : Dset => r z.id) (r x.id) (r x.id + 1) (by omega) l ⟨x, hx, rfl⟩
    have h2 : l.countP (fun j => decide (r j.id < r x.id + 1)) ≤ l.length := List.countP_le_length
    show l.countP _ < _
    omega
  have g : ∀ m, iterD l m d = ⟨0, 0, 0, 0, []⟩ ∨ (iterD l m d ∈ l ∧ f (iterD l m d) + m ≤ f d) := by
    intro m
    induction m with
    | zero => exact .inr ⟨hd, Nat.le_refl _⟩
    | succ m ih =>
      rw [iterD_succ]
      rcases ih with ih | ⟨hm, ih⟩
      · left; rw [ih]; exact hz 1
      · unfold stepD
        cases ho : getA l (iterD l m d).origin with
        | none => left; rfl
        | some o =>
          right
          obtain ⟨ho1, ho2⟩ := getA_mem ho
          refine ⟨ho1, ?_⟩
          have := hf _ hm o ho1 (hr _ hm o ho1 ho2)
          show f o + (m + 1) ≤ f d
          omega
  rcases g m with e | ⟨hm2, e⟩
  · rw [e]
  · have := hfl d hd; omega

def cellsOpt (d : Dset) : AV := .agg (cellD d)
theorem getV_some (d : Dset) : getV (some d) = .tuple [.agg (cellD d), .bool true] := rfl
set_option maxRecDepth 10000 in
set_option maxHeartbeats 2000000 in
theorem maysets0 (l : List Dset) (h : MayL l) : C Try.prog 31 [asets l] [] (fun x H' => x = .bool true ∧ H' = []) := by
  have hl8 := h.len
  refine C_body' d31 rfl (WT_ok ?_)
  unfold c31
  have g8 : ¬ (8 : Int) < l.length := by omega
  simp only [asets, g8, wk3, onStO, bareL, toCl, chunks, wk, iaddrV_map, emb, unAgg, ares, aresL, ares1, tupled, forall_const, Nat.reduceAdd, Nat.reduceSub, Nat.reduceMul, Nat.reduceLeDiff, Nat.reduceEqDiff, Nat.reduceBEq, Int.reduceLE, Int.reduceLT, Int.reduceEq, Int.reduceNe, Int.reduceAdd, Int.reduceSub, Int.reduceToNat, Int.reduceNeg, ↓reduceIte, reduceCtorEq, cellsOf, cellA, lay, fillA]
  refine WT_loop (W_wk (fr' := [asets l, .top, .bool false, .int .i64 (0 : Nat)] ++ List.replicate 123 .top) (Wk_tops ?_) (W_loop (fun n fr H' => ∃ i : Nat, i ≤ l.length ∧ n = l.length - i ∧ H' = [] ∧ fr = [asets l, .top, .bool false, .int .i64 i] ++ List.replicate 123 .top) l.length ⟨0, by omega, rfl, rfl, rfl⟩ ?_))
  · simp only [asets, List.replicate_succ, List.replicate_zero, List.cons_append, List.nil_append, Tops_top, Tops_same, Tops_nil, Int.cast_ofNat_Int]
  rintro n fr H' ⟨i, hi, rfl, rfl, rfl⟩
  refine WT_ok ?_
  simp only [asets, iaddr_dset, wk3, onStO, bareL, toCl, chunks, wk, iaddrV_map, emb, unAgg, ares, aresL, ares1, tupled, forall_const, Nat.reduceAdd, Nat.reduceSub, Nat.reduceMul, Nat.reduceLeDiff, Nat.reduceEqDiff, Nat.reduceBEq, Int.reduceLE, Int.reduceLT, Int.reduceEq, Int.reduceNe, Int.reduceAdd, Int.reduceSub, Int.reduceToNat, Int.reduceNeg, ↓reduceIte, reduceCtorEq, cellsOf, cellA, lay, fillA]
  refine guard_both ?_ ?_ <;> intro hh <;> simp only [hy] at hh
  · have hil : i < l.length := by omega
    have h0 : (0 : Int) ≤ i := by omega
    have w2 : IntKind.i64.wrap ((i : Int) + 1) = (i : Int) + 1 := IntWalk.i64_in _ (by omega)
    have hm := h.each _ (dgetD_mem hil)
    have hid0 : (decide (0 ≤ (l.getD i default).id) && decide ((l.getD i default).id ≤ 65535)) = true := by rw [Bool.and_eq_true]; exact ⟨decide_eq_true (by have := hm.id; omega), decide_eq_true hm.id.2⟩
    have hid1 : ¬ (l.getD i default).id < 1 := by have := hm.id; omega
    have hq0 : ¬ (l.getD i default).quota < 0 := by have := hm.quota; omega
    have hq1 : ¬ 255 < (l.getD i default).quota := by have := hm.quota; omega
    simp only [hh, h0, hid1, iaddr_dset, pdset, lay, wk3, onStO, bareL, toCl, chunks, wk, iaddrV_map, emb, unAgg, ares, aresL, ares1, tupled, forall_const, Nat.reduceAdd, Nat.reduceSub, Nat.reduceMul, Nat.reduceLeDiff, Nat.reduceEqDiff, Nat.reduceBEq, Int.reduceLE, Int.reduceLT, Int.reduceEq, Int.reduceNe, Int.reduceAdd, Int.reduceSub, Int.reduceToNat, Int.reduceNeg, ↓reduceIte, reduceCtorEq, cellsOf, cellA, lay, fillA]
    refine WT_drawE ?_
    simp only [hh, h0, hid1, iaddr_dset, pdset, lay, wk3, onStO, bareL, toCl, chunks, wk, iaddrV_map, emb, unAgg, ares, aresL, ares1, tupled, forall_const, Nat.reduceAdd, Nat.reduceSub, Nat.reduceMul, Nat.reduceLeDiff, Nat.reduceEqDiff, Nat.reduceBEq, Int.reduceLE, Int.reduceLT, Int.reduceEq, Int.reduceNe, Int.reduceAdd, Int.reduceSub, Int.reduceToNat, Int.reduceNeg, ↓reduceIte, reduceCtorEq, cellsOf, cellA, lay, fillA]
    refine CT_ok (rid68 _ _) ?_
    rintro _ _ ⟨rfl, rfl⟩
    rw [hid0]
    have hmay := may69 (l.getD i default).files hm.files
    have cont : ∀ (o : Option Dset), getA l (l.getD i default).origin = o → True := fun _ _ => trivial
    rcases Nat.eq_zero_or_pos i with i0 | i0
    · have hi0 : ¬ (0 : Int) < i := by omega
      simp only [hi0, iaddr_dset, pdset, lay, wk3, onStO, bareL, toCl, chunks, wk, iaddrV_map, emb, unAgg, ares, aresL, ares1, tupled, forall_const, Nat.reduceAdd, Nat.reduceSub, Nat.reduceMul, Nat.reduceLeDiff, Nat.reduceEqDiff, Nat.reduceBEq, Int.reduceLE, Int.reduceLT, Int.reduceEq, Int.reduceNe, Int.reduceAdd, Int.reduceSub, Int.reduceToNat, Int.reduceNeg, ↓reduceIte, reduceCtorEq, cellsOf, cellA, lay, fillA]
      refine WDT_more 0 ?_
      simp only [hi0, iaddr_dset, pdset, lay, wk3, onStO, bareL, toCl, chunks, wk, iaddrV_map, emb, unAgg, ares, aresL, ares1, tupled, forall_const, Nat.reduceAdd, Nat.reduceSub, Nat.reduceMul, Nat.reduceLeDiff, Nat.reduceEqDiff, Nat.reduceBEq, Int.reduceLE, Int.reduceLT, Int.reduceEq, Int.reduceNe, Int.reduceAdd, Int.reduceSub, Int.reduceToNat, Int.reduceNeg, ↓reduceIte, reduceCtorEq, cellsOf, cellA, lay, fillA]
      refine ⟨by rfl, ?_⟩
      refine CT_ok (hmay _) ?_
      rintro _ _ ⟨rfl, rfl⟩
      simp only [hq0, hq1, iaddr_dset, pdset, lay, wk3, onStO, bareL, toCl, chunks, wk, iaddrV_map, emb, unAgg, ares, aresL, ares1, tupled, forall_const, Nat.reduceAdd, Nat.reduceSub, Nat.reduceMul, Nat.reduceLeDiff, Nat.reduceEqDiff, Nat.reduceBEq, Int.reduceLE, Int.reduceLT, Int.reduceEq, Int.reduceNe, Int.reduceAdd, Int.reduceSub, Int.reduceToNat, Int.reduceNeg, ↓reduceIte, reduceCtorEq, cellsOf, cellA, lay, fillA]
      refine CT_ok (rgetL l (by omega) _ _) ?_
      rintro _ _ ⟨rfl, rfl⟩
      rcases hm.kinds with e | e
      · by_cases oz : (l.getD i default).origin = 0
        · cases hg : getA l (l.getD i default).origin
          · simp only [getV, e, oz, w2, cellD, aset, lay, wk3, onStO, bareL, toCl, chunks, wk, iaddrV_map, emb, unAgg, ares, aresL, ares1, tupled, forall_const, Nat.reduceAdd, Nat.reduceSub, Nat.reduceMul, Nat.reduceLeDiff, Nat.reduceEqDiff, Nat.reduceBEq, Int.reduceLE, Int.reduceLT, Int.reduceEq, Int.reduceNe, Int.reduceAdd, Int.reduceSub, Int.reduceToNat, Int.reduceNeg, ↓reduceIte, reduceCtorEq, cellsOf, cellA, lay, fillA]
            refine QLoop_wk (n' := l.length - (i + 1)) (by omega) ⟨i + 1, by omega, rfl, rfl, rfl⟩ (Wk_none ?_)
            simp only [asets, renL, ren, List.replicate_succ, List.replicate_zero, List.cons_append, List.nil_append, Tops_top, Tops_same, Tops_nil, Int.natCast_add, Int.natCast_one]
          · simp only [getV, e, oz, w2, cellD, aset, lay, wk3, onStO, bareL, toCl, chunks, wk, iaddrV_map, emb, unAgg, ares, aresL, ares1, tupled, forall_const, Nat.reduceAdd, Nat.reduceSub, Nat.reduceMul, Nat.reduceLeDiff, Nat.reduceEqDiff, Nat.reduceBEq, Int.reduceLE, Int.reduceLT, Int.reduceEq, Int.reduceNe, Int.reduceAdd, Int.reduceSub, Int.reduceToNat, Int.reduceNeg, ↓reduceIte, reduceCtorEq, cellsOf, cellA, lay, fillA]
            refine QLoop_wk (n' := l.length - (i + 1)) (by omega) ⟨i + 1, by omega, rfl, rfl, rfl⟩ (Wk_none ?_)
            simp only [asets, renL, ren, List.replicate_succ, List.replicate_zero, List.cons_append, List.nil_append, Tops_top, Tops_same, Tops_nil, Int.natCast_add, Int.natCast_one]
        · obtain ⟨o, ho, hoi, hok⟩ := (hm.live e).resolve_left oz
          have hg := h.find ho
          rw [hoi] at hg
          rw [hg]
          simp only [getV, e, oz, hok, w2, cellD, aset, lay, wk3, onStO, bareL, toCl, chunks, wk, iaddrV_map, emb, unAgg, ares, aresL, ares1, tupled, forall_const, Nat.reduceAdd, Nat.reduceSub, Nat.reduceMul, Nat.reduceLeDiff, Nat.reduceEqDiff, Nat.reduceBEq, Int.reduceLE, Int.reduceLT, Int.reduceEq, Int.reduceNe, Int.reduceAdd, Int.reduceSub, Int.reduceToNat, Int.reduceNeg, ↓reduceIte, reduceCtorEq, cellsOf, cellA, lay, fillA]
          refine QLoop_wk (n' := l.length - (i + 1)) (by omega) ⟨i + 1, by omega, rfl, rfl, rfl⟩ (Wk_none ?_)
          simp only [asets, renL, ren, List.replicate_succ, List.replicate_zero, List.cons_append, List.nil_append, Tops_top, Tops_same, Tops_nil, Int.natCast_add, Int.natCast_one]
      · obtain ⟨hq, o, ho, hoi, hok⟩ := hm.snap e
        have hg := h.find ho
        rw [hoi] at hg
        rw [hg]
        simp only [getV, e, hq, hok, w2, cellD, aset, lay, wk3, onStO, bareL, toCl, chunks, wk, iaddrV_map, emb, unAgg, ares, aresL, ares1, tupled, forall_const, Nat.reduceAdd, Nat.reduceSub, Nat.reduceMul, Nat.reduceLeDiff, Nat.reduceEqDiff, Nat.reduceBEq, Int.reduceLE, Int.reduceLT, Int.reduceEq, Int.reduceNe, Int.reduceAdd, Int.reduceSub, Int.reduceToNat, Int.reduceNeg, ↓reduceIte, reduceCtorEq, cellsOf, cellA, lay, fillA]
        refine QLoop_wk (n' := l.length - (i + 1)) (by omega) ⟨i + 1, by omega, rfl, rfl, rfl⟩ (Wk_none ?_)
        simp only [asets, renL, ren, List.replicate_succ, List.replicate_zero, List.cons_append, List.nil_append, Tops_top, Tops_same, Tops_nil, Int.natCast_add, Int.natCast_one]
    · have hi0 : (0 : Int) < i := by omega
      have w1 : IntKind.i64.wrap ((i : Int) - 1) = ((i - 1 : Nat) : Int) := by rw [IntWalk.i64_in _ (by omega)]; omega
      have k0 : (0 : Int) ≤ (i - 1 : Nat) := by omega
      have k1 : ((i - 1 : Nat) : Int) < l.length := by omega
      have k2 : ¬ (l.getD i default).id ≤ (l.getD (i - 1) default).id := by have := h.lt (show i - 1 < i by omega) hil; omega
      simp only [hi0, iaddr_dset, pdset, lay, wk3, onStO, bareL, toCl, chunks, wk, iaddrV_map, emb, unAgg, ares, aresL, ares1, tupled, forall_const, Nat.reduceAdd, Nat.reduceSub, Nat.reduceMul, Nat.reduceLeDiff, Nat.reduceEqDiff, Nat.reduceBEq, Int.reduceLE, Int.reduceLT, Int.reduceEq, Int.reduceNe, Int.reduceAdd, Int.reduceSub, Int.reduceToNat, Int.reduceNeg, ↓reduceIte, reduceCtorEq, cellsOf, cellA, lay, fillA]
      refine WDT_more 0 ?_
      simp only [hi0, w1, k0, k1, iaddr_dset, pdset, lay, wk3, onStO, bareL, toCl, chunks, wk, iaddrV_map, emb, unAgg, ares, aresL, ares1, tupled, forall_const, Nat.reduceAdd, Nat.reduceSub, Nat.reduceMul, Nat.reduceLeDiff, Nat.reduceEqDiff, Nat.reduceBEq, Int.reduceLE, Int.reduceLT, Int.reduceEq, Int.reduceNe, Int.reduceAdd, Int.reduceSub, Int.reduceToNat, Int.reduceNeg, ↓reduceIte, reduceCtorEq, cellsOf, cellA, lay, fillA]
      refine ⟨by rfl, ?_⟩
      simp only [k2, iaddr_dset, pdset, lay, wk3, onStO, bareL, toCl, chunks, wk, iaddrV_map, emb, unAgg, ares, aresL, ares1, tupled, forall_const, Nat.reduceAdd, Nat.reduceSub, Nat.reduceMul, Nat.reduceLeDiff, Nat.reduceEqDiff, Nat.reduceBEq, Int.reduceLE, Int.reduceLT, Int.reduceEq, Int.reduceNe, Int.reduceAdd, Int.reduceSub, Int.reduceToNat, Int.reduceNeg, ↓reduceIte, reduceCtorEq, cellsOf, cellA, lay, fillA]
      refine CT_ok (hmay _) ?_
      rintro _ _ ⟨rfl, rfl⟩
      simp only [hq0, hq1, iaddr_dset, pdset, lay, wk3, onStO, bareL, toCl, chunks, wk, iaddrV_map, emb, unAgg, ares, aresL, ares1, tupled, forall_const, Nat.reduceAdd, Nat.reduceSub, Nat.reduceMul, Nat.reduceLeDiff, Nat.reduceEqDiff, Nat.reduceBEq, Int.reduceLE, Int.reduceLT, Int.reduceEq, Int.reduceNe, Int.reduceAdd, Int.reduceSub, Int.reduceToNat, Int.reduceNeg, ↓reduceIte, reduceCtorEq, cellsOf, cellA, lay, fillA]
      refine CT_ok (rgetL l (by omega) _ _) ?_
      rintro _ _ ⟨rfl, rfl⟩
      rcases hm.kinds with e | e
      · by_cases oz : (l.getD i default).origin = 0
        · cases hg : getA l (l.getD i default).origin
          · simp only [getV, e, oz, w2, cellD, aset, lay, wk3, onStO, bareL, toCl, chunks, wk, iaddrV_map, emb, unAgg, ares, aresL, ares1, tupled, forall_const, Nat.reduceAdd, Nat.reduceSub, Nat.reduceMul, Nat.reduceLeDiff, Nat.reduceEqDiff, Nat.reduceBEq, Int.reduceLE, Int.reduceLT, Int.reduceEq, Int.reduceNe, Int.reduceAdd, Int.reduceSub, Int.reduceToNat, Int.reduceNeg, ↓reduceIte, reduceCtorEq, cellsOf, cellA, lay, fillA]
            refine QLoop_wk (n' := l.length - (i + 1)) (by omega) ⟨i + 1, by omega, rfl, rfl, rfl⟩ (Wk_none ?_)
            simp only [asets, renL, ren, List.replicate_succ, List.replicate_zero, List.cons_append, List.nil_append, Tops_top, Tops_same, Tops_nil, Int.natCast_add, Int.natCast_one]
          · simp only [getV, e, oz, w2, cellD, aset, lay, wk3, onStO, bareL, toCl, chunks, wk, iaddrV_map, emb, unAgg, ares, aresL, ares1, tupled, forall_const, Nat.reduceAdd, Nat.reduceSub, Nat.reduceMul, Nat.reduceLeDiff, Nat.reduceEqDiff, Nat.reduceBEq, Int.reduceLE, Int.reduceLT, Int.reduceEq, Int.reduceNe, Int.reduceAdd, Int.reduceSub, Int.reduceToNat, Int.reduceNeg, ↓reduceIte, reduceCtorEq, cellsOf, cellA, lay, fillA]
            refine QLoop_wk (n' := l.length - (i + 1)) (by omega) ⟨i + 1, by omega, rfl, rfl, rfl⟩ (Wk_none ?_)
            simp only [asets, renL, ren, List.replicate_succ, List.replicate_zero, List.cons_append, List.nil_append, Tops_top, Tops_same, Tops_nil, Int.natCast_add, Int.natCast_one]
        · obtain ⟨o, ho, hoi, hok⟩ := (hm.live e).resolve_left oz
          have hg := h.find ho
          rw [hoi] at hg
          rw [hg]
          simp only [getV, e, oz, hok, w2, cellD, aset, lay, wk3, onStO, bareL, toCl, chunks, wk, iaddrV_map, emb, unAgg, ares, aresL, ares1, tupled, forall_const, Nat.reduceAdd, Nat.reduceSub, Nat.reduceMul, Nat.reduceLeDiff, Nat.reduceEqDiff, Nat.reduceBEq, Int.reduceLE, Int.reduceLT, Int.reduceEq, Int.reduceNe, Int.reduceAdd, Int.reduceSub, Int.reduceToNat, Int.reduceNeg, ↓reduceIte, reduceCtorEq, cellsOf, cellA, lay, fillA]
          refine QLoop_wk (n' := l.length - (i + 1)) (by omega) ⟨i + 1, by omega, rfl, rfl, rfl⟩ (Wk_none ?_)
          simp only [asets, renL, ren, List.replicate_succ, List.replicate_zero, List.cons_append, List.nil_append, Tops_top, Tops_same, Tops_nil, Int.natCast_add, Int.natCast_one]
      · obtain ⟨hq, o, ho, hoi, hok⟩ := hm.snap e
        have hg := h.find ho
        rw [hoi] at hg
        rw [hg]
        simp only [getV, e, hq, hok, w2, cellD, aset, lay, wk3, onStO, bareL, toCl, chunks, wk, iaddrV_map, emb, unAgg, ares, aresL, ares1, tupled, forall_const, Nat.reduceAdd, Nat.reduceSub, Nat.reduceMul, Nat.reduceLeDiff, Nat.reduceEqDiff, Nat.reduceBEq, Int.reduceLE, Int.reduceLT, Int.reduceEq, Int.reduceNe, Int.reduceAdd, Int.reduceSub, Int.reduceToNat, Int.reduceNeg, ↓reduceIte, reduceCtorEq, cellsOf, cellA, lay, fillA]
        refine QLoop_wk (n' := l.length - (i + 1)) (by omega) ⟨i + 1, by omega, rfl, rfl, rfl⟩ (Wk_none ?_)
        simp only [asets, renL, ren, List.replicate_succ, List.replicate_zero, List.cons_append, List.nil_append, Tops_top, Tops_same, Tops_nil, Int.natCast_add, Int.natCast_one]
  · simp only [hh, asets, iaddr_dset, wk3, onStO, bareL, toCl, chunks, wk, iaddrV_map, emb, unAgg, ares, aresL, ares1, tupled, forall_const, Nat.reduceAdd, Nat.reduceSub, Nat.reduceMul, Nat.reduceLeDiff, Nat.reduceEqDiff, Nat.reduceBEq, Int.reduceLE, Int.reduceLT, Int.reduceEq, Int.reduceNe, Int.reduceAdd, Int.reduceSub, Int.reduceToNat, Int.reduceNeg, ↓reduceIte, reduceCtorEq, cellsOf, cellA, lay, fillA]
    refine WT_loop (W_wk (fr' := [asets l, .top, .bool false, .top, .top, .top, .top, .int .i64 (0 : Nat)] ++ List.replicate 119 .top) (Wk_tops ?_) (W_loop (fun n fr H' => ∃ i : Nat, i ≤ l.length ∧ n = l.length - i ∧ H' = [] ∧ fr = [asets l, .top, .bool false, .top, .top, .top, .top, .int .i64 i] ++ List.replicate 119 .top) l.length ⟨0, by omega, rfl, rfl, rfl⟩ ?_))
    · simp only [asets, List.replicate_succ, List.replicate_zero, List.cons_append, List.nil_append, Tops_top, Tops_same, Tops_nil, Int.cast_ofNat_Int]
    clear hh hi
    rintro n fr H' ⟨i, hi, rfl, rfl, rfl⟩
    refine WT_ok ?_
    simp only [asets, iaddr_dset, wk3, onStO, bareL, toCl, chunks, wk, iaddrV_map, emb, unAgg, ares, aresL, ares1, tupled, forall_const, Nat.reduceAdd, Nat.reduceSub, Nat.reduceMul, Nat.reduceLeDiff, Nat.reduceEqDiff, Nat.reduceBEq, Int.reduceLE, Int.reduceLT, Int.reduceEq, Int.reduceNe, Int.reduceAdd, Int.reduceSub, Int.reduceToNat, Int.reduceNeg, ↓reduceIte, reduceCtorEq, cellsOf, cellA, lay, fillA]
    refine guard_both ?_ ?_ <;> intro hh <;> simp only [hy] at hh
    · have hil : i < l.length := by omega
      have h0 : (0 : Int) ≤ i := by omega
      have w2 : IntKind.i64.wrap ((i : Int) + 1) = (i : Int) + 1 := IntWalk.i64_in _ (by omega)
      have wm : IntKind.i64.wrap (2 * (l.length : Int)) = ((2 * l.length : Nat) : Int) := by rw [IntWalk.i64_in _ (by omega)]; omega
      have hend := h.out (dgetD_mem hil) (m := 2 * l.length + 1) (by omega)
      simp only [hh, h0, iaddr_dset, pdset, lay, wk3, onStO, bareL, toCl, chunks, wk, iaddrV_map, emb, unAgg, ares, aresL, ares1, tupled, forall_const, Nat.reduceAdd, Nat.reduceSub, Nat.reduceMul, Nat.reduceLeDiff, Nat.reduceEqDiff, Nat.reduceBEq, Int.reduceLE, Int.reduceLT, Int.reduceEq, Int.reduceNe, Int.reduceAdd, Int.reduceSub, Int.reduceToNat, Int.reduceNeg, ↓reduceIte, reduceCtorEq, cellsOf, cellA, lay, fillA]
      refine WT_loop (W_wk (fr' := [asets l, .top, .bool false, .top, .top, .top, .top, .int .i64 i, .ptr 0 0 0 1, .int .i64 (0 : Nat)] ++ List.replicate 117 .top) (Wk_tops ?_) (W_loop (fun n fr H' => ∃ (k : Nat) (cs : List AV), k ≤ 2 * l.length + 1 ∧ n = 2 * l.length + 1 - k ∧ (cs = cellD (iterD l k (l.getD i default)) ∨ (iterD l k (l.getD i default) = ⟨0, 0, 0, 0, []⟩ ∧ cs = zeroC)) ∧ H' = [some [cs]] ∧ fr = [asets l, .top, .bool false, .top, .top, .top, .top, .int .i64 i, .ptr 0 0 0 1, .int .i64 k] ++ List.replicate 117 .top) (2 * l.length + 1) ⟨0, _, by omega, rfl, .inl rfl, rfl, rfl⟩ ?_))
      · simp only [asets, List.replicate_succ, List.replicate_zero, List.cons_append, List.nil_append, Tops_top, Tops_same, Tops_nil, Int.cast_ofNat_Int]
      rintro n fr H' ⟨k, cs, hk, rfl, hcs, rfl, rfl⟩
      refine WT_ok ?_
      have v2 : IntKind.i64.wrap ((k : Int) + 1) = (k : Int) + 1 := IntWalk.i64_in _ (by omega)
      have hstep : ∀ o, getA l (iterD l k (l.getD i default)).origin = o → iterD l (k + 1) (l.getD i default) = o.getD ⟨0, 0, 0, 0, []⟩ := fun o ho => by rw [iterD_succ]; unfold stepD; rw [ho]
      by_cases y0 : (k : Int) ≤ ((2 * l.length : Nat) : Int)
      · rcases hcs with rfl | ⟨hz, rfl⟩
        · generalize iterD l k (l.getD i default) = x at hstep ⊢
          simp only [y0, wm, asets, cellD, aset, lay, wk3, onStO, bareL, toCl, chunks, wk, iaddrV_map, emb, unAgg, ares, aresL, ares1, tupled, forall_const, Nat.reduceAdd, Nat.reduceSub, Nat.reduceMul, Nat.reduceLeDiff, Nat.reduceEqDiff, Nat.reduceBEq, Int.reduceLE, Int.reduceLT, Int.reduceEq, Int.reduceNe, Int.reduceAdd, Int.reduceSub, Int.reduceToNat, Int.reduceNeg, ↓reduceIte, reduceCtorEq, cellsOf, cellA, lay, fillA]
          refine CT_ok (rgetL l (by omega) _ _) ?_
          rintro _ _ ⟨rfl, rfl⟩
          cases hg : getA l x.origin with
          | none =>
            have hs := hstep _ hg
            simp only [getV, v2, asets, cellD, aset, lay, wk3, onStO, bareL, toCl, chunks, wk, iaddrV_map, emb, unAgg, ares, aresL, ares1, tupled, forall_const, Nat.reduceAdd, Nat.reduceSub, Nat.reduceMul, Nat.reduceLeDiff, Nat.reduceEqDiff, Nat.reduceBEq, Int.reduceLE, Int.reduceLT, Int.reduceEq, Int.reduceNe, Int.reduceAdd, Int.reduceSub, Int.reduceToNat, Int.reduceNeg, ↓reduceIte, reduceCtorEq, cellsOf, cellA, lay, fillA]
            refine QLoop_go (n' := 2 * l.length + 1 - (k + 1)) (by omega) ⟨k + 1, zeroC, by omega, rfl, .inr ⟨hs, rfl⟩, rfl, rfl⟩ ?_
            simp only [asets, renL, ren, List.replicate_succ, List.replicate_zero, List.cons_append, List.nil_append, Tops_top, Tops_same, Tops_nil, Int.natCast_add, Int.natCast_one]
          | some o =>
            have hs := hstep _ hg
            simp only [getV, v2, asets, cellD, aset, lay, wk3, onStO, bareL, toCl, chunks, wk, iaddrV_map, emb, unAgg, ares, aresL, ares1, tupled, forall_const, Nat.reduceAdd, Nat.reduceSub, Nat.reduceMul, Nat.reduceLeDiff, Nat.reduceEqDiff, Nat.reduceBEq, Int.reduceLE, Int.reduceLT, Int.reduceEq, Int.reduceNe, Int.reduceAdd, Int.reduceSub, Int.reduceToNat, Int.reduceNeg, ↓reduceIte, reduceCtorEq, cellsOf, cellA, lay, fillA]
            refine QLoop_go (n' := 2 * l.length + 1 - (k + 1)) (by omega) ⟨k + 1, cellD o, by omega, rfl, .inl (by rw [hs]; rfl), rfl, rfl⟩ ?_
            simp only [asets, renL, ren, List.replicate_succ, List.replicate_zero, List.cons_append, List.nil_append, Tops_top, Tops_same, Tops_nil, Int.natCast_add, Int.natCast_one]
        · rw [hz] at hstep
          simp only [y0, wm, asets, zeroC, lay, wk3, onStO, bareL, toCl, chunks, wk, iaddrV_map, emb, unAgg, ares, aresL, ares1, tupled, forall_const, Nat.reduceAdd, Nat.reduceSub, Nat.reduceMul, Nat.reduceLeDiff, Nat.reduceEqDiff, Nat.reduceBEq, Int.reduceLE, Int.reduceLT, Int.reduceEq, Int.reduceNe, Int.reduceAdd, Int.reduceSub, Int.reduceToNat, Int.reduceNeg, ↓reduceIte, reduceCtorEq, cellsOf, cellA, lay, fillA]
          refine CT_ok (rgetL l (by omega) _ _) ?_
          rintro _ _ ⟨rfl, rfl⟩
          cases hg : getA l 0 with
          | none =>
            have hs := hstep _ hg
            simp only [getV, v2, asets, cellD, aset, lay, wk3, onStO, bareL, toCl, chunks, wk, iaddrV_map, emb, unAgg, ares, aresL, ares1, tupled, forall_const, Nat.reduceAdd, Nat.reduceSub, Nat.reduceMul, Nat.reduceLeDiff, Nat.reduceEqDiff, Nat.reduceBEq, Int.reduceLE, Int.reduceLT, Int.reduceEq, Int.reduceNe, Int.reduceAdd, Int.reduceSub, Int.reduceToNat, Int.reduceNeg, ↓reduceIte, reduceCtorEq, cellsOf, cellA, lay, fillA]
            refine QLoop_go (n' := 2 * l.length + 1 - (k + 1)) (by omega) ⟨k + 1, zeroC, by omega, rfl, .inr ⟨hs, rfl⟩, rfl, rfl⟩ ?_
            simp only [asets, renL, ren, List.replicate_succ, List.replicate_zero, List.cons_append, List.nil_append, Tops_top, Tops_same, Tops_nil, Int.natCast_add, Int.natCast_one]
          | some o =>
            have hs := hstep _ hg
            simp only [getV, v2, asets, cellD, aset, lay, wk3, onStO, bareL, toCl, chunks, wk, iaddrV_map, emb, unAgg, ares, aresL, ares1, tupled, forall_const, Nat.reduceAdd, Nat.reduceSub, Nat.reduceMul, Nat.reduceLeDiff, Nat.reduceEqDiff, Nat.reduceBEq, Int.reduceLE, Int.reduceLT, Int.reduceEq, Int.reduceNe, Int.reduceAdd, Int.reduceSub, Int.reduceToNat, Int.reduceNeg, ↓reduceIte, reduceCtorEq, cellsOf, cellA, lay, fillA]
            refine QLoop_go (n' := 2 * l.length + 1 - (k + 1)) (by omega) ⟨k + 1, cellD o, by omega, rfl, .inl (by rw [hs]; rfl), rfl, rfl⟩ ?_
            simp only [asets, renL, ren, List.replicate_succ, List.replicate_zero, List.cons_append, List.nil_append, Tops_top, Tops_same, Tops_nil, Int.natCast_add, Int.natCast_one]
      · have hk2 : k = 2 * l.length + 1 := by omega
        subst hk2
        rcases hcs with rfl | ⟨hz, rfl⟩
        · generalize iterD l (2 * l.length + 1) (l.getD i default) = x at hend ⊢
          simp only [y0, wm, hend, w2, asets, cellD, aset, lay, wk3, onStO, bareL, toCl, chunks, wk, iaddrV_map, emb, unAgg, ares, aresL, ares1, tupled, forall_const, Nat.reduceAdd, Nat.reduceSub, Nat.reduceMul, Nat.reduceLeDiff, Nat.reduceEqDiff, Nat.reduceBEq, Int.reduceLE, Int.reduceLT, Int.reduceEq, Int.reduceNe, Int.reduceAdd, Int.reduceSub, Int.reduceToNat, Int.reduceNeg, ↓reduceIte, reduceCtorEq, cellsOf, cellA, lay, fillA]
          refine QLoop_wk (n' := l.length - (i + 1)) (by omega) ⟨i + 1, by omega, rfl, rfl, rfl⟩ (Wk_none ?_)
          simp only [asets, renL, ren, List.replicate_succ, List.replicate_zero, List.cons_append, List.nil_append, Tops_top, Tops_same, Tops_nil, Int.natCast_add, Int.natCast_one]
        · simp only [y0, wm, w2, asets, zeroC, lay, wk3, onStO, bareL, toCl, chunks, wk, iaddrV_map, emb, unAgg, ares, aresL, ares1, tupled, forall_const, Nat.reduceAdd, Nat.reduceSub, Nat.reduceMul, Nat.reduceLeDiff, Nat.reduceEqDiff, Nat.reduceBEq, Int.reduceLE, Int.reduceLT, Int.reduceEq, Int.reduceNe, Int.reduceAdd, Int.reduceSub, Int.reduceToNat, Int.reduceNeg, ↓reduceIte, reduceCtorEq, cellsOf, cellA, lay, fillA]
          refine QLoop_wk (n' := l.length - (i + 1)) (by omega) ⟨i + 1, by omega, rfl, rfl, rfl⟩ (Wk_none ?_)
          simp only [asets, renL, ren, List.replicate_succ, List.replicate_zero, List.cons_append, List.nil_append, Tops_top, Tops_same, Tops_nil, Int.natCast_add, Int.natCast_one]
    · simp only [hh, wk3, onStO, bareL, toCl, chunks, wk, iaddrV_map, emb, unAgg, ares, aresL, ares1, tupled, forall_const, Nat.reduceAdd, Nat.reduceSub, Nat.reduceMul, Nat.reduceLeDiff, Nat.reduceEqDiff, Nat.reduceBEq, Int.reduceLE, Int.reduceLT, Int.reduceEq, Int.reduceNe, Int.reduceAdd, Int.reduceSub, Int.reduceToNat, Int.reduceNeg, ↓reduceIte, reduceCtorEq, cellsOf, cellA, lay, fillA]
      exact KWk_bare rfl ⟨rfl, rfl⟩
theorem maysets (l : List Dset) (h : MayL l) (H : AH) : C Try.prog 31 [asets l] H (fun x H' => x = .bool true ∧ H' = H) :=
  C_any (maysets0 l h) (by simp [bareL, asets_bare]) rfl H
end Go.Proofs.Ytemjlopoffjmpaa.Abs
set_option linter.unusedSimpArgs false
set_option linter.unusedVariables false
namespace Go.Proofs.Ytemjlopoffjmpaa.Abs
open Go Go.Proofs

theorem renL_cell (τ : Nat → Option Nat) (d : Dset) : renL τ (cellD d) = cellD d := by simp [cellD, aset, renL, ren]
theorem renO_box (τ : Nat → Option Nat) (k : IntKind) (n : Int) : renO τ [[.int k n]] = [[.int k n]] := by simp [renO, renL, ren]
theorem is66_L (d : Dset) (i : Int) (l : List Dset) : C Try.prog 66 [.agg (cellD d), .ptr 1 0 0 1] [some (l.map cellD), some [[.int .i64 i]]] (fun x H' => x = .bool (decide (d.origin = i)) ∧ H' = [some (l.map cellD), some [[.int .i64 i]]]) :=
  C_call [1] (by simp) (by simp) (by simpa [renL, ren, toCallee, renO, cellD, aset, AH.at] using is66 d i) (by rintro _ _ ⟨rfl, rfl⟩; exact ⟨Nat.le_refl _, by simp [ren], by simp [back, setAll, renO, renL, ren]⟩)
/-- Does something hang on it? -/
def hangsA (l : List Dset) (i : Int) : Bool := decide (0 ≤ idxA (fun d => decide (d.origin = i)) l)
theorem hangs_at (l : List Dset) (hl : l.length ≤ 1000000) (i : Int) : C Try.prog 65 [.own 1 5 0 l.length l.length, .fn (.func 66) [] [.ptr 0 0 0 1]] [some [[.int .i64 i]], some (l.map cellD)] (fun x H' => x = .bool (hangsA l i) ∧ H' = [some [[.int .i64 i]], some (l.map cellD)]) :=
  C_call [1, 0] (by simp) (by simp) (K0 := fun x H' => x = .bool (decide (0 ≤ idxA (fun d => decide (d.origin = i)) l)) ∧ H' = [some (l.map cellD), some [[.int .i64 i]]])
    (by simpa [renL, ren, toCallee, renO_cells, renO_box, AH.at, show List.idxOf? 0 [1, 0] = some 1 from rfl, show List.idxOf? 1 [1, 0] = some 0 from rfl] using contains65 l hl [some [[.int .i64 i]]] 66 [.ptr 1 0 0 1] (fun d => decide (d.origin = i)) (fun d => is66_L d i l))
    (by rintro _ _ ⟨rfl, rfl⟩; exact ⟨Nat.le_refl _, by simp [ren, hangsA], by simp [back, setAll, renO_cells, renO_box]⟩)

def livesA (l : List Dset) : Nat := l.countP fun d => decide (d.kind = 1)
theorem livesA_take (l : List Dset) (k : Nat) (h : k < l.length) : livesA (l.take (k + 1)) = livesA (l.take k) + if (l.getD k default).kind = 1 then 1 else 0 := by
  unfold livesA
  rw [List.take_add_one, List.getElem?_eq_getElem h, List.countP_append]
  simp only [List.getD_eq_getElem?_getD, List.getElem?_eq_getElem h, Option.getD_some, Option.toList_some, List.countP_cons, List.countP_nil, decide_eq_true_eq]
  omega
theorem livesA_le (l : List Dset) : livesA l ≤ l.length := List.countP_le_length
/-- dset.Destroy -/
def destroyA (l : List Dset) (i : Int) : List Dset × Int :=
  if findA l i < 0 then (l, 2) else if hangsA l i = true ∨ ((l.getD (findA l i).toNat default).kind = 1 ∧ livesA l = 1) then (l, 10) else (l.eraseIdx (findA l i).toNat, 0)

theorem Wk_obj2 {fr fr' : List AV} {o o' : AObj} {G : AH} (ho : o.map (renL (upTo 2)) = o) (ho' : o'.map (renL (upTo 2)) = o') (h : Tops fr' (renL (upTo 2) fr)) : Wk 0 fr (some o :: some o' :: G) fr' [some o, some o'] := by
  have h1 := (Wk_forget (n0 := 0) (fr := fr) (H := some o :: some o' :: G) 2 (Nat.zero_le _)).trans (Wk_tops h)
  have e : mapH (renL (upTo 2)) ((some o :: some o' :: G).take 2) = [some o, some o'] := by
    simp only [List.take_succ_cons, List.take_zero, mapH, List.map_cons, List.map_nil, Option.map_some, ho, ho']
  rwa [e] at h1

theorem renO_del (τ : Nat → Option Nat) (l : List Dset) : renO τ (l.map cellD ++ [zeroC]) = l.map cellD ++ [zeroC] := by
  have := renO_cells τ l
  unfold renO at this ⊢
  rw [List.map_append, this]
  simp [zeroC, renL, ren]
theorem deleteAt (l : List Dset) (hl : l.length ≤ 1000000) (k : Nat) (hk : k < l.length) (r : Nat) (H : AH) (hr : H.at r = some (l.map cellD)) :
    C Try.prog 67 [.own r 5 0 l.length l.length, .int .i64 k, .int .i64 ((k + 1 : Nat) : Int)] H (fun x H' => x = .own r 5 0 (l.length - 1) l.length ∧ H' = H.set r (some ((l.eraseIdx k).map cellD ++ [zeroC]))) := by
  refine C_call [r] (by simp) (by simpa using at_lt hr) (K0 := fun x H' => x = .own 0 5 0 (l.length - 1) l.length ∧ H' = [some ((l.eraseIdx k).map cellD ++ [zeroC])]) ?_ ?_
  · simpa [renL, ren, toCallee, renO_cells, hr] using delete67 l hl k hk
  · rintro _ _ ⟨rfl, rfl⟩
    refine ⟨by simp, by simp [ren, toCaller], ?_⟩
    simp [back, setAll, renO_del]
theorem KWk_del {K : AV → AH → Prop} {H : AH} (r : Nat) (l : List Dset) (e : Int) (n : Nat) (hn : n = l.length + 1) (hat : H.at r = some (l.map cellD ++ [zeroC])) (hk : K (.tuple [asets l, .int .i64 e]) []) : KWk 0 K (.tuple [.own r 5 0 (n - 1) n, .int .i64 e]) H := by
  subst hn
  refine KWk_frozen r (l.map pdset ++ [[.int .i64 0, .int .i64 0, .int .i64 0, .int .i64 0, .emp]]) (by rw [List.map_append, cellsD]; exact hat) _ ?_ hk
  simp only [frzL, frz, renL, ren, asets, if_true, List.length_append, List.length_cons, List.length_nil, List.length_map, Nat.zero_add, Nat.le_refl, and_self, List.drop_zero, Nat.add_sub_cancel]
  rw [List.take_append_of_le_length (by simp), List.take_of_length_le (by simp)]
  simp [ren]
theorem destroy0 (l : List Dset) (hl : Short l) (i : Int) : C Try.prog 30 [asets l, .int .i64 i] [] (fun x H' => x = outA (destroyA l i) ∧ H' = []) := by
  have hl1 := hl.1
  refine C_body' d30 rfl (WT_ok ?_)
  unfold c30
  simp only [lay, wk3, onStO, bareL, toCl, chunks, wk, iaddrV_map, emb, unAgg, ares, aresL, ares1, tupled, forall_const, Nat.reduceAdd, Nat.reduceSub, Nat.reduceMul, Nat.reduceLeDiff, Nat.reduceEqDiff, Nat.reduceBEq, Int.reduceLE, Int.reduceLT, Int.reduceEq, Int.reduceNe, Int.reduceAdd, Int.reduceSub, Int.reduceToNat, Int.reduceNeg, ↓reduceIte, reduceCtorEq, cellsOf, cellA, lay, fillA]
  refine CT_ok (twinL l hl _) ?_
  rintro _ _ ⟨rfl, rfl⟩
  simp only [lay, wk3, onStO, bareL, toCl, chunks, wk, iaddrV_map, emb, unAgg, ares, aresL, ares1, tupled, forall_const, Nat.reduceAdd, Nat.reduceSub, Nat.reduceMul, Nat.reduceLeDiff, Nat.reduceEqDiff, Nat.reduceBEq, Int.reduceLE, Int.reduceLT, Int.reduceEq, Int.reduceNe, Int.reduceAdd, Int.reduceSub, Int.reduceToNat, Int.reduceNeg, ↓reduceIte, reduceCtorEq, cellsOf, cellA, lay, fillA]
  refine CT_ok (findAt l hl1 i 1 _ rfl) ?_
  rintro _ _ ⟨rfl, rfl⟩
  simp only [lay, wk3, onStO, bareL, toCl, chunks, wk, iaddrV_map, emb, unAgg, ares, aresL, ares1, tupled, forall_const, Nat.reduceAdd, Nat.reduceSub, Nat.reduceMul, Nat.reduceLeDiff, Nat.reduceEqDiff, Nat.reduceBEq, Int.reduceLE, Int.reduceLT, Int.reduceEq, Int.reduceNe, Int.reduceAdd, Int.reduceSub, Int.reduceToNat, Int.reduceNeg, ↓reduceIte, reduceCtorEq, cellsOf, cellA, lay, fillA]
  refine WT_loop (W_wk (fr' := [asets l, .int .i64 i, .top, .ptr 0 0 0 1, .emp, .int .i64 0, .own 1 5 0 l.length l.length, .own 1 5 0 l.length l.length, .int .i64 (findA l i), .int .i64 0, .top, .top, .top, .top, .top, .top, .top, .top, .own 1 5 0 l.length l.length, .int .i64 l.length, .int .i64 0] ++ List.replicate 33 .top) (Wk_tops ?_) (W_loop (fun n fr H' => ∃ k : Nat, k ≤ l.length ∧ n = l.length - k ∧ H' = [some [[.int .i64 i]], some (l.map cellD)] ∧
    fr = [asets l, .int .i64 i, .top, .ptr 0 0 0 1, .emp, .int .i64 0, .own 1 5 0 l.length l.length, .own 1 5 0 l.length l.length, .int .i64 (findA l i), .int .i64 (livesA (l.take k)), .top, .top, .top, .top, .top, .top, .top, .top, .own 1 5 0 l.length l.length, .int .i64 l.length, .int .i64 k] ++ List.replicate 33 .top) l.length ⟨0, by omega, rfl, rfl, rfl⟩ ?_))
  · simp only [List.replicate_succ, List.replicate_zero, List.cons_append, List.nil_append, Tops_top, Tops_same, Tops_nil]
  rintro n fr H' ⟨k, hk, rfl, rfl, rfl⟩
  refine WT_ok ?_
  simp only [lay, slicelV_own, slicelV_fz, onLive_some, RT_slicel, RE_slicel, slice3V_eq, room3_some, roomOf_own, roomOf_fz, RT_slice3, RT_calld, apI_some, clC_some, clearV_own, clearV_fz, wk3, onStO, bareL, toCl, chunks, wk, iaddrV_map, emb, unAgg, ares, aresL, ares1, tupled, forall_const, Nat.reduceAdd, Nat.reduceSub, Nat.reduceMul, Nat.reduceLeDiff, Nat.reduceEqDiff, Nat.reduceBEq, Int.reduceLE, Int.reduceLT, Int.reduceEq, Int.reduceNe, Int.reduceAdd, Int.reduceSub, Int.reduceToNat, Int.reduceNeg, ↓reduceIte, reduceCtorEq, cellsOf, cellA, lay, fillA]
  refine guard_both ?_ ?_ <;> intro h <;> simp only [hy] at h
  · have hk2 : k < l.length := by omega
    have hc := cell_at hk2
    have ht := livesA_take l k hk2
    have hle := livesA_le (l.take k)
    have hle2 : (l.take k).length ≤ l.length := by simp; omega
    have w2 : IntKind.i64.wrap ((k : Int) + 1) = (k : Int) + 1 := IntWalk.i64_in _ (by omega)
    have w3 : IntKind.i64.wrap ((livesA (l.take k) : Int) + 1) = ((livesA (l.take k) + 1 : Nat) : Int) := by rw [IntWalk.i64_in _ (by omega)]; omega
    have h0 : (0 : Int) ≤ k := by omega
    generalize l.getD k default = d at hc ht
    by_cases h1 : d.kind = 1
    · rw [if_pos h1] at ht
      simp only [h, h0, hc, h1, w2, w3, cellD, aset, lay, slicelV_own, slicelV_fz, onLive_some, RT_slicel, RE_slicel, slice3V_eq, room3_some, roomOf_own, roomOf_fz, RT_slice3, RT_calld, apI_some, clC_some, clearV_own, clearV_fz, wk3, onStO, bareL, toCl, chunks, wk, iaddrV_map, emb, unAgg, ares, aresL, ares1, tupled, forall_const, Nat.reduceAdd, Nat.reduceSub, Nat.reduceMul, Nat.reduceLeDiff, Nat.reduceEqDiff, Nat.reduceBEq, Int.reduceLE, Int.reduceLT, Int.reduceEq, Int.reduceNe, Int.reduceAdd, Int.reduceSub, Int.reduceToNat, Int.reduceNeg, ↓reduceIte, reduceCtorEq, cellsOf, cellA, lay, fillA]
      refine QLoop_wk (n' := l.length - (k + 1)) (by omega) ⟨k + 1, by omega, rfl, rfl, rfl⟩ (Wk_obj2 (renO_box _ _ _) (renO_cells _ _) ?_)
      simp only [ht, renL, ren, asets, upTo, show (0 : Nat) < 2 by omega, show (1 : Nat) < 2 by omega, if_true, List.replicate_succ, List.replicate_zero, List.cons_append, List.nil_append, Tops_top, Tops_same, Tops_nil, Int.natCast_add, Int.natCast_one]
    · replace ht : livesA (l.take (k + 1)) = livesA (l.take k) := by rw [ht, if_neg h1]; rfl
      simp only [h, h0, hc, h1, w2, cellD, aset, lay, slicelV_own, slicelV_fz, onLive_some, RT_slicel, RE_slicel, slice3V_eq, room3_some, roomOf_own, roomOf_fz, RT_slice3, RT_calld, apI_some, clC_some, clearV_own, clearV_fz, wk3, onStO, bareL, toCl, chunks, wk, iaddrV_map, emb, unAgg, ares, aresL, ares1, tupled, forall_const, Nat.reduceAdd, Nat.reduceSub, Nat.reduceMul, Nat.reduceLeDiff, Nat.reduceEqDiff, Nat.reduceBEq, Int.reduceLE, Int.reduceLT, Int.reduceEq, Int.reduceNe, Int.reduceAdd, Int.reduceSub, Int.reduceToNat, Int.reduceNeg, ↓reduceIte, reduceCtorEq, cellsOf, cellA, lay, fillA]
      refine QLoop_wk (n' := l.length - (k + 1)) (by omega) ⟨k + 1, by omega, rfl, rfl, rfl⟩ (Wk_obj2 (renO_box _ _ _) (renO_cells _ _) ?_)
      simp only [ht, renL, ren, asets, upTo, show (0 : Nat) < 2 by omega, show (1 : Nat) < 2 by omega, if_true, List.replicate_succ, List.replicate_zero, List.cons_append, List.nil_append, Tops_top, Tops_same, Tops_nil, Int.natCast_add, Int.natCast_one]
  · have : k = l.length := by omega
    subst this
    have hl2 : l.take l.length = l := List.take_length
    have hle := livesA_le l
    simp only [h, hl2, lay, slicelV_own, slicelV_fz, onLive_some, RT_slicel, RE_slicel, slice3V_eq, room3_some, roomOf_own, roomOf_fz, RT_slice3, RT_calld, apI_some, clC_some, clearV_own, clearV_fz, wk3, onStO, bareL, toCl, chunks, wk, iaddrV_map, emb, unAgg, ares, aresL, ares1, tupled, forall_const, Nat.reduceAdd, Nat.reduceSub, Nat.reduceMul, Nat.reduceLeDiff, Nat.reduceEqDiff, Nat.reduceBEq, Int.reduceLE, Int.reduceLT, Int.reduceEq, Int.reduceNe, Int.reduceAdd, Int.reduceSub, Int.reduceToNat, Int.reduceNeg, ↓reduceIte, reduceCtorEq, cellsOf, cellA, lay, fillA]
    rcases find_of (l := l) (i := i) with ⟨e, _⟩ | ⟨k, e, hk3, _, _⟩
    · have hA : destroyA l i = (l, 2) := by unfold destroyA; rw [e]; rfl
      simp only [e, hA, lay, slicelV_own, slicelV_fz, onLive_some, RT_slicel, RE_slicel, slice3V_eq, room3_some, roomOf_own, roomOf_fz, RT_slice3, RT_calld, apI_some, clC_some, clearV_own, clearV_fz, wk3, onStO, bareL, toCl, chunks, wk, iaddrV_map, emb, unAgg, ares, aresL, ares1, tupled, forall_const, Nat.reduceAdd, Nat.reduceSub, Nat.reduceMul, Nat.reduceLeDiff, Nat.reduceEqDiff, Nat.reduceBEq, Int.reduceLE, Int.reduceLT, Int.reduceEq, Int.reduceNe, Int.reduceAdd, Int.reduceSub, Int.reduceToNat, Int.reduceNeg, ↓reduceIte, reduceCtorEq, cellsOf, cellA, lay, fillA]
      exact KWk_sets 1 l 2 _ rfl rfl ⟨rfl, rfl⟩
    · have hc := cell_at hk3
      have h0 : (0 : Int) ≤ k := by omega
      have h1 : (k : Int) < l.length := by omega
      have h2 : ¬ (k : Int) < 0 := by omega
      have w2 : IntKind.i64.wrap ((k : Int) + 1) = ((k + 1 : Nat) : Int) := by rw [IntWalk.i64_in _ (by omega)]; omega
      simp only [e, h2, lay, slicelV_own, slicelV_fz, onLive_some, RT_slicel, RE_slicel, slice3V_eq, room3_some, roomOf_own, roomOf_fz, RT_slice3, RT_calld, apI_some, clC_some, clearV_own, clearV_fz, wk3, onStO, bareL, toCl, chunks, wk, iaddrV_map, emb, unAgg, ares, aresL, ares1, tupled, forall_const, Nat.reduceAdd, Nat.reduceSub, Nat.reduceMul, Nat.reduceLeDiff, Nat.reduceEqDiff, Nat.reduceBEq, Int.reduceLE, Int.reduceLT, Int.reduceEq, Int.reduceNe, Int.reduceAdd, Int.reduceSub, Int.reduceToNat, Int.reduceNeg, ↓reduceIte, reduceCtorEq, cellsOf, cellA, lay, fillA]
      refine CT_ok (hangs_at l hl1 i) ?_
      rintro _ _ ⟨rfl, rfl⟩
      cases hh : hangsA l i
      · have hbare : (l.eraseIdx k).length + 1 = l.length := by rw [List.length_eraseIdx, if_pos hk3]; omega
        by_cases hk1 : (l.getD k default).kind = 1
        · by_cases hk4 : (livesA l : Int) = 1
          · have hA : destroyA l i = (l, 10) := by unfold destroyA; rw [e, if_neg h2, if_pos (.inr ⟨by rw [Int.toNat_natCast]; exact hk1, by omega⟩)]
            simp only [hA, hc, h0, h1, hk1, hk4, cellD, aset, lay, slicelV_own, slicelV_fz, onLive_some, RT_slicel, RE_slicel, slice3V_eq, room3_some, roomOf_own, roomOf_fz, RT_slice3, RT_calld, apI_some, clC_some, clearV_own, clearV_fz, wk3, onStO, bareL, toCl, chunks, wk, iaddrV_map, emb, unAgg, ares, aresL, ares1, tupled, forall_const, Nat.reduceAdd, Nat.reduceSub, Nat.reduceMul, Nat.reduceLeDiff, Nat.reduceEqDiff, Nat.reduceBEq, Int.reduceLE, Int.reduceLT, Int.reduceEq, Int.reduceNe, Int.reduceAdd, Int.reduceSub, Int.reduceToNat, Int.reduceNeg, ↓reduceIte, reduceCtorEq, cellsOf, cellA, lay, fillA]
            exact KWk_sets 1 l 10 _ rfl rfl ⟨rfl, rfl⟩
          · have hA : destroyA l i = (l.eraseIdx k, 0) := by unfold destroyA; rw [e, if_neg h2, if_neg (fun h => h.elim (fun h => by rw [hh] at h; cases h) (fun h => hk4 (by omega))), Int.toNat_natCast]
            simp only [hA, hc, h0, h1, hk1, hk4, w2, cellD, aset, lay, slicelV_own, slicelV_fz, onLive_some, RT_slicel, RE_slicel, slice3V_eq, room3_some, roomOf_own, roomOf_fz, RT_slice3, RT_calld, apI_some, clC_some, clearV_own, clearV_fz, wk3, onStO, bareL, toCl, chunks, wk, iaddrV_map, emb, unAgg, ares, aresL, ares1, tupled, forall_const, Nat.reduceAdd, Nat.reduceSub, Nat.reduceMul, Nat.reduceLeDiff, Nat.reduceEqDiff, Nat.reduceBEq, Int.reduceLE, Int.reduceLT, Int.reduceEq, Int.reduceNe, Int.reduceAdd, Int.reduceSub, Int.reduceToNat, Int.reduceNeg, ↓reduceIte, reduceCtorEq, cellsOf, cellA, lay, fillA]
            refine CT_ok (deleteAt l hl1 k hk3 1 _ rfl) ?_
            rintro _ _ ⟨rfl, rfl⟩
            simp only [lay, slicelV_own, slicelV_fz, onLive_some, RT_slicel, RE_slicel, slice3V_eq, room3_some, roomOf_own, roomOf_fz, RT_slice3, RT_calld, apI_some, clC_some, clearV_own, clearV_fz, wk3, onStO, bareL, toCl, chunks, wk, iaddrV_map, emb, unAgg, ares, aresL, ares1, tupled, forall_const, Nat.reduceAdd, Nat.reduceSub, Nat.reduceMul, Nat.reduceLeDiff, Nat.reduceEqDiff, Nat.reduceBEq, Int.reduceLE, Int.reduceLT, Int.reduceEq, Int.reduceNe, Int.reduceAdd, Int.reduceSub, Int.reduceToNat, Int.reduceNeg, ↓reduceIte, reduceCtorEq, cellsOf, cellA, lay, fillA]
            exact KWk_del 1 (l.eraseIdx k) 0 _ (by omega) rfl ⟨by rw [hA]; rfl, rfl⟩
        · have hA : destroyA l i = (l.eraseIdx k, 0) := by unfold destroyA; rw [e, if_neg h2, if_neg (fun h => h.elim (fun h => by rw [hh] at h; cases h) (fun h => hk1 (by rw [← h.1, Int.toNat_natCast]))), Int.toNat_natCast]
          simp only [hA, hc, h0, h1, hk1, w2, cellD, aset, lay, slicelV_own, slicelV_fz, onLive_some, RT_slicel, RE_slicel, slice3V_eq, room3_some, roomOf_own, roomOf_fz, RT_slice3, RT_calld, apI_some, clC_some, clearV_own, clearV_fz, wk3, onStO, bareL, toCl, chunks, wk, iaddrV_map, emb, unAgg, ares, aresL, ares1, tupled, forall_const, Nat.reduceAdd, Nat.reduceSub, Nat.reduceMul, Nat.reduceLeDiff, Nat.reduceEqDiff, Nat.reduceBEq, Int.reduceLE, Int.reduceLT, Int.reduceEq, Int.reduceNe, Int.reduceAdd, Int.reduceSub, Int.reduceToNat, Int.reduceNeg, ↓reduceIte, reduceCtorEq, cellsOf, cellA, lay, fillA]
          refine CT_ok (deleteAt l hl1 k hk3 1 _ rfl) ?_
          rintro _ _ ⟨rfl, rfl⟩
          simp only [lay, slicelV_own, slicelV_fz, onLive_some, RT_slicel, RE_slicel, slice3V_eq, room3_some, roomOf_own, roomOf_fz, RT_slice3, RT_calld, apI_some, clC_some, clearV_own, clearV_fz, wk3, onStO, bareL, toCl, chunks, wk, iaddrV_map, emb, unAgg, ares, aresL, ares1, tupled, forall_const, Nat.reduceAdd, Nat.reduceSub, Nat.reduceMul, Nat.reduceLeDiff, Nat.reduceEqDiff, Nat.reduceBEq, Int.reduceLE, Int.reduceLT, Int.reduceEq, Int.reduceNe, Int.reduceAdd, Int.reduceSub, Int.reduceToNat, Int.reduceNeg, ↓reduceIte, reduceCtorEq, cellsOf, cellA, lay, fillA]
          exact KWk_del 1 (l.eraseIdx k) 0 _ (by omega) rfl ⟨by rw [hA]; rfl, rfl⟩
      · have hA : destroyA l i = (l, 10) := by unfold destroyA; rw [e, if_neg h2, if_pos (.inl hh)]
        simp only [hA, lay, slicelV_own, slicelV_fz, onLive_some, RT_slicel, RE_slicel, slice3V_eq, room3_some, roomOf_own, roomOf_fz, RT_slice3, RT_calld, apI_some, clC_some, clearV_own, clearV_fz, wk3, onStO, bareL, toCl, chunks, wk, iaddrV_map, emb, unAgg, ares, aresL, ares1, tupled, forall_const, Nat.reduceAdd, Nat.reduceSub, Nat.reduceMul, Nat.reduceLeDiff, Nat.reduceEqDiff, Nat.reduceBEq, Int.reduceLE, Int.reduceLT, Int.reduceEq, Int.reduceNe, Int.reduceAdd, Int.reduceSub, Int.reduceToNat, Int.reduceNeg, ↓reduceIte, reduceCtorEq, cellsOf, cellA, lay, fillA]
        exact KWk_sets 1 l 10 _ rfl rfl ⟨rfl, rfl⟩
end Go.Proofs.Ytemjlopoffjmpaa.Abs
