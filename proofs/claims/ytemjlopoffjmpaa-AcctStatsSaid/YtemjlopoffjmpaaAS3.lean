/-
  Part 3 of the proof: no condition. (Parts of the abstract layer, of the program's functions in its form, and of their contracts.)
-/
import Derived.Test.YtemjlopoffjmpaaWk
import Derived.Test.YtemjlopoffjmpaaWk3
import Derived.Test.YtemjlopoffjmpaaAS2
import Derived.Test.YtemjlopoffjmpaaAS1
import Derived.Test.YtemjlopoffjmpaaAbs35
import Derived.Test.YtemjlopoffjmpaaAbs36
import Derived.Test.YtemjlopoffjmpaaAbs37
import Derived.KernelRfl
import Derived.Test.YtemjlopoffjmpaaAbs38
import Derived.ProofKit
set_option linter.unusedSimpArgs false
set_option linter.unusedVariables false
namespace Go.Proofs.Ytemjlopoffjmpaa.Abs
open Go Go.Proofs

/-- Seven steps up lead to the top. -/
theorem Wf.climb7 {s : List Node} (h : Wf s) {i : Nat} (hi : i < 8) (hk : (s.getD i default).kind ≠ 0) : itUp s 7 i = 0 := by
  obtain ⟨r0, hr0⟩ := h.tree
  obtain ⟨r, hr8, hr⟩ := rank8 r0 h.len (fun i hi => h.up8 hi) hr0
  have g : ∀ m, itUp s m i = 0 ∨ r (itUp s m i) + m ≤ r i := by
    intro m
    induction m with
    | zero => right; exact Nat.le_refl _
    | succ m ih =>
      rcases ih with ih | ih
      · left; rw [itUp_succ, ih, h.top]; rfl
      · by_cases h0 : itUp s m i = 0
        · left; rw [itUp_succ, h0, h.top]; rfl
        · right
          rw [itUp_succ]
          have := hr (itUp s m i) (by omega) (h.itUp8 m hi) (h.itUpk m hi hk)
          omega
  rcases g 7 with e | e
  · exact e
  · apply Classical.byContradiction
    intro h0
    have := hr (itUp s 7 i) (by omega) (h.itUp8 7 hi) (h.itUpk 7 hi hk)
    have := hr8 i hi
    omega

/-- The names on the way up. -/
def wayN (s : List Node) (n : Nat) : Nat → List (List UInt8)
  | 0 => []
  | k + 1 => (s.getD (itUp s k n) default).name :: wayN s n k
theorem wayN_len (s : List Node) (n : Nat) : ∀ k, (wayN s n k).length = k
  | 0 => rfl
  | k + 1 => by rw [wayN, List.length_cons, wayN_len s n k]
theorem wayN_down {s : List Node} (h : Wf s) {n : Nat} (hn : n < 8) (hk : (s.getD n default).kind ≠ 0) : ∀ k, (∀ j, j < k → itUp s j n ≠ 0) → downR s (wayN s n k) (itUp s k n) n
  | 0, _ => rfl
  | k + 1, hj => by
    have hm := h.itUp8 k hn
    have hmk := h.itUpk k hn hk
    have hm0 := hj k (by omega)
    rw [itUp_succ]
    have hu := h.upD (itUp s k n) (by have := h.len; omega)
    exact ⟨h.upk hm hmk, itUp s k n, h.kidOf (by omega) hm hmk (by omega), rfl, wayN_down h hn hk k fun j hj' => hj j (by omega)⟩
theorem wayN_names {s : List Node} (h : Wf s) {n : Nat} (hn : n < 8) (hk : (s.getD n default).kind ≠ 0) : ∀ k, (∀ j, j < k → itUp s j n ≠ 0) → Names (wayN s n k)
  | 0, _ => fun x hx => by cases hx
  | k + 1, hj => fun x hx => by
    have hm0 := hj k (by omega)
    rcases List.mem_cons.1 hx with rfl | hx
    · exact (h.ok _ (by omega) (h.itUp8 k hn)).name (h.itUpk k hn hk)
    · exact wayN_names h hn hk k (fun j hj' => hj j (by omega)) x hx

theorem Wk_empFz {n0 : Nat} {fr : List AV} {H : AH} (j : Nat) (h : fr[j]? = some .emp) : Wk n0 fr H (fr.set j (.fz [])) H := by
  intro E w vs hs hr
  refine ⟨E, LeN.refl _ _, hs, by rw [List.length_set]; exact hr.1, fun i c u hc hu => ?_⟩
  rw [List.getElem?_set] at hc
  by_cases hij : j = i
  · subst hij
    rw [if_pos rfl] at hc
    split at hc
    · cases hc
      obtain ⟨a, rfl⟩ := rep_emp (hr.2 j _ u h hu)
      exact .pure (x := .fz []) (.fz0 _ _)
    · cases hc
  · rw [if_neg hij] at hc
    exact hr.2 i c u hc hu
/-- A row that is written no more, all else forgotten. -/
theorem Wk_froz {fr fr' : List AV} {H : AH} (r : Nat) (es : List (List PV)) (hat : H.at r = some (es.map fun e => e.map emb)) (h : Tops fr' (renL (upTo 0) (frzL r es fr))) : Wk 0 fr H fr' [] := by
  have h1 := (Wk_freeze (n0 := 0) (fr := fr) r es hat).trans ((Wk_forget 0 (Nat.le_refl _)).trans (Wk_tops h))
  simpa [mapH] using h1

theorem way_spec0 (s : List Node) (hw : Wf s) (n : Nat) (hn : n < 8) :
    C Try.prog 21 [aset s, .int .i64 n] [] (fun x H' => (((s.getD n default).kind = 0 ∧ x = .tuple [.str [], .bool false]) ∨ ((s.getD n default).kind ≠ 0 ∧ ∃ l, downR s l 0 n ∧ Names l ∧ l.length ≤ 7 ∧ x = .tuple [.str (Lib.join l [47]), .bool true])) ∧ H' = []) := by
  have hlen := hw.len
  refine C_body' d21 rfl (WT_ok ?_)
  unfold c21
  simp only [aset, iaddr_node, pnode, wk3, onStO, bareL, toCl, chunks, wk, emb, unAgg, ares, aresL, ares1, tupled, forall_const, Nat.reduceAdd, Nat.reduceSub, Nat.reduceMul, Nat.reduceLeDiff, Nat.reduceEqDiff, Nat.reduceBEq, Int.reduceLE, Int.reduceLT, Int.reduceEq, Int.reduceNe, Int.reduceAdd, Int.reduceSub, Int.reduceToNat, Int.reduceNeg, ↓reduceIte, reduceCtorEq, cellsOf, cellA, lay, fillA]
  refine CT_ok (there_spec s n _) ?_
  rintro _ _ ⟨rfl, rfl⟩
  simp only [iaddr_node, pnode, wk3, onStO, bareL, toCl, chunks, wk, emb, unAgg, ares, aresL, ares1, tupled, forall_const, Nat.reduceAdd, Nat.reduceSub, Nat.reduceMul, Nat.reduceLeDiff, Nat.reduceEqDiff, Nat.reduceBEq, Int.reduceLE, Int.reduceLT, Int.reduceEq, Int.reduceNe, Int.reduceAdd, Int.reduceSub, Int.reduceToNat, Int.reduceNeg, ↓reduceIte, reduceCtorEq, cellsOf, cellA, lay, fillA]
  by_cases hk0 : (s.getD n default).kind = 0
  · have t1 : there s n = false := by
      unfold there
      rw [Int.toNat_natCast, hk0]; simp
    simp only [t1, iaddr_node, pnode, wk3, onStO, bareL, toCl, chunks, wk, emb, unAgg, ares, aresL, ares1, tupled, forall_const, Nat.reduceAdd, Nat.reduceSub, Nat.reduceMul, Nat.reduceLeDiff, Nat.reduceEqDiff, Nat.reduceBEq, Int.reduceLE, Int.reduceLT, Int.reduceEq, Int.reduceNe, Int.reduceAdd, Int.reduceSub, Int.reduceToNat, Int.reduceNeg, ↓reduceIte, reduceCtorEq, cellsOf, cellA, lay, fillA]
    exact KWk_bare rfl ⟨.inl ⟨hk0, rfl⟩, rfl⟩
  have t1 := there_nat (by omega) hk0
  simp only [t1, iaddr_node, pnode, wk3, onStO, bareL, toCl, chunks, wk, emb, unAgg, ares, aresL, ares1, tupled, forall_const, Nat.reduceAdd, Nat.reduceSub, Nat.reduceMul, Nat.reduceLeDiff, Nat.reduceEqDiff, Nat.reduceBEq, Int.reduceLE, Int.reduceLT, Int.reduceEq, Int.reduceNe, Int.reduceAdd, Int.reduceSub, Int.reduceToNat, Int.reduceNeg, ↓reduceIte, reduceCtorEq, cellsOf, cellA, lay, fillA]
  refine WT_loop (W_wk (Wk_empFz 6 rfl) (W_wk (fr' := [.fz (s.map pnode), .int .i64 n, .top, .top, .str [], .bool false, .fz [], .int .i64 0] ++ List.replicate 29 .top) (Wk_tops ?_) (W_loop (fun nn fr H' => ∃ k : Nat, k ≤ 7 ∧ nn = 7 - k ∧ (∀ j, j < k → itUp s j n ≠ 0) ∧ H' = [] ∧
    fr = [.fz (s.map pnode), .int .i64 (itUp s k n : Nat), .top, .top, .str [], .bool false, .fz ((wayN s n k).map pname), .int .i64 k] ++ List.replicate 29 .top) 7 ⟨0, by omega, rfl, fun j hj => by omega, rfl, rfl⟩ ?_)))
  · simp only [List.replicate_succ, List.replicate_zero, List.set_cons_succ, List.set_cons_zero, List.cons_append, List.nil_append, Tops_top, Tops_same, Tops_nil]
  rintro nn fr H' ⟨k, hk, rfl, hj, rfl, rfl⟩
  refine WT_ok ?_
  simp only [hlen, iaddr_node, pnode, wk3, onStO, bareL, toCl, chunks, wk, emb, unAgg, ares, aresL, ares1, tupled, forall_const, Nat.reduceAdd, Nat.reduceSub, Nat.reduceMul, Nat.reduceLeDiff, Nat.reduceEqDiff, Nat.reduceBEq, Int.reduceLE, Int.reduceLT, Int.reduceEq, Int.reduceNe, Int.reduceAdd, Int.reduceSub, Int.reduceToNat, Int.reduceNeg, ↓reduceIte, reduceCtorEq, cellsOf, cellA, lay, fillA]
  have h8 : (k : Int) < (8 : Nat) := by omega
  have hm := hw.itUp8 k hn
  have g1 : (0 : Int) ≤ (itUp s k n : Nat) := by omega
  have g2 : ((itUp s k n : Nat) : Int) < (8 : Nat) := by omega
  have w2 : IntKind.i64.wrap ((k : Int) + 1) = (k : Int) + 1 := IntWalk.i64_in _ (by omega)
  by_cases h0 : itUp s k n = 0
  · have h0' : ((itUp s k n : Nat) : Int) = 0 := by omega
    simp only [h8, h0', iaddr_node, pnode, wk3, onStO, bareL, toCl, chunks, wk, emb, unAgg, ares, aresL, ares1, tupled, forall_const, Nat.reduceAdd, Nat.reduceSub, Nat.reduceMul, Nat.reduceLeDiff, Nat.reduceEqDiff, Nat.reduceBEq, Int.reduceLE, Int.reduceLT, Int.reduceEq, Int.reduceNe, Int.reduceAdd, Int.reduceSub, Int.reduceToNat, Int.reduceNeg, ↓reduceIte, reduceCtorEq, cellsOf, cellA, lay, fillA]
    have hd := wayN_down hw hn hk0 k hj
    have hN := wayN_names hw hn hk0 k hj
    refine CT_ok (join_spec (wayN s n k) (by rw [wayN_len]; omega) (by have := join_short hN (by rw [wayN_len]; omega); omega) _) ?_
    rintro _ _ ⟨rfl, rfl⟩
    simp only [iaddr_node, pnode, wk3, onStO, bareL, toCl, chunks, wk, emb, unAgg, ares, aresL, ares1, tupled, forall_const, Nat.reduceAdd, Nat.reduceSub, Nat.reduceMul, Nat.reduceLeDiff, Nat.reduceEqDiff, Nat.reduceBEq, Int.reduceLE, Int.reduceLT, Int.reduceEq, Int.reduceNe, Int.reduceAdd, Int.reduceSub, Int.reduceToNat, Int.reduceNeg, ↓reduceIte, reduceCtorEq, cellsOf, cellA, lay, fillA]
    rw [h0] at hd
    exact KWk_bare rfl ⟨.inr ⟨hk0, _, hd, hN, by rw [wayN_len]; omega, rfl⟩, rfl⟩
  · have h0' : ¬ ((itUp s k n : Nat) : Int) = 0 := by omega
    have hk7 : k ≠ 7 := by rintro rfl; exact h0 (hw.climb7 hn hk0)
    simp only [h8, h0', hlen, g1, g2, w2, iaddr_node, pnode, wk3, onStO, bareL, toCl, chunks, wk, emb, unAgg, ares, aresL, ares1, tupled, forall_const, Nat.reduceAdd, Nat.reduceSub, Nat.reduceMul, Nat.reduceLeDiff, Nat.reduceEqDiff, Nat.reduceBEq, Int.reduceLE, Int.reduceLT, Int.reduceEq, Int.reduceNe, Int.reduceAdd, Int.reduceSub, Int.reduceToNat, Int.reduceNeg, ↓reduceIte, reduceCtorEq, cellsOf, cellA, lay, fillA]
    have hup := hw.upD (itUp s k n) (by omega)
    have eu : ((itUp s (k + 1) n : Nat) : Int) = (s.getD (itUp s k n) default).up := by rw [itUp_succ]; omega
    have hl := wayN_len s n k
    refine ⟨⟨?_, by omega, by omega⟩, ?_⟩
    · rw [List.all_eq_true]
      intro e he
      obtain ⟨r, hr, rfl⟩ := List.mem_map.1 he
      obtain ⟨z, _, rfl⟩ := List.mem_map.1 hr
      rfl
    · refine QLoop_wk (n' := 7 - (k + 1)) (by omega) ⟨k + 1, by omega, rfl, fun j h => ?_, rfl, rfl⟩ (Wk_froz 0 ((wayN s n (k + 1)).map pname) ?_ ?_)
      · rcases Nat.lt_or_ge j k with h' | h'
        · exact hj j h'
        · have : j = k := by omega
          subst this; exact h0
      · simp [AH.at, wayN, pname, emb]
      · have hl2 := wayN_len s n (k + 1)
        simp only [frzL, frz, renL, ren, if_true, List.length_map, hl, hl2, Nat.zero_add, Nat.add_comm 1 k, Nat.le_refl, and_self, List.drop_zero, eu, Int.natCast_add, Int.natCast_one, List.replicate_succ, List.replicate_zero, List.cons_append, List.nil_append]
        rw [List.take_of_length_le (by simp [hl2])]
        simp only [Tops_top, Tops_same, Tops_nil]
theorem way_spec (s : List Node) (hw : Wf s) (n : Nat) (hn : n < 8) (H : AH) :
    C Try.prog 21 [aset s, .int .i64 n] H (fun x H' => (((s.getD n default).kind = 0 ∧ x = .tuple [.str [], .bool false]) ∨ ((s.getD n default).kind ≠ 0 ∧ ∃ l, downR s l 0 n ∧ Names l ∧ l.length ≤ 7 ∧ x = .tuple [.str (Lib.join l [47]), .bool true])) ∧ H' = H) :=
  C_pure (K0 := fun x => ((s.getD n default).kind = 0 ∧ x = .tuple [.str [], .bool false]) ∨ ((s.getD n default).kind ≠ 0 ∧ ∃ l, downR s l 0 n ∧ Names l ∧ l.length ≤ 7 ∧ x = .tuple [.str (Lib.join l [47]), .bool true])) (way_spec0 s hw n hn) (fun τ => renL_bare τ _ (by simp [bareL, bare, aset])) (by rintro x (⟨_, rfl⟩ | ⟨_, l, _, _, _, rfl⟩) τ <;> exact ren_bare τ _ (by simp [bare, bareL])) H

/-- A way leads to one node alone. -/
theorem downR_uniq {s : List Node} (h : Wf s) : ∀ {l : List (List UInt8)} {a b c : Nat}, downR s l a b → downR s l a c → b = c
  | [], a, b, c, hb, hc => by simp only [downR] at hb hc; omega
  | x :: l, a, b, c, ⟨_, k, hk, hkn, hb⟩, ⟨_, m, hm, hmn, hc⟩ => by
    have hlen := h.len
    have e : k = m := h.uniq k m hk.1 (by have := hk.2.1; omega) hm.1 (by have := hm.2.1; omega) (by rcases hk.2.2.1 with e | e <;> rw [e] <;> decide) (by rcases hm.2.2.1 with e | e <;> rw [e] <;> decide) (by rw [hk.2.2.2, hm.2.2.2]) (by rw [hkn, hmn])
    subst e
    exact downR_uniq h hb hc
theorem downR_split {s : List Node} : ∀ {l1 l2 : List (List UInt8)} {a b : Nat}, downR s (l1 ++ l2) a b → ∃ c, downR s l1 a c ∧ downR s l2 c b
  | [], _, a, _, h => ⟨a, rfl, h⟩
  | x :: l1, l2, a, b, ⟨h1, k, hk, hkn, h⟩ => by
    obtain ⟨c, hc, hb⟩ := downR_split (l1 := l1) h
    exact ⟨c, ⟨h1, k, hk, hkn, hc⟩, hb⟩
theorem downF_not {s : List Node} (h : Wf s) {l : List (List UInt8)} {n : Nat} (hR : downR s l 0 n) : ¬ downF s l := by
  rintro ⟨l1, x, l2, a, rfl, h1, _, h2⟩
  obtain ⟨c, hc, hk, m, hm, hmn, _⟩ := downR_split hR
  have := downR_uniq h h1 hc
  subst this
  rcases h2 with h2 | h2
  · exact h2 hk
  · exact h2 m hm hmn
end Go.Proofs.Ytemjlopoffjmpaa.Abs
set_option linter.unusedSimpArgs false
set_option linter.unusedVariables false
namespace Go.Proofs.Ytemjlopoffjmpaa.Abs
open Go Go.Proofs

theorem parts_join {l : List (List UInt8)} (h : Names l) (hl : l.length ≤ 7) : PartsC (Lib.join l [47]) (fun l' => l' = l) False :=
  (parts_exact _ (by have := join_short h hl; omega)).weak (fun l' e => by rw [partsA_join h hl] at e; cases e; rfl) (fun e => by rw [partsA_join h hl] at e; cases e)
theorem find_way {l : List (List UInt8)} (h : Names l) (hl : l.length ≤ 7) {s : List Node} (hw : Wf s) {n : Nat} (hR : downR s l 0 n) (H : AH) :
    C Try.prog 56 [aset s, .str (Lib.join l [47])] H (fun x H' => H' = H ∧ x = .tuple [.int .i64 n, .int .i64 0]) := by
  refine (find_spec (parts_join h hl) s (by have := hw.len; omega) (by have := hw.len; omega) H).mono ?_
  rintro x H' ⟨rfl, ⟨l', rfl, k, _, hR', rfl⟩ | ⟨e, _, (hF | ⟨l', rfl, hF⟩), rfl⟩⟩
  · rw [downR_uniq hw hR hR']; exact ⟨rfl, rfl⟩
  · exact hF.elim
  · exact absurd hF (downF_not hw hR)
theorem countA_nil : countA [] = 0 := by decide

theorem stat_spec0 {l : List (List UInt8)} (h : Names l) (hl : l.length ≤ 7) {s : List Node} (hw : Wf s) {n : Nat} (hR : downR s l 0 n) (hn : n < 8) :
    C Try.prog 22 [aset s, .str (Lib.join l [47])] [] (fun x H' => x = .tuple [.agg [.int .i64 n, .int .i64 (s.getD n default).kind, .int .i64 (s.getD n default).body.length, .int .i64 (countA (s.getD n default).body)], .int .i64 0] ∧ H' = []) := by
  have hlen := hw.len
  refine C_body' d22 rfl (WT_ok ?_)
  unfold c22
  simp only [aset, iaddr_node, pnode, wk3, onStO, bareL, toCl, chunks, wk, emb, unAgg, ares, aresL, ares1, tupled, forall_const, Nat.reduceAdd, Nat.reduceSub, Nat.reduceMul, Nat.reduceLeDiff, Nat.reduceEqDiff, Nat.reduceBEq, Int.reduceLE, Int.reduceLT, Int.reduceEq, Int.reduceNe, Int.reduceAdd, Int.reduceSub, Int.reduceToNat, Int.reduceNeg, ↓reduceIte, reduceCtorEq, cellsOf, cellA, lay, fillA]
  refine CT_ok (find_way h hl hw hR _) ?_
  rintro _ _ ⟨rfl, rfl⟩
  have g1 : (0 : Int) ≤ n := by omega
  have g2 : (n : Int) < (8 : Nat) := by omega
  simp only [hlen, g1, g2, iaddr_node, pnode, wk3, onStO, bareL, toCl, chunks, wk, emb, unAgg, ares, aresL, ares1, tupled, forall_const, Nat.reduceAdd, Nat.reduceSub, Nat.reduceMul, Nat.reduceLeDiff, Nat.reduceEqDiff, Nat.reduceBEq, Int.reduceLE, Int.reduceLT, Int.reduceEq, Int.reduceNe, Int.reduceAdd, Int.reduceSub, Int.reduceToNat, Int.reduceNeg, ↓reduceIte, reduceCtorEq, cellsOf, cellA, lay, fillA]
  refine CT_ok (count_spec (s.getD n default).body _) ?_
  rintro _ _ ⟨rfl, rfl⟩
  simp only [iaddr_node, pnode, wk3, onStO, bareL, toCl, chunks, wk, emb, unAgg, ares, aresL, ares1, tupled, forall_const, Nat.reduceAdd, Nat.reduceSub, Nat.reduceMul, Nat.reduceLeDiff, Nat.reduceEqDiff, Nat.reduceBEq, Int.reduceLE, Int.reduceLT, Int.reduceEq, Int.reduceNe, Int.reduceAdd, Int.reduceSub, Int.reduceToNat, Int.reduceNeg, ↓reduceIte, reduceCtorEq, cellsOf, cellA, lay, fillA]
  have hbad := hw.badD n (by omega)
  have hc4 := countA_le (s.getD n default).body
  refine WT_loop (W_wk (fr' := [.fz (s.map pnode), .str (Lib.join l [47]), .top, .top, .ptr 0 0 0 1, .int .i64 0, .int .i64 n, .top, .int .i64 (countA (s.getD n default).body), .int .i64 0] ++ List.replicate 44 .top) (Wk_tops ?_) (W_loop (fun nn fr H' => ∃ k : Nat, k ≤ 4 ∧ nn = 4 - k ∧ H' = [some [[.int .i64 0, .int .i64 0, .int .i64 0, .int .i64 0]]] ∧
    fr = [.fz (s.map pnode), .str (Lib.join l [47]), .top, .top, .ptr 0 0 0 1, .int .i64 0, .int .i64 n, .top, .int .i64 (countA (s.getD n default).body), .int .i64 k] ++ List.replicate 44 .top) 4 ⟨0, by omega, rfl, rfl, rfl⟩ ?_))
  · simp only [List.replicate_succ, List.replicate_zero, List.cons_append, List.nil_append, Tops_top, Tops_same, Tops_nil]
  rintro nn fr H' ⟨k, hk, rfl, rfl, rfl⟩
  refine WT_ok ?_
  simp only [iaddr_node, pnode, wk3, onStO, bareL, toCl, chunks, wk, emb, unAgg, ares, aresL, ares1, tupled, forall_const, Nat.reduceAdd, Nat.reduceSub, Nat.reduceMul, Nat.reduceLeDiff, Nat.reduceEqDiff, Nat.reduceBEq, Int.reduceLE, Int.reduceLT, Int.reduceEq, Int.reduceNe, Int.reduceAdd, Int.reduceSub, Int.reduceToNat, Int.reduceNeg, ↓reduceIte, reduceCtorEq, cellsOf, cellA, lay, fillA]
  refine guard_both ?_ ?_ <;> intro hh <;> simp only [hy] at hh
  · have w2 : IntKind.i64.wrap ((k : Int) + 1) = (k : Int) + 1 := IntWalk.i64_in _ (by omega)
    have wz : IntKind.i64.wrap ((BitVec.ofInt IntKind.i64.bits (Int.fdiv 0 (2 ^ min k IntKind.i64.bits)) &&& BitVec.ofInt IntKind.i64.bits 1).toNat : Nat) = 0 := by
      rw [Int.zero_fdiv]; decide
    have wc : IntKind.i64.wrap ((countA (s.getD n default).body : Int) + 0) = countA (s.getD n default).body := by rw [IntWalk.i64_in _ (by omega)]; omega
    simp only [hh, hlen, g1, g2, w2, hbad, wz, wc, iaddr_node, pnode, wk3, onStO, bareL, toCl, chunks, wk, emb, unAgg, ares, aresL, ares1, tupled, forall_const, Nat.reduceAdd, Nat.reduceSub, Nat.reduceMul, Nat.reduceLeDiff, Nat.reduceEqDiff, Nat.reduceBEq, Int.reduceLE, Int.reduceLT, Int.reduceEq, Int.reduceNe, Int.reduceAdd, Int.reduceSub, Int.reduceToNat, Int.reduceNeg, ↓reduceIte, reduceCtorEq, cellsOf, cellA, lay, fillA]
    refine ⟨by omega, QLoop_go (n' := 4 - (k + 1)) (by omega) ⟨k + 1, by omega, rfl, rfl, rfl⟩ ?_⟩
    simp only [List.replicate_succ, List.replicate_zero, List.cons_append, List.nil_append, Tops_top, Tops_same, Tops_nil, Int.natCast_add, Int.natCast_one]
  · simp only [hh, hlen, g1, g2, iaddr_node, pnode, wk3, onStO, bareL, toCl, chunks, wk, emb, unAgg, ares, aresL, ares1, tupled, forall_const, Nat.reduceAdd, Nat.reduceSub, Nat.reduceMul, Nat.reduceLeDiff, Nat.reduceEqDiff, Nat.reduceBEq, Int.reduceLE, Int.reduceLT, Int.reduceEq, Int.reduceNe, Int.reduceAdd, Int.reduceSub, Int.reduceToNat, Int.reduceNeg, ↓reduceIte, reduceCtorEq, cellsOf, cellA, lay, fillA]
    refine WT_drawE ?_
    refine WDT_more 0 ?_
    simp only [hlen, g1, g2, lay, iaddr_node, pnode, wk3, onStO, bareL, toCl, chunks, wk, emb, unAgg, ares, aresL, ares1, tupled, forall_const, Nat.reduceAdd, Nat.reduceSub, Nat.reduceMul, Nat.reduceLeDiff, Nat.reduceEqDiff, Nat.reduceBEq, Int.reduceLE, Int.reduceLT, Int.reduceEq, Int.reduceNe, Int.reduceAdd, Int.reduceSub, Int.reduceToNat, Int.reduceNeg, ↓reduceIte, reduceCtorEq, cellsOf, cellA, lay, fillA]
    exact ⟨by rfl, KWk_bare (by simp [bare, bareL]) ⟨rfl, rfl⟩⟩
theorem stat_spec {l : List (List UInt8)} (h : Names l) (hl : l.length ≤ 7) {s : List Node} (hw : Wf s) {n : Nat} (hR : downR s l 0 n) (hn : n < 8) (H : AH) :
    C Try.prog 22 [aset s, .str (Lib.join l [47])] H (fun x H' => x = .tuple [.agg [.int .i64 n, .int .i64 (s.getD n default).kind, .int .i64 (s.getD n default).body.length, .int .i64 (countA (s.getD n default).body)], .int .i64 0] ∧ H' = H) :=
  C_pure (K0 := fun x => x = .tuple [.agg [.int .i64 n, .int .i64 (s.getD n default).kind, .int .i64 (s.getD n default).body.length, .int .i64 (countA (s.getD n default).body)], .int .i64 0]) (stat_spec0 h hl hw hR hn) (fun τ => renL_bare τ _ (by simp [bareL, bare, aset])) (by rintro x rfl τ; exact ren_bare τ _ (by simp [bare, bareL])) H
end Go.Proofs.Ytemjlopoffjmpaa.Abs
set_option linter.unusedSimpArgs false
set_option linter.unusedVariables false
namespace Go.Proofs.Ytemjlopoffjmpaa.Abs
open Go Go.Proofs

theorem make_next {path : List UInt8} {P : List (List UInt8) → Prop} {B : Prop} (hp : PartsC path P B) (hP : ∀ l, P l → ∀ x ∈ l, mayN x = true) (s : List Node) (hw : Wf s) (kind : Int) (H : AH) :
    C Try.prog 17 [aset s, .str path, .int .i64 kind] H (fun x H' => H' = H ∧ NextW s x) := by
  have hlen := hw.len
  refine (make_spec hp s (by omega) (by omega) kind H).mono ?_
  rintro x H' ⟨rfl, ⟨e, _, rfl⟩ | ⟨l, a, up, n, hl, hup, _, hk2, hno, hn, hn0, hk, rfl⟩⟩
  · exact ⟨rfl, _, _, hw, rfl⟩
  · exact ⟨rfl, _, _, make_wf hw (by omega) hk2 hno (by omega) hn0 hk (hP _ hl a (by simp)), rfl⟩
theorem write_next {path : List UInt8} {P : List (List UInt8) → Prop} {B : Prop} (hp : PartsC path P B) (s : List Node) (hw : Wf s) (off : Int) (text : List UInt8) (htl : text.length < 2 ^ 40) (H : AH) :
    C Try.prog 18 [aset s, .str path, .int .i64 off, .str text] H (fun x H' => H' = H ∧ NextW s x) := (write_spec hp s hw off text htl H).mono fun x H' h => ⟨h.1, WriteR_next hw h.2⟩

theorem done_spec0 (s : List Node) (hw : Wf s) (k i n a b : Int) (p q t : List UInt8) (hp : p.length ≤ 1000000) (hq : q.length ≤ 1000000) (ht : t.length ≤ 1000000) :
    C Try.prog 12 [aset s, .agg [.int .i64 k, .int .i64 i, .int .i64 n, .int .i64 a, .int .i64 b, .str p, .str q, .str t, .emp]] [] (fun x H' => NextW s x ∧ H' = []) := by
  refine C_body' d12 rfl (WT_ok ?_)
  unfold c12
  simp only [aset, lay, iaddr_node, pnode, wk3, onStO, bareL, toCl, chunks, wk, emb, unAgg, ares, aresL, ares1, tupled, forall_const, Nat.reduceAdd, Nat.reduceSub, Nat.reduceMul, Nat.reduceLeDiff, Nat.reduceEqDiff, Nat.reduceBEq, Int.reduceLE, Int.reduceLT, Int.reduceEq, Int.reduceNe, Int.reduceAdd, Int.reduceSub, Int.reduceToNat, Int.reduceNeg, ↓reduceIte, reduceCtorEq, cellsOf, cellA, lay, fillA]
  by_cases h1 : k = 1
  · simp only [h1, lay, iaddr_node, pnode, wk3, onStO, bareL, toCl, chunks, wk, emb, unAgg, ares, aresL, ares1, tupled, forall_const, Nat.reduceAdd, Nat.reduceSub, Nat.reduceMul, Nat.reduceLeDiff, Nat.reduceEqDiff, Nat.reduceBEq, Int.reduceLE, Int.reduceLT, Int.reduceEq, Int.reduceNe, Int.reduceAdd, Int.reduceSub, Int.reduceToNat, Int.reduceNeg, ↓reduceIte, reduceCtorEq, cellsOf, cellA, lay, fillA]
    refine CT_ok (make_next (parts_loose p hp) (fun _ h => h) s hw n _) ?_
    rintro _ _ ⟨rfl, u, e, hu, rfl⟩
    simp only [lay, iaddr_node, pnode, wk3, onStO, bareL, toCl, chunks, wk, emb, unAgg, ares, aresL, ares1, tupled, forall_const, Nat.reduceAdd, Nat.reduceSub, Nat.reduceMul, Nat.reduceLeDiff, Nat.reduceEqDiff, Nat.reduceBEq, Int.reduceLE, Int.reduceLT, Int.reduceEq, Int.reduceNe, Int.reduceAdd, Int.reduceSub, Int.reduceToNat, Int.reduceNeg, ↓reduceIte, reduceCtorEq, cellsOf, cellA, lay, fillA]
    exact KWk_bare (bare_next u _) ⟨⟨u, _, hu, rfl⟩, rfl⟩
  by_cases h2 : k = 2
  · simp only [h2, lay, iaddr_node, pnode, wk3, onStO, bareL, toCl, chunks, wk, emb, unAgg, ares, aresL, ares1, tupled, forall_const, Nat.reduceAdd, Nat.reduceSub, Nat.reduceMul, Nat.reduceLeDiff, Nat.reduceEqDiff, Nat.reduceBEq, Int.reduceLE, Int.reduceLT, Int.reduceEq, Int.reduceNe, Int.reduceAdd, Int.reduceSub, Int.reduceToNat, Int.reduceNeg, ↓reduceIte, reduceCtorEq, cellsOf, cellA, lay, fillA]
    refine CT_ok (drop_spec (parts_loose p hp) s hw _) ?_
    rintro _ _ ⟨rfl, u, e, hu, rfl⟩
    simp only [lay, iaddr_node, pnode, wk3, onStO, bareL, toCl, chunks, wk, emb, unAgg, ares, aresL, ares1, tupled, forall_const, Nat.reduceAdd, Nat.reduceSub, Nat.reduceMul, Nat.reduceLeDiff, Nat.reduceEqDiff, Nat.reduceBEq, Int.reduceLE, Int.reduceLT, Int.reduceEq, Int.reduceNe, Int.reduceAdd, Int.reduceSub, Int.reduceToNat, Int.reduceNeg, ↓reduceIte, reduceCtorEq, cellsOf, cellA, lay, fillA]
    exact KWk_bare (bare_next u _) ⟨⟨u, _, hu, rfl⟩, rfl⟩
  by_cases h3 : k = 3
  · simp only [h3, lay, iaddr_node, pnode, wk3, onStO, bareL, toCl, chunks, wk, emb, unAgg, ares, aresL, ares1, tupled, forall_const, Nat.reduceAdd, Nat.reduceSub, Nat.reduceMul, Nat.reduceLeDiff, Nat.reduceEqDiff, Nat.reduceBEq, Int.reduceLE, Int.reduceLT, Int.reduceEq, Int.reduceNe, Int.reduceAdd, Int.reduceSub, Int.reduceToNat, Int.reduceNeg, ↓reduceIte, reduceCtorEq, cellsOf, cellA, lay, fillA]
    refine CT_ok (move_spec (parts_loose p hp) (parts_loose q hq) (fun _ h => h) s hw _) ?_
    rintro _ _ ⟨rfl, u, e, hu, rfl⟩
    simp only [lay, iaddr_node, pnode, wk3, onStO, bareL, toCl, chunks, wk, emb, unAgg, ares, aresL, ares1, tupled, forall_const, Nat.reduceAdd, Nat.reduceSub, Nat.reduceMul, Nat.reduceLeDiff, Nat.reduceEqDiff, Nat.reduceBEq, Int.reduceLE, Int.reduceLT, Int.reduceEq, Int.reduceNe, Int.reduceAdd, Int.reduceSub, Int.reduceToNat, Int.reduceNeg, ↓reduceIte, reduceCtorEq, cellsOf, cellA, lay, fillA]
    exact KWk_bare (bare_next u _) ⟨⟨u, _, hu, rfl⟩, rfl⟩
  by_cases h4 : k = 4
  · simp only [h4, lay, iaddr_node, pnode, wk3, onStO, bareL, toCl, chunks, wk, emb, unAgg, ares, aresL, ares1, tupled, forall_const, Nat.reduceAdd, Nat.reduceSub, Nat.reduceMul, Nat.reduceLeDiff, Nat.reduceEqDiff, Nat.reduceBEq, Int.reduceLE, Int.reduceLT, Int.reduceEq, Int.reduceNe, Int.reduceAdd, Int.reduceSub, Int.reduceToNat, Int.reduceNeg, ↓reduceIte, reduceCtorEq, cellsOf, cellA, lay, fillA]
    refine CT_ok (write_next (parts_loose p hp) s hw n t (by omega) _) ?_
    rintro _ _ ⟨rfl, u, e, hu, rfl⟩
    simp only [lay, iaddr_node, pnode, wk3, onStO, bareL, toCl, chunks, wk, emb, unAgg, ares, aresL, ares1, tupled, forall_const, Nat.reduceAdd, Nat.reduceSub, Nat.reduceMul, Nat.reduceLeDiff, Nat.reduceEqDiff, Nat.reduceBEq, Int.reduceLE, Int.reduceLT, Int.reduceEq, Int.reduceNe, Int.reduceAdd, Int.reduceSub, Int.reduceToNat, Int.reduceNeg, ↓reduceIte, reduceCtorEq, cellsOf, cellA, lay, fillA]
    exact KWk_bare (bare_next u _) ⟨⟨u, _, hu, rfl⟩, rfl⟩
  · simp only [h1, h2, h3, h4, lay, iaddr_node, pnode, wk3, onStO, bareL, toCl, chunks, wk, emb, unAgg, ares, aresL, ares1, tupled, forall_const, Nat.reduceAdd, Nat.reduceSub, Nat.reduceMul, Nat.reduceLeDiff, Nat.reduceEqDiff, Nat.reduceBEq, Int.reduceLE, Int.reduceLT, Int.reduceEq, Int.reduceNe, Int.reduceAdd, Int.reduceSub, Int.reduceToNat, Int.reduceNeg, ↓reduceIte, reduceCtorEq, cellsOf, cellA, lay, fillA]
    refine CT_ok (cut_spec (parts_loose p hp) s hw n _) ?_
    rintro _ _ ⟨rfl, u, e, hu, rfl⟩
    simp only [lay, iaddr_node, pnode, wk3, onStO, bareL, toCl, chunks, wk, emb, unAgg, ares, aresL, ares1, tupled, forall_const, Nat.reduceAdd, Nat.reduceSub, Nat.reduceMul, Nat.reduceLeDiff, Nat.reduceEqDiff, Nat.reduceBEq, Int.reduceLE, Int.reduceLT, Int.reduceEq, Int.reduceNe, Int.reduceAdd, Int.reduceSub, Int.reduceToNat, Int.reduceNeg, ↓reduceIte, reduceCtorEq, cellsOf, cellA, lay, fillA]
    exact KWk_bare (bare_next u _) ⟨⟨u, _, hu, rfl⟩, rfl⟩
theorem done_spec (s : List Node) (hw : Wf s) (k i n a b : Int) (p q t : List UInt8) (hp : p.length ≤ 1000000) (hq : q.length ≤ 1000000) (ht : t.length ≤ 1000000) (H : AH) :
    C Try.prog 12 [aset s, .agg [.int .i64 k, .int .i64 i, .int .i64 n, .int .i64 a, .int .i64 b, .str p, .str q, .str t, .emp]] H (fun x H' => H' = H ∧ NextW s x) := next_pure (done_spec0 s hw k i n a b p q t hp hq ht) (by simp [bareL, bare, aset]) H
end Go.Proofs.Ytemjlopoffjmpaa.Abs
set_option linter.unusedSimpArgs false
set_option linter.unusedVariables false
namespace Go.Proofs.Ytemjlopoffjmpaa.Abs
open Go Go.Proofs

/-- A step that changes files. -/
def editA (k i n : Int) (p q t : List UInt8) : AV := .agg [.int .i64 k, .int .i64 i, .int .i64 n, .int .i64 0, .int .i64 0, .str p, .str q, .str t, .emp]
def EditR (l : List UInt8) (n : Int) (x : AV) (H' : AH) : Prop := ∃ (k i m n' : Int) (p q t : List UInt8), p.length ≤ 1000000 ∧ q.length ≤ 1000000 ∧ t.length ≤ 1000000 ∧ n ≤ n' ∧ x = editA k i m p q t ∧ H' = picksH l n'

theorem KWk_edit {l : List UInt8} {n k i m n' : Int} {p q t : List UInt8} {R : AH} (hp : p.length ≤ 1000000) (hq : q.length ≤ 1000000) (ht : t.length ≤ 1000000) (hn : n ≤ n') :
    KWk 1 (EditR l n) (.agg [.int .i64 k, .int .i64 i, .int .i64 m, .int .i64 0, .int .i64 0, .str p, .str q, .str t, .emp]) (some [[.fz (l.map pbyte), .int .i64 n']] :: R) := by
  refine ⟨_, _, ?_, k, i, m, n', p, q, t, hp, hq, ht, hn, rfl, rfl⟩
  have h := Wk_forget (n0 := 1) (fr := [editA k i m p q t]) (H := some [[.fz (l.map pbyte), .int .i64 n']] :: R) 1 (Nat.le_refl _)
  simpa [mapH, renL, ren, editA, picksH] using h
theorem path_at (l : List UInt8) (n : Int) (hn : 0 ≤ n) (hl : l.length ≤ 1000000) (R : AH) :
    C Try.prog 37 [.ptr 0 0 0 1] (some [[.fz (l.map pbyte), .int .i64 n]] :: R) (fun x H' => ∃ (p : List UInt8) (n' : Int), x = .str p ∧ p.length ≤ 11 ∧ n ≤ n' ∧ H' = some [[.fz (l.map pbyte), .int .i64 n']] :: R) := by
  refine C_call (K0 := fun x H' => ∃ (p : List UInt8) (n' : Int), x = .str p ∧ p.length ≤ 11 ∧ n ≤ n' ∧ n' ≤ n + 1 ∧ H' = picksH l n') [0] (by simp) (by simp) ?_ ?_
  · exact path_spec l n hn hl
  · rintro _ _ ⟨p, n', rfl, h1, h2, h3, rfl⟩
    exact ⟨Nat.le_refl _, p, n', rfl, h1, h2, by simp [back, setAll, picksH, renO, renL, ren]⟩
section
variable {c : Nat} {late : List Loc → List Loc → Prop} {K : List Nat → Nat → AV → AH → Prop} {t : Tag K}
theorem CFT_num (l : List UInt8) (n k : Int) (hn : 0 ≤ n) (hl : l.length ≤ 1000000) {R : AH} (hc : 0 < c ∧ c ≤ R.length + 1) (hlate : late [.con 0] [.con 0, .len 0])
    (hk : ∀ m n' : Int, 0 ≤ m → (1 ≤ k → m < k) → (k < 1 → m = 0) → n ≤ n' → K [0] c (.int .i64 m) (some [[.fz (l.map pbyte), .int .i64 n']] :: R)) :
    CFT Try.prog 24 [.ptr 0 0 0 1, .int .i64 k] c (some [[.fz (l.map pbyte), .int .i64 n]] :: R) late K t := by
  refine CFT_ok [0] 0 (num_spec l n k hn hl) (by simp; omega) hlate ?_
  rintro _ _ ⟨m, n', rfl, h1, h2, h3, h4, h5, rfl⟩
  have := hk m n' h1 h2 h3 h4
  refine ⟨by simp [picksH], ?_⟩
  simpa [setAll, picksH, renO, renL, ren] using this
theorem CFT_path (l : List UInt8) (n : Int) (hn : 0 ≤ n) (hl : l.length ≤ 1000000) {R : AH} (hc : 0 < c ∧ c ≤ R.length + 1) (hlate : late [.con 0] [.con 0, .len 0])
    (hk : ∀ (p : List UInt8) (n' : Int), p.length ≤ 11 → n ≤ n' → K [0] c (.str p) (some [[.fz (l.map pbyte), .int .i64 n']] :: R)) :
    CFT Try.prog 37 [.ptr 0 0 0 1] c (some [[.fz (l.map pbyte), .int .i64 n]] :: R) late K t := by
  refine CFT_ok [0] 0 (path_spec l n hn hl) (by simp; omega) hlate ?_
  rintro _ _ ⟨m, n', rfl, h1, h2, h3, rfl⟩
  have := hk m n' h1 h2
  refine ⟨by simp [picksH], ?_⟩
  simpa [setAll, picksH, renO, renL, ren] using this
theorem CFT_text (l : List UInt8) (n : Int) (hn : 0 ≤ n) (hl : l.length ≤ 1000000) {R : AH} (hc : 0 < c ∧ c ≤ R.length + 1) (hlate : late [.con 0] [.con 0, .len 0])
    (hk : ∀ (p : List UInt8) (n' : Int), p.length ≤ 129 → n ≤ n' → K [0] c (.str p) (some [[.fz (l.map pbyte), .int .i64 n']] :: R)) :
    CFT Try.prog 38 [.ptr 0 0 0 1] c (some [[.fz (l.map pbyte), .int .i64 n]] :: R) late K t := by
  refine CFT_ok [0] 0 (text_spec l n hn hl) (by simp; omega) hlate ?_
  rintro _ _ ⟨m, n', rfl, h1, h2, h3, rfl⟩
  have := hk m n' h1 h2
  refine ⟨by simp [picksH], ?_⟩
  simpa [setAll, picksH, renO, renL, ren] using this
end

theorem ints_get (vs : List Int) (m : Int) (h0 : 0 ≤ m) (h : m < vs.length) : ∃ v, (vs.map fun v => [AV.int .i64 v])[m.toNat]? = some [AV.int .i64 v] := by
  refine ⟨vs[m.toNat]'(by omega), ?_⟩
  rw [List.getElem?_map, List.getElem?_eq_getElem (by omega), Option.map_some]
theorem edit_spec (l : List UInt8) (n i : Int) (hn : 0 ≤ n) (hl : l.length ≤ 1000000) :
    C Try.prog 13 [.ptr 0 0 0 1, .int .i64 i] (picksH l n) (EditR l n) := by
  refine C_body' d13 rfl (WT_ok ?_)
  unfold c13
  simp only [picksH, iaddr_node, pnode, wk3, onStO, bareL, toCl, chunks, wk, emb, unAgg, ares, aresL, ares1, tupled, forall_const, Nat.reduceAdd, Nat.reduceSub, Nat.reduceMul, Nat.reduceLeDiff, Nat.reduceEqDiff, Nat.reduceBEq, Int.reduceLE, Int.reduceLT, Int.reduceEq, Int.reduceNe, Int.reduceAdd, Int.reduceSub, Int.reduceToNat, Int.reduceNeg, ↓reduceIte, reduceCtorEq, cellsOf, cellA, lay, fillA]
  refine WT_drawE ?_
  refine WDT_more 2 ?_
  simp only [picksH, lay, iaddr_node, pnode, wk3, onStO, bareL, toCl, chunks, wk, emb, unAgg, ares, aresL, ares1, tupled, forall_const, Nat.reduceAdd, Nat.reduceSub, Nat.reduceMul, Nat.reduceLeDiff, Nat.reduceEqDiff, Nat.reduceBEq, Int.reduceLE, Int.reduceLT, Int.reduceEq, Int.reduceNe, Int.reduceAdd, Int.reduceSub, Int.reduceToNat, Int.reduceNeg, ↓reduceIte, reduceCtorEq, cellsOf, cellA, lay, fillA]
  refine ⟨by omega, by omega, ?_⟩
  refine CFT_num l n 12 hn hl (by simp) ⟨by rfl, by rfl⟩ ?_
  intro m n' h1 h2 h3 h4
  have g1 : m < 12 := h2 (by omega)
  obtain ⟨v, hv⟩ := ints_get [1, 1, 1, 2, 3, 3, 4, 4, 4, 5, 1, 4] m h1 g1
  simp only [List.map_cons, List.map_nil] at hv
  simp only [ren, renL, h1, g1, hv, lay, iaddr_node, pnode, wk3, onStO, bareL, toCl, chunks, wk, emb, unAgg, ares, aresL, ares1, tupled, forall_const, Nat.reduceAdd, Nat.reduceSub, Nat.reduceMul, Nat.reduceLeDiff, Nat.reduceEqDiff, Nat.reduceBEq, Int.reduceLE, Int.reduceLT, Int.reduceEq, Int.reduceNe, Int.reduceAdd, Int.reduceSub, Int.reduceToNat, Int.reduceNeg, ↓reduceIte, reduceCtorEq, cellsOf, cellA, lay, fillA]
  refine ⟨g1, ?_⟩
  refine CFT_path l n' (by omega) hl (by simp) ⟨by rfl, by rfl⟩ ?_
  intro p n1 hp hn1
  simp only [ren, renL, lay, iaddr_node, pnode, wk3, onStO, bareL, toCl, chunks, wk, emb, unAgg, ares, aresL, ares1, tupled, forall_const, Nat.reduceAdd, Nat.reduceSub, Nat.reduceMul, Nat.reduceLeDiff, Nat.reduceEqDiff, Nat.reduceBEq, Int.reduceLE, Int.reduceLT, Int.reduceEq, Int.reduceNe, Int.reduceAdd, Int.reduceSub, Int.reduceToNat, Int.reduceNeg, ↓reduceIte, reduceCtorEq, cellsOf, cellA, lay, fillA]
  refine ⟨by rfl, ?_⟩
  by_cases v1 : v = 1
  · simp only [v1, lay, iaddr_node, pnode, wk3, onStO, bareL, toCl, chunks, wk, emb, unAgg, ares, aresL, ares1, tupled, forall_const, Nat.reduceAdd, Nat.reduceSub, Nat.reduceMul, Nat.reduceLeDiff, Nat.reduceEqDiff, Nat.reduceBEq, Int.reduceLE, Int.reduceLT, Int.reduceEq, Int.reduceNe, Int.reduceAdd, Int.reduceSub, Int.reduceToNat, Int.reduceNeg, ↓reduceIte, reduceCtorEq, cellsOf, cellA, lay, fillA]
    refine CT_ok (num_at l n1 2 (by omega) hl _) ?_
    rintro _ H ⟨m2, n2, rfl, k1, k2, k3, k4, _, rfl⟩
    simp only [lay, iaddr_node, pnode, wk3, onStO, bareL, toCl, chunks, wk, emb, unAgg, ares, aresL, ares1, tupled, forall_const, Nat.reduceAdd, Nat.reduceSub, Nat.reduceMul, Nat.reduceLeDiff, Nat.reduceEqDiff, Nat.reduceBEq, Int.reduceLE, Int.reduceLT, Int.reduceEq, Int.reduceNe, Int.reduceAdd, Int.reduceSub, Int.reduceToNat, Int.reduceNeg, ↓reduceIte, reduceCtorEq, cellsOf, cellA, lay, fillA]
    refine CT_ok (num_at l n2 16 (by omega) hl _) ?_
    rintro _ H ⟨m3, n3, rfl, j1, j2, j3, j4, _, rfl⟩
    simp only [lay, iaddr_node, pnode, wk3, onStO, bareL, toCl, chunks, wk, emb, unAgg, ares, aresL, ares1, tupled, forall_const, Nat.reduceAdd, Nat.reduceSub, Nat.reduceMul, Nat.reduceLeDiff, Nat.reduceEqDiff, Nat.reduceBEq, Int.reduceLE, Int.reduceLT, Int.reduceEq, Int.reduceNe, Int.reduceAdd, Int.reduceSub, Int.reduceToNat, Int.reduceNeg, ↓reduceIte, reduceCtorEq, cellsOf, cellA, lay, fillA]
    refine guard_both ?_ ?_ <;> intro b <;> simp only [hy] at b
    · simp only [b, lay, iaddr_node, pnode, wk3, onStO, bareL, toCl, chunks, wk, emb, unAgg, ares, aresL, ares1, tupled, forall_const, Nat.reduceAdd, Nat.reduceSub, Nat.reduceMul, Nat.reduceLeDiff, Nat.reduceEqDiff, Nat.reduceBEq, Int.reduceLE, Int.reduceLT, Int.reduceEq, Int.reduceNe, Int.reduceAdd, Int.reduceSub, Int.reduceToNat, Int.reduceNeg, ↓reduceIte, reduceCtorEq, cellsOf, cellA, lay, fillA]
      refine CT_ok (num_at l n3 5 (by omega) hl _) ?_
      rintro _ H ⟨m4, n4, rfl, i1, i2, i3, i4, _, rfl⟩
      simp only [lay, iaddr_node, pnode, wk3, onStO, bareL, toCl, chunks, wk, emb, unAgg, ares, aresL, ares1, tupled, forall_const, Nat.reduceAdd, Nat.reduceSub, Nat.reduceMul, Nat.reduceLeDiff, Nat.reduceEqDiff, Nat.reduceBEq, Int.reduceLE, Int.reduceLT, Int.reduceEq, Int.reduceNe, Int.reduceAdd, Int.reduceSub, Int.reduceToNat, Int.reduceNeg, ↓reduceIte, reduceCtorEq, cellsOf, cellA, lay, fillA]
      exact KWk_edit (by omega) (by simp) (by simp) (by omega)
    · simp only [b, lay, iaddr_node, pnode, wk3, onStO, bareL, toCl, chunks, wk, emb, unAgg, ares, aresL, ares1, tupled, forall_const, Nat.reduceAdd, Nat.reduceSub, Nat.reduceMul, Nat.reduceLeDiff, Nat.reduceEqDiff, Nat.reduceBEq, Int.reduceLE, Int.reduceLT, Int.reduceEq, Int.reduceNe, Int.reduceAdd, Int.reduceSub, Int.reduceToNat, Int.reduceNeg, ↓reduceIte, reduceCtorEq, cellsOf, cellA, lay, fillA]
      exact KWk_edit (by omega) (by simp) (by simp) (by omega)
  by_cases v3 : v = 3
  · simp only [v3, lay, iaddr_node, pnode, wk3, onStO, bareL, toCl, chunks, wk, emb, unAgg, ares, aresL, ares1, tupled, forall_const, Nat.reduceAdd, Nat.reduceSub, Nat.reduceMul, Nat.reduceLeDiff, Nat.reduceEqDiff, Nat.reduceBEq, Int.reduceLE, Int.reduceLT, Int.reduceEq, Int.reduceNe, Int.reduceAdd, Int.reduceSub, Int.reduceToNat, Int.reduceNeg, ↓reduceIte, reduceCtorEq, cellsOf, cellA, lay, fillA]
    refine CT_ok (path_at l n1 (by omega) hl _) ?_
    rintro _ H ⟨q, n2, rfl, k1, k2, rfl⟩
    simp only [lay, iaddr_node, pnode, wk3, onStO, bareL, toCl, chunks, wk, emb, unAgg, ares, aresL, ares1, tupled, forall_const, Nat.reduceAdd, Nat.reduceSub, Nat.reduceMul, Nat.reduceLeDiff, Nat.reduceEqDiff, Nat.reduceBEq, Int.reduceLE, Int.reduceLT, Int.reduceEq, Int.reduceNe, Int.reduceAdd, Int.reduceSub, Int.reduceToNat, Int.reduceNeg, ↓reduceIte, reduceCtorEq, cellsOf, cellA, lay, fillA]
    exact KWk_edit (by omega) (by omega) (by simp) (by omega)
  by_cases v4 : v = 4
  · simp only [v4, lay, iaddr_node, pnode, wk3, onStO, bareL, toCl, chunks, wk, emb, unAgg, ares, aresL, ares1, tupled, forall_const, Nat.reduceAdd, Nat.reduceSub, Nat.reduceMul, Nat.reduceLeDiff, Nat.reduceEqDiff, Nat.reduceBEq, Int.reduceLE, Int.reduceLT, Int.reduceEq, Int.reduceNe, Int.reduceAdd, Int.reduceSub, Int.reduceToNat, Int.reduceNeg, ↓reduceIte, reduceCtorEq, cellsOf, cellA, lay, fillA]
    refine WT_drawE ?_
    refine WDT_more 1 ?_
    simp only [ren, renL, lay, iaddr_node, pnode, wk3, onStO, bareL, toCl, chunks, wk, emb, unAgg, ares, aresL, ares1, tupled, forall_const, Nat.reduceAdd, Nat.reduceSub, Nat.reduceMul, Nat.reduceLeDiff, Nat.reduceEqDiff, Nat.reduceBEq, Int.reduceLE, Int.reduceLT, Int.reduceEq, Int.reduceNe, Int.reduceAdd, Int.reduceSub, Int.reduceToNat, Int.reduceNeg, ↓reduceIte, reduceCtorEq, cellsOf, cellA, lay, fillA]
    refine ⟨by omega, ?_⟩
    refine CFT_num l n1 8 (by omega) hl (by simp) ⟨by rfl, by rfl⟩ ?_
    intro m2 n2 k1 k2 k3 k4
    have k5 : m2 < 8 := k2 (by omega)
    obtain ⟨u, hu⟩ := ints_get [0, 0, 1, 31, 32, 64, 100, 130] m2 k1 k5
    simp only [List.map_cons, List.map_nil] at hu
    simp only [ren, renL, k1, k5, hu, lay, iaddr_node, pnode, wk3, onStO, bareL, toCl, chunks, wk, emb, unAgg, ares, aresL, ares1, tupled, forall_const, Nat.reduceAdd, Nat.reduceSub, Nat.reduceMul, Nat.reduceLeDiff, Nat.reduceEqDiff, Nat.reduceBEq, Int.reduceLE, Int.reduceLT, Int.reduceEq, Int.reduceNe, Int.reduceAdd, Int.reduceSub, Int.reduceToNat, Int.reduceNeg, ↓reduceIte, reduceCtorEq, cellsOf, cellA, lay, fillA]
    refine ⟨k5, ?_⟩
    refine CFT_text l n2 (by omega) hl (by simp) ⟨by rfl, by rfl⟩ ?_
    intro q n3 hq hn3
    simp only [ren, renL, lay, iaddr_node, pnode, wk3, onStO, bareL, toCl, chunks, wk, emb, unAgg, ares, aresL, ares1, tupled, forall_const, Nat.reduceAdd, Nat.reduceSub, Nat.reduceMul, Nat.reduceLeDiff, Nat.reduceEqDiff, Nat.reduceBEq, Int.reduceLE, Int.reduceLT, Int.reduceEq, Int.reduceNe, Int.reduceAdd, Int.reduceSub, Int.reduceToNat, Int.reduceNeg, ↓reduceIte, reduceCtorEq, cellsOf, cellA, lay, fillA]
    refine ⟨by rfl, ?_⟩
    exact KWk_edit (by omega) (by simp) (by omega) (by omega)
  by_cases v5 : v = 5
  · simp only [v5, lay, iaddr_node, pnode, wk3, onStO, bareL, toCl, chunks, wk, emb, unAgg, ares, aresL, ares1, tupled, forall_const, Nat.reduceAdd, Nat.reduceSub, Nat.reduceMul, Nat.reduceLeDiff, Nat.reduceEqDiff, Nat.reduceBEq, Int.reduceLE, Int.reduceLT, Int.reduceEq, Int.reduceNe, Int.reduceAdd, Int.reduceSub, Int.reduceToNat, Int.reduceNeg, ↓reduceIte, reduceCtorEq, cellsOf, cellA, lay, fillA]
    refine CT_ok (num_at l n1 8 (by omega) hl _) ?_
    rintro _ H ⟨m2, n2, rfl, k1, k2, k3, k4, _, rfl⟩
    have k5 : m2 < 8 := k2 (by omega)
    obtain ⟨u, hu⟩ := ints_get [0, 1, 32, 33, 128, 129, 60, 64] m2 k1 k5
    simp only [List.map_cons, List.map_nil] at hu
    simp only [k1, k5, hu, lay, iaddr_node, pnode, wk3, onStO, bareL, toCl, chunks, wk, emb, unAgg, ares, aresL, ares1, tupled, forall_const, Nat.reduceAdd, Nat.reduceSub, Nat.reduceMul, Nat.reduceLeDiff, Nat.reduceEqDiff, Nat.reduceBEq, Int.reduceLE, Int.reduceLT, Int.reduceEq, Int.reduceNe, Int.reduceAdd, Int.reduceSub, Int.reduceToNat, Int.reduceNeg, ↓reduceIte, reduceCtorEq, cellsOf, cellA, lay, fillA]
    first | exact KWk_edit (by omega) (by simp) (by simp) (by omega) | exact ⟨k5, KWk_edit (by omega) (by simp) (by simp) (by omega)⟩
  · simp only [v1, v3, v4, v5, lay, iaddr_node, pnode, wk3, onStO, bareL, toCl, chunks, wk, emb, unAgg, ares, aresL, ares1, tupled, forall_const, Nat.reduceAdd, Nat.reduceSub, Nat.reduceMul, Nat.reduceLeDiff, Nat.reduceEqDiff, Nat.reduceBEq, Int.reduceLE, Int.reduceLT, Int.reduceEq, Int.reduceNe, Int.reduceAdd, Int.reduceSub, Int.reduceToNat, Int.reduceNeg, ↓reduceIte, reduceCtorEq, cellsOf, cellA, lay, fillA]
    exact KWk_edit (by omega) (by simp) (by simp) (by omega)
end Go.Proofs.Ytemjlopoffjmpaa.Abs
set_option linter.unusedSimpArgs false
set_option linter.unusedVariables false
namespace Go.Proofs.Ytemjlopoffjmpaa.Abs
open Go Go.Proofs

theorem grown_spec (l : List UInt8) (n : Int) (s : List Node) (hw : Wf s) (most : Nat) (hm : most ≤ 1000000) (hn : 0 ≤ n) (hl : l.length ≤ 1000000) :
    C Try.prog 45 [.ptr 0 0 0 1, aset s, .int .i64 most] (picksH l n) (fun x H' => ∃ t n', Wf t ∧ n ≤ n' ∧ x = aset t ∧ H' = picksH l n') := by
  refine C_body d45 rfl (WT_ok ?_)
  unfold c45
  simp only [picksH, aset, iaddr_node, pnode, wk3, onStO, bareL, toCl, chunks, wk, emb, unAgg, ares, aresL, ares1, tupled, forall_const, Nat.reduceAdd, Nat.reduceSub, Nat.reduceMul, Nat.reduceLeDiff, Nat.reduceEqDiff, Nat.reduceBEq, Int.reduceLE, Int.reduceLT, Int.reduceEq, Int.reduceNe, Int.reduceAdd, Int.reduceSub, Int.reduceToNat, Int.reduceNeg, ↓reduceIte, reduceCtorEq, cellsOf, cellA, lay, fillA]
  refine WT_loop (W_loop (fun nn fr H' => ∃ (j : Nat) (t : List Node) (n' : Int), Wf t ∧ n ≤ n' ∧ j ≤ most ∧ nn = most - j ∧ H' = [some [[.fz (l.map pbyte), .int .i64 n']]] ∧ fr = [.ptr 0 0 0 1, .fz (t.map pnode), .int .i64 most, .top, .top, .top, .emp, .int .i64 j] ++ List.replicate 18 .top) most ⟨0, s, n, hw, by omega, by omega, rfl, rfl, rfl⟩ ?_)
  rintro nn fr H ⟨j, t, n', ht, hn', hj, rfl, rfl, rfl⟩
  refine WT_ok ?_
  simp only [iaddr_node, pnode, wk3, onStO, bareL, toCl, chunks, wk, emb, unAgg, ares, aresL, ares1, tupled, forall_const, Nat.reduceAdd, Nat.reduceSub, Nat.reduceMul, Nat.reduceLeDiff, Nat.reduceEqDiff, Nat.reduceBEq, Int.reduceLE, Int.reduceLT, Int.reduceEq, Int.reduceNe, Int.reduceAdd, Int.reduceSub, Int.reduceToNat, Int.reduceNeg, ↓reduceIte, reduceCtorEq, cellsOf, cellA, lay, fillA]
  by_cases h : (j : Int) < most
  · simp only [h, iaddr_node, pnode, wk3, onStO, bareL, toCl, chunks, wk, emb, unAgg, ares, aresL, ares1, tupled, forall_const, Nat.reduceAdd, Nat.reduceSub, Nat.reduceMul, Nat.reduceLeDiff, Nat.reduceEqDiff, Nat.reduceBEq, Int.reduceLE, Int.reduceLT, Int.reduceEq, Int.reduceNe, Int.reduceAdd, Int.reduceSub, Int.reduceToNat, Int.reduceNeg, ↓reduceIte, reduceCtorEq, cellsOf, cellA, lay, fillA]
    refine CT_ok (over_spec (l.map pbyte) n') ?_
    rintro _ _ ⟨rfl, rfl⟩
    simp only [h, iaddr_node, pnode, wk3, onStO, bareL, toCl, chunks, wk, emb, unAgg, ares, aresL, ares1, tupled, forall_const, Nat.reduceAdd, Nat.reduceSub, Nat.reduceMul, Nat.reduceLeDiff, Nat.reduceEqDiff, Nat.reduceBEq, Int.reduceLE, Int.reduceLT, Int.reduceEq, Int.reduceNe, Int.reduceAdd, Int.reduceSub, Int.reduceToNat, Int.reduceNeg, ↓reduceIte, reduceCtorEq, cellsOf, cellA, lay, fillA]
    refine guard_both ?_ ?_ <;> intro h2 <;> simp only [hy] at h2
    · simp only [h, h2, iaddr_node, pnode, wk3, onStO, bareL, toCl, chunks, wk, emb, unAgg, ares, aresL, ares1, tupled, forall_const, Nat.reduceAdd, Nat.reduceSub, Nat.reduceMul, Nat.reduceLeDiff, Nat.reduceEqDiff, Nat.reduceBEq, Int.reduceLE, Int.reduceLT, Int.reduceEq, Int.reduceNe, Int.reduceAdd, Int.reduceSub, Int.reduceToNat, Int.reduceNeg, ↓reduceIte, reduceCtorEq, cellsOf, cellA, lay, fillA]
      refine CT_ok (edit_spec l n' 1 (by omega) hl) ?_
      rintro _ _ ⟨k, i, m, n2, p, q, e, hp, hq, he, hn2, rfl, rfl⟩
      simp only [editA, picksH, iaddr_node, pnode, wk3, onStO, bareL, toCl, chunks, wk, emb, unAgg, ares, aresL, ares1, tupled, forall_const, Nat.reduceAdd, Nat.reduceSub, Nat.reduceMul, Nat.reduceLeDiff, Nat.reduceEqDiff, Nat.reduceBEq, Int.reduceLE, Int.reduceLT, Int.reduceEq, Int.reduceNe, Int.reduceAdd, Int.reduceSub, Int.reduceToNat, Int.reduceNeg, ↓reduceIte, reduceCtorEq, cellsOf, cellA, lay, fillA]
      refine CT_ok (done_spec t ht k i m 0 0 p q e hp hq he _) ?_
      rintro _ _ ⟨rfl, u, er, hu, rfl⟩
      have w2 : IntKind.i64.wrap ((j : Int) + 1) = (j : Int) + 1 := IntWalk.i64_in _ (by omega)
      simp only [aset, w2, iaddr_node, pnode, wk3, onStO, bareL, toCl, chunks, wk, emb, unAgg, ares, aresL, ares1, tupled, forall_const, Nat.reduceAdd, Nat.reduceSub, Nat.reduceMul, Nat.reduceLeDiff, Nat.reduceEqDiff, Nat.reduceBEq, Int.reduceLE, Int.reduceLT, Int.reduceEq, Int.reduceNe, Int.reduceAdd, Int.reduceSub, Int.reduceToNat, Int.reduceNeg, ↓reduceIte, reduceCtorEq, cellsOf, cellA, lay, fillA]
      refine QLoop_go (n' := most - (j + 1)) (by omega) ⟨j + 1, u, n2, hu, by omega, by omega, rfl, rfl, rfl⟩ ?_
      simp only [List.replicate_succ, List.replicate_zero, List.cons_append, List.nil_append, Tops_top, Tops_same, Tops_nil, Int.natCast_add, Int.natCast_one]
    · simp only [h, h2, iaddr_node, pnode, wk3, onStO, bareL, toCl, chunks, wk, emb, unAgg, ares, aresL, ares1, tupled, forall_const, Nat.reduceAdd, Nat.reduceSub, Nat.reduceMul, Nat.reduceLeDiff, Nat.reduceEqDiff, Nat.reduceBEq, Int.reduceLE, Int.reduceLT, Int.reduceEq, Int.reduceNe, Int.reduceAdd, Int.reduceSub, Int.reduceToNat, Int.reduceNeg, ↓reduceIte, reduceCtorEq, cellsOf, cellA, lay, fillA]
      exact ⟨t, n', ht, hn', rfl, rfl⟩
  · simp only [h, iaddr_node, pnode, wk3, onStO, bareL, toCl, chunks, wk, emb, unAgg, ares, aresL, ares1, tupled, forall_const, Nat.reduceAdd, Nat.reduceSub, Nat.reduceMul, Nat.reduceLeDiff, Nat.reduceEqDiff, Nat.reduceBEq, Int.reduceLE, Int.reduceLT, Int.reduceEq, Int.reduceNe, Int.reduceAdd, Int.reduceSub, Int.reduceToNat, Int.reduceNeg, ↓reduceIte, reduceCtorEq, cellsOf, cellA, lay, fillA]
    exact ⟨t, n', ht, hn', rfl, rfl⟩

theorem newA_get (i : Nat) (h1 : 1 ≤ i) (h8 : i < 8) : newA.getD i default = ⟨0, 0, [], [], 0⟩ := by
  rcases (by omega : i = 1 ∨ i = 2 ∨ i = 3 ∨ i = 4 ∨ i = 5 ∨ i = 6 ∨ i = 7) with rfl | rfl | rfl | rfl | rfl | rfl | rfl <;> rfl
theorem newA_wf : Wf newA := by
  refine ⟨rfl, rfl, fun i h1 h8 => ?_, fun i k h1 h8 _ _ hk => ?_, fun i => i, fun i h1 h8 hk => ?_⟩
  · rw [newA_get i h1 h8]
    exact ⟨rfl, .inl rfl, fun _ => rfl, fun e => absurd e (by decide), fun e => absurd rfl e, ⟨by decide, by decide⟩, fun e => absurd rfl e, by show 0 ≤ 128; omega⟩
  · rw [newA_get i h1 h8] at hk; exact absurd rfl hk
  · rw [newA_get i h1 h8] at hk; exact absurd rfl hk
theorem set_spec (l : List UInt8) (n : Int) (most : Nat) (hm : most ≤ 1000000) (hn : 0 ≤ n) (hl : l.length ≤ 1000000) :
    C Try.prog 16 [.ptr 0 0 0 1, .int .i64 most] (picksH l n) (fun x H' => ∃ t n', Wf t ∧ n ≤ n' ∧ x = aset t ∧ H' = picksH l n') := by
  refine C_body d16 rfl (WT_ok ?_)
  unfold c16
  simp only [iaddr_node, pnode, wk3, onStO, bareL, toCl, chunks, wk, emb, unAgg, ares, aresL, ares1, tupled, forall_const, Nat.reduceAdd, Nat.reduceSub, Nat.reduceMul, Nat.reduceLeDiff, Nat.reduceEqDiff, Nat.reduceBEq, Int.reduceLE, Int.reduceLT, Int.reduceEq, Int.reduceNe, Int.reduceAdd, Int.reduceSub, Int.reduceToNat, Int.reduceNeg, ↓reduceIte, reduceCtorEq, cellsOf, cellA, lay, fillA]
  refine CT_ok (new_spec _) ?_
  rintro _ _ ⟨rfl, rfl⟩
  simp only [iaddr_node, pnode, wk3, onStO, bareL, toCl, chunks, wk, emb, unAgg, ares, aresL, ares1, tupled, forall_const, Nat.reduceAdd, Nat.reduceSub, Nat.reduceMul, Nat.reduceLeDiff, Nat.reduceEqDiff, Nat.reduceBEq, Int.reduceLE, Int.reduceLT, Int.reduceEq, Int.reduceNe, Int.reduceAdd, Int.reduceSub, Int.reduceToNat, Int.reduceNeg, ↓reduceIte, reduceCtorEq, cellsOf, cellA, lay, fillA]
  refine CT_ok (grown_spec l n newA newA_wf most hm hn hl) ?_
  rintro _ _ ⟨t, n', ht, hn', rfl, rfl⟩
  simp only [iaddr_node, pnode, wk3, onStO, bareL, toCl, chunks, wk, emb, unAgg, ares, aresL, ares1, tupled, forall_const, Nat.reduceAdd, Nat.reduceSub, Nat.reduceMul, Nat.reduceLeDiff, Nat.reduceEqDiff, Nat.reduceBEq, Int.reduceLE, Int.reduceLT, Int.reduceEq, Int.reduceNe, Int.reduceAdd, Int.reduceSub, Int.reduceToNat, Int.reduceNeg, ↓reduceIte, reduceCtorEq, cellsOf, cellA, lay, fillA]
  exact ⟨t, n', ht, hn', rfl, rfl⟩
end Go.Proofs.Ytemjlopoffjmpaa.Abs
/-
  A table of functions, to run them by themselves. Written by gentab.py.
-/
namespace Go.Proofs.Ytemjlopoffjmpaa.Abs
open Go
def tabBegun : List (Nat × FD) := [
  (8, ⟨0, 74, [.tmp 0], c8⟩),
  (10, ⟨0, 7, [.tmp 0], c10⟩),
  (14, ⟨1, 18, [.tmp 2], c14⟩),
  (15, ⟨3, 74, [.tmp 6, .tmp 7], c15⟩),
  (17, ⟨3, 54, [.tmp 6, .tmp 7], c17⟩),
  (18, ⟨4, 64, [.tmp 8, .tmp 9], c18⟩),
  (19, ⟨1, 18, [.tmp 2], c19⟩),
  (33, ⟨2, 24, [.tmp 4], c33⟩),
  (40, ⟨1, 7, [.tmp 2], c40⟩),
  (41, ⟨1, 7, [.tmp 2], c41⟩),
  (42, ⟨2, 17, [.cell 4 true 5, .tmp 5], c42⟩),
  (43, ⟨2, 17, [.tmp 4], c43⟩),
  (44, ⟨2, 6, [.tmp 3], c44⟩),
  (46, ⟨2, 53, [.tmp 4, .tmp 5, .tmp 6], c46⟩),
  (47, ⟨3, 30, [.tmp 6, .tmp 7], c47⟩),
  (48, ⟨1, 17, [.tmp 2, .tmp 3], c48⟩),
  (49, ⟨3, 21, [.tmp 6], c49⟩),
  (50, ⟨2, 24, [.tmp 4, .tmp 5], c50⟩),
  (51, ⟨2, 11, [.tmp 4], c51⟩),
  (52, ⟨1, 25, [.tmp 2], c52⟩),
  (56, ⟨2, 18, [.tmp 4, .tmp 5], c56⟩),
  (59, ⟨1, 22, [.tmp 2], c59⟩),
  (62, ⟨2, 6, [.tmp 4], c62⟩),
  (71, ⟨2, 79, [.tmp 4], c71⟩),
  (74, ⟨1, 45, [.tmp 2, .tmp 3], c74⟩),
  (75, ⟨2, 46, [.tmp 4, .tmp 5], c75⟩),
  (81, ⟨2, 17, [.tmp 4], c81⟩),
  (82, ⟨2, 6, [.tmp 3], c82⟩),
  (87, ⟨1, 56, [.tmp 2], c87⟩),
  (88, ⟨1, 15, [.tmp 2], c88⟩)]
theorem tabBegun_ok : ∀ p ∈ tabBegun, FnD Try.prog p.1 p.2.np p.2.nt p.2.res p.2.ac := by
  intro p hp
  simp only [tabBegun, List.mem_cons, List.not_mem_nil, or_false] at hp
  rcases hp with rfl | rfl | rfl | rfl | rfl | rfl | rfl | rfl | rfl | rfl | rfl | rfl | rfl | rfl | rfl | rfl | rfl | rfl | rfl | rfl | rfl | rfl | rfl | rfl | rfl | rfl | rfl | rfl | rfl | rfl
  · exact d8
  · exact d10
  · exact d14
  · exact d15
  · exact d17
  · exact d18
  · exact d19
  · exact d33
  · exact d40
  · exact d41
  · exact d42
  · exact d43
  · exact d44
  · exact d46
  · exact d47
  · exact d48
  · exact d49
  · exact d50
  · exact d51
  · exact d52
  · exact d56
  · exact d59
  · exact d62
  · exact d71
  · exact d74
  · exact d75
  · exact d81
  · exact d82
  · exact d87
  · exact d88
end Go.Proofs.Ytemjlopoffjmpaa.Abs
set_option linter.unusedSimpArgs false
set_option linter.unusedVariables false
namespace Go.Proofs.Ytemjlopoffjmpaa.Abs
open Go Go.Proofs

/-- slices.Clone of what is empty: an object without elements. -/
theorem clone_emp0 : C Try.prog 40 [.emp] [] (fun x H' => x = .own 0 5 0 0 0 ∧ H' = [some []]) := by
  refine C_body' d40 rfl (WT_ok ?_)
  unfold c40
  simp only [wk3, onStO, bareL, toCl, chunks, wk, iaddrV_map, emb, unAgg, ares, aresL, ares1, tupled, forall_const, Nat.reduceAdd, Nat.reduceSub, Nat.reduceMul, Nat.reduceLeDiff, Nat.reduceEqDiff, Nat.reduceBEq, Int.reduceLE, Int.reduceLT, Int.reduceEq, Int.reduceNe, Int.reduceAdd, Int.reduceSub, Int.reduceToNat, Int.reduceNeg, ↓reduceIte, reduceCtorEq, cellsOf, cellA, lay, fillA]
  intro b
  cases b
  · simp only [wk3, onStO, bareL, toCl, chunks, wk, iaddrV_map, emb, unAgg, ares, aresL, ares1, tupled, forall_const, Nat.reduceAdd, Nat.reduceSub, Nat.reduceMul, Nat.reduceLeDiff, Nat.reduceEqDiff, Nat.reduceBEq, Int.reduceLE, Int.reduceLT, Int.reduceEq, Int.reduceNe, Int.reduceAdd, Int.reduceSub, Int.reduceToNat, Int.reduceNeg, ↓reduceIte, reduceCtorEq, cellsOf, cellA, lay, fillA]
    exact ⟨_, _, Wk.refl _ _ _, rfl, rfl⟩
  · simp only [wk3, onStO, bareL, toCl, chunks, wk, iaddrV_map, emb, unAgg, ares, aresL, ares1, tupled, forall_const, Nat.reduceAdd, Nat.reduceSub, Nat.reduceMul, Nat.reduceLeDiff, Nat.reduceEqDiff, Nat.reduceBEq, Int.reduceLE, Int.reduceLT, Int.reduceEq, Int.reduceNe, Int.reduceAdd, Int.reduceSub, Int.reduceToNat, Int.reduceNeg, ↓reduceIte, reduceCtorEq, cellsOf, cellA, lay, fillA]
    exact ⟨_, _, Wk_emp 5, rfl, rfl⟩
theorem clone2_emp0 : C Try.prog 41 [.emp] [] (fun x H' => x = .own 0 5 0 0 0 ∧ H' = [some []]) := by
  refine C_body' d41 rfl (WT_ok ?_)
  unfold c41
  simp only [wk3, onStO, bareL, toCl, chunks, wk, iaddrV_map, emb, unAgg, ares, aresL, ares1, tupled, forall_const, Nat.reduceAdd, Nat.reduceSub, Nat.reduceMul, Nat.reduceLeDiff, Nat.reduceEqDiff, Nat.reduceBEq, Int.reduceLE, Int.reduceLT, Int.reduceEq, Int.reduceNe, Int.reduceAdd, Int.reduceSub, Int.reduceToNat, Int.reduceNeg, ↓reduceIte, reduceCtorEq, cellsOf, cellA, lay, fillA]
  intro b
  cases b
  · simp only [wk3, onStO, bareL, toCl, chunks, wk, iaddrV_map, emb, unAgg, ares, aresL, ares1, tupled, forall_const, Nat.reduceAdd, Nat.reduceSub, Nat.reduceMul, Nat.reduceLeDiff, Nat.reduceEqDiff, Nat.reduceBEq, Int.reduceLE, Int.reduceLT, Int.reduceEq, Int.reduceNe, Int.reduceAdd, Int.reduceSub, Int.reduceToNat, Int.reduceNeg, ↓reduceIte, reduceCtorEq, cellsOf, cellA, lay, fillA]
    exact ⟨_, _, Wk.refl _ _ _, rfl, rfl⟩
  · simp only [wk3, onStO, bareL, toCl, chunks, wk, iaddrV_map, emb, unAgg, ares, aresL, ares1, tupled, forall_const, Nat.reduceAdd, Nat.reduceSub, Nat.reduceMul, Nat.reduceLeDiff, Nat.reduceEqDiff, Nat.reduceBEq, Int.reduceLE, Int.reduceLT, Int.reduceEq, Int.reduceNe, Int.reduceAdd, Int.reduceSub, Int.reduceToNat, Int.reduceNeg, ↓reduceIte, reduceCtorEq, cellsOf, cellA, lay, fillA]
    exact ⟨_, _, Wk_emp 5, rfl, rfl⟩
theorem clone_emp (H : AH) : C Try.prog 40 [.emp] H (fun x H' => x = .own H.length 5 0 0 0 ∧ H' = H ++ [some []]) :=
  C_call [] List.nodup_nil (fun r hr => by cases hr) clone_emp0 (by rintro _ _ ⟨rfl, rfl⟩; exact ⟨Nat.zero_le _, by simp [ren, toCaller, back, setAll, renO]⟩)
theorem clone2_emp (H : AH) : C Try.prog 41 [.emp] H (fun x H' => x = .own H.length 5 0 0 0 ∧ H' = H ++ [some []]) :=
  C_call [] List.nodup_nil (fun r hr => by cases hr) clone2_emp0 (by rintro _ _ ⟨rfl, rfl⟩; exact ⟨Nat.zero_le _, by simp [ren, toCaller, back, setAll, renO]⟩)

/-- What is known of functions beside their text. -/
def orcC : CallF := fun f args H =>
  if f = 40 ∨ f = 41 then
    match args with
    | [.emp] => some (.own H.length 5 0 0 0, H ++ [some []])
    | _ => none
  else none
theorem orcC_ok : EvOk Try.prog orcC := by
  intro f args H x H' h
  unfold orcC at h
  split at h
  · rename_i hf
    split at h
    · cases h
      rcases hf with rfl | rfl
      · exact clone_emp H
      · exact clone2_emp H
    · cases h
  · cases h
end Go.Proofs.Ytemjlopoffjmpaa.Abs
set_option linter.unusedSimpArgs false
set_option linter.unusedVariables false
namespace Go.Proofs.Ytemjlopoffjmpaa.Abs
open Go

def orcL : CallF := fun f args H =>
  if f = 39 then
    match args with
    | [.str b] => some (.int .i64 (countA b), H)
    | _ => none
  else orcC f args H
theorem orcL_ok : EvOk Try.prog orcL := by
  intro f args H x H' h
  unfold orcL at h
  split at h
  · rename_i hf
    subst hf
    split at h
    · cases h
      exact parts_spec _ H
    · cases h
  · exact orcC_ok f args H x H' h
def fzB (f : Nat) : Bool := f == 10 || f == 49 || f == 41 || f == 15 || f == 74 || f == 71
theorem evB_ok : EvOk Try.prog (evF tabBegun orcL fzB 40 40) := evF_ok tabBegun_ok orcL_ok fzB 40 40

/-- Parts of "new". -/
def mNew : Memo := ⟨74, [.str [110, 101, 119]], .tuple [.fz [[.str [110, 101, 119]]], .bool true]⟩
theorem mNew_so : mNew.so Try.prog := Memo.of evB_ok mNew (by kernel_rfl)
/-- begun of law 19 -/
def mBegun : Memo := ⟨8, [], .bool true⟩
theorem mBegun_so : mBegun.so Try.prog := Memo.of evB_ok mBegun (by kernel_rfl)
end Go.Proofs.Ytemjlopoffjmpaa.Abs
set_option linter.unusedSimpArgs false
set_option linter.unusedVariables false
namespace Go.Proofs.Ytemjlopoffjmpaa.Abs
open Go Go.Proofs

/-- All objects are forgotten. -/
theorem Wk_none {fr fr' : List AV} {H : AH} (h : Tops fr' (renL (upTo 0) fr)) : Wk 0 fr H fr' [] := by
  have h1 := (Wk_forget (n0 := 0) (fr := fr) (H := H) 0 (Nat.le_refl _)).trans (Wk_tops h)
  simpa [mapH] using h1
theorem used_take (s : List Node) (i : Nat) (h : i < s.length) : used (s.take (i + 1)) = used (s.take i) + countA (s.getD i default).body := usedA_take countA s i h
theorem used_ge (s : List Node) (i : Nat) : used (s.take i) ≤ used s := by
  have e : used s = used (s.take i) + used (s.drop i) := by
    show (s.map fun x => countA x.body).sum = ((s.take i).map fun x => countA x.body).sum + ((s.drop i).map fun x => countA x.body).sum
    rw [← List.sum_append, ← List.map_append, List.take_append_drop]
  omega
theorem Wf.used28 {s : List Node} (h : Wf s) : used s ≤ 28 := by
  have hlen := h.len
  obtain ⟨y, r, rfl⟩ : ∃ y r, s = y :: r := by
    cases s with
    | nil => simp at hlen
    | cons y r => exact ⟨y, r, rfl⟩
  have h0 : y.body = [] := by
    have := h.top
    rw [List.getD_cons_zero] at this
    rw [this]
  have h1 := usedA_le countA countA_le r
  have e : used (y :: r) = countA y.body + usedA countA r := rfl
  rw [e, h0, countA_nil]
  simp only [List.length_cons] at hlen
  omega

theorem acctStats_spec (l : List UInt8) : C Try.prog 5 [.fz (l.map pbyte)] [] (fun x _ => x = .bool true) := by
  refine C_body d5 rfl (WT_ok ?_)
  unfold c5
  simp only [iaddr_node, pnode, wk3, onStO, bareL, toCl, chunks, wk, emb, unAgg, ares, aresL, ares1, tupled, forall_const, Nat.reduceAdd, Nat.reduceSub, Nat.reduceMul, Nat.reduceLeDiff, Nat.reduceEqDiff, Nat.reduceBEq, Int.reduceLE, Int.reduceLT, Int.reduceEq, Int.reduceNe, Int.reduceAdd, Int.reduceSub, Int.reduceToNat, Int.reduceNeg, ↓reduceIte, reduceCtorEq, cellsOf, cellA, lay, fillA]
  refine CT_ok (Memo.any mBegun_so []) ?_
  rintro _ _ ⟨rfl, rfl⟩
  simp only [mBegun, iaddr_node, pnode, wk3, onStO, bareL, toCl, chunks, wk, emb, unAgg, ares, aresL, ares1, tupled, forall_const, Nat.reduceAdd, Nat.reduceSub, Nat.reduceMul, Nat.reduceLeDiff, Nat.reduceEqDiff, Nat.reduceBEq, Int.reduceLE, Int.reduceLT, Int.reduceEq, Int.reduceNe, Int.reduceAdd, Int.reduceSub, Int.reduceToNat, Int.reduceNeg, ↓reduceIte, reduceCtorEq, cellsOf, cellA, lay, fillA]
  by_cases h1 : (60 : Int) < l.length
  · simp only [h1, iaddr_node, pnode, wk3, onStO, bareL, toCl, chunks, wk, emb, unAgg, ares, aresL, ares1, tupled, forall_const, Nat.reduceAdd, Nat.reduceSub, Nat.reduceMul, Nat.reduceLeDiff, Nat.reduceEqDiff, Nat.reduceBEq, Int.reduceLE, Int.reduceLT, Int.reduceEq, Int.reduceNe, Int.reduceAdd, Int.reduceSub, Int.reduceToNat, Int.reduceNeg, ↓reduceIte, reduceCtorEq, cellsOf, cellA, lay, fillA]
  simp only [h1, iaddr_node, pnode, wk3, onStO, bareL, toCl, chunks, wk, emb, unAgg, ares, aresL, ares1, tupled, forall_const, Nat.reduceAdd, Nat.reduceSub, Nat.reduceMul, Nat.reduceLeDiff, Nat.reduceEqDiff, Nat.reduceBEq, Int.reduceLE, Int.reduceLT, Int.reduceEq, Int.reduceNe, Int.reduceAdd, Int.reduceSub, Int.reduceToNat, Int.reduceNeg, ↓reduceIte, reduceCtorEq, cellsOf, cellA, lay, fillA]
  refine CT_ok (made_spec l) ?_
  rintro _ _ ⟨rfl, rfl⟩
  simp only [iaddr_node, pnode, wk3, onStO, bareL, toCl, chunks, wk, emb, unAgg, ares, aresL, ares1, tupled, forall_const, Nat.reduceAdd, Nat.reduceSub, Nat.reduceMul, Nat.reduceLeDiff, Nat.reduceEqDiff, Nat.reduceBEq, Int.reduceLE, Int.reduceLT, Int.reduceEq, Int.reduceNe, Int.reduceAdd, Int.reduceSub, Int.reduceToNat, Int.reduceNeg, ↓reduceIte, reduceCtorEq, cellsOf, cellA, lay, fillA]
  refine CT_ok (set_spec l 0 25 (by omega) (by omega) (by omega)) ?_
  rintro _ _ ⟨s, n', hw, _, rfl, rfl⟩
  have hlen := hw.len
  have hu28 := hw.used28
  simp only [aset, iaddr_node, pnode, wk3, onStO, bareL, toCl, chunks, wk, emb, unAgg, ares, aresL, ares1, tupled, forall_const, Nat.reduceAdd, Nat.reduceSub, Nat.reduceMul, Nat.reduceLeDiff, Nat.reduceEqDiff, Nat.reduceBEq, Int.reduceLE, Int.reduceLT, Int.reduceEq, Int.reduceNe, Int.reduceAdd, Int.reduceSub, Int.reduceToNat, Int.reduceNeg, ↓reduceIte, reduceCtorEq, cellsOf, cellA, lay, fillA]
  refine WT_loop (W_wk (fr' := [.fz (l.map pbyte), .top, .bool false, .fz (s.map pnode), .int .i64 0, .int .i64 0] ++ List.replicate 61 .top) (Wk_none ?_) (W_loop (fun nn fr H' => ∃ i : Nat, i ≤ 8 ∧ nn = 8 - i ∧ H' = [] ∧
    fr = [.fz (l.map pbyte), .top, .bool false, .fz (s.map pnode), .int .i64 (used (s.take i)), .int .i64 i] ++ List.replicate 61 .top) 8 ⟨0, by omega, rfl, rfl, rfl⟩ ?_))
  · simp only [renL, ren, List.replicate_succ, List.replicate_zero, List.cons_append, List.nil_append, Tops_top, Tops_same, Tops_nil]
  rintro nn fr H' ⟨i, hi, rfl, rfl, rfl⟩
  refine WT_ok ?_
  simp only [hlen, iaddr_node, pnode, wk3, onStO, bareL, toCl, chunks, wk, emb, unAgg, ares, aresL, ares1, tupled, forall_const, Nat.reduceAdd, Nat.reduceSub, Nat.reduceMul, Nat.reduceLeDiff, Nat.reduceEqDiff, Nat.reduceBEq, Int.reduceLE, Int.reduceLT, Int.reduceEq, Int.reduceNe, Int.reduceAdd, Int.reduceSub, Int.reduceToNat, Int.reduceNeg, ↓reduceIte, reduceCtorEq, cellsOf, cellA, lay, fillA]
  refine guard_both ?_ ?_ <;> intro hh <;> simp only [hy] at hh
  · have w2 : IntKind.i64.wrap ((i : Int) + 1) = (i : Int) + 1 := IntWalk.i64_in _ (by omega)
    have hi8 : i < 8 := by omega
    have ht := used_take s i (by omega)
    have hg := used_ge s (i + 1)
    simp only [hh, iaddr_node, pnode, wk3, onStO, bareL, toCl, chunks, wk, emb, unAgg, ares, aresL, ares1, tupled, forall_const, Nat.reduceAdd, Nat.reduceSub, Nat.reduceMul, Nat.reduceLeDiff, Nat.reduceEqDiff, Nat.reduceBEq, Int.reduceLE, Int.reduceLT, Int.reduceEq, Int.reduceNe, Int.reduceAdd, Int.reduceSub, Int.reduceToNat, Int.reduceNeg, ↓reduceIte, reduceCtorEq, cellsOf, cellA, lay, fillA]
    refine CT_ok (way_spec s hw i hi8 _) ?_
    rintro _ _ ⟨⟨hk0, rfl⟩ | ⟨hk, ns, hR, hN, hl7, rfl⟩, rfl⟩
    · simp only [w2, iaddr_node, pnode, wk3, onStO, bareL, toCl, chunks, wk, emb, unAgg, ares, aresL, ares1, tupled, forall_const, Nat.reduceAdd, Nat.reduceSub, Nat.reduceMul, Nat.reduceLeDiff, Nat.reduceEqDiff, Nat.reduceBEq, Int.reduceLE, Int.reduceLT, Int.reduceEq, Int.reduceNe, Int.reduceAdd, Int.reduceSub, Int.reduceToNat, Int.reduceNeg, ↓reduceIte, reduceCtorEq, cellsOf, cellA, lay, fillA]
      refine QLoop_go (n' := 8 - (i + 1)) (by omega) ⟨i + 1, by omega, rfl, rfl, rfl⟩ ?_
      have e : used (s.take (i + 1)) = used (s.take i) := by rw [ht, hw.emptyD i (by omega) (by omega), countA_nil]; omega
      simp only [e, List.replicate_succ, List.replicate_zero, List.cons_append, List.nil_append, Tops_top, Tops_same, Tops_nil, Int.natCast_add, Int.natCast_one]
    · simp only [iaddr_node, pnode, wk3, onStO, bareL, toCl, chunks, wk, emb, unAgg, ares, aresL, ares1, tupled, forall_const, Nat.reduceAdd, Nat.reduceSub, Nat.reduceMul, Nat.reduceLeDiff, Nat.reduceEqDiff, Nat.reduceBEq, Int.reduceLE, Int.reduceLT, Int.reduceEq, Int.reduceNe, Int.reduceAdd, Int.reduceSub, Int.reduceToNat, Int.reduceNeg, ↓reduceIte, reduceCtorEq, cellsOf, cellA, lay, fillA]
      refine CT_ok (stat_spec hN hl7 hw hR hi8 _) ?_
      rintro _ _ ⟨rfl, rfl⟩
      have wc : IntKind.i64.wrap ((used (s.take i) : Int) + countA (s.getD i default).body) = (used (s.take (i + 1)) : Int) := by rw [IntWalk.i64_in _ (by omega)]; omega
      by_cases h2 : (s.getD i default).kind = 2
      · have h0 : countA (s.getD i default).body = 0 := by rw [hw.emptyD i (by omega) (by omega)]; rfl
        have h0' : ¬ (0 : Int) < (countA (s.getD i default).body : Int) := by omega
        simp only [h2, h0', w2, wc, lay, iaddr_node, pnode, wk3, onStO, bareL, toCl, chunks, wk, emb, unAgg, ares, aresL, ares1, tupled, forall_const, Nat.reduceAdd, Nat.reduceSub, Nat.reduceMul, Nat.reduceLeDiff, Nat.reduceEqDiff, Nat.reduceBEq, Int.reduceLE, Int.reduceLT, Int.reduceEq, Int.reduceNe, Int.reduceAdd, Int.reduceSub, Int.reduceToNat, Int.reduceNeg, ↓reduceIte, reduceCtorEq, cellsOf, cellA, lay, fillA]
        refine QLoop_wk (n' := 8 - (i + 1)) (by omega) ⟨i + 1, by omega, rfl, rfl, rfl⟩ (Wk_none ?_)
        simp only [renL, ren, List.replicate_succ, List.replicate_zero, List.cons_append, List.nil_append, Tops_top, Tops_same, Tops_nil, Int.natCast_add, Int.natCast_one]
      · simp only [h2, w2, wc, lay, iaddr_node, pnode, wk3, onStO, bareL, toCl, chunks, wk, emb, unAgg, ares, aresL, ares1, tupled, forall_const, Nat.reduceAdd, Nat.reduceSub, Nat.reduceMul, Nat.reduceLeDiff, Nat.reduceEqDiff, Nat.reduceBEq, Int.reduceLE, Int.reduceLT, Int.reduceEq, Int.reduceNe, Int.reduceAdd, Int.reduceSub, Int.reduceToNat, Int.reduceNeg, ↓reduceIte, reduceCtorEq, cellsOf, cellA, lay, fillA]
        refine QLoop_wk (n' := 8 - (i + 1)) (by omega) ⟨i + 1, by omega, rfl, rfl, rfl⟩ (Wk_none ?_)
        simp only [renL, ren, List.replicate_succ, List.replicate_zero, List.cons_append, List.nil_append, Tops_top, Tops_same, Tops_nil, Int.natCast_add, Int.natCast_one]
  · have : i = 8 := by omega
    subst this
    simp only [hh, iaddr_node, pnode, wk3, onStO, bareL, toCl, chunks, wk, emb, unAgg, ares, aresL, ares1, tupled, forall_const, Nat.reduceAdd, Nat.reduceSub, Nat.reduceMul, Nat.reduceLeDiff, Nat.reduceEqDiff, Nat.reduceBEq, Int.reduceLE, Int.reduceLT, Int.reduceEq, Int.reduceNe, Int.reduceAdd, Int.reduceSub, Int.reduceToNat, Int.reduceNeg, ↓reduceIte, reduceCtorEq, cellsOf, cellA, lay, fillA]
    refine CT_ok (Used_spec s (by omega) _) ?_
    rintro _ _ ⟨rfl, rfl⟩
    have e : used (s.take 8) = used s := by rw [List.take_of_length_le (by omega)]
    have h28 : ((used s : Nat) : Int) ≤ 28 := by omega
    simp only [e, h28, iaddr_node, pnode, wk3, onStO, bareL, toCl, chunks, wk, emb, unAgg, ares, aresL, ares1, tupled, forall_const, Nat.reduceAdd, Nat.reduceSub, Nat.reduceMul, Nat.reduceLeDiff, Nat.reduceEqDiff, Nat.reduceBEq, Int.reduceLE, Int.reduceLT, Int.reduceEq, Int.reduceNe, Int.reduceAdd, Int.reduceSub, Int.reduceToNat, Int.reduceNeg, ↓reduceIte, reduceCtorEq, cellsOf, cellA, lay, fillA]
    refine CT_ok (new_spec _) ?_
    rintro _ _ ⟨rfl, rfl⟩
    simp only [iaddr_node, pnode, wk3, onStO, bareL, toCl, chunks, wk, emb, unAgg, ares, aresL, ares1, tupled, forall_const, Nat.reduceAdd, Nat.reduceSub, Nat.reduceMul, Nat.reduceLeDiff, Nat.reduceEqDiff, Nat.reduceBEq, Int.reduceLE, Int.reduceLT, Int.reduceEq, Int.reduceNe, Int.reduceAdd, Int.reduceSub, Int.reduceToNat, Int.reduceNeg, ↓reduceIte, reduceCtorEq, cellsOf, cellA, lay, fillA]
    refine CT_ok (Used_spec newA (by decide) _) ?_
    rintro _ _ ⟨rfl, rfl⟩
    have e0 : ((used newA : Nat) : Int) = 0 := by decide
    simp only [e0, iaddr_node, pnode, wk3, onStO, bareL, toCl, chunks, wk, emb, unAgg, ares, aresL, ares1, tupled, forall_const, Nat.reduceAdd, Nat.reduceSub, Nat.reduceMul, Nat.reduceLeDiff, Nat.reduceEqDiff, Nat.reduceBEq, Int.reduceLE, Int.reduceLT, Int.reduceEq, Int.reduceNe, Int.reduceAdd, Int.reduceSub, Int.reduceToNat, Int.reduceNeg, ↓reduceIte, reduceCtorEq, cellsOf, cellA, lay, fillA]
end Go.Proofs.Ytemjlopoffjmpaa.Abs
set_option linter.unusedSimpArgs false
set_option linter.unusedVariables false
namespace Go.Proofs.Ytemjlopoffjmpaa.Abs
open Go Go.Proofs

/-- A row of bytes that came in. -/
theorem rep_row {w : World} {a : Option Addr} {len cap : Nat} {zs : List Int}
    (h : (a = none ∧ len = 0 ∧ cap = 0 ∧ zs = []) ∨ ∃ x, a = some x ∧ len ≤ cap ∧ cap ≤ maxLen ∧ zs.length = cap ∧ (∀ i, i < zs.length → w.cell? (x.add i) = some (.int .u8 (zs.getD i 0))) ∧ ∀ n ∈ zs, (Lit.int .u8 n).wf = true) :
    ∃ l : List UInt8, Rep (E0 w) (.fz (l.map pbyte)) (.slice a len cap) := by
  rcases h with ⟨rfl, rfl, rfl, rfl⟩ | ⟨x, rfl, hl, hm, hz, hcell, hwf⟩
  · exact ⟨[], .pure (x := .fz []) (.fz0 _ _)⟩
  · by_cases h0 : len = 0
    · subst h0
      exact ⟨[], .pure (x := .fz []) (.fz0 _ _)⟩
    · have hc0 := hcell 0 (by omega)
      obtain ⟨b, off, spot⟩ := x
      simp only [Addr.add, if_true, World.cell?] at hc0
      cases hb : w.heap[b]? with
      | none => rw [hb] at hc0; cases hc0
      | some o =>
        rw [hb] at hc0
        cases o with
        | cells c t q =>
          simp only at hc0
          split at hc0
          · cases hc0
          · rename_i hsp
            have hsp2 : spot = none := by cases spot with
              | none => rfl
              | some _ => simp at hsp
            subst hsp2
            have hci : ∀ i, i < zs.length → c[off + i]? = some (.int .u8 (zs.getD i 0)) := by
              intro i hi
              have := hcell i hi
              unfold Addr.add at this
              split at this
              · rename_i e; subst e; simpa [World.cell?, hb] using this
              · simpa [World.cell?, hb] using this
            refine ⟨(zs.take len).map fun n => UInt8.ofNat n.toNat, ?_⟩
            have hlen : (((zs.take len).map fun n => UInt8.ofNat n.toNat).map pbyte).length = len := by simp; omega
            have key := RepP.fz (F := (E0 w).F) (((zs.take len).map fun n => UInt8.ofNat n.toNat).map pbyte) b off cap 1 c t q hb (by rw [hlen]; exact hl) (by
              intro e he
              obtain ⟨y, _, rfl⟩ := List.mem_map.1 he
              rfl) (by
              rw [hlen]
              have h1 := hci (len - 1) (by omega)
              have : off + (len - 1) < c.size := by
                apply Classical.byContradiction
                intro h
                rw [Array.getElem?_eq_none (by omega)] at h1
                cases h1
              omega) (by
              intro i e k cc v he hk hv
              rw [List.map_map, List.getElem?_map] at he
              have hi : i < (zs.take len).length := by
                apply Classical.byContradiction
                intro h
                rw [List.getElem?_eq_none (by omega)] at he
                cases he
              rw [List.getElem?_eq_getElem hi] at he
              simp only [Option.map_some, Option.some.injEq, Function.comp] at he
              subst he
              have hk0 : k = 0 := by
                apply Classical.byContradiction
                intro h
                rw [List.getElem?_eq_none (by simp [pbyte]; omega)] at hk
                cases hk
              subst hk0
              simp only [pbyte, List.getElem?_cons_zero, Option.some.injEq] at hk
              subst hk
              rw [List.length_take] at hi
              rw [Nat.mul_one, Nat.add_zero, hci i (by omega)] at hv
              cases hv
              have hg : zs.getD i 0 = (zs.take len)[i]'(by rw [List.length_take]; exact hi) := by
                rw [List.getElem_take, List.getD_eq_getElem?_getD, List.getElem?_eq_getElem (by omega), Option.getD_some]
              rw [hg]
              have hw := hwf ((zs.take len)[i]'(by rw [List.length_take]; exact hi)) (List.mem_of_mem_take (List.getElem_mem _))
              generalize (zs.take len)[i]'(by rw [List.length_take]; exact hi) = n at hw
              have hn : 0 ≤ n ∧ n < 256 := by
                have := hw; simp [Lit.wf, IntKind.min, IntKind.max, IntKind.bits, IntKind.signed] at this; omega
              have : ((UInt8.ofNat n.toNat).toNat : Int) = n := by
                rw [UInt8.toNat_ofNat']
                omega
              rw [this]
              exact .int _ _)
            rw [hlen] at key
            exact .pure (x := .fz _) key
        | _ => simp at hc0
theorem repL_one {E : Env} {x : AV} {v : Value} (h : Rep E x v) : RepL E [x] #[v] := by
  refine ⟨rfl, fun i c u hc hu => ?_⟩
  match i, hc, hu with
  | 0, hc, hu => simp at hc hu; subst hc; subst hu; exact h
  | i + 1, hc, _ => simp at hc
theorem repL_two {E : Env} {x y : AV} {v u : Value} (h : Rep E x v) (h' : Rep E y u) : RepL E [x, y] #[v, u] := (repL_one h).append (repL_one h')
end Go.Proofs.Ytemjlopoffjmpaa.Abs
