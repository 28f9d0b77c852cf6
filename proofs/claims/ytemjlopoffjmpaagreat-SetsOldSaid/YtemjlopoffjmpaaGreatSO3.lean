/-
  Part 3 of the proof: no condition. (Parts of the abstract layer, of the program's functions in its form, and of their contracts.)
-/
import Derived.Test.YtemjlopoffjmpaaGreatSOWk
import Derived.Test.YtemjlopoffjmpaaGreatSOWk3
import Derived.Test.YtemjlopoffjmpaaGreatSO2
import Derived.Test.YtemjlopoffjmpaaGreatSO1
import Derived.Test.YtemjlopoffjmpaaGreatSOAbs39
import Derived.Test.YtemjlopoffjmpaaGreatSOAbs41
import Derived.Test.YtemjlopoffjmpaaGreatSOAbs22
import Derived.Test.YtemjlopoffjmpaaGreatProg
import Derived.KernelRfl
import Derived.Test.YtemjlopoffjmpaaGreatSOAbs35
import Derived.Test.YtemjlopoffjmpaaGreatSOAbs37
import Derived.Test.YtemjlopoffjmpaaGreatSOAbs38
import Derived.ProofKit
set_option linter.unusedSimpArgs false
set_option linter.unusedVariables false
namespace Go.Proofs.YtemjlopoffjmpaaGreat.Abs
open Go Go.Proofs
def StepAt (l : List UInt8) (n : Int) (R : AH) (x : AV) (H' : AH) : Prop := ∃ (k i m n' : Int) (p q t : List UInt8), p.length ≤ 1000000 ∧ q.length ≤ 1000000 ∧ t.length ≤ 1000000 ∧ (n ≤ n' ∧ 1 ≤ k ∧ (k ≤ 5 ∨ 9 ≤ k) ∧ k ≤ 14) ∧ x = editA k i m p q t ∧ H' = some [[.fz (l.map pbyte), .int .i64 n']] :: R
theorem set_at45 (l : List UInt8) (n i : Int) (hn : 0 ≤ n) (hl : l.length ≤ 1000000) (R : AH) :
 C Tryz.prog 45 [.ptr 0 0 0 1, .int .i64 i] (some [[.fz (l.map pbyte), .int .i64 n]] :: R) (StepAt l n R) := by
 refine C_call (K0 := StepR l n) [0] (by simp) (by simp) ?_ ?_
 ·exact set45 l n i hn hl
 ·rintro _ _ ⟨k, i', m, n', p, q, t, h1, h2, h3, h4, rfl, rfl⟩
  exact ⟨Nat.le_refl _, k, i', m, n', p, q, t, h1, h2, h3, h4, by simp [editA, ren, renL], by simp [back, setAll, picksH, renO, renL, ren]⟩
theorem edit_at (l : List UInt8) (n i : Int) (hn : 0 ≤ n) (hl : l.length ≤ 1000000) (R : AH) :
 C Tryz.prog 46 [.ptr 0 0 0 1, .int .i64 i] (some [[.fz (l.map pbyte), .int .i64 n]] :: R) (StepAt l n R) := by
 refine C_call (K0 := EditR l n) [0] (by simp) (by simp) ?_ ?_
 ·exact edit_spec l n i hn hl
 ·rintro _ _ ⟨k, i', m, n', p, q, t, h1, h2, h3, h4, rfl, rfl⟩
  exact ⟨Nat.le_refl _, k, i', m, n', p, q, t, h1, h2, h3, by omega, by simp [editA, ren, renL], by simp [back, setAll, picksH, renO, renL, ren]⟩
theorem over_at (l : List UInt8) (n : Int) (R : AH) :
 C Tryz.prog 43 [.ptr 0 0 0 1] (some [[.fz (l.map pbyte), .int .i64 n]] :: R) (fun x H' => x = .bool (decide ((l.map pbyte).length ≤ n)) ∧ H' = some [[.fz (l.map pbyte), .int .i64 n]] :: R) := by
 refine C_call (K0 := fun x H' => x = .bool (decide ((l.map pbyte).length ≤ n)) ∧ H' = [some [[.fz (l.map pbyte), .int .i64 n]]]) [0] (by simp) (by simp) ?_ ?_
 ·exact over_spec (l.map pbyte) n
 ·rintro _ _ ⟨rfl, rfl⟩
  exact ⟨Nat.le_refl _, by simp [ren], by simp [back, setAll, renO, renL, ren]⟩
theorem Wk_three {fr fr' : List AV} {o o' : AObj} {G : AH} (ho : o.map (renL (upTo 3)) = o) (ho' : o'.map (renL (upTo 3)) = o') (h : Tops fr' (renL (upTo 3) fr)) : Wk 1 fr (some o :: none :: some o' :: G) fr' [some o, none, some o'] := by
 have h1 := (Wk_forget (n0 := 1) (fr := fr) (H := some o :: none :: some o' :: G) 3 (by omega)).trans (Wk_tops h)
 have e : mapH (renL (upTo 3)) ((some o :: none :: some o' :: G).take 3) = [some o, none, some o'] := by
  simp only [List.take_succ_cons, List.take_zero, mapH, List.map_cons, List.map_nil, Option.map_some, Option.map_none, ho, ho']
 rwa [e] at h1
theorem renO_pool (τ : Nat → Option Nat) (nx : Int) (l : List Dset) : List.map (renL τ) [poolC nx (asets l)] = [poolC nx (asets l)] := by simp [poolC, asets, renL, ren]
theorem renO_picks (τ : Nat → Option Nat) (l : List UInt8) (n : Int) : List.map (renL τ) [[AV.fz (l.map pbyte), .int .i64 n]] = [[AV.fz (l.map pbyte), .int .i64 n]] := by simp [renL, ren]
def firstD : Dset := ⟨1, 1, 0, 0, newA⟩
theorem firstD_may : MayL [firstD] := by
 refine ⟨by decide, by simp, fun d hd => ?_, fun i => i.toNat, fun d hd o ho e => ?_⟩
 ·rw [List.mem_singleton] at hd
  subst hd
  exact ⟨⟨by decide, by decide⟩, ⟨by decide, by decide⟩, newA_wf, .inl rfl, fun e => absurd e (by decide), fun _ => .inl rfl⟩
 ·rw [List.mem_singleton] at hd ho
  subst hd; subst ho
  exact absurd e (by decide)
def SetsR (l : List UInt8) (n : Int) (x : AV) (H' : AH) : Prop := ∃ L n', MayL L ∧ L ≠ [] ∧ (n ≤ n' ∧ ∀ d ∈ L, d.id < 900) ∧ x = asets L ∧ H' = picksH l n'
theorem KWk_list {l : List UInt8} {n n' : Int} {L : List Dset} {R : AH} (h : MayL L) (hne : L ≠ []) (hn : n ≤ n' ∧ ∀ d ∈ L, d.id < 900) : KWk 1 (SetsR l n) (asets L) (some [[.fz (l.map pbyte), .int .i64 n']] :: R) := by
 refine ⟨_, _, ?_, L, n', h, hne, hn, rfl, rfl⟩
 have h := Wk_forget (n0 := 1) (fr := [asets L]) (H := some [[.fz (l.map pbyte), .int .i64 n']] :: R) 1 (Nat.le_refl _)
 simpa [mapH, renL, ren, asets, picksH] using h
theorem Wk_first {fr fr' : List AV} (l : List UInt8) (n : Int) (h : Tops fr' (renL (upTo 3) (frzL 1 [pdset firstD] fr))) :
 Wk 1 fr [some [[.fz (l.map pbyte), .int .i64 n]], some [cellD firstD], some [poolC 2 (.own 1 5 0 1 1)]] fr' [some [[.fz (l.map pbyte), .int .i64 n]], none, some [poolC 2 (asets [firstD])]] := by
 have h1 := Wk_freeze (n0 := 1) (fr := fr) (H := [some [[.fz (l.map pbyte), .int .i64 n]], some [cellD firstD], some [poolC 2 (.own 1 5 0 1 1)]]) 1 [pdset firstD] rfl
 have e : mapH (frzL 1 [pdset firstD]) (List.set [some [[AV.fz (l.map pbyte), .int .i64 n]], some [cellD firstD], some [poolC 2 (.own 1 5 0 1 1)]] 1 none) = [some [[.fz (l.map pbyte), .int .i64 n]], none, some [poolC 2 (asets [firstD])]] := by
  simp [mapH, frzL, frz, poolC, asets]
 rw [e] at h1
 exact h1.trans (Wk_three (renO_picks _ l n) (renO_pool _ _ _) h)
set_option maxRecDepth 8000 in
set_option maxHeartbeats 4000000 in
theorem sets14 (l : List UInt8) (n : Int) (most : Nat) (hm : most ≤ 100) (hn : 0 ≤ n) (hl : l.length ≤ 1000000) :
 C Tryz.prog 14 [.ptr 0 0 0 1, .int .i64 most] (picksH l n) (SetsR l n) := by
 refine C_body' d14 rfl (WT_ok ?_)
 delta c14 I0 I1 I2 I3 I4 I5 I6 I7 I8 I9 KI
 simp only [picksH, lay, iaddr_node, pnode, wk3, wk, seval]
 refine CT_ok (new_spec _) ?_
 rintro _ _ ⟨rfl, rfl⟩
 simp only [aset, lay, iaddr_node, pnode, wk3, wk, seval]
 refine WT_loop (W_wk (fr' := [.ptr 0 0 0 1, .int .i64 most, .top, .top, .emp, .ptr 2 0 0 1, .int .i64 (0 : Nat)] ++ List.replicate 37 .top) (Wk_first l n ?_) (W_loop (fun nn fr H' => ∃ (j : Nat) (L : List Dset) (nx n' : Int), j ≤ most ∧ nn = most - j ∧ MayL L ∧ L ≠ [] ∧ ((0 ≤ nx ∧ nx ≤ 2 + j) ∧ ∀ d ∈ L, d.id < nx) ∧ n ≤ n' ∧ H' = [some [[.fz (l.map pbyte), .int .i64 n']], none, some [poolC nx (asets L)]] ∧
  fr = [.ptr 0 0 0 1, .int .i64 most, .top, .top, .emp, .ptr 2 0 0 1, .int .i64 j] ++ List.replicate 37 .top) most ⟨0, [firstD], 2, n, by omega, rfl, firstD_may, by simp, ⟨by omega, by simp [firstD]⟩, by omega, rfl, rfl⟩ ?_))
 ·simp only [frzL, frz, renL, ren, upTo, show (0 : Nat) < 3 by omega, show (2 : Nat) < 3 by omega, show ¬ (0 : Nat) = 1 by omega, show ¬ (2 : Nat) = 1 by omega, if_true, if_false, tp, Int.natCast_zero]
 rintro nn fr H ⟨j, L, nx, n', hj, rfl, hL, hne, ⟨hnx, hid⟩, hn', rfl, rfl⟩
 have hid9 : ∀ d ∈ L, d.id < 900 := fun d hd => by have := hid d hd; omega
 refine WT_ok ?_
 simp only [poolC, asets, lay, iaddr_node, pnode, wk3, wk, seval]
 by_cases h : (j : Int) < most
 case neg =>
  simp only [h, lay, iaddr_node, pnode, wk3, wk, seval]
  exact KWk_list hL hne ⟨hn', hid9⟩
 simp only [h, lay, iaddr_node, pnode, wk3, wk, seval]
 refine CT_ok (over_at l n' _) ?_
 rintro _ _ ⟨rfl, rfl⟩
 simp only [h, lay, iaddr_node, pnode, wk3, wk, seval]
 refine guard_both ?_ ?_ <;> intro h2 <;> simp only [hy] at h2
 ·simp only [h, h2, lay, iaddr_node, pnode, wk3, wk, seval]
  have w2 : IntKind.i64.wrap ((j : Int) + 1) = (j : Int) + 1 := IntWalk.i64_in _ (by omega)
  refine CT_ok (num_at l n' 8 (by omega) hl _) ?_
  rintro _ H ⟨m1, n1, rfl, k1, k2, k3, k4, _, rfl⟩
  have g1 : m1 < 8 := k2 (by omega)
  have w1 : IntKind.i64.wrap (1 + m1) = 1 + m1 := IntWalk.i64_in _ (by omega)
  simp only [w1, lay, iaddr_node, pnode, wk3, wk, seval]
  refine CT_ok (set_at45 l n1 (1 + m1) (by omega) hl _) ?_
  rintro _ H ⟨k, i, m, n2, p, q, t, hp, hq, ht, hk, rfl, rfl⟩
  simp only [editA, lay, iaddr_node, pnode, wk3, wk, seval]
  refine CT_ok (num_at l n2 3 (by omega) hl _) ?_
  rintro _ H ⟨m3, n3, rfl, j1, j2, j3, j4, _, rfl⟩
  simp only [lay, iaddr_node, pnode, wk3, wk, seval]
  by_cases h3 : 0 < m3
  ·simp only [h3, lay, iaddr_node, pnode, wk3, wk, seval]
   refine CT_ok (edit_at l n3 (1 + m1) (by omega) hl _) ?_
   rintro _ H ⟨k, i, m, n4, p, q, t, hp, hq, ht, hk, rfl, rfl⟩
   simp only [editA, lay, iaddr_node, pnode, wk3, wk, seval]
   refine CT_ok (do47 L hL nx k i m hk.2 (by omega) p q t hp hq ht _) ?_
   rintro _ _ ⟨rfl, L', nx', e, m', r1, r2, r3, r4, rfl⟩
   simp only [toldA, poolC, ansC, asets, w2, lay, iaddr_node, pnode, wk3, wk, seval]
   refine QLoop_wk (n' := most - (j + 1)) (by omega) ⟨j + 1, L', nx', n4, by omega, rfl, r1, r2.1 hne, ⟨by omega, r2.2 hid⟩, by omega, rfl, rfl⟩ (Wk_three (renO_picks _ l _) (renO_pool _ nx' L') ?_)
   simp only [renL, ren, upTo, show (0 : Nat) < 3 by omega, show (2 : Nat) < 3 by omega, if_true, tq]
  ·simp only [h3, lay, iaddr_node, pnode, wk3, wk, seval]
   refine CT_ok (do47 L hL nx k i m hk.2 (by omega) p q t hp hq ht _) ?_
   rintro _ _ ⟨rfl, L', nx', e, m', r1, r2, r3, r4, rfl⟩
   simp only [toldA, poolC, ansC, asets, w2, lay, iaddr_node, pnode, wk3, wk, seval]
   refine QLoop_wk (n' := most - (j + 1)) (by omega) ⟨j + 1, L', nx', n3, by omega, rfl, r1, r2.1 hne, ⟨by omega, r2.2 hid⟩, by omega, rfl, rfl⟩ (Wk_three (renO_picks _ l _) (renO_pool _ nx' L') ?_)
   simp only [renL, ren, upTo, show (0 : Nat) < 3 by omega, show (2 : Nat) < 3 by omega, if_true, tq]
 ·simp only [h, h2, lay, iaddr_node, pnode, wk3, wk, seval]
  exact KWk_list hL hne ⟨hn', hid9⟩
end Go.Proofs.YtemjlopoffjmpaaGreat.Abs
set_option linter.unusedSimpArgs false
set_option linter.unusedVariables false
namespace Go.Proofs.YtemjlopoffjmpaaGreat.Abs
open Go Go.Proofs
end Go.Proofs.YtemjlopoffjmpaaGreat.Abs
set_option linter.unusedSimpArgs false
set_option linter.unusedVariables false
namespace Go.Proofs.YtemjlopoffjmpaaGreat.Abs
open Go Go.Proofs
structure SetB (l : List Dset) (k : Nat) : Prop where
 id : 1 ≤ (l.getD k default).id ∧ (l.getD k default).id ≤ 65535
 sorted : k = 0 ∨ (l.getD (k - 1) default).id < (l.getD k default).id
 files : Wf (l.getD k default).files
 quota : 0 ≤ (l.getD k default).quota ∧ (l.getD k default).quota ≤ 255
 kinds : (l.getD k default).kind = 1 ∨ (l.getD k default).kind = 2
 snap : (l.getD k default).kind = 2 → (l.getD k default).quota = 0 ∧ ∃ o, getA l (l.getD k default).origin = some o ∧ o.kind = 1
 live : (l.getD k default).kind = 1 → (l.getD k default).origin = 0 ∨ ∃ o, getA l (l.getD k default).origin = some o ∧ o.kind = 2
section
variable {l : List Dset} (hB : ∀ k, k < l.length → SetB l k)
include hB
omit hB in
omit hB in
end
end Go.Proofs.YtemjlopoffjmpaaGreat.Abs
set_option linter.unusedSimpArgs false
set_option linter.unusedVariables false
namespace Go.Proofs.YtemjlopoffjmpaaGreat.Abs
open Go Go.Proofs
theorem index101F (l : List Dset) (hl : l.length ≤ 1000000) (R : AH) (g : FuncId) (cap : List AV) (p : Dset → Bool)
 (hf : ∀ d, C Tryz.prog g (AV.agg (cellD d) :: cap) R (fun x H' => x = .bool (p d) ∧ H' = R)) :
 C Tryz.prog 101 [asets l, .fn (.func g) [] cap] R (fun x H' => x = .int .i64 (idxA p l) ∧ H' = R) := by
 refine C_body d101 rfl (WT_ok ?_)
 delta c101 I0 I1 I2 I3 I4 I5 I6 I7 I8 I9 KI
 simp only [asets, lay, wk5, wk4, wk3, wk, iaddrV_map, Nat.reduceAdd, Nat.reduceSub, Nat.reduceMul, Nat.reduceLeDiff, Nat.reduceEqDiff, Nat.reduceBEq, Int.reduceLE, Int.reduceLT, Int.reduceEq, Int.reduceNe, Int.reduceAdd, Int.reduceSub, Int.reduceToNat, Int.reduceNeg, ↓reduceIte, reduceCtorEq]
 refine WT_loop (W_wk (fr' := [asets l, .fn (.func g) [] cap, .top, .top, .int .i64 0, .top, asets l, .int .i64 l.length, .int .i64 (0 : Nat)] ++ List.replicate 10 .top) (Wk_tops ?_) (W_loop (fun n fr H' => ∃ k : Nat, k ≤ l.length ∧ n = l.length - k ∧ (∀ j, j < k → p (l.getD j default) = false) ∧ H' = R ∧ fr = [asets l, .fn (.func g) [] cap, .top, .top, .int .i64 0, .top, asets l, .int .i64 l.length, .int .i64 k] ++ List.replicate 10 .top) l.length ⟨0, by omega, rfl, fun j hj => by omega, rfl, rfl⟩ ?_))
 ·simp only [asets, tp, Int.natCast_zero]
 rintro n fr H' ⟨k, hk, rfl, hne, rfl, rfl⟩
 refine WT_ok ?_
 simp only [asets, lay, wk5, wk4, wk3, wk, iaddrV_map, Nat.reduceAdd, Nat.reduceSub, Nat.reduceMul, Nat.reduceLeDiff, Nat.reduceEqDiff, Nat.reduceBEq, Int.reduceLE, Int.reduceLT, Int.reduceEq, Int.reduceNe, Int.reduceAdd, Int.reduceSub, Int.reduceToNat, Int.reduceNeg, ↓reduceIte, reduceCtorEq]
 by_cases h : (k : Int) < l.length
 ·have hk2 : k < l.length := by omega
  have w2 : IntKind.i64.wrap ((k : Int) + 1) = (k : Int) + 1 := IntWalk.i64_in _ (by omega)
  have h0 : (0 : Int) ≤ k := by omega
  have e6' : ∀ x, (pdset x).length = 5 := fun _ => rfl
  have hfk := hf (l.getD k default)
  have hi := fun h1 h2 => idxA_some hk2 h1 h2 (p := p)
  generalize hd : l.getD k default = d at hfk hi
  have hcd : (pdset d).map emb = cellD d := rfl
  have hcd2 : (cellD d).take 5 = cellD d := rfl
  simp only [h, h0, e6', hd, iaddr_dset, Int.toNat_natCast, lay, wk5, wk4, wk3, wk, iaddrV_map, Nat.reduceAdd, Nat.reduceSub, Nat.reduceMul, Nat.reduceLeDiff, Nat.reduceEqDiff, Nat.reduceBEq, Int.reduceLE, Int.reduceLT, Int.reduceEq, Int.reduceNe, Int.reduceAdd, Int.reduceSub, Int.reduceToNat, Int.reduceNeg, ↓reduceIte, reduceCtorEq]
  simp only [hcd, hcd2, pdset, h, h0, hd, iaddr_dset, Int.toNat_natCast, lay, wk5, wk4, wk3, wk, iaddrV_map, Nat.reduceAdd, Nat.reduceSub, Nat.reduceMul, Nat.reduceLeDiff, Nat.reduceEqDiff, Nat.reduceBEq, Int.reduceLE, Int.reduceLT, Int.reduceEq, Int.reduceNe, Int.reduceAdd, Int.reduceSub, Int.reduceToNat, Int.reduceNeg, ↓reduceIte, reduceCtorEq]
  refine ⟨_, _, _, rfl, hfk.mono ?_⟩
  rintro _ _ ⟨rfl, rfl⟩
  cases hp : p d
  ·simp only [w2, lay, wk5, wk4, wk3, wk, iaddrV_map, Nat.reduceAdd, Nat.reduceSub, Nat.reduceMul, Nat.reduceLeDiff, Nat.reduceEqDiff, Nat.reduceBEq, Int.reduceLE, Int.reduceLT, Int.reduceEq, Int.reduceNe, Int.reduceAdd, Int.reduceSub, Int.reduceToNat, Int.reduceNeg, ↓reduceIte, reduceCtorEq]
   refine QLoop_go (n' := l.length - (k + 1)) (by omega) ⟨k + 1, by omega, rfl, fun j hj => ?_, rfl, rfl⟩ ?_
   ·rcases Nat.lt_or_ge j k with h' | h'
    ·exact hne j h'
    ·have : j = k := by omega
     subst this; rw [hd]; exact hp
   ·simp only [asets, tq]
  ·simp only [lay, wk5, wk4, wk3, wk, iaddrV_map, Nat.reduceAdd, Nat.reduceSub, Nat.reduceMul, Nat.reduceLeDiff, Nat.reduceEqDiff, Nat.reduceBEq, Int.reduceLE, Int.reduceLT, Int.reduceEq, Int.reduceNe, Int.reduceAdd, Int.reduceSub, Int.reduceToNat, Int.reduceNeg, ↓reduceIte, reduceCtorEq]
   rw [hi hp hne]
 ·simp only [h, lay, wk5, wk4, wk3, wk, iaddrV_map, Nat.reduceAdd, Nat.reduceSub, Nat.reduceMul, Nat.reduceLeDiff, Nat.reduceEqDiff, Nat.reduceBEq, Int.reduceLE, Int.reduceLT, Int.reduceEq, Int.reduceNe, Int.reduceAdd, Int.reduceSub, Int.reduceToNat, Int.reduceNeg, ↓reduceIte, reduceCtorEq]
  rw [idxA_none fun j hj => hne j (by omega)]
end Go.Proofs.YtemjlopoffjmpaaGreat.Abs
set_option linter.unusedSimpArgs false
set_option linter.unusedVariables false
namespace Go.Proofs.YtemjlopoffjmpaaGreat.Abs
open Go Go.Proofs
theorem isId102 (d : Dset) (i : Int) : C Tryz.prog 102 [.agg (cellD d), .ptr 0 0 0 1] [some [[.int .i64 i]]] (fun x H' => x = .bool (decide (d.id = i)) ∧ H' = [some [[.int .i64 i]]]) := isId82 d i
theorem find59F (l : List Dset) (hl : l.length ≤ 1000000) (i : Int) : C Tryz.prog 59 [asets l, .int .i64 i] [] (fun x _ => x = .int .i64 (findA l i)) := by
 refine C_body d59 rfl (WT_ok ?_)
 delta c59 I0 I1 I2 I3 I4 I5 I6 I7 I8 I9 KI
 simp only [asets, lay, wk5, wk4, wk3, wk, iaddrV_map, Nat.reduceAdd, Nat.reduceSub, Nat.reduceMul, Nat.reduceLeDiff, Nat.reduceEqDiff, Nat.reduceBEq, Int.reduceLE, Int.reduceLT, Int.reduceEq, Int.reduceNe, Int.reduceAdd, Int.reduceSub, Int.reduceToNat, Int.reduceNeg, ↓reduceIte, reduceCtorEq]
 refine CT_ok (index101F l hl [some [[.int .i64 i]]] 102 [.ptr 0 0 0 1] (fun d => decide (d.id = i)) (fun d => isId102 d i)) ?_
 rintro _ _ ⟨rfl, rfl⟩
 simp only [lay, wk5, wk4, wk3, wk, iaddrV_map, Nat.reduceAdd, Nat.reduceSub, Nat.reduceMul, Nat.reduceLeDiff, Nat.reduceEqDiff, Nat.reduceBEq, Int.reduceLE, Int.reduceLT, Int.reduceEq, Int.reduceNe, Int.reduceAdd, Int.reduceSub, Int.reduceToNat, Int.reduceNeg, ↓reduceIte, reduceCtorEq]
 rfl
theorem find59 (l : List Dset) (hl : l.length ≤ 1000000) (i : Int) (H : AH) : C Tryz.prog 59 [asets l, .int .i64 i] H (fun x H' => x = .int .i64 (findA l i) ∧ H' = H) :=
 C_flat (K0 := fun x _ => x = .int .i64 (findA l i)) (find59F l hl i) (by rintro x _ rfl; exact ⟨rfl, rfl, rfl⟩)
theorem is60 (l : List Dset) (hl : l.length ≤ 1000000) (i kind : Int) (H : AH) : C Tryz.prog 60 [asets l, .int .i64 i, .int .i64 kind] H (fun x H' => x = .bool (isA l i kind) ∧ H' = H) := by
 refine C_body d60 rfl (WT_ok ?_)
 delta c60 I0 I1 I2 I3 I4 I5 I6 I7 I8 I9 KI
 simp only [lay, wk5, wk4, wk3, wk, iaddrV_map, Nat.reduceAdd, Nat.reduceSub, Nat.reduceMul, Nat.reduceLeDiff, Nat.reduceEqDiff, Nat.reduceBEq, Int.reduceLE, Int.reduceLT, Int.reduceEq, Int.reduceNe, Int.reduceAdd, Int.reduceSub, Int.reduceToNat, Int.reduceNeg, ↓reduceIte, reduceCtorEq]
 refine CT_ok (find59 l hl i H) ?_
 rintro _ _ ⟨rfl, rfl⟩
 unfold isA
 rcases find_of (l := l) (i := i) with ⟨e, _⟩ | ⟨k, e, hk, _, _⟩
 ·simp only [e, asets, lay, Bool.false_and, wk5, wk4, wk3, wk, iaddrV_map, Nat.reduceAdd, Nat.reduceSub, Nat.reduceMul, Nat.reduceLeDiff, Nat.reduceEqDiff, Nat.reduceBEq, Int.reduceLE, Int.reduceLT, Int.reduceEq, Int.reduceNe, Int.reduceAdd, Int.reduceSub, Int.reduceToNat, Int.reduceNeg, ↓reduceIte, reduceCtorEq]
 ·have h0 : (0 : Int) ≤ k := by omega
  have h1 : (k : Int) < l.length := by omega
  have e6' : ∀ x, (pdset x).length = 5 := fun _ => rfl
  rw [e]
  simp only [h0, h1, e6', iaddr_dset, pdset, Int.toNat_natCast, asets, lay, wk5, wk4, wk3, wk, iaddrV_map, Nat.reduceAdd, Nat.reduceSub, Nat.reduceMul, Nat.reduceLeDiff, Nat.reduceEqDiff, Nat.reduceBEq, Int.reduceLE, Int.reduceLT, Int.reduceEq, Int.reduceNe, Int.reduceAdd, Int.reduceSub, Int.reduceToNat, Int.reduceNeg, ↓reduceIte, reduceCtorEq]
end Go.Proofs.YtemjlopoffjmpaaGreat.Abs
set_option linter.unusedSimpArgs false
set_option linter.unusedVariables false
namespace Go.Proofs.YtemjlopoffjmpaaGreat.Abs
open Go Go.Proofs
def RowV (H : AH) (r : Nat) (e : List AV) : Prop := ∃ (a b c d : Int) (q : Nat) (o : AObj), e = [.int .i64 a, .int .i64 b, .int .i64 c, .int .i64 d, .own q 5 0 8 8] ∧ q ≠ r ∧ H.at q = some o ∧ o.length = 8 ∧ ∀ x ∈ o, x.length = 5
def OwnR (H : AH) (r tot n : Nat) : Prop := ∃ o, H.at r = some o ∧ o.length = tot ∧ n ≤ tot ∧ ∀ k, k < n → ∃ e, o[k]? = some e ∧ RowV H r e
def DeedO (n : Nat) (e : Int) (x : AV) (H : AH) : Prop := ∃ r tot, x = .tuple [.own r 5 0 n tot, .int .i64 e] ∧ OwnR H r tot n
theorem at_up {H G : AH} {i : Nat} {o : AObj} (h : G.at i = some o) : (H ++ upH H.length G).at (H.length + i) = some (renCO (up H.length) o) :=
 at_app.2 (.inr ⟨i, rfl, at_upH.2 ⟨o, h, rfl⟩⟩)
theorem RowV.up {H G : AH} {r : Nat} {e : List AV} (h : RowV G r e) : RowV (H ++ upH H.length G) (H.length + r) (renCL (up H.length) e) := by
 obtain ⟨a, b, c, d, q, o, rfl, hq, ho, h8, h5⟩ := h
 refine ⟨a, b, c, d, H.length + q, _, by simp [renCL, renC, Abs.up], by omega, at_up ho, by rw [renCO_length]; exact h8, fun x hx => ?_⟩
 obtain ⟨y, hy, rfl⟩ := List.mem_map.1 hx
 rw [renCL_map, List.length_map]; exact h5 y hy
theorem OwnR.up {H G : AH} {r tot n : Nat} (h : OwnR G r tot n) : OwnR (H ++ upH H.length G) (H.length + r) tot n := by
 obtain ⟨o, ho, hl, hn, hr⟩ := h
 refine ⟨_, at_up ho, by rw [renCO_length]; exact hl, hn, fun k hk => ?_⟩
 obtain ⟨e, he, hv⟩ := hr k hk
 refine ⟨_, ?_, hv.up⟩
 unfold renCO
 rw [List.getElem?_map, he]; rfl
theorem DeedO.up {H G : AH} {n : Nat} {e : Int} {x : AV} (h : DeedO n e x G) : DeedO n e (renC (up H.length) x) (H ++ upH H.length G) := by
 obtain ⟨r, tot, rfl, ho⟩ := h
 exact ⟨H.length + r, tot, by simp [renC, renCL, Abs.up], ho.up⟩
theorem nodes_rows (s : List Node) : ∀ x ∈ nodesO s, x.length = 5 := by
 intro x hx
 obtain ⟨y, _, rfl⟩ := List.mem_map.1 hx
 rfl
theorem at_drop {H G : AH} {b k : Nat} (h : H.drop b = G) : H.at (b + k) = G.at k := by
 subst h
 unfold AH.at
 rw [List.getElem?_drop]
theorem Lie.drop {H : AH} {r b : Nat} {l : List Dset} (h : H.at r = some (rowsO l b)) (hd : H.drop b = objsO l) : Lie H r b l :=
 ⟨h, fun k hk => by rw [at_drop hd]; exact objsO_at hk⟩
theorem OwnR.rows {H : AH} {l l' : List Dset} {r b : Nat} (hl : Eight l) (hlen : l'.length = l.length) (h : H.at r = some (rowsO l' b)) (hd : H.drop b = objsO l) (hrb : r < b) : OwnR H r l'.length l'.length := by
 refine ⟨_, h, rowsO_len _ _, Nat.le_refl _, fun k hk => ?_⟩
 have hk2 : k < l.length := by omega
 exact ⟨_, rowsO_at l' b k hk, _, _, _, _, b + k, _, rfl, by omega, by rw [at_drop hd]; exact objsO_at hk2, by rw [nodesO, List.length_map]; exact hl.get hk2, nodes_rows _⟩
theorem deedO {H : AH} {l : List Dset} {r b : Nat} {e : Int} (hl : Eight l) (h : H.at r = some (rowsO l b)) (hd : H.drop b = objsO l) (hrb : r < b) : DeedO l.length e (.tuple [.own r 5 0 l.length l.length, .int .i64 e]) H :=
 ⟨r, _, rfl, .rows hl rfl h hd hrb⟩
theorem deedO' {H : AH} {l : List Dset} {r b n m : Nat} {e : Int} (hn : n = l.length) (hm : m = l.length) (hl : Eight l) (h : H.at r = some (rowsO l b)) (hd : H.drop b = objsO l) (hrb : r < b) : DeedO m e (.tuple [.own r 5 0 n n, .int .i64 e]) H := by
 subst hn; subst hm; exact deedO hl h hd hrb
theorem findE (v : AV) (l : List Dset) (hl : l.length ≤ 1000000) (i : Int) (H : AH) (hv : viewA H v = asets l) : C Tryz.prog 59 [v, .int .i64 i] H (fun x H' => x = .int .i64 (findA l i) ∧ H' = H) :=
 C_flat (K0 := fun x _ => x = .int .i64 (findA l i)) (by simpa [viewL, viewA, hv] using find59F l hl i) (by rintro x _ rfl; exact ⟨rfl, rfl, rfl⟩)
theorem isE (v : AV) (l : List Dset) (hl : l.length ≤ 1000000) (i k : Int) (H : AH) (hv : viewA H v = asets l) : C Tryz.prog 60 [v, .int .i64 i, .int .i64 k] H (fun x H' => x = .bool (isA l i k) ∧ H' = H) :=
 C_flat (K0 := fun x H' => x = .bool (isA l i k) ∧ H' = []) (by simpa [viewL, viewA, hv] using is60 l hl i k []) (by rintro x _ ⟨rfl, rfl⟩; exact ⟨rfl, rfl, rfl⟩)
def GetO (o : Option Dset) (y : AV) (H : AH) : Prop := match o with
 | some d => ∃ q, y = .tuple [.agg (cellO d q), .bool true] ∧ H.at q = some (nodesO d.files)
 | none => y = .tuple [.agg [.int .i64 0, .int .i64 0, .int .i64 0, .int .i64 0, .emp], .bool false]
theorem GetO.up {H G : AH} {o : Option Dset} {y : AV} (h : GetO o y G) : GetO o (renC (up H.length) y) (H ++ upH H.length G) := by
 cases o with
 | none => cases h; simp [GetO, renC, renCL]
 | some d =>
   obtain ⟨q, rfl, hq⟩ := h
   exact ⟨H.length + q, by simp [renC, renCL, Abs.up, cellO], by rw [at_up hq, renCO_nodes]⟩
theorem getE0 (l : List Dset) (hl : Eight l) (i : Int) : C Tryz.prog 27 [asets l, .int .i64 i] [] (GetO (getA l i)) := by
 have hl1 := hl.1
 have hro := rowsO_len l 2
 refine C_body d27 rfl (WT_ok ?_)
 delta c27 I0 I1 I2 I3 I4 I5 I6 I7 I8 I9 KI
 simp only [lay, wk3, wk, iaddrV_map, Nat.reduceAdd, Nat.reduceSub, Nat.reduceMul, Nat.reduceLeDiff, Nat.reduceEqDiff, Nat.reduceBEq, Int.reduceLE, Int.reduceLT, Int.reduceEq, Int.reduceNe, Int.reduceAdd, Int.reduceSub, Int.reduceToNat, Int.reduceNeg, ↓reduceIte, reduceCtorEq]
 refine CT_ok (twinE _ l hl _ (view_asets _ _) 1 rfl) ?_
 rintro _ _ ⟨rfl, rfl⟩
 simp only [lay, wk3, wk, iaddrV_map, Nat.reduceAdd, Nat.reduceSub, Nat.reduceMul, Nat.reduceLeDiff, Nat.reduceEqDiff, Nat.reduceBEq, Int.reduceLE, Int.reduceLT, Int.reduceEq, Int.reduceNe, Int.reduceAdd, Int.reduceSub, Int.reduceToNat, Int.reduceNeg, ↓reduceIte, reduceCtorEq]
 refine CT_ok (findE _ l hl1 i _ (view_rows (b := 2) hl (.drop rfl rfl))) ?_
 rintro _ _ ⟨rfl, rfl⟩
 unfold getA
 rcases find_of (l := l) (i := i) with ⟨e, _⟩ | ⟨k, e, hk, _, _⟩
 ·simp only [e, lay, wk3, wk, iaddrV_map, Nat.reduceAdd, Nat.reduceSub, Nat.reduceMul, Nat.reduceLeDiff, Nat.reduceEqDiff, Nat.reduceBEq, Int.reduceLE, Int.reduceLT, Int.reduceEq, Int.reduceNe, Int.reduceAdd, Int.reduceSub, Int.reduceToNat, Int.reduceNeg, ↓reduceIte, reduceCtorEq]
  rfl
 ·have hc := rowsO_at l 2 k hk
  have h0 : (0 : Int) ≤ k := by omega
  have h1 : (k : Int) < l.length := by omega
  have h2 : ¬ (k : Int) < 0 := by omega
  rw [e]
  simp only [hc, hro, h0, h1, h2, cellO, lay, wk3, wk, iaddrV_map, Nat.reduceAdd, Nat.reduceSub, Nat.reduceMul, Nat.reduceLeDiff, Nat.reduceEqDiff, Nat.reduceBEq, Int.reduceLE, Int.reduceLT, Int.reduceEq, Int.reduceNe, Int.reduceAdd, Int.reduceSub, Int.reduceToNat, Int.reduceNeg, ↓reduceIte, reduceCtorEq]
  exact ⟨2 + k, rfl, by rw [at_drop (b := 2) (G := objsO l) rfl]; exact objsO_at hk⟩
theorem getE (l : List Dset) (hl : Eight l) (i : Int) (H : AH) : C Tryz.prog 27 [asets l, .int .i64 i] H (GetO (getA l i)) :=
 C_view (K0 := GetO (getA l i)) (by simpa [viewL, viewA, view_asets] using getE0 l hl i) (fun x H' h => h.up)
theorem view_cellO {H : AH} {q : Nat} {d : Dset} (h : H.at q = some (nodesO d.files)) (h8 : d.files.length = 8) (a b c e : Int) : viewA H (.agg [.int .i64 a, .int .i64 b, .int .i64 c, .int .i64 e, .own q 5 0 8 8]) = .agg (cellD ⟨a, b, c, e, d.files⟩) := by
 have := viewA_own8 h h8
 simp [viewA, viewL] at this ⊢
 rw [this]; simp [cellD]
theorem Eight.snoc {l : List Dset} (h : Eight l) (h8 : l.length < 8) {x : Dset} (hx : x.files.length = 8) : Eight (l ++ [x]) := by
 refine ⟨by simp; omega, fun d hd => ?_⟩
 rcases List.mem_append.1 hd with hd | hd
 ·exact h.2 d hd
 ·rw [List.mem_singleton] at hd; subst hd; exact hx
theorem addE0 (l : List Dset) (hl : Eight l) (next : Int) (x : Dset) (hx : x.files.length = 8) :
 C Tryz.prog 57 [asets l, .int .i64 next, .agg (cellD x)] [] (DeedO (addA l next x).1.length (addA l next x).2) := by
 have hl1 := hl.1
 refine C_body d57 rfl (WT_ok ?_)
 delta c57 I0 I1 I2 I3 I4 I5 I6 I7 I8 I9 KI
 by_cases hok : addOk l next = true
 ·rw [show addA l next x = (l ++ [{ x with id := next }], 0) from if_pos hok]
  simp only [addOk, Bool.and_eq_true, Bool.or_eq_true, decide_eq_true_eq] at hok
  obtain ⟨⟨⟨h1, h2⟩, h3⟩, h4⟩ := hok
  have g1 : ¬ (8 : Int) ≤ (l.length : Int) := by omega
  have g2 : ¬ next < 1 := by omega
  have g3 : ¬ 65535 < next := by omega
  have hml : (l ++ [{ x with id := next }]).length = l.length + 1 := by simp
  rcases Nat.eq_zero_or_pos l.length with h0 | h0
  ·have g4 : ¬ (0 : Int) < (l.length : Int) := by omega
   simp only [asets, cellD, aset, g1, g2, g3, g4, lay, wk3, wk, iaddrV_map, Nat.reduceAdd, Nat.reduceSub, Nat.reduceMul, Nat.reduceLeDiff, Nat.reduceEqDiff, Nat.reduceBEq, Int.reduceLE, Int.reduceLT, Int.reduceEq, Int.reduceNe, Int.reduceAdd, Int.reduceSub, Int.reduceToNat, Int.reduceNeg, ↓reduceIte, reduceCtorEq]
   refine WT_drawE ?_
   refine WDT_more 2 ?_
   simp only [lay, wk3, wk, iaddrV_map, Nat.reduceAdd, Nat.reduceSub, Nat.reduceMul, Nat.reduceLeDiff, Nat.reduceEqDiff, Nat.reduceBEq, Int.reduceLE, Int.reduceLT, Int.reduceEq, Int.reduceNe, Int.reduceAdd, Int.reduceSub, Int.reduceToNat, Int.reduceNeg, ↓reduceIte, reduceCtorEq]
   refine ⟨by omega, CFT_clone l hl1 (by simp) ?_⟩
   simp only [ren, renL, lay, wk3, wk, iaddrV_map, Nat.reduceAdd, Nat.reduceSub, Nat.reduceMul, Nat.reduceLeDiff, Nat.reduceEqDiff, Nat.reduceBEq, Int.reduceLE, Int.reduceLT, Int.reduceEq, Int.reduceNe, Int.reduceAdd, Int.reduceSub, Int.reduceToNat, Int.reduceNeg, ↓reduceIte, reduceCtorEq]
   refine ⟨by rfl, ?_⟩
   refine ⟨⟨by omega, by omega⟩, ?_⟩
   rw [← hml]
   refine CT_ok (twinE _ (l ++ [{ x with id := next }]) (hl.snoc (x := { x with id := next }) (by omega) hx) _ (view_cells (by simp [AH.at, cellD, aset])) 3 (by simp)) ?_
   rintro _ _ ⟨rfl, rfl⟩
   simp only [lay, wk3, wk, iaddrV_map, Nat.reduceAdd, Nat.reduceSub, Nat.reduceMul, Nat.reduceLeDiff, Nat.reduceEqDiff, Nat.reduceBEq, Int.reduceLE, Int.reduceLT, Int.reduceEq, Int.reduceNe, Int.reduceAdd, Int.reduceSub, Int.reduceToNat, Int.reduceNeg, ↓reduceIte, reduceCtorEq]
   refine deedO' (l := l ++ [{ x with id := next }]) (b := 4) (by simp) (by simp) (hl.snoc (x := { x with id := next }) (by omega) hx) ?_ ?_ (by omega)
   ·rfl
   ·rfl
  ·have g4 : (0 : Int) < (l.length : Int) := by omega
   have g5 : ¬ next ≤ (l.getD (l.length - 1) default).id := by omega
   have w1 : IntKind.i64.wrap ((l.length : Int) - 1) = ((l.length - 1 : Nat) : Int) := by rw [IntWalk.i64_in _ (by omega)]; omega
   have g6 : (0 : Int) ≤ ((l.length - 1 : Nat) : Int) := by omega
   have g7 : ((l.length - 1 : Nat) : Int) < (l.length : Int) := by omega
   simp only [asets, cellD, aset, pdset, g1, g2, g3, g4, g5, g6, g7, w1, lay, wk3, wk, iaddrV_map, Nat.reduceAdd, Nat.reduceSub, Nat.reduceMul, Nat.reduceLeDiff, Nat.reduceEqDiff, Nat.reduceBEq, Int.reduceLE, Int.reduceLT, Int.reduceEq, Int.reduceNe, Int.reduceAdd, Int.reduceSub, Int.reduceToNat, Int.reduceNeg, ↓reduceIte, reduceCtorEq]
   refine WT_drawE ?_
   refine WDT_more 2 ?_
   simp only [lay, wk3, wk, iaddrV_map, Nat.reduceAdd, Nat.reduceSub, Nat.reduceMul, Nat.reduceLeDiff, Nat.reduceEqDiff, Nat.reduceBEq, Int.reduceLE, Int.reduceLT, Int.reduceEq, Int.reduceNe, Int.reduceAdd, Int.reduceSub, Int.reduceToNat, Int.reduceNeg, ↓reduceIte, reduceCtorEq]
   refine ⟨by omega, CFT_clone l hl1 (by simp) ?_⟩
   simp only [ren, renL, lay, wk3, wk, iaddrV_map, Nat.reduceAdd, Nat.reduceSub, Nat.reduceMul, Nat.reduceLeDiff, Nat.reduceEqDiff, Nat.reduceBEq, Int.reduceLE, Int.reduceLT, Int.reduceEq, Int.reduceNe, Int.reduceAdd, Int.reduceSub, Int.reduceToNat, Int.reduceNeg, ↓reduceIte, reduceCtorEq]
   refine ⟨by rfl, ?_⟩
   refine ⟨⟨by omega, by omega⟩, ?_⟩
   rw [← hml]
   refine CT_ok (twinE _ (l ++ [{ x with id := next }]) (hl.snoc (x := { x with id := next }) (by omega) hx) _ (view_cells (by simp [AH.at, cellD, aset])) 3 (by simp)) ?_
   rintro _ _ ⟨rfl, rfl⟩
   simp only [lay, wk3, wk, iaddrV_map, Nat.reduceAdd, Nat.reduceSub, Nat.reduceMul, Nat.reduceLeDiff, Nat.reduceEqDiff, Nat.reduceBEq, Int.reduceLE, Int.reduceLT, Int.reduceEq, Int.reduceNe, Int.reduceAdd, Int.reduceSub, Int.reduceToNat, Int.reduceNeg, ↓reduceIte, reduceCtorEq]
   refine deedO' (l := l ++ [{ x with id := next }]) (b := 4) (by simp) (by simp) (hl.snoc (x := { x with id := next }) (by omega) hx) ?_ ?_ (by omega)
   ·rfl
   ·rfl
 ·rw [show addA l next x = (l, 8) from if_neg hok]
  have e5 : ∀ k : Nat, (pdset (l.getD k default)).length = 5 := fun _ => rfl
  by_cases g1 : (8 : Int) ≤ (l.length : Int)
  ·simp only [asets, cellD, aset, g1, lay, wk3, wk, iaddrV_map, Nat.reduceAdd, Nat.reduceSub, Nat.reduceMul, Nat.reduceLeDiff, Nat.reduceEqDiff, Nat.reduceBEq, Int.reduceLE, Int.reduceLT, Int.reduceEq, Int.reduceNe, Int.reduceAdd, Int.reduceSub, Int.reduceToNat, Int.reduceNeg, ↓reduceIte, reduceCtorEq]
   refine CT_ok (twinE _ l hl _ (view_asets _ _) 1 rfl) ?_
   rintro _ _ ⟨rfl, rfl⟩
   simp only [lay, wk3, wk, iaddrV_map, Nat.reduceAdd, Nat.reduceSub, Nat.reduceMul, Nat.reduceLeDiff, Nat.reduceEqDiff, Nat.reduceBEq, Int.reduceLE, Int.reduceLT, Int.reduceEq, Int.reduceNe, Int.reduceAdd, Int.reduceSub, Int.reduceToNat, Int.reduceNeg, ↓reduceIte, reduceCtorEq]
   exact deedO hl (b := 2) rfl rfl (by omega)
  by_cases g2 : next < 1
  ·simp only [asets, cellD, aset, g1, g2, lay, wk3, wk, iaddrV_map, Nat.reduceAdd, Nat.reduceSub, Nat.reduceMul, Nat.reduceLeDiff, Nat.reduceEqDiff, Nat.reduceBEq, Int.reduceLE, Int.reduceLT, Int.reduceEq, Int.reduceNe, Int.reduceAdd, Int.reduceSub, Int.reduceToNat, Int.reduceNeg, ↓reduceIte, reduceCtorEq]
   refine CT_ok (twinE _ l hl _ (view_asets _ _) 1 rfl) ?_
   rintro _ _ ⟨rfl, rfl⟩
   simp only [lay, wk3, wk, iaddrV_map, Nat.reduceAdd, Nat.reduceSub, Nat.reduceMul, Nat.reduceLeDiff, Nat.reduceEqDiff, Nat.reduceBEq, Int.reduceLE, Int.reduceLT, Int.reduceEq, Int.reduceNe, Int.reduceAdd, Int.reduceSub, Int.reduceToNat, Int.reduceNeg, ↓reduceIte, reduceCtorEq]
   exact deedO hl (b := 2) rfl rfl (by omega)
  by_cases g3 : 65535 < next
  ·simp only [asets, cellD, aset, g1, g2, g3, lay, wk3, wk, iaddrV_map, Nat.reduceAdd, Nat.reduceSub, Nat.reduceMul, Nat.reduceLeDiff, Nat.reduceEqDiff, Nat.reduceBEq, Int.reduceLE, Int.reduceLT, Int.reduceEq, Int.reduceNe, Int.reduceAdd, Int.reduceSub, Int.reduceToNat, Int.reduceNeg, ↓reduceIte, reduceCtorEq]
   refine CT_ok (twinE _ l hl _ (view_asets _ _) 1 rfl) ?_
   rintro _ _ ⟨rfl, rfl⟩
   simp only [lay, wk3, wk, iaddrV_map, Nat.reduceAdd, Nat.reduceSub, Nat.reduceMul, Nat.reduceLeDiff, Nat.reduceEqDiff, Nat.reduceBEq, Int.reduceLE, Int.reduceLT, Int.reduceEq, Int.reduceNe, Int.reduceAdd, Int.reduceSub, Int.reduceToNat, Int.reduceNeg, ↓reduceIte, reduceCtorEq]
   exact deedO hl (b := 2) rfl rfl (by omega)
  have hok2 : ¬ (l.length = 0 ∨ (l.getD (l.length - 1) default).id < next) := by
   intro h
   apply hok
   simp only [addOk, Bool.and_eq_true, Bool.or_eq_true, decide_eq_true_eq]
   exact ⟨⟨⟨by omega, by omega⟩, by omega⟩, h⟩
  have g4 : (0 : Int) < (l.length : Int) := by
   have : ¬ l.length = 0 := fun e => hok2 (.inl e)
   omega
  have g5 : next ≤ (l.getD (l.length - 1) default).id := Int.not_lt.1 fun e => hok2 (.inr e)
  have w1 : IntKind.i64.wrap ((l.length : Int) - 1) = ((l.length - 1 : Nat) : Int) := by rw [IntWalk.i64_in _ (by omega)]; omega
  have g6 : (0 : Int) ≤ ((l.length - 1 : Nat) : Int) := by omega
  have g7 : ((l.length - 1 : Nat) : Int) < (l.length : Int) := by omega
  simp only [asets, cellD, aset, pdset, g1, g2, g3, g4, g5, g6, g7, w1, lay, wk3, wk, iaddrV_map, Nat.reduceAdd, Nat.reduceSub, Nat.reduceMul, Nat.reduceLeDiff, Nat.reduceEqDiff, Nat.reduceBEq, Int.reduceLE, Int.reduceLT, Int.reduceEq, Int.reduceNe, Int.reduceAdd, Int.reduceSub, Int.reduceToNat, Int.reduceNeg, ↓reduceIte, reduceCtorEq]
  refine CT_ok (twinE _ l hl _ (view_asets _ _) 1 rfl) ?_
  rintro _ _ ⟨rfl, rfl⟩
  simp only [lay, wk3, wk, iaddrV_map, Nat.reduceAdd, Nat.reduceSub, Nat.reduceMul, Nat.reduceLeDiff, Nat.reduceEqDiff, Nat.reduceBEq, Int.reduceLE, Int.reduceLT, Int.reduceEq, Int.reduceNe, Int.reduceAdd, Int.reduceSub, Int.reduceToNat, Int.reduceNeg, ↓reduceIte, reduceCtorEq]
  exact deedO hl (b := 2) rfl rfl (by omega)
theorem addE (l : List Dset) (hl : Eight l) (next : Int) (v : AV) (x : Dset) (hx : x.files.length = 8) (H : AH) (hv : viewA H v = .agg (cellD x)) :
 C Tryz.prog 57 [asets l, .int .i64 next, v] H (DeedO (addA l next x).1.length (addA l next x).2) :=
 C_view (K0 := DeedO (addA l next x).1.length (addA l next x).2) (by simpa [viewL, viewA, view_asets, hv] using addE0 l hl next x hx) (fun x H' h => h.up)
theorem createE (l : List Dset) (hl : Eight l) (next q : Int) : C Tryz.prog 37 [asets l, .int .i64 next, .int .i64 q] [] (DeedO (createA l next q).1.length (createA l next q).2) := by
 refine C_body d37 rfl (WT_ok ?_)
 delta c37 I0 I1 I2 I3 I4 I5 I6 I7 I8 I9 KI createA
 by_cases h1 : q < 0
 ·rw [if_pos (.inl h1)]
  simp only [h1, lay, wk3, wk, iaddrV_map, Nat.reduceAdd, Nat.reduceSub, Nat.reduceMul, Nat.reduceLeDiff, Nat.reduceEqDiff, Nat.reduceBEq, Int.reduceLE, Int.reduceLT, Int.reduceEq, Int.reduceNe, Int.reduceAdd, Int.reduceSub, Int.reduceToNat, Int.reduceNeg, ↓reduceIte, reduceCtorEq]
  refine CT_ok (twinE _ l hl _ (view_asets _ _) 0 rfl) ?_
  rintro _ _ ⟨rfl, rfl⟩
  simp only [lay, wk3, wk, iaddrV_map, Nat.reduceAdd, Nat.reduceSub, Nat.reduceMul, Nat.reduceLeDiff, Nat.reduceEqDiff, Nat.reduceBEq, Int.reduceLE, Int.reduceLT, Int.reduceEq, Int.reduceNe, Int.reduceAdd, Int.reduceSub, Int.reduceToNat, Int.reduceNeg, ↓reduceIte, reduceCtorEq]
  exact deedO hl (b := 1) rfl rfl (by omega)
 by_cases h2 : 255 < q
 ·rw [if_pos (.inr h2)]
  simp only [h1, h2, lay, wk3, wk, iaddrV_map, Nat.reduceAdd, Nat.reduceSub, Nat.reduceMul, Nat.reduceLeDiff, Nat.reduceEqDiff, Nat.reduceBEq, Int.reduceLE, Int.reduceLT, Int.reduceEq, Int.reduceNe, Int.reduceAdd, Int.reduceSub, Int.reduceToNat, Int.reduceNeg, ↓reduceIte, reduceCtorEq]
  refine CT_ok (twinE _ l hl _ (view_asets _ _) 0 rfl) ?_
  rintro _ _ ⟨rfl, rfl⟩
  simp only [lay, wk3, wk, iaddrV_map, Nat.reduceAdd, Nat.reduceSub, Nat.reduceMul, Nat.reduceLeDiff, Nat.reduceEqDiff, Nat.reduceBEq, Int.reduceLE, Int.reduceLT, Int.reduceEq, Int.reduceNe, Int.reduceAdd, Int.reduceSub, Int.reduceToNat, Int.reduceNeg, ↓reduceIte, reduceCtorEq]
  exact deedO hl (b := 1) rfl rfl (by omega)
 ·rw [if_neg (fun h => h.elim h1 h2)]
  simp only [h1, h2, lay, wk3, wk, iaddrV_map, Nat.reduceAdd, Nat.reduceSub, Nat.reduceMul, Nat.reduceLeDiff, Nat.reduceEqDiff, Nat.reduceBEq, Int.reduceLE, Int.reduceLT, Int.reduceEq, Int.reduceNe, Int.reduceAdd, Int.reduceSub, Int.reduceToNat, Int.reduceNeg, ↓reduceIte, reduceCtorEq]
  refine CT_ok (newN _) ?_
  rintro _ _ ⟨rfl, rfl⟩
  simp only [aset, lay, wk3, wk, iaddrV_map, Nat.reduceAdd, Nat.reduceSub, Nat.reduceMul, Nat.reduceLeDiff, Nat.reduceEqDiff, Nat.reduceBEq, Int.reduceLE, Int.reduceLT, Int.reduceEq, Int.reduceNe, Int.reduceAdd, Int.reduceSub, Int.reduceToNat, Int.reduceNeg, ↓reduceIte, reduceCtorEq]
  refine CT_ok (addE l hl next _ ⟨0, 1, 0, q, newA⟩ (show newA.length = 8 by decide) _ (by simp [viewA, viewL, cellD, aset])) ?_
  rintro _ _ ⟨r, tot, rfl, ho⟩
  simp only [lay, wk3, wk, iaddrV_map, Nat.reduceAdd, Nat.reduceSub, Nat.reduceMul, Nat.reduceLeDiff, Nat.reduceEqDiff, Nat.reduceBEq, Int.reduceLE, Int.reduceLT, Int.reduceEq, Int.reduceNe, Int.reduceAdd, Int.reduceSub, Int.reduceToNat, Int.reduceNeg, ↓reduceIte, reduceCtorEq]
  exact ⟨r, tot, rfl, ho⟩
theorem liveO_end (A : AH) (o : AObj) (n : Nat) : liveO (A ++ [some o]) A.length n = if o.length = n then some o else none := by
 unfold liveO AH.at
 rw [List.getElem?_append_right (Nat.le_refl _), Nat.sub_self]; rfl
theorem set_end (A : AH) (x y : Option AObj) : (A ++ [x]).set A.length y = A ++ [y] := by
 rw [List.set_append_right _ _ (Nat.le_refl _), Nat.sub_self]; rfl
theorem drop_two (A : AH) (x y : Option AObj) (B : AH) : (A ++ [x] ++ y :: B).drop (A.length + 1 + 1) = B := by
 rw [show A ++ [x] ++ y :: B = (A ++ [x, y]) ++ B by simp]
 exact List.drop_left' (by simp)
theorem snapE (l : List Dset) (hl : Eight l) (next i : Int) : C Tryz.prog 24 [asets l, .int .i64 next, .int .i64 i] [] (DeedO (snapA l next i).1.length (snapA l next i).2) := by
 refine C_body d24 rfl (WT_ok ?_)
 delta c24 I0 I1 I2 I3 I4 I5 I6 I7 I8 I9 KI
 simp only [liveO_end, set_end, lay, wk3, wk, iaddrV_map, Nat.reduceAdd, Nat.reduceSub, Nat.reduceMul, Nat.reduceLeDiff, Nat.reduceEqDiff, Nat.reduceBEq, Int.reduceLE, Int.reduceLT, Int.reduceEq, Int.reduceNe, Int.reduceAdd, Int.reduceSub, Int.reduceToNat, Int.reduceNeg, ↓reduceIte, reduceCtorEq]
 refine CT_ok (getE l hl i _) ?_
 intro y H hy
 cases hg : getA l i with
 | none =>
   have e : snapA l next i = (l, 2) := by unfold snapA; rw [hg]
   rw [hg] at hy
   cases hy
   rw [e]
   simp only [liveO_end, set_end, lay, wk3, wk, iaddrV_map, Nat.reduceAdd, Nat.reduceSub, Nat.reduceMul, Nat.reduceLeDiff, Nat.reduceEqDiff, Nat.reduceBEq, Int.reduceLE, Int.reduceLT, Int.reduceEq, Int.reduceNe, Int.reduceAdd, Int.reduceSub, Int.reduceToNat, Int.reduceNeg, ↓reduceIte, reduceCtorEq]
   refine CT_ok (twinE _ l hl _ (view_asets _ _) _ rfl) ?_
   rintro _ _ ⟨rfl, rfl⟩
   simp only [liveO_end, set_end, lay, wk3, wk, iaddrV_map, Nat.reduceAdd, Nat.reduceSub, Nat.reduceMul, Nat.reduceLeDiff, Nat.reduceEqDiff, Nat.reduceBEq, Int.reduceLE, Int.reduceLT, Int.reduceEq, Int.reduceNe, Int.reduceAdd, Int.reduceSub, Int.reduceToNat, Int.reduceNeg, ↓reduceIte, reduceCtorEq]
   refine deedO hl (b := H.length + 1 + 1) ?_ ?_ (by omega)
   ·simp [AH.at]
   ·exact drop_two _ _ _ _
 | some d =>
   have hd := hl.2 d (getA_mem hg).1
   rw [hg] at hy
   obtain ⟨q, rfl, hq⟩ := hy
   by_cases h2 : d.kind = 2
   ·have e : snapA l next i = (l, 11) := by unfold snapA; rw [hg]; exact if_pos h2
    rw [e]
    simp only [h2, cellO, liveO_end, set_end, lay, wk3, wk, iaddrV_map, Nat.reduceAdd, Nat.reduceSub, Nat.reduceMul, Nat.reduceLeDiff, Nat.reduceEqDiff, Nat.reduceBEq, Int.reduceLE, Int.reduceLT, Int.reduceEq, Int.reduceNe, Int.reduceAdd, Int.reduceSub, Int.reduceToNat, Int.reduceNeg, ↓reduceIte, reduceCtorEq]
    refine CT_ok (twinE _ l hl _ (view_asets _ _) _ rfl) ?_
    rintro _ _ ⟨rfl, rfl⟩
    simp only [liveO_end, set_end, lay, wk3, wk, iaddrV_map, Nat.reduceAdd, Nat.reduceSub, Nat.reduceMul, Nat.reduceLeDiff, Nat.reduceEqDiff, Nat.reduceBEq, Int.reduceLE, Int.reduceLT, Int.reduceEq, Int.reduceNe, Int.reduceAdd, Int.reduceSub, Int.reduceToNat, Int.reduceNeg, ↓reduceIte, reduceCtorEq]
    refine deedO hl (b := H.length + 1 + 1) ?_ ?_ (by omega)
    ·simp [AH.at]
    ·exact drop_two _ _ _ _
   ·have e : snapA l next i = addA l next ⟨0, 2, i, 0, d.files⟩ := by unfold snapA; rw [hg]; exact if_neg h2
    rw [e]
    simp only [h2, cellO, liveO_end, set_end, lay, wk3, wk, iaddrV_map, Nat.reduceAdd, Nat.reduceSub, Nat.reduceMul, Nat.reduceLeDiff, Nat.reduceEqDiff, Nat.reduceBEq, Int.reduceLE, Int.reduceLT, Int.reduceEq, Int.reduceNe, Int.reduceAdd, Int.reduceSub, Int.reduceToNat, Int.reduceNeg, ↓reduceIte, reduceCtorEq]
    refine CT_ok (addE l hl next _ ⟨0, 2, i, 0, d.files⟩ hd _ (view_cellO (at_app.2 (.inl ⟨at_lt hq, hq⟩)) hd _ _ _ _)) ?_
    rintro _ _ ⟨r, tot, rfl, ho⟩
    simp only [liveO_end, set_end, lay, wk3, wk, iaddrV_map, Nat.reduceAdd, Nat.reduceSub, Nat.reduceMul, Nat.reduceLeDiff, Nat.reduceEqDiff, Nat.reduceBEq, Int.reduceLE, Int.reduceLT, Int.reduceEq, Int.reduceNe, Int.reduceAdd, Int.reduceSub, Int.reduceToNat, Int.reduceNeg, ↓reduceIte, reduceCtorEq]
    exact ⟨r, tot, rfl, ho⟩
theorem dcloneE (l : List Dset) (hl : Eight l) (next i : Int) : C Tryz.prog 25 [asets l, .int .i64 next, .int .i64 i] [] (DeedO (cloneA l next i).1.length (cloneA l next i).2) := by
 refine C_body d25 rfl (WT_ok ?_)
 delta c25 I0 I1 I2 I3 I4 I5 I6 I7 I8 I9 KI
 simp only [liveO_end, set_end, lay, wk3, wk, iaddrV_map, Nat.reduceAdd, Nat.reduceSub, Nat.reduceMul, Nat.reduceLeDiff, Nat.reduceEqDiff, Nat.reduceBEq, Int.reduceLE, Int.reduceLT, Int.reduceEq, Int.reduceNe, Int.reduceAdd, Int.reduceSub, Int.reduceToNat, Int.reduceNeg, ↓reduceIte, reduceCtorEq]
 refine CT_ok (getE l hl i _) ?_
 intro y H hy
 cases hg : getA l i with
 | none =>
   have e : cloneA l next i = (l, 2) := by unfold cloneA; rw [hg]
   rw [hg] at hy
   cases hy
   rw [e]
   simp only [liveO_end, set_end, lay, wk3, wk, iaddrV_map, Nat.reduceAdd, Nat.reduceSub, Nat.reduceMul, Nat.reduceLeDiff, Nat.reduceEqDiff, Nat.reduceBEq, Int.reduceLE, Int.reduceLT, Int.reduceEq, Int.reduceNe, Int.reduceAdd, Int.reduceSub, Int.reduceToNat, Int.reduceNeg, ↓reduceIte, reduceCtorEq]
   refine CT_ok (twinE _ l hl _ (view_asets _ _) _ rfl) ?_
   rintro _ _ ⟨rfl, rfl⟩
   simp only [liveO_end, set_end, lay, wk3, wk, iaddrV_map, Nat.reduceAdd, Nat.reduceSub, Nat.reduceMul, Nat.reduceLeDiff, Nat.reduceEqDiff, Nat.reduceBEq, Int.reduceLE, Int.reduceLT, Int.reduceEq, Int.reduceNe, Int.reduceAdd, Int.reduceSub, Int.reduceToNat, Int.reduceNeg, ↓reduceIte, reduceCtorEq]
   refine deedO hl (b := H.length + 1 + 1) ?_ ?_ (by omega)
   ·simp [AH.at]
   ·exact drop_two _ _ _ _
 | some d =>
   have hd := hl.2 d (getA_mem hg).1
   rw [hg] at hy
   obtain ⟨q, rfl, hq⟩ := hy
   by_cases h2 : d.kind = 2
   ·have e : cloneA l next i = addA l next ⟨0, 1, i, 0, d.files⟩ := by unfold cloneA; rw [hg]; exact if_pos h2
    rw [e]
    simp only [h2, cellO, liveO_end, set_end, lay, wk3, wk, iaddrV_map, Nat.reduceAdd, Nat.reduceSub, Nat.reduceMul, Nat.reduceLeDiff, Nat.reduceEqDiff, Nat.reduceBEq, Int.reduceLE, Int.reduceLT, Int.reduceEq, Int.reduceNe, Int.reduceAdd, Int.reduceSub, Int.reduceToNat, Int.reduceNeg, ↓reduceIte, reduceCtorEq]
    refine CT_ok (addE l hl next _ ⟨0, 1, i, 0, d.files⟩ hd _ (view_cellO (at_app.2 (.inl ⟨at_lt hq, hq⟩)) hd _ _ _ _)) ?_
    rintro _ _ ⟨r, tot, rfl, ho⟩
    simp only [liveO_end, set_end, lay, wk3, wk, iaddrV_map, Nat.reduceAdd, Nat.reduceSub, Nat.reduceMul, Nat.reduceLeDiff, Nat.reduceEqDiff, Nat.reduceBEq, Int.reduceLE, Int.reduceLT, Int.reduceEq, Int.reduceNe, Int.reduceAdd, Int.reduceSub, Int.reduceToNat, Int.reduceNeg, ↓reduceIte, reduceCtorEq]
    exact ⟨r, tot, rfl, ho⟩
   ·have e : cloneA l next i = (l, 1) := by unfold cloneA; rw [hg]; exact if_neg h2
    rw [e]
    simp only [h2, cellO, liveO_end, set_end, lay, wk3, wk, iaddrV_map, Nat.reduceAdd, Nat.reduceSub, Nat.reduceMul, Nat.reduceLeDiff, Nat.reduceEqDiff, Nat.reduceBEq, Int.reduceLE, Int.reduceLT, Int.reduceEq, Int.reduceNe, Int.reduceAdd, Int.reduceSub, Int.reduceToNat, Int.reduceNeg, ↓reduceIte, reduceCtorEq]
    refine CT_ok (twinE _ l hl _ (view_asets _ _) _ rfl) ?_
    rintro _ _ ⟨rfl, rfl⟩
    simp only [liveO_end, set_end, lay, wk3, wk, iaddrV_map, Nat.reduceAdd, Nat.reduceSub, Nat.reduceMul, Nat.reduceLeDiff, Nat.reduceEqDiff, Nat.reduceBEq, Int.reduceLE, Int.reduceLT, Int.reduceEq, Int.reduceNe, Int.reduceAdd, Int.reduceSub, Int.reduceToNat, Int.reduceNeg, ↓reduceIte, reduceCtorEq]
    refine deedO hl (b := H.length + 1 + 1) ?_ ?_ (by omega)
    ·simp [AH.at]
    ·exact drop_two _ _ _ _
end Go.Proofs.YtemjlopoffjmpaaGreat.Abs
set_option linter.unusedSimpArgs false
set_option linter.unusedVariables false
namespace Go.Proofs.YtemjlopoffjmpaaGreat.Abs
open Go Go.Proofs
theorem contains63F (l : List Dset) (hl : l.length ≤ 1000000) (g : FuncId) (cap : List AV) (p : Dset → Bool)
 (hf : ∀ d, C Tryz.prog g (AV.agg (cellD d) :: cap) [] (fun x H' => x = .bool (p d) ∧ H' = [])) :
 C Tryz.prog 63 [asets l, .fn (.func g) [] cap] [] (fun x H' => x = .bool (decide (0 ≤ idxA p l)) ∧ H' = []) := by
 refine C_body d63 rfl (WT_ok ?_)
 delta c63 I0 I1 I2 I3 I4 I5 I6 I7 I8 I9 KI
 simp only [asets, lay, wk3, wk, iaddrV_map, Nat.reduceAdd, Nat.reduceSub, Nat.reduceMul, Nat.reduceLeDiff, Nat.reduceEqDiff, Nat.reduceBEq, Int.reduceLE, Int.reduceLT, Int.reduceEq, Int.reduceNe, Int.reduceAdd, Int.reduceSub, Int.reduceToNat, Int.reduceNeg, ↓reduceIte, reduceCtorEq]
 refine CT_ok (index101F l hl [] g cap p hf) ?_
 rintro _ _ ⟨rfl, rfl⟩
 simp only [lay, wk3, wk, iaddrV_map, Nat.reduceAdd, Nat.reduceSub, Nat.reduceMul, Nat.reduceLeDiff, Nat.reduceEqDiff, Nat.reduceBEq, Int.reduceLE, Int.reduceLT, Int.reduceEq, Int.reduceNe, Int.reduceAdd, Int.reduceSub, Int.reduceToNat, Int.reduceNeg, ↓reduceIte, reduceCtorEq]
theorem is64E (d : Dset) (i : Int) : C Tryz.prog 64 [.agg (cellD d), .fptr [.int .i64 i]] [] (fun x H' => x = .bool (decide (d.origin = i)) ∧ H' = []) := by
 refine C_body' d64 rfl (WT_ok ?_)
 delta c64 I0 I1 I2 I3 I4 I5 I6 I7 I8 I9 KI
 simp only [cellD, aset, lay, wk3, wk, iaddrV_map, Nat.reduceAdd, Nat.reduceSub, Nat.reduceMul, Nat.reduceLeDiff, Nat.reduceEqDiff, Nat.reduceBEq, Int.reduceLE, Int.reduceLT, Int.reduceEq, Int.reduceNe, Int.reduceAdd, Int.reduceSub, Int.reduceToNat, Int.reduceNeg, ↓reduceIte, reduceCtorEq]
 exact KWk_bare (by simp [bare]) ⟨rfl, rfl⟩
theorem later77E (d : Dset) (i j : Int) : C Tryz.prog 77 [.agg (cellD d), .fptr [.int .i64 i], .fptr [.int .i64 j]] [] (fun x H' => x = .bool (laterA i j d) ∧ H' = []) := by
 refine C_body' d77 rfl (WT_ok ?_)
 delta c77 I0 I1 I2 I3 I4 I5 I6 I7 I8 I9 KI
 unfold laterA
 simp only [cellD, aset, lay, wk3, wk, iaddrV_map, Nat.reduceAdd, Nat.reduceSub, Nat.reduceMul, Nat.reduceLeDiff, Nat.reduceEqDiff, Nat.reduceBEq, Int.reduceLE, Int.reduceLT, Int.reduceEq, Int.reduceNe, Int.reduceAdd, Int.reduceSub, Int.reduceToNat, Int.reduceNeg, ↓reduceIte, reduceCtorEq]
 refine guard_both ?_ ?_ <;> intro h <;> simp only [hy] at h
 ·simp only [h, cellD, aset, lay, wk3, wk, iaddrV_map, Nat.reduceAdd, Nat.reduceSub, Nat.reduceMul, Nat.reduceLeDiff, Nat.reduceEqDiff, Nat.reduceBEq, Int.reduceLE, Int.reduceLT, Int.reduceEq, Int.reduceNe, Int.reduceAdd, Int.reduceSub, Int.reduceToNat, Int.reduceNeg, ↓reduceIte, reduceCtorEq]
  refine guard_both ?_ ?_ <;> intro h2 <;> simp only [hy] at h2
  ·simp only [h, h2, cellD, aset, lay, wk3, wk, iaddrV_map, Nat.reduceAdd, Nat.reduceSub, Nat.reduceMul, Nat.reduceLeDiff, Nat.reduceEqDiff, Nat.reduceBEq, Int.reduceLE, Int.reduceLT, Int.reduceEq, Int.reduceNe, Int.reduceAdd, Int.reduceSub, Int.reduceToNat, Int.reduceNeg, ↓reduceIte, reduceCtorEq]
   exact KWk_bare (by simp [bare]) ⟨rfl, rfl⟩
  ·simp only [h, h2, cellD, aset, lay, wk3, wk, iaddrV_map, Nat.reduceAdd, Nat.reduceSub, Nat.reduceMul, Nat.reduceLeDiff, Nat.reduceEqDiff, Nat.reduceBEq, Int.reduceLE, Int.reduceLT, Int.reduceEq, Int.reduceNe, Int.reduceAdd, Int.reduceSub, Int.reduceToNat, Int.reduceNeg, ↓reduceIte, reduceCtorEq]
   refine KWk_bare (by simp [bare]) ⟨?_, rfl⟩
   first | rfl | simp
 ·simp only [h, cellD, aset, lay, wk3, wk, iaddrV_map, Nat.reduceAdd, Nat.reduceSub, Nat.reduceMul, Nat.reduceLeDiff, Nat.reduceEqDiff, Nat.reduceBEq, Int.reduceLE, Int.reduceLT, Int.reduceEq, Int.reduceNe, Int.reduceAdd, Int.reduceSub, Int.reduceToNat, Int.reduceNeg, ↓reduceIte, reduceCtorEq]
  refine KWk_bare (by simp [bare]) ⟨?_, rfl⟩
  first | rfl | simp
theorem view_box {H : AH} {r : Nat} {i : Int} (h : H.at r = some [[.int .i64 i]]) : viewA H (.ptr r 0 0 1) = .fptr [.int .i64 i] := by
 simp only [viewA]
 have h1 : liveO H r 1 = some [[.int .i64 i]] := liveO_at h rfl
 rw [viewP, h1]
 simp [viewP, toPV, emb]
theorem hangsE (l : List Dset) (hl : l.length ≤ 1000000) (i : Int) (H : AH) (v p : AV) (hv : viewA H v = asets l) (hp : viewA H p = .fptr [.int .i64 i]) : C Tryz.prog 63 [v, .fn (.func 64) [] [p]] H (fun x H' => x = .bool (hangsA l i) ∧ H' = H) :=
 C_flat (K0 := fun x H' => x = .bool (decide (0 ≤ idxA (fun d => decide (d.origin = i)) l)) ∧ H' = []) (by simpa [viewL, viewA, hv, hp] using contains63F l hl 64 [.fptr [.int .i64 i]] _ (fun d => is64E d i)) (by rintro x _ ⟨rfl, rfl⟩; exact ⟨rfl, rfl, rfl⟩)
theorem laterE (l : List Dset) (hl : l.length ≤ 1000000) (i j : Int) (H : AH) (v p p' : AV) (hv : viewA H v = asets l) (hp : viewA H p = .fptr [.int .i64 i]) (hp' : viewA H p' = .fptr [.int .i64 j]) : C Tryz.prog 63 [v, .fn (.func 77) [] [p, p']] H (fun x H' => x = .bool (decide (0 ≤ idxA (laterA i j) l)) ∧ H' = H) :=
 C_flat (K0 := fun x H' => x = .bool (decide (0 ≤ idxA (laterA i j) l)) ∧ H' = []) (by simpa [viewL, viewA, hv, hp, hp'] using contains63F l hl 77 [.fptr [.int .i64 i], .fptr [.int .i64 j]] _ (fun d => later77E d i j)) (by rintro x _ ⟨rfl, rfl⟩; exact ⟨rfl, rfl, rfl⟩)
theorem deleteE (cs : AObj) (n : Nat) (hlen : cs.length = n) (hl : n ≤ 1000000) (h5 : cs.all (fun e => decide (e.length = 5)) = true) (i : Nat) (hi : i < n) (b : AObj) (F : AH) :
 C Tryz.prog 65 [.own 1 5 0 n n, .int .i64 i, .int .i64 ((i + 1 : Nat) : Int)] (some b :: some cs :: F) (fun x H' => x = .own 1 5 0 (n - 1) n ∧ H' = some b :: some (cs.take i ++ cs.drop (i + 1) ++ [zeroC]) :: F) := by
 refine C_body d65 rfl (WT_ok ?_)
 delta c65 I0 I1 I2 I3 I4 I5 I6 I7 I8 I9 KI
 have h1 : ¬ (i : Int) = ((i + 1 : Nat) : Int) := by omega
 simp only [h1, hlen, lay, wk4, wk3, wk, iaddrV_map, Nat.reduceAdd, Nat.reduceSub, Nat.reduceMul, Nat.reduceLeDiff, Nat.reduceEqDiff, Nat.reduceBEq, Int.reduceLE, Int.reduceLT, Int.reduceEq, Int.reduceNe, Int.reduceAdd, Int.reduceSub, Int.reduceToNat, Int.reduceNeg, ↓reduceIte, reduceCtorEq]
 refine ⟨⟨by omega, by omega⟩, ⟨by omega, by omega⟩, ⟨by omega, by omega⟩, ?_⟩
 refine WT_drawE ?_
 refine WDT_more 0 ?_
 have h2 : ¬ i + 1 = 0 := by omega
 by_cases h3 : n ≤ i + 1
 ·have hA : ∀ z, appendV (some b :: some cs :: F) 5 56 z (.own 1 5 0 i n) (.fz []) = some (.own 1 5 0 i n, some b :: some cs :: F) := fun z => appendV_in _ _ _ _ _ _ _ _ _ (by
   simp [apI, srcOf, elemsOf, liveO, AH.at, hlen]; omega)
  simp only [h2, h3, hlen, lay, wk4, wk3, wk, iaddrV_map, Nat.reduceAdd, Nat.reduceSub, Nat.reduceMul, Nat.reduceLeDiff, Nat.reduceEqDiff, Nat.reduceBEq, Int.reduceLE, Int.reduceLT, Int.reduceEq, Int.reduceNe, Int.reduceAdd, Int.reduceSub, Int.reduceToNat, Int.reduceNeg, ↓reduceIte, reduceCtorEq]
  refine ⟨⟨by omega, by omega⟩, ⟨by omega, by omega⟩, by rfl, ?_⟩
  simp only [hA, hlen, lay, wk4, wk3, wk, iaddrV_map, Nat.reduceAdd, Nat.reduceSub, Nat.reduceMul, Nat.reduceLeDiff, Nat.reduceEqDiff, Nat.reduceBEq, Int.reduceLE, Int.reduceLT, Int.reduceEq, Int.reduceNe, Int.reduceAdd, Int.reduceSub, Int.reduceToNat, Int.reduceNeg, ↓reduceIte, reduceCtorEq]
  by_cases h0 : i = 0
  ·subst h0
   have : n = 1 := by omega
   subst this
   simp only [hlen, lay, wk4, wk3, wk, iaddrV_map, Nat.reduceAdd, Nat.reduceSub, Nat.reduceMul, Nat.reduceLeDiff, Nat.reduceEqDiff, Nat.reduceBEq, Int.reduceLE, Int.reduceLT, Int.reduceEq, Int.reduceNe, Int.reduceAdd, Int.reduceSub, Int.reduceToNat, Int.reduceNeg, ↓reduceIte, reduceCtorEq]
   refine ⟨by omega, by omega, ?_⟩
   rw [List.drop_of_length_le (by omega)]; rfl
  ·have h4 : ¬ n ≤ i := by omega
   simp only [h0, h4, hlen, lay, wk4, wk3, wk, iaddrV_map, Nat.reduceAdd, Nat.reduceSub, Nat.reduceMul, Nat.reduceLeDiff, Nat.reduceEqDiff, Nat.reduceBEq, Int.reduceLE, Int.reduceLT, Int.reduceEq, Int.reduceNe, Int.reduceAdd, Int.reduceSub, Int.reduceToNat, Int.reduceNeg, ↓reduceIte, reduceCtorEq]
   have hi1 : i = n - 1 := by omega
   refine ⟨⟨by omega, by omega⟩, ⟨by omega, by omega⟩, by omega, by rw [hi1], ?_⟩
   rw [List.drop_of_length_le (by omega), List.drop_of_length_le (by omega), show n - i = 1 by omega]
   simp only [List.append_nil]; rfl
 ·have hB : ∀ z, appendV (some b :: some cs :: F) 5 56 z (.own 1 5 0 i n) (.own 1 5 (i + 1) (n - (i + 1)) n) = some (.own 1 5 0 (n - 1) n, some b :: some (cs.take i ++ cs.drop (i + 1) ++ cs.drop (n - 1)) :: F) := fun z => appendV_in _ _ _ _ _ _ _ _ _ (by
   have e1 : (cs.drop (i + 1)).take (n - (i + 1)) = cs.drop (i + 1) := List.take_of_length_le (by simp [hlen])
   have e2 : i + (n - (i + 1)) = n - 1 := by omega
   have e3 : (cs.drop (i + 1)).all (fun e => decide (e.length = 5)) = true := by
    rw [List.all_eq_true] at h5 ⊢
    exact fun e he => h5 e (List.mem_of_mem_drop he)
   have e4 : srcOf (some b :: some cs :: F) (.own 1 5 (i + 1) (n - (i + 1)) n) = some (cs.drop (i + 1)) := by
    rw [srcOf_own, liveO_cons_succ, liveO_cons_zero, if_pos hlen, elC_some, if_pos (by omega), e1]
   rw [e4, liveO_cons_succ, liveO_cons_zero, if_pos hlen, apI_some, if_pos ⟨e3, by simp [hlen]; omega, by omega⟩]
   simp only [List.length_drop, hlen, Nat.zero_add, e2, List.set_cons_zero, List.set_cons_succ])
  have hos : (cs.take i ++ cs.drop (i + 1) ++ cs.drop (n - 1)).length = n := by simp [hlen]; omega
  have hot : (cs.take i ++ cs.drop (i + 1) ++ cs.drop (n - 1)).take (n - 1) = cs.take i ++ cs.drop (i + 1) := by
   rw [List.take_append_of_le_length (by simp [hlen]; omega), List.take_of_length_le (by simp [hlen]; omega)]
  generalize cs.take i ++ cs.drop (i + 1) ++ cs.drop (n - 1) = os at hB hos hot
  rw [← hot]
  have h4 : ¬ n - 1 = 0 := by omega
  have h6 : ¬ n ≤ n - 1 := by omega
  simp only [h2, h3, hlen, lay, wk4, wk3, wk, iaddrV_map, Nat.reduceAdd, Nat.reduceSub, Nat.reduceMul, Nat.reduceLeDiff, Nat.reduceEqDiff, Nat.reduceBEq, Int.reduceLE, Int.reduceLT, Int.reduceEq, Int.reduceNe, Int.reduceAdd, Int.reduceSub, Int.reduceToNat, Int.reduceNeg, ↓reduceIte, reduceCtorEq]
  refine ⟨⟨by omega, by omega⟩, ⟨by omega, by omega⟩, by rfl, ?_⟩
  simp only [hB, h4, h6, hos, hlen, lay, wk4, wk3, wk, iaddrV_map, Nat.reduceAdd, Nat.reduceSub, Nat.reduceMul, Nat.reduceLeDiff, Nat.reduceEqDiff, Nat.reduceBEq, Int.reduceLE, Int.reduceLT, Int.reduceEq, Int.reduceNe, Int.reduceAdd, Int.reduceSub, Int.reduceToNat, Int.reduceNeg, ↓reduceIte, reduceCtorEq]
  refine ⟨⟨by omega, by omega⟩, ⟨by omega, by omega⟩, by omega, ?_⟩
  rw [List.drop_of_length_le (by omega), show n - (n - 1) = 1 by omega]
  simp only [List.append_nil]; rfl
theorem rows5O (l : List Dset) (b : Nat) : (rowsO l b).all (fun e => decide (e.length = 5)) = true := by
 induction l generalizing b with
 | nil => rfl
 | cons d l ih => simp [rowsO, cellO, ih]
theorem mapH_objs (N : Nat) (l : List Dset) : mapH (renL (upTo N)) (objsO l) = objsO l := by
 unfold mapH objsO
 rw [List.map_map]
 apply List.map_congr_left
 intro d _
 have h : (nodesO d.files).map (renL (upTo N)) = nodesO d.files := by
  unfold nodesO
  rw [List.map_map]
  apply List.map_congr_left
  intro x _
  simp [cellsN, renL, ren]
 simp only [Function.comp_apply, Option.map_some, h]
theorem renL_rows (N : Nat) : ∀ (l : List Dset) (b : Nat), b + l.length ≤ N → (rowsO l b).map (renL (upTo N)) = rowsO l b
 | [], _, _ => rfl
 | d :: l, b, h => by
   simp only [List.length_cons] at h
   have := renL_rows N l (b + 1) (by omega)
   simp only [rowsO, List.map_cons, this]
   congr 1
   simp [cellO, renL, ren, upTo, show b < N by omega]
theorem Wk_tail2 {fr fr' : List AV} {o : AObj} {l l' : List Dset} {G : AH} (N : Nat) (hN : N = 2 + l.length) (hl : l'.length = l.length) (ho : o.map (renL (upTo N)) = o) (h : Tops fr' (renL (upTo N) fr)) :
 Wk 0 fr (some o :: some (rowsO l' 2) :: (objsO l ++ G)) fr' (some o :: some (rowsO l' 2) :: objsO l) := by
 have h1 := (Wk_forget (n0 := 0) (fr := fr) (H := some o :: some (rowsO l' 2) :: (objsO l ++ G)) N (Nat.zero_le _)).trans (Wk_tops h)
 have e : mapH (renL (upTo N)) ((some o :: some (rowsO l' 2) :: (objsO l ++ G)).take N) = some o :: some (rowsO l' 2) :: objsO l := by
  subst hN
  have h2 := mapH_objs (2 + l.length) l
  have h3 := renL_rows (2 + l.length) l' 2 (by omega)
  rw [show 2 + l.length = l.length + 1 + 1 by omega] at *
  simp only [List.take_succ_cons]
  rw [List.take_left' (objsO_len l)]
  unfold mapH at h2 ⊢
  simp only [List.map_cons, Option.map_some, ho, h3, h2]
 rwa [e] at h1
theorem Wk_tail1 {fr fr' : List AV} {l l' : List Dset} {G : AH} (N : Nat) (hN : N = 1 + l.length) (hl : l'.length = l.length) (h : Tops fr' (renL (upTo N) fr)) :
 Wk 0 fr (some (rowsO l' 1) :: (objsO l ++ G)) fr' (some (rowsO l' 1) :: objsO l) := by
 have h1 := (Wk_forget (n0 := 0) (fr := fr) (H := some (rowsO l' 1) :: (objsO l ++ G)) N (Nat.zero_le _)).trans (Wk_tops h)
 have e : mapH (renL (upTo N)) ((some (rowsO l' 1) :: (objsO l ++ G)).take N) = some (rowsO l' 1) :: objsO l := by
  subst hN
  have h2 := mapH_objs (1 + l.length) l
  have h3 := renL_rows (1 + l.length) l' 1 (by omega)
  rw [show 1 + l.length = l.length + 1 by omega] at *
  simp only [List.take_succ_cons]
  rw [List.take_left' (objsO_len l)]
  unfold mapH at h2 ⊢
  simp only [List.map_cons, Option.map_some, h3, h2]
 rwa [e] at h1
theorem OwnR.del {l : List Dset} {b : AObj} {k : Nat} (hl : Eight l) (hk : k < l.length) : OwnR (some b :: some ((rowsO l 2).take k ++ (rowsO l 2).drop (k + 1) ++ [zeroC]) :: objsO l) 1 l.length (l.length - 1) := by
 have hlen := rowsO_len l 2
 refine ⟨_, rfl, by simp [hlen]; omega, by omega, fun j hj => ?_⟩
 have row : ∀ m, m < l.length → RowV (some b :: some ((rowsO l 2).take k ++ (rowsO l 2).drop (k + 1) ++ [zeroC]) :: objsO l) 1 (cellO (l.getD m default) (2 + m)) := fun m hm =>
  ⟨_, _, _, _, 2 + m, _, rfl, by omega, by rw [at_drop (b := 2) (G := objsO l) rfl]; exact objsO_at hm, by rw [nodesO, List.length_map]; exact hl.get hm, nodes_rows _⟩
 rcases Nat.lt_or_ge j k with h | h
 ·refine ⟨_, ?_, row j (by omega)⟩
  rw [List.append_assoc, List.getElem?_append_left (by simp [hlen]; omega), List.getElem?_take, if_pos h, rowsO_at l 2 j (by omega)]
 ·refine ⟨_, ?_, row (j + 1) (by omega)⟩
  rw [List.append_assoc, List.getElem?_append_right (by simp [hlen]; omega), List.getElem?_append_left (by simp [hlen]; omega), List.getElem?_drop, List.length_take, hlen, Nat.min_eq_left (by omega), show k + 1 + (j - k) = j + 1 by omega, rowsO_at l 2 (j + 1) (by omega)]
end Go.Proofs.YtemjlopoffjmpaaGreat.Abs
set_option linter.unusedSimpArgs false
set_option linter.unusedVariables false
namespace Go.Proofs.YtemjlopoffjmpaaGreat.Abs
open Go Go.Proofs
theorem destroyE (l : List Dset) (hl : Eight l) (i : Int) : C Tryz.prog 32 [asets l, .int .i64 i] [] (DeedO (destroyA l i).1.length (destroyA l i).2) := by
 have hl1 := hl.1
 have hro := rowsO_len l 2
 have hat : ∀ (o : AObj), viewA (some o :: some (rowsO l 2) :: objsO l) (.own 1 5 0 l.length l.length) = asets l := fun o => view_rows (b := 2) hl (.drop rfl rfl)
 refine C_body d32 rfl (WT_ok ?_)
 delta c32 I0 I1 I2 I3 I4 I5 I6 I7 I8 I9 KI
 simp only [lay, wk3, wk, iaddrV_map, Nat.reduceAdd, Nat.reduceSub, Nat.reduceMul, Nat.reduceLeDiff, Nat.reduceEqDiff, Nat.reduceBEq, Int.reduceLE, Int.reduceLT, Int.reduceEq, Int.reduceNe, Int.reduceAdd, Int.reduceSub, Int.reduceToNat, Int.reduceNeg, ↓reduceIte, reduceCtorEq]
 refine CT_ok (twinE _ l hl _ (view_asets _ _) 1 rfl) ?_
 rintro _ _ ⟨rfl, rfl⟩
 simp only [lay, wk3, wk, iaddrV_map, Nat.reduceAdd, Nat.reduceSub, Nat.reduceMul, Nat.reduceLeDiff, Nat.reduceEqDiff, Nat.reduceBEq, Int.reduceLE, Int.reduceLT, Int.reduceEq, Int.reduceNe, Int.reduceAdd, Int.reduceSub, Int.reduceToNat, Int.reduceNeg, ↓reduceIte, reduceCtorEq]
 refine CT_ok (findE _ l hl1 i _ (hat _)) ?_
 rintro _ _ ⟨rfl, rfl⟩
 simp only [hro, lay, wk3, wk, iaddrV_map, Nat.reduceAdd, Nat.reduceSub, Nat.reduceMul, Nat.reduceLeDiff, Nat.reduceEqDiff, Nat.reduceBEq, Int.reduceLE, Int.reduceLT, Int.reduceEq, Int.reduceNe, Int.reduceAdd, Int.reduceSub, Int.reduceToNat, Int.reduceNeg, ↓reduceIte, reduceCtorEq]
 refine WT_loop (W_wk (fr' := [asets l, .int .i64 i, .top, .ptr 0 0 0 1, .emp, .int .i64 0, .own 1 5 0 l.length l.length, .own 1 5 0 l.length l.length, .int .i64 (findA l i), .int .i64 0, .top, .top, .top, .top, .top, .top, .top, .top, .own 1 5 0 l.length l.length, .int .i64 l.length, .int .i64 0] ++ List.replicate 33 .top) (Wk_tops ?_) (W_loop (fun n fr H' => ∃ k : Nat, k ≤ l.length ∧ n = l.length - k ∧ H' = some [[.int .i64 i]] :: some (rowsO l 2) :: objsO l ∧
  fr = [asets l, .int .i64 i, .top, .ptr 0 0 0 1, .emp, .int .i64 0, .own 1 5 0 l.length l.length, .own 1 5 0 l.length l.length, .int .i64 (findA l i), .int .i64 (livesA (l.take k)), .top, .top, .top, .top, .top, .top, .top, .top, .own 1 5 0 l.length l.length, .int .i64 l.length, .int .i64 k] ++ List.replicate 33 .top) l.length ⟨0, by omega, rfl, rfl, rfl⟩ ?_))
 ·simp only [tp]
 rintro n fr H' ⟨k, hk, rfl, rfl, rfl⟩
 refine WT_ok ?_
 simp only [hro, lay, wk4, wk3, wk, iaddrV_map, Nat.reduceAdd, Nat.reduceSub, Nat.reduceMul, Nat.reduceLeDiff, Nat.reduceEqDiff, Nat.reduceBEq, Int.reduceLE, Int.reduceLT, Int.reduceEq, Int.reduceNe, Int.reduceAdd, Int.reduceSub, Int.reduceToNat, Int.reduceNeg, ↓reduceIte, reduceCtorEq]
 refine guard_both ?_ ?_ <;> intro h <;> simp only [hy] at h
 ·have hk2 : k < l.length := by omega
  have hc := rowsO_at l 2 k hk2
  have ht := livesA_take l k hk2
  have hle := livesA_le (l.take k)
  have hle2 : (l.take k).length ≤ l.length := by simp; omega
  have w2 : IntKind.i64.wrap ((k : Int) + 1) = (k : Int) + 1 := IntWalk.i64_in _ (by omega)
  have w3 : IntKind.i64.wrap ((livesA (l.take k) : Int) + 1) = ((livesA (l.take k) + 1 : Nat) : Int) := by rw [IntWalk.i64_in _ (by omega)]; omega
  have h0 : (0 : Int) ≤ k := by omega
  have n0 : 0 < 2 + l.length := by omega
  have n1 : 1 < 2 + l.length := by omega
  generalize l.getD k default = d at hc ht
  by_cases h1 : d.kind = 1
  ·rw [if_pos h1] at ht
   simp only [h, h0, hc, hro, h1, w2, w3, liveO_end, set_end, cellO, aset, lay, wk4, wk3, wk, iaddrV_map, Nat.reduceAdd, Nat.reduceSub, Nat.reduceMul, Nat.reduceLeDiff, Nat.reduceEqDiff, Nat.reduceBEq, Int.reduceLE, Int.reduceLT, Int.reduceEq, Int.reduceNe, Int.reduceAdd, Int.reduceSub, Int.reduceToNat, Int.reduceNeg, ↓reduceIte, reduceCtorEq]
   refine QLoop_wk (n' := l.length - (k + 1)) (by omega) ⟨k + 1, by omega, rfl, rfl, rfl⟩ (Wk_tail2 (2 + l.length) rfl rfl (renO_box _ _ _) ?_)
   simp only [ht, renL, ren, asets, upTo, n0, n1, if_true, tq]
  ·replace ht : livesA (l.take (k + 1)) = livesA (l.take k) := by rw [ht, if_neg h1]; rfl
   simp only [h, h0, hc, hro, h1, w2, liveO_end, set_end, cellO, aset, lay, wk4, wk3, wk, iaddrV_map, Nat.reduceAdd, Nat.reduceSub, Nat.reduceMul, Nat.reduceLeDiff, Nat.reduceEqDiff, Nat.reduceBEq, Int.reduceLE, Int.reduceLT, Int.reduceEq, Int.reduceNe, Int.reduceAdd, Int.reduceSub, Int.reduceToNat, Int.reduceNeg, ↓reduceIte, reduceCtorEq]
   refine QLoop_wk (n' := l.length - (k + 1)) (by omega) ⟨k + 1, by omega, rfl, rfl, rfl⟩ (Wk_tail2 (2 + l.length) rfl rfl (renO_box _ _ _) ?_)
   simp only [ht, renL, ren, asets, upTo, n0, n1, if_true, tq]
 ·have : k = l.length := by omega
  subst this
  have hl2 : l.take l.length = l := List.take_length
  have hle := livesA_le l
  simp only [h, hl2, lay, wk4, wk3, wk, iaddrV_map, Nat.reduceAdd, Nat.reduceSub, Nat.reduceMul, Nat.reduceLeDiff, Nat.reduceEqDiff, Nat.reduceBEq, Int.reduceLE, Int.reduceLT, Int.reduceEq, Int.reduceNe, Int.reduceAdd, Int.reduceSub, Int.reduceToNat, Int.reduceNeg, ↓reduceIte, reduceCtorEq]
  rcases find_of (l := l) (i := i) with ⟨e, _⟩ | ⟨k, e, hk3, _, _⟩
  ·have hA : destroyA l i = (l, 2) := by unfold destroyA; rw [e]; rfl
   simp only [e, hA, lay, wk4, wk3, wk, iaddrV_map, Nat.reduceAdd, Nat.reduceSub, Nat.reduceMul, Nat.reduceLeDiff, Nat.reduceEqDiff, Nat.reduceBEq, Int.reduceLE, Int.reduceLT, Int.reduceEq, Int.reduceNe, Int.reduceAdd, Int.reduceSub, Int.reduceToNat, Int.reduceNeg, ↓reduceIte, reduceCtorEq]
   exact deedO hl (b := 2) rfl rfl (by omega)
  ·have hc := rowsO_at l 2 k hk3
   have h0 : (0 : Int) ≤ k := by omega
   have h1 : (k : Int) < l.length := by omega
   have h2 : ¬ (k : Int) < 0 := by omega
   have w2 : IntKind.i64.wrap ((k : Int) + 1) = ((k + 1 : Nat) : Int) := by rw [IntWalk.i64_in _ (by omega)]; omega
   simp only [e, h2, lay, wk4, wk3, wk, iaddrV_map, Nat.reduceAdd, Nat.reduceSub, Nat.reduceMul, Nat.reduceLeDiff, Nat.reduceEqDiff, Nat.reduceBEq, Int.reduceLE, Int.reduceLT, Int.reduceEq, Int.reduceNe, Int.reduceAdd, Int.reduceSub, Int.reduceToNat, Int.reduceNeg, ↓reduceIte, reduceCtorEq]
   refine CT_ok (hangsE l hl1 i _ _ _ (hat _) (view_box rfl)) ?_
   rintro _ _ ⟨rfl, rfl⟩
   have hlen2 : (l.eraseIdx k).length = l.length - 1 := by rw [List.length_eraseIdx, if_pos hk3]
   cases hh : hangsA l i
   ·by_cases hk1 : (l.getD k default).kind = 1
    ·by_cases hk4 : (livesA l : Int) = 1
     ·have hA : destroyA l i = (l, 10) := by unfold destroyA; rw [e, if_neg h2, if_pos (.inr ⟨by rw [Int.toNat_natCast]; exact hk1, by omega⟩)]
      simp only [hA, hc, hro, h0, h1, hk1, hk4, cellO, lay, wk4, wk3, wk, iaddrV_map, Nat.reduceAdd, Nat.reduceSub, Nat.reduceMul, Nat.reduceLeDiff, Nat.reduceEqDiff, Nat.reduceBEq, Int.reduceLE, Int.reduceLT, Int.reduceEq, Int.reduceNe, Int.reduceAdd, Int.reduceSub, Int.reduceToNat, Int.reduceNeg, ↓reduceIte, reduceCtorEq]
      exact deedO hl (b := 2) rfl rfl (by omega)
     ·have hA : destroyA l i = (l.eraseIdx k, 0) := by unfold destroyA; rw [e, if_neg h2, if_neg (fun h => h.elim (fun h => by rw [hh] at h; cases h) (fun h => hk4 (by omega))), Int.toNat_natCast]
      simp only [hA, hc, hro, h0, h1, hk1, hk4, w2, cellO, lay, wk4, wk3, wk, iaddrV_map, Nat.reduceAdd, Nat.reduceSub, Nat.reduceMul, Nat.reduceLeDiff, Nat.reduceEqDiff, Nat.reduceBEq, Int.reduceLE, Int.reduceLT, Int.reduceEq, Int.reduceNe, Int.reduceAdd, Int.reduceSub, Int.reduceToNat, Int.reduceNeg, ↓reduceIte, reduceCtorEq]
      refine CT_ok (deleteE (rowsO l 2) l.length hro hl1 (rows5O l 2) k hk3 _ _) ?_
      rintro _ _ ⟨rfl, rfl⟩
      simp only [lay, wk4, wk3, wk, iaddrV_map, Nat.reduceAdd, Nat.reduceSub, Nat.reduceMul, Nat.reduceLeDiff, Nat.reduceEqDiff, Nat.reduceBEq, Int.reduceLE, Int.reduceLT, Int.reduceEq, Int.reduceNe, Int.reduceAdd, Int.reduceSub, Int.reduceToNat, Int.reduceNeg, ↓reduceIte, reduceCtorEq]
      exact hA ▸ ⟨1, l.length, by rw [hlen2], by rw [hlen2]; exact .del hl hk3⟩
    ·have hA : destroyA l i = (l.eraseIdx k, 0) := by unfold destroyA; rw [e, if_neg h2, if_neg (fun h => h.elim (fun h => by rw [hh] at h; cases h) (fun h => hk1 (by rw [← h.1, Int.toNat_natCast]))), Int.toNat_natCast]
     simp only [hA, hc, hro, h0, h1, hk1, w2, cellO, lay, wk4, wk3, wk, iaddrV_map, Nat.reduceAdd, Nat.reduceSub, Nat.reduceMul, Nat.reduceLeDiff, Nat.reduceEqDiff, Nat.reduceBEq, Int.reduceLE, Int.reduceLT, Int.reduceEq, Int.reduceNe, Int.reduceAdd, Int.reduceSub, Int.reduceToNat, Int.reduceNeg, ↓reduceIte, reduceCtorEq]
     refine CT_ok (deleteE (rowsO l 2) l.length hro hl1 (rows5O l 2) k hk3 _ _) ?_
     rintro _ _ ⟨rfl, rfl⟩
     simp only [lay, wk4, wk3, wk, iaddrV_map, Nat.reduceAdd, Nat.reduceSub, Nat.reduceMul, Nat.reduceLeDiff, Nat.reduceEqDiff, Nat.reduceBEq, Int.reduceLE, Int.reduceLT, Int.reduceEq, Int.reduceNe, Int.reduceAdd, Int.reduceSub, Int.reduceToNat, Int.reduceNeg, ↓reduceIte, reduceCtorEq]
     exact hA ▸ ⟨1, l.length, by rw [hlen2], by rw [hlen2]; exact .del hl hk3⟩
   ·have hA : destroyA l i = (l, 10) := by unfold destroyA; rw [e, if_neg h2, if_pos (.inl hh)]
    simp only [hA, lay, wk4, wk3, wk, iaddrV_map, Nat.reduceAdd, Nat.reduceSub, Nat.reduceMul, Nat.reduceLeDiff, Nat.reduceEqDiff, Nat.reduceBEq, Int.reduceLE, Int.reduceLT, Int.reduceEq, Int.reduceNe, Int.reduceAdd, Int.reduceSub, Int.reduceToNat, Int.reduceNeg, ↓reduceIte, reduceCtorEq]
    exact deedO hl (b := 2) rfl rfl (by omega)
end Go.Proofs.YtemjlopoffjmpaaGreat.Abs
set_option linter.unusedSimpArgs false
set_option linter.unusedVariables false
namespace Go.Proofs.YtemjlopoffjmpaaGreat.Abs
open Go Go.Proofs
theorem rowsO_set : ∀ (l : List Dset) (b k : Nat) (d : Dset), (rowsO l b).set k (cellO d (b + k)) = rowsO (l.set k d) b
 | [], _, _, _ => rfl
 | x :: l, b, 0, d => rfl
 | x :: l, b, k + 1, d => by
   have := rowsO_set l (b + 1) k d
   rw [show b + 1 + k = b + (k + 1) by omega] at this
   simp only [rowsO, List.set_cons_succ, this]
theorem rowsO_same {l : List Dset} {b k : Nat} (hk : k < l.length) : (rowsO l b).set k (cellO (l.getD k default) (b + k)) = rowsO l b := by
 rw [rowsO_set, List.getD_eq_getElem?_getD, List.getElem?_eq_getElem hk, Option.getD_some, List.set_getElem_self]
theorem promoteE (l : List Dset) (hl : Eight l) (i : Int) : C Tryz.prog 29 [asets l, .int .i64 i] [] (DeedO (promoteA l i).1.length (promoteA l i).2) := by
 have hl1 := hl.1
 have hat : viewA (some (rowsO l 1) :: objsO l) (.own 0 5 0 l.length l.length) = asets l := view_rows (b := 1) hl (.drop rfl rfl)
 refine C_body d29 rfl (WT_ok ?_)
 delta c29 I0 I1 I2 I3 I4 I5 I6 I7 I8 I9 KI
 simp only [lay, wk3, wk, iaddrV_map, Nat.reduceAdd, Nat.reduceSub, Nat.reduceMul, Nat.reduceLeDiff, Nat.reduceEqDiff, Nat.reduceBEq, Int.reduceLE, Int.reduceLT, Int.reduceEq, Int.reduceNe, Int.reduceAdd, Int.reduceSub, Int.reduceToNat, Int.reduceNeg, ↓reduceIte, reduceCtorEq]
 refine CT_ok (twinE _ l hl _ (view_asets _ _) 0 rfl) ?_
 rintro _ _ ⟨rfl, rfl⟩
 simp only [lay, wk3, wk, iaddrV_map, Nat.reduceAdd, Nat.reduceSub, Nat.reduceMul, Nat.reduceLeDiff, Nat.reduceEqDiff, Nat.reduceBEq, Int.reduceLE, Int.reduceLT, Int.reduceEq, Int.reduceNe, Int.reduceAdd, Int.reduceSub, Int.reduceToNat, Int.reduceNeg, ↓reduceIte, reduceCtorEq]
 refine CT_ok (findE _ l hl1 i _ hat) ?_
 rintro _ _ ⟨rfl, rfl⟩
 simp only [lay, wk3, wk, iaddrV_map, Nat.reduceAdd, Nat.reduceSub, Nat.reduceMul, Nat.reduceLeDiff, Nat.reduceEqDiff, Nat.reduceBEq, Int.reduceLE, Int.reduceLT, Int.reduceEq, Int.reduceNe, Int.reduceAdd, Int.reduceSub, Int.reduceToNat, Int.reduceNeg, ↓reduceIte, reduceCtorEq]
 rcases find_of (l := l) (i := i) with ⟨e, _⟩ | ⟨k, e, hk, _, _⟩
 ·have hA : promoteA l i = (l, 2) := by unfold promoteA; rw [if_pos (by omega)]
  simp only [e, lay, wk3, wk, iaddrV_map, Nat.reduceAdd, Nat.reduceSub, Nat.reduceMul, Nat.reduceLeDiff, Nat.reduceEqDiff, Nat.reduceBEq, Int.reduceLE, Int.reduceLT, Int.reduceEq, Int.reduceNe, Int.reduceAdd, Int.reduceSub, Int.reduceToNat, Int.reduceNeg, ↓reduceIte, reduceCtorEq]
  rw [hA]; exact deedO hl (b := 1) rfl rfl (by omega)
 have hc := rowsO_at l 1 k hk
 have h0 : (0 : Int) ≤ k := by omega
 have h1 : (k : Int) < l.length := by omega
 have h2 : ¬ (k : Int) < 0 := by omega
 by_cases g1 : (l.getD k default).kind = 1
 case neg =>
  have hA : promoteA l i = (l, 1) := by unfold promoteA; rw [if_neg (by omega)]; simp only [e, Int.toNat_natCast]; rw [if_pos (.inl g1)]
  simp only [e, h0, h1, h2, hc, g1, cellO, rowsO_len, lay, wk3, wk, iaddrV_map, Nat.reduceAdd, Nat.reduceSub, Nat.reduceMul, Nat.reduceLeDiff, Nat.reduceEqDiff, Nat.reduceBEq, Int.reduceLE, Int.reduceLT, Int.reduceEq, Int.reduceNe, Int.reduceAdd, Int.reduceSub, Int.reduceToNat, Int.reduceNeg, ↓reduceIte, reduceCtorEq]
  rw [hA]; exact deedO hl (b := 1) rfl rfl (by omega)
 by_cases g2 : (l.getD k default).origin = 0
 ·have hA : promoteA l i = (l, 1) := by unfold promoteA; rw [if_neg (by omega)]; simp only [e, Int.toNat_natCast]; rw [if_pos (.inr g2)]
  simp only [e, h0, h1, h2, hc, g1, g2, cellO, rowsO_len, lay, wk3, wk, iaddrV_map, Nat.reduceAdd, Nat.reduceSub, Nat.reduceMul, Nat.reduceLeDiff, Nat.reduceEqDiff, Nat.reduceBEq, Int.reduceLE, Int.reduceLT, Int.reduceEq, Int.reduceNe, Int.reduceAdd, Int.reduceSub, Int.reduceToNat, Int.reduceNeg, ↓reduceIte, reduceCtorEq]
  rw [hA]; exact deedO hl (b := 1) rfl rfl (by omega)
 have hB : promoteA l i = if findA l (l.getD k default).origin < 0 ∨ isA l (l.getD (findA l (l.getD k default).origin).toNat default).origin 1 = false then (l, 1) else (promoted l i k (findA l (l.getD k default).origin).toNat (findA l (l.getD (findA l (l.getD k default).origin).toNat default).origin).toNat, 0) := by
  unfold promoteA; rw [if_neg (by omega)]; simp only [e, Int.toNat_natCast]; rw [if_neg (fun h => h.elim (fun h => h g1) g2)]
 simp only [e, h0, h1, h2, hc, g1, g2, cellO, rowsO_len, lay, wk3, wk, iaddrV_map, Nat.reduceAdd, Nat.reduceSub, Nat.reduceMul, Nat.reduceLeDiff, Nat.reduceEqDiff, Nat.reduceBEq, Int.reduceLE, Int.reduceLT, Int.reduceEq, Int.reduceNe, Int.reduceAdd, Int.reduceSub, Int.reduceToNat, Int.reduceNeg, ↓reduceIte, reduceCtorEq]
 refine CT_ok (findE _ l hl1 (l.getD k default).origin _ hat) ?_
 rintro _ _ ⟨rfl, rfl⟩
 rcases find_of (l := l) (i := (l.getD k default).origin) with ⟨e', _⟩ | ⟨m, e', hm, _, _⟩
 ·rw [if_pos (.inl (by omega))] at hB
  simp only [e', lay, wk3, wk, iaddrV_map, Nat.reduceAdd, Nat.reduceSub, Nat.reduceMul, Nat.reduceLeDiff, Nat.reduceEqDiff, Nat.reduceBEq, Int.reduceLE, Int.reduceLT, Int.reduceEq, Int.reduceNe, Int.reduceAdd, Int.reduceSub, Int.reduceToNat, Int.reduceNeg, ↓reduceIte, reduceCtorEq]
  rw [hB]; exact deedO hl (b := 1) rfl rfl (by omega)
 rw [e', Int.toNat_natCast] at hB
 have hc' := rowsO_at l 1 m hm
 have h0' : (0 : Int) ≤ m := by omega
 have h1' : (m : Int) < l.length := by omega
 have h2' : ¬ (m : Int) < 0 := by omega
 simp only [e', h0', h1', h2', hc', cellO, rowsO_len, lay, wk3, wk, iaddrV_map, Nat.reduceAdd, Nat.reduceSub, Nat.reduceMul, Nat.reduceLeDiff, Nat.reduceEqDiff, Nat.reduceBEq, Int.reduceLE, Int.reduceLT, Int.reduceEq, Int.reduceNe, Int.reduceAdd, Int.reduceSub, Int.reduceToNat, Int.reduceNeg, ↓reduceIte, reduceCtorEq]
 refine CT_ok (isE _ l hl1 (l.getD m default).origin 1 _ hat) ?_
 rintro _ _ ⟨rfl, rfl⟩
 cases h3 : isA l (l.getD m default).origin 1
 ·rw [if_pos (.inr h3)] at hB
  simp only [lay, wk3, wk, iaddrV_map, Nat.reduceAdd, Nat.reduceSub, Nat.reduceMul, Nat.reduceLeDiff, Nat.reduceEqDiff, Nat.reduceBEq, Int.reduceLE, Int.reduceLT, Int.reduceEq, Int.reduceNe, Int.reduceAdd, Int.reduceSub, Int.reduceToNat, Int.reduceNeg, ↓reduceIte, reduceCtorEq]
  rw [hB]; exact deedO hl (b := 1) rfl rfl (by omega)
 rw [if_neg (fun h => h.elim h2' (fun h => by rw [h3] at h; cases h))] at hB
 obtain ⟨o, e2, ho⟩ : ∃ o : Nat, findA l (l.getD m default).origin = o ∧ o < l.length := by
  unfold isA at h3
  rcases find_of (l := l) (i := (l.getD m default).origin) with ⟨e2, _⟩ | ⟨o, e2, ho, _, _⟩
  ·rw [e2] at h3; simp at h3
  ·exact ⟨o, e2, ho⟩
 rw [e2, Int.toNat_natCast] at hB
 have hc2 := rowsO_at l 1 o ho
 have h02 : (0 : Int) ≤ o := by omega
 have h12 : (o : Int) < l.length := by omega
 simp only [h0', h1', hc', cellO, rowsO_len, lay, wk3, wk, iaddrV_map, Nat.reduceAdd, Nat.reduceSub, Nat.reduceMul, Nat.reduceLeDiff, Nat.reduceEqDiff, Nat.reduceBEq, Int.reduceLE, Int.reduceLT, Int.reduceEq, Int.reduceNe, Int.reduceAdd, Int.reduceSub, Int.reduceToNat, Int.reduceNeg, ↓reduceIte, reduceCtorEq]
 refine CT_ok (findE _ l hl1 (l.getD m default).origin _ hat) ?_
 rintro _ _ ⟨rfl, rfl⟩
 simp only [e2, lay, wk3, wk, iaddrV_map, Nat.reduceAdd, Nat.reduceSub, Nat.reduceMul, Nat.reduceLeDiff, Nat.reduceEqDiff, Nat.reduceBEq, Int.reduceLE, Int.reduceLT, Int.reduceEq, Int.reduceNe, Int.reduceAdd, Int.reduceSub, Int.reduceToNat, Int.reduceNeg, ↓reduceIte, reduceCtorEq]
 refine WT_drawE ?_
 refine WDT_more 0 ?_
 simp only [cellO] at hc hc' hc2
 have hs1 := rowsO_set l 1 k (reorig (l.getD k default) (l.getD o default).origin)
 have hl1' : (l.set k (reorig (l.getD k default) (l.getD o default).origin)).length = l.length := List.length_set
 have hpr : promoted l i k m o = ((l.set k (reorig (l.getD k default) (l.getD o default).origin)).set o (reorig ((l.set k (reorig (l.getD k default) (l.getD o default).origin)).getD o default) (l.getD m default).id)).map (turnA (l.getD m default).origin (l.getD m default).id i) := rfl
 rw [hpr] at hB
 have hmid : (l.set k (reorig (l.getD k default) (l.getD o default).origin)).getD m default = l.getD m default ∨ ((l.set k (reorig (l.getD k default) (l.getD o default).origin)).getD m default).id = (l.getD m default).id := by
  rw [List.getD_eq_getElem?_getD, List.getElem?_set]
  by_cases hkm : k = m
  ·subst hkm; right; rw [if_pos rfl, if_pos hk]; rfl
  ·left; rw [if_neg hkm, List.getD_eq_getElem?_getD]
 simp only [cellO, reorig] at hs1
 simp only [reorig] at hl1' hB hmid
 generalize hL1 : l.set k ⟨(l.getD k default).id, (l.getD k default).kind, (l.getD o default).origin, (l.getD k default).quota, (l.getD k default).files⟩ = l1 at hs1 hl1' hB hmid
 have hc3 := rowsO_at l1 1 o (by omega)
 have hs2 := rowsO_set l1 1 o (reorig (l1.getD o default) (l.getD m default).id)
 have hl2' : (l1.set o (reorig (l1.getD o default) (l.getD m default).id)).length = l1.length := List.length_set
 have hmid2 : ((l1.set o (reorig (l1.getD o default) (l.getD m default).id)).getD m default).id = (l.getD m default).id := by
  have h : (l1.getD m default).id = (l.getD m default).id := by rcases hmid with h | h; rw [h]; exact h
  rw [List.getD_eq_getElem?_getD, List.getElem?_set]
  by_cases hom : o = m
  ·subst hom; rw [if_pos rfl, if_pos (by omega)]; exact h
  ·rw [if_neg hom, ← List.getD_eq_getElem?_getD]; exact h
 simp only [cellO, reorig] at hs2 hc3
 simp only [reorig] at hl2' hmid2
 generalize hL2 : l1.set o ⟨(l1.getD o default).id, (l1.getD o default).kind, (l.getD m default).id, (l1.getD o default).quota, (l1.getD o default).files⟩ = l2 at hs2 hl2' hB hmid2
 have hl2 : l2.length = l.length := hl2'.trans hl1'
 simp only [h0, h1, h0', h1', h02, h12, hc, hc', hc2, hs1, hc3, hs2, hl1', hl2, rowsO_len, cellO, lay, wk3, wk, iaddrV_map, Nat.reduceAdd, Nat.reduceSub, Nat.reduceMul, Nat.reduceLeDiff, Nat.reduceEqDiff, Nat.reduceBEq, Int.reduceLE, Int.reduceLT, Int.reduceEq, Int.reduceNe, Int.reduceAdd, Int.reduceSub, Int.reduceToNat, Int.reduceNeg, ↓reduceIte, reduceCtorEq]
 refine ⟨by omega, by rfl, ?_⟩
 have hcm := rowsO_at l2 1 m (by omega)
 generalize l.getD m default = sm at *
 clear hs1 hc3 hs2 hL1 hL2 hc hc' hc2
 refine WT_loop (W_wk (fr' := [asets l, .int .i64 i, .top, .top, .emp, .int .i64 0, .own 0 5 0 l.length l.length, .own 0 5 0 l.length l.length, .int .i64 k, .int .i64 m, .int .i64 sm.origin, .int .i64 o, .top, .top] ++ List.replicate 72 .top ++ [.own 0 5 0 l.length l.length, .int .i64 l.length, .int .i64 0] ++ List.replicate 30 .top) (Wk_tops ?_) (W_loop (fun n fr H' => ∃ j : Nat, j ≤ l.length ∧ n = l.length - j ∧ H' = some (rowsO (someA (turnA sm.origin sm.id i) l2 j) 1) :: objsO l ∧
  fr = [asets l, .int .i64 i, .top, .top, .emp, .int .i64 0, .own 0 5 0 l.length l.length, .own 0 5 0 l.length l.length, .int .i64 k, .int .i64 m, .int .i64 sm.origin, .int .i64 o, .top, .top] ++ List.replicate 72 .top ++ [.own 0 5 0 l.length l.length, .int .i64 l.length, .int .i64 j] ++ List.replicate 30 .top) l.length ⟨0, by omega, rfl, by rw [someA_zero], rfl⟩ ?_))
 ·simp only [asets, tp]
 rintro n fr H' ⟨j, hj, rfl, rfl, rfl⟩
 refine WT_ok ?_
 have hsl := someA_len (turnA sm.origin sm.id i) l2 j (by omega)
 simp only [lay, wk3, wk, iaddrV_map, Nat.reduceAdd, Nat.reduceSub, Nat.reduceMul, Nat.reduceLeDiff, Nat.reduceEqDiff, Nat.reduceBEq, Int.reduceLE, Int.reduceLT, Int.reduceEq, Int.reduceNe, Int.reduceAdd, Int.reduceSub, Int.reduceToNat, Int.reduceNeg, ↓reduceIte, reduceCtorEq]
 refine guard_both ?_ ?_ <;> intro h <;> simp only [hy] at h
 ·have hj2 : j < l.length := by omega
  have hcj := rowsO_at (someA (turnA sm.origin sm.id i) l2 j) 1 j (by omega)
  have hcm := rowsO_at (someA (turnA sm.origin sm.id i) l2 j) 1 m (by omega)
  have hgj : (someA (turnA sm.origin sm.id i) l2 j).getD j default = l2.getD j default := by rw [someA_getD _ _ _ _ (by omega), if_neg (by omega)]
  have hgm : ((someA (turnA sm.origin sm.id i) l2 j).getD m default).id = sm.id := by
   rw [someA_getD _ _ _ _ (by omega)]
   split
   ·rw [turnA_id]; exact hmid2
   ·exact hmid2
  have hsu := someA_succ (turnA sm.origin sm.id i) l2 j (by omega)
  have hsw := rowsO_set (someA (turnA sm.origin sm.id i) l2 j) 1 j (turnA sm.origin sm.id i (l2.getD j default))
  rw [hsu] at hsw
  rw [hgj] at hcj
  generalize (someA (turnA sm.origin sm.id i) l2 j).getD m default = dm at hcm hgm
  have hss := someA_len (turnA sm.origin sm.id i) l2 (j + 1) (by omega)
  have hself : ¬ ((l2.getD j default).kind = 2 ∧ (l2.getD j default).origin = sm.origin ∧ (l2.getD j default).id ≤ sm.id) → rowsO (someA (turnA sm.origin sm.id i) l2 (j + 1)) 1 = rowsO (someA (turnA sm.origin sm.id i) l2 j) 1 := fun hn => by
   have : turnA sm.origin sm.id i (l2.getD j default) = l2.getD j default := by unfold turnA; rw [if_neg hn]
   rw [this] at hsw
   rw [← hsw]
   have := rowsO_same (l := someA (turnA sm.origin sm.id i) l2 j) (b := 1) (k := j) (by omega)
   rwa [hgj] at this
  have hyes : ((l2.getD j default).kind = 2 ∧ (l2.getD j default).origin = sm.origin ∧ (l2.getD j default).id ≤ sm.id) → (rowsO (someA (turnA sm.origin sm.id i) l2 j) 1).set j [.int .i64 (l2.getD j default).id, .int .i64 (l2.getD j default).kind, .int .i64 i, .int .i64 (l2.getD j default).quota, .own (1 + j) 5 0 8 8] = rowsO (someA (turnA sm.origin sm.id i) l2 (j + 1)) 1 := fun hy => by
   have : turnA sm.origin sm.id i (l2.getD j default) = ⟨(l2.getD j default).id, (l2.getD j default).kind, i, (l2.getD j default).quota, (l2.getD j default).files⟩ := by unfold turnA; rw [if_pos hy]
   rw [this] at hsw
   exact hsw
  generalize someA (turnA sm.origin sm.id i) l2 j = lj at *
  generalize hlj' : someA (turnA sm.origin sm.id i) l2 (j + 1) = lj' at *
  generalize l2.getD j default = dj at *
  have w2 : IntKind.i64.wrap ((j : Int) + 1) = (j : Int) + 1 := IntWalk.i64_in _ (by omega)
  have k0 : (0 : Int) ≤ j := by omega
  have k1 : (j : Int) < l.length := by omega
  have k3 : lj.length = l.length := by omega
  simp only [cellO] at hcj hcm
  simp only [h, k0, k1, k3, hcj, cellO, rowsO_len, liveO_end, set_end, lay, wk3, wk, iaddrV_map, Nat.reduceAdd, Nat.reduceSub, Nat.reduceMul, Nat.reduceLeDiff, Nat.reduceEqDiff, Nat.reduceBEq, Int.reduceLE, Int.reduceLT, Int.reduceEq, Int.reduceNe, Int.reduceAdd, Int.reduceSub, Int.reduceToNat, Int.reduceNeg, ↓reduceIte, reduceCtorEq]
  refine WT_draw ?_
  by_cases q1 : dj.kind = 2
  ·by_cases q2 : dj.origin = sm.origin
   ·by_cases q3 : dj.id ≤ sm.id
    ·have hn := hyes ⟨q1, q2, q3⟩
     rw [q1] at hn
     simp only [h, h0', h1', k0, k1, k3, hcj, hcm, hgm, q1, q2, q3, hn, w2, cellO, rowsO_len, liveO_end, set_end, lay, wk3, wk, iaddrV_map, Nat.reduceAdd, Nat.reduceSub, Nat.reduceMul, Nat.reduceLeDiff, Nat.reduceEqDiff, Nat.reduceBEq, Int.reduceLE, Int.reduceLT, Int.reduceEq, Int.reduceNe, Int.reduceAdd, Int.reduceSub, Int.reduceToNat, Int.reduceNeg, ↓reduceIte, reduceCtorEq]
     refine QLoop_wk (n' := l.length - (j + 1)) (by omega) ⟨j + 1, by omega, rfl, by rw [hlj'], rfl⟩ (Wk_tail1 (1 + l.length) rfl (by omega) ?_)
     simp only [renL, ren, asets, upTo, show (0 : Nat) < 1 + l.length by omega, if_true, tq]
    ·rw [← hself (fun h => q3 h.2.2)]
     rw [← hself (fun h => q3 h.2.2)] at hcj hcm
     simp only [h, h0', h1', k0, k1, k3, hss, hl2, hcj, hcm, hgm, q1, q2, q3, w2, cellO, rowsO_len, liveO_end, set_end, lay, wk3, wk, iaddrV_map, Nat.reduceAdd, Nat.reduceSub, Nat.reduceMul, Nat.reduceLeDiff, Nat.reduceEqDiff, Nat.reduceBEq, Int.reduceLE, Int.reduceLT, Int.reduceEq, Int.reduceNe, Int.reduceAdd, Int.reduceSub, Int.reduceToNat, Int.reduceNeg, ↓reduceIte, reduceCtorEq]
     refine QLoop_wk (n' := l.length - (j + 1)) (by omega) ⟨j + 1, by omega, rfl, by rw [hlj'], rfl⟩ (Wk_tail1 (1 + l.length) rfl (by omega) ?_)
     simp only [renL, ren, asets, upTo, show (0 : Nat) < 1 + l.length by omega, if_true, tq]
   ·rw [← hself (fun h => q2 h.2.1)]
    simp only [h, q1, q2, w2, cellO, rowsO_len, liveO_end, set_end, lay, wk3, wk, iaddrV_map, Nat.reduceAdd, Nat.reduceSub, Nat.reduceMul, Nat.reduceLeDiff, Nat.reduceEqDiff, Nat.reduceBEq, Int.reduceLE, Int.reduceLT, Int.reduceEq, Int.reduceNe, Int.reduceAdd, Int.reduceSub, Int.reduceToNat, Int.reduceNeg, ↓reduceIte, reduceCtorEq]
    refine QLoop_wk (n' := l.length - (j + 1)) (by omega) ⟨j + 1, by omega, rfl, by rw [hlj'], rfl⟩ (Wk_tail1 (1 + l.length) rfl (by omega) ?_)
    simp only [renL, ren, asets, upTo, show (0 : Nat) < 1 + l.length by omega, if_true, tq]
  ·rw [← hself (fun h => q1 h.1)]
   simp only [h, q1, w2, cellO, rowsO_len, liveO_end, set_end, lay, wk3, wk, iaddrV_map, Nat.reduceAdd, Nat.reduceSub, Nat.reduceMul, Nat.reduceLeDiff, Nat.reduceEqDiff, Nat.reduceBEq, Int.reduceLE, Int.reduceLT, Int.reduceEq, Int.reduceNe, Int.reduceAdd, Int.reduceSub, Int.reduceToNat, Int.reduceNeg, ↓reduceIte, reduceCtorEq]
   refine QLoop_wk (n' := l.length - (j + 1)) (by omega) ⟨j + 1, by omega, rfl, by rw [hlj'], rfl⟩ (Wk_tail1 (1 + l.length) rfl (by omega) ?_)
   simp only [renL, ren, asets, upTo, show (0 : Nat) < 1 + l.length by omega, if_true, tq]
 ·have : j = l.length := by omega
  subst this
  rw [← hl2, someA_all, hl2]
  simp only [h, lay, wk3, wk, iaddrV_map, Nat.reduceAdd, Nat.reduceSub, Nat.reduceMul, Nat.reduceLeDiff, Nat.reduceEqDiff, Nat.reduceBEq, Int.reduceLE, Int.reduceLT, Int.reduceEq, Int.reduceNe, Int.reduceAdd, Int.reduceSub, Int.reduceToNat, Int.reduceNeg, ↓reduceIte, reduceCtorEq]
  rw [hB]
  have hq : (l2.map (turnA sm.origin sm.id i)).length = l.length := by simp; omega
  exact ⟨0, l.length, by rw [hq], by have := OwnR.rows (b := 1) (r := 0) (H := some (rowsO (l2.map (turnA sm.origin sm.id i)) 1) :: objsO l) hl hq rfl rfl (by omega); rwa [hq] at this ⊢⟩
end Go.Proofs.YtemjlopoffjmpaaGreat.Abs
set_option linter.unusedSimpArgs false
set_option linter.unusedVariables false
namespace Go.Proofs.YtemjlopoffjmpaaGreat.Abs
open Go Go.Proofs
theorem renO_rowsO {τ : Nat → Option Nat} : ∀ (l : List Dset) (b b' : Nat), (∀ k, k < l.length → τ (b + k) = some (b' + k)) → renO τ (rowsO l b) = rowsO l b'
 | [], _, _, _ => rfl
 | d :: l, b, b', h => by
   have h0 := h 0 (by simp)
   have := renO_rowsO (τ := τ) l (b + 1) (b' + 1) (fun k hk => by
    have := h (k + 1) (by simpa using hk)
    rwa [show b + (k + 1) = b + 1 + k by omega, show b' + (k + 1) = b' + 1 + k by omega] at this)
   unfold renO at this ⊢
   simp only [rowsO, List.map_cons, this]
   simp only [Nat.add_zero] at h0
   simp [cellO, renL, ren, h0]
theorem renO_nodesO (τ : Nat → Option Nat) (s : List Node) : renO τ (nodesO s) = nodesO s := by
 unfold renO nodesO
 rw [List.map_map]
 apply List.map_congr_left
 intro x _
 simp [cellsN, renL, ren]
theorem setAll_same (H : AH) (rs : List Nat) (os : List (Option AObj)) (hnd : rs.Nodup) (hlt : ∀ r ∈ rs, r < H.length) (h : ∀ i r : Nat, rs[i]? = some r → os[i]? = H[r]?) : setAll H rs os = H := by
 apply List.ext_getElem?
 intro r
 by_cases hr : r ∈ rs
 ·obtain ⟨i, hi⟩ := List.mem_iff_getElem?.1 hr
  have h1 := hlt r hr
  have h2 := h i r hi
  rw [setAll_in rs H os i r hnd hi (by
   rcases Nat.lt_or_ge i os.length with h3 | h3
   ·exact h3
   ·rw [List.getElem?_eq_none h3, List.getElem?_eq_getElem h1] at h2; cases h2) h1, h2]
 ·exact setAll_not rs H os r hr
def back2 (l : List Dset) (x y : AObj) : AH := some x :: some y :: some (rowsO l 3) :: objsO l
theorem CFT_findO {c : Nat} {late : List Loc → List Loc → Prop} {K : List Nat → Nat → AV → AH → Prop} {t : Tag K} (l : List Dset) (hl : Eight l) (i : Int) (x y : AObj) (hc : c = 3 + l.length)
 (hk : K (List.range' 2 (1 + l.length)) c (.int .i64 (findA l i)) (back2 l x y)) : CFT Tryz.prog 59 [.own 2 5 0 l.length l.length, .int .i64 i] c (back2 l x y) late K t := by
 have hnd : (List.range' 2 (1 + l.length)).Nodup := List.nodup_range'
 have hat : ∀ j, j < 1 + l.length → (List.range' 2 (1 + l.length))[j]? = some (2 + j) := fun j hj => by
  rw [List.getElem?_range' hj]; simp
 have hlen : (back2 l x y).length = 3 + l.length := by simp [back2, objsO_len]; omega
 have h2 : toCallee (List.range' 2 (1 + l.length)) 2 = some 0 := toCallee_of hnd (by rw [hat 0 (by omega)])
 have h3 : ∀ k, k < l.length → toCallee (List.range' 2 (1 + l.length)) (3 + k) = some (1 + k) := fun k hk => toCallee_of hnd (by rw [hat (1 + k) (by omega)]; congr 1; omega)
 have e1 : renL (toCallee (List.range' 2 (1 + l.length))) [.own 2 5 0 l.length l.length, .int .i64 i] = [.own 0 5 0 l.length l.length, .int .i64 i] := by
  simp [renL, ren, h2]
 have e2 : ((List.range' 2 (1 + l.length)).map fun r => ((back2 l x y).at r).map (renO (toCallee (List.range' 2 (1 + l.length))))) = some (rowsO l 1) :: objsO l := by
  apply List.ext_getElem?
  intro j
  rw [List.getElem?_map]
  rcases Nat.lt_or_ge j (1 + l.length) with hj | hj
  ·rw [hat j hj, Option.map_some]
   rcases j with _ | j
   ·simp only [List.getElem?_cons_zero]
    show some (some (renO _ (rowsO l 3))) = _
    rw [renO_rowsO l 3 1 h3]
   ·have h5 : (back2 l x y).at (2 + (j + 1)) = some (nodesO (l.getD j default).files) := by
     have := at_drop (H := back2 l x y) (b := 3) (k := j) (G := objsO l) rfl
     rw [show 2 + (j + 1) = 3 + j by omega, this, objsO_at (by omega)]
    rw [h5]
    simp only [List.getElem?_cons_succ, Option.map_some, renO_nodesO]
    have := objsO_at (l := l) (k := j) (by omega)
    unfold AH.at at this
    cases h6 : (objsO l)[j]? with
    | none => rw [h6] at this; cases this
    | some z => rw [h6] at this; simp only [Option.join_some] at this; rw [this]
  ·rw [List.getElem?_eq_none (by simp; omega), List.getElem?_eq_none (by simp [objsO_len]; omega)]; rfl
 refine CET_ok (List.range' 2 (1 + l.length)) 0 (x := .int .i64 (findA l i)) (H1 := some (rowsO l 1) :: objsO l) (K0 := fun z G => z = .int .i64 (findA l i) ∧ G = some (rowsO l 1) :: objsO l) ?_ (fun _ _ h => h) ⟨hnd, fun r hr => ?_, by rw [hlen]; omega, by simp [objsO_len]; omega⟩ ?_
 ·rw [e1, e2]
  exact findE _ l hl.1 i _ (view_rows (b := 1) hl (.drop rfl rfl))
 ·have := List.mem_range'_1.1 hr; omega
 ·have e3 : setAll (back2 l x y) (List.range' 2 (1 + l.length) ++ List.range' c 0) ((some (rowsO l 1) :: objsO l).map fun o => o.map (renO (toCl (List.range' 2 (1 + l.length) ++ List.range' c 0)))) = back2 l x y := by
   simp only [List.range'_zero, List.append_nil]
   refine setAll_same _ _ _ hnd (fun r hr => by rw [hlen]; have := List.mem_range'_1.1 hr; omega) (fun j r hj => ?_)
   have hj2 : j < 1 + l.length := by
    rcases Nat.lt_or_ge j (1 + l.length) with h' | h'
    ·exact h'
    ·rw [List.getElem?_eq_none (by simp; omega)] at hj; cases hj
   rw [hat j hj2] at hj
   cases hj
   rw [List.getElem?_map]
   rcases j with _ | j
   ·simp only [List.getElem?_cons_zero, Option.map_some]
    rw [renO_rowsO l 1 3 (fun k hk => by simp only [toCl]; rw [hat (1 + k) (by omega)]; congr 1; omega)]; rfl
   ·have h5 : (back2 l x y)[2 + (j + 1)]? = (objsO l)[j]? := by
     rw [show 2 + (j + 1) = j + 3 by omega]; rfl
    rw [h5, List.getElem?_cons_succ]
    unfold objsO
    rw [List.getElem?_map]
    cases l[j]? with
    | none => rfl
    | some d => simp only [Option.map_some, renO_nodesO]
  rw [e3]
  simpa [ren] using hk
theorem dbackE (l : List Dset) (hl : Eight l) (i j : Int) : C Tryz.prog 38 [asets l, .int .i64 i, .int .i64 j] [] (DeedO (backA l i j).1.length (backA l i j).2) := by
 have hl1 := hl.1
 have hro := rowsO_len l 3
 have hat : viewA (back2 l [[.int .i64 i]] [[.int .i64 j]]) (.own 2 5 0 l.length l.length) = asets l := view_rows (b := 3) hl (.drop rfl rfl)
 have fin : ∀ e : Int, DeedO l.length e (.tuple [.own 2 5 0 l.length l.length, .int .i64 e]) (back2 l [[.int .i64 i]] [[.int .i64 j]]) := fun e => deedO hl (b := 3) rfl rfl (by omega)
 refine C_body d38 rfl (WT_ok ?_)
 delta c38 I0 I1 I2 I3 I4 I5 I6 I7 I8 I9 KI
 simp only [lay, wk3, wk, iaddrV_map, Nat.reduceAdd, Nat.reduceSub, Nat.reduceMul, Nat.reduceLeDiff, Nat.reduceEqDiff, Nat.reduceBEq, Int.reduceLE, Int.reduceLT, Int.reduceEq, Int.reduceNe, Int.reduceAdd, Int.reduceSub, Int.reduceToNat, Int.reduceNeg, ↓reduceIte, reduceCtorEq]
 refine CT_ok (twinE _ l hl _ (view_asets _ _) 2 rfl) ?_
 rintro _ _ ⟨rfl, rfl⟩
 simp only [lay, wk3, wk, iaddrV_map, Nat.reduceAdd, Nat.reduceSub, Nat.reduceMul, Nat.reduceLeDiff, Nat.reduceEqDiff, Nat.reduceBEq, Int.reduceLE, Int.reduceLT, Int.reduceEq, Int.reduceNe, Int.reduceAdd, Int.reduceSub, Int.reduceToNat, Int.reduceNeg, ↓reduceIte, reduceCtorEq]
 refine WT_drawE ?_
 refine WDT_more 0 ?_
 simp only [lay, wk3, wk, iaddrV_map, Nat.reduceAdd, Nat.reduceSub, Nat.reduceMul, Nat.reduceLeDiff, Nat.reduceEqDiff, Nat.reduceBEq, Int.reduceLE, Int.reduceLT, Int.reduceEq, Int.reduceNe, Int.reduceAdd, Int.reduceSub, Int.reduceToNat, Int.reduceNeg, ↓reduceIte, reduceCtorEq]
 refine CFT_findO l hl i _ _ (by simp [objsO_len]; omega) ?_
 unfold back2
 simp only [ren, renL, lay, wk3, wk, iaddrV_map, Nat.reduceAdd, Nat.reduceSub, Nat.reduceMul, Nat.reduceLeDiff, Nat.reduceEqDiff, Nat.reduceBEq, Int.reduceLE, Int.reduceLT, Int.reduceEq, Int.reduceNe, Int.reduceAdd, Int.reduceSub, Int.reduceToNat, Int.reduceNeg, ↓reduceIte, reduceCtorEq]
 refine ⟨?_, ?_⟩
 ·simp [confOK, indepB, entry, anT, slotsL, slotsI, opdsA, slotT, dstL, List.contains_eq_mem]; omega
 refine CT_ok (findE _ l hl1 j _ hat) ?_
 rintro _ _ ⟨rfl, rfl⟩
 simp only [lay, wk3, wk, iaddrV_map, Nat.reduceAdd, Nat.reduceSub, Nat.reduceMul, Nat.reduceLeDiff, Nat.reduceEqDiff, Nat.reduceBEq, Int.reduceLE, Int.reduceLT, Int.reduceEq, Int.reduceNe, Int.reduceAdd, Int.reduceSub, Int.reduceToNat, Int.reduceNeg, ↓reduceIte, reduceCtorEq]
 rcases find_of (l := l) (i := i) with ⟨e, _⟩ | ⟨k, e, hk, _, _⟩
 ·have hA : backA l i j = (l, 2) := by unfold backA; rw [if_pos (.inl (by omega))]
  simp only [e, lay, wk3, wk, iaddrV_map, Nat.reduceAdd, Nat.reduceSub, Nat.reduceMul, Nat.reduceLeDiff, Nat.reduceEqDiff, Nat.reduceBEq, Int.reduceLE, Int.reduceLT, Int.reduceEq, Int.reduceNe, Int.reduceAdd, Int.reduceSub, Int.reduceToNat, Int.reduceNeg, ↓reduceIte, reduceCtorEq]
  rw [hA]; exact fin 2
 rcases find_of (l := l) (i := j) with ⟨e', _⟩ | ⟨m, e', hm, _, _⟩
 ·have hA : backA l i j = (l, 2) := by unfold backA; rw [if_pos (.inr (by omega))]
  have h2 : ¬ (k : Int) < 0 := by omega
  simp only [e, e', h2, lay, wk3, wk, iaddrV_map, Nat.reduceAdd, Nat.reduceSub, Nat.reduceMul, Nat.reduceLeDiff, Nat.reduceEqDiff, Nat.reduceBEq, Int.reduceLE, Int.reduceLT, Int.reduceEq, Int.reduceNe, Int.reduceAdd, Int.reduceSub, Int.reduceToNat, Int.reduceNeg, ↓reduceIte, reduceCtorEq]
  rw [hA]; exact fin 2
 have hB : backA l i j = if (l.getD k default).kind ≠ 1 ∨ (l.getD m default).kind ≠ 2 ∨ (l.getD m default).origin ≠ i then (l, 1) else if 0 ≤ idxA (laterA i j) l then (l, 10) else (l.set k ⟨(l.getD k default).id, (l.getD k default).kind, (l.getD k default).origin, (l.getD k default).quota, (l.getD m default).files⟩, 0) := by
  unfold backA; rw [e, e', if_neg (by omega)]; rfl
 have hc := rowsO_at l 3 k hk
 have hc' := rowsO_at l 3 m hm
 have h0 : (0 : Int) ≤ k := by omega
 have h1 : (k : Int) < l.length := by omega
 have h2 : ¬ (k : Int) < 0 := by omega
 have h0' : (0 : Int) ≤ m := by omega
 have h1' : (m : Int) < l.length := by omega
 have h2' : ¬ (m : Int) < 0 := by omega
 have hf := hl.get hm
 have hobj : (back2 l [[.int .i64 i]] [[.int .i64 j]]).at (3 + m) = some (nodesO (l.getD m default).files) := by
  rw [at_drop (H := back2 l [[.int .i64 i]] [[.int .i64 j]]) (b := 3) (k := m) (G := objsO l) rfl, objsO_at hm]
 have hlen : (back2 l [[.int .i64 i]] [[.int .i64 j]]).length = 3 + l.length := by simp [back2, objsO_len]; omega
 generalize hd : l.getD k default = d at hB hc
 generalize l.getD m default = s at hB hc' hf hobj
 simp only [e, e', h2, h2', lay, wk3, wk, iaddrV_map, Nat.reduceAdd, Nat.reduceSub, Nat.reduceMul, Nat.reduceLeDiff, Nat.reduceEqDiff, Nat.reduceBEq, Int.reduceLE, Int.reduceLT, Int.reduceEq, Int.reduceNe, Int.reduceAdd, Int.reduceSub, Int.reduceToNat, Int.reduceNeg, ↓reduceIte, reduceCtorEq]
 refine WT_draw ?_
 by_cases g1 : d.kind = 1
 case neg =>
  rw [if_pos (.inl g1)] at hB
  simp only [h0, h1, h0', h1', hc, hc', hro, g1, cellO, lay, wk3, wk, iaddrV_map, Nat.reduceAdd, Nat.reduceSub, Nat.reduceMul, Nat.reduceLeDiff, Nat.reduceEqDiff, Nat.reduceBEq, Int.reduceLE, Int.reduceLT, Int.reduceEq, Int.reduceNe, Int.reduceAdd, Int.reduceSub, Int.reduceToNat, Int.reduceNeg, ↓reduceIte, reduceCtorEq]
  rw [hB]; exact fin 1
 by_cases g2 : s.kind = 2
 case neg =>
  rw [if_pos (.inr (.inl g2))] at hB
  simp only [h0, h1, h0', h1', hc, hc', hro, g1, g2, cellO, lay, wk3, wk, iaddrV_map, Nat.reduceAdd, Nat.reduceSub, Nat.reduceMul, Nat.reduceLeDiff, Nat.reduceEqDiff, Nat.reduceBEq, Int.reduceLE, Int.reduceLT, Int.reduceEq, Int.reduceNe, Int.reduceAdd, Int.reduceSub, Int.reduceToNat, Int.reduceNeg, ↓reduceIte, reduceCtorEq]
  rw [hB]; exact fin 1
 by_cases g3 : s.origin = i
 case neg =>
  rw [if_pos (.inr (.inr g3))] at hB
  simp only [h0, h1, h0', h1', hc, hc', hro, g1, g2, g3, cellO, lay, wk3, wk, iaddrV_map, Nat.reduceAdd, Nat.reduceSub, Nat.reduceMul, Nat.reduceLeDiff, Nat.reduceEqDiff, Nat.reduceBEq, Int.reduceLE, Int.reduceLT, Int.reduceEq, Int.reduceNe, Int.reduceAdd, Int.reduceSub, Int.reduceToNat, Int.reduceNeg, ↓reduceIte, reduceCtorEq]
  rw [hB]; exact fin 1
 rw [if_neg (fun h => h.elim (fun h => h g1) (fun h => h.elim (fun h => h g2) (fun h => h g3)))] at hB
 simp only [h0, h1, h0', h1', hc, hc', hro, g1, g2, g3, cellO, lay, wk3, wk, iaddrV_map, Nat.reduceAdd, Nat.reduceSub, Nat.reduceMul, Nat.reduceLeDiff, Nat.reduceEqDiff, Nat.reduceBEq, Int.reduceLE, Int.reduceLT, Int.reduceEq, Int.reduceNe, Int.reduceAdd, Int.reduceSub, Int.reduceToNat, Int.reduceNeg, ↓reduceIte, reduceCtorEq]
 refine CT_ok (laterE l hl1 i j _ _ _ _ hat (view_box rfl) (view_box rfl)) ?_
 rintro _ _ ⟨rfl, rfl⟩
 by_cases g4 : 0 ≤ idxA (laterA i j) l
 ·rw [if_pos g4] at hB
  simp only [g4, lay, wk3, wk, iaddrV_map, Nat.reduceAdd, Nat.reduceSub, Nat.reduceMul, Nat.reduceLeDiff, Nat.reduceEqDiff, Nat.reduceBEq, Int.reduceLE, Int.reduceLT, Int.reduceEq, Int.reduceNe, Int.reduceAdd, Int.reduceSub, Int.reduceToNat, Int.reduceNeg, ↓reduceIte, reduceCtorEq]
  rw [hB]; exact fin 10
 rw [if_neg g4] at hB
 simp only [g4, h0, h1, h0', h1', hc, hc', hro, cellO, lay, wk3, wk, iaddrV_map, Nat.reduceAdd, Nat.reduceSub, Nat.reduceMul, Nat.reduceLeDiff, Nat.reduceEqDiff, Nat.reduceBEq, Int.reduceLE, Int.reduceLT, Int.reduceEq, Int.reduceNe, Int.reduceAdd, Int.reduceSub, Int.reduceToNat, Int.reduceNeg, ↓reduceIte, reduceCtorEq]
 refine CT_ok (cloneN _ s.files hf _ (viewA_own8 hobj hf) (3 + l.length) hlen.symm) ?_
 rintro _ _ ⟨rfl, rfl⟩
 simp only [back2, h0, h1, hc, hro, g1, cellO, lay, wk3, wk, iaddrV_map, Nat.reduceAdd, Nat.reduceSub, Nat.reduceMul, Nat.reduceLeDiff, Nat.reduceEqDiff, Nat.reduceBEq, Int.reduceLE, Int.reduceLT, Int.reduceEq, Int.reduceNe, Int.reduceAdd, Int.reduceSub, Int.reduceToNat, Int.reduceNeg, ↓reduceIte, reduceCtorEq]
 rw [hB]
 have hq : (l.set k ⟨d.id, d.kind, d.origin, d.quota, s.files⟩).length = l.length := List.length_set
 refine ⟨2, l.length, by rw [hq], ?_⟩
 rw [hq]
 refine ⟨_, rfl, by simp [hro], Nat.le_refl _, fun z hz => ?_⟩
 rw [List.getElem?_set]
 by_cases hkz : k = z
 ·subst hkz
  rw [if_pos rfl, if_pos (by omega)]
  refine ⟨_, rfl, _, _, _, _, 3 + l.length, nodesO s.files, rfl, by omega, ?_, by simp [nodesO, hf], nodes_rows _⟩
  rw [show 3 + l.length = l.length + 3 by omega]
  simp [AH.at, objsO_len]
 ·rw [if_neg hkz, rowsO_at l 3 z hz]
  refine ⟨_, rfl, _, _, _, _, 3 + z, nodesO (l.getD z default).files, rfl, by omega, ?_, by rw [nodesO, List.length_map]; exact hl.get hz, nodes_rows _⟩
  have := objsO_at (l := l) hz
  rw [show 3 + z = z + 3 by omega]
  simp only [AH.at, List.getElem?_cons_succ, List.cons_append] at this ⊢
  rw [List.getElem?_append_left (by rw [objsO_len]; exact hz)]; exact this
end Go.Proofs.YtemjlopoffjmpaaGreat.Abs
namespace Go.Proofs.YtemjlopoffjmpaaGreat.Abs
open Go
def c39 : ACode :=
 (.seq (.reg [I1 2 (.mv (.c (.emp)))])
 (.seq (.reg [I1 5 (.bslice 5 0 [.int .i64 0, .int .i64 0, .int .i64 0, .int .i64 0, .emp] []), I0 6 0, I1 7 (.append 5 56 [.int .i64 0, .int .i64 0, .int .i64 0, .int .i64 0, .emp] (.t 5) (.t 6)), I0 3 7])
 (.seq (.seq (.reg [I1 4 (.mv (KI 0))])
 (.block 0
 (.loop
 (.seq (.seq (.reg [I0 8 4, I0 9 3, I1 10 (.len false (.t 9)), I1 11 (.bini .lss (.t 8) (.t 10))])
 (.cond (.t 11)
 .skip
 (.exit 0)))
 (.seq (.block 1
 (.reg [I0 14 3, I0 15 4, I1 16 (.bslice 5 0 [.int .i64 0, .int .i64 0, .str [], .str [], .int .i64 0] []), I0 17 3, I0 18 4, I1 19 (.iaddr 5 (.t 17) (.t 18)), I6 20 4 19, I7 21 20, I1 22 (.append 5 56 [.int .i64 0, .int .i64 0, .str [], .str [], .int .i64 0] (.t 16) (.t 21)), I1 23 (.iaddr 5 (.t 14) (.t 15)), I6 24 4 23, I9 1 24 22]))
 (.reg [I0 12 4, I1 13 (.bini .add (.t 12) (KI 1)), I0 4 13]))))))
 (.seq (.reg [I0 25 3, I0 2 25])
 .ret))))
theorem d39 : FnD Tryz.prog 39 1 25 [.tmp 2] c39 := ⟨Tryz.f39, _, Tryz.func39, by kernel_rfl, rfl, rfl, by kernel_rfl, by kernel_rfl⟩
end Go.Proofs.YtemjlopoffjmpaaGreat.Abs
namespace Go.Proofs.YtemjlopoffjmpaaGreat.Abs
open Go
def c40 : ACode :=
 (.seq (.reg [I1 2 (.mv (KI 0))])
 (.block 0
 (.loop
 (.seq (.seq (.reg [I0 4 2, I0 5 0, I1 6 (.len false (.t 5)), I1 7 (.bini .lss (.t 4) (.t 6))])
 (.cond (.t 7)
 .skip
 (.exit 0)))
 (.seq (.block 1
 (.seq (.seq (.reg [I1 3 (.mv (KI 0))])
 (.block 2
 (.loop
 (.seq (.seq (.reg [I0 10 3, I0 11 0, I0 12 2, I1 13 (.iaddr 5 (.t 11) (.t 12)), I6 14 4 13, I7 15 14, I1 16 (.len false (.t 15)), I1 17 (.bini .lss (.t 10) (.t 16))])
 (.cond (.t 17)
 .skip
 (.exit 2)))
 (.seq (.block 3
 (.reg [I0 20 0, I0 21 2, I1 22 (.iaddr 5 (.t 20) (.t 21)), I6 23 4 22, I7 24 23, I0 25 3, I1 26 (.build [.int .i64 0, .int .i64 0, .str [], .str [], .int .i64 0] [(0, 1, (KI 3))]), I1 27 (.iaddr 5 (.t 24) (.t 25)), I9 5 27 26]))
 (.reg [I0 18 3, I1 19 (.bini .add (.t 18) (KI 1)), I0 3 19]))))))
 (.reg [I0 28 0, I0 29 2, I1 30 (.build [.int .i64 0, .int .i64 0, .int .i64 0, .int .i64 0, .emp] [(0, 1, (KI 77))]), I1 31 (.iaddr 5 (.t 28) (.t 29)), I9 5 31 30])))
 (.reg [I0 8 2, I1 9 (.bini .add (.t 8) (KI 1)), I0 2 9]))))))
theorem d40 : FnD Tryz.prog 40 1 31 [] c40 := ⟨Tryz.f40, _, Tryz.func40, by kernel_rfl, rfl, rfl, by kernel_rfl, by kernel_rfl⟩
end Go.Proofs.YtemjlopoffjmpaaGreat.Abs
set_option linter.unusedSimpArgs false
set_option linter.unusedVariables false
namespace Go.Proofs.YtemjlopoffjmpaaGreat.Abs
open Go Go.Proofs
theorem Wk_own {fr fr' : List AV} {l : List Dset} {k : Nat} {d : Dset} (hc : (l.map cellD)[k]? = some (cellD d)) (h : Tops fr' (renL (upTo 1) (frzL 1 (d.files.map pnode) fr))) :
 Wk 0 fr [some ((l.map cellD).set k [.int .i64 d.id, .int .i64 d.kind, .int .i64 d.origin, .int .i64 d.quota, .own 1 5 0 d.files.length d.files.length]), some ((d.files.map pnode).map fun e => e.map emb)] fr' [some (l.map cellD)] := by
 have h1 := Wk_freeze (n0 := 0) (fr := fr) (H := [some ((l.map cellD).set k [.int .i64 d.id, .int .i64 d.kind, .int .i64 d.origin, .int .i64 d.quota, .own 1 5 0 d.files.length d.files.length]), some ((d.files.map pnode).map fun e => e.map emb)]) 1 (d.files.map pnode) rfl
 have e : frzL 1 (d.files.map pnode) [.int .i64 d.id, .int .i64 d.kind, .int .i64 d.origin, .int .i64 d.quota, .own 1 5 0 d.files.length d.files.length] = cellD d := by
  simp only [frzL, frz, cellD, aset, if_true, List.length_map, Nat.zero_add, Nat.le_refl, and_self, List.drop_zero]
  rw [List.take_of_length_le (by simp)]
 have hs : (l.map cellD).set k (cellD d) = l.map cellD := by
  apply List.ext_getElem?
  intro j
  rw [List.getElem?_set]
  by_cases hkj : k = j
  ·subst hkj
   rw [if_pos rfl, hc]
   split
   ·rfl
   ·rename_i h; rw [List.getElem?_eq_none (by omega)] at hc; cases hc
  ·rw [if_neg hkj]
 have e2 : mapH (frzL 1 (d.files.map pnode)) (([some ((l.map cellD).set k [.int .i64 d.id, .int .i64 d.kind, .int .i64 d.origin, .int .i64 d.quota, .own 1 5 0 d.files.length d.files.length]), some ((d.files.map pnode).map fun e => e.map emb)] : AH).set 1 none) = [some (l.map cellD), none] := by
  simp only [mapH, List.set_cons_succ, List.set_cons_zero, List.map_cons, List.map_nil, Option.map_some, Option.map_none, List.map_set, map_frz, e, hs]
 rw [e2] at h1
 have h2 := (h1.trans (Wk_forget (n0 := 0) 1 (Nat.zero_le _))).trans (Wk_tops h)
 have e3 : mapH (renL (upTo 1)) (([some (l.map cellD), none] : AH).take 1) = [some (l.map cellD)] := by
  have := renO_cells (upTo 1) l
  unfold renO at this
  simp only [List.take_succ_cons, List.take_zero, mapH, List.map_cons, List.map_nil, Option.map_some, this]
 rwa [e3] at h2
theorem own39_0 (l : List Dset) (hl : Eight l) (h0 : 0 < l.length) : C Tryz.prog 39 [asets l] [] (fun y H' => y = asets l ∧ H' = []) := by
 have hl1 := hl.1
 refine C_body' d39 rfl (WT_ok ?_)
 delta c39 I0 I1 I2 I3 I4 I5 I6 I7 I8 I9 KI
 simp only [asets, cellsD, rows5D, List.length_map, lay, wk3, wk, iaddrV_map, Nat.reduceAdd, Nat.reduceSub, Nat.reduceMul, Nat.reduceLeDiff, Nat.reduceEqDiff, Nat.reduceBEq, Int.reduceLE, Int.reduceLT, Int.reduceEq, Int.reduceNe, Int.reduceAdd, Int.reduceSub, Int.reduceToNat, Int.reduceNeg, ↓reduceIte, reduceCtorEq]
 refine ⟨⟨by omega, by omega⟩, ?_⟩
 refine WT_loop (W_wk (fr' := [asets l, .top, .emp, .own 0 5 0 l.length l.length, .int .i64 (0 : Nat)] ++ List.replicate 21 .top) (Wk_tops ?_) (W_loop (fun n fr H' => ∃ k : Nat, k ≤ l.length ∧ n = l.length - k ∧ H' = [some (l.map cellD)] ∧ fr = [asets l, .top, .emp, .own 0 5 0 l.length l.length, .int .i64 k] ++ List.replicate 21 .top) l.length ⟨0, by omega, rfl, rfl, rfl⟩ ?_))
 ·simp only [asets, tp, Int.natCast_zero]
 rintro n fr H' ⟨k, hk, rfl, rfl, rfl⟩
 refine WT_ok ?_
 simp only [lay, wk3, wk, iaddrV_map, Nat.reduceAdd, Nat.reduceSub, Nat.reduceMul, Nat.reduceLeDiff, Nat.reduceEqDiff, Nat.reduceBEq, Int.reduceLE, Int.reduceLT, Int.reduceEq, Int.reduceNe, Int.reduceAdd, Int.reduceSub, Int.reduceToNat, Int.reduceNeg, ↓reduceIte, reduceCtorEq]
 refine guard_both ?_ ?_ <;> intro h <;> simp only [hy] at h
 ·have hk2 : k < l.length := by omega
  have hc := cell_at hk2
  have w2 : IntKind.i64.wrap ((k : Int) + 1) = (k : Int) + 1 := IntWalk.i64_in _ (by omega)
  have k0 : (0 : Int) ≤ k := by omega
  have hf := hl.get hk2
  generalize l.getD k default = d at hc hf
  have hc2 := hc
  simp only [cellD, aset] at hc
  simp only [h, k0, hc, w2, cellD, aset, lay, wk3, wk, iaddrV_map, Nat.reduceAdd, Nat.reduceSub, Nat.reduceMul, Nat.reduceLeDiff, Nat.reduceEqDiff, Nat.reduceBEq, Int.reduceLE, Int.reduceLT, Int.reduceEq, Int.reduceNe, Int.reduceAdd, Int.reduceSub, Int.reduceToNat, Int.reduceNeg, ↓reduceIte, reduceCtorEq]
  refine ⟨⟨rows5 d.files, by omega, by omega⟩, ?_⟩
  refine QLoop_wk (n' := l.length - (k + 1)) (by omega) ⟨k + 1, by omega, rfl, rfl, rfl⟩ (Wk_own hc2 ?_)
  simp only [renL, ren, frzL, frz, asets, upTo, show (0 : Nat) < 1 by omega, show ¬ (0 : Nat) = 1 by omega, if_true, if_false, tq]
 ·have : k = l.length := by omega
  subst this
  simp only [h, lay, wk3, wk, iaddrV_map, Nat.reduceAdd, Nat.reduceSub, Nat.reduceMul, Nat.reduceLeDiff, Nat.reduceEqDiff, Nat.reduceBEq, Int.reduceLE, Int.reduceLT, Int.reduceEq, Int.reduceNe, Int.reduceAdd, Int.reduceSub, Int.reduceToNat, Int.reduceNeg, ↓reduceIte, reduceCtorEq]
  refine KWk_frozen 0 (l.map pdset) (by rw [cellsD]; rfl) (asets l) ?_ ⟨rfl, rfl⟩
  simp only [frzL, frz, renL, ren, asets, if_true, List.length_map, Nat.zero_add, Nat.le_refl, and_self, List.drop_zero]
  rw [List.take_of_length_le (by simp)]
theorem own39 (l : List Dset) (hl : Eight l) (h0 : 0 < l.length) (H : AH) : C Tryz.prog 39 [asets l] H (fun y H' => y = asets l ∧ H' = H) := C_any (own39_0 l hl h0) (by simp [bareL, bare, asets]) (by simp [bare, asets]) H
def Shape (r : Nat) (H H' : AH) : Prop := ∀ q o, H.at q = some o → ∃ o', H'.at q = some o' ∧ o'.length = o.length ∧ ((∀ x ∈ o, x.length = 5) → ∀ x ∈ o', x.length = 5) ∧ (q ≠ r → o.length ≠ 8 → o' = o)
theorem Shape.refl (r : Nat) (H : AH) : Shape r H H := fun _ o h => ⟨o, h, rfl, id, fun _ _ => rfl⟩
theorem Shape.trans {r : Nat} {A B D : AH} (h : Shape r A B) (h' : Shape r B D) : Shape r A D := fun q o ho => by
 obtain ⟨o1, a1, a2, a3, a4⟩ := h q o ho
 obtain ⟨o2, b1, b2, b3, b4⟩ := h' q o1 a1
 exact ⟨o2, b1, b2.trans a2, fun x => b3 (a3 x), fun h1 h2 => (b4 h1 (by rw [a2]; exact h2)).trans (a4 h1 h2)⟩
theorem at_set {H : AH} {r q : Nat} {o x : AObj} (h : H.at r = some o) : (AH.at (H.set r (some x)) q) = if r = q then some x else H.at q := by
 have := at_lt h
 unfold AH.at
 rw [List.getElem?_set]
 by_cases e : r = q
 ·subst e; rw [if_pos rfl, if_pos this, if_pos rfl]; rfl
 ·rw [if_neg e, if_neg e]
theorem Shape.set {H : AH} {r p : Nat} {o : AObj} (h : H.at p = some o) (hp : p = r ∨ o.length = 8) (i : Nat) (c : List AV) (hc : c.length = 5) : Shape r H (H.set p (some (o.set i c))) := by
 intro q o1 ho
 rw [at_set h]
 by_cases e : p = q
 ·subst e
  rw [h] at ho; cases ho
  refine ⟨_, if_pos rfl, by simp, fun hx x hm => ?_, fun h1 h2 => ?_⟩
  ·rcases List.mem_or_eq_of_mem_set hm with hm | rfl
   ·exact hx x hm
   ·exact hc
  ·rcases hp with hp | hp
   ·exact absurd hp h1
   ·exact absurd hp h2
 ·exact ⟨o1, by rw [if_neg e]; exact ho, rfl, id, fun _ _ => rfl⟩
theorem RowV.shape {H H' : AH} {r t : Nat} {e : List AV} (h : RowV H r e) (hs : Shape t H H') : RowV H' r e := by
 obtain ⟨a, b, c, d, q, o, rfl, hq, ho, h8, h5⟩ := h
 obtain ⟨o', g1, g2, g3, _⟩ := hs q o ho
 exact ⟨a, b, c, d, q, o', rfl, hq, g1, g2.trans h8, g3 h5⟩
theorem len5 {e : List AV} (h : e.length = 5) : ∃ a b c d f, e = [a, b, c, d, f] := by
 match e, h with
 | [a, b, c, d, f], _ => exact ⟨a, b, c, d, f, rfl⟩
theorem blotE (H : AH) (r tot n : Nat) (hn : n ≤ 1000000) (h : OwnR H r tot n) : C Tryz.prog 40 [.own r 5 0 n tot] H (fun _ H' => Shape r H H') := by
 obtain ⟨o0, hr0, hl0, hle, hrows⟩ := h
 refine C_body d40 rfl (WT_ok ?_)
 delta c40 I0 I1 I2 I3 I4 I5 I6 I7 I8 I9 KI
 simp only [lay, wk3, wk, iaddrV_map, Nat.reduceAdd, Nat.reduceSub, Nat.reduceMul, Nat.reduceLeDiff, Nat.reduceEqDiff, Nat.reduceBEq, Int.reduceLE, Int.reduceLT, Int.reduceEq, Int.reduceNe, Int.reduceAdd, Int.reduceSub, Int.reduceToNat, Int.reduceNeg, ↓reduceIte, reduceCtorEq]
 refine WT_loop (W_loop (fun m fr H' => ∃ i : Nat, i ≤ n ∧ m = n - i ∧ Shape r H H' ∧ (∃ o, H'.at r = some o ∧ o.length = tot ∧ ∀ k, i ≤ k → k < n → ∃ e, o[k]? = some e ∧ RowV H' r e) ∧
  fr = [.own r 5 0 n tot, .top, .int .i64 i] ++ List.replicate 29 .top) n ⟨0, by omega, rfl, .refl r H, ⟨o0, hr0, hl0, fun k _ hk => hrows k hk⟩, rfl⟩ ?_)
 rintro m fr H1 ⟨i, hi, rfl, hS, ⟨o, hr, hlo, hrw⟩, rfl⟩
 refine WT_ok ?_
 have hlive := liveO_at hr hlo
 simp only [hlive, lay, wk3, wk, iaddrV_map, Nat.reduceAdd, Nat.reduceSub, Nat.reduceMul, Nat.reduceLeDiff, Nat.reduceEqDiff, Nat.reduceBEq, Int.reduceLE, Int.reduceLT, Int.reduceEq, Int.reduceNe, Int.reduceAdd, Int.reduceSub, Int.reduceToNat, Int.reduceNeg, ↓reduceIte, reduceCtorEq]
 refine guard_both ?_ ?_ <;> intro h <;> simp only [hy] at h
 ·have hi2 : i < n := by omega
  obtain ⟨e, hoi, a, b, c, d, q, oq, rfl, hqr, hoq, hq8, hq5⟩ := hrw i (Nat.le_refl _) hi2
  have i0 : (0 : Int) ≤ i := by omega
  have i1 : (i : Int) < n := by omega
  simp only [h, lay, wk3, wk, iaddrV_map, Nat.reduceAdd, Nat.reduceSub, Nat.reduceMul, Nat.reduceLeDiff, Nat.reduceEqDiff, Nat.reduceBEq, Int.reduceLE, Int.reduceLT, Int.reduceEq, Int.reduceNe, Int.reduceAdd, Int.reduceSub, Int.reduceToNat, Int.reduceNeg, ↓reduceIte, reduceCtorEq]
  refine WT_loop (W_wk (fr' := [.own r 5 0 n tot, .top, .int .i64 i, .int .i64 (0 : Nat)] ++ List.replicate 28 .top) (Wk_tops ?_) (W_loop (fun m fr H2 => ∃ k : Nat, k ≤ 8 ∧ m = 8 - k ∧ Shape r H1 H2 ∧ H2.at r = some o ∧ fr = [.own r 5 0 n tot, .top, .int .i64 i, .int .i64 k] ++ List.replicate 28 .top) 8 ⟨0, by omega, rfl, .refl r H1, hr, rfl⟩ ?_))
  ·simp only [tp, Int.natCast_zero]
  rintro m fr H2 ⟨k, hk, rfl, hS2, hr2, rfl⟩
  refine WT_ok ?_
  have hlive2 := liveO_at hr2 hlo
  obtain ⟨oq2, hoq2, hq82, hq52, _⟩ := hS2 q oq hoq
  have hliveq := liveO_at hoq2 (hq82.trans hq8)
  simp only [hlive2, hliveq, hoi, i0, i1, lay, wk3, wk, iaddrV_map, Nat.reduceAdd, Nat.reduceSub, Nat.reduceMul, Nat.reduceLeDiff, Nat.reduceEqDiff, Nat.reduceBEq, Int.reduceLE, Int.reduceLT, Int.reduceEq, Int.reduceNe, Int.reduceAdd, Int.reduceSub, Int.reduceToNat, Int.reduceNeg, ↓reduceIte, reduceCtorEq]
  refine guard_both ?_ ?_ <;> intro h' <;> simp only [hy] at h'
  ·have hk2 : k < 8 := by omega
   have k0 : (0 : Int) ≤ k := by omega
   have w2 : IntKind.i64.wrap ((k : Int) + 1) = (k : Int) + 1 := IntWalk.i64_in _ (by omega)
   obtain ⟨e2, he2⟩ : ∃ e2, oq2[k]? = some e2 := ⟨_, List.getElem?_eq_getElem (by omega)⟩
   obtain ⟨a1, a2, a3, a4, a5, rfl⟩ := len5 (hq52 hq5 e2 (List.mem_of_getElem? he2))
   simp only [hlive2, hliveq, hoi, he2, i0, i1, k0, h', w2, lay, wk3, wk, iaddrV_map, Nat.reduceAdd, Nat.reduceSub, Nat.reduceMul, Nat.reduceLeDiff, Nat.reduceEqDiff, Nat.reduceBEq, Int.reduceLE, Int.reduceLT, Int.reduceEq, Int.reduceNe, Int.reduceAdd, Int.reduceSub, Int.reduceToNat, Int.reduceNeg, ↓reduceIte, reduceCtorEq]
   refine QLoop_go (n' := 8 - (k + 1)) (by omega) ⟨k + 1, by omega, rfl, hS2.trans (Shape.set hoq2 (.inr (hq82.trans hq8)) k _ rfl), ?_, rfl⟩ ?_
   ·rw [at_set hoq2, if_neg hqr]; exact hr2
   ·simp only [tq]
  ·have hk8 : k = 8 := by omega
   subst hk8
   have w2 : IntKind.i64.wrap ((i : Int) + 1) = (i : Int) + 1 := IntWalk.i64_in _ (by omega)
   simp only [hlive2, hliveq, hoi, i0, i1, h', w2, lay, wk3, wk, iaddrV_map, Nat.reduceAdd, Nat.reduceSub, Nat.reduceMul, Nat.reduceLeDiff, Nat.reduceEqDiff, Nat.reduceBEq, Int.reduceLE, Int.reduceLT, Int.reduceEq, Int.reduceNe, Int.reduceAdd, Int.reduceSub, Int.reduceToNat, Int.reduceNeg, ↓reduceIte, reduceCtorEq]
   refine QLoop_go (n' := n - (i + 1)) (by omega) ⟨i + 1, by omega, rfl, (hS.trans hS2).trans (Shape.set hr2 (.inl rfl) i _ rfl), ⟨_, by rw [at_set hr2, if_pos rfl], by simp [hlo], fun z h1 h2 => ?_⟩, rfl⟩ ?_
   ·obtain ⟨e, he, hv⟩ := hrw z (by omega) h2
    refine ⟨e, ?_, (hv.shape hS2).shape (Shape.set hr2 (.inl rfl) i _ rfl)⟩
    rw [List.getElem?_set, if_neg (by omega)]; exact he
   ·simp only [tq]
 ·simp only [h, lay, wk3, wk, iaddrV_map, Nat.reduceAdd, Nat.reduceSub, Nat.reduceMul, Nat.reduceLeDiff, Nat.reduceEqDiff, Nat.reduceBEq, Int.reduceLE, Int.reduceLT, Int.reduceEq, Int.reduceNe, Int.reduceAdd, Int.reduceSub, Int.reduceToNat, Int.reduceNeg, ↓reduceIte, reduceCtorEq]
  exact hS
end Go.Proofs.YtemjlopoffjmpaaGreat.Abs
namespace Go.Proofs.YtemjlopoffjmpaaGreat.Abs
open Go
def c107 : ACode :=
 (.seq (.reg [I1 4 (.mv (.c (.bool false)))])
 (.seq (.seq (.reg [I0 6 0, I1 7 (.len false (.t 6)), I0 8 1, I1 9 (.len false (.t 8)), I1 10 (.bini .neq (.t 7) (.t 9))])
 (.cond (.t 10)
 (.seq (.reg [I1 4 (.mv (.c (.bool false)))])
 .ret)
 .skip))
 (.seq (.seq (.reg [I0 11 0, I1 12 (.len false (.t 11)), I1 13 (.mv (KI 0))])
 (.block 0
 (.loop
 (.seq (.reg [I1 14 (.bini .lss (.t 13) (.t 12))])
 (.seq (.cond (.t 14)
 .skip
 (.exit 0))
 (.seq (.block 1
 (.seq (.reg [I0 15 13, I0 5 15])
 (.seq (.dreg [I0 16 0, I0 17 5, I1 18 (.iaddr 5 (.t 16) (.t 17)), I1 19 (.load true 5 (.t 18)), I0 20 1, I0 21 5, I1 22 (.iaddr 5 (.t 20) (.t 21)), I1 23 (.load true 5 (.t 22)), I1 24 (.eqs true [.i, .i, .s, .s, .i] (.t 19) (.t 23))])
 (.cond (.t 24)
 (.seq (.reg [I1 4 (.mv (.c (.bool false)))])
 .ret)
 .skip))))
 (.reg [I1 25 (.bini .add (.t 13) (KI 1)), I0 13 25])))))))
 (.seq (.reg [I1 4 (.mv (.c (.bool true)))])
 .ret))))
theorem d107 : FnD Tryz.prog 107 2 24 [.tmp 4] c107 := ⟨Tryz.f107, _, Tryz.func107, by kernel_rfl, rfl, rfl, by kernel_rfl, by kernel_rfl⟩
end Go.Proofs.YtemjlopoffjmpaaGreat.Abs
namespace Go.Proofs.YtemjlopoffjmpaaGreat.Abs
open Go
def c23 : ACode :=
 (.seq (.reg [I1 0 (.mv (.c (.bool false)))])
 (.seq (.reg [I1 14 (.call 37 [(.c (.emp)), (KI 1), (KI 0)]), I0 13 14, I8 15 13 0, I8 16 13 1, I0 1 15, I0 2 16])
 (.seq (.reg [I0 18 1, I1 19 (.call 24 [(.t 18), (KI 2), (KI 1)]), I0 17 19, I8 20 17 0, I8 21 17 1, I0 3 20, I0 4 21])
 (.seq (.reg [I0 23 3, I1 24 (.call 25 [(.t 23), (KI 3), (KI 2)]), I0 22 24, I8 25 22 0, I8 26 22 1, I0 5 25, I0 6 26])
 (.seq (.reg [I0 28 5, I1 29 (.call 29 [(.t 28), (KI 3)]), I0 27 29, I8 30 27 0, I8 31 27 1, I0 7 30, I0 8 31])
 (.seq (.reg [I0 33 7, I1 34 (.call 32 [(.t 33), (KI 2)]), I0 32 34, I8 35 32 0, I8 36 32 1, I0 9 35, I0 10 36])
 (.seq (.reg [I0 38 7, I1 39 (.call 27 [(.t 38), (KI 1)]), I0 37 39, I8 40 37 0, I8 41 37 1, I1 11 (.alloc [.int .i64 0, .int .i64 0, .int .i64 0, .int .i64 0, .emp]), I9 5 11 40, I0 12 41])
 (.seq (.reg [I0 42 2, I1 43 (.bini .eql (.t 42) (KI 0)), I0 44 43, I4 45 44 4, I2 46 44 (.bini .eql (.t 45) (KI 0)), I1 47 (.pick (.t 44) (.t 46) (.c (.bool false))), I0 48 47, I4 49 48 6, I2 50 48 (.bini .eql (.t 49) (KI 0)), I1 51 (.pick (.t 48) (.t 50) (.c (.bool false))), I0 52 51, I4 53 52 8, I2 54 52 (.bini .eql (.t 53) (KI 0)), I1 55 (.pick (.t 52) (.t 54) (.c (.bool false))), I0 56 55, I4 57 56 10, I2 58 56 (.bini .eql (.t 57) (KI 10)), I1 59 (.pick (.t 56) (.t 58) (.c (.bool false))), I0 60 59, I4 61 60 12, I1 62 (.pick (.t 60) (.t 61) (.c (.bool false))), I0 63 62, I2 64 63 (.faddr 2 (.t 11)), I2 65 63 (.load false 1 (.t 64)), I2 66 63 (.bini .eql (.t 65) (KI 2)), I1 67 (.pick (.t 63) (.t 66) (.c (.bool false))), I0 68 67, I4 69 68 7, I2 70 68 (.call 33 [(.t 69)]), I1 71 (.pick (.t 68) (.t 70) (.c (.bool false))), I0 72 71, I2 73 72 (.build [.int .i64 0, .int .i64 0, .int .i64 0, .int .i64 0, .emp] []), I2 74 72 (.bslice 5 1 [.int .i64 0, .int .i64 0, .int .i64 0, .int .i64 0, .emp] [(0, (.t 73))]), I2 75 72 (.call 33 [(.t 74)]), I2 76 72 (.un .not (.t 75)), I1 77 (.pick (.t 72) (.t 76) (.c (.bool false))), I0 78 77, I4 79 78 7, I4 80 78 7, I2 81 78 (.call 35 [(.t 79), (.t 80)]), I1 82 (.pick (.t 78) (.t 81) (.c (.bool false))), I0 83 82, I4 84 83 7, I4 85 83 5, I2 86 83 (.call 35 [(.t 84), (.t 85)]), I2 87 83 (.un .not (.t 86)), I1 88 (.pick (.t 83) (.t 87) (.c (.bool false))), I0 0 88])
 .ret))))))))
theorem d23 : FnD Tryz.prog 23 0 89 [.tmp 0] c23 := ⟨Tryz.f23, _, Tryz.func23, by kernel_rfl, rfl, rfl, by kernel_rfl, by kernel_rfl⟩
end Go.Proofs.YtemjlopoffjmpaaGreat.Abs
namespace Go.Proofs.YtemjlopoffjmpaaGreat.Abs
open Go
def c33 : ACode :=
 (.seq (.reg [I1 2 (.mv (.c (.bool false)))])
 (.seq (.reg [I1 3 (.mv (KI 0))])
 (.seq (.seq (.reg [I0 6 0, I1 7 (.len false (.t 6)), I1 8 (.mv (KI 0))])
 (.block 0
 (.loop
 (.seq (.reg [I1 9 (.bini .lss (.t 8) (.t 7))])
 (.seq (.cond (.t 9)
 .skip
 (.exit 0))
 (.seq (.block 1
 (.seq (.reg [I1 10 (.iaddr 5 (.t 6) (.t 8)), I1 11 (.load true 5 (.t 10)), I1 5 (.alloc [.int .i64 0, .int .i64 0, .int .i64 0, .int .i64 0, .emp]), I9 5 5 11])
 (.seq (.seq (.reg [I6 12 0 5, I7 13 12, I0 14 3, I1 15 (.bini .leq (.t 13) (.t 14)), I0 16 15, I3 17 16 (.load true 5 (.t 5)), I5 18 16 0, I3 19 16 (.build [.int .i64 0, .int .i64 0, .int .i64 0, .int .i64 0, .emp, .emp] [(0, 5, (.t 17)), (5, 1, (.t 18))]), I3 20 16 (.call 66 [(.t 19)]), I3 21 16 (.un .not (.t 20)), I1 22 (.pick (.t 16) (.c (.bool true)) (.t 21))])
 (.cond (.t 22)
 (.seq (.reg [I1 2 (.mv (.c (.bool false)))])
 .ret)
 .skip))
 (.reg [I6 23 0 5, I7 24 23, I0 3 24]))))
 (.reg [I1 25 (.bini .add (.t 8) (KI 1)), I0 8 25])))))))
 (.seq (.reg [I0 26 0, I1 27 (.len false (.t 26)), I1 28 (.bini .leq (.t 27) (KI 8)), I0 2 28])
 .ret))))
theorem d33 : FnD Tryz.prog 33 1 28 [.tmp 2] c33 := ⟨Tryz.f33, _, Tryz.func33, by kernel_rfl, rfl, rfl, by kernel_rfl, by kernel_rfl⟩
end Go.Proofs.YtemjlopoffjmpaaGreat.Abs
namespace Go.Proofs.YtemjlopoffjmpaaGreat.Abs
open Go
def c35 : ACode :=
 (.seq (.reg [I1 4 (.mv (.c (.bool false)))])
 (.seq (.reg [I0 5 0, I0 6 1, I1 7 (.call 67 [(.t 5), (.t 6), (.c (.fn (.func 68) [] []))]), I0 4 7])
 .ret))
theorem d35 : FnD Tryz.prog 35 2 6 [.tmp 4] c35 := ⟨Tryz.f35, _, Tryz.func35, by kernel_rfl, rfl, rfl, by kernel_rfl, by kernel_rfl⟩
end Go.Proofs.YtemjlopoffjmpaaGreat.Abs
namespace Go.Proofs.YtemjlopoffjmpaaGreat.Abs
open Go
def c67 : ACode :=
 (.seq (.reg [I1 6 (.mv (.c (.bool false)))])
 (.seq (.seq (.reg [I0 10 0, I1 11 (.len false (.t 10)), I0 12 1, I1 13 (.len false (.t 12)), I1 14 (.bini .neq (.t 11) (.t 13))])
 (.cond (.t 14)
 (.seq (.reg [I1 6 (.mv (.c (.bool false)))])
 .ret)
 .skip))
 (.seq (.seq (.reg [I0 15 0, I1 16 (.len false (.t 15)), I1 17 (.mv (KI 0))])
 (.block 0
 (.loop
 (.seq (.reg [I1 18 (.bini .lss (.t 17) (.t 16))])
 (.seq (.cond (.t 18)
 .skip
 (.exit 0))
 (.seq (.block 1
 (.seq (.reg [I0 19 17, I1 20 (.iaddr 5 (.t 15) (.t 17)), I1 21 (.load true 5 (.t 20)), I1 8 (.alloc [.int .i64 0, .int .i64 0, .int .i64 0, .int .i64 0, .emp]), I0 7 19, I9 5 8 21])
 (.seq (.reg [I0 22 1, I0 23 7, I1 24 (.iaddr 5 (.t 22) (.t 23)), I1 25 (.load true 5 (.t 24)), I1 9 (.alloc [.int .i64 0, .int .i64 0, .int .i64 0, .int .i64 0, .emp]), I9 5 9 25])
 (.seq (.reg [I0 26 2, I1 27 (.load true 5 (.t 8)), I1 28 (.load true 5 (.t 9)), I1 29 (.calld (.t 26) [(.t 27), (.t 28)]), I1 30 (.un .not (.t 29))])
 (.cond (.t 30)
 (.seq (.reg [I1 6 (.mv (.c (.bool false)))])
 .ret)
 .skip)))))
 (.reg [I1 31 (.bini .add (.t 17) (KI 1)), I0 17 31])))))))
 (.seq (.reg [I1 6 (.mv (.c (.bool true)))])
 .ret))))
theorem d67 : FnD Tryz.prog 67 3 29 [.tmp 6] c67 := ⟨Tryz.f67, _, Tryz.func67, by kernel_rfl, rfl, rfl, by kernel_rfl, by kernel_rfl⟩
end Go.Proofs.YtemjlopoffjmpaaGreat.Abs
namespace Go.Proofs.YtemjlopoffjmpaaGreat.Abs
open Go
def c68 : ACode :=
 (.seq (.reg [I1 2 (.box (.t 0)), I1 3 (.box (.t 1)), I1 4 (.mv (.c (.bool false)))])
 (.seq (.reg [I6 5 0 2, I7 6 5, I6 7 0 3, I7 8 7, I1 9 (.bini .eql (.t 6) (.t 8)), I0 10 9, I2 11 10 (.faddr 1 (.t 2)), I2 12 10 (.load false 1 (.t 11)), I2 13 10 (.faddr 1 (.t 3)), I2 14 10 (.load false 1 (.t 13)), I2 15 10 (.bini .eql (.t 12) (.t 14)), I1 16 (.pick (.t 10) (.t 15) (.c (.bool false))), I0 17 16, I2 18 17 (.faddr 2 (.t 2)), I2 19 17 (.load false 1 (.t 18)), I2 20 17 (.faddr 2 (.t 3)), I2 21 17 (.load false 1 (.t 20)), I2 22 17 (.bini .eql (.t 19) (.t 21)), I1 23 (.pick (.t 17) (.t 22) (.c (.bool false))), I0 24 23, I2 25 24 (.faddr 3 (.t 2)), I2 26 24 (.load false 1 (.t 25)), I2 27 24 (.faddr 3 (.t 3)), I2 28 24 (.load false 1 (.t 27)), I2 29 24 (.bini .eql (.t 26) (.t 28)), I1 30 (.pick (.t 24) (.t 29) (.c (.bool false))), I0 31 30, I2 32 31 (.faddr 4 (.t 2)), I2 33 31 (.load false 1 (.t 32)), I2 34 31 (.faddr 4 (.t 3)), I2 35 31 (.load false 1 (.t 34)), I2 36 31 (.call 69 [(.t 33), (.t 35)]), I1 37 (.pick (.t 31) (.t 36) (.c (.bool false))), I0 4 37])
 .ret))
theorem d68 : FnD Tryz.prog 68 2 36 [.tmp 4] c68 := ⟨Tryz.f68, _, Tryz.func68, by kernel_rfl, rfl, rfl, by kernel_rfl, by kernel_rfl⟩
end Go.Proofs.YtemjlopoffjmpaaGreat.Abs
namespace Go.Proofs.YtemjlopoffjmpaaGreat.Abs
open Go
def c69 : ACode :=
 (.seq (.reg [I1 4 (.mv (.c (.bool false)))])
 (.seq (.reg [I0 5 0, I0 6 1, I1 7 (.call 107 [(.t 5), (.t 6)]), I0 4 7])
 .ret))
theorem d69 : FnD Tryz.prog 69 2 6 [.tmp 4] c69 := ⟨Tryz.f69, _, Tryz.func69, by kernel_rfl, rfl, rfl, by kernel_rfl, by kernel_rfl⟩
end Go.Proofs.YtemjlopoffjmpaaGreat.Abs
namespace Go.Proofs.YtemjlopoffjmpaaGreat.Abs
open Go
def tabForms : List (Nat × FD) := [
 (59, ⟨2, 6, [.tmp 4], c59⟩),
 (102, ⟨2, 6, [.tmp 3], c102⟩),
 (101, ⟨2, 17, [.tmp 4], c101⟩),
 (60, ⟨3, 19, [.tmp 6], c60⟩),
 (56, ⟨1, 22, [.tmp 2], c56⟩),
 (48, ⟨1, 7, [.tmp 2], c48⟩),
 (49, ⟨1, 7, [.tmp 2], c49⟩),
 (57, ⟨3, 42, [.tmp 6, .tmp 7], c57⟩),
 (37, ⟨3, 21, [.tmp 6, .tmp 7], c37⟩),
 (24, ⟨3, 33, [.tmp 6, .tmp 7], c24⟩),
 (25, ⟨3, 33, [.tmp 6, .tmp 7], c25⟩),
 (29, ⟨2, 117, [.tmp 4, .tmp 5], c29⟩),
 (38, ⟨3, 69, [.tmp 6, .tmp 7], c38⟩),
 (32, ⟨2, 52, [.tmp 4, .tmp 5], c32⟩),
 (27, ⟨2, 17, [.cell 4 true 5, .tmp 5], c27⟩),
 (33, ⟨1, 28, [.tmp 2], c33⟩),
 (66, ⟨1, 71, [.tmp 2], c66⟩),
 (105, ⟨1, 5, [.tmp 2], c105⟩),
 (131, ⟨1, 63, [.tmp 2], c131⟩),
 (158, ⟨2, 36, [.tmp 4], c158⟩),
 (159, ⟨2, 17, [.tmp 4], c159⟩),
 (160, ⟨2, 48, [.tmp 4], c160⟩),
 (202, ⟨2, 21, [.tmp 4], c202⟩),
 (106, ⟨2, 24, [.tmp 4], c106⟩),
 (35, ⟨2, 6, [.tmp 4], c35⟩),
 (67, ⟨3, 29, [.tmp 6], c67⟩),
 (68, ⟨2, 36, [.tmp 4], c68⟩),
 (69, ⟨2, 6, [.tmp 4], c69⟩),
 (107, ⟨2, 24, [.tmp 4], c107⟩),
 (76, ⟨0, 7, [.tmp 0], c76⟩),
 (77, ⟨3, 17, [.tmp 4], c77⟩),
 (63, ⟨2, 7, [.tmp 4], c63⟩),
 (64, ⟨2, 6, [.tmp 3], c64⟩),
 (65, ⟨3, 30, [.tmp 6], c65⟩),
 (201, ⟨1, 21, [.tmp 2], c201⟩),
 (224, ⟨1, 15, [.tmp 2], c224⟩),
 (23, ⟨0, 89, [.tmp 0], c23⟩)]
theorem tabForms_ok : ∀ p ∈ tabForms, FnD Tryz.prog p.1 p.2.np p.2.nt p.2.res p.2.ac := by
 intro p hp
 simp only [tabForms, List.mem_cons, List.not_mem_nil, or_false] at hp
 rcases hp with rfl | rfl | rfl | rfl | rfl | rfl | rfl | rfl | rfl | rfl | rfl | rfl | rfl | rfl | rfl | rfl | rfl | rfl | rfl | rfl | rfl | rfl | rfl | rfl | rfl | rfl | rfl | rfl | rfl | rfl | rfl | rfl | rfl | rfl | rfl | rfl | rfl
 ·exact d59
 ·exact d102
 ·exact d101
 ·exact d60
 ·exact d56
 ·exact d48
 ·exact d49
 ·exact d57
 ·exact d37
 ·exact d24
 ·exact d25
 ·exact d29
 ·exact d38
 ·exact d32
 ·exact d27
 ·exact d33
 ·exact d66
 ·exact d105
 ·exact d131
 ·exact d158
 ·exact d159
 ·exact d160
 ·exact d202
 ·exact d106
 ·exact d35
 ·exact d67
 ·exact d68
 ·exact d69
 ·exact d107
 ·exact d76
 ·exact d77
 ·exact d63
 ·exact d64
 ·exact d65
 ·exact d201
 ·exact d224
 ·exact d23
end Go.Proofs.YtemjlopoffjmpaaGreat.Abs
namespace Go.Proofs.YtemjlopoffjmpaaGreat.Abs
open Go
def nf : PV := .fz [[.int .i64 2, .int .i64 0, .str [], .str [], .int .i64 0], [.int .i64 0, .int .i64 0, .str [], .str [], .int .i64 0], [.int .i64 0, .int .i64 0, .str [], .str [], .int .i64 0], [.int .i64 0, .int .i64 0, .str [], .str [], .int .i64 0], [.int .i64 0, .int .i64 0, .str [], .str [], .int .i64 0], [.int .i64 0, .int .i64 0, .str [], .str [], .int .i64 0], [.int .i64 0, .int .i64 0, .str [], .str [], .int .i64 0], [.int .i64 0, .int .i64 0, .str [], .str [], .int .i64 0]]
def fzF (f : Nat) : Bool := f == 76 || f == 49 || f == 37 || f == 24 || f == 25 || f == 29 || f == 38 || f == 32 || f == 27
theorem ev_ok : EvOk Tryz.prog (evF tabForms orcC fzF 40 40) := evF_ok tabForms_ok orcC_ok fzF 40 40
def m0 : Memo := ⟨37, [.emp, .int .i64 1, .int .i64 0], .tuple [.fz [[.int .i64 1, .int .i64 1, .int .i64 0, .int .i64 0, nf]], .int .i64 0]⟩
theorem m0_so : m0.so Tryz.prog := Memo.of ev_ok m0 (by kernel_rfl)
def m1 : Memo := ⟨24, [.fz [[.int .i64 1, .int .i64 1, .int .i64 0, .int .i64 0, nf]], .int .i64 2, .int .i64 1], .tuple [.fz [[.int .i64 1, .int .i64 1, .int .i64 0, .int .i64 0, nf], [.int .i64 2, .int .i64 2, .int .i64 1, .int .i64 0, nf]], .int .i64 0]⟩
theorem m1_so : m1.so Tryz.prog := Memo.of ev_ok m1 (by kernel_rfl)
def m2 : Memo := ⟨25, [.fz [[.int .i64 1, .int .i64 1, .int .i64 0, .int .i64 0, nf], [.int .i64 2, .int .i64 2, .int .i64 1, .int .i64 0, nf]], .int .i64 3, .int .i64 2], .tuple [.fz [[.int .i64 1, .int .i64 1, .int .i64 0, .int .i64 0, nf], [.int .i64 2, .int .i64 2, .int .i64 1, .int .i64 0, nf], [.int .i64 3, .int .i64 1, .int .i64 2, .int .i64 0, nf]], .int .i64 0]⟩
theorem m2_so : m2.so Tryz.prog := Memo.of ev_ok m2 (by kernel_rfl)
def m3 : Memo := ⟨29, [.fz [[.int .i64 1, .int .i64 1, .int .i64 0, .int .i64 0, nf], [.int .i64 2, .int .i64 2, .int .i64 1, .int .i64 0, nf], [.int .i64 3, .int .i64 1, .int .i64 2, .int .i64 0, nf]], .int .i64 3], .tuple [.fz [[.int .i64 1, .int .i64 1, .int .i64 2, .int .i64 0, nf], [.int .i64 2, .int .i64 2, .int .i64 3, .int .i64 0, nf], [.int .i64 3, .int .i64 1, .int .i64 0, .int .i64 0, nf]], .int .i64 0]⟩
theorem m3_so : m3.so Tryz.prog := Memo.of ev_ok m3 (by kernel_rfl)
def m4 : Memo := ⟨32, [.fz [[.int .i64 1, .int .i64 1, .int .i64 2, .int .i64 0, nf], [.int .i64 2, .int .i64 2, .int .i64 3, .int .i64 0, nf], [.int .i64 3, .int .i64 1, .int .i64 0, .int .i64 0, nf]], .int .i64 2], .tuple [.fz [[.int .i64 1, .int .i64 1, .int .i64 2, .int .i64 0, nf], [.int .i64 2, .int .i64 2, .int .i64 3, .int .i64 0, nf], [.int .i64 3, .int .i64 1, .int .i64 0, .int .i64 0, nf]], .int .i64 10]⟩
theorem m4_so : m4.so Tryz.prog := Memo.of ev_ok m4 (by kernel_rfl)
def m5 : Memo := ⟨33, [.fz [[.int .i64 1, .int .i64 1, .int .i64 2, .int .i64 0, nf], [.int .i64 2, .int .i64 2, .int .i64 3, .int .i64 0, nf], [.int .i64 3, .int .i64 1, .int .i64 0, .int .i64 0, nf]]], .bool true⟩
theorem m5_so : m5.so Tryz.prog := Memo.of ev_ok m5 (by kernel_rfl)
def m6 : Memo := ⟨35, [.fz [[.int .i64 1, .int .i64 1, .int .i64 2, .int .i64 0, nf], [.int .i64 2, .int .i64 2, .int .i64 3, .int .i64 0, nf], [.int .i64 3, .int .i64 1, .int .i64 0, .int .i64 0, nf]], .fz [[.int .i64 1, .int .i64 1, .int .i64 2, .int .i64 0, nf], [.int .i64 2, .int .i64 2, .int .i64 3, .int .i64 0, nf], [.int .i64 3, .int .i64 1, .int .i64 0, .int .i64 0, nf]]], .bool true⟩
theorem m6_so : m6.so Tryz.prog := Memo.of ev_ok m6 (by kernel_rfl)
def m7 : Memo := ⟨35, [.fz [[.int .i64 1, .int .i64 1, .int .i64 2, .int .i64 0, nf], [.int .i64 2, .int .i64 2, .int .i64 3, .int .i64 0, nf], [.int .i64 3, .int .i64 1, .int .i64 0, .int .i64 0, nf]], .fz [[.int .i64 1, .int .i64 1, .int .i64 0, .int .i64 0, nf], [.int .i64 2, .int .i64 2, .int .i64 1, .int .i64 0, nf], [.int .i64 3, .int .i64 1, .int .i64 2, .int .i64 0, nf]]], .bool false⟩
theorem m7_so : m7.so Tryz.prog := Memo.of ev_ok m7 (by kernel_rfl)
def memoB : List Memo := [m0, m1, m2, m3, m4, m5, m6, m7]
theorem memoB_so : ∀ m ∈ memoB, m.so Tryz.prog := by
 intro m hm
 simp only [memoB, List.mem_cons, List.not_mem_nil, or_false] at hm
 rcases hm with rfl | rfl | rfl | rfl | rfl | rfl | rfl | rfl
 ·exact m0_so
 ·exact m1_so
 ·exact m2_so
 ·exact m3_so
 ·exact m4_so
 ·exact m5_so
 ·exact m6_so
 ·exact m7_so
def m100 : Memo := ⟨23, [], .bool true⟩
theorem m100_so : m100.so Tryz.prog := Memo.of (evF_ok tabForms_ok (memo_ok orcC_ok memoB_so) fzF 40 40) m100 (by kernel_rfl)
end Go.Proofs.YtemjlopoffjmpaaGreat.Abs
set_option linter.unusedSimpArgs false
set_option linter.unusedVariables false
namespace Go.Proofs.YtemjlopoffjmpaaGreat.Abs
open Go Go.Proofs
theorem MayL.eight {l : List Dset} (h : MayL l) : Eight l := ⟨by have := h.len; omega, fun d hd => (h.each d hd).files.len⟩
theorem promoteV (l : List Dset) (hl : Eight l) (i : Int) (H : AH) : C Tryz.prog 29 [asets l, .int .i64 i] H (DeedO (promoteA l i).1.length (promoteA l i).2) :=
 C_view (K0 := DeedO (promoteA l i).1.length (promoteA l i).2) (by simpa [viewL, viewA, view_asets] using promoteE l hl i) (fun _ _ h => h.up)
theorem destroyV (l : List Dset) (hl : Eight l) (i : Int) (H : AH) : C Tryz.prog 32 [asets l, .int .i64 i] H (DeedO (destroyA l i).1.length (destroyA l i).2) :=
 C_view (K0 := DeedO (destroyA l i).1.length (destroyA l i).2) (by simpa [viewL, viewA, view_asets] using destroyE l hl i) (fun _ _ h => h.up)
theorem dcloneV (l : List Dset) (hl : Eight l) (n i : Int) (H : AH) : C Tryz.prog 25 [asets l, .int .i64 n, .int .i64 i] H (DeedO (cloneA l n i).1.length (cloneA l n i).2) :=
 C_view (K0 := DeedO (cloneA l n i).1.length (cloneA l n i).2) (by simpa [viewL, viewA, view_asets] using dcloneE l hl n i) (fun _ _ h => h.up)
theorem snapV (l : List Dset) (hl : Eight l) (n i : Int) (H : AH) : C Tryz.prog 24 [asets l, .int .i64 n, .int .i64 i] H (DeedO (snapA l n i).1.length (snapA l n i).2) :=
 C_view (K0 := DeedO (snapA l n i).1.length (snapA l n i).2) (by simpa [viewL, viewA, view_asets] using snapE l hl n i) (fun _ _ h => h.up)
theorem createV (l : List Dset) (hl : Eight l) (n q : Int) (H : AH) : C Tryz.prog 37 [asets l, .int .i64 n, .int .i64 q] H (DeedO (createA l n q).1.length (createA l n q).2) :=
 C_view (K0 := DeedO (createA l n q).1.length (createA l n q).2) (by simpa [viewL, viewA, view_asets] using createE l hl n q) (fun _ _ h => h.up)
theorem backV (l : List Dset) (hl : Eight l) (i j : Int) (H : AH) : C Tryz.prog 38 [asets l, .int .i64 i, .int .i64 j] H (DeedO (backA l i j).1.length (backA l i j).2) :=
 C_view (K0 := DeedO (backA l i j).1.length (backA l i j).2) (by simpa [viewL, viewA, view_asets] using dbackE l hl i j) (fun _ _ h => h.up)
theorem getV' (l : List Dset) (hl : Eight l) (i : Int) (H : AH) : C Tryz.prog 27 [asets l, .int .i64 i] H (fun y H' => ∃ G, H' = H ++ G ∧ GetO (getA l i) y H') :=
 C_view (K0 := GetO (getA l i)) (by simpa [viewL, viewA, view_asets] using getE0 l hl i) (fun _ _ h => ⟨_, rfl, h.up⟩)
theorem RowV.app {H G : AH} {r : Nat} {e : List AV} (h : RowV H r e) : RowV (H ++ G) r e := by
 obtain ⟨a, b, c, d, q, o, h1, h2, h3, h4⟩ := h
 exact ⟨a, b, c, d, q, o, h1, h2, at_app.2 (.inl ⟨at_lt h3, h3⟩), h4⟩
theorem OwnR.app {H G : AH} {r tot n : Nat} (h : OwnR H r tot n) : OwnR (H ++ G) r tot n := by
 obtain ⟨o, h1, h2, h3, h4⟩ := h
 refine ⟨o, at_app.2 (.inl ⟨at_lt h1, h1⟩), h2, h3, fun k hk => ?_⟩
 obtain ⟨e, g1, g2⟩ := h4 k hk
 exact ⟨e, g1, g2.app⟩
theorem OwnR.lt {H : AH} {r tot n : Nat} (h : OwnR H r tot n) : r < H.length := by
 obtain ⟨o, h1, _⟩ := h
 exact at_lt h1
theorem pick_index {n : Int} (hn : 0 ≤ n) {m : Nat} (hm : 0 < m) : ∃ k : Nat, n.tmod (m : Int) = k ∧ k < m := by
 have h1 := Int.tmod_nonneg (m : Int) hn
 have h2 := Int.tmod_lt_of_pos n (show (0 : Int) < m by omega)
 exact ⟨(n.tmod (m : Int)).toNat, by omega, by omega⟩
theorem rem_small' {n : Int} (hn : 0 ≤ n) (m : Nat) (hm : 0 < m) : ∃ k : Nat, n.tmod (m : Int) = k ∧ k < m := pick_index hn hm
set_option maxRecDepth 10000 in
set_option maxHeartbeats 8000000 in
theorem setsOld_spec (l : List UInt8) (a : Int) (ha : 0 ≤ a ∧ a ≤ 255) (b : Int) (hb : 0 ≤ b ∧ b ≤ 255) (what : Int) (hwh : 0 ≤ what ∧ what ≤ 255) : C Tryz.prog 11 [.fz (l.map pbyte), .int .u8 a, .int .u8 b, .int .u8 what] [] (fun x _ => x = .bool true) := by
 refine C_body d11 rfl ?_
 delta c11 I0 I1 I2 I3 I4 I5 I6 I7 I8 I9 KI
 refine W_stp ?_
 simp only [wk5, wk3, wk, iaddrV_map, Nat.reduceAdd, Nat.reduceSub, Nat.reduceMul, Nat.reduceLeDiff, Nat.reduceEqDiff, Nat.reduceBEq, Int.reduceLE, Int.reduceLT, Int.reduceEq, Int.reduceNe, Int.reduceAdd, Int.reduceSub, Int.reduceToNat, Int.reduceNeg, ↓reduceIte, reduceCtorEq]
 refine QStp_go (W_stp ?_)
 simp only [wk5, wk3, wk, iaddrV_map, Nat.reduceAdd, Nat.reduceSub, Nat.reduceMul, Nat.reduceLeDiff, Nat.reduceEqDiff, Nat.reduceBEq, Int.reduceLE, Int.reduceLT, Int.reduceEq, Int.reduceNe, Int.reduceAdd, Int.reduceSub, Int.reduceToNat, Int.reduceNeg, ↓reduceIte, reduceCtorEq]
 refine CT_ok (Memo.any m100_so []) ?_
 rintro _ _ ⟨rfl, rfl⟩
 simp only [m100, wk5, wk3, wk, iaddrV_map, Nat.reduceAdd, Nat.reduceSub, Nat.reduceMul, Nat.reduceLeDiff, Nat.reduceEqDiff, Nat.reduceBEq, Int.reduceLE, Int.reduceLT, Int.reduceEq, Int.reduceNe, Int.reduceAdd, Int.reduceSub, Int.reduceToNat, Int.reduceNeg, ↓reduceIte, reduceCtorEq]
 refine QStp_go (W_stp ?_)
 simp only [wk5, wk3, wk, iaddrV_map, Nat.reduceAdd, Nat.reduceSub, Nat.reduceMul, Nat.reduceLeDiff, Nat.reduceEqDiff, Nat.reduceBEq, Int.reduceLE, Int.reduceLT, Int.reduceEq, Int.reduceNe, Int.reduceAdd, Int.reduceSub, Int.reduceToNat, Int.reduceNeg, ↓reduceIte, reduceCtorEq]
 by_cases h1 : (80 : Int) < l.length
 ·simp only [h1, wk5, wk3, wk, iaddrV_map, Nat.reduceAdd, Nat.reduceSub, Nat.reduceMul, Nat.reduceLeDiff, Nat.reduceEqDiff, Nat.reduceBEq, Int.reduceLE, Int.reduceLT, Int.reduceEq, Int.reduceNe, Int.reduceAdd, Int.reduceSub, Int.reduceToNat, Int.reduceNeg, ↓reduceIte, reduceCtorEq]
 simp only [h1, wk5, wk3, wk, iaddrV_map, Nat.reduceAdd, Nat.reduceSub, Nat.reduceMul, Nat.reduceLeDiff, Nat.reduceEqDiff, Nat.reduceBEq, Int.reduceLE, Int.reduceLT, Int.reduceEq, Int.reduceNe, Int.reduceAdd, Int.reduceSub, Int.reduceToNat, Int.reduceNeg, ↓reduceIte, reduceCtorEq]
 refine QStp_go (W_stp ?_)
 simp only [wk5, wk3, wk, iaddrV_map, Nat.reduceAdd, Nat.reduceSub, Nat.reduceMul, Nat.reduceLeDiff, Nat.reduceEqDiff, Nat.reduceBEq, Int.reduceLE, Int.reduceLT, Int.reduceEq, Int.reduceNe, Int.reduceAdd, Int.reduceSub, Int.reduceToNat, Int.reduceNeg, ↓reduceIte, reduceCtorEq]
 refine CT_ok (made_spec l) ?_
 rintro _ _ ⟨rfl, rfl⟩
 simp only [wk5, wk3, wk, iaddrV_map, Nat.reduceAdd, Nat.reduceSub, Nat.reduceMul, Nat.reduceLeDiff, Nat.reduceEqDiff, Nat.reduceBEq, Int.reduceLE, Int.reduceLT, Int.reduceEq, Int.reduceNe, Int.reduceAdd, Int.reduceSub, Int.reduceToNat, Int.reduceNeg, ↓reduceIte, reduceCtorEq]
 refine CT_ok (sets14 l 0 25 (by omega) (by omega) (by omega)) ?_
 rintro _ _ ⟨L, n0, hL, hne0, _, rfl, rfl⟩
 have hE := hL.eight
 have hL0 : 0 < L.length := List.length_pos_iff.2 hne0
 simp only [wk5, wk3, wk, iaddrV_map, Nat.reduceAdd, Nat.reduceSub, Nat.reduceMul, Nat.reduceLeDiff, Nat.reduceEqDiff, Nat.reduceBEq, Int.reduceLE, Int.reduceLT, Int.reduceEq, Int.reduceNe, Int.reduceAdd, Int.reduceSub, Int.reduceToNat, Int.reduceNeg, ↓reduceIte, reduceCtorEq]
 refine QStp_go (W_stp ?_)
 simp only [wk5, wk3, wk, iaddrV_map, Nat.reduceAdd, Nat.reduceSub, Nat.reduceMul, Nat.reduceLeDiff, Nat.reduceEqDiff, Nat.reduceBEq, Int.reduceLE, Int.reduceLT, Int.reduceEq, Int.reduceNe, Int.reduceAdd, Int.reduceSub, Int.reduceToNat, Int.reduceNeg, ↓reduceIte, reduceCtorEq]
 refine CT_ok (own39 L hE hL0 _) ?_
 rintro _ _ ⟨rfl, rfl⟩
 simp only [wk5, wk3, wk, iaddrV_map, Nat.reduceAdd, Nat.reduceSub, Nat.reduceMul, Nat.reduceLeDiff, Nat.reduceEqDiff, Nat.reduceBEq, Int.reduceLE, Int.reduceLT, Int.reduceEq, Int.reduceNe, Int.reduceAdd, Int.reduceSub, Int.reduceToNat, Int.reduceNeg, ↓reduceIte, reduceCtorEq]
 refine QStp_go (W_stp ?_)
 obtain ⟨ia, hia, hia9⟩ := rem_small' ha.1 9 (by omega)
 obtain ⟨ib, hib, hib9⟩ := rem_small' hb.1 9 (by omega)
 have hw0 := Int.tmod_nonneg 6 hwh.1
 have hw6 := Int.tmod_lt_of_pos what (show (0 : Int) < 6 by omega)
 obtain ⟨w, hw⟩ : ∃ w, what.tmod 6 = w := ⟨_, rfl⟩
 rw [hw] at hw0 hw6
 replace hia : a.tmod 9 = ia := hia
 replace hib : b.tmod 9 = ib := hib
 have wa : IntKind.i64.wrap (ia : Int) = ia := IntWalk.i64_in _ (by omega)
 have wb : IntKind.i64.wrap (ib : Int) = ib := IntWalk.i64_in _ (by omega)
 have wa1 : IntKind.i64.wrap (1 + (ia : Int)) = 1 + (ia : Int) := IntWalk.i64_in _ (by omega)
 have wb1 : IntKind.i64.wrap (1 + (ib : Int)) = 1 + (ib : Int) := IntWalk.i64_in _ (by omega)
 simp only [asets, picksH, hia, hib, wa, wb, wa1, wb1, lay, wk5, wk3, wk, iaddrV_map, Nat.reduceAdd, Nat.reduceSub, Nat.reduceMul, Nat.reduceLeDiff, Nat.reduceEqDiff, Nat.reduceBEq, Int.reduceLE, Int.reduceLT, Int.reduceEq, Int.reduceNe, Int.reduceAdd, Int.reduceSub, Int.reduceToNat, Int.reduceNeg, ↓reduceIte, reduceCtorEq]
 generalize 1 + (ia : Int) = i
 generalize 1 + (ib : Int) = j
 refine QStp_go (W_stp ?_)
 simp only [lay, wk5, wk3, wk, iaddrV_map, Nat.reduceAdd, Nat.reduceSub, Nat.reduceMul, Nat.reduceLeDiff, Nat.reduceEqDiff, Nat.reduceBEq, Int.reduceLE, Int.reduceLT, Int.reduceEq, Int.reduceNe, Int.reduceAdd, Int.reduceSub, Int.reduceToNat, Int.reduceNeg, ↓reduceIte, reduceCtorEq]
 refine QStp_go (W_cut (fun fr H => ∃ (r tot n : Nat), 0 < n ∧ n ≤ 1000000 ∧ OwnR H r tot n ∧ fr = [.fz (l.map pbyte), .int .u8 a, .int .u8 b, .int .u8 what, .top, .top, .top, .top, .bool false, asets L, asets L, .int .i64 i, .int .i64 j, .own r 5 0 n tot] ++ List.replicate 99 .top) ?_ ?_)
 ·have fin : ∀ (X : List Dset) (r tot : Nat) (fr : List AV) (H : AH) (Q : APost) (m) (n), X ≠ [] → X.length ≤ 1000000 → OwnR H r tot X.length → Tops ([.fz (l.map pbyte), .int .u8 a, .int .u8 b, .int .u8 what, .top, .top, .top, .top, .bool false, asets L, asets L, .int .i64 i, .int .i64 j, .own r 5 0 X.length tot] ++ List.replicate 99 .top) fr →
   QCut 0 (fun fr H => ∃ (r tot n : Nat), 0 < n ∧ n ≤ 1000000 ∧ OwnR H r tot n ∧ fr = [.fz (l.map pbyte), .int .u8 a, .int .u8 b, .int .u8 what, .top, .top, .top, .top, .bool false, asets L, asets L, .int .i64 i, .int .i64 j, .own r 5 0 n tot] ++ List.replicate 99 .top) Q m n .normal fr H := fun X r tot fr H Q m n h1 h2 h3 h4 => QCut_go ⟨r, tot, X.length, List.length_pos_iff.2 h1, h2, h3, rfl⟩ (Wk_tops h4)
  simp only [hw, lay, wk5, wk3, wk, iaddrV_map, Nat.reduceAdd, Nat.reduceSub, Nat.reduceMul, Nat.reduceLeDiff, Nat.reduceEqDiff, Nat.reduceBEq, Int.reduceLE, Int.reduceLT, Int.reduceEq, Int.reduceNe, Int.reduceAdd, Int.reduceSub, Int.reduceToNat, Int.reduceNeg, ↓reduceIte, reduceCtorEq]
  have hcase : w = 0 ∨ w = 1 ∨ w = 2 ∨ w = 3 ∨ w = 4 ∨ w = 5 := by omega
  rcases hcase with rfl | rfl | rfl | rfl | rfl | rfl
  ·simp only [lay, wk5, wk3, wk, iaddrV_map, Nat.reduceAdd, Nat.reduceSub, Nat.reduceMul, Nat.reduceLeDiff, Nat.reduceEqDiff, Nat.reduceBEq, Int.reduceLE, Int.reduceLT, Int.reduceEq, Int.reduceNe, Int.reduceAdd, Int.reduceSub, Int.reduceToNat, Int.reduceNeg, ↓reduceIte, reduceCtorEq]
   refine CT_ok (promoteV L hE i _) ?_
   have hn := promoteA_ne hL hne0 i
   have hs := (promoteA_may hL i).eight.1
   generalize promoteA L i = X at hn hs
   rintro _ H ⟨r, tot, rfl, hO⟩
   simp only [asets, lay, wk5, wk3, wk, iaddrV_map, Nat.reduceAdd, Nat.reduceSub, Nat.reduceMul, Nat.reduceLeDiff, Nat.reduceEqDiff, Nat.reduceBEq, Int.reduceLE, Int.reduceLT, Int.reduceEq, Int.reduceNe, Int.reduceAdd, Int.reduceSub, Int.reduceToNat, Int.reduceNeg, ↓reduceIte, reduceCtorEq]
   refine fin X.1 r tot _ _ _ _ _ hn hs hO ?_
   simp only [asets, tp]
  ·simp only [lay, wk5, wk3, wk, iaddrV_map, Nat.reduceAdd, Nat.reduceSub, Nat.reduceMul, Nat.reduceLeDiff, Nat.reduceEqDiff, Nat.reduceBEq, Int.reduceLE, Int.reduceLT, Int.reduceEq, Int.reduceNe, Int.reduceAdd, Int.reduceSub, Int.reduceToNat, Int.reduceNeg, ↓reduceIte, reduceCtorEq]
   refine CT_ok (destroyV L hE i _) ?_
   have hn := destroyA_ne hL hne0 i
   have hs := (destroyA_may hL i).eight.1
   generalize destroyA L i = X at hn hs
   rintro _ H ⟨r, tot, rfl, hO⟩
   simp only [asets, lay, wk5, wk3, wk, iaddrV_map, Nat.reduceAdd, Nat.reduceSub, Nat.reduceMul, Nat.reduceLeDiff, Nat.reduceEqDiff, Nat.reduceBEq, Int.reduceLE, Int.reduceLT, Int.reduceEq, Int.reduceNe, Int.reduceAdd, Int.reduceSub, Int.reduceToNat, Int.reduceNeg, ↓reduceIte, reduceCtorEq]
   refine fin X.1 r tot _ _ _ _ _ hn hs hO ?_
   simp only [asets, tp]
  ·simp only [lay, wk5, wk3, wk, iaddrV_map, Nat.reduceAdd, Nat.reduceSub, Nat.reduceMul, Nat.reduceLeDiff, Nat.reduceEqDiff, Nat.reduceBEq, Int.reduceLE, Int.reduceLT, Int.reduceEq, Int.reduceNe, Int.reduceAdd, Int.reduceSub, Int.reduceToNat, Int.reduceNeg, ↓reduceIte, reduceCtorEq]
   refine CT_ok (dcloneV L hE 900 i _) ?_
   have hn := cloneA_ne hne0 900 i
   have hs := (cloneA_may hL 900 i).eight.1
   generalize cloneA L 900 i = X at hn hs
   rintro _ H ⟨r, tot, rfl, hO⟩
   simp only [asets, lay, wk5, wk3, wk, iaddrV_map, Nat.reduceAdd, Nat.reduceSub, Nat.reduceMul, Nat.reduceLeDiff, Nat.reduceEqDiff, Nat.reduceBEq, Int.reduceLE, Int.reduceLT, Int.reduceEq, Int.reduceNe, Int.reduceAdd, Int.reduceSub, Int.reduceToNat, Int.reduceNeg, ↓reduceIte, reduceCtorEq]
   refine fin X.1 r tot _ _ _ _ _ hn hs hO ?_
   simp only [asets, tp]
  ·simp only [lay, wk5, wk3, wk, iaddrV_map, Nat.reduceAdd, Nat.reduceSub, Nat.reduceMul, Nat.reduceLeDiff, Nat.reduceEqDiff, Nat.reduceBEq, Int.reduceLE, Int.reduceLT, Int.reduceEq, Int.reduceNe, Int.reduceAdd, Int.reduceSub, Int.reduceToNat, Int.reduceNeg, ↓reduceIte, reduceCtorEq]
   refine CT_ok (snapV L hE 900 i _) ?_
   have hn := snapA_ne hne0 900 i
   have hs := (snapA_may hL 900 i).eight.1
   generalize snapA L 900 i = X at hn hs
   rintro _ H ⟨r, tot, rfl, hO⟩
   simp only [asets, lay, wk5, wk3, wk, iaddrV_map, Nat.reduceAdd, Nat.reduceSub, Nat.reduceMul, Nat.reduceLeDiff, Nat.reduceEqDiff, Nat.reduceBEq, Int.reduceLE, Int.reduceLT, Int.reduceEq, Int.reduceNe, Int.reduceAdd, Int.reduceSub, Int.reduceToNat, Int.reduceNeg, ↓reduceIte, reduceCtorEq]
   refine fin X.1 r tot _ _ _ _ _ hn hs hO ?_
   simp only [asets, tp]
  ·simp only [lay, wk5, wk3, wk, iaddrV_map, Nat.reduceAdd, Nat.reduceSub, Nat.reduceMul, Nat.reduceLeDiff, Nat.reduceEqDiff, Nat.reduceBEq, Int.reduceLE, Int.reduceLT, Int.reduceEq, Int.reduceNe, Int.reduceAdd, Int.reduceSub, Int.reduceToNat, Int.reduceNeg, ↓reduceIte, reduceCtorEq]
   refine CT_ok (createV L hE 900 j _) ?_
   have hn := createA_ne hne0 900 j
   have hs := (createA_may hL 900 j).eight.1
   generalize createA L 900 j = X at hn hs
   rintro _ H ⟨r, tot, rfl, hO⟩
   simp only [asets, lay, wk5, wk3, wk, iaddrV_map, Nat.reduceAdd, Nat.reduceSub, Nat.reduceMul, Nat.reduceLeDiff, Nat.reduceEqDiff, Nat.reduceBEq, Int.reduceLE, Int.reduceLT, Int.reduceEq, Int.reduceNe, Int.reduceAdd, Int.reduceSub, Int.reduceToNat, Int.reduceNeg, ↓reduceIte, reduceCtorEq]
   refine fin X.1 r tot _ _ _ _ _ hn hs hO ?_
   simp only [asets, tp]
  ·simp only [lay, wk5, wk3, wk, iaddrV_map, Nat.reduceAdd, Nat.reduceSub, Nat.reduceMul, Nat.reduceLeDiff, Nat.reduceEqDiff, Nat.reduceBEq, Int.reduceLE, Int.reduceLT, Int.reduceEq, Int.reduceNe, Int.reduceAdd, Int.reduceSub, Int.reduceToNat, Int.reduceNeg, ↓reduceIte, reduceCtorEq]
   refine CT_ok (backV L hE i j _) ?_
   have hn := backA_ne hne0 i j
   have hs := (backA_may hL i j).eight.1
   generalize backA L i j = X at hn hs
   rintro _ H ⟨r, tot, rfl, hO⟩
   simp only [asets, lay, wk5, wk3, wk, iaddrV_map, Nat.reduceAdd, Nat.reduceSub, Nat.reduceMul, Nat.reduceLeDiff, Nat.reduceEqDiff, Nat.reduceBEq, Int.reduceLE, Int.reduceLT, Int.reduceEq, Int.reduceNe, Int.reduceAdd, Int.reduceSub, Int.reduceToNat, Int.reduceNeg, ↓reduceIte, reduceCtorEq]
   refine fin X.1 r tot _ _ _ _ _ hn hs hO ?_
   simp only [asets, tp]
 rintro fr H ⟨r, tot, n, hn0, hn1, hO, rfl⟩
 refine W_stp ?_
 have hd0 := dgetD_mem hL0
 have hg := hL.find hd0
 have k1 : (0 : Int) < L.length := by omega
 have hs : decide (L = L) = true := decide_eq_true rfl
 have h8 : (L.getD 0 default).files.length = 8 := hE.2 _ hd0
 simp only [asets, iaddr_dset, k1, pdset, lay, wk5, wk3, wk, iaddrV_map, Nat.reduceAdd, Nat.reduceSub, Nat.reduceMul, Nat.reduceLeDiff, Nat.reduceEqDiff, Nat.reduceBEq, Int.reduceLE, Int.reduceLT, Int.reduceEq, Int.reduceNe, Int.reduceAdd, Int.reduceSub, Int.reduceToNat, Int.reduceNeg, ↓reduceIte, reduceCtorEq]
 generalize L.getD 0 default = d0 at hd0 hg h8 ⊢
 refine CT_ok (getV' L hE d0.id H) ?_
 rintro y H' ⟨G, rfl, hy⟩
 rw [hg] at hy
 obtain ⟨q, rfl, hq⟩ := hy
 replace hO : OwnR (H ++ G) r tot n := hO.app
 generalize H ++ G = A at hO hq ⊢
 simp only [cellO, liveO_end, set_end, lay, wk5, wk3, wk, iaddrV_map, Nat.reduceAdd, Nat.reduceSub, Nat.reduceMul, Nat.reduceLeDiff, Nat.reduceEqDiff, Nat.reduceBEq, Int.reduceLE, Int.reduceLT, Int.reduceEq, Int.reduceNe, Int.reduceAdd, Int.reduceSub, Int.reduceToNat, Int.reduceNeg, ↓reduceIte, reduceCtorEq]
 refine QStp_go (W_stp ?_)
 have hO1 : OwnR (A ++ [some [cellO d0 q]]) r tot n := hO.app
 have hq1 : AH.at (A ++ [some [cellO d0 q]]) q = some (nodesO d0.files) := at_app.2 (.inl ⟨at_lt hq, hq⟩)
 have hn8 : (nodesO d0.files).length = 8 := by rw [nodesO, List.length_map]; exact h8
 have hbx : AH.at (A ++ [some [cellO d0 q]]) A.length = some [cellO d0 q] := at_app.2 (.inr ⟨0, rfl, rfl⟩)
 have hrb : r < A.length := by exact hO.lt
 have hqb : q < A.length := at_lt hq
 simp only [cellO] at hO1 hq1 hbx
 generalize hB : A.length = bx at hbx hrb hqb
 generalize A ++ [some [[AV.int .i64 d0.id, .int .i64 d0.kind, .int .i64 d0.origin, .int .i64 d0.quota, .own q 5 0 8 8]]] = Hb at hO1 hq1 hbx
 obtain ⟨o0, hr0, hl0, hle0, hrows0⟩ := id hO1
 have lv1 := liveO_at hr0 hl0
 have lv2 := liveO_at hq1 hn8
 have lv3 := liveO_at (n := 1) hbx rfl
 have n1 : ¬ (n : Int) = 0 := by omega
 have n8 : ¬ ((8 : Nat) : Int) = 0 := by decide
 simp only [lv1, lv2, lv3, n1, n8, lay, wk5, wk3, wk, iaddrV_map, Nat.reduceAdd, Nat.reduceSub, Nat.reduceMul, Nat.reduceLeDiff, Nat.reduceEqDiff, Nat.reduceBEq, Int.reduceLE, Int.reduceLT, Int.reduceEq, Int.reduceNe, Int.reduceAdd, Int.reduceSub, Int.reduceToNat, Int.reduceNeg, ↓reduceIte, reduceCtorEq]
 refine QStp_go (W_stp ?_)
 simp only [lay, wk5, wk3, wk, iaddrV_map, Nat.reduceAdd, Nat.reduceSub, Nat.reduceMul, Nat.reduceLeDiff, Nat.reduceEqDiff, Nat.reduceBEq, Int.reduceLE, Int.reduceLT, Int.reduceEq, Int.reduceNe, Int.reduceAdd, Int.reduceSub, Int.reduceToNat, Int.reduceNeg, ↓reduceIte, reduceCtorEq]
 refine CT_ok (blotE Hb r tot n hn1 hO1) ?_
 intro _ H2 hS
 obtain ⟨ob, hob, _, _, hob2⟩ := hS bx _ hbx
 have hob3 := hob2 (by omega) (show ¬ (1 : Nat) = 8 by decide)
 subst hob3
 obtain ⟨oq, hoq, hoq8, hoq5, _⟩ := hS q _ hq1
 have lv4 := liveO_at (n := 1) hob rfl
 simp only [lay, wk5, wk3, wk, iaddrV_map, Nat.reduceAdd, Nat.reduceSub, Nat.reduceMul, Nat.reduceLeDiff, Nat.reduceEqDiff, Nat.reduceBEq, Int.reduceLE, Int.reduceLT, Int.reduceEq, Int.reduceNe, Int.reduceAdd, Int.reduceSub, Int.reduceToNat, Int.reduceNeg, ↓reduceIte, reduceCtorEq]
 refine QStp_go (W_stp ?_)
 simp only [lv4, lay, wk5, wk3, wk, iaddrV_map, Nat.reduceAdd, Nat.reduceSub, Nat.reduceMul, Nat.reduceLeDiff, Nat.reduceEqDiff, Nat.reduceBEq, Int.reduceLE, Int.reduceLT, Int.reduceEq, Int.reduceNe, Int.reduceAdd, Int.reduceSub, Int.reduceToNat, Int.reduceNeg, ↓reduceIte, reduceCtorEq]
 refine CT_ok (blotE _ H2.length 1 1 (by omega) ⟨[cellO d0 q], at_app.2 (.inr ⟨0, rfl, rfl⟩), rfl, Nat.le_refl _, fun k hk => ?_⟩) ?_
 ·have : k = 0 := by omega
  subst this
  exact ⟨_, rfl, _, _, _, _, q, oq, rfl, by have := at_lt hoq; omega, at_app.2 (.inl ⟨at_lt hoq, hoq⟩), hoq8.trans hn8, hoq5 (nodes_rows _)⟩
 intro _ H3 _
 refine QStp_go (m := .mk) (n := .mk) (WT_ok ?_)
 simp only [lay, wk5, wk3, wk, iaddrV_map, Nat.reduceAdd, Nat.reduceSub, Nat.reduceMul, Nat.reduceLeDiff, Nat.reduceEqDiff, Nat.reduceBEq, Int.reduceLE, Int.reduceLT, Int.reduceEq, Int.reduceNe, Int.reduceAdd, Int.reduceSub, Int.reduceToNat, Int.reduceNeg, ↓reduceIte, reduceCtorEq]
 refine CT_ok (sameS L L hE.short hE.short _) ?_
 rintro _ _ ⟨rfl, rfl⟩
 simp only [hs, lay, wk5, wk3, wk, iaddrV_map, Nat.reduceAdd, Nat.reduceSub, Nat.reduceMul, Nat.reduceLeDiff, Nat.reduceEqDiff, Nat.reduceBEq, Int.reduceLE, Int.reduceLT, Int.reduceEq, Int.reduceNe, Int.reduceAdd, Int.reduceSub, Int.reduceToNat, Int.reduceNeg, ↓reduceIte, reduceCtorEq]
end Go.Proofs.YtemjlopoffjmpaaGreat.Abs
set_option linter.unusedSimpArgs false
set_option linter.unusedVariables false
namespace Go.Proofs.YtemjlopoffjmpaaGreat.Abs
open Go Go.Proofs
theorem rep_row {w : World} {a : Option Addr} {len cap : Nat} {zs : List Int}
 (h : (a = none ∧ len = 0 ∧ cap = 0 ∧ zs = []) ∨ ∃ x, a = some x ∧ len ≤ cap ∧ cap ≤ maxLen ∧ zs.length = cap ∧ (∀ i, i < zs.length → w.cell? (x.add i) = some (.int .u8 (zs.getD i 0))) ∧ ∀ n ∈ zs, (Lit.int .u8 n).wf = true) :
 ∃ l : List UInt8, Rep (E0 w) (.fz (l.map pbyte)) (.slice a len cap) := by
 rcases h with ⟨rfl, rfl, rfl, rfl⟩ | ⟨x, rfl, hl, hm, hz, hcell, hwf⟩
 ·exact ⟨[], .pure (x := .fz []) (.fz0 _ _)⟩
 ·by_cases h0 : len = 0
  ·subst h0
   exact ⟨[], .pure (x := .fz []) (.fz0 _ _)⟩
  ·have hc0 := hcell 0 (by omega)
   obtain ⟨b, off, spot⟩ := x
   simp only [Addr.add, if_true, World.cell?] at hc0
   cases hb : w.heap[b]? with
   | none => rw [hb] at hc0; cases hc0
   | some o =>
     rw [hb] at hc0
     cases o with
     | cells c t q =>
       simp only at hc0
       split at hc0
       ·cases hc0
       ·rename_i hsp
        have hsp2 : spot = none := by cases spot with
         | none => rfl
         | some _ => simp at hsp
        subst hsp2
        have hci : ∀ i, i < zs.length → c[off + i]? = some (.int .u8 (zs.getD i 0)) := by
         intro i hi
         have := hcell i hi
         unfold Addr.add at this
         split at this
         ·rename_i e; subst e; simpa [World.cell?, hb] using this
         ·simpa [World.cell?, hb] using this
        refine ⟨(zs.take len).map fun n => UInt8.ofNat n.toNat, ?_⟩
        have hlen : (((zs.take len).map fun n => UInt8.ofNat n.toNat).map pbyte).length = len := by simp; omega
        have key := RepP.fz (F := (E0 w).F) (((zs.take len).map fun n => UInt8.ofNat n.toNat).map pbyte) b off cap 1 c t q hb (by rw [hlen]; exact hl) (by
         intro e he
         obtain ⟨y, _, rfl⟩ := List.mem_map.1 he
         rfl) (by
         rw [hlen]
         have h1 := hci (len - 1) (by omega)
         have : off + (len - 1) < c.size := by
          apply Classical.byContradiction
          intro h
          rw [Array.getElem?_eq_none (by omega)] at h1
          cases h1
         omega) (by
         intro i e k cc v he hk hv
         rw [List.map_map, List.getElem?_map] at he
         have hi : i < (zs.take len).length := by
          apply Classical.byContradiction
          intro h
          rw [List.getElem?_eq_none (by omega)] at he
          cases he
         rw [List.getElem?_eq_getElem hi] at he
         simp only [Option.map_some, Option.some.injEq, Function.comp] at he
         subst he
         have hk0 : k = 0 := by
          apply Classical.byContradiction
          intro h
          rw [List.getElem?_eq_none (by simp [pbyte]; omega)] at hk
          cases hk
         subst hk0
         simp only [pbyte, List.getElem?_cons_zero, Option.some.injEq] at hk
         subst hk
         rw [List.length_take] at hi
         rw [Nat.mul_one, Nat.add_zero, hci i (by omega)] at hv
         cases hv
         have hg : zs.getD i 0 = (zs.take len)[i]'(by rw [List.length_take]; exact hi) := by
          rw [List.getElem_take, List.getD_eq_getElem?_getD, List.getElem?_eq_getElem (by omega), Option.getD_some]
         rw [hg]
         have hw := hwf ((zs.take len)[i]'(by rw [List.length_take]; exact hi)) (List.mem_of_mem_take (List.getElem_mem _))
         generalize (zs.take len)[i]'(by rw [List.length_take]; exact hi) = n at hw
         have hn : 0 ≤ n ∧ n < 256 := by
          have := hw; simp [Lit.wf, IntKind.min, IntKind.max, IntKind.bits, IntKind.signed] at this; omega
         have : ((UInt8.ofNat n.toNat).toNat : Int) = n := by
          rw [UInt8.toNat_ofNat']
          omega
         rw [this]
         exact .int _ _)
        rw [hlen] at key
        exact .pure (x := .fz _) key
     | _ => simp at hc0
theorem repL_one {E : Env} {x : AV} {v : Value} (h : Rep E x v) : RepL E [x] #[v] := by
 refine ⟨rfl, fun i c u hc hu => ?_⟩
 match i, hc, hu with
 | 0, hc, hu => simp at hc hu; subst hc; subst hu; exact h
 | i + 1, hc, _ => simp at hc
end Go.Proofs.YtemjlopoffjmpaaGreat.Abs
