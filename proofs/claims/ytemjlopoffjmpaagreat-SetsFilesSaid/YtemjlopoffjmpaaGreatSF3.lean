/-
  Part 3 of the proof: no condition. (Parts of the abstract layer, of the program's functions in its form, and of their contracts.)
-/
import Derived.Test.YtemjlopoffjmpaaGreatSFWk
import Derived.Test.YtemjlopoffjmpaaGreatSFWk3
import Derived.Test.YtemjlopoffjmpaaGreatSFAbs39
import Derived.Test.YtemjlopoffjmpaaGreatSF2
import Derived.Test.YtemjlopoffjmpaaGreatSF1
import Derived.Test.YtemjlopoffjmpaaGreatSFAbs22
import Derived.Test.YtemjlopoffjmpaaGreatProg
import Derived.KernelRfl
set_option linter.unusedSimpArgs false
set_option linter.unusedVariables false
namespace Go.Proofs.YtemjlopoffjmpaaGreat.Abs
open Go Go.Proofs
theorem renL_cell (τ : Nat → Option Nat) (d : Dset) : renL τ (cellD d) = cellD d := by simp [cellD, aset, renL, ren]
theorem renO_box (τ : Nat → Option Nat) (k : IntKind) (n : Int) : renO τ [[.int k n]] = [[.int k n]] := by simp [renO, renL, ren]
theorem is66_L (d : Dset) (i : Int) (l : List Dset) : C Tryz.prog 64 [.agg (cellD d), .ptr 1 0 0 1] [some (l.map cellD), some [[.int .i64 i]]] (fun x H' => x = .bool (decide (d.origin = i)) ∧ H' = [some (l.map cellD), some [[.int .i64 i]]]) :=
 C_call [1] (by simp) (by simp) (by simpa [renL, ren, toCallee, renO, cellD, aset, AH.at] using is66 d i) (by rintro _ _ ⟨rfl, rfl⟩; exact ⟨Nat.le_refl _, by simp [ren], by simp [back, setAll, renO, renL, ren]⟩)
def hangsA (l : List Dset) (i : Int) : Bool := decide (0 ≤ idxA (fun d => decide (d.origin = i)) l)
theorem hangs_at (l : List Dset) (hl : l.length ≤ 1000000) (i : Int) : C Tryz.prog 63 [.own 1 5 0 l.length l.length, .fn (.func 64) [] [.ptr 0 0 0 1]] [some [[.int .i64 i]], some (l.map cellD)] (fun x H' => x = .bool (hangsA l i) ∧ H' = [some [[.int .i64 i]], some (l.map cellD)]) :=
 C_call [1, 0] (by simp) (by simp) (K0 := fun x H' => x = .bool (decide (0 ≤ idxA (fun d => decide (d.origin = i)) l)) ∧ H' = [some (l.map cellD), some [[.int .i64 i]]])
  (by simpa [renL, ren, toCallee, renO_cells, renO_box, AH.at, show List.idxOf? 0 [1, 0] = some 1 from rfl, show List.idxOf? 1 [1, 0] = some 0 from rfl] using contains65 l hl [some [[.int .i64 i]]] 64 [.ptr 1 0 0 1] (fun d => decide (d.origin = i)) (fun d => is66_L d i l))
  (by rintro _ _ ⟨rfl, rfl⟩; exact ⟨Nat.le_refl _, by simp [ren, hangsA], by simp [back, setAll, renO_cells, renO_box]⟩)
def livesA (l : List Dset) : Nat := l.countP fun d => decide (d.kind = 1)
theorem livesA_take (l : List Dset) (k : Nat) (h : k < l.length) : livesA (l.take (k + 1)) = livesA (l.take k) + if (l.getD k default).kind = 1 then 1 else 0 := by
 unfold livesA
 rw [List.take_add_one, List.getElem?_eq_getElem h, List.countP_append]
 simp only [List.getD_eq_getElem?_getD, List.getElem?_eq_getElem h, Option.getD_some, Option.toList_some, List.countP_cons, List.countP_nil, decide_eq_true_eq]
 omega
theorem livesA_le (l : List Dset) : livesA l ≤ l.length := List.countP_le_length
def destroyA (l : List Dset) (i : Int) : List Dset × Int :=
 if findA l i < 0 then (l, 2) else if hangsA l i = true ∨ ((l.getD (findA l i).toNat default).kind = 1 ∧ livesA l = 1) then (l, 10) else (l.eraseIdx (findA l i).toNat, 0)
theorem Wk_obj2 {fr fr' : List AV} {o o' : AObj} {G : AH} (ho : o.map (renL (upTo 2)) = o) (ho' : o'.map (renL (upTo 2)) = o') (h : Tops fr' (renL (upTo 2) fr)) : Wk 0 fr (some o :: some o' :: G) fr' [some o, some o'] := by
 have h1 := (Wk_forget (n0 := 0) (fr := fr) (H := some o :: some o' :: G) 2 (Nat.zero_le _)).trans (Wk_tops h)
 have e : mapH (renL (upTo 2)) ((some o :: some o' :: G).take 2) = [some o, some o'] := by
  simp only [List.take_succ_cons, List.take_zero, mapH, List.map_cons, List.map_nil, Option.map_some, ho, ho']
 rwa [e] at h1
theorem renO_del (τ : Nat → Option Nat) (l : List Dset) : renO τ (l.map cellD ++ [zeroC]) = l.map cellD ++ [zeroC] := by
 have := renO_cells τ l
 unfold renO at this ⊢
 rw [List.map_append, this]
 simp [zeroC, renL, ren]
theorem deleteAt (l : List Dset) (hl : l.length ≤ 1000000) (k : Nat) (hk : k < l.length) (r : Nat) (H : AH) (hr : H.at r = some (l.map cellD)) :
 C Tryz.prog 65 [.own r 5 0 l.length l.length, .int .i64 k, .int .i64 ((k + 1 : Nat) : Int)] H (fun x H' => x = .own r 5 0 (l.length - 1) l.length ∧ H' = H.set r (some ((l.eraseIdx k).map cellD ++ [zeroC]))) := by
 refine C_call [r] (by simp) (by simpa using at_lt hr) (K0 := fun x H' => x = .own 0 5 0 (l.length - 1) l.length ∧ H' = [some ((l.eraseIdx k).map cellD ++ [zeroC])]) ?_ ?_
 ·simpa [renL, ren, toCallee, renO_cells, hr] using delete67 l hl k hk
 ·rintro _ _ ⟨rfl, rfl⟩
  refine ⟨by simp, by simp [ren, toCaller], ?_⟩
  simp [back, setAll, renO_del]
theorem KWk_del {K : AV → AH → Prop} {H : AH} (r : Nat) (l : List Dset) (e : Int) (n : Nat) (hn : n = l.length + 1) (hat : H.at r = some (l.map cellD ++ [zeroC])) (hk : K (.tuple [asets l, .int .i64 e]) []) : KWk 0 K (.tuple [.own r 5 0 (n - 1) n, .int .i64 e]) H := by
 subst hn
 refine KWk_frozen r (l.map pdset ++ [[.int .i64 0, .int .i64 0, .int .i64 0, .int .i64 0, .emp]]) (by rw [List.map_append, cellsD]; exact hat) _ ?_ hk
 simp only [frzL, frz, renL, ren, asets, if_true, List.length_append, List.length_cons, List.length_nil, List.length_map, Nat.zero_add, Nat.le_refl, and_self, List.drop_zero, Nat.add_sub_cancel]
 rw [List.take_append_of_le_length (by simp), List.take_of_length_le (by simp)]
 simp [ren]
theorem destroy0 (l : List Dset) (hl : Short l) (i : Int) : C Tryz.prog 32 [asets l, .int .i64 i] [] (fun x H' => x = outA (destroyA l i) ∧ H' = []) := by
 have hl1 := hl.1
 refine C_body' d32 rfl (WT_ok ?_)
 unfold c32
 simp only [lay, wk3, wk, iaddrV_map, seval]
 refine CT_ok (twinL l hl _) ?_
 rintro _ _ ⟨rfl, rfl⟩
 simp only [lay, wk3, wk, iaddrV_map, seval]
 refine CT_ok (findAt l hl1 i 1 _ rfl) ?_
 rintro _ _ ⟨rfl, rfl⟩
 simp only [lay, wk3, wk, iaddrV_map, seval]
 refine WT_loop (W_wk (fr' := [asets l, .int .i64 i, .top, .ptr 0 0 0 1, .emp, .int .i64 0, .own 1 5 0 l.length l.length, .own 1 5 0 l.length l.length, .int .i64 (findA l i), .int .i64 0, .top, .top, .top, .top, .top, .top, .top, .top, .own 1 5 0 l.length l.length, .int .i64 l.length, .int .i64 0] ++ List.replicate 33 .top) (Wk_tops ?_) (W_loop (fun n fr H' => ∃ k : Nat, k ≤ l.length ∧ n = l.length - k ∧ H' = [some [[.int .i64 i]], some (l.map cellD)] ∧
  fr = [asets l, .int .i64 i, .top, .ptr 0 0 0 1, .emp, .int .i64 0, .own 1 5 0 l.length l.length, .own 1 5 0 l.length l.length, .int .i64 (findA l i), .int .i64 (livesA (l.take k)), .top, .top, .top, .top, .top, .top, .top, .top, .own 1 5 0 l.length l.length, .int .i64 l.length, .int .i64 k] ++ List.replicate 33 .top) l.length ⟨0, by omega, rfl, rfl, rfl⟩ ?_))
 ·simp only [List.replicate_succ, List.replicate_zero, List.cons_append, List.nil_append, Tops_top, Tops_same, Tops_nil]
 rintro n fr H' ⟨k, hk, rfl, rfl, rfl⟩
 refine WT_ok ?_
 simp only [lay, slicelV_own, slicelV_fz, onLive_some, RT_slicel, RE_slicel, slice3V_eq, room3_some, roomOf_own, roomOf_fz, RT_slice3, RT_calld, apI_some, clC_some, clearV_own, clearV_fz, wk3, wk, iaddrV_map, seval]
 refine guard_both ?_ ?_ <;> intro h <;> simp only [hy] at h
 ·have hk2 : k < l.length := by omega
  have hc := cell_at hk2
  have ht := livesA_take l k hk2
  have hle := livesA_le (l.take k)
  have hle2 : (l.take k).length ≤ l.length := by simp; omega
  have w2 : IntKind.i64.wrap ((k : Int) + 1) = (k : Int) + 1 := IntWalk.i64_in _ (by omega)
  have w3 : IntKind.i64.wrap ((livesA (l.take k) : Int) + 1) = ((livesA (l.take k) + 1 : Nat) : Int) := by rw [IntWalk.i64_in _ (by omega)]; omega
  have h0 : (0 : Int) ≤ k := by omega
  generalize l.getD k default = d at hc ht
  by_cases h1 : d.kind = 1
  ·rw [if_pos h1] at ht
   simp only [h, h0, hc, h1, w2, w3, cellD, aset, lay, slicelV_own, slicelV_fz, onLive_some, RT_slicel, RE_slicel, slice3V_eq, room3_some, roomOf_own, roomOf_fz, RT_slice3, RT_calld, apI_some, clC_some, clearV_own, clearV_fz, wk3, wk, iaddrV_map, seval]
   refine QLoop_wk (n' := l.length - (k + 1)) (by omega) ⟨k + 1, by omega, rfl, rfl, rfl⟩ (Wk_obj2 (renO_box _ _ _) (renO_cells _ _) ?_)
   simp only [ht, renL, ren, asets, upTo, show (0 : Nat) < 2 by omega, show (1 : Nat) < 2 by omega, if_true, List.replicate_succ, List.replicate_zero, List.cons_append, List.nil_append, Tops_top, Tops_same, Tops_nil, Int.natCast_add, Int.natCast_one]
  ·replace ht : livesA (l.take (k + 1)) = livesA (l.take k) := by rw [ht, if_neg h1]; rfl
   simp only [h, h0, hc, h1, w2, cellD, aset, lay, slicelV_own, slicelV_fz, onLive_some, RT_slicel, RE_slicel, slice3V_eq, room3_some, roomOf_own, roomOf_fz, RT_slice3, RT_calld, apI_some, clC_some, clearV_own, clearV_fz, wk3, wk, iaddrV_map, seval]
   refine QLoop_wk (n' := l.length - (k + 1)) (by omega) ⟨k + 1, by omega, rfl, rfl, rfl⟩ (Wk_obj2 (renO_box _ _ _) (renO_cells _ _) ?_)
   simp only [ht, renL, ren, asets, upTo, show (0 : Nat) < 2 by omega, show (1 : Nat) < 2 by omega, if_true, List.replicate_succ, List.replicate_zero, List.cons_append, List.nil_append, Tops_top, Tops_same, Tops_nil, Int.natCast_add, Int.natCast_one]
 ·have : k = l.length := by omega
  subst this
  have hl2 : l.take l.length = l := List.take_length
  have hle := livesA_le l
  simp only [h, hl2, lay, slicelV_own, slicelV_fz, onLive_some, RT_slicel, RE_slicel, slice3V_eq, room3_some, roomOf_own, roomOf_fz, RT_slice3, RT_calld, apI_some, clC_some, clearV_own, clearV_fz, wk3, wk, iaddrV_map, seval]
  rcases find_of (l := l) (i := i) with ⟨e, _⟩ | ⟨k, e, hk3, _, _⟩
  ·have hA : destroyA l i = (l, 2) := by unfold destroyA; rw [e]; rfl
   simp only [e, hA, lay, slicelV_own, slicelV_fz, onLive_some, RT_slicel, RE_slicel, slice3V_eq, room3_some, roomOf_own, roomOf_fz, RT_slice3, RT_calld, apI_some, clC_some, clearV_own, clearV_fz, wk3, wk, iaddrV_map, seval]
   exact KWk_sets 1 l 2 _ rfl rfl ⟨rfl, rfl⟩
  ·have hc := cell_at hk3
   have h0 : (0 : Int) ≤ k := by omega
   have h1 : (k : Int) < l.length := by omega
   have h2 : ¬ (k : Int) < 0 := by omega
   have w2 : IntKind.i64.wrap ((k : Int) + 1) = ((k + 1 : Nat) : Int) := by rw [IntWalk.i64_in _ (by omega)]; omega
   simp only [e, h2, lay, slicelV_own, slicelV_fz, onLive_some, RT_slicel, RE_slicel, slice3V_eq, room3_some, roomOf_own, roomOf_fz, RT_slice3, RT_calld, apI_some, clC_some, clearV_own, clearV_fz, wk3, wk, iaddrV_map, seval]
   refine CT_ok (hangs_at l hl1 i) ?_
   rintro _ _ ⟨rfl, rfl⟩
   cases hh : hangsA l i
   ·have hbare : (l.eraseIdx k).length + 1 = l.length := by rw [List.length_eraseIdx, if_pos hk3]; omega
    by_cases hk1 : (l.getD k default).kind = 1
    ·by_cases hk4 : (livesA l : Int) = 1
     ·have hA : destroyA l i = (l, 10) := by unfold destroyA; rw [e, if_neg h2, if_pos (.inr ⟨by rw [Int.toNat_natCast]; exact hk1, by omega⟩)]
      simp only [hA, hc, h0, h1, hk1, hk4, cellD, aset, lay, slicelV_own, slicelV_fz, onLive_some, RT_slicel, RE_slicel, slice3V_eq, room3_some, roomOf_own, roomOf_fz, RT_slice3, RT_calld, apI_some, clC_some, clearV_own, clearV_fz, wk3, wk, iaddrV_map, seval]
      exact KWk_sets 1 l 10 _ rfl rfl ⟨rfl, rfl⟩
     ·have hA : destroyA l i = (l.eraseIdx k, 0) := by unfold destroyA; rw [e, if_neg h2, if_neg (fun h => h.elim (fun h => by rw [hh] at h; cases h) (fun h => hk4 (by omega))), Int.toNat_natCast]
      simp only [hA, hc, h0, h1, hk1, hk4, w2, cellD, aset, lay, slicelV_own, slicelV_fz, onLive_some, RT_slicel, RE_slicel, slice3V_eq, room3_some, roomOf_own, roomOf_fz, RT_slice3, RT_calld, apI_some, clC_some, clearV_own, clearV_fz, wk3, wk, iaddrV_map, seval]
      refine CT_ok (deleteAt l hl1 k hk3 1 _ rfl) ?_
      rintro _ _ ⟨rfl, rfl⟩
      simp only [lay, slicelV_own, slicelV_fz, onLive_some, RT_slicel, RE_slicel, slice3V_eq, room3_some, roomOf_own, roomOf_fz, RT_slice3, RT_calld, apI_some, clC_some, clearV_own, clearV_fz, wk3, wk, iaddrV_map, seval]
      exact KWk_del 1 (l.eraseIdx k) 0 _ (by omega) rfl ⟨by rw [hA]; rfl, rfl⟩
    ·have hA : destroyA l i = (l.eraseIdx k, 0) := by unfold destroyA; rw [e, if_neg h2, if_neg (fun h => h.elim (fun h => by rw [hh] at h; cases h) (fun h => hk1 (by rw [← h.1, Int.toNat_natCast]))), Int.toNat_natCast]
     simp only [hA, hc, h0, h1, hk1, w2, cellD, aset, lay, slicelV_own, slicelV_fz, onLive_some, RT_slicel, RE_slicel, slice3V_eq, room3_some, roomOf_own, roomOf_fz, RT_slice3, RT_calld, apI_some, clC_some, clearV_own, clearV_fz, wk3, wk, iaddrV_map, seval]
     refine CT_ok (deleteAt l hl1 k hk3 1 _ rfl) ?_
     rintro _ _ ⟨rfl, rfl⟩
     simp only [lay, slicelV_own, slicelV_fz, onLive_some, RT_slicel, RE_slicel, slice3V_eq, room3_some, roomOf_own, roomOf_fz, RT_slice3, RT_calld, apI_some, clC_some, clearV_own, clearV_fz, wk3, wk, iaddrV_map, seval]
     exact KWk_del 1 (l.eraseIdx k) 0 _ (by omega) rfl ⟨by rw [hA]; rfl, rfl⟩
   ·have hA : destroyA l i = (l, 10) := by unfold destroyA; rw [e, if_neg h2, if_pos (.inl hh)]
    simp only [hA, lay, slicelV_own, slicelV_fz, onLive_some, RT_slicel, RE_slicel, slice3V_eq, room3_some, roomOf_own, roomOf_fz, RT_slice3, RT_calld, apI_some, clC_some, clearV_own, clearV_fz, wk3, wk, iaddrV_map, seval]
    exact KWk_sets 1 l 10 _ rfl rfl ⟨rfl, rfl⟩
end Go.Proofs.YtemjlopoffjmpaaGreat.Abs
set_option linter.unusedSimpArgs false
set_option linter.unusedVariables false
namespace Go.Proofs.YtemjlopoffjmpaaGreat.Abs
open Go Go.Proofs
section
variable {c : Nat} {H : AH} {late : List Loc → List Loc → Prop} {K : List Nat → Nat → AV → AH → Prop} {t : Tag K}
theorem CFT_find (l : List Dset) (hl : l.length ≤ 1000000) (i : Int) (r : Nat) (hr : H.at r = some (l.map cellD)) (hrc : r < c) (hc : c ≤ H.length) (hk : K [r] c (.int .i64 (findA l i)) H) : CFT Tryz.prog 59 [.own r 5 0 l.length l.length, .int .i64 i] c H late K t := by
 refine CET_ok [r] 0 (x := .int .i64 (findA l i)) (H1 := [some (l.map cellD)]) (by simpa [renL, ren, toCallee, renO_cells, hr] using find0 l hl i) (fun y G h => h) ⟨by simp, by simpa using hrc, by omega, by simp⟩ ?_
 simpa [setAll, renO_cells, ren, List.range', set_at hr] using hk
end
theorem later_L (d : Dset) (i j : Int) (l : List Dset) : C Tryz.prog 77 [.agg (cellD d), .ptr 1 0 0 1, .ptr 2 0 0 1] [some (l.map cellD), some [[.int .i64 i]], some [[.int .i64 j]]] (fun x H' => x = .bool (laterA i j d) ∧ H' = [some (l.map cellD), some [[.int .i64 i]], some [[.int .i64 j]]]) :=
 C_call [1, 2] (by simp) (by simp) (by simpa [renL, ren, toCallee, renO_box, renL_cell, AH.at, show List.idxOf? 1 [1, 2] = some 0 from rfl, show List.idxOf? 2 [1, 2] = some 1 from rfl] using later64 d i j) (by rintro _ _ ⟨rfl, rfl⟩; exact ⟨Nat.le_refl _, by simp [ren], by simp [back, setAll, renO_box]⟩)
theorem later_at (l : List Dset) (hl : l.length ≤ 1000000) (i j : Int) : C Tryz.prog 63 [.own 2 5 0 l.length l.length, .fn (.func 77) [] [.ptr 0 0 0 1, .ptr 1 0 0 1]] [some [[.int .i64 i]], some [[.int .i64 j]], some (l.map cellD)] (fun x H' => x = .bool (decide (0 ≤ idxA (laterA i j) l)) ∧ H' = [some [[.int .i64 i]], some [[.int .i64 j]], some (l.map cellD)]) :=
 C_call [2, 0, 1] (by simp) (by simp) (K0 := fun x H' => x = .bool (decide (0 ≤ idxA (laterA i j) l)) ∧ H' = [some (l.map cellD), some [[.int .i64 i]], some [[.int .i64 j]]])
  (by simpa [renL, ren, toCallee, renO_cells, renO_box, AH.at, show List.idxOf? 0 [2, 0, 1] = some 1 from rfl, show List.idxOf? 1 [2, 0, 1] = some 2 from rfl, show List.idxOf? 2 [2, 0, 1] = some 0 from rfl] using contains65 l hl [some [[.int .i64 i]], some [[.int .i64 j]]] 77 [.ptr 1 0 0 1, .ptr 2 0 0 1] (laterA i j) (fun d => later_L d i j l))
  (by rintro _ _ ⟨rfl, rfl⟩; exact ⟨Nat.le_refl _, by simp [ren], by simp [back, setAll, renO_cells, renO_box]⟩)
theorem set_cellD (l : List Dset) (k : Nat) (d : Dset) : (l.map cellD).set k (cellD d) = (l.set k d).map cellD := by rw [List.map_set]
def backA (l : List Dset) (i j : Int) : List Dset × Int :=
 if findA l i < 0 ∨ findA l j < 0 then (l, 2) else
 let d := l.getD (findA l i).toNat default
 let s := l.getD (findA l j).toNat default
 if d.kind ≠ 1 ∨ s.kind ≠ 2 ∨ s.origin ≠ i then (l, 1) else if 0 ≤ idxA (laterA i j) l then (l, 10) else (l.set (findA l i).toNat { d with files := s.files }, 0)
theorem dback0 (l : List Dset) (hl : Short l) (i j : Int) : C Tryz.prog 38 [asets l, .int .i64 i, .int .i64 j] [] (fun x H' => x = outA (backA l i j) ∧ H' = []) := by
 have hl1 := hl.1
 refine C_body' d38 rfl (WT_ok ?_)
 unfold c38
 simp only [lay, wk3, wk, iaddrV_map, seval]
 refine CT_ok (twinL l hl _) ?_
 rintro _ _ ⟨rfl, rfl⟩
 simp only [lay, wk3, wk, iaddrV_map, seval]
 refine WT_drawE ?_
 refine WDT_more 0 ?_
 simp only [lay, wk3, wk, iaddrV_map, seval]
 refine CFT_find l hl1 i 2 rfl (by omega) (by simp) ?_
 simp only [ren, renL, lay, wk3, wk, iaddrV_map, seval]
 refine ⟨by rfl, ?_⟩
 refine CT_ok (findAt l hl1 j 2 _ rfl) ?_
 rintro _ _ ⟨rfl, rfl⟩
 simp only [lay, wk3, wk, iaddrV_map, seval]
 rcases find_of (l := l) (i := i) with ⟨e, _⟩ | ⟨k, e, hk, _, _⟩
 ·have hA : backA l i j = (l, 2) := by unfold backA; rw [if_pos (.inl (by omega))]
  simp only [e, hA, lay, wk3, wk, iaddrV_map, seval]
  exact KWk_sets 2 l 2 _ rfl rfl ⟨rfl, rfl⟩
 rcases find_of (l := l) (i := j) with ⟨e', _⟩ | ⟨m, e', hm, _, _⟩
 ·have hA : backA l i j = (l, 2) := by unfold backA; rw [if_pos (.inr (by omega))]
  have h2 : ¬ (k : Int) < 0 := by omega
  simp only [e, e', h2, hA, lay, wk3, wk, iaddrV_map, seval]
  exact KWk_sets 2 l 2 _ rfl rfl ⟨rfl, rfl⟩
 have hB : backA l i j = if (l.getD k default).kind ≠ 1 ∨ (l.getD m default).kind ≠ 2 ∨ (l.getD m default).origin ≠ i then (l, 1) else if 0 ≤ idxA (laterA i j) l then (l, 10) else (l.set k ⟨(l.getD k default).id, (l.getD k default).kind, (l.getD k default).origin, (l.getD k default).quota, (l.getD m default).files⟩, 0) := by
  unfold backA; rw [e, e', if_neg (by omega)]; rfl
 have hc := cell_at hk
 have hc' := cell_at hm
 have h0 : (0 : Int) ≤ k := by omega
 have h1 : (k : Int) < l.length := by omega
 have h2 : ¬ (k : Int) < 0 := by omega
 have h0' : (0 : Int) ≤ m := by omega
 have h1' : (m : Int) < l.length := by omega
 have h2' : ¬ (m : Int) < 0 := by omega
 have hf := hl.get hm
 generalize l.getD k default = d at hB hc
 generalize l.getD m default = s at hB hc' hf
 simp only [e, e', h2, h2', lay, wk3, wk, iaddrV_map, seval]
 refine WT_draw ?_
 by_cases g1 : d.kind = 1
 ·by_cases g2 : s.kind = 2
  ·by_cases g3 : s.origin = i
   ·rw [if_neg (fun h => h.elim (fun h => h g1) (fun h => h.elim (fun h => h g2) (fun h => h g3)))] at hB
    simp only [h0, h1, h0', h1', hc, hc', g1, g2, g3, cellD, aset, lay, wk3, wk, iaddrV_map, seval]
    refine CT_ok (later_at l hl1 i j) ?_
    rintro _ _ ⟨rfl, rfl⟩
    by_cases g4 : 0 ≤ idxA (laterA i j) l
    ·rw [if_pos g4] at hB
     simp only [g4, lay, wk3, wk, iaddrV_map, seval]
     exact KWk_sets 2 l 10 _ rfl rfl ⟨by rw [hB]; rfl, rfl⟩
    ·rw [if_neg g4] at hB
     simp only [g4, h0, h1, h0', h1', hc, hc', cellD, aset, lay, wk3, wk, iaddrV_map, seval]
     refine CT_ok (cloneF s.files hf _) ?_
     rintro _ _ ⟨rfl, rfl⟩
     have hst := set_cellD l k ⟨d.id, d.kind, d.origin, d.quota, s.files⟩
     simp only [cellD, aset] at hst
     rw [g1] at hst hB
     simp only [h0, h1, hc, g1, hst, cellD, aset, lay, wk3, wk, iaddrV_map, seval]
     exact KWk_sets 2 (l.set k ⟨d.id, 1, d.origin, d.quota, s.files⟩) 0 _ (by simp) rfl ⟨by rw [hB]; rfl, rfl⟩
   ·rw [if_pos (.inr (.inr g3))] at hB
    simp only [h0, h1, h0', h1', hc, hc', g1, g2, g3, cellD, aset, lay, wk3, wk, iaddrV_map, seval]
    exact KWk_sets 2 l 1 _ rfl rfl ⟨by rw [hB]; rfl, rfl⟩
  ·rw [if_pos (.inr (.inl g2))] at hB
   simp only [h0, h1, h0', h1', hc, hc', g1, g2, cellD, aset, lay, wk3, wk, iaddrV_map, seval]
   exact KWk_sets 2 l 1 _ rfl rfl ⟨by rw [hB]; rfl, rfl⟩
 ·rw [if_pos (.inl g1)] at hB
  simp only [h0, h1, h0', h1', hc, hc', g1, cellD, aset, lay, wk3, wk, iaddrV_map, seval]
  exact KWk_sets 2 l 1 _ rfl rfl ⟨by rw [hB]; rfl, rfl⟩
end Go.Proofs.YtemjlopoffjmpaaGreat.Abs
set_option linter.unusedSimpArgs false
set_option linter.unusedVariables false
namespace Go.Proofs.YtemjlopoffjmpaaGreat.Abs
open Go Go.Proofs
def someA (g : Dset → Dset) (l : List Dset) (k : Nat) : List Dset := (l.map g).take k ++ l.drop k
theorem someA_get (g : Dset → Dset) (l : List Dset) (k j : Nat) (hk : k ≤ l.length) : (someA g l k)[j]? = if j < k then (l[j]?).map g else l[j]? := by
 unfold someA
 rw [List.getElem?_append, List.length_take, List.length_map, Nat.min_eq_left hk]
 by_cases h : j < k
 ·rw [if_pos h, if_pos h, List.getElem?_take, if_pos h, List.getElem?_map]
 ·rw [if_neg h, if_neg h, List.getElem?_drop]; congr 1; omega
theorem someA_len (g : Dset → Dset) (l : List Dset) (k : Nat) (hk : k ≤ l.length) : (someA g l k).length = l.length := by
 unfold someA
 simp; omega
theorem someA_succ (g : Dset → Dset) (l : List Dset) (k : Nat) (hk : k < l.length) : (someA g l k).set k (g (l.getD k default)) = someA g l (k + 1) := by
 apply List.ext_getElem?
 intro j
 rw [List.getElem?_set, someA_get _ _ _ _ (by omega), someA_get _ _ _ _ (by omega), someA_len _ _ _ (by omega)]
 by_cases h : k = j
 ·subst h
  rw [if_pos rfl, if_pos hk, if_pos (by omega), List.getElem?_eq_getElem hk, List.getD_eq_getElem?_getD, List.getElem?_eq_getElem hk]; rfl
 ·rw [if_neg h]
  by_cases h2 : j < k
  ·rw [if_pos h2, if_pos (by omega)]
  ·rw [if_neg h2, if_neg (by omega)]
theorem someA_getD (g : Dset → Dset) (l : List Dset) (k j : Nat) (hk : k ≤ l.length) : (someA g l k).getD j default = if j < k ∧ j < l.length then g (l.getD j default) else l.getD j default := by
 rw [List.getD_eq_getElem?_getD, someA_get _ _ _ _ hk]
 by_cases h : j < k
 ·rw [if_pos h, if_pos ⟨h, by omega⟩, List.getElem?_eq_getElem (show j < l.length by omega), List.getD_eq_getElem?_getD, List.getElem?_eq_getElem (show j < l.length by omega)]; rfl
 ·rw [if_neg h, if_neg (by omega), List.getD_eq_getElem?_getD]
theorem someA_zero (g : Dset → Dset) (l : List Dset) : someA g l 0 = l := by simp [someA]
theorem someA_all (g : Dset → Dset) (l : List Dset) : someA g l l.length = l.map g := by
 unfold someA
 rw [List.take_of_length_le (by simp), List.drop_length, List.append_nil]
def turnA (was sid i : Int) (x : Dset) : Dset := if x.kind = 2 ∧ x.origin = was ∧ x.id ≤ sid then ⟨x.id, x.kind, i, x.quota, x.files⟩ else x
theorem turnA_id (was sid i : Int) (x : Dset) : (turnA was sid i x).id = x.id := by unfold turnA; split <;> rfl
def reorig (d : Dset) (o : Int) : Dset := ⟨d.id, d.kind, o, d.quota, d.files⟩
def promoted (l : List Dset) (i : Int) (ki ks ko : Nat) : List Dset :=
 let was := (l.getD ks default).origin
 let l1 := l.set ki (reorig (l.getD ki default) (l.getD ko default).origin)
 let l2 := l1.set ko (reorig (l1.getD ko default) (l.getD ks default).id)
 l2.map (turnA was (l.getD ks default).id i)
def promoteA (l : List Dset) (i : Int) : List Dset × Int :=
 if findA l i < 0 then (l, 2) else
 let d := l.getD (findA l i).toNat default
 if d.kind ≠ 1 ∨ d.origin = 0 then (l, 1) else
 let s := l.getD (findA l d.origin).toNat default
 if findA l d.origin < 0 ∨ isA l s.origin 1 = false then (l, 1) else (promoted l i (findA l i).toNat (findA l d.origin).toNat (findA l s.origin).toNat, 0)
theorem Wk_obj1 {fr fr' : List AV} {o : AObj} {G : AH} (ho : o.map (renL (upTo 1)) = o) (h : Tops fr' (renL (upTo 1) fr)) : Wk 0 fr (some o :: G) fr' [some o] := by
 have h1 := (Wk_forget (n0 := 0) (fr := fr) (H := some o :: G) 1 (Nat.zero_le _)).trans (Wk_tops h)
 have e : mapH (renL (upTo 1)) ((some o :: G).take 1) = [some o] := by
  simp only [List.take_succ_cons, List.take_zero, mapH, List.map_cons, List.map_nil, Option.map_some, ho]
 rwa [e] at h1
theorem promote0 (l : List Dset) (hl : Short l) (i : Int) : C Tryz.prog 29 [asets l, .int .i64 i] [] (fun x H' => x = outA (promoteA l i) ∧ H' = []) := by
 have hl1 := hl.1
 refine C_body' d29 rfl (WT_ok ?_)
 unfold c29
 simp only [lay, wk3, wk, iaddrV_map, Nat.reduceAdd, Nat.reduceSub, Nat.reduceMul, Nat.reduceLeDiff, Nat.reduceEqDiff, Nat.reduceBEq, Int.reduceLE, Int.reduceLT, Int.reduceEq, Int.reduceNe, Int.reduceAdd, Int.reduceSub, Int.reduceToNat, Int.reduceNeg, ↓reduceIte, reduceCtorEq]
 refine CT_ok (twinL l hl _) ?_
 rintro _ _ ⟨rfl, rfl⟩
 simp only [lay, wk3, wk, iaddrV_map, Nat.reduceAdd, Nat.reduceSub, Nat.reduceMul, Nat.reduceLeDiff, Nat.reduceEqDiff, Nat.reduceBEq, Int.reduceLE, Int.reduceLT, Int.reduceEq, Int.reduceNe, Int.reduceAdd, Int.reduceSub, Int.reduceToNat, Int.reduceNeg, ↓reduceIte, reduceCtorEq]
 refine CT_ok (findAt l hl1 i 0 _ rfl) ?_
 rintro _ _ ⟨rfl, rfl⟩
 simp only [lay, wk3, wk, iaddrV_map, Nat.reduceAdd, Nat.reduceSub, Nat.reduceMul, Nat.reduceLeDiff, Nat.reduceEqDiff, Nat.reduceBEq, Int.reduceLE, Int.reduceLT, Int.reduceEq, Int.reduceNe, Int.reduceAdd, Int.reduceSub, Int.reduceToNat, Int.reduceNeg, ↓reduceIte, reduceCtorEq]
 rcases find_of (l := l) (i := i) with ⟨e, _⟩ | ⟨k, e, hk, _, _⟩
 ·have hA : promoteA l i = (l, 2) := by unfold promoteA; rw [if_pos (by omega)]
  simp only [e, hA, lay, wk3, wk, iaddrV_map, Nat.reduceAdd, Nat.reduceSub, Nat.reduceMul, Nat.reduceLeDiff, Nat.reduceEqDiff, Nat.reduceBEq, Int.reduceLE, Int.reduceLT, Int.reduceEq, Int.reduceNe, Int.reduceAdd, Int.reduceSub, Int.reduceToNat, Int.reduceNeg, ↓reduceIte, reduceCtorEq]
  exact KWk_sets 0 l 2 _ rfl rfl ⟨rfl, rfl⟩
 have hc := cell_at hk
 have h0 : (0 : Int) ≤ k := by omega
 have h1 : (k : Int) < l.length := by omega
 have h2 : ¬ (k : Int) < 0 := by omega
 by_cases g1 : (l.getD k default).kind = 1
 case neg =>
  have hA : promoteA l i = (l, 1) := by unfold promoteA; rw [if_neg (by omega)]; simp only [e, Int.toNat_natCast]; rw [if_pos (.inl g1)]
  simp only [e, h0, h1, h2, hc, g1, cellD, aset, lay, wk3, wk, iaddrV_map, Nat.reduceAdd, Nat.reduceSub, Nat.reduceMul, Nat.reduceLeDiff, Nat.reduceEqDiff, Nat.reduceBEq, Int.reduceLE, Int.reduceLT, Int.reduceEq, Int.reduceNe, Int.reduceAdd, Int.reduceSub, Int.reduceToNat, Int.reduceNeg, ↓reduceIte, reduceCtorEq]
  exact KWk_sets 0 l 1 _ rfl rfl ⟨by rw [hA]; rfl, rfl⟩
 by_cases g2 : (l.getD k default).origin = 0
 ·have hA : promoteA l i = (l, 1) := by unfold promoteA; rw [if_neg (by omega)]; simp only [e, Int.toNat_natCast]; rw [if_pos (.inr g2)]
  simp only [e, h0, h1, h2, hc, g1, g2, cellD, aset, lay, wk3, wk, iaddrV_map, Nat.reduceAdd, Nat.reduceSub, Nat.reduceMul, Nat.reduceLeDiff, Nat.reduceEqDiff, Nat.reduceBEq, Int.reduceLE, Int.reduceLT, Int.reduceEq, Int.reduceNe, Int.reduceAdd, Int.reduceSub, Int.reduceToNat, Int.reduceNeg, ↓reduceIte, reduceCtorEq]
  exact KWk_sets 0 l 1 _ rfl rfl ⟨by rw [hA]; rfl, rfl⟩
 have hB : promoteA l i = if findA l (l.getD k default).origin < 0 ∨ isA l (l.getD (findA l (l.getD k default).origin).toNat default).origin 1 = false then (l, 1) else (promoted l i k (findA l (l.getD k default).origin).toNat (findA l (l.getD (findA l (l.getD k default).origin).toNat default).origin).toNat, 0) := by
  unfold promoteA; rw [if_neg (by omega)]; simp only [e, Int.toNat_natCast]; rw [if_neg (fun h => h.elim (fun h => h g1) g2)]
 simp only [e, h0, h1, h2, hc, g1, g2, cellD, aset, lay, wk3, wk, iaddrV_map, Nat.reduceAdd, Nat.reduceSub, Nat.reduceMul, Nat.reduceLeDiff, Nat.reduceEqDiff, Nat.reduceBEq, Int.reduceLE, Int.reduceLT, Int.reduceEq, Int.reduceNe, Int.reduceAdd, Int.reduceSub, Int.reduceToNat, Int.reduceNeg, ↓reduceIte, reduceCtorEq]
 refine CT_ok (findAt l hl1 (l.getD k default).origin 0 _ rfl) ?_
 rintro _ _ ⟨rfl, rfl⟩
 rcases find_of (l := l) (i := (l.getD k default).origin) with ⟨e', _⟩ | ⟨m, e', hm, _, _⟩
 ·rw [if_pos (.inl (by omega))] at hB
  simp only [e', lay, wk3, wk, iaddrV_map, Nat.reduceAdd, Nat.reduceSub, Nat.reduceMul, Nat.reduceLeDiff, Nat.reduceEqDiff, Nat.reduceBEq, Int.reduceLE, Int.reduceLT, Int.reduceEq, Int.reduceNe, Int.reduceAdd, Int.reduceSub, Int.reduceToNat, Int.reduceNeg, ↓reduceIte, reduceCtorEq]
  exact KWk_sets 0 l 1 _ rfl rfl ⟨by rw [hB]; rfl, rfl⟩
 rw [e', Int.toNat_natCast] at hB
 have hc' := cell_at hm
 have h0' : (0 : Int) ≤ m := by omega
 have h1' : (m : Int) < l.length := by omega
 have h2' : ¬ (m : Int) < 0 := by omega
 simp only [e', h0', h1', h2', hc', cellD, aset, lay, wk3, wk, iaddrV_map, Nat.reduceAdd, Nat.reduceSub, Nat.reduceMul, Nat.reduceLeDiff, Nat.reduceEqDiff, Nat.reduceBEq, Int.reduceLE, Int.reduceLT, Int.reduceEq, Int.reduceNe, Int.reduceAdd, Int.reduceSub, Int.reduceToNat, Int.reduceNeg, ↓reduceIte, reduceCtorEq]
 refine CT_ok (isAt l hl1 (l.getD m default).origin 1 0 _ (by simp [AH.at, cellD, aset])) ?_
 rintro _ _ ⟨rfl, rfl⟩
 cases h3 : isA l (l.getD m default).origin 1
 ·rw [if_pos (.inr h3)] at hB
  simp only [lay, wk3, wk, iaddrV_map, Nat.reduceAdd, Nat.reduceSub, Nat.reduceMul, Nat.reduceLeDiff, Nat.reduceEqDiff, Nat.reduceBEq, Int.reduceLE, Int.reduceLT, Int.reduceEq, Int.reduceNe, Int.reduceAdd, Int.reduceSub, Int.reduceToNat, Int.reduceNeg, ↓reduceIte, reduceCtorEq]
  exact KWk_sets 0 l 1 _ rfl rfl ⟨by rw [hB]; rfl, rfl⟩
 rw [if_neg (fun h => h.elim h2' (fun h => by rw [h3] at h; cases h))] at hB
 obtain ⟨o, e2, ho⟩ : ∃ o : Nat, findA l (l.getD m default).origin = o ∧ o < l.length := by
  unfold isA at h3
  rcases find_of (l := l) (i := (l.getD m default).origin) with ⟨e2, _⟩ | ⟨o, e2, ho, _, _⟩
  ·rw [e2] at h3; simp at h3
  ·exact ⟨o, e2, ho⟩
 rw [e2, Int.toNat_natCast] at hB
 have hc2 := cell_at ho
 have h02 : (0 : Int) ≤ o := by omega
 have h12 : (o : Int) < l.length := by omega
 simp only [h0', h1', hc', cellD, aset, lay, wk3, wk, iaddrV_map, Nat.reduceAdd, Nat.reduceSub, Nat.reduceMul, Nat.reduceLeDiff, Nat.reduceEqDiff, Nat.reduceBEq, Int.reduceLE, Int.reduceLT, Int.reduceEq, Int.reduceNe, Int.reduceAdd, Int.reduceSub, Int.reduceToNat, Int.reduceNeg, ↓reduceIte, reduceCtorEq]
 refine CT_ok (findAt l hl1 (l.getD m default).origin 0 _ (by simp [AH.at, cellD, aset])) ?_
 rintro _ _ ⟨rfl, rfl⟩
 simp only [e2, lay, wk3, wk, iaddrV_map, Nat.reduceAdd, Nat.reduceSub, Nat.reduceMul, Nat.reduceLeDiff, Nat.reduceEqDiff, Nat.reduceBEq, Int.reduceLE, Int.reduceLT, Int.reduceEq, Int.reduceNe, Int.reduceAdd, Int.reduceSub, Int.reduceToNat, Int.reduceNeg, ↓reduceIte, reduceCtorEq]
 refine WT_drawE ?_
 refine WDT_more 0 ?_
 simp only [cellD, aset] at hc hc' hc2
 have hs1 := set_cellD l k (reorig (l.getD k default) (l.getD o default).origin)
 have hl1' : (l.set k (reorig (l.getD k default) (l.getD o default).origin)).length = l.length := List.length_set
 have hpr : promoted l i k m o = ((l.set k (reorig (l.getD k default) (l.getD o default).origin)).set o (reorig ((l.set k (reorig (l.getD k default) (l.getD o default).origin)).getD o default) (l.getD m default).id)).map (turnA (l.getD m default).origin (l.getD m default).id i) := rfl
 rw [hpr] at hB
 have hmid : (l.set k (reorig (l.getD k default) (l.getD o default).origin)).getD m default = l.getD m default ∨ ((l.set k (reorig (l.getD k default) (l.getD o default).origin)).getD m default).id = (l.getD m default).id := by
  rw [List.getD_eq_getElem?_getD, List.getElem?_set]
  by_cases hkm : k = m
  ·subst hkm; right; rw [if_pos rfl, if_pos hk]; rfl
  ·left; rw [if_neg hkm, List.getD_eq_getElem?_getD]
 simp only [cellD, aset, reorig] at hs1
 simp only [reorig] at hl1' hB hmid
 generalize hL1 : l.set k ⟨(l.getD k default).id, (l.getD k default).kind, (l.getD o default).origin, (l.getD k default).quota, (l.getD k default).files⟩ = l1 at hs1 hl1' hB hmid
 have hc3 := cell_at (l := l1) (k := o) (by omega)
 have hs2 := set_cellD l1 o (reorig (l1.getD o default) (l.getD m default).id)
 have hl2' : (l1.set o (reorig (l1.getD o default) (l.getD m default).id)).length = l1.length := List.length_set
 have hmid2 : ((l1.set o (reorig (l1.getD o default) (l.getD m default).id)).getD m default).id = (l.getD m default).id := by
  have h : (l1.getD m default).id = (l.getD m default).id := by rcases hmid with h | h; rw [h]; exact h
  rw [List.getD_eq_getElem?_getD, List.getElem?_set]
  by_cases hom : o = m
  ·subst hom; rw [if_pos rfl, if_pos (by omega)]; exact h
  ·rw [if_neg hom, ← List.getD_eq_getElem?_getD]; exact h
 simp only [cellD, aset, reorig] at hs2 hc3
 simp only [reorig] at hl2' hmid2
 generalize hL2 : l1.set o ⟨(l1.getD o default).id, (l1.getD o default).kind, (l.getD m default).id, (l1.getD o default).quota, (l1.getD o default).files⟩ = l2 at hs2 hl2' hB hmid2
 have hl2 : l2.length = l.length := hl2'.trans hl1'
 simp only [h0, h1, h0', h1', h02, h12, hc, hc', hc2, hs1, hc3, hs2, hl1', hl2, lay, wk3, wk, iaddrV_map, Nat.reduceAdd, Nat.reduceSub, Nat.reduceMul, Nat.reduceLeDiff, Nat.reduceEqDiff, Nat.reduceBEq, Int.reduceLE, Int.reduceLT, Int.reduceEq, Int.reduceNe, Int.reduceAdd, Int.reduceSub, Int.reduceToNat, Int.reduceNeg, ↓reduceIte, reduceCtorEq]
 refine ⟨by omega, by rfl, ?_⟩
 have hcm := cell_at (l := l2) (k := m) (by omega)
 generalize l.getD m default = sm at *
 clear hs1 hc3 hs2 hL1 hL2 hc hc' hc2
 have hre : ([some (List.map (fun d : Dset => cellD d) l2)] : AH) = [some (l2.map cellD)] := rfl
 refine WT_loop (W_wk (fr' := [asets l, .int .i64 i, .top, .top, .emp, .int .i64 0, .own 0 5 0 l.length l.length, .own 0 5 0 l.length l.length, .int .i64 k, .int .i64 m, .int .i64 sm.origin, .int .i64 o, .top, .top] ++ List.replicate 72 .top ++ [.own 0 5 0 l.length l.length, .int .i64 l.length, .int .i64 0] ++ List.replicate 30 .top) (Wk_tops ?_) (W_loop (fun n fr H' => ∃ j : Nat, j ≤ l.length ∧ n = l.length - j ∧ H' = [some ((someA (turnA sm.origin sm.id i) l2 j).map cellD)] ∧
  fr = [asets l, .int .i64 i, .top, .top, .emp, .int .i64 0, .own 0 5 0 l.length l.length, .own 0 5 0 l.length l.length, .int .i64 k, .int .i64 m, .int .i64 sm.origin, .int .i64 o, .top, .top] ++ List.replicate 72 .top ++ [.own 0 5 0 l.length l.length, .int .i64 l.length, .int .i64 j] ++ List.replicate 30 .top) l.length ⟨0, by omega, rfl, by rw [someA_zero], rfl⟩ ?_))
 ·simp only [asets, List.replicate_succ, List.replicate_zero, List.cons_append, List.nil_append, Tops_top, Tops_same, Tops_nil]
 rintro n fr H' ⟨j, hj, rfl, rfl, rfl⟩
 refine WT_ok ?_
 have hsl := someA_len (turnA sm.origin sm.id i) l2 j (by omega)
 simp only [lay, wk3, wk, iaddrV_map, Nat.reduceAdd, Nat.reduceSub, Nat.reduceMul, Nat.reduceLeDiff, Nat.reduceEqDiff, Nat.reduceBEq, Int.reduceLE, Int.reduceLT, Int.reduceEq, Int.reduceNe, Int.reduceAdd, Int.reduceSub, Int.reduceToNat, Int.reduceNeg, ↓reduceIte, reduceCtorEq]
 refine guard_both ?_ ?_ <;> intro h <;> simp only [hy] at h
 ·have hj2 : j < l.length := by omega
  have hcj := cell_at (l := someA (turnA sm.origin sm.id i) l2 j) (k := j) (by omega)
  have hcm := cell_at (l := someA (turnA sm.origin sm.id i) l2 j) (k := m) (by omega)
  have hgj : (someA (turnA sm.origin sm.id i) l2 j).getD j default = l2.getD j default := by rw [someA_getD _ _ _ _ (by omega), if_neg (by omega)]
  have hgm : ((someA (turnA sm.origin sm.id i) l2 j).getD m default).id = sm.id := by
   rw [someA_getD _ _ _ _ (by omega)]
   split
   ·rw [turnA_id]; exact hmid2
   ·exact hmid2
  have hsu := someA_succ (turnA sm.origin sm.id i) l2 j (by omega)
  have hsw := set_cellD (someA (turnA sm.origin sm.id i) l2 j) j (turnA sm.origin sm.id i (l2.getD j default))
  rw [hsu] at hsw
  rw [hgj] at hcj
  generalize (someA (turnA sm.origin sm.id i) l2 j).getD m default = dm at hcm hgm
  have hss := someA_len (turnA sm.origin sm.id i) l2 (j + 1) (by omega)
  have hself : ¬ ((l2.getD j default).kind = 2 ∧ (l2.getD j default).origin = sm.origin ∧ (l2.getD j default).id ≤ sm.id) → (someA (turnA sm.origin sm.id i) l2 (j + 1)).map cellD = (someA (turnA sm.origin sm.id i) l2 j).map cellD := fun hn => by
   have : turnA sm.origin sm.id i (l2.getD j default) = l2.getD j default := by unfold turnA; rw [if_neg hn]
   rw [this] at hsw
   rw [← hsw]
   have := cell_same (l := someA (turnA sm.origin sm.id i) l2 j) (k := j) (by omega)
   rwa [hgj] at this
  have hyes : ((l2.getD j default).kind = 2 ∧ (l2.getD j default).origin = sm.origin ∧ (l2.getD j default).id ≤ sm.id) → ((someA (turnA sm.origin sm.id i) l2 j).map cellD).set j [.int .i64 (l2.getD j default).id, .int .i64 (l2.getD j default).kind, .int .i64 i, .int .i64 (l2.getD j default).quota, .fz ((l2.getD j default).files.map pnode)] = (someA (turnA sm.origin sm.id i) l2 (j + 1)).map cellD := fun hy => by
   have : turnA sm.origin sm.id i (l2.getD j default) = ⟨(l2.getD j default).id, (l2.getD j default).kind, i, (l2.getD j default).quota, (l2.getD j default).files⟩ := by unfold turnA; rw [if_pos hy]
   rw [this] at hsw
   exact hsw
  generalize someA (turnA sm.origin sm.id i) l2 j = lj at *
  generalize hlj' : someA (turnA sm.origin sm.id i) l2 (j + 1) = lj' at *
  generalize l2.getD j default = dj at *
  have w2 : IntKind.i64.wrap ((j : Int) + 1) = (j : Int) + 1 := IntWalk.i64_in _ (by omega)
  have k0 : (0 : Int) ≤ j := by omega
  have k1 : (j : Int) < l.length := by omega
  have k3 : lj.length = l.length := by omega
  simp only [cellD, aset] at hcj hcm
  simp only [h, k0, k1, k3, hcj, cellD, aset, lay, wk3, wk, iaddrV_map, Nat.reduceAdd, Nat.reduceSub, Nat.reduceMul, Nat.reduceLeDiff, Nat.reduceEqDiff, Nat.reduceBEq, Int.reduceLE, Int.reduceLT, Int.reduceEq, Int.reduceNe, Int.reduceAdd, Int.reduceSub, Int.reduceToNat, Int.reduceNeg, ↓reduceIte, reduceCtorEq]
  refine WT_draw ?_
  by_cases q1 : dj.kind = 2
  ·by_cases q2 : dj.origin = sm.origin
   ·by_cases q3 : dj.id ≤ sm.id
    ·have hn := hyes ⟨q1, q2, q3⟩
     rw [q1] at hn
     simp only [h, h0', h1', k0, k1, k3, hcj, hcm, hgm, q1, q2, q3, hn, w2, cellD, aset, lay, wk3, wk, iaddrV_map, Nat.reduceAdd, Nat.reduceSub, Nat.reduceMul, Nat.reduceLeDiff, Nat.reduceEqDiff, Nat.reduceBEq, Int.reduceLE, Int.reduceLT, Int.reduceEq, Int.reduceNe, Int.reduceAdd, Int.reduceSub, Int.reduceToNat, Int.reduceNeg, ↓reduceIte, reduceCtorEq]
     refine QLoop_wk (n' := l.length - (j + 1)) (by omega) ⟨j + 1, by omega, rfl, by rw [hlj'], rfl⟩ (Wk_obj1 (renO_cells _ _) ?_)
     simp only [renL, ren, asets, upTo, show (0 : Nat) < 1 by omega, if_true, List.replicate_succ, List.replicate_zero, List.cons_append, List.nil_append, Tops_top, Tops_same, Tops_nil, Int.natCast_add, Int.natCast_one]
    ·rw [← hself (fun h => q3 h.2.2)]
     rw [← hself (fun h => q3 h.2.2)] at hcj hcm
     simp only [h, h0', h1', k0, k1, k3, hss, hl2, hcj, hcm, hgm, q1, q2, q3, w2, cellD, aset, lay, wk3, wk, iaddrV_map, Nat.reduceAdd, Nat.reduceSub, Nat.reduceMul, Nat.reduceLeDiff, Nat.reduceEqDiff, Nat.reduceBEq, Int.reduceLE, Int.reduceLT, Int.reduceEq, Int.reduceNe, Int.reduceAdd, Int.reduceSub, Int.reduceToNat, Int.reduceNeg, ↓reduceIte, reduceCtorEq]
     refine QLoop_wk (n' := l.length - (j + 1)) (by omega) ⟨j + 1, by omega, rfl, by rw [hlj'], rfl⟩ (Wk_obj1 (renO_cells _ _) ?_)
     simp only [renL, ren, asets, upTo, show (0 : Nat) < 1 by omega, if_true, List.replicate_succ, List.replicate_zero, List.cons_append, List.nil_append, Tops_top, Tops_same, Tops_nil, Int.natCast_add, Int.natCast_one]
   ·rw [← hself (fun h => q2 h.2.1)]
    simp only [h, q1, q2, w2, cellD, aset, lay, wk3, wk, iaddrV_map, Nat.reduceAdd, Nat.reduceSub, Nat.reduceMul, Nat.reduceLeDiff, Nat.reduceEqDiff, Nat.reduceBEq, Int.reduceLE, Int.reduceLT, Int.reduceEq, Int.reduceNe, Int.reduceAdd, Int.reduceSub, Int.reduceToNat, Int.reduceNeg, ↓reduceIte, reduceCtorEq]
    refine QLoop_wk (n' := l.length - (j + 1)) (by omega) ⟨j + 1, by omega, rfl, by rw [hlj'], rfl⟩ (Wk_obj1 (renO_cells _ _) ?_)
    simp only [renL, ren, asets, upTo, show (0 : Nat) < 1 by omega, if_true, List.replicate_succ, List.replicate_zero, List.cons_append, List.nil_append, Tops_top, Tops_same, Tops_nil, Int.natCast_add, Int.natCast_one]
  ·rw [← hself (fun h => q1 h.1)]
   simp only [h, q1, w2, cellD, aset, lay, wk3, wk, iaddrV_map, Nat.reduceAdd, Nat.reduceSub, Nat.reduceMul, Nat.reduceLeDiff, Nat.reduceEqDiff, Nat.reduceBEq, Int.reduceLE, Int.reduceLT, Int.reduceEq, Int.reduceNe, Int.reduceAdd, Int.reduceSub, Int.reduceToNat, Int.reduceNeg, ↓reduceIte, reduceCtorEq]
   refine QLoop_wk (n' := l.length - (j + 1)) (by omega) ⟨j + 1, by omega, rfl, by rw [hlj'], rfl⟩ (Wk_obj1 (renO_cells _ _) ?_)
   simp only [renL, ren, asets, upTo, show (0 : Nat) < 1 by omega, if_true, List.replicate_succ, List.replicate_zero, List.cons_append, List.nil_append, Tops_top, Tops_same, Tops_nil, Int.natCast_add, Int.natCast_one]
 ·have : j = l.length := by omega
  subst this
  rw [← hl2, someA_all, hl2]
  simp only [h, lay, wk3, wk, iaddrV_map, Nat.reduceAdd, Nat.reduceSub, Nat.reduceMul, Nat.reduceLeDiff, Nat.reduceEqDiff, Nat.reduceBEq, Int.reduceLE, Int.reduceLT, Int.reduceEq, Int.reduceNe, Int.reduceAdd, Int.reduceSub, Int.reduceToNat, Int.reduceNeg, ↓reduceIte, reduceCtorEq]
  exact KWk_sets 0 (l2.map (turnA sm.origin sm.id i)) 0 _ (by simp; omega) rfl ⟨by rw [hB]; rfl, rfl⟩
end Go.Proofs.YtemjlopoffjmpaaGreat.Abs
set_option linter.unusedSimpArgs false
set_option linter.unusedVariables false
namespace Go.Proofs.YtemjlopoffjmpaaGreat.Abs
open Go Go.Proofs
theorem MayD.mono {l l' : List Dset} {d : Dset} (h : MayD l d) (hs : ∀ o ∈ l, ∃ o' ∈ l', o'.id = o.id ∧ o'.kind = o.kind) : MayD l' d := by
 refine ⟨h.id, h.quota, h.files, h.kinds, fun e => ?_, fun e => ?_⟩
 ·obtain ⟨h1, o, ho, hi, hk⟩ := h.snap e
  obtain ⟨o', ho', hi', hk'⟩ := hs o ho
  exact ⟨h1, o', ho', by omega, by omega⟩
 ·rcases h.live e with h1 | ⟨o, ho, hi, hk⟩
  ·exact .inl h1
  ·obtain ⟨o', ho', hi', hk'⟩ := hs o ho
   exact .inr ⟨o', ho', by omega, by omega⟩
theorem MayD.origin {l : List Dset} {d : Dset} (h : MayD l d) : d.origin = 0 ∨ ∃ o ∈ l, o.id = d.origin := by
 rcases h.kinds with e | e
 ·rcases h.live e with h1 | ⟨o, ho, hi, _⟩
  ·exact .inl h1
  ·exact .inr ⟨o, ho, hi⟩
 ·obtain ⟨_, o, ho, hi, _⟩ := h.snap e
  exact .inr ⟨o, ho, hi⟩
theorem addA_may {l : List Dset} (h : MayL l) {next : Int} {x : Dset} (hf : Wf x.files) (hq : 0 ≤ x.quota ∧ x.quota ≤ 255)
 (hk : (x.kind = 1 ∧ (x.origin = 0 ∨ ∃ o ∈ l, o.id = x.origin ∧ o.kind = 2)) ∨ (x.kind = 2 ∧ x.quota = 0 ∧ ∃ o ∈ l, o.id = x.origin ∧ o.kind = 1)) : MayL (addA l next x).1 := by
 unfold addA
 split
 case isFalse => exact h
 case isTrue hok =>
  simp only [addOk, Bool.and_eq_true, Bool.or_eq_true, decide_eq_true_eq] at hok
  obtain ⟨⟨⟨h1, h2⟩, h3⟩, h4⟩ := hok
  have hlt : ∀ d ∈ l, d.id < next := fun d hd => by
   obtain ⟨n, hn, rfl⟩ := mem_dgetD hd
   rcases h4 with h4 | h4
   ·omega
   ·rcases Nat.lt_or_ge n (l.length - 1) with h5 | h5
    ·have := h.lt h5 (by omega); omega
    ·have : n = l.length - 1 := by omega
     rw [this]; exact h4
  have hox : x.origin = 0 ∨ ∃ o ∈ l, o.id = x.origin := by
   rcases hk with ⟨_, h5 | ⟨o, ho, hi, _⟩⟩ | ⟨_, _, o, ho, hi, _⟩
   ·exact .inl h5
   ·exact .inr ⟨o, ho, hi⟩
   ·exact .inr ⟨o, ho, hi⟩
  have hne : x.origin ≠ next := by
   rcases hox with h5 | ⟨o, ho, hi⟩
   ·omega
   ·have := hlt o ho; omega
  have hsub : ∀ o ∈ l, ∃ o' ∈ l ++ [({ x with id := next } : Dset)], o'.id = o.id ∧ o'.kind = o.kind := fun o ho => ⟨o, by simp [ho], rfl, rfl⟩
  refine ⟨by simp; omega, ?_, fun d hd => ?_, ?_⟩
  ·rw [List.pairwise_append]
   refine ⟨h.sorted, by simp, fun a ha b hb => ?_⟩
   rw [List.mem_singleton] at hb
   subst hb
   exact hlt a ha
  ·rcases List.mem_append.1 hd with hd | hd
   ·exact (h.each d hd).mono hsub
   ·rw [List.mem_singleton] at hd
    subst hd
    refine ⟨⟨h2, h3⟩, hq, hf, ?_, fun e => ?_, fun e => ?_⟩
    ·rcases hk with ⟨e, _⟩ | ⟨e, _⟩
     ·exact .inl e
     ·exact .inr e
    ·rcases hk with ⟨e', _⟩ | ⟨_, e2, o, ho, hi, hok⟩
     ·have : x.kind = 2 := e
      omega
     ·exact ⟨e2, o, by simp [ho], hi, hok⟩
    ·rcases hk with ⟨_, h5 | ⟨o, ho, hi, hok⟩⟩ | ⟨e', _⟩
     ·exact .inl h5
     ·exact .inr ⟨o, by simp [ho], hi, hok⟩
     ·have : x.kind = 1 := e
      omega
  ·obtain ⟨r, hr⟩ := h.tree
   refine ⟨fun i => if i = next then r x.origin + 1 else r i, fun d hd o ho e => ?_⟩
   show (if o.id = next then _ else _) < (if d.id = next then _ else _)
   rcases List.mem_append.1 hd with hd | hd
   ·have hd1 := hlt d hd
    rw [if_neg (show ¬ d.id = next by omega)]
    rcases List.mem_append.1 ho with ho | ho
    ·have ho1 := hlt o ho
     rw [if_neg (by omega)]
     exact hr d hd o ho e
    ·rw [List.mem_singleton] at ho
     subst ho
     exfalso
     have e' : next = d.origin := e
     rcases (h.each d hd).origin with h5 | ⟨o, ho, hi⟩
     ·omega
     ·have := hlt o ho; omega
   ·rw [List.mem_singleton] at hd
    subst hd
    rw [if_pos rfl]
    rcases List.mem_append.1 ho with ho | ho
    ·have ho1 := hlt o ho
     rw [if_neg (by omega)]
     have e' : o.id = x.origin := e
     rw [e']; omega
    ·rw [List.mem_singleton] at ho
     subst ho
     exfalso
     have e' : next = x.origin := e
     exact hne e'.symm
theorem addA_same {l : List Dset} {next : Int} {x : Dset} (h : (addA l next x).2 ≠ 0) : (addA l next x).1 = l := by
 unfold addA at h ⊢
 split
 ·rename_i hok; rw [if_pos hok] at h; exact absurd rfl h
 ·rfl
theorem createA_may {l : List Dset} (h : MayL l) (next q : Int) : MayL (createA l next q).1 := by
 unfold createA
 split
 ·exact h
 ·exact addA_may h newA_wf ⟨by show 0 ≤ q; omega, by show q ≤ 255; omega⟩ (.inl ⟨rfl, .inl rfl⟩)
theorem createA_same {l : List Dset} {next q : Int} (h : (createA l next q).2 ≠ 0) : (createA l next q).1 = l := by
 unfold createA at h ⊢
 split
 ·rfl
 ·rename_i hc; rw [if_neg hc] at h; exact addA_same h
theorem snapA_may {l : List Dset} (h : MayL l) (next i : Int) : MayL (snapA l next i).1 := by
 unfold snapA
 cases hg : getA l i with
 | none => exact h
 | some d =>
   obtain ⟨hd, hi⟩ := getA_mem hg
   have hm := h.each d hd
   simp only
   split
   ·exact h
   ·rename_i hk
    exact addA_may h hm.files ⟨Int.le_refl 0, by show (0 : Int) ≤ 255; omega⟩ (.inr ⟨rfl, rfl, d, hd, hi, by rcases hm.kinds with e | e; exact e; exact absurd e hk⟩)
theorem snapA_same {l : List Dset} {next i : Int} (h : (snapA l next i).2 ≠ 0) : (snapA l next i).1 = l := by
 unfold snapA at h ⊢
 cases hg : getA l i with
 | none => rfl
 | some d =>
   rw [hg] at h
   simp only at h ⊢
   split
   ·rfl
   ·rename_i hc; rw [if_neg hc] at h; exact addA_same h
theorem cloneA_may {l : List Dset} (h : MayL l) (next i : Int) : MayL (cloneA l next i).1 := by
 unfold cloneA
 cases hg : getA l i with
 | none => exact h
 | some d =>
   obtain ⟨hd, hi⟩ := getA_mem hg
   have hm := h.each d hd
   simp only
   split
   ·rename_i hk
    exact addA_may h hm.files ⟨Int.le_refl 0, by show (0 : Int) ≤ 255; omega⟩ (.inl ⟨rfl, .inr ⟨d, hd, hi, hk⟩⟩)
   ·exact h
theorem cloneA_same {l : List Dset} {next i : Int} (h : (cloneA l next i).2 ≠ 0) : (cloneA l next i).1 = l := by
 unfold cloneA at h ⊢
 cases hg : getA l i with
 | none => rfl
 | some d =>
   rw [hg] at h
   simp only at h ⊢
   split
   ·rename_i hc; rw [if_pos hc] at h; exact addA_same h
   ·rfl
theorem eraseIdx_mem {l : List Dset} (h : MayL l) {k : Nat} (hk : k < l.length) {d : Dset} : d ∈ l.eraseIdx k ↔ d ∈ l ∧ d.id ≠ (l.getD k default).id := by
 rw [List.mem_eraseIdx_iff_getElem]
 constructor
 ·rintro ⟨j, hj, hjk, rfl⟩
  refine ⟨List.getElem_mem hj, fun e => hjk ?_⟩
  have : (l.getD j default).id = (l.getD k default).id := by
   rw [List.getD_eq_getElem?_getD, List.getElem?_eq_getElem hj]; exact e
  exact h.inj hj hk this
 ·rintro ⟨hd, hne⟩
  obtain ⟨j, hj, rfl⟩ := mem_dgetD hd
  refine ⟨j, hj, fun e => hne (by rw [e]), ?_⟩
  rw [List.getD_eq_getElem?_getD, List.getElem?_eq_getElem hj]; rfl
theorem hangsA_false {l : List Dset} {i : Int} (h : ¬ hangsA l i = true) : ∀ d ∈ l, d.origin ≠ i := by
 intro d hd e
 apply h
 unfold hangsA
 obtain ⟨n, hn, rfl⟩ := mem_dgetD hd
 rcases idxA_cases (fun d => decide (d.origin = i)) l with ⟨_, h2⟩ | ⟨k, h1, _, _⟩
 ·have h3 := of_decide_eq_false (h2 n hn)
  exact absurd e h3
 ·rw [h1]; exact decide_eq_true (by omega)
theorem destroyA_may {l : List Dset} (h : MayL l) (i : Int) : MayL (destroyA l i).1 := by
 unfold destroyA
 split
 ·exact h
 ·rename_i h1
  split
  ·exact h
  ·rename_i h2
   rcases find_of (l := l) (i := i) with ⟨e, _⟩ | ⟨k, e, hk, hid, _⟩
   ·omega
   ·rw [e, Int.toNat_natCast]
    have hno := hangsA_false (fun hh => h2 (.inl hh))
    have hsub : ∀ d ∈ l.eraseIdx k, d ∈ l := fun d hd => ((eraseIdx_mem h hk).1 hd).1
    have hle := List.length_eraseIdx_le l k
    refine ⟨by have := h.len; show (l.eraseIdx k).length ≤ 8; omega, h.sorted.sublist (List.eraseIdx_sublist l k), fun d hd => ?_, ?_⟩
    ·have hdl := hsub d hd
     have hm := h.each d hdl
     refine ⟨hm.id, hm.quota, hm.files, hm.kinds, fun e => ?_, fun e => ?_⟩
     ·obtain ⟨h3, o, ho, hoi, hok⟩ := hm.snap e
      exact ⟨h3, o, (eraseIdx_mem h hk).2 ⟨ho, fun e2 => hno d hdl (by omega)⟩, hoi, hok⟩
     ·rcases hm.live e with h3 | ⟨o, ho, hoi, hok⟩
      ·exact .inl h3
      ·exact .inr ⟨o, (eraseIdx_mem h hk).2 ⟨ho, fun e2 => hno d hdl (by omega)⟩, hoi, hok⟩
    ·obtain ⟨r, hr⟩ := h.tree
     exact ⟨r, fun d hd o ho e => hr d (hsub d hd) o (hsub o ho) e⟩
theorem destroyA_same {l : List Dset} {i : Int} (h : (destroyA l i).2 ≠ 0) : (destroyA l i).1 = l := by
 unfold destroyA at h ⊢
 split
 ·rfl
 ·rename_i h1
  rw [if_neg h1] at h
  split
  ·rfl
  ·rename_i h2; rw [if_neg h2] at h; exact absurd rfl h
theorem MayL.map {l : List Dset} (h : MayL l) (f : Dset → Dset) (hid : ∀ d ∈ l, (f d).id = d.id) (hkind : ∀ d ∈ l, (f d).kind = d.kind) (hquota : ∀ d ∈ l, (f d).quota = d.quota) (hfiles : ∀ d ∈ l, Wf (f d).files)
 (hsnap : ∀ d ∈ l, d.kind = 2 → ∃ o ∈ l, o.id = (f d).origin ∧ o.kind = 1) (hlive : ∀ d ∈ l, d.kind = 1 → (f d).origin = 0 ∨ ∃ o ∈ l, o.id = (f d).origin ∧ o.kind = 2)
 (r : Int → Nat) (hr : ∀ d ∈ l, ∀ o ∈ l, o.id = (f d).origin → r o.id < r d.id) : MayL (l.map f) := by
 have hmem : ∀ d ∈ l.map f, ∃ d0 ∈ l, f d0 = d := fun d hd => by
  obtain ⟨d0, h0, e⟩ := List.mem_map.1 hd
  exact ⟨d0, h0, e⟩
 refine ⟨by rw [List.length_map]; exact h.len, ?_, fun d hd => ?_, r, fun d hd o ho e => ?_⟩
 ·rw [List.pairwise_map]
  refine h.sorted.imp_of_mem fun ha hb hab => ?_
  rw [hid _ ha, hid _ hb]; exact hab
 ·obtain ⟨d0, h0, rfl⟩ := hmem d hd
  have hm := h.each d0 h0
  refine ⟨by rw [hid d0 h0]; exact hm.id, by rw [hquota d0 h0]; exact hm.quota, hfiles d0 h0, by rw [hkind d0 h0]; exact hm.kinds, fun e => ?_, fun e => ?_⟩
  ·rw [hkind d0 h0] at e
   obtain ⟨o, ho, hoi, hok⟩ := hsnap d0 h0 e
   exact ⟨by rw [hquota d0 h0]; exact (hm.snap e).1, f o, List.mem_map.2 ⟨o, ho, rfl⟩, by rw [hid o ho]; exact hoi, by rw [hkind o ho]; exact hok⟩
  ·rw [hkind d0 h0] at e
   rcases hlive d0 h0 e with h1 | ⟨o, ho, hoi, hok⟩
   ·exact .inl h1
   ·exact .inr ⟨f o, List.mem_map.2 ⟨o, ho, rfl⟩, by rw [hid o ho]; exact hoi, by rw [hkind o ho]; exact hok⟩
 ·obtain ⟨d0, h0, rfl⟩ := hmem d hd
  obtain ⟨o0, h1, rfl⟩ := hmem o ho
  rw [hid d0 h0, hid o0 h1]
  rw [hid o0 h1] at e
  exact hr d0 h0 o0 h1 e
theorem set_map {l : List Dset} (h : MayL l) {k : Nat} (hk : k < l.length) (g : Dset → Dset) : l.set k (g (l.getD k default)) = l.map fun d => if d.id = (l.getD k default).id then g d else d := by
 apply List.ext_getElem?
 intro j
 rw [List.getElem?_set, List.getElem?_map]
 by_cases hjl : j < l.length
 ·have hj : l[j] = l.getD j default := by rw [List.getD_eq_getElem?_getD, List.getElem?_eq_getElem hjl]; rfl
  rw [List.getElem?_eq_getElem hjl, Option.map_some, hj]
  by_cases hkj : k = j
  ·subst hkj; rw [if_pos rfl, if_pos hk, if_pos rfl]
  ·rw [if_neg hkj, if_neg fun e => hkj (h.inj hk hjl e.symm)]
 ·rw [List.getElem?_eq_none (by omega)]
  by_cases hkj : k = j
  ·omega
  ·rw [if_neg hkj]; rfl
theorem backA_may {l : List Dset} (h : MayL l) (i j : Int) : MayL (backA l i j).1 := by
 unfold backA
 split
 ·exact h
 ·rename_i h1
  rcases find_of (l := l) (i := i) with ⟨e, _⟩ | ⟨k, e, hk, hid, _⟩
  ·omega
  rcases find_of (l := l) (i := j) with ⟨e', _⟩ | ⟨m, e', hm, hid', _⟩
  ·omega
  rw [e, e', Int.toNat_natCast, Int.toNat_natCast]
  simp only
  split
  ·exact h
  ·split
   ·exact h
   ·show MayL (l.set k _)
    rw [set_map h hk (fun d => { d with files := (l.getD m default).files })]
    obtain ⟨r, hr⟩ := h.tree
    have hfm := (h.each _ (dgetD_mem hm)).files
    refine h.map _ (fun d _ => by split <;> rfl) (fun d _ => by split <;> rfl) (fun d _ => by split <;> rfl) (fun d hd => ?_) (fun d hd e => ?_) (fun d hd e => ?_) r (fun d hd o ho e => ?_)
    ·split
     ·exact hfm
     ·exact (h.each d hd).files
    ·have := ((h.each d hd).snap e).2
     split <;> exact this
    ·have := (h.each d hd).live e
     split <;> exact this
    ·have : o.id = d.origin := by
      rw [e]; split <;> rfl
     exact hr d hd o ho this
theorem backA_same {l : List Dset} {i j : Int} (h : (backA l i j).2 ≠ 0) : (backA l i j).1 = l := by
 unfold backA at h ⊢
 split
 ·rfl
 ·rename_i h1
  rw [if_neg h1] at h
  simp only at h ⊢
  split
  ·rfl
  ·rename_i h2
   rw [if_neg h2] at h
   split
   ·rfl
   ·rename_i h3; rw [if_neg h3] at h; exact absurd rfl h
theorem isA_true {l : List Dset} {i k : Int} (h : isA l i k = true) : ∃ o : Nat, findA l i = o ∧ o < l.length ∧ (l.getD o default).id = i ∧ (l.getD o default).kind = k := by
 unfold isA at h
 rw [Bool.and_eq_true] at h
 have h1 := of_decide_eq_true h.1
 have h2 := of_decide_eq_true h.2
 rcases find_of (l := l) (i := i) with ⟨e, _⟩ | ⟨o, e, ho, hoi, _⟩
 ·omega
 ·rw [e, Int.toNat_natCast] at h2
  exact ⟨o, e, ho, hoi, h2⟩
theorem turnA_live {was sid i : Int} {x : Dset} (h : x.kind = 1) : turnA was sid i x = x := by
 unfold turnA
 rw [if_neg fun hh => by omega]
theorem turnA_re {was sid i : Int} {x : Dset} (v : Int) (h : x.kind = 1) : turnA was sid i (reorig x v) = reorig x v := turnA_live (x := reorig x v) h
def proF (c o s x : Dset) : Dset := if x.id = c.id then reorig x o.origin else if x.id = o.id then reorig x s.id else turnA s.origin s.id c.id x
theorem promoted_map {l : List Dset} (h : MayL l) {ki ks ko : Nat} (hi : ki < l.length) (ho : ko < l.length) (hne : ki ≠ ko) (hc1 : (l.getD ki default).kind = 1) (ho1 : (l.getD ko default).kind = 1) :
 promoted l (l.getD ki default).id ki ks ko = l.map (proF (l.getD ki default) (l.getD ko default) (l.getD ks default)) := by
 unfold promoted
 apply List.ext_getElem?
 intro j
 simp only [List.getElem?_map, List.getElem?_set, List.length_set]
 by_cases hjl : j < l.length
 ·have hj : l[j] = l.getD j default := by rw [List.getD_eq_getElem?_getD, List.getElem?_eq_getElem hjl]; rfl
  rw [List.getElem?_eq_getElem hjl, Option.map_some, hj]
  unfold proF
  by_cases h1 : ko = j
  ·subst h1
   have e1 : (l.set ki (reorig (l.getD ki default) (l.getD ko default).origin)).getD ko default = l.getD ko default := by
    rw [List.getD_eq_getElem?_getD, List.getElem?_set_ne hne, ← List.getD_eq_getElem?_getD]
   rw [if_pos rfl, if_pos ho, e1, if_neg fun e => hne (h.inj hi ho e.symm), if_pos rfl, Option.map_some, turnA_re _ ho1]
  ·rw [if_neg h1]
   by_cases h2 : ki = j
   ·subst h2
    rw [if_pos rfl, if_pos hi, if_pos rfl, Option.map_some, turnA_re _ hc1]
   ·rw [if_neg h2, if_neg fun e => h2 (h.inj hi hjl e.symm), if_neg fun e => h1 (h.inj ho hjl e.symm)]
    rfl
 ·rw [List.getElem?_eq_none (by omega)]
  by_cases h1 : ko = j
  ·omega
  ·by_cases h2 : ki = j
   ·omega
   ·rw [if_neg h1, if_neg h2]; rfl
theorem proF_may {l : List Dset} (h : MayL l) {c o s : Dset} (hc : c ∈ l) (ho : o ∈ l) (hs : s ∈ l) (hck : c.kind = 1) (hok : o.kind = 1) (hsk : s.kind = 2) (hcs : c.origin = s.id) (hso : s.origin = o.id) : MayL (l.map (proF c o s)) := by
 obtain ⟨r, hr⟩ := h.tree
 have r1 : r o.id < r s.id := hr s hs o ho hso.symm
 have r2 : r s.id < r c.id := hr c hc s hs hcs.symm
 have tsplit : ∀ d : Dset, (d.kind = 2 ∧ d.origin = s.origin ∧ d.id ≤ s.id ∧ turnA s.origin s.id c.id d = ⟨d.id, d.kind, c.id, d.quota, d.files⟩) ∨ (¬ (d.kind = 2 ∧ d.origin = s.origin ∧ d.id ≤ s.id) ∧ turnA s.origin s.id c.id d = d) := fun d => by
  unfold turnA
  by_cases hh : d.kind = 2 ∧ d.origin = s.origin ∧ d.id ≤ s.id
  ·left; rw [if_pos hh]; exact ⟨hh.1, hh.2.1, hh.2.2, rfl⟩
  ·right; rw [if_neg hh]; exact ⟨hh, rfl⟩
 have hF : ∀ d ∈ l, (proF c o s d).id = d.id ∧ (proF c o s d).kind = d.kind ∧ (proF c o s d).quota = d.quota ∧ (proF c o s d).files = d.files := fun d hd => by
  unfold proF
  split
  ·exact ⟨rfl, rfl, rfl, rfl⟩
  ·split
   ·exact ⟨rfl, rfl, rfl, rfl⟩
   ·rcases tsplit d with ⟨_, _, _, e⟩ | ⟨_, e⟩ <;> rw [e] <;> exact ⟨rfl, rfl, rfl, rfl⟩
 have hO : ∀ d ∈ l, (d = c ∧ (proF c o s d).origin = o.origin) ∨ (d = o ∧ d ≠ c ∧ (proF c o s d).origin = s.id) ∨ (d ≠ c ∧ d ≠ o ∧ (d.kind = 2 ∧ d.origin = s.origin ∧ d.id ≤ s.id) ∧ (proF c o s d).origin = c.id) ∨ (d ≠ c ∧ d ≠ o ∧ ¬ (d.kind = 2 ∧ d.origin = s.origin ∧ d.id ≤ s.id) ∧ (proF c o s d).origin = d.origin) := fun d hd => by
  unfold proF
  by_cases h1 : d.id = c.id
  ·left; rw [if_pos h1]; exact ⟨h.inj' hd hc h1, rfl⟩
  ·have n1 : d ≠ c := fun e => h1 (by rw [e])
   rw [if_neg h1]
   by_cases h2 : d.id = o.id
   ·right; left; rw [if_pos h2]; exact ⟨h.inj' hd ho h2, n1, rfl⟩
   ·have n2 : d ≠ o := fun e => h2 (by rw [e])
    rw [if_neg h2]
    right; right
    rcases tsplit d with ⟨e1, e2, e3, e⟩ | ⟨e1, e⟩
    ·left; rw [e]; exact ⟨n1, n2, ⟨e1, e2, e3⟩, rfl⟩
    ·right; rw [e]; exact ⟨n1, n2, e1, rfl⟩
 have hsT : s.kind = 2 ∧ s.origin = s.origin ∧ s.id ≤ s.id := ⟨hsk, rfl, Int.le_refl _⟩
 have rT : ∀ d ∈ l, (d.kind = 2 ∧ d.origin = s.origin ∧ d.id ≤ s.id) → r o.id < r d.id := fun d hd e => hr d hd o ho (by rw [e.2.1, hso])
 let R : Dset → Nat := fun d => if d = c then r o.id else if (d.kind = 2 ∧ d.origin = s.origin ∧ d.id ≤ s.id) then r o.id + 1 else if d = o then r o.id + 2 else if r o.id < r d.id then r d.id + 4 else r d.id
 have hR : ∀ d ∈ l, ((getA l d.id).map R).getD 0 = R d := fun d hd => by
  rw [h.find hd]; rfl
 have hco : c ≠ o := fun e => by rw [e] at r2; omega
 have hcT : ¬ (c.kind = 2 ∧ c.origin = s.origin ∧ c.id ≤ s.id) := fun e => by omega
 have hoT : ¬ (o.kind = 2 ∧ o.origin = s.origin ∧ o.id ≤ s.id) := fun e => by omega
 refine h.map _ (fun d hd => (hF d hd).1) (fun d hd => (hF d hd).2.1) (fun d hd => (hF d hd).2.2.1) (fun d hd => by rw [(hF d hd).2.2.2]; exact (h.each d hd).files) (fun d hd e => ?_) (fun d hd e => ?_) (fun i => ((getA l i).map R).getD 0) (fun d hd p hp e => ?_)
 ·rcases hO d hd with ⟨rfl, _⟩ | ⟨rfl, _, _⟩ | ⟨_, _, _, e2⟩ | ⟨_, _, _, e2⟩
  ·omega
  ·omega
  ·exact ⟨c, hc, e2.symm, hck⟩
  ·rw [e2]; exact ((h.each d hd).snap e).2
 ·rcases hO d hd with ⟨rfl, e2⟩ | ⟨rfl, _, e2⟩ | ⟨_, _, e3, _⟩ | ⟨_, _, _, e2⟩
  ·rw [e2]; exact (h.each o ho).live hok
  ·rw [e2]; exact .inr ⟨s, hs, rfl, hsk⟩
  ·omega
  ·rw [e2]; exact (h.each d hd).live e
 ·rw [hR d hd, hR p hp]
  have Rc : R c = r o.id := if_pos rfl
  have Ro : R o = r o.id + 2 := by show (if o = c then _ else _) = _; rw [if_neg hco.symm, if_neg hoT, if_pos rfl]
  have RT : ∀ d, d ≠ c → (d.kind = 2 ∧ d.origin = s.origin ∧ d.id ≤ s.id) → R d = r o.id + 1 := fun d h1 h2 => by show (if d = c then _ else _) = _; rw [if_neg h1, if_pos h2]
  have RE : ∀ d, d ≠ c → ¬ (d.kind = 2 ∧ d.origin = s.origin ∧ d.id ≤ s.id) → d ≠ o → R d = if r o.id < r d.id then r d.id + 4 else r d.id := fun d h1 h2 h3 => by show (if d = c then _ else _) = _; rw [if_neg h1, if_neg h2, if_neg h3]
  have hsc : s ≠ c := fun e => by rw [e] at hsk; omega
  rcases hO d hd with ⟨rfl, e2⟩ | ⟨rfl, _, e2⟩ | ⟨n1, _, e3, e2⟩ | ⟨n1, n2, n3, e2⟩
  ·have hpo : p.id = o.origin := e.trans e2
   have r3 := hr o ho p hp hpo
   have hpc : p ≠ d := fun e => by rw [e] at r3; omega
   have hpo : p ≠ o := fun e => by rw [e] at r3; omega
   have hpT : ¬ (p.kind = 2 ∧ p.origin = s.origin ∧ p.id ≤ s.id) := fun e => by have := rT p hp e; omega
   rw [Rc, RE p hpc hpT hpo, if_neg (by omega)]
   exact r3
  ·have hps : p = s := h.inj' hp hs (e.trans e2)
   rw [hps, Ro, RT s hsc hsT]; omega
  ·have hpc : p = c := h.inj' hp hc (e.trans e2)
   rw [hpc, Rc, RT d n1 e3]; omega
  ·have r3 := hr d hd p hp (e.trans e2)
   rw [RE d n1 n3 n2]
   by_cases p1 : p = c
   ·rw [p1] at r3
    rw [p1, Rc, if_pos (by omega)]; omega
   ·by_cases p2 : p.kind = 2 ∧ p.origin = s.origin ∧ p.id ≤ s.id
    ·have := rT p hp p2
     rw [RT p p1 p2, if_pos (by omega)]; omega
    ·by_cases p3 : p = o
     ·rw [p3] at r3
      rw [p3, Ro, if_pos r3]; omega
     ·rw [RE p p1 p2 p3]
      by_cases p4 : r o.id < r p.id
      ·rw [if_pos p4, if_pos (by omega)]; omega
      ·rw [if_neg p4]; split <;> omega
theorem promoteA_may {l : List Dset} (h : MayL l) (i : Int) : MayL (promoteA l i).1 := by
 unfold promoteA
 split
 ·exact h
 ·rename_i h1
  rcases find_of (l := l) (i := i) with ⟨e, _⟩ | ⟨k, e, hk, hid, _⟩
  ·omega
  rw [e, Int.toNat_natCast]
  simp only
  split
  ·exact h
  ·rename_i h2
   split
   ·exact h
   ·rename_i h3
    have hk1 : (l.getD k default).kind = 1 := Classical.byContradiction fun hh => h2 (.inl hh)
    rcases find_of (l := l) (i := (l.getD k default).origin) with ⟨e', _⟩ | ⟨m, e', hm, hid', _⟩
    ·exact absurd (.inl (by omega)) h3
    rw [e', Int.toNat_natCast] at h3 ⊢
    have h4 : isA l (l.getD m default).origin 1 = true := by
     cases hh : isA l (l.getD m default).origin 1
     ·exact absurd (.inr hh) h3
     ·rfl
    obtain ⟨o, e2, ho, hoi, hok⟩ := isA_true h4
    rw [e2, Int.toNat_natCast]
    have hms : (l.getD m default).kind = 2 := by
     rcases (h.each _ (dgetD_mem hk)).live hk1 with h5 | ⟨x, hx, hxi, hxk⟩
     ·exact absurd (.inr h5) h2
     ·have : x = l.getD m default := h.inj' hx (dgetD_mem hm) (by omega)
      rw [← this]; exact hxk
    have hne : k ≠ o := by
     intro hko
     obtain ⟨r, hr⟩ := h.tree
     have r1 := hr _ (dgetD_mem hm) _ (dgetD_mem ho) hoi
     have r2 := hr _ (dgetD_mem hk) _ (dgetD_mem hm) hid'
     rw [← hko] at r1
     omega
    show MayL (promoted l i k m o)
    rw [← hid, promoted_map h hk ho hne hk1 hok]
    exact proF_may h (dgetD_mem hk) (dgetD_mem ho) (dgetD_mem hm) hk1 hok hms hid'.symm hoi.symm
theorem promoteA_same {l : List Dset} {i : Int} (h : (promoteA l i).2 ≠ 0) : (promoteA l i).1 = l := by
 unfold promoteA at h ⊢
 split
 ·rfl
 ·rename_i h1
  rw [if_neg h1] at h
  simp only at h ⊢
  split
  ·rfl
  ·rename_i h2
   rw [if_neg h2] at h
   split
   ·rfl
   ·rename_i h3; rw [if_neg h3] at h; exact absurd rfl h
end Go.Proofs.YtemjlopoffjmpaaGreat.Abs
set_option linter.unusedSimpArgs false
set_option linter.unusedVariables false
namespace Go.Proofs.YtemjlopoffjmpaaGreat.Abs
open Go Go.Proofs
theorem rused0 (s : List Node) (hs : s.length ≤ 1000000) : C Tryz.prog 20 [aset s] [] (fun x _ => x = .int .i64 (used s)) := by
 refine C_body d20 rfl (WT_ok ?_)
 unfold c20
 simp only [aset, wk, iaddrV_map, seval]
 refine WT_loop (W_loop (fun n fr H' => ∃ i : Nat, i ≤ s.length ∧ n = s.length - i ∧ H' = [] ∧ fr = [.fz (s.map pnode), .top, .int .i64 0, .int .i64 (used (s.take i)), .int .i64 i] ++ List.replicate 15 .top) s.length ⟨0, by omega, rfl, rfl, rfl⟩ ?_)
 rintro n fr H' ⟨i, hi, rfl, rfl, rfl⟩
 refine WT_ok ?_
 simp only [wk, iaddrV_map, seval]
 refine guard_both ?_ ?_ <;> intro h <;> simp only [hy] at h <;> simp only [h, wk, iaddrV_map, seval]
 ·have hil : i < s.length := by omega
  refine ⟨⟨by omega, rfl⟩, ?_⟩
  simp only [pnode, wk, iaddrV_map, seval]
  refine CT_ok (count_spec _ _) ?_
  rintro _ _ ⟨rfl, rfl⟩
  have hb := usedA_le countA countA_le (s.take i)
  have hb2 := countA_le (s.getD i default).body
  rw [List.length_take] at hb
  have w1 : IntKind.i64.wrap ((used (s.take i) : Int) + (countA (s.getD i default).body : Int)) = (used (s.take i) : Int) + (countA (s.getD i default).body : Int) := IntWalk.i64_in _ (by unfold used; omega)
  have w2 : IntKind.i64.wrap ((i : Int) + 1) = (i : Int) + 1 := IntWalk.i64_in _ (by omega)
  simp only [w1, w2, wk, iaddrV_map, seval]
  refine QLoop_wk (n' := s.length - (i + 1)) (by omega) ⟨i + 1, by omega, rfl, rfl, rfl⟩ (Wk_clear ?_)
  simp only [renL, ren, upTo_zero, Tops_top, Tops_same, Tops_nil, used, usedA_take countA s i hil, Int.natCast_add, Int.natCast_one, List.replicate_succ, List.replicate_zero, List.cons_append, List.nil_append]
 ·have : i = s.length := by omega
  subst this
  rw [List.take_length]
theorem rused (s : List Node) (hs : s.length ≤ 1000000) (H : AH) : C Tryz.prog 20 [aset s] H (fun x H' => x = .int .i64 (used s) ∧ H' = H) :=
 C_flat (K0 := fun x _ => x = .int .i64 (used s)) (rused0 s hs) (by rintro x _ rfl; exact ⟨rfl, rfl, rfl⟩)
theorem SET_pure {P : Program} {f : FuncId} {args : List Opd} {d : Option Nat} {c : Nat} {fr : List AV} {H : AH} {K : List Loc → List Loc → Nat → List AV → AH → Prop} {t} {vs : List AV} {x : AV} (ha : args.map (evalA fr) = vs) (hb : bareL vs = true) (hx : bare x = true)
 (h : C P f vs [] (fun y G => y = x ∧ G = [])) (hc : c ≤ H.length) (hk : K [] [] c (setA fr d x) H) : SET P (.call f args) d c fr H K t := by
 refine ⟨[], 0, x, [], List.nodup_nil, by simp, by omega, rfl, ?_, ?_⟩
 ·rw [ha, renL_bare _ _ hb]; exact h
 ·simp only [List.nil_append, List.range'_zero, List.map_nil, List.append_nil, Nat.add_zero]
  rw [ren_bare _ _ hx]
  exact hk
theorem CFT_pure {P : Program} {f : FuncId} {args : List AV} {c : Nat} {H : AH} {late : List Loc → List Loc → Prop} {K : List Nat → Nat → AV → AH → Prop} {t} {x : AV} (hb : bareL args = true) (hx : bare x = true)
 (h : C P f args [] (fun y G => y = x ∧ G = [])) (hc : c ≤ H.length) (hk : K [] c x H) : CFT P f args c H late K t := by
 refine .inl ⟨[], 0, x, [], List.nodup_nil, by simp, by omega, rfl, ?_, ?_⟩
 ·rw [renL_bare _ _ hb]; exact h
 ·simp only [List.nil_append, List.range'_zero, Nat.add_zero]
  rw [ren_bare _ _ hx]
  exact hk
theorem KWk_then {K : AV → AH → Prop} {x x' : AV} {H H' : AH} (h : Wk 0 [x] H [x'] H') (hk : KWk 0 K x' H') : KWk 0 K x H := by
 obtain ⟨y, G, h2, h3⟩ := hk
 exact ⟨y, G, h.trans h2, h3⟩
theorem frz_cell (r : Nat) (es : List (List PV)) (d : Dset) : frzL r es (cellD d) = cellD d := by simp [frzL, frz, cellD, aset]
theorem map_frz (r : Nat) (es : List (List PV)) (l : List Dset) : (l.map cellD).map (frzL r es) = l.map cellD := by
 rw [List.map_map]
 apply List.map_congr_left
 intro d _
 exact frz_cell r es d
theorem KWk_files (l : List Dset) (k : Nat) (d : Dset) (s : List Node) (o0 : AObj) :
 KWk 0 (fun y H' => y = outA (l.set k { d with files := s }, 0) ∧ H' = []) (.tuple [.own 1 5 0 l.length l.length, .int .i64 0])
  [some o0, some ((l.map cellD).set k [.int .i64 d.id, .int .i64 d.kind, .int .i64 d.origin, .int .i64 d.quota, .own 2 5 0 s.length s.length]), some ((s.map pnode).map fun e => e.map emb)] := by
 have h := Wk_freeze (n0 := 0) (fr := [.tuple [.own 1 5 0 l.length l.length, .int .i64 0]]) (H := [some o0, some ((l.map cellD).set k [.int .i64 d.id, .int .i64 d.kind, .int .i64 d.origin, .int .i64 d.quota, .own 2 5 0 s.length s.length]), some ((s.map pnode).map fun e => e.map emb)]) 2 (s.map pnode) rfl
 have e : frzL 2 (s.map pnode) [.int .i64 d.id, .int .i64 d.kind, .int .i64 d.origin, .int .i64 d.quota, .own 2 5 0 s.length s.length] = cellD { d with files := s } := by
  simp only [frzL, frz, cellD, aset, if_true, List.length_map, Nat.zero_add, Nat.le_refl, and_self, List.drop_zero]
  rw [List.take_of_length_le (by simp)]
 refine KWk_then h (KWk_sets 1 (l.set k { d with files := s }) 0 _ (by simp) ?_ ⟨rfl, rfl⟩)
 simp only [mapH, List.set_cons_succ, List.set_cons_zero, List.map_cons, List.map_nil, Option.map_some, Option.map_none, List.map_set, map_frz, e]
 rfl
def filesA (l : List Dset) (i : Int) (s : List Node) : List Dset × Int := match getA l i with
 | none => (l, 2)
 | some d => if d.kind = 2 then (l, 11) else if 0 < d.quota ∧ d.quota < used s ∧ used d.files < used s then (l, 9) else (l.set (findA l i).toNat { d with files := s }, 0)
theorem filesA0 (l : List Dset) (hl : Short l) (i : Int) (s : List Node) (hs : s.length ≤ 1000000) :
 C Tryz.prog 17 [asets l, .int .i64 i, aset s] [] (fun y H' => y = outA (filesA l i s) ∧ H' = []) := by
 have hl1 := hl.1
 refine C_body' d17 rfl (WT_ok ?_)
 unfold c17
 simp only [lay, wk3, wk, iaddrV_map, seval]
 refine CT_ok (rgetL l hl1 i _) ?_
 rintro _ _ ⟨rfl, rfl⟩
 cases hg : getA l i with
 | none =>
   have e : filesA l i s = (l, 2) := by unfold filesA; rw [hg]
   rw [e]
   simp only [getV, lay, wk3, wk, iaddrV_map, seval]
   exact KWk_bare (by simp [bare, bareL, asets]) ⟨rfl, rfl⟩
 | some d =>
   have hd := hl.2 d (getA_mem hg).1
   by_cases h2 : d.kind = 2
   ·have e : filesA l i s = (l, 11) := by unfold filesA; rw [hg]; exact if_pos h2
    rw [e]
    simp only [getV, h2, cellD, aset, lay, wk3, wk, iaddrV_map, seval]
    exact KWk_bare (by simp [bare, bareL, asets]) ⟨rfl, rfl⟩
   have hB : filesA l i s = if 0 < d.quota ∧ d.quota < used s ∧ used d.files < used s then (l, 9) else (l.set (findA l i).toNat { d with files := s }, 0) := by
    unfold filesA; rw [hg]; exact if_neg h2
   obtain ⟨k, ek, hk, hdk⟩ : ∃ k : Nat, findA l i = k ∧ k < l.length ∧ l.getD k default = d := by
    unfold getA at hg
    rcases find_of (l := l) (i := i) with ⟨e, _⟩ | ⟨k, e, hk, _, _⟩
    ·rw [e] at hg; cases hg
    ·rw [e, if_pos (by omega), Int.toNat_natCast] at hg
     exact ⟨k, e, hk, Option.some.inj hg⟩
   rw [ek, Int.toNat_natCast] at hB
   have hc : (l.map cellD)[k]? = some (cellD d) := by rw [cell_at hk, hdk]
   have k0 : (0 : Int) ≤ k := by omega
   have k1 : (k : Int) < l.length := by omega
   by_cases h3 : 0 < d.quota
   case neg =>
    rw [if_neg (fun h => h3 h.1)] at hB
    simp only [getV, h2, cellD, aset, lay, wk3, wk, iaddrV_map, seval]
    refine WT_drawE ?_
    simp only [h3, lay, wk3, wk, iaddrV_map, seval]
    refine WDT_more 0 ?_
    simp only [h3, lay, wk3, wk, iaddrV_map, seval]
    refine ⟨by rfl, ?_⟩
    refine WDT_more 0 ?_
    simp only [h3, lay, wk3, wk, iaddrV_map, seval]
    refine ⟨by rfl, ?_⟩
    simp only [asets, cellsD, rows5D, List.length_map, lay, wk3, wk, iaddrV_map, seval]
    refine ⟨⟨by omega, by omega⟩, ?_⟩
    refine CT_ok (rat85 l hl1 i _) ?_
    rintro _ _ ⟨rfl, rfl⟩
    simp only [ek, k0, k1, hc, cellD, aset, lay, wk3, wk, iaddrV_map, seval]
    refine ⟨⟨rows5 s, by omega, by omega⟩, ?_⟩
    rw [hB]
    exact KWk_files l k d s _
   simp only [getV, h2, cellD, aset, lay, wk3, wk, iaddrV_map, seval]
   refine WT_drawE ?_
   simp only [h3, lay, wk3, wk, iaddrV_map, seval]
   refine WDT_more 0 ?_
   simp only [h3, lay, wk3, wk, iaddrV_map, seval]
   refine SET_pure (x := .int .i64 (used s)) rfl rfl rfl (rused s hs []) (by simp) ?_
   simp only [lay, wk3, wk, iaddrV_map, seval]
   refine ⟨by rfl, ?_⟩
   by_cases h4 : d.quota < (used s : Int)
   case neg =>
    rw [if_neg (fun h => h4 h.2.1)] at hB
    simp only [h3, h4, lay, wk3, wk, iaddrV_map, seval]
    refine WDT_more 0 ?_
    simp only [h3, h4, lay, wk3, wk, iaddrV_map, seval]
    refine ⟨by rfl, ?_⟩
    simp only [asets, cellsD, rows5D, List.length_map, lay, wk3, wk, iaddrV_map, seval]
    refine ⟨⟨by omega, by omega⟩, ?_⟩
    refine CT_ok (rat85 l hl1 i _) ?_
    rintro _ _ ⟨rfl, rfl⟩
    simp only [ek, k0, k1, hc, cellD, aset, lay, wk3, wk, iaddrV_map, seval]
    refine ⟨⟨rows5 s, by omega, by omega⟩, ?_⟩
    rw [hB]
    exact KWk_files l k d s _
   simp only [h3, h4, lay, wk3, wk, iaddrV_map, seval]
   refine WDT_more 0 ?_
   simp only [h3, h4, lay, wk3, wk, iaddrV_map, seval]
   refine SET_pure (x := .int .i64 (used s)) rfl rfl rfl (rused s hs []) (by simp) ?_
   simp only [lay, wk3, wk, iaddrV_map, seval]
   refine ⟨by rfl, ?_⟩
   refine CT_ok (rused d.files hd _) ?_
   rintro _ _ ⟨rfl, rfl⟩
   by_cases h5 : (used d.files : Int) < (used s : Int)
   case neg =>
    rw [if_neg (fun h => h5 (by omega))] at hB
    simp only [h5, lay, wk3, wk, iaddrV_map, seval]
    simp only [asets, cellsD, rows5D, List.length_map, lay, wk3, wk, iaddrV_map, seval]
    refine ⟨⟨by omega, by omega⟩, ?_⟩
    refine CT_ok (rat85 l hl1 i _) ?_
    rintro _ _ ⟨rfl, rfl⟩
    simp only [ek, k0, k1, hc, cellD, aset, lay, wk3, wk, iaddrV_map, seval]
    refine ⟨⟨rows5 s, by omega, by omega⟩, ?_⟩
    rw [hB]
    exact KWk_files l k d s _
   rw [if_pos ⟨h3, h4, by omega⟩] at hB
   simp only [h5, hB, lay, wk3, wk, iaddrV_map, seval]
   exact KWk_bare (by simp [bare, bareL, asets]) ⟨rfl, rfl⟩
end Go.Proofs.YtemjlopoffjmpaaGreat.Abs
set_option linter.unusedSimpArgs false
set_option linter.unusedVariables false
namespace Go.Proofs.YtemjlopoffjmpaaGreat.Abs
open Go Go.Proofs
theorem getA_of {l : List Dset} {i : Int} {k : Nat} (h : findA l i = k) : getA l i = some (l.getD k default) := by
 unfold getA
 rw [h, if_pos (by omega), Int.toNat_natCast]
theorem getA_no {l : List Dset} {i : Int} (h : findA l i = -1) : getA l i = none := by
 unfold getA
 rw [h, if_neg (by decide)]
theorem renO_one (τ : Nat → Option Nat) (d : Dset) : renO τ [cellD d] = [cellD d] := renO_cells τ [d]
theorem rback0 (l : List Dset) (hl : Short l) (i j : Int) : C Tryz.prog 74 [asets l, .int .i64 i, .int .i64 j] [] (fun y H' => y = outA (backA l i j) ∧ H' = []) := by
 have hl1 := hl.1
 refine C_body' d74 rfl (WT_ok ?_)
 unfold c74
 simp only [lay, wk3, wk, iaddrV_map, seval]
 refine CT_ok (rgetL l hl1 i _) ?_
 rintro _ _ ⟨rfl, rfl⟩
 rcases find_of (l := l) (i := i) with ⟨e, _⟩ | ⟨k, e, hk, hid, _⟩
 ·have hA : backA l i j = (l, 2) := by unfold backA; rw [e]; exact if_pos (.inl (by decide))
  rw [getA_no e, hA]
  simp only [getV, lay, wk3, wk, iaddrV_map, seval]
  refine CT_ok (rgetL l hl1 j _) ?_
  rintro _ _ ⟨rfl, rfl⟩
  cases getA l j with
  | none =>
    simp only [getV, lay, wk3, wk, iaddrV_map, seval]
    exact KWk_bare (by simp [bare, bareL, asets]) ⟨rfl, rfl⟩
  | some s =>
    simp only [getV, cellD, aset, lay, wk3, wk, iaddrV_map, seval]
    exact KWk_bare (by simp [bare, bareL, asets]) ⟨rfl, rfl⟩
 rw [getA_of e]
 simp only [getV, cellD, aset, lay, wk3, wk, iaddrV_map, seval]
 refine CT_ok (rgetL l hl1 j _) ?_
 rintro _ _ ⟨rfl, rfl⟩
 rcases find_of (l := l) (i := j) with ⟨e', _⟩ | ⟨m, e', hm, hid', _⟩
 ·have hA : backA l i j = (l, 2) := by unfold backA; rw [e']; exact if_pos (.inr (by decide))
  rw [getA_no e', hA]
  simp only [getV, lay, wk3, wk, iaddrV_map, seval]
  exact KWk_bare (by simp [bare, bareL, asets]) ⟨rfl, rfl⟩
 rw [getA_of e']
 simp only [getV, cellD, aset, lay, wk3, wk, iaddrV_map, seval]
 have hB : backA l i j = if (l.getD k default).kind ≠ 1 ∨ (l.getD m default).kind ≠ 2 ∨ (l.getD m default).origin ≠ i then (l, 1) else if 0 ≤ idxA (laterA i j) l then (l, 10) else (l.set k { (l.getD k default) with files := (l.getD m default).files }, 0) := by
  unfold backA
  rw [e, e', if_neg (by omega), Int.toNat_natCast, Int.toNat_natCast]
 by_cases h1 : (l.getD k default).kind = 1
 case neg =>
  rw [if_pos (.inl h1)] at hB
  simp only [h1, hB, lay, wk3, wk, iaddrV_map, seval]
  exact KWk_bare (by simp [bare, bareL, asets]) ⟨rfl, rfl⟩
 by_cases h2 : (l.getD m default).kind = 2
 case neg =>
  rw [if_pos (.inr (.inl h2))] at hB
  simp only [h1, h2, hB, lay, wk3, wk, iaddrV_map, seval]
  exact KWk_bare (by simp [bare, bareL, asets]) ⟨rfl, rfl⟩
 by_cases h3 : (l.getD m default).origin = i
 case neg =>
  rw [if_pos (.inr (.inr h3))] at hB
  simp only [h1, h2, h3, hB, lay, wk3, wk, iaddrV_map, seval]
  exact KWk_bare (by simp [bare, bareL, asets]) ⟨rfl, rfl⟩
 rw [if_neg (fun hh => by rcases hh with hh | hh | hh <;> exact hh (by assumption))] at hB
 simp only [h1, h2, h3, lay, wk3, wk, iaddrV_map, seval]
 refine WT_loop (W_wk (fr' := [asets l, .int .i64 i, .int .i64 j, .top, .top, .top, .emp, .int .i64 0, .ptr 0 0 0 1, .bool true, .ptr 1 0 0 1, .bool true, .int .i64 0] ++ List.replicate 78 .top) (Wk_obj2 (renO_one _ ⟨(l.getD k default).id, 1, (l.getD k default).origin, (l.getD k default).quota, (l.getD k default).files⟩) (renO_one _ ⟨(l.getD m default).id, 2, i, (l.getD m default).quota, (l.getD m default).files⟩) ?_) (W_loop (fun n fr H' => ∃ x : Nat, x ≤ l.length ∧ n = l.length - x ∧ (∀ y, y < x → laterA i j (l.getD y default) = false) ∧ H' = [some [cellD ⟨(l.getD k default).id, 1, (l.getD k default).origin, (l.getD k default).quota, (l.getD k default).files⟩], some [cellD ⟨(l.getD m default).id, 2, i, (l.getD m default).quota, (l.getD m default).files⟩]] ∧
  fr = [asets l, .int .i64 i, .int .i64 j, .top, .top, .top, .emp, .int .i64 0, .ptr 0 0 0 1, .bool true, .ptr 1 0 0 1, .bool true, .int .i64 x] ++ List.replicate 78 .top) l.length ⟨0, by omega, rfl, fun y hy => by omega, rfl, rfl⟩ ?_))
 ·simp only [asets, upTo, renL, ren, List.replicate_succ, List.replicate_zero, List.cons_append, List.nil_append, Tops_top, Tops_same, Tops_nil, show (0 : Nat) < 2 by omega, show (1 : Nat) < 2 by omega, if_true]
 rintro n fr H' ⟨x, hx, rfl, hn, rfl, rfl⟩
 refine WT_ok ?_
 simp only [asets, lay, slicelV_own, slicelV_fz, onLive_some, RT_slicel, RE_slicel, slice3V_eq, room3_some, roomOf_own, roomOf_fz, RT_slice3, RT_calld, apI_some, clC_some, clearV_own, clearV_fz, wk3, wk, iaddrV_map, seval]
 refine guard_both ?_ ?_ <;> intro h <;> simp only [hy] at h
 ·have hx2 : x < l.length := by omega
  have w2 : IntKind.i64.wrap ((x : Int) + 1) = (x : Int) + 1 := IntWalk.i64_in _ (by omega)
  have h0 : (0 : Int) ≤ x := by omega
  have e5 : (pdset (l.getD x default)).length = 5 := rfl
  simp only [h, h0, e5, iaddr_dset, pdset, lay, slicelV_own, slicelV_fz, onLive_some, RT_slicel, RE_slicel, slice3V_eq, room3_some, roomOf_own, roomOf_fz, RT_slice3, RT_calld, apI_some, clC_some, clearV_own, clearV_fz, wk3, wk, iaddrV_map, seval]
  by_cases g1 : (l.getD x default).kind = 2
  case neg =>
   simp only [g1, w2, lay, slicelV_own, slicelV_fz, onLive_some, RT_slicel, RE_slicel, slice3V_eq, room3_some, roomOf_own, roomOf_fz, RT_slice3, RT_calld, apI_some, clC_some, clearV_own, clearV_fz, wk3, wk, iaddrV_map, seval]
   refine QLoop_go (n' := l.length - (x + 1)) (by omega) ⟨x + 1, by omega, rfl, fun y hy => ?_, rfl, rfl⟩ ?_
   ·rcases Nat.lt_or_ge y x with h' | h'
    ·exact hn y h'
    ·have : y = x := by omega
     subst this
     unfold laterA
     simp only [g1, decide_false, Bool.false_and, Bool.and_false, Bool.not_false, if_false]
   ·simp only [asets, List.replicate_succ, List.replicate_zero, List.cons_append, List.nil_append, Tops_top, Tops_same, Tops_nil, Int.natCast_add, Int.natCast_one]
  by_cases g2 : (l.getD x default).origin = i
  case neg =>
   simp only [g1, g2, h0, h, e5, iaddr_dset, pdset, w2, lay, slicelV_own, slicelV_fz, onLive_some, RT_slicel, RE_slicel, slice3V_eq, room3_some, roomOf_own, roomOf_fz, RT_slice3, RT_calld, apI_some, clC_some, clearV_own, clearV_fz, wk3, wk, iaddrV_map, seval]
   refine QLoop_go (n' := l.length - (x + 1)) (by omega) ⟨x + 1, by omega, rfl, fun y hy => ?_, rfl, rfl⟩ ?_
   ·rcases Nat.lt_or_ge y x with h' | h'
    ·exact hn y h'
    ·have : y = x := by omega
     subst this
     unfold laterA
     simp only [g2, decide_false, Bool.false_and, Bool.and_false, Bool.not_false, if_false]
   ·simp only [asets, List.replicate_succ, List.replicate_zero, List.cons_append, List.nil_append, Tops_top, Tops_same, Tops_nil, Int.natCast_add, Int.natCast_one]
  by_cases g3 : j < (l.getD x default).id
  case neg =>
   simp only [g1, g2, g3, h0, h, e5, iaddr_dset, pdset, w2, lay, slicelV_own, slicelV_fz, onLive_some, RT_slicel, RE_slicel, slice3V_eq, room3_some, roomOf_own, roomOf_fz, RT_slice3, RT_calld, apI_some, clC_some, clearV_own, clearV_fz, wk3, wk, iaddrV_map, seval]
   refine QLoop_go (n' := l.length - (x + 1)) (by omega) ⟨x + 1, by omega, rfl, fun y hy => ?_, rfl, rfl⟩ ?_
   ·rcases Nat.lt_or_ge y x with h' | h'
    ·exact hn y h'
    ·have : y = x := by omega
     subst this
     unfold laterA
     simp only [g3, decide_false, Bool.false_and, Bool.and_false, Bool.not_false, if_false]
   ·simp only [asets, List.replicate_succ, List.replicate_zero, List.cons_append, List.nil_append, Tops_top, Tops_same, Tops_nil, Int.natCast_add, Int.natCast_one]
  have hI : idxA (laterA i j) l = x := idxA_some hx2 (by unfold laterA; simp only [g1, g2, g3, decide_true, Bool.and_true]) hn
  rw [hI, if_pos (by omega)] at hB
  simp only [g1, g2, g3, h0, h, e5, iaddr_dset, pdset, hB, lay, slicelV_own, slicelV_fz, onLive_some, RT_slicel, RE_slicel, slice3V_eq, room3_some, roomOf_own, roomOf_fz, RT_slice3, RT_calld, apI_some, clC_some, clearV_own, clearV_fz, wk3, wk, iaddrV_map, seval]
  exact KWk_bare (by simp [bare, bareL]) ⟨rfl, rfl⟩
 ·have hI : idxA (laterA i j) l = -1 := idxA_none fun y hy => hn y (by omega)
  rw [hI, if_neg (by decide)] at hB
  simp only [h, cellsD, rows5D, lay, slicelV_own, slicelV_fz, onLive_some, RT_slicel, RE_slicel, slice3V_eq, room3_some, roomOf_own, roomOf_fz, RT_slice3, RT_calld, apI_some, clC_some, clearV_own, clearV_fz, wk3, wk, iaddrV_map, seval]
  refine ⟨⟨by omega, by omega⟩, ?_⟩
  refine WT_drawE ?_
  refine WDT_more 0 ?_
  simp only [cellD, aset, lay, slicelV_own, slicelV_fz, onLive_some, RT_slicel, RE_slicel, slice3V_eq, room3_some, roomOf_own, roomOf_fz, RT_slice3, RT_calld, apI_some, clC_some, clearV_own, clearV_fz, wk3, wk, iaddrV_map, seval]
  refine CFT_pure (x := .int .i64 (findA l i)) rfl rfl (rat85 l hl1 i []) (by simp) ?_
  have k0 : (0 : Int) ≤ k := by omega
  have k1 : (k : Int) < l.length := by omega
  have hc := cell_at hk
  simp only [e, k0, k1, hc, cellD, aset, lay, slicelV_own, slicelV_fz, onLive_some, RT_slicel, RE_slicel, slice3V_eq, room3_some, roomOf_own, roomOf_fz, RT_slice3, RT_calld, apI_some, clC_some, clearV_own, clearV_fz, wk3, wk, iaddrV_map, seval]
  refine ⟨by rfl, ?_⟩
  rw [hB]
  exact KWk_sets 2 (l.set k _) 0 _ (by simp) (by rw [List.map_set]; rfl) ⟨rfl, rfl⟩
end Go.Proofs.YtemjlopoffjmpaaGreat.Abs
set_option linter.unusedSimpArgs false
set_option linter.unusedVariables false
namespace Go.Proofs.YtemjlopoffjmpaaGreat.Abs
open Go Go.Proofs
def notA (i : Int) (d : Dset) : Bool := !decide (d.id = i)
def hgB (l : List Dset) (i : Int) : Bool := l.any fun d => decide (d.origin = i)
theorem take_filter (p : Dset → Bool) (l : List Dset) (k : Nat) (h : k < l.length) : (l.take (k + 1)).filter p = (l.take k).filter p ++ if p (l.getD k default) then [l.getD k default] else [] := by
 rw [List.take_add_one, List.getElem?_eq_getElem h, List.filter_append]
 simp only [List.getD_eq_getElem?_getD, List.getElem?_eq_getElem h, Option.getD_some, Option.toList_some, List.filter_cons, List.filter_nil]
theorem hgB_take (l : List Dset) (i : Int) (k : Nat) (h : k < l.length) : hgB (l.take (k + 1)) i = (hgB (l.take k) i || decide ((l.getD k default).origin = i)) := by
 unfold hgB
 rw [List.take_add_one, List.getElem?_eq_getElem h, List.any_append]
 simp only [List.getD_eq_getElem?_getD, List.getElem?_eq_getElem h, Option.getD_some, Option.toList_some, List.any_cons, List.any_nil, Bool.or_false]
def destR (l : List Dset) (i : Int) : List Dset × Int := match getA l i with
 | none => (l, 2)
 | some d => if hgB l i = true ∨ (d.kind = 1 ∧ livesA l = 1) then (l, 10) else (l.filter (notA i), 0)
theorem rdestroy0 (l : List Dset) (hl : Short l) (i : Int) : C Tryz.prog 75 [asets l, .int .i64 i] [] (fun y H' => y = outA (destR l i) ∧ H' = []) := by
 have hl1 := hl.1
 refine C_body' d75 rfl (WT_ok ?_)
 unfold c75
 simp only [lay, wk3, wk, iaddrV_map, seval]
 refine CT_ok (rgetL l hl1 i _) ?_
 rintro _ _ ⟨rfl, rfl⟩
 cases hg : getA l i with
 | none =>
   have hA : destR l i = (l, 2) := by unfold destR; rw [hg]
   rw [hA]
   simp only [getV, lay, wk3, wk, iaddrV_map, seval]
   exact KWk_bare (by simp [bare, bareL, asets]) ⟨rfl, rfl⟩
 | some d =>
 have hB : destR l i = if hgB l i = true ∨ (d.kind = 1 ∧ livesA l = 1) then (l, 10) else (l.filter (notA i), 0) := by unfold destR; rw [hg]
 simp only [getV, cellD, aset, lay, wk3, wk, iaddrV_map, seval]
 refine WT_loop (W_wk (fr' := [asets l, .int .i64 i, .top, .top, .emp, .int .i64 0, .ptr 0 0 0 1, .bool true, .int .i64 0, .bool false, .own 1 5 0 0 0, .int .i64 0] ++ List.replicate 59 .top) (H' := [some [cellD d], some []]) ((Wk_empAt 10 5 rfl).trans (Wk_tops ?_)) (W_loop (fun n fr H' => ∃ x : Nat, x ≤ l.length ∧ n = l.length - x ∧ H' = [some [cellD d], some (((l.take x).filter (notA i)).map cellD)] ∧
  fr = [asets l, .int .i64 i, .top, .top, .emp, .int .i64 0, .ptr 0 0 0 1, .bool true, .int .i64 (livesA (l.take x)), .bool (hgB (l.take x) i), .own 1 5 0 ((l.take x).filter (notA i)).length ((l.take x).filter (notA i)).length, .int .i64 x] ++ List.replicate 59 .top) l.length ⟨0, by omega, rfl, rfl, rfl⟩ ?_))
 ·simp only [asets, List.replicate_succ, List.replicate_zero, List.cons_append, List.nil_append, List.set_cons_succ, List.set_cons_zero, List.length_cons, List.length_nil, Nat.zero_add, Tops_top, Tops_same, Tops_nil]
 rintro n fr H' ⟨x, hx, rfl, rfl, rfl⟩
 refine WT_ok ?_
 simp only [asets, lay, slicelV_own, slicelV_fz, onLive_some, RT_slicel, RE_slicel, slice3V_eq, room3_some, roomOf_own, roomOf_fz, RT_slice3, RT_calld, apI_some, clC_some, clearV_own, clearV_fz, wk3, wk, iaddrV_map, seval]
 refine guard_both ?_ ?_ <;> intro h <;> simp only [hy] at h
 ·have hx2 : x < l.length := by omega
  have w2 : IntKind.i64.wrap ((x : Int) + 1) = (x : Int) + 1 := IntWalk.i64_in _ (by omega)
  have h0 : (0 : Int) ≤ x := by omega
  have e5 : (pdset (l.getD x default)).length = 5 := rfl
  have ht := livesA_take l x hx2
  have hu := hgB_take l i x hx2
  have hf := take_filter (notA i) l x hx2
  have hle := livesA_le (l.take x)
  have hfl := List.length_filter_le (notA i) (l.take x)
  have hle2 : (l.take x).length ≤ l.length := by simp; omega
  have w3 : IntKind.i64.wrap ((livesA (l.take x) : Int) + 1) = ((livesA (l.take x) + 1 : Nat) : Int) := by rw [IntWalk.i64_in _ (by omega)]; omega
  simp only [h, h0, e5, iaddr_dset, pdset, lay, slicelV_own, slicelV_fz, onLive_some, RT_slicel, RE_slicel, slice3V_eq, room3_some, roomOf_own, roomOf_fz, RT_slice3, RT_calld, apI_some, clC_some, clearV_own, clearV_fz, wk3, wk, iaddrV_map, seval]
  have ec : ∀ p : notA i (l.getD x default) = true, ((l.take (x + 1)).filter (notA i)).map cellD = ((l.take x).filter (notA i)).map cellD ++ [cellD (l.getD x default)] := fun p => by rw [hf, if_pos p, List.map_append]; rfl
  have en : ∀ p : ¬ notA i (l.getD x default) = true, (l.take (x + 1)).filter (notA i) = (l.take x).filter (notA i) := fun p => by rw [hf, if_neg p, List.append_nil]
  by_cases c1 : (l.getD x default).kind = 1
  ·rw [if_pos c1] at ht
   cases hb : hgB (l.take x) i
   ·rw [hb] at hu
    by_cases c2 : (l.getD x default).origin = i
    ·skip
     by_cases c3 : (l.getD x default).id = i
     ·have hno : ¬ notA i (l.getD x default) = true := by unfold notA; rw [c3]; simp
      rw [en hno] at hf
      simp only [h, h0, c1, hb, c3, w2, w3, e5, iaddr_dset, pdset, cellD, aset, c2, lay, slicelV_own, slicelV_fz, onLive_some, RT_slicel, RE_slicel, slice3V_eq, room3_some, roomOf_own, roomOf_fz, RT_slice3, RT_calld, apI_some, clC_some, clearV_own, clearV_fz, wk3, wk, iaddrV_map, seval]
      refine QLoop_wk (n' := l.length - (x + 1)) (by omega) ⟨x + 1, by omega, rfl, (by rw [en hno]), rfl⟩ (Wk_obj2 (renO_one _ d) (renO_cells _ ((l.take x).filter (notA i))) ?_)
      simp only [ht, hu, en hno, c2, renL, ren, asets, upTo, show (0 : Nat) < 2 by omega, show (1 : Nat) < 2 by omega, if_true, List.replicate_succ, List.replicate_zero, List.cons_append, List.nil_append, Tops_top, Tops_same, Tops_nil, Int.natCast_add, Int.natCast_one, List.length_append, List.length_cons, List.length_nil, Nat.zero_add, Bool.or_true, Bool.true_or, Bool.or_false, Bool.false_or, decide_true, decide_false]
     ·have hno : notA i (l.getD x default) = true := by unfold notA; rw [decide_eq_false c3]; rfl
      have ec2 := ec hno
      simp only [cellD, aset, c1, c2] at ec2
      simp only [h, h0, c1, hb, c3, w2, w3, e5, iaddr_dset, pdset, cellD, aset, c2, lay, slicelV_own, slicelV_fz, onLive_some, RT_slicel, RE_slicel, slice3V_eq, room3_some, roomOf_own, roomOf_fz, RT_slice3, RT_calld, apI_some, clC_some, clearV_own, clearV_fz, wk3, wk, iaddrV_map, seval]
      refine ⟨⟨by omega, by omega⟩, ?_⟩
      refine QLoop_wk (n' := l.length - (x + 1)) (by omega) ⟨x + 1, by omega, rfl, (by rw [ec2]), rfl⟩ (Wk_obj2 (renO_one _ d) (by have := renO_cells (upTo 2) ((l.take (x + 1)).filter (notA i)); rw [ec2] at this; exact this) ?_)
      rw [if_pos hno] at hf
      simp only [ht, hu, hf, c2, renL, ren, asets, upTo, show (0 : Nat) < 2 by omega, show (1 : Nat) < 2 by omega, if_true, List.replicate_succ, List.replicate_zero, List.cons_append, List.nil_append, Tops_top, Tops_same, Tops_nil, Int.natCast_add, Int.natCast_one, List.length_append, List.length_cons, List.length_nil, Nat.zero_add, Bool.or_true, Bool.true_or, Bool.or_false, Bool.false_or, decide_true, decide_false]
    ·skip
     by_cases c3 : (l.getD x default).id = i
     ·have hno : ¬ notA i (l.getD x default) = true := by unfold notA; rw [c3]; simp
      rw [en hno] at hf
      simp only [h, h0, c1, hb, c3, w2, w3, e5, iaddr_dset, pdset, cellD, aset, c2, lay, slicelV_own, slicelV_fz, onLive_some, RT_slicel, RE_slicel, slice3V_eq, room3_some, roomOf_own, roomOf_fz, RT_slice3, RT_calld, apI_some, clC_some, clearV_own, clearV_fz, wk3, wk, iaddrV_map, seval]
      refine QLoop_wk (n' := l.length - (x + 1)) (by omega) ⟨x + 1, by omega, rfl, (by rw [en hno]), rfl⟩ (Wk_obj2 (renO_one _ d) (renO_cells _ ((l.take x).filter (notA i))) ?_)
      simp only [ht, hu, en hno, c2, renL, ren, asets, upTo, show (0 : Nat) < 2 by omega, show (1 : Nat) < 2 by omega, if_true, List.replicate_succ, List.replicate_zero, List.cons_append, List.nil_append, Tops_top, Tops_same, Tops_nil, Int.natCast_add, Int.natCast_one, List.length_append, List.length_cons, List.length_nil, Nat.zero_add, Bool.or_true, Bool.true_or, Bool.or_false, Bool.false_or, decide_true, decide_false]
     ·have hno : notA i (l.getD x default) = true := by unfold notA; rw [decide_eq_false c3]; rfl
      have ec2 := ec hno
      simp only [cellD, aset, c1, c2] at ec2
      simp only [h, h0, c1, hb, c3, w2, w3, e5, iaddr_dset, pdset, cellD, aset, c2, lay, slicelV_own, slicelV_fz, onLive_some, RT_slicel, RE_slicel, slice3V_eq, room3_some, roomOf_own, roomOf_fz, RT_slice3, RT_calld, apI_some, clC_some, clearV_own, clearV_fz, wk3, wk, iaddrV_map, seval]
      refine ⟨⟨by omega, by omega⟩, ?_⟩
      refine QLoop_wk (n' := l.length - (x + 1)) (by omega) ⟨x + 1, by omega, rfl, (by rw [ec2]), rfl⟩ (Wk_obj2 (renO_one _ d) (by have := renO_cells (upTo 2) ((l.take (x + 1)).filter (notA i)); rw [ec2] at this; exact this) ?_)
      rw [if_pos hno] at hf
      simp only [ht, hu, hf, c2, renL, ren, asets, upTo, show (0 : Nat) < 2 by omega, show (1 : Nat) < 2 by omega, if_true, List.replicate_succ, List.replicate_zero, List.cons_append, List.nil_append, Tops_top, Tops_same, Tops_nil, Int.natCast_add, Int.natCast_one, List.length_append, List.length_cons, List.length_nil, Nat.zero_add, Bool.or_true, Bool.true_or, Bool.or_false, Bool.false_or, decide_true, decide_false]
   ·rw [hb] at hu
    by_cases c3 : (l.getD x default).id = i
    ·have hno : ¬ notA i (l.getD x default) = true := by unfold notA; rw [c3]; simp
     rw [en hno] at hf
     simp only [h, h0, c1, hb, c3, w2, w3, e5, iaddr_dset, pdset, cellD, aset, lay, slicelV_own, slicelV_fz, onLive_some, RT_slicel, RE_slicel, slice3V_eq, room3_some, roomOf_own, roomOf_fz, RT_slice3, RT_calld, apI_some, clC_some, clearV_own, clearV_fz, wk3, wk, iaddrV_map, seval]
     refine QLoop_wk (n' := l.length - (x + 1)) (by omega) ⟨x + 1, by omega, rfl, (by rw [en hno]), rfl⟩ (Wk_obj2 (renO_one _ d) (renO_cells _ ((l.take x).filter (notA i))) ?_)
     simp only [ht, hu, en hno, renL, ren, asets, upTo, show (0 : Nat) < 2 by omega, show (1 : Nat) < 2 by omega, if_true, List.replicate_succ, List.replicate_zero, List.cons_append, List.nil_append, Tops_top, Tops_same, Tops_nil, Int.natCast_add, Int.natCast_one, List.length_append, List.length_cons, List.length_nil, Nat.zero_add, Bool.or_true, Bool.true_or, Bool.or_false, Bool.false_or, decide_true, decide_false]
    ·have hno : notA i (l.getD x default) = true := by unfold notA; rw [decide_eq_false c3]; rfl
     have ec2 := ec hno
     simp only [cellD, aset, c1] at ec2
     simp only [h, h0, c1, hb, c3, w2, w3, e5, iaddr_dset, pdset, cellD, aset, lay, slicelV_own, slicelV_fz, onLive_some, RT_slicel, RE_slicel, slice3V_eq, room3_some, roomOf_own, roomOf_fz, RT_slice3, RT_calld, apI_some, clC_some, clearV_own, clearV_fz, wk3, wk, iaddrV_map, seval]
     refine ⟨⟨by omega, by omega⟩, ?_⟩
     refine QLoop_wk (n' := l.length - (x + 1)) (by omega) ⟨x + 1, by omega, rfl, (by rw [ec2]), rfl⟩ (Wk_obj2 (renO_one _ d) (by have := renO_cells (upTo 2) ((l.take (x + 1)).filter (notA i)); rw [ec2] at this; exact this) ?_)
     rw [if_pos hno] at hf
     simp only [ht, hu, hf, renL, ren, asets, upTo, show (0 : Nat) < 2 by omega, show (1 : Nat) < 2 by omega, if_true, List.replicate_succ, List.replicate_zero, List.cons_append, List.nil_append, Tops_top, Tops_same, Tops_nil, Int.natCast_add, Int.natCast_one, List.length_append, List.length_cons, List.length_nil, Nat.zero_add, Bool.or_true, Bool.true_or, Bool.or_false, Bool.false_or, decide_true, decide_false]
  ·replace ht : livesA (l.take (x + 1)) = livesA (l.take x) := by rw [ht, if_neg c1]; rfl
   cases hb : hgB (l.take x) i
   ·rw [hb] at hu
    by_cases c2 : (l.getD x default).origin = i
    ·skip
     by_cases c3 : (l.getD x default).id = i
     ·have hno : ¬ notA i (l.getD x default) = true := by unfold notA; rw [c3]; simp
      rw [en hno] at hf
      simp only [h, h0, c1, hb, c3, w2, w3, e5, iaddr_dset, pdset, cellD, aset, c2, lay, slicelV_own, slicelV_fz, onLive_some, RT_slicel, RE_slicel, slice3V_eq, room3_some, roomOf_own, roomOf_fz, RT_slice3, RT_calld, apI_some, clC_some, clearV_own, clearV_fz, wk3, wk, iaddrV_map, seval]
      refine QLoop_wk (n' := l.length - (x + 1)) (by omega) ⟨x + 1, by omega, rfl, (by rw [en hno]), rfl⟩ (Wk_obj2 (renO_one _ d) (renO_cells _ ((l.take x).filter (notA i))) ?_)
      simp only [ht, hu, en hno, c2, renL, ren, asets, upTo, show (0 : Nat) < 2 by omega, show (1 : Nat) < 2 by omega, if_true, List.replicate_succ, List.replicate_zero, List.cons_append, List.nil_append, Tops_top, Tops_same, Tops_nil, Int.natCast_add, Int.natCast_one, List.length_append, List.length_cons, List.length_nil, Nat.zero_add, Bool.or_true, Bool.true_or, Bool.or_false, Bool.false_or, decide_true, decide_false]
     ·have hno : notA i (l.getD x default) = true := by unfold notA; rw [decide_eq_false c3]; rfl
      have ec2 := ec hno
      simp only [cellD, aset, c1, c2] at ec2
      simp only [h, h0, c1, hb, c3, w2, w3, e5, iaddr_dset, pdset, cellD, aset, c2, lay, slicelV_own, slicelV_fz, onLive_some, RT_slicel, RE_slicel, slice3V_eq, room3_some, roomOf_own, roomOf_fz, RT_slice3, RT_calld, apI_some, clC_some, clearV_own, clearV_fz, wk3, wk, iaddrV_map, seval]
      refine ⟨⟨by omega, by omega⟩, ?_⟩
      refine QLoop_wk (n' := l.length - (x + 1)) (by omega) ⟨x + 1, by omega, rfl, (by rw [ec2]), rfl⟩ (Wk_obj2 (renO_one _ d) (by have := renO_cells (upTo 2) ((l.take (x + 1)).filter (notA i)); rw [ec2] at this; exact this) ?_)
      rw [if_pos hno] at hf
      simp only [ht, hu, hf, c2, renL, ren, asets, upTo, show (0 : Nat) < 2 by omega, show (1 : Nat) < 2 by omega, if_true, List.replicate_succ, List.replicate_zero, List.cons_append, List.nil_append, Tops_top, Tops_same, Tops_nil, Int.natCast_add, Int.natCast_one, List.length_append, List.length_cons, List.length_nil, Nat.zero_add, Bool.or_true, Bool.true_or, Bool.or_false, Bool.false_or, decide_true, decide_false]
    ·skip
     by_cases c3 : (l.getD x default).id = i
     ·have hno : ¬ notA i (l.getD x default) = true := by unfold notA; rw [c3]; simp
      rw [en hno] at hf
      simp only [h, h0, c1, hb, c3, w2, w3, e5, iaddr_dset, pdset, cellD, aset, c2, lay, slicelV_own, slicelV_fz, onLive_some, RT_slicel, RE_slicel, slice3V_eq, room3_some, roomOf_own, roomOf_fz, RT_slice3, RT_calld, apI_some, clC_some, clearV_own, clearV_fz, wk3, wk, iaddrV_map, seval]
      refine QLoop_wk (n' := l.length - (x + 1)) (by omega) ⟨x + 1, by omega, rfl, (by rw [en hno]), rfl⟩ (Wk_obj2 (renO_one _ d) (renO_cells _ ((l.take x).filter (notA i))) ?_)
      simp only [ht, hu, en hno, c2, renL, ren, asets, upTo, show (0 : Nat) < 2 by omega, show (1 : Nat) < 2 by omega, if_true, List.replicate_succ, List.replicate_zero, List.cons_append, List.nil_append, Tops_top, Tops_same, Tops_nil, Int.natCast_add, Int.natCast_one, List.length_append, List.length_cons, List.length_nil, Nat.zero_add, Bool.or_true, Bool.true_or, Bool.or_false, Bool.false_or, decide_true, decide_false]
     ·have hno : notA i (l.getD x default) = true := by unfold notA; rw [decide_eq_false c3]; rfl
      have ec2 := ec hno
      simp only [cellD, aset, c1, c2] at ec2
      simp only [h, h0, c1, hb, c3, w2, w3, e5, iaddr_dset, pdset, cellD, aset, c2, lay, slicelV_own, slicelV_fz, onLive_some, RT_slicel, RE_slicel, slice3V_eq, room3_some, roomOf_own, roomOf_fz, RT_slice3, RT_calld, apI_some, clC_some, clearV_own, clearV_fz, wk3, wk, iaddrV_map, seval]
      refine ⟨⟨by omega, by omega⟩, ?_⟩
      refine QLoop_wk (n' := l.length - (x + 1)) (by omega) ⟨x + 1, by omega, rfl, (by rw [ec2]), rfl⟩ (Wk_obj2 (renO_one _ d) (by have := renO_cells (upTo 2) ((l.take (x + 1)).filter (notA i)); rw [ec2] at this; exact this) ?_)
      rw [if_pos hno] at hf
      simp only [ht, hu, hf, c2, renL, ren, asets, upTo, show (0 : Nat) < 2 by omega, show (1 : Nat) < 2 by omega, if_true, List.replicate_succ, List.replicate_zero, List.cons_append, List.nil_append, Tops_top, Tops_same, Tops_nil, Int.natCast_add, Int.natCast_one, List.length_append, List.length_cons, List.length_nil, Nat.zero_add, Bool.or_true, Bool.true_or, Bool.or_false, Bool.false_or, decide_true, decide_false]
   ·rw [hb] at hu
    by_cases c3 : (l.getD x default).id = i
    ·have hno : ¬ notA i (l.getD x default) = true := by unfold notA; rw [c3]; simp
     rw [en hno] at hf
     simp only [h, h0, c1, hb, c3, w2, w3, e5, iaddr_dset, pdset, cellD, aset, lay, slicelV_own, slicelV_fz, onLive_some, RT_slicel, RE_slicel, slice3V_eq, room3_some, roomOf_own, roomOf_fz, RT_slice3, RT_calld, apI_some, clC_some, clearV_own, clearV_fz, wk3, wk, iaddrV_map, seval]
     refine QLoop_wk (n' := l.length - (x + 1)) (by omega) ⟨x + 1, by omega, rfl, (by rw [en hno]), rfl⟩ (Wk_obj2 (renO_one _ d) (renO_cells _ ((l.take x).filter (notA i))) ?_)
     simp only [ht, hu, en hno, renL, ren, asets, upTo, show (0 : Nat) < 2 by omega, show (1 : Nat) < 2 by omega, if_true, List.replicate_succ, List.replicate_zero, List.cons_append, List.nil_append, Tops_top, Tops_same, Tops_nil, Int.natCast_add, Int.natCast_one, List.length_append, List.length_cons, List.length_nil, Nat.zero_add, Bool.or_true, Bool.true_or, Bool.or_false, Bool.false_or, decide_true, decide_false]
    ·have hno : notA i (l.getD x default) = true := by unfold notA; rw [decide_eq_false c3]; rfl
     have ec2 := ec hno
     simp only [cellD, aset, c1] at ec2
     simp only [h, h0, c1, hb, c3, w2, w3, e5, iaddr_dset, pdset, cellD, aset, lay, slicelV_own, slicelV_fz, onLive_some, RT_slicel, RE_slicel, slice3V_eq, room3_some, roomOf_own, roomOf_fz, RT_slice3, RT_calld, apI_some, clC_some, clearV_own, clearV_fz, wk3, wk, iaddrV_map, seval]
     refine ⟨⟨by omega, by omega⟩, ?_⟩
     refine QLoop_wk (n' := l.length - (x + 1)) (by omega) ⟨x + 1, by omega, rfl, (by rw [ec2]), rfl⟩ (Wk_obj2 (renO_one _ d) (by have := renO_cells (upTo 2) ((l.take (x + 1)).filter (notA i)); rw [ec2] at this; exact this) ?_)
     rw [if_pos hno] at hf
     simp only [ht, hu, hf, renL, ren, asets, upTo, show (0 : Nat) < 2 by omega, show (1 : Nat) < 2 by omega, if_true, List.replicate_succ, List.replicate_zero, List.cons_append, List.nil_append, Tops_top, Tops_same, Tops_nil, Int.natCast_add, Int.natCast_one, List.length_append, List.length_cons, List.length_nil, Nat.zero_add, Bool.or_true, Bool.true_or, Bool.or_false, Bool.false_or, decide_true, decide_false]
 ·have : x = l.length := by omega
  subst this
  have hl2 : l.take l.length = l := List.take_length
  have fin : ∀ hne : ¬ (hgB l i = true ∨ (d.kind = 1 ∧ livesA l = 1)), KWk 0 (fun y H' => y = outA (destR l i) ∧ H' = []) (.tuple [.own 1 5 0 (l.filter (notA i)).length (l.filter (notA i)).length, .int .i64 0]) [some [cellD d], some ((l.filter (notA i)).map cellD)] := fun hne => by
   rw [if_neg hne] at hB
   rw [hB]
   exact KWk_sets 1 (l.filter (notA i)) 0 _ rfl rfl ⟨rfl, rfl⟩
  simp only [cellD, aset] at fin
  simp only [h, hl2, cellD, aset, lay, slicelV_own, slicelV_fz, onLive_some, RT_slicel, RE_slicel, slice3V_eq, room3_some, roomOf_own, roomOf_fz, RT_slice3, RT_calld, apI_some, clC_some, clearV_own, clearV_fz, wk3, wk, iaddrV_map, seval]
  cases hb : hgB l i
  ·by_cases c1 : d.kind = 1
   ·by_cases c2 : (livesA l : Int) = 1
    ·rw [if_pos (.inr ⟨c1, by omega⟩)] at hB
     simp only [hb, c1, c2, hB, lay, slicelV_own, slicelV_fz, onLive_some, RT_slicel, RE_slicel, slice3V_eq, room3_some, roomOf_own, roomOf_fz, RT_slice3, RT_calld, apI_some, clC_some, clearV_own, clearV_fz, wk3, wk, iaddrV_map, seval]
     exact KWk_bare (by simp [bare, bareL]) ⟨rfl, rfl⟩
    ·replace fin := fin (by rw [hb]; intro hh; rcases hh with hh | hh; cases hh; omega)
     rw [c1] at fin
     simp only [hb, c1, c2, lay, slicelV_own, slicelV_fz, onLive_some, RT_slicel, RE_slicel, slice3V_eq, room3_some, roomOf_own, roomOf_fz, RT_slice3, RT_calld, apI_some, clC_some, clearV_own, clearV_fz, wk3, wk, iaddrV_map, seval]
     exact fin
   ·replace fin := fin (by rw [hb]; intro hh; rcases hh with hh | hh; cases hh; exact c1 hh.1)
    simp only [hb, c1, lay, slicelV_own, slicelV_fz, onLive_some, RT_slicel, RE_slicel, slice3V_eq, room3_some, roomOf_own, roomOf_fz, RT_slice3, RT_calld, apI_some, clC_some, clearV_own, clearV_fz, wk3, wk, iaddrV_map, seval]
    exact fin
  ·rw [if_pos (.inl hb)] at hB
   simp only [hb, hB, lay, slicelV_own, slicelV_fz, onLive_some, RT_slicel, RE_slicel, slice3V_eq, room3_some, roomOf_own, roomOf_fz, RT_slice3, RT_calld, apI_some, clC_some, clearV_own, clearV_fz, wk3, wk, iaddrV_map, seval]
   exact KWk_bare (by simp [bare, bareL]) ⟨rfl, rfl⟩
end Go.Proofs.YtemjlopoffjmpaaGreat.Abs
set_option linter.unusedSimpArgs false
set_option linter.unusedVariables false
namespace Go.Proofs.YtemjlopoffjmpaaGreat.Abs
open Go Go.Proofs
def proR (i sid oid oo : Int) (y : Dset) : Dset :=
 reorig y (if y.id = oid then sid else if y.id = i then oo else if y.kind = 2 ∧ y.origin = oid ∧ y.id ≤ sid then i else y.origin)
theorem proR_eq {c o s x : Dset} (hx : x.id = c.id → x.kind = 1) (hx2 : x.id = o.id → x.kind = 1) (hne : c.id ≠ o.id) (hso : s.origin = o.id) : proF c o s x = proR c.id s.id o.id o.origin x := by
 unfold proF proR turnA
 rw [hso]
 by_cases h1 : x.id = c.id
 ·rw [if_pos h1, if_neg (fun e => hne (h1.symm.trans e)), if_pos h1]
 ·rw [if_neg h1]
  by_cases h2 : x.id = o.id
  ·rw [if_pos h2, if_pos h2]
  ·rw [if_neg h2, if_neg h2, if_neg h1]
   split
   ·rfl
   ·rfl
theorem promote_facts {l : List Dset} (h : MayL l) (i : Int) : (promoteA l i = (l, 2) ∧ getA l i = none) ∨ ∃ c, getA l i = some c ∧ (((c.kind ≠ 1 ∨ c.origin = 0) ∧ promoteA l i = (l, 1)) ∨
 (c.kind = 1 ∧ c.origin ≠ 0 ∧ ∃ s o, getA l c.origin = some s ∧ getA l s.origin = some o ∧ promoteA l i = (l.map (proR i s.id o.id o.origin), 0))) := by
 rcases find_of (l := l) (i := i) with ⟨e, _⟩ | ⟨k, e, hk, hid, _⟩
 ·exact .inl ⟨by unfold promoteA; rw [if_pos (by omega)], getA_no e⟩
 refine .inr ⟨_, getA_of e, ?_⟩
 have hP : promoteA l i = if (l.getD k default).kind ≠ 1 ∨ (l.getD k default).origin = 0 then (l, 1) else if findA l (l.getD k default).origin < 0 ∨ isA l (l.getD (findA l (l.getD k default).origin).toNat default).origin 1 = false then (l, 1) else (promoted l i k (findA l (l.getD k default).origin).toNat (findA l (l.getD (findA l (l.getD k default).origin).toNat default).origin).toNat, 0) := by
  unfold promoteA
  rw [if_neg (by omega)]
  simp only [e, Int.toNat_natCast]
 by_cases h2 : (l.getD k default).kind ≠ 1 ∨ (l.getD k default).origin = 0
 ·exact .inl ⟨h2, by rw [hP, if_pos h2]⟩
 rw [if_neg h2] at hP
 have hk1 : (l.getD k default).kind = 1 := Classical.byContradiction fun hh => h2 (.inl hh)
 have hk0 : (l.getD k default).origin ≠ 0 := fun hh => h2 (.inr hh)
 refine .inr ⟨hk1, hk0, ?_⟩
 obtain ⟨x, hx, hxi, hxk⟩ : ∃ o ∈ l, o.id = (l.getD k default).origin ∧ o.kind = 2 := by
  rcases (h.each _ (dgetD_mem hk)).live hk1 with h5 | h5
  ·exact absurd h5 hk0
  ·exact h5
 obtain ⟨_, y, hy, hyi, hyk⟩ := (h.each _ hx).snap hxk
 have gx : getA l (l.getD k default).origin = some x := by rw [← hxi]; exact h.find hx
 have gy : getA l x.origin = some y := by rw [← hyi]; exact h.find hy
 refine ⟨x, y, gx, gy, ?_⟩
 rcases find_of (l := l) (i := (l.getD k default).origin) with ⟨e', _⟩ | ⟨m, e', hm, hid', _⟩
 ·rw [getA_no e'] at gx; cases gx
 rw [getA_of e'] at gx
 have gx' := Option.some.inj gx
 rw [e', Int.toNat_natCast, gx'] at hP
 rcases find_of (l := l) (i := x.origin) with ⟨e2, _⟩ | ⟨o, e2, ho, hoi, _⟩
 ·rw [getA_no e2] at gy; cases gy
 rw [getA_of e2] at gy
 have gy' := Option.some.inj gy
 have h3 : isA l x.origin 1 = true := by
  unfold isA
  rw [e2, Int.toNat_natCast, gy', hyk]
  simp
 rw [e2, Int.toNat_natCast, if_neg (fun hh => hh.elim (fun hh => by omega) (fun hh => by rw [h3] at hh; cases hh))] at hP
 have hne : k ≠ o := by
  intro hko
  obtain ⟨r, hr⟩ := h.tree
  have r1 := hr _ hx _ hy hyi
  have r2 := hr _ (dgetD_mem hk) _ hx hxi
  rw [← gy', ← hko] at r1
  omega
 have hnid : (l.getD k default).id ≠ y.id := by
  intro hh
  rw [← gy'] at hh
  exact hne (h.inj hk ho hh)
 have hpm := promoted_map (ks := m) h hk ho hne hk1 (by rw [gy']; exact hyk)
 rw [hid, gx', gy'] at hpm
 rw [hP, hpm]
 congr 1
 apply List.map_congr_left
 intro z hz
 rw [← hid]
 refine proR_eq (fun e => ?_) (fun e => ?_) hnid hyi.symm
 ·rw [h.inj' hz (dgetD_mem hk) e]; exact hk1
 ·rw [h.inj' hz hy e]; exact hyk
end Go.Proofs.YtemjlopoffjmpaaGreat.Abs
set_option linter.unusedSimpArgs false
set_option linter.unusedVariables false
namespace Go.Proofs.YtemjlopoffjmpaaGreat.Abs
open Go Go.Proofs
theorem row_at {L : List (List AV)} {x : Nat} (h : x < L.length) (r : List AV) : (L.set x r)[x]? = some r := by rw [List.getElem?_set, if_pos rfl, if_pos h]
theorem row_two (L : List (List AV)) (x : Nat) (a b : List AV) : (L.set x a).set x b = L.set x b := by rw [List.set_set]
set_option maxHeartbeats 4000000 in
theorem rpromote0 (l : List Dset) (hM : MayL l) (i : Int) : C Tryz.prog 73 [asets l, .int .i64 i] [] (fun y H' => y = outA (promoteA l i) ∧ H' = []) := by
 have hl := hM.short
 have hl1 := hl.1
 have hp := promote_facts hM i
 refine C_body' d73 rfl (WT_ok ?_)
 unfold c73
 simp only [lay, wk3, wk, iaddrV_map, Nat.reduceAdd, Nat.reduceSub, Nat.reduceMul, Nat.reduceLeDiff, Nat.reduceEqDiff, Nat.reduceBEq, Int.reduceLE, Int.reduceLT, Int.reduceEq, Int.reduceNe, Int.reduceAdd, Int.reduceSub, Int.reduceToNat, Int.reduceNeg, ↓reduceIte, reduceCtorEq]
 refine CT_ok (rgetL l hl1 i _) ?_
 rintro _ _ ⟨rfl, rfl⟩
 rcases hp with ⟨hA, hg⟩ | ⟨c, hg, ⟨hc, hA⟩ | ⟨g1, g2, s, o, gs, go, hA⟩⟩
 ·rw [hg, hA]
  simp only [getV, lay, wk3, wk, iaddrV_map, Nat.reduceAdd, Nat.reduceSub, Nat.reduceMul, Nat.reduceLeDiff, Nat.reduceEqDiff, Nat.reduceBEq, Int.reduceLE, Int.reduceLT, Int.reduceEq, Int.reduceNe, Int.reduceAdd, Int.reduceSub, Int.reduceToNat, Int.reduceNeg, ↓reduceIte, reduceCtorEq]
  exact KWk_bare (by simp [bare, bareL, asets]) ⟨rfl, rfl⟩
 ·rw [hg, hA]
  by_cases g1 : c.kind = 1
  ·have g2 : c.origin = 0 := by rcases hc with hc | hc; exact absurd g1 hc; exact hc
   simp only [getV, cellD, aset, g1, g2, lay, wk3, wk, iaddrV_map, Nat.reduceAdd, Nat.reduceSub, Nat.reduceMul, Nat.reduceLeDiff, Nat.reduceEqDiff, Nat.reduceBEq, Int.reduceLE, Int.reduceLT, Int.reduceEq, Int.reduceNe, Int.reduceAdd, Int.reduceSub, Int.reduceToNat, Int.reduceNeg, ↓reduceIte, reduceCtorEq]
   exact KWk_bare (by simp [bare, bareL, asets]) ⟨rfl, rfl⟩
  ·simp only [getV, cellD, aset, g1, lay, wk3, wk, iaddrV_map, Nat.reduceAdd, Nat.reduceSub, Nat.reduceMul, Nat.reduceLeDiff, Nat.reduceEqDiff, Nat.reduceBEq, Int.reduceLE, Int.reduceLT, Int.reduceEq, Int.reduceNe, Int.reduceAdd, Int.reduceSub, Int.reduceToNat, Int.reduceNeg, ↓reduceIte, reduceCtorEq]
   exact KWk_bare (by simp [bare, bareL, asets]) ⟨rfl, rfl⟩
 rw [hg]
 simp only [getV, cellD, aset, g1, g2, lay, wk3, wk, iaddrV_map, Nat.reduceAdd, Nat.reduceSub, Nat.reduceMul, Nat.reduceLeDiff, Nat.reduceEqDiff, Nat.reduceBEq, Int.reduceLE, Int.reduceLT, Int.reduceEq, Int.reduceNe, Int.reduceAdd, Int.reduceSub, Int.reduceToNat, Int.reduceNeg, ↓reduceIte, reduceCtorEq]
 refine CT_ok (rgetL l hl1 c.origin _) ?_
 rintro _ _ ⟨rfl, rfl⟩
 rw [gs]
 simp only [getV, cellD, aset, lay, wk3, wk, iaddrV_map, Nat.reduceAdd, Nat.reduceSub, Nat.reduceMul, Nat.reduceLeDiff, Nat.reduceEqDiff, Nat.reduceBEq, Int.reduceLE, Int.reduceLT, Int.reduceEq, Int.reduceNe, Int.reduceAdd, Int.reduceSub, Int.reduceToNat, Int.reduceNeg, ↓reduceIte, reduceCtorEq]
 refine CT_ok (rgetL l hl1 s.origin _) ?_
 rintro _ _ ⟨rfl, rfl⟩
 rw [go]
 simp only [getV, cellD, aset, asets, cellsD, rows5D, lay, wk3, wk, iaddrV_map, Nat.reduceAdd, Nat.reduceSub, Nat.reduceMul, Nat.reduceLeDiff, Nat.reduceEqDiff, Nat.reduceBEq, Int.reduceLE, Int.reduceLT, Int.reduceEq, Int.reduceNe, Int.reduceAdd, Int.reduceSub, Int.reduceToNat, Int.reduceNeg, ↓reduceIte, reduceCtorEq]
 refine ⟨⟨by omega, by omega⟩, ?_⟩
 refine WT_loop (W_wk (fr' := [asets l, .int .i64 i, .top, .top, .emp, .int .i64 0, .ptr 0 0 0 1, .bool true, .ptr 1 0 0 1, .bool true, .ptr 2 0 0 1, .bool true, .own 3 5 0 l.length l.length, .int .i64 0] ++ List.replicate 100 .top) (Wk_tops ?_) (W_loop (fun n fr H' => ∃ x : Nat, x ≤ l.length ∧ n = l.length - x ∧ H' = [some [cellD ⟨c.id, 1, c.origin, c.quota, c.files⟩], some [cellD s], some [cellD o], some ((someA (proR i s.id o.id o.origin) l x).map cellD)] ∧
  fr = [asets l, .int .i64 i, .top, .top, .emp, .int .i64 0, .ptr 0 0 0 1, .bool true, .ptr 1 0 0 1, .bool true, .ptr 2 0 0 1, .bool true, .own 3 5 0 l.length l.length, .int .i64 x] ++ List.replicate 100 .top) l.length ⟨0, by omega, rfl, by rw [someA_zero]; rfl, rfl⟩ ?_))
 ·simp only [asets, List.replicate_succ, List.replicate_zero, List.cons_append, List.nil_append, Tops_top, Tops_same, Tops_nil]
 rintro n fr H' ⟨x, hx, rfl, rfl, rfl⟩
 refine WT_ok ?_
 have hsl := someA_len (proR i s.id o.id o.origin) l x (by omega)
 simp only [asets, hsl, cellD, aset, lay, slicelV_own, slicelV_fz, onLive_some, RT_slicel, RE_slicel, slice3V_eq, room3_some, roomOf_own, roomOf_fz, RT_slice3, RT_calld, apI_some, clC_some, clearV_own, clearV_fz, wk3, wk, iaddrV_map, Nat.reduceAdd, Nat.reduceSub, Nat.reduceMul, Nat.reduceLeDiff, Nat.reduceEqDiff, Nat.reduceBEq, Int.reduceLE, Int.reduceLT, Int.reduceEq, Int.reduceNe, Int.reduceAdd, Int.reduceSub, Int.reduceToNat, Int.reduceNeg, ↓reduceIte, reduceCtorEq]
 refine guard_both ?_ ?_ <;> intro h <;> simp only [hy] at h
 ·have hx2 : x < l.length := by omega
  have w2 : IntKind.i64.wrap ((x : Int) + 1) = (x : Int) + 1 := IntWalk.i64_in _ (by omega)
  have h0 : (0 : Int) ≤ x := by omega
  have hcj := cell_at (l := someA (proR i s.id o.id o.origin) l x) (k := x) (by omega)
  have hgj : (someA (proR i s.id o.id o.origin) l x).getD x default = l.getD x default := by rw [someA_getD _ _ _ _ (by omega), if_neg (by omega)]
  have hsu := someA_succ (proR i s.id o.id o.origin) l x hx2
  have hsw := set_cellD (someA (proR i s.id o.id o.origin) l x) x (proR i s.id o.id o.origin (l.getD x default))
  have hsame := cell_same (l := someA (proR i s.id o.id o.origin) l x) (k := x) (by omega)
  rw [hsu] at hsw
  rw [hgj] at hcj hsame
  generalize someA (proR i s.id o.id o.origin) l x = lj at *
  generalize hlj' : someA (proR i s.id o.id o.origin) l (x + 1) = lj' at hsu hsw
  generalize l.getD x default = y at *
  have hrow : ∀ r, ((lj.map cellD).set x r)[x]? = some r := fun r => row_at (by rw [List.length_map]; omega) r
  have hlen : (lj.map cellD).length = l.length := by rw [List.length_map]; omega
  have hlen2 : ∀ r, ((lj.map cellD).set x r).length = l.length := fun r => by rw [List.length_set]; exact hlen
  unfold proR reorig at hsw
  simp only [cellD, aset] at hcj hsw hsame
  rcases Classical.propComplete (y.kind = 2) with p1 | p1
  ·rcases Classical.propComplete (y.origin = o.id) with p2 | p2
   ·rcases Classical.propComplete (y.id ≤ s.id) with p3 | p3
    ·skip
     rcases Classical.propComplete (y.id = i) with p4 | p4 <;> rcases Classical.propComplete (y.id = o.id) with p5 | p5
     all_goals
      simp only [p1, p2, p3, p4, p5, and_true, and_false, and_self, false_and, if_true, if_false] at hsw
      simp only [lay, slicelV_own, slicelV_fz, onLive_some, RT_slicel, RE_slicel, slice3V_eq, room3_some, roomOf_own, roomOf_fz, RT_slice3, RT_calld, apI_some, clC_some, clearV_own, clearV_fz, wk3, wk, iaddrV_map, Nat.reduceAdd, Nat.reduceSub, Nat.reduceMul, Nat.reduceLeDiff, Nat.reduceEqDiff, Nat.reduceBEq, Int.reduceLE, Int.reduceLT, Int.reduceEq, Int.reduceNe, Int.reduceAdd, Int.reduceSub, Int.reduceToNat, Int.reduceNeg, ↓reduceIte, reduceCtorEq]
      refine WT_draw ?_
      simp only [p1, p2, p3, p4, p5, h, h0, hsl, hcj, hrow, row_two, w2, lay, slicelV_own, slicelV_fz, onLive_some, RT_slicel, RE_slicel, slice3V_eq, room3_some, roomOf_own, roomOf_fz, RT_slice3, RT_calld, apI_some, clC_some, clearV_own, clearV_fz, wk3, wk, iaddrV_map, Nat.reduceAdd, Nat.reduceSub, Nat.reduceMul, Nat.reduceLeDiff, Nat.reduceEqDiff, Nat.reduceBEq, Int.reduceLE, Int.reduceLT, Int.reduceEq, Int.reduceNe, Int.reduceAdd, Int.reduceSub, Int.reduceToNat, Int.reduceNeg, ↓reduceIte, reduceCtorEq]
      refine WT_draw ?_
      simp only [p1, p2, p3, p4, p5, h, h0, hsl, hcj, hrow, row_two, w2, lay, slicelV_own, slicelV_fz, onLive_some, RT_slicel, RE_slicel, slice3V_eq, room3_some, roomOf_own, roomOf_fz, RT_slice3, RT_calld, apI_some, clC_some, clearV_own, clearV_fz, wk3, wk, iaddrV_map, Nat.reduceAdd, Nat.reduceSub, Nat.reduceMul, Nat.reduceLeDiff, Nat.reduceEqDiff, Nat.reduceBEq, Int.reduceLE, Int.reduceLT, Int.reduceEq, Int.reduceNe, Int.reduceAdd, Int.reduceSub, Int.reduceToNat, Int.reduceNeg, ↓reduceIte, reduceCtorEq]
      refine QLoop_go (n' := l.length - (x + 1)) (by omega) ⟨x + 1, by omega, rfl, (by first | rw [hlj', ← hsw, hsame] | rw [hlj', ← hsw]), rfl⟩ ?_
      simp only [asets, List.replicate_succ, List.replicate_zero, List.cons_append, List.nil_append, Tops_top, Tops_same, Tops_nil, Int.natCast_add, Int.natCast_one]
    ·skip
     rcases Classical.propComplete (y.id = i) with p4 | p4 <;> rcases Classical.propComplete (y.id = o.id) with p5 | p5
     all_goals
      simp only [p1, p2, p3, p4, p5, and_true, and_false, and_self, false_and, if_true, if_false] at hsw
      simp only [lay, slicelV_own, slicelV_fz, onLive_some, RT_slicel, RE_slicel, slice3V_eq, room3_some, roomOf_own, roomOf_fz, RT_slice3, RT_calld, apI_some, clC_some, clearV_own, clearV_fz, wk3, wk, iaddrV_map, Nat.reduceAdd, Nat.reduceSub, Nat.reduceMul, Nat.reduceLeDiff, Nat.reduceEqDiff, Nat.reduceBEq, Int.reduceLE, Int.reduceLT, Int.reduceEq, Int.reduceNe, Int.reduceAdd, Int.reduceSub, Int.reduceToNat, Int.reduceNeg, ↓reduceIte, reduceCtorEq]
      refine WT_draw ?_
      simp only [p1, p2, p3, p4, p5, h, h0, hsl, hcj, hrow, row_two, w2, lay, slicelV_own, slicelV_fz, onLive_some, RT_slicel, RE_slicel, slice3V_eq, room3_some, roomOf_own, roomOf_fz, RT_slice3, RT_calld, apI_some, clC_some, clearV_own, clearV_fz, wk3, wk, iaddrV_map, Nat.reduceAdd, Nat.reduceSub, Nat.reduceMul, Nat.reduceLeDiff, Nat.reduceEqDiff, Nat.reduceBEq, Int.reduceLE, Int.reduceLT, Int.reduceEq, Int.reduceNe, Int.reduceAdd, Int.reduceSub, Int.reduceToNat, Int.reduceNeg, ↓reduceIte, reduceCtorEq]
      refine WT_draw ?_
      simp only [p1, p2, p3, p4, p5, h, h0, hsl, hcj, hrow, row_two, w2, lay, slicelV_own, slicelV_fz, onLive_some, RT_slicel, RE_slicel, slice3V_eq, room3_some, roomOf_own, roomOf_fz, RT_slice3, RT_calld, apI_some, clC_some, clearV_own, clearV_fz, wk3, wk, iaddrV_map, Nat.reduceAdd, Nat.reduceSub, Nat.reduceMul, Nat.reduceLeDiff, Nat.reduceEqDiff, Nat.reduceBEq, Int.reduceLE, Int.reduceLT, Int.reduceEq, Int.reduceNe, Int.reduceAdd, Int.reduceSub, Int.reduceToNat, Int.reduceNeg, ↓reduceIte, reduceCtorEq]
      refine QLoop_go (n' := l.length - (x + 1)) (by omega) ⟨x + 1, by omega, rfl, (by first | rw [hlj', ← hsw, hsame] | rw [hlj', ← hsw]), rfl⟩ ?_
      simp only [asets, List.replicate_succ, List.replicate_zero, List.cons_append, List.nil_append, Tops_top, Tops_same, Tops_nil, Int.natCast_add, Int.natCast_one]
   ·skip
    rcases Classical.propComplete (y.id = i) with p4 | p4 <;> rcases Classical.propComplete (y.id = o.id) with p5 | p5
    all_goals
     simp only [p1, p2, p4, p5, and_true, and_false, and_self, false_and, if_true, if_false] at hsw
     simp only [lay, slicelV_own, slicelV_fz, onLive_some, RT_slicel, RE_slicel, slice3V_eq, room3_some, roomOf_own, roomOf_fz, RT_slice3, RT_calld, apI_some, clC_some, clearV_own, clearV_fz, wk3, wk, iaddrV_map, Nat.reduceAdd, Nat.reduceSub, Nat.reduceMul, Nat.reduceLeDiff, Nat.reduceEqDiff, Nat.reduceBEq, Int.reduceLE, Int.reduceLT, Int.reduceEq, Int.reduceNe, Int.reduceAdd, Int.reduceSub, Int.reduceToNat, Int.reduceNeg, ↓reduceIte, reduceCtorEq]
     refine WT_draw ?_
     simp only [p1, p2, p4, p5, h, h0, hsl, hcj, hrow, row_two, w2, lay, slicelV_own, slicelV_fz, onLive_some, RT_slicel, RE_slicel, slice3V_eq, room3_some, roomOf_own, roomOf_fz, RT_slice3, RT_calld, apI_some, clC_some, clearV_own, clearV_fz, wk3, wk, iaddrV_map, Nat.reduceAdd, Nat.reduceSub, Nat.reduceMul, Nat.reduceLeDiff, Nat.reduceEqDiff, Nat.reduceBEq, Int.reduceLE, Int.reduceLT, Int.reduceEq, Int.reduceNe, Int.reduceAdd, Int.reduceSub, Int.reduceToNat, Int.reduceNeg, ↓reduceIte, reduceCtorEq]
     refine WT_draw ?_
     simp only [p1, p2, p4, p5, h, h0, hsl, hcj, hrow, row_two, w2, lay, slicelV_own, slicelV_fz, onLive_some, RT_slicel, RE_slicel, slice3V_eq, room3_some, roomOf_own, roomOf_fz, RT_slice3, RT_calld, apI_some, clC_some, clearV_own, clearV_fz, wk3, wk, iaddrV_map, Nat.reduceAdd, Nat.reduceSub, Nat.reduceMul, Nat.reduceLeDiff, Nat.reduceEqDiff, Nat.reduceBEq, Int.reduceLE, Int.reduceLT, Int.reduceEq, Int.reduceNe, Int.reduceAdd, Int.reduceSub, Int.reduceToNat, Int.reduceNeg, ↓reduceIte, reduceCtorEq]
     refine QLoop_go (n' := l.length - (x + 1)) (by omega) ⟨x + 1, by omega, rfl, (by first | rw [hlj', ← hsw, hsame] | rw [hlj', ← hsw]), rfl⟩ ?_
     simp only [asets, List.replicate_succ, List.replicate_zero, List.cons_append, List.nil_append, Tops_top, Tops_same, Tops_nil, Int.natCast_add, Int.natCast_one]
  ·skip
   rcases Classical.propComplete (y.id = i) with p4 | p4 <;> rcases Classical.propComplete (y.id = o.id) with p5 | p5
   all_goals
    simp only [p1, p4, p5, and_true, and_false, and_self, false_and, if_true, if_false] at hsw
    simp only [lay, slicelV_own, slicelV_fz, onLive_some, RT_slicel, RE_slicel, slice3V_eq, room3_some, roomOf_own, roomOf_fz, RT_slice3, RT_calld, apI_some, clC_some, clearV_own, clearV_fz, wk3, wk, iaddrV_map, Nat.reduceAdd, Nat.reduceSub, Nat.reduceMul, Nat.reduceLeDiff, Nat.reduceEqDiff, Nat.reduceBEq, Int.reduceLE, Int.reduceLT, Int.reduceEq, Int.reduceNe, Int.reduceAdd, Int.reduceSub, Int.reduceToNat, Int.reduceNeg, ↓reduceIte, reduceCtorEq]
    refine WT_draw ?_
    simp only [p1, p4, p5, h, h0, hsl, hcj, hrow, row_two, w2, lay, slicelV_own, slicelV_fz, onLive_some, RT_slicel, RE_slicel, slice3V_eq, room3_some, roomOf_own, roomOf_fz, RT_slice3, RT_calld, apI_some, clC_some, clearV_own, clearV_fz, wk3, wk, iaddrV_map, Nat.reduceAdd, Nat.reduceSub, Nat.reduceMul, Nat.reduceLeDiff, Nat.reduceEqDiff, Nat.reduceBEq, Int.reduceLE, Int.reduceLT, Int.reduceEq, Int.reduceNe, Int.reduceAdd, Int.reduceSub, Int.reduceToNat, Int.reduceNeg, ↓reduceIte, reduceCtorEq]
    refine WT_draw ?_
    simp only [p1, p4, p5, h, h0, hsl, hcj, hrow, row_two, w2, lay, slicelV_own, slicelV_fz, onLive_some, RT_slicel, RE_slicel, slice3V_eq, room3_some, roomOf_own, roomOf_fz, RT_slice3, RT_calld, apI_some, clC_some, clearV_own, clearV_fz, wk3, wk, iaddrV_map, Nat.reduceAdd, Nat.reduceSub, Nat.reduceMul, Nat.reduceLeDiff, Nat.reduceEqDiff, Nat.reduceBEq, Int.reduceLE, Int.reduceLT, Int.reduceEq, Int.reduceNe, Int.reduceAdd, Int.reduceSub, Int.reduceToNat, Int.reduceNeg, ↓reduceIte, reduceCtorEq]
    refine QLoop_go (n' := l.length - (x + 1)) (by omega) ⟨x + 1, by omega, rfl, (by first | rw [hlj', ← hsw, hsame] | rw [hlj', ← hsw]), rfl⟩ ?_
    simp only [asets, List.replicate_succ, List.replicate_zero, List.cons_append, List.nil_append, Tops_top, Tops_same, Tops_nil, Int.natCast_add, Int.natCast_one]
 ·have : x = l.length := by omega
  subst this
  simp only [h, someA_all, lay, slicelV_own, slicelV_fz, onLive_some, RT_slicel, RE_slicel, slice3V_eq, room3_some, roomOf_own, roomOf_fz, RT_slice3, RT_calld, apI_some, clC_some, clearV_own, clearV_fz, wk3, wk, iaddrV_map, Nat.reduceAdd, Nat.reduceSub, Nat.reduceMul, Nat.reduceLeDiff, Nat.reduceEqDiff, Nat.reduceBEq, Int.reduceLE, Int.reduceLT, Int.reduceEq, Int.reduceNe, Int.reduceAdd, Int.reduceSub, Int.reduceToNat, Int.reduceNeg, ↓reduceIte, reduceCtorEq]
  rw [hA]
  exact KWk_sets 3 (l.map (proR i s.id o.id o.origin)) 0 _ (by simp) rfl ⟨rfl, rfl⟩
end Go.Proofs.YtemjlopoffjmpaaGreat.Abs
namespace Go.Proofs.YtemjlopoffjmpaaGreat.Abs
open Go
def c70 : ACode :=
 (.seq (.reg [⟨some 6, none, .mv (.c (.emp))⟩,
  ⟨some 7, none, .mv (.c (.int .i64 0))⟩])
 (.seq (.seq (.reg [⟨some 8, none, .mv (.t 2)⟩,
  ⟨some 9, none, .bini .lss (.t 8) (.c (.int .i64 0))⟩,
  ⟨some 10, none, .mv (.t 9)⟩,
  ⟨some 11, (some (10, false)), .mv (.t 2)⟩,
  ⟨some 12, (some (10, false)), .bini .gtr (.t 11) (.c (.int .i64 255))⟩,
  ⟨some 13, none, .pick (.t 10) (.c (.bool true)) (.t 12)⟩])
 (.cond (.t 13)
 (.seq (.reg [⟨some 14, none, .mv (.t 0)⟩,
  ⟨some 6, none, .mv (.t 14)⟩,
  ⟨some 7, none, .mv (.c (.int .i64 1))⟩])
 .ret)
 .skip))
 (.seq (.reg [⟨some 15, none, .mv (.t 0)⟩,
  ⟨some 16, none, .mv (.t 1)⟩,
  ⟨some 17, none, .mv (.t 2)⟩,
  ⟨some 18, none, .call 34 []⟩,
  ⟨some 19, none, .build [.int .i64 0, .int .i64 0, .int .i64 0, .int .i64 0, .emp] [(0, 1, (.t 16)), (1, 1, (.c (.int .i64 1))), (3, 1, (.t 17)), (4, 1, (.t 18))]⟩,
  ⟨some 20, none, .call 108 [(.t 15), (.t 19)]⟩,
  ⟨some 21, none, .ext (.t 20) 0⟩,
  ⟨some 22, none, .ext (.t 20) 1⟩,
  ⟨some 6, none, .mv (.t 21)⟩,
  ⟨some 7, none, .mv (.t 22)⟩])
 .ret)))
theorem d70 : FnD Tryz.prog 70 3 20 [.tmp 6, .tmp 7] c70 := ⟨Tryz.f70, _, Tryz.func70, by kernel_rfl, rfl, rfl, by kernel_rfl, by kernel_rfl⟩
end Go.Proofs.YtemjlopoffjmpaaGreat.Abs
namespace Go.Proofs.YtemjlopoffjmpaaGreat.Abs
open Go
def c71 : ACode :=
 (.seq (.reg [⟨some 6, none, .mv (.c (.emp))⟩,
  ⟨some 7, none, .mv (.c (.int .i64 0))⟩])
 (.seq (.reg [⟨some 11, none, .mv (.t 0)⟩,
  ⟨some 12, none, .mv (.t 2)⟩,
  ⟨some 13, none, .call 30 [(.t 11), (.t 12)]⟩,
  ⟨some 10, none, .mv (.t 13)⟩,
  ⟨some 14, none, .ext (.t 10) 0⟩,
  ⟨some 15, none, .ext (.t 10) 1⟩,
  ⟨some 8, none, .alloc [.int .i64 0, .int .i64 0, .int .i64 0, .int .i64 0, .emp]⟩,
  ⟨none, none, .store 5 (.t 8) (.t 14)⟩,
  ⟨some 9, none, .mv (.t 15)⟩])
 (.seq (.seq (.reg [⟨some 16, none, .mv (.t 9)⟩,
  ⟨some 17, none, .un .not (.t 16)⟩])
 (.cond (.t 17)
 (.seq (.reg [⟨some 18, none, .mv (.t 0)⟩,
  ⟨some 6, none, .mv (.t 18)⟩,
  ⟨some 7, none, .mv (.c (.int .i64 2))⟩])
 .ret)
 .skip))
 (.seq (.seq (.reg [⟨some 19, none, .faddr 1 (.t 8)⟩,
  ⟨some 20, none, .load false 1 (.t 19)⟩,
  ⟨some 21, none, .bini .eql (.t 20) (.c (.int .i64 2))⟩])
 (.cond (.t 21)
 (.seq (.reg [⟨some 22, none, .mv (.t 0)⟩,
  ⟨some 6, none, .mv (.t 22)⟩,
  ⟨some 7, none, .mv (.c (.int .i64 11))⟩])
 .ret)
 .skip))
 (.seq (.reg [⟨some 23, none, .mv (.t 0)⟩,
  ⟨some 24, none, .mv (.t 1)⟩,
  ⟨some 25, none, .mv (.t 2)⟩,
  ⟨some 26, none, .faddr 4 (.t 8)⟩,
  ⟨some 27, none, .load false 1 (.t 26)⟩,
  ⟨some 28, none, .build [.int .i64 0, .int .i64 0, .int .i64 0, .int .i64 0, .emp] [(0, 1, (.t 24)), (1, 1, (.c (.int .i64 2))), (2, 1, (.t 25)), (4, 1, (.t 27))]⟩,
  ⟨some 29, none, .call 108 [(.t 23), (.t 28)]⟩,
  ⟨some 30, none, .ext (.t 29) 0⟩,
  ⟨some 31, none, .ext (.t 29) 1⟩,
  ⟨some 6, none, .mv (.t 30)⟩,
  ⟨some 7, none, .mv (.t 31)⟩])
 .ret)))))
theorem d71 : FnD Tryz.prog 71 3 29 [.tmp 6, .tmp 7] c71 := ⟨Tryz.f71, _, Tryz.func71, by kernel_rfl, rfl, rfl, by kernel_rfl, by kernel_rfl⟩
end Go.Proofs.YtemjlopoffjmpaaGreat.Abs
namespace Go.Proofs.YtemjlopoffjmpaaGreat.Abs
open Go
def c72 : ACode :=
 (.seq (.reg [⟨some 6, none, .mv (.c (.emp))⟩,
  ⟨some 7, none, .mv (.c (.int .i64 0))⟩])
 (.seq (.reg [⟨some 11, none, .mv (.t 0)⟩,
  ⟨some 12, none, .mv (.t 2)⟩,
  ⟨some 13, none, .call 30 [(.t 11), (.t 12)]⟩,
  ⟨some 10, none, .mv (.t 13)⟩,
  ⟨some 14, none, .ext (.t 10) 0⟩,
  ⟨some 15, none, .ext (.t 10) 1⟩,
  ⟨some 8, none, .alloc [.int .i64 0, .int .i64 0, .int .i64 0, .int .i64 0, .emp]⟩,
  ⟨none, none, .store 5 (.t 8) (.t 14)⟩,
  ⟨some 9, none, .mv (.t 15)⟩])
 (.seq (.seq (.reg [⟨some 16, none, .mv (.t 9)⟩,
  ⟨some 17, none, .un .not (.t 16)⟩])
 (.cond (.t 17)
 (.seq (.reg [⟨some 18, none, .mv (.t 0)⟩,
  ⟨some 6, none, .mv (.t 18)⟩,
  ⟨some 7, none, .mv (.c (.int .i64 2))⟩])
 .ret)
 .skip))
 (.seq (.seq (.reg [⟨some 19, none, .faddr 1 (.t 8)⟩,
  ⟨some 20, none, .load false 1 (.t 19)⟩,
  ⟨some 21, none, .bini .neq (.t 20) (.c (.int .i64 2))⟩])
 (.cond (.t 21)
 (.seq (.reg [⟨some 22, none, .mv (.t 0)⟩,
  ⟨some 6, none, .mv (.t 22)⟩,
  ⟨some 7, none, .mv (.c (.int .i64 1))⟩])
 .ret)
 .skip))
 (.seq (.reg [⟨some 23, none, .mv (.t 0)⟩,
  ⟨some 24, none, .mv (.t 1)⟩,
  ⟨some 25, none, .mv (.t 2)⟩,
  ⟨some 26, none, .faddr 4 (.t 8)⟩,
  ⟨some 27, none, .load false 1 (.t 26)⟩,
  ⟨some 28, none, .build [.int .i64 0, .int .i64 0, .int .i64 0, .int .i64 0, .emp] [(0, 1, (.t 24)), (1, 1, (.c (.int .i64 1))), (2, 1, (.t 25)), (4, 1, (.t 27))]⟩,
  ⟨some 29, none, .call 108 [(.t 23), (.t 28)]⟩,
  ⟨some 30, none, .ext (.t 29) 0⟩,
  ⟨some 31, none, .ext (.t 29) 1⟩,
  ⟨some 6, none, .mv (.t 30)⟩,
  ⟨some 7, none, .mv (.t 31)⟩])
 .ret)))))
theorem d72 : FnD Tryz.prog 72 3 29 [.tmp 6, .tmp 7] c72 := ⟨Tryz.f72, _, Tryz.func72, by kernel_rfl, rfl, rfl, by kernel_rfl, by kernel_rfl⟩
end Go.Proofs.YtemjlopoffjmpaaGreat.Abs
namespace Go.Proofs.YtemjlopoffjmpaaGreat.Abs
open Go
def c108 : ACode :=
 (.seq (.reg [⟨some 3, none, .box (.t 1)⟩,
  ⟨some 4, none, .mv (.c (.emp))⟩,
  ⟨some 5, none, .mv (.c (.int .i64 0))⟩])
 (.seq (.seq (.dregE [[(0, ⟨some 6, none, .mv (.t 0)⟩)],
  [(1, ⟨some 7, none, .len false (.t 6)⟩)],
  [(2, ⟨some 8, none, .bini .geq (.t 7) (.c (.int .i64 8))⟩)],
  [(3, ⟨some 9, none, .mv (.t 8)⟩)],
  [(4, ⟨some 10, (some (9, false)), .faddr 0 (.t 3)⟩)],
  [(5, ⟨some 11, (some (9, false)), .load false 1 (.t 10)⟩)],
  [(6, ⟨some 12, (some (9, false)), .bini .lss (.t 11) (.c (.int .i64 1))⟩)],
  [(7, ⟨some 13, none, .pick (.t 9) (.c (.bool true)) (.t 12)⟩)],
  [(8, ⟨some 14, none, .mv (.t 13)⟩)],
  [(9, ⟨some 15, (some (14, false)), .faddr 0 (.t 3)⟩)],
  [(10, ⟨some 16, (some (14, false)), .load false 1 (.t 15)⟩)],
  [(11, ⟨some 17, (some (14, false)), .call 61 [(.t 16)]⟩)],
  [(12, ⟨some 18, (some (14, false)), .un .not (.t 17)⟩)],
  [(13, ⟨some 19, none, .pick (.t 14) (.c (.bool true)) (.t 18)⟩)],
  [(14, ⟨some 20, none, .mv (.t 19)⟩)],
  [(15, ⟨some 21, (some (20, false)), .mv (.t 0)⟩)],
  [(16, ⟨some 22, (some (20, false)), .len false (.t 21)⟩)],
  [(17, ⟨some 23, (some (20, false)), .bini .gtr (.t 22) (.c (.int .i64 0))⟩)],
  [(18, ⟨some 24, (some (20, false)), .mv (.t 23)⟩)],
  [(19, ⟨some 25, (some (24, true)), .mv (.t 0)⟩),
  (20, ⟨some 26, (some (24, true)), .mv (.t 0)⟩),
  (21, ⟨some 27, (some (24, true)), .len false (.t 26)⟩),
  (22, ⟨some 28, (some (24, true)), .bini .sub (.t 27) (.c (.int .i64 1))⟩),
  (23, ⟨some 29, (some (24, true)), .iaddr 5 (.t 25) (.t 28)⟩),
  (24, ⟨some 30, (some (24, true)), .faddr 0 (.t 29)⟩),
  (25, ⟨some 31, (some (24, true)), .load false 1 (.t 30)⟩),
  (26, ⟨some 32, (some (24, true)), .faddr 0 (.t 3)⟩),
  (27, ⟨some 33, (some (24, true)), .load false 1 (.t 32)⟩)],
  [(28, ⟨some 34, (some (24, true)), .bini .geq (.t 31) (.t 33)⟩)],
  [(29, ⟨some 35, (some (20, false)), .pick (.t 24) (.t 34) (.c (.bool false))⟩)],
  [(30, ⟨some 36, none, .pick (.t 20) (.c (.bool true)) (.t 35)⟩)]]
  [[], [0], [0, 1], [0, 1, 2], [0, 1, 2, 3], [0, 1, 2, 3, 4], [0, 1, 2, 3, 4, 5], [0, 1, 2, 3, 4, 5, 6], [0, 1, 2, 3, 4, 5, 6, 7], [0, 1, 2, 3, 4, 5, 6, 7, 8], [0, 1, 2, 3, 4, 5, 6, 7, 8, 9], [0, 1, 2, 3, 4, 5, 6, 7, 8, 9, 10], [0, 1, 2, 3, 4, 5, 6, 7, 8, 9, 10, 11], [0, 1, 2, 3, 4, 5, 6, 7, 8, 9, 10, 11, 12], [0, 1, 2, 3, 4, 5, 6, 7, 8, 9, 10, 11, 12, 13], [0, 1, 2, 3, 4, 5, 6, 7, 8, 9, 10, 11, 12, 13, 14], [0, 1, 2, 3, 4, 5, 6, 7, 8, 9, 10, 11, 12, 13, 14, 15], [0, 1, 2, 3, 4, 5, 6, 7, 8, 9, 10, 11, 12, 13, 14, 15, 16], [0, 1, 2, 3, 4, 5, 6, 7, 8, 9, 10, 11, 12, 13, 14, 15, 16, 17], [0, 1, 2, 3, 4, 5, 6, 7, 8, 9, 10, 11, 12, 13, 14, 15, 16, 17, 18], [0, 1, 2, 3, 4, 5, 6, 7, 8, 9, 10, 11, 12, 13, 14, 15, 16, 17, 18], [0, 1, 2, 3, 4, 5, 6, 7, 8, 9, 10, 11, 12, 13, 14, 15, 16, 17, 18, 20], [0, 1, 2, 3, 4, 5, 6, 7, 8, 9, 10, 11, 12, 13, 14, 15, 16, 17, 18, 20, 21], [0, 1, 2, 3, 4, 5, 6, 7, 8, 9, 10, 11, 12, 13, 14, 15, 16, 17, 18, 19, 20, 21, 22], [0, 1, 2, 3, 4, 5, 6, 7, 8, 9, 10, 11, 12, 13, 14, 15, 16, 17, 18, 19, 20, 21, 22, 23], [0, 1, 2, 3, 4, 5, 6, 7, 8, 9, 10, 11, 12, 13, 14, 15, 16, 17, 18, 19, 20, 21, 22, 23, 24], [0, 1, 2, 3, 4, 5, 6, 7, 8, 9, 10, 11, 12, 13, 14, 15, 16, 17, 18], [0, 1, 2, 3, 4, 5, 6, 7, 8, 9, 10, 11, 12, 13, 14, 15, 16, 17, 18, 26], [0, 1, 2, 3, 4, 5, 6, 7, 8, 9, 10, 11, 12, 13, 14, 15, 16, 17, 18, 19, 20, 21, 22, 23, 24, 25, 26, 27], [0, 1, 2, 3, 4, 5, 6, 7, 8, 9, 10, 11, 12, 13, 14, 15, 16, 17, 18, 19, 20, 21, 22, 23, 24, 25, 26, 27, 28], [0, 1, 2, 3, 4, 5, 6, 7, 8, 9, 10, 11, 12, 13, 14, 15, 16, 17, 18, 19, 20, 21, 22, 23, 24, 25, 26, 27, 28, 29]])
 (.cond (.t 36)
 (.seq (.reg [⟨some 37, none, .mv (.t 0)⟩,
  ⟨some 4, none, .mv (.t 37)⟩,
  ⟨some 5, none, .mv (.c (.int .i64 8))⟩])
 .ret)
 .skip))
 (.seq (.dregE [[(0, ⟨some 38, none, .bslice 5 0 [.int .i64 0, .int .i64 0, .int .i64 0, .int .i64 0, .emp] []⟩),
  (1, ⟨some 39, none, .mv (.t 0)⟩),
  (2, ⟨some 40, none, .append 5 56 [.int .i64 0, .int .i64 0, .int .i64 0, .int .i64 0, .emp] (.t 38) (.t 39)⟩),
  (3, ⟨some 41, none, .load true 5 (.t 3)⟩),
  (4, ⟨some 42, none, .bslice 5 1 [.int .i64 0, .int .i64 0, .int .i64 0, .int .i64 0, .emp] [(0, (.t 41))]⟩)],
  [(5, ⟨some 43, none, .append 5 56 [.int .i64 0, .int .i64 0, .int .i64 0, .int .i64 0, .emp] (.t 40) (.t 42)⟩)],
  [(6, ⟨some 4, none, .mv (.t 43)⟩)],
  [(7, ⟨some 5, none, .mv (.c (.int .i64 0))⟩)]]
  [[], [], [0, 1], [], [3], [0, 1, 2, 3, 4], [0, 1, 2, 3, 4, 5], [0, 1, 2, 3, 4, 5, 6]])
 .ret)))
theorem d108 : FnD Tryz.prog 108 2 42 [.tmp 4, .tmp 5] c108 := ⟨Tryz.f108, _, Tryz.func108, by kernel_rfl, rfl, rfl, by kernel_rfl, by kernel_rfl⟩
end Go.Proofs.YtemjlopoffjmpaaGreat.Abs
set_option linter.unusedSimpArgs false
set_option linter.unusedVariables false
namespace Go.Proofs.YtemjlopoffjmpaaGreat.Abs
open Go Go.Proofs
theorem newL (H : AH) : C Tryz.prog 34 [] H (fun x H' => x = aset newA ∧ H' = H) := new_spec H
theorem addOk_iff (l : List Dset) (n : Int) : addOk l n = true ↔ l.length < 8 ∧ 1 ≤ n ∧ n ≤ 65535 ∧ (l.length = 0 ∨ (l.getD (l.length - 1) default).id < n) := by
 unfold addOk
 rw [Bool.and_eq_true, Bool.and_eq_true, Bool.and_eq_true, Bool.or_eq_true, decide_eq_true_eq, decide_eq_true_eq, decide_eq_true_eq, decide_eq_true_eq, decide_eq_true_eq, and_assoc, and_assoc]
theorem addOk_no {l : List Dset} {n : Int} (h : ¬ (l.length < 8 ∧ 1 ≤ n ∧ n ≤ 65535 ∧ (l.length = 0 ∨ (l.getD (l.length - 1) default).id < n))) : addOk l n = false :=
 Bool.eq_false_iff.2 fun e => h ((addOk_iff l n).1 e)
theorem more0 (l : List Dset) (hl : Short l) (x : Dset) (hx : x.files.length ≤ 1000000) :
 C Tryz.prog 108 [asets l, .agg (cellD x)] [] (fun y H' => y = outA (addA l x.id x) ∧ H' = []) := by
 have hl1 := hl.1
 refine C_body' d108 rfl (WT_ok ?_)
 unfold c108
 have hyes : addOk l x.id = true → outA (addA l x.id x) = .tuple [asets (l ++ [x]), .int .i64 0] := fun h => by
  have : addA l x.id x = (l ++ [{ x with id := x.id }], 0) := if_pos h
  rw [this]; rfl
 have hno : addOk l x.id = false → outA (addA l x.id x) = .tuple [asets l, .int .i64 8] := fun h => by
  have : addA l x.id x = (l, 8) := if_neg (by rw [h]; decide)
  rw [this]; rfl
 have hidd := rid68 x.id
 by_cases g1 : (8 : Int) ≤ (l.length : Int)
 ·have hn := hno (addOk_no (by omega))
  simp only [asets, cellD, aset, lay, wk3, wk, iaddrV_map, Nat.reduceAdd, Nat.reduceSub, Nat.reduceMul, Nat.reduceLeDiff, Nat.reduceEqDiff, Nat.reduceBEq, Int.reduceLE, Int.reduceLT, Int.reduceEq, Int.reduceNe, Int.reduceAdd, Int.reduceSub, Int.reduceToNat, Int.reduceNeg, ↓reduceIte, reduceCtorEq]
  refine WT_drawE ?_
  simp only [g1, lay, wk3, wk, iaddrV_map, Nat.reduceAdd, Nat.reduceSub, Nat.reduceMul, Nat.reduceLeDiff, Nat.reduceEqDiff, Nat.reduceBEq, Int.reduceLE, Int.reduceLT, Int.reduceEq, Int.reduceNe, Int.reduceAdd, Int.reduceSub, Int.reduceToNat, Int.reduceNeg, ↓reduceIte, reduceCtorEq]
  refine WDT_more 0 ?_
  simp only [g1, lay, wk3, wk, iaddrV_map, Nat.reduceAdd, Nat.reduceSub, Nat.reduceMul, Nat.reduceLeDiff, Nat.reduceEqDiff, Nat.reduceBEq, Int.reduceLE, Int.reduceLT, Int.reduceEq, Int.reduceNe, Int.reduceAdd, Int.reduceSub, Int.reduceToNat, Int.reduceNeg, ↓reduceIte, reduceCtorEq]
  refine ⟨by rfl, ?_⟩
  exact KWk_bare (by simp [bare, bareL]) ⟨by rw [hn]; rfl, rfl⟩
 by_cases g2 : x.id < 1
 ·have hn := hno (addOk_no (by omega))
  simp only [asets, cellD, aset, lay, wk3, wk, iaddrV_map, Nat.reduceAdd, Nat.reduceSub, Nat.reduceMul, Nat.reduceLeDiff, Nat.reduceEqDiff, Nat.reduceBEq, Int.reduceLE, Int.reduceLT, Int.reduceEq, Int.reduceNe, Int.reduceAdd, Int.reduceSub, Int.reduceToNat, Int.reduceNeg, ↓reduceIte, reduceCtorEq]
  refine WT_drawE ?_
  simp only [g1, g2, lay, wk3, wk, iaddrV_map, Nat.reduceAdd, Nat.reduceSub, Nat.reduceMul, Nat.reduceLeDiff, Nat.reduceEqDiff, Nat.reduceBEq, Int.reduceLE, Int.reduceLT, Int.reduceEq, Int.reduceNe, Int.reduceAdd, Int.reduceSub, Int.reduceToNat, Int.reduceNeg, ↓reduceIte, reduceCtorEq]
  refine WDT_more 0 ?_
  simp only [g1, g2, lay, wk3, wk, iaddrV_map, Nat.reduceAdd, Nat.reduceSub, Nat.reduceMul, Nat.reduceLeDiff, Nat.reduceEqDiff, Nat.reduceBEq, Int.reduceLE, Int.reduceLT, Int.reduceEq, Int.reduceNe, Int.reduceAdd, Int.reduceSub, Int.reduceToNat, Int.reduceNeg, ↓reduceIte, reduceCtorEq]
  refine ⟨by rfl, ?_⟩
  exact KWk_bare (by simp [bare, bareL]) ⟨by rw [hn]; rfl, rfl⟩
 by_cases g3 : x.id ≤ 65535
 case neg =>
  have hn := hno (addOk_no (by omega))
  have he : (decide (0 ≤ x.id) && decide (x.id ≤ 65535)) = false := by simp; omega
  simp only [he] at hidd
  simp only [asets, cellD, aset, lay, wk3, wk, iaddrV_map, Nat.reduceAdd, Nat.reduceSub, Nat.reduceMul, Nat.reduceLeDiff, Nat.reduceEqDiff, Nat.reduceBEq, Int.reduceLE, Int.reduceLT, Int.reduceEq, Int.reduceNe, Int.reduceAdd, Int.reduceSub, Int.reduceToNat, Int.reduceNeg, ↓reduceIte, reduceCtorEq]
  refine WT_drawE ?_
  simp only [g1, g2, lay, wk3, wk, iaddrV_map, Nat.reduceAdd, Nat.reduceSub, Nat.reduceMul, Nat.reduceLeDiff, Nat.reduceEqDiff, Nat.reduceBEq, Int.reduceLE, Int.reduceLT, Int.reduceEq, Int.reduceNe, Int.reduceAdd, Int.reduceSub, Int.reduceToNat, Int.reduceNeg, ↓reduceIte, reduceCtorEq]
  refine CT_ok (hidd _) ?_
  rintro _ _ ⟨rfl, rfl⟩
  simp only [g1, g2, lay, wk3, wk, iaddrV_map, Nat.reduceAdd, Nat.reduceSub, Nat.reduceMul, Nat.reduceLeDiff, Nat.reduceEqDiff, Nat.reduceBEq, Int.reduceLE, Int.reduceLT, Int.reduceEq, Int.reduceNe, Int.reduceAdd, Int.reduceSub, Int.reduceToNat, Int.reduceNeg, ↓reduceIte, reduceCtorEq]
  refine WDT_more 0 ?_
  simp only [g1, g2, lay, wk3, wk, iaddrV_map, Nat.reduceAdd, Nat.reduceSub, Nat.reduceMul, Nat.reduceLeDiff, Nat.reduceEqDiff, Nat.reduceBEq, Int.reduceLE, Int.reduceLT, Int.reduceEq, Int.reduceNe, Int.reduceAdd, Int.reduceSub, Int.reduceToNat, Int.reduceNeg, ↓reduceIte, reduceCtorEq]
  refine ⟨by rfl, ?_⟩
  exact KWk_bare (by simp [bare, bareL]) ⟨by rw [hn]; rfl, rfl⟩
 have he : (decide (0 ≤ x.id) && decide (x.id ≤ 65535)) = true := by simp; omega
 simp only [he] at hidd
 have hml : (l ++ [x]).length = l.length + 1 := by simp
 rcases Nat.eq_zero_or_pos l.length with h0 | h0
 ·have hn := hyes ((addOk_iff _ _).2 ⟨by omega, by omega, by omega, by omega⟩)
  have g4 : ¬ (0 : Int) < (l.length : Int) := by omega
  simp only [asets, cellD, aset, lay, wk3, wk, iaddrV_map, Nat.reduceAdd, Nat.reduceSub, Nat.reduceMul, Nat.reduceLeDiff, Nat.reduceEqDiff, Nat.reduceBEq, Int.reduceLE, Int.reduceLT, Int.reduceEq, Int.reduceNe, Int.reduceAdd, Int.reduceSub, Int.reduceToNat, Int.reduceNeg, ↓reduceIte, reduceCtorEq]
  refine WT_drawE ?_
  simp only [g1, g2, lay, wk3, wk, iaddrV_map, Nat.reduceAdd, Nat.reduceSub, Nat.reduceMul, Nat.reduceLeDiff, Nat.reduceEqDiff, Nat.reduceBEq, Int.reduceLE, Int.reduceLT, Int.reduceEq, Int.reduceNe, Int.reduceAdd, Int.reduceSub, Int.reduceToNat, Int.reduceNeg, ↓reduceIte, reduceCtorEq]
  refine CT_ok (hidd _) ?_
  rintro _ _ ⟨rfl, rfl⟩
  simp only [g1, g2, g4, lay, wk3, wk, iaddrV_map, Nat.reduceAdd, Nat.reduceSub, Nat.reduceMul, Nat.reduceLeDiff, Nat.reduceEqDiff, Nat.reduceBEq, Int.reduceLE, Int.reduceLT, Int.reduceEq, Int.reduceNe, Int.reduceAdd, Int.reduceSub, Int.reduceToNat, Int.reduceNeg, ↓reduceIte, reduceCtorEq]
  refine WDT_more 0 ?_
  simp only [g1, g2, g4, lay, wk3, wk, iaddrV_map, Nat.reduceAdd, Nat.reduceSub, Nat.reduceMul, Nat.reduceLeDiff, Nat.reduceEqDiff, Nat.reduceBEq, Int.reduceLE, Int.reduceLT, Int.reduceEq, Int.reduceNe, Int.reduceAdd, Int.reduceSub, Int.reduceToNat, Int.reduceNeg, ↓reduceIte, reduceCtorEq]
  refine ⟨by rfl, ?_⟩
  refine WT_drawE ?_
  refine WDT_more 2 ?_
  simp only [cellsD, rows5D, lay, wk3, wk, iaddrV_map, Nat.reduceAdd, Nat.reduceSub, Nat.reduceMul, Nat.reduceLeDiff, Nat.reduceEqDiff, Nat.reduceBEq, Int.reduceLE, Int.reduceLT, Int.reduceEq, Int.reduceNe, Int.reduceAdd, Int.reduceSub, Int.reduceToNat, Int.reduceNeg, ↓reduceIte, reduceCtorEq]
  refine ⟨by omega, ?_⟩
  simp only [ren, renL, cellsD, rows5D, lay, wk3, wk, iaddrV_map, Nat.reduceAdd, Nat.reduceSub, Nat.reduceMul, Nat.reduceLeDiff, Nat.reduceEqDiff, Nat.reduceBEq, Int.reduceLE, Int.reduceLT, Int.reduceEq, Int.reduceNe, Int.reduceAdd, Int.reduceSub, Int.reduceToNat, Int.reduceNeg, ↓reduceIte, reduceCtorEq]
  refine ⟨⟨by omega, by omega⟩, by omega, by omega, by rfl, ⟨by omega, by omega⟩, ?_⟩
  rw [hn]
  exact KWk_sets 1 (l ++ [x]) 0 _ (by simp) (by rw [List.map_append]; rfl) ⟨rfl, rfl⟩
 ·have w1 : IntKind.i64.wrap ((l.length : Int) - 1) = ((l.length - 1 : Nat) : Int) := by rw [IntWalk.i64_in _ (by omega)]; omega
  have g4 : (0 : Int) < (l.length : Int) := by omega
  have g6 : (0 : Int) ≤ ((l.length - 1 : Nat) : Int) := by omega
  have g7 : ((l.length - 1 : Nat) : Int) < (l.length : Int) := by omega
  simp only [asets, cellD, aset, lay, wk3, wk, iaddrV_map, Nat.reduceAdd, Nat.reduceSub, Nat.reduceMul, Nat.reduceLeDiff, Nat.reduceEqDiff, Nat.reduceBEq, Int.reduceLE, Int.reduceLT, Int.reduceEq, Int.reduceNe, Int.reduceAdd, Int.reduceSub, Int.reduceToNat, Int.reduceNeg, ↓reduceIte, reduceCtorEq]
  refine WT_drawE ?_
  simp only [g1, g2, lay, wk3, wk, iaddrV_map, Nat.reduceAdd, Nat.reduceSub, Nat.reduceMul, Nat.reduceLeDiff, Nat.reduceEqDiff, Nat.reduceBEq, Int.reduceLE, Int.reduceLT, Int.reduceEq, Int.reduceNe, Int.reduceAdd, Int.reduceSub, Int.reduceToNat, Int.reduceNeg, ↓reduceIte, reduceCtorEq]
  refine CT_ok (hidd _) ?_
  rintro _ _ ⟨rfl, rfl⟩
  simp only [g1, g2, g4, lay, wk3, wk, iaddrV_map, Nat.reduceAdd, Nat.reduceSub, Nat.reduceMul, Nat.reduceLeDiff, Nat.reduceEqDiff, Nat.reduceBEq, Int.reduceLE, Int.reduceLT, Int.reduceEq, Int.reduceNe, Int.reduceAdd, Int.reduceSub, Int.reduceToNat, Int.reduceNeg, ↓reduceIte, reduceCtorEq]
  refine WDT_more 0 ?_
  simp only [g1, g2, g4, g6, g7, w1, iaddr_dset, pdset, lay, wk3, wk, iaddrV_map, Nat.reduceAdd, Nat.reduceSub, Nat.reduceMul, Nat.reduceLeDiff, Nat.reduceEqDiff, Nat.reduceBEq, Int.reduceLE, Int.reduceLT, Int.reduceEq, Int.reduceNe, Int.reduceAdd, Int.reduceSub, Int.reduceToNat, Int.reduceNeg, ↓reduceIte, reduceCtorEq]
  refine ⟨by rfl, ?_⟩
  by_cases g5 : x.id ≤ (l.getD (l.length - 1) default).id
  ·have hn := hno (addOk_no (by omega))
   simp only [g5, lay, wk3, wk, iaddrV_map, Nat.reduceAdd, Nat.reduceSub, Nat.reduceMul, Nat.reduceLeDiff, Nat.reduceEqDiff, Nat.reduceBEq, Int.reduceLE, Int.reduceLT, Int.reduceEq, Int.reduceNe, Int.reduceAdd, Int.reduceSub, Int.reduceToNat, Int.reduceNeg, ↓reduceIte, reduceCtorEq]
   exact KWk_bare (by simp [bare, bareL]) ⟨by rw [hn]; rfl, rfl⟩
  ·have hn := hyes ((addOk_iff _ _).2 ⟨by omega, by omega, by omega, by omega⟩)
   simp only [g5, lay, wk3, wk, iaddrV_map, Nat.reduceAdd, Nat.reduceSub, Nat.reduceMul, Nat.reduceLeDiff, Nat.reduceEqDiff, Nat.reduceBEq, Int.reduceLE, Int.reduceLT, Int.reduceEq, Int.reduceNe, Int.reduceAdd, Int.reduceSub, Int.reduceToNat, Int.reduceNeg, ↓reduceIte, reduceCtorEq]
   refine WT_drawE ?_
   refine WDT_more 2 ?_
   simp only [cellsD, rows5D, lay, wk3, wk, iaddrV_map, Nat.reduceAdd, Nat.reduceSub, Nat.reduceMul, Nat.reduceLeDiff, Nat.reduceEqDiff, Nat.reduceBEq, Int.reduceLE, Int.reduceLT, Int.reduceEq, Int.reduceNe, Int.reduceAdd, Int.reduceSub, Int.reduceToNat, Int.reduceNeg, ↓reduceIte, reduceCtorEq]
   refine ⟨by omega, ?_⟩
   simp only [ren, renL, cellsD, rows5D, lay, wk3, wk, iaddrV_map, Nat.reduceAdd, Nat.reduceSub, Nat.reduceMul, Nat.reduceLeDiff, Nat.reduceEqDiff, Nat.reduceBEq, Int.reduceLE, Int.reduceLT, Int.reduceEq, Int.reduceNe, Int.reduceAdd, Int.reduceSub, Int.reduceToNat, Int.reduceNeg, ↓reduceIte, reduceCtorEq]
   refine ⟨⟨by omega, by omega⟩, by omega, by omega, by rfl, ⟨by omega, by omega⟩, ?_⟩
   rw [hn]
   exact KWk_sets 1 (l ++ [x]) 0 _ (by simp) (by rw [List.map_append]; rfl) ⟨rfl, rfl⟩
theorem moreL (l : List Dset) (hl : Short l) (x : Dset) (hx : x.files.length ≤ 1000000) (H : AH) :
 C Tryz.prog 108 [asets l, .agg (cellD x)] H (fun y H' => y = outA (addA l x.id x) ∧ H' = H) :=
 C_any (more0 l hl x hx) (by simp [bareL, bare, asets, cellD, aset]) (outA_bare _) H
theorem addA_id (l : List Dset) (n : Int) (x y : Dset) (h : ({ x with id := n } : Dset) = y) : addA l n x = addA l n y := by
 subst h; rfl
theorem rcreate0 (l : List Dset) (hl : Short l) (next q : Int) : C Tryz.prog 70 [asets l, .int .i64 next, .int .i64 q] [] (fun x H' => x = outA (createA l next q) ∧ H' = []) := by
 refine C_body' d70 rfl (WT_ok ?_)
 unfold c70 createA
 by_cases h1 : q < 0
 ·rw [if_pos (.inl h1)]
  simp only [h1, lay, wk3, wk, iaddrV_map, Nat.reduceAdd, Nat.reduceSub, Nat.reduceMul, Nat.reduceLeDiff, Nat.reduceEqDiff, Nat.reduceBEq, Int.reduceLE, Int.reduceLT, Int.reduceEq, Int.reduceNe, Int.reduceAdd, Int.reduceSub, Int.reduceToNat, Int.reduceNeg, ↓reduceIte, reduceCtorEq]
  exact KWk_bare (by simp [bare, bareL, asets]) ⟨rfl, rfl⟩
 by_cases h2 : 255 < q
 ·rw [if_pos (.inr h2)]
  simp only [h1, h2, lay, wk3, wk, iaddrV_map, Nat.reduceAdd, Nat.reduceSub, Nat.reduceMul, Nat.reduceLeDiff, Nat.reduceEqDiff, Nat.reduceBEq, Int.reduceLE, Int.reduceLT, Int.reduceEq, Int.reduceNe, Int.reduceAdd, Int.reduceSub, Int.reduceToNat, Int.reduceNeg, ↓reduceIte, reduceCtorEq]
  exact KWk_bare (by simp [bare, bareL, asets]) ⟨rfl, rfl⟩
 ·rw [if_neg (fun h => h.elim h1 h2), addA_id l next _ ⟨next, 1, 0, q, newA⟩ rfl]
  simp only [h1, h2, lay, wk3, wk, iaddrV_map, Nat.reduceAdd, Nat.reduceSub, Nat.reduceMul, Nat.reduceLeDiff, Nat.reduceEqDiff, Nat.reduceBEq, Int.reduceLE, Int.reduceLT, Int.reduceEq, Int.reduceNe, Int.reduceAdd, Int.reduceSub, Int.reduceToNat, Int.reduceNeg, ↓reduceIte, reduceCtorEq]
  refine CT_ok (newL _) ?_
  rintro _ _ ⟨rfl, rfl⟩
  simp only [aset, lay, wk3, wk, iaddrV_map, Nat.reduceAdd, Nat.reduceSub, Nat.reduceMul, Nat.reduceLeDiff, Nat.reduceEqDiff, Nat.reduceBEq, Int.reduceLE, Int.reduceLT, Int.reduceEq, Int.reduceNe, Int.reduceAdd, Int.reduceSub, Int.reduceToNat, Int.reduceNeg, ↓reduceIte, reduceCtorEq]
  refine CT_ok (moreL l hl ⟨next, 1, 0, q, newA⟩ (show newA.length ≤ 1000000 by decide) _) ?_
  rintro _ _ ⟨rfl, rfl⟩
  simp only [outA, lay, wk3, wk, iaddrV_map, Nat.reduceAdd, Nat.reduceSub, Nat.reduceMul, Nat.reduceLeDiff, Nat.reduceEqDiff, Nat.reduceBEq, Int.reduceLE, Int.reduceLT, Int.reduceEq, Int.reduceNe, Int.reduceAdd, Int.reduceSub, Int.reduceToNat, Int.reduceNeg, ↓reduceIte, reduceCtorEq]
  exact KWk_bare (by simp [bare, bareL, asets]) ⟨rfl, rfl⟩
theorem rsnap0 (l : List Dset) (hl : Short l) (next i : Int) : C Tryz.prog 71 [asets l, .int .i64 next, .int .i64 i] [] (fun x H' => x = outA (snapA l next i) ∧ H' = []) := by
 refine C_body' d71 rfl (WT_ok ?_)
 unfold c71
 simp only [lay, wk3, wk, iaddrV_map, Nat.reduceAdd, Nat.reduceSub, Nat.reduceMul, Nat.reduceLeDiff, Nat.reduceEqDiff, Nat.reduceBEq, Int.reduceLE, Int.reduceLT, Int.reduceEq, Int.reduceNe, Int.reduceAdd, Int.reduceSub, Int.reduceToNat, Int.reduceNeg, ↓reduceIte, reduceCtorEq]
 refine CT_ok (rgetL l hl.1 i _) ?_
 rintro _ _ ⟨rfl, rfl⟩
 cases hg : getA l i with
 | none =>
   have e : snapA l next i = (l, 2) := by unfold snapA; rw [hg]
   rw [e]
   simp only [getV, lay, wk3, wk, iaddrV_map, Nat.reduceAdd, Nat.reduceSub, Nat.reduceMul, Nat.reduceLeDiff, Nat.reduceEqDiff, Nat.reduceBEq, Int.reduceLE, Int.reduceLT, Int.reduceEq, Int.reduceNe, Int.reduceAdd, Int.reduceSub, Int.reduceToNat, Int.reduceNeg, ↓reduceIte, reduceCtorEq]
   exact KWk_bare (by simp [bare, bareL, asets]) ⟨rfl, rfl⟩
 | some d =>
   have hd := hl.2 d (getA_mem hg).1
   by_cases h2 : d.kind = 2
   ·have e : snapA l next i = (l, 11) := by unfold snapA; rw [hg]; exact if_pos h2
    rw [e]
    simp only [getV, h2, cellD, aset, lay, wk3, wk, iaddrV_map, Nat.reduceAdd, Nat.reduceSub, Nat.reduceMul, Nat.reduceLeDiff, Nat.reduceEqDiff, Nat.reduceBEq, Int.reduceLE, Int.reduceLT, Int.reduceEq, Int.reduceNe, Int.reduceAdd, Int.reduceSub, Int.reduceToNat, Int.reduceNeg, ↓reduceIte, reduceCtorEq]
    exact KWk_bare (by simp [bare, bareL, asets]) ⟨rfl, rfl⟩
   ·have e : snapA l next i = addA l next ⟨next, 2, i, 0, d.files⟩ := by unfold snapA; rw [hg]; exact (if_neg h2).trans (addA_id l next _ _ rfl)
    rw [e]
    simp only [getV, h2, cellD, aset, lay, wk3, wk, iaddrV_map, Nat.reduceAdd, Nat.reduceSub, Nat.reduceMul, Nat.reduceLeDiff, Nat.reduceEqDiff, Nat.reduceBEq, Int.reduceLE, Int.reduceLT, Int.reduceEq, Int.reduceNe, Int.reduceAdd, Int.reduceSub, Int.reduceToNat, Int.reduceNeg, ↓reduceIte, reduceCtorEq]
    refine CT_ok (moreL l hl ⟨next, 2, i, 0, d.files⟩ hd _) ?_
    rintro _ _ ⟨rfl, rfl⟩
    simp only [outA, lay, wk3, wk, iaddrV_map, Nat.reduceAdd, Nat.reduceSub, Nat.reduceMul, Nat.reduceLeDiff, Nat.reduceEqDiff, Nat.reduceBEq, Int.reduceLE, Int.reduceLT, Int.reduceEq, Int.reduceNe, Int.reduceAdd, Int.reduceSub, Int.reduceToNat, Int.reduceNeg, ↓reduceIte, reduceCtorEq]
    exact KWk_bare (by simp [bare, bareL, asets]) ⟨rfl, rfl⟩
theorem rclone0 (l : List Dset) (hl : Short l) (next i : Int) : C Tryz.prog 72 [asets l, .int .i64 next, .int .i64 i] [] (fun x H' => x = outA (cloneA l next i) ∧ H' = []) := by
 refine C_body' d72 rfl (WT_ok ?_)
 unfold c72
 simp only [lay, wk3, wk, iaddrV_map, Nat.reduceAdd, Nat.reduceSub, Nat.reduceMul, Nat.reduceLeDiff, Nat.reduceEqDiff, Nat.reduceBEq, Int.reduceLE, Int.reduceLT, Int.reduceEq, Int.reduceNe, Int.reduceAdd, Int.reduceSub, Int.reduceToNat, Int.reduceNeg, ↓reduceIte, reduceCtorEq]
 refine CT_ok (rgetL l hl.1 i _) ?_
 rintro _ _ ⟨rfl, rfl⟩
 cases hg : getA l i with
 | none =>
   have e : cloneA l next i = (l, 2) := by unfold cloneA; rw [hg]
   rw [e]
   simp only [getV, lay, wk3, wk, iaddrV_map, Nat.reduceAdd, Nat.reduceSub, Nat.reduceMul, Nat.reduceLeDiff, Nat.reduceEqDiff, Nat.reduceBEq, Int.reduceLE, Int.reduceLT, Int.reduceEq, Int.reduceNe, Int.reduceAdd, Int.reduceSub, Int.reduceToNat, Int.reduceNeg, ↓reduceIte, reduceCtorEq]
   exact KWk_bare (by simp [bare, bareL, asets]) ⟨rfl, rfl⟩
 | some d =>
   have hd := hl.2 d (getA_mem hg).1
   by_cases h2 : d.kind = 2
   ·have e : cloneA l next i = addA l next ⟨next, 1, i, 0, d.files⟩ := by unfold cloneA; rw [hg]; exact (if_pos h2).trans (addA_id l next _ _ rfl)
    rw [e]
    simp only [getV, h2, cellD, aset, lay, wk3, wk, iaddrV_map, Nat.reduceAdd, Nat.reduceSub, Nat.reduceMul, Nat.reduceLeDiff, Nat.reduceEqDiff, Nat.reduceBEq, Int.reduceLE, Int.reduceLT, Int.reduceEq, Int.reduceNe, Int.reduceAdd, Int.reduceSub, Int.reduceToNat, Int.reduceNeg, ↓reduceIte, reduceCtorEq]
    refine CT_ok (moreL l hl ⟨next, 1, i, 0, d.files⟩ hd _) ?_
    rintro _ _ ⟨rfl, rfl⟩
    simp only [outA, lay, wk3, wk, iaddrV_map, Nat.reduceAdd, Nat.reduceSub, Nat.reduceMul, Nat.reduceLeDiff, Nat.reduceEqDiff, Nat.reduceBEq, Int.reduceLE, Int.reduceLT, Int.reduceEq, Int.reduceNe, Int.reduceAdd, Int.reduceSub, Int.reduceToNat, Int.reduceNeg, ↓reduceIte, reduceCtorEq]
    exact KWk_bare (by simp [bare, bareL, asets]) ⟨rfl, rfl⟩
   ·have e : cloneA l next i = (l, 1) := by unfold cloneA; rw [hg]; exact if_neg h2
    rw [e]
    simp only [getV, h2, cellD, aset, lay, wk3, wk, iaddrV_map, Nat.reduceAdd, Nat.reduceSub, Nat.reduceMul, Nat.reduceLeDiff, Nat.reduceEqDiff, Nat.reduceBEq, Int.reduceLE, Int.reduceLT, Int.reduceEq, Int.reduceNe, Int.reduceAdd, Int.reduceSub, Int.reduceToNat, Int.reduceNeg, ↓reduceIte, reduceCtorEq]
    exact KWk_bare (by simp [bare, bareL, asets]) ⟨rfl, rfl⟩
end Go.Proofs.YtemjlopoffjmpaaGreat.Abs
set_option linter.unusedSimpArgs false
set_option linter.unusedVariables false
namespace Go.Proofs.YtemjlopoffjmpaaGreat.Abs
open Go Go.Proofs
def StepR (l : List UInt8) (n : Int) (x : AV) (H' : AH) : Prop := ∃ (k i m n' : Int) (p q t : List UInt8), p.length ≤ 1000000 ∧ q.length ≤ 1000000 ∧ t.length ≤ 1000000 ∧ (n ≤ n' ∧ 1 ≤ k ∧ (k ≤ 5 ∨ 9 ≤ k) ∧ k ≤ 14) ∧ x = editA k i m p q t ∧ H' = picksH l n'
theorem KWk_step {l : List UInt8} {n k i m n' : Int} {p q t : List UInt8} {R : AH} (hp : p.length ≤ 1000000) (hq : q.length ≤ 1000000) (ht : t.length ≤ 1000000) (hn : n ≤ n' ∧ 1 ≤ k ∧ (k ≤ 5 ∨ 9 ≤ k) ∧ k ≤ 14) :
 KWk 1 (StepR l n) (.agg [.int .i64 k, .int .i64 i, .int .i64 m, .int .i64 0, .int .i64 0, .str p, .str q, .str t, .emp]) (some [[.fz (l.map pbyte), .int .i64 n']] :: R) := by
 refine ⟨_, _, ?_, k, i, m, n', p, q, t, hp, hq, ht, hn, rfl, rfl⟩
 have h := Wk_forget (n0 := 1) (fr := [editA k i m p q t]) (H := some [[.fz (l.map pbyte), .int .i64 n']] :: R) 1 (Nat.le_refl _)
 simpa [mapH, renL, ren, editA, picksH] using h
theorem set45 (l : List UInt8) (n i : Int) (hn : 0 ≤ n) (hl : l.length ≤ 1000000) :
 C Tryz.prog 45 [.ptr 0 0 0 1, .int .i64 i] (picksH l n) (StepR l n) := by
 refine C_body' d45 rfl (WT_ok ?_)
 unfold c45
 simp only [picksH, lay, iaddr_node, pnode, wk3, wk, seval]
 refine CT_ok (num_at l n 6 (by omega) hl _) ?_
 rintro _ H ⟨m, n1, rfl, k1, k2, k3, k4, _, rfl⟩
 have g1 : m < 6 := k2 (by omega)
 have w1 : IntKind.i64.wrap (9 + m) = 9 + m := IntWalk.i64_in _ (by omega)
 simp only [w1, lay, iaddr_node, pnode, wk3, wk, seval]
 by_cases v9 : 9 + m = 9
 ·simp only [v9, lay, iaddr_node, pnode, wk3, wk, seval]
  refine CT_ok (num_at l n1 9 (by omega) hl _) ?_
  rintro _ H ⟨m2, n2, rfl, j1, j2, j3, j4, _, rfl⟩
  simp only [lay, iaddr_node, pnode, wk3, wk, seval]
  exact KWk_step (by simp) (by simp) (by simp) (by omega)
 by_cases v13 : 9 + m = 13
 ·simp only [v13, lay, iaddr_node, pnode, wk3, wk, seval]
  refine CT_ok (num_at l n1 8 (by omega) hl _) ?_
  rintro _ H ⟨m2, n2, rfl, j1, j2, j3, j4, _, rfl⟩
  have w2 : IntKind.i64.wrap (1 + m2) = 1 + m2 := IntWalk.i64_in _ (by omega)
  simp only [w2, lay, iaddr_node, pnode, wk3, wk, seval]
  exact KWk_step (by simp) (by simp) (by simp) (by omega)
 ·simp only [v9, v13, lay, iaddr_node, pnode, wk3, wk, seval]
  exact KWk_step (by simp) (by simp) (by simp) (by omega)
def poolC (nx : Int) (v : AV) : List AV := [.emp, .emp, .int .i64 0, .int .i64 0, .bool false, .int .i64 0, .int .i64 0, .int .u32 0, .int .u32 0, .int .u32 0, .int .u32 0, .int .i64 0, .int .i64 nx, .int .i64 0, .int .i64 0, .int .i64 0, .int .u32 0, .int .u32 0, .int .u32 0, .int .u32 0, .int .i64 0, .int .i64 0, .int .u32 0, .int .u32 0, .int .u32 0, .int .u32 0, .int .i64 0, .int .i64 0, .int .u32 0, .int .u32 0, .int .u32 0, .int .u32 0, .int .i64 0, .emp, .emp, .emp, .emp, .int .i64 0, .int .i64 0, v, .bool false]
def ansC (e m : Int) : List AV := [.int .i64 e, .str [], .int .i64 0, .int .i64 0, .int .i64 0, .int .i64 0, .emp, .int .i64 m]
def toldA (nx : Int) (l : List Dset) (e m : Int) : AV := .tuple [.agg (poolC nx (asets l)), .agg (ansC e m)]
theorem told_bare (nx : Int) (l : List Dset) (e m : Int) : bare (toldA nx l e m) = true := by simp [toldA, poolC, ansC, bare, bareL, asets]
theorem tells86 (nx : Int) (l : List Dset) (e : Int) (H : AH) : C Tryz.prog 86 [.agg (poolC nx (asets l)), .int .i64 e] H (fun x H' => x = toldA nx l e 0 ∧ H' = H) := by
 refine C_any ?_ (by simp [bareL, bare, asets, poolC]) (told_bare _ _ _ _) H
 refine C_body' d86 rfl (WT_ok ?_)
 unfold c86
 simp only [poolC, asets, lay, slicelV_own, slicelV_fz, onLive_some, RT_slicel, RE_slicel, slice3V_eq, room3_some, roomOf_own, roomOf_fz, RT_slice3, RT_calld, apI_some, clC_some, clearV_own, clearV_fz, wk3, wk, iaddrV_map, seval]
 exact KWk_bare (by simp [bare, bareL]) ⟨rfl, rfl⟩
theorem changes87 (k : Int) (hk : k ≤ 5 ∨ 9 ≤ k) (hk2 : k ≤ 14) (H : AH) : C Tryz.prog 87 [.int .i64 k] H (fun x H' => x = .bool true ∧ H' = H) := by
 refine C_body d87 rfl (WT_ok ?_)
 unfold c87
 have h6 : ¬ k = 6 := by omega
 have h7 : ¬ k = 7 := by omega
 have h8 : ¬ k = 8 := by omega
 have h17 : k ≤ 17 := by omega
 simp only [h6, h7, h8, h17, lay, slicelV_own, slicelV_fz, onLive_some, RT_slicel, RE_slicel, slice3V_eq, room3_some, roomOf_own, roomOf_fz, RT_slice3, RT_calld, apI_some, clC_some, clearV_own, clearV_fz, wk3, wk, iaddrV_map, seval]
end Go.Proofs.YtemjlopoffjmpaaGreat.Abs
set_option linter.unusedSimpArgs false
set_option linter.unusedVariables false
namespace Go.Proofs.YtemjlopoffjmpaaGreat.Abs
open Go Go.Proofs
theorem filesA_may {l : List Dset} (h : MayL l) (i : Int) {s : List Node} (hs : Wf s) : MayL (filesA l i s).1 ∧ (filesA l i s).1.length = l.length := by
 unfold filesA
 cases hg : getA l i with
 | none => exact ⟨h, rfl⟩
 | some d =>
   simp only
   split
   ·exact ⟨h, rfl⟩
   ·split
    ·exact ⟨h, rfl⟩
    ·refine ⟨?_, List.length_set⟩
     rcases find_of (l := l) (i := i) with ⟨e, _⟩ | ⟨k, e, hk, hid, _⟩
     ·rw [getA_no e] at hg; cases hg
     rw [getA_of e] at hg
     have hd := Option.some.inj hg
     rw [e, Int.toNat_natCast, ← hd]
     show MayL (l.set k _)
     rw [set_map h hk (fun d => { d with files := s })]
     obtain ⟨r, hr⟩ := h.tree
     refine h.map _ (fun d _ => by split <;> rfl) (fun d _ => by split <;> rfl) (fun d _ => by split <;> rfl) (fun d hd => ?_) (fun d hd e => ?_) (fun d hd e => ?_) r (fun d hd o ho e => ?_)
     ·split
      ·exact hs
      ·exact (h.each d hd).files
     ·have := ((h.each d hd).snap e).2
      split <;> exact this
     ·have := (h.each d hd).live e
      split <;> exact this
     ·have : o.id = d.origin := by
       rw [e]; split <;> rfl
      exact hr d hd o ho this
theorem filesL (l : List Dset) (hl : Short l) (i : Int) (s : List Node) (hs : s.length ≤ 1000000) (H : AH) :
 C Tryz.prog 17 [asets l, .int .i64 i, aset s] H (fun y H' => y = outA (filesA l i s) ∧ H' = H) :=
 C_any (filesA0 l hl i s hs) (by simp [bareL, bare, asets, aset]) (outA_bare _) H
def StepN (nx nx' : Int) (l l' : List Dset) : Prop := (l ≠ [] → l' ≠ []) ∧ ((∀ d ∈ l, d.id < nx) → ∀ d ∈ l', d.id < nx')
theorem StepN.refl (nx : Int) (l : List Dset) : StepN nx nx l l := ⟨fun h => h, fun h => h⟩
theorem filesA_ids {l : List Dset} (i : Int) (s : List Node) {nx : Int} (h : ∀ d ∈ l, d.id < nx) : ∀ d ∈ (filesA l i s).1, d.id < nx := by
 unfold filesA
 cases hg : getA l i with
 | none => exact h
 | some d =>
   simp only
   split
   ·exact h
   ·split
    ·exact h
    ·intro x hx
     rcases List.mem_or_eq_of_mem_set hx with hx | rfl
     ·exact h x hx
     ·exact h d (getA_mem hg).1
def PoolR (nx : Int) (l : List Dset) (y : AV) : Prop := ∃ (l' : List Dset) (nx' e m : Int), MayL l' ∧ StepN nx nx' l l' ∧ nx ≤ nx' ∧ nx' ≤ nx + 1 ∧ y = toldA nx' l' e m
theorem PoolR.bare {nx : Int} {l : List Dset} {y : AV} (h : PoolR nx l y) : bare y = true := by
 obtain ⟨l', nx', e, m, _, _, _, _, rfl⟩ := h
 exact told_bare _ _ _ _
set_option maxHeartbeats 2000000 in
theorem files88_0 (l : List Dset) (hM : MayL l) (nx k i m : Int) (hk : 1 ≤ k ∧ k ≤ 5) (p q t : List UInt8) (hp : p.length ≤ 1000000) (hq : q.length ≤ 1000000) (ht : t.length ≤ 1000000) :
 C Tryz.prog 88 [.agg (poolC nx (asets l)), editA k i m p q t] [] (fun y H' => PoolR nx l y ∧ H' = []) := by
 have hl := hM.short
 have told : ∀ e : Int, PoolR nx l (toldA nx l e 0) := fun e => ⟨l, nx, e, 0, hM, StepN.refl _ _, Int.le_refl _, by omega, rfl⟩
 have put : ∀ u, Wf u → PoolR nx l (toldA nx (filesA l i u).1 (filesA l i u).2 0) := fun u hu => by
  obtain ⟨h1, h2⟩ := filesA_may hM i hu
  exact ⟨_, nx, _, 0, h1, ⟨fun h e => h (List.length_eq_zero_iff.1 (by rw [← h2, e]; rfl)), filesA_ids i u⟩, Int.le_refl _, by omega, rfl⟩
 refine C_body' d88 rfl (WT_ok ?_)
 unfold c88
 simp only [poolC, editA, asets, lay, iaddr_node, pnode, wk3, wk, Nat.reduceAdd, Nat.reduceSub, Nat.reduceMul, Nat.reduceLeDiff, Nat.reduceEqDiff, Nat.reduceBEq, Int.reduceLE, Int.reduceLT, Int.reduceEq, Int.reduceNe, Int.reduceAdd, Int.reduceSub, Int.reduceToNat, Int.reduceNeg, ↓reduceIte, reduceCtorEq]
 refine CT_ok (rgetL l hl.1 i _) ?_
 rintro _ _ ⟨rfl, rfl⟩
 cases hg : getA l i with
 | none =>
   simp only [getV, lay, iaddr_node, pnode, wk3, wk, Nat.reduceAdd, Nat.reduceSub, Nat.reduceMul, Nat.reduceLeDiff, Nat.reduceEqDiff, Nat.reduceBEq, Int.reduceLE, Int.reduceLT, Int.reduceEq, Int.reduceNe, Int.reduceAdd, Int.reduceSub, Int.reduceToNat, Int.reduceNeg, ↓reduceIte, reduceCtorEq]
   refine CT_ok (tells86 nx l 2 _) ?_
   rintro _ _ ⟨rfl, rfl⟩
   simp only [toldA, poolC, ansC, asets, lay, iaddr_node, pnode, wk3, wk, Nat.reduceAdd, Nat.reduceSub, Nat.reduceMul, Nat.reduceLeDiff, Nat.reduceEqDiff, Nat.reduceBEq, Int.reduceLE, Int.reduceLT, Int.reduceEq, Int.reduceNe, Int.reduceAdd, Int.reduceSub, Int.reduceToNat, Int.reduceNeg, ↓reduceIte, reduceCtorEq]
   exact KWk_bare (told_bare nx l 2 0) ⟨told 2, rfl⟩
 | some d =>
 have hd := hM.each d (getA_mem hg).1
 simp only [getV, cellD, aset, lay, iaddr_node, pnode, wk3, wk, Nat.reduceAdd, Nat.reduceSub, Nat.reduceMul, Nat.reduceLeDiff, Nat.reduceEqDiff, Nat.reduceBEq, Int.reduceLE, Int.reduceLT, Int.reduceEq, Int.reduceNe, Int.reduceAdd, Int.reduceSub, Int.reduceToNat, Int.reduceNeg, ↓reduceIte, reduceCtorEq]
 refine CT_ok (changes87 k (by omega) (by omega) _) ?_
 rintro _ _ ⟨rfl, rfl⟩
 by_cases h2 : d.kind = 2
 ·simp only [h2, lay, iaddr_node, pnode, wk3, wk, Nat.reduceAdd, Nat.reduceSub, Nat.reduceMul, Nat.reduceLeDiff, Nat.reduceEqDiff, Nat.reduceBEq, Int.reduceLE, Int.reduceLT, Int.reduceEq, Int.reduceNe, Int.reduceAdd, Int.reduceSub, Int.reduceToNat, Int.reduceNeg, ↓reduceIte, reduceCtorEq]
  refine CT_ok (tells86 nx l 11 _) ?_
  rintro _ _ ⟨rfl, rfl⟩
  simp only [toldA, poolC, ansC, asets, lay, iaddr_node, pnode, wk3, wk, Nat.reduceAdd, Nat.reduceSub, Nat.reduceMul, Nat.reduceLeDiff, Nat.reduceEqDiff, Nat.reduceBEq, Int.reduceLE, Int.reduceLT, Int.reduceEq, Int.reduceNe, Int.reduceAdd, Int.reduceSub, Int.reduceToNat, Int.reduceNeg, ↓reduceIte, reduceCtorEq]
  exact KWk_bare (told_bare nx l 11 0) ⟨told 11, rfl⟩
 by_cases h_1 : k = 1
 ·simp only [h2, h_1, lay, iaddr_node, pnode, wk3, wk, Nat.reduceAdd, Nat.reduceSub, Nat.reduceMul, Nat.reduceLeDiff, Nat.reduceEqDiff, Nat.reduceBEq, Int.reduceLE, Int.reduceLT, Int.reduceEq, Int.reduceNe, Int.reduceAdd, Int.reduceSub, Int.reduceToNat, Int.reduceNeg, ↓reduceIte, reduceCtorEq]
  refine CT_ok (make_next (parts_loose p hp) (fun _ h => h) d.files hd.files m _) ?_
  rintro _ _ ⟨rfl, u, e, hu, rfl⟩
  by_cases he : e = 0
  ·simp only [aset, he, lay, iaddr_node, pnode, wk3, wk, Nat.reduceAdd, Nat.reduceSub, Nat.reduceMul, Nat.reduceLeDiff, Nat.reduceEqDiff, Nat.reduceBEq, Int.reduceLE, Int.reduceLT, Int.reduceEq, Int.reduceNe, Int.reduceAdd, Int.reduceSub, Int.reduceToNat, Int.reduceNeg, ↓reduceIte, reduceCtorEq]
   refine CT_ok (filesL l hl i u (by have := hu.len; omega) _) ?_
   rintro _ _ ⟨rfl, rfl⟩
   simp only [outA, asets, lay, iaddr_node, pnode, wk3, wk, Nat.reduceAdd, Nat.reduceSub, Nat.reduceMul, Nat.reduceLeDiff, Nat.reduceEqDiff, Nat.reduceBEq, Int.reduceLE, Int.reduceLT, Int.reduceEq, Int.reduceNe, Int.reduceAdd, Int.reduceSub, Int.reduceToNat, Int.reduceNeg, ↓reduceIte, reduceCtorEq]
   refine WT_drawE ?_
   refine WDT_more 0 ?_
   simp only [lay, iaddr_node, pnode, wk3, wk, Nat.reduceAdd, Nat.reduceSub, Nat.reduceMul, Nat.reduceLeDiff, Nat.reduceEqDiff, Nat.reduceBEq, Int.reduceLE, Int.reduceLT, Int.reduceEq, Int.reduceNe, Int.reduceAdd, Int.reduceSub, Int.reduceToNat, Int.reduceNeg, ↓reduceIte, reduceCtorEq]
   refine ⟨by omega, by rfl, ?_⟩
   exact KWk_bare (told_bare nx (filesA l i u).1 (filesA l i u).2 0) ⟨put u hu, rfl⟩
  ·simp only [aset, he, lay, iaddr_node, pnode, wk3, wk, Nat.reduceAdd, Nat.reduceSub, Nat.reduceMul, Nat.reduceLeDiff, Nat.reduceEqDiff, Nat.reduceBEq, Int.reduceLE, Int.reduceLT, Int.reduceEq, Int.reduceNe, Int.reduceAdd, Int.reduceSub, Int.reduceToNat, Int.reduceNeg, ↓reduceIte, reduceCtorEq]
   refine CT_ok (tells86 nx l e _) ?_
   rintro _ _ ⟨rfl, rfl⟩
   simp only [toldA, poolC, ansC, asets, lay, iaddr_node, pnode, wk3, wk, Nat.reduceAdd, Nat.reduceSub, Nat.reduceMul, Nat.reduceLeDiff, Nat.reduceEqDiff, Nat.reduceBEq, Int.reduceLE, Int.reduceLT, Int.reduceEq, Int.reduceNe, Int.reduceAdd, Int.reduceSub, Int.reduceToNat, Int.reduceNeg, ↓reduceIte, reduceCtorEq]
   exact KWk_bare (told_bare nx l e 0) ⟨told e, rfl⟩
 by_cases h_2 : k = 2
 ·simp only [h2, h_2, lay, iaddr_node, pnode, wk3, wk, Nat.reduceAdd, Nat.reduceSub, Nat.reduceMul, Nat.reduceLeDiff, Nat.reduceEqDiff, Nat.reduceBEq, Int.reduceLE, Int.reduceLT, Int.reduceEq, Int.reduceNe, Int.reduceAdd, Int.reduceSub, Int.reduceToNat, Int.reduceNeg, ↓reduceIte, reduceCtorEq]
  refine CT_ok (drop_spec (parts_loose p hp) d.files hd.files _) ?_
  rintro _ _ ⟨rfl, u, e, hu, rfl⟩
  by_cases he : e = 0
  ·simp only [aset, he, lay, iaddr_node, pnode, wk3, wk, Nat.reduceAdd, Nat.reduceSub, Nat.reduceMul, Nat.reduceLeDiff, Nat.reduceEqDiff, Nat.reduceBEq, Int.reduceLE, Int.reduceLT, Int.reduceEq, Int.reduceNe, Int.reduceAdd, Int.reduceSub, Int.reduceToNat, Int.reduceNeg, ↓reduceIte, reduceCtorEq]
   refine CT_ok (filesL l hl i u (by have := hu.len; omega) _) ?_
   rintro _ _ ⟨rfl, rfl⟩
   simp only [outA, asets, lay, iaddr_node, pnode, wk3, wk, Nat.reduceAdd, Nat.reduceSub, Nat.reduceMul, Nat.reduceLeDiff, Nat.reduceEqDiff, Nat.reduceBEq, Int.reduceLE, Int.reduceLT, Int.reduceEq, Int.reduceNe, Int.reduceAdd, Int.reduceSub, Int.reduceToNat, Int.reduceNeg, ↓reduceIte, reduceCtorEq]
   refine WT_drawE ?_
   refine WDT_more 0 ?_
   simp only [lay, iaddr_node, pnode, wk3, wk, Nat.reduceAdd, Nat.reduceSub, Nat.reduceMul, Nat.reduceLeDiff, Nat.reduceEqDiff, Nat.reduceBEq, Int.reduceLE, Int.reduceLT, Int.reduceEq, Int.reduceNe, Int.reduceAdd, Int.reduceSub, Int.reduceToNat, Int.reduceNeg, ↓reduceIte, reduceCtorEq]
   refine ⟨by omega, by rfl, ?_⟩
   exact KWk_bare (told_bare nx (filesA l i u).1 (filesA l i u).2 0) ⟨put u hu, rfl⟩
  ·simp only [aset, he, lay, iaddr_node, pnode, wk3, wk, Nat.reduceAdd, Nat.reduceSub, Nat.reduceMul, Nat.reduceLeDiff, Nat.reduceEqDiff, Nat.reduceBEq, Int.reduceLE, Int.reduceLT, Int.reduceEq, Int.reduceNe, Int.reduceAdd, Int.reduceSub, Int.reduceToNat, Int.reduceNeg, ↓reduceIte, reduceCtorEq]
   refine CT_ok (tells86 nx l e _) ?_
   rintro _ _ ⟨rfl, rfl⟩
   simp only [toldA, poolC, ansC, asets, lay, iaddr_node, pnode, wk3, wk, Nat.reduceAdd, Nat.reduceSub, Nat.reduceMul, Nat.reduceLeDiff, Nat.reduceEqDiff, Nat.reduceBEq, Int.reduceLE, Int.reduceLT, Int.reduceEq, Int.reduceNe, Int.reduceAdd, Int.reduceSub, Int.reduceToNat, Int.reduceNeg, ↓reduceIte, reduceCtorEq]
   exact KWk_bare (told_bare nx l e 0) ⟨told e, rfl⟩
 by_cases h_3 : k = 3
 ·simp only [h2, h_3, lay, iaddr_node, pnode, wk3, wk, Nat.reduceAdd, Nat.reduceSub, Nat.reduceMul, Nat.reduceLeDiff, Nat.reduceEqDiff, Nat.reduceBEq, Int.reduceLE, Int.reduceLT, Int.reduceEq, Int.reduceNe, Int.reduceAdd, Int.reduceSub, Int.reduceToNat, Int.reduceNeg, ↓reduceIte, reduceCtorEq]
  refine CT_ok (move_spec (parts_loose p hp) (parts_loose q hq) (fun _ h => h) d.files hd.files _) ?_
  rintro _ _ ⟨rfl, u, e, hu, rfl⟩
  by_cases he : e = 0
  ·simp only [aset, he, lay, iaddr_node, pnode, wk3, wk, Nat.reduceAdd, Nat.reduceSub, Nat.reduceMul, Nat.reduceLeDiff, Nat.reduceEqDiff, Nat.reduceBEq, Int.reduceLE, Int.reduceLT, Int.reduceEq, Int.reduceNe, Int.reduceAdd, Int.reduceSub, Int.reduceToNat, Int.reduceNeg, ↓reduceIte, reduceCtorEq]
   refine CT_ok (filesL l hl i u (by have := hu.len; omega) _) ?_
   rintro _ _ ⟨rfl, rfl⟩
   simp only [outA, asets, lay, iaddr_node, pnode, wk3, wk, Nat.reduceAdd, Nat.reduceSub, Nat.reduceMul, Nat.reduceLeDiff, Nat.reduceEqDiff, Nat.reduceBEq, Int.reduceLE, Int.reduceLT, Int.reduceEq, Int.reduceNe, Int.reduceAdd, Int.reduceSub, Int.reduceToNat, Int.reduceNeg, ↓reduceIte, reduceCtorEq]
   refine WT_drawE ?_
   refine WDT_more 0 ?_
   simp only [lay, iaddr_node, pnode, wk3, wk, Nat.reduceAdd, Nat.reduceSub, Nat.reduceMul, Nat.reduceLeDiff, Nat.reduceEqDiff, Nat.reduceBEq, Int.reduceLE, Int.reduceLT, Int.reduceEq, Int.reduceNe, Int.reduceAdd, Int.reduceSub, Int.reduceToNat, Int.reduceNeg, ↓reduceIte, reduceCtorEq]
   refine ⟨by omega, by rfl, ?_⟩
   exact KWk_bare (told_bare nx (filesA l i u).1 (filesA l i u).2 0) ⟨put u hu, rfl⟩
  ·simp only [aset, he, lay, iaddr_node, pnode, wk3, wk, Nat.reduceAdd, Nat.reduceSub, Nat.reduceMul, Nat.reduceLeDiff, Nat.reduceEqDiff, Nat.reduceBEq, Int.reduceLE, Int.reduceLT, Int.reduceEq, Int.reduceNe, Int.reduceAdd, Int.reduceSub, Int.reduceToNat, Int.reduceNeg, ↓reduceIte, reduceCtorEq]
   refine CT_ok (tells86 nx l e _) ?_
   rintro _ _ ⟨rfl, rfl⟩
   simp only [toldA, poolC, ansC, asets, lay, iaddr_node, pnode, wk3, wk, Nat.reduceAdd, Nat.reduceSub, Nat.reduceMul, Nat.reduceLeDiff, Nat.reduceEqDiff, Nat.reduceBEq, Int.reduceLE, Int.reduceLT, Int.reduceEq, Int.reduceNe, Int.reduceAdd, Int.reduceSub, Int.reduceToNat, Int.reduceNeg, ↓reduceIte, reduceCtorEq]
   exact KWk_bare (told_bare nx l e 0) ⟨told e, rfl⟩
 by_cases h_4 : k = 4
 ·simp only [h2, h_4, lay, iaddr_node, pnode, wk3, wk, Nat.reduceAdd, Nat.reduceSub, Nat.reduceMul, Nat.reduceLeDiff, Nat.reduceEqDiff, Nat.reduceBEq, Int.reduceLE, Int.reduceLT, Int.reduceEq, Int.reduceNe, Int.reduceAdd, Int.reduceSub, Int.reduceToNat, Int.reduceNeg, ↓reduceIte, reduceCtorEq]
  refine CT_ok (write_next (parts_loose p hp) d.files hd.files m t (by omega) _) ?_
  rintro _ _ ⟨rfl, u, e, hu, rfl⟩
  by_cases he : e = 0
  ·simp only [aset, he, lay, iaddr_node, pnode, wk3, wk, Nat.reduceAdd, Nat.reduceSub, Nat.reduceMul, Nat.reduceLeDiff, Nat.reduceEqDiff, Nat.reduceBEq, Int.reduceLE, Int.reduceLT, Int.reduceEq, Int.reduceNe, Int.reduceAdd, Int.reduceSub, Int.reduceToNat, Int.reduceNeg, ↓reduceIte, reduceCtorEq]
   refine CT_ok (filesL l hl i u (by have := hu.len; omega) _) ?_
   rintro _ _ ⟨rfl, rfl⟩
   simp only [outA, asets, lay, iaddr_node, pnode, wk3, wk, Nat.reduceAdd, Nat.reduceSub, Nat.reduceMul, Nat.reduceLeDiff, Nat.reduceEqDiff, Nat.reduceBEq, Int.reduceLE, Int.reduceLT, Int.reduceEq, Int.reduceNe, Int.reduceAdd, Int.reduceSub, Int.reduceToNat, Int.reduceNeg, ↓reduceIte, reduceCtorEq]
   refine WT_drawE ?_
   refine WDT_more 0 ?_
   simp only [lay, iaddr_node, pnode, wk3, wk, Nat.reduceAdd, Nat.reduceSub, Nat.reduceMul, Nat.reduceLeDiff, Nat.reduceEqDiff, Nat.reduceBEq, Int.reduceLE, Int.reduceLT, Int.reduceEq, Int.reduceNe, Int.reduceAdd, Int.reduceSub, Int.reduceToNat, Int.reduceNeg, ↓reduceIte, reduceCtorEq]
   refine ⟨by omega, by rfl, ?_⟩
   exact KWk_bare (told_bare nx (filesA l i u).1 (filesA l i u).2 0) ⟨put u hu, rfl⟩
  ·simp only [aset, he, lay, iaddr_node, pnode, wk3, wk, Nat.reduceAdd, Nat.reduceSub, Nat.reduceMul, Nat.reduceLeDiff, Nat.reduceEqDiff, Nat.reduceBEq, Int.reduceLE, Int.reduceLT, Int.reduceEq, Int.reduceNe, Int.reduceAdd, Int.reduceSub, Int.reduceToNat, Int.reduceNeg, ↓reduceIte, reduceCtorEq]
   refine CT_ok (tells86 nx l e _) ?_
   rintro _ _ ⟨rfl, rfl⟩
   simp only [toldA, poolC, ansC, asets, lay, iaddr_node, pnode, wk3, wk, Nat.reduceAdd, Nat.reduceSub, Nat.reduceMul, Nat.reduceLeDiff, Nat.reduceEqDiff, Nat.reduceBEq, Int.reduceLE, Int.reduceLT, Int.reduceEq, Int.reduceNe, Int.reduceAdd, Int.reduceSub, Int.reduceToNat, Int.reduceNeg, ↓reduceIte, reduceCtorEq]
   exact KWk_bare (told_bare nx l e 0) ⟨told e, rfl⟩
 have h_5 : k = 5 := by omega
 ·simp only [h2, h_1, h_2, h_3, h_4, h_5, lay, iaddr_node, pnode, wk3, wk, Nat.reduceAdd, Nat.reduceSub, Nat.reduceMul, Nat.reduceLeDiff, Nat.reduceEqDiff, Nat.reduceBEq, Int.reduceLE, Int.reduceLT, Int.reduceEq, Int.reduceNe, Int.reduceAdd, Int.reduceSub, Int.reduceToNat, Int.reduceNeg, ↓reduceIte, reduceCtorEq]
  refine CT_ok (cut_spec (parts_loose p hp) d.files hd.files m _) ?_
  rintro _ _ ⟨rfl, u, e, hu, rfl⟩
  by_cases he : e = 0
  ·simp only [aset, he, lay, iaddr_node, pnode, wk3, wk, Nat.reduceAdd, Nat.reduceSub, Nat.reduceMul, Nat.reduceLeDiff, Nat.reduceEqDiff, Nat.reduceBEq, Int.reduceLE, Int.reduceLT, Int.reduceEq, Int.reduceNe, Int.reduceAdd, Int.reduceSub, Int.reduceToNat, Int.reduceNeg, ↓reduceIte, reduceCtorEq]
   refine CT_ok (filesL l hl i u (by have := hu.len; omega) _) ?_
   rintro _ _ ⟨rfl, rfl⟩
   simp only [outA, asets, lay, iaddr_node, pnode, wk3, wk, Nat.reduceAdd, Nat.reduceSub, Nat.reduceMul, Nat.reduceLeDiff, Nat.reduceEqDiff, Nat.reduceBEq, Int.reduceLE, Int.reduceLT, Int.reduceEq, Int.reduceNe, Int.reduceAdd, Int.reduceSub, Int.reduceToNat, Int.reduceNeg, ↓reduceIte, reduceCtorEq]
   refine WT_drawE ?_
   refine WDT_more 0 ?_
   simp only [lay, iaddr_node, pnode, wk3, wk, Nat.reduceAdd, Nat.reduceSub, Nat.reduceMul, Nat.reduceLeDiff, Nat.reduceEqDiff, Nat.reduceBEq, Int.reduceLE, Int.reduceLT, Int.reduceEq, Int.reduceNe, Int.reduceAdd, Int.reduceSub, Int.reduceToNat, Int.reduceNeg, ↓reduceIte, reduceCtorEq]
   refine ⟨by omega, by rfl, ?_⟩
   exact KWk_bare (told_bare nx (filesA l i u).1 (filesA l i u).2 0) ⟨put u hu, rfl⟩
  ·simp only [aset, he, lay, iaddr_node, pnode, wk3, wk, Nat.reduceAdd, Nat.reduceSub, Nat.reduceMul, Nat.reduceLeDiff, Nat.reduceEqDiff, Nat.reduceBEq, Int.reduceLE, Int.reduceLT, Int.reduceEq, Int.reduceNe, Int.reduceAdd, Int.reduceSub, Int.reduceToNat, Int.reduceNeg, ↓reduceIte, reduceCtorEq]
   refine CT_ok (tells86 nx l e _) ?_
   rintro _ _ ⟨rfl, rfl⟩
   simp only [toldA, poolC, ansC, asets, lay, iaddr_node, pnode, wk3, wk, Nat.reduceAdd, Nat.reduceSub, Nat.reduceMul, Nat.reduceLeDiff, Nat.reduceEqDiff, Nat.reduceBEq, Int.reduceLE, Int.reduceLT, Int.reduceEq, Int.reduceNe, Int.reduceAdd, Int.reduceSub, Int.reduceToNat, Int.reduceNeg, ↓reduceIte, reduceCtorEq]
   exact KWk_bare (told_bare nx l e 0) ⟨told e, rfl⟩
end Go.Proofs.YtemjlopoffjmpaaGreat.Abs
set_option linter.unusedSimpArgs false
set_option linter.unusedVariables false
namespace Go.Proofs.YtemjlopoffjmpaaGreat.Abs
open Go Go.Proofs
theorem hgB_hangs (l : List Dset) (i : Int) : hgB l i = hangsA l i := by
 unfold hgB hangsA
 rcases idxA_cases (fun d => decide (d.origin = i)) l with ⟨h1, h2⟩ | ⟨k, h1, h2, h3, _⟩
 ·rw [h1, decide_eq_false (by decide), List.any_eq_false]
  intro d hd
  obtain ⟨n, hn, rfl⟩ := mem_dgetD hd
  rw [h2 n hn]; decide
 ·rw [h1, decide_eq_true (by omega), List.any_eq_true]
  exact ⟨_, dgetD_mem h2, h3⟩
theorem filter_erase {l : List Dset} (h : MayL l) {k : Nat} (hk : k < l.length) : l.filter (notA (l.getD k default).id) = l.eraseIdx k := by
 have e : l = l.take k ++ l.getD k default :: l.drop (k + 1) := by
  have : l.drop k = l.getD k default :: l.drop (k + 1) := by
   rw [List.drop_eq_getElem_cons hk, List.getD_eq_getElem?_getD, List.getElem?_eq_getElem hk]; rfl
  rw [← this, List.take_append_drop]
 have h1 : ∀ d ∈ l.take k, notA (l.getD k default).id d = true := fun d hd => by
  obtain ⟨j, hj, rfl⟩ := List.mem_iff_getElem.1 hd
  rw [List.length_take] at hj
  have hj2 : j < l.length := by omega
  have := h.lt (i := j) (j := k) (by omega) hk
  unfold notA
  rw [List.getElem_take, decide_eq_false]; rfl
  intro hh
  rw [List.getD_eq_getElem?_getD, List.getElem?_eq_getElem hj2] at this
  have h3 : (l[j]).id < (l.getD k default).id := this
  omega
 have h2 : ∀ d ∈ l.drop (k + 1), notA (l.getD k default).id d = true := fun d hd => by
  obtain ⟨j, hj, rfl⟩ := List.mem_iff_getElem.1 hd
  rw [List.length_drop] at hj
  have hj2 : k + 1 + j < l.length := by omega
  have := h.lt (i := k) (j := k + 1 + j) (by omega) hj2
  unfold notA
  rw [List.getElem_drop, decide_eq_false]; rfl
  intro hh
  rw [List.getD_eq_getElem?_getD (l := l) (i := k + 1 + j), List.getElem?_eq_getElem hj2] at this
  have h3 : (l.getD k default).id < (l[k + 1 + j]).id := this
  omega
 have h3 : notA (l.getD k default).id (l.getD k default) = false := by unfold notA; simp
 refine (congrArg (List.filter (notA (l.getD k default).id)) e).trans ?_
 rw [List.filter_append, List.filter_cons, List.filter_eq_self.2 h1, List.filter_eq_self.2 h2, h3, if_neg (by decide), List.eraseIdx_eq_take_drop_succ]
theorem destR_eq {l : List Dset} (h : MayL l) (i : Int) : destR l i = destroyA l i := by
 unfold destR destroyA
 rcases find_of (l := l) (i := i) with ⟨e, _⟩ | ⟨k, e, hk, hid, _⟩
 ·rw [getA_no e, if_pos (by omega)]
 ·rw [getA_of e, if_neg (by omega), e, Int.toNat_natCast, hgB_hangs, ← hid, filter_erase h hk]
theorem addA_ne {l : List Dset} (h : l ≠ []) (n : Int) (x : Dset) : (addA l n x).1 ≠ [] := by
 unfold addA
 split
 ·simp
 ·exact h
theorem createA_ne {l : List Dset} (h : l ≠ []) (n q : Int) : (createA l n q).1 ≠ [] := by
 unfold createA
 split
 ·exact h
 ·exact addA_ne h _ _
theorem snapA_ne {l : List Dset} (h : l ≠ []) (n i : Int) : (snapA l n i).1 ≠ [] := by
 unfold snapA
 cases getA l i with
 | none => exact h
 | some d => simp only; split; exact h; exact addA_ne h _ _
theorem cloneA_ne {l : List Dset} (h : l ≠ []) (n i : Int) : (cloneA l n i).1 ≠ [] := by
 unfold cloneA
 cases getA l i with
 | none => exact h
 | some d => simp only; split; exact addA_ne h _ _; exact h
theorem ne_len {l l' : List Dset} (h : l ≠ []) (e : l'.length = l.length) : l' ≠ [] := fun e2 => h (List.length_eq_zero_iff.1 (by rw [← e, e2]; rfl))
theorem backA_ne {l : List Dset} (h : l ≠ []) (i j : Int) : (backA l i j).1 ≠ [] := by
 unfold backA
 split
 ·exact h
 ·simp only
  split
  ·exact h
  ·split
   ·exact h
   ·exact ne_len h List.length_set
theorem promoteA_ne {l : List Dset} (hM : MayL l) (h : l ≠ []) (i : Int) : (promoteA l i).1 ≠ [] := by
 rcases promote_facts hM i with ⟨hA, _⟩ | ⟨c, _, ⟨_, hA⟩ | ⟨_, _, s, o, _, _, hA⟩⟩
 ·rw [hA]; exact h
 ·rw [hA]; exact h
 ·rw [hA]; exact ne_len h (List.length_map _)
theorem destroyA_ne {l : List Dset} (hM : MayL l) (h : l ≠ []) (i : Int) : (destroyA l i).1 ≠ [] := by
 unfold destroyA
 split
 ·exact h
 ·rename_i h1
  split
  ·exact h
  ·rename_i h2
   rcases find_of (l := l) (i := i) with ⟨e, _⟩ | ⟨k, e, hk, hid, _⟩
   ·omega
   rw [e, Int.toNat_natCast] at h2 ⊢
   intro e2
   have hlen := List.length_eraseIdx (l := l) (i := k)
   rw [if_pos hk] at hlen
   have e3 : (l.eraseIdx k).length = 0 := by rw [show l.eraseIdx k = [] from e2]; rfl
   have h4 : l.length = 1 := by omega
   obtain ⟨d, rfl⟩ := List.length_eq_one_iff.1 h4
   have hk0 : k = 0 := by simp at hk; omega
   subst hk0
   have hd := hM.each d (by simp)
   have hk1 : d.kind = 1 := by
    rcases hd.kinds with hh | hh
    ·exact hh
    ·obtain ⟨_, o, ho, _, hok⟩ := hd.snap hh
     rw [List.mem_singleton] at ho
     subst ho; omega
   exact h2 (.inr ⟨hk1, by unfold livesA; simp [hk1]⟩)
theorem addA_ids {l : List Dset} (n : Int) (x : Dset) (h : ∀ d ∈ l, d.id < n) : ∀ d ∈ (addA l n x).1, d.id < n + 1 := by
 unfold addA
 intro d hd
 split at hd
 ·rcases List.mem_append.1 hd with hd | hd
  ·have := h d hd; omega
  ·rw [List.mem_singleton] at hd; subst hd; show n < n + 1; omega
 ·have := h d hd; omega
theorem lt_more {l : List Dset} {n : Int} (h : ∀ d ∈ l, d.id < n) : ∀ d ∈ l, d.id < n + 1 := fun d hd => by have := h d hd; omega
theorem createA_ids {l : List Dset} (n q : Int) (h : ∀ d ∈ l, d.id < n) : ∀ d ∈ (createA l n q).1, d.id < n + 1 := by
 unfold createA
 split
 ·exact lt_more h
 ·exact addA_ids _ _ h
theorem snapA_ids {l : List Dset} (n i : Int) (h : ∀ d ∈ l, d.id < n) : ∀ d ∈ (snapA l n i).1, d.id < n + 1 := by
 unfold snapA
 cases getA l i with
 | none => exact lt_more h
 | some d =>
   simp only
   split
   ·exact lt_more h
   ·exact addA_ids _ _ h
theorem cloneA_ids {l : List Dset} (n i : Int) (h : ∀ d ∈ l, d.id < n) : ∀ d ∈ (cloneA l n i).1, d.id < n + 1 := by
 unfold cloneA
 cases getA l i with
 | none => exact lt_more h
 | some d =>
   simp only
   split
   ·exact addA_ids _ _ h
   ·exact lt_more h
theorem backA_ids {l : List Dset} (i j : Int) {n : Int} (h : ∀ d ∈ l, d.id < n) : ∀ d ∈ (backA l i j).1, d.id < n := by
 unfold backA
 split
 ·exact h
 ·rename_i h1
  simp only
  split
  ·exact h
  ·split
   ·exact h
   ·intro x hx
    rcases find_of (l := l) (i := i) with ⟨e, _⟩ | ⟨k, e, hk, _, _⟩
    ·omega
    ·rcases List.mem_or_eq_of_mem_set hx with hx | rfl
     ·exact h x hx
     ·show (l.getD (findA l i).toNat default).id < n
      rw [e, Int.toNat_natCast]; exact h _ (dgetD_mem hk)
theorem promoteA_ids {l : List Dset} (hM : MayL l) (i : Int) {n : Int} (h : ∀ d ∈ l, d.id < n) : ∀ d ∈ (promoteA l i).1, d.id < n := by
 rcases promote_facts hM i with ⟨hA, _⟩ | ⟨c, _, ⟨_, hA⟩ | ⟨_, _, s, o, _, _, hA⟩⟩
 ·rw [hA]; exact h
 ·rw [hA]; exact h
 ·rw [hA]
  intro d hd
  obtain ⟨x, hx, rfl⟩ := List.mem_map.1 hd
  exact h x hx
theorem destroyA_ids {l : List Dset} (i : Int) {n : Int} (h : ∀ d ∈ l, d.id < n) : ∀ d ∈ (destroyA l i).1, d.id < n := by
 unfold destroyA
 split
 ·exact h
 ·split
  ·exact h
  ·exact fun d hd => h d (List.mem_of_mem_eraseIdx hd)
section
variable (l : List Dset)
theorem rcreateL (hl : Short l) (next q : Int) (H : AH) : C Tryz.prog 70 [asets l, .int .i64 next, .int .i64 q] H (fun x H' => x = outA (createA l next q) ∧ H' = H) := C_any (rcreate0 l hl next q) (by simp [bareL, bare, asets]) (outA_bare _) H
theorem rsnapL (hl : Short l) (next q : Int) (H : AH) : C Tryz.prog 71 [asets l, .int .i64 next, .int .i64 q] H (fun x H' => x = outA (snapA l next q) ∧ H' = H) := C_any (rsnap0 l hl next q) (by simp [bareL, bare, asets]) (outA_bare _) H
theorem rcloneL (hl : Short l) (next q : Int) (H : AH) : C Tryz.prog 72 [asets l, .int .i64 next, .int .i64 q] H (fun x H' => x = outA (cloneA l next q) ∧ H' = H) := C_any (rclone0 l hl next q) (by simp [bareL, bare, asets]) (outA_bare _) H
theorem rpromoteL (hM : MayL l) (i : Int) (H : AH) : C Tryz.prog 73 [asets l, .int .i64 i] H (fun x H' => x = outA (promoteA l i) ∧ H' = H) := C_any (rpromote0 l hM i) (by simp [bareL, bare, asets]) (outA_bare _) H
theorem rbackL (hl : Short l) (i j : Int) (H : AH) : C Tryz.prog 74 [asets l, .int .i64 i, .int .i64 j] H (fun x H' => x = outA (backA l i j) ∧ H' = H) := C_any (rback0 l hl i j) (by simp [bareL, bare, asets]) (outA_bare _) H
theorem rdestroyL (hM : MayL l) (i : Int) (H : AH) : C Tryz.prog 75 [asets l, .int .i64 i] H (fun x H' => x = outA (destroyA l i) ∧ H' = H) := by
 rw [← destR_eq hM i]
 exact C_any (rdestroy0 l hM.short i) (by simp [bareL, bare, asets]) (outA_bare _) H
end
set_option maxHeartbeats 2000000 in
theorem sets89_0 (l : List Dset) (hM : MayL l) (nx k i m : Int) (hk : 9 ≤ k ∧ k ≤ 14) (hnx : 0 ≤ nx ∧ nx ≤ 1000000) (p q t : List UInt8) :
 C Tryz.prog 89 [.agg (poolC nx (asets l)), editA k i m p q t] [] (fun y H' => PoolR nx l y ∧ H' = []) := by
 have hl := hM.short
 have told : ∀ e : Int, PoolR nx l (toldA nx l e 0) := fun e => ⟨l, nx, e, 0, hM, StepN.refl _ _, Int.le_refl _, by omega, rfl⟩
 have w1 : IntKind.i64.wrap (nx + 1) = nx + 1 := IntWalk.i64_in _ (by omega)
 refine C_body' d89 rfl (WT_ok ?_)
 unfold c89
 simp only [poolC, editA, asets, lay, iaddr_node, pnode, wk3, wk, seval]
 by_cases h_9 : k = 9
 ·simp only [h_9, lay, iaddr_node, pnode, wk3, wk, seval]
  refine CT_ok (rcreateL l hl nx m _) ?_
  rintro _ _ ⟨rfl, rfl⟩
  have hm := createA_may hM nx m
  have hne : StepN nx (nx + 1) l (createA l nx m).1 := ⟨fun h => createA_ne h nx m, createA_ids nx m⟩
  generalize createA l nx m = r at hm hne
  obtain ⟨l', e⟩ := r
  by_cases he : e = 0
  ·simp only [outA, asets, he, h_9, w1, lay, iaddr_node, pnode, wk3, wk, seval]
   exact KWk_bare (told_bare (nx + 1) l' 0 nx) ⟨⟨l', nx + 1, 0, nx, hm, hne, by omega, Int.le_refl _, rfl⟩, rfl⟩
  ·simp only [outA, asets, he, lay, iaddr_node, pnode, wk3, wk, seval]
   refine CT_ok (tells86 nx l e _) ?_
   rintro _ _ ⟨rfl, rfl⟩
   simp only [toldA, poolC, ansC, asets, lay, iaddr_node, pnode, wk3, wk, seval]
   exact KWk_bare (told_bare nx l e 0) ⟨told e, rfl⟩
 by_cases h_10 : k = 10
 ·simp only [h_10, lay, iaddr_node, pnode, wk3, wk, seval]
  refine CT_ok (rsnapL l hl nx i _) ?_
  rintro _ _ ⟨rfl, rfl⟩
  have hm := snapA_may hM nx i
  have hne : StepN nx (nx + 1) l (snapA l nx i).1 := ⟨fun h => snapA_ne h nx i, snapA_ids nx i⟩
  generalize snapA l nx i = r at hm hne
  obtain ⟨l', e⟩ := r
  by_cases he : e = 0
  ·simp only [outA, asets, he, h_10, w1, lay, iaddr_node, pnode, wk3, wk, seval]
   exact KWk_bare (told_bare (nx + 1) l' 0 nx) ⟨⟨l', nx + 1, 0, nx, hm, hne, by omega, Int.le_refl _, rfl⟩, rfl⟩
  ·simp only [outA, asets, he, lay, iaddr_node, pnode, wk3, wk, seval]
   refine CT_ok (tells86 nx l e _) ?_
   rintro _ _ ⟨rfl, rfl⟩
   simp only [toldA, poolC, ansC, asets, lay, iaddr_node, pnode, wk3, wk, seval]
   exact KWk_bare (told_bare nx l e 0) ⟨told e, rfl⟩
 by_cases h_11 : k = 11
 ·simp only [h_11, lay, iaddr_node, pnode, wk3, wk, seval]
  refine CT_ok (rcloneL l hl nx i _) ?_
  rintro _ _ ⟨rfl, rfl⟩
  have hm := cloneA_may hM nx i
  have hne : StepN nx (nx + 1) l (cloneA l nx i).1 := ⟨fun h => cloneA_ne h nx i, cloneA_ids nx i⟩
  generalize cloneA l nx i = r at hm hne
  obtain ⟨l', e⟩ := r
  by_cases he : e = 0
  ·simp only [outA, asets, he, h_11, w1, lay, iaddr_node, pnode, wk3, wk, seval]
   exact KWk_bare (told_bare (nx + 1) l' 0 nx) ⟨⟨l', nx + 1, 0, nx, hm, hne, by omega, Int.le_refl _, rfl⟩, rfl⟩
  ·simp only [outA, asets, he, lay, iaddr_node, pnode, wk3, wk, seval]
   refine CT_ok (tells86 nx l e _) ?_
   rintro _ _ ⟨rfl, rfl⟩
   simp only [toldA, poolC, ansC, asets, lay, iaddr_node, pnode, wk3, wk, seval]
   exact KWk_bare (told_bare nx l e 0) ⟨told e, rfl⟩
 by_cases h_12 : k = 12
 ·simp only [h_12, lay, iaddr_node, pnode, wk3, wk, seval]
  refine CT_ok (rpromoteL l hM i _) ?_
  rintro _ _ ⟨rfl, rfl⟩
  have hm := promoteA_may hM i
  have hne : StepN nx nx l (promoteA l i).1 := ⟨fun h => promoteA_ne hM h i, promoteA_ids hM i⟩
  generalize promoteA l i = r at hm hne
  obtain ⟨l', e⟩ := r
  by_cases he : e = 0
  ·simp only [outA, asets, he, h_12, w1, lay, iaddr_node, pnode, wk3, wk, seval]
   exact KWk_bare (told_bare nx l' 0 0) ⟨⟨l', nx, 0, 0, hm, hne, Int.le_refl _, by omega, rfl⟩, rfl⟩
  ·simp only [outA, asets, he, lay, iaddr_node, pnode, wk3, wk, seval]
   refine CT_ok (tells86 nx l e _) ?_
   rintro _ _ ⟨rfl, rfl⟩
   simp only [toldA, poolC, ansC, asets, lay, iaddr_node, pnode, wk3, wk, seval]
   exact KWk_bare (told_bare nx l e 0) ⟨told e, rfl⟩
 by_cases h_13 : k = 13
 ·simp only [h_13, lay, iaddr_node, pnode, wk3, wk, seval]
  refine CT_ok (rbackL l hl i m _) ?_
  rintro _ _ ⟨rfl, rfl⟩
  have hm := backA_may hM i m
  have hne : StepN nx nx l (backA l i m).1 := ⟨fun h => backA_ne h i m, backA_ids i m⟩
  generalize backA l i m = r at hm hne
  obtain ⟨l', e⟩ := r
  by_cases he : e = 0
  ·simp only [outA, asets, he, h_13, w1, lay, iaddr_node, pnode, wk3, wk, seval]
   exact KWk_bare (told_bare nx l' 0 0) ⟨⟨l', nx, 0, 0, hm, hne, Int.le_refl _, by omega, rfl⟩, rfl⟩
  ·simp only [outA, asets, he, lay, iaddr_node, pnode, wk3, wk, seval]
   refine CT_ok (tells86 nx l e _) ?_
   rintro _ _ ⟨rfl, rfl⟩
   simp only [toldA, poolC, ansC, asets, lay, iaddr_node, pnode, wk3, wk, seval]
   exact KWk_bare (told_bare nx l e 0) ⟨told e, rfl⟩
 have h_14 : k = 14 := by omega
 ·simp only [h_14, lay, iaddr_node, pnode, wk3, wk, seval]
  refine CT_ok (rdestroyL l hM i _) ?_
  rintro _ _ ⟨rfl, rfl⟩
  have hm := destroyA_may hM i
  have hne : StepN nx nx l (destroyA l i).1 := ⟨fun h => destroyA_ne hM h i, destroyA_ids i⟩
  generalize destroyA l i = r at hm hne
  obtain ⟨l', e⟩ := r
  by_cases he : e = 0
  ·simp only [outA, asets, he, h_14, w1, lay, iaddr_node, pnode, wk3, wk, seval]
   exact KWk_bare (told_bare nx l' 0 0) ⟨⟨l', nx, 0, 0, hm, hne, Int.le_refl _, by omega, rfl⟩, rfl⟩
  ·simp only [outA, asets, he, lay, iaddr_node, pnode, wk3, wk, seval]
   refine CT_ok (tells86 nx l e _) ?_
   rintro _ _ ⟨rfl, rfl⟩
   simp only [toldA, poolC, ansC, asets, lay, iaddr_node, pnode, wk3, wk, seval]
   exact KWk_bare (told_bare nx l e 0) ⟨told e, rfl⟩
end Go.Proofs.YtemjlopoffjmpaaGreat.Abs
set_option linter.unusedSimpArgs false
set_option linter.unusedVariables false
namespace Go.Proofs.YtemjlopoffjmpaaGreat.Abs
open Go Go.Proofs
structure FilesR (l x : List Dset) (w i : Int) (fs : List Node) (n : Int) : Prop where
 may : MayL x
 len : (x.length : Int) = n
 gone : w = 1 → ∀ d ∈ l, d.id = i → getA x d.id = none
 kept : ∀ d ∈ l, ¬ (w = 1 ∧ d.id = i) → ∃ d', getA x d.id = some d' ∧ d'.kind = d.kind ∧ d'.quota = d.quota ∧ (w ≠ 0 → d'.origin = d.origin) ∧ d'.files = if w = 5 ∧ d.id = i then fs else d.files
theorem promote_files {l : List Dset} (h : MayL l) (i : Int) (h0 : (promoteA l i).2 = 0) (fs : List Node) : FilesR l (promoteA l i).1 0 i fs l.length := by
 have hM := promoteA_may h i
 rcases promote_facts h i with ⟨hA, _⟩ | ⟨c, _, ⟨_, hA⟩ | ⟨_, _, s, o, _, _, hA⟩⟩
 ·rw [hA] at h0; cases h0
 ·rw [hA] at h0; cases h0
 ·rw [hA] at hM ⊢
  refine ⟨hM, by rw [List.length_map], fun e => by omega, fun d hd _ => ⟨proR i s.id o.id o.origin d, ?_, rfl, rfl, fun e => absurd rfl e, ?_⟩⟩
  ·exact hM.find (d := proR i s.id o.id o.origin d) (List.mem_map.2 ⟨d, hd, rfl⟩)
  ·rw [if_neg (by omega)]; rfl
theorem destroy_files {l : List Dset} (h : MayL l) (i : Int) (h0 : (destroyA l i).2 = 0) (fs : List Node) : FilesR l (destroyA l i).1 1 i fs ((l.length : Int) - 1) := by
 have hM := destroyA_may h i
 unfold destroyA at h0 hM ⊢
 split
 ·rename_i h1; rw [if_pos h1] at h0; cases h0
 ·rename_i h1
  rw [if_neg h1] at h0 hM
  split
  ·rename_i h2; rw [if_pos h2] at h0; cases h0
  ·rename_i h2
   rw [if_neg h2] at hM
   rcases find_of (l := l) (i := i) with ⟨e, _⟩ | ⟨k, e, hk, hid, _⟩
   ·omega
   ·rw [e, Int.toNat_natCast] at hM ⊢
    refine ⟨hM, ?_, fun _ d hd e => ?_, fun d hd hn => ⟨d, ?_, rfl, rfl, fun _ => rfl, ?_⟩⟩
    ·show ((l.eraseIdx k).length : Int) = _
     rw [List.length_eraseIdx, if_pos hk]; omega
    ·exact getA_none fun x hx e2 => ((eraseIdx_mem h hk).1 hx).2 (by omega)
    ·exact hM.find ((eraseIdx_mem h hk).2 ⟨hd, fun e2 => hn ⟨rfl, by omega⟩⟩)
    ·rw [if_neg (by omega)]
theorem add_files {l : List Dset} {n : Int} {x : Dset} (hM : MayL (addA l n x).1) (h0 : (addA l n x).2 = 0) (w i : Int) (hw : w ≠ 1 ∧ w ≠ 5) (fs : List Node) : FilesR l (addA l n x).1 w i fs ((l.length : Int) + 1) := by
 unfold addA at h0 hM ⊢
 split
 ·rename_i h1
  rw [if_pos h1] at hM
  refine ⟨hM, by simp, fun e => absurd e hw.1, fun d hd _ => ⟨d, hM.find (by simp [hd]), rfl, rfl, fun _ => rfl, by rw [if_neg (fun e => hw.2 e.1)]⟩⟩
 ·rename_i h1; rw [if_neg h1] at h0; cases h0
theorem create_files {l : List Dset} (h : MayL l) (n q : Int) (h0 : (createA l n q).2 = 0) (i : Int) (fs : List Node) : FilesR l (createA l n q).1 4 i fs ((l.length : Int) + 1) := by
 have hM := createA_may h n q
 unfold createA at h0 hM ⊢
 split
 ·rename_i h1; rw [if_pos h1] at h0; cases h0
 ·rename_i h1
  rw [if_neg h1] at h0 hM
  exact add_files hM h0 4 i (by omega) fs
theorem snap_files {l : List Dset} (h : MayL l) (n i : Int) (h0 : (snapA l n i).2 = 0) (fs : List Node) : FilesR l (snapA l n i).1 3 i fs ((l.length : Int) + 1) := by
 have hM := snapA_may h n i
 unfold snapA at h0 hM ⊢
 cases hg : getA l i with
 | none => rw [hg] at h0; cases h0
 | some d =>
   rw [hg] at h0 hM
   simp only at h0 hM ⊢
   split
   ·rename_i h1; rw [if_pos h1] at h0; cases h0
   ·rename_i h1
    rw [if_neg h1] at h0 hM
    exact add_files hM h0 3 i (by omega) fs
theorem clone_files {l : List Dset} (h : MayL l) (n i : Int) (h0 : (cloneA l n i).2 = 0) (fs : List Node) : FilesR l (cloneA l n i).1 2 i fs ((l.length : Int) + 1) := by
 have hM := cloneA_may h n i
 unfold cloneA at h0 hM ⊢
 cases hg : getA l i with
 | none => rw [hg] at h0; cases h0
 | some d =>
   rw [hg] at h0 hM
   simp only at h0 hM ⊢
   split
   ·rename_i h1
    rw [if_pos h1] at h0 hM
    exact add_files hM h0 2 i (by omega) fs
   ·rename_i h1; rw [if_neg h1] at h0; cases h0
theorem back_files {l : List Dset} (h : MayL l) (i j : Int) (h0 : (backA l i j).2 = 0) : ∃ s, getA l j = some s ∧ FilesR l (backA l i j).1 5 i s.files l.length := by
 have hM := backA_may h i j
 unfold backA at h0 hM ⊢
 split
 ·rename_i h1; rw [if_pos h1] at h0; cases h0
 ·rename_i h1
  rcases find_of (l := l) (i := i) with ⟨e, _⟩ | ⟨k, e, hk, hid, _⟩
  ·omega
  rcases find_of (l := l) (i := j) with ⟨e', _⟩ | ⟨m, e', hm, hid', _⟩
  ·omega
  rw [if_neg h1] at h0 hM
  rw [e, e', Int.toNat_natCast, Int.toNat_natCast] at h0 hM ⊢
  simp only at h0 hM ⊢
  refine ⟨_, getA_of e', ?_⟩
  split
  ·rename_i h2; rw [if_pos h2] at h0; cases h0
  ·rename_i h2
   rw [if_neg h2] at h0 hM
   split
   ·rename_i h3; rw [if_pos h3] at h0; cases h0
   ·rename_i h3
    rw [if_neg h3] at hM
    replace hM : MayL (l.set k ({ l.getD k default with files := (l.getD m default).files })) := hM
    refine ⟨hM, by show ((l.set k _).length : Int) = _; rw [List.length_set], fun e => by omega, fun d hd _ => ?_⟩
    show ∃ d', getA (l.set k { l.getD k default with files := (l.getD m default).files }) d.id = some d' ∧ _
    have hs := set_map h hk (fun d => { d with files := (l.getD m default).files })
    rw [hs] at hM ⊢
    have hf := hM.find (List.mem_map.2 ⟨d, hd, rfl⟩)
    by_cases h4 : d.id = (l.getD k default).id
    ·rw [if_pos h4] at hf
     exact ⟨_, hf, rfl, rfl, fun _ => rfl, by rw [if_pos ⟨rfl, by omega⟩]⟩
    ·rw [if_neg h4] at hf
     exact ⟨_, hf, rfl, rfl, fun _ => rfl, by rw [if_neg (by omega)]⟩
def wantA (n w : Int) : Int := if w = 1 then n - 1 else if w = 2 ∨ w = 3 ∨ w = 4 then n + 1 else n
def DeedR (L X : List Dset) (e w i j : Int) : Prop := (e ≠ 0 → X = L) ∧ (e = 0 → (w = 5 → ∃ s, getA L j = some s) ∧ FilesR L X w i ((getA L j).getD default).files (wantA L.length w))
section
variable {l : List Dset} (h : MayL l) (i j : Int)
include h
theorem promote_deed : DeedR l (promoteA l i).1 (promoteA l i).2 0 i j := ⟨fun e => promoteA_same e, fun e => ⟨fun h => by omega, promote_files h i e _⟩⟩
theorem destroy_deed : DeedR l (destroyA l i).1 (destroyA l i).2 1 i j := ⟨fun e => destroyA_same e, fun e => ⟨fun h => by omega, destroy_files h i e _⟩⟩
theorem clone_deed (n : Int) : DeedR l (cloneA l n i).1 (cloneA l n i).2 2 i j := ⟨fun e => cloneA_same e, fun e => ⟨fun h => by omega, clone_files h n i e _⟩⟩
theorem snap_deed (n : Int) : DeedR l (snapA l n i).1 (snapA l n i).2 3 i j := ⟨fun e => snapA_same e, fun e => ⟨fun h => by omega, snap_files h n i e _⟩⟩
theorem create_deed (n : Int) : DeedR l (createA l n j).1 (createA l n j).2 4 i j := ⟨fun e => createA_same e, fun e => ⟨fun h => by omega, create_files h n j e i _⟩⟩
theorem back_deed : DeedR l (backA l i j).1 (backA l i j).2 5 i j := ⟨fun e => backA_same e, fun e => by
 obtain ⟨s, hs, hF⟩ := back_files h i j e
 rw [hs]
 exact ⟨fun _ => ⟨s, rfl⟩, hF⟩⟩
end
end Go.Proofs.YtemjlopoffjmpaaGreat.Abs
namespace Go.Proofs.YtemjlopoffjmpaaGreat.Abs
open Go
end Go.Proofs.YtemjlopoffjmpaaGreat.Abs
set_option linter.unusedSimpArgs false
set_option linter.unusedVariables false
namespace Go.Proofs.YtemjlopoffjmpaaGreat.Abs
open Go Go.Proofs
end Go.Proofs.YtemjlopoffjmpaaGreat.Abs
namespace Go.Proofs.YtemjlopoffjmpaaGreat.Abs
open Go
def c14 : ACode :=
 (.seq (.reg [⟨some 4, none, .mv (.c (.emp))⟩])
 (.seq (.reg [⟨some 9, none, .build [.int .i64 0, .int .i64 0, .int .i64 0, .int .i64 0, .int .i64 0, .int .u32 0, .int .u32 0, .int .u32 0, .int .u32 0, .int .i64 0, .int .i64 0, .int .u32 0, .int .u32 0, .int .u32 0, .int .u32 0, .int .i64 0, .int .i64 0, .int .u32 0, .int .u32 0, .int .u32 0, .int .u32 0, .int .i64 0] [(1, 1, (.c (.int .i64 2)))]⟩,
  ⟨some 10, none, .call 34 []⟩,
  ⟨some 11, none, .build [.int .i64 0, .int .i64 0, .int .i64 0, .int .i64 0, .emp] [(0, 1, (.c (.int .i64 1))), (1, 1, (.c (.int .i64 1))), (4, 1, (.t 10))]⟩,
  ⟨some 12, none, .bslice 5 1 [.int .i64 0, .int .i64 0, .int .i64 0, .int .i64 0, .emp] [(0, (.t 11))]⟩,
  ⟨some 13, none, .build [.emp, .emp, .int .i64 0, .int .i64 0, .bool false, .int .i64 0, .int .i64 0, .int .u32 0, .int .u32 0, .int .u32 0, .int .u32 0, .int .i64 0, .int .i64 0, .int .i64 0, .int .i64 0, .int .i64 0, .int .u32 0, .int .u32 0, .int .u32 0, .int .u32 0, .int .i64 0, .int .i64 0, .int .u32 0, .int .u32 0, .int .u32 0, .int .u32 0, .int .i64 0, .int .i64 0, .int .u32 0, .int .u32 0, .int .u32 0, .int .u32 0, .int .i64 0, .emp, .emp, .emp, .emp, .int .i64 0, .int .i64 0, .emp, .bool false] [(11, 22, (.t 9)), (39, 1, (.t 12))]⟩,
  ⟨some 5, none, .alloc [.emp, .emp, .int .i64 0, .int .i64 0, .bool false, .int .i64 0, .int .i64 0, .int .u32 0, .int .u32 0, .int .u32 0, .int .u32 0, .int .i64 0, .int .i64 0, .int .i64 0, .int .i64 0, .int .i64 0, .int .u32 0, .int .u32 0, .int .u32 0, .int .u32 0, .int .i64 0, .int .i64 0, .int .u32 0, .int .u32 0, .int .u32 0, .int .u32 0, .int .i64 0, .int .i64 0, .int .u32 0, .int .u32 0, .int .u32 0, .int .u32 0, .int .i64 0, .emp, .emp, .emp, .emp, .int .i64 0, .int .i64 0, .emp, .bool false]⟩,
  ⟨none, none, .store 41 (.t 5) (.t 13)⟩])
 (.seq (.seq (.reg [⟨some 6, none, .mv (.c (.int .i64 0))⟩])
 (.block 0
 (.loop
 (.seq (.seq (.reg [⟨some 14, none, .mv (.t 6)⟩,
  ⟨some 15, none, .mv (.t 1)⟩,
  ⟨some 16, none, .bini .lss (.t 14) (.t 15)⟩,
  ⟨some 17, none, .mv (.t 16)⟩,
  ⟨some 18, (some (17, true)), .mv (.t 0)⟩,
  ⟨some 19, (some (17, true)), .call 43 [(.t 18)]⟩,
  ⟨some 20, (some (17, true)), .un .not (.t 19)⟩,
  ⟨some 21, none, .pick (.t 17) (.t 20) (.c (.bool false))⟩])
 (.cond (.t 21)
 .skip
 (.exit 0)))
 (.seq (.block 1
 (.seq (.reg [⟨some 24, none, .mv (.t 0)⟩,
  ⟨some 25, none, .call 44 [(.t 24), (.c (.int .i64 8))]⟩,
  ⟨some 26, none, .bini .add (.c (.int .i64 1)) (.t 25)⟩,
  ⟨some 7, none, .mv (.t 26)⟩])
 (.seq (.reg [⟨some 27, none, .mv (.t 0)⟩,
  ⟨some 28, none, .mv (.t 7)⟩,
  ⟨some 29, none, .call 45 [(.t 27), (.t 28)]⟩,
  ⟨some 8, none, .alloc [.int .i64 0, .int .i64 0, .int .i64 0, .int .i64 0, .int .i64 0, .str [], .str [], .str [], .emp]⟩,
  ⟨none, none, .store 9 (.t 8) (.t 29)⟩])
 (.seq (.seq (.reg [⟨some 30, none, .mv (.t 0)⟩,
  ⟨some 31, none, .call 44 [(.t 30), (.c (.int .i64 3))]⟩,
  ⟨some 32, none, .bini .gtr (.t 31) (.c (.int .i64 0))⟩])
 (.cond (.t 32)
 (.reg [⟨some 33, none, .mv (.t 0)⟩,
  ⟨some 34, none, .mv (.t 7)⟩,
  ⟨some 35, none, .call 46 [(.t 33), (.t 34)]⟩,
  ⟨none, none, .store 9 (.t 8) (.t 35)⟩])
 .skip))
 (.reg [⟨some 37, none, .load true 41 (.t 5)⟩,
  ⟨some 38, none, .load true 9 (.t 8)⟩,
  ⟨some 39, none, .call 47 [(.t 37), (.t 38)]⟩,
  ⟨some 36, none, .mv (.t 39)⟩,
  ⟨some 40, none, .ext (.t 36) 0⟩,
  ⟨some 41, none, .ext (.t 36) 1⟩,
  ⟨none, none, .store 41 (.t 5) (.t 40)⟩])))))
 (.reg [⟨some 22, none, .mv (.t 6)⟩,
  ⟨some 23, none, .bini .add (.t 22) (.c (.int .i64 1))⟩,
  ⟨some 6, none, .mv (.t 23)⟩]))))))
 (.seq (.reg [⟨some 42, none, .faddr 39 (.t 5)⟩,
  ⟨some 43, none, .load false 1 (.t 42)⟩,
  ⟨some 4, none, .mv (.t 43)⟩])
 .ret))))
theorem d14 : FnD Tryz.prog 14 2 42 [.tmp 4] c14 := ⟨Tryz.f14, _, Tryz.func14, by kernel_rfl, rfl, rfl, by kernel_rfl, by kernel_rfl⟩
end Go.Proofs.YtemjlopoffjmpaaGreat.Abs
namespace Go.Proofs.YtemjlopoffjmpaaGreat.Abs
open Go
def c47 : ACode :=
 (.seq (.reg [⟨some 2, none, .box (.t 0)⟩,
  ⟨some 3, none, .box (.t 1)⟩,
  ⟨some 4, none, .alloc [.emp, .emp, .int .i64 0, .int .i64 0, .bool false, .int .i64 0, .int .i64 0, .int .u32 0, .int .u32 0, .int .u32 0, .int .u32 0, .int .i64 0, .int .i64 0, .int .i64 0, .int .i64 0, .int .i64 0, .int .u32 0, .int .u32 0, .int .u32 0, .int .u32 0, .int .i64 0, .int .i64 0, .int .u32 0, .int .u32 0, .int .u32 0, .int .u32 0, .int .i64 0, .int .i64 0, .int .u32 0, .int .u32 0, .int .u32 0, .int .u32 0, .int .i64 0, .emp, .emp, .emp, .emp, .int .i64 0, .int .i64 0, .emp, .bool false]⟩,
  ⟨some 5, none, .alloc [.int .i64 0, .str [], .int .i64 0, .int .i64 0, .int .i64 0, .int .i64 0, .emp, .int .i64 0]⟩])
 (.seq (.seq (.reg [⟨some 9, none, .faddr 0 (.t 3)⟩,
  ⟨some 10, none, .load false 1 (.t 9)⟩,
  ⟨some 11, none, .bini .lss (.t 10) (.c (.int .i64 1))⟩,
  ⟨some 12, none, .mv (.t 11)⟩,
  ⟨some 13, (some (12, false)), .faddr 0 (.t 3)⟩,
  ⟨some 14, (some (12, false)), .load false 1 (.t 13)⟩,
  ⟨some 15, (some (12, false)), .bini .gtr (.t 14) (.c (.int .i64 22))⟩,
  ⟨some 16, none, .pick (.t 12) (.c (.bool true)) (.t 15)⟩])
 (.cond (.t 16)
 (.seq (.reg [⟨some 17, none, .load true 41 (.t 2)⟩,
  ⟨some 18, none, .call 86 [(.t 17), (.c (.int .i64 1))]⟩,
  ⟨some 19, none, .ext (.t 18) 0⟩,
  ⟨some 20, none, .ext (.t 18) 1⟩,
  ⟨none, none, .store 41 (.t 4) (.t 19)⟩,
  ⟨none, none, .store 8 (.t 5) (.t 20)⟩])
 .ret)
 .skip))
 (.seq (.seq (.reg [⟨some 21, none, .faddr 40 (.t 2)⟩,
  ⟨some 22, none, .load false 1 (.t 21)⟩,
  ⟨some 23, none, .mv (.t 22)⟩,
  ⟨some 24, (some (23, true)), .faddr 0 (.t 3)⟩,
  ⟨some 25, (some (23, true)), .load false 1 (.t 24)⟩,
  ⟨some 26, (some (23, true)), .call 87 [(.t 25)]⟩,
  ⟨some 27, none, .pick (.t 23) (.t 26) (.c (.bool false))⟩])
 (.cond (.t 27)
 (.seq (.reg [⟨some 28, none, .load true 41 (.t 2)⟩,
  ⟨some 29, none, .call 86 [(.t 28), (.c (.int .i64 11))]⟩,
  ⟨some 30, none, .ext (.t 29) 0⟩,
  ⟨some 31, none, .ext (.t 29) 1⟩,
  ⟨none, none, .store 41 (.t 4) (.t 30)⟩,
  ⟨none, none, .store 8 (.t 5) (.t 31)⟩])
 .ret)
 .skip))
 (.seq (.block 0
 (.seq (.reg [⟨some 33, none, .faddr 0 (.t 3)⟩,
  ⟨some 34, none, .load false 1 (.t 33)⟩,
  ⟨some 35, none, .bini .leq (.t 34) (.c (.int .i64 8))⟩,
  ⟨some 32, none, .mv (.t 35)⟩])
 (.cond (.t 32)
 (.seq (.reg [⟨some 36, none, .load true 41 (.t 2)⟩,
  ⟨some 37, none, .load true 9 (.t 3)⟩,
  ⟨some 38, none, .call 88 [(.t 36), (.t 37)]⟩,
  ⟨some 39, none, .ext (.t 38) 0⟩,
  ⟨some 40, none, .ext (.t 38) 1⟩,
  ⟨none, none, .store 41 (.t 4) (.t 39)⟩,
  ⟨none, none, .store 8 (.t 5) (.t 40)⟩])
 .ret)
 (.seq (.reg [⟨some 42, none, .faddr 0 (.t 3)⟩,
  ⟨some 43, none, .load false 1 (.t 42)⟩,
  ⟨some 44, none, .bini .leq (.t 43) (.c (.int .i64 14))⟩,
  ⟨some 41, none, .mv (.t 44)⟩])
 (.cond (.t 41)
 (.seq (.reg [⟨some 45, none, .load true 41 (.t 2)⟩,
  ⟨some 46, none, .load true 9 (.t 3)⟩,
  ⟨some 47, none, .call 89 [(.t 45), (.t 46)]⟩,
  ⟨some 48, none, .ext (.t 47) 0⟩,
  ⟨some 49, none, .ext (.t 47) 1⟩,
  ⟨none, none, .store 41 (.t 4) (.t 48)⟩,
  ⟨none, none, .store 8 (.t 5) (.t 49)⟩])
 .ret)
 .skip)))))
 (.seq (.reg [⟨some 50, none, .build [.int .i64 0, .str [], .int .i64 0, .int .i64 0, .int .i64 0, .int .i64 0, .emp, .int .i64 0] []⟩,
  ⟨some 6, none, .alloc [.int .i64 0, .str [], .int .i64 0, .int .i64 0, .int .i64 0, .int .i64 0, .emp, .int .i64 0]⟩,
  ⟨none, none, .store 8 (.t 6) (.t 50)⟩])
 (.seq (.seq (.reg [⟨some 51, none, .faddr 0 (.t 3)⟩,
  ⟨some 52, none, .load false 1 (.t 51)⟩])
 (.block 1
 (.seq (.reg [⟨some 64, none, .bini .eql (.t 52) (.c (.int .i64 15))⟩,
  ⟨some 63, none, .mv (.t 64)⟩])
 (.cond (.t 63)
 (.seq (.seq (.reg [⟨some 65, none, .faddr 2 (.t 3)⟩,
  ⟨some 66, none, .load false 1 (.t 65)⟩,
  ⟨some 67, none, .bini .lss (.t 66) (.c (.int .i64 0))⟩,
  ⟨some 68, none, .mv (.t 67)⟩,
  ⟨some 69, (some (68, false)), .faddr 2 (.t 3)⟩,
  ⟨some 70, (some (68, false)), .load false 1 (.t 69)⟩,
  ⟨some 71, (some (68, false)), .bini .gtr (.t 70) (.c (.int .i64 1))⟩,
  ⟨some 72, none, .pick (.t 68) (.c (.bool true)) (.t 71)⟩])
 (.cond (.t 72)
 (.seq (.reg [⟨some 73, none, .load true 41 (.t 2)⟩,
  ⟨some 74, none, .call 86 [(.t 73), (.c (.int .i64 1))]⟩,
  ⟨some 75, none, .ext (.t 74) 0⟩,
  ⟨some 76, none, .ext (.t 74) 1⟩,
  ⟨none, none, .store 41 (.t 4) (.t 75)⟩,
  ⟨none, none, .store 8 (.t 5) (.t 76)⟩])
 .ret)
 .skip))
 (.seq (.reg [⟨some 78, none, .load true 41 (.t 2)⟩,
  ⟨some 79, none, .faddr 2 (.t 3)⟩,
  ⟨some 80, none, .load false 1 (.t 79)⟩,
  ⟨some 81, none, .bini .eql (.t 80) (.c (.int .i64 1))⟩,
  ⟨some 82, none, .call 90 [(.t 78), (.t 81)]⟩,
  ⟨some 77, none, .mv (.t 82)⟩,
  ⟨some 83, none, .ext (.t 77) 0⟩,
  ⟨some 84, none, .ext (.t 77) 1⟩,
  ⟨none, none, .store 41 (.t 2) (.t 83)⟩,
  ⟨some 85, none, .faddr 0 (.t 6)⟩,
  ⟨none, none, .store 1 (.t 85) (.t 84)⟩])
 (.seq (.reg [⟨some 86, none, .faddr 0 (.t 6)⟩,
  ⟨some 87, none, .load false 1 (.t 86)⟩,
  ⟨some 88, none, .bini .eql (.t 87) (.c (.int .i64 0))⟩])
 (.cond (.t 88)
 (.reg [⟨some 89, none, .faddr 11 (.t 2)⟩,
  ⟨some 90, none, .faddr 0 (.t 89)⟩,
  ⟨some 91, none, .load false 1 (.t 90)⟩,
  ⟨some 92, none, .faddr 7 (.t 6)⟩,
  ⟨none, none, .store 1 (.t 92) (.t 91)⟩])
 .skip))))
 (.seq (.reg [⟨some 94, none, .bini .eql (.t 52) (.c (.int .i64 16))⟩,
  ⟨some 93, none, .mv (.t 94)⟩])
 (.cond (.t 93)
 (.reg [⟨some 96, none, .load true 41 (.t 2)⟩,
  ⟨some 97, none, .call 91 [(.t 96)]⟩,
  ⟨some 95, none, .mv (.t 97)⟩,
  ⟨some 98, none, .ext (.t 95) 0⟩,
  ⟨some 99, none, .ext (.t 95) 1⟩,
  ⟨none, none, .store 41 (.t 2) (.t 98)⟩,
  ⟨some 100, none, .faddr 0 (.t 6)⟩,
  ⟨none, none, .store 1 (.t 100) (.t 99)⟩])
 (.seq (.reg [⟨some 102, none, .bini .eql (.t 52) (.c (.int .i64 17))⟩,
  ⟨some 101, none, .mv (.t 102)⟩])
 (.cond (.t 101)
 (.reg [⟨some 104, none, .load true 41 (.t 2)⟩,
  ⟨some 105, none, .call 92 [(.t 104)]⟩,
  ⟨some 103, none, .mv (.t 105)⟩,
  ⟨some 106, none, .ext (.t 103) 0⟩,
  ⟨some 107, none, .ext (.t 103) 1⟩,
  ⟨none, none, .store 41 (.t 2) (.t 106)⟩,
  ⟨some 108, none, .faddr 0 (.t 6)⟩,
  ⟨none, none, .store 1 (.t 108) (.t 107)⟩])
 (.seq (.reg [⟨some 110, none, .bini .eql (.t 52) (.c (.int .i64 18))⟩,
  ⟨some 109, none, .mv (.t 110)⟩])
 (.cond (.t 109)
 (.seq (.reg [⟨some 112, none, .faddr 0 (.t 2)⟩,
  ⟨some 113, none, .load true 5 (.t 112)⟩,
  ⟨some 114, none, .faddr 2 (.t 3)⟩,
  ⟨some 115, none, .load false 1 (.t 114)⟩,
  ⟨some 116, none, .call 93 [(.t 113), (.t 115)]⟩,
  ⟨some 111, none, .mv (.t 116)⟩,
  ⟨some 117, none, .ext (.t 111) 0⟩,
  ⟨some 118, none, .ext (.t 111) 1⟩,
  ⟨some 7, none, .alloc [.emp, .emp, .int .i64 0, .int .i64 0, .bool false, .int .i64 0, .int .i64 0, .int .u32 0, .int .u32 0, .int .u32 0, .int .u32 0, .int .i64 0, .int .i64 0, .int .i64 0, .int .i64 0, .int .i64 0, .int .u32 0, .int .u32 0, .int .u32 0, .int .u32 0, .int .i64 0, .int .i64 0, .int .u32 0, .int .u32 0, .int .u32 0, .int .u32 0, .int .i64 0, .int .i64 0, .int .u32 0, .int .u32 0, .int .u32 0, .int .u32 0, .int .i64 0, .emp, .emp, .emp, .emp, .int .i64 0, .int .i64 0, .emp, .bool false]⟩,
  ⟨none, none, .store 41 (.t 7) (.t 117)⟩,
  ⟨some 8, none, .mv (.t 118)⟩])
 (.seq (.seq (.reg [⟨some 119, none, .mv (.t 8)⟩,
  ⟨some 120, none, .bini .neq (.t 119) (.c (.int .i64 0))⟩])
 (.cond (.t 120)
 (.seq (.reg [⟨some 121, none, .faddr 0 (.t 7)⟩,
  ⟨some 122, none, .load true 5 (.t 121)⟩,
  ⟨some 123, none, .faddr 0 (.t 2)⟩,
  ⟨none, none, .store 5 (.t 123) (.t 122)⟩])
 (.seq (.reg [⟨some 124, none, .load true 41 (.t 2)⟩,
  ⟨some 125, none, .mv (.t 8)⟩,
  ⟨some 126, none, .call 86 [(.t 124), (.t 125)]⟩,
  ⟨some 127, none, .ext (.t 126) 0⟩,
  ⟨some 128, none, .ext (.t 126) 1⟩,
  ⟨none, none, .store 41 (.t 4) (.t 127)⟩,
  ⟨none, none, .store 8 (.t 5) (.t 128)⟩])
 .ret))
 .skip))
 (.dregE [[(0, ⟨some 129, none, .load true 41 (.t 7)⟩),
  (1, ⟨some 130, none, .faddr 11 (.t 7)⟩),
  (2, ⟨some 131, none, .faddr 0 (.t 130)⟩),
  (3, ⟨some 132, none, .load false 1 (.t 131)⟩),
  (4, ⟨none, none, .store 41 (.t 2) (.t 129)⟩)],
  [(5, ⟨some 133, none, .faddr 7 (.t 6)⟩)],
  [(6, ⟨none, none, .store 1 (.t 133) (.t 132)⟩)]]
  [[], [], [1], [1, 2], [0], [0, 1, 2, 3, 4], [0, 1, 2, 3, 4, 5]])))
 (.seq (.seq (.reg [⟨some 135, none, .bini .eql (.t 52) (.c (.int .i64 19))⟩,
  ⟨some 134, none, .mv (.t 135)⟩])
 (.cond (.t 134)
 .skip
 (.reg [⟨some 136, none, .bini .eql (.t 52) (.c (.int .i64 20))⟩,
  ⟨some 134, none, .mv (.t 136)⟩])))
 (.cond (.t 134)
 (.seq (.seq (.reg [⟨some 137, none, .faddr 2 (.t 3)⟩,
  ⟨some 138, none, .load false 1 (.t 137)⟩,
  ⟨some 139, none, .bini .lss (.t 138) (.c (.int .i64 0))⟩,
  ⟨some 140, none, .mv (.t 139)⟩,
  ⟨some 141, (some (140, false)), .faddr 2 (.t 3)⟩,
  ⟨some 142, (some (140, false)), .load false 1 (.t 141)⟩,
  ⟨some 143, (some (140, false)), .bini .gtr (.t 142) (.c (.int .i64 200))⟩,
  ⟨some 144, none, .pick (.t 140) (.c (.bool true)) (.t 143)⟩])
 (.cond (.t 144)
 (.seq (.reg [⟨some 145, none, .load true 41 (.t 2)⟩,
  ⟨some 146, none, .call 86 [(.t 145), (.c (.int .i64 1))]⟩,
  ⟨some 147, none, .ext (.t 146) 0⟩,
  ⟨some 148, none, .ext (.t 146) 1⟩,
  ⟨none, none, .store 41 (.t 4) (.t 147)⟩,
  ⟨none, none, .store 8 (.t 5) (.t 148)⟩])
 .ret)
 .skip))
 (.seq (.reg [⟨some 149, none, .faddr 0 (.t 3)⟩,
  ⟨some 150, none, .load false 1 (.t 149)⟩,
  ⟨some 151, none, .bini .eql (.t 150) (.c (.int .i64 19))⟩])
 (.cond (.t 151)
 (.reg [⟨some 152, none, .faddr 2 (.t 3)⟩,
  ⟨some 153, none, .load false 1 (.t 152)⟩,
  ⟨some 154, none, .faddr 0 (.t 2)⟩,
  ⟨some 155, none, .faddr 3 (.t 154)⟩,
  ⟨none, none, .store 1 (.t 155) (.t 153)⟩])
 (.reg [⟨some 156, none, .faddr 2 (.t 3)⟩,
  ⟨some 157, none, .load false 1 (.t 156)⟩,
  ⟨some 158, none, .faddr 0 (.t 2)⟩,
  ⟨some 159, none, .faddr 2 (.t 158)⟩,
  ⟨none, none, .store 1 (.t 159) (.t 157)⟩]))))
 (.seq (.reg [⟨some 161, none, .bini .eql (.t 52) (.c (.int .i64 21))⟩,
  ⟨some 160, none, .mv (.t 161)⟩])
 (.cond (.t 160)
 (.reg [⟨some 162, none, .faddr 0 (.t 2)⟩,
  ⟨some 163, none, .load true 5 (.t 162)⟩,
  ⟨some 164, none, .faddr 8 (.t 3)⟩,
  ⟨some 165, none, .load false 1 (.t 164)⟩,
  ⟨some 166, none, .call 94 [(.t 163), (.t 165)]⟩,
  ⟨some 167, none, .build [.emp, .emp, .int .i64 0, .int .i64 0, .bool false, .int .i64 0, .int .i64 0, .int .u32 0, .int .u32 0, .int .u32 0, .int .u32 0, .int .i64 0, .int .i64 0, .int .i64 0, .int .i64 0, .int .i64 0, .int .u32 0, .int .u32 0, .int .u32 0, .int .u32 0, .int .i64 0, .int .i64 0, .int .u32 0, .int .u32 0, .int .u32 0, .int .u32 0, .int .i64 0, .int .i64 0, .int .u32 0, .int .u32 0, .int .u32 0, .int .u32 0, .int .i64 0, .emp, .emp, .emp, .emp, .int .i64 0, .int .i64 0, .emp, .bool false] [(0, 5, (.t 166))]⟩,
  ⟨none, none, .store 41 (.t 2) (.t 167)⟩])
 (.reg [⟨some 53, none, .faddr 0 (.t 2)⟩,
  ⟨some 54, none, .load true 5 (.t 53)⟩,
  ⟨some 55, none, .faddr 2 (.t 3)⟩,
  ⟨some 56, none, .load false 1 (.t 55)⟩,
  ⟨some 57, none, .faddr 3 (.t 3)⟩,
  ⟨some 58, none, .load false 1 (.t 57)⟩,
  ⟨some 59, none, .faddr 4 (.t 3)⟩,
  ⟨some 60, none, .load false 1 (.t 59)⟩,
  ⟨some 61, none, .call 95 [(.t 54), (.t 56), (.t 58), (.t 60)]⟩,
  ⟨some 62, none, .faddr 0 (.t 2)⟩,
  ⟨none, none, .store 5 (.t 62) (.t 61)⟩])))))))))))))))
 (.seq (.dregE [[(0, ⟨some 168, none, .load true 41 (.t 2)⟩),
  (1, ⟨some 169, none, .load true 8 (.t 6)⟩),
  (2, ⟨none, none, .store 41 (.t 4) (.t 168)⟩)],
  [(3, ⟨none, none, .store 8 (.t 5) (.t 169)⟩)]]
  [[], [], [0], [0, 1, 2]])
 .ret)))))))
theorem d47 : FnD Tryz.prog 47 2 168 [.cell 4 true 41, .cell 5 true 8] c47 := ⟨Tryz.f47, _, Tryz.func47, by kernel_rfl, rfl, rfl, by kernel_rfl, by kernel_rfl⟩
end Go.Proofs.YtemjlopoffjmpaaGreat.Abs
set_option linter.unusedSimpArgs false
set_option linter.unusedVariables false
namespace Go.Proofs.YtemjlopoffjmpaaGreat.Abs
open Go Go.Proofs
theorem files88 (l : List Dset) (hM : MayL l) (nx k i m : Int) (hk : 1 ≤ k ∧ k ≤ 5) (p q t : List UInt8) (hp : p.length ≤ 1000000) (hq : q.length ≤ 1000000) (ht : t.length ≤ 1000000) (H : AH) :
 C Tryz.prog 88 [.agg (poolC nx (asets l)), editA k i m p q t] H (fun y H' => H' = H ∧ PoolR nx l y) :=
 (C_pure (K0 := PoolR nx l) (files88_0 l hM nx k i m hk p q t hp hq ht) (fun τ => renL_bare τ _ (by simp [bareL, bare, asets, poolC, editA])) (by intro x hx τ; exact ren_bare _ _ hx.bare) H).mono fun y H' h => ⟨h.2, h.1⟩
theorem sets89 (l : List Dset) (hM : MayL l) (nx k i m : Int) (hk : 9 ≤ k ∧ k ≤ 14) (hnx : 0 ≤ nx ∧ nx ≤ 1000000) (p q t : List UInt8) (H : AH) :
 C Tryz.prog 89 [.agg (poolC nx (asets l)), editA k i m p q t] H (fun y H' => H' = H ∧ PoolR nx l y) :=
 (C_pure (K0 := PoolR nx l) (sets89_0 l hM nx k i m hk hnx p q t) (fun τ => renL_bare τ _ (by simp [bareL, bare, asets, poolC, editA])) (by intro x hx τ; exact ren_bare _ _ hx.bare) H).mono fun y H' h => ⟨h.2, h.1⟩
set_option maxRecDepth 8000 in
set_option maxHeartbeats 2000000 in
theorem do47_0 (l : List Dset) (hM : MayL l) (nx k i m : Int) (hk : 1 ≤ k ∧ (k ≤ 5 ∨ 9 ≤ k) ∧ k ≤ 14) (hnx : 0 ≤ nx ∧ nx ≤ 1000000) (p q t : List UInt8) (hp : p.length ≤ 1000000) (hq : q.length ≤ 1000000) (ht : t.length ≤ 1000000) :
 C Tryz.prog 47 [.agg (poolC nx (asets l)), editA k i m p q t] [] (fun y H' => PoolR nx l y ∧ H' = []) := by
 have h1 : ¬ k < 1 := by omega
 have h22 : ¬ 22 < k := by omega
 have h14 : k ≤ 14 := hk.2.2
 refine C_body' d47 rfl (WT_ok ?_)
 unfold c47
 by_cases h8 : k ≤ 8
 ·simp only [h1, h22, h8, poolC, editA, asets, lay, iaddr_node, pnode, wk3, wk, seval]
  refine CT_ok (files88 l hM nx k i m (by omega) p q t hp hq ht _) ?_
  rintro _ _ ⟨rfl, l', nx', e, m', r1, r2, r3, r4, rfl⟩
  simp only [toldA, poolC, ansC, asets, lay, iaddr_node, pnode, wk3, wk, seval]
  exact KWk_bare (told_bare nx' l' e m') ⟨⟨l', nx', e, m', r1, r2, r3, r4, rfl⟩, rfl⟩
 ·simp only [h1, h22, h8, h14, poolC, editA, asets, lay, iaddr_node, pnode, wk3, wk, seval]
  refine CT_ok (sets89 l hM nx k i m (by omega) hnx p q t _) ?_
  rintro _ _ ⟨rfl, l', nx', e, m', r1, r2, r3, r4, rfl⟩
  simp only [toldA, poolC, ansC, asets, lay, iaddr_node, pnode, wk3, wk, seval]
  exact KWk_bare (told_bare nx' l' e m') ⟨⟨l', nx', e, m', r1, r2, r3, r4, rfl⟩, rfl⟩
theorem do47 (l : List Dset) (hM : MayL l) (nx k i m : Int) (hk : 1 ≤ k ∧ (k ≤ 5 ∨ 9 ≤ k) ∧ k ≤ 14) (hnx : 0 ≤ nx ∧ nx ≤ 1000000) (p q t : List UInt8) (hp : p.length ≤ 1000000) (hq : q.length ≤ 1000000) (ht : t.length ≤ 1000000) (H : AH) :
 C Tryz.prog 47 [.agg (poolC nx (asets l)), editA k i m p q t] H (fun y H' => H' = H ∧ PoolR nx l y) :=
 (C_pure (K0 := PoolR nx l) (do47_0 l hM nx k i m hk hnx p q t hp hq ht) (fun τ => renL_bare τ _ (by simp [bareL, bare, asets, poolC, editA])) (by intro x hx τ; exact ren_bare _ _ hx.bare) H).mono fun y H' h => ⟨h.2, h.1⟩
end Go.Proofs.YtemjlopoffjmpaaGreat.Abs
set_option linter.unusedSimpArgs false
set_option linter.unusedVariables false
namespace Go.Proofs.YtemjlopoffjmpaaGreat.Abs
open Go Go.Proofs
def StepAt (l : List UInt8) (n : Int) (R : AH) (x : AV) (H' : AH) : Prop := ∃ (k i m n' : Int) (p q t : List UInt8), p.length ≤ 1000000 ∧ q.length ≤ 1000000 ∧ t.length ≤ 1000000 ∧ (n ≤ n' ∧ 1 ≤ k ∧ (k ≤ 5 ∨ 9 ≤ k) ∧ k ≤ 14) ∧ x = editA k i m p q t ∧ H' = some [[.fz (l.map pbyte), .int .i64 n']] :: R
theorem set_at45 (l : List UInt8) (n i : Int) (hn : 0 ≤ n) (hl : l.length ≤ 1000000) (R : AH) :
 C Tryz.prog 45 [.ptr 0 0 0 1, .int .i64 i] (some [[.fz (l.map pbyte), .int .i64 n]] :: R) (StepAt l n R) := by
 refine C_call (K0 := StepR l n) [0] (by simp) (by simp) ?_ ?_
 ·exact set45 l n i hn hl
 ·rintro _ _ ⟨k, i', m, n', p, q, t, h1, h2, h3, h4, rfl, rfl⟩
  exact ⟨Nat.le_refl _, k, i', m, n', p, q, t, h1, h2, h3, h4, by simp [editA, ren, renL], by simp [back, setAll, picksH, renO, renL, ren]⟩
theorem edit_at (l : List UInt8) (n i : Int) (hn : 0 ≤ n) (hl : l.length ≤ 1000000) (R : AH) :
 C Tryz.prog 46 [.ptr 0 0 0 1, .int .i64 i] (some [[.fz (l.map pbyte), .int .i64 n]] :: R) (StepAt l n R) := by
 refine C_call (K0 := EditR l n) [0] (by simp) (by simp) ?_ ?_
 ·exact edit_spec l n i hn hl
 ·rintro _ _ ⟨k, i', m, n', p, q, t, h1, h2, h3, h4, rfl, rfl⟩
  exact ⟨Nat.le_refl _, k, i', m, n', p, q, t, h1, h2, h3, by omega, by simp [editA, ren, renL], by simp [back, setAll, picksH, renO, renL, ren]⟩
theorem over_at (l : List UInt8) (n : Int) (R : AH) :
 C Tryz.prog 43 [.ptr 0 0 0 1] (some [[.fz (l.map pbyte), .int .i64 n]] :: R) (fun x H' => x = .bool (decide ((l.map pbyte).length ≤ n)) ∧ H' = some [[.fz (l.map pbyte), .int .i64 n]] :: R) := by
 refine C_call (K0 := fun x H' => x = .bool (decide ((l.map pbyte).length ≤ n)) ∧ H' = [some [[.fz (l.map pbyte), .int .i64 n]]]) [0] (by simp) (by simp) ?_ ?_
 ·exact over_spec (l.map pbyte) n
 ·rintro _ _ ⟨rfl, rfl⟩
  exact ⟨Nat.le_refl _, by simp [ren], by simp [back, setAll, renO, renL, ren]⟩
theorem Wk_three {fr fr' : List AV} {o o' : AObj} {G : AH} (ho : o.map (renL (upTo 3)) = o) (ho' : o'.map (renL (upTo 3)) = o') (h : Tops fr' (renL (upTo 3) fr)) : Wk 1 fr (some o :: none :: some o' :: G) fr' [some o, none, some o'] := by
 have h1 := (Wk_forget (n0 := 1) (fr := fr) (H := some o :: none :: some o' :: G) 3 (by omega)).trans (Wk_tops h)
 have e : mapH (renL (upTo 3)) ((some o :: none :: some o' :: G).take 3) = [some o, none, some o'] := by
  simp only [List.take_succ_cons, List.take_zero, mapH, List.map_cons, List.map_nil, Option.map_some, Option.map_none, ho, ho']
 rwa [e] at h1
theorem renO_pool (τ : Nat → Option Nat) (nx : Int) (l : List Dset) : List.map (renL τ) [poolC nx (asets l)] = [poolC nx (asets l)] := by simp [poolC, asets, renL, ren]
theorem renO_picks (τ : Nat → Option Nat) (l : List UInt8) (n : Int) : List.map (renL τ) [[AV.fz (l.map pbyte), .int .i64 n]] = [[AV.fz (l.map pbyte), .int .i64 n]] := by simp [renL, ren]
def firstD : Dset := ⟨1, 1, 0, 0, newA⟩
theorem firstD_may : MayL [firstD] := by
 refine ⟨by decide, by simp, fun d hd => ?_, fun i => i.toNat, fun d hd o ho e => ?_⟩
 ·rw [List.mem_singleton] at hd
  subst hd
  exact ⟨⟨by decide, by decide⟩, ⟨by decide, by decide⟩, newA_wf, .inl rfl, fun e => absurd e (by decide), fun _ => .inl rfl⟩
 ·rw [List.mem_singleton] at hd ho
  subst hd; subst ho
  exact absurd e (by decide)
def SetsR (l : List UInt8) (n : Int) (x : AV) (H' : AH) : Prop := ∃ L n', MayL L ∧ L ≠ [] ∧ (n ≤ n' ∧ ∀ d ∈ L, d.id < 900) ∧ x = asets L ∧ H' = picksH l n'
theorem KWk_list {l : List UInt8} {n n' : Int} {L : List Dset} {R : AH} (h : MayL L) (hne : L ≠ []) (hn : n ≤ n' ∧ ∀ d ∈ L, d.id < 900) : KWk 1 (SetsR l n) (asets L) (some [[.fz (l.map pbyte), .int .i64 n']] :: R) := by
 refine ⟨_, _, ?_, L, n', h, hne, hn, rfl, rfl⟩
 have h := Wk_forget (n0 := 1) (fr := [asets L]) (H := some [[.fz (l.map pbyte), .int .i64 n']] :: R) 1 (Nat.le_refl _)
 simpa [mapH, renL, ren, asets, picksH] using h
theorem Wk_first {fr fr' : List AV} (l : List UInt8) (n : Int) (h : Tops fr' (renL (upTo 3) (frzL 1 [pdset firstD] fr))) :
 Wk 1 fr [some [[.fz (l.map pbyte), .int .i64 n]], some [cellD firstD], some [poolC 2 (.own 1 5 0 1 1)]] fr' [some [[.fz (l.map pbyte), .int .i64 n]], none, some [poolC 2 (asets [firstD])]] := by
 have h1 := Wk_freeze (n0 := 1) (fr := fr) (H := [some [[.fz (l.map pbyte), .int .i64 n]], some [cellD firstD], some [poolC 2 (.own 1 5 0 1 1)]]) 1 [pdset firstD] rfl
 have e : mapH (frzL 1 [pdset firstD]) (List.set [some [[AV.fz (l.map pbyte), .int .i64 n]], some [cellD firstD], some [poolC 2 (.own 1 5 0 1 1)]] 1 none) = [some [[.fz (l.map pbyte), .int .i64 n]], none, some [poolC 2 (asets [firstD])]] := by
  simp [mapH, frzL, frz, poolC, asets]
 rw [e] at h1
 exact h1.trans (Wk_three (renO_picks _ l n) (renO_pool _ _ _) h)
set_option maxRecDepth 8000 in
set_option maxHeartbeats 4000000 in
theorem sets14 (l : List UInt8) (n : Int) (most : Nat) (hm : most ≤ 100) (hn : 0 ≤ n) (hl : l.length ≤ 1000000) :
 C Tryz.prog 14 [.ptr 0 0 0 1, .int .i64 most] (picksH l n) (SetsR l n) := by
 refine C_body' d14 rfl (WT_ok ?_)
 unfold c14
 simp only [picksH, lay, iaddr_node, pnode, wk3, wk, seval]
 refine CT_ok (new_spec _) ?_
 rintro _ _ ⟨rfl, rfl⟩
 simp only [aset, lay, iaddr_node, pnode, wk3, wk, seval]
 refine WT_loop (W_wk (fr' := [.ptr 0 0 0 1, .int .i64 most, .top, .top, .emp, .ptr 2 0 0 1, .int .i64 (0 : Nat)] ++ List.replicate 37 .top) (Wk_first l n ?_) (W_loop (fun nn fr H' => ∃ (j : Nat) (L : List Dset) (nx n' : Int), j ≤ most ∧ nn = most - j ∧ MayL L ∧ L ≠ [] ∧ ((0 ≤ nx ∧ nx ≤ 2 + j) ∧ ∀ d ∈ L, d.id < nx) ∧ n ≤ n' ∧ H' = [some [[.fz (l.map pbyte), .int .i64 n']], none, some [poolC nx (asets L)]] ∧
  fr = [.ptr 0 0 0 1, .int .i64 most, .top, .top, .emp, .ptr 2 0 0 1, .int .i64 j] ++ List.replicate 37 .top) most ⟨0, [firstD], 2, n, by omega, rfl, firstD_may, by simp, ⟨by omega, by simp [firstD]⟩, by omega, rfl, rfl⟩ ?_))
 ·simp only [frzL, frz, renL, ren, upTo, show (0 : Nat) < 3 by omega, show (2 : Nat) < 3 by omega, show ¬ (0 : Nat) = 1 by omega, show ¬ (2 : Nat) = 1 by omega, if_true, if_false, List.replicate_succ, List.replicate_zero, List.cons_append, List.nil_append, Tops_top, Tops_same, Tops_nil, Int.natCast_zero]
 rintro nn fr H ⟨j, L, nx, n', hj, rfl, hL, hne, ⟨hnx, hid⟩, hn', rfl, rfl⟩
 have hid9 : ∀ d ∈ L, d.id < 900 := fun d hd => by have := hid d hd; omega
 refine WT_ok ?_
 simp only [poolC, asets, lay, iaddr_node, pnode, wk3, wk, seval]
 by_cases h : (j : Int) < most
 case neg =>
  simp only [h, lay, iaddr_node, pnode, wk3, wk, seval]
  exact KWk_list hL hne ⟨hn', hid9⟩
 simp only [h, lay, iaddr_node, pnode, wk3, wk, seval]
 refine CT_ok (over_at l n' _) ?_
 rintro _ _ ⟨rfl, rfl⟩
 simp only [h, lay, iaddr_node, pnode, wk3, wk, seval]
 refine guard_both ?_ ?_ <;> intro h2 <;> simp only [hy] at h2
 ·simp only [h, h2, lay, iaddr_node, pnode, wk3, wk, seval]
  have w2 : IntKind.i64.wrap ((j : Int) + 1) = (j : Int) + 1 := IntWalk.i64_in _ (by omega)
  refine CT_ok (num_at l n' 8 (by omega) hl _) ?_
  rintro _ H ⟨m1, n1, rfl, k1, k2, k3, k4, _, rfl⟩
  have g1 : m1 < 8 := k2 (by omega)
  have w1 : IntKind.i64.wrap (1 + m1) = 1 + m1 := IntWalk.i64_in _ (by omega)
  simp only [w1, lay, iaddr_node, pnode, wk3, wk, seval]
  refine CT_ok (set_at45 l n1 (1 + m1) (by omega) hl _) ?_
  rintro _ H ⟨k, i, m, n2, p, q, t, hp, hq, ht, hk, rfl, rfl⟩
  simp only [editA, lay, iaddr_node, pnode, wk3, wk, seval]
  refine CT_ok (num_at l n2 3 (by omega) hl _) ?_
  rintro _ H ⟨m3, n3, rfl, j1, j2, j3, j4, _, rfl⟩
  simp only [lay, iaddr_node, pnode, wk3, wk, seval]
  by_cases h3 : 0 < m3
  ·simp only [h3, lay, iaddr_node, pnode, wk3, wk, seval]
   refine CT_ok (edit_at l n3 (1 + m1) (by omega) hl _) ?_
   rintro _ H ⟨k, i, m, n4, p, q, t, hp, hq, ht, hk, rfl, rfl⟩
   simp only [editA, lay, iaddr_node, pnode, wk3, wk, seval]
   refine CT_ok (do47 L hL nx k i m hk.2 (by omega) p q t hp hq ht _) ?_
   rintro _ _ ⟨rfl, L', nx', e, m', r1, r2, r3, r4, rfl⟩
   simp only [toldA, poolC, ansC, asets, w2, lay, iaddr_node, pnode, wk3, wk, seval]
   refine QLoop_wk (n' := most - (j + 1)) (by omega) ⟨j + 1, L', nx', n4, by omega, rfl, r1, r2.1 hne, ⟨by omega, r2.2 hid⟩, by omega, rfl, rfl⟩ (Wk_three (renO_picks _ l _) (renO_pool _ nx' L') ?_)
   simp only [renL, ren, upTo, show (0 : Nat) < 3 by omega, show (2 : Nat) < 3 by omega, if_true, List.replicate_succ, List.replicate_zero, List.cons_append, List.nil_append, Tops_top, Tops_same, Tops_nil, Int.natCast_add, Int.natCast_one]
  ·simp only [h3, lay, iaddr_node, pnode, wk3, wk, seval]
   refine CT_ok (do47 L hL nx k i m hk.2 (by omega) p q t hp hq ht _) ?_
   rintro _ _ ⟨rfl, L', nx', e, m', r1, r2, r3, r4, rfl⟩
   simp only [toldA, poolC, ansC, asets, w2, lay, iaddr_node, pnode, wk3, wk, seval]
   refine QLoop_wk (n' := most - (j + 1)) (by omega) ⟨j + 1, L', nx', n3, by omega, rfl, r1, r2.1 hne, ⟨by omega, r2.2 hid⟩, by omega, rfl, rfl⟩ (Wk_three (renO_picks _ l _) (renO_pool _ nx' L') ?_)
   simp only [renL, ren, upTo, show (0 : Nat) < 3 by omega, show (2 : Nat) < 3 by omega, if_true, List.replicate_succ, List.replicate_zero, List.cons_append, List.nil_append, Tops_top, Tops_same, Tops_nil, Int.natCast_add, Int.natCast_one]
 ·simp only [h, h2, lay, iaddr_node, pnode, wk3, wk, seval]
  exact KWk_list hL hne ⟨hn', hid9⟩
end Go.Proofs.YtemjlopoffjmpaaGreat.Abs
set_option linter.unusedSimpArgs false
set_option linter.unusedVariables false
namespace Go.Proofs.YtemjlopoffjmpaaGreat.Abs
open Go Go.Proofs
section
variable (l : List Dset) (hl : Short l) (a b : Int) (H : AH)
include hl
theorem createL : C Tryz.prog 37 [asets l, .int .i64 a, .int .i64 b] H (fun x H' => x = outA (createA l a b) ∧ H' = H) := C_any (create0 l hl a b) (by simp [bareL, asets_bare, bare]) (outA_bare _) H
theorem snapL : C Tryz.prog 24 [asets l, .int .i64 a, .int .i64 b] H (fun x H' => x = outA (snapA l a b) ∧ H' = H) := C_any (snap0 l hl a b) (by simp [bareL, asets_bare, bare]) (outA_bare _) H
theorem dcloneL : C Tryz.prog 25 [asets l, .int .i64 a, .int .i64 b] H (fun x H' => x = outA (cloneA l a b) ∧ H' = H) := C_any (dclone0 l hl a b) (by simp [bareL, asets_bare, bare]) (outA_bare _) H
theorem promoteL : C Tryz.prog 29 [asets l, .int .i64 a] H (fun x H' => x = outA (promoteA l a) ∧ H' = H) := C_any (promote0 l hl a) (by simp [bareL, asets_bare, bare]) (outA_bare _) H
theorem backL : C Tryz.prog 38 [asets l, .int .i64 a, .int .i64 b] H (fun x H' => x = outA (backA l a b) ∧ H' = H) := C_any (dback0 l hl a b) (by simp [bareL, asets_bare, bare]) (outA_bare _) H
theorem destroyL : C Tryz.prog 32 [asets l, .int .i64 a] H (fun x H' => x = outA (destroyA l a) ∧ H' = H) := C_any (destroy0 l hl a) (by simp [bareL, asets_bare, bare]) (outA_bare _) H
end
end Go.Proofs.YtemjlopoffjmpaaGreat.Abs
namespace Go.Proofs.YtemjlopoffjmpaaGreat.Abs
open Go
def c105 : ACode :=
 (.seq (.reg [⟨some 2, none, .mv (.c (.bool false))⟩])
 (.seq (.reg [⟨some 3, none, .mv (.t 0)⟩,
  ⟨some 4, none, .build [.emp] [(0, 1, (.t 3))]⟩,
  ⟨some 5, none, .call 131 [(.t 4)]⟩,
  ⟨some 2, none, .mv (.t 5)⟩])
 .ret))
theorem d105 : FnD Tryz.prog 105 1 5 [.tmp 2] c105 := ⟨Tryz.f105, _, Tryz.func105, by kernel_rfl, rfl, rfl, by kernel_rfl, by kernel_rfl⟩
end Go.Proofs.YtemjlopoffjmpaaGreat.Abs
namespace Go.Proofs.YtemjlopoffjmpaaGreat.Abs
open Go
def c106 : ACode :=
 (.seq (.reg [⟨some 4, none, .mv (.c (.bool false))⟩])
 (.seq (.reg [⟨some 7, none, .mv (.t 1)⟩,
  ⟨some 5, none, .mv (.t 7)⟩])
 (.seq (.seq (.reg [⟨some 8, none, .mv (.t 0)⟩,
  ⟨some 9, none, .len false (.t 8)⟩,
  ⟨some 10, none, .mv (.c (.int .i64 0))⟩])
 (.block 0
 (.loop
 (.seq (.reg [⟨some 11, none, .bini .lss (.t 10) (.t 9)⟩])
 (.seq (.cond (.t 11)
 .skip
 (.exit 0))
 (.seq (.block 1
 (.seq (.reg [⟨some 12, none, .mv (.t 0)⟩,
  ⟨some 13, none, .mv (.t 5)⟩,
  ⟨some 14, none, .call 59 [(.t 12), (.t 13)]⟩,
  ⟨some 6, none, .mv (.t 14)⟩])
 (.seq (.seq (.reg [⟨some 15, none, .mv (.t 6)⟩,
  ⟨some 16, none, .bini .lss (.t 15) (.c (.int .i64 0))⟩])
 (.cond (.t 16)
 (.seq (.reg [⟨some 4, none, .mv (.c (.bool false))⟩])
 .ret)
 .skip))
 (.seq (.reg [⟨some 17, none, .mv (.t 0)⟩,
  ⟨some 18, none, .mv (.t 6)⟩,
  ⟨some 19, none, .iaddr 5 (.t 17) (.t 18)⟩,
  ⟨some 20, none, .faddr 2 (.t 19)⟩,
  ⟨some 21, none, .load false 1 (.t 20)⟩,
  ⟨some 5, none, .mv (.t 21)⟩])
 (.seq (.reg [⟨some 22, none, .mv (.t 5)⟩,
  ⟨some 23, none, .mv (.t 1)⟩,
  ⟨some 24, none, .bini .eql (.t 22) (.t 23)⟩])
 (.cond (.t 24)
 (.seq (.reg [⟨some 4, none, .mv (.c (.bool true))⟩])
 .ret)
 .skip))))))
 (.reg [⟨some 25, none, .bini .add (.t 10) (.c (.int .i64 1))⟩,
  ⟨some 10, none, .mv (.t 25)⟩])))))))
 (.seq (.reg [⟨some 4, none, .mv (.c (.bool false))⟩])
 .ret))))
theorem d106 : FnD Tryz.prog 106 2 24 [.tmp 4] c106 := ⟨Tryz.f106, _, Tryz.func106, by kernel_rfl, rfl, rfl, by kernel_rfl, by kernel_rfl⟩
end Go.Proofs.YtemjlopoffjmpaaGreat.Abs
namespace Go.Proofs.YtemjlopoffjmpaaGreat.Abs
open Go
def c107 : ACode :=
 (.seq (.reg [⟨some 4, none, .mv (.c (.bool false))⟩])
 (.seq (.seq (.reg [⟨some 6, none, .mv (.t 0)⟩,
  ⟨some 7, none, .len false (.t 6)⟩,
  ⟨some 8, none, .mv (.t 1)⟩,
  ⟨some 9, none, .len false (.t 8)⟩,
  ⟨some 10, none, .bini .neq (.t 7) (.t 9)⟩])
 (.cond (.t 10)
 (.seq (.reg [⟨some 4, none, .mv (.c (.bool false))⟩])
 .ret)
 .skip))
 (.seq (.seq (.reg [⟨some 11, none, .mv (.t 0)⟩,
  ⟨some 12, none, .len false (.t 11)⟩,
  ⟨some 13, none, .mv (.c (.int .i64 0))⟩])
 (.block 0
 (.loop
 (.seq (.reg [⟨some 14, none, .bini .lss (.t 13) (.t 12)⟩])
 (.seq (.cond (.t 14)
 .skip
 (.exit 0))
 (.seq (.block 1
 (.seq (.reg [⟨some 15, none, .mv (.t 13)⟩,
  ⟨some 5, none, .mv (.t 15)⟩])
 (.seq (.dreg [⟨some 16, none, .mv (.t 0)⟩,
  ⟨some 17, none, .mv (.t 5)⟩,
  ⟨some 18, none, .iaddr 5 (.t 16) (.t 17)⟩,
  ⟨some 19, none, .load true 5 (.t 18)⟩,
  ⟨some 20, none, .mv (.t 1)⟩,
  ⟨some 21, none, .mv (.t 5)⟩,
  ⟨some 22, none, .iaddr 5 (.t 20) (.t 21)⟩,
  ⟨some 23, none, .load true 5 (.t 22)⟩,
  ⟨some 24, none, .eqs true [.i, .i, .s, .s, .i] (.t 19) (.t 23)⟩])
 (.cond (.t 24)
 (.seq (.reg [⟨some 4, none, .mv (.c (.bool false))⟩])
 .ret)
 .skip))))
 (.reg [⟨some 25, none, .bini .add (.t 13) (.c (.int .i64 1))⟩,
  ⟨some 13, none, .mv (.t 25)⟩])))))))
 (.seq (.reg [⟨some 4, none, .mv (.c (.bool true))⟩])
 .ret))))
theorem d107 : FnD Tryz.prog 107 2 24 [.tmp 4] c107 := ⟨Tryz.f107, _, Tryz.func107, by kernel_rfl, rfl, rfl, by kernel_rfl, by kernel_rfl⟩
end Go.Proofs.YtemjlopoffjmpaaGreat.Abs
namespace Go.Proofs.YtemjlopoffjmpaaGreat.Abs
open Go
def c131 : ACode :=
 (.seq (.reg [⟨some 1, none, .box (.t 0)⟩,
  ⟨some 2, none, .mv (.c (.bool false))⟩])
 (.seq (.seq (.reg [⟨some 7, none, .faddr 0 (.t 1)⟩,
  ⟨some 8, none, .load false 1 (.t 7)⟩,
  ⟨some 9, none, .len false (.t 8)⟩,
  ⟨some 10, none, .bini .neq (.t 9) (.c (.int .i64 8))⟩,
  ⟨some 11, none, .mv (.t 10)⟩,
  ⟨some 12, (some (11, false)), .faddr 0 (.t 1)⟩,
  ⟨some 13, (some (11, false)), .load false 1 (.t 12)⟩,
  ⟨some 14, (some (11, false)), .iaddr 5 (.t 13) (.c (.int .i64 0))⟩,
  ⟨some 15, (some (11, false)), .load true 5 (.t 14)⟩,
  ⟨some 16, (some (11, false)), .build [.int .i64 0, .int .i64 0, .str [], .str [], .int .i64 0] [(0, 1, (.c (.int .i64 2)))]⟩,
  ⟨some 17, (some (11, false)), .eqs true [.i, .i, .s, .s, .i] (.t 15) (.t 16)⟩,
  ⟨some 18, none, .pick (.t 11) (.c (.bool true)) (.t 17)⟩])
 (.cond (.t 18)
 (.seq (.reg [⟨some 2, none, .mv (.c (.bool false))⟩])
 .ret)
 .skip))
 (.seq (.seq (.reg [⟨some 19, none, .faddr 0 (.t 1)⟩,
  ⟨some 20, none, .load false 1 (.t 19)⟩,
  ⟨some 21, none, .slicel 5 (.t 20) (some (.c (.int .i64 1))) none⟩,
  ⟨some 22, none, .len false (.t 21)⟩,
  ⟨some 23, none, .mv (.c (.int .i64 0))⟩])
 (.block 0
 (.loop
 (.seq (.reg [⟨some 24, none, .bini .lss (.t 23) (.t 22)⟩])
 (.seq (.cond (.t 24)
 .skip
 (.exit 0))
 (.seq (.block 1
 (.seq (.reg [⟨some 25, none, .iaddr 5 (.t 21) (.t 23)⟩,
  ⟨some 26, none, .load true 5 (.t 25)⟩,
  ⟨some 4, none, .alloc [.int .i64 0, .int .i64 0, .str [], .str [], .int .i64 0]⟩,
  ⟨none, none, .store 5 (.t 4) (.t 26)⟩])
 (.seq (.reg [⟨some 27, none, .load true 5 (.t 4)⟩,
  ⟨some 28, none, .build [.int .i64 0, .int .i64 0, .str [], .str [], .int .i64 0] []⟩,
  ⟨some 29, none, .eqs true [.i, .i, .s, .s, .i] (.t 27) (.t 28)⟩,
  ⟨some 30, none, .mv (.t 29)⟩,
  ⟨some 31, (some (30, true)), .load true 1 (.t 1)⟩,
  ⟨some 32, (some (30, true)), .load true 5 (.t 4)⟩,
  ⟨some 33, (some (30, true)), .call 158 [(.t 31), (.t 32)]⟩,
  ⟨some 34, (some (30, true)), .un .not (.t 33)⟩,
  ⟨some 35, none, .pick (.t 30) (.t 34) (.c (.bool false))⟩])
 (.cond (.t 35)
 (.seq (.reg [⟨some 2, none, .mv (.c (.bool false))⟩])
 .ret)
 .skip))))
 (.reg [⟨some 36, none, .bini .add (.t 23) (.c (.int .i64 1))⟩,
  ⟨some 23, none, .mv (.t 36)⟩])))))))
 (.seq (.seq (.reg [⟨some 37, none, .faddr 0 (.t 1)⟩,
  ⟨some 38, none, .load false 1 (.t 37)⟩,
  ⟨some 39, none, .len false (.t 38)⟩,
  ⟨some 40, none, .mv (.c (.int .i64 0))⟩])
 (.block 2
 (.loop
 (.seq (.reg [⟨some 41, none, .bini .lss (.t 40) (.t 39)⟩])
 (.seq (.cond (.t 41)
 .skip
 (.exit 2))
 (.seq (.block 3
 (.seq (.reg [⟨some 42, none, .mv (.t 40)⟩,
  ⟨some 43, none, .iaddr 5 (.t 38) (.t 40)⟩,
  ⟨some 44, none, .load true 5 (.t 43)⟩,
  ⟨some 6, none, .alloc [.int .i64 0, .int .i64 0, .str [], .str [], .int .i64 0]⟩,
  ⟨some 5, none, .mv (.t 42)⟩,
  ⟨none, none, .store 5 (.t 6) (.t 44)⟩])
 (.seq (.reg [⟨some 45, none, .mv (.t 5)⟩,
  ⟨some 46, none, .bini .gtr (.t 45) (.c (.int .i64 0))⟩,
  ⟨some 47, none, .mv (.t 46)⟩,
  ⟨some 48, (some (47, true)), .faddr 0 (.t 6)⟩,
  ⟨some 49, (some (47, true)), .load false 1 (.t 48)⟩,
  ⟨some 50, (some (47, true)), .bini .neq (.t 49) (.c (.int .i64 0))⟩,
  ⟨some 51, none, .pick (.t 47) (.t 50) (.c (.bool false))⟩,
  ⟨some 52, none, .mv (.t 51)⟩,
  ⟨some 53, (some (52, true)), .load true 1 (.t 1)⟩,
  ⟨some 54, (some (52, true)), .mv (.t 5)⟩,
  ⟨some 55, (some (52, true)), .call 159 [(.t 53), (.t 54)]⟩,
  ⟨some 56, (some (52, true)), .un .not (.t 55)⟩,
  ⟨some 57, (some (52, true)), .mv (.t 56)⟩,
  ⟨some 58, (some (57, false)), .load true 1 (.t 1)⟩,
  ⟨some 59, (some (57, false)), .mv (.t 5)⟩,
  ⟨some 60, (some (57, false)), .call 160 [(.t 58), (.t 59)]⟩,
  ⟨some 61, (some (52, true)), .pick (.t 57) (.c (.bool true)) (.t 60)⟩,
  ⟨some 62, none, .pick (.t 52) (.t 61) (.c (.bool false))⟩])
 (.cond (.t 62)
 (.seq (.reg [⟨some 2, none, .mv (.c (.bool false))⟩])
 .ret)
 .skip))))
 (.reg [⟨some 63, none, .bini .add (.t 40) (.c (.int .i64 1))⟩,
  ⟨some 40, none, .mv (.t 63)⟩])))))))
 (.seq (.reg [⟨some 2, none, .mv (.c (.bool true))⟩])
 .ret)))))
theorem d131 : FnD Tryz.prog 131 1 63 [.tmp 2] c131 := ⟨Tryz.f131, _, Tryz.func131, by kernel_rfl, rfl, rfl, by kernel_rfl, by kernel_rfl⟩
end Go.Proofs.YtemjlopoffjmpaaGreat.Abs
