/-
  Part 3 of the proof: no condition. (Parts of the abstract layer, of the program's functions in its form, and of their contracts.)
-/
import Derived.Test.YtemjlopoffjmpaaGreatSAWk
import Derived.Test.YtemjlopoffjmpaaGreatSAWk3
import Derived.Test.YtemjlopoffjmpaaGreatSA1
import Derived.Test.YtemjlopoffjmpaaGreatSA2
import Derived.Test.YtemjlopoffjmpaaGreatSAAbs39
import Derived.Test.YtemjlopoffjmpaaGreatSAAbs22
import Derived.Test.YtemjlopoffjmpaaGreatProg
import Derived.KernelRfl
import Derived.Test.YtemjlopoffjmpaaGreatSAAbs41
set_option linter.unusedSimpArgs false
set_option linter.unusedVariables false
namespace Go.Proofs.YtemjlopoffjmpaaGreat.Abs
open Go Go.Proofs
theorem rused0 (s : List Node) (hs : s.length ≤ 1000000) : C Tryz.prog 20 [aset s] [] (fun x _ => x = .int .i64 (used s)) := by
 refine C_body d20 rfl (WT_ok ?_)
 delta c20 I0 I1 I2 I3 I4 I5 I6 I7 I8 I9 KI
 simp only [aset, wk, iaddrV_map, seval]
 refine WT_loop (W_loop (fun n fr H' => ∃ i : Nat, i ≤ s.length ∧ n = s.length - i ∧ H' = [] ∧ fr = [.fz (s.map pnode), .top, .int .i64 0, .int .i64 (used (s.take i)), .int .i64 i] ++ List.replicate 15 .top) s.length ⟨0, by omega, rfl, rfl, rfl⟩ ?_)
 rintro n fr H' ⟨i, hi, rfl, rfl, rfl⟩
 refine WT_ok ?_
 simp only [wk, iaddrV_map, seval]
 refine guard_both ?_ ?_ <;> intro h <;> simp only [hy] at h <;> simp only [h, wk, iaddrV_map, seval]
 ·have hil : i < s.length := by omega
  refine ⟨⟨by omega, rfl⟩, ?_⟩
  simp only [pnode, wk, iaddrV_map, seval]
  refine CT_ok (count_spec _ _) ?_
  rintro _ _ ⟨rfl, rfl⟩
  have hb := usedA_le countA countA_le (s.take i)
  have hb2 := countA_le (s.getD i default).body
  rw [List.length_take] at hb
  have w1 : IntKind.i64.wrap ((used (s.take i) : Int) + (countA (s.getD i default).body : Int)) = (used (s.take i) : Int) + (countA (s.getD i default).body : Int) := IntWalk.i64_in _ (by unfold used; omega)
  have w2 : IntKind.i64.wrap ((i : Int) + 1) = (i : Int) + 1 := IntWalk.i64_in _ (by omega)
  simp only [w1, w2, wk, iaddrV_map, seval]
  refine QLoop_wk (n' := s.length - (i + 1)) (by omega) ⟨i + 1, by omega, rfl, rfl, rfl⟩ (Wk_clear ?_)
  simp only [renL, ren, upTo_zero, Tops_top, Tops_same, Tops_nil, used, usedA_take countA s i hil, Int.natCast_add, Int.natCast_one, List.replicate_succ, List.replicate_zero, List.cons_append, List.nil_append]
 ·have : i = s.length := by omega
  subst this
  rw [List.take_length]
theorem rused (s : List Node) (hs : s.length ≤ 1000000) (H : AH) : C Tryz.prog 20 [aset s] H (fun x H' => x = .int .i64 (used s) ∧ H' = H) :=
 C_flat (K0 := fun x _ => x = .int .i64 (used s)) (rused0 s hs) (by rintro x _ rfl; exact ⟨rfl, rfl, rfl⟩)
theorem SET_pure {P : Program} {f : FuncId} {args : List Opd} {d : Option Nat} {c : Nat} {fr : List AV} {H : AH} {K : List Loc → List Loc → Nat → List AV → AH → Prop} {t} {vs : List AV} {x : AV} (ha : args.map (evalA fr) = vs) (hb : bareL vs = true) (hx : bare x = true)
 (h : C P f vs [] (fun y G => y = x ∧ G = [])) (hc : c ≤ H.length) (hk : K [] [] c (setA fr d x) H) : SET P (.call f args) d c fr H K t := by
 refine ⟨[], 0, x, [], List.nodup_nil, by simp, by omega, rfl, ?_, ?_⟩
 ·rw [ha, renL_bare _ _ hb]; exact h
 ·simp only [List.nil_append, List.range'_zero, List.map_nil, List.append_nil, Nat.add_zero]
  rw [ren_bare _ _ hx]
  exact hk
theorem CFT_pure {P : Program} {f : FuncId} {args : List AV} {c : Nat} {H : AH} {late : List Loc → List Loc → Prop} {K : List Nat → Nat → AV → AH → Prop} {t} {x : AV} (hb : bareL args = true) (hx : bare x = true)
 (h : C P f args [] (fun y G => y = x ∧ G = [])) (hc : c ≤ H.length) (hk : K [] c x H) : CFT P f args c H late K t := by
 refine .inl ⟨[], 0, x, [], List.nodup_nil, by simp, by omega, rfl, ?_, ?_⟩
 ·rw [renL_bare _ _ hb]; exact h
 ·simp only [List.nil_append, List.range'_zero, Nat.add_zero]
  rw [ren_bare _ _ hx]
  exact hk
theorem KWk_then {K : AV → AH → Prop} {x x' : AV} {H H' : AH} (h : Wk 0 [x] H [x'] H') (hk : KWk 0 K x' H') : KWk 0 K x H := by
 obtain ⟨y, G, h2, h3⟩ := hk
 exact ⟨y, G, h.trans h2, h3⟩
theorem frz_cell (r : Nat) (es : List (List PV)) (d : Dset) : frzL r es (cellD d) = cellD d := by simp [frzL, frz, cellD, aset]
theorem map_frz (r : Nat) (es : List (List PV)) (l : List Dset) : (l.map cellD).map (frzL r es) = l.map cellD := by
 rw [List.map_map]
 apply List.map_congr_left
 intro d _
 exact frz_cell r es d
theorem KWk_files (l : List Dset) (k : Nat) (d : Dset) (s : List Node) (o0 : AObj) :
 KWk 0 (fun y H' => y = outA (l.set k { d with files := s }, 0) ∧ H' = []) (.tuple [.own 1 5 0 l.length l.length, .int .i64 0])
  [some o0, some ((l.map cellD).set k [.int .i64 d.id, .int .i64 d.kind, .int .i64 d.origin, .int .i64 d.quota, .own 2 5 0 s.length s.length]), some ((s.map pnode).map fun e => e.map emb)] := by
 have h := Wk_freeze (n0 := 0) (fr := [.tuple [.own 1 5 0 l.length l.length, .int .i64 0]]) (H := [some o0, some ((l.map cellD).set k [.int .i64 d.id, .int .i64 d.kind, .int .i64 d.origin, .int .i64 d.quota, .own 2 5 0 s.length s.length]), some ((s.map pnode).map fun e => e.map emb)]) 2 (s.map pnode) rfl
 have e : frzL 2 (s.map pnode) [.int .i64 d.id, .int .i64 d.kind, .int .i64 d.origin, .int .i64 d.quota, .own 2 5 0 s.length s.length] = cellD { d with files := s } := by
  simp only [frzL, frz, cellD, aset, if_true, List.length_map, Nat.zero_add, Nat.le_refl, and_self, List.drop_zero]
  rw [List.take_of_length_le (by simp)]
 refine KWk_then h (KWk_sets 1 (l.set k { d with files := s }) 0 _ (by simp) ?_ ⟨rfl, rfl⟩)
 simp only [mapH, List.set_cons_succ, List.set_cons_zero, List.map_cons, List.map_nil, Option.map_some, Option.map_none, List.map_set, map_frz, e]
 rfl
def filesA (l : List Dset) (i : Int) (s : List Node) : List Dset × Int := match getA l i with
 | none => (l, 2)
 | some d => if d.kind = 2 then (l, 11) else if 0 < d.quota ∧ d.quota < used s ∧ used d.files < used s then (l, 9) else (l.set (findA l i).toNat { d with files := s }, 0)
theorem filesA0 (l : List Dset) (hl : Short l) (i : Int) (s : List Node) (hs : s.length ≤ 1000000) :
 C Tryz.prog 17 [asets l, .int .i64 i, aset s] [] (fun y H' => y = outA (filesA l i s) ∧ H' = []) := by
 have hl1 := hl.1
 refine C_body' d17 rfl (WT_ok ?_)
 delta c17 I0 I1 I2 I3 I4 I5 I6 I7 I8 I9 KI
 simp only [lay, wk3, wk, iaddrV_map, seval]
 refine CT_ok (rgetL l hl1 i _) ?_
 rintro _ _ ⟨rfl, rfl⟩
 cases hg : getA l i with
 | none =>
   have e : filesA l i s = (l, 2) := by unfold filesA; rw [hg]
   rw [e]
   simp only [getV, lay, wk3, wk, iaddrV_map, seval]
   exact KWk_bare (by simp [bare, bareL, asets]) ⟨rfl, rfl⟩
 | some d =>
   have hd := hl.2 d (getA_mem hg).1
   by_cases h2 : d.kind = 2
   ·have e : filesA l i s = (l, 11) := by unfold filesA; rw [hg]; exact if_pos h2
    rw [e]
    simp only [getV, h2, cellD, aset, lay, wk3, wk, iaddrV_map, seval]
    exact KWk_bare (by simp [bare, bareL, asets]) ⟨rfl, rfl⟩
   have hB : filesA l i s = if 0 < d.quota ∧ d.quota < used s ∧ used d.files < used s then (l, 9) else (l.set (findA l i).toNat { d with files := s }, 0) := by
    unfold filesA; rw [hg]; exact if_neg h2
   obtain ⟨k, ek, hk, hdk⟩ : ∃ k : Nat, findA l i = k ∧ k < l.length ∧ l.getD k default = d := by
    unfold getA at hg
    rcases find_of (l := l) (i := i) with ⟨e, _⟩ | ⟨k, e, hk, _, _⟩
    ·rw [e] at hg; cases hg
    ·rw [e, if_pos (by omega), Int.toNat_natCast] at hg
     exact ⟨k, e, hk, Option.some.inj hg⟩
   rw [ek, Int.toNat_natCast] at hB
   have hc : (l.map cellD)[k]? = some (cellD d) := by rw [cell_at hk, hdk]
   have k0 : (0 : Int) ≤ k := by omega
   have k1 : (k : Int) < l.length := by omega
   by_cases h3 : 0 < d.quota
   case neg =>
    rw [if_neg (fun h => h3 h.1)] at hB
    simp only [getV, h2, cellD, aset, lay, wk3, wk, iaddrV_map, seval]
    refine WT_drawE ?_
    simp only [h3, lay, wk3, wk, iaddrV_map, seval]
    refine WDT_more 0 ?_
    simp only [h3, lay, wk3, wk, iaddrV_map, seval]
    refine ⟨by rfl, ?_⟩
    refine WDT_more 0 ?_
    simp only [h3, lay, wk3, wk, iaddrV_map, seval]
    refine ⟨by rfl, ?_⟩
    simp only [asets, cellsD, rows5D, List.length_map, lay, wk3, wk, iaddrV_map, seval]
    refine ⟨⟨by omega, by omega⟩, ?_⟩
    refine CT_ok (rat85 l hl1 i _) ?_
    rintro _ _ ⟨rfl, rfl⟩
    simp only [ek, k0, k1, hc, cellD, aset, lay, wk3, wk, iaddrV_map, seval]
    refine ⟨⟨rows5 s, by omega, by omega⟩, ?_⟩
    rw [hB]
    exact KWk_files l k d s _
   simp only [getV, h2, cellD, aset, lay, wk3, wk, iaddrV_map, seval]
   refine WT_drawE ?_
   simp only [h3, lay, wk3, wk, iaddrV_map, seval]
   refine WDT_more 0 ?_
   simp only [h3, lay, wk3, wk, iaddrV_map, seval]
   refine SET_pure (x := .int .i64 (used s)) rfl rfl rfl (rused s hs []) (by simp) ?_
   simp only [lay, wk3, wk, iaddrV_map, seval]
   refine ⟨by rfl, ?_⟩
   by_cases h4 : d.quota < (used s : Int)
   case neg =>
    rw [if_neg (fun h => h4 h.2.1)] at hB
    simp only [h3, h4, lay, wk3, wk, iaddrV_map, seval]
    refine WDT_more 0 ?_
    simp only [h3, h4, lay, wk3, wk, iaddrV_map, seval]
    refine ⟨by rfl, ?_⟩
    simp only [asets, cellsD, rows5D, List.length_map, lay, wk3, wk, iaddrV_map, seval]
    refine ⟨⟨by omega, by omega⟩, ?_⟩
    refine CT_ok (rat85 l hl1 i _) ?_
    rintro _ _ ⟨rfl, rfl⟩
    simp only [ek, k0, k1, hc, cellD, aset, lay, wk3, wk, iaddrV_map, seval]
    refine ⟨⟨rows5 s, by omega, by omega⟩, ?_⟩
    rw [hB]
    exact KWk_files l k d s _
   simp only [h3, h4, lay, wk3, wk, iaddrV_map, seval]
   refine WDT_more 0 ?_
   simp only [h3, h4, lay, wk3, wk, iaddrV_map, seval]
   refine SET_pure (x := .int .i64 (used s)) rfl rfl rfl (rused s hs []) (by simp) ?_
   simp only [lay, wk3, wk, iaddrV_map, seval]
   refine ⟨by rfl, ?_⟩
   refine CT_ok (rused d.files hd _) ?_
   rintro _ _ ⟨rfl, rfl⟩
   by_cases h5 : (used d.files : Int) < (used s : Int)
   case neg =>
    rw [if_neg (fun h => h5 (by omega))] at hB
    simp only [h5, lay, wk3, wk, iaddrV_map, seval]
    simp only [asets, cellsD, rows5D, List.length_map, lay, wk3, wk, iaddrV_map, seval]
    refine ⟨⟨by omega, by omega⟩, ?_⟩
    refine CT_ok (rat85 l hl1 i _) ?_
    rintro _ _ ⟨rfl, rfl⟩
    simp only [ek, k0, k1, hc, cellD, aset, lay, wk3, wk, iaddrV_map, seval]
    refine ⟨⟨rows5 s, by omega, by omega⟩, ?_⟩
    rw [hB]
    exact KWk_files l k d s _
   rw [if_pos ⟨h3, h4, by omega⟩] at hB
   simp only [h5, hB, lay, wk3, wk, iaddrV_map, seval]
   exact KWk_bare (by simp [bare, bareL, asets]) ⟨rfl, rfl⟩
end Go.Proofs.YtemjlopoffjmpaaGreat.Abs
set_option linter.unusedSimpArgs false
set_option linter.unusedVariables false
namespace Go.Proofs.YtemjlopoffjmpaaGreat.Abs
open Go Go.Proofs
theorem getA_of {l : List Dset} {i : Int} {k : Nat} (h : findA l i = k) : getA l i = some (l.getD k default) := by
 unfold getA
 rw [h, if_pos (by omega), Int.toNat_natCast]
theorem getA_no {l : List Dset} {i : Int} (h : findA l i = -1) : getA l i = none := by
 unfold getA
 rw [h, if_neg (by decide)]
theorem renO_one (τ : Nat → Option Nat) (d : Dset) : renO τ [cellD d] = [cellD d] := renO_cells τ [d]
theorem rback0 (l : List Dset) (hl : Short l) (i j : Int) : C Tryz.prog 74 [asets l, .int .i64 i, .int .i64 j] [] (fun y H' => y = outA (backA l i j) ∧ H' = []) := by
 have hl1 := hl.1
 refine C_body' d74 rfl (WT_ok ?_)
 delta c74 I0 I1 I2 I3 I4 I5 I6 I7 I8 I9 KI
 simp only [lay, wk3, wk, iaddrV_map, seval]
 refine CT_ok (rgetL l hl1 i _) ?_
 rintro _ _ ⟨rfl, rfl⟩
 rcases find_of (l := l) (i := i) with ⟨e, _⟩ | ⟨k, e, hk, hid, _⟩
 ·have hA : backA l i j = (l, 2) := by unfold backA; rw [e]; exact if_pos (.inl (by decide))
  rw [getA_no e, hA]
  simp only [getV, lay, wk3, wk, iaddrV_map, seval]
  refine CT_ok (rgetL l hl1 j _) ?_
  rintro _ _ ⟨rfl, rfl⟩
  cases getA l j with
  | none =>
    simp only [getV, lay, wk3, wk, iaddrV_map, seval]
    exact KWk_bare (by simp [bare, bareL, asets]) ⟨rfl, rfl⟩
  | some s =>
    simp only [getV, cellD, aset, lay, wk3, wk, iaddrV_map, seval]
    exact KWk_bare (by simp [bare, bareL, asets]) ⟨rfl, rfl⟩
 rw [getA_of e]
 simp only [getV, cellD, aset, lay, wk3, wk, iaddrV_map, seval]
 refine CT_ok (rgetL l hl1 j _) ?_
 rintro _ _ ⟨rfl, rfl⟩
 rcases find_of (l := l) (i := j) with ⟨e', _⟩ | ⟨m, e', hm, hid', _⟩
 ·have hA : backA l i j = (l, 2) := by unfold backA; rw [e']; exact if_pos (.inr (by decide))
  rw [getA_no e', hA]
  simp only [getV, lay, wk3, wk, iaddrV_map, seval]
  exact KWk_bare (by simp [bare, bareL, asets]) ⟨rfl, rfl⟩
 rw [getA_of e']
 simp only [getV, cellD, aset, lay, wk3, wk, iaddrV_map, seval]
 have hB : backA l i j = if (l.getD k default).kind ≠ 1 ∨ (l.getD m default).kind ≠ 2 ∨ (l.getD m default).origin ≠ i then (l, 1) else if 0 ≤ idxA (laterA i j) l then (l, 10) else (l.set k { (l.getD k default) with files := (l.getD m default).files }, 0) := by
  unfold backA
  rw [e, e', if_neg (by omega), Int.toNat_natCast, Int.toNat_natCast]
 by_cases h1 : (l.getD k default).kind = 1
 case neg =>
  rw [if_pos (.inl h1)] at hB
  simp only [h1, hB, lay, wk3, wk, iaddrV_map, seval]
  exact KWk_bare (by simp [bare, bareL, asets]) ⟨rfl, rfl⟩
 by_cases h2 : (l.getD m default).kind = 2
 case neg =>
  rw [if_pos (.inr (.inl h2))] at hB
  simp only [h1, h2, hB, lay, wk3, wk, iaddrV_map, seval]
  exact KWk_bare (by simp [bare, bareL, asets]) ⟨rfl, rfl⟩
 by_cases h3 : (l.getD m default).origin = i
 case neg =>
  rw [if_pos (.inr (.inr h3))] at hB
  simp only [h1, h2, h3, hB, lay, wk3, wk, iaddrV_map, seval]
  exact KWk_bare (by simp [bare, bareL, asets]) ⟨rfl, rfl⟩
 rw [if_neg (fun hh => by rcases hh with hh | hh | hh <;> exact hh (by assumption))] at hB
 simp only [h1, h2, h3, lay, wk3, wk, iaddrV_map, seval]
 refine WT_loop (W_wk (fr' := [asets l, .int .i64 i, .int .i64 j, .top, .top, .top, .emp, .int .i64 0, .ptr 0 0 0 1, .bool true, .ptr 1 0 0 1, .bool true, .int .i64 0] ++ List.replicate 78 .top) (Wk_obj2 (renO_one _ ⟨(l.getD k default).id, 1, (l.getD k default).origin, (l.getD k default).quota, (l.getD k default).files⟩) (renO_one _ ⟨(l.getD m default).id, 2, i, (l.getD m default).quota, (l.getD m default).files⟩) ?_) (W_loop (fun n fr H' => ∃ x : Nat, x ≤ l.length ∧ n = l.length - x ∧ (∀ y, y < x → laterA i j (l.getD y default) = false) ∧ H' = [some [cellD ⟨(l.getD k default).id, 1, (l.getD k default).origin, (l.getD k default).quota, (l.getD k default).files⟩], some [cellD ⟨(l.getD m default).id, 2, i, (l.getD m default).quota, (l.getD m default).files⟩]] ∧
  fr = [asets l, .int .i64 i, .int .i64 j, .top, .top, .top, .emp, .int .i64 0, .ptr 0 0 0 1, .bool true, .ptr 1 0 0 1, .bool true, .int .i64 x] ++ List.replicate 78 .top) l.length ⟨0, by omega, rfl, fun y hy => by omega, rfl, rfl⟩ ?_))
 ·simp only [asets, upTo, renL, ren, tp, show (0 : Nat) < 2 by omega, show (1 : Nat) < 2 by omega, if_true]
 rintro n fr H' ⟨x, hx, rfl, hn, rfl, rfl⟩
 refine WT_ok ?_
 simp only [asets, lay, wk4, wk3, wk, iaddrV_map, seval]
 refine guard_both ?_ ?_ <;> intro h <;> simp only [hy] at h
 ·have hx2 : x < l.length := by omega
  have w2 : IntKind.i64.wrap ((x : Int) + 1) = (x : Int) + 1 := IntWalk.i64_in _ (by omega)
  have h0 : (0 : Int) ≤ x := by omega
  have e5 : (pdset (l.getD x default)).length = 5 := rfl
  simp only [h, h0, e5, iaddr_dset, pdset, lay, wk4, wk3, wk, iaddrV_map, seval]
  by_cases g1 : (l.getD x default).kind = 2
  case neg =>
   simp only [g1, w2, lay, wk4, wk3, wk, iaddrV_map, seval]
   refine QLoop_go (n' := l.length - (x + 1)) (by omega) ⟨x + 1, by omega, rfl, fun y hy => ?_, rfl, rfl⟩ ?_
   ·rcases Nat.lt_or_ge y x with h' | h'
    ·exact hn y h'
    ·have : y = x := by omega
     subst this
     unfold laterA
     simp only [g1, decide_false, Bool.false_and, Bool.and_false, Bool.not_false, if_false]
   ·simp only [asets, tq]
  by_cases g2 : (l.getD x default).origin = i
  case neg =>
   simp only [g1, g2, h0, h, e5, iaddr_dset, pdset, w2, lay, wk4, wk3, wk, iaddrV_map, seval]
   refine QLoop_go (n' := l.length - (x + 1)) (by omega) ⟨x + 1, by omega, rfl, fun y hy => ?_, rfl, rfl⟩ ?_
   ·rcases Nat.lt_or_ge y x with h' | h'
    ·exact hn y h'
    ·have : y = x := by omega
     subst this
     unfold laterA
     simp only [g2, decide_false, Bool.false_and, Bool.and_false, Bool.not_false, if_false]
   ·simp only [asets, tq]
  by_cases g3 : j < (l.getD x default).id
  case neg =>
   simp only [g1, g2, g3, h0, h, e5, iaddr_dset, pdset, w2, lay, wk4, wk3, wk, iaddrV_map, seval]
   refine QLoop_go (n' := l.length - (x + 1)) (by omega) ⟨x + 1, by omega, rfl, fun y hy => ?_, rfl, rfl⟩ ?_
   ·rcases Nat.lt_or_ge y x with h' | h'
    ·exact hn y h'
    ·have : y = x := by omega
     subst this
     unfold laterA
     simp only [g3, decide_false, Bool.false_and, Bool.and_false, Bool.not_false, if_false]
   ·simp only [asets, tq]
  have hI : idxA (laterA i j) l = x := idxA_some hx2 (by unfold laterA; simp only [g1, g2, g3, decide_true, Bool.and_true]) hn
  rw [hI, if_pos (by omega)] at hB
  simp only [g1, g2, g3, h0, h, e5, iaddr_dset, pdset, hB, lay, wk4, wk3, wk, iaddrV_map, seval]
  exact KWk_bare (by simp [bare, bareL]) ⟨rfl, rfl⟩
 ·have hI : idxA (laterA i j) l = -1 := idxA_none fun y hy => hn y (by omega)
  rw [hI, if_neg (by decide)] at hB
  simp only [h, cellsD, rows5D, lay, wk4, wk3, wk, iaddrV_map, seval]
  refine ⟨⟨by omega, by omega⟩, ?_⟩
  refine WT_drawE ?_
  refine WDT_more 0 ?_
  simp only [cellD, aset, lay, wk4, wk3, wk, iaddrV_map, seval]
  refine CFT_pure (x := .int .i64 (findA l i)) rfl rfl (rat85 l hl1 i []) (by simp) ?_
  have k0 : (0 : Int) ≤ k := by omega
  have k1 : (k : Int) < l.length := by omega
  have hc := cell_at hk
  simp only [e, k0, k1, hc, cellD, aset, lay, wk4, wk3, wk, iaddrV_map, seval]
  refine ⟨by rfl, ?_⟩
  rw [hB]
  exact KWk_sets 2 (l.set k _) 0 _ (by simp) (by rw [List.map_set]; rfl) ⟨rfl, rfl⟩
end Go.Proofs.YtemjlopoffjmpaaGreat.Abs
set_option linter.unusedSimpArgs false
set_option linter.unusedVariables false
namespace Go.Proofs.YtemjlopoffjmpaaGreat.Abs
open Go Go.Proofs
def notA (i : Int) (d : Dset) : Bool := !decide (d.id = i)
def hgB (l : List Dset) (i : Int) : Bool := l.any fun d => decide (d.origin = i)
theorem take_filter (p : Dset → Bool) (l : List Dset) (k : Nat) (h : k < l.length) : (l.take (k + 1)).filter p = (l.take k).filter p ++ if p (l.getD k default) then [l.getD k default] else [] := by
 rw [List.take_add_one, List.getElem?_eq_getElem h, List.filter_append]
 simp only [List.getD_eq_getElem?_getD, List.getElem?_eq_getElem h, Option.getD_some, Option.toList_some, List.filter_cons, List.filter_nil]
theorem hgB_take (l : List Dset) (i : Int) (k : Nat) (h : k < l.length) : hgB (l.take (k + 1)) i = (hgB (l.take k) i || decide ((l.getD k default).origin = i)) := by
 unfold hgB
 rw [List.take_add_one, List.getElem?_eq_getElem h, List.any_append]
 simp only [List.getD_eq_getElem?_getD, List.getElem?_eq_getElem h, Option.getD_some, Option.toList_some, List.any_cons, List.any_nil, Bool.or_false]
def destR (l : List Dset) (i : Int) : List Dset × Int := match getA l i with
 | none => (l, 2)
 | some d => if hgB l i = true ∨ (d.kind = 1 ∧ livesA l = 1) then (l, 10) else (l.filter (notA i), 0)
theorem rdestroy0 (l : List Dset) (hl : Short l) (i : Int) : C Tryz.prog 75 [asets l, .int .i64 i] [] (fun y H' => y = outA (destR l i) ∧ H' = []) := by
 have hl1 := hl.1
 refine C_body' d75 rfl (WT_ok ?_)
 delta c75 I0 I1 I2 I3 I4 I5 I6 I7 I8 I9 KI
 simp only [lay, wk3, wk, iaddrV_map, seval]
 refine CT_ok (rgetL l hl1 i _) ?_
 rintro _ _ ⟨rfl, rfl⟩
 cases hg : getA l i with
 | none =>
   have hA : destR l i = (l, 2) := by unfold destR; rw [hg]
   rw [hA]
   simp only [getV, lay, wk3, wk, iaddrV_map, seval]
   exact KWk_bare (by simp [bare, bareL, asets]) ⟨rfl, rfl⟩
 | some d =>
 have hB : destR l i = if hgB l i = true ∨ (d.kind = 1 ∧ livesA l = 1) then (l, 10) else (l.filter (notA i), 0) := by unfold destR; rw [hg]
 simp only [getV, cellD, aset, lay, wk3, wk, iaddrV_map, seval]
 refine WT_loop (W_wk (fr' := [asets l, .int .i64 i, .top, .top, .emp, .int .i64 0, .ptr 0 0 0 1, .bool true, .int .i64 0, .bool false, .own 1 5 0 0 0, .int .i64 0] ++ List.replicate 59 .top) (H' := [some [cellD d], some []]) ((Wk_empAt 10 5 rfl).trans (Wk_tops ?_)) (W_loop (fun n fr H' => ∃ x : Nat, x ≤ l.length ∧ n = l.length - x ∧ H' = [some [cellD d], some (((l.take x).filter (notA i)).map cellD)] ∧
  fr = [asets l, .int .i64 i, .top, .top, .emp, .int .i64 0, .ptr 0 0 0 1, .bool true, .int .i64 (livesA (l.take x)), .bool (hgB (l.take x) i), .own 1 5 0 ((l.take x).filter (notA i)).length ((l.take x).filter (notA i)).length, .int .i64 x] ++ List.replicate 59 .top) l.length ⟨0, by omega, rfl, rfl, rfl⟩ ?_))
 ·simp only [asets, List.replicate_succ, List.replicate_zero, List.cons_append, List.nil_append, List.set_cons_succ, List.set_cons_zero, List.length_cons, List.length_nil, Nat.zero_add, Tops_top, Tops_same, Tops_nil]
 rintro n fr H' ⟨x, hx, rfl, rfl, rfl⟩
 refine WT_ok ?_
 simp only [asets, lay, wk4, wk3, wk, iaddrV_map, seval]
 refine guard_both ?_ ?_ <;> intro h <;> simp only [hy] at h
 ·have hx2 : x < l.length := by omega
  have w2 : IntKind.i64.wrap ((x : Int) + 1) = (x : Int) + 1 := IntWalk.i64_in _ (by omega)
  have h0 : (0 : Int) ≤ x := by omega
  have e5 : (pdset (l.getD x default)).length = 5 := rfl
  have ht := livesA_take l x hx2
  have hu := hgB_take l i x hx2
  have hf := take_filter (notA i) l x hx2
  have hle := livesA_le (l.take x)
  have hfl := List.length_filter_le (notA i) (l.take x)
  have hle2 : (l.take x).length ≤ l.length := by simp; omega
  have w3 : IntKind.i64.wrap ((livesA (l.take x) : Int) + 1) = ((livesA (l.take x) + 1 : Nat) : Int) := by rw [IntWalk.i64_in _ (by omega)]; omega
  simp only [h, h0, e5, iaddr_dset, pdset, lay, wk4, wk3, wk, iaddrV_map, seval]
  have ec : ∀ p : notA i (l.getD x default) = true, ((l.take (x + 1)).filter (notA i)).map cellD = ((l.take x).filter (notA i)).map cellD ++ [cellD (l.getD x default)] := fun p => by rw [hf, if_pos p, List.map_append]; rfl
  have en : ∀ p : ¬ notA i (l.getD x default) = true, (l.take (x + 1)).filter (notA i) = (l.take x).filter (notA i) := fun p => by rw [hf, if_neg p, List.append_nil]
  by_cases c1 : (l.getD x default).kind = 1
  ·rw [if_pos c1] at ht
   cases hb : hgB (l.take x) i
   ·rw [hb] at hu
    by_cases c2 : (l.getD x default).origin = i
    ·skip
     by_cases c3 : (l.getD x default).id = i
     ·have hno : ¬ notA i (l.getD x default) = true := by unfold notA; rw [c3]; simp
      rw [en hno] at hf
      simp only [h, h0, c1, hb, c3, w2, w3, e5, iaddr_dset, pdset, cellD, aset, c2, lay, wk4, wk3, wk, iaddrV_map, seval]
      refine QLoop_wk (n' := l.length - (x + 1)) (by omega) ⟨x + 1, by omega, rfl, (by rw [en hno]), rfl⟩ (Wk_obj2 (renO_one _ d) (renO_cells _ ((l.take x).filter (notA i))) ?_)
      simp only [ht, hu, en hno, c2, renL, ren, asets, upTo, show (0 : Nat) < 2 by omega, show (1 : Nat) < 2 by omega, if_true, tq, List.length_append, List.length_cons, List.length_nil, Nat.zero_add, Bool.or_true, Bool.true_or, Bool.or_false, Bool.false_or, decide_true, decide_false]
     ·have hno : notA i (l.getD x default) = true := by unfold notA; rw [decide_eq_false c3]; rfl
      have ec2 := ec hno
      simp only [cellD, aset, c1, c2] at ec2
      simp only [h, h0, c1, hb, c3, w2, w3, e5, iaddr_dset, pdset, cellD, aset, c2, lay, wk4, wk3, wk, iaddrV_map, seval]
      refine ⟨⟨by omega, by omega⟩, ?_⟩
      refine QLoop_wk (n' := l.length - (x + 1)) (by omega) ⟨x + 1, by omega, rfl, (by rw [ec2]), rfl⟩ (Wk_obj2 (renO_one _ d) (by have := renO_cells (upTo 2) ((l.take (x + 1)).filter (notA i)); rw [ec2] at this; exact this) ?_)
      rw [if_pos hno] at hf
      simp only [ht, hu, hf, c2, renL, ren, asets, upTo, show (0 : Nat) < 2 by omega, show (1 : Nat) < 2 by omega, if_true, tq, List.length_append, List.length_cons, List.length_nil, Nat.zero_add, Bool.or_true, Bool.true_or, Bool.or_false, Bool.false_or, decide_true, decide_false]
    ·skip
     by_cases c3 : (l.getD x default).id = i
     ·have hno : ¬ notA i (l.getD x default) = true := by unfold notA; rw [c3]; simp
      rw [en hno] at hf
      simp only [h, h0, c1, hb, c3, w2, w3, e5, iaddr_dset, pdset, cellD, aset, c2, lay, wk4, wk3, wk, iaddrV_map, seval]
      refine QLoop_wk (n' := l.length - (x + 1)) (by omega) ⟨x + 1, by omega, rfl, (by rw [en hno]), rfl⟩ (Wk_obj2 (renO_one _ d) (renO_cells _ ((l.take x).filter (notA i))) ?_)
      simp only [ht, hu, en hno, c2, renL, ren, asets, upTo, show (0 : Nat) < 2 by omega, show (1 : Nat) < 2 by omega, if_true, tq, List.length_append, List.length_cons, List.length_nil, Nat.zero_add, Bool.or_true, Bool.true_or, Bool.or_false, Bool.false_or, decide_true, decide_false]
     ·have hno : notA i (l.getD x default) = true := by unfold notA; rw [decide_eq_false c3]; rfl
      have ec2 := ec hno
      simp only [cellD, aset, c1, c2] at ec2
      simp only [h, h0, c1, hb, c3, w2, w3, e5, iaddr_dset, pdset, cellD, aset, c2, lay, wk4, wk3, wk, iaddrV_map, seval]
      refine ⟨⟨by omega, by omega⟩, ?_⟩
      refine QLoop_wk (n' := l.length - (x + 1)) (by omega) ⟨x + 1, by omega, rfl, (by rw [ec2]), rfl⟩ (Wk_obj2 (renO_one _ d) (by have := renO_cells (upTo 2) ((l.take (x + 1)).filter (notA i)); rw [ec2] at this; exact this) ?_)
      rw [if_pos hno] at hf
      simp only [ht, hu, hf, c2, renL, ren, asets, upTo, show (0 : Nat) < 2 by omega, show (1 : Nat) < 2 by omega, if_true, tq, List.length_append, List.length_cons, List.length_nil, Nat.zero_add, Bool.or_true, Bool.true_or, Bool.or_false, Bool.false_or, decide_true, decide_false]
   ·rw [hb] at hu
    by_cases c3 : (l.getD x default).id = i
    ·have hno : ¬ notA i (l.getD x default) = true := by unfold notA; rw [c3]; simp
     rw [en hno] at hf
     simp only [h, h0, c1, hb, c3, w2, w3, e5, iaddr_dset, pdset, cellD, aset, lay, wk4, wk3, wk, iaddrV_map, seval]
     refine QLoop_wk (n' := l.length - (x + 1)) (by omega) ⟨x + 1, by omega, rfl, (by rw [en hno]), rfl⟩ (Wk_obj2 (renO_one _ d) (renO_cells _ ((l.take x).filter (notA i))) ?_)
     simp only [ht, hu, en hno, renL, ren, asets, upTo, show (0 : Nat) < 2 by omega, show (1 : Nat) < 2 by omega, if_true, tq, List.length_append, List.length_cons, List.length_nil, Nat.zero_add, Bool.or_true, Bool.true_or, Bool.or_false, Bool.false_or, decide_true, decide_false]
    ·have hno : notA i (l.getD x default) = true := by unfold notA; rw [decide_eq_false c3]; rfl
     have ec2 := ec hno
     simp only [cellD, aset, c1] at ec2
     simp only [h, h0, c1, hb, c3, w2, w3, e5, iaddr_dset, pdset, cellD, aset, lay, wk4, wk3, wk, iaddrV_map, seval]
     refine ⟨⟨by omega, by omega⟩, ?_⟩
     refine QLoop_wk (n' := l.length - (x + 1)) (by omega) ⟨x + 1, by omega, rfl, (by rw [ec2]), rfl⟩ (Wk_obj2 (renO_one _ d) (by have := renO_cells (upTo 2) ((l.take (x + 1)).filter (notA i)); rw [ec2] at this; exact this) ?_)
     rw [if_pos hno] at hf
     simp only [ht, hu, hf, renL, ren, asets, upTo, show (0 : Nat) < 2 by omega, show (1 : Nat) < 2 by omega, if_true, tq, List.length_append, List.length_cons, List.length_nil, Nat.zero_add, Bool.or_true, Bool.true_or, Bool.or_false, Bool.false_or, decide_true, decide_false]
  ·replace ht : livesA (l.take (x + 1)) = livesA (l.take x) := by rw [ht, if_neg c1]; rfl
   cases hb : hgB (l.take x) i
   ·rw [hb] at hu
    by_cases c2 : (l.getD x default).origin = i
    ·skip
     by_cases c3 : (l.getD x default).id = i
     ·have hno : ¬ notA i (l.getD x default) = true := by unfold notA; rw [c3]; simp
      rw [en hno] at hf
      simp only [h, h0, c1, hb, c3, w2, w3, e5, iaddr_dset, pdset, cellD, aset, c2, lay, wk4, wk3, wk, iaddrV_map, seval]
      refine QLoop_wk (n' := l.length - (x + 1)) (by omega) ⟨x + 1, by omega, rfl, (by rw [en hno]), rfl⟩ (Wk_obj2 (renO_one _ d) (renO_cells _ ((l.take x).filter (notA i))) ?_)
      simp only [ht, hu, en hno, c2, renL, ren, asets, upTo, show (0 : Nat) < 2 by omega, show (1 : Nat) < 2 by omega, if_true, tq, List.length_append, List.length_cons, List.length_nil, Nat.zero_add, Bool.or_true, Bool.true_or, Bool.or_false, Bool.false_or, decide_true, decide_false]
     ·have hno : notA i (l.getD x default) = true := by unfold notA; rw [decide_eq_false c3]; rfl
      have ec2 := ec hno
      simp only [cellD, aset, c1, c2] at ec2
      simp only [h, h0, c1, hb, c3, w2, w3, e5, iaddr_dset, pdset, cellD, aset, c2, lay, wk4, wk3, wk, iaddrV_map, seval]
      refine ⟨⟨by omega, by omega⟩, ?_⟩
      refine QLoop_wk (n' := l.length - (x + 1)) (by omega) ⟨x + 1, by omega, rfl, (by rw [ec2]), rfl⟩ (Wk_obj2 (renO_one _ d) (by have := renO_cells (upTo 2) ((l.take (x + 1)).filter (notA i)); rw [ec2] at this; exact this) ?_)
      rw [if_pos hno] at hf
      simp only [ht, hu, hf, c2, renL, ren, asets, upTo, show (0 : Nat) < 2 by omega, show (1 : Nat) < 2 by omega, if_true, tq, List.length_append, List.length_cons, List.length_nil, Nat.zero_add, Bool.or_true, Bool.true_or, Bool.or_false, Bool.false_or, decide_true, decide_false]
    ·skip
     by_cases c3 : (l.getD x default).id = i
     ·have hno : ¬ notA i (l.getD x default) = true := by unfold notA; rw [c3]; simp
      rw [en hno] at hf
      simp only [h, h0, c1, hb, c3, w2, w3, e5, iaddr_dset, pdset, cellD, aset, c2, lay, wk4, wk3, wk, iaddrV_map, seval]
      refine QLoop_wk (n' := l.length - (x + 1)) (by omega) ⟨x + 1, by omega, rfl, (by rw [en hno]), rfl⟩ (Wk_obj2 (renO_one _ d) (renO_cells _ ((l.take x).filter (notA i))) ?_)
      simp only [ht, hu, en hno, c2, renL, ren, asets, upTo, show (0 : Nat) < 2 by omega, show (1 : Nat) < 2 by omega, if_true, tq, List.length_append, List.length_cons, List.length_nil, Nat.zero_add, Bool.or_true, Bool.true_or, Bool.or_false, Bool.false_or, decide_true, decide_false]
     ·have hno : notA i (l.getD x default) = true := by unfold notA; rw [decide_eq_false c3]; rfl
      have ec2 := ec hno
      simp only [cellD, aset, c1, c2] at ec2
      simp only [h, h0, c1, hb, c3, w2, w3, e5, iaddr_dset, pdset, cellD, aset, c2, lay, wk4, wk3, wk, iaddrV_map, seval]
      refine ⟨⟨by omega, by omega⟩, ?_⟩
      refine QLoop_wk (n' := l.length - (x + 1)) (by omega) ⟨x + 1, by omega, rfl, (by rw [ec2]), rfl⟩ (Wk_obj2 (renO_one _ d) (by have := renO_cells (upTo 2) ((l.take (x + 1)).filter (notA i)); rw [ec2] at this; exact this) ?_)
      rw [if_pos hno] at hf
      simp only [ht, hu, hf, c2, renL, ren, asets, upTo, show (0 : Nat) < 2 by omega, show (1 : Nat) < 2 by omega, if_true, tq, List.length_append, List.length_cons, List.length_nil, Nat.zero_add, Bool.or_true, Bool.true_or, Bool.or_false, Bool.false_or, decide_true, decide_false]
   ·rw [hb] at hu
    by_cases c3 : (l.getD x default).id = i
    ·have hno : ¬ notA i (l.getD x default) = true := by unfold notA; rw [c3]; simp
     rw [en hno] at hf
     simp only [h, h0, c1, hb, c3, w2, w3, e5, iaddr_dset, pdset, cellD, aset, lay, wk4, wk3, wk, iaddrV_map, seval]
     refine QLoop_wk (n' := l.length - (x + 1)) (by omega) ⟨x + 1, by omega, rfl, (by rw [en hno]), rfl⟩ (Wk_obj2 (renO_one _ d) (renO_cells _ ((l.take x).filter (notA i))) ?_)
     simp only [ht, hu, en hno, renL, ren, asets, upTo, show (0 : Nat) < 2 by omega, show (1 : Nat) < 2 by omega, if_true, tq, List.length_append, List.length_cons, List.length_nil, Nat.zero_add, Bool.or_true, Bool.true_or, Bool.or_false, Bool.false_or, decide_true, decide_false]
    ·have hno : notA i (l.getD x default) = true := by unfold notA; rw [decide_eq_false c3]; rfl
     have ec2 := ec hno
     simp only [cellD, aset, c1] at ec2
     simp only [h, h0, c1, hb, c3, w2, w3, e5, iaddr_dset, pdset, cellD, aset, lay, wk4, wk3, wk, iaddrV_map, seval]
     refine ⟨⟨by omega, by omega⟩, ?_⟩
     refine QLoop_wk (n' := l.length - (x + 1)) (by omega) ⟨x + 1, by omega, rfl, (by rw [ec2]), rfl⟩ (Wk_obj2 (renO_one _ d) (by have := renO_cells (upTo 2) ((l.take (x + 1)).filter (notA i)); rw [ec2] at this; exact this) ?_)
     rw [if_pos hno] at hf
     simp only [ht, hu, hf, renL, ren, asets, upTo, show (0 : Nat) < 2 by omega, show (1 : Nat) < 2 by omega, if_true, tq, List.length_append, List.length_cons, List.length_nil, Nat.zero_add, Bool.or_true, Bool.true_or, Bool.or_false, Bool.false_or, decide_true, decide_false]
 ·have : x = l.length := by omega
  subst this
  have hl2 : l.take l.length = l := List.take_length
  have fin : ∀ hne : ¬ (hgB l i = true ∨ (d.kind = 1 ∧ livesA l = 1)), KWk 0 (fun y H' => y = outA (destR l i) ∧ H' = []) (.tuple [.own 1 5 0 (l.filter (notA i)).length (l.filter (notA i)).length, .int .i64 0]) [some [cellD d], some ((l.filter (notA i)).map cellD)] := fun hne => by
   rw [if_neg hne] at hB
   rw [hB]
   exact KWk_sets 1 (l.filter (notA i)) 0 _ rfl rfl ⟨rfl, rfl⟩
  simp only [cellD, aset] at fin
  simp only [h, hl2, cellD, aset, lay, wk4, wk3, wk, iaddrV_map, seval]
  cases hb : hgB l i
  ·by_cases c1 : d.kind = 1
   ·by_cases c2 : (livesA l : Int) = 1
    ·rw [if_pos (.inr ⟨c1, by omega⟩)] at hB
     simp only [hb, c1, c2, hB, lay, wk4, wk3, wk, iaddrV_map, seval]
     exact KWk_bare (by simp [bare, bareL]) ⟨rfl, rfl⟩
    ·replace fin := fin (by rw [hb]; intro hh; rcases hh with hh | hh; cases hh; omega)
     rw [c1] at fin
     simp only [hb, c1, c2, lay, wk4, wk3, wk, iaddrV_map, seval]
     exact fin
   ·replace fin := fin (by rw [hb]; intro hh; rcases hh with hh | hh; cases hh; exact c1 hh.1)
    simp only [hb, c1, lay, wk4, wk3, wk, iaddrV_map, seval]
    exact fin
  ·rw [if_pos (.inl hb)] at hB
   simp only [hb, hB, lay, wk4, wk3, wk, iaddrV_map, seval]
   exact KWk_bare (by simp [bare, bareL]) ⟨rfl, rfl⟩
end Go.Proofs.YtemjlopoffjmpaaGreat.Abs
set_option linter.unusedSimpArgs false
set_option linter.unusedVariables false
namespace Go.Proofs.YtemjlopoffjmpaaGreat.Abs
open Go Go.Proofs
def proR (i sid oid oo : Int) (y : Dset) : Dset :=
 reorig y (if y.id = oid then sid else if y.id = i then oo else if y.kind = 2 ∧ y.origin = oid ∧ y.id ≤ sid then i else y.origin)
theorem proR_eq {c o s x : Dset} (hx : x.id = c.id → x.kind = 1) (hx2 : x.id = o.id → x.kind = 1) (hne : c.id ≠ o.id) (hso : s.origin = o.id) : proF c o s x = proR c.id s.id o.id o.origin x := by
 unfold proF proR turnA
 rw [hso]
 by_cases h1 : x.id = c.id
 ·rw [if_pos h1, if_neg (fun e => hne (h1.symm.trans e)), if_pos h1]
 ·rw [if_neg h1]
  by_cases h2 : x.id = o.id
  ·rw [if_pos h2, if_pos h2]
  ·rw [if_neg h2, if_neg h2, if_neg h1]
   split
   ·rfl
   ·rfl
theorem promote_facts {l : List Dset} (h : MayL l) (i : Int) : (promoteA l i = (l, 2) ∧ getA l i = none) ∨ ∃ c, getA l i = some c ∧ (((c.kind ≠ 1 ∨ c.origin = 0) ∧ promoteA l i = (l, 1)) ∨
 (c.kind = 1 ∧ c.origin ≠ 0 ∧ ∃ s o, getA l c.origin = some s ∧ getA l s.origin = some o ∧ promoteA l i = (l.map (proR i s.id o.id o.origin), 0))) := by
 rcases find_of (l := l) (i := i) with ⟨e, _⟩ | ⟨k, e, hk, hid, _⟩
 ·exact .inl ⟨by unfold promoteA; rw [if_pos (by omega)], getA_no e⟩
 refine .inr ⟨_, getA_of e, ?_⟩
 have hP : promoteA l i = if (l.getD k default).kind ≠ 1 ∨ (l.getD k default).origin = 0 then (l, 1) else if findA l (l.getD k default).origin < 0 ∨ isA l (l.getD (findA l (l.getD k default).origin).toNat default).origin 1 = false then (l, 1) else (promoted l i k (findA l (l.getD k default).origin).toNat (findA l (l.getD (findA l (l.getD k default).origin).toNat default).origin).toNat, 0) := by
  unfold promoteA
  rw [if_neg (by omega)]
  simp only [e, Int.toNat_natCast]
 by_cases h2 : (l.getD k default).kind ≠ 1 ∨ (l.getD k default).origin = 0
 ·exact .inl ⟨h2, by rw [hP, if_pos h2]⟩
 rw [if_neg h2] at hP
 have hk1 : (l.getD k default).kind = 1 := Classical.byContradiction fun hh => h2 (.inl hh)
 have hk0 : (l.getD k default).origin ≠ 0 := fun hh => h2 (.inr hh)
 refine .inr ⟨hk1, hk0, ?_⟩
 obtain ⟨x, hx, hxi, hxk⟩ : ∃ o ∈ l, o.id = (l.getD k default).origin ∧ o.kind = 2 := by
  rcases (h.each _ (dgetD_mem hk)).live hk1 with h5 | h5
  ·exact absurd h5 hk0
  ·exact h5
 obtain ⟨_, y, hy, hyi, hyk⟩ := (h.each _ hx).snap hxk
 have gx : getA l (l.getD k default).origin = some x := by rw [← hxi]; exact h.find hx
 have gy : getA l x.origin = some y := by rw [← hyi]; exact h.find hy
 refine ⟨x, y, gx, gy, ?_⟩
 rcases find_of (l := l) (i := (l.getD k default).origin) with ⟨e', _⟩ | ⟨m, e', hm, hid', _⟩
 ·rw [getA_no e'] at gx; cases gx
 rw [getA_of e'] at gx
 have gx' := Option.some.inj gx
 rw [e', Int.toNat_natCast, gx'] at hP
 rcases find_of (l := l) (i := x.origin) with ⟨e2, _⟩ | ⟨o, e2, ho, hoi, _⟩
 ·rw [getA_no e2] at gy; cases gy
 rw [getA_of e2] at gy
 have gy' := Option.some.inj gy
 have h3 : isA l x.origin 1 = true := by
  unfold isA
  rw [e2, Int.toNat_natCast, gy', hyk]
  simp
 rw [e2, Int.toNat_natCast, if_neg (fun hh => hh.elim (fun hh => by omega) (fun hh => by rw [h3] at hh; cases hh))] at hP
 have hne : k ≠ o := by
  intro hko
  obtain ⟨r, hr⟩ := h.tree
  have r1 := hr _ hx _ hy hyi
  have r2 := hr _ (dgetD_mem hk) _ hx hxi
  rw [← gy', ← hko] at r1
  omega
 have hnid : (l.getD k default).id ≠ y.id := by
  intro hh
  rw [← gy'] at hh
  exact hne (h.inj hk ho hh)
 have hpm := promoted_map (ks := m) h hk ho hne hk1 (by rw [gy']; exact hyk)
 rw [hid, gx', gy'] at hpm
 rw [hP, hpm]
 congr 1
 apply List.map_congr_left
 intro z hz
 rw [← hid]
 refine proR_eq (fun e => ?_) (fun e => ?_) hnid hyi.symm
 ·rw [h.inj' hz (dgetD_mem hk) e]; exact hk1
 ·rw [h.inj' hz hy e]; exact hyk
end Go.Proofs.YtemjlopoffjmpaaGreat.Abs
set_option linter.unusedSimpArgs false
set_option linter.unusedVariables false
namespace Go.Proofs.YtemjlopoffjmpaaGreat.Abs
open Go Go.Proofs
theorem row_at {L : List (List AV)} {x : Nat} (h : x < L.length) (r : List AV) : (L.set x r)[x]? = some r := by rw [List.getElem?_set, if_pos rfl, if_pos h]
theorem row_two (L : List (List AV)) (x : Nat) (a b : List AV) : (L.set x a).set x b = L.set x b := by rw [List.set_set]
set_option maxHeartbeats 4000000 in
theorem rpromote0 (l : List Dset) (hM : MayL l) (i : Int) : C Tryz.prog 73 [asets l, .int .i64 i] [] (fun y H' => y = outA (promoteA l i) ∧ H' = []) := by
 have hl := hM.short
 have hl1 := hl.1
 have hp := promote_facts hM i
 refine C_body' d73 rfl (WT_ok ?_)
 delta c73 I0 I1 I2 I3 I4 I5 I6 I7 I8 I9 KI
 simp only [lay, wk3, wk, iaddrV_map, Nat.reduceAdd, Nat.reduceSub, Nat.reduceMul, Nat.reduceLeDiff, Nat.reduceEqDiff, Nat.reduceBEq, Int.reduceLE, Int.reduceLT, Int.reduceEq, Int.reduceNe, Int.reduceAdd, Int.reduceSub, Int.reduceToNat, Int.reduceNeg, ↓reduceIte, reduceCtorEq]
 refine CT_ok (rgetL l hl1 i _) ?_
 rintro _ _ ⟨rfl, rfl⟩
 rcases hp with ⟨hA, hg⟩ | ⟨c, hg, ⟨hc, hA⟩ | ⟨g1, g2, s, o, gs, go, hA⟩⟩
 ·rw [hg, hA]
  simp only [getV, lay, wk3, wk, iaddrV_map, Nat.reduceAdd, Nat.reduceSub, Nat.reduceMul, Nat.reduceLeDiff, Nat.reduceEqDiff, Nat.reduceBEq, Int.reduceLE, Int.reduceLT, Int.reduceEq, Int.reduceNe, Int.reduceAdd, Int.reduceSub, Int.reduceToNat, Int.reduceNeg, ↓reduceIte, reduceCtorEq]
  exact KWk_bare (by simp [bare, bareL, asets]) ⟨rfl, rfl⟩
 ·rw [hg, hA]
  by_cases g1 : c.kind = 1
  ·have g2 : c.origin = 0 := by rcases hc with hc | hc; exact absurd g1 hc; exact hc
   simp only [getV, cellD, aset, g1, g2, lay, wk3, wk, iaddrV_map, Nat.reduceAdd, Nat.reduceSub, Nat.reduceMul, Nat.reduceLeDiff, Nat.reduceEqDiff, Nat.reduceBEq, Int.reduceLE, Int.reduceLT, Int.reduceEq, Int.reduceNe, Int.reduceAdd, Int.reduceSub, Int.reduceToNat, Int.reduceNeg, ↓reduceIte, reduceCtorEq]
   exact KWk_bare (by simp [bare, bareL, asets]) ⟨rfl, rfl⟩
  ·simp only [getV, cellD, aset, g1, lay, wk3, wk, iaddrV_map, Nat.reduceAdd, Nat.reduceSub, Nat.reduceMul, Nat.reduceLeDiff, Nat.reduceEqDiff, Nat.reduceBEq, Int.reduceLE, Int.reduceLT, Int.reduceEq, Int.reduceNe, Int.reduceAdd, Int.reduceSub, Int.reduceToNat, Int.reduceNeg, ↓reduceIte, reduceCtorEq]
   exact KWk_bare (by simp [bare, bareL, asets]) ⟨rfl, rfl⟩
 rw [hg]
 simp only [getV, cellD, aset, g1, g2, lay, wk3, wk, iaddrV_map, Nat.reduceAdd, Nat.reduceSub, Nat.reduceMul, Nat.reduceLeDiff, Nat.reduceEqDiff, Nat.reduceBEq, Int.reduceLE, Int.reduceLT, Int.reduceEq, Int.reduceNe, Int.reduceAdd, Int.reduceSub, Int.reduceToNat, Int.reduceNeg, ↓reduceIte, reduceCtorEq]
 refine CT_ok (rgetL l hl1 c.origin _) ?_
 rintro _ _ ⟨rfl, rfl⟩
 rw [gs]
 simp only [getV, cellD, aset, lay, wk3, wk, iaddrV_map, Nat.reduceAdd, Nat.reduceSub, Nat.reduceMul, Nat.reduceLeDiff, Nat.reduceEqDiff, Nat.reduceBEq, Int.reduceLE, Int.reduceLT, Int.reduceEq, Int.reduceNe, Int.reduceAdd, Int.reduceSub, Int.reduceToNat, Int.reduceNeg, ↓reduceIte, reduceCtorEq]
 refine CT_ok (rgetL l hl1 s.origin _) ?_
 rintro _ _ ⟨rfl, rfl⟩
 rw [go]
 simp only [getV, cellD, aset, asets, cellsD, rows5D, lay, wk3, wk, iaddrV_map, Nat.reduceAdd, Nat.reduceSub, Nat.reduceMul, Nat.reduceLeDiff, Nat.reduceEqDiff, Nat.reduceBEq, Int.reduceLE, Int.reduceLT, Int.reduceEq, Int.reduceNe, Int.reduceAdd, Int.reduceSub, Int.reduceToNat, Int.reduceNeg, ↓reduceIte, reduceCtorEq]
 refine ⟨⟨by omega, by omega⟩, ?_⟩
 refine WT_loop (W_wk (fr' := [asets l, .int .i64 i, .top, .top, .emp, .int .i64 0, .ptr 0 0 0 1, .bool true, .ptr 1 0 0 1, .bool true, .ptr 2 0 0 1, .bool true, .own 3 5 0 l.length l.length, .int .i64 0] ++ List.replicate 100 .top) (Wk_tops ?_) (W_loop (fun n fr H' => ∃ x : Nat, x ≤ l.length ∧ n = l.length - x ∧ H' = [some [cellD ⟨c.id, 1, c.origin, c.quota, c.files⟩], some [cellD s], some [cellD o], some ((someA (proR i s.id o.id o.origin) l x).map cellD)] ∧
  fr = [asets l, .int .i64 i, .top, .top, .emp, .int .i64 0, .ptr 0 0 0 1, .bool true, .ptr 1 0 0 1, .bool true, .ptr 2 0 0 1, .bool true, .own 3 5 0 l.length l.length, .int .i64 x] ++ List.replicate 100 .top) l.length ⟨0, by omega, rfl, by rw [someA_zero]; rfl, rfl⟩ ?_))
 ·simp only [asets, tp]
 rintro n fr H' ⟨x, hx, rfl, rfl, rfl⟩
 refine WT_ok ?_
 have hsl := someA_len (proR i s.id o.id o.origin) l x (by omega)
 simp only [asets, hsl, cellD, aset, lay, wk4, wk3, wk, iaddrV_map, Nat.reduceAdd, Nat.reduceSub, Nat.reduceMul, Nat.reduceLeDiff, Nat.reduceEqDiff, Nat.reduceBEq, Int.reduceLE, Int.reduceLT, Int.reduceEq, Int.reduceNe, Int.reduceAdd, Int.reduceSub, Int.reduceToNat, Int.reduceNeg, ↓reduceIte, reduceCtorEq]
 refine guard_both ?_ ?_ <;> intro h <;> simp only [hy] at h
 ·have hx2 : x < l.length := by omega
  have w2 : IntKind.i64.wrap ((x : Int) + 1) = (x : Int) + 1 := IntWalk.i64_in _ (by omega)
  have h0 : (0 : Int) ≤ x := by omega
  have hcj := cell_at (l := someA (proR i s.id o.id o.origin) l x) (k := x) (by omega)
  have hgj : (someA (proR i s.id o.id o.origin) l x).getD x default = l.getD x default := by rw [someA_getD _ _ _ _ (by omega), if_neg (by omega)]
  have hsu := someA_succ (proR i s.id o.id o.origin) l x hx2
  have hsw := set_cellD (someA (proR i s.id o.id o.origin) l x) x (proR i s.id o.id o.origin (l.getD x default))
  have hsame := cell_same (l := someA (proR i s.id o.id o.origin) l x) (k := x) (by omega)
  rw [hsu] at hsw
  rw [hgj] at hcj hsame
  generalize someA (proR i s.id o.id o.origin) l x = lj at *
  generalize hlj' : someA (proR i s.id o.id o.origin) l (x + 1) = lj' at hsu hsw
  generalize l.getD x default = y at *
  have hrow : ∀ r, ((lj.map cellD).set x r)[x]? = some r := fun r => row_at (by rw [List.length_map]; omega) r
  have hlen : (lj.map cellD).length = l.length := by rw [List.length_map]; omega
  have hlen2 : ∀ r, ((lj.map cellD).set x r).length = l.length := fun r => by rw [List.length_set]; exact hlen
  unfold proR reorig at hsw
  simp only [cellD, aset] at hcj hsw hsame
  rcases Classical.propComplete (y.kind = 2) with p1 | p1
  ·rcases Classical.propComplete (y.origin = o.id) with p2 | p2
   ·rcases Classical.propComplete (y.id ≤ s.id) with p3 | p3
    ·skip
     rcases Classical.propComplete (y.id = i) with p4 | p4 <;> rcases Classical.propComplete (y.id = o.id) with p5 | p5
     all_goals
      simp only [p1, p2, p3, p4, p5, and_true, and_false, and_self, false_and, if_true, if_false] at hsw
      simp only [lay, wk4, wk3, wk, iaddrV_map, Nat.reduceAdd, Nat.reduceSub, Nat.reduceMul, Nat.reduceLeDiff, Nat.reduceEqDiff, Nat.reduceBEq, Int.reduceLE, Int.reduceLT, Int.reduceEq, Int.reduceNe, Int.reduceAdd, Int.reduceSub, Int.reduceToNat, Int.reduceNeg, ↓reduceIte, reduceCtorEq]
      refine WT_draw ?_
      simp only [p1, p2, p3, p4, p5, h, h0, hsl, hcj, hrow, row_two, w2, lay, wk4, wk3, wk, iaddrV_map, Nat.reduceAdd, Nat.reduceSub, Nat.reduceMul, Nat.reduceLeDiff, Nat.reduceEqDiff, Nat.reduceBEq, Int.reduceLE, Int.reduceLT, Int.reduceEq, Int.reduceNe, Int.reduceAdd, Int.reduceSub, Int.reduceToNat, Int.reduceNeg, ↓reduceIte, reduceCtorEq]
      refine WT_draw ?_
      simp only [p1, p2, p3, p4, p5, h, h0, hsl, hcj, hrow, row_two, w2, lay, wk4, wk3, wk, iaddrV_map, Nat.reduceAdd, Nat.reduceSub, Nat.reduceMul, Nat.reduceLeDiff, Nat.reduceEqDiff, Nat.reduceBEq, Int.reduceLE, Int.reduceLT, Int.reduceEq, Int.reduceNe, Int.reduceAdd, Int.reduceSub, Int.reduceToNat, Int.reduceNeg, ↓reduceIte, reduceCtorEq]
      refine QLoop_go (n' := l.length - (x + 1)) (by omega) ⟨x + 1, by omega, rfl, (by first | rw [hlj', ← hsw, hsame] | rw [hlj', ← hsw]), rfl⟩ ?_
      simp only [asets, tq]
    ·skip
     rcases Classical.propComplete (y.id = i) with p4 | p4 <;> rcases Classical.propComplete (y.id = o.id) with p5 | p5
     all_goals
      simp only [p1, p2, p3, p4, p5, and_true, and_false, and_self, false_and, if_true, if_false] at hsw
      simp only [lay, wk4, wk3, wk, iaddrV_map, Nat.reduceAdd, Nat.reduceSub, Nat.reduceMul, Nat.reduceLeDiff, Nat.reduceEqDiff, Nat.reduceBEq, Int.reduceLE, Int.reduceLT, Int.reduceEq, Int.reduceNe, Int.reduceAdd, Int.reduceSub, Int.reduceToNat, Int.reduceNeg, ↓reduceIte, reduceCtorEq]
      refine WT_draw ?_
      simp only [p1, p2, p3, p4, p5, h, h0, hsl, hcj, hrow, row_two, w2, lay, wk4, wk3, wk, iaddrV_map, Nat.reduceAdd, Nat.reduceSub, Nat.reduceMul, Nat.reduceLeDiff, Nat.reduceEqDiff, Nat.reduceBEq, Int.reduceLE, Int.reduceLT, Int.reduceEq, Int.reduceNe, Int.reduceAdd, Int.reduceSub, Int.reduceToNat, Int.reduceNeg, ↓reduceIte, reduceCtorEq]
      refine WT_draw ?_
      simp only [p1, p2, p3, p4, p5, h, h0, hsl, hcj, hrow, row_two, w2, lay, wk4, wk3, wk, iaddrV_map, Nat.reduceAdd, Nat.reduceSub, Nat.reduceMul, Nat.reduceLeDiff, Nat.reduceEqDiff, Nat.reduceBEq, Int.reduceLE, Int.reduceLT, Int.reduceEq, Int.reduceNe, Int.reduceAdd, Int.reduceSub, Int.reduceToNat, Int.reduceNeg, ↓reduceIte, reduceCtorEq]
      refine QLoop_go (n' := l.length - (x + 1)) (by omega) ⟨x + 1, by omega, rfl, (by first | rw [hlj', ← hsw, hsame] | rw [hlj', ← hsw]), rfl⟩ ?_
      simp only [asets, tq]
   ·skip
    rcases Classical.propComplete (y.id = i) with p4 | p4 <;> rcases Classical.propComplete (y.id = o.id) with p5 | p5
    all_goals
     simp only [p1, p2, p4, p5, and_true, and_false, and_self, false_and, if_true, if_false] at hsw
     simp only [lay, wk4, wk3, wk, iaddrV_map, Nat.reduceAdd, Nat.reduceSub, Nat.reduceMul, Nat.reduceLeDiff, Nat.reduceEqDiff, Nat.reduceBEq, Int.reduceLE, Int.reduceLT, Int.reduceEq, Int.reduceNe, Int.reduceAdd, Int.reduceSub, Int.reduceToNat, Int.reduceNeg, ↓reduceIte, reduceCtorEq]
     refine WT_draw ?_
     simp only [p1, p2, p4, p5, h, h0, hsl, hcj, hrow, row_two, w2, lay, wk4, wk3, wk, iaddrV_map, Nat.reduceAdd, Nat.reduceSub, Nat.reduceMul, Nat.reduceLeDiff, Nat.reduceEqDiff, Nat.reduceBEq, Int.reduceLE, Int.reduceLT, Int.reduceEq, Int.reduceNe, Int.reduceAdd, Int.reduceSub, Int.reduceToNat, Int.reduceNeg, ↓reduceIte, reduceCtorEq]
     refine WT_draw ?_
     simp only [p1, p2, p4, p5, h, h0, hsl, hcj, hrow, row_two, w2, lay, wk4, wk3, wk, iaddrV_map, Nat.reduceAdd, Nat.reduceSub, Nat.reduceMul, Nat.reduceLeDiff, Nat.reduceEqDiff, Nat.reduceBEq, Int.reduceLE, Int.reduceLT, Int.reduceEq, Int.reduceNe, Int.reduceAdd, Int.reduceSub, Int.reduceToNat, Int.reduceNeg, ↓reduceIte, reduceCtorEq]
     refine QLoop_go (n' := l.length - (x + 1)) (by omega) ⟨x + 1, by omega, rfl, (by first | rw [hlj', ← hsw, hsame] | rw [hlj', ← hsw]), rfl⟩ ?_
     simp only [asets, tq]
  ·skip
   rcases Classical.propComplete (y.id = i) with p4 | p4 <;> rcases Classical.propComplete (y.id = o.id) with p5 | p5
   all_goals
    simp only [p1, p4, p5, and_true, and_false, and_self, false_and, if_true, if_false] at hsw
    simp only [lay, wk4, wk3, wk, iaddrV_map, Nat.reduceAdd, Nat.reduceSub, Nat.reduceMul, Nat.reduceLeDiff, Nat.reduceEqDiff, Nat.reduceBEq, Int.reduceLE, Int.reduceLT, Int.reduceEq, Int.reduceNe, Int.reduceAdd, Int.reduceSub, Int.reduceToNat, Int.reduceNeg, ↓reduceIte, reduceCtorEq]
    refine WT_draw ?_
    simp only [p1, p4, p5, h, h0, hsl, hcj, hrow, row_two, w2, lay, wk4, wk3, wk, iaddrV_map, Nat.reduceAdd, Nat.reduceSub, Nat.reduceMul, Nat.reduceLeDiff, Nat.reduceEqDiff, Nat.reduceBEq, Int.reduceLE, Int.reduceLT, Int.reduceEq, Int.reduceNe, Int.reduceAdd, Int.reduceSub, Int.reduceToNat, Int.reduceNeg, ↓reduceIte, reduceCtorEq]
    refine WT_draw ?_
    simp only [p1, p4, p5, h, h0, hsl, hcj, hrow, row_two, w2, lay, wk4, wk3, wk, iaddrV_map, Nat.reduceAdd, Nat.reduceSub, Nat.reduceMul, Nat.reduceLeDiff, Nat.reduceEqDiff, Nat.reduceBEq, Int.reduceLE, Int.reduceLT, Int.reduceEq, Int.reduceNe, Int.reduceAdd, Int.reduceSub, Int.reduceToNat, Int.reduceNeg, ↓reduceIte, reduceCtorEq]
    refine QLoop_go (n' := l.length - (x + 1)) (by omega) ⟨x + 1, by omega, rfl, (by first | rw [hlj', ← hsw, hsame] | rw [hlj', ← hsw]), rfl⟩ ?_
    simp only [asets, tq]
 ·have : x = l.length := by omega
  subst this
  simp only [h, someA_all, lay, wk4, wk3, wk, iaddrV_map, Nat.reduceAdd, Nat.reduceSub, Nat.reduceMul, Nat.reduceLeDiff, Nat.reduceEqDiff, Nat.reduceBEq, Int.reduceLE, Int.reduceLT, Int.reduceEq, Int.reduceNe, Int.reduceAdd, Int.reduceSub, Int.reduceToNat, Int.reduceNeg, ↓reduceIte, reduceCtorEq]
  rw [hA]
  exact KWk_sets 3 (l.map (proR i s.id o.id o.origin)) 0 _ (by simp) rfl ⟨rfl, rfl⟩
end Go.Proofs.YtemjlopoffjmpaaGreat.Abs
namespace Go.Proofs.YtemjlopoffjmpaaGreat.Abs
open Go
def c70 : ACode :=
 (.seq (.reg [I1 6 (.mv (.c (.emp))), I1 7 (.mv (KI 0))])
 (.seq (.seq (.reg [I0 8 2, I1 9 (.bini .lss (.t 8) (KI 0)), I0 10 9, I5 11 10 2, I3 12 10 (.bini .gtr (.t 11) (KI 255)), I1 13 (.pick (.t 10) (.c (.bool true)) (.t 12))])
 (.cond (.t 13)
 (.seq (.reg [I0 14 0, I0 6 14, I1 7 (.mv (KI 1))])
 .ret)
 .skip))
 (.seq (.reg [I0 15 0, I0 16 1, I0 17 2, I1 18 (.call 34 []), I1 19 (.build [.int .i64 0, .int .i64 0, .int .i64 0, .int .i64 0, .emp] [(0, 1, (.t 16)), (1, 1, (KI 1)), (3, 1, (.t 17)), (4, 1, (.t 18))]), I1 20 (.call 108 [(.t 15), (.t 19)]), I8 21 20 0, I8 22 20 1, I0 6 21, I0 7 22])
 .ret)))
theorem d70 : FnD Tryz.prog 70 3 20 [.tmp 6, .tmp 7] c70 := ⟨Tryz.f70, _, Tryz.func70, by kernel_rfl, rfl, rfl, by kernel_rfl, by kernel_rfl⟩
end Go.Proofs.YtemjlopoffjmpaaGreat.Abs
namespace Go.Proofs.YtemjlopoffjmpaaGreat.Abs
open Go
def c71 : ACode :=
 (.seq (.reg [I1 6 (.mv (.c (.emp))), I1 7 (.mv (KI 0))])
 (.seq (.reg [I0 11 0, I0 12 2, I1 13 (.call 30 [(.t 11), (.t 12)]), I0 10 13, I8 14 10 0, I8 15 10 1, I1 8 (.alloc [.int .i64 0, .int .i64 0, .int .i64 0, .int .i64 0, .emp]), I9 5 8 14, I0 9 15])
 (.seq (.seq (.reg [I0 16 9, I1 17 (.un .not (.t 16))])
 (.cond (.t 17)
 (.seq (.reg [I0 18 0, I0 6 18, I1 7 (.mv (KI 2))])
 .ret)
 .skip))
 (.seq (.seq (.reg [I6 19 1 8, I7 20 19, I1 21 (.bini .eql (.t 20) (KI 2))])
 (.cond (.t 21)
 (.seq (.reg [I0 22 0, I0 6 22, I1 7 (.mv (KI 11))])
 .ret)
 .skip))
 (.seq (.reg [I0 23 0, I0 24 1, I0 25 2, I6 26 4 8, I7 27 26, I1 28 (.build [.int .i64 0, .int .i64 0, .int .i64 0, .int .i64 0, .emp] [(0, 1, (.t 24)), (1, 1, (KI 2)), (2, 1, (.t 25)), (4, 1, (.t 27))]), I1 29 (.call 108 [(.t 23), (.t 28)]), I8 30 29 0, I8 31 29 1, I0 6 30, I0 7 31])
 .ret)))))
theorem d71 : FnD Tryz.prog 71 3 29 [.tmp 6, .tmp 7] c71 := ⟨Tryz.f71, _, Tryz.func71, by kernel_rfl, rfl, rfl, by kernel_rfl, by kernel_rfl⟩
end Go.Proofs.YtemjlopoffjmpaaGreat.Abs
namespace Go.Proofs.YtemjlopoffjmpaaGreat.Abs
open Go
def c72 : ACode :=
 (.seq (.reg [I1 6 (.mv (.c (.emp))), I1 7 (.mv (KI 0))])
 (.seq (.reg [I0 11 0, I0 12 2, I1 13 (.call 30 [(.t 11), (.t 12)]), I0 10 13, I8 14 10 0, I8 15 10 1, I1 8 (.alloc [.int .i64 0, .int .i64 0, .int .i64 0, .int .i64 0, .emp]), I9 5 8 14, I0 9 15])
 (.seq (.seq (.reg [I0 16 9, I1 17 (.un .not (.t 16))])
 (.cond (.t 17)
 (.seq (.reg [I0 18 0, I0 6 18, I1 7 (.mv (KI 2))])
 .ret)
 .skip))
 (.seq (.seq (.reg [I6 19 1 8, I7 20 19, I1 21 (.bini .neq (.t 20) (KI 2))])
 (.cond (.t 21)
 (.seq (.reg [I0 22 0, I0 6 22, I1 7 (.mv (KI 1))])
 .ret)
 .skip))
 (.seq (.reg [I0 23 0, I0 24 1, I0 25 2, I6 26 4 8, I7 27 26, I1 28 (.build [.int .i64 0, .int .i64 0, .int .i64 0, .int .i64 0, .emp] [(0, 1, (.t 24)), (1, 1, (KI 1)), (2, 1, (.t 25)), (4, 1, (.t 27))]), I1 29 (.call 108 [(.t 23), (.t 28)]), I8 30 29 0, I8 31 29 1, I0 6 30, I0 7 31])
 .ret)))))
theorem d72 : FnD Tryz.prog 72 3 29 [.tmp 6, .tmp 7] c72 := ⟨Tryz.f72, _, Tryz.func72, by kernel_rfl, rfl, rfl, by kernel_rfl, by kernel_rfl⟩
end Go.Proofs.YtemjlopoffjmpaaGreat.Abs
namespace Go.Proofs.YtemjlopoffjmpaaGreat.Abs
open Go
def c108 : ACode :=
 (.seq (.reg [I1 3 (.box (.t 1)), I1 4 (.mv (.c (.emp))), I1 5 (.mv (KI 0))])
 (.seq (.seq (.dregE [[(0, I0 6 0)], [(1, I1 7 (.len false (.t 6)))], [(2, I1 8 (.bini .geq (.t 7) (KI 8)))], [(3, I0 9 8)], [(4, I3 10 9 (.faddr 0 (.t 3)))], [(5, I3 11 9 (.load false 1 (.t 10)))], [(6, I3 12 9 (.bini .lss (.t 11) (KI 1)))], [(7, I1 13 (.pick (.t 9) (.c (.bool true)) (.t 12)))], [(8, I0 14 13)], [(9, I3 15 14 (.faddr 0 (.t 3)))], [(10, I3 16 14 (.load false 1 (.t 15)))], [(11, I3 17 14 (.call 61 [(.t 16)]))], [(12, I3 18 14 (.un .not (.t 17)))], [(13, I1 19 (.pick (.t 14) (.c (.bool true)) (.t 18)))], [(14, I0 20 19)], [(15, I5 21 20 0)], [(16, I3 22 20 (.len false (.t 21)))], [(17, I3 23 20 (.bini .gtr (.t 22) (KI 0)))], [(18, I5 24 20 23)], [(19, I4 25 24 0), (20, I4 26 24 0), (21, I2 27 24 (.len false (.t 26))), (22, I2 28 24 (.bini .sub (.t 27) (KI 1))), (23, I2 29 24 (.iaddr 5 (.t 25) (.t 28))), (24, I2 30 24 (.faddr 0 (.t 29))), (25, I2 31 24 (.load false 1 (.t 30))), (26, I2 32 24 (.faddr 0 (.t 3))), (27, I2 33 24 (.load false 1 (.t 32)))], [(28, I2 34 24 (.bini .geq (.t 31) (.t 33)))], [(29, I3 35 20 (.pick (.t 24) (.t 34) (.c (.bool false))))], [(30, I1 36 (.pick (.t 20) (.c (.bool true)) (.t 35)))]]
  [[], [0], [0, 1], [0, 1, 2], [0, 1, 2, 3], [0, 1, 2, 3, 4], [0, 1, 2, 3, 4, 5], [0, 1, 2, 3, 4, 5, 6], [0, 1, 2, 3, 4, 5, 6, 7], [0, 1, 2, 3, 4, 5, 6, 7, 8], [0, 1, 2, 3, 4, 5, 6, 7, 8, 9], [0, 1, 2, 3, 4, 5, 6, 7, 8, 9, 10], [0, 1, 2, 3, 4, 5, 6, 7, 8, 9, 10, 11], [0, 1, 2, 3, 4, 5, 6, 7, 8, 9, 10, 11, 12], [0, 1, 2, 3, 4, 5, 6, 7, 8, 9, 10, 11, 12, 13], [0, 1, 2, 3, 4, 5, 6, 7, 8, 9, 10, 11, 12, 13, 14], [0, 1, 2, 3, 4, 5, 6, 7, 8, 9, 10, 11, 12, 13, 14, 15], [0, 1, 2, 3, 4, 5, 6, 7, 8, 9, 10, 11, 12, 13, 14, 15, 16], [0, 1, 2, 3, 4, 5, 6, 7, 8, 9, 10, 11, 12, 13, 14, 15, 16, 17], [0, 1, 2, 3, 4, 5, 6, 7, 8, 9, 10, 11, 12, 13, 14, 15, 16, 17, 18], [0, 1, 2, 3, 4, 5, 6, 7, 8, 9, 10, 11, 12, 13, 14, 15, 16, 17, 18], [0, 1, 2, 3, 4, 5, 6, 7, 8, 9, 10, 11, 12, 13, 14, 15, 16, 17, 18, 20], [0, 1, 2, 3, 4, 5, 6, 7, 8, 9, 10, 11, 12, 13, 14, 15, 16, 17, 18, 20, 21], [0, 1, 2, 3, 4, 5, 6, 7, 8, 9, 10, 11, 12, 13, 14, 15, 16, 17, 18, 19, 20, 21, 22], [0, 1, 2, 3, 4, 5, 6, 7, 8, 9, 10, 11, 12, 13, 14, 15, 16, 17, 18, 19, 20, 21, 22, 23], [0, 1, 2, 3, 4, 5, 6, 7, 8, 9, 10, 11, 12, 13, 14, 15, 16, 17, 18, 19, 20, 21, 22, 23, 24], [0, 1, 2, 3, 4, 5, 6, 7, 8, 9, 10, 11, 12, 13, 14, 15, 16, 17, 18], [0, 1, 2, 3, 4, 5, 6, 7, 8, 9, 10, 11, 12, 13, 14, 15, 16, 17, 18, 26], [0, 1, 2, 3, 4, 5, 6, 7, 8, 9, 10, 11, 12, 13, 14, 15, 16, 17, 18, 19, 20, 21, 22, 23, 24, 25, 26, 27], [0, 1, 2, 3, 4, 5, 6, 7, 8, 9, 10, 11, 12, 13, 14, 15, 16, 17, 18, 19, 20, 21, 22, 23, 24, 25, 26, 27, 28], [0, 1, 2, 3, 4, 5, 6, 7, 8, 9, 10, 11, 12, 13, 14, 15, 16, 17, 18, 19, 20, 21, 22, 23, 24, 25, 26, 27, 28, 29]])
 (.cond (.t 36)
 (.seq (.reg [I0 37 0, I0 4 37, I1 5 (.mv (KI 8))])
 .ret)
 .skip))
 (.seq (.dregE [[(0, I1 38 (.bslice 5 0 [.int .i64 0, .int .i64 0, .int .i64 0, .int .i64 0, .emp] [])), (1, I0 39 0), (2, I1 40 (.append 5 56 [.int .i64 0, .int .i64 0, .int .i64 0, .int .i64 0, .emp] (.t 38) (.t 39))), (3, I1 41 (.load true 5 (.t 3))), (4, I1 42 (.bslice 5 1 [.int .i64 0, .int .i64 0, .int .i64 0, .int .i64 0, .emp] [(0, (.t 41))]))], [(5, I1 43 (.append 5 56 [.int .i64 0, .int .i64 0, .int .i64 0, .int .i64 0, .emp] (.t 40) (.t 42)))], [(6, I0 4 43)], [(7, I1 5 (.mv (KI 0)))]]
  [[], [], [0, 1], [], [3], [0, 1, 2, 3, 4], [0, 1, 2, 3, 4, 5], [0, 1, 2, 3, 4, 5, 6]])
 .ret)))
theorem d108 : FnD Tryz.prog 108 2 42 [.tmp 4, .tmp 5] c108 := ⟨Tryz.f108, _, Tryz.func108, by kernel_rfl, rfl, rfl, by kernel_rfl, by kernel_rfl⟩
end Go.Proofs.YtemjlopoffjmpaaGreat.Abs
set_option linter.unusedSimpArgs false
set_option linter.unusedVariables false
namespace Go.Proofs.YtemjlopoffjmpaaGreat.Abs
open Go Go.Proofs
theorem newL (H : AH) : C Tryz.prog 34 [] H (fun x H' => x = aset newA ∧ H' = H) := new_spec H
theorem addOk_iff (l : List Dset) (n : Int) : addOk l n = true ↔ l.length < 8 ∧ 1 ≤ n ∧ n ≤ 65535 ∧ (l.length = 0 ∨ (l.getD (l.length - 1) default).id < n) := by
 unfold addOk
 rw [Bool.and_eq_true, Bool.and_eq_true, Bool.and_eq_true, Bool.or_eq_true, decide_eq_true_eq, decide_eq_true_eq, decide_eq_true_eq, decide_eq_true_eq, decide_eq_true_eq, and_assoc, and_assoc]
theorem addOk_no {l : List Dset} {n : Int} (h : ¬ (l.length < 8 ∧ 1 ≤ n ∧ n ≤ 65535 ∧ (l.length = 0 ∨ (l.getD (l.length - 1) default).id < n))) : addOk l n = false :=
 Bool.eq_false_iff.2 fun e => h ((addOk_iff l n).1 e)
theorem more0 (l : List Dset) (hl : Short l) (x : Dset) (hx : x.files.length ≤ 1000000) :
 C Tryz.prog 108 [asets l, .agg (cellD x)] [] (fun y H' => y = outA (addA l x.id x) ∧ H' = []) := by
 have hl1 := hl.1
 refine C_body' d108 rfl (WT_ok ?_)
 delta c108 I0 I1 I2 I3 I4 I5 I6 I7 I8 I9 KI
 have hyes : addOk l x.id = true → outA (addA l x.id x) = .tuple [asets (l ++ [x]), .int .i64 0] := fun h => by
  have : addA l x.id x = (l ++ [{ x with id := x.id }], 0) := if_pos h
  rw [this]; rfl
 have hno : addOk l x.id = false → outA (addA l x.id x) = .tuple [asets l, .int .i64 8] := fun h => by
  have : addA l x.id x = (l, 8) := if_neg (by rw [h]; decide)
  rw [this]; rfl
 have hidd := rid68 x.id
 by_cases g1 : (8 : Int) ≤ (l.length : Int)
 ·have hn := hno (addOk_no (by omega))
  simp only [asets, cellD, aset, lay, wk3, wk, iaddrV_map, Nat.reduceAdd, Nat.reduceSub, Nat.reduceMul, Nat.reduceLeDiff, Nat.reduceEqDiff, Nat.reduceBEq, Int.reduceLE, Int.reduceLT, Int.reduceEq, Int.reduceNe, Int.reduceAdd, Int.reduceSub, Int.reduceToNat, Int.reduceNeg, ↓reduceIte, reduceCtorEq]
  refine WT_drawE ?_
  simp only [g1, lay, wk3, wk, iaddrV_map, Nat.reduceAdd, Nat.reduceSub, Nat.reduceMul, Nat.reduceLeDiff, Nat.reduceEqDiff, Nat.reduceBEq, Int.reduceLE, Int.reduceLT, Int.reduceEq, Int.reduceNe, Int.reduceAdd, Int.reduceSub, Int.reduceToNat, Int.reduceNeg, ↓reduceIte, reduceCtorEq]
  refine WDT_more 0 ?_
  simp only [g1, lay, wk3, wk, iaddrV_map, Nat.reduceAdd, Nat.reduceSub, Nat.reduceMul, Nat.reduceLeDiff, Nat.reduceEqDiff, Nat.reduceBEq, Int.reduceLE, Int.reduceLT, Int.reduceEq, Int.reduceNe, Int.reduceAdd, Int.reduceSub, Int.reduceToNat, Int.reduceNeg, ↓reduceIte, reduceCtorEq]
  refine ⟨by rfl, ?_⟩
  exact KWk_bare (by simp [bare, bareL]) ⟨by rw [hn]; rfl, rfl⟩
 by_cases g2 : x.id < 1
 ·have hn := hno (addOk_no (by omega))
  simp only [asets, cellD, aset, lay, wk3, wk, iaddrV_map, Nat.reduceAdd, Nat.reduceSub, Nat.reduceMul, Nat.reduceLeDiff, Nat.reduceEqDiff, Nat.reduceBEq, Int.reduceLE, Int.reduceLT, Int.reduceEq, Int.reduceNe, Int.reduceAdd, Int.reduceSub, Int.reduceToNat, Int.reduceNeg, ↓reduceIte, reduceCtorEq]
  refine WT_drawE ?_
  simp only [g1, g2, lay, wk3, wk, iaddrV_map, Nat.reduceAdd, Nat.reduceSub, Nat.reduceMul, Nat.reduceLeDiff, Nat.reduceEqDiff, Nat.reduceBEq, Int.reduceLE, Int.reduceLT, Int.reduceEq, Int.reduceNe, Int.reduceAdd, Int.reduceSub, Int.reduceToNat, Int.reduceNeg, ↓reduceIte, reduceCtorEq]
  refine WDT_more 0 ?_
  simp only [g1, g2, lay, wk3, wk, iaddrV_map, Nat.reduceAdd, Nat.reduceSub, Nat.reduceMul, Nat.reduceLeDiff, Nat.reduceEqDiff, Nat.reduceBEq, Int.reduceLE, Int.reduceLT, Int.reduceEq, Int.reduceNe, Int.reduceAdd, Int.reduceSub, Int.reduceToNat, Int.reduceNeg, ↓reduceIte, reduceCtorEq]
  refine ⟨by rfl, ?_⟩
  exact KWk_bare (by simp [bare, bareL]) ⟨by rw [hn]; rfl, rfl⟩
 by_cases g3 : x.id ≤ 65535
 case neg =>
  have hn := hno (addOk_no (by omega))
  have he : (decide (0 ≤ x.id) && decide (x.id ≤ 65535)) = false := by simp; omega
  simp only [he] at hidd
  simp only [asets, cellD, aset, lay, wk3, wk, iaddrV_map, Nat.reduceAdd, Nat.reduceSub, Nat.reduceMul, Nat.reduceLeDiff, Nat.reduceEqDiff, Nat.reduceBEq, Int.reduceLE, Int.reduceLT, Int.reduceEq, Int.reduceNe, Int.reduceAdd, Int.reduceSub, Int.reduceToNat, Int.reduceNeg, ↓reduceIte, reduceCtorEq]
  refine WT_drawE ?_
  simp only [g1, g2, lay, wk3, wk, iaddrV_map, Nat.reduceAdd, Nat.reduceSub, Nat.reduceMul, Nat.reduceLeDiff, Nat.reduceEqDiff, Nat.reduceBEq, Int.reduceLE, Int.reduceLT, Int.reduceEq, Int.reduceNe, Int.reduceAdd, Int.reduceSub, Int.reduceToNat, Int.reduceNeg, ↓reduceIte, reduceCtorEq]
  refine CT_ok (hidd _) ?_
  rintro _ _ ⟨rfl, rfl⟩
  simp only [g1, g2, lay, wk3, wk, iaddrV_map, Nat.reduceAdd, Nat.reduceSub, Nat.reduceMul, Nat.reduceLeDiff, Nat.reduceEqDiff, Nat.reduceBEq, Int.reduceLE, Int.reduceLT, Int.reduceEq, Int.reduceNe, Int.reduceAdd, Int.reduceSub, Int.reduceToNat, Int.reduceNeg, ↓reduceIte, reduceCtorEq]
  refine WDT_more 0 ?_
  simp only [g1, g2, lay, wk3, wk, iaddrV_map, Nat.reduceAdd, Nat.reduceSub, Nat.reduceMul, Nat.reduceLeDiff, Nat.reduceEqDiff, Nat.reduceBEq, Int.reduceLE, Int.reduceLT, Int.reduceEq, Int.reduceNe, Int.reduceAdd, Int.reduceSub, Int.reduceToNat, Int.reduceNeg, ↓reduceIte, reduceCtorEq]
  refine ⟨by rfl, ?_⟩
  exact KWk_bare (by simp [bare, bareL]) ⟨by rw [hn]; rfl, rfl⟩
 have he : (decide (0 ≤ x.id) && decide (x.id ≤ 65535)) = true := by simp; omega
 simp only [he] at hidd
 have hml : (l ++ [x]).length = l.length + 1 := by simp
 rcases Nat.eq_zero_or_pos l.length with h0 | h0
 ·have hn := hyes ((addOk_iff _ _).2 ⟨by omega, by omega, by omega, by omega⟩)
  have g4 : ¬ (0 : Int) < (l.length : Int) := by omega
  simp only [asets, cellD, aset, lay, wk3, wk, iaddrV_map, Nat.reduceAdd, Nat.reduceSub, Nat.reduceMul, Nat.reduceLeDiff, Nat.reduceEqDiff, Nat.reduceBEq, Int.reduceLE, Int.reduceLT, Int.reduceEq, Int.reduceNe, Int.reduceAdd, Int.reduceSub, Int.reduceToNat, Int.reduceNeg, ↓reduceIte, reduceCtorEq]
  refine WT_drawE ?_
  simp only [g1, g2, lay, wk3, wk, iaddrV_map, Nat.reduceAdd, Nat.reduceSub, Nat.reduceMul, Nat.reduceLeDiff, Nat.reduceEqDiff, Nat.reduceBEq, Int.reduceLE, Int.reduceLT, Int.reduceEq, Int.reduceNe, Int.reduceAdd, Int.reduceSub, Int.reduceToNat, Int.reduceNeg, ↓reduceIte, reduceCtorEq]
  refine CT_ok (hidd _) ?_
  rintro _ _ ⟨rfl, rfl⟩
  simp only [g1, g2, g4, lay, wk3, wk, iaddrV_map, Nat.reduceAdd, Nat.reduceSub, Nat.reduceMul, Nat.reduceLeDiff, Nat.reduceEqDiff, Nat.reduceBEq, Int.reduceLE, Int.reduceLT, Int.reduceEq, Int.reduceNe, Int.reduceAdd, Int.reduceSub, Int.reduceToNat, Int.reduceNeg, ↓reduceIte, reduceCtorEq]
  refine WDT_more 0 ?_
  simp only [g1, g2, g4, lay, wk3, wk, iaddrV_map, Nat.reduceAdd, Nat.reduceSub, Nat.reduceMul, Nat.reduceLeDiff, Nat.reduceEqDiff, Nat.reduceBEq, Int.reduceLE, Int.reduceLT, Int.reduceEq, Int.reduceNe, Int.reduceAdd, Int.reduceSub, Int.reduceToNat, Int.reduceNeg, ↓reduceIte, reduceCtorEq]
  refine ⟨by rfl, ?_⟩
  refine WT_drawE ?_
  refine WDT_more 2 ?_
  simp only [cellsD, rows5D, lay, wk3, wk, iaddrV_map, Nat.reduceAdd, Nat.reduceSub, Nat.reduceMul, Nat.reduceLeDiff, Nat.reduceEqDiff, Nat.reduceBEq, Int.reduceLE, Int.reduceLT, Int.reduceEq, Int.reduceNe, Int.reduceAdd, Int.reduceSub, Int.reduceToNat, Int.reduceNeg, ↓reduceIte, reduceCtorEq]
  refine ⟨by omega, ?_⟩
  simp only [ren, renL, cellsD, rows5D, lay, wk3, wk, iaddrV_map, Nat.reduceAdd, Nat.reduceSub, Nat.reduceMul, Nat.reduceLeDiff, Nat.reduceEqDiff, Nat.reduceBEq, Int.reduceLE, Int.reduceLT, Int.reduceEq, Int.reduceNe, Int.reduceAdd, Int.reduceSub, Int.reduceToNat, Int.reduceNeg, ↓reduceIte, reduceCtorEq]
  refine ⟨⟨by omega, by omega⟩, by omega, by omega, by rfl, ⟨by omega, by omega⟩, ?_⟩
  rw [hn]
  exact KWk_sets 1 (l ++ [x]) 0 _ (by simp) (by rw [List.map_append]; rfl) ⟨rfl, rfl⟩
 ·have w1 : IntKind.i64.wrap ((l.length : Int) - 1) = ((l.length - 1 : Nat) : Int) := by rw [IntWalk.i64_in _ (by omega)]; omega
  have g4 : (0 : Int) < (l.length : Int) := by omega
  have g6 : (0 : Int) ≤ ((l.length - 1 : Nat) : Int) := by omega
  have g7 : ((l.length - 1 : Nat) : Int) < (l.length : Int) := by omega
  simp only [asets, cellD, aset, lay, wk3, wk, iaddrV_map, Nat.reduceAdd, Nat.reduceSub, Nat.reduceMul, Nat.reduceLeDiff, Nat.reduceEqDiff, Nat.reduceBEq, Int.reduceLE, Int.reduceLT, Int.reduceEq, Int.reduceNe, Int.reduceAdd, Int.reduceSub, Int.reduceToNat, Int.reduceNeg, ↓reduceIte, reduceCtorEq]
  refine WT_drawE ?_
  simp only [g1, g2, lay, wk3, wk, iaddrV_map, Nat.reduceAdd, Nat.reduceSub, Nat.reduceMul, Nat.reduceLeDiff, Nat.reduceEqDiff, Nat.reduceBEq, Int.reduceLE, Int.reduceLT, Int.reduceEq, Int.reduceNe, Int.reduceAdd, Int.reduceSub, Int.reduceToNat, Int.reduceNeg, ↓reduceIte, reduceCtorEq]
  refine CT_ok (hidd _) ?_
  rintro _ _ ⟨rfl, rfl⟩
  simp only [g1, g2, g4, lay, wk3, wk, iaddrV_map, Nat.reduceAdd, Nat.reduceSub, Nat.reduceMul, Nat.reduceLeDiff, Nat.reduceEqDiff, Nat.reduceBEq, Int.reduceLE, Int.reduceLT, Int.reduceEq, Int.reduceNe, Int.reduceAdd, Int.reduceSub, Int.reduceToNat, Int.reduceNeg, ↓reduceIte, reduceCtorEq]
  refine WDT_more 0 ?_
  simp only [g1, g2, g4, g6, g7, w1, iaddr_dset, pdset, lay, wk3, wk, iaddrV_map, Nat.reduceAdd, Nat.reduceSub, Nat.reduceMul, Nat.reduceLeDiff, Nat.reduceEqDiff, Nat.reduceBEq, Int.reduceLE, Int.reduceLT, Int.reduceEq, Int.reduceNe, Int.reduceAdd, Int.reduceSub, Int.reduceToNat, Int.reduceNeg, ↓reduceIte, reduceCtorEq]
  refine ⟨by rfl, ?_⟩
  by_cases g5 : x.id ≤ (l.getD (l.length - 1) default).id
  ·have hn := hno (addOk_no (by omega))
   simp only [g5, lay, wk3, wk, iaddrV_map, Nat.reduceAdd, Nat.reduceSub, Nat.reduceMul, Nat.reduceLeDiff, Nat.reduceEqDiff, Nat.reduceBEq, Int.reduceLE, Int.reduceLT, Int.reduceEq, Int.reduceNe, Int.reduceAdd, Int.reduceSub, Int.reduceToNat, Int.reduceNeg, ↓reduceIte, reduceCtorEq]
   exact KWk_bare (by simp [bare, bareL]) ⟨by rw [hn]; rfl, rfl⟩
  ·have hn := hyes ((addOk_iff _ _).2 ⟨by omega, by omega, by omega, by omega⟩)
   simp only [g5, lay, wk3, wk, iaddrV_map, Nat.reduceAdd, Nat.reduceSub, Nat.reduceMul, Nat.reduceLeDiff, Nat.reduceEqDiff, Nat.reduceBEq, Int.reduceLE, Int.reduceLT, Int.reduceEq, Int.reduceNe, Int.reduceAdd, Int.reduceSub, Int.reduceToNat, Int.reduceNeg, ↓reduceIte, reduceCtorEq]
   refine WT_drawE ?_
   refine WDT_more 2 ?_
   simp only [cellsD, rows5D, lay, wk3, wk, iaddrV_map, Nat.reduceAdd, Nat.reduceSub, Nat.reduceMul, Nat.reduceLeDiff, Nat.reduceEqDiff, Nat.reduceBEq, Int.reduceLE, Int.reduceLT, Int.reduceEq, Int.reduceNe, Int.reduceAdd, Int.reduceSub, Int.reduceToNat, Int.reduceNeg, ↓reduceIte, reduceCtorEq]
   refine ⟨by omega, ?_⟩
   simp only [ren, renL, cellsD, rows5D, lay, wk3, wk, iaddrV_map, Nat.reduceAdd, Nat.reduceSub, Nat.reduceMul, Nat.reduceLeDiff, Nat.reduceEqDiff, Nat.reduceBEq, Int.reduceLE, Int.reduceLT, Int.reduceEq, Int.reduceNe, Int.reduceAdd, Int.reduceSub, Int.reduceToNat, Int.reduceNeg, ↓reduceIte, reduceCtorEq]
   refine ⟨⟨by omega, by omega⟩, by omega, by omega, by rfl, ⟨by omega, by omega⟩, ?_⟩
   rw [hn]
   exact KWk_sets 1 (l ++ [x]) 0 _ (by simp) (by rw [List.map_append]; rfl) ⟨rfl, rfl⟩
theorem moreL (l : List Dset) (hl : Short l) (x : Dset) (hx : x.files.length ≤ 1000000) (H : AH) :
 C Tryz.prog 108 [asets l, .agg (cellD x)] H (fun y H' => y = outA (addA l x.id x) ∧ H' = H) :=
 C_any (more0 l hl x hx) (by simp [bareL, bare, asets, cellD, aset]) (outA_bare _) H
theorem addA_id (l : List Dset) (n : Int) (x y : Dset) (h : ({ x with id := n } : Dset) = y) : addA l n x = addA l n y := by
 subst h; rfl
theorem rcreate0 (l : List Dset) (hl : Short l) (next q : Int) : C Tryz.prog 70 [asets l, .int .i64 next, .int .i64 q] [] (fun x H' => x = outA (createA l next q) ∧ H' = []) := by
 refine C_body' d70 rfl (WT_ok ?_)
 delta c70 I0 I1 I2 I3 I4 I5 I6 I7 I8 I9 KI createA
 by_cases h1 : q < 0
 ·rw [if_pos (.inl h1)]
  simp only [h1, lay, wk3, wk, iaddrV_map, Nat.reduceAdd, Nat.reduceSub, Nat.reduceMul, Nat.reduceLeDiff, Nat.reduceEqDiff, Nat.reduceBEq, Int.reduceLE, Int.reduceLT, Int.reduceEq, Int.reduceNe, Int.reduceAdd, Int.reduceSub, Int.reduceToNat, Int.reduceNeg, ↓reduceIte, reduceCtorEq]
  exact KWk_bare (by simp [bare, bareL, asets]) ⟨rfl, rfl⟩
 by_cases h2 : 255 < q
 ·rw [if_pos (.inr h2)]
  simp only [h1, h2, lay, wk3, wk, iaddrV_map, Nat.reduceAdd, Nat.reduceSub, Nat.reduceMul, Nat.reduceLeDiff, Nat.reduceEqDiff, Nat.reduceBEq, Int.reduceLE, Int.reduceLT, Int.reduceEq, Int.reduceNe, Int.reduceAdd, Int.reduceSub, Int.reduceToNat, Int.reduceNeg, ↓reduceIte, reduceCtorEq]
  exact KWk_bare (by simp [bare, bareL, asets]) ⟨rfl, rfl⟩
 ·rw [if_neg (fun h => h.elim h1 h2), addA_id l next _ ⟨next, 1, 0, q, newA⟩ rfl]
  simp only [h1, h2, lay, wk3, wk, iaddrV_map, Nat.reduceAdd, Nat.reduceSub, Nat.reduceMul, Nat.reduceLeDiff, Nat.reduceEqDiff, Nat.reduceBEq, Int.reduceLE, Int.reduceLT, Int.reduceEq, Int.reduceNe, Int.reduceAdd, Int.reduceSub, Int.reduceToNat, Int.reduceNeg, ↓reduceIte, reduceCtorEq]
  refine CT_ok (newL _) ?_
  rintro _ _ ⟨rfl, rfl⟩
  simp only [aset, lay, wk3, wk, iaddrV_map, Nat.reduceAdd, Nat.reduceSub, Nat.reduceMul, Nat.reduceLeDiff, Nat.reduceEqDiff, Nat.reduceBEq, Int.reduceLE, Int.reduceLT, Int.reduceEq, Int.reduceNe, Int.reduceAdd, Int.reduceSub, Int.reduceToNat, Int.reduceNeg, ↓reduceIte, reduceCtorEq]
  refine CT_ok (moreL l hl ⟨next, 1, 0, q, newA⟩ (show newA.length ≤ 1000000 by decide) _) ?_
  rintro _ _ ⟨rfl, rfl⟩
  simp only [outA, lay, wk3, wk, iaddrV_map, Nat.reduceAdd, Nat.reduceSub, Nat.reduceMul, Nat.reduceLeDiff, Nat.reduceEqDiff, Nat.reduceBEq, Int.reduceLE, Int.reduceLT, Int.reduceEq, Int.reduceNe, Int.reduceAdd, Int.reduceSub, Int.reduceToNat, Int.reduceNeg, ↓reduceIte, reduceCtorEq]
  exact KWk_bare (by simp [bare, bareL, asets]) ⟨rfl, rfl⟩
theorem rsnap0 (l : List Dset) (hl : Short l) (next i : Int) : C Tryz.prog 71 [asets l, .int .i64 next, .int .i64 i] [] (fun x H' => x = outA (snapA l next i) ∧ H' = []) := by
 refine C_body' d71 rfl (WT_ok ?_)
 delta c71 I0 I1 I2 I3 I4 I5 I6 I7 I8 I9 KI
 simp only [lay, wk3, wk, iaddrV_map, Nat.reduceAdd, Nat.reduceSub, Nat.reduceMul, Nat.reduceLeDiff, Nat.reduceEqDiff, Nat.reduceBEq, Int.reduceLE, Int.reduceLT, Int.reduceEq, Int.reduceNe, Int.reduceAdd, Int.reduceSub, Int.reduceToNat, Int.reduceNeg, ↓reduceIte, reduceCtorEq]
 refine CT_ok (rgetL l hl.1 i _) ?_
 rintro _ _ ⟨rfl, rfl⟩
 cases hg : getA l i with
 | none =>
   have e : snapA l next i = (l, 2) := by unfold snapA; rw [hg]
   rw [e]
   simp only [getV, lay, wk3, wk, iaddrV_map, Nat.reduceAdd, Nat.reduceSub, Nat.reduceMul, Nat.reduceLeDiff, Nat.reduceEqDiff, Nat.reduceBEq, Int.reduceLE, Int.reduceLT, Int.reduceEq, Int.reduceNe, Int.reduceAdd, Int.reduceSub, Int.reduceToNat, Int.reduceNeg, ↓reduceIte, reduceCtorEq]
   exact KWk_bare (by simp [bare, bareL, asets]) ⟨rfl, rfl⟩
 | some d =>
   have hd := hl.2 d (getA_mem hg).1
   by_cases h2 : d.kind = 2
   ·have e : snapA l next i = (l, 11) := by unfold snapA; rw [hg]; exact if_pos h2
    rw [e]
    simp only [getV, h2, cellD, aset, lay, wk3, wk, iaddrV_map, Nat.reduceAdd, Nat.reduceSub, Nat.reduceMul, Nat.reduceLeDiff, Nat.reduceEqDiff, Nat.reduceBEq, Int.reduceLE, Int.reduceLT, Int.reduceEq, Int.reduceNe, Int.reduceAdd, Int.reduceSub, Int.reduceToNat, Int.reduceNeg, ↓reduceIte, reduceCtorEq]
    exact KWk_bare (by simp [bare, bareL, asets]) ⟨rfl, rfl⟩
   ·have e : snapA l next i = addA l next ⟨next, 2, i, 0, d.files⟩ := by unfold snapA; rw [hg]; exact (if_neg h2).trans (addA_id l next _ _ rfl)
    rw [e]
    simp only [getV, h2, cellD, aset, lay, wk3, wk, iaddrV_map, Nat.reduceAdd, Nat.reduceSub, Nat.reduceMul, Nat.reduceLeDiff, Nat.reduceEqDiff, Nat.reduceBEq, Int.reduceLE, Int.reduceLT, Int.reduceEq, Int.reduceNe, Int.reduceAdd, Int.reduceSub, Int.reduceToNat, Int.reduceNeg, ↓reduceIte, reduceCtorEq]
    refine CT_ok (moreL l hl ⟨next, 2, i, 0, d.files⟩ hd _) ?_
    rintro _ _ ⟨rfl, rfl⟩
    simp only [outA, lay, wk3, wk, iaddrV_map, Nat.reduceAdd, Nat.reduceSub, Nat.reduceMul, Nat.reduceLeDiff, Nat.reduceEqDiff, Nat.reduceBEq, Int.reduceLE, Int.reduceLT, Int.reduceEq, Int.reduceNe, Int.reduceAdd, Int.reduceSub, Int.reduceToNat, Int.reduceNeg, ↓reduceIte, reduceCtorEq]
    exact KWk_bare (by simp [bare, bareL, asets]) ⟨rfl, rfl⟩
theorem rclone0 (l : List Dset) (hl : Short l) (next i : Int) : C Tryz.prog 72 [asets l, .int .i64 next, .int .i64 i] [] (fun x H' => x = outA (cloneA l next i) ∧ H' = []) := by
 refine C_body' d72 rfl (WT_ok ?_)
 delta c72 I0 I1 I2 I3 I4 I5 I6 I7 I8 I9 KI
 simp only [lay, wk3, wk, iaddrV_map, Nat.reduceAdd, Nat.reduceSub, Nat.reduceMul, Nat.reduceLeDiff, Nat.reduceEqDiff, Nat.reduceBEq, Int.reduceLE, Int.reduceLT, Int.reduceEq, Int.reduceNe, Int.reduceAdd, Int.reduceSub, Int.reduceToNat, Int.reduceNeg, ↓reduceIte, reduceCtorEq]
 refine CT_ok (rgetL l hl.1 i _) ?_
 rintro _ _ ⟨rfl, rfl⟩
 cases hg : getA l i with
 | none =>
   have e : cloneA l next i = (l, 2) := by unfold cloneA; rw [hg]
   rw [e]
   simp only [getV, lay, wk3, wk, iaddrV_map, Nat.reduceAdd, Nat.reduceSub, Nat.reduceMul, Nat.reduceLeDiff, Nat.reduceEqDiff, Nat.reduceBEq, Int.reduceLE, Int.reduceLT, Int.reduceEq, Int.reduceNe, Int.reduceAdd, Int.reduceSub, Int.reduceToNat, Int.reduceNeg, ↓reduceIte, reduceCtorEq]
   exact KWk_bare (by simp [bare, bareL, asets]) ⟨rfl, rfl⟩
 | some d =>
   have hd := hl.2 d (getA_mem hg).1
   by_cases h2 : d.kind = 2
   ·have e : cloneA l next i = addA l next ⟨next, 1, i, 0, d.files⟩ := by unfold cloneA; rw [hg]; exact (if_pos h2).trans (addA_id l next _ _ rfl)
    rw [e]
    simp only [getV, h2, cellD, aset, lay, wk3, wk, iaddrV_map, Nat.reduceAdd, Nat.reduceSub, Nat.reduceMul, Nat.reduceLeDiff, Nat.reduceEqDiff, Nat.reduceBEq, Int.reduceLE, Int.reduceLT, Int.reduceEq, Int.reduceNe, Int.reduceAdd, Int.reduceSub, Int.reduceToNat, Int.reduceNeg, ↓reduceIte, reduceCtorEq]
    refine CT_ok (moreL l hl ⟨next, 1, i, 0, d.files⟩ hd _) ?_
    rintro _ _ ⟨rfl, rfl⟩
    simp only [outA, lay, wk3, wk, iaddrV_map, Nat.reduceAdd, Nat.reduceSub, Nat.reduceMul, Nat.reduceLeDiff, Nat.reduceEqDiff, Nat.reduceBEq, Int.reduceLE, Int.reduceLT, Int.reduceEq, Int.reduceNe, Int.reduceAdd, Int.reduceSub, Int.reduceToNat, Int.reduceNeg, ↓reduceIte, reduceCtorEq]
    exact KWk_bare (by simp [bare, bareL, asets]) ⟨rfl, rfl⟩
   ·have e : cloneA l next i = (l, 1) := by unfold cloneA; rw [hg]; exact if_neg h2
    rw [e]
    simp only [getV, h2, cellD, aset, lay, wk3, wk, iaddrV_map, Nat.reduceAdd, Nat.reduceSub, Nat.reduceMul, Nat.reduceLeDiff, Nat.reduceEqDiff, Nat.reduceBEq, Int.reduceLE, Int.reduceLT, Int.reduceEq, Int.reduceNe, Int.reduceAdd, Int.reduceSub, Int.reduceToNat, Int.reduceNeg, ↓reduceIte, reduceCtorEq]
    exact KWk_bare (by simp [bare, bareL, asets]) ⟨rfl, rfl⟩
end Go.Proofs.YtemjlopoffjmpaaGreat.Abs
set_option linter.unusedSimpArgs false
set_option linter.unusedVariables false
namespace Go.Proofs.YtemjlopoffjmpaaGreat.Abs
open Go Go.Proofs
def StepR (l : List UInt8) (n : Int) (x : AV) (H' : AH) : Prop := ∃ (k i m n' : Int) (p q t : List UInt8), p.length ≤ 1000000 ∧ q.length ≤ 1000000 ∧ t.length ≤ 1000000 ∧ (n ≤ n' ∧ 1 ≤ k ∧ (k ≤ 5 ∨ 9 ≤ k) ∧ k ≤ 14) ∧ x = editA k i m p q t ∧ H' = picksH l n'
theorem KWk_step {l : List UInt8} {n k i m n' : Int} {p q t : List UInt8} {R : AH} (hp : p.length ≤ 1000000) (hq : q.length ≤ 1000000) (ht : t.length ≤ 1000000) (hn : n ≤ n' ∧ 1 ≤ k ∧ (k ≤ 5 ∨ 9 ≤ k) ∧ k ≤ 14) :
 KWk 1 (StepR l n) (.agg [.int .i64 k, .int .i64 i, .int .i64 m, .int .i64 0, .int .i64 0, .str p, .str q, .str t, .emp]) (some [[.fz (l.map pbyte), .int .i64 n']] :: R) := by
 refine ⟨_, _, ?_, k, i, m, n', p, q, t, hp, hq, ht, hn, rfl, rfl⟩
 have h := Wk_forget (n0 := 1) (fr := [editA k i m p q t]) (H := some [[.fz (l.map pbyte), .int .i64 n']] :: R) 1 (Nat.le_refl _)
 simpa [mapH, renL, ren, editA, picksH] using h
theorem set45 (l : List UInt8) (n i : Int) (hn : 0 ≤ n) (hl : l.length ≤ 1000000) :
 C Tryz.prog 45 [.ptr 0 0 0 1, .int .i64 i] (picksH l n) (StepR l n) := by
 refine C_body' d45 rfl (WT_ok ?_)
 delta c45 I0 I1 I2 I3 I4 I5 I6 I7 I8 I9 KI
 simp only [picksH, lay, iaddr_node, pnode, wk3, wk, seval]
 refine CT_ok (num_at l n 6 (by omega) hl _) ?_
 rintro _ H ⟨m, n1, rfl, k1, k2, k3, k4, _, rfl⟩
 have g1 : m < 6 := k2 (by omega)
 have w1 : IntKind.i64.wrap (9 + m) = 9 + m := IntWalk.i64_in _ (by omega)
 simp only [w1, lay, iaddr_node, pnode, wk3, wk, seval]
 by_cases v9 : 9 + m = 9
 ·simp only [v9, lay, iaddr_node, pnode, wk3, wk, seval]
  refine CT_ok (num_at l n1 9 (by omega) hl _) ?_
  rintro _ H ⟨m2, n2, rfl, j1, j2, j3, j4, _, rfl⟩
  simp only [lay, iaddr_node, pnode, wk3, wk, seval]
  exact KWk_step (by simp) (by simp) (by simp) (by omega)
 by_cases v13 : 9 + m = 13
 ·simp only [v13, lay, iaddr_node, pnode, wk3, wk, seval]
  refine CT_ok (num_at l n1 8 (by omega) hl _) ?_
  rintro _ H ⟨m2, n2, rfl, j1, j2, j3, j4, _, rfl⟩
  have w2 : IntKind.i64.wrap (1 + m2) = 1 + m2 := IntWalk.i64_in _ (by omega)
  simp only [w2, lay, iaddr_node, pnode, wk3, wk, seval]
  exact KWk_step (by simp) (by simp) (by simp) (by omega)
 ·simp only [v9, v13, lay, iaddr_node, pnode, wk3, wk, seval]
  exact KWk_step (by simp) (by simp) (by simp) (by omega)
def poolC (nx : Int) (v : AV) : List AV := [.emp, .emp, .int .i64 0, .int .i64 0, .bool false, .int .i64 0, .int .i64 0, .int .u32 0, .int .u32 0, .int .u32 0, .int .u32 0, .int .i64 0, .int .i64 nx, .int .i64 0, .int .i64 0, .int .i64 0, .int .u32 0, .int .u32 0, .int .u32 0, .int .u32 0, .int .i64 0, .int .i64 0, .int .u32 0, .int .u32 0, .int .u32 0, .int .u32 0, .int .i64 0, .int .i64 0, .int .u32 0, .int .u32 0, .int .u32 0, .int .u32 0, .int .i64 0, .emp, .emp, .emp, .emp, .int .i64 0, .int .i64 0, v, .bool false]
def ansC (e m : Int) : List AV := [.int .i64 e, .str [], .int .i64 0, .int .i64 0, .int .i64 0, .int .i64 0, .emp, .int .i64 m]
def toldA (nx : Int) (l : List Dset) (e m : Int) : AV := .tuple [.agg (poolC nx (asets l)), .agg (ansC e m)]
theorem told_bare (nx : Int) (l : List Dset) (e m : Int) : bare (toldA nx l e m) = true := by simp [toldA, poolC, ansC, bare, bareL, asets]
theorem tells86 (nx : Int) (l : List Dset) (e : Int) (H : AH) : C Tryz.prog 86 [.agg (poolC nx (asets l)), .int .i64 e] H (fun x H' => x = toldA nx l e 0 ∧ H' = H) := by
 refine C_any ?_ (by simp [bareL, bare, asets, poolC]) (told_bare _ _ _ _) H
 refine C_body' d86 rfl (WT_ok ?_)
 delta c86 I0 I1 I2 I3 I4 I5 I6 I7 I8 I9 KI
 simp only [poolC, asets, lay, wk4, wk3, wk, iaddrV_map, seval]
 exact KWk_bare (by simp [bare, bareL]) ⟨rfl, rfl⟩
theorem changes87 (k : Int) (hk : k ≤ 5 ∨ 9 ≤ k) (hk2 : k ≤ 14) (H : AH) : C Tryz.prog 87 [.int .i64 k] H (fun x H' => x = .bool true ∧ H' = H) := by
 refine C_body d87 rfl (WT_ok ?_)
 delta c87 I0 I1 I2 I3 I4 I5 I6 I7 I8 I9 KI
 have h6 : ¬ k = 6 := by omega
 have h7 : ¬ k = 7 := by omega
 have h8 : ¬ k = 8 := by omega
 have h17 : k ≤ 17 := by omega
 simp only [h6, h7, h8, h17, lay, wk4, wk3, wk, iaddrV_map, seval]
end Go.Proofs.YtemjlopoffjmpaaGreat.Abs
set_option linter.unusedSimpArgs false
set_option linter.unusedVariables false
namespace Go.Proofs.YtemjlopoffjmpaaGreat.Abs
open Go Go.Proofs
theorem filesA_may {l : List Dset} (h : MayL l) (i : Int) {s : List Node} (hs : Wf s) : MayL (filesA l i s).1 ∧ (filesA l i s).1.length = l.length := by
 unfold filesA
 cases hg : getA l i with
 | none => exact ⟨h, rfl⟩
 | some d =>
   simp only
   split
   ·exact ⟨h, rfl⟩
   ·split
    ·exact ⟨h, rfl⟩
    ·refine ⟨?_, List.length_set⟩
     rcases find_of (l := l) (i := i) with ⟨e, _⟩ | ⟨k, e, hk, hid, _⟩
     ·rw [getA_no e] at hg; cases hg
     rw [getA_of e] at hg
     have hd := Option.some.inj hg
     rw [e, Int.toNat_natCast, ← hd]
     show MayL (l.set k _)
     rw [set_map h hk (fun d => { d with files := s })]
     obtain ⟨r, hr⟩ := h.tree
     refine h.map _ (fun d _ => by split <;> rfl) (fun d _ => by split <;> rfl) (fun d _ => by split <;> rfl) (fun d hd => ?_) (fun d hd e => ?_) (fun d hd e => ?_) r (fun d hd o ho e => ?_)
     ·split
      ·exact hs
      ·exact (h.each d hd).files
     ·have := ((h.each d hd).snap e).2
      split <;> exact this
     ·have := (h.each d hd).live e
      split <;> exact this
     ·have : o.id = d.origin := by
       rw [e]; split <;> rfl
      exact hr d hd o ho this
theorem filesL (l : List Dset) (hl : Short l) (i : Int) (s : List Node) (hs : s.length ≤ 1000000) (H : AH) :
 C Tryz.prog 17 [asets l, .int .i64 i, aset s] H (fun y H' => y = outA (filesA l i s) ∧ H' = H) :=
 C_any (filesA0 l hl i s hs) (by simp [bareL, bare, asets, aset]) (outA_bare _) H
def StepN (nx nx' : Int) (l l' : List Dset) : Prop := (l ≠ [] → l' ≠ []) ∧ ((∀ d ∈ l, d.id < nx) → ∀ d ∈ l', d.id < nx')
theorem StepN.refl (nx : Int) (l : List Dset) : StepN nx nx l l := ⟨fun h => h, fun h => h⟩
theorem filesA_ids {l : List Dset} (i : Int) (s : List Node) {nx : Int} (h : ∀ d ∈ l, d.id < nx) : ∀ d ∈ (filesA l i s).1, d.id < nx := by
 unfold filesA
 cases hg : getA l i with
 | none => exact h
 | some d =>
   simp only
   split
   ·exact h
   ·split
    ·exact h
    ·intro x hx
     rcases List.mem_or_eq_of_mem_set hx with hx | rfl
     ·exact h x hx
     ·exact h d (getA_mem hg).1
def PoolR (nx : Int) (l : List Dset) (y : AV) : Prop := ∃ (l' : List Dset) (nx' e m : Int), MayL l' ∧ StepN nx nx' l l' ∧ nx ≤ nx' ∧ nx' ≤ nx + 1 ∧ y = toldA nx' l' e m
theorem PoolR.bare {nx : Int} {l : List Dset} {y : AV} (h : PoolR nx l y) : bare y = true := by
 obtain ⟨l', nx', e, m, _, _, _, _, rfl⟩ := h
 exact told_bare _ _ _ _
set_option maxHeartbeats 2000000 in
theorem files88_0 (l : List Dset) (hM : MayL l) (nx k i m : Int) (hk : 1 ≤ k ∧ k ≤ 5) (p q t : List UInt8) (hp : p.length ≤ 1000000) (hq : q.length ≤ 1000000) (ht : t.length ≤ 1000000) :
 C Tryz.prog 88 [.agg (poolC nx (asets l)), editA k i m p q t] [] (fun y H' => PoolR nx l y ∧ H' = []) := by
 have hl := hM.short
 have told : ∀ e : Int, PoolR nx l (toldA nx l e 0) := fun e => ⟨l, nx, e, 0, hM, StepN.refl _ _, Int.le_refl _, by omega, rfl⟩
 have put : ∀ u, Wf u → PoolR nx l (toldA nx (filesA l i u).1 (filesA l i u).2 0) := fun u hu => by
  obtain ⟨h1, h2⟩ := filesA_may hM i hu
  exact ⟨_, nx, _, 0, h1, ⟨fun h e => h (List.length_eq_zero_iff.1 (by rw [← h2, e]; rfl)), filesA_ids i u⟩, Int.le_refl _, by omega, rfl⟩
 refine C_body' d88 rfl (WT_ok ?_)
 delta c88 I0 I1 I2 I3 I4 I5 I6 I7 I8 I9 KI
 simp only [poolC, editA, asets, lay, iaddr_node, pnode, wk3, wk, Nat.reduceAdd, Nat.reduceSub, Nat.reduceMul, Nat.reduceLeDiff, Nat.reduceEqDiff, Nat.reduceBEq, Int.reduceLE, Int.reduceLT, Int.reduceEq, Int.reduceNe, Int.reduceAdd, Int.reduceSub, Int.reduceToNat, Int.reduceNeg, ↓reduceIte, reduceCtorEq]
 refine CT_ok (rgetL l hl.1 i _) ?_
 rintro _ _ ⟨rfl, rfl⟩
 cases hg : getA l i with
 | none =>
   simp only [getV, lay, iaddr_node, pnode, wk3, wk, Nat.reduceAdd, Nat.reduceSub, Nat.reduceMul, Nat.reduceLeDiff, Nat.reduceEqDiff, Nat.reduceBEq, Int.reduceLE, Int.reduceLT, Int.reduceEq, Int.reduceNe, Int.reduceAdd, Int.reduceSub, Int.reduceToNat, Int.reduceNeg, ↓reduceIte, reduceCtorEq]
   refine CT_ok (tells86 nx l 2 _) ?_
   rintro _ _ ⟨rfl, rfl⟩
   simp only [toldA, poolC, ansC, asets, lay, iaddr_node, pnode, wk3, wk, Nat.reduceAdd, Nat.reduceSub, Nat.reduceMul, Nat.reduceLeDiff, Nat.reduceEqDiff, Nat.reduceBEq, Int.reduceLE, Int.reduceLT, Int.reduceEq, Int.reduceNe, Int.reduceAdd, Int.reduceSub, Int.reduceToNat, Int.reduceNeg, ↓reduceIte, reduceCtorEq]
   exact KWk_bare (told_bare nx l 2 0) ⟨told 2, rfl⟩
 | some d =>
 have hd := hM.each d (getA_mem hg).1
 simp only [getV, cellD, aset, lay, iaddr_node, pnode, wk3, wk, Nat.reduceAdd, Nat.reduceSub, Nat.reduceMul, Nat.reduceLeDiff, Nat.reduceEqDiff, Nat.reduceBEq, Int.reduceLE, Int.reduceLT, Int.reduceEq, Int.reduceNe, Int.reduceAdd, Int.reduceSub, Int.reduceToNat, Int.reduceNeg, ↓reduceIte, reduceCtorEq]
 refine CT_ok (changes87 k (by omega) (by omega) _) ?_
 rintro _ _ ⟨rfl, rfl⟩
 by_cases h2 : d.kind = 2
 ·simp only [h2, lay, iaddr_node, pnode, wk3, wk, Nat.reduceAdd, Nat.reduceSub, Nat.reduceMul, Nat.reduceLeDiff, Nat.reduceEqDiff, Nat.reduceBEq, Int.reduceLE, Int.reduceLT, Int.reduceEq, Int.reduceNe, Int.reduceAdd, Int.reduceSub, Int.reduceToNat, Int.reduceNeg, ↓reduceIte, reduceCtorEq]
  refine CT_ok (tells86 nx l 11 _) ?_
  rintro _ _ ⟨rfl, rfl⟩
  simp only [toldA, poolC, ansC, asets, lay, iaddr_node, pnode, wk3, wk, Nat.reduceAdd, Nat.reduceSub, Nat.reduceMul, Nat.reduceLeDiff, Nat.reduceEqDiff, Nat.reduceBEq, Int.reduceLE, Int.reduceLT, Int.reduceEq, Int.reduceNe, Int.reduceAdd, Int.reduceSub, Int.reduceToNat, Int.reduceNeg, ↓reduceIte, reduceCtorEq]
  exact KWk_bare (told_bare nx l 11 0) ⟨told 11, rfl⟩
 by_cases h_1 : k = 1
 ·simp only [h2, h_1, lay, iaddr_node, pnode, wk3, wk, Nat.reduceAdd, Nat.reduceSub, Nat.reduceMul, Nat.reduceLeDiff, Nat.reduceEqDiff, Nat.reduceBEq, Int.reduceLE, Int.reduceLT, Int.reduceEq, Int.reduceNe, Int.reduceAdd, Int.reduceSub, Int.reduceToNat, Int.reduceNeg, ↓reduceIte, reduceCtorEq]
  refine CT_ok (make_next (parts_loose p hp) (fun _ h => h) d.files hd.files m _) ?_
  rintro _ _ ⟨rfl, u, e, hu, rfl⟩
  by_cases he : e = 0
  ·simp only [aset, he, lay, iaddr_node, pnode, wk3, wk, Nat.reduceAdd, Nat.reduceSub, Nat.reduceMul, Nat.reduceLeDiff, Nat.reduceEqDiff, Nat.reduceBEq, Int.reduceLE, Int.reduceLT, Int.reduceEq, Int.reduceNe, Int.reduceAdd, Int.reduceSub, Int.reduceToNat, Int.reduceNeg, ↓reduceIte, reduceCtorEq]
   refine CT_ok (filesL l hl i u (by have := hu.len; omega) _) ?_
   rintro _ _ ⟨rfl, rfl⟩
   simp only [outA, asets, lay, iaddr_node, pnode, wk3, wk, Nat.reduceAdd, Nat.reduceSub, Nat.reduceMul, Nat.reduceLeDiff, Nat.reduceEqDiff, Nat.reduceBEq, Int.reduceLE, Int.reduceLT, Int.reduceEq, Int.reduceNe, Int.reduceAdd, Int.reduceSub, Int.reduceToNat, Int.reduceNeg, ↓reduceIte, reduceCtorEq]
   refine WT_drawE ?_
   refine WDT_more 0 ?_
   simp only [lay, iaddr_node, pnode, wk3, wk, Nat.reduceAdd, Nat.reduceSub, Nat.reduceMul, Nat.reduceLeDiff, Nat.reduceEqDiff, Nat.reduceBEq, Int.reduceLE, Int.reduceLT, Int.reduceEq, Int.reduceNe, Int.reduceAdd, Int.reduceSub, Int.reduceToNat, Int.reduceNeg, ↓reduceIte, reduceCtorEq]
   refine ⟨by omega, by rfl, ?_⟩
   exact KWk_bare (told_bare nx (filesA l i u).1 (filesA l i u).2 0) ⟨put u hu, rfl⟩
  ·simp only [aset, he, lay, iaddr_node, pnode, wk3, wk, Nat.reduceAdd, Nat.reduceSub, Nat.reduceMul, Nat.reduceLeDiff, Nat.reduceEqDiff, Nat.reduceBEq, Int.reduceLE, Int.reduceLT, Int.reduceEq, Int.reduceNe, Int.reduceAdd, Int.reduceSub, Int.reduceToNat, Int.reduceNeg, ↓reduceIte, reduceCtorEq]
   refine CT_ok (tells86 nx l e _) ?_
   rintro _ _ ⟨rfl, rfl⟩
   simp only [toldA, poolC, ansC, asets, lay, iaddr_node, pnode, wk3, wk, Nat.reduceAdd, Nat.reduceSub, Nat.reduceMul, Nat.reduceLeDiff, Nat.reduceEqDiff, Nat.reduceBEq, Int.reduceLE, Int.reduceLT, Int.reduceEq, Int.reduceNe, Int.reduceAdd, Int.reduceSub, Int.reduceToNat, Int.reduceNeg, ↓reduceIte, reduceCtorEq]
   exact KWk_bare (told_bare nx l e 0) ⟨told e, rfl⟩
 by_cases h_2 : k = 2
 ·simp only [h2, h_2, lay, iaddr_node, pnode, wk3, wk, Nat.reduceAdd, Nat.reduceSub, Nat.reduceMul, Nat.reduceLeDiff, Nat.reduceEqDiff, Nat.reduceBEq, Int.reduceLE, Int.reduceLT, Int.reduceEq, Int.reduceNe, Int.reduceAdd, Int.reduceSub, Int.reduceToNat, Int.reduceNeg, ↓reduceIte, reduceCtorEq]
  refine CT_ok (drop_spec (parts_loose p hp) d.files hd.files _) ?_
  rintro _ _ ⟨rfl, u, e, hu, rfl⟩
  by_cases he : e = 0
  ·simp only [aset, he, lay, iaddr_node, pnode, wk3, wk, Nat.reduceAdd, Nat.reduceSub, Nat.reduceMul, Nat.reduceLeDiff, Nat.reduceEqDiff, Nat.reduceBEq, Int.reduceLE, Int.reduceLT, Int.reduceEq, Int.reduceNe, Int.reduceAdd, Int.reduceSub, Int.reduceToNat, Int.reduceNeg, ↓reduceIte, reduceCtorEq]
   refine CT_ok (filesL l hl i u (by have := hu.len; omega) _) ?_
   rintro _ _ ⟨rfl, rfl⟩
   simp only [outA, asets, lay, iaddr_node, pnode, wk3, wk, Nat.reduceAdd, Nat.reduceSub, Nat.reduceMul, Nat.reduceLeDiff, Nat.reduceEqDiff, Nat.reduceBEq, Int.reduceLE, Int.reduceLT, Int.reduceEq, Int.reduceNe, Int.reduceAdd, Int.reduceSub, Int.reduceToNat, Int.reduceNeg, ↓reduceIte, reduceCtorEq]
   refine WT_drawE ?_
   refine WDT_more 0 ?_
   simp only [lay, iaddr_node, pnode, wk3, wk, Nat.reduceAdd, Nat.reduceSub, Nat.reduceMul, Nat.reduceLeDiff, Nat.reduceEqDiff, Nat.reduceBEq, Int.reduceLE, Int.reduceLT, Int.reduceEq, Int.reduceNe, Int.reduceAdd, Int.reduceSub, Int.reduceToNat, Int.reduceNeg, ↓reduceIte, reduceCtorEq]
   refine ⟨by omega, by rfl, ?_⟩
   exact KWk_bare (told_bare nx (filesA l i u).1 (filesA l i u).2 0) ⟨put u hu, rfl⟩
  ·simp only [aset, he, lay, iaddr_node, pnode, wk3, wk, Nat.reduceAdd, Nat.reduceSub, Nat.reduceMul, Nat.reduceLeDiff, Nat.reduceEqDiff, Nat.reduceBEq, Int.reduceLE, Int.reduceLT, Int.reduceEq, Int.reduceNe, Int.reduceAdd, Int.reduceSub, Int.reduceToNat, Int.reduceNeg, ↓reduceIte, reduceCtorEq]
   refine CT_ok (tells86 nx l e _) ?_
   rintro _ _ ⟨rfl, rfl⟩
   simp only [toldA, poolC, ansC, asets, lay, iaddr_node, pnode, wk3, wk, Nat.reduceAdd, Nat.reduceSub, Nat.reduceMul, Nat.reduceLeDiff, Nat.reduceEqDiff, Nat.reduceBEq, Int.reduceLE, Int.reduceLT, Int.reduceEq, Int.reduceNe, Int.reduceAdd, Int.reduceSub, Int.reduceToNat, Int.reduceNeg, ↓reduceIte, reduceCtorEq]
   exact KWk_bare (told_bare nx l e 0) ⟨told e, rfl⟩
 by_cases h_3 : k = 3
 ·simp only [h2, h_3, lay, iaddr_node, pnode, wk3, wk, Nat.reduceAdd, Nat.reduceSub, Nat.reduceMul, Nat.reduceLeDiff, Nat.reduceEqDiff, Nat.reduceBEq, Int.reduceLE, Int.reduceLT, Int.reduceEq, Int.reduceNe, Int.reduceAdd, Int.reduceSub, Int.reduceToNat, Int.reduceNeg, ↓reduceIte, reduceCtorEq]
  refine CT_ok (move_spec (parts_loose p hp) (parts_loose q hq) (fun _ h => h) d.files hd.files _) ?_
  rintro _ _ ⟨rfl, u, e, hu, rfl⟩
  by_cases he : e = 0
  ·simp only [aset, he, lay, iaddr_node, pnode, wk3, wk, Nat.reduceAdd, Nat.reduceSub, Nat.reduceMul, Nat.reduceLeDiff, Nat.reduceEqDiff, Nat.reduceBEq, Int.reduceLE, Int.reduceLT, Int.reduceEq, Int.reduceNe, Int.reduceAdd, Int.reduceSub, Int.reduceToNat, Int.reduceNeg, ↓reduceIte, reduceCtorEq]
   refine CT_ok (filesL l hl i u (by have := hu.len; omega) _) ?_
   rintro _ _ ⟨rfl, rfl⟩
   simp only [outA, asets, lay, iaddr_node, pnode, wk3, wk, Nat.reduceAdd, Nat.reduceSub, Nat.reduceMul, Nat.reduceLeDiff, Nat.reduceEqDiff, Nat.reduceBEq, Int.reduceLE, Int.reduceLT, Int.reduceEq, Int.reduceNe, Int.reduceAdd, Int.reduceSub, Int.reduceToNat, Int.reduceNeg, ↓reduceIte, reduceCtorEq]
   refine WT_drawE ?_
   refine WDT_more 0 ?_
   simp only [lay, iaddr_node, pnode, wk3, wk, Nat.reduceAdd, Nat.reduceSub, Nat.reduceMul, Nat.reduceLeDiff, Nat.reduceEqDiff, Nat.reduceBEq, Int.reduceLE, Int.reduceLT, Int.reduceEq, Int.reduceNe, Int.reduceAdd, Int.reduceSub, Int.reduceToNat, Int.reduceNeg, ↓reduceIte, reduceCtorEq]
   refine ⟨by omega, by rfl, ?_⟩
   exact KWk_bare (told_bare nx (filesA l i u).1 (filesA l i u).2 0) ⟨put u hu, rfl⟩
  ·simp only [aset, he, lay, iaddr_node, pnode, wk3, wk, Nat.reduceAdd, Nat.reduceSub, Nat.reduceMul, Nat.reduceLeDiff, Nat.reduceEqDiff, Nat.reduceBEq, Int.reduceLE, Int.reduceLT, Int.reduceEq, Int.reduceNe, Int.reduceAdd, Int.reduceSub, Int.reduceToNat, Int.reduceNeg, ↓reduceIte, reduceCtorEq]
   refine CT_ok (tells86 nx l e _) ?_
   rintro _ _ ⟨rfl, rfl⟩
   simp only [toldA, poolC, ansC, asets, lay, iaddr_node, pnode, wk3, wk, Nat.reduceAdd, Nat.reduceSub, Nat.reduceMul, Nat.reduceLeDiff, Nat.reduceEqDiff, Nat.reduceBEq, Int.reduceLE, Int.reduceLT, Int.reduceEq, Int.reduceNe, Int.reduceAdd, Int.reduceSub, Int.reduceToNat, Int.reduceNeg, ↓reduceIte, reduceCtorEq]
   exact KWk_bare (told_bare nx l e 0) ⟨told e, rfl⟩
 by_cases h_4 : k = 4
 ·simp only [h2, h_4, lay, iaddr_node, pnode, wk3, wk, Nat.reduceAdd, Nat.reduceSub, Nat.reduceMul, Nat.reduceLeDiff, Nat.reduceEqDiff, Nat.reduceBEq, Int.reduceLE, Int.reduceLT, Int.reduceEq, Int.reduceNe, Int.reduceAdd, Int.reduceSub, Int.reduceToNat, Int.reduceNeg, ↓reduceIte, reduceCtorEq]
  refine CT_ok (write_next (parts_loose p hp) d.files hd.files m t (by omega) _) ?_
  rintro _ _ ⟨rfl, u, e, hu, rfl⟩
  by_cases he : e = 0
  ·simp only [aset, he, lay, iaddr_node, pnode, wk3, wk, Nat.reduceAdd, Nat.reduceSub, Nat.reduceMul, Nat.reduceLeDiff, Nat.reduceEqDiff, Nat.reduceBEq, Int.reduceLE, Int.reduceLT, Int.reduceEq, Int.reduceNe, Int.reduceAdd, Int.reduceSub, Int.reduceToNat, Int.reduceNeg, ↓reduceIte, reduceCtorEq]
   refine CT_ok (filesL l hl i u (by have := hu.len; omega) _) ?_
   rintro _ _ ⟨rfl, rfl⟩
   simp only [outA, asets, lay, iaddr_node, pnode, wk3, wk, Nat.reduceAdd, Nat.reduceSub, Nat.reduceMul, Nat.reduceLeDiff, Nat.reduceEqDiff, Nat.reduceBEq, Int.reduceLE, Int.reduceLT, Int.reduceEq, Int.reduceNe, Int.reduceAdd, Int.reduceSub, Int.reduceToNat, Int.reduceNeg, ↓reduceIte, reduceCtorEq]
   refine WT_drawE ?_
   refine WDT_more 0 ?_
   simp only [lay, iaddr_node, pnode, wk3, wk, Nat.reduceAdd, Nat.reduceSub, Nat.reduceMul, Nat.reduceLeDiff, Nat.reduceEqDiff, Nat.reduceBEq, Int.reduceLE, Int.reduceLT, Int.reduceEq, Int.reduceNe, Int.reduceAdd, Int.reduceSub, Int.reduceToNat, Int.reduceNeg, ↓reduceIte, reduceCtorEq]
   refine ⟨by omega, by rfl, ?_⟩
   exact KWk_bare (told_bare nx (filesA l i u).1 (filesA l i u).2 0) ⟨put u hu, rfl⟩
  ·simp only [aset, he, lay, iaddr_node, pnode, wk3, wk, Nat.reduceAdd, Nat.reduceSub, Nat.reduceMul, Nat.reduceLeDiff, Nat.reduceEqDiff, Nat.reduceBEq, Int.reduceLE, Int.reduceLT, Int.reduceEq, Int.reduceNe, Int.reduceAdd, Int.reduceSub, Int.reduceToNat, Int.reduceNeg, ↓reduceIte, reduceCtorEq]
   refine CT_ok (tells86 nx l e _) ?_
   rintro _ _ ⟨rfl, rfl⟩
   simp only [toldA, poolC, ansC, asets, lay, iaddr_node, pnode, wk3, wk, Nat.reduceAdd, Nat.reduceSub, Nat.reduceMul, Nat.reduceLeDiff, Nat.reduceEqDiff, Nat.reduceBEq, Int.reduceLE, Int.reduceLT, Int.reduceEq, Int.reduceNe, Int.reduceAdd, Int.reduceSub, Int.reduceToNat, Int.reduceNeg, ↓reduceIte, reduceCtorEq]
   exact KWk_bare (told_bare nx l e 0) ⟨told e, rfl⟩
 have h_5 : k = 5 := by omega
 ·simp only [h2, h_1, h_2, h_3, h_4, h_5, lay, iaddr_node, pnode, wk3, wk, Nat.reduceAdd, Nat.reduceSub, Nat.reduceMul, Nat.reduceLeDiff, Nat.reduceEqDiff, Nat.reduceBEq, Int.reduceLE, Int.reduceLT, Int.reduceEq, Int.reduceNe, Int.reduceAdd, Int.reduceSub, Int.reduceToNat, Int.reduceNeg, ↓reduceIte, reduceCtorEq]
  refine CT_ok (cut_spec (parts_loose p hp) d.files hd.files m _) ?_
  rintro _ _ ⟨rfl, u, e, hu, rfl⟩
  by_cases he : e = 0
  ·simp only [aset, he, lay, iaddr_node, pnode, wk3, wk, Nat.reduceAdd, Nat.reduceSub, Nat.reduceMul, Nat.reduceLeDiff, Nat.reduceEqDiff, Nat.reduceBEq, Int.reduceLE, Int.reduceLT, Int.reduceEq, Int.reduceNe, Int.reduceAdd, Int.reduceSub, Int.reduceToNat, Int.reduceNeg, ↓reduceIte, reduceCtorEq]
   refine CT_ok (filesL l hl i u (by have := hu.len; omega) _) ?_
   rintro _ _ ⟨rfl, rfl⟩
   simp only [outA, asets, lay, iaddr_node, pnode, wk3, wk, Nat.reduceAdd, Nat.reduceSub, Nat.reduceMul, Nat.reduceLeDiff, Nat.reduceEqDiff, Nat.reduceBEq, Int.reduceLE, Int.reduceLT, Int.reduceEq, Int.reduceNe, Int.reduceAdd, Int.reduceSub, Int.reduceToNat, Int.reduceNeg, ↓reduceIte, reduceCtorEq]
   refine WT_drawE ?_
   refine WDT_more 0 ?_
   simp only [lay, iaddr_node, pnode, wk3, wk, Nat.reduceAdd, Nat.reduceSub, Nat.reduceMul, Nat.reduceLeDiff, Nat.reduceEqDiff, Nat.reduceBEq, Int.reduceLE, Int.reduceLT, Int.reduceEq, Int.reduceNe, Int.reduceAdd, Int.reduceSub, Int.reduceToNat, Int.reduceNeg, ↓reduceIte, reduceCtorEq]
   refine ⟨by omega, by rfl, ?_⟩
   exact KWk_bare (told_bare nx (filesA l i u).1 (filesA l i u).2 0) ⟨put u hu, rfl⟩
  ·simp only [aset, he, lay, iaddr_node, pnode, wk3, wk, Nat.reduceAdd, Nat.reduceSub, Nat.reduceMul, Nat.reduceLeDiff, Nat.reduceEqDiff, Nat.reduceBEq, Int.reduceLE, Int.reduceLT, Int.reduceEq, Int.reduceNe, Int.reduceAdd, Int.reduceSub, Int.reduceToNat, Int.reduceNeg, ↓reduceIte, reduceCtorEq]
   refine CT_ok (tells86 nx l e _) ?_
   rintro _ _ ⟨rfl, rfl⟩
   simp only [toldA, poolC, ansC, asets, lay, iaddr_node, pnode, wk3, wk, Nat.reduceAdd, Nat.reduceSub, Nat.reduceMul, Nat.reduceLeDiff, Nat.reduceEqDiff, Nat.reduceBEq, Int.reduceLE, Int.reduceLT, Int.reduceEq, Int.reduceNe, Int.reduceAdd, Int.reduceSub, Int.reduceToNat, Int.reduceNeg, ↓reduceIte, reduceCtorEq]
   exact KWk_bare (told_bare nx l e 0) ⟨told e, rfl⟩
end Go.Proofs.YtemjlopoffjmpaaGreat.Abs
set_option linter.unusedSimpArgs false
set_option linter.unusedVariables false
namespace Go.Proofs.YtemjlopoffjmpaaGreat.Abs
open Go Go.Proofs
theorem hgB_hangs (l : List Dset) (i : Int) : hgB l i = hangsA l i := by
 unfold hgB hangsA
 rcases idxA_cases (fun d => decide (d.origin = i)) l with ⟨h1, h2⟩ | ⟨k, h1, h2, h3, _⟩
 ·rw [h1, decide_eq_false (by decide), List.any_eq_false]
  intro d hd
  obtain ⟨n, hn, rfl⟩ := mem_dgetD hd
  rw [h2 n hn]; decide
 ·rw [h1, decide_eq_true (by omega), List.any_eq_true]
  exact ⟨_, dgetD_mem h2, h3⟩
theorem filter_erase {l : List Dset} (h : MayL l) {k : Nat} (hk : k < l.length) : l.filter (notA (l.getD k default).id) = l.eraseIdx k := by
 have e : l = l.take k ++ l.getD k default :: l.drop (k + 1) := by
  have : l.drop k = l.getD k default :: l.drop (k + 1) := by
   rw [List.drop_eq_getElem_cons hk, List.getD_eq_getElem?_getD, List.getElem?_eq_getElem hk]; rfl
  rw [← this, List.take_append_drop]
 have h1 : ∀ d ∈ l.take k, notA (l.getD k default).id d = true := fun d hd => by
  obtain ⟨j, hj, rfl⟩ := List.mem_iff_getElem.1 hd
  rw [List.length_take] at hj
  have hj2 : j < l.length := by omega
  have := h.lt (i := j) (j := k) (by omega) hk
  unfold notA
  rw [List.getElem_take, decide_eq_false]; rfl
  intro hh
  rw [List.getD_eq_getElem?_getD, List.getElem?_eq_getElem hj2] at this
  have h3 : (l[j]).id < (l.getD k default).id := this
  omega
 have h2 : ∀ d ∈ l.drop (k + 1), notA (l.getD k default).id d = true := fun d hd => by
  obtain ⟨j, hj, rfl⟩ := List.mem_iff_getElem.1 hd
  rw [List.length_drop] at hj
  have hj2 : k + 1 + j < l.length := by omega
  have := h.lt (i := k) (j := k + 1 + j) (by omega) hj2
  unfold notA
  rw [List.getElem_drop, decide_eq_false]; rfl
  intro hh
  rw [List.getD_eq_getElem?_getD (l := l) (i := k + 1 + j), List.getElem?_eq_getElem hj2] at this
  have h3 : (l.getD k default).id < (l[k + 1 + j]).id := this
  omega
 have h3 : notA (l.getD k default).id (l.getD k default) = false := by unfold notA; simp
 refine (congrArg (List.filter (notA (l.getD k default).id)) e).trans ?_
 rw [List.filter_append, List.filter_cons, List.filter_eq_self.2 h1, List.filter_eq_self.2 h2, h3, if_neg (by decide), List.eraseIdx_eq_take_drop_succ]
theorem destR_eq {l : List Dset} (h : MayL l) (i : Int) : destR l i = destroyA l i := by
 unfold destR destroyA
 rcases find_of (l := l) (i := i) with ⟨e, _⟩ | ⟨k, e, hk, hid, _⟩
 ·rw [getA_no e, if_pos (by omega)]
 ·rw [getA_of e, if_neg (by omega), e, Int.toNat_natCast, hgB_hangs, ← hid, filter_erase h hk]
theorem addA_ne {l : List Dset} (h : l ≠ []) (n : Int) (x : Dset) : (addA l n x).1 ≠ [] := by
 unfold addA
 split
 ·simp
 ·exact h
theorem createA_ne {l : List Dset} (h : l ≠ []) (n q : Int) : (createA l n q).1 ≠ [] := by
 unfold createA
 split
 ·exact h
 ·exact addA_ne h _ _
theorem snapA_ne {l : List Dset} (h : l ≠ []) (n i : Int) : (snapA l n i).1 ≠ [] := by
 unfold snapA
 cases getA l i with
 | none => exact h
 | some d => simp only; split; exact h; exact addA_ne h _ _
theorem cloneA_ne {l : List Dset} (h : l ≠ []) (n i : Int) : (cloneA l n i).1 ≠ [] := by
 unfold cloneA
 cases getA l i with
 | none => exact h
 | some d => simp only; split; exact addA_ne h _ _; exact h
theorem ne_len {l l' : List Dset} (h : l ≠ []) (e : l'.length = l.length) : l' ≠ [] := fun e2 => h (List.length_eq_zero_iff.1 (by rw [← e, e2]; rfl))
theorem backA_ne {l : List Dset} (h : l ≠ []) (i j : Int) : (backA l i j).1 ≠ [] := by
 unfold backA
 split
 ·exact h
 ·simp only
  split
  ·exact h
  ·split
   ·exact h
   ·exact ne_len h List.length_set
theorem promoteA_ne {l : List Dset} (hM : MayL l) (h : l ≠ []) (i : Int) : (promoteA l i).1 ≠ [] := by
 rcases promote_facts hM i with ⟨hA, _⟩ | ⟨c, _, ⟨_, hA⟩ | ⟨_, _, s, o, _, _, hA⟩⟩
 ·rw [hA]; exact h
 ·rw [hA]; exact h
 ·rw [hA]; exact ne_len h (List.length_map _)
theorem destroyA_ne {l : List Dset} (hM : MayL l) (h : l ≠ []) (i : Int) : (destroyA l i).1 ≠ [] := by
 unfold destroyA
 split
 ·exact h
 ·rename_i h1
  split
  ·exact h
  ·rename_i h2
   rcases find_of (l := l) (i := i) with ⟨e, _⟩ | ⟨k, e, hk, hid, _⟩
   ·omega
   rw [e, Int.toNat_natCast] at h2 ⊢
   intro e2
   have hlen := List.length_eraseIdx (l := l) (i := k)
   rw [if_pos hk] at hlen
   have e3 : (l.eraseIdx k).length = 0 := by rw [show l.eraseIdx k = [] from e2]; rfl
   have h4 : l.length = 1 := by omega
   obtain ⟨d, rfl⟩ := List.length_eq_one_iff.1 h4
   have hk0 : k = 0 := by simp at hk; omega
   subst hk0
   have hd := hM.each d (by simp)
   have hk1 : d.kind = 1 := by
    rcases hd.kinds with hh | hh
    ·exact hh
    ·obtain ⟨_, o, ho, _, hok⟩ := hd.snap hh
     rw [List.mem_singleton] at ho
     subst ho; omega
   exact h2 (.inr ⟨hk1, by unfold livesA; simp [hk1]⟩)
theorem addA_ids {l : List Dset} (n : Int) (x : Dset) (h : ∀ d ∈ l, d.id < n) : ∀ d ∈ (addA l n x).1, d.id < n + 1 := by
 unfold addA
 intro d hd
 split at hd
 ·rcases List.mem_append.1 hd with hd | hd
  ·have := h d hd; omega
  ·rw [List.mem_singleton] at hd; subst hd; show n < n + 1; omega
 ·have := h d hd; omega
theorem lt_more {l : List Dset} {n : Int} (h : ∀ d ∈ l, d.id < n) : ∀ d ∈ l, d.id < n + 1 := fun d hd => by have := h d hd; omega
theorem createA_ids {l : List Dset} (n q : Int) (h : ∀ d ∈ l, d.id < n) : ∀ d ∈ (createA l n q).1, d.id < n + 1 := by
 unfold createA
 split
 ·exact lt_more h
 ·exact addA_ids _ _ h
theorem snapA_ids {l : List Dset} (n i : Int) (h : ∀ d ∈ l, d.id < n) : ∀ d ∈ (snapA l n i).1, d.id < n + 1 := by
 unfold snapA
 cases getA l i with
 | none => exact lt_more h
 | some d =>
   simp only
   split
   ·exact lt_more h
   ·exact addA_ids _ _ h
theorem cloneA_ids {l : List Dset} (n i : Int) (h : ∀ d ∈ l, d.id < n) : ∀ d ∈ (cloneA l n i).1, d.id < n + 1 := by
 unfold cloneA
 cases getA l i with
 | none => exact lt_more h
 | some d =>
   simp only
   split
   ·exact addA_ids _ _ h
   ·exact lt_more h
theorem backA_ids {l : List Dset} (i j : Int) {n : Int} (h : ∀ d ∈ l, d.id < n) : ∀ d ∈ (backA l i j).1, d.id < n := by
 unfold backA
 split
 ·exact h
 ·rename_i h1
  simp only
  split
  ·exact h
  ·split
   ·exact h
   ·intro x hx
    rcases find_of (l := l) (i := i) with ⟨e, _⟩ | ⟨k, e, hk, _, _⟩
    ·omega
    ·rcases List.mem_or_eq_of_mem_set hx with hx | rfl
     ·exact h x hx
     ·show (l.getD (findA l i).toNat default).id < n
      rw [e, Int.toNat_natCast]; exact h _ (dgetD_mem hk)
theorem promoteA_ids {l : List Dset} (hM : MayL l) (i : Int) {n : Int} (h : ∀ d ∈ l, d.id < n) : ∀ d ∈ (promoteA l i).1, d.id < n := by
 rcases promote_facts hM i with ⟨hA, _⟩ | ⟨c, _, ⟨_, hA⟩ | ⟨_, _, s, o, _, _, hA⟩⟩
 ·rw [hA]; exact h
 ·rw [hA]; exact h
 ·rw [hA]
  intro d hd
  obtain ⟨x, hx, rfl⟩ := List.mem_map.1 hd
  exact h x hx
theorem destroyA_ids {l : List Dset} (i : Int) {n : Int} (h : ∀ d ∈ l, d.id < n) : ∀ d ∈ (destroyA l i).1, d.id < n := by
 unfold destroyA
 split
 ·exact h
 ·split
  ·exact h
  ·exact fun d hd => h d (List.mem_of_mem_eraseIdx hd)
section
variable (l : List Dset)
theorem rcreateL (hl : Short l) (next q : Int) (H : AH) : C Tryz.prog 70 [asets l, .int .i64 next, .int .i64 q] H (fun x H' => x = outA (createA l next q) ∧ H' = H) := C_any (rcreate0 l hl next q) (by simp [bareL, bare, asets]) (outA_bare _) H
theorem rsnapL (hl : Short l) (next q : Int) (H : AH) : C Tryz.prog 71 [asets l, .int .i64 next, .int .i64 q] H (fun x H' => x = outA (snapA l next q) ∧ H' = H) := C_any (rsnap0 l hl next q) (by simp [bareL, bare, asets]) (outA_bare _) H
theorem rcloneL (hl : Short l) (next q : Int) (H : AH) : C Tryz.prog 72 [asets l, .int .i64 next, .int .i64 q] H (fun x H' => x = outA (cloneA l next q) ∧ H' = H) := C_any (rclone0 l hl next q) (by simp [bareL, bare, asets]) (outA_bare _) H
theorem rpromoteL (hM : MayL l) (i : Int) (H : AH) : C Tryz.prog 73 [asets l, .int .i64 i] H (fun x H' => x = outA (promoteA l i) ∧ H' = H) := C_any (rpromote0 l hM i) (by simp [bareL, bare, asets]) (outA_bare _) H
theorem rbackL (hl : Short l) (i j : Int) (H : AH) : C Tryz.prog 74 [asets l, .int .i64 i, .int .i64 j] H (fun x H' => x = outA (backA l i j) ∧ H' = H) := C_any (rback0 l hl i j) (by simp [bareL, bare, asets]) (outA_bare _) H
theorem rdestroyL (hM : MayL l) (i : Int) (H : AH) : C Tryz.prog 75 [asets l, .int .i64 i] H (fun x H' => x = outA (destroyA l i) ∧ H' = H) := by
 rw [← destR_eq hM i]
 exact C_any (rdestroy0 l hM.short i) (by simp [bareL, bare, asets]) (outA_bare _) H
end
set_option maxHeartbeats 2000000 in
theorem sets89_0 (l : List Dset) (hM : MayL l) (nx k i m : Int) (hk : 9 ≤ k ∧ k ≤ 14) (hnx : 0 ≤ nx ∧ nx ≤ 1000000) (p q t : List UInt8) :
 C Tryz.prog 89 [.agg (poolC nx (asets l)), editA k i m p q t] [] (fun y H' => PoolR nx l y ∧ H' = []) := by
 have hl := hM.short
 have told : ∀ e : Int, PoolR nx l (toldA nx l e 0) := fun e => ⟨l, nx, e, 0, hM, StepN.refl _ _, Int.le_refl _, by omega, rfl⟩
 have w1 : IntKind.i64.wrap (nx + 1) = nx + 1 := IntWalk.i64_in _ (by omega)
 refine C_body' d89 rfl (WT_ok ?_)
 delta c89 I0 I1 I2 I3 I4 I5 I6 I7 I8 I9 KI
 simp only [poolC, editA, asets, lay, iaddr_node, pnode, wk3, wk, seval]
 by_cases h_9 : k = 9
 ·simp only [h_9, lay, iaddr_node, pnode, wk3, wk, seval]
  refine CT_ok (rcreateL l hl nx m _) ?_
  rintro _ _ ⟨rfl, rfl⟩
  have hm := createA_may hM nx m
  have hne : StepN nx (nx + 1) l (createA l nx m).1 := ⟨fun h => createA_ne h nx m, createA_ids nx m⟩
  generalize createA l nx m = r at hm hne
  obtain ⟨l', e⟩ := r
  by_cases he : e = 0
  ·simp only [outA, asets, he, h_9, w1, lay, iaddr_node, pnode, wk3, wk, seval]
   exact KWk_bare (told_bare (nx + 1) l' 0 nx) ⟨⟨l', nx + 1, 0, nx, hm, hne, by omega, Int.le_refl _, rfl⟩, rfl⟩
  ·simp only [outA, asets, he, lay, iaddr_node, pnode, wk3, wk, seval]
   refine CT_ok (tells86 nx l e _) ?_
   rintro _ _ ⟨rfl, rfl⟩
   simp only [toldA, poolC, ansC, asets, lay, iaddr_node, pnode, wk3, wk, seval]
   exact KWk_bare (told_bare nx l e 0) ⟨told e, rfl⟩
 by_cases h_10 : k = 10
 ·simp only [h_10, lay, iaddr_node, pnode, wk3, wk, seval]
  refine CT_ok (rsnapL l hl nx i _) ?_
  rintro _ _ ⟨rfl, rfl⟩
  have hm := snapA_may hM nx i
  have hne : StepN nx (nx + 1) l (snapA l nx i).1 := ⟨fun h => snapA_ne h nx i, snapA_ids nx i⟩
  generalize snapA l nx i = r at hm hne
  obtain ⟨l', e⟩ := r
  by_cases he : e = 0
  ·simp only [outA, asets, he, h_10, w1, lay, iaddr_node, pnode, wk3, wk, seval]
   exact KWk_bare (told_bare (nx + 1) l' 0 nx) ⟨⟨l', nx + 1, 0, nx, hm, hne, by omega, Int.le_refl _, rfl⟩, rfl⟩
  ·simp only [outA, asets, he, lay, iaddr_node, pnode, wk3, wk, seval]
   refine CT_ok (tells86 nx l e _) ?_
   rintro _ _ ⟨rfl, rfl⟩
   simp only [toldA, poolC, ansC, asets, lay, iaddr_node, pnode, wk3, wk, seval]
   exact KWk_bare (told_bare nx l e 0) ⟨told e, rfl⟩
 by_cases h_11 : k = 11
 ·simp only [h_11, lay, iaddr_node, pnode, wk3, wk, seval]
  refine CT_ok (rcloneL l hl nx i _) ?_
  rintro _ _ ⟨rfl, rfl⟩
  have hm := cloneA_may hM nx i
  have hne : StepN nx (nx + 1) l (cloneA l nx i).1 := ⟨fun h => cloneA_ne h nx i, cloneA_ids nx i⟩
  generalize cloneA l nx i = r at hm hne
  obtain ⟨l', e⟩ := r
  by_cases he : e = 0
  ·simp only [outA, asets, he, h_11, w1, lay, iaddr_node, pnode, wk3, wk, seval]
   exact KWk_bare (told_bare (nx + 1) l' 0 nx) ⟨⟨l', nx + 1, 0, nx, hm, hne, by omega, Int.le_refl _, rfl⟩, rfl⟩
  ·simp only [outA, asets, he, lay, iaddr_node, pnode, wk3, wk, seval]
   refine CT_ok (tells86 nx l e _) ?_
   rintro _ _ ⟨rfl, rfl⟩
   simp only [toldA, poolC, ansC, asets, lay, iaddr_node, pnode, wk3, wk, seval]
   exact KWk_bare (told_bare nx l e 0) ⟨told e, rfl⟩
 by_cases h_12 : k = 12
 ·simp only [h_12, lay, iaddr_node, pnode, wk3, wk, seval]
  refine CT_ok (rpromoteL l hM i _) ?_
  rintro _ _ ⟨rfl, rfl⟩
  have hm := promoteA_may hM i
  have hne : StepN nx nx l (promoteA l i).1 := ⟨fun h => promoteA_ne hM h i, promoteA_ids hM i⟩
  generalize promoteA l i = r at hm hne
  obtain ⟨l', e⟩ := r
  by_cases he : e = 0
  ·simp only [outA, asets, he, h_12, w1, lay, iaddr_node, pnode, wk3, wk, seval]
   exact KWk_bare (told_bare nx l' 0 0) ⟨⟨l', nx, 0, 0, hm, hne, Int.le_refl _, by omega, rfl⟩, rfl⟩
  ·simp only [outA, asets, he, lay, iaddr_node, pnode, wk3, wk, seval]
   refine CT_ok (tells86 nx l e _) ?_
   rintro _ _ ⟨rfl, rfl⟩
   simp only [toldA, poolC, ansC, asets, lay, iaddr_node, pnode, wk3, wk, seval]
   exact KWk_bare (told_bare nx l e 0) ⟨told e, rfl⟩
 by_cases h_13 : k = 13
 ·simp only [h_13, lay, iaddr_node, pnode, wk3, wk, seval]
  refine CT_ok (rbackL l hl i m _) ?_
  rintro _ _ ⟨rfl, rfl⟩
  have hm := backA_may hM i m
  have hne : StepN nx nx l (backA l i m).1 := ⟨fun h => backA_ne h i m, backA_ids i m⟩
  generalize backA l i m = r at hm hne
  obtain ⟨l', e⟩ := r
  by_cases he : e = 0
  ·simp only [outA, asets, he, h_13, w1, lay, iaddr_node, pnode, wk3, wk, seval]
   exact KWk_bare (told_bare nx l' 0 0) ⟨⟨l', nx, 0, 0, hm, hne, Int.le_refl _, by omega, rfl⟩, rfl⟩
  ·simp only [outA, asets, he, lay, iaddr_node, pnode, wk3, wk, seval]
   refine CT_ok (tells86 nx l e _) ?_
   rintro _ _ ⟨rfl, rfl⟩
   simp only [toldA, poolC, ansC, asets, lay, iaddr_node, pnode, wk3, wk, seval]
   exact KWk_bare (told_bare nx l e 0) ⟨told e, rfl⟩
 have h_14 : k = 14 := by omega
 ·simp only [h_14, lay, iaddr_node, pnode, wk3, wk, seval]
  refine CT_ok (rdestroyL l hM i _) ?_
  rintro _ _ ⟨rfl, rfl⟩
  have hm := destroyA_may hM i
  have hne : StepN nx nx l (destroyA l i).1 := ⟨fun h => destroyA_ne hM h i, destroyA_ids i⟩
  generalize destroyA l i = r at hm hne
  obtain ⟨l', e⟩ := r
  by_cases he : e = 0
  ·simp only [outA, asets, he, h_14, w1, lay, iaddr_node, pnode, wk3, wk, seval]
   exact KWk_bare (told_bare nx l' 0 0) ⟨⟨l', nx, 0, 0, hm, hne, Int.le_refl _, by omega, rfl⟩, rfl⟩
  ·simp only [outA, asets, he, lay, iaddr_node, pnode, wk3, wk, seval]
   refine CT_ok (tells86 nx l e _) ?_
   rintro _ _ ⟨rfl, rfl⟩
   simp only [toldA, poolC, ansC, asets, lay, iaddr_node, pnode, wk3, wk, seval]
   exact KWk_bare (told_bare nx l e 0) ⟨told e, rfl⟩
end Go.Proofs.YtemjlopoffjmpaaGreat.Abs
set_option linter.unusedSimpArgs false
set_option linter.unusedVariables false
namespace Go.Proofs.YtemjlopoffjmpaaGreat.Abs
open Go Go.Proofs
theorem files88 (l : List Dset) (hM : MayL l) (nx k i m : Int) (hk : 1 ≤ k ∧ k ≤ 5) (p q t : List UInt8) (hp : p.length ≤ 1000000) (hq : q.length ≤ 1000000) (ht : t.length ≤ 1000000) (H : AH) :
 C Tryz.prog 88 [.agg (poolC nx (asets l)), editA k i m p q t] H (fun y H' => H' = H ∧ PoolR nx l y) :=
 (C_pure (K0 := PoolR nx l) (files88_0 l hM nx k i m hk p q t hp hq ht) (fun τ => renL_bare τ _ (by simp [bareL, bare, asets, poolC, editA])) (by intro x hx τ; exact ren_bare _ _ hx.bare) H).mono fun y H' h => ⟨h.2, h.1⟩
theorem sets89 (l : List Dset) (hM : MayL l) (nx k i m : Int) (hk : 9 ≤ k ∧ k ≤ 14) (hnx : 0 ≤ nx ∧ nx ≤ 1000000) (p q t : List UInt8) (H : AH) :
 C Tryz.prog 89 [.agg (poolC nx (asets l)), editA k i m p q t] H (fun y H' => H' = H ∧ PoolR nx l y) :=
 (C_pure (K0 := PoolR nx l) (sets89_0 l hM nx k i m hk hnx p q t) (fun τ => renL_bare τ _ (by simp [bareL, bare, asets, poolC, editA])) (by intro x hx τ; exact ren_bare _ _ hx.bare) H).mono fun y H' h => ⟨h.2, h.1⟩
set_option maxRecDepth 8000 in
set_option maxHeartbeats 2000000 in
theorem do47_0 (l : List Dset) (hM : MayL l) (nx k i m : Int) (hk : 1 ≤ k ∧ (k ≤ 5 ∨ 9 ≤ k) ∧ k ≤ 14) (hnx : 0 ≤ nx ∧ nx ≤ 1000000) (p q t : List UInt8) (hp : p.length ≤ 1000000) (hq : q.length ≤ 1000000) (ht : t.length ≤ 1000000) :
 C Tryz.prog 47 [.agg (poolC nx (asets l)), editA k i m p q t] [] (fun y H' => PoolR nx l y ∧ H' = []) := by
 have h1 : ¬ k < 1 := by omega
 have h22 : ¬ 22 < k := by omega
 have h14 : k ≤ 14 := hk.2.2
 refine C_body' d47 rfl (WT_ok ?_)
 delta c47 I0 I1 I2 I3 I4 I5 I6 I7 I8 I9 KI
 by_cases h8 : k ≤ 8
 ·simp only [h1, h22, h8, poolC, editA, asets, lay, iaddr_node, pnode, wk3, wk, seval]
  refine CT_ok (files88 l hM nx k i m (by omega) p q t hp hq ht _) ?_
  rintro _ _ ⟨rfl, l', nx', e, m', r1, r2, r3, r4, rfl⟩
  simp only [toldA, poolC, ansC, asets, lay, iaddr_node, pnode, wk3, wk, seval]
  exact KWk_bare (told_bare nx' l' e m') ⟨⟨l', nx', e, m', r1, r2, r3, r4, rfl⟩, rfl⟩
 ·simp only [h1, h22, h8, h14, poolC, editA, asets, lay, iaddr_node, pnode, wk3, wk, seval]
  refine CT_ok (sets89 l hM nx k i m (by omega) hnx p q t _) ?_
  rintro _ _ ⟨rfl, l', nx', e, m', r1, r2, r3, r4, rfl⟩
  simp only [toldA, poolC, ansC, asets, lay, iaddr_node, pnode, wk3, wk, seval]
  exact KWk_bare (told_bare nx' l' e m') ⟨⟨l', nx', e, m', r1, r2, r3, r4, rfl⟩, rfl⟩
theorem do47 (l : List Dset) (hM : MayL l) (nx k i m : Int) (hk : 1 ≤ k ∧ (k ≤ 5 ∨ 9 ≤ k) ∧ k ≤ 14) (hnx : 0 ≤ nx ∧ nx ≤ 1000000) (p q t : List UInt8) (hp : p.length ≤ 1000000) (hq : q.length ≤ 1000000) (ht : t.length ≤ 1000000) (H : AH) :
 C Tryz.prog 47 [.agg (poolC nx (asets l)), editA k i m p q t] H (fun y H' => H' = H ∧ PoolR nx l y) :=
 (C_pure (K0 := PoolR nx l) (do47_0 l hM nx k i m hk hnx p q t hp hq ht) (fun τ => renL_bare τ _ (by simp [bareL, bare, asets, poolC, editA])) (by intro x hx τ; exact ren_bare _ _ hx.bare) H).mono fun y H' h => ⟨h.2, h.1⟩
end Go.Proofs.YtemjlopoffjmpaaGreat.Abs
set_option linter.unusedSimpArgs false
set_option linter.unusedVariables false
namespace Go.Proofs.YtemjlopoffjmpaaGreat.Abs
open Go Go.Proofs
def StepAt (l : List UInt8) (n : Int) (R : AH) (x : AV) (H' : AH) : Prop := ∃ (k i m n' : Int) (p q t : List UInt8), p.length ≤ 1000000 ∧ q.length ≤ 1000000 ∧ t.length ≤ 1000000 ∧ (n ≤ n' ∧ 1 ≤ k ∧ (k ≤ 5 ∨ 9 ≤ k) ∧ k ≤ 14) ∧ x = editA k i m p q t ∧ H' = some [[.fz (l.map pbyte), .int .i64 n']] :: R
theorem set_at45 (l : List UInt8) (n i : Int) (hn : 0 ≤ n) (hl : l.length ≤ 1000000) (R : AH) :
 C Tryz.prog 45 [.ptr 0 0 0 1, .int .i64 i] (some [[.fz (l.map pbyte), .int .i64 n]] :: R) (StepAt l n R) := by
 refine C_call (K0 := StepR l n) [0] (by simp) (by simp) ?_ ?_
 ·exact set45 l n i hn hl
 ·rintro _ _ ⟨k, i', m, n', p, q, t, h1, h2, h3, h4, rfl, rfl⟩
  exact ⟨Nat.le_refl _, k, i', m, n', p, q, t, h1, h2, h3, h4, by simp [editA, ren, renL], by simp [back, setAll, picksH, renO, renL, ren]⟩
theorem edit_at (l : List UInt8) (n i : Int) (hn : 0 ≤ n) (hl : l.length ≤ 1000000) (R : AH) :
 C Tryz.prog 46 [.ptr 0 0 0 1, .int .i64 i] (some [[.fz (l.map pbyte), .int .i64 n]] :: R) (StepAt l n R) := by
 refine C_call (K0 := EditR l n) [0] (by simp) (by simp) ?_ ?_
 ·exact edit_spec l n i hn hl
 ·rintro _ _ ⟨k, i', m, n', p, q, t, h1, h2, h3, h4, rfl, rfl⟩
  exact ⟨Nat.le_refl _, k, i', m, n', p, q, t, h1, h2, h3, by omega, by simp [editA, ren, renL], by simp [back, setAll, picksH, renO, renL, ren]⟩
theorem over_at (l : List UInt8) (n : Int) (R : AH) :
 C Tryz.prog 43 [.ptr 0 0 0 1] (some [[.fz (l.map pbyte), .int .i64 n]] :: R) (fun x H' => x = .bool (decide ((l.map pbyte).length ≤ n)) ∧ H' = some [[.fz (l.map pbyte), .int .i64 n]] :: R) := by
 refine C_call (K0 := fun x H' => x = .bool (decide ((l.map pbyte).length ≤ n)) ∧ H' = [some [[.fz (l.map pbyte), .int .i64 n]]]) [0] (by simp) (by simp) ?_ ?_
 ·exact over_spec (l.map pbyte) n
 ·rintro _ _ ⟨rfl, rfl⟩
  exact ⟨Nat.le_refl _, by simp [ren], by simp [back, setAll, renO, renL, ren]⟩
theorem Wk_three {fr fr' : List AV} {o o' : AObj} {G : AH} (ho : o.map (renL (upTo 3)) = o) (ho' : o'.map (renL (upTo 3)) = o') (h : Tops fr' (renL (upTo 3) fr)) : Wk 1 fr (some o :: none :: some o' :: G) fr' [some o, none, some o'] := by
 have h1 := (Wk_forget (n0 := 1) (fr := fr) (H := some o :: none :: some o' :: G) 3 (by omega)).trans (Wk_tops h)
 have e : mapH (renL (upTo 3)) ((some o :: none :: some o' :: G).take 3) = [some o, none, some o'] := by
  simp only [List.take_succ_cons, List.take_zero, mapH, List.map_cons, List.map_nil, Option.map_some, Option.map_none, ho, ho']
 rwa [e] at h1
theorem renO_pool (τ : Nat → Option Nat) (nx : Int) (l : List Dset) : List.map (renL τ) [poolC nx (asets l)] = [poolC nx (asets l)] := by simp [poolC, asets, renL, ren]
theorem renO_picks (τ : Nat → Option Nat) (l : List UInt8) (n : Int) : List.map (renL τ) [[AV.fz (l.map pbyte), .int .i64 n]] = [[AV.fz (l.map pbyte), .int .i64 n]] := by simp [renL, ren]
def firstD : Dset := ⟨1, 1, 0, 0, newA⟩
theorem firstD_may : MayL [firstD] := by
 refine ⟨by decide, by simp, fun d hd => ?_, fun i => i.toNat, fun d hd o ho e => ?_⟩
 ·rw [List.mem_singleton] at hd
  subst hd
  exact ⟨⟨by decide, by decide⟩, ⟨by decide, by decide⟩, newA_wf, .inl rfl, fun e => absurd e (by decide), fun _ => .inl rfl⟩
 ·rw [List.mem_singleton] at hd ho
  subst hd; subst ho
  exact absurd e (by decide)
def SetsR (l : List UInt8) (n : Int) (x : AV) (H' : AH) : Prop := ∃ L n', MayL L ∧ L ≠ [] ∧ (n ≤ n' ∧ ∀ d ∈ L, d.id < 900) ∧ x = asets L ∧ H' = picksH l n'
theorem KWk_list {l : List UInt8} {n n' : Int} {L : List Dset} {R : AH} (h : MayL L) (hne : L ≠ []) (hn : n ≤ n' ∧ ∀ d ∈ L, d.id < 900) : KWk 1 (SetsR l n) (asets L) (some [[.fz (l.map pbyte), .int .i64 n']] :: R) := by
 refine ⟨_, _, ?_, L, n', h, hne, hn, rfl, rfl⟩
 have h := Wk_forget (n0 := 1) (fr := [asets L]) (H := some [[.fz (l.map pbyte), .int .i64 n']] :: R) 1 (Nat.le_refl _)
 simpa [mapH, renL, ren, asets, picksH] using h
theorem Wk_first {fr fr' : List AV} (l : List UInt8) (n : Int) (h : Tops fr' (renL (upTo 3) (frzL 1 [pdset firstD] fr))) :
 Wk 1 fr [some [[.fz (l.map pbyte), .int .i64 n]], some [cellD firstD], some [poolC 2 (.own 1 5 0 1 1)]] fr' [some [[.fz (l.map pbyte), .int .i64 n]], none, some [poolC 2 (asets [firstD])]] := by
 have h1 := Wk_freeze (n0 := 1) (fr := fr) (H := [some [[.fz (l.map pbyte), .int .i64 n]], some [cellD firstD], some [poolC 2 (.own 1 5 0 1 1)]]) 1 [pdset firstD] rfl
 have e : mapH (frzL 1 [pdset firstD]) (List.set [some [[AV.fz (l.map pbyte), .int .i64 n]], some [cellD firstD], some [poolC 2 (.own 1 5 0 1 1)]] 1 none) = [some [[.fz (l.map pbyte), .int .i64 n]], none, some [poolC 2 (asets [firstD])]] := by
  simp [mapH, frzL, frz, poolC, asets]
 rw [e] at h1
 exact h1.trans (Wk_three (renO_picks _ l n) (renO_pool _ _ _) h)
set_option maxRecDepth 8000 in
set_option maxHeartbeats 4000000 in
theorem sets14 (l : List UInt8) (n : Int) (most : Nat) (hm : most ≤ 100) (hn : 0 ≤ n) (hl : l.length ≤ 1000000) :
 C Tryz.prog 14 [.ptr 0 0 0 1, .int .i64 most] (picksH l n) (SetsR l n) := by
 refine C_body' d14 rfl (WT_ok ?_)
 delta c14 I0 I1 I2 I3 I4 I5 I6 I7 I8 I9 KI
 simp only [picksH, lay, iaddr_node, pnode, wk3, wk, seval]
 refine CT_ok (new_spec _) ?_
 rintro _ _ ⟨rfl, rfl⟩
 simp only [aset, lay, iaddr_node, pnode, wk3, wk, seval]
 refine WT_loop (W_wk (fr' := [.ptr 0 0 0 1, .int .i64 most, .top, .top, .emp, .ptr 2 0 0 1, .int .i64 (0 : Nat)] ++ List.replicate 37 .top) (Wk_first l n ?_) (W_loop (fun nn fr H' => ∃ (j : Nat) (L : List Dset) (nx n' : Int), j ≤ most ∧ nn = most - j ∧ MayL L ∧ L ≠ [] ∧ ((0 ≤ nx ∧ nx ≤ 2 + j) ∧ ∀ d ∈ L, d.id < nx) ∧ n ≤ n' ∧ H' = [some [[.fz (l.map pbyte), .int .i64 n']], none, some [poolC nx (asets L)]] ∧
  fr = [.ptr 0 0 0 1, .int .i64 most, .top, .top, .emp, .ptr 2 0 0 1, .int .i64 j] ++ List.replicate 37 .top) most ⟨0, [firstD], 2, n, by omega, rfl, firstD_may, by simp, ⟨by omega, by simp [firstD]⟩, by omega, rfl, rfl⟩ ?_))
 ·simp only [frzL, frz, renL, ren, upTo, show (0 : Nat) < 3 by omega, show (2 : Nat) < 3 by omega, show ¬ (0 : Nat) = 1 by omega, show ¬ (2 : Nat) = 1 by omega, if_true, if_false, tp, Int.natCast_zero]
 rintro nn fr H ⟨j, L, nx, n', hj, rfl, hL, hne, ⟨hnx, hid⟩, hn', rfl, rfl⟩
 have hid9 : ∀ d ∈ L, d.id < 900 := fun d hd => by have := hid d hd; omega
 refine WT_ok ?_
 simp only [poolC, asets, lay, iaddr_node, pnode, wk3, wk, seval]
 by_cases h : (j : Int) < most
 case neg =>
  simp only [h, lay, iaddr_node, pnode, wk3, wk, seval]
  exact KWk_list hL hne ⟨hn', hid9⟩
 simp only [h, lay, iaddr_node, pnode, wk3, wk, seval]
 refine CT_ok (over_at l n' _) ?_
 rintro _ _ ⟨rfl, rfl⟩
 simp only [h, lay, iaddr_node, pnode, wk3, wk, seval]
 refine guard_both ?_ ?_ <;> intro h2 <;> simp only [hy] at h2
 ·simp only [h, h2, lay, iaddr_node, pnode, wk3, wk, seval]
  have w2 : IntKind.i64.wrap ((j : Int) + 1) = (j : Int) + 1 := IntWalk.i64_in _ (by omega)
  refine CT_ok (num_at l n' 8 (by omega) hl _) ?_
  rintro _ H ⟨m1, n1, rfl, k1, k2, k3, k4, _, rfl⟩
  have g1 : m1 < 8 := k2 (by omega)
  have w1 : IntKind.i64.wrap (1 + m1) = 1 + m1 := IntWalk.i64_in _ (by omega)
  simp only [w1, lay, iaddr_node, pnode, wk3, wk, seval]
  refine CT_ok (set_at45 l n1 (1 + m1) (by omega) hl _) ?_
  rintro _ H ⟨k, i, m, n2, p, q, t, hp, hq, ht, hk, rfl, rfl⟩
  simp only [editA, lay, iaddr_node, pnode, wk3, wk, seval]
  refine CT_ok (num_at l n2 3 (by omega) hl _) ?_
  rintro _ H ⟨m3, n3, rfl, j1, j2, j3, j4, _, rfl⟩
  simp only [lay, iaddr_node, pnode, wk3, wk, seval]
  by_cases h3 : 0 < m3
  ·simp only [h3, lay, iaddr_node, pnode, wk3, wk, seval]
   refine CT_ok (edit_at l n3 (1 + m1) (by omega) hl _) ?_
   rintro _ H ⟨k, i, m, n4, p, q, t, hp, hq, ht, hk, rfl, rfl⟩
   simp only [editA, lay, iaddr_node, pnode, wk3, wk, seval]
   refine CT_ok (do47 L hL nx k i m hk.2 (by omega) p q t hp hq ht _) ?_
   rintro _ _ ⟨rfl, L', nx', e, m', r1, r2, r3, r4, rfl⟩
   simp only [toldA, poolC, ansC, asets, w2, lay, iaddr_node, pnode, wk3, wk, seval]
   refine QLoop_wk (n' := most - (j + 1)) (by omega) ⟨j + 1, L', nx', n4, by omega, rfl, r1, r2.1 hne, ⟨by omega, r2.2 hid⟩, by omega, rfl, rfl⟩ (Wk_three (renO_picks _ l _) (renO_pool _ nx' L') ?_)
   simp only [renL, ren, upTo, show (0 : Nat) < 3 by omega, show (2 : Nat) < 3 by omega, if_true, tq]
  ·simp only [h3, lay, iaddr_node, pnode, wk3, wk, seval]
   refine CT_ok (do47 L hL nx k i m hk.2 (by omega) p q t hp hq ht _) ?_
   rintro _ _ ⟨rfl, L', nx', e, m', r1, r2, r3, r4, rfl⟩
   simp only [toldA, poolC, ansC, asets, w2, lay, iaddr_node, pnode, wk3, wk, seval]
   refine QLoop_wk (n' := most - (j + 1)) (by omega) ⟨j + 1, L', nx', n3, by omega, rfl, r1, r2.1 hne, ⟨by omega, r2.2 hid⟩, by omega, rfl, rfl⟩ (Wk_three (renO_picks _ l _) (renO_pool _ nx' L') ?_)
   simp only [renL, ren, upTo, show (0 : Nat) < 3 by omega, show (2 : Nat) < 3 by omega, if_true, tq]
 ·simp only [h, h2, lay, iaddr_node, pnode, wk3, wk, seval]
  exact KWk_list hL hne ⟨hn', hid9⟩
end Go.Proofs.YtemjlopoffjmpaaGreat.Abs
set_option linter.unusedSimpArgs false
set_option linter.unusedVariables false
namespace Go.Proofs.YtemjlopoffjmpaaGreat.Abs
open Go Go.Proofs
def signsA : List UInt8 := [97, 98, 99, 100, 101, 102, 103, 104, 105, 106, 107, 108, 109, 110, 111, 112, 113, 114, 115, 116, 117, 118, 119, 120, 121, 122, 48, 49, 50, 51, 52, 53, 54, 55, 56, 57, 46, 95, 45]
theorem signs_ok0 : ∀ n, n < 256 → okC n = true → 0 ≤ Lib.indexByte signsA n.toUInt8 := by decide +kernel
theorem signs_ok (b : UInt8) (h : okC b.toNat = true) : ¬ Lib.indexByte signsA b < 0 := by
 have := signs_ok0 b.toNat (UInt8.toNat_lt b) h
 rw [Nat.toUInt8_eq, UInt8.ofNat_toNat] at this
 omega
theorem index229 (s : List UInt8) (c : Int) (H : AH) : C Tryz.prog 229 [.str s, .int .u8 c] H (fun x H' => x = .int .i64 (Lib.indexByte s c.toNat.toUInt8) ∧ H' = H) := by
 refine C_lib ⟨Tryz.f229, Tryz.func229, by kernel_rfl, by kernel_rfl⟩ (v := .int .i64 (Lib.indexByte s c.toNat.toUInt8)) ?_ fun E => .pure (x := .int .i64 _) (.int .i64 _)
 intro E w vs _ hr
 obtain ⟨v, u, rfl, h1, h2⟩ := hr.two
 rw [rep_str h1, rep_int h2]
 refine (Tryz.strings_IndexByte ⟨s.toArray⟩ c w).mono ?_
 rintro e w' ⟨rfl, rfl⟩
 exact ⟨rfl, RowKit.Below.refl _ _⟩
theorem plain0 (s : List UInt8) (hs : s.length ≤ 1000000) (hall : s.all (fun b => okC b.toNat) = true) : C Tryz.prog 224 [.str s] [] (fun x _ => x = .bool true) := by
 refine C_body d224 rfl (WT_ok ?_)
 delta c224 I0 I1 I2 I3 I4 I5 I6 I7 I8 I9 KI
 simp only [lay, wk3, wk, iaddrV_map, Nat.reduceAdd, Nat.reduceSub, Nat.reduceMul, Nat.reduceLeDiff, Nat.reduceEqDiff, Nat.reduceBEq, Int.reduceLE, Int.reduceLT, Int.reduceEq, Int.reduceNe, Int.reduceAdd, Int.reduceSub, Int.reduceToNat, Int.reduceNeg, ↓reduceIte, reduceCtorEq]
 refine WT_loop (W_wk (fr' := [.str s, .top, .bool false, .top, .top, .top, .own 0 1 0 s.length s.length, .int .i64 s.length, .int .i64 (0 : Nat)] ++ List.replicate 7 .top) (Wk_tops ?_) (W_loop (fun n fr H' => ∃ i : Nat, i ≤ s.length ∧ n = s.length - i ∧ H' = [some (s.map fun b => [AV.int .u8 b.toNat])] ∧ fr = [.str s, .top, .bool false, .top, .top, .top, .own 0 1 0 s.length s.length, .int .i64 s.length, .int .i64 i] ++ List.replicate 7 .top) s.length ⟨0, by omega, rfl, rfl, rfl⟩ ?_))
 ·simp only [tp, Int.natCast_zero]
 rintro n fr H' ⟨i, hi, rfl, rfl, rfl⟩
 refine WT_ok ?_
 simp only [lay, wk3, wk, iaddrV_map, Nat.reduceAdd, Nat.reduceSub, Nat.reduceMul, Nat.reduceLeDiff, Nat.reduceEqDiff, Nat.reduceBEq, Int.reduceLE, Int.reduceLT, Int.reduceEq, Int.reduceNe, Int.reduceAdd, Int.reduceSub, Int.reduceToNat, Int.reduceNeg, ↓reduceIte, reduceCtorEq]
 by_cases h : (i : Int) < s.length
 ·have hil : i < s.length := by omega
  have w2 : IntKind.i64.wrap ((i : Int) + 1) = (i : Int) + 1 := IntWalk.i64_in _ (by omega)
  have h0 : (0 : Int) ≤ i := by omega
  have hv : s[i]? = some s[i] := List.getElem?_eq_getElem hil
  have hok : okC s[i].toNat = true := List.all_eq_true.1 hall _ (List.getElem_mem hil)
  generalize s[i] = b at hv hok
  have hb := signs_ok b hok
  have hb2 : b.toNat.toUInt8 = b := by rw [Nat.toUInt8_eq, UInt8.ofNat_toNat]
  simp only [h, h0, hv, lay, wk3, wk, iaddrV_map, Nat.reduceAdd, Nat.reduceSub, Nat.reduceMul, Nat.reduceLeDiff, Nat.reduceEqDiff, Nat.reduceBEq, Int.reduceLE, Int.reduceLT, Int.reduceEq, Int.reduceNe, Int.reduceAdd, Int.reduceSub, Int.reduceToNat, Int.reduceNeg, ↓reduceIte, reduceCtorEq]
  refine CT_ok (index229 signsA b.toNat _) ?_
  rintro _ _ ⟨rfl, rfl⟩
  simp only [hb2, hb, w2, lay, wk3, wk, iaddrV_map, Nat.reduceAdd, Nat.reduceSub, Nat.reduceMul, Nat.reduceLeDiff, Nat.reduceEqDiff, Nat.reduceBEq, Int.reduceLE, Int.reduceLT, Int.reduceEq, Int.reduceNe, Int.reduceAdd, Int.reduceSub, Int.reduceToNat, Int.reduceNeg, ↓reduceIte, reduceCtorEq]
  refine QLoop_go (n' := s.length - (i + 1)) (by omega) ⟨i + 1, by omega, rfl, rfl, rfl⟩ ?_
  simp only [tq]
 ·simp only [h, lay, wk3, wk, iaddrV_map, Nat.reduceAdd, Nat.reduceSub, Nat.reduceMul, Nat.reduceLeDiff, Nat.reduceEqDiff, Nat.reduceBEq, Int.reduceLE, Int.reduceLT, Int.reduceEq, Int.reduceNe, Int.reduceAdd, Int.reduceSub, Int.reduceToNat, Int.reduceNeg, ↓reduceIte, reduceCtorEq]
theorem plain224 (s : List UInt8) (hs : s.length ≤ 1000000) (hall : s.all (fun b => okC b.toNat) = true) (H : AH) : C Tryz.prog 224 [.str s] H (fun x H' => x = .bool true ∧ H' = H) :=
 C_flat (K0 := fun x _ => x = .bool true) (plain0 s hs hall) (by rintro x _ rfl; exact ⟨rfl, rfl, rfl⟩)
theorem name201 (s : List UInt8) (h : mayN s = true) (H : AH) : C Tryz.prog 201 [.str s] H (fun x H' => x = .bool true ∧ H' = H) := by
 refine C_body d201 rfl (WT_ok ?_)
 delta c201 I0 I1 I2 I3 I4 I5 I6 I7 I8 I9 KI
 have h' := h
 simp only [mayN, Bool.and_eq_true, decide_eq_true_eq] at h'
 obtain ⟨hall, h1, h8, hd, hdd⟩ := h'
 have hne : ¬ s = [] := fun e => by rw [e] at h1; simp at h1
 have h8' : (s.length : Int) ≤ 8 := by omega
 simp only [hne, h8', hd, hdd, lay, wk3, wk, iaddrV_map, Nat.reduceAdd, Nat.reduceSub, Nat.reduceMul, Nat.reduceLeDiff, Nat.reduceEqDiff, Nat.reduceBEq, Int.reduceLE, Int.reduceLT, Int.reduceEq, Int.reduceNe, Int.reduceAdd, Int.reduceSub, Int.reduceToNat, Int.reduceNeg, ↓reduceIte, reduceCtorEq]
 refine CT_ok (plain224 s (by omega) hall _) ?_
 rintro _ _ ⟨rfl, rfl⟩
 simp only [hd, hdd, lay, wk3, wk, iaddrV_map, Nat.reduceAdd, Nat.reduceSub, Nat.reduceMul, Nat.reduceLeDiff, Nat.reduceEqDiff, Nat.reduceBEq, Int.reduceLE, Int.reduceLT, Int.reduceEq, Int.reduceNe, Int.reduceAdd, Int.reduceSub, Int.reduceToNat, Int.reduceNeg, ↓reduceIte, reduceCtorEq]
theorem folder202_0 (s : List Node) (n : Int) : C Tryz.prog 202 [.agg [aset s], .int .i64 n] [] (fun x _ => x = .bool (decide (0 ≤ n ∧ n < s.length) && decide ((s.getD n.toNat default).kind = 2))) := by
 refine C_body d202 rfl (WT_ok ?_)
 delta c202 I0 I1 I2 I3 I4 I5 I6 I7 I8 I9 KI
 simp only [aset, lay, iaddr_node, pnode, wk3, wk, Nat.reduceAdd, Nat.reduceSub, Nat.reduceMul, Nat.reduceLeDiff, Nat.reduceEqDiff, Nat.reduceBEq, Int.reduceLE, Int.reduceLT, Int.reduceEq, Int.reduceNe, Int.reduceAdd, Int.reduceSub, Int.reduceToNat, Int.reduceNeg, ↓reduceIte, reduceCtorEq]
 by_cases h : 0 ≤ n
 ·by_cases h2 : n < s.length
  ·have e5 : ∀ x, (pnode x).length = 5 := fun _ => rfl
   have hd : decide (0 ≤ n ∧ n < s.length) = true := decide_eq_true ⟨h, h2⟩
   simp only [h, h2, and_self, decide_true, Bool.true_and, lay, iaddr_node, pnode, wk3, wk, Nat.reduceAdd, Nat.reduceSub, Nat.reduceMul, Nat.reduceLeDiff, Nat.reduceEqDiff, Nat.reduceBEq, Int.reduceLE, Int.reduceLT, Int.reduceEq, Int.reduceNe, Int.reduceAdd, Int.reduceSub, Int.reduceToNat, Int.reduceNeg, ↓reduceIte, reduceCtorEq]
  ·have hd : decide (0 ≤ n ∧ n < s.length) = false := decide_eq_false (fun hh => h2 hh.2)
   simp only [h, h2, hd, and_false, Bool.false_and, lay, iaddr_node, pnode, wk3, wk, Nat.reduceAdd, Nat.reduceSub, Nat.reduceMul, Nat.reduceLeDiff, Nat.reduceEqDiff, Nat.reduceBEq, Int.reduceLE, Int.reduceLT, Int.reduceEq, Int.reduceNe, Int.reduceAdd, Int.reduceSub, Int.reduceToNat, Int.reduceNeg, ↓reduceIte, reduceCtorEq]
 ·have hd : decide (0 ≤ n ∧ n < s.length) = false := decide_eq_false (fun hh => h hh.1)
  simp only [h, hd, false_and, Bool.false_and, lay, iaddr_node, pnode, wk3, wk, Nat.reduceAdd, Nat.reduceSub, Nat.reduceMul, Nat.reduceLeDiff, Nat.reduceEqDiff, Nat.reduceBEq, Int.reduceLE, Int.reduceLT, Int.reduceEq, Int.reduceNe, Int.reduceAdd, Int.reduceSub, Int.reduceToNat, Int.reduceNeg, ↓reduceIte, reduceCtorEq]
theorem folder202 (s : List Node) (n : Int) (H : AH) : C Tryz.prog 202 [.agg [aset s], .int .i64 n] H (fun x H' => x = .bool (decide (0 ≤ n ∧ n < s.length) && decide ((s.getD n.toNat default).kind = 2)) ∧ H' = H) :=
 C_flat (K0 := fun x _ => x = .bool (decide (0 ≤ n ∧ n < s.length) && decide ((s.getD n.toNat default).kind = 2))) (folder202_0 s n) (by rintro x _ rfl; exact ⟨rfl, rfl, rfl⟩)
theorem alone158_0 (s : List Node) (hw : Wf s) (x : Node) (ho : OkAt s x) (hk : x.kind ≠ 0) : C Tryz.prog 158 [.agg [aset s], anode x] [] (fun y _ => y = .bool true) := by
 refine C_body d158 rfl (WT_ok ?_)
 delta c158 I0 I1 I2 I3 I4 I5 I6 I7 I8 I9 KI
 have hb := ho.bad
 have hu := ho.up
 have hlen := hw.len
 have hf : (decide (0 ≤ x.up ∧ x.up < s.length) && decide ((s.getD x.up.toNat default).kind = 2)) = true := by
  rw [Bool.and_eq_true]; exact ⟨decide_eq_true ⟨hu.1, by omega⟩, decide_eq_true (ho.upf hk)⟩
 have hF := folder202 s x.up
 rw [hf] at hF
 simp only [anode, aset, hb, pnode, lay, iaddr_node, pnode, wk3, wk, Nat.reduceAdd, Nat.reduceSub, Nat.reduceMul, Nat.reduceLeDiff, Nat.reduceEqDiff, Nat.reduceBEq, Int.reduceLE, Int.reduceLT, Int.reduceEq, Int.reduceNe, Int.reduceAdd, Int.reduceSub, Int.reduceToNat, Int.reduceNeg, ↓reduceIte, reduceCtorEq]
 refine CT_ok (name201 x.name (ho.name hk) _) ?_
 rintro _ _ ⟨rfl, rfl⟩
 simp only [lay, iaddr_node, pnode, wk3, wk, Nat.reduceAdd, Nat.reduceSub, Nat.reduceMul, Nat.reduceLeDiff, Nat.reduceEqDiff, Nat.reduceBEq, Int.reduceLE, Int.reduceLT, Int.reduceEq, Int.reduceNe, Int.reduceAdd, Int.reduceSub, Int.reduceToNat, Int.reduceNeg, ↓reduceIte, reduceCtorEq]
 refine CT_ok (hF _) ?_
 rintro _ _ ⟨rfl, rfl⟩
 rcases ho.kinds with e | e | e
 ·exact absurd e hk
 ·have hbl : (x.body.length : Int) ≤ 128 := by have := ho.body; omega
  simp only [e, hbl, lay, iaddr_node, pnode, wk3, wk, Nat.reduceAdd, Nat.reduceSub, Nat.reduceMul, Nat.reduceLeDiff, Nat.reduceEqDiff, Nat.reduceBEq, Int.reduceLE, Int.reduceLT, Int.reduceEq, Int.reduceNe, Int.reduceAdd, Int.reduceSub, Int.reduceToNat, Int.reduceNeg, ↓reduceIte, reduceCtorEq]
 ·have hbe := ho.fold e
  simp only [e, hbe, lay, iaddr_node, pnode, wk3, wk, Nat.reduceAdd, Nat.reduceSub, Nat.reduceMul, Nat.reduceLeDiff, Nat.reduceEqDiff, Nat.reduceBEq, Int.reduceLE, Int.reduceLT, Int.reduceEq, Int.reduceNe, Int.reduceAdd, Int.reduceSub, Int.reduceToNat, Int.reduceNeg, ↓reduceIte, reduceCtorEq]
theorem alone158 (s : List Node) (hw : Wf s) (x : Node) (ho : OkAt s x) (hk : x.kind ≠ 0) (H : AH) : C Tryz.prog 158 [.agg [aset s], anode x] H (fun y H' => y = .bool true ∧ H' = H) :=
 C_flat (K0 := fun x _ => x = .bool true) (alone158_0 s hw x ho hk) (by rintro x _ rfl; exact ⟨rfl, rfl, rfl⟩)
theorem Wf.climb7 {s : List Node} (h : Wf s) {i : Nat} (hi : i < 8) (hk : (s.getD i default).kind ≠ 0) : itUp s 7 i = 0 := by
 obtain ⟨r0, hr0⟩ := h.tree
 obtain ⟨r, hr8, hr⟩ := rank8 r0 h.len (fun i hi => h.up8 hi) hr0
 have g : ∀ m, itUp s m i = 0 ∨ r (itUp s m i) + m ≤ r i := by
  intro m
  induction m with
  | zero => right; exact Nat.le_refl _
  | succ m ih =>
    rcases ih with ih | ih
    ·left; rw [itUp_succ, ih, h.top]; rfl
    ·by_cases h0 : itUp s m i = 0
     ·left; rw [itUp_succ, h0, h.top]; rfl
     ·right
      rw [itUp_succ]
      have := hr (itUp s m i) (by omega) (h.itUp8 m hi) (h.itUpk m hi hk)
      omega
 apply Classical.byContradiction
 intro hne
 have h7 : r (itUp s 7 i) + 7 ≤ r i := by rcases g 7 with e | e; exact absurd e hne; exact e
 have := hr (itUp s 7 i) (by omega) (h.itUp8 7 hi) (h.itUpk 7 hi hk)
 have := hr8 i hi
 omega
theorem leads159_0 (s : List Node) (hw : Wf s) (i : Nat) (hi : i < 8) (hk : (s.getD i default).kind ≠ 0) : C Tryz.prog 159 [.agg [aset s], .int .i64 i] [] (fun y _ => y = .bool true) := by
 refine C_body d159 rfl (WT_ok ?_)
 delta c159 I0 I1 I2 I3 I4 I5 I6 I7 I8 I9 KI
 have hlen := hw.len
 have hl8 : (s.length : Int) = 8 := by omega
 have h7 := hw.climb7 hi hk
 simp only [aset, lay, iaddr_node, pnode, wk3, wk, Nat.reduceAdd, Nat.reduceSub, Nat.reduceMul, Nat.reduceLeDiff, Nat.reduceEqDiff, Nat.reduceBEq, Int.reduceLE, Int.reduceLT, Int.reduceEq, Int.reduceNe, Int.reduceAdd, Int.reduceSub, Int.reduceToNat, Int.reduceNeg, ↓reduceIte, reduceCtorEq]
 refine WT_loop (W_wk (fr' := [.top, .int .i64 (itUp s 0 i : Nat), .ptr 0 0 0 1, .top, .bool false, .top, .top, .int .i64 s.length, .int .i64 (0 : Nat)] ++ List.replicate 10 .top) (Wk_tops ?_) (W_loop (fun n fr H' => ∃ k : Nat, k ≤ 7 ∧ n = 8 - k ∧ H' = [some [[aset s]]] ∧ fr = [.top, .int .i64 (itUp s k i : Nat), .ptr 0 0 0 1, .top, .bool false, .top, .top, .int .i64 s.length, .int .i64 k] ++ List.replicate 10 .top) 8 ⟨0, by omega, rfl, rfl, rfl⟩ ?_))
 ·simp only [itUp, tp, Int.natCast_zero]
 rintro n fr H' ⟨k, hk7, rfl, rfl, rfl⟩
 refine WT_ok ?_
 have v2 : IntKind.i64.wrap ((k : Int) + 1) = (k : Int) + 1 := IntWalk.i64_in _ (by omega)
 have y0 : (k : Int) < 8 := by omega
 have h8 := hw.itUp8 k hi
 have g0 : (0 : Int) ≤ (itUp s k i : Nat) := by omega
 have g1 : ((itUp s k i : Nat) : Int) < 8 := by omega
 by_cases y1 : ((itUp s k i : Nat) : Int) = 0
 ·simp only [y0, y1, hl8, aset, lay, iaddr_node, pnode, wk3, wk, Nat.reduceAdd, Nat.reduceSub, Nat.reduceMul, Nat.reduceLeDiff, Nat.reduceEqDiff, Nat.reduceBEq, Int.reduceLE, Int.reduceLT, Int.reduceEq, Int.reduceNe, Int.reduceAdd, Int.reduceSub, Int.reduceToNat, Int.reduceNeg, ↓reduceIte, reduceCtorEq]
 ·have hk6 : k < 7 := by
   rcases Nat.lt_or_ge k 7 with h | h
   ·exact h
   ·have : k = 7 := by omega
    subst this; exact absurd (by rw [h7]; rfl) y1
  have hupn := hw.upD (itUp s k i) (by omega)
  simp only [y0, y1, g0, g1, hl8, v2, Int.toNat_natCast, aset, lay, iaddr_node, pnode, wk3, wk, Nat.reduceAdd, Nat.reduceSub, Nat.reduceMul, Nat.reduceLeDiff, Nat.reduceEqDiff, Nat.reduceBEq, Int.reduceLE, Int.reduceLT, Int.reduceEq, Int.reduceNe, Int.reduceAdd, Int.reduceSub, Int.reduceToNat, Int.reduceNeg, ↓reduceIte, reduceCtorEq]
  refine QLoop_go (n' := 8 - (k + 1)) (by omega) ⟨k + 1, by omega, rfl, rfl, rfl⟩ ?_
  have eu : ((itUp s (k + 1) i : Nat) : Int) = (s.getD (itUp s k i) default).up := by rw [itUp_succ]; omega
  simp only [aset, hl8, eu, tq]
theorem leads159 (s : List Node) (hw : Wf s) (i : Nat) (hi : i < 8) (hk : (s.getD i default).kind ≠ 0) (H : AH) : C Tryz.prog 159 [.agg [aset s], .int .i64 i] H (fun y H' => y = .bool true ∧ H' = H) :=
 C_flat (K0 := fun x _ => x = .bool true) (leads159_0 s hw i hi hk) (by rintro x _ rfl; exact ⟨rfl, rfl, rfl⟩)
theorem twin160_0 (s : List Node) (hw : Wf s) (i : Nat) (hi : 1 ≤ i ∧ i < 8) (hk : (s.getD i default).kind ≠ 0) : C Tryz.prog 160 [.agg [aset s], .int .i64 i] [] (fun y _ => y = .bool false) := by
 refine C_body d160 rfl (WT_ok ?_)
 delta c160 I0 I1 I2 I3 I4 I5 I6 I7 I8 I9 KI
 have hlen := hw.len
 have hl8 : (s.length : Int) = 8 := by omega
 have i0 : (0 : Int) ≤ i := by omega
 have i8 : (i : Int) < 8 := by omega
 simp only [aset, lay, iaddr_node, pnode, wk3, wk, Nat.reduceAdd, Nat.reduceSub, Nat.reduceMul, Nat.reduceLeDiff, Nat.reduceEqDiff, Nat.reduceBEq, Int.reduceLE, Int.reduceLT, Int.reduceEq, Int.reduceNe, Int.reduceAdd, Int.reduceSub, Int.reduceToNat, Int.reduceNeg, ↓reduceIte, reduceCtorEq]
 refine WT_loop (W_wk (fr' := [.top, .int .i64 i, .ptr 0 0 0 1, .top, .bool false, .top, .top, .top, aset s, .int .i64 s.length, .int .i64 (0 : Nat)] ++ List.replicate 39 .top) (Wk_tops ?_) (W_loop (fun n fr H' => ∃ k : Nat, k ≤ 8 ∧ n = 8 - k ∧ H' = [some [[aset s]]] ∧ fr = [.top, .int .i64 i, .ptr 0 0 0 1, .top, .bool false, .top, .top, .top, aset s, .int .i64 s.length, .int .i64 k] ++ List.replicate 39 .top) 8 ⟨0, by omega, rfl, rfl, rfl⟩ ?_))
 ·simp only [aset, tp, Int.natCast_zero]
 rintro n fr H' ⟨k, hk8, rfl, rfl, rfl⟩
 refine WT_ok ?_
 have v2 : IntKind.i64.wrap ((k : Int) + 1) = (k : Int) + 1 := IntWalk.i64_in _ (by omega)
 by_cases y0 : (k : Int) < 8
 ·have k0 : (0 : Int) ≤ k := by omega
  have hu := fun h1 h2 h3 => hw.uniq k i h1 (by omega) hi.1 hi.2 h2 hk h3
  simp only [y0, k0, hl8, aset, lay, iaddr_node, pnode, wk3, wk, Nat.reduceAdd, Nat.reduceSub, Nat.reduceMul, Nat.reduceLeDiff, Nat.reduceEqDiff, Nat.reduceBEq, Int.reduceLE, Int.reduceLT, Int.reduceEq, Int.reduceNe, Int.reduceAdd, Int.reduceSub, Int.reduceToNat, Int.reduceNeg, ↓reduceIte, reduceCtorEq]
  generalize hx : s.getD k default = x at hu
  generalize hz : s.getD i default = z at hu
  refine WT_draw ?_
  have fin : ∀ fr : List AV, True := fun _ => trivial
  rcases Classical.propComplete ((0 : Int) < k) with p1 | p1
  ·rcases Classical.propComplete ((k : Int) = i) with p2 | p2
   ·simp only [p1, p2, y0, k0, i0, i8, hl8, hx, hz, v2, Int.toNat_natCast, aset, lay, iaddr_node, pnode, wk3, wk, Nat.reduceAdd, Nat.reduceSub, Nat.reduceMul, Nat.reduceLeDiff, Nat.reduceEqDiff, Nat.reduceBEq, Int.reduceLE, Int.reduceLT, Int.reduceEq, Int.reduceNe, Int.reduceAdd, Int.reduceSub, Int.reduceToNat, Int.reduceNeg, ↓reduceIte, reduceCtorEq]
    refine QLoop_wk (n' := 8 - (k + 1)) (by omega) ⟨k + 1, by omega, rfl, rfl, rfl⟩ (Wk_obj1 (by simp [renL, ren, aset]) ?_)
    simp only [aset, hl8, renL, ren, upTo, show (0 : Nat) < 1 by omega, if_true, tq]
   ·rcases Classical.propComplete (x.kind = 0) with p3 | p3
    ·simp only [p1, p2, p3, y0, k0, i0, i8, hl8, hx, hz, v2, Int.toNat_natCast, aset, lay, iaddr_node, pnode, wk3, wk, Nat.reduceAdd, Nat.reduceSub, Nat.reduceMul, Nat.reduceLeDiff, Nat.reduceEqDiff, Nat.reduceBEq, Int.reduceLE, Int.reduceLT, Int.reduceEq, Int.reduceNe, Int.reduceAdd, Int.reduceSub, Int.reduceToNat, Int.reduceNeg, ↓reduceIte, reduceCtorEq]
     refine QLoop_wk (n' := 8 - (k + 1)) (by omega) ⟨k + 1, by omega, rfl, rfl, rfl⟩ (Wk_obj1 (by simp [renL, ren, aset]) ?_)
     simp only [aset, hl8, renL, ren, upTo, show (0 : Nat) < 1 by omega, if_true, tq]
    ·rcases Classical.propComplete (x.up = z.up) with p4 | p4
     ·rcases Classical.propComplete (x.name = z.name) with p5 | p5
      ·exfalso
       have q1 : 0 < k := by have : (0 : Int) < k := by rw [p1]; trivial
                             omega
       have q2 : ¬ k = i := fun e => by have : (k : Int) = i := by omega
                                        rw [p2] at this; exact this
       exact q2 (hu q1 (fun e => by rw [p3] at e; exact e) (by rw [p4]; trivial) (by rw [p5]; trivial))
      ·simp only [p1, p2, p3, p4, p5, y0, k0, i0, i8, hl8, hx, hz, v2, Int.toNat_natCast, aset, lay, iaddr_node, pnode, wk3, wk, Nat.reduceAdd, Nat.reduceSub, Nat.reduceMul, Nat.reduceLeDiff, Nat.reduceEqDiff, Nat.reduceBEq, Int.reduceLE, Int.reduceLT, Int.reduceEq, Int.reduceNe, Int.reduceAdd, Int.reduceSub, Int.reduceToNat, Int.reduceNeg, ↓reduceIte, reduceCtorEq]
       refine QLoop_wk (n' := 8 - (k + 1)) (by omega) ⟨k + 1, by omega, rfl, rfl, rfl⟩ (Wk_obj1 (by simp [renL, ren, aset]) ?_)
       simp only [aset, hl8, renL, ren, upTo, show (0 : Nat) < 1 by omega, if_true, tq]
     ·simp only [p1, p2, p3, p4, y0, k0, i0, i8, hl8, hx, hz, v2, Int.toNat_natCast, aset, lay, iaddr_node, pnode, wk3, wk, Nat.reduceAdd, Nat.reduceSub, Nat.reduceMul, Nat.reduceLeDiff, Nat.reduceEqDiff, Nat.reduceBEq, Int.reduceLE, Int.reduceLT, Int.reduceEq, Int.reduceNe, Int.reduceAdd, Int.reduceSub, Int.reduceToNat, Int.reduceNeg, ↓reduceIte, reduceCtorEq]
      refine QLoop_wk (n' := 8 - (k + 1)) (by omega) ⟨k + 1, by omega, rfl, rfl, rfl⟩ (Wk_obj1 (by simp [renL, ren, aset]) ?_)
      simp only [aset, hl8, renL, ren, upTo, show (0 : Nat) < 1 by omega, if_true, tq]
  ·simp only [p1, y0, k0, i0, i8, hl8, hx, hz, v2, Int.toNat_natCast, aset, lay, iaddr_node, pnode, wk3, wk, Nat.reduceAdd, Nat.reduceSub, Nat.reduceMul, Nat.reduceLeDiff, Nat.reduceEqDiff, Nat.reduceBEq, Int.reduceLE, Int.reduceLT, Int.reduceEq, Int.reduceNe, Int.reduceAdd, Int.reduceSub, Int.reduceToNat, Int.reduceNeg, ↓reduceIte, reduceCtorEq]
   refine QLoop_wk (n' := 8 - (k + 1)) (by omega) ⟨k + 1, by omega, rfl, rfl, rfl⟩ (Wk_obj1 (by simp [renL, ren, aset]) ?_)
   simp only [aset, hl8, renL, ren, upTo, show (0 : Nat) < 1 by omega, if_true, tq]
 ·simp only [y0, hl8, aset, lay, iaddr_node, pnode, wk3, wk, Nat.reduceAdd, Nat.reduceSub, Nat.reduceMul, Nat.reduceLeDiff, Nat.reduceEqDiff, Nat.reduceBEq, Int.reduceLE, Int.reduceLT, Int.reduceEq, Int.reduceNe, Int.reduceAdd, Int.reduceSub, Int.reduceToNat, Int.reduceNeg, ↓reduceIte, reduceCtorEq]
theorem twin160 (s : List Node) (hw : Wf s) (i : Nat) (hi : 1 ≤ i ∧ i < 8) (hk : (s.getD i default).kind ≠ 0) (H : AH) : C Tryz.prog 160 [.agg [aset s], .int .i64 i] H (fun y H' => y = .bool false ∧ H' = H) :=
 C_flat (K0 := fun x _ => x = .bool false) (twin160_0 s hw i hi hk) (by rintro x _ rfl; exact ⟨rfl, rfl, rfl⟩)
end Go.Proofs.YtemjlopoffjmpaaGreat.Abs
set_option linter.unusedSimpArgs false
set_option linter.unusedVariables false
namespace Go.Proofs.YtemjlopoffjmpaaGreat.Abs
open Go Go.Proofs
theorem pigeon : ∀ (n : Nat) (f : Nat → Nat), (∀ i, i ≤ n → f i < n) → ∃ a b, a < b ∧ b ≤ n ∧ f a = f b
 | 0, f, h => absurd (h 0 (Nat.le_refl 0)) (Nat.not_lt_zero _)
 | n + 1, f, h => by
   by_cases e : ∃ a, a ≤ n ∧ f a = f (n + 1)
   ·obtain ⟨a, ha, e⟩ := e
    exact ⟨a, n + 1, by omega, Nat.le_refl _, e⟩
   ·have hne : ∀ a, a ≤ n → f a ≠ f (n + 1) := fun a ha e2 => e ⟨a, ha, e2⟩
    obtain ⟨a, b, hab, hb, hf⟩ := pigeon n (fun i => if f i = n then f (n + 1) else f i) (fun i hi => by
     have h1 := h i (by omega)
     have h2 := h (n + 1) (Nat.le_refl _)
     have h3 := hne i hi
     show (if f i = n then f (n + 1) else f i) < n
     split <;> omega)
    refine ⟨a, b, hab, by omega, ?_⟩
    have h1 := hne a (by omega)
    have h2 := hne b hb
    split at hf <;> split at hf <;> omega
structure SetB (l : List Dset) (k : Nat) : Prop where
 id : 1 ≤ (l.getD k default).id ∧ (l.getD k default).id ≤ 65535
 sorted : k = 0 ∨ (l.getD (k - 1) default).id < (l.getD k default).id
 files : Wf (l.getD k default).files
 quota : 0 ≤ (l.getD k default).quota ∧ (l.getD k default).quota ≤ 255
 kinds : (l.getD k default).kind = 1 ∨ (l.getD k default).kind = 2
 snap : (l.getD k default).kind = 2 → (l.getD k default).quota = 0 ∧ ∃ o, getA l (l.getD k default).origin = some o ∧ o.kind = 1
 live : (l.getD k default).kind = 1 → (l.getD k default).origin = 0 ∨ ∃ o, getA l (l.getD k default).origin = some o ∧ o.kind = 2
theorem MayL.setB {l : List Dset} (h : MayL l) {k : Nat} (hk : k < l.length) : SetB l k := by
 have hm := h.each _ (dgetD_mem hk)
 refine ⟨hm.id, ?_, hm.files, hm.quota, hm.kinds, fun e => ?_, fun e => ?_⟩
 ·rcases Nat.eq_zero_or_pos k with e | e
  ·exact .inl e
  ·exact .inr (h.lt (by omega) hk)
 ·obtain ⟨h1, o, ho, hi, hk⟩ := hm.snap e
  exact ⟨h1, o, by rw [← hi]; exact h.find ho, hk⟩
 ·rcases hm.live e with h1 | ⟨o, ho, hi, hk⟩
  ·exact .inl h1
  ·exact .inr ⟨o, by rw [← hi]; exact h.find ho, hk⟩
section
variable {l : List Dset} (hB : ∀ k, k < l.length → SetB l k)
include hB
theorem lt_ofB : ∀ (j i : Nat), i < j → j < l.length → (l.getD i default).id < (l.getD j default).id
 | 0, i, hi, _ => by omega
 | j + 1, i, hi, hj => by
   have h1 : (l.getD j default).id < (l.getD (j + 1) default).id := by
    rcases (hB (j + 1) hj).sorted with e | e
    ·omega
    ·exact e
   rcases Nat.lt_or_ge i j with h2 | h2
   ·have := lt_ofB j i h2 (by omega); omega
   ·have : i = j := by omega
    subst this; exact h1
theorem inj_ofB {i j : Nat} (hi : i < l.length) (hj : j < l.length) (e : (l.getD i default).id = (l.getD j default).id) : i = j := by
 rcases Nat.lt_trichotomy i j with hh | hh | hh
 ·have := lt_ofB hB j i hh hj; omega
 ·exact hh
 ·have := lt_ofB hB i j hh hi; omega
theorem find_ofB {d : Dset} (hd : d ∈ l) : getA l d.id = some d := by
 obtain ⟨i, hi, rfl⟩ := mem_dgetD hd
 rcases find_of (l := l) (i := (l.getD i default).id) with ⟨e, hn⟩ | ⟨k, e, hk, hid, _⟩
 ·exact absurd rfl (hn i hi)
 ·have hg : getA l (l.getD i default).id = some (l.getD k default) := by unfold getA; rw [e, if_pos (by omega), Int.toNat_natCast]
  rw [hg, inj_ofB hB hk hi hid]
theorem id_ofB {d : Dset} (hd : d ∈ l) : 1 ≤ d.id := by
 obtain ⟨i, hi, rfl⟩ := mem_dgetD hd
 exact (hB i hi).id.1
theorem zero_step : stepD l ⟨0, 0, 0, 0, []⟩ = ⟨0, 0, 0, 0, []⟩ := by
 unfold stepD
 rw [show (⟨0, 0, 0, 0, []⟩ : Dset).origin = 0 from rfl, getA_none fun d hd e => by have := id_ofB hB hd; omega]
 rfl
theorem zero_iter : ∀ m, iterD l m ⟨0, 0, 0, 0, []⟩ = ⟨0, 0, 0, 0, []⟩
 | 0 => rfl
 | m + 1 => by
   show iterD l m (stepD l _) = _
   rw [zero_step hB]; exact zero_iter m
omit hB in
theorem step_in (d : Dset) : stepD l d = ⟨0, 0, 0, 0, []⟩ ∨ (stepD l d ∈ l ∧ (stepD l d).id = d.origin) := by
 unfold stepD
 cases hg : getA l d.origin with
 | none => exact .inl rfl
 | some o => exact .inr (getA_mem hg)
omit hB in
theorem iter_in {d : Dset} (hd : d ∈ l) : ∀ m, iterD l m d = ⟨0, 0, 0, 0, []⟩ ∨ iterD l m d ∈ l
 | 0 => .inr hd
 | m + 1 => by
   rw [iterD_succ]
   rcases step_in (l := l) (iterD l m d) with h | h
   ·exact .inl h
   ·exact .inr h.1
theorem iter_zero {d : Dset} (hd : d ∈ l) {m : Nat} (h : (iterD l m d).id = 0) : ∀ n, m ≤ n → (iterD l n d).id = 0 := by
 have hz : iterD l m d = ⟨0, 0, 0, 0, []⟩ := by
  rcases iter_in hd m with e | e
  ·exact e
  ·have := id_ofB hB e; omega
 intro n hn
 induction n with
 | zero => have : m = 0 := by omega
           subst this; exact h
 | succ n ih =>
   rcases Nat.lt_or_ge m (n + 1) with h1 | h1
   ·have h2 := ih (by omega)
    rw [iterD_succ]
    have : iterD l n d = ⟨0, 0, 0, 0, []⟩ := by
     rcases iter_in hd n with e | e
     ·exact e
     ·have := id_ofB hB e; omega
    rw [this, zero_step hB]
   ·have : m = n + 1 := by omega
    subst this; exact h
theorem mayL_of (h8 : l.length ≤ 8) (N : Nat) (hout : ∀ d ∈ l, (iterD l N d).id = 0) : MayL l := by
 refine ⟨h8, ?_, fun d hd => ?_, ?_⟩
 ·rw [List.pairwise_iff_getElem]
  intro i j hi hj hij
  have := lt_ofB hB j i hij hj
  rw [List.getD_eq_getElem?_getD, List.getElem?_eq_getElem hi, List.getD_eq_getElem?_getD, List.getElem?_eq_getElem hj] at this
  exact this
 ·obtain ⟨k, hk, rfl⟩ := mem_dgetD hd
  have b := hB k hk
  refine ⟨b.id, b.quota, b.files, b.kinds, fun e => ?_, fun e => ?_⟩
  ·obtain ⟨h1, o, ho, hok⟩ := b.snap e
   exact ⟨h1, o, (getA_mem ho).1, (getA_mem ho).2, hok⟩
  ·rcases b.live e with h1 | ⟨o, ho, hok⟩
   ·exact .inl h1
   ·exact .inr ⟨o, (getA_mem ho).1, (getA_mem ho).2, hok⟩
 ·refine ⟨fun i => match getA l i with | some d => (List.range N).countP fun m => decide ((iterD l m d).id ≠ 0) | none => 0, fun d hd o ho e => ?_⟩
  simp only
  rw [find_ofB hB hd, find_ofB hB ho]
  simp only
  have hs : stepD l d = o := by
   unfold stepD
   rw [← e, find_ofB hB ho]; rfl
  have h1 : (List.range (N + 1)).countP (fun m => decide ((iterD l m d).id ≠ 0)) = (List.range N).countP (fun m => decide ((iterD l m d).id ≠ 0)) := by
   rw [List.range_succ, List.countP_append]
   have := hout d hd
   simp [this]
  have h2 : (List.range (N + 1)).countP (fun m => decide ((iterD l m d).id ≠ 0)) = (List.range N).countP (fun m => decide ((iterD l m o).id ≠ 0)) + 1 := by
   rw [List.range_succ_eq_map, List.countP_cons, List.countP_map]
   have hd0 : (iterD l 0 d).id ≠ 0 := by have := id_ofB hB hd; show d.id ≠ 0; omega
   rw [if_pos (by simpa using hd0)]
   congr 1
   apply List.countP_congr
   intro m _
   show decide ((iterD l m (stepD l d)).id ≠ 0) = true ↔ _
   rw [hs]
  omega
end
def roundB (l : List Dset) (i : Int) : Nat → Int → Bool
 | 0, _ => false
 | n + 1, a => match getA l a with
   | none => false
   | some o => if o.origin = i then true else roundB l i n o.origin
theorem MayL.noRound {l : List Dset} (h : MayL l) {d : Dset} (hd : d ∈ l) : ∀ n, roundB l d.id n d.id = false := by
 obtain ⟨r, hr⟩ := h.tree
 have g : ∀ n a, (∀ o, getA l a = some o → r a ≤ r d.id) → roundB l d.id n a = false := by
  intro n
  induction n with
  | zero => intro a _; rfl
  | succ n ih =>
    intro a ha
    unfold roundB
    cases hg : getA l a with
    | none => rfl
    | some o =>
      obtain ⟨ho, hoi⟩ := getA_mem hg
      have h1 := ha o hg
      simp only
      have hne : ¬ o.origin = d.id := fun e => by
       have := hr o ho d hd e.symm
       rw [hoi] at this; omega
      rw [if_neg hne]
      refine ih _ fun o' hg' => ?_
      obtain ⟨ho', hoi'⟩ := getA_mem hg'
      have := hr o ho o' ho' hoi'
      rw [hoi, hoi'] at this; omega
 exact fun n => g n d.id fun o hg => Nat.le_refl _
theorem round_hit {l : List Dset} (hB : ∀ k, k < l.length → SetB l k) {i : Int} (hi : i ≠ 0) : ∀ (n : Nat) (e : Dset) (a : Int), getA l a = some e → (∃ p, 1 ≤ p ∧ p ≤ n ∧ (iterD l p e).id = i) → roundB l i n a = true
 | 0, e, a, _, ⟨p, h1, h2, _⟩ => by omega
 | n + 1, e, a, hg, ⟨p, h1, h2, h3⟩ => by
   unfold roundB
   rw [hg]
   simp only
   by_cases h4 : e.origin = i
   ·rw [if_pos h4]
   ·rw [if_neg h4]
    obtain ⟨q, rfl⟩ : ∃ q, p = q + 1 := ⟨p - 1, by omega⟩
    have h5 : (iterD l q (stepD l e)).id = i := h3
    unfold stepD at h5
    cases hg2 : getA l e.origin with
    | none =>
      rw [hg2] at h5
      rw [show (Option.none : Option Dset).getD ⟨0, 0, 0, 0, []⟩ = ⟨0, 0, 0, 0, []⟩ from rfl, zero_iter hB] at h5
      exact absurd h5.symm hi
    | some e' =>
      rw [hg2] at h5
      refine round_hit hB hi n e' e.origin hg2 ⟨q, ?_, by omega, h5⟩
      rcases Nat.eq_zero_or_pos q with h6 | h6
      ·subst h6
       exact absurd ((getA_mem hg2).2.symm.trans h5) h4
      ·exact h6
theorem iterD_add (l : List Dset) : ∀ (a b : Nat) (d : Dset), iterD l (a + b) d = iterD l b (iterD l a d)
 | 0, b, d => by rw [Nat.zero_add]; rfl
 | a + 1, b, d => by rw [show a + 1 + b = (a + b) + 1 by omega]; exact iterD_add l a b _
theorem iterD_comm (l : List Dset) (p : Nat) (d : Dset) : iterD l p (stepD l d) = stepD l (iterD l p d) := iterD_succ l p d
theorem out_ofB {l : List Dset} (hB : ∀ k, k < l.length → SetB l k) (hr : ∀ d ∈ l, d.kind = 1 → d.origin ≠ 0 → roundB l d.id l.length d.id = false) : ∀ d ∈ l, (iterD l l.length d).id = 0 := by
 intro d hd
 apply Classical.byContradiction
 intro hne
 have hin : ∀ m, m ≤ l.length → iterD l m d ∈ l := fun m hm => by
  rcases iter_in hd m with e | e
  ·exact absurd (iter_zero hB hd (m := m) (by rw [e]) _ hm) hne
  ·exact e
 have hidx : ∀ m, ∃ k, m ≤ l.length → k < l.length ∧ l.getD k default = iterD l m d := fun m => by
  by_cases hm : m ≤ l.length
  ·obtain ⟨k, hk, e⟩ := mem_dgetD (hin m hm)
   exact ⟨k, fun _ => ⟨hk, e⟩⟩
  ·exact ⟨0, fun h => absurd h hm⟩
 obtain ⟨f, hf⟩ := Classical.axiomOfChoice hidx
 obtain ⟨a, b, hab, hb, hfe⟩ := pigeon l.length f fun i hi => (hf i hi).1
 have hcyc : iterD l a d = iterD l b d := by rw [← (hf a (by omega)).2, ← (hf b hb).2, hfe]
 have hmem := hin a (by omega)
 have hper : iterD l (b - a) (iterD l a d) = iterD l a d := by
  rw [← iterD_add, show a + (b - a) = b by omega]; exact hcyc.symm
 have key : ∀ e ∈ l, iterD l (b - a) e = e → e.kind = 1 → False := by
  intro e he hpe hk
  have he0 : e.origin ≠ 0 := fun h0 => by
   have h1 : stepD l e = ⟨0, 0, 0, 0, []⟩ := by
    unfold stepD
    rw [h0, getA_none fun x hx q => by have := id_ofB hB hx; omega]; rfl
   obtain ⟨q, hq⟩ : ∃ q, b - a = q + 1 := ⟨b - a - 1, by omega⟩
   rw [hq] at hpe
   have h2 : iterD l q (stepD l e) = e := hpe
   rw [h1, zero_iter hB] at h2
   have := id_ofB hB he
   rw [← h2] at this
   exact absurd this (by decide)
  have h3 := hr e he hk he0
  rw [round_hit hB (by have := id_ofB hB he; omega) l.length e e.id (find_ofB hB he) ⟨b - a, by omega, by omega, by rw [hpe]⟩] at h3
  cases h3
 obtain ⟨k, hk, hke⟩ := mem_dgetD hmem
 have bk := hB k hk
 rcases bk.kinds with h1 | h1
 ·rw [hke] at h1; exact key _ hmem hper h1
 ·obtain ⟨_, o, ho, hok⟩ := bk.snap h1
  rw [hke] at ho
  have hs : stepD l (iterD l a d) = o := by unfold stepD; rw [ho]; rfl
  refine key o (getA_mem ho).1 ?_ hok
  rw [← hs, iterD_comm, hper]
end Go.Proofs.YtemjlopoffjmpaaGreat.Abs
set_option linter.unusedSimpArgs false
set_option linter.unusedVariables false
namespace Go.Proofs.YtemjlopoffjmpaaGreat.Abs
open Go Go.Proofs
theorem drop_map1 (s : List Node) : List.drop 1 (s.map pnode) = (s.drop 1).map pnode := by rw [List.map_drop]
theorem drop_getD (s : List Node) (i : Nat) : (s.drop 1).getD i default = s.getD (i + 1) default := by
 rw [List.getD_eq_getElem?_getD, List.getElem?_drop, List.getD_eq_getElem?_getD, Nat.add_comm]
theorem rows5N (s : List Node) : (s.map pnode).all (fun e => decide (e.length = 5)) = true := by
 rw [List.all_eq_true]
 intro e he
 obtain ⟨x, _, rfl⟩ := List.mem_map.1 he
 rfl
theorem row131_0 (s : List Node) (hw : Wf s) : C Tryz.prog 131 [.agg [aset s]] [] (fun y _ => y = .bool true) := by
 refine C_body d131 rfl ?_
 delta c131 I0 I1 I2 I3 I4 I5 I6 I7 I8 I9 KI
 have hlen := hw.len
 have hl8 : (s.length : Int) = 8 := by omega
 have htop := hw.top
 have htk : List.take s.length (s.map pnode) = s.map pnode := List.take_of_length_le (by simp)
 have hdl : ((s.drop 1).length : Int) = 7 := by rw [List.length_drop]; omega
 refine W_stp ?_
 simp only [aset, lay, wk5, wk4, wk3, wk, iaddrV_map, Nat.reduceAdd, Nat.reduceSub, Nat.reduceMul, Nat.reduceLeDiff, Nat.reduceEqDiff, Nat.reduceBEq, Int.reduceLE, Int.reduceLT, Int.reduceEq, Int.reduceNe, Int.reduceAdd, Int.reduceSub, Int.reduceToNat, Int.reduceNeg, ↓reduceIte, reduceCtorEq]
 refine QStp_go (W_stp ?_)
 simp only [hl8, htop, eqCells5, iaddr_node, pnode, lay, wk5, wk4, wk3, wk, iaddrV_map, Nat.reduceAdd, Nat.reduceSub, Nat.reduceMul, Nat.reduceLeDiff, Nat.reduceEqDiff, Nat.reduceBEq, Int.reduceLE, Int.reduceLT, Int.reduceEq, Int.reduceNe, Int.reduceAdd, Int.reduceSub, Int.reduceToNat, Int.reduceNeg, ↓reduceIte, reduceCtorEq]
 refine QStp_go (W_cut (fun fr H => H = [some [[aset s]]] ∧ fr = [.top, .ptr 0 0 0 1, .bool false] ++ List.replicate 61 .top) ?_ ?_)
 ·simp only [hl8, drop_map1, rows5N, lay, wk5, wk4, wk3, wk, iaddrV_map, Nat.reduceAdd, Nat.reduceSub, Nat.reduceMul, Nat.reduceLeDiff, Nat.reduceEqDiff, Nat.reduceBEq, Int.reduceLE, Int.reduceLT, Int.reduceEq, Int.reduceNe, Int.reduceAdd, Int.reduceSub, Int.reduceToNat, Int.reduceNeg, ↓reduceIte, reduceCtorEq]
  refine ⟨?_, ?_⟩
  ·rw [htk, drop_map1]; exact rows5N _
  rw [htk, drop_map1]
  simp only [List.length_map, hdl, lay, wk5, wk4, wk3, wk, iaddrV_map, Nat.reduceAdd, Nat.reduceSub, Nat.reduceMul, Nat.reduceLeDiff, Nat.reduceEqDiff, Nat.reduceBEq, Int.reduceLE, Int.reduceLT, Int.reduceEq, Int.reduceNe, Int.reduceAdd, Int.reduceSub, Int.reduceToNat, Int.reduceNeg, ↓reduceIte, reduceCtorEq]
  refine WT_loop (W_wk (fr' := [.top, .ptr 0 0 0 1, .bool false] ++ List.replicate 18 .top ++ [.fz ((s.drop 1).map pnode), .int .i64 7, .int .i64 (0 : Nat)] ++ List.replicate 40 .top) (Wk_tops ?_) (W_loop (fun nn fr H' => ∃ k : Nat, k ≤ 7 ∧ nn = 7 - k ∧ H' = [some [[aset s]]] ∧ fr = [.top, .ptr 0 0 0 1, .bool false] ++ List.replicate 18 .top ++ [.fz ((s.drop 1).map pnode), .int .i64 7, .int .i64 k] ++ List.replicate 40 .top) 7 ⟨0, by omega, rfl, rfl, rfl⟩ ?_))
  ·simp only [aset, tp, Int.natCast_zero]
  rintro nn fr H' ⟨k, hk, rfl, rfl, rfl⟩
  refine WT_ok ?_
  have v2 : IntKind.i64.wrap ((k : Int) + 1) = (k : Int) + 1 := IntWalk.i64_in _ (by omega)
  by_cases y0 : (k : Int) < 7
  ·have k0 : (0 : Int) ≤ k := by omega
   have ho := hw.ok (k + 1) (by omega) (by omega)
   have hx := drop_getD s k
   generalize s.getD (k + 1) default = x at ho hx
   by_cases hk0 : x.kind = 0
   ·have hxz := ho.none hk0
    subst hxz
    simp only [y0, k0, hx, hdl, eqCells5, iaddr_node, pnode, v2, Int.toNat_natCast, aset, lay, wk5, wk4, wk3, wk, iaddrV_map, Nat.reduceAdd, Nat.reduceSub, Nat.reduceMul, Nat.reduceLeDiff, Nat.reduceEqDiff, Nat.reduceBEq, Int.reduceLE, Int.reduceLT, Int.reduceEq, Int.reduceNe, Int.reduceAdd, Int.reduceSub, Int.reduceToNat, Int.reduceNeg, ↓reduceIte, reduceCtorEq]
    refine QLoop_wk (n' := 7 - (k + 1)) (by omega) ⟨k + 1, by omega, rfl, rfl, rfl⟩ (Wk_obj1 (by simp [renL, ren, aset]) ?_)
    simp only [aset, renL, ren, upTo, show (0 : Nat) < 1 by omega, if_true, tq]
   ·have hA := alone158 s hw x ho hk0
    simp only [y0, k0, hx, hk0, hdl, eqCells5, iaddr_node, pnode, v2, Int.toNat_natCast, Bool.false_and, aset, lay, wk5, wk4, wk3, wk, iaddrV_map, Nat.reduceAdd, Nat.reduceSub, Nat.reduceMul, Nat.reduceLeDiff, Nat.reduceEqDiff, Nat.reduceBEq, Int.reduceLE, Int.reduceLT, Int.reduceEq, Int.reduceNe, Int.reduceAdd, Int.reduceSub, Int.reduceToNat, Int.reduceNeg, ↓reduceIte, reduceCtorEq]
    refine CT_ok (hA _) ?_
    rintro _ _ ⟨rfl, rfl⟩
    simp only [v2, lay, wk5, wk4, wk3, wk, iaddrV_map, Nat.reduceAdd, Nat.reduceSub, Nat.reduceMul, Nat.reduceLeDiff, Nat.reduceEqDiff, Nat.reduceBEq, Int.reduceLE, Int.reduceLT, Int.reduceEq, Int.reduceNe, Int.reduceAdd, Int.reduceSub, Int.reduceToNat, Int.reduceNeg, ↓reduceIte, reduceCtorEq]
    refine QLoop_wk (n' := 7 - (k + 1)) (by omega) ⟨k + 1, by omega, rfl, rfl, rfl⟩ (Wk_obj1 (by simp [renL, ren, aset]) ?_)
    simp only [aset, renL, ren, upTo, show (0 : Nat) < 1 by omega, if_true, tq]
  ·simp only [y0, lay, wk5, wk4, wk3, wk, iaddrV_map, Nat.reduceAdd, Nat.reduceSub, Nat.reduceMul, Nat.reduceLeDiff, Nat.reduceEqDiff, Nat.reduceBEq, Int.reduceLE, Int.reduceLT, Int.reduceEq, Int.reduceNe, Int.reduceAdd, Int.reduceSub, Int.reduceToNat, Int.reduceNeg, ↓reduceIte, reduceCtorEq]
   refine QCut_go ⟨rfl, rfl⟩ (Wk_tops ?_)
   simp only [aset, tp]
 rintro fr H ⟨rfl, rfl⟩
 refine W_cut (fun fr H => H = [some [[aset s]]] ∧ fr = [.top, .ptr 0 0 0 1, .bool false] ++ List.replicate 61 .top) ?_ ?_
 ·simp only [aset, hl8, lay, wk5, wk4, wk3, wk, iaddrV_map, Nat.reduceAdd, Nat.reduceSub, Nat.reduceMul, Nat.reduceLeDiff, Nat.reduceEqDiff, Nat.reduceBEq, Int.reduceLE, Int.reduceLT, Int.reduceEq, Int.reduceNe, Int.reduceAdd, Int.reduceSub, Int.reduceToNat, Int.reduceNeg, ↓reduceIte, reduceCtorEq]
  refine WT_loop (W_wk (fr' := [.top, .ptr 0 0 0 1, .bool false] ++ List.replicate 35 .top ++ [aset s, .int .i64 8, .int .i64 (0 : Nat)] ++ List.replicate 23 .top) (Wk_tops ?_) (W_loop (fun nn fr H' => ∃ k : Nat, k ≤ 8 ∧ nn = 8 - k ∧ H' = [some [[aset s]]] ∧ fr = [.top, .ptr 0 0 0 1, .bool false] ++ List.replicate 35 .top ++ [aset s, .int .i64 8, .int .i64 k] ++ List.replicate 23 .top) 8 ⟨0, by omega, rfl, rfl, rfl⟩ ?_))
  ·simp only [aset, tp, Int.natCast_zero]
  rintro nn fr H' ⟨k, hk, rfl, rfl, rfl⟩
  refine WT_ok ?_
  have v2 : IntKind.i64.wrap ((k : Int) + 1) = (k : Int) + 1 := IntWalk.i64_in _ (by omega)
  by_cases y0 : (k : Int) < 8
  ·have k0 : (0 : Int) ≤ k := by omega
   have hL := fun h => leads159 s hw k (by omega) h
   have hT := fun h1 h => twin160 s hw k ⟨h1, by omega⟩ h
   generalize hx : s.getD k default = x at hL hT
   by_cases p1 : (0 : Int) < k
   ·by_cases hk0 : x.kind = 0
    ·simp only [y0, k0, p1, hx, hk0, hl8, iaddr_node, pnode, v2, Int.toNat_natCast, aset, lay, wk5, wk4, wk3, wk, iaddrV_map, Nat.reduceAdd, Nat.reduceSub, Nat.reduceMul, Nat.reduceLeDiff, Nat.reduceEqDiff, Nat.reduceBEq, Int.reduceLE, Int.reduceLT, Int.reduceEq, Int.reduceNe, Int.reduceAdd, Int.reduceSub, Int.reduceToNat, Int.reduceNeg, ↓reduceIte, reduceCtorEq]
     refine QLoop_wk (n' := 8 - (k + 1)) (by omega) ⟨k + 1, by omega, rfl, rfl, rfl⟩ (Wk_obj1 (by simp [renL, ren, aset]) ?_)
     simp only [aset, renL, ren, upTo, show (0 : Nat) < 1 by omega, if_true, tq]
    ·simp only [y0, k0, p1, hx, hk0, hl8, iaddr_node, pnode, v2, Int.toNat_natCast, aset, lay, wk5, wk4, wk3, wk, iaddrV_map, Nat.reduceAdd, Nat.reduceSub, Nat.reduceMul, Nat.reduceLeDiff, Nat.reduceEqDiff, Nat.reduceBEq, Int.reduceLE, Int.reduceLT, Int.reduceEq, Int.reduceNe, Int.reduceAdd, Int.reduceSub, Int.reduceToNat, Int.reduceNeg, ↓reduceIte, reduceCtorEq]
     refine CT_ok (hL hk0 _) ?_
     rintro _ _ ⟨rfl, rfl⟩
     simp only [p1, lay, wk5, wk4, wk3, wk, iaddrV_map, Nat.reduceAdd, Nat.reduceSub, Nat.reduceMul, Nat.reduceLeDiff, Nat.reduceEqDiff, Nat.reduceBEq, Int.reduceLE, Int.reduceLT, Int.reduceEq, Int.reduceNe, Int.reduceAdd, Int.reduceSub, Int.reduceToNat, Int.reduceNeg, ↓reduceIte, reduceCtorEq]
     refine CT_ok (hT (by omega) hk0 _) ?_
     rintro _ _ ⟨rfl, rfl⟩
     simp only [v2, lay, wk5, wk4, wk3, wk, iaddrV_map, Nat.reduceAdd, Nat.reduceSub, Nat.reduceMul, Nat.reduceLeDiff, Nat.reduceEqDiff, Nat.reduceBEq, Int.reduceLE, Int.reduceLT, Int.reduceEq, Int.reduceNe, Int.reduceAdd, Int.reduceSub, Int.reduceToNat, Int.reduceNeg, ↓reduceIte, reduceCtorEq]
     refine QLoop_wk (n' := 8 - (k + 1)) (by omega) ⟨k + 1, by omega, rfl, rfl, rfl⟩ (Wk_obj1 (by simp [renL, ren, aset]) ?_)
     simp only [aset, renL, ren, upTo, show (0 : Nat) < 1 by omega, if_true, tq]
   ·simp only [y0, k0, p1, hx, hl8, iaddr_node, pnode, v2, Int.toNat_natCast, aset, lay, wk5, wk4, wk3, wk, iaddrV_map, Nat.reduceAdd, Nat.reduceSub, Nat.reduceMul, Nat.reduceLeDiff, Nat.reduceEqDiff, Nat.reduceBEq, Int.reduceLE, Int.reduceLT, Int.reduceEq, Int.reduceNe, Int.reduceAdd, Int.reduceSub, Int.reduceToNat, Int.reduceNeg, ↓reduceIte, reduceCtorEq]
    refine QLoop_wk (n' := 8 - (k + 1)) (by omega) ⟨k + 1, by omega, rfl, rfl, rfl⟩ (Wk_obj1 (by simp [renL, ren, aset]) ?_)
    simp only [aset, renL, ren, upTo, show (0 : Nat) < 1 by omega, if_true, tq]
  ·simp only [y0, lay, wk5, wk4, wk3, wk, iaddrV_map, Nat.reduceAdd, Nat.reduceSub, Nat.reduceMul, Nat.reduceLeDiff, Nat.reduceEqDiff, Nat.reduceBEq, Int.reduceLE, Int.reduceLT, Int.reduceEq, Int.reduceNe, Int.reduceAdd, Int.reduceSub, Int.reduceToNat, Int.reduceNeg, ↓reduceIte, reduceCtorEq]
   refine QCut_go ⟨rfl, rfl⟩ (Wk_tops ?_)
   simp only [aset, tp]
 rintro fr H ⟨rfl, rfl⟩
 refine WT_ok ?_
 simp only [lay, wk5, wk4, wk3, wk, iaddrV_map, Nat.reduceAdd, Nat.reduceSub, Nat.reduceMul, Nat.reduceLeDiff, Nat.reduceEqDiff, Nat.reduceBEq, Int.reduceLE, Int.reduceLT, Int.reduceEq, Int.reduceNe, Int.reduceAdd, Int.reduceSub, Int.reduceToNat, Int.reduceNeg, ↓reduceIte, reduceCtorEq]
theorem row131 (s : List Node) (hw : Wf s) (H : AH) : C Tryz.prog 131 [.agg [aset s]] H (fun x H' => x = .bool true ∧ H' = H) :=
 C_flat (K0 := fun x _ => x = .bool true) (row131_0 s hw) (by rintro x _ rfl; exact ⟨rfl, rfl, rfl⟩)
theorem row131_nil0 : C Tryz.prog 131 [.agg [.fz []]] [] (fun y _ => y = .bool false) := by
 have h08 : ¬ ((0 : Nat) : Int) = 8 := by decide
 refine C_body d131 rfl (WT_ok ?_)
 delta c131 I0 I1 I2 I3 I4 I5 I6 I7 I8 I9 KI
 simp only [h08, lay, wk5, wk4, wk3, wk, iaddrV_map, Nat.reduceAdd, Nat.reduceSub, Nat.reduceMul, Nat.reduceLeDiff, Nat.reduceEqDiff, Nat.reduceBEq, Int.reduceLE, Int.reduceLT, Int.reduceEq, Int.reduceNe, Int.reduceAdd, Int.reduceSub, Int.reduceToNat, Int.reduceNeg, ↓reduceIte, reduceCtorEq]
theorem row131_nil (H : AH) : C Tryz.prog 131 [.agg [.fz []]] H (fun x H' => x = .bool false ∧ H' = H) :=
 C_flat (K0 := fun x _ => x = .bool false) row131_nil0 (by rintro x _ rfl; exact ⟨rfl, rfl, rfl⟩)
theorem may105_0 (s : List Node) (hw : Wf s) : C Tryz.prog 105 [aset s] [] (fun y _ => y = .bool true) := by
 refine C_body d105 rfl (WT_ok ?_)
 delta c105 I0 I1 I2 I3 I4 I5 I6 I7 I8 I9 KI
 simp only [aset, lay, wk5, wk4, wk3, wk, iaddrV_map, Nat.reduceAdd, Nat.reduceSub, Nat.reduceMul, Nat.reduceLeDiff, Nat.reduceEqDiff, Nat.reduceBEq, Int.reduceLE, Int.reduceLT, Int.reduceEq, Int.reduceNe, Int.reduceAdd, Int.reduceSub, Int.reduceToNat, Int.reduceNeg, ↓reduceIte, reduceCtorEq]
 refine CT_ok (row131 s hw _) ?_
 rintro _ _ ⟨rfl, rfl⟩
 simp only [lay, wk5, wk4, wk3, wk, iaddrV_map, Nat.reduceAdd, Nat.reduceSub, Nat.reduceMul, Nat.reduceLeDiff, Nat.reduceEqDiff, Nat.reduceBEq, Int.reduceLE, Int.reduceLT, Int.reduceEq, Int.reduceNe, Int.reduceAdd, Int.reduceSub, Int.reduceToNat, Int.reduceNeg, ↓reduceIte, reduceCtorEq]
theorem may105 (s : List Node) (hw : Wf s) (H : AH) : C Tryz.prog 105 [aset s] H (fun x H' => x = .bool true ∧ H' = H) :=
 C_flat (K0 := fun x _ => x = .bool true) (may105_0 s hw) (by rintro x _ rfl; exact ⟨rfl, rfl, rfl⟩)
theorem may105n0 : C Tryz.prog 105 [.fz []] [] (fun y _ => y = .bool false) := by
 refine C_body d105 rfl (WT_ok ?_)
 delta c105 I0 I1 I2 I3 I4 I5 I6 I7 I8 I9 KI
 simp only [lay, wk5, wk4, wk3, wk, iaddrV_map, Nat.reduceAdd, Nat.reduceSub, Nat.reduceMul, Nat.reduceLeDiff, Nat.reduceEqDiff, Nat.reduceBEq, Int.reduceLE, Int.reduceLT, Int.reduceEq, Int.reduceNe, Int.reduceAdd, Int.reduceSub, Int.reduceToNat, Int.reduceNeg, ↓reduceIte, reduceCtorEq]
 refine CT_ok (row131_nil _) ?_
 rintro _ _ ⟨rfl, rfl⟩
 simp only [lay, wk5, wk4, wk3, wk, iaddrV_map, Nat.reduceAdd, Nat.reduceSub, Nat.reduceMul, Nat.reduceLeDiff, Nat.reduceEqDiff, Nat.reduceBEq, Int.reduceLE, Int.reduceLT, Int.reduceEq, Int.reduceNe, Int.reduceAdd, Int.reduceSub, Int.reduceToNat, Int.reduceNeg, ↓reduceIte, reduceCtorEq]
theorem may105n (H : AH) : C Tryz.prog 105 [aset []] H (fun x H' => x = .bool false ∧ H' = H) :=
 C_flat (K0 := fun x _ => x = .bool false) may105n0 (by rintro x _ rfl; exact ⟨rfl, rfl, rfl⟩)
theorem index101F (l : List Dset) (hl : l.length ≤ 1000000) (R : AH) (g : FuncId) (cap : List AV) (p : Dset → Bool)
 (hf : ∀ d, C Tryz.prog g (AV.agg (cellD d) :: cap) R (fun x H' => x = .bool (p d) ∧ H' = R)) :
 C Tryz.prog 101 [asets l, .fn (.func g) [] cap] R (fun x H' => x = .int .i64 (idxA p l) ∧ H' = R) := by
 refine C_body d101 rfl (WT_ok ?_)
 delta c101 I0 I1 I2 I3 I4 I5 I6 I7 I8 I9 KI
 simp only [asets, lay, wk5, wk4, wk3, wk, iaddrV_map, Nat.reduceAdd, Nat.reduceSub, Nat.reduceMul, Nat.reduceLeDiff, Nat.reduceEqDiff, Nat.reduceBEq, Int.reduceLE, Int.reduceLT, Int.reduceEq, Int.reduceNe, Int.reduceAdd, Int.reduceSub, Int.reduceToNat, Int.reduceNeg, ↓reduceIte, reduceCtorEq]
 refine WT_loop (W_wk (fr' := [asets l, .fn (.func g) [] cap, .top, .top, .int .i64 0, .top, asets l, .int .i64 l.length, .int .i64 (0 : Nat)] ++ List.replicate 10 .top) (Wk_tops ?_) (W_loop (fun n fr H' => ∃ k : Nat, k ≤ l.length ∧ n = l.length - k ∧ (∀ j, j < k → p (l.getD j default) = false) ∧ H' = R ∧ fr = [asets l, .fn (.func g) [] cap, .top, .top, .int .i64 0, .top, asets l, .int .i64 l.length, .int .i64 k] ++ List.replicate 10 .top) l.length ⟨0, by omega, rfl, fun j hj => by omega, rfl, rfl⟩ ?_))
 ·simp only [asets, tp, Int.natCast_zero]
 rintro n fr H' ⟨k, hk, rfl, hne, rfl, rfl⟩
 refine WT_ok ?_
 simp only [asets, lay, wk5, wk4, wk3, wk, iaddrV_map, Nat.reduceAdd, Nat.reduceSub, Nat.reduceMul, Nat.reduceLeDiff, Nat.reduceEqDiff, Nat.reduceBEq, Int.reduceLE, Int.reduceLT, Int.reduceEq, Int.reduceNe, Int.reduceAdd, Int.reduceSub, Int.reduceToNat, Int.reduceNeg, ↓reduceIte, reduceCtorEq]
 by_cases h : (k : Int) < l.length
 ·have hk2 : k < l.length := by omega
  have w2 : IntKind.i64.wrap ((k : Int) + 1) = (k : Int) + 1 := IntWalk.i64_in _ (by omega)
  have h0 : (0 : Int) ≤ k := by omega
  have e6' : ∀ x, (pdset x).length = 5 := fun _ => rfl
  have hfk := hf (l.getD k default)
  have hi := fun h1 h2 => idxA_some hk2 h1 h2 (p := p)
  generalize hd : l.getD k default = d at hfk hi
  have hcd : (pdset d).map emb = cellD d := rfl
  have hcd2 : (cellD d).take 5 = cellD d := rfl
  simp only [h, h0, e6', hd, iaddr_dset, Int.toNat_natCast, lay, wk5, wk4, wk3, wk, iaddrV_map, Nat.reduceAdd, Nat.reduceSub, Nat.reduceMul, Nat.reduceLeDiff, Nat.reduceEqDiff, Nat.reduceBEq, Int.reduceLE, Int.reduceLT, Int.reduceEq, Int.reduceNe, Int.reduceAdd, Int.reduceSub, Int.reduceToNat, Int.reduceNeg, ↓reduceIte, reduceCtorEq]
  simp only [hcd, hcd2, pdset, h, h0, hd, iaddr_dset, Int.toNat_natCast, lay, wk5, wk4, wk3, wk, iaddrV_map, Nat.reduceAdd, Nat.reduceSub, Nat.reduceMul, Nat.reduceLeDiff, Nat.reduceEqDiff, Nat.reduceBEq, Int.reduceLE, Int.reduceLT, Int.reduceEq, Int.reduceNe, Int.reduceAdd, Int.reduceSub, Int.reduceToNat, Int.reduceNeg, ↓reduceIte, reduceCtorEq]
  refine ⟨_, _, _, rfl, hfk.mono ?_⟩
  rintro _ _ ⟨rfl, rfl⟩
  cases hp : p d
  ·simp only [w2, lay, wk5, wk4, wk3, wk, iaddrV_map, Nat.reduceAdd, Nat.reduceSub, Nat.reduceMul, Nat.reduceLeDiff, Nat.reduceEqDiff, Nat.reduceBEq, Int.reduceLE, Int.reduceLT, Int.reduceEq, Int.reduceNe, Int.reduceAdd, Int.reduceSub, Int.reduceToNat, Int.reduceNeg, ↓reduceIte, reduceCtorEq]
   refine QLoop_go (n' := l.length - (k + 1)) (by omega) ⟨k + 1, by omega, rfl, fun j hj => ?_, rfl, rfl⟩ ?_
   ·rcases Nat.lt_or_ge j k with h' | h'
    ·exact hne j h'
    ·have : j = k := by omega
     subst this; rw [hd]; exact hp
   ·simp only [asets, tq]
  ·simp only [lay, wk5, wk4, wk3, wk, iaddrV_map, Nat.reduceAdd, Nat.reduceSub, Nat.reduceMul, Nat.reduceLeDiff, Nat.reduceEqDiff, Nat.reduceBEq, Int.reduceLE, Int.reduceLT, Int.reduceEq, Int.reduceNe, Int.reduceAdd, Int.reduceSub, Int.reduceToNat, Int.reduceNeg, ↓reduceIte, reduceCtorEq]
   rw [hi hp hne]
 ·simp only [h, lay, wk5, wk4, wk3, wk, iaddrV_map, Nat.reduceAdd, Nat.reduceSub, Nat.reduceMul, Nat.reduceLeDiff, Nat.reduceEqDiff, Nat.reduceBEq, Int.reduceLE, Int.reduceLT, Int.reduceEq, Int.reduceNe, Int.reduceAdd, Int.reduceSub, Int.reduceToNat, Int.reduceNeg, ↓reduceIte, reduceCtorEq]
  rw [idxA_none fun j hj => hne j (by omega)]
end Go.Proofs.YtemjlopoffjmpaaGreat.Abs
set_option linter.unusedSimpArgs false
set_option linter.unusedVariables false
namespace Go.Proofs.YtemjlopoffjmpaaGreat.Abs
open Go Go.Proofs
theorem isId102 (d : Dset) (i : Int) : C Tryz.prog 102 [.agg (cellD d), .ptr 0 0 0 1] [some [[.int .i64 i]]] (fun x H' => x = .bool (decide (d.id = i)) ∧ H' = [some [[.int .i64 i]]]) := isId82 d i
theorem find59F (l : List Dset) (hl : l.length ≤ 1000000) (i : Int) : C Tryz.prog 59 [asets l, .int .i64 i] [] (fun x _ => x = .int .i64 (findA l i)) := by
 refine C_body d59 rfl (WT_ok ?_)
 delta c59 I0 I1 I2 I3 I4 I5 I6 I7 I8 I9 KI
 simp only [asets, lay, wk5, wk4, wk3, wk, iaddrV_map, Nat.reduceAdd, Nat.reduceSub, Nat.reduceMul, Nat.reduceLeDiff, Nat.reduceEqDiff, Nat.reduceBEq, Int.reduceLE, Int.reduceLT, Int.reduceEq, Int.reduceNe, Int.reduceAdd, Int.reduceSub, Int.reduceToNat, Int.reduceNeg, ↓reduceIte, reduceCtorEq]
 refine CT_ok (index101F l hl [some [[.int .i64 i]]] 102 [.ptr 0 0 0 1] (fun d => decide (d.id = i)) (fun d => isId102 d i)) ?_
 rintro _ _ ⟨rfl, rfl⟩
 simp only [lay, wk5, wk4, wk3, wk, iaddrV_map, Nat.reduceAdd, Nat.reduceSub, Nat.reduceMul, Nat.reduceLeDiff, Nat.reduceEqDiff, Nat.reduceBEq, Int.reduceLE, Int.reduceLT, Int.reduceEq, Int.reduceNe, Int.reduceAdd, Int.reduceSub, Int.reduceToNat, Int.reduceNeg, ↓reduceIte, reduceCtorEq]
 rfl
theorem find59 (l : List Dset) (hl : l.length ≤ 1000000) (i : Int) (H : AH) : C Tryz.prog 59 [asets l, .int .i64 i] H (fun x H' => x = .int .i64 (findA l i) ∧ H' = H) :=
 C_flat (K0 := fun x _ => x = .int .i64 (findA l i)) (find59F l hl i) (by rintro x _ rfl; exact ⟨rfl, rfl, rfl⟩)
theorem is60 (l : List Dset) (hl : l.length ≤ 1000000) (i kind : Int) (H : AH) : C Tryz.prog 60 [asets l, .int .i64 i, .int .i64 kind] H (fun x H' => x = .bool (isA l i kind) ∧ H' = H) := by
 refine C_body d60 rfl (WT_ok ?_)
 delta c60 I0 I1 I2 I3 I4 I5 I6 I7 I8 I9 KI
 simp only [lay, wk5, wk4, wk3, wk, iaddrV_map, Nat.reduceAdd, Nat.reduceSub, Nat.reduceMul, Nat.reduceLeDiff, Nat.reduceEqDiff, Nat.reduceBEq, Int.reduceLE, Int.reduceLT, Int.reduceEq, Int.reduceNe, Int.reduceAdd, Int.reduceSub, Int.reduceToNat, Int.reduceNeg, ↓reduceIte, reduceCtorEq]
 refine CT_ok (find59 l hl i H) ?_
 rintro _ _ ⟨rfl, rfl⟩
 unfold isA
 rcases find_of (l := l) (i := i) with ⟨e, _⟩ | ⟨k, e, hk, _, _⟩
 ·simp only [e, asets, lay, Bool.false_and, wk5, wk4, wk3, wk, iaddrV_map, Nat.reduceAdd, Nat.reduceSub, Nat.reduceMul, Nat.reduceLeDiff, Nat.reduceEqDiff, Nat.reduceBEq, Int.reduceLE, Int.reduceLT, Int.reduceEq, Int.reduceNe, Int.reduceAdd, Int.reduceSub, Int.reduceToNat, Int.reduceNeg, ↓reduceIte, reduceCtorEq]
 ·have h0 : (0 : Int) ≤ k := by omega
  have h1 : (k : Int) < l.length := by omega
  have e6' : ∀ x, (pdset x).length = 5 := fun _ => rfl
  rw [e]
  simp only [h0, h1, e6', iaddr_dset, pdset, Int.toNat_natCast, asets, lay, wk5, wk4, wk3, wk, iaddrV_map, Nat.reduceAdd, Nat.reduceSub, Nat.reduceMul, Nat.reduceLeDiff, Nat.reduceEqDiff, Nat.reduceBEq, Int.reduceLE, Int.reduceLT, Int.reduceEq, Int.reduceNe, Int.reduceAdd, Int.reduceSub, Int.reduceToNat, Int.reduceNeg, ↓reduceIte, reduceCtorEq]
theorem isA_iff (l : List Dset) (i k : Int) : isA l i k = true ↔ ∃ o, getA l i = some o ∧ o.kind = k := by
 unfold isA getA
 rcases find_of (l := l) (i := i) with ⟨e, _⟩ | ⟨m, e, hm, _, _⟩
 ·rw [e]; simp
 ·rw [e, if_pos (by omega)]
  simp
theorem round106_0 (l : List Dset) (hl : l.length ≤ 1000000) (i : Int) : C Tryz.prog 106 [asets l, .int .i64 i] [] (fun x _ => x = .bool (roundB l i l.length i)) := by
 refine C_body d106 rfl (WT_ok ?_)
 delta c106 I0 I1 I2 I3 I4 I5 I6 I7 I8 I9 KI
 simp only [asets, lay, wk5, wk4, wk3, wk, iaddrV_map, Nat.reduceAdd, Nat.reduceSub, Nat.reduceMul, Nat.reduceLeDiff, Nat.reduceEqDiff, Nat.reduceBEq, Int.reduceLE, Int.reduceLT, Int.reduceEq, Int.reduceNe, Int.reduceAdd, Int.reduceSub, Int.reduceToNat, Int.reduceNeg, ↓reduceIte, reduceCtorEq]
 refine WT_loop (W_wk (fr' := [asets l, .int .i64 i, .top, .top, .bool false, .int .i64 i, .top, .top, .top, .int .i64 l.length, .int .i64 (0 : Nat)] ++ List.replicate 15 .top) (Wk_tops ?_) (W_loop (fun n fr H' => ∃ (k : Nat) (a : Int), k ≤ l.length ∧ n = l.length - k ∧ roundB l i l.length i = roundB l i (l.length - k) a ∧ H' = [] ∧ fr = [asets l, .int .i64 i, .top, .top, .bool false, .int .i64 a, .top, .top, .top, .int .i64 l.length, .int .i64 k] ++ List.replicate 15 .top) l.length ⟨0, i, by omega, rfl, rfl, rfl, rfl⟩ ?_))
 ·simp only [asets, tp, Int.natCast_zero]
 rintro n fr H' ⟨k, a, hk, rfl, hr, rfl, rfl⟩
 refine WT_ok ?_
 simp only [asets, lay, wk5, wk4, wk3, wk, iaddrV_map, Nat.reduceAdd, Nat.reduceSub, Nat.reduceMul, Nat.reduceLeDiff, Nat.reduceEqDiff, Nat.reduceBEq, Int.reduceLE, Int.reduceLT, Int.reduceEq, Int.reduceNe, Int.reduceAdd, Int.reduceSub, Int.reduceToNat, Int.reduceNeg, ↓reduceIte, reduceCtorEq]
 by_cases h : (k : Int) < l.length
 ·have hk2 : k < l.length := by omega
  have w2 : IntKind.i64.wrap ((k : Int) + 1) = (k : Int) + 1 := IntWalk.i64_in _ (by omega)
  have hsub : l.length - k = (l.length - (k + 1)) + 1 := by omega
  rw [hsub] at hr
  have hr2 : roundB l i l.length i = (match getA l a with | none => false | some o => if o.origin = i then true else roundB l i (l.length - (k + 1)) o.origin) := hr
  simp only [h, lay, wk5, wk4, wk3, wk, iaddrV_map, Nat.reduceAdd, Nat.reduceSub, Nat.reduceMul, Nat.reduceLeDiff, Nat.reduceEqDiff, Nat.reduceBEq, Int.reduceLE, Int.reduceLT, Int.reduceEq, Int.reduceNe, Int.reduceAdd, Int.reduceSub, Int.reduceToNat, Int.reduceNeg, ↓reduceIte, reduceCtorEq]
  refine CT_ok (find59 l hl a _) ?_
  rintro _ _ ⟨rfl, rfl⟩
  rcases find_of (l := l) (i := a) with ⟨e, _⟩ | ⟨m, e, hm, _, _⟩
  ·rw [getA_no e] at hr2
   rw [e, hr2]
   simp only [lay, wk5, wk4, wk3, wk, iaddrV_map, Nat.reduceAdd, Nat.reduceSub, Nat.reduceMul, Nat.reduceLeDiff, Nat.reduceEqDiff, Nat.reduceBEq, Int.reduceLE, Int.reduceLT, Int.reduceEq, Int.reduceNe, Int.reduceAdd, Int.reduceSub, Int.reduceToNat, Int.reduceNeg, ↓reduceIte, reduceCtorEq]
  ·rw [getA_of e] at hr2
   have m0 : (0 : Int) ≤ m := by omega
   have mn : ¬ (m : Int) < 0 := by omega
   have m1 : (m : Int) < l.length := by omega
   have e6' : ∀ x, (pdset x).length = 5 := fun _ => rfl
   rw [e]
   simp only at hr2
   generalize hd : l.getD m default = d at hr2
   by_cases hc : d.origin = i
   ·rw [if_pos hc] at hr2
    rw [hr2]
    simp only [m0, mn, m1, e6', hd, hc, iaddr_dset, pdset, Int.toNat_natCast, lay, wk5, wk4, wk3, wk, iaddrV_map, Nat.reduceAdd, Nat.reduceSub, Nat.reduceMul, Nat.reduceLeDiff, Nat.reduceEqDiff, Nat.reduceBEq, Int.reduceLE, Int.reduceLT, Int.reduceEq, Int.reduceNe, Int.reduceAdd, Int.reduceSub, Int.reduceToNat, Int.reduceNeg, ↓reduceIte, reduceCtorEq]
   ·rw [if_neg hc] at hr2
    simp only [m0, mn, m1, e6', hd, hc, w2, iaddr_dset, pdset, Int.toNat_natCast, lay, wk5, wk4, wk3, wk, iaddrV_map, Nat.reduceAdd, Nat.reduceSub, Nat.reduceMul, Nat.reduceLeDiff, Nat.reduceEqDiff, Nat.reduceBEq, Int.reduceLE, Int.reduceLT, Int.reduceEq, Int.reduceNe, Int.reduceAdd, Int.reduceSub, Int.reduceToNat, Int.reduceNeg, ↓reduceIte, reduceCtorEq]
    refine QLoop_go (n' := l.length - (k + 1)) (by omega) ⟨k + 1, d.origin, by omega, rfl, hr2, rfl, rfl⟩ ?_
    simp only [asets, tq]
 ·have : k = l.length := by omega
  subst this
  have hr2 : roundB l i l.length i = false := by rw [hr, Nat.sub_self]; rfl
  rw [hr2]
  simp only [h, lay, wk5, wk4, wk3, wk, iaddrV_map, Nat.reduceAdd, Nat.reduceSub, Nat.reduceMul, Nat.reduceLeDiff, Nat.reduceEqDiff, Nat.reduceBEq, Int.reduceLE, Int.reduceLT, Int.reduceEq, Int.reduceNe, Int.reduceAdd, Int.reduceSub, Int.reduceToNat, Int.reduceNeg, ↓reduceIte, reduceCtorEq]
theorem round106 (l : List Dset) (hl : l.length ≤ 1000000) (i : Int) (H : AH) : C Tryz.prog 106 [asets l, .int .i64 i] H (fun x H' => x = .bool (roundB l i l.length i) ∧ H' = H) :=
 C_flat (K0 := fun x _ => x = .bool (roundB l i l.length i)) (round106_0 l hl i) (by rintro x _ rfl; exact ⟨rfl, rfl, rfl⟩)
def MemB (l : List Dset) (d : Dset) : Prop := (1 ≤ d.id ∧ d.id ≤ 65535) ∧ Wf d.files ∧ (0 ≤ d.quota ∧ d.quota ≤ 255) ∧
 ((d.kind = 1 ∧ (d.origin = 0 ∨ (isA l d.origin 2 = true ∧ roundB l d.id l.length d.id = false))) ∨ (d.kind = 2 ∧ d.quota = 0 ∧ isA l d.origin 1 = true))
theorem member66_0 (l : List Dset) (hl : l.length ≤ 1000000) (d : Dset) (hf : Wf d.files ∨ d.files = []) : C Tryz.prog 66 [.agg (cellD d ++ [asets l])] [] (fun x _ => ∃ b : Bool, x = .bool b ∧ (b = true ↔ MemB l d)) := by
 have no : ¬ MemB l d → ∃ b : Bool, AV.bool false = .bool b ∧ (b = true ↔ MemB l d) := fun h => ⟨false, rfl, by simp [h]⟩
 have yes : MemB l d → ∃ b : Bool, AV.bool true = .bool b ∧ (b = true ↔ MemB l d) := fun h => ⟨true, rfl, by simp [h]⟩
 refine C_body d66 rfl (WT_ok ?_)
 delta c66 I0 I1 I2 I3 I4 I5 I6 I7 I8 I9 KI
 by_cases h1 : d.id < 1
 ·simp only [h1, cellD, aset, asets, lay, wk5, wk4, wk3, wk, iaddrV_map, Nat.reduceAdd, Nat.reduceSub, Nat.reduceMul, Nat.reduceLeDiff, Nat.reduceEqDiff, Nat.reduceBEq, Int.reduceLE, Int.reduceLT, Int.reduceEq, Int.reduceNe, Int.reduceAdd, Int.reduceSub, Int.reduceToNat, Int.reduceNeg, ↓reduceIte, reduceCtorEq]
  exact no fun h => by have := h.1; omega
 by_cases h2 : (65535 : Int) < d.id
 ·simp only [h1, h2, cellD, aset, asets, lay, wk5, wk4, wk3, wk, iaddrV_map, Nat.reduceAdd, Nat.reduceSub, Nat.reduceMul, Nat.reduceLeDiff, Nat.reduceEqDiff, Nat.reduceBEq, Int.reduceLE, Int.reduceLT, Int.reduceEq, Int.reduceNe, Int.reduceAdd, Int.reduceSub, Int.reduceToNat, Int.reduceNeg, ↓reduceIte, reduceCtorEq]
  exact no fun h => by have := h.1; omega
 rcases hf with hw | hz
 case inr =>
  have hn := may105n
  simp only [h1, h2, hz, cellD, aset, asets, lay, wk5, wk4, wk3, wk, iaddrV_map, Nat.reduceAdd, Nat.reduceSub, Nat.reduceMul, Nat.reduceLeDiff, Nat.reduceEqDiff, Nat.reduceBEq, Int.reduceLE, Int.reduceLT, Int.reduceEq, Int.reduceNe, Int.reduceAdd, Int.reduceSub, Int.reduceToNat, Int.reduceNeg, ↓reduceIte, reduceCtorEq]
  refine CT_ok (hn _) ?_
  rintro _ _ ⟨rfl, rfl⟩
  simp only [lay, wk5, wk4, wk3, wk, iaddrV_map, Nat.reduceAdd, Nat.reduceSub, Nat.reduceMul, Nat.reduceLeDiff, Nat.reduceEqDiff, Nat.reduceBEq, Int.reduceLE, Int.reduceLT, Int.reduceEq, Int.reduceNe, Int.reduceAdd, Int.reduceSub, Int.reduceToNat, Int.reduceNeg, ↓reduceIte, reduceCtorEq]
  exact no fun h => by have := h.2.1.len; rw [hz] at this; simp at this
 simp only [h1, h2, cellD, aset, asets, lay, wk5, wk4, wk3, wk, iaddrV_map, Nat.reduceAdd, Nat.reduceSub, Nat.reduceMul, Nat.reduceLeDiff, Nat.reduceEqDiff, Nat.reduceBEq, Int.reduceLE, Int.reduceLT, Int.reduceEq, Int.reduceNe, Int.reduceAdd, Int.reduceSub, Int.reduceToNat, Int.reduceNeg, ↓reduceIte, reduceCtorEq]
 refine CT_ok (may105 d.files hw _) ?_
 rintro _ _ ⟨rfl, rfl⟩
 by_cases h3 : d.quota < 0
 ·simp only [h3, lay, wk5, wk4, wk3, wk, iaddrV_map, Nat.reduceAdd, Nat.reduceSub, Nat.reduceMul, Nat.reduceLeDiff, Nat.reduceEqDiff, Nat.reduceBEq, Int.reduceLE, Int.reduceLT, Int.reduceEq, Int.reduceNe, Int.reduceAdd, Int.reduceSub, Int.reduceToNat, Int.reduceNeg, ↓reduceIte, reduceCtorEq]
  exact no fun h => by have := h.2.2.1; omega
 by_cases h4 : (255 : Int) < d.quota
 ·simp only [h3, h4, lay, wk5, wk4, wk3, wk, iaddrV_map, Nat.reduceAdd, Nat.reduceSub, Nat.reduceMul, Nat.reduceLeDiff, Nat.reduceEqDiff, Nat.reduceBEq, Int.reduceLE, Int.reduceLT, Int.reduceEq, Int.reduceNe, Int.reduceAdd, Int.reduceSub, Int.reduceToNat, Int.reduceNeg, ↓reduceIte, reduceCtorEq]
  exact no fun h => by have := h.2.2.1; omega
 have base : (1 ≤ d.id ∧ d.id ≤ 65535) ∧ Wf d.files ∧ (0 ≤ d.quota ∧ d.quota ≤ 255) := ⟨by omega, hw, by omega⟩
 by_cases k1 : d.kind = 1
 ·by_cases o0 : d.origin = 0
  ·simp only [h3, h4, k1, o0, lay, wk5, wk4, wk3, wk, iaddrV_map, Nat.reduceAdd, Nat.reduceSub, Nat.reduceMul, Nat.reduceLeDiff, Nat.reduceEqDiff, Nat.reduceBEq, Int.reduceLE, Int.reduceLT, Int.reduceEq, Int.reduceNe, Int.reduceAdd, Int.reduceSub, Int.reduceToNat, Int.reduceNeg, ↓reduceIte, reduceCtorEq]
   exact yes ⟨base.1, base.2.1, base.2.2, .inl ⟨k1, .inl o0⟩⟩
  ·simp only [h3, h4, k1, o0, lay, wk5, wk4, wk3, wk, iaddrV_map, Nat.reduceAdd, Nat.reduceSub, Nat.reduceMul, Nat.reduceLeDiff, Nat.reduceEqDiff, Nat.reduceBEq, Int.reduceLE, Int.reduceLT, Int.reduceEq, Int.reduceNe, Int.reduceAdd, Int.reduceSub, Int.reduceToNat, Int.reduceNeg, ↓reduceIte, reduceCtorEq]
   refine CT_ok (is60 l hl d.origin 2 _) ?_
   rintro _ _ ⟨rfl, rfl⟩
   cases hi : isA l d.origin 2
   ·simp only [lay, wk5, wk4, wk3, wk, iaddrV_map, Nat.reduceAdd, Nat.reduceSub, Nat.reduceMul, Nat.reduceLeDiff, Nat.reduceEqDiff, Nat.reduceBEq, Int.reduceLE, Int.reduceLT, Int.reduceEq, Int.reduceNe, Int.reduceAdd, Int.reduceSub, Int.reduceToNat, Int.reduceNeg, ↓reduceIte, reduceCtorEq]
    refine no fun h => ?_
    rcases h.2.2.2 with ⟨_, e | ⟨e, _⟩⟩ | ⟨e, _⟩
    ·exact o0 e
    ·rw [hi] at e; cases e
    ·omega
   ·simp only [lay, wk5, wk4, wk3, wk, iaddrV_map, Nat.reduceAdd, Nat.reduceSub, Nat.reduceMul, Nat.reduceLeDiff, Nat.reduceEqDiff, Nat.reduceBEq, Int.reduceLE, Int.reduceLT, Int.reduceEq, Int.reduceNe, Int.reduceAdd, Int.reduceSub, Int.reduceToNat, Int.reduceNeg, ↓reduceIte, reduceCtorEq]
    refine CT_ok (round106 l hl d.id _) ?_
    rintro _ _ ⟨rfl, rfl⟩
    cases hr : roundB l d.id l.length d.id
    ·simp only [lay, wk5, wk4, wk3, wk, iaddrV_map, Nat.reduceAdd, Nat.reduceSub, Nat.reduceMul, Nat.reduceLeDiff, Nat.reduceEqDiff, Nat.reduceBEq, Int.reduceLE, Int.reduceLT, Int.reduceEq, Int.reduceNe, Int.reduceAdd, Int.reduceSub, Int.reduceToNat, Int.reduceNeg, ↓reduceIte, reduceCtorEq]
     exact yes ⟨base.1, base.2.1, base.2.2, .inl ⟨k1, .inr ⟨hi, hr⟩⟩⟩
    ·simp only [lay, wk5, wk4, wk3, wk, iaddrV_map, Nat.reduceAdd, Nat.reduceSub, Nat.reduceMul, Nat.reduceLeDiff, Nat.reduceEqDiff, Nat.reduceBEq, Int.reduceLE, Int.reduceLT, Int.reduceEq, Int.reduceNe, Int.reduceAdd, Int.reduceSub, Int.reduceToNat, Int.reduceNeg, ↓reduceIte, reduceCtorEq]
     refine no fun h => ?_
     rcases h.2.2.2 with ⟨_, e | ⟨_, e⟩⟩ | ⟨e, _⟩
     ·exact o0 e
     ·rw [hr] at e; cases e
     ·omega
 by_cases k2 : d.kind = 2
 ·by_cases q0 : d.quota = 0
  ·simp only [h3, h4, k2, q0, lay, wk5, wk4, wk3, wk, iaddrV_map, Nat.reduceAdd, Nat.reduceSub, Nat.reduceMul, Nat.reduceLeDiff, Nat.reduceEqDiff, Nat.reduceBEq, Int.reduceLE, Int.reduceLT, Int.reduceEq, Int.reduceNe, Int.reduceAdd, Int.reduceSub, Int.reduceToNat, Int.reduceNeg, ↓reduceIte, reduceCtorEq]
   refine CT_ok (is60 l hl d.origin 1 _) ?_
   rintro _ _ ⟨rfl, rfl⟩
   cases hi : isA l d.origin 1
   ·simp only [lay, wk5, wk4, wk3, wk, iaddrV_map, Nat.reduceAdd, Nat.reduceSub, Nat.reduceMul, Nat.reduceLeDiff, Nat.reduceEqDiff, Nat.reduceBEq, Int.reduceLE, Int.reduceLT, Int.reduceEq, Int.reduceNe, Int.reduceAdd, Int.reduceSub, Int.reduceToNat, Int.reduceNeg, ↓reduceIte, reduceCtorEq]
    refine no fun h => ?_
    rcases h.2.2.2 with ⟨e, _⟩ | ⟨_, _, e⟩
    ·exact k1 e
    ·rw [hi] at e; cases e
   ·simp only [lay, wk5, wk4, wk3, wk, iaddrV_map, Nat.reduceAdd, Nat.reduceSub, Nat.reduceMul, Nat.reduceLeDiff, Nat.reduceEqDiff, Nat.reduceBEq, Int.reduceLE, Int.reduceLT, Int.reduceEq, Int.reduceNe, Int.reduceAdd, Int.reduceSub, Int.reduceToNat, Int.reduceNeg, ↓reduceIte, reduceCtorEq]
    exact yes ⟨base.1, base.2.1, base.2.2, .inr ⟨k2, q0, hi⟩⟩
  ·simp only [h3, h4, k2, q0, lay, wk5, wk4, wk3, wk, iaddrV_map, Nat.reduceAdd, Nat.reduceSub, Nat.reduceMul, Nat.reduceLeDiff, Nat.reduceEqDiff, Nat.reduceBEq, Int.reduceLE, Int.reduceLT, Int.reduceEq, Int.reduceNe, Int.reduceAdd, Int.reduceSub, Int.reduceToNat, Int.reduceNeg, ↓reduceIte, reduceCtorEq]
   refine no fun h => ?_
   rcases h.2.2.2 with ⟨e, _⟩ | ⟨_, e, _⟩
   ·exact k1 e
   ·exact q0 e
 ·simp only [h3, h4, k1, k2, lay, wk5, wk4, wk3, wk, iaddrV_map, Nat.reduceAdd, Nat.reduceSub, Nat.reduceMul, Nat.reduceLeDiff, Nat.reduceEqDiff, Nat.reduceBEq, Int.reduceLE, Int.reduceLT, Int.reduceEq, Int.reduceNe, Int.reduceAdd, Int.reduceSub, Int.reduceToNat, Int.reduceNeg, ↓reduceIte, reduceCtorEq]
  refine no fun h => ?_
  rcases h.2.2.2 with ⟨e, _⟩ | ⟨e, _⟩
  ·exact k1 e
  ·exact k2 e
theorem member66 (l : List Dset) (hl : l.length ≤ 1000000) (d : Dset) (hf : Wf d.files ∨ d.files = []) (H : AH) : C Tryz.prog 66 [.agg (cellD d ++ [asets l])] H (fun x H' => (∃ b : Bool, x = .bool b ∧ (b = true ↔ MemB l d)) ∧ H' = H) :=
 C_flat (K0 := fun x _ => ∃ b : Bool, x = .bool b ∧ (b = true ↔ MemB l d)) (member66_0 l hl d hf) (by rintro x _ ⟨b, rfl, h⟩; exact ⟨rfl, ⟨b, rfl, h⟩, rfl⟩)
end Go.Proofs.YtemjlopoffjmpaaGreat.Abs
set_option linter.unusedSimpArgs false
set_option linter.unusedVariables false
namespace Go.Proofs.YtemjlopoffjmpaaGreat.Abs
open Go Go.Proofs
def Loose (l : List Dset) : Prop := l.length ≤ 1000 ∧ ∀ d ∈ l, Wf d.files ∨ d.files = []
theorem Loose.short {l : List Dset} (h : Loose l) : Short l := ⟨by have := h.1; omega, fun d hd => by
 rcases h.2 d hd with e | e
 ·have := e.len; omega
 ·rw [e]; simp⟩
theorem MayL.loose {l : List Dset} (h : MayL l) : Loose l := ⟨by have := h.len; omega, fun d hd => .inl (h.each d hd).files⟩
theorem memB_of {l : List Dset} (h : MayL l) {d : Dset} (hd : d ∈ l) : MemB l d := by
 have hm := h.each d hd
 refine ⟨hm.id, hm.files, hm.quota, ?_⟩
 rcases hm.kinds with e | e
 ·refine .inl ⟨e, ?_⟩
  rcases hm.live e with h0 | ⟨o, ho, hi, hk⟩
  ·exact .inl h0
  ·exact .inr ⟨(isA_iff _ _ _).2 ⟨o, by rw [← hi]; exact h.find ho, hk⟩, h.noRound hd _⟩
 ·obtain ⟨h0, o, ho, hi, hk⟩ := hm.snap e
  exact .inr ⟨e, h0, (isA_iff _ _ _).2 ⟨o, by rw [← hi]; exact h.find ho, hk⟩⟩
theorem setB_of {l : List Dset} {k : Nat} (h : MemB l (l.getD k default)) (hs : k = 0 ∨ (l.getD (k - 1) default).id < (l.getD k default).id) : SetB l k := by
 obtain ⟨h1, h2, h3, h4⟩ := h
 refine ⟨h1, hs, h2, h3, ?_, fun e => ?_, fun e => ?_⟩
 ·rcases h4 with ⟨e, _⟩ | ⟨e, _⟩
  ·exact .inl e
  ·exact .inr e
 ·rcases h4 with ⟨e', _⟩ | ⟨_, hq, ho⟩
  ·omega
  ·exact ⟨hq, (isA_iff _ _ _).1 ho⟩
 ·rcases h4 with ⟨_, ho⟩ | ⟨e', _⟩
  ·rcases ho with ho | ⟨ho, _⟩
   ·exact .inl ho
   ·exact .inr ((isA_iff _ _ _).1 ho)
  ·omega
def FirstB (l : List Dset) (i : Nat) (last : Int) : Prop := (∀ j, j < i → MemB l (l.getD j default) ∧ (j = 0 ∨ (l.getD (j - 1) default).id < (l.getD j default).id)) ∧ last = if i = 0 then 0 else (l.getD (i - 1) default).id
theorem FirstB.next {l : List Dset} {i : Nat} {last : Int} (h : FirstB l i last) (hm : MemB l (l.getD i default)) (hs : last < (l.getD i default).id) : FirstB l (i + 1) (l.getD i default).id := by
 refine ⟨fun j hj => ?_, by rw [if_neg (by omega), Nat.add_sub_cancel]⟩
 rcases Nat.lt_or_ge j i with h' | h'
 ·exact h.1 j h'
 ·have : j = i := by omega
  subst this
  refine ⟨hm, ?_⟩
  have h2 := h.2
  by_cases h0 : j = 0
  ·exact .inl h0
  ·rw [if_neg h0] at h2
   exact .inr (by omega)
theorem FirstB.may {l : List Dset} {last : Int} (h : FirstB l l.length last) (h8 : l.length ≤ 8) : MayL l := by
 have hB : ∀ k, k < l.length → SetB l k := fun k hk => setB_of (h.1 k hk).1 (h.1 k hk).2
 refine mayL_of hB h8 l.length (out_ofB hB fun d hd hk ho => ?_)
 obtain ⟨k, hk2, rfl⟩ := mem_dgetD hd
 rcases (h.1 k hk2).1.2.2.2 with ⟨_, e | ⟨_, e⟩⟩ | ⟨e, _⟩
 ·exact absurd e ho
 ·exact e
 ·omega
theorem FirstB.of {l : List Dset} (h : MayL l) {i : Nat} (hi : i < l.length) {last : Int} (hF : FirstB l i last) : MemB l (l.getD i default) ∧ last < (l.getD i default).id := by
 refine ⟨memB_of h (dgetD_mem hi), ?_⟩
 have h2 := hF.2
 by_cases h0 : i = 0
 ·rw [if_pos h0] at h2
  have := (h.each _ (dgetD_mem hi)).id
  omega
 ·rw [if_neg h0] at h2
  have := h.lt (show i - 1 < i by omega) hi
  omega
theorem may33_0 (l : List Dset) (hl : Loose l) : C Tryz.prog 33 [asets l] [] (fun x _ => ∃ b : Bool, x = .bool b ∧ (b = true ↔ MayL l)) := by
 have hl1 := hl.1
 have no : ¬ MayL l → ∃ b : Bool, AV.bool false = .bool b ∧ (b = true ↔ MayL l) := fun h => ⟨false, rfl, by simp [h]⟩
 refine C_body d33 rfl ?_
 delta c33 I0 I1 I2 I3 I4 I5 I6 I7 I8 I9 KI
 refine W_stp ?_
 simp only [asets, lay, wk5, wk4, wk3, wk, iaddrV_map, Nat.reduceAdd, Nat.reduceSub, Nat.reduceMul, Nat.reduceLeDiff, Nat.reduceEqDiff, Nat.reduceBEq, Int.reduceLE, Int.reduceLT, Int.reduceEq, Int.reduceNe, Int.reduceAdd, Int.reduceSub, Int.reduceToNat, Int.reduceNeg, ↓reduceIte, reduceCtorEq]
 refine QStp_go (W_stp ?_)
 simp only [lay, wk5, wk4, wk3, wk, iaddrV_map, Nat.reduceAdd, Nat.reduceSub, Nat.reduceMul, Nat.reduceLeDiff, Nat.reduceEqDiff, Nat.reduceBEq, Int.reduceLE, Int.reduceLT, Int.reduceEq, Int.reduceNe, Int.reduceAdd, Int.reduceSub, Int.reduceToNat, Int.reduceNeg, ↓reduceIte, reduceCtorEq]
 refine QStp_go (W_cut (fun fr H => ∃ last, FirstB l l.length last ∧ H = [] ∧ fr = [asets l, .top, .bool false, .top] ++ List.replicate 25 .top) ?_ ?_)
 ·simp only [lay, wk5, wk4, wk3, wk, iaddrV_map, Nat.reduceAdd, Nat.reduceSub, Nat.reduceMul, Nat.reduceLeDiff, Nat.reduceEqDiff, Nat.reduceBEq, Int.reduceLE, Int.reduceLT, Int.reduceEq, Int.reduceNe, Int.reduceAdd, Int.reduceSub, Int.reduceToNat, Int.reduceNeg, ↓reduceIte, reduceCtorEq]
  refine WT_loop (W_wk (fr' := [asets l, .top, .bool false, .int .i64 0, .top, .top, asets l, .int .i64 l.length, .int .i64 (0 : Nat)] ++ List.replicate 20 .top) (Wk_tops ?_) (W_loop (fun n fr H' => ∃ (k : Nat) (last : Int), k ≤ l.length ∧ n = l.length - k ∧ FirstB l k last ∧ H' = [] ∧ fr = [asets l, .top, .bool false, .int .i64 last, .top, .top, asets l, .int .i64 l.length, .int .i64 k] ++ List.replicate 20 .top) l.length ⟨0, 0, by omega, rfl, ⟨fun j hj => by omega, rfl⟩, rfl, rfl⟩ ?_))
  ·simp only [asets, tp, Int.natCast_zero]
  rintro n fr H' ⟨k, last, hk, rfl, hF, rfl, rfl⟩
  refine WT_ok ?_
  simp only [asets, lay, wk5, wk4, wk3, wk, iaddrV_map, Nat.reduceAdd, Nat.reduceSub, Nat.reduceMul, Nat.reduceLeDiff, Nat.reduceEqDiff, Nat.reduceBEq, Int.reduceLE, Int.reduceLT, Int.reduceEq, Int.reduceNe, Int.reduceAdd, Int.reduceSub, Int.reduceToNat, Int.reduceNeg, ↓reduceIte, reduceCtorEq]
  by_cases h : (k : Int) < l.length
  ·have hk2 : k < l.length := by omega
   have w2 : IntKind.i64.wrap ((k : Int) + 1) = (k : Int) + 1 := IntWalk.i64_in _ (by omega)
   have h0 : (0 : Int) ≤ k := by omega
   have e6' : ∀ x, (pdset x).length = 5 := fun _ => rfl
   have hof := fun hM => FirstB.of (l := l) hM hk2 hF
   have hnx := fun h1 h2 => hF.next h1 h2
   have hdf := hl.2 _ (dgetD_mem hk2)
   generalize hd : l.getD k default = d at hof hnx hdf
   by_cases c1 : d.id ≤ last
   ·simp only [h, h0, e6', hd, c1, iaddr_dset, pdset, Int.toNat_natCast, lay, wk5, wk4, wk3, wk, iaddrV_map, Nat.reduceAdd, Nat.reduceSub, Nat.reduceMul, Nat.reduceLeDiff, Nat.reduceEqDiff, Nat.reduceBEq, Int.reduceLE, Int.reduceLT, Int.reduceEq, Int.reduceNe, Int.reduceAdd, Int.reduceSub, Int.reduceToNat, Int.reduceNeg, ↓reduceIte, reduceCtorEq]
    exact no fun hM => by have := (hof hM).2; omega
   ·simp only [h, h0, e6', hd, c1, iaddr_dset, pdset, Int.toNat_natCast, lay, wk5, wk4, wk3, wk, iaddrV_map, Nat.reduceAdd, Nat.reduceSub, Nat.reduceMul, Nat.reduceLeDiff, Nat.reduceEqDiff, Nat.reduceBEq, Int.reduceLE, Int.reduceLT, Int.reduceEq, Int.reduceNe, Int.reduceAdd, Int.reduceSub, Int.reduceToNat, Int.reduceNeg, ↓reduceIte, reduceCtorEq]
    refine CT_ok (member66 l (by omega) d hdf _) ?_
    rintro _ _ ⟨⟨b, rfl, hb⟩, rfl⟩
    cases b
    ·simp only [lay, wk5, wk4, wk3, wk, iaddrV_map, Nat.reduceAdd, Nat.reduceSub, Nat.reduceMul, Nat.reduceLeDiff, Nat.reduceEqDiff, Nat.reduceBEq, Int.reduceLE, Int.reduceLT, Int.reduceEq, Int.reduceNe, Int.reduceAdd, Int.reduceSub, Int.reduceToNat, Int.reduceNeg, ↓reduceIte, reduceCtorEq]
     exact no fun hM => by have := hb.2 (hof hM).1; cases this
    ·simp only [w2, lay, wk5, wk4, wk3, wk, iaddrV_map, Nat.reduceAdd, Nat.reduceSub, Nat.reduceMul, Nat.reduceLeDiff, Nat.reduceEqDiff, Nat.reduceBEq, Int.reduceLE, Int.reduceLT, Int.reduceEq, Int.reduceNe, Int.reduceAdd, Int.reduceSub, Int.reduceToNat, Int.reduceNeg, ↓reduceIte, reduceCtorEq]
     refine QLoop_wk (n' := l.length - (k + 1)) (by omega) ⟨k + 1, d.id, by omega, rfl, hnx (hb.1 rfl) (by omega), rfl, rfl⟩ (Wk_none ?_)
     simp only [asets, renL, ren, tq]
  ·have : k = l.length := by omega
   subst this
   simp only [h, lay, wk5, wk4, wk3, wk, iaddrV_map, Nat.reduceAdd, Nat.reduceSub, Nat.reduceMul, Nat.reduceLeDiff, Nat.reduceEqDiff, Nat.reduceBEq, Int.reduceLE, Int.reduceLT, Int.reduceEq, Int.reduceNe, Int.reduceAdd, Int.reduceSub, Int.reduceToNat, Int.reduceNeg, ↓reduceIte, reduceCtorEq]
   refine QCut_go ⟨last, hF, rfl, rfl⟩ (Wk_tops ?_)
   simp only [asets, tp]
 rintro fr H ⟨last, hF, rfl, rfl⟩
 refine WT_ok ?_
 simp only [asets, lay, wk5, wk4, wk3, wk, iaddrV_map, Nat.reduceAdd, Nat.reduceSub, Nat.reduceMul, Nat.reduceLeDiff, Nat.reduceEqDiff, Nat.reduceBEq, Int.reduceLE, Int.reduceLT, Int.reduceEq, Int.reduceNe, Int.reduceAdd, Int.reduceSub, Int.reduceToNat, Int.reduceNeg, ↓reduceIte, reduceCtorEq]
 refine ⟨_, rfl, ?_⟩
 rw [decide_eq_true_eq]
 exact ⟨fun h => hF.may (by omega), fun h => by have := h.len; omega⟩
theorem may33 (l : List Dset) (hl : Loose l) (H : AH) : C Tryz.prog 33 [asets l] H (fun x H' => (∃ b : Bool, x = .bool b ∧ (b = true ↔ MayL l)) ∧ H' = H) :=
 C_flat (K0 := fun x _ => ∃ b : Bool, x = .bool b ∧ (b = true ↔ MayL l)) (may33_0 l hl) (by rintro x _ ⟨b, rfl, h⟩; exact ⟨rfl, ⟨b, rfl, h⟩, rfl⟩)
end Go.Proofs.YtemjlopoffjmpaaGreat.Abs
