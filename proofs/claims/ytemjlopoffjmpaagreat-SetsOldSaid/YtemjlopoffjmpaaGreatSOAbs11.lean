/-
  The abstract layer, part 11: the operations of part 5 do what is told (6): struct literals; all of them together.
-/
import Derived.Test.YtemjlopoffjmpaaGreatSOAbs10
import Derived.Laws.Tables
set_option linter.unusedSimpArgs false
set_option linter.unusedVariables false
namespace Go.Proofs.YtemjlopoffjmpaaGreat.Abs
open Go
theorem zip_splice : ∀ (vs : List Value) (k off : Nat) (cs : Array Value), ((vs.zipIdx k).foldl (fun (cs : Array Value) (x : Value × Nat) => cs.setIfInBounds (off + x.2) x.1) cs) = splice cs (off + k) vs
 | [], _, _, _ => rfl
 | v :: vs, k, off, cs => by
   rw [List.zipIdx_cons, List.foldl_cons, zip_splice vs (k + 1) off, splice]
   rfl
theorem lay_length (e : List AV) (j : Nat) (cs : List AV) (h : j + cs.length ≤ e.length) : (lay e j cs).length = e.length := by
 unfold lay; simp; omega
theorem lay_get (e : List AV) (j : Nat) (cs : List AV) (h : j + cs.length ≤ e.length) (m : Nat) :
 (lay e j cs)[m]? = if j ≤ m ∧ m < j + cs.length then cs[m - j]? else e[m]? := by
 unfold lay
 rw [List.getElem?_append, List.getElem?_append]
 have h1 : (e.take j).length = j := by simp; omega
 have h2 : (e.take j ++ cs).length = j + cs.length := by simp; omega
 rw [h1, h2]
 by_cases c1 : m < j
 ·rw [if_pos (by omega), if_pos c1, if_neg (by omega), List.getElem?_take_of_lt c1]
 ·by_cases c2 : m < j + cs.length
  ·rw [if_pos c2, if_neg c1, if_pos ⟨by omega, c2⟩]
  ·rw [if_neg c2, if_neg (by omega), List.getElem?_drop]; congr 1; omega
theorem RepL.splice {E : Env} {xs : List AV} {vs : Array Value} (h : RepL E xs vs) {cs : List AV} {us : Array Value} (hc : RepL E cs us) (off : Nat) (hin : off + cs.length ≤ xs.length) :
 RepL E (lay xs off cs) (Abs.splice vs off us.toList) := by
 have h1 := h.1
 have h2 := hc.1
 refine ⟨by rw [lay_length _ _ _ hin, splice_size]; exact h1, fun i c u hi hu => ?_⟩
 rw [lay_get _ _ _ hin] at hi
 rw [splice_get _ _ _ _ (by simp; omega)] at hu
 by_cases c1 : off ≤ i ∧ i < off + cs.length
 ·rw [if_pos c1] at hi
  rw [if_pos ⟨c1.1, by simp; omega⟩] at hu
  exact hc.2 _ c u hi (by simpa using hu)
 ·rw [if_neg c1] at hi
  rw [if_neg (by simp; omega)] at hu
  exact h.2 i c u hi hu
theorem fill_ok {P : Program} {E : Env} {fr : List AV} {a : Act} (hr : RepL E fr a.tmps) (place : Nat → Option (Nat × Nat)) : ∀ (parts : List (Nat × Nat × Opd)) (ps : List (Nat × Operand)) (cells : List AV) (vs : Array Value) (cells' : List AV),
 fit0.fitParts place parts ps = true → RepL E cells vs → fillA (evalA fr) cells parts = some cells' →
 ∃ vs', Instr.fill place vs (ps.map fun x => (x.1, a.eval x.2)) = some vs' ∧ RepL E cells' vs'
 | [], ps, cells, vs, cells', hf, h, he => by
   cases ps with
   | cons p ps => simp [fit0.fitParts] at hf
   | nil => simp only [fillA, Option.some.injEq] at he; subst he; exact ⟨vs, rfl, h⟩
 | (off, size, x) :: parts, ps, cells, vs, cells', hf, h, he => by
   cases ps with
   | nil => simp [fit0.fitParts] at hf
   | cons p ps =>
     obtain ⟨i, y⟩ := p
     simp only [fit0.fitParts, Bool.and_eq_true, decide_eq_true_eq] at hf
     obtain ⟨⟨hp, hxy⟩, hrest⟩ := hf
     have hx := fitO_ok hr hxy
     unfold fillA at he
     split at he
     ·rename_i cs hcs
      split at he
      ·rename_i hle
       have hc := cells_rep hx hcs
       have := h.splice hc off (by omega)
       obtain ⟨vs', h1, h2⟩ := fill_ok (P := P) hr place parts ps _ _ cells' hrest this he
       refine ⟨vs', ?_, h2⟩
       simp only [List.map_cons, Instr.fill, hp]
       have hl1 := hc.1
       have hl2 := h.1
       rw [if_neg (by simp; omega)]
       have e := zip_splice (a.eval y).cells.toList 0 off vs
       rw [Nat.add_zero] at e
       have e2 : ((a.eval y).cells.zipIdx.foldl (fun cs x => cs.setIfInBounds (off + x.2) x.1) vs) = splice vs off (a.eval y).cells.toList := by
        rw [← e, ← Array.foldl_toList, Array.toList_zipIdx]
       first
        | (rw [e2]; exact h1)
        | (simp only [e2]; exact h1)
        | (refine Eq.trans ?_ h1; congr 1)
      ·cases he
     ·cases he
theorem opt_mapM {α β : Type} (f : α → Option β) (g : α → β) : ∀ (l : List α), (∀ x ∈ l, f x = some (g x)) → l.mapM f = some (l.map g)
 | [], _ => by simp
 | x :: l, h => by
   simp [List.mapM_cons, h x (by simp), opt_mapM f g l (fun y hy => h y (by simp [hy]))]
theorem ok_build {P : Program} {zero : List AV} {parts : List (Nat × Nat × Opd)} {o : Op} (hf : fit0 P (.build zero parts) o = true) : Sound0 P o (.build zero parts) := by
 intro E w H fr a v oper ho hs hr hv
 cases o <;> simp only [fit0, Bool.and_eq_true, Bool.false_eq_true] at hf
 rename_i t ps
 obtain ⟨hz, hp⟩ := hf
 obtain ⟨it, z, hit, hzz, hzc⟩ : ∃ it z, P.info? t = some it ∧ it.zero = some z ∧ repCs zero z.cells.toList = true := by
  split at hz
  ·split at hz
   ·exact ⟨_, _, by assumption, by assumption, hz⟩
   ·cases hz
  ·cases hz
 have hzr : RepL E zero z.cells := by have := repCs_ok (E := E) hzc; simpa using this
 simp only [aop0] at hv
 cases hfill : fillA (evalA fr) zero parts with
 | none => rw [hfill] at hv; cases hv
 | some cells =>
   rw [hfill] at hv; cases hv
   have key : ∃ vs', P.built t (ps.map fun (i, x) => (i, a.eval x)).toList = some vs' ∧ RepL E cells vs' := by
    unfold Program.built
    have e0 : (ps.map fun (i, x) => (i, a.eval x)).toList = ps.toList.map fun x => (x.1, a.eval x.2) := by simp
    rw [e0]
    split at hp
    ·rename_i fs hu
     rw [Bool.and_eq_true] at hp
     obtain ⟨hall, hfit⟩ := hp
     obtain ⟨vs', h1, h2⟩ := fill_ok (P := P) hr _ parts ps.toList zero z.cells cells hfit hzr hfill
     refine ⟨vs', ?_, h2⟩
     have hm := opt_mapM (fun f : Field => (P.info? f.type).map fun i => (f.offset, i.size)) (fun f => (f.offset, P.cellsOf f.type)) fs.toList (fun f hfm => by
      have := List.all_eq_true.1 hall f hfm
      obtain ⟨i, hi⟩ := Option.isSome_iff_exists.1 this
      simp [hi, Program.cellsOf])
     simp only [hit, hu, hzz, hm]
     rw [← h1]
     congr 1
     funext i
     rw [List.getElem?_toArray, List.getElem?_map]
     cases hfi : fs[i]? with
     | none => have : fs.toList[i]? = none := by simpa using hfi
               rw [this]; rfl
     | some f =>
       have hfi' : fs.toList[i]? = some f := by simpa using hfi
       rw [hfi']
       have := List.all_eq_true.1 hall f (List.mem_of_getElem? hfi')
       obtain ⟨i', hi'⟩ := Option.isSome_iff_exists.1 this
       simp [hi', Program.cellsOf]
    ·rename_i n e hu
     split at hp
     ·rename_i ie hie
      obtain ⟨vs', h1, h2⟩ := fill_ok (P := P) hr _ parts ps.toList zero z.cells cells hp hzr hfill
      exact ⟨vs', by simp only [hit, hu, hzz, hie]; exact h1, h2⟩
     ·cases hp
    ·cases hp
   obtain ⟨vs', h1, h2⟩ := key
   refine ⟨.agg vs', ?_, .agg _ _ h2.1 h2.2⟩
   simp only [execOp, ho]
   apply run_v
   exact run_build w t _ vs' h1
theorem ok_0 {P : Program} {ao : AOp} {o : Op} (hf : fit0 P ao o = true) : Sound0 P o ao := by
 cases ao
 case mv => exact ok_mv hf
 case pick => exact ok_pick hf
 case build => exact ok_build hf
 case load agg n x => cases o <;> first | exact ok_load hf | (simp only [fit0, Bool.false_eq_true] at hf; done)
 case nilchk => exact ok_nilchk hf
 case bini => exact ok_bini hf
 case bins => exact ok_bins hf
 case eqb => exact ok_eqb hf
 case eqs => exact ok_eqs hf
 case un => exact ok_un hf
 case convi => exact ok_convi hf
 case convbs => exact ok_convbs hf
 case convss => exact ok_convss hf
 case slices => exact ok_slices hf
 case slicel => exact ok_slicel hf
 case slicez => exact ok_slicez hf
 case slice3 => exact ok_slice3 hf
 case faddr => exact ok_faddr hf
 case field => exact ok_field hf
 case iaddr => exact ok_iaddr hf
 case iaddra => exact ok_iaddra hf
 case indexs => exact ok_indexs hf
 case ext => exact ok_ext hf
 case len => exact ok_len hf
 case min2 x y => exact ok_minmax (isMax := false) hf
 case max2 x y => exact ok_minmax (isMax := true) hf
 case mkfn => exact ok_mkfn hf
 all_goals (cases o <;> simp only [fit0, Bool.false_eq_true] at hf)
end Go.Proofs.YtemjlopoffjmpaaGreat.Abs
