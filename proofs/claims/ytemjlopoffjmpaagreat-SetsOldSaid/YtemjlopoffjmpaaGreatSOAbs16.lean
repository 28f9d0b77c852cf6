/-
  The abstract layer, part 16: the operations of part 12 do what is told (4): copy, clear, make, bytes of a string; all of them together.
-/
import Derived.Test.YtemjlopoffjmpaaGreatSOAbs15
import Derived.Laws.IdiomStrings
set_option linter.unusedSimpArgs false
set_option linter.unusedVariables false
namespace Go.Proofs.YtemjlopoffjmpaaGreat.Abs
open Go
theorem over_ok {E : Env} {w : World} {H : AH} (hs : Sim E w H) {r : Nat} {o news : AObj} {x : Own} (hat : H.at r = some o) (hx : E.ρ r = some x) (hsz : ∀ e ∈ news, e.length = x.sz)
 {us : Array Value} (hrow : RowIs E x.sz us news) (hus : us.size = news.length * x.sz) (hone : ∀ u ∈ us.toList, u.oneCell' = true) (p : Nat) (hp : p + news.length ≤ o.length) {cells : Array Value} {te : TypeId} {q : Nat × Nat}
 (hb : w.heap[x.b]? = some (.cells cells te q)) :
 ∃ E', Le E E' ∧ Sim E' (putBlk w x.b (.cells (splice cells (p * x.sz) us.toList) te q)) (H.set r (some (o.take p ++ news ++ o.drop (p + news.length)))) ∧ E'.ρ r = some { x with t := (o.take p ++ news ++ o.drop (p + news.length)).length } := by
 have hlies := lies_of hs hat hx
 obtain ⟨cells', te', q', hblk, hcn, hq, hcone, hcrow⟩ := hlies.blk
 rw [hb] at hblk
 cases hblk
 have hfit := hlies.fits
 have hmul : (p + news.length) * x.sz ≤ o.length * x.sz := Nat.mul_le_mul_right _ hp
 have hmul' := hmul
 rw [Nat.add_mul] at hmul'
 have hrs := RowIs.splice (E := E) (sz := x.sz) (cells := cells) (o := o) (news := news) hcrow hlies.sz hsz hrow hus p (by omega) (by omega)
 have hll : (o.take p ++ news ++ o.drop (p + news.length)).length = o.length := splice_size_le _ hp
 obtain ⟨hle, hsim⟩ := hs.write hat hx (o' := o.take p ++ news ++ o.drop (p + news.length)) (splice cells (p * x.sz) us.toList) te q (by rw [splice_size]; exact hcn) hq (by rw [hll]; exact Nat.le_refl _)
  (by
   intro e' he'
   rcases List.mem_append.1 he' with h' | h'
   ·rcases List.mem_append.1 h' with h' | h'
    ·exact hlies.sz e' (List.mem_of_mem_take h')
    ·exact hsz e' h'
   ·exact hlies.sz e' (List.mem_of_mem_drop h'))
  (by rw [hll]; exact hfit) (splice_one hcone _ _ hone (by simp; omega)) hrs
 exact ⟨_, hle, hsim, Env.with_same _ _ _⟩
theorem ok_copy {P : Program} {sz : Nat} {x y : Opd} {o : Op} (hf : fit1 P (.copy sz x y) o = true) : Sound1 P o (.copy sz x y) := by
 intro E w H fr a v H' oper ho hs hr hv
 cases o <;> simp only [fit1, Bool.false_eq_true] at hf
 rename_i c
 obtain ⟨callee, args, ts⟩ := c
 cases callee <;> try (simp only [fit1, Bool.false_eq_true] at hf; done)
 rename_i b
 cases b <;> simp only [fit1, Bool.false_eq_true] at hf
 split at hf
 ·rename_i x' y' t ts' hargs hts
  simp only [Bool.and_eq_true] at hf
  obtain ⟨⟨ht, h1⟩, h2⟩ := hf
  have hx := fitO_ok hr h1
  have hy := fitO_ok hr h2
  have hargs : args = #[x', y'] := by apply Array.ext'; simpa using hargs
  have hts0 : ts[0]? = some t := by
   have : ts.toList[0]? = some t := by rw [hts]; rfl
   simpa using this
  subst hargs
  obtain ⟨e, i, hte, hi, hisz⟩ : ∃ e i, P.underlying t = some (.slice e) ∧ P.info? e = some i ∧ i.size = sz := by
   split at ht
   ·split at ht
    ·exact ⟨_, _, by assumption, by assumption, by simpa using ht⟩
    ·cases ht
   ·cases ht
  have fin : ∀ {s : Value} {u' : Value} {w' : World}, a.eval x' = s → (Builtin.copy_ ts oper.type #[s, a.eval y']).run P w = .ok u' w' → (execOp a.eval oper).run P w = .ok (.value u') w' := by
   intro s u' w' hse hrun
   subst hse
   simp only [execOp, ho, resolve, Sem.run_bind, Sem.run_pure, Result.andThen, invoke, builtin, List.map_toArray, List.map_cons, List.map_nil, hrun]
  simp only [aop1] at hv
  split at hv
  ·rename_i r sz' off len tot src e1 hsrc
   rw [e1] at hx
   split at hv
   ·rename_i o hl
    obtain ⟨hat, hlen, htt⟩ := live_of hs hl
    split at hv
    ·rename_i hok
     obtain ⟨hle, hall, rfl⟩ := hok
     cases hv
     have hsz := all_len hall
     obtain ⟨us, hus, hrow, hone, hlenof, hfc⟩ := src_ok (P := P) hs hy hsrc sz' hsz
     have hfc1 := hfc (min src.length len) (Nat.min_le_left _ _)
     have hrun0 : ∀ (ad : Option Addr) (cap : Nat) (w' : World), (∀ b, ad = some b → (storeCells b (us.extract 0 (min src.length len * sz')).toList).run P w = .ok () w') → (ad = none → w' = w) →
      (Builtin.copy_ ts oper.type #[.slice ad len cap, a.eval y']).run P w = .ok (.int .i64 (min src.length len : Nat)) w' := by
      intro ad cap w' h1 h2
      unfold Builtin.copy_
      have hmin : Nat.min src.length len = min src.length len := rfl
      simp only [hts0, List.getElem?_toArray, List.getElem?_cons_zero, List.getElem?_cons_succ, Sem.run_bind, run_underlying hte, Result.andThen, hlenof, run_sizeOf' hi, hisz, hmin, hfc1]
      cases ad with
      | none => rw [h2 rfl]; simp [Sem.run_pure, goInt]
      | some b => simp only [h1 b rfl, Sem.run_bind, Result.andThen, Sem.run_pure, goInt]
     rcases rep_own hx htt with ⟨ad, rfl, rfl, rfl, hxv⟩ | ⟨x2, cap, hx2, hsx, g1, g2, g3, g4, hxv⟩
     ·have hmin0 : min src.length 0 = 0 := Nat.min_zero _
      have ho : o = [] := List.length_eq_zero_iff.1 hlen
      subst ho
      refine ⟨_, w, E, .inl (fin hxv (hrun0 ad 0 w (fun b _ => ?_) (fun _ => rfl))), Le.refl E, ?_, .pure (x := .int _ _) (.int _ _)⟩
      ·rw [hmin0]; simp [storeCells, Sem.run_pure]
      ·rw [hmin0]; simp [set_same hat]; exact hs
     ·have hlies := lies_of hs hat hx2
      obtain ⟨cells, te, q, hblk, hcn, hq, _, _⟩ := hlies.blk
      have hfit := hlies.fits
      have hm1 : min src.length len ≤ src.length := Nat.min_le_left _ _
      have hm2 : min src.length len ≤ len := Nat.min_le_right _ _
      generalize min src.length len = m at *
      have hnl : (src.take m).length = m := by simp; omega
      have hsm : m * sz' ≤ src.length * sz' := Nat.mul_le_mul_right _ hm1
      have hus2 : (us.extract 0 (m * sz')).size = (src.take m).length * x2.sz := by rw [hnl, hsx]; simp; omega
      have hrow2 : RowIs E x2.sz (us.extract 0 (m * sz')) (src.take m) := by
       intro i e k c u hi hk hu
       have him : i < m := by
        rcases Nat.lt_or_ge i m with h' | h'
        ·exact h'
        ·rw [List.getElem?_eq_none (by omega)] at hi; cases hi
       rw [List.getElem?_take_of_lt him] at hi
       rw [Array.getElem?_extract] at hu
       split at hu
       ·rw [Nat.zero_add, hsx] at hu; exact hrow i e k c u hi hk hu
       ·cases hu
      have hone2 : ∀ u ∈ (us.extract 0 (m * sz')).toList, u.oneCell' = true := by
       intro u hu
       obtain ⟨i, hi⟩ := List.mem_iff_getElem?.1 hu
       rw [Array.getElem?_toList, Array.getElem?_extract] at hi
       split at hi
       ·exact hone u (List.mem_of_getElem? (by rw [Array.getElem?_toList]; exact hi))
       ·cases hi
      obtain ⟨E', h1, h2, h3⟩ := over_ok hs hat hx2 (news := src.take m) (fun e he => by rw [hsx]; exact hsz e (List.mem_of_mem_take he)) hrow2 hus2 hone2 off (by rw [hnl]; omega) hblk
      have hmul : (off + m) * x2.sz ≤ o.length * x2.sz := Nat.mul_le_mul_right _ (by omega)
      rw [Nat.add_mul, hsx] at hmul
      have hfit' : o.length * sz' ≤ x2.n := by rw [← hsx]; exact hfit
      have hst := run_store_row P x2.b te q (off * x2.sz) (us.extract 0 (m * sz')).toList 0 cells w hblk (by rw [hcn]; exact hq) (by simp; rw [hsx]; omega) hone2
      rw [Nat.add_zero] at hst
      rw [hnl] at h2
      refine ⟨_, _, E', .inl (fin hxv (hrun0 _ cap _ (fun b hb => by cases hb; exact hst) (fun h => by cases h))), h1, h2, .pure (x := .int _ _) (.int _ _)⟩
    ·cases hv
   ·cases hv
  ·rename_i src e1 hsrc
   rw [e1] at hx
   obtain ⟨ad, hxv⟩ := rep_emp hx
   cases hv
   have hrun : ∃ k, (Builtin.lenOf (a.eval y')).run P w = .ok k w ∧ (Builtin.firstCells sz 0 (a.eval y')).run P w = .ok #[] w := by
    by_cases hstr : ∃ s, evalA fr y = .str s
    ·obtain ⟨s, hs'⟩ := hstr
     rw [hs'] at hy
     rw [rep_str hy]
     exact ⟨_, by simp [Builtin.lenOf, Sem.run_pure]; rfl, by simp [Builtin.firstCells, Sem.run_pure]⟩
    ·have hel : elemsOf H (evalA fr y) = some src := by
      rw [← hsrc]
      cases hyy : evalA fr y <;> first | rfl | exact absurd ⟨_, hyy⟩ hstr
     obtain ⟨ad', cap', hyv, _⟩ := elems_rep hs hy hel
     rw [hyv]
     refine ⟨_, by simp [Builtin.lenOf, Sem.run_pure]; rfl, ?_⟩
     cases ad' <;> simp [Builtin.firstCells, Sem.run_pure, loadCells, loadCellsFrom]
   obtain ⟨k, hk1, hk2⟩ := hrun
   refine ⟨.int .i64 0, w, E, .inl (fin hxv ?_), Le.refl E, hs, .pure (x := .int _ _) (.int _ _)⟩
   unfold Builtin.copy_
   have hmin : Nat.min k 0 = 0 := Nat.min_zero _
   simp only [hts0, List.getElem?_toArray, List.getElem?_cons_zero, List.getElem?_cons_succ, Sem.run_bind, run_underlying hte, Result.andThen, hk1, run_sizeOf' hi, hisz, hmin, hk2]
   cases ad with
   | none => simp [Sem.run_pure, goInt]
   | some b => simp [storeCells, Sem.run_pure, goInt]
  ·cases hv
 ·cases hf
theorem ok_clear {P : Program} {sz : Nat} {zero : List AV} {x : Opd} {o : Op} (hf : fit1 P (.clear sz zero x) o = true) : Sound1 P o (.clear sz zero x) := by
 intro E w H fr a v H' oper ho hs hr hv
 cases o <;> simp only [fit1, Bool.false_eq_true] at hf
 rename_i c
 obtain ⟨callee, args, ts⟩ := c
 cases callee <;> try (simp only [fit1, Bool.false_eq_true] at hf; done)
 rename_i b
 cases b <;> simp only [fit1, Bool.false_eq_true] at hf
 split at hf
 ·rename_i x' t hargs hts
  simp only [Bool.and_eq_true] at hf
  obtain ⟨ht, h1⟩ := hf
  have hx := fitO_ok hr h1
  have hargs : args = #[x'] := by apply Array.ext'; simpa using hargs
  have hts : ts = #[t] := by apply Array.ext'; simpa using hts
  subst hargs; subst hts
  obtain ⟨e, by_, hte, hel⟩ : ∃ e b, P.underlying t = some (.slice e) ∧ El P e sz b zero := by
   split at ht
   ·split at ht
    ·exact ⟨_, _, by assumption, elB_ok ht⟩
    ·cases ht
   ·cases ht
  obtain ⟨i, z, hi, hsi, _, hz, hzc⟩ := hel.ex
  have hzr : RepL E zero z.cells := by have := repCs_ok (E := E) hzc; simpa using this
  have fin : ∀ {s : Value} {u' : Value} {w' : World}, a.eval x' = s → (Builtin.clear_ #[t] oper.type #[s]).run P w = .ok u' w' → (execOp a.eval oper).run P w = .ok (.value u') w' := by
   intro s u' w' hse hrun
   subst hse
   simp only [execOp, ho, resolve, Sem.run_bind, Sem.run_pure, Result.andThen, invoke, builtin, List.map_toArray, List.map_cons, List.map_nil, hrun]
  have fin0 : ∀ ad cap, a.eval x' = .slice ad 0 cap → (execOp a.eval oper).run P w = .ok (.value (.tuple #[])) w := by
   intro ad cap he
   refine fin he ?_
   unfold Builtin.clear_
   simp only [List.getElem?_toArray, List.getElem?_cons_zero, Sem.run_bind, run_underlying hte, Result.andThen]
   cases ad <;> simp [Sem.run_pure]
  have hnt : Rep E (.tuple []) (.tuple #[]) := .tuple [] #[] rfl (fun i c u hc => by simp at hc)
  simp only [aop1] at hv
  split at hv
  ·rename_i r sz' off len tot e1
   rw [e1] at hx
   split at hv
   ·rename_i o hl
    obtain ⟨hat, hlen, htt⟩ := live_of hs hl
    split at hv
    ·rename_i hok
     obtain ⟨hle, rfl⟩ := hok
     cases hv
     rcases rep_own hx htt with ⟨ad, rfl, rfl, rfl, hxv⟩ | ⟨x2, cap, hx2, hsx, g1, g2, g3, g4, hxv⟩
     ·have ho : o = [] := List.length_eq_zero_iff.1 hlen
      subst ho
      refine ⟨_, w, E, .inl (fin0 _ _ hxv), Le.refl E, ?_, hnt⟩
      simp [set_same hat]; exact hs
     ·rcases Nat.eq_zero_or_pos len with h0 | hpos
      ·subst h0
       refine ⟨_, w, E, .inl (fin0 _ _ hxv), Le.refl E, ?_, hnt⟩
       have : o.take off ++ List.replicate 0 zero ++ o.drop (off + 0) = o := by simp
       rw [this, set_same hat]; exact hs
      ·have hlies := lies_of hs hat hx2
       obtain ⟨cells, te, q, hblk, hcn, hq, _, _⟩ := hlies.blk
       have hfit := hlies.fits
       have hzs : z.cells.size = sz' := by rw [← hzr.1, hel.len]
       have hzl : ∀ e ∈ List.replicate len zero, e.length = x2.sz := fun e he => by rw [List.eq_of_mem_replicate he, hel.len, hsx]
       have hzcells := zero_cells hzr len
       have husz : (Builtin.zeroCells z.cells len).size = (List.replicate len zero).length * x2.sz := by rw [size_zeroCells, hzs, List.length_replicate, hsx]
       have hrow : RowIs E x2.sz (Builtin.zeroCells z.cells len) (List.replicate len zero) := by
        intro i e k c u hi hk hu
        have hil : i < len := by
         rcases Nat.lt_or_ge i len with h' | h'
         ·exact h'
         ·rw [List.getElem?_eq_none (by simpa using h')] at hi; cases hi
        rw [List.getElem?_replicate, if_pos hil] at hi
        cases hi
        have hkl : k < zero.length := by
         rcases Nat.lt_or_ge k zero.length with h' | h'
         ·exact h'
         ·rw [List.getElem?_eq_none h'] at hk; cases hk
        have hil' := mul_le_of_lt (sz := sz') hil
        have hidx : (i * x2.sz + k) % z.cells.size = k := by
         rw [hsx, hzs, Nat.add_comm, Nat.add_mul_mod_self_right]
         exact Nat.mod_eq_of_lt (by rw [hel.len] at hkl; exact hkl)
        unfold Builtin.zeroCells at hu
        rw [Array.getElem?_map, Array.getElem?_range, if_pos (by rw [hsx, hzs]; rw [hel.len] at hkl; omega)] at hu
        simp only [Option.map_some, Option.some.injEq, hidx] at hu
        have hkz : k < z.cells.size := by rw [hzs, ← hel.len]; exact hkl
        rw [getElem!_pos z.cells k hkz] at hu
        exact hzr.2 k c u hk (by rw [← hu]; exact Array.getElem?_eq_getElem hkz)
       have hone : ∀ u ∈ (Builtin.zeroCells z.cells len).toList, u.oneCell' = true := by
        intro u hu
        obtain ⟨i, hi⟩ := List.mem_iff_getElem?.1 hu
        rw [Array.getElem?_toList] at hi
        exact zeroCells_ones hzr hel.all len i u hi
       obtain ⟨E', h1, h2, h3⟩ := over_ok hs hat hx2 (news := List.replicate len zero) hzl hrow husz hone off (by simp; omega) hblk
       have hmul : (off + len) * x2.sz ≤ o.length * x2.sz := Nat.mul_le_mul_right _ (by omega)
       rw [Nat.add_mul, hsx] at hmul
       have hfit' : o.length * sz' ≤ x2.n := by rw [← hsx]; exact hfit
       have hst := run_store_row P x2.b te q (off * x2.sz) (Builtin.zeroCells z.cells len).toList 0 cells w hblk (by rw [hcn]; exact hq) (by simp [size_zeroCells, hzs]; rw [hsx]; omega) hone
       rw [Nat.add_zero] at hst
       rw [List.length_replicate] at h2
       refine ⟨.tuple #[], _, E', .inl (fin hxv ?_), h1, h2, .tuple [] #[] rfl (fun i c u hc => by simp at hc)⟩
       unfold Builtin.clear_
       have hti : (typeInfo e).run P w = .ok i w := by
        unfold typeInfo; simp only [Sem.run_bind, program, Sem.run, Result.andThen, hi]; rfl
       have hzv : (zeroValue e).run P w = .ok z w := by
        unfold zeroValue; simp only [Sem.run_bind, hti, Result.andThen, hz, Sem.run_pure]
       simp only [List.getElem?_toArray, List.getElem?_cons_zero, Sem.run_bind, run_underlying hte, Result.andThen]
       obtain ⟨len', rfl⟩ : ∃ l, len = l + 1 := ⟨len - 1, by omega⟩
       simp only [Sem.run_bind, hzv, Result.andThen, hst, Sem.run_pure]
    ·cases hv
   ·cases hv
  ·rename_i e1
   rw [e1] at hx
   obtain ⟨ad, hxv⟩ := rep_emp hx
   cases hv
   exact ⟨_, w, E, .inl (fin0 _ _ hxv), Le.refl E, hs, hnt⟩
  ·rename_i e1
   rw [e1] at hx
   obtain ⟨ad, cap, hxv, _⟩ := rep_fz_inv hx
   cases hv
   exact ⟨_, w, E, .inl (fin0 _ _ hxv), Le.refl E, hs, hnt⟩
  ·cases hv
 ·cases hf
end Go.Proofs.YtemjlopoffjmpaaGreat.Abs
