/-
  The abstract layer, part 6: the operations of part 5 do what is told.
-/
import Derived.Test.YtemjlopoffjmpaaGreatSOAbs5
set_option linter.unusedSimpArgs false
set_option linter.unusedVariables false
namespace Go.Proofs.YtemjlopoffjmpaaGreat.Abs
open Go
theorem run_v {P : Program} {s : Sem Value} {w w' : World} {u : Value} (h : s.run P w = .ok u w') : (do pure (Next.value (← s)) : Sem Next).run P w = .ok (.value u) w' := by
 simp only [Sem.run_bind, h, Result.andThen]; rfl
theorem live_of {E : Env} {w : World} {H : AH} (hs : Sim E w H) {r tot : Nat} {o : AObj} (h : liveO H r tot = some o) : H.at r = some o ∧ o.length = tot ∧ ∀ x, E.ρ r = some x → x.t = tot := by
 unfold liveO at h
 split at h
 ·rename_i o' ho
  split at h
  ·rename_i hl
   cases h
   refine ⟨ho, hl, fun x hx => ?_⟩
   rcases hs.obj r _ ho with ⟨h1, h2⟩ | ⟨y, hy, hy'⟩
   ·rw [h2] at hx; cases hx
   ·rw [hx] at hy; cases hy; rw [hy'.t, hl]
  ·cases h
 ·cases h
theorem lies_of {E : Env} {w : World} {H : AH} (hs : Sim E w H) {r : Nat} {o : AObj} {x : Own} (h : H.at r = some o) (hx : E.ρ r = some x) : Lies E w o x := by
 rcases hs.obj r o h with ⟨_, h2⟩ | ⟨y, hy, hl⟩
 ·rw [h2] at hx; cases hx
 ·rw [hx] at hy; cases hy; exact hl
theorem cells_rep {E : Env} {x : AV} {v : Value} (h : Rep E x v) {cs : List AV} (hc : cellsOf x = some cs) : RepL E cs v.cells := by
 by_cases hx : ∃ ds, x = .agg ds
 ·obtain ⟨ds, rfl⟩ := hx
  simp only [cellsOf, Option.some.injEq] at hc; subst hc
  obtain ⟨vs, rfl, hl, hi⟩ := rep_agg h
  exact ⟨hl, hi⟩
 ·have h1 : cellA x = true := by
   cases x <;> first | rfl | (simp [cellsOf] at hc; done) | exact absurd ⟨_, rfl⟩ hx
  have h2 : cs = [x] := by
   cases x <;> first | (simp only [cellsOf, Option.some.injEq] at hc; exact hc.symm) | (simp [cellsOf] at hc; done) | exact absurd ⟨_, rfl⟩ hx
  have h3 : v.cells = #[v] := by
   have := cellA_ok h h1
   cases v <;> first | rfl | (simp [Value.oneCell'] at this; done)
  rw [h2, h3]
  refine ⟨rfl, fun i c u hc hu => ?_⟩
  match i, hc, hu with
  | 0, hc, hu => simp at hc hu; subst hc; subst hu; exact h
  | i + 1, hc, _ => simp at hc
theorem readAt_ok {P : Program} {E : Env} {w : World} {H : AH} (hs : Sim E w H) {n : Nat} {x : AV} {v : Value} (hx : Rep E x v) {cs : List AV} (hr : readAt H n x = some cs) :
 ∃ b off cells te q, v = .pointer (some ⟨b, off, none⟩) ∧ w.heap[b]? = some (.cells cells te q) ∧ off + n ≤ cells.size ∧ RepL E cs (cells.extract off (off + n)) := by
 unfold readAt at hr
 split at hr
 ·rename_i r i j tot
  split at hr
  ·rename_i o ho
   obtain ⟨hat, hlen, ht⟩ := live_of hs ho
   split at hr
   ·rename_i e he
    split at hr
    ·rename_i hj
     cases hr
     obtain ⟨y, hy, rfl⟩ := rep_ptr hx ht
     have hl := lies_of hs hat hy
     obtain ⟨cells, te, q, hb, hn, hq, _, hc⟩ := hl.blk
     have hie : i < o.length := by
      rcases Nat.lt_or_ge i o.length with h | h
      ·exact h
      ·rw [List.getElem?_eq_none h] at he; cases he
     have hsz : e.length = y.sz := hl.sz e (List.mem_of_getElem? he)
     have hfit : i * y.sz + j + n ≤ cells.size := by
      have h1 := hl.fits
      have h2 : (i + 1) * y.sz ≤ o.length * y.sz := Nat.mul_le_mul_right _ hie
      rw [Nat.add_mul] at h2; omega
     refine ⟨_, _, cells, te, q, rfl, hb, hfit, ?_, ?_⟩
     ·simp; omega
     ·intro k c u hk hu
      have hkn : k < n := by
       rcases Nat.lt_or_ge k n with h | h
       ·exact h
       ·rw [List.getElem?_eq_none (by simp; omega)] at hk; cases hk
      have hk' : e[j + k]? = some c := by
       rw [List.getElem?_take_of_lt hkn, List.getElem?_drop] at hk; exact hk
      have hu' : cells[i * y.sz + (j + k)]? = some u := by
       rw [Array.getElem?_extract] at hu
       split at hu
       ·rw [← hu]; congr 1; omega
       ·cases hu
      exact hc i e (j + k) c u he hk' hu'
    ·cases hr
   ·cases hr
  ·cases hr
 ·rename_i ds
  split at hr
  ·rename_i hn
   cases hr
   have hp := rep_fptr hx
   cases hp with
   | fptr _ b off cells t q hF hin hc =>
     refine ⟨b, off, cells, t, q, rfl, hs.frz _ _ (.inl hF), by omega, by simp; omega, ?_⟩
     intro k c u hk hu
     have hkn : k < n := by
      rcases Nat.lt_or_ge k n with h | h
      ·exact h
      ·rw [List.getElem?_eq_none (by simp; omega)] at hk; cases hk
     rw [List.getElem?_map, List.getElem?_take_of_lt hkn] at hk
     cases hd : ds[k]? with
     | none => rw [hd] at hk; cases hk
     | some d =>
       rw [hd] at hk; cases hk
       have hu' : cells[off + k]? = some u := by
        rw [Array.getElem?_extract] at hu
        split at hu
        ·exact hu
        ·cases hu
       exact .pure (hc k d u hd hu')
  ·cases hr
 ·cases hr
theorem ok_load {P : Program} {agg : Bool} {n : Nat} {x : Opd} {t : TypeId} {y : Operand} (hf : fit0 P (.load agg n x) (.load t y) = true) : Sound0 P (.load t y) (.load agg n x) := by
 intro E w H fr a v oper ho hs hr hv
 simp only [fit0, Bool.and_eq_true] at hf
 obtain ⟨⟨ht, hn⟩, hf⟩ := hf
 have ht := tiB_ok ht
 have hx := fitO_ok hr hf
 simp only [aop0] at hv
 cases hrd : readAt H n (evalA fr x) with
 | none => rw [hrd] at hv; cases hv
 | some cs =>
   rw [hrd] at hv; cases hv
   obtain ⟨b, off, cells, te, q, hv, hb, hin, hcs⟩ := readAt_ok (P := P) hs hx hrd
   have h1 : agg = false → n = 1 := by intro h; subst h; simpa using hn
   have hrun := run_loadVar_blk (P := P) ht hb hin h1
   refine ⟨if agg then .agg (cells.extract off (off + n)) else (cells[off]?).getD undef, ?_, ?_⟩
   ·simp only [execOp, ho]
    apply run_v
    simp only [Instr.loadAt, hv, Instr.sureAddr, Sem.run_bind, Sem.run_pure, Result.andThen]
    exact hrun
   ·cases agg with
    | true => exact .agg _ _ (by simpa using hcs.1) hcs.2
    | false =>
      have := h1 rfl; subst this
      simp only [unAgg, Bool.false_eq_true, if_false]
      have hl := hcs.1
      have h0 : cs[0]? = some (cs[0]'(by simp at hl; omega)) := List.getElem?_eq_getElem _
      rw [h0, Array.getElem?_eq_getElem (show off < cells.size from by omega)]
      exact hcs.2 0 _ _ h0 (by rw [Array.getElem?_extract]; simp; omega)
theorem ok_mv {P : Program} {x : Opd} {o : Op} (hf : fit0 P (.mv x) o = true) : Sound0 P o (.mv x) := by
 intro E w H fr a v oper ho hs hr hv
 simp only [aop0, Option.some.injEq] at hv; subst hv
 cases o <;> simp only [fit0, Bool.false_eq_true] at hf
 all_goals
  refine ⟨_, ?_, fitO_ok hr hf⟩
  simp only [execOp, ho]
  rfl
theorem ok_pick {P : Program} {c x y : Opd} {o : Op} (hf : fit0 P (.pick c x y) o = true) : Sound0 P o (.pick c x y) := by
 intro E w H fr a v oper ho hs hr hv
 cases o <;> simp only [fit0, Bool.and_eq_true, Bool.false_eq_true] at hf
 rename_i c' x' y'
 obtain ⟨⟨h1, h2⟩, h3⟩ := hf
 have hc := fitO_ok hr h1
 simp only [aop0] at hv
 split at hv
 ·rename_i he
  rw [he] at hc
  cases hv
  refine ⟨_, ?_, fitO_ok hr h2⟩
  simp only [execOp, ho, rep_bool hc, asBool, Sem.run_bind, Sem.run_pure, Result.andThen]
  rfl
 ·rename_i he
  rw [he] at hc
  cases hv
  refine ⟨_, ?_, fitO_ok hr h3⟩
  simp only [execOp, ho, rep_bool hc, asBool, Sem.run_bind, Sem.run_pure, Result.andThen]
  rfl
 ·cases hv
theorem ok_nilchk {P : Program} {x : Opd} {o : Op} (hf : fit0 P (.nilchk x) o = true) : Sound0 P o (.nilchk x) := by
 intro E w H fr a v oper ho hs hr hv
 cases o <;> simp only [fit0, Bool.false_eq_true] at hf
 rename_i x'
 have hx := fitO_ok hr hf
 simp only [aop0] at hv
 split at hv
 ·rename_i r i j tot he
  rw [he] at hx
  cases hl : liveO H r tot with
  | none => rw [hl] at hv; cases hv
  | some o =>
    rw [hl] at hv; cases hv
    obtain ⟨y, hy, hv⟩ := rep_ptr hx (live_of hs hl).2.2
    refine ⟨_, ?_, hx⟩
    simp only [execOp, ho, hv]; rfl
 ·rename_i cs he
  rw [he] at hx
  cases hv
  obtain ⟨b, off, cells, t, q, hv, _⟩ := rep_fptr_inv hx
  refine ⟨_, ?_, hx⟩
  simp only [execOp, ho, hv]; rfl
 ·cases hv
end Go.Proofs.YtemjlopoffjmpaaGreat.Abs
