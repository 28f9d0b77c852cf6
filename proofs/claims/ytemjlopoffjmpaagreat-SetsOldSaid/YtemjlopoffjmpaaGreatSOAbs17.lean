/-
  The abstract layer, part 17: make, the bytes of a string; all operations together.
-/
import Derived.Test.YtemjlopoffjmpaaGreatSOAbs16
set_option linter.unusedSimpArgs false
set_option linter.unusedVariables false
namespace Go.Proofs.YtemjlopoffjmpaaGreat.Abs
open Go
theorem wrap_small {n : Int} (h0 : 0 ≤ n) (h1 : n ≤ 1000000000) : IntKind.i64.wrap n = n := by
 unfold IntKind.wrap
 simp [IntKind.bits, IntKind.signed, Int.bmod]
 omega
theorem ok_mksl {P : Program} {sz bytes : Nat} {zero : List AV} {l c : Opd} {o : Op} (hf : fit1 P (.mksl sz bytes zero l c) o = true) : Sound1 P o (.mksl sz bytes zero l c) := by
 intro E w H fr a v H' oper ho hs hr hv
 cases o <;> simp only [fit1, Bool.false_eq_true, Bool.and_eq_true] at hf
 rename_i t l' c'
 obtain ⟨⟨ht, h1⟩, h2⟩ := hf
 have hl := fitO_ok hr h1
 have hc := fitO_ok hr h2
 obtain ⟨e, hte, hel⟩ : ∃ e, P.underlying t = some (.slice e) ∧ El P e sz bytes zero := by
  split at ht
  ·exact ⟨_, by assumption, elB_ok ht⟩
  ·cases ht
 obtain ⟨i, z, hi, hsi, hby, hz, hzc⟩ := hel.ex
 have hzr : RepL E zero z.cells := by have := repCs_ok (E := E) hzc; simpa using this
 have hzs : z.cells.size = sz := by rw [← hzr.1, hel.len]
 simp only [aop1] at hv
 split at hv
 ·rename_i k m k' n e1 e2
  rw [e1] at hl; rw [e2] at hc
  split at hv
  ·rename_i hok
   obtain ⟨h0, hmn, hn, hbb⟩ := hok
   cases hv
   have hzcells := zero_cells hzr n.toNat
   rw [hzs] at hzcells
   have hlenle : m.toNat * sz ≤ n.toNat * sz := Nat.mul_le_mul_right _ (by omega)
   have hrow : RowIs E sz ((Array.range (n.toNat * sz)).map (z.cells[· % sz]!)) (List.replicate m.toNat zero) := by
    intro j e' kk cc u hi' hk hu
    have hil : j < m.toNat := by
     rcases Nat.lt_or_ge j m.toNat with h' | h'
     ·exact h'
     ·rw [List.getElem?_eq_none (by simpa using h')] at hi'; cases hi'
    rw [List.getElem?_replicate, if_pos hil] at hi'
    cases hi'
    have hkl : kk < sz := by
     rcases Nat.lt_or_ge kk zero.length with h' | h'
     ·rw [hel.len] at h'; exact h'
     ·rw [List.getElem?_eq_none h'] at hk; cases hk
    have := mul_le_of_lt (sz := sz) hil
    have hidx : (j * sz + kk) % sz = kk := by
     rw [Nat.add_comm, Nat.add_mul_mod_self_right]
     exact Nat.mod_eq_of_lt hkl
    rw [Array.getElem?_map, Array.getElem?_range, if_pos (by omega)] at hu
    simp only [Option.map_some, Option.some.injEq, hidx] at hu
    have hkz : kk < z.cells.size := by rw [hzs]; exact hkl
    rw [getElem!_pos z.cells kk hkz] at hu
    exact hzr.2 kk cc u hk (by rw [← hu]; exact Array.getElem?_eq_getElem hkz)
   have hone : ∀ (j : Nat) u, ((Array.range (n.toNat * sz)).map (z.cells[· % sz]!))[j]? = some u → u.oneCell' = true := by
    have := zeroCells_ones hzr hel.all n.toNat
    unfold Builtin.zeroCells at this
    rw [hzs] at this
    exact this
   obtain ⟨hle, hsim⟩ := hs.new (List.replicate m.toNat zero) sz ((Array.range (n.toNat * sz)).map (z.cells[· % sz]!)) e (0, 0) hel.pos (.inl rfl)
    (fun e' he' => by rw [List.eq_of_mem_replicate he', hel.len]) (by simp; exact hlenle) hone hrow
   refine ⟨.slice (some ⟨w.heap.size, 0, none⟩) m.toNat n.toNat, _, _, .inl ?_, hle, hsim, ?_⟩
   ·simp only [execOp, ho, rep_int hl, rep_int hc]
    apply run_v
    have hti : (typeInfo e).run P w = .ok i w := by
     unfold typeInfo; simp only [Sem.run_bind, program, Sem.run, Result.andThen, hi]; rfl
    have hzv : (zeroValue e).run P w = .ok z w := by
     unfold zeroValue; simp only [Sem.run_bind, hti, Result.andThen, hz, Sem.run_pure]
    have hw1 := wrap_small (n := m) h0 (by omega)
    have hw2 := wrap_small (n := n) (by omega) hn
    have hmulb : (bytes : Int) * n ≤ 10000 * 1000000000 := by
     refine Int.le_trans (Int.mul_le_mul_of_nonneg_right (c := n) (show (bytes : Int) ≤ 10000 by omega) (by omega)) ?_
     omega
    have hcond : ((decide (n < 0) || decide ((bytes : Int) * n > 2 ^ 48)) = true ∨ decide (m < 0) = true ∨ decide (m > n) = true) = False := by
     simp; omega
    unfold Instr.makeSlice
    simp only [Sem.run_bind, run_underlying hte, Result.andThen, asInt, asIntOf, Sem.run_pure, hti, hby, hw1, hw2]
    rw [if_neg (by simp; omega)]
    simp only [Sem.run_bind, run_askRoom, Result.andThen, run_sizeOf' hi, hsi]
    by_cases h00 : n.toNat * sz = 0
    ·simp only [h00, if_true, Sem.run_pure, Sem.run_bind, Result.andThen, newRow, newObj, Sem.run]
     have e2 : ∀ f g : Nat → Value, (Array.range 0).map f = (Array.range 0).map g := fun f g => by simp
     rw [e2 _ (fun x => z.cells[x % sz]!)]
     rfl
    ·simp only [if_neg h00, Sem.run_bind, hzv, Result.andThen, Sem.run_pure, newRow, newObj, Sem.run, hzs]
     rfl
   ·have := Rep.own (E := E.with H.length ⟨w.heap.size, sz, ((Array.range (n.toNat * sz)).map (z.cells[· % sz]!)).size, (List.replicate m.toNat zero).length⟩) H.length sz 0 m.toNat m.toNat n.toNat _ (Env.with_same _ _ _) (by simp) rfl (by omega) (by omega) (by omega) (by simp)
    simpa using this
  ·cases hv
 ·cases hv
theorem ok_convsb {P : Program} {x : Opd} {o : Op} (hf : fit1 P (.convsb x) o = true) : Sound1 P o (.convsb x) := by
 intro E w H fr a v H' oper ho hs hr hv
 cases o <;> simp only [fit1, Bool.false_eq_true, Bool.and_eq_true] at hf
 rename_i s t y
 obtain ⟨⟨h1, h2⟩, h3⟩ := hf
 have hx := fitO_ok hr h3
 have hus : P.underlying s = some .string := by
  split at h1 <;> first | assumption | cases h1
 obtain ⟨e, hut, hue⟩ : ∃ e, P.underlying t = some (.slice e) ∧ P.underlying e = some (.int .u8) := by
  split at h2
  ·split at h2
   ·exact ⟨_, by assumption, by assumption⟩
   ·cases h2
  ·cases h2
 simp only [aop1] at hv
 split at hv
 ·rename_i str e1
  rw [e1] at hx
  cases hv
  have hbs : (⟨str.toArray⟩ : ByteArray).size = str.length := by simp [ByteArray.size]
  have hrun0 := run_bytes_of_string (P := P) w s t e ⟨str.toArray⟩ hus hut hue
  rw [hbs] at hrun0
  have hcut : str.length ≤ grownCap w str.length 0 e := grownCap_ge w _ _ _
  generalize hnc : grownCap w str.length 0 e = nc at hcut hrun0
  let cells : Array Value := (str.toArray.map fun b => Value.int .u8 b.toNat) ++ Array.replicate (nc - str.length) (.int .u8 0)
  have hcs : cells.size = nc := by simp [cells]; omega
  have hbr : bytesRow ⟨str.toArray⟩ nc = cells := by
   simp only [bytesRow, cells, hbs]
  rw [hbr, hcs] at hrun0
  have hsd : Sim E w.drew H := hs.drawn (w.drawn + 1)
  obtain ⟨hle, hsim⟩ := hsd.new (str.map fun b => [AV.int .u8 b.toNat]) 1 cells e (nc, nc + 1) (by omega) (.inr (by omega)) (by simp) (by simp; omega)
   (by
    intro i v hv
    simp only [cells] at hv
    rw [Array.getElem?_append] at hv
    split at hv
    ·rw [Array.getElem?_map] at hv
     cases hb : str.toArray[i]? with
     | none => rw [hb] at hv; cases hv
     | some b => rw [hb] at hv; cases hv; rfl
    ·rw [Array.getElem?_replicate] at hv
     split at hv
     ·cases hv; rfl
     ·cases hv)
   (by
    intro i e' k c u hi hk hu
    rw [List.getElem?_map] at hi
    cases hb : str[i]? with
    | none => rw [hb] at hi; cases hi
    | some b =>
      rw [hb] at hi; cases hi
      have hil : i < str.length := by
       rcases Nat.lt_or_ge i str.length with h' | h'
       ·exact h'
       ·rw [List.getElem?_eq_none h'] at hb; cases hb
      match k, hk with
      | 0, hk =>
        simp at hk; subst hk
        simp only [cells] at hu
        rw [Array.getElem?_append_left (by simp; omega), Nat.mul_one, Nat.add_zero, Array.getElem?_map, List.getElem?_toArray, hb] at hu
        cases hu
        exact .pure (x := .int _ _) (.int _ _)
      | k + 1, hk => simp at hk)
  refine ⟨.slice (some ⟨w.heap.size, 0, none⟩) str.length nc, _, _, .inl ?_, hle, hsim, ?_⟩
  ·simp only [execOp, ho, rep_str hx]
   apply run_v
   exact hrun0
  ·have := Rep.own (E := E.with H.length ⟨w.drew.heap.size, 1, cells.size, (str.map fun b => [AV.int .u8 b.toNat]).length⟩) H.length 1 0 str.length str.length nc _ (Env.with_same _ _ _) (by simp) rfl (by omega) hcut (by omega) (by simp [hcs])
   simpa using this
 ·cases hv
theorem ok_1 {P : Program} {ao : AOp} {o : Op} (hf : fit1 P ao o = true) : Sound1 P o ao := by
 cases ao
 case alloc => exact ok_alloc hf
 case box => exact ok_box hf
 case bslice => exact ok_bslice hf
 case store => exact ok_store hf
 case convsb => exact ok_convsb hf
 case mksl => exact ok_mksl hf
 case append => exact ok_append hf
 case copy => exact ok_copy hf
 case clear => exact ok_clear hf
 all_goals (cases o <;> simp only [fit1, Bool.false_eq_true] at hf)
def aop (op : AOp) (ev : Opd → AV) (H : AH) : Option (AV × AH) :=
 match aop0 op ev H with
 | some v => some (v, H)
 | none => aop1 op ev H
theorem aop_0 {op : AOp} {ev : Opd → AV} {H : AH} {v : AV} (h : aop0 op ev H = some v) : aop op ev H = some (v, H) := by
 unfold aop; rw [h]
theorem ok_op {P : Program} {ao : AOp} {o : Op} (hf : (fit0 P ao o || fit1 P ao o) = true) {E : Env} {w : World} {H : AH} {fr : List AV} {a : Act} {v : AV} {H' : AH} {oper : Oper} (ho : oper.op = o) (hs : Sim E w H)
 (hr : RepL E fr a.tmps) (h : aop ao (evalA fr) H = some (v, H')) :
 ∃ u w' E', ((execOp a.eval oper).run P w = .ok (.value u) w' ∨ ((execOp a.eval oper).run P w = .ok .skip w' ∧ u = undef)) ∧ Le E E' ∧ Sim E' w' H' ∧ Rep E' v u := by
 unfold aop at h
 rw [Bool.or_eq_true] at hf
 have k1 : ∀ (h0 : fit1 P ao o = true), aop0 ao (evalA fr) H = none := by
  intro h0
  cases ao <;> first | rfl | (cases o <;> simp only [fit1, Bool.false_eq_true] at h0)
 have k0 : ∀ (h0 : fit0 P ao o = true), aop1 ao (evalA fr) H = none := by
  intro h0
  cases ao <;> first | rfl | (cases o <;> simp only [fit0, Bool.false_eq_true] at h0)
 rcases hf with hf | hf
 ·rw [k0 hf] at h
  split at h
  ·rename_i v' hv
   cases h
   obtain ⟨u, h1, h2⟩ := ok_0 hf E w H fr a v oper ho hs hr hv
   exact ⟨u, w, E, .inl h1, Le.refl E, hs, h2⟩
  ·cases h
 ·rw [k1 hf] at h
  exact ok_1 hf E w H fr a v H' oper ho hs hr h
end Go.Proofs.YtemjlopoffjmpaaGreat.Abs
