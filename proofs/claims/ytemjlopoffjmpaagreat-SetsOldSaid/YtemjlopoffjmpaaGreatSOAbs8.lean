/-
  The abstract layer, part 8: the operations of part 5 do what is told (3): slices and addresses.
-/
import Derived.Test.YtemjlopoffjmpaaGreatSOAbs7
set_option linter.unusedSimpArgs false
set_option linter.unusedVariables false
namespace Go.Proofs.YtemjlopoffjmpaaGreat.Abs
open Go
theorem ok_faddr {P : Program} {off : Nat} {x : Opd} {o : Op} (hf : fit0 P (.faddr off x) o = true) : Sound0 P o (.faddr off x) := by
 intro E w H fr a v oper ho hs hr hv
 cases o <;> simp only [fit0, Bool.and_eq_true, Bool.false_eq_true] at hf
 rename_i t y f
 obtain ⟨ht, h1⟩ := hf
 have hx := fitO_ok hr h1
 obtain ⟨fs, g, i, hu, hg, hoff, hi, hsz⟩ : ∃ fs g i, P.underlying t = some (.struct fs) ∧ fs[f]? = some g ∧ g.offset = off ∧ P.info? g.type = some i ∧ i.size ≠ 0 := by
  split at ht
  ·split at ht
   ·rw [Bool.and_eq_true] at ht
    obtain ⟨h2, h3⟩ := ht
    split at h3
    ·exact ⟨_, _, _, by assumption, by assumption, by simpa using h2, by assumption, by simpa using h3⟩
    ·cases h3
   ·cases ht
  ·cases ht
 have key : ∀ b k, a.eval y = .pointer (some ⟨b, k, none⟩) → (execOp a.eval oper).run P w = .ok (.value (.pointer (some ⟨b, k + off, none⟩))) w := by
  intro b k he
  simp only [execOp, ho]
  apply run_v
  simp only [Instr.fieldAt, Sem.run_bind, run_underlying hu, Result.andThen, hg, he, Instr.sureAddr, Sem.run_pure, fieldPlace, run_sizeOf' hi, if_neg hsz, addr_add, hoff]
 simp only [aop0] at hv
 split at hv
 ·rename_i r k j tot e
  rw [e] at hx
  cases hl : liveO H r tot with
  | none => rw [hl] at hv; cases hv
  | some o =>
    rw [hl] at hv; cases hv
    obtain ⟨x', hx', he⟩ := rep_ptr hx (live_of hs hl).2.2
    refine ⟨_, key _ _ he, ?_⟩
    rw [Nat.add_assoc]
    exact .ptr r k (j + off) tot x' hx' ((live_of hs hl).2.2 x' hx')
 ·rename_i cs e
  rw [e] at hx
  split at hv
  ·rename_i hle
   cases hv
   obtain ⟨b, k, cells, te, q, he, hF, hin, hc⟩ := rep_fptr_inv hx
   refine ⟨_, key _ _ he, .pure (x := .fptr _) (.fptr _ b (k + off) cells te q hF (by simp; omega) ?_)⟩
   intro m c u hm hu'
   rw [List.getElem?_drop] at hm
   exact hc (off + m) c u hm (by rw [← hu']; congr 1; omega)
  ·cases hv
 ·cases hv
theorem ok_iaddr {P : Program} {sz : Nat} {x i : Opd} {o : Op} (hf : fit0 P (.iaddr sz x i) o = true) : Sound0 P o (.iaddr sz x i) := by
 intro E w H fr a v oper ho hs hr hv
 cases o <;> simp only [fit0, Bool.and_eq_true, Bool.false_eq_true] at hf
 rename_i t y j
 obtain ⟨⟨ht, h1⟩, h2⟩ := hf
 have hx := fitO_ok hr h1
 have hi := fitO_ok hr h2
 obtain ⟨et, inf, hu, hinf, hsz⟩ : ∃ e inf, P.underlying t = some (.slice e) ∧ P.info? e = some inf ∧ inf.size = sz := by
  split at ht
  ·split at ht
   ·exact ⟨_, _, by assumption, by assumption, by simpa using ht⟩
   ·cases ht
  ·cases ht
 have key : ∀ b k len cap kk n, a.eval y = .slice (some ⟨b, k, none⟩) len cap → a.eval j = .int kk n → 0 ≤ n → n < len →
  (execOp a.eval oper).run P w = .ok (.value (.pointer (some ⟨b, k + n.toNat * sz, none⟩))) w := by
  intro b k len cap kk n he hj h0 hlt
  simp only [execOp, ho]
  apply run_v
  simp only [Instr.indexAt, hj, he, asIntOf, Sem.run_bind, Sem.run_pure, Result.andThen, run_underlying hu, if_pos (And.intro h0 hlt), run_sizeOf' hinf, hsz, addr_add]
 simp only [aop0] at hv
 split at hv
 ·rename_i es kk n e1 e2
  rw [e1] at hx; rw [e2] at hi
  split at hv
  ·rename_i h0
   split at hv
   ·rename_i e he
    split at hv
    ·rename_i hle
     cases hv
     have hlt : n.toNat < es.length := by
      rcases Nat.lt_or_ge n.toNat es.length with h | h
      ·exact h
      ·rw [List.getElem?_eq_none h] at he; cases he
     obtain ⟨ad, cap, hv', hcap, hne⟩ := rep_fz_inv hx
     obtain ⟨b, off, sz', cells, te, q, rfl, hF, hsz', hin, hc⟩ := hne (by rintro rfl; simp at hlt)
     have hsz'' : sz' = sz := by rw [← hsz' e (List.mem_of_getElem? he), hle]
     subst hsz''
     refine ⟨_, key b off _ cap kk n hv' (rep_int hi) h0 (by omega), .pure (x := .fptr _) (.fptr _ b _ cells te q hF ?_ ?_)⟩
     ·have h3 : (n.toNat + 1) * sz' ≤ es.length * sz' := Nat.mul_le_mul_right _ hlt
      rw [Nat.add_mul] at h3; omega
     ·intro k c u hk hu'
      exact hc n.toNat e k c u he hk (by rw [← hu']; congr 1; omega)
    ·cases hv
   ·cases hv
  ·cases hv
 ·rename_i r sz' off len tot kk n e1 e2
  rw [e1] at hx; rw [e2] at hi
  split at hv
  ·rename_i h0
   obtain ⟨h0, hlt, rfl⟩ := h0
   cases hl : liveO H r tot with
   | none => rw [hl] at hv; cases hv
   | some o =>
     rw [hl] at hv; cases hv
     obtain ⟨hat, hlen, htt⟩ := live_of hs hl
     rcases rep_own hx htt with ⟨ad, z1, z2, z3, _⟩ | ⟨x', cap, hx', hsz', g1, g2, g3, g4, hv'⟩
     ·omega
     ·refine ⟨_, key _ _ len cap kk n hv' (rep_int hi) h0 hlt, ?_⟩
      have := Rep.ptr (E := E) r (off + n.toNat) 0 tot x' hx' (htt _ hx')
      rw [hsz', Nat.add_mul, Nat.add_zero] at this
      rw [hsz']
      exact this
  ·cases hv
 ·cases hv
theorem ok_iaddra {P : Program} {len sz : Nat} {x i : Opd} {o : Op} (hf : fit0 P (.iaddra len sz x i) o = true) : Sound0 P o (.iaddra len sz x i) := by
 intro E w H fr a v oper ho hs hr hv
 cases o <;> simp only [fit0, Bool.and_eq_true, Bool.false_eq_true] at hf
 rename_i t y j
 obtain ⟨⟨ht, h1⟩, h2⟩ := hf
 have hx := fitO_ok hr h1
 have hi := fitO_ok hr h2
 obtain ⟨et, inf, hu, hinf, hsz⟩ : ∃ e inf, P.underlying t = some (.array len e) ∧ P.info? e = some inf ∧ inf.size = sz := by
  split at ht
  ·rw [Bool.and_eq_true, decide_eq_true_eq] at ht
   obtain ⟨rfl, ht⟩ := ht
   split at ht
   ·exact ⟨_, _, by assumption, by assumption, by simpa using ht⟩
   ·cases ht
  ·cases ht
 have key : ∀ b k kk n, a.eval y = .pointer (some ⟨b, k, none⟩) → a.eval j = .int kk n → 0 ≤ n → n < len →
  (execOp a.eval oper).run P w = .ok (.value (.pointer (some ⟨b, k + n.toNat * sz, none⟩))) w := by
  intro b k kk n he hj h0 hlt
  simp only [execOp, ho]
  apply run_v
  simp only [Instr.indexAt, hj, he, asIntOf, Sem.run_bind, Sem.run_pure, Result.andThen, run_underlying hu, Instr.sureAddr, if_pos (And.intro h0 hlt), run_sizeOf' hinf, hsz, addr_add]
 simp only [aop0] at hv
 split at hv
 ·rename_i r k j' tot kk n e1 e2
  rw [e1] at hx; rw [e2] at hi
  split at hv
  ·rename_i h0
   cases hl : liveO H r tot with
   | none => rw [hl] at hv; cases hv
   | some o =>
     rw [hl] at hv; cases hv
     obtain ⟨x', hx', he⟩ := rep_ptr hx (live_of hs hl).2.2
     refine ⟨_, key _ _ kk n he (rep_int hi) h0.1 h0.2, ?_⟩
     rw [Nat.add_assoc]
     exact .ptr r k _ tot x' hx' ((live_of hs hl).2.2 x' hx')
  ·cases hv
 ·rename_i cs kk n e1 e2
  rw [e1] at hx; rw [e2] at hi
  split at hv
  ·rename_i h0
   cases hv
   obtain ⟨b, k, cells, te, q, he, hF, hin, hc⟩ := rep_fptr_inv hx
   refine ⟨_, key _ _ kk n he (rep_int hi) h0.1 h0.2.1, .pure (x := .fptr _) (.fptr _ b _ cells te q hF (by simp; omega) ?_)⟩
   intro m c u hm hu'
   rw [List.getElem?_drop] at hm
   exact hc _ c u hm (by rw [← hu']; congr 1; omega)
  ·cases hv
 ·cases hv
theorem ok_indexs {P : Program} {x i : Opd} {o : Op} (hf : fit0 P (.indexs x i) o = true) : Sound0 P o (.indexs x i) := by
 intro E w H fr a v oper ho hs hr hv
 cases o <;> simp only [fit0, Bool.and_eq_true, Bool.false_eq_true] at hf
 rename_i t y j
 obtain ⟨⟨ht, h1⟩, h2⟩ := hf
 have hx := fitO_ok hr h1
 have hi := fitO_ok hr h2
 have hu : P.underlying t = some .string := by
  split at ht <;> first | assumption | cases ht
 simp only [aop0] at hv
 split at hv
 ·rename_i s kk n e1 e2
  rw [e1] at hx; rw [e2] at hi
  split at hv
  ·rename_i h0
   cases hb : s[n.toNat]? with
   | none => rw [hb] at hv; cases hv
   | some b =>
     rw [hb] at hv; cases hv
     refine ⟨_, ?_, .pure (x := .int _ _) (.int _ _)⟩
     simp only [execOp, ho]
     apply run_v
     have hb' : (⟨s.toArray⟩ : ByteArray)[n.toNat]? = some b := by
      have hlt : n.toNat < s.length := by
       rcases Nat.lt_or_ge n.toNat s.length with h | h
       ·exact h
       ·rw [List.getElem?_eq_none h] at hb; cases hb
      have hlt' : n.toNat < (⟨s.toArray⟩ : ByteArray).size := by simpa [ByteArray.size] using hlt
      rw [getElem?_pos (⟨s.toArray⟩ : ByteArray) n.toNat hlt']
      rw [List.getElem?_eq_getElem hlt] at hb
      cases hb
      rfl
     simp only [Instr.index, rep_int hi, rep_str hx, asIntOf, Sem.run_bind, Sem.run_pure, Result.andThen, run_underlying hu, if_pos h0, hb']
  ·cases hv
 ·cases hv
theorem ok_field {P : Program} {agg : Bool} {off n : Nat} {x : Opd} {o : Op} (hf : fit0 P (.field agg off n x) o = true) : Sound0 P o (.field agg off n x) := by
 intro E w H fr a v oper ho hs hr hv
 cases o <;> simp only [fit0, Bool.and_eq_true, Bool.false_eq_true] at hf
 rename_i t y f
 obtain ⟨ht, h1⟩ := hf
 have hx := fitO_ok hr h1
 obtain ⟨fs, g, hu, hg, hoff, htb, hn⟩ : ∃ fs g, P.underlying t = some (.struct fs) ∧ fs[f]? = some g ∧ g.offset = off ∧ tiB P g.type agg n = true ∧ (agg || decide (n = 1)) = true := by
  split at ht
  ·split at ht
   ·rw [Bool.and_eq_true, Bool.and_eq_true] at ht
    obtain ⟨⟨h2, h3⟩, h4⟩ := ht
    exact ⟨_, _, by assumption, by assumption, by simpa using h2, h3, h4⟩
   ·cases ht
  ·cases ht
 have ti := tiB_ok htb
 obtain ⟨i, hi, hin⟩ := ti.info
 simp only [aop0] at hv
 split at hv
 ·rename_i cs e
  rw [e] at hx
  split at hv
  ·rename_i hle
   cases hv
   obtain ⟨vs, he, hl, hc⟩ := rep_agg hx
   cases agg with
   | true =>
     refine ⟨.agg (vs.extract off (off + n)), ?_, .agg _ _ (by simp; omega) ?_⟩
     ·simp only [execOp, ho]
      apply run_v
      simp only [Instr.field, he, asAgg, Sem.run_bind, Sem.run_pure, Result.andThen, run_underlying hu, hg, part, run_isAgg ti, if_true, run_sizeOf' hi, hin, hoff]
     ·intro k c u hk hu'
      have hkn : k < n := by
       rcases Nat.lt_or_ge k n with h | h
       ·exact h
       ·rw [List.getElem?_eq_none (by simp; omega)] at hk; cases hk
      rw [List.getElem?_take_of_lt hkn, List.getElem?_drop] at hk
      rw [Array.getElem?_extract] at hu'
      split at hu'
      ·exact hc _ c u hk hu'
      ·cases hu'
   | false =>
     have : n = 1 := by simpa using hn
     subst this
     have h0 : vs[off]? = some (vs[off]'(by omega)) := Array.getElem?_eq_getElem _
     refine ⟨vs[off]'(by omega), ?_, ?_⟩
     ·simp only [execOp, ho]
      apply run_v
      simp only [Instr.field, he, asAgg, Sem.run_bind, Sem.run_pure, Result.andThen, run_underlying hu, hg, part, run_isAgg ti, hoff, h0, Bool.false_eq_true, if_false]
     ·simp only [unAgg, Bool.false_eq_true, if_false]
      have : ((cs.drop off).take 1)[0]? = some (cs[off]'(by omega)) := by
       rw [List.getElem?_take_of_lt (by omega), List.getElem?_drop]; simp
      rw [this]
      exact hc off _ _ (List.getElem?_eq_getElem (by omega)) h0
  ·cases hv
 ·cases hv
end Go.Proofs.YtemjlopoffjmpaaGreat.Abs
