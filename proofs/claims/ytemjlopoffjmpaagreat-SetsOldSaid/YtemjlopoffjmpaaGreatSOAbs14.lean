/-
  The abstract layer, part 14: the operations of part 12 do what is told (2): append, copy, clear, make, bytes of a string.
-/
import Derived.Test.YtemjlopoffjmpaaGreatSOAbs13
set_option linter.unusedSimpArgs false
set_option linter.unusedVariables false
namespace Go.Proofs.YtemjlopoffjmpaaGreat.Abs
open Go
theorem set_same {H : AH} {r : Nat} {o : AObj} (h : H.at r = some o) : H.set r (some o) = H := by
 unfold AH.at at h
 apply List.ext_getElem?
 intro i
 rw [List.getElem?_set]
 split
 ·rename_i e; subst e
  split
  ·cases hr : H[r]? with
   | none => rw [hr] at h; cases h
   | some x => rw [hr] at h; simp at h; rw [h]
  ·rename_i h'; rw [List.getElem?_eq_none (by omega)]
 ·rfl
theorem Sim.newEmpty {E : Env} {w : World} {H : AH} (h : Sim E w H) : Sim E w (H ++ [some []]) := by
 have hn : E.ρ H.length = none := by
  cases hρ : E.ρ H.length with
  | none => rfl
  | some x => have := h.dom _ _ hρ; omega
 have key : ∀ {r o}, AH.at (H ++ [some []]) r = some o → H.at r = some o ∨ (r = H.length ∧ o = []) := by
  intro r o hr
  rcases Nat.lt_trichotomy r H.length with h1 | h1 | h1
  ·rw [at_append_lt _ h1] at hr; exact .inl hr
  ·subst h1; rw [at_append_eq] at hr; cases hr; exact .inr ⟨rfl, rfl⟩
  ·rw [at_append_gt _ h1] at hr; cases hr
 refine ⟨h.os, h.tape, h.output, h.frz, h.disj, fun r x hr => ?_, fun r o hr => ?_, fun r r' o o' x x' h1 h2 h3 h4 hb => ?_⟩
 ·have := h.dom r x hr; simp; omega
 ·rcases key hr with h1 | ⟨rfl, rfl⟩
  ·exact h.obj r o h1
  ·exact .inl ⟨rfl, hn⟩
 ·rcases key h1 with h1 | ⟨rfl, rfl⟩
  ·rcases key h2 with h2 | ⟨rfl, rfl⟩
   ·exact h.inj r r' o o' x x' h1 h2 h3 h4 hb
   ·rw [hn] at h4; cases h4
  ·rw [hn] at h3; cases h3
structure El (P : Program) (e : TypeId) (sz bytes : Nat) (zero : List AV) : Prop where
 ex : ∃ i z, P.info? e = some i ∧ i.size = sz ∧ i.bytes = bytes ∧ i.zero = some z ∧ repCs zero z.cells.toList = true
 pos : 0 < sz
 len : zero.length = sz
 all : zero.all cellA = true
theorem elB_ok {P : Program} {e : TypeId} {sz bytes : Nat} {zero : List AV} (h : elB P e sz bytes zero = true) : El P e sz bytes zero := by
 unfold elB at h
 split at h
 ·rename_i i hi
  simp only [Bool.and_eq_true, decide_eq_true_eq] at h
  obtain ⟨⟨⟨⟨⟨h1, h2⟩, h3⟩, h4⟩, h5⟩, h6⟩ := h
  split at h6
  ·exact ⟨⟨i, _, hi, h1, h2, by assumption, h6⟩, h3, h4, h5⟩
  ·cases h6
 ·cases h
theorem run_askRoom {P : Program} (n : Nat) (w : World) : (askRoom n).run P w = .ok () w := by
 unfold askRoom; split <;> rfl
theorem run_append_in {P : Program} {w : World} {t u e : TypeId} {sz bytes : Nat} {zero : List AV} (ty : TypeId) (ht : P.underlying t = some (.slice e)) (hel : El P e sz bytes zero)
 (hu : ∃ d, P.underlying u = some d ∧ ∀ k, d ≠ .int k) {v : Value} {n : Nat} {us : Array Value} (hlen : (Builtin.lenOf v).run P w = .ok n w) (hfc : (Builtin.firstCells sz n v).run P w = .ok us w)
 (h1 : ∀ x ∈ us.toList, x.oneCell' = true) {b off len cap : Nat} {cells : Array Value} {te : TypeId} {q : Nat × Nat} (hb : w.heap[b]? = some (.cells cells te q)) (hq : q = (0, 0) ∨ cells.size ≤ q.1)
 (hroom : len + n ≤ cap) (hfit : off + len * sz + us.size ≤ cells.size) :
 (Builtin.append_ #[t, u] ty #[.slice (some ⟨b, off, none⟩) len cap, v]).run P w = .ok (.slice (some ⟨b, off, none⟩) (len + n) cap) (putBlk w b (.cells (splice cells (off + len * sz) us.toList) te q)) := by
 obtain ⟨i, z, hi, hs, _⟩ := hel.ex
 obtain ⟨d, hd, hdk⟩ := hu
 have hst := run_store_row P b te q (off + len * sz) us.toList 0 cells w hb hq (by simp; omega) h1
 rw [Nat.add_zero] at hst
 unfold Builtin.append_
 simp only [List.getElem?_toArray, List.getElem?_cons_zero, List.getElem?_cons_succ, Sem.run_bind, run_underlying ht, Result.andThen, run_sizeOf' hi, hs, run_underlying hd, Sem.run_pure]
 have hm : (match d with | .int _ => true | _ => false) = false := by
  cases d <;> first | rfl | exact absurd rfl (hdk _)
 simp only [hm, Bool.false_eq_true, if_false, hlen, if_pos hroom, Bool.not_false, if_true, hfc, Sem.run_bind, Result.andThen, addr_add, hst, Sem.run_pure]
theorem run_append_out {P : Program} {w : World} {t u e : TypeId} {sz bytes : Nat} {zero : List AV} (ty : TypeId) (ht : P.underlying t = some (.slice e)) (hel : El P e sz bytes zero)
 (hu : ∃ d, P.underlying u = some d ∧ ∀ k, d ≠ .int k) {v : Value} {n : Nat} {us old : Array Value} {base : Option Addr} {len cap : Nat} (hlen : (Builtin.lenOf v).run P w = .ok n w)
 (hfc : (Builtin.firstCells sz n v).run P w.drew = .ok us w.drew) (hold : (Builtin.firstCells sz len (.slice base len cap)).run P w.drew = .ok old w.drew)
 (hroom : cap < len + n) (hsmall : len + n ≤ 1000000000) (hby : (len + n) * bytes ≤ 1000000000000) :
 ∃ (nc : Nat) (k : Nat) (z : Value), len + n ≤ nc ∧ RepL ⟨fun _ => none, fun _ => none, fun _ => none, w.os, w.tape, w.output⟩ zero z.cells ∧
   (Builtin.append_ #[t, u] ty #[.slice base len cap, v]).run P w = .ok (.slice (some ⟨w.heap.size, 0, none⟩) (len + n) nc) (World.alloc { w with drawn := k } (.cells (old ++ us ++ Builtin.zeroCells z.cells (nc - (len + n))) e)) := by
 obtain ⟨i, z, hi, hs, hb, hz, hzc⟩ := hel.ex
 obtain ⟨d, hd, hdk⟩ := hu
 have hzr : RepL ⟨fun _ => none, fun _ => none, fun _ => none, w.os, w.tape, w.output⟩ zero z.cells := by have := repCs_ok (E := ⟨fun _ => none, fun _ => none, fun _ => none, w.os, w.tape, w.output⟩) hzc; simpa using this
 refine ⟨Question.cut (.appendCap (len + n) cap e) (w.tape w.drawn (.appendCap (len + n) cap e)), w.drawn + 1, z, by simp [Question.cut], hzr, ?_⟩
 unfold Builtin.append_
 simp only [List.getElem?_toArray, List.getElem?_cons_zero, List.getElem?_cons_succ, Sem.run_bind, run_underlying ht, Result.andThen, run_sizeOf' hi, hs, run_underlying hd, Sem.run_pure]
 have hm : (match d with | .int _ => true | _ => false) = false := by
  cases d <;> first | rfl | exact absurd rfl (hdk _)
 have hti : ∀ w', (typeInfo e).run P w' = .ok i w' := by
  intro w'; unfold typeInfo; simp only [Sem.run_bind, program, Sem.run, Result.andThen, hi]; rfl
 have hzv : ∀ w', (zeroValue e).run P w' = .ok z w' := by
  intro w'; unfold zeroValue; simp only [Sem.run_bind, hti, Result.andThen, hz, Sem.run_pure]
 have hfit := growslice_fits hroom (show (len + n) * bytes ≤ 140737488355328 by omega)
 have hmax : ¬ ((len + n : Nat) : Int) > IntKind.i64.max := by simp [IntKind.max, IntKind.bits, IntKind.signed]; omega
 simp only [hm, Bool.false_eq_true, if_false, hlen, if_neg (show ¬ len + n ≤ cap by omega), Sem.run_bind, hti, Result.andThen, hb]
 rw [if_neg (by rintro ⟨h, _⟩; exact hmax h)]
 simp only [Sem.run_bind, hti, Result.andThen, hb]
 rw [if_neg (by omega)]
 simp only [Sem.run_bind, run_choose_drew, Question.forced, Bool.false_eq_true, if_false, Result.andThen, run_askRoom, hold, Bool.not_false, if_true, hfc, hzv, newRow, newObj, Sem.run_pure, Sem.run, hti]
 rfl
theorem fit_ty {P : Program} {u : TypeId} (h : (match P.underlying u with | some (.int _) => false | none => false | some _ => true) = true) : ∃ d, P.underlying u = some d ∧ ∀ k, d ≠ .int k := by
 split at h
 ·cases h
 ·cases h
 ·rename_i d hne hd
  exact ⟨d, hd, fun k hk => by subst hk; exact hne k rfl⟩
end Go.Proofs.YtemjlopoffjmpaaGreat.Abs
