/-
  The abstract layer, part 28: contracts of the library's functions from the kit's shelf.
-/
import Derived.Test.YtemjlopoffjmpaaGreatSOAbs27
import Derived.Below
set_option linter.unusedSimpArgs false
set_option linter.unusedVariables false
namespace Go.Proofs.YtemjlopoffjmpaaGreat.Abs
open Go Go.Proofs Go.RowKit
section
variable {P : Program}
theorem Sim.below {E : Env} {w w' : World} {H : AH} (h : Sim E w H) (hb : Below w.heap.size w w') : Sim E w' H := by
 have key : ∀ (b : Nat) o, w.heap[b]? = some o → w'.heap[b]? = some o := fun b o hbo => by
  have hlt : b < w.heap.size := by
   rcases Nat.lt_or_ge b w.heap.size with h | h
   ·exact h
   ·rw [Array.getElem?_eq_none h] at hbo; cases hbo
  rw [hb.block b hlt, hbo]
 refine ⟨hb.os.trans h.os, hb.tape.trans h.tape, hb.output.trans h.output, fun b o ho => key b o (h.frz b o ho), h.disj, h.dom, fun r o hr => ?_, h.inj⟩
 rcases h.obj r o hr with h' | ⟨x, hx, hl⟩
 ·exact .inl h'
 ·obtain ⟨cells, t, q, hc, rest⟩ := hl.blk
  exact .inr ⟨x, hx, hl.t, hl.pos, hl.out, ⟨cells, t, q, key _ _ hc, rest⟩, hl.sz, hl.fits⟩
theorem RepL.one {E : Env} {x : AV} {vs : Array Value} (h : RepL E [x] vs) : ∃ v, vs = #[v] ∧ Rep E x v := by
 have hl := h.1
 obtain ⟨l⟩ := vs
 match l, hl with
 | [v], _ => exact ⟨v, rfl, h.2 0 x v rfl rfl⟩
theorem RepL.two {E : Env} {x y : AV} {vs : Array Value} (h : RepL E [x, y] vs) : ∃ v u, vs = #[v, u] ∧ Rep E x v ∧ Rep E y u := by
 have hl := h.1
 obtain ⟨l⟩ := vs
 match l, hl with
 | [v, u], _ => exact ⟨v, u, rfl, h.2 0 x v rfl rfl, h.2 1 y u rfl rfl⟩
end
end Go.Proofs.YtemjlopoffjmpaaGreat.Abs
