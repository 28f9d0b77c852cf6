/-
  The abstract layer, part 38: from a contract to the call that a statement speaks of.
-/
import Derived.Test.YtemjlopoffjmpaaGreatSOAbs37
set_option linter.unusedSimpArgs false
set_option linter.unusedVariables false
namespace Go.Proofs.YtemjlopoffjmpaaGreat.Abs
open Go Go.RowKit
def E0 (w : World) : Env := { F := fun b => w.heap[b]?, X := fun _ => none, ρ := fun _ => none, os := w.os, tape := w.tape, output := w.output }
theorem at_nil (r : Nat) : AH.at [] r = none := rfl
theorem E0_sim (w : World) : Sim (E0 w) w [] := by
 refine ⟨rfl, rfl, rfl, fun b o h => ?_, fun _ _ _ => rfl, fun r x h => ?_, fun r o h => ?_, fun r r' o o' x x' h => ?_⟩
 ·rcases h with h | h
  ·exact h
  ·cases h
 ·cases h
 ·rw [at_nil] at h; cases h
 ·rw [at_nil] at h; cases h
theorem C_top {P : Program} {f : FuncId} {args : List AV} {vs : Array Value} {w : World} (hC : C P f args [] (fun x _ => x = .bool true)) (hr : RepL (E0 w) args vs) :
 Calls P f vs w fun e w' => e = .returned (.bool true) ∧ Below w.heap.size w w' := by
 refine (hC.2 (E0 w) w vs (E0_sim w) hr).mono ?_
 rintro e w' ⟨v, E', x, H', rfl, rfl, hle, hs, hx⟩
 have hblk : ∀ k, k < w.heap.size → w'.heap[k]? = w.heap[k]? := fun k hk => by
  have h1 : (E0 w).F k = some w.heap[k] := Array.getElem?_eq_getElem hk
  rw [hs.frz k _ (.inl (hle.F k _ h1))]
  exact h1.symm
 refine ⟨by rw [rep_bool hx], hs.os.trans hle.os, hs.tape.trans hle.tape, hs.output.trans hle.output, ?_, hblk⟩
 rcases Nat.lt_or_ge w'.heap.size w.heap.size with h | h
 ·have := hblk w'.heap.size h
  rw [Array.getElem?_eq_none (Nat.le_refl _), Array.getElem?_eq_getElem h] at this
  cases this
 ·exact h
end Go.Proofs.YtemjlopoffjmpaaGreat.Abs
