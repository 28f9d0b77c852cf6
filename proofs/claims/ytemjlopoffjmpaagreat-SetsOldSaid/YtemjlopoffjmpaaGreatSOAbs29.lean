/-
  The abstract layer, part 29: a function of plain arguments, proved over the empty heap, called over any heap.
-/
import Derived.Test.YtemjlopoffjmpaaGreatSOAbs28
set_option linter.unusedSimpArgs false
set_option linter.unusedVariables false
namespace Go.Proofs.YtemjlopoffjmpaaGreat.Abs
open Go
section
variable {P : Program}
theorem C_pure {f : FuncId} {args : List AV} {K0 : AV → Prop} (hC : C P f args [] (fun x H' => K0 x ∧ H' = [])) (hargs : ∀ τ, renL τ args = args) (hx : ∀ x, K0 x → ∀ τ, ren τ x = x) (H : AH) : C P f args H (fun x H' => K0 x ∧ H' = H) := by
 refine C_call (K0 := fun x H' => K0 x ∧ H' = []) [] List.nodup_nil (fun r hr => by cases hr) ?_ ?_
 ·rw [hargs]; exact hC
 ·rintro x _ ⟨hk, rfl⟩
  refine ⟨Nat.le_refl _, ?_⟩
  rw [hx x hk]
  exact ⟨hk, by simp [back, setAll]⟩
theorem KWk_frozen {K : AV → AH → Prop} {x : AV} {H : AH} (r : Nat) (es : List (List PV)) (hat : H.at r = some (es.map fun e => e.map emb)) (x' : AV) (hx : renL (upTo 0) (frzL r es [x]) = [x']) (hk : K x' []) : KWk 0 K x H :=
 ⟨x', [], by
  have := (Wk_freeze (n0 := 0) (fr := [x]) r es hat).trans (Wk_forget 0 (Nat.le_refl _))
  rw [hx] at this
  exact this, hk⟩
def bslC (H : AH) (sz len : Nat) : Option (List AV) → Option (AV × AH)
 | some cells => if cells.all cellA = true then some (.own H.length sz 0 len len, H ++ [some (chunks sz len cells)]) else none
 | none => none
theorem bslC_some (H : AH) (sz len : Nat) (cells : List AV) : bslC H sz len (some cells) = if cells.all cellA = true then some (.own H.length sz 0 len len, H ++ [some (chunks sz len cells)]) else none := (_root_.id rfl)
theorem RT_bslice (d : Option Nat) (rest : List AInstr) (K : List AV → AH → Prop) (fr : List AV) (H : AH) (sz len : Nat) (zero : List AV) (parts : List (Nat × Opd)) (t u) : RT P (⟨d, none, .bslice sz len zero parts⟩ :: rest) K fr H t u = onS (bslC H sz len (fillA (evalA fr) (List.replicate len zero).flatten (parts.map fun x => (x.1 * sz, sz, x.2)))) (fun v H' => RT P rest K (setA fr d v) H' .mk .mk) .mk := by
 rw [RT_1 (fun _ _ _ _ _ => rfl) (fun _ _ => rfl)]
 simp only [aop1]
 cases fillA (evalA fr) (List.replicate len zero).flatten (parts.map fun x => (x.1 * sz, sz, x.2)) <;> rfl
def apF (H : AH) (sz bytes r tot : Nat) : Option (List (List AV)) → Option AObj → Option (AV × AH)
 | some news, some o => if news.all (fun e => decide (e.length = sz)) = true ∧ (tot + news.length) * bytes ≤ 1000000000000 ∧ tot + news.length ≤ 1000000000 then some (.own r sz 0 (tot + news.length) (tot + news.length), H.set r (some (o ++ news))) else none
 | _, _ => none
theorem apF_some (H : AH) (sz bytes r tot : Nat) (news : List (List AV)) (o : AObj) : apF H sz bytes r tot (some news) (some o) = if news.all (fun e => decide (e.length = sz)) = true ∧ (tot + news.length) * bytes ≤ 1000000000000 ∧ tot + news.length ≤ 1000000000 then some (.own r sz 0 (tot + news.length) (tot + news.length), H.set r (some (o ++ news))) else none := (_root_.id rfl)
theorem appendV_full (H : AH) (sz bytes : Nat) (zero : List AV) (r tot : Nat) (y : AV) : appendV H sz bytes zero (.own r sz 0 tot tot) y = apF H sz bytes r tot (srcOf H y) (liveO H r tot) := by
 unfold appendV
 cases srcOf H y with
 | none => simp only []; unfold apF; split <;> simp_all
 | some news =>
   simp only []
   cases liveO H r tot with
   | none => rfl
   | some o =>
     simp only [apF]
     cases hall : news.all (fun e => decide (e.length = sz)) with
     | false => simp
     | true => simp
def apE (H : AH) (sz bytes : Nat) : Option (List (List AV)) → Option (AV × AH)
 | some news => if news.length * bytes ≤ 1000000000000 ∧ news.length ≤ 1000000000 ∧ news.all (fun e => decide (e.length = sz)) = true then some (.own H.length sz 0 news.length news.length, H ++ [some news]) else none
 | none => none
theorem apE_some (H : AH) (sz bytes : Nat) (news : List (List AV)) : apE H sz bytes (some news) = if news.length * bytes ≤ 1000000000000 ∧ news.length ≤ 1000000000 ∧ news.all (fun e => decide (e.length = sz)) = true then some (.own H.length sz 0 news.length news.length, H ++ [some news]) else none := (_root_.id rfl)
theorem appendV_emp (H : AH) (sz bytes : Nat) (zero : List AV) (y : AV) : appendV H sz bytes zero .emp y = apE H sz bytes (srcOf H y) := by
 unfold appendV
 cases srcOf H y <;> rfl
end
end Go.Proofs.YtemjlopoffjmpaaGreat.Abs
