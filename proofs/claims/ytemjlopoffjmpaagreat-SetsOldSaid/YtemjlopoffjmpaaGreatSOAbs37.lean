/-
  The abstract layer, part 37: what has been run once is looked up.
-/
import Derived.Test.YtemjlopoffjmpaaGreatSOAbs36
set_option linter.unusedSimpArgs false
set_option linter.unusedVariables false
namespace Go.Proofs.YtemjlopoffjmpaaGreat.Abs
open Go
mutual
def eqP : PV → PV → Bool
 | .top, .top => true
 | .bool a, .bool b => a == b
 | .int k a, .int l b => decide (k = l) && decide (a = b)
 | .str a, .str b => decide (a = b)
 | .nilp, .nilp => true
 | .emp, .emp => true
 | .nilfn, .nilfn => true
 | .fz es, .fz fs => eqPL2 es fs
 | .fptr a, .fptr b => eqPL a b
 | _, _ => false
def eqPL : List PV → List PV → Bool
 | [], [] => true
 | x :: xs, y :: ys => eqP x y && eqPL xs ys
 | _, _ => false
def eqPL2 : List (List PV) → List (List PV) → Bool
 | [], [] => true
 | x :: xs, y :: ys => eqPL x y && eqPL2 xs ys
 | _, _ => false
end
mutual
theorem eqP_ok : ∀ x y : PV, eqP x y = true → x = y
 | .top, y, h => by cases y <;> first | rfl | simp [eqP] at h
 | .bool a, y, h => by cases y <;> first | (simp [eqP] at h; rw [h]) | simp [eqP] at h
 | .int k a, y, h => by cases y <;> first | (simp [eqP] at h; rw [h.1, h.2]) | simp [eqP] at h
 | .str a, y, h => by cases y <;> first | (simp [eqP] at h; rw [h]) | simp [eqP] at h
 | .nilp, y, h => by cases y <;> first | rfl | simp [eqP] at h
 | .emp, y, h => by cases y <;> first | rfl | simp [eqP] at h
 | .nilfn, y, h => by cases y <;> first | rfl | simp [eqP] at h
 | .fz es, y, h => by
   cases y <;> simp only [eqP, Bool.false_eq_true] at h
   rw [eqPL2_ok _ _ h]
 | .fptr es, y, h => by
   cases y <;> simp only [eqP, Bool.false_eq_true] at h
   rw [eqPL_ok _ _ h]
theorem eqPL_ok : ∀ x y : List PV, eqPL x y = true → x = y
 | [], y, h => by cases y <;> first | rfl | simp [eqPL] at h
 | x :: xs, y, h => by
   cases y with
   | nil => simp [eqPL] at h
   | cons y ys =>
     simp only [eqPL, Bool.and_eq_true] at h
     rw [eqP_ok _ _ h.1, eqPL_ok _ _ h.2]
theorem eqPL2_ok : ∀ x y : List (List PV), eqPL2 x y = true → x = y
 | [], y, h => by cases y <;> first | rfl | simp [eqPL2] at h
 | x :: xs, y, h => by
   cases y with
   | nil => simp [eqPL2] at h
   | cons y ys =>
     simp only [eqPL2, Bool.and_eq_true] at h
     rw [eqPL_ok _ _ h.1, eqPL2_ok _ _ h.2]
end
def eqA (x y : AV) : Bool :=
 match toPV x, toPV y with
 | some p, some q => eqP p q
 | _, _ => false
theorem eqA_ok {x y : AV} (h : eqA x y = true) : x = y := by
 unfold eqA at h
 split at h
 ·rename_i p q hp hq
  rw [rep_toPV hp, rep_toPV hq, eqP_ok _ _ h]
 ·cases h
def eqAs : List AV → List AV → Bool
 | [], [] => true
 | x :: xs, y :: ys => eqA x y && eqAs xs ys
 | _, _ => false
theorem eqAs_ok : ∀ {xs ys : List AV}, eqAs xs ys = true → xs = ys
 | [], [], _ => rfl
 | [], _ :: _, h => by cases h
 | _ :: _, [], h => by cases h
 | x :: xs, y :: ys, h => by
   simp only [eqAs, Bool.and_eq_true] at h
   rw [eqA_ok h.1, eqAs_ok h.2]
structure Memo where
 f : Nat
 args : List AV
 x : AV
def memo (l : List Memo) (orc : CallF) : CallF := fun f args H =>
 match l with
 | [] => orc f args H
 | m :: rest => if m.f == f && eqAs m.args args then some (m.x, H) else memo rest orc f args H
def Memo.so (P : Program) (m : Memo) : Prop := C P m.f m.args [] (fun x H' => x = m.x ∧ H' = []) ∧ bareL m.args = true ∧ bare m.x = true
section
variable {P : Program}
theorem Memo.any {m : Memo} (h : m.so P) (H : AH) : C P m.f m.args H fun x H' => x = m.x ∧ H' = H := by
 refine C_call (K0 := fun x H' => x = m.x ∧ H' = []) [] List.nodup_nil (fun r hr => by cases hr) ?_ ?_
 ·rw [renL_bare _ _ h.2.1]; exact h.1
 ·rintro x _ ⟨rfl, rfl⟩
  refine ⟨Nat.le_refl _, ?_⟩
  rw [ren_bare _ _ h.2.2]
  exact ⟨rfl, by simp [back, setAll]⟩
theorem memo_ok {orc : CallF} (ho : EvOk P orc) : ∀ {l : List Memo}, (∀ m ∈ l, m.so P) → EvOk P (memo l orc)
 | [], _ => ho
 | m :: rest, h => by
   intro f args H x H' hx
   unfold memo at hx
   split at hx
   ·rename_i hm
    simp only [Bool.and_eq_true, beq_iff_eq] at hm
    obtain ⟨rfl, ha⟩ := hm
    cases hx
    rw [← eqAs_ok ha]
    exact Memo.any (h m (by simp)) H
   ·exact memo_ok ho (fun m' hm' => h m' (by simp [hm'])) f args H x H' hx
def outIs (r : Option (AV × AH)) (x : AV) : Bool :=
 match r with
 | some (y, []) => (match y, x with
   | .tuple ys, .tuple xs => eqAs ys xs
   | y, x => eqA y x)
 | _ => false
theorem outIs_ok {r : Option (AV × AH)} {x : AV} (h : outIs r x = true) : r = some (x, []) := by
 unfold outIs at h
 split at h
 ·split at h
  ·rw [eqAs_ok h]
  ·rw [eqA_ok h]
 ·cases h
theorem Memo.of {ev : CallF} (hev : EvOk P ev) (m : Memo) (h : (outIs (ev m.f m.args []) m.x && (bareL m.args && bare m.x)) = true) : m.so P := by
 simp only [Bool.and_eq_true] at h
 exact ⟨hev _ _ _ _ _ (outIs_ok h.1), h.2.1, h.2.2⟩
end
end Go.Proofs.YtemjlopoffjmpaaGreat.Abs
