/-
  The abstract layer, part 20: a contract that speaks of few objects, called amid many.
-/
import Derived.Test.YtemjlopoffjmpaaGreatSOAbs19
set_option linter.unusedSimpArgs false
set_option linter.unusedVariables false
namespace Go.Proofs.YtemjlopoffjmpaaGreat.Abs
open Go
def toCallee (rs : List Nat) (r : Nat) : Option Nat := rs.idxOf? r
def toCaller (rs : List Nat) (n : Nat) (i : Nat) : Option Nat := if i < rs.length then rs[i]? else some (n + (i - rs.length))
def setAll (H : AH) : List Nat → List (Option AObj) → AH
 | r :: rs, o :: os => setAll (H.set r o) rs os
 | _, _ => H
def back (rs : List Nat) (H H' : AH) : AH :=
 setAll H rs (H'.map fun o => o.map (renO (toCaller rs H.length))) ++ (H'.drop rs.length).map fun o => o.map (renO (toCaller rs H.length))
theorem setAll_length : ∀ (rs : List Nat) (H : AH) (os : List (Option AObj)), (setAll H rs os).length = H.length
 | [], H, os => by cases os <;> rfl
 | r :: rs, H, [] => rfl
 | r :: rs, H, o :: os => by rw [setAll, setAll_length rs]; simp
theorem setAll_not : ∀ (rs : List Nat) (H : AH) (os : List (Option AObj)) (r : Nat), r ∉ rs → (setAll H rs os)[r]? = H[r]?
 | [], H, os, r, _ => by cases os <;> rfl
 | s :: rs, H, [], r, _ => rfl
 | s :: rs, H, o :: os, r, h => by
   simp only [List.mem_cons, not_or] at h
   rw [setAll, setAll_not rs _ os r h.2, List.getElem?_set_ne (Ne.symm h.1)]
theorem setAll_in : ∀ (rs : List Nat) (H : AH) (os : List (Option AObj)) (i r : Nat), rs.Nodup → rs[i]? = some r → i < os.length → r < H.length → (setAll H rs os)[r]? = os[i]?
 | [], _, _, _, _, _, h, _, _ => by simp at h
 | s :: rs, H, [], _, _, _, _, h, _ => by simp at h
 | s :: rs, H, o :: os, 0, r, hn, h, _, hr => by
   simp at h; subst h
   rw [setAll, setAll_not rs _ os s (List.nodup_cons.1 hn).1, List.getElem?_set_self hr]; rfl
 | s :: rs, H, o :: os, i + 1, r, hn, h, hi, hr => by
   rw [setAll, setAll_in rs _ os i r (List.nodup_cons.1 hn).2 (by simpa using h) (by simpa using hi) (by simpa using hr)]; rfl
theorem toCallee_some {rs : List Nat} {r i : Nat} (h : toCallee rs r = some i) : rs[i]? = some r := by
 unfold toCallee at h
 obtain ⟨h1, h2, _⟩ := List.idxOf?_eq_some_iff.1 h
 rw [List.getElem?_eq_getElem h1]
 simpa using h2
theorem toCallee_of {rs : List Nat} {r i : Nat} (hn : rs.Nodup) (h : rs[i]? = some r) : toCallee rs r = some i := by
 cases hc : toCallee rs r with
 | none =>
   unfold toCallee at hc
   rw [List.idxOf?_eq_none_iff] at hc
   exact absurd (List.mem_of_getElem? h) (by simpa using hc)
 | some j =>
   have h2 := toCallee_some hc
   have hi : i < rs.length := by
    rcases Nat.lt_or_ge i rs.length with h' | h'
    ·exact h'
    ·rw [List.getElem?_eq_none h'] at h; cases h
   have hj : j < rs.length := by
    rcases Nat.lt_or_ge j rs.length with h' | h'
    ·exact h'
    ·rw [List.getElem?_eq_none h'] at h2; cases h2
   rw [List.getElem?_eq_getElem hi] at h; rw [List.getElem?_eq_getElem hj] at h2
   have : rs[i] = rs[j] := (Option.some.inj h).trans (Option.some.inj h2).symm
   rw [(List.getElem_inj hn).1 this]
theorem toCallee_none {rs : List Nat} {r : Nat} (h : toCallee rs r = none) : r ∉ rs := by
 unfold toCallee at h
 rw [List.idxOf?_eq_none_iff] at h
 simpa using h
open Classical in
theorem C_call {P : Program} {f : FuncId} {args : List AV} {H : AH} {K K0 : AV → AH → Prop} (rs : List Nat) (hnd : rs.Nodup) (hlt : ∀ r ∈ rs, r < H.length)
 (hC : C P f (renL (toCallee rs) args) (rs.map fun r => (H.at r).map (renO (toCallee rs))) K0)
 (hK : ∀ x H', K0 x H' → rs.length ≤ H'.length ∧ K (ren (toCaller rs H.length) x) (back rs H H')) : C P f args H K := by
 refine ⟨hC.1, fun E w vs hs hr => ?_⟩
 let other : Nat → Prop := fun b => ∃ r o x, r ∉ rs ∧ H.at r = some o ∧ E.ρ r = some x ∧ x.b = b
 let E0 : Env := { F := E.F, X := fun b => match E.X b with | some o => some o | none => if other b then w.heap[b]? else none, ρ := fun i => (rs[i]?).bind E.ρ, os := E.os, tape := E.tape, output := E.output }
 let H0 : AH := rs.map fun r => (H.at r).map (renO (toCallee rs))
 have hτ : ∀ r r' y, toCallee rs r = some r' → E.ρ r = some y → E0.ρ r' = some y := by
  intro r r' y h1 h2
  simp only [E0, toCallee_some h1, Option.bind_some, h2]
 have hX0 : ∀ b, ¬ other b → E0.X b = E.X b := by
  intro b hb
  simp only [E0]
  split
  ·rename_i h; rw [h]
  ·rename_i h; rw [if_neg hb, h]
 have hXo : ∀ b, other b → E0.X b = w.heap[b]? := by
  intro b hb
  simp only [E0]
  split
  ·rename_i o h; exact (hs.frz b o (.inr h)).symm
  ·rw [if_pos hb]
 have hat0 : ∀ i o0, AH.at H0 i = some o0 → ∃ r o, rs[i]? = some r ∧ H.at r = some o ∧ o0 = renO (toCallee rs) o := by
  intro i o0 h
  simp only [AH.at, H0, List.getElem?_map] at h
  cases hri : rs[i]? with
  | none => rw [hri] at h; cases h
  | some r =>
    rw [hri] at h
    simp only [Option.map_some, Option.join_some] at h
    cases ho : H.at r with
    | none => simp only [AH.at] at ho; rw [ho] at h; cases h
    | some o => simp only [AH.at] at ho; rw [ho] at h; cases h; exact ⟨r, o, rfl, ho, rfl⟩
 have hs0 : Sim E0 w H0 := by
  refine ⟨hs.os, hs.tape, hs.output, fun b o hb => ?_, fun b o hb => ?_, fun i x hi => ?_, fun i o0 ho => ?_, fun i i' o1 o2 x1 x2 h1 h2 h3 h4 hb => ?_⟩
  ·rcases hb with hb | hb
   ·exact hs.frz b o (.inl hb)
   ·by_cases hob : other b
    ·rw [hXo b hob] at hb; exact hb
    ·rw [hX0 b hob] at hb; exact hs.frz b o (.inr hb)
  ·by_cases hob : other b
   ·obtain ⟨r, o', x, hr', ho', hx, rfl⟩ := hob
    have := (lies_of hs ho' hx).out.1
    change E.F x.b = some o at hb
    rw [this] at hb; cases hb
   ·rw [hX0 b hob]; exact hs.disj b o hb
  ·simp only [E0] at hi
   cases hri : rs[i]? with
   | none => rw [hri] at hi; cases hi
   | some r =>
     rcases Nat.lt_or_ge i rs.length with h' | h'
     ·simpa [H0] using h'
     ·rw [List.getElem?_eq_none h'] at hri; cases hri
  ·obtain ⟨r, o, hri, hro, rfl⟩ := hat0 i o0 ho
   rcases hs.obj r o hro with ⟨rfl, hn⟩ | ⟨x, hx, hl⟩
   ·exact .inl ⟨rfl, by simp only [E0, hri, Option.bind_some, hn]⟩
   ·refine .inr ⟨x, by simp only [E0, hri, Option.bind_some, hx], Lies.ren (E := E) (E0 := E0) (fun _ _ h => h) hτ hl ⟨hl.out.1, ?_⟩ rfl⟩
    rw [hX0 x.b ?_]
    ·exact hl.out.2
    ·rintro ⟨r', o', x', hr', ho', hx', hb'⟩
     have := hs.inj r' r o' o x' x ho' hro hx' hx hb'
     subst this
     exact hr' (List.mem_of_getElem? hri)
  ·obtain ⟨r, o, hri, hro, rfl⟩ := hat0 i o1 h1
   obtain ⟨r', o', hri', hro', rfl⟩ := hat0 i' o2 h2
   simp only [E0, hri, Option.bind_some] at h3
   simp only [E0, hri', Option.bind_some] at h4
   have := hs.inj r r' o o' x1 x2 hro hro' h3 h4 hb
   subst this
   have e1 := toCallee_of hnd hri
   have e2 := toCallee_of hnd hri'
   rw [e1] at e2; cases e2; rfl
 have hr0 : RepL E0 (renL (toCallee rs) args) vs := by
  rw [renL_map]
  refine ⟨by simpa using hr.1, fun i c u hc hu => ?_⟩
  rw [List.getElem?_map] at hc
  cases hci : args[i]? with
  | none => rw [hci] at hc; cases hc
  | some c' => rw [hci] at hc; cases hc; exact rep_ren (E := E) (E0 := E0) (fun _ _ h => h) hτ (hr.2 i c' u hci hu)
 refine (hC.2 E0 w vs hs0 hr0).mono ?_
 rintro e w' ⟨v, E1, x, H1, he, hK0, hle, hs1, hx1⟩
 obtain ⟨hlen, hKK⟩ := hK x H1 hK0
 have hfull : Le E0 E1 := hle.full hs0 (Nat.le_refl _)
 let ρ' : Nat → Option Own := fun r => match toCallee rs r with
  | some i => E1.ρ i
  | none => if r < H.length then E.ρ r else E1.ρ (rs.length + (r - H.length))
 let E' : Env := { F := E1.F, X := E.X, ρ := ρ', os := E.os, tape := E.tape, output := E.output }
 have hσ : ∀ i r' y, toCaller rs H.length i = some r' → E1.ρ i = some y → E'.ρ r' = some y := by
  intro i r' y h1 h2
  unfold toCaller at h1
  split at h1
  ·simp only [E', ρ', toCallee_of hnd h1, h2]
  ·rename_i hi
   cases h1
   have hno : toCallee rs (H.length + (i - rs.length)) = none := by
    cases hc : toCallee rs (H.length + (i - rs.length)) with
    | none => rfl
    | some j => have := hlt _ (List.mem_of_getElem? (toCallee_some hc)); omega
   simp only [E', ρ', hno]
   rw [if_neg (by omega), show rs.length + (H.length + (i - rs.length) - H.length) = i from by omega]
   exact h2
 have hF1 : ∀ b o, E1.F b = some o → E'.F b = some o := fun _ _ h => h
 have hEE' : Le E E' := by
  refine ⟨fun b o hb => hfull.F b o hb, fun r y hy => ?_, rfl, rfl, rfl, rfl⟩
  cases hc : toCallee rs r with
  | some i =>
    obtain ⟨y', hy', h⟩ := hfull.ρ i y (hτ r i y hc hy)
    exact ⟨y', by simp only [E', ρ', hc]; exact hy', h⟩
  | none => exact ⟨y, by simp only [E', ρ', hc]; rw [if_pos (hs.dom r y hy)]; exact hy, .inl rfl⟩
 have hkeep : ∀ r o y, r ∉ rs → H.at r = some o → E.ρ r = some y → w'.heap[y.b]? = w.heap[y.b]? ∧ E1.F y.b = none := by
  intro r o y hr' ho hy
  have hob : other y.b := ⟨r, o, y, hr', ho, hy, rfl⟩
  have h1 := hXo y.b hob
  obtain ⟨cells, t, q, hb, _⟩ := (lies_of hs ho hy).blk
  rw [hb] at h1
  have h2 : E1.X y.b = some (.cells cells t q) := by rw [hfull.X]; exact h1
  refine ⟨(hs1.frz _ _ (.inr h2)).trans hb.symm, ?_⟩
  cases hF : E1.F y.b with
  | none => rfl
  | some o' => have := hs1.disj _ _ hF; rw [h2] at this; cases this
 have hbl : (back rs H H1).length = H.length + (H1.length - rs.length) := by simp [back, setAll_length]
 have hat : ∀ r o, AH.at (back rs H H1) r = some o → (∃ i o1, toCaller rs H.length i = some r ∧ H1.at i = some o1 ∧ o = renO (toCaller rs H.length) o1) ∨ (r ∉ rs ∧ r < H.length ∧ H.at r = some o) := by
  intro r o h
  unfold AH.at back at h
  rcases Nat.lt_or_ge r H.length with hrl | hrl
  ·rw [List.getElem?_append_left (by rw [setAll_length]; exact hrl)] at h
   cases hc : toCallee rs r with
   | none =>
     have hnr := toCallee_none hc
     rw [setAll_not rs _ _ r hnr] at h
     exact .inr ⟨hnr, hrl, h⟩
   | some i =>
     have hri := toCallee_some hc
     have hil : i < rs.length := by
      rcases Nat.lt_or_ge i rs.length with h' | h'
      ·exact h'
      ·rw [List.getElem?_eq_none h'] at hri; cases hri
     rw [setAll_in rs _ _ i r hnd hri (by simp; omega) hrl, List.getElem?_map] at h
     left
     cases h1 : H1[i]? with
     | none => rw [h1] at h; cases h
     | some oo =>
       rw [h1] at h
       simp only [Option.map_some, Option.join_some] at h
       cases oo with
       | none => cases h
       | some o1 => cases h; exact ⟨i, o1, by unfold toCaller; rw [if_pos hil]; exact hri, by unfold AH.at; rw [h1]; rfl, rfl⟩
  ·rw [List.getElem?_append_right (by rw [setAll_length]; exact hrl), setAll_length, List.getElem?_map, List.getElem?_drop] at h
   left
   cases h1 : H1[rs.length + (r - H.length)]? with
   | none => rw [h1] at h; cases h
   | some oo =>
     rw [h1] at h
     simp only [Option.map_some, Option.join_some] at h
     cases oo with
     | none => cases h
     | some o1 =>
       cases h
       refine ⟨rs.length + (r - H.length), o1, ?_, by unfold AH.at; rw [h1]; rfl, rfl⟩
       unfold toCaller
       rw [if_neg (by omega)]
       congr 1; omega
 have hinv : ∀ i r y, toCaller rs H.length i = some r → E'.ρ r = some y → E1.ρ i = some y := by
  intro i r y h1 h2
  unfold toCaller at h1
  split at h1
  ·simp only [E', ρ', toCallee_of hnd h1] at h2; exact h2
  ·cases h1
   have hno : toCallee rs (H.length + (i - rs.length)) = none := by
    cases hc : toCallee rs (H.length + (i - rs.length)) with
    | none => rfl
    | some j => have := hlt _ (List.mem_of_getElem? (toCallee_some hc)); omega
   simp only [E', ρ', hno] at h2
   rw [if_neg (by omega), show rs.length + (H.length + (i - rs.length) - H.length) = i from by omega] at h2
   exact h2
 have hold : ∀ r y, r ∉ rs → r < H.length → E'.ρ r = some y → E.ρ r = some y := by
  intro r y h1 h2 h3
  have hno : toCallee rs r = none := by
   cases hc : toCallee rs r with
   | none => rfl
   | some j => exact absurd (List.mem_of_getElem? (toCallee_some hc)) h1
  simp only [E', ρ', hno] at h3
  rw [if_pos h2] at h3; exact h3
 have hs' : Sim E' w' (back rs H H1) := by
  refine ⟨hs1.os.trans hfull.os, hs1.tape.trans hfull.tape, hs1.output.trans hfull.output, fun b o hb => ?_, fun b o hb => ?_, fun r y hy => ?_, fun r o ho => ?_, fun r r' o o' y y' h1 h2 h3 h4 hb => ?_⟩
  ·rcases hb with hb | hb
   ·exact hs1.frz b o (.inl hb)
   ·have : E0.X b = some o := by
     change E.X b = some o at hb
     simp only [E0, hb]
    exact hs1.frz b o (.inr (by rw [hfull.X]; exact this))
  ·have := hs1.disj b o hb
   rw [hfull.X] at this
   change E.X b = none
   simp only [E0] at this
   split at this
   ·cases this
   ·assumption
  ·rw [hbl]
   cases hc : toCallee rs r with
   | some i => have := hlt r (List.mem_of_getElem? (toCallee_some hc)); omega
   | none =>
     simp only [E', ρ', hc] at hy
     split at hy
     ·omega
     ·have := hs1.dom _ _ hy; omega
  ·rcases hat r o ho with ⟨i, o1, hi, h1, rfl⟩ | ⟨hnr, hrl, h1⟩
   ·rcases hs1.obj i o1 h1 with ⟨rfl, hn⟩ | ⟨y, hy, hl⟩
    ·left
     refine ⟨rfl, ?_⟩
     cases hy : E'.ρ r with
     | none => rfl
     | some y => have := hinv i r y hi hy; rw [hn] at this; cases this
    ·right
     refine ⟨y, hσ i r y hi hy, hl.ren (E0 := E') hF1 hσ ⟨hl.out.1, ?_⟩ rfl⟩
     have := hl.out.2
     rw [hfull.X] at this
     change E.X y.b = none
     simp only [E0] at this
     split at this
     ·cases this
     ·assumption
   ·rcases hs.obj r o h1 with ⟨rfl, hn⟩ | ⟨y, hy, hl⟩
    ·left
     refine ⟨rfl, ?_⟩
     cases hy : E'.ρ r with
     | none => rfl
     | some y => have := hold r y hnr hrl hy; rw [hn] at this; cases this
    ·right
     obtain ⟨k1, k2⟩ := hkeep r o y hnr h1 hy
     have hno : toCallee rs r = none := by
      cases hc : toCallee rs r with
      | none => rfl
      | some j => exact absurd (List.mem_of_getElem? (toCallee_some hc)) hnr
     exact ⟨y, by simp only [E', ρ', hno]; rw [if_pos hrl]; exact hy, hl.mono hEE' ⟨k2, hl.out.2⟩ k1⟩
  ·have cross : ∀ i o1 r y r2 o2 y2, toCaller rs H.length i = some r → H1.at i = some o1 → E'.ρ r = some y → r2 ∉ rs → r2 < H.length → H.at r2 = some o2 → E'.ρ r2 = some y2 → y.b ≠ y2.b := by
    intro i o1 r y r2 o2 y2 a1 a2 a3 b1 b2 b3 b4 hbb
    have hy1 := hinv i r y a1 a3
    have hy2 := hold r2 y2 b1 b2 b4
    have hob : other y2.b := ⟨r2, o2, y2, b1, b3, hy2, rfl⟩
    obtain ⟨cells, t, q, hblk, _⟩ := (lies_of hs b3 hy2).blk
    have h2 : E1.X y2.b = some (.cells cells t q) := by rw [hfull.X, hXo _ hob]; exact hblk
    have := (lies_of hs1 a2 hy1).out.2
    rw [hbb, h2] at this; cases this
   rcases hat r o h1 with ⟨i, o1, hi, hi1, rfl⟩ | ⟨hnr, hrl, hh1⟩ <;> rcases hat r' o' h2 with ⟨i', o1', hi', hi1', rfl⟩ | ⟨hnr', hrl', hh1'⟩
   ·have := hs1.inj i i' o1 o1' y y' hi1 hi1' (hinv i r y hi h3) (hinv i' r' y' hi' h4) hb
    subst this
    rw [hi] at hi'; cases hi'; rfl
   ·exact absurd hb (cross i o1 r y r' o' y' hi hi1 h3 hnr' hrl' hh1' h4)
   ·exact absurd hb.symm (cross i' o1' r' y' r o y hi' hi1' h4 hnr hrl hh1 h3)
   ·exact hs.inj r r' o o' y y' hh1 hh1' (hold r y hnr hrl h3) (hold r' y' hnr' hrl' h4) hb
 exact ⟨v, E', _, _, he, hKK, hEE'.toN _, hs', rep_ren hF1 hσ hx1⟩
end Go.Proofs.YtemjlopoffjmpaaGreat.Abs
