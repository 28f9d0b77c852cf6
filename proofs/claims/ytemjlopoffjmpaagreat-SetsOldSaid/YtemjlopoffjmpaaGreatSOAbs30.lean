/-
  The abstract layer, part 30: a step that is shown some objects alone, and makes new ones in places that were kept for them.
-/
import Derived.Test.YtemjlopoffjmpaaGreatSOAbs29
set_option linter.unusedSimpArgs false
set_option linter.unusedVariables false
namespace Go.Proofs.YtemjlopoffjmpaaGreat.Abs
open Go
def toCl (all : List Nat) (i : Nat) : Option Nat := all[i]?
open Classical in
theorem frame_ok {E : Env} {w : World} {H : AH} (hs : Sim E w H) (rs nw : List Nat) (hnd : (rs ++ nw).Nodup) (hlt : ∀ r ∈ rs ++ nw, r < H.length) (hfree : ∀ r ∈ nw, E.ρ r = none) :
 ∃ E0 : Env, Sim E0 w (rs.map fun r => (H.at r).map (renO (toCallee rs))) ∧ (∀ xs vs, RepL E xs vs → RepL E0 (renL (toCallee rs) xs) vs) ∧
   ∀ (E1 : Env) (w' : World) (H1 : AH), LeN rs.length E0 E1 → Sim E1 w' H1 → H1.length = (rs ++ nw).length →
     ∃ E' : Env, Le E E' ∧ Sim E' w' (setAll H (rs ++ nw) (H1.map fun o => o.map (renO (toCl (rs ++ nw))))) ∧ (∀ x v, Rep E1 x v → Rep E' (ren (toCl (rs ++ nw)) x) v) ∧ ∀ r, r ∉ rs ++ nw → E'.ρ r = E.ρ r := by
 have hndr : rs.Nodup := (List.nodup_append.1 hnd).1
 have hltr : ∀ r ∈ rs, r < H.length := fun r hr => hlt r (List.mem_append_left _ hr)
 let other : Nat → Prop := fun b => ∃ r o x, r ∉ rs ∧ H.at r = some o ∧ E.ρ r = some x ∧ x.b = b
 let E0 : Env := { F := E.F, X := fun b => match E.X b with | some o => some o | none => if other b then w.heap[b]? else none, ρ := fun i => (rs[i]?).bind E.ρ, os := E.os, tape := E.tape, output := E.output }
 let H0 : AH := rs.map fun r => (H.at r).map (renO (toCallee rs))
 have hτ : ∀ r r' y, toCallee rs r = some r' → E.ρ r = some y → E0.ρ r' = some y := by
  intro r r' y h1 h2
  simp only [E0, toCallee_some h1, Option.bind_some, h2]
 have hX0 : ∀ b, ¬ other b → E0.X b = E.X b := by
  intro b hb
  simp only [E0]
  split
  ·rename_i h; rw [h]
  ·rename_i h; rw [if_neg hb, h]
 have hXo : ∀ b, other b → E0.X b = w.heap[b]? := by
  intro b hb
  simp only [E0]
  split
  ·rename_i o h; exact (hs.frz b o (.inr h)).symm
  ·rw [if_pos hb]
 have hat0 : ∀ i o0, AH.at H0 i = some o0 → ∃ r o, rs[i]? = some r ∧ H.at r = some o ∧ o0 = renO (toCallee rs) o := by
  intro i o0 h
  simp only [AH.at, H0, List.getElem?_map] at h
  cases hri : rs[i]? with
  | none => rw [hri] at h; cases h
  | some r =>
    rw [hri] at h
    simp only [Option.map_some, Option.join_some] at h
    cases ho : H.at r with
    | none => simp only [AH.at] at ho; rw [ho] at h; cases h
    | some o => simp only [AH.at] at ho; rw [ho] at h; cases h; exact ⟨r, o, rfl, ho, rfl⟩
 have hs0 : Sim E0 w H0 := by
  refine ⟨hs.os, hs.tape, hs.output, fun b o hb => ?_, fun b o hb => ?_, fun i x hi => ?_, fun i o0 ho => ?_, fun i i' o1 o2 x1 x2 h1 h2 h3 h4 hb => ?_⟩
  ·rcases hb with hb | hb
   ·exact hs.frz b o (.inl hb)
   ·by_cases hob : other b
    ·rw [hXo b hob] at hb; exact hb
    ·rw [hX0 b hob] at hb; exact hs.frz b o (.inr hb)
  ·by_cases hob : other b
   ·obtain ⟨r, o', x, hr', ho', hx, rfl⟩ := hob
    have := (lies_of hs ho' hx).out.1
    change E.F x.b = some o at hb
    rw [this] at hb; cases hb
   ·rw [hX0 b hob]; exact hs.disj b o hb
  ·simp only [E0] at hi
   cases hri : rs[i]? with
   | none => rw [hri] at hi; cases hi
   | some r =>
     rcases Nat.lt_or_ge i rs.length with h' | h'
     ·simpa [H0] using h'
     ·rw [List.getElem?_eq_none h'] at hri; cases hri
  ·obtain ⟨r, o, hri, hro, rfl⟩ := hat0 i o0 ho
   rcases hs.obj r o hro with ⟨rfl, hn⟩ | ⟨x, hx, hl⟩
   ·exact .inl ⟨rfl, by simp only [E0, hri, Option.bind_some, hn]⟩
   ·refine .inr ⟨x, by simp only [E0, hri, Option.bind_some, hx], Lies.ren (E := E) (E0 := E0) (fun _ _ h => h) hτ hl ⟨hl.out.1, ?_⟩ rfl⟩
    rw [hX0 x.b ?_]
    ·exact hl.out.2
    ·rintro ⟨r', o', x', hr', ho', hx', hb'⟩
     have := hs.inj r' r o' o x' x ho' hro hx' hx hb'
     subst this
     exact hr' (List.mem_of_getElem? hri)
  ·obtain ⟨r, o, hri, hro, rfl⟩ := hat0 i o1 h1
   obtain ⟨r', o', hri', hro', rfl⟩ := hat0 i' o2 h2
   simp only [E0, hri, Option.bind_some] at h3
   simp only [E0, hri', Option.bind_some] at h4
   have := hs.inj r r' o o' x1 x2 hro hro' h3 h4 hb
   subst this
   have e1 := toCallee_of hndr hri
   have e2 := toCallee_of hndr hri'
   rw [e1] at e2; cases e2; rfl
 refine ⟨E0, hs0, fun xs vs hr => ?_, fun E1 w' H1 hle hs1 hlen => ?_⟩
 ·rw [renL_map]
  refine ⟨by simpa using hr.1, fun i c u hc hu => ?_⟩
  rw [List.getElem?_map] at hc
  cases hci : xs[i]? with
  | none => rw [hci] at hc; cases hc
  | some c' => rw [hci] at hc; cases hc; exact rep_ren (E := E) (E0 := E0) (fun _ _ h => h) hτ (hr.2 i c' u hci hu)
 have hfull : Le E0 E1 := hle.full hs0 (by simp [H0])
 generalize hall : rs ++ nw = all at *
 let ρ' : Nat → Option Own := fun r => match toCallee all r with
  | some i => E1.ρ i
  | none => E.ρ r
 let E' : Env := { F := E1.F, X := E.X, ρ := ρ', os := E.os, tape := E.tape, output := E.output }
 have hσ : ∀ i r' y, toCl all i = some r' → E1.ρ i = some y → E'.ρ r' = some y := by
  intro i r' y h1 h2
  simp only [E', ρ', toCallee_of hnd h1, h2]
 have hF1 : ∀ b o, E1.F b = some o → E'.F b = some o := fun _ _ h => h
 have hin : ∀ r i, toCallee all r = some i → (r ∈ rs ∧ toCallee rs r = some i) ∨ (r ∈ nw ∧ rs.length ≤ i) := by
  intro r i hc
  have hri := toCallee_some hc
  rw [← hall] at hri
  rcases Nat.lt_or_ge i rs.length with h' | h'
  ·rw [List.getElem?_append_left h'] at hri
   exact .inl ⟨List.mem_of_getElem? hri, toCallee_of hndr hri⟩
  ·rw [List.getElem?_append_right h'] at hri
   exact .inr ⟨List.mem_of_getElem? hri, h'⟩
 have hEE' : Le E E' := by
  refine ⟨fun b o hb => hfull.F b o hb, fun r y hy => ?_, rfl, rfl, rfl, rfl⟩
  cases hc : toCallee all r with
  | some i =>
    rcases hin r i hc with ⟨_, hc'⟩ | ⟨hr', _⟩
    ·obtain ⟨y', hy', h⟩ := hfull.ρ i y (hτ r i y hc' hy)
     exact ⟨y', by simp only [E', ρ', hc]; exact hy', h⟩
    ·rw [hfree r hr'] at hy; cases hy
  | none => exact ⟨y, by simp only [E', ρ', hc]; exact hy, .inl rfl⟩
 have hkeep : ∀ r o y, r ∉ rs → H.at r = some o → E.ρ r = some y → w'.heap[y.b]? = w.heap[y.b]? ∧ E1.F y.b = none := by
  intro r o y hr' ho hy
  have hob : other y.b := ⟨r, o, y, hr', ho, hy, rfl⟩
  have h1 := hXo y.b hob
  obtain ⟨cells, t, q, hb, _⟩ := (lies_of hs ho hy).blk
  rw [hb] at h1
  have h2 : E1.X y.b = some (.cells cells t q) := by rw [hfull.X]; exact h1
  refine ⟨(hs1.frz _ _ (.inr h2)).trans hb.symm, ?_⟩
  cases hF : E1.F y.b with
  | none => rfl
  | some o' => have := hs1.disj _ _ hF; rw [h2] at this; cases this
 have hnot : ∀ r, r ∉ all → r ∉ rs := fun r h h' => h (by rw [← hall]; exact List.mem_append_left _ h')
 have hat : ∀ r o, AH.at (setAll H all (H1.map fun o => o.map (renO (toCl all)))) r = some o → (∃ i o1, toCl all i = some r ∧ H1.at i = some o1 ∧ o = renO (toCl all) o1) ∨ (r ∉ all ∧ H.at r = some o) := by
  intro r o h
  unfold AH.at at h
  cases hc : toCallee all r with
  | none =>
    have hnr := toCallee_none hc
    rw [setAll_not all _ _ r hnr] at h
    exact .inr ⟨hnr, h⟩
  | some i =>
    have hri := toCallee_some hc
    have hil : i < all.length := by
     rcases Nat.lt_or_ge i all.length with h' | h'
     ·exact h'
     ·rw [List.getElem?_eq_none h'] at hri; cases hri
    rw [setAll_in all _ _ i r hnd hri (by simp; omega) (hlt r (List.mem_of_getElem? hri)), List.getElem?_map] at h
    left
    cases h1 : H1[i]? with
    | none => rw [h1] at h; cases h
    | some oo =>
      rw [h1] at h
      simp only [Option.map_some, Option.join_some] at h
      cases oo with
      | none => cases h
      | some o1 => cases h; exact ⟨i, o1, hri, by unfold AH.at; rw [h1]; rfl, rfl⟩
 have hinv : ∀ i r y, toCl all i = some r → E'.ρ r = some y → E1.ρ i = some y := by
  intro i r y h1 h2
  simp only [E', ρ', toCallee_of hnd h1] at h2; exact h2
 have hold : ∀ r, r ∉ all → E'.ρ r = E.ρ r := by
  intro r h1
  have hno : toCallee all r = none := by
   cases hc : toCallee all r with
   | none => rfl
   | some j => exact absurd (List.mem_of_getElem? (toCallee_some hc)) h1
  simp only [E', ρ', hno]
 have hXn : ∀ b, E0.X b = none → E.X b = none := by
  intro b this
  simp only [E0] at this
  split at this
  ·cases this
  ·assumption
 refine ⟨E', hEE', ?_, fun x v hx => rep_ren hF1 hσ hx, hold⟩
 refine ⟨hs1.os.trans hfull.os, hs1.tape.trans hfull.tape, hs1.output.trans hfull.output, fun b o hb => ?_, fun b o hb => ?_, fun r y hy => ?_, fun r o ho => ?_, fun r r' o o' y y' h1 h2 h3 h4 hb => ?_⟩
 ·rcases hb with hb | hb
  ·exact hs1.frz b o (.inl hb)
  ·have : E0.X b = some o := by
    change E.X b = some o at hb
    simp only [E0, hb]
   exact hs1.frz b o (.inr (by rw [hfull.X]; exact this))
 ·have := hs1.disj b o hb
  rw [hfull.X] at this
  exact hXn b this
 ·rw [setAll_length]
  cases hc : toCallee all r with
  | some i => exact hlt r (List.mem_of_getElem? (toCallee_some hc))
  | none => simp only [E', ρ', hc] at hy; exact hs.dom r y hy
 ·rcases hat r o ho with ⟨i, o1, hi, h1, rfl⟩ | ⟨hnr, h1⟩
  ·rcases hs1.obj i o1 h1 with ⟨rfl, hn⟩ | ⟨y, hy, hl⟩
   ·left
    refine ⟨rfl, ?_⟩
    cases hy : E'.ρ r with
    | none => rfl
    | some y => have := hinv i r y hi hy; rw [hn] at this; cases this
   ·right
    refine ⟨y, hσ i r y hi hy, hl.ren (E0 := E') hF1 hσ ⟨hl.out.1, ?_⟩ rfl⟩
    have := hl.out.2
    rw [hfull.X] at this
    exact hXn _ this
  ·rcases hs.obj r o h1 with ⟨rfl, hn⟩ | ⟨y, hy, hl⟩
   ·exact .inl ⟨rfl, (hold r hnr).trans hn⟩
   ·right
    obtain ⟨k1, k2⟩ := hkeep r o y (hnot r hnr) h1 hy
    exact ⟨y, (hold r hnr).trans hy, hl.mono hEE' ⟨k2, hl.out.2⟩ k1⟩
 ·have cross : ∀ i o1 r y r2 o2 y2, toCl all i = some r → H1.at i = some o1 → E'.ρ r = some y → r2 ∉ all → H.at r2 = some o2 → E'.ρ r2 = some y2 → y.b ≠ y2.b := by
   intro i o1 r y r2 o2 y2 a1 a2 a3 b1 b3 b4 hbb
   have hy1 := hinv i r y a1 a3
   have hy2 := (hold r2 b1).symm.trans b4
   have hob : other y2.b := ⟨r2, o2, y2, hnot r2 b1, b3, hy2, rfl⟩
   obtain ⟨cells, t, q, hblk, _⟩ := (lies_of hs b3 hy2).blk
   have h2 : E1.X y2.b = some (.cells cells t q) := by rw [hfull.X, hXo _ hob]; exact hblk
   have := (lies_of hs1 a2 hy1).out.2
   rw [hbb, h2] at this; cases this
  rcases hat r o h1 with ⟨i, o1, hi, hi1, rfl⟩ | ⟨hnr, hh1⟩ <;> rcases hat r' o' h2 with ⟨i', o1', hi', hi1', rfl⟩ | ⟨hnr', hh1'⟩
  ·have := hs1.inj i i' o1 o1' y y' hi1 hi1' (hinv i r y hi h3) (hinv i' r' y' hi' h4) hb
   subst this
   rw [hi] at hi'; cases hi'; rfl
  ·exact absurd hb (cross i o1 r y r' o' y' hi hi1 h3 hnr' hh1' h4)
  ·exact absurd hb.symm (cross i' o1' r' y' r o y hi' hi1' h4 hnr hh1 h3)
  ·exact hs.inj r r' o o' y y' hh1 hh1' ((hold r hnr).symm.trans h3) ((hold r' hnr').symm.trans h4) hb
mutual
def bare : AV → Bool
 | .own .. => false
 | .ptr .. => false
 | .agg cs => bareL cs
 | .tuple cs => bareL cs
 | .fn _ first cap => bareL first && bareL cap
 | _ => true
def bareL : List AV → Bool
 | [] => true
 | x :: xs => bare x && bareL xs
end
mutual
theorem ren_bare (τ : Nat → Option Nat) : ∀ x : AV, bare x = true → ren τ x = x
 | .own .., h => by simp [bare] at h
 | .ptr .., h => by simp [bare] at h
 | .agg cs, h => by simp only [bare] at h; simp only [ren, renL_bare τ cs h]
 | .tuple cs, h => by simp only [bare] at h; simp only [ren, renL_bare τ cs h]
 | .fn f first cap, h => by
   simp only [bare, Bool.and_eq_true] at h
   simp only [ren, renL_bare τ first h.1, renL_bare τ cap h.2]
 | .top, _ => by simp [ren]
 | .bool _, _ => by simp [ren]
 | .int _ _, _ => by simp [ren]
 | .str _, _ => by simp [ren]
 | .nilp, _ => by simp [ren]
 | .emp, _ => by simp [ren]
 | .fz _, _ => by simp [ren]
 | .fptr _, _ => by simp [ren]
 | .nilfn, _ => by simp [ren]
theorem renL_bare (τ : Nat → Option Nat) : ∀ xs : List AV, bareL xs = true → renL τ xs = xs
 | [], _ => by simp [renL]
 | x :: xs, h => by
   simp only [bareL, Bool.and_eq_true] at h
   simp only [renL, ren_bare τ x h.1, renL_bare τ xs h.2]
end
theorem bare_int (k : IntKind) (n : Int) : bare (.int k n) = true := by simp [bare]
theorem bare_bool (b : Bool) : bare (.bool b) = true := by simp [bare]
theorem bare_str (s : List UInt8) : bare (.str s) = true := by simp [bare]
theorem bare_fz (es : List (List PV)) : bare (.fz es) = true := by simp [bare]
theorem bare_fptr (cs : List PV) : bare (.fptr cs) = true := by simp [bare]
theorem bare_emp : bare .emp = true := by simp [bare]
theorem bare_top : bare .top = true := by simp [bare]
theorem bare_agg (cs : List AV) : bare (.agg cs) = bareL cs := by simp [bare]
end Go.Proofs.YtemjlopoffjmpaaGreat.Abs
