/-
  The abstract layer, part 21: own memory that is only looked at in a call; objects that nobody writes any more; objects that are forgotten.
-/
import Derived.Test.YtemjlopoffjmpaaGreatSOAbs20
set_option linter.unusedSimpArgs false
set_option linter.unusedVariables false
namespace Go.Proofs.YtemjlopoffjmpaaGreat.Abs
open Go
def viewP (H : AH) : Nat → AV → PV
 | 0, x => (toPV x).getD .top
 | n + 1, .own r _ off len tot =>
   match liveO H r tot with
   | some o => if off + len ≤ tot then .fz (((o.drop off).take len).map fun e => e.map (viewP H n)) else .top
   | none => .top
 | n + 1, .ptr r i j tot =>
   match liveO H r tot with
   | some o => match o[i]? with
     | some e => if j ≤ e.length then .fptr ((e.drop j).map (viewP H n)) else .top
     | none => .top
   | none => .top
 | _ + 1, x => (toPV x).getD .top
mutual
def viewA (H : AH) : AV → AV
 | .agg cs => .agg (viewL H cs)
 | .tuple cs => .tuple (viewL H cs)
 | .fn f first cap => .fn f (viewL H first) (viewL H cap)
 | .own r sz off len tot => emb (viewP H 4 (.own r sz off len tot))
 | .ptr r i j tot => emb (viewP H 4 (.ptr r i j tot))
 | .top => .top
 | .bool b => .bool b
 | .int k n => .int k n
 | .str s => .str s
 | .nilp => .nilp
 | .emp => .emp
 | .fz es => .fz es
 | .fptr cs => .fptr cs
 | .nilfn => .nilfn
def viewL (H : AH) : List AV → List AV
 | [] => []
 | x :: xs => viewA H x :: viewL H xs
end
theorem viewL_map (H : AH) : ∀ xs : List AV, viewL H xs = xs.map (viewA H)
 | [] => by simp [viewL]
 | x :: xs => by simp [viewL, viewL_map H xs]
mutual
def flat : AV → Bool
 | .bool _ | .int _ _ | .str _ | .nilp | .emp | .nilfn | .top => true
 | .agg cs => flatL cs
 | .tuple cs => flatL cs
 | _ => false
def flatL : List AV → Bool
 | [] => true
 | x :: xs => flat x && flatL xs
end
theorem rep_flat {E E' : Env} {x : AV} {v : Value} (h : Rep E x v) : flat x = true → Rep E' x v := by
 induction h with
 | top v => exact fun _ => .top v
 | pure h =>
   intro hf
   refine .pure ?_
   cases h with
   | top => exact .top _ (by assumption)
   | bool b => exact .bool b
   | int k n => exact .int k n
   | str s => exact .str s
   | nilp => exact .nilp
   | emp a => exact .emp a
   | nilfn => exact .nilfn
   | fz0 a cap => exact .fz0 a cap
   | fz => simp [emb, flat] at hf
   | fptr => simp [emb, flat] at hf
 | agg cs vs hl _ ih =>
   intro hf
   simp only [flat] at hf
   have key : ∀ (l : List AV), flatL l = true → ∀ c ∈ l, flat c = true := by
    intro l
    induction l with
    | nil => intro _ c hc; simp at hc
    | cons y l ih' =>
      intro h c hc
      simp only [flatL, Bool.and_eq_true] at h
      rcases List.mem_cons.1 hc with rfl | hc
      ·exact h.1
      ·exact ih' h.2 c hc
   exact .agg cs vs hl (fun i c u hc hu => ih i c u hc hu (key cs hf c (List.mem_of_getElem? hc)))
 | tuple cs vs hl _ ih =>
   intro hf
   simp only [flat] at hf
   have key : ∀ (l : List AV), flatL l = true → ∀ c ∈ l, flat c = true := by
    intro l
    induction l with
    | nil => intro _ c hc; simp at hc
    | cons y l ih' =>
      intro h c hc
      simp only [flatL, Bool.and_eq_true] at h
      rcases List.mem_cons.1 hc with rfl | hc
      ·exact h.1
      ·exact ih' h.2 c hc
   exact .tuple cs vs hl (fun i c u hc hu => ih i c u hc hu (key cs hf c (List.mem_of_getElem? hc)))
 | fn => intro hf; simp [flat] at hf
 | own0 => intro hf; simp [flat] at hf
 | own => intro hf; simp [flat] at hf
 | ptr => intro hf; simp [flat] at hf
 | stale_own => intro hf; simp [flat] at hf
 | stale_ptr => intro hf; simp [flat] at hf
theorem toPV_rep {F : Nat → Option Obj} {E : Env} (hF : ∀ b o, E.F b = some o → F b = some o) {x : AV} {v : Value} (h : Rep E x v) (h1 : v.oneCell' = true) : RepP F ((toPV x).getD .top) v := by
 cases hp : toPV x with
 | none => exact .top v h1
 | some p =>
   have := rep_toPV hp
   subst this
   have key : ∀ q : PV, Rep E (emb q) v → RepP E.F q v := by
    intro q hq
    generalize hy : emb q = y at hq
    cases hq with
    | top v =>
      cases q <;> simp only [emb] at hy <;> first | cases hy | skip
      exact .top v h1
    | pure h' =>
      rename_i q'
      have : q = q' := by
       cases q <;> cases q' <;> simp only [emb] at hy <;> first | rfl | (cases hy; rfl) | cases hy
      subst this; exact h'
    | _ => cases q <;> simp only [emb] at hy <;> cases hy
   exact (key p h).mono hF
theorem viewP_rep {E : Env} {w : World} {H : AH} (hs : Sim E w H) {F : Nat → Option Obj} (hF : ∀ b o, E.F b = some o → F b = some o)
 (hown : ∀ r o x, H.at r = some o → E.ρ r = some x → F x.b = w.heap[x.b]?) : ∀ (n : Nat) (x : AV) (v : Value), Rep E x v → v.oneCell' = true → RepP F (viewP H n x) v := by
 intro n
 induction n with
 | zero => intro x v h h1; simp only [viewP]; exact toPV_rep hF h h1
 | succ n ih =>
   intro x v h h1
   cases x
   case own r sz off len tot =>
    simp only [viewP]
    split
    ·rename_i o hl
     obtain ⟨hat, hlen, htt⟩ := live_of hs hl
     split
     ·rename_i hle
      have hll : ((o.drop off).take len).length = len := by simp; omega
      rcases rep_own h htt with ⟨a, rfl, rfl, rfl, rfl⟩ | ⟨y, cap, hy, hsz, g1, g2, g3, g4, rfl⟩
      ·have : ((o.drop 0).take 0).map (fun e => e.map (viewP H n)) = [] := by simp
       rw [this]; exact .fz0 _ _
      ·have hlies := lies_of hs hat hy
       obtain ⟨cells, t, q, hb, hn, hq, hone, hc⟩ := hlies.blk
       have hFb := hown r o y hat hy
       rw [hb] at hFb
       have hmul : (off + len) * y.sz ≤ o.length * y.sz := Nat.mul_le_mul_right _ (by omega)
       have hfit := hlies.fits
       rw [Nat.add_mul] at hmul
       have e1 : len = (((o.drop off).take len).map fun e => e.map (viewP H n)).length := by rw [List.length_map, hll]
       rw [show Value.slice (some ⟨y.b, off * y.sz, none⟩) len cap = Value.slice (some ⟨y.b, off * y.sz, none⟩) (((o.drop off).take len).map fun e => e.map (viewP H n)).length cap from by rw [← e1]]
       refine .fz _ y.b (off * y.sz) cap y.sz cells t q hFb (by rw [← e1]; exact g2) ?_ (by rw [← e1]; omega) ?_
       ·intro e he
        obtain ⟨e', he', rfl⟩ := List.mem_map.1 he
        rw [List.length_map]
        exact hlies.sz e' (List.mem_of_mem_drop (List.mem_of_mem_take he'))
       ·intro i e k c u hi hk hu
        rw [List.getElem?_map] at hi
        cases hi' : ((o.drop off).take len)[i]? with
        | none => rw [hi'] at hi; cases hi
        | some e' =>
          rw [hi'] at hi; cases hi
          have hil : i < len := by
           rcases Nat.lt_or_ge i len with h' | h'
           ·exact h'
           ·rw [List.getElem?_eq_none (by omega)] at hi'; cases hi'
          rw [List.getElem?_take_of_lt hil, List.getElem?_drop] at hi'
          rw [List.getElem?_map] at hk
          cases hk' : e'[k]? with
          | none => rw [hk'] at hk; cases hk
          | some c' =>
            rw [hk'] at hk; cases hk
            have hu' : cells[(off + i) * y.sz + k]? = some u := by rw [← hu, Nat.add_mul]; congr 1; omega
            exact ih c' u (hc (off + i) e' k c' u hi' hk' hu') (hone _ u hu')
     ·exact .top v h1
    ·exact .top v h1
   case ptr r i j tot =>
    simp only [viewP]
    split
    ·rename_i o hl
     obtain ⟨hat, hlen, htt⟩ := live_of hs hl
     split
     ·rename_i e he
      split
      ·rename_i hje
       obtain ⟨y, hy, rfl⟩ := rep_ptr h htt
       have hlies := lies_of hs hat hy
       obtain ⟨cells, t, q, hb, hn, hq, hone, hc⟩ := hlies.blk
       have hFb := hown r o y hat hy
       rw [hb] at hFb
       have hil : i < o.length := by
        rcases Nat.lt_or_ge i o.length with h' | h'
        ·exact h'
        ·rw [List.getElem?_eq_none h'] at he; cases he
       have hel := hlies.sz e (List.mem_of_getElem? he)
       have hm := mul_le_of_lt (sz := y.sz) hil
       have hfit := hlies.fits
       refine .fptr _ y.b _ cells t q hFb (by simp; omega) ?_
       intro k c u hk hu
       rw [List.getElem?_map, List.getElem?_drop] at hk
       cases hk' : e[j + k]? with
       | none => rw [hk'] at hk; cases hk
       | some c' =>
         rw [hk'] at hk; cases hk
         have hu' : cells[i * y.sz + (j + k)]? = some u := by rw [← hu]; congr 1; omega
         exact ih c' u (hc i e (j + k) c' u he hk' hu') (hone _ u hu')
      ·exact .top v h1
     ·exact .top v h1
    ·exact .top v h1
   all_goals (simp only [viewP]; exact toPV_rep hF h h1)
theorem viewA_rep {E E0 : Env} {w : World} {H : AH} (hs : Sim E w H) (hF : ∀ b o, E.F b = some o → E0.F b = some o)
 (hown : ∀ r o x, H.at r = some o → E.ρ r = some x → E0.F x.b = w.heap[x.b]?) {x : AV} {v : Value} (h : Rep E x v) : Rep E0 (viewA H x) v := by
 induction h with
 | top v => simp only [viewA]; exact .top v
 | pure h =>
   rename_i x v
   have e : viewA H (emb x) = emb x := by cases x <;> simp [emb, viewA]
   rw [e]; exact .pure (h.mono hF)
 | agg cs vs hl _ ih =>
   simp only [viewA, viewL_map]
   refine .agg _ _ (by simpa using hl) (fun i c u hc hu => ?_)
   rw [List.getElem?_map] at hc
   cases hci : cs[i]? with
   | none => rw [hci] at hc; cases hc
   | some c' => rw [hci] at hc; cases hc; exact ih i c' u hci hu
 | tuple cs vs hl _ ih =>
   simp only [viewA, viewL_map]
   refine .tuple _ _ (by simpa using hl) (fun i c u hc hu => ?_)
   rw [List.getElem?_map] at hc
   cases hci : cs[i]? with
   | none => rw [hci] at hc; cases hc
   | some c' => rw [hci] at hc; cases hc; exact ih i c' u hci hu
 | fn f first cap vs ws hl hm _ _ ih ih' =>
   simp only [viewA, viewL_map]
   refine .fn f _ _ _ _ (by simpa using hl) (by simpa using hm) (fun i c u hc hu => ?_) (fun i c u hc hu => ?_)
   ·rw [List.getElem?_map] at hc
    cases hci : first[i]? with
    | none => rw [hci] at hc; cases hc
    | some c' => rw [hci] at hc; cases hc; exact ih i c' u hci hu
   ·rw [List.getElem?_map] at hc
    cases hci : cap[i]? with
    | none => rw [hci] at hc; cases hc
    | some c' => rw [hci] at hc; cases hc; exact ih' i c' u hci hu
 | own0 r sz a => simp only [viewA]; exact .pure (viewP_rep hs hF hown 4 _ _ (.own0 r sz a) rfl)
 | own r sz off len tot cap x hρ htot hsz hlen hcap hc hn => simp only [viewA]; exact .pure (viewP_rep hs hF hown 4 _ _ (.own r sz off len tot cap x hρ htot hsz hlen hcap hc hn) rfl)
 | ptr r i j tot x hρ htot => simp only [viewA]; exact .pure (viewP_rep hs hF hown 4 _ _ (.ptr r i j tot x hρ htot) rfl)
 | stale_own r sz off len tot v x hρ htot h1 => simp only [viewA]; exact .pure (viewP_rep hs hF hown 4 _ _ (.stale_own r sz off len tot v x hρ htot h1) h1)
 | stale_ptr r i j tot v x hρ htot h1 => simp only [viewA]; exact .pure (viewP_rep hs hF hown 4 _ _ (.stale_ptr r i j tot v x hρ htot h1) h1)
open Classical in
theorem C_flat {P : Program} {f : FuncId} {args : List AV} {H : AH} {K K0 : AV → AH → Prop} (hC : C P f (viewL H args) [] K0) (hK : ∀ x H', K0 x H' → flat x = true ∧ K x H) : C P f args H K := by
 refine ⟨hC.1, fun E w vs hs hr => ?_⟩
 let mine : Nat → Prop := fun b => ∃ r o x, H.at r = some o ∧ E.ρ r = some x ∧ x.b = b
 let E0 : Env := { F := fun b => if mine b then w.heap[b]? else E.F b, X := E.X, ρ := fun _ => none, os := E.os, tape := E.tape, output := E.output }
 have hFm : ∀ b, mine b → E.F b = none ∧ E.X b = none := by
  rintro b ⟨r, o, x, h1, h2, rfl⟩
  exact (lies_of hs h1 h2).out
 have hF : ∀ b o, E.F b = some o → E0.F b = some o := by
  intro b o hb
  simp only [E0]
  rw [if_neg (fun hm => by rw [(hFm b hm).1] at hb; cases hb)]; exact hb
 have hown : ∀ r o x, H.at r = some o → E.ρ r = some x → E0.F x.b = w.heap[x.b]? := by
  intro r o x h1 h2
  simp only [E0]
  rw [if_pos ⟨r, o, x, h1, h2, rfl⟩]
 have hs0 : Sim E0 w [] := by
  refine ⟨hs.os, hs.tape, hs.output, fun b o hb => ?_, fun b o hb => ?_, fun i x hi => (by cases hi), fun i o0 ho => (by simp [AH.at] at ho), fun i i' o1 o2 x1 x2 h1 => (by simp [AH.at] at h1)⟩
  ·rcases hb with hb | hb
   ·simp only [E0] at hb
    split at hb
    ·exact hb
    ·exact hs.frz b o (.inl hb)
   ·exact hs.frz b o (.inr hb)
  ·simp only [E0] at hb
   split at hb
   ·rename_i hm; exact (hFm b hm).2
   ·exact hs.disj b o hb
 have hr0 : RepL E0 (viewL H args) vs := by
  rw [viewL_map]
  refine ⟨by simpa using hr.1, fun i c u hc hu => ?_⟩
  rw [List.getElem?_map] at hc
  cases hci : args[i]? with
  | none => rw [hci] at hc; cases hc
  | some c' => rw [hci] at hc; cases hc; exact viewA_rep hs hF hown (hr.2 i c' u hci hu)
 refine (hC.2 E0 w vs hs0 hr0).mono ?_
 rintro e w' ⟨v, E1, x, H1, he, hK0, hle, hs1, hx1⟩
 obtain ⟨hfl, hKK⟩ := hK x H1 hK0
 have hblk : ∀ b o, E0.F b = some o ∨ E0.X b = some o → w'.heap[b]? = some o := by
  intro b o hb
  rcases hb with hb | hb
  ·exact hs1.frz b o (.inl (hle.F b o hb))
  ·exact hs1.frz b o (.inr (by rw [hle.X]; exact hb))
 refine ⟨v, E, x, H, he, hKK, LeN.refl _ _, ?_, rep_flat hx1 hfl⟩
 refine ⟨hs1.os.trans hle.os, hs1.tape.trans hle.tape, hs1.output.trans hle.output, fun b o hb => ?_, hs.disj, hs.dom, fun r o ho => ?_, hs.inj⟩
 ·rcases hb with hb | hb
  ·exact hblk b o (.inl (hF b o hb))
  ·exact hblk b o (.inr hb)
 ·rcases hs.obj r o ho with h1 | ⟨y, hy, hl⟩
  ·exact .inl h1
  ·refine .inr ⟨y, hy, hl.mono (Le.refl E) hl.out ?_⟩
   obtain ⟨cells, t, q, hb, _⟩ := hl.blk
   rw [hb]
   exact hblk y.b _ (.inl (by rw [hown r o y ho hy, hb]))
end Go.Proofs.YtemjlopoffjmpaaGreat.Abs
