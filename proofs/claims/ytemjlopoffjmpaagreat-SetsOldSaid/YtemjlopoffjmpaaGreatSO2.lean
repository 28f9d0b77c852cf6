/-
  Part 2 of the proof: no condition. (Parts of the abstract layer, of the program's functions in its form, and of their contracts.)
-/
import Derived.Test.YtemjlopoffjmpaaGreatSOWk
import Derived.Test.YtemjlopoffjmpaaGreatSOWk3
import Derived.Test.YtemjlopoffjmpaaGreatSO1
import Derived.Test.YtemjlopoffjmpaaGreatSOAbs39
import Derived.Test.YtemjlopoffjmpaaGreatSOAbs22
import Derived.Test.YtemjlopoffjmpaaGreatProg
import Derived.KernelRfl
set_option linter.unusedSimpArgs false
set_option linter.unusedVariables false
namespace Go.Proofs.YtemjlopoffjmpaaGreat.Abs
open Go Go.Proofs
theorem asets_bare (l : List Dset) : bare (asets l) = true := by simp [asets, bare]
theorem sameS0 (a b : List Dset) (ha : Short a) (hb : Short b) : C Tryz.prog 18 [asets a, asets b] [] (fun x H' => x = .bool (decide (a = b)) ∧ H' = []) := by
 have ha1 := ha.1
 have hb1 := hb.1
 refine C_body' d18 rfl (WT_ok ?_)
 delta c18 I0 I1 I2 I3 I4 I5 I6 I7 I8 I9 KI
 simp only [asets, wk3, wk, iaddrV_map, Nat.reduceAdd, Nat.reduceSub, Nat.reduceMul, Nat.reduceLeDiff, Nat.reduceEqDiff, Nat.reduceBEq, Int.reduceLE, Int.reduceLT, Int.reduceEq, Int.reduceNe, Int.reduceAdd, Int.reduceSub, Int.reduceToNat, Int.reduceNeg, ↓reduceIte, reduceCtorEq]
 by_cases hlen : a.length = b.length
 ·have hlen' : (a.length : Int) = b.length := by omega
  simp only [hlen', wk3, wk, iaddrV_map, Nat.reduceAdd, Nat.reduceSub, Nat.reduceMul, Nat.reduceLeDiff, Nat.reduceEqDiff, Nat.reduceBEq, Int.reduceLE, Int.reduceLT, Int.reduceEq, Int.reduceNe, Int.reduceAdd, Int.reduceSub, Int.reduceToNat, Int.reduceNeg, ↓reduceIte, reduceCtorEq]
  refine WT_loop (W_wk (fr' := [asets a, asets b, .top, .top, .bool false, .int .i64 0] ++ List.replicate 55 .top) (Wk_tops ?_) (W_loop (fun n fr H' => ∃ i : Nat, i ≤ a.length ∧ n = a.length - i ∧ (∀ j, j < i → a.getD j default = b.getD j default) ∧ H' = [] ∧ fr = [asets a, asets b, .top, .top, .bool false, .int .i64 i] ++ List.replicate 55 .top) a.length ⟨0, by omega, rfl, fun j hj => by omega, rfl, rfl⟩ ?_))
  ·simp only [asets, tp]
  rintro n fr H' ⟨i, hi, rfl, hj, rfl, rfl⟩
  refine WT_ok ?_
  simp only [asets, iaddr_dset, wk3, wk, iaddrV_map, Nat.reduceAdd, Nat.reduceSub, Nat.reduceMul, Nat.reduceLeDiff, Nat.reduceEqDiff, Nat.reduceBEq, Int.reduceLE, Int.reduceLT, Int.reduceEq, Int.reduceNe, Int.reduceAdd, Int.reduceSub, Int.reduceToNat, Int.reduceNeg, ↓reduceIte, reduceCtorEq]
  refine guard_both ?_ ?_ <;> intro h <;> simp only [hy] at h
  ·have hil : i < a.length := by omega
   have h0 : (0 : Int) ≤ i := by omega
   have h1 : (i : Int) < b.length := by omega
   have w2 : IntKind.i64.wrap ((i : Int) + 1) = (i : Int) + 1 := IntWalk.i64_in _ (by omega)
   have hfa := ha.get hil
   have hfb := hb.get (show i < b.length by omega)
   have hne : a.getD i default ≠ b.getD i default → decide (a = b) = false := fun h => decide_eq_false fun e => h (by rw [e])
   have hnext : a.getD i default = b.getD i default → ∀ j, j < i + 1 → a.getD j default = b.getD j default := fun h j hj2 => by
    rcases Nat.lt_or_ge j i with h' | h'
    ·exact hj j h'
    ·have : j = i := by omega
     subst this; exact h
   simp only [h, iaddr_dset, wk3, wk, iaddrV_map, Nat.reduceAdd, Nat.reduceSub, Nat.reduceMul, Nat.reduceLeDiff, Nat.reduceEqDiff, Nat.reduceBEq, Int.reduceLE, Int.reduceLT, Int.reduceEq, Int.reduceNe, Int.reduceAdd, Int.reduceSub, Int.reduceToNat, Int.reduceNeg, ↓reduceIte, reduceCtorEq]
   refine WT_drawE ?_
   refine WDT_more 2 ?_
   simp only [h, h0, h1, iaddr_dset, pdset, ren, renL, lay, wk3, wk, iaddrV_map, Nat.reduceAdd, Nat.reduceSub, Nat.reduceMul, Nat.reduceLeDiff, Nat.reduceEqDiff, Nat.reduceBEq, Int.reduceLE, Int.reduceLT, Int.reduceEq, Int.reduceNe, Int.reduceAdd, Int.reduceSub, Int.reduceToNat, Int.reduceNeg, ↓reduceIte, reduceCtorEq]
   refine ⟨by omega, by omega, by omega, by rfl, ?_⟩
   generalize a.getD i default = x at hfa hne hnext ⊢
   generalize b.getD i default = y at hfb hne hnext ⊢
   by_cases q1 : x.id = y.id
   case neg =>
    simp only [q1, lay, wk3, wk, iaddrV_map, Nat.reduceAdd, Nat.reduceSub, Nat.reduceMul, Nat.reduceLeDiff, Nat.reduceEqDiff, Nat.reduceBEq, Int.reduceLE, Int.reduceLT, Int.reduceEq, Int.reduceNe, Int.reduceAdd, Int.reduceSub, Int.reduceToNat, Int.reduceNeg, ↓reduceIte, reduceCtorEq]
    exact KWk_bare rfl ⟨by rw [hne (fun e => q1 (by rw [e]))], rfl⟩
   by_cases q2 : x.kind = y.kind
   case neg =>
    simp only [q1, q2, lay, wk3, wk, iaddrV_map, Nat.reduceAdd, Nat.reduceSub, Nat.reduceMul, Nat.reduceLeDiff, Nat.reduceEqDiff, Nat.reduceBEq, Int.reduceLE, Int.reduceLT, Int.reduceEq, Int.reduceNe, Int.reduceAdd, Int.reduceSub, Int.reduceToNat, Int.reduceNeg, ↓reduceIte, reduceCtorEq]
    exact KWk_bare rfl ⟨by rw [hne (fun e => q2 (by rw [e]))], rfl⟩
   by_cases q3 : x.origin = y.origin
   case neg =>
    simp only [q1, q2, q3, lay, wk3, wk, iaddrV_map, Nat.reduceAdd, Nat.reduceSub, Nat.reduceMul, Nat.reduceLeDiff, Nat.reduceEqDiff, Nat.reduceBEq, Int.reduceLE, Int.reduceLT, Int.reduceEq, Int.reduceNe, Int.reduceAdd, Int.reduceSub, Int.reduceToNat, Int.reduceNeg, ↓reduceIte, reduceCtorEq]
    exact KWk_bare rfl ⟨by rw [hne (fun e => q3 (by rw [e]))], rfl⟩
   by_cases q4 : x.quota = y.quota
   case neg =>
    simp only [q1, q2, q3, q4, lay, wk3, wk, iaddrV_map, Nat.reduceAdd, Nat.reduceSub, Nat.reduceMul, Nat.reduceLeDiff, Nat.reduceEqDiff, Nat.reduceBEq, Int.reduceLE, Int.reduceLT, Int.reduceEq, Int.reduceNe, Int.reduceAdd, Int.reduceSub, Int.reduceToNat, Int.reduceNeg, ↓reduceIte, reduceCtorEq]
    exact KWk_bare rfl ⟨by rw [hne (fun e => q4 (by rw [e]))], rfl⟩
   simp only [q1, q2, q3, q4, lay, wk3, wk, iaddrV_map, Nat.reduceAdd, Nat.reduceSub, Nat.reduceMul, Nat.reduceLeDiff, Nat.reduceEqDiff, Nat.reduceBEq, Int.reduceLE, Int.reduceLT, Int.reduceEq, Int.reduceNe, Int.reduceAdd, Int.reduceSub, Int.reduceToNat, Int.reduceNeg, ↓reduceIte, reduceCtorEq]
   refine CT_ok (same33 x.files y.files hfa hfb _) ?_
   rintro _ _ ⟨rfl, rfl⟩
   by_cases q5 : x.files = y.files
   case neg =>
    simp only [q5, lay, wk3, wk, iaddrV_map, Nat.reduceAdd, Nat.reduceSub, Nat.reduceMul, Nat.reduceLeDiff, Nat.reduceEqDiff, Nat.reduceBEq, Int.reduceLE, Int.reduceLT, Int.reduceEq, Int.reduceNe, Int.reduceAdd, Int.reduceSub, Int.reduceToNat, Int.reduceNeg, ↓reduceIte, reduceCtorEq]
    exact KWk_bare rfl ⟨by rw [hne (fun e => q5 (by rw [e]))], rfl⟩
   have q : x = y := by cases x; cases y; simp_all
   simp only [q5, w2, lay, wk3, wk, iaddrV_map, Nat.reduceAdd, Nat.reduceSub, Nat.reduceMul, Nat.reduceLeDiff, Nat.reduceEqDiff, Nat.reduceBEq, Int.reduceLE, Int.reduceLT, Int.reduceEq, Int.reduceNe, Int.reduceAdd, Int.reduceSub, Int.reduceToNat, Int.reduceNeg, ↓reduceIte, reduceCtorEq]
   refine QLoop_wk (n' := a.length - (i + 1)) (by omega) ⟨i + 1, by omega, rfl, hnext q, rfl, rfl⟩ (Wk_none ?_)
   simp only [asets, renL, ren, tq]
  ·have : a = b := by
    apply List.ext_getElem hlen
    intro j h1 h2
    have := hj j (by omega)
    rwa [List.getD_eq_getElem?_getD, List.getElem?_eq_getElem h1, List.getD_eq_getElem?_getD, List.getElem?_eq_getElem h2] at this
   have hd : decide (a = b) = true := decide_eq_true this
   simp only [h, hd, wk3, wk, iaddrV_map, Nat.reduceAdd, Nat.reduceSub, Nat.reduceMul, Nat.reduceLeDiff, Nat.reduceEqDiff, Nat.reduceBEq, Int.reduceLE, Int.reduceLT, Int.reduceEq, Int.reduceNe, Int.reduceAdd, Int.reduceSub, Int.reduceToNat, Int.reduceNeg, ↓reduceIte, reduceCtorEq]
   exact KWk_bare rfl ⟨rfl, rfl⟩
 ·have hlen' : ¬ (a.length : Int) = b.length := by omega
  have : ¬ a = b := fun e => hlen (by rw [e])
  simp only [hlen', this, wk3, wk, iaddrV_map, Nat.reduceAdd, Nat.reduceSub, Nat.reduceMul, Nat.reduceLeDiff, Nat.reduceEqDiff, Nat.reduceBEq, Int.reduceLE, Int.reduceLT, Int.reduceEq, Int.reduceNe, Int.reduceAdd, Int.reduceSub, Int.reduceToNat, Int.reduceNeg, ↓reduceIte, reduceCtorEq]
  exact KWk_bare rfl ⟨rfl, rfl⟩
theorem sameS (a b : List Dset) (ha : Short a) (hb : Short b) (H : AH) : C Tryz.prog 18 [asets a, asets b] H (fun x H' => x = .bool (decide (a = b)) ∧ H' = H) :=
 C_any (sameS0 a b ha hb) (by simp [bareL, asets_bare]) rfl H
end Go.Proofs.YtemjlopoffjmpaaGreat.Abs
set_option linter.unusedSimpArgs false
set_option linter.unusedVariables false
namespace Go.Proofs.YtemjlopoffjmpaaGreat.Abs
open Go Go.Proofs
def cellsN (x : Node) : List AV := [.int .i64 x.kind, .int .i64 x.up, .str x.name, .str x.body, .int .i64 x.bad]
end Go.Proofs.YtemjlopoffjmpaaGreat.Abs
set_option linter.unusedSimpArgs false
set_option linter.unusedVariables false
namespace Go.Proofs.YtemjlopoffjmpaaGreat.Abs
open Go Go.Proofs
mutual
def renC (τ : Nat → Option Nat) : AV → AV
 | .own r sz off len tot => match τ r with | some r' => .own r' sz off len tot | none => .top
 | .ptr r i j tot => match τ r with | some r' => .ptr r' i j tot | none => .top
 | .agg cs => .agg (renCL τ cs)
 | .tuple cs => .tuple (renCL τ cs)
 | .bool b => .bool b
 | .int k n => .int k n
 | .str s => .str s
 | .emp => .emp
 | .top => .top
 | .nilp => .top
 | .fn _ _ _ => .top
 | .fz _ => .top
 | .fptr _ => .top
 | .nilfn => .top
def renCL (τ : Nat → Option Nat) : List AV → List AV
 | [] => []
 | x :: xs => renC τ x :: renCL τ xs
end
theorem renCL_map (τ : Nat → Option Nat) : ∀ xs : List AV, renCL τ xs = xs.map (renC τ)
 | [] => by simp [renCL]
 | x :: xs => by simp [renCL, renCL_map τ xs]
theorem rep_renC {E E0 : Env} {τ : Nat → Option Nat} (hτ : ∀ r r' y, τ r = some r' → E.ρ r = some y → E0.ρ r' = some y) {x : AV} {v : Value} (h : Rep E x v) : Rep E0 (renC τ x) v := by
 induction h with
 | top v => simp only [renC]; exact .top v
 | pure h =>
   rename_i x v
   cases h with
   | top v h1 => simp only [emb, renC]; exact .top _
   | bool b => simp only [emb, renC]; exact .pure (x := .bool b) (.bool b)
   | int k n => simp only [emb, renC]; exact .pure (x := .int k n) (.int k n)
   | str s => simp only [emb, renC]; exact .pure (x := .str s) (.str s)
   | nilp => simp only [emb, renC]; exact .top _
   | emp a => simp only [emb, renC]; exact .pure (x := .emp) (.emp a)
   | nilfn => simp only [emb, renC]; exact .top _
   | fz0 a cap => simp only [emb, renC]; exact .top _
   | fz es b off cap sz cells t q h1 hcap hsz hin _ => simp only [emb, renC]; exact .top _
   | fptr cs b off cells t q h1 hin _ => simp only [emb, renC]; exact .top _
 | agg cs vs hl _ ih =>
   simp only [renC, renCL_map]
   refine .agg _ _ (by simpa using hl) (fun i c u hc hu => ?_)
   rw [List.getElem?_map] at hc
   cases hci : cs[i]? with
   | none => rw [hci] at hc; cases hc
   | some c' => rw [hci] at hc; cases hc; exact ih i c' u hci hu
 | tuple cs vs hl _ ih =>
   simp only [renC, renCL_map]
   refine .tuple _ _ (by simpa using hl) (fun i c u hc hu => ?_)
   rw [List.getElem?_map] at hc
   cases hci : cs[i]? with
   | none => rw [hci] at hc; cases hc
   | some c' => rw [hci] at hc; cases hc; exact ih i c' u hci hu
 | fn f first cap vs ws hl hm _ _ ih ih' => simp only [renC]; exact .top _
 | own0 r sz a =>
   simp only [renC]
   split
   ·exact .own0 _ sz a
   ·exact .top _
 | own r sz off len tot cap x hρ htot hsz hlen hcap hc hn =>
   simp only [renC]
   split
   ·rename_i r' hr'; exact .own r' sz off len tot cap x (hτ r r' x hr' hρ) htot hsz hlen hcap hc hn
   ·exact .top _
 | ptr r i j tot x hρ htot =>
   simp only [renC]
   split
   ·rename_i r' hr'; exact .ptr r' i j tot x (hτ r r' x hr' hρ) htot
   ·exact .top _
 | stale_own r sz off len tot v x hρ htot h1 =>
   simp only [renC]
   split
   ·rename_i r' hr'; exact .stale_own r' sz off len tot v x (hτ r r' x hr' hρ) htot h1
   ·exact .top _
 | stale_ptr r i j tot v x hρ htot h1 =>
   simp only [renC]
   split
   ·rename_i r' hr'; exact .stale_ptr r' i j tot v x (hτ r r' x hr' hρ) htot h1
   ·exact .top _
def renCO (τ : Nat → Option Nat) (o : AObj) : AObj := o.map (renCL τ)
theorem renCO_length (τ : Nat → Option Nat) (o : AObj) : (renCO τ o).length = o.length := by simp [renCO]
theorem Lies.renC {E E0 : Env} {τ : Nat → Option Nat} (hτ : ∀ r r' y, τ r = some r' → E.ρ r = some y → E0.ρ r' = some y) {w : World} {o : AObj} {x : Own}
 (h : Lies E w o x) (hout : E0.F x.b = none ∧ E0.X x.b = none) : Lies E0 w (renCO τ o) x := by
 obtain ⟨cells, t, q, hb, hn, hq, h1, hc⟩ := h.blk
 refine ⟨by rw [renCO_length]; exact h.t, h.pos, hout, ⟨cells, t, q, hb, hn, hq, h1, ?_⟩, ?_, by rw [renCO_length]; exact h.fits⟩
 ·intro i e k c v hi hk hv
  unfold renCO at hi
  rw [List.getElem?_map] at hi
  cases hi' : o[i]? with
  | none => rw [hi'] at hi; cases hi
  | some e' =>
    rw [hi'] at hi; cases hi
    rw [renCL_map, List.getElem?_map] at hk
    cases hk' : e'[k]? with
    | none => rw [hk'] at hk; cases hk
    | some c' => rw [hk'] at hk; cases hk; exact rep_renC hτ (hc i e' k c' v hi' hk' hv)
 ·intro e he
  unfold renCO at he
  obtain ⟨e', he', rfl⟩ := List.mem_map.1 he
  rw [renCL_map, List.length_map]
  exact h.sz e' he'
def up (n : Nat) (i : Nat) : Option Nat := some (n + i)
def upH (n : Nat) (H : AH) : AH := H.map fun o => o.map (renCO (up n))
theorem at_app {H G : AH} {r : Nat} {o : AObj} : AH.at (H ++ G) r = some o ↔ (r < H.length ∧ H.at r = some o) ∨ ∃ i, r = H.length + i ∧ G.at i = some o := by
 unfold AH.at
 rcases Nat.lt_or_ge r H.length with h | h
 ·rw [List.getElem?_append_left h]
  constructor
  ·exact fun h' => .inl ⟨h, h'⟩
  ·rintro (h' | ⟨i, h1, h2⟩)
   ·exact h'.2
   ·omega
 ·rw [List.getElem?_append_right h]
  constructor
  ·exact fun h' => .inr ⟨r - H.length, by omega, h'⟩
  ·rintro (h' | ⟨i, h1, h2⟩)
   ·omega
   ·rw [show r - H.length = i by omega]; exact h2
theorem at_upH {n i : Nat} {G : AH} {o : AObj} : AH.at (upH n G) i = some o ↔ ∃ o', G.at i = some o' ∧ o = renCO (up n) o' := by
 unfold AH.at upH
 rw [List.getElem?_map]
 cases G[i]? with
 | none => simp
 | some x => cases x <;> simp [eq_comm]
open Classical in
theorem C_view {P : Program} {f : FuncId} {args : List AV} {H : AH} {K K0 : AV → AH → Prop} (hC : C P f (viewL H args) [] K0) (hK : ∀ x H', K0 x H' → K (renC (up H.length) x) (H ++ upH H.length H')) : C P f args H K := by
 refine ⟨hC.1, fun E w vs hs hr => ?_⟩
 let mine : Nat → Prop := fun b => ∃ r o x, H.at r = some o ∧ E.ρ r = some x ∧ x.b = b
 let E0 : Env := { F := fun b => if mine b then w.heap[b]? else E.F b, X := E.X, ρ := fun _ => none, os := E.os, tape := E.tape, output := E.output }
 have hFm : ∀ b, mine b → E.F b = none ∧ E.X b = none := by
  rintro b ⟨r, o, x, h1, h2, rfl⟩
  exact (lies_of hs h1 h2).out
 have hF : ∀ b o, E.F b = some o → E0.F b = some o := by
  intro b o hb
  simp only [E0]
  rw [if_neg (fun hm => by rw [(hFm b hm).1] at hb; cases hb)]; exact hb
 have hown : ∀ r o x, H.at r = some o → E.ρ r = some x → E0.F x.b = w.heap[x.b]? := by
  intro r o x h1 h2
  simp only [E0]
  rw [if_pos ⟨r, o, x, h1, h2, rfl⟩]
 have hs0 : Sim E0 w [] := by
  refine ⟨hs.os, hs.tape, hs.output, fun b o hb => ?_, fun b o hb => ?_, fun i x hi => (by cases hi), fun i o0 ho => (by simp [AH.at] at ho), fun i i' o1 o2 x1 x2 h1 => (by simp [AH.at] at h1)⟩
  ·rcases hb with hb | hb
   ·simp only [E0] at hb
    split at hb
    ·exact hb
    ·exact hs.frz b o (.inl hb)
   ·exact hs.frz b o (.inr hb)
  ·simp only [E0] at hb
   split at hb
   ·rename_i hm; exact (hFm b hm).2
   ·exact hs.disj b o hb
 have hr0 : RepL E0 (viewL H args) vs := by
  rw [viewL_map]
  refine ⟨by simpa using hr.1, fun i c u hc hu => ?_⟩
  rw [List.getElem?_map] at hc
  cases hci : args[i]? with
  | none => rw [hci] at hc; cases hc
  | some c' => rw [hci] at hc; cases hc; exact viewA_rep hs hF hown (hr.2 i c' u hci hu)
 refine (hC.2 E0 w vs hs0 hr0).mono ?_
 rintro e w' ⟨v, E1, x, H1, he, hK0, hle, hs1, hx1⟩
 have hblk : ∀ b o, E0.F b = some o ∨ E0.X b = some o → w'.heap[b]? = some o := by
  intro b o hb
  rcases hb with hb | hb
  ·exact hs1.frz b o (.inl (hle.F b o hb))
  ·exact hs1.frz b o (.inr (by rw [hle.X]; exact hb))
 let E' : Env := { F := E.F, X := E.X, ρ := fun r => if r < H.length then E.ρ r else E1.ρ (r - H.length), os := E.os, tape := E.tape, output := E.output }
 have hEE' : Le E E' := by
  refine ⟨fun b o hb => hb, fun r y hy => ⟨y, ?_, .inl rfl⟩, rfl, rfl, rfl, rfl⟩
  simp only [E']
  rw [if_pos (hs.dom r y hy)]; exact hy
 have hσ : ∀ r r' y, up H.length r = some r' → E1.ρ r = some y → E'.ρ r' = some y := by
  intro r r' y h1 h2
  cases h1
  simp only [E']
  rw [if_neg (by omega), show H.length + r - H.length = r by omega]; exact h2
 have hnewF : ∀ b, E1.F b = none → E.F b = none := by
  intro b hb
  cases hE : E.F b with
  | none => rfl
  | some o => rw [hle.F b o (hF b o hE)] at hb; cases hb
 refine ⟨v, E', _, _, he, hK x H1 hK0, hEE'.toN _, ?_, rep_renC hσ hx1⟩
 refine ⟨hs1.os.trans hle.os, hs1.tape.trans hle.tape, hs1.output.trans hle.output, fun b o hb => ?_, hs.disj, fun r y hy => ?_, fun r o ho => ?_, fun r r' o o' y y' h1 h2 h3 h4 hb => ?_⟩
 ·rcases hb with hb | hb
  ·exact hblk b o (.inl (hF b o hb))
  ·exact hblk b o (.inr hb)
 ·simp only [E'] at hy
  simp only [upH, List.length_append, List.length_map]
  split at hy
  ·omega
  ·have := hs1.dom _ _ hy; omega
 ·rcases at_app.1 ho with ⟨hr', h1⟩ | ⟨i, rfl, h1⟩
  ·rcases hs.obj r o h1 with ⟨rfl, hn⟩ | ⟨y, hy, hl⟩
   ·exact .inl ⟨rfl, by simp only [E']; rw [if_pos hr']; exact hn⟩
   ·refine .inr ⟨y, by simp only [E']; rw [if_pos hr']; exact hy, hl.mono hEE' hl.out ?_⟩
    obtain ⟨cells, t, q, hb, _⟩ := hl.blk
    rw [hb]
    exact hblk y.b _ (.inl (by rw [hown r o y h1 hy, hb]))
  ·obtain ⟨o1, h2, rfl⟩ := at_upH.1 h1
   rcases hs1.obj i o1 h2 with ⟨rfl, hn⟩ | ⟨y, hy, hl⟩
   ·refine .inl ⟨rfl, ?_⟩
    simp only [E']
    rw [if_neg (by omega), show H.length + i - H.length = i by omega]; exact hn
   ·refine .inr ⟨y, hσ i _ y rfl hy, hl.renC hσ ⟨hnewF _ hl.out.1, ?_⟩⟩
    have := hl.out.2
    rw [hle.X] at this; exact this
 ·have old : ∀ r o y, r < H.length → H.at r = some o → E'.ρ r = some y → E.ρ r = some y ∧ E1.F y.b = w.heap[y.b]? ∧ w.heap[y.b]? ≠ none := by
   intro r o y h1 h2 h3
   simp only [E'] at h3
   rw [if_pos h1] at h3
   obtain ⟨cells, t, q, hb, _⟩ := (lies_of hs h2 h3).blk
   refine ⟨h3, ?_, by rw [hb]; simp⟩
   have := hown r o y h2 h3
   rw [hb] at this ⊢
   exact hle.F _ _ this
  have new : ∀ i o y, AH.at (upH H.length H1) i = some o → E'.ρ (H.length + i) = some y → ∃ o1, H1.at i = some o1 ∧ E1.ρ i = some y ∧ E1.F y.b = none := by
   intro i o y h1 h3
   obtain ⟨o1, h2, rfl⟩ := at_upH.1 h1
   simp only [E'] at h3
   rw [if_neg (by omega), show H.length + i - H.length = i by omega] at h3
   exact ⟨o1, h2, h3, (lies_of hs1 h2 h3).out.1⟩
  rcases at_app.1 h1 with ⟨hr', k1⟩ | ⟨i, rfl, k1⟩ <;> rcases at_app.1 h2 with ⟨hr2, k2⟩ | ⟨j, rfl, k2⟩
  ·exact hs.inj r r' o o' y y' k1 k2 (old r o y hr' k1 h3).1 (old r' o' y' hr2 k2 h4).1 hb
  ·obtain ⟨_, a1, a2⟩ := old r o y hr' k1 h3
   obtain ⟨_, _, _, b1⟩ := new j o' y' k2 h4
   rw [hb, b1] at a1; rw [hb] at a2; exact absurd a1.symm a2
  ·obtain ⟨_, a1, a2⟩ := old r' o' y' hr2 k2 h4
   obtain ⟨_, _, _, b1⟩ := new i o y k1 h3
   rw [← hb, b1] at a1; rw [← hb] at a2; exact absurd a1.symm a2
  ·obtain ⟨o1, c1, c2, _⟩ := new i o y k1 h3
   obtain ⟨o2, d1, d2, _⟩ := new j o' y' k2 h4
   rw [hs1.inj i j o1 o2 y y' c1 d1 c2 d2 hb]
end Go.Proofs.YtemjlopoffjmpaaGreat.Abs
set_option linter.unusedSimpArgs false
set_option linter.unusedVariables false
namespace Go.Proofs.YtemjlopoffjmpaaGreat.Abs
open Go Go.Proofs
def cellO (d : Dset) (q : Nat) : List AV := [.int .i64 d.id, .int .i64 d.kind, .int .i64 d.origin, .int .i64 d.quota, .own q 5 0 8 8]
def rowsO : List Dset → Nat → AObj
 | [], _ => []
 | d :: l, b => cellO d b :: rowsO l (b + 1)
theorem rowsO_len : ∀ (l : List Dset) (b : Nat), (rowsO l b).length = l.length
 | [], _ => rfl
 | d :: l, b => by simp [rowsO, rowsO_len l (b + 1)]
theorem rowsO_at : ∀ (l : List Dset) (b k : Nat), k < l.length → (rowsO l b)[k]? = some (cellO (l.getD k default) (b + k))
 | [], _, _, h => by simp at h
 | d :: l, b, 0, _ => rfl
 | d :: l, b, k + 1, h => by
   have := rowsO_at l (b + 1) k (by simpa using h)
   simp only [rowsO, List.getElem?_cons_succ, List.getD_cons_succ]
   rw [this, show b + 1 + k = b + (k + 1) by omega]
def nodesO (s : List Node) : AObj := s.map cellsN
def objsO (l : List Dset) : AH := l.map fun d => some (nodesO d.files)
theorem objsO_len (l : List Dset) : (objsO l).length = l.length := by simp [objsO]
def Eight (l : List Dset) : Prop := l.length ≤ 1000000 ∧ ∀ d ∈ l, d.files.length = 8
theorem Eight.short {l : List Dset} (h : Eight l) : Short l := ⟨h.1, fun d hd => by rw [h.2 d hd]; omega⟩
theorem Eight.get {l : List Dset} (h : Eight l) {k : Nat} (hk : k < l.length) : (l.getD k default).files.length = 8 := by
 rw [List.getD_eq_getElem?_getD, List.getElem?_eq_getElem hk]; exact h.2 _ (List.getElem_mem hk)
def rowsP (l : List Dset) (b k : Nat) : AObj := (rowsO l b).take k ++ (l.map cellD).drop k
theorem rowsP_get (l : List Dset) (b k j : Nat) (hk : k ≤ l.length) : (rowsP l b k)[j]? = if j < k then (rowsO l b)[j]? else (l.map cellD)[j]? := by
 unfold rowsP
 rw [List.getElem?_append, List.length_take, rowsO_len, Nat.min_eq_left hk]
 by_cases h : j < k
 ·rw [if_pos h, if_pos h, List.getElem?_take, if_pos h]
 ·rw [if_neg h, if_neg h, List.getElem?_drop]; congr 1; omega
theorem rowsP_len (l : List Dset) (b k : Nat) (hk : k ≤ l.length) : (rowsP l b k).length = l.length := by
 unfold rowsP
 simp [rowsO_len]; omega
theorem rowsP_at {l : List Dset} {b k : Nat} (hk : k < l.length) : (rowsP l b k)[k]? = some (cellD (l.getD k default)) := by
 rw [rowsP_get _ _ _ _ (by omega), if_neg (by omega), cell_at hk]
theorem rowsP_set {l : List Dset} {b k : Nat} (hk : k < l.length) : (rowsP l b k).set k (cellO (l.getD k default) (b + k)) = rowsP l b (k + 1) := by
 apply List.ext_getElem?
 intro j
 rw [List.getElem?_set, rowsP_get _ _ _ _ (by omega), rowsP_get _ _ _ _ (by omega), rowsP_len _ _ _ (by omega)]
 by_cases h : k = j
 ·subst h
  rw [if_pos rfl, if_pos hk, if_pos (by omega), rowsO_at l b k hk]
 ·rw [if_neg h]
  by_cases h2 : j < k
  ·rw [if_pos h2, if_pos (by omega)]
  ·rw [if_neg h2, if_neg (by omega)]
theorem rowsP_zero (l : List Dset) (b : Nat) : rowsP l b 0 = l.map cellD := by simp [rowsP]
theorem rowsP_all (l : List Dset) (b : Nat) : rowsP l b l.length = rowsO l b := by
 unfold rowsP
 rw [List.take_of_length_le (by rw [rowsO_len]; omega), List.drop_of_length_le (by simp), List.append_nil]
theorem objs_take {l : List Dset} {k : Nat} (hk : k < l.length) : (objsO l).take k ++ [some (nodesO (l.getD k default).files)] = (objsO l).take (k + 1) := by
 unfold objsO
 rw [List.take_add_one, List.getElem?_map, List.getElem?_eq_getElem hk, List.getD_eq_getElem?_getD, List.getElem?_eq_getElem hk]; rfl
theorem objs_all (l : List Dset) : (objsO l).take l.length = objsO l := List.take_of_length_le (by rw [objsO_len]; omega)
theorem renCO_nodes (τ : Nat → Option Nat) (s : List Node) : renCO τ (nodesO s) = nodesO s := by
 unfold renCO nodesO
 rw [List.map_map]
 apply List.map_congr_left
 intro x _
 simp [cellsN, renCL, renC]
theorem renCO_rows (n : Nat) : ∀ (l : List Dset) (b : Nat), renCO (up n) (rowsO l b) = rowsO l (n + b)
 | [], _ => rfl
 | d :: l, b => by
   have := renCO_rows n l (b + 1)
   unfold renCO at this ⊢
   simp only [rowsO, List.map_cons, this]
   rw [show n + (b + 1) = n + b + 1 by omega]
   simp [cellO, renCL, renC, up]
theorem upH_objs (n : Nat) (l : List Dset) : upH n (objsO l) = objsO l := by
 unfold upH objsO
 rw [List.map_map]
 apply List.map_congr_left
 intro x _
 simp [renCO_nodes]
theorem view_nodes (H : AH) (n : Nat) (s : List Node) : (nodesO s).map (fun e => e.map (viewP H (n + 1))) = s.map pnode := by
 unfold nodesO
 rw [List.map_map]
 apply List.map_congr_left
 intro x _
 simp [cellsN, pnode, viewP, toPV]
theorem liveO_at {H : AH} {r : Nat} {o : AObj} {n : Nat} (h : H.at r = some o) (hn : o.length = n) : liveO H r n = some o := by
 unfold liveO
 rw [h]; exact if_pos hn
theorem view_own8 {H : AH} {q : Nat} {s : List Node} (h : H.at q = some (nodesO s)) (hs : s.length = 8) (n : Nat) : viewP H (n + 2) (.own q 5 0 8 8) = .fz (s.map pnode) := by
 have hl : (nodesO s).length = 8 := by simp [nodesO, hs]
 rw [viewP, liveO_at h hl]
 simp only [Nat.zero_add, Nat.le_refl, if_true, List.drop_zero]
 rw [List.take_of_length_le (by omega), view_nodes]
theorem viewA_own8 {H : AH} {q : Nat} {s : List Node} (h : H.at q = some (nodesO s)) (hs : s.length = 8) : viewA H (.own q 5 0 8 8) = aset s := by
 simp only [viewA]
 rw [view_own8 h hs]; rfl
def Lie (H : AH) (r b : Nat) (l : List Dset) : Prop := H.at r = some (rowsO l b) ∧ ∀ k, k < l.length → H.at (b + k) = some (nodesO (l.getD k default).files)
theorem Lie.app {H : AH} {r b : Nat} {l : List Dset} (h : Lie H r b l) (G : AH) : Lie (H ++ G) r b l :=
 ⟨at_app.2 (.inl ⟨at_lt h.1, h.1⟩), fun k hk => at_app.2 (.inl ⟨at_lt (h.2 k hk), h.2 k hk⟩)⟩
theorem objsO_at {l : List Dset} {k : Nat} (hk : k < l.length) : (objsO l).at k = some (nodesO (l.getD k default).files) := by
 unfold objsO AH.at
 rw [List.getElem?_map, List.getElem?_eq_getElem hk, List.getD_eq_getElem?_getD, List.getElem?_eq_getElem hk]; rfl
theorem Lie.of (A G : AH) (l : List Dset) : Lie (A ++ some (rowsO l (A.length + 1)) :: objsO l ++ G) A.length (A.length + 1) l := by
 refine Lie.app (H := A ++ some (rowsO l (A.length + 1)) :: objsO l) ⟨at_app.2 (.inr ⟨0, by omega, rfl⟩), fun k hk => at_app.2 (.inr ⟨k + 1, by omega, ?_⟩)⟩ G
 exact objsO_at hk
theorem view_rows {H : AH} {r b : Nat} {l : List Dset} (hl : Eight l) (h : Lie H r b l) : viewA H (.own r 5 0 l.length l.length) = asets l := by
 simp only [viewA]
 rw [viewP, liveO_at h.1 (rowsO_len l b)]
 simp only [Nat.zero_add, Nat.le_refl, if_true, List.drop_zero, emb, asets]
 rw [List.take_of_length_le (by rw [rowsO_len]; omega)]
 congr 1
 apply List.ext_getElem?
 intro k
 rw [List.getElem?_map, List.getElem?_map]
 rcases Nat.lt_or_ge k l.length with hk | hk
 ·rw [rowsO_at l b k hk, List.getElem?_eq_getElem hk]
  have h2 := h.2 k hk
  have h3 := hl.get hk
  have e : l.getD k default = l[k] := by rw [List.getD_eq_getElem?_getD, List.getElem?_eq_getElem hk]; rfl
  rw [e] at h2 h3 ⊢
  simp only [Option.map_some, cellO, List.map_cons, List.map_nil, pdset]
  rw [view_own8 h2 h3 1]
  simp [viewP, toPV]
 ·rw [List.getElem?_eq_none (by rw [rowsO_len]; omega), List.getElem?_eq_none hk]; rfl
theorem view_cells {H : AH} {r : Nat} {l : List Dset} (h : H.at r = some (l.map cellD)) : viewA H (.own r 5 0 l.length l.length) = asets l := by
 simp only [viewA]
 rw [viewP, liveO_at h (by simp)]
 simp only [Nat.zero_add, Nat.le_refl, if_true, List.drop_zero, emb, asets]
 rw [List.take_of_length_le (by simp)]
 congr 1
 rw [List.map_map]
 apply List.map_congr_left
 intro d _
 simp [cellD, viewP, toPV, aset, pdset]
theorem cloneN0 (s : List Node) (hs : s.length = 8) : C Tryz.prog 49 [aset s] [] (fun y H' => y = .own 0 5 0 8 8 ∧ H' = [some (nodesO s)]) := by
 match s, hs with
 | [x0, x1, x2, x3, x4, x5, x6, x7], _ =>
   refine C_body d49 rfl (WT_ok ?_)
   delta c49 I0 I1 I2 I3 I4 I5 I6 I7 I8 I9 KI
   simp only [aset, pnode, nodesO, cellsN, wk3, wk, iaddrV_map, Nat.reduceAdd, Nat.reduceSub, Nat.reduceMul, Nat.reduceLeDiff, Nat.reduceEqDiff, Nat.reduceBEq, Int.reduceLE, Int.reduceLT, Int.reduceEq, Int.reduceNe, Int.reduceAdd, Int.reduceSub, Int.reduceToNat, Int.reduceNeg, ↓reduceIte, reduceCtorEq]
theorem cloneN (v : AV) (s : List Node) (hs : s.length = 8) (H : AH) (hv : viewA H v = aset s) (q : Nat) (hq : q = H.length) : C Tryz.prog 49 [v] H (fun y H' => y = .own q 5 0 8 8 ∧ H' = H ++ [some (nodesO s)]) := by
 subst hq
 refine C_view (K0 := fun y H' => y = .own 0 5 0 8 8 ∧ H' = [some (nodesO s)]) (by simpa [viewL, hv] using cloneN0 s hs) ?_
 rintro _ _ ⟨rfl, rfl⟩
 exact ⟨by simp [renC, up], by simp [upH, renCO_nodes]⟩
theorem view_aset (H : AH) (s : List Node) : viewA H (aset s) = aset s := by simp [aset, viewA]
theorem view_asets (H : AH) (l : List Dset) : viewA H (asets l) = asets l := by simp [asets, viewA]
theorem twinE0 (l : List Dset) (hl : Eight l) : C Tryz.prog 56 [asets l] [] (fun x H' => x = .own 0 5 0 l.length l.length ∧ H' = some (rowsO l 1) :: objsO l) := by
 have hl1 := hl.1
 refine C_body d56 rfl (WT_ok ?_)
 delta c56 I0 I1 I2 I3 I4 I5 I6 I7 I8 I9 KI
 simp only [wk, iaddrV_map, Nat.reduceAdd, Nat.reduceSub, Nat.reduceMul, Nat.reduceLeDiff, Nat.reduceEqDiff, Nat.reduceBEq, Int.reduceLE, Int.reduceLT, Int.reduceEq, Int.reduceNe, Int.reduceAdd, Int.reduceSub, Int.reduceToNat, Int.reduceNeg, ↓reduceIte, reduceCtorEq]
 refine CT_ok (cloneL l hl.1 _) ?_
 rintro _ _ ⟨rfl, rfl⟩
 simp only [lay, wk, iaddrV_map, Nat.reduceAdd, Nat.reduceSub, Nat.reduceMul, Nat.reduceLeDiff, Nat.reduceEqDiff, Nat.reduceBEq, Int.reduceLE, Int.reduceLT, Int.reduceEq, Int.reduceNe, Int.reduceAdd, Int.reduceSub, Int.reduceToNat, Int.reduceNeg, ↓reduceIte, reduceCtorEq]
 refine WT_loop (W_wk (fr' := [.own 0 5 0 l.length l.length, .top, .emp, .top, .top, .top, .own 0 5 0 l.length l.length, .int .i64 l.length, .int .i64 0] ++ List.replicate 14 .top) (Wk_tops ?_) (W_loop (fun n fr H' => ∃ k : Nat, k ≤ l.length ∧ n = l.length - k ∧ H' = some (rowsP l 1 k) :: (objsO l).take k ∧ fr = [.own 0 5 0 l.length l.length, .top, .emp, .top, .top, .top, .own 0 5 0 l.length l.length, .int .i64 l.length, .int .i64 k] ++ List.replicate 14 .top) l.length ⟨0, by omega, rfl, by rw [rowsP_zero]; rfl, rfl⟩ ?_))
 ·simp only [tp]
 rintro n fr H' ⟨k, hk, rfl, rfl, rfl⟩
 refine WT_ok ?_
 have hpl := rowsP_len l 1 k hk
 simp only [hpl, lay, wk, iaddrV_map, Nat.reduceAdd, Nat.reduceSub, Nat.reduceMul, Nat.reduceLeDiff, Nat.reduceEqDiff, Nat.reduceBEq, Int.reduceLE, Int.reduceLT, Int.reduceEq, Int.reduceNe, Int.reduceAdd, Int.reduceSub, Int.reduceToNat, Int.reduceNeg, ↓reduceIte, reduceCtorEq]
 refine guard_both ?_ ?_ <;> intro h <;> simp only [hy] at h
 ·have hk2 : k < l.length := by omega
  have hc := rowsP_at (b := 1) hk2
  have hs := rowsP_set (b := 1) hk2
  have ht := objs_take hk2
  have w2 : IntKind.i64.wrap ((k : Int) + 1) = (k : Int) + 1 := IntWalk.i64_in _ (by omega)
  have h0 : (0 : Int) ≤ k := by omega
  have hf := hl.get hk2
  generalize l.getD k default = d at hc hs ht hf
  simp only [h, h0, hc, hpl, cellD, aset, lay, wk, iaddrV_map, Nat.reduceAdd, Nat.reduceSub, Nat.reduceMul, Nat.reduceLeDiff, Nat.reduceEqDiff, Nat.reduceBEq, Int.reduceLE, Int.reduceLT, Int.reduceEq, Int.reduceNe, Int.reduceAdd, Int.reduceSub, Int.reduceToNat, Int.reduceNeg, ↓reduceIte, reduceCtorEq]
  refine CT_ok (cloneN _ d.files hf _ (view_aset _ _) (1 + k) (by simp [objsO]; omega)) ?_
  rintro _ _ ⟨rfl, rfl⟩
  simp only [cellO] at hs
  simp only [h, h0, hc, hs, hpl, w2, cellD, aset, lay, wk, iaddrV_map, Nat.reduceAdd, Nat.reduceSub, Nat.reduceMul, Nat.reduceLeDiff, Nat.reduceEqDiff, Nat.reduceBEq, Int.reduceLE, Int.reduceLT, Int.reduceEq, Int.reduceNe, Int.reduceAdd, Int.reduceSub, Int.reduceToNat, Int.reduceNeg, ↓reduceIte, reduceCtorEq]
  refine QLoop_go (n' := l.length - (k + 1)) (by omega) ⟨k + 1, by omega, rfl, ?_, rfl⟩ ?_
  ·rw [← ht]
  ·simp only [tq]
 ·have : k = l.length := by omega
  subst this
  simp only [h, wk, iaddrV_map, Nat.reduceAdd, Nat.reduceSub, Nat.reduceMul, Nat.reduceLeDiff, Nat.reduceEqDiff, Nat.reduceBEq, Int.reduceLE, Int.reduceLT, Int.reduceEq, Int.reduceNe, Int.reduceAdd, Int.reduceSub, Int.reduceToNat, Int.reduceNeg, ↓reduceIte, reduceCtorEq]
  rw [rowsP_all, objs_all]
theorem twinE (v : AV) (l : List Dset) (hl : Eight l) (H : AH) (hv : viewA H v = asets l) (r : Nat) (hr : r = H.length) : C Tryz.prog 56 [v] H (fun x H' => x = .own r 5 0 l.length l.length ∧ H' = H ++ some (rowsO l (r + 1)) :: objsO l) := by
 subst hr
 refine C_view (K0 := fun x H' => x = .own 0 5 0 l.length l.length ∧ H' = some (rowsO l 1) :: objsO l) (by simpa [viewL, hv] using twinE0 l hl) ?_
 rintro _ _ ⟨rfl, rfl⟩
 refine ⟨by simp [renC, up], ?_⟩
 have := upH_objs H.length l
 unfold upH at this ⊢
 rw [List.map_cons, this, Option.map_some, renCO_rows]
end Go.Proofs.YtemjlopoffjmpaaGreat.Abs
namespace Go.Proofs.YtemjlopoffjmpaaGreat.Abs
open Go
def c66 : ACode :=
 (.seq (.reg [I1 1 (.box (.t 0)), I1 2 (.mv (.c (.bool false)))])
 (.seq (.seq (.reg [I6 3 0 1, I6 4 0 3, I7 5 4, I1 6 (.bini .lss (.t 5) (KI 1)), I0 7 6, I3 8 7 (.faddr 0 (.t 1)), I3 9 7 (.faddr 0 (.t 8)), I3 10 7 (.load false 1 (.t 9)), I3 11 7 (.bini .gtr (.t 10) (KI 65535)), I1 12 (.pick (.t 7) (.c (.bool true)) (.t 11)), I0 13 12, I3 14 13 (.faddr 0 (.t 1)), I3 15 13 (.faddr 4 (.t 14)), I3 16 13 (.load false 1 (.t 15)), I3 17 13 (.call 105 [(.t 16)]), I3 18 13 (.un .not (.t 17)), I1 19 (.pick (.t 13) (.c (.bool true)) (.t 18)), I0 20 19, I3 21 20 (.faddr 0 (.t 1)), I3 22 20 (.faddr 3 (.t 21)), I3 23 20 (.load false 1 (.t 22)), I3 24 20 (.bini .lss (.t 23) (KI 0)), I1 25 (.pick (.t 20) (.c (.bool true)) (.t 24)), I0 26 25, I3 27 26 (.faddr 0 (.t 1)), I3 28 26 (.faddr 3 (.t 27)), I3 29 26 (.load false 1 (.t 28)), I3 30 26 (.bini .gtr (.t 29) (KI 255)), I1 31 (.pick (.t 26) (.c (.bool true)) (.t 30))])
 (.cond (.t 31)
 (.seq (.reg [I1 2 (.mv (.c (.bool false)))])
 .ret)
 .skip))
 (.seq (.seq (.reg [I6 32 0 1, I6 33 1 32, I7 34 33])
 (.block 0
 (.seq (.reg [I1 36 (.bini .eql (.t 34) (KI 1)), I0 35 36])
 (.cond (.t 35)
 (.seq (.reg [I6 37 0 1, I6 38 2 37, I7 39 38, I1 40 (.bini .eql (.t 39) (KI 0)), I0 41 40, I3 42 41 (.faddr 5 (.t 1)), I3 43 41 (.load false 1 (.t 42)), I3 44 41 (.faddr 0 (.t 1)), I3 45 41 (.faddr 2 (.t 44)), I3 46 41 (.load false 1 (.t 45)), I3 47 41 (.call 60 [(.t 43), (.t 46), (KI 2)]), I5 48 41 47, I2 49 48 (.faddr 5 (.t 1)), I2 50 48 (.load false 1 (.t 49)), I2 51 48 (.faddr 0 (.t 1)), I2 52 48 (.faddr 0 (.t 51)), I2 53 48 (.load false 1 (.t 52)), I2 54 48 (.call 106 [(.t 50), (.t 53)]), I2 55 48 (.un .not (.t 54)), I3 56 41 (.pick (.t 48) (.t 55) (.c (.bool false))), I1 57 (.pick (.t 41) (.c (.bool true)) (.t 56)), I0 2 57])
 .ret)
 (.seq (.reg [I1 59 (.bini .eql (.t 34) (KI 2)), I0 58 59])
 (.cond (.t 58)
 (.seq (.reg [I6 60 0 1, I6 61 3 60, I7 62 61, I1 63 (.bini .eql (.t 62) (KI 0)), I0 64 63, I2 65 64 (.faddr 5 (.t 1)), I2 66 64 (.load false 1 (.t 65)), I2 67 64 (.faddr 0 (.t 1)), I2 68 64 (.faddr 2 (.t 67)), I2 69 64 (.load false 1 (.t 68)), I2 70 64 (.call 60 [(.t 66), (.t 69), (KI 1)]), I1 71 (.pick (.t 64) (.t 70) (.c (.bool false))), I0 2 71])
 .ret)
 .skip))))))
 (.seq (.reg [I1 2 (.mv (.c (.bool false)))])
 .ret))))
theorem d66 : FnD Tryz.prog 66 1 71 [.tmp 2] c66 := ⟨Tryz.f66, _, Tryz.func66, by kernel_rfl, rfl, rfl, by kernel_rfl, by kernel_rfl⟩
end Go.Proofs.YtemjlopoffjmpaaGreat.Abs
namespace Go.Proofs.YtemjlopoffjmpaaGreat.Abs
open Go
def c106 : ACode :=
 (.seq (.reg [I1 4 (.mv (.c (.bool false)))])
 (.seq (.reg [I0 7 1, I0 5 7])
 (.seq (.seq (.reg [I0 8 0, I1 9 (.len false (.t 8)), I1 10 (.mv (KI 0))])
 (.block 0
 (.loop
 (.seq (.reg [I1 11 (.bini .lss (.t 10) (.t 9))])
 (.seq (.cond (.t 11)
 .skip
 (.exit 0))
 (.seq (.block 1
 (.seq (.reg [I0 12 0, I0 13 5, I1 14 (.call 59 [(.t 12), (.t 13)]), I0 6 14])
 (.seq (.seq (.reg [I0 15 6, I1 16 (.bini .lss (.t 15) (KI 0))])
 (.cond (.t 16)
 (.seq (.reg [I1 4 (.mv (.c (.bool false)))])
 .ret)
 .skip))
 (.seq (.reg [I0 17 0, I0 18 6, I1 19 (.iaddr 5 (.t 17) (.t 18)), I6 20 2 19, I7 21 20, I0 5 21])
 (.seq (.reg [I0 22 5, I0 23 1, I1 24 (.bini .eql (.t 22) (.t 23))])
 (.cond (.t 24)
 (.seq (.reg [I1 4 (.mv (.c (.bool true)))])
 .ret)
 .skip))))))
 (.reg [I1 25 (.bini .add (.t 10) (KI 1)), I0 10 25])))))))
 (.seq (.reg [I1 4 (.mv (.c (.bool false)))])
 .ret))))
theorem d106 : FnD Tryz.prog 106 2 24 [.tmp 4] c106 := ⟨Tryz.f106, _, Tryz.func106, by kernel_rfl, rfl, rfl, by kernel_rfl, by kernel_rfl⟩
end Go.Proofs.YtemjlopoffjmpaaGreat.Abs
namespace Go.Proofs.YtemjlopoffjmpaaGreat.Abs
open Go
def c105 : ACode :=
 (.seq (.reg [I1 2 (.mv (.c (.bool false)))])
 (.seq (.reg [I0 3 0, I1 4 (.build [.emp] [(0, 1, (.t 3))]), I1 5 (.call 131 [(.t 4)]), I0 2 5])
 .ret))
theorem d105 : FnD Tryz.prog 105 1 5 [.tmp 2] c105 := ⟨Tryz.f105, _, Tryz.func105, by kernel_rfl, rfl, rfl, by kernel_rfl, by kernel_rfl⟩
end Go.Proofs.YtemjlopoffjmpaaGreat.Abs
namespace Go.Proofs.YtemjlopoffjmpaaGreat.Abs
open Go
def c131 : ACode :=
 (.seq (.reg [I1 1 (.box (.t 0)), I1 2 (.mv (.c (.bool false)))])
 (.seq (.seq (.reg [I6 7 0 1, I7 8 7, I1 9 (.len false (.t 8)), I1 10 (.bini .neq (.t 9) (KI 8)), I0 11 10, I3 12 11 (.faddr 0 (.t 1)), I3 13 11 (.load false 1 (.t 12)), I3 14 11 (.iaddr 5 (.t 13) (KI 0)), I3 15 11 (.load true 5 (.t 14)), I3 16 11 (.build [.int .i64 0, .int .i64 0, .str [], .str [], .int .i64 0] [(0, 1, (KI 2))]), I3 17 11 (.eqs true [.i, .i, .s, .s, .i] (.t 15) (.t 16)), I1 18 (.pick (.t 11) (.c (.bool true)) (.t 17))])
 (.cond (.t 18)
 (.seq (.reg [I1 2 (.mv (.c (.bool false)))])
 .ret)
 .skip))
 (.seq (.seq (.reg [I6 19 0 1, I7 20 19, I1 21 (.slicel 5 (.t 20) (some (KI 1)) none), I1 22 (.len false (.t 21)), I1 23 (.mv (KI 0))])
 (.block 0
 (.loop
 (.seq (.reg [I1 24 (.bini .lss (.t 23) (.t 22))])
 (.seq (.cond (.t 24)
 .skip
 (.exit 0))
 (.seq (.block 1
 (.seq (.reg [I1 25 (.iaddr 5 (.t 21) (.t 23)), I1 26 (.load true 5 (.t 25)), I1 4 (.alloc [.int .i64 0, .int .i64 0, .str [], .str [], .int .i64 0]), I9 5 4 26])
 (.seq (.reg [I1 27 (.load true 5 (.t 4)), I1 28 (.build [.int .i64 0, .int .i64 0, .str [], .str [], .int .i64 0] []), I1 29 (.eqs true [.i, .i, .s, .s, .i] (.t 27) (.t 28)), I0 30 29, I2 31 30 (.load true 1 (.t 1)), I2 32 30 (.load true 5 (.t 4)), I2 33 30 (.call 158 [(.t 31), (.t 32)]), I2 34 30 (.un .not (.t 33)), I1 35 (.pick (.t 30) (.t 34) (.c (.bool false)))])
 (.cond (.t 35)
 (.seq (.reg [I1 2 (.mv (.c (.bool false)))])
 .ret)
 .skip))))
 (.reg [I1 36 (.bini .add (.t 23) (KI 1)), I0 23 36])))))))
 (.seq (.seq (.reg [I6 37 0 1, I7 38 37, I1 39 (.len false (.t 38)), I1 40 (.mv (KI 0))])
 (.block 2
 (.loop
 (.seq (.reg [I1 41 (.bini .lss (.t 40) (.t 39))])
 (.seq (.cond (.t 41)
 .skip
 (.exit 2))
 (.seq (.block 3
 (.seq (.reg [I0 42 40, I1 43 (.iaddr 5 (.t 38) (.t 40)), I1 44 (.load true 5 (.t 43)), I1 6 (.alloc [.int .i64 0, .int .i64 0, .str [], .str [], .int .i64 0]), I0 5 42, I9 5 6 44])
 (.seq (.reg [I0 45 5, I1 46 (.bini .gtr (.t 45) (KI 0)), I0 47 46, I2 48 47 (.faddr 0 (.t 6)), I2 49 47 (.load false 1 (.t 48)), I2 50 47 (.bini .neq (.t 49) (KI 0)), I1 51 (.pick (.t 47) (.t 50) (.c (.bool false))), I0 52 51, I2 53 52 (.load true 1 (.t 1)), I4 54 52 5, I2 55 52 (.call 159 [(.t 53), (.t 54)]), I2 56 52 (.un .not (.t 55)), I4 57 52 56, I3 58 57 (.load true 1 (.t 1)), I5 59 57 5, I3 60 57 (.call 160 [(.t 58), (.t 59)]), I2 61 52 (.pick (.t 57) (.c (.bool true)) (.t 60)), I1 62 (.pick (.t 52) (.t 61) (.c (.bool false)))])
 (.cond (.t 62)
 (.seq (.reg [I1 2 (.mv (.c (.bool false)))])
 .ret)
 .skip))))
 (.reg [I1 63 (.bini .add (.t 40) (KI 1)), I0 40 63])))))))
 (.seq (.reg [I1 2 (.mv (.c (.bool true)))])
 .ret)))))
theorem d131 : FnD Tryz.prog 131 1 63 [.tmp 2] c131 := ⟨Tryz.f131, _, Tryz.func131, by kernel_rfl, rfl, rfl, by kernel_rfl, by kernel_rfl⟩
end Go.Proofs.YtemjlopoffjmpaaGreat.Abs
namespace Go.Proofs.YtemjlopoffjmpaaGreat.Abs
open Go
def c158 : ACode :=
 (.seq (.reg [I1 2 (.box (.t 0)), I1 3 (.box (.t 1)), I1 4 (.mv (.c (.bool false)))])
 (.seq (.block 0
 (.seq (.reg [I6 6 4 3, I7 7 6, I1 8 (.bini .neq (.t 7) (KI 0)), I0 9 8, I3 10 9 (.faddr 2 (.t 3)), I3 11 9 (.load false 1 (.t 10)), I3 12 9 (.call 201 [(.t 11)]), I3 13 9 (.un .not (.t 12)), I1 14 (.pick (.t 9) (.c (.bool true)) (.t 13)), I0 15 14, I3 16 15 (.load true 1 (.t 2)), I3 17 15 (.faddr 1 (.t 3)), I3 18 15 (.load false 1 (.t 17)), I3 19 15 (.call 202 [(.t 16), (.t 18)]), I3 20 15 (.un .not (.t 19)), I1 21 (.pick (.t 15) (.c (.bool true)) (.t 20)), I0 5 21])
 (.cond (.t 5)
 (.seq (.reg [I1 4 (.mv (.c (.bool false)))])
 .ret)
 (.seq (.reg [I6 23 0 3, I7 24 23, I1 25 (.bini .eql (.t 24) (KI 1)), I0 22 25])
 (.cond (.t 22)
 (.seq (.reg [I6 26 3 3, I7 27 26, I1 28 (.len true (.t 27)), I1 29 (.bini .leq (.t 28) (KI 128)), I0 4 29])
 .ret)
 .skip)))))
 (.seq (.reg [I6 30 0 3, I7 31 30, I1 32 (.bini .eql (.t 31) (KI 2)), I0 33 32, I2 34 33 (.faddr 3 (.t 3)), I2 35 33 (.load false 1 (.t 34)), I2 36 33 (.bins .eql (.t 35) (.c (.str []))), I1 37 (.pick (.t 33) (.t 36) (.c (.bool false))), I0 4 37])
 .ret)))
theorem d158 : FnD Tryz.prog 158 2 36 [.tmp 4] c158 := ⟨Tryz.f158, _, Tryz.func158, by kernel_rfl, rfl, rfl, by kernel_rfl, by kernel_rfl⟩
end Go.Proofs.YtemjlopoffjmpaaGreat.Abs
namespace Go.Proofs.YtemjlopoffjmpaaGreat.Abs
open Go
def c159 : ACode :=
 (.seq (.reg [I1 2 (.box (.t 0)), I1 4 (.mv (.c (.bool false)))])
 (.seq (.seq (.reg [I6 5 0 2, I7 6 5, I1 7 (.len false (.t 6)), I1 8 (.mv (KI 0))])
 (.block 0
 (.loop
 (.seq (.reg [I1 9 (.bini .lss (.t 8) (.t 7))])
 (.seq (.cond (.t 9)
 .skip
 (.exit 0))
 (.seq (.block 1
 (.seq (.seq (.reg [I0 10 1, I1 11 (.bini .eql (.t 10) (KI 0))])
 (.cond (.t 11)
 (.seq (.reg [I1 4 (.mv (.c (.bool true)))])
 .ret)
 .skip))
 (.reg [I6 12 0 2, I7 13 12, I0 14 1, I1 15 (.iaddr 5 (.t 13) (.t 14)), I6 16 1 15, I7 17 16, I0 1 17])))
 (.reg [I1 18 (.bini .add (.t 8) (KI 1)), I0 8 18])))))))
 (.seq (.reg [I1 4 (.mv (.c (.bool false)))])
 .ret)))
theorem d159 : FnD Tryz.prog 159 2 17 [.tmp 4] c159 := ⟨Tryz.f159, _, Tryz.func159, by kernel_rfl, rfl, rfl, by kernel_rfl, by kernel_rfl⟩
end Go.Proofs.YtemjlopoffjmpaaGreat.Abs
namespace Go.Proofs.YtemjlopoffjmpaaGreat.Abs
open Go
def c160 : ACode :=
 (.seq (.reg [I1 2 (.box (.t 0)), I1 4 (.mv (.c (.bool false)))])
 (.seq (.seq (.reg [I6 7 0 2, I7 8 7, I1 9 (.len false (.t 8)), I1 10 (.mv (KI 0))])
 (.block 0
 (.loop
 (.seq (.reg [I1 11 (.bini .lss (.t 10) (.t 9))])
 (.seq (.cond (.t 11)
 .skip
 (.exit 0))
 (.seq (.block 1
 (.seq (.reg [I0 12 10, I1 13 (.iaddr 5 (.t 8) (.t 10)), I1 14 (.load true 5 (.t 13)), I1 6 (.alloc [.int .i64 0, .int .i64 0, .str [], .str [], .int .i64 0]), I0 5 12, I9 5 6 14])
 (.seq (.dreg [I0 15 5, I1 16 (.bini .gtr (.t 15) (KI 0)), I0 17 16, I4 18 17 5, I4 19 17 1, I2 20 17 (.bini .neq (.t 18) (.t 19)), I1 21 (.pick (.t 17) (.t 20) (.c (.bool false))), I0 22 21, I2 23 22 (.faddr 0 (.t 6)), I2 24 22 (.load false 1 (.t 23)), I2 25 22 (.bini .neq (.t 24) (KI 0)), I1 26 (.pick (.t 22) (.t 25) (.c (.bool false))), I0 27 26, I2 28 27 (.faddr 1 (.t 6)), I2 29 27 (.load false 1 (.t 28)), I2 30 27 (.faddr 0 (.t 2)), I2 31 27 (.load false 1 (.t 30)), I4 32 27 1, I2 33 27 (.iaddr 5 (.t 31) (.t 32)), I2 34 27 (.faddr 1 (.t 33)), I2 35 27 (.load false 1 (.t 34)), I2 36 27 (.bini .eql (.t 29) (.t 35)), I1 37 (.pick (.t 27) (.t 36) (.c (.bool false))), I0 38 37, I2 39 38 (.faddr 2 (.t 6)), I2 40 38 (.load false 1 (.t 39)), I2 41 38 (.faddr 0 (.t 2)), I2 42 38 (.load false 1 (.t 41)), I4 43 38 1, I2 44 38 (.iaddr 5 (.t 42) (.t 43)), I2 45 38 (.faddr 2 (.t 44)), I2 46 38 (.load false 1 (.t 45)), I2 47 38 (.bins .eql (.t 40) (.t 46)), I1 48 (.pick (.t 38) (.t 47) (.c (.bool false)))])
 (.cond (.t 48)
 (.seq (.reg [I1 4 (.mv (.c (.bool true)))])
 .ret)
 .skip))))
 (.reg [I1 49 (.bini .add (.t 10) (KI 1)), I0 10 49])))))))
 (.seq (.reg [I1 4 (.mv (.c (.bool false)))])
 .ret)))
theorem d160 : FnD Tryz.prog 160 2 48 [.tmp 4] c160 := ⟨Tryz.f160, _, Tryz.func160, by kernel_rfl, rfl, rfl, by kernel_rfl, by kernel_rfl⟩
end Go.Proofs.YtemjlopoffjmpaaGreat.Abs
namespace Go.Proofs.YtemjlopoffjmpaaGreat.Abs
open Go
def c201 : ACode :=
 (.seq (.reg [I1 2 (.mv (.c (.bool false)))])
 (.seq (.reg [I0 3 0, I1 4 (.bins .neq (.t 3) (.c (.str []))), I0 5 4, I4 6 5 0, I2 7 5 (.len true (.t 6)), I2 8 5 (.bini .leq (.t 7) (KI 8)), I1 9 (.pick (.t 5) (.t 8) (.c (.bool false))), I0 10 9, I4 11 10 0, I2 12 10 (.call 224 [(.t 11)]), I1 13 (.pick (.t 10) (.t 12) (.c (.bool false))), I0 14 13, I4 15 14 0, I2 16 14 (.bins .neq (.t 15) (.c (.str [46]))), I1 17 (.pick (.t 14) (.t 16) (.c (.bool false))), I0 18 17, I4 19 18 0, I2 20 18 (.bins .neq (.t 19) (.c (.str [46, 46]))), I1 21 (.pick (.t 18) (.t 20) (.c (.bool false))), I0 2 21])
 .ret))
theorem d201 : FnD Tryz.prog 201 1 21 [.tmp 2] c201 := ⟨Tryz.f201, _, Tryz.func201, by kernel_rfl, rfl, rfl, by kernel_rfl, by kernel_rfl⟩
end Go.Proofs.YtemjlopoffjmpaaGreat.Abs
namespace Go.Proofs.YtemjlopoffjmpaaGreat.Abs
open Go
def c202 : ACode :=
 (.seq (.reg [I1 2 (.box (.t 0)), I1 4 (.mv (.c (.bool false)))])
 (.seq (.reg [I0 5 1, I1 6 (.bini .geq (.t 5) (KI 0)), I0 7 6, I4 8 7 1, I2 9 7 (.faddr 0 (.t 2)), I2 10 7 (.load false 1 (.t 9)), I2 11 7 (.len false (.t 10)), I2 12 7 (.bini .lss (.t 8) (.t 11)), I1 13 (.pick (.t 7) (.t 12) (.c (.bool false))), I0 14 13, I2 15 14 (.faddr 0 (.t 2)), I2 16 14 (.load false 1 (.t 15)), I4 17 14 1, I2 18 14 (.iaddr 5 (.t 16) (.t 17)), I2 19 14 (.faddr 0 (.t 18)), I2 20 14 (.load false 1 (.t 19)), I2 21 14 (.bini .eql (.t 20) (KI 2)), I1 22 (.pick (.t 14) (.t 21) (.c (.bool false))), I0 4 22])
 .ret))
theorem d202 : FnD Tryz.prog 202 2 21 [.tmp 4] c202 := ⟨Tryz.f202, _, Tryz.func202, by kernel_rfl, rfl, rfl, by kernel_rfl, by kernel_rfl⟩
end Go.Proofs.YtemjlopoffjmpaaGreat.Abs
namespace Go.Proofs.YtemjlopoffjmpaaGreat.Abs
open Go
def c224 : ACode :=
 (.seq (.reg [I1 2 (.mv (.c (.bool false)))])
 (.seq (.seq (.reg [I0 5 0, I1 6 (.convsb (.t 5)), I1 7 (.len false (.t 6)), I1 8 (.mv (KI 0))])
 (.block 0
 (.loop
 (.seq (.reg [I1 9 (.bini .lss (.t 8) (.t 7))])
 (.seq (.cond (.t 9)
 .skip
 (.exit 0))
 (.seq (.block 1
 (.seq (.reg [I1 10 (.iaddr 1 (.t 6) (.t 8)), I7 11 10, I0 4 11])
 (.seq (.reg [I0 12 4, I1 13 (.call 229 [(.c (.str [97, 98, 99, 100, 101, 102, 103, 104, 105, 106, 107, 108, 109, 110, 111, 112, 113, 114, 115, 116, 117, 118, 119, 120, 121, 122, 48, 49, 50, 51, 52, 53, 54, 55, 56, 57, 46, 95, 45])), (.t 12)]), I1 14 (.bini .lss (.t 13) (KI 0))])
 (.cond (.t 14)
 (.seq (.reg [I1 2 (.mv (.c (.bool false)))])
 .ret)
 .skip))))
 (.reg [I1 15 (.bini .add (.t 8) (KI 1)), I0 8 15])))))))
 (.seq (.reg [I1 2 (.mv (.c (.bool true)))])
 .ret)))
theorem d224 : FnD Tryz.prog 224 1 15 [.tmp 2] c224 := ⟨Tryz.f224, _, Tryz.func224, by kernel_rfl, rfl, rfl, by kernel_rfl, by kernel_rfl⟩
end Go.Proofs.YtemjlopoffjmpaaGreat.Abs
namespace Go.Proofs.YtemjlopoffjmpaaGreat.Abs
open Go
def c14 : ACode :=
 (.seq (.reg [I1 4 (.mv (.c (.emp)))])
 (.seq (.reg [I1 9 (.build [.int .i64 0, .int .i64 0, .int .i64 0, .int .i64 0, .int .i64 0, .int .u32 0, .int .u32 0, .int .u32 0, .int .u32 0, .int .i64 0, .int .i64 0, .int .u32 0, .int .u32 0, .int .u32 0, .int .u32 0, .int .i64 0, .int .i64 0, .int .u32 0, .int .u32 0, .int .u32 0, .int .u32 0, .int .i64 0] [(1, 1, (KI 2))]), I1 10 (.call 34 []), I1 11 (.build [.int .i64 0, .int .i64 0, .int .i64 0, .int .i64 0, .emp] [(0, 1, (KI 1)), (1, 1, (KI 1)), (4, 1, (.t 10))]), I1 12 (.bslice 5 1 [.int .i64 0, .int .i64 0, .int .i64 0, .int .i64 0, .emp] [(0, (.t 11))]), I1 13 (.build [.emp, .emp, .int .i64 0, .int .i64 0, .bool false, .int .i64 0, .int .i64 0, .int .u32 0, .int .u32 0, .int .u32 0, .int .u32 0, .int .i64 0, .int .i64 0, .int .i64 0, .int .i64 0, .int .i64 0, .int .u32 0, .int .u32 0, .int .u32 0, .int .u32 0, .int .i64 0, .int .i64 0, .int .u32 0, .int .u32 0, .int .u32 0, .int .u32 0, .int .i64 0, .int .i64 0, .int .u32 0, .int .u32 0, .int .u32 0, .int .u32 0, .int .i64 0, .emp, .emp, .emp, .emp, .int .i64 0, .int .i64 0, .emp, .bool false] [(11, 22, (.t 9)), (39, 1, (.t 12))]), I1 5 (.alloc [.emp, .emp, .int .i64 0, .int .i64 0, .bool false, .int .i64 0, .int .i64 0, .int .u32 0, .int .u32 0, .int .u32 0, .int .u32 0, .int .i64 0, .int .i64 0, .int .i64 0, .int .i64 0, .int .i64 0, .int .u32 0, .int .u32 0, .int .u32 0, .int .u32 0, .int .i64 0, .int .i64 0, .int .u32 0, .int .u32 0, .int .u32 0, .int .u32 0, .int .i64 0, .int .i64 0, .int .u32 0, .int .u32 0, .int .u32 0, .int .u32 0, .int .i64 0, .emp, .emp, .emp, .emp, .int .i64 0, .int .i64 0, .emp, .bool false]), I9 41 5 13])
 (.seq (.seq (.reg [I1 6 (.mv (KI 0))])
 (.block 0
 (.loop
 (.seq (.seq (.reg [I0 14 6, I0 15 1, I1 16 (.bini .lss (.t 14) (.t 15)), I0 17 16, I4 18 17 0, I2 19 17 (.call 43 [(.t 18)]), I2 20 17 (.un .not (.t 19)), I1 21 (.pick (.t 17) (.t 20) (.c (.bool false)))])
 (.cond (.t 21)
 .skip
 (.exit 0)))
 (.seq (.block 1
 (.seq (.reg [I0 24 0, I1 25 (.call 44 [(.t 24), (KI 8)]), I1 26 (.bini .add (KI 1) (.t 25)), I0 7 26])
 (.seq (.reg [I0 27 0, I0 28 7, I1 29 (.call 45 [(.t 27), (.t 28)]), I1 8 (.alloc [.int .i64 0, .int .i64 0, .int .i64 0, .int .i64 0, .int .i64 0, .str [], .str [], .str [], .emp]), I9 9 8 29])
 (.seq (.seq (.reg [I0 30 0, I1 31 (.call 44 [(.t 30), (KI 3)]), I1 32 (.bini .gtr (.t 31) (KI 0))])
 (.cond (.t 32)
 (.reg [I0 33 0, I0 34 7, I1 35 (.call 46 [(.t 33), (.t 34)]), I9 9 8 35])
 .skip))
 (.reg [I1 37 (.load true 41 (.t 5)), I1 38 (.load true 9 (.t 8)), I1 39 (.call 47 [(.t 37), (.t 38)]), I0 36 39, I8 40 36 0, I8 41 36 1, I9 41 5 40])))))
 (.reg [I0 22 6, I1 23 (.bini .add (.t 22) (KI 1)), I0 6 23]))))))
 (.seq (.reg [I6 42 39 5, I7 43 42, I0 4 43])
 .ret))))
theorem d14 : FnD Tryz.prog 14 2 42 [.tmp 4] c14 := ⟨Tryz.f14, _, Tryz.func14, by kernel_rfl, rfl, rfl, by kernel_rfl, by kernel_rfl⟩
end Go.Proofs.YtemjlopoffjmpaaGreat.Abs
namespace Go.Proofs.YtemjlopoffjmpaaGreat.Abs
open Go
def c47 : ACode :=
 (.seq (.reg [I1 2 (.box (.t 0)), I1 3 (.box (.t 1)), I1 4 (.alloc [.emp, .emp, .int .i64 0, .int .i64 0, .bool false, .int .i64 0, .int .i64 0, .int .u32 0, .int .u32 0, .int .u32 0, .int .u32 0, .int .i64 0, .int .i64 0, .int .i64 0, .int .i64 0, .int .i64 0, .int .u32 0, .int .u32 0, .int .u32 0, .int .u32 0, .int .i64 0, .int .i64 0, .int .u32 0, .int .u32 0, .int .u32 0, .int .u32 0, .int .i64 0, .int .i64 0, .int .u32 0, .int .u32 0, .int .u32 0, .int .u32 0, .int .i64 0, .emp, .emp, .emp, .emp, .int .i64 0, .int .i64 0, .emp, .bool false]), I1 5 (.alloc [.int .i64 0, .str [], .int .i64 0, .int .i64 0, .int .i64 0, .int .i64 0, .emp, .int .i64 0])])
 (.seq (.seq (.reg [I6 9 0 3, I7 10 9, I1 11 (.bini .lss (.t 10) (KI 1)), I0 12 11, I3 13 12 (.faddr 0 (.t 3)), I3 14 12 (.load false 1 (.t 13)), I3 15 12 (.bini .gtr (.t 14) (KI 22)), I1 16 (.pick (.t 12) (.c (.bool true)) (.t 15))])
 (.cond (.t 16)
 (.seq (.reg [I1 17 (.load true 41 (.t 2)), I1 18 (.call 86 [(.t 17), (KI 1)]), I8 19 18 0, I8 20 18 1, I9 41 4 19, I9 8 5 20])
 .ret)
 .skip))
 (.seq (.seq (.reg [I6 21 40 2, I7 22 21, I0 23 22, I2 24 23 (.faddr 0 (.t 3)), I2 25 23 (.load false 1 (.t 24)), I2 26 23 (.call 87 [(.t 25)]), I1 27 (.pick (.t 23) (.t 26) (.c (.bool false)))])
 (.cond (.t 27)
 (.seq (.reg [I1 28 (.load true 41 (.t 2)), I1 29 (.call 86 [(.t 28), (KI 11)]), I8 30 29 0, I8 31 29 1, I9 41 4 30, I9 8 5 31])
 .ret)
 .skip))
 (.seq (.block 0
 (.seq (.reg [I6 33 0 3, I7 34 33, I1 35 (.bini .leq (.t 34) (KI 8)), I0 32 35])
 (.cond (.t 32)
 (.seq (.reg [I1 36 (.load true 41 (.t 2)), I1 37 (.load true 9 (.t 3)), I1 38 (.call 88 [(.t 36), (.t 37)]), I8 39 38 0, I8 40 38 1, I9 41 4 39, I9 8 5 40])
 .ret)
 (.seq (.reg [I6 42 0 3, I7 43 42, I1 44 (.bini .leq (.t 43) (KI 14)), I0 41 44])
 (.cond (.t 41)
 (.seq (.reg [I1 45 (.load true 41 (.t 2)), I1 46 (.load true 9 (.t 3)), I1 47 (.call 89 [(.t 45), (.t 46)]), I8 48 47 0, I8 49 47 1, I9 41 4 48, I9 8 5 49])
 .ret)
 .skip)))))
 (.seq (.reg [I1 50 (.build [.int .i64 0, .str [], .int .i64 0, .int .i64 0, .int .i64 0, .int .i64 0, .emp, .int .i64 0] []), I1 6 (.alloc [.int .i64 0, .str [], .int .i64 0, .int .i64 0, .int .i64 0, .int .i64 0, .emp, .int .i64 0]), I9 8 6 50])
 (.seq (.seq (.reg [I6 51 0 3, I7 52 51])
 (.block 1
 (.seq (.reg [I1 64 (.bini .eql (.t 52) (KI 15)), I0 63 64])
 (.cond (.t 63)
 (.seq (.seq (.reg [I6 65 2 3, I7 66 65, I1 67 (.bini .lss (.t 66) (KI 0)), I0 68 67, I3 69 68 (.faddr 2 (.t 3)), I3 70 68 (.load false 1 (.t 69)), I3 71 68 (.bini .gtr (.t 70) (KI 1)), I1 72 (.pick (.t 68) (.c (.bool true)) (.t 71))])
 (.cond (.t 72)
 (.seq (.reg [I1 73 (.load true 41 (.t 2)), I1 74 (.call 86 [(.t 73), (KI 1)]), I8 75 74 0, I8 76 74 1, I9 41 4 75, I9 8 5 76])
 .ret)
 .skip))
 (.seq (.reg [I1 78 (.load true 41 (.t 2)), I6 79 2 3, I7 80 79, I1 81 (.bini .eql (.t 80) (KI 1)), I1 82 (.call 90 [(.t 78), (.t 81)]), I0 77 82, I8 83 77 0, I8 84 77 1, I9 41 2 83, I6 85 0 6, I9 1 85 84])
 (.seq (.reg [I6 86 0 6, I7 87 86, I1 88 (.bini .eql (.t 87) (KI 0))])
 (.cond (.t 88)
 (.reg [I6 89 11 2, I6 90 0 89, I7 91 90, I6 92 7 6, I9 1 92 91])
 .skip))))
 (.seq (.reg [I1 94 (.bini .eql (.t 52) (KI 16)), I0 93 94])
 (.cond (.t 93)
 (.reg [I1 96 (.load true 41 (.t 2)), I1 97 (.call 91 [(.t 96)]), I0 95 97, I8 98 95 0, I8 99 95 1, I9 41 2 98, I6 100 0 6, I9 1 100 99])
 (.seq (.reg [I1 102 (.bini .eql (.t 52) (KI 17)), I0 101 102])
 (.cond (.t 101)
 (.reg [I1 104 (.load true 41 (.t 2)), I1 105 (.call 92 [(.t 104)]), I0 103 105, I8 106 103 0, I8 107 103 1, I9 41 2 106, I6 108 0 6, I9 1 108 107])
 (.seq (.reg [I1 110 (.bini .eql (.t 52) (KI 18)), I0 109 110])
 (.cond (.t 109)
 (.seq (.reg [I6 112 0 2, I1 113 (.load true 5 (.t 112)), I6 114 2 3, I7 115 114, I1 116 (.call 93 [(.t 113), (.t 115)]), I0 111 116, I8 117 111 0, I8 118 111 1, I1 7 (.alloc [.emp, .emp, .int .i64 0, .int .i64 0, .bool false, .int .i64 0, .int .i64 0, .int .u32 0, .int .u32 0, .int .u32 0, .int .u32 0, .int .i64 0, .int .i64 0, .int .i64 0, .int .i64 0, .int .i64 0, .int .u32 0, .int .u32 0, .int .u32 0, .int .u32 0, .int .i64 0, .int .i64 0, .int .u32 0, .int .u32 0, .int .u32 0, .int .u32 0, .int .i64 0, .int .i64 0, .int .u32 0, .int .u32 0, .int .u32 0, .int .u32 0, .int .i64 0, .emp, .emp, .emp, .emp, .int .i64 0, .int .i64 0, .emp, .bool false]), I9 41 7 117, I0 8 118])
 (.seq (.seq (.reg [I0 119 8, I1 120 (.bini .neq (.t 119) (KI 0))])
 (.cond (.t 120)
 (.seq (.reg [I6 121 0 7, I1 122 (.load true 5 (.t 121)), I6 123 0 2, I9 5 123 122])
 (.seq (.reg [I1 124 (.load true 41 (.t 2)), I0 125 8, I1 126 (.call 86 [(.t 124), (.t 125)]), I8 127 126 0, I8 128 126 1, I9 41 4 127, I9 8 5 128])
 .ret))
 .skip))
 (.dregE [[(0, I1 129 (.load true 41 (.t 7))), (1, I6 130 11 7), (2, I6 131 0 130), (3, I7 132 131), (4, I9 41 2 129)], [(5, I6 133 7 6)], [(6, I9 1 133 132)]]
  [[], [], [1], [1, 2], [0], [0, 1, 2, 3, 4], [0, 1, 2, 3, 4, 5]])))
 (.seq (.seq (.reg [I1 135 (.bini .eql (.t 52) (KI 19)), I0 134 135])
 (.cond (.t 134)
 .skip
 (.reg [I1 136 (.bini .eql (.t 52) (KI 20)), I0 134 136])))
 (.cond (.t 134)
 (.seq (.seq (.reg [I6 137 2 3, I7 138 137, I1 139 (.bini .lss (.t 138) (KI 0)), I0 140 139, I3 141 140 (.faddr 2 (.t 3)), I3 142 140 (.load false 1 (.t 141)), I3 143 140 (.bini .gtr (.t 142) (KI 200)), I1 144 (.pick (.t 140) (.c (.bool true)) (.t 143))])
 (.cond (.t 144)
 (.seq (.reg [I1 145 (.load true 41 (.t 2)), I1 146 (.call 86 [(.t 145), (KI 1)]), I8 147 146 0, I8 148 146 1, I9 41 4 147, I9 8 5 148])
 .ret)
 .skip))
 (.seq (.reg [I6 149 0 3, I7 150 149, I1 151 (.bini .eql (.t 150) (KI 19))])
 (.cond (.t 151)
 (.reg [I6 152 2 3, I7 153 152, I6 154 0 2, I6 155 3 154, I9 1 155 153])
 (.reg [I6 156 2 3, I7 157 156, I6 158 0 2, I6 159 2 158, I9 1 159 157]))))
 (.seq (.reg [I1 161 (.bini .eql (.t 52) (KI 21)), I0 160 161])
 (.cond (.t 160)
 (.reg [I6 162 0 2, I1 163 (.load true 5 (.t 162)), I6 164 8 3, I7 165 164, I1 166 (.call 94 [(.t 163), (.t 165)]), I1 167 (.build [.emp, .emp, .int .i64 0, .int .i64 0, .bool false, .int .i64 0, .int .i64 0, .int .u32 0, .int .u32 0, .int .u32 0, .int .u32 0, .int .i64 0, .int .i64 0, .int .i64 0, .int .i64 0, .int .i64 0, .int .u32 0, .int .u32 0, .int .u32 0, .int .u32 0, .int .i64 0, .int .i64 0, .int .u32 0, .int .u32 0, .int .u32 0, .int .u32 0, .int .i64 0, .int .i64 0, .int .u32 0, .int .u32 0, .int .u32 0, .int .u32 0, .int .i64 0, .emp, .emp, .emp, .emp, .int .i64 0, .int .i64 0, .emp, .bool false] [(0, 5, (.t 166))]), I9 41 2 167])
 (.reg [I6 53 0 2, I1 54 (.load true 5 (.t 53)), I6 55 2 3, I7 56 55, I6 57 3 3, I7 58 57, I6 59 4 3, I7 60 59, I1 61 (.call 95 [(.t 54), (.t 56), (.t 58), (.t 60)]), I6 62 0 2, I9 5 62 61])))))))))))))))
 (.seq (.dregE [[(0, I1 168 (.load true 41 (.t 2))), (1, I1 169 (.load true 8 (.t 6))), (2, I9 41 4 168)], [(3, I9 8 5 169)]]
  [[], [], [0], [0, 1, 2]])
 .ret)))))))
theorem d47 : FnD Tryz.prog 47 2 168 [.cell 4 true 41, .cell 5 true 8] c47 := ⟨Tryz.f47, _, Tryz.func47, by kernel_rfl, rfl, rfl, by kernel_rfl, by kernel_rfl⟩
end Go.Proofs.YtemjlopoffjmpaaGreat.Abs
namespace Go.Proofs.YtemjlopoffjmpaaGreat.Abs
open Go
def c89 : ACode :=
 (.seq (.reg [I1 2 (.box (.t 0)), I1 3 (.box (.t 1)), I1 4 (.alloc [.emp, .emp, .int .i64 0, .int .i64 0, .bool false, .int .i64 0, .int .i64 0, .int .u32 0, .int .u32 0, .int .u32 0, .int .u32 0, .int .i64 0, .int .i64 0, .int .i64 0, .int .i64 0, .int .i64 0, .int .u32 0, .int .u32 0, .int .u32 0, .int .u32 0, .int .i64 0, .int .i64 0, .int .u32 0, .int .u32 0, .int .u32 0, .int .u32 0, .int .i64 0, .int .i64 0, .int .u32 0, .int .u32 0, .int .u32 0, .int .u32 0, .int .i64 0, .emp, .emp, .emp, .emp, .int .i64 0, .int .i64 0, .emp, .bool false]), I1 5 (.alloc [.int .i64 0, .str [], .int .i64 0, .int .i64 0, .int .i64 0, .int .i64 0, .emp, .int .i64 0])])
 (.seq (.reg [I6 9 39 2, I7 10 9, I0 6 10, I1 7 (.mv (KI 0))])
 (.seq (.reg [I6 11 11 2, I6 12 1 11, I7 13 12, I0 8 13])
 (.seq (.seq (.reg [I6 14 0 3, I7 15 14])
 (.block 0
 (.seq (.reg [I1 24 (.bini .eql (.t 15) (KI 9)), I0 23 24])
 (.cond (.t 23)
 (.reg [I0 26 6, I0 27 8, I6 28 2 3, I7 29 28, I1 30 (.call 70 [(.t 26), (.t 27), (.t 29)]), I0 25 30, I8 31 25 0, I8 32 25 1, I0 6 31, I0 7 32])
 (.seq (.reg [I1 34 (.bini .eql (.t 15) (KI 10)), I0 33 34])
 (.cond (.t 33)
 (.reg [I0 36 6, I0 37 8, I6 38 1 3, I7 39 38, I1 40 (.call 71 [(.t 36), (.t 37), (.t 39)]), I0 35 40, I8 41 35 0, I8 42 35 1, I0 6 41, I0 7 42])
 (.seq (.reg [I1 44 (.bini .eql (.t 15) (KI 11)), I0 43 44])
 (.cond (.t 43)
 (.reg [I0 46 6, I0 47 8, I6 48 1 3, I7 49 48, I1 50 (.call 72 [(.t 46), (.t 47), (.t 49)]), I0 45 50, I8 51 45 0, I8 52 45 1, I0 6 51, I0 7 52])
 (.seq (.reg [I1 54 (.bini .eql (.t 15) (KI 12)), I0 53 54])
 (.cond (.t 53)
 (.reg [I0 56 6, I6 57 1 3, I7 58 57, I1 59 (.call 73 [(.t 56), (.t 58)]), I0 55 59, I8 60 55 0, I8 61 55 1, I0 6 60, I0 7 61])
 (.seq (.reg [I1 63 (.bini .eql (.t 15) (KI 13)), I0 62 63])
 (.cond (.t 62)
 (.reg [I0 65 6, I6 66 1 3, I7 67 66, I6 68 2 3, I7 69 68, I1 70 (.call 74 [(.t 65), (.t 67), (.t 69)]), I0 64 70, I8 71 64 0, I8 72 64 1, I0 6 71, I0 7 72])
 (.reg [I0 17 6, I6 18 1 3, I7 19 18, I1 20 (.call 75 [(.t 17), (.t 19)]), I0 16 20, I8 21 16 0, I8 22 16 1, I0 6 21, I0 7 22])))))))))))))
 (.seq (.seq (.reg [I0 73 7, I1 74 (.bini .neq (.t 73) (KI 0))])
 (.cond (.t 74)
 (.seq (.reg [I1 75 (.load true 41 (.t 2)), I0 76 7, I1 77 (.call 86 [(.t 75), (.t 76)]), I8 78 77 0, I8 79 77 1, I9 41 4 78, I9 8 5 79])
 .ret)
 .skip))
 (.seq (.reg [I0 80 6, I6 81 39 2, I9 1 81 80])
 (.seq (.seq (.reg [I6 82 0 3, I7 83 82, I1 84 (.bini .gtr (.t 83) (KI 11))])
 (.cond (.t 84)
 (.seq (.reg [I1 85 (.load true 41 (.t 2)), I1 86 (.build [.int .i64 0, .str [], .int .i64 0, .int .i64 0, .int .i64 0, .int .i64 0, .emp, .int .i64 0] []), I9 41 4 85, I9 8 5 86])
 .ret)
 .skip))
 (.seq (.reg [I0 87 8, I1 88 (.bini .add (.t 87) (KI 1)), I6 89 11 2, I6 90 1 89, I9 1 90 88])
 (.seq (.reg [I1 91 (.load true 41 (.t 2)), I0 92 8, I1 93 (.build [.int .i64 0, .str [], .int .i64 0, .int .i64 0, .int .i64 0, .int .i64 0, .emp, .int .i64 0] [(7, 1, (.t 92))]), I9 41 4 91, I9 8 5 93])
 .ret)))))))))
theorem d89 : FnD Tryz.prog 89 2 92 [.cell 4 true 41, .cell 5 true 8] c89 := ⟨Tryz.f89, _, Tryz.func89, by kernel_rfl, rfl, rfl, by kernel_rfl, by kernel_rfl⟩
end Go.Proofs.YtemjlopoffjmpaaGreat.Abs
namespace Go.Proofs.YtemjlopoffjmpaaGreat.Abs
open Go
def c88 : ACode :=
 (.seq (.reg [I1 2 (.box (.t 0)), I1 3 (.box (.t 1)), I1 4 (.alloc [.emp, .emp, .int .i64 0, .int .i64 0, .bool false, .int .i64 0, .int .i64 0, .int .u32 0, .int .u32 0, .int .u32 0, .int .u32 0, .int .i64 0, .int .i64 0, .int .i64 0, .int .i64 0, .int .i64 0, .int .u32 0, .int .u32 0, .int .u32 0, .int .u32 0, .int .i64 0, .int .i64 0, .int .u32 0, .int .u32 0, .int .u32 0, .int .u32 0, .int .i64 0, .int .i64 0, .int .u32 0, .int .u32 0, .int .u32 0, .int .u32 0, .int .i64 0, .emp, .emp, .emp, .emp, .int .i64 0, .int .i64 0, .emp, .bool false]), I1 5 (.alloc [.int .i64 0, .str [], .int .i64 0, .int .i64 0, .int .i64 0, .int .i64 0, .emp, .int .i64 0])])
 (.seq (.reg [I1 11 (.build [.int .i64 0, .str [], .int .i64 0, .int .i64 0, .int .i64 0, .int .i64 0, .emp, .int .i64 0] []), I1 6 (.alloc [.int .i64 0, .str [], .int .i64 0, .int .i64 0, .int .i64 0, .int .i64 0, .emp, .int .i64 0]), I9 8 6 11])
 (.seq (.reg [I6 13 39 2, I7 14 13, I6 15 1 3, I7 16 15, I1 17 (.call 30 [(.t 14), (.t 16)]), I0 12 17, I8 18 12 0, I8 19 12 1, I1 7 (.alloc [.int .i64 0, .int .i64 0, .int .i64 0, .int .i64 0, .emp]), I9 5 7 18, I0 8 19])
 (.seq (.seq (.reg [I0 20 8, I1 21 (.un .not (.t 20))])
 (.cond (.t 21)
 (.seq (.reg [I1 22 (.load true 41 (.t 2)), I1 23 (.call 86 [(.t 22), (KI 2)]), I8 24 23 0, I8 25 23 1, I9 41 4 24, I9 8 5 25])
 .ret)
 .skip))
 (.seq (.reg [I6 26 4 7, I7 27 26, I0 9 27, I1 10 (.mv (KI 0))])
 (.seq (.seq (.reg [I6 28 0 3, I7 29 28, I1 30 (.call 87 [(.t 29)]), I0 31 30, I2 32 31 (.faddr 1 (.t 7)), I2 33 31 (.load false 1 (.t 32)), I2 34 31 (.bini .eql (.t 33) (KI 2)), I1 35 (.pick (.t 31) (.t 34) (.c (.bool false)))])
 (.cond (.t 35)
 (.seq (.reg [I1 36 (.load true 41 (.t 2)), I1 37 (.call 86 [(.t 36), (KI 11)]), I8 38 37 0, I8 39 37 1, I9 41 4 38, I9 8 5 39])
 .ret)
 .skip))
 (.seq (.seq (.reg [I6 40 0 3, I7 41 40])
 (.block 0
 (.seq (.reg [I1 54 (.bini .eql (.t 41) (KI 1)), I0 53 54])
 (.cond (.t 53)
 (.reg [I0 56 9, I6 57 5 3, I7 58 57, I6 59 2 3, I7 60 59, I1 61 (.call 41 [(.t 56), (.t 58), (.t 60)]), I0 55 61, I8 62 55 0, I8 63 55 1, I0 9 62, I0 10 63])
 (.seq (.reg [I1 65 (.bini .eql (.t 41) (KI 2)), I0 64 65])
 (.cond (.t 64)
 (.reg [I0 67 9, I6 68 5 3, I7 69 68, I1 70 (.call 98 [(.t 67), (.t 69)]), I0 66 70, I8 71 66 0, I8 72 66 1, I0 9 71, I0 10 72])
 (.seq (.reg [I1 74 (.bini .eql (.t 41) (KI 3)), I0 73 74])
 (.cond (.t 73)
 (.reg [I0 76 9, I6 77 5 3, I7 78 77, I6 79 6 3, I7 80 79, I1 81 (.call 99 [(.t 76), (.t 78), (.t 80)]), I0 75 81, I8 82 75 0, I8 83 75 1, I0 9 82, I0 10 83])
 (.seq (.reg [I1 85 (.bini .eql (.t 41) (KI 4)), I0 84 85])
 (.cond (.t 84)
 (.reg [I0 87 9, I6 88 5 3, I7 89 88, I6 90 2 3, I7 91 90, I6 92 7 3, I7 93 92, I1 94 (.call 42 [(.t 87), (.t 89), (.t 91), (.t 93)]), I0 86 94, I8 95 86 0, I8 96 86 1, I0 9 95, I0 10 96])
 (.seq (.reg [I1 98 (.bini .eql (.t 41) (KI 5)), I0 97 98])
 (.cond (.t 97)
 (.reg [I0 100 9, I6 101 5 3, I7 102 101, I6 103 2 3, I7 104 103, I1 105 (.call 100 [(.t 100), (.t 102), (.t 104)]), I0 99 105, I8 106 99 0, I8 107 99 1, I0 9 106, I0 10 107])
 (.seq (.reg [I1 109 (.bini .eql (.t 41) (KI 6)), I0 108 109])
 (.cond (.t 108)
 (.seq (.reg [I0 111 9, I6 112 5 3, I7 113 112, I6 114 2 3, I7 115 114, I6 116 3 3, I7 117 116, I1 118 (.call 113 [(.t 111), (.t 113), (.t 115), (.t 117)]), I0 110 118, I8 119 110 0, I8 120 110 1, I6 121 1 6, I9 1 121 119, I6 122 0 6, I9 1 122 120])
 (.seq (.dregE [[(0, I1 123 (.load true 41 (.t 2))), (1, I1 124 (.load true 8 (.t 6))), (2, I9 41 4 123)], [(3, I9 8 5 124)]]
  [[], [], [0], [0, 1, 2]])
 .ret))
 (.seq (.reg [I1 126 (.bini .eql (.t 41) (KI 7)), I0 125 126])
 (.cond (.t 125)
 (.seq (.reg [I0 128 9, I6 129 5 3, I7 130 129, I1 131 (.call 114 [(.t 128), (.t 130)]), I0 127 131, I8 132 127 0, I8 133 127 1, I6 134 2 6, I9 4 134 132, I6 135 0 6, I9 1 135 133])
 (.seq (.dregE [[(0, I1 136 (.load true 41 (.t 2))), (1, I1 137 (.load true 8 (.t 6))), (2, I9 41 4 136)], [(3, I9 8 5 137)]]
  [[], [], [0], [0, 1, 2]])
 .ret))
 (.seq (.reg [I0 43 9, I6 44 5 3, I7 45 44, I1 46 (.call 115 [(.t 43), (.t 45)]), I0 42 46, I8 47 42 0, I8 48 42 1, I6 49 6 6, I9 1 49 47, I6 50 0 6, I9 1 50 48])
 (.seq (.dregE [[(0, I1 51 (.load true 41 (.t 2))), (1, I1 52 (.load true 8 (.t 6))), (2, I9 41 4 51)], [(3, I9 8 5 52)]]
  [[], [], [0], [0, 1, 2]])
 .ret))))))))))))))))))
 (.seq (.seq (.reg [I0 138 10, I1 139 (.bini .neq (.t 138) (KI 0))])
 (.cond (.t 139)
 (.seq (.reg [I1 140 (.load true 41 (.t 2)), I0 141 10, I1 142 (.call 86 [(.t 140), (.t 141)]), I8 143 142 0, I8 144 142 1, I9 41 4 143, I9 8 5 144])
 .ret)
 .skip))
 (.seq (.reg [I6 146 39 2, I7 147 146, I6 148 1 3, I7 149 148, I0 150 9, I1 151 (.call 17 [(.t 147), (.t 149), (.t 150)]), I0 145 151, I8 152 145 0, I8 153 145 1, I6 154 39 2, I9 1 154 152, I6 155 0 6, I9 1 155 153])
 (.seq (.dregE [[(0, I1 156 (.load true 41 (.t 2))), (1, I1 157 (.load true 8 (.t 6))), (2, I9 41 4 156)], [(3, I9 8 5 157)]]
  [[], [], [0], [0, 1, 2]])
 .ret))))))))))
theorem d88 : FnD Tryz.prog 88 2 156 [.cell 4 true 41, .cell 5 true 8] c88 := ⟨Tryz.f88, _, Tryz.func88, by kernel_rfl, rfl, rfl, by kernel_rfl, by kernel_rfl⟩
end Go.Proofs.YtemjlopoffjmpaaGreat.Abs
namespace Go.Proofs.YtemjlopoffjmpaaGreat.Abs
open Go
def c45 : ACode :=
 (.seq (.reg [I1 4 (.alloc [.int .i64 0, .int .i64 0, .int .i64 0, .int .i64 0, .int .i64 0, .str [], .str [], .str [], .emp])])
 (.seq (.reg [I0 6 0, I1 7 (.call 44 [(.t 6), (KI 6)]), I1 8 (.bini .add (KI 9) (.t 7)), I0 9 1, I1 10 (.build [.int .i64 0, .int .i64 0, .int .i64 0, .int .i64 0, .int .i64 0, .str [], .str [], .str [], .emp] [(0, 1, (.t 8)), (1, 1, (.t 9))]), I1 5 (.alloc [.int .i64 0, .int .i64 0, .int .i64 0, .int .i64 0, .int .i64 0, .str [], .str [], .str [], .emp]), I9 9 5 10])
 (.seq (.seq (.reg [I6 11 0 5, I7 12 11])
 (.block 0
 (.seq (.reg [I1 14 (.bini .eql (.t 12) (KI 9)), I0 13 14])
 (.cond (.t 13)
 (.reg [I0 15 0, I1 16 (.call 44 [(.t 15), (KI 9)]), I6 17 1 5, ⟨none, none, .store 1 (.t 17) (KI 0)⟩, I6 18 2 5, I9 1 18 16])
 (.seq (.reg [I1 20 (.bini .eql (.t 12) (KI 13)), I0 19 20])
 (.cond (.t 19)
 (.reg [I0 21 0, I1 22 (.call 44 [(.t 21), (KI 8)]), I1 23 (.bini .add (KI 1) (.t 22)), I6 24 2 5, I9 1 24 23])
 .skip))))))
 (.seq (.reg [I1 25 (.load true 9 (.t 5)), I9 9 4 25])
 .ret))))
theorem d45 : FnD Tryz.prog 45 2 24 [.cell 4 true 9] c45 := ⟨Tryz.f45, _, Tryz.func45, by kernel_rfl, rfl, rfl, by kernel_rfl, by kernel_rfl⟩
end Go.Proofs.YtemjlopoffjmpaaGreat.Abs
namespace Go.Proofs.YtemjlopoffjmpaaGreat.Abs
open Go
def c86 : ACode :=
 (.seq (.reg [I1 2 (.box (.t 0)), I1 4 (.alloc [.emp, .emp, .int .i64 0, .int .i64 0, .bool false, .int .i64 0, .int .i64 0, .int .u32 0, .int .u32 0, .int .u32 0, .int .u32 0, .int .i64 0, .int .i64 0, .int .i64 0, .int .i64 0, .int .i64 0, .int .u32 0, .int .u32 0, .int .u32 0, .int .u32 0, .int .i64 0, .int .i64 0, .int .u32 0, .int .u32 0, .int .u32 0, .int .u32 0, .int .i64 0, .int .i64 0, .int .u32 0, .int .u32 0, .int .u32 0, .int .u32 0, .int .i64 0, .emp, .emp, .emp, .emp, .int .i64 0, .int .i64 0, .emp, .bool false]), I1 5 (.alloc [.int .i64 0, .str [], .int .i64 0, .int .i64 0, .int .i64 0, .int .i64 0, .emp, .int .i64 0])])
 (.seq (.reg [I1 6 (.load true 41 (.t 2)), I0 7 1, I1 8 (.build [.int .i64 0, .str [], .int .i64 0, .int .i64 0, .int .i64 0, .int .i64 0, .emp, .int .i64 0] [(0, 1, (.t 7))]), I9 41 4 6, I9 8 5 8])
 .ret))
theorem d86 : FnD Tryz.prog 86 2 7 [.cell 4 true 41, .cell 5 true 8] c86 := ⟨Tryz.f86, _, Tryz.func86, by kernel_rfl, rfl, rfl, by kernel_rfl, by kernel_rfl⟩
end Go.Proofs.YtemjlopoffjmpaaGreat.Abs
namespace Go.Proofs.YtemjlopoffjmpaaGreat.Abs
open Go
def c87 : ACode :=
 (.seq (.reg [I1 2 (.mv (.c (.bool false)))])
 (.seq (.reg [I0 3 0, I1 4 (.bini .neq (.t 3) (KI 6)), I0 5 4, I4 6 5 0, I2 7 5 (.bini .neq (.t 6) (KI 7)), I1 8 (.pick (.t 5) (.t 7) (.c (.bool false))), I0 9 8, I4 10 9 0, I2 11 9 (.bini .neq (.t 10) (KI 8)), I1 12 (.pick (.t 9) (.t 11) (.c (.bool false))), I0 13 12, I4 14 13 0, I2 15 13 (.bini .leq (.t 14) (KI 17)), I1 16 (.pick (.t 13) (.t 15) (.c (.bool false))), I0 2 16])
 .ret))
theorem d87 : FnD Tryz.prog 87 1 16 [.tmp 2] c87 := ⟨Tryz.f87, _, Tryz.func87, by kernel_rfl, rfl, rfl, by kernel_rfl, by kernel_rfl⟩
end Go.Proofs.YtemjlopoffjmpaaGreat.Abs
namespace Go.Proofs.YtemjlopoffjmpaaGreat.Abs
open Go
def c73 : ACode :=
 (.seq (.reg [I1 4 (.mv (.c (.emp))), I1 5 (.mv (KI 0))])
 (.seq (.reg [I0 15 0, I0 16 1, I1 17 (.call 30 [(.t 15), (.t 16)]), I0 14 17, I8 18 14 0, I8 19 14 1, I1 6 (.alloc [.int .i64 0, .int .i64 0, .int .i64 0, .int .i64 0, .emp]), I9 5 6 18, I0 7 19])
 (.seq (.seq (.reg [I0 20 7, I1 21 (.un .not (.t 20))])
 (.cond (.t 21)
 (.seq (.reg [I0 22 0, I0 4 22, I1 5 (.mv (KI 2))])
 .ret)
 .skip))
 (.seq (.seq (.reg [I6 23 1 6, I7 24 23, I1 25 (.bini .neq (.t 24) (KI 1)), I0 26 25, I3 27 26 (.faddr 2 (.t 6)), I3 28 26 (.load false 1 (.t 27)), I3 29 26 (.bini .eql (.t 28) (KI 0)), I1 30 (.pick (.t 26) (.c (.bool true)) (.t 29))])
 (.cond (.t 30)
 (.seq (.reg [I0 31 0, I0 4 31, I1 5 (.mv (KI 1))])
 .ret)
 .skip))
 (.seq (.reg [I0 33 0, I6 34 2 6, I7 35 34, I1 36 (.call 30 [(.t 33), (.t 35)]), I0 32 36, I8 37 32 0, I8 38 32 1, I1 8 (.alloc [.int .i64 0, .int .i64 0, .int .i64 0, .int .i64 0, .emp]), I9 5 8 37, I0 9 38])
 (.seq (.reg [I0 40 0, I6 41 2 8, I7 42 41, I1 43 (.call 30 [(.t 40), (.t 42)]), I0 39 43, I8 44 39 0, I8 45 39 1, I1 10 (.alloc [.int .i64 0, .int .i64 0, .int .i64 0, .int .i64 0, .emp]), I9 5 10 44, I0 11 45])
 (.seq (.reg [I1 46 (.bslice 5 0 [.int .i64 0, .int .i64 0, .int .i64 0, .int .i64 0, .emp] []), I0 47 0, I1 48 (.append 5 56 [.int .i64 0, .int .i64 0, .int .i64 0, .int .i64 0, .emp] (.t 46) (.t 47)), I0 12 48])
 (.seq (.seq (.reg [I1 13 (.mv (KI 0))])
 (.block 0
 (.loop
 (.seq (.seq (.reg [I0 49 13, I0 50 12, I1 51 (.len false (.t 50)), I1 52 (.bini .lss (.t 49) (.t 51))])
 (.cond (.t 52)
 .skip
 (.exit 0)))
 (.seq (.block 1
 (.seq (.seq (.dreg [I0 55 12, I0 56 13, I1 57 (.iaddr 5 (.t 55) (.t 56)), I6 58 1 57, I7 59 58, I1 60 (.bini .eql (.t 59) (KI 2)), I0 61 60, I4 62 61 12, I4 63 61 13, I2 64 61 (.iaddr 5 (.t 62) (.t 63)), I2 65 61 (.faddr 2 (.t 64)), I2 66 61 (.load false 1 (.t 65)), I2 67 61 (.faddr 0 (.t 10)), I2 68 61 (.load false 1 (.t 67)), I2 69 61 (.bini .eql (.t 66) (.t 68)), I1 70 (.pick (.t 61) (.t 69) (.c (.bool false))), I0 71 70, I4 72 71 12, I4 73 71 13, I2 74 71 (.iaddr 5 (.t 72) (.t 73)), I2 75 71 (.faddr 0 (.t 74)), I2 76 71 (.load false 1 (.t 75)), I2 77 71 (.faddr 0 (.t 8)), I2 78 71 (.load false 1 (.t 77)), I2 79 71 (.bini .leq (.t 76) (.t 78)), I1 80 (.pick (.t 71) (.t 79) (.c (.bool false)))])
 (.cond (.t 80)
 (.reg [I0 81 12, I0 82 13, I0 83 1, I1 84 (.iaddr 5 (.t 81) (.t 82)), I6 85 2 84, I9 1 85 83])
 .skip))
 (.seq (.seq (.reg [I0 86 12, I0 87 13, I1 88 (.iaddr 5 (.t 86) (.t 87)), I6 89 0 88, I7 90 89, I0 91 1, I1 92 (.bini .eql (.t 90) (.t 91))])
 (.cond (.t 92)
 (.reg [I0 93 12, I0 94 13, I6 95 2 10, I7 96 95, I1 97 (.iaddr 5 (.t 93) (.t 94)), I6 98 2 97, I9 1 98 96])
 .skip))
 (.seq (.dreg [I0 99 12, I0 100 13, I1 101 (.iaddr 5 (.t 99) (.t 100)), I6 102 0 101, I7 103 102, I6 104 0 10, I7 105 104, I1 106 (.bini .eql (.t 103) (.t 105))])
 (.cond (.t 106)
 (.reg [I0 107 12, I0 108 13, I6 109 0 8, I7 110 109, I1 111 (.iaddr 5 (.t 107) (.t 108)), I6 112 2 111, I9 1 112 110])
 .skip)))))
 (.reg [I0 53 13, I1 54 (.bini .add (.t 53) (KI 1)), I0 13 54]))))))
 (.seq (.reg [I0 113 12, I0 4 113, I1 5 (.mv (KI 0))])
 .ret)))))))))
theorem d73 : FnD Tryz.prog 73 2 112 [.tmp 4, .tmp 5] c73 := ⟨Tryz.f73, _, Tryz.func73, by kernel_rfl, rfl, rfl, by kernel_rfl, by kernel_rfl⟩
end Go.Proofs.YtemjlopoffjmpaaGreat.Abs
namespace Go.Proofs.YtemjlopoffjmpaaGreat.Abs
open Go
def c75 : ACode :=
 (.seq (.reg [I1 4 (.mv (.c (.emp))), I1 5 (.mv (KI 0))])
 (.seq (.reg [I0 13 0, I0 14 1, I1 15 (.call 30 [(.t 13), (.t 14)]), I0 12 15, I8 16 12 0, I8 17 12 1, I1 6 (.alloc [.int .i64 0, .int .i64 0, .int .i64 0, .int .i64 0, .emp]), I9 5 6 16, I0 7 17])
 (.seq (.seq (.reg [I0 18 7, I1 19 (.un .not (.t 18))])
 (.cond (.t 19)
 (.seq (.reg [I0 20 0, I0 4 20, I1 5 (.mv (KI 2))])
 .ret)
 .skip))
 (.seq (.reg [I1 8 (.mv (KI 0)), I1 9 (.mv (.c (.bool false)))])
 (.seq (.reg [I1 10 (.mv (.c (.emp)))])
 (.seq (.seq (.reg [I1 11 (.mv (KI 0))])
 (.block 0
 (.loop
 (.seq (.seq (.reg [I0 21 11, I0 22 0, I1 23 (.len false (.t 22)), I1 24 (.bini .lss (.t 21) (.t 23))])
 (.cond (.t 24)
 .skip
 (.exit 0)))
 (.seq (.block 1
 (.seq (.seq (.reg [I0 27 0, I0 28 11, I1 29 (.iaddr 5 (.t 27) (.t 28)), I6 30 1 29, I7 31 30, I1 32 (.bini .eql (.t 31) (KI 1))])
 (.cond (.t 32)
 (.reg [I0 33 8, I1 34 (.bini .add (.t 33) (KI 1)), I0 8 34])
 .skip))
 (.seq (.reg [I0 35 9, I0 36 35, I5 37 36 0, I5 38 36 11, I3 39 36 (.iaddr 5 (.t 37) (.t 38)), I3 40 36 (.faddr 2 (.t 39)), I3 41 36 (.load false 1 (.t 40)), I5 42 36 1, I3 43 36 (.bini .eql (.t 41) (.t 42)), I1 44 (.pick (.t 36) (.c (.bool true)) (.t 43)), I0 9 44])
 (.seq (.reg [I0 45 0, I0 46 11, I1 47 (.iaddr 5 (.t 45) (.t 46)), I6 48 0 47, I7 49 48, I0 50 1, I1 51 (.bini .neq (.t 49) (.t 50))])
 (.cond (.t 51)
 (.reg [I0 52 10, I0 53 0, I0 54 11, I1 55 (.iaddr 5 (.t 53) (.t 54)), I1 56 (.load true 5 (.t 55)), I1 57 (.bslice 5 1 [.int .i64 0, .int .i64 0, .int .i64 0, .int .i64 0, .emp] [(0, (.t 56))]), I1 58 (.append 5 56 [.int .i64 0, .int .i64 0, .int .i64 0, .int .i64 0, .emp] (.t 52) (.t 57)), I0 10 58])
 .skip)))))
 (.reg [I0 25 11, I1 26 (.bini .add (.t 25) (KI 1)), I0 11 26]))))))
 (.seq (.seq (.reg [I0 59 9, I0 60 59, I3 61 60 (.faddr 1 (.t 6)), I3 62 60 (.load false 1 (.t 61)), I3 63 60 (.bini .eql (.t 62) (KI 1)), I5 64 60 63, I4 65 64 8, I2 66 64 (.bini .eql (.t 65) (KI 1)), I3 67 60 (.pick (.t 64) (.t 66) (.c (.bool false))), I1 68 (.pick (.t 60) (.c (.bool true)) (.t 67))])
 (.cond (.t 68)
 (.seq (.reg [I0 69 0, I0 4 69, I1 5 (.mv (KI 10))])
 .ret)
 .skip))
 (.seq (.reg [I0 70 10, I0 4 70, I1 5 (.mv (KI 0))])
 .ret))))))))
theorem d75 : FnD Tryz.prog 75 2 69 [.tmp 4, .tmp 5] c75 := ⟨Tryz.f75, _, Tryz.func75, by kernel_rfl, rfl, rfl, by kernel_rfl, by kernel_rfl⟩
end Go.Proofs.YtemjlopoffjmpaaGreat.Abs
namespace Go.Proofs.YtemjlopoffjmpaaGreat.Abs
open Go
def c74 : ACode :=
 (.seq (.reg [I1 6 (.mv (.c (.emp))), I1 7 (.mv (KI 0))])
 (.seq (.reg [I0 15 0, I0 16 1, I1 17 (.call 30 [(.t 15), (.t 16)]), I0 14 17, I8 18 14 0, I8 19 14 1, I1 8 (.alloc [.int .i64 0, .int .i64 0, .int .i64 0, .int .i64 0, .emp]), I9 5 8 18, I0 9 19])
 (.seq (.reg [I0 21 0, I0 22 2, I1 23 (.call 30 [(.t 21), (.t 22)]), I0 20 23, I8 24 20 0, I8 25 20 1, I1 10 (.alloc [.int .i64 0, .int .i64 0, .int .i64 0, .int .i64 0, .emp]), I9 5 10 24, I0 11 25])
 (.seq (.seq (.reg [I0 26 9, I1 27 (.un .not (.t 26)), I0 28 27, I5 29 28 11, I3 30 28 (.un .not (.t 29)), I1 31 (.pick (.t 28) (.c (.bool true)) (.t 30))])
 (.cond (.t 31)
 (.seq (.reg [I0 32 0, I0 6 32, I1 7 (.mv (KI 2))])
 .ret)
 .skip))
 (.seq (.seq (.reg [I6 33 1 8, I7 34 33, I1 35 (.bini .neq (.t 34) (KI 1)), I0 36 35, I3 37 36 (.faddr 1 (.t 10)), I3 38 36 (.load false 1 (.t 37)), I3 39 36 (.bini .neq (.t 38) (KI 2)), I1 40 (.pick (.t 36) (.c (.bool true)) (.t 39)), I0 41 40, I3 42 41 (.faddr 2 (.t 10)), I3 43 41 (.load false 1 (.t 42)), I5 44 41 1, I3 45 41 (.bini .neq (.t 43) (.t 44)), I1 46 (.pick (.t 41) (.c (.bool true)) (.t 45))])
 (.cond (.t 46)
 (.seq (.reg [I0 47 0, I0 6 47, I1 7 (.mv (KI 1))])
 .ret)
 .skip))
 (.seq (.seq (.reg [I1 12 (.mv (KI 0))])
 (.block 0
 (.loop
 (.seq (.seq (.reg [I0 48 12, I0 49 0, I1 50 (.len false (.t 49)), I1 51 (.bini .lss (.t 48) (.t 50))])
 (.cond (.t 51)
 .skip
 (.exit 0)))
 (.seq (.block 1
 (.seq (.reg [I0 54 0, I0 55 12, I1 56 (.iaddr 5 (.t 54) (.t 55)), I6 57 1 56, I7 58 57, I1 59 (.bini .eql (.t 58) (KI 2)), I0 60 59, I4 61 60 0, I4 62 60 12, I2 63 60 (.iaddr 5 (.t 61) (.t 62)), I2 64 60 (.faddr 2 (.t 63)), I2 65 60 (.load false 1 (.t 64)), I4 66 60 1, I2 67 60 (.bini .eql (.t 65) (.t 66)), I1 68 (.pick (.t 60) (.t 67) (.c (.bool false))), I0 69 68, I4 70 69 0, I4 71 69 12, I2 72 69 (.iaddr 5 (.t 70) (.t 71)), I2 73 69 (.faddr 0 (.t 72)), I2 74 69 (.load false 1 (.t 73)), I4 75 69 2, I2 76 69 (.bini .gtr (.t 74) (.t 75)), I1 77 (.pick (.t 69) (.t 76) (.c (.bool false)))])
 (.cond (.t 77)
 (.seq (.reg [I0 78 0, I0 6 78, I1 7 (.mv (KI 10))])
 .ret)
 .skip)))
 (.reg [I0 52 12, I1 53 (.bini .add (.t 52) (KI 1)), I0 12 53]))))))
 (.seq (.reg [I1 79 (.bslice 5 0 [.int .i64 0, .int .i64 0, .int .i64 0, .int .i64 0, .emp] []), I0 80 0, I1 81 (.append 5 56 [.int .i64 0, .int .i64 0, .int .i64 0, .int .i64 0, .emp] (.t 79) (.t 80)), I0 13 81])
 (.seq (.dregE [[(0, I0 82 13), (1, I0 83 0), (2, I0 84 1), (4, I6 86 4 10), (5, I7 87 86), (3, I1 85 (.call 52 [(.t 83), (.t 84)]))], [(6, I1 88 (.iaddr 5 (.t 82) (.t 85)))], [(7, I6 89 4 88)], [(8, I9 1 89 87)]]
  [[], [], [], [1, 2], [], [4], [0, 1, 2, 3, 4, 5], [0, 1, 2, 3, 4, 5, 6], [0, 1, 2, 3, 4, 5, 6, 7]])
 (.seq (.reg [I0 90 13, I0 6 90, I1 7 (.mv (KI 0))])
 .ret)))))))))
theorem d74 : FnD Tryz.prog 74 3 88 [.tmp 6, .tmp 7] c74 := ⟨Tryz.f74, _, Tryz.func74, by kernel_rfl, rfl, rfl, by kernel_rfl, by kernel_rfl⟩
end Go.Proofs.YtemjlopoffjmpaaGreat.Abs
namespace Go.Proofs.YtemjlopoffjmpaaGreat.Abs
open Go
def c17 : ACode :=
 (.seq (.reg [I1 6 (.mv (.c (.emp))), I1 7 (.mv (KI 0))])
 (.seq (.reg [I0 12 0, I0 13 1, I1 14 (.call 30 [(.t 12), (.t 13)]), I0 11 14, I8 15 11 0, I8 16 11 1, I1 8 (.alloc [.int .i64 0, .int .i64 0, .int .i64 0, .int .i64 0, .emp]), I9 5 8 15, I0 9 16])
 (.seq (.seq (.reg [I0 17 9, I1 18 (.un .not (.t 17))])
 (.cond (.t 18)
 (.seq (.reg [I0 19 0, I0 6 19, I1 7 (.mv (KI 2))])
 .ret)
 .skip))
 (.seq (.seq (.reg [I6 20 1 8, I7 21 20, I1 22 (.bini .eql (.t 21) (KI 2))])
 (.cond (.t 22)
 (.seq (.reg [I0 23 0, I0 6 23, I1 7 (.mv (KI 11))])
 .ret)
 .skip))
 (.seq (.seq (.dregE [[(0, I6 24 3 8)], [(1, I7 25 24)], [(2, I1 26 (.bini .gtr (.t 25) (KI 0)))], [(3, I0 27 26)], [(4, I4 28 27 2), (6, I2 30 27 (.faddr 3 (.t 8))), (7, I2 31 27 (.load false 1 (.t 30))), (5, I2 29 27 (.call 20 [(.t 28)]))], [(8, I2 32 27 (.bini .gtr (.t 29) (.t 31)))], [(9, I1 33 (.pick (.t 27) (.t 32) (.c (.bool false))))], [(10, I0 34 33)], [(11, I4 35 34 2), (13, I2 37 34 (.faddr 4 (.t 8))), (14, I2 38 34 (.load false 1 (.t 37))), (12, I2 36 34 (.call 20 [(.t 35)]))], [(15, I2 39 34 (.call 20 [(.t 38)]))], [(16, I2 40 34 (.bini .gtr (.t 36) (.t 39)))], [(17, I1 41 (.pick (.t 34) (.t 40) (.c (.bool false))))]]
  [[], [0], [0, 1], [0, 1, 2], [0, 1, 2, 3], [0, 1, 2, 3, 4], [0, 1, 2, 3], [0, 1, 2, 3, 6], [0, 1, 2, 3, 4, 5, 6, 7], [0, 1, 2, 3, 4, 5, 6, 7, 8], [0, 1, 2, 3, 4, 5, 6, 7, 8, 9], [0, 1, 2, 3, 4, 5, 6, 7, 8, 9, 10], [0, 1, 2, 3, 4, 5, 6, 7, 8, 9, 10, 11], [0, 1, 2, 3, 4, 5, 6, 7, 8, 9, 10], [0, 1, 2, 3, 4, 5, 6, 7, 8, 9, 10, 13], [0, 1, 2, 3, 4, 5, 6, 7, 8, 9, 10, 11, 12, 13, 14], [0, 1, 2, 3, 4, 5, 6, 7, 8, 9, 10, 11, 12, 13, 14, 15], [0, 1, 2, 3, 4, 5, 6, 7, 8, 9, 10, 11, 12, 13, 14, 15, 16]])
 (.cond (.t 41)
 (.seq (.reg [I0 42 0, I0 6 42, I1 7 (.mv (KI 9))])
 .ret)
 .skip))
 (.seq (.reg [I1 43 (.bslice 5 0 [.int .i64 0, .int .i64 0, .int .i64 0, .int .i64 0, .emp] []), I0 44 0, I1 45 (.append 5 56 [.int .i64 0, .int .i64 0, .int .i64 0, .int .i64 0, .emp] (.t 43) (.t 44)), I0 10 45])
 (.seq (.reg [I0 46 10, I0 47 0, I0 48 1, I1 49 (.call 52 [(.t 47), (.t 48)]), I1 50 (.bslice 5 0 [.int .i64 0, .int .i64 0, .str [], .str [], .int .i64 0] []), I0 51 2, I1 52 (.append 5 56 [.int .i64 0, .int .i64 0, .str [], .str [], .int .i64 0] (.t 50) (.t 51)), I1 53 (.iaddr 5 (.t 46) (.t 49)), I6 54 4 53, I9 1 54 52])
 (.seq (.reg [I0 55 10, I0 6 55, I1 7 (.mv (KI 0))])
 .ret))))))))
theorem d17 : FnD Tryz.prog 17 3 53 [.tmp 6, .tmp 7] c17 := ⟨Tryz.f17, _, Tryz.func17, by kernel_rfl, rfl, rfl, by kernel_rfl, by kernel_rfl⟩
end Go.Proofs.YtemjlopoffjmpaaGreat.Abs
namespace Go.Proofs.YtemjlopoffjmpaaGreat.Abs
open Go
def c20 : ACode :=
 (.seq (.reg [I1 2 (.mv (KI 0))])
 (.seq (.reg [I1 3 (.mv (KI 0))])
 (.seq (.seq (.reg [I1 4 (.mv (KI 0))])
 (.block 0
 (.loop
 (.seq (.seq (.reg [I0 5 4, I0 6 0, I1 7 (.len false (.t 6)), I1 8 (.bini .lss (.t 5) (.t 7))])
 (.cond (.t 8)
 .skip
 (.exit 0)))
 (.seq (.block 1
 (.reg [I0 11 3, I0 12 0, I0 13 4, I1 14 (.iaddr 5 (.t 12) (.t 13)), I6 15 3 14, I7 16 15, I1 17 (.call 54 [(.t 16)]), I1 18 (.bini .add (.t 11) (.t 17)), I0 3 18]))
 (.reg [I0 9 4, I1 10 (.bini .add (.t 9) (KI 1)), I0 4 10]))))))
 (.seq (.reg [I0 19 3, I0 2 19])
 .ret))))
theorem d20 : FnD Tryz.prog 20 1 19 [.tmp 2] c20 := ⟨Tryz.f20, _, Tryz.func20, by kernel_rfl, rfl, rfl, by kernel_rfl, by kernel_rfl⟩
end Go.Proofs.YtemjlopoffjmpaaGreat.Abs
namespace Go.Proofs.YtemjlopoffjmpaaGreat.Abs
open Go
end Go.Proofs.YtemjlopoffjmpaaGreat.Abs
namespace Go.Proofs.YtemjlopoffjmpaaGreat.Abs
open Go
end Go.Proofs.YtemjlopoffjmpaaGreat.Abs
namespace Go.Proofs.YtemjlopoffjmpaaGreat.Abs
open Go
end Go.Proofs.YtemjlopoffjmpaaGreat.Abs
set_option linter.unusedSimpArgs false
set_option linter.unusedVariables false
namespace Go.Proofs.YtemjlopoffjmpaaGreat.Abs
open Go Go.Proofs
theorem Wf.whole {s : List Node} (h : Wf s) : ((s.any fun x => decide (x.kind = 3)) || (s.any fun x => decide (x.bad ≠ 0))) = false := by
 rw [Bool.or_eq_false_iff]
 constructor
 ·rw [List.any_eq_false]
  intro x hx
  obtain ⟨n, hn, rfl⟩ := mem_getD hx
  rcases h.kindsD n hn with e | e | e <;> rw [e] <;> decide
 ·rw [List.any_eq_false]
  intro x hx
  obtain ⟨n, hn, rfl⟩ := mem_getD hx
  rw [h.badD n hn]; decide
structure MayD (l : List Dset) (d : Dset) : Prop where
 id : 1 ≤ d.id ∧ d.id ≤ 65535
 quota : 0 ≤ d.quota ∧ d.quota ≤ 255
 files : Wf d.files
 kinds : d.kind = 1 ∨ d.kind = 2
 snap : d.kind = 2 → d.quota = 0 ∧ ∃ o ∈ l, o.id = d.origin ∧ o.kind = 1
 live : d.kind = 1 → d.origin = 0 ∨ ∃ o ∈ l, o.id = d.origin ∧ o.kind = 2
structure MayL (l : List Dset) : Prop where
 len : l.length ≤ 8
 sorted : l.Pairwise fun a b => a.id < b.id
 each : ∀ d ∈ l, MayD l d
 tree : ∃ r : Int → Nat, ∀ d ∈ l, ∀ o ∈ l, o.id = d.origin → r o.id < r d.id
theorem MayL.short {l : List Dset} (h : MayL l) : Short l := ⟨by have := h.len; omega, fun d hd => by have := (h.each d hd).files.len; omega⟩
theorem MayL.lt {l : List Dset} (h : MayL l) {i j : Nat} (hij : i < j) (hj : j < l.length) : (l.getD i default).id < (l.getD j default).id := by
 have := List.pairwise_iff_getElem.1 h.sorted i j (by omega) hj hij
 rw [List.getD_eq_getElem?_getD, List.getElem?_eq_getElem (show i < l.length by omega), List.getD_eq_getElem?_getD, List.getElem?_eq_getElem hj]
 exact this
theorem dgetD_mem {l : List Dset} {n : Nat} (h : n < l.length) : l.getD n default ∈ l := by
 rw [List.getD_eq_getElem?_getD, List.getElem?_eq_getElem h]
 exact List.getElem_mem h
theorem mem_dgetD {l : List Dset} {x : Dset} (h : x ∈ l) : ∃ n, n < l.length ∧ l.getD n default = x := by
 obtain ⟨n, hn, rfl⟩ := List.mem_iff_getElem.1 h
 exact ⟨n, hn, by rw [List.getD_eq_getElem?_getD, List.getElem?_eq_getElem hn]; rfl⟩
theorem MayL.inj {l : List Dset} (h : MayL l) {i j : Nat} (hi : i < l.length) (hj : j < l.length) (e : (l.getD i default).id = (l.getD j default).id) : i = j := by
 rcases Nat.lt_trichotomy i j with hh | hh | hh
 ·have := h.lt hh hj; omega
 ·exact hh
 ·have := h.lt hh hi; omega
theorem MayL.inj' {l : List Dset} (h : MayL l) {a b : Dset} (ha : a ∈ l) (hb : b ∈ l) (e : a.id = b.id) : a = b := by
 obtain ⟨i, hi, rfl⟩ := mem_dgetD ha
 obtain ⟨j, hj, rfl⟩ := mem_dgetD hb
 rw [h.inj hi hj e]
theorem MayL.find {l : List Dset} (h : MayL l) {d : Dset} (hd : d ∈ l) : getA l d.id = some d := by
 obtain ⟨i, hi, rfl⟩ := mem_dgetD hd
 unfold getA
 rcases find_of (l := l) (i := (l.getD i default).id) with ⟨e, hn⟩ | ⟨k, e, hk, hid, _⟩
 ·exact absurd rfl (hn i hi)
 ·rw [e, if_pos (by omega), Int.toNat_natCast, h.inj hk hi hid]
theorem getA_none {l : List Dset} {i : Int} (h : ∀ d ∈ l, d.id ≠ i) : getA l i = none := by
 unfold getA
 rcases find_of (l := l) (i := i) with ⟨e, hn⟩ | ⟨k, e, hk, hid, _⟩
 ·rw [e]; rfl
 ·exact absurd hid (h _ (dgetD_mem hk))
def stepD (l : List Dset) (d : Dset) : Dset := (getA l d.origin).getD ⟨0, 0, 0, 0, []⟩
def iterD (l : List Dset) : Nat → Dset → Dset
 | 0, d => d
 | m + 1, d => iterD l m (stepD l d)
theorem iterD_succ (l : List Dset) : ∀ (m : Nat) (d : Dset), iterD l (m + 1) d = stepD l (iterD l m d)
 | 0, _ => rfl
 | m + 1, d => iterD_succ l m (stepD l d)
end Go.Proofs.YtemjlopoffjmpaaGreat.Abs
set_option linter.unusedSimpArgs false
set_option linter.unusedVariables false
namespace Go.Proofs.YtemjlopoffjmpaaGreat.Abs
open Go Go.Proofs
theorem rankN_mono {α : Type} (r : α → Nat) (a b : Nat) (hab : a < b) : ∀ (l : List α), (∃ j ∈ l, r j = a) → l.countP (fun j => decide (r j < a)) < l.countP (fun j => decide (r j < b)) := by
 intro l
 induction l with
 | nil => rintro ⟨j, hj, _⟩; cases hj
 | cons x l ih =>
   rintro ⟨j, hj, e⟩
   have le : l.countP (fun j => decide (r j < a)) ≤ l.countP (fun j => decide (r j < b)) := List.countP_mono_left (fun y _ h => by simp at h ⊢; omega)
   rw [List.countP_cons, List.countP_cons]
   rcases List.mem_cons.1 hj with rfl | hj
   ·rw [if_neg (by simp; omega), if_pos (by simp; omega)]; omega
   ·have := ih ⟨j, hj, e⟩
    by_cases h1 : r x < a
    ·rw [if_pos (by simpa using h1), if_pos (by simp; omega)]; omega
    ·rw [if_neg (by simpa using h1)]; omega
theorem MayL.out {l : List Dset} (h : MayL l) {d : Dset} (hd : d ∈ l) {m : Nat} (hm : l.length ≤ m) : (iterD l m d).id = 0 := by
 obtain ⟨r, hr⟩ := h.tree
 have hz : ∀ m, iterD l m ⟨0, 0, 0, 0, []⟩ = ⟨0, 0, 0, 0, []⟩ := by
  intro m
  induction m with
  | zero => rfl
  | succ m ih =>
    show iterD l m (stepD l ⟨0, 0, 0, 0, []⟩) = _
    have : stepD l ⟨0, 0, 0, 0, []⟩ = ⟨0, 0, 0, 0, []⟩ := by
     unfold stepD
     rw [getA_none (fun d hd => by have := (h.each d hd).id; show d.id ≠ 0; omega)]; rfl
    rw [this, ih]
 let f : Dset → Nat := fun x => l.countP fun y => decide (r y.id < r x.id)
 have hf : ∀ x ∈ l, ∀ y ∈ l, r y.id < r x.id → f y < f x := fun x hx y hy hxy => rankN_mono (fun z : Dset => r z.id) _ _ hxy l ⟨y, hy, rfl⟩
 have hfl : ∀ x ∈ l, f x < l.length := fun x hx => by
  have h1 := rankN_mono (fun z : Dset => r z.id) (r x.id) (r x.id + 1) (by omega) l ⟨x, hx, rfl⟩
  have h2 : l.countP (fun j => decide (r j.id < r x.id + 1)) ≤ l.length := List.countP_le_length
  show l.countP _ < _
  omega
 have g : ∀ m, iterD l m d = ⟨0, 0, 0, 0, []⟩ ∨ (iterD l m d ∈ l ∧ f (iterD l m d) + m ≤ f d) := by
  intro m
  induction m with
  | zero => exact .inr ⟨hd, Nat.le_refl _⟩
  | succ m ih =>
    rw [iterD_succ]
    rcases ih with ih | ⟨hm, ih⟩
    ·left; rw [ih]; exact hz 1
    ·unfold stepD
     cases ho : getA l (iterD l m d).origin with
     | none => left; rfl
     | some o =>
       right
       obtain ⟨ho1, ho2⟩ := getA_mem ho
       refine ⟨ho1, ?_⟩
       have := hf _ hm o ho1 (hr _ hm o ho1 ho2)
       show f o + (m + 1) ≤ f d
       omega
 rcases g m with e | ⟨hm2, e⟩
 ·rw [e]
 ·have := hfl d hd; omega
end Go.Proofs.YtemjlopoffjmpaaGreat.Abs
namespace Go.Proofs.YtemjlopoffjmpaaGreat.Abs
open Go
def c38 : ACode :=
 (.seq (.reg [I1 4 (.box (.t 1)), I1 5 (.box (.t 2)), I1 6 (.mv (.c (.emp))), I1 7 (.mv (KI 0))])
 (.seq (.reg [I0 13 0, I1 14 (.call 56 [(.t 13)]), I0 8 14])
 (.seq (.reg [I0 15 8, I0 9 15])
 (.seq (.dregE [[(0, I0 16 9), (1, I7 17 4), (3, I0 19 9), (4, I7 20 5), (2, I1 18 (.call 59 [(.t 16), (.t 17)]))], [(5, I1 21 (.call 59 [(.t 19), (.t 20)]))], [(6, I0 10 18)], [(7, I0 11 21)]]
  [[], [], [0, 1], [], [], [0, 1, 2, 3, 4], [0, 1, 2, 3, 4, 5], [0, 1, 2, 3, 4, 5, 6]])
 (.seq (.reg [I1 22 (.mkfn (.func 77) [] [(.t 4), (.t 5)]), I0 12 22])
 (.seq (.block 0
 (.seq (.reg [I0 24 10, I1 25 (.bini .lss (.t 24) (KI 0)), I0 26 25, I5 27 26 11, I3 28 26 (.bini .lss (.t 27) (KI 0)), I1 29 (.pick (.t 26) (.c (.bool true)) (.t 28)), I0 23 29])
 (.cond (.t 23)
 (.seq (.reg [I0 30 8, I0 6 30, I1 7 (.mv (KI 2))])
 .ret)
 (.seq (.dreg [I0 32 9, I0 33 10, I1 34 (.iaddr 5 (.t 32) (.t 33)), I6 35 1 34, I7 36 35, I1 37 (.bini .neq (.t 36) (KI 1)), I0 38 37, I5 39 38 9, I5 40 38 11, I3 41 38 (.iaddr 5 (.t 39) (.t 40)), I3 42 38 (.faddr 1 (.t 41)), I3 43 38 (.load false 1 (.t 42)), I3 44 38 (.bini .neq (.t 43) (KI 2)), I1 45 (.pick (.t 38) (.c (.bool true)) (.t 44)), I0 46 45, I5 47 46 9, I5 48 46 11, I3 49 46 (.iaddr 5 (.t 47) (.t 48)), I3 50 46 (.faddr 2 (.t 49)), I3 51 46 (.load false 1 (.t 50)), I3 52 46 (.load false 1 (.t 4)), I3 53 46 (.bini .neq (.t 51) (.t 52)), I1 54 (.pick (.t 46) (.c (.bool true)) (.t 53)), I0 31 54])
 (.cond (.t 31)
 (.seq (.reg [I0 55 8, I0 6 55, I1 7 (.mv (KI 1))])
 .ret)
 (.seq (.reg [I0 57 9, I0 58 12, I1 59 (.call 63 [(.t 57), (.t 58)]), I0 56 59])
 (.cond (.t 56)
 (.seq (.reg [I0 60 8, I0 6 60, I1 7 (.mv (KI 10))])
 .ret)
 .skip)))))))
 (.seq (.reg [I0 61 9, I0 62 10, I0 63 9, I0 64 11, I1 65 (.iaddr 5 (.t 63) (.t 64)), I6 66 4 65, I7 67 66, I1 68 (.call 49 [(.t 67)]), I1 69 (.iaddr 5 (.t 61) (.t 62)), I6 70 4 69, I9 1 70 68])
 (.seq (.reg [I0 71 8, I0 6 71, I1 7 (.mv (KI 0))])
 .ret))))))))
theorem d38 : FnD Tryz.prog 38 3 69 [.tmp 6, .tmp 7] c38 := ⟨Tryz.f38, _, Tryz.func38, by kernel_rfl, rfl, rfl, by kernel_rfl, by kernel_rfl⟩
end Go.Proofs.YtemjlopoffjmpaaGreat.Abs
set_option linter.unusedSimpArgs false
set_option linter.unusedVariables false
namespace Go.Proofs.YtemjlopoffjmpaaGreat.Abs
open Go Go.Proofs
theorem renO_box (τ : Nat → Option Nat) (k : IntKind) (n : Int) : renO τ [[.int k n]] = [[.int k n]] := by simp [renO, renL, ren]
def hangsA (l : List Dset) (i : Int) : Bool := decide (0 ≤ idxA (fun d => decide (d.origin = i)) l)
def livesA (l : List Dset) : Nat := l.countP fun d => decide (d.kind = 1)
theorem livesA_take (l : List Dset) (k : Nat) (h : k < l.length) : livesA (l.take (k + 1)) = livesA (l.take k) + if (l.getD k default).kind = 1 then 1 else 0 := by
 unfold livesA
 rw [List.take_add_one, List.getElem?_eq_getElem h, List.countP_append]
 simp only [List.getD_eq_getElem?_getD, List.getElem?_eq_getElem h, Option.getD_some, Option.toList_some, List.countP_cons, List.countP_nil, decide_eq_true_eq]
 omega
theorem livesA_le (l : List Dset) : livesA l ≤ l.length := List.countP_le_length
def destroyA (l : List Dset) (i : Int) : List Dset × Int :=
 if findA l i < 0 then (l, 2) else if hangsA l i = true ∨ ((l.getD (findA l i).toNat default).kind = 1 ∧ livesA l = 1) then (l, 10) else (l.eraseIdx (findA l i).toNat, 0)
theorem Wk_obj2 {fr fr' : List AV} {o o' : AObj} {G : AH} (ho : o.map (renL (upTo 2)) = o) (ho' : o'.map (renL (upTo 2)) = o') (h : Tops fr' (renL (upTo 2) fr)) : Wk 0 fr (some o :: some o' :: G) fr' [some o, some o'] := by
 have h1 := (Wk_forget (n0 := 0) (fr := fr) (H := some o :: some o' :: G) 2 (Nat.zero_le _)).trans (Wk_tops h)
 have e : mapH (renL (upTo 2)) ((some o :: some o' :: G).take 2) = [some o, some o'] := by
  simp only [List.take_succ_cons, List.take_zero, mapH, List.map_cons, List.map_nil, Option.map_some, ho, ho']
 rwa [e] at h1
end Go.Proofs.YtemjlopoffjmpaaGreat.Abs
set_option linter.unusedSimpArgs false
set_option linter.unusedVariables false
namespace Go.Proofs.YtemjlopoffjmpaaGreat.Abs
open Go Go.Proofs
section
variable {c : Nat} {H : AH} {late : List Loc → List Loc → Prop} {K : List Nat → Nat → AV → AH → Prop} {t : Tag K}
end
theorem set_cellD (l : List Dset) (k : Nat) (d : Dset) : (l.map cellD).set k (cellD d) = (l.set k d).map cellD := by rw [List.map_set]
def backA (l : List Dset) (i j : Int) : List Dset × Int :=
 if findA l i < 0 ∨ findA l j < 0 then (l, 2) else
 let d := l.getD (findA l i).toNat default
 let s := l.getD (findA l j).toNat default
 if d.kind ≠ 1 ∨ s.kind ≠ 2 ∨ s.origin ≠ i then (l, 1) else if 0 ≤ idxA (laterA i j) l then (l, 10) else (l.set (findA l i).toNat { d with files := s.files }, 0)
end Go.Proofs.YtemjlopoffjmpaaGreat.Abs
set_option linter.unusedSimpArgs false
set_option linter.unusedVariables false
namespace Go.Proofs.YtemjlopoffjmpaaGreat.Abs
open Go Go.Proofs
def someA (g : Dset → Dset) (l : List Dset) (k : Nat) : List Dset := (l.map g).take k ++ l.drop k
theorem someA_get (g : Dset → Dset) (l : List Dset) (k j : Nat) (hk : k ≤ l.length) : (someA g l k)[j]? = if j < k then (l[j]?).map g else l[j]? := by
 unfold someA
 rw [List.getElem?_append, List.length_take, List.length_map, Nat.min_eq_left hk]
 by_cases h : j < k
 ·rw [if_pos h, if_pos h, List.getElem?_take, if_pos h, List.getElem?_map]
 ·rw [if_neg h, if_neg h, List.getElem?_drop]; congr 1; omega
theorem someA_len (g : Dset → Dset) (l : List Dset) (k : Nat) (hk : k ≤ l.length) : (someA g l k).length = l.length := by
 unfold someA
 simp; omega
theorem someA_succ (g : Dset → Dset) (l : List Dset) (k : Nat) (hk : k < l.length) : (someA g l k).set k (g (l.getD k default)) = someA g l (k + 1) := by
 apply List.ext_getElem?
 intro j
 rw [List.getElem?_set, someA_get _ _ _ _ (by omega), someA_get _ _ _ _ (by omega), someA_len _ _ _ (by omega)]
 by_cases h : k = j
 ·subst h
  rw [if_pos rfl, if_pos hk, if_pos (by omega), List.getElem?_eq_getElem hk, List.getD_eq_getElem?_getD, List.getElem?_eq_getElem hk]; rfl
 ·rw [if_neg h]
  by_cases h2 : j < k
  ·rw [if_pos h2, if_pos (by omega)]
  ·rw [if_neg h2, if_neg (by omega)]
theorem someA_getD (g : Dset → Dset) (l : List Dset) (k j : Nat) (hk : k ≤ l.length) : (someA g l k).getD j default = if j < k ∧ j < l.length then g (l.getD j default) else l.getD j default := by
 rw [List.getD_eq_getElem?_getD, someA_get _ _ _ _ hk]
 by_cases h : j < k
 ·rw [if_pos h, if_pos ⟨h, by omega⟩, List.getElem?_eq_getElem (show j < l.length by omega), List.getD_eq_getElem?_getD, List.getElem?_eq_getElem (show j < l.length by omega)]; rfl
 ·rw [if_neg h, if_neg (by omega), List.getD_eq_getElem?_getD]
theorem someA_zero (g : Dset → Dset) (l : List Dset) : someA g l 0 = l := by simp [someA]
theorem someA_all (g : Dset → Dset) (l : List Dset) : someA g l l.length = l.map g := by
 unfold someA
 rw [List.take_of_length_le (by simp), List.drop_length, List.append_nil]
def turnA (was sid i : Int) (x : Dset) : Dset := if x.kind = 2 ∧ x.origin = was ∧ x.id ≤ sid then ⟨x.id, x.kind, i, x.quota, x.files⟩ else x
theorem turnA_id (was sid i : Int) (x : Dset) : (turnA was sid i x).id = x.id := by unfold turnA; split <;> rfl
def reorig (d : Dset) (o : Int) : Dset := ⟨d.id, d.kind, o, d.quota, d.files⟩
def promoted (l : List Dset) (i : Int) (ki ks ko : Nat) : List Dset :=
 let was := (l.getD ks default).origin
 let l1 := l.set ki (reorig (l.getD ki default) (l.getD ko default).origin)
 let l2 := l1.set ko (reorig (l1.getD ko default) (l.getD ks default).id)
 l2.map (turnA was (l.getD ks default).id i)
def promoteA (l : List Dset) (i : Int) : List Dset × Int :=
 if findA l i < 0 then (l, 2) else
 let d := l.getD (findA l i).toNat default
 if d.kind ≠ 1 ∨ d.origin = 0 then (l, 1) else
 let s := l.getD (findA l d.origin).toNat default
 if findA l d.origin < 0 ∨ isA l s.origin 1 = false then (l, 1) else (promoted l i (findA l i).toNat (findA l d.origin).toNat (findA l s.origin).toNat, 0)
end Go.Proofs.YtemjlopoffjmpaaGreat.Abs
set_option linter.unusedSimpArgs false
set_option linter.unusedVariables false
namespace Go.Proofs.YtemjlopoffjmpaaGreat.Abs
open Go Go.Proofs
theorem MayD.mono {l l' : List Dset} {d : Dset} (h : MayD l d) (hs : ∀ o ∈ l, ∃ o' ∈ l', o'.id = o.id ∧ o'.kind = o.kind) : MayD l' d := by
 refine ⟨h.id, h.quota, h.files, h.kinds, fun e => ?_, fun e => ?_⟩
 ·obtain ⟨h1, o, ho, hi, hk⟩ := h.snap e
  obtain ⟨o', ho', hi', hk'⟩ := hs o ho
  exact ⟨h1, o', ho', by omega, by omega⟩
 ·rcases h.live e with h1 | ⟨o, ho, hi, hk⟩
  ·exact .inl h1
  ·obtain ⟨o', ho', hi', hk'⟩ := hs o ho
   exact .inr ⟨o', ho', by omega, by omega⟩
theorem MayD.origin {l : List Dset} {d : Dset} (h : MayD l d) : d.origin = 0 ∨ ∃ o ∈ l, o.id = d.origin := by
 rcases h.kinds with e | e
 ·rcases h.live e with h1 | ⟨o, ho, hi, _⟩
  ·exact .inl h1
  ·exact .inr ⟨o, ho, hi⟩
 ·obtain ⟨_, o, ho, hi, _⟩ := h.snap e
  exact .inr ⟨o, ho, hi⟩
theorem addA_may {l : List Dset} (h : MayL l) {next : Int} {x : Dset} (hf : Wf x.files) (hq : 0 ≤ x.quota ∧ x.quota ≤ 255)
 (hk : (x.kind = 1 ∧ (x.origin = 0 ∨ ∃ o ∈ l, o.id = x.origin ∧ o.kind = 2)) ∨ (x.kind = 2 ∧ x.quota = 0 ∧ ∃ o ∈ l, o.id = x.origin ∧ o.kind = 1)) : MayL (addA l next x).1 := by
 unfold addA
 split
 case isFalse => exact h
 case isTrue hok =>
  simp only [addOk, Bool.and_eq_true, Bool.or_eq_true, decide_eq_true_eq] at hok
  obtain ⟨⟨⟨h1, h2⟩, h3⟩, h4⟩ := hok
  have hlt : ∀ d ∈ l, d.id < next := fun d hd => by
   obtain ⟨n, hn, rfl⟩ := mem_dgetD hd
   rcases h4 with h4 | h4
   ·omega
   ·rcases Nat.lt_or_ge n (l.length - 1) with h5 | h5
    ·have := h.lt h5 (by omega); omega
    ·have : n = l.length - 1 := by omega
     rw [this]; exact h4
  have hox : x.origin = 0 ∨ ∃ o ∈ l, o.id = x.origin := by
   rcases hk with ⟨_, h5 | ⟨o, ho, hi, _⟩⟩ | ⟨_, _, o, ho, hi, _⟩
   ·exact .inl h5
   ·exact .inr ⟨o, ho, hi⟩
   ·exact .inr ⟨o, ho, hi⟩
  have hne : x.origin ≠ next := by
   rcases hox with h5 | ⟨o, ho, hi⟩
   ·omega
   ·have := hlt o ho; omega
  have hsub : ∀ o ∈ l, ∃ o' ∈ l ++ [({ x with id := next } : Dset)], o'.id = o.id ∧ o'.kind = o.kind := fun o ho => ⟨o, by simp [ho], rfl, rfl⟩
  refine ⟨by simp; omega, ?_, fun d hd => ?_, ?_⟩
  ·rw [List.pairwise_append]
   refine ⟨h.sorted, by simp, fun a ha b hb => ?_⟩
   rw [List.mem_singleton] at hb
   subst hb
   exact hlt a ha
  ·rcases List.mem_append.1 hd with hd | hd
   ·exact (h.each d hd).mono hsub
   ·rw [List.mem_singleton] at hd
    subst hd
    refine ⟨⟨h2, h3⟩, hq, hf, ?_, fun e => ?_, fun e => ?_⟩
    ·rcases hk with ⟨e, _⟩ | ⟨e, _⟩
     ·exact .inl e
     ·exact .inr e
    ·rcases hk with ⟨e', _⟩ | ⟨_, e2, o, ho, hi, hok⟩
     ·have : x.kind = 2 := e
      omega
     ·exact ⟨e2, o, by simp [ho], hi, hok⟩
    ·rcases hk with ⟨_, h5 | ⟨o, ho, hi, hok⟩⟩ | ⟨e', _⟩
     ·exact .inl h5
     ·exact .inr ⟨o, by simp [ho], hi, hok⟩
     ·have : x.kind = 1 := e
      omega
  ·obtain ⟨r, hr⟩ := h.tree
   refine ⟨fun i => if i = next then r x.origin + 1 else r i, fun d hd o ho e => ?_⟩
   show (if o.id = next then _ else _) < (if d.id = next then _ else _)
   rcases List.mem_append.1 hd with hd | hd
   ·have hd1 := hlt d hd
    rw [if_neg (show ¬ d.id = next by omega)]
    rcases List.mem_append.1 ho with ho | ho
    ·have ho1 := hlt o ho
     rw [if_neg (by omega)]
     exact hr d hd o ho e
    ·rw [List.mem_singleton] at ho
     subst ho
     exfalso
     have e' : next = d.origin := e
     rcases (h.each d hd).origin with h5 | ⟨o, ho, hi⟩
     ·omega
     ·have := hlt o ho; omega
   ·rw [List.mem_singleton] at hd
    subst hd
    rw [if_pos rfl]
    rcases List.mem_append.1 ho with ho | ho
    ·have ho1 := hlt o ho
     rw [if_neg (by omega)]
     have e' : o.id = x.origin := e
     rw [e']; omega
    ·rw [List.mem_singleton] at ho
     subst ho
     exfalso
     have e' : next = x.origin := e
     exact hne e'.symm
theorem createA_may {l : List Dset} (h : MayL l) (next q : Int) : MayL (createA l next q).1 := by
 unfold createA
 split
 ·exact h
 ·exact addA_may h newA_wf ⟨by show 0 ≤ q; omega, by show q ≤ 255; omega⟩ (.inl ⟨rfl, .inl rfl⟩)
theorem snapA_may {l : List Dset} (h : MayL l) (next i : Int) : MayL (snapA l next i).1 := by
 unfold snapA
 cases hg : getA l i with
 | none => exact h
 | some d =>
   obtain ⟨hd, hi⟩ := getA_mem hg
   have hm := h.each d hd
   simp only
   split
   ·exact h
   ·rename_i hk
    exact addA_may h hm.files ⟨Int.le_refl 0, by show (0 : Int) ≤ 255; omega⟩ (.inr ⟨rfl, rfl, d, hd, hi, by rcases hm.kinds with e | e; exact e; exact absurd e hk⟩)
theorem cloneA_may {l : List Dset} (h : MayL l) (next i : Int) : MayL (cloneA l next i).1 := by
 unfold cloneA
 cases hg : getA l i with
 | none => exact h
 | some d =>
   obtain ⟨hd, hi⟩ := getA_mem hg
   have hm := h.each d hd
   simp only
   split
   ·rename_i hk
    exact addA_may h hm.files ⟨Int.le_refl 0, by show (0 : Int) ≤ 255; omega⟩ (.inl ⟨rfl, .inr ⟨d, hd, hi, hk⟩⟩)
   ·exact h
theorem eraseIdx_mem {l : List Dset} (h : MayL l) {k : Nat} (hk : k < l.length) {d : Dset} : d ∈ l.eraseIdx k ↔ d ∈ l ∧ d.id ≠ (l.getD k default).id := by
 rw [List.mem_eraseIdx_iff_getElem]
 constructor
 ·rintro ⟨j, hj, hjk, rfl⟩
  refine ⟨List.getElem_mem hj, fun e => hjk ?_⟩
  have : (l.getD j default).id = (l.getD k default).id := by
   rw [List.getD_eq_getElem?_getD, List.getElem?_eq_getElem hj]; exact e
  exact h.inj hj hk this
 ·rintro ⟨hd, hne⟩
  obtain ⟨j, hj, rfl⟩ := mem_dgetD hd
  refine ⟨j, hj, fun e => hne (by rw [e]), ?_⟩
  rw [List.getD_eq_getElem?_getD, List.getElem?_eq_getElem hj]; rfl
theorem hangsA_false {l : List Dset} {i : Int} (h : ¬ hangsA l i = true) : ∀ d ∈ l, d.origin ≠ i := by
 intro d hd e
 apply h
 unfold hangsA
 obtain ⟨n, hn, rfl⟩ := mem_dgetD hd
 rcases idxA_cases (fun d => decide (d.origin = i)) l with ⟨_, h2⟩ | ⟨k, h1, _, _⟩
 ·have h3 := of_decide_eq_false (h2 n hn)
  exact absurd e h3
 ·rw [h1]; exact decide_eq_true (by omega)
theorem destroyA_may {l : List Dset} (h : MayL l) (i : Int) : MayL (destroyA l i).1 := by
 unfold destroyA
 split
 ·exact h
 ·rename_i h1
  split
  ·exact h
  ·rename_i h2
   rcases find_of (l := l) (i := i) with ⟨e, _⟩ | ⟨k, e, hk, hid, _⟩
   ·omega
   ·rw [e, Int.toNat_natCast]
    have hno := hangsA_false (fun hh => h2 (.inl hh))
    have hsub : ∀ d ∈ l.eraseIdx k, d ∈ l := fun d hd => ((eraseIdx_mem h hk).1 hd).1
    have hle := List.length_eraseIdx_le l k
    refine ⟨by have := h.len; show (l.eraseIdx k).length ≤ 8; omega, h.sorted.sublist (List.eraseIdx_sublist l k), fun d hd => ?_, ?_⟩
    ·have hdl := hsub d hd
     have hm := h.each d hdl
     refine ⟨hm.id, hm.quota, hm.files, hm.kinds, fun e => ?_, fun e => ?_⟩
     ·obtain ⟨h3, o, ho, hoi, hok⟩ := hm.snap e
      exact ⟨h3, o, (eraseIdx_mem h hk).2 ⟨ho, fun e2 => hno d hdl (by omega)⟩, hoi, hok⟩
     ·rcases hm.live e with h3 | ⟨o, ho, hoi, hok⟩
      ·exact .inl h3
      ·exact .inr ⟨o, (eraseIdx_mem h hk).2 ⟨ho, fun e2 => hno d hdl (by omega)⟩, hoi, hok⟩
    ·obtain ⟨r, hr⟩ := h.tree
     exact ⟨r, fun d hd o ho e => hr d (hsub d hd) o (hsub o ho) e⟩
theorem MayL.map {l : List Dset} (h : MayL l) (f : Dset → Dset) (hid : ∀ d ∈ l, (f d).id = d.id) (hkind : ∀ d ∈ l, (f d).kind = d.kind) (hquota : ∀ d ∈ l, (f d).quota = d.quota) (hfiles : ∀ d ∈ l, Wf (f d).files)
 (hsnap : ∀ d ∈ l, d.kind = 2 → ∃ o ∈ l, o.id = (f d).origin ∧ o.kind = 1) (hlive : ∀ d ∈ l, d.kind = 1 → (f d).origin = 0 ∨ ∃ o ∈ l, o.id = (f d).origin ∧ o.kind = 2)
 (r : Int → Nat) (hr : ∀ d ∈ l, ∀ o ∈ l, o.id = (f d).origin → r o.id < r d.id) : MayL (l.map f) := by
 have hmem : ∀ d ∈ l.map f, ∃ d0 ∈ l, f d0 = d := fun d hd => by
  obtain ⟨d0, h0, e⟩ := List.mem_map.1 hd
  exact ⟨d0, h0, e⟩
 refine ⟨by rw [List.length_map]; exact h.len, ?_, fun d hd => ?_, r, fun d hd o ho e => ?_⟩
 ·rw [List.pairwise_map]
  refine h.sorted.imp_of_mem fun ha hb hab => ?_
  rw [hid _ ha, hid _ hb]; exact hab
 ·obtain ⟨d0, h0, rfl⟩ := hmem d hd
  have hm := h.each d0 h0
  refine ⟨by rw [hid d0 h0]; exact hm.id, by rw [hquota d0 h0]; exact hm.quota, hfiles d0 h0, by rw [hkind d0 h0]; exact hm.kinds, fun e => ?_, fun e => ?_⟩
  ·rw [hkind d0 h0] at e
   obtain ⟨o, ho, hoi, hok⟩ := hsnap d0 h0 e
   exact ⟨by rw [hquota d0 h0]; exact (hm.snap e).1, f o, List.mem_map.2 ⟨o, ho, rfl⟩, by rw [hid o ho]; exact hoi, by rw [hkind o ho]; exact hok⟩
  ·rw [hkind d0 h0] at e
   rcases hlive d0 h0 e with h1 | ⟨o, ho, hoi, hok⟩
   ·exact .inl h1
   ·exact .inr ⟨f o, List.mem_map.2 ⟨o, ho, rfl⟩, by rw [hid o ho]; exact hoi, by rw [hkind o ho]; exact hok⟩
 ·obtain ⟨d0, h0, rfl⟩ := hmem d hd
  obtain ⟨o0, h1, rfl⟩ := hmem o ho
  rw [hid d0 h0, hid o0 h1]
  rw [hid o0 h1] at e
  exact hr d0 h0 o0 h1 e
theorem set_map {l : List Dset} (h : MayL l) {k : Nat} (hk : k < l.length) (g : Dset → Dset) : l.set k (g (l.getD k default)) = l.map fun d => if d.id = (l.getD k default).id then g d else d := by
 apply List.ext_getElem?
 intro j
 rw [List.getElem?_set, List.getElem?_map]
 by_cases hjl : j < l.length
 ·have hj : l[j] = l.getD j default := by rw [List.getD_eq_getElem?_getD, List.getElem?_eq_getElem hjl]; rfl
  rw [List.getElem?_eq_getElem hjl, Option.map_some, hj]
  by_cases hkj : k = j
  ·subst hkj; rw [if_pos rfl, if_pos hk, if_pos rfl]
  ·rw [if_neg hkj, if_neg fun e => hkj (h.inj hk hjl e.symm)]
 ·rw [List.getElem?_eq_none (by omega)]
  by_cases hkj : k = j
  ·omega
  ·rw [if_neg hkj]; rfl
theorem backA_may {l : List Dset} (h : MayL l) (i j : Int) : MayL (backA l i j).1 := by
 unfold backA
 split
 ·exact h
 ·rename_i h1
  rcases find_of (l := l) (i := i) with ⟨e, _⟩ | ⟨k, e, hk, hid, _⟩
  ·omega
  rcases find_of (l := l) (i := j) with ⟨e', _⟩ | ⟨m, e', hm, hid', _⟩
  ·omega
  rw [e, e', Int.toNat_natCast, Int.toNat_natCast]
  simp only
  split
  ·exact h
  ·split
   ·exact h
   ·show MayL (l.set k _)
    rw [set_map h hk (fun d => { d with files := (l.getD m default).files })]
    obtain ⟨r, hr⟩ := h.tree
    have hfm := (h.each _ (dgetD_mem hm)).files
    refine h.map _ (fun d _ => by split <;> rfl) (fun d _ => by split <;> rfl) (fun d _ => by split <;> rfl) (fun d hd => ?_) (fun d hd e => ?_) (fun d hd e => ?_) r (fun d hd o ho e => ?_)
    ·split
     ·exact hfm
     ·exact (h.each d hd).files
    ·have := ((h.each d hd).snap e).2
     split <;> exact this
    ·have := (h.each d hd).live e
     split <;> exact this
    ·have : o.id = d.origin := by
      rw [e]; split <;> rfl
     exact hr d hd o ho this
theorem isA_true {l : List Dset} {i k : Int} (h : isA l i k = true) : ∃ o : Nat, findA l i = o ∧ o < l.length ∧ (l.getD o default).id = i ∧ (l.getD o default).kind = k := by
 unfold isA at h
 rw [Bool.and_eq_true] at h
 have h1 := of_decide_eq_true h.1
 have h2 := of_decide_eq_true h.2
 rcases find_of (l := l) (i := i) with ⟨e, _⟩ | ⟨o, e, ho, hoi, _⟩
 ·omega
 ·rw [e, Int.toNat_natCast] at h2
  exact ⟨o, e, ho, hoi, h2⟩
theorem turnA_live {was sid i : Int} {x : Dset} (h : x.kind = 1) : turnA was sid i x = x := by
 unfold turnA
 rw [if_neg fun hh => by omega]
theorem turnA_re {was sid i : Int} {x : Dset} (v : Int) (h : x.kind = 1) : turnA was sid i (reorig x v) = reorig x v := turnA_live (x := reorig x v) h
def proF (c o s x : Dset) : Dset := if x.id = c.id then reorig x o.origin else if x.id = o.id then reorig x s.id else turnA s.origin s.id c.id x
theorem promoted_map {l : List Dset} (h : MayL l) {ki ks ko : Nat} (hi : ki < l.length) (ho : ko < l.length) (hne : ki ≠ ko) (hc1 : (l.getD ki default).kind = 1) (ho1 : (l.getD ko default).kind = 1) :
 promoted l (l.getD ki default).id ki ks ko = l.map (proF (l.getD ki default) (l.getD ko default) (l.getD ks default)) := by
 unfold promoted
 apply List.ext_getElem?
 intro j
 simp only [List.getElem?_map, List.getElem?_set, List.length_set]
 by_cases hjl : j < l.length
 ·have hj : l[j] = l.getD j default := by rw [List.getD_eq_getElem?_getD, List.getElem?_eq_getElem hjl]; rfl
  rw [List.getElem?_eq_getElem hjl, Option.map_some, hj]
  unfold proF
  by_cases h1 : ko = j
  ·subst h1
   have e1 : (l.set ki (reorig (l.getD ki default) (l.getD ko default).origin)).getD ko default = l.getD ko default := by
    rw [List.getD_eq_getElem?_getD, List.getElem?_set_ne hne, ← List.getD_eq_getElem?_getD]
   rw [if_pos rfl, if_pos ho, e1, if_neg fun e => hne (h.inj hi ho e.symm), if_pos rfl, Option.map_some, turnA_re _ ho1]
  ·rw [if_neg h1]
   by_cases h2 : ki = j
   ·subst h2
    rw [if_pos rfl, if_pos hi, if_pos rfl, Option.map_some, turnA_re _ hc1]
   ·rw [if_neg h2, if_neg fun e => h2 (h.inj hi hjl e.symm), if_neg fun e => h1 (h.inj ho hjl e.symm)]
    rfl
 ·rw [List.getElem?_eq_none (by omega)]
  by_cases h1 : ko = j
  ·omega
  ·by_cases h2 : ki = j
   ·omega
   ·rw [if_neg h1, if_neg h2]; rfl
theorem proF_may {l : List Dset} (h : MayL l) {c o s : Dset} (hc : c ∈ l) (ho : o ∈ l) (hs : s ∈ l) (hck : c.kind = 1) (hok : o.kind = 1) (hsk : s.kind = 2) (hcs : c.origin = s.id) (hso : s.origin = o.id) : MayL (l.map (proF c o s)) := by
 obtain ⟨r, hr⟩ := h.tree
 have r1 : r o.id < r s.id := hr s hs o ho hso.symm
 have r2 : r s.id < r c.id := hr c hc s hs hcs.symm
 have tsplit : ∀ d : Dset, (d.kind = 2 ∧ d.origin = s.origin ∧ d.id ≤ s.id ∧ turnA s.origin s.id c.id d = ⟨d.id, d.kind, c.id, d.quota, d.files⟩) ∨ (¬ (d.kind = 2 ∧ d.origin = s.origin ∧ d.id ≤ s.id) ∧ turnA s.origin s.id c.id d = d) := fun d => by
  unfold turnA
  by_cases hh : d.kind = 2 ∧ d.origin = s.origin ∧ d.id ≤ s.id
  ·left; rw [if_pos hh]; exact ⟨hh.1, hh.2.1, hh.2.2, rfl⟩
  ·right; rw [if_neg hh]; exact ⟨hh, rfl⟩
 have hF : ∀ d ∈ l, (proF c o s d).id = d.id ∧ (proF c o s d).kind = d.kind ∧ (proF c o s d).quota = d.quota ∧ (proF c o s d).files = d.files := fun d hd => by
  unfold proF
  split
  ·exact ⟨rfl, rfl, rfl, rfl⟩
  ·split
   ·exact ⟨rfl, rfl, rfl, rfl⟩
   ·rcases tsplit d with ⟨_, _, _, e⟩ | ⟨_, e⟩ <;> rw [e] <;> exact ⟨rfl, rfl, rfl, rfl⟩
 have hO : ∀ d ∈ l, (d = c ∧ (proF c o s d).origin = o.origin) ∨ (d = o ∧ d ≠ c ∧ (proF c o s d).origin = s.id) ∨ (d ≠ c ∧ d ≠ o ∧ (d.kind = 2 ∧ d.origin = s.origin ∧ d.id ≤ s.id) ∧ (proF c o s d).origin = c.id) ∨ (d ≠ c ∧ d ≠ o ∧ ¬ (d.kind = 2 ∧ d.origin = s.origin ∧ d.id ≤ s.id) ∧ (proF c o s d).origin = d.origin) := fun d hd => by
  unfold proF
  by_cases h1 : d.id = c.id
  ·left; rw [if_pos h1]; exact ⟨h.inj' hd hc h1, rfl⟩
  ·have n1 : d ≠ c := fun e => h1 (by rw [e])
   rw [if_neg h1]
   by_cases h2 : d.id = o.id
   ·right; left; rw [if_pos h2]; exact ⟨h.inj' hd ho h2, n1, rfl⟩
   ·have n2 : d ≠ o := fun e => h2 (by rw [e])
    rw [if_neg h2]
    right; right
    rcases tsplit d with ⟨e1, e2, e3, e⟩ | ⟨e1, e⟩
    ·left; rw [e]; exact ⟨n1, n2, ⟨e1, e2, e3⟩, rfl⟩
    ·right; rw [e]; exact ⟨n1, n2, e1, rfl⟩
 have hsT : s.kind = 2 ∧ s.origin = s.origin ∧ s.id ≤ s.id := ⟨hsk, rfl, Int.le_refl _⟩
 have rT : ∀ d ∈ l, (d.kind = 2 ∧ d.origin = s.origin ∧ d.id ≤ s.id) → r o.id < r d.id := fun d hd e => hr d hd o ho (by rw [e.2.1, hso])
 let R : Dset → Nat := fun d => if d = c then r o.id else if (d.kind = 2 ∧ d.origin = s.origin ∧ d.id ≤ s.id) then r o.id + 1 else if d = o then r o.id + 2 else if r o.id < r d.id then r d.id + 4 else r d.id
 have hR : ∀ d ∈ l, ((getA l d.id).map R).getD 0 = R d := fun d hd => by
  rw [h.find hd]; rfl
 have hco : c ≠ o := fun e => by rw [e] at r2; omega
 have hcT : ¬ (c.kind = 2 ∧ c.origin = s.origin ∧ c.id ≤ s.id) := fun e => by omega
 have hoT : ¬ (o.kind = 2 ∧ o.origin = s.origin ∧ o.id ≤ s.id) := fun e => by omega
 refine h.map _ (fun d hd => (hF d hd).1) (fun d hd => (hF d hd).2.1) (fun d hd => (hF d hd).2.2.1) (fun d hd => by rw [(hF d hd).2.2.2]; exact (h.each d hd).files) (fun d hd e => ?_) (fun d hd e => ?_) (fun i => ((getA l i).map R).getD 0) (fun d hd p hp e => ?_)
 ·rcases hO d hd with ⟨rfl, _⟩ | ⟨rfl, _, _⟩ | ⟨_, _, _, e2⟩ | ⟨_, _, _, e2⟩
  ·omega
  ·omega
  ·exact ⟨c, hc, e2.symm, hck⟩
  ·rw [e2]; exact ((h.each d hd).snap e).2
 ·rcases hO d hd with ⟨rfl, e2⟩ | ⟨rfl, _, e2⟩ | ⟨_, _, e3, _⟩ | ⟨_, _, _, e2⟩
  ·rw [e2]; exact (h.each o ho).live hok
  ·rw [e2]; exact .inr ⟨s, hs, rfl, hsk⟩
  ·omega
  ·rw [e2]; exact (h.each d hd).live e
 ·rw [hR d hd, hR p hp]
  have Rc : R c = r o.id := if_pos rfl
  have Ro : R o = r o.id + 2 := by show (if o = c then _ else _) = _; rw [if_neg hco.symm, if_neg hoT, if_pos rfl]
  have RT : ∀ d, d ≠ c → (d.kind = 2 ∧ d.origin = s.origin ∧ d.id ≤ s.id) → R d = r o.id + 1 := fun d h1 h2 => by show (if d = c then _ else _) = _; rw [if_neg h1, if_pos h2]
  have RE : ∀ d, d ≠ c → ¬ (d.kind = 2 ∧ d.origin = s.origin ∧ d.id ≤ s.id) → d ≠ o → R d = if r o.id < r d.id then r d.id + 4 else r d.id := fun d h1 h2 h3 => by show (if d = c then _ else _) = _; rw [if_neg h1, if_neg h2, if_neg h3]
  have hsc : s ≠ c := fun e => by rw [e] at hsk; omega
  rcases hO d hd with ⟨rfl, e2⟩ | ⟨rfl, _, e2⟩ | ⟨n1, _, e3, e2⟩ | ⟨n1, n2, n3, e2⟩
  ·have hpo : p.id = o.origin := e.trans e2
   have r3 := hr o ho p hp hpo
   have hpc : p ≠ d := fun e => by rw [e] at r3; omega
   have hpo : p ≠ o := fun e => by rw [e] at r3; omega
   have hpT : ¬ (p.kind = 2 ∧ p.origin = s.origin ∧ p.id ≤ s.id) := fun e => by have := rT p hp e; omega
   rw [Rc, RE p hpc hpT hpo, if_neg (by omega)]
   exact r3
  ·have hps : p = s := h.inj' hp hs (e.trans e2)
   rw [hps, Ro, RT s hsc hsT]; omega
  ·have hpc : p = c := h.inj' hp hc (e.trans e2)
   rw [hpc, Rc, RT d n1 e3]; omega
  ·have r3 := hr d hd p hp (e.trans e2)
   rw [RE d n1 n3 n2]
   by_cases p1 : p = c
   ·rw [p1] at r3
    rw [p1, Rc, if_pos (by omega)]; omega
   ·by_cases p2 : p.kind = 2 ∧ p.origin = s.origin ∧ p.id ≤ s.id
    ·have := rT p hp p2
     rw [RT p p1 p2, if_pos (by omega)]; omega
    ·by_cases p3 : p = o
     ·rw [p3] at r3
      rw [p3, Ro, if_pos r3]; omega
     ·rw [RE p p1 p2 p3]
      by_cases p4 : r o.id < r p.id
      ·rw [if_pos p4, if_pos (by omega)]; omega
      ·rw [if_neg p4]; split <;> omega
theorem promoteA_may {l : List Dset} (h : MayL l) (i : Int) : MayL (promoteA l i).1 := by
 unfold promoteA
 split
 ·exact h
 ·rename_i h1
  rcases find_of (l := l) (i := i) with ⟨e, _⟩ | ⟨k, e, hk, hid, _⟩
  ·omega
  rw [e, Int.toNat_natCast]
  simp only
  split
  ·exact h
  ·rename_i h2
   split
   ·exact h
   ·rename_i h3
    have hk1 : (l.getD k default).kind = 1 := Classical.byContradiction fun hh => h2 (.inl hh)
    rcases find_of (l := l) (i := (l.getD k default).origin) with ⟨e', _⟩ | ⟨m, e', hm, hid', _⟩
    ·exact absurd (.inl (by omega)) h3
    rw [e', Int.toNat_natCast] at h3 ⊢
    have h4 : isA l (l.getD m default).origin 1 = true := by
     cases hh : isA l (l.getD m default).origin 1
     ·exact absurd (.inr hh) h3
     ·rfl
    obtain ⟨o, e2, ho, hoi, hok⟩ := isA_true h4
    rw [e2, Int.toNat_natCast]
    have hms : (l.getD m default).kind = 2 := by
     rcases (h.each _ (dgetD_mem hk)).live hk1 with h5 | ⟨x, hx, hxi, hxk⟩
     ·exact absurd (.inr h5) h2
     ·have : x = l.getD m default := h.inj' hx (dgetD_mem hm) (by omega)
      rw [← this]; exact hxk
    have hne : k ≠ o := by
     intro hko
     obtain ⟨r, hr⟩ := h.tree
     have r1 := hr _ (dgetD_mem hm) _ (dgetD_mem ho) hoi
     have r2 := hr _ (dgetD_mem hk) _ (dgetD_mem hm) hid'
     rw [← hko] at r1
     omega
    show MayL (promoted l i k m o)
    rw [← hid, promoted_map h hk ho hne hk1 hok]
    exact proF_may h (dgetD_mem hk) (dgetD_mem ho) (dgetD_mem hm) hk1 hok hms hid'.symm hoi.symm
end Go.Proofs.YtemjlopoffjmpaaGreat.Abs
set_option linter.unusedSimpArgs false
set_option linter.unusedVariables false
namespace Go.Proofs.YtemjlopoffjmpaaGreat.Abs
open Go Go.Proofs
theorem rused0 (s : List Node) (hs : s.length ≤ 1000000) : C Tryz.prog 20 [aset s] [] (fun x _ => x = .int .i64 (used s)) := by
 refine C_body d20 rfl (WT_ok ?_)
 delta c20 I0 I1 I2 I3 I4 I5 I6 I7 I8 I9 KI
 simp only [aset, wk, iaddrV_map, seval]
 refine WT_loop (W_loop (fun n fr H' => ∃ i : Nat, i ≤ s.length ∧ n = s.length - i ∧ H' = [] ∧ fr = [.fz (s.map pnode), .top, .int .i64 0, .int .i64 (used (s.take i)), .int .i64 i] ++ List.replicate 15 .top) s.length ⟨0, by omega, rfl, rfl, rfl⟩ ?_)
 rintro n fr H' ⟨i, hi, rfl, rfl, rfl⟩
 refine WT_ok ?_
 simp only [wk, iaddrV_map, seval]
 refine guard_both ?_ ?_ <;> intro h <;> simp only [hy] at h <;> simp only [h, wk, iaddrV_map, seval]
 ·have hil : i < s.length := by omega
  refine ⟨⟨by omega, rfl⟩, ?_⟩
  simp only [pnode, wk, iaddrV_map, seval]
  refine CT_ok (count_spec _ _) ?_
  rintro _ _ ⟨rfl, rfl⟩
  have hb := usedA_le countA countA_le (s.take i)
  have hb2 := countA_le (s.getD i default).body
  rw [List.length_take] at hb
  have w1 : IntKind.i64.wrap ((used (s.take i) : Int) + (countA (s.getD i default).body : Int)) = (used (s.take i) : Int) + (countA (s.getD i default).body : Int) := IntWalk.i64_in _ (by unfold used; omega)
  have w2 : IntKind.i64.wrap ((i : Int) + 1) = (i : Int) + 1 := IntWalk.i64_in _ (by omega)
  simp only [w1, w2, wk, iaddrV_map, seval]
  refine QLoop_wk (n' := s.length - (i + 1)) (by omega) ⟨i + 1, by omega, rfl, rfl, rfl⟩ (Wk_clear ?_)
  simp only [renL, ren, upTo_zero, Tops_top, Tops_same, Tops_nil, used, usedA_take countA s i hil, Int.natCast_add, Int.natCast_one, List.replicate_succ, List.replicate_zero, List.cons_append, List.nil_append]
 ·have : i = s.length := by omega
  subst this
  rw [List.take_length]
theorem rused (s : List Node) (hs : s.length ≤ 1000000) (H : AH) : C Tryz.prog 20 [aset s] H (fun x H' => x = .int .i64 (used s) ∧ H' = H) :=
 C_flat (K0 := fun x _ => x = .int .i64 (used s)) (rused0 s hs) (by rintro x _ rfl; exact ⟨rfl, rfl, rfl⟩)
theorem SET_pure {P : Program} {f : FuncId} {args : List Opd} {d : Option Nat} {c : Nat} {fr : List AV} {H : AH} {K : List Loc → List Loc → Nat → List AV → AH → Prop} {t} {vs : List AV} {x : AV} (ha : args.map (evalA fr) = vs) (hb : bareL vs = true) (hx : bare x = true)
 (h : C P f vs [] (fun y G => y = x ∧ G = [])) (hc : c ≤ H.length) (hk : K [] [] c (setA fr d x) H) : SET P (.call f args) d c fr H K t := by
 refine ⟨[], 0, x, [], List.nodup_nil, by simp, by omega, rfl, ?_, ?_⟩
 ·rw [ha, renL_bare _ _ hb]; exact h
 ·simp only [List.nil_append, List.range'_zero, List.map_nil, List.append_nil, Nat.add_zero]
  rw [ren_bare _ _ hx]
  exact hk
theorem CFT_pure {P : Program} {f : FuncId} {args : List AV} {c : Nat} {H : AH} {late : List Loc → List Loc → Prop} {K : List Nat → Nat → AV → AH → Prop} {t} {x : AV} (hb : bareL args = true) (hx : bare x = true)
 (h : C P f args [] (fun y G => y = x ∧ G = [])) (hc : c ≤ H.length) (hk : K [] c x H) : CFT P f args c H late K t := by
 refine .inl ⟨[], 0, x, [], List.nodup_nil, by simp, by omega, rfl, ?_, ?_⟩
 ·rw [renL_bare _ _ hb]; exact h
 ·simp only [List.nil_append, List.range'_zero, Nat.add_zero]
  rw [ren_bare _ _ hx]
  exact hk
theorem KWk_then {K : AV → AH → Prop} {x x' : AV} {H H' : AH} (h : Wk 0 [x] H [x'] H') (hk : KWk 0 K x' H') : KWk 0 K x H := by
 obtain ⟨y, G, h2, h3⟩ := hk
 exact ⟨y, G, h.trans h2, h3⟩
theorem frz_cell (r : Nat) (es : List (List PV)) (d : Dset) : frzL r es (cellD d) = cellD d := by simp [frzL, frz, cellD, aset]
theorem map_frz (r : Nat) (es : List (List PV)) (l : List Dset) : (l.map cellD).map (frzL r es) = l.map cellD := by
 rw [List.map_map]
 apply List.map_congr_left
 intro d _
 exact frz_cell r es d
theorem KWk_files (l : List Dset) (k : Nat) (d : Dset) (s : List Node) (o0 : AObj) :
 KWk 0 (fun y H' => y = outA (l.set k { d with files := s }, 0) ∧ H' = []) (.tuple [.own 1 5 0 l.length l.length, .int .i64 0])
  [some o0, some ((l.map cellD).set k [.int .i64 d.id, .int .i64 d.kind, .int .i64 d.origin, .int .i64 d.quota, .own 2 5 0 s.length s.length]), some ((s.map pnode).map fun e => e.map emb)] := by
 have h := Wk_freeze (n0 := 0) (fr := [.tuple [.own 1 5 0 l.length l.length, .int .i64 0]]) (H := [some o0, some ((l.map cellD).set k [.int .i64 d.id, .int .i64 d.kind, .int .i64 d.origin, .int .i64 d.quota, .own 2 5 0 s.length s.length]), some ((s.map pnode).map fun e => e.map emb)]) 2 (s.map pnode) rfl
 have e : frzL 2 (s.map pnode) [.int .i64 d.id, .int .i64 d.kind, .int .i64 d.origin, .int .i64 d.quota, .own 2 5 0 s.length s.length] = cellD { d with files := s } := by
  simp only [frzL, frz, cellD, aset, if_true, List.length_map, Nat.zero_add, Nat.le_refl, and_self, List.drop_zero]
  rw [List.take_of_length_le (by simp)]
 refine KWk_then h (KWk_sets 1 (l.set k { d with files := s }) 0 _ (by simp) ?_ ⟨rfl, rfl⟩)
 simp only [mapH, List.set_cons_succ, List.set_cons_zero, List.map_cons, List.map_nil, Option.map_some, Option.map_none, List.map_set, map_frz, e]
 rfl
def filesA (l : List Dset) (i : Int) (s : List Node) : List Dset × Int := match getA l i with
 | none => (l, 2)
 | some d => if d.kind = 2 then (l, 11) else if 0 < d.quota ∧ d.quota < used s ∧ used d.files < used s then (l, 9) else (l.set (findA l i).toNat { d with files := s }, 0)
theorem filesA0 (l : List Dset) (hl : Short l) (i : Int) (s : List Node) (hs : s.length ≤ 1000000) :
 C Tryz.prog 17 [asets l, .int .i64 i, aset s] [] (fun y H' => y = outA (filesA l i s) ∧ H' = []) := by
 have hl1 := hl.1
 refine C_body' d17 rfl (WT_ok ?_)
 delta c17 I0 I1 I2 I3 I4 I5 I6 I7 I8 I9 KI
 simp only [lay, wk3, wk, iaddrV_map, seval]
 refine CT_ok (rgetL l hl1 i _) ?_
 rintro _ _ ⟨rfl, rfl⟩
 cases hg : getA l i with
 | none =>
   have e : filesA l i s = (l, 2) := by unfold filesA; rw [hg]
   rw [e]
   simp only [getV, lay, wk3, wk, iaddrV_map, seval]
   exact KWk_bare (by simp [bare, bareL, asets]) ⟨rfl, rfl⟩
 | some d =>
   have hd := hl.2 d (getA_mem hg).1
   by_cases h2 : d.kind = 2
   ·have e : filesA l i s = (l, 11) := by unfold filesA; rw [hg]; exact if_pos h2
    rw [e]
    simp only [getV, h2, cellD, aset, lay, wk3, wk, iaddrV_map, seval]
    exact KWk_bare (by simp [bare, bareL, asets]) ⟨rfl, rfl⟩
   have hB : filesA l i s = if 0 < d.quota ∧ d.quota < used s ∧ used d.files < used s then (l, 9) else (l.set (findA l i).toNat { d with files := s }, 0) := by
    unfold filesA; rw [hg]; exact if_neg h2
   obtain ⟨k, ek, hk, hdk⟩ : ∃ k : Nat, findA l i = k ∧ k < l.length ∧ l.getD k default = d := by
    unfold getA at hg
    rcases find_of (l := l) (i := i) with ⟨e, _⟩ | ⟨k, e, hk, _, _⟩
    ·rw [e] at hg; cases hg
    ·rw [e, if_pos (by omega), Int.toNat_natCast] at hg
     exact ⟨k, e, hk, Option.some.inj hg⟩
   rw [ek, Int.toNat_natCast] at hB
   have hc : (l.map cellD)[k]? = some (cellD d) := by rw [cell_at hk, hdk]
   have k0 : (0 : Int) ≤ k := by omega
   have k1 : (k : Int) < l.length := by omega
   by_cases h3 : 0 < d.quota
   case neg =>
    rw [if_neg (fun h => h3 h.1)] at hB
    simp only [getV, h2, cellD, aset, lay, wk3, wk, iaddrV_map, seval]
    refine WT_drawE ?_
    simp only [h3, lay, wk3, wk, iaddrV_map, seval]
    refine WDT_more 0 ?_
    simp only [h3, lay, wk3, wk, iaddrV_map, seval]
    refine ⟨by rfl, ?_⟩
    refine WDT_more 0 ?_
    simp only [h3, lay, wk3, wk, iaddrV_map, seval]
    refine ⟨by rfl, ?_⟩
    simp only [asets, cellsD, rows5D, List.length_map, lay, wk3, wk, iaddrV_map, seval]
    refine ⟨⟨by omega, by omega⟩, ?_⟩
    refine CT_ok (rat85 l hl1 i _) ?_
    rintro _ _ ⟨rfl, rfl⟩
    simp only [ek, k0, k1, hc, cellD, aset, lay, wk3, wk, iaddrV_map, seval]
    refine ⟨⟨rows5 s, by omega, by omega⟩, ?_⟩
    rw [hB]
    exact KWk_files l k d s _
   simp only [getV, h2, cellD, aset, lay, wk3, wk, iaddrV_map, seval]
   refine WT_drawE ?_
   simp only [h3, lay, wk3, wk, iaddrV_map, seval]
   refine WDT_more 0 ?_
   simp only [h3, lay, wk3, wk, iaddrV_map, seval]
   refine SET_pure (x := .int .i64 (used s)) rfl rfl rfl (rused s hs []) (by simp) ?_
   simp only [lay, wk3, wk, iaddrV_map, seval]
   refine ⟨by rfl, ?_⟩
   by_cases h4 : d.quota < (used s : Int)
   case neg =>
    rw [if_neg (fun h => h4 h.2.1)] at hB
    simp only [h3, h4, lay, wk3, wk, iaddrV_map, seval]
    refine WDT_more 0 ?_
    simp only [h3, h4, lay, wk3, wk, iaddrV_map, seval]
    refine ⟨by rfl, ?_⟩
    simp only [asets, cellsD, rows5D, List.length_map, lay, wk3, wk, iaddrV_map, seval]
    refine ⟨⟨by omega, by omega⟩, ?_⟩
    refine CT_ok (rat85 l hl1 i _) ?_
    rintro _ _ ⟨rfl, rfl⟩
    simp only [ek, k0, k1, hc, cellD, aset, lay, wk3, wk, iaddrV_map, seval]
    refine ⟨⟨rows5 s, by omega, by omega⟩, ?_⟩
    rw [hB]
    exact KWk_files l k d s _
   simp only [h3, h4, lay, wk3, wk, iaddrV_map, seval]
   refine WDT_more 0 ?_
   simp only [h3, h4, lay, wk3, wk, iaddrV_map, seval]
   refine SET_pure (x := .int .i64 (used s)) rfl rfl rfl (rused s hs []) (by simp) ?_
   simp only [lay, wk3, wk, iaddrV_map, seval]
   refine ⟨by rfl, ?_⟩
   refine CT_ok (rused d.files hd _) ?_
   rintro _ _ ⟨rfl, rfl⟩
   by_cases h5 : (used d.files : Int) < (used s : Int)
   case neg =>
    rw [if_neg (fun h => h5 (by omega))] at hB
    simp only [h5, lay, wk3, wk, iaddrV_map, seval]
    simp only [asets, cellsD, rows5D, List.length_map, lay, wk3, wk, iaddrV_map, seval]
    refine ⟨⟨by omega, by omega⟩, ?_⟩
    refine CT_ok (rat85 l hl1 i _) ?_
    rintro _ _ ⟨rfl, rfl⟩
    simp only [ek, k0, k1, hc, cellD, aset, lay, wk3, wk, iaddrV_map, seval]
    refine ⟨⟨rows5 s, by omega, by omega⟩, ?_⟩
    rw [hB]
    exact KWk_files l k d s _
   rw [if_pos ⟨h3, h4, by omega⟩] at hB
   simp only [h5, hB, lay, wk3, wk, iaddrV_map, seval]
   exact KWk_bare (by simp [bare, bareL, asets]) ⟨rfl, rfl⟩
end Go.Proofs.YtemjlopoffjmpaaGreat.Abs
set_option linter.unusedSimpArgs false
set_option linter.unusedVariables false
namespace Go.Proofs.YtemjlopoffjmpaaGreat.Abs
open Go Go.Proofs
theorem getA_of {l : List Dset} {i : Int} {k : Nat} (h : findA l i = k) : getA l i = some (l.getD k default) := by
 unfold getA
 rw [h, if_pos (by omega), Int.toNat_natCast]
theorem getA_no {l : List Dset} {i : Int} (h : findA l i = -1) : getA l i = none := by
 unfold getA
 rw [h, if_neg (by decide)]
theorem renO_one (τ : Nat → Option Nat) (d : Dset) : renO τ [cellD d] = [cellD d] := renO_cells τ [d]
theorem rback0 (l : List Dset) (hl : Short l) (i j : Int) : C Tryz.prog 74 [asets l, .int .i64 i, .int .i64 j] [] (fun y H' => y = outA (backA l i j) ∧ H' = []) := by
 have hl1 := hl.1
 refine C_body' d74 rfl (WT_ok ?_)
 delta c74 I0 I1 I2 I3 I4 I5 I6 I7 I8 I9 KI
 simp only [lay, wk3, wk, iaddrV_map, seval]
 refine CT_ok (rgetL l hl1 i _) ?_
 rintro _ _ ⟨rfl, rfl⟩
 rcases find_of (l := l) (i := i) with ⟨e, _⟩ | ⟨k, e, hk, hid, _⟩
 ·have hA : backA l i j = (l, 2) := by unfold backA; rw [e]; exact if_pos (.inl (by decide))
  rw [getA_no e, hA]
  simp only [getV, lay, wk3, wk, iaddrV_map, seval]
  refine CT_ok (rgetL l hl1 j _) ?_
  rintro _ _ ⟨rfl, rfl⟩
  cases getA l j with
  | none =>
    simp only [getV, lay, wk3, wk, iaddrV_map, seval]
    exact KWk_bare (by simp [bare, bareL, asets]) ⟨rfl, rfl⟩
  | some s =>
    simp only [getV, cellD, aset, lay, wk3, wk, iaddrV_map, seval]
    exact KWk_bare (by simp [bare, bareL, asets]) ⟨rfl, rfl⟩
 rw [getA_of e]
 simp only [getV, cellD, aset, lay, wk3, wk, iaddrV_map, seval]
 refine CT_ok (rgetL l hl1 j _) ?_
 rintro _ _ ⟨rfl, rfl⟩
 rcases find_of (l := l) (i := j) with ⟨e', _⟩ | ⟨m, e', hm, hid', _⟩
 ·have hA : backA l i j = (l, 2) := by unfold backA; rw [e']; exact if_pos (.inr (by decide))
  rw [getA_no e', hA]
  simp only [getV, lay, wk3, wk, iaddrV_map, seval]
  exact KWk_bare (by simp [bare, bareL, asets]) ⟨rfl, rfl⟩
 rw [getA_of e']
 simp only [getV, cellD, aset, lay, wk3, wk, iaddrV_map, seval]
 have hB : backA l i j = if (l.getD k default).kind ≠ 1 ∨ (l.getD m default).kind ≠ 2 ∨ (l.getD m default).origin ≠ i then (l, 1) else if 0 ≤ idxA (laterA i j) l then (l, 10) else (l.set k { (l.getD k default) with files := (l.getD m default).files }, 0) := by
  unfold backA
  rw [e, e', if_neg (by omega), Int.toNat_natCast, Int.toNat_natCast]
 by_cases h1 : (l.getD k default).kind = 1
 case neg =>
  rw [if_pos (.inl h1)] at hB
  simp only [h1, hB, lay, wk3, wk, iaddrV_map, seval]
  exact KWk_bare (by simp [bare, bareL, asets]) ⟨rfl, rfl⟩
 by_cases h2 : (l.getD m default).kind = 2
 case neg =>
  rw [if_pos (.inr (.inl h2))] at hB
  simp only [h1, h2, hB, lay, wk3, wk, iaddrV_map, seval]
  exact KWk_bare (by simp [bare, bareL, asets]) ⟨rfl, rfl⟩
 by_cases h3 : (l.getD m default).origin = i
 case neg =>
  rw [if_pos (.inr (.inr h3))] at hB
  simp only [h1, h2, h3, hB, lay, wk3, wk, iaddrV_map, seval]
  exact KWk_bare (by simp [bare, bareL, asets]) ⟨rfl, rfl⟩
 rw [if_neg (fun hh => by rcases hh with hh | hh | hh <;> exact hh (by assumption))] at hB
 simp only [h1, h2, h3, lay, wk3, wk, iaddrV_map, seval]
 refine WT_loop (W_wk (fr' := [asets l, .int .i64 i, .int .i64 j, .top, .top, .top, .emp, .int .i64 0, .ptr 0 0 0 1, .bool true, .ptr 1 0 0 1, .bool true, .int .i64 0] ++ List.replicate 78 .top) (Wk_obj2 (renO_one _ ⟨(l.getD k default).id, 1, (l.getD k default).origin, (l.getD k default).quota, (l.getD k default).files⟩) (renO_one _ ⟨(l.getD m default).id, 2, i, (l.getD m default).quota, (l.getD m default).files⟩) ?_) (W_loop (fun n fr H' => ∃ x : Nat, x ≤ l.length ∧ n = l.length - x ∧ (∀ y, y < x → laterA i j (l.getD y default) = false) ∧ H' = [some [cellD ⟨(l.getD k default).id, 1, (l.getD k default).origin, (l.getD k default).quota, (l.getD k default).files⟩], some [cellD ⟨(l.getD m default).id, 2, i, (l.getD m default).quota, (l.getD m default).files⟩]] ∧
  fr = [asets l, .int .i64 i, .int .i64 j, .top, .top, .top, .emp, .int .i64 0, .ptr 0 0 0 1, .bool true, .ptr 1 0 0 1, .bool true, .int .i64 x] ++ List.replicate 78 .top) l.length ⟨0, by omega, rfl, fun y hy => by omega, rfl, rfl⟩ ?_))
 ·simp only [asets, upTo, renL, ren, tp, show (0 : Nat) < 2 by omega, show (1 : Nat) < 2 by omega, if_true]
 rintro n fr H' ⟨x, hx, rfl, hn, rfl, rfl⟩
 refine WT_ok ?_
 simp only [asets, lay, wk4, wk3, wk, iaddrV_map, seval]
 refine guard_both ?_ ?_ <;> intro h <;> simp only [hy] at h
 ·have hx2 : x < l.length := by omega
  have w2 : IntKind.i64.wrap ((x : Int) + 1) = (x : Int) + 1 := IntWalk.i64_in _ (by omega)
  have h0 : (0 : Int) ≤ x := by omega
  have e5 : (pdset (l.getD x default)).length = 5 := rfl
  simp only [h, h0, e5, iaddr_dset, pdset, lay, wk4, wk3, wk, iaddrV_map, seval]
  by_cases g1 : (l.getD x default).kind = 2
  case neg =>
   simp only [g1, w2, lay, wk4, wk3, wk, iaddrV_map, seval]
   refine QLoop_go (n' := l.length - (x + 1)) (by omega) ⟨x + 1, by omega, rfl, fun y hy => ?_, rfl, rfl⟩ ?_
   ·rcases Nat.lt_or_ge y x with h' | h'
    ·exact hn y h'
    ·have : y = x := by omega
     subst this
     unfold laterA
     simp only [g1, decide_false, Bool.false_and, Bool.and_false, Bool.not_false, if_false]
   ·simp only [asets, tq]
  by_cases g2 : (l.getD x default).origin = i
  case neg =>
   simp only [g1, g2, h0, h, e5, iaddr_dset, pdset, w2, lay, wk4, wk3, wk, iaddrV_map, seval]
   refine QLoop_go (n' := l.length - (x + 1)) (by omega) ⟨x + 1, by omega, rfl, fun y hy => ?_, rfl, rfl⟩ ?_
   ·rcases Nat.lt_or_ge y x with h' | h'
    ·exact hn y h'
    ·have : y = x := by omega
     subst this
     unfold laterA
     simp only [g2, decide_false, Bool.false_and, Bool.and_false, Bool.not_false, if_false]
   ·simp only [asets, tq]
  by_cases g3 : j < (l.getD x default).id
  case neg =>
   simp only [g1, g2, g3, h0, h, e5, iaddr_dset, pdset, w2, lay, wk4, wk3, wk, iaddrV_map, seval]
   refine QLoop_go (n' := l.length - (x + 1)) (by omega) ⟨x + 1, by omega, rfl, fun y hy => ?_, rfl, rfl⟩ ?_
   ·rcases Nat.lt_or_ge y x with h' | h'
    ·exact hn y h'
    ·have : y = x := by omega
     subst this
     unfold laterA
     simp only [g3, decide_false, Bool.false_and, Bool.and_false, Bool.not_false, if_false]
   ·simp only [asets, tq]
  have hI : idxA (laterA i j) l = x := idxA_some hx2 (by unfold laterA; simp only [g1, g2, g3, decide_true, Bool.and_true]) hn
  rw [hI, if_pos (by omega)] at hB
  simp only [g1, g2, g3, h0, h, e5, iaddr_dset, pdset, hB, lay, wk4, wk3, wk, iaddrV_map, seval]
  exact KWk_bare (by simp [bare, bareL]) ⟨rfl, rfl⟩
 ·have hI : idxA (laterA i j) l = -1 := idxA_none fun y hy => hn y (by omega)
  rw [hI, if_neg (by decide)] at hB
  simp only [h, cellsD, rows5D, lay, wk4, wk3, wk, iaddrV_map, seval]
  refine ⟨⟨by omega, by omega⟩, ?_⟩
  refine WT_drawE ?_
  refine WDT_more 0 ?_
  simp only [cellD, aset, lay, wk4, wk3, wk, iaddrV_map, seval]
  refine CFT_pure (x := .int .i64 (findA l i)) rfl rfl (rat85 l hl1 i []) (by simp) ?_
  have k0 : (0 : Int) ≤ k := by omega
  have k1 : (k : Int) < l.length := by omega
  have hc := cell_at hk
  simp only [e, k0, k1, hc, cellD, aset, lay, wk4, wk3, wk, iaddrV_map, seval]
  refine ⟨by rfl, ?_⟩
  rw [hB]
  exact KWk_sets 2 (l.set k _) 0 _ (by simp) (by rw [List.map_set]; rfl) ⟨rfl, rfl⟩
end Go.Proofs.YtemjlopoffjmpaaGreat.Abs
set_option linter.unusedSimpArgs false
set_option linter.unusedVariables false
namespace Go.Proofs.YtemjlopoffjmpaaGreat.Abs
open Go Go.Proofs
def notA (i : Int) (d : Dset) : Bool := !decide (d.id = i)
def hgB (l : List Dset) (i : Int) : Bool := l.any fun d => decide (d.origin = i)
theorem take_filter (p : Dset → Bool) (l : List Dset) (k : Nat) (h : k < l.length) : (l.take (k + 1)).filter p = (l.take k).filter p ++ if p (l.getD k default) then [l.getD k default] else [] := by
 rw [List.take_add_one, List.getElem?_eq_getElem h, List.filter_append]
 simp only [List.getD_eq_getElem?_getD, List.getElem?_eq_getElem h, Option.getD_some, Option.toList_some, List.filter_cons, List.filter_nil]
theorem hgB_take (l : List Dset) (i : Int) (k : Nat) (h : k < l.length) : hgB (l.take (k + 1)) i = (hgB (l.take k) i || decide ((l.getD k default).origin = i)) := by
 unfold hgB
 rw [List.take_add_one, List.getElem?_eq_getElem h, List.any_append]
 simp only [List.getD_eq_getElem?_getD, List.getElem?_eq_getElem h, Option.getD_some, Option.toList_some, List.any_cons, List.any_nil, Bool.or_false]
def destR (l : List Dset) (i : Int) : List Dset × Int := match getA l i with
 | none => (l, 2)
 | some d => if hgB l i = true ∨ (d.kind = 1 ∧ livesA l = 1) then (l, 10) else (l.filter (notA i), 0)
theorem rdestroy0 (l : List Dset) (hl : Short l) (i : Int) : C Tryz.prog 75 [asets l, .int .i64 i] [] (fun y H' => y = outA (destR l i) ∧ H' = []) := by
 have hl1 := hl.1
 refine C_body' d75 rfl (WT_ok ?_)
 delta c75 I0 I1 I2 I3 I4 I5 I6 I7 I8 I9 KI
 simp only [lay, wk3, wk, iaddrV_map, seval]
 refine CT_ok (rgetL l hl1 i _) ?_
 rintro _ _ ⟨rfl, rfl⟩
 cases hg : getA l i with
 | none =>
   have hA : destR l i = (l, 2) := by unfold destR; rw [hg]
   rw [hA]
   simp only [getV, lay, wk3, wk, iaddrV_map, seval]
   exact KWk_bare (by simp [bare, bareL, asets]) ⟨rfl, rfl⟩
 | some d =>
 have hB : destR l i = if hgB l i = true ∨ (d.kind = 1 ∧ livesA l = 1) then (l, 10) else (l.filter (notA i), 0) := by unfold destR; rw [hg]
 simp only [getV, cellD, aset, lay, wk3, wk, iaddrV_map, seval]
 refine WT_loop (W_wk (fr' := [asets l, .int .i64 i, .top, .top, .emp, .int .i64 0, .ptr 0 0 0 1, .bool true, .int .i64 0, .bool false, .own 1 5 0 0 0, .int .i64 0] ++ List.replicate 59 .top) (H' := [some [cellD d], some []]) ((Wk_empAt 10 5 rfl).trans (Wk_tops ?_)) (W_loop (fun n fr H' => ∃ x : Nat, x ≤ l.length ∧ n = l.length - x ∧ H' = [some [cellD d], some (((l.take x).filter (notA i)).map cellD)] ∧
  fr = [asets l, .int .i64 i, .top, .top, .emp, .int .i64 0, .ptr 0 0 0 1, .bool true, .int .i64 (livesA (l.take x)), .bool (hgB (l.take x) i), .own 1 5 0 ((l.take x).filter (notA i)).length ((l.take x).filter (notA i)).length, .int .i64 x] ++ List.replicate 59 .top) l.length ⟨0, by omega, rfl, rfl, rfl⟩ ?_))
 ·simp only [asets, List.replicate_succ, List.replicate_zero, List.cons_append, List.nil_append, List.set_cons_succ, List.set_cons_zero, List.length_cons, List.length_nil, Nat.zero_add, Tops_top, Tops_same, Tops_nil]
 rintro n fr H' ⟨x, hx, rfl, rfl, rfl⟩
 refine WT_ok ?_
 simp only [asets, lay, wk4, wk3, wk, iaddrV_map, seval]
 refine guard_both ?_ ?_ <;> intro h <;> simp only [hy] at h
 ·have hx2 : x < l.length := by omega
  have w2 : IntKind.i64.wrap ((x : Int) + 1) = (x : Int) + 1 := IntWalk.i64_in _ (by omega)
  have h0 : (0 : Int) ≤ x := by omega
  have e5 : (pdset (l.getD x default)).length = 5 := rfl
  have ht := livesA_take l x hx2
  have hu := hgB_take l i x hx2
  have hf := take_filter (notA i) l x hx2
  have hle := livesA_le (l.take x)
  have hfl := List.length_filter_le (notA i) (l.take x)
  have hle2 : (l.take x).length ≤ l.length := by simp; omega
  have w3 : IntKind.i64.wrap ((livesA (l.take x) : Int) + 1) = ((livesA (l.take x) + 1 : Nat) : Int) := by rw [IntWalk.i64_in _ (by omega)]; omega
  simp only [h, h0, e5, iaddr_dset, pdset, lay, wk4, wk3, wk, iaddrV_map, seval]
  have ec : ∀ p : notA i (l.getD x default) = true, ((l.take (x + 1)).filter (notA i)).map cellD = ((l.take x).filter (notA i)).map cellD ++ [cellD (l.getD x default)] := fun p => by rw [hf, if_pos p, List.map_append]; rfl
  have en : ∀ p : ¬ notA i (l.getD x default) = true, (l.take (x + 1)).filter (notA i) = (l.take x).filter (notA i) := fun p => by rw [hf, if_neg p, List.append_nil]
  by_cases c1 : (l.getD x default).kind = 1
  ·rw [if_pos c1] at ht
   cases hb : hgB (l.take x) i
   ·rw [hb] at hu
    by_cases c2 : (l.getD x default).origin = i
    ·skip
     by_cases c3 : (l.getD x default).id = i
     ·have hno : ¬ notA i (l.getD x default) = true := by unfold notA; rw [c3]; simp
      rw [en hno] at hf
      simp only [h, h0, c1, hb, c3, w2, w3, e5, iaddr_dset, pdset, cellD, aset, c2, lay, wk4, wk3, wk, iaddrV_map, seval]
      refine QLoop_wk (n' := l.length - (x + 1)) (by omega) ⟨x + 1, by omega, rfl, (by rw [en hno]), rfl⟩ (Wk_obj2 (renO_one _ d) (renO_cells _ ((l.take x).filter (notA i))) ?_)
      simp only [ht, hu, en hno, c2, renL, ren, asets, upTo, show (0 : Nat) < 2 by omega, show (1 : Nat) < 2 by omega, if_true, tq, List.length_append, List.length_cons, List.length_nil, Nat.zero_add, Bool.or_true, Bool.true_or, Bool.or_false, Bool.false_or, decide_true, decide_false]
     ·have hno : notA i (l.getD x default) = true := by unfold notA; rw [decide_eq_false c3]; rfl
      have ec2 := ec hno
      simp only [cellD, aset, c1, c2] at ec2
      simp only [h, h0, c1, hb, c3, w2, w3, e5, iaddr_dset, pdset, cellD, aset, c2, lay, wk4, wk3, wk, iaddrV_map, seval]
      refine ⟨⟨by omega, by omega⟩, ?_⟩
      refine QLoop_wk (n' := l.length - (x + 1)) (by omega) ⟨x + 1, by omega, rfl, (by rw [ec2]), rfl⟩ (Wk_obj2 (renO_one _ d) (by have := renO_cells (upTo 2) ((l.take (x + 1)).filter (notA i)); rw [ec2] at this; exact this) ?_)
      rw [if_pos hno] at hf
      simp only [ht, hu, hf, c2, renL, ren, asets, upTo, show (0 : Nat) < 2 by omega, show (1 : Nat) < 2 by omega, if_true, tq, List.length_append, List.length_cons, List.length_nil, Nat.zero_add, Bool.or_true, Bool.true_or, Bool.or_false, Bool.false_or, decide_true, decide_false]
    ·skip
     by_cases c3 : (l.getD x default).id = i
     ·have hno : ¬ notA i (l.getD x default) = true := by unfold notA; rw [c3]; simp
      rw [en hno] at hf
      simp only [h, h0, c1, hb, c3, w2, w3, e5, iaddr_dset, pdset, cellD, aset, c2, lay, wk4, wk3, wk, iaddrV_map, seval]
      refine QLoop_wk (n' := l.length - (x + 1)) (by omega) ⟨x + 1, by omega, rfl, (by rw [en hno]), rfl⟩ (Wk_obj2 (renO_one _ d) (renO_cells _ ((l.take x).filter (notA i))) ?_)
      simp only [ht, hu, en hno, c2, renL, ren, asets, upTo, show (0 : Nat) < 2 by omega, show (1 : Nat) < 2 by omega, if_true, tq, List.length_append, List.length_cons, List.length_nil, Nat.zero_add, Bool.or_true, Bool.true_or, Bool.or_false, Bool.false_or, decide_true, decide_false]
     ·have hno : notA i (l.getD x default) = true := by unfold notA; rw [decide_eq_false c3]; rfl
      have ec2 := ec hno
      simp only [cellD, aset, c1, c2] at ec2
      simp only [h, h0, c1, hb, c3, w2, w3, e5, iaddr_dset, pdset, cellD, aset, c2, lay, wk4, wk3, wk, iaddrV_map, seval]
      refine ⟨⟨by omega, by omega⟩, ?_⟩
      refine QLoop_wk (n' := l.length - (x + 1)) (by omega) ⟨x + 1, by omega, rfl, (by rw [ec2]), rfl⟩ (Wk_obj2 (renO_one _ d) (by have := renO_cells (upTo 2) ((l.take (x + 1)).filter (notA i)); rw [ec2] at this; exact this) ?_)
      rw [if_pos hno] at hf
      simp only [ht, hu, hf, c2, renL, ren, asets, upTo, show (0 : Nat) < 2 by omega, show (1 : Nat) < 2 by omega, if_true, tq, List.length_append, List.length_cons, List.length_nil, Nat.zero_add, Bool.or_true, Bool.true_or, Bool.or_false, Bool.false_or, decide_true, decide_false]
   ·rw [hb] at hu
    by_cases c3 : (l.getD x default).id = i
    ·have hno : ¬ notA i (l.getD x default) = true := by unfold notA; rw [c3]; simp
     rw [en hno] at hf
     simp only [h, h0, c1, hb, c3, w2, w3, e5, iaddr_dset, pdset, cellD, aset, lay, wk4, wk3, wk, iaddrV_map, seval]
     refine QLoop_wk (n' := l.length - (x + 1)) (by omega) ⟨x + 1, by omega, rfl, (by rw [en hno]), rfl⟩ (Wk_obj2 (renO_one _ d) (renO_cells _ ((l.take x).filter (notA i))) ?_)
     simp only [ht, hu, en hno, renL, ren, asets, upTo, show (0 : Nat) < 2 by omega, show (1 : Nat) < 2 by omega, if_true, tq, List.length_append, List.length_cons, List.length_nil, Nat.zero_add, Bool.or_true, Bool.true_or, Bool.or_false, Bool.false_or, decide_true, decide_false]
    ·have hno : notA i (l.getD x default) = true := by unfold notA; rw [decide_eq_false c3]; rfl
     have ec2 := ec hno
     simp only [cellD, aset, c1] at ec2
     simp only [h, h0, c1, hb, c3, w2, w3, e5, iaddr_dset, pdset, cellD, aset, lay, wk4, wk3, wk, iaddrV_map, seval]
     refine ⟨⟨by omega, by omega⟩, ?_⟩
     refine QLoop_wk (n' := l.length - (x + 1)) (by omega) ⟨x + 1, by omega, rfl, (by rw [ec2]), rfl⟩ (Wk_obj2 (renO_one _ d) (by have := renO_cells (upTo 2) ((l.take (x + 1)).filter (notA i)); rw [ec2] at this; exact this) ?_)
     rw [if_pos hno] at hf
     simp only [ht, hu, hf, renL, ren, asets, upTo, show (0 : Nat) < 2 by omega, show (1 : Nat) < 2 by omega, if_true, tq, List.length_append, List.length_cons, List.length_nil, Nat.zero_add, Bool.or_true, Bool.true_or, Bool.or_false, Bool.false_or, decide_true, decide_false]
  ·replace ht : livesA (l.take (x + 1)) = livesA (l.take x) := by rw [ht, if_neg c1]; rfl
   cases hb : hgB (l.take x) i
   ·rw [hb] at hu
    by_cases c2 : (l.getD x default).origin = i
    ·skip
     by_cases c3 : (l.getD x default).id = i
     ·have hno : ¬ notA i (l.getD x default) = true := by unfold notA; rw [c3]; simp
      rw [en hno] at hf
      simp only [h, h0, c1, hb, c3, w2, w3, e5, iaddr_dset, pdset, cellD, aset, c2, lay, wk4, wk3, wk, iaddrV_map, seval]
      refine QLoop_wk (n' := l.length - (x + 1)) (by omega) ⟨x + 1, by omega, rfl, (by rw [en hno]), rfl⟩ (Wk_obj2 (renO_one _ d) (renO_cells _ ((l.take x).filter (notA i))) ?_)
      simp only [ht, hu, en hno, c2, renL, ren, asets, upTo, show (0 : Nat) < 2 by omega, show (1 : Nat) < 2 by omega, if_true, tq, List.length_append, List.length_cons, List.length_nil, Nat.zero_add, Bool.or_true, Bool.true_or, Bool.or_false, Bool.false_or, decide_true, decide_false]
     ·have hno : notA i (l.getD x default) = true := by unfold notA; rw [decide_eq_false c3]; rfl
      have ec2 := ec hno
      simp only [cellD, aset, c1, c2] at ec2
      simp only [h, h0, c1, hb, c3, w2, w3, e5, iaddr_dset, pdset, cellD, aset, c2, lay, wk4, wk3, wk, iaddrV_map, seval]
      refine ⟨⟨by omega, by omega⟩, ?_⟩
      refine QLoop_wk (n' := l.length - (x + 1)) (by omega) ⟨x + 1, by omega, rfl, (by rw [ec2]), rfl⟩ (Wk_obj2 (renO_one _ d) (by have := renO_cells (upTo 2) ((l.take (x + 1)).filter (notA i)); rw [ec2] at this; exact this) ?_)
      rw [if_pos hno] at hf
      simp only [ht, hu, hf, c2, renL, ren, asets, upTo, show (0 : Nat) < 2 by omega, show (1 : Nat) < 2 by omega, if_true, tq, List.length_append, List.length_cons, List.length_nil, Nat.zero_add, Bool.or_true, Bool.true_or, Bool.or_false, Bool.false_or, decide_true, decide_false]
    ·skip
     by_cases c3 : (l.getD x default).id = i
     ·have hno : ¬ notA i (l.getD x default) = true := by unfold notA; rw [c3]; simp
      rw [en hno] at hf
      simp only [h, h0, c1, hb, c3, w2, w3, e5, iaddr_dset, pdset, cellD, aset, c2, lay, wk4, wk3, wk, iaddrV_map, seval]
      refine QLoop_wk (n' := l.length - (x + 1)) (by omega) ⟨x + 1, by omega, rfl, (by rw [en hno]), rfl⟩ (Wk_obj2 (renO_one _ d) (renO_cells _ ((l.take x).filter (notA i))) ?_)
      simp only [ht, hu, en hno, c2, renL, ren, asets, upTo, show (0 : Nat) < 2 by omega, show (1 : Nat) < 2 by omega, if_true, tq, List.length_append, List.length_cons, List.length_nil, Nat.zero_add, Bool.or_true, Bool.true_or, Bool.or_false, Bool.false_or, decide_true, decide_false]
     ·have hno : notA i (l.getD x default) = true := by unfold notA; rw [decide_eq_false c3]; rfl
      have ec2 := ec hno
      simp only [cellD, aset, c1, c2] at ec2
      simp only [h, h0, c1, hb, c3, w2, w3, e5, iaddr_dset, pdset, cellD, aset, c2, lay, wk4, wk3, wk, iaddrV_map, seval]
      refine ⟨⟨by omega, by omega⟩, ?_⟩
      refine QLoop_wk (n' := l.length - (x + 1)) (by omega) ⟨x + 1, by omega, rfl, (by rw [ec2]), rfl⟩ (Wk_obj2 (renO_one _ d) (by have := renO_cells (upTo 2) ((l.take (x + 1)).filter (notA i)); rw [ec2] at this; exact this) ?_)
      rw [if_pos hno] at hf
      simp only [ht, hu, hf, c2, renL, ren, asets, upTo, show (0 : Nat) < 2 by omega, show (1 : Nat) < 2 by omega, if_true, tq, List.length_append, List.length_cons, List.length_nil, Nat.zero_add, Bool.or_true, Bool.true_or, Bool.or_false, Bool.false_or, decide_true, decide_false]
   ·rw [hb] at hu
    by_cases c3 : (l.getD x default).id = i
    ·have hno : ¬ notA i (l.getD x default) = true := by unfold notA; rw [c3]; simp
     rw [en hno] at hf
     simp only [h, h0, c1, hb, c3, w2, w3, e5, iaddr_dset, pdset, cellD, aset, lay, wk4, wk3, wk, iaddrV_map, seval]
     refine QLoop_wk (n' := l.length - (x + 1)) (by omega) ⟨x + 1, by omega, rfl, (by rw [en hno]), rfl⟩ (Wk_obj2 (renO_one _ d) (renO_cells _ ((l.take x).filter (notA i))) ?_)
     simp only [ht, hu, en hno, renL, ren, asets, upTo, show (0 : Nat) < 2 by omega, show (1 : Nat) < 2 by omega, if_true, tq, List.length_append, List.length_cons, List.length_nil, Nat.zero_add, Bool.or_true, Bool.true_or, Bool.or_false, Bool.false_or, decide_true, decide_false]
    ·have hno : notA i (l.getD x default) = true := by unfold notA; rw [decide_eq_false c3]; rfl
     have ec2 := ec hno
     simp only [cellD, aset, c1] at ec2
     simp only [h, h0, c1, hb, c3, w2, w3, e5, iaddr_dset, pdset, cellD, aset, lay, wk4, wk3, wk, iaddrV_map, seval]
     refine ⟨⟨by omega, by omega⟩, ?_⟩
     refine QLoop_wk (n' := l.length - (x + 1)) (by omega) ⟨x + 1, by omega, rfl, (by rw [ec2]), rfl⟩ (Wk_obj2 (renO_one _ d) (by have := renO_cells (upTo 2) ((l.take (x + 1)).filter (notA i)); rw [ec2] at this; exact this) ?_)
     rw [if_pos hno] at hf
     simp only [ht, hu, hf, renL, ren, asets, upTo, show (0 : Nat) < 2 by omega, show (1 : Nat) < 2 by omega, if_true, tq, List.length_append, List.length_cons, List.length_nil, Nat.zero_add, Bool.or_true, Bool.true_or, Bool.or_false, Bool.false_or, decide_true, decide_false]
 ·have : x = l.length := by omega
  subst this
  have hl2 : l.take l.length = l := List.take_length
  have fin : ∀ hne : ¬ (hgB l i = true ∨ (d.kind = 1 ∧ livesA l = 1)), KWk 0 (fun y H' => y = outA (destR l i) ∧ H' = []) (.tuple [.own 1 5 0 (l.filter (notA i)).length (l.filter (notA i)).length, .int .i64 0]) [some [cellD d], some ((l.filter (notA i)).map cellD)] := fun hne => by
   rw [if_neg hne] at hB
   rw [hB]
   exact KWk_sets 1 (l.filter (notA i)) 0 _ rfl rfl ⟨rfl, rfl⟩
  simp only [cellD, aset] at fin
  simp only [h, hl2, cellD, aset, lay, wk4, wk3, wk, iaddrV_map, seval]
  cases hb : hgB l i
  ·by_cases c1 : d.kind = 1
   ·by_cases c2 : (livesA l : Int) = 1
    ·rw [if_pos (.inr ⟨c1, by omega⟩)] at hB
     simp only [hb, c1, c2, hB, lay, wk4, wk3, wk, iaddrV_map, seval]
     exact KWk_bare (by simp [bare, bareL]) ⟨rfl, rfl⟩
    ·replace fin := fin (by rw [hb]; intro hh; rcases hh with hh | hh; cases hh; omega)
     rw [c1] at fin
     simp only [hb, c1, c2, lay, wk4, wk3, wk, iaddrV_map, seval]
     exact fin
   ·replace fin := fin (by rw [hb]; intro hh; rcases hh with hh | hh; cases hh; exact c1 hh.1)
    simp only [hb, c1, lay, wk4, wk3, wk, iaddrV_map, seval]
    exact fin
  ·rw [if_pos (.inl hb)] at hB
   simp only [hb, hB, lay, wk4, wk3, wk, iaddrV_map, seval]
   exact KWk_bare (by simp [bare, bareL]) ⟨rfl, rfl⟩
end Go.Proofs.YtemjlopoffjmpaaGreat.Abs
set_option linter.unusedSimpArgs false
set_option linter.unusedVariables false
namespace Go.Proofs.YtemjlopoffjmpaaGreat.Abs
open Go Go.Proofs
def proR (i sid oid oo : Int) (y : Dset) : Dset :=
 reorig y (if y.id = oid then sid else if y.id = i then oo else if y.kind = 2 ∧ y.origin = oid ∧ y.id ≤ sid then i else y.origin)
theorem proR_eq {c o s x : Dset} (hx : x.id = c.id → x.kind = 1) (hx2 : x.id = o.id → x.kind = 1) (hne : c.id ≠ o.id) (hso : s.origin = o.id) : proF c o s x = proR c.id s.id o.id o.origin x := by
 unfold proF proR turnA
 rw [hso]
 by_cases h1 : x.id = c.id
 ·rw [if_pos h1, if_neg (fun e => hne (h1.symm.trans e)), if_pos h1]
 ·rw [if_neg h1]
  by_cases h2 : x.id = o.id
  ·rw [if_pos h2, if_pos h2]
  ·rw [if_neg h2, if_neg h2, if_neg h1]
   split
   ·rfl
   ·rfl
theorem promote_facts {l : List Dset} (h : MayL l) (i : Int) : (promoteA l i = (l, 2) ∧ getA l i = none) ∨ ∃ c, getA l i = some c ∧ (((c.kind ≠ 1 ∨ c.origin = 0) ∧ promoteA l i = (l, 1)) ∨
 (c.kind = 1 ∧ c.origin ≠ 0 ∧ ∃ s o, getA l c.origin = some s ∧ getA l s.origin = some o ∧ promoteA l i = (l.map (proR i s.id o.id o.origin), 0))) := by
 rcases find_of (l := l) (i := i) with ⟨e, _⟩ | ⟨k, e, hk, hid, _⟩
 ·exact .inl ⟨by unfold promoteA; rw [if_pos (by omega)], getA_no e⟩
 refine .inr ⟨_, getA_of e, ?_⟩
 have hP : promoteA l i = if (l.getD k default).kind ≠ 1 ∨ (l.getD k default).origin = 0 then (l, 1) else if findA l (l.getD k default).origin < 0 ∨ isA l (l.getD (findA l (l.getD k default).origin).toNat default).origin 1 = false then (l, 1) else (promoted l i k (findA l (l.getD k default).origin).toNat (findA l (l.getD (findA l (l.getD k default).origin).toNat default).origin).toNat, 0) := by
  unfold promoteA
  rw [if_neg (by omega)]
  simp only [e, Int.toNat_natCast]
 by_cases h2 : (l.getD k default).kind ≠ 1 ∨ (l.getD k default).origin = 0
 ·exact .inl ⟨h2, by rw [hP, if_pos h2]⟩
 rw [if_neg h2] at hP
 have hk1 : (l.getD k default).kind = 1 := Classical.byContradiction fun hh => h2 (.inl hh)
 have hk0 : (l.getD k default).origin ≠ 0 := fun hh => h2 (.inr hh)
 refine .inr ⟨hk1, hk0, ?_⟩
 obtain ⟨x, hx, hxi, hxk⟩ : ∃ o ∈ l, o.id = (l.getD k default).origin ∧ o.kind = 2 := by
  rcases (h.each _ (dgetD_mem hk)).live hk1 with h5 | h5
  ·exact absurd h5 hk0
  ·exact h5
 obtain ⟨_, y, hy, hyi, hyk⟩ := (h.each _ hx).snap hxk
 have gx : getA l (l.getD k default).origin = some x := by rw [← hxi]; exact h.find hx
 have gy : getA l x.origin = some y := by rw [← hyi]; exact h.find hy
 refine ⟨x, y, gx, gy, ?_⟩
 rcases find_of (l := l) (i := (l.getD k default).origin) with ⟨e', _⟩ | ⟨m, e', hm, hid', _⟩
 ·rw [getA_no e'] at gx; cases gx
 rw [getA_of e'] at gx
 have gx' := Option.some.inj gx
 rw [e', Int.toNat_natCast, gx'] at hP
 rcases find_of (l := l) (i := x.origin) with ⟨e2, _⟩ | ⟨o, e2, ho, hoi, _⟩
 ·rw [getA_no e2] at gy; cases gy
 rw [getA_of e2] at gy
 have gy' := Option.some.inj gy
 have h3 : isA l x.origin 1 = true := by
  unfold isA
  rw [e2, Int.toNat_natCast, gy', hyk]
  simp
 rw [e2, Int.toNat_natCast, if_neg (fun hh => hh.elim (fun hh => by omega) (fun hh => by rw [h3] at hh; cases hh))] at hP
 have hne : k ≠ o := by
  intro hko
  obtain ⟨r, hr⟩ := h.tree
  have r1 := hr _ hx _ hy hyi
  have r2 := hr _ (dgetD_mem hk) _ hx hxi
  rw [← gy', ← hko] at r1
  omega
 have hnid : (l.getD k default).id ≠ y.id := by
  intro hh
  rw [← gy'] at hh
  exact hne (h.inj hk ho hh)
 have hpm := promoted_map (ks := m) h hk ho hne hk1 (by rw [gy']; exact hyk)
 rw [hid, gx', gy'] at hpm
 rw [hP, hpm]
 congr 1
 apply List.map_congr_left
 intro z hz
 rw [← hid]
 refine proR_eq (fun e => ?_) (fun e => ?_) hnid hyi.symm
 ·rw [h.inj' hz (dgetD_mem hk) e]; exact hk1
 ·rw [h.inj' hz hy e]; exact hyk
end Go.Proofs.YtemjlopoffjmpaaGreat.Abs
set_option linter.unusedSimpArgs false
set_option linter.unusedVariables false
namespace Go.Proofs.YtemjlopoffjmpaaGreat.Abs
open Go Go.Proofs
theorem row_at {L : List (List AV)} {x : Nat} (h : x < L.length) (r : List AV) : (L.set x r)[x]? = some r := by rw [List.getElem?_set, if_pos rfl, if_pos h]
theorem row_two (L : List (List AV)) (x : Nat) (a b : List AV) : (L.set x a).set x b = L.set x b := by rw [List.set_set]
set_option maxHeartbeats 4000000 in
theorem rpromote0 (l : List Dset) (hM : MayL l) (i : Int) : C Tryz.prog 73 [asets l, .int .i64 i] [] (fun y H' => y = outA (promoteA l i) ∧ H' = []) := by
 have hl := hM.short
 have hl1 := hl.1
 have hp := promote_facts hM i
 refine C_body' d73 rfl (WT_ok ?_)
 delta c73 I0 I1 I2 I3 I4 I5 I6 I7 I8 I9 KI
 simp only [lay, wk3, wk, iaddrV_map, Nat.reduceAdd, Nat.reduceSub, Nat.reduceMul, Nat.reduceLeDiff, Nat.reduceEqDiff, Nat.reduceBEq, Int.reduceLE, Int.reduceLT, Int.reduceEq, Int.reduceNe, Int.reduceAdd, Int.reduceSub, Int.reduceToNat, Int.reduceNeg, ↓reduceIte, reduceCtorEq]
 refine CT_ok (rgetL l hl1 i _) ?_
 rintro _ _ ⟨rfl, rfl⟩
 rcases hp with ⟨hA, hg⟩ | ⟨c, hg, ⟨hc, hA⟩ | ⟨g1, g2, s, o, gs, go, hA⟩⟩
 ·rw [hg, hA]
  simp only [getV, lay, wk3, wk, iaddrV_map, Nat.reduceAdd, Nat.reduceSub, Nat.reduceMul, Nat.reduceLeDiff, Nat.reduceEqDiff, Nat.reduceBEq, Int.reduceLE, Int.reduceLT, Int.reduceEq, Int.reduceNe, Int.reduceAdd, Int.reduceSub, Int.reduceToNat, Int.reduceNeg, ↓reduceIte, reduceCtorEq]
  exact KWk_bare (by simp [bare, bareL, asets]) ⟨rfl, rfl⟩
 ·rw [hg, hA]
  by_cases g1 : c.kind = 1
  ·have g2 : c.origin = 0 := by rcases hc with hc | hc; exact absurd g1 hc; exact hc
   simp only [getV, cellD, aset, g1, g2, lay, wk3, wk, iaddrV_map, Nat.reduceAdd, Nat.reduceSub, Nat.reduceMul, Nat.reduceLeDiff, Nat.reduceEqDiff, Nat.reduceBEq, Int.reduceLE, Int.reduceLT, Int.reduceEq, Int.reduceNe, Int.reduceAdd, Int.reduceSub, Int.reduceToNat, Int.reduceNeg, ↓reduceIte, reduceCtorEq]
   exact KWk_bare (by simp [bare, bareL, asets]) ⟨rfl, rfl⟩
  ·simp only [getV, cellD, aset, g1, lay, wk3, wk, iaddrV_map, Nat.reduceAdd, Nat.reduceSub, Nat.reduceMul, Nat.reduceLeDiff, Nat.reduceEqDiff, Nat.reduceBEq, Int.reduceLE, Int.reduceLT, Int.reduceEq, Int.reduceNe, Int.reduceAdd, Int.reduceSub, Int.reduceToNat, Int.reduceNeg, ↓reduceIte, reduceCtorEq]
   exact KWk_bare (by simp [bare, bareL, asets]) ⟨rfl, rfl⟩
 rw [hg]
 simp only [getV, cellD, aset, g1, g2, lay, wk3, wk, iaddrV_map, Nat.reduceAdd, Nat.reduceSub, Nat.reduceMul, Nat.reduceLeDiff, Nat.reduceEqDiff, Nat.reduceBEq, Int.reduceLE, Int.reduceLT, Int.reduceEq, Int.reduceNe, Int.reduceAdd, Int.reduceSub, Int.reduceToNat, Int.reduceNeg, ↓reduceIte, reduceCtorEq]
 refine CT_ok (rgetL l hl1 c.origin _) ?_
 rintro _ _ ⟨rfl, rfl⟩
 rw [gs]
 simp only [getV, cellD, aset, lay, wk3, wk, iaddrV_map, Nat.reduceAdd, Nat.reduceSub, Nat.reduceMul, Nat.reduceLeDiff, Nat.reduceEqDiff, Nat.reduceBEq, Int.reduceLE, Int.reduceLT, Int.reduceEq, Int.reduceNe, Int.reduceAdd, Int.reduceSub, Int.reduceToNat, Int.reduceNeg, ↓reduceIte, reduceCtorEq]
 refine CT_ok (rgetL l hl1 s.origin _) ?_
 rintro _ _ ⟨rfl, rfl⟩
 rw [go]
 simp only [getV, cellD, aset, asets, cellsD, rows5D, lay, wk3, wk, iaddrV_map, Nat.reduceAdd, Nat.reduceSub, Nat.reduceMul, Nat.reduceLeDiff, Nat.reduceEqDiff, Nat.reduceBEq, Int.reduceLE, Int.reduceLT, Int.reduceEq, Int.reduceNe, Int.reduceAdd, Int.reduceSub, Int.reduceToNat, Int.reduceNeg, ↓reduceIte, reduceCtorEq]
 refine ⟨⟨by omega, by omega⟩, ?_⟩
 refine WT_loop (W_wk (fr' := [asets l, .int .i64 i, .top, .top, .emp, .int .i64 0, .ptr 0 0 0 1, .bool true, .ptr 1 0 0 1, .bool true, .ptr 2 0 0 1, .bool true, .own 3 5 0 l.length l.length, .int .i64 0] ++ List.replicate 100 .top) (Wk_tops ?_) (W_loop (fun n fr H' => ∃ x : Nat, x ≤ l.length ∧ n = l.length - x ∧ H' = [some [cellD ⟨c.id, 1, c.origin, c.quota, c.files⟩], some [cellD s], some [cellD o], some ((someA (proR i s.id o.id o.origin) l x).map cellD)] ∧
  fr = [asets l, .int .i64 i, .top, .top, .emp, .int .i64 0, .ptr 0 0 0 1, .bool true, .ptr 1 0 0 1, .bool true, .ptr 2 0 0 1, .bool true, .own 3 5 0 l.length l.length, .int .i64 x] ++ List.replicate 100 .top) l.length ⟨0, by omega, rfl, by rw [someA_zero]; rfl, rfl⟩ ?_))
 ·simp only [asets, tp]
 rintro n fr H' ⟨x, hx, rfl, rfl, rfl⟩
 refine WT_ok ?_
 have hsl := someA_len (proR i s.id o.id o.origin) l x (by omega)
 simp only [asets, hsl, cellD, aset, lay, wk4, wk3, wk, iaddrV_map, Nat.reduceAdd, Nat.reduceSub, Nat.reduceMul, Nat.reduceLeDiff, Nat.reduceEqDiff, Nat.reduceBEq, Int.reduceLE, Int.reduceLT, Int.reduceEq, Int.reduceNe, Int.reduceAdd, Int.reduceSub, Int.reduceToNat, Int.reduceNeg, ↓reduceIte, reduceCtorEq]
 refine guard_both ?_ ?_ <;> intro h <;> simp only [hy] at h
 ·have hx2 : x < l.length := by omega
  have w2 : IntKind.i64.wrap ((x : Int) + 1) = (x : Int) + 1 := IntWalk.i64_in _ (by omega)
  have h0 : (0 : Int) ≤ x := by omega
  have hcj := cell_at (l := someA (proR i s.id o.id o.origin) l x) (k := x) (by omega)
  have hgj : (someA (proR i s.id o.id o.origin) l x).getD x default = l.getD x default := by rw [someA_getD _ _ _ _ (by omega), if_neg (by omega)]
  have hsu := someA_succ (proR i s.id o.id o.origin) l x hx2
  have hsw := set_cellD (someA (proR i s.id o.id o.origin) l x) x (proR i s.id o.id o.origin (l.getD x default))
  have hsame := cell_same (l := someA (proR i s.id o.id o.origin) l x) (k := x) (by omega)
  rw [hsu] at hsw
  rw [hgj] at hcj hsame
  generalize someA (proR i s.id o.id o.origin) l x = lj at *
  generalize hlj' : someA (proR i s.id o.id o.origin) l (x + 1) = lj' at hsu hsw
  generalize l.getD x default = y at *
  have hrow : ∀ r, ((lj.map cellD).set x r)[x]? = some r := fun r => row_at (by rw [List.length_map]; omega) r
  have hlen : (lj.map cellD).length = l.length := by rw [List.length_map]; omega
  have hlen2 : ∀ r, ((lj.map cellD).set x r).length = l.length := fun r => by rw [List.length_set]; exact hlen
  unfold proR reorig at hsw
  simp only [cellD, aset] at hcj hsw hsame
  rcases Classical.propComplete (y.kind = 2) with p1 | p1
  ·rcases Classical.propComplete (y.origin = o.id) with p2 | p2
   ·rcases Classical.propComplete (y.id ≤ s.id) with p3 | p3
    ·skip
     rcases Classical.propComplete (y.id = i) with p4 | p4 <;> rcases Classical.propComplete (y.id = o.id) with p5 | p5
     all_goals
      simp only [p1, p2, p3, p4, p5, and_true, and_false, and_self, false_and, if_true, if_false] at hsw
      simp only [lay, wk4, wk3, wk, iaddrV_map, Nat.reduceAdd, Nat.reduceSub, Nat.reduceMul, Nat.reduceLeDiff, Nat.reduceEqDiff, Nat.reduceBEq, Int.reduceLE, Int.reduceLT, Int.reduceEq, Int.reduceNe, Int.reduceAdd, Int.reduceSub, Int.reduceToNat, Int.reduceNeg, ↓reduceIte, reduceCtorEq]
      refine WT_draw ?_
      simp only [p1, p2, p3, p4, p5, h, h0, hsl, hcj, hrow, row_two, w2, lay, wk4, wk3, wk, iaddrV_map, Nat.reduceAdd, Nat.reduceSub, Nat.reduceMul, Nat.reduceLeDiff, Nat.reduceEqDiff, Nat.reduceBEq, Int.reduceLE, Int.reduceLT, Int.reduceEq, Int.reduceNe, Int.reduceAdd, Int.reduceSub, Int.reduceToNat, Int.reduceNeg, ↓reduceIte, reduceCtorEq]
      refine WT_draw ?_
      simp only [p1, p2, p3, p4, p5, h, h0, hsl, hcj, hrow, row_two, w2, lay, wk4, wk3, wk, iaddrV_map, Nat.reduceAdd, Nat.reduceSub, Nat.reduceMul, Nat.reduceLeDiff, Nat.reduceEqDiff, Nat.reduceBEq, Int.reduceLE, Int.reduceLT, Int.reduceEq, Int.reduceNe, Int.reduceAdd, Int.reduceSub, Int.reduceToNat, Int.reduceNeg, ↓reduceIte, reduceCtorEq]
      refine QLoop_go (n' := l.length - (x + 1)) (by omega) ⟨x + 1, by omega, rfl, (by first | rw [hlj', ← hsw, hsame] | rw [hlj', ← hsw]), rfl⟩ ?_
      simp only [asets, tq]
    ·skip
     rcases Classical.propComplete (y.id = i) with p4 | p4 <;> rcases Classical.propComplete (y.id = o.id) with p5 | p5
     all_goals
      simp only [p1, p2, p3, p4, p5, and_true, and_false, and_self, false_and, if_true, if_false] at hsw
      simp only [lay, wk4, wk3, wk, iaddrV_map, Nat.reduceAdd, Nat.reduceSub, Nat.reduceMul, Nat.reduceLeDiff, Nat.reduceEqDiff, Nat.reduceBEq, Int.reduceLE, Int.reduceLT, Int.reduceEq, Int.reduceNe, Int.reduceAdd, Int.reduceSub, Int.reduceToNat, Int.reduceNeg, ↓reduceIte, reduceCtorEq]
      refine WT_draw ?_
      simp only [p1, p2, p3, p4, p5, h, h0, hsl, hcj, hrow, row_two, w2, lay, wk4, wk3, wk, iaddrV_map, Nat.reduceAdd, Nat.reduceSub, Nat.reduceMul, Nat.reduceLeDiff, Nat.reduceEqDiff, Nat.reduceBEq, Int.reduceLE, Int.reduceLT, Int.reduceEq, Int.reduceNe, Int.reduceAdd, Int.reduceSub, Int.reduceToNat, Int.reduceNeg, ↓reduceIte, reduceCtorEq]
      refine WT_draw ?_
      simp only [p1, p2, p3, p4, p5, h, h0, hsl, hcj, hrow, row_two, w2, lay, wk4, wk3, wk, iaddrV_map, Nat.reduceAdd, Nat.reduceSub, Nat.reduceMul, Nat.reduceLeDiff, Nat.reduceEqDiff, Nat.reduceBEq, Int.reduceLE, Int.reduceLT, Int.reduceEq, Int.reduceNe, Int.reduceAdd, Int.reduceSub, Int.reduceToNat, Int.reduceNeg, ↓reduceIte, reduceCtorEq]
      refine QLoop_go (n' := l.length - (x + 1)) (by omega) ⟨x + 1, by omega, rfl, (by first | rw [hlj', ← hsw, hsame] | rw [hlj', ← hsw]), rfl⟩ ?_
      simp only [asets, tq]
   ·skip
    rcases Classical.propComplete (y.id = i) with p4 | p4 <;> rcases Classical.propComplete (y.id = o.id) with p5 | p5
    all_goals
     simp only [p1, p2, p4, p5, and_true, and_false, and_self, false_and, if_true, if_false] at hsw
     simp only [lay, wk4, wk3, wk, iaddrV_map, Nat.reduceAdd, Nat.reduceSub, Nat.reduceMul, Nat.reduceLeDiff, Nat.reduceEqDiff, Nat.reduceBEq, Int.reduceLE, Int.reduceLT, Int.reduceEq, Int.reduceNe, Int.reduceAdd, Int.reduceSub, Int.reduceToNat, Int.reduceNeg, ↓reduceIte, reduceCtorEq]
     refine WT_draw ?_
     simp only [p1, p2, p4, p5, h, h0, hsl, hcj, hrow, row_two, w2, lay, wk4, wk3, wk, iaddrV_map, Nat.reduceAdd, Nat.reduceSub, Nat.reduceMul, Nat.reduceLeDiff, Nat.reduceEqDiff, Nat.reduceBEq, Int.reduceLE, Int.reduceLT, Int.reduceEq, Int.reduceNe, Int.reduceAdd, Int.reduceSub, Int.reduceToNat, Int.reduceNeg, ↓reduceIte, reduceCtorEq]
     refine WT_draw ?_
     simp only [p1, p2, p4, p5, h, h0, hsl, hcj, hrow, row_two, w2, lay, wk4, wk3, wk, iaddrV_map, Nat.reduceAdd, Nat.reduceSub, Nat.reduceMul, Nat.reduceLeDiff, Nat.reduceEqDiff, Nat.reduceBEq, Int.reduceLE, Int.reduceLT, Int.reduceEq, Int.reduceNe, Int.reduceAdd, Int.reduceSub, Int.reduceToNat, Int.reduceNeg, ↓reduceIte, reduceCtorEq]
     refine QLoop_go (n' := l.length - (x + 1)) (by omega) ⟨x + 1, by omega, rfl, (by first | rw [hlj', ← hsw, hsame] | rw [hlj', ← hsw]), rfl⟩ ?_
     simp only [asets, tq]
  ·skip
   rcases Classical.propComplete (y.id = i) with p4 | p4 <;> rcases Classical.propComplete (y.id = o.id) with p5 | p5
   all_goals
    simp only [p1, p4, p5, and_true, and_false, and_self, false_and, if_true, if_false] at hsw
    simp only [lay, wk4, wk3, wk, iaddrV_map, Nat.reduceAdd, Nat.reduceSub, Nat.reduceMul, Nat.reduceLeDiff, Nat.reduceEqDiff, Nat.reduceBEq, Int.reduceLE, Int.reduceLT, Int.reduceEq, Int.reduceNe, Int.reduceAdd, Int.reduceSub, Int.reduceToNat, Int.reduceNeg, ↓reduceIte, reduceCtorEq]
    refine WT_draw ?_
    simp only [p1, p4, p5, h, h0, hsl, hcj, hrow, row_two, w2, lay, wk4, wk3, wk, iaddrV_map, Nat.reduceAdd, Nat.reduceSub, Nat.reduceMul, Nat.reduceLeDiff, Nat.reduceEqDiff, Nat.reduceBEq, Int.reduceLE, Int.reduceLT, Int.reduceEq, Int.reduceNe, Int.reduceAdd, Int.reduceSub, Int.reduceToNat, Int.reduceNeg, ↓reduceIte, reduceCtorEq]
    refine WT_draw ?_
    simp only [p1, p4, p5, h, h0, hsl, hcj, hrow, row_two, w2, lay, wk4, wk3, wk, iaddrV_map, Nat.reduceAdd, Nat.reduceSub, Nat.reduceMul, Nat.reduceLeDiff, Nat.reduceEqDiff, Nat.reduceBEq, Int.reduceLE, Int.reduceLT, Int.reduceEq, Int.reduceNe, Int.reduceAdd, Int.reduceSub, Int.reduceToNat, Int.reduceNeg, ↓reduceIte, reduceCtorEq]
    refine QLoop_go (n' := l.length - (x + 1)) (by omega) ⟨x + 1, by omega, rfl, (by first | rw [hlj', ← hsw, hsame] | rw [hlj', ← hsw]), rfl⟩ ?_
    simp only [asets, tq]
 ·have : x = l.length := by omega
  subst this
  simp only [h, someA_all, lay, wk4, wk3, wk, iaddrV_map, Nat.reduceAdd, Nat.reduceSub, Nat.reduceMul, Nat.reduceLeDiff, Nat.reduceEqDiff, Nat.reduceBEq, Int.reduceLE, Int.reduceLT, Int.reduceEq, Int.reduceNe, Int.reduceAdd, Int.reduceSub, Int.reduceToNat, Int.reduceNeg, ↓reduceIte, reduceCtorEq]
  rw [hA]
  exact KWk_sets 3 (l.map (proR i s.id o.id o.origin)) 0 _ (by simp) rfl ⟨rfl, rfl⟩
end Go.Proofs.YtemjlopoffjmpaaGreat.Abs
namespace Go.Proofs.YtemjlopoffjmpaaGreat.Abs
open Go
def c70 : ACode :=
 (.seq (.reg [I1 6 (.mv (.c (.emp))), I1 7 (.mv (KI 0))])
 (.seq (.seq (.reg [I0 8 2, I1 9 (.bini .lss (.t 8) (KI 0)), I0 10 9, I5 11 10 2, I3 12 10 (.bini .gtr (.t 11) (KI 255)), I1 13 (.pick (.t 10) (.c (.bool true)) (.t 12))])
 (.cond (.t 13)
 (.seq (.reg [I0 14 0, I0 6 14, I1 7 (.mv (KI 1))])
 .ret)
 .skip))
 (.seq (.reg [I0 15 0, I0 16 1, I0 17 2, I1 18 (.call 34 []), I1 19 (.build [.int .i64 0, .int .i64 0, .int .i64 0, .int .i64 0, .emp] [(0, 1, (.t 16)), (1, 1, (KI 1)), (3, 1, (.t 17)), (4, 1, (.t 18))]), I1 20 (.call 108 [(.t 15), (.t 19)]), I8 21 20 0, I8 22 20 1, I0 6 21, I0 7 22])
 .ret)))
theorem d70 : FnD Tryz.prog 70 3 20 [.tmp 6, .tmp 7] c70 := ⟨Tryz.f70, _, Tryz.func70, by kernel_rfl, rfl, rfl, by kernel_rfl, by kernel_rfl⟩
end Go.Proofs.YtemjlopoffjmpaaGreat.Abs
namespace Go.Proofs.YtemjlopoffjmpaaGreat.Abs
open Go
def c71 : ACode :=
 (.seq (.reg [I1 6 (.mv (.c (.emp))), I1 7 (.mv (KI 0))])
 (.seq (.reg [I0 11 0, I0 12 2, I1 13 (.call 30 [(.t 11), (.t 12)]), I0 10 13, I8 14 10 0, I8 15 10 1, I1 8 (.alloc [.int .i64 0, .int .i64 0, .int .i64 0, .int .i64 0, .emp]), I9 5 8 14, I0 9 15])
 (.seq (.seq (.reg [I0 16 9, I1 17 (.un .not (.t 16))])
 (.cond (.t 17)
 (.seq (.reg [I0 18 0, I0 6 18, I1 7 (.mv (KI 2))])
 .ret)
 .skip))
 (.seq (.seq (.reg [I6 19 1 8, I7 20 19, I1 21 (.bini .eql (.t 20) (KI 2))])
 (.cond (.t 21)
 (.seq (.reg [I0 22 0, I0 6 22, I1 7 (.mv (KI 11))])
 .ret)
 .skip))
 (.seq (.reg [I0 23 0, I0 24 1, I0 25 2, I6 26 4 8, I7 27 26, I1 28 (.build [.int .i64 0, .int .i64 0, .int .i64 0, .int .i64 0, .emp] [(0, 1, (.t 24)), (1, 1, (KI 2)), (2, 1, (.t 25)), (4, 1, (.t 27))]), I1 29 (.call 108 [(.t 23), (.t 28)]), I8 30 29 0, I8 31 29 1, I0 6 30, I0 7 31])
 .ret)))))
theorem d71 : FnD Tryz.prog 71 3 29 [.tmp 6, .tmp 7] c71 := ⟨Tryz.f71, _, Tryz.func71, by kernel_rfl, rfl, rfl, by kernel_rfl, by kernel_rfl⟩
end Go.Proofs.YtemjlopoffjmpaaGreat.Abs
namespace Go.Proofs.YtemjlopoffjmpaaGreat.Abs
open Go
def c72 : ACode :=
 (.seq (.reg [I1 6 (.mv (.c (.emp))), I1 7 (.mv (KI 0))])
 (.seq (.reg [I0 11 0, I0 12 2, I1 13 (.call 30 [(.t 11), (.t 12)]), I0 10 13, I8 14 10 0, I8 15 10 1, I1 8 (.alloc [.int .i64 0, .int .i64 0, .int .i64 0, .int .i64 0, .emp]), I9 5 8 14, I0 9 15])
 (.seq (.seq (.reg [I0 16 9, I1 17 (.un .not (.t 16))])
 (.cond (.t 17)
 (.seq (.reg [I0 18 0, I0 6 18, I1 7 (.mv (KI 2))])
 .ret)
 .skip))
 (.seq (.seq (.reg [I6 19 1 8, I7 20 19, I1 21 (.bini .neq (.t 20) (KI 2))])
 (.cond (.t 21)
 (.seq (.reg [I0 22 0, I0 6 22, I1 7 (.mv (KI 1))])
 .ret)
 .skip))
 (.seq (.reg [I0 23 0, I0 24 1, I0 25 2, I6 26 4 8, I7 27 26, I1 28 (.build [.int .i64 0, .int .i64 0, .int .i64 0, .int .i64 0, .emp] [(0, 1, (.t 24)), (1, 1, (KI 1)), (2, 1, (.t 25)), (4, 1, (.t 27))]), I1 29 (.call 108 [(.t 23), (.t 28)]), I8 30 29 0, I8 31 29 1, I0 6 30, I0 7 31])
 .ret)))))
theorem d72 : FnD Tryz.prog 72 3 29 [.tmp 6, .tmp 7] c72 := ⟨Tryz.f72, _, Tryz.func72, by kernel_rfl, rfl, rfl, by kernel_rfl, by kernel_rfl⟩
end Go.Proofs.YtemjlopoffjmpaaGreat.Abs
namespace Go.Proofs.YtemjlopoffjmpaaGreat.Abs
open Go
def c108 : ACode :=
 (.seq (.reg [I1 3 (.box (.t 1)), I1 4 (.mv (.c (.emp))), I1 5 (.mv (KI 0))])
 (.seq (.seq (.dregE [[(0, I0 6 0)], [(1, I1 7 (.len false (.t 6)))], [(2, I1 8 (.bini .geq (.t 7) (KI 8)))], [(3, I0 9 8)], [(4, I3 10 9 (.faddr 0 (.t 3)))], [(5, I3 11 9 (.load false 1 (.t 10)))], [(6, I3 12 9 (.bini .lss (.t 11) (KI 1)))], [(7, I1 13 (.pick (.t 9) (.c (.bool true)) (.t 12)))], [(8, I0 14 13)], [(9, I3 15 14 (.faddr 0 (.t 3)))], [(10, I3 16 14 (.load false 1 (.t 15)))], [(11, I3 17 14 (.call 61 [(.t 16)]))], [(12, I3 18 14 (.un .not (.t 17)))], [(13, I1 19 (.pick (.t 14) (.c (.bool true)) (.t 18)))], [(14, I0 20 19)], [(15, I5 21 20 0)], [(16, I3 22 20 (.len false (.t 21)))], [(17, I3 23 20 (.bini .gtr (.t 22) (KI 0)))], [(18, I5 24 20 23)], [(19, I4 25 24 0), (20, I4 26 24 0), (21, I2 27 24 (.len false (.t 26))), (22, I2 28 24 (.bini .sub (.t 27) (KI 1))), (23, I2 29 24 (.iaddr 5 (.t 25) (.t 28))), (24, I2 30 24 (.faddr 0 (.t 29))), (25, I2 31 24 (.load false 1 (.t 30))), (26, I2 32 24 (.faddr 0 (.t 3))), (27, I2 33 24 (.load false 1 (.t 32)))], [(28, I2 34 24 (.bini .geq (.t 31) (.t 33)))], [(29, I3 35 20 (.pick (.t 24) (.t 34) (.c (.bool false))))], [(30, I1 36 (.pick (.t 20) (.c (.bool true)) (.t 35)))]]
  [[], [0], [0, 1], [0, 1, 2], [0, 1, 2, 3], [0, 1, 2, 3, 4], [0, 1, 2, 3, 4, 5], [0, 1, 2, 3, 4, 5, 6], [0, 1, 2, 3, 4, 5, 6, 7], [0, 1, 2, 3, 4, 5, 6, 7, 8], [0, 1, 2, 3, 4, 5, 6, 7, 8, 9], [0, 1, 2, 3, 4, 5, 6, 7, 8, 9, 10], [0, 1, 2, 3, 4, 5, 6, 7, 8, 9, 10, 11], [0, 1, 2, 3, 4, 5, 6, 7, 8, 9, 10, 11, 12], [0, 1, 2, 3, 4, 5, 6, 7, 8, 9, 10, 11, 12, 13], [0, 1, 2, 3, 4, 5, 6, 7, 8, 9, 10, 11, 12, 13, 14], [0, 1, 2, 3, 4, 5, 6, 7, 8, 9, 10, 11, 12, 13, 14, 15], [0, 1, 2, 3, 4, 5, 6, 7, 8, 9, 10, 11, 12, 13, 14, 15, 16], [0, 1, 2, 3, 4, 5, 6, 7, 8, 9, 10, 11, 12, 13, 14, 15, 16, 17], [0, 1, 2, 3, 4, 5, 6, 7, 8, 9, 10, 11, 12, 13, 14, 15, 16, 17, 18], [0, 1, 2, 3, 4, 5, 6, 7, 8, 9, 10, 11, 12, 13, 14, 15, 16, 17, 18], [0, 1, 2, 3, 4, 5, 6, 7, 8, 9, 10, 11, 12, 13, 14, 15, 16, 17, 18, 20], [0, 1, 2, 3, 4, 5, 6, 7, 8, 9, 10, 11, 12, 13, 14, 15, 16, 17, 18, 20, 21], [0, 1, 2, 3, 4, 5, 6, 7, 8, 9, 10, 11, 12, 13, 14, 15, 16, 17, 18, 19, 20, 21, 22], [0, 1, 2, 3, 4, 5, 6, 7, 8, 9, 10, 11, 12, 13, 14, 15, 16, 17, 18, 19, 20, 21, 22, 23], [0, 1, 2, 3, 4, 5, 6, 7, 8, 9, 10, 11, 12, 13, 14, 15, 16, 17, 18, 19, 20, 21, 22, 23, 24], [0, 1, 2, 3, 4, 5, 6, 7, 8, 9, 10, 11, 12, 13, 14, 15, 16, 17, 18], [0, 1, 2, 3, 4, 5, 6, 7, 8, 9, 10, 11, 12, 13, 14, 15, 16, 17, 18, 26], [0, 1, 2, 3, 4, 5, 6, 7, 8, 9, 10, 11, 12, 13, 14, 15, 16, 17, 18, 19, 20, 21, 22, 23, 24, 25, 26, 27], [0, 1, 2, 3, 4, 5, 6, 7, 8, 9, 10, 11, 12, 13, 14, 15, 16, 17, 18, 19, 20, 21, 22, 23, 24, 25, 26, 27, 28], [0, 1, 2, 3, 4, 5, 6, 7, 8, 9, 10, 11, 12, 13, 14, 15, 16, 17, 18, 19, 20, 21, 22, 23, 24, 25, 26, 27, 28, 29]])
 (.cond (.t 36)
 (.seq (.reg [I0 37 0, I0 4 37, I1 5 (.mv (KI 8))])
 .ret)
 .skip))
 (.seq (.dregE [[(0, I1 38 (.bslice 5 0 [.int .i64 0, .int .i64 0, .int .i64 0, .int .i64 0, .emp] [])), (1, I0 39 0), (2, I1 40 (.append 5 56 [.int .i64 0, .int .i64 0, .int .i64 0, .int .i64 0, .emp] (.t 38) (.t 39))), (3, I1 41 (.load true 5 (.t 3))), (4, I1 42 (.bslice 5 1 [.int .i64 0, .int .i64 0, .int .i64 0, .int .i64 0, .emp] [(0, (.t 41))]))], [(5, I1 43 (.append 5 56 [.int .i64 0, .int .i64 0, .int .i64 0, .int .i64 0, .emp] (.t 40) (.t 42)))], [(6, I0 4 43)], [(7, I1 5 (.mv (KI 0)))]]
  [[], [], [0, 1], [], [3], [0, 1, 2, 3, 4], [0, 1, 2, 3, 4, 5], [0, 1, 2, 3, 4, 5, 6]])
 .ret)))
theorem d108 : FnD Tryz.prog 108 2 42 [.tmp 4, .tmp 5] c108 := ⟨Tryz.f108, _, Tryz.func108, by kernel_rfl, rfl, rfl, by kernel_rfl, by kernel_rfl⟩
end Go.Proofs.YtemjlopoffjmpaaGreat.Abs
set_option linter.unusedSimpArgs false
set_option linter.unusedVariables false
namespace Go.Proofs.YtemjlopoffjmpaaGreat.Abs
open Go Go.Proofs
theorem newL (H : AH) : C Tryz.prog 34 [] H (fun x H' => x = aset newA ∧ H' = H) := new_spec H
theorem addOk_iff (l : List Dset) (n : Int) : addOk l n = true ↔ l.length < 8 ∧ 1 ≤ n ∧ n ≤ 65535 ∧ (l.length = 0 ∨ (l.getD (l.length - 1) default).id < n) := by
 unfold addOk
 rw [Bool.and_eq_true, Bool.and_eq_true, Bool.and_eq_true, Bool.or_eq_true, decide_eq_true_eq, decide_eq_true_eq, decide_eq_true_eq, decide_eq_true_eq, decide_eq_true_eq, and_assoc, and_assoc]
theorem addOk_no {l : List Dset} {n : Int} (h : ¬ (l.length < 8 ∧ 1 ≤ n ∧ n ≤ 65535 ∧ (l.length = 0 ∨ (l.getD (l.length - 1) default).id < n))) : addOk l n = false :=
 Bool.eq_false_iff.2 fun e => h ((addOk_iff l n).1 e)
theorem more0 (l : List Dset) (hl : Short l) (x : Dset) (hx : x.files.length ≤ 1000000) :
 C Tryz.prog 108 [asets l, .agg (cellD x)] [] (fun y H' => y = outA (addA l x.id x) ∧ H' = []) := by
 have hl1 := hl.1
 refine C_body' d108 rfl (WT_ok ?_)
 delta c108 I0 I1 I2 I3 I4 I5 I6 I7 I8 I9 KI
 have hyes : addOk l x.id = true → outA (addA l x.id x) = .tuple [asets (l ++ [x]), .int .i64 0] := fun h => by
  have : addA l x.id x = (l ++ [{ x with id := x.id }], 0) := if_pos h
  rw [this]; rfl
 have hno : addOk l x.id = false → outA (addA l x.id x) = .tuple [asets l, .int .i64 8] := fun h => by
  have : addA l x.id x = (l, 8) := if_neg (by rw [h]; decide)
  rw [this]; rfl
 have hidd := rid68 x.id
 by_cases g1 : (8 : Int) ≤ (l.length : Int)
 ·have hn := hno (addOk_no (by omega))
  simp only [asets, cellD, aset, lay, wk3, wk, iaddrV_map, Nat.reduceAdd, Nat.reduceSub, Nat.reduceMul, Nat.reduceLeDiff, Nat.reduceEqDiff, Nat.reduceBEq, Int.reduceLE, Int.reduceLT, Int.reduceEq, Int.reduceNe, Int.reduceAdd, Int.reduceSub, Int.reduceToNat, Int.reduceNeg, ↓reduceIte, reduceCtorEq]
  refine WT_drawE ?_
  simp only [g1, lay, wk3, wk, iaddrV_map, Nat.reduceAdd, Nat.reduceSub, Nat.reduceMul, Nat.reduceLeDiff, Nat.reduceEqDiff, Nat.reduceBEq, Int.reduceLE, Int.reduceLT, Int.reduceEq, Int.reduceNe, Int.reduceAdd, Int.reduceSub, Int.reduceToNat, Int.reduceNeg, ↓reduceIte, reduceCtorEq]
  refine WDT_more 0 ?_
  simp only [g1, lay, wk3, wk, iaddrV_map, Nat.reduceAdd, Nat.reduceSub, Nat.reduceMul, Nat.reduceLeDiff, Nat.reduceEqDiff, Nat.reduceBEq, Int.reduceLE, Int.reduceLT, Int.reduceEq, Int.reduceNe, Int.reduceAdd, Int.reduceSub, Int.reduceToNat, Int.reduceNeg, ↓reduceIte, reduceCtorEq]
  refine ⟨by rfl, ?_⟩
  exact KWk_bare (by simp [bare, bareL]) ⟨by rw [hn]; rfl, rfl⟩
 by_cases g2 : x.id < 1
 ·have hn := hno (addOk_no (by omega))
  simp only [asets, cellD, aset, lay, wk3, wk, iaddrV_map, Nat.reduceAdd, Nat.reduceSub, Nat.reduceMul, Nat.reduceLeDiff, Nat.reduceEqDiff, Nat.reduceBEq, Int.reduceLE, Int.reduceLT, Int.reduceEq, Int.reduceNe, Int.reduceAdd, Int.reduceSub, Int.reduceToNat, Int.reduceNeg, ↓reduceIte, reduceCtorEq]
  refine WT_drawE ?_
  simp only [g1, g2, lay, wk3, wk, iaddrV_map, Nat.reduceAdd, Nat.reduceSub, Nat.reduceMul, Nat.reduceLeDiff, Nat.reduceEqDiff, Nat.reduceBEq, Int.reduceLE, Int.reduceLT, Int.reduceEq, Int.reduceNe, Int.reduceAdd, Int.reduceSub, Int.reduceToNat, Int.reduceNeg, ↓reduceIte, reduceCtorEq]
  refine WDT_more 0 ?_
  simp only [g1, g2, lay, wk3, wk, iaddrV_map, Nat.reduceAdd, Nat.reduceSub, Nat.reduceMul, Nat.reduceLeDiff, Nat.reduceEqDiff, Nat.reduceBEq, Int.reduceLE, Int.reduceLT, Int.reduceEq, Int.reduceNe, Int.reduceAdd, Int.reduceSub, Int.reduceToNat, Int.reduceNeg, ↓reduceIte, reduceCtorEq]
  refine ⟨by rfl, ?_⟩
  exact KWk_bare (by simp [bare, bareL]) ⟨by rw [hn]; rfl, rfl⟩
 by_cases g3 : x.id ≤ 65535
 case neg =>
  have hn := hno (addOk_no (by omega))
  have he : (decide (0 ≤ x.id) && decide (x.id ≤ 65535)) = false := by simp; omega
  simp only [he] at hidd
  simp only [asets, cellD, aset, lay, wk3, wk, iaddrV_map, Nat.reduceAdd, Nat.reduceSub, Nat.reduceMul, Nat.reduceLeDiff, Nat.reduceEqDiff, Nat.reduceBEq, Int.reduceLE, Int.reduceLT, Int.reduceEq, Int.reduceNe, Int.reduceAdd, Int.reduceSub, Int.reduceToNat, Int.reduceNeg, ↓reduceIte, reduceCtorEq]
  refine WT_drawE ?_
  simp only [g1, g2, lay, wk3, wk, iaddrV_map, Nat.reduceAdd, Nat.reduceSub, Nat.reduceMul, Nat.reduceLeDiff, Nat.reduceEqDiff, Nat.reduceBEq, Int.reduceLE, Int.reduceLT, Int.reduceEq, Int.reduceNe, Int.reduceAdd, Int.reduceSub, Int.reduceToNat, Int.reduceNeg, ↓reduceIte, reduceCtorEq]
  refine CT_ok (hidd _) ?_
  rintro _ _ ⟨rfl, rfl⟩
  simp only [g1, g2, lay, wk3, wk, iaddrV_map, Nat.reduceAdd, Nat.reduceSub, Nat.reduceMul, Nat.reduceLeDiff, Nat.reduceEqDiff, Nat.reduceBEq, Int.reduceLE, Int.reduceLT, Int.reduceEq, Int.reduceNe, Int.reduceAdd, Int.reduceSub, Int.reduceToNat, Int.reduceNeg, ↓reduceIte, reduceCtorEq]
  refine WDT_more 0 ?_
  simp only [g1, g2, lay, wk3, wk, iaddrV_map, Nat.reduceAdd, Nat.reduceSub, Nat.reduceMul, Nat.reduceLeDiff, Nat.reduceEqDiff, Nat.reduceBEq, Int.reduceLE, Int.reduceLT, Int.reduceEq, Int.reduceNe, Int.reduceAdd, Int.reduceSub, Int.reduceToNat, Int.reduceNeg, ↓reduceIte, reduceCtorEq]
  refine ⟨by rfl, ?_⟩
  exact KWk_bare (by simp [bare, bareL]) ⟨by rw [hn]; rfl, rfl⟩
 have he : (decide (0 ≤ x.id) && decide (x.id ≤ 65535)) = true := by simp; omega
 simp only [he] at hidd
 have hml : (l ++ [x]).length = l.length + 1 := by simp
 rcases Nat.eq_zero_or_pos l.length with h0 | h0
 ·have hn := hyes ((addOk_iff _ _).2 ⟨by omega, by omega, by omega, by omega⟩)
  have g4 : ¬ (0 : Int) < (l.length : Int) := by omega
  simp only [asets, cellD, aset, lay, wk3, wk, iaddrV_map, Nat.reduceAdd, Nat.reduceSub, Nat.reduceMul, Nat.reduceLeDiff, Nat.reduceEqDiff, Nat.reduceBEq, Int.reduceLE, Int.reduceLT, Int.reduceEq, Int.reduceNe, Int.reduceAdd, Int.reduceSub, Int.reduceToNat, Int.reduceNeg, ↓reduceIte, reduceCtorEq]
  refine WT_drawE ?_
  simp only [g1, g2, lay, wk3, wk, iaddrV_map, Nat.reduceAdd, Nat.reduceSub, Nat.reduceMul, Nat.reduceLeDiff, Nat.reduceEqDiff, Nat.reduceBEq, Int.reduceLE, Int.reduceLT, Int.reduceEq, Int.reduceNe, Int.reduceAdd, Int.reduceSub, Int.reduceToNat, Int.reduceNeg, ↓reduceIte, reduceCtorEq]
  refine CT_ok (hidd _) ?_
  rintro _ _ ⟨rfl, rfl⟩
  simp only [g1, g2, g4, lay, wk3, wk, iaddrV_map, Nat.reduceAdd, Nat.reduceSub, Nat.reduceMul, Nat.reduceLeDiff, Nat.reduceEqDiff, Nat.reduceBEq, Int.reduceLE, Int.reduceLT, Int.reduceEq, Int.reduceNe, Int.reduceAdd, Int.reduceSub, Int.reduceToNat, Int.reduceNeg, ↓reduceIte, reduceCtorEq]
  refine WDT_more 0 ?_
  simp only [g1, g2, g4, lay, wk3, wk, iaddrV_map, Nat.reduceAdd, Nat.reduceSub, Nat.reduceMul, Nat.reduceLeDiff, Nat.reduceEqDiff, Nat.reduceBEq, Int.reduceLE, Int.reduceLT, Int.reduceEq, Int.reduceNe, Int.reduceAdd, Int.reduceSub, Int.reduceToNat, Int.reduceNeg, ↓reduceIte, reduceCtorEq]
  refine ⟨by rfl, ?_⟩
  refine WT_drawE ?_
  refine WDT_more 2 ?_
  simp only [cellsD, rows5D, lay, wk3, wk, iaddrV_map, Nat.reduceAdd, Nat.reduceSub, Nat.reduceMul, Nat.reduceLeDiff, Nat.reduceEqDiff, Nat.reduceBEq, Int.reduceLE, Int.reduceLT, Int.reduceEq, Int.reduceNe, Int.reduceAdd, Int.reduceSub, Int.reduceToNat, Int.reduceNeg, ↓reduceIte, reduceCtorEq]
  refine ⟨by omega, ?_⟩
  simp only [ren, renL, cellsD, rows5D, lay, wk3, wk, iaddrV_map, Nat.reduceAdd, Nat.reduceSub, Nat.reduceMul, Nat.reduceLeDiff, Nat.reduceEqDiff, Nat.reduceBEq, Int.reduceLE, Int.reduceLT, Int.reduceEq, Int.reduceNe, Int.reduceAdd, Int.reduceSub, Int.reduceToNat, Int.reduceNeg, ↓reduceIte, reduceCtorEq]
  refine ⟨⟨by omega, by omega⟩, by omega, by omega, by rfl, ⟨by omega, by omega⟩, ?_⟩
  rw [hn]
  exact KWk_sets 1 (l ++ [x]) 0 _ (by simp) (by rw [List.map_append]; rfl) ⟨rfl, rfl⟩
 ·have w1 : IntKind.i64.wrap ((l.length : Int) - 1) = ((l.length - 1 : Nat) : Int) := by rw [IntWalk.i64_in _ (by omega)]; omega
  have g4 : (0 : Int) < (l.length : Int) := by omega
  have g6 : (0 : Int) ≤ ((l.length - 1 : Nat) : Int) := by omega
  have g7 : ((l.length - 1 : Nat) : Int) < (l.length : Int) := by omega
  simp only [asets, cellD, aset, lay, wk3, wk, iaddrV_map, Nat.reduceAdd, Nat.reduceSub, Nat.reduceMul, Nat.reduceLeDiff, Nat.reduceEqDiff, Nat.reduceBEq, Int.reduceLE, Int.reduceLT, Int.reduceEq, Int.reduceNe, Int.reduceAdd, Int.reduceSub, Int.reduceToNat, Int.reduceNeg, ↓reduceIte, reduceCtorEq]
  refine WT_drawE ?_
  simp only [g1, g2, lay, wk3, wk, iaddrV_map, Nat.reduceAdd, Nat.reduceSub, Nat.reduceMul, Nat.reduceLeDiff, Nat.reduceEqDiff, Nat.reduceBEq, Int.reduceLE, Int.reduceLT, Int.reduceEq, Int.reduceNe, Int.reduceAdd, Int.reduceSub, Int.reduceToNat, Int.reduceNeg, ↓reduceIte, reduceCtorEq]
  refine CT_ok (hidd _) ?_
  rintro _ _ ⟨rfl, rfl⟩
  simp only [g1, g2, g4, lay, wk3, wk, iaddrV_map, Nat.reduceAdd, Nat.reduceSub, Nat.reduceMul, Nat.reduceLeDiff, Nat.reduceEqDiff, Nat.reduceBEq, Int.reduceLE, Int.reduceLT, Int.reduceEq, Int.reduceNe, Int.reduceAdd, Int.reduceSub, Int.reduceToNat, Int.reduceNeg, ↓reduceIte, reduceCtorEq]
  refine WDT_more 0 ?_
  simp only [g1, g2, g4, g6, g7, w1, iaddr_dset, pdset, lay, wk3, wk, iaddrV_map, Nat.reduceAdd, Nat.reduceSub, Nat.reduceMul, Nat.reduceLeDiff, Nat.reduceEqDiff, Nat.reduceBEq, Int.reduceLE, Int.reduceLT, Int.reduceEq, Int.reduceNe, Int.reduceAdd, Int.reduceSub, Int.reduceToNat, Int.reduceNeg, ↓reduceIte, reduceCtorEq]
  refine ⟨by rfl, ?_⟩
  by_cases g5 : x.id ≤ (l.getD (l.length - 1) default).id
  ·have hn := hno (addOk_no (by omega))
   simp only [g5, lay, wk3, wk, iaddrV_map, Nat.reduceAdd, Nat.reduceSub, Nat.reduceMul, Nat.reduceLeDiff, Nat.reduceEqDiff, Nat.reduceBEq, Int.reduceLE, Int.reduceLT, Int.reduceEq, Int.reduceNe, Int.reduceAdd, Int.reduceSub, Int.reduceToNat, Int.reduceNeg, ↓reduceIte, reduceCtorEq]
   exact KWk_bare (by simp [bare, bareL]) ⟨by rw [hn]; rfl, rfl⟩
  ·have hn := hyes ((addOk_iff _ _).2 ⟨by omega, by omega, by omega, by omega⟩)
   simp only [g5, lay, wk3, wk, iaddrV_map, Nat.reduceAdd, Nat.reduceSub, Nat.reduceMul, Nat.reduceLeDiff, Nat.reduceEqDiff, Nat.reduceBEq, Int.reduceLE, Int.reduceLT, Int.reduceEq, Int.reduceNe, Int.reduceAdd, Int.reduceSub, Int.reduceToNat, Int.reduceNeg, ↓reduceIte, reduceCtorEq]
   refine WT_drawE ?_
   refine WDT_more 2 ?_
   simp only [cellsD, rows5D, lay, wk3, wk, iaddrV_map, Nat.reduceAdd, Nat.reduceSub, Nat.reduceMul, Nat.reduceLeDiff, Nat.reduceEqDiff, Nat.reduceBEq, Int.reduceLE, Int.reduceLT, Int.reduceEq, Int.reduceNe, Int.reduceAdd, Int.reduceSub, Int.reduceToNat, Int.reduceNeg, ↓reduceIte, reduceCtorEq]
   refine ⟨by omega, ?_⟩
   simp only [ren, renL, cellsD, rows5D, lay, wk3, wk, iaddrV_map, Nat.reduceAdd, Nat.reduceSub, Nat.reduceMul, Nat.reduceLeDiff, Nat.reduceEqDiff, Nat.reduceBEq, Int.reduceLE, Int.reduceLT, Int.reduceEq, Int.reduceNe, Int.reduceAdd, Int.reduceSub, Int.reduceToNat, Int.reduceNeg, ↓reduceIte, reduceCtorEq]
   refine ⟨⟨by omega, by omega⟩, by omega, by omega, by rfl, ⟨by omega, by omega⟩, ?_⟩
   rw [hn]
   exact KWk_sets 1 (l ++ [x]) 0 _ (by simp) (by rw [List.map_append]; rfl) ⟨rfl, rfl⟩
theorem moreL (l : List Dset) (hl : Short l) (x : Dset) (hx : x.files.length ≤ 1000000) (H : AH) :
 C Tryz.prog 108 [asets l, .agg (cellD x)] H (fun y H' => y = outA (addA l x.id x) ∧ H' = H) :=
 C_any (more0 l hl x hx) (by simp [bareL, bare, asets, cellD, aset]) (outA_bare _) H
theorem addA_id (l : List Dset) (n : Int) (x y : Dset) (h : ({ x with id := n } : Dset) = y) : addA l n x = addA l n y := by
 subst h; rfl
theorem rcreate0 (l : List Dset) (hl : Short l) (next q : Int) : C Tryz.prog 70 [asets l, .int .i64 next, .int .i64 q] [] (fun x H' => x = outA (createA l next q) ∧ H' = []) := by
 refine C_body' d70 rfl (WT_ok ?_)
 delta c70 I0 I1 I2 I3 I4 I5 I6 I7 I8 I9 KI createA
 by_cases h1 : q < 0
 ·rw [if_pos (.inl h1)]
  simp only [h1, lay, wk3, wk, iaddrV_map, Nat.reduceAdd, Nat.reduceSub, Nat.reduceMul, Nat.reduceLeDiff, Nat.reduceEqDiff, Nat.reduceBEq, Int.reduceLE, Int.reduceLT, Int.reduceEq, Int.reduceNe, Int.reduceAdd, Int.reduceSub, Int.reduceToNat, Int.reduceNeg, ↓reduceIte, reduceCtorEq]
  exact KWk_bare (by simp [bare, bareL, asets]) ⟨rfl, rfl⟩
 by_cases h2 : 255 < q
 ·rw [if_pos (.inr h2)]
  simp only [h1, h2, lay, wk3, wk, iaddrV_map, Nat.reduceAdd, Nat.reduceSub, Nat.reduceMul, Nat.reduceLeDiff, Nat.reduceEqDiff, Nat.reduceBEq, Int.reduceLE, Int.reduceLT, Int.reduceEq, Int.reduceNe, Int.reduceAdd, Int.reduceSub, Int.reduceToNat, Int.reduceNeg, ↓reduceIte, reduceCtorEq]
  exact KWk_bare (by simp [bare, bareL, asets]) ⟨rfl, rfl⟩
 ·rw [if_neg (fun h => h.elim h1 h2), addA_id l next _ ⟨next, 1, 0, q, newA⟩ rfl]
  simp only [h1, h2, lay, wk3, wk, iaddrV_map, Nat.reduceAdd, Nat.reduceSub, Nat.reduceMul, Nat.reduceLeDiff, Nat.reduceEqDiff, Nat.reduceBEq, Int.reduceLE, Int.reduceLT, Int.reduceEq, Int.reduceNe, Int.reduceAdd, Int.reduceSub, Int.reduceToNat, Int.reduceNeg, ↓reduceIte, reduceCtorEq]
  refine CT_ok (newL _) ?_
  rintro _ _ ⟨rfl, rfl⟩
  simp only [aset, lay, wk3, wk, iaddrV_map, Nat.reduceAdd, Nat.reduceSub, Nat.reduceMul, Nat.reduceLeDiff, Nat.reduceEqDiff, Nat.reduceBEq, Int.reduceLE, Int.reduceLT, Int.reduceEq, Int.reduceNe, Int.reduceAdd, Int.reduceSub, Int.reduceToNat, Int.reduceNeg, ↓reduceIte, reduceCtorEq]
  refine CT_ok (moreL l hl ⟨next, 1, 0, q, newA⟩ (show newA.length ≤ 1000000 by decide) _) ?_
  rintro _ _ ⟨rfl, rfl⟩
  simp only [outA, lay, wk3, wk, iaddrV_map, Nat.reduceAdd, Nat.reduceSub, Nat.reduceMul, Nat.reduceLeDiff, Nat.reduceEqDiff, Nat.reduceBEq, Int.reduceLE, Int.reduceLT, Int.reduceEq, Int.reduceNe, Int.reduceAdd, Int.reduceSub, Int.reduceToNat, Int.reduceNeg, ↓reduceIte, reduceCtorEq]
  exact KWk_bare (by simp [bare, bareL, asets]) ⟨rfl, rfl⟩
theorem rsnap0 (l : List Dset) (hl : Short l) (next i : Int) : C Tryz.prog 71 [asets l, .int .i64 next, .int .i64 i] [] (fun x H' => x = outA (snapA l next i) ∧ H' = []) := by
 refine C_body' d71 rfl (WT_ok ?_)
 delta c71 I0 I1 I2 I3 I4 I5 I6 I7 I8 I9 KI
 simp only [lay, wk3, wk, iaddrV_map, Nat.reduceAdd, Nat.reduceSub, Nat.reduceMul, Nat.reduceLeDiff, Nat.reduceEqDiff, Nat.reduceBEq, Int.reduceLE, Int.reduceLT, Int.reduceEq, Int.reduceNe, Int.reduceAdd, Int.reduceSub, Int.reduceToNat, Int.reduceNeg, ↓reduceIte, reduceCtorEq]
 refine CT_ok (rgetL l hl.1 i _) ?_
 rintro _ _ ⟨rfl, rfl⟩
 cases hg : getA l i with
 | none =>
   have e : snapA l next i = (l, 2) := by unfold snapA; rw [hg]
   rw [e]
   simp only [getV, lay, wk3, wk, iaddrV_map, Nat.reduceAdd, Nat.reduceSub, Nat.reduceMul, Nat.reduceLeDiff, Nat.reduceEqDiff, Nat.reduceBEq, Int.reduceLE, Int.reduceLT, Int.reduceEq, Int.reduceNe, Int.reduceAdd, Int.reduceSub, Int.reduceToNat, Int.reduceNeg, ↓reduceIte, reduceCtorEq]
   exact KWk_bare (by simp [bare, bareL, asets]) ⟨rfl, rfl⟩
 | some d =>
   have hd := hl.2 d (getA_mem hg).1
   by_cases h2 : d.kind = 2
   ·have e : snapA l next i = (l, 11) := by unfold snapA; rw [hg]; exact if_pos h2
    rw [e]
    simp only [getV, h2, cellD, aset, lay, wk3, wk, iaddrV_map, Nat.reduceAdd, Nat.reduceSub, Nat.reduceMul, Nat.reduceLeDiff, Nat.reduceEqDiff, Nat.reduceBEq, Int.reduceLE, Int.reduceLT, Int.reduceEq, Int.reduceNe, Int.reduceAdd, Int.reduceSub, Int.reduceToNat, Int.reduceNeg, ↓reduceIte, reduceCtorEq]
    exact KWk_bare (by simp [bare, bareL, asets]) ⟨rfl, rfl⟩
   ·have e : snapA l next i = addA l next ⟨next, 2, i, 0, d.files⟩ := by unfold snapA; rw [hg]; exact (if_neg h2).trans (addA_id l next _ _ rfl)
    rw [e]
    simp only [getV, h2, cellD, aset, lay, wk3, wk, iaddrV_map, Nat.reduceAdd, Nat.reduceSub, Nat.reduceMul, Nat.reduceLeDiff, Nat.reduceEqDiff, Nat.reduceBEq, Int.reduceLE, Int.reduceLT, Int.reduceEq, Int.reduceNe, Int.reduceAdd, Int.reduceSub, Int.reduceToNat, Int.reduceNeg, ↓reduceIte, reduceCtorEq]
    refine CT_ok (moreL l hl ⟨next, 2, i, 0, d.files⟩ hd _) ?_
    rintro _ _ ⟨rfl, rfl⟩
    simp only [outA, lay, wk3, wk, iaddrV_map, Nat.reduceAdd, Nat.reduceSub, Nat.reduceMul, Nat.reduceLeDiff, Nat.reduceEqDiff, Nat.reduceBEq, Int.reduceLE, Int.reduceLT, Int.reduceEq, Int.reduceNe, Int.reduceAdd, Int.reduceSub, Int.reduceToNat, Int.reduceNeg, ↓reduceIte, reduceCtorEq]
    exact KWk_bare (by simp [bare, bareL, asets]) ⟨rfl, rfl⟩
theorem rclone0 (l : List Dset) (hl : Short l) (next i : Int) : C Tryz.prog 72 [asets l, .int .i64 next, .int .i64 i] [] (fun x H' => x = outA (cloneA l next i) ∧ H' = []) := by
 refine C_body' d72 rfl (WT_ok ?_)
 delta c72 I0 I1 I2 I3 I4 I5 I6 I7 I8 I9 KI
 simp only [lay, wk3, wk, iaddrV_map, Nat.reduceAdd, Nat.reduceSub, Nat.reduceMul, Nat.reduceLeDiff, Nat.reduceEqDiff, Nat.reduceBEq, Int.reduceLE, Int.reduceLT, Int.reduceEq, Int.reduceNe, Int.reduceAdd, Int.reduceSub, Int.reduceToNat, Int.reduceNeg, ↓reduceIte, reduceCtorEq]
 refine CT_ok (rgetL l hl.1 i _) ?_
 rintro _ _ ⟨rfl, rfl⟩
 cases hg : getA l i with
 | none =>
   have e : cloneA l next i = (l, 2) := by unfold cloneA; rw [hg]
   rw [e]
   simp only [getV, lay, wk3, wk, iaddrV_map, Nat.reduceAdd, Nat.reduceSub, Nat.reduceMul, Nat.reduceLeDiff, Nat.reduceEqDiff, Nat.reduceBEq, Int.reduceLE, Int.reduceLT, Int.reduceEq, Int.reduceNe, Int.reduceAdd, Int.reduceSub, Int.reduceToNat, Int.reduceNeg, ↓reduceIte, reduceCtorEq]
   exact KWk_bare (by simp [bare, bareL, asets]) ⟨rfl, rfl⟩
 | some d =>
   have hd := hl.2 d (getA_mem hg).1
   by_cases h2 : d.kind = 2
   ·have e : cloneA l next i = addA l next ⟨next, 1, i, 0, d.files⟩ := by unfold cloneA; rw [hg]; exact (if_pos h2).trans (addA_id l next _ _ rfl)
    rw [e]
    simp only [getV, h2, cellD, aset, lay, wk3, wk, iaddrV_map, Nat.reduceAdd, Nat.reduceSub, Nat.reduceMul, Nat.reduceLeDiff, Nat.reduceEqDiff, Nat.reduceBEq, Int.reduceLE, Int.reduceLT, Int.reduceEq, Int.reduceNe, Int.reduceAdd, Int.reduceSub, Int.reduceToNat, Int.reduceNeg, ↓reduceIte, reduceCtorEq]
    refine CT_ok (moreL l hl ⟨next, 1, i, 0, d.files⟩ hd _) ?_
    rintro _ _ ⟨rfl, rfl⟩
    simp only [outA, lay, wk3, wk, iaddrV_map, Nat.reduceAdd, Nat.reduceSub, Nat.reduceMul, Nat.reduceLeDiff, Nat.reduceEqDiff, Nat.reduceBEq, Int.reduceLE, Int.reduceLT, Int.reduceEq, Int.reduceNe, Int.reduceAdd, Int.reduceSub, Int.reduceToNat, Int.reduceNeg, ↓reduceIte, reduceCtorEq]
    exact KWk_bare (by simp [bare, bareL, asets]) ⟨rfl, rfl⟩
   ·have e : cloneA l next i = (l, 1) := by unfold cloneA; rw [hg]; exact if_neg h2
    rw [e]
    simp only [getV, h2, cellD, aset, lay, wk3, wk, iaddrV_map, Nat.reduceAdd, Nat.reduceSub, Nat.reduceMul, Nat.reduceLeDiff, Nat.reduceEqDiff, Nat.reduceBEq, Int.reduceLE, Int.reduceLT, Int.reduceEq, Int.reduceNe, Int.reduceAdd, Int.reduceSub, Int.reduceToNat, Int.reduceNeg, ↓reduceIte, reduceCtorEq]
    exact KWk_bare (by simp [bare, bareL, asets]) ⟨rfl, rfl⟩
end Go.Proofs.YtemjlopoffjmpaaGreat.Abs
set_option linter.unusedSimpArgs false
set_option linter.unusedVariables false
namespace Go.Proofs.YtemjlopoffjmpaaGreat.Abs
open Go Go.Proofs
def StepR (l : List UInt8) (n : Int) (x : AV) (H' : AH) : Prop := ∃ (k i m n' : Int) (p q t : List UInt8), p.length ≤ 1000000 ∧ q.length ≤ 1000000 ∧ t.length ≤ 1000000 ∧ (n ≤ n' ∧ 1 ≤ k ∧ (k ≤ 5 ∨ 9 ≤ k) ∧ k ≤ 14) ∧ x = editA k i m p q t ∧ H' = picksH l n'
theorem KWk_step {l : List UInt8} {n k i m n' : Int} {p q t : List UInt8} {R : AH} (hp : p.length ≤ 1000000) (hq : q.length ≤ 1000000) (ht : t.length ≤ 1000000) (hn : n ≤ n' ∧ 1 ≤ k ∧ (k ≤ 5 ∨ 9 ≤ k) ∧ k ≤ 14) :
 KWk 1 (StepR l n) (.agg [.int .i64 k, .int .i64 i, .int .i64 m, .int .i64 0, .int .i64 0, .str p, .str q, .str t, .emp]) (some [[.fz (l.map pbyte), .int .i64 n']] :: R) := by
 refine ⟨_, _, ?_, k, i, m, n', p, q, t, hp, hq, ht, hn, rfl, rfl⟩
 have h := Wk_forget (n0 := 1) (fr := [editA k i m p q t]) (H := some [[.fz (l.map pbyte), .int .i64 n']] :: R) 1 (Nat.le_refl _)
 simpa [mapH, renL, ren, editA, picksH] using h
theorem set45 (l : List UInt8) (n i : Int) (hn : 0 ≤ n) (hl : l.length ≤ 1000000) :
 C Tryz.prog 45 [.ptr 0 0 0 1, .int .i64 i] (picksH l n) (StepR l n) := by
 refine C_body' d45 rfl (WT_ok ?_)
 delta c45 I0 I1 I2 I3 I4 I5 I6 I7 I8 I9 KI
 simp only [picksH, lay, iaddr_node, pnode, wk3, wk, seval]
 refine CT_ok (num_at l n 6 (by omega) hl _) ?_
 rintro _ H ⟨m, n1, rfl, k1, k2, k3, k4, _, rfl⟩
 have g1 : m < 6 := k2 (by omega)
 have w1 : IntKind.i64.wrap (9 + m) = 9 + m := IntWalk.i64_in _ (by omega)
 simp only [w1, lay, iaddr_node, pnode, wk3, wk, seval]
 by_cases v9 : 9 + m = 9
 ·simp only [v9, lay, iaddr_node, pnode, wk3, wk, seval]
  refine CT_ok (num_at l n1 9 (by omega) hl _) ?_
  rintro _ H ⟨m2, n2, rfl, j1, j2, j3, j4, _, rfl⟩
  simp only [lay, iaddr_node, pnode, wk3, wk, seval]
  exact KWk_step (by simp) (by simp) (by simp) (by omega)
 by_cases v13 : 9 + m = 13
 ·simp only [v13, lay, iaddr_node, pnode, wk3, wk, seval]
  refine CT_ok (num_at l n1 8 (by omega) hl _) ?_
  rintro _ H ⟨m2, n2, rfl, j1, j2, j3, j4, _, rfl⟩
  have w2 : IntKind.i64.wrap (1 + m2) = 1 + m2 := IntWalk.i64_in _ (by omega)
  simp only [w2, lay, iaddr_node, pnode, wk3, wk, seval]
  exact KWk_step (by simp) (by simp) (by simp) (by omega)
 ·simp only [v9, v13, lay, iaddr_node, pnode, wk3, wk, seval]
  exact KWk_step (by simp) (by simp) (by simp) (by omega)
def poolC (nx : Int) (v : AV) : List AV := [.emp, .emp, .int .i64 0, .int .i64 0, .bool false, .int .i64 0, .int .i64 0, .int .u32 0, .int .u32 0, .int .u32 0, .int .u32 0, .int .i64 0, .int .i64 nx, .int .i64 0, .int .i64 0, .int .i64 0, .int .u32 0, .int .u32 0, .int .u32 0, .int .u32 0, .int .i64 0, .int .i64 0, .int .u32 0, .int .u32 0, .int .u32 0, .int .u32 0, .int .i64 0, .int .i64 0, .int .u32 0, .int .u32 0, .int .u32 0, .int .u32 0, .int .i64 0, .emp, .emp, .emp, .emp, .int .i64 0, .int .i64 0, v, .bool false]
def ansC (e m : Int) : List AV := [.int .i64 e, .str [], .int .i64 0, .int .i64 0, .int .i64 0, .int .i64 0, .emp, .int .i64 m]
def toldA (nx : Int) (l : List Dset) (e m : Int) : AV := .tuple [.agg (poolC nx (asets l)), .agg (ansC e m)]
theorem told_bare (nx : Int) (l : List Dset) (e m : Int) : bare (toldA nx l e m) = true := by simp [toldA, poolC, ansC, bare, bareL, asets]
theorem tells86 (nx : Int) (l : List Dset) (e : Int) (H : AH) : C Tryz.prog 86 [.agg (poolC nx (asets l)), .int .i64 e] H (fun x H' => x = toldA nx l e 0 ∧ H' = H) := by
 refine C_any ?_ (by simp [bareL, bare, asets, poolC]) (told_bare _ _ _ _) H
 refine C_body' d86 rfl (WT_ok ?_)
 delta c86 I0 I1 I2 I3 I4 I5 I6 I7 I8 I9 KI
 simp only [poolC, asets, lay, wk4, wk3, wk, iaddrV_map, seval]
 exact KWk_bare (by simp [bare, bareL]) ⟨rfl, rfl⟩
theorem changes87 (k : Int) (hk : k ≤ 5 ∨ 9 ≤ k) (hk2 : k ≤ 14) (H : AH) : C Tryz.prog 87 [.int .i64 k] H (fun x H' => x = .bool true ∧ H' = H) := by
 refine C_body d87 rfl (WT_ok ?_)
 delta c87 I0 I1 I2 I3 I4 I5 I6 I7 I8 I9 KI
 have h6 : ¬ k = 6 := by omega
 have h7 : ¬ k = 7 := by omega
 have h8 : ¬ k = 8 := by omega
 have h17 : k ≤ 17 := by omega
 simp only [h6, h7, h8, h17, lay, wk4, wk3, wk, iaddrV_map, seval]
end Go.Proofs.YtemjlopoffjmpaaGreat.Abs
set_option linter.unusedSimpArgs false
set_option linter.unusedVariables false
namespace Go.Proofs.YtemjlopoffjmpaaGreat.Abs
open Go Go.Proofs
theorem filesA_may {l : List Dset} (h : MayL l) (i : Int) {s : List Node} (hs : Wf s) : MayL (filesA l i s).1 ∧ (filesA l i s).1.length = l.length := by
 unfold filesA
 cases hg : getA l i with
 | none => exact ⟨h, rfl⟩
 | some d =>
   simp only
   split
   ·exact ⟨h, rfl⟩
   ·split
    ·exact ⟨h, rfl⟩
    ·refine ⟨?_, List.length_set⟩
     rcases find_of (l := l) (i := i) with ⟨e, _⟩ | ⟨k, e, hk, hid, _⟩
     ·rw [getA_no e] at hg; cases hg
     rw [getA_of e] at hg
     have hd := Option.some.inj hg
     rw [e, Int.toNat_natCast, ← hd]
     show MayL (l.set k _)
     rw [set_map h hk (fun d => { d with files := s })]
     obtain ⟨r, hr⟩ := h.tree
     refine h.map _ (fun d _ => by split <;> rfl) (fun d _ => by split <;> rfl) (fun d _ => by split <;> rfl) (fun d hd => ?_) (fun d hd e => ?_) (fun d hd e => ?_) r (fun d hd o ho e => ?_)
     ·split
      ·exact hs
      ·exact (h.each d hd).files
     ·have := ((h.each d hd).snap e).2
      split <;> exact this
     ·have := (h.each d hd).live e
      split <;> exact this
     ·have : o.id = d.origin := by
       rw [e]; split <;> rfl
      exact hr d hd o ho this
theorem filesL (l : List Dset) (hl : Short l) (i : Int) (s : List Node) (hs : s.length ≤ 1000000) (H : AH) :
 C Tryz.prog 17 [asets l, .int .i64 i, aset s] H (fun y H' => y = outA (filesA l i s) ∧ H' = H) :=
 C_any (filesA0 l hl i s hs) (by simp [bareL, bare, asets, aset]) (outA_bare _) H
def StepN (nx nx' : Int) (l l' : List Dset) : Prop := (l ≠ [] → l' ≠ []) ∧ ((∀ d ∈ l, d.id < nx) → ∀ d ∈ l', d.id < nx')
theorem StepN.refl (nx : Int) (l : List Dset) : StepN nx nx l l := ⟨fun h => h, fun h => h⟩
theorem filesA_ids {l : List Dset} (i : Int) (s : List Node) {nx : Int} (h : ∀ d ∈ l, d.id < nx) : ∀ d ∈ (filesA l i s).1, d.id < nx := by
 unfold filesA
 cases hg : getA l i with
 | none => exact h
 | some d =>
   simp only
   split
   ·exact h
   ·split
    ·exact h
    ·intro x hx
     rcases List.mem_or_eq_of_mem_set hx with hx | rfl
     ·exact h x hx
     ·exact h d (getA_mem hg).1
def PoolR (nx : Int) (l : List Dset) (y : AV) : Prop := ∃ (l' : List Dset) (nx' e m : Int), MayL l' ∧ StepN nx nx' l l' ∧ nx ≤ nx' ∧ nx' ≤ nx + 1 ∧ y = toldA nx' l' e m
theorem PoolR.bare {nx : Int} {l : List Dset} {y : AV} (h : PoolR nx l y) : bare y = true := by
 obtain ⟨l', nx', e, m, _, _, _, _, rfl⟩ := h
 exact told_bare _ _ _ _
set_option maxHeartbeats 2000000 in
theorem files88_0 (l : List Dset) (hM : MayL l) (nx k i m : Int) (hk : 1 ≤ k ∧ k ≤ 5) (p q t : List UInt8) (hp : p.length ≤ 1000000) (hq : q.length ≤ 1000000) (ht : t.length ≤ 1000000) :
 C Tryz.prog 88 [.agg (poolC nx (asets l)), editA k i m p q t] [] (fun y H' => PoolR nx l y ∧ H' = []) := by
 have hl := hM.short
 have told : ∀ e : Int, PoolR nx l (toldA nx l e 0) := fun e => ⟨l, nx, e, 0, hM, StepN.refl _ _, Int.le_refl _, by omega, rfl⟩
 have put : ∀ u, Wf u → PoolR nx l (toldA nx (filesA l i u).1 (filesA l i u).2 0) := fun u hu => by
  obtain ⟨h1, h2⟩ := filesA_may hM i hu
  exact ⟨_, nx, _, 0, h1, ⟨fun h e => h (List.length_eq_zero_iff.1 (by rw [← h2, e]; rfl)), filesA_ids i u⟩, Int.le_refl _, by omega, rfl⟩
 refine C_body' d88 rfl (WT_ok ?_)
 delta c88 I0 I1 I2 I3 I4 I5 I6 I7 I8 I9 KI
 simp only [poolC, editA, asets, lay, iaddr_node, pnode, wk3, wk, Nat.reduceAdd, Nat.reduceSub, Nat.reduceMul, Nat.reduceLeDiff, Nat.reduceEqDiff, Nat.reduceBEq, Int.reduceLE, Int.reduceLT, Int.reduceEq, Int.reduceNe, Int.reduceAdd, Int.reduceSub, Int.reduceToNat, Int.reduceNeg, ↓reduceIte, reduceCtorEq]
 refine CT_ok (rgetL l hl.1 i _) ?_
 rintro _ _ ⟨rfl, rfl⟩
 cases hg : getA l i with
 | none =>
   simp only [getV, lay, iaddr_node, pnode, wk3, wk, Nat.reduceAdd, Nat.reduceSub, Nat.reduceMul, Nat.reduceLeDiff, Nat.reduceEqDiff, Nat.reduceBEq, Int.reduceLE, Int.reduceLT, Int.reduceEq, Int.reduceNe, Int.reduceAdd, Int.reduceSub, Int.reduceToNat, Int.reduceNeg, ↓reduceIte, reduceCtorEq]
   refine CT_ok (tells86 nx l 2 _) ?_
   rintro _ _ ⟨rfl, rfl⟩
   simp only [toldA, poolC, ansC, asets, lay, iaddr_node, pnode, wk3, wk, Nat.reduceAdd, Nat.reduceSub, Nat.reduceMul, Nat.reduceLeDiff, Nat.reduceEqDiff, Nat.reduceBEq, Int.reduceLE, Int.reduceLT, Int.reduceEq, Int.reduceNe, Int.reduceAdd, Int.reduceSub, Int.reduceToNat, Int.reduceNeg, ↓reduceIte, reduceCtorEq]
   exact KWk_bare (told_bare nx l 2 0) ⟨told 2, rfl⟩
 | some d =>
 have hd := hM.each d (getA_mem hg).1
 simp only [getV, cellD, aset, lay, iaddr_node, pnode, wk3, wk, Nat.reduceAdd, Nat.reduceSub, Nat.reduceMul, Nat.reduceLeDiff, Nat.reduceEqDiff, Nat.reduceBEq, Int.reduceLE, Int.reduceLT, Int.reduceEq, Int.reduceNe, Int.reduceAdd, Int.reduceSub, Int.reduceToNat, Int.reduceNeg, ↓reduceIte, reduceCtorEq]
 refine CT_ok (changes87 k (by omega) (by omega) _) ?_
 rintro _ _ ⟨rfl, rfl⟩
 by_cases h2 : d.kind = 2
 ·simp only [h2, lay, iaddr_node, pnode, wk3, wk, Nat.reduceAdd, Nat.reduceSub, Nat.reduceMul, Nat.reduceLeDiff, Nat.reduceEqDiff, Nat.reduceBEq, Int.reduceLE, Int.reduceLT, Int.reduceEq, Int.reduceNe, Int.reduceAdd, Int.reduceSub, Int.reduceToNat, Int.reduceNeg, ↓reduceIte, reduceCtorEq]
  refine CT_ok (tells86 nx l 11 _) ?_
  rintro _ _ ⟨rfl, rfl⟩
  simp only [toldA, poolC, ansC, asets, lay, iaddr_node, pnode, wk3, wk, Nat.reduceAdd, Nat.reduceSub, Nat.reduceMul, Nat.reduceLeDiff, Nat.reduceEqDiff, Nat.reduceBEq, Int.reduceLE, Int.reduceLT, Int.reduceEq, Int.reduceNe, Int.reduceAdd, Int.reduceSub, Int.reduceToNat, Int.reduceNeg, ↓reduceIte, reduceCtorEq]
  exact KWk_bare (told_bare nx l 11 0) ⟨told 11, rfl⟩
 by_cases h_1 : k = 1
 ·simp only [h2, h_1, lay, iaddr_node, pnode, wk3, wk, Nat.reduceAdd, Nat.reduceSub, Nat.reduceMul, Nat.reduceLeDiff, Nat.reduceEqDiff, Nat.reduceBEq, Int.reduceLE, Int.reduceLT, Int.reduceEq, Int.reduceNe, Int.reduceAdd, Int.reduceSub, Int.reduceToNat, Int.reduceNeg, ↓reduceIte, reduceCtorEq]
  refine CT_ok (make_next (parts_loose p hp) (fun _ h => h) d.files hd.files m _) ?_
  rintro _ _ ⟨rfl, u, e, hu, rfl⟩
  by_cases he : e = 0
  ·simp only [aset, he, lay, iaddr_node, pnode, wk3, wk, Nat.reduceAdd, Nat.reduceSub, Nat.reduceMul, Nat.reduceLeDiff, Nat.reduceEqDiff, Nat.reduceBEq, Int.reduceLE, Int.reduceLT, Int.reduceEq, Int.reduceNe, Int.reduceAdd, Int.reduceSub, Int.reduceToNat, Int.reduceNeg, ↓reduceIte, reduceCtorEq]
   refine CT_ok (filesL l hl i u (by have := hu.len; omega) _) ?_
   rintro _ _ ⟨rfl, rfl⟩
   simp only [outA, asets, lay, iaddr_node, pnode, wk3, wk, Nat.reduceAdd, Nat.reduceSub, Nat.reduceMul, Nat.reduceLeDiff, Nat.reduceEqDiff, Nat.reduceBEq, Int.reduceLE, Int.reduceLT, Int.reduceEq, Int.reduceNe, Int.reduceAdd, Int.reduceSub, Int.reduceToNat, Int.reduceNeg, ↓reduceIte, reduceCtorEq]
   refine WT_drawE ?_
   refine WDT_more 0 ?_
   simp only [lay, iaddr_node, pnode, wk3, wk, Nat.reduceAdd, Nat.reduceSub, Nat.reduceMul, Nat.reduceLeDiff, Nat.reduceEqDiff, Nat.reduceBEq, Int.reduceLE, Int.reduceLT, Int.reduceEq, Int.reduceNe, Int.reduceAdd, Int.reduceSub, Int.reduceToNat, Int.reduceNeg, ↓reduceIte, reduceCtorEq]
   refine ⟨by omega, by rfl, ?_⟩
   exact KWk_bare (told_bare nx (filesA l i u).1 (filesA l i u).2 0) ⟨put u hu, rfl⟩
  ·simp only [aset, he, lay, iaddr_node, pnode, wk3, wk, Nat.reduceAdd, Nat.reduceSub, Nat.reduceMul, Nat.reduceLeDiff, Nat.reduceEqDiff, Nat.reduceBEq, Int.reduceLE, Int.reduceLT, Int.reduceEq, Int.reduceNe, Int.reduceAdd, Int.reduceSub, Int.reduceToNat, Int.reduceNeg, ↓reduceIte, reduceCtorEq]
   refine CT_ok (tells86 nx l e _) ?_
   rintro _ _ ⟨rfl, rfl⟩
   simp only [toldA, poolC, ansC, asets, lay, iaddr_node, pnode, wk3, wk, Nat.reduceAdd, Nat.reduceSub, Nat.reduceMul, Nat.reduceLeDiff, Nat.reduceEqDiff, Nat.reduceBEq, Int.reduceLE, Int.reduceLT, Int.reduceEq, Int.reduceNe, Int.reduceAdd, Int.reduceSub, Int.reduceToNat, Int.reduceNeg, ↓reduceIte, reduceCtorEq]
   exact KWk_bare (told_bare nx l e 0) ⟨told e, rfl⟩
 by_cases h_2 : k = 2
 ·simp only [h2, h_2, lay, iaddr_node, pnode, wk3, wk, Nat.reduceAdd, Nat.reduceSub, Nat.reduceMul, Nat.reduceLeDiff, Nat.reduceEqDiff, Nat.reduceBEq, Int.reduceLE, Int.reduceLT, Int.reduceEq, Int.reduceNe, Int.reduceAdd, Int.reduceSub, Int.reduceToNat, Int.reduceNeg, ↓reduceIte, reduceCtorEq]
  refine CT_ok (drop_spec (parts_loose p hp) d.files hd.files _) ?_
  rintro _ _ ⟨rfl, u, e, hu, rfl⟩
  by_cases he : e = 0
  ·simp only [aset, he, lay, iaddr_node, pnode, wk3, wk, Nat.reduceAdd, Nat.reduceSub, Nat.reduceMul, Nat.reduceLeDiff, Nat.reduceEqDiff, Nat.reduceBEq, Int.reduceLE, Int.reduceLT, Int.reduceEq, Int.reduceNe, Int.reduceAdd, Int.reduceSub, Int.reduceToNat, Int.reduceNeg, ↓reduceIte, reduceCtorEq]
   refine CT_ok (filesL l hl i u (by have := hu.len; omega) _) ?_
   rintro _ _ ⟨rfl, rfl⟩
   simp only [outA, asets, lay, iaddr_node, pnode, wk3, wk, Nat.reduceAdd, Nat.reduceSub, Nat.reduceMul, Nat.reduceLeDiff, Nat.reduceEqDiff, Nat.reduceBEq, Int.reduceLE, Int.reduceLT, Int.reduceEq, Int.reduceNe, Int.reduceAdd, Int.reduceSub, Int.reduceToNat, Int.reduceNeg, ↓reduceIte, reduceCtorEq]
   refine WT_drawE ?_
   refine WDT_more 0 ?_
   simp only [lay, iaddr_node, pnode, wk3, wk, Nat.reduceAdd, Nat.reduceSub, Nat.reduceMul, Nat.reduceLeDiff, Nat.reduceEqDiff, Nat.reduceBEq, Int.reduceLE, Int.reduceLT, Int.reduceEq, Int.reduceNe, Int.reduceAdd, Int.reduceSub, Int.reduceToNat, Int.reduceNeg, ↓reduceIte, reduceCtorEq]
   refine ⟨by omega, by rfl, ?_⟩
   exact KWk_bare (told_bare nx (filesA l i u).1 (filesA l i u).2 0) ⟨put u hu, rfl⟩
  ·simp only [aset, he, lay, iaddr_node, pnode, wk3, wk, Nat.reduceAdd, Nat.reduceSub, Nat.reduceMul, Nat.reduceLeDiff, Nat.reduceEqDiff, Nat.reduceBEq, Int.reduceLE, Int.reduceLT, Int.reduceEq, Int.reduceNe, Int.reduceAdd, Int.reduceSub, Int.reduceToNat, Int.reduceNeg, ↓reduceIte, reduceCtorEq]
   refine CT_ok (tells86 nx l e _) ?_
   rintro _ _ ⟨rfl, rfl⟩
   simp only [toldA, poolC, ansC, asets, lay, iaddr_node, pnode, wk3, wk, Nat.reduceAdd, Nat.reduceSub, Nat.reduceMul, Nat.reduceLeDiff, Nat.reduceEqDiff, Nat.reduceBEq, Int.reduceLE, Int.reduceLT, Int.reduceEq, Int.reduceNe, Int.reduceAdd, Int.reduceSub, Int.reduceToNat, Int.reduceNeg, ↓reduceIte, reduceCtorEq]
   exact KWk_bare (told_bare nx l e 0) ⟨told e, rfl⟩
 by_cases h_3 : k = 3
 ·simp only [h2, h_3, lay, iaddr_node, pnode, wk3, wk, Nat.reduceAdd, Nat.reduceSub, Nat.reduceMul, Nat.reduceLeDiff, Nat.reduceEqDiff, Nat.reduceBEq, Int.reduceLE, Int.reduceLT, Int.reduceEq, Int.reduceNe, Int.reduceAdd, Int.reduceSub, Int.reduceToNat, Int.reduceNeg, ↓reduceIte, reduceCtorEq]
  refine CT_ok (move_spec (parts_loose p hp) (parts_loose q hq) (fun _ h => h) d.files hd.files _) ?_
  rintro _ _ ⟨rfl, u, e, hu, rfl⟩
  by_cases he : e = 0
  ·simp only [aset, he, lay, iaddr_node, pnode, wk3, wk, Nat.reduceAdd, Nat.reduceSub, Nat.reduceMul, Nat.reduceLeDiff, Nat.reduceEqDiff, Nat.reduceBEq, Int.reduceLE, Int.reduceLT, Int.reduceEq, Int.reduceNe, Int.reduceAdd, Int.reduceSub, Int.reduceToNat, Int.reduceNeg, ↓reduceIte, reduceCtorEq]
   refine CT_ok (filesL l hl i u (by have := hu.len; omega) _) ?_
   rintro _ _ ⟨rfl, rfl⟩
   simp only [outA, asets, lay, iaddr_node, pnode, wk3, wk, Nat.reduceAdd, Nat.reduceSub, Nat.reduceMul, Nat.reduceLeDiff, Nat.reduceEqDiff, Nat.reduceBEq, Int.reduceLE, Int.reduceLT, Int.reduceEq, Int.reduceNe, Int.reduceAdd, Int.reduceSub, Int.reduceToNat, Int.reduceNeg, ↓reduceIte, reduceCtorEq]
   refine WT_drawE ?_
   refine WDT_more 0 ?_
   simp only [lay, iaddr_node, pnode, wk3, wk, Nat.reduceAdd, Nat.reduceSub, Nat.reduceMul, Nat.reduceLeDiff, Nat.reduceEqDiff, Nat.reduceBEq, Int.reduceLE, Int.reduceLT, Int.reduceEq, Int.reduceNe, Int.reduceAdd, Int.reduceSub, Int.reduceToNat, Int.reduceNeg, ↓reduceIte, reduceCtorEq]
   refine ⟨by omega, by rfl, ?_⟩
   exact KWk_bare (told_bare nx (filesA l i u).1 (filesA l i u).2 0) ⟨put u hu, rfl⟩
  ·simp only [aset, he, lay, iaddr_node, pnode, wk3, wk, Nat.reduceAdd, Nat.reduceSub, Nat.reduceMul, Nat.reduceLeDiff, Nat.reduceEqDiff, Nat.reduceBEq, Int.reduceLE, Int.reduceLT, Int.reduceEq, Int.reduceNe, Int.reduceAdd, Int.reduceSub, Int.reduceToNat, Int.reduceNeg, ↓reduceIte, reduceCtorEq]
   refine CT_ok (tells86 nx l e _) ?_
   rintro _ _ ⟨rfl, rfl⟩
   simp only [toldA, poolC, ansC, asets, lay, iaddr_node, pnode, wk3, wk, Nat.reduceAdd, Nat.reduceSub, Nat.reduceMul, Nat.reduceLeDiff, Nat.reduceEqDiff, Nat.reduceBEq, Int.reduceLE, Int.reduceLT, Int.reduceEq, Int.reduceNe, Int.reduceAdd, Int.reduceSub, Int.reduceToNat, Int.reduceNeg, ↓reduceIte, reduceCtorEq]
   exact KWk_bare (told_bare nx l e 0) ⟨told e, rfl⟩
 by_cases h_4 : k = 4
 ·simp only [h2, h_4, lay, iaddr_node, pnode, wk3, wk, Nat.reduceAdd, Nat.reduceSub, Nat.reduceMul, Nat.reduceLeDiff, Nat.reduceEqDiff, Nat.reduceBEq, Int.reduceLE, Int.reduceLT, Int.reduceEq, Int.reduceNe, Int.reduceAdd, Int.reduceSub, Int.reduceToNat, Int.reduceNeg, ↓reduceIte, reduceCtorEq]
  refine CT_ok (write_next (parts_loose p hp) d.files hd.files m t (by omega) _) ?_
  rintro _ _ ⟨rfl, u, e, hu, rfl⟩
  by_cases he : e = 0
  ·simp only [aset, he, lay, iaddr_node, pnode, wk3, wk, Nat.reduceAdd, Nat.reduceSub, Nat.reduceMul, Nat.reduceLeDiff, Nat.reduceEqDiff, Nat.reduceBEq, Int.reduceLE, Int.reduceLT, Int.reduceEq, Int.reduceNe, Int.reduceAdd, Int.reduceSub, Int.reduceToNat, Int.reduceNeg, ↓reduceIte, reduceCtorEq]
   refine CT_ok (filesL l hl i u (by have := hu.len; omega) _) ?_
   rintro _ _ ⟨rfl, rfl⟩
   simp only [outA, asets, lay, iaddr_node, pnode, wk3, wk, Nat.reduceAdd, Nat.reduceSub, Nat.reduceMul, Nat.reduceLeDiff, Nat.reduceEqDiff, Nat.reduceBEq, Int.reduceLE, Int.reduceLT, Int.reduceEq, Int.reduceNe, Int.reduceAdd, Int.reduceSub, Int.reduceToNat, Int.reduceNeg, ↓reduceIte, reduceCtorEq]
   refine WT_drawE ?_
   refine WDT_more 0 ?_
   simp only [lay, iaddr_node, pnode, wk3, wk, Nat.reduceAdd, Nat.reduceSub, Nat.reduceMul, Nat.reduceLeDiff, Nat.reduceEqDiff, Nat.reduceBEq, Int.reduceLE, Int.reduceLT, Int.reduceEq, Int.reduceNe, Int.reduceAdd, Int.reduceSub, Int.reduceToNat, Int.reduceNeg, ↓reduceIte, reduceCtorEq]
   refine ⟨by omega, by rfl, ?_⟩
   exact KWk_bare (told_bare nx (filesA l i u).1 (filesA l i u).2 0) ⟨put u hu, rfl⟩
  ·simp only [aset, he, lay, iaddr_node, pnode, wk3, wk, Nat.reduceAdd, Nat.reduceSub, Nat.reduceMul, Nat.reduceLeDiff, Nat.reduceEqDiff, Nat.reduceBEq, Int.reduceLE, Int.reduceLT, Int.reduceEq, Int.reduceNe, Int.reduceAdd, Int.reduceSub, Int.reduceToNat, Int.reduceNeg, ↓reduceIte, reduceCtorEq]
   refine CT_ok (tells86 nx l e _) ?_
   rintro _ _ ⟨rfl, rfl⟩
   simp only [toldA, poolC, ansC, asets, lay, iaddr_node, pnode, wk3, wk, Nat.reduceAdd, Nat.reduceSub, Nat.reduceMul, Nat.reduceLeDiff, Nat.reduceEqDiff, Nat.reduceBEq, Int.reduceLE, Int.reduceLT, Int.reduceEq, Int.reduceNe, Int.reduceAdd, Int.reduceSub, Int.reduceToNat, Int.reduceNeg, ↓reduceIte, reduceCtorEq]
   exact KWk_bare (told_bare nx l e 0) ⟨told e, rfl⟩
 have h_5 : k = 5 := by omega
 ·simp only [h2, h_1, h_2, h_3, h_4, h_5, lay, iaddr_node, pnode, wk3, wk, Nat.reduceAdd, Nat.reduceSub, Nat.reduceMul, Nat.reduceLeDiff, Nat.reduceEqDiff, Nat.reduceBEq, Int.reduceLE, Int.reduceLT, Int.reduceEq, Int.reduceNe, Int.reduceAdd, Int.reduceSub, Int.reduceToNat, Int.reduceNeg, ↓reduceIte, reduceCtorEq]
  refine CT_ok (cut_spec (parts_loose p hp) d.files hd.files m _) ?_
  rintro _ _ ⟨rfl, u, e, hu, rfl⟩
  by_cases he : e = 0
  ·simp only [aset, he, lay, iaddr_node, pnode, wk3, wk, Nat.reduceAdd, Nat.reduceSub, Nat.reduceMul, Nat.reduceLeDiff, Nat.reduceEqDiff, Nat.reduceBEq, Int.reduceLE, Int.reduceLT, Int.reduceEq, Int.reduceNe, Int.reduceAdd, Int.reduceSub, Int.reduceToNat, Int.reduceNeg, ↓reduceIte, reduceCtorEq]
   refine CT_ok (filesL l hl i u (by have := hu.len; omega) _) ?_
   rintro _ _ ⟨rfl, rfl⟩
   simp only [outA, asets, lay, iaddr_node, pnode, wk3, wk, Nat.reduceAdd, Nat.reduceSub, Nat.reduceMul, Nat.reduceLeDiff, Nat.reduceEqDiff, Nat.reduceBEq, Int.reduceLE, Int.reduceLT, Int.reduceEq, Int.reduceNe, Int.reduceAdd, Int.reduceSub, Int.reduceToNat, Int.reduceNeg, ↓reduceIte, reduceCtorEq]
   refine WT_drawE ?_
   refine WDT_more 0 ?_
   simp only [lay, iaddr_node, pnode, wk3, wk, Nat.reduceAdd, Nat.reduceSub, Nat.reduceMul, Nat.reduceLeDiff, Nat.reduceEqDiff, Nat.reduceBEq, Int.reduceLE, Int.reduceLT, Int.reduceEq, Int.reduceNe, Int.reduceAdd, Int.reduceSub, Int.reduceToNat, Int.reduceNeg, ↓reduceIte, reduceCtorEq]
   refine ⟨by omega, by rfl, ?_⟩
   exact KWk_bare (told_bare nx (filesA l i u).1 (filesA l i u).2 0) ⟨put u hu, rfl⟩
  ·simp only [aset, he, lay, iaddr_node, pnode, wk3, wk, Nat.reduceAdd, Nat.reduceSub, Nat.reduceMul, Nat.reduceLeDiff, Nat.reduceEqDiff, Nat.reduceBEq, Int.reduceLE, Int.reduceLT, Int.reduceEq, Int.reduceNe, Int.reduceAdd, Int.reduceSub, Int.reduceToNat, Int.reduceNeg, ↓reduceIte, reduceCtorEq]
   refine CT_ok (tells86 nx l e _) ?_
   rintro _ _ ⟨rfl, rfl⟩
   simp only [toldA, poolC, ansC, asets, lay, iaddr_node, pnode, wk3, wk, Nat.reduceAdd, Nat.reduceSub, Nat.reduceMul, Nat.reduceLeDiff, Nat.reduceEqDiff, Nat.reduceBEq, Int.reduceLE, Int.reduceLT, Int.reduceEq, Int.reduceNe, Int.reduceAdd, Int.reduceSub, Int.reduceToNat, Int.reduceNeg, ↓reduceIte, reduceCtorEq]
   exact KWk_bare (told_bare nx l e 0) ⟨told e, rfl⟩
end Go.Proofs.YtemjlopoffjmpaaGreat.Abs
set_option linter.unusedSimpArgs false
set_option linter.unusedVariables false
namespace Go.Proofs.YtemjlopoffjmpaaGreat.Abs
open Go Go.Proofs
theorem hgB_hangs (l : List Dset) (i : Int) : hgB l i = hangsA l i := by
 unfold hgB hangsA
 rcases idxA_cases (fun d => decide (d.origin = i)) l with ⟨h1, h2⟩ | ⟨k, h1, h2, h3, _⟩
 ·rw [h1, decide_eq_false (by decide), List.any_eq_false]
  intro d hd
  obtain ⟨n, hn, rfl⟩ := mem_dgetD hd
  rw [h2 n hn]; decide
 ·rw [h1, decide_eq_true (by omega), List.any_eq_true]
  exact ⟨_, dgetD_mem h2, h3⟩
theorem filter_erase {l : List Dset} (h : MayL l) {k : Nat} (hk : k < l.length) : l.filter (notA (l.getD k default).id) = l.eraseIdx k := by
 have e : l = l.take k ++ l.getD k default :: l.drop (k + 1) := by
  have : l.drop k = l.getD k default :: l.drop (k + 1) := by
   rw [List.drop_eq_getElem_cons hk, List.getD_eq_getElem?_getD, List.getElem?_eq_getElem hk]; rfl
  rw [← this, List.take_append_drop]
 have h1 : ∀ d ∈ l.take k, notA (l.getD k default).id d = true := fun d hd => by
  obtain ⟨j, hj, rfl⟩ := List.mem_iff_getElem.1 hd
  rw [List.length_take] at hj
  have hj2 : j < l.length := by omega
  have := h.lt (i := j) (j := k) (by omega) hk
  unfold notA
  rw [List.getElem_take, decide_eq_false]; rfl
  intro hh
  rw [List.getD_eq_getElem?_getD, List.getElem?_eq_getElem hj2] at this
  have h3 : (l[j]).id < (l.getD k default).id := this
  omega
 have h2 : ∀ d ∈ l.drop (k + 1), notA (l.getD k default).id d = true := fun d hd => by
  obtain ⟨j, hj, rfl⟩ := List.mem_iff_getElem.1 hd
  rw [List.length_drop] at hj
  have hj2 : k + 1 + j < l.length := by omega
  have := h.lt (i := k) (j := k + 1 + j) (by omega) hj2
  unfold notA
  rw [List.getElem_drop, decide_eq_false]; rfl
  intro hh
  rw [List.getD_eq_getElem?_getD (l := l) (i := k + 1 + j), List.getElem?_eq_getElem hj2] at this
  have h3 : (l.getD k default).id < (l[k + 1 + j]).id := this
  omega
 have h3 : notA (l.getD k default).id (l.getD k default) = false := by unfold notA; simp
 refine (congrArg (List.filter (notA (l.getD k default).id)) e).trans ?_
 rw [List.filter_append, List.filter_cons, List.filter_eq_self.2 h1, List.filter_eq_self.2 h2, h3, if_neg (by decide), List.eraseIdx_eq_take_drop_succ]
theorem destR_eq {l : List Dset} (h : MayL l) (i : Int) : destR l i = destroyA l i := by
 unfold destR destroyA
 rcases find_of (l := l) (i := i) with ⟨e, _⟩ | ⟨k, e, hk, hid, _⟩
 ·rw [getA_no e, if_pos (by omega)]
 ·rw [getA_of e, if_neg (by omega), e, Int.toNat_natCast, hgB_hangs, ← hid, filter_erase h hk]
theorem addA_ne {l : List Dset} (h : l ≠ []) (n : Int) (x : Dset) : (addA l n x).1 ≠ [] := by
 unfold addA
 split
 ·simp
 ·exact h
theorem createA_ne {l : List Dset} (h : l ≠ []) (n q : Int) : (createA l n q).1 ≠ [] := by
 unfold createA
 split
 ·exact h
 ·exact addA_ne h _ _
theorem snapA_ne {l : List Dset} (h : l ≠ []) (n i : Int) : (snapA l n i).1 ≠ [] := by
 unfold snapA
 cases getA l i with
 | none => exact h
 | some d => simp only; split; exact h; exact addA_ne h _ _
theorem cloneA_ne {l : List Dset} (h : l ≠ []) (n i : Int) : (cloneA l n i).1 ≠ [] := by
 unfold cloneA
 cases getA l i with
 | none => exact h
 | some d => simp only; split; exact addA_ne h _ _; exact h
theorem ne_len {l l' : List Dset} (h : l ≠ []) (e : l'.length = l.length) : l' ≠ [] := fun e2 => h (List.length_eq_zero_iff.1 (by rw [← e, e2]; rfl))
theorem backA_ne {l : List Dset} (h : l ≠ []) (i j : Int) : (backA l i j).1 ≠ [] := by
 unfold backA
 split
 ·exact h
 ·simp only
  split
  ·exact h
  ·split
   ·exact h
   ·exact ne_len h List.length_set
theorem promoteA_ne {l : List Dset} (hM : MayL l) (h : l ≠ []) (i : Int) : (promoteA l i).1 ≠ [] := by
 rcases promote_facts hM i with ⟨hA, _⟩ | ⟨c, _, ⟨_, hA⟩ | ⟨_, _, s, o, _, _, hA⟩⟩
 ·rw [hA]; exact h
 ·rw [hA]; exact h
 ·rw [hA]; exact ne_len h (List.length_map _)
theorem destroyA_ne {l : List Dset} (hM : MayL l) (h : l ≠ []) (i : Int) : (destroyA l i).1 ≠ [] := by
 unfold destroyA
 split
 ·exact h
 ·rename_i h1
  split
  ·exact h
  ·rename_i h2
   rcases find_of (l := l) (i := i) with ⟨e, _⟩ | ⟨k, e, hk, hid, _⟩
   ·omega
   rw [e, Int.toNat_natCast] at h2 ⊢
   intro e2
   have hlen := List.length_eraseIdx (l := l) (i := k)
   rw [if_pos hk] at hlen
   have e3 : (l.eraseIdx k).length = 0 := by rw [show l.eraseIdx k = [] from e2]; rfl
   have h4 : l.length = 1 := by omega
   obtain ⟨d, rfl⟩ := List.length_eq_one_iff.1 h4
   have hk0 : k = 0 := by simp at hk; omega
   subst hk0
   have hd := hM.each d (by simp)
   have hk1 : d.kind = 1 := by
    rcases hd.kinds with hh | hh
    ·exact hh
    ·obtain ⟨_, o, ho, _, hok⟩ := hd.snap hh
     rw [List.mem_singleton] at ho
     subst ho; omega
   exact h2 (.inr ⟨hk1, by unfold livesA; simp [hk1]⟩)
theorem addA_ids {l : List Dset} (n : Int) (x : Dset) (h : ∀ d ∈ l, d.id < n) : ∀ d ∈ (addA l n x).1, d.id < n + 1 := by
 unfold addA
 intro d hd
 split at hd
 ·rcases List.mem_append.1 hd with hd | hd
  ·have := h d hd; omega
  ·rw [List.mem_singleton] at hd; subst hd; show n < n + 1; omega
 ·have := h d hd; omega
theorem lt_more {l : List Dset} {n : Int} (h : ∀ d ∈ l, d.id < n) : ∀ d ∈ l, d.id < n + 1 := fun d hd => by have := h d hd; omega
theorem createA_ids {l : List Dset} (n q : Int) (h : ∀ d ∈ l, d.id < n) : ∀ d ∈ (createA l n q).1, d.id < n + 1 := by
 unfold createA
 split
 ·exact lt_more h
 ·exact addA_ids _ _ h
theorem snapA_ids {l : List Dset} (n i : Int) (h : ∀ d ∈ l, d.id < n) : ∀ d ∈ (snapA l n i).1, d.id < n + 1 := by
 unfold snapA
 cases getA l i with
 | none => exact lt_more h
 | some d =>
   simp only
   split
   ·exact lt_more h
   ·exact addA_ids _ _ h
theorem cloneA_ids {l : List Dset} (n i : Int) (h : ∀ d ∈ l, d.id < n) : ∀ d ∈ (cloneA l n i).1, d.id < n + 1 := by
 unfold cloneA
 cases getA l i with
 | none => exact lt_more h
 | some d =>
   simp only
   split
   ·exact addA_ids _ _ h
   ·exact lt_more h
theorem backA_ids {l : List Dset} (i j : Int) {n : Int} (h : ∀ d ∈ l, d.id < n) : ∀ d ∈ (backA l i j).1, d.id < n := by
 unfold backA
 split
 ·exact h
 ·rename_i h1
  simp only
  split
  ·exact h
  ·split
   ·exact h
   ·intro x hx
    rcases find_of (l := l) (i := i) with ⟨e, _⟩ | ⟨k, e, hk, _, _⟩
    ·omega
    ·rcases List.mem_or_eq_of_mem_set hx with hx | rfl
     ·exact h x hx
     ·show (l.getD (findA l i).toNat default).id < n
      rw [e, Int.toNat_natCast]; exact h _ (dgetD_mem hk)
theorem promoteA_ids {l : List Dset} (hM : MayL l) (i : Int) {n : Int} (h : ∀ d ∈ l, d.id < n) : ∀ d ∈ (promoteA l i).1, d.id < n := by
 rcases promote_facts hM i with ⟨hA, _⟩ | ⟨c, _, ⟨_, hA⟩ | ⟨_, _, s, o, _, _, hA⟩⟩
 ·rw [hA]; exact h
 ·rw [hA]; exact h
 ·rw [hA]
  intro d hd
  obtain ⟨x, hx, rfl⟩ := List.mem_map.1 hd
  exact h x hx
theorem destroyA_ids {l : List Dset} (i : Int) {n : Int} (h : ∀ d ∈ l, d.id < n) : ∀ d ∈ (destroyA l i).1, d.id < n := by
 unfold destroyA
 split
 ·exact h
 ·split
  ·exact h
  ·exact fun d hd => h d (List.mem_of_mem_eraseIdx hd)
section
variable (l : List Dset)
theorem rcreateL (hl : Short l) (next q : Int) (H : AH) : C Tryz.prog 70 [asets l, .int .i64 next, .int .i64 q] H (fun x H' => x = outA (createA l next q) ∧ H' = H) := C_any (rcreate0 l hl next q) (by simp [bareL, bare, asets]) (outA_bare _) H
theorem rsnapL (hl : Short l) (next q : Int) (H : AH) : C Tryz.prog 71 [asets l, .int .i64 next, .int .i64 q] H (fun x H' => x = outA (snapA l next q) ∧ H' = H) := C_any (rsnap0 l hl next q) (by simp [bareL, bare, asets]) (outA_bare _) H
theorem rcloneL (hl : Short l) (next q : Int) (H : AH) : C Tryz.prog 72 [asets l, .int .i64 next, .int .i64 q] H (fun x H' => x = outA (cloneA l next q) ∧ H' = H) := C_any (rclone0 l hl next q) (by simp [bareL, bare, asets]) (outA_bare _) H
theorem rpromoteL (hM : MayL l) (i : Int) (H : AH) : C Tryz.prog 73 [asets l, .int .i64 i] H (fun x H' => x = outA (promoteA l i) ∧ H' = H) := C_any (rpromote0 l hM i) (by simp [bareL, bare, asets]) (outA_bare _) H
theorem rbackL (hl : Short l) (i j : Int) (H : AH) : C Tryz.prog 74 [asets l, .int .i64 i, .int .i64 j] H (fun x H' => x = outA (backA l i j) ∧ H' = H) := C_any (rback0 l hl i j) (by simp [bareL, bare, asets]) (outA_bare _) H
theorem rdestroyL (hM : MayL l) (i : Int) (H : AH) : C Tryz.prog 75 [asets l, .int .i64 i] H (fun x H' => x = outA (destroyA l i) ∧ H' = H) := by
 rw [← destR_eq hM i]
 exact C_any (rdestroy0 l hM.short i) (by simp [bareL, bare, asets]) (outA_bare _) H
end
set_option maxHeartbeats 2000000 in
theorem sets89_0 (l : List Dset) (hM : MayL l) (nx k i m : Int) (hk : 9 ≤ k ∧ k ≤ 14) (hnx : 0 ≤ nx ∧ nx ≤ 1000000) (p q t : List UInt8) :
 C Tryz.prog 89 [.agg (poolC nx (asets l)), editA k i m p q t] [] (fun y H' => PoolR nx l y ∧ H' = []) := by
 have hl := hM.short
 have told : ∀ e : Int, PoolR nx l (toldA nx l e 0) := fun e => ⟨l, nx, e, 0, hM, StepN.refl _ _, Int.le_refl _, by omega, rfl⟩
 have w1 : IntKind.i64.wrap (nx + 1) = nx + 1 := IntWalk.i64_in _ (by omega)
 refine C_body' d89 rfl (WT_ok ?_)
 delta c89 I0 I1 I2 I3 I4 I5 I6 I7 I8 I9 KI
 simp only [poolC, editA, asets, lay, iaddr_node, pnode, wk3, wk, seval]
 by_cases h_9 : k = 9
 ·simp only [h_9, lay, iaddr_node, pnode, wk3, wk, seval]
  refine CT_ok (rcreateL l hl nx m _) ?_
  rintro _ _ ⟨rfl, rfl⟩
  have hm := createA_may hM nx m
  have hne : StepN nx (nx + 1) l (createA l nx m).1 := ⟨fun h => createA_ne h nx m, createA_ids nx m⟩
  generalize createA l nx m = r at hm hne
  obtain ⟨l', e⟩ := r
  by_cases he : e = 0
  ·simp only [outA, asets, he, h_9, w1, lay, iaddr_node, pnode, wk3, wk, seval]
   exact KWk_bare (told_bare (nx + 1) l' 0 nx) ⟨⟨l', nx + 1, 0, nx, hm, hne, by omega, Int.le_refl _, rfl⟩, rfl⟩
  ·simp only [outA, asets, he, lay, iaddr_node, pnode, wk3, wk, seval]
   refine CT_ok (tells86 nx l e _) ?_
   rintro _ _ ⟨rfl, rfl⟩
   simp only [toldA, poolC, ansC, asets, lay, iaddr_node, pnode, wk3, wk, seval]
   exact KWk_bare (told_bare nx l e 0) ⟨told e, rfl⟩
 by_cases h_10 : k = 10
 ·simp only [h_10, lay, iaddr_node, pnode, wk3, wk, seval]
  refine CT_ok (rsnapL l hl nx i _) ?_
  rintro _ _ ⟨rfl, rfl⟩
  have hm := snapA_may hM nx i
  have hne : StepN nx (nx + 1) l (snapA l nx i).1 := ⟨fun h => snapA_ne h nx i, snapA_ids nx i⟩
  generalize snapA l nx i = r at hm hne
  obtain ⟨l', e⟩ := r
  by_cases he : e = 0
  ·simp only [outA, asets, he, h_10, w1, lay, iaddr_node, pnode, wk3, wk, seval]
   exact KWk_bare (told_bare (nx + 1) l' 0 nx) ⟨⟨l', nx + 1, 0, nx, hm, hne, by omega, Int.le_refl _, rfl⟩, rfl⟩
  ·simp only [outA, asets, he, lay, iaddr_node, pnode, wk3, wk, seval]
   refine CT_ok (tells86 nx l e _) ?_
   rintro _ _ ⟨rfl, rfl⟩
   simp only [toldA, poolC, ansC, asets, lay, iaddr_node, pnode, wk3, wk, seval]
   exact KWk_bare (told_bare nx l e 0) ⟨told e, rfl⟩
 by_cases h_11 : k = 11
 ·simp only [h_11, lay, iaddr_node, pnode, wk3, wk, seval]
  refine CT_ok (rcloneL l hl nx i _) ?_
  rintro _ _ ⟨rfl, rfl⟩
  have hm := cloneA_may hM nx i
  have hne : StepN nx (nx + 1) l (cloneA l nx i).1 := ⟨fun h => cloneA_ne h nx i, cloneA_ids nx i⟩
  generalize cloneA l nx i = r at hm hne
  obtain ⟨l', e⟩ := r
  by_cases he : e = 0
  ·simp only [outA, asets, he, h_11, w1, lay, iaddr_node, pnode, wk3, wk, seval]
   exact KWk_bare (told_bare (nx + 1) l' 0 nx) ⟨⟨l', nx + 1, 0, nx, hm, hne, by omega, Int.le_refl _, rfl⟩, rfl⟩
  ·simp only [outA, asets, he, lay, iaddr_node, pnode, wk3, wk, seval]
   refine CT_ok (tells86 nx l e _) ?_
   rintro _ _ ⟨rfl, rfl⟩
   simp only [toldA, poolC, ansC, asets, lay, iaddr_node, pnode, wk3, wk, seval]
   exact KWk_bare (told_bare nx l e 0) ⟨told e, rfl⟩
 by_cases h_12 : k = 12
 ·simp only [h_12, lay, iaddr_node, pnode, wk3, wk, seval]
  refine CT_ok (rpromoteL l hM i _) ?_
  rintro _ _ ⟨rfl, rfl⟩
  have hm := promoteA_may hM i
  have hne : StepN nx nx l (promoteA l i).1 := ⟨fun h => promoteA_ne hM h i, promoteA_ids hM i⟩
  generalize promoteA l i = r at hm hne
  obtain ⟨l', e⟩ := r
  by_cases he : e = 0
  ·simp only [outA, asets, he, h_12, w1, lay, iaddr_node, pnode, wk3, wk, seval]
   exact KWk_bare (told_bare nx l' 0 0) ⟨⟨l', nx, 0, 0, hm, hne, Int.le_refl _, by omega, rfl⟩, rfl⟩
  ·simp only [outA, asets, he, lay, iaddr_node, pnode, wk3, wk, seval]
   refine CT_ok (tells86 nx l e _) ?_
   rintro _ _ ⟨rfl, rfl⟩
   simp only [toldA, poolC, ansC, asets, lay, iaddr_node, pnode, wk3, wk, seval]
   exact KWk_bare (told_bare nx l e 0) ⟨told e, rfl⟩
 by_cases h_13 : k = 13
 ·simp only [h_13, lay, iaddr_node, pnode, wk3, wk, seval]
  refine CT_ok (rbackL l hl i m _) ?_
  rintro _ _ ⟨rfl, rfl⟩
  have hm := backA_may hM i m
  have hne : StepN nx nx l (backA l i m).1 := ⟨fun h => backA_ne h i m, backA_ids i m⟩
  generalize backA l i m = r at hm hne
  obtain ⟨l', e⟩ := r
  by_cases he : e = 0
  ·simp only [outA, asets, he, h_13, w1, lay, iaddr_node, pnode, wk3, wk, seval]
   exact KWk_bare (told_bare nx l' 0 0) ⟨⟨l', nx, 0, 0, hm, hne, Int.le_refl _, by omega, rfl⟩, rfl⟩
  ·simp only [outA, asets, he, lay, iaddr_node, pnode, wk3, wk, seval]
   refine CT_ok (tells86 nx l e _) ?_
   rintro _ _ ⟨rfl, rfl⟩
   simp only [toldA, poolC, ansC, asets, lay, iaddr_node, pnode, wk3, wk, seval]
   exact KWk_bare (told_bare nx l e 0) ⟨told e, rfl⟩
 have h_14 : k = 14 := by omega
 ·simp only [h_14, lay, iaddr_node, pnode, wk3, wk, seval]
  refine CT_ok (rdestroyL l hM i _) ?_
  rintro _ _ ⟨rfl, rfl⟩
  have hm := destroyA_may hM i
  have hne : StepN nx nx l (destroyA l i).1 := ⟨fun h => destroyA_ne hM h i, destroyA_ids i⟩
  generalize destroyA l i = r at hm hne
  obtain ⟨l', e⟩ := r
  by_cases he : e = 0
  ·simp only [outA, asets, he, h_14, w1, lay, iaddr_node, pnode, wk3, wk, seval]
   exact KWk_bare (told_bare nx l' 0 0) ⟨⟨l', nx, 0, 0, hm, hne, Int.le_refl _, by omega, rfl⟩, rfl⟩
  ·simp only [outA, asets, he, lay, iaddr_node, pnode, wk3, wk, seval]
   refine CT_ok (tells86 nx l e _) ?_
   rintro _ _ ⟨rfl, rfl⟩
   simp only [toldA, poolC, ansC, asets, lay, iaddr_node, pnode, wk3, wk, seval]
   exact KWk_bare (told_bare nx l e 0) ⟨told e, rfl⟩
end Go.Proofs.YtemjlopoffjmpaaGreat.Abs
set_option linter.unusedSimpArgs false
set_option linter.unusedVariables false
namespace Go.Proofs.YtemjlopoffjmpaaGreat.Abs
open Go Go.Proofs
theorem files88 (l : List Dset) (hM : MayL l) (nx k i m : Int) (hk : 1 ≤ k ∧ k ≤ 5) (p q t : List UInt8) (hp : p.length ≤ 1000000) (hq : q.length ≤ 1000000) (ht : t.length ≤ 1000000) (H : AH) :
 C Tryz.prog 88 [.agg (poolC nx (asets l)), editA k i m p q t] H (fun y H' => H' = H ∧ PoolR nx l y) :=
 (C_pure (K0 := PoolR nx l) (files88_0 l hM nx k i m hk p q t hp hq ht) (fun τ => renL_bare τ _ (by simp [bareL, bare, asets, poolC, editA])) (by intro x hx τ; exact ren_bare _ _ hx.bare) H).mono fun y H' h => ⟨h.2, h.1⟩
theorem sets89 (l : List Dset) (hM : MayL l) (nx k i m : Int) (hk : 9 ≤ k ∧ k ≤ 14) (hnx : 0 ≤ nx ∧ nx ≤ 1000000) (p q t : List UInt8) (H : AH) :
 C Tryz.prog 89 [.agg (poolC nx (asets l)), editA k i m p q t] H (fun y H' => H' = H ∧ PoolR nx l y) :=
 (C_pure (K0 := PoolR nx l) (sets89_0 l hM nx k i m hk hnx p q t) (fun τ => renL_bare τ _ (by simp [bareL, bare, asets, poolC, editA])) (by intro x hx τ; exact ren_bare _ _ hx.bare) H).mono fun y H' h => ⟨h.2, h.1⟩
set_option maxRecDepth 8000 in
set_option maxHeartbeats 2000000 in
theorem do47_0 (l : List Dset) (hM : MayL l) (nx k i m : Int) (hk : 1 ≤ k ∧ (k ≤ 5 ∨ 9 ≤ k) ∧ k ≤ 14) (hnx : 0 ≤ nx ∧ nx ≤ 1000000) (p q t : List UInt8) (hp : p.length ≤ 1000000) (hq : q.length ≤ 1000000) (ht : t.length ≤ 1000000) :
 C Tryz.prog 47 [.agg (poolC nx (asets l)), editA k i m p q t] [] (fun y H' => PoolR nx l y ∧ H' = []) := by
 have h1 : ¬ k < 1 := by omega
 have h22 : ¬ 22 < k := by omega
 have h14 : k ≤ 14 := hk.2.2
 refine C_body' d47 rfl (WT_ok ?_)
 delta c47 I0 I1 I2 I3 I4 I5 I6 I7 I8 I9 KI
 by_cases h8 : k ≤ 8
 ·simp only [h1, h22, h8, poolC, editA, asets, lay, iaddr_node, pnode, wk3, wk, seval]
  refine CT_ok (files88 l hM nx k i m (by omega) p q t hp hq ht _) ?_
  rintro _ _ ⟨rfl, l', nx', e, m', r1, r2, r3, r4, rfl⟩
  simp only [toldA, poolC, ansC, asets, lay, iaddr_node, pnode, wk3, wk, seval]
  exact KWk_bare (told_bare nx' l' e m') ⟨⟨l', nx', e, m', r1, r2, r3, r4, rfl⟩, rfl⟩
 ·simp only [h1, h22, h8, h14, poolC, editA, asets, lay, iaddr_node, pnode, wk3, wk, seval]
  refine CT_ok (sets89 l hM nx k i m (by omega) hnx p q t _) ?_
  rintro _ _ ⟨rfl, l', nx', e, m', r1, r2, r3, r4, rfl⟩
  simp only [toldA, poolC, ansC, asets, lay, iaddr_node, pnode, wk3, wk, seval]
  exact KWk_bare (told_bare nx' l' e m') ⟨⟨l', nx', e, m', r1, r2, r3, r4, rfl⟩, rfl⟩
theorem do47 (l : List Dset) (hM : MayL l) (nx k i m : Int) (hk : 1 ≤ k ∧ (k ≤ 5 ∨ 9 ≤ k) ∧ k ≤ 14) (hnx : 0 ≤ nx ∧ nx ≤ 1000000) (p q t : List UInt8) (hp : p.length ≤ 1000000) (hq : q.length ≤ 1000000) (ht : t.length ≤ 1000000) (H : AH) :
 C Tryz.prog 47 [.agg (poolC nx (asets l)), editA k i m p q t] H (fun y H' => H' = H ∧ PoolR nx l y) :=
 (C_pure (K0 := PoolR nx l) (do47_0 l hM nx k i m hk hnx p q t hp hq ht) (fun τ => renL_bare τ _ (by simp [bareL, bare, asets, poolC, editA])) (by intro x hx τ; exact ren_bare _ _ hx.bare) H).mono fun y H' h => ⟨h.2, h.1⟩
end Go.Proofs.YtemjlopoffjmpaaGreat.Abs
