/-
  The abstract layer, part 22: objects that nobody writes any more; objects that are forgotten; the end of a body.
-/
import Derived.Test.YtemjlopoffjmpaaGreatSOAbs21
set_option linter.unusedSimpArgs false
set_option linter.unusedVariables false
namespace Go.Proofs.YtemjlopoffjmpaaGreat.Abs
open Go
mutual
def frz (r : Nat) (es : List (List PV)) : AV → AV
 | .own r' sz off len tot => if r' = r then (if tot = es.length ∧ off + len ≤ tot then .fz ((es.drop off).take len) else .top) else .own r' sz off len tot
 | .ptr r' i j tot => if r' = r then (if tot = es.length then (match es[i]? with | some e => if j ≤ e.length then .fptr (e.drop j) else .top | none => .top) else .top) else .ptr r' i j tot
 | .agg cs => .agg (frzL r es cs)
 | .tuple cs => .tuple (frzL r es cs)
 | .fn f first cap => .fn f (frzL r es first) (frzL r es cap)
 | .top => .top
 | .bool b => .bool b
 | .int k n => .int k n
 | .str s => .str s
 | .nilp => .nilp
 | .emp => .emp
 | .fz es => .fz es
 | .fptr cs => .fptr cs
 | .nilfn => .nilfn
def frzL (r : Nat) (es : List (List PV)) : List AV → List AV
 | [] => []
 | x :: xs => frz r es x :: frzL r es xs
end
theorem frzL_map (r : Nat) (es : List (List PV)) : ∀ xs : List AV, frzL r es xs = xs.map (frz r es)
 | [] => by simp [frzL]
 | x :: xs => by simp [frzL, frzL_map r es xs]
theorem RepL.mapped {E E' : Env} {f : AV → AV} {xs : List AV} {vs : Array Value} (h : RepL E xs vs) (hf : ∀ c u, Rep E c u → Rep E' (f c) u) : RepL E' (xs.map f) vs := by
 refine ⟨by simpa using h.1, fun i c u hc hu => ?_⟩
 rw [List.getElem?_map] at hc
 cases hci : xs[i]? with
 | none => rw [hci] at hc; cases hc
 | some c' => rw [hci] at hc; cases hc; exact hf _ _ (h.2 i c' u hci hu)
theorem rep_frz {E E2 : Env} {w : World} {H : AH} (hs : Sim E w H) {r : Nat} {es : List (List PV)} (hat : H.at r = some (es.map fun e => e.map emb)) (hF : ∀ b o, E.F b = some o → E2.F b = some o) (hρ : E2.ρ = E.ρ)
 (hown : ∀ x, E.ρ r = some x → E2.F x.b = w.heap[x.b]?) {x : AV} {v : Value} (h : Rep E x v) : Rep E2 (frz r es x) v := by
 have hlies : ∀ x, E.ρ r = some x → Lies E w (es.map fun e => e.map emb) x := fun x hx => lies_of hs hat hx
 have pv : ∀ (c : PV) u, Rep E (emb c) u → u.oneCell' = true → RepP E2.F c u := by
  intro c u hc h1
  have := toPV_rep hF hc h1
  have e : (toPV (emb c)).getD .top = c := by cases c <;> rfl
  rwa [e] at this
 induction h with
 | top v => simp only [frz]; exact .top v
 | pure h =>
   rename_i x v
   have e : frz r es (emb x) = emb x := by cases x <;> simp [emb, frz]
   rw [e]; exact .pure (h.mono hF)
 | agg cs vs hl _ ih =>
   simp only [frz, frzL_map]
   refine .agg _ _ (by simpa using hl) (fun i c u hc hu => ?_)
   rw [List.getElem?_map] at hc
   cases hci : cs[i]? with
   | none => rw [hci] at hc; cases hc
   | some c' => rw [hci] at hc; cases hc; exact ih i c' u hci hu
 | tuple cs vs hl _ ih =>
   simp only [frz, frzL_map]
   refine .tuple _ _ (by simpa using hl) (fun i c u hc hu => ?_)
   rw [List.getElem?_map] at hc
   cases hci : cs[i]? with
   | none => rw [hci] at hc; cases hc
   | some c' => rw [hci] at hc; cases hc; exact ih i c' u hci hu
 | fn f first cap vs ws hl hm _ _ ih ih' =>
   simp only [frz, frzL_map]
   refine .fn f _ _ _ _ (by simpa using hl) (by simpa using hm) (fun i c u hc hu => ?_) (fun i c u hc hu => ?_)
   ·rw [List.getElem?_map] at hc
    cases hci : first[i]? with
    | none => rw [hci] at hc; cases hc
    | some c' => rw [hci] at hc; cases hc; exact ih i c' u hci hu
   ·rw [List.getElem?_map] at hc
    cases hci : cap[i]? with
    | none => rw [hci] at hc; cases hc
    | some c' => rw [hci] at hc; cases hc; exact ih' i c' u hci hu
 | own0 r' sz a =>
   simp only [frz]
   split
   ·split
    ·rw [List.take_zero]; exact .pure (x := .fz []) (.fz0 _ _)
    ·exact .top _
   ·exact .own0 r' sz a
 | own r' sz off len tot cap x hx htot hsz hlen hcap hc hn =>
   simp only [frz]
   split
   ·rename_i hr; subst hr
    split
    ·rename_i hok
     obtain ⟨htl, hle⟩ := hok
     have hl := hlies x hx
     obtain ⟨cells, t, q, hb, hcn, hq, hone, hrow⟩ := hl.blk
     have hFb := hown x hx
     rw [hb] at hFb
     have hll : ((es.drop off).take len).length = len := by simp; omega
     have hmul : (off + len) * x.sz ≤ es.length * x.sz := Nat.mul_le_mul_right _ (by omega)
     have hfit := hl.fits
     rw [List.length_map] at hfit
     rw [Nat.add_mul] at hmul
     rw [show Value.slice (some ⟨x.b, off * x.sz, none⟩) len cap = Value.slice (some ⟨x.b, off * x.sz, none⟩) ((es.drop off).take len).length cap from by rw [hll]]
     refine .pure (x := .fz _) (.fz _ x.b (off * x.sz) cap x.sz cells t q hFb (by rw [hll]; exact hcap) ?_ (by rw [hll]; omega) ?_)
     ·intro e he
      have := hl.sz (e.map emb) (List.mem_map.2 ⟨e, List.mem_of_mem_drop (List.mem_of_mem_take he), rfl⟩)
      simpa using this
     ·intro i e k c u hi hk hu
      have hil : i < len := by
       rcases Nat.lt_or_ge i len with h' | h'
       ·exact h'
       ·rw [List.getElem?_eq_none (by omega)] at hi; cases hi
      rw [List.getElem?_take_of_lt hil, List.getElem?_drop] at hi
      have hu' : cells[(off + i) * x.sz + k]? = some u := by rw [← hu, Nat.add_mul]; congr 1; omega
      exact pv c u (hrow (off + i) (e.map emb) k (emb c) u (by rw [List.getElem?_map, hi]; rfl) (by rw [List.getElem?_map, hk]; rfl) hu') (hone _ u hu')
    ·exact .top _
   ·exact .own r' sz off len tot cap x (by rw [hρ]; exact hx) htot hsz hlen hcap hc hn
 | ptr r' i j tot x hx htot =>
   simp only [frz]
   split
   ·rename_i hr; subst hr
    split
    ·rename_i htl
     split
     ·rename_i e he
      split
      ·rename_i hje
       have hl := hlies x hx
       obtain ⟨cells, t, q, hb, hcn, hq, hone, hrow⟩ := hl.blk
       have hFb := hown x hx
       rw [hb] at hFb
       have hil : i < es.length := by
        rcases Nat.lt_or_ge i es.length with h' | h'
        ·exact h'
        ·rw [List.getElem?_eq_none h'] at he; cases he
       have hel : e.length = x.sz := by
        have := hl.sz (e.map emb) (List.mem_map.2 ⟨e, List.mem_of_getElem? he, rfl⟩)
        simpa using this
       have hm := mul_le_of_lt (sz := x.sz) hil
       have hfit := hl.fits
       rw [List.length_map] at hfit
       refine .pure (x := .fptr _) (.fptr _ x.b _ cells t q hFb (by simp; omega) ?_)
       intro k c u hk hu
       rw [List.getElem?_drop] at hk
       have hu' : cells[i * x.sz + (j + k)]? = some u := by rw [← hu]; congr 1; omega
       exact pv c u (hrow i (e.map emb) (j + k) (emb c) u (by rw [List.getElem?_map, he]; rfl) (by rw [List.getElem?_map, hk]; rfl) hu') (hone _ u hu')
      ·exact .top _
     ·exact .top _
    ·exact .top _
   ·exact .ptr r' i j tot x (by rw [hρ]; exact hx) htot
 | stale_own r' sz off len tot v x hx htot h1 =>
   simp only [frz]
   split
   ·rename_i hr; subst hr
    split
    ·rename_i hok
     have hl := hlies x hx
     have := hl.t
     rw [List.length_map] at this
     omega
    ·exact .top _
   ·exact .stale_own r' sz off len tot v x (by rw [hρ]; exact hx) htot h1
 | stale_ptr r' i j tot v x hx htot h1 =>
   simp only [frz]
   split
   ·rename_i hr; subst hr
    split
    ·rename_i hok
     have hl := hlies x hx
     have := hl.t
     rw [List.length_map] at this
     omega
    ·exact .top _
   ·exact .stale_ptr r' i j tot v x (by rw [hρ]; exact hx) htot h1
def mapH (f : List AV → List AV) (H : AH) : AH := H.map fun o => o.map fun o => o.map f
theorem at_map {f : List AV → List AV} {H : AH} {r : Nat} {o : AObj} (h : AH.at (mapH f H) r = some o) : ∃ o', H.at r = some o' ∧ o = o'.map f := by
 unfold AH.at mapH at h
 rw [List.getElem?_map] at h
 cases hr : H[r]? with
 | none => rw [hr] at h; cases h
 | some oo =>
   rw [hr] at h
   simp only [Option.map_some, Option.join_some] at h
   cases oo with
   | none => cases h
   | some o' => cases h; exact ⟨o', by unfold AH.at; rw [hr]; rfl, rfl⟩
theorem Wk_freeze {n0 : Nat} {fr : List AV} {H : AH} (r : Nat) (es : List (List PV)) (hat : H.at r = some (es.map fun e => e.map emb)) : Wk n0 fr H (frzL r es fr) (mapH (frzL r es) (H.set r none)) := by
 intro E w vs hs hr
 rw [frzL_map]
 let E2 : Env := { E with F := fun b => if (∃ x, E.ρ r = some x ∧ x.b = b) then w.heap[b]? else E.F b }
 have hFm : ∀ b, (∃ x, E.ρ r = some x ∧ x.b = b) → E.F b = none ∧ E.X b = none := by
  rintro b ⟨x, hx, rfl⟩
  exact (lies_of hs hat hx).out
 have hF : ∀ b o, E.F b = some o → E2.F b = some o := by
  intro b o hb
  simp only [E2]
  rw [if_neg (fun hm => by rw [(hFm b hm).1] at hb; cases hb)]; exact hb
 have hown : ∀ x, E.ρ r = some x → E2.F x.b = w.heap[x.b]? := by
  intro x hx
  simp only [E2]
  rw [if_pos ⟨x, hx, rfl⟩]
 have hfr : ∀ c u, Rep E c u → Rep E2 (frz r es c) u := fun c u h => rep_frz hs hat hF rfl hown h
 have hle : Le E E2 := ⟨hF, fun s x hx => ⟨x, hx, .inl rfl⟩, rfl, rfl, rfl, rfl⟩
 refine ⟨E2, hle.toN n0, ?_, hr.mapped hfr⟩
 refine ⟨hs.os, hs.tape, hs.output, fun b o hb => ?_, fun b o hb => ?_, fun s x hx => by simp [mapH]; exact hs.dom s x hx, fun s o ho => ?_, fun s s' o o' x x' h1 h2 h3 h4 hb => ?_⟩
 ·rcases hb with hb | hb
  ·simp only [E2] at hb
   split at hb
   ·exact hb
   ·exact hs.frz b o (.inl hb)
  ·exact hs.frz b o (.inr hb)
 ·simp only [E2] at hb
  split at hb
  ·rename_i hm; exact (hFm b hm).2
  ·exact hs.disj b o hb
 ·obtain ⟨o', ho', rfl⟩ := at_map ho
  have hsr : r ≠ s := by
   rintro rfl
   rw [at_set_eq _ (at_lt hat)] at ho'; cases ho'
  rw [at_set_ne _ hsr] at ho'
  rcases hs.obj s o' ho' with ⟨rfl, hn⟩ | ⟨x, hx, hl⟩
  ·exact .inl ⟨rfl, hn⟩
  ·refine .inr ⟨x, hx, ?_⟩
   obtain ⟨cells, t, q, hb, hcn, hq, hone, hrow⟩ := hl.blk
   refine ⟨by rw [List.length_map]; exact hl.t, hl.pos, ⟨?_, hl.out.2⟩, ⟨cells, t, q, hb, hcn, hq, hone, ?_⟩, ?_, by rw [List.length_map]; exact hl.fits⟩
   ·simp only [E2]
    rw [if_neg]
    ·exact hl.out.1
    ·rintro ⟨y, hy, hyb⟩
     exact hsr (hs.inj r s _ _ y x hat ho' hy hx hyb)
   ·intro i e k c v hi hk hv
    rw [List.getElem?_map] at hi
    cases hi' : o'[i]? with
    | none => rw [hi'] at hi; cases hi
    | some e' =>
      rw [hi'] at hi; cases hi
      rw [frzL_map, List.getElem?_map] at hk
      cases hk' : e'[k]? with
      | none => rw [hk'] at hk; cases hk
      | some c' => rw [hk'] at hk; cases hk; exact hfr _ _ (hrow i e' k c' v hi' hk' hv)
   ·intro e he
    obtain ⟨e', he', rfl⟩ := List.mem_map.1 he
    rw [frzL_map, List.length_map]
    exact hl.sz e' he'
 ·obtain ⟨p, hp, rfl⟩ := at_map h1
  obtain ⟨p', hp', rfl⟩ := at_map h2
  have key : ∀ {s o}, AH.at (H.set r none) s = some o → H.at s = some o := by
   intro s o h
   by_cases hsr : r = s
   ·subst hsr; rw [at_set_eq _ (at_lt hat)] at h; cases h
   ·rwa [at_set_ne _ hsr] at h
  exact hs.inj s s' p p' x x' (key hp) (key hp') h3 h4 hb
def upTo (n r : Nat) : Option Nat := if r < n then some r else none
theorem Wk_forget {n0 : Nat} {fr : List AV} {H : AH} (n : Nat) (hn : n0 ≤ n) : Wk n0 fr H (renL (upTo n) fr) (mapH (renL (upTo n)) (H.take n)) := by
 intro E w vs hs hr
 rw [renL_map]
 let E2 : Env := { E with ρ := fun r => if r < n then E.ρ r else none }
 have hτ : ∀ r r' y, upTo n r = some r' → E.ρ r = some y → E2.ρ r' = some y := by
  intro r r' y h1 h2
  unfold upTo at h1
  split at h1
  ·cases h1; simp only [E2]; rw [if_pos (by assumption)]; exact h2
  ·cases h1
 have hfr : ∀ c u, Rep E c u → Rep E2 (ren (upTo n) c) u := fun c u h => rep_ren (E := E) (E0 := E2) (fun _ _ h => h) hτ h
 have hrn : ∀ s x, E2.ρ s = some x → s < n ∧ E.ρ s = some x := by
  intro s x hx
  simp only [E2] at hx
  split at hx
  ·exact ⟨by assumption, hx⟩
  ·cases hx
 have key : ∀ {s o}, AH.at (H.take n) s = some o → H.at s = some o := by
  intro s o h
  unfold AH.at at h ⊢
  rcases Nat.lt_or_ge s n with h' | h'
  ·rwa [List.getElem?_take_of_lt h'] at h
  ·rw [List.getElem?_eq_none (by simp; omega)] at h; cases h
 refine ⟨E2, ⟨fun _ _ h => h, fun r x hrn' hx => ⟨x, by simp only [E2]; rw [if_pos (by omega)]; exact hx, .inl rfl⟩, rfl, rfl, rfl, rfl⟩, ?_, hr.mapped hfr⟩
 refine ⟨hs.os, hs.tape, hs.output, hs.frz, hs.disj, fun s x hx => ?_, fun s o ho => ?_, fun s s' o o' x x' h1 h2 h3 h4 hb => ?_⟩
 ·obtain ⟨a, b⟩ := hrn s x hx
  have := hs.dom s x b
  simp [mapH]; omega
 ·obtain ⟨o', ho', rfl⟩ := at_map ho
  have hsn : s < n := by have := at_lt ho'; simp at this; omega
  have ho2 := key ho'
  rcases hs.obj s o' ho2 with ⟨rfl, hn'⟩ | ⟨x, hx, hl⟩
  ·exact .inl ⟨rfl, by simp only [E2]; rw [if_pos hsn]; exact hn'⟩
  ·refine .inr ⟨x, by simp only [E2]; rw [if_pos hsn]; exact hx, ?_⟩
   have := Lies.ren (E := E) (E0 := E2) (τ := upTo n) (fun _ _ h => h) hτ hl hl.out (w' := w) rfl
   exact this
 ·obtain ⟨p, hp, rfl⟩ := at_map h1
  obtain ⟨p', hp', rfl⟩ := at_map h2
  exact hs.inj s s' p p' x x' (key hp) (key hp') (hrn s x h3).2 (hrn s' x' h4).2 hb
def KWk (n : Nat) (K : AV → AH → Prop) : AV → AH → Prop := fun x H => ∃ x' H', Wk n [x] H [x'] H' ∧ K x' H'
theorem C_post {P : Program} {f : FuncId} {args : List AV} {H : AH} {K : AV → AH → Prop} (h : C P f args H (KWk H.length K)) : C P f args H K := by
 refine ⟨h.1, fun E w vs hs hr => (h.2 E w vs hs hr).mono ?_⟩
 rintro e w' ⟨v, E', x, H', he, ⟨x2, H2, hwk, hK⟩, hle, hs', hx⟩
 obtain ⟨E2, h1, h2, h3⟩ := hwk E' w' #[v] hs' ⟨rfl, fun i c u hc hu => by
  match i, hc, hu with
  | 0, hc, hu => simp at hc hu; subst hc; subst hu; exact hx
  | i + 1, hc, _ => simp at hc⟩
 exact ⟨v, E2, x2, H2, he, hK, hle.trans h1, h2, h3.2 0 x2 v rfl rfl⟩
theorem C_body' {P : Program} {f : FuncId} {np nt : Nat} {res : List ARes} {ac : ACode} (hfd : FnD P f np nt res ac) {args : List AV} {H : AH} {K : AV → AH → Prop} (hn : args.length = np)
 (h : W P H.length ac (QRet res (KWk H.length K)) (args ++ List.replicate nt .top) H) : C P f args H K := C_post (C_body hfd hn h)
theorem guardA_tt (yes no : Prop) : guardA (some (.bool true)) true yes no = yes := by
 simp [guardA]
theorem guardA_ff (yes no : Prop) : guardA (some (.bool false)) false yes no = yes := by
 simp [guardA]
theorem guardA_tf (yes no : Prop) : guardA (some (.bool true)) false yes no = no := by
 simp [guardA]
theorem guardA_ft (yes no : Prop) : guardA (some (.bool false)) true yes no = no := by
 simp [guardA]
end Go.Proofs.YtemjlopoffjmpaaGreat.Abs
