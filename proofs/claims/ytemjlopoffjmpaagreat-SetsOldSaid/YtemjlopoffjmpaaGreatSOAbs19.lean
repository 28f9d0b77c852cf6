/-
  The abstract layer, part 19: from a body to a contract; frames and heaps looked at otherwise.
-/
import Derived.Test.YtemjlopoffjmpaaGreatSOAbs18
set_option linter.unusedSimpArgs false
set_option linter.unusedVariables false
namespace Go.Proofs.YtemjlopoffjmpaaGreat.Abs
open Go
inductive ARes where
 | tmp (t : Nat)
 | cell (t : Nat) (agg : Bool) (n : Nat)
 deriving Inhabited
def ares1 (fr : List AV) (H : AH) : ARes → Option AV
 | .tmp t => some ((fr[t]?).getD .top)
 | .cell t agg n => (readAt H n ((fr[t]?).getD .top)).map (unAgg agg)
def aresL (fr : List AV) (H : AH) : List ARes → Option (List AV)
 | [] => some []
 | r :: rs =>
   match ares1 fr H r, aresL fr H rs with
   | some v, some vs => some (v :: vs)
   | _, _ => none
def tupled : List AV → AV
 | [v] => v
 | vs => .tuple vs
def ares (rs : List ARes) (fr : List AV) (H : AH) : Option AV := (aresL fr H rs).map tupled
def fitR (P : Program) : ARes → ResultVar → Bool
 | .tmp t, .tmp u => decide (t = u)
 | .cell t agg n, .cell u ty => decide (t = u) && tiB P ty agg n && (agg || decide (n = 1))
 | _, _ => false
def fitRs (P : Program) : List ARes → List ResultVar → Bool
 | [], [] => true
 | a :: as, b :: bs => fitR P a b && fitRs P as bs
 | _, _ => false
theorem run_res {P : Program} {E : Env} {w : World} {H : AH} {fr : List AV} {tmps : Array Value} (hs : Sim E w H) (hr : RepL E fr tmps) (f : ResultVar → Sem Value) (g1 : ∀ t, f (.tmp t) = pure (tmps.getD t undef))
 (g2 : ∀ a t, f (.cell a t) = do loadVar t (← asAddr (tmps.getD a undef))) : ∀ (rs : List ARes) (bs : List ResultVar) (xs : List AV), fitRs P rs bs = true → aresL fr H rs = some xs →
 ∃ vs : List Value, (bs.mapM f).run P w = .ok vs w ∧ RepL E xs vs.toArray
 | [], bs, xs, hf, he => by
   cases bs with
   | cons b bs => simp [fitRs] at hf
   | nil => simp only [aresL, Option.some.injEq] at he; subst he; exact ⟨[], by simp [Sem.run_pure], RepL.nil E⟩
 | r :: rs, bs, xs, hf, he => by
   cases bs with
   | nil => simp [fitRs] at hf
   | cons b bs =>
     simp only [fitRs, Bool.and_eq_true] at hf
     obtain ⟨hf1, hf2⟩ := hf
     simp only [aresL] at he
     split at he
     ·rename_i v vs h1 h2
      cases he
      obtain ⟨us, hrun, hrep⟩ := run_res hs hr f g1 g2 rs bs vs hf2 h2
      have key : ∃ u, (f b).run P w = .ok u w ∧ Rep E v u := by
       cases r with
       | tmp t =>
         cases b <;> simp only [fitR, Bool.false_eq_true, decide_eq_true_eq] at hf1
         subst hf1
         simp only [ares1, Option.some.injEq] at h1; subst h1
         exact ⟨_, by rw [g1]; rfl, hr.get _ _⟩
       | cell t agg n =>
         cases b <;> simp only [fitR, Bool.false_eq_true, Bool.and_eq_true, decide_eq_true_eq] at hf1
         rename_i a ty
         obtain ⟨⟨rfl, hti⟩, hone⟩ := hf1
         have ti := tiB_ok hti
         simp only [ares1] at h1
         cases hrd : readAt H n ((fr[t]?).getD .top) with
         | none => rw [hrd] at h1; cases h1
         | some cs =>
           rw [hrd] at h1; cases h1
           obtain ⟨b', off, cells, te, q, hv, hb, hin, hcs⟩ := readAt_ok (P := P) hs (hr.get t undef) hrd
           have hone' : agg = false → n = 1 := by intro h; subst h; simpa using hone
           have hld := run_loadVar_blk (P := P) ti hb hin hone'
           refine ⟨if agg then .agg (cells.extract off (off + n)) else (cells[off]?).getD undef, ?_, ?_⟩
           ·simp only [g2, hv, asAddr, Sem.run_bind, Sem.run_pure, Result.andThen]
            exact hld
           ·cases agg with
            | true => exact .agg _ _ (by simpa using hcs.1) hcs.2
            | false =>
              have := hone' rfl; subst this
              simp only [unAgg, Bool.false_eq_true, if_false]
              have hl := hcs.1
              have h0 : cs[0]? = some (cs[0]'(by simp at hl; omega)) := List.getElem?_eq_getElem _
              rw [h0, Array.getElem?_eq_getElem (show off < cells.size from by omega)]
              exact hcs.2 0 _ _ h0 (by rw [Array.getElem?_extract]; simp; omega)
      obtain ⟨u, hu, hru⟩ := key
      refine ⟨u :: us, ?_, ?_⟩
      ·simp only [List.mapM_cons, Sem.run_bind, hu, Result.andThen, hrun, Sem.run_pure]
      ·refine ⟨by have := hrep.1; simp at this; simp [this], fun i c u' hc hu' => ?_⟩
       cases i with
       | zero => simp at hc hu'; subst hc; subst hu'; exact hru
       | succ i => exact hrep.2 i c u' (by simpa using hc) (by simpa using hu')
     ·cases he
def QRet (res : List ARes) (K : AV → AH → Prop) : APost
 | .exit _, _, _ => False
 | _, fr, H => ∃ x, ares res fr H = some x ∧ K x H
structure FnD (P : Program) (f : FuncId) (np nt : Nat) (res : List ARes) (ac : ACode) : Prop where
 ex : ∃ fn code, P.funcs[f]? = some fn ∧ (fn.name == "runtime.NumGoroutine") = false ∧ fn.body = some code ∧ fn.ntmps = np + nt ∧ fitC P ac code = true ∧ fitRs P res fn.results.toList = true
theorem C_body {P : Program} {f : FuncId} {np nt : Nat} {res : List ARes} {ac : ACode} (hfd : FnD P f np nt res ac) {args : List AV} {H : AH} {K : AV → AH → Prop} (hn : args.length = np)
 (h : W P H.length ac (QRet res K) (args ++ List.replicate nt .top) H) : C P f args H K := by
 obtain ⟨fn, code, hf, hname, hbody, hnt, hfit, hres⟩ := hfd.ex
 refine ⟨⟨fn, hf, hname, by simp [hbody]⟩, fun E w vs hs hr => ?_⟩
 refine calls_of_wp hf hbody ?_
 have hl := hr.1
 have hinit : RepL E (args ++ List.replicate nt .top) (vs ++ Array.replicate (fn.ntmps - vs.size) undef) := by
  refine RepL.append hr ⟨by simp; omega, fun i c u hc _ => ?_⟩
  rw [List.getElem?_replicate] at hc
  split at hc
  ·cases hc; exact .top _
  ·cases hc
 refine wp_mono (h code E w ⟨_, []⟩ hfit hs hinit rfl) ?_
 rintro ex a' w' ⟨E', fr', H', aex, rfl, hQ, hle, hs', hr', hd'⟩
 have fin : (∃ x, ares res fr' H' = some x ∧ K x H') → a'.defers = [] ∧ ∃ v, (results fn a'.tmps).run P w' = .ok v w' ∧
  (∃ v' E'' x H'', Ending.returned v = .returned v' ∧ K x H'' ∧ LeN H.length E E'' ∧ Sim E'' w' H'' ∧ Rep E'' x v') := by
  rintro ⟨x, hx, hK⟩
  unfold ares at hx
  cases hxs : aresL fr' H' res with
  | none => rw [hxs] at hx; cases hx
  | some xs =>
    rw [hxs] at hx; cases hx
    obtain ⟨us, hrun, hrep⟩ := run_res (P := P) hs' hr' (fun | .tmp t => pure (a'.tmps.getD t undef) | .cell a t => do loadVar t (← asAddr (a'.tmps.getD a undef))) (fun _ => rfl) (fun _ _ => rfl) res fn.results.toList xs hres hxs
    refine ⟨hd', (if h : us.toArray.size = 1 then us.toArray[0] else .tuple us.toArray), ?_, _, E', _, H', rfl, hK, hle, hs', ?_⟩
    ·unfold results
     rw [Array.mapM_eq_mapM_toList, Sem.run_bind, Sem.run_map]
     refine Eq.trans (congrArg (fun r : Result (List Value) => Result.andThen (Result.andThen r (fun a w => .ok a.toArray w) : Result (Array Value)) (fun vs => (pure (if h : vs.size = 1 then vs[0] else .tuple vs) : Sem Value).run P)) hrun) ?_
     rfl
    ·match xs, hrep with
     | [x], hrep =>
       have hl1 : us.toArray.size = 1 := hrep.1.symm
       rw [dif_pos hl1]
       exact hrep.2 0 x _ rfl (Array.getElem?_eq_getElem (by omega))
     | [], hrep =>
       rw [dif_neg (by rw [← hrep.1]; simp)]
       exact .tuple _ _ hrep.1 hrep.2
     | x :: y :: r, hrep =>
       rw [dif_neg (by rw [← hrep.1]; simp)]
       exact .tuple _ _ hrep.1 hrep.2
 cases aex with
 | normal => exact fin hQ
 | ret => exact fin hQ
 | exit id => exact hQ.elim
def Tops : List AV → List AV → Prop
 | [], [] => True
 | x :: xs, y :: ys => (x = .top ∨ x = y) ∧ Tops xs ys
 | _, _ => False
theorem Tops.rep {E : Env} : ∀ {xs ys : List AV} {vs : Array Value}, Tops xs ys → RepL E ys vs → RepL E xs vs := by
 intro xs ys vs h hr
 have key : ∀ (xs ys : List AV), Tops xs ys → xs.length = ys.length ∧ ∀ (i : Nat) c, xs[i]? = some c → c = .top ∨ ys[i]? = some c := by
  intro xs
  induction xs with
  | nil => intro ys h; cases ys with | nil => exact ⟨rfl, fun i c hc => by simp at hc⟩ | cons => exact h.elim
  | cons x xs ih =>
    intro ys h
    cases ys with
    | nil => exact h.elim
    | cons y ys =>
      obtain ⟨h1, h2⟩ := ih ys h.2
      refine ⟨by simp [h1], fun i c hc => ?_⟩
      cases i with
      | zero => simp at hc; subst hc; rcases h.1 with rfl | rfl <;> simp
      | succ i => exact h2 i c (by simpa using hc)
 obtain ⟨h1, h2⟩ := key xs ys h
 refine ⟨h1.trans hr.1, fun i c u hc hu => ?_⟩
 rcases h2 i c hc with rfl | h'
 ·exact .top _
 ·exact hr.2 i c u h' hu
theorem Wk_tops {n0 : Nat} {fr fr' : List AV} {H : AH} (h : Tops fr' fr) : Wk n0 fr H fr' H := fun E _ _ hs hr => ⟨E, LeN.refl _ _, hs, h.rep hr⟩
mutual
def ren (τ : Nat → Option Nat) : AV → AV
 | .own r sz off len tot => match τ r with | some r' => .own r' sz off len tot | none => .top
 | .ptr r i j tot => match τ r with | some r' => .ptr r' i j tot | none => .top
 | .agg cs => .agg (renL τ cs)
 | .tuple cs => .tuple (renL τ cs)
 | .fn f first cap => .fn f (renL τ first) (renL τ cap)
 | .top => .top
 | .bool b => .bool b
 | .int k n => .int k n
 | .str s => .str s
 | .nilp => .nilp
 | .emp => .emp
 | .fz es => .fz es
 | .fptr cs => .fptr cs
 | .nilfn => .nilfn
def renL (τ : Nat → Option Nat) : List AV → List AV
 | [] => []
 | x :: xs => ren τ x :: renL τ xs
end
theorem renL_map (τ : Nat → Option Nat) : ∀ xs : List AV, renL τ xs = xs.map (ren τ)
 | [] => by simp [renL]
 | x :: xs => by simp [renL, renL_map τ xs]
theorem ren_emb (τ : Nat → Option Nat) (p : PV) : ren τ (emb p) = emb p := by
 cases p <;> simp [emb, ren]
theorem rep_ren {E E0 : Env} {τ : Nat → Option Nat} (hF : ∀ b o, E.F b = some o → E0.F b = some o) (hτ : ∀ r r' y, τ r = some r' → E.ρ r = some y → E0.ρ r' = some y) {x : AV} {v : Value} (h : Rep E x v) : Rep E0 (ren τ x) v := by
 induction h with
 | top v => simp only [ren]; exact .top v
 | pure h => rw [ren_emb]; exact .pure (h.mono hF)
 | agg cs vs hl _ ih =>
   simp only [ren, renL_map]
   refine .agg _ _ (by simpa using hl) (fun i c u hc hu => ?_)
   rw [List.getElem?_map] at hc
   cases hci : cs[i]? with
   | none => rw [hci] at hc; cases hc
   | some c' => rw [hci] at hc; cases hc; exact ih i c' u hci hu
 | tuple cs vs hl _ ih =>
   simp only [ren, renL_map]
   refine .tuple _ _ (by simpa using hl) (fun i c u hc hu => ?_)
   rw [List.getElem?_map] at hc
   cases hci : cs[i]? with
   | none => rw [hci] at hc; cases hc
   | some c' => rw [hci] at hc; cases hc; exact ih i c' u hci hu
 | fn f first cap vs ws hl hm _ _ ih ih' =>
   simp only [ren, renL_map]
   refine .fn f _ _ _ _ (by simpa using hl) (by simpa using hm) (fun i c u hc hu => ?_) (fun i c u hc hu => ?_)
   ·rw [List.getElem?_map] at hc
    cases hci : first[i]? with
    | none => rw [hci] at hc; cases hc
    | some c' => rw [hci] at hc; cases hc; exact ih i c' u hci hu
   ·rw [List.getElem?_map] at hc
    cases hci : cap[i]? with
    | none => rw [hci] at hc; cases hc
    | some c' => rw [hci] at hc; cases hc; exact ih' i c' u hci hu
 | own0 r sz a =>
   simp only [ren]
   split
   ·exact .own0 _ sz a
   ·exact .top _
 | own r sz off len tot cap x hρ htot hsz hlen hcap hc hn =>
   simp only [ren]
   split
   ·rename_i r' hr'; exact .own r' sz off len tot cap x (hτ r r' x hr' hρ) htot hsz hlen hcap hc hn
   ·exact .top _
 | ptr r i j tot x hρ htot =>
   simp only [ren]
   split
   ·rename_i r' hr'; exact .ptr r' i j tot x (hτ r r' x hr' hρ) htot
   ·exact .top _
 | stale_own r sz off len tot v x hρ htot h1 =>
   simp only [ren]
   split
   ·rename_i r' hr'; exact .stale_own r' sz off len tot v x (hτ r r' x hr' hρ) htot h1
   ·exact .top _
 | stale_ptr r i j tot v x hρ htot h1 =>
   simp only [ren]
   split
   ·rename_i r' hr'; exact .stale_ptr r' i j tot v x (hτ r r' x hr' hρ) htot h1
   ·exact .top _
def renO (τ : Nat → Option Nat) (o : AObj) : AObj := o.map (renL τ)
theorem renO_length (τ : Nat → Option Nat) (o : AObj) : (renO τ o).length = o.length := by simp [renO]
theorem Lies.ren {E E0 : Env} {τ : Nat → Option Nat} (hF : ∀ b o, E.F b = some o → E0.F b = some o) (hτ : ∀ r r' y, τ r = some r' → E.ρ r = some y → E0.ρ r' = some y) {w w' : World} {o : AObj} {x : Own}
 (h : Lies E w o x) (hout : E0.F x.b = none ∧ E0.X x.b = none) (hw : w'.heap[x.b]? = w.heap[x.b]?) : Lies E0 w' (renO τ o) x := by
 obtain ⟨cells, t, q, hb, hn, hq, h1, hc⟩ := h.blk
 refine ⟨by rw [renO_length]; exact h.t, h.pos, hout, ⟨cells, t, q, hw.trans hb, hn, hq, h1, ?_⟩, ?_, by rw [renO_length]; exact h.fits⟩
 ·intro i e k c v hi hk hv
  unfold renO at hi
  rw [List.getElem?_map] at hi
  cases hi' : o[i]? with
  | none => rw [hi'] at hi; cases hi
  | some e' =>
    rw [hi'] at hi; cases hi
    rw [renL_map, List.getElem?_map] at hk
    cases hk' : e'[k]? with
    | none => rw [hk'] at hk; cases hk
    | some c' => rw [hk'] at hk; cases hk; exact rep_ren hF hτ (hc i e' k c' v hi' hk' hv)
 ·intro e he
  unfold renO at he
  obtain ⟨e', he', rfl⟩ := List.mem_map.1 he
  rw [renL_map, List.length_map]
  exact h.sz e' he'
end Go.Proofs.YtemjlopoffjmpaaGreat.Abs
