/-
  The abstract layer, part 24: regions that draw their order, where no operation changes the heap.
-/
import Derived.Test.YtemjlopoffjmpaaGreatSOAbs23
set_option linter.unusedSimpArgs false
set_option linter.unusedVariables false
namespace Go.Proofs.YtemjlopoffjmpaaGreat.Abs
open Go
theorem bnd_congr {ev ev' : Opd → AV} {x : Option Opd} (h : ∀ y ∈ x.toList, ev y = ev' y) (d t : Nat) : bnd ev x d t = bnd ev' x d t := by
 cases x with
 | none => rfl
 | some x => simp only [bnd, h x (by simp)]
theorem fillA_congr {ev ev' : Opd → AV} : ∀ (parts : List (Nat × Nat × Opd)) (cells : List AV), (∀ p ∈ parts, ev p.2.2 = ev' p.2.2) → fillA ev cells parts = fillA ev' cells parts
 | [], _, _ => rfl
 | (off, size, x) :: rest, cells, h => by
   have h0 : ev x = ev' x := h (off, size, x) (by simp)
   simp only [fillA, h0]
   cases cellsOf (ev' x) with
   | none => rfl
   | some cs => simp only []; split <;> first | exact fillA_congr rest _ (fun p hp => h p (by simp [hp])) | rfl
theorem aop_congr {op : AOp} {ev ev' : Opd → AV} (H : AH) (h : ∀ x ∈ opdsA op, ev x = ev' x) : aop op ev H = aop op ev' H := by
 unfold aop
 have e0 : aop0 op ev H = aop0 op ev' H := by
  cases op
  case build zero parts =>
   simp only [aop0]
   rw [fillA_congr parts zero (fun p hp => h _ (List.mem_map.2 ⟨p, hp, rfl⟩))]
  case slices x lo hi =>
   have hl : ∀ d t, bnd ev lo d t = bnd ev' lo d t := bnd_congr (fun y hy => h y (by simp [opdsA] at hy ⊢; simp [hy]))
   have hh : ∀ d t, bnd ev hi d t = bnd ev' hi d t := bnd_congr (fun y hy => h y (by simp [opdsA] at hy ⊢; simp [hy]))
   simp only [aop0, h x (by simp [opdsA]), hl, hh]
  case slicel sz x lo hi =>
   have hl : ∀ d t, bnd ev lo d t = bnd ev' lo d t := bnd_congr (fun y hy => h y (by simp [opdsA] at hy ⊢; simp [hy]))
   have hh : ∀ d t, bnd ev hi d t = bnd ev' hi d t := bnd_congr (fun y hy => h y (by simp [opdsA] at hy ⊢; simp [hy]))
   simp only [aop0, h x (by simp [opdsA]), hl, hh]
  case slice3 x lo hi mx =>
   have hl : ∀ d t, bnd ev (some lo) d t = bnd ev' (some lo) d t := bnd_congr (fun y hy => h y (by simp [opdsA] at hy ⊢; simp [hy]))
   have hh : ∀ d t, bnd ev (some hi) d t = bnd ev' (some hi) d t := bnd_congr (fun y hy => h y (by simp [opdsA] at hy ⊢; simp [hy]))
   have hx : ∀ d t, bnd ev (some mx) d t = bnd ev' (some mx) d t := bnd_congr (fun y hy => h y (by simp [opdsA] at hy ⊢; simp [hy]))
   simp only [aop0, h x (by simp [opdsA]), hl, hh, hx]
  case mkfn f first cap =>
   have h1 : first.map ev = first.map ev' := List.map_congr_left fun x hx => h x (by simp [opdsA, hx])
   have h2 : cap.map ev = cap.map ev' := List.map_congr_left fun x hx => h x (by simp [opdsA, hx])
   simp only [aop0, h1, h2]
  case len str x => cases str <;> simp only [aop0, h x (by simp [opdsA])]
  all_goals (simp only [opdsA, List.mem_cons, List.not_mem_nil, or_false, forall_eq_or_imp, forall_eq] at h; simp only [aop0, h])
 have e1 : aop1 op ev H = aop1 op ev' H := by
  cases op
  case bslice sz len zero parts =>
   simp only [aop1]
   rw [fillA_congr _ _ (fun p hp => by obtain ⟨q, hq, rfl⟩ := List.mem_map.1 hp; exact h _ (List.mem_map.2 ⟨q, hq, rfl⟩))]
  all_goals first
   | rfl
   | (simp only [opdsA, List.mem_cons, List.not_mem_nil, or_false, forall_eq_or_imp, forall_eq] at h; simp only [aop1, h])
 rw [e0, e1]
def stepVal (P : Program) (op : AOp) (ev : Opd → AV) (H : AH) (v : AV) : Prop :=
 match op with
 | .call f args => C P f (args.map ev) H fun x H' => x = v ∧ H' = H
 | .calld x args => ∃ f first cap, ev x = .fn (.func f) first cap ∧ C P f (first ++ args.map ev ++ cap) H fun x H' => x = v ∧ H' = H
 | .eqnil neg x => ∃ b, nilq H (ev x) = some (some b) ∧ v = .bool (b != neg)
 | op => aop op ev H = some (v, H)
theorem stepVal_congr {P : Program} {op : AOp} {ev ev' : Opd → AV} {H : AH} {v : AV} (h : ∀ x ∈ opdsA op, ev x = ev' x) (hs : stepVal P op ev H v) : stepVal P op ev' H v := by
 have ha := aop_congr H h
 cases op
 case call f args =>
  have h1 : args.map ev = args.map ev' := List.map_congr_left fun x hx => h x (by simp [opdsA, hx])
  simp only [stepVal, h1] at hs ⊢; exact hs
 case calld x args =>
  have h1 : args.map ev = args.map ev' := List.map_congr_left fun x hx => h x (by simp [opdsA, hx])
  have h2 : ev x = ev' x := h x (by simp [opdsA])
  simp only [stepVal, h1, h2] at hs ⊢; exact hs
 case eqnil neg x =>
  have h2 : ev x = ev' x := h x (by simp [opdsA])
  simp only [stepVal, h2] at hs ⊢; exact hs
 all_goals (simp only [stepVal] at hs ⊢; rw [← ha]; exact hs)
theorem stepVal_A {P : Program} {i : AInstr} {fr : List AV} {H : AH} {v : AV} (hs : stepVal P i.op (evalA fr) H v) : stepA P i (fun f H' => f = setA fr i.dst v ∧ H' = H) fr H := by
 obtain ⟨d, g, op⟩ := i
 cases op
 case call f args => exact C.mono hs fun x H' ⟨h1, h2⟩ => ⟨by rw [h1], h2⟩
 case calld x args =>
  obtain ⟨f, first, cap, h1, h2⟩ := hs
  exact ⟨f, first, cap, h1, h2.mono fun x H' ⟨h1, h2⟩ => ⟨by rw [h1], h2⟩⟩
 case eqnil neg x =>
  obtain ⟨b, h1, rfl⟩ := hs
  exact ⟨_, h1, fun c hc => by rw [hc b rfl]; exact ⟨rfl, rfl⟩⟩
 all_goals (simp only [stepVal] at hs; simp only [stepA, hs, onSome]; first | exact ⟨rfl, rfl⟩ | exact ⟨trivial, trivial⟩)
def Put (fs : List AV) (d : Option Nat) (v : AV) : Prop := ∀ t, d = some t → t < fs.length → fs[t]? = some v
def Good (P : Program) (H : AH) (fv fs : List AV) (a : AInstr) : Prop :=
 match a.guard with
 | none => ∃ v, stepVal P a.op (evalA fv) H v ∧ Put fs a.dst v
 | some (g, want) => (∃ b, fv[g]? = some (.bool b) ∧ (b = want → ∃ v, stepVal P a.op (evalA fv) H v ∧ Put fs a.dst v) ∧ (b ≠ want → Put fs a.dst (.tuple []))) ∨ (fv[g]? = some (.tuple []) ∧ Put fs a.dst (.tuple []))
structure Sees (is : List AInstr) (fr fs fv : List AV) (i : Nat) (a : AInstr) : Prop where
 old : ∀ t ∈ slotsI a, (∀ (j : Nat) (b : AInstr), j < i → is[j]? = some b → b.dst ≠ some t) → fv[t]? = fr[t]?
 new : ∀ t ∈ slotsI a, ∀ (j : Nat) (b : AInstr), j < i → is[j]? = some b → b.dst = some t → fv[t]? = fs[t]?
def RSA (P : Program) : List AInstr → (List AV → Prop) → List AV → AH → Prop
 | [], K, fr, _ => K fr
 | i :: rest, K, fr, H =>
   match i.guard with
   | none => ∃ v, stepVal P i.op (evalA fr) H v ∧ RSA P rest K (setA fr i.dst v) H
   | some (g, want) => guardA (fr[g]?) want (∃ v, stepVal P i.op (evalA fr) H v ∧ RSA P rest K (setA fr i.dst v) H) (RSA P rest K (setA fr i.dst (.tuple [])) H)
def Apart (is : List AInstr) : Prop := ∀ (i j : Nat) (a b : AInstr) (d : Nat), is[i]? = some a → is[j]? = some b → b.dst = some d → a.dst = some d → i = j
theorem setA_len (fr : List AV) (d : Option Nat) (v : AV) : (setA fr d v).length = fr.length := by cases d <;> simp [setA]
theorem setA_ne {fr : List AV} {d : Option Nat} {v : AV} {t : Nat} (h : d ≠ some t) : (setA fr d v)[t]? = fr[t]? := by
 cases d with
 | none => rfl
 | some d => simp only [setA]; exact List.getElem?_set_ne (fun e => h (by rw [e]))
theorem evalA_congr {fr fs : List AV} {op : AOp} (h : ∀ t ∈ (opdsA op).flatMap slotT, fr[t]? = fs[t]?) : ∀ x ∈ opdsA op, evalA fr x = evalA fs x := by
 intro x hx
 cases x with
 | c v => rfl
 | t n => simp only [evalA]; rw [h n (List.mem_flatMap.2 ⟨_, hx, by simp [slotT]⟩)]
theorem RSA_ends {P : Program} {H : AH} {K : List AV → Prop} : ∀ (is : List AInstr) (fr : List AV), Apart is → RSA P is K fr H →
 ∃ fs, K fs ∧ fs.length = fr.length ∧ (∀ t, (∀ (j : Nat) (a : AInstr), is[j]? = some a → a.dst ≠ some t) → fs[t]? = fr[t]?) ∧ ∀ (j : Nat) (a : AInstr), is[j]? = some a → ∃ fv, Good P H fv fs a ∧ Sees is fr fs fv j a
 | [], fr, _, h => ⟨fr, h, rfl, fun _ _ => rfl, fun j a hj => by simp at hj⟩
 | i :: rest, fr, hap, h => by
   have hap' : Apart rest := fun p q a b d ha hb hd hd' => by
    have := hap (p + 1) (q + 1) a b d (by simpa using ha) (by simpa using hb) hd hd'
    omega
   have key : ∀ v, RSA P rest K (setA fr i.dst v) H → (∀ fs, Put fs i.dst v → Good P H fr fs i) → ∃ fs, K fs ∧ fs.length = fr.length ∧ (∀ t, (∀ (j : Nat) (a : AInstr), (i :: rest)[j]? = some a → a.dst ≠ some t) → fs[t]? = fr[t]?) ∧
    ∀ (j : Nat) (a : AInstr), (i :: rest)[j]? = some a → ∃ fv, Good P H fv fs a ∧ Sees (i :: rest) fr fs fv j a := by
    intro v hv hgd
    obtain ⟨fs, h1, h2, h3, h4⟩ := RSA_ends rest _ hap' hv
    rw [setA_len] at h2
    have hput : ∀ t, i.dst = some t → fs[t]? = (setA fr i.dst v)[t]? := fun t hd => h3 t (fun j a hj hda => by have := hap 0 (j + 1) i a t rfl (by simpa using hj) hda hd; omega)
    have hP : Put fs i.dst v := by
     intro t hd hlt
     rw [hput t hd, hd]
     simp only [setA]
     rw [List.getElem?_set_self (by omega)]
    refine ⟨fs, h1, h2, fun t ht => ?_, fun j a hj => ?_⟩
    ·rw [h3 t (fun j a hj => ht (j + 1) a (by simpa using hj))]
     exact setA_ne (ht 0 i rfl)
    ·cases j with
     | zero =>
       simp at hj; subst hj
       exact ⟨fr, hgd fs hP, fun t _ _ => rfl, fun t _ j b hlt => by omega⟩
     | succ j =>
       obtain ⟨fv, k1, k2⟩ := h4 j a (by simpa using hj)
       refine ⟨fv, k1, fun t ht hno => ?_, fun t ht j' b hlt hj' hd => ?_⟩
       ·rw [k2.old t ht (fun j' b hlt hb => hno (j' + 1) b (by omega) (by simpa using hb))]
        exact setA_ne (hno 0 i (by omega) rfl)
       ·cases j' with
        | zero =>
          simp at hj'; subst hj'
          rw [k2.old t ht (fun j' b hlt hb hdb => by have := hap 0 (j' + 1) _ b t rfl (by simpa using hb) hdb hd; omega), hput t hd]
        | succ j' => exact k2.new t ht j' b (by omega) (by simpa using hj') hd
   unfold RSA at h
   cases hg : i.guard with
   | none =>
     rw [hg] at h
     obtain ⟨v, hv, hr⟩ := h
     exact key v hr fun fs hp => by unfold Good; rw [hg]; exact ⟨v, hv, hp⟩
   | some gw =>
     obtain ⟨g, want⟩ := gw
     rw [hg] at h
     rcases h with ⟨b, hb, hyes, hno⟩ | ⟨hb, hno⟩
     ·by_cases hbw : b = want
      ·obtain ⟨v, hv, hr⟩ := hyes hbw
       exact key v hr fun fs hp => by unfold Good; rw [hg]; exact .inl ⟨b, hb, fun _ => ⟨v, hv, hp⟩, fun hn => absurd hbw hn⟩
      ·exact key (.tuple []) (hno hbw) fun fs hp => by unfold Good; rw [hg]; exact .inl ⟨b, hb, fun he => absurd he hbw, fun _ => hp⟩
     ·exact key (.tuple []) hno fun fs hp => by unfold Good; rw [hg]; exact .inr ⟨hb, hp⟩
theorem anc_listed {ops : Array Oper} {listed : Array Bool} (hcl : ∀ (j : Nat) (o : Oper), ops[j]? = some o → listed.getD j false = true → ∀ e ∈ o.after, Region.binds .any e = true → listed.getD e.on false = true) :
 ∀ (k j i : Nat), anc ops k j i = true → listed.getD j false = true → listed.getD i false = true
 | 0, _, _, h, _ => by simp [anc] at h
 | k + 1, j, i, h, hj => by
   unfold anc at h
   split at h
   ·rename_i o ho
    obtain ⟨e, he, hb⟩ := Array.any_eq_true'.1 h
    simp only [Bool.and_eq_true, Bool.or_eq_true, beq_iff_eq] at hb
    have := hcl j o ho hj e he hb.1
    rcases hb.2 with h' | h'
    ·rw [← h']; exact this
    ·exact anc_listed hcl k e.on i h' this
   ·cases h
theorem fitOps_get {P : Program} {ops : Array Oper} : ∀ {is : List AInstr} {os : List Oper}, fitOps P ops is os = true → is.length = os.length ∧ ∀ (i : Nat) (o : Oper), os[i]? = some o → ∃ a, is[i]? = some a ∧ fitI P ops a o = true
 | [], [], _ => ⟨rfl, fun i o h => by simp at h⟩
 | [], _ :: _, h => by simp [fitOps] at h
 | _ :: _, [], h => by simp [fitOps] at h
 | a :: is, o :: os, h => by
   simp only [fitOps, Bool.and_eq_true] at h
   obtain ⟨h1, h2⟩ := fitOps_get h.2
   refine ⟨by simp [h1], fun i o' ho => ?_⟩
   cases i with
   | zero => simp at ho; subst ho; exact ⟨a, rfl, h.1⟩
   | succ i => simpa using h2 i o' (by simpa using ho)
theorem countP_drop {p q : Nat → Bool} : ∀ (l : List Nat) (i : Nat), i ∈ l → (∀ j, q j = true → p j = true) → p i = true → q i = false → l.countP q < l.countP p
 | x :: l, i, hi, hqp, hp, hq => by
   simp only [List.countP_cons]
   by_cases hx : x = i
   ·subst hx
    have : l.countP q ≤ l.countP p := List.countP_mono_left fun j _ => hqp j
    simp [hp, hq]; omega
   ·have := countP_drop l i (by simpa [Ne.symm hx] using hi) hqp hp hq
    have h2 : (if q x = true then 1 else 0) ≤ (if p x = true then 1 else 0) := by
     by_cases h : q x = true
     ·simp [h, hqp x h]
     ·simp [h]
    omega
 | [], _, hi, _, _, _ => by simp at hi
section
variable {P : Program} {n0 : Nat} {Q : APost} {fr : List AV} {H : AH}
theorem dreg_go {E : Env} {ops : Array Oper} {is : List AInstr} {fs : List AV} (hfit : fitOps P ops is ops.toList = true)
 (hdep : ∀ (i : Nat) (a : AInstr) (o : Oper), is[i]? = some a → ops[i]? = some o → (∀ (j : Nat) (b : AInstr) (d : Nat), is[j]? = some b → b.dst = some d → (d ∈ slotsI a → (j < i ∧ ∃ e ∈ o.after, e.on = j ∧ Region.binds .any e = true) ∨ (i < j ∧ anc ops is.length j i = true)) ∧ (a.dst = some d → i = j)) ∧ ∀ e ∈ o.after, Region.binds .any e = true → e.on < i)
 (hlen : fs.length = fr.length) (hold : ∀ t, (∀ (j : Nat) (a : AInstr), is[j]? = some a → a.dst ≠ some t) → fs[t]? = fr[t]?) (hgood : ∀ (j : Nat) (a : AInstr), is[j]? = some a → ∃ fv, Good P H fv fs a ∧ Sees is fr fs fv j a) (hQ : Q .normal fs H) :
 ∀ (fuel : Nat) (listed : Array Bool) (a : Act) (w : World), listed.size = ops.size → (List.range ops.size).countP (fun j => !listed.getD j true) ≤ fuel →
   (∃ E' fL, LeN n0 E E' ∧ Sim E' w H ∧ RepL E' fL a.tmps ∧ a.defers = [] ∧ fL.length = fr.length ∧ (∀ (t j : Nat) (b : AInstr), is[j]? = some b → b.dst = some t → listed.getD j false = true → fL[t]? = fs[t]?) ∧
    (∀ t, (∀ (j : Nat) (b : AInstr), is[j]? = some b → b.dst = some t → listed.getD j false = false) → fL[t]? = fr[t]?) ∧ (∀ (j : Nat) (o : Oper), ops[j]? = some o → listed.getD j false = true → ∀ e ∈ o.after, Region.binds .any e = true → listed.getD e.on false = true)) → wpAny P .any ops (lft n0 E Q) fuel listed a w := by
 have hsz := (fitOps_get hfit).1
 have hget := (fitOps_get hfit).2
 have fin : ∀ (listed : Array Bool) (a : Act) (w : World), listed.size = ops.size → (∀ j, j < ops.size → listed.getD j true = true) →
  (∃ E' fL, LeN n0 E E' ∧ Sim E' w H ∧ RepL E' fL a.tmps ∧ a.defers = [] ∧ fL.length = fr.length ∧ (∀ (t j : Nat) (b : AInstr), is[j]? = some b → b.dst = some t → listed.getD j false = true → fL[t]? = fs[t]?) ∧
   (∀ t, (∀ (j : Nat) (b : AInstr), is[j]? = some b → b.dst = some t → listed.getD j false = false) → fL[t]? = fr[t]?) ∧ (∀ (j : Nat) (o : Oper), ops[j]? = some o → listed.getD j false = true → ∀ e ∈ o.after, Region.binds .any e = true → listed.getD e.on false = true)) → lft n0 E Q .normal a w := by
  rintro listed a w hls hall ⟨E', fL, h1, h2, h3, h4, h5, h6, h7, _⟩
  have : fL = fs := by
   apply List.ext_getElem?
   intro t
   by_cases hw : ∃ (j : Nat) (b : AInstr), is[j]? = some b ∧ b.dst = some t
   ·obtain ⟨j, b, hj, hb⟩ := hw
    refine h6 t j b hj hb ?_
    have hjl : j < is.length := by
     rcases Nat.lt_or_ge j is.length with h | h
     ·exact h
     ·rw [List.getElem?_eq_none h] at hj; cases hj
    have hjs : j < ops.size := by rw [hsz] at hjl; simpa using hjl
    have := hall j hjs
    have hjl' : j < listed.size := by omega
    simp [Array.getD_eq_getD_getElem?, Array.getElem?_eq_getElem hjl'] at this ⊢
    exact this
   ·have hn : ∀ (j : Nat) (b : AInstr), is[j]? = some b → b.dst ≠ some t := fun j b hj hb => hw ⟨j, b, hj, hb⟩
    rw [h7 t (fun j b hj hb => absurd hb (hn j b hj)), hold t hn]
  subst this
  exact ⟨E', fL, H, .normal, rfl, hQ, h1, h2, h3, h4⟩
 have ready0 : ∀ (listed : Array Bool), listed.size = ops.size → Region.ready .any ops listed = [] → ∀ j, j < ops.size → listed.getD j true = true := by
  intro listed hls hr j
  induction j using Nat.strongRecOn with
  | ind j ih =>
    intro hj
    cases hlj : listed.getD j true with
    | true => rfl
    | false =>
      have ho := Array.getElem?_eq_getElem hj
      obtain ⟨a, ha, _⟩ := hget j ops[j] (by simp)
      have hm : j ∈ Region.ready .any ops listed := mem_ready.2 ⟨hlj, _, ho, fun e he hb => by
       have hlt := (hdep j a _ ha ho).2 e he hb
       have hlt' : e.on < listed.size := by omega
       have := ih e.on hlt (by omega)
       simp [Array.getD_eq_getD_getElem?, Array.getElem?_eq_getElem hlt'] at this ⊢
       exact this⟩
      rw [hr] at hm; cases hm
 intro fuel
 induction fuel with
 | zero =>
   intro listed a w hls hcnt hinv
   have hall : ∀ j, j < ops.size → listed.getD j true = true := by
    intro j hj
    have h0 : (List.range ops.size).countP (fun j => !listed.getD j true) = 0 := by omega
    have := List.countP_eq_zero.1 h0 j (List.mem_range.2 hj)
    simpa using this
   refine ⟨?_, fin listed a w hls hall hinv⟩
   cases hr : Region.ready .any ops listed with
   | nil => rfl
   | cons x xs =>
     have hx : x ∈ Region.ready .any ops listed := by rw [hr]; simp
     obtain ⟨h0, o, ho, _⟩ := mem_ready.1 hx
     have := hall x (Array.getElem?_eq_some_iff.1 ho).1
     rw [this] at h0; cases h0
 | succ fuel ih =>
   intro listed a w hls hcnt hinv
   refine ⟨fun hr => fin listed a w hls (ready0 listed hls hr) hinv, fun i hi => ?_⟩
   obtain ⟨h0, o, ho, haft⟩ := mem_ready.1 hi
   have his : i < ops.size := (Array.getElem?_eq_some_iff.1 ho).1
   obtain ⟨ins, hins, hfi⟩ := hget i o (by simpa using ho)
   obtain ⟨hd1, hd2⟩ := hdep i ins o hins ho
   obtain ⟨E', fL, g1, g2, g3, g4, g5, g6, g7, g8⟩ := hinv
   obtain ⟨fv, hgd, hsee⟩ := hgood i ins hins
   have hi0 : listed.getD i false = false := by
    have hil : i < listed.size := by omega
    simp [Array.getD_eq_getD_getElem?, Array.getElem?_eq_getElem hil] at h0 ⊢
    exact h0
   have hsl : ∀ t ∈ slotsI ins, fL[t]? = fv[t]? := by
    intro t ht
    by_cases hw : ∃ (j : Nat) (b : AInstr), is[j]? = some b ∧ b.dst = some t
    ·obtain ⟨j, b, hj, hb⟩ := hw
     have huniq : ∀ (j' : Nat) (b' : AInstr), is[j']? = some b' → b'.dst = some t → j' = j := by
      intro j' b' hj' hb'
      have hjl : j' < is.length := by
       rcases Nat.lt_or_ge j' is.length with h | h
       ·exact h
       ·rw [List.getElem?_eq_none h] at hj'; cases hj'
      have hjo : j' < ops.size := by rw [hsz] at hjl; simpa using hjl
      exact ((hdep j' b' _ hj' (Array.getElem?_eq_getElem hjo)).1 j b t hj hb).2 hb'
     rcases (hd1 j b t hj hb).1 ht with ⟨hlt, e, he, hej, hbind⟩ | ⟨hlt, hanc⟩
     ·subst hej
      rw [g6 t _ b hj hb (haft e he hbind), hsee.new t ht _ b hlt hj hb]
     ·have hjf : listed.getD j false = false := by
       cases hlj : listed.getD j false with
       | false => rfl
       | true => rw [anc_listed g8 _ _ _ hanc hlj] at hi0; cases hi0
      rw [g7 t (fun j' b' hj' hb' => by rw [huniq j' b' hj' hb']; exact hjf), hsee.old t ht (fun j' b' hlt' hj' hb' => by have := huniq j' b' hj' hb'; omega)]
    ·have hn : ∀ (j : Nat) (b : AInstr), is[j]? = some b → b.dst ≠ some t := fun j b hj hb => hw ⟨j, b, hj, hb⟩
     rw [g7 t (fun j b hj hb => absurd hb (hn j b hj)), hsee.old t ht (fun j b _ hj => hn j b hj)]
   have hcnt' : (List.range ops.size).countP (fun j => !(listed.setIfInBounds i true).getD j true) ≤ fuel := by
    have := countP_drop (p := fun j => !listed.getD j true) (q := fun j => !(listed.setIfInBounds i true).getD j true) (List.range ops.size) i (List.mem_range.2 his) (fun j hj => by
     by_cases hij : i = j
     ·subst hij
      have hil : i < listed.size := by omega
      simp [Array.getD_eq_getD_getElem?, hil] at hj
     ·rw [getD_set_ne true hij] at hj; exact hj) (by simp [h0]) (by
      have hil : i < listed.size := by omega
      simp [Array.getD_eq_getD_getElem?, hil])
    omega
   have next : ∀ (E2 : Env) (v : AV) (a' : Act) (w' : World), LeN n0 E E2 → Sim E2 w' H → RepL E2 (setA fL ins.dst v) a'.tmps → a'.defers = [] → Put fs ins.dst v → wpAny P .any ops (lft n0 E Q) fuel (listed.setIfInBounds i true) a' w' := by
    intro E2 v a' w' k1 k2 k3 k4 k5
    refine ih _ a' w' (by simp [hls]) hcnt' ⟨E2, _, k1, k2, k3, k4, by rw [setA_len, g5], fun t j b hj hb hl => ?_, fun t hn => ?_, fun j o' hj hl e he hbind => ?_⟩
    ·by_cases hij : i = j
     ·subst hij
      rw [hins] at hj; cases hj
      rw [hb]
      simp only [setA]
      by_cases hlt : t < fs.length
      ·rw [List.getElem?_set_self (by omega), k5 t hb hlt]
      ·rw [List.getElem?_eq_none (by simp; omega), List.getElem?_eq_none (by omega)]
     ·rw [setA_ne (fun hd => hij ((hd1 j b t hj hb).2 hd))]
      rw [getD_set_ne false hij] at hl
      exact g6 t j b hj hb hl
    ·have hni : ins.dst ≠ some t := fun hd => by
      have := hn i ins hins hd
      have hil : i < listed.size := by omega
      simp [Array.getD_eq_getD_getElem?, hil] at this
     rw [setA_ne hni]
     refine g7 t (fun j b hj hb => ?_)
     have hij : i ≠ j := fun e => by subst e; rw [hins] at hj; cases hj; exact hni hb
     have := hn j b hj hb
     rw [getD_set_ne false hij] at this; exact this
    ·by_cases hij : i = j
     ·subst hij
      rw [ho] at hj; cases hj
      exact getD_set_true (haft e he hbind)
     ·rw [getD_set_ne false hij] at hl
      exact getD_set_true (g8 j o' hj hl e he hbind)
   have hdst : ins.dst = o.dst := by
    unfold fitI at hfi
    rw [Bool.and_eq_true, Bool.and_eq_true] at hfi
    simpa using hfi.1.1
   have hg : fitG ops ins.guard o.guard = true := by
    unfold fitI at hfi
    rw [Bool.and_eq_true, Bool.and_eq_true] at hfi
    exact hfi.1.2
   have step : (∃ v, stepVal P ins.op (evalA fv) H v ∧ Put fs ins.dst v) → o.wp P a w (wpAny P .any ops (lft n0 E Q) fuel (listed.setIfInBounds i true)) (lft n0 E Q) := by
    rintro ⟨v, hv, hp⟩
    have hv' : stepVal P ins.op (evalA fL) H v := stepVal_congr (evalA_congr fun t ht => (hsl t (List.mem_append_left _ ht)).symm) hv
    refine step_ok hfi g2 g3 g4 g1 (stepVal_A hv') ?_
    rintro E2 fr' H' a' w' ⟨rfl, rfl⟩ k1 k2 k3 k4
    exact next E2 v a' w' k1 k2 k3 k4 hp
   unfold wpOp
   rw [ho]
   simp only []
   unfold Good at hgd
   cases hig : ins.guard with
   | none =>
     rw [hig] at hg hgd
     cases hog : o.guard with
     | some g => rw [hog] at hg; simp [fitG] at hg
     | none =>
       rw [if_pos (by simp [Region.wanted, hog])]
       exact .inl (step hgd)
   | some g =>
     obtain ⟨s, want⟩ := g
     rw [hig] at hg hgd
     cases hog : o.guard with
     | none => rw [hog] at hg; simp [fitG] at hg
     | some g' =>
       obtain ⟨j, want'⟩ := g'
       rw [hog] at hg
       simp only [fitG, Bool.and_eq_true, beq_iff_eq, decide_eq_true_eq] at hg
       obtain ⟨rfl, hj⟩ := hg
       have hgs : s ∈ slotsI ins := by unfold slotsI; rw [hig]; simp
       have skip : Region.wanted o (yielded ops a.tmps) = false → Put fs ins.dst (.tuple []) → (if Region.wanted o (yielded ops a.tmps) = true then o.wp P a w (wpAny P .any ops (lft n0 E Q) fuel (listed.setIfInBounds i true)) (lft n0 E Q) ∨ (o.asks P a w ∧ LetsOut (lft n0 E Q)) else wpAny P .any ops (lft n0 E Q) fuel (listed.setIfInBounds i true) (a.put o.dst undef) w) := by
        intro hw hp
        rw [hw, if_neg (by simp)]
        refine next E' (.tuple []) _ w g1 g2 ?_ (put_defers g4 _ _) hp
        rw [hdst]
        exact put_rep g3 (rep_undef E') _
       rcases hgd with ⟨b, hb, hyes, hno⟩ | ⟨hb, hp⟩
       ·have hy : yielded ops a.tmps j = some b := yielded_bool g3 (by rw [hsl s hgs, hb]) hj
        have hw : Region.wanted o (yielded ops a.tmps) = (b == want) := by
         simp only [Region.wanted, hog, hy]
         cases b <;> cases want <;> rfl
        by_cases hbw : b = want
        ·rw [hw, if_pos (by simpa using hbw)]
         exact .inl (step (hyes hbw))
        ·exact skip (by rw [hw]; simpa using hbw) (hno hbw)
       ·have hy : yielded ops a.tmps j = none := yielded_undef g3 (by rw [hsl s hgs, hb]) hj
        have hw : Region.wanted o (yielded ops a.tmps) = false := by
         simp only [Region.wanted, hog, hy]
         rfl
        exact skip hw hp
theorem W_dreg_same {is : List AInstr} (h : RSA P is (fun f => Q .normal f H) fr H) : W P n0 (.dreg is) Q fr H := by
 intro c E w a hf hs hr hd
 cases c <;> try (simp only [fitC, Bool.false_eq_true] at hf; done)
 rename_i id ops draw
 cases draw <;> simp only [fitC, Bool.false_eq_true, Bool.and_eq_true] at hf
 obtain ⟨hm, hfit, hdeps⟩ := hf
 have hsz := (fitOps_get hfit).1
 have hdep : ∀ (i : Nat) (a : AInstr) (o : Oper), is[i]? = some a → ops[i]? = some o → (∀ (j : Nat) (b : AInstr) (d : Nat), is[j]? = some b → b.dst = some d → (d ∈ slotsI a → (j < i ∧ ∃ e ∈ o.after, e.on = j ∧ Region.binds .any e = true) ∨ (i < j ∧ anc ops is.length j i = true)) ∧ (a.dst = some d → i = j)) ∧ ∀ e ∈ o.after, Region.binds .any e = true → e.on < i := by
  intro i a o ha ho
  have hil : i < is.length := by
   rcases Nat.lt_or_ge i is.length with h | h
   ·exact h
   ·rw [List.getElem?_eq_none h] at ha; cases ha
  have h1 := List.all_eq_true.1 hdeps i (List.mem_range.2 hil)
  simp only [ha, ho, depI, Bool.and_eq_true] at h1
  refine ⟨fun j b d hb hd => ?_, fun e he hbind => ?_⟩
  ·have hjl : j < is.length := by
    rcases Nat.lt_or_ge j is.length with h | h
    ·exact h
    ·rw [List.getElem?_eq_none h] at hb; cases hb
   have h2 := List.all_eq_true.1 h1.1 j (List.mem_range.2 hjl)
   simp only [hb, hd, Bool.and_eq_true, Bool.or_eq_true, decide_eq_true_eq] at h2
   refine ⟨fun hm => ?_, fun he => ?_⟩
   ·rcases h2.1 with (h3 | ⟨h3, h4⟩) | h3
    ·simp [hm] at h3
    ·refine .inl ?_
     obtain ⟨e, he, hb'⟩ := Array.any_eq_true'.1 h4
     simp only [Bool.and_eq_true, beq_iff_eq] at hb'
     exact ⟨h3, e, he, hb'.1, hb'.2⟩
    ·exact .inr h3
   ·rcases h2.2 with h3 | h3
    ·exact h3
    ·exact absurd he h3
  ·have h2 := Array.all_eq_true_iff_forall_mem.1 h1.2 e he
   simpa [hbind] using h2
 have hap : Apart is := by
  intro i j a b d ha hb hd hd'
  have hil : i < is.length := by
   rcases Nat.lt_or_ge i is.length with h | h
   ·exact h
   ·rw [List.getElem?_eq_none h] at ha; cases ha
  have hio : i < ops.size := by rw [hsz] at hil; simpa using hil
  have := (hdep i a _ ha (Array.getElem?_eq_getElem hio)).1 j b d hb hd
  exact this.2 hd'
 obtain ⟨fs, k1, k2, k3, k4⟩ := RSA_ends is fr hap h
 refine wp_region_any hm ?_
 refine dreg_go hfit hdep k2 k3 k4 k1 ops.size _ a _ (by simp) ?_ ⟨E, fr, LeN.refl _ _, ⟨hs.os, hs.tape, hs.output, hs.frz, hs.disj, hs.dom, fun r o h => ?_, hs.inj⟩, hr, hd, rfl, fun t j b hj hb hl => ?_, fun _ _ => rfl, fun j o hj hl => ?_⟩
 ·refine Nat.le_trans (List.countP_le_length) (by simp)
 ·rcases hs.obj r o h with h | ⟨x, hx, hl⟩
  ·exact .inl h
  ·exact .inr ⟨x, hx, ⟨hl.t, hl.pos, hl.out, hl.blk, hl.sz, hl.fits⟩⟩
 ·simp [Array.getD_eq_getD_getElem?, Array.getElem?_replicate] at hl
  split at hl <;> simp at hl
 ·simp [Array.getD_eq_getD_getElem?, Array.getElem?_replicate] at hl
  split at hl <;> simp at hl
end
end Go.Proofs.YtemjlopoffjmpaaGreat.Abs
