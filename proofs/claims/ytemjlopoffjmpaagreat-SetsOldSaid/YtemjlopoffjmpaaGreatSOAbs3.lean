/-
  The abstract layer, part 3: what new blocks and stores do to the relation between an abstract heap and a world.
-/
import Derived.Test.YtemjlopoffjmpaaGreatSOAbs2
set_option linter.unusedSimpArgs false
set_option linter.unusedVariables false
namespace Go.Proofs.YtemjlopoffjmpaaGreat.Abs
def cellA : AV → Bool
 | .top | .agg _ | .tuple _ => false
 | _ => true
theorem cellA_ok {E : Env} {x : AV} {v : Value} (h : Rep E x v) (hx : cellA x = true) : v.oneCell' = true := by
 cases h with
 | top => simp [cellA] at hx
 | pure h => cases h <;> first | rfl | simp [cellA, emb] at hx
 | agg => simp [cellA] at hx
 | tuple => simp [cellA] at hx
 | fn => rfl
 | own0 => rfl
 | own => rfl
 | ptr => rfl
 | stale_own _ _ _ _ _ _ _ _ _ h1 => exact h1
 | stale_ptr _ _ _ _ _ _ _ _ h1 => exact h1
theorem at_append_lt {H : AH} {r : Nat} (o : Option AObj) (h : r < H.length) : AH.at (H ++ [o]) r = H.at r := by
 unfold AH.at; rw [List.getElem?_append_left h]
theorem at_append_eq (H : AH) (o : Option AObj) : AH.at (H ++ [o]) H.length = o := by
 unfold AH.at; simp
theorem at_append_gt {H : AH} {r : Nat} (o : Option AObj) (h : H.length < r) : AH.at (H ++ [o]) r = none := by
 unfold AH.at; rw [List.getElem?_append_right (by omega), List.getElem?_eq_none (by simp; omega)]; rfl
theorem at_lt {H : AH} {r : Nat} {o : AObj} (h : H.at r = some o) : r < H.length := by
 unfold AH.at at h
 rcases Nat.lt_or_ge r H.length with h1 | h1
 ·exact h1
 ·rw [List.getElem?_eq_none h1] at h; cases h
theorem at_set_eq {H : AH} {r : Nat} (o : Option AObj) (h : r < H.length) : AH.at (H.set r o) r = o := by
 unfold AH.at; rw [List.getElem?_set_self h]; rfl
theorem at_set_ne {H : AH} {r s : Nat} (o : Option AObj) (h : r ≠ s) : AH.at (H.set r o) s = H.at s := by
 unfold AH.at; rw [List.getElem?_set_ne h]
theorem blk_lt {w : World} {b : Nat} {o : Obj} (h : w.heap[b]? = some o) : b < w.heap.size := by
 rcases Nat.lt_or_ge b w.heap.size with h1 | h1
 ·exact h1
 ·rw [Array.getElem?_eq_none h1] at h; cases h
def putBlk (w : World) (b : Nat) (o : Obj) : World := { w with heap := w.heap.setIfInBounds b o }
theorem putBlk_same {w : World} {b : Nat} (o : Obj) (h : b < w.heap.size) : (putBlk w b o).heap[b]? = some o := by
 simp [putBlk, Array.getElem?_setIfInBounds, h]
theorem putBlk_far {w : World} {b c : Nat} (o : Obj) (h : b ≠ c) : (putBlk w b o).heap[c]? = w.heap[c]? := by
 simp [putBlk, Array.getElem?_setIfInBounds, h]
theorem alloc_new (w : World) (o : Obj) : (w.alloc o).heap[w.heap.size]? = some o := by unfold World.alloc; simp
theorem alloc_old {w : World} {b : Nat} (o : Obj) (h : b < w.heap.size) : (w.alloc o).heap[b]? = w.heap[b]? := by
 unfold World.alloc
 simp only [Array.getElem?_push]
 rw [if_neg (by omega)]
def RowIs (E : Env) (sz : Nat) (cells : Array Value) (o : AObj) : Prop :=
 ∀ (i : Nat) e (k : Nat) c v, o[i]? = some e → e[k]? = some c → cells[i * sz + k]? = some v → Rep E c v
theorem RowIs.mono {E E' : Env} (h : Le E E') {sz cells o} (hr : RowIs E sz cells o) : RowIs E' sz cells o :=
 fun i e k c v h1 h2 h3 => (hr i e k c v h1 h2 h3).mono h
theorem Lies.mono {E E' : Env} {w w' : World} {o : AObj} {x : Own} (hE : Le E E') (h : Lies E w o x) (hF : E'.F x.b = none ∧ E'.X x.b = none) (hw : w'.heap[x.b]? = w.heap[x.b]?) : Lies E' w' o x := by
 obtain ⟨cells, t, q, hb, hn, hq, h1, hc⟩ := h.blk
 exact ⟨h.t, h.pos, hF, ⟨cells, t, q, hw.trans hb, hn, hq, h1, fun i e k c v h1 h2 h3 => (hc i e k c v h1 h2 h3).mono hE⟩, h.sz, h.fits⟩
theorem Sim.drawn {E : Env} {w : World} {H : AH} (h : Sim E w H) (n : Nat) : Sim E { w with drawn := n } H :=
 ⟨h.os, h.tape, h.output, h.frz, h.disj, h.dom, fun r o ho => by
  rcases h.obj r o ho with h1 | ⟨x, hx, hl⟩
  ·exact .inl h1
  ·exact .inr ⟨x, hx, hl.t, hl.pos, hl.out, hl.blk, hl.sz, hl.fits⟩, h.inj⟩
theorem Sim.fresh {E : Env} {w : World} {H : AH} (h : Sim E w H) : E.F w.heap.size = none ∧ E.X w.heap.size = none := by
 constructor
 ·cases hF : E.F w.heap.size with
  | none => rfl
  | some o => have := blk_lt (h.frz _ _ (.inl hF)); omega
 ·cases hF : E.X w.heap.size with
  | none => rfl
  | some o => have := blk_lt (h.frz _ _ (.inr hF)); omega
theorem Sim.lt {E : Env} {w : World} {H : AH} (h : Sim E w H) {r : Nat} {o : AObj} {x : Own} (hr : H.at r = some o) (hx : E.ρ r = some x) : x.b < w.heap.size := by
 rcases h.obj r o hr with h1 | ⟨x', hx', hl⟩
 ·rw [h1.2] at hx; cases hx
 ·rw [hx] at hx'; cases hx'
  obtain ⟨cells, t, q, hb, _⟩ := hl.blk
  exact blk_lt hb
def Env.with (E : Env) (r : Nat) (x : Own) : Env := { E with ρ := fun s => if s = r then some x else E.ρ s }
theorem Env.with_same (E : Env) (r : Nat) (x : Own) : (E.with r x).ρ r = some x := by simp [Env.with]
theorem Env.with_ne (E : Env) {r s : Nat} (x : Own) (h : s ≠ r) : (E.with r x).ρ s = E.ρ s := by simp [Env.with, h]
theorem Env.le_with {E : Env} {r : Nat} (x : Own) (h : ∀ y, E.ρ r = some y → y = x ∨ y.t < x.t) : Le E (E.with r x) := by
 refine ⟨fun _ _ h => h, fun s y hy => ?_, rfl, rfl, rfl, rfl⟩
 by_cases hs : s = r
 ·subst hs
  refine ⟨x, E.with_same s x, ?_⟩
  rcases h y hy with rfl | h
  ·exact .inl rfl
  ·exact .inr h
 ·exact ⟨y, (E.with_ne x hs).trans hy, .inl rfl⟩
theorem Sim.renew {E : Env} {w : World} {H : AH} (h : Sim E w H) {r : Nat} (hr : r < H.length) (o : AObj) (sz : Nat) (cells : Array Value) (t : TypeId) (q : Nat × Nat)
 (hgrow : ∀ y, E.ρ r = some y → y.t < o.length) (hpos : 0 < sz) (hq : q = (0, 0) ∨ cells.size ≤ q.1)
 (hsz : ∀ e ∈ o, e.length = sz) (hfit : o.length * sz ≤ cells.size) (h1 : ∀ (i : Nat) v, cells[i]? = some v → v.oneCell' = true) (hc : RowIs E sz cells o) :
 Le E (E.with r ⟨w.heap.size, sz, cells.size, o.length⟩) ∧ Sim (E.with r ⟨w.heap.size, sz, cells.size, o.length⟩) (w.alloc (.cells cells t q)) (H.set r (some o)) := by
 have hle : Le E (E.with r ⟨w.heap.size, sz, cells.size, o.length⟩) := Env.le_with _ (fun y hy => .inr (hgrow y hy))
 refine ⟨hle, h.os, h.tape, h.output, fun b o' hb => (alloc_old _ (blk_lt (h.frz b o' hb))).trans (h.frz b o' hb), h.disj, ?_, ?_, ?_⟩
 ·intro s x hs
  rw [List.length_set]
  by_cases hsr : s = r
  ·subst hsr; exact hr
  ·rw [Env.with_ne _ _ hsr] at hs; exact h.dom s x hs
 ·intro s o' hs
  by_cases hsr : s = r
  ·subst hsr
   rw [at_set_eq _ hr] at hs
   cases hs
   exact .inr ⟨_, Env.with_same _ _ _, rfl, hpos, h.fresh, ⟨cells, t, q, alloc_new _ _, rfl, hq, h1, hc.mono hle⟩, hsz, hfit⟩
  ·rw [at_set_ne _ (Ne.symm hsr)] at hs
   rcases h.obj s o' hs with ⟨h1, h2⟩ | ⟨x, hx, hl⟩
   ·exact .inl ⟨h1, (Env.with_ne _ _ hsr).trans h2⟩
   ·exact .inr ⟨x, (Env.with_ne _ _ hsr).trans hx, hl.mono hle hl.out (alloc_old _ (h.lt hs hx))⟩
 ·intro s s' o1 o2 x1 x2 h1 h2 h3 h4 hb
  by_cases hs : s = r
  ·by_cases hs' : s' = r
   ·omega
   ·subst hs
    rw [Env.with_same] at h3; cases h3
    rw [Env.with_ne _ _ hs'] at h4
    rw [at_set_ne _ (Ne.symm hs')] at h2
    have := h.lt h2 h4
    simp at hb; omega
  ·by_cases hs' : s' = r
   ·subst hs'
    rw [Env.with_same] at h4; cases h4
    rw [Env.with_ne _ _ hs] at h3
    rw [at_set_ne _ (Ne.symm hs)] at h1
    have := h.lt h1 h3
    simp at hb; omega
   ·rw [Env.with_ne _ _ hs] at h3; rw [Env.with_ne _ _ hs'] at h4
    rw [at_set_ne _ (Ne.symm hs)] at h1; rw [at_set_ne _ (Ne.symm hs')] at h2
    exact h.inj s s' o1 o2 x1 x2 h1 h2 h3 h4 hb
theorem Sim.reserve {E : Env} {w : World} {H : AH} (h : Sim E w H) : Sim E w (H ++ [none]) := by
 have key : ∀ {r o}, AH.at (H ++ [none]) r = some o → H.at r = some o := by
  intro r o hr
  rcases Nat.lt_trichotomy r H.length with h1 | h1 | h1
  ·rwa [at_append_lt _ h1] at hr
  ·subst h1; rw [at_append_eq] at hr; cases hr
  ·rw [at_append_gt _ h1] at hr; cases hr
 refine ⟨h.os, h.tape, h.output, h.frz, h.disj, fun r x hr => ?_, fun r o hr => h.obj r o (key hr), fun r r' o o' x x' h1 h2 => h.inj r r' o o' x x' (key h1) (key h2)⟩
 have := h.dom r x hr
 simp; omega
theorem Sim.new {E : Env} {w : World} {H : AH} (h : Sim E w H) (o : AObj) (sz : Nat) (cells : Array Value) (t : TypeId) (q : Nat × Nat)
 (hpos : 0 < sz) (hq : q = (0, 0) ∨ cells.size ≤ q.1) (hsz : ∀ e ∈ o, e.length = sz) (hfit : o.length * sz ≤ cells.size) (h1 : ∀ (i : Nat) v, cells[i]? = some v → v.oneCell' = true) (hc : RowIs E sz cells o) :
 Le E (E.with H.length ⟨w.heap.size, sz, cells.size, o.length⟩) ∧ Sim (E.with H.length ⟨w.heap.size, sz, cells.size, o.length⟩) (w.alloc (.cells cells t q)) (H ++ [some o]) := by
 have hn : E.ρ H.length = none := by
  cases hρ : E.ρ H.length with
  | none => rfl
  | some x => have := h.dom _ _ hρ; omega
 have := h.reserve.renew (r := H.length) (by simp) o sz cells t q (fun y hy => by rw [hn] at hy; cases hy) hpos hq hsz hfit h1 hc
 have e : (H ++ [none]).set H.length (some o) = H ++ [some o] := by simp
 rwa [e] at this
theorem Sim.write {E : Env} {w : World} {H : AH} (h : Sim E w H) {r : Nat} {o o' : AObj} {x : Own} (hr : H.at r = some o) (hx : E.ρ r = some x)
 (cells : Array Value) (t : TypeId) (q : Nat × Nat) (hn : cells.size = x.n) (hq : q = (0, 0) ∨ x.n ≤ q.1)
 (hlen : o.length ≤ o'.length) (hsz : ∀ e ∈ o', e.length = x.sz) (hfit : o'.length * x.sz ≤ x.n) (h1 : ∀ (i : Nat) v, cells[i]? = some v → v.oneCell' = true) (hc : RowIs E x.sz cells o') :
 Le E (E.with r { x with t := o'.length }) ∧ Sim (E.with r { x with t := o'.length }) (putBlk w x.b (.cells cells t q)) (H.set r (some o')) := by
 have hl : Lies E w o x := by
  rcases h.obj r o hr with h1 | ⟨x', hx', hl⟩
  ·rw [h1.2] at hx; cases hx
  ·rw [hx] at hx'; cases hx'; exact hl
 have hle : Le E (E.with r { x with t := o'.length }) := Env.le_with _ (fun y hy => by
  rw [hx] at hy; cases hy
  rcases Nat.lt_or_ge o.length o'.length with h1 | h1
  ·right; simp only; have := hl.t; omega
  ·left
   have : o'.length = x.t := by have := hl.t; omega
   rw [this])
 have hlt : r < H.length := at_lt hr
 have hbl : x.b < w.heap.size := h.lt hr hx
 refine ⟨hle, h.os, h.tape, h.output, fun b o1 hb => ?_, h.disj, ?_, ?_, ?_⟩
 ·have hne : x.b ≠ b := by
   rintro rfl
   have := hl.out
   change E.F x.b = some o1 ∨ E.X x.b = some o1 at hb
   rw [this.1, this.2] at hb
   rcases hb with hb | hb <;> cases hb
  exact (putBlk_far _ hne).trans (h.frz b o1 hb)
 ·intro s y hs
  rw [List.length_set]
  by_cases hsr : s = r
  ·subst hsr; exact hlt
  ·rw [Env.with_ne _ _ hsr] at hs; exact h.dom s y hs
 ·intro s o1 hs
  by_cases hsr : s = r
  ·subst hsr
   rw [at_set_eq _ hlt] at hs
   cases hs
   exact .inr ⟨_, Env.with_same _ _ _, rfl, hl.pos, hl.out, ⟨cells, t, q, putBlk_same _ hbl, hn, hq, h1, hc.mono hle⟩, hsz, hfit⟩
  ·rw [at_set_ne _ (Ne.symm hsr)] at hs
   rcases h.obj s o1 hs with ⟨h1, h2⟩ | ⟨y, hy, hl'⟩
   ·exact .inl ⟨h1, (Env.with_ne _ _ hsr).trans h2⟩
   ·exact .inr ⟨y, (Env.with_ne _ _ hsr).trans hy, hl'.mono hle hl'.out (putBlk_far _ (fun e => hsr (h.inj s r o1 o y x hs hr hy hx e.symm)))⟩
 ·intro s s' o1 o2 x1 x2 h1 h2 h3 h4 hb
  have key : ∀ {s o1 x1}, AH.at (H.set r (some o')) s = some o1 → (E.with r { x with t := o'.length }).ρ s = some x1 → ∃ o2 x2, H.at s = some o2 ∧ E.ρ s = some x2 ∧ x1.b = x2.b := by
   intro s o1 x1 h1 h2
   by_cases hs : s = r
   ·subst hs
    rw [Env.with_same] at h2; cases h2
    exact ⟨o, x, hr, hx, rfl⟩
   ·rw [Env.with_ne _ _ hs] at h2; rw [at_set_ne _ (Ne.symm hs)] at h1
    exact ⟨o1, x1, h1, h2, rfl⟩
  obtain ⟨p1, y1, a1, b1, c1⟩ := key h1 h3
  obtain ⟨p2, y2, a2, b2, c2⟩ := key h2 h4
  exact h.inj s s' p1 p2 y1 y2 a1 a2 b1 b2 (by omega)
end Go.Proofs.YtemjlopoffjmpaaGreat.Abs
