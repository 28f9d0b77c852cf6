/-
  The abstract layer, part 2: inversions, frames, what an operation does to abstract values and heaps.
-/
import Derived.Test.YtemjlopoffjmpaaGreatSOAbs1
set_option linter.unusedSimpArgs false
set_option linter.unusedVariables false
namespace Go.Proofs.YtemjlopoffjmpaaGreat.Abs
section inv
variable {E : Env} {v : Value}
theorem rep_bool {b} (h : Rep E (.bool b) v) : v = .bool b := by
 generalize hx : AV.bool b = x at h
 cases h <;> try cases hx
 case pure y h => cases y <;> simp only [emb] at hx <;> cases hx <;> cases h; rfl
theorem rep_int {k n} (h : Rep E (.int k n) v) : v = .int k n := by
 generalize hx : AV.int k n = x at h
 cases h <;> try cases hx
 case pure y h => cases y <;> simp only [emb] at hx <;> cases hx <;> cases h; rfl
theorem rep_str {s} (h : Rep E (.str s) v) : v = .string ⟨s.toArray⟩ := by
 generalize hx : AV.str s = x at h
 cases h <;> try cases hx
 case pure y h => cases y <;> simp only [emb] at hx <;> cases hx <;> cases h; rfl
theorem rep_emp (h : Rep E .emp v) : ∃ a, v = .slice a 0 0 := by
 generalize hx : AV.emp = x at h
 cases h <;> try cases hx
 case pure y h => cases y <;> simp only [emb] at hx <;> cases hx <;> cases h; exact ⟨_, rfl⟩
theorem rep_fz {es} (h : Rep E (.fz es) v) : RepP E.F (.fz es) v := by
 generalize hx : AV.fz es = x at h
 cases h <;> try cases hx
 case pure y h => cases y <;> simp only [emb] at hx <;> cases hx <;> exact h
theorem rep_fptr {cs} (h : Rep E (.fptr cs) v) : RepP E.F (.fptr cs) v := by
 generalize hx : AV.fptr cs = x at h
 cases h <;> try cases hx
 case pure y h => cases y <;> simp only [emb] at hx <;> cases hx <;> exact h
theorem rep_agg {cs} (h : Rep E (.agg cs) v) : ∃ vs : Array Value, v = .agg vs ∧ cs.length = vs.size ∧ ∀ (i : Nat) c u, cs[i]? = some c → vs[i]? = some u → Rep E c u := by
 generalize hx : AV.agg cs = x at h
 cases h <;> try cases hx
 case pure y h => cases y <;> simp only [emb] at hx <;> cases hx
 case agg vs hl h => exact ⟨vs, rfl, hl, h⟩
theorem rep_tuple {cs} (h : Rep E (.tuple cs) v) : ∃ vs : Array Value, v = .tuple vs ∧ cs.length = vs.size ∧ ∀ (i : Nat) c u, cs[i]? = some c → vs[i]? = some u → Rep E c u := by
 generalize hx : AV.tuple cs = x at h
 cases h <;> try cases hx
 case pure y h => cases y <;> simp only [emb] at hx <;> cases hx
 case tuple vs hl h => exact ⟨vs, rfl, hl, h⟩
theorem rep_fn {f first cap} (h : Rep E (.fn f first cap) v) : ∃ vs ws : Array Value, v = .func f vs ws ∧ first.length = vs.size ∧ cap.length = ws.size ∧
 (∀ (i : Nat) c u, first[i]? = some c → vs[i]? = some u → Rep E c u) ∧ ∀ (i : Nat) c u, cap[i]? = some c → ws[i]? = some u → Rep E c u := by
 generalize hx : AV.fn f first cap = x at h
 cases h <;> try cases hx
 case pure y h => cases y <;> simp only [emb] at hx <;> cases hx
 case fn vs ws _ _ _ _ => exact ⟨vs, ws, rfl, by assumption, by assumption, by assumption, by assumption⟩
theorem rep_own {r sz off len tot} (h : Rep E (.own r sz off len tot) v) (hs : ∀ x, E.ρ r = some x → x.t = tot) :
 (∃ a, off = 0 ∧ len = 0 ∧ tot = 0 ∧ v = .slice a 0 0) ∨
 ∃ (x : Own) (cap : Nat), E.ρ r = some x ∧ x.sz = sz ∧ off + len ≤ tot ∧ len ≤ cap ∧ tot ≤ off + cap ∧ (off + cap) * x.sz ≤ x.n ∧ v = .slice (some ⟨x.b, off * x.sz, none⟩) len cap := by
 generalize hx : AV.own r sz off len tot = x at h
 cases h <;> try cases hx
 case pure y h => cases y <;> simp only [emb] at hx <;> cases hx
 case own0 a => exact .inl ⟨a, rfl, rfl, rfl, rfl⟩
 case own cap x _ _ _ _ _ _ _ => exact .inr ⟨x, cap, by assumption, by assumption, by assumption, by assumption, by assumption, by assumption, rfl⟩
 case stale_own => rename_i x hρ htot; have := hs _ hρ; omega
theorem rep_ptr {r i j tot} (h : Rep E (.ptr r i j tot) v) (hs : ∀ x, E.ρ r = some x → x.t = tot) :
 ∃ x : Own, E.ρ r = some x ∧ v = .pointer (some ⟨x.b, i * x.sz + j, none⟩) := by
 generalize hx : AV.ptr r i j tot = x at h
 cases h <;> try cases hx
 case pure y h => cases y <;> simp only [emb] at hx <;> cases hx
 case ptr x hρ htot => exact ⟨x, hρ, rfl⟩
 case stale_ptr => rename_i x hρ htot; have := hs _ hρ; omega
theorem rep_fptr_inv {cs} (h : Rep E (.fptr cs) v) : ∃ b off cells t q, v = .pointer (some ⟨b, off, none⟩) ∧ E.F b = some (.cells cells t q) ∧ off + cs.length ≤ cells.size ∧
 ∀ (k : Nat) c u, cs[k]? = some c → cells[off + k]? = some u → RepP E.F c u := by
 cases rep_fptr h with
 | fptr _ b off cells t q hF hin hc => exact ⟨b, off, cells, t, q, rfl, hF, hin, hc⟩
theorem rep_fz_inv {es} (h : Rep E (.fz es) v) : ∃ a cap, v = .slice a es.length cap ∧ es.length ≤ cap ∧ (es ≠ [] → ∃ b off sz cells t q, a = some ⟨b, off, none⟩ ∧ E.F b = some (.cells cells t q) ∧
 (∀ e ∈ es, e.length = sz) ∧ off + es.length * sz ≤ cells.size ∧ ∀ (i : Nat) e (k : Nat) c u, es[i]? = some e → e[k]? = some c → cells[off + (i * sz + k)]? = some u → RepP E.F c u) := by
 cases rep_fz h with
 | fz0 a cap => exact ⟨a, cap, rfl, Nat.zero_le _, fun h => absurd rfl h⟩
 | fz _ b off cap sz cells t q hF hcap hsz hin hc => exact ⟨_, cap, rfl, hcap, fun _ => ⟨b, off, sz, cells, t, q, rfl, hF, hsz, hin, hc⟩⟩
theorem rep_toPV {x : AV} {p : PV} (hp : toPV x = some p) : x = emb p := by
 cases x <;> simp only [toPV] at hp <;> cases hp <;> rfl
end inv
def RepL (E : Env) (xs : List AV) (vs : Array Value) : Prop := xs.length = vs.size ∧ ∀ (i : Nat) c u, xs[i]? = some c → vs[i]? = some u → Rep E c u
theorem RepL.mono {E E' : Env} (hE : Le E E') {xs vs} (h : RepL E xs vs) : RepL E' xs vs := ⟨h.1, fun i c u hc hu => (h.2 i c u hc hu).mono hE⟩
theorem RepL.set {E : Env} {xs : List AV} {vs : Array Value} (h : RepL E xs vs) {x : AV} {v : Value} (hx : Rep E x v) (d : Nat) : RepL E (xs.set d x) (vs.setIfInBounds d v) := by
 refine ⟨by simp [h.1], fun i c u hc hu => ?_⟩
 have hl := h.1
 rw [List.getElem?_set] at hc
 rw [Array.getElem?_setIfInBounds] at hu
 by_cases hd : d = i
 ·subst hd
  simp only [if_true] at hc hu
  split at hc
  ·rename_i hlt
   rw [if_pos (by omega)] at hu
   cases hc; cases hu; exact hx
  ·cases hc
 ·rw [if_neg hd] at hc hu
  exact h.2 i c u hc hu
theorem RepL.get {E : Env} {xs : List AV} {vs : Array Value} (h : RepL E xs vs) (i : Nat) (u : Value) : Rep E ((xs[i]?).getD .top) (vs.getD i u) := by
 rcases Nat.lt_or_ge i xs.length with hi | hi
 ·have h1 : xs[i]? = some xs[i] := List.getElem?_eq_getElem hi
  have h2 : vs[i]? = some (vs[i]'(by have := h.1; omega)) := Array.getElem?_eq_getElem (by have := h.1; omega)
  rw [h1]
  simp only [Option.getD_some, Array.getD, show i < vs.size from by have := h.1; omega, dif_pos]
  exact h.2 i _ _ h1 h2
 ·rw [List.getElem?_eq_none hi]; exact .top _
theorem RepL.nil (E : Env) : RepL E [] #[] := ⟨rfl, fun i c u hc => by simp at hc⟩
theorem RepL.append {E : Env} {xs ys : List AV} {vs ws : Array Value} (h : RepL E xs vs) (h' : RepL E ys ws) : RepL E (xs ++ ys) (vs ++ ws) := by
 refine ⟨by simp [h.1, h'.1], fun i c u hc hu => ?_⟩
 rw [List.getElem?_append] at hc
 rw [Array.getElem?_append] at hu
 have := h.1
 by_cases hi : i < xs.length
 ·rw [if_pos hi] at hc; rw [if_pos (by omega)] at hu; exact h.2 i c u hc hu
 ·rw [if_neg hi] at hc; rw [if_neg (by omega)] at hu; exact h'.2 _ c u hc (by rw [show i - xs.length = i - vs.size from by omega]; exact hu)
inductive Opd where
 | t (n : Nat)
 | c (v : AV)
 deriving Inhabited
def evalA (fr : List AV) : Opd → AV
 | .t n => (fr[n]?).getD .top
 | .c v => v
def repC : AV → Value → Bool
 | .top, _ => true
 | .bool b, .bool c => b == c
 | .int k n, .int k' m => decide (k = k') && decide (n = m)
 | .str s, .string t => decide (s = t.data.toList)
 | .nilp, .pointer none => true
 | .emp, .slice _ 0 0 => true
 | .nilfn, .nilFunc => true
 | .fn f [] [], .func g vs ws => decide (f = g) && vs.size == 0 && ws.size == 0
 | _, _ => false
def repCs : List AV → List Value → Bool
 | [], [] => true
 | x :: xs, v :: vs => repC x v && repCs xs vs
 | _, _ => false
def repK : AV → Value → Bool
 | .agg cs, .agg vs => repCs cs vs.toList
 | x, v => repC x v
theorem repC_ok {E : Env} {x : AV} {v : Value} (h : repC x v = true) : Rep E x v := by
 unfold repC at h
 split at h
 ·exact .top _
 ·have := eq_of_beq h; subst this; exact .pure (x := .bool _) (.bool _)
 ·simp only [Bool.and_eq_true, decide_eq_true_eq] at h; obtain ⟨rfl, rfl⟩ := h; exact .pure (x := .int _ _) (.int _ _)
 ·rename_i s t
  simp only [decide_eq_true_eq] at h; subst h
  have : (⟨t.data.toList.toArray⟩ : ByteArray) = t := by cases t; simp
  exact this ▸ .pure (x := .str _) (.str _)
 ·exact .pure (x := .nilp) .nilp
 ·exact .pure (x := .emp) (.emp _)
 ·exact .pure (x := .nilfn) .nilfn
 ·rename_i f g vs ws
  simp only [Bool.and_eq_true, decide_eq_true_eq, beq_iff_eq] at h
  obtain ⟨⟨rfl, h1⟩, h2⟩ := h
  exact .fn f [] [] vs ws (by simp [h1]) (by simp [h2]) (fun i c u hc => by simp at hc) (fun i c u hc => by simp at hc)
 ·cases h
theorem repCs_ok {E : Env} : ∀ {xs : List AV} {vs : List Value}, repCs xs vs = true → RepL E xs vs.toArray
 | [], [], _ => RepL.nil E
 | [], _ :: _, h => by simp [repCs] at h
 | _ :: _, [], h => by simp [repCs] at h
 | x :: xs, v :: vs, h => by
   simp only [repCs, Bool.and_eq_true] at h
   have ih := repCs_ok (E := E) h.2
   refine ⟨by have := ih.1; simp at this; simp [this], fun i c u hc hu => ?_⟩
   cases i with
   | zero => simp at hc hu; subst hc; subst hu; exact repC_ok h.1
   | succ i => exact ih.2 i c u (by simpa using hc) (by simpa using hu)
theorem repK_ok {E : Env} {x : AV} {v : Value} (h : repK x v = true) : Rep E x v := by
 unfold repK at h
 split at h
 ·rename_i cs vs
  have := repCs_ok (E := E) h
  exact .agg cs vs (by simpa using this.1) (fun i c u hc hu => this.2 i c u hc (by simpa using hu))
 ·exact repC_ok h
def fitO : Opd → Operand → Bool
 | .t n, .tmp m => decide (n = m)
 | .c x, .const v => repK x v
 | .c (.fn f [] []), .func g => decide (f = .func g)
 | _, _ => false
theorem fitO_ok {E : Env} {fr : List AV} {a : Act} (hr : RepL E fr a.tmps) {x : Opd} {y : Operand} (h : fitO x y = true) : Rep E (evalA fr x) (a.eval y) := by
 unfold fitO at h
 split at h
 ·simp only [decide_eq_true_eq] at h; subst h; exact hr.get _ _
 ·exact repK_ok h
 ·simp only [decide_eq_true_eq] at h; subst h
  exact .fn _ [] [] #[] #[] rfl rfl (fun i c u hc => by simp at hc) (fun i c u hc => by simp at hc)
 ·cases h
end Go.Proofs.YtemjlopoffjmpaaGreat.Abs
