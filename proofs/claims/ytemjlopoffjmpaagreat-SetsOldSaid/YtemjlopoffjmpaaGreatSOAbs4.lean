/-
  The abstract layer, part 4: reading and writing the cells of a block.
-/
import Derived.Test.YtemjlopoffjmpaaGreatSOAbs3
set_option linter.unusedSimpArgs false
set_option linter.unusedVariables false
namespace Go.Proofs.YtemjlopoffjmpaaGreat.Abs
open Go
theorem addr_add (b off k : Nat) : (⟨b, off, none⟩ : Addr).add k = ⟨b, off + k, none⟩ := by
 unfold Addr.add; split <;> simp_all
theorem cell_of {w : World} {b : Nat} {cells : Array Value} {t : TypeId} {q : Nat × Nat} (hb : w.heap[b]? = some (.cells cells t q)) (i : Nat) : w.cell? ⟨b, i, none⟩ = cells[i]? := by
 unfold World.cell?; simp [hb]
theorem run_load_row (P : Program) {w : World} {b : Nat} {cells : Array Value} {t : TypeId} {q : Nat × Nat} (hb : w.heap[b]? = some (.cells cells t q)) (off n : Nat) (h : off + n ≤ cells.size) :
 (loadCells ⟨b, off, none⟩ n).run P w = .ok (cells.extract off (off + n)) w := by
 rw [run_loadCells (P := P) w ⟨b, off, none⟩ n (fun j => (cells[off + j]?).getD undef) (fun j hj => by
  rw [addr_add, cell_of hb, Array.getElem?_eq_getElem (by omega)]; rfl)]
 congr 1
 apply Array.ext
 ·simp; omega
 ·intro i h1 h2
  simp at h1
  simp [Array.getElem?_eq_getElem (show off + i < cells.size from by omega)]
def splice : Array Value → Nat → List Value → Array Value
 | c, _, [] => c
 | c, k, v :: vs => splice (c.setIfInBounds k v) (k + 1) vs
theorem splice_size : ∀ (vs : List Value) (c : Array Value) (k : Nat), (splice c k vs).size = c.size
 | [], _, _ => rfl
 | v :: vs, c, k => by rw [splice, splice_size vs]; simp
theorem splice_get : ∀ (vs : List Value) (c : Array Value) (k m : Nat), k + vs.length ≤ c.size →
 (splice c k vs)[m]? = if k ≤ m ∧ m < k + vs.length then vs[m - k]? else c[m]?
 | [], c, k, m, _ => by rw [splice, if_neg (by simp only [List.length_nil]; omega)]
 | v :: vs, c, k, m, h => by
   simp only [List.length_cons] at h
   rw [splice, splice_get vs _ _ _ (by simp; omega)]
   by_cases h1 : k + 1 ≤ m ∧ m < k + 1 + vs.length
   ·rw [if_pos h1, if_pos (by simp only [List.length_cons]; omega)]
    rw [show m - k = (m - (k + 1)) + 1 from by omega]; rfl
   ·rw [if_neg h1, Array.getElem?_setIfInBounds]
    by_cases h2 : k = m
    ·subst h2; simp; omega
    ·rw [if_neg h2, if_neg (by simp only [List.length_cons]; omega)]
theorem putBlk_self {w : World} {b : Nat} {o : Obj} (h : w.heap[b]? = some o) : putBlk w b o = w := by
 unfold putBlk
 have : w.heap.setIfInBounds b o = w.heap := by
  apply Array.ext
  ·simp
  ·intro i h1 h2
   rw [Array.getElem_setIfInBounds (by simpa using h1)]
   split
   ·rename_i e; subst e
    rw [Array.getElem?_eq_getElem h2] at h; cases h; rfl
   ·rfl
 rw [this]
theorem putBlk_putBlk (w : World) (b : Nat) (o o' : Obj) : putBlk (putBlk w b o) b o' = putBlk w b o' := by
 unfold putBlk; simp
theorem setCell_blk {w : World} {b : Nat} {cells : Array Value} {t : TypeId} {q : Nat × Nat} (hb : w.heap[b]? = some (.cells cells t q)) (k : Nat) (v : Value) :
 w.setCell ⟨b, k, none⟩ v = putBlk w b (.cells (cells.setIfInBounds k v) t q) := by
 unfold World.setCell putBlk
 have : ∀ f : Obj → Obj, w.heap.modify b f = w.heap.setIfInBounds b (f (.cells cells t q)) := by
  intro f
  apply Array.ext_getElem?
  intro i
  rw [Array.getElem?_modify, Array.getElem?_setIfInBounds]
  split
  ·rename_i e; subst e; rw [if_pos (blk_lt hb), hb]; rfl
  ·rfl
 rw [this]
 rfl
theorem run_store_row (P : Program) (b : Nat) (t : TypeId) (q : Nat × Nat) (o : Nat) : ∀ (vs : List Value) (i : Nat) (cells : Array Value) (w : World), w.heap[b]? = some (.cells cells t q) →
 (q = (0, 0) ∨ cells.size ≤ q.1) → o + i + vs.length ≤ cells.size → (∀ v ∈ vs, v.oneCell' = true) →
 (storeCells ⟨b, o, none⟩ vs i).run P w = .ok () (putBlk w b (.cells (splice cells (o + i) vs) t q))
 | [], i, cells, w, hb, _, _, _ => by
   rw [splice, putBlk_self hb]; rfl
 | v :: vs, i, cells, w, hb, hq, hin, h1 => by
   simp only [List.length_cons] at hin
   have hfz : w.frozen? ⟨b, o + i, none⟩ = false := by
    unfold World.frozen?
    simp only [hb]
    rcases hq with rfl | hq
    ·simp
    ·simp; omega
   have hst : (store ((⟨b, o, none⟩ : Addr).add i) v).run P w = .ok () (putBlk w b (.cells (cells.setIfInBounds (o + i) v) t q)) := by
    rw [addr_add, run_store P w _ v _ (h1 v (by simp)), cell_of hb, Array.getElem?_eq_getElem (by omega)]
    simp only [hfz]
    rw [setCell_blk hb]; rfl
   have hb' : (putBlk w b (.cells (cells.setIfInBounds (o + i) v) t q)).heap[b]? = some (.cells (cells.setIfInBounds (o + i) v) t q) := putBlk_same _ (blk_lt hb)
   have ih := run_store_row P b t q o vs (i + 1) (cells.setIfInBounds (o + i) v) _ hb' (by simpa using hq) (by simp; omega) (fun u hu => h1 u (by simp [hu]))
   rw [storeCells]
   simp only [Sem.run_bind, hst, Result.andThen, ih, putBlk_putBlk, splice]
   rfl
structure TI (P : Program) (t : TypeId) (agg : Bool) (n : Nat) : Prop where
 info : ∃ i, P.info? t = some i ∧ i.size = n
 und : ∃ d, P.underlying t = some d ∧ (agg = true ↔ ((∃ fs, d = .struct fs) ∨ ∃ k e, d = .array k e))
def tiB (P : Program) (t : TypeId) (agg : Bool) (n : Nat) : Bool :=
 (match P.info? t with | some i => decide (i.size = n) | none => false) &&
 (match P.underlying t with | some (.struct _) => agg | some (.array _ _) => agg | some _ => !agg | none => false)
theorem tiB_ok {P : Program} {t : TypeId} {agg : Bool} {n : Nat} (h : tiB P t agg n = true) : TI P t agg n := by
 unfold tiB at h
 rw [Bool.and_eq_true] at h
 obtain ⟨h1, h2⟩ := h
 constructor
 ·cases hi : P.info? t with
  | none => rw [hi] at h1; cases h1
  | some i => rw [hi] at h1; exact ⟨i, rfl, by simpa using h1⟩
 ·cases hu : P.underlying t with
  | none => rw [hu] at h2; cases h2
  | some d =>
    rw [hu] at h2
    refine ⟨d, rfl, ?_⟩
    cases d <;> simp_all
theorem run_sizeOf' {P : Program} {t : TypeId} {i : TypeInfo} (h : P.info? t = some i) (w : World) : (sizeOf t).run P w = .ok i.size w := by
 unfold sizeOf typeInfo
 simp [Sem.run_bind, h, program, Sem.run, Result.andThen]
theorem run_isAgg {P : Program} {t : TypeId} {agg : Bool} {n : Nat} (h : TI P t agg n) (w : World) : (isAgg t).run P w = .ok agg w := by
 obtain ⟨d, hd, hagg⟩ := h.und
 unfold isAgg
 simp only [Sem.run_bind, run_underlying hd, Result.andThen]
 cases d <;> simp at hagg <;> simp [hagg, pure, Sem.run]
theorem run_loadVar_blk {P : Program} {t : TypeId} {agg : Bool} {n : Nat} (h : TI P t agg n) {w : World} {b off : Nat} {cells : Array Value} {te : TypeId} {q : Nat × Nat}
 (hb : w.heap[b]? = some (.cells cells te q)) (hin : off + n ≤ cells.size) (h1 : agg = false → n = 1) :
 (loadVar t ⟨b, off, none⟩).run P w = .ok (if agg then .agg (cells.extract off (off + n)) else (cells[off]?).getD undef) w := by
 obtain ⟨i, hi, hn⟩ := h.info
 unfold loadVar
 simp only [Sem.run_bind, run_isAgg h, Result.andThen]
 cases agg with
 | true =>
   simp only [if_true, Sem.run_bind, run_sizeOf' hi, Result.andThen, hn, run_load_row P hb off n hin]
   rfl
 | false =>
   have h1 := h1 rfl
   subst h1
   simp only [Bool.false_eq_true, if_false, run_load, cell_of hb, Array.getElem?_eq_getElem (show off < cells.size from by omega)]
   rfl
end Go.Proofs.YtemjlopoffjmpaaGreat.Abs
