/-
  The abstract layer, part 12: operations that make or change memory.
-/
import Derived.Test.YtemjlopoffjmpaaGreatSOAbs11
set_option linter.unusedSimpArgs false
set_option linter.unusedVariables false
namespace Go.Proofs.YtemjlopoffjmpaaGreat.Abs
open Go
def chunks {α : Type} (sz : Nat) : Nat → List α → List (List α)
 | 0, _ => []
 | n + 1, l => l.take sz :: chunks sz n (l.drop sz)
def srcOf (H : AH) : AV → Option (List (List AV))
 | .str s => some (s.map fun b => [.int .u8 b.toNat])
 | x => elemsOf H x
def aop1 (op : AOp) (ev : Opd → AV) (H : AH) : Option (AV × AH) :=
 match op with
 | .alloc cs => if cs.length ≠ 0 then some (.ptr H.length 0 0 1, H ++ [some [cs]]) else none
 | .box x =>
   match cellsOf (ev x) with
   | some cs => if cs.length ≠ 0 ∧ cs.all cellA = true then some (.ptr H.length 0 0 1, H ++ [some [cs]]) else none
   | none => none
 | .bslice sz len zero parts =>
   match fillA ev (List.replicate len zero).flatten (parts.map fun x => (x.1 * sz, sz, x.2)) with
   | some cells => if cells.all cellA = true then some (.own H.length sz 0 len len, H ++ [some (chunks sz len cells)]) else none
   | none => none
 | .store n p x =>
   match ev p, cellsOf (ev x) with
   | .ptr r i j tot, some cs =>
     match liveO H r tot with
     | some o =>
       match o[i]? with
       | some e => if cs.length = n ∧ j + n ≤ e.length ∧ cs.all cellA = true then some (.top, H.set r (some (o.set i (lay e j cs)))) else none
       | none => none
     | none => none
   | _, _ => none
 | .convsb x =>
   match ev x with
   | .str s => some (.own H.length 1 0 s.length s.length, H ++ [some (s.map fun b => [.int .u8 b.toNat])])
   | _ => none
 | .mksl sz bytes zero len cap =>
   match ev len, ev cap with
   | .int _ l, .int _ c =>
     if 0 ≤ l ∧ l ≤ c ∧ c ≤ 1000000000 ∧ bytes ≤ 10000 then some (.own H.length sz 0 l.toNat l.toNat, H ++ [some (List.replicate l.toNat zero)]) else none
   | _, _ => none
 | .append sz bytes zero x y =>
   match ev x, srcOf H (ev y) with
   | .emp, some news => if news.length * bytes ≤ 1000000000000 ∧ news.length ≤ 1000000000 ∧ news.all (fun e => decide (e.length = sz)) = true then some (.own H.length sz 0 news.length news.length, H ++ [some news]) else none
   | .own r sz' off len tot, some news =>
     match liveO H r tot with
     | some o =>
       if news.all (fun e => decide (e.length = sz)) = false ∨ sz' ≠ sz then none
       else if off = 0 ∧ len = tot then
        if (tot + news.length) * bytes ≤ 1000000000000 ∧ tot + news.length ≤ 1000000000 then some (.own r sz 0 (tot + news.length) (tot + news.length), H.set r (some (o ++ news))) else none
       else if off + len + news.length ≤ tot then
        some (.own r sz off (len + news.length) tot, H.set r (some (o.take (off + len) ++ news ++ o.drop (off + len + news.length))))
       else none
     | none => none
   | _, _ => none
 | .copy sz x y =>
   match ev x, srcOf H (ev y) with
   | .own r sz' off len tot, some src =>
     match liveO H r tot with
     | some o =>
       if off + len ≤ tot ∧ src.all (fun e => decide (e.length = sz)) = true ∧ sz' = sz then
        some (.int .i64 (min src.length len : Nat), H.set r (some (o.take off ++ src.take (min src.length len) ++ o.drop (off + min src.length len))))
       else none
     | none => none
   | .emp, some _ => some (.int .i64 0, H)
   | _, _ => none
 | .clear sz zero x =>
   match ev x with
   | .own r sz' off len tot =>
     match liveO H r tot with
     | some o => if off + len ≤ tot ∧ sz' = sz then some (.tuple [], H.set r (some (o.take off ++ List.replicate len zero ++ o.drop (off + len)))) else none
     | none => none
   | .emp => some (.tuple [], H)
   | .fz [] => some (.tuple [], H)
   | _ => none
 | _ => none
def elB (P : Program) (e : TypeId) (sz bytes : Nat) (zero : List AV) : Bool :=
 match P.info? e with
 | some i => decide (i.size = sz) && decide (i.bytes = bytes) && decide (0 < sz) && decide (zero.length = sz) && zero.all cellA &&
   (match i.zero with | some z => repCs zero z.cells.toList | none => false)
 | none => false
def fit1 (P : Program) (op : AOp) (o : Op) : Bool :=
 match op, o with
 | .alloc cs, .alloc t =>
   (match P.info? t with
    | some i => match i.zero with
      | some z => repCs cs z.cells.toList && cs.all cellA
      | none => false
    | none => false)
 | .box x, .box _ y => fitO x y
 | .bslice sz len zero parts, .buildSlice t n ps =>
   decide (n = len) && decide (len * sz ≤ 16777216) &&
   (match P.underlying t with
    | some (.slice e) => (match P.info? e with | some i => elB P e sz i.bytes zero | none => false)
    | _ => false) && fit0.fitParts (fun i => some (i * sz, sz)) (parts.map fun x => (x.1 * sz, sz, x.2)) ps.toList
 | .store n p x, .store t p' x' => (match P.info? t with | some i => decide (i.size = n) | none => false) && fitO p p' && fitO x x'
 | .convsb x, .convert s t y =>
   (match P.underlying s with | some .string => true | _ => false) &&
   (match P.underlying t with | some (.slice e) => (match P.underlying e with | some (.int .u8) => true | _ => false) | _ => false) && fitO x y
 | .mksl sz bytes zero len cap, .makeSlice t l c =>
   (match P.underlying t with | some (.slice e) => elB P e sz bytes zero | _ => false) && fitO len l && fitO cap c
 | .append sz bytes zero x y, .call { callee := .builtin .append, args := args, argTypes := ts } =>
   (match args.toList, ts.toList with
    | [x', y'], [t, u] => (match P.underlying t with | some (.slice e) => elB P e sz bytes zero | _ => false) && (match P.underlying u with | some (.int _) => false | none => false | some _ => true) && fitO x x' && fitO y y'
    | _, _ => false)
 | .copy sz x y, .call { callee := .builtin .copy, args := args, argTypes := ts } =>
   (match args.toList, ts.toList with
    | [x', y'], t :: _ => (match P.underlying t with | some (.slice e) => (match P.info? e with | some i => decide (i.size = sz) | none => false) | _ => false) && fitO x x' && fitO y y'
    | _, _ => false)
 | .clear sz zero x, .call { callee := .builtin .clear, args := args, argTypes := ts } =>
   (match args.toList, ts.toList with
    | [x'], [t] => (match P.underlying t with | some (.slice e) => (match P.info? e with | some i => elB P e sz i.bytes zero | none => false) | _ => false) && fitO x x'
    | _, _ => false)
 | _, _ => false
def Sound1 (P : Program) (o : Op) (ao : AOp) : Prop :=
 ∀ (E : Env) (w : World) (H : AH) (fr : List AV) (a : Act) (v : AV) (H' : AH) (oper : Oper), oper.op = o → Sim E w H → RepL E fr a.tmps → aop1 ao (evalA fr) H = some (v, H') →
   ∃ u w' E', ((execOp a.eval oper).run P w = .ok (.value u) w' ∨ ((execOp a.eval oper).run P w = .ok .skip w' ∧ u = undef)) ∧ Le E E' ∧ Sim E' w' H' ∧ Rep E' v u
theorem RowIs.of {E : Env} {sz : Nat} {xs : List AV} {cells : Array Value} (h : RepL E xs cells) (hl : xs.length = sz) : RowIs E sz cells [xs] := by
 intro i e k c u hi hk hu
 match i, hi with
 | 0, hi => simp at hi; subst hi; exact h.2 k c u hk (by simpa using hu)
 | i + 1, hi => simp at hi
theorem ones {E : Env} {xs : List AV} {cells : Array Value} (h : RepL E xs cells) (hc : xs.all cellA = true) : ∀ (i : Nat) v, cells[i]? = some v → v.oneCell' = true := by
 intro i v hv
 have hi : i < xs.length := by
  rw [h.1]
  rcases Nat.lt_or_ge i cells.size with h' | h'
  ·exact h'
  ·rw [Array.getElem?_eq_none h'] at hv; cases hv
 have hx := List.getElem?_eq_getElem hi
 exact cellA_ok (h.2 i _ v hx hv) (List.all_eq_true.1 hc _ (List.mem_of_getElem? hx))
theorem ok_alloc {P : Program} {cs : List AV} {o : Op} (hf : fit1 P (.alloc cs) o = true) : Sound1 P o (.alloc cs) := by
 intro E w H fr a v H' oper ho hs hr hv
 cases o <;> simp only [fit1, Bool.false_eq_true] at hf
 rename_i t
 obtain ⟨it, z, hit, hz, hzc⟩ : ∃ it z, P.info? t = some it ∧ it.zero = some z ∧ (repCs cs z.cells.toList && cs.all cellA) = true := by
  split at hf
  ·split at hf
   ·exact ⟨_, _, by assumption, by assumption, hf⟩
   ·cases hf
  ·cases hf
 rw [Bool.and_eq_true] at hzc
 have hzr : RepL E cs z.cells := by have := repCs_ok (E := E) hzc.1; simpa using this
 simp only [aop1] at hv
 split at hv
 ·rename_i hne
  cases hv
  have hl := hzr.1
  obtain ⟨hle, hsim⟩ := hs.new [cs] cs.length z.cells t (0, 0) (by omega) (.inl rfl) (by simp) (by simp; omega) (ones hzr hzc.2) (RowIs.of hzr rfl)
  refine ⟨.pointer (some ⟨w.heap.size, 0, none⟩), _, _, .inl ?_, hle, hsim, ?_⟩
  ·simp only [execOp, ho]
   apply run_v
   simp only [Instr.alloc, zeroValue, typeInfo, Sem.run_bind, hit, hz, Result.andThen, Sem.run_pure, newVar, newRow, program, Sem.run, newObj]
   rfl
  ·have := Rep.ptr (E := E.with H.length ⟨w.heap.size, cs.length, z.cells.size, [cs].length⟩) H.length 0 0 1 _ (Env.with_same _ _ _) rfl
   simpa using this
 ·cases hv
theorem ok_box {P : Program} {x : Opd} {o : Op} (hf : fit1 P (.box x) o = true) : Sound1 P o (.box x) := by
 intro E w H fr a v H' oper ho hs hr hv
 cases o <;> simp only [fit1, Bool.false_eq_true] at hf
 rename_i t y
 have hx := fitO_ok hr hf
 simp only [aop1] at hv
 split at hv
 ·rename_i cs hcs
  have hc := cells_rep hx hcs
  split at hv
  ·rename_i hne
   cases hv
   have hl := hc.1
   obtain ⟨hle, hsim⟩ := hs.new [cs] cs.length (a.eval y).cells t (0, 0) (by omega) (.inl rfl) (by simp) (by simp; omega) (ones hc hne.2) (RowIs.of hc rfl)
   refine ⟨.pointer (some ⟨w.heap.size, 0, none⟩), _, _, .inl ?_, hle, hsim, ?_⟩
   ·simp only [execOp, ho]
    apply run_v
    simp only [Instr.box, Sem.run_bind, Result.andThen, Sem.run_pure, newVar, newRow, Sem.run, newObj]
    rfl
   ·have := Rep.ptr (E := E.with H.length ⟨w.heap.size, cs.length, (a.eval y).cells.size, [cs].length⟩) H.length 0 0 1 _ (Env.with_same _ _ _) rfl
    simpa using this
  ·cases hv
 ·cases hv
theorem chunks_length {α : Type} (sz : Nat) : ∀ (n : Nat) (l : List α), (chunks sz n l).length = n
 | 0, _ => rfl
 | n + 1, l => by simp [chunks, chunks_length sz n]
theorem chunks_get {α : Type} (sz : Nat) : ∀ (n : Nat) (l : List α) (i : Nat), i < n → (chunks sz n l)[i]? = some ((l.drop (i * sz)).take sz)
 | 0, _, _, h => by omega
 | n + 1, l, 0, _ => by simp [chunks]
 | n + 1, l, i + 1, h => by
   rw [chunks, List.getElem?_cons_succ, chunks_get sz n _ i (by omega), List.drop_drop]
   congr 3
   rw [Nat.add_mul]; omega
theorem RowIs.chunks {E : Env} {sz n : Nat} {xs : List AV} {cells : Array Value} (h : RepL E xs cells) : RowIs E sz cells (chunks sz n xs) := by
 intro i e k c u hi hk hu
 have hin : i < n := by
  rcases Nat.lt_or_ge i n with h' | h'
  ·exact h'
  ·rw [List.getElem?_eq_none (by rw [chunks_length]; exact h')] at hi; cases hi
 rw [chunks_get sz n xs i hin] at hi
 cases hi
 have hks : k < sz := by
  rcases Nat.lt_or_ge k sz with h' | h'
  ·exact h'
  ·rw [List.getElem?_eq_none (by simp; omega)] at hk; cases hk
 rw [List.getElem?_take_of_lt hks, List.getElem?_drop] at hk
 exact h.2 _ c u hk hu
theorem fillA_length : ∀ {ev : Opd → AV} (parts : List (Nat × Nat × Opd)) {cells cells' : List AV}, fillA ev cells parts = some cells' → cells'.length = cells.length
 | _, [], _, _, h => by simp only [fillA, Option.some.injEq] at h; rw [h]
 | ev, (off, size, x) :: parts, cells, cells', h => by
   unfold fillA at h
   split at h
   ·split at h
    ·rename_i hle
     rw [fillA_length parts h, lay_length _ _ _ (by omega)]
    ·cases h
   ·cases h
theorem zero_cells {E : Env} {zero : List AV} {z : Array Value} (h : RepL E zero z) (n : Nat) : RepL E (List.replicate n zero).flatten ((Array.range (n * z.size)).map (z[· % z.size]!)) := by
 have hl := h.1
 refine ⟨by simp [hl], fun i c u hc hu => ?_⟩
 have hi : i < n * z.size := by
  rcases Nat.lt_or_ge i (n * z.size) with h' | h'
  ·exact h'
  ·rw [Array.getElem?_eq_none (by simpa using h')] at hu; cases hu
 have hpos : 0 < z.size := by
  rcases Nat.eq_zero_or_pos z.size with h0 | h0
  ·rw [h0] at hi; simp at hi
  ·exact h0
 have hml : i % z.size < z.size := Nat.mod_lt i hpos
 have hu' : z[i % z.size]? = some u := by
  rw [Array.getElem?_map, Array.getElem?_range, if_pos hi] at hu
  simp only [Option.map_some, Option.some.injEq] at hu
  rw [← hu, getElem!_pos z (i % z.size) hml]
  exact Array.getElem?_eq_getElem hml
 have hc' : zero[i % z.size]? = some c := by
  rw [← hc]
  clear hc hu hu'
  induction n generalizing i with
  | zero => simp at hi
  | succ n ih =>
    rw [List.replicate_succ, List.flatten_cons, List.getElem?_append]
    by_cases c1 : i < zero.length
    ·rw [if_pos c1, Nat.mod_eq_of_lt (by omega)]
    ·rw [if_neg c1]
     have := ih (i := i - zero.length) (by rw [Nat.add_mul] at hi; omega) (Nat.mod_lt _ hpos)
     rw [← this]
     congr 1
     rw [hl, Nat.mod_eq_sub_mod (by omega)]
 exact h.2 _ c u hc' hu'
theorem ok_bslice {P : Program} {sz len : Nat} {zero : List AV} {parts : List (Nat × Opd)} {o : Op} (hf : fit1 P (.bslice sz len zero parts) o = true) : Sound1 P o (.bslice sz len zero parts) := by
 intro E w H fr a v H' oper ho hs hr hv
 cases o <;> simp only [fit1, Bool.false_eq_true, Bool.and_eq_true, decide_eq_true_eq] at hf
 rename_i t n ps
 obtain ⟨⟨⟨rfl, hsmall⟩, ht⟩, hp⟩ := hf
 obtain ⟨e, i, z, hu, hi, hsz, hpos, hzl, hzA, hz, hzc⟩ : ∃ e i z, P.underlying t = some (.slice e) ∧ P.info? e = some i ∧ i.size = sz ∧ 0 < sz ∧ zero.length = sz ∧ zero.all cellA = true ∧ i.zero = some z ∧ repCs zero z.cells.toList = true := by
  split at ht
  ·rename_i e hu
   split at ht
   ·rename_i i hi
    unfold elB at ht
    simp only [hi, Bool.and_eq_true, decide_eq_true_eq] at ht
    obtain ⟨⟨⟨⟨⟨h1, _⟩, h2⟩, h3⟩, h4⟩, h5⟩ := ht
    split at h5
    ·exact ⟨e, i, _, hu, hi, h1, h2, h3, h4, by assumption, h5⟩
    ·cases h5
   ·cases ht
  ·cases ht
 have hzr : RepL E zero z.cells := by have := repCs_ok (E := E) hzc; simpa using this
 simp only [aop1] at hv
 split at hv
 ·rename_i cells hcells
  split at hv
  ·rename_i hall
   cases hv
   have hzcells := zero_cells hzr n
   have hzs : z.cells.size = sz := by rw [← hzr.1, hzl]
   rw [hzs] at hzcells
   obtain ⟨vs', h1, h2⟩ := fill_ok (P := P) hr (fun i => some (i * sz, sz)) _ ps.toList _ _ cells hp hzcells hcells
   have hlen : cells.length = n * sz := by rw [fillA_length _ hcells]; simp [hzl]
   obtain ⟨hle, hsim⟩ := hs.new (chunks sz n cells) sz vs' e (0, 0) hpos (.inl rfl) (by
    intro e' he'
    obtain ⟨i', hi'⟩ := List.mem_iff_getElem?.1 he'
    have hin : i' < n := by
     rcases Nat.lt_or_ge i' n with h' | h'
     ·exact h'
     ·rw [List.getElem?_eq_none (by rw [chunks_length]; exact h')] at hi'; cases hi'
    rw [chunks_get _ _ _ _ hin] at hi'; cases hi'
    have : (i' + 1) * sz ≤ n * sz := Nat.mul_le_mul_right _ hin
    rw [Nat.add_mul] at this
    simp; omega) (by rw [chunks_length]; have := h2.1; omega) (ones h2 hall) (RowIs.chunks h2)
   refine ⟨.slice (some ⟨w.heap.size, 0, none⟩) n n, _, _, .inl ?_, hle, hsim, ?_⟩
   ·simp only [execOp, ho]
    apply run_v
    have e1 : (ps.map fun (i, x) => (i, a.eval x)).toList = ps.toList.map fun x => (x.1, a.eval x.2) := by simp
    simp only [Instr.buildSlice, Sem.run_bind, run_underlying hu, Result.andThen, run_sizeOf' hi, hsz]
    rw [if_neg (by omega)]
    by_cases h0 : n * sz = 0
    ·have hn : n = 0 := by
      rcases Nat.mul_eq_zero.1 h0 with h | h
      ·exact h
      ·omega
     subst hn
     simp only [Nat.zero_mul, if_true, Sem.run_pure, Sem.run_bind, Result.andThen]
     simp only [Nat.zero_mul] at h1
     rw [e1]
     have e2 : ∀ f g : Nat → Value, (Array.range 0).map f = (Array.range 0).map g := fun f g => by simp
     rw [e2 _ (fun x => z.cells[x % sz]!)]
     simp only [h1]
     simp only [newRow, newObj, Sem.run_bind, Sem.run, Result.andThen, Sem.run_pure]
     rfl
    ·simp only [if_neg h0, zeroValue, typeInfo, Sem.run_bind, hi, hz, Result.andThen, Sem.run_pure, program, Sem.run, hzs]
     rw [e1]
     simp only [h1]
     simp only [newRow, newObj, Sem.run_bind, Sem.run, Result.andThen, Sem.run_pure]
     rfl
   ·have := Rep.own (E := E.with H.length ⟨w.heap.size, sz, vs'.size, (chunks sz n cells).length⟩) H.length sz 0 n n n _ (Env.with_same _ _ _) (chunks_length _ _ _) rfl (by omega) (Nat.le_refl _) (by omega) (by have := h2.1; simp; omega)
    simpa using this
  ·cases hv
 ·cases hv
end Go.Proofs.YtemjlopoffjmpaaGreat.Abs
