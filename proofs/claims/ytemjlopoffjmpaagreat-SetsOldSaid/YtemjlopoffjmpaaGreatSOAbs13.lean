/-
  The abstract layer, part 13: the operations of part 12 do what is told: stores, sources, append.
-/
import Derived.Test.YtemjlopoffjmpaaGreatSOAbs12
set_option linter.unusedSimpArgs false
set_option linter.unusedVariables false
namespace Go.Proofs.YtemjlopoffjmpaaGreat.Abs
open Go
theorem run_storeVar_blk' {P : Program} {t : TypeId} {i : TypeInfo} (hi : P.info? t = some i) {w : World} {b off : Nat} {cells : Array Value} {te : TypeId} {q : Nat × Nat}
 (hb : w.heap[b]? = some (.cells cells te q)) (hq : q = (0, 0) ∨ cells.size ≤ q.1) (hin : off + i.size ≤ cells.size) (v : Value) (hv : v.cells.size = i.size) (h1 : ∀ u ∈ v.cells.toList, u.oneCell' = true) :
 (storeVar t ⟨b, off, none⟩ v).run P w = .ok () (putBlk w b (.cells (splice cells off v.cells.toList) te q)) := by
 unfold storeVar
 simp only [Sem.run_bind, run_sizeOf' hi, Result.andThen, hv, ne_eq, not_true_eq_false, if_false]
 have := run_store_row P b te q off v.cells.toList 0 cells w hb hq (by simp; omega) h1
 simpa [Sem.run, pure, Sem.run_pure] using this
theorem mem_one {E : Env} {xs : List AV} {cells : Array Value} (h : RepL E xs cells) (hc : xs.all cellA = true) : ∀ u ∈ cells.toList, u.oneCell' = true := by
 intro u hu
 obtain ⟨i, hi⟩ := List.mem_iff_getElem?.1 hu
 exact ones h hc i u (by simpa using hi)
theorem splice_one {cells : Array Value} (h : ∀ (i : Nat) v, cells[i]? = some v → v.oneCell' = true) (k : Nat) (us : List Value) (hu : ∀ u ∈ us, u.oneCell' = true) (hin : k + us.length ≤ cells.size) :
 ∀ (i : Nat) v, (splice cells k us)[i]? = some v → v.oneCell' = true := by
 intro i v hv
 rw [splice_get _ _ _ _ hin] at hv
 split at hv
 ·exact hu v (List.mem_of_getElem? hv)
 ·exact h i v hv
theorem mul_le_of_lt {i j sz : Nat} (h : i < j) : i * sz + sz ≤ j * sz := by
 have : (i + 1) * sz ≤ j * sz := Nat.mul_le_mul_right _ h
 rwa [Nat.add_mul, Nat.one_mul] at this
theorem RowIs.lay {E : Env} {sz : Nat} {cells : Array Value} {o : AObj} (h : RowIs E sz cells o) (hsz : ∀ e ∈ o, e.length = sz) (hfit : o.length * sz ≤ cells.size) {i : Nat} {e : List AV} (he : o[i]? = some e)
 {cs : List AV} {us : Array Value} (hc : RepL E cs us) (j : Nat) (hj : j + cs.length ≤ sz) : RowIs E sz (splice cells (i * sz + j) us.toList) (o.set i (Abs.lay e j cs)) := by
 have hil : i < o.length := by
  rcases Nat.lt_or_ge i o.length with h' | h'
  ·exact h'
  ·rw [List.getElem?_eq_none h'] at he; cases he
 have hel := hsz e (List.mem_of_getElem? he)
 have hus := hc.1
 have h3 := mul_le_of_lt (sz := sz) hil
 intro i' e' k c u hi' hk hu
 rw [splice_get _ _ _ _ (by simp; omega)] at hu
 rw [List.getElem?_set] at hi'
 by_cases hii : i = i'
 ·subst hii
  rw [if_pos rfl, if_pos hil] at hi'
  cases hi'
  rw [lay_get _ _ _ (by omega)] at hk
  by_cases c1 : j ≤ k ∧ k < j + cs.length
  ·rw [if_pos c1] at hk
   rw [if_pos ⟨by omega, by simp; omega⟩] at hu
   refine hc.2 _ c u hk ?_
   rw [← hu, Array.getElem?_toList]; congr 1; omega
  ·rw [if_neg c1] at hk
   rw [if_neg (by simp; omega)] at hu
   exact h i e k c u he hk hu
 ·rw [if_neg hii] at hi'
  have hkl : k < sz := by
   rcases Nat.lt_or_ge k e'.length with h' | h'
   ·rw [hsz e' (List.mem_of_getElem? hi')] at h'; exact h'
   ·rw [List.getElem?_eq_none h'] at hk; cases hk
  rw [if_neg (by
   rintro ⟨c1, c2⟩
   simp at c2
   rcases Nat.lt_or_gt_of_ne hii with c3 | c3
   ·have := mul_le_of_lt (sz := sz) c3; omega
   ·have := mul_le_of_lt (sz := sz) c3; omega)] at hu
  exact h i' e' k c u hi' hk hu
theorem ok_store {P : Program} {n : Nat} {p x : Opd} {o : Op} (hf : fit1 P (.store n p x) o = true) : Sound1 P o (.store n p x) := by
 intro E w H fr a v H' oper ho hs hr hv
 cases o <;> simp only [fit1, Bool.false_eq_true, Bool.and_eq_true] at hf
 rename_i t p' x'
 obtain ⟨⟨ht, h1⟩, h2⟩ := hf
 have hp := fitO_ok hr h1
 have hx := fitO_ok hr h2
 obtain ⟨it, hit, hn⟩ : ∃ i, P.info? t = some i ∧ i.size = n := by
  split at ht
  ·exact ⟨_, by assumption, by simpa using ht⟩
  ·cases ht
 simp only [aop1] at hv
 split at hv
 ·rename_i r i j tot cs e1 hcs
  rw [e1] at hp
  split at hv
  ·rename_i o hl
   obtain ⟨hat, hlen, htt⟩ := live_of hs hl
   split at hv
   ·rename_i e he
    split at hv
    ·rename_i hok
     obtain ⟨hcl, hjn, hall⟩ := hok
     cases hv
     obtain ⟨y, hy, hpv⟩ := rep_ptr hp htt
     have hlies := lies_of hs hat hy
     obtain ⟨cells, te, q, hb, hcn, hq, hone, hrow⟩ := hlies.blk
     have hc := cells_rep hx hcs
     have hil : i < o.length := by
      rcases Nat.lt_or_ge i o.length with h' | h'
      ·exact h'
      ·rw [List.getElem?_eq_none h'] at he; cases he
     have hel := hlies.sz e (List.mem_of_getElem? he)
     have h3 := mul_le_of_lt (sz := y.sz) hil
     have hfit := hlies.fits
     have hcl' := hc.1
     have hrun := run_storeVar_blk' (P := P) hit (w := w) (off := i * y.sz + j) hb (by rw [hcn]; exact hq) (by rw [hn, hcn]; omega) (a.eval x') (by rw [hn]; omega) (mem_one hc hall)
     obtain ⟨hle, hsim⟩ := hs.write hat hy (o' := o.set i (lay e j cs)) (splice cells (i * y.sz + j) (a.eval x').cells.toList) te q (by rw [splice_size]; exact hcn) hq (by simp)
      (by
       intro e' he'
       rcases List.mem_or_eq_of_mem_set he' with h' | h'
       ·exact hlies.sz e' h'
       ·rw [h', lay_length _ _ _ (by omega)]; exact hel)
      (by simpa using hfit) (splice_one hone _ _ (mem_one hc hall) (by simp; omega)) (RowIs.lay hrow hlies.sz (by omega) he hc j (by omega))
     refine ⟨undef, _, _, .inr ⟨?_, rfl⟩, hle, hsim, .top _⟩
     simp only [execOp, ho, Instr.storeAt, hpv, Instr.sureAddr, Sem.run_bind, Sem.run_pure, Result.andThen, hrun]
    ·cases hv
   ·cases hv
  ·cases hv
 ·cases hv
theorem src_ok {P : Program} {E : Env} {w : World} {H : AH} (hs : Sim E w H) {y : AV} {v : Value} (hy : Rep E y v) {news : List (List AV)} (hn : srcOf H y = some news) (sz : Nat) (hsz : ∀ e ∈ news, e.length = sz) :
 ∃ us : Array Value, us.size = news.length * sz ∧ RowIs E sz us news ∧ (∀ u ∈ us.toList, u.oneCell' = true) ∧ (Builtin.lenOf v).run P w = .ok news.length w ∧
   ∀ m, m ≤ news.length → (Builtin.firstCells sz m v).run P w = .ok (us.extract 0 (m * sz)) w := by
 by_cases hstr : ∃ s, y = .str s
 ·obtain ⟨s, rfl⟩ := hstr
  simp only [srcOf, Option.some.injEq] at hn; subst hn
  rw [rep_str hy]
  have hlen : (⟨s.toArray⟩ : ByteArray).size = s.length := by simp [ByteArray.size]
  cases s with
  | nil =>
    refine ⟨#[], by simp, fun i e k c u hi => by simp at hi, by simp, by simp [Builtin.lenOf, Sem.run_pure, ByteArray.size], fun m hm => ?_⟩
    have : m = 0 := by simpa using hm
    subst this
    simp [Builtin.firstCells, Sem.run_pure]
  | cons b0 br =>
    have hsz1 : sz = 1 := by rw [← hsz [.int .u8 b0.toNat] (by simp)]; rfl
    subst hsz1
    refine ⟨((b0 :: br).map fun b => Value.int .u8 b.toNat).toArray, by simp, ?_, by simp [Value.oneCell'], by simp [Builtin.lenOf, Sem.run_pure, ByteArray.size], fun m hm => ?_⟩
    ·intro i e k c u hi hk hu
     rw [List.getElem?_map] at hi
     cases hb : (b0 :: br)[i]? with
     | none => rw [hb] at hi; cases hi
     | some b =>
       rw [hb] at hi; cases hi
       match k, hk with
       | 0, hk =>
         simp at hk; subst hk
         rw [List.getElem?_toArray, Nat.mul_one, Nat.add_zero, List.getElem?_map, hb] at hu
         cases hu
         exact .pure (x := .int _ _) (.int _ _)
       | k + 1, hk => simp at hk
    ·simp only [Builtin.firstCells]
     rw [Sem.run_pure]
     congr 1
     apply Array.ext'
     simp [List.map_take]
 ·have hel : elemsOf H y = some news := by
   rw [← hn]
   cases y <;> first | rfl | exact absurd ⟨_, rfl⟩ hstr
  obtain ⟨ad, cap, rfl, hcap, hne⟩ := elems_rep hs hy hel
  have hlenof : (Builtin.lenOf (.slice ad news.length cap)).run P w = .ok news.length w := by simp [Builtin.lenOf, Sem.run_pure]
  cases news with
  | nil =>
    refine ⟨#[], by simp, fun i e k c u hi => by simp at hi, by simp, hlenof, fun m hm => ?_⟩
    have : m = 0 := by simpa using hm
    subst this
    cases ad with
    | none => simp [Builtin.firstCells, Sem.run_pure]
    | some b => simp [Builtin.firstCells, loadCells, loadCellsFrom, Sem.run_pure]
  | cons e0 er =>
    obtain ⟨b, off, sz', cells, t, q, rfl, hb, hsz', hin, hone, hc⟩ := hne (by simp)
    have : sz' = sz := by rw [← hsz' e0 (by simp), hsz e0 (by simp)]
    subst this
    have hL0 : ∀ m, m ≤ (e0 :: er).length → m * sz' ≤ (e0 :: er).length * sz' := fun m hm => Nat.mul_le_mul_right _ hm
    generalize hL : (e0 :: er).length * sz' = L at hin hone hL0
    refine ⟨cells.extract off (off + L), by simp; omega, ?_, ?_, hlenof, fun m hm => ?_⟩
    ·intro i e k c u hi hk hu
     rw [Array.getElem?_extract] at hu
     split at hu
     ·exact hc i e k c u hi hk hu
     ·cases hu
    ·intro u hu
     obtain ⟨i, hi⟩ := List.mem_iff_getElem?.1 hu
     rw [Array.getElem?_toList, Array.getElem?_extract] at hi
     split at hi
     ·rename_i h'; exact hone i u (by omega) hi
     ·cases hi
    ·simp only [Builtin.firstCells]
     have hm' := hL0 m hm
     rw [run_load_row P hb off _ (by omega)]
     congr 1
     apply Array.ext_getElem?
     intro i
     by_cases h' : i < m * sz'
     ·rw [Array.getElem?_extract, Array.getElem?_extract]
      rw [if_pos (by omega), if_pos (by simp; omega), Nat.zero_add, Array.getElem?_extract, if_pos (by omega)]
     ·rw [Array.getElem?_eq_none (by simp; omega), Array.getElem?_eq_none (by simp; omega)]
theorem RowIs.splice {E : Env} {sz : Nat} {cells : Array Value} {o news : AObj} (h : RowIs E sz cells o) (hsz : ∀ e ∈ o, e.length = sz) (hsz' : ∀ e ∈ news, e.length = sz)
 {us : Array Value} (hu : RowIs E sz us news) (hus : us.size = news.length * sz) (k : Nat) (hk : k ≤ o.length) (hin : (k + news.length) * sz ≤ cells.size) :
 RowIs E sz (Abs.splice cells (k * sz) us.toList) (o.take k ++ news ++ o.drop (k + news.length)) := by
 rw [Nat.add_mul] at hin
 intro i e m c u hi hm hv
 rw [splice_get _ _ _ _ (by simp; omega)] at hv
 have hml : ∀ l : List (List AV), (∀ e ∈ l, e.length = sz) → e ∈ l → m < sz := by
  intro l hl he
  rcases Nat.lt_or_ge m e.length with h' | h'
  ·rw [hl e he] at h'; exact h'
  ·rw [List.getElem?_eq_none h'] at hm; cases hm
 rw [List.getElem?_append, List.getElem?_append] at hi
 have l1 : (o.take k).length = k := by simp; omega
 have l2 : (o.take k ++ news).length = k + news.length := by simp; omega
 rw [l1, l2] at hi
 by_cases c1 : i < k
 ·rw [if_pos (by omega), if_pos c1, List.getElem?_take_of_lt c1] at hi
  have := hml o hsz (List.mem_of_getElem? hi)
  have h4 := mul_le_of_lt (sz := sz) c1
  rw [if_neg (by simp; omega)] at hv
  exact h i e m c u hi hm hv
 ·by_cases c2 : i < k + news.length
  ·rw [if_pos c2, if_neg c1] at hi
   have := hml news hsz' (List.mem_of_getElem? hi)
   have h4 : (i - k) * sz + sz ≤ news.length * sz := mul_le_of_lt (by omega)
   have h5 : i * sz = (i - k) * sz + k * sz := by rw [← Nat.add_mul]; congr 1; omega
   rw [if_pos ⟨by omega, by simp; omega⟩] at hv
   refine hu (i - k) e m c u hi hm ?_
   rw [← hv, Array.getElem?_toList]; congr 1; omega
  ·rw [if_neg c2, List.getElem?_drop] at hi
   have h5 : (k + news.length) * sz ≤ i * sz := Nat.mul_le_mul_right _ (by omega)
   rw [Nat.add_mul] at h5
   rw [if_neg (by simp; omega)] at hv
   refine h i e m c u ?_ hm hv
   rw [← hi]; congr 1; omega
theorem splice_size_le {o news : AObj} (k : Nat) (h : k + news.length ≤ o.length) : (o.take k ++ news ++ o.drop (k + news.length)).length = o.length := by
 simp; omega
end Go.Proofs.YtemjlopoffjmpaaGreat.Abs
