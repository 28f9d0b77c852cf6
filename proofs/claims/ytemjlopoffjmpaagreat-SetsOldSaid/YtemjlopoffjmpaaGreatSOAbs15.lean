/-
  The abstract layer, part 15: the operations of part 12 do what is told (3).
-/
import Derived.Test.YtemjlopoffjmpaaGreatSOAbs14
set_option linter.unusedSimpArgs false
set_option linter.unusedVariables false
namespace Go.Proofs.YtemjlopoffjmpaaGreat.Abs
open Go
theorem all_len {news : List (List AV)} {sz : Nat} (h : news.all (fun e => decide (e.length = sz)) = true) : ∀ e ∈ news, e.length = sz := by
 intro e he
 have := List.all_eq_true.1 h e he
 simpa using this
theorem zeroCells_ones {E : Env} {zero : List AV} {z : Array Value} (h : RepL E zero z) (hall : zero.all cellA = true) (n : Nat) : ∀ (i : Nat) v, (Builtin.zeroCells z n)[i]? = some v → v.oneCell' = true := by
 intro i v hv
 unfold Builtin.zeroCells at hv
 have hi : i < n * z.size := by
  rcases Nat.lt_or_ge i (n * z.size) with h' | h'
  ·exact h'
  ·rw [Array.getElem?_eq_none (by simpa using h')] at hv; cases hv
 have hpos : 0 < z.size := by
  rcases Nat.eq_zero_or_pos z.size with h0 | h0
  ·rw [h0] at hi; simp at hi
  ·exact h0
 have hml : i % z.size < z.size := Nat.mod_lt i hpos
 rw [Array.getElem?_map, Array.getElem?_range, if_pos hi] at hv
 simp only [Option.map_some, Option.some.injEq] at hv
 rw [getElem!_pos z (i % z.size) hml] at hv
 exact ones h hall _ v (by rw [← hv]; exact Array.getElem?_eq_getElem hml)
theorem RowIs.append3 {E : Env} {sz : Nat} {a b c : Array Value} {o news : AObj} (ha : RowIs E sz a o) (hb : RowIs E sz b news) (hsa : a.size = o.length * sz) (hsb : b.size = news.length * sz)
 (h1 : ∀ e ∈ o, e.length = sz) (h2 : ∀ e ∈ news, e.length = sz) : RowIs E sz (a ++ b ++ c) (o ++ news) := by
 intro i e k v u hi hk hu
 rw [List.getElem?_append] at hi
 by_cases c1 : i < o.length
 ·rw [if_pos c1] at hi
  have hkl : k < sz := by
   rcases Nat.lt_or_ge k e.length with h' | h'
   ·rw [h1 e (List.mem_of_getElem? hi)] at h'; exact h'
   ·rw [List.getElem?_eq_none h'] at hk; cases hk
  have := mul_le_of_lt (sz := sz) c1
  rw [Array.getElem?_append_left (by simp; omega), Array.getElem?_append_left (by omega)] at hu
  exact ha i e k v u hi hk hu
 ·rw [if_neg c1] at hi
  have hil : i - o.length < news.length := by
   rcases Nat.lt_or_ge (i - o.length) news.length with h' | h'
   ·exact h'
   ·rw [List.getElem?_eq_none h'] at hi; cases hi
  have hkl : k < sz := by
   rcases Nat.lt_or_ge k e.length with h' | h'
   ·rw [h2 e (List.mem_of_getElem? hi)] at h'; exact h'
   ·rw [List.getElem?_eq_none h'] at hk; cases hk
  have := mul_le_of_lt (sz := sz) hil
  have h5 : i * sz = (i - o.length) * sz + o.length * sz := by rw [← Nat.add_mul]; congr 1; omega
  rw [Array.getElem?_append_left (by simp; omega), Array.getElem?_append_right (by omega)] at hu
  refine hb (i - o.length) e k v u hi hk ?_
  rw [← hu]; congr 1; omega
theorem ones_append {a b : Array Value} (ha : ∀ (i : Nat) v, a[i]? = some v → v.oneCell' = true) (hb : ∀ (i : Nat) v, b[i]? = some v → v.oneCell' = true) : ∀ (i : Nat) v, (a ++ b)[i]? = some v → v.oneCell' = true := by
 intro i v hv
 rw [Array.getElem?_append] at hv
 split at hv
 ·exact ha i v hv
 ·exact hb _ v hv
theorem mem_get {a : Array Value} (h : ∀ u ∈ a.toList, u.oneCell' = true) : ∀ (i : Nat) v, a[i]? = some v → v.oneCell' = true := by
 intro i v hv
 exact h v (List.mem_of_getElem? (by rw [Array.getElem?_toList]; exact hv))
theorem liveO_mono {H H' : AH} (h : ∀ r o, H.at r = some o → H'.at r = some o) {r tot : Nat} {o : AObj} (hl : liveO H r tot = some o) : liveO H' r tot = some o := by
 unfold liveO at hl ⊢
 cases ha : H.at r with
 | none => rw [ha] at hl; cases hl
 | some o' => rw [ha] at hl; rw [h r o' ha]; exact hl
theorem srcOf_mono {H H' : AH} (h : ∀ r o, H.at r = some o → H'.at r = some o) {y : AV} {news : List (List AV)} (hy : srcOf H y = some news) : srcOf H' y = some news := by
 cases y <;> first | exact hy | skip
 rename_i r sz off len tot
 simp only [srcOf, elemsOf] at hy ⊢
 cases hl : liveO H r tot with
 | none => rw [hl] at hy; cases hy
 | some o => rw [hl] at hy; rw [liveO_mono h hl]; exact hy
theorem at_reserve {H : AH} : ∀ r o, H.at r = some o → AH.at (H ++ [none]) r = some o := by
 intro r o h
 rw [at_append_lt _ (at_lt h)]; exact h
theorem append_fresh {P : Program} {E : Env} {w : World} {H : AH} (hs : Sim E w H) {t u e : TypeId} {sz bytes : Nat} {zero : List AV} (ty : TypeId) (ht : P.underlying t = some (.slice e)) (hel : El P e sz bytes zero)
 (hu : ∃ d, P.underlying u = some d ∧ ∀ k, d ≠ .int k) {y : AV} {vy : Value} (hy : Rep E y vy) {news : List (List AV)} (hsrc : srcOf H y = some news) (hsz : ∀ e ∈ news, e.length = sz) (hne : 0 < news.length)
 (hb : news.length * bytes ≤ 1000000000000) (hl : news.length ≤ 1000000000) (ad : Option Addr) (r : Nat) (hr : r < H.length) (hg : ∀ x, E.ρ r = some x → x.t = 0) :
 ∃ u' w' E', (Builtin.append_ #[t, u] ty #[.slice ad 0 0, vy]).run P w = .ok u' w' ∧ Le E E' ∧ Sim E' w' (H.set r (some news)) ∧ Rep E' (.own r sz 0 news.length news.length) u' := by
 obtain ⟨_, _, _, _, hlen, _⟩ := src_ok (P := P) hs hy hsrc sz hsz
 have hsd : Sim E w.drew H := hs.drawn (w.drawn + 1)
 obtain ⟨us, hus, hrow, hone, _, hfc⟩ := src_ok (P := P) hsd hy hsrc sz hsz
 have hfc' := hfc news.length (Nat.le_refl _)
 have hfull : us.extract 0 (news.length * sz) = us := by rw [← hus]; simp
 rw [hfull] at hfc'
 have hold : (Builtin.firstCells sz 0 (.slice ad 0 0)).run P w.drew = .ok #[] w.drew := by
  cases ad <;> simp [Builtin.firstCells, Sem.run_pure, loadCells, loadCellsFrom]
 obtain ⟨nc, k, z, hnc, hz, hrun⟩ := run_append_out (P := P) (w := w) ty ht hel hu hlen hfc' hold (base := ad) (len := 0) (cap := 0) (by omega) (by omega) (by simpa using hb)
 have hrow2 : RowIs E sz (#[] ++ us ++ Builtin.zeroCells z.cells (nc - (0 + news.length))) ([] ++ news) := RowIs.append3 (fun i e k v u hi => by simp at hi) hrow (by simp) hus (by simp) hsz
 rw [List.nil_append] at hrow2
 have hsk : Sim E { w with drawn := k } H := hs.drawn k
 obtain ⟨hle, hsim⟩ := hsk.renew hr news sz (#[] ++ us ++ Builtin.zeroCells z.cells (nc - (0 + news.length))) e (0, 0) (fun y hy => by rw [hg y hy]; exact hne) hel.pos (.inl rfl) hsz (by simp; omega)
  (ones_append (ones_append (fun i v hv => by simp at hv) (mem_get hone)) (zeroCells_ones hz hel.all _)) hrow2
 refine ⟨_, _, _, hrun, hle, hsim, ?_⟩
 have hzs : z.cells.size = sz := by rw [← hz.1, hel.len]
 have := Rep.own (E := E.with r ⟨w.heap.size, sz, (#[] ++ us ++ Builtin.zeroCells z.cells (nc - (0 + news.length))).size, news.length⟩) r sz 0 news.length news.length nc _ (Env.with_same _ _ _) rfl rfl (by omega) (by omega) (by omega)
  (by
   simp only [Array.size_append, size_zeroCells, hzs, hus]
   have : (0 + nc) * sz = news.length * sz + (nc - (0 + news.length)) * sz := by rw [← Nat.add_mul]; congr 1; omega
   simp only [this]
   exact Nat.le_of_eq (by simp))
 simpa using this
theorem ok_append {P : Program} {sz bytes : Nat} {zero : List AV} {x y : Opd} {o : Op} (hf : fit1 P (.append sz bytes zero x y) o = true) : Sound1 P o (.append sz bytes zero x y) := by
 intro E w H fr a v H' oper ho hs hr hv
 cases o <;> simp only [fit1, Bool.false_eq_true] at hf
 rename_i c
 obtain ⟨callee, args, ts⟩ := c
 cases callee <;> try (simp only [fit1, Bool.false_eq_true] at hf; done)
 rename_i b
 cases b <;> simp only [fit1, Bool.false_eq_true] at hf
 split at hf
 ·rename_i x' y' t u hargs hts
  simp only [Bool.and_eq_true] at hf
  obtain ⟨⟨⟨ht, hu⟩, h1⟩, h2⟩ := hf
  have hx := fitO_ok hr h1
  have hy := fitO_ok hr h2
  have hargs : args = #[x', y'] := by apply Array.ext'; simpa using hargs
  have hts : ts = #[t, u] := by apply Array.ext'; simpa using hts
  subst hargs; subst hts
  obtain ⟨e, hte, hel⟩ : ∃ e, P.underlying t = some (.slice e) ∧ El P e sz bytes zero := by
   split at ht
   ·exact ⟨_, by assumption, elB_ok ht⟩
   ·cases ht
  have hu := fit_ty hu
  have fin : ∀ {s : Value} {u' : Value} {w' : World}, a.eval x' = s → (Builtin.append_ #[t, u] oper.type #[s, a.eval y']).run P w = .ok u' w' → (execOp a.eval oper).run P w = .ok (.value u') w' := by
   intro s u' w' hse hrun
   subst hse
   simp only [execOp, ho, resolve, Sem.run_bind, Sem.run_pure, Result.andThen, invoke, builtin, List.map_toArray, List.map_cons, List.map_nil, hrun]
  simp only [aop1] at hv
  split at hv
  ·rename_i news e1 hsrc
   rw [e1] at hx
   obtain ⟨ad, hxv⟩ := rep_emp hx
   split at hv
   ·rename_i hok
    obtain ⟨hb, hl, hall⟩ := hok
    cases hv
    have hsz := all_len hall
    rcases Nat.eq_zero_or_pos news.length with h0 | hpos
    ·have hnil : news = [] := List.length_eq_zero_iff.1 h0
     subst hnil
     obtain ⟨us, hus, hrow, hone, hlen, hfc⟩ := src_ok (P := P) hs hy hsrc sz hsz
     have hfc0 := hfc 0 (Nat.le_refl _)
     have hrun : (Builtin.append_ #[t, u] oper.type #[.slice ad 0 0, a.eval y']).run P w = .ok (.slice ad 0 0) w := by
      obtain ⟨i, z, hi, hsi, _⟩ := hel.ex
      obtain ⟨d, hd, hdk⟩ := hu
      have hm : (match d with | .int _ => true | _ => false) = false := by
       cases d <;> first | rfl | exact absurd rfl (hdk _)
      unfold Builtin.append_
      simp only [List.getElem?_toArray, List.getElem?_cons_zero, List.getElem?_cons_succ, Sem.run_bind, run_underlying hte, Result.andThen, run_sizeOf' hi, hsi, run_underlying hd, Sem.run_pure, hm,
       Bool.false_eq_true, if_false, hlen, List.length_nil, Nat.add_zero, Nat.le_refl, if_true, Bool.not_false, hfc0]
      have hus0 : (us.extract 0 (0 * sz)).toList = [] := by simp
      cases ad with
      | none => simp [Sem.run_pure, Sem.run]
      | some ad => simp only [hus0, storeCells, Sem.run_bind, Sem.run_pure, Result.andThen]
     exact ⟨_, w, E, .inl (fin hxv hrun), Le.refl E, hs.newEmpty, .own0 _ _ _⟩
    ·obtain ⟨u', w', E', h1, h2, h3, h4⟩ := append_fresh (P := P) hs.reserve oper.type hte hel hu hy (srcOf_mono at_reserve hsrc) hsz hpos hb hl ad H.length (by simp) (fun x hx' => by
      have := hs.dom _ _ hx'; omega)
     have e2 : (H ++ [none]).set H.length (some news) = H ++ [some news] := by simp
     rw [e2] at h3
     exact ⟨u', w', E', .inl (fin hxv h1), h2, h3, h4⟩
   ·cases hv
  ·rename_i r sz' off len tot news e1 hsrc
   rw [e1] at hx
   split at hv
   ·rename_i o hl
    obtain ⟨hat, hlen, htt⟩ := live_of hs hl
    split at hv
    ·cases hv
    ·rename_i hall
     have hall1 : news.all (fun e => decide (e.length = sz)) = true := by
      cases h : news.all (fun e => decide (e.length = sz)) with
      | true => rfl
      | false => exact absurd (.inl h) hall
     have hss : sz' = sz := by
      rcases Nat.decEq sz' sz with h | h
      ·exact absurd (.inr h) hall
      ·exact h
     subst hss
     have hsz := all_len hall1
     obtain ⟨us, hus, hrow, hone, hlenof, hfc⟩ := src_ok (P := P) hs hy hsrc sz' hsz
     have hfc1 := hfc news.length (Nat.le_refl _)
     have hfull : us.extract 0 (news.length * sz') = us := by rw [← hus]; simp
     rw [hfull] at hfc1
     split at hv
     ·rename_i hfront
      obtain ⟨rfl, rfl⟩ := hfront
      split at hv
      ·rename_i hb
       obtain ⟨hb, hsmall⟩ := hb
       cases hv
       rcases Nat.eq_zero_or_pos news.length with h0 | hpos
       ·have hnil : news = [] := List.length_eq_zero_iff.1 h0
        subst hnil
        obtain ⟨ad, cap, hxv, hll⟩ : ∃ ad cap, a.eval x' = .slice ad len cap ∧ len ≤ cap := by
         rcases rep_own hx htt with ⟨ad, _, rfl, _, he⟩ | ⟨x2, cap, _, _, _, g, _, _, he⟩
         ·exact ⟨ad, 0, he, Nat.le_refl _⟩
         ·exact ⟨_, cap, he, g⟩
        have hrun : (Builtin.append_ #[t, u] oper.type #[.slice ad len cap, a.eval y']).run P w = .ok (.slice ad len cap) w := by
         obtain ⟨i, z, hi, hsi, _⟩ := hel.ex
         obtain ⟨d, hd, hdk⟩ := hu
         have hm : (match d with | .int _ => true | _ => false) = false := by
          cases d <;> first | rfl | exact absurd rfl (hdk _)
         have hus0 : us.toList = [] := by
          have : us.size = 0 := by simpa using hus
          simpa using this
         rw [List.length_nil] at hfc1 hlenof
         unfold Builtin.append_
         simp only [List.getElem?_toArray, List.getElem?_cons_zero, List.getElem?_cons_succ, Sem.run_bind, run_underlying hte, Result.andThen, run_sizeOf' hi, hsi, run_underlying hd, Sem.run_pure, hm,
          Bool.false_eq_true, if_false, hlenof, Nat.add_zero, hll, if_true, Bool.not_false, hfc1]
         cases ad with
         | none => simp [Sem.run_pure, Sem.run]
         | some ad => simp only [hus0, storeCells, Sem.run_bind, Sem.run_pure, Result.andThen]
        refine ⟨_, w, E, .inl (fin hxv hrun), Le.refl E, ?_, ?_⟩
        ·rw [List.append_nil, set_same hat]; exact hs
        ·rw [← hxv]; simpa using hx
       ·rcases rep_own hx htt with ⟨ad, _, rfl, _, hxv⟩ | ⟨x2, cap, hx2, hsx, g1, g2, g3, g4, hxv⟩
        ·have ho : o = [] := List.length_eq_zero_iff.1 hlen
         subst ho
         obtain ⟨u', w', E', h1, h2, h3, h4⟩ := append_fresh (P := P) hs oper.type hte hel hu hy hsrc hsz hpos (by simpa using hb) (by omega) ad r (at_lt hat) (fun x hx' => htt x hx')
         exact ⟨u', w', E', .inl (fin hxv h1), h2, by simpa using h3, by simpa using h4⟩
        ·have hlies := lies_of hs hat hx2
         obtain ⟨cells, te, q, hblk, hcn, hq, hcone, hcrow⟩ := hlies.blk
         have hszo : ∀ e ∈ o, e.length = sz' := by rw [← hsx]; exact hlies.sz
         rw [Nat.zero_mul] at hxv
         rw [Nat.zero_add, hsx] at g4
         have hlc : len * sz' ≤ cap * sz' := Nat.mul_le_mul_right _ g2
         by_cases hroom : len + news.length ≤ cap
         ·have hmul : (len + news.length) * sz' ≤ cap * sz' := Nat.mul_le_mul_right _ hroom
          rw [Nat.add_mul] at hmul
          have hrun := run_append_in (P := P) oper.type hte hel hu hlenof hfc1 hone (off := 0) hblk (by rw [hcn]; exact hq) hroom (by omega)
          rw [Nat.zero_add] at hrun
          have hrs := RowIs.splice (E := E) (sz := sz') (cells := cells) (o := o) (news := news) (by rw [← hsx]; exact hcrow) hszo hsz hrow hus o.length (Nat.le_refl _) (by rw [hlen, Nat.add_mul]; omega)
          have e4 : o.take o.length ++ news ++ o.drop (o.length + news.length) = o ++ news := by simp
          rw [e4, hlen] at hrs
          obtain ⟨hle, hsim⟩ := hs.write hat hx2 (o' := o ++ news) (splice cells (len * sz') us.toList) te q (by rw [splice_size]; exact hcn) hq (by simp)
           (by
            intro e' he'
            rcases List.mem_append.1 he' with h' | h'
            ·exact hlies.sz e' h'
            ·rw [hsx]; exact hsz e' h')
           (by rw [List.length_append, hlen, hsx, Nat.add_mul]; omega) (splice_one hcone _ _ hone (by simp; omega)) (by rw [hsx]; exact hrs)
          refine ⟨_, _, _, .inl (fin hxv hrun), hle, hsim, ?_⟩
          have := Rep.own (E := E.with r { x2 with t := (o ++ news).length }) r sz' 0 (len + news.length) (len + news.length) cap _ (Env.with_same _ _ _) (by simp; omega) hsx (by omega) hroom (by omega) (by rw [Nat.zero_add]; simp only [hsx]; omega)
          simpa using this
         ·have hsd : Sim E w.drew H := hs.drawn (w.drawn + 1)
          obtain ⟨us', hus', hrow', hone', _, hfc'⟩ := src_ok (P := P) hsd hy hsrc sz' hsz
          have hfc2 := hfc' news.length (Nat.le_refl _)
          have hfull' : us'.extract 0 (news.length * sz') = us' := by rw [← hus']; simp
          rw [hfull'] at hfc2
          have hold : (Builtin.firstCells sz' len (.slice (some ⟨x2.b, 0, none⟩) len cap)).run P w.drew = .ok (cells.extract 0 (0 + len * sz')) w.drew := by
           simp only [Builtin.firstCells]
           exact run_load_row P (w := w.drew) hblk 0 _ (by omega)
          obtain ⟨nc, k, z, hnc, hz, hrun⟩ := run_append_out (P := P) (w := w) oper.type hte hel hu hlenof hfc2 hold (base := some ⟨x2.b, 0, none⟩) (len := len) (cap := cap) (by omega) (by omega) hb
          have hro : RowIs E sz' (cells.extract 0 (0 + len * sz')) o := by
           intro i e' k' c u' hi hk hu'
           rw [Array.getElem?_extract] at hu'
           split at hu'
           ·rw [Nat.zero_add] at hu'
            rw [← hsx] at hu'
            exact hcrow i e' k' c u' hi hk hu'
           ·cases hu'
          have hrow2 := RowIs.append3 (c := Builtin.zeroCells z.cells (nc - (len + news.length))) hro hrow' (by simp; rw [hlen]; omega) hus' hszo hsz
          have hsk : Sim E { w with drawn := k } H := hs.drawn k
          obtain ⟨hle, hsim⟩ := hsk.renew (at_lt hat) (o ++ news) sz' (cells.extract 0 (0 + len * sz') ++ us' ++ Builtin.zeroCells z.cells (nc - (len + news.length))) e (0, 0)
           (fun y hy => by rw [htt y hy]; simp; omega) hel.pos (.inl rfl)
           (by
            intro e' he'
            rcases List.mem_append.1 he' with h' | h'
            ·exact hszo e' h'
            ·exact hsz e' h')
           (by rw [List.length_append, Nat.add_mul, hlen]; simp; omega)
           (ones_append (ones_append (fun i v hv => by
            rw [Array.getElem?_extract] at hv
            split at hv
            ·exact hcone _ v hv
            ·cases hv) (mem_get hone')) (zeroCells_ones hz hel.all _)) hrow2
          refine ⟨_, _, _, .inl (fin hxv hrun), hle, hsim, ?_⟩
          have hzs : z.cells.size = sz' := by rw [← hz.1, hel.len]
          have := Rep.own (E := E.with r ⟨w.heap.size, sz', (cells.extract 0 (0 + len * sz') ++ us' ++ Builtin.zeroCells z.cells (nc - (len + news.length))).size, (o ++ news).length⟩) r sz' 0 (len + news.length) (len + news.length) nc _ (Env.with_same _ _ _)
           (by simp; omega) rfl (by omega) hnc (by omega)
           (by
            simp only [Array.size_append, size_zeroCells, hzs, hus']
            have e6 : (0 + nc) * sz' = len * sz' + news.length * sz' + (nc - (len + news.length)) * sz' := by rw [← Nat.add_mul, ← Nat.add_mul]; congr 1; omega
            rw [e6]
            have : (cells.extract 0 (0 + len * sz')).size = len * sz' := by simp; omega
            rw [this]
            exact Nat.le_refl _)
          simpa using this
      ·cases hv
     ·rename_i hfront
      split at hv
      ·rename_i hle
       cases hv
       rcases rep_own hx htt with ⟨ad, rfl, rfl, rfl, hxv⟩ | ⟨x2, cap, hx2, hsx, g1, g2, g3, g4, hxv⟩
       ·exact absurd ⟨rfl, rfl⟩ hfront
       ·have hlies := lies_of hs hat hx2
        obtain ⟨cells, te, q, hblk, hcn, hq, hcone, hcrow⟩ := hlies.blk
        have hszo : ∀ e ∈ o, e.length = sz' := by rw [← hsx]; exact hlies.sz
        have hfit := hlies.fits
        rw [hsx] at g4 hfit hxv
        have hmul : (off + len + news.length) * sz' ≤ o.length * sz' := Nat.mul_le_mul_right _ (by omega)
        have hmul' := hmul
        rw [Nat.add_mul] at hmul
        rw [Nat.add_mul] at hmul
        have hrun := run_append_in (P := P) oper.type hte hel hu hlenof hfc1 hone (off := off * sz') hblk (by rw [hcn]; exact hq) (show len + news.length ≤ cap by omega) (by omega)
        have hrs := RowIs.splice (E := E) (sz := sz') (cells := cells) (o := o) (news := news) (by rw [← hsx]; exact hcrow) hszo hsz hrow hus (off + len) (by omega) (by omega)
        rw [← Nat.add_mul] at hrun
        have hll : (o.take (off + len) ++ news ++ o.drop (off + len + news.length)).length = o.length := splice_size_le _ (by omega)
        obtain ⟨hle', hsim⟩ := hs.write hat hx2 (o' := o.take (off + len) ++ news ++ o.drop (off + len + news.length)) (splice cells ((off + len) * sz') us.toList) te q (by rw [splice_size]; exact hcn) hq (by rw [hll]; exact Nat.le_refl _)
         (by
          intro e' he'
          rcases List.mem_append.1 he' with h' | h'
          ·rcases List.mem_append.1 h' with h' | h'
           ·exact hlies.sz e' (List.mem_of_mem_take h')
           ·rw [hsx]; exact hsz e' h'
          ·exact hlies.sz e' (List.mem_of_mem_drop h'))
         (by rw [hll]; exact hlies.fits) (splice_one hcone _ _ hone (by rw [Nat.add_mul]; simp; omega)) (by rw [hsx]; exact hrs)
        refine ⟨_, _, _, .inl (fin hxv hrun), hle', hsim, ?_⟩
        have := Rep.own (E := E.with r { x2 with t := (o.take (off + len) ++ news ++ o.drop (off + len + news.length)).length }) r sz' off (len + news.length) tot cap _ (Env.with_same _ _ _) (by rw [hll]; exact hlen) hsx (by omega) (by omega) g3 (by simp only [hsx]; exact g4)
        rw [← hsx]
        rw [← hsx] at this
        exact this
      ·cases hv
   ·cases hv
  ·cases hv
 ·cases hf
end Go.Proofs.YtemjlopoffjmpaaGreat.Abs
