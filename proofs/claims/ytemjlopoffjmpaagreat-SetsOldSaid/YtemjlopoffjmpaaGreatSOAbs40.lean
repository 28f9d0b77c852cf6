/-
  The abstract layer, part 40: append within a region that draws its order.
-/
import Derived.Test.YtemjlopoffjmpaaGreatSOAbs32
set_option linter.unusedSimpArgs false
set_option linter.unusedVariables false
namespace Go.Proofs.YtemjlopoffjmpaaGreat.Abs
open Go
theorem append_freshE {P : Program} {E : Env} {w : World} {H : AH} (hs : Sim E w H) {t u e : TypeId} {sz bytes : Nat} {zero : List AV} (ty : TypeId) (ht : P.underlying t = some (.slice e)) (hel : El P e sz bytes zero)
 (hu : ∃ d, P.underlying u = some d ∧ ∀ k, d ≠ .int k) {y : AV} {vy : Value} (hy : Rep E y vy) {news : List (List AV)} (hsrc : srcOf H y = some news) (hsz : ∀ e ∈ news, e.length = sz) (hne : 0 < news.length)
 (hb : news.length * bytes ≤ 1000000000000) (hl : news.length ≤ 1000000000) (ad : Option Addr) (r : Nat) (hr : r < H.length) (hg : ∀ x, E.ρ r = some x → x.t = 0) :
 ∃ u' w' E', (Builtin.append_ #[t, u] ty #[.slice ad 0 0, vy]).run P w = .ok u' w' ∧ Le E E' ∧ Sim E' w' (H.set r (some news)) ∧ Rep E' (.own r sz 0 news.length news.length) u' ∧ ∀ s, s ≠ r → E.ρ s = none → E'.ρ s = none := by
 obtain ⟨_, _, _, _, hlen, _⟩ := src_ok (P := P) hs hy hsrc sz hsz
 have hsd : Sim E w.drew H := hs.drawn (w.drawn + 1)
 obtain ⟨us, hus, hrow, hone, _, hfc⟩ := src_ok (P := P) hsd hy hsrc sz hsz
 have hfc' := hfc news.length (Nat.le_refl _)
 have hfull : us.extract 0 (news.length * sz) = us := by rw [← hus]; simp
 rw [hfull] at hfc'
 have hold : (Builtin.firstCells sz 0 (.slice ad 0 0)).run P w.drew = .ok #[] w.drew := by
  cases ad <;> simp [Builtin.firstCells, Sem.run_pure, loadCells, loadCellsFrom]
 obtain ⟨nc, k, z, hnc, hz, hrun⟩ := run_append_out (P := P) (w := w) ty ht hel hu hlen hfc' hold (base := ad) (len := 0) (cap := 0) (by omega) (by omega) (by simpa using hb)
 have hrow2 : RowIs E sz (#[] ++ us ++ Builtin.zeroCells z.cells (nc - (0 + news.length))) ([] ++ news) := RowIs.append3 (fun i e k v u hi => by simp at hi) hrow (by simp) hus (by simp) hsz
 rw [List.nil_append] at hrow2
 have hsk : Sim E { w with drawn := k } H := hs.drawn k
 obtain ⟨hle, hsim⟩ := hsk.renew hr news sz (#[] ++ us ++ Builtin.zeroCells z.cells (nc - (0 + news.length))) e (0, 0) (fun y hy => by rw [hg y hy]; exact hne) hel.pos (.inl rfl) hsz (by simp; omega)
  (ones_append (ones_append (fun i v hv => by simp at hv) (mem_get hone)) (zeroCells_ones hz hel.all _)) hrow2
 refine ⟨_, _, _, hrun, hle, hsim, ?_, fun s hs hn => (Env.with_ne _ _ hs).trans hn⟩
 have hzs : z.cells.size = sz := by rw [← hz.1, hel.len]
 have := Rep.own (E := E.with r ⟨w.heap.size, sz, (#[] ++ us ++ Builtin.zeroCells z.cells (nc - (0 + news.length))).size, news.length⟩) r sz 0 news.length news.length nc _ (Env.with_same _ _ _) rfl rfl (by omega) (by omega) (by omega)
  (by
   simp only [Array.size_append, size_zeroCells, hzs, hus]
   have : (0 + nc) * sz = news.length * sz + (nc - (0 + news.length)) * sz := by rw [← Nat.add_mul]; congr 1; omega
   simp only [this]
   exact Nat.le_of_eq (by simp))
 simpa using this
theorem ok_appendE {P : Program} {sz bytes : Nat} {zero : List AV} {x y : Opd} {o : Op} (hf : fit1 P (.append sz bytes zero x y) o = true) {E : Env} {w : World} {H : AH} {fr : List AV} {a : Act} {oper : Oper} (ho : oper.op = o) (hs : Sim E w H) (hr : RepL E fr a.tmps)
 {r len : Nat} {news : List (List AV)} {ob : AObj} (e1 : evalA fr x = .own r sz 0 len len) (hsrc : srcOf H (evalA fr y) = some news) (hl : liveO H r len = some ob) (hok : news.all (fun e => decide (e.length = sz)) = true ∧ (len + news.length) * bytes ≤ 1000000000000 ∧ len + news.length ≤ 1000000000) :
 ∃ u w' E', (execOp a.eval oper).run P w = .ok (.value u) w' ∧ Le E E' ∧ Sim E' w' (H.set r (some (ob ++ news))) ∧ Rep E' (.own r sz 0 (len + news.length) (len + news.length)) u ∧ ∀ s, s ≠ r → E.ρ s = none → E'.ρ s = none := by
 obtain ⟨hall1, hb, hsmall⟩ := hok
 cases o <;> simp only [fit1, Bool.false_eq_true] at hf
 rename_i c
 obtain ⟨callee, args, ts⟩ := c
 cases callee <;> try (simp only [fit1, Bool.false_eq_true] at hf; done)
 rename_i b
 cases b <;> simp only [fit1, Bool.false_eq_true] at hf
 split at hf
 ·rename_i x' y' t u hargs hts
  simp only [Bool.and_eq_true] at hf
  obtain ⟨⟨⟨ht, hu⟩, h1⟩, h2⟩ := hf
  have hx := fitO_ok hr h1
  have hy := fitO_ok hr h2
  have hargs : args = #[x', y'] := by apply Array.ext'; simpa using hargs
  have hts : ts = #[t, u] := by apply Array.ext'; simpa using hts
  subst hargs; subst hts
  obtain ⟨e, hte, hel⟩ : ∃ e, P.underlying t = some (.slice e) ∧ El P e sz bytes zero := by
   split at ht
   ·exact ⟨_, by assumption, elB_ok ht⟩
   ·cases ht
  have hu := fit_ty hu
  have fin : ∀ {s : Value} {u' : Value} {w' : World}, a.eval x' = s → (Builtin.append_ #[t, u] oper.type #[s, a.eval y']).run P w = .ok u' w' → (execOp a.eval oper).run P w = .ok (.value u') w' := by
   intro s u' w' hse hrun
   subst hse
   simp only [execOp, ho, resolve, Sem.run_bind, Sem.run_pure, Result.andThen, invoke, builtin, List.map_toArray, List.map_cons, List.map_nil, hrun]
  rw [e1] at hx
  obtain ⟨hat, hlen, htt⟩ := live_of hs hl
  have hsz := all_len hall1
  obtain ⟨us, hus, hrow, hone, hlenof, hfc⟩ := src_ok (P := P) hs hy hsrc sz hsz
  have hfc1 := hfc news.length (Nat.le_refl _)
  have hfull : us.extract 0 (news.length * sz) = us := by rw [← hus]; simp
  rw [hfull] at hfc1
  rcases Nat.eq_zero_or_pos news.length with h0 | hpos
  ·have hnil : news = [] := List.length_eq_zero_iff.1 h0
   subst hnil
   obtain ⟨ad, cap, hxv, hll⟩ : ∃ ad cap, a.eval x' = .slice ad len cap ∧ len ≤ cap := by
    rcases rep_own hx htt with ⟨ad, _, rfl, _, he⟩ | ⟨x2, cap, _, _, _, g, _, _, he⟩
    ·exact ⟨ad, 0, he, Nat.le_refl _⟩
    ·exact ⟨_, cap, he, g⟩
   have hrun : (Builtin.append_ #[t, u] oper.type #[.slice ad len cap, a.eval y']).run P w = .ok (.slice ad len cap) w := by
    obtain ⟨i, z, hi, hsi, _⟩ := hel.ex
    obtain ⟨d, hd, hdk⟩ := hu
    have hm : (match d with | .int _ => true | _ => false) = false := by
     cases d <;> first | rfl | exact absurd rfl (hdk _)
    have hus0 : us.toList = [] := by
     have : us.size = 0 := by simpa using hus
     simpa using this
    rw [List.length_nil] at hfc1 hlenof
    unfold Builtin.append_
    simp only [List.getElem?_toArray, List.getElem?_cons_zero, List.getElem?_cons_succ, Sem.run_bind, run_underlying hte, Result.andThen, run_sizeOf' hi, hsi, run_underlying hd, Sem.run_pure, hm,
     Bool.false_eq_true, if_false, hlenof, Nat.add_zero, hll, if_true, Bool.not_false, hfc1]
    cases ad with
    | none => simp [Sem.run_pure, Sem.run]
    | some ad => simp only [hus0, storeCells, Sem.run_bind, Sem.run_pure, Result.andThen]
   refine ⟨_, w, E, fin hxv hrun, Le.refl E, ?_, ?_, fun s _ h => h⟩
   ·rw [List.append_nil, set_same hat]; exact hs
   ·rw [← hxv]; simpa using hx
  ·rcases rep_own hx htt with ⟨ad, _, rfl, _, hxv⟩ | ⟨x2, cap, hx2, hsx, g1, g2, g3, g4, hxv⟩
   ·have ho : ob = [] := List.length_eq_zero_iff.1 hlen
    subst ho
    obtain ⟨u', w', E', h1, h2, h3, h4, h5⟩ := append_freshE (P := P) hs oper.type hte hel hu hy hsrc hsz hpos (by simpa using hb) (by omega) ad r (at_lt hat) (fun x hx' => htt x hx')
    exact ⟨u', w', E', fin hxv h1, h2, by simpa using h3, by simpa using h4, h5⟩
   ·have hlies := lies_of hs hat hx2
    obtain ⟨cells, te, q, hblk, hcn, hq, hcone, hcrow⟩ := hlies.blk
    have hszo : ∀ e ∈ ob, e.length = sz := by rw [← hsx]; exact hlies.sz
    rw [Nat.zero_mul] at hxv
    rw [Nat.zero_add, hsx] at g4
    have hlc : len * sz ≤ cap * sz := Nat.mul_le_mul_right _ g2
    by_cases hroom : len + news.length ≤ cap
    ·have hmul : (len + news.length) * sz ≤ cap * sz := Nat.mul_le_mul_right _ hroom
     rw [Nat.add_mul] at hmul
     have hrun := run_append_in (P := P) oper.type hte hel hu hlenof hfc1 hone (off := 0) hblk (by rw [hcn]; exact hq) hroom (by omega)
     rw [Nat.zero_add] at hrun
     have hrs := RowIs.splice (E := E) (sz := sz) (cells := cells) (o := ob) (news := news) (by rw [← hsx]; exact hcrow) hszo hsz hrow hus ob.length (Nat.le_refl _) (by rw [hlen, Nat.add_mul]; omega)
     have e4 : ob.take ob.length ++ news ++ ob.drop (ob.length + news.length) = ob ++ news := by simp
     rw [e4, hlen] at hrs
     obtain ⟨hle, hsim⟩ := hs.write hat hx2 (o' := ob ++ news) (splice cells (len * sz) us.toList) te q (by rw [splice_size]; exact hcn) hq (by simp)
      (by
       intro e' he'
       rcases List.mem_append.1 he' with h' | h'
       ·exact hlies.sz e' h'
       ·rw [hsx]; exact hsz e' h')
      (by rw [List.length_append, hlen, hsx, Nat.add_mul]; omega) (splice_one hcone _ _ hone (by simp; omega)) (by rw [hsx]; exact hrs)
     refine ⟨_, _, _, fin hxv hrun, hle, hsim, ?_, fun s hs hn => (Env.with_ne _ _ hs).trans hn⟩
     have := Rep.own (E := E.with r { x2 with t := (ob ++ news).length }) r sz 0 (len + news.length) (len + news.length) cap _ (Env.with_same _ _ _) (by simp; omega) hsx (by omega) hroom (by omega) (by rw [Nat.zero_add]; simp only [hsx]; omega)
     simpa using this
    ·have hsd : Sim E w.drew H := hs.drawn (w.drawn + 1)
     obtain ⟨us', hus', hrow', hone', _, hfc'⟩ := src_ok (P := P) hsd hy hsrc sz hsz
     have hfc2 := hfc' news.length (Nat.le_refl _)
     have hfull' : us'.extract 0 (news.length * sz) = us' := by rw [← hus']; simp
     rw [hfull'] at hfc2
     have hold : (Builtin.firstCells sz len (.slice (some ⟨x2.b, 0, none⟩) len cap)).run P w.drew = .ok (cells.extract 0 (0 + len * sz)) w.drew := by
      simp only [Builtin.firstCells]
      exact run_load_row P (w := w.drew) hblk 0 _ (by omega)
     obtain ⟨nc, k, z, hnc, hz, hrun⟩ := run_append_out (P := P) (w := w) oper.type hte hel hu hlenof hfc2 hold (base := some ⟨x2.b, 0, none⟩) (len := len) (cap := cap) (by omega) (by omega) hb
     have hro : RowIs E sz (cells.extract 0 (0 + len * sz)) ob := by
      intro i e' k' c u' hi hk hu'
      rw [Array.getElem?_extract] at hu'
      split at hu'
      ·rw [Nat.zero_add] at hu'
       rw [← hsx] at hu'
       exact hcrow i e' k' c u' hi hk hu'
      ·cases hu'
     have hrow2 := RowIs.append3 (c := Builtin.zeroCells z.cells (nc - (len + news.length))) hro hrow' (by simp; rw [hlen]; omega) hus' hszo hsz
     have hsk : Sim E { w with drawn := k } H := hs.drawn k
     obtain ⟨hle, hsim⟩ := hsk.renew (at_lt hat) (ob ++ news) sz (cells.extract 0 (0 + len * sz) ++ us' ++ Builtin.zeroCells z.cells (nc - (len + news.length))) e (0, 0)
      (fun y hy => by rw [htt y hy]; simp; omega) hel.pos (.inl rfl)
      (by
       intro e' he'
       rcases List.mem_append.1 he' with h' | h'
       ·exact hszo e' h'
       ·exact hsz e' h')
      (by rw [List.length_append, Nat.add_mul, hlen]; simp; omega)
      (ones_append (ones_append (fun i v hv => by
       rw [Array.getElem?_extract] at hv
       split at hv
       ·exact hcone _ v hv
       ·cases hv) (mem_get hone')) (zeroCells_ones hz hel.all _)) hrow2
     refine ⟨_, _, _, fin hxv hrun, hle, hsim, ?_, fun s hs hn => (Env.with_ne _ _ hs).trans hn⟩
     have hzs : z.cells.size = sz := by rw [← hz.1, hel.len]
     have := Rep.own (E := E.with r ⟨w.heap.size, sz, (cells.extract 0 (0 + len * sz) ++ us' ++ Builtin.zeroCells z.cells (nc - (len + news.length))).size, (ob ++ news).length⟩) r sz 0 (len + news.length) (len + news.length) nc _ (Env.with_same _ _ _)
      (by simp; omega) rfl (by omega) hnc (by omega)
      (by
       simp only [Array.size_append, size_zeroCells, hzs, hus']
       have e6 : (0 + nc) * sz = len * sz + news.length * sz + (nc - (len + news.length)) * sz := by rw [← Nat.add_mul, ← Nat.add_mul]; congr 1; omega
       rw [e6]
       have : (cells.extract 0 (0 + len * sz)).size = len * sz := by simp; omega
       rw [this]
       exact Nat.le_refl _)
     simpa using this
 ·cases hf
theorem srcOf_local {H H2 : AH} {y : AV} (h : ∀ r, .con r ∈ refC y → H.at r = H2.at r) : srcOf H y = srcOf H2 y := by
 cases y <;> first | rfl | skip
 rename_i r sz off len tot
 simp only [srcOf, elemsOf]
 rw [live_con (h r (by simp [refC]))]
section
variable {P : Program} {n0 : Nat}
theorem Does.append {E0 : Env} {ops : Array Oper} {QQ : Exit → Act → World → Prop} {k : Nat} {o : Oper} {d : Option Nat} {gd : Option (Nat × Bool)} {sz bytes : Nat} {zero : List AV} {x y : Opd} {σ0 : St} (ho : ops[k]? = some o) (hf : fitI P ops ⟨d, gd, .append sz bytes zero x y⟩ o = true) (hop : Open σ0.fr gd)
 {r len : Nat} {news : List (List AV)} {ob : AObj} (e1 : evalA σ0.fr x = .own r sz 0 len len) (hsrc : srcOf σ0.H (evalA σ0.fr y) = some news) (hl : liveO σ0.H r len = some ob) (hok : news.all (fun e => decide (e.length = sz)) = true ∧ (len + news.length) * bytes ≤ 1000000000000 ∧ len + news.length ≤ 1000000000) :
 Does P n0 E0 ops QQ k ⟨slotsL ⟨d, gd, .append sz bytes zero x y⟩ ++ .con r :: refC (evalA σ0.fr y), dstL d ++ [.con r, .len r], d, .own r sz 0 (len + news.length) (len + news.length), [r], [some (ob ++ news)]⟩ σ0 := by
 refine ⟨fun σ ha E w a next hle rl hk => ?_, fun σ ha l hl' => ?_, fun t ht => ?_, fun r' hr => by simp at hr; simp [hr]⟩
 ·obtain ⟨hev, hgd⟩ := agree_ev (ins := ⟨d, gd, .append sz bytes zero x y⟩) ha (fun l hl => List.mem_append_left _ hl)
  have hcon := look_at (ha.on (.con r) (by simp))
  refine wpOp_go ho hf rl (fun g want hg => by rw [hgd g want hg]; exact hop g want hg) ?_
  have hf1 : fit1 P (.append sz bytes zero x y) o.op = true := by
   have hv : ∃ v H', aop1 (.append sz bytes zero x y) (evalA σ0.fr) σ0.H = some (v, H') := by
    simp only [aop1, e1, hsrc, hl, hok.1]
    rw [if_neg (by simp), if_pos (by simp), if_pos hok.2]
    exact ⟨_, _, rfl⟩
   obtain ⟨v, H', hv⟩ := hv
   have := fitI_plain hf (.inr ⟨evalA σ0.fr, σ0.H, _, hv⟩)
   rw [Bool.or_eq_true] at this
   rcases this with h | h
   ·rw [fit0_1 h] at hv; cases hv
   ·exact h
  have hsrc' : srcOf σ.H (evalA σ.fr y) = some news := by
   rw [hev y (by simp [opdsA]), ← hsrc]
   exact srcOf_local fun r' hr => (look_at (ha.on (.con r') (by simp only [List.mem_append, List.mem_cons]; exact .inr (.inr hr)))).1
  obtain ⟨u, w', E', hrun, hle', hs', hx', hn⟩ := ok_appendE hf1 rfl rl.sim rl.rep (by rw [hev x (by simp [opdsA]), e1]) hsrc' (by rw [live_con hcon.1]; exact hl) hok
  unfold Oper.wp
  rw [hrun]
  refine hk E' _ w' (hle.trans (hle'.toN n0)) ⟨hs', ?_, put_defers rl.defers _ _, fun r' hr => ?_⟩
  ·rw [← fitI_dst hf]
   exact put_rep (rl.rep.mono hle') hx' _
  ·simp only [Tr.app, Bool.and_eq_true] at hr
   refine hn r' ?_ (rl.free r' hr.1)
   rintro rfl
   simp at hr
 ·refine look_app (fun t ht hlt => hl' ?_) (fun r' hr => ⟨fun e => hl' ?_, fun e => hl' ?_⟩)
  ·simp only at ht; rw [hlt]; simp [dstL, ht]
  ·simp at hr; rw [e, hr]; simp
  ·simp at hr; rw [e, hr]; simp
 ·simp only at ht; simp [dstL, ht]
end
end Go.Proofs.YtemjlopoffjmpaaGreat.Abs
