/-
  The abstract layer, part 9: the operations of part 5 do what is told (4): slice expressions, literals of structs, bytes to strings.
-/
import Derived.Test.YtemjlopoffjmpaaGreatSOAbs8
set_option linter.unusedSimpArgs false
set_option linter.unusedVariables false
namespace Go.Proofs.YtemjlopoffjmpaaGreat.Abs
open Go
theorem bnd_cases {E : Env} {fr : List AV} {a : Act} (hr : RepL E fr a.tmps) {x : Option Opd} {x' : Option Operand} (hf : fit0.fitOO x x' = true) {d top m : Nat} (h : bnd (evalA fr) x d top = some m) :
 (x' = none ∧ m = d) ∨ ∃ y' k n, x' = some y' ∧ a.eval y' = .int k n ∧ 0 ≤ n ∧ n ≤ top ∧ m = n.toNat := by
 cases x with
 | none =>
   cases x' with
   | none => simp only [bnd, Option.some.injEq] at h; exact .inl ⟨rfl, h.symm⟩
   | some y' => simp [fit0.fitOO] at hf
 | some y =>
   cases x' with
   | none => simp [fit0.fitOO] at hf
   | some y' =>
     simp only [fit0.fitOO] at hf
     have hy := fitO_ok hr hf
     simp only [bnd] at h
     split at h
     ·rename_i k n e
      rw [e] at hy
      split at h
      ·rename_i hb
       cases h
       exact .inr ⟨y', k, n, rfl, rep_int hy, hb.1, hb.2, rfl⟩
      ·cases h
     ·cases h
theorem run_bounds {P : Program} {w : World} {E : Env} {fr : List AV} {a : Act} (hr : RepL E fr a.tmps) (isSlice : Bool) {lo hi : Option Opd} {lo' hi' : Option Operand}
 (hl : fit0.fitOO lo lo' = true) (hh : fit0.fitOO hi hi' = true) {len cap top h l : Nat} (htop : top ≤ cap) (h1 : bnd (evalA fr) hi len top = some h) (h2 : bnd (evalA fr) lo 0 h = some l) :
 (Instr.sliceBounds isSlice len cap (lo'.map a.eval) (hi'.map a.eval) none).run P w = .ok (l, h, cap) w := by
 unfold Instr.sliceBounds
 rcases bnd_cases hr hh h1 with ⟨rfl, rfl⟩ | ⟨y', k, n, rfl, he, hn, hm, rfl⟩ <;> rcases bnd_cases hr hl h2 with ⟨rfl, rfl⟩ | ⟨z', k', n', rfl, he', hn', hm', rfl⟩
 ·rfl
 ·simp only [Option.map_none, Option.map_some, Sem.run_bind, Sem.run_pure, Result.andThen, Instr.sliceBound, he', asIntOf, if_pos (And.intro hn' hm')]
 ·have c1 : 0 ≤ n ∧ n ≤ (cap : Int) := ⟨hn, by omega⟩
  simp only [Option.map_none, Option.map_some, Sem.run_bind, Sem.run_pure, Result.andThen, Instr.sliceBound, he, asIntOf, if_pos c1]
 ·have c1 : 0 ≤ n ∧ n ≤ (cap : Int) := ⟨hn, by omega⟩
  simp only [Option.map_some, Sem.run_bind, Sem.run_pure, Result.andThen, Instr.sliceBound, he, he', asIntOf, if_pos c1, if_pos (And.intro hn' hm')]
theorem ok_slices {P : Program} {x : Opd} {lo hi : Option Opd} {o : Op} (hf : fit0 P (.slices x lo hi) o = true) : Sound0 P o (.slices x lo hi) := by
 intro E w H fr a v oper ho hs hr hv
 cases o <;> simp only [fit0, Bool.false_eq_true] at hf
 rename_i t y lo' hi' mx
 cases mx <;> simp only [fit0, Bool.and_eq_true, Bool.false_eq_true] at hf
 obtain ⟨⟨⟨ht, h1⟩, h2⟩, h3⟩ := hf
 have hx := fitO_ok hr h1
 have hu : P.underlying t = some .string := by
  split at ht <;> first | assumption | cases ht
 simp only [aop0] at hv
 split at hv
 ·rename_i s e
  rw [e] at hx
  split at hv
  ·rename_i h hh
   split at hv
   ·rename_i l hl
    cases hv
    have hz : (⟨s.toArray⟩ : ByteArray).size = s.length := by simp [ByteArray.size]
    have hb := run_bounds (P := P) (w := w) hr false h2 h3 (cap := s.length) (Nat.le_refl _) hh hl
    refine ⟨.string ((⟨s.toArray⟩ : ByteArray).extract l h), ?_, ?_⟩
    ·simp only [execOp, ho]
     apply run_v
     simp only [Instr.sliceAt, Sem.run_bind, run_underlying hu, Result.andThen, Instr.slice, rep_str hx, hz, Option.map_none, Option.isSome_none, Bool.false_eq_true, if_false, hb]
     rfl
    ·have : (⟨s.toArray⟩ : ByteArray).extract l h = ⟨((s.take h).drop l).toArray⟩ := by
      apply ByteArray.ext
      simp [List.drop_take]
     rw [this]
     exact .pure (x := .str _) (.str _)
   ·cases hv
  ·cases hv
 ·cases hv
theorem ok_slicel {P : Program} {sz : Nat} {x : Opd} {lo hi : Option Opd} {o : Op} (hf : fit0 P (.slicel sz x lo hi) o = true) : Sound0 P o (.slicel sz x lo hi) := by
 intro E w H fr a v oper ho hs hr hv
 cases o <;> simp only [fit0, Bool.false_eq_true] at hf
 rename_i t y lo' hi' mx
 cases mx <;> simp only [fit0, Bool.and_eq_true, Bool.false_eq_true] at hf
 obtain ⟨⟨⟨ht, h1⟩, h2⟩, h3⟩ := hf
 have hx := fitO_ok hr h1
 obtain ⟨et, inf, hu, hinf, hsz⟩ : ∃ e inf, P.underlying t = some (.slice e) ∧ P.info? e = some inf ∧ inf.size = sz := by
  split at ht
  ·split at ht
   ·exact ⟨_, _, by assumption, by assumption, by simpa using ht⟩
   ·cases ht
  ·cases ht
 have key : ∀ ad len cap l h, a.eval y = .slice ad len cap → (Instr.sliceBounds true len cap (lo'.map a.eval) (hi'.map a.eval) none).run P w = .ok (l, h, cap) w →
  (execOp a.eval oper).run P w = .ok (.value (.slice (if cap = l then ad else ad.map (·.add (l * sz))) (h - l) (cap - l))) w := by
  intro ad len cap l h he hb
  simp only [execOp, ho]
  apply run_v
  simp only [Instr.sliceAt, Sem.run_bind, run_underlying hu, Result.andThen, Instr.slice, he, Option.map_none, hb, run_sizeOf' hinf, hsz]
  rfl
 simp only [aop0] at hv
 split at hv
 ·rename_i es e
  rw [e] at hx
  obtain ⟨ad, cap, he, hcap, hne⟩ := rep_fz_inv hx
  split at hv
  ·rename_i h hh
   split at hv
   ·rename_i l hl
    split at hv
    ·rename_i hall
     cases hv
     have hb := run_bounds (P := P) (w := w) hr true h2 h3 hcap hh hl
     refine ⟨_, key ad _ cap l h he hb, ?_⟩
     have hhle : h ≤ es.length := by
      rcases bnd_cases hr h3 hh with ⟨_, rfl⟩ | ⟨_, _, n, _, _, _, hm, rfl⟩ <;> omega
     have hlen : ((es.take h).drop l).length = h - l := by simp; omega
     cases hes : (es.take h).drop l with
     | nil =>
       have : h - l = 0 := by rw [← hlen, hes]; rfl
       rw [this]
       exact .pure (x := .fz []) (.fz0 _ _)
     | cons e0 er =>
       have hlt : l < h := by
        have : 0 < h - l := by rw [← hlen, hes]; simp
        omega
       have hes0 : es ≠ [] := by rintro rfl; simp at hes
       obtain ⟨b, off, sz', cells, te, q, rfl, hF, hsz', hin, hc⟩ := hne hes0
       have he0 : es[l]? = some e0 := by
        have : ((es.take h).drop l)[0]? = some e0 := by rw [hes]; rfl
        rwa [List.getElem?_drop, Nat.add_zero, List.getElem?_take_of_lt hlt] at this
       have hsz2 : sz' = sz := by
        rw [← hsz' e0 (List.mem_of_getElem? he0)]
        have := List.all_eq_true.1 hall e0 (by rw [hes]; simp)
        simpa using this
       subst hsz2
       rw [if_neg (by omega), ← hes]
       simp only [Option.map_some, addr_add]
       have hlen' : h - l = ((es.take h).drop l).length := hlen.symm
       rw [hlen']
       refine .pure (x := .fz _) (.fz _ b (off + l * sz') _ sz' cells te q hF (by rw [← hlen']; omega) ?_ ?_ ?_)
       ·intro e' hm
        exact hsz' e' (List.mem_of_mem_take (List.mem_of_mem_drop hm))
       ·rw [← hlen', Nat.add_assoc, ← Nat.add_mul]
        have : (l + (h - l)) * sz' ≤ es.length * sz' := Nat.mul_le_mul_right _ (by omega)
        omega
       ·intro i e' k c u hi hk hu'
        have hi' : es[l + i]? = some e' := by
         rw [List.getElem?_drop] at hi
         have : l + i < h := by
          rcases Nat.lt_or_ge (l + i) h with h' | h'
          ·exact h'
          ·rw [List.getElem?_eq_none (by simp; omega)] at hi; cases hi
         rwa [List.getElem?_take_of_lt this] at hi
        refine hc (l + i) e' k c u hi' hk ?_
        rw [← hu', Nat.add_mul]; congr 1; omega
    ·cases hv
   ·cases hv
  ·cases hv
 ·rename_i e
  rw [e] at hx
  obtain ⟨ad, he⟩ := rep_emp hx
  split at hv
  ·rename_i h hh
   split at hv
   ·rename_i l hl
    cases hv
    have z1 : h = 0 := by rcases bnd_cases hr h3 hh with ⟨_, rfl⟩ | ⟨_, _, n, _, _, _, hm, rfl⟩ <;> omega
    subst z1
    have z2 : l = 0 := by rcases bnd_cases hr h2 hl with ⟨_, rfl⟩ | ⟨_, _, n, _, _, _, hm, rfl⟩ <;> omega
    subst z2
    have hb := run_bounds (P := P) (w := w) hr true h2 h3 (cap := 0) (Nat.le_refl _) hh hl
    exact ⟨_, key ad 0 0 0 0 he hb, .pure (x := .emp) (.emp _)⟩
   ·cases hv
  ·cases hv
 ·rename_i r sz' off len tot e
  rw [e] at hx
  split at hv
  ·rename_i o hlive
   obtain ⟨hat, hlen, htt⟩ := live_of hs hlive
   split at hv
   ·rename_i hoff
    obtain ⟨hoff, rfl⟩ := hoff
    split at hv
    ·rename_i h hh
     split at hv
     ·rename_i l hl
      rcases rep_own hx htt with ⟨ad, rfl, rfl, rfl, he⟩ | ⟨x', cap, hx', hsz', g1, g2, g3, g4, he⟩
      ·have z1 : h = 0 := by rcases bnd_cases hr h3 hh with ⟨_, rfl⟩ | ⟨_, _, n, _, _, _, hm, rfl⟩ <;> omega
       subst z1
       have z2 : l = 0 := by rcases bnd_cases hr h2 hl with ⟨_, rfl⟩ | ⟨_, _, n, _, _, _, hm, rfl⟩ <;> omega
       subst z2
       have hb := run_bounds (P := P) (w := w) hr true h2 h3 (cap := 0) (Nat.le_refl _) hh hl
       rw [if_pos rfl] at hv
       cases hv
       exact ⟨_, key ad 0 0 0 0 he hb, .own0 r _ _⟩
      ·have htop : tot - off ≤ cap := by omega
       have hb := run_bounds (P := P) (w := w) hr true h2 h3 htop hh hl
       have hhle : h ≤ tot - off := by rcases bnd_cases hr h3 hh with ⟨_, rfl⟩ | ⟨_, _, n, _, _, _, hm, rfl⟩ <;> omega
       refine ⟨_, key _ _ cap l h he hb, ?_⟩
       split at hv
       ·rename_i hl0
        subst hl0
        cases hv
        have e0 : (if cap = 0 then some (⟨x'.b, off * x'.sz, none⟩ : Addr) else (some (⟨x'.b, off * x'.sz, none⟩ : Addr)).map (·.add (0 * sz'))) = some ⟨x'.b, off * x'.sz, none⟩ := by
         split
         ·rfl
         ·simp [Addr.add]
        rw [e0]
        exact .own r sz' off h tot (cap - 0) x' hx' (htt _ hx') hsz' (by omega) (by omega) (by omega) (by simpa using g4)
       ·rename_i hl0
        split at hv
        ·rename_i hle
         cases hv
         rw [show h - l = 0 from by omega]
         exact .pure (x := .fz []) (.fz0 _ _)
        ·rename_i hle
         cases hv
         rw [if_neg (by omega)]
         simp only [Option.map_some, addr_add]
         have e5 : off * x'.sz + l * sz' = (off + l) * x'.sz := by rw [hsz', Nat.add_mul]
         rw [e5]
         exact .own r sz' (off + l) (h - l) tot (cap - l) x' hx' (htt _ hx') hsz' (by omega) (by omega) (by omega) (by rw [show off + l + (cap - l) = off + cap from by omega]; exact g4)
     ·cases hv
    ·cases hv
   ·cases hv
  ·cases hv
 ·cases hv
theorem ok_slicez {P : Program} {x : Opd} {o : Op} (hf : fit0 P (.slicez x) o = true) : Sound0 P o (.slicez x) := by
 intro E w H fr a v oper ho hs hr hv
 cases o <;> simp only [fit0, Bool.false_eq_true] at hf
 rename_i t y lo hi mx
 simp only [Bool.and_eq_true] at hf
 obtain ⟨⟨⟨⟨ht, h1⟩, h2⟩, h3⟩, h4⟩ := hf
 obtain ⟨k, rfl⟩ := isZ_ok h3
 obtain ⟨k', rfl⟩ := isZ_ok h4
 have hx := fitO_ok hr h1
 obtain ⟨et, inf, hu, hinf⟩ : ∃ e inf, P.underlying t = some (.slice e) ∧ P.info? e = some inf := by
  split at ht
  ·obtain ⟨inf, h⟩ := Option.isSome_iff_exists.1 ht
   exact ⟨_, inf, by assumption, h⟩
  ·cases ht
 have key : ∀ ad len cap, a.eval y = .slice ad len cap → (execOp a.eval oper).run P w = .ok (.value (.slice ad 0 0)) w := by
  intro ad len cap he
  simp only [execOp, ho]
  apply run_v
  have hb : (Instr.sliceBounds true len cap (lo.map a.eval) (some (.int k 0)) (some (.int k' 0))).run P w = .ok (0, 0, 0) w := by
   unfold Instr.sliceBounds
   have z : ∀ (kk : IntKind) (c : Nat) (code : BoundsCode), (Instr.sliceBound (.int kk 0) c code).run P w = .ok 0 w := by
    intro kk c code
    simp only [Instr.sliceBound, asIntOf, Sem.run_bind, Sem.run_pure, Result.andThen]
    rw [if_pos (by omega)]; rfl
   simp only [Sem.run_bind, z, Result.andThen]
   cases lo with
   | none => rfl
   | some l =>
     obtain ⟨kk, hk⟩ := isZ_ok (by simpa using h2)
     cases hk
     simp only [Option.map_some, show a.eval (.const (.int kk 0)) = .int kk 0 from rfl, Option.isSome_some, if_true, z, Result.andThen]
     rfl
  simp only [Instr.sliceAt, Sem.run_bind, run_underlying hu, Result.andThen, Instr.slice, he, Option.map_some, show ∀ kk, a.eval (.const (.int kk 0)) = .int kk 0 from fun _ => rfl, hb, run_sizeOf' hinf, if_true]
  rfl
 simp only [aop0] at hv
 split at hv
 ·rename_i es e
  rw [e] at hx
  cases hv
  obtain ⟨ad, cap, he, _⟩ := rep_fz_inv hx
  exact ⟨_, key _ _ _ he, .pure (x := .emp) (.emp _)⟩
 ·rename_i e
  rw [e] at hx
  cases hv
  obtain ⟨ad, he⟩ := rep_emp hx
  exact ⟨_, key _ _ _ he, .pure (x := .emp) (.emp _)⟩
 ·rename_i r sz off len tot e
  rw [e] at hx
  cases hl : liveO H r tot with
  | none => rw [hl] at hv; cases hv
  | some o =>
    rw [hl] at hv; cases hv
    obtain ⟨ad, cap, he⟩ := slice_form hs hx hl
    exact ⟨_, key _ _ _ he, .pure (x := .emp) (.emp _)⟩
 ·cases hv
theorem ok_slice3 {P : Program} {x lo hi mx : Opd} {o : Op} (hf : fit0 P (.slice3 x lo hi mx) o = true) : Sound0 P o (.slice3 x lo hi mx) := by
 intro E w H fr a v oper ho hs hr hv
 cases o <;> try (simp only [fit0, Bool.false_eq_true] at hf; done)
 rename_i t y lo' hi' mx'
 cases lo' <;> cases hi' <;> cases mx' <;> simp only [fit0, Bool.and_eq_true, Bool.false_eq_true] at hf
 rename_i lo' hi' mx'
 obtain ⟨⟨⟨⟨ht, h1⟩, h2⟩, h3⟩, h4⟩ := hf
 have hx := fitO_ok hr h1
 obtain ⟨et, inf, hu, hinf⟩ : ∃ e inf, P.underlying t = some (.slice e) ∧ P.info? e = some inf := by
  split at ht
  ·obtain ⟨inf, h⟩ := Option.isSome_iff_exists.1 ht
   exact ⟨_, inf, by assumption, h⟩
  ·cases ht
 simp only [aop0] at hv
 split at hv
 ·rename_i c hc
  obtain ⟨ad, len, cap, he, hcap⟩ : ∃ ad len cap, a.eval y = .slice ad len cap ∧ c ≤ cap := by
   unfold roomOf at hc
   split at hc
   ·rename_i e; rw [e] at hx; cases hc
    obtain ⟨ad, he⟩ := rep_emp hx
    exact ⟨ad, 0, 0, he, Nat.le_refl _⟩
   ·rename_i es e; rw [e] at hx; cases hc
    obtain ⟨ad, cap, he, hle, _⟩ := rep_fz_inv hx
    exact ⟨ad, _, cap, he, hle⟩
   ·rename_i r sz off len tot e; rw [e] at hx
    cases hl : liveO H r tot with
    | none => rw [hl] at hc; cases hc
    | some o =>
      rw [hl] at hc; cases hc
      rcases rep_own hx (live_of hs hl).2.2 with ⟨ad, rfl, rfl, rfl, he⟩ | ⟨x', cap, _, _, g1, g2, g3, _, he⟩
      ·exact ⟨ad, 0, 0, he, Nat.le_refl _⟩
      ·exact ⟨_, len, cap, he, by simp only; omega⟩
   ·cases hc
  split at hv
  ·rename_i m hm
   split at hv
   ·rename_i h hh
    split at hv
    ·rename_i l hl
     cases hv
     have key : ∀ {z : Opd} {z' : Operand} {d top k : Nat}, fitO z z' = true → bnd (evalA fr) (some z) d top = some k → ∃ kk n, a.eval z' = .int kk n ∧ 0 ≤ n ∧ n ≤ top ∧ k = n.toNat := by
      intro z z' d top k hz hb
      have := bnd_cases hr (x := some z) (x' := some z') (by simpa [fit0.fitOO] using hz) hb
      rcases this with ⟨h, _⟩ | ⟨y', kk, n, h, he, h0, h1, rfl⟩
      ·cases h
      ·cases h; exact ⟨kk, n, he, h0, h1, rfl⟩
     obtain ⟨k1, n1, e1, p1, q1, rfl⟩ := key h4 hm
     obtain ⟨k2, n2, e2, p2, q2, rfl⟩ := key h3 hh
     obtain ⟨k3, n3, e3, p3, q3, rfl⟩ := key h2 hl
     have c1 : 0 ≤ n1 ∧ n1 ≤ (cap : Int) := ⟨p1, by omega⟩
     refine ⟨.slice (if n1.toNat = n3.toNat then ad else ad.map (·.add (n3.toNat * inf.size))) (n2.toNat - n3.toNat) (n1.toNat - n3.toNat), ?_, .top _⟩
     simp only [execOp, ho]
     apply run_v
     simp only [Instr.sliceAt, Sem.run_bind, run_underlying hu, Result.andThen, Instr.slice, he, Option.map_some, Instr.sliceBounds, Instr.sliceBound, e1, e2, e3, asIntOf, Sem.run_pure, if_pos c1, if_pos (And.intro p2 q2), if_pos (And.intro p3 q3),
      run_sizeOf' hinf]
    ·cases hv
   ·cases hv
  ·cases hv
 ·cases hv
end Go.Proofs.YtemjlopoffjmpaaGreat.Abs
