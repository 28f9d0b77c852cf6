/-
  The abstract layer, part 34: a region that draws its order may be run in an order of its own.
-/
import Derived.Test.YtemjlopoffjmpaaGreatSOAbs33
set_option linter.unusedSimpArgs false
set_option linter.unusedVariables false
namespace Go.Proofs.YtemjlopoffjmpaaGreat.Abs
open Go
section
variable {P : Program} {n0 : Nat}
def Fin (P : Program) (n0 : Nat) (E0 : Env) (ops : Array Oper) (QQ : Exit → Act → World → Prop) (tab : List (List Nat)) (K : List AV → AH → Prop) (is : List Nat) (lg : List (Nat × Tr)) (σ : St) : Prop :=
 (is = [] ∧ confOK tab (lg.map logOf) = true ∧ K σ.fr σ.H) ∨
 ∃ (i : Nat) (T : Tr) (F : Tr → Prop) (is2 : List Nat), is = i :: is2 ∧ confOK tab ((lg ++ [(i, T)]).map logOf) = true ∧ (∀ j ∈ is2, anT tab j i = true) ∧ DoesF P n0 E0 ops QQ i T F σ ∧ ∀ τ, F τ → Run P n0 E0 ops QQ tab K is2 (lg ++ [(i, τ)]) (τ.app σ)
theorem Run.norm {E0 : Env} {ops : Array Oper} {QQ : Exit → Act → World → Prop} {tab : List (List Nat)} {K : List AV → AH → Prop} {is : List Nat} {lg : List (Nat × Tr)} {σ : St} (h : Run P n0 E0 ops QQ tab K is lg σ) :
 ∃ (ds : List (Nat × Tr)) (is' : List Nat) (σ1 : St), is = ds.map Prod.fst ++ is' ∧ Chain P n0 E0 ops QQ ds σ σ1 ∧ Fin P n0 E0 ops QQ tab K is' (lg ++ ds) σ1 := by
 induction h with
 | done lg σ hc hk => exact ⟨[], [], σ, rfl, rfl, .inl ⟨rfl, by simpa using hc, hk⟩⟩
 | exact i τ is lg σ hd hr ih =>
   obtain ⟨ds, is', σ1, h1, h2, h3⟩ := ih
   refine ⟨(i, τ) :: ds, is', σ1, by simp [h1], ⟨hd, h2⟩, ?_⟩
   rw [show lg ++ (i, τ) :: ds = lg ++ [(i, τ)] ++ ds from by simp]
   exact h3
 | fork i T F is lg σ hc hl hd hr ih => exact ⟨[], i :: is, σ, rfl, rfl, .inr ⟨i, T, F, is, rfl, by simpa using hc, hl, hd, by simpa using hr⟩⟩
structure At (P : Program) (n0 : Nat) (E0 : Env) (ops : Array Oper) (tab : List (List Nat)) (Q : APost) (listed : Array Bool) (a : Act) (w : World) (ds : List (Nat × Tr)) (is : List Nat) (lg : List (Nat × Tr)) (rest : List (List (Nat × AInstr))) : Prop where
 ex : ∃ (σ σ1 : St) (E : Env), Chain P n0 E0 ops (lft n0 E0 Q) ds σ σ1 ∧ Fin P n0 E0 ops (lft n0 E0 Q) tab (WD P tab rest (Q .normal)) is lg σ1 ∧ Rl E w a σ ∧ LeN n0 E0 E
 sub : ds.Sublist lg
 list : ∀ j, j < ops.size → (listed.getD j true = false ↔ (j ∈ ds.map Prod.fst ∨ j ∈ is ∨ j ∈ rest.flatten.map Prod.fst))
 nd : (ds.map Prod.fst ++ (is ++ rest.flatten.map Prod.fst)).Nodup
 lt : ∀ j ∈ ds.map Prod.fst ++ (is ++ rest.flatten.map Prod.fst), j < ops.size
 sep : sepOK tab rest = true
 late : ∀ j ∈ rest.flatten.map Prod.fst, ∀ i ∈ ds.map Prod.fst ++ is, anT tab j i = true
 fit : ∀ x ∈ rest.flatten, ∃ o, ops[x.1]? = some o ∧ fitI P ops x.2 o = true
 cl : ∀ (j : Nat) (o : Oper), ops[j]? = some o → listed.getD j false = true → ∀ e ∈ o.after, Region.binds .any e = true → listed.getD e.on false = true
theorem getD_tf {listed : Array Bool} {j : Nat} (h : j < listed.size) : listed.getD j true = listed.getD j false := by
 simp [Array.getD_eq_getD_getElem?, Array.getElem?_eq_getElem h]
theorem cl_set {ops : Array Oper} {listed : Array Bool} {i : Nat} {o : Oper} (ho : ops[i]? = some o) (haft : ∀ e ∈ o.after, Region.binds .any e = true → listed.getD e.on false = true)
 (h : ∀ (j : Nat) (o : Oper), ops[j]? = some o → listed.getD j false = true → ∀ e ∈ o.after, Region.binds .any e = true → listed.getD e.on false = true) :
 ∀ (j : Nat) (o : Oper), ops[j]? = some o → (listed.setIfInBounds i true).getD j false = true → ∀ e ∈ o.after, Region.binds .any e = true → (listed.setIfInBounds i true).getD e.on false = true := by
 intro j o' hj hl e he hb
 by_cases hij : i = j
 ·subst hij
  rw [ho] at hj; cases hj
  exact getD_set_true (haft e he hb)
 ·rw [getD_set_ne false hij] at hl
  exact getD_set_true (h j o' hj hl e he hb)
theorem at_end {E0 : Env} {ops : Array Oper} {tab : List (List Nat)} {Q : APost} {listed : Array Bool} {a : Act} {w : World} {ds : List (Nat × Tr)} {is : List Nat} {lg : List (Nat × Tr)} {rest : List (List (Nat × AInstr))} (h : At P n0 E0 ops tab Q listed a w ds is lg rest)
 (hall : ∀ j, j < ops.size → listed.getD j true = true) : lft n0 E0 Q .normal a w := by
 obtain ⟨σ, σ1, E, hch, hfin, hrl, hle⟩ := h.ex
 have hno : ∀ j ∈ ds.map Prod.fst ++ (is ++ rest.flatten.map Prod.fst), False := by
  intro j hj
  have hlt := h.lt j hj
  have := (h.list j hlt).2 (by simpa [List.mem_append] using hj)
  rw [hall j hlt] at this; cases this
 have hds : ds = [] := by
  cases ds with
  | nil => rfl
  | cons x ds => exact (hno x.1 (by simp)).elim
 have his : is = [] := by
  cases is with
  | nil => rfl
  | cons x is => exact (hno x (by simp)).elim
 have hrest : rest = [] := by
  cases rest with
  | nil => rfl
  | cons s rest =>
    have hs := h.sep
    simp only [sepOK, Bool.and_eq_true] at hs
    cases s with
    | nil => simp at hs
    | cons x s => exact (hno x.1 (by simp)).elim
 subst hds; subst his; subst hrest
 simp only [Chain] at hch
 subst hch
 rcases hfin with ⟨_, _, hk⟩ | ⟨i, T, F, is2, he, _⟩
 ·exact ⟨E, σ.fr, σ.H, .normal, rfl, hk, hle, hrl.sim, hrl.rep, hrl.defers⟩
 ·cases he
theorem set_list {listed : Array Bool} {n i : Nat} (hls : listed.size = n) {A B : Nat → Prop} (hiA : A i) (hB : ∀ j, B j ↔ A j ∧ j ≠ i) (hl : ∀ j, j < n → (listed.getD j true = false ↔ A j)) :
 ∀ j, j < n → ((listed.setIfInBounds i true).getD j true = false ↔ B j) := by
 intro j hj
 rw [hB]
 by_cases hij : i = j
 ·subst hij
  have h1 : (listed.setIfInBounds i true).getD i true = true := by
   have hil : i < listed.size := by omega
   simp [Array.getD_eq_getD_getElem?, hil]
  rw [h1]
  simp
 ·rw [getD_set_ne true hij, hl j hj]
  constructor
  ·exact fun h => ⟨h, Ne.symm hij⟩
  ·exact fun h => h.1
theorem pairs_of {tab : List (List Nat)} {lg : List (Nat × Tr)} (h : confOK tab (lg.map logOf) = true) : lg.Pairwise fun a b => anT tab b.1 a.1 = true ∨ Indep a.2 b.2 := by
 have := conf_pairs _ h
 rw [List.pairwise_map] at this
 exact this.imp fun h => h.imp id indep_of
theorem at_rem {E0 : Env} {ops : Array Oper} {tab : List (List Nat)} {Q : APost} {listed : Array Bool} {a : Act} {w : World} {ds : List (Nat × Tr)} {is : List Nat} {lg : List (Nat × Tr)} {rest : List (List (Nat × AInstr))} (htab : tabOK ops tab = true)
 (h : At P n0 E0 ops tab Q listed a w ds is lg rest) (hls : listed.size = ops.size) (hne : ds.map Prod.fst ++ is ≠ []) {next : Act → World → Prop} {i : Nat} (hi : i ∈ Region.ready .any ops listed)
 (hk : ∀ a' w', (∃ ds' is' lg' rest', At P n0 E0 ops tab Q (listed.setIfInBounds i true) a' w' ds' is' lg' rest') → next a' w') : wpOp P ops (lft n0 E0 Q) i next a w := by
 obtain ⟨h0, o, ho, haft⟩ := mem_ready.1 hi
 have his : i < ops.size := (Array.getElem?_eq_some_iff.1 ho).1
 obtain ⟨σ, σ1, E, hch, hfin, hrl, hle⟩ := h.ex
 have hanc : ∀ j, j ∈ ds.map Prod.fst ++ (is ++ rest.flatten.map Prod.fst) → anT tab i j = true → False := by
  intro j hj han
  have hlt := h.lt j hj
  have := tab_listed htab h.cl i j han (.inr ⟨o, ho, haft⟩)
  rw [← getD_tf (by omega), (h.list j hlt).2 (by simpa [List.mem_append] using hj)] at this; cases this
 have hpw : lg.Pairwise fun a b => anT tab b.1 a.1 = true ∨ Indep a.2 b.2 := by
  rcases hfin with ⟨_, hc, _⟩ | ⟨_, T, F, _, _, hc, _⟩
  ·exact pairs_of hc
  ·exact (List.pairwise_append.1 (pairs_of hc)).1
 have hnd := h.nd
 rcases (h.list i his).1 h0 with him | him | him
 ·
  obtain ⟨x, hx, hxi⟩ := List.mem_map.1 him
  obtain ⟨i', τ⟩ := x
  simp only at hxi; subst hxi
  obtain ⟨pre, post, rfl⟩ := List.append_of_mem hx
  have hind : ∀ y ∈ pre, Indep y.2 τ := by
   intro y hy
   have hpd := hpw.sublist h.sub
   rw [List.pairwise_append] at hpd
   rcases hpd.2.2 y hy (i', τ) (by simp) with h' | h'
   ·exact (hanc y.1 (List.mem_append_left _ (List.mem_map.2 ⟨y, by simp [hy], rfl⟩)) h').elim
   ·exact h'
  obtain ⟨hd, hch'⟩ := pull pre σ hch hind
  have hsub : (pre ++ post).Sublist (pre ++ (i', τ) :: post) := List.Sublist.append_left (List.sublist_cons_self _ _) _
  refine hd.snd σ (Agree.refl _ _) E w a next hle hrl fun E' a' w' hle' hrl' => hk a' w' ⟨pre ++ post, is, lg, rest, ?_⟩
  refine ⟨⟨_, σ1, E', hch', hfin, hrl', hle'⟩, hsub.trans h.sub, ?_, hnd.sublist (List.Sublist.append_right (hsub.map _) _), fun j hj => h.lt j ((List.Sublist.append_right (hsub.map _) _).subset hj), h.sep,
   fun j hj i hi => h.late j hj i ((List.Sublist.append_right (hsub.map _) _).subset hi), h.fit, cl_set ho haft h.cl⟩
  refine set_list hls (A := fun j => j ∈ (pre ++ (i', τ) :: post).map Prod.fst ∨ j ∈ is ∨ j ∈ rest.flatten.map Prod.fst) (.inl him) (fun j => ?_) h.list
  rw [List.map_append, List.map_cons, List.append_assoc, List.cons_append, List.nodup_append] at hnd
  obtain ⟨n1, n2, n3⟩ := hnd
  rw [List.nodup_cons] at n2
  simp only [List.map_append, List.map_cons, List.mem_append, List.mem_cons]
  constructor
  ·rintro ((hj | hj) | hj)
   ·exact ⟨.inl (.inl hj), fun e => n3 j hj i' (by simp) e⟩
   ·exact ⟨.inl (.inr (.inr hj)), fun e => n2.1 (by rw [← e]; exact List.mem_append_left _ hj)⟩
   ·exact ⟨.inr hj, fun e => n2.1 (by rw [← e]; simp only [List.mem_append]; exact .inr (by simpa using hj))⟩
  ·rintro ⟨(hj | hj | hj) | hj, hne⟩
   ·exact .inl (.inl hj)
   ·exact absurd hj hne
   ·exact .inl (.inr hj)
   ·exact .inr hj
 ·
  rcases hfin with ⟨rfl, _, _⟩ | ⟨i', T, F, is2, rfl, hc, hl, hd, hr⟩
  ·cases him
  have hii : i = i' := by
   rcases List.mem_cons.1 him with h' | h'
   ·exact h'
   ·exact (hanc i' (by simp) (hl i h')).elim
  subst hii
  have hpw2 := List.pairwise_append.1 (pairs_of hc)
  have hind : ∀ y ∈ ds, Indep y.2 T := by
   intro y hy
   rcases hpw2.2.2 y (h.sub.subset hy) (i, T) (by simp) with h' | h'
   ·exact (hanc y.1 (List.mem_append_left _ (List.mem_map.2 ⟨y, hy, rfl⟩)) h').elim
   ·exact h'
  have hagree : Agree T.R σ σ1 := by
   have key : ∀ (ds : List (Nat × Tr)) (σ : St), Chain P n0 E0 ops (lft n0 E0 Q) ds σ σ1 → (∀ y ∈ ds, Indep y.2 T) → Agree T.R σ σ1 := by
    intro ds
    induction ds with
    | nil => intro σ h _; simp only [Chain] at h; subst h; exact Agree.refl _ _
    | cons x ds ih =>
      obtain ⟨j, b⟩ := x
      intro σ h hi
      have hib := hi (j, b) (by simp)
      have g1 : Agree T.R σ (b.app σ) := ⟨(app_fr b σ).symm, (app_H b σ).symm, fun l hl => (h.1.wf σ (Agree.refl _ _) l (fun hw => hib.wr l hw hl)).symm⟩
      exact g1.trans (ih _ h.2 (fun y hy => hi y (by simp [hy])))
   exact key ds σ hch hind
  refine hd.snd σ hagree E w a next hle hrl fun τ E' a' w' hτ hle' hrl' => ?_
  obtain ⟨es, is', σ2, e1, hch2, hfin2⟩ := (hr τ hτ).norm
  have hch1 := (chain_app hd hτ ds σ hch hind).2
  refine hk a' w' ⟨ds ++ es, is', lg ++ [(i, τ)] ++ es, rest, ?_⟩
  subst e1
  have hsubN : (ds.map Prod.fst ++ (es.map Prod.fst ++ is' ++ rest.flatten.map Prod.fst)).Sublist (ds.map Prod.fst ++ (i :: (es.map Prod.fst ++ is') ++ rest.flatten.map Prod.fst)) :=
   List.Sublist.append_left (List.Sublist.append_right (List.sublist_cons_self _ _) _) _
  have eN : (ds ++ es).map Prod.fst ++ (is' ++ rest.flatten.map Prod.fst) = ds.map Prod.fst ++ (es.map Prod.fst ++ is' ++ rest.flatten.map Prod.fst) := by simp
  refine ⟨⟨_, σ2, E', chain_append ds _ hch1 hch2, hfin2, hrl', hle'⟩, ?_, ?_, ?_, ?_, h.sep, ?_, h.fit, cl_set ho haft h.cl⟩
  ·refine List.Sublist.append ?_ (List.Sublist.refl _)
   exact h.sub.trans (List.sublist_append_left _ _)
  ·refine set_list hls (A := fun j => j ∈ ds.map Prod.fst ∨ j ∈ i :: (es.map Prod.fst ++ is') ∨ j ∈ rest.flatten.map Prod.fst) (.inr (.inl (by simp))) (fun j => ?_) h.list
   rw [List.cons_append, List.nodup_append] at hnd
   obtain ⟨n1, n2, n3⟩ := hnd
   rw [List.nodup_cons] at n2
   simp only [List.map_append, List.mem_append, List.mem_cons]
   constructor
   ·rintro ((hj | hj) | hj | hj)
    ·exact ⟨.inl hj, fun e => n3 j hj i (by simp) e⟩
    ·exact ⟨.inr (.inl (.inr (.inl hj))), fun e => n2.1 (by rw [← e]; simp only [List.mem_append]; exact .inl (.inl hj))⟩
    ·exact ⟨.inr (.inl (.inr (.inr hj))), fun e => n2.1 (by rw [← e]; simp only [List.mem_append]; exact .inl (.inr hj))⟩
    ·exact ⟨.inr (.inr hj), fun e => n2.1 (by rw [← e]; simp only [List.mem_append]; exact .inr hj)⟩
   ·rintro ⟨hj | (hj | hj | hj) | hj, hne⟩
    ·exact .inl (.inl hj)
    ·exact absurd hj hne
    ·exact .inl (.inr hj)
    ·exact .inr (.inl hj)
    ·exact .inr (.inr hj)
  ·rw [eN]; exact hnd.sublist hsubN
  ·intro j hj; rw [eN] at hj; exact h.lt j (hsubN.subset hj)
  ·intro j hj k hk'
   refine h.late j hj k ?_
   simp only [List.map_append, List.mem_append, List.mem_cons] at hk' ⊢
   rcases hk' with (h' | h') | h'
   ·exact .inl h'
   ·exact .inr (.inr (.inl h'))
   ·exact .inr (.inr (.inr h'))
 ·
  exfalso
  cases hx : ds.map Prod.fst ++ is with
  | nil => exact hne hx
  | cons k l =>
    have hkm : k ∈ ds.map Prod.fst ++ is := by rw [hx]; simp
    refine hanc k ?_ (h.late i him k hkm)
    rw [← List.append_assoc]
    exact List.mem_append_left _ hkm
theorem at_next {E0 : Env} {ops : Array Oper} {tab : List (List Nat)} {Q : APost} {listed : Array Bool} {a : Act} {w : World} {ds : List (Nat × Tr)} {is : List Nat} {lg : List (Nat × Tr)} {rest : List (List (Nat × AInstr))} (htab : tabOK ops tab = true)
 (h : At P n0 E0 ops tab Q listed a w ds is lg rest) (hls : listed.size = ops.size) {next : Act → World → Prop} {i : Nat} (hi : i ∈ Region.ready .any ops listed)
 (hk : ∀ a' w', (∃ ds' is' lg' rest', At P n0 E0 ops tab Q (listed.setIfInBounds i true) a' w' ds' is' lg' rest') → next a' w') : wpOp P ops (lft n0 E0 Q) i next a w := by
 by_cases hne : ds.map Prod.fst ++ is = []
 case neg => exact at_rem htab h hls hne hi hk
 obtain ⟨h0, o, ho, haft⟩ := mem_ready.1 hi
 have hisz : i < ops.size := (Array.getElem?_eq_some_iff.1 ho).1
 have hds : ds = [] := by
  have := (List.append_eq_nil_iff.1 hne).1
  simpa using this
 have his : is = [] := (List.append_eq_nil_iff.1 hne).2
 subst hds; subst his
 obtain ⟨σ, σ1, E, hch, hfin, hrl, hle⟩ := h.ex
 simp only [Chain] at hch
 subst hch
 have hwd : WD P tab rest (Q .normal) σ.fr σ.H := by
  rcases hfin with ⟨_, _, hk⟩ | ⟨i, T, F, is2, he, _⟩
  ·exact hk
  ·cases he
 have hs := h.sep
 have hnd := h.nd
 simp only [List.map_nil, List.nil_append] at hnd
 have hlist : ∀ j, j < ops.size → (listed.getD j true = false ↔ j ∈ rest.flatten.map Prod.fst) := fun j hj => by
  have := h.list j hj
  simpa using this
 have hlt : ∀ j ∈ rest.flatten.map Prod.fst, j < ops.size := fun j hj => h.lt j (by simpa using hj)
 cases rest with
 | nil =>
   exfalso
   have := (hlist i hisz).1 h0
   simp at this
 | cons s rest =>
   simp only [sepOK, Bool.and_eq_true] at hs
   simp only [List.flatten_cons, List.map_append] at hnd hlist hlt
   have hlate : ∀ j ∈ rest.flatten.map Prod.fst, ∀ k ∈ s.map Prod.fst, anT tab j k = true := by
    intro j hj k hk'
    obtain ⟨y, hy, rfl⟩ := List.mem_map.1 hj
    obtain ⟨x, hx, rfl⟩ := List.mem_map.1 hk'
    exact List.all_eq_true.1 (List.all_eq_true.1 hs.1.2 y hy) x hx
   have hfits : ∀ x ∈ s, ∃ o, ops[x.1]? = some o ∧ fitI P ops x.2 o = true := fun x hx => h.fit x (by simp [hx])
   have hfit' : ∀ x ∈ rest.flatten, ∃ o, ops[x.1]? = some o ∧ fitI P ops x.2 o = true := fun x hx => h.fit x (by
    rw [List.flatten_cons]; exact List.mem_append_right _ hx)
   by_cases h1 : ∃ x, s = [x]
   ·obtain ⟨⟨b, ins⟩, rfl⟩ := h1
    have hib : i = b := by
     have := (hlist i hisz).1 h0
     simp only [List.map_cons, List.map_nil, List.mem_append, List.mem_singleton] at this
     rcases this with h2 | h2
     ·exact h2
     ·exfalso
      have hl := hlate i h2 b (by simp)
      have h3 := tab_listed htab h.cl i b hl (.inr ⟨o, ho, haft⟩)
      have hb := hlt b (by simp)
      rw [← getD_tf (by omega), (hlist b hb).2 (by simp)] at h3; cases h3
    subst hib
    obtain ⟨o', ho', hf⟩ := hfits (i, ins) (by simp)
    simp only at ho' hf
    rw [ho] at ho'; cases ho'
    have hat : ∀ (E' : Env) (a' : Act) (w' : World) (fr' : List AV) (H' : AH), WD P tab rest (Q .normal) fr' H' → LeN n0 E0 E' → Sim E' w' H' → RepL E' fr' a'.tmps → a'.defers = [] → next a' w' := by
     intro E' a' w' fr' H' g1 g2 g3 g4 g5
     refine hk a' w' ⟨[], [], [], rest, ⟨⟨⟨fr', H', fun _ => false⟩, _, E', rfl, .inl ⟨rfl, rfl, g1⟩, ⟨g3, g4, g5, fun r hr => by cases hr⟩, g2⟩, .slnil, ?_, ?_, ?_, hs.2, fun j _ k hk' => by simp at hk', hfit', cl_set ho haft h.cl⟩⟩
     ·simp only [List.map_cons, List.map_nil, List.cons_append, List.nil_append, List.nodup_cons] at hnd
      refine set_list hls (A := fun j => j ∈ [i] ++ rest.flatten.map Prod.fst) (by simp) (fun j => ?_) hlist
      simp only [List.map_nil, List.not_mem_nil, false_or, List.cons_append, List.nil_append, List.mem_cons]
      constructor
      ·exact fun hj => ⟨.inr hj, fun e => hnd.1 (by rw [← e]; exact hj)⟩
      ·rintro ⟨hj | hj, hne⟩
       ·exact absurd hj hne
       ·exact hj
     ·simpa using (List.nodup_append.1 hnd).2.1
     ·intro j hj; exact hlt j (by simp at hj ⊢; exact .inr hj)
    have hwd : RA P [ins] (WD P tab rest (Q .normal)) σ.fr σ.H := hwd
    have step : stepA P ins (WD P tab rest (Q .normal)) σ.fr σ.H → o.wp P a w next (lft n0 E0 Q) := fun hst =>
     step_ok hf hrl.sim hrl.rep hrl.defers hle hst fun E' fr' H' a' w' g1 g2 g3 g4 g5 => hat E' a' w' fr' H' g1 g2 g3 g4 g5
    unfold RA at hwd
    cases hig : ins.guard with
    | none =>
      rw [hig] at hwd
      exact wpOp_go ho hf hrl (fun g want hg => by rw [hig] at hg; cases hg) (step hwd)
    | some gw =>
      obtain ⟨g, want⟩ := gw
      rw [hig] at hwd
      have skip : ((∃ b, σ.fr[g]? = some (.bool b) ∧ b ≠ want) ∨ σ.fr[g]? = some (.tuple [])) → WD P tab rest (Q .normal) (setA σ.fr ins.dst (.tuple [])) σ.H → wpOp P ops (lft n0 E0 Q) i next a w := fun hsk hno =>
       wpOp_skip ho hf hrl hig hsk (hat E _ w _ _ hno hle hrl.sim (by rw [← fitI_dst hf]; exact put_rep hrl.rep (rep_undef E) _) (put_defers hrl.defers _ _))
      rcases hwd with ⟨bv, hb, hyes, hno⟩ | ⟨hb, hno⟩
      ·by_cases hbw : bv = want
       ·exact wpOp_go ho hf hrl (fun g' want' hg => by rw [hig] at hg; cases hg; rw [← hbw]; exact hb) (step (hyes hbw))
       ·exact skip (.inl ⟨bv, hb, hbw⟩) (hno hbw)
      ·exact skip (.inr hb) hno
   ·have hwd' : ∃ m, RE P tab s σ.H.length [] (WD P tab rest (Q .normal)) σ.fr (σ.H ++ List.replicate m none) := by
     match s, h1, hs, hwd with
     | [], _, hs, _ => exact absurd hs.1.1 (by simp)
     | [x], h1, _, _ => exact absurd ⟨x, rfl⟩ h1
     | x :: y :: z, _, _, hwd => exact hwd
    obtain ⟨m, hre⟩ := hwd'
    obtain ⟨es, is', σ2, e1, hch2, hfin2⟩ := (RE_run (n0 := n0) (E0 := E0) (QQ := lft n0 E0 Q) s σ.H.length [] σ.fr _ hfits hre).norm
    rw [List.nil_append] at hfin2
    have hat : At P n0 E0 ops tab Q listed a w es is' es rest := by
     refine ⟨⟨⟨σ.fr, σ.H ++ List.replicate m none, fun r => decide (σ.H.length ≤ r)⟩, σ2, E, hch2, hfin2, ⟨hrl.sim.reserves m, hrl.rep, hrl.defers, fun r hr => ?_⟩, hle⟩, List.Sublist.refl _, fun j hj => ?_, ?_, ?_, hs.2, ?_, hfit', h.cl⟩
     ·simp only [decide_eq_true_eq] at hr
      cases hρ : E.ρ r with
      | none => rfl
      | some x => have := hrl.sim.dom r x hρ; omega
     ·rw [hlist j hj, e1]
      simp only [List.mem_append, or_assoc]
     ·rw [← List.append_assoc, ← e1]; exact hnd
     ·intro j hj
      rw [← List.append_assoc, ← e1] at hj
      exact hlt j hj
     ·intro j hj k hk'
      rw [← e1] at hk'
      exact hlate j hj k hk'
    have hne' : es.map Prod.fst ++ is' ≠ [] := by
     rw [← e1]
     intro e
     have : s = [] := by simpa using e
     subst this
     exact absurd hs.1.1 (by simp)
    exact at_rem htab hat hls hne' hi hk
theorem dregE_go {E0 : Env} {ops : Array Oper} {tab : List (List Nat)} {Q : APost} (htab : tabOK ops tab = true) : ∀ (fuel : Nat) (listed : Array Bool) (a : Act) (w : World), listed.size = ops.size → (List.range ops.size).countP (fun j => !listed.getD j true) ≤ fuel →
 (∃ ds is lg rest, At P n0 E0 ops tab Q listed a w ds is lg rest) → wpAny P .any ops (lft n0 E0 Q) fuel listed a w := by
 have ready0 : ∀ (listed : Array Bool), listed.size = ops.size → Region.ready .any ops listed = [] → ∀ j, j < ops.size → listed.getD j true = true := by
  intro listed hls hr j
  induction j using Nat.strongRecOn with
  | ind j ih =>
    intro hj
    cases hlj : listed.getD j true with
    | true => rfl
    | false =>
      have ho := Array.getElem?_eq_getElem hj
      have hm : j ∈ Region.ready .any ops listed := mem_ready.2 ⟨hlj, _, ho, fun e he hb => by
       have ht := htab
       unfold tabOK at ht
       simp only [Bool.and_eq_true] at ht
       have h2 := List.all_eq_true.1 ht.2 j (List.mem_range.2 hj)
       simp only [ho, Bool.and_eq_true] at h2
       have h3 := Array.all_eq_true_iff_forall_mem.1 h2.1 e he
       have hlt : e.on < j := by simpa [hb] using h3
       rw [← getD_tf (by omega)]
       exact ih e.on hlt (by omega)⟩
      rw [hr] at hm; cases hm
 intro fuel
 induction fuel with
 | zero =>
   rintro listed a w hls hcnt ⟨ds, is, lg, rest, hat⟩
   have hall : ∀ j, j < ops.size → listed.getD j true = true := by
    intro j hj
    have h0 : (List.range ops.size).countP (fun j => !listed.getD j true) = 0 := by omega
    have := List.countP_eq_zero.1 h0 j (List.mem_range.2 hj)
    simpa using this
   refine ⟨?_, at_end hat hall⟩
   cases hr : Region.ready .any ops listed with
   | nil => rfl
   | cons x xs =>
     have hx : x ∈ Region.ready .any ops listed := by rw [hr]; simp
     obtain ⟨h0, o, ho, _⟩ := mem_ready.1 hx
     have := hall x (Array.getElem?_eq_some_iff.1 ho).1
     rw [this] at h0; cases h0
 | succ fuel ih =>
   rintro listed a w hls hcnt ⟨ds, is, lg, rest, hat⟩
   refine ⟨fun hr => at_end hat (ready0 listed hls hr), fun i hi => ?_⟩
   obtain ⟨h0, o, ho, haft⟩ := mem_ready.1 hi
   have his : i < ops.size := (Array.getElem?_eq_some_iff.1 ho).1
   refine at_next htab hat hls hi fun a' w' hx => ih _ a' w' (by simp [hls]) ?_ hx
   have := countP_drop (p := fun j => !listed.getD j true) (q := fun j => !(listed.setIfInBounds i true).getD j true) (List.range ops.size) i (List.mem_range.2 his) (fun j hj => by
    by_cases hij : i = j
    ·subst hij
     have hil : i < listed.size := by omega
     simp [Array.getD_eq_getD_getElem?, hil] at hj
    ·rw [getD_set_ne true hij] at hj; exact hj) (by simp [h0]) (by
     have hil : i < listed.size := by omega
     simp [Array.getD_eq_getD_getElem?, hil])
   omega
theorem W_dregE {segs : List (List (Nat × AInstr))} {tab : List (List Nat)} {Q : APost} {fr : List AV} {H : AH} (h : WD P tab segs (Q .normal) fr H) : W P n0 (.dregE segs tab) Q fr H := by
 intro c E w a hf hs hr hd
 cases c <;> try (simp only [fitC, Bool.false_eq_true] at hf; done)
 rename_i id ops draw
 cases draw <;> simp only [fitC, Bool.false_eq_true, Bool.and_eq_true] at hf
 obtain ⟨hm, hseg, htab, hsep⟩ := hf
 unfold segOK at hseg
 simp only [Bool.and_eq_true, decide_eq_true_eq] at hseg
 obtain ⟨⟨hfit, hnd⟩, hall⟩ := hseg
 have hfit' : ∀ x ∈ segs.flatten, ∃ o, ops[x.1]? = some o ∧ fitI P ops x.2 o = true := by
  intro x hx
  have := List.all_eq_true.1 hfit x hx
  split at this
  ·exact ⟨_, by assumption, this⟩
  ·cases this
 have hlt : ∀ j ∈ segs.flatten.map Prod.fst, j < ops.size := by
  intro j hj
  obtain ⟨x, hx, rfl⟩ := List.mem_map.1 hj
  obtain ⟨o, ho, _⟩ := hfit' x hx
  exact (Array.getElem?_eq_some_iff.1 ho).1
 have hmem : ∀ j, j < ops.size → j ∈ segs.flatten.map Prod.fst := fun j hj => by
  have := List.all_eq_true.1 hall j (List.mem_range.2 hj)
  simpa using this
 refine wp_region_any hm ?_
 refine dregE_go htab ops.size _ a _ (by simp) (Nat.le_trans (List.countP_le_length) (by simp)) ⟨[], [], [], segs, ⟨⟨⟨fr, H, fun _ => false⟩, _, E, rfl, .inl ⟨rfl, rfl, h⟩, ⟨?_, hr, hd, fun r hr => by cases hr⟩, LeN.refl _ _⟩, .slnil, fun j hj => ?_, by simpa using hnd, fun j hj => hlt j (by simpa using hj), hsep, fun j _ k hk => by simp at hk, hfit', fun j o hj hl => ?_⟩⟩
 ·exact ⟨hs.os, hs.tape, hs.output, hs.frz, hs.disj, hs.dom, fun r o h => by
   rcases hs.obj r o h with h | ⟨x, hx, hl⟩
   ·exact .inl h
   ·exact .inr ⟨x, hx, ⟨hl.t, hl.pos, hl.out, hl.blk, hl.sz, hl.fits⟩⟩, hs.inj⟩
 ·have := hmem j hj
  simp [Array.getD_eq_getD_getElem?, Array.getElem?_replicate, hj]
  simpa using this
 ·simp [Array.getD_eq_getD_getElem?, Array.getElem?_replicate] at hl
  split at hl <;> simp at hl
end
end Go.Proofs.YtemjlopoffjmpaaGreat.Abs
