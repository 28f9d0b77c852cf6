/-
  The abstract layer, part 34: a region that draws its order may be run as its text has it.
-/
import Derived.Test.YtemjlopoffjmpaaAbs33
namespace Go.Proofs.Ytemjlopoffjmpaa.Abs
open Go
section
variable {P : Program} {n0 : Nat}

/-- Where a run of the region stands. -/
structure At (P : Program) (n0 : Nat) (E0 : Env) (ops : Array Oper) (tab : List (List Nat)) (Q : APost) (listed : Array Bool) (a : Act) (w : World) (rem : List (Nat × Tr)) (rest : List (List AInstr)) (b : Nat) : Prop where
  ex : ∃ (σ σe : St) (E : Env), Chain P n0 E0 ops (lft n0 E0 Q) rem σ σe ∧ WD P tab rest b (Q .normal) σe.fr σe.H ∧ Rl E w a σ ∧ LeN n0 E0 E
  pw : (rem.map logOf).Pairwise fun a b => anT tab b.1 a.1 = true ∨ indepB a b = true
  list : ∀ j, j < ops.size → (listed.getD j true = false ↔ (j ∈ rem.map Prod.fst ∨ b ≤ j))
  nd : (rem.map Prod.fst).Nodup
  below : ∀ j ∈ rem.map Prod.fst, j < b
  sep : sepOK tab ops.size rest b = true
  fit : ∀ (k : Nat) (ins : AInstr), rest.flatten[k]? = some ins → ∃ o, ops[b + k]? = some o ∧ fitI P ops ins o = true
  tot : b + rest.flatten.length = ops.size
  late : ∀ j, b ≤ j → j < ops.size → ∀ i, i < b → anT tab j i = true
  cl : ∀ (j : Nat) (o : Oper), ops[j]? = some o → listed.getD j false = true → ∀ e ∈ o.after, Region.binds .any e = true → listed.getD e.on false = true

theorem getD_tf {listed : Array Bool} {j : Nat} (h : j < listed.size) : listed.getD j true = listed.getD j false := by
  simp [Array.getD_eq_getD_getElem?, Array.getElem?_eq_getElem h]

theorem cl_set {ops : Array Oper} {listed : Array Bool} {i : Nat} {o : Oper} (ho : ops[i]? = some o) (haft : ∀ e ∈ o.after, Region.binds .any e = true → listed.getD e.on false = true)
    (h : ∀ (j : Nat) (o : Oper), ops[j]? = some o → listed.getD j false = true → ∀ e ∈ o.after, Region.binds .any e = true → listed.getD e.on false = true) :
    ∀ (j : Nat) (o : Oper), ops[j]? = some o → (listed.setIfInBounds i true).getD j false = true → ∀ e ∈ o.after, Region.binds .any e = true → (listed.setIfInBounds i true).getD e.on false = true := by
  intro j o' hj hl e he hb
  by_cases hij : i = j
  · subst hij
    rw [ho] at hj; cases hj
    exact getD_set_true (haft e he hb)
  · rw [getD_set_ne false hij] at hl
    exact getD_set_true (h j o' hj hl e he hb)

theorem at_end {E0 : Env} {ops : Array Oper} {tab : List (List Nat)} {Q : APost} {listed : Array Bool} {a : Act} {w : World} {rem : List (Nat × Tr)} {rest : List (List AInstr)} {b : Nat} (h : At P n0 E0 ops tab Q listed a w rem rest b)
    (hall : ∀ j, j < ops.size → listed.getD j true = true) : lft n0 E0 Q .normal a w := by
  obtain ⟨σ, σe, E, hch, hwd, hrl, hle⟩ := h.ex
  have hb : ops.size ≤ b := by
    rcases Nat.lt_or_ge b ops.size with h' | h'
    · have := (h.list b h').2 (.inr (Nat.le_refl _))
      rw [hall b h'] at this; cases this
    · exact h'
  have hrem : rem = [] := by
    cases rem with
    | nil => rfl
    | cons x rem =>
      obtain ⟨i, τ⟩ := x
      have hi := h.below i (by simp)
      have ht := h.tot
      have := (h.list i (by omega)).2 (.inl (by simp))
      rw [hall i (by omega)] at this; cases this
  have hrest : rest = [] := by
    have hs := h.sep
    cases rest with
    | nil => rfl
    | cons s rest =>
      have ht := h.tot
      simp only [sepOK, Bool.and_eq_true] at hs
      have : s ≠ [] := by
        have := hs.1.1
        intro e; subst e; simp at this
      have := List.length_pos_iff.2 this
      simp only [List.flatten_cons, List.length_append] at ht
      omega
  subst hrem; subst hrest
  simp only [Chain] at hch
  subst hch
  exact ⟨E, σ.fr, σ.H, .normal, rfl, hwd, hle, hrl.sim, hrl.rep, hrl.defers⟩

/-- The next one of a part. -/
theorem at_rem {E0 : Env} {ops : Array Oper} {tab : List (List Nat)} {Q : APost} {listed : Array Bool} {a : Act} {w : World} {rem : List (Nat × Tr)} {rest : List (List AInstr)} {b : Nat} (htab : tabOK ops tab = true) (h : At P n0 E0 ops tab Q listed a w rem rest b) (hls : listed.size = ops.size)
    (hne : rem ≠ []) {next : Act → World → Prop} {i : Nat} (hi : i ∈ Region.ready .any ops listed) (hk : ∀ a' w', (∃ rem' rest' b', At P n0 E0 ops tab Q (listed.setIfInBounds i true) a' w' rem' rest' b') → next a' w') : wpOp P ops (lft n0 E0 Q) i next a w := by
  obtain ⟨h0, o, ho, haft⟩ := mem_ready.1 hi
  have his : i < ops.size := (Array.getElem?_eq_some_iff.1 ho).1
  obtain ⟨σ, σe, E, hch, hwd, hrl, hle⟩ := h.ex
  have hi0 : listed.getD i false = false := by rw [← getD_tf (by omega)]; exact h0
  -- nobody ahead of i is left
  have hanc : ∀ j, j < ops.size → listed.getD j true = false → anT tab i j = true → False := by
    intro j hj hl han
    have := tab_listed htab h.cl i j han (.inr ⟨o, ho, haft⟩)
    rw [← getD_tf (by omega), hl] at this; cases this
  have him : i ∈ rem.map Prod.fst := by
    rcases (h.list i his).1 h0 with h' | h'
    · exact h'
    · exfalso
      cases rem with
      | nil => exact hne rfl
      | cons x rem =>
        obtain ⟨j, τ⟩ := x
        have hj := h.below j (by simp)
        have ht := h.tot
        exact hanc j (by omega) ((h.list j (by omega)).2 (.inl (by simp))) (h.late i h' his j hj)
  obtain ⟨x, hx, hxi⟩ := List.mem_map.1 him
  obtain ⟨i', τ⟩ := x
  simp only at hxi; subst hxi
  obtain ⟨pre, post, rfl⟩ := List.append_of_mem hx
  have hind : ∀ y ∈ pre, Indep y.2 τ := by
    intro y hy
    have hpw := h.pw
    rw [List.map_append, List.map_cons, List.pairwise_append] at hpw
    have := hpw.2.2 (logOf y) (List.mem_map.2 ⟨y, hy, rfl⟩) (logOf (i', τ)) (by simp)
    rcases this with h' | h'
    · exfalso
      have hyb := h.below y.1 (List.mem_map.2 ⟨y, by simp [hy], rfl⟩)
      have ht := h.tot
      exact hanc y.1 (by omega) ((h.list y.1 (by omega)).2 (.inl (List.mem_map.2 ⟨y, by simp [hy], rfl⟩))) h'
    · exact indep_of h'
  obtain ⟨hd, hch'⟩ := pull pre σ hch hind
  refine hd.snd σ (Agree.refl _ _) E w a next hle hrl fun E' a' w' hle' hrl' => hk a' w' ⟨pre ++ post, rest, b, ?_⟩
  have hnd := h.nd
  rw [List.map_append, List.map_cons] at hnd
  have hsub : (pre ++ post).Sublist (pre ++ (i', τ) :: post) := List.Sublist.append_left (List.sublist_cons_self _ _) _
  refine ⟨⟨_, σe, E', hch', hwd, hrl', hle'⟩, h.pw.sublist (hsub.map _), fun j hj => ?_, h.nd.sublist (hsub.map _), fun j hj => h.below j ((hsub.map _).subset hj), h.sep, h.fit, h.tot, h.late, cl_set ho haft h.cl⟩
  by_cases hij : i' = j
  · subst hij
    have h1 : (listed.setIfInBounds i' true).getD i' true = true := by
      have hil : i' < listed.size := by omega
      simp [Array.getD_eq_getD_getElem?, hil]
    rw [h1]
    have hb := h.below i' (by simp)
    have hn := (List.nodup_append.1 hnd)
    constructor
    · intro h'; cases h'
    · rintro (h' | h')
      · exfalso
        rw [List.map_append, List.mem_append] at h'
        rcases h' with h' | h'
        · exact hn.2.2 i' h' i' (by simp) rfl
        · exact (List.nodup_cons.1 hn.2.1).1 h'
      · omega
  · rw [getD_set_ne true hij, h.list j hj]
    simp only [List.map_append, List.map_cons, List.mem_append, List.mem_cons]
    constructor
    · rintro ((h' | h' | h') | h')
      · exact .inl (.inl h')
      · exact absurd h'.symm hij
      · exact .inl (.inr h')
      · exact .inr h'
    · rintro ((h' | h') | h')
      · exact .inl (.inl h')
      · exact .inl (.inr (.inr h'))
      · exact .inr h'

/-- The next one: of a part that is under way, or that begins. -/
theorem at_next {E0 : Env} {ops : Array Oper} {tab : List (List Nat)} {Q : APost} {listed : Array Bool} {a : Act} {w : World} {rem : List (Nat × Tr)} {rest : List (List AInstr)} {b : Nat} (htab : tabOK ops tab = true) (h : At P n0 E0 ops tab Q listed a w rem rest b) (hls : listed.size = ops.size)
    {next : Act → World → Prop} {i : Nat} (hi : i ∈ Region.ready .any ops listed) (hk : ∀ a' w', (∃ rem' rest' b', At P n0 E0 ops tab Q (listed.setIfInBounds i true) a' w' rem' rest' b') → next a' w') : wpOp P ops (lft n0 E0 Q) i next a w := by
  by_cases hne : rem = []
  case neg => exact at_rem htab h hls hne hi hk
  subst hne
  obtain ⟨h0, o, ho, haft⟩ := mem_ready.1 hi
  have his : i < ops.size := (Array.getElem?_eq_some_iff.1 ho).1
  obtain ⟨σ, σe, E, hch, hwd, hrl, hle⟩ := h.ex
  simp only [Chain] at hch
  subst hch
  have hs := h.sep
  have ht := h.tot
  cases rest with
  | nil =>
    exfalso
    have := (h.list i his).1 h0
    simp at this ht
    omega
  | cons s rest =>
    simp only [sepOK, Bool.and_eq_true] at hs
    simp only [List.flatten_cons, List.length_append] at ht
    have hlate : ∀ j, b + s.length ≤ j → j < ops.size → ∀ i, i < b + s.length → anT tab j i = true := by
      intro j hj hjs i hi
      have := List.all_eq_true.1 hs.1.2 j (List.mem_range.2 hjs)
      simp only [Bool.or_eq_true, decide_eq_true_eq] at this
      rcases this with h' | h'
      · omega
      · exact List.all_eq_true.1 h' i (List.mem_range.2 hi)
    have hfit' : ∀ (k : Nat) (ins : AInstr), rest.flatten[k]? = some ins → ∃ o, ops[b + s.length + k]? = some o ∧ fitI P ops ins o = true := by
      intro k ins hk
      have := h.fit (s.length + k) ins (by rw [List.flatten_cons, List.getElem?_append_right (by omega)]; rw [← hk]; congr 1; omega)
      rwa [show b + (s.length + k) = b + s.length + k from by omega] at this
    have hfits : ∀ (k : Nat) (ins : AInstr), s[k]? = some ins → ∃ o, ops[b + k]? = some o ∧ fitI P ops ins o = true := by
      intro k ins hk
      refine h.fit k ins ?_
      have hkl : k < s.length := by
        rcases Nat.lt_or_ge k s.length with h' | h'
        · exact h'
        · rw [List.getElem?_eq_none h'] at hk; cases hk
      rw [List.flatten_cons, List.getElem?_append_left hkl]; exact hk
    by_cases h1 : ∃ ins, s = [ins]
    · obtain ⟨ins, rfl⟩ := h1
      have hib : i = b := by
        rcases (h.list i his).1 h0 with h' | h'
        · simp at h'
        · rcases Nat.lt_or_ge b i with h2 | h2
          · exfalso
            have hl := hlate i (by simp; omega) his b (by simp)
            have := tab_listed htab h.cl i b hl (.inr ⟨o, ho, haft⟩)
            rw [← getD_tf (by omega), (h.list b (by omega)).2 (.inr (Nat.le_refl _))] at this; cases this
          · omega
      subst hib
      obtain ⟨o', ho', hf⟩ := hfits 0 ins rfl
      rw [Nat.add_zero, ho] at ho'; cases ho'
      have hat : ∀ (E' : Env) (a' : Act) (w' : World) (fr' : List AV) (H' : AH), WD P tab rest (i + 1) (Q .normal) fr' H' → LeN n0 E0 E' → Sim E' w' H' → RepL E' fr' a'.tmps → a'.defers = [] → next a' w' := by
        intro E' a' w' fr' H' g1 g2 g3 g4 g5
        refine hk a' w' ⟨[], rest, i + 1, ⟨⟨fr', H', fun _ => false⟩, _, E', rfl, g1, ⟨g3, g4, g5, fun r hr => by cases hr⟩, g2⟩, .nil, fun j hj => ?_, List.nodup_nil, fun j hj => by simp at hj, hs.2, hfit', by simp only [List.length_cons, List.length_nil] at ht; omega, hlate, cl_set ho haft h.cl⟩
        by_cases hij : i = j
        · subst hij
          have hil : i < listed.size := by omega
          simp [Array.getD_eq_getD_getElem?, hil]
        · rw [getD_set_ne true hij, h.list j hj]
          simp
          omega
      have hwd : RA P [ins] (WD P tab rest (i + 1) (Q .normal)) σ.fr σ.H := hwd
      have step : stepA P ins (WD P tab rest (i + 1) (Q .normal)) σ.fr σ.H → o.wp P a w next (lft n0 E0 Q) := fun hst =>
        step_ok hf hrl.sim hrl.rep hrl.defers hle hst fun E' fr' H' a' w' g1 g2 g3 g4 g5 => hat E' a' w' fr' H' g1 g2 g3 g4 g5
      unfold RA at hwd
      cases hig : ins.guard with
      | none =>
        rw [hig] at hwd
        exact wpOp_go ho hf hrl (fun g want hg => by rw [hig] at hg; cases hg) (step hwd)
      | some gw =>
        obtain ⟨g, want⟩ := gw
        rw [hig] at hwd
        have skip : ((∃ b, σ.fr[g]? = some (.bool b) ∧ b ≠ want) ∨ σ.fr[g]? = some (.tuple [])) → WD P tab rest (i + 1) (Q .normal) (setA σ.fr ins.dst (.tuple [])) σ.H → wpOp P ops (lft n0 E0 Q) i next a w := fun hsk hno =>
          wpOp_skip ho hf hrl hig hsk (hat E _ w _ _ hno hle hrl.sim (by rw [← fitI_dst hf]; exact put_rep hrl.rep (rep_undef E) _) (put_defers hrl.defers _ _))
        rcases hwd with ⟨bv, hb, hyes, hno⟩ | ⟨hb, hno⟩
        · by_cases hbw : bv = want
          · exact wpOp_go ho hf hrl (fun g' want' hg => by rw [hig] at hg; cases hg; rw [← hbw]; exact hb) (step (hyes hbw))
          · exact skip (.inl ⟨bv, hb, hbw⟩) (hno hbw)
        · exact skip (.inr hb) hno
    · have hwd' : ∃ m, RE P tab s b σ.H.length [] (WD P tab rest (b + s.length) (Q .normal)) σ.fr (σ.H ++ List.replicate m none) := by
        match s, h1, hs, hwd with
        | [], _, hs, _ => exact absurd hs.1.1 (by simp)
        | [ins], h1, _, _ => exact absurd ⟨ins, rfl⟩ h1
        | x :: y :: z, _, _, hwd => exact hwd
      obtain ⟨m, hre⟩ := hwd'
      obtain ⟨trs, σe, g1, g2, g3, g4⟩ := RE_chain (n0 := n0) (E0 := E0) (QQ := lft n0 E0 Q) s b σ.H.length [] σ.fr _ hfits hre
      have hpw := conf_pairs _ g4
      rw [List.nil_append] at hpw
      have hmem : ∀ j, j ∈ trs.map Prod.fst ↔ b ≤ j ∧ j < b + s.length := fun j => by rw [g3, List.mem_range'_1]
      have hat : At P n0 E0 ops tab Q listed a w trs rest (b + s.length) := by
        refine ⟨⟨⟨σ.fr, σ.H ++ List.replicate m none, fun r => decide (σ.H.length ≤ r)⟩, σe, E, g1, g2, ⟨hrl.sim.reserves m, hrl.rep, hrl.defers, fun r hr => ?_⟩, hle⟩, hpw, fun j hj => ?_, ?_, fun j hj => ((hmem j).1 hj).2, hs.2, hfit', by omega, hlate, h.cl⟩
        · simp only [decide_eq_true_eq] at hr
          cases hρ : E.ρ r with
          | none => rfl
          | some x => have := hrl.sim.dom r x hρ; omega
        · rw [h.list j hj, hmem j]
          simp
          omega
        · rw [g3]; exact List.nodup_range'
      have hne : trs ≠ [] := by
        intro e
        subst e
        have hl : s.length = 0 := by
          have := congrArg List.length g3
          simpa using this.symm
        have : s = [] := List.length_eq_zero_iff.1 hl
        subst this
        exact absurd hs.1.1 (by simp)
      exact at_rem htab hat hls hne hi hk

theorem dregE_go {E0 : Env} {ops : Array Oper} {tab : List (List Nat)} {Q : APost} (htab : tabOK ops tab = true) : ∀ (fuel : Nat) (listed : Array Bool) (a : Act) (w : World), listed.size = ops.size → (List.range ops.size).countP (fun j => !listed.getD j true) ≤ fuel →
    (∃ rem rest b, At P n0 E0 ops tab Q listed a w rem rest b) → wpAny P .any ops (lft n0 E0 Q) fuel listed a w := by
  have ready0 : ∀ (listed : Array Bool), listed.size = ops.size → Region.ready .any ops listed = [] → ∀ j, j < ops.size → listed.getD j true = true := by
    intro listed hls hr j
    induction j using Nat.strongRecOn with
    | ind j ih =>
      intro hj
      cases hlj : listed.getD j true with
      | true => rfl
      | false =>
        have ho := Array.getElem?_eq_getElem hj
        have hm : j ∈ Region.ready .any ops listed := mem_ready.2 ⟨hlj, _, ho, fun e he hb => by
          have ht := htab
          unfold tabOK at ht
          simp only [Bool.and_eq_true] at ht
          have h2 := List.all_eq_true.1 ht.2 j (List.mem_range.2 hj)
          simp only [ho, Bool.and_eq_true] at h2
          have h3 := Array.all_eq_true_iff_forall_mem.1 h2.1 e he
          have hlt : e.on < j := by simpa [hb] using h3
          rw [← getD_tf (by omega)]
          exact ih e.on hlt (by omega)⟩
        rw [hr] at hm; cases hm
  intro fuel
  induction fuel with
  | zero =>
    rintro listed a w hls hcnt ⟨rem, rest, b, hat⟩
    have hall : ∀ j, j < ops.size → listed.getD j true = true := by
      intro j hj
      have h0 : (List.range ops.size).countP (fun j => !listed.getD j true) = 0 := by omega
      have := List.countP_eq_zero.1 h0 j (List.mem_range.2 hj)
      simpa using this
    refine ⟨?_, at_end hat hall⟩
    cases hr : Region.ready .any ops listed with
    | nil => rfl
    | cons x xs =>
      have hx : x ∈ Region.ready .any ops listed := by rw [hr]; simp
      obtain ⟨h0, o, ho, _⟩ := mem_ready.1 hx
      have := hall x (Array.getElem?_eq_some_iff.1 ho).1
      rw [this] at h0; cases h0
  | succ fuel ih =>
    rintro listed a w hls hcnt ⟨rem, rest, b, hat⟩
    refine ⟨fun hr => at_end hat (ready0 listed hls hr), fun i hi => ?_⟩
    obtain ⟨h0, o, ho, haft⟩ := mem_ready.1 hi
    have his : i < ops.size := (Array.getElem?_eq_some_iff.1 ho).1
    refine at_next htab hat hls hi fun a' w' hx => ih _ a' w' (by simp [hls]) ?_ hx
    have := countP_drop (p := fun j => !listed.getD j true) (q := fun j => !(listed.setIfInBounds i true).getD j true) (List.range ops.size) i (List.mem_range.2 his) (fun j hj => by
      by_cases hij : i = j
      · subst hij
        have hil : i < listed.size := by omega
        simp [Array.getD_eq_getD_getElem?, hil] at hj
      · rw [getD_set_ne true hij] at hj; exact hj) (by simp [h0]) (by
        have hil : i < listed.size := by omega
        simp [Array.getD_eq_getD_getElem?, hil])
    omega

/-- THE RULE OF DRAWN REGIONS. -/
theorem W_dregE {segs : List (List AInstr)} {tab : List (List Nat)} {Q : APost} {fr : List AV} {H : AH} (h : WD P tab segs 0 (Q .normal) fr H) : W P n0 (.dregE segs tab) Q fr H := by
  intro c E w a hf hs hr hd
  cases c <;> try (simp only [fitC, Bool.false_eq_true] at hf; done)
  rename_i id ops draw
  cases draw <;> simp only [fitC, Bool.false_eq_true, Bool.and_eq_true] at hf
  obtain ⟨hm, hfit, htab, hsep⟩ := hf
  obtain ⟨hlen, hget⟩ := fitOps_get hfit
  refine wp_region_any hm ?_
  refine dregE_go htab ops.size _ a _ (by simp) (Nat.le_trans (List.countP_le_length) (by simp)) ⟨[], segs, 0, ⟨⟨fr, H, fun _ => false⟩, _, E, rfl, h, ⟨?_, hr, hd, fun r hr => by cases hr⟩, LeN.refl _ _⟩, .nil, fun j hj => ?_, List.nodup_nil, fun j hj => by simp at hj, hsep, fun k ins hk => ?_, by rw [hlen]; simp, fun j _ _ i hi => by omega, fun j o hj hl => ?_⟩
  · exact ⟨hs.os, hs.tape, hs.output, hs.frz, hs.disj, hs.dom, fun r o h => by
      rcases hs.obj r o h with h | ⟨x, hx, hl⟩
      · exact .inl h
      · exact .inr ⟨x, hx, ⟨hl.t, hl.pos, hl.out, hl.blk, hl.sz, hl.fits⟩⟩, hs.inj⟩
  · simp [Array.getD_eq_getD_getElem?, Array.getElem?_replicate, hj]
  · have hkl : k < segs.flatten.length := by
      rcases Nat.lt_or_ge k segs.flatten.length with h' | h'
      · exact h'
      · rw [List.getElem?_eq_none h'] at hk; cases hk
    have hko : k < ops.size := by rw [hlen] at hkl; simpa using hkl
    have ho := Array.getElem?_eq_getElem hko
    obtain ⟨ins', h1, h2⟩ := hget k ops[k] (by simp)
    rw [hk] at h1; cases h1
    exact ⟨ops[k], by simp [ho], h2⟩
  · simp [Array.getD_eq_getD_getElem?, Array.getElem?_replicate] at hl
    split at hl <;> simp at hl
end
end Go.Proofs.Ytemjlopoffjmpaa.Abs
