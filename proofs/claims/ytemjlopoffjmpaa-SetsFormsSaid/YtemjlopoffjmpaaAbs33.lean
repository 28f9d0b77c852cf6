/-
  The abstract layer, part 33: a region that draws its order, in the order of its text: what is to be shown.
-/
import Derived.Test.YtemjlopoffjmpaaAbs32
namespace Go.Proofs.Ytemjlopoffjmpaa.Abs
open Go

abbrev LogE := Nat × List Loc × List Loc

def indepB (a b : LogE) : Bool := a.2.2.all (fun l => !b.2.1.contains l && !b.2.2.contains l) && b.2.2.all fun l => !a.2.1.contains l
def confOK (tab : List (List Nat)) : List LogE → Bool
  | [] => true
  | a :: l => l.all (fun b => anT tab b.1 a.1 || indepB a b) && confOK tab l

/-- One operation in the order of the text; c: the next object that is kept free. -/
def stepE (P : Program) (op : AOp) (d : Option Nat) (c : Nat) (fr : List AV) (H : AH) (K : List Loc → List Loc → Nat → List AV → AH → Prop) : Prop :=
  match op with
  | .call f args => ∃ (rs : List Nat) (k : Nat) (x : AV) (H1 : AH), rs.Nodup ∧ (∀ r ∈ rs, r < c) ∧ c + k ≤ H.length ∧ H1.length = rs.length + k ∧
      C P f (renL (toCallee rs) (args.map (evalA fr))) (rs.map fun r => (H.at r).map (renO (toCallee rs))) (fun y G => y = x ∧ G = H1) ∧
      K ((rs ++ List.range' c k).map .con) ((rs ++ List.range' c k).map .con ++ (rs ++ List.range' c k).map .len) (c + k) (setA fr d (ren (toCl (rs ++ List.range' c k)) x))
        (setAll H (rs ++ List.range' c k) (H1.map fun o => o.map (renO (toCl (rs ++ List.range' c k)))))
  | .store n p x => ∃ (r i j tot : Nat) (cs e : List AV) (o : AObj), evalA fr p = .ptr r i j tot ∧ cellsOf (evalA fr x) = some cs ∧ liveO H r tot = some o ∧ o[i]? = some e ∧ (cs.length = n ∧ j + n ≤ e.length ∧ cs.all cellA = true) ∧ r < c ∧
      K [.con r] [.con r] c (setA fr d .top) (H.set r (some (o.set i (lay e j cs))))
  | .calld _ _ => False
  | .eqnil _ _ => False
  | .bad => False
  | op =>
    if freshOp op then ∃ (v : AV) (o : AObj), aop1 op (evalA fr) [] = some (v, [some o]) ∧ c < H.length ∧
      K [.con c] [.con c, .len c] (c + 1) (setA fr d (ren (toCl [c]) v)) (H.set c (some o))
    else ∃ v, aop0 op (evalA fr) H = some v ∧ K (hread op (evalA fr)) [] c (setA fr d v) H

def RE (P : Program) (tab : List (List Nat)) : List AInstr → Nat → Nat → List LogE → (List AV → AH → Prop) → List AV → AH → Prop
  | [], _, _, lg, K, fr, H => confOK tab lg = true ∧ K fr H
  | ins :: rest, i, c, lg, K, fr, H =>
    match ins.guard with
    | none => stepE P ins.op ins.dst c fr H fun R W c' fr' H' => RE P tab rest (i + 1) c' (lg ++ [(i, slotsL ins ++ R, dstL ins.dst ++ W)]) K fr' H'
    | some (g, want) => guardA (fr[g]?) want (stepE P ins.op ins.dst c fr H fun R W c' fr' H' => RE P tab rest (i + 1) c' (lg ++ [(i, slotsL ins ++ R, dstL ins.dst ++ W)]) K fr' H')
        (RE P tab rest (i + 1) c (lg ++ [(i, [.slot g], dstL ins.dst)]) K (setA fr ins.dst (.tuple [])) H)

section
variable {P : Program} {n0 : Nat}

theorem stepE_does {ins : AInstr} {o : Oper} {ops : Array Oper} {E0 : Env} {QQ : Exit → Act → World → Prop} {i c : Nat} {fr : List AV} {H : AH} {K : List Loc → List Loc → Nat → List AV → AH → Prop} (ho : ops[i]? = some o) (hf : fitI P ops ins o = true) (hop : Open fr ins.guard)
    (h : stepE P ins.op ins.dst c fr H K) : ∃ (τ : Tr) (R W : List Loc) (c' : Nat), τ.R = slotsL ins ++ R ∧ τ.W = dstL ins.dst ++ W ∧ Does P n0 E0 ops QQ i τ ⟨fr, H, fun r => decide (c ≤ r)⟩ ∧ c ≤ c' ∧
      τ.app ⟨fr, H, fun r => decide (c ≤ r)⟩ = ⟨(τ.app ⟨fr, H, fun r => decide (c ≤ r)⟩).fr, (τ.app ⟨fr, H, fun r => decide (c ≤ r)⟩).H, fun r => decide (c' ≤ r)⟩ ∧
      K R W c' (τ.app ⟨fr, H, fun r => decide (c ≤ r)⟩).fr (τ.app ⟨fr, H, fun r => decide (c ≤ r)⟩).H := by
  obtain ⟨d, gd, op⟩ := ins
  have dflt : ((if freshOp op then ∃ (v : AV) (o : AObj), aop1 op (evalA fr) [] = some (v, [some o]) ∧ c < H.length ∧
      K [.con c] [.con c, .len c] (c + 1) (setA fr d (ren (toCl [c]) v)) (H.set c (some o))
    else ∃ v, aop0 op (evalA fr) H = some v ∧ K (hread op (evalA fr)) [] c (setA fr d v) H)) → ∃ (τ : Tr) (R W : List Loc) (c' : Nat), τ.R = slotsL ⟨d, gd, op⟩ ++ R ∧ τ.W = dstL d ++ W ∧ Does P n0 E0 ops QQ i τ ⟨fr, H, fun r => decide (c ≤ r)⟩ ∧ c ≤ c' ∧
      τ.app ⟨fr, H, fun r => decide (c ≤ r)⟩ = ⟨(τ.app ⟨fr, H, fun r => decide (c ≤ r)⟩).fr, (τ.app ⟨fr, H, fun r => decide (c ≤ r)⟩).H, fun r => decide (c' ≤ r)⟩ ∧
      K R W c' (τ.app ⟨fr, H, fun r => decide (c ≤ r)⟩).fr (τ.app ⟨fr, H, fun r => decide (c ≤ r)⟩).H := by
    intro h
    split at h
    · rename_i hfo
      obtain ⟨v, ob, hv, hc, hk⟩ := h
      refine ⟨_, [.con c], [.con c, .len c], c + 1, rfl, rfl, Does.fresh ho hf hop hfo hv hc (by simp), by omega, ?_, hk⟩
      simp only [Tr.app, St.mk.injEq, true_and]
      funext r
      by_cases h1 : r = c
      · subst h1; simp
      · by_cases h2 : c ≤ r
        · have : c + 1 ≤ r := by omega
          simp [h1, h2, this]
        · have : ¬ c + 1 ≤ r := by omega
          simp [h2, this]
    · obtain ⟨v, hv, hk⟩ := h
      refine ⟨_, hread op (evalA fr), [], c, rfl, by simp, Does.val ho hf hop hv, by omega, ?_, hk⟩
      simp [Tr.app]
  cases op
  case call f args =>
    obtain ⟨rs, k, x, H1, h1, h2, h3, h4, h5, h6⟩ := h
    have hnd : (rs ++ List.range' c k).Nodup := by
      rw [List.nodup_append]
      refine ⟨h1, List.nodup_range', fun a ha b hb hab => ?_⟩
      have := h2 a ha
      rw [List.mem_range'_1] at hb
      omega
    refine ⟨_, _, _, c + k, rfl, rfl, Does.call ho hf hop hnd (fun r hr => ?_) (fun r hr => ?_) (by simp; omega) h5, by omega, ?_, h6⟩
    · rw [List.mem_append, List.mem_range'_1] at hr
      simp only
      rcases hr with hr | hr
      · have := h2 r hr; omega
      · omega
    · rw [List.mem_range'_1] at hr
      simp; omega
    · simp only [Tr.app, St.mk.injEq, true_and]
      funext r
      by_cases hm : r ∈ rs ++ List.range' c k
      · have h7 : (rs ++ List.range' c k).contains r = true := by simpa using hm
        rw [h7]
        rw [List.mem_append, List.mem_range'_1] at hm
        have : ¬ c + k ≤ r := by
          rcases hm with hm | hm
          · have := h2 r hm; omega
          · omega
        simp [this]
      · have h7 : (rs ++ List.range' c k).contains r = false := by simpa using hm
        rw [h7]
        rw [List.mem_append, List.mem_range'_1] at hm
        by_cases h8 : c ≤ r
        · have : c + k ≤ r := by
            rcases Nat.lt_or_ge r (c + k) with h9 | h9
            · exact absurd (.inr ⟨h8, h9⟩) hm
            · exact h9
          simp [h8, this]
        · have : ¬ c + k ≤ r := by omega
          simp [h8, this]
  case store n p x =>
    obtain ⟨r, i', j, tot, cs, e, ob, h1, h2, h3, h4, h5, hrc, h6⟩ := h
    refine ⟨_, _, _, c, rfl, rfl, Does.store ho hf hop h1 h2 h3 h4 h5, by omega, ?_, h6⟩
    simp only [Tr.app, St.mk.injEq, true_and]
    funext r'
    by_cases h7 : r' = r
    · subst h7
      have : ¬ c ≤ r' := by omega
      simp [this]
    · simp [h7]
  case calld => exact h.elim
  case eqnil => exact h.elim
  case bad => exact h.elim
  all_goals exact dflt h

def logOf (x : Nat × Tr) : LogE := (x.1, x.2.R, x.2.W)

theorem RE_chain {tab : List (List Nat)} {ops : Array Oper} {E0 : Env} {QQ : Exit → Act → World → Prop} {K : List AV → AH → Prop} : ∀ (is : List AInstr) (i c : Nat) (lg : List LogE) (fr : List AV) (H : AH),
    (∀ (k : Nat) (ins : AInstr), is[k]? = some ins → ∃ o, ops[i + k]? = some o ∧ fitI P ops ins o = true) → RE P tab is i c lg K fr H →
    ∃ (trs : List (Nat × Tr)) (σe : St), Chain P n0 E0 ops QQ trs ⟨fr, H, fun r => decide (c ≤ r)⟩ σe ∧ K σe.fr σe.H ∧ trs.map Prod.fst = List.range' i is.length ∧ confOK tab (lg ++ trs.map logOf) = true
  | [], i, c, lg, fr, H, _, h => ⟨[], _, rfl, h.2, rfl, by simpa using h.1⟩
  | ins :: rest, i, c, lg, fr, H, hfit, h => by
    obtain ⟨o, ho, hf⟩ := hfit 0 ins rfl
    have hfit' : ∀ (k : Nat) (ins : AInstr), rest[k]? = some ins → ∃ o, ops[(i + 1) + k]? = some o ∧ fitI P ops ins o = true := by
      intro k ins' hk
      have := hfit (k + 1) ins' (by simpa using hk)
      rwa [show i + (k + 1) = i + 1 + k from by omega] at this
    rw [Nat.add_zero] at ho
    have go : Open fr ins.guard → stepE P ins.op ins.dst c fr H (fun R W c' fr' H' => RE P tab rest (i + 1) c' (lg ++ [(i, slotsL ins ++ R, dstL ins.dst ++ W)]) K fr' H') →
        ∃ (trs : List (Nat × Tr)) (σe : St), Chain P n0 E0 ops QQ trs ⟨fr, H, fun r => decide (c ≤ r)⟩ σe ∧ K σe.fr σe.H ∧ trs.map Prod.fst = List.range' i (ins :: rest).length ∧ confOK tab (lg ++ trs.map logOf) = true := by
      intro hop h
      obtain ⟨τ, R, W, c', h1, h2, h3, _, h4, h5⟩ := stepE_does (n0 := n0) (E0 := E0) (QQ := QQ) ho hf hop h
      obtain ⟨trs, σe, g1, g2, g3, g4⟩ := RE_chain rest (i + 1) c' _ _ _ hfit' h5
      refine ⟨(i, τ) :: trs, σe, ⟨h3, ?_⟩, g2, ?_, ?_⟩
      · rw [h4]; exact g1
      · simp [g3, List.range'_succ]
      · rw [← g4]
        simp [logOf, h1, h2]
    have skip : ∀ g want, ins.guard = some (g, want) → ((∃ b, fr[g]? = some (.bool b) ∧ b ≠ want) ∨ fr[g]? = some (.tuple [])) → RE P tab rest (i + 1) c (lg ++ [(i, [.slot g], dstL ins.dst)]) K (setA fr ins.dst (.tuple [])) H →
        ∃ (trs : List (Nat × Tr)) (σe : St), Chain P n0 E0 ops QQ trs ⟨fr, H, fun r => decide (c ≤ r)⟩ σe ∧ K σe.fr σe.H ∧ trs.map Prod.fst = List.range' i (ins :: rest).length ∧ confOK tab (lg ++ trs.map logOf) = true := by
      intro g want hig hs h
      have hd := Does.skip (n0 := n0) (E0 := E0) (QQ := QQ) (σ0 := ⟨fr, H, fun r => decide (c ≤ r)⟩) ho hf hig hs
      obtain ⟨trs, σe, g1, g2, g3, g4⟩ := RE_chain rest (i + 1) c _ _ _ hfit' h
      refine ⟨(i, _) :: trs, σe, ⟨hd, ?_⟩, g2, ?_, ?_⟩
      · have : Tr.app ⟨[.slot g], dstL ins.dst, ins.dst, .tuple [], [], []⟩ ⟨fr, H, fun r => decide (c ≤ r)⟩ = ⟨setA fr ins.dst (.tuple []), H, fun r => decide (c ≤ r)⟩ := by
          simp [Tr.app, setAll]
        rw [this]; exact g1
      · simp [g3, List.range'_succ]
      · rw [← g4]
        simp [logOf]
    unfold RE at h
    cases hig : ins.guard with
    | none =>
      rw [hig] at h
      exact go (fun g want hg => by rw [hig] at hg; cases hg) h
    | some gw =>
      obtain ⟨g, want⟩ := gw
      rw [hig] at h
      rcases h with ⟨b, hb, hyes, hno⟩ | ⟨hb, hno⟩
      · by_cases hbw : b = want
        · exact go (fun g' want' hg => by rw [hig] at hg; cases hg; rw [← hbw]; exact hb) (hyes hbw)
        · exact skip g want hig (.inl ⟨b, hb, hbw⟩) (hno hbw)
      · exact skip g want hig (.inr hb) hno

/-- The parts of a region, one behind the other: a part of one operation is run as it is; of more, in the order of the text, beside objects that are kept free. -/
def WD (P : Program) (tab : List (List Nat)) : List (List AInstr) → Nat → (List AV → AH → Prop) → List AV → AH → Prop
  | [], _, K, fr, H => K fr H
  | [ins] :: rest, b, K, fr, H => RA P [ins] (WD P tab rest (b + 1) K) fr H
  | seg :: rest, b, K, fr, H => ∃ m, RE P tab seg b H.length [] (WD P tab rest (b + seg.length) K) fr (H ++ List.replicate m none)

theorem conf_pairs {tab : List (List Nat)} : ∀ (l : List LogE), confOK tab l = true → l.Pairwise fun a b => anT tab b.1 a.1 = true ∨ indepB a b = true
  | [], _ => .nil
  | a :: l, h => by
    simp only [confOK, Bool.and_eq_true] at h
    refine .cons (fun b hb => ?_) (conf_pairs l h.2)
    have := List.all_eq_true.1 h.1 b hb
    simpa using this
theorem indep_of {a b : Nat × Tr} (h : indepB (logOf a) (logOf b) = true) : Indep a.2 b.2 := by
  unfold indepB logOf at h
  simp only [Bool.and_eq_true, List.all_eq_true, Bool.not_eq_true'] at h
  refine ⟨fun l hl hm => ?_, fun l hl hm => ?_, fun l hl hm => ?_⟩
  · have := (h.1 l hl).1; simp at this; exact this hm
  · have := (h.1 l hl).2; simp at this; exact this hm
  · have := h.2 l hl; simp at this; exact this hm
theorem Sim.reserves {E : Env} {w : World} {H : AH} (h : Sim E w H) : ∀ m, Sim E w (H ++ List.replicate m none)
  | 0 => by simpa using h
  | m + 1 => by
    have := (Sim.reserves h m).reserve
    rwa [List.append_assoc, show List.replicate m none ++ [none] = List.replicate (m + 1) (none : Option AObj) from by rw [List.replicate_succ']] at this
end
end Go.Proofs.Ytemjlopoffjmpaa.Abs
