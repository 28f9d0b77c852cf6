/-
  The abstract layer, part 33: a region that draws its order, in an order of its own: what is to be shown.
-/
import Derived.Test.YtemjlopoffjmpaaGreatSOAbs40
set_option linter.unusedSimpArgs false
set_option linter.unusedVariables false
namespace Go.Proofs.YtemjlopoffjmpaaGreat.Abs
open Go
abbrev LogE := Nat × List Loc × List Loc
def logOf (x : Nat × Tr) : LogE := (x.1, x.2.R, x.2.W)
def indepB (a b : LogE) : Bool := a.2.2.all (fun l => !b.2.1.contains l && !b.2.2.contains l) && b.2.2.all fun l => !a.2.1.contains l
def confOK (tab : List (List Nat)) : List LogE → Bool
 | [] => true
 | a :: l => l.all (fun b => anT tab b.1 a.1 || indepB a b) && confOK tab l
def stepE (P : Program) (op : AOp) (d : Option Nat) (c : Nat) (fr : List AV) (H : AH) (K : List Loc → List Loc → Nat → List AV → AH → Prop) : Prop :=
 match op with
 | .call f args => ∃ (rs : List Nat) (k : Nat) (x : AV) (H1 : AH), rs.Nodup ∧ (∀ r ∈ rs, r < c) ∧ c + k ≤ H.length ∧ H1.length = rs.length + k ∧
  C P f (renL (toCallee rs) (args.map (evalA fr))) (rs.map fun r => (H.at r).map (renO (toCallee rs))) (fun y G => y = x ∧ G = H1) ∧
  K ((rs ++ List.range' c k).map .con) ((rs ++ List.range' c k).map .con ++ (rs ++ List.range' c k).map .len) (c + k) (setA fr d (ren (toCl (rs ++ List.range' c k)) x))
    (setAll H (rs ++ List.range' c k) (H1.map fun o => o.map (renO (toCl (rs ++ List.range' c k)))))
 | .store n p x => ∃ (r i j tot : Nat) (cs e : List AV) (o : AObj), evalA fr p = .ptr r i j tot ∧ cellsOf (evalA fr x) = some cs ∧ liveO H r tot = some o ∧ o[i]? = some e ∧ (cs.length = n ∧ j + n ≤ e.length ∧ cs.all cellA = true) ∧ r < c ∧
  K [.con r] [.con r] c (setA fr d .top) (H.set r (some (o.set i (lay e j cs))))
 | .append sz bytes zero x y => ∃ (r len : Nat) (news : List (List AV)) (o : AObj), evalA fr x = .own r sz 0 len len ∧ srcOf H (evalA fr y) = some news ∧ liveO H r len = some o ∧ (news.all (fun e => decide (e.length = sz)) = true ∧ (len + news.length) * bytes ≤ 1000000000000 ∧ len + news.length ≤ 1000000000) ∧ r < c ∧
  K (.con r :: refC (evalA fr y)) [.con r, .len r] c (setA fr d (.own r sz 0 (len + news.length) (len + news.length))) (H.set r (some (o ++ news)))
 | .calld _ _ => False
 | .eqnil _ _ => False
 | .bad => False
 | op =>
   if freshOp op then ∃ (v : AV) (o : AObj), aop1 op (evalA fr) [] = some (v, [some o]) ∧ c < H.length ∧
    K [.con c] [.con c, .len c] (c + 1) (setA fr d (ren (toCl [c]) v)) (H.set c (some o))
   else ∃ v, aop0 op (evalA fr) H = some v ∧ K (hread op (evalA fr)) [] c (setA fr d v) H
def stepF (P : Program) (op : AOp) (d : Option Nat) (c : Nat) (fr : List AV) (H : AH) (late : List Loc → List Loc → Prop) (K : List Loc → List Loc → Nat → List AV → AH → Prop) : Prop :=
 match op with
 | .call f args => ∃ (rs : List Nat) (k : Nat) (K0 : AV → AH → Prop), rs.Nodup ∧ (∀ r ∈ rs, r < c) ∧ c + k ≤ H.length ∧ late ((rs ++ List.range' c k).map .con) ((rs ++ List.range' c k).map .con ++ (rs ++ List.range' c k).map .len) ∧
  C P f (renL (toCallee rs) (args.map (evalA fr))) (rs.map fun r => (H.at r).map (renO (toCallee rs))) K0 ∧
  ∀ y G, K0 y G → G.length = rs.length + k ∧ K ((rs ++ List.range' c k).map .con) ((rs ++ List.range' c k).map .con ++ (rs ++ List.range' c k).map .len) (c + k) (setA fr d (ren (toCl (rs ++ List.range' c k)) y))
    (setAll H (rs ++ List.range' c k) (G.map fun o => o.map (renO (toCl (rs ++ List.range' c k)))))
 | _ => False
def entry (i : Nat) (ins : AInstr) (R W : List Loc) : LogE := (i, slotsL ins ++ R, dstL ins.dst ++ W)
def Late (tab : List (List Nat)) (lg : List LogE) (i : Nat) (ins : AInstr) (rest : List (Nat × AInstr)) (R W : List Loc) : Prop :=
 confOK tab (lg ++ [entry i ins R W]) = true ∧ rest.all (fun y => anT tab y.1 i) = true
def RE (P : Program) (tab : List (List Nat)) : List (Nat × AInstr) → Nat → List LogE → (List AV → AH → Prop) → List AV → AH → Prop
 | [], _, lg, K, fr, H => confOK tab lg = true ∧ K fr H
 | (i, ins) :: rest, c, lg, K, fr, H =>
   match ins.guard with
   | none => stepE P ins.op ins.dst c fr H (fun R W c' fr' H' => RE P tab rest c' (lg ++ [entry i ins R W]) K fr' H') ∨
    stepF P ins.op ins.dst c fr H (Late tab lg i ins rest) (fun R W c' fr' H' => RE P tab rest c' (lg ++ [entry i ins R W]) K fr' H')
   | some (g, want) => guardA (fr[g]?) want (stepE P ins.op ins.dst c fr H fun R W c' fr' H' => RE P tab rest c' (lg ++ [entry i ins R W]) K fr' H')
    (RE P tab rest c (lg ++ [(i, [.slot g], dstL ins.dst)]) K (setA fr ins.dst (.tuple [])) H)
section
variable {P : Program} {n0 : Nat}
theorem stepE_does {ins : AInstr} {o : Oper} {ops : Array Oper} {E0 : Env} {QQ : Exit → Act → World → Prop} {i c : Nat} {fr : List AV} {H : AH} {K : List Loc → List Loc → Nat → List AV → AH → Prop} (ho : ops[i]? = some o) (hf : fitI P ops ins o = true) (hop : Open fr ins.guard)
 (h : stepE P ins.op ins.dst c fr H K) : ∃ (τ : Tr) (R W : List Loc) (c' : Nat), τ.R = slotsL ins ++ R ∧ τ.W = dstL ins.dst ++ W ∧ Does P n0 E0 ops QQ i τ ⟨fr, H, fun r => decide (c ≤ r)⟩ ∧ c ≤ c' ∧
  τ.app ⟨fr, H, fun r => decide (c ≤ r)⟩ = ⟨(τ.app ⟨fr, H, fun r => decide (c ≤ r)⟩).fr, (τ.app ⟨fr, H, fun r => decide (c ≤ r)⟩).H, fun r => decide (c' ≤ r)⟩ ∧
  K R W c' (τ.app ⟨fr, H, fun r => decide (c ≤ r)⟩).fr (τ.app ⟨fr, H, fun r => decide (c ≤ r)⟩).H := by
 obtain ⟨d, gd, op⟩ := ins
 have dflt : ((if freshOp op then ∃ (v : AV) (o : AObj), aop1 op (evalA fr) [] = some (v, [some o]) ∧ c < H.length ∧
  K [.con c] [.con c, .len c] (c + 1) (setA fr d (ren (toCl [c]) v)) (H.set c (some o))
  else ∃ v, aop0 op (evalA fr) H = some v ∧ K (hread op (evalA fr)) [] c (setA fr d v) H)) → ∃ (τ : Tr) (R W : List Loc) (c' : Nat), τ.R = slotsL ⟨d, gd, op⟩ ++ R ∧ τ.W = dstL d ++ W ∧ Does P n0 E0 ops QQ i τ ⟨fr, H, fun r => decide (c ≤ r)⟩ ∧ c ≤ c' ∧
   τ.app ⟨fr, H, fun r => decide (c ≤ r)⟩ = ⟨(τ.app ⟨fr, H, fun r => decide (c ≤ r)⟩).fr, (τ.app ⟨fr, H, fun r => decide (c ≤ r)⟩).H, fun r => decide (c' ≤ r)⟩ ∧
   K R W c' (τ.app ⟨fr, H, fun r => decide (c ≤ r)⟩).fr (τ.app ⟨fr, H, fun r => decide (c ≤ r)⟩).H := by
  intro h
  split at h
  ·rename_i hfo
   obtain ⟨v, ob, hv, hc, hk⟩ := h
   refine ⟨_, [.con c], [.con c, .len c], c + 1, rfl, rfl, Does.fresh ho hf hop hfo hv hc (by simp), by omega, ?_, hk⟩
   simp only [Tr.app, St.mk.injEq, true_and]
   funext r
   by_cases h1 : r = c
   ·subst h1; simp
   ·by_cases h2 : c ≤ r
    ·have : c + 1 ≤ r := by omega
     simp [h1, h2, this]
    ·have : ¬ c + 1 ≤ r := by omega
     simp [h2, this]
  ·obtain ⟨v, hv, hk⟩ := h
   refine ⟨_, hread op (evalA fr), [], c, rfl, by simp, Does.val ho hf hop hv, by omega, ?_, hk⟩
   simp [Tr.app]
 cases op
 case call f args =>
  obtain ⟨rs, k, x, H1, h1, h2, h3, h4, h5, h6⟩ := h
  have hnd : (rs ++ List.range' c k).Nodup := nodup_new h1 h2
  refine ⟨_, _, _, c + k, rfl, rfl, Does.call ho hf hop hnd (fun r hr => ?_) (fun r hr => ?_) (by simp; omega) h5, by omega, ?_, h6⟩
  ·rw [List.mem_append, List.mem_range'_1] at hr
   simp only
   rcases hr with hr | hr
   ·have := h2 r hr; omega
   ·omega
  ·rw [List.mem_range'_1] at hr
   simp; omega
  ·simp only [Tr.app, St.mk.injEq, true_and]
   exact free_new h2
 case store n p x =>
  obtain ⟨r, i', j, tot, cs, e, ob, h1, h2, h3, h4, h5, hrc, h6⟩ := h
  refine ⟨_, _, _, c, rfl, rfl, Does.store ho hf hop h1 h2 h3 h4 h5, by omega, ?_, h6⟩
  simp only [Tr.app, St.mk.injEq, true_and]
  funext r'
  by_cases h7 : r' = r
  ·subst h7
   have : ¬ c ≤ r' := by omega
   simp [this]
  ·simp [h7]
 case append sz bytes zero x y =>
  obtain ⟨r, len, news, ob, h1, h2, h3, h4, hrc, h6⟩ := h
  refine ⟨_, _, _, c, rfl, rfl, Does.append ho hf hop h1 h2 h3 h4, by omega, ?_, h6⟩
  simp only [Tr.app, St.mk.injEq, true_and]
  funext r'
  by_cases h7 : r' = r
  ·subst h7
   have : ¬ c ≤ r' := by omega
   simp [this]
  ·simp [h7]
 case calld => exact h.elim
 case eqnil => exact h.elim
 case bad => exact h.elim
 all_goals exact dflt h
inductive Run (P : Program) (n0 : Nat) (E0 : Env) (ops : Array Oper) (QQ : Exit → Act → World → Prop) (tab : List (List Nat)) (K : List AV → AH → Prop) : List Nat → List (Nat × Tr) → St → Prop
 | done (lg : List (Nat × Tr)) (σ : St) (hc : confOK tab (lg.map logOf) = true) (hk : K σ.fr σ.H) : Run P n0 E0 ops QQ tab K [] lg σ
 | exact (i : Nat) (τ : Tr) (is : List Nat) (lg : List (Nat × Tr)) (σ : St) (hd : Does P n0 E0 ops QQ i τ σ) (hr : Run P n0 E0 ops QQ tab K is (lg ++ [(i, τ)]) (τ.app σ)) : Run P n0 E0 ops QQ tab K (i :: is) lg σ
 | fork (i : Nat) (T : Tr) (F : Tr → Prop) (is : List Nat) (lg : List (Nat × Tr)) (σ : St) (hc : confOK tab ((lg ++ [(i, T)]).map logOf) = true) (hl : ∀ j ∈ is, anT tab j i = true) (hd : DoesF P n0 E0 ops QQ i T F σ)
  (hr : ∀ τ, F τ → Run P n0 E0 ops QQ tab K is (lg ++ [(i, τ)]) (τ.app σ)) : Run P n0 E0 ops QQ tab K (i :: is) lg σ
theorem RE_run {tab : List (List Nat)} {ops : Array Oper} {E0 : Env} {QQ : Exit → Act → World → Prop} {K : List AV → AH → Prop} : ∀ (is : List (Nat × AInstr)) (c : Nat) (lg : List (Nat × Tr)) (fr : List AV) (H : AH),
 (∀ x ∈ is, ∃ o, ops[x.1]? = some o ∧ fitI P ops x.2 o = true) → RE P tab is c (lg.map logOf) K fr H →
 Run P n0 E0 ops QQ tab K (is.map Prod.fst) lg ⟨fr, H, fun r => decide (c ≤ r)⟩
 | [], c, lg, fr, H, _, h => .done lg _ h.1 h.2
 | (i, ins) :: rest, c, lg, fr, H, hfit, h => by
   obtain ⟨o, ho, hf⟩ := hfit (i, ins) (by simp)
   simp only at ho hf
   have hfit' : ∀ x ∈ rest, ∃ o, ops[x.1]? = some o ∧ fitI P ops x.2 o = true := fun x hx => hfit x (by simp [hx])
   have go : Open fr ins.guard → stepE P ins.op ins.dst c fr H (fun R W c' fr' H' => RE P tab rest c' (lg.map logOf ++ [entry i ins R W]) K fr' H') →
    Run P n0 E0 ops QQ tab K (((i, ins) :: rest).map Prod.fst) lg ⟨fr, H, fun r => decide (c ≤ r)⟩ := by
    intro hop h
    obtain ⟨τ, R, W, c', h1, h2, h3, _, h4, h5⟩ := stepE_does (n0 := n0) (E0 := E0) (QQ := QQ) ho hf hop h
    refine .exact i τ _ lg _ h3 ?_
    rw [h4]
    refine RE_run rest c' _ _ _ hfit' ?_
    have e : (lg ++ [(i, τ)]).map logOf = lg.map logOf ++ [entry i ins R W] := by simp [logOf, entry, h1, h2]
    rw [e]; exact h5
   have goF : Open fr ins.guard → stepF P ins.op ins.dst c fr H (Late tab (lg.map logOf) i ins rest) (fun R W c' fr' H' => RE P tab rest c' (lg.map logOf ++ [entry i ins R W]) K fr' H') →
    Run P n0 E0 ops QQ tab K (((i, ins) :: rest).map Prod.fst) lg ⟨fr, H, fun r => decide (c ≤ r)⟩ := by
    intro hop h
    obtain ⟨d, gd, op⟩ := ins
    cases op with
    | call f args =>
      obtain ⟨rs, k, K0, h1, h2, h3, ⟨h4, h4'⟩, h5, h6⟩ := h
      have hnd : (rs ++ List.range' c k).Nodup := nodup_new h1 h2
      have hT : logOf (i, (⟨slotsL ⟨d, gd, .call f args⟩ ++ (rs ++ List.range' c k).map .con, dstL d ++ ((rs ++ List.range' c k).map .con ++ (rs ++ List.range' c k).map .len), d, .top, rs ++ List.range' c k, []⟩ : Tr)) =
       entry i ⟨d, gd, .call f args⟩ ((rs ++ List.range' c k).map .con) ((rs ++ List.range' c k).map .con ++ (rs ++ List.range' c k).map .len) := rfl
      refine .fork i ⟨slotsL ⟨d, gd, .call f args⟩ ++ (rs ++ List.range' c k).map .con, dstL d ++ ((rs ++ List.range' c k).map .con ++ (rs ++ List.range' c k).map .len), d, .top, rs ++ List.range' c k, []⟩
       (fun τ => ∃ y G, K0 y G ∧ τ = ⟨slotsL ⟨d, gd, .call f args⟩ ++ (rs ++ List.range' c k).map .con, dstL d ++ ((rs ++ List.range' c k).map .con ++ (rs ++ List.range' c k).map .len), d, ren (toCl (rs ++ List.range' c k)) y, rs ++ List.range' c k, G.map fun o => o.map (renO (toCl (rs ++ List.range' c k)))⟩)
       _ lg _ ?_ ?_ ?_ ?_
      ·rw [List.map_append, List.map_cons, List.map_nil, hT]; exact h4
      ·intro j hj
       obtain ⟨x, hx, rfl⟩ := List.mem_map.1 hj
       exact List.all_eq_true.1 h4' x hx
      ·refine DoesF.call ho hf hop hnd (fun r hr => ?_) (fun r hr => ?_) (fun y G hy => ?_) h5
       ·rw [List.mem_append, List.mem_range'_1] at hr
        simp only
        rcases hr with hr | hr
        ·have := h2 r hr; omega
        ·omega
       ·rw [List.mem_range'_1] at hr
        simp; omega
       ·have := (h6 y G hy).1
        simp; omega
      ·rintro τ ⟨y, G, hy, rfl⟩
       have hk := (h6 y G hy).2
       have e2 : Tr.app ⟨slotsL ⟨d, gd, .call f args⟩ ++ (rs ++ List.range' c k).map .con, dstL d ++ ((rs ++ List.range' c k).map .con ++ (rs ++ List.range' c k).map .len), d, ren (toCl (rs ++ List.range' c k)) y, rs ++ List.range' c k, G.map fun o => o.map (renO (toCl (rs ++ List.range' c k)))⟩ ⟨fr, H, fun r => decide (c ≤ r)⟩ =
        ⟨setA fr d (ren (toCl (rs ++ List.range' c k)) y), setAll H (rs ++ List.range' c k) (G.map fun o => o.map (renO (toCl (rs ++ List.range' c k)))), fun r => decide (c + k ≤ r)⟩ := by
        simp only [Tr.app, St.mk.injEq, true_and]
        exact free_new h2
       rw [e2]
       refine RE_run rest (c + k) _ _ _ hfit' ?_
       have e : (lg ++ [(i, (⟨slotsL ⟨d, gd, .call f args⟩ ++ (rs ++ List.range' c k).map .con, dstL d ++ ((rs ++ List.range' c k).map .con ++ (rs ++ List.range' c k).map .len), d, ren (toCl (rs ++ List.range' c k)) y, rs ++ List.range' c k, G.map fun o => o.map (renO (toCl (rs ++ List.range' c k)))⟩ : Tr))]).map logOf =
        lg.map logOf ++ [entry i ⟨d, gd, .call f args⟩ ((rs ++ List.range' c k).map .con) ((rs ++ List.range' c k).map .con ++ (rs ++ List.range' c k).map .len)] := by simp [logOf, entry]
       rw [e]; exact hk
    | _ => exact h.elim
   have skip : ∀ g want, ins.guard = some (g, want) → ((∃ b, fr[g]? = some (.bool b) ∧ b ≠ want) ∨ fr[g]? = some (.tuple [])) → RE P tab rest c (lg.map logOf ++ [(i, [.slot g], dstL ins.dst)]) K (setA fr ins.dst (.tuple [])) H →
    Run P n0 E0 ops QQ tab K (((i, ins) :: rest).map Prod.fst) lg ⟨fr, H, fun r => decide (c ≤ r)⟩ := by
    intro g want hig hs h
    have hd := Does.skip (n0 := n0) (E0 := E0) (QQ := QQ) (σ0 := ⟨fr, H, fun r => decide (c ≤ r)⟩) ho hf hig hs
    refine .exact i _ _ lg _ hd ?_
    have : Tr.app ⟨[.slot g], dstL ins.dst, ins.dst, .tuple [], [], []⟩ ⟨fr, H, fun r => decide (c ≤ r)⟩ = ⟨setA fr ins.dst (.tuple []), H, fun r => decide (c ≤ r)⟩ := by
     simp [Tr.app, setAll]
    rw [this]
    refine RE_run rest c _ _ _ hfit' ?_
    have e : (lg ++ [(i, (⟨[.slot g], dstL ins.dst, ins.dst, .tuple [], [], []⟩ : Tr))]).map logOf = lg.map logOf ++ [(i, [.slot g], dstL ins.dst)] := by simp [logOf]
    rw [e]; exact h
   unfold RE at h
   cases hig : ins.guard with
   | none =>
     rw [hig] at h
     have hop : Open fr ins.guard := fun g want hg => by rw [hig] at hg; cases hg
     rcases h with h | h
     ·exact go hop h
     ·exact goF hop h
   | some gw =>
     obtain ⟨g, want⟩ := gw
     rw [hig] at h
     rcases h with ⟨b, hb, hyes, hno⟩ | ⟨hb, hno⟩
     ·by_cases hbw : b = want
      ·exact go (fun g' want' hg => by rw [hig] at hg; cases hg; rw [← hbw]; exact hb) (hyes hbw)
      ·exact skip g want hig (.inl ⟨b, hb, hbw⟩) (hno hbw)
     ·exact skip g want hig (.inr hb) hno
def WD (P : Program) (tab : List (List Nat)) : List (List (Nat × AInstr)) → (List AV → AH → Prop) → List AV → AH → Prop
 | [], K, fr, H => K fr H
 | [(_, ins)] :: rest, K, fr, H => RA P [ins] (WD P tab rest K) fr H
 | seg :: rest, K, fr, H => ∃ m, RE P tab seg H.length [] (WD P tab rest K) fr (H ++ List.replicate m none)
theorem conf_pairs {tab : List (List Nat)} : ∀ (l : List LogE), confOK tab l = true → l.Pairwise fun a b => anT tab b.1 a.1 = true ∨ indepB a b = true
 | [], _ => .nil
 | a :: l, h => by
   simp only [confOK, Bool.and_eq_true] at h
   refine .cons (fun b hb => ?_) (conf_pairs l h.2)
   have := List.all_eq_true.1 h.1 b hb
   simpa using this
theorem indep_of {a b : Nat × Tr} (h : indepB (logOf a) (logOf b) = true) : Indep a.2 b.2 := by
 unfold indepB logOf at h
 simp only [Bool.and_eq_true, List.all_eq_true, Bool.not_eq_true'] at h
 refine ⟨fun l hl hm => ?_, fun l hl hm => ?_, fun l hl hm => ?_⟩
 ·have := (h.1 l hl).1; simp at this; exact this hm
 ·have := (h.1 l hl).2; simp at this; exact this hm
 ·have := h.2 l hl; simp at this; exact this hm
theorem Sim.reserves {E : Env} {w : World} {H : AH} (h : Sim E w H) : ∀ m, Sim E w (H ++ List.replicate m none)
 | 0 => by simpa using h
 | m + 1 => by
   have := (Sim.reserves h m).reserve
   rwa [List.append_assoc, show List.replicate m none ++ [none] = List.replicate (m + 1) (none : Option AObj) from by rw [List.replicate_succ']] at this
end
end Go.Proofs.YtemjlopoffjmpaaGreat.Abs
