/-
  The abstract layer, part 31: regions that draw their order, whose operations change the heap, each at its own places.
-/
import Derived.Test.YtemjlopoffjmpaaGreatSOAbs30
set_option linter.unusedSimpArgs false
set_option linter.unusedVariables false
namespace Go.Proofs.YtemjlopoffjmpaaGreat.Abs
open Go
inductive Loc where
 | slot (t : Nat)
 | len (r : Nat)
 | con (r : Nat)
 deriving DecidableEq
inductive Look where
 | av (x : Option AV)
 | len (n : Option Nat)
 | con (o : Option AObj) (f : Bool)
structure St where
 fr : List AV
 H : AH
 free : Nat → Bool
def St.look (σ : St) : Loc → Look
 | .slot t => .av σ.fr[t]?
 | .len r => .len ((σ.H.at r).map List.length)
 | .con r => .con (σ.H.at r) (σ.free r)
structure Tr where
 R : List Loc
 W : List Loc
 d : Option Nat
 v : AV
 rs : List Nat
 os : List (Option AObj)
def Tr.app (τ : Tr) (σ : St) : St := ⟨setA σ.fr τ.d τ.v, setAll σ.H τ.rs τ.os, fun r => σ.free r && !τ.rs.contains r⟩
structure Agree (R : List Loc) (σ σ' : St) : Prop where
 fr : σ.fr.length = σ'.fr.length
 H : σ.H.length = σ'.H.length
 on : ∀ l ∈ R, σ.look l = σ'.look l
theorem Agree.refl (R : List Loc) (σ : St) : Agree R σ σ := ⟨rfl, rfl, fun _ _ => rfl⟩
theorem Agree.trans {R : List Loc} {a b c : St} (h : Agree R a b) (h' : Agree R b c) : Agree R a c := ⟨h.fr.trans h'.fr, h.H.trans h'.H, fun l hl => (h.on l hl).trans (h'.on l hl)⟩
theorem Agree.symm {R : List Loc} {a b : St} (h : Agree R a b) : Agree R b a := ⟨h.fr.symm, h.H.symm, fun l hl => (h.on l hl).symm⟩
structure Rl (E : Env) (w : World) (a : Act) (σ : St) : Prop where
 sim : Sim E w σ.H
 rep : RepL E σ.fr a.tmps
 defers : a.defers = []
 free : ∀ r, σ.free r = true → E.ρ r = none
section
variable {P : Program} {n0 : Nat}
structure Does (P : Program) (n0 : Nat) (E0 : Env) (ops : Array Oper) (QQ : Exit → Act → World → Prop) (i : Nat) (τ : Tr) (σ0 : St) : Prop where
 snd : ∀ σ, Agree τ.R σ σ0 → ∀ (E : Env) (w : World) (a : Act) (next : Act → World → Prop), LeN n0 E0 E → Rl E w a σ → (∀ E' a' w', LeN n0 E0 E' → Rl E' w' a' (τ.app σ) → next a' w') → wpOp P ops QQ i next a w
 wf : ∀ σ, Agree τ.R σ σ0 → ∀ l, l ∉ τ.W → (τ.app σ).look l = σ.look l
 wd : ∀ t, τ.d = some t → .slot t ∈ τ.W
 wr : ∀ r ∈ τ.rs, .con r ∈ τ.W
structure DoesF (P : Program) (n0 : Nat) (E0 : Env) (ops : Array Oper) (QQ : Exit → Act → World → Prop) (i : Nat) (T : Tr) (F : Tr → Prop) (σ0 : St) : Prop where
 snd : ∀ σ, Agree T.R σ σ0 → ∀ (E : Env) (w : World) (a : Act) (next : Act → World → Prop), LeN n0 E0 E → Rl E w a σ → (∀ τ E' a' w', F τ → LeN n0 E0 E' → Rl E' w' a' (τ.app σ) → next a' w') → wpOp P ops QQ i next a w
 shape : ∀ τ, F τ → τ.R = T.R ∧ τ.W = T.W ∧ τ.d = T.d ∧ τ.rs = T.rs
 wf : ∀ τ, F τ → ∀ σ l, l ∉ T.W → (τ.app σ).look l = σ.look l
 wd : ∀ t, T.d = some t → .slot t ∈ T.W
 wr : ∀ r ∈ T.rs, .con r ∈ T.W
theorem app_fr (τ : Tr) (σ : St) : (τ.app σ).fr.length = σ.fr.length := setA_len _ _ _
theorem app_H (τ : Tr) (σ : St) : (τ.app σ).H.length = σ.H.length := setAll_length _ _ _
theorem Does.agree {E0 : Env} {ops : Array Oper} {QQ : Exit → Act → World → Prop} {i : Nat} {τ : Tr} {σ σ' : St} (h : Does P n0 E0 ops QQ i τ σ) (ha : Agree τ.R σ' σ) : Does P n0 E0 ops QQ i τ σ' :=
 ⟨fun ρ hρ => h.snd ρ (hρ.trans ha), fun ρ hρ => h.wf ρ (hρ.trans ha), h.wd, h.wr⟩
structure Indep (a b : Tr) : Prop where
 wr : ∀ l ∈ a.W, l ∉ b.R
 ww : ∀ l ∈ a.W, l ∉ b.W
 rw : ∀ l ∈ b.W, l ∉ a.R
def Chain (P : Program) (n0 : Nat) (E0 : Env) (ops : Array Oper) (QQ : Exit → Act → World → Prop) : List (Nat × Tr) → St → St → Prop
 | [], σ, σe => σ = σe
 | (i, τ) :: l, σ, σe => Does P n0 E0 ops QQ i τ σ ∧ Chain P n0 E0 ops QQ l (τ.app σ) σe
theorem setAll_comm (H : AH) : ∀ (rs rs' : List Nat) (os os' : List (Option AObj)), (∀ r ∈ rs, r ∉ rs') → setAll (setAll H rs os) rs' os' = setAll (setAll H rs' os') rs os := by
 have one : ∀ (rs : List Nat) (os : List (Option AObj)) (H : AH) (r : Nat) (o : Option AObj), r ∉ rs → setAll (H.set r o) rs os = (setAll H rs os).set r o := by
  intro rs
  induction rs with
  | nil => intro os H r o _; cases os <;> rfl
  | cons s rs ih =>
    intro os H r o hr
    simp only [List.mem_cons, not_or] at hr
    cases os with
    | nil => rfl
    | cons p os => rw [setAll, setAll, List.set_comm _ _ hr.1, ih os _ r o hr.2]
 intro rs
 induction rs generalizing H with
 | nil => intro rs' os os' _; cases os <;> rfl
 | cons s rs ih =>
   intro rs' os os' h
   cases os with
   | nil => rfl
   | cons p os =>
     rw [setAll, setAll, ih _ rs' os os' (fun r hr => h r (by simp [hr])), one rs' os' H s p (h s (by simp))]
theorem app_comm {a b : Tr} {σ : St} (hd : ∀ t, a.d = some t → b.d ≠ some t) (hr : ∀ r ∈ a.rs, r ∉ b.rs) : b.app (a.app σ) = a.app (b.app σ) := by
 unfold Tr.app
 simp only [St.mk.injEq]
 refine ⟨?_, setAll_comm _ _ _ _ _ hr, ?_⟩
 ·cases ha : a.d with
  | none => rfl
  | some t =>
    cases hb : b.d with
    | none => rfl
    | some u =>
      simp only [setA]
      exact List.set_comm _ _ (fun e => hd t ha (by rw [hb, e]))
 ·funext r
  cases σ.free r <;> cases a.rs.contains r <;> cases b.rs.contains r <;> rfl
theorem swap {E0 : Env} {ops : Array Oper} {QQ : Exit → Act → World → Prop} {i j : Nat} {a b : Tr} {σ : St} (ha : Does P n0 E0 ops QQ i a σ) (hb : Does P n0 E0 ops QQ j b (a.app σ)) (hi : Indep a b) :
 Does P n0 E0 ops QQ j b σ ∧ Does P n0 E0 ops QQ i a (b.app σ) ∧ b.app (a.app σ) = a.app (b.app σ) := by
 have h1 : Agree b.R σ (a.app σ) := ⟨(app_fr a σ).symm, (app_H a σ).symm, fun l hl => (ha.wf σ (Agree.refl _ _) l (fun hw => hi.wr l hw hl)).symm⟩
 have hb' := hb.agree h1
 have h2 : Agree a.R (b.app σ) σ := ⟨app_fr b σ, app_H b σ, fun l hl => hb'.wf σ (Agree.refl _ _) l (fun hw => hi.rw l hw hl)⟩
 exact ⟨hb', ha.agree h2, app_comm (fun t h h' => hi.ww _ (ha.wd t h) (hb.wd t h')) (fun r h h' => hi.ww _ (ha.wr r h) (hb.wr r h'))⟩
theorem chain_app {E0 : Env} {ops : Array Oper} {QQ : Exit → Act → World → Prop} {i : Nat} {T τ : Tr} {F : Tr → Prop} {σ1 σx : St} (hF : DoesF P n0 E0 ops QQ i T F σx) (hτ : F τ) : ∀ (ds : List (Nat × Tr)) (σ : St), Chain P n0 E0 ops QQ ds σ σ1 →
 (∀ x ∈ ds, Indep x.2 T) → Agree T.R σ σ1 ∧ Chain P n0 E0 ops QQ ds (τ.app σ) (τ.app σ1)
 | [], σ, h, _ => by
   simp only [Chain] at h
   subst h
   exact ⟨Agree.refl _ _, rfl⟩
 | (j, a) :: ds, σ, h, hi => by
   obtain ⟨h1, h2⟩ := h
   have hia := hi (j, a) (by simp)
   obtain ⟨h3, h4⟩ := chain_app hF hτ ds _ h2 (fun x hx => hi x (by simp [hx]))
   obtain ⟨s1, s2, s3, s4⟩ := hF.shape τ hτ
   have g1 : Agree T.R σ (a.app σ) := ⟨(app_fr a σ).symm, (app_H a σ).symm, fun l hl => (h1.wf σ (Agree.refl _ _) l (fun hw => hia.wr l hw hl)).symm⟩
   have g2 : Agree a.R (τ.app σ) σ := ⟨app_fr τ σ, app_H τ σ, fun l hl => hF.wf τ hτ σ l (fun hw => hia.rw l hw hl)⟩
   have g3 : τ.app (a.app σ) = a.app (τ.app σ) := app_comm (fun t ht ht' => hia.ww _ (h1.wd t ht) (hF.wd t (by rw [← s3]; exact ht'))) (fun r hr hr' => hia.ww _ (h1.wr r hr) (hF.wr r (by rw [← s4]; exact hr')))
   refine ⟨g1.trans h3, h1.agree g2, ?_⟩
   rw [← g3]; exact h4
theorem chain_append {E0 : Env} {ops : Array Oper} {QQ : Exit → Act → World → Prop} {σ1 σ2 : St} {es : List (Nat × Tr)} : ∀ (ds : List (Nat × Tr)) (σ : St), Chain P n0 E0 ops QQ ds σ σ1 → Chain P n0 E0 ops QQ es σ1 σ2 → Chain P n0 E0 ops QQ (ds ++ es) σ σ2
 | [], σ, h, h' => by
   simp only [Chain] at h
   subst h; exact h'
 | (j, a) :: ds, σ, h, h' => ⟨h.1, chain_append ds _ h.2 h'⟩
theorem pull {E0 : Env} {ops : Array Oper} {QQ : Exit → Act → World → Prop} {i : Nat} {τ : Tr} {post : List (Nat × Tr)} {σe : St} : ∀ (pre : List (Nat × Tr)) (σ : St), Chain P n0 E0 ops QQ (pre ++ (i, τ) :: post) σ σe →
 (∀ x ∈ pre, Indep x.2 τ) → Does P n0 E0 ops QQ i τ σ ∧ Chain P n0 E0 ops QQ (pre ++ post) (τ.app σ) σe
 | [], σ, h, _ => h
 | (j, a) :: pre, σ, h, hi => by
   obtain ⟨h1, h2⟩ := h
   obtain ⟨h3, h4⟩ := pull pre _ h2 (fun x hx => hi x (by simp [hx]))
   obtain ⟨g1, g2, g3⟩ := swap h1 h3 (hi (j, a) (by simp))
   refine ⟨g1, g2, ?_⟩
   rw [← g3]; exact h4
def anT (tab : List (List Nat)) (j i : Nat) : Bool := (tab.getD j []).contains i
theorem tab_listed {ops : Array Oper} {tab : List (List Nat)} (ht : tabOK ops tab = true) {listed : Array Bool}
 (hcl : ∀ (j : Nat) (o : Oper), ops[j]? = some o → listed.getD j false = true → ∀ e ∈ o.after, Region.binds .any e = true → listed.getD e.on false = true) :
 ∀ (j i : Nat), anT tab j i = true → (listed.getD j false = true ∨ ∃ o, ops[j]? = some o ∧ ∀ e ∈ o.after, Region.binds .any e = true → listed.getD e.on false = true) → listed.getD i false = true := by
 unfold tabOK at ht
 simp only [Bool.and_eq_true, decide_eq_true_eq] at ht
 intro j
 induction j using Nat.strongRecOn with
 | ind j ih =>
   intro i hi hj
   have hjl : j < ops.size := by
    rcases Nat.lt_or_ge j tab.length with h | h
    ·omega
    ·unfold anT at hi
     rw [List.getD_eq_getElem?_getD, List.getElem?_eq_none h] at hi
     simp at hi
   have ho := Array.getElem?_eq_getElem hjl
   have h2 := List.all_eq_true.1 ht.2 j (List.mem_range.2 hjl)
   simp only [ho, Bool.and_eq_true] at h2
   have h3 := List.all_eq_true.1 h2.2 i (by simpa [anT] using hi)
   obtain ⟨e, he, hb⟩ := Array.any_eq_true'.1 h3
   simp only [Bool.and_eq_true, Bool.or_eq_true, beq_iff_eq] at hb
   have hlt : e.on < j := by
    have := Array.all_eq_true_iff_forall_mem.1 h2.1 e he
    simpa [hb.1] using this
   have hle : listed.getD e.on false = true := by
    rcases hj with hj | ⟨o, ho', hj⟩
    ·exact hcl j _ ho hj e he hb.1
    ·rw [ho] at ho'; cases ho'; exact hj e he hb.1
   rcases hb.2 with h' | h'
   ·rw [← h']; exact hle
   ·exact ih e.on hlt i h' (.inl hle)
end
end Go.Proofs.YtemjlopoffjmpaaGreat.Abs
