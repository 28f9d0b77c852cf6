/-
  The abstract layer, part 32: what single operations do at their places.
-/
import Derived.Test.YtemjlopoffjmpaaGreatSOAbs31
set_option linter.unusedSimpArgs false
set_option linter.unusedVariables false
namespace Go.Proofs.YtemjlopoffjmpaaGreat.Abs
open Go
def refL : AV → List Loc
 | .own r _ _ _ _ => [.len r]
 | .ptr r _ _ _ => [.len r]
 | _ => []
def refC : AV → List Loc
 | .own r _ _ _ _ => [.con r]
 | .ptr r _ _ _ => [.con r]
 | _ => []
def hread (op : AOp) (ev : Opd → AV) : List Loc :=
 match op with
 | .load _ _ x => refC (ev x)
 | .convbs x => refC (ev x)
 | .nilchk x => refL (ev x)
 | .faddr _ x => refL (ev x)
 | .len _ x => refL (ev x)
 | .slicel _ x _ _ => refL (ev x)
 | .slicez x => refL (ev x)
 | .slice3 x _ _ _ => refL (ev x)
 | .iaddr _ x _ => refL (ev x)
 | .iaddra _ _ x _ => refL (ev x)
 | _ => []
theorem live_map {H H2 : AH} {r : Nat} (h : (H.at r).map List.length = (H2.at r).map List.length) (tot : Nat) {α : Type} (c : α) : (liveO H r tot).map (fun _ => c) = (liveO H2 r tot).map (fun _ => c) := by
 unfold liveO
 cases h1 : H.at r with
 | none =>
   cases h2 : H2.at r with
   | none => rfl
   | some o => rw [h1, h2] at h; cases h
 | some o =>
   cases h2 : H2.at r with
   | none => rw [h1, h2] at h; cases h
   | some o' =>
     rw [h1, h2] at h
     simp only [Option.map_some, Option.some.injEq] at h
     simp only [h]
     split <;> rfl
theorem live_some {H H2 : AH} {r : Nat} (h : (H.at r).map List.length = (H2.at r).map List.length) {tot : Nat} : (∃ o, liveO H r tot = some o) → ∃ o, liveO H2 r tot = some o := by
 rintro ⟨o, ho⟩
 have := live_map h tot ()
 rw [ho] at this
 cases h2 : liveO H2 r tot with
 | none => rw [h2] at this; cases this
 | some o' => exact ⟨o', rfl⟩
theorem live_con {H H2 : AH} {r : Nat} (h : H.at r = H2.at r) (tot : Nat) : liveO H r tot = liveO H2 r tot := by unfold liveO; rw [h]
theorem aop0_local {op : AOp} {ev : Opd → AV} {H H2 : AH} {v : AV} (hl : ∀ r, .len r ∈ hread op ev → (H.at r).map List.length = (H2.at r).map List.length) (hc : ∀ r, .con r ∈ hread op ev → H.at r = H2.at r)
 (h : aop0 op ev H = some v) : aop0 op ev H2 = some v := by
 rw [← h]
 cases op
 case load agg n x =>
  simp only [aop0]
  simp only [hread] at hc
  cases hx : ev x <;> simp only [readAt]
  rw [hx] at hc
  rw [live_con (hc _ (by simp [refC])).symm]
 case convbs x =>
  simp only [aop0]
  simp only [hread] at hc
  cases hx : ev x <;> simp only [elemsOf]
  rw [hx] at hc
  rw [live_con (hc _ (by simp [refC])).symm]
 case nilchk x =>
  simp only [aop0]
  simp only [hread] at hl
  cases hx : ev x <;> simp only []
  rw [hx] at hl
  exact live_map (hl _ (by simp [refL])).symm _ _
 case faddr off x =>
  simp only [aop0]
  simp only [hread] at hl
  cases hx : ev x <;> simp only []
  rw [hx] at hl
  exact live_map (hl _ (by simp [refL])).symm _ _
 case len str x =>
  simp only [hread] at hl
  cases str <;> simp only [aop0]
  cases hx : ev x <;> simp only []
  rw [hx] at hl
  exact live_map (hl _ (by simp [refL])).symm _ _
 case slicel sz x lo hi =>
  simp only [aop0]
  simp only [hread] at hl
  cases hx : ev x <;> simp only []
  rw [hx] at hl
  rename_i r sz' off len tot
  have hl' := hl r (by simp [refL])
  cases h1 : liveO H r tot with
  | none =>
    cases h2 : liveO H2 r tot with
    | none => rfl
    | some o => obtain ⟨o', ho'⟩ := live_some hl'.symm ⟨o, h2⟩; rw [h1] at ho'; cases ho'
  | some o =>
    obtain ⟨o', ho'⟩ := live_some hl' ⟨o, h1⟩
    rw [ho']
 case slicez x =>
  simp only [aop0]
  simp only [hread] at hl
  cases hx : ev x <;> simp only []
  rw [hx] at hl
  exact live_map (hl _ (by simp [refL])).symm _ _
 case slice3 x lo hi mx =>
  simp only [aop0]
  simp only [hread] at hl
  have : roomOf H (ev x) = roomOf H2 (ev x) := by
   cases hx : ev x <;> simp only [roomOf]
   rw [hx] at hl
   exact live_map (hl _ (by simp [refL])) _ _
  rw [this]
 case iaddr sz x i =>
  simp only [hread] at hl
  simp only [aop0]
  generalize ev i = y at *
  cases hx : ev x with
  | own r a b c e =>
    rw [hx] at hl
    have hl' := hl r (by simp [refL])
    cases y <;> first | rfl | (simp only []; rw [live_map hl'.symm])
  | _ => cases y <;> rfl
 case iaddra len sz x i =>
  simp only [hread] at hl
  simp only [aop0]
  generalize ev i = y at *
  cases hx : ev x with
  | ptr r a b c =>
    rw [hx] at hl
    have hl' := hl r (by simp [refL])
    cases y <;> first | rfl | (simp only []; rw [live_map hl'.symm])
  | _ => cases y <;> rfl
 all_goals rfl
section
variable {P : Program} {n0 : Nat}
theorem look_at {σ σ' : St} {r : Nat} (h : σ.look (.con r) = σ'.look (.con r)) : σ.H.at r = σ'.H.at r ∧ σ.free r = σ'.free r := by
 simpa [St.look] using h
theorem look_len {σ σ' : St} {r : Nat} (h : σ.look (.len r) = σ'.look (.len r)) : (σ.H.at r).map List.length = (σ'.H.at r).map List.length := by
 simpa [St.look] using h
theorem look_slot {σ σ' : St} {t : Nat} (h : σ.look (.slot t) = σ'.look (.slot t)) : σ.fr[t]? = σ'.fr[t]? := by
 simpa [St.look] using h
theorem look_app {τ : Tr} {σ : St} {l : Loc} (hd : ∀ t, τ.d = some t → l ≠ .slot t) (hr : ∀ r ∈ τ.rs, l ≠ .con r ∧ l ≠ .len r) : (τ.app σ).look l = σ.look l := by
 cases l with
 | slot t =>
   simp only [St.look, Tr.app]
   rw [setA_ne (fun h => hd t h rfl)]
 | len r =>
   simp only [St.look, Tr.app, AH.at]
   rw [setAll_not _ _ _ _ (fun h => (hr r h).2 rfl)]
 | con r =>
   have hn : r ∉ τ.rs := fun h => (hr r h).1 rfl
   simp only [St.look, Tr.app, AH.at]
   rw [setAll_not _ _ _ _ hn]
   have : τ.rs.contains r = false := by simpa using hn
   rw [this]; simp
theorem wpOp_go {ops : Array Oper} {i : Nat} {o : Oper} {ins : AInstr} {QQ : Exit → Act → World → Prop} {next : Act → World → Prop} {E : Env} {w : World} {a : Act} {σ : St} (ho : ops[i]? = some o) (hf : fitI P ops ins o = true) (rl : Rl E w a σ)
 (hg : ∀ g want, ins.guard = some (g, want) → σ.fr[g]? = some (.bool want)) (h : o.wp P a w next QQ) : wpOp P ops QQ i next a w := by
 have hgf : fitG ops ins.guard o.guard = true := by
  unfold fitI at hf
  rw [Bool.and_eq_true, Bool.and_eq_true] at hf
  exact hf.1.2
 unfold wpOp
 rw [ho]
 simp only []
 cases hig : ins.guard with
 | none =>
   rw [hig] at hgf
   cases hog : o.guard with
   | some g => rw [hog] at hgf; simp [fitG] at hgf
   | none =>
     rw [if_pos (by simp [Region.wanted, hog])]
     exact .inl h
 | some g =>
   obtain ⟨s, want⟩ := g
   have hs := hg s want hig
   rw [hig] at hgf
   cases hog : o.guard with
   | none => rw [hog] at hgf; simp [fitG] at hgf
   | some g' =>
     obtain ⟨j, want'⟩ := g'
     rw [hog] at hgf
     simp only [fitG, Bool.and_eq_true, beq_iff_eq, decide_eq_true_eq] at hgf
     obtain ⟨rfl, hj⟩ := hgf
     have hy : yielded ops a.tmps j = some want := yielded_bool rl.rep hs hj
     rw [if_pos (by simp [Region.wanted, hog, hy])]
     exact .inl h
theorem wpOp_skip {ops : Array Oper} {i : Nat} {o : Oper} {ins : AInstr} {QQ : Exit → Act → World → Prop} {next : Act → World → Prop} {E : Env} {w : World} {a : Act} {σ : St} {g : Nat} {want : Bool} (ho : ops[i]? = some o) (hf : fitI P ops ins o = true) (rl : Rl E w a σ)
 (hig : ins.guard = some (g, want)) (hs : (∃ b, σ.fr[g]? = some (.bool b) ∧ b ≠ want) ∨ σ.fr[g]? = some (.tuple [])) (h : next (a.put o.dst undef) w) : wpOp P ops QQ i next a w := by
 have hgf : fitG ops ins.guard o.guard = true := by
  unfold fitI at hf
  rw [Bool.and_eq_true, Bool.and_eq_true] at hf
  exact hf.1.2
 unfold wpOp
 rw [ho]
 simp only []
 rw [hig] at hgf
 cases hog : o.guard with
 | none => rw [hog] at hgf; simp [fitG] at hgf
 | some g' =>
   obtain ⟨j, want'⟩ := g'
   rw [hog] at hgf
   simp only [fitG, Bool.and_eq_true, beq_iff_eq, decide_eq_true_eq] at hgf
   obtain ⟨rfl, hj⟩ := hgf
   have hw : Region.wanted o (yielded ops a.tmps) = false := by
    rcases hs with ⟨b, hb, hne⟩ | hb
    ·have hy : yielded ops a.tmps j = some b := yielded_bool rl.rep hb hj
     simp only [Region.wanted, hog, hy]
     cases b <;> cases want <;> first | rfl | exact absurd rfl hne
    ·have hy : yielded ops a.tmps j = none := yielded_undef rl.rep hb hj
     simp only [Region.wanted, hog, hy]
     rfl
   rw [if_neg (by rw [hw]; simp)]
   exact h
theorem fitI_dst {ops : Array Oper} {ins : AInstr} {o : Oper} (hf : fitI P ops ins o = true) : ins.dst = o.dst := by
 unfold fitI at hf
 rw [Bool.and_eq_true, Bool.and_eq_true] at hf
 simpa using hf.1.1
def Open (fr : List AV) (g : Option (Nat × Bool)) : Prop := ∀ s want, g = some (s, want) → fr[s]? = some (.bool want)
def slotsL (ins : AInstr) : List Loc := (slotsI ins).map .slot
def dstL (d : Option Nat) : List Loc := d.toList.map .slot
theorem agree_ev {ins : AInstr} {R : List Loc} {σ σ0 : St} (h : Agree R σ σ0) (hR : ∀ l ∈ slotsL ins, l ∈ R) : (∀ x ∈ opdsA ins.op, evalA σ.fr x = evalA σ0.fr x) ∧ ∀ s want, ins.guard = some (s, want) → σ.fr[s]? = σ0.fr[s]? := by
 have hs : ∀ t ∈ slotsI ins, σ.fr[t]? = σ0.fr[t]? := fun t ht => look_slot (h.on _ (hR _ (List.mem_map.2 ⟨t, ht, rfl⟩)))
 exact ⟨evalA_congr fun t ht => hs t (List.mem_append_left _ ht), fun s want hg => hs s (List.mem_append_right _ (by rw [hg]; simp))⟩
theorem Does.skip {E0 : Env} {ops : Array Oper} {QQ : Exit → Act → World → Prop} {i : Nat} {o : Oper} {ins : AInstr} {σ0 : St} {g : Nat} {want : Bool} (ho : ops[i]? = some o) (hf : fitI P ops ins o = true) (hig : ins.guard = some (g, want))
 (hs : (∃ b, σ0.fr[g]? = some (.bool b) ∧ b ≠ want) ∨ σ0.fr[g]? = some (.tuple [])) : Does P n0 E0 ops QQ i ⟨[.slot g], dstL ins.dst, ins.dst, .tuple [], [], []⟩ σ0 := by
 refine ⟨fun σ ha E w a next hle rl hk => ?_, fun σ _ l hl => ?_, fun t ht => ?_, fun r hr => by cases hr⟩
 ·have hfr := look_slot (ha.on (.slot g) (by simp))
  refine wpOp_skip ho hf rl hig (by rw [hfr]; exact hs) (hk E _ w hle ?_)
  refine ⟨rl.sim, ?_, put_defers rl.defers _ _, fun r hr => rl.free r (by simpa [Tr.app] using hr)⟩
  rw [← fitI_dst hf]
  exact put_rep rl.rep (rep_undef E) _
 ·refine look_app (fun t ht hlt => hl ?_) (fun r hr => by cases hr)
  simp only at ht
  rw [hlt]; simp [dstL, ht]
 ·simp only at ht; simp [dstL, ht]
theorem fit1_0 {ao : AOp} {o : Op} (h0 : fit1 P ao o = true) (ev : Opd → AV) (H : AH) : aop0 ao ev H = none := by
 cases ao <;> first | rfl | (cases o <;> simp only [fit1, Bool.false_eq_true] at h0)
theorem fit0_1 {ao : AOp} {o : Op} (h0 : fit0 P ao o = true) (ev : Opd → AV) (H : AH) : aop1 ao ev H = none := by
 cases ao <;> first | rfl | (cases o <;> simp only [fit0, Bool.false_eq_true] at h0)
theorem fitI_plain {ops : Array Oper} {ins : AInstr} {o : Oper} (hf : fitI P ops ins o = true) (hop : (∃ ev H v, aop0 ins.op ev H = some v) ∨ ∃ ev H v, aop1 ins.op ev H = some v) : (fit0 P ins.op o.op || fit1 P ins.op o.op) = true := by
 unfold fitI at hf
 rw [Bool.and_eq_true, Bool.and_eq_true] at hf
 have hf := hf.2
 obtain ⟨d, g, op⟩ := ins
 simp only at hop hf ⊢
 cases op
 case call => rcases hop with ⟨_, _, _, h⟩ | ⟨_, _, _, h⟩ <;> cases h
 case calld => rcases hop with ⟨_, _, _, h⟩ | ⟨_, _, _, h⟩ <;> cases h
 case eqnil => rcases hop with ⟨_, _, _, h⟩ | ⟨_, _, _, h⟩ <;> cases h
 case bad => rcases hop with ⟨_, _, _, h⟩ | ⟨_, _, _, h⟩ <;> cases h
 all_goals
  revert hf
  cases o.op <;> intro hf <;> first | exact hf | (simp at hf; done)
theorem Does.val {E0 : Env} {ops : Array Oper} {QQ : Exit → Act → World → Prop} {i : Nat} {o : Oper} {ins : AInstr} {σ0 : St} {v : AV} (ho : ops[i]? = some o) (hf : fitI P ops ins o = true) (hop : Open σ0.fr ins.guard)
 (hv : aop0 ins.op (evalA σ0.fr) σ0.H = some v) : Does P n0 E0 ops QQ i ⟨slotsL ins ++ hread ins.op (evalA σ0.fr), dstL ins.dst, ins.dst, v, [], []⟩ σ0 := by
 refine ⟨fun σ ha E w a next hle rl hk => ?_, fun σ _ l hl => ?_, fun t ht => ?_, fun r hr => by cases hr⟩
 ·obtain ⟨hev, hgd⟩ := agree_ev (ins := ins) ha (fun l hl => List.mem_append_left _ hl)
  refine wpOp_go ho hf rl (fun g want hg => by rw [hgd g want hg]; exact hop g want hg) ?_
  have hfp := fitI_plain hf (.inl ⟨_, _, _, hv⟩)
  have hf0 : fit0 P ins.op o.op = true := by
   rw [Bool.or_eq_true] at hfp
   rcases hfp with h | h
   ·exact h
   ·rw [fit1_0 h] at hv; cases hv
  have hv2 : aop0 ins.op (evalA σ0.fr) σ.H = some v := aop0_local (fun r hr => (look_len (ha.on _ (List.mem_append_right _ hr))).symm) (fun r hr => (look_at (ha.on _ (List.mem_append_right _ hr))).1.symm) hv
  have hv3 : aop0 ins.op (evalA σ.fr) σ.H = some v := by
   have h1 := aop_congr (op := ins.op) σ.H hev
   rw [aop_0 hv2] at h1
   unfold aop at h1
   rw [fit0_1 hf0] at h1
   cases h2 : aop0 ins.op (evalA σ.fr) σ.H with
   | none => rw [h2] at h1; cases h1
   | some v' => rw [h2] at h1; cases h1; rfl
  obtain ⟨u, hrun, hx⟩ := ok_0 hf0 E w σ.H σ.fr a v o rfl rl.sim rl.rep hv3
  unfold Oper.wp
  rw [hrun]
  refine hk E _ w hle ⟨rl.sim, ?_, put_defers rl.defers _ _, fun r hr => rl.free r (by simpa [Tr.app] using hr)⟩
  rw [← fitI_dst hf]
  exact put_rep rl.rep hx _
 ·refine look_app (fun t ht hlt => hl ?_) (fun r hr => by cases hr)
  simp only at ht
  rw [hlt]; simp [dstL, ht]
 ·simp only at ht; simp [dstL, ht]
theorem ok_storeE {n : Nat} {p x : Opd} {o : Op} (hf : fit1 P (.store n p x) o = true) {E : Env} {w : World} {H : AH} {fr : List AV} {a : Act} {oper : Oper} (ho : oper.op = o) (hs : Sim E w H) (hr : RepL E fr a.tmps)
 {r i j tot : Nat} {cs e : List AV} {ob : AObj} (e1 : evalA fr p = .ptr r i j tot) (hcs : cellsOf (evalA fr x) = some cs) (hl : liveO H r tot = some ob) (he : ob[i]? = some e) (hok : cs.length = n ∧ j + n ≤ e.length ∧ cs.all cellA = true) :
 ∃ w' E', (execOp a.eval oper).run P w = .ok .skip w' ∧ Le E E' ∧ Sim E' w' (H.set r (some (ob.set i (lay e j cs)))) ∧ ∀ s, E.ρ s = none → E'.ρ s = none := by
 cases o <;> simp only [fit1, Bool.false_eq_true, Bool.and_eq_true] at hf
 rename_i t p' x'
 obtain ⟨⟨ht, h1⟩, h2⟩ := hf
 have hp := fitO_ok hr h1
 have hx := fitO_ok hr h2
 obtain ⟨it, hit, hn⟩ : ∃ i, P.info? t = some i ∧ i.size = n := by
  split at ht
  ·exact ⟨_, by assumption, by simpa using ht⟩
  ·cases ht
 rw [e1] at hp
 obtain ⟨hat, hlen, htt⟩ := live_of hs hl
 obtain ⟨hcl, hjn, hall⟩ := hok
 obtain ⟨y, hy, hpv⟩ := rep_ptr hp htt
 have hlies := lies_of hs hat hy
 obtain ⟨cells, te, q, hb, hcn, hq, hone, hrow⟩ := hlies.blk
 have hc := cells_rep hx hcs
 have hil : i < ob.length := by
  rcases Nat.lt_or_ge i ob.length with h' | h'
  ·exact h'
  ·rw [List.getElem?_eq_none h'] at he; cases he
 have hel := hlies.sz e (List.mem_of_getElem? he)
 have h3 := mul_le_of_lt (sz := y.sz) hil
 have hfit := hlies.fits
 have hcl' := hc.1
 have hrun := run_storeVar_blk' (P := P) hit (w := w) (off := i * y.sz + j) hb (by rw [hcn]; exact hq) (by rw [hn, hcn]; omega) (a.eval x') (by rw [hn]; omega) (mem_one hc hall)
 obtain ⟨hle, hsim⟩ := hs.write hat hy (o' := ob.set i (lay e j cs)) (splice cells (i * y.sz + j) (a.eval x').cells.toList) te q (by rw [splice_size]; exact hcn) hq (by simp)
  (by
   intro e' he'
   rcases List.mem_or_eq_of_mem_set he' with h' | h'
   ·exact hlies.sz e' h'
   ·rw [h', lay_length _ _ _ (by omega)]; exact hel)
  (by simpa using hfit) (splice_one hone _ _ (mem_one hc hall) (by simp; omega)) (RowIs.lay hrow hlies.sz (by omega) he hc j (by omega))
 refine ⟨_, _, ?_, hle, hsim, fun s hs => ?_⟩
 ·simp only [execOp, ho, Instr.storeAt, hpv, Instr.sureAddr, Sem.run_bind, Sem.run_pure, Result.andThen, hrun]
 ·rw [Env.with_ne _ _ (fun e => by rw [e, hy] at hs; cases hs)]; exact hs
theorem Does.store {E0 : Env} {ops : Array Oper} {QQ : Exit → Act → World → Prop} {k : Nat} {o : Oper} {d : Option Nat} {gd : Option (Nat × Bool)} {n : Nat} {p x : Opd} {σ0 : St} (ho : ops[k]? = some o) (hf : fitI P ops ⟨d, gd, .store n p x⟩ o = true) (hop : Open σ0.fr gd)
 {r i j tot : Nat} {cs e : List AV} {ob : AObj} (e1 : evalA σ0.fr p = .ptr r i j tot) (hcs : cellsOf (evalA σ0.fr x) = some cs) (hl : liveO σ0.H r tot = some ob) (he : ob[i]? = some e) (hok : cs.length = n ∧ j + n ≤ e.length ∧ cs.all cellA = true) :
 Does P n0 E0 ops QQ k ⟨slotsL ⟨d, gd, .store n p x⟩ ++ [.con r], dstL d ++ [.con r], d, .top, [r], [some (ob.set i (lay e j cs))]⟩ σ0 := by
 refine ⟨fun σ ha E w a next hle rl hk => ?_, fun σ ha l hl' => ?_, fun t ht => ?_, fun r' hr => by simp at hr; simp [hr]⟩
 ·obtain ⟨hev, hgd⟩ := agree_ev (ins := ⟨d, gd, .store n p x⟩) ha (fun l hl => List.mem_append_left _ hl)
  have hcon := look_at (ha.on (.con r) (by simp))
  refine wpOp_go ho hf rl (fun g want hg => by rw [hgd g want hg]; exact hop g want hg) ?_
  have hf1 : fit1 P (.store n p x) o.op = true := by
   have := fitI_plain hf (.inr ⟨evalA σ0.fr, σ0.H, (.top, σ0.H.set r (some (ob.set i (lay e j cs)))), by simp only [aop1, e1, hcs, hl, he]; rw [if_pos hok]⟩)
   rw [Bool.or_eq_true] at this
   rcases this with h | h
   ·have := fit0_1 h (evalA σ0.fr) σ0.H
    simp only [aop1, e1, hcs, hl, he] at this
    rw [if_pos hok] at this; cases this
   ·exact h
  obtain ⟨w', E', hrun, hle', hs', hn⟩ := ok_storeE hf1 rfl rl.sim rl.rep (by rw [hev p (by simp [opdsA]), e1]) (by rw [hev x (by simp [opdsA]), hcs]) (by rw [live_con hcon.1]; exact hl) he hok
  unfold Oper.wp
  rw [hrun]
  refine hk E' _ w' (hle.trans (hle'.toN n0)) ⟨hs', ?_, put_defers rl.defers _ _, fun r' hr => hn r' (rl.free r' ?_)⟩
  ·rw [← fitI_dst hf]
   exact put_rep (rl.rep.mono hle') (.top _) _
  ·simp only [Tr.app, Bool.and_eq_true] at hr; exact hr.1
 ·have hcon := look_at (ha.on (.con r) (by simp))
  by_cases hlr : l = .len r
  ·subst hlr
   simp only [St.look, Tr.app, setAll]
   obtain ⟨h1, h2⟩ : σ0.H.at r = some ob ∧ True := by
    unfold liveO at hl
    split at hl
    ·rename_i o' ho'
     split at hl
     ·cases hl; exact ⟨ho', trivial⟩
     ·cases hl
    ·cases hl
   have h3 : σ.H.at r = some ob := hcon.1.trans h1
   rw [at_set_eq _ (at_lt h3), h3]
   simp
  ·refine look_app (fun t ht hlt => hl' ?_) (fun r' hr => ⟨fun e => hl' ?_, fun e => hlr ?_⟩)
   ·simp only at ht; rw [hlt]; simp [dstL, ht]
   ·simp at hr; rw [e, hr]; simp
   ·simp at hr; rw [e, hr]
 ·simp only at ht; simp [dstL, ht]
def freshOp : AOp → Bool
 | .alloc _ => true
 | .box _ => true
 | .bslice _ _ _ _ => true
 | .convsb _ => true
 | .mksl _ _ _ _ _ => true
 | _ => false
theorem freshOp_0 {op : AOp} (h : freshOp op = true) (ev : Opd → AV) (H : AH) : aop0 op ev H = none := by
 cases op <;> first | rfl | simp [freshOp] at h
def SoundR (P : Program) (o : Op) (ao : AOp) : Prop :=
 ∀ (E : Env) (w : World) (H : AH) (fr : List AV) (a : Act) (v : AV) (ob : AObj) (oper : Oper) (r : Nat), oper.op = o → Sim E w H → RepL E fr a.tmps → r < H.length → E.ρ r = none → aop1 ao (evalA fr) [] = some (v, [some ob]) →
   ∃ u w' E', ((execOp a.eval oper).run P w = .ok (.value u) w' ∨ ((execOp a.eval oper).run P w = .ok .skip w' ∧ u = undef)) ∧ Le E E' ∧ (∀ s, s ≠ r → E'.ρ s = E.ρ s) ∧ Sim E' w' (H.set r (some ob)) ∧ Rep E' (ren (toCl [r]) v) u
theorem ok_allocR {P : Program} {cs : List AV} {o : Op} (hf : fit1 P (.alloc cs) o = true) : SoundR P o (.alloc cs) := by
 intro E w H fr a v ob oper r ho hs hr hrl hρ hv
 cases o <;> simp only [fit1, Bool.false_eq_true] at hf
 rename_i t
 obtain ⟨it, z, hit, hz, hzc⟩ : ∃ it z, P.info? t = some it ∧ it.zero = some z ∧ (repCs cs z.cells.toList && cs.all cellA) = true := by
  split at hf
  ·split at hf
   ·exact ⟨_, _, by assumption, by assumption, hf⟩
   ·cases hf
  ·cases hf
 rw [Bool.and_eq_true] at hzc
 have hzr : RepL E cs z.cells := by have := repCs_ok (E := E) hzc.1; simpa using this
 simp only [aop1] at hv
 split at hv
 ·rename_i hne
  simp only [List.length_nil, List.nil_append, Option.some.injEq, Prod.mk.injEq, List.cons.injEq, and_true] at hv
  obtain ⟨rfl, rfl⟩ := hv
  have hl := hzr.1
  obtain ⟨hle, hsim⟩ := hs.renew hrl [cs] cs.length z.cells t (0, 0) (fun y hy => by rw [hρ] at hy; cases hy) (by omega) (.inl rfl) (by simp) (by simp; omega) (ones hzr hzc.2) (RowIs.of hzr rfl)
  refine ⟨.pointer (some ⟨w.heap.size, 0, none⟩), _, _, .inl ?_, hle, fun s hs => Env.with_ne _ _ hs, hsim, ?_⟩
  ·simp only [execOp, ho]
   apply run_v
   simp only [Instr.alloc, zeroValue, typeInfo, Sem.run_bind, hit, hz, Result.andThen, Sem.run_pure, newVar, newRow, program, Sem.run, newObj]
   rfl
  ·have := Rep.ptr (E := E.with r ⟨w.heap.size, cs.length, z.cells.size, [cs].length⟩) r 0 0 1 _ (Env.with_same _ _ _) rfl
   simpa [ren, toCl] using this
 ·cases hv
theorem ok_boxR {P : Program} {x : Opd} {o : Op} (hf : fit1 P (.box x) o = true) : SoundR P o (.box x) := by
 intro E w H fr a v ob oper r ho hs hr hrl hρ hv
 cases o <;> simp only [fit1, Bool.false_eq_true] at hf
 rename_i t y
 have hx := fitO_ok hr hf
 simp only [aop1] at hv
 split at hv
 ·rename_i cs hcs
  have hc := cells_rep hx hcs
  split at hv
  ·rename_i hne
   simp only [List.length_nil, List.nil_append, Option.some.injEq, Prod.mk.injEq, List.cons.injEq, and_true] at hv
   obtain ⟨rfl, rfl⟩ := hv
   have hl := hc.1
   obtain ⟨hle, hsim⟩ := hs.renew hrl [cs] cs.length (a.eval y).cells t (0, 0) (fun y hy => by rw [hρ] at hy; cases hy) (by omega) (.inl rfl) (by simp) (by simp; omega) (ones hc hne.2) (RowIs.of hc rfl)
   refine ⟨.pointer (some ⟨w.heap.size, 0, none⟩), _, _, .inl ?_, hle, fun s hs => Env.with_ne _ _ hs, hsim, ?_⟩
   ·simp only [execOp, ho]
    apply run_v
    simp only [Instr.box, Sem.run_bind, Result.andThen, Sem.run_pure, newVar, newRow, Sem.run, newObj]
    rfl
   ·have := Rep.ptr (E := E.with r ⟨w.heap.size, cs.length, (a.eval y).cells.size, [cs].length⟩) r 0 0 1 _ (Env.with_same _ _ _) rfl
    simpa [ren, toCl] using this
  ·cases hv
 ·cases hv
theorem ok_bsliceR {P : Program} {sz len : Nat} {zero : List AV} {parts : List (Nat × Opd)} {o : Op} (hf : fit1 P (.bslice sz len zero parts) o = true) : SoundR P o (.bslice sz len zero parts) := by
 intro E w H fr a v ob oper r ho hs hr hrl hρ hv
 cases o <;> simp only [fit1, Bool.false_eq_true, Bool.and_eq_true, decide_eq_true_eq] at hf
 rename_i t n ps
 obtain ⟨⟨⟨rfl, hsmall⟩, ht⟩, hp⟩ := hf
 obtain ⟨e, i, z, hu, hi, hsz, hpos, hzl, hzA, hz, hzc⟩ : ∃ e i z, P.underlying t = some (.slice e) ∧ P.info? e = some i ∧ i.size = sz ∧ 0 < sz ∧ zero.length = sz ∧ zero.all cellA = true ∧ i.zero = some z ∧ repCs zero z.cells.toList = true := by
  split at ht
  ·rename_i e hu
   split at ht
   ·rename_i i hi
    unfold elB at ht
    simp only [hi, Bool.and_eq_true, decide_eq_true_eq] at ht
    obtain ⟨⟨⟨⟨⟨h1, _⟩, h2⟩, h3⟩, h4⟩, h5⟩ := ht
    split at h5
    ·exact ⟨e, i, _, hu, hi, h1, h2, h3, h4, by assumption, h5⟩
    ·cases h5
   ·cases ht
  ·cases ht
 have hzr : RepL E zero z.cells := by have := repCs_ok (E := E) hzc; simpa using this
 simp only [aop1] at hv
 split at hv
 ·rename_i cells hcells
  split at hv
  ·rename_i hall
   simp only [List.length_nil, List.nil_append, Option.some.injEq, Prod.mk.injEq, List.cons.injEq, and_true] at hv
   obtain ⟨rfl, rfl⟩ := hv
   have hzcells := zero_cells hzr n
   have hzs : z.cells.size = sz := by rw [← hzr.1, hzl]
   rw [hzs] at hzcells
   obtain ⟨vs', h1, h2⟩ := fill_ok (P := P) hr (fun i => some (i * sz, sz)) _ ps.toList _ _ cells hp hzcells hcells
   have hlen : cells.length = n * sz := by rw [fillA_length _ hcells]; simp [hzl]
   obtain ⟨hle, hsim⟩ := hs.renew hrl (chunks sz n cells) sz vs' e (0, 0) (fun y hy => by rw [hρ] at hy; cases hy) hpos (.inl rfl) (by
    intro e' he'
    obtain ⟨i', hi'⟩ := List.mem_iff_getElem?.1 he'
    have hin : i' < n := by
     rcases Nat.lt_or_ge i' n with h' | h'
     ·exact h'
     ·rw [List.getElem?_eq_none (by rw [chunks_length]; exact h')] at hi'; cases hi'
    rw [chunks_get _ _ _ _ hin] at hi'; cases hi'
    have : (i' + 1) * sz ≤ n * sz := Nat.mul_le_mul_right _ hin
    rw [Nat.add_mul] at this
    simp; omega) (by rw [chunks_length]; have := h2.1; omega) (ones h2 hall) (RowIs.chunks h2)
   refine ⟨.slice (some ⟨w.heap.size, 0, none⟩) n n, _, _, .inl ?_, hle, fun s hs => Env.with_ne _ _ hs, hsim, ?_⟩
   ·simp only [execOp, ho]
    apply run_v
    have e1 : (ps.map fun (i, x) => (i, a.eval x)).toList = ps.toList.map fun x => (x.1, a.eval x.2) := by simp
    simp only [Instr.buildSlice, Sem.run_bind, run_underlying hu, Result.andThen, run_sizeOf' hi, hsz]
    rw [if_neg (by omega)]
    by_cases h0 : n * sz = 0
    ·have hn : n = 0 := by
      rcases Nat.mul_eq_zero.1 h0 with h | h
      ·exact h
      ·omega
     subst hn
     simp only [Nat.zero_mul, if_true, Sem.run_pure, Sem.run_bind, Result.andThen]
     simp only [Nat.zero_mul] at h1
     rw [e1]
     have e2 : ∀ f g : Nat → Value, (Array.range 0).map f = (Array.range 0).map g := fun f g => by simp
     rw [e2 _ (fun x => z.cells[x % sz]!)]
     simp only [h1]
     simp only [newRow, newObj, Sem.run_bind, Sem.run, Result.andThen, Sem.run_pure]
     rfl
    ·simp only [if_neg h0, zeroValue, typeInfo, Sem.run_bind, hi, hz, Result.andThen, Sem.run_pure, program, Sem.run, hzs]
     rw [e1]
     simp only [h1]
     simp only [newRow, newObj, Sem.run_bind, Sem.run, Result.andThen, Sem.run_pure]
     rfl
   ·have := Rep.own (E := E.with r ⟨w.heap.size, sz, vs'.size, (chunks sz n cells).length⟩) r sz 0 n n n _ (Env.with_same _ _ _) (chunks_length _ _ _) rfl (by omega) (Nat.le_refl _) (by omega) (by have := h2.1; simp; omega)
    simpa [ren, toCl] using this
  ·cases hv
 ·cases hv
theorem ok_mkslR {P : Program} {sz bytes : Nat} {zero : List AV} {l c : Opd} {o : Op} (hf : fit1 P (.mksl sz bytes zero l c) o = true) : SoundR P o (.mksl sz bytes zero l c) := by
 intro E w H fr a v ob oper r ho hs hr hrl hρ hv
 cases o <;> simp only [fit1, Bool.false_eq_true, Bool.and_eq_true] at hf
 rename_i t l' c'
 obtain ⟨⟨ht, h1⟩, h2⟩ := hf
 have hl := fitO_ok hr h1
 have hc := fitO_ok hr h2
 obtain ⟨e, hte, hel⟩ : ∃ e, P.underlying t = some (.slice e) ∧ El P e sz bytes zero := by
  split at ht
  ·exact ⟨_, by assumption, elB_ok ht⟩
  ·cases ht
 obtain ⟨i, z, hi, hsi, hby, hz, hzc⟩ := hel.ex
 have hzr : RepL E zero z.cells := by have := repCs_ok (E := E) hzc; simpa using this
 have hzs : z.cells.size = sz := by rw [← hzr.1, hel.len]
 simp only [aop1] at hv
 split at hv
 ·rename_i k m k' n e1 e2
  rw [e1] at hl; rw [e2] at hc
  split at hv
  ·rename_i hok
   obtain ⟨h0, hmn, hn, hbb⟩ := hok
   simp only [List.length_nil, List.nil_append, Option.some.injEq, Prod.mk.injEq, List.cons.injEq, and_true] at hv
   obtain ⟨rfl, rfl⟩ := hv
   have hzcells := zero_cells hzr n.toNat
   rw [hzs] at hzcells
   have hlenle : m.toNat * sz ≤ n.toNat * sz := Nat.mul_le_mul_right _ (by omega)
   have hrow : RowIs E sz ((Array.range (n.toNat * sz)).map (z.cells[· % sz]!)) (List.replicate m.toNat zero) := by
    intro j e' kk cc u hi' hk hu
    have hil : j < m.toNat := by
     rcases Nat.lt_or_ge j m.toNat with h' | h'
     ·exact h'
     ·rw [List.getElem?_eq_none (by simpa using h')] at hi'; cases hi'
    rw [List.getElem?_replicate, if_pos hil] at hi'
    cases hi'
    have hkl : kk < sz := by
     rcases Nat.lt_or_ge kk zero.length with h' | h'
     ·rw [hel.len] at h'; exact h'
     ·rw [List.getElem?_eq_none h'] at hk; cases hk
    have := mul_le_of_lt (sz := sz) hil
    have hidx : (j * sz + kk) % sz = kk := by
     rw [Nat.add_comm, Nat.add_mul_mod_self_right]
     exact Nat.mod_eq_of_lt hkl
    rw [Array.getElem?_map, Array.getElem?_range, if_pos (by omega)] at hu
    simp only [Option.map_some, Option.some.injEq, hidx] at hu
    have hkz : kk < z.cells.size := by rw [hzs]; exact hkl
    rw [getElem!_pos z.cells kk hkz] at hu
    exact hzr.2 kk cc u hk (by rw [← hu]; exact Array.getElem?_eq_getElem hkz)
   have hone : ∀ (j : Nat) u, ((Array.range (n.toNat * sz)).map (z.cells[· % sz]!))[j]? = some u → u.oneCell' = true := by
    have := zeroCells_ones hzr hel.all n.toNat
    unfold Builtin.zeroCells at this
    rw [hzs] at this
    exact this
   obtain ⟨hle, hsim⟩ := hs.renew hrl (List.replicate m.toNat zero) sz ((Array.range (n.toNat * sz)).map (z.cells[· % sz]!)) e (0, 0) (fun y hy => by rw [hρ] at hy; cases hy) hel.pos (.inl rfl)
    (fun e' he' => by rw [List.eq_of_mem_replicate he', hel.len]) (by simp; exact hlenle) hone hrow
   refine ⟨.slice (some ⟨w.heap.size, 0, none⟩) m.toNat n.toNat, _, _, .inl ?_, hle, fun s hs => Env.with_ne _ _ hs, hsim, ?_⟩
   ·simp only [execOp, ho, rep_int hl, rep_int hc]
    apply run_v
    have hti : (typeInfo e).run P w = .ok i w := by
     unfold typeInfo; simp only [Sem.run_bind, program, Sem.run, Result.andThen, hi]; rfl
    have hzv : (zeroValue e).run P w = .ok z w := by
     unfold zeroValue; simp only [Sem.run_bind, hti, Result.andThen, hz, Sem.run_pure]
    have hw1 := wrap_small (n := m) h0 (by omega)
    have hw2 := wrap_small (n := n) (by omega) hn
    have hmulb : (bytes : Int) * n ≤ 10000 * 1000000000 := by
     refine Int.le_trans (Int.mul_le_mul_of_nonneg_right (c := n) (show (bytes : Int) ≤ 10000 by omega) (by omega)) ?_
     omega
    have hcond : ((decide (n < 0) || decide ((bytes : Int) * n > 2 ^ 48)) = true ∨ decide (m < 0) = true ∨ decide (m > n) = true) = False := by
     simp; omega
    unfold Instr.makeSlice
    simp only [Sem.run_bind, run_underlying hte, Result.andThen, asInt, asIntOf, Sem.run_pure, hti, hby, hw1, hw2]
    rw [if_neg (by simp; omega)]
    simp only [Sem.run_bind, run_askRoom, Result.andThen, run_sizeOf' hi, hsi]
    by_cases h00 : n.toNat * sz = 0
    ·simp only [h00, if_true, Sem.run_pure, Sem.run_bind, Result.andThen, newRow, newObj, Sem.run]
     have e2 : ∀ f g : Nat → Value, (Array.range 0).map f = (Array.range 0).map g := fun f g => by simp
     rw [e2 _ (fun x => z.cells[x % sz]!)]
     rfl
    ·simp only [if_neg h00, Sem.run_bind, hzv, Result.andThen, Sem.run_pure, newRow, newObj, Sem.run, hzs]
     rfl
   ·have := Rep.own (E := E.with r ⟨w.heap.size, sz, ((Array.range (n.toNat * sz)).map (z.cells[· % sz]!)).size, (List.replicate m.toNat zero).length⟩) r sz 0 m.toNat m.toNat n.toNat _ (Env.with_same _ _ _) (by simp) rfl (by omega) (by omega) (by omega) (by simp)
    simpa [ren, toCl] using this
  ·cases hv
 ·cases hv
theorem ok_convsbR {P : Program} {x : Opd} {o : Op} (hf : fit1 P (.convsb x) o = true) : SoundR P o (.convsb x) := by
 intro E w H fr a v ob oper r ho hs hr hrl hρ hv
 cases o <;> simp only [fit1, Bool.false_eq_true, Bool.and_eq_true] at hf
 rename_i s t y
 obtain ⟨⟨h1, h2⟩, h3⟩ := hf
 have hx := fitO_ok hr h3
 have hus : P.underlying s = some .string := by
  split at h1 <;> first | assumption | cases h1
 obtain ⟨e, hut, hue⟩ : ∃ e, P.underlying t = some (.slice e) ∧ P.underlying e = some (.int .u8) := by
  split at h2
  ·split at h2
   ·exact ⟨_, by assumption, by assumption⟩
   ·cases h2
  ·cases h2
 simp only [aop1] at hv
 split at hv
 ·rename_i str e1
  rw [e1] at hx
  simp only [List.length_nil, List.nil_append, Option.some.injEq, Prod.mk.injEq, List.cons.injEq, and_true] at hv
  obtain ⟨rfl, rfl⟩ := hv
  have hbs : (⟨str.toArray⟩ : ByteArray).size = str.length := by simp [ByteArray.size]
  have hrun0 := run_bytes_of_string (P := P) w s t e ⟨str.toArray⟩ hus hut hue
  rw [hbs] at hrun0
  have hcut : str.length ≤ grownCap w str.length 0 e := grownCap_ge w _ _ _
  generalize hnc : grownCap w str.length 0 e = nc at hcut hrun0
  let cells : Array Value := (str.toArray.map fun b => Value.int .u8 b.toNat) ++ Array.replicate (nc - str.length) (.int .u8 0)
  have hcs : cells.size = nc := by simp [cells]; omega
  have hbr : bytesRow ⟨str.toArray⟩ nc = cells := by
   simp only [bytesRow, cells, hbs]
  rw [hbr, hcs] at hrun0
  have hsd : Sim E w.drew H := hs.drawn (w.drawn + 1)
  obtain ⟨hle, hsim⟩ := hsd.renew hrl (str.map fun b => [AV.int .u8 b.toNat]) 1 cells e (nc, nc + 1) (fun y hy => by rw [hρ] at hy; cases hy) (by omega) (.inr (by omega)) (by simp) (by simp; omega)
   (by
    intro i v hv
    simp only [cells] at hv
    rw [Array.getElem?_append] at hv
    split at hv
    ·rw [Array.getElem?_map] at hv
     cases hb : str.toArray[i]? with
     | none => rw [hb] at hv; cases hv
     | some b => rw [hb] at hv; cases hv; rfl
    ·rw [Array.getElem?_replicate] at hv
     split at hv
     ·cases hv; rfl
     ·cases hv)
   (by
    intro i e' k c u hi hk hu
    rw [List.getElem?_map] at hi
    cases hb : str[i]? with
    | none => rw [hb] at hi; cases hi
    | some b =>
      rw [hb] at hi; cases hi
      have hil : i < str.length := by
       rcases Nat.lt_or_ge i str.length with h' | h'
       ·exact h'
       ·rw [List.getElem?_eq_none h'] at hb; cases hb
      match k, hk with
      | 0, hk =>
        simp at hk; subst hk
        simp only [cells] at hu
        rw [Array.getElem?_append_left (by simp; omega), Nat.mul_one, Nat.add_zero, Array.getElem?_map, List.getElem?_toArray, hb] at hu
        cases hu
        exact .pure (x := .int _ _) (.int _ _)
      | k + 1, hk => simp at hk)
  refine ⟨.slice (some ⟨w.heap.size, 0, none⟩) str.length nc, _, _, .inl ?_, hle, fun s hs => Env.with_ne _ _ hs, hsim, ?_⟩
  ·simp only [execOp, ho, rep_str hx]
   apply run_v
   exact hrun0
  ·have := Rep.own (E := E.with r ⟨w.drew.heap.size, 1, cells.size, (str.map fun b => [AV.int .u8 b.toNat]).length⟩) r 1 0 str.length str.length nc _ (Env.with_same _ _ _) (by simp) rfl (by omega) hcut (by omega) (by simp [hcs])
   simpa [ren, toCl] using this
 ·cases hv
theorem ok_R {ao : AOp} {o : Op} (hfr : freshOp ao = true) (hf : fit1 P ao o = true) : SoundR P o ao := by
 cases ao <;> simp only [freshOp, Bool.false_eq_true] at hfr
 case alloc => exact ok_allocR hf
 case box => exact ok_boxR hf
 case bslice => exact ok_bsliceR hf
 case mksl => exact ok_mkslR hf
 case convsb => exact ok_convsbR hf
theorem Does.fresh {E0 : Env} {ops : Array Oper} {QQ : Exit → Act → World → Prop} {k : Nat} {o : Oper} {ins : AInstr} {σ0 : St} (ho : ops[k]? = some o) (hf : fitI P ops ins o = true) (hop : Open σ0.fr ins.guard)
 (hfr : freshOp ins.op = true) {v : AV} {ob : AObj} (hv : aop1 ins.op (evalA σ0.fr) [] = some (v, [some ob])) {c : Nat} (hc : c < σ0.H.length) (hfree : σ0.free c = true) :
 Does P n0 E0 ops QQ k ⟨slotsL ins ++ [.con c], dstL ins.dst ++ [.con c, .len c], ins.dst, ren (toCl [c]) v, [c], [some ob]⟩ σ0 := by
 refine ⟨fun σ ha E w a next hle rl hk => ?_, fun σ ha l hl' => ?_, fun t ht => ?_, fun r' hr => by simp at hr; simp [hr]⟩
 ·obtain ⟨hev, hgd⟩ := agree_ev (ins := ins) ha (fun l hl => List.mem_append_left _ hl)
  have hcon := look_at (ha.on (.con c) (by simp))
  refine wpOp_go ho hf rl (fun g want hg => by rw [hgd g want hg]; exact hop g want hg) ?_
  have hf1 : fit1 P ins.op o.op = true := by
   have := fitI_plain hf (.inr ⟨_, _, _, hv⟩)
   rw [Bool.or_eq_true] at this
   rcases this with h | h
   ·rw [fit0_1 h] at hv; cases hv
   ·exact h
  have hv2 : aop1 ins.op (evalA σ.fr) [] = some (v, [some ob]) := by
   have h1 := aop_congr (op := ins.op) [] hev
   unfold aop at h1
   rw [freshOp_0 hfr, freshOp_0 hfr] at h1
   simp only at h1
   rw [h1]; exact hv
  obtain ⟨u, w', E', hrun, hle', hn, hs', hx'⟩ := ok_R hfr hf1 E w σ.H σ.fr a v ob o c rfl rl.sim rl.rep (by rw [ha.H]; exact hc) (rl.free c (by rw [hcon.2]; exact hfree)) hv2
  have hrl : Rl E' w' (a.put o.dst u) (Tr.app ⟨slotsL ins ++ [.con c], dstL ins.dst ++ [.con c, .len c], ins.dst, ren (toCl [c]) v, [c], [some ob]⟩ σ) := by
   refine ⟨hs', ?_, put_defers rl.defers _ _, fun r' hr => ?_⟩
   ·rw [← fitI_dst hf]
    exact put_rep (rl.rep.mono hle') hx' _
   ·simp only [Tr.app, Bool.and_eq_true] at hr
    rw [hn r' (by simpa using hr.2)]
    exact rl.free r' hr.1
  unfold Oper.wp
  rcases hrun with hrun | ⟨hrun, rfl⟩
  ·rw [hrun]; exact hk E' _ w' (hle.trans (hle'.toN n0)) hrl
  ·rw [hrun]; exact hk E' _ w' (hle.trans (hle'.toN n0)) hrl
 ·refine look_app (fun t ht hlt => hl' ?_) (fun r' hr => ⟨fun e => hl' ?_, fun e => hl' ?_⟩)
  ·simp only at ht; rw [hlt]; simp [dstL, ht]
  ·simp at hr; rw [e, hr]; simp
  ·simp at hr; rw [e, hr]; simp
 ·simp only at ht; simp [dstL, ht]
theorem nodup_new {rs : List Nat} {c k : Nat} (h1 : rs.Nodup) (h2 : ∀ r ∈ rs, r < c) : (rs ++ List.range' c k).Nodup := by
 rw [List.nodup_append]
 refine ⟨h1, List.nodup_range', fun a ha b hb hab => ?_⟩
 have := h2 a ha
 rw [List.mem_range'_1] at hb
 omega
theorem free_new {rs : List Nat} {c k : Nat} (h2 : ∀ r ∈ rs, r < c) : (fun r => decide (c ≤ r) && !(rs ++ List.range' c k).contains r) = fun r => decide (c + k ≤ r) := by
 funext r
 by_cases hm : r ∈ rs ++ List.range' c k
 ·have h7 : (rs ++ List.range' c k).contains r = true := by simpa using hm
  rw [h7]
  rw [List.mem_append, List.mem_range'_1] at hm
  have : ¬ c + k ≤ r := by
   rcases hm with hm | hm
   ·have := h2 r hm; omega
   ·omega
  simp [this]
 ·have h7 : (rs ++ List.range' c k).contains r = false := by simpa using hm
  rw [h7]
  rw [List.mem_append, List.mem_range'_1] at hm
  by_cases h8 : c ≤ r
  ·have : c + k ≤ r := by
    rcases Nat.lt_or_ge r (c + k) with h9 | h9
    ·exact absurd (.inr ⟨h8, h9⟩) hm
    ·exact h9
   simp [h8, this]
  ·have : ¬ c + k ≤ r := by omega
   simp [h8, this]
theorem Does.call {E0 : Env} {ops : Array Oper} {QQ : Exit → Act → World → Prop} {k : Nat} {o : Oper} {d : Option Nat} {gd : Option (Nat × Bool)} {f : FuncId} {args : List Opd} {σ0 : St} (ho : ops[k]? = some o) (hf : fitI P ops ⟨d, gd, .call f args⟩ o = true) (hop : Open σ0.fr gd)
 {rs nw : List Nat} (hnd : (rs ++ nw).Nodup) (hlt : ∀ r ∈ rs ++ nw, r < σ0.H.length) (hfree : ∀ r ∈ nw, σ0.free r = true) {x : AV} {H1 : AH} (hlen : H1.length = (rs ++ nw).length)
 (hC : C P f (renL (toCallee rs) (args.map (evalA σ0.fr))) (rs.map fun r => (σ0.H.at r).map (renO (toCallee rs))) (fun y G => y = x ∧ G = H1)) :
 Does P n0 E0 ops QQ k ⟨slotsL ⟨d, gd, .call f args⟩ ++ (rs ++ nw).map .con, dstL d ++ ((rs ++ nw).map .con ++ (rs ++ nw).map .len), d, ren (toCl (rs ++ nw)) x, rs ++ nw, H1.map fun o => o.map (renO (toCl (rs ++ nw)))⟩ σ0 := by
 refine ⟨fun σ ha E w a next hle rl hk => ?_, fun σ ha l hl' => ?_, fun t ht => ?_, fun r' hr => ?_⟩
 ·obtain ⟨hev, hgd⟩ := agree_ev (ins := ⟨d, gd, .call f args⟩) ha (fun l hl => List.mem_append_left _ hl)
  have hcon : ∀ r ∈ rs ++ nw, σ.H.at r = σ0.H.at r ∧ σ.free r = σ0.free r := fun r hr => look_at (ha.on (.con r) (List.mem_append_right _ (List.mem_map.2 ⟨r, hr, rfl⟩)))
  refine wpOp_go ho hf rl (fun g want hg => by rw [hgd g want hg]; exact hop g want hg) ?_
  obtain ⟨Ef, hs0, hrep0, hback⟩ := frame_ok rl.sim rs nw hnd (fun r hr => by rw [ha.H]; exact hlt r hr) (fun r hr => rl.free r (by rw [(hcon r (List.mem_append_right _ hr)).2]; exact hfree r hr))
  have e0 : (rs.map fun r => (σ.H.at r).map (renO (toCallee rs))) = rs.map fun r => (σ0.H.at r).map (renO (toCallee rs)) := List.map_congr_left fun r hr => by rw [(hcon r (List.mem_append_left _ hr)).1]
  rw [e0] at hs0
  have e1 : args.map (evalA σ0.fr) = args.map (evalA σ.fr) := List.map_congr_left fun y hy => (hev y (by simpa [opdsA] using hy)).symm
  rw [e1] at hC
  have hrl : ∀ (E' : Env) (w' : World) (u : Value), Le E E' → Sim E' w' (setAll σ.H (rs ++ nw) (H1.map fun o => o.map (renO (toCl (rs ++ nw))))) → Rep E' (ren (toCl (rs ++ nw)) x) u → (∀ r, r ∉ rs ++ nw → E'.ρ r = E.ρ r) →
   Rl E' w' (a.put o.dst u) (Tr.app ⟨slotsL ⟨d, gd, .call f args⟩ ++ (rs ++ nw).map .con, dstL d ++ ((rs ++ nw).map .con ++ (rs ++ nw).map .len), d, ren (toCl (rs ++ nw)) x, rs ++ nw, H1.map fun o => o.map (renO (toCl (rs ++ nw)))⟩ σ) := by
   intro E' w' u hle' hs' hx' hn
   refine ⟨hs', ?_, put_defers rl.defers _ _, fun r' hr => ?_⟩
   ·have := fitI_dst hf
    simp only at this
    rw [← this]
    exact put_rep (rl.rep.mono hle') hx' _
   ·simp only [Tr.app, Bool.and_eq_true] at hr
    rw [hn r' (by simpa using hr.2)]
    exact rl.free r' hr.1
  unfold fitI at hf
  rw [Bool.and_eq_true, Bool.and_eq_true] at hf
  have hf2 := hf.2
  simp only at hf2
  split at hf2
  ·rename_i f' args' g as ats e1 e2
   cases e1
   rw [Bool.and_eq_true, decide_eq_true_eq] at hf2
   obtain ⟨rfl, hargs⟩ := hf2
   have har := fitOs_ok rl.rep _ as.toList hargs
   have e3 : (as.toList.map a.eval).toArray = as.map a.eval := by apply Array.ext'; simp
   rw [e3] at har
   have hrun : (execOp a.eval o).run P w = .ok (.enter f (as.map a.eval)) w := by
    simp only [execOp, e2, resolve, Deferred.ofValue, show ∀ g, a.eval (.func g) = .func (.func g) #[] #[] from fun _ => rfl, Sem.run_bind, Sem.run_pure, Result.andThen, invoke]
    rw [show (#[] ++ as.map a.eval ++ #[] : Array Value) = as.map a.eval from by simp]
    exact run_callFunc hC.1 _ _
   unfold Oper.wp
   rw [hrun]
   refine (hC.2 Ef w _ hs0 (hrep0 _ _ har)).mono ?_
   rintro e w' ⟨u, E1, y, G, rfl, ⟨rfl, rfl⟩, hle1, hs1, hx1⟩
   obtain ⟨E', hle', hs', hx', hn⟩ := hback E1 w' G (by simpa using hle1) hs1 hlen
   exact hk E' _ w' (hle.trans (hle'.toN n0)) (hrl E' w' u hle' hs' (hx' _ _ hx1) hn)
  all_goals first | (rename_i e _; cases e; done) | (rename_i e; cases e; done) | (simp at hf2; done) | (simp_all; done)
 ·refine look_app (fun t ht hlt => hl' ?_) (fun r' hr => ⟨fun e => hl' ?_, fun e => hl' ?_⟩)
  ·simp only at ht; rw [hlt]; simp [dstL, ht]
  ·rw [e]; exact List.mem_append_right _ (List.mem_append_left _ (List.mem_map.2 ⟨r', hr, rfl⟩))
  ·rw [e]; exact List.mem_append_right _ (List.mem_append_right _ (List.mem_map.2 ⟨r', hr, rfl⟩))
 ·simp only at ht; simp [dstL, ht]
 ·exact List.mem_append_right _ (List.mem_append_left _ (List.mem_map.2 ⟨r', hr, rfl⟩))
theorem DoesF.call {E0 : Env} {ops : Array Oper} {QQ : Exit → Act → World → Prop} {k : Nat} {o : Oper} {d : Option Nat} {gd : Option (Nat × Bool)} {f : FuncId} {args : List Opd} {σ0 : St} (ho : ops[k]? = some o) (hf : fitI P ops ⟨d, gd, .call f args⟩ o = true) (hop : Open σ0.fr gd)
 {rs nw : List Nat} (hnd : (rs ++ nw).Nodup) (hlt : ∀ r ∈ rs ++ nw, r < σ0.H.length) (hfree : ∀ r ∈ nw, σ0.free r = true) {K0 : AV → AH → Prop} (hlen : ∀ y G, K0 y G → G.length = (rs ++ nw).length)
 (hC : C P f (renL (toCallee rs) (args.map (evalA σ0.fr))) (rs.map fun r => (σ0.H.at r).map (renO (toCallee rs))) K0) :
 DoesF P n0 E0 ops QQ k ⟨slotsL ⟨d, gd, .call f args⟩ ++ (rs ++ nw).map .con, dstL d ++ ((rs ++ nw).map .con ++ (rs ++ nw).map .len), d, .top, rs ++ nw, []⟩
  (fun τ => ∃ y G, K0 y G ∧ τ = ⟨slotsL ⟨d, gd, .call f args⟩ ++ (rs ++ nw).map .con, dstL d ++ ((rs ++ nw).map .con ++ (rs ++ nw).map .len), d, ren (toCl (rs ++ nw)) y, rs ++ nw, G.map fun o => o.map (renO (toCl (rs ++ nw)))⟩) σ0 := by
 refine ⟨fun σ ha E w a next hle rl hk => ?_, fun τ hτ => ?_, fun τ hτ σ l hl' => ?_, fun t ht => ?_, fun r' hr => ?_⟩
 ·obtain ⟨hev, hgd⟩ := agree_ev (ins := ⟨d, gd, .call f args⟩) ha (fun l hl => List.mem_append_left _ hl)
  have hcon : ∀ r ∈ rs ++ nw, σ.H.at r = σ0.H.at r ∧ σ.free r = σ0.free r := fun r hr => look_at (ha.on (.con r) (List.mem_append_right _ (List.mem_map.2 ⟨r, hr, rfl⟩)))
  refine wpOp_go ho hf rl (fun g want hg => by rw [hgd g want hg]; exact hop g want hg) ?_
  obtain ⟨Ef, hs0, hrep0, hback⟩ := frame_ok rl.sim rs nw hnd (fun r hr => by rw [ha.H]; exact hlt r hr) (fun r hr => rl.free r (by rw [(hcon r (List.mem_append_right _ hr)).2]; exact hfree r hr))
  have e0 : (rs.map fun r => (σ.H.at r).map (renO (toCallee rs))) = rs.map fun r => (σ0.H.at r).map (renO (toCallee rs)) := List.map_congr_left fun r hr => by rw [(hcon r (List.mem_append_left _ hr)).1]
  rw [e0] at hs0
  have e1 : args.map (evalA σ0.fr) = args.map (evalA σ.fr) := List.map_congr_left fun y hy => (hev y (by simpa [opdsA] using hy)).symm
  rw [e1] at hC
  have hrl : ∀ (x : AV) (H1 : AH) (E' : Env) (w' : World) (u : Value), Le E E' → Sim E' w' (setAll σ.H (rs ++ nw) (H1.map fun o => o.map (renO (toCl (rs ++ nw))))) → Rep E' (ren (toCl (rs ++ nw)) x) u → (∀ r, r ∉ rs ++ nw → E'.ρ r = E.ρ r) →
   Rl E' w' (a.put o.dst u) (Tr.app ⟨slotsL ⟨d, gd, .call f args⟩ ++ (rs ++ nw).map .con, dstL d ++ ((rs ++ nw).map .con ++ (rs ++ nw).map .len), d, ren (toCl (rs ++ nw)) x, rs ++ nw, H1.map fun o => o.map (renO (toCl (rs ++ nw)))⟩ σ) := by
   intro x H1 E' w' u hle' hs' hx' hn
   refine ⟨hs', ?_, put_defers rl.defers _ _, fun r' hr => ?_⟩
   ·have := fitI_dst hf
    simp only at this
    rw [← this]
    exact put_rep (rl.rep.mono hle') hx' _
   ·simp only [Tr.app, Bool.and_eq_true] at hr
    rw [hn r' (by simpa using hr.2)]
    exact rl.free r' hr.1
  unfold fitI at hf
  rw [Bool.and_eq_true, Bool.and_eq_true] at hf
  have hf2 := hf.2
  simp only at hf2
  split at hf2
  ·rename_i f' args' g as ats e1 e2
   cases e1
   rw [Bool.and_eq_true, decide_eq_true_eq] at hf2
   obtain ⟨rfl, hargs⟩ := hf2
   have har := fitOs_ok rl.rep _ as.toList hargs
   have e3 : (as.toList.map a.eval).toArray = as.map a.eval := by apply Array.ext'; simp
   rw [e3] at har
   have hrun : (execOp a.eval o).run P w = .ok (.enter f (as.map a.eval)) w := by
    simp only [execOp, e2, resolve, Deferred.ofValue, show ∀ g, a.eval (.func g) = .func (.func g) #[] #[] from fun _ => rfl, Sem.run_bind, Sem.run_pure, Result.andThen, invoke]
    rw [show (#[] ++ as.map a.eval ++ #[] : Array Value) = as.map a.eval from by simp]
    exact run_callFunc hC.1 _ _
   unfold Oper.wp
   rw [hrun]
   refine (hC.2 Ef w _ hs0 (hrep0 _ _ har)).mono ?_
   rintro e w' ⟨u, E1, y, G, rfl, hy, hle1, hs1, hx1⟩
   obtain ⟨E', hle', hs', hx', hn⟩ := hback E1 w' G (by simpa using hle1) hs1 (hlen y G hy)
   exact hk _ E' _ w' ⟨y, G, hy, rfl⟩ (hle.trans (hle'.toN n0)) (hrl y G E' w' u hle' hs' (hx' _ _ hx1) hn)
  all_goals first | (rename_i e _; cases e; done) | (rename_i e; cases e; done) | (simp at hf2; done) | (simp_all; done)
 ·obtain ⟨y, G, _, rfl⟩ := hτ
  exact ⟨rfl, rfl, rfl, rfl⟩
 ·obtain ⟨y, G, _, rfl⟩ := hτ
  refine look_app (fun t ht hlt => hl' ?_) (fun r' hr => ⟨fun e => hl' ?_, fun e => hl' ?_⟩)
  ·simp only at ht; rw [hlt]; simp [dstL, ht]
  ·rw [e]; exact List.mem_append_right _ (List.mem_append_left _ (List.mem_map.2 ⟨r', hr, rfl⟩))
  ·rw [e]; exact List.mem_append_right _ (List.mem_append_right _ (List.mem_map.2 ⟨r', hr, rfl⟩))
 ·simp only at ht; simp [dstL, ht]
 ·exact List.mem_append_right _ (List.mem_append_left _ (List.mem_map.2 ⟨r', hr, rfl⟩))
end
end Go.Proofs.YtemjlopoffjmpaaGreat.Abs
