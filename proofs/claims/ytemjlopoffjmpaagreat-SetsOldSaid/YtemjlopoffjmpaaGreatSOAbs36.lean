/-
  The abstract layer, part 36: the equations by which simp walks a drawn region whose operations change the heap; whether a slice is nil.
-/
import Derived.Test.YtemjlopoffjmpaaGreatSOAbs35
set_option linter.unusedSimpArgs false
set_option linter.unusedVariables false
namespace Go.Proofs.YtemjlopoffjmpaaGreat.Abs
open Go
def RET (P : Program) (tab : List (List Nat)) (is : List (Nat × AInstr)) (c : Nat) (lg : List LogE) (K : List AV → AH → Prop) (fr : List AV) (H : AH) (_ : Tag is) (_ : Tag K) : Prop := RE P tab is c lg K fr H
def WDT (P : Program) (tab : List (List Nat)) (segs : List (List (Nat × AInstr))) (K : List AV → AH → Prop) (fr : List AV) (H : AH) (_ : Tag segs) (_ : Tag K) : Prop := WD P tab segs K fr H
def CFT (P : Program) (f : FuncId) (args : List AV) (c : Nat) (H : AH) (late : List Loc → List Loc → Prop) (K : List Nat → Nat → AV → AH → Prop) (_ : Tag K) : Prop :=
 (∃ (rs : List Nat) (k : Nat) (x : AV) (H1 : AH), rs.Nodup ∧ (∀ r ∈ rs, r < c) ∧ c + k ≤ H.length ∧ H1.length = rs.length + k ∧
     C P f (renL (toCallee rs) args) (rs.map fun r => (H.at r).map (renO (toCallee rs))) (fun y G => y = x ∧ G = H1) ∧
     K (rs ++ List.range' c k) (c + k) (ren (toCl (rs ++ List.range' c k)) x) (setAll H (rs ++ List.range' c k) (H1.map fun o => o.map (renO (toCl (rs ++ List.range' c k)))))) ∨
 ∃ (rs : List Nat) (k : Nat) (K0 : AV → AH → Prop), rs.Nodup ∧ (∀ r ∈ rs, r < c) ∧ c + k ≤ H.length ∧ late ((rs ++ List.range' c k).map .con) ((rs ++ List.range' c k).map .con ++ (rs ++ List.range' c k).map .len) ∧
  C P f (renL (toCallee rs) args) (rs.map fun r => (H.at r).map (renO (toCallee rs))) K0 ∧
  ∀ y G, K0 y G → G.length = rs.length + k ∧ K (rs ++ List.range' c k) (c + k) (ren (toCl (rs ++ List.range' c k)) y) (setAll H (rs ++ List.range' c k) (G.map fun o => o.map (renO (toCl (rs ++ List.range' c k)))))
def onF (x : Option (AV × AH)) (c : Nat) (H : AH) (K : AV → AH → Prop) (_ : Tag K) : Prop :=
 ∃ (v : AV) (o : AObj), x = some (v, [some o]) ∧ c < H.length ∧ K (ren (toCl [c]) v) (H.set c (some o))
def onSt (c : Nat) (H : AH) (n : Nat) (p : AV) (x : Option (List AV)) (K : Nat → AH → Prop) (_ : Tag K) : Prop :=
 ∃ (r i j tot : Nat) (cs e : List AV) (o : AObj), p = .ptr r i j tot ∧ x = some cs ∧ liveO H r tot = some o ∧ o[i]? = some e ∧ (cs.length = n ∧ j + n ≤ e.length ∧ cs.all cellA = true) ∧ r < c ∧ K r (H.set r (some (o.set i (lay e j cs))))
def onStO (c : Nat) (H : AH) (n r i j : Nat) (cs : List AV) (x : Option AObj) (K : Nat → AH → Prop) : Prop :=
 match x with
 | some o =>
   match o[i]? with
   | some e => (cs.length = n ∧ j + n ≤ e.length ∧ cs.all cellA = true) ∧ r < c ∧ K r (H.set r (some (o.set i (lay e j cs))))
   | none => False
 | none => False
def onQ (q : Option (Option Bool)) (K : Bool → Prop) (_ : Tag K) : Prop := ∃ c, q = some c ∧ ∀ b, (∀ d, c = some d → b = d) → K b
section
variable {P : Program} {n0 : Nat} {tab : List (List Nat)}
theorem WT_drawE {segs : List (List (Nat × AInstr))} {Q : APost} {fr : List AV} {H : AH} {m n} (h : WDT P tab segs (Q .normal) fr H .mk .mk) : WT P n0 (.dregE segs tab) Q fr H m n := W_dregE h
theorem WDT_nil (K : List AV → AH → Prop) (fr : List AV) (H : AH) (t u) : WDT P tab [] K fr H t u = K fr H := (_root_.id rfl)
theorem WDT_one (i : Nat) (ins : AInstr) (rest : List (List (Nat × AInstr))) (K : List AV → AH → Prop) (fr : List AV) (H : AH) (t u) : WDT P tab ([(i, ins)] :: rest) K fr H t u = RT P [ins] (fun fr H => WDT P tab rest K fr H .mk .mk) fr H .mk .mk := (_root_.id rfl)
theorem WDT_more (m : Nat) {x y : Nat × AInstr} {z : List (Nat × AInstr)} {rest : List (List (Nat × AInstr))} {K : List AV → AH → Prop} {fr : List AV} {H : AH} {t u}
 (h : RET P tab (x :: y :: z) H.length [] (fun fr H => WDT P tab rest K fr H .mk .mk) fr (H ++ List.replicate m none) .mk .mk) : WDT P tab ((x :: y :: z) :: rest) K fr H t u := ⟨m, h⟩
variable (d : Option Nat) (rest : List (Nat × AInstr)) (i c : Nat) (lg : List LogE) (K : List AV → AH → Prop) (fr : List AV) (H : AH)
theorem refC_ptr (r i j tot : Nat) : refC (.ptr r i j tot) = [.con r] := (_root_.id rfl)
theorem refC_own (r sz off len tot : Nat) : refC (.own r sz off len tot) = [.con r] := (_root_.id rfl)
theorem refC_fptr (cs : List PV) : refC (.fptr cs) = [] := (_root_.id rfl)
theorem refL_ptr (r i j tot : Nat) : refL (.ptr r i j tot) = [.len r] := (_root_.id rfl)
theorem refL_own (r sz off len tot : Nat) : refL (.own r sz off len tot) = [.len r] := (_root_.id rfl)
theorem refL_fptr (cs : List PV) : refL (.fptr cs) = [] := (_root_.id rfl)
theorem refL_fz (es : List (List PV)) : refL (.fz es) = [] := (_root_.id rfl)
theorem refL_emp : refL .emp = [] := (_root_.id rfl)
theorem refL_str (t : List UInt8) : refL (.str t) = [] := (_root_.id rfl)
theorem RE_nil (t u) : RET P tab [] c lg K fr H t u = (confOK tab lg = true ∧ K fr H) := (_root_.id rfl)
theorem RET_E {op : AOp} (hF : ∀ (P : Program) d c fr H late K, stepF P op d c fr H late K = False) (d : Option Nat) (rest : List (Nat × AInstr)) (i c : Nat) (lg : List LogE) (K : List AV → AH → Prop) (fr : List AV) (H : AH) (t u) :
 RET P tab ((i, ⟨d, none, op⟩) :: rest) c lg K fr H t u = stepE P op d c fr H fun R W c' fr' H' => RET P tab rest c' (lg ++ [entry i ⟨d, none, op⟩ R W]) K fr' H' .mk .mk := by
 show (stepE P op d c fr H _ ∨ stepF P op d c fr H _ _) = _
 rw [hF, or_false]
 rfl
theorem RET_0 {op : AOp} (hF : ∀ (P : Program) d c fr H late K, stepF P op d c fr H late K = False) (hs : ∀ (P : Program) d c fr H K, stepE P op d c fr H K = ∃ v, aop0 op (evalA fr) H = some v ∧ K (hread op (evalA fr)) [] c (setA fr d v) H) (d : Option Nat) (rest : List (Nat × AInstr)) (i c : Nat) (lg : List LogE) (K : List AV → AH → Prop) (fr : List AV) (H : AH) (t u) :
 RET P tab ((i, ⟨d, none, op⟩) :: rest) c lg K fr H t u = onV (aop0 op (evalA fr) H) (fun v => RET P tab rest c (lg ++ [entry i ⟨d, none, op⟩ (hread op (evalA fr)) []]) K (setA fr d v) H .mk .mk) .mk := by
 rw [RET_E hF, hs]
 rfl
theorem RE_call (f : FuncId) (args : List Opd) (t u) : RET P tab ((i, ⟨d, none, .call f args⟩) :: rest) c lg K fr H t u =
 CFT P f (args.map (evalA fr)) c H (Late tab lg i ⟨d, none, .call f args⟩ rest) (fun all c' v H' => RET P tab rest c' (lg ++ [entry i ⟨d, none, .call f args⟩ (all.map .con) (all.map .con ++ all.map .len)]) K (setA fr d v) H' .mk .mk) .mk := (_root_.id rfl)
theorem RE_store (n : Nat) (p x : Opd) (t u) : RET P tab ((i, ⟨d, none, .store n p x⟩) :: rest) c lg K fr H t u =
 onSt c H n (evalA fr p) (cellsOf (evalA fr x)) (fun r H' => RET P tab rest c (lg ++ [entry i ⟨d, none, .store n p x⟩ [.con r] [.con r]]) K (setA fr d .top) H' .mk .mk) .mk := RET_E (fun _ _ _ _ _ _ _ => rfl) _ _ _ _ _ _ _ _ _ _
theorem RE_alloc (cs : List AV) (t u) : RET P tab ((i, ⟨d, none, .alloc cs⟩) :: rest) c lg K fr H t u =
 onF (if cs.length ≠ 0 then some (.ptr 0 0 0 1, [some [cs]]) else none) c H (fun v H' => RET P tab rest (c + 1) (lg ++ [entry i ⟨d, none, .alloc cs⟩ [.con c] [.con c, .len c]]) K (setA fr d v) H' .mk .mk) .mk := RET_E (fun _ _ _ _ _ _ _ => rfl) _ _ _ _ _ _ _ _ _ _
theorem RE_box (x : Opd) (t u) : RET P tab ((i, ⟨d, none, .box x⟩) :: rest) c lg K fr H t u =
 onF (boxV [] (evalA fr x)) c H (fun v H' => RET P tab rest (c + 1) (lg ++ [entry i ⟨d, none, .box x⟩ [.con c] [.con c, .len c]]) K (setA fr d v) H' .mk .mk) .mk := RET_E (fun _ _ _ _ _ _ _ => rfl) _ _ _ _ _ _ _ _ _ _
theorem RE_convsb (x : Opd) (t u) : RET P tab ((i, ⟨d, none, .convsb x⟩) :: rest) c lg K fr H t u =
 onF (convsbV [] (evalA fr x)) c H (fun v H' => RET P tab rest (c + 1) (lg ++ [entry i ⟨d, none, .convsb x⟩ [.con c] [.con c, .len c]]) K (setA fr d v) H' .mk .mk) .mk := RET_E (fun _ _ _ _ _ _ _ => rfl) _ _ _ _ _ _ _ _ _ _
theorem RE_mksl (sz bytes : Nat) (zero : List AV) (l k : Opd) (t u) : RET P tab ((i, ⟨d, none, .mksl sz bytes zero l k⟩) :: rest) c lg K fr H t u =
 onF (mkslV [] sz bytes zero (evalA fr l) (evalA fr k)) c H (fun v H' => RET P tab rest (c + 1) (lg ++ [entry i ⟨d, none, .mksl sz bytes zero l k⟩ [.con c] [.con c, .len c]]) K (setA fr d v) H' .mk .mk) .mk := RET_E (fun _ _ _ _ _ _ _ => rfl) _ _ _ _ _ _ _ _ _ _
theorem RE_bslice (sz len : Nat) (zero : List AV) (parts : List (Nat × Opd)) (t u) : RET P tab ((i, ⟨d, none, .bslice sz len zero parts⟩) :: rest) c lg K fr H t u =
 onF (bslC [] sz len (fillA (evalA fr) (List.replicate len zero).flatten (parts.map fun x => (x.1 * sz, sz, x.2)))) c H (fun v H' => RET P tab rest (c + 1) (lg ++ [entry i ⟨d, none, .bslice sz len zero parts⟩ [.con c] [.con c, .len c]]) K (setA fr d v) H' .mk .mk) .mk := by
 have : ∀ (x : Option (List AV)), bslC [] sz len x = match x with | some cells => if cells.all cellA = true then some (.own 0 sz 0 len len, [some (chunks sz len cells)]) else none | none => none := fun x => by cases x <;> rfl
 rw [this]
 exact RET_E (fun _ _ _ _ _ _ _ => rfl) _ _ _ _ _ _ _ _ _ _
theorem onF_some (v : AV) (o : AObj) (c : Nat) (H : AH) (K : AV → AH → Prop) (m) : onF (some (v, [some o])) c H K m = (c < H.length ∧ K (ren (toCl [c]) v) (H.set c (some o))) := by
 apply propext
 constructor
 ·rintro ⟨v', o', h2, h3, h4⟩
  cases h2
  exact ⟨h3, h4⟩
 ·rintro ⟨h2, h3⟩
  exact ⟨v, o, rfl, h2, h3⟩
theorem onF_ite (q : Prop) [Decidable q] (x : Option (AV × AH)) (c : Nat) (H : AH) (K : AV → AH → Prop) (m) : onF (if q then x else none) c H K m = (q ∧ onF x c H K m) := by
 apply propext
 by_cases h : q
 ·simp [h]
 ·simp [h, onF]
theorem onSt_some (c : Nat) (H : AH) (n r i j tot : Nat) (cs : List AV) (K : Nat → AH → Prop) (m) : onSt c H n (.ptr r i j tot) (some cs) K m = onStO c H n r i j cs (liveO H r tot) K := by
 apply propext
 unfold onStO
 constructor
 ·rintro ⟨r', i', j', tot', cs', e, o, h1, h2, h3, h4, h5, h6, h7⟩
  cases h1; cases h2
  rw [h3]
  simp only [h4]
  exact ⟨h5, h6, h7⟩
 ·intro h
  split at h
  ·rename_i o ho
   split at h
   ·rename_i e he
    exact ⟨r, i, j, tot, cs, e, o, rfl, rfl, ho, he, h.1, h.2.1, h.2.2⟩
   ·exact h.elim
  ·exact h.elim
theorem CET_ok {f : FuncId} {args : List AV} {c : Nat} {H : AH} {late : List Loc → List Loc → Prop} {K : List Nat → Nat → AV → AH → Prop} {m} (rs : List Nat) (k : Nat) {x : AV} {H1 : AH} {K0 : AV → AH → Prop} (hC : C P f (renL (toCallee rs) args) (rs.map fun r => (H.at r).map (renO (toCallee rs))) K0) (hK : ∀ y G, K0 y G → y = x ∧ G = H1)
 (h : rs.Nodup ∧ (∀ r ∈ rs, r < c) ∧ c + k ≤ H.length ∧ H1.length = rs.length + k) (hk : K (rs ++ List.range' c k) (c + k) (ren (toCl (rs ++ List.range' c k)) x) (setAll H (rs ++ List.range' c k) (H1.map fun o => o.map (renO (toCl (rs ++ List.range' c k)))))) : CFT P f args c H late K m :=
 .inl ⟨rs, k, x, H1, h.1, h.2.1, h.2.2.1, h.2.2.2, hC.mono hK, hk⟩
theorem CFT_ok {f : FuncId} {args : List AV} {c : Nat} {H : AH} {late : List Loc → List Loc → Prop} {K : List Nat → Nat → AV → AH → Prop} {m} (rs : List Nat) (k : Nat) {K0 : AV → AH → Prop} (hC : C P f (renL (toCallee rs) args) (rs.map fun r => (H.at r).map (renO (toCallee rs))) K0)
 (h : rs.Nodup ∧ (∀ r ∈ rs, r < c) ∧ c + k ≤ H.length) (hl : late ((rs ++ List.range' c k).map .con) ((rs ++ List.range' c k).map .con ++ (rs ++ List.range' c k).map .len))
 (hk : ∀ y G, K0 y G → G.length = rs.length + k ∧ K (rs ++ List.range' c k) (c + k) (ren (toCl (rs ++ List.range' c k)) y) (setAll H (rs ++ List.range' c k) (G.map fun o => o.map (renO (toCl (rs ++ List.range' c k)))))) : CFT P f args c H late K m :=
 .inr ⟨rs, k, K0, h.1, h.2.1, h.2.2, hl, hC, hk⟩
variable (ii cc : Nat)
theorem RE_mv (x : Opd) (t u) : RET P tab ((ii, ⟨d, none, .mv x⟩) :: rest) cc lg K fr H t u = RET P tab rest cc (lg ++ [entry ii ⟨d, none, .mv x⟩ [] []]) K (setA fr d (evalA fr x)) H .mk .mk := by rw [RET_0 (fun _ _ _ _ _ _ _ => rfl) (fun _ _ _ _ _ _ => rfl)]; exact onV_some _ _ _
theorem RE_pick (c a b : Opd) (t u) : RET P tab ((ii, ⟨d, none, .pick c a b⟩) :: rest) cc lg K fr H t u = onV (pickV (evalA fr c) (evalA fr a) (evalA fr b)) (fun v => RET P tab rest cc (lg ++ [entry ii ⟨d, none, .pick c a b⟩ [] []]) K (setA fr d v) H .mk .mk) .mk := RET_0 (fun _ _ _ _ _ _ _ => rfl) (fun _ _ _ _ _ _ => rfl) _ _ _ _ _ _ _ _ _ _
theorem RE_build (zero : List AV) (parts : List (Nat × Nat × Opd)) (t u) : RET P tab ((ii, ⟨d, none, .build zero parts⟩) :: rest) cc lg K fr H t u = onV ((fillA (evalA fr) zero parts).map .agg) (fun v => RET P tab rest cc (lg ++ [entry ii ⟨d, none, .build zero parts⟩ [] []]) K (setA fr d v) H .mk .mk) .mk := RET_0 (fun _ _ _ _ _ _ _ => rfl) (fun _ _ _ _ _ _ => rfl) _ _ _ _ _ _ _ _ _ _
theorem RE_load (agg : Bool) (n : Nat) (x : Opd) (t u) : RET P tab ((ii, ⟨d, none, .load agg n x⟩) :: rest) cc lg K fr H t u = onV ((readAt H n (evalA fr x)).map (unAgg agg)) (fun v => RET P tab rest cc (lg ++ [entry ii ⟨d, none, .load agg n x⟩ (refC (evalA fr x)) []]) K (setA fr d v) H .mk .mk) .mk := RET_0 (fun _ _ _ _ _ _ _ => rfl) (fun _ _ _ _ _ _ => rfl) _ _ _ _ _ _ _ _ _ _
theorem RE_bini (op : BinOp) (x y : Opd) (t u) : RET P tab ((ii, ⟨d, none, .bini op x y⟩) :: rest) cc lg K fr H t u = onV (biniV op (evalA fr x) (evalA fr y)) (fun v => RET P tab rest cc (lg ++ [entry ii ⟨d, none, .bini op x y⟩ [] []]) K (setA fr d v) H .mk .mk) .mk := RET_0 (fun _ _ _ _ _ _ _ => rfl) (fun _ _ _ _ _ _ => rfl) _ _ _ _ _ _ _ _ _ _
theorem RE_bins (op : BinOp) (x y : Opd) (t u) : RET P tab ((ii, ⟨d, none, .bins op x y⟩) :: rest) cc lg K fr H t u = onV (binsV op (evalA fr x) (evalA fr y)) (fun v => RET P tab rest cc (lg ++ [entry ii ⟨d, none, .bins op x y⟩ [] []]) K (setA fr d v) H .mk .mk) .mk := RET_0 (fun _ _ _ _ _ _ _ => rfl) (fun _ _ _ _ _ _ => rfl) _ _ _ _ _ _ _ _ _ _
theorem RE_eqb (neg : Bool) (x y : Opd) (t u) : RET P tab ((ii, ⟨d, none, .eqb neg x y⟩) :: rest) cc lg K fr H t u = onV (eqbV neg (evalA fr x) (evalA fr y)) (fun v => RET P tab rest cc (lg ++ [entry ii ⟨d, none, .eqb neg x y⟩ [] []]) K (setA fr d v) H .mk .mk) .mk := RET_0 (fun _ _ _ _ _ _ _ => rfl) (fun _ _ _ _ _ _ => rfl) _ _ _ _ _ _ _ _ _ _
theorem RE_un (op : UnOp) (x : Opd) (t u) : RET P tab ((ii, ⟨d, none, .un op x⟩) :: rest) cc lg K fr H t u = onV (unV op (evalA fr x)) (fun v => RET P tab rest cc (lg ++ [entry ii ⟨d, none, .un op x⟩ [] []]) K (setA fr d v) H .mk .mk) .mk := RET_0 (fun _ _ _ _ _ _ _ => rfl) (fun _ _ _ _ _ _ => rfl) _ _ _ _ _ _ _ _ _ _
theorem RE_convi (k : IntKind) (x : Opd) (t u) : RET P tab ((ii, ⟨d, none, .convi k x⟩) :: rest) cc lg K fr H t u = onV (conviV k (evalA fr x)) (fun v => RET P tab rest cc (lg ++ [entry ii ⟨d, none, .convi k x⟩ [] []]) K (setA fr d v) H .mk .mk) .mk := RET_0 (fun _ _ _ _ _ _ _ => rfl) (fun _ _ _ _ _ _ => rfl) _ _ _ _ _ _ _ _ _ _
theorem RE_convss (x : Opd) (t u) : RET P tab ((ii, ⟨d, none, .convss x⟩) :: rest) cc lg K fr H t u = onV (convssV (evalA fr x)) (fun v => RET P tab rest cc (lg ++ [entry ii ⟨d, none, .convss x⟩ [] []]) K (setA fr d v) H .mk .mk) .mk := RET_0 (fun _ _ _ _ _ _ _ => rfl) (fun _ _ _ _ _ _ => rfl) _ _ _ _ _ _ _ _ _ _
theorem RE_convbs (x : Opd) (t u) : RET P tab ((ii, ⟨d, none, .convbs x⟩) :: rest) cc lg K fr H t u = onV (((elemsOf H (evalA fr x)).bind bytesOf).map .str) (fun v => RET P tab rest cc (lg ++ [entry ii ⟨d, none, .convbs x⟩ (refC (evalA fr x)) []]) K (setA fr d v) H .mk .mk) .mk := RET_0 (fun _ _ _ _ _ _ _ => rfl) (fun _ _ _ _ _ _ => rfl) _ _ _ _ _ _ _ _ _ _
theorem RE_slices (x : Opd) (lo hi : Option Opd) (t u) : RET P tab ((ii, ⟨d, none, .slices x lo hi⟩) :: rest) cc lg K fr H t u = onV (slicesV (evalA fr) (evalA fr x) lo hi) (fun v => RET P tab rest cc (lg ++ [entry ii ⟨d, none, .slices x lo hi⟩ [] []]) K (setA fr d v) H .mk .mk) .mk := RET_0 (fun _ _ _ _ _ _ _ => rfl) (fun _ _ _ _ _ _ => rfl) _ _ _ _ _ _ _ _ _ _
theorem RE_faddr (off : Nat) (x : Opd) (t u) : RET P tab ((ii, ⟨d, none, .faddr off x⟩) :: rest) cc lg K fr H t u = onV (faddrV H off (evalA fr x)) (fun v => RET P tab rest cc (lg ++ [entry ii ⟨d, none, .faddr off x⟩ (refL (evalA fr x)) []]) K (setA fr d v) H .mk .mk) .mk := RET_0 (fun _ _ _ _ _ _ _ => rfl) (fun _ _ _ _ _ _ => rfl) _ _ _ _ _ _ _ _ _ _
theorem RE_field (agg : Bool) (off n : Nat) (x : Opd) (t u) : RET P tab ((ii, ⟨d, none, .field agg off n x⟩) :: rest) cc lg K fr H t u = onV (fieldV agg off n (evalA fr x)) (fun v => RET P tab rest cc (lg ++ [entry ii ⟨d, none, .field agg off n x⟩ [] []]) K (setA fr d v) H .mk .mk) .mk := RET_0 (fun _ _ _ _ _ _ _ => rfl) (fun _ _ _ _ _ _ => rfl) _ _ _ _ _ _ _ _ _ _
theorem RE_indexs (x i : Opd) (t u) : RET P tab ((ii, ⟨d, none, .indexs x i⟩) :: rest) cc lg K fr H t u = onV (indexsV (evalA fr x) (evalA fr i)) (fun v => RET P tab rest cc (lg ++ [entry ii ⟨d, none, .indexs x i⟩ [] []]) K (setA fr d v) H .mk .mk) .mk := RET_0 (fun _ _ _ _ _ _ _ => rfl) (fun _ _ _ _ _ _ => rfl) _ _ _ _ _ _ _ _ _ _
theorem RE_ext (x : Opd) (i : Nat) (t u) : RET P tab ((ii, ⟨d, none, .ext x i⟩) :: rest) cc lg K fr H t u = onV (extV (evalA fr x) i) (fun v => RET P tab rest cc (lg ++ [entry ii ⟨d, none, .ext x i⟩ [] []]) K (setA fr d v) H .mk .mk) .mk := RET_0 (fun _ _ _ _ _ _ _ => rfl) (fun _ _ _ _ _ _ => rfl) _ _ _ _ _ _ _ _ _ _
theorem RE_lens (x : Opd) (t u) : RET P tab ((ii, ⟨d, none, .len true x⟩) :: rest) cc lg K fr H t u = onV (lensV (evalA fr x)) (fun v => RET P tab rest cc (lg ++ [entry ii ⟨d, none, .len true x⟩ (refL (evalA fr x)) []]) K (setA fr d v) H .mk .mk) .mk := RET_0 (fun _ _ _ _ _ _ _ => rfl) (fun _ _ _ _ _ _ => rfl) _ _ _ _ _ _ _ _ _ _
theorem RE_len (x : Opd) (t u) : RET P tab ((ii, ⟨d, none, .len false x⟩) :: rest) cc lg K fr H t u = onV (lenV H (evalA fr x)) (fun v => RET P tab rest cc (lg ++ [entry ii ⟨d, none, .len false x⟩ (refL (evalA fr x)) []]) K (setA fr d v) H .mk .mk) .mk := RET_0 (fun _ _ _ _ _ _ _ => rfl) (fun _ _ _ _ _ _ => rfl) _ _ _ _ _ _ _ _ _ _
theorem RE_min2 (x y : Opd) (t u) : RET P tab ((ii, ⟨d, none, .min2 x y⟩) :: rest) cc lg K fr H t u = onV (min2V (evalA fr x) (evalA fr y)) (fun v => RET P tab rest cc (lg ++ [entry ii ⟨d, none, .min2 x y⟩ [] []]) K (setA fr d v) H .mk .mk) .mk := RET_0 (fun _ _ _ _ _ _ _ => rfl) (fun _ _ _ _ _ _ => rfl) _ _ _ _ _ _ _ _ _ _
theorem RE_max2 (x y : Opd) (t u) : RET P tab ((ii, ⟨d, none, .max2 x y⟩) :: rest) cc lg K fr H t u = onV (max2V (evalA fr x) (evalA fr y)) (fun v => RET P tab rest cc (lg ++ [entry ii ⟨d, none, .max2 x y⟩ [] []]) K (setA fr d v) H .mk .mk) .mk := RET_0 (fun _ _ _ _ _ _ _ => rfl) (fun _ _ _ _ _ _ => rfl) _ _ _ _ _ _ _ _ _ _
theorem RE_iaddr (sz : Nat) (x i : Opd) (t u) : RET P tab ((ii, ⟨d, none, .iaddr sz x i⟩) :: rest) cc lg K fr H t u = onV (iaddrV H sz (evalA fr x) (evalA fr i)) (fun v => RET P tab rest cc (lg ++ [entry ii ⟨d, none, .iaddr sz x i⟩ (refL (evalA fr x)) []]) K (setA fr d v) H .mk .mk) .mk := RET_0 (fun _ _ _ _ _ _ _ => rfl) (fun _ _ _ _ _ _ => rfl) _ _ _ _ _ _ _ _ _ _
theorem RE_mkfn (f : Fn) (first cap : List Opd) (t u) : RET P tab ((ii, ⟨d, none, .mkfn f first cap⟩) :: rest) cc lg K fr H t u = RET P tab rest cc (lg ++ [entry ii ⟨d, none, .mkfn f first cap⟩ [] []]) K (setA fr d (.fn f (first.map (evalA fr)) (cap.map (evalA fr)))) H .mk .mk := by rw [RET_0 (fun _ _ _ _ _ _ _ => rfl) (fun _ _ _ _ _ _ => rfl)]; exact onV_some _ _ _
theorem RE_iaddra (len : Nat) (sz : Nat) (x : Opd) (i : Opd) (t u) : RET P tab ((ii, ⟨d, none, .iaddra len sz x i⟩) :: rest) cc lg K fr H t u = onV (iaddraV H len sz (evalA fr x) (evalA fr i)) (fun v => RET P tab rest cc (lg ++ [entry ii ⟨d, none, .iaddra len sz x i⟩ (refL (evalA fr x)) []]) K (setA fr d v) H .mk .mk) .mk := RET_0 (fun _ _ _ _ _ _ _ => rfl) (fun _ _ _ _ _ _ => rfl) _ _ _ _ _ _ _ _ _ _
theorem RE_eqs (neg : Bool) (ks : List EK) (x : Opd) (y : Opd) (t u) : RET P tab ((ii, ⟨d, none, .eqs neg ks x y⟩) :: rest) cc lg K fr H t u = onV (eqsV H neg ks (evalA fr x) (evalA fr y)) (fun v => RET P tab rest cc (lg ++ [entry ii ⟨d, none, .eqs neg ks x y⟩ [] []]) K (setA fr d v) H .mk .mk) .mk := RET_0 (fun _ _ _ _ _ _ _ => rfl) (fun _ _ _ _ _ _ => rfl) _ _ _ _ _ _ _ _ _ _
theorem RE_slicez (x : Opd) (t u) : RET P tab ((ii, ⟨d, none, .slicez x⟩) :: rest) cc lg K fr H t u = onV (slicezV H (evalA fr x)) (fun v => RET P tab rest cc (lg ++ [entry ii ⟨d, none, .slicez x⟩ (refL (evalA fr x)) []]) K (setA fr d v) H .mk .mk) .mk := RET_0 (fun _ _ _ _ _ _ _ => rfl) (fun _ _ _ _ _ _ => rfl) _ _ _ _ _ _ _ _ _ _
variable (restA : List AInstr)
theorem RT_eqnil (neg : Bool) (x : Opd) (t u) : RT P (⟨d, none, .eqnil neg x⟩ :: restA) K fr H t u = onQ (nilq H (evalA fr x)) (fun b => RT P restA K (setA fr d (.bool (b != neg))) H .mk .mk) .mk := (_root_.id rfl)
theorem nilq_emp : nilq H .emp = some none := (_root_.id rfl)
theorem nilq_fz (es : List (List PV)) : nilq H (.fz es) = some (if es = [] then none else some false) := by cases es <;> rfl
theorem nilq_own (r sz off len tot : Nat) : nilq H (.own r sz off len tot) = (liveO H r tot).map fun _ => if 0 < len then some false else none := (_root_.id rfl)
theorem onQ_some (K : Bool → Prop) (b : Bool) (m) : onQ (some (some b)) K m = K b := by cases b <;> simp [onQ]
theorem onQ_none (K : Bool → Prop) (m) : onQ (some none) K m = ∀ b, K b := by simp [onQ]
theorem Wk_emp {n0 : Nat} {H : AH} (sz : Nat) : Wk n0 [.emp] H [.own H.length sz 0 0 0] (H ++ [some []]) := by
 intro E w vs hs hr
 refine ⟨E, LeN.refl _ _, hs.newEmpty, hr.1, fun i x u hx hu => ?_⟩
 match i, hx, hu with
 | 0, hx, hu =>
   simp at hx; subst hx
   obtain ⟨a, rfl⟩ := rep_emp (hr.2 0 _ u rfl hu)
   exact .own0 _ _ _
 | i + 1, hx, _ => simp at hx
end
end Go.Proofs.YtemjlopoffjmpaaGreat.Abs
