/-
  The abstract layer, part 39: equations for slices of slices, for what is appended within an object, for what is cleared.
-/
import Derived.Test.YtemjlopoffjmpaaGreatSOAbs38
set_option linter.unusedSimpArgs false
set_option linter.unusedVariables false
namespace Go.Proofs.YtemjlopoffjmpaaGreat.Abs
open Go
def onLive (x : Option AObj) (y : Option AV) : Option AV :=
 match x with
 | some _ => y
 | none => none
theorem onLive_some (o : AObj) (y : Option AV) : onLive (some o) y = y := (_root_.id rfl)
def slicelV (H : AH) (sz : Nat) (ev : Opd → AV) (x : AV) (lo hi : Option Opd) : Option AV :=
 match x with
 | .fz es =>
   match bnd ev hi es.length es.length with
   | some h =>
     match bnd ev lo 0 h with
     | some l => if ((es.take h).drop l).all (fun e => decide (e.length = sz)) then some (.fz ((es.take h).drop l)) else none
     | none => none
   | none => none
 | .emp =>
   match bnd ev hi 0 0 with
   | some _ =>
     match bnd ev lo 0 0 with
     | some _ => some .emp
     | none => none
   | none => none
 | .own r sz' off len tot =>
   match liveO H r tot with
   | some _ =>
     if off ≤ tot ∧ sz' = sz then
      match bnd ev hi len (tot - off) with
      | some h =>
        match bnd ev lo 0 h with
        | some l =>
          if l = 0 then some (.own r sz off h tot)
          else if h ≤ l then some (.fz [])
          else some (.own r sz (off + l) (h - l) tot)
        | none => none
      | none => none
     else none
   | none => none
 | _ => none
theorem slicelV_own (H : AH) (sz : Nat) (ev : Opd → AV) (r off len tot : Nat) (lo hi : Option Opd) : slicelV H sz ev (.own r sz off len tot) lo hi =
 onLive (liveO H r tot) (if off ≤ tot then onN (bnd ev hi len (tot - off)) fun h => onN (bnd ev lo 0 h) fun l => if l = 0 then some (.own r sz off h tot) else if h ≤ l then some (.fz []) else some (.own r sz (off + l) (h - l) tot) else none) := by
 simp only [slicelV, onLive]
 cases liveO H r tot with
 | none => rfl
 | some o =>
   simp only [and_true]
   by_cases h : off ≤ tot
   ·rw [if_pos h, if_pos h]
    cases bnd ev hi len (tot - off) with
    | none => rfl
    | some h =>
      simp only [onN]
      cases bnd ev lo 0 h <;> rfl
   ·rw [if_neg h, if_neg h]
theorem slicelV_fz (H : AH) (sz : Nat) (ev : Opd → AV) (es : List (List PV)) (lo hi : Option Opd) : slicelV H sz ev (.fz es) lo hi =
 onN (bnd ev hi es.length es.length) fun h => onN (bnd ev lo 0 h) fun l => if ((es.take h).drop l).all (fun e => decide (e.length = sz)) = true then some (.fz ((es.take h).drop l)) else none := (_root_.id rfl)
section
variable {P : Program} (d : Option Nat) (rest : List AInstr) (K : List AV → AH → Prop) (fr : List AV) (H : AH)
theorem RT_slicel (sz : Nat) (x : Opd) (lo hi : Option Opd) (t u) : RT P (⟨d, none, .slicel sz x lo hi⟩ :: rest) K fr H t u = onV (slicelV H sz (evalA fr) (evalA fr x) lo hi) (fun v => RT P rest K (setA fr d v) H .mk .mk) .mk := RT_0 (fun _ _ _ _ _ => rfl) (fun _ _ => rfl) _ _ _ _ _ _ _
end
section
variable {P : Program} {tab : List (List Nat)} (rest : List (Nat × AInstr)) (lg : List LogE) (K : List AV → AH → Prop) (fr : List AV) (H : AH) (d : Option Nat) (ii cc : Nat)
theorem RE_slicel (sz : Nat) (x : Opd) (lo hi : Option Opd) (t u) : RET P tab ((ii, ⟨d, none, .slicel sz x lo hi⟩) :: rest) cc lg K fr H t u = onV (slicelV H sz (evalA fr) (evalA fr x) lo hi) (fun v => RET P tab rest cc (lg ++ [entry ii ⟨d, none, .slicel sz x lo hi⟩ (refL (evalA fr x)) []]) K (setA fr d v) H .mk .mk) .mk := RET_0 (fun _ _ _ _ _ _ _ => rfl) (fun _ _ _ _ _ _ => rfl) _ _ _ _ _ _ _ _ _ _
end
def slice3V (H : AH) (ev : Opd → AV) (x : AV) (lo hi mx : Opd) : Option AV :=
 match roomOf H x with
 | some c =>
   match bnd ev (some mx) 0 c with
   | some m =>
     match bnd ev (some hi) 0 m with
     | some h =>
       match bnd ev (some lo) 0 h with
       | some _ => some .top
       | none => none
     | none => none
   | none => none
 | none => none
def room3 (ev : Opd → AV) (lo hi mx : Opd) : Option Nat → Option AV
 | some c => onN (bndV (ev mx) c) fun m => onN (bndV (ev hi) m) fun h => onN (bndV (ev lo) h) fun _ => some .top
 | none => none
theorem slice3V_eq (H : AH) (ev : Opd → AV) (x : AV) (lo hi mx : Opd) : slice3V H ev x lo hi mx = room3 ev lo hi mx (roomOf H x) := by
 simp only [slice3V]
 cases roomOf H x with
 | none => rfl
 | some c => rfl
theorem room3_some (ev : Opd → AV) (lo hi mx : Opd) (c : Nat) : room3 ev lo hi mx (some c) = onN (bndV (ev mx) c) fun m => onN (bndV (ev hi) m) fun h => onN (bndV (ev lo) h) fun _ => some .top := (_root_.id rfl)
theorem roomOf_own (H : AH) (r sz off len tot : Nat) : roomOf H (.own r sz off len tot) = (liveO H r tot).map fun _ => tot - off := (_root_.id rfl)
theorem roomOf_fz (H : AH) (es : List (List PV)) : roomOf H (.fz es) = some es.length := (_root_.id rfl)
section
variable {P : Program} (d : Option Nat) (rest : List AInstr) (K : List AV → AH → Prop) (fr : List AV) (H : AH)
theorem RT_slice3 (x lo hi mx : Opd) (t u) : RT P (⟨d, none, .slice3 x lo hi mx⟩ :: rest) K fr H t u = onV (slice3V H (evalA fr) (evalA fr x) lo hi mx) (fun v => RT P rest K (setA fr d v) H .mk .mk) .mk := RT_0 (fun _ _ _ _ _ => rfl) (fun _ _ => rfl) _ _ _ _ _ _ _
theorem RT_calld (x : Opd) (args : List Opd) (t u) :
 RT P (⟨d, none, .calld x args⟩ :: rest) K fr H t u = ∃ f first cap, evalA fr x = .fn (.func f) first cap ∧ C P f (first ++ args.map (evalA fr) ++ cap) H fun y H' => RT P rest K (setA fr d y) H' .mk .mk := (_root_.id rfl)
end
def apI (H : AH) (sz r off len tot : Nat) : Option (List (List AV)) → Option AObj → Option (AV × AH)
 | some news, some o => if news.all (fun e => decide (e.length = sz)) = true ∧ off + len + news.length ≤ tot ∧ ¬ (off = 0 ∧ len = tot) then some (.own r sz off (len + news.length) tot, H.set r (some (o.take (off + len) ++ news ++ o.drop (off + len + news.length)))) else none
 | _, _ => none
theorem apI_some (H : AH) (sz r off len tot : Nat) (news : List (List AV)) (o : AObj) : apI H sz r off len tot (some news) (some o) = if news.all (fun e => decide (e.length = sz)) = true ∧ off + len + news.length ≤ tot ∧ ¬ (off = 0 ∧ len = tot) then some (.own r sz off (len + news.length) tot, H.set r (some (o.take (off + len) ++ news ++ o.drop (off + len + news.length)))) else none := (_root_.id rfl)
theorem appendV_in (H : AH) (sz bytes : Nat) (zero : List AV) (r off len tot : Nat) (y : AV) {v : AV} {H' : AH} (h : apI H sz r off len tot (srcOf H y) (liveO H r tot) = some (v, H')) : appendV H sz bytes zero (.own r sz off len tot) y = some (v, H') := by
 unfold appendV
 cases e1 : srcOf H y with
 | none => rw [e1] at h; cases h
 | some news =>
   rw [e1] at h
   cases e2 : liveO H r tot with
   | none => rw [e2] at h; cases h
   | some o =>
     rw [e2, apI_some] at h
     split at h
     ·rename_i hc
      cases h
      simp only [e2]
      rw [if_neg (by simp [hc.1]), if_neg hc.2.2, if_pos hc.2.1]
     ·cases h
def clC (H : AH) (r off len tot : Nat) (zero : List AV) : Option AObj → Option (AV × AH)
 | some o => if off + len ≤ tot then some (.tuple [], H.set r (some (o.take off ++ List.replicate len zero ++ o.drop (off + len)))) else none
 | none => none
theorem clC_some (H : AH) (r off len tot : Nat) (zero : List AV) (o : AObj) : clC H r off len tot zero (some o) = if off + len ≤ tot then some (.tuple [], H.set r (some (o.take off ++ List.replicate len zero ++ o.drop (off + len)))) else none := (_root_.id rfl)
theorem clearV_own (H : AH) (sz : Nat) (zero : List AV) (r off len tot : Nat) : clearV H sz zero (.own r sz off len tot) = clC H r off len tot zero (liveO H r tot) := by
 simp only [clearV, clC, and_true]
 cases liveO H r tot <;> rfl
theorem clearV_fz (H : AH) (sz : Nat) (zero : List AV) : clearV H sz zero (.fz []) = some (.tuple [], H) := (_root_.id rfl)
def SET (P : Program) (op : AOp) (d : Option Nat) (c : Nat) (fr : List AV) (H : AH) (K : List Loc → List Loc → Nat → List AV → AH → Prop) (_ : Tag K) : Prop := stepE P op d c fr H K
theorem RE_guardT {P : Program} {tab : List (List Nat)} (rest : List (Nat × AInstr)) (lg : List LogE) (K : List AV → AH → Prop) (fr : List AV) (H : AH) (d : Option Nat) (i c : Nat) (g : Nat) (want : Bool) (op : AOp) (t u) :
 RET P tab ((i, ⟨d, some (g, want), op⟩) :: rest) c lg K fr H t u = guardT (fr[g]?) want (SET P op d c fr H (fun R W c' fr' H' => RET P tab rest c' (lg ++ [entry i ⟨d, some (g, want), op⟩ R W]) K fr' H' .mk .mk) .mk) (RET P tab rest c (lg ++ [(i, [.slot g], dstL d)]) K (setA fr d (.tuple [])) H .mk .mk) .mk .mk := (_root_.id rfl)
section
variable {P : Program} (d : Option Nat) (cc : Nat) (fr : List AV) (H : AH) (K : List Loc → List Loc → Nat → List AV → AH → Prop)
theorem SET_0 {op : AOp} (hs : ∀ (P : Program) d c fr H K, stepE P op d c fr H K = ∃ v, aop0 op (evalA fr) H = some v ∧ K (hread op (evalA fr)) [] c (setA fr d v) H) (d : Option Nat) (c : Nat) (fr : List AV) (H : AH) (K : List Loc → List Loc → Nat → List AV → AH → Prop) (t) :
 SET P op d c fr H K t = onV (aop0 op (evalA fr) H) (fun v => K (hread op (evalA fr)) [] c (setA fr d v) H) .mk := by
 show stepE P op d c fr H K = _
 rw [hs]
 rfl
theorem SE_mv (x : Opd) (t) : SET P (.mv x) d cc fr H K t = K [] [] cc (setA fr d (evalA fr x)) H := by rw [SET_0 (fun _ _ _ _ _ _ => rfl)]; exact onV_some _ _ _
theorem SE_pick (c a b : Opd) (t) : SET P (.pick c a b) d cc fr H K t = onV (pickV (evalA fr c) (evalA fr a) (evalA fr b)) (fun v => K [] [] cc (setA fr d v) H) .mk := SET_0 (fun _ _ _ _ _ _ => rfl) _ _ _ _ _ _
theorem SE_build (zero : List AV) (parts : List (Nat × Nat × Opd)) (t) : SET P (.build zero parts) d cc fr H K t = onV ((fillA (evalA fr) zero parts).map .agg) (fun v => K [] [] cc (setA fr d v) H) .mk := SET_0 (fun _ _ _ _ _ _ => rfl) _ _ _ _ _ _
theorem SE_load (agg : Bool) (n : Nat) (x : Opd) (t) : SET P (.load agg n x) d cc fr H K t = onV ((readAt H n (evalA fr x)).map (unAgg agg)) (fun v => K (refC (evalA fr x)) [] cc (setA fr d v) H) .mk := SET_0 (fun _ _ _ _ _ _ => rfl) _ _ _ _ _ _
theorem SE_bini (op : BinOp) (x y : Opd) (t) : SET P (.bini op x y) d cc fr H K t = onV (biniV op (evalA fr x) (evalA fr y)) (fun v => K [] [] cc (setA fr d v) H) .mk := SET_0 (fun _ _ _ _ _ _ => rfl) _ _ _ _ _ _
theorem SE_bins (op : BinOp) (x y : Opd) (t) : SET P (.bins op x y) d cc fr H K t = onV (binsV op (evalA fr x) (evalA fr y)) (fun v => K [] [] cc (setA fr d v) H) .mk := SET_0 (fun _ _ _ _ _ _ => rfl) _ _ _ _ _ _
theorem SE_eqb (neg : Bool) (x y : Opd) (t) : SET P (.eqb neg x y) d cc fr H K t = onV (eqbV neg (evalA fr x) (evalA fr y)) (fun v => K [] [] cc (setA fr d v) H) .mk := SET_0 (fun _ _ _ _ _ _ => rfl) _ _ _ _ _ _
theorem SE_un (op : UnOp) (x : Opd) (t) : SET P (.un op x) d cc fr H K t = onV (unV op (evalA fr x)) (fun v => K [] [] cc (setA fr d v) H) .mk := SET_0 (fun _ _ _ _ _ _ => rfl) _ _ _ _ _ _
theorem SE_convi (k : IntKind) (x : Opd) (t) : SET P (.convi k x) d cc fr H K t = onV (conviV k (evalA fr x)) (fun v => K [] [] cc (setA fr d v) H) .mk := SET_0 (fun _ _ _ _ _ _ => rfl) _ _ _ _ _ _
theorem SE_convss (x : Opd) (t) : SET P (.convss x) d cc fr H K t = onV (convssV (evalA fr x)) (fun v => K [] [] cc (setA fr d v) H) .mk := SET_0 (fun _ _ _ _ _ _ => rfl) _ _ _ _ _ _
theorem SE_convbs (x : Opd) (t) : SET P (.convbs x) d cc fr H K t = onV (((elemsOf H (evalA fr x)).bind bytesOf).map .str) (fun v => K (refC (evalA fr x)) [] cc (setA fr d v) H) .mk := SET_0 (fun _ _ _ _ _ _ => rfl) _ _ _ _ _ _
theorem SE_slices (x : Opd) (lo hi : Option Opd) (t) : SET P (.slices x lo hi) d cc fr H K t = onV (slicesV (evalA fr) (evalA fr x) lo hi) (fun v => K [] [] cc (setA fr d v) H) .mk := SET_0 (fun _ _ _ _ _ _ => rfl) _ _ _ _ _ _
theorem SE_faddr (off : Nat) (x : Opd) (t) : SET P (.faddr off x) d cc fr H K t = onV (faddrV H off (evalA fr x)) (fun v => K (refL (evalA fr x)) [] cc (setA fr d v) H) .mk := SET_0 (fun _ _ _ _ _ _ => rfl) _ _ _ _ _ _
theorem SE_field (agg : Bool) (off n : Nat) (x : Opd) (t) : SET P (.field agg off n x) d cc fr H K t = onV (fieldV agg off n (evalA fr x)) (fun v => K [] [] cc (setA fr d v) H) .mk := SET_0 (fun _ _ _ _ _ _ => rfl) _ _ _ _ _ _
theorem SE_indexs (x i : Opd) (t) : SET P (.indexs x i) d cc fr H K t = onV (indexsV (evalA fr x) (evalA fr i)) (fun v => K [] [] cc (setA fr d v) H) .mk := SET_0 (fun _ _ _ _ _ _ => rfl) _ _ _ _ _ _
theorem SE_ext (x : Opd) (i : Nat) (t) : SET P (.ext x i) d cc fr H K t = onV (extV (evalA fr x) i) (fun v => K [] [] cc (setA fr d v) H) .mk := SET_0 (fun _ _ _ _ _ _ => rfl) _ _ _ _ _ _
theorem SE_lens (x : Opd) (t) : SET P (.len true x) d cc fr H K t = onV (lensV (evalA fr x)) (fun v => K (refL (evalA fr x)) [] cc (setA fr d v) H) .mk := SET_0 (fun _ _ _ _ _ _ => rfl) _ _ _ _ _ _
theorem SE_len (x : Opd) (t) : SET P (.len false x) d cc fr H K t = onV (lenV H (evalA fr x)) (fun v => K (refL (evalA fr x)) [] cc (setA fr d v) H) .mk := SET_0 (fun _ _ _ _ _ _ => rfl) _ _ _ _ _ _
theorem SE_min2 (x y : Opd) (t) : SET P (.min2 x y) d cc fr H K t = onV (min2V (evalA fr x) (evalA fr y)) (fun v => K [] [] cc (setA fr d v) H) .mk := SET_0 (fun _ _ _ _ _ _ => rfl) _ _ _ _ _ _
theorem SE_max2 (x y : Opd) (t) : SET P (.max2 x y) d cc fr H K t = onV (max2V (evalA fr x) (evalA fr y)) (fun v => K [] [] cc (setA fr d v) H) .mk := SET_0 (fun _ _ _ _ _ _ => rfl) _ _ _ _ _ _
theorem SE_iaddr (sz : Nat) (x i : Opd) (t) : SET P (.iaddr sz x i) d cc fr H K t = onV (iaddrV H sz (evalA fr x) (evalA fr i)) (fun v => K (refL (evalA fr x)) [] cc (setA fr d v) H) .mk := SET_0 (fun _ _ _ _ _ _ => rfl) _ _ _ _ _ _
theorem SE_iaddra (len : Nat) (sz : Nat) (x : Opd) (i : Opd) (t) : SET P (.iaddra len sz x i) d cc fr H K t = onV (iaddraV H len sz (evalA fr x) (evalA fr i)) (fun v => K (refL (evalA fr x)) [] cc (setA fr d v) H) .mk := SET_0 (fun _ _ _ _ _ _ => rfl) _ _ _ _ _ _
theorem SE_eqs (neg : Bool) (ks : List EK) (x : Opd) (y : Opd) (t) : SET P (.eqs neg ks x y) d cc fr H K t = onV (eqsV H neg ks (evalA fr x) (evalA fr y)) (fun v => K [] [] cc (setA fr d v) H) .mk := SET_0 (fun _ _ _ _ _ _ => rfl) _ _ _ _ _ _
theorem SE_slicez (x : Opd) (t) : SET P (.slicez x) d cc fr H K t = onV (slicezV H (evalA fr x)) (fun v => K (refL (evalA fr x)) [] cc (setA fr d v) H) .mk := SET_0 (fun _ _ _ _ _ _ => rfl) _ _ _ _ _ _
end
def onAp (c : Nat) (H : AH) (sz bytes : Nat) (a : AV) (s : Option (List (List AV))) (K : Nat → AV → AH → Prop) (_ : Tag K) : Prop :=
 ∃ (r len : Nat) (news : List (List AV)) (o : AObj), a = .own r sz 0 len len ∧ s = some news ∧ liveO H r len = some o ∧ (news.all (fun e => decide (e.length = sz)) = true ∧ (len + news.length) * bytes ≤ 1000000000000 ∧ len + news.length ≤ 1000000000) ∧ r < c ∧
   K r (.own r sz 0 (len + news.length) (len + news.length)) (H.set r (some (o ++ news)))
def onApO (c : Nat) (H : AH) (sz bytes r len : Nat) (news : List (List AV)) (x : Option AObj) (K : Nat → AV → AH → Prop) : Prop :=
 match x with
 | some o => (news.all (fun e => decide (e.length = sz)) = true ∧ (len + news.length) * bytes ≤ 1000000000000 ∧ len + news.length ≤ 1000000000) ∧ r < c ∧ K r (.own r sz 0 (len + news.length) (len + news.length)) (H.set r (some (o ++ news)))
 | none => False
theorem onAp_own (c : Nat) (H : AH) (sz bytes r len : Nat) (news : List (List AV)) (K : Nat → AV → AH → Prop) (m) : onAp c H sz bytes (.own r sz 0 len len) (some news) K m = onApO c H sz bytes r len news (liveO H r len) K := by
 apply propext
 unfold onApO
 constructor
 ·rintro ⟨r', len', news', o, h1, h2, h3, h4, h5, h6⟩
  cases h1; cases h2
  rw [h3]
  exact ⟨h4, h5, h6⟩
 ·intro h
  split at h
  ·rename_i o ho
   exact ⟨r, len, news, o, rfl, rfl, ho, h.1, h.2.1, h.2.2⟩
  ·cases h
theorem RE_append {P : Program} {tab : List (List Nat)} (d : Option Nat) (rest : List (Nat × AInstr)) (i c : Nat) (lg : List LogE) (K : List AV → AH → Prop) (fr : List AV) (H : AH) (sz bytes : Nat) (zero : List AV) (x y : Opd) (t u) :
 RET P tab ((i, ⟨d, none, .append sz bytes zero x y⟩) :: rest) c lg K fr H t u =
 onAp c H sz bytes (evalA fr x) (srcOf H (evalA fr y)) (fun r v H' => RET P tab rest c (lg ++ [entry i ⟨d, none, .append sz bytes zero x y⟩ (.con r :: refC (evalA fr y)) [.con r, .len r]]) K (setA fr d v) H' .mk .mk) .mk := RET_E (fun _ _ _ _ _ _ _ => rfl) _ _ _ _ _ _ _ _ _ _
theorem refC_fz (es : List (List PV)) : refC (.fz es) = [] := (_root_.id rfl)
theorem refC_emp : refC .emp = [] := (_root_.id rfl)
theorem refC_str (t : List UInt8) : refC (.str t) = [] := (_root_.id rfl)
theorem wk4 : type_of% @slicelV_own ∧ type_of% @slicelV_fz ∧ type_of% @onLive_some ∧ type_of% @RT_slicel ∧ type_of% @RE_slicel ∧ type_of% @slice3V_eq ∧ type_of% @room3_some ∧ type_of% @roomOf_own ∧ type_of% @roomOf_fz ∧ type_of% @RT_slice3 ∧ type_of% @RT_calld ∧ type_of% @apI_some ∧ type_of% @clC_some ∧ type_of% @clearV_own ∧ type_of% @clearV_fz :=
 ⟨@slicelV_own, @slicelV_fz, @onLive_some, @RT_slicel, @RE_slicel, @slice3V_eq, @room3_some, @roomOf_own, @roomOf_fz, @RT_slice3, @RT_calld, @apI_some, @clC_some, @clearV_own, @clearV_fz⟩
end Go.Proofs.YtemjlopoffjmpaaGreat.Abs
