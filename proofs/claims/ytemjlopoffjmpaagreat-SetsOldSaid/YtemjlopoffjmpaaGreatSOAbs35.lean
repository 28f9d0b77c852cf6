/-
  The abstract layer, part 35: code that is run by itself, on what is known.
-/
import Derived.Test.YtemjlopoffjmpaaGreatSOAbs34
set_option linter.unusedSimpArgs false
set_option linter.unusedVariables false
namespace Go.Proofs.YtemjlopoffjmpaaGreat.Abs
open Go
theorem Wk_keep {n0 : Nat} {fr : List AV} {H : AH} (rs : List Nat) (hnd : rs.Nodup) (h0 : ∀ r, r < n0 → rs[r]? = some r) : Wk n0 fr H (renL (toCallee rs) fr) (rs.map fun r => (H.at r).map (renO (toCallee rs))) := by
 intro E w vs hs hr
 rw [renL_map]
 let E2 : Env := { E with ρ := fun i => (rs[i]?).bind E.ρ }
 have hτ : ∀ r r' y, toCallee rs r = some r' → E.ρ r = some y → E2.ρ r' = some y := by
  intro r r' y h1 h2
  simp only [E2, toCallee_some h1, Option.bind_some, h2]
 have hfr : ∀ c u, Rep E c u → Rep E2 (ren (toCallee rs) c) u := fun c u h => rep_ren (E := E) (E0 := E2) (fun _ _ h => h) hτ h
 have hat0 : ∀ i o0, AH.at (rs.map fun r => (H.at r).map (renO (toCallee rs))) i = some o0 → ∃ r o, rs[i]? = some r ∧ H.at r = some o ∧ o0 = renO (toCallee rs) o := by
  intro i o0 h
  simp only [AH.at, List.getElem?_map] at h
  cases hri : rs[i]? with
  | none => rw [hri] at h; cases h
  | some r =>
    rw [hri] at h
    simp only [Option.map_some, Option.join_some] at h
    cases ho : H.at r with
    | none => simp only [AH.at] at ho; rw [ho] at h; cases h
    | some o => simp only [AH.at] at ho; rw [ho] at h; cases h; exact ⟨r, o, rfl, ho, rfl⟩
 refine ⟨E2, ⟨fun _ _ h => h, fun r x hrn hx => ⟨x, by simp only [E2, h0 r hrn, Option.bind_some]; exact hx, .inl rfl⟩, rfl, rfl, rfl, rfl⟩, ?_, hr.mapped hfr⟩
 refine ⟨hs.os, hs.tape, hs.output, hs.frz, hs.disj, fun i x hi => ?_, fun i o0 ho => ?_, fun i i' o1 o2 x1 x2 h1 h2 h3 h4 hb => ?_⟩
 ·simp only [E2] at hi
  cases hri : rs[i]? with
  | none => rw [hri] at hi; cases hi
  | some r =>
    rcases Nat.lt_or_ge i rs.length with h' | h'
    ·simpa using h'
    ·rw [List.getElem?_eq_none h'] at hri; cases hri
 ·obtain ⟨r, o, hri, hro, rfl⟩ := hat0 i o0 ho
  rcases hs.obj r o hro with ⟨rfl, hn⟩ | ⟨x, hx, hl⟩
  ·exact .inl ⟨rfl, by simp only [E2, hri, Option.bind_some, hn]⟩
  ·exact .inr ⟨x, by simp only [E2, hri, Option.bind_some, hx], Lies.ren (E := E) (E0 := E2) (fun _ _ h => h) hτ hl hl.out rfl⟩
 ·obtain ⟨r, o, hri, hro, rfl⟩ := hat0 i o1 h1
  obtain ⟨r', o', hri', hro', rfl⟩ := hat0 i' o2 h2
  simp only [E2, hri, Option.bind_some] at h3
  simp only [E2, hri', Option.bind_some] at h4
  have := hs.inj r r' o o' x1 x2 hro hro' h3 h4 hb
  subst this
  have e1 := toCallee_of hnd hri
  have e2 := toCallee_of hnd hri'
  rw [e1] at e2; cases e2; rfl
mutual
def refsA : AV → List Nat
 | .own r _ _ _ _ => [r]
 | .ptr r _ _ _ => [r]
 | .agg cs => refsL cs
 | .tuple cs => refsL cs
 | .fn _ first cap => refsL first ++ refsL cap
 | _ => []
def refsL : List AV → List Nat
 | [] => []
 | x :: xs => refsA x ++ refsL xs
end
def refsO : Option AObj → List Nat
 | some o => o.flatMap refsL
 | none => []
def reach (H : AH) : Nat → List Nat → List Nat → List Nat
 | 0, _, acc => acc
 | _ + 1, [], acc => acc
 | n + 1, r :: todo, acc => if acc.contains r then reach H n todo acc else reach H n (refsO (H.at r) ++ todo) (acc ++ [r])
abbrev CallF := FuncId → List AV → AH → Option (AV × AH)
def evOp (call : CallF) (op : AOp) (fr : List AV) (H : AH) : Option (AV × AH) :=
 match op with
 | .call f args => call f (args.map (evalA fr)) H
 | .calld x args =>
   match evalA fr x with
   | .fn (.func f) first cap => call f (first ++ args.map (evalA fr) ++ cap) H
   | _ => none
 | .eqnil neg x =>
   match nilq H (evalA fr x) with
   | some (some b) => some (.bool (b != neg), H)
   | _ => none
 | op => aop op (evalA fr) H
def getF : List AV → Nat → AV
 | [], _ => .top
 | x :: _, 0 => x
 | _ :: l, n + 1 => getF l n
theorem getF_eq : ∀ (l : List AV) (n : Nat), getF l n = (l[n]?).getD .top
 | [], n => by simp [getF]
 | x :: l, 0 => rfl
 | x :: l, n + 1 => by
   rw [getF, getF_eq l n]; rfl
def putF (fr : List AV) (d : Option Nat) (v : AV) : List AV :=
 match d with
 | none => fr
 | some d => fr.set d v
theorem putF_eq (fr : List AV) (d : Option Nat) (v : AV) : putF fr d v = setA fr d v := by
 cases d <;> rfl
def evalF (fr : List AV) (x : Opd) : AV :=
 match x with
 | .t n => getF fr n
 | .c v => v
theorem evalF_eq : evalF = evalA := by
 funext fr x
 cases x with
 | t n => exact getF_eq fr n
 | c v => rfl
abbrev OpF := CallF → List AV → AH → Option (AV × AH)
def same (x : Option AV) (H : AH) : Option (AV × AH) := x.map fun v => (v, H)
def kMv (x : Opd) : OpF := fun _ fr H => some (evalF fr x, H)
def kPick (c a b : Opd) : OpF := fun _ fr H => same (pickV (evalF fr c) (evalF fr a) (evalF fr b)) H
def kAlloc (cs : List AV) : OpF := fun _ _ H => if cs.length ≠ 0 then some (.ptr H.length 0 0 1, H ++ [some [cs]]) else none
def kBox (x : Opd) : OpF := fun _ fr H => boxV H (evalF fr x)
def kBuild (zero : List AV) (parts : List (Nat × Nat × Opd)) : OpF := fun _ fr H => same ((fillA (evalF fr) zero parts).map .agg) H
def kBslice (sz len : Nat) (zero : List AV) (parts : List (Nat × Opd)) : OpF := fun _ fr H => bslC H sz len (fillA (evalF fr) (List.replicate len zero).flatten (parts.map fun x => (x.1 * sz, sz, x.2)))
def kLoad (agg : Bool) (n : Nat) (x : Opd) : OpF := fun _ fr H => same ((readAt H n (evalF fr x)).map (unAgg agg)) H
def kStore (n : Nat) (p x : Opd) : OpF := fun _ fr H => storeV H n (evalF fr p) (evalF fr x)
def kNilchk (x : Opd) : OpF := fun _ fr H => same (nilchkV H (evalF fr x)) H
def kBini (op : BinOp) (x y : Opd) : OpF := fun _ fr H => same (biniV op (evalF fr x) (evalF fr y)) H
def kBins (op : BinOp) (x y : Opd) : OpF := fun _ fr H => same (binsV op (evalF fr x) (evalF fr y)) H
def kEqb (neg : Bool) (x y : Opd) : OpF := fun _ fr H => same (eqbV neg (evalF fr x) (evalF fr y)) H
def kEqs (neg : Bool) (ks : List EK) (x y : Opd) : OpF := fun _ fr H => same (eqsV H neg ks (evalF fr x) (evalF fr y)) H
def kUn (op : UnOp) (x : Opd) : OpF := fun _ fr H => same (unV op (evalF fr x)) H
def kConvi (k : IntKind) (x : Opd) : OpF := fun _ fr H => same (conviV k (evalF fr x)) H
def kConvsb (x : Opd) : OpF := fun _ fr H => convsbV H (evalF fr x)
def kConvbs (x : Opd) : OpF := fun _ fr H => same (((elemsOf H (evalF fr x)).bind bytesOf).map .str) H
def kConvss (x : Opd) : OpF := fun _ fr H => same (convssV (evalF fr x)) H
def kMksl (sz bytes : Nat) (zero : List AV) (l c : Opd) : OpF := fun _ fr H => mkslV H sz bytes zero (evalF fr l) (evalF fr c)
def kSlices (x : Opd) (lo hi : Option Opd) : OpF := fun _ fr H => same (slicesV (evalF fr) (evalF fr x) lo hi) H
def kRest (op : AOp) : OpF := fun _ fr H => aop op (evalF fr) H
def kFaddr (off : Nat) (x : Opd) : OpF := fun _ fr H => same (faddrV H off (evalF fr x)) H
def kField (agg : Bool) (off n : Nat) (x : Opd) : OpF := fun _ fr H => same (fieldV agg off n (evalF fr x)) H
def kIaddr (sz : Nat) (x i : Opd) : OpF := fun _ fr H => same (iaddrV H sz (evalF fr x) (evalF fr i)) H
def kIaddra (len sz : Nat) (x i : Opd) : OpF := fun _ fr H => same (iaddraV H len sz (evalF fr x) (evalF fr i)) H
def kIndexs (x i : Opd) : OpF := fun _ fr H => same (indexsV (evalF fr x) (evalF fr i)) H
def kExt (x : Opd) (i : Nat) : OpF := fun _ fr H => same (extV (evalF fr x) i) H
def kLen (str : Bool) (x : Opd) : OpF := fun _ fr H => same (if str then lensV (evalF fr x) else lenV H (evalF fr x)) H
def kAppend (sz bytes : Nat) (zero : List AV) (x y : Opd) : OpF := fun _ fr H => appendV H sz bytes zero (evalF fr x) (evalF fr y)
def kCopy (sz : Nat) (x y : Opd) : OpF := fun _ fr H => copyV H sz (evalF fr x) (evalF fr y)
def kClear (sz : Nat) (zero : List AV) (x : Opd) : OpF := fun _ fr H => clearV H sz zero (evalF fr x)
def kMin (x y : Opd) : OpF := fun _ fr H => same (min2V (evalF fr x) (evalF fr y)) H
def kMax (x y : Opd) : OpF := fun _ fr H => same (max2V (evalF fr x) (evalF fr y)) H
def kMkfn (f : Fn) (first cap : List Opd) : OpF := fun _ fr H => some (.fn f (first.map (evalF fr)) (cap.map (evalF fr)), H)
def kCall (f : FuncId) (args : List Opd) : OpF := fun call fr H => call f (args.map (evalF fr)) H
def kCalld (x : Opd) (args : List Opd) : OpF := fun call fr H =>
    match evalF fr x with
    | .fn (.func f) first cap => call f (first ++ args.map (evalF fr) ++ cap) H
    | _ => none
def kEqnil (neg : Bool) (x : Opd) : OpF := fun _ fr H =>
    match nilq H (evalF fr x) with
    | some (some b) => some (.bool (b != neg), H)
    | _ => none
def kBad : OpF := fun _ _ _ => none
def opK : AOp → OpF
 | .mv x => kMv x
 | .pick c a b => kPick c a b
 | .alloc cs => kAlloc cs
 | .box x => kBox x
 | .build z p => kBuild z p
 | .bslice s l z p => kBslice s l z p
 | .load g n x => kLoad g n x
 | .store n p x => kStore n p x
 | .nilchk x => kNilchk x
 | .bini o x y => kBini o x y
 | .bins o x y => kBins o x y
 | .eqb n x y => kEqb n x y
 | .eqs n k x y => kEqs n k x y
 | .un o x => kUn o x
 | .convi k x => kConvi k x
 | .convsb x => kConvsb x
 | .convbs x => kConvbs x
 | .convss x => kConvss x
 | .mksl s b z l c => kMksl s b z l c
 | .slices x l h => kSlices x l h
 | .slicel s x l h => kRest (.slicel s x l h)
 | .slicez x => kRest (.slicez x)
 | .slice3 x l h m => kRest (.slice3 x l h m)
 | .eqnil n x => kEqnil n x
 | .faddr o x => kFaddr o x
 | .field g o n x => kField g o n x
 | .iaddr s x i => kIaddr s x i
 | .iaddra l s x i => kIaddra l s x i
 | .indexs x i => kIndexs x i
 | .ext x i => kExt x i
 | .len s x => kLen s x
 | .append s b z x y => kAppend s b z x y
 | .copy s x y => kCopy s x y
 | .clear s z x => kClear s z x
 | .min2 x y => kMin x y
 | .max2 x y => kMax x y
 | .mkfn f a c => kMkfn f a c
 | .call f a => kCall f a
 | .calld x a => kCalld x a
 | .bad => kBad
theorem aop_of0 {op : AOp} {ev : Opd → AV} {H : AH} (x : Option AV) (h : aop0 op ev H = x) (h1 : aop1 op ev H = none) : aop op ev H = same x H := by
 unfold aop same
 rw [h]
 cases x with
 | none => exact h1
 | some v => rfl
theorem opK_eq (call : CallF) (op : AOp) (fr : List AV) (H : AH) : opK op call fr H = evOp call op fr H := by
 cases op
 case alloc => rfl
 case box => simp only [opK, kBox, evalF_eq]; rfl
 case bslice sz len zero parts =>
  simp only [opK, kBslice, evalF_eq, evOp]
  unfold aop
  simp only [aop0, aop1]
  cases fillA (evalA fr) (List.replicate len zero).flatten (parts.map fun x => (x.1 * sz, sz, x.2)) <;> rfl
 case store => simp only [opK, kStore, evalF_eq]; rfl
 case convsb => simp only [opK, kConvsb, evalF_eq]; rfl
 case mksl => simp only [opK, kMksl, evalF_eq]; rfl
 case append => simp only [opK, kAppend, evalF_eq]; rfl
 case copy => simp only [opK, kCopy, evalF_eq]; rfl
 case clear => simp only [opK, kClear, evalF_eq]; rfl
 case slicel => simp only [opK, kRest, evalF_eq]; rfl
 case slicez => simp only [opK, kRest, evalF_eq]; rfl
 case slice3 => simp only [opK, kRest, evalF_eq]; rfl
 case mv => simp only [opK, kMv, evalF_eq]; rfl
 case mkfn => simp only [opK, kMkfn, evalF_eq]; rfl
 case call => simp only [opK, kCall, evalF_eq]; rfl
 case calld => simp only [opK, kCalld, evalF_eq]; rfl
 case eqnil => simp only [opK, kEqnil, evalF_eq]; rfl
 case bad => rfl
 case len str x => cases str <;> (simp only [opK, kLen, evalF_eq, if_true, if_false, Bool.false_eq_true]; simp only [evOp]; symm; apply aop_of0 <;> rfl)
 case pick => simp only [opK, kPick, evalF_eq]; simp only [evOp]; symm; apply aop_of0 <;> rfl
 case build => simp only [opK, kBuild, evalF_eq]; simp only [evOp]; symm; apply aop_of0 <;> rfl
 case load => simp only [opK, kLoad, evalF_eq]; simp only [evOp]; symm; apply aop_of0 <;> rfl
 case nilchk => simp only [opK, kNilchk, evalF_eq]; simp only [evOp]; symm; apply aop_of0 <;> rfl
 case bini => simp only [opK, kBini, evalF_eq]; simp only [evOp]; symm; apply aop_of0 <;> rfl
 case bins => simp only [opK, kBins, evalF_eq]; simp only [evOp]; symm; apply aop_of0 <;> rfl
 case eqb => simp only [opK, kEqb, evalF_eq]; simp only [evOp]; symm; apply aop_of0 <;> rfl
 case eqs => simp only [opK, kEqs, evalF_eq]; simp only [evOp]; symm; apply aop_of0 <;> rfl
 case un => simp only [opK, kUn, evalF_eq]; simp only [evOp]; symm; apply aop_of0 <;> rfl
 case convi => simp only [opK, kConvi, evalF_eq]; simp only [evOp]; symm; apply aop_of0 <;> rfl
 case convbs => simp only [opK, kConvbs, evalF_eq]; simp only [evOp]; symm; apply aop_of0 <;> rfl
 case convss => simp only [opK, kConvss, evalF_eq]; simp only [evOp]; symm; apply aop_of0 <;> rfl
 case slices => simp only [opK, kSlices, evalF_eq]; simp only [evOp]; symm; apply aop_of0 <;> rfl
 case faddr => simp only [opK, kFaddr, evalF_eq]; simp only [evOp]; symm; apply aop_of0 <;> rfl
 case field => simp only [opK, kField, evalF_eq]; simp only [evOp]; symm; apply aop_of0 <;> rfl
 case iaddr => simp only [opK, kIaddr, evalF_eq]; simp only [evOp]; symm; apply aop_of0 <;> rfl
 case iaddra => simp only [opK, kIaddra, evalF_eq]; simp only [evOp]; symm; apply aop_of0 <;> rfl
 case indexs => simp only [opK, kIndexs, evalF_eq]; simp only [evOp]; symm; apply aop_of0 <;> rfl
 case ext => simp only [opK, kExt, evalF_eq]; simp only [evOp]; symm; apply aop_of0 <;> rfl
 case min2 => simp only [opK, kMin, evalF_eq]; simp only [evOp]; symm; apply aop_of0 <;> rfl
 case max2 => simp only [opK, kMax, evalF_eq]; simp only [evOp]; symm; apply aop_of0 <;> rfl
def evR (call : CallF) : List AInstr → List AV → AH → Option (List AV × AH)
 | [], fr, H => some (fr, H)
 | i :: rest, fr, H =>
   match i.guard with
   | none =>
     match opK i.op call fr H with
     | some (v, H') => evR call rest (putF fr i.dst v) H'
     | none => none
   | some (g, want) =>
     match getF fr g with
     | .bool b =>
       if b = want then
        match opK i.op call fr H with
        | some (v, H') => evR call rest (putF fr i.dst v) H'
        | none => none
       else evR call rest (putF fr i.dst (.tuple [])) H
     | .tuple [] => evR call rest (putF fr i.dst (.tuple [])) H
     | _ => none
def evS : List AInstr → List AV → AH → Option (List AV)
 | [], fr, _ => some fr
 | i :: rest, fr, H =>
   match i.guard with
   | none =>
     match aop0 i.op (evalA fr) H with
     | some v => evS rest (setA fr i.dst v) H
     | none => none
   | some (g, want) =>
     match fr[g]? with
     | some (.bool b) =>
       if b = want then
        match aop0 i.op (evalA fr) H with
        | some v => evS rest (setA fr i.dst v) H
        | none => none
       else evS rest (setA fr i.dst (.tuple [])) H
     | some (.tuple []) => evS rest (setA fr i.dst (.tuple [])) H
     | _ => none
def callIn (ev : CallF) (f : FuncId) (args : List AV) (H : AH) : Option (List Nat × AV × AH) :=
 let rs := reach H (H.length * 4 + 40) (refsL args) []
 if rs.Nodup ∧ (∀ r ∈ rs, r < H.length) then
  match ev f (renL (toCallee rs) args) (rs.map fun r => (H.at r).map (renO (toCallee rs))) with
  | some (x, H1) => if rs.length ≤ H1.length then some (rs, x, H1) else none
  | none => none
 else none
def callR (ev : CallF) : CallF := fun f args H =>
 match callIn ev f args H with
 | some (rs, x, H1) => some (ren (toCaller rs H.length) x, back rs H H1)
 | none => none
def evE (ev : CallF) (op : AOp) (c : Nat) (fr : List AV) (H : AH) : Option (List Loc × List Loc × Nat × AV × AH) :=
 match op with
 | .call f args =>
   match callIn ev f (args.map (evalA fr)) H with
   | some (rs, x, H1) =>
     if (∀ r ∈ rs, r < c) ∧ c + (H1.length - rs.length) ≤ H.length then
      let all := rs ++ List.range' c (H1.length - rs.length)
      some (all.map .con, all.map .con ++ all.map .len, c + (H1.length - rs.length), ren (toCl all) x, setAll H all (H1.map fun o => o.map (renO (toCl all))))
     else none
   | none => none
 | .store n p x =>
   match evalA fr p, cellsOf (evalA fr x) with
   | .ptr r i j tot, some cs =>
     match liveO H r tot with
     | some o =>
       match o[i]? with
       | some e => if (cs.length = n ∧ j + n ≤ e.length ∧ cs.all cellA = true) ∧ r < c then some ([.con r], [.con r], c, .top, H.set r (some (o.set i (lay e j cs)))) else none
       | none => none
     | none => none
   | _, _ => none
 | .calld _ _ => none
 | .eqnil _ _ => none
 | .bad => none
 | op =>
   if freshOp op then
    if c < H.length then
     match aop1 op (evalA fr) [] with
     | some (v, [some o]) => some ([.con c], [.con c, .len c], c + 1, ren (toCl [c]) v, H.set c (some o))
     | _ => none
    else none
   else
    match aop0 op (evalA fr) H with
    | some v => some (hread op (evalA fr), [], c, v, H)
    | none => none
def evRE (ev : CallF) (tab : List (List Nat)) : List (Nat × AInstr) → Nat → List LogE → List AV → AH → Option (List AV × AH)
 | [], _, lg, fr, H => if confOK tab lg = true then some (fr, H) else none
 | (i, ins) :: rest, c, lg, fr, H =>
   match ins.guard with
   | none =>
     match evE ev ins.op c fr H with
     | some (R, W, c', v, H') => evRE ev tab rest c' (lg ++ [entry i ins R W]) (setA fr ins.dst v) H'
     | none => none
   | some (g, want) =>
     match fr[g]? with
     | some (.bool b) =>
       if b = want then
        match evE ev ins.op c fr H with
        | some (R, W, c', v, H') => evRE ev tab rest c' (lg ++ [entry i ins R W]) (setA fr ins.dst v) H'
        | none => none
       else evRE ev tab rest c (lg ++ [(i, [.slot g], dstL ins.dst)]) (setA fr ins.dst (.tuple [])) H
     | some (.tuple []) => evRE ev tab rest c (lg ++ [(i, [.slot g], dstL ins.dst)]) (setA fr ins.dst (.tuple [])) H
     | _ => none
def spare : List (Nat × AInstr) → Nat
 | [] => 0
 | i :: rest => (match i.2.op with
   | .call _ _ => 12
   | op => if freshOp op then 1 else 0) + spare rest
def evD (ev : CallF) (tab : List (List Nat)) : List (List (Nat × AInstr)) → List AV → AH → Option (List AV × AH)
 | [], fr, H => some (fr, H)
 | [(_, ins)] :: rest, fr, H =>
   match evR (callR ev) [ins] fr H with
   | some (fr', H') => evD ev tab rest fr' H'
   | none => none
 | seg :: rest, fr, H =>
   match evRE ev tab seg H.length [] fr (H ++ List.replicate (spare seg) none) with
   | some (fr', H') => evD ev tab rest fr' H'
   | none => none
def rounds (f : List AV → AH → Option (AExit × List AV × AH)) : Nat → List AV → AH → Option (AExit × List AV × AH)
 | 0, _, _ => none
 | n + 1, fr, H =>
   match f fr H with
   | some (.normal, fr', H') => rounds f n fr' H'
   | r => r
def evC (ev : CallF) (n : Nat) : ACode → List AV → AH → Option (AExit × List AV × AH)
 | .skip, fr, H => some (.normal, fr, H)
 | .reg is, fr, H =>
   match evR (callR ev) is fr H with
   | some (fr', H') => some (.normal, fr', H')
   | none => none
 | .dreg is, fr, H =>
   match evS is fr H with
   | some fr' => some (.normal, fr', H)
   | none => none
 | .dregE segs tab, fr, H =>
   match evD ev tab segs fr H with
   | some (fr', H') => some (.normal, fr', H')
   | none => none
 | .seq a b, fr, H =>
   match evC ev n a fr H with
   | some (.normal, fr', H') => evC ev n b fr' H'
   | r => r
 | .cond c a b, fr, H =>
   match evalA fr c with
   | .bool true => evC ev n a fr H
   | .bool false => evC ev n b fr H
   | _ => none
 | .block id b, fr, H =>
   match evC ev n b fr H with
   | some (.exit j, fr', H') => if j = id then some (.normal, fr', H') else some (.exit j, fr', H')
   | r => r
 | .loop b, fr, H => rounds (evC ev n b) n fr H
 | .exit id, fr, H => some (.exit id, fr, H)
 | .ret, fr, H => some (.ret, fr, H)
 | .bad, _, _ => none
structure FD where
 np : Nat
 nt : Nat
 res : List ARes
 ac : ACode
def look (l : List (Nat × FD)) (f : Nat) : Option FD :=
 match l with
 | [] => none
 | (g, d) :: rest => if g == f then some d else look rest f
def toPVs (o : AObj) : Option (List (List PV)) := o.mapM fun e => e.mapM toPV
def hushR (r : Nat) (x : AV) (H : AH) : AV × AH :=
 match (H.at r).bind toPVs with
 | some es => (frz r es x, mapH (frzL r es) (H.set r none))
 | none => (x, H)
def hush (b : Bool) (x : AV) (H : AH) : AV × AH :=
 if b then
  match x with
  | .own r _ _ _ _ => hushR r x H
  | .tuple (.own r _ _ _ _ :: _) => hushR r x H
  | .tuple (.agg [_, _, _, _, .own r _ _ _ _] :: _) => hushR r x H
  | _ => (x, H)
 else (x, H)
def evF (tab : List (Nat × FD)) (orc : CallF) (fz : FuncId → Bool) (loops : Nat) : Nat → CallF
 | 0, _, _, _ => none
 | n + 1, f, args, H =>
   match orc f args H with
   | some r => some r
   | none =>
     match look tab f with
     | some d =>
       if args.length = d.np then
        match evC (evF tab orc fz loops n) loops d.ac (args ++ List.replicate d.nt .top) H with
        | some (.exit _, _, _) => none
        | some (_, fr, H') =>
          match ares d.res fr H' with
          | some y =>
            let x := (hush (fz f) y H').1
            let H2 := (hush (fz f) y H').2
            let rs := reach H2 (H2.length * 4 + 40) ((List.range H.length).flatMap (fun r => refsO (H2.at r)) ++ refsA x) (List.range H.length)
            if rs.Nodup ∧ (∀ r ∈ List.range H.length, rs[r]? = some r) then some (ren (toCallee rs) x, rs.map fun r => (H2.at r).map (renO (toCallee rs))) else none
          | none => none
        | none => none
       else none
     | none => none
section
variable {P : Program}
def EvOk (P : Program) (call : CallF) : Prop := ∀ f args H x H', call f args H = some (x, H') → C P f args H fun y G => y = x ∧ G = H'
theorem callIn_ok {ev : CallF} (hev : EvOk P ev) {f : FuncId} {args : List AV} {H : AH} {rs : List Nat} {x : AV} {H1 : AH} (h : callIn ev f args H = some (rs, x, H1)) :
 rs.Nodup ∧ (∀ r ∈ rs, r < H.length) ∧ rs.length ≤ H1.length ∧ C P f (renL (toCallee rs) args) (rs.map fun r => (H.at r).map (renO (toCallee rs))) fun y G => y = x ∧ G = H1 := by
 unfold callIn at h
 simp only [] at h
 split at h
 ·rename_i hc
  split at h
  ·rename_i x' H1' he
   split at h
   ·cases h
    exact ⟨hc.1, hc.2, by assumption, hev _ _ _ _ _ he⟩
   ·cases h
  ·cases h
 ·cases h
theorem callR_ok {ev : CallF} (hev : EvOk P ev) : EvOk P (callR ev) := by
 intro f args H x H' h
 unfold callR at h
 split at h
 ·rename_i rs y H1 hc
  cases h
  obtain ⟨h1, h2, h3, h4⟩ := callIn_ok hev hc
  refine C_call rs h1 h2 h4 ?_
  rintro _ _ ⟨rfl, rfl⟩
  exact ⟨h3, rfl, rfl⟩
 ·cases h
theorem evOp_ok {call : CallF} (hc : EvOk P call) {i : AInstr} {fr : List AV} {H : AH} {v : AV} {H' : AH} {K : List AV → AH → Prop} (h : evOp call i.op fr H = some (v, H')) (hk : K (setA fr i.dst v) H') : stepA P i K fr H := by
 obtain ⟨d, g, op⟩ := i
 have dflt : aop op (evalA fr) H = some (v, H') → onSome (aop op (evalA fr) H) fun v H' => K (setA fr d v) H' := fun h => by rw [h]; exact hk
 cases op
 case call f args => exact (hc _ _ _ _ _ h).mono fun x G ⟨h1, h2⟩ => by rw [h1, h2]; exact hk
 case calld x args =>
  simp only [evOp] at h
  split at h
  ·rename_i f first cap he
   exact ⟨f, first, cap, he, (hc _ _ _ _ _ h).mono fun x G ⟨h1, h2⟩ => by rw [h1, h2]; exact hk⟩
  ·cases h
 case eqnil neg x =>
  simp only [evOp] at h
  split at h
  ·rename_i b he
   cases h
   exact ⟨_, he, fun c hc => by rw [hc b rfl]; exact hk⟩
  ·cases h
 all_goals exact dflt h
theorem getF_some {fr : List AV} {g : Nat} {x : AV} (h : getF fr g = x) (hx : x ≠ .top) : fr[g]? = some x := by
 rw [getF_eq] at h
 cases hg : fr[g]? with
 | none => rw [hg] at h; exact absurd h.symm hx
 | some y => rw [hg] at h; rw [← h]; rfl
theorem evR_ok {call : CallF} (hc : EvOk P call) {K : List AV → AH → Prop} : ∀ {is : List AInstr} {fr : List AV} {H : AH} {fr' : List AV} {H' : AH}, evR call is fr H = some (fr', H') → K fr' H' → RA P is K fr H
 | [], fr, H, fr', H', h, hk => by
   simp only [evR, Option.some.injEq, Prod.mk.injEq] at h
   unfold RA
   rw [h.1, h.2]; exact hk
 | i :: rest, fr, H, fr', H', h, hk => by
   unfold RA
   unfold evR at h
   simp only [opK_eq, putF_eq] at h
   have go : (match evOp call i.op fr H with | some (v, H') => evR call rest (setA fr i.dst v) H' | none => none) = some (fr', H') → stepA P i (RA P rest K) fr H := by
    intro h
    split at h
    ·rename_i v H2 he
     exact evOp_ok hc he (evR_ok hc h hk)
    ·cases h
   cases hg : i.guard with
   | none => rw [hg] at h; exact go h
   | some gw =>
     obtain ⟨g, want⟩ := gw
     rw [hg] at h
     simp only at h
     split at h
     ·rename_i b hb
      have hb' := getF_some hb (by simp)
      split at h
      ·rename_i hbw
       exact .inl ⟨b, hb', fun _ => go h, fun hn => absurd hbw hn⟩
      ·rename_i hbw
       exact .inl ⟨b, hb', fun he => absurd he hbw, fun _ => evR_ok hc h hk⟩
     ·rename_i hb
      exact .inr ⟨getF_some hb (by simp), evR_ok hc h hk⟩
     ·cases h
theorem stepVal_0 {op : AOp} {ev : Opd → AV} {H : AH} {v : AV} (h : aop0 op ev H = some v) : stepVal P op ev H v := by
 have := aop_0 h
 cases op <;> first | exact this | cases h
theorem evS_ok {K : List AV → Prop} : ∀ {is : List AInstr} {fr : List AV} {H : AH} {fr' : List AV}, evS is fr H = some fr' → K fr' → RSA P is K fr H
 | [], fr, H, fr', h, hk => by
   simp only [evS, Option.some.injEq] at h
   unfold RSA
   rw [h]; exact hk
 | i :: rest, fr, H, fr', h, hk => by
   unfold RSA
   unfold evS at h
   have go : (match aop0 i.op (evalA fr) H with | some v => evS rest (setA fr i.dst v) H | none => none) = some fr' → ∃ v, stepVal P i.op (evalA fr) H v ∧ RSA P rest K (setA fr i.dst v) H := by
    intro h
    split at h
    ·rename_i v he
     exact ⟨v, stepVal_0 he, evS_ok h hk⟩
    ·cases h
   cases hg : i.guard with
   | none => rw [hg] at h; exact go h
   | some gw =>
     obtain ⟨g, want⟩ := gw
     rw [hg] at h
     simp only at h
     split at h
     ·rename_i b hb
      split at h
      ·rename_i hbw
       exact .inl ⟨b, hb, fun _ => go h, fun hn => absurd hbw hn⟩
      ·rename_i hbw
       exact .inl ⟨b, hb, fun he => absurd he hbw, fun _ => evS_ok h hk⟩
     ·rename_i hb
      exact .inr ⟨hb, evS_ok h hk⟩
     ·cases h
theorem evE_ok {ev : CallF} (hev : EvOk P ev) {op : AOp} {d : Option Nat} {c : Nat} {fr : List AV} {H : AH} {R W : List Loc} {c' : Nat} {v : AV} {H' : AH} {K : List Loc → List Loc → Nat → List AV → AH → Prop} (h : evE ev op c fr H = some (R, W, c', v, H')) (hk : K R W c' (setA fr d v) H') :
 stepE P op d c fr H K := by
 have dflt : (if freshOp op then
  if c < H.length then
   match aop1 op (evalA fr) [] with
   | some (v, [some o]) => some ([Loc.con c], [.con c, .len c], c + 1, ren (toCl [c]) v, H.set c (some o))
   | _ => none
  else none
  else
   match aop0 op (evalA fr) H with
   | some v => some (hread op (evalA fr), [], c, v, H)
   | none => none) = some (R, W, c', v, H') →
   (if freshOp op then ∃ (v : AV) (o : AObj), aop1 op (evalA fr) [] = some (v, [some o]) ∧ c < H.length ∧
   K [.con c] [.con c, .len c] (c + 1) (setA fr d (ren (toCl [c]) v)) (H.set c (some o))
  else ∃ v, aop0 op (evalA fr) H = some v ∧ K (hread op (evalA fr)) [] c (setA fr d v) H) := by
  intro h
  split at h
  ·rename_i hf
   rw [if_pos hf]
   split at h
   ·rename_i hb
    split at h
    ·rename_i v' o he
     cases h
     exact ⟨v', o, he, hb, hk⟩
    ·cases h
   ·cases h
  ·rename_i hf
   rw [if_neg hf]
   split at h
   ·rename_i v' he
    cases h
    exact ⟨_, he, hk⟩
   ·cases h
 cases op
 case call f args =>
  simp only [evE] at h
  split at h
  ·rename_i rs x H1 hc
   obtain ⟨h1, h2, h3, h4⟩ := callIn_ok hev hc
   split at h
   ·rename_i hb
    cases h
    exact ⟨rs, H1.length - rs.length, x, H1, h1, hb.1, hb.2, by omega, h4, hk⟩
   ·cases h
  ·cases h
 case store n p x =>
  simp only [evE] at h
  split at h
  ·rename_i r i j tot cs e1 e2
   split at h
   ·rename_i o hl
    split at h
    ·rename_i e he
     split at h
     ·rename_i hok
      cases h
      exact ⟨r, i, j, tot, cs, e, o, e1, e2, hl, he, hok.1, hok.2, hk⟩
     ·cases h
    ·cases h
   ·cases h
  ·cases h
 case append => simp [evE, freshOp, aop0] at h
 case calld => cases h
 case eqnil => cases h
 case bad => cases h
 all_goals exact dflt h
theorem evRE_ok {ev : CallF} (hev : EvOk P ev) {tab : List (List Nat)} {K : List AV → AH → Prop} : ∀ {is : List (Nat × AInstr)} {c : Nat} {lg : List LogE} {fr : List AV} {H : AH} {fr' : List AV} {H' : AH}, evRE ev tab is c lg fr H = some (fr', H') → K fr' H' → RE P tab is c lg K fr H
 | [], c, lg, fr, H, fr', H', h, hk => by
   unfold evRE at h
   unfold RE
   split at h
   ·rename_i hc
    cases h
    exact ⟨hc, hk⟩
   ·cases h
 | (i, ins) :: rest, c, lg, fr, H, fr', H', h, hk => by
   unfold RE
   unfold evRE at h
   have go : (match evE ev ins.op c fr H with | some (R, W, c', v, H') => evRE ev tab rest c' (lg ++ [entry i ins R W]) (setA fr ins.dst v) H' | none => none) = some (fr', H') →
    stepE P ins.op ins.dst c fr H fun R W c' fr' H' => RE P tab rest c' (lg ++ [entry i ins R W]) K fr' H' := by
    intro h
    split at h
    ·rename_i R W c' v H2 he
     exact evE_ok hev he (evRE_ok hev h hk)
    ·cases h
   cases hg : ins.guard with
   | none => rw [hg] at h; exact .inl (go h)
   | some gw =>
     obtain ⟨g, want⟩ := gw
     rw [hg] at h
     simp only at h
     split at h
     ·rename_i b hb
      split at h
      ·rename_i hbw
       exact .inl ⟨b, hb, fun _ => go h, fun hn => absurd hbw hn⟩
      ·rename_i hbw
       exact .inl ⟨b, hb, fun he => absurd he hbw, fun _ => evRE_ok hev h hk⟩
     ·rename_i hb
      exact .inr ⟨hb, evRE_ok hev h hk⟩
     ·cases h
theorem evD_ok {ev : CallF} (hev : EvOk P ev) {tab : List (List Nat)} {K : List AV → AH → Prop} : ∀ {segs : List (List (Nat × AInstr))} {fr : List AV} {H : AH} {fr' : List AV} {H' : AH}, evD ev tab segs fr H = some (fr', H') → K fr' H' → WD P tab segs K fr H
 | [], fr, H, fr', H', h, hk => by
   simp only [evD, Option.some.injEq, Prod.mk.injEq] at h
   unfold WD
   rw [h.1, h.2]; exact hk
 | [(_, ins)] :: rest, fr, H, fr', H', h, hk => by
   unfold WD
   unfold evD at h
   split at h
   ·rename_i f2 H2 he
    exact evR_ok (callR_ok hev) he (evD_ok hev h hk)
   ·cases h
 | [] :: rest, fr, H, fr', H', h, hk => by
   unfold WD
   unfold evD at h
   split at h
   ·rename_i f2 H2 he
    exact ⟨_, evRE_ok hev he (evD_ok hev h hk)⟩
   ·cases h
 | (x :: y :: z) :: rest, fr, H, fr', H', h, hk => by
   unfold WD
   unfold evD at h
   split at h
   ·rename_i f2 H2 he
    exact ⟨_, evRE_ok hev he (evD_ok hev h hk)⟩
   ·cases h
def Is (e : AExit) (fr : List AV) (H : AH) : APost := fun e' fr' H' => e' = e ∧ fr' = fr ∧ H' = H
theorem evC_ok {ev : CallF} (hev : EvOk P ev) (n n0 : Nat) : ∀ {ac : ACode} {fr : List AV} {H : AH} {e : AExit} {fr' : List AV} {H' : AH}, evC ev n ac fr H = some (e, fr', H') → W P n0 ac (Is e fr' H') fr H
 | .skip, fr, H, e, fr', H', h => by cases h; exact W_skip ⟨rfl, rfl, rfl⟩
 | .ret, fr, H, e, fr', H', h => by cases h; exact W_ret ⟨rfl, rfl, rfl⟩
 | .exit id, fr, H, e, fr', H', h => by cases h; exact W_exit ⟨rfl, rfl, rfl⟩
 | .bad, fr, H, e, fr', H', h => by cases h
 | .reg is, fr, H, e, fr', H', h => by
   unfold evC at h
   split at h
   ·rename_i f2 H2 he
    cases h
    exact W_reg (evR_ok (callR_ok hev) he ⟨rfl, rfl, rfl⟩)
   ·cases h
 | .dreg is, fr, H, e, fr', H', h => by
   unfold evC at h
   split at h
   ·rename_i f2 he
    cases h
    exact W_dreg_same (evS_ok he ⟨rfl, rfl, rfl⟩)
   ·cases h
 | .dregE segs tab, fr, H, e, fr', H', h => by
   unfold evC at h
   split at h
   ·rename_i f2 H2 he
    cases h
    exact W_dregE (evD_ok hev he ⟨rfl, rfl, rfl⟩)
   ·cases h
 | .seq a b, fr, H, e, fr', H', h => by
   unfold evC at h
   split at h
   ·rename_i f2 H2 he
    refine W_seq (W_mono (evC_ok hev n n0 he) ?_)
    rintro _ _ _ ⟨rfl, rfl, rfl⟩
    exact evC_ok hev n n0 h
   ·rename_i r hne
    refine W_seq (W_mono (evC_ok hev n n0 h) ?_)
    rintro _ _ _ ⟨rfl, rfl, rfl⟩
    rename_i e2 f2 G2
    cases e2 with
    | normal => exact absurd h (hne _ _)
    | exit i => exact ⟨rfl, rfl, rfl⟩
    | ret => exact ⟨rfl, rfl, rfl⟩
 | .cond c a b, fr, H, e, fr', H', h => by
   unfold evC at h
   split at h
   ·rename_i hb
    exact W_cond true hb (fun _ => evC_ok hev n n0 h) (fun h => by cases h)
   ·rename_i hb
    exact W_cond false hb (fun h => by cases h) (fun _ => evC_ok hev n n0 h)
   ·cases h
 | .block id b, fr, H, e, fr', H', h => by
   unfold evC at h
   split at h
   ·rename_i j f2 H2 he
    refine W_block (W_mono (evC_ok hev n n0 he) ?_)
    rintro _ _ _ ⟨rfl, rfl, rfl⟩
    simp only [QBlock]
    split at h
    ·rename_i hj; cases h; rw [if_pos hj]; exact ⟨rfl, rfl, rfl⟩
    ·rename_i hj; cases h; rw [if_neg hj]; exact ⟨rfl, rfl, rfl⟩
   ·rename_i r hne
    refine W_block (W_mono (evC_ok hev n n0 h) ?_)
    rintro _ _ _ ⟨rfl, rfl, rfl⟩
    rename_i e2 f2 G2
    cases e2 with
    | normal => exact ⟨rfl, rfl, rfl⟩
    | exit i => exact absurd h (hne _ _ _)
    | ret => exact ⟨rfl, rfl, rfl⟩
 | .loop b, fr, H, e, fr', H', h => by
   unfold evC at h
   refine W_loop (fun k fr H => rounds (evC ev n b) k fr H = some (e, fr', H')) n h ?_
   intro k fr H hk
   cases k with
   | zero => cases hk
   | succ k =>
     unfold rounds at hk
     split at hk
     ·rename_i f2 H2 he
      refine W_mono (evC_ok hev n n0 he) ?_
      rintro _ _ _ ⟨rfl, rfl, rfl⟩
      exact ⟨_, _, Wk.refl _ _ _, k, Nat.lt_succ_self _, hk⟩
     ·rename_i r hne
      refine W_mono (evC_ok hev n n0 hk) ?_
      rintro _ _ _ ⟨rfl, rfl, rfl⟩
      rename_i e2 f2 G2
      cases e2 with
      | normal => exact absurd hk (hne _ _)
      | exit i => exact ⟨rfl, rfl, rfl⟩
      | ret => exact ⟨rfl, rfl, rfl⟩
theorem look_mem {l : List (Nat × FD)} {f : Nat} {d : FD} (h : look l f = some d) : (f, d) ∈ l := by
 induction l with
 | nil => cases h
 | cons x l ih =>
   obtain ⟨g, e⟩ := x
   unfold look at h
   split at h
   ·rename_i hg
    cases h
    rw [beq_iff_eq] at hg
    subst hg
    simp
   ·exact List.mem_cons_of_mem _ (ih h)
theorem mapM_emb : ∀ {e : List AV} {p : List PV}, e.mapM toPV = some p → e = p.map emb
 | [], p, h => by simp at h; subst h; rfl
 | x :: e, p, h => by
   simp only [List.mapM_cons, Option.bind_eq_bind, Option.bind_eq_some_iff, Option.pure_def, Option.some.injEq] at h
   obtain ⟨q, hq, qs, hqs, rfl⟩ := h
   rw [List.map_cons, ← mapM_emb hqs, ← rep_toPV hq]
theorem toPVs_emb : ∀ {o : AObj} {es : List (List PV)}, toPVs o = some es → o = es.map fun e => e.map emb
 | [], es, h => by simp [toPVs] at h; subst h; rfl
 | x :: o, es, h => by
   unfold toPVs at h
   simp only [List.mapM_cons, Option.bind_eq_bind, Option.bind_eq_some_iff, Option.pure_def, Option.some.injEq] at h
   obtain ⟨q, hq, qs, hqs, rfl⟩ := h
   rw [List.map_cons, ← toPVs_emb hqs, ← mapM_emb hq]
theorem Wk_hushR (n0 r : Nat) (x : AV) (H : AH) : Wk n0 [x] H [(hushR r x H).1] (hushR r x H).2 := by
 unfold hushR
 split
 ·rename_i es he
  obtain ⟨o, ho, hp⟩ := Option.bind_eq_some_iff.1 he
  have := Wk_freeze (n0 := n0) (fr := [x]) r es (by rw [ho, toPVs_emb hp])
  exact this
 ·exact Wk.refl _ _ _
theorem Wk_hush (n0 : Nat) (b : Bool) (x : AV) (H : AH) : Wk n0 [x] H [(hush b x H).1] (hush b x H).2 := by
 unfold hush
 split
 ·split
  ·exact Wk_hushR n0 _ _ H
  ·exact Wk_hushR n0 _ _ H
  ·exact Wk_hushR n0 _ _ H
  ·exact Wk.refl _ _ _
 ·exact Wk.refl _ _ _
theorem evF_ok {tab : List (Nat × FD)} {orc : CallF} (ht : ∀ p ∈ tab, FnD P p.1 p.2.np p.2.nt p.2.res p.2.ac) (ho : EvOk P orc) (fz : FuncId → Bool) (loops : Nat) : ∀ n, EvOk P (evF tab orc fz loops n)
 | 0, f, args, H, x, H', h => by cases h
 | n + 1, f, args, H, x, H', h => by
   unfold evF at h
   split at h
   ·rename_i v hv
    cases h
    exact ho _ _ _ _ _ hv
   ·split at h
    ·rename_i d hd
     have hfd := ht _ (look_mem hd)
     split at h
     ·rename_i hnp
      have ih := evF_ok ht ho fz loops n
      split at h
      ·cases h
      ·rename_i e fr H2 hne he
       split at h
       ·rename_i y hy
        simp only [] at h
        split at h
        ·rename_i hrs
         refine C_body' hfd hnp (W_mono (evC_ok ih loops _ he) ?_)
         intro e2 f2 G2 hIs
         obtain ⟨h1, h2, h3⟩ := (show e2 = e ∧ f2 = fr ∧ G2 = H2 from hIs)
         rw [h1, h2, h3]
         have fin : ∃ x', ares d.res fr H2 = some x' ∧ KWk H.length (fun y' G => y' = x ∧ G = H') x' H2 := by
          refine ⟨y, hy, x, H', ?_, rfl, rfl⟩
          simp only [Option.some.injEq, Prod.mk.injEq] at h
          rw [← h.1, ← h.2]
          exact (Wk_hush H.length (fz f) y H2).trans (Wk_keep _ hrs.1 (fun r hr => hrs.2 r (List.mem_range.2 hr)))
         cases e with
         | normal => exact fin
         | ret => exact fin
         | exit i => exact absurd rfl (hne i)
        ·cases h
       ·cases h
      ·cases h
     ·cases h
    ·cases h
end
end Go.Proofs.YtemjlopoffjmpaaGreat.Abs
