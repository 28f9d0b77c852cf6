/-
  The abstract layer, part 26: the walk's equations for operations on memory.
-/
import Derived.Test.YtemjlopoffjmpaaGreatSOAbs25
set_option linter.unusedSimpArgs false
set_option linter.unusedVariables false
namespace Go.Proofs.YtemjlopoffjmpaaGreat.Abs
open Go
section
variable {P : Program} {n0 : Nat} (d : Option Nat) (rest : List AInstr) (K : List AV → AH → Prop) (L : List AV → Prop) (fr : List AV) (H : AH)
def boxV (H : AH) (x : AV) : Option (AV × AH) :=
    match cellsOf (x) with
    | some cs => if cs.length ≠ 0 ∧ cs.all cellA = true then some (.ptr H.length 0 0 1, H ++ [some [cs]]) else none
    | none => none
theorem RT_box (x : Opd) (t u) : RT P (⟨d, none, .box x⟩ :: rest) K fr H t u = onS (boxV H (evalA fr x)) (fun v H' => RT P rest K (setA fr d v) H' .mk .mk) .mk := RT_1 (fun _ _ _ _ _ => rfl) (fun _ _ => rfl) _ _ _ _ _ _ _
def storeV (H : AH) (n : Nat) (p : AV) (x : AV) : Option (AV × AH) :=
    match p, cellsOf (x) with
    | .ptr r i j tot, some cs =>
      match liveO H r tot with
      | some o =>
        match o[i]? with
        | some e => if cs.length = n ∧ j + n ≤ e.length ∧ cs.all cellA = true then some (.top, H.set r (some (o.set i (lay e j cs)))) else none
        | none => none
      | none => none
    | _, _ => none
theorem RT_store (n : Nat) (p : Opd) (x : Opd) (t u) : RT P (⟨d, none, .store n p x⟩ :: rest) K fr H t u = onS (storeV H n (evalA fr p) (evalA fr x)) (fun v H' => RT P rest K (setA fr d v) H' .mk .mk) .mk := RT_1 (fun _ _ _ _ _ => rfl) (fun _ _ => rfl) _ _ _ _ _ _ _
def convsbV (H : AH) (x : AV) : Option (AV × AH) :=
    match x with
    | .str s => some (.own H.length 1 0 s.length s.length, H ++ [some (s.map fun b => [.int .u8 b.toNat])])
    | _ => none
theorem RT_convsb (x : Opd) (t u) : RT P (⟨d, none, .convsb x⟩ :: rest) K fr H t u = onS (convsbV H (evalA fr x)) (fun v H' => RT P rest K (setA fr d v) H' .mk .mk) .mk := RT_1 (fun _ _ _ _ _ => rfl) (fun _ _ => rfl) _ _ _ _ _ _ _
def mkslV (H : AH) (sz : Nat) (bytes : Nat) (zero : List AV) (len : AV) (cap : AV) : Option (AV × AH) :=
    match len, cap with
    | .int _ l, .int _ c =>
      if 0 ≤ l ∧ l ≤ c ∧ c ≤ 1000000000 ∧ bytes ≤ 10000 then some (.own H.length sz 0 l.toNat l.toNat, H ++ [some (List.replicate l.toNat zero)]) else none
    | _, _ => none
theorem RT_mksl (sz : Nat) (bytes : Nat) (zero : List AV) (len : Opd) (cap : Opd) (t u) : RT P (⟨d, none, .mksl sz bytes zero len cap⟩ :: rest) K fr H t u = onS (mkslV H sz bytes zero (evalA fr len) (evalA fr cap)) (fun v H' => RT P rest K (setA fr d v) H' .mk .mk) .mk := RT_1 (fun _ _ _ _ _ => rfl) (fun _ _ => rfl) _ _ _ _ _ _ _
def appendV (H : AH) (sz : Nat) (bytes : Nat) (zero : List AV) (x : AV) (y : AV) : Option (AV × AH) :=
    match x, srcOf H (y) with
    | .emp, some news => if news.length * bytes ≤ 1000000000000 ∧ news.length ≤ 1000000000 ∧ news.all (fun e => decide (e.length = sz)) = true then some (.own H.length sz 0 news.length news.length, H ++ [some news]) else none
    | .own r sz' off len tot, some news =>
      match liveO H r tot with
      | some o =>
        if news.all (fun e => decide (e.length = sz)) = false ∨ sz' ≠ sz then none
        else if off = 0 ∧ len = tot then
         if (tot + news.length) * bytes ≤ 1000000000000 ∧ tot + news.length ≤ 1000000000 then some (.own r sz 0 (tot + news.length) (tot + news.length), H.set r (some (o ++ news))) else none
        else if off + len + news.length ≤ tot then
         some (.own r sz off (len + news.length) tot, H.set r (some (o.take (off + len) ++ news ++ o.drop (off + len + news.length))))
        else none
      | none => none
    | _, _ => none
theorem RT_append (sz : Nat) (bytes : Nat) (zero : List AV) (x : Opd) (y : Opd) (t u) : RT P (⟨d, none, .append sz bytes zero x y⟩ :: rest) K fr H t u = onS (appendV H sz bytes zero (evalA fr x) (evalA fr y)) (fun v H' => RT P rest K (setA fr d v) H' .mk .mk) .mk := RT_1 (fun _ _ _ _ _ => rfl) (fun _ _ => rfl) _ _ _ _ _ _ _
def copyV (H : AH) (sz : Nat) (x : AV) (y : AV) : Option (AV × AH) :=
    match x, srcOf H (y) with
    | .own r sz' off len tot, some src =>
      match liveO H r tot with
      | some o =>
        if off + len ≤ tot ∧ src.all (fun e => decide (e.length = sz)) = true ∧ sz' = sz then
         some (.int .i64 (min src.length len : Nat), H.set r (some (o.take off ++ src.take (min src.length len) ++ o.drop (off + min src.length len))))
        else none
      | none => none
    | .emp, some _ => some (.int .i64 0, H)
    | _, _ => none
theorem RT_copy (sz : Nat) (x : Opd) (y : Opd) (t u) : RT P (⟨d, none, .copy sz x y⟩ :: rest) K fr H t u = onS (copyV H sz (evalA fr x) (evalA fr y)) (fun v H' => RT P rest K (setA fr d v) H' .mk .mk) .mk := RT_1 (fun _ _ _ _ _ => rfl) (fun _ _ => rfl) _ _ _ _ _ _ _
def clearV (H : AH) (sz : Nat) (zero : List AV) (x : AV) : Option (AV × AH) :=
    match x with
    | .own r sz' off len tot =>
      match liveO H r tot with
      | some o => if off + len ≤ tot ∧ sz' = sz then some (.tuple [], H.set r (some (o.take off ++ List.replicate len zero ++ o.drop (off + len)))) else none
      | none => none
    | .emp => some (.tuple [], H)
    | .fz [] => some (.tuple [], H)
    | _ => none
theorem RT_clear (sz : Nat) (zero : List AV) (x : Opd) (t u) : RT P (⟨d, none, .clear sz zero x⟩ :: rest) K fr H t u = onS (clearV H sz zero (evalA fr x)) (fun v H' => RT P rest K (setA fr d v) H' .mk .mk) .mk := RT_1 (fun _ _ _ _ _ => rfl) (fun _ _ => rfl) _ _ _ _ _ _ _
def iaddraV (H : AH) (len : Nat) (sz : Nat) (x : AV) (i : AV) : Option AV :=
    match x, i with
    | .ptr r k j tot, .int _ n => if 0 ≤ n ∧ n < len then (liveO H r tot).map fun _ => .ptr r k (j + n.toNat * sz) tot else none
    | .fptr cs, .int _ n => if 0 ≤ n ∧ n < len ∧ n.toNat * sz ≤ cs.length then some (.fptr (cs.drop (n.toNat * sz))) else none
    | _, _ => none
theorem RT_iaddra (len : Nat) (sz : Nat) (x : Opd) (i : Opd) (t u) : RT P (⟨d, none, .iaddra len sz x i⟩ :: rest) K fr H t u = onV (iaddraV H len sz (evalA fr x) (evalA fr i)) (fun v => RT P rest K (setA fr d v) H .mk .mk) .mk := RT_0 (fun _ _ _ _ _ => rfl) (fun _ _ => rfl) _ _ _ _ _ _ _
theorem RS_iaddra (len : Nat) (sz : Nat) (x : Opd) (i : Opd) (t u) : RS P (⟨d, none, .iaddra len sz x i⟩ :: rest) L fr H t u = onV (iaddraV H len sz (evalA fr x) (evalA fr i)) (fun v => RS P rest L (setA fr d v) H .mk .mk) .mk := RS_0 (fun _ _ _ _ => rfl) (fun _ _ => rfl) _ _ _ _ _ _ _
def eqsV (H : AH) (neg : Bool) (ks : List EK) (x : AV) (y : AV) : Option AV :=
    match x, y with
    | .agg xs, .agg ys => (eqCells ks xs ys).map fun r => .bool (r != neg)
    | _, _ => none
theorem RT_eqs (neg : Bool) (ks : List EK) (x : Opd) (y : Opd) (t u) : RT P (⟨d, none, .eqs neg ks x y⟩ :: rest) K fr H t u = onV (eqsV H neg ks (evalA fr x) (evalA fr y)) (fun v => RT P rest K (setA fr d v) H .mk .mk) .mk := RT_0 (fun _ _ _ _ _ => rfl) (fun _ _ => rfl) _ _ _ _ _ _ _
theorem RS_eqs (neg : Bool) (ks : List EK) (x : Opd) (y : Opd) (t u) : RS P (⟨d, none, .eqs neg ks x y⟩ :: rest) L fr H t u = onV (eqsV H neg ks (evalA fr x) (evalA fr y)) (fun v => RS P rest L (setA fr d v) H .mk .mk) .mk := RS_0 (fun _ _ _ _ => rfl) (fun _ _ => rfl) _ _ _ _ _ _ _
def slicezV (H : AH) (x : AV) : Option AV :=
    match x with
    | .fz _ => some .emp
    | .emp => some .emp
    | .own r _ _ _ tot => (liveO H r tot).map fun _ => .emp
    | _ => none
theorem RT_slicez (x : Opd) (t u) : RT P (⟨d, none, .slicez x⟩ :: rest) K fr H t u = onV (slicezV H (evalA fr x)) (fun v => RT P rest K (setA fr d v) H .mk .mk) .mk := RT_0 (fun _ _ _ _ _ => rfl) (fun _ _ => rfl) _ _ _ _ _ _ _
theorem RS_slicez (x : Opd) (t u) : RS P (⟨d, none, .slicez x⟩ :: rest) L fr H t u = onV (slicezV H (evalA fr x)) (fun v => RS P rest L (setA fr d v) H .mk .mk) .mk := RS_0 (fun _ _ _ _ => rfl) (fun _ _ => rfl) _ _ _ _ _ _ _
def boxC : Option (List AV) → Option (AV × AH)
 | some cs => if cs.length ≠ 0 ∧ cs.all cellA = true then some (.ptr H.length 0 0 1, H ++ [some [cs]]) else none
 | none => none
def storeE (n r i j : Nat) (o : AObj) (cs : List AV) : Option (List AV) → Option (AV × AH)
 | some e => if cs.length = n ∧ j + n ≤ e.length ∧ cs.all cellA = true then some (.top, H.set r (some (o.set i (lay e j cs)))) else none
 | none => none
def storeC (n r i j : Nat) : Option AObj → Option (List AV) → Option (AV × AH)
 | some o, some cs => storeE H n r i j o cs o[i]?
 | _, _ => none
def copyC (sz r sz' off len tot : Nat) : Option AObj → Option (List (List AV)) → Option (AV × AH)
 | some o, some src => if off + len ≤ tot ∧ src.all (fun e => decide (e.length = sz)) = true ∧ sz' = sz then
  some (.int .i64 (min src.length len : Nat), H.set r (some (o.take off ++ src.take (min src.length len) ++ o.drop (off + min src.length len))))
  else none
 | _, _ => none
def elC (off len tot : Nat) : Option AObj → Option (List (List AV))
 | some o => if off + len ≤ tot then some ((o.drop off).take len) else none
 | none => none
def rdO (i j n : Nat) : Option AObj → Option (List AV)
 | some o => match o[i]? with
   | some e => if j + n ≤ e.length then some ((e.drop j).take n) else none
   | none => none
 | none => none
theorem readAt_ptr (n r i j tot : Nat) : readAt H n (.ptr r i j tot) = rdO i j n (liveO H r tot) := by
 simp only [readAt]
 cases liveO H r tot <;> rfl
theorem mkslV_int (sz bytes : Nat) (zero : List AV) (k k' : IntKind) (l c : Int) : mkslV H sz bytes zero (.int k l) (.int k' c) = if 0 ≤ l ∧ l ≤ c ∧ c ≤ 1000000000 ∧ bytes ≤ 10000 then some (.own H.length sz 0 l.toNat l.toNat, H ++ [some (List.replicate l.toNat zero)]) else none := (_root_.id rfl)
theorem boxV_eq (x : AV) : boxV H x = boxC H (cellsOf x) := by unfold boxV boxC; cases cellsOf x <;> rfl
theorem boxC_some (cs : List AV) : boxC H (some cs) = if cs.length ≠ 0 ∧ cs.all cellA = true then some (.ptr H.length 0 0 1, H ++ [some [cs]]) else none := (_root_.id rfl)
theorem storeV_ptr (n r i j tot : Nat) (x : AV) : storeV H n (.ptr r i j tot) x = storeC H n r i j (liveO H r tot) (cellsOf x) := by
 unfold storeV
 cases hc : cellsOf x with
 | none => simp only []; unfold storeC; split <;> simp_all
 | some cs =>
   simp only []
   cases hl : liveO H r tot with
   | none => rfl
   | some o => simp only [storeC]; cases o[i]? <;> rfl
theorem storeC_some (n r i j : Nat) (o : AObj) (cs : List AV) : storeC H n r i j (some o) (some cs) = storeE H n r i j o cs o[i]? := (_root_.id rfl)
theorem storeE_some (n r i j : Nat) (o : AObj) (cs e : List AV) : storeE H n r i j o cs (some e) = if cs.length = n ∧ j + n ≤ e.length ∧ cs.all cellA = true then some (.top, H.set r (some (o.set i (lay e j cs)))) else none := (_root_.id rfl)
theorem convsbV_str (s : List UInt8) : convsbV H (.str s) = some (.own H.length 1 0 s.length s.length, H ++ [some (s.map fun b => [.int .u8 b.toNat])]) := (_root_.id rfl)
theorem copyV_own (sz r sz' off len tot : Nat) (y : AV) : copyV H sz (.own r sz' off len tot) y = copyC H sz r sz' off len tot (liveO H r tot) (srcOf H y) := by
 unfold copyV
 cases srcOf H y with
 | none => simp only []; unfold copyC; split <;> simp_all
 | some cs => simp only []; cases liveO H r tot <;> rfl
theorem copyC_some (sz r sz' off len tot : Nat) (o : AObj) (src : List (List AV)) : copyC H sz r sz' off len tot (some o) (some src) = if off + len ≤ tot ∧ src.all (fun e => decide (e.length = sz)) = true ∧ sz' = sz then
 some (.int .i64 (min src.length len : Nat), H.set r (some (o.take off ++ src.take (min src.length len) ++ o.drop (off + min src.length len))))
        else none := (_root_.id rfl)
theorem srcOf_str (s : List UInt8) : srcOf H (.str s) = some (s.map fun b => [.int .u8 b.toNat]) := (_root_.id rfl)
theorem srcOf_fz (es : List (List PV)) : srcOf H (.fz es) = some (es.map fun e => e.map emb) := (_root_.id rfl)
theorem srcOf_emp : srcOf H .emp = some [] := (_root_.id rfl)
theorem elemsOf_fz (es : List (List PV)) : elemsOf H (.fz es) = some (es.map fun e => e.map emb) := (_root_.id rfl)
theorem elemsOf_emp : elemsOf H .emp = some [] := (_root_.id rfl)
theorem elemsOf_own (r sz off len tot : Nat) : elemsOf H (.own r sz off len tot) = elC off len tot (liveO H r tot) := by
 simp only [elemsOf]
 cases liveO H r tot <;> rfl
theorem srcOf_own (r sz off len tot : Nat) : srcOf H (.own r sz off len tot) = elC off len tot (liveO H r tot) := elemsOf_own H r sz off len tot
theorem elC_some (off len tot : Nat) (o : AObj) : elC off len tot (some o) = if off + len ≤ tot then some ((o.drop off).take len) else none := (_root_.id rfl)
theorem eqsV_agg (neg : Bool) (ks : List EK) (xs ys : List AV) : eqsV H neg ks (.agg xs) (.agg ys) = (eqCells ks xs ys).map fun r => .bool (r != neg) := (_root_.id rfl)
theorem rdO_some (i j n : Nat) (o : AObj) : rdO i j n (some o) = match o[i]? with | some e => if j + n ≤ e.length then some ((e.drop j).take n) else none | none => none := (_root_.id rfl)
theorem liveO_cons_zero (o : AObj) (H : AH) (tot : Nat) : liveO (some o :: H) 0 tot = if o.length = tot then some o else none := (_root_.id rfl)
theorem liveO_cons_succ (x : Option AObj) (H : AH) (r tot : Nat) : liveO (x :: H) (r + 1) tot = liveO H r tot := (_root_.id rfl)
end
end Go.Proofs.YtemjlopoffjmpaaGreat.Abs
