/-
  Part 2 of the proof: no condition. (Parts of the abstract layer, of the program's functions in its form, and of their contracts.)
-/
import Derived.Test.YtemjlopoffjmpaaGreatAOWk
import Derived.Test.YtemjlopoffjmpaaGreatAOWk3
import Derived.Test.YtemjlopoffjmpaaGreatAO1
import Derived.Test.YtemjlopoffjmpaaGreatAOAbs36
import Derived.Test.YtemjlopoffjmpaaGreatAOAbs39
import Derived.Test.YtemjlopoffjmpaaGreatAOAbs38
import Derived.Test.YtemjlopoffjmpaaGreatAOAbs27
import Derived.Test.YtemjlopoffjmpaaGreatAOAbs22
import Derived.Test.YtemjlopoffjmpaaGreatProg
import Derived.KernelRfl
set_option linter.unusedSimpArgs false
set_option linter.unusedVariables false
namespace Go.Proofs.YtemjlopoffjmpaaGreat.Abs
open Go Go.Proofs
def PartsC (path : List UInt8) (P : List (List UInt8) → Prop) (B : Prop) : Prop :=
 ∀ H, C Tryz.prog 109 [.str path] H (fun x H' => H' = H ∧ ((∃ l : List (List UInt8), P l ∧ l.length ≤ 7 ∧ x = .tuple [.fz (l.map pname), .bool true]) ∨ (B ∧ x = .tuple [.fz [], .bool false])))
theorem find_spec {path : List UInt8} {P : List (List UInt8) → Prop} {B : Prop} (hp : PartsC path P B) (s : List Node) (hs : s.length ≤ 1000000) (h0s : 0 < s.length) (H : AH) :
 C Tryz.prog 112 [aset s, .str path] H (fun x H' => H' = H ∧ ((∃ l, P l ∧ ∃ k : Nat, k < s.length ∧ downR s l 0 k ∧ x = .tuple [.int .i64 k, .int .i64 0]) ∨ ∃ e : Int, e ≠ 0 ∧ (B ∨ ∃ l, P l ∧ downF s l) ∧ x = .tuple [.int .i64 0, .int .i64 e])) := by
 refine C_body d112 rfl (WT_ok ?_)
 unfold c112
 simp only [aset, iaddr_node, pnode, wk3, wk, seval]
 refine CT_ok (hp H) ?_
 rintro _ H ⟨rfl, ⟨l, hl, hlen, rfl⟩ | ⟨hB, rfl⟩⟩
 ·simp only [iaddr_node, pnode, wk3, wk, seval]
  refine CT_ok (down_spec s hs h0s l (by omega) H) ?_
  rintro _ H ⟨rfl, ⟨k, hk, hR, rfl⟩ | ⟨e, he, hF, rfl⟩⟩
  ·simp only [iaddr_node, pnode, wk3, wk, seval]
   exact .inl ⟨l, hl, k, hk, hR, rfl⟩
  ·simp only [iaddr_node, pnode, wk3, wk, seval]
   exact .inr ⟨e, he, .inr ⟨l, hl, hF⟩, rfl⟩
 ·simp only [iaddr_node, pnode, wk3, wk, seval]
  exact .inr ⟨1, by omega, .inl hB, rfl⟩
theorem file_spec {path : List UInt8} {P : List (List UInt8) → Prop} {B : Prop} (hp : PartsC path P B) (s : List Node) (hs : s.length ≤ 1000000) (h0s : 0 < s.length) (H : AH) :
 C Tryz.prog 82 [aset s, .str path] H (fun x H' => H' = H ∧ ((∃ l, P l ∧ ∃ k : Nat, k < s.length ∧ downR s l 0 k ∧ (s.getD k default).kind ≠ 2 ∧ x = .tuple [.int .i64 k, .int .i64 0]) ∨
   ∃ e : Int, e ≠ 0 ∧ (B ∨ (∃ l, P l ∧ downF s l) ∨ ∃ l, P l ∧ ∃ k : Nat, k < s.length ∧ downR s l 0 k ∧ (s.getD k default).kind = 2) ∧ x = .tuple [.int .i64 0, .int .i64 e])) := by
 refine C_body d82 rfl (WT_ok ?_)
 unfold c82
 simp only [aset, iaddr_node, pnode, wk3, wk, seval]
 refine CT_ok (find_spec hp s hs h0s H) ?_
 rintro _ H ⟨rfl, ⟨l, hl, k, hk, hR, rfl⟩ | ⟨e, he, hF, rfl⟩⟩
 ·have h1 : (0 : Int) ≤ k := by omega
  have h2 : (k : Int) < s.length := by omega
  simp only [h1, h2, iaddr_node, pnode, wk3, wk, seval]
  refine guard_both ?_ ?_ <;> intro h3 <;> simp only [hy] at h3 <;> simp only [h3, iaddr_node, pnode, wk3, wk, seval]
  ·exact .inr ⟨4, by omega, .inr (.inr ⟨l, hl, k, hk, hR, h3⟩), rfl⟩
  ·exact .inl ⟨l, hl, k, hk, hR, h3, rfl⟩
 ·simp only [he, iaddr_node, pnode, wk3, wk, seval]
  refine .inr ⟨e, he, ?_, rfl⟩
  rcases hF with h | h
  ·exact .inl h
  ·exact .inr (.inl h)
theorem slicel_names (H : AH) (fr : List AV) (l : List (List UInt8)) (x : Opd) (n : Nat) (hn : n ≤ l.length) (h0 : evalA fr x = .fz (l.map pname)) (lo hi : Option Opd) (hlo : bnd (evalA fr) lo 0 n = some 0) (hhi : bnd (evalA fr) hi l.length l.length = some n) :
 aop0 (.slicel 1 x lo hi) (evalA fr) H = some (.fz ((l.take n).map pname)) := by
 simp only [aop0, h0, List.length_map, hhi, hlo, List.drop_zero]
 rw [if_pos, List.map_take]
 rw [List.all_eq_true]
 intro e he
 obtain ⟨y, _, rfl⟩ := List.mem_map.1 (List.mem_of_mem_take he)
 rfl
theorem RT_slicel_names {P : Program} (d : Option Nat) (rest : List AInstr) (K : List AV → AH → Prop) (fr : List AV) (H : AH) (l : List (List UInt8)) (x hi : Opd) (k : IntKind) (n : Nat) (hn : n ≤ l.length) (h0 : evalA fr x = .fz (l.map pname)) (h1 : evalA fr hi = .int k (n : Int)) (t u)
 (h : RT P rest K (setA fr d (.fz ((l.take n).map pname))) H .mk .mk) : RT P (⟨d, none, .slicel 1 x none (some hi)⟩ :: rest) K fr H t u := by
 have e := slicel_names H fr l x n hn h0 none (some hi) rfl (by simp only [bnd, h1, Int.toNat_natCast]; rw [if_pos (by omega)])
 show RA P _ K fr H
 unfold RA
 show onSome (aop (.slicel 1 x none (some hi)) (evalA fr) H) _
 unfold aop
 rw [e]
 exact h
theorem place_spec {path : List UInt8} {P : List (List UInt8) → Prop} {B : Prop} (hp : PartsC path P B) (s : List Node) (hs : s.length ≤ 1000000) (h0s : 0 < s.length) (H : AH) :
 C Tryz.prog 78 [aset s, .str path] H (fun x H' => H' = H ∧ ((∃ l a, P (l ++ [a]) ∧ ∃ k : Nat, k < s.length ∧ downR s l 0 k ∧ (s.getD k default).kind = 2 ∧ x = .tuple [.int .i64 k, .str a, .int .i64 0]) ∨
   ∃ e : Int, e ≠ 0 ∧ x = .tuple [.int .i64 0, .str [], .int .i64 e])) := by
 refine C_body d78 rfl (WT_ok ?_)
 unfold c78
 simp only [aset, iaddr_node, pnode, wk3, wk, seval]
 refine CT_ok (hp H) ?_
 rintro _ H ⟨rfl, ⟨l, hl, hlen, rfl⟩ | ⟨hB, rfl⟩⟩
 ·simp only [iaddr_node, pnode, wk3, wk, seval]
  refine guard_both ?_ ?_ <;> intro h3 <;> simp only [hy] at h3
  ·simp only [h3, iaddr_node, pnode, wk3, wk, seval]
   exact .inr ⟨1, by omega, rfl⟩
  ·have hl0 : 0 < l.length := by omega
   have w1 : IntKind.i64.wrap ((l.length : Int) - 1) = ((l.length - 1 : Nat) : Int) := by rw [IntWalk.i64_in _ (by omega)]; omega
   have hsplit : l = l.take (l.length - 1) ++ [l.getD (l.length - 1) default] := by
    rw [List.getD_eq_getElem?_getD, List.getElem?_eq_getElem (by omega), Option.getD_some]
    have := List.take_append_drop (l.length - 1) l
    rw [List.drop_eq_getElem_cons (by omega), List.drop_eq_nil_of_le (by omega)] at this
    exact this.symm
   simp only [h3, w1, iaddr_node, pnode, wk3, wk, seval]
   refine RT_slicel_names _ _ _ _ _ l _ _ _ (l.length - 1) (by omega) rfl rfl _ _ ?_
   simp only [h3, w1, iaddr_node, pnode, wk3, wk, seval]
   refine CT_ok (down_spec s hs h0s (l.take (l.length - 1)) (by simp; omega) H) ?_
   rintro _ H ⟨rfl, ⟨k, hk, hR, rfl⟩ | ⟨e, he, hF, rfl⟩⟩
   ·have h1 : (0 : Int) ≤ k := by omega
    have h2 : (k : Int) < s.length := by omega
    have h2' : ¬ (s.length : Int) ≤ k := by omega
    have h4 : (0 : Int) ≤ ((l.length - 1 : Nat) : Int) := by omega
    have h5 : ((l.length - 1 : Nat) : Int) < l.length := by omega
    simp only [h1, h2, h2', iaddr_node, pnode, wk3, wk, seval]
    refine guard_both ?_ ?_ <;> intro h6 <;> simp only [hy] at h6
    ·simp only [h6, iaddr_node, pnode, wk3, wk, seval]
     exact .inr ⟨5, by omega, rfl⟩
    ·simp only [h6, iaddr_node, pnode, wk3, wk, seval]
     refine WT_draw ?_
     simp only [w1, h4, h5, iaddr_name, pname, iaddr_node, pnode, wk3, wk, seval]
     refine .inl ⟨l.take (l.length - 1), _, ?_, k, hk, hR, by simpa using h6, rfl⟩
     rw [← hsplit]; exact hl
   ·simp only [he, iaddr_node, pnode, wk3, wk, seval]
    exact .inr ⟨e, he, rfl⟩
 ·simp only [iaddr_node, pnode, wk3, wk, seval]
  exact .inr ⟨1, by omega, rfl⟩
end Go.Proofs.YtemjlopoffjmpaaGreat.Abs
set_option linter.unusedSimpArgs false
set_option linter.unusedVariables false
namespace Go.Proofs.YtemjlopoffjmpaaGreat.Abs
open Go Go.Proofs
def itUp (s : List Node) : Nat → Nat → Nat
 | 0, i => i
 | m + 1, i => itUp s m (s.getD i default).up.toNat
theorem itUp_succ (s : List Node) : ∀ (m i : Nat), itUp s (m + 1) i = (s.getD (itUp s m i) default).up.toNat
 | 0, _ => rfl
 | m + 1, i => itUp_succ s m _
theorem itUp_add (s : List Node) : ∀ (m n i : Nat), itUp s (m + n) i = itUp s n (itUp s m i)
 | 0, n, i => by rw [Nat.zero_add]; rfl
 | m + 1, n, i => by rw [show m + 1 + n = (m + n) + 1 by omega]; exact itUp_add s m n _
theorem Wf.up8 {s : List Node} (h : Wf s) {i : Nat} (hi : i < 8) : (s.getD i default).up.toNat < 8 := by have := h.upD i (by have := h.len; omega); omega
theorem Wf.itUp0 {s : List Node} (h : Wf s) : ∀ m, itUp s m 0 = 0
 | 0 => rfl
 | m + 1 => by show itUp s m (s.getD 0 default).up.toNat = 0; rw [h.top]; exact h.itUp0 m
theorem Wf.itUp8 {s : List Node} (h : Wf s) : ∀ (m : Nat) {i : Nat}, i < 8 → itUp s m i < 8
 | 0, _, hi => hi
 | m + 1, _, hi => h.itUp8 m (h.up8 hi)
theorem Wf.upk {s : List Node} (h : Wf s) {i : Nat} (hi : i < 8) (hk : (s.getD i default).kind ≠ 0) : (s.getD (s.getD i default).up.toNat default).kind = 2 := by
 by_cases h0 : i = 0
 ·subst h0; rw [h.top]; exact h.root2
 ·exact (h.ok i (by omega) hi).upf hk
theorem Wf.itUpk {s : List Node} (h : Wf s) : ∀ (m : Nat) {i : Nat}, i < 8 → (s.getD i default).kind ≠ 0 → (s.getD (itUp s m i) default).kind ≠ 0
 | 0, _, _, hk => hk
 | m + 1, _, hi, hk => h.itUpk m (h.up8 hi) (by rw [h.upk hi hk]; decide)
theorem Wf.climb {s : List Node} (h : Wf s) {i : Nat} (hi : i < 8) (hk : (s.getD i default).kind ≠ 0) : itUp s 8 i = 0 := by
 obtain ⟨r0, hr0⟩ := h.tree
 obtain ⟨r, hr8, hr⟩ := rank8 r0 h.len (fun i hi => h.up8 hi) hr0
 have g : ∀ m, itUp s m i = 0 ∨ r (itUp s m i) + m ≤ r i := by
  intro m
  induction m with
  | zero => right; exact Nat.le_refl _
  | succ m ih =>
    rcases ih with ih | ih
    ·left; rw [itUp_succ, ih, h.top]; rfl
    ·by_cases h0 : itUp s m i = 0
     ·left; rw [itUp_succ, h0, h.top]; rfl
     ·right
      rw [itUp_succ]
      have := hr (itUp s m i) (by omega) (h.itUp8 m hi) (h.itUpk m hi hk)
      omega
 rcases g 8 with e | e
 ·exact e
 ·have := hr8 i hi; omega
theorem withA_nat (s : List Node) (n : Nat) (x : Node) : withA s n x = s.set n x := by
 unfold withA
 rw [if_pos (by omega), Int.toNat_natCast]
theorem Wf.kidOf {s : List Node} (h : Wf s) {i : Nat} {n : Int} (h1 : 1 ≤ i) (hi : i < 8) (hk : (s.getD i default).kind ≠ 0) (hu : (s.getD i default).up = n) : kid s n i :=
 ⟨h1, by have := h.len; omega, by rcases (h.ok i h1 hi).kinds with e | e; exact absurd e hk; exact e, hu⟩
theorem make_wf {s : List Node} (h : Wf s) {kind : Int} {up n : Nat} {a : List UInt8} (hup : up < 8) (hk2 : (s.getD up default).kind = 2) (hno : ∀ k, kid s up k → (s.getD k default).name ≠ a) (hn : n < 8) (hn0 : (s.getD n default).kind = 0) (hk : kind = 1 ∨ kind = 2) (ha : mayN a = true) :
 Wf (withA s n ⟨kind, up, a, [], 0⟩) := by
 rw [withA_nat]
 have hn1 : 1 ≤ n := by
  rcases Nat.eq_zero_or_pos n with e | e
  ·subst e; exact absurd hn0 h.root
  ·exact e
 have hk0 : kind ≠ 0 := by omega
 have hne : up ≠ n := by rintro rfl; omega
 have nou : ∀ i, 1 ≤ i → i < 8 → (s.getD i default).kind ≠ 0 → (s.getD i default).up.toNat ≠ n := fun i h1 h8 hki e => by
  have := h.upk h8 hki; rw [e] at this; omega
 obtain ⟨r, hr⟩ := h.tree
 refine h.put hn1 hn (x := ⟨kind, up, a, [], 0⟩) ⟨rfl, .inr hk, fun e => absurd e hk0, fun _ => rfl, fun _ => ha, ⟨by show (0 : Int) ≤ up; omega, by show (up : Int) < 8; omega⟩, fun _ => hk2, by show 0 ≤ 128; omega⟩ (fun _ => .inl hne) (.inr fun i h1 h8 _ hki => nou i h1 h8 hki) ?_ (fun i => if i = n then r up + 1 else r i) ?_ ?_
 ·intro _ i h1 h8 _ hki hu hnm
  exact hno i (h.kidOf h1 h8 hki hu) hnm
 ·intro i h1 h8 hin hki
  show (if _ then _ else _) < (if _ then _ else _)
  rw [if_neg (nou i h1 h8 hki), if_neg hin]
  exact hr i h1 h8 hki
 ·intro _
  show (if (up : Int).toNat = n then r up + 1 else r (up : Int).toNat) < (if n = n then r up + 1 else r n)
  rw [Int.toNat_natCast, if_neg hne, if_pos rfl]
  omega
theorem drop_wf {s : List Node} (h : Wf s) {k : Nat} (hk1 : k ≠ 0) (hk : k < 8) (hno : ∀ i, ¬ kid s k i) : Wf (withA s k ⟨0, 0, [], [], 0⟩) := by
 rw [withA_nat]
 obtain ⟨r, hr⟩ := h.tree
 refine h.put (by omega) hk (x := ⟨0, 0, [], [], 0⟩) ⟨rfl, .inl rfl, fun _ => rfl, fun e => absurd e (by decide), fun e => absurd rfl e, ⟨by decide, by decide⟩, fun e => absurd rfl e, by show 0 ≤ 128; omega⟩ (fun e => absurd rfl e) (.inr fun i h1 h8 _ hki e => ?_) (fun e => absurd rfl e) r (fun i h1 h8 _ hki => hr i h1 h8 hki) (fun e => absurd rfl e)
 have := h.upD i (by have := h.len; omega)
 exact hno i (h.kidOf h1 h8 hki (by omega))
theorem body_wf {s : List Node} (h : Wf s) {k : Nat} (hk : k < 8) (hk2 : (s.getD k default).kind ≠ 2) (hk0 : (s.getD k default).kind ≠ 0) {y : List UInt8} (hy : y.length ≤ 128) : Wf (withA s k ⟨(s.getD k default).kind, (s.getD k default).up, (s.getD k default).name, y, (s.getD k default).bad⟩) := by
 rw [withA_nat]
 have hk1 : k ≠ 0 := by rintro rfl; exact hk2 h.root2
 have o := h.ok k (by omega) hk
 obtain ⟨r, hr⟩ := h.tree
 refine h.put (by omega) hk (x := ⟨(s.getD k default).kind, (s.getD k default).up, (s.getD k default).name, y, (s.getD k default).bad⟩) ⟨o.bad, o.kinds, fun e => absurd e hk0, fun e => absurd e hk2, o.name, o.up, o.upf, hy⟩ (fun _ => .inl fun e => ?_) (.inr fun i h1 h8 _ hki e => ?_) (fun _ i h1 h8 hik hki hu hnm => ?_) r (fun i h1 h8 _ hki => hr i h1 h8 hki) (fun _ => hr k (by omega) hk hk0)
 ·have := h.upk hk hk0
  rw [show (s.getD k default).up.toNat = k from e] at this; exact hk2 this
 ·have := h.upk h8 hki
  rw [e] at this; exact hk2 this
 ·exact hik (h.uniq i k h1 h8 (by omega) hk hki hk0 hu hnm)
open Classical in
theorem move_wf {s : List Node} (h : Wf s) {k up : Nat} {a : List UInt8} (hk1 : k ≠ 0) (hk : k < 8) (hk0 : (s.getD k default).kind ≠ 0) (hup : up < 8) (hk2 : (s.getD up default).kind = 2) (hno : ∀ k, kid s up k → (s.getD k default).name ≠ a) (ha : mayN a = true)
 (hin : ∀ m, itUp s m up ≠ k) : Wf (withA s k ⟨(s.getD k default).kind, up, a, (s.getD k default).body, (s.getD k default).bad⟩) := by
 rw [withA_nat]
 have o := h.ok k (by omega) hk
 have hne : up ≠ k := hin 0
 obtain ⟨r, hr⟩ := h.tree
 refine h.put (by omega) hk (x := ⟨(s.getD k default).kind, up, a, (s.getD k default).body, (s.getD k default).bad⟩) ⟨o.bad, o.kinds, fun e => absurd e hk0, o.fold, fun _ => ha, ⟨by show (0 : Int) ≤ up; omega, by show (up : Int) < 8; omega⟩, fun _ => hk2, o.body⟩ (fun _ => .inl hne) ?_ ?_ (fun i => if (∃ m, itUp s m i = k) then r up + 1 + r i else r i) ?_ ?_
 ·by_cases e : (s.getD k default).kind = 2
  ·exact .inl e
  ·refine .inr fun i h1 h8 _ hki e2 => ?_
   have := h.upk h8 hki
   rw [e2] at this; exact e this
 ·intro _ i h1 h8 _ hki hu hnm
  exact hno i (h.kidOf h1 h8 hki hu) hnm
 ·intro i h1 h8 hik hki
  have hri := hr i h1 h8 hki
  have e : (∃ m, itUp s m (s.getD i default).up.toNat = k) ↔ ∃ m, itUp s m i = k := by
   constructor
   ·rintro ⟨m, hm⟩; exact ⟨m + 1, hm⟩
   ·rintro ⟨m, hm⟩
    cases m with
    | zero => exact absurd hm hik
    | succ m => exact ⟨m, hm⟩
  show (if _ then _ else _) < (if _ then _ else _)
  by_cases g : ∃ m, itUp s m i = k
  ·rw [if_pos (e.2 g), if_pos g]; omega
  ·rw [if_neg (fun h => g (e.1 h)), if_neg g]; exact hri
 ·intro _
  have g : ¬ ∃ m, itUp s m up = k := fun ⟨m, hm⟩ => hin m hm
  show (if ∃ m, itUp s m up = k then _ else r up) < (if _ then _ else _)
  rw [if_neg g, if_pos ⟨0, rfl⟩]; omega
end Go.Proofs.YtemjlopoffjmpaaGreat.Abs
set_option linter.unusedSimpArgs false
set_option linter.unusedVariables false
namespace Go.Proofs.YtemjlopoffjmpaaGreat.Abs
open Go Go.Proofs
theorem there_nat {s : List Node} {n : Nat} (hn : n < s.length) (hk : (s.getD n default).kind ≠ 0) : there s n = true := by
 unfold there
 rw [Bool.and_eq_true]
 exact ⟨decide_eq_true ⟨by omega, by omega⟩, decide_eq_true (by rw [Int.toNat_natCast]; exact hk)⟩
theorem within_spec (s : List Node) (hw : Wf s) (n top : Nat) (hn : n < s.length) (hnk : (s.getD n default).kind ≠ 0) (ht : top < s.length) (htk : (s.getD top default).kind ≠ 0) (H : AH) :
 C Tryz.prog 126 [aset s, .int .i64 n, .int .i64 top] H (fun x H' => ∃ b, x = .bool b ∧ (b = true ↔ ∃ m, itUp s m n = top) ∧ H' = H) := by
 have hlen := hw.len
 have t1 := there_nat hn hnk
 have t2 := there_nat ht htk
 refine C_body d126 rfl (WT_ok ?_)
 unfold c126
 simp only [aset, iaddr_node, pnode, wk3, wk, seval]
 refine CT_ok (there_spec s n H) ?_
 rintro _ H ⟨rfl, rfl⟩
 simp only [t1, iaddr_node, pnode, wk3, wk, seval]
 refine CT_ok (there_spec s top H) ?_
 rintro _ H ⟨rfl, rfl⟩
 simp only [t2, iaddr_node, pnode, wk3, wk, seval]
 refine WT_loop (W_wk (fr' := [.fz (s.map pnode), .int .i64 n, .int .i64 top, .top, .top, .top, .bool false, .int .i64 0] ++ List.replicate 33 .top) (Wk_tops ?_) (W_loop (fun nn fr H' => ∃ (k : Nat), k ≤ s.length ∧ nn = s.length - k ∧ (∀ j, j < k → itUp s j n ≠ top ∧ itUp s j n ≠ 0) ∧ H' = H ∧ fr = [.fz (s.map pnode), .int .i64 (itUp s k n : Nat), .int .i64 top, .top, .top, .top, .bool false, .int .i64 k] ++ List.replicate 33 .top) s.length ⟨0, by omega, rfl, fun j hj => by omega, rfl, rfl⟩ ?_))
 ·simp only [List.replicate_succ, List.replicate_zero, List.cons_append, List.nil_append, Tops_top, Tops_same, Tops_nil]
 rintro nn fr H ⟨k, hk, rfl, hj, rfl, rfl⟩
 refine WT_ok ?_
 simp only [iaddr_node, pnode, wk3, wk, seval]
 have ha : itUp s k n < 8 := hw.itUp8 k (by omega)
 have g1 : (0 : Int) ≤ (itUp s k n : Nat) := by omega
 have g2 : ((itUp s k n : Nat) : Int) < s.length := by omega
 have w2 : IntKind.i64.wrap ((k : Int) + 1) = (k : Int) + 1 := IntWalk.i64_in _ (by omega)
 have fin : (itUp s k n = 0 ∨ k = 8) → itUp s k n ≠ top → ¬ ∃ m, itUp s m n = top := by
  rintro h0 h1 ⟨m, hm⟩
  rcases Nat.lt_or_ge m k with h | h
  ·exact (hj m h).1 hm
  ·have e := itUp_add s k (m - k) n
   rw [show k + (m - k) = m by omega, hm] at e
   have z : itUp s k n = 0 := by
    rcases h0 with h0 | h0
    ·exact h0
    ·subst h0; exact hw.climb (by omega) hnk
   rw [z, hw.itUp0] at e
   omega
 refine guard_both ?_ ?_ <;> intro h3 <;> simp only [hy] at h3
 ·simp only [h3, iaddr_node, pnode, wk3, wk, seval]
  refine guard_both ?_ ?_ <;> intro h4 <;> simp only [hy] at h4
  ·simp only [h3, h4, iaddr_node, pnode, wk3, wk, seval]
   refine guard_both ?_ ?_ <;> intro h5 <;> simp only [hy] at h5
   ·simp only [h3, h4, h5, g1, g2, w2, iaddr_node, pnode, wk3, wk, seval]
    have hu := hw.upD (itUp s k n) (by omega)
    refine QLoop_go (n' := s.length - (k + 1)) (by omega) ⟨k + 1, by omega, rfl, fun j h => ?_, rfl, rfl⟩ ?_
    ·rcases Nat.lt_or_ge j k with h' | h'
     ·exact hj j h'
     ·have : j = k := by omega
      subst this
      exact ⟨by omega, by omega⟩
    ·have e : ((itUp s (k + 1) n : Nat) : Int) = (s.getD (itUp s k n) default).up := by rw [itUp_succ]; omega
     simp only [e, List.replicate_succ, List.replicate_zero, List.cons_append, List.nil_append, Tops_top, Tops_same, Tops_nil, Int.natCast_add, Int.natCast_one]
   ·simp only [h3, h4, h5, iaddr_node, pnode, wk3, wk, seval]
    refine ⟨_, rfl, ?_⟩
    have := fin (.inl (by omega)) (by omega)
    simp only [decide_eq_true_eq]
    exact ⟨fun e => absurd (by omega) h4, fun e => absurd e this⟩
  ·simp only [h3, h4, iaddr_node, pnode, wk3, wk, seval]
   exact ⟨_, rfl, ⟨fun _ => ⟨k, by omega⟩, fun _ => by simp⟩⟩
 ·simp only [h3, iaddr_node, pnode, wk3, wk, seval]
  refine ⟨_, rfl, ?_⟩
  simp only [decide_eq_true_eq]
  exact ⟨fun e => ⟨k, by omega⟩, fun e => Classical.byContradiction fun g => fin (.inr (by omega)) (by omega) e⟩
theorem make_spec {path : List UInt8} {P : List (List UInt8) → Prop} {B : Prop} (hp : PartsC path P B) (s : List Node) (hs : s.length ≤ 1000000) (h0s : 0 < s.length) (kind : Int) (H : AH) :
 C Tryz.prog 41 [aset s, .str path, .int .i64 kind] H (fun x H' => H' = H ∧ ((∃ e : Int, e ≠ 0 ∧ x = .tuple [aset s, .int .i64 e]) ∨
   ∃ l a up n, P (l ++ [a]) ∧ up < s.length ∧ downR s l 0 up ∧ (s.getD up default).kind = 2 ∧ (∀ k, kid s up k → (s.getD k default).name ≠ a) ∧ n < s.length ∧ (s.getD n default).kind = 0 ∧ (kind = 1 ∨ kind = 2) ∧ x = .tuple [aset (withA s n ⟨kind, up, a, [], 0⟩), .int .i64 0])) := by
 refine C_body d41 rfl (WT_ok ?_)
 unfold c41
 simp only [aset, iaddr_node, pnode, wk3, wk, seval]
 by_cases hk : kind = 1 ∨ kind = 2
 ·rcases hk with rfl | rfl
  all_goals
   simp only [iaddr_node, pnode, wk3, wk, seval]
   refine CT_ok (place_spec hp s hs h0s H) ?_
   rintro _ H ⟨rfl, ⟨l, a, hl, up, hup, hR, hk2, rfl⟩ | ⟨e, he, rfl⟩⟩
   ·simp only [iaddr_node, pnode, wk3, wk, seval]
    refine CT_ok (kid_spec s hs up a H) ?_
    rintro _ H ⟨rfl, ⟨k, hk, hnm, rfl⟩ | ⟨rfl, hno⟩⟩
    ·simp only [iaddr_node, pnode, wk3, wk, seval]
     exact .inl ⟨3, by omega, rfl⟩
    ·simp only [iaddr_node, pnode, wk3, wk, seval]
     refine CT_ok (free_spec s hs H) ?_
     rintro _ H ⟨rfl, ⟨n, hn, hn0, rfl⟩ | rfl⟩
     ·simp only [iaddr_node, pnode, wk3, wk, seval]
      refine CT_ok (with_spec s hs n ⟨_, up, a, [], 0⟩ H) ?_
      rintro _ H ⟨rfl, rfl⟩
      simp only [iaddr_node, pnode, wk3, wk, seval]
      exact .inr ⟨l, a, up, n, hl, hup, hR, hk2, hno, hn, hn0, by simp, rfl⟩
     ·simp only [iaddr_node, pnode, wk3, wk, seval]
      exact .inl ⟨8, by omega, rfl⟩
   ·simp only [he, iaddr_node, pnode, wk3, wk, seval]
    exact .inl ⟨e, he, rfl⟩
 ·have h1 : ¬ kind = 1 := fun e => hk (.inl e)
  have h2 : ¬ kind = 2 := fun e => hk (.inr e)
  simp only [h1, h2, iaddr_node, pnode, wk3, wk, seval]
  exact .inl ⟨1, by omega, rfl⟩
end Go.Proofs.YtemjlopoffjmpaaGreat.Abs
set_option linter.unusedSimpArgs false
set_option linter.unusedVariables false
namespace Go.Proofs.YtemjlopoffjmpaaGreat.Abs
open Go Go.Proofs
def NextW (s : List Node) (x : AV) : Prop := ∃ (t : List Node) (e : Int), Wf t ∧ x = .tuple [aset t, .int .i64 e]
theorem KWk_bare {K : AV → AH → Prop} {x : AV} {H : AH} (hx : bare x = true) (hk : K x []) : KWk 0 K x H := by
 refine ⟨x, [], ?_, hk⟩
 have := Wk_forget (n0 := 0) (fr := [x]) (H := H) 0 (Nat.le_refl _)
 rw [renL_bare _ _ (by simp [bareL, hx])] at this
 simpa [mapH] using this
theorem bare_next (t : List Node) (e : Int) : bare (.tuple [aset t, .int .i64 e]) = true := by simp [bare, bareL, aset]
theorem next_pure {f : FuncId} {args : List AV} {s : List Node} (h : C Tryz.prog f args [] (fun x H' => NextW s x ∧ H' = [])) (ha : bareL args = true) (H : AH) : C Tryz.prog f args H (fun x H' => H' = H ∧ NextW s x) :=
 (C_pure (K0 := fun x => NextW s x) h (fun τ => renL_bare τ _ ha) (by rintro x ⟨t, e, _, rfl⟩ τ; exact ren_bare τ _ (bare_next t e)) H).mono fun x H' h => ⟨h.2, h.1⟩
theorem downR_some {s : List Node} (h : Wf s) : ∀ {l : List (List UInt8)} {k : Nat}, downR s l 0 k → (s.getD k default).kind ≠ 0 := by
 have g : ∀ (l : List (List UInt8)) (a k : Nat), (s.getD a default).kind ≠ 0 → downR s l a k → (s.getD k default).kind ≠ 0 := by
  intro l
  induction l with
  | nil => intro a k ha hR; simp only [downR] at hR; subst hR; exact ha
  | cons x l ih =>
    rintro a k ha ⟨_, m, hm, _, hR⟩
    refine ih m k ?_ hR
    rcases hm.2.2.1 with e | e <;> rw [e] <;> decide
 exact fun {l k} => g l 0 k h.root
theorem drop_spec {path : List UInt8} {P : List (List UInt8) → Prop} {B : Prop} (hp : PartsC path P B) (s : List Node) (hw : Wf s) (H : AH) :
 C Tryz.prog 98 [aset s, .str path] H (fun x H' => H' = H ∧ NextW s x) := by
 have hlen := hw.len
 refine C_body d98 rfl (WT_ok ?_)
 unfold c98
 simp only [aset, iaddr_node, pnode, wk3, wk, seval]
 refine CT_ok (find_spec hp s (by omega) (by omega) H) ?_
 rintro _ H ⟨rfl, ⟨l, hl, k, hk, hR, rfl⟩ | ⟨e, he, hF, rfl⟩⟩
 ·simp only [iaddr_node, pnode, wk3, wk, seval]
  refine guard_both ?_ ?_ <;> intro h3 <;> simp only [hy] at h3
  ·simp only [h3, iaddr_node, pnode, wk3, wk, seval]
   exact ⟨s, 4, hw, rfl⟩
  ·simp only [h3, iaddr_node, pnode, wk3, wk, seval]
   refine CT_ok (kids_spec s (by omega) k H) ?_
   rintro _ H ⟨⟨l2, rfl, hl2, hll2⟩, rfl⟩
   simp only [iaddr_node, pnode, wk3, wk, seval]
   refine guard_both ?_ ?_ <;> intro h4 <;> simp only [hy] at h4
   ·simp only [h4, iaddr_node, pnode, wk3, wk, seval]
    exact ⟨s, 6, hw, rfl⟩
   ·simp only [h4, iaddr_node, pnode, wk3, wk, seval]
    refine CT_ok (with_spec s (by omega) k ⟨0, 0, [], [], 0⟩ H) ?_
    rintro _ H ⟨rfl, rfl⟩
    simp only [iaddr_node, pnode, wk3, wk, seval]
    refine ⟨_, 0, drop_wf hw (by omega) (by omega) (fun i hi => ?_), rfl⟩
    have := (hl2 i).2 hi
    have : l2 = [] := by
     have : ¬ 0 < l2.length := by omega
     exact List.eq_nil_of_length_eq_zero (by omega)
    subst this; cases (hl2 i).2 hi
 ·simp only [he, iaddr_node, pnode, wk3, wk, seval]
  exact ⟨s, e, hw, rfl⟩
theorem move_spec0 {path path2 : List UInt8} {P P' : List (List UInt8) → Prop} {B B' : Prop} (hp : PartsC path P B) (hp' : PartsC path2 P' B') (hP : ∀ l, P' l → ∀ x ∈ l, mayN x = true) (s : List Node) (hw : Wf s) :
 C Tryz.prog 99 [aset s, .str path, .str path2] [] (fun x H' => NextW s x ∧ H' = []) := by
 have hlen := hw.len
 refine C_body' d99 rfl (WT_ok ?_)
 unfold c99
 simp only [aset, iaddr_node, pnode, wk3, wk, seval]
 refine CT_ok (find_spec hp s (by omega) (by omega) []) ?_
 rintro _ _ ⟨rfl, ⟨l0, hl0, k, hk, hR0, rfl⟩ | ⟨e, he, hF, rfl⟩⟩
 ·simp only [iaddr_node, pnode, wk3, wk, seval]
  refine guard_both ?_ ?_ <;> intro h3 <;> simp only [hy] at h3
  ·simp only [h3, iaddr_node, pnode, wk3, wk, seval]
   exact KWk_bare (bare_next s _) ⟨⟨s, _, hw, rfl⟩, rfl⟩
  ·simp only [h3, iaddr_node, pnode, wk3, wk, seval]
   refine CT_ok (place_spec hp' s (by omega) (by omega) []) ?_
   rintro _ _ ⟨rfl, ⟨l, a, hl, up, hup, hR, hk2, rfl⟩ | ⟨e, he, rfl⟩⟩
   ·simp only [iaddr_node, pnode, wk3, wk, seval]
    have h1 : (0 : Int) ≤ k := by omega
    have h2 : (k : Int) < s.length := by omega
    refine CT_ok (kid_spec s (by omega) up a []) ?_
    rintro _ _ ⟨rfl, ⟨m, hm, hnm, rfl⟩ | ⟨rfl, hno⟩⟩
    ·simp only [iaddr_node, pnode, wk3, wk, seval]
     refine guard_both ?_ ?_ <;> intro h4 <;> simp only [hy] at h4
     ·simp only [h4, iaddr_node, pnode, wk3, wk, seval]
      exact KWk_bare (bare_next s _) ⟨⟨s, _, hw, rfl⟩, rfl⟩
     ·simp only [h4, iaddr_node, pnode, wk3, wk, seval]
      exact KWk_bare (bare_next s _) ⟨⟨s, _, hw, rfl⟩, rfl⟩
    ·simp only [iaddr_node, pnode, wk3, wk, seval]
     refine CT_ok (within_spec s hw up k hup (by omega) hk (downR_some hw hR0) []) ?_
     rintro _ _ ⟨b, rfl, hb, rfl⟩
     simp only [iaddr_node, pnode, wk3, wk, seval]
     cases b
     ·simp only [h1, h2, lay, iaddr_node, pnode, wk3, wk, seval]
      refine CT_ok (with_spec s (by omega) k ⟨(s.getD k default).kind, up, a, (s.getD k default).body, (s.getD k default).bad⟩ _) ?_
      rintro _ _ ⟨rfl, rfl⟩
      simp only [iaddr_node, pnode, wk3, wk, seval]
      have hin : ∀ m, itUp s m up ≠ k := fun m e => by
       have := hb.2 ⟨m, e⟩
       cases this
      exact KWk_bare (bare_next _ _) ⟨⟨_, _, move_wf hw (by omega) (by omega) (downR_some hw hR0) (by omega) hk2 hno (hP _ hl a (by simp)) hin, rfl⟩, rfl⟩
     ·simp only [iaddr_node, pnode, wk3, wk, seval]
      exact KWk_bare (bare_next s _) ⟨⟨s, _, hw, rfl⟩, rfl⟩
   ·simp only [he, iaddr_node, pnode, wk3, wk, seval]
    exact KWk_bare (bare_next s _) ⟨⟨s, _, hw, rfl⟩, rfl⟩
 ·simp only [he, iaddr_node, pnode, wk3, wk, seval]
  exact KWk_bare (bare_next s _) ⟨⟨s, _, hw, rfl⟩, rfl⟩
theorem move_spec {path path2 : List UInt8} {P P' : List (List UInt8) → Prop} {B B' : Prop} (hp : PartsC path P B) (hp' : PartsC path2 P' B') (hP : ∀ l, P' l → ∀ x ∈ l, mayN x = true) (s : List Node) (hw : Wf s) (H : AH) :
 C Tryz.prog 99 [aset s, .str path, .str path2] H (fun x H' => H' = H ∧ NextW s x) := next_pure (move_spec0 hp hp' hP s hw) (by simp [bareL, bare, aset]) H
theorem cut_spec0 {path : List UInt8} {P : List (List UInt8) → Prop} {B : Prop} (hp : PartsC path P B) (s : List Node) (hw : Wf s) (size : Int) :
 C Tryz.prog 100 [aset s, .str path, .int .i64 size] [] (fun x H' => NextW s x ∧ H' = []) := by
 have hlen := hw.len
 refine C_body' d100 rfl (WT_ok ?_)
 unfold c100
 simp only [aset, iaddr_node, pnode, wk3, wk, seval]
 refine CT_ok (file_spec hp s (by omega) (by omega) []) ?_
 rintro _ _ ⟨rfl, ⟨l, hl, k, hk, hR, hk2, rfl⟩ | ⟨e, he, hF, rfl⟩⟩
 ·simp only [iaddr_node, pnode, wk3, wk, seval]
  have h1 : (0 : Int) ≤ k := by omega
  have h2 : (k : Int) < s.length := by omega
  refine guard_both ?_ ?_ <;> intro h3 <;> simp only [hy] at h3
  ·simp only [h3, iaddr_node, pnode, wk3, wk, seval]
   exact KWk_bare (bare_next s _) ⟨⟨s, _, hw, rfl⟩, rfl⟩
  ·simp only [h3, iaddr_node, pnode, wk3, wk, seval]
   refine guard_both ?_ ?_ <;> intro h4 <;> simp only [hy] at h4
   ·simp only [h4, iaddr_node, pnode, wk3, wk, seval]
    exact KWk_bare (bare_next s _) ⟨⟨s, _, hw, rfl⟩, rfl⟩
   ·simp only [h1, h2, h4, lay, iaddr_node, pnode, wk3, wk, seval]
    obtain ⟨m, rfl⟩ : ∃ m : Nat, size = m := ⟨size.toNat, by omega⟩
    refine CT_ok (long_spec (s.getD k default).body m (by omega) _) ?_
    rintro _ _ ⟨rfl, rfl⟩
    simp only [lay, iaddr_node, pnode, wk3, wk, seval]
    refine CT_ok (with_spec s (by omega) k ⟨(s.getD k default).kind, (s.getD k default).up, (s.getD k default).name, longA (s.getD k default).body m, (s.getD k default).bad⟩ _) ?_
    rintro _ _ ⟨rfl, rfl⟩
    simp only [iaddr_node, pnode, wk3, wk, seval]
    exact KWk_bare (bare_next _ _) ⟨⟨_, _, body_wf hw (by omega) hk2 (downR_some hw hR) (y := longA (s.getD k default).body m) (by rw [longA_len]; omega), rfl⟩, rfl⟩
 ·simp only [he, iaddr_node, pnode, wk3, wk, seval]
  exact KWk_bare (bare_next s _) ⟨⟨s, _, hw, rfl⟩, rfl⟩
theorem cut_spec {path : List UInt8} {P : List (List UInt8) → Prop} {B : Prop} (hp : PartsC path P B) (s : List Node) (hw : Wf s) (size : Int) (H : AH) :
 C Tryz.prog 100 [aset s, .str path, .int .i64 size] H (fun x H' => H' = H ∧ NextW s x) := next_pure (cut_spec0 hp s hw size) (by simp [bareL, bare, aset]) H
end Go.Proofs.YtemjlopoffjmpaaGreat.Abs
set_option linter.unusedSimpArgs false
set_option linter.unusedVariables false
namespace Go.Proofs.YtemjlopoffjmpaaGreat.Abs
open Go Go.Proofs
def WriteR (P : List (List UInt8) → Prop) (B : Prop) (s : List Node) (off : Int) (text : List UInt8) (x : AV) : Prop :=
 (((B ∨ (∃ l, P l ∧ downF s l) ∨ ∃ l, P l ∧ ∃ k : Nat, k < s.length ∧ downR s l 0 k ∧ (s.getD k default).kind = 2) ∨ off < 0 ∨ 128 < off + text.length) ∧ ∃ e : Int, x = .tuple [aset s, .int .i64 e]) ∨ (text = [] ∧ x = .tuple [aset s, .int .i64 0]) ∨
   ∃ l, P l ∧ ∃ k : Nat, k < s.length ∧ downR s l 0 k ∧ (s.getD k default).kind ≠ 2 ∧ ∃ y, (y.length ≤ 128 ∧ (off = 0 → (s.getD k default).body = [] → y = text)) ∧ x = .tuple [aset (withA s k ⟨(s.getD k default).kind, (s.getD k default).up, (s.getD k default).name, y, (s.getD k default).bad⟩), .int .i64 0]
theorem slicel_own (H : AH) (fr : List AV) (r n : Nat) (x lo : Opd) (k : IntKind) (o : Nat) (ho : o < n) (h0 : evalA fr x = .own r 1 0 n n) (h1 : evalA fr lo = .int k (o : Int)) (hr : (liveO H r n).isSome = true) :
 aop0 (.slicel 1 x (some lo) none) (evalA fr) H = some (.own r 1 o (n - o) n) := by
 obtain ⟨ob, hob⟩ := Option.isSome_iff_exists.1 hr
 have hb : bnd (evalA fr) (some lo) 0 n = some o := by
  simp only [bnd, h1, Int.toNat_natCast]
  rw [if_pos (by omega)]
 have hb2 : bnd (evalA fr) none n (n - 0) = some n := rfl
 simp only [aop0, h0, hob]
 rw [if_pos ⟨Nat.zero_le _, trivial⟩]
 simp only [hb2, hb]
 by_cases h : o = 0
 ·subst h; simp
 ·rw [if_neg h, if_neg (by omega), Nat.zero_add]
theorem RT_slicel_own {P : Program} (d : Option Nat) (rest : List AInstr) (K : List AV → AH → Prop) (fr : List AV) (H : AH) (r n : Nat) (x lo : Opd) (k : IntKind) (o : Nat) (ho : o < n) (h0 : evalA fr x = .own r 1 0 n n) (h1 : evalA fr lo = .int k (o : Int)) (hr : (liveO H r n).isSome = true) (t u)
 (h : RT P rest K (setA fr d (.own r 1 o (n - o) n)) H .mk .mk) : RT P (⟨d, none, .slicel 1 x (some lo) none⟩ :: rest) K fr H t u := by
 have e := slicel_own H fr r n x lo k o ho h0 h1 hr
 show RA P _ K fr H
 unfold RA
 show onSome (aop (.slicel 1 x (some lo) none) (evalA fr) H) _
 unfold aop
 rw [e]
 exact h
def overA (b : List UInt8) (o : Nat) (t : List UInt8) : List UInt8 := b.take o ++ t ++ b.drop (o + t.length)
theorem overA_len (b : List UInt8) (o : Nat) (t : List UInt8) (h : o + t.length ≤ b.length) : (overA b o t).length = b.length := by
 unfold overA; simp only [List.length_append, List.length_take, List.length_drop]; omega
theorem over_cells (b : List UInt8) (o : Nat) (t : List UInt8) : List.take o (b.map fun b => [AV.int .u8 b.toNat]) ++ List.take t.length (t.map fun b => [AV.int .u8 b.toNat]) ++ List.drop (o + t.length) (b.map fun b => [AV.int .u8 b.toNat]) = (overA b o t).map fun b => [AV.int .u8 b.toNat] := by
 unfold overA
 rw [List.take_of_length_le (l := t.map _) (by simp)]
 simp only [List.map_append, List.map_take, List.map_drop]
theorem write_spec0 {path : List UInt8} {P : List (List UInt8) → Prop} {B : Prop} (hp : PartsC path P B) (s : List Node) (hw : Wf s) (off : Int) (text : List UInt8) (htl : text.length < 2 ^ 40) :
 C Tryz.prog 42 [aset s, .str path, .int .i64 off, .str text] [] (fun x H' => WriteR P B s off text x ∧ H' = []) := by
 have hlen := hw.len
 refine C_body' d42 rfl (WT_ok ?_)
 unfold c42
 simp only [aset, iaddr_node, pnode, wk3, wk, seval]
 refine CT_ok (file_spec hp s (by omega) (by omega) []) ?_
 rintro _ _ ⟨rfl, ⟨l, hl, k, hk, hR, hk2, rfl⟩ | ⟨e, he, hF, rfl⟩⟩
 ·simp only [iaddr_node, pnode, wk3, wk, seval]
  have h1 : (0 : Int) ≤ k := by omega
  have h2 : (k : Int) < s.length := by omega
  refine guard_both ?_ ?_ <;> intro h3 <;> simp only [hy] at h3
  ·simp only [h3, iaddr_node, pnode, wk3, wk, seval]
   exact KWk_bare (bare_next s _) ⟨.inl ⟨.inr (.inl h3), _, rfl⟩, rfl⟩
  ·simp only [h3, iaddr_node, pnode, wk3, wk, seval]
   by_cases h4 : (128 : Int) < off
   ·simp only [h4, iaddr_node, pnode, wk3, wk, seval]
    exact KWk_bare (bare_next s _) ⟨.inl ⟨.inr (.inr (by omega)), _, rfl⟩, rfl⟩
   ·have w1 : IntKind.i64.wrap ((128 : Int) - off) = 128 - off := IntWalk.i64_in _ (by omega)
    simp only [h4, w1, iaddr_node, pnode, wk3, wk, seval]
    refine guard_both ?_ ?_ <;> intro h5 <;> simp only [hy] at h5
    ·simp only [h5, iaddr_node, pnode, wk3, wk, seval]
     exact KWk_bare (bare_next s _) ⟨.inl ⟨.inr (.inr (by omega)), _, rfl⟩, rfl⟩
    ·simp only [h5, iaddr_node, pnode, wk3, wk, seval]
     refine guard_both ?_ ?_ <;> intro h6 <;> simp only [hy] at h6
     ·simp only [h6, iaddr_node, pnode, wk3, wk, seval]
      subst h6; exact KWk_bare (bare_next s _) ⟨.inr (.inl ⟨rfl, rfl⟩), rfl⟩
     ·obtain ⟨o, rfl⟩ : ∃ m : Nat, off = m := ⟨off.toNat, by omega⟩
      have w2 : IntKind.i64.wrap ((o : Int) + text.length) = ((o + text.length : Nat) : Int) := by rw [IntWalk.i64_in _ (by omega)]; omega
      have hb := hw.bodyD k hk
      simp only [h1, h2, h6, w2, lay, iaddr_node, pnode, wk3, wk, seval]
      rw [show (if ((o + text.length : Nat) : Int) > ((s.getD k default).body.length : Nat) then ((o + text.length : Nat) : Int) else ((s.getD k default).body.length : Nat)) = ((max (s.getD k default).body.length (o + text.length) : Nat) : Int) by split <;> omega]
      generalize hm : max (s.getD k default).body.length (o + text.length) = m
      have hm1 : o + text.length ≤ m := by omega
      have hm2 : m ≤ 128 := by omega
      have htp : 0 < text.length := List.length_pos_iff.2 h6
      refine CT_ok (long_spec (s.getD k default).body m (by omega) _) ?_
      rintro _ _ ⟨rfl, rfl⟩
      simp only [h6, lay, longA_len, iaddr_node, pnode, wk3, wk, seval]
      refine RT_slicel_own _ _ _ _ _ 1 m _ _ _ o (by omega) rfl rfl ?_ _ _ ?_
      ·simp [liveO, AH.at, longA_len]
      simp only [lay, longA_len, iaddr_node, pnode, wk3, wk, seval]
      refine ⟨⟨by omega, by simp⟩, ?_⟩
      rw [← List.length_append, ← List.length_append, show min text.length (m - o) = text.length by omega, over_cells, List.length_map, overA_len _ _ _ (by rw [longA_len]; omega), longA_len]
      simp only [iaddr_node, pnode, wk3, wk, seval]
      rw [List.take_of_length_le (by rw [List.length_map, overA_len _ _ _ (by rw [longA_len]; omega), longA_len]; omega), Option.bind_some, bytesOf_map]
      simp only [lay, iaddr_node, pnode, wk3, wk, seval]
      refine CT_ok (with_spec s (by omega) k ⟨(s.getD k default).kind, (s.getD k default).up, (s.getD k default).name, overA (longA (s.getD k default).body m) o text, (s.getD k default).bad⟩ _) ?_
      rintro _ _ ⟨rfl, rfl⟩
      simp only [iaddr_node, pnode, wk3, wk, seval]
      refine KWk_bare (bare_next _ _) ⟨.inr (.inr ⟨l, hl, k, hk, hR, hk2, overA (longA (s.getD k default).body m) o text, ⟨?_, fun h hb0 => ?_⟩, rfl⟩), rfl⟩
      ·rw [overA_len _ _ _ (by rw [longA_len]; omega), longA_len]; omega
      ·have : o = 0 := by omega
       subst this
       rw [hb0, List.length_nil] at hm
       have : m = text.length := by omega
       subst this
       rw [hb0]
       unfold overA
       rw [Nat.zero_add, List.drop_of_length_le (by rw [longA_len]; exact Nat.le_refl _)]
       simp
 ·simp only [he, iaddr_node, pnode, wk3, wk, seval]
  exact KWk_bare (bare_next s _) ⟨.inl ⟨.inl hF, _, rfl⟩, rfl⟩
theorem WriteR_bare {P : List (List UInt8) → Prop} {B : Prop} {s : List Node} {off : Int} {text : List UInt8} {x : AV} (h : WriteR P B s off text x) : ∃ t e, x = .tuple [aset t, .int .i64 e] := by
 rcases h with ⟨_, e, rfl⟩ | ⟨_, rfl⟩ | ⟨_, _, _, _, _, _, _, _, rfl⟩
 ·exact ⟨_, _, rfl⟩
 ·exact ⟨_, _, rfl⟩
 ·exact ⟨_, _, rfl⟩
theorem write_spec {path : List UInt8} {P : List (List UInt8) → Prop} {B : Prop} (hp : PartsC path P B) (s : List Node) (hw : Wf s) (off : Int) (text : List UInt8) (htl : text.length < 2 ^ 40) (H : AH) :
 C Tryz.prog 42 [aset s, .str path, .int .i64 off, .str text] H (fun x H' => H' = H ∧ WriteR P B s off text x) :=
 (C_pure (K0 := WriteR P B s off text) (write_spec0 hp s hw off text htl) (fun τ => renL_bare τ _ (by simp [bareL, bare, aset])) (by rintro x hx τ; obtain ⟨t, e, rfl⟩ := WriteR_bare hx; exact ren_bare τ _ (bare_next t e)) H).mono fun x H' h => ⟨h.2, h.1⟩
theorem WriteR_next {P : List (List UInt8) → Prop} {B : Prop} {s : List Node} (hw : Wf s) {off : Int} {text : List UInt8} {x : AV} (h : WriteR P B s off text x) : NextW s x := by
 rcases h with ⟨_, e, rfl⟩ | ⟨_, rfl⟩ | ⟨l, _, k, hk, hR, hk2, y, hy, rfl⟩
 ·exact ⟨_, _, hw, rfl⟩
 ·exact ⟨_, _, hw, rfl⟩
 ·exact ⟨_, _, body_wf hw (by have := hw.len; omega) hk2 (downR_some hw hR) hy.1, rfl⟩
end Go.Proofs.YtemjlopoffjmpaaGreat.Abs
set_option linter.unusedSimpArgs false
set_option linter.unusedVariables false
namespace Go.Proofs.YtemjlopoffjmpaaGreat.Abs
open Go Go.Proofs
def cellN (x : List UInt8) : List AV := [.str x]
theorem Wk_strs {fr fr' : List AV} {l : List (List UInt8)} {G : AH} (h : Tops fr' (renL (upTo 1) fr)) : Wk 0 fr (some (l.map cellN) :: G) fr' [some (l.map cellN)] := by
 have h1 := (Wk_forget (n0 := 0) (fr := fr) (H := some (l.map cellN) :: G) 1 (Nat.zero_le _)).trans (Wk_tops h)
 have e : mapH (renL (upTo 1)) ((some (l.map cellN) :: G).take 1) = [some (l.map cellN)] := by
  simp only [List.take_succ_cons, List.take_zero, mapH, List.map_cons, List.map_nil, Option.map_some, List.map_map]
  congr 2
 rwa [e] at h1
theorem KWk_none {K : AV → AH → Prop} {b : Bool} {H : AH} (hk : K (.tuple [.fz [], .bool b]) []) : KWk 0 K (.tuple [.emp, .bool b]) H := by
 have h1 := Wk_forget (n0 := 0) (fr := [.tuple [.emp, .bool b]]) (H := H) 0 (Nat.le_refl _)
 have e : renL (upTo 0) [.tuple [.emp, .bool b]] = [.tuple [.emp, .bool b]] := by simp [renL, ren]
 have e2 : mapH (renL (upTo 0)) (H.take 0) = [] := by simp [mapH]
 rw [e, e2] at h1
 refine ⟨_, [], h1.trans ?_, hk⟩
 intro E w vs hs hr
 refine ⟨E, LeN.refl _ _, hs, hr.1, fun i c u hc hu => ?_⟩
 match i, hc, hu with
 | 0, hc, hu =>
   simp at hc; subst hc
   obtain ⟨ws, rfl, hl, hw⟩ := rep_tuple (hr.2 0 _ u rfl hu)
   refine .tuple _ _ hl fun i c u hc hu => ?_
   match i, hc, hu with
   | 0, hc, hu =>
     simp at hc; subst hc
     obtain ⟨a, rfl⟩ := rep_emp (hw 0 _ u rfl hu)
     exact .pure (x := .fz []) (.fz0 _ _)
   | 1, hc, hu => simp at hc; subst hc; exact hw 1 _ u rfl hu
   | i + 2, hc, _ => simp at hc
 | i + 1, hc, _ => simp at hc
def partsGo : List UInt8 → List UInt8 → List (List UInt8) → Option (List (List UInt8))
 | [], cur, out => if mayN cur = true ∧ out.length < 7 then some (out ++ [cur]) else none
 | c :: r, cur, out => if c = 47 then (if mayN cur = true ∧ out.length < 7 then partsGo r [] (out ++ [cur]) else none) else partsGo r (cur ++ [c]) out
def partsA (path : List UInt8) : Option (List (List UInt8)) := if path = [] then some [] else partsGo path [] []
def partsV : Option (List (List UInt8)) → AV
 | some l => .tuple [.fz (l.map pname), .bool true]
 | none => .tuple [.fz [], .bool false]
theorem partsGo_ok : ∀ (r cur : List UInt8) (out l : List (List UInt8)), partsGo r cur out = some l → (∀ x ∈ out, mayN x = true) → out.length ≤ 7 → (∀ x ∈ l, mayN x = true) ∧ l.length ≤ 7
 | [], cur, out, l, h, ho, hl => by
   unfold partsGo at h
   split at h
   ·rename_i hc
    cases h
    refine ⟨fun x hx => ?_, by simp; omega⟩
    rcases List.mem_append.1 hx with hx | hx
    ·exact ho x hx
    ·rw [List.mem_singleton] at hx; subst hx; exact hc.1
   ·cases h
 | c :: r, cur, out, l, h, ho, hl => by
   unfold partsGo at h
   split at h
   ·split at h
    ·rename_i hc
     refine partsGo_ok r [] _ l h (fun x hx => ?_) (by simp; omega)
     rcases List.mem_append.1 hx with hx | hx
     ·exact ho x hx
     ·rw [List.mem_singleton] at hx; subst hx; exact hc.1
    ·cases h
   ·exact partsGo_ok r _ out l h ho hl
theorem partsA_ok {path : List UInt8} {l : List (List UInt8)} (h : partsA path = some l) : (∀ x ∈ l, mayN x = true) ∧ l.length ≤ 7 := by
 unfold partsA at h
 split at h
 ·cases h; exact ⟨fun x hx => (by cases hx), by simp⟩
 ·exact partsGo_ok _ _ _ _ h (fun x hx => by cases hx) (by simp)
theorem parts_spec0 (path : List UInt8) (hp : path.length ≤ 1000000) :
 C Tryz.prog 109 [.str path] [] (fun x H' => x = partsV (partsA path) ∧ H' = []) := by
 refine C_body' d109 rfl (WT_ok ?_)
 unfold c109
 simp only [iaddr_node, pnode, wk3, wk, seval]
 refine guard_both ?_ ?_ <;> intro h0 <;> simp only [hy] at h0
 ·simp only [h0, iaddr_node, pnode, wk3, wk, seval]
  refine KWk_none ⟨?_, rfl⟩
  simp [partsA, partsV]
 ·have hA : partsA path = partsGo path [] [] := by unfold partsA; rw [if_neg h0]
  simp only [h0, iaddr_node, pnode, wk3, wk, seval]
  refine WT_loop (W_wk (Wk_empAt 4 1 rfl) (W_wk (fr' := [.str path, .top, .emp, .bool false, .own 0 1 0 0 0, .int .i64 0, .int .i64 0] ++ List.replicate 39 .top) (Wk_tops ?_) (W_loop (fun nn fr H' => ∃ (i from' : Nat) (l : List (List UInt8)), from' ≤ i ∧ i ≤ path.length + 1 ∧ nn = path.length + 1 - i ∧ l.length ≤ 7 ∧
   (i ≤ path.length → partsA path = partsGo (path.drop i) (List.drop from' (List.take i path)) l) ∧ (i = path.length + 1 → partsA path = some l) ∧ H' = [some (l.map cellN)] ∧
   fr = [.str path, .top, .emp, .bool false, .own 0 1 0 l.length l.length, .int .i64 from', .int .i64 i] ++ List.replicate 39 .top) (path.length + 1) ⟨0, 0, [], by omega, by omega, rfl, by simp, fun _ => hA, fun h => by omega, rfl, rfl⟩ ?_)))
  ·simp only [List.replicate_succ, List.replicate_zero, List.set_cons_succ, List.set_cons_zero, List.cons_append, List.nil_append, List.length_nil, Tops_top, Tops_same, Tops_nil]
  rintro nn fr H' ⟨i, from', l, hfi, hi, rfl, hl, hgo, hend, rfl, rfl⟩
  refine WT_ok ?_
  simp only [iaddr_node, pnode, wk3, wk, seval]
  refine guard_both ?_ ?_ <;> intro h <;> simp only [hy] at h
  ·have g0 : (0 : Int) ≤ i := by omega
   have gf : (0 : Int) ≤ from' := by omega
   have gfi : (from' : Int) ≤ i := by omega
   have w2 : IntKind.i64.wrap ((i : Int) + 1) = ((i + 1 : Nat) : Int) := by rw [IntWalk.i64_in _ (by omega)]; omega
   have hgo' := hgo (by omega)
   generalize hcur : List.drop from' (List.take i path) = cur at hgo'
   by_cases h1 : (i : Int) < path.length
   ·have hil : i < path.length := by omega
    have hd : path.drop i = path[i] :: path.drop (i + 1) := List.drop_eq_getElem_cons hil
    have hgi : path.getD i 0 = path[i] := by rw [List.getD_eq_getElem?_getD, List.getElem?_eq_getElem hil]; rfl
    rw [hd] at hgo'
    unfold partsGo at hgo'
    simp only [h, h1, g0, gf, gfi, hgi, iaddr_node, pnode, wk3, wk, seval]
    refine guard_both ?_ ?_ <;> intro h2 <;> simp only [hy] at h2
    ·have h47 : ¬ path[i] = 47 := by
      intro e; rw [e] at h2; exact h2 rfl
     rw [if_neg h47] at hgo'
     simp only [h, h1, h2, w2, iaddr_node, pnode, wk3, wk, seval]
     refine QLoop_go (n' := path.length + 1 - (i + 1)) (by omega) ⟨i + 1, from', l, by omega, by omega, rfl, hl, fun _ => ?_, fun e => by omega, rfl, rfl⟩ (by simp only [List.replicate_succ, List.replicate_zero, List.cons_append, List.nil_append, Tops_top, Tops_same, Tops_nil])
     rw [hgo', ← hcur, List.take_add_one, List.getElem?_eq_getElem hil, List.drop_append_of_le_length (by simp; omega)]
     rfl
    ·have h47 : path[i] = 47 := by
      have h3 : path[i].toNat = 47 := by omega
      exact UInt8.toNat_inj.1 h3
     rw [if_pos h47] at hgo'
     simp only [h, h1, h2, g0, gf, gfi, hcur, iaddr_node, pnode, wk3, wk, seval]
     refine CT_ok (mayname_spec _ ?_ _) ?_
     ·rw [← hcur]; simp only [List.length_drop, List.length_take]; omega
     rintro _ H ⟨rfl, rfl⟩
     by_cases hm : mayN cur = true
     ·by_cases h3 : (7 : Int) ≤ l.length
      ·rw [if_neg (by omega)] at hgo'
       simp only [h, h1, h2, h3, hm, g0, gf, gfi, iaddr_node, pnode, wk3, wk, seval]
       refine KWk_none ⟨?_, rfl⟩
       rw [hgo']; rfl
      ·rw [if_pos ⟨hm, by omega⟩] at hgo'
       have e : List.map cellN l ++ [[AV.str cur]] = (l ++ [cur]).map cellN := by simp [cellN]
       simp only [h, h1, h2, h3, hm, g0, gf, gfi, w2, hcur, iaddr_node, pnode, wk3, wk, seval]
       rw [e]
       refine ⟨⟨by omega, by omega⟩, ?_⟩
       refine QLoop_wk (n' := path.length + 1 - (i + 1)) (by omega) ⟨i + 1, i + 1, l ++ [cur], by omega, by omega, rfl, by simp; omega, fun _ => ?_, fun e => by omega, rfl, rfl⟩ (Wk_strs ?_)
       ·rw [hgo', show List.drop (i + 1) (List.take (i + 1) path) = [] from List.drop_of_length_le (by simp; omega)]
       ·simp only [List.length_append, List.length_cons, List.length_nil, List.replicate_succ, List.replicate_zero, List.cons_append, List.nil_append, renL, ren, upTo, Nat.zero_add, Nat.zero_lt_one, if_true, Tops_top, Tops_same, Tops_nil]
     ·rw [if_neg (by simp [hm])] at hgo'
      rw [Bool.not_eq_true] at hm
      simp only [h, h1, h2, hm, g0, gf, gfi, iaddr_node, pnode, wk3, wk, seval]
      refine KWk_none ⟨?_, rfl⟩
      rw [hgo']; rfl
   ·have hil : i = path.length := by omega
    rw [List.drop_of_length_le (by omega)] at hgo'
    unfold partsGo at hgo'
    simp only [h, h1, g0, gf, gfi, hcur, iaddr_node, pnode, wk3, wk, seval]
    refine CT_ok (mayname_spec _ ?_ _) ?_
    ·rw [← hcur]; simp only [List.length_drop, List.length_take]; omega
    rintro _ H ⟨rfl, rfl⟩
    by_cases hm : mayN cur = true
    ·by_cases h3 : (7 : Int) ≤ l.length
     ·rw [if_neg (by omega)] at hgo'
      simp only [h, h1, h3, hm, g0, gf, gfi, iaddr_node, pnode, wk3, wk, seval]
      refine KWk_none ⟨?_, rfl⟩
      rw [hgo']; rfl
     ·rw [if_pos ⟨hm, by omega⟩] at hgo'
      have e : List.map cellN l ++ [[AV.str cur]] = (l ++ [cur]).map cellN := by simp [cellN]
      simp only [h, h1, h3, hm, g0, gf, gfi, w2, hcur, iaddr_node, pnode, wk3, wk, seval]
      rw [e]
      refine ⟨⟨by omega, by omega⟩, ?_⟩
      refine QLoop_wk (n' := path.length + 1 - (i + 1)) (by omega) ⟨i + 1, i + 1, l ++ [cur], by omega, by omega, rfl, by simp; omega, fun e => by omega, fun _ => hgo', rfl, rfl⟩ (Wk_strs ?_)
      simp only [List.length_append, List.length_cons, List.length_nil, List.replicate_succ, List.replicate_zero, List.cons_append, List.nil_append, renL, ren, upTo, Nat.zero_add, Nat.zero_lt_one, if_true, Tops_top, Tops_same, Tops_nil]
    ·rw [if_neg (by simp [hm])] at hgo'
     rw [Bool.not_eq_true] at hm
     simp only [h, h1, hm, g0, gf, gfi, iaddr_node, pnode, wk3, wk, seval]
     refine KWk_none ⟨?_, rfl⟩
     rw [hgo']; rfl
  ·have hA2 := hend (by omega)
   simp only [h, iaddr_node, pnode, wk3, wk, seval]
   refine KWk_frozen 0 (l.map pname) ?_ (.tuple [.fz (l.map pname), .bool true]) ?_ ⟨by rw [hA2]; rfl, rfl⟩
   ·simp [AH.at, cellN, pname, emb]
   ·simp only [frzL, frz, renL, ren, if_true, List.length_map, Nat.zero_add, Nat.le_refl, and_self, List.drop_zero]
    rw [List.take_of_length_le (by simp)]
theorem parts_exact (path : List UInt8) (hp : path.length ≤ 1000000) : PartsC path (fun l => partsA path = some l) (partsA path = none) := fun H =>
 (C_pure (K0 := fun x => x = partsV (partsA path)) (parts_spec0 path hp) (fun τ => renL_bare τ _ (by simp [bareL, bare])) (by rintro x rfl τ; cases partsA path <;> exact ren_bare τ _ (by simp [bare, bareL, partsV])) H).mono fun x H' h => ⟨h.2, by
  rw [h.1]
  cases e : partsA path with
  | some l => exact .inl ⟨l, rfl, (partsA_ok e).2, rfl⟩
  | none => exact .inr ⟨rfl, rfl⟩⟩
theorem PartsC.weak {path : List UInt8} {P P' : List (List UInt8) → Prop} {B B' : Prop} (h : PartsC path P B) (hP : ∀ l, P l → P' l) (hB : B → B') : PartsC path P' B' := fun H =>
 (h H).mono fun x H' g => ⟨g.1, g.2.elim (fun ⟨l, h1, h2, h3⟩ => .inl ⟨l, hP l h1, h2, h3⟩) (fun ⟨h1, h2⟩ => .inr ⟨hB h1, h2⟩)⟩
def Names (l : List (List UInt8)) : Prop := ∀ x ∈ l, mayN x = true
theorem parts_loose (path : List UInt8) (hp : path.length ≤ 1000000) : PartsC path Names True := (parts_exact path hp).weak (fun l h => (partsA_ok h).1) (fun _ => trivial)
end Go.Proofs.YtemjlopoffjmpaaGreat.Abs
set_option linter.unusedSimpArgs false
set_option linter.unusedVariables false
namespace Go.Proofs.YtemjlopoffjmpaaGreat.Abs
open Go Go.Proofs
theorem make_next {path : List UInt8} {P : List (List UInt8) → Prop} {B : Prop} (hp : PartsC path P B) (hP : ∀ l, P l → ∀ x ∈ l, mayN x = true) (s : List Node) (hw : Wf s) (kind : Int) (H : AH) :
 C Tryz.prog 41 [aset s, .str path, .int .i64 kind] H (fun x H' => H' = H ∧ NextW s x) := by
 have hlen := hw.len
 refine (make_spec hp s (by omega) (by omega) kind H).mono ?_
 rintro x H' ⟨rfl, ⟨e, _, rfl⟩ | ⟨l, a, up, n, hl, hup, _, hk2, hno, hn, hn0, hk, rfl⟩⟩
 ·exact ⟨rfl, _, _, hw, rfl⟩
 ·exact ⟨rfl, _, _, make_wf hw (by omega) hk2 hno (by omega) hn0 hk (hP _ hl a (by simp)), rfl⟩
theorem write_next {path : List UInt8} {P : List (List UInt8) → Prop} {B : Prop} (hp : PartsC path P B) (s : List Node) (hw : Wf s) (off : Int) (text : List UInt8) (htl : text.length < 2 ^ 40) (H : AH) :
 C Tryz.prog 42 [aset s, .str path, .int .i64 off, .str text] H (fun x H' => H' = H ∧ NextW s x) := (write_spec hp s hw off text htl H).mono fun x H' h => ⟨h.1, WriteR_next hw h.2⟩
theorem done_spec0 (s : List Node) (hw : Wf s) (k i n a b : Int) (p q t : List UInt8) (hp : p.length ≤ 1000000) (hq : q.length ≤ 1000000) (ht : t.length ≤ 1000000) :
 C Tryz.prog 58 [aset s, .agg [.int .i64 k, .int .i64 i, .int .i64 n, .int .i64 a, .int .i64 b, .str p, .str q, .str t, .emp]] [] (fun x H' => NextW s x ∧ H' = []) := by
 refine C_body' d58 rfl (WT_ok ?_)
 unfold c58
 simp only [aset, lay, iaddr_node, pnode, wk3, wk, seval]
 by_cases h1 : k = 1
 ·simp only [h1, lay, iaddr_node, pnode, wk3, wk, seval]
  refine CT_ok (make_next (parts_loose p hp) (fun _ h => h) s hw n _) ?_
  rintro _ _ ⟨rfl, u, e, hu, rfl⟩
  simp only [lay, iaddr_node, pnode, wk3, wk, seval]
  exact KWk_bare (bare_next u _) ⟨⟨u, _, hu, rfl⟩, rfl⟩
 by_cases h2 : k = 2
 ·simp only [h2, lay, iaddr_node, pnode, wk3, wk, seval]
  refine CT_ok (drop_spec (parts_loose p hp) s hw _) ?_
  rintro _ _ ⟨rfl, u, e, hu, rfl⟩
  simp only [lay, iaddr_node, pnode, wk3, wk, seval]
  exact KWk_bare (bare_next u _) ⟨⟨u, _, hu, rfl⟩, rfl⟩
 by_cases h3 : k = 3
 ·simp only [h3, lay, iaddr_node, pnode, wk3, wk, seval]
  refine CT_ok (move_spec (parts_loose p hp) (parts_loose q hq) (fun _ h => h) s hw _) ?_
  rintro _ _ ⟨rfl, u, e, hu, rfl⟩
  simp only [lay, iaddr_node, pnode, wk3, wk, seval]
  exact KWk_bare (bare_next u _) ⟨⟨u, _, hu, rfl⟩, rfl⟩
 by_cases h4 : k = 4
 ·simp only [h4, lay, iaddr_node, pnode, wk3, wk, seval]
  refine CT_ok (write_next (parts_loose p hp) s hw n t (by omega) _) ?_
  rintro _ _ ⟨rfl, u, e, hu, rfl⟩
  simp only [lay, iaddr_node, pnode, wk3, wk, seval]
  exact KWk_bare (bare_next u _) ⟨⟨u, _, hu, rfl⟩, rfl⟩
 ·simp only [h1, h2, h3, h4, lay, iaddr_node, pnode, wk3, wk, seval]
  refine CT_ok (cut_spec (parts_loose p hp) s hw n _) ?_
  rintro _ _ ⟨rfl, u, e, hu, rfl⟩
  simp only [lay, iaddr_node, pnode, wk3, wk, seval]
  exact KWk_bare (bare_next u _) ⟨⟨u, _, hu, rfl⟩, rfl⟩
theorem done_spec (s : List Node) (hw : Wf s) (k i n a b : Int) (p q t : List UInt8) (hp : p.length ≤ 1000000) (hq : q.length ≤ 1000000) (ht : t.length ≤ 1000000) (H : AH) :
 C Tryz.prog 58 [aset s, .agg [.int .i64 k, .int .i64 i, .int .i64 n, .int .i64 a, .int .i64 b, .str p, .str q, .str t, .emp]] H (fun x H' => H' = H ∧ NextW s x) := next_pure (done_spec0 s hw k i n a b p q t hp hq ht) (by simp [bareL, bare, aset]) H
end Go.Proofs.YtemjlopoffjmpaaGreat.Abs
set_option linter.unusedSimpArgs false
set_option linter.unusedVariables false
namespace Go.Proofs.YtemjlopoffjmpaaGreat.Abs
open Go Go.Proofs
def editA (k i n : Int) (p q t : List UInt8) : AV := .agg [.int .i64 k, .int .i64 i, .int .i64 n, .int .i64 0, .int .i64 0, .str p, .str q, .str t, .emp]
def EditR (l : List UInt8) (n : Int) (x : AV) (H' : AH) : Prop := ∃ (k i m n' : Int) (p q t : List UInt8), p.length ≤ 1000000 ∧ q.length ≤ 1000000 ∧ t.length ≤ 1000000 ∧ (n ≤ n' ∧ 1 ≤ k ∧ k ≤ 5) ∧ x = editA k i m p q t ∧ H' = picksH l n'
theorem KWk_edit {l : List UInt8} {n k i m n' : Int} {p q t : List UInt8} {R : AH} (hp : p.length ≤ 1000000) (hq : q.length ≤ 1000000) (ht : t.length ≤ 1000000) (hn : n ≤ n' ∧ 1 ≤ k ∧ k ≤ 5) :
 KWk 1 (EditR l n) (.agg [.int .i64 k, .int .i64 i, .int .i64 m, .int .i64 0, .int .i64 0, .str p, .str q, .str t, .emp]) (some [[.fz (l.map pbyte), .int .i64 n']] :: R) := by
 refine ⟨_, _, ?_, k, i, m, n', p, q, t, hp, hq, ht, hn, rfl, rfl⟩
 have h := Wk_forget (n0 := 1) (fr := [editA k i m p q t]) (H := some [[.fz (l.map pbyte), .int .i64 n']] :: R) 1 (Nat.le_refl _)
 simpa [mapH, renL, ren, editA, picksH] using h
theorem path_at (l : List UInt8) (n : Int) (hn : 0 ≤ n) (hl : l.length ≤ 1000000) (R : AH) :
 C Tryz.prog 84 [.ptr 0 0 0 1] (some [[.fz (l.map pbyte), .int .i64 n]] :: R) (fun x H' => ∃ (p : List UInt8) (n' : Int), x = .str p ∧ p.length ≤ 11 ∧ n ≤ n' ∧ H' = some [[.fz (l.map pbyte), .int .i64 n']] :: R) := by
 refine C_call (K0 := fun x H' => ∃ (p : List UInt8) (n' : Int), x = .str p ∧ p.length ≤ 11 ∧ n ≤ n' ∧ n' ≤ n + 1 ∧ H' = picksH l n') [0] (by simp) (by simp) ?_ ?_
 ·exact path_spec l n hn hl
 ·rintro _ _ ⟨p, n', rfl, h1, h2, h3, rfl⟩
  exact ⟨Nat.le_refl _, p, n', rfl, h1, h2, by simp [back, setAll, picksH, renO, renL, ren]⟩
section
variable {c : Nat} {late : List Loc → List Loc → Prop} {K : List Nat → Nat → AV → AH → Prop} {t : Tag K}
theorem CFT_num (l : List UInt8) (n k : Int) (hn : 0 ≤ n) (hl : l.length ≤ 1000000) {R : AH} (hc : 0 < c ∧ c ≤ R.length + 1) (hlate : late [.con 0] [.con 0, .len 0])
 (hk : ∀ m n' : Int, 0 ≤ m → (1 ≤ k → m < k) → (k < 1 → m = 0) → n ≤ n' → K [0] c (.int .i64 m) (some [[.fz (l.map pbyte), .int .i64 n']] :: R)) :
 CFT Tryz.prog 44 [.ptr 0 0 0 1, .int .i64 k] c (some [[.fz (l.map pbyte), .int .i64 n]] :: R) late K t := by
 refine CFT_ok [0] 0 (num_spec l n k hn hl) (by simp; omega) hlate ?_
 rintro _ _ ⟨m, n', rfl, h1, h2, h3, h4, h5, rfl⟩
 have := hk m n' h1 h2 h3 h4
 refine ⟨by simp [picksH], ?_⟩
 simpa [setAll, picksH, renO, renL, ren] using this
theorem CFT_path (l : List UInt8) (n : Int) (hn : 0 ≤ n) (hl : l.length ≤ 1000000) {R : AH} (hc : 0 < c ∧ c ≤ R.length + 1) (hlate : late [.con 0] [.con 0, .len 0])
 (hk : ∀ (p : List UInt8) (n' : Int), p.length ≤ 11 → n ≤ n' → K [0] c (.str p) (some [[.fz (l.map pbyte), .int .i64 n']] :: R)) :
 CFT Tryz.prog 84 [.ptr 0 0 0 1] c (some [[.fz (l.map pbyte), .int .i64 n]] :: R) late K t := by
 refine CFT_ok [0] 0 (path_spec l n hn hl) (by simp; omega) hlate ?_
 rintro _ _ ⟨m, n', rfl, h1, h2, h3, rfl⟩
 have := hk m n' h1 h2
 refine ⟨by simp [picksH], ?_⟩
 simpa [setAll, picksH, renO, renL, ren] using this
theorem CFT_text (l : List UInt8) (n : Int) (hn : 0 ≤ n) (hl : l.length ≤ 1000000) {R : AH} (hc : 0 < c ∧ c ≤ R.length + 1) (hlate : late [.con 0] [.con 0, .len 0])
 (hk : ∀ (p : List UInt8) (n' : Int), p.length ≤ 129 → n ≤ n' → K [0] c (.str p) (some [[.fz (l.map pbyte), .int .i64 n']] :: R)) :
 CFT Tryz.prog 85 [.ptr 0 0 0 1] c (some [[.fz (l.map pbyte), .int .i64 n]] :: R) late K t := by
 refine CFT_ok [0] 0 (text_spec l n hn hl) (by simp; omega) hlate ?_
 rintro _ _ ⟨m, n', rfl, h1, h2, h3, rfl⟩
 have := hk m n' h1 h2
 refine ⟨by simp [picksH], ?_⟩
 simpa [setAll, picksH, renO, renL, ren] using this
end
theorem ints_get (vs : List Int) (m : Int) (h0 : 0 ≤ m) (h : m < vs.length) : ∃ v, (vs.map fun v => [AV.int .i64 v])[m.toNat]? = some [AV.int .i64 v] ∧ v ∈ vs := by
 refine ⟨vs[m.toNat]'(by omega), ?_, List.getElem_mem _⟩
 rw [List.getElem?_map, List.getElem?_eq_getElem (by omega), Option.map_some]
theorem edit_spec (l : List UInt8) (n i : Int) (hn : 0 ≤ n) (hl : l.length ≤ 1000000) :
 C Tryz.prog 46 [.ptr 0 0 0 1, .int .i64 i] (picksH l n) (EditR l n) := by
 refine C_body' d46 rfl (WT_ok ?_)
 unfold c46
 simp only [picksH, iaddr_node, pnode, wk3, wk, Nat.reduceAdd, Nat.reduceSub, Nat.reduceMul, Nat.reduceLeDiff, Nat.reduceEqDiff, Nat.reduceBEq, Int.reduceLE, Int.reduceLT, Int.reduceEq, Int.reduceNe, Int.reduceAdd, Int.reduceSub, Int.reduceToNat, Int.reduceNeg, ↓reduceIte, reduceCtorEq]
 refine WT_drawE ?_
 refine WDT_more 2 ?_
 simp only [picksH, lay, iaddr_node, pnode, wk3, wk, Nat.reduceAdd, Nat.reduceSub, Nat.reduceMul, Nat.reduceLeDiff, Nat.reduceEqDiff, Nat.reduceBEq, Int.reduceLE, Int.reduceLT, Int.reduceEq, Int.reduceNe, Int.reduceAdd, Int.reduceSub, Int.reduceToNat, Int.reduceNeg, ↓reduceIte, reduceCtorEq]
 refine ⟨by omega, by omega, ?_⟩
 refine CFT_num l n 12 hn hl (by simp) ⟨by rfl, by rfl⟩ ?_
 intro m n' h1 h2 h3 h4
 have g1 : m < 12 := h2 (by omega)
 obtain ⟨v, hv, hvm⟩ := ints_get [1, 1, 1, 2, 3, 3, 4, 4, 4, 5, 1, 4] m h1 g1
 simp only [List.map_cons, List.map_nil] at hv
 have hvb : 1 ≤ v ∧ v ≤ 5 := by simp at hvm; omega
 simp only [ren, renL, h1, g1, hv, lay, iaddr_node, pnode, wk3, wk, Nat.reduceAdd, Nat.reduceSub, Nat.reduceMul, Nat.reduceLeDiff, Nat.reduceEqDiff, Nat.reduceBEq, Int.reduceLE, Int.reduceLT, Int.reduceEq, Int.reduceNe, Int.reduceAdd, Int.reduceSub, Int.reduceToNat, Int.reduceNeg, ↓reduceIte, reduceCtorEq]
 refine ⟨g1, ?_⟩
 refine CFT_path l n' (by omega) hl (by simp) ⟨by rfl, by rfl⟩ ?_
 intro p n1 hp hn1
 simp only [ren, renL, lay, iaddr_node, pnode, wk3, wk, Nat.reduceAdd, Nat.reduceSub, Nat.reduceMul, Nat.reduceLeDiff, Nat.reduceEqDiff, Nat.reduceBEq, Int.reduceLE, Int.reduceLT, Int.reduceEq, Int.reduceNe, Int.reduceAdd, Int.reduceSub, Int.reduceToNat, Int.reduceNeg, ↓reduceIte, reduceCtorEq]
 refine ⟨by rfl, ?_⟩
 by_cases v1 : v = 1
 ·simp only [v1, lay, iaddr_node, pnode, wk3, wk, Nat.reduceAdd, Nat.reduceSub, Nat.reduceMul, Nat.reduceLeDiff, Nat.reduceEqDiff, Nat.reduceBEq, Int.reduceLE, Int.reduceLT, Int.reduceEq, Int.reduceNe, Int.reduceAdd, Int.reduceSub, Int.reduceToNat, Int.reduceNeg, ↓reduceIte, reduceCtorEq]
  refine CT_ok (num_at l n1 2 (by omega) hl _) ?_
  rintro _ H ⟨m2, n2, rfl, k1, k2, k3, k4, _, rfl⟩
  simp only [lay, iaddr_node, pnode, wk3, wk, Nat.reduceAdd, Nat.reduceSub, Nat.reduceMul, Nat.reduceLeDiff, Nat.reduceEqDiff, Nat.reduceBEq, Int.reduceLE, Int.reduceLT, Int.reduceEq, Int.reduceNe, Int.reduceAdd, Int.reduceSub, Int.reduceToNat, Int.reduceNeg, ↓reduceIte, reduceCtorEq]
  refine CT_ok (num_at l n2 16 (by omega) hl _) ?_
  rintro _ H ⟨m3, n3, rfl, j1, j2, j3, j4, _, rfl⟩
  simp only [lay, iaddr_node, pnode, wk3, wk, Nat.reduceAdd, Nat.reduceSub, Nat.reduceMul, Nat.reduceLeDiff, Nat.reduceEqDiff, Nat.reduceBEq, Int.reduceLE, Int.reduceLT, Int.reduceEq, Int.reduceNe, Int.reduceAdd, Int.reduceSub, Int.reduceToNat, Int.reduceNeg, ↓reduceIte, reduceCtorEq]
  refine guard_both ?_ ?_ <;> intro b <;> simp only [hy] at b
  ·simp only [b, lay, iaddr_node, pnode, wk3, wk, Nat.reduceAdd, Nat.reduceSub, Nat.reduceMul, Nat.reduceLeDiff, Nat.reduceEqDiff, Nat.reduceBEq, Int.reduceLE, Int.reduceLT, Int.reduceEq, Int.reduceNe, Int.reduceAdd, Int.reduceSub, Int.reduceToNat, Int.reduceNeg, ↓reduceIte, reduceCtorEq]
   refine CT_ok (num_at l n3 5 (by omega) hl _) ?_
   rintro _ H ⟨m4, n4, rfl, i1, i2, i3, i4, _, rfl⟩
   simp only [lay, iaddr_node, pnode, wk3, wk, Nat.reduceAdd, Nat.reduceSub, Nat.reduceMul, Nat.reduceLeDiff, Nat.reduceEqDiff, Nat.reduceBEq, Int.reduceLE, Int.reduceLT, Int.reduceEq, Int.reduceNe, Int.reduceAdd, Int.reduceSub, Int.reduceToNat, Int.reduceNeg, ↓reduceIte, reduceCtorEq]
   exact KWk_edit (by omega) (by simp) (by simp) (by omega)
  ·simp only [b, lay, iaddr_node, pnode, wk3, wk, Nat.reduceAdd, Nat.reduceSub, Nat.reduceMul, Nat.reduceLeDiff, Nat.reduceEqDiff, Nat.reduceBEq, Int.reduceLE, Int.reduceLT, Int.reduceEq, Int.reduceNe, Int.reduceAdd, Int.reduceSub, Int.reduceToNat, Int.reduceNeg, ↓reduceIte, reduceCtorEq]
   exact KWk_edit (by omega) (by simp) (by simp) (by omega)
 by_cases v3 : v = 3
 ·simp only [v3, lay, iaddr_node, pnode, wk3, wk, Nat.reduceAdd, Nat.reduceSub, Nat.reduceMul, Nat.reduceLeDiff, Nat.reduceEqDiff, Nat.reduceBEq, Int.reduceLE, Int.reduceLT, Int.reduceEq, Int.reduceNe, Int.reduceAdd, Int.reduceSub, Int.reduceToNat, Int.reduceNeg, ↓reduceIte, reduceCtorEq]
  refine CT_ok (path_at l n1 (by omega) hl _) ?_
  rintro _ H ⟨q, n2, rfl, k1, k2, rfl⟩
  simp only [lay, iaddr_node, pnode, wk3, wk, Nat.reduceAdd, Nat.reduceSub, Nat.reduceMul, Nat.reduceLeDiff, Nat.reduceEqDiff, Nat.reduceBEq, Int.reduceLE, Int.reduceLT, Int.reduceEq, Int.reduceNe, Int.reduceAdd, Int.reduceSub, Int.reduceToNat, Int.reduceNeg, ↓reduceIte, reduceCtorEq]
  exact KWk_edit (by omega) (by omega) (by simp) (by omega)
 by_cases v4 : v = 4
 ·simp only [v4, lay, iaddr_node, pnode, wk3, wk, Nat.reduceAdd, Nat.reduceSub, Nat.reduceMul, Nat.reduceLeDiff, Nat.reduceEqDiff, Nat.reduceBEq, Int.reduceLE, Int.reduceLT, Int.reduceEq, Int.reduceNe, Int.reduceAdd, Int.reduceSub, Int.reduceToNat, Int.reduceNeg, ↓reduceIte, reduceCtorEq]
  refine WT_drawE ?_
  refine WDT_more 1 ?_
  simp only [ren, renL, lay, iaddr_node, pnode, wk3, wk, Nat.reduceAdd, Nat.reduceSub, Nat.reduceMul, Nat.reduceLeDiff, Nat.reduceEqDiff, Nat.reduceBEq, Int.reduceLE, Int.reduceLT, Int.reduceEq, Int.reduceNe, Int.reduceAdd, Int.reduceSub, Int.reduceToNat, Int.reduceNeg, ↓reduceIte, reduceCtorEq]
  refine ⟨by omega, ?_⟩
  refine CFT_num l n1 8 (by omega) hl (by simp) ⟨by rfl, by rfl⟩ ?_
  intro m2 n2 k1 k2 k3 k4
  have k5 : m2 < 8 := k2 (by omega)
  obtain ⟨u, hu, _⟩ := ints_get [0, 0, 1, 31, 32, 64, 100, 130] m2 k1 k5
  simp only [List.map_cons, List.map_nil] at hu
  simp only [ren, renL, k1, k5, hu, lay, iaddr_node, pnode, wk3, wk, Nat.reduceAdd, Nat.reduceSub, Nat.reduceMul, Nat.reduceLeDiff, Nat.reduceEqDiff, Nat.reduceBEq, Int.reduceLE, Int.reduceLT, Int.reduceEq, Int.reduceNe, Int.reduceAdd, Int.reduceSub, Int.reduceToNat, Int.reduceNeg, ↓reduceIte, reduceCtorEq]
  refine ⟨k5, ?_⟩
  refine CFT_text l n2 (by omega) hl (by simp) ⟨by rfl, by rfl⟩ ?_
  intro q n3 hq hn3
  simp only [ren, renL, lay, iaddr_node, pnode, wk3, wk, Nat.reduceAdd, Nat.reduceSub, Nat.reduceMul, Nat.reduceLeDiff, Nat.reduceEqDiff, Nat.reduceBEq, Int.reduceLE, Int.reduceLT, Int.reduceEq, Int.reduceNe, Int.reduceAdd, Int.reduceSub, Int.reduceToNat, Int.reduceNeg, ↓reduceIte, reduceCtorEq]
  refine ⟨by rfl, ?_⟩
  exact KWk_edit (by omega) (by simp) (by omega) (by omega)
 by_cases v5 : v = 5
 ·simp only [v5, lay, iaddr_node, pnode, wk3, wk, Nat.reduceAdd, Nat.reduceSub, Nat.reduceMul, Nat.reduceLeDiff, Nat.reduceEqDiff, Nat.reduceBEq, Int.reduceLE, Int.reduceLT, Int.reduceEq, Int.reduceNe, Int.reduceAdd, Int.reduceSub, Int.reduceToNat, Int.reduceNeg, ↓reduceIte, reduceCtorEq]
  refine CT_ok (num_at l n1 8 (by omega) hl _) ?_
  rintro _ H ⟨m2, n2, rfl, k1, k2, k3, k4, _, rfl⟩
  have k5 : m2 < 8 := k2 (by omega)
  obtain ⟨u, hu, _⟩ := ints_get [0, 1, 32, 33, 128, 129, 60, 64] m2 k1 k5
  simp only [List.map_cons, List.map_nil] at hu
  simp only [k1, k5, hu, lay, iaddr_node, pnode, wk3, wk, Nat.reduceAdd, Nat.reduceSub, Nat.reduceMul, Nat.reduceLeDiff, Nat.reduceEqDiff, Nat.reduceBEq, Int.reduceLE, Int.reduceLT, Int.reduceEq, Int.reduceNe, Int.reduceAdd, Int.reduceSub, Int.reduceToNat, Int.reduceNeg, ↓reduceIte, reduceCtorEq]
  first | exact KWk_edit (by omega) (by simp) (by simp) (by omega) | exact ⟨k5, KWk_edit (by omega) (by simp) (by simp) (by omega)⟩
 ·simp only [v1, v3, v4, v5, lay, iaddr_node, pnode, wk3, wk, Nat.reduceAdd, Nat.reduceSub, Nat.reduceMul, Nat.reduceLeDiff, Nat.reduceEqDiff, Nat.reduceBEq, Int.reduceLE, Int.reduceLT, Int.reduceEq, Int.reduceNe, Int.reduceAdd, Int.reduceSub, Int.reduceToNat, Int.reduceNeg, ↓reduceIte, reduceCtorEq]
  exact KWk_edit (by omega) (by simp) (by simp) (by omega)
end Go.Proofs.YtemjlopoffjmpaaGreat.Abs
set_option linter.unusedSimpArgs false
set_option linter.unusedVariables false
namespace Go.Proofs.YtemjlopoffjmpaaGreat.Abs
open Go Go.Proofs
theorem grown_spec (l : List UInt8) (n : Int) (s : List Node) (hw : Wf s) (most : Nat) (hm : most ≤ 1000000) (hn : 0 ≤ n) (hl : l.length ≤ 1000000) :
 C Tryz.prog 26 [.ptr 0 0 0 1, aset s, .int .i64 most] (picksH l n) (fun x H' => ∃ t n', Wf t ∧ n ≤ n' ∧ x = aset t ∧ H' = picksH l n') := by
 refine C_body d26 rfl (WT_ok ?_)
 unfold c26
 simp only [picksH, aset, iaddr_node, pnode, wk3, wk, seval]
 refine WT_loop (W_loop (fun nn fr H' => ∃ (j : Nat) (t : List Node) (n' : Int), Wf t ∧ n ≤ n' ∧ j ≤ most ∧ nn = most - j ∧ H' = [some [[.fz (l.map pbyte), .int .i64 n']]] ∧ fr = [.ptr 0 0 0 1, .fz (t.map pnode), .int .i64 most, .top, .top, .top, .emp, .int .i64 j] ++ List.replicate 18 .top) most ⟨0, s, n, hw, by omega, by omega, rfl, rfl, rfl⟩ ?_)
 rintro nn fr H ⟨j, t, n', ht, hn', hj, rfl, rfl, rfl⟩
 refine WT_ok ?_
 simp only [iaddr_node, pnode, wk3, wk, seval]
 by_cases h : (j : Int) < most
 ·simp only [h, iaddr_node, pnode, wk3, wk, seval]
  refine CT_ok (over_spec (l.map pbyte) n') ?_
  rintro _ _ ⟨rfl, rfl⟩
  simp only [h, iaddr_node, pnode, wk3, wk, seval]
  refine guard_both ?_ ?_ <;> intro h2 <;> simp only [hy] at h2
  ·simp only [h, h2, iaddr_node, pnode, wk3, wk, seval]
   refine CT_ok (edit_spec l n' 1 (by omega) hl) ?_
   rintro _ _ ⟨k, i, m, n2, p, q, e, hp, hq, he, hn2, rfl, rfl⟩
   simp only [editA, picksH, iaddr_node, pnode, wk3, wk, seval]
   refine CT_ok (done_spec t ht k i m 0 0 p q e hp hq he _) ?_
   rintro _ _ ⟨rfl, u, er, hu, rfl⟩
   have w2 : IntKind.i64.wrap ((j : Int) + 1) = (j : Int) + 1 := IntWalk.i64_in _ (by omega)
   simp only [aset, w2, iaddr_node, pnode, wk3, wk, seval]
   refine QLoop_go (n' := most - (j + 1)) (by omega) ⟨j + 1, u, n2, hu, by omega, by omega, rfl, rfl, rfl⟩ ?_
   simp only [List.replicate_succ, List.replicate_zero, List.cons_append, List.nil_append, Tops_top, Tops_same, Tops_nil, Int.natCast_add, Int.natCast_one]
  ·simp only [h, h2, iaddr_node, pnode, wk3, wk, seval]
   exact ⟨t, n', ht, hn', rfl, rfl⟩
 ·simp only [h, iaddr_node, pnode, wk3, wk, seval]
  exact ⟨t, n', ht, hn', rfl, rfl⟩
theorem newA_get (i : Nat) (h1 : 1 ≤ i) (h8 : i < 8) : newA.getD i default = ⟨0, 0, [], [], 0⟩ := by
 rcases (by omega : i = 1 ∨ i = 2 ∨ i = 3 ∨ i = 4 ∨ i = 5 ∨ i = 6 ∨ i = 7) with rfl | rfl | rfl | rfl | rfl | rfl | rfl <;> rfl
theorem newA_wf : Wf newA := by
 refine ⟨rfl, rfl, fun i h1 h8 => ?_, fun i k h1 h8 _ _ hk => ?_, fun i => i, fun i h1 h8 hk => ?_⟩
 ·rw [newA_get i h1 h8]
  exact ⟨rfl, .inl rfl, fun _ => rfl, fun e => absurd e (by decide), fun e => absurd rfl e, ⟨by decide, by decide⟩, fun e => absurd rfl e, by show 0 ≤ 128; omega⟩
 ·rw [newA_get i h1 h8] at hk; exact absurd rfl hk
 ·rw [newA_get i h1 h8] at hk; exact absurd rfl hk
theorem set_spec (l : List UInt8) (n : Int) (most : Nat) (hm : most ≤ 1000000) (hn : 0 ≤ n) (hl : l.length ≤ 1000000) :
 C Tryz.prog 15 [.ptr 0 0 0 1, .int .i64 most] (picksH l n) (fun x H' => ∃ t n', Wf t ∧ n ≤ n' ∧ x = aset t ∧ H' = picksH l n') := by
 refine C_body d15 rfl (WT_ok ?_)
 unfold c15
 simp only [iaddr_node, pnode, wk3, wk, seval]
 refine CT_ok (new_spec _) ?_
 rintro _ _ ⟨rfl, rfl⟩
 simp only [iaddr_node, pnode, wk3, wk, seval]
 refine CT_ok (grown_spec l n newA newA_wf most hm hn hl) ?_
 rintro _ _ ⟨t, n', ht, hn', rfl, rfl⟩
 simp only [iaddr_node, pnode, wk3, wk, seval]
 exact ⟨t, n', ht, hn', rfl, rfl⟩
end Go.Proofs.YtemjlopoffjmpaaGreat.Abs
set_option linter.unusedSimpArgs false
set_option linter.unusedVariables false
namespace Go.Proofs.YtemjlopoffjmpaaGreat.Abs
open Go Go.Proofs
theorem clone_emp0 : C Tryz.prog 48 [.emp] [] (fun x H' => x = .own 0 5 0 0 0 ∧ H' = [some []]) := by
 refine C_body' d48 rfl (WT_ok ?_)
 unfold c48
 simp only [wk3, wk, iaddrV_map, seval]
 intro b
 cases b
 ·simp only [wk3, wk, iaddrV_map, seval]
  exact ⟨_, _, Wk.refl _ _ _, rfl, rfl⟩
 ·simp only [wk3, wk, iaddrV_map, seval]
  exact ⟨_, _, Wk_emp 5, rfl, rfl⟩
theorem clone2_emp0 : C Tryz.prog 49 [.emp] [] (fun x H' => x = .own 0 5 0 0 0 ∧ H' = [some []]) := by
 refine C_body' d49 rfl (WT_ok ?_)
 unfold c49
 simp only [wk3, wk, iaddrV_map, seval]
 intro b
 cases b
 ·simp only [wk3, wk, iaddrV_map, seval]
  exact ⟨_, _, Wk.refl _ _ _, rfl, rfl⟩
 ·simp only [wk3, wk, iaddrV_map, seval]
  exact ⟨_, _, Wk_emp 5, rfl, rfl⟩
theorem clone_emp (H : AH) : C Tryz.prog 48 [.emp] H (fun x H' => x = .own H.length 5 0 0 0 ∧ H' = H ++ [some []]) :=
 C_call [] List.nodup_nil (fun r hr => by cases hr) clone_emp0 (by rintro _ _ ⟨rfl, rfl⟩; exact ⟨Nat.zero_le _, by simp [ren, toCaller, back, setAll, renO]⟩)
theorem clone2_emp (H : AH) : C Tryz.prog 49 [.emp] H (fun x H' => x = .own H.length 5 0 0 0 ∧ H' = H ++ [some []]) :=
 C_call [] List.nodup_nil (fun r hr => by cases hr) clone2_emp0 (by rintro _ _ ⟨rfl, rfl⟩; exact ⟨Nat.zero_le _, by simp [ren, toCaller, back, setAll, renO]⟩)
def orcC : CallF := fun f args H =>
 if f = 48 ∨ f = 49 then
  match args with
  | [.emp] => some (.own H.length 5 0 0 0, H ++ [some []])
  | _ => none
 else none
theorem orcC_ok : EvOk Tryz.prog orcC := by
 intro f args H x H' h
 unfold orcC at h
 split at h
 ·rename_i hf
  split at h
  ·cases h
   rcases hf with rfl | rfl
   ·exact clone_emp H
   ·exact clone2_emp H
  ·cases h
 ·cases h
end Go.Proofs.YtemjlopoffjmpaaGreat.Abs
set_option linter.unusedSimpArgs false
set_option linter.unusedVariables false
namespace Go.Proofs.YtemjlopoffjmpaaGreat.Abs
open Go Go.Proofs
def cellD (d : Dset) : List AV := [.int .i64 d.id, .int .i64 d.kind, .int .i64 d.origin, .int .i64 d.quota, aset d.files]
theorem clone_set0 (x : Node) (s : List Node) (hs : (x :: s).length ≤ 1000000) : C Tryz.prog 49 [aset (x :: s)] [] (fun y H' => y = aset (x :: s) ∧ H' = []) := by
 refine C_body' d49 rfl (WT_ok ?_)
 unfold c49
 simp only [aset, wk3, wk, iaddrV_map, seval]
 refine ⟨⟨?_, by simp at hs; omega, by simp at hs; omega⟩, ?_⟩
 ·rw [Bool.and_eq_true]
  refine ⟨rfl, ?_⟩
  rw [List.all_eq_true]
  intro e he
  obtain ⟨r, hr, rfl⟩ := List.mem_map.1 he
  obtain ⟨z, _, rfl⟩ := List.mem_map.1 hr
  rfl
 ·refine KWk_frozen 0 ((x :: s).map pnode) rfl (aset (x :: s)) ?_ ⟨rfl, rfl⟩
  simp only [frzL, frz, renL, ren, if_true, List.length_map, List.length_cons, Nat.zero_add, Nat.le_refl, and_self, List.drop_zero, aset]
  rw [List.take_of_length_le (by simp)]
theorem KWk_first {K : AV → AH → Prop} {x : AV} {o : AObj} {G : AH} (hx : bare x = true) (ho : o.map (renL (upTo 1)) = o) (hk : K x [some o]) : KWk 1 K x (some o :: G) := by
 refine ⟨x, [some o], ?_, hk⟩
 have h1 := Wk_forget (n0 := 1) (fr := [x]) (H := some o :: G) 1 (Nat.le_refl _)
 rw [renL_bare _ _ (by simp [bareL, hx])] at h1
 have e : mapH (renL (upTo 1)) ((some o :: G).take 1) = [some o] := by
  simp only [List.take_succ_cons, List.take_zero, mapH, List.map_cons, List.map_nil, Option.map_some, ho]
 rwa [e] at h1
theorem isId44 (d : Dset) (i : Int) : C Tryz.prog 51 [.agg (cellD d), .ptr 0 0 0 1] [some [[.int .i64 i]]] (fun x H' => x = .bool (decide (d.id = i)) ∧ H' = [some [[.int .i64 i]]]) := by
 refine C_body' d51 rfl (WT_ok ?_)
 unfold c51
 simp only [cellD, aset, lay, wk, iaddrV_map, seval]
 refine KWk_first (by simp [bare]) (by simp [renL, ren]) ⟨rfl, rfl⟩
theorem isId82 (d : Dset) (i : Int) : C Tryz.prog 102 [.agg (cellD d), .ptr 0 0 0 1] [some [[.int .i64 i]]] (fun x H' => x = .bool (decide (d.id = i)) ∧ H' = [some [[.int .i64 i]]]) := by
 refine C_body' d102 rfl (WT_ok ?_)
 unfold c102
 simp only [cellD, aset, lay, wk, iaddrV_map, seval]
 refine KWk_first (by simp [bare]) (by simp [renL, ren]) ⟨rfl, rfl⟩
end Go.Proofs.YtemjlopoffjmpaaGreat.Abs
set_option linter.unusedSimpArgs false
set_option linter.unusedVariables false
namespace Go.Proofs.YtemjlopoffjmpaaGreat.Abs
open Go Go.Proofs
theorem Wk_empFz {n0 : Nat} {fr : List AV} {H : AH} (j : Nat) (h : fr[j]? = some .emp) : Wk n0 fr H (fr.set j (.fz [])) H := by
 intro E w vs hs hr
 refine ⟨E, LeN.refl _ _, hs, by rw [List.length_set]; exact hr.1, fun i c u hc hu => ?_⟩
 rw [List.getElem?_set] at hc
 by_cases hij : j = i
 ·subst hij
  rw [if_pos rfl] at hc
  split at hc
  ·cases hc
   obtain ⟨a, rfl⟩ := rep_emp (hr.2 j _ u h hu)
   exact .pure (x := .fz []) (.fz0 _ _)
  ·cases hc
 ·rw [if_neg hij] at hc
  exact hr.2 i c u hc hu
theorem Wk_none {fr fr' : List AV} {H : AH} (h : Tops fr' (renL (upTo 0) fr)) : Wk 0 fr H fr' [] := by
 have h1 := (Wk_forget (n0 := 0) (fr := fr) (H := H) 0 (Nat.le_refl _)).trans (Wk_tops h)
 simpa [mapH] using h1
end Go.Proofs.YtemjlopoffjmpaaGreat.Abs
set_option linter.unusedSimpArgs false
set_option linter.unusedVariables false
namespace Go.Proofs.YtemjlopoffjmpaaGreat.Abs
open Go Go.Proofs
theorem cellD_emb (d : Dset) : (pdset d).map emb = cellD d := rfl
theorem cellsD (l : List Dset) : (l.map pdset).map (fun e => e.map emb) = l.map cellD := by rw [List.map_map]; rfl
theorem rows5D (l : List Dset) : (l.map cellD).all (fun e => decide (e.length = 5)) = true := by
 rw [List.all_eq_true]
 intro e he
 obtain ⟨d, _, rfl⟩ := List.mem_map.1 he
 rfl
theorem cloneL0 (l : List Dset) (hl : l.length ≤ 1000000) : C Tryz.prog 48 [asets l] [] (fun x H' => x = .own 0 5 0 l.length l.length ∧ H' = [some (l.map cellD)]) := by
 refine C_body' d48 rfl (WT_ok ?_)
 unfold c48
 cases l with
 | nil =>
   simp only [asets, wk3, wk, iaddrV_map, seval]
   intro b
   cases b
   ·simp only [wk3, wk, iaddrV_map, seval]
    exact ⟨_, _, Wk.refl _ _ _, rfl, rfl⟩
   ·simp only [wk3, wk, iaddrV_map, seval]
    exact ⟨_, _, Wk_emp 5, rfl, rfl⟩
 | cons d l =>
   simp only [List.length_cons] at hl
   have h5 := rows5D (d :: l)
   simp only [List.map_cons, List.all_cons] at h5
   simp only [asets, cellsD, cellD_emb, wk3, wk, iaddrV_map, seval]
   exact ⟨⟨h5, by omega, by omega⟩, _, _, Wk.refl _ _ _, rfl, rfl⟩
theorem cloneF0 (s : List Node) (hs : s.length ≤ 1000000) : C Tryz.prog 49 [aset s] [] (fun y H' => y = aset s ∧ H' = []) := by
 cases s with
 | cons x s => exact clone_set0 x s hs
 | nil =>
   refine C_body' d49 rfl (WT_ok ?_)
   unfold c49
   simp only [aset, wk3, wk, iaddrV_map, seval]
   intro b
   cases b
   ·simp only [wk3, wk, iaddrV_map, seval]
    exact KWk_frozen 0 [] rfl (.fz []) (by simp [frzL, frz, renL, ren]) ⟨rfl, rfl⟩
   ·simp only [wk3, wk, iaddrV_map, seval]
    exact ⟨_, _, Wk_empFz (fr := [.emp]) 0 rfl, rfl, rfl⟩
end Go.Proofs.YtemjlopoffjmpaaGreat.Abs
set_option linter.unusedSimpArgs false
set_option linter.unusedVariables false
namespace Go.Proofs.YtemjlopoffjmpaaGreat.Abs
open Go Go.Proofs
theorem renO_cells (τ : Nat → Option Nat) (l : List Dset) : renO τ (l.map cellD) = l.map cellD := by
 unfold renO
 rw [List.map_map]
 apply List.map_congr_left
 intro d _
 simp [cellD, aset, renL, ren]
theorem cloneL (l : List Dset) (hl : l.length ≤ 1000000) (H : AH) : C Tryz.prog 48 [asets l] H (fun x H' => x = .own H.length 5 0 l.length l.length ∧ H' = H ++ [some (l.map cellD)]) :=
 C_call [] List.nodup_nil (fun r hr => by cases hr) (by simpa [renL, ren, asets] using cloneL0 l hl) (by rintro _ _ ⟨rfl, rfl⟩; exact ⟨Nat.zero_le _, by simp [ren, toCaller, back, setAll, renO_cells]⟩)
theorem cloneF (s : List Node) (hs : s.length ≤ 1000000) (H : AH) : C Tryz.prog 49 [aset s] H (fun y H' => y = aset s ∧ H' = H) :=
 C_pure (K0 := fun y => y = aset s) (cloneF0 s hs) (fun τ => renL_bare τ _ (by simp [bareL, bare, aset])) (by rintro y rfl τ; simp [aset, ren]) H
theorem cell_at {l : List Dset} {k : Nat} (hk : k < l.length) : (l.map cellD)[k]? = some (cellD (l.getD k default)) := by
 rw [List.getElem?_map, List.getElem?_eq_getElem hk, List.getD_eq_getElem?_getD, List.getElem?_eq_getElem hk]; rfl
theorem cell_same {l : List Dset} {k : Nat} (hk : k < l.length) : (l.map cellD).set k (cellD (l.getD k default)) = l.map cellD := by
 apply List.ext_getElem?
 intro i
 rw [List.getElem?_set]
 by_cases h : k = i
 ·subst h; rw [if_pos rfl, if_pos (by simpa using hk), cell_at hk]
 ·rw [if_neg h]
def Short (l : List Dset) : Prop := l.length ≤ 1000000 ∧ ∀ d ∈ l, d.files.length ≤ 1000000
theorem Short.get {l : List Dset} (h : Short l) {k : Nat} (hk : k < l.length) : (l.getD k default).files.length ≤ 1000000 := by
 rw [List.getD_eq_getElem?_getD, List.getElem?_eq_getElem hk]; exact h.2 _ (List.getElem_mem hk)
theorem twin0 (l : List Dset) (hl : Short l) : C Tryz.prog 56 [asets l] [] (fun x H' => x = .own 0 5 0 l.length l.length ∧ H' = [some (l.map cellD)]) := by
 have hl1 := hl.1
 refine C_body' d56 rfl (WT_ok ?_)
 unfold c56
 simp only [wk, iaddrV_map, seval]
 refine CT_ok (cloneL l hl.1 _) ?_
 rintro _ _ ⟨rfl, rfl⟩
 simp only [lay, wk, iaddrV_map, seval]
 refine WT_loop (W_wk (fr' := [.own 0 5 0 l.length l.length, .top, .emp, .top, .top, .top, .own 0 5 0 l.length l.length, .int .i64 l.length, .int .i64 0] ++ List.replicate 14 .top) (Wk_tops ?_) (W_loop (fun n fr H' => ∃ k : Nat, k ≤ l.length ∧ n = l.length - k ∧ H' = [some (l.map cellD)] ∧ fr = [.own 0 5 0 l.length l.length, .top, .emp, .top, .top, .top, .own 0 5 0 l.length l.length, .int .i64 l.length, .int .i64 k] ++ List.replicate 14 .top) l.length ⟨0, by omega, rfl, rfl, rfl⟩ ?_))
 ·simp only [List.replicate_succ, List.replicate_zero, List.cons_append, List.nil_append, Tops_top, Tops_same, Tops_nil]
 rintro n fr H' ⟨k, hk, rfl, rfl, rfl⟩
 refine WT_ok ?_
 simp only [lay, wk, iaddrV_map, seval]
 refine guard_both ?_ ?_ <;> intro h <;> simp only [hy] at h
 ·have hk2 : k < l.length := by omega
  have hc := cell_at hk2
  have hs := cell_same hk2
  have w2 : IntKind.i64.wrap ((k : Int) + 1) = (k : Int) + 1 := IntWalk.i64_in _ (by omega)
  have h0 : (0 : Int) ≤ k := by omega
  have hf := hl.get hk2
  generalize l.getD k default = d at hc hs hf
  simp only [h, h0, hc, cellD, aset, lay, wk, iaddrV_map, seval]
  refine CT_ok (cloneF d.files hf _) ?_
  rintro _ _ ⟨rfl, rfl⟩
  simp only [cellD, aset] at hs
  simp only [h, h0, hc, hs, cellD, w2, aset, lay, wk, iaddrV_map, seval]
  refine QLoop_go (n' := l.length - (k + 1)) (by omega) ⟨k + 1, by omega, rfl, rfl, rfl⟩ ?_
  simp only [List.replicate_succ, List.replicate_zero, List.cons_append, List.nil_append, Tops_top, Tops_same, Tops_nil, Int.natCast_add, Int.natCast_one]
 ·simp only [h, wk, iaddrV_map, seval]
  exact ⟨_, _, Wk.refl _ _ _, rfl, rfl⟩
theorem twinL (l : List Dset) (hl : Short l) (H : AH) : C Tryz.prog 56 [asets l] H (fun x H' => x = .own H.length 5 0 l.length l.length ∧ H' = H ++ [some (l.map cellD)]) :=
 C_call [] List.nodup_nil (fun r hr => by cases hr) (by simpa [renL, ren, asets] using twin0 l hl) (by rintro _ _ ⟨rfl, rfl⟩; exact ⟨Nat.zero_le _, by simp [ren, toCaller, back, setAll, renO_cells]⟩)
end Go.Proofs.YtemjlopoffjmpaaGreat.Abs
set_option linter.unusedSimpArgs false
set_option linter.unusedVariables false
namespace Go.Proofs.YtemjlopoffjmpaaGreat.Abs
open Go Go.Proofs
def idxA (p : Dset → Bool) (l : List Dset) : Int := match l.findIdx? p with
 | some i => i
 | none => -1
theorem idxA_some {p : Dset → Bool} {l : List Dset} {k : Nat} (hk : k < l.length) (hp : p (l.getD k default) = true) (hn : ∀ j, j < k → p (l.getD j default) = false) : idxA p l = k := by
 have g : ∀ j (h : j < l.length), l.getD j default = l[j] := fun j h => by rw [List.getD_eq_getElem?_getD, List.getElem?_eq_getElem h]; rfl
 have : l.findIdx? p = some k := by
  rw [List.findIdx?_eq_some_iff_getElem]
  refine ⟨hk, by rw [← g k hk]; exact hp, fun j hj => ?_⟩
  rw [← g j (by omega), hn j hj]; decide
 unfold idxA
 rw [this]
theorem idxA_none {p : Dset → Bool} {l : List Dset} (hn : ∀ j, j < l.length → p (l.getD j default) = false) : idxA p l = -1 := by
 have : l.findIdx? p = none := by
  rw [List.findIdx?_eq_none_iff]
  intro x hx
  obtain ⟨j, hj, rfl⟩ := List.mem_iff_getElem.1 hx
  have := hn j hj
  rwa [List.getD_eq_getElem?_getD, List.getElem?_eq_getElem hj] at this
 unfold idxA
 rw [this]
theorem idxA_cases (p : Dset → Bool) (l : List Dset) : (idxA p l = -1 ∧ ∀ j, j < l.length → p (l.getD j default) = false) ∨ ∃ k : Nat, idxA p l = k ∧ k < l.length ∧ p (l.getD k default) = true ∧ ∀ j, j < k → p (l.getD j default) = false := by
 have g : ∀ j (h : j < l.length), l.getD j default = l[j] := fun j h => by rw [List.getD_eq_getElem?_getD, List.getElem?_eq_getElem h]; rfl
 unfold idxA
 cases e : l.findIdx? p with
 | none =>
   refine .inl ⟨rfl, fun j hj => ?_⟩
   rw [List.findIdx?_eq_none_iff] at e
   rw [g j hj]; exact e _ (List.getElem_mem hj)
 | some k =>
   rw [List.findIdx?_eq_some_iff_getElem] at e
   obtain ⟨h1, h2, h3⟩ := e
   refine .inr ⟨k, rfl, h1, by rw [g k h1]; exact h2, fun j hj => ?_⟩
   rw [g j (by omega)]
   have := h3 j hj
   simpa using this
theorem index81G (l : List Dset) (hl : l.length ≤ 1000000) (R : AH) (g : FuncId) (cap : List AV) (p : Dset → Bool)
 (hf : ∀ d, C Tryz.prog g (AV.agg (cellD d) :: cap) (some (l.map cellD) :: R) (fun x H' => x = .bool (p d) ∧ H' = some (l.map cellD) :: R)) :
 C Tryz.prog 101 [.own 0 5 0 l.length l.length, .fn (.func g) [] cap] (some (l.map cellD) :: R) (fun x H' => x = .int .i64 (idxA p l) ∧ H' = some (l.map cellD) :: R) := by
 refine C_body d101 rfl (WT_ok ?_)
 unfold c101
 simp only [wk, iaddrV_map, seval]
 refine WT_loop (W_wk (fr' := [.own 0 5 0 l.length l.length, .fn (.func g) [] cap, .top, .top, .int .i64 0, .top, .own 0 5 0 l.length l.length, .int .i64 l.length, .int .i64 0] ++ List.replicate 10 .top) (Wk_tops ?_) (W_loop (fun n fr H' => ∃ k : Nat, k ≤ l.length ∧ n = l.length - k ∧ (∀ j, j < k → p (l.getD j default) = false) ∧ H' = some (l.map cellD) :: R ∧ fr = [.own 0 5 0 l.length l.length, .fn (.func g) [] cap, .top, .top, .int .i64 0, .top, .own 0 5 0 l.length l.length, .int .i64 l.length, .int .i64 k] ++ List.replicate 10 .top) l.length ⟨0, by omega, rfl, fun j hj => by omega, rfl, rfl⟩ ?_))
 ·simp only [List.replicate_succ, List.replicate_zero, List.cons_append, List.nil_append, Tops_top, Tops_same, Tops_nil]
 rintro n fr H' ⟨k, hk, rfl, hne, rfl, rfl⟩
 refine WT_ok ?_
 simp only [lay, wk, iaddrV_map, seval]
 refine guard_both ?_ ?_ <;> intro h <;> simp only [hy] at h
 ·have hk2 : k < l.length := by omega
  have hc := cell_at hk2
  have w2 : IntKind.i64.wrap ((k : Int) + 1) = (k : Int) + 1 := IntWalk.i64_in _ (by omega)
  have h0 : (0 : Int) ≤ k := by omega
  have h5 : (cellD (l.getD k default)).take 5 = cellD (l.getD k default) := rfl
  have h6 : 5 ≤ (cellD (l.getD k default)).length := Nat.le_refl 5
  have hfk := hf (l.getD k default)
  simp only [h, h0, hc, h5, h6, lay, RT_calld, wk, iaddrV_map, seval]
  refine ⟨_, _, _, rfl, hfk.mono ?_⟩
  rintro _ _ ⟨rfl, rfl⟩
  cases hp : p (l.getD k default)
  ·simp only [w2, wk, iaddrV_map, seval]
   refine QLoop_go (n' := l.length - (k + 1)) (by omega) ⟨k + 1, by omega, rfl, fun j hj => ?_, rfl, rfl⟩ ?_
   ·rcases Nat.lt_or_ge j k with h' | h'
    ·exact hne j h'
    ·have : j = k := by omega
     subst this; exact hp
   ·simp only [List.replicate_succ, List.replicate_zero, List.cons_append, List.nil_append, Tops_top, Tops_same, Tops_nil, Int.natCast_add, Int.natCast_one]
  ·simp only [wk, iaddrV_map, seval]
   rw [idxA_some hk2 hp hne]
 ·simp only [h, wk, iaddrV_map, seval]
  rw [idxA_none fun j hj => hne j (by omega)]
def findA (l : List Dset) (i : Int) : Int := idxA (fun d => decide (d.id = i)) l
theorem find_of {l : List Dset} {i : Int} : (findA l i = -1 ∧ ∀ j, j < l.length → (l.getD j default).id ≠ i) ∨ ∃ k : Nat, findA l i = k ∧ k < l.length ∧ (l.getD k default).id = i ∧ ∀ j, j < k → (l.getD j default).id ≠ i := by
 rcases idxA_cases (fun d => decide (d.id = i)) l with ⟨h1, h2⟩ | ⟨k, h1, h2, h3, h4⟩
 ·exact .inl ⟨h1, fun j hj => by simpa using h2 j hj⟩
 ·exact .inr ⟨k, h1, h2, by simpa using h3, fun j hj => by simpa using h4 j hj⟩
theorem isId82_L (d : Dset) (i : Int) (l : List Dset) : C Tryz.prog 102 [.agg (cellD d), .ptr 1 0 0 1] [some (l.map cellD), some [[.int .i64 i]]] (fun x H' => x = .bool (decide (d.id = i)) ∧ H' = [some (l.map cellD), some [[.int .i64 i]]]) :=
 C_call [1] (by simp) (by simp) (by simpa [renL, ren, toCallee, renO, cellD, aset, AH.at] using isId82 d i) (by rintro _ _ ⟨rfl, rfl⟩; exact ⟨Nat.le_refl _, by simp [ren], by simp [back, setAll, renO, renL, ren]⟩)
theorem find0 (l : List Dset) (hl : l.length ≤ 1000000) (i : Int) : C Tryz.prog 59 [.own 0 5 0 l.length l.length, .int .i64 i] [some (l.map cellD)] (fun x H' => x = .int .i64 (findA l i) ∧ H' = [some (l.map cellD)]) := by
 refine C_body' d59 rfl (WT_ok ?_)
 unfold c59
 simp only [lay, wk, iaddrV_map, seval]
 refine CT_ok (index81G l hl [some [[.int .i64 i]]] 102 [.ptr 1 0 0 1] (fun d => decide (d.id = i)) (fun d => isId82_L d i l)) ?_
 rintro _ _ ⟨rfl, rfl⟩
 simp only [wk, iaddrV_map, seval]
 refine KWk_first (by simp [bare]) ?_ ⟨rfl, rfl⟩
 exact renO_cells _ l
def isA (l : List Dset) (i kind : Int) : Bool := decide (0 ≤ findA l i) && decide ((l.getD (findA l i).toNat default).kind = kind)
def laterA (i j : Int) (d : Dset) : Bool := decide (d.kind = 2) && decide (d.origin = i) && decide (j < d.id)
end Go.Proofs.YtemjlopoffjmpaaGreat.Abs
set_option linter.unusedSimpArgs false
set_option linter.unusedVariables false
namespace Go.Proofs.YtemjlopoffjmpaaGreat.Abs
open Go Go.Proofs
end Go.Proofs.YtemjlopoffjmpaaGreat.Abs
set_option linter.unusedSimpArgs false
set_option linter.unusedVariables false
namespace Go.Proofs.YtemjlopoffjmpaaGreat.Abs
open Go Go.Proofs
theorem set_at {H : AH} {r : Nat} {o : AObj} (h : H.at r = some o) : H.set r (some o) = H := by
 have h1 := at_lt h
 unfold AH.at at h
 rw [List.getElem?_eq_getElem h1] at h
 have h2 : H[r] = some o := h
 rw [← h2, List.set_getElem_self]
def addOk (l : List Dset) (next : Int) : Bool := decide (l.length < 8) && decide (1 ≤ next) && decide (next ≤ 65535) && (decide (l.length = 0) || decide ((l.getD (l.length - 1) default).id < next))
def addA (l : List Dset) (next : Int) (x : Dset) : List Dset × Int := if addOk l next = true then (l ++ [{ x with id := next }], 0) else (l, 8)
def outA (r : List Dset × Int) : AV := .tuple [asets r.1, .int .i64 r.2]
theorem KWk_sets {K : AV → AH → Prop} {H : AH} (r : Nat) (l : List Dset) (e : Int) (L : Nat) (hL : L = l.length) (hat : H.at r = some (l.map cellD)) (hk : K (.tuple [asets l, .int .i64 e]) []) : KWk 0 K (.tuple [.own r 5 0 L L, .int .i64 e]) H := by
 subst hL
 refine KWk_frozen r (l.map pdset) (by rw [cellsD]; exact hat) _ ?_ hk
 simp only [frzL, frz, renL, ren, asets, if_true, List.length_map, Nat.zero_add, Nat.le_refl, and_self, List.drop_zero]
 rw [List.take_of_length_le (by simp)]
section
variable {c : Nat} {H : AH} {late : List Loc → List Loc → Prop} {K : List Nat → Nat → AV → AH → Prop} {t : Tag K}
end
theorem outA_bare (r : List Dset × Int) : bare (outA r) = true := by simp [outA, bare, bareL, asets]
theorem C_any {f : FuncId} {args : List AV} {y : AV} (h : C Tryz.prog f args [] (fun x H' => x = y ∧ H' = [])) (ha : bareL args = true) (hy : bare y = true) (H : AH) : C Tryz.prog f args H (fun x H' => x = y ∧ H' = H) :=
 C_pure (K0 := fun x => x = y) h (fun τ => renL_bare τ _ ha) (by rintro x rfl τ; exact ren_bare τ _ hy) H
end Go.Proofs.YtemjlopoffjmpaaGreat.Abs
namespace Go.Proofs.YtemjlopoffjmpaaGreat.Abs
open Go
end Go.Proofs.YtemjlopoffjmpaaGreat.Abs
namespace Go.Proofs.YtemjlopoffjmpaaGreat.Abs
open Go
end Go.Proofs.YtemjlopoffjmpaaGreat.Abs
namespace Go.Proofs.YtemjlopoffjmpaaGreat.Abs
open Go
def c27 : ACode :=
 (.seq (.reg [⟨some 4, none, .alloc [.int .i64 0, .int .i64 0, .int .i64 0, .int .i64 0, .emp]⟩,
  ⟨some 5, none, .mv (.c (.bool false))⟩])
 (.seq (.reg [⟨some 7, none, .mv (.t 0)⟩,
  ⟨some 8, none, .call 56 [(.t 7)]⟩,
  ⟨some 0, none, .mv (.t 8)⟩])
 (.seq (.reg [⟨some 9, none, .mv (.t 0)⟩,
  ⟨some 10, none, .mv (.t 1)⟩,
  ⟨some 11, none, .call 59 [(.t 9), (.t 10)]⟩,
  ⟨some 6, none, .mv (.t 11)⟩])
 (.seq (.seq (.reg [⟨some 12, none, .mv (.t 6)⟩,
  ⟨some 13, none, .bini .lss (.t 12) (.c (.int .i64 0))⟩])
 (.cond (.t 13)
 (.seq (.reg [⟨some 14, none, .build [.int .i64 0, .int .i64 0, .int .i64 0, .int .i64 0, .emp] []⟩,
  ⟨none, none, .store 5 (.t 4) (.t 14)⟩,
  ⟨some 5, none, .mv (.c (.bool false))⟩])
 .ret)
 .skip))
 (.seq (.reg [⟨some 15, none, .mv (.t 0)⟩,
  ⟨some 16, none, .mv (.t 6)⟩,
  ⟨some 17, none, .iaddr 5 (.t 15) (.t 16)⟩,
  ⟨some 18, none, .load true 5 (.t 17)⟩,
  ⟨none, none, .store 5 (.t 4) (.t 18)⟩,
  ⟨some 5, none, .mv (.c (.bool true))⟩])
 .ret)))))
theorem d27 : FnD Tryz.prog 27 2 17 [.cell 4 true 5, .tmp 5] c27 := ⟨Tryz.f27, _, Tryz.func27, by kernel_rfl, rfl, rfl, by kernel_rfl, by kernel_rfl⟩
end Go.Proofs.YtemjlopoffjmpaaGreat.Abs
namespace Go.Proofs.YtemjlopoffjmpaaGreat.Abs
open Go
end Go.Proofs.YtemjlopoffjmpaaGreat.Abs
namespace Go.Proofs.YtemjlopoffjmpaaGreat.Abs
open Go
end Go.Proofs.YtemjlopoffjmpaaGreat.Abs
set_option linter.unusedSimpArgs false
set_option linter.unusedVariables false
namespace Go.Proofs.YtemjlopoffjmpaaGreat.Abs
open Go Go.Proofs
theorem findAt (l : List Dset) (hl : l.length ≤ 1000000) (i : Int) (r : Nat) (H : AH) (hr : H.at r = some (l.map cellD)) : C Tryz.prog 59 [.own r 5 0 l.length l.length, .int .i64 i] H (fun x H' => x = .int .i64 (findA l i) ∧ H' = H) := by
 refine C_call [r] (by simp) (by simpa using at_lt hr) (K0 := fun x H' => x = .int .i64 (findA l i) ∧ H' = [some (l.map cellD)]) ?_ ?_
 ·simpa [renL, ren, toCallee, renO_cells, hr] using find0 l hl i
 ·rintro _ _ ⟨rfl, rfl⟩
  refine ⟨by simp, by simp [ren], ?_⟩
  simp [back, setAll, renO_cells, set_at hr]
def getA (l : List Dset) (i : Int) : Option Dset := if 0 ≤ findA l i then some (l.getD (findA l i).toNat default) else none
def getV : Option Dset → AV
 | some d => .tuple [.agg (cellD d), .bool true]
 | none => .tuple [.agg [.int .i64 0, .int .i64 0, .int .i64 0, .int .i64 0, .emp], .bool false]
theorem getV_bare (o : Option Dset) : bare (getV o) = true := by cases o <;> simp [getV, bare, bareL, cellD, aset]
theorem get0 (l : List Dset) (hl : Short l) (i : Int) : C Tryz.prog 27 [asets l, .int .i64 i] [] (fun x H' => x = getV (getA l i) ∧ H' = []) := by
 have hl1 := hl.1
 refine C_body' d27 rfl (WT_ok ?_)
 unfold c27
 simp only [lay, wk3, wk, iaddrV_map, Nat.reduceAdd, Nat.reduceSub, Nat.reduceMul, Nat.reduceLeDiff, Nat.reduceEqDiff, Nat.reduceBEq, Int.reduceLE, Int.reduceLT, Int.reduceEq, Int.reduceNe, Int.reduceAdd, Int.reduceSub, Int.reduceToNat, Int.reduceNeg, ↓reduceIte, reduceCtorEq]
 refine CT_ok (twinL l hl _) ?_
 rintro _ _ ⟨rfl, rfl⟩
 simp only [lay, wk3, wk, iaddrV_map, Nat.reduceAdd, Nat.reduceSub, Nat.reduceMul, Nat.reduceLeDiff, Nat.reduceEqDiff, Nat.reduceBEq, Int.reduceLE, Int.reduceLT, Int.reduceEq, Int.reduceNe, Int.reduceAdd, Int.reduceSub, Int.reduceToNat, Int.reduceNeg, ↓reduceIte, reduceCtorEq]
 refine CT_ok (findAt l hl1 i 1 _ rfl) ?_
 rintro _ _ ⟨rfl, rfl⟩
 unfold getA
 rcases find_of (l := l) (i := i) with ⟨e, _⟩ | ⟨k, e, hk, _, _⟩
 ·simp only [e, lay, wk3, wk, iaddrV_map, Nat.reduceAdd, Nat.reduceSub, Nat.reduceMul, Nat.reduceLeDiff, Nat.reduceEqDiff, Nat.reduceBEq, Int.reduceLE, Int.reduceLT, Int.reduceEq, Int.reduceNe, Int.reduceAdd, Int.reduceSub, Int.reduceToNat, Int.reduceNeg, ↓reduceIte, reduceCtorEq]
  exact KWk_bare (by simp [bare, bareL]) ⟨rfl, rfl⟩
 ·have hc := cell_at hk
  have h0 : (0 : Int) ≤ k := by omega
  have h1 : (k : Int) < l.length := by omega
  have h2 : ¬ (k : Int) < 0 := by omega
  rw [e]
  simp only [hc, h0, h1, h2, cellD, aset, lay, wk3, wk, iaddrV_map, Nat.reduceAdd, Nat.reduceSub, Nat.reduceMul, Nat.reduceLeDiff, Nat.reduceEqDiff, Nat.reduceBEq, Int.reduceLE, Int.reduceLT, Int.reduceEq, Int.reduceNe, Int.reduceAdd, Int.reduceSub, Int.reduceToNat, Int.reduceNeg, ↓reduceIte, reduceCtorEq]
  exact KWk_bare (by simp [bare, bareL]) ⟨rfl, rfl⟩
theorem getL (l : List Dset) (hl : Short l) (i : Int) (H : AH) : C Tryz.prog 27 [asets l, .int .i64 i] H (fun x H' => x = getV (getA l i) ∧ H' = H) :=
 C_any (get0 l hl i) (by simp [bareL, bare, asets]) (getV_bare _) H
theorem getA_mem {l : List Dset} {i : Int} {d : Dset} (h : getA l i = some d) : d ∈ l ∧ d.id = i := by
 unfold getA at h
 rcases find_of (l := l) (i := i) with ⟨e, _⟩ | ⟨k, e, hk, hid, _⟩
 ·rw [e] at h; cases h
 ·rw [e, if_pos (by omega), Int.toNat_natCast] at h
  cases h
  refine ⟨?_, hid⟩
  rw [List.getD_eq_getElem?_getD, List.getElem?_eq_getElem hk]; exact List.getElem_mem hk
def createA (l : List Dset) (next q : Int) : List Dset × Int := if q < 0 ∨ 255 < q then (l, 1) else addA l next ⟨0, 1, 0, q, newA⟩
def snapA (l : List Dset) (next i : Int) : List Dset × Int := match getA l i with
 | none => (l, 2)
 | some d => if d.kind = 2 then (l, 11) else addA l next ⟨0, 2, i, 0, d.files⟩
def cloneA (l : List Dset) (next i : Int) : List Dset × Int := match getA l i with
 | none => (l, 2)
 | some d => if d.kind = 2 then addA l next ⟨0, 1, i, 0, d.files⟩ else (l, 1)
end Go.Proofs.YtemjlopoffjmpaaGreat.Abs
set_option linter.unusedSimpArgs false
set_option linter.unusedVariables false
namespace Go.Proofs.YtemjlopoffjmpaaGreat.Abs
open Go Go.Proofs
theorem iaddr_dset (H : AH) (l : List Dset) (k : IntKind) (n : Int) : iaddrV H 5 (.fz (l.map pdset)) (.int k n) = if 0 ≤ n ∧ n < l.length then some (.fptr (pdset (l.getD n.toNat default))) else none := by
 rw [iaddrV_map]
 have : (pdset (l.getD n.toNat default)).length = 5 := rfl
 simp only [this, and_true]
theorem rid68 (n : Int) (H : AH) : C Tryz.prog 61 [.int .i64 n] H (fun x H' => x = .bool (decide (0 ≤ n) && decide (n ≤ 65535)) ∧ H' = H) := by
 refine C_body d61 rfl (WT_ok ?_)
 unfold c61
 simp only [lay, wk3, wk, iaddrV_map, seval]
 refine guard_both ?_ ?_ <;> intro h <;> simp only [hy] at h <;> simp only [h, lay, Bool.false_and, wk3, wk, iaddrV_map, seval]
theorem rat85 (l : List Dset) (hl : l.length ≤ 1000000) (i : Int) (H : AH) : C Tryz.prog 52 [asets l, .int .i64 i] H (fun x H' => x = .int .i64 (findA l i) ∧ H' = H) := by
 refine C_body d52 rfl (WT_ok ?_)
 unfold c52
 simp only [asets, lay, wk3, wk, iaddrV_map, seval]
 refine WT_loop (W_loop (fun n fr H' => ∃ k : Nat, k ≤ l.length ∧ n = l.length - k ∧ (∀ j, j < k → (l.getD j default).id ≠ i) ∧ H' = H ∧ fr = [asets l, .int .i64 i, .top, .top, .int .i64 0, .int .i64 k] ++ List.replicate 14 .top) l.length ⟨0, by omega, rfl, fun j hj => by omega, rfl, rfl⟩ ?_)
 rintro n fr H' ⟨k, hk, rfl, hne, rfl, rfl⟩
 refine WT_ok ?_
 simp only [asets, lay, wk3, wk, iaddrV_map, seval]
 refine guard_both ?_ ?_ <;> intro h <;> simp only [hy] at h
 ·have hk2 : k < l.length := by omega
  have w2 : IntKind.i64.wrap ((k : Int) + 1) = (k : Int) + 1 := IntWalk.i64_in _ (by omega)
  have h0 : (0 : Int) ≤ k := by omega
  have e5 : (pdset (l.getD k default)).length = 5 := rfl
  simp only [h, h0, e5, pdset, lay, wk3, wk, iaddrV_map, seval]
  by_cases hid : (l.getD k default).id = i
  ·simp only [hid, lay, wk3, wk, iaddrV_map, seval]
   unfold findA
   rw [idxA_some hk2 (by simpa using hid) (fun j hj => by simpa using hne j hj)]
  ·simp only [hid, w2, lay, wk3, wk, iaddrV_map, seval]
   refine QLoop_go (n' := l.length - (k + 1)) (by omega) ⟨k + 1, by omega, rfl, fun j hj => ?_, rfl, rfl⟩ ?_
   ·rcases Nat.lt_or_ge j k with h' | h'
    ·exact hne j h'
    ·have : j = k := by omega
     subst this; exact hid
   ·simp only [asets, List.replicate_succ, List.replicate_zero, List.cons_append, List.nil_append, Tops_top, Tops_same, Tops_nil, Int.natCast_add, Int.natCast_one]
 ·simp only [h, lay, wk3, wk, iaddrV_map, seval]
  unfold findA
  rw [idxA_none fun j hj => by simpa using hne j (by omega)]
theorem rget0 (l : List Dset) (hl : l.length ≤ 1000000) (i : Int) : C Tryz.prog 30 [asets l, .int .i64 i] [] (fun x H' => x = getV (getA l i) ∧ H' = []) := by
 refine C_body' d30 rfl (WT_ok ?_)
 unfold c30
 simp only [lay, wk3, wk, iaddrV_map, seval]
 refine CT_ok (rat85 l hl i _) ?_
 rintro _ _ ⟨rfl, rfl⟩
 unfold getA
 rcases find_of (l := l) (i := i) with ⟨e, _⟩ | ⟨k, e, hk, _, _⟩
 ·simp only [e, asets, lay, wk3, wk, iaddrV_map, seval]
  exact KWk_bare (by simp [bare, bareL]) ⟨rfl, rfl⟩
 ·have h0 : (0 : Int) ≤ k := by omega
  have h1 : (k : Int) < l.length := by omega
  have h2 : ¬ (k : Int) < 0 := by omega
  have e5 : (pdset (l.getD k default)).length = 5 := rfl
  rw [e]
  simp only [h0, h1, h2, e5, asets, pdset, lay, wk3, wk, iaddrV_map, seval]
  exact KWk_bare (by simp [bare, bareL]) ⟨rfl, rfl⟩
theorem rgetL (l : List Dset) (hl : l.length ≤ 1000000) (i : Int) (H : AH) : C Tryz.prog 30 [asets l, .int .i64 i] H (fun x H' => x = getV (getA l i) ∧ H' = H) :=
 C_any (rget0 l hl i) (by simp [bareL, bare, asets]) (getV_bare _) H
theorem eqCells_node (x y : Node) : eqCells [.i, .i, .s, .s, .i] [.int .i64 x.kind, .int .i64 x.up, .str x.name, .str x.body, .int .i64 x.bad] [.int .i64 y.kind, .int .i64 y.up, .str y.name, .str y.body, .int .i64 y.bad] = some (decide (x = y)) := by
 simp only [eqCells, if_true, Option.map_some, Option.some.injEq]
 cases x; cases y
 simp only [Node.mk.injEq]
 rw [Bool.eq_iff_iff]
 simp only [Bool.and_eq_true, beq_iff_eq, decide_eq_true_eq, and_true]
theorem same33 (a b : List Node) (ha : a.length ≤ 1000000) (hb : b.length ≤ 1000000) (H : AH) : C Tryz.prog 28 [aset a, aset b] H (fun x H' => x = .bool (decide (a = b)) ∧ H' = H) := by
 refine C_body d28 rfl (WT_ok ?_)
 unfold c28
 simp only [aset, iaddr_node, pnode, wk3, wk, seval]
 by_cases hlen : a.length = b.length
 ·have hlen' : (a.length : Int) = b.length := by omega
  simp only [hlen', iaddr_node, pnode, wk3, wk, seval]
  refine WT_loop (W_wk (fr' := [aset a, aset b, .top, .top, .bool false, .int .i64 0] ++ List.replicate 20 .top) (Wk_tops ?_) (W_loop (fun n fr H' => ∃ i : Nat, i ≤ a.length ∧ n = a.length - i ∧ (∀ j, j < i → a.getD j default = b.getD j default) ∧ H' = H ∧ fr = [aset a, aset b, .top, .top, .bool false, .int .i64 i] ++ List.replicate 20 .top) a.length ⟨0, by omega, rfl, fun j hj => by omega, rfl, rfl⟩ ?_))
  ·simp only [aset, List.replicate_succ, List.replicate_zero, List.cons_append, List.nil_append, Tops_top, Tops_same, Tops_nil]
  rintro n fr H' ⟨i, hi, rfl, hj, rfl, rfl⟩
  refine WT_ok ?_
  simp only [aset, iaddr_node, pnode, wk3, wk, seval]
  refine guard_both ?_ ?_ <;> intro h <;> simp only [hy] at h
  ·have hil : i < a.length := by omega
   have h0 : (0 : Int) ≤ i := by omega
   have h1 : (i : Int) < b.length := by omega
   have w2 : IntKind.i64.wrap ((i : Int) + 1) = (i : Int) + 1 := IntWalk.i64_in _ (by omega)
   simp only [h, iaddr_node, pnode, wk3, wk, seval]
   refine WT_draw ?_
   by_cases h2 : a.getD i default = b.getD i default
   ·simp only [h, h0, h1, h2, eqCells_node, w2, iaddr_node, pnode, wk3, wk, seval]
    refine QLoop_go (n' := a.length - (i + 1)) (by omega) ⟨i + 1, by omega, rfl, fun j hj2 => ?_, rfl, rfl⟩ ?_
    ·rcases Nat.lt_or_ge j i with h' | h'
     ·exact hj j h'
     ·have : j = i := by omega
      subst this; exact h2
    ·simp only [aset, List.replicate_succ, List.replicate_zero, List.cons_append, List.nil_append, Tops_top, Tops_same, Tops_nil, Int.natCast_add, Int.natCast_one]
   ·have : ¬ a = b := fun e => h2 (by rw [e])
    simp only [h, h0, h1, h2, this, eqCells_node, w2, iaddr_node, pnode, wk3, wk, seval]
  ·have : a = b := by
    apply List.ext_getElem hlen
    intro j h1 h2
    have := hj j (by omega)
    rwa [List.getD_eq_getElem?_getD, List.getElem?_eq_getElem h1, List.getD_eq_getElem?_getD, List.getElem?_eq_getElem h2] at this
   have hd : decide (a = b) = true := decide_eq_true this
   simp only [h, hd, iaddr_node, pnode, wk3, wk, seval]
 ·have hlen' : ¬ (a.length : Int) = b.length := by omega
  have : ¬ a = b := fun e => hlen (by rw [e])
  simp only [hlen', this, iaddr_node, pnode, wk3, wk, seval]
end Go.Proofs.YtemjlopoffjmpaaGreat.Abs
set_option linter.unusedSimpArgs false
set_option linter.unusedVariables false
namespace Go.Proofs.YtemjlopoffjmpaaGreat.Abs
open Go Go.Proofs
theorem asets_bare (l : List Dset) : bare (asets l) = true := by simp [asets, bare]
theorem sameS0 (a b : List Dset) (ha : Short a) (hb : Short b) : C Tryz.prog 18 [asets a, asets b] [] (fun x H' => x = .bool (decide (a = b)) ∧ H' = []) := by
 have ha1 := ha.1
 have hb1 := hb.1
 refine C_body' d18 rfl (WT_ok ?_)
 unfold c18
 simp only [asets, wk3, wk, iaddrV_map, Nat.reduceAdd, Nat.reduceSub, Nat.reduceMul, Nat.reduceLeDiff, Nat.reduceEqDiff, Nat.reduceBEq, Int.reduceLE, Int.reduceLT, Int.reduceEq, Int.reduceNe, Int.reduceAdd, Int.reduceSub, Int.reduceToNat, Int.reduceNeg, ↓reduceIte, reduceCtorEq]
 by_cases hlen : a.length = b.length
 ·have hlen' : (a.length : Int) = b.length := by omega
  simp only [hlen', wk3, wk, iaddrV_map, Nat.reduceAdd, Nat.reduceSub, Nat.reduceMul, Nat.reduceLeDiff, Nat.reduceEqDiff, Nat.reduceBEq, Int.reduceLE, Int.reduceLT, Int.reduceEq, Int.reduceNe, Int.reduceAdd, Int.reduceSub, Int.reduceToNat, Int.reduceNeg, ↓reduceIte, reduceCtorEq]
  refine WT_loop (W_wk (fr' := [asets a, asets b, .top, .top, .bool false, .int .i64 0] ++ List.replicate 55 .top) (Wk_tops ?_) (W_loop (fun n fr H' => ∃ i : Nat, i ≤ a.length ∧ n = a.length - i ∧ (∀ j, j < i → a.getD j default = b.getD j default) ∧ H' = [] ∧ fr = [asets a, asets b, .top, .top, .bool false, .int .i64 i] ++ List.replicate 55 .top) a.length ⟨0, by omega, rfl, fun j hj => by omega, rfl, rfl⟩ ?_))
  ·simp only [asets, List.replicate_succ, List.replicate_zero, List.cons_append, List.nil_append, Tops_top, Tops_same, Tops_nil]
  rintro n fr H' ⟨i, hi, rfl, hj, rfl, rfl⟩
  refine WT_ok ?_
  simp only [asets, iaddr_dset, wk3, wk, iaddrV_map, Nat.reduceAdd, Nat.reduceSub, Nat.reduceMul, Nat.reduceLeDiff, Nat.reduceEqDiff, Nat.reduceBEq, Int.reduceLE, Int.reduceLT, Int.reduceEq, Int.reduceNe, Int.reduceAdd, Int.reduceSub, Int.reduceToNat, Int.reduceNeg, ↓reduceIte, reduceCtorEq]
  refine guard_both ?_ ?_ <;> intro h <;> simp only [hy] at h
  ·have hil : i < a.length := by omega
   have h0 : (0 : Int) ≤ i := by omega
   have h1 : (i : Int) < b.length := by omega
   have w2 : IntKind.i64.wrap ((i : Int) + 1) = (i : Int) + 1 := IntWalk.i64_in _ (by omega)
   have hfa := ha.get hil
   have hfb := hb.get (show i < b.length by omega)
   have hne : a.getD i default ≠ b.getD i default → decide (a = b) = false := fun h => decide_eq_false fun e => h (by rw [e])
   have hnext : a.getD i default = b.getD i default → ∀ j, j < i + 1 → a.getD j default = b.getD j default := fun h j hj2 => by
    rcases Nat.lt_or_ge j i with h' | h'
    ·exact hj j h'
    ·have : j = i := by omega
     subst this; exact h
   simp only [h, iaddr_dset, wk3, wk, iaddrV_map, Nat.reduceAdd, Nat.reduceSub, Nat.reduceMul, Nat.reduceLeDiff, Nat.reduceEqDiff, Nat.reduceBEq, Int.reduceLE, Int.reduceLT, Int.reduceEq, Int.reduceNe, Int.reduceAdd, Int.reduceSub, Int.reduceToNat, Int.reduceNeg, ↓reduceIte, reduceCtorEq]
   refine WT_drawE ?_
   refine WDT_more 2 ?_
   simp only [h, h0, h1, iaddr_dset, pdset, ren, renL, lay, wk3, wk, iaddrV_map, Nat.reduceAdd, Nat.reduceSub, Nat.reduceMul, Nat.reduceLeDiff, Nat.reduceEqDiff, Nat.reduceBEq, Int.reduceLE, Int.reduceLT, Int.reduceEq, Int.reduceNe, Int.reduceAdd, Int.reduceSub, Int.reduceToNat, Int.reduceNeg, ↓reduceIte, reduceCtorEq]
   refine ⟨by omega, by omega, by omega, by rfl, ?_⟩
   generalize a.getD i default = x at hfa hne hnext ⊢
   generalize b.getD i default = y at hfb hne hnext ⊢
   by_cases q1 : x.id = y.id
   case neg =>
    simp only [q1, lay, wk3, wk, iaddrV_map, Nat.reduceAdd, Nat.reduceSub, Nat.reduceMul, Nat.reduceLeDiff, Nat.reduceEqDiff, Nat.reduceBEq, Int.reduceLE, Int.reduceLT, Int.reduceEq, Int.reduceNe, Int.reduceAdd, Int.reduceSub, Int.reduceToNat, Int.reduceNeg, ↓reduceIte, reduceCtorEq]
    exact KWk_bare rfl ⟨by rw [hne (fun e => q1 (by rw [e]))], rfl⟩
   by_cases q2 : x.kind = y.kind
   case neg =>
    simp only [q1, q2, lay, wk3, wk, iaddrV_map, Nat.reduceAdd, Nat.reduceSub, Nat.reduceMul, Nat.reduceLeDiff, Nat.reduceEqDiff, Nat.reduceBEq, Int.reduceLE, Int.reduceLT, Int.reduceEq, Int.reduceNe, Int.reduceAdd, Int.reduceSub, Int.reduceToNat, Int.reduceNeg, ↓reduceIte, reduceCtorEq]
    exact KWk_bare rfl ⟨by rw [hne (fun e => q2 (by rw [e]))], rfl⟩
   by_cases q3 : x.origin = y.origin
   case neg =>
    simp only [q1, q2, q3, lay, wk3, wk, iaddrV_map, Nat.reduceAdd, Nat.reduceSub, Nat.reduceMul, Nat.reduceLeDiff, Nat.reduceEqDiff, Nat.reduceBEq, Int.reduceLE, Int.reduceLT, Int.reduceEq, Int.reduceNe, Int.reduceAdd, Int.reduceSub, Int.reduceToNat, Int.reduceNeg, ↓reduceIte, reduceCtorEq]
    exact KWk_bare rfl ⟨by rw [hne (fun e => q3 (by rw [e]))], rfl⟩
   by_cases q4 : x.quota = y.quota
   case neg =>
    simp only [q1, q2, q3, q4, lay, wk3, wk, iaddrV_map, Nat.reduceAdd, Nat.reduceSub, Nat.reduceMul, Nat.reduceLeDiff, Nat.reduceEqDiff, Nat.reduceBEq, Int.reduceLE, Int.reduceLT, Int.reduceEq, Int.reduceNe, Int.reduceAdd, Int.reduceSub, Int.reduceToNat, Int.reduceNeg, ↓reduceIte, reduceCtorEq]
    exact KWk_bare rfl ⟨by rw [hne (fun e => q4 (by rw [e]))], rfl⟩
   simp only [q1, q2, q3, q4, lay, wk3, wk, iaddrV_map, Nat.reduceAdd, Nat.reduceSub, Nat.reduceMul, Nat.reduceLeDiff, Nat.reduceEqDiff, Nat.reduceBEq, Int.reduceLE, Int.reduceLT, Int.reduceEq, Int.reduceNe, Int.reduceAdd, Int.reduceSub, Int.reduceToNat, Int.reduceNeg, ↓reduceIte, reduceCtorEq]
   refine CT_ok (same33 x.files y.files hfa hfb _) ?_
   rintro _ _ ⟨rfl, rfl⟩
   by_cases q5 : x.files = y.files
   case neg =>
    simp only [q5, lay, wk3, wk, iaddrV_map, Nat.reduceAdd, Nat.reduceSub, Nat.reduceMul, Nat.reduceLeDiff, Nat.reduceEqDiff, Nat.reduceBEq, Int.reduceLE, Int.reduceLT, Int.reduceEq, Int.reduceNe, Int.reduceAdd, Int.reduceSub, Int.reduceToNat, Int.reduceNeg, ↓reduceIte, reduceCtorEq]
    exact KWk_bare rfl ⟨by rw [hne (fun e => q5 (by rw [e]))], rfl⟩
   have q : x = y := by cases x; cases y; simp_all
   simp only [q5, w2, lay, wk3, wk, iaddrV_map, Nat.reduceAdd, Nat.reduceSub, Nat.reduceMul, Nat.reduceLeDiff, Nat.reduceEqDiff, Nat.reduceBEq, Int.reduceLE, Int.reduceLT, Int.reduceEq, Int.reduceNe, Int.reduceAdd, Int.reduceSub, Int.reduceToNat, Int.reduceNeg, ↓reduceIte, reduceCtorEq]
   refine QLoop_wk (n' := a.length - (i + 1)) (by omega) ⟨i + 1, by omega, rfl, hnext q, rfl, rfl⟩ (Wk_none ?_)
   simp only [asets, renL, ren, List.replicate_succ, List.replicate_zero, List.cons_append, List.nil_append, Tops_top, Tops_same, Tops_nil, Int.natCast_add, Int.natCast_one]
  ·have : a = b := by
    apply List.ext_getElem hlen
    intro j h1 h2
    have := hj j (by omega)
    rwa [List.getD_eq_getElem?_getD, List.getElem?_eq_getElem h1, List.getD_eq_getElem?_getD, List.getElem?_eq_getElem h2] at this
   have hd : decide (a = b) = true := decide_eq_true this
   simp only [h, hd, wk3, wk, iaddrV_map, Nat.reduceAdd, Nat.reduceSub, Nat.reduceMul, Nat.reduceLeDiff, Nat.reduceEqDiff, Nat.reduceBEq, Int.reduceLE, Int.reduceLT, Int.reduceEq, Int.reduceNe, Int.reduceAdd, Int.reduceSub, Int.reduceToNat, Int.reduceNeg, ↓reduceIte, reduceCtorEq]
   exact KWk_bare rfl ⟨rfl, rfl⟩
 ·have hlen' : ¬ (a.length : Int) = b.length := by omega
  have : ¬ a = b := fun e => hlen (by rw [e])
  simp only [hlen', this, wk3, wk, iaddrV_map, Nat.reduceAdd, Nat.reduceSub, Nat.reduceMul, Nat.reduceLeDiff, Nat.reduceEqDiff, Nat.reduceBEq, Int.reduceLE, Int.reduceLT, Int.reduceEq, Int.reduceNe, Int.reduceAdd, Int.reduceSub, Int.reduceToNat, Int.reduceNeg, ↓reduceIte, reduceCtorEq]
  exact KWk_bare rfl ⟨rfl, rfl⟩
theorem sameS (a b : List Dset) (ha : Short a) (hb : Short b) (H : AH) : C Tryz.prog 18 [asets a, asets b] H (fun x H' => x = .bool (decide (a = b)) ∧ H' = H) :=
 C_any (sameS0 a b ha hb) (by simp [bareL, asets_bare]) rfl H
end Go.Proofs.YtemjlopoffjmpaaGreat.Abs
set_option linter.unusedSimpArgs false
set_option linter.unusedVariables false
namespace Go.Proofs.YtemjlopoffjmpaaGreat.Abs
open Go Go.Proofs
end Go.Proofs.YtemjlopoffjmpaaGreat.Abs
set_option linter.unusedSimpArgs false
set_option linter.unusedVariables false
namespace Go.Proofs.YtemjlopoffjmpaaGreat.Abs
open Go Go.Proofs
theorem Wf.whole {s : List Node} (h : Wf s) : ((s.any fun x => decide (x.kind = 3)) || (s.any fun x => decide (x.bad ≠ 0))) = false := by
 rw [Bool.or_eq_false_iff]
 constructor
 ·rw [List.any_eq_false]
  intro x hx
  obtain ⟨n, hn, rfl⟩ := mem_getD hx
  rcases h.kindsD n hn with e | e | e <;> rw [e] <;> decide
 ·rw [List.any_eq_false]
  intro x hx
  obtain ⟨n, hn, rfl⟩ := mem_getD hx
  rw [h.badD n hn]; decide
structure MayD (l : List Dset) (d : Dset) : Prop where
 id : 1 ≤ d.id ∧ d.id ≤ 65535
 quota : 0 ≤ d.quota ∧ d.quota ≤ 255
 files : Wf d.files
 kinds : d.kind = 1 ∨ d.kind = 2
 snap : d.kind = 2 → d.quota = 0 ∧ ∃ o ∈ l, o.id = d.origin ∧ o.kind = 1
 live : d.kind = 1 → d.origin = 0 ∨ ∃ o ∈ l, o.id = d.origin ∧ o.kind = 2
structure MayL (l : List Dset) : Prop where
 len : l.length ≤ 8
 sorted : l.Pairwise fun a b => a.id < b.id
 each : ∀ d ∈ l, MayD l d
 tree : ∃ r : Int → Nat, ∀ d ∈ l, ∀ o ∈ l, o.id = d.origin → r o.id < r d.id
theorem MayL.short {l : List Dset} (h : MayL l) : Short l := ⟨by have := h.len; omega, fun d hd => by have := (h.each d hd).files.len; omega⟩
theorem MayL.lt {l : List Dset} (h : MayL l) {i j : Nat} (hij : i < j) (hj : j < l.length) : (l.getD i default).id < (l.getD j default).id := by
 have := List.pairwise_iff_getElem.1 h.sorted i j (by omega) hj hij
 rw [List.getD_eq_getElem?_getD, List.getElem?_eq_getElem (show i < l.length by omega), List.getD_eq_getElem?_getD, List.getElem?_eq_getElem hj]
 exact this
theorem dgetD_mem {l : List Dset} {n : Nat} (h : n < l.length) : l.getD n default ∈ l := by
 rw [List.getD_eq_getElem?_getD, List.getElem?_eq_getElem h]
 exact List.getElem_mem h
theorem mem_dgetD {l : List Dset} {x : Dset} (h : x ∈ l) : ∃ n, n < l.length ∧ l.getD n default = x := by
 obtain ⟨n, hn, rfl⟩ := List.mem_iff_getElem.1 h
 exact ⟨n, hn, by rw [List.getD_eq_getElem?_getD, List.getElem?_eq_getElem hn]; rfl⟩
theorem MayL.inj {l : List Dset} (h : MayL l) {i j : Nat} (hi : i < l.length) (hj : j < l.length) (e : (l.getD i default).id = (l.getD j default).id) : i = j := by
 rcases Nat.lt_trichotomy i j with hh | hh | hh
 ·have := h.lt hh hj; omega
 ·exact hh
 ·have := h.lt hh hi; omega
theorem MayL.inj' {l : List Dset} (h : MayL l) {a b : Dset} (ha : a ∈ l) (hb : b ∈ l) (e : a.id = b.id) : a = b := by
 obtain ⟨i, hi, rfl⟩ := mem_dgetD ha
 obtain ⟨j, hj, rfl⟩ := mem_dgetD hb
 rw [h.inj hi hj e]
theorem MayL.find {l : List Dset} (h : MayL l) {d : Dset} (hd : d ∈ l) : getA l d.id = some d := by
 obtain ⟨i, hi, rfl⟩ := mem_dgetD hd
 unfold getA
 rcases find_of (l := l) (i := (l.getD i default).id) with ⟨e, hn⟩ | ⟨k, e, hk, hid, _⟩
 ·exact absurd rfl (hn i hi)
 ·rw [e, if_pos (by omega), Int.toNat_natCast, h.inj hk hi hid]
theorem getA_none {l : List Dset} {i : Int} (h : ∀ d ∈ l, d.id ≠ i) : getA l i = none := by
 unfold getA
 rcases find_of (l := l) (i := i) with ⟨e, hn⟩ | ⟨k, e, hk, hid, _⟩
 ·rw [e]; rfl
 ·exact absurd hid (h _ (dgetD_mem hk))
def stepD (l : List Dset) (d : Dset) : Dset := (getA l d.origin).getD ⟨0, 0, 0, 0, []⟩
def iterD (l : List Dset) : Nat → Dset → Dset
 | 0, d => d
 | m + 1, d => iterD l m (stepD l d)
theorem iterD_succ (l : List Dset) : ∀ (m : Nat) (d : Dset), iterD l (m + 1) d = stepD l (iterD l m d)
 | 0, _ => rfl
 | m + 1, d => iterD_succ l m (stepD l d)
end Go.Proofs.YtemjlopoffjmpaaGreat.Abs
set_option linter.unusedSimpArgs false
set_option linter.unusedVariables false
namespace Go.Proofs.YtemjlopoffjmpaaGreat.Abs
open Go Go.Proofs
theorem rankN_mono {α : Type} (r : α → Nat) (a b : Nat) (hab : a < b) : ∀ (l : List α), (∃ j ∈ l, r j = a) → l.countP (fun j => decide (r j < a)) < l.countP (fun j => decide (r j < b)) := by
 intro l
 induction l with
 | nil => rintro ⟨j, hj, _⟩; cases hj
 | cons x l ih =>
   rintro ⟨j, hj, e⟩
   have le : l.countP (fun j => decide (r j < a)) ≤ l.countP (fun j => decide (r j < b)) := List.countP_mono_left (fun y _ h => by simp at h ⊢; omega)
   rw [List.countP_cons, List.countP_cons]
   rcases List.mem_cons.1 hj with rfl | hj
   ·rw [if_neg (by simp; omega), if_pos (by simp; omega)]; omega
   ·have := ih ⟨j, hj, e⟩
    by_cases h1 : r x < a
    ·rw [if_pos (by simpa using h1), if_pos (by simp; omega)]; omega
    ·rw [if_neg (by simpa using h1)]; omega
theorem MayL.out {l : List Dset} (h : MayL l) {d : Dset} (hd : d ∈ l) {m : Nat} (hm : l.length ≤ m) : (iterD l m d).id = 0 := by
 obtain ⟨r, hr⟩ := h.tree
 have hz : ∀ m, iterD l m ⟨0, 0, 0, 0, []⟩ = ⟨0, 0, 0, 0, []⟩ := by
  intro m
  induction m with
  | zero => rfl
  | succ m ih =>
    show iterD l m (stepD l ⟨0, 0, 0, 0, []⟩) = _
    have : stepD l ⟨0, 0, 0, 0, []⟩ = ⟨0, 0, 0, 0, []⟩ := by
     unfold stepD
     rw [getA_none (fun d hd => by have := (h.each d hd).id; show d.id ≠ 0; omega)]; rfl
    rw [this, ih]
 let f : Dset → Nat := fun x => l.countP fun y => decide (r y.id < r x.id)
 have hf : ∀ x ∈ l, ∀ y ∈ l, r y.id < r x.id → f y < f x := fun x hx y hy hxy => rankN_mono (fun z : Dset => r z.id) _ _ hxy l ⟨y, hy, rfl⟩
 have hfl : ∀ x ∈ l, f x < l.length := fun x hx => by
  have h1 := rankN_mono (fun z : Dset => r z.id) (r x.id) (r x.id + 1) (by omega) l ⟨x, hx, rfl⟩
  have h2 : l.countP (fun j => decide (r j.id < r x.id + 1)) ≤ l.length := List.countP_le_length
  show l.countP _ < _
  omega
 have g : ∀ m, iterD l m d = ⟨0, 0, 0, 0, []⟩ ∨ (iterD l m d ∈ l ∧ f (iterD l m d) + m ≤ f d) := by
  intro m
  induction m with
  | zero => exact .inr ⟨hd, Nat.le_refl _⟩
  | succ m ih =>
    rw [iterD_succ]
    rcases ih with ih | ⟨hm, ih⟩
    ·left; rw [ih]; exact hz 1
    ·unfold stepD
     cases ho : getA l (iterD l m d).origin with
     | none => left; rfl
     | some o =>
       right
       obtain ⟨ho1, ho2⟩ := getA_mem ho
       refine ⟨ho1, ?_⟩
       have := hf _ hm o ho1 (hr _ hm o ho1 ho2)
       show f o + (m + 1) ≤ f d
       omega
 rcases g m with e | ⟨hm2, e⟩
 ·rw [e]
 ·have := hfl d hd; omega
end Go.Proofs.YtemjlopoffjmpaaGreat.Abs
namespace Go.Proofs.YtemjlopoffjmpaaGreat.Abs
open Go
end Go.Proofs.YtemjlopoffjmpaaGreat.Abs
namespace Go.Proofs.YtemjlopoffjmpaaGreat.Abs
open Go
end Go.Proofs.YtemjlopoffjmpaaGreat.Abs
namespace Go.Proofs.YtemjlopoffjmpaaGreat.Abs
open Go
end Go.Proofs.YtemjlopoffjmpaaGreat.Abs
set_option linter.unusedSimpArgs false
set_option linter.unusedVariables false
namespace Go.Proofs.YtemjlopoffjmpaaGreat.Abs
open Go Go.Proofs
theorem renO_box (τ : Nat → Option Nat) (k : IntKind) (n : Int) : renO τ [[.int k n]] = [[.int k n]] := by simp [renO, renL, ren]
def hangsA (l : List Dset) (i : Int) : Bool := decide (0 ≤ idxA (fun d => decide (d.origin = i)) l)
def livesA (l : List Dset) : Nat := l.countP fun d => decide (d.kind = 1)
theorem livesA_take (l : List Dset) (k : Nat) (h : k < l.length) : livesA (l.take (k + 1)) = livesA (l.take k) + if (l.getD k default).kind = 1 then 1 else 0 := by
 unfold livesA
 rw [List.take_add_one, List.getElem?_eq_getElem h, List.countP_append]
 simp only [List.getD_eq_getElem?_getD, List.getElem?_eq_getElem h, Option.getD_some, Option.toList_some, List.countP_cons, List.countP_nil, decide_eq_true_eq]
 omega
theorem livesA_le (l : List Dset) : livesA l ≤ l.length := List.countP_le_length
def destroyA (l : List Dset) (i : Int) : List Dset × Int :=
 if findA l i < 0 then (l, 2) else if hangsA l i = true ∨ ((l.getD (findA l i).toNat default).kind = 1 ∧ livesA l = 1) then (l, 10) else (l.eraseIdx (findA l i).toNat, 0)
theorem Wk_obj2 {fr fr' : List AV} {o o' : AObj} {G : AH} (ho : o.map (renL (upTo 2)) = o) (ho' : o'.map (renL (upTo 2)) = o') (h : Tops fr' (renL (upTo 2) fr)) : Wk 0 fr (some o :: some o' :: G) fr' [some o, some o'] := by
 have h1 := (Wk_forget (n0 := 0) (fr := fr) (H := some o :: some o' :: G) 2 (Nat.zero_le _)).trans (Wk_tops h)
 have e : mapH (renL (upTo 2)) ((some o :: some o' :: G).take 2) = [some o, some o'] := by
  simp only [List.take_succ_cons, List.take_zero, mapH, List.map_cons, List.map_nil, Option.map_some, ho, ho']
 rwa [e] at h1
end Go.Proofs.YtemjlopoffjmpaaGreat.Abs
set_option linter.unusedSimpArgs false
set_option linter.unusedVariables false
namespace Go.Proofs.YtemjlopoffjmpaaGreat.Abs
open Go Go.Proofs
section
variable {c : Nat} {H : AH} {late : List Loc → List Loc → Prop} {K : List Nat → Nat → AV → AH → Prop} {t : Tag K}
end
theorem set_cellD (l : List Dset) (k : Nat) (d : Dset) : (l.map cellD).set k (cellD d) = (l.set k d).map cellD := by rw [List.map_set]
def backA (l : List Dset) (i j : Int) : List Dset × Int :=
 if findA l i < 0 ∨ findA l j < 0 then (l, 2) else
 let d := l.getD (findA l i).toNat default
 let s := l.getD (findA l j).toNat default
 if d.kind ≠ 1 ∨ s.kind ≠ 2 ∨ s.origin ≠ i then (l, 1) else if 0 ≤ idxA (laterA i j) l then (l, 10) else (l.set (findA l i).toNat { d with files := s.files }, 0)
end Go.Proofs.YtemjlopoffjmpaaGreat.Abs
set_option linter.unusedSimpArgs false
set_option linter.unusedVariables false
namespace Go.Proofs.YtemjlopoffjmpaaGreat.Abs
open Go Go.Proofs
def someA (g : Dset → Dset) (l : List Dset) (k : Nat) : List Dset := (l.map g).take k ++ l.drop k
theorem someA_get (g : Dset → Dset) (l : List Dset) (k j : Nat) (hk : k ≤ l.length) : (someA g l k)[j]? = if j < k then (l[j]?).map g else l[j]? := by
 unfold someA
 rw [List.getElem?_append, List.length_take, List.length_map, Nat.min_eq_left hk]
 by_cases h : j < k
 ·rw [if_pos h, if_pos h, List.getElem?_take, if_pos h, List.getElem?_map]
 ·rw [if_neg h, if_neg h, List.getElem?_drop]; congr 1; omega
theorem someA_len (g : Dset → Dset) (l : List Dset) (k : Nat) (hk : k ≤ l.length) : (someA g l k).length = l.length := by
 unfold someA
 simp; omega
theorem someA_succ (g : Dset → Dset) (l : List Dset) (k : Nat) (hk : k < l.length) : (someA g l k).set k (g (l.getD k default)) = someA g l (k + 1) := by
 apply List.ext_getElem?
 intro j
 rw [List.getElem?_set, someA_get _ _ _ _ (by omega), someA_get _ _ _ _ (by omega), someA_len _ _ _ (by omega)]
 by_cases h : k = j
 ·subst h
  rw [if_pos rfl, if_pos hk, if_pos (by omega), List.getElem?_eq_getElem hk, List.getD_eq_getElem?_getD, List.getElem?_eq_getElem hk]; rfl
 ·rw [if_neg h]
  by_cases h2 : j < k
  ·rw [if_pos h2, if_pos (by omega)]
  ·rw [if_neg h2, if_neg (by omega)]
theorem someA_getD (g : Dset → Dset) (l : List Dset) (k j : Nat) (hk : k ≤ l.length) : (someA g l k).getD j default = if j < k ∧ j < l.length then g (l.getD j default) else l.getD j default := by
 rw [List.getD_eq_getElem?_getD, someA_get _ _ _ _ hk]
 by_cases h : j < k
 ·rw [if_pos h, if_pos ⟨h, by omega⟩, List.getElem?_eq_getElem (show j < l.length by omega), List.getD_eq_getElem?_getD, List.getElem?_eq_getElem (show j < l.length by omega)]; rfl
 ·rw [if_neg h, if_neg (by omega), List.getD_eq_getElem?_getD]
theorem someA_zero (g : Dset → Dset) (l : List Dset) : someA g l 0 = l := by simp [someA]
theorem someA_all (g : Dset → Dset) (l : List Dset) : someA g l l.length = l.map g := by
 unfold someA
 rw [List.take_of_length_le (by simp), List.drop_length, List.append_nil]
def turnA (was sid i : Int) (x : Dset) : Dset := if x.kind = 2 ∧ x.origin = was ∧ x.id ≤ sid then ⟨x.id, x.kind, i, x.quota, x.files⟩ else x
def reorig (d : Dset) (o : Int) : Dset := ⟨d.id, d.kind, o, d.quota, d.files⟩
def promoted (l : List Dset) (i : Int) (ki ks ko : Nat) : List Dset :=
 let was := (l.getD ks default).origin
 let l1 := l.set ki (reorig (l.getD ki default) (l.getD ko default).origin)
 let l2 := l1.set ko (reorig (l1.getD ko default) (l.getD ks default).id)
 l2.map (turnA was (l.getD ks default).id i)
def promoteA (l : List Dset) (i : Int) : List Dset × Int :=
 if findA l i < 0 then (l, 2) else
 let d := l.getD (findA l i).toNat default
 if d.kind ≠ 1 ∨ d.origin = 0 then (l, 1) else
 let s := l.getD (findA l d.origin).toNat default
 if findA l d.origin < 0 ∨ isA l s.origin 1 = false then (l, 1) else (promoted l i (findA l i).toNat (findA l d.origin).toNat (findA l s.origin).toNat, 0)
end Go.Proofs.YtemjlopoffjmpaaGreat.Abs
set_option linter.unusedSimpArgs false
set_option linter.unusedVariables false
namespace Go.Proofs.YtemjlopoffjmpaaGreat.Abs
open Go Go.Proofs
theorem MayD.mono {l l' : List Dset} {d : Dset} (h : MayD l d) (hs : ∀ o ∈ l, ∃ o' ∈ l', o'.id = o.id ∧ o'.kind = o.kind) : MayD l' d := by
 refine ⟨h.id, h.quota, h.files, h.kinds, fun e => ?_, fun e => ?_⟩
 ·obtain ⟨h1, o, ho, hi, hk⟩ := h.snap e
  obtain ⟨o', ho', hi', hk'⟩ := hs o ho
  exact ⟨h1, o', ho', by omega, by omega⟩
 ·rcases h.live e with h1 | ⟨o, ho, hi, hk⟩
  ·exact .inl h1
  ·obtain ⟨o', ho', hi', hk'⟩ := hs o ho
   exact .inr ⟨o', ho', by omega, by omega⟩
theorem MayD.origin {l : List Dset} {d : Dset} (h : MayD l d) : d.origin = 0 ∨ ∃ o ∈ l, o.id = d.origin := by
 rcases h.kinds with e | e
 ·rcases h.live e with h1 | ⟨o, ho, hi, _⟩
  ·exact .inl h1
  ·exact .inr ⟨o, ho, hi⟩
 ·obtain ⟨_, o, ho, hi, _⟩ := h.snap e
  exact .inr ⟨o, ho, hi⟩
theorem addA_may {l : List Dset} (h : MayL l) {next : Int} {x : Dset} (hf : Wf x.files) (hq : 0 ≤ x.quota ∧ x.quota ≤ 255)
 (hk : (x.kind = 1 ∧ (x.origin = 0 ∨ ∃ o ∈ l, o.id = x.origin ∧ o.kind = 2)) ∨ (x.kind = 2 ∧ x.quota = 0 ∧ ∃ o ∈ l, o.id = x.origin ∧ o.kind = 1)) : MayL (addA l next x).1 := by
 unfold addA
 split
 case isFalse => exact h
 case isTrue hok =>
  simp only [addOk, Bool.and_eq_true, Bool.or_eq_true, decide_eq_true_eq] at hok
  obtain ⟨⟨⟨h1, h2⟩, h3⟩, h4⟩ := hok
  have hlt : ∀ d ∈ l, d.id < next := fun d hd => by
   obtain ⟨n, hn, rfl⟩ := mem_dgetD hd
   rcases h4 with h4 | h4
   ·omega
   ·rcases Nat.lt_or_ge n (l.length - 1) with h5 | h5
    ·have := h.lt h5 (by omega); omega
    ·have : n = l.length - 1 := by omega
     rw [this]; exact h4
  have hox : x.origin = 0 ∨ ∃ o ∈ l, o.id = x.origin := by
   rcases hk with ⟨_, h5 | ⟨o, ho, hi, _⟩⟩ | ⟨_, _, o, ho, hi, _⟩
   ·exact .inl h5
   ·exact .inr ⟨o, ho, hi⟩
   ·exact .inr ⟨o, ho, hi⟩
  have hne : x.origin ≠ next := by
   rcases hox with h5 | ⟨o, ho, hi⟩
   ·omega
   ·have := hlt o ho; omega
  have hsub : ∀ o ∈ l, ∃ o' ∈ l ++ [({ x with id := next } : Dset)], o'.id = o.id ∧ o'.kind = o.kind := fun o ho => ⟨o, by simp [ho], rfl, rfl⟩
  refine ⟨by simp; omega, ?_, fun d hd => ?_, ?_⟩
  ·rw [List.pairwise_append]
   refine ⟨h.sorted, by simp, fun a ha b hb => ?_⟩
   rw [List.mem_singleton] at hb
   subst hb
   exact hlt a ha
  ·rcases List.mem_append.1 hd with hd | hd
   ·exact (h.each d hd).mono hsub
   ·rw [List.mem_singleton] at hd
    subst hd
    refine ⟨⟨h2, h3⟩, hq, hf, ?_, fun e => ?_, fun e => ?_⟩
    ·rcases hk with ⟨e, _⟩ | ⟨e, _⟩
     ·exact .inl e
     ·exact .inr e
    ·rcases hk with ⟨e', _⟩ | ⟨_, e2, o, ho, hi, hok⟩
     ·have : x.kind = 2 := e
      omega
     ·exact ⟨e2, o, by simp [ho], hi, hok⟩
    ·rcases hk with ⟨_, h5 | ⟨o, ho, hi, hok⟩⟩ | ⟨e', _⟩
     ·exact .inl h5
     ·exact .inr ⟨o, by simp [ho], hi, hok⟩
     ·have : x.kind = 1 := e
      omega
  ·obtain ⟨r, hr⟩ := h.tree
   refine ⟨fun i => if i = next then r x.origin + 1 else r i, fun d hd o ho e => ?_⟩
   show (if o.id = next then _ else _) < (if d.id = next then _ else _)
   rcases List.mem_append.1 hd with hd | hd
   ·have hd1 := hlt d hd
    rw [if_neg (show ¬ d.id = next by omega)]
    rcases List.mem_append.1 ho with ho | ho
    ·have ho1 := hlt o ho
     rw [if_neg (by omega)]
     exact hr d hd o ho e
    ·rw [List.mem_singleton] at ho
     subst ho
     exfalso
     have e' : next = d.origin := e
     rcases (h.each d hd).origin with h5 | ⟨o, ho, hi⟩
     ·omega
     ·have := hlt o ho; omega
   ·rw [List.mem_singleton] at hd
    subst hd
    rw [if_pos rfl]
    rcases List.mem_append.1 ho with ho | ho
    ·have ho1 := hlt o ho
     rw [if_neg (by omega)]
     have e' : o.id = x.origin := e
     rw [e']; omega
    ·rw [List.mem_singleton] at ho
     subst ho
     exfalso
     have e' : next = x.origin := e
     exact hne e'.symm
theorem createA_may {l : List Dset} (h : MayL l) (next q : Int) : MayL (createA l next q).1 := by
 unfold createA
 split
 ·exact h
 ·exact addA_may h newA_wf ⟨by show 0 ≤ q; omega, by show q ≤ 255; omega⟩ (.inl ⟨rfl, .inl rfl⟩)
theorem snapA_may {l : List Dset} (h : MayL l) (next i : Int) : MayL (snapA l next i).1 := by
 unfold snapA
 cases hg : getA l i with
 | none => exact h
 | some d =>
   obtain ⟨hd, hi⟩ := getA_mem hg
   have hm := h.each d hd
   simp only
   split
   ·exact h
   ·rename_i hk
    exact addA_may h hm.files ⟨Int.le_refl 0, by show (0 : Int) ≤ 255; omega⟩ (.inr ⟨rfl, rfl, d, hd, hi, by rcases hm.kinds with e | e; exact e; exact absurd e hk⟩)
theorem cloneA_may {l : List Dset} (h : MayL l) (next i : Int) : MayL (cloneA l next i).1 := by
 unfold cloneA
 cases hg : getA l i with
 | none => exact h
 | some d =>
   obtain ⟨hd, hi⟩ := getA_mem hg
   have hm := h.each d hd
   simp only
   split
   ·rename_i hk
    exact addA_may h hm.files ⟨Int.le_refl 0, by show (0 : Int) ≤ 255; omega⟩ (.inl ⟨rfl, .inr ⟨d, hd, hi, hk⟩⟩)
   ·exact h
theorem eraseIdx_mem {l : List Dset} (h : MayL l) {k : Nat} (hk : k < l.length) {d : Dset} : d ∈ l.eraseIdx k ↔ d ∈ l ∧ d.id ≠ (l.getD k default).id := by
 rw [List.mem_eraseIdx_iff_getElem]
 constructor
 ·rintro ⟨j, hj, hjk, rfl⟩
  refine ⟨List.getElem_mem hj, fun e => hjk ?_⟩
  have : (l.getD j default).id = (l.getD k default).id := by
   rw [List.getD_eq_getElem?_getD, List.getElem?_eq_getElem hj]; exact e
  exact h.inj hj hk this
 ·rintro ⟨hd, hne⟩
  obtain ⟨j, hj, rfl⟩ := mem_dgetD hd
  refine ⟨j, hj, fun e => hne (by rw [e]), ?_⟩
  rw [List.getD_eq_getElem?_getD, List.getElem?_eq_getElem hj]; rfl
theorem hangsA_false {l : List Dset} {i : Int} (h : ¬ hangsA l i = true) : ∀ d ∈ l, d.origin ≠ i := by
 intro d hd e
 apply h
 unfold hangsA
 obtain ⟨n, hn, rfl⟩ := mem_dgetD hd
 rcases idxA_cases (fun d => decide (d.origin = i)) l with ⟨_, h2⟩ | ⟨k, h1, _, _⟩
 ·have h3 := of_decide_eq_false (h2 n hn)
  exact absurd e h3
 ·rw [h1]; exact decide_eq_true (by omega)
theorem destroyA_may {l : List Dset} (h : MayL l) (i : Int) : MayL (destroyA l i).1 := by
 unfold destroyA
 split
 ·exact h
 ·rename_i h1
  split
  ·exact h
  ·rename_i h2
   rcases find_of (l := l) (i := i) with ⟨e, _⟩ | ⟨k, e, hk, hid, _⟩
   ·omega
   ·rw [e, Int.toNat_natCast]
    have hno := hangsA_false (fun hh => h2 (.inl hh))
    have hsub : ∀ d ∈ l.eraseIdx k, d ∈ l := fun d hd => ((eraseIdx_mem h hk).1 hd).1
    have hle := List.length_eraseIdx_le l k
    refine ⟨by have := h.len; show (l.eraseIdx k).length ≤ 8; omega, h.sorted.sublist (List.eraseIdx_sublist l k), fun d hd => ?_, ?_⟩
    ·have hdl := hsub d hd
     have hm := h.each d hdl
     refine ⟨hm.id, hm.quota, hm.files, hm.kinds, fun e => ?_, fun e => ?_⟩
     ·obtain ⟨h3, o, ho, hoi, hok⟩ := hm.snap e
      exact ⟨h3, o, (eraseIdx_mem h hk).2 ⟨ho, fun e2 => hno d hdl (by omega)⟩, hoi, hok⟩
     ·rcases hm.live e with h3 | ⟨o, ho, hoi, hok⟩
      ·exact .inl h3
      ·exact .inr ⟨o, (eraseIdx_mem h hk).2 ⟨ho, fun e2 => hno d hdl (by omega)⟩, hoi, hok⟩
    ·obtain ⟨r, hr⟩ := h.tree
     exact ⟨r, fun d hd o ho e => hr d (hsub d hd) o (hsub o ho) e⟩
theorem MayL.map {l : List Dset} (h : MayL l) (f : Dset → Dset) (hid : ∀ d ∈ l, (f d).id = d.id) (hkind : ∀ d ∈ l, (f d).kind = d.kind) (hquota : ∀ d ∈ l, (f d).quota = d.quota) (hfiles : ∀ d ∈ l, Wf (f d).files)
 (hsnap : ∀ d ∈ l, d.kind = 2 → ∃ o ∈ l, o.id = (f d).origin ∧ o.kind = 1) (hlive : ∀ d ∈ l, d.kind = 1 → (f d).origin = 0 ∨ ∃ o ∈ l, o.id = (f d).origin ∧ o.kind = 2)
 (r : Int → Nat) (hr : ∀ d ∈ l, ∀ o ∈ l, o.id = (f d).origin → r o.id < r d.id) : MayL (l.map f) := by
 have hmem : ∀ d ∈ l.map f, ∃ d0 ∈ l, f d0 = d := fun d hd => by
  obtain ⟨d0, h0, e⟩ := List.mem_map.1 hd
  exact ⟨d0, h0, e⟩
 refine ⟨by rw [List.length_map]; exact h.len, ?_, fun d hd => ?_, r, fun d hd o ho e => ?_⟩
 ·rw [List.pairwise_map]
  refine h.sorted.imp_of_mem fun ha hb hab => ?_
  rw [hid _ ha, hid _ hb]; exact hab
 ·obtain ⟨d0, h0, rfl⟩ := hmem d hd
  have hm := h.each d0 h0
  refine ⟨by rw [hid d0 h0]; exact hm.id, by rw [hquota d0 h0]; exact hm.quota, hfiles d0 h0, by rw [hkind d0 h0]; exact hm.kinds, fun e => ?_, fun e => ?_⟩
  ·rw [hkind d0 h0] at e
   obtain ⟨o, ho, hoi, hok⟩ := hsnap d0 h0 e
   exact ⟨by rw [hquota d0 h0]; exact (hm.snap e).1, f o, List.mem_map.2 ⟨o, ho, rfl⟩, by rw [hid o ho]; exact hoi, by rw [hkind o ho]; exact hok⟩
  ·rw [hkind d0 h0] at e
   rcases hlive d0 h0 e with h1 | ⟨o, ho, hoi, hok⟩
   ·exact .inl h1
   ·exact .inr ⟨f o, List.mem_map.2 ⟨o, ho, rfl⟩, by rw [hid o ho]; exact hoi, by rw [hkind o ho]; exact hok⟩
 ·obtain ⟨d0, h0, rfl⟩ := hmem d hd
  obtain ⟨o0, h1, rfl⟩ := hmem o ho
  rw [hid d0 h0, hid o0 h1]
  rw [hid o0 h1] at e
  exact hr d0 h0 o0 h1 e
theorem set_map {l : List Dset} (h : MayL l) {k : Nat} (hk : k < l.length) (g : Dset → Dset) : l.set k (g (l.getD k default)) = l.map fun d => if d.id = (l.getD k default).id then g d else d := by
 apply List.ext_getElem?
 intro j
 rw [List.getElem?_set, List.getElem?_map]
 by_cases hjl : j < l.length
 ·have hj : l[j] = l.getD j default := by rw [List.getD_eq_getElem?_getD, List.getElem?_eq_getElem hjl]; rfl
  rw [List.getElem?_eq_getElem hjl, Option.map_some, hj]
  by_cases hkj : k = j
  ·subst hkj; rw [if_pos rfl, if_pos hk, if_pos rfl]
  ·rw [if_neg hkj, if_neg fun e => hkj (h.inj hk hjl e.symm)]
 ·rw [List.getElem?_eq_none (by omega)]
  by_cases hkj : k = j
  ·omega
  ·rw [if_neg hkj]; rfl
theorem backA_may {l : List Dset} (h : MayL l) (i j : Int) : MayL (backA l i j).1 := by
 unfold backA
 split
 ·exact h
 ·rename_i h1
  rcases find_of (l := l) (i := i) with ⟨e, _⟩ | ⟨k, e, hk, hid, _⟩
  ·omega
  rcases find_of (l := l) (i := j) with ⟨e', _⟩ | ⟨m, e', hm, hid', _⟩
  ·omega
  rw [e, e', Int.toNat_natCast, Int.toNat_natCast]
  simp only
  split
  ·exact h
  ·split
   ·exact h
   ·show MayL (l.set k _)
    rw [set_map h hk (fun d => { d with files := (l.getD m default).files })]
    obtain ⟨r, hr⟩ := h.tree
    have hfm := (h.each _ (dgetD_mem hm)).files
    refine h.map _ (fun d _ => by split <;> rfl) (fun d _ => by split <;> rfl) (fun d _ => by split <;> rfl) (fun d hd => ?_) (fun d hd e => ?_) (fun d hd e => ?_) r (fun d hd o ho e => ?_)
    ·split
     ·exact hfm
     ·exact (h.each d hd).files
    ·have := ((h.each d hd).snap e).2
     split <;> exact this
    ·have := (h.each d hd).live e
     split <;> exact this
    ·have : o.id = d.origin := by
      rw [e]; split <;> rfl
     exact hr d hd o ho this
theorem isA_true {l : List Dset} {i k : Int} (h : isA l i k = true) : ∃ o : Nat, findA l i = o ∧ o < l.length ∧ (l.getD o default).id = i ∧ (l.getD o default).kind = k := by
 unfold isA at h
 rw [Bool.and_eq_true] at h
 have h1 := of_decide_eq_true h.1
 have h2 := of_decide_eq_true h.2
 rcases find_of (l := l) (i := i) with ⟨e, _⟩ | ⟨o, e, ho, hoi, _⟩
 ·omega
 ·rw [e, Int.toNat_natCast] at h2
  exact ⟨o, e, ho, hoi, h2⟩
theorem turnA_live {was sid i : Int} {x : Dset} (h : x.kind = 1) : turnA was sid i x = x := by
 unfold turnA
 rw [if_neg fun hh => by omega]
theorem turnA_re {was sid i : Int} {x : Dset} (v : Int) (h : x.kind = 1) : turnA was sid i (reorig x v) = reorig x v := turnA_live (x := reorig x v) h
def proF (c o s x : Dset) : Dset := if x.id = c.id then reorig x o.origin else if x.id = o.id then reorig x s.id else turnA s.origin s.id c.id x
theorem promoted_map {l : List Dset} (h : MayL l) {ki ks ko : Nat} (hi : ki < l.length) (ho : ko < l.length) (hne : ki ≠ ko) (hc1 : (l.getD ki default).kind = 1) (ho1 : (l.getD ko default).kind = 1) :
 promoted l (l.getD ki default).id ki ks ko = l.map (proF (l.getD ki default) (l.getD ko default) (l.getD ks default)) := by
 unfold promoted
 apply List.ext_getElem?
 intro j
 simp only [List.getElem?_map, List.getElem?_set, List.length_set]
 by_cases hjl : j < l.length
 ·have hj : l[j] = l.getD j default := by rw [List.getD_eq_getElem?_getD, List.getElem?_eq_getElem hjl]; rfl
  rw [List.getElem?_eq_getElem hjl, Option.map_some, hj]
  unfold proF
  by_cases h1 : ko = j
  ·subst h1
   have e1 : (l.set ki (reorig (l.getD ki default) (l.getD ko default).origin)).getD ko default = l.getD ko default := by
    rw [List.getD_eq_getElem?_getD, List.getElem?_set_ne hne, ← List.getD_eq_getElem?_getD]
   rw [if_pos rfl, if_pos ho, e1, if_neg fun e => hne (h.inj hi ho e.symm), if_pos rfl, Option.map_some, turnA_re _ ho1]
  ·rw [if_neg h1]
   by_cases h2 : ki = j
   ·subst h2
    rw [if_pos rfl, if_pos hi, if_pos rfl, Option.map_some, turnA_re _ hc1]
   ·rw [if_neg h2, if_neg fun e => h2 (h.inj hi hjl e.symm), if_neg fun e => h1 (h.inj ho hjl e.symm)]
    rfl
 ·rw [List.getElem?_eq_none (by omega)]
  by_cases h1 : ko = j
  ·omega
  ·by_cases h2 : ki = j
   ·omega
   ·rw [if_neg h1, if_neg h2]; rfl
theorem proF_may {l : List Dset} (h : MayL l) {c o s : Dset} (hc : c ∈ l) (ho : o ∈ l) (hs : s ∈ l) (hck : c.kind = 1) (hok : o.kind = 1) (hsk : s.kind = 2) (hcs : c.origin = s.id) (hso : s.origin = o.id) : MayL (l.map (proF c o s)) := by
 obtain ⟨r, hr⟩ := h.tree
 have r1 : r o.id < r s.id := hr s hs o ho hso.symm
 have r2 : r s.id < r c.id := hr c hc s hs hcs.symm
 have tsplit : ∀ d : Dset, (d.kind = 2 ∧ d.origin = s.origin ∧ d.id ≤ s.id ∧ turnA s.origin s.id c.id d = ⟨d.id, d.kind, c.id, d.quota, d.files⟩) ∨ (¬ (d.kind = 2 ∧ d.origin = s.origin ∧ d.id ≤ s.id) ∧ turnA s.origin s.id c.id d = d) := fun d => by
  unfold turnA
  by_cases hh : d.kind = 2 ∧ d.origin = s.origin ∧ d.id ≤ s.id
  ·left; rw [if_pos hh]; exact ⟨hh.1, hh.2.1, hh.2.2, rfl⟩
  ·right; rw [if_neg hh]; exact ⟨hh, rfl⟩
 have hF : ∀ d ∈ l, (proF c o s d).id = d.id ∧ (proF c o s d).kind = d.kind ∧ (proF c o s d).quota = d.quota ∧ (proF c o s d).files = d.files := fun d hd => by
  unfold proF
  split
  ·exact ⟨rfl, rfl, rfl, rfl⟩
  ·split
   ·exact ⟨rfl, rfl, rfl, rfl⟩
   ·rcases tsplit d with ⟨_, _, _, e⟩ | ⟨_, e⟩ <;> rw [e] <;> exact ⟨rfl, rfl, rfl, rfl⟩
 have hO : ∀ d ∈ l, (d = c ∧ (proF c o s d).origin = o.origin) ∨ (d = o ∧ d ≠ c ∧ (proF c o s d).origin = s.id) ∨ (d ≠ c ∧ d ≠ o ∧ (d.kind = 2 ∧ d.origin = s.origin ∧ d.id ≤ s.id) ∧ (proF c o s d).origin = c.id) ∨ (d ≠ c ∧ d ≠ o ∧ ¬ (d.kind = 2 ∧ d.origin = s.origin ∧ d.id ≤ s.id) ∧ (proF c o s d).origin = d.origin) := fun d hd => by
  unfold proF
  by_cases h1 : d.id = c.id
  ·left; rw [if_pos h1]; exact ⟨h.inj' hd hc h1, rfl⟩
  ·have n1 : d ≠ c := fun e => h1 (by rw [e])
   rw [if_neg h1]
   by_cases h2 : d.id = o.id
   ·right; left; rw [if_pos h2]; exact ⟨h.inj' hd ho h2, n1, rfl⟩
   ·have n2 : d ≠ o := fun e => h2 (by rw [e])
    rw [if_neg h2]
    right; right
    rcases tsplit d with ⟨e1, e2, e3, e⟩ | ⟨e1, e⟩
    ·left; rw [e]; exact ⟨n1, n2, ⟨e1, e2, e3⟩, rfl⟩
    ·right; rw [e]; exact ⟨n1, n2, e1, rfl⟩
 have hsT : s.kind = 2 ∧ s.origin = s.origin ∧ s.id ≤ s.id := ⟨hsk, rfl, Int.le_refl _⟩
 have rT : ∀ d ∈ l, (d.kind = 2 ∧ d.origin = s.origin ∧ d.id ≤ s.id) → r o.id < r d.id := fun d hd e => hr d hd o ho (by rw [e.2.1, hso])
 let R : Dset → Nat := fun d => if d = c then r o.id else if (d.kind = 2 ∧ d.origin = s.origin ∧ d.id ≤ s.id) then r o.id + 1 else if d = o then r o.id + 2 else if r o.id < r d.id then r d.id + 4 else r d.id
 have hR : ∀ d ∈ l, ((getA l d.id).map R).getD 0 = R d := fun d hd => by
  rw [h.find hd]; rfl
 have hco : c ≠ o := fun e => by rw [e] at r2; omega
 have hcT : ¬ (c.kind = 2 ∧ c.origin = s.origin ∧ c.id ≤ s.id) := fun e => by omega
 have hoT : ¬ (o.kind = 2 ∧ o.origin = s.origin ∧ o.id ≤ s.id) := fun e => by omega
 refine h.map _ (fun d hd => (hF d hd).1) (fun d hd => (hF d hd).2.1) (fun d hd => (hF d hd).2.2.1) (fun d hd => by rw [(hF d hd).2.2.2]; exact (h.each d hd).files) (fun d hd e => ?_) (fun d hd e => ?_) (fun i => ((getA l i).map R).getD 0) (fun d hd p hp e => ?_)
 ·rcases hO d hd with ⟨rfl, _⟩ | ⟨rfl, _, _⟩ | ⟨_, _, _, e2⟩ | ⟨_, _, _, e2⟩
  ·omega
  ·omega
  ·exact ⟨c, hc, e2.symm, hck⟩
  ·rw [e2]; exact ((h.each d hd).snap e).2
 ·rcases hO d hd with ⟨rfl, e2⟩ | ⟨rfl, _, e2⟩ | ⟨_, _, e3, _⟩ | ⟨_, _, _, e2⟩
  ·rw [e2]; exact (h.each o ho).live hok
  ·rw [e2]; exact .inr ⟨s, hs, rfl, hsk⟩
  ·omega
  ·rw [e2]; exact (h.each d hd).live e
 ·rw [hR d hd, hR p hp]
  have Rc : R c = r o.id := if_pos rfl
  have Ro : R o = r o.id + 2 := by show (if o = c then _ else _) = _; rw [if_neg hco.symm, if_neg hoT, if_pos rfl]
  have RT : ∀ d, d ≠ c → (d.kind = 2 ∧ d.origin = s.origin ∧ d.id ≤ s.id) → R d = r o.id + 1 := fun d h1 h2 => by show (if d = c then _ else _) = _; rw [if_neg h1, if_pos h2]
  have RE : ∀ d, d ≠ c → ¬ (d.kind = 2 ∧ d.origin = s.origin ∧ d.id ≤ s.id) → d ≠ o → R d = if r o.id < r d.id then r d.id + 4 else r d.id := fun d h1 h2 h3 => by show (if d = c then _ else _) = _; rw [if_neg h1, if_neg h2, if_neg h3]
  have hsc : s ≠ c := fun e => by rw [e] at hsk; omega
  rcases hO d hd with ⟨rfl, e2⟩ | ⟨rfl, _, e2⟩ | ⟨n1, _, e3, e2⟩ | ⟨n1, n2, n3, e2⟩
  ·have hpo : p.id = o.origin := e.trans e2
   have r3 := hr o ho p hp hpo
   have hpc : p ≠ d := fun e => by rw [e] at r3; omega
   have hpo : p ≠ o := fun e => by rw [e] at r3; omega
   have hpT : ¬ (p.kind = 2 ∧ p.origin = s.origin ∧ p.id ≤ s.id) := fun e => by have := rT p hp e; omega
   rw [Rc, RE p hpc hpT hpo, if_neg (by omega)]
   exact r3
  ·have hps : p = s := h.inj' hp hs (e.trans e2)
   rw [hps, Ro, RT s hsc hsT]; omega
  ·have hpc : p = c := h.inj' hp hc (e.trans e2)
   rw [hpc, Rc, RT d n1 e3]; omega
  ·have r3 := hr d hd p hp (e.trans e2)
   rw [RE d n1 n3 n2]
   by_cases p1 : p = c
   ·rw [p1] at r3
    rw [p1, Rc, if_pos (by omega)]; omega
   ·by_cases p2 : p.kind = 2 ∧ p.origin = s.origin ∧ p.id ≤ s.id
    ·have := rT p hp p2
     rw [RT p p1 p2, if_pos (by omega)]; omega
    ·by_cases p3 : p = o
     ·rw [p3] at r3
      rw [p3, Ro, if_pos r3]; omega
     ·rw [RE p p1 p2 p3]
      by_cases p4 : r o.id < r p.id
      ·rw [if_pos p4, if_pos (by omega)]; omega
      ·rw [if_neg p4]; split <;> omega
theorem promoteA_may {l : List Dset} (h : MayL l) (i : Int) : MayL (promoteA l i).1 := by
 unfold promoteA
 split
 ·exact h
 ·rename_i h1
  rcases find_of (l := l) (i := i) with ⟨e, _⟩ | ⟨k, e, hk, hid, _⟩
  ·omega
  rw [e, Int.toNat_natCast]
  simp only
  split
  ·exact h
  ·rename_i h2
   split
   ·exact h
   ·rename_i h3
    have hk1 : (l.getD k default).kind = 1 := Classical.byContradiction fun hh => h2 (.inl hh)
    rcases find_of (l := l) (i := (l.getD k default).origin) with ⟨e', _⟩ | ⟨m, e', hm, hid', _⟩
    ·exact absurd (.inl (by omega)) h3
    rw [e', Int.toNat_natCast] at h3 ⊢
    have h4 : isA l (l.getD m default).origin 1 = true := by
     cases hh : isA l (l.getD m default).origin 1
     ·exact absurd (.inr hh) h3
     ·rfl
    obtain ⟨o, e2, ho, hoi, hok⟩ := isA_true h4
    rw [e2, Int.toNat_natCast]
    have hms : (l.getD m default).kind = 2 := by
     rcases (h.each _ (dgetD_mem hk)).live hk1 with h5 | ⟨x, hx, hxi, hxk⟩
     ·exact absurd (.inr h5) h2
     ·have : x = l.getD m default := h.inj' hx (dgetD_mem hm) (by omega)
      rw [← this]; exact hxk
    have hne : k ≠ o := by
     intro hko
     obtain ⟨r, hr⟩ := h.tree
     have r1 := hr _ (dgetD_mem hm) _ (dgetD_mem ho) hoi
     have r2 := hr _ (dgetD_mem hk) _ (dgetD_mem hm) hid'
     rw [← hko] at r1
     omega
    show MayL (promoted l i k m o)
    rw [← hid, promoted_map h hk ho hne hk1 hok]
    exact proF_may h (dgetD_mem hk) (dgetD_mem ho) (dgetD_mem hm) hk1 hok hms hid'.symm hoi.symm
end Go.Proofs.YtemjlopoffjmpaaGreat.Abs
set_option linter.unusedSimpArgs false
set_option linter.unusedVariables false
namespace Go.Proofs.YtemjlopoffjmpaaGreat.Abs
open Go Go.Proofs
theorem rused0 (s : List Node) (hs : s.length ≤ 1000000) : C Tryz.prog 20 [aset s] [] (fun x _ => x = .int .i64 (used s)) := by
 refine C_body d20 rfl (WT_ok ?_)
 unfold c20
 simp only [aset, wk, iaddrV_map, seval]
 refine WT_loop (W_loop (fun n fr H' => ∃ i : Nat, i ≤ s.length ∧ n = s.length - i ∧ H' = [] ∧ fr = [.fz (s.map pnode), .top, .int .i64 0, .int .i64 (used (s.take i)), .int .i64 i] ++ List.replicate 15 .top) s.length ⟨0, by omega, rfl, rfl, rfl⟩ ?_)
 rintro n fr H' ⟨i, hi, rfl, rfl, rfl⟩
 refine WT_ok ?_
 simp only [wk, iaddrV_map, seval]
 refine guard_both ?_ ?_ <;> intro h <;> simp only [hy] at h <;> simp only [h, wk, iaddrV_map, seval]
 ·have hil : i < s.length := by omega
  refine ⟨⟨by omega, rfl⟩, ?_⟩
  simp only [pnode, wk, iaddrV_map, seval]
  refine CT_ok (count_spec _ _) ?_
  rintro _ _ ⟨rfl, rfl⟩
  have hb := usedA_le countA countA_le (s.take i)
  have hb2 := countA_le (s.getD i default).body
  rw [List.length_take] at hb
  have w1 : IntKind.i64.wrap ((used (s.take i) : Int) + (countA (s.getD i default).body : Int)) = (used (s.take i) : Int) + (countA (s.getD i default).body : Int) := IntWalk.i64_in _ (by unfold used; omega)
  have w2 : IntKind.i64.wrap ((i : Int) + 1) = (i : Int) + 1 := IntWalk.i64_in _ (by omega)
  simp only [w1, w2, wk, iaddrV_map, seval]
  refine QLoop_wk (n' := s.length - (i + 1)) (by omega) ⟨i + 1, by omega, rfl, rfl, rfl⟩ (Wk_clear ?_)
  simp only [renL, ren, upTo_zero, Tops_top, Tops_same, Tops_nil, used, usedA_take countA s i hil, Int.natCast_add, Int.natCast_one, List.replicate_succ, List.replicate_zero, List.cons_append, List.nil_append]
 ·have : i = s.length := by omega
  subst this
  rw [List.take_length]
theorem rused (s : List Node) (hs : s.length ≤ 1000000) (H : AH) : C Tryz.prog 20 [aset s] H (fun x H' => x = .int .i64 (used s) ∧ H' = H) :=
 C_flat (K0 := fun x _ => x = .int .i64 (used s)) (rused0 s hs) (by rintro x _ rfl; exact ⟨rfl, rfl, rfl⟩)
theorem SET_pure {P : Program} {f : FuncId} {args : List Opd} {d : Option Nat} {c : Nat} {fr : List AV} {H : AH} {K : List Loc → List Loc → Nat → List AV → AH → Prop} {t} {vs : List AV} {x : AV} (ha : args.map (evalA fr) = vs) (hb : bareL vs = true) (hx : bare x = true)
 (h : C P f vs [] (fun y G => y = x ∧ G = [])) (hc : c ≤ H.length) (hk : K [] [] c (setA fr d x) H) : SET P (.call f args) d c fr H K t := by
 refine ⟨[], 0, x, [], List.nodup_nil, by simp, by omega, rfl, ?_, ?_⟩
 ·rw [ha, renL_bare _ _ hb]; exact h
 ·simp only [List.nil_append, List.range'_zero, List.map_nil, List.append_nil, Nat.add_zero]
  rw [ren_bare _ _ hx]
  exact hk
theorem CFT_pure {P : Program} {f : FuncId} {args : List AV} {c : Nat} {H : AH} {late : List Loc → List Loc → Prop} {K : List Nat → Nat → AV → AH → Prop} {t} {x : AV} (hb : bareL args = true) (hx : bare x = true)
 (h : C P f args [] (fun y G => y = x ∧ G = [])) (hc : c ≤ H.length) (hk : K [] c x H) : CFT P f args c H late K t := by
 refine .inl ⟨[], 0, x, [], List.nodup_nil, by simp, by omega, rfl, ?_, ?_⟩
 ·rw [renL_bare _ _ hb]; exact h
 ·simp only [List.nil_append, List.range'_zero, Nat.add_zero]
  rw [ren_bare _ _ hx]
  exact hk
theorem KWk_then {K : AV → AH → Prop} {x x' : AV} {H H' : AH} (h : Wk 0 [x] H [x'] H') (hk : KWk 0 K x' H') : KWk 0 K x H := by
 obtain ⟨y, G, h2, h3⟩ := hk
 exact ⟨y, G, h.trans h2, h3⟩
theorem frz_cell (r : Nat) (es : List (List PV)) (d : Dset) : frzL r es (cellD d) = cellD d := by simp [frzL, frz, cellD, aset]
theorem map_frz (r : Nat) (es : List (List PV)) (l : List Dset) : (l.map cellD).map (frzL r es) = l.map cellD := by
 rw [List.map_map]
 apply List.map_congr_left
 intro d _
 exact frz_cell r es d
theorem KWk_files (l : List Dset) (k : Nat) (d : Dset) (s : List Node) (o0 : AObj) :
 KWk 0 (fun y H' => y = outA (l.set k { d with files := s }, 0) ∧ H' = []) (.tuple [.own 1 5 0 l.length l.length, .int .i64 0])
  [some o0, some ((l.map cellD).set k [.int .i64 d.id, .int .i64 d.kind, .int .i64 d.origin, .int .i64 d.quota, .own 2 5 0 s.length s.length]), some ((s.map pnode).map fun e => e.map emb)] := by
 have h := Wk_freeze (n0 := 0) (fr := [.tuple [.own 1 5 0 l.length l.length, .int .i64 0]]) (H := [some o0, some ((l.map cellD).set k [.int .i64 d.id, .int .i64 d.kind, .int .i64 d.origin, .int .i64 d.quota, .own 2 5 0 s.length s.length]), some ((s.map pnode).map fun e => e.map emb)]) 2 (s.map pnode) rfl
 have e : frzL 2 (s.map pnode) [.int .i64 d.id, .int .i64 d.kind, .int .i64 d.origin, .int .i64 d.quota, .own 2 5 0 s.length s.length] = cellD { d with files := s } := by
  simp only [frzL, frz, cellD, aset, if_true, List.length_map, Nat.zero_add, Nat.le_refl, and_self, List.drop_zero]
  rw [List.take_of_length_le (by simp)]
 refine KWk_then h (KWk_sets 1 (l.set k { d with files := s }) 0 _ (by simp) ?_ ⟨rfl, rfl⟩)
 simp only [mapH, List.set_cons_succ, List.set_cons_zero, List.map_cons, List.map_nil, Option.map_some, Option.map_none, List.map_set, map_frz, e]
 rfl
def filesA (l : List Dset) (i : Int) (s : List Node) : List Dset × Int := match getA l i with
 | none => (l, 2)
 | some d => if d.kind = 2 then (l, 11) else if 0 < d.quota ∧ d.quota < used s ∧ used d.files < used s then (l, 9) else (l.set (findA l i).toNat { d with files := s }, 0)
theorem filesA0 (l : List Dset) (hl : Short l) (i : Int) (s : List Node) (hs : s.length ≤ 1000000) :
 C Tryz.prog 17 [asets l, .int .i64 i, aset s] [] (fun y H' => y = outA (filesA l i s) ∧ H' = []) := by
 have hl1 := hl.1
 refine C_body' d17 rfl (WT_ok ?_)
 unfold c17
 simp only [lay, wk3, wk, iaddrV_map, seval]
 refine CT_ok (rgetL l hl1 i _) ?_
 rintro _ _ ⟨rfl, rfl⟩
 cases hg : getA l i with
 | none =>
   have e : filesA l i s = (l, 2) := by unfold filesA; rw [hg]
   rw [e]
   simp only [getV, lay, wk3, wk, iaddrV_map, seval]
   exact KWk_bare (by simp [bare, bareL, asets]) ⟨rfl, rfl⟩
 | some d =>
   have hd := hl.2 d (getA_mem hg).1
   by_cases h2 : d.kind = 2
   ·have e : filesA l i s = (l, 11) := by unfold filesA; rw [hg]; exact if_pos h2
    rw [e]
    simp only [getV, h2, cellD, aset, lay, wk3, wk, iaddrV_map, seval]
    exact KWk_bare (by simp [bare, bareL, asets]) ⟨rfl, rfl⟩
   have hB : filesA l i s = if 0 < d.quota ∧ d.quota < used s ∧ used d.files < used s then (l, 9) else (l.set (findA l i).toNat { d with files := s }, 0) := by
    unfold filesA; rw [hg]; exact if_neg h2
   obtain ⟨k, ek, hk, hdk⟩ : ∃ k : Nat, findA l i = k ∧ k < l.length ∧ l.getD k default = d := by
    unfold getA at hg
    rcases find_of (l := l) (i := i) with ⟨e, _⟩ | ⟨k, e, hk, _, _⟩
    ·rw [e] at hg; cases hg
    ·rw [e, if_pos (by omega), Int.toNat_natCast] at hg
     exact ⟨k, e, hk, Option.some.inj hg⟩
   rw [ek, Int.toNat_natCast] at hB
   have hc : (l.map cellD)[k]? = some (cellD d) := by rw [cell_at hk, hdk]
   have k0 : (0 : Int) ≤ k := by omega
   have k1 : (k : Int) < l.length := by omega
   by_cases h3 : 0 < d.quota
   case neg =>
    rw [if_neg (fun h => h3 h.1)] at hB
    simp only [getV, h2, cellD, aset, lay, wk3, wk, iaddrV_map, seval]
    refine WT_drawE ?_
    simp only [h3, lay, wk3, wk, iaddrV_map, seval]
    refine WDT_more 0 ?_
    simp only [h3, lay, wk3, wk, iaddrV_map, seval]
    refine ⟨by rfl, ?_⟩
    refine WDT_more 0 ?_
    simp only [h3, lay, wk3, wk, iaddrV_map, seval]
    refine ⟨by rfl, ?_⟩
    simp only [asets, cellsD, rows5D, List.length_map, lay, wk3, wk, iaddrV_map, seval]
    refine ⟨⟨by omega, by omega⟩, ?_⟩
    refine CT_ok (rat85 l hl1 i _) ?_
    rintro _ _ ⟨rfl, rfl⟩
    simp only [ek, k0, k1, hc, cellD, aset, lay, wk3, wk, iaddrV_map, seval]
    refine ⟨⟨rows5 s, by omega, by omega⟩, ?_⟩
    rw [hB]
    exact KWk_files l k d s _
   simp only [getV, h2, cellD, aset, lay, wk3, wk, iaddrV_map, seval]
   refine WT_drawE ?_
   simp only [h3, lay, wk3, wk, iaddrV_map, seval]
   refine WDT_more 0 ?_
   simp only [h3, lay, wk3, wk, iaddrV_map, seval]
   refine SET_pure (x := .int .i64 (used s)) rfl rfl rfl (rused s hs []) (by simp) ?_
   simp only [lay, wk3, wk, iaddrV_map, seval]
   refine ⟨by rfl, ?_⟩
   by_cases h4 : d.quota < (used s : Int)
   case neg =>
    rw [if_neg (fun h => h4 h.2.1)] at hB
    simp only [h3, h4, lay, wk3, wk, iaddrV_map, seval]
    refine WDT_more 0 ?_
    simp only [h3, h4, lay, wk3, wk, iaddrV_map, seval]
    refine ⟨by rfl, ?_⟩
    simp only [asets, cellsD, rows5D, List.length_map, lay, wk3, wk, iaddrV_map, seval]
    refine ⟨⟨by omega, by omega⟩, ?_⟩
    refine CT_ok (rat85 l hl1 i _) ?_
    rintro _ _ ⟨rfl, rfl⟩
    simp only [ek, k0, k1, hc, cellD, aset, lay, wk3, wk, iaddrV_map, seval]
    refine ⟨⟨rows5 s, by omega, by omega⟩, ?_⟩
    rw [hB]
    exact KWk_files l k d s _
   simp only [h3, h4, lay, wk3, wk, iaddrV_map, seval]
   refine WDT_more 0 ?_
   simp only [h3, h4, lay, wk3, wk, iaddrV_map, seval]
   refine SET_pure (x := .int .i64 (used s)) rfl rfl rfl (rused s hs []) (by simp) ?_
   simp only [lay, wk3, wk, iaddrV_map, seval]
   refine ⟨by rfl, ?_⟩
   refine CT_ok (rused d.files hd _) ?_
   rintro _ _ ⟨rfl, rfl⟩
   by_cases h5 : (used d.files : Int) < (used s : Int)
   case neg =>
    rw [if_neg (fun h => h5 (by omega))] at hB
    simp only [h5, lay, wk3, wk, iaddrV_map, seval]
    simp only [asets, cellsD, rows5D, List.length_map, lay, wk3, wk, iaddrV_map, seval]
    refine ⟨⟨by omega, by omega⟩, ?_⟩
    refine CT_ok (rat85 l hl1 i _) ?_
    rintro _ _ ⟨rfl, rfl⟩
    simp only [ek, k0, k1, hc, cellD, aset, lay, wk3, wk, iaddrV_map, seval]
    refine ⟨⟨rows5 s, by omega, by omega⟩, ?_⟩
    rw [hB]
    exact KWk_files l k d s _
   rw [if_pos ⟨h3, h4, by omega⟩] at hB
   simp only [h5, hB, lay, wk3, wk, iaddrV_map, seval]
   exact KWk_bare (by simp [bare, bareL, asets]) ⟨rfl, rfl⟩
end Go.Proofs.YtemjlopoffjmpaaGreat.Abs
set_option linter.unusedSimpArgs false
set_option linter.unusedVariables false
namespace Go.Proofs.YtemjlopoffjmpaaGreat.Abs
open Go Go.Proofs
theorem getA_of {l : List Dset} {i : Int} {k : Nat} (h : findA l i = k) : getA l i = some (l.getD k default) := by
 unfold getA
 rw [h, if_pos (by omega), Int.toNat_natCast]
theorem getA_no {l : List Dset} {i : Int} (h : findA l i = -1) : getA l i = none := by
 unfold getA
 rw [h, if_neg (by decide)]
theorem renO_one (τ : Nat → Option Nat) (d : Dset) : renO τ [cellD d] = [cellD d] := renO_cells τ [d]
theorem rback0 (l : List Dset) (hl : Short l) (i j : Int) : C Tryz.prog 74 [asets l, .int .i64 i, .int .i64 j] [] (fun y H' => y = outA (backA l i j) ∧ H' = []) := by
 have hl1 := hl.1
 refine C_body' d74 rfl (WT_ok ?_)
 unfold c74
 simp only [lay, wk3, wk, iaddrV_map, seval]
 refine CT_ok (rgetL l hl1 i _) ?_
 rintro _ _ ⟨rfl, rfl⟩
 rcases find_of (l := l) (i := i) with ⟨e, _⟩ | ⟨k, e, hk, hid, _⟩
 ·have hA : backA l i j = (l, 2) := by unfold backA; rw [e]; exact if_pos (.inl (by decide))
  rw [getA_no e, hA]
  simp only [getV, lay, wk3, wk, iaddrV_map, seval]
  refine CT_ok (rgetL l hl1 j _) ?_
  rintro _ _ ⟨rfl, rfl⟩
  cases getA l j with
  | none =>
    simp only [getV, lay, wk3, wk, iaddrV_map, seval]
    exact KWk_bare (by simp [bare, bareL, asets]) ⟨rfl, rfl⟩
  | some s =>
    simp only [getV, cellD, aset, lay, wk3, wk, iaddrV_map, seval]
    exact KWk_bare (by simp [bare, bareL, asets]) ⟨rfl, rfl⟩
 rw [getA_of e]
 simp only [getV, cellD, aset, lay, wk3, wk, iaddrV_map, seval]
 refine CT_ok (rgetL l hl1 j _) ?_
 rintro _ _ ⟨rfl, rfl⟩
 rcases find_of (l := l) (i := j) with ⟨e', _⟩ | ⟨m, e', hm, hid', _⟩
 ·have hA : backA l i j = (l, 2) := by unfold backA; rw [e']; exact if_pos (.inr (by decide))
  rw [getA_no e', hA]
  simp only [getV, lay, wk3, wk, iaddrV_map, seval]
  exact KWk_bare (by simp [bare, bareL, asets]) ⟨rfl, rfl⟩
 rw [getA_of e']
 simp only [getV, cellD, aset, lay, wk3, wk, iaddrV_map, seval]
 have hB : backA l i j = if (l.getD k default).kind ≠ 1 ∨ (l.getD m default).kind ≠ 2 ∨ (l.getD m default).origin ≠ i then (l, 1) else if 0 ≤ idxA (laterA i j) l then (l, 10) else (l.set k { (l.getD k default) with files := (l.getD m default).files }, 0) := by
  unfold backA
  rw [e, e', if_neg (by omega), Int.toNat_natCast, Int.toNat_natCast]
 by_cases h1 : (l.getD k default).kind = 1
 case neg =>
  rw [if_pos (.inl h1)] at hB
  simp only [h1, hB, lay, wk3, wk, iaddrV_map, seval]
  exact KWk_bare (by simp [bare, bareL, asets]) ⟨rfl, rfl⟩
 by_cases h2 : (l.getD m default).kind = 2
 case neg =>
  rw [if_pos (.inr (.inl h2))] at hB
  simp only [h1, h2, hB, lay, wk3, wk, iaddrV_map, seval]
  exact KWk_bare (by simp [bare, bareL, asets]) ⟨rfl, rfl⟩
 by_cases h3 : (l.getD m default).origin = i
 case neg =>
  rw [if_pos (.inr (.inr h3))] at hB
  simp only [h1, h2, h3, hB, lay, wk3, wk, iaddrV_map, seval]
  exact KWk_bare (by simp [bare, bareL, asets]) ⟨rfl, rfl⟩
 rw [if_neg (fun hh => by rcases hh with hh | hh | hh <;> exact hh (by assumption))] at hB
 simp only [h1, h2, h3, lay, wk3, wk, iaddrV_map, seval]
 refine WT_loop (W_wk (fr' := [asets l, .int .i64 i, .int .i64 j, .top, .top, .top, .emp, .int .i64 0, .ptr 0 0 0 1, .bool true, .ptr 1 0 0 1, .bool true, .int .i64 0] ++ List.replicate 78 .top) (Wk_obj2 (renO_one _ ⟨(l.getD k default).id, 1, (l.getD k default).origin, (l.getD k default).quota, (l.getD k default).files⟩) (renO_one _ ⟨(l.getD m default).id, 2, i, (l.getD m default).quota, (l.getD m default).files⟩) ?_) (W_loop (fun n fr H' => ∃ x : Nat, x ≤ l.length ∧ n = l.length - x ∧ (∀ y, y < x → laterA i j (l.getD y default) = false) ∧ H' = [some [cellD ⟨(l.getD k default).id, 1, (l.getD k default).origin, (l.getD k default).quota, (l.getD k default).files⟩], some [cellD ⟨(l.getD m default).id, 2, i, (l.getD m default).quota, (l.getD m default).files⟩]] ∧
  fr = [asets l, .int .i64 i, .int .i64 j, .top, .top, .top, .emp, .int .i64 0, .ptr 0 0 0 1, .bool true, .ptr 1 0 0 1, .bool true, .int .i64 x] ++ List.replicate 78 .top) l.length ⟨0, by omega, rfl, fun y hy => by omega, rfl, rfl⟩ ?_))
 ·simp only [asets, upTo, renL, ren, List.replicate_succ, List.replicate_zero, List.cons_append, List.nil_append, Tops_top, Tops_same, Tops_nil, show (0 : Nat) < 2 by omega, show (1 : Nat) < 2 by omega, if_true]
 rintro n fr H' ⟨x, hx, rfl, hn, rfl, rfl⟩
 refine WT_ok ?_
 simp only [asets, lay, slicelV_own, slicelV_fz, onLive_some, RT_slicel, RE_slicel, slice3V_eq, room3_some, roomOf_own, roomOf_fz, RT_slice3, RT_calld, apI_some, clC_some, clearV_own, clearV_fz, wk3, wk, iaddrV_map, seval]
 refine guard_both ?_ ?_ <;> intro h <;> simp only [hy] at h
 ·have hx2 : x < l.length := by omega
  have w2 : IntKind.i64.wrap ((x : Int) + 1) = (x : Int) + 1 := IntWalk.i64_in _ (by omega)
  have h0 : (0 : Int) ≤ x := by omega
  have e5 : (pdset (l.getD x default)).length = 5 := rfl
  simp only [h, h0, e5, iaddr_dset, pdset, lay, slicelV_own, slicelV_fz, onLive_some, RT_slicel, RE_slicel, slice3V_eq, room3_some, roomOf_own, roomOf_fz, RT_slice3, RT_calld, apI_some, clC_some, clearV_own, clearV_fz, wk3, wk, iaddrV_map, seval]
  by_cases g1 : (l.getD x default).kind = 2
  case neg =>
   simp only [g1, w2, lay, slicelV_own, slicelV_fz, onLive_some, RT_slicel, RE_slicel, slice3V_eq, room3_some, roomOf_own, roomOf_fz, RT_slice3, RT_calld, apI_some, clC_some, clearV_own, clearV_fz, wk3, wk, iaddrV_map, seval]
   refine QLoop_go (n' := l.length - (x + 1)) (by omega) ⟨x + 1, by omega, rfl, fun y hy => ?_, rfl, rfl⟩ ?_
   ·rcases Nat.lt_or_ge y x with h' | h'
    ·exact hn y h'
    ·have : y = x := by omega
     subst this
     unfold laterA
     simp only [g1, decide_false, Bool.false_and, Bool.and_false, Bool.not_false, if_false]
   ·simp only [asets, List.replicate_succ, List.replicate_zero, List.cons_append, List.nil_append, Tops_top, Tops_same, Tops_nil, Int.natCast_add, Int.natCast_one]
  by_cases g2 : (l.getD x default).origin = i
  case neg =>
   simp only [g1, g2, h0, h, e5, iaddr_dset, pdset, w2, lay, slicelV_own, slicelV_fz, onLive_some, RT_slicel, RE_slicel, slice3V_eq, room3_some, roomOf_own, roomOf_fz, RT_slice3, RT_calld, apI_some, clC_some, clearV_own, clearV_fz, wk3, wk, iaddrV_map, seval]
   refine QLoop_go (n' := l.length - (x + 1)) (by omega) ⟨x + 1, by omega, rfl, fun y hy => ?_, rfl, rfl⟩ ?_
   ·rcases Nat.lt_or_ge y x with h' | h'
    ·exact hn y h'
    ·have : y = x := by omega
     subst this
     unfold laterA
     simp only [g2, decide_false, Bool.false_and, Bool.and_false, Bool.not_false, if_false]
   ·simp only [asets, List.replicate_succ, List.replicate_zero, List.cons_append, List.nil_append, Tops_top, Tops_same, Tops_nil, Int.natCast_add, Int.natCast_one]
  by_cases g3 : j < (l.getD x default).id
  case neg =>
   simp only [g1, g2, g3, h0, h, e5, iaddr_dset, pdset, w2, lay, slicelV_own, slicelV_fz, onLive_some, RT_slicel, RE_slicel, slice3V_eq, room3_some, roomOf_own, roomOf_fz, RT_slice3, RT_calld, apI_some, clC_some, clearV_own, clearV_fz, wk3, wk, iaddrV_map, seval]
   refine QLoop_go (n' := l.length - (x + 1)) (by omega) ⟨x + 1, by omega, rfl, fun y hy => ?_, rfl, rfl⟩ ?_
   ·rcases Nat.lt_or_ge y x with h' | h'
    ·exact hn y h'
    ·have : y = x := by omega
     subst this
     unfold laterA
     simp only [g3, decide_false, Bool.false_and, Bool.and_false, Bool.not_false, if_false]
   ·simp only [asets, List.replicate_succ, List.replicate_zero, List.cons_append, List.nil_append, Tops_top, Tops_same, Tops_nil, Int.natCast_add, Int.natCast_one]
  have hI : idxA (laterA i j) l = x := idxA_some hx2 (by unfold laterA; simp only [g1, g2, g3, decide_true, Bool.and_true]) hn
  rw [hI, if_pos (by omega)] at hB
  simp only [g1, g2, g3, h0, h, e5, iaddr_dset, pdset, hB, lay, slicelV_own, slicelV_fz, onLive_some, RT_slicel, RE_slicel, slice3V_eq, room3_some, roomOf_own, roomOf_fz, RT_slice3, RT_calld, apI_some, clC_some, clearV_own, clearV_fz, wk3, wk, iaddrV_map, seval]
  exact KWk_bare (by simp [bare, bareL]) ⟨rfl, rfl⟩
 ·have hI : idxA (laterA i j) l = -1 := idxA_none fun y hy => hn y (by omega)
  rw [hI, if_neg (by decide)] at hB
  simp only [h, cellsD, rows5D, lay, slicelV_own, slicelV_fz, onLive_some, RT_slicel, RE_slicel, slice3V_eq, room3_some, roomOf_own, roomOf_fz, RT_slice3, RT_calld, apI_some, clC_some, clearV_own, clearV_fz, wk3, wk, iaddrV_map, seval]
  refine ⟨⟨by omega, by omega⟩, ?_⟩
  refine WT_drawE ?_
  refine WDT_more 0 ?_
  simp only [cellD, aset, lay, slicelV_own, slicelV_fz, onLive_some, RT_slicel, RE_slicel, slice3V_eq, room3_some, roomOf_own, roomOf_fz, RT_slice3, RT_calld, apI_some, clC_some, clearV_own, clearV_fz, wk3, wk, iaddrV_map, seval]
  refine CFT_pure (x := .int .i64 (findA l i)) rfl rfl (rat85 l hl1 i []) (by simp) ?_
  have k0 : (0 : Int) ≤ k := by omega
  have k1 : (k : Int) < l.length := by omega
  have hc := cell_at hk
  simp only [e, k0, k1, hc, cellD, aset, lay, slicelV_own, slicelV_fz, onLive_some, RT_slicel, RE_slicel, slice3V_eq, room3_some, roomOf_own, roomOf_fz, RT_slice3, RT_calld, apI_some, clC_some, clearV_own, clearV_fz, wk3, wk, iaddrV_map, seval]
  refine ⟨by rfl, ?_⟩
  rw [hB]
  exact KWk_sets 2 (l.set k _) 0 _ (by simp) (by rw [List.map_set]; rfl) ⟨rfl, rfl⟩
end Go.Proofs.YtemjlopoffjmpaaGreat.Abs
set_option linter.unusedSimpArgs false
set_option linter.unusedVariables false
namespace Go.Proofs.YtemjlopoffjmpaaGreat.Abs
open Go Go.Proofs
def notA (i : Int) (d : Dset) : Bool := !decide (d.id = i)
def hgB (l : List Dset) (i : Int) : Bool := l.any fun d => decide (d.origin = i)
theorem take_filter (p : Dset → Bool) (l : List Dset) (k : Nat) (h : k < l.length) : (l.take (k + 1)).filter p = (l.take k).filter p ++ if p (l.getD k default) then [l.getD k default] else [] := by
 rw [List.take_add_one, List.getElem?_eq_getElem h, List.filter_append]
 simp only [List.getD_eq_getElem?_getD, List.getElem?_eq_getElem h, Option.getD_some, Option.toList_some, List.filter_cons, List.filter_nil]
theorem hgB_take (l : List Dset) (i : Int) (k : Nat) (h : k < l.length) : hgB (l.take (k + 1)) i = (hgB (l.take k) i || decide ((l.getD k default).origin = i)) := by
 unfold hgB
 rw [List.take_add_one, List.getElem?_eq_getElem h, List.any_append]
 simp only [List.getD_eq_getElem?_getD, List.getElem?_eq_getElem h, Option.getD_some, Option.toList_some, List.any_cons, List.any_nil, Bool.or_false]
def destR (l : List Dset) (i : Int) : List Dset × Int := match getA l i with
 | none => (l, 2)
 | some d => if hgB l i = true ∨ (d.kind = 1 ∧ livesA l = 1) then (l, 10) else (l.filter (notA i), 0)
theorem rdestroy0 (l : List Dset) (hl : Short l) (i : Int) : C Tryz.prog 75 [asets l, .int .i64 i] [] (fun y H' => y = outA (destR l i) ∧ H' = []) := by
 have hl1 := hl.1
 refine C_body' d75 rfl (WT_ok ?_)
 unfold c75
 simp only [lay, wk3, wk, iaddrV_map, seval]
 refine CT_ok (rgetL l hl1 i _) ?_
 rintro _ _ ⟨rfl, rfl⟩
 cases hg : getA l i with
 | none =>
   have hA : destR l i = (l, 2) := by unfold destR; rw [hg]
   rw [hA]
   simp only [getV, lay, wk3, wk, iaddrV_map, seval]
   exact KWk_bare (by simp [bare, bareL, asets]) ⟨rfl, rfl⟩
 | some d =>
 have hB : destR l i = if hgB l i = true ∨ (d.kind = 1 ∧ livesA l = 1) then (l, 10) else (l.filter (notA i), 0) := by unfold destR; rw [hg]
 simp only [getV, cellD, aset, lay, wk3, wk, iaddrV_map, seval]
 refine WT_loop (W_wk (fr' := [asets l, .int .i64 i, .top, .top, .emp, .int .i64 0, .ptr 0 0 0 1, .bool true, .int .i64 0, .bool false, .own 1 5 0 0 0, .int .i64 0] ++ List.replicate 59 .top) (H' := [some [cellD d], some []]) ((Wk_empAt 10 5 rfl).trans (Wk_tops ?_)) (W_loop (fun n fr H' => ∃ x : Nat, x ≤ l.length ∧ n = l.length - x ∧ H' = [some [cellD d], some (((l.take x).filter (notA i)).map cellD)] ∧
  fr = [asets l, .int .i64 i, .top, .top, .emp, .int .i64 0, .ptr 0 0 0 1, .bool true, .int .i64 (livesA (l.take x)), .bool (hgB (l.take x) i), .own 1 5 0 ((l.take x).filter (notA i)).length ((l.take x).filter (notA i)).length, .int .i64 x] ++ List.replicate 59 .top) l.length ⟨0, by omega, rfl, rfl, rfl⟩ ?_))
 ·simp only [asets, List.replicate_succ, List.replicate_zero, List.cons_append, List.nil_append, List.set_cons_succ, List.set_cons_zero, List.length_cons, List.length_nil, Nat.zero_add, Tops_top, Tops_same, Tops_nil]
 rintro n fr H' ⟨x, hx, rfl, rfl, rfl⟩
 refine WT_ok ?_
 simp only [asets, lay, slicelV_own, slicelV_fz, onLive_some, RT_slicel, RE_slicel, slice3V_eq, room3_some, roomOf_own, roomOf_fz, RT_slice3, RT_calld, apI_some, clC_some, clearV_own, clearV_fz, wk3, wk, iaddrV_map, seval]
 refine guard_both ?_ ?_ <;> intro h <;> simp only [hy] at h
 ·have hx2 : x < l.length := by omega
  have w2 : IntKind.i64.wrap ((x : Int) + 1) = (x : Int) + 1 := IntWalk.i64_in _ (by omega)
  have h0 : (0 : Int) ≤ x := by omega
  have e5 : (pdset (l.getD x default)).length = 5 := rfl
  have ht := livesA_take l x hx2
  have hu := hgB_take l i x hx2
  have hf := take_filter (notA i) l x hx2
  have hle := livesA_le (l.take x)
  have hfl := List.length_filter_le (notA i) (l.take x)
  have hle2 : (l.take x).length ≤ l.length := by simp; omega
  have w3 : IntKind.i64.wrap ((livesA (l.take x) : Int) + 1) = ((livesA (l.take x) + 1 : Nat) : Int) := by rw [IntWalk.i64_in _ (by omega)]; omega
  simp only [h, h0, e5, iaddr_dset, pdset, lay, slicelV_own, slicelV_fz, onLive_some, RT_slicel, RE_slicel, slice3V_eq, room3_some, roomOf_own, roomOf_fz, RT_slice3, RT_calld, apI_some, clC_some, clearV_own, clearV_fz, wk3, wk, iaddrV_map, seval]
  have ec : ∀ p : notA i (l.getD x default) = true, ((l.take (x + 1)).filter (notA i)).map cellD = ((l.take x).filter (notA i)).map cellD ++ [cellD (l.getD x default)] := fun p => by rw [hf, if_pos p, List.map_append]; rfl
  have en : ∀ p : ¬ notA i (l.getD x default) = true, (l.take (x + 1)).filter (notA i) = (l.take x).filter (notA i) := fun p => by rw [hf, if_neg p, List.append_nil]
  by_cases c1 : (l.getD x default).kind = 1
  ·rw [if_pos c1] at ht
   cases hb : hgB (l.take x) i
   ·rw [hb] at hu
    by_cases c2 : (l.getD x default).origin = i
    ·skip
     by_cases c3 : (l.getD x default).id = i
     ·have hno : ¬ notA i (l.getD x default) = true := by unfold notA; rw [c3]; simp
      rw [en hno] at hf
      simp only [h, h0, c1, hb, c3, w2, w3, e5, iaddr_dset, pdset, cellD, aset, c2, lay, slicelV_own, slicelV_fz, onLive_some, RT_slicel, RE_slicel, slice3V_eq, room3_some, roomOf_own, roomOf_fz, RT_slice3, RT_calld, apI_some, clC_some, clearV_own, clearV_fz, wk3, wk, iaddrV_map, seval]
      refine QLoop_wk (n' := l.length - (x + 1)) (by omega) ⟨x + 1, by omega, rfl, (by rw [en hno]), rfl⟩ (Wk_obj2 (renO_one _ d) (renO_cells _ ((l.take x).filter (notA i))) ?_)
      simp only [ht, hu, en hno, c2, renL, ren, asets, upTo, show (0 : Nat) < 2 by omega, show (1 : Nat) < 2 by omega, if_true, List.replicate_succ, List.replicate_zero, List.cons_append, List.nil_append, Tops_top, Tops_same, Tops_nil, Int.natCast_add, Int.natCast_one, List.length_append, List.length_cons, List.length_nil, Nat.zero_add, Bool.or_true, Bool.true_or, Bool.or_false, Bool.false_or, decide_true, decide_false]
     ·have hno : notA i (l.getD x default) = true := by unfold notA; rw [decide_eq_false c3]; rfl
      have ec2 := ec hno
      simp only [cellD, aset, c1, c2] at ec2
      simp only [h, h0, c1, hb, c3, w2, w3, e5, iaddr_dset, pdset, cellD, aset, c2, lay, slicelV_own, slicelV_fz, onLive_some, RT_slicel, RE_slicel, slice3V_eq, room3_some, roomOf_own, roomOf_fz, RT_slice3, RT_calld, apI_some, clC_some, clearV_own, clearV_fz, wk3, wk, iaddrV_map, seval]
      refine ⟨⟨by omega, by omega⟩, ?_⟩
      refine QLoop_wk (n' := l.length - (x + 1)) (by omega) ⟨x + 1, by omega, rfl, (by rw [ec2]), rfl⟩ (Wk_obj2 (renO_one _ d) (by have := renO_cells (upTo 2) ((l.take (x + 1)).filter (notA i)); rw [ec2] at this; exact this) ?_)
      rw [if_pos hno] at hf
      simp only [ht, hu, hf, c2, renL, ren, asets, upTo, show (0 : Nat) < 2 by omega, show (1 : Nat) < 2 by omega, if_true, List.replicate_succ, List.replicate_zero, List.cons_append, List.nil_append, Tops_top, Tops_same, Tops_nil, Int.natCast_add, Int.natCast_one, List.length_append, List.length_cons, List.length_nil, Nat.zero_add, Bool.or_true, Bool.true_or, Bool.or_false, Bool.false_or, decide_true, decide_false]
    ·skip
     by_cases c3 : (l.getD x default).id = i
     ·have hno : ¬ notA i (l.getD x default) = true := by unfold notA; rw [c3]; simp
      rw [en hno] at hf
      simp only [h, h0, c1, hb, c3, w2, w3, e5, iaddr_dset, pdset, cellD, aset, c2, lay, slicelV_own, slicelV_fz, onLive_some, RT_slicel, RE_slicel, slice3V_eq, room3_some, roomOf_own, roomOf_fz, RT_slice3, RT_calld, apI_some, clC_some, clearV_own, clearV_fz, wk3, wk, iaddrV_map, seval]
      refine QLoop_wk (n' := l.length - (x + 1)) (by omega) ⟨x + 1, by omega, rfl, (by rw [en hno]), rfl⟩ (Wk_obj2 (renO_one _ d) (renO_cells _ ((l.take x).filter (notA i))) ?_)
      simp only [ht, hu, en hno, c2, renL, ren, asets, upTo, show (0 : Nat) < 2 by omega, show (1 : Nat) < 2 by omega, if_true, List.replicate_succ, List.replicate_zero, List.cons_append, List.nil_append, Tops_top, Tops_same, Tops_nil, Int.natCast_add, Int.natCast_one, List.length_append, List.length_cons, List.length_nil, Nat.zero_add, Bool.or_true, Bool.true_or, Bool.or_false, Bool.false_or, decide_true, decide_false]
     ·have hno : notA i (l.getD x default) = true := by unfold notA; rw [decide_eq_false c3]; rfl
      have ec2 := ec hno
      simp only [cellD, aset, c1, c2] at ec2
      simp only [h, h0, c1, hb, c3, w2, w3, e5, iaddr_dset, pdset, cellD, aset, c2, lay, slicelV_own, slicelV_fz, onLive_some, RT_slicel, RE_slicel, slice3V_eq, room3_some, roomOf_own, roomOf_fz, RT_slice3, RT_calld, apI_some, clC_some, clearV_own, clearV_fz, wk3, wk, iaddrV_map, seval]
      refine ⟨⟨by omega, by omega⟩, ?_⟩
      refine QLoop_wk (n' := l.length - (x + 1)) (by omega) ⟨x + 1, by omega, rfl, (by rw [ec2]), rfl⟩ (Wk_obj2 (renO_one _ d) (by have := renO_cells (upTo 2) ((l.take (x + 1)).filter (notA i)); rw [ec2] at this; exact this) ?_)
      rw [if_pos hno] at hf
      simp only [ht, hu, hf, c2, renL, ren, asets, upTo, show (0 : Nat) < 2 by omega, show (1 : Nat) < 2 by omega, if_true, List.replicate_succ, List.replicate_zero, List.cons_append, List.nil_append, Tops_top, Tops_same, Tops_nil, Int.natCast_add, Int.natCast_one, List.length_append, List.length_cons, List.length_nil, Nat.zero_add, Bool.or_true, Bool.true_or, Bool.or_false, Bool.false_or, decide_true, decide_false]
   ·rw [hb] at hu
    by_cases c3 : (l.getD x default).id = i
    ·have hno : ¬ notA i (l.getD x default) = true := by unfold notA; rw [c3]; simp
     rw [en hno] at hf
     simp only [h, h0, c1, hb, c3, w2, w3, e5, iaddr_dset, pdset, cellD, aset, lay, slicelV_own, slicelV_fz, onLive_some, RT_slicel, RE_slicel, slice3V_eq, room3_some, roomOf_own, roomOf_fz, RT_slice3, RT_calld, apI_some, clC_some, clearV_own, clearV_fz, wk3, wk, iaddrV_map, seval]
     refine QLoop_wk (n' := l.length - (x + 1)) (by omega) ⟨x + 1, by omega, rfl, (by rw [en hno]), rfl⟩ (Wk_obj2 (renO_one _ d) (renO_cells _ ((l.take x).filter (notA i))) ?_)
     simp only [ht, hu, en hno, renL, ren, asets, upTo, show (0 : Nat) < 2 by omega, show (1 : Nat) < 2 by omega, if_true, List.replicate_succ, List.replicate_zero, List.cons_append, List.nil_append, Tops_top, Tops_same, Tops_nil, Int.natCast_add, Int.natCast_one, List.length_append, List.length_cons, List.length_nil, Nat.zero_add, Bool.or_true, Bool.true_or, Bool.or_false, Bool.false_or, decide_true, decide_false]
    ·have hno : notA i (l.getD x default) = true := by unfold notA; rw [decide_eq_false c3]; rfl
     have ec2 := ec hno
     simp only [cellD, aset, c1] at ec2
     simp only [h, h0, c1, hb, c3, w2, w3, e5, iaddr_dset, pdset, cellD, aset, lay, slicelV_own, slicelV_fz, onLive_some, RT_slicel, RE_slicel, slice3V_eq, room3_some, roomOf_own, roomOf_fz, RT_slice3, RT_calld, apI_some, clC_some, clearV_own, clearV_fz, wk3, wk, iaddrV_map, seval]
     refine ⟨⟨by omega, by omega⟩, ?_⟩
     refine QLoop_wk (n' := l.length - (x + 1)) (by omega) ⟨x + 1, by omega, rfl, (by rw [ec2]), rfl⟩ (Wk_obj2 (renO_one _ d) (by have := renO_cells (upTo 2) ((l.take (x + 1)).filter (notA i)); rw [ec2] at this; exact this) ?_)
     rw [if_pos hno] at hf
     simp only [ht, hu, hf, renL, ren, asets, upTo, show (0 : Nat) < 2 by omega, show (1 : Nat) < 2 by omega, if_true, List.replicate_succ, List.replicate_zero, List.cons_append, List.nil_append, Tops_top, Tops_same, Tops_nil, Int.natCast_add, Int.natCast_one, List.length_append, List.length_cons, List.length_nil, Nat.zero_add, Bool.or_true, Bool.true_or, Bool.or_false, Bool.false_or, decide_true, decide_false]
  ·replace ht : livesA (l.take (x + 1)) = livesA (l.take x) := by rw [ht, if_neg c1]; rfl
   cases hb : hgB (l.take x) i
   ·rw [hb] at hu
    by_cases c2 : (l.getD x default).origin = i
    ·skip
     by_cases c3 : (l.getD x default).id = i
     ·have hno : ¬ notA i (l.getD x default) = true := by unfold notA; rw [c3]; simp
      rw [en hno] at hf
      simp only [h, h0, c1, hb, c3, w2, w3, e5, iaddr_dset, pdset, cellD, aset, c2, lay, slicelV_own, slicelV_fz, onLive_some, RT_slicel, RE_slicel, slice3V_eq, room3_some, roomOf_own, roomOf_fz, RT_slice3, RT_calld, apI_some, clC_some, clearV_own, clearV_fz, wk3, wk, iaddrV_map, seval]
      refine QLoop_wk (n' := l.length - (x + 1)) (by omega) ⟨x + 1, by omega, rfl, (by rw [en hno]), rfl⟩ (Wk_obj2 (renO_one _ d) (renO_cells _ ((l.take x).filter (notA i))) ?_)
      simp only [ht, hu, en hno, c2, renL, ren, asets, upTo, show (0 : Nat) < 2 by omega, show (1 : Nat) < 2 by omega, if_true, List.replicate_succ, List.replicate_zero, List.cons_append, List.nil_append, Tops_top, Tops_same, Tops_nil, Int.natCast_add, Int.natCast_one, List.length_append, List.length_cons, List.length_nil, Nat.zero_add, Bool.or_true, Bool.true_or, Bool.or_false, Bool.false_or, decide_true, decide_false]
     ·have hno : notA i (l.getD x default) = true := by unfold notA; rw [decide_eq_false c3]; rfl
      have ec2 := ec hno
      simp only [cellD, aset, c1, c2] at ec2
      simp only [h, h0, c1, hb, c3, w2, w3, e5, iaddr_dset, pdset, cellD, aset, c2, lay, slicelV_own, slicelV_fz, onLive_some, RT_slicel, RE_slicel, slice3V_eq, room3_some, roomOf_own, roomOf_fz, RT_slice3, RT_calld, apI_some, clC_some, clearV_own, clearV_fz, wk3, wk, iaddrV_map, seval]
      refine ⟨⟨by omega, by omega⟩, ?_⟩
      refine QLoop_wk (n' := l.length - (x + 1)) (by omega) ⟨x + 1, by omega, rfl, (by rw [ec2]), rfl⟩ (Wk_obj2 (renO_one _ d) (by have := renO_cells (upTo 2) ((l.take (x + 1)).filter (notA i)); rw [ec2] at this; exact this) ?_)
      rw [if_pos hno] at hf
      simp only [ht, hu, hf, c2, renL, ren, asets, upTo, show (0 : Nat) < 2 by omega, show (1 : Nat) < 2 by omega, if_true, List.replicate_succ, List.replicate_zero, List.cons_append, List.nil_append, Tops_top, Tops_same, Tops_nil, Int.natCast_add, Int.natCast_one, List.length_append, List.length_cons, List.length_nil, Nat.zero_add, Bool.or_true, Bool.true_or, Bool.or_false, Bool.false_or, decide_true, decide_false]
    ·skip
     by_cases c3 : (l.getD x default).id = i
     ·have hno : ¬ notA i (l.getD x default) = true := by unfold notA; rw [c3]; simp
      rw [en hno] at hf
      simp only [h, h0, c1, hb, c3, w2, w3, e5, iaddr_dset, pdset, cellD, aset, c2, lay, slicelV_own, slicelV_fz, onLive_some, RT_slicel, RE_slicel, slice3V_eq, room3_some, roomOf_own, roomOf_fz, RT_slice3, RT_calld, apI_some, clC_some, clearV_own, clearV_fz, wk3, wk, iaddrV_map, seval]
      refine QLoop_wk (n' := l.length - (x + 1)) (by omega) ⟨x + 1, by omega, rfl, (by rw [en hno]), rfl⟩ (Wk_obj2 (renO_one _ d) (renO_cells _ ((l.take x).filter (notA i))) ?_)
      simp only [ht, hu, en hno, c2, renL, ren, asets, upTo, show (0 : Nat) < 2 by omega, show (1 : Nat) < 2 by omega, if_true, List.replicate_succ, List.replicate_zero, List.cons_append, List.nil_append, Tops_top, Tops_same, Tops_nil, Int.natCast_add, Int.natCast_one, List.length_append, List.length_cons, List.length_nil, Nat.zero_add, Bool.or_true, Bool.true_or, Bool.or_false, Bool.false_or, decide_true, decide_false]
     ·have hno : notA i (l.getD x default) = true := by unfold notA; rw [decide_eq_false c3]; rfl
      have ec2 := ec hno
      simp only [cellD, aset, c1, c2] at ec2
      simp only [h, h0, c1, hb, c3, w2, w3, e5, iaddr_dset, pdset, cellD, aset, c2, lay, slicelV_own, slicelV_fz, onLive_some, RT_slicel, RE_slicel, slice3V_eq, room3_some, roomOf_own, roomOf_fz, RT_slice3, RT_calld, apI_some, clC_some, clearV_own, clearV_fz, wk3, wk, iaddrV_map, seval]
      refine ⟨⟨by omega, by omega⟩, ?_⟩
      refine QLoop_wk (n' := l.length - (x + 1)) (by omega) ⟨x + 1, by omega, rfl, (by rw [ec2]), rfl⟩ (Wk_obj2 (renO_one _ d) (by have := renO_cells (upTo 2) ((l.take (x + 1)).filter (notA i)); rw [ec2] at this; exact this) ?_)
      rw [if_pos hno] at hf
      simp only [ht, hu, hf, c2, renL, ren, asets, upTo, show (0 : Nat) < 2 by omega, show (1 : Nat) < 2 by omega, if_true, List.replicate_succ, List.replicate_zero, List.cons_append, List.nil_append, Tops_top, Tops_same, Tops_nil, Int.natCast_add, Int.natCast_one, List.length_append, List.length_cons, List.length_nil, Nat.zero_add, Bool.or_true, Bool.true_or, Bool.or_false, Bool.false_or, decide_true, decide_false]
   ·rw [hb] at hu
    by_cases c3 : (l.getD x default).id = i
    ·have hno : ¬ notA i (l.getD x default) = true := by unfold notA; rw [c3]; simp
     rw [en hno] at hf
     simp only [h, h0, c1, hb, c3, w2, w3, e5, iaddr_dset, pdset, cellD, aset, lay, slicelV_own, slicelV_fz, onLive_some, RT_slicel, RE_slicel, slice3V_eq, room3_some, roomOf_own, roomOf_fz, RT_slice3, RT_calld, apI_some, clC_some, clearV_own, clearV_fz, wk3, wk, iaddrV_map, seval]
     refine QLoop_wk (n' := l.length - (x + 1)) (by omega) ⟨x + 1, by omega, rfl, (by rw [en hno]), rfl⟩ (Wk_obj2 (renO_one _ d) (renO_cells _ ((l.take x).filter (notA i))) ?_)
     simp only [ht, hu, en hno, renL, ren, asets, upTo, show (0 : Nat) < 2 by omega, show (1 : Nat) < 2 by omega, if_true, List.replicate_succ, List.replicate_zero, List.cons_append, List.nil_append, Tops_top, Tops_same, Tops_nil, Int.natCast_add, Int.natCast_one, List.length_append, List.length_cons, List.length_nil, Nat.zero_add, Bool.or_true, Bool.true_or, Bool.or_false, Bool.false_or, decide_true, decide_false]
    ·have hno : notA i (l.getD x default) = true := by unfold notA; rw [decide_eq_false c3]; rfl
     have ec2 := ec hno
     simp only [cellD, aset, c1] at ec2
     simp only [h, h0, c1, hb, c3, w2, w3, e5, iaddr_dset, pdset, cellD, aset, lay, slicelV_own, slicelV_fz, onLive_some, RT_slicel, RE_slicel, slice3V_eq, room3_some, roomOf_own, roomOf_fz, RT_slice3, RT_calld, apI_some, clC_some, clearV_own, clearV_fz, wk3, wk, iaddrV_map, seval]
     refine ⟨⟨by omega, by omega⟩, ?_⟩
     refine QLoop_wk (n' := l.length - (x + 1)) (by omega) ⟨x + 1, by omega, rfl, (by rw [ec2]), rfl⟩ (Wk_obj2 (renO_one _ d) (by have := renO_cells (upTo 2) ((l.take (x + 1)).filter (notA i)); rw [ec2] at this; exact this) ?_)
     rw [if_pos hno] at hf
     simp only [ht, hu, hf, renL, ren, asets, upTo, show (0 : Nat) < 2 by omega, show (1 : Nat) < 2 by omega, if_true, List.replicate_succ, List.replicate_zero, List.cons_append, List.nil_append, Tops_top, Tops_same, Tops_nil, Int.natCast_add, Int.natCast_one, List.length_append, List.length_cons, List.length_nil, Nat.zero_add, Bool.or_true, Bool.true_or, Bool.or_false, Bool.false_or, decide_true, decide_false]
 ·have : x = l.length := by omega
  subst this
  have hl2 : l.take l.length = l := List.take_length
  have fin : ∀ hne : ¬ (hgB l i = true ∨ (d.kind = 1 ∧ livesA l = 1)), KWk 0 (fun y H' => y = outA (destR l i) ∧ H' = []) (.tuple [.own 1 5 0 (l.filter (notA i)).length (l.filter (notA i)).length, .int .i64 0]) [some [cellD d], some ((l.filter (notA i)).map cellD)] := fun hne => by
   rw [if_neg hne] at hB
   rw [hB]
   exact KWk_sets 1 (l.filter (notA i)) 0 _ rfl rfl ⟨rfl, rfl⟩
  simp only [cellD, aset] at fin
  simp only [h, hl2, cellD, aset, lay, slicelV_own, slicelV_fz, onLive_some, RT_slicel, RE_slicel, slice3V_eq, room3_some, roomOf_own, roomOf_fz, RT_slice3, RT_calld, apI_some, clC_some, clearV_own, clearV_fz, wk3, wk, iaddrV_map, seval]
  cases hb : hgB l i
  ·by_cases c1 : d.kind = 1
   ·by_cases c2 : (livesA l : Int) = 1
    ·rw [if_pos (.inr ⟨c1, by omega⟩)] at hB
     simp only [hb, c1, c2, hB, lay, slicelV_own, slicelV_fz, onLive_some, RT_slicel, RE_slicel, slice3V_eq, room3_some, roomOf_own, roomOf_fz, RT_slice3, RT_calld, apI_some, clC_some, clearV_own, clearV_fz, wk3, wk, iaddrV_map, seval]
     exact KWk_bare (by simp [bare, bareL]) ⟨rfl, rfl⟩
    ·replace fin := fin (by rw [hb]; intro hh; rcases hh with hh | hh; cases hh; omega)
     rw [c1] at fin
     simp only [hb, c1, c2, lay, slicelV_own, slicelV_fz, onLive_some, RT_slicel, RE_slicel, slice3V_eq, room3_some, roomOf_own, roomOf_fz, RT_slice3, RT_calld, apI_some, clC_some, clearV_own, clearV_fz, wk3, wk, iaddrV_map, seval]
     exact fin
   ·replace fin := fin (by rw [hb]; intro hh; rcases hh with hh | hh; cases hh; exact c1 hh.1)
    simp only [hb, c1, lay, slicelV_own, slicelV_fz, onLive_some, RT_slicel, RE_slicel, slice3V_eq, room3_some, roomOf_own, roomOf_fz, RT_slice3, RT_calld, apI_some, clC_some, clearV_own, clearV_fz, wk3, wk, iaddrV_map, seval]
    exact fin
  ·rw [if_pos (.inl hb)] at hB
   simp only [hb, hB, lay, slicelV_own, slicelV_fz, onLive_some, RT_slicel, RE_slicel, slice3V_eq, room3_some, roomOf_own, roomOf_fz, RT_slice3, RT_calld, apI_some, clC_some, clearV_own, clearV_fz, wk3, wk, iaddrV_map, seval]
   exact KWk_bare (by simp [bare, bareL]) ⟨rfl, rfl⟩
end Go.Proofs.YtemjlopoffjmpaaGreat.Abs
set_option linter.unusedSimpArgs false
set_option linter.unusedVariables false
namespace Go.Proofs.YtemjlopoffjmpaaGreat.Abs
open Go Go.Proofs
def proR (i sid oid oo : Int) (y : Dset) : Dset :=
 reorig y (if y.id = oid then sid else if y.id = i then oo else if y.kind = 2 ∧ y.origin = oid ∧ y.id ≤ sid then i else y.origin)
theorem proR_eq {c o s x : Dset} (hx : x.id = c.id → x.kind = 1) (hx2 : x.id = o.id → x.kind = 1) (hne : c.id ≠ o.id) (hso : s.origin = o.id) : proF c o s x = proR c.id s.id o.id o.origin x := by
 unfold proF proR turnA
 rw [hso]
 by_cases h1 : x.id = c.id
 ·rw [if_pos h1, if_neg (fun e => hne (h1.symm.trans e)), if_pos h1]
 ·rw [if_neg h1]
  by_cases h2 : x.id = o.id
  ·rw [if_pos h2, if_pos h2]
  ·rw [if_neg h2, if_neg h2, if_neg h1]
   split
   ·rfl
   ·rfl
theorem promote_facts {l : List Dset} (h : MayL l) (i : Int) : (promoteA l i = (l, 2) ∧ getA l i = none) ∨ ∃ c, getA l i = some c ∧ (((c.kind ≠ 1 ∨ c.origin = 0) ∧ promoteA l i = (l, 1)) ∨
 (c.kind = 1 ∧ c.origin ≠ 0 ∧ ∃ s o, getA l c.origin = some s ∧ getA l s.origin = some o ∧ promoteA l i = (l.map (proR i s.id o.id o.origin), 0))) := by
 rcases find_of (l := l) (i := i) with ⟨e, _⟩ | ⟨k, e, hk, hid, _⟩
 ·exact .inl ⟨by unfold promoteA; rw [if_pos (by omega)], getA_no e⟩
 refine .inr ⟨_, getA_of e, ?_⟩
 have hP : promoteA l i = if (l.getD k default).kind ≠ 1 ∨ (l.getD k default).origin = 0 then (l, 1) else if findA l (l.getD k default).origin < 0 ∨ isA l (l.getD (findA l (l.getD k default).origin).toNat default).origin 1 = false then (l, 1) else (promoted l i k (findA l (l.getD k default).origin).toNat (findA l (l.getD (findA l (l.getD k default).origin).toNat default).origin).toNat, 0) := by
  unfold promoteA
  rw [if_neg (by omega)]
  simp only [e, Int.toNat_natCast]
 by_cases h2 : (l.getD k default).kind ≠ 1 ∨ (l.getD k default).origin = 0
 ·exact .inl ⟨h2, by rw [hP, if_pos h2]⟩
 rw [if_neg h2] at hP
 have hk1 : (l.getD k default).kind = 1 := Classical.byContradiction fun hh => h2 (.inl hh)
 have hk0 : (l.getD k default).origin ≠ 0 := fun hh => h2 (.inr hh)
 refine .inr ⟨hk1, hk0, ?_⟩
 obtain ⟨x, hx, hxi, hxk⟩ : ∃ o ∈ l, o.id = (l.getD k default).origin ∧ o.kind = 2 := by
  rcases (h.each _ (dgetD_mem hk)).live hk1 with h5 | h5
  ·exact absurd h5 hk0
  ·exact h5
 obtain ⟨_, y, hy, hyi, hyk⟩ := (h.each _ hx).snap hxk
 have gx : getA l (l.getD k default).origin = some x := by rw [← hxi]; exact h.find hx
 have gy : getA l x.origin = some y := by rw [← hyi]; exact h.find hy
 refine ⟨x, y, gx, gy, ?_⟩
 rcases find_of (l := l) (i := (l.getD k default).origin) with ⟨e', _⟩ | ⟨m, e', hm, hid', _⟩
 ·rw [getA_no e'] at gx; cases gx
 rw [getA_of e'] at gx
 have gx' := Option.some.inj gx
 rw [e', Int.toNat_natCast, gx'] at hP
 rcases find_of (l := l) (i := x.origin) with ⟨e2, _⟩ | ⟨o, e2, ho, hoi, _⟩
 ·rw [getA_no e2] at gy; cases gy
 rw [getA_of e2] at gy
 have gy' := Option.some.inj gy
 have h3 : isA l x.origin 1 = true := by
  unfold isA
  rw [e2, Int.toNat_natCast, gy', hyk]
  simp
 rw [e2, Int.toNat_natCast, if_neg (fun hh => hh.elim (fun hh => by omega) (fun hh => by rw [h3] at hh; cases hh))] at hP
 have hne : k ≠ o := by
  intro hko
  obtain ⟨r, hr⟩ := h.tree
  have r1 := hr _ hx _ hy hyi
  have r2 := hr _ (dgetD_mem hk) _ hx hxi
  rw [← gy', ← hko] at r1
  omega
 have hnid : (l.getD k default).id ≠ y.id := by
  intro hh
  rw [← gy'] at hh
  exact hne (h.inj hk ho hh)
 have hpm := promoted_map (ks := m) h hk ho hne hk1 (by rw [gy']; exact hyk)
 rw [hid, gx', gy'] at hpm
 rw [hP, hpm]
 congr 1
 apply List.map_congr_left
 intro z hz
 rw [← hid]
 refine proR_eq (fun e => ?_) (fun e => ?_) hnid hyi.symm
 ·rw [h.inj' hz (dgetD_mem hk) e]; exact hk1
 ·rw [h.inj' hz hy e]; exact hyk
end Go.Proofs.YtemjlopoffjmpaaGreat.Abs
set_option linter.unusedSimpArgs false
set_option linter.unusedVariables false
namespace Go.Proofs.YtemjlopoffjmpaaGreat.Abs
open Go Go.Proofs
theorem row_at {L : List (List AV)} {x : Nat} (h : x < L.length) (r : List AV) : (L.set x r)[x]? = some r := by rw [List.getElem?_set, if_pos rfl, if_pos h]
theorem row_two (L : List (List AV)) (x : Nat) (a b : List AV) : (L.set x a).set x b = L.set x b := by rw [List.set_set]
set_option maxHeartbeats 4000000 in
theorem rpromote0 (l : List Dset) (hM : MayL l) (i : Int) : C Tryz.prog 73 [asets l, .int .i64 i] [] (fun y H' => y = outA (promoteA l i) ∧ H' = []) := by
 have hl := hM.short
 have hl1 := hl.1
 have hp := promote_facts hM i
 refine C_body' d73 rfl (WT_ok ?_)
 unfold c73
 simp only [lay, wk3, wk, iaddrV_map, Nat.reduceAdd, Nat.reduceSub, Nat.reduceMul, Nat.reduceLeDiff, Nat.reduceEqDiff, Nat.reduceBEq, Int.reduceLE, Int.reduceLT, Int.reduceEq, Int.reduceNe, Int.reduceAdd, Int.reduceSub, Int.reduceToNat, Int.reduceNeg, ↓reduceIte, reduceCtorEq]
 refine CT_ok (rgetL l hl1 i _) ?_
 rintro _ _ ⟨rfl, rfl⟩
 rcases hp with ⟨hA, hg⟩ | ⟨c, hg, ⟨hc, hA⟩ | ⟨g1, g2, s, o, gs, go, hA⟩⟩
 ·rw [hg, hA]
  simp only [getV, lay, wk3, wk, iaddrV_map, Nat.reduceAdd, Nat.reduceSub, Nat.reduceMul, Nat.reduceLeDiff, Nat.reduceEqDiff, Nat.reduceBEq, Int.reduceLE, Int.reduceLT, Int.reduceEq, Int.reduceNe, Int.reduceAdd, Int.reduceSub, Int.reduceToNat, Int.reduceNeg, ↓reduceIte, reduceCtorEq]
  exact KWk_bare (by simp [bare, bareL, asets]) ⟨rfl, rfl⟩
 ·rw [hg, hA]
  by_cases g1 : c.kind = 1
  ·have g2 : c.origin = 0 := by rcases hc with hc | hc; exact absurd g1 hc; exact hc
   simp only [getV, cellD, aset, g1, g2, lay, wk3, wk, iaddrV_map, Nat.reduceAdd, Nat.reduceSub, Nat.reduceMul, Nat.reduceLeDiff, Nat.reduceEqDiff, Nat.reduceBEq, Int.reduceLE, Int.reduceLT, Int.reduceEq, Int.reduceNe, Int.reduceAdd, Int.reduceSub, Int.reduceToNat, Int.reduceNeg, ↓reduceIte, reduceCtorEq]
   exact KWk_bare (by simp [bare, bareL, asets]) ⟨rfl, rfl⟩
  ·simp only [getV, cellD, aset, g1, lay, wk3, wk, iaddrV_map, Nat.reduceAdd, Nat.reduceSub, Nat.reduceMul, Nat.reduceLeDiff, Nat.reduceEqDiff, Nat.reduceBEq, Int.reduceLE, Int.reduceLT, Int.reduceEq, Int.reduceNe, Int.reduceAdd, Int.reduceSub, Int.reduceToNat, Int.reduceNeg, ↓reduceIte, reduceCtorEq]
   exact KWk_bare (by simp [bare, bareL, asets]) ⟨rfl, rfl⟩
 rw [hg]
 simp only [getV, cellD, aset, g1, g2, lay, wk3, wk, iaddrV_map, Nat.reduceAdd, Nat.reduceSub, Nat.reduceMul, Nat.reduceLeDiff, Nat.reduceEqDiff, Nat.reduceBEq, Int.reduceLE, Int.reduceLT, Int.reduceEq, Int.reduceNe, Int.reduceAdd, Int.reduceSub, Int.reduceToNat, Int.reduceNeg, ↓reduceIte, reduceCtorEq]
 refine CT_ok (rgetL l hl1 c.origin _) ?_
 rintro _ _ ⟨rfl, rfl⟩
 rw [gs]
 simp only [getV, cellD, aset, lay, wk3, wk, iaddrV_map, Nat.reduceAdd, Nat.reduceSub, Nat.reduceMul, Nat.reduceLeDiff, Nat.reduceEqDiff, Nat.reduceBEq, Int.reduceLE, Int.reduceLT, Int.reduceEq, Int.reduceNe, Int.reduceAdd, Int.reduceSub, Int.reduceToNat, Int.reduceNeg, ↓reduceIte, reduceCtorEq]
 refine CT_ok (rgetL l hl1 s.origin _) ?_
 rintro _ _ ⟨rfl, rfl⟩
 rw [go]
 simp only [getV, cellD, aset, asets, cellsD, rows5D, lay, wk3, wk, iaddrV_map, Nat.reduceAdd, Nat.reduceSub, Nat.reduceMul, Nat.reduceLeDiff, Nat.reduceEqDiff, Nat.reduceBEq, Int.reduceLE, Int.reduceLT, Int.reduceEq, Int.reduceNe, Int.reduceAdd, Int.reduceSub, Int.reduceToNat, Int.reduceNeg, ↓reduceIte, reduceCtorEq]
 refine ⟨⟨by omega, by omega⟩, ?_⟩
 refine WT_loop (W_wk (fr' := [asets l, .int .i64 i, .top, .top, .emp, .int .i64 0, .ptr 0 0 0 1, .bool true, .ptr 1 0 0 1, .bool true, .ptr 2 0 0 1, .bool true, .own 3 5 0 l.length l.length, .int .i64 0] ++ List.replicate 100 .top) (Wk_tops ?_) (W_loop (fun n fr H' => ∃ x : Nat, x ≤ l.length ∧ n = l.length - x ∧ H' = [some [cellD ⟨c.id, 1, c.origin, c.quota, c.files⟩], some [cellD s], some [cellD o], some ((someA (proR i s.id o.id o.origin) l x).map cellD)] ∧
  fr = [asets l, .int .i64 i, .top, .top, .emp, .int .i64 0, .ptr 0 0 0 1, .bool true, .ptr 1 0 0 1, .bool true, .ptr 2 0 0 1, .bool true, .own 3 5 0 l.length l.length, .int .i64 x] ++ List.replicate 100 .top) l.length ⟨0, by omega, rfl, by rw [someA_zero]; rfl, rfl⟩ ?_))
 ·simp only [asets, List.replicate_succ, List.replicate_zero, List.cons_append, List.nil_append, Tops_top, Tops_same, Tops_nil]
 rintro n fr H' ⟨x, hx, rfl, rfl, rfl⟩
 refine WT_ok ?_
 have hsl := someA_len (proR i s.id o.id o.origin) l x (by omega)
 simp only [asets, hsl, cellD, aset, lay, slicelV_own, slicelV_fz, onLive_some, RT_slicel, RE_slicel, slice3V_eq, room3_some, roomOf_own, roomOf_fz, RT_slice3, RT_calld, apI_some, clC_some, clearV_own, clearV_fz, wk3, wk, iaddrV_map, Nat.reduceAdd, Nat.reduceSub, Nat.reduceMul, Nat.reduceLeDiff, Nat.reduceEqDiff, Nat.reduceBEq, Int.reduceLE, Int.reduceLT, Int.reduceEq, Int.reduceNe, Int.reduceAdd, Int.reduceSub, Int.reduceToNat, Int.reduceNeg, ↓reduceIte, reduceCtorEq]
 refine guard_both ?_ ?_ <;> intro h <;> simp only [hy] at h
 ·have hx2 : x < l.length := by omega
  have w2 : IntKind.i64.wrap ((x : Int) + 1) = (x : Int) + 1 := IntWalk.i64_in _ (by omega)
  have h0 : (0 : Int) ≤ x := by omega
  have hcj := cell_at (l := someA (proR i s.id o.id o.origin) l x) (k := x) (by omega)
  have hgj : (someA (proR i s.id o.id o.origin) l x).getD x default = l.getD x default := by rw [someA_getD _ _ _ _ (by omega), if_neg (by omega)]
  have hsu := someA_succ (proR i s.id o.id o.origin) l x hx2
  have hsw := set_cellD (someA (proR i s.id o.id o.origin) l x) x (proR i s.id o.id o.origin (l.getD x default))
  have hsame := cell_same (l := someA (proR i s.id o.id o.origin) l x) (k := x) (by omega)
  rw [hsu] at hsw
  rw [hgj] at hcj hsame
  generalize someA (proR i s.id o.id o.origin) l x = lj at *
  generalize hlj' : someA (proR i s.id o.id o.origin) l (x + 1) = lj' at hsu hsw
  generalize l.getD x default = y at *
  have hrow : ∀ r, ((lj.map cellD).set x r)[x]? = some r := fun r => row_at (by rw [List.length_map]; omega) r
  have hlen : (lj.map cellD).length = l.length := by rw [List.length_map]; omega
  have hlen2 : ∀ r, ((lj.map cellD).set x r).length = l.length := fun r => by rw [List.length_set]; exact hlen
  unfold proR reorig at hsw
  simp only [cellD, aset] at hcj hsw hsame
  rcases Classical.propComplete (y.kind = 2) with p1 | p1
  ·rcases Classical.propComplete (y.origin = o.id) with p2 | p2
   ·rcases Classical.propComplete (y.id ≤ s.id) with p3 | p3
    ·skip
     rcases Classical.propComplete (y.id = i) with p4 | p4 <;> rcases Classical.propComplete (y.id = o.id) with p5 | p5
     all_goals
      simp only [p1, p2, p3, p4, p5, and_true, and_false, and_self, false_and, if_true, if_false] at hsw
      simp only [lay, slicelV_own, slicelV_fz, onLive_some, RT_slicel, RE_slicel, slice3V_eq, room3_some, roomOf_own, roomOf_fz, RT_slice3, RT_calld, apI_some, clC_some, clearV_own, clearV_fz, wk3, wk, iaddrV_map, Nat.reduceAdd, Nat.reduceSub, Nat.reduceMul, Nat.reduceLeDiff, Nat.reduceEqDiff, Nat.reduceBEq, Int.reduceLE, Int.reduceLT, Int.reduceEq, Int.reduceNe, Int.reduceAdd, Int.reduceSub, Int.reduceToNat, Int.reduceNeg, ↓reduceIte, reduceCtorEq]
      refine WT_draw ?_
      simp only [p1, p2, p3, p4, p5, h, h0, hsl, hcj, hrow, row_two, w2, lay, slicelV_own, slicelV_fz, onLive_some, RT_slicel, RE_slicel, slice3V_eq, room3_some, roomOf_own, roomOf_fz, RT_slice3, RT_calld, apI_some, clC_some, clearV_own, clearV_fz, wk3, wk, iaddrV_map, Nat.reduceAdd, Nat.reduceSub, Nat.reduceMul, Nat.reduceLeDiff, Nat.reduceEqDiff, Nat.reduceBEq, Int.reduceLE, Int.reduceLT, Int.reduceEq, Int.reduceNe, Int.reduceAdd, Int.reduceSub, Int.reduceToNat, Int.reduceNeg, ↓reduceIte, reduceCtorEq]
      refine WT_draw ?_
      simp only [p1, p2, p3, p4, p5, h, h0, hsl, hcj, hrow, row_two, w2, lay, slicelV_own, slicelV_fz, onLive_some, RT_slicel, RE_slicel, slice3V_eq, room3_some, roomOf_own, roomOf_fz, RT_slice3, RT_calld, apI_some, clC_some, clearV_own, clearV_fz, wk3, wk, iaddrV_map, Nat.reduceAdd, Nat.reduceSub, Nat.reduceMul, Nat.reduceLeDiff, Nat.reduceEqDiff, Nat.reduceBEq, Int.reduceLE, Int.reduceLT, Int.reduceEq, Int.reduceNe, Int.reduceAdd, Int.reduceSub, Int.reduceToNat, Int.reduceNeg, ↓reduceIte, reduceCtorEq]
      refine QLoop_go (n' := l.length - (x + 1)) (by omega) ⟨x + 1, by omega, rfl, (by first | rw [hlj', ← hsw, hsame] | rw [hlj', ← hsw]), rfl⟩ ?_
      simp only [asets, List.replicate_succ, List.replicate_zero, List.cons_append, List.nil_append, Tops_top, Tops_same, Tops_nil, Int.natCast_add, Int.natCast_one]
    ·skip
     rcases Classical.propComplete (y.id = i) with p4 | p4 <;> rcases Classical.propComplete (y.id = o.id) with p5 | p5
     all_goals
      simp only [p1, p2, p3, p4, p5, and_true, and_false, and_self, false_and, if_true, if_false] at hsw
      simp only [lay, slicelV_own, slicelV_fz, onLive_some, RT_slicel, RE_slicel, slice3V_eq, room3_some, roomOf_own, roomOf_fz, RT_slice3, RT_calld, apI_some, clC_some, clearV_own, clearV_fz, wk3, wk, iaddrV_map, Nat.reduceAdd, Nat.reduceSub, Nat.reduceMul, Nat.reduceLeDiff, Nat.reduceEqDiff, Nat.reduceBEq, Int.reduceLE, Int.reduceLT, Int.reduceEq, Int.reduceNe, Int.reduceAdd, Int.reduceSub, Int.reduceToNat, Int.reduceNeg, ↓reduceIte, reduceCtorEq]
      refine WT_draw ?_
      simp only [p1, p2, p3, p4, p5, h, h0, hsl, hcj, hrow, row_two, w2, lay, slicelV_own, slicelV_fz, onLive_some, RT_slicel, RE_slicel, slice3V_eq, room3_some, roomOf_own, roomOf_fz, RT_slice3, RT_calld, apI_some, clC_some, clearV_own, clearV_fz, wk3, wk, iaddrV_map, Nat.reduceAdd, Nat.reduceSub, Nat.reduceMul, Nat.reduceLeDiff, Nat.reduceEqDiff, Nat.reduceBEq, Int.reduceLE, Int.reduceLT, Int.reduceEq, Int.reduceNe, Int.reduceAdd, Int.reduceSub, Int.reduceToNat, Int.reduceNeg, ↓reduceIte, reduceCtorEq]
      refine WT_draw ?_
      simp only [p1, p2, p3, p4, p5, h, h0, hsl, hcj, hrow, row_two, w2, lay, slicelV_own, slicelV_fz, onLive_some, RT_slicel, RE_slicel, slice3V_eq, room3_some, roomOf_own, roomOf_fz, RT_slice3, RT_calld, apI_some, clC_some, clearV_own, clearV_fz, wk3, wk, iaddrV_map, Nat.reduceAdd, Nat.reduceSub, Nat.reduceMul, Nat.reduceLeDiff, Nat.reduceEqDiff, Nat.reduceBEq, Int.reduceLE, Int.reduceLT, Int.reduceEq, Int.reduceNe, Int.reduceAdd, Int.reduceSub, Int.reduceToNat, Int.reduceNeg, ↓reduceIte, reduceCtorEq]
      refine QLoop_go (n' := l.length - (x + 1)) (by omega) ⟨x + 1, by omega, rfl, (by first | rw [hlj', ← hsw, hsame] | rw [hlj', ← hsw]), rfl⟩ ?_
      simp only [asets, List.replicate_succ, List.replicate_zero, List.cons_append, List.nil_append, Tops_top, Tops_same, Tops_nil, Int.natCast_add, Int.natCast_one]
   ·skip
    rcases Classical.propComplete (y.id = i) with p4 | p4 <;> rcases Classical.propComplete (y.id = o.id) with p5 | p5
    all_goals
     simp only [p1, p2, p4, p5, and_true, and_false, and_self, false_and, if_true, if_false] at hsw
     simp only [lay, slicelV_own, slicelV_fz, onLive_some, RT_slicel, RE_slicel, slice3V_eq, room3_some, roomOf_own, roomOf_fz, RT_slice3, RT_calld, apI_some, clC_some, clearV_own, clearV_fz, wk3, wk, iaddrV_map, Nat.reduceAdd, Nat.reduceSub, Nat.reduceMul, Nat.reduceLeDiff, Nat.reduceEqDiff, Nat.reduceBEq, Int.reduceLE, Int.reduceLT, Int.reduceEq, Int.reduceNe, Int.reduceAdd, Int.reduceSub, Int.reduceToNat, Int.reduceNeg, ↓reduceIte, reduceCtorEq]
     refine WT_draw ?_
     simp only [p1, p2, p4, p5, h, h0, hsl, hcj, hrow, row_two, w2, lay, slicelV_own, slicelV_fz, onLive_some, RT_slicel, RE_slicel, slice3V_eq, room3_some, roomOf_own, roomOf_fz, RT_slice3, RT_calld, apI_some, clC_some, clearV_own, clearV_fz, wk3, wk, iaddrV_map, Nat.reduceAdd, Nat.reduceSub, Nat.reduceMul, Nat.reduceLeDiff, Nat.reduceEqDiff, Nat.reduceBEq, Int.reduceLE, Int.reduceLT, Int.reduceEq, Int.reduceNe, Int.reduceAdd, Int.reduceSub, Int.reduceToNat, Int.reduceNeg, ↓reduceIte, reduceCtorEq]
     refine WT_draw ?_
     simp only [p1, p2, p4, p5, h, h0, hsl, hcj, hrow, row_two, w2, lay, slicelV_own, slicelV_fz, onLive_some, RT_slicel, RE_slicel, slice3V_eq, room3_some, roomOf_own, roomOf_fz, RT_slice3, RT_calld, apI_some, clC_some, clearV_own, clearV_fz, wk3, wk, iaddrV_map, Nat.reduceAdd, Nat.reduceSub, Nat.reduceMul, Nat.reduceLeDiff, Nat.reduceEqDiff, Nat.reduceBEq, Int.reduceLE, Int.reduceLT, Int.reduceEq, Int.reduceNe, Int.reduceAdd, Int.reduceSub, Int.reduceToNat, Int.reduceNeg, ↓reduceIte, reduceCtorEq]
     refine QLoop_go (n' := l.length - (x + 1)) (by omega) ⟨x + 1, by omega, rfl, (by first | rw [hlj', ← hsw, hsame] | rw [hlj', ← hsw]), rfl⟩ ?_
     simp only [asets, List.replicate_succ, List.replicate_zero, List.cons_append, List.nil_append, Tops_top, Tops_same, Tops_nil, Int.natCast_add, Int.natCast_one]
  ·skip
   rcases Classical.propComplete (y.id = i) with p4 | p4 <;> rcases Classical.propComplete (y.id = o.id) with p5 | p5
   all_goals
    simp only [p1, p4, p5, and_true, and_false, and_self, false_and, if_true, if_false] at hsw
    simp only [lay, slicelV_own, slicelV_fz, onLive_some, RT_slicel, RE_slicel, slice3V_eq, room3_some, roomOf_own, roomOf_fz, RT_slice3, RT_calld, apI_some, clC_some, clearV_own, clearV_fz, wk3, wk, iaddrV_map, Nat.reduceAdd, Nat.reduceSub, Nat.reduceMul, Nat.reduceLeDiff, Nat.reduceEqDiff, Nat.reduceBEq, Int.reduceLE, Int.reduceLT, Int.reduceEq, Int.reduceNe, Int.reduceAdd, Int.reduceSub, Int.reduceToNat, Int.reduceNeg, ↓reduceIte, reduceCtorEq]
    refine WT_draw ?_
    simp only [p1, p4, p5, h, h0, hsl, hcj, hrow, row_two, w2, lay, slicelV_own, slicelV_fz, onLive_some, RT_slicel, RE_slicel, slice3V_eq, room3_some, roomOf_own, roomOf_fz, RT_slice3, RT_calld, apI_some, clC_some, clearV_own, clearV_fz, wk3, wk, iaddrV_map, Nat.reduceAdd, Nat.reduceSub, Nat.reduceMul, Nat.reduceLeDiff, Nat.reduceEqDiff, Nat.reduceBEq, Int.reduceLE, Int.reduceLT, Int.reduceEq, Int.reduceNe, Int.reduceAdd, Int.reduceSub, Int.reduceToNat, Int.reduceNeg, ↓reduceIte, reduceCtorEq]
    refine WT_draw ?_
    simp only [p1, p4, p5, h, h0, hsl, hcj, hrow, row_two, w2, lay, slicelV_own, slicelV_fz, onLive_some, RT_slicel, RE_slicel, slice3V_eq, room3_some, roomOf_own, roomOf_fz, RT_slice3, RT_calld, apI_some, clC_some, clearV_own, clearV_fz, wk3, wk, iaddrV_map, Nat.reduceAdd, Nat.reduceSub, Nat.reduceMul, Nat.reduceLeDiff, Nat.reduceEqDiff, Nat.reduceBEq, Int.reduceLE, Int.reduceLT, Int.reduceEq, Int.reduceNe, Int.reduceAdd, Int.reduceSub, Int.reduceToNat, Int.reduceNeg, ↓reduceIte, reduceCtorEq]
    refine QLoop_go (n' := l.length - (x + 1)) (by omega) ⟨x + 1, by omega, rfl, (by first | rw [hlj', ← hsw, hsame] | rw [hlj', ← hsw]), rfl⟩ ?_
    simp only [asets, List.replicate_succ, List.replicate_zero, List.cons_append, List.nil_append, Tops_top, Tops_same, Tops_nil, Int.natCast_add, Int.natCast_one]
 ·have : x = l.length := by omega
  subst this
  simp only [h, someA_all, lay, slicelV_own, slicelV_fz, onLive_some, RT_slicel, RE_slicel, slice3V_eq, room3_some, roomOf_own, roomOf_fz, RT_slice3, RT_calld, apI_some, clC_some, clearV_own, clearV_fz, wk3, wk, iaddrV_map, Nat.reduceAdd, Nat.reduceSub, Nat.reduceMul, Nat.reduceLeDiff, Nat.reduceEqDiff, Nat.reduceBEq, Int.reduceLE, Int.reduceLT, Int.reduceEq, Int.reduceNe, Int.reduceAdd, Int.reduceSub, Int.reduceToNat, Int.reduceNeg, ↓reduceIte, reduceCtorEq]
  rw [hA]
  exact KWk_sets 3 (l.map (proR i s.id o.id o.origin)) 0 _ (by simp) rfl ⟨rfl, rfl⟩
end Go.Proofs.YtemjlopoffjmpaaGreat.Abs
namespace Go.Proofs.YtemjlopoffjmpaaGreat.Abs
open Go
def c70 : ACode :=
 (.seq (.reg [⟨some 6, none, .mv (.c (.emp))⟩,
  ⟨some 7, none, .mv (.c (.int .i64 0))⟩])
 (.seq (.seq (.reg [⟨some 8, none, .mv (.t 2)⟩,
  ⟨some 9, none, .bini .lss (.t 8) (.c (.int .i64 0))⟩,
  ⟨some 10, none, .mv (.t 9)⟩,
  ⟨some 11, (some (10, false)), .mv (.t 2)⟩,
  ⟨some 12, (some (10, false)), .bini .gtr (.t 11) (.c (.int .i64 255))⟩,
  ⟨some 13, none, .pick (.t 10) (.c (.bool true)) (.t 12)⟩])
 (.cond (.t 13)
 (.seq (.reg [⟨some 14, none, .mv (.t 0)⟩,
  ⟨some 6, none, .mv (.t 14)⟩,
  ⟨some 7, none, .mv (.c (.int .i64 1))⟩])
 .ret)
 .skip))
 (.seq (.reg [⟨some 15, none, .mv (.t 0)⟩,
  ⟨some 16, none, .mv (.t 1)⟩,
  ⟨some 17, none, .mv (.t 2)⟩,
  ⟨some 18, none, .call 34 []⟩,
  ⟨some 19, none, .build [.int .i64 0, .int .i64 0, .int .i64 0, .int .i64 0, .emp] [(0, 1, (.t 16)), (1, 1, (.c (.int .i64 1))), (3, 1, (.t 17)), (4, 1, (.t 18))]⟩,
  ⟨some 20, none, .call 108 [(.t 15), (.t 19)]⟩,
  ⟨some 21, none, .ext (.t 20) 0⟩,
  ⟨some 22, none, .ext (.t 20) 1⟩,
  ⟨some 6, none, .mv (.t 21)⟩,
  ⟨some 7, none, .mv (.t 22)⟩])
 .ret)))
theorem d70 : FnD Tryz.prog 70 3 20 [.tmp 6, .tmp 7] c70 := ⟨Tryz.f70, _, Tryz.func70, by kernel_rfl, rfl, rfl, by kernel_rfl, by kernel_rfl⟩
end Go.Proofs.YtemjlopoffjmpaaGreat.Abs
namespace Go.Proofs.YtemjlopoffjmpaaGreat.Abs
open Go
def c71 : ACode :=
 (.seq (.reg [⟨some 6, none, .mv (.c (.emp))⟩,
  ⟨some 7, none, .mv (.c (.int .i64 0))⟩])
 (.seq (.reg [⟨some 11, none, .mv (.t 0)⟩,
  ⟨some 12, none, .mv (.t 2)⟩,
  ⟨some 13, none, .call 30 [(.t 11), (.t 12)]⟩,
  ⟨some 10, none, .mv (.t 13)⟩,
  ⟨some 14, none, .ext (.t 10) 0⟩,
  ⟨some 15, none, .ext (.t 10) 1⟩,
  ⟨some 8, none, .alloc [.int .i64 0, .int .i64 0, .int .i64 0, .int .i64 0, .emp]⟩,
  ⟨none, none, .store 5 (.t 8) (.t 14)⟩,
  ⟨some 9, none, .mv (.t 15)⟩])
 (.seq (.seq (.reg [⟨some 16, none, .mv (.t 9)⟩,
  ⟨some 17, none, .un .not (.t 16)⟩])
 (.cond (.t 17)
 (.seq (.reg [⟨some 18, none, .mv (.t 0)⟩,
  ⟨some 6, none, .mv (.t 18)⟩,
  ⟨some 7, none, .mv (.c (.int .i64 2))⟩])
 .ret)
 .skip))
 (.seq (.seq (.reg [⟨some 19, none, .faddr 1 (.t 8)⟩,
  ⟨some 20, none, .load false 1 (.t 19)⟩,
  ⟨some 21, none, .bini .eql (.t 20) (.c (.int .i64 2))⟩])
 (.cond (.t 21)
 (.seq (.reg [⟨some 22, none, .mv (.t 0)⟩,
  ⟨some 6, none, .mv (.t 22)⟩,
  ⟨some 7, none, .mv (.c (.int .i64 11))⟩])
 .ret)
 .skip))
 (.seq (.reg [⟨some 23, none, .mv (.t 0)⟩,
  ⟨some 24, none, .mv (.t 1)⟩,
  ⟨some 25, none, .mv (.t 2)⟩,
  ⟨some 26, none, .faddr 4 (.t 8)⟩,
  ⟨some 27, none, .load false 1 (.t 26)⟩,
  ⟨some 28, none, .build [.int .i64 0, .int .i64 0, .int .i64 0, .int .i64 0, .emp] [(0, 1, (.t 24)), (1, 1, (.c (.int .i64 2))), (2, 1, (.t 25)), (4, 1, (.t 27))]⟩,
  ⟨some 29, none, .call 108 [(.t 23), (.t 28)]⟩,
  ⟨some 30, none, .ext (.t 29) 0⟩,
  ⟨some 31, none, .ext (.t 29) 1⟩,
  ⟨some 6, none, .mv (.t 30)⟩,
  ⟨some 7, none, .mv (.t 31)⟩])
 .ret)))))
theorem d71 : FnD Tryz.prog 71 3 29 [.tmp 6, .tmp 7] c71 := ⟨Tryz.f71, _, Tryz.func71, by kernel_rfl, rfl, rfl, by kernel_rfl, by kernel_rfl⟩
end Go.Proofs.YtemjlopoffjmpaaGreat.Abs
namespace Go.Proofs.YtemjlopoffjmpaaGreat.Abs
open Go
def c72 : ACode :=
 (.seq (.reg [⟨some 6, none, .mv (.c (.emp))⟩,
  ⟨some 7, none, .mv (.c (.int .i64 0))⟩])
 (.seq (.reg [⟨some 11, none, .mv (.t 0)⟩,
  ⟨some 12, none, .mv (.t 2)⟩,
  ⟨some 13, none, .call 30 [(.t 11), (.t 12)]⟩,
  ⟨some 10, none, .mv (.t 13)⟩,
  ⟨some 14, none, .ext (.t 10) 0⟩,
  ⟨some 15, none, .ext (.t 10) 1⟩,
  ⟨some 8, none, .alloc [.int .i64 0, .int .i64 0, .int .i64 0, .int .i64 0, .emp]⟩,
  ⟨none, none, .store 5 (.t 8) (.t 14)⟩,
  ⟨some 9, none, .mv (.t 15)⟩])
 (.seq (.seq (.reg [⟨some 16, none, .mv (.t 9)⟩,
  ⟨some 17, none, .un .not (.t 16)⟩])
 (.cond (.t 17)
 (.seq (.reg [⟨some 18, none, .mv (.t 0)⟩,
  ⟨some 6, none, .mv (.t 18)⟩,
  ⟨some 7, none, .mv (.c (.int .i64 2))⟩])
 .ret)
 .skip))
 (.seq (.seq (.reg [⟨some 19, none, .faddr 1 (.t 8)⟩,
  ⟨some 20, none, .load false 1 (.t 19)⟩,
  ⟨some 21, none, .bini .neq (.t 20) (.c (.int .i64 2))⟩])
 (.cond (.t 21)
 (.seq (.reg [⟨some 22, none, .mv (.t 0)⟩,
  ⟨some 6, none, .mv (.t 22)⟩,
  ⟨some 7, none, .mv (.c (.int .i64 1))⟩])
 .ret)
 .skip))
 (.seq (.reg [⟨some 23, none, .mv (.t 0)⟩,
  ⟨some 24, none, .mv (.t 1)⟩,
  ⟨some 25, none, .mv (.t 2)⟩,
  ⟨some 26, none, .faddr 4 (.t 8)⟩,
  ⟨some 27, none, .load false 1 (.t 26)⟩,
  ⟨some 28, none, .build [.int .i64 0, .int .i64 0, .int .i64 0, .int .i64 0, .emp] [(0, 1, (.t 24)), (1, 1, (.c (.int .i64 1))), (2, 1, (.t 25)), (4, 1, (.t 27))]⟩,
  ⟨some 29, none, .call 108 [(.t 23), (.t 28)]⟩,
  ⟨some 30, none, .ext (.t 29) 0⟩,
  ⟨some 31, none, .ext (.t 29) 1⟩,
  ⟨some 6, none, .mv (.t 30)⟩,
  ⟨some 7, none, .mv (.t 31)⟩])
 .ret)))))
theorem d72 : FnD Tryz.prog 72 3 29 [.tmp 6, .tmp 7] c72 := ⟨Tryz.f72, _, Tryz.func72, by kernel_rfl, rfl, rfl, by kernel_rfl, by kernel_rfl⟩
end Go.Proofs.YtemjlopoffjmpaaGreat.Abs
namespace Go.Proofs.YtemjlopoffjmpaaGreat.Abs
open Go
def c108 : ACode :=
 (.seq (.reg [⟨some 3, none, .box (.t 1)⟩,
  ⟨some 4, none, .mv (.c (.emp))⟩,
  ⟨some 5, none, .mv (.c (.int .i64 0))⟩])
 (.seq (.seq (.dregE [[(0, ⟨some 6, none, .mv (.t 0)⟩)],
  [(1, ⟨some 7, none, .len false (.t 6)⟩)],
  [(2, ⟨some 8, none, .bini .geq (.t 7) (.c (.int .i64 8))⟩)],
  [(3, ⟨some 9, none, .mv (.t 8)⟩)],
  [(4, ⟨some 10, (some (9, false)), .faddr 0 (.t 3)⟩)],
  [(5, ⟨some 11, (some (9, false)), .load false 1 (.t 10)⟩)],
  [(6, ⟨some 12, (some (9, false)), .bini .lss (.t 11) (.c (.int .i64 1))⟩)],
  [(7, ⟨some 13, none, .pick (.t 9) (.c (.bool true)) (.t 12)⟩)],
  [(8, ⟨some 14, none, .mv (.t 13)⟩)],
  [(9, ⟨some 15, (some (14, false)), .faddr 0 (.t 3)⟩)],
  [(10, ⟨some 16, (some (14, false)), .load false 1 (.t 15)⟩)],
  [(11, ⟨some 17, (some (14, false)), .call 61 [(.t 16)]⟩)],
  [(12, ⟨some 18, (some (14, false)), .un .not (.t 17)⟩)],
  [(13, ⟨some 19, none, .pick (.t 14) (.c (.bool true)) (.t 18)⟩)],
  [(14, ⟨some 20, none, .mv (.t 19)⟩)],
  [(15, ⟨some 21, (some (20, false)), .mv (.t 0)⟩)],
  [(16, ⟨some 22, (some (20, false)), .len false (.t 21)⟩)],
  [(17, ⟨some 23, (some (20, false)), .bini .gtr (.t 22) (.c (.int .i64 0))⟩)],
  [(18, ⟨some 24, (some (20, false)), .mv (.t 23)⟩)],
  [(19, ⟨some 25, (some (24, true)), .mv (.t 0)⟩),
  (20, ⟨some 26, (some (24, true)), .mv (.t 0)⟩),
  (21, ⟨some 27, (some (24, true)), .len false (.t 26)⟩),
  (22, ⟨some 28, (some (24, true)), .bini .sub (.t 27) (.c (.int .i64 1))⟩),
  (23, ⟨some 29, (some (24, true)), .iaddr 5 (.t 25) (.t 28)⟩),
  (24, ⟨some 30, (some (24, true)), .faddr 0 (.t 29)⟩),
  (25, ⟨some 31, (some (24, true)), .load false 1 (.t 30)⟩),
  (26, ⟨some 32, (some (24, true)), .faddr 0 (.t 3)⟩),
  (27, ⟨some 33, (some (24, true)), .load false 1 (.t 32)⟩)],
  [(28, ⟨some 34, (some (24, true)), .bini .geq (.t 31) (.t 33)⟩)],
  [(29, ⟨some 35, (some (20, false)), .pick (.t 24) (.t 34) (.c (.bool false))⟩)],
  [(30, ⟨some 36, none, .pick (.t 20) (.c (.bool true)) (.t 35)⟩)]]
  [[], [0], [0, 1], [0, 1, 2], [0, 1, 2, 3], [0, 1, 2, 3, 4], [0, 1, 2, 3, 4, 5], [0, 1, 2, 3, 4, 5, 6], [0, 1, 2, 3, 4, 5, 6, 7], [0, 1, 2, 3, 4, 5, 6, 7, 8], [0, 1, 2, 3, 4, 5, 6, 7, 8, 9], [0, 1, 2, 3, 4, 5, 6, 7, 8, 9, 10], [0, 1, 2, 3, 4, 5, 6, 7, 8, 9, 10, 11], [0, 1, 2, 3, 4, 5, 6, 7, 8, 9, 10, 11, 12], [0, 1, 2, 3, 4, 5, 6, 7, 8, 9, 10, 11, 12, 13], [0, 1, 2, 3, 4, 5, 6, 7, 8, 9, 10, 11, 12, 13, 14], [0, 1, 2, 3, 4, 5, 6, 7, 8, 9, 10, 11, 12, 13, 14, 15], [0, 1, 2, 3, 4, 5, 6, 7, 8, 9, 10, 11, 12, 13, 14, 15, 16], [0, 1, 2, 3, 4, 5, 6, 7, 8, 9, 10, 11, 12, 13, 14, 15, 16, 17], [0, 1, 2, 3, 4, 5, 6, 7, 8, 9, 10, 11, 12, 13, 14, 15, 16, 17, 18], [0, 1, 2, 3, 4, 5, 6, 7, 8, 9, 10, 11, 12, 13, 14, 15, 16, 17, 18], [0, 1, 2, 3, 4, 5, 6, 7, 8, 9, 10, 11, 12, 13, 14, 15, 16, 17, 18, 20], [0, 1, 2, 3, 4, 5, 6, 7, 8, 9, 10, 11, 12, 13, 14, 15, 16, 17, 18, 20, 21], [0, 1, 2, 3, 4, 5, 6, 7, 8, 9, 10, 11, 12, 13, 14, 15, 16, 17, 18, 19, 20, 21, 22], [0, 1, 2, 3, 4, 5, 6, 7, 8, 9, 10, 11, 12, 13, 14, 15, 16, 17, 18, 19, 20, 21, 22, 23], [0, 1, 2, 3, 4, 5, 6, 7, 8, 9, 10, 11, 12, 13, 14, 15, 16, 17, 18, 19, 20, 21, 22, 23, 24], [0, 1, 2, 3, 4, 5, 6, 7, 8, 9, 10, 11, 12, 13, 14, 15, 16, 17, 18], [0, 1, 2, 3, 4, 5, 6, 7, 8, 9, 10, 11, 12, 13, 14, 15, 16, 17, 18, 26], [0, 1, 2, 3, 4, 5, 6, 7, 8, 9, 10, 11, 12, 13, 14, 15, 16, 17, 18, 19, 20, 21, 22, 23, 24, 25, 26, 27], [0, 1, 2, 3, 4, 5, 6, 7, 8, 9, 10, 11, 12, 13, 14, 15, 16, 17, 18, 19, 20, 21, 22, 23, 24, 25, 26, 27, 28], [0, 1, 2, 3, 4, 5, 6, 7, 8, 9, 10, 11, 12, 13, 14, 15, 16, 17, 18, 19, 20, 21, 22, 23, 24, 25, 26, 27, 28, 29]])
 (.cond (.t 36)
 (.seq (.reg [⟨some 37, none, .mv (.t 0)⟩,
  ⟨some 4, none, .mv (.t 37)⟩,
  ⟨some 5, none, .mv (.c (.int .i64 8))⟩])
 .ret)
 .skip))
 (.seq (.dregE [[(0, ⟨some 38, none, .bslice 5 0 [.int .i64 0, .int .i64 0, .int .i64 0, .int .i64 0, .emp] []⟩),
  (1, ⟨some 39, none, .mv (.t 0)⟩),
  (2, ⟨some 40, none, .append 5 56 [.int .i64 0, .int .i64 0, .int .i64 0, .int .i64 0, .emp] (.t 38) (.t 39)⟩),
  (3, ⟨some 41, none, .load true 5 (.t 3)⟩),
  (4, ⟨some 42, none, .bslice 5 1 [.int .i64 0, .int .i64 0, .int .i64 0, .int .i64 0, .emp] [(0, (.t 41))]⟩)],
  [(5, ⟨some 43, none, .append 5 56 [.int .i64 0, .int .i64 0, .int .i64 0, .int .i64 0, .emp] (.t 40) (.t 42)⟩)],
  [(6, ⟨some 4, none, .mv (.t 43)⟩)],
  [(7, ⟨some 5, none, .mv (.c (.int .i64 0))⟩)]]
  [[], [], [0, 1], [], [3], [0, 1, 2, 3, 4], [0, 1, 2, 3, 4, 5], [0, 1, 2, 3, 4, 5, 6]])
 .ret)))
theorem d108 : FnD Tryz.prog 108 2 42 [.tmp 4, .tmp 5] c108 := ⟨Tryz.f108, _, Tryz.func108, by kernel_rfl, rfl, rfl, by kernel_rfl, by kernel_rfl⟩
end Go.Proofs.YtemjlopoffjmpaaGreat.Abs
