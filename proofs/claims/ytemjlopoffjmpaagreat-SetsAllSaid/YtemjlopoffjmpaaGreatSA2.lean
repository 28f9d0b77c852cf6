/-
  Part 2 of the proof: no condition. (Parts of the abstract layer, of the program's functions in its form, and of their contracts.)
-/
import Derived.Test.YtemjlopoffjmpaaGreatSAWk
import Derived.Test.YtemjlopoffjmpaaGreatSAWk3
import Derived.Test.YtemjlopoffjmpaaGreatSA1
import Derived.Test.YtemjlopoffjmpaaGreatSAAbs36
import Derived.Test.YtemjlopoffjmpaaGreatSAAbs39
import Derived.Test.YtemjlopoffjmpaaGreatSAAbs38
import Derived.Test.YtemjlopoffjmpaaGreatSAAbs27
import Derived.Test.YtemjlopoffjmpaaGreatSAAbs22
import Derived.Test.YtemjlopoffjmpaaGreatProg
import Derived.KernelRfl
set_option linter.unusedSimpArgs false
set_option linter.unusedVariables false
namespace Go.Proofs.YtemjlopoffjmpaaGreat.Abs
open Go Go.Proofs
def PartsC (path : List UInt8) (P : List (List UInt8) → Prop) (B : Prop) : Prop :=
 ∀ H, C Tryz.prog 109 [.str path] H (fun x H' => H' = H ∧ ((∃ l : List (List UInt8), P l ∧ l.length ≤ 7 ∧ x = .tuple [.fz (l.map pname), .bool true]) ∨ (B ∧ x = .tuple [.fz [], .bool false])))
theorem find_spec {path : List UInt8} {P : List (List UInt8) → Prop} {B : Prop} (hp : PartsC path P B) (s : List Node) (hs : s.length ≤ 1000000) (h0s : 0 < s.length) (H : AH) :
 C Tryz.prog 112 [aset s, .str path] H (fun x H' => H' = H ∧ ((∃ l, P l ∧ ∃ k : Nat, k < s.length ∧ downR s l 0 k ∧ x = .tuple [.int .i64 k, .int .i64 0]) ∨ ∃ e : Int, e ≠ 0 ∧ (B ∨ ∃ l, P l ∧ downF s l) ∧ x = .tuple [.int .i64 0, .int .i64 e])) := by
 refine C_body d112 rfl (WT_ok ?_)
 delta c112 I0 I1 I2 I3 I4 I5 I6 I7 I8 I9 KI
 simp only [aset, iaddr_node, pnode, wk3, wk, seval]
 refine CT_ok (hp H) ?_
 rintro _ H ⟨rfl, ⟨l, hl, hlen, rfl⟩ | ⟨hB, rfl⟩⟩
 ·simp only [iaddr_node, pnode, wk3, wk, seval]
  refine CT_ok (down_spec s hs h0s l (by omega) H) ?_
  rintro _ H ⟨rfl, ⟨k, hk, hR, rfl⟩ | ⟨e, he, hF, rfl⟩⟩
  ·simp only [iaddr_node, pnode, wk3, wk, seval]
   exact .inl ⟨l, hl, k, hk, hR, rfl⟩
  ·simp only [iaddr_node, pnode, wk3, wk, seval]
   exact .inr ⟨e, he, .inr ⟨l, hl, hF⟩, rfl⟩
 ·simp only [iaddr_node, pnode, wk3, wk, seval]
  exact .inr ⟨1, by omega, .inl hB, rfl⟩
theorem file_spec {path : List UInt8} {P : List (List UInt8) → Prop} {B : Prop} (hp : PartsC path P B) (s : List Node) (hs : s.length ≤ 1000000) (h0s : 0 < s.length) (H : AH) :
 C Tryz.prog 82 [aset s, .str path] H (fun x H' => H' = H ∧ ((∃ l, P l ∧ ∃ k : Nat, k < s.length ∧ downR s l 0 k ∧ (s.getD k default).kind ≠ 2 ∧ x = .tuple [.int .i64 k, .int .i64 0]) ∨
   ∃ e : Int, e ≠ 0 ∧ (B ∨ (∃ l, P l ∧ downF s l) ∨ ∃ l, P l ∧ ∃ k : Nat, k < s.length ∧ downR s l 0 k ∧ (s.getD k default).kind = 2) ∧ x = .tuple [.int .i64 0, .int .i64 e])) := by
 refine C_body d82 rfl (WT_ok ?_)
 delta c82 I0 I1 I2 I3 I4 I5 I6 I7 I8 I9 KI
 simp only [aset, iaddr_node, pnode, wk3, wk, seval]
 refine CT_ok (find_spec hp s hs h0s H) ?_
 rintro _ H ⟨rfl, ⟨l, hl, k, hk, hR, rfl⟩ | ⟨e, he, hF, rfl⟩⟩
 ·have h1 : (0 : Int) ≤ k := by omega
  have h2 : (k : Int) < s.length := by omega
  simp only [h1, h2, iaddr_node, pnode, wk3, wk, seval]
  refine guard_both ?_ ?_ <;> intro h3 <;> simp only [hy] at h3 <;> simp only [h3, iaddr_node, pnode, wk3, wk, seval]
  ·exact .inr ⟨4, by omega, .inr (.inr ⟨l, hl, k, hk, hR, h3⟩), rfl⟩
  ·exact .inl ⟨l, hl, k, hk, hR, h3, rfl⟩
 ·simp only [he, iaddr_node, pnode, wk3, wk, seval]
  refine .inr ⟨e, he, ?_, rfl⟩
  rcases hF with h | h
  ·exact .inl h
  ·exact .inr (.inl h)
theorem slicel_names (H : AH) (fr : List AV) (l : List (List UInt8)) (x : Opd) (n : Nat) (hn : n ≤ l.length) (h0 : evalA fr x = .fz (l.map pname)) (lo hi : Option Opd) (hlo : bnd (evalA fr) lo 0 n = some 0) (hhi : bnd (evalA fr) hi l.length l.length = some n) :
 aop0 (.slicel 1 x lo hi) (evalA fr) H = some (.fz ((l.take n).map pname)) := by
 simp only [aop0, h0, List.length_map, hhi, hlo, List.drop_zero]
 rw [if_pos, List.map_take]
 rw [List.all_eq_true]
 intro e he
 obtain ⟨y, _, rfl⟩ := List.mem_map.1 (List.mem_of_mem_take he)
 rfl
theorem RT_slicel_names {P : Program} (d : Option Nat) (rest : List AInstr) (K : List AV → AH → Prop) (fr : List AV) (H : AH) (l : List (List UInt8)) (x hi : Opd) (k : IntKind) (n : Nat) (hn : n ≤ l.length) (h0 : evalA fr x = .fz (l.map pname)) (h1 : evalA fr hi = .int k (n : Int)) (t u)
 (h : RT P rest K (setA fr d (.fz ((l.take n).map pname))) H .mk .mk) : RT P (⟨d, none, .slicel 1 x none (some hi)⟩ :: rest) K fr H t u := by
 have e := slicel_names H fr l x n hn h0 none (some hi) rfl (by simp only [bnd, h1, Int.toNat_natCast]; rw [if_pos (by omega)])
 show RA P _ K fr H
 unfold RA
 show onSome (aop (.slicel 1 x none (some hi)) (evalA fr) H) _
 unfold aop
 rw [e]
 exact h
theorem place_spec {path : List UInt8} {P : List (List UInt8) → Prop} {B : Prop} (hp : PartsC path P B) (s : List Node) (hs : s.length ≤ 1000000) (h0s : 0 < s.length) (H : AH) :
 C Tryz.prog 78 [aset s, .str path] H (fun x H' => H' = H ∧ ((∃ l a, P (l ++ [a]) ∧ ∃ k : Nat, k < s.length ∧ downR s l 0 k ∧ (s.getD k default).kind = 2 ∧ x = .tuple [.int .i64 k, .str a, .int .i64 0]) ∨
   ∃ e : Int, e ≠ 0 ∧ x = .tuple [.int .i64 0, .str [], .int .i64 e])) := by
 refine C_body d78 rfl (WT_ok ?_)
 delta c78 I0 I1 I2 I3 I4 I5 I6 I7 I8 I9 KI
 simp only [aset, iaddr_node, pnode, wk3, wk, seval]
 refine CT_ok (hp H) ?_
 rintro _ H ⟨rfl, ⟨l, hl, hlen, rfl⟩ | ⟨hB, rfl⟩⟩
 ·simp only [iaddr_node, pnode, wk3, wk, seval]
  refine guard_both ?_ ?_ <;> intro h3 <;> simp only [hy] at h3
  ·simp only [h3, iaddr_node, pnode, wk3, wk, seval]
   exact .inr ⟨1, by omega, rfl⟩
  ·have hl0 : 0 < l.length := by omega
   have w1 : IntKind.i64.wrap ((l.length : Int) - 1) = ((l.length - 1 : Nat) : Int) := by rw [IntWalk.i64_in _ (by omega)]; omega
   have hsplit : l = l.take (l.length - 1) ++ [l.getD (l.length - 1) default] := by
    rw [List.getD_eq_getElem?_getD, List.getElem?_eq_getElem (by omega), Option.getD_some]
    have := List.take_append_drop (l.length - 1) l
    rw [List.drop_eq_getElem_cons (by omega), List.drop_eq_nil_of_le (by omega)] at this
    exact this.symm
   simp only [h3, w1, iaddr_node, pnode, wk3, wk, seval]
   refine RT_slicel_names _ _ _ _ _ l _ _ _ (l.length - 1) (by omega) rfl rfl _ _ ?_
   simp only [h3, w1, iaddr_node, pnode, wk3, wk, seval]
   refine CT_ok (down_spec s hs h0s (l.take (l.length - 1)) (by simp; omega) H) ?_
   rintro _ H ⟨rfl, ⟨k, hk, hR, rfl⟩ | ⟨e, he, hF, rfl⟩⟩
   ·have h1 : (0 : Int) ≤ k := by omega
    have h2 : (k : Int) < s.length := by omega
    have h2' : ¬ (s.length : Int) ≤ k := by omega
    have h4 : (0 : Int) ≤ ((l.length - 1 : Nat) : Int) := by omega
    have h5 : ((l.length - 1 : Nat) : Int) < l.length := by omega
    simp only [h1, h2, h2', iaddr_node, pnode, wk3, wk, seval]
    refine guard_both ?_ ?_ <;> intro h6 <;> simp only [hy] at h6
    ·simp only [h6, iaddr_node, pnode, wk3, wk, seval]
     exact .inr ⟨5, by omega, rfl⟩
    ·simp only [h6, iaddr_node, pnode, wk3, wk, seval]
     refine WT_draw ?_
     simp only [w1, h4, h5, iaddr_name, pname, iaddr_node, pnode, wk3, wk, seval]
     refine .inl ⟨l.take (l.length - 1), _, ?_, k, hk, hR, by simpa using h6, rfl⟩
     rw [← hsplit]; exact hl
   ·simp only [he, iaddr_node, pnode, wk3, wk, seval]
    exact .inr ⟨e, he, rfl⟩
 ·simp only [iaddr_node, pnode, wk3, wk, seval]
  exact .inr ⟨1, by omega, rfl⟩
end Go.Proofs.YtemjlopoffjmpaaGreat.Abs
set_option linter.unusedSimpArgs false
set_option linter.unusedVariables false
namespace Go.Proofs.YtemjlopoffjmpaaGreat.Abs
open Go Go.Proofs
def itUp (s : List Node) : Nat → Nat → Nat
 | 0, i => i
 | m + 1, i => itUp s m (s.getD i default).up.toNat
theorem itUp_succ (s : List Node) : ∀ (m i : Nat), itUp s (m + 1) i = (s.getD (itUp s m i) default).up.toNat
 | 0, _ => rfl
 | m + 1, i => itUp_succ s m _
theorem itUp_add (s : List Node) : ∀ (m n i : Nat), itUp s (m + n) i = itUp s n (itUp s m i)
 | 0, n, i => by rw [Nat.zero_add]; rfl
 | m + 1, n, i => by rw [show m + 1 + n = (m + n) + 1 by omega]; exact itUp_add s m n _
theorem Wf.up8 {s : List Node} (h : Wf s) {i : Nat} (hi : i < 8) : (s.getD i default).up.toNat < 8 := by have := h.upD i (by have := h.len; omega); omega
theorem Wf.itUp0 {s : List Node} (h : Wf s) : ∀ m, itUp s m 0 = 0
 | 0 => rfl
 | m + 1 => by show itUp s m (s.getD 0 default).up.toNat = 0; rw [h.top]; exact h.itUp0 m
theorem Wf.itUp8 {s : List Node} (h : Wf s) : ∀ (m : Nat) {i : Nat}, i < 8 → itUp s m i < 8
 | 0, _, hi => hi
 | m + 1, _, hi => h.itUp8 m (h.up8 hi)
theorem Wf.upk {s : List Node} (h : Wf s) {i : Nat} (hi : i < 8) (hk : (s.getD i default).kind ≠ 0) : (s.getD (s.getD i default).up.toNat default).kind = 2 := by
 by_cases h0 : i = 0
 ·subst h0; rw [h.top]; exact h.root2
 ·exact (h.ok i (by omega) hi).upf hk
theorem Wf.itUpk {s : List Node} (h : Wf s) : ∀ (m : Nat) {i : Nat}, i < 8 → (s.getD i default).kind ≠ 0 → (s.getD (itUp s m i) default).kind ≠ 0
 | 0, _, _, hk => hk
 | m + 1, _, hi, hk => h.itUpk m (h.up8 hi) (by rw [h.upk hi hk]; decide)
theorem Wf.climb {s : List Node} (h : Wf s) {i : Nat} (hi : i < 8) (hk : (s.getD i default).kind ≠ 0) : itUp s 8 i = 0 := by
 obtain ⟨r0, hr0⟩ := h.tree
 obtain ⟨r, hr8, hr⟩ := rank8 r0 h.len (fun i hi => h.up8 hi) hr0
 have g : ∀ m, itUp s m i = 0 ∨ r (itUp s m i) + m ≤ r i := by
  intro m
  induction m with
  | zero => right; exact Nat.le_refl _
  | succ m ih =>
    rcases ih with ih | ih
    ·left; rw [itUp_succ, ih, h.top]; rfl
    ·by_cases h0 : itUp s m i = 0
     ·left; rw [itUp_succ, h0, h.top]; rfl
     ·right
      rw [itUp_succ]
      have := hr (itUp s m i) (by omega) (h.itUp8 m hi) (h.itUpk m hi hk)
      omega
 rcases g 8 with e | e
 ·exact e
 ·have := hr8 i hi; omega
theorem withA_nat (s : List Node) (n : Nat) (x : Node) : withA s n x = s.set n x := by
 unfold withA
 rw [if_pos (by omega), Int.toNat_natCast]
theorem Wf.kidOf {s : List Node} (h : Wf s) {i : Nat} {n : Int} (h1 : 1 ≤ i) (hi : i < 8) (hk : (s.getD i default).kind ≠ 0) (hu : (s.getD i default).up = n) : kid s n i :=
 ⟨h1, by have := h.len; omega, by rcases (h.ok i h1 hi).kinds with e | e; exact absurd e hk; exact e, hu⟩
theorem make_wf {s : List Node} (h : Wf s) {kind : Int} {up n : Nat} {a : List UInt8} (hup : up < 8) (hk2 : (s.getD up default).kind = 2) (hno : ∀ k, kid s up k → (s.getD k default).name ≠ a) (hn : n < 8) (hn0 : (s.getD n default).kind = 0) (hk : kind = 1 ∨ kind = 2) (ha : mayN a = true) :
 Wf (withA s n ⟨kind, up, a, [], 0⟩) := by
 rw [withA_nat]
 have hn1 : 1 ≤ n := by
  rcases Nat.eq_zero_or_pos n with e | e
  ·subst e; exact absurd hn0 h.root
  ·exact e
 have hk0 : kind ≠ 0 := by omega
 have hne : up ≠ n := by rintro rfl; omega
 have nou : ∀ i, 1 ≤ i → i < 8 → (s.getD i default).kind ≠ 0 → (s.getD i default).up.toNat ≠ n := fun i h1 h8 hki e => by
  have := h.upk h8 hki; rw [e] at this; omega
 obtain ⟨r, hr⟩ := h.tree
 refine h.put hn1 hn (x := ⟨kind, up, a, [], 0⟩) ⟨rfl, .inr hk, fun e => absurd e hk0, fun _ => rfl, fun _ => ha, ⟨by show (0 : Int) ≤ up; omega, by show (up : Int) < 8; omega⟩, fun _ => hk2, by show 0 ≤ 128; omega⟩ (fun _ => .inl hne) (.inr fun i h1 h8 _ hki => nou i h1 h8 hki) ?_ (fun i => if i = n then r up + 1 else r i) ?_ ?_
 ·intro _ i h1 h8 _ hki hu hnm
  exact hno i (h.kidOf h1 h8 hki hu) hnm
 ·intro i h1 h8 hin hki
  show (if _ then _ else _) < (if _ then _ else _)
  rw [if_neg (nou i h1 h8 hki), if_neg hin]
  exact hr i h1 h8 hki
 ·intro _
  show (if (up : Int).toNat = n then r up + 1 else r (up : Int).toNat) < (if n = n then r up + 1 else r n)
  rw [Int.toNat_natCast, if_neg hne, if_pos rfl]
  omega
theorem drop_wf {s : List Node} (h : Wf s) {k : Nat} (hk1 : k ≠ 0) (hk : k < 8) (hno : ∀ i, ¬ kid s k i) : Wf (withA s k ⟨0, 0, [], [], 0⟩) := by
 rw [withA_nat]
 obtain ⟨r, hr⟩ := h.tree
 refine h.put (by omega) hk (x := ⟨0, 0, [], [], 0⟩) ⟨rfl, .inl rfl, fun _ => rfl, fun e => absurd e (by decide), fun e => absurd rfl e, ⟨by decide, by decide⟩, fun e => absurd rfl e, by show 0 ≤ 128; omega⟩ (fun e => absurd rfl e) (.inr fun i h1 h8 _ hki e => ?_) (fun e => absurd rfl e) r (fun i h1 h8 _ hki => hr i h1 h8 hki) (fun e => absurd rfl e)
 have := h.upD i (by have := h.len; omega)
 exact hno i (h.kidOf h1 h8 hki (by omega))
theorem body_wf {s : List Node} (h : Wf s) {k : Nat} (hk : k < 8) (hk2 : (s.getD k default).kind ≠ 2) (hk0 : (s.getD k default).kind ≠ 0) {y : List UInt8} (hy : y.length ≤ 128) : Wf (withA s k ⟨(s.getD k default).kind, (s.getD k default).up, (s.getD k default).name, y, (s.getD k default).bad⟩) := by
 rw [withA_nat]
 have hk1 : k ≠ 0 := by rintro rfl; exact hk2 h.root2
 have o := h.ok k (by omega) hk
 obtain ⟨r, hr⟩ := h.tree
 refine h.put (by omega) hk (x := ⟨(s.getD k default).kind, (s.getD k default).up, (s.getD k default).name, y, (s.getD k default).bad⟩) ⟨o.bad, o.kinds, fun e => absurd e hk0, fun e => absurd e hk2, o.name, o.up, o.upf, hy⟩ (fun _ => .inl fun e => ?_) (.inr fun i h1 h8 _ hki e => ?_) (fun _ i h1 h8 hik hki hu hnm => ?_) r (fun i h1 h8 _ hki => hr i h1 h8 hki) (fun _ => hr k (by omega) hk hk0)
 ·have := h.upk hk hk0
  rw [show (s.getD k default).up.toNat = k from e] at this; exact hk2 this
 ·have := h.upk h8 hki
  rw [e] at this; exact hk2 this
 ·exact hik (h.uniq i k h1 h8 (by omega) hk hki hk0 hu hnm)
open Classical in
theorem move_wf {s : List Node} (h : Wf s) {k up : Nat} {a : List UInt8} (hk1 : k ≠ 0) (hk : k < 8) (hk0 : (s.getD k default).kind ≠ 0) (hup : up < 8) (hk2 : (s.getD up default).kind = 2) (hno : ∀ k, kid s up k → (s.getD k default).name ≠ a) (ha : mayN a = true)
 (hin : ∀ m, itUp s m up ≠ k) : Wf (withA s k ⟨(s.getD k default).kind, up, a, (s.getD k default).body, (s.getD k default).bad⟩) := by
 rw [withA_nat]
 have o := h.ok k (by omega) hk
 have hne : up ≠ k := hin 0
 obtain ⟨r, hr⟩ := h.tree
 refine h.put (by omega) hk (x := ⟨(s.getD k default).kind, up, a, (s.getD k default).body, (s.getD k default).bad⟩) ⟨o.bad, o.kinds, fun e => absurd e hk0, o.fold, fun _ => ha, ⟨by show (0 : Int) ≤ up; omega, by show (up : Int) < 8; omega⟩, fun _ => hk2, o.body⟩ (fun _ => .inl hne) ?_ ?_ (fun i => if (∃ m, itUp s m i = k) then r up + 1 + r i else r i) ?_ ?_
 ·by_cases e : (s.getD k default).kind = 2
  ·exact .inl e
  ·refine .inr fun i h1 h8 _ hki e2 => ?_
   have := h.upk h8 hki
   rw [e2] at this; exact e this
 ·intro _ i h1 h8 _ hki hu hnm
  exact hno i (h.kidOf h1 h8 hki hu) hnm
 ·intro i h1 h8 hik hki
  have hri := hr i h1 h8 hki
  have e : (∃ m, itUp s m (s.getD i default).up.toNat = k) ↔ ∃ m, itUp s m i = k := by
   constructor
   ·rintro ⟨m, hm⟩; exact ⟨m + 1, hm⟩
   ·rintro ⟨m, hm⟩
    cases m with
    | zero => exact absurd hm hik
    | succ m => exact ⟨m, hm⟩
  show (if _ then _ else _) < (if _ then _ else _)
  by_cases g : ∃ m, itUp s m i = k
  ·rw [if_pos (e.2 g), if_pos g]; omega
  ·rw [if_neg (fun h => g (e.1 h)), if_neg g]; exact hri
 ·intro _
  have g : ¬ ∃ m, itUp s m up = k := fun ⟨m, hm⟩ => hin m hm
  show (if ∃ m, itUp s m up = k then _ else r up) < (if _ then _ else _)
  rw [if_neg g, if_pos ⟨0, rfl⟩]; omega
end Go.Proofs.YtemjlopoffjmpaaGreat.Abs
set_option linter.unusedSimpArgs false
set_option linter.unusedVariables false
namespace Go.Proofs.YtemjlopoffjmpaaGreat.Abs
open Go Go.Proofs
theorem there_nat {s : List Node} {n : Nat} (hn : n < s.length) (hk : (s.getD n default).kind ≠ 0) : there s n = true := by
 unfold there
 rw [Bool.and_eq_true]
 exact ⟨decide_eq_true ⟨by omega, by omega⟩, decide_eq_true (by rw [Int.toNat_natCast]; exact hk)⟩
theorem within_spec (s : List Node) (hw : Wf s) (n top : Nat) (hn : n < s.length) (hnk : (s.getD n default).kind ≠ 0) (ht : top < s.length) (htk : (s.getD top default).kind ≠ 0) (H : AH) :
 C Tryz.prog 126 [aset s, .int .i64 n, .int .i64 top] H (fun x H' => ∃ b, x = .bool b ∧ (b = true ↔ ∃ m, itUp s m n = top) ∧ H' = H) := by
 have hlen := hw.len
 have t1 := there_nat hn hnk
 have t2 := there_nat ht htk
 refine C_body d126 rfl (WT_ok ?_)
 delta c126 I0 I1 I2 I3 I4 I5 I6 I7 I8 I9 KI
 simp only [aset, iaddr_node, pnode, wk3, wk, seval]
 refine CT_ok (there_spec s n H) ?_
 rintro _ H ⟨rfl, rfl⟩
 simp only [t1, iaddr_node, pnode, wk3, wk, seval]
 refine CT_ok (there_spec s top H) ?_
 rintro _ H ⟨rfl, rfl⟩
 simp only [t2, iaddr_node, pnode, wk3, wk, seval]
 refine WT_loop (W_wk (fr' := [.fz (s.map pnode), .int .i64 n, .int .i64 top, .top, .top, .top, .bool false, .int .i64 0] ++ List.replicate 33 .top) (Wk_tops ?_) (W_loop (fun nn fr H' => ∃ (k : Nat), k ≤ s.length ∧ nn = s.length - k ∧ (∀ j, j < k → itUp s j n ≠ top ∧ itUp s j n ≠ 0) ∧ H' = H ∧ fr = [.fz (s.map pnode), .int .i64 (itUp s k n : Nat), .int .i64 top, .top, .top, .top, .bool false, .int .i64 k] ++ List.replicate 33 .top) s.length ⟨0, by omega, rfl, fun j hj => by omega, rfl, rfl⟩ ?_))
 ·simp only [tp]
 rintro nn fr H ⟨k, hk, rfl, hj, rfl, rfl⟩
 refine WT_ok ?_
 simp only [iaddr_node, pnode, wk3, wk, seval]
 have ha : itUp s k n < 8 := hw.itUp8 k (by omega)
 have g1 : (0 : Int) ≤ (itUp s k n : Nat) := by omega
 have g2 : ((itUp s k n : Nat) : Int) < s.length := by omega
 have w2 : IntKind.i64.wrap ((k : Int) + 1) = (k : Int) + 1 := IntWalk.i64_in _ (by omega)
 have fin : (itUp s k n = 0 ∨ k = 8) → itUp s k n ≠ top → ¬ ∃ m, itUp s m n = top := by
  rintro h0 h1 ⟨m, hm⟩
  rcases Nat.lt_or_ge m k with h | h
  ·exact (hj m h).1 hm
  ·have e := itUp_add s k (m - k) n
   rw [show k + (m - k) = m by omega, hm] at e
   have z : itUp s k n = 0 := by
    rcases h0 with h0 | h0
    ·exact h0
    ·subst h0; exact hw.climb (by omega) hnk
   rw [z, hw.itUp0] at e
   omega
 refine guard_both ?_ ?_ <;> intro h3 <;> simp only [hy] at h3
 ·simp only [h3, iaddr_node, pnode, wk3, wk, seval]
  refine guard_both ?_ ?_ <;> intro h4 <;> simp only [hy] at h4
  ·simp only [h3, h4, iaddr_node, pnode, wk3, wk, seval]
   refine guard_both ?_ ?_ <;> intro h5 <;> simp only [hy] at h5
   ·simp only [h3, h4, h5, g1, g2, w2, iaddr_node, pnode, wk3, wk, seval]
    have hu := hw.upD (itUp s k n) (by omega)
    refine QLoop_go (n' := s.length - (k + 1)) (by omega) ⟨k + 1, by omega, rfl, fun j h => ?_, rfl, rfl⟩ ?_
    ·rcases Nat.lt_or_ge j k with h' | h'
     ·exact hj j h'
     ·have : j = k := by omega
      subst this
      exact ⟨by omega, by omega⟩
    ·have e : ((itUp s (k + 1) n : Nat) : Int) = (s.getD (itUp s k n) default).up := by rw [itUp_succ]; omega
     simp only [e, tq]
   ·simp only [h3, h4, h5, iaddr_node, pnode, wk3, wk, seval]
    refine ⟨_, rfl, ?_⟩
    have := fin (.inl (by omega)) (by omega)
    simp only [decide_eq_true_eq]
    exact ⟨fun e => absurd (by omega) h4, fun e => absurd e this⟩
  ·simp only [h3, h4, iaddr_node, pnode, wk3, wk, seval]
   exact ⟨_, rfl, ⟨fun _ => ⟨k, by omega⟩, fun _ => by simp⟩⟩
 ·simp only [h3, iaddr_node, pnode, wk3, wk, seval]
  refine ⟨_, rfl, ?_⟩
  simp only [decide_eq_true_eq]
  exact ⟨fun e => ⟨k, by omega⟩, fun e => Classical.byContradiction fun g => fin (.inr (by omega)) (by omega) e⟩
theorem make_spec {path : List UInt8} {P : List (List UInt8) → Prop} {B : Prop} (hp : PartsC path P B) (s : List Node) (hs : s.length ≤ 1000000) (h0s : 0 < s.length) (kind : Int) (H : AH) :
 C Tryz.prog 41 [aset s, .str path, .int .i64 kind] H (fun x H' => H' = H ∧ ((∃ e : Int, e ≠ 0 ∧ x = .tuple [aset s, .int .i64 e]) ∨
   ∃ l a up n, P (l ++ [a]) ∧ up < s.length ∧ downR s l 0 up ∧ (s.getD up default).kind = 2 ∧ (∀ k, kid s up k → (s.getD k default).name ≠ a) ∧ n < s.length ∧ (s.getD n default).kind = 0 ∧ (kind = 1 ∨ kind = 2) ∧ x = .tuple [aset (withA s n ⟨kind, up, a, [], 0⟩), .int .i64 0])) := by
 refine C_body d41 rfl (WT_ok ?_)
 delta c41 I0 I1 I2 I3 I4 I5 I6 I7 I8 I9 KI
 simp only [aset, iaddr_node, pnode, wk3, wk, seval]
 by_cases hk : kind = 1 ∨ kind = 2
 ·rcases hk with rfl | rfl
  all_goals
   simp only [iaddr_node, pnode, wk3, wk, seval]
   refine CT_ok (place_spec hp s hs h0s H) ?_
   rintro _ H ⟨rfl, ⟨l, a, hl, up, hup, hR, hk2, rfl⟩ | ⟨e, he, rfl⟩⟩
   ·simp only [iaddr_node, pnode, wk3, wk, seval]
    refine CT_ok (kid_spec s hs up a H) ?_
    rintro _ H ⟨rfl, ⟨k, hk, hnm, rfl⟩ | ⟨rfl, hno⟩⟩
    ·simp only [iaddr_node, pnode, wk3, wk, seval]
     exact .inl ⟨3, by omega, rfl⟩
    ·simp only [iaddr_node, pnode, wk3, wk, seval]
     refine CT_ok (free_spec s hs H) ?_
     rintro _ H ⟨rfl, ⟨n, hn, hn0, rfl⟩ | rfl⟩
     ·simp only [iaddr_node, pnode, wk3, wk, seval]
      refine CT_ok (with_spec s hs n ⟨_, up, a, [], 0⟩ H) ?_
      rintro _ H ⟨rfl, rfl⟩
      simp only [iaddr_node, pnode, wk3, wk, seval]
      exact .inr ⟨l, a, up, n, hl, hup, hR, hk2, hno, hn, hn0, by simp, rfl⟩
     ·simp only [iaddr_node, pnode, wk3, wk, seval]
      exact .inl ⟨8, by omega, rfl⟩
   ·simp only [he, iaddr_node, pnode, wk3, wk, seval]
    exact .inl ⟨e, he, rfl⟩
 ·have h1 : ¬ kind = 1 := fun e => hk (.inl e)
  have h2 : ¬ kind = 2 := fun e => hk (.inr e)
  simp only [h1, h2, iaddr_node, pnode, wk3, wk, seval]
  exact .inl ⟨1, by omega, rfl⟩
end Go.Proofs.YtemjlopoffjmpaaGreat.Abs
set_option linter.unusedSimpArgs false
set_option linter.unusedVariables false
namespace Go.Proofs.YtemjlopoffjmpaaGreat.Abs
open Go Go.Proofs
def NextW (s : List Node) (x : AV) : Prop := ∃ (t : List Node) (e : Int), Wf t ∧ x = .tuple [aset t, .int .i64 e]
theorem KWk_bare {K : AV → AH → Prop} {x : AV} {H : AH} (hx : bare x = true) (hk : K x []) : KWk 0 K x H := by
 refine ⟨x, [], ?_, hk⟩
 have := Wk_forget (n0 := 0) (fr := [x]) (H := H) 0 (Nat.le_refl _)
 rw [renL_bare _ _ (by simp [bareL, hx])] at this
 simpa [mapH] using this
theorem bare_next (t : List Node) (e : Int) : bare (.tuple [aset t, .int .i64 e]) = true := by simp [bare, bareL, aset]
theorem next_pure {f : FuncId} {args : List AV} {s : List Node} (h : C Tryz.prog f args [] (fun x H' => NextW s x ∧ H' = [])) (ha : bareL args = true) (H : AH) : C Tryz.prog f args H (fun x H' => H' = H ∧ NextW s x) :=
 (C_pure (K0 := fun x => NextW s x) h (fun τ => renL_bare τ _ ha) (by rintro x ⟨t, e, _, rfl⟩ τ; exact ren_bare τ _ (bare_next t e)) H).mono fun x H' h => ⟨h.2, h.1⟩
theorem downR_some {s : List Node} (h : Wf s) : ∀ {l : List (List UInt8)} {k : Nat}, downR s l 0 k → (s.getD k default).kind ≠ 0 := by
 have g : ∀ (l : List (List UInt8)) (a k : Nat), (s.getD a default).kind ≠ 0 → downR s l a k → (s.getD k default).kind ≠ 0 := by
  intro l
  induction l with
  | nil => intro a k ha hR; simp only [downR] at hR; subst hR; exact ha
  | cons x l ih =>
    rintro a k ha ⟨_, m, hm, _, hR⟩
    refine ih m k ?_ hR
    rcases hm.2.2.1 with e | e <;> rw [e] <;> decide
 exact fun {l k} => g l 0 k h.root
theorem drop_spec {path : List UInt8} {P : List (List UInt8) → Prop} {B : Prop} (hp : PartsC path P B) (s : List Node) (hw : Wf s) (H : AH) :
 C Tryz.prog 98 [aset s, .str path] H (fun x H' => H' = H ∧ NextW s x) := by
 have hlen := hw.len
 refine C_body d98 rfl (WT_ok ?_)
 delta c98 I0 I1 I2 I3 I4 I5 I6 I7 I8 I9 KI
 simp only [aset, iaddr_node, pnode, wk3, wk, seval]
 refine CT_ok (find_spec hp s (by omega) (by omega) H) ?_
 rintro _ H ⟨rfl, ⟨l, hl, k, hk, hR, rfl⟩ | ⟨e, he, hF, rfl⟩⟩
 ·simp only [iaddr_node, pnode, wk3, wk, seval]
  refine guard_both ?_ ?_ <;> intro h3 <;> simp only [hy] at h3
  ·simp only [h3, iaddr_node, pnode, wk3, wk, seval]
   exact ⟨s, 4, hw, rfl⟩
  ·simp only [h3, iaddr_node, pnode, wk3, wk, seval]
   refine CT_ok (kids_spec s (by omega) k H) ?_
   rintro _ H ⟨⟨l2, rfl, hl2, hll2⟩, rfl⟩
   simp only [iaddr_node, pnode, wk3, wk, seval]
   refine guard_both ?_ ?_ <;> intro h4 <;> simp only [hy] at h4
   ·simp only [h4, iaddr_node, pnode, wk3, wk, seval]
    exact ⟨s, 6, hw, rfl⟩
   ·simp only [h4, iaddr_node, pnode, wk3, wk, seval]
    refine CT_ok (with_spec s (by omega) k ⟨0, 0, [], [], 0⟩ H) ?_
    rintro _ H ⟨rfl, rfl⟩
    simp only [iaddr_node, pnode, wk3, wk, seval]
    refine ⟨_, 0, drop_wf hw (by omega) (by omega) (fun i hi => ?_), rfl⟩
    have := (hl2 i).2 hi
    have : l2 = [] := by
     have : ¬ 0 < l2.length := by omega
     exact List.eq_nil_of_length_eq_zero (by omega)
    subst this; cases (hl2 i).2 hi
 ·simp only [he, iaddr_node, pnode, wk3, wk, seval]
  exact ⟨s, e, hw, rfl⟩
theorem move_spec0 {path path2 : List UInt8} {P P' : List (List UInt8) → Prop} {B B' : Prop} (hp : PartsC path P B) (hp' : PartsC path2 P' B') (hP : ∀ l, P' l → ∀ x ∈ l, mayN x = true) (s : List Node) (hw : Wf s) :
 C Tryz.prog 99 [aset s, .str path, .str path2] [] (fun x H' => NextW s x ∧ H' = []) := by
 have hlen := hw.len
 refine C_body' d99 rfl (WT_ok ?_)
 delta c99 I0 I1 I2 I3 I4 I5 I6 I7 I8 I9 KI
 simp only [aset, iaddr_node, pnode, wk3, wk, seval]
 refine CT_ok (find_spec hp s (by omega) (by omega) []) ?_
 rintro _ _ ⟨rfl, ⟨l0, hl0, k, hk, hR0, rfl⟩ | ⟨e, he, hF, rfl⟩⟩
 ·simp only [iaddr_node, pnode, wk3, wk, seval]
  refine guard_both ?_ ?_ <;> intro h3 <;> simp only [hy] at h3
  ·simp only [h3, iaddr_node, pnode, wk3, wk, seval]
   exact KWk_bare (bare_next s _) ⟨⟨s, _, hw, rfl⟩, rfl⟩
  ·simp only [h3, iaddr_node, pnode, wk3, wk, seval]
   refine CT_ok (place_spec hp' s (by omega) (by omega) []) ?_
   rintro _ _ ⟨rfl, ⟨l, a, hl, up, hup, hR, hk2, rfl⟩ | ⟨e, he, rfl⟩⟩
   ·simp only [iaddr_node, pnode, wk3, wk, seval]
    have h1 : (0 : Int) ≤ k := by omega
    have h2 : (k : Int) < s.length := by omega
    refine CT_ok (kid_spec s (by omega) up a []) ?_
    rintro _ _ ⟨rfl, ⟨m, hm, hnm, rfl⟩ | ⟨rfl, hno⟩⟩
    ·simp only [iaddr_node, pnode, wk3, wk, seval]
     refine guard_both ?_ ?_ <;> intro h4 <;> simp only [hy] at h4
     ·simp only [h4, iaddr_node, pnode, wk3, wk, seval]
      exact KWk_bare (bare_next s _) ⟨⟨s, _, hw, rfl⟩, rfl⟩
     ·simp only [h4, iaddr_node, pnode, wk3, wk, seval]
      exact KWk_bare (bare_next s _) ⟨⟨s, _, hw, rfl⟩, rfl⟩
    ·simp only [iaddr_node, pnode, wk3, wk, seval]
     refine CT_ok (within_spec s hw up k hup (by omega) hk (downR_some hw hR0) []) ?_
     rintro _ _ ⟨b, rfl, hb, rfl⟩
     simp only [iaddr_node, pnode, wk3, wk, seval]
     cases b
     ·simp only [h1, h2, lay, iaddr_node, pnode, wk3, wk, seval]
      refine CT_ok (with_spec s (by omega) k ⟨(s.getD k default).kind, up, a, (s.getD k default).body, (s.getD k default).bad⟩ _) ?_
      rintro _ _ ⟨rfl, rfl⟩
      simp only [iaddr_node, pnode, wk3, wk, seval]
      have hin : ∀ m, itUp s m up ≠ k := fun m e => by
       have := hb.2 ⟨m, e⟩
       cases this
      exact KWk_bare (bare_next _ _) ⟨⟨_, _, move_wf hw (by omega) (by omega) (downR_some hw hR0) (by omega) hk2 hno (hP _ hl a (by simp)) hin, rfl⟩, rfl⟩
     ·simp only [iaddr_node, pnode, wk3, wk, seval]
      exact KWk_bare (bare_next s _) ⟨⟨s, _, hw, rfl⟩, rfl⟩
   ·simp only [he, iaddr_node, pnode, wk3, wk, seval]
    exact KWk_bare (bare_next s _) ⟨⟨s, _, hw, rfl⟩, rfl⟩
 ·simp only [he, iaddr_node, pnode, wk3, wk, seval]
  exact KWk_bare (bare_next s _) ⟨⟨s, _, hw, rfl⟩, rfl⟩
theorem move_spec {path path2 : List UInt8} {P P' : List (List UInt8) → Prop} {B B' : Prop} (hp : PartsC path P B) (hp' : PartsC path2 P' B') (hP : ∀ l, P' l → ∀ x ∈ l, mayN x = true) (s : List Node) (hw : Wf s) (H : AH) :
 C Tryz.prog 99 [aset s, .str path, .str path2] H (fun x H' => H' = H ∧ NextW s x) := next_pure (move_spec0 hp hp' hP s hw) (by simp [bareL, bare, aset]) H
theorem cut_spec0 {path : List UInt8} {P : List (List UInt8) → Prop} {B : Prop} (hp : PartsC path P B) (s : List Node) (hw : Wf s) (size : Int) :
 C Tryz.prog 100 [aset s, .str path, .int .i64 size] [] (fun x H' => NextW s x ∧ H' = []) := by
 have hlen := hw.len
 refine C_body' d100 rfl (WT_ok ?_)
 delta c100 I0 I1 I2 I3 I4 I5 I6 I7 I8 I9 KI
 simp only [aset, iaddr_node, pnode, wk3, wk, seval]
 refine CT_ok (file_spec hp s (by omega) (by omega) []) ?_
 rintro _ _ ⟨rfl, ⟨l, hl, k, hk, hR, hk2, rfl⟩ | ⟨e, he, hF, rfl⟩⟩
 ·simp only [iaddr_node, pnode, wk3, wk, seval]
  have h1 : (0 : Int) ≤ k := by omega
  have h2 : (k : Int) < s.length := by omega
  refine guard_both ?_ ?_ <;> intro h3 <;> simp only [hy] at h3
  ·simp only [h3, iaddr_node, pnode, wk3, wk, seval]
   exact KWk_bare (bare_next s _) ⟨⟨s, _, hw, rfl⟩, rfl⟩
  ·simp only [h3, iaddr_node, pnode, wk3, wk, seval]
   refine guard_both ?_ ?_ <;> intro h4 <;> simp only [hy] at h4
   ·simp only [h4, iaddr_node, pnode, wk3, wk, seval]
    exact KWk_bare (bare_next s _) ⟨⟨s, _, hw, rfl⟩, rfl⟩
   ·simp only [h1, h2, h4, lay, iaddr_node, pnode, wk3, wk, seval]
    obtain ⟨m, rfl⟩ : ∃ m : Nat, size = m := ⟨size.toNat, by omega⟩
    refine CT_ok (long_spec (s.getD k default).body m (by omega) _) ?_
    rintro _ _ ⟨rfl, rfl⟩
    simp only [lay, iaddr_node, pnode, wk3, wk, seval]
    refine CT_ok (with_spec s (by omega) k ⟨(s.getD k default).kind, (s.getD k default).up, (s.getD k default).name, longA (s.getD k default).body m, (s.getD k default).bad⟩ _) ?_
    rintro _ _ ⟨rfl, rfl⟩
    simp only [iaddr_node, pnode, wk3, wk, seval]
    exact KWk_bare (bare_next _ _) ⟨⟨_, _, body_wf hw (by omega) hk2 (downR_some hw hR) (y := longA (s.getD k default).body m) (by rw [longA_len]; omega), rfl⟩, rfl⟩
 ·simp only [he, iaddr_node, pnode, wk3, wk, seval]
  exact KWk_bare (bare_next s _) ⟨⟨s, _, hw, rfl⟩, rfl⟩
theorem cut_spec {path : List UInt8} {P : List (List UInt8) → Prop} {B : Prop} (hp : PartsC path P B) (s : List Node) (hw : Wf s) (size : Int) (H : AH) :
 C Tryz.prog 100 [aset s, .str path, .int .i64 size] H (fun x H' => H' = H ∧ NextW s x) := next_pure (cut_spec0 hp s hw size) (by simp [bareL, bare, aset]) H
end Go.Proofs.YtemjlopoffjmpaaGreat.Abs
set_option linter.unusedSimpArgs false
set_option linter.unusedVariables false
namespace Go.Proofs.YtemjlopoffjmpaaGreat.Abs
open Go Go.Proofs
def WriteR (P : List (List UInt8) → Prop) (B : Prop) (s : List Node) (off : Int) (text : List UInt8) (x : AV) : Prop :=
 (((B ∨ (∃ l, P l ∧ downF s l) ∨ ∃ l, P l ∧ ∃ k : Nat, k < s.length ∧ downR s l 0 k ∧ (s.getD k default).kind = 2) ∨ off < 0 ∨ 128 < off + text.length) ∧ ∃ e : Int, x = .tuple [aset s, .int .i64 e]) ∨ (text = [] ∧ x = .tuple [aset s, .int .i64 0]) ∨
   ∃ l, P l ∧ ∃ k : Nat, k < s.length ∧ downR s l 0 k ∧ (s.getD k default).kind ≠ 2 ∧ ∃ y, (y.length ≤ 128 ∧ (off = 0 → (s.getD k default).body = [] → y = text)) ∧ x = .tuple [aset (withA s k ⟨(s.getD k default).kind, (s.getD k default).up, (s.getD k default).name, y, (s.getD k default).bad⟩), .int .i64 0]
theorem slicel_own (H : AH) (fr : List AV) (r n : Nat) (x lo : Opd) (k : IntKind) (o : Nat) (ho : o < n) (h0 : evalA fr x = .own r 1 0 n n) (h1 : evalA fr lo = .int k (o : Int)) (hr : (liveO H r n).isSome = true) :
 aop0 (.slicel 1 x (some lo) none) (evalA fr) H = some (.own r 1 o (n - o) n) := by
 obtain ⟨ob, hob⟩ := Option.isSome_iff_exists.1 hr
 have hb : bnd (evalA fr) (some lo) 0 n = some o := by
  simp only [bnd, h1, Int.toNat_natCast]
  rw [if_pos (by omega)]
 have hb2 : bnd (evalA fr) none n (n - 0) = some n := rfl
 simp only [aop0, h0, hob]
 rw [if_pos ⟨Nat.zero_le _, trivial⟩]
 simp only [hb2, hb]
 by_cases h : o = 0
 ·subst h; simp
 ·rw [if_neg h, if_neg (by omega), Nat.zero_add]
theorem RT_slicel_own {P : Program} (d : Option Nat) (rest : List AInstr) (K : List AV → AH → Prop) (fr : List AV) (H : AH) (r n : Nat) (x lo : Opd) (k : IntKind) (o : Nat) (ho : o < n) (h0 : evalA fr x = .own r 1 0 n n) (h1 : evalA fr lo = .int k (o : Int)) (hr : (liveO H r n).isSome = true) (t u)
 (h : RT P rest K (setA fr d (.own r 1 o (n - o) n)) H .mk .mk) : RT P (⟨d, none, .slicel 1 x (some lo) none⟩ :: rest) K fr H t u := by
 have e := slicel_own H fr r n x lo k o ho h0 h1 hr
 show RA P _ K fr H
 unfold RA
 show onSome (aop (.slicel 1 x (some lo) none) (evalA fr) H) _
 unfold aop
 rw [e]
 exact h
def overA (b : List UInt8) (o : Nat) (t : List UInt8) : List UInt8 := b.take o ++ t ++ b.drop (o + t.length)
theorem overA_len (b : List UInt8) (o : Nat) (t : List UInt8) (h : o + t.length ≤ b.length) : (overA b o t).length = b.length := by
 unfold overA; simp only [List.length_append, List.length_take, List.length_drop]; omega
theorem over_cells (b : List UInt8) (o : Nat) (t : List UInt8) : List.take o (b.map fun b => [AV.int .u8 b.toNat]) ++ List.take t.length (t.map fun b => [AV.int .u8 b.toNat]) ++ List.drop (o + t.length) (b.map fun b => [AV.int .u8 b.toNat]) = (overA b o t).map fun b => [AV.int .u8 b.toNat] := by
 unfold overA
 rw [List.take_of_length_le (l := t.map _) (by simp)]
 simp only [List.map_append, List.map_take, List.map_drop]
theorem write_spec0 {path : List UInt8} {P : List (List UInt8) → Prop} {B : Prop} (hp : PartsC path P B) (s : List Node) (hw : Wf s) (off : Int) (text : List UInt8) (htl : text.length < 2 ^ 40) :
 C Tryz.prog 42 [aset s, .str path, .int .i64 off, .str text] [] (fun x H' => WriteR P B s off text x ∧ H' = []) := by
 have hlen := hw.len
 refine C_body' d42 rfl (WT_ok ?_)
 delta c42 I0 I1 I2 I3 I4 I5 I6 I7 I8 I9 KI
 simp only [aset, iaddr_node, pnode, wk3, wk, seval]
 refine CT_ok (file_spec hp s (by omega) (by omega) []) ?_
 rintro _ _ ⟨rfl, ⟨l, hl, k, hk, hR, hk2, rfl⟩ | ⟨e, he, hF, rfl⟩⟩
 ·simp only [iaddr_node, pnode, wk3, wk, seval]
  have h1 : (0 : Int) ≤ k := by omega
  have h2 : (k : Int) < s.length := by omega
  refine guard_both ?_ ?_ <;> intro h3 <;> simp only [hy] at h3
  ·simp only [h3, iaddr_node, pnode, wk3, wk, seval]
   exact KWk_bare (bare_next s _) ⟨.inl ⟨.inr (.inl h3), _, rfl⟩, rfl⟩
  ·simp only [h3, iaddr_node, pnode, wk3, wk, seval]
   by_cases h4 : (128 : Int) < off
   ·simp only [h4, iaddr_node, pnode, wk3, wk, seval]
    exact KWk_bare (bare_next s _) ⟨.inl ⟨.inr (.inr (by omega)), _, rfl⟩, rfl⟩
   ·have w1 : IntKind.i64.wrap ((128 : Int) - off) = 128 - off := IntWalk.i64_in _ (by omega)
    simp only [h4, w1, iaddr_node, pnode, wk3, wk, seval]
    refine guard_both ?_ ?_ <;> intro h5 <;> simp only [hy] at h5
    ·simp only [h5, iaddr_node, pnode, wk3, wk, seval]
     exact KWk_bare (bare_next s _) ⟨.inl ⟨.inr (.inr (by omega)), _, rfl⟩, rfl⟩
    ·simp only [h5, iaddr_node, pnode, wk3, wk, seval]
     refine guard_both ?_ ?_ <;> intro h6 <;> simp only [hy] at h6
     ·simp only [h6, iaddr_node, pnode, wk3, wk, seval]
      subst h6; exact KWk_bare (bare_next s _) ⟨.inr (.inl ⟨rfl, rfl⟩), rfl⟩
     ·obtain ⟨o, rfl⟩ : ∃ m : Nat, off = m := ⟨off.toNat, by omega⟩
      have w2 : IntKind.i64.wrap ((o : Int) + text.length) = ((o + text.length : Nat) : Int) := by rw [IntWalk.i64_in _ (by omega)]; omega
      have hb := hw.bodyD k hk
      simp only [h1, h2, h6, w2, lay, iaddr_node, pnode, wk3, wk, seval]
      rw [show (if ((o + text.length : Nat) : Int) > ((s.getD k default).body.length : Nat) then ((o + text.length : Nat) : Int) else ((s.getD k default).body.length : Nat)) = ((max (s.getD k default).body.length (o + text.length) : Nat) : Int) by split <;> omega]
      generalize hm : max (s.getD k default).body.length (o + text.length) = m
      have hm1 : o + text.length ≤ m := by omega
      have hm2 : m ≤ 128 := by omega
      have htp : 0 < text.length := List.length_pos_iff.2 h6
      refine CT_ok (long_spec (s.getD k default).body m (by omega) _) ?_
      rintro _ _ ⟨rfl, rfl⟩
      simp only [h6, lay, longA_len, iaddr_node, pnode, wk3, wk, seval]
      refine RT_slicel_own _ _ _ _ _ 1 m _ _ _ o (by omega) rfl rfl ?_ _ _ ?_
      ·simp [liveO, AH.at, longA_len]
      simp only [lay, longA_len, iaddr_node, pnode, wk3, wk, seval]
      refine ⟨⟨by omega, by simp⟩, ?_⟩
      rw [← List.length_append, ← List.length_append, show min text.length (m - o) = text.length by omega, over_cells, List.length_map, overA_len _ _ _ (by rw [longA_len]; omega), longA_len]
      simp only [iaddr_node, pnode, wk3, wk, seval]
      rw [List.take_of_length_le (by rw [List.length_map, overA_len _ _ _ (by rw [longA_len]; omega), longA_len]; omega), Option.bind_some, bytesOf_map]
      simp only [lay, iaddr_node, pnode, wk3, wk, seval]
      refine CT_ok (with_spec s (by omega) k ⟨(s.getD k default).kind, (s.getD k default).up, (s.getD k default).name, overA (longA (s.getD k default).body m) o text, (s.getD k default).bad⟩ _) ?_
      rintro _ _ ⟨rfl, rfl⟩
      simp only [iaddr_node, pnode, wk3, wk, seval]
      refine KWk_bare (bare_next _ _) ⟨.inr (.inr ⟨l, hl, k, hk, hR, hk2, overA (longA (s.getD k default).body m) o text, ⟨?_, fun h hb0 => ?_⟩, rfl⟩), rfl⟩
      ·rw [overA_len _ _ _ (by rw [longA_len]; omega), longA_len]; omega
      ·have : o = 0 := by omega
       subst this
       rw [hb0, List.length_nil] at hm
       have : m = text.length := by omega
       subst this
       rw [hb0]
       unfold overA
       rw [Nat.zero_add, List.drop_of_length_le (by rw [longA_len]; exact Nat.le_refl _)]
       simp
 ·simp only [he, iaddr_node, pnode, wk3, wk, seval]
  exact KWk_bare (bare_next s _) ⟨.inl ⟨.inl hF, _, rfl⟩, rfl⟩
theorem WriteR_bare {P : List (List UInt8) → Prop} {B : Prop} {s : List Node} {off : Int} {text : List UInt8} {x : AV} (h : WriteR P B s off text x) : ∃ t e, x = .tuple [aset t, .int .i64 e] := by
 rcases h with ⟨_, e, rfl⟩ | ⟨_, rfl⟩ | ⟨_, _, _, _, _, _, _, _, rfl⟩
 ·exact ⟨_, _, rfl⟩
 ·exact ⟨_, _, rfl⟩
 ·exact ⟨_, _, rfl⟩
theorem write_spec {path : List UInt8} {P : List (List UInt8) → Prop} {B : Prop} (hp : PartsC path P B) (s : List Node) (hw : Wf s) (off : Int) (text : List UInt8) (htl : text.length < 2 ^ 40) (H : AH) :
 C Tryz.prog 42 [aset s, .str path, .int .i64 off, .str text] H (fun x H' => H' = H ∧ WriteR P B s off text x) :=
 (C_pure (K0 := WriteR P B s off text) (write_spec0 hp s hw off text htl) (fun τ => renL_bare τ _ (by simp [bareL, bare, aset])) (by rintro x hx τ; obtain ⟨t, e, rfl⟩ := WriteR_bare hx; exact ren_bare τ _ (bare_next t e)) H).mono fun x H' h => ⟨h.2, h.1⟩
theorem WriteR_next {P : List (List UInt8) → Prop} {B : Prop} {s : List Node} (hw : Wf s) {off : Int} {text : List UInt8} {x : AV} (h : WriteR P B s off text x) : NextW s x := by
 rcases h with ⟨_, e, rfl⟩ | ⟨_, rfl⟩ | ⟨l, _, k, hk, hR, hk2, y, hy, rfl⟩
 ·exact ⟨_, _, hw, rfl⟩
 ·exact ⟨_, _, hw, rfl⟩
 ·exact ⟨_, _, body_wf hw (by have := hw.len; omega) hk2 (downR_some hw hR) hy.1, rfl⟩
end Go.Proofs.YtemjlopoffjmpaaGreat.Abs
set_option linter.unusedSimpArgs false
set_option linter.unusedVariables false
namespace Go.Proofs.YtemjlopoffjmpaaGreat.Abs
open Go Go.Proofs
def cellN (x : List UInt8) : List AV := [.str x]
theorem Wk_strs {fr fr' : List AV} {l : List (List UInt8)} {G : AH} (h : Tops fr' (renL (upTo 1) fr)) : Wk 0 fr (some (l.map cellN) :: G) fr' [some (l.map cellN)] := by
 have h1 := (Wk_forget (n0 := 0) (fr := fr) (H := some (l.map cellN) :: G) 1 (Nat.zero_le _)).trans (Wk_tops h)
 have e : mapH (renL (upTo 1)) ((some (l.map cellN) :: G).take 1) = [some (l.map cellN)] := by
  simp only [List.take_succ_cons, List.take_zero, mapH, List.map_cons, List.map_nil, Option.map_some, List.map_map]
  congr 2
 rwa [e] at h1
theorem KWk_none {K : AV → AH → Prop} {b : Bool} {H : AH} (hk : K (.tuple [.fz [], .bool b]) []) : KWk 0 K (.tuple [.emp, .bool b]) H := by
 have h1 := Wk_forget (n0 := 0) (fr := [.tuple [.emp, .bool b]]) (H := H) 0 (Nat.le_refl _)
 have e : renL (upTo 0) [.tuple [.emp, .bool b]] = [.tuple [.emp, .bool b]] := by simp [renL, ren]
 have e2 : mapH (renL (upTo 0)) (H.take 0) = [] := by simp [mapH]
 rw [e, e2] at h1
 refine ⟨_, [], h1.trans ?_, hk⟩
 intro E w vs hs hr
 refine ⟨E, LeN.refl _ _, hs, hr.1, fun i c u hc hu => ?_⟩
 match i, hc, hu with
 | 0, hc, hu =>
   simp at hc; subst hc
   obtain ⟨ws, rfl, hl, hw⟩ := rep_tuple (hr.2 0 _ u rfl hu)
   refine .tuple _ _ hl fun i c u hc hu => ?_
   match i, hc, hu with
   | 0, hc, hu =>
     simp at hc; subst hc
     obtain ⟨a, rfl⟩ := rep_emp (hw 0 _ u rfl hu)
     exact .pure (x := .fz []) (.fz0 _ _)
   | 1, hc, hu => simp at hc; subst hc; exact hw 1 _ u rfl hu
   | i + 2, hc, _ => simp at hc
 | i + 1, hc, _ => simp at hc
def partsGo : List UInt8 → List UInt8 → List (List UInt8) → Option (List (List UInt8))
 | [], cur, out => if mayN cur = true ∧ out.length < 7 then some (out ++ [cur]) else none
 | c :: r, cur, out => if c = 47 then (if mayN cur = true ∧ out.length < 7 then partsGo r [] (out ++ [cur]) else none) else partsGo r (cur ++ [c]) out
def partsA (path : List UInt8) : Option (List (List UInt8)) := if path = [] then some [] else partsGo path [] []
def partsV : Option (List (List UInt8)) → AV
 | some l => .tuple [.fz (l.map pname), .bool true]
 | none => .tuple [.fz [], .bool false]
theorem partsGo_ok : ∀ (r cur : List UInt8) (out l : List (List UInt8)), partsGo r cur out = some l → (∀ x ∈ out, mayN x = true) → out.length ≤ 7 → (∀ x ∈ l, mayN x = true) ∧ l.length ≤ 7
 | [], cur, out, l, h, ho, hl => by
   unfold partsGo at h
   split at h
   ·rename_i hc
    cases h
    refine ⟨fun x hx => ?_, by simp; omega⟩
    rcases List.mem_append.1 hx with hx | hx
    ·exact ho x hx
    ·rw [List.mem_singleton] at hx; subst hx; exact hc.1
   ·cases h
 | c :: r, cur, out, l, h, ho, hl => by
   unfold partsGo at h
   split at h
   ·split at h
    ·rename_i hc
     refine partsGo_ok r [] _ l h (fun x hx => ?_) (by simp; omega)
     rcases List.mem_append.1 hx with hx | hx
     ·exact ho x hx
     ·rw [List.mem_singleton] at hx; subst hx; exact hc.1
    ·cases h
   ·exact partsGo_ok r _ out l h ho hl
theorem partsA_ok {path : List UInt8} {l : List (List UInt8)} (h : partsA path = some l) : (∀ x ∈ l, mayN x = true) ∧ l.length ≤ 7 := by
 unfold partsA at h
 split at h
 ·cases h; exact ⟨fun x hx => (by cases hx), by simp⟩
 ·exact partsGo_ok _ _ _ _ h (fun x hx => by cases hx) (by simp)
theorem parts_spec0 (path : List UInt8) (hp : path.length ≤ 1000000) :
 C Tryz.prog 109 [.str path] [] (fun x H' => x = partsV (partsA path) ∧ H' = []) := by
 refine C_body' d109 rfl (WT_ok ?_)
 delta c109 I0 I1 I2 I3 I4 I5 I6 I7 I8 I9 KI
 simp only [iaddr_node, pnode, wk3, wk, seval]
 refine guard_both ?_ ?_ <;> intro h0 <;> simp only [hy] at h0
 ·simp only [h0, iaddr_node, pnode, wk3, wk, seval]
  refine KWk_none ⟨?_, rfl⟩
  simp [partsA, partsV]
 ·have hA : partsA path = partsGo path [] [] := by unfold partsA; rw [if_neg h0]
  simp only [h0, iaddr_node, pnode, wk3, wk, seval]
  refine WT_loop (W_wk (Wk_empAt 4 1 rfl) (W_wk (fr' := [.str path, .top, .emp, .bool false, .own 0 1 0 0 0, .int .i64 0, .int .i64 0] ++ List.replicate 39 .top) (Wk_tops ?_) (W_loop (fun nn fr H' => ∃ (i from' : Nat) (l : List (List UInt8)), from' ≤ i ∧ i ≤ path.length + 1 ∧ nn = path.length + 1 - i ∧ l.length ≤ 7 ∧
   (i ≤ path.length → partsA path = partsGo (path.drop i) (List.drop from' (List.take i path)) l) ∧ (i = path.length + 1 → partsA path = some l) ∧ H' = [some (l.map cellN)] ∧
   fr = [.str path, .top, .emp, .bool false, .own 0 1 0 l.length l.length, .int .i64 from', .int .i64 i] ++ List.replicate 39 .top) (path.length + 1) ⟨0, 0, [], by omega, by omega, rfl, by simp, fun _ => hA, fun h => by omega, rfl, rfl⟩ ?_)))
  ·simp only [List.replicate_succ, List.replicate_zero, List.set_cons_succ, List.set_cons_zero, List.cons_append, List.nil_append, List.length_nil, Tops_top, Tops_same, Tops_nil]
  rintro nn fr H' ⟨i, from', l, hfi, hi, rfl, hl, hgo, hend, rfl, rfl⟩
  refine WT_ok ?_
  simp only [iaddr_node, pnode, wk3, wk, seval]
  refine guard_both ?_ ?_ <;> intro h <;> simp only [hy] at h
  ·have g0 : (0 : Int) ≤ i := by omega
   have gf : (0 : Int) ≤ from' := by omega
   have gfi : (from' : Int) ≤ i := by omega
   have w2 : IntKind.i64.wrap ((i : Int) + 1) = ((i + 1 : Nat) : Int) := by rw [IntWalk.i64_in _ (by omega)]; omega
   have hgo' := hgo (by omega)
   generalize hcur : List.drop from' (List.take i path) = cur at hgo'
   by_cases h1 : (i : Int) < path.length
   ·have hil : i < path.length := by omega
    have hd : path.drop i = path[i] :: path.drop (i + 1) := List.drop_eq_getElem_cons hil
    have hgi : path.getD i 0 = path[i] := by rw [List.getD_eq_getElem?_getD, List.getElem?_eq_getElem hil]; rfl
    rw [hd] at hgo'
    unfold partsGo at hgo'
    simp only [h, h1, g0, gf, gfi, hgi, iaddr_node, pnode, wk3, wk, seval]
    refine guard_both ?_ ?_ <;> intro h2 <;> simp only [hy] at h2
    ·have h47 : ¬ path[i] = 47 := by
      intro e; rw [e] at h2; exact h2 rfl
     rw [if_neg h47] at hgo'
     simp only [h, h1, h2, w2, iaddr_node, pnode, wk3, wk, seval]
     refine QLoop_go (n' := path.length + 1 - (i + 1)) (by omega) ⟨i + 1, from', l, by omega, by omega, rfl, hl, fun _ => ?_, fun e => by omega, rfl, rfl⟩ (by simp only [tp])
     rw [hgo', ← hcur, List.take_add_one, List.getElem?_eq_getElem hil, List.drop_append_of_le_length (by simp; omega)]
     rfl
    ·have h47 : path[i] = 47 := by
      have h3 : path[i].toNat = 47 := by omega
      exact UInt8.toNat_inj.1 h3
     rw [if_pos h47] at hgo'
     simp only [h, h1, h2, g0, gf, gfi, hcur, iaddr_node, pnode, wk3, wk, seval]
     refine CT_ok (mayname_spec _ ?_ _) ?_
     ·rw [← hcur]; simp only [List.length_drop, List.length_take]; omega
     rintro _ H ⟨rfl, rfl⟩
     by_cases hm : mayN cur = true
     ·by_cases h3 : (7 : Int) ≤ l.length
      ·rw [if_neg (by omega)] at hgo'
       simp only [h, h1, h2, h3, hm, g0, gf, gfi, iaddr_node, pnode, wk3, wk, seval]
       refine KWk_none ⟨?_, rfl⟩
       rw [hgo']; rfl
      ·rw [if_pos ⟨hm, by omega⟩] at hgo'
       have e : List.map cellN l ++ [[AV.str cur]] = (l ++ [cur]).map cellN := by simp [cellN]
       simp only [h, h1, h2, h3, hm, g0, gf, gfi, w2, hcur, iaddr_node, pnode, wk3, wk, seval]
       rw [e]
       refine ⟨⟨by omega, by omega⟩, ?_⟩
       refine QLoop_wk (n' := path.length + 1 - (i + 1)) (by omega) ⟨i + 1, i + 1, l ++ [cur], by omega, by omega, rfl, by simp; omega, fun _ => ?_, fun e => by omega, rfl, rfl⟩ (Wk_strs ?_)
       ·rw [hgo', show List.drop (i + 1) (List.take (i + 1) path) = [] from List.drop_of_length_le (by simp; omega)]
       ·simp only [List.length_append, List.length_cons, List.length_nil, List.replicate_succ, List.replicate_zero, List.cons_append, List.nil_append, renL, ren, upTo, Nat.zero_add, Nat.zero_lt_one, if_true, Tops_top, Tops_same, Tops_nil]
     ·rw [if_neg (by simp [hm])] at hgo'
      rw [Bool.not_eq_true] at hm
      simp only [h, h1, h2, hm, g0, gf, gfi, iaddr_node, pnode, wk3, wk, seval]
      refine KWk_none ⟨?_, rfl⟩
      rw [hgo']; rfl
   ·have hil : i = path.length := by omega
    rw [List.drop_of_length_le (by omega)] at hgo'
    unfold partsGo at hgo'
    simp only [h, h1, g0, gf, gfi, hcur, iaddr_node, pnode, wk3, wk, seval]
    refine CT_ok (mayname_spec _ ?_ _) ?_
    ·rw [← hcur]; simp only [List.length_drop, List.length_take]; omega
    rintro _ H ⟨rfl, rfl⟩
    by_cases hm : mayN cur = true
    ·by_cases h3 : (7 : Int) ≤ l.length
     ·rw [if_neg (by omega)] at hgo'
      simp only [h, h1, h3, hm, g0, gf, gfi, iaddr_node, pnode, wk3, wk, seval]
      refine KWk_none ⟨?_, rfl⟩
      rw [hgo']; rfl
     ·rw [if_pos ⟨hm, by omega⟩] at hgo'
      have e : List.map cellN l ++ [[AV.str cur]] = (l ++ [cur]).map cellN := by simp [cellN]
      simp only [h, h1, h3, hm, g0, gf, gfi, w2, hcur, iaddr_node, pnode, wk3, wk, seval]
      rw [e]
      refine ⟨⟨by omega, by omega⟩, ?_⟩
      refine QLoop_wk (n' := path.length + 1 - (i + 1)) (by omega) ⟨i + 1, i + 1, l ++ [cur], by omega, by omega, rfl, by simp; omega, fun e => by omega, fun _ => hgo', rfl, rfl⟩ (Wk_strs ?_)
      simp only [List.length_append, List.length_cons, List.length_nil, List.replicate_succ, List.replicate_zero, List.cons_append, List.nil_append, renL, ren, upTo, Nat.zero_add, Nat.zero_lt_one, if_true, Tops_top, Tops_same, Tops_nil]
    ·rw [if_neg (by simp [hm])] at hgo'
     rw [Bool.not_eq_true] at hm
     simp only [h, h1, hm, g0, gf, gfi, iaddr_node, pnode, wk3, wk, seval]
     refine KWk_none ⟨?_, rfl⟩
     rw [hgo']; rfl
  ·have hA2 := hend (by omega)
   simp only [h, iaddr_node, pnode, wk3, wk, seval]
   refine KWk_frozen 0 (l.map pname) ?_ (.tuple [.fz (l.map pname), .bool true]) ?_ ⟨by rw [hA2]; rfl, rfl⟩
   ·simp [AH.at, cellN, pname, emb]
   ·simp only [frzL, frz, renL, ren, if_true, List.length_map, Nat.zero_add, Nat.le_refl, and_self, List.drop_zero]
    rw [List.take_of_length_le (by simp)]
theorem parts_exact (path : List UInt8) (hp : path.length ≤ 1000000) : PartsC path (fun l => partsA path = some l) (partsA path = none) := fun H =>
 (C_pure (K0 := fun x => x = partsV (partsA path)) (parts_spec0 path hp) (fun τ => renL_bare τ _ (by simp [bareL, bare])) (by rintro x rfl τ; cases partsA path <;> exact ren_bare τ _ (by simp [bare, bareL, partsV])) H).mono fun x H' h => ⟨h.2, by
  rw [h.1]
  cases e : partsA path with
  | some l => exact .inl ⟨l, rfl, (partsA_ok e).2, rfl⟩
  | none => exact .inr ⟨rfl, rfl⟩⟩
theorem PartsC.weak {path : List UInt8} {P P' : List (List UInt8) → Prop} {B B' : Prop} (h : PartsC path P B) (hP : ∀ l, P l → P' l) (hB : B → B') : PartsC path P' B' := fun H =>
 (h H).mono fun x H' g => ⟨g.1, g.2.elim (fun ⟨l, h1, h2, h3⟩ => .inl ⟨l, hP l h1, h2, h3⟩) (fun ⟨h1, h2⟩ => .inr ⟨hB h1, h2⟩)⟩
def Names (l : List (List UInt8)) : Prop := ∀ x ∈ l, mayN x = true
theorem parts_loose (path : List UInt8) (hp : path.length ≤ 1000000) : PartsC path Names True := (parts_exact path hp).weak (fun l h => (partsA_ok h).1) (fun _ => trivial)
end Go.Proofs.YtemjlopoffjmpaaGreat.Abs
set_option linter.unusedSimpArgs false
set_option linter.unusedVariables false
namespace Go.Proofs.YtemjlopoffjmpaaGreat.Abs
open Go Go.Proofs
theorem make_next {path : List UInt8} {P : List (List UInt8) → Prop} {B : Prop} (hp : PartsC path P B) (hP : ∀ l, P l → ∀ x ∈ l, mayN x = true) (s : List Node) (hw : Wf s) (kind : Int) (H : AH) :
 C Tryz.prog 41 [aset s, .str path, .int .i64 kind] H (fun x H' => H' = H ∧ NextW s x) := by
 have hlen := hw.len
 refine (make_spec hp s (by omega) (by omega) kind H).mono ?_
 rintro x H' ⟨rfl, ⟨e, _, rfl⟩ | ⟨l, a, up, n, hl, hup, _, hk2, hno, hn, hn0, hk, rfl⟩⟩
 ·exact ⟨rfl, _, _, hw, rfl⟩
 ·exact ⟨rfl, _, _, make_wf hw (by omega) hk2 hno (by omega) hn0 hk (hP _ hl a (by simp)), rfl⟩
theorem write_next {path : List UInt8} {P : List (List UInt8) → Prop} {B : Prop} (hp : PartsC path P B) (s : List Node) (hw : Wf s) (off : Int) (text : List UInt8) (htl : text.length < 2 ^ 40) (H : AH) :
 C Tryz.prog 42 [aset s, .str path, .int .i64 off, .str text] H (fun x H' => H' = H ∧ NextW s x) := (write_spec hp s hw off text htl H).mono fun x H' h => ⟨h.1, WriteR_next hw h.2⟩
end Go.Proofs.YtemjlopoffjmpaaGreat.Abs
set_option linter.unusedSimpArgs false
set_option linter.unusedVariables false
namespace Go.Proofs.YtemjlopoffjmpaaGreat.Abs
open Go Go.Proofs
def editA (k i n : Int) (p q t : List UInt8) : AV := .agg [.int .i64 k, .int .i64 i, .int .i64 n, .int .i64 0, .int .i64 0, .str p, .str q, .str t, .emp]
def EditR (l : List UInt8) (n : Int) (x : AV) (H' : AH) : Prop := ∃ (k i m n' : Int) (p q t : List UInt8), p.length ≤ 1000000 ∧ q.length ≤ 1000000 ∧ t.length ≤ 1000000 ∧ (n ≤ n' ∧ 1 ≤ k ∧ k ≤ 5) ∧ x = editA k i m p q t ∧ H' = picksH l n'
theorem KWk_edit {l : List UInt8} {n k i m n' : Int} {p q t : List UInt8} {R : AH} (hp : p.length ≤ 1000000) (hq : q.length ≤ 1000000) (ht : t.length ≤ 1000000) (hn : n ≤ n' ∧ 1 ≤ k ∧ k ≤ 5) :
 KWk 1 (EditR l n) (.agg [.int .i64 k, .int .i64 i, .int .i64 m, .int .i64 0, .int .i64 0, .str p, .str q, .str t, .emp]) (some [[.fz (l.map pbyte), .int .i64 n']] :: R) := by
 refine ⟨_, _, ?_, k, i, m, n', p, q, t, hp, hq, ht, hn, rfl, rfl⟩
 have h := Wk_forget (n0 := 1) (fr := [editA k i m p q t]) (H := some [[.fz (l.map pbyte), .int .i64 n']] :: R) 1 (Nat.le_refl _)
 simpa [mapH, renL, ren, editA, picksH] using h
theorem path_at (l : List UInt8) (n : Int) (hn : 0 ≤ n) (hl : l.length ≤ 1000000) (R : AH) :
 C Tryz.prog 84 [.ptr 0 0 0 1] (some [[.fz (l.map pbyte), .int .i64 n]] :: R) (fun x H' => ∃ (p : List UInt8) (n' : Int), x = .str p ∧ p.length ≤ 11 ∧ n ≤ n' ∧ H' = some [[.fz (l.map pbyte), .int .i64 n']] :: R) := by
 refine C_call (K0 := fun x H' => ∃ (p : List UInt8) (n' : Int), x = .str p ∧ p.length ≤ 11 ∧ n ≤ n' ∧ n' ≤ n + 1 ∧ H' = picksH l n') [0] (by simp) (by simp) ?_ ?_
 ·exact path_spec l n hn hl
 ·rintro _ _ ⟨p, n', rfl, h1, h2, h3, rfl⟩
  exact ⟨Nat.le_refl _, p, n', rfl, h1, h2, by simp [back, setAll, picksH, renO, renL, ren]⟩
section
variable {c : Nat} {late : List Loc → List Loc → Prop} {K : List Nat → Nat → AV → AH → Prop} {t : Tag K}
theorem CFT_num (l : List UInt8) (n k : Int) (hn : 0 ≤ n) (hl : l.length ≤ 1000000) {R : AH} (hc : 0 < c ∧ c ≤ R.length + 1) (hlate : late [.con 0] [.con 0, .len 0])
 (hk : ∀ m n' : Int, 0 ≤ m → (1 ≤ k → m < k) → (k < 1 → m = 0) → n ≤ n' → K [0] c (.int .i64 m) (some [[.fz (l.map pbyte), .int .i64 n']] :: R)) :
 CFT Tryz.prog 44 [.ptr 0 0 0 1, .int .i64 k] c (some [[.fz (l.map pbyte), .int .i64 n]] :: R) late K t := by
 refine CFT_ok [0] 0 (num_spec l n k hn hl) (by simp; omega) hlate ?_
 rintro _ _ ⟨m, n', rfl, h1, h2, h3, h4, h5, rfl⟩
 have := hk m n' h1 h2 h3 h4
 refine ⟨by simp [picksH], ?_⟩
 simpa [setAll, picksH, renO, renL, ren] using this
theorem CFT_path (l : List UInt8) (n : Int) (hn : 0 ≤ n) (hl : l.length ≤ 1000000) {R : AH} (hc : 0 < c ∧ c ≤ R.length + 1) (hlate : late [.con 0] [.con 0, .len 0])
 (hk : ∀ (p : List UInt8) (n' : Int), p.length ≤ 11 → n ≤ n' → K [0] c (.str p) (some [[.fz (l.map pbyte), .int .i64 n']] :: R)) :
 CFT Tryz.prog 84 [.ptr 0 0 0 1] c (some [[.fz (l.map pbyte), .int .i64 n]] :: R) late K t := by
 refine CFT_ok [0] 0 (path_spec l n hn hl) (by simp; omega) hlate ?_
 rintro _ _ ⟨m, n', rfl, h1, h2, h3, rfl⟩
 have := hk m n' h1 h2
 refine ⟨by simp [picksH], ?_⟩
 simpa [setAll, picksH, renO, renL, ren] using this
theorem CFT_text (l : List UInt8) (n : Int) (hn : 0 ≤ n) (hl : l.length ≤ 1000000) {R : AH} (hc : 0 < c ∧ c ≤ R.length + 1) (hlate : late [.con 0] [.con 0, .len 0])
 (hk : ∀ (p : List UInt8) (n' : Int), p.length ≤ 129 → n ≤ n' → K [0] c (.str p) (some [[.fz (l.map pbyte), .int .i64 n']] :: R)) :
 CFT Tryz.prog 85 [.ptr 0 0 0 1] c (some [[.fz (l.map pbyte), .int .i64 n]] :: R) late K t := by
 refine CFT_ok [0] 0 (text_spec l n hn hl) (by simp; omega) hlate ?_
 rintro _ _ ⟨m, n', rfl, h1, h2, h3, rfl⟩
 have := hk m n' h1 h2
 refine ⟨by simp [picksH], ?_⟩
 simpa [setAll, picksH, renO, renL, ren] using this
end
theorem ints_get (vs : List Int) (m : Int) (h0 : 0 ≤ m) (h : m < vs.length) : ∃ v, (vs.map fun v => [AV.int .i64 v])[m.toNat]? = some [AV.int .i64 v] ∧ v ∈ vs := by
 refine ⟨vs[m.toNat]'(by omega), ?_, List.getElem_mem _⟩
 rw [List.getElem?_map, List.getElem?_eq_getElem (by omega), Option.map_some]
theorem edit_spec (l : List UInt8) (n i : Int) (hn : 0 ≤ n) (hl : l.length ≤ 1000000) :
 C Tryz.prog 46 [.ptr 0 0 0 1, .int .i64 i] (picksH l n) (EditR l n) := by
 refine C_body' d46 rfl (WT_ok ?_)
 delta c46 I0 I1 I2 I3 I4 I5 I6 I7 I8 I9 KI
 simp only [picksH, iaddr_node, pnode, wk3, wk, Nat.reduceAdd, Nat.reduceSub, Nat.reduceMul, Nat.reduceLeDiff, Nat.reduceEqDiff, Nat.reduceBEq, Int.reduceLE, Int.reduceLT, Int.reduceEq, Int.reduceNe, Int.reduceAdd, Int.reduceSub, Int.reduceToNat, Int.reduceNeg, ↓reduceIte, reduceCtorEq]
 refine WT_drawE ?_
 refine WDT_more 2 ?_
 simp only [picksH, lay, iaddr_node, pnode, wk3, wk, Nat.reduceAdd, Nat.reduceSub, Nat.reduceMul, Nat.reduceLeDiff, Nat.reduceEqDiff, Nat.reduceBEq, Int.reduceLE, Int.reduceLT, Int.reduceEq, Int.reduceNe, Int.reduceAdd, Int.reduceSub, Int.reduceToNat, Int.reduceNeg, ↓reduceIte, reduceCtorEq]
 refine ⟨by omega, by omega, ?_⟩
 refine CFT_num l n 12 hn hl (by simp) ⟨by rfl, by rfl⟩ ?_
 intro m n' h1 h2 h3 h4
 have g1 : m < 12 := h2 (by omega)
 obtain ⟨v, hv, hvm⟩ := ints_get [1, 1, 1, 2, 3, 3, 4, 4, 4, 5, 1, 4] m h1 g1
 simp only [List.map_cons, List.map_nil] at hv
 have hvb : 1 ≤ v ∧ v ≤ 5 := by simp at hvm; omega
 simp only [ren, renL, h1, g1, hv, lay, iaddr_node, pnode, wk3, wk, Nat.reduceAdd, Nat.reduceSub, Nat.reduceMul, Nat.reduceLeDiff, Nat.reduceEqDiff, Nat.reduceBEq, Int.reduceLE, Int.reduceLT, Int.reduceEq, Int.reduceNe, Int.reduceAdd, Int.reduceSub, Int.reduceToNat, Int.reduceNeg, ↓reduceIte, reduceCtorEq]
 refine ⟨g1, ?_⟩
 refine CFT_path l n' (by omega) hl (by simp) ⟨by rfl, by rfl⟩ ?_
 intro p n1 hp hn1
 simp only [ren, renL, lay, iaddr_node, pnode, wk3, wk, Nat.reduceAdd, Nat.reduceSub, Nat.reduceMul, Nat.reduceLeDiff, Nat.reduceEqDiff, Nat.reduceBEq, Int.reduceLE, Int.reduceLT, Int.reduceEq, Int.reduceNe, Int.reduceAdd, Int.reduceSub, Int.reduceToNat, Int.reduceNeg, ↓reduceIte, reduceCtorEq]
 refine ⟨by rfl, ?_⟩
 by_cases v1 : v = 1
 ·simp only [v1, lay, iaddr_node, pnode, wk3, wk, Nat.reduceAdd, Nat.reduceSub, Nat.reduceMul, Nat.reduceLeDiff, Nat.reduceEqDiff, Nat.reduceBEq, Int.reduceLE, Int.reduceLT, Int.reduceEq, Int.reduceNe, Int.reduceAdd, Int.reduceSub, Int.reduceToNat, Int.reduceNeg, ↓reduceIte, reduceCtorEq]
  refine CT_ok (num_at l n1 2 (by omega) hl _) ?_
  rintro _ H ⟨m2, n2, rfl, k1, k2, k3, k4, _, rfl⟩
  simp only [lay, iaddr_node, pnode, wk3, wk, Nat.reduceAdd, Nat.reduceSub, Nat.reduceMul, Nat.reduceLeDiff, Nat.reduceEqDiff, Nat.reduceBEq, Int.reduceLE, Int.reduceLT, Int.reduceEq, Int.reduceNe, Int.reduceAdd, Int.reduceSub, Int.reduceToNat, Int.reduceNeg, ↓reduceIte, reduceCtorEq]
  refine CT_ok (num_at l n2 16 (by omega) hl _) ?_
  rintro _ H ⟨m3, n3, rfl, j1, j2, j3, j4, _, rfl⟩
  simp only [lay, iaddr_node, pnode, wk3, wk, Nat.reduceAdd, Nat.reduceSub, Nat.reduceMul, Nat.reduceLeDiff, Nat.reduceEqDiff, Nat.reduceBEq, Int.reduceLE, Int.reduceLT, Int.reduceEq, Int.reduceNe, Int.reduceAdd, Int.reduceSub, Int.reduceToNat, Int.reduceNeg, ↓reduceIte, reduceCtorEq]
  refine guard_both ?_ ?_ <;> intro b <;> simp only [hy] at b
  ·simp only [b, lay, iaddr_node, pnode, wk3, wk, Nat.reduceAdd, Nat.reduceSub, Nat.reduceMul, Nat.reduceLeDiff, Nat.reduceEqDiff, Nat.reduceBEq, Int.reduceLE, Int.reduceLT, Int.reduceEq, Int.reduceNe, Int.reduceAdd, Int.reduceSub, Int.reduceToNat, Int.reduceNeg, ↓reduceIte, reduceCtorEq]
   refine CT_ok (num_at l n3 5 (by omega) hl _) ?_
   rintro _ H ⟨m4, n4, rfl, i1, i2, i3, i4, _, rfl⟩
   simp only [lay, iaddr_node, pnode, wk3, wk, Nat.reduceAdd, Nat.reduceSub, Nat.reduceMul, Nat.reduceLeDiff, Nat.reduceEqDiff, Nat.reduceBEq, Int.reduceLE, Int.reduceLT, Int.reduceEq, Int.reduceNe, Int.reduceAdd, Int.reduceSub, Int.reduceToNat, Int.reduceNeg, ↓reduceIte, reduceCtorEq]
   exact KWk_edit (by omega) (by simp) (by simp) (by omega)
  ·simp only [b, lay, iaddr_node, pnode, wk3, wk, Nat.reduceAdd, Nat.reduceSub, Nat.reduceMul, Nat.reduceLeDiff, Nat.reduceEqDiff, Nat.reduceBEq, Int.reduceLE, Int.reduceLT, Int.reduceEq, Int.reduceNe, Int.reduceAdd, Int.reduceSub, Int.reduceToNat, Int.reduceNeg, ↓reduceIte, reduceCtorEq]
   exact KWk_edit (by omega) (by simp) (by simp) (by omega)
 by_cases v3 : v = 3
 ·simp only [v3, lay, iaddr_node, pnode, wk3, wk, Nat.reduceAdd, Nat.reduceSub, Nat.reduceMul, Nat.reduceLeDiff, Nat.reduceEqDiff, Nat.reduceBEq, Int.reduceLE, Int.reduceLT, Int.reduceEq, Int.reduceNe, Int.reduceAdd, Int.reduceSub, Int.reduceToNat, Int.reduceNeg, ↓reduceIte, reduceCtorEq]
  refine CT_ok (path_at l n1 (by omega) hl _) ?_
  rintro _ H ⟨q, n2, rfl, k1, k2, rfl⟩
  simp only [lay, iaddr_node, pnode, wk3, wk, Nat.reduceAdd, Nat.reduceSub, Nat.reduceMul, Nat.reduceLeDiff, Nat.reduceEqDiff, Nat.reduceBEq, Int.reduceLE, Int.reduceLT, Int.reduceEq, Int.reduceNe, Int.reduceAdd, Int.reduceSub, Int.reduceToNat, Int.reduceNeg, ↓reduceIte, reduceCtorEq]
  exact KWk_edit (by omega) (by omega) (by simp) (by omega)
 by_cases v4 : v = 4
 ·simp only [v4, lay, iaddr_node, pnode, wk3, wk, Nat.reduceAdd, Nat.reduceSub, Nat.reduceMul, Nat.reduceLeDiff, Nat.reduceEqDiff, Nat.reduceBEq, Int.reduceLE, Int.reduceLT, Int.reduceEq, Int.reduceNe, Int.reduceAdd, Int.reduceSub, Int.reduceToNat, Int.reduceNeg, ↓reduceIte, reduceCtorEq]
  refine WT_drawE ?_
  refine WDT_more 1 ?_
  simp only [ren, renL, lay, iaddr_node, pnode, wk3, wk, Nat.reduceAdd, Nat.reduceSub, Nat.reduceMul, Nat.reduceLeDiff, Nat.reduceEqDiff, Nat.reduceBEq, Int.reduceLE, Int.reduceLT, Int.reduceEq, Int.reduceNe, Int.reduceAdd, Int.reduceSub, Int.reduceToNat, Int.reduceNeg, ↓reduceIte, reduceCtorEq]
  refine ⟨by omega, ?_⟩
  refine CFT_num l n1 8 (by omega) hl (by simp) ⟨by rfl, by rfl⟩ ?_
  intro m2 n2 k1 k2 k3 k4
  have k5 : m2 < 8 := k2 (by omega)
  obtain ⟨u, hu, _⟩ := ints_get [0, 0, 1, 31, 32, 64, 100, 130] m2 k1 k5
  simp only [List.map_cons, List.map_nil] at hu
  simp only [ren, renL, k1, k5, hu, lay, iaddr_node, pnode, wk3, wk, Nat.reduceAdd, Nat.reduceSub, Nat.reduceMul, Nat.reduceLeDiff, Nat.reduceEqDiff, Nat.reduceBEq, Int.reduceLE, Int.reduceLT, Int.reduceEq, Int.reduceNe, Int.reduceAdd, Int.reduceSub, Int.reduceToNat, Int.reduceNeg, ↓reduceIte, reduceCtorEq]
  refine ⟨k5, ?_⟩
  refine CFT_text l n2 (by omega) hl (by simp) ⟨by rfl, by rfl⟩ ?_
  intro q n3 hq hn3
  simp only [ren, renL, lay, iaddr_node, pnode, wk3, wk, Nat.reduceAdd, Nat.reduceSub, Nat.reduceMul, Nat.reduceLeDiff, Nat.reduceEqDiff, Nat.reduceBEq, Int.reduceLE, Int.reduceLT, Int.reduceEq, Int.reduceNe, Int.reduceAdd, Int.reduceSub, Int.reduceToNat, Int.reduceNeg, ↓reduceIte, reduceCtorEq]
  refine ⟨by rfl, ?_⟩
  exact KWk_edit (by omega) (by simp) (by omega) (by omega)
 by_cases v5 : v = 5
 ·simp only [v5, lay, iaddr_node, pnode, wk3, wk, Nat.reduceAdd, Nat.reduceSub, Nat.reduceMul, Nat.reduceLeDiff, Nat.reduceEqDiff, Nat.reduceBEq, Int.reduceLE, Int.reduceLT, Int.reduceEq, Int.reduceNe, Int.reduceAdd, Int.reduceSub, Int.reduceToNat, Int.reduceNeg, ↓reduceIte, reduceCtorEq]
  refine CT_ok (num_at l n1 8 (by omega) hl _) ?_
  rintro _ H ⟨m2, n2, rfl, k1, k2, k3, k4, _, rfl⟩
  have k5 : m2 < 8 := k2 (by omega)
  obtain ⟨u, hu, _⟩ := ints_get [0, 1, 32, 33, 128, 129, 60, 64] m2 k1 k5
  simp only [List.map_cons, List.map_nil] at hu
  simp only [k1, k5, hu, lay, iaddr_node, pnode, wk3, wk, Nat.reduceAdd, Nat.reduceSub, Nat.reduceMul, Nat.reduceLeDiff, Nat.reduceEqDiff, Nat.reduceBEq, Int.reduceLE, Int.reduceLT, Int.reduceEq, Int.reduceNe, Int.reduceAdd, Int.reduceSub, Int.reduceToNat, Int.reduceNeg, ↓reduceIte, reduceCtorEq]
  first | exact KWk_edit (by omega) (by simp) (by simp) (by omega) | exact ⟨k5, KWk_edit (by omega) (by simp) (by simp) (by omega)⟩
 ·simp only [v1, v3, v4, v5, lay, iaddr_node, pnode, wk3, wk, Nat.reduceAdd, Nat.reduceSub, Nat.reduceMul, Nat.reduceLeDiff, Nat.reduceEqDiff, Nat.reduceBEq, Int.reduceLE, Int.reduceLT, Int.reduceEq, Int.reduceNe, Int.reduceAdd, Int.reduceSub, Int.reduceToNat, Int.reduceNeg, ↓reduceIte, reduceCtorEq]
  exact KWk_edit (by omega) (by simp) (by simp) (by omega)
end Go.Proofs.YtemjlopoffjmpaaGreat.Abs
set_option linter.unusedSimpArgs false
set_option linter.unusedVariables false
namespace Go.Proofs.YtemjlopoffjmpaaGreat.Abs
open Go Go.Proofs
theorem newA_get (i : Nat) (h1 : 1 ≤ i) (h8 : i < 8) : newA.getD i default = ⟨0, 0, [], [], 0⟩ := by
 rcases (by omega : i = 1 ∨ i = 2 ∨ i = 3 ∨ i = 4 ∨ i = 5 ∨ i = 6 ∨ i = 7) with rfl | rfl | rfl | rfl | rfl | rfl | rfl <;> rfl
theorem newA_wf : Wf newA := by
 refine ⟨rfl, rfl, fun i h1 h8 => ?_, fun i k h1 h8 _ _ hk => ?_, fun i => i, fun i h1 h8 hk => ?_⟩
 ·rw [newA_get i h1 h8]
  exact ⟨rfl, .inl rfl, fun _ => rfl, fun e => absurd e (by decide), fun e => absurd rfl e, ⟨by decide, by decide⟩, fun e => absurd rfl e, by show 0 ≤ 128; omega⟩
 ·rw [newA_get i h1 h8] at hk; exact absurd rfl hk
 ·rw [newA_get i h1 h8] at hk; exact absurd rfl hk
end Go.Proofs.YtemjlopoffjmpaaGreat.Abs
set_option linter.unusedSimpArgs false
set_option linter.unusedVariables false
namespace Go.Proofs.YtemjlopoffjmpaaGreat.Abs
open Go Go.Proofs
theorem clone_emp0 : C Tryz.prog 48 [.emp] [] (fun x H' => x = .own 0 5 0 0 0 ∧ H' = [some []]) := by
 refine C_body' d48 rfl (WT_ok ?_)
 delta c48 I0 I1 I2 I3 I4 I5 I6 I7 I8 I9 KI
 simp only [wk3, wk, iaddrV_map, seval]
 intro b
 cases b
 ·simp only [wk3, wk, iaddrV_map, seval]
  exact ⟨_, _, Wk.refl _ _ _, rfl, rfl⟩
 ·simp only [wk3, wk, iaddrV_map, seval]
  exact ⟨_, _, Wk_emp 5, rfl, rfl⟩
theorem clone2_emp0 : C Tryz.prog 49 [.emp] [] (fun x H' => x = .own 0 5 0 0 0 ∧ H' = [some []]) := by
 refine C_body' d49 rfl (WT_ok ?_)
 delta c49 I0 I1 I2 I3 I4 I5 I6 I7 I8 I9 KI
 simp only [wk3, wk, iaddrV_map, seval]
 intro b
 cases b
 ·simp only [wk3, wk, iaddrV_map, seval]
  exact ⟨_, _, Wk.refl _ _ _, rfl, rfl⟩
 ·simp only [wk3, wk, iaddrV_map, seval]
  exact ⟨_, _, Wk_emp 5, rfl, rfl⟩
theorem clone_emp (H : AH) : C Tryz.prog 48 [.emp] H (fun x H' => x = .own H.length 5 0 0 0 ∧ H' = H ++ [some []]) :=
 C_call [] List.nodup_nil (fun r hr => by cases hr) clone_emp0 (by rintro _ _ ⟨rfl, rfl⟩; exact ⟨Nat.zero_le _, by simp [ren, toCaller, back, setAll, renO]⟩)
theorem clone2_emp (H : AH) : C Tryz.prog 49 [.emp] H (fun x H' => x = .own H.length 5 0 0 0 ∧ H' = H ++ [some []]) :=
 C_call [] List.nodup_nil (fun r hr => by cases hr) clone2_emp0 (by rintro _ _ ⟨rfl, rfl⟩; exact ⟨Nat.zero_le _, by simp [ren, toCaller, back, setAll, renO]⟩)
def orcC : CallF := fun f args H =>
 if f = 48 ∨ f = 49 then
  match args with
  | [.emp] => some (.own H.length 5 0 0 0, H ++ [some []])
  | _ => none
 else none
theorem orcC_ok : EvOk Tryz.prog orcC := by
 intro f args H x H' h
 unfold orcC at h
 split at h
 ·rename_i hf
  split at h
  ·cases h
   rcases hf with rfl | rfl
   ·exact clone_emp H
   ·exact clone2_emp H
  ·cases h
 ·cases h
end Go.Proofs.YtemjlopoffjmpaaGreat.Abs
set_option linter.unusedSimpArgs false
set_option linter.unusedVariables false
namespace Go.Proofs.YtemjlopoffjmpaaGreat.Abs
open Go Go.Proofs
def cellD (d : Dset) : List AV := [.int .i64 d.id, .int .i64 d.kind, .int .i64 d.origin, .int .i64 d.quota, aset d.files]
theorem clone_set0 (x : Node) (s : List Node) (hs : (x :: s).length ≤ 1000000) : C Tryz.prog 49 [aset (x :: s)] [] (fun y H' => y = aset (x :: s) ∧ H' = []) := by
 refine C_body' d49 rfl (WT_ok ?_)
 delta c49 I0 I1 I2 I3 I4 I5 I6 I7 I8 I9 KI
 simp only [aset, wk3, wk, iaddrV_map, seval]
 refine ⟨⟨?_, by simp at hs; omega, by simp at hs; omega⟩, ?_⟩
 ·rw [Bool.and_eq_true]
  refine ⟨rfl, ?_⟩
  rw [List.all_eq_true]
  intro e he
  obtain ⟨r, hr, rfl⟩ := List.mem_map.1 he
  obtain ⟨z, _, rfl⟩ := List.mem_map.1 hr
  rfl
 ·refine KWk_frozen 0 ((x :: s).map pnode) rfl (aset (x :: s)) ?_ ⟨rfl, rfl⟩
  simp only [frzL, frz, renL, ren, if_true, List.length_map, List.length_cons, Nat.zero_add, Nat.le_refl, and_self, List.drop_zero, aset]
  rw [List.take_of_length_le (by simp)]
theorem KWk_first {K : AV → AH → Prop} {x : AV} {o : AObj} {G : AH} (hx : bare x = true) (ho : o.map (renL (upTo 1)) = o) (hk : K x [some o]) : KWk 1 K x (some o :: G) := by
 refine ⟨x, [some o], ?_, hk⟩
 have h1 := Wk_forget (n0 := 1) (fr := [x]) (H := some o :: G) 1 (Nat.le_refl _)
 rw [renL_bare _ _ (by simp [bareL, hx])] at h1
 have e : mapH (renL (upTo 1)) ((some o :: G).take 1) = [some o] := by
  simp only [List.take_succ_cons, List.take_zero, mapH, List.map_cons, List.map_nil, Option.map_some, ho]
 rwa [e] at h1
theorem isId82 (d : Dset) (i : Int) : C Tryz.prog 102 [.agg (cellD d), .ptr 0 0 0 1] [some [[.int .i64 i]]] (fun x H' => x = .bool (decide (d.id = i)) ∧ H' = [some [[.int .i64 i]]]) := by
 refine C_body' d102 rfl (WT_ok ?_)
 delta c102 I0 I1 I2 I3 I4 I5 I6 I7 I8 I9 KI
 simp only [cellD, aset, lay, wk, iaddrV_map, seval]
 refine KWk_first (by simp [bare]) (by simp [renL, ren]) ⟨rfl, rfl⟩
end Go.Proofs.YtemjlopoffjmpaaGreat.Abs
set_option linter.unusedSimpArgs false
set_option linter.unusedVariables false
namespace Go.Proofs.YtemjlopoffjmpaaGreat.Abs
open Go Go.Proofs
theorem Wk_empFz {n0 : Nat} {fr : List AV} {H : AH} (j : Nat) (h : fr[j]? = some .emp) : Wk n0 fr H (fr.set j (.fz [])) H := by
 intro E w vs hs hr
 refine ⟨E, LeN.refl _ _, hs, by rw [List.length_set]; exact hr.1, fun i c u hc hu => ?_⟩
 rw [List.getElem?_set] at hc
 by_cases hij : j = i
 ·subst hij
  rw [if_pos rfl] at hc
  split at hc
  ·cases hc
   obtain ⟨a, rfl⟩ := rep_emp (hr.2 j _ u h hu)
   exact .pure (x := .fz []) (.fz0 _ _)
  ·cases hc
 ·rw [if_neg hij] at hc
  exact hr.2 i c u hc hu
theorem Wk_froz {fr fr' : List AV} {H : AH} (r : Nat) (es : List (List PV)) (hat : H.at r = some (es.map fun e => e.map emb)) (h : Tops fr' (renL (upTo 0) (frzL r es fr))) : Wk 0 fr H fr' [] := by
 have h1 := (Wk_freeze (n0 := 0) (fr := fr) r es hat).trans ((Wk_forget 0 (Nat.le_refl _)).trans (Wk_tops h))
 simpa [mapH] using h1
theorem Wk_none {fr fr' : List AV} {H : AH} (h : Tops fr' (renL (upTo 0) fr)) : Wk 0 fr H fr' [] := by
 have h1 := (Wk_forget (n0 := 0) (fr := fr) (H := H) 0 (Nat.le_refl _)).trans (Wk_tops h)
 simpa [mapH] using h1
end Go.Proofs.YtemjlopoffjmpaaGreat.Abs
set_option linter.unusedSimpArgs false
set_option linter.unusedVariables false
namespace Go.Proofs.YtemjlopoffjmpaaGreat.Abs
open Go Go.Proofs
theorem cellD_emb (d : Dset) : (pdset d).map emb = cellD d := rfl
theorem cellsD (l : List Dset) : (l.map pdset).map (fun e => e.map emb) = l.map cellD := by rw [List.map_map]; rfl
theorem rows5D (l : List Dset) : (l.map cellD).all (fun e => decide (e.length = 5)) = true := by
 rw [List.all_eq_true]
 intro e he
 obtain ⟨d, _, rfl⟩ := List.mem_map.1 he
 rfl
theorem q00 : (if 0 < 0 then some false else none : Option Bool) = none := rfl
theorem q01 (n : Nat) : (if 0 < n + 1 then some false else none : Option Bool) = some false := if_pos (Nat.succ_pos n)
theorem cloneL0 (l : List Dset) (hl : l.length ≤ 1000000) : C Tryz.prog 48 [asets l] [] (fun x H' => x = .own 0 5 0 l.length l.length ∧ H' = [some (l.map cellD)]) := by
 refine C_body' d48 rfl (WT_ok ?_)
 delta c48 I0 I1 I2 I3 I4 I5 I6 I7 I8 I9 KI
 cases l with
 | nil =>
   simp only [asets, wk3, wk, iaddrV_map, seval]
   intro b
   cases b
   ·simp only [wk3, wk, iaddrV_map, seval]
    exact ⟨_, _, Wk.refl _ _ _, rfl, rfl⟩
   ·simp only [wk3, wk, iaddrV_map, seval]
    exact ⟨_, _, Wk_emp 5, rfl, rfl⟩
 | cons d l =>
   simp only [List.length_cons] at hl
   have h5 := rows5D (d :: l)
   simp only [List.map_cons, List.all_cons] at h5
   simp only [asets, cellsD, cellD_emb, wk3, wk, iaddrV_map, seval]
   exact ⟨⟨h5, by omega, by omega⟩, _, _, Wk.refl _ _ _, rfl, rfl⟩
theorem cloneO0 (l : List Dset) (hl : l.length ≤ 1000000) : C Tryz.prog 48 [.own 0 5 0 l.length l.length] [some (l.map cellD)] (fun x H' => x = .own 1 5 0 l.length l.length ∧ H' = [some (l.map cellD), some (l.map cellD)]) := by
 refine C_body' d48 rfl (WT_ok ?_)
 delta c48 I0 I1 I2 I3 I4 I5 I6 I7 I8 I9 KI
 cases l with
 | nil =>
   simp only [asets, q00, wk3, wk, iaddrV_map, seval]
   intro b
   cases b
   ·simp only [wk3, wk, iaddrV_map, seval]
    exact ⟨_, _, Wk.refl _ _ _, rfl, rfl⟩
   ·simp only [wk3, wk, iaddrV_map, seval]
    exact ⟨_, _, Wk_empAt (fr := [.emp]) (H := [some []]) 0 5 rfl, rfl, rfl⟩
 | cons d l =>
   simp only [List.length_cons] at hl
   have h5 := rows5D (d :: l)
   simp only [List.map_cons, List.all_cons] at h5
   have h6 : List.take (l.length + 1) (cellD d :: List.map cellD l) = cellD d :: List.map cellD l := List.take_of_length_le (by simp)
   simp only [asets, q01, h6, wk3, wk, iaddrV_map, seval]
   exact ⟨⟨h5, by omega, by omega⟩, _, _, Wk.refl _ _ _, rfl, rfl⟩
theorem cloneF0 (s : List Node) (hs : s.length ≤ 1000000) : C Tryz.prog 49 [aset s] [] (fun y H' => y = aset s ∧ H' = []) := by
 cases s with
 | cons x s => exact clone_set0 x s hs
 | nil =>
   refine C_body' d49 rfl (WT_ok ?_)
   delta c49 I0 I1 I2 I3 I4 I5 I6 I7 I8 I9 KI
   simp only [aset, wk3, wk, iaddrV_map, seval]
   intro b
   cases b
   ·simp only [wk3, wk, iaddrV_map, seval]
    exact KWk_frozen 0 [] rfl (.fz []) (by simp [frzL, frz, renL, ren]) ⟨rfl, rfl⟩
   ·simp only [wk3, wk, iaddrV_map, seval]
    exact ⟨_, _, Wk_empFz (fr := [.emp]) 0 rfl, rfl, rfl⟩
end Go.Proofs.YtemjlopoffjmpaaGreat.Abs
set_option linter.unusedSimpArgs false
set_option linter.unusedVariables false
namespace Go.Proofs.YtemjlopoffjmpaaGreat.Abs
open Go Go.Proofs
theorem renO_cells (τ : Nat → Option Nat) (l : List Dset) : renO τ (l.map cellD) = l.map cellD := by
 unfold renO
 rw [List.map_map]
 apply List.map_congr_left
 intro d _
 simp [cellD, aset, renL, ren]
theorem cloneL (l : List Dset) (hl : l.length ≤ 1000000) (H : AH) : C Tryz.prog 48 [asets l] H (fun x H' => x = .own H.length 5 0 l.length l.length ∧ H' = H ++ [some (l.map cellD)]) :=
 C_call [] List.nodup_nil (fun r hr => by cases hr) (by simpa [renL, ren, asets] using cloneL0 l hl) (by rintro _ _ ⟨rfl, rfl⟩; exact ⟨Nat.zero_le _, by simp [ren, toCaller, back, setAll, renO_cells]⟩)
theorem cloneF (s : List Node) (hs : s.length ≤ 1000000) (H : AH) : C Tryz.prog 49 [aset s] H (fun y H' => y = aset s ∧ H' = H) :=
 C_pure (K0 := fun y => y = aset s) (cloneF0 s hs) (fun τ => renL_bare τ _ (by simp [bareL, bare, aset])) (by rintro y rfl τ; simp [aset, ren]) H
theorem cell_at {l : List Dset} {k : Nat} (hk : k < l.length) : (l.map cellD)[k]? = some (cellD (l.getD k default)) := by
 rw [List.getElem?_map, List.getElem?_eq_getElem hk, List.getD_eq_getElem?_getD, List.getElem?_eq_getElem hk]; rfl
theorem cell_same {l : List Dset} {k : Nat} (hk : k < l.length) : (l.map cellD).set k (cellD (l.getD k default)) = l.map cellD := by
 apply List.ext_getElem?
 intro i
 rw [List.getElem?_set]
 by_cases h : k = i
 ·subst h; rw [if_pos rfl, if_pos (by simpa using hk), cell_at hk]
 ·rw [if_neg h]
def Short (l : List Dset) : Prop := l.length ≤ 1000000 ∧ ∀ d ∈ l, d.files.length ≤ 1000000
theorem Short.get {l : List Dset} (h : Short l) {k : Nat} (hk : k < l.length) : (l.getD k default).files.length ≤ 1000000 := by
 rw [List.getD_eq_getElem?_getD, List.getElem?_eq_getElem hk]; exact h.2 _ (List.getElem_mem hk)
theorem twin0 (l : List Dset) (hl : Short l) : C Tryz.prog 56 [asets l] [] (fun x H' => x = .own 0 5 0 l.length l.length ∧ H' = [some (l.map cellD)]) := by
 have hl1 := hl.1
 refine C_body' d56 rfl (WT_ok ?_)
 delta c56 I0 I1 I2 I3 I4 I5 I6 I7 I8 I9 KI
 simp only [wk, iaddrV_map, seval]
 refine CT_ok (cloneL l hl.1 _) ?_
 rintro _ _ ⟨rfl, rfl⟩
 simp only [lay, wk, iaddrV_map, seval]
 refine WT_loop (W_wk (fr' := [.own 0 5 0 l.length l.length, .top, .emp, .top, .top, .top, .own 0 5 0 l.length l.length, .int .i64 l.length, .int .i64 0] ++ List.replicate 14 .top) (Wk_tops ?_) (W_loop (fun n fr H' => ∃ k : Nat, k ≤ l.length ∧ n = l.length - k ∧ H' = [some (l.map cellD)] ∧ fr = [.own 0 5 0 l.length l.length, .top, .emp, .top, .top, .top, .own 0 5 0 l.length l.length, .int .i64 l.length, .int .i64 k] ++ List.replicate 14 .top) l.length ⟨0, by omega, rfl, rfl, rfl⟩ ?_))
 ·simp only [tp]
 rintro n fr H' ⟨k, hk, rfl, rfl, rfl⟩
 refine WT_ok ?_
 simp only [lay, wk, iaddrV_map, seval]
 refine guard_both ?_ ?_ <;> intro h <;> simp only [hy] at h
 ·have hk2 : k < l.length := by omega
  have hc := cell_at hk2
  have hs := cell_same hk2
  have w2 : IntKind.i64.wrap ((k : Int) + 1) = (k : Int) + 1 := IntWalk.i64_in _ (by omega)
  have h0 : (0 : Int) ≤ k := by omega
  have hf := hl.get hk2
  generalize l.getD k default = d at hc hs hf
  simp only [h, h0, hc, cellD, aset, lay, wk, iaddrV_map, seval]
  refine CT_ok (cloneF d.files hf _) ?_
  rintro _ _ ⟨rfl, rfl⟩
  simp only [cellD, aset] at hs
  simp only [h, h0, hc, hs, cellD, w2, aset, lay, wk, iaddrV_map, seval]
  refine QLoop_go (n' := l.length - (k + 1)) (by omega) ⟨k + 1, by omega, rfl, rfl, rfl⟩ ?_
  simp only [tq]
 ·simp only [h, wk, iaddrV_map, seval]
  exact ⟨_, _, Wk.refl _ _ _, rfl, rfl⟩
theorem twinL (l : List Dset) (hl : Short l) (H : AH) : C Tryz.prog 56 [asets l] H (fun x H' => x = .own H.length 5 0 l.length l.length ∧ H' = H ++ [some (l.map cellD)]) :=
 C_call [] List.nodup_nil (fun r hr => by cases hr) (by simpa [renL, ren, asets] using twin0 l hl) (by rintro _ _ ⟨rfl, rfl⟩; exact ⟨Nat.zero_le _, by simp [ren, toCaller, back, setAll, renO_cells]⟩)
theorem twinO0 (l : List Dset) (hl : Short l) : C Tryz.prog 56 [.own 0 5 0 l.length l.length] [some (l.map cellD)] (fun x H' => x = .own 1 5 0 l.length l.length ∧ H' = [some (l.map cellD), some (l.map cellD)]) := by
 have hl1 := hl.1
 refine C_body' d56 rfl (WT_ok ?_)
 delta c56 I0 I1 I2 I3 I4 I5 I6 I7 I8 I9 KI
 simp only [wk, iaddrV_map, seval]
 refine CT_ok (cloneO0 l hl.1) ?_
 rintro _ _ ⟨rfl, rfl⟩
 simp only [lay, wk, iaddrV_map, seval]
 refine WT_loop (W_wk (fr' := [.own 1 5 0 l.length l.length, .top, .emp, .top, .top, .top, .own 1 5 0 l.length l.length, .int .i64 l.length, .int .i64 0] ++ List.replicate 14 .top) (Wk_tops ?_) (W_loop (fun n fr H' => ∃ k : Nat, k ≤ l.length ∧ n = l.length - k ∧ H' = [some (l.map cellD), some (l.map cellD)] ∧ fr = [.own 1 5 0 l.length l.length, .top, .emp, .top, .top, .top, .own 1 5 0 l.length l.length, .int .i64 l.length, .int .i64 k] ++ List.replicate 14 .top) l.length ⟨0, by omega, rfl, rfl, rfl⟩ ?_))
 ·simp only [tp]
 rintro n fr H' ⟨k, hk, rfl, rfl, rfl⟩
 refine WT_ok ?_
 simp only [lay, wk, iaddrV_map, seval]
 refine guard_both ?_ ?_ <;> intro h <;> simp only [hy] at h
 ·have hk2 : k < l.length := by omega
  have hc := cell_at hk2
  have hs := cell_same hk2
  have w2 : IntKind.i64.wrap ((k : Int) + 1) = (k : Int) + 1 := IntWalk.i64_in _ (by omega)
  have h0 : (0 : Int) ≤ k := by omega
  have hf := hl.get hk2
  generalize l.getD k default = d at hc hs hf
  simp only [h, h0, hc, cellD, aset, lay, wk, iaddrV_map, seval]
  refine CT_ok (cloneF d.files hf _) ?_
  rintro _ _ ⟨rfl, rfl⟩
  simp only [cellD, aset] at hs
  simp only [h, h0, hc, hs, cellD, w2, aset, lay, wk, iaddrV_map, seval]
  refine QLoop_go (n' := l.length - (k + 1)) (by omega) ⟨k + 1, by omega, rfl, rfl, rfl⟩ ?_
  simp only [tq]
 ·simp only [h, wk, iaddrV_map, seval]
  exact ⟨_, _, Wk.refl _ _ _, rfl, rfl⟩
end Go.Proofs.YtemjlopoffjmpaaGreat.Abs
set_option linter.unusedSimpArgs false
set_option linter.unusedVariables false
namespace Go.Proofs.YtemjlopoffjmpaaGreat.Abs
open Go Go.Proofs
def idxA (p : Dset → Bool) (l : List Dset) : Int := match l.findIdx? p with
 | some i => i
 | none => -1
theorem idxA_some {p : Dset → Bool} {l : List Dset} {k : Nat} (hk : k < l.length) (hp : p (l.getD k default) = true) (hn : ∀ j, j < k → p (l.getD j default) = false) : idxA p l = k := by
 have g : ∀ j (h : j < l.length), l.getD j default = l[j] := fun j h => by rw [List.getD_eq_getElem?_getD, List.getElem?_eq_getElem h]; rfl
 have : l.findIdx? p = some k := by
  rw [List.findIdx?_eq_some_iff_getElem]
  refine ⟨hk, by rw [← g k hk]; exact hp, fun j hj => ?_⟩
  rw [← g j (by omega), hn j hj]; decide
 unfold idxA
 rw [this]
theorem idxA_none {p : Dset → Bool} {l : List Dset} (hn : ∀ j, j < l.length → p (l.getD j default) = false) : idxA p l = -1 := by
 have : l.findIdx? p = none := by
  rw [List.findIdx?_eq_none_iff]
  intro x hx
  obtain ⟨j, hj, rfl⟩ := List.mem_iff_getElem.1 hx
  have := hn j hj
  rwa [List.getD_eq_getElem?_getD, List.getElem?_eq_getElem hj] at this
 unfold idxA
 rw [this]
theorem idxA_cases (p : Dset → Bool) (l : List Dset) : (idxA p l = -1 ∧ ∀ j, j < l.length → p (l.getD j default) = false) ∨ ∃ k : Nat, idxA p l = k ∧ k < l.length ∧ p (l.getD k default) = true ∧ ∀ j, j < k → p (l.getD j default) = false := by
 have g : ∀ j (h : j < l.length), l.getD j default = l[j] := fun j h => by rw [List.getD_eq_getElem?_getD, List.getElem?_eq_getElem h]; rfl
 unfold idxA
 cases e : l.findIdx? p with
 | none =>
   refine .inl ⟨rfl, fun j hj => ?_⟩
   rw [List.findIdx?_eq_none_iff] at e
   rw [g j hj]; exact e _ (List.getElem_mem hj)
 | some k =>
   rw [List.findIdx?_eq_some_iff_getElem] at e
   obtain ⟨h1, h2, h3⟩ := e
   refine .inr ⟨k, rfl, h1, by rw [g k h1]; exact h2, fun j hj => ?_⟩
   rw [g j (by omega)]
   have := h3 j hj
   simpa using this
theorem index81G (l : List Dset) (hl : l.length ≤ 1000000) (R : AH) (g : FuncId) (cap : List AV) (p : Dset → Bool)
 (hf : ∀ d, C Tryz.prog g (AV.agg (cellD d) :: cap) (some (l.map cellD) :: R) (fun x H' => x = .bool (p d) ∧ H' = some (l.map cellD) :: R)) :
 C Tryz.prog 101 [.own 0 5 0 l.length l.length, .fn (.func g) [] cap] (some (l.map cellD) :: R) (fun x H' => x = .int .i64 (idxA p l) ∧ H' = some (l.map cellD) :: R) := by
 refine C_body d101 rfl (WT_ok ?_)
 delta c101 I0 I1 I2 I3 I4 I5 I6 I7 I8 I9 KI
 simp only [wk, iaddrV_map, seval]
 refine WT_loop (W_wk (fr' := [.own 0 5 0 l.length l.length, .fn (.func g) [] cap, .top, .top, .int .i64 0, .top, .own 0 5 0 l.length l.length, .int .i64 l.length, .int .i64 0] ++ List.replicate 10 .top) (Wk_tops ?_) (W_loop (fun n fr H' => ∃ k : Nat, k ≤ l.length ∧ n = l.length - k ∧ (∀ j, j < k → p (l.getD j default) = false) ∧ H' = some (l.map cellD) :: R ∧ fr = [.own 0 5 0 l.length l.length, .fn (.func g) [] cap, .top, .top, .int .i64 0, .top, .own 0 5 0 l.length l.length, .int .i64 l.length, .int .i64 k] ++ List.replicate 10 .top) l.length ⟨0, by omega, rfl, fun j hj => by omega, rfl, rfl⟩ ?_))
 ·simp only [tp]
 rintro n fr H' ⟨k, hk, rfl, hne, rfl, rfl⟩
 refine WT_ok ?_
 simp only [lay, wk, iaddrV_map, seval]
 refine guard_both ?_ ?_ <;> intro h <;> simp only [hy] at h
 ·have hk2 : k < l.length := by omega
  have hc := cell_at hk2
  have w2 : IntKind.i64.wrap ((k : Int) + 1) = (k : Int) + 1 := IntWalk.i64_in _ (by omega)
  have h0 : (0 : Int) ≤ k := by omega
  have h5 : (cellD (l.getD k default)).take 5 = cellD (l.getD k default) := rfl
  have h6 : 5 ≤ (cellD (l.getD k default)).length := Nat.le_refl 5
  have hfk := hf (l.getD k default)
  simp only [h, h0, hc, h5, h6, lay, RT_calld, wk, iaddrV_map, seval]
  refine ⟨_, _, _, rfl, hfk.mono ?_⟩
  rintro _ _ ⟨rfl, rfl⟩
  cases hp : p (l.getD k default)
  ·simp only [w2, wk, iaddrV_map, seval]
   refine QLoop_go (n' := l.length - (k + 1)) (by omega) ⟨k + 1, by omega, rfl, fun j hj => ?_, rfl, rfl⟩ ?_
   ·rcases Nat.lt_or_ge j k with h' | h'
    ·exact hne j h'
    ·have : j = k := by omega
     subst this; exact hp
   ·simp only [tq]
  ·simp only [wk, iaddrV_map, seval]
   rw [idxA_some hk2 hp hne]
 ·simp only [h, wk, iaddrV_map, seval]
  rw [idxA_none fun j hj => hne j (by omega)]
def findA (l : List Dset) (i : Int) : Int := idxA (fun d => decide (d.id = i)) l
theorem find_of {l : List Dset} {i : Int} : (findA l i = -1 ∧ ∀ j, j < l.length → (l.getD j default).id ≠ i) ∨ ∃ k : Nat, findA l i = k ∧ k < l.length ∧ (l.getD k default).id = i ∧ ∀ j, j < k → (l.getD j default).id ≠ i := by
 rcases idxA_cases (fun d => decide (d.id = i)) l with ⟨h1, h2⟩ | ⟨k, h1, h2, h3, h4⟩
 ·exact .inl ⟨h1, fun j hj => by simpa using h2 j hj⟩
 ·exact .inr ⟨k, h1, h2, by simpa using h3, fun j hj => by simpa using h4 j hj⟩
theorem isId82_L (d : Dset) (i : Int) (l : List Dset) : C Tryz.prog 102 [.agg (cellD d), .ptr 1 0 0 1] [some (l.map cellD), some [[.int .i64 i]]] (fun x H' => x = .bool (decide (d.id = i)) ∧ H' = [some (l.map cellD), some [[.int .i64 i]]]) :=
 C_call [1] (by simp) (by simp) (by simpa [renL, ren, toCallee, renO, cellD, aset, AH.at] using isId82 d i) (by rintro _ _ ⟨rfl, rfl⟩; exact ⟨Nat.le_refl _, by simp [ren], by simp [back, setAll, renO, renL, ren]⟩)
theorem find0 (l : List Dset) (hl : l.length ≤ 1000000) (i : Int) : C Tryz.prog 59 [.own 0 5 0 l.length l.length, .int .i64 i] [some (l.map cellD)] (fun x H' => x = .int .i64 (findA l i) ∧ H' = [some (l.map cellD)]) := by
 refine C_body' d59 rfl (WT_ok ?_)
 delta c59 I0 I1 I2 I3 I4 I5 I6 I7 I8 I9 KI
 simp only [lay, wk, iaddrV_map, seval]
 refine CT_ok (index81G l hl [some [[.int .i64 i]]] 102 [.ptr 1 0 0 1] (fun d => decide (d.id = i)) (fun d => isId82_L d i l)) ?_
 rintro _ _ ⟨rfl, rfl⟩
 simp only [wk, iaddrV_map, seval]
 refine KWk_first (by simp [bare]) ?_ ⟨rfl, rfl⟩
 exact renO_cells _ l
theorem find1 (l : List Dset) (hl : l.length ≤ 1000000) (i : Int) (R : AH) : C Tryz.prog 59 [.own 0 5 0 l.length l.length, .int .i64 i] (some (l.map cellD) :: R) (fun x H' => x = .int .i64 (findA l i) ∧ H' = some (l.map cellD) :: R) :=
 C_call [0] (by simp) (by simp) (by simpa [renL, ren, toCallee, renO_cells, AH.at] using find0 l hl i) (by rintro _ _ ⟨rfl, rfl⟩; exact ⟨Nat.le_refl _, by simp [ren], by simp [back, setAll, renO_cells]⟩)
theorem contains65 (l : List Dset) (hl : l.length ≤ 1000000) (R : AH) (g : FuncId) (cap : List AV) (p : Dset → Bool)
 (hf : ∀ d, C Tryz.prog g (AV.agg (cellD d) :: cap) (some (l.map cellD) :: R) (fun x H' => x = .bool (p d) ∧ H' = some (l.map cellD) :: R)) :
 C Tryz.prog 63 [.own 0 5 0 l.length l.length, .fn (.func g) [] cap] (some (l.map cellD) :: R) (fun x H' => x = .bool (decide (0 ≤ idxA p l)) ∧ H' = some (l.map cellD) :: R) := by
 refine C_body d63 rfl (WT_ok ?_)
 delta c63 I0 I1 I2 I3 I4 I5 I6 I7 I8 I9 KI
 simp only [lay, wk, iaddrV_map, seval]
 refine CT_ok (index81G l hl R g cap p hf) ?_
 rintro _ _ ⟨rfl, rfl⟩
 simp only [wk, iaddrV_map, seval]
def isA (l : List Dset) (i kind : Int) : Bool := decide (0 ≤ findA l i) && decide ((l.getD (findA l i).toNat default).kind = kind)
theorem is63 (l : List Dset) (hl : l.length ≤ 1000000) (i kind : Int) (R : AH) : C Tryz.prog 60 [.own 0 5 0 l.length l.length, .int .i64 i, .int .i64 kind] (some (l.map cellD) :: R) (fun x H' => x = .bool (isA l i kind) ∧ H' = some (l.map cellD) :: R) := by
 refine C_body d60 rfl (WT_ok ?_)
 delta c60 I0 I1 I2 I3 I4 I5 I6 I7 I8 I9 KI
 simp only [lay, wk, iaddrV_map, seval]
 refine CT_ok (find1 l hl i R) ?_
 rintro _ _ ⟨rfl, rfl⟩
 unfold isA
 rcases find_of (l := l) (i := i) with ⟨e, _⟩ | ⟨k, e, hk, _, _⟩
 ·simp only [e, lay, Bool.false_and, wk, iaddrV_map, seval]
 ·have hc := cell_at hk
  have h0 : (0 : Int) ≤ k := by omega
  have h1 : (k : Int) < l.length := by omega
  rw [e]
  simp only [hc, h0, h1, cellD, lay, wk, iaddrV_map, seval]
theorem is66 (d : Dset) (i : Int) : C Tryz.prog 64 [.agg (cellD d), .ptr 0 0 0 1] [some [[.int .i64 i]]] (fun x H' => x = .bool (decide (d.origin = i)) ∧ H' = [some [[.int .i64 i]]]) := by
 refine C_body' d64 rfl (WT_ok ?_)
 delta c64 I0 I1 I2 I3 I4 I5 I6 I7 I8 I9 KI
 simp only [cellD, aset, lay, wk, iaddrV_map, seval]
 refine KWk_first (by simp [bare]) (by simp [renL, ren]) ⟨rfl, rfl⟩
theorem KWk_two {K : AV → AH → Prop} {x : AV} {o o' : AObj} {G : AH} (hx : bare x = true) (ho : o.map (renL (upTo 2)) = o) (ho' : o'.map (renL (upTo 2)) = o') (hk : K x [some o, some o']) : KWk 2 K x (some o :: some o' :: G) := by
 refine ⟨x, [some o, some o'], ?_, hk⟩
 have h1 := Wk_forget (n0 := 2) (fr := [x]) (H := some o :: some o' :: G) 2 (Nat.le_refl _)
 rw [renL_bare _ _ (by simp [bareL, hx])] at h1
 have e : mapH (renL (upTo 2)) ((some o :: some o' :: G).take 2) = [some o, some o'] := by
  simp only [List.take_succ_cons, List.take_zero, mapH, List.map_cons, List.map_nil, Option.map_some, ho, ho']
 rwa [e] at h1
def laterA (i j : Int) (d : Dset) : Bool := decide (d.kind = 2) && decide (d.origin = i) && decide (j < d.id)
theorem later64 (d : Dset) (i j : Int) : C Tryz.prog 77 [.agg (cellD d), .ptr 0 0 0 1, .ptr 1 0 0 1] [some [[.int .i64 i]], some [[.int .i64 j]]] (fun x H' => x = .bool (laterA i j d) ∧ H' = [some [[.int .i64 i]], some [[.int .i64 j]]]) := by
 refine C_body' d77 rfl (WT_ok ?_)
 delta c77 I0 I1 I2 I3 I4 I5 I6 I7 I8 I9 KI
 unfold laterA
 simp only [cellD, aset, lay, wk, iaddrV_map, seval]
 refine guard_both ?_ ?_ <;> intro h <;> simp only [hy] at h
 ·simp only [h, cellD, aset, lay, wk, iaddrV_map, seval]
  refine guard_both ?_ ?_ <;> intro h2 <;> simp only [hy] at h2
  ·simp only [h, h2, cellD, aset, lay, wk, iaddrV_map, seval]
   refine KWk_two (by simp [bare]) (by simp [renL, ren]) (by simp [renL, ren]) ⟨rfl, rfl⟩
  ·simp only [h, h2, cellD, aset, lay, wk, iaddrV_map, seval]
   refine KWk_two (by simp [bare]) (by simp [renL, ren]) (by simp [renL, ren]) ⟨?_, rfl⟩
   first | rfl | simp
 ·simp only [h, cellD, aset, lay, wk, iaddrV_map, seval]
  refine KWk_two (by simp [bare]) (by simp [renL, ren]) (by simp [renL, ren]) ⟨?_, rfl⟩
  first | rfl | simp
end Go.Proofs.YtemjlopoffjmpaaGreat.Abs
set_option linter.unusedSimpArgs false
set_option linter.unusedVariables false
namespace Go.Proofs.YtemjlopoffjmpaaGreat.Abs
open Go Go.Proofs
def zeroC : List AV := [.int .i64 0, .int .i64 0, .int .i64 0, .int .i64 0, .emp]
theorem delete67 (l : List Dset) (hl : l.length ≤ 1000000) (i : Nat) (hi : i < l.length) :
 C Tryz.prog 65 [.own 0 5 0 l.length l.length, .int .i64 i, .int .i64 ((i + 1 : Nat) : Int)] [some (l.map cellD)] (fun x H' => x = .own 0 5 0 (l.length - 1) l.length ∧ H' = [some ((l.eraseIdx i).map cellD ++ [zeroC])]) := by
 refine C_body d65 rfl (WT_ok ?_)
 delta c65 I0 I1 I2 I3 I4 I5 I6 I7 I8 I9 KI
 have h1 : ¬ (i : Int) = ((i + 1 : Nat) : Int) := by omega
 simp only [h1, lay, wk4, wk3, wk, iaddrV_map, Nat.reduceAdd, Nat.reduceSub, Nat.reduceMul, Nat.reduceLeDiff, Nat.reduceEqDiff, Nat.reduceBEq, Int.reduceLE, Int.reduceLT, Int.reduceEq, Int.reduceNe, Int.reduceAdd, Int.reduceSub, Int.reduceToNat, Int.reduceNeg, ↓reduceIte, reduceCtorEq]
 refine ⟨⟨by omega, by omega⟩, ⟨by omega, by omega⟩, ⟨by omega, by omega⟩, ?_⟩
 refine WT_drawE ?_
 refine WDT_more 0 ?_
 have h2 : ¬ i + 1 = 0 := by omega
 have hlen : (l.map cellD).length = l.length := List.length_map _
 have er : (l.eraseIdx i).map cellD = (l.map cellD).take i ++ (l.map cellD).drop (i + 1) := by rw [List.eraseIdx_eq_take_drop_succ, List.map_append, List.map_take, List.map_drop]
 rw [er]
 generalize hcs : l.map cellD = cs at hlen
 have h5 : cs.all (fun e => decide (e.length = 5)) = true := by rw [← hcs]; exact rows5D l
 generalize hn : l.length = n at *
 clear hcs er hn
 by_cases h3 : n ≤ i + 1
 ·have hA : ∀ z, appendV [some cs] 5 56 z (.own 0 5 0 i n) (.fz []) = some (.own 0 5 0 i n, [some cs]) := fun z => appendV_in _ _ _ _ _ _ _ _ _ (by
   simp [apI, srcOf, elemsOf, liveO, AH.at, hlen]; omega)
  simp only [h2, h3, hlen, lay, wk4, wk3, wk, iaddrV_map, Nat.reduceAdd, Nat.reduceSub, Nat.reduceMul, Nat.reduceLeDiff, Nat.reduceEqDiff, Nat.reduceBEq, Int.reduceLE, Int.reduceLT, Int.reduceEq, Int.reduceNe, Int.reduceAdd, Int.reduceSub, Int.reduceToNat, Int.reduceNeg, ↓reduceIte, reduceCtorEq]
  refine ⟨⟨by omega, by omega⟩, ⟨by omega, by omega⟩, by rfl, ?_⟩
  simp only [hA, hlen, lay, wk4, wk3, wk, iaddrV_map, Nat.reduceAdd, Nat.reduceSub, Nat.reduceMul, Nat.reduceLeDiff, Nat.reduceEqDiff, Nat.reduceBEq, Int.reduceLE, Int.reduceLT, Int.reduceEq, Int.reduceNe, Int.reduceAdd, Int.reduceSub, Int.reduceToNat, Int.reduceNeg, ↓reduceIte, reduceCtorEq]
  by_cases h0 : i = 0
  ·subst h0
   have : n = 1 := by omega
   subst this
   simp only [hlen, lay, wk4, wk3, wk, iaddrV_map, Nat.reduceAdd, Nat.reduceSub, Nat.reduceMul, Nat.reduceLeDiff, Nat.reduceEqDiff, Nat.reduceBEq, Int.reduceLE, Int.reduceLT, Int.reduceEq, Int.reduceNe, Int.reduceAdd, Int.reduceSub, Int.reduceToNat, Int.reduceNeg, ↓reduceIte, reduceCtorEq]
   refine ⟨by omega, by omega, ?_⟩
   rw [List.drop_of_length_le (by omega)]; rfl
  ·have h4 : ¬ n ≤ i := by omega
   simp only [h0, h4, hlen, lay, wk4, wk3, wk, iaddrV_map, Nat.reduceAdd, Nat.reduceSub, Nat.reduceMul, Nat.reduceLeDiff, Nat.reduceEqDiff, Nat.reduceBEq, Int.reduceLE, Int.reduceLT, Int.reduceEq, Int.reduceNe, Int.reduceAdd, Int.reduceSub, Int.reduceToNat, Int.reduceNeg, ↓reduceIte, reduceCtorEq]
   have hi1 : i = n - 1 := by omega
   refine ⟨⟨by omega, by omega⟩, ⟨by omega, by omega⟩, by omega, by rw [hi1], ?_⟩
   rw [List.drop_of_length_le (by omega), List.drop_of_length_le (by omega), show n - i = 1 by omega]
   simp only [List.append_nil]; rfl
 ·have hB : ∀ z, appendV [some cs] 5 56 z (.own 0 5 0 i n) (.own 0 5 (i + 1) (n - (i + 1)) n) = some (.own 0 5 0 (n - 1) n, [some (cs.take i ++ cs.drop (i + 1) ++ cs.drop (n - 1))]) := fun z => appendV_in _ _ _ _ _ _ _ _ _ (by
   have e1 : (cs.drop (i + 1)).take (n - (i + 1)) = cs.drop (i + 1) := List.take_of_length_le (by simp [hlen])
   have e2 : i + (n - (i + 1)) = n - 1 := by omega
   have e3 : (cs.drop (i + 1)).all (fun e => decide (e.length = 5)) = true := by
    rw [List.all_eq_true] at h5 ⊢
    exact fun e he => h5 e (List.mem_of_mem_drop he)
   have e4 : srcOf [some cs] (.own 0 5 (i + 1) (n - (i + 1)) n) = some (cs.drop (i + 1)) := by
    rw [srcOf_own, liveO_cons_zero, if_pos hlen, elC_some, if_pos (by omega), e1]
   rw [e4, liveO_cons_zero, if_pos hlen, apI_some, if_pos ⟨e3, by simp [hlen]; omega, by omega⟩]
   simp only [List.length_drop, hlen, Nat.zero_add, e2, List.set_cons_zero])
  have hos : (cs.take i ++ cs.drop (i + 1) ++ cs.drop (n - 1)).length = n := by simp [hlen]; omega
  have hot : (cs.take i ++ cs.drop (i + 1) ++ cs.drop (n - 1)).take (n - 1) = cs.take i ++ cs.drop (i + 1) := by
   rw [List.take_append_of_le_length (by simp [hlen]; omega), List.take_of_length_le (by simp [hlen]; omega)]
  generalize cs.take i ++ cs.drop (i + 1) ++ cs.drop (n - 1) = os at hB hos hot
  rw [← hot]
  have h4 : ¬ n - 1 = 0 := by omega
  have h6 : ¬ n ≤ n - 1 := by omega
  simp only [h2, h3, hlen, lay, wk4, wk3, wk, iaddrV_map, Nat.reduceAdd, Nat.reduceSub, Nat.reduceMul, Nat.reduceLeDiff, Nat.reduceEqDiff, Nat.reduceBEq, Int.reduceLE, Int.reduceLT, Int.reduceEq, Int.reduceNe, Int.reduceAdd, Int.reduceSub, Int.reduceToNat, Int.reduceNeg, ↓reduceIte, reduceCtorEq]
  refine ⟨⟨by omega, by omega⟩, ⟨by omega, by omega⟩, by rfl, ?_⟩
  simp only [hB, h4, h6, hos, hlen, lay, wk4, wk3, wk, iaddrV_map, Nat.reduceAdd, Nat.reduceSub, Nat.reduceMul, Nat.reduceLeDiff, Nat.reduceEqDiff, Nat.reduceBEq, Int.reduceLE, Int.reduceLT, Int.reduceEq, Int.reduceNe, Int.reduceAdd, Int.reduceSub, Int.reduceToNat, Int.reduceNeg, ↓reduceIte, reduceCtorEq]
  refine ⟨⟨by omega, by omega⟩, ⟨by omega, by omega⟩, by omega, ?_⟩
  rw [List.drop_of_length_le (by omega), show n - (n - 1) = 1 by omega]
  simp only [List.append_nil]; rfl
end Go.Proofs.YtemjlopoffjmpaaGreat.Abs
set_option linter.unusedSimpArgs false
set_option linter.unusedVariables false
namespace Go.Proofs.YtemjlopoffjmpaaGreat.Abs
open Go Go.Proofs
theorem set_at {H : AH} {r : Nat} {o : AObj} (h : H.at r = some o) : H.set r (some o) = H := by
 have h1 := at_lt h
 unfold AH.at at h
 rw [List.getElem?_eq_getElem h1] at h
 have h2 : H[r] = some o := h
 rw [← h2, List.set_getElem_self]
theorem twinO (l : List Dset) (hl : Short l) (r : Nat) (H : AH) (hr : H.at r = some (l.map cellD)) : C Tryz.prog 56 [.own r 5 0 l.length l.length] H (fun x H' => x = .own H.length 5 0 l.length l.length ∧ H' = H ++ [some (l.map cellD)]) := by
 refine C_call [r] (by simp) (by simpa using at_lt hr) (K0 := fun x H' => x = .own 1 5 0 l.length l.length ∧ H' = [some (l.map cellD), some (l.map cellD)]) ?_ ?_
 ·simpa [renL, ren, toCallee, renO_cells, hr] using twinO0 l hl
 ·rintro _ _ ⟨rfl, rfl⟩
  refine ⟨by simp, by simp [ren, toCaller], ?_⟩
  simp [back, setAll, renO_cells, set_at hr]
def addOk (l : List Dset) (next : Int) : Bool := decide (l.length < 8) && decide (1 ≤ next) && decide (next ≤ 65535) && (decide (l.length = 0) || decide ((l.getD (l.length - 1) default).id < next))
def addA (l : List Dset) (next : Int) (x : Dset) : List Dset × Int := if addOk l next = true then (l ++ [{ x with id := next }], 0) else (l, 8)
def outA (r : List Dset × Int) : AV := .tuple [asets r.1, .int .i64 r.2]
theorem Short.snoc {l : List Dset} (h : Short l) (h8 : l.length < 8) {x : Dset} (hx : x.files.length ≤ 1000000) : Short (l ++ [x]) := by
 refine ⟨by simp; omega, fun d hd => ?_⟩
 rcases List.mem_append.1 hd with hd | hd
 ·exact h.2 d hd
 ·rw [List.mem_singleton] at hd; subst hd; exact hx
theorem KWk_sets {K : AV → AH → Prop} {H : AH} (r : Nat) (l : List Dset) (e : Int) (L : Nat) (hL : L = l.length) (hat : H.at r = some (l.map cellD)) (hk : K (.tuple [asets l, .int .i64 e]) []) : KWk 0 K (.tuple [.own r 5 0 L L, .int .i64 e]) H := by
 subst hL
 refine KWk_frozen r (l.map pdset) (by rw [cellsD]; exact hat) _ ?_ hk
 simp only [frzL, frz, renL, ren, asets, if_true, List.length_map, Nat.zero_add, Nat.le_refl, and_self, List.drop_zero]
 rw [List.take_of_length_le (by simp)]
section
variable {c : Nat} {H : AH} {late : List Loc → List Loc → Prop} {K : List Nat → Nat → AV → AH → Prop} {t : Tag K}
theorem CFT_clone (l : List Dset) (hl : l.length ≤ 1000000) (hc : c < H.length) (hk : K [c] (c + 1) (.own c 5 0 l.length l.length) (H.set c (some (l.map cellD)))) : CFT Tryz.prog 48 [asets l] c H late K t := by
 refine CET_ok [] 1 (x := .own 0 5 0 l.length l.length) (H1 := [some (l.map cellD)]) (by simpa [renL, ren, asets] using cloneL0 l hl) (fun y G h => h) ⟨by simp, by simp, by omega, by simp⟩ ?_
 simpa [setAll, renO_cells, ren, toCl, List.range'] using hk
end
theorem add0 (l : List Dset) (hl : Short l) (next : Int) (x : Dset) (hx : x.files.length ≤ 1000000) :
 C Tryz.prog 57 [asets l, .int .i64 next, .agg (cellD x)] [] (fun y H' => y = outA (addA l next x) ∧ H' = []) := by
 have hl1 := hl.1
 refine C_body' d57 rfl (WT_ok ?_)
 delta c57 I0 I1 I2 I3 I4 I5 I6 I7 I8 I9 KI
 by_cases hok : addOk l next = true
 ·rw [show addA l next x = (l ++ [{ x with id := next }], 0) from if_pos hok]
  simp only [addOk, Bool.and_eq_true, Bool.or_eq_true, decide_eq_true_eq] at hok
  obtain ⟨⟨⟨h1, h2⟩, h3⟩, h4⟩ := hok
  have g1 : ¬ (8 : Int) ≤ (l.length : Int) := by omega
  have g2 : ¬ next < 1 := by omega
  have g3 : ¬ 65535 < next := by omega
  have hml : (l ++ [{ x with id := next }]).length = l.length + 1 := by simp
  rcases Nat.eq_zero_or_pos l.length with h0 | h0
  ·have g4 : ¬ (0 : Int) < (l.length : Int) := by omega
   simp only [asets, cellD, aset, g1, g2, g3, g4, lay, wk3, wk, iaddrV_map, Nat.reduceAdd, Nat.reduceSub, Nat.reduceMul, Nat.reduceLeDiff, Nat.reduceEqDiff, Nat.reduceBEq, Int.reduceLE, Int.reduceLT, Int.reduceEq, Int.reduceNe, Int.reduceAdd, Int.reduceSub, Int.reduceToNat, Int.reduceNeg, ↓reduceIte, reduceCtorEq]
   refine WT_drawE ?_
   refine WDT_more 2 ?_
   simp only [lay, wk3, wk, iaddrV_map, Nat.reduceAdd, Nat.reduceSub, Nat.reduceMul, Nat.reduceLeDiff, Nat.reduceEqDiff, Nat.reduceBEq, Int.reduceLE, Int.reduceLT, Int.reduceEq, Int.reduceNe, Int.reduceAdd, Int.reduceSub, Int.reduceToNat, Int.reduceNeg, ↓reduceIte, reduceCtorEq]
   refine ⟨by omega, CFT_clone l hl1 (by simp) ?_⟩
   simp only [ren, renL, lay, wk3, wk, iaddrV_map, Nat.reduceAdd, Nat.reduceSub, Nat.reduceMul, Nat.reduceLeDiff, Nat.reduceEqDiff, Nat.reduceBEq, Int.reduceLE, Int.reduceLT, Int.reduceEq, Int.reduceNe, Int.reduceAdd, Int.reduceSub, Int.reduceToNat, Int.reduceNeg, ↓reduceIte, reduceCtorEq]
   refine ⟨by rfl, ?_⟩
   refine ⟨⟨by omega, by omega⟩, ?_⟩
   rw [← hml]
   refine CT_ok (twinO (l ++ [{ x with id := next }]) (hl.snoc (by omega) hx) 2 _ (by simp [AH.at, cellD, aset])) ?_
   rintro _ _ ⟨rfl, rfl⟩
   simp only [lay, wk3, wk, iaddrV_map, Nat.reduceAdd, Nat.reduceSub, Nat.reduceMul, Nat.reduceLeDiff, Nat.reduceEqDiff, Nat.reduceBEq, Int.reduceLE, Int.reduceLT, Int.reduceEq, Int.reduceNe, Int.reduceAdd, Int.reduceSub, Int.reduceToNat, Int.reduceNeg, ↓reduceIte, reduceCtorEq]
   refine KWk_sets 3 (l ++ [{ x with id := next }]) 0 _ (by simp) rfl ⟨rfl, rfl⟩
  ·have g4 : (0 : Int) < (l.length : Int) := by omega
   have g5 : ¬ next ≤ (l.getD (l.length - 1) default).id := by omega
   have w1 : IntKind.i64.wrap ((l.length : Int) - 1) = ((l.length - 1 : Nat) : Int) := by rw [IntWalk.i64_in _ (by omega)]; omega
   have g6 : (0 : Int) ≤ ((l.length - 1 : Nat) : Int) := by omega
   have g7 : ((l.length - 1 : Nat) : Int) < (l.length : Int) := by omega
   simp only [asets, cellD, aset, pdset, g1, g2, g3, g4, g5, g6, g7, w1, lay, wk3, wk, iaddrV_map, Nat.reduceAdd, Nat.reduceSub, Nat.reduceMul, Nat.reduceLeDiff, Nat.reduceEqDiff, Nat.reduceBEq, Int.reduceLE, Int.reduceLT, Int.reduceEq, Int.reduceNe, Int.reduceAdd, Int.reduceSub, Int.reduceToNat, Int.reduceNeg, ↓reduceIte, reduceCtorEq]
   refine WT_drawE ?_
   refine WDT_more 2 ?_
   simp only [lay, wk3, wk, iaddrV_map, Nat.reduceAdd, Nat.reduceSub, Nat.reduceMul, Nat.reduceLeDiff, Nat.reduceEqDiff, Nat.reduceBEq, Int.reduceLE, Int.reduceLT, Int.reduceEq, Int.reduceNe, Int.reduceAdd, Int.reduceSub, Int.reduceToNat, Int.reduceNeg, ↓reduceIte, reduceCtorEq]
   refine ⟨by omega, CFT_clone l hl1 (by simp) ?_⟩
   simp only [ren, renL, lay, wk3, wk, iaddrV_map, Nat.reduceAdd, Nat.reduceSub, Nat.reduceMul, Nat.reduceLeDiff, Nat.reduceEqDiff, Nat.reduceBEq, Int.reduceLE, Int.reduceLT, Int.reduceEq, Int.reduceNe, Int.reduceAdd, Int.reduceSub, Int.reduceToNat, Int.reduceNeg, ↓reduceIte, reduceCtorEq]
   refine ⟨by rfl, ?_⟩
   refine ⟨⟨by omega, by omega⟩, ?_⟩
   rw [← hml]
   refine CT_ok (twinO (l ++ [{ x with id := next }]) (hl.snoc (by omega) hx) 2 _ (by simp [AH.at, cellD, aset])) ?_
   rintro _ _ ⟨rfl, rfl⟩
   simp only [lay, wk3, wk, iaddrV_map, Nat.reduceAdd, Nat.reduceSub, Nat.reduceMul, Nat.reduceLeDiff, Nat.reduceEqDiff, Nat.reduceBEq, Int.reduceLE, Int.reduceLT, Int.reduceEq, Int.reduceNe, Int.reduceAdd, Int.reduceSub, Int.reduceToNat, Int.reduceNeg, ↓reduceIte, reduceCtorEq]
   refine KWk_sets 3 (l ++ [{ x with id := next }]) 0 _ (by simp) rfl ⟨rfl, rfl⟩
 ·rw [show addA l next x = (l, 8) from if_neg hok]
  have e5 : ∀ k : Nat, (pdset (l.getD k default)).length = 5 := fun _ => rfl
  by_cases g1 : (8 : Int) ≤ (l.length : Int)
  ·simp only [asets, cellD, aset, g1, lay, wk3, wk, iaddrV_map, Nat.reduceAdd, Nat.reduceSub, Nat.reduceMul, Nat.reduceLeDiff, Nat.reduceEqDiff, Nat.reduceBEq, Int.reduceLE, Int.reduceLT, Int.reduceEq, Int.reduceNe, Int.reduceAdd, Int.reduceSub, Int.reduceToNat, Int.reduceNeg, ↓reduceIte, reduceCtorEq]
   refine CT_ok (twinL l hl _) ?_
   rintro _ _ ⟨rfl, rfl⟩
   simp only [lay, wk3, wk, iaddrV_map, Nat.reduceAdd, Nat.reduceSub, Nat.reduceMul, Nat.reduceLeDiff, Nat.reduceEqDiff, Nat.reduceBEq, Int.reduceLE, Int.reduceLT, Int.reduceEq, Int.reduceNe, Int.reduceAdd, Int.reduceSub, Int.reduceToNat, Int.reduceNeg, ↓reduceIte, reduceCtorEq]
   exact KWk_sets 1 l 8 _ rfl rfl ⟨rfl, rfl⟩
  by_cases g2 : next < 1
  ·simp only [asets, cellD, aset, g1, g2, lay, wk3, wk, iaddrV_map, Nat.reduceAdd, Nat.reduceSub, Nat.reduceMul, Nat.reduceLeDiff, Nat.reduceEqDiff, Nat.reduceBEq, Int.reduceLE, Int.reduceLT, Int.reduceEq, Int.reduceNe, Int.reduceAdd, Int.reduceSub, Int.reduceToNat, Int.reduceNeg, ↓reduceIte, reduceCtorEq]
   refine CT_ok (twinL l hl _) ?_
   rintro _ _ ⟨rfl, rfl⟩
   simp only [lay, wk3, wk, iaddrV_map, Nat.reduceAdd, Nat.reduceSub, Nat.reduceMul, Nat.reduceLeDiff, Nat.reduceEqDiff, Nat.reduceBEq, Int.reduceLE, Int.reduceLT, Int.reduceEq, Int.reduceNe, Int.reduceAdd, Int.reduceSub, Int.reduceToNat, Int.reduceNeg, ↓reduceIte, reduceCtorEq]
   exact KWk_sets 1 l 8 _ rfl rfl ⟨rfl, rfl⟩
  by_cases g3 : 65535 < next
  ·simp only [asets, cellD, aset, g1, g2, g3, lay, wk3, wk, iaddrV_map, Nat.reduceAdd, Nat.reduceSub, Nat.reduceMul, Nat.reduceLeDiff, Nat.reduceEqDiff, Nat.reduceBEq, Int.reduceLE, Int.reduceLT, Int.reduceEq, Int.reduceNe, Int.reduceAdd, Int.reduceSub, Int.reduceToNat, Int.reduceNeg, ↓reduceIte, reduceCtorEq]
   refine CT_ok (twinL l hl _) ?_
   rintro _ _ ⟨rfl, rfl⟩
   simp only [lay, wk3, wk, iaddrV_map, Nat.reduceAdd, Nat.reduceSub, Nat.reduceMul, Nat.reduceLeDiff, Nat.reduceEqDiff, Nat.reduceBEq, Int.reduceLE, Int.reduceLT, Int.reduceEq, Int.reduceNe, Int.reduceAdd, Int.reduceSub, Int.reduceToNat, Int.reduceNeg, ↓reduceIte, reduceCtorEq]
   exact KWk_sets 1 l 8 _ rfl rfl ⟨rfl, rfl⟩
  have hok2 : ¬ (l.length = 0 ∨ (l.getD (l.length - 1) default).id < next) := by
   intro h
   apply hok
   simp only [addOk, Bool.and_eq_true, Bool.or_eq_true, decide_eq_true_eq]
   exact ⟨⟨⟨by omega, by omega⟩, by omega⟩, h⟩
  have g4 : (0 : Int) < (l.length : Int) := by
   have : ¬ l.length = 0 := fun e => hok2 (.inl e)
   omega
  have g5 : next ≤ (l.getD (l.length - 1) default).id := Int.not_lt.1 fun e => hok2 (.inr e)
  have w1 : IntKind.i64.wrap ((l.length : Int) - 1) = ((l.length - 1 : Nat) : Int) := by rw [IntWalk.i64_in _ (by omega)]; omega
  have g6 : (0 : Int) ≤ ((l.length - 1 : Nat) : Int) := by omega
  have g7 : ((l.length - 1 : Nat) : Int) < (l.length : Int) := by omega
  simp only [asets, cellD, aset, pdset, g1, g2, g3, g4, g5, g6, g7, w1, lay, wk3, wk, iaddrV_map, Nat.reduceAdd, Nat.reduceSub, Nat.reduceMul, Nat.reduceLeDiff, Nat.reduceEqDiff, Nat.reduceBEq, Int.reduceLE, Int.reduceLT, Int.reduceEq, Int.reduceNe, Int.reduceAdd, Int.reduceSub, Int.reduceToNat, Int.reduceNeg, ↓reduceIte, reduceCtorEq]
  refine CT_ok (twinL l hl _) ?_
  rintro _ _ ⟨rfl, rfl⟩
  simp only [lay, wk3, wk, iaddrV_map, Nat.reduceAdd, Nat.reduceSub, Nat.reduceMul, Nat.reduceLeDiff, Nat.reduceEqDiff, Nat.reduceBEq, Int.reduceLE, Int.reduceLT, Int.reduceEq, Int.reduceNe, Int.reduceAdd, Int.reduceSub, Int.reduceToNat, Int.reduceNeg, ↓reduceIte, reduceCtorEq]
  exact KWk_sets 1 l 8 _ rfl rfl ⟨rfl, rfl⟩
theorem outA_bare (r : List Dset × Int) : bare (outA r) = true := by simp [outA, bare, bareL, asets]
theorem C_any {f : FuncId} {args : List AV} {y : AV} (h : C Tryz.prog f args [] (fun x H' => x = y ∧ H' = [])) (ha : bareL args = true) (hy : bare y = true) (H : AH) : C Tryz.prog f args H (fun x H' => x = y ∧ H' = H) :=
 C_pure (K0 := fun x => x = y) h (fun τ => renL_bare τ _ ha) (by rintro x rfl τ; exact ren_bare τ _ hy) H
theorem addL (l : List Dset) (hl : Short l) (next : Int) (x : Dset) (hx : x.files.length ≤ 1000000) (H : AH) :
 C Tryz.prog 57 [asets l, .int .i64 next, .agg (cellD x)] H (fun y H' => y = outA (addA l next x) ∧ H' = H) :=
 C_any (add0 l hl next x hx) (by simp [bareL, bare, asets, cellD, aset]) (outA_bare _) H
end Go.Proofs.YtemjlopoffjmpaaGreat.Abs
namespace Go.Proofs.YtemjlopoffjmpaaGreat.Abs
open Go
def c24 : ACode :=
 (.seq (.reg [I1 6 (.mv (.c (.emp))), I1 7 (.mv (KI 0))])
 (.seq (.reg [I0 11 0, I0 12 2, I1 13 (.call 27 [(.t 11), (.t 12)]), I0 10 13, I8 14 10 0, I8 15 10 1, I1 8 (.alloc [.int .i64 0, .int .i64 0, .int .i64 0, .int .i64 0, .emp]), I9 5 8 14, I0 9 15])
 (.seq (.block 0
 (.seq (.reg [I0 17 9, I1 18 (.un .not (.t 17)), I0 16 18])
 (.cond (.t 16)
 (.seq (.reg [I0 19 0, I1 20 (.call 56 [(.t 19)]), I0 6 20, I1 7 (.mv (KI 2))])
 .ret)
 (.seq (.reg [I6 22 1 8, I7 23 22, I1 24 (.bini .eql (.t 23) (KI 2)), I0 21 24])
 (.cond (.t 21)
 (.seq (.reg [I0 25 0, I1 26 (.call 56 [(.t 25)]), I0 6 26, I1 7 (.mv (KI 11))])
 .ret)
 .skip)))))
 (.seq (.reg [I0 27 0, I0 28 1, I0 29 2, I6 30 4 8, I7 31 30, I1 32 (.build [.int .i64 0, .int .i64 0, .int .i64 0, .int .i64 0, .emp] [(1, 1, (KI 2)), (2, 1, (.t 29)), (4, 1, (.t 31))]), I1 33 (.call 57 [(.t 27), (.t 28), (.t 32)]), I8 34 33 0, I8 35 33 1, I0 6 34, I0 7 35])
 .ret))))
theorem d24 : FnD Tryz.prog 24 3 33 [.tmp 6, .tmp 7] c24 := ⟨Tryz.f24, _, Tryz.func24, by kernel_rfl, rfl, rfl, by kernel_rfl, by kernel_rfl⟩
end Go.Proofs.YtemjlopoffjmpaaGreat.Abs
namespace Go.Proofs.YtemjlopoffjmpaaGreat.Abs
open Go
def c25 : ACode :=
 (.seq (.reg [I1 6 (.mv (.c (.emp))), I1 7 (.mv (KI 0))])
 (.seq (.reg [I0 11 0, I0 12 2, I1 13 (.call 27 [(.t 11), (.t 12)]), I0 10 13, I8 14 10 0, I8 15 10 1, I1 8 (.alloc [.int .i64 0, .int .i64 0, .int .i64 0, .int .i64 0, .emp]), I9 5 8 14, I0 9 15])
 (.seq (.block 0
 (.seq (.reg [I0 17 9, I1 18 (.un .not (.t 17)), I0 16 18])
 (.cond (.t 16)
 (.seq (.reg [I0 19 0, I1 20 (.call 56 [(.t 19)]), I0 6 20, I1 7 (.mv (KI 2))])
 .ret)
 (.seq (.reg [I6 22 1 8, I7 23 22, I1 24 (.bini .neq (.t 23) (KI 2)), I0 21 24])
 (.cond (.t 21)
 (.seq (.reg [I0 25 0, I1 26 (.call 56 [(.t 25)]), I0 6 26, I1 7 (.mv (KI 1))])
 .ret)
 .skip)))))
 (.seq (.reg [I0 27 0, I0 28 1, I0 29 2, I6 30 4 8, I7 31 30, I1 32 (.build [.int .i64 0, .int .i64 0, .int .i64 0, .int .i64 0, .emp] [(1, 1, (KI 1)), (2, 1, (.t 29)), (4, 1, (.t 31))]), I1 33 (.call 57 [(.t 27), (.t 28), (.t 32)]), I8 34 33 0, I8 35 33 1, I0 6 34, I0 7 35])
 .ret))))
theorem d25 : FnD Tryz.prog 25 3 33 [.tmp 6, .tmp 7] c25 := ⟨Tryz.f25, _, Tryz.func25, by kernel_rfl, rfl, rfl, by kernel_rfl, by kernel_rfl⟩
end Go.Proofs.YtemjlopoffjmpaaGreat.Abs
namespace Go.Proofs.YtemjlopoffjmpaaGreat.Abs
open Go
def c27 : ACode :=
 (.seq (.reg [I1 4 (.alloc [.int .i64 0, .int .i64 0, .int .i64 0, .int .i64 0, .emp]), I1 5 (.mv (.c (.bool false)))])
 (.seq (.reg [I0 7 0, I1 8 (.call 56 [(.t 7)]), I0 0 8])
 (.seq (.reg [I0 9 0, I0 10 1, I1 11 (.call 59 [(.t 9), (.t 10)]), I0 6 11])
 (.seq (.seq (.reg [I0 12 6, I1 13 (.bini .lss (.t 12) (KI 0))])
 (.cond (.t 13)
 (.seq (.reg [I1 14 (.build [.int .i64 0, .int .i64 0, .int .i64 0, .int .i64 0, .emp] []), I9 5 4 14, I1 5 (.mv (.c (.bool false)))])
 .ret)
 .skip))
 (.seq (.reg [I0 15 0, I0 16 6, I1 17 (.iaddr 5 (.t 15) (.t 16)), I1 18 (.load true 5 (.t 17)), I9 5 4 18, I1 5 (.mv (.c (.bool true)))])
 .ret)))))
theorem d27 : FnD Tryz.prog 27 2 17 [.cell 4 true 5, .tmp 5] c27 := ⟨Tryz.f27, _, Tryz.func27, by kernel_rfl, rfl, rfl, by kernel_rfl, by kernel_rfl⟩
end Go.Proofs.YtemjlopoffjmpaaGreat.Abs
namespace Go.Proofs.YtemjlopoffjmpaaGreat.Abs
open Go
def c37 : ACode :=
 (.seq (.reg [I1 6 (.mv (.c (.emp))), I1 7 (.mv (KI 0))])
 (.seq (.seq (.reg [I0 8 2, I1 9 (.bini .lss (.t 8) (KI 0)), I0 10 9, I5 11 10 2, I3 12 10 (.bini .gtr (.t 11) (KI 255)), I1 13 (.pick (.t 10) (.c (.bool true)) (.t 12))])
 (.cond (.t 13)
 (.seq (.reg [I0 14 0, I1 15 (.call 56 [(.t 14)]), I0 6 15, I1 7 (.mv (KI 1))])
 .ret)
 .skip))
 (.seq (.reg [I0 16 0, I0 17 1, I0 18 2, I1 19 (.call 76 []), I1 20 (.build [.int .i64 0, .int .i64 0, .int .i64 0, .int .i64 0, .emp] [(1, 1, (KI 1)), (3, 1, (.t 18)), (4, 1, (.t 19))]), I1 21 (.call 57 [(.t 16), (.t 17), (.t 20)]), I8 22 21 0, I8 23 21 1, I0 6 22, I0 7 23])
 .ret)))
theorem d37 : FnD Tryz.prog 37 3 21 [.tmp 6, .tmp 7] c37 := ⟨Tryz.f37, _, Tryz.func37, by kernel_rfl, rfl, rfl, by kernel_rfl, by kernel_rfl⟩
end Go.Proofs.YtemjlopoffjmpaaGreat.Abs
namespace Go.Proofs.YtemjlopoffjmpaaGreat.Abs
open Go
def c76 : ACode :=
 (.seq (.reg [I1 0 (.mv (.c (.emp)))])
 (.seq (.reg [I1 2 (.mksl 5 56 [.int .i64 0, .int .i64 0, .str [], .str [], .int .i64 0] (KI 8) (KI 8)), I0 1 2])
 (.seq (.reg [I0 3 1, I1 4 (.iaddr 5 (.t 3) (KI 0)), I6 5 0 4, ⟨none, none, .store 1 (.t 5) (KI 2)⟩])
 (.seq (.reg [I0 6 1, I0 0 6])
 .ret))))
theorem d76 : FnD Tryz.prog 76 0 7 [.tmp 0] c76 := ⟨Tryz.f76, _, Tryz.func76, by kernel_rfl, rfl, rfl, by kernel_rfl, by kernel_rfl⟩
end Go.Proofs.YtemjlopoffjmpaaGreat.Abs
set_option linter.unusedSimpArgs false
set_option linter.unusedVariables false
namespace Go.Proofs.YtemjlopoffjmpaaGreat.Abs
open Go Go.Proofs
theorem findAt (l : List Dset) (hl : l.length ≤ 1000000) (i : Int) (r : Nat) (H : AH) (hr : H.at r = some (l.map cellD)) : C Tryz.prog 59 [.own r 5 0 l.length l.length, .int .i64 i] H (fun x H' => x = .int .i64 (findA l i) ∧ H' = H) := by
 refine C_call [r] (by simp) (by simpa using at_lt hr) (K0 := fun x H' => x = .int .i64 (findA l i) ∧ H' = [some (l.map cellD)]) ?_ ?_
 ·simpa [renL, ren, toCallee, renO_cells, hr] using find0 l hl i
 ·rintro _ _ ⟨rfl, rfl⟩
  refine ⟨by simp, by simp [ren], ?_⟩
  simp [back, setAll, renO_cells, set_at hr]
theorem isAt (l : List Dset) (hl : l.length ≤ 1000000) (i k : Int) (r : Nat) (H : AH) (hr : H.at r = some (l.map cellD)) : C Tryz.prog 60 [.own r 5 0 l.length l.length, .int .i64 i, .int .i64 k] H (fun x H' => x = .bool (isA l i k) ∧ H' = H) := by
 refine C_call [r] (by simp) (by simpa using at_lt hr) (K0 := fun x H' => x = .bool (isA l i k) ∧ H' = [some (l.map cellD)]) ?_ ?_
 ·simpa [renL, ren, toCallee, renO_cells, hr] using is63 l hl i k []
 ·rintro _ _ ⟨rfl, rfl⟩
  refine ⟨by simp, by simp [ren], ?_⟩
  simp [back, setAll, renO_cells, set_at hr]
def getA (l : List Dset) (i : Int) : Option Dset := if 0 ≤ findA l i then some (l.getD (findA l i).toNat default) else none
def getV : Option Dset → AV
 | some d => .tuple [.agg (cellD d), .bool true]
 | none => .tuple [.agg [.int .i64 0, .int .i64 0, .int .i64 0, .int .i64 0, .emp], .bool false]
theorem getV_bare (o : Option Dset) : bare (getV o) = true := by cases o <;> simp [getV, bare, bareL, cellD, aset]
theorem get0 (l : List Dset) (hl : Short l) (i : Int) : C Tryz.prog 27 [asets l, .int .i64 i] [] (fun x H' => x = getV (getA l i) ∧ H' = []) := by
 have hl1 := hl.1
 refine C_body' d27 rfl (WT_ok ?_)
 delta c27 I0 I1 I2 I3 I4 I5 I6 I7 I8 I9 KI
 simp only [lay, wk3, wk, iaddrV_map, Nat.reduceAdd, Nat.reduceSub, Nat.reduceMul, Nat.reduceLeDiff, Nat.reduceEqDiff, Nat.reduceBEq, Int.reduceLE, Int.reduceLT, Int.reduceEq, Int.reduceNe, Int.reduceAdd, Int.reduceSub, Int.reduceToNat, Int.reduceNeg, ↓reduceIte, reduceCtorEq]
 refine CT_ok (twinL l hl _) ?_
 rintro _ _ ⟨rfl, rfl⟩
 simp only [lay, wk3, wk, iaddrV_map, Nat.reduceAdd, Nat.reduceSub, Nat.reduceMul, Nat.reduceLeDiff, Nat.reduceEqDiff, Nat.reduceBEq, Int.reduceLE, Int.reduceLT, Int.reduceEq, Int.reduceNe, Int.reduceAdd, Int.reduceSub, Int.reduceToNat, Int.reduceNeg, ↓reduceIte, reduceCtorEq]
 refine CT_ok (findAt l hl1 i 1 _ rfl) ?_
 rintro _ _ ⟨rfl, rfl⟩
 unfold getA
 rcases find_of (l := l) (i := i) with ⟨e, _⟩ | ⟨k, e, hk, _, _⟩
 ·simp only [e, lay, wk3, wk, iaddrV_map, Nat.reduceAdd, Nat.reduceSub, Nat.reduceMul, Nat.reduceLeDiff, Nat.reduceEqDiff, Nat.reduceBEq, Int.reduceLE, Int.reduceLT, Int.reduceEq, Int.reduceNe, Int.reduceAdd, Int.reduceSub, Int.reduceToNat, Int.reduceNeg, ↓reduceIte, reduceCtorEq]
  exact KWk_bare (by simp [bare, bareL]) ⟨rfl, rfl⟩
 ·have hc := cell_at hk
  have h0 : (0 : Int) ≤ k := by omega
  have h1 : (k : Int) < l.length := by omega
  have h2 : ¬ (k : Int) < 0 := by omega
  rw [e]
  simp only [hc, h0, h1, h2, cellD, aset, lay, wk3, wk, iaddrV_map, Nat.reduceAdd, Nat.reduceSub, Nat.reduceMul, Nat.reduceLeDiff, Nat.reduceEqDiff, Nat.reduceBEq, Int.reduceLE, Int.reduceLT, Int.reduceEq, Int.reduceNe, Int.reduceAdd, Int.reduceSub, Int.reduceToNat, Int.reduceNeg, ↓reduceIte, reduceCtorEq]
  exact KWk_bare (by simp [bare, bareL]) ⟨rfl, rfl⟩
theorem getL (l : List Dset) (hl : Short l) (i : Int) (H : AH) : C Tryz.prog 27 [asets l, .int .i64 i] H (fun x H' => x = getV (getA l i) ∧ H' = H) :=
 C_any (get0 l hl i) (by simp [bareL, bare, asets]) (getV_bare _) H
theorem getA_mem {l : List Dset} {i : Int} {d : Dset} (h : getA l i = some d) : d ∈ l ∧ d.id = i := by
 unfold getA at h
 rcases find_of (l := l) (i := i) with ⟨e, _⟩ | ⟨k, e, hk, hid, _⟩
 ·rw [e] at h; cases h
 ·rw [e, if_pos (by omega), Int.toNat_natCast] at h
  cases h
  refine ⟨?_, hid⟩
  rw [List.getD_eq_getElem?_getD, List.getElem?_eq_getElem hk]; exact List.getElem_mem hk
theorem newN0 : C Tryz.prog 76 [] [] (fun x H' => x = aset newA ∧ H' = []) := by
 refine C_body' d76 rfl (WT_ok ?_)
 delta c76 I0 I1 I2 I3 I4 I5 I6 I7 I8 I9 KI
 simp only [lay, wk3, wk, iaddrV_map, Nat.reduceAdd, Nat.reduceSub, Nat.reduceMul, Nat.reduceLeDiff, Nat.reduceEqDiff, Nat.reduceBEq, Int.reduceLE, Int.reduceLT, Int.reduceEq, Int.reduceNe, Int.reduceAdd, Int.reduceSub, Int.reduceToNat, Int.reduceNeg, ↓reduceIte, reduceCtorEq]
 exact ⟨by omega, KWk_frozen 0 (newA.map pnode) rfl (aset newA) rfl ⟨rfl, rfl⟩⟩
theorem newN (H : AH) : C Tryz.prog 76 [] H (fun x H' => x = aset newA ∧ H' = H) := C_any newN0 rfl (by simp [aset, bare]) H
def createA (l : List Dset) (next q : Int) : List Dset × Int := if q < 0 ∨ 255 < q then (l, 1) else addA l next ⟨0, 1, 0, q, newA⟩
theorem create0 (l : List Dset) (hl : Short l) (next q : Int) : C Tryz.prog 37 [asets l, .int .i64 next, .int .i64 q] [] (fun x H' => x = outA (createA l next q) ∧ H' = []) := by
 refine C_body' d37 rfl (WT_ok ?_)
 delta c37 I0 I1 I2 I3 I4 I5 I6 I7 I8 I9 KI createA
 by_cases h1 : q < 0
 ·rw [if_pos (.inl h1)]
  simp only [h1, lay, wk3, wk, iaddrV_map, Nat.reduceAdd, Nat.reduceSub, Nat.reduceMul, Nat.reduceLeDiff, Nat.reduceEqDiff, Nat.reduceBEq, Int.reduceLE, Int.reduceLT, Int.reduceEq, Int.reduceNe, Int.reduceAdd, Int.reduceSub, Int.reduceToNat, Int.reduceNeg, ↓reduceIte, reduceCtorEq]
  refine CT_ok (twinL l hl _) ?_
  rintro _ _ ⟨rfl, rfl⟩
  simp only [lay, wk3, wk, iaddrV_map, Nat.reduceAdd, Nat.reduceSub, Nat.reduceMul, Nat.reduceLeDiff, Nat.reduceEqDiff, Nat.reduceBEq, Int.reduceLE, Int.reduceLT, Int.reduceEq, Int.reduceNe, Int.reduceAdd, Int.reduceSub, Int.reduceToNat, Int.reduceNeg, ↓reduceIte, reduceCtorEq]
  exact KWk_sets 0 l 1 _ rfl rfl ⟨rfl, rfl⟩
 by_cases h2 : 255 < q
 ·rw [if_pos (.inr h2)]
  simp only [h1, h2, lay, wk3, wk, iaddrV_map, Nat.reduceAdd, Nat.reduceSub, Nat.reduceMul, Nat.reduceLeDiff, Nat.reduceEqDiff, Nat.reduceBEq, Int.reduceLE, Int.reduceLT, Int.reduceEq, Int.reduceNe, Int.reduceAdd, Int.reduceSub, Int.reduceToNat, Int.reduceNeg, ↓reduceIte, reduceCtorEq]
  refine CT_ok (twinL l hl _) ?_
  rintro _ _ ⟨rfl, rfl⟩
  simp only [lay, wk3, wk, iaddrV_map, Nat.reduceAdd, Nat.reduceSub, Nat.reduceMul, Nat.reduceLeDiff, Nat.reduceEqDiff, Nat.reduceBEq, Int.reduceLE, Int.reduceLT, Int.reduceEq, Int.reduceNe, Int.reduceAdd, Int.reduceSub, Int.reduceToNat, Int.reduceNeg, ↓reduceIte, reduceCtorEq]
  exact KWk_sets 0 l 1 _ rfl rfl ⟨rfl, rfl⟩
 ·rw [if_neg (fun h => h.elim h1 h2)]
  simp only [h1, h2, lay, wk3, wk, iaddrV_map, Nat.reduceAdd, Nat.reduceSub, Nat.reduceMul, Nat.reduceLeDiff, Nat.reduceEqDiff, Nat.reduceBEq, Int.reduceLE, Int.reduceLT, Int.reduceEq, Int.reduceNe, Int.reduceAdd, Int.reduceSub, Int.reduceToNat, Int.reduceNeg, ↓reduceIte, reduceCtorEq]
  refine CT_ok (newN _) ?_
  rintro _ _ ⟨rfl, rfl⟩
  simp only [aset, lay, wk3, wk, iaddrV_map, Nat.reduceAdd, Nat.reduceSub, Nat.reduceMul, Nat.reduceLeDiff, Nat.reduceEqDiff, Nat.reduceBEq, Int.reduceLE, Int.reduceLT, Int.reduceEq, Int.reduceNe, Int.reduceAdd, Int.reduceSub, Int.reduceToNat, Int.reduceNeg, ↓reduceIte, reduceCtorEq]
  refine CT_ok (addL l hl next ⟨0, 1, 0, q, newA⟩ (show newA.length ≤ 1000000 by decide) _) ?_
  rintro _ _ ⟨rfl, rfl⟩
  simp only [outA, lay, wk3, wk, iaddrV_map, Nat.reduceAdd, Nat.reduceSub, Nat.reduceMul, Nat.reduceLeDiff, Nat.reduceEqDiff, Nat.reduceBEq, Int.reduceLE, Int.reduceLT, Int.reduceEq, Int.reduceNe, Int.reduceAdd, Int.reduceSub, Int.reduceToNat, Int.reduceNeg, ↓reduceIte, reduceCtorEq]
  exact KWk_bare (by simp [bare, bareL, asets]) ⟨rfl, rfl⟩
def snapA (l : List Dset) (next i : Int) : List Dset × Int := match getA l i with
 | none => (l, 2)
 | some d => if d.kind = 2 then (l, 11) else addA l next ⟨0, 2, i, 0, d.files⟩
theorem snap0 (l : List Dset) (hl : Short l) (next i : Int) : C Tryz.prog 24 [asets l, .int .i64 next, .int .i64 i] [] (fun x H' => x = outA (snapA l next i) ∧ H' = []) := by
 refine C_body' d24 rfl (WT_ok ?_)
 delta c24 I0 I1 I2 I3 I4 I5 I6 I7 I8 I9 KI
 simp only [lay, wk3, wk, iaddrV_map, Nat.reduceAdd, Nat.reduceSub, Nat.reduceMul, Nat.reduceLeDiff, Nat.reduceEqDiff, Nat.reduceBEq, Int.reduceLE, Int.reduceLT, Int.reduceEq, Int.reduceNe, Int.reduceAdd, Int.reduceSub, Int.reduceToNat, Int.reduceNeg, ↓reduceIte, reduceCtorEq]
 refine CT_ok (getL l hl i _) ?_
 rintro _ _ ⟨rfl, rfl⟩
 cases hg : getA l i with
 | none =>
   have e : snapA l next i = (l, 2) := by unfold snapA; rw [hg]
   rw [e]
   simp only [getV, lay, wk3, wk, iaddrV_map, Nat.reduceAdd, Nat.reduceSub, Nat.reduceMul, Nat.reduceLeDiff, Nat.reduceEqDiff, Nat.reduceBEq, Int.reduceLE, Int.reduceLT, Int.reduceEq, Int.reduceNe, Int.reduceAdd, Int.reduceSub, Int.reduceToNat, Int.reduceNeg, ↓reduceIte, reduceCtorEq]
   refine CT_ok (twinL l hl _) ?_
   rintro _ _ ⟨rfl, rfl⟩
   simp only [lay, wk3, wk, iaddrV_map, Nat.reduceAdd, Nat.reduceSub, Nat.reduceMul, Nat.reduceLeDiff, Nat.reduceEqDiff, Nat.reduceBEq, Int.reduceLE, Int.reduceLT, Int.reduceEq, Int.reduceNe, Int.reduceAdd, Int.reduceSub, Int.reduceToNat, Int.reduceNeg, ↓reduceIte, reduceCtorEq]
   exact KWk_sets 1 l 2 _ rfl rfl ⟨rfl, rfl⟩
 | some d =>
   have hd := hl.2 d (getA_mem hg).1
   by_cases h2 : d.kind = 2
   ·have e : snapA l next i = (l, 11) := by unfold snapA; rw [hg]; exact if_pos h2
    rw [e]
    simp only [getV, h2, cellD, aset, lay, wk3, wk, iaddrV_map, Nat.reduceAdd, Nat.reduceSub, Nat.reduceMul, Nat.reduceLeDiff, Nat.reduceEqDiff, Nat.reduceBEq, Int.reduceLE, Int.reduceLT, Int.reduceEq, Int.reduceNe, Int.reduceAdd, Int.reduceSub, Int.reduceToNat, Int.reduceNeg, ↓reduceIte, reduceCtorEq]
    refine CT_ok (twinL l hl _) ?_
    rintro _ _ ⟨rfl, rfl⟩
    simp only [lay, wk3, wk, iaddrV_map, Nat.reduceAdd, Nat.reduceSub, Nat.reduceMul, Nat.reduceLeDiff, Nat.reduceEqDiff, Nat.reduceBEq, Int.reduceLE, Int.reduceLT, Int.reduceEq, Int.reduceNe, Int.reduceAdd, Int.reduceSub, Int.reduceToNat, Int.reduceNeg, ↓reduceIte, reduceCtorEq]
    exact KWk_sets 1 l 11 _ rfl rfl ⟨rfl, rfl⟩
   ·have e : snapA l next i = addA l next ⟨0, 2, i, 0, d.files⟩ := by unfold snapA; rw [hg]; exact if_neg h2
    rw [e]
    simp only [getV, h2, cellD, aset, lay, wk3, wk, iaddrV_map, Nat.reduceAdd, Nat.reduceSub, Nat.reduceMul, Nat.reduceLeDiff, Nat.reduceEqDiff, Nat.reduceBEq, Int.reduceLE, Int.reduceLT, Int.reduceEq, Int.reduceNe, Int.reduceAdd, Int.reduceSub, Int.reduceToNat, Int.reduceNeg, ↓reduceIte, reduceCtorEq]
    refine CT_ok (addL l hl next ⟨0, 2, i, 0, d.files⟩ hd _) ?_
    rintro _ _ ⟨rfl, rfl⟩
    simp only [outA, lay, wk3, wk, iaddrV_map, Nat.reduceAdd, Nat.reduceSub, Nat.reduceMul, Nat.reduceLeDiff, Nat.reduceEqDiff, Nat.reduceBEq, Int.reduceLE, Int.reduceLT, Int.reduceEq, Int.reduceNe, Int.reduceAdd, Int.reduceSub, Int.reduceToNat, Int.reduceNeg, ↓reduceIte, reduceCtorEq]
    exact KWk_bare (by simp [bare, bareL, asets]) ⟨rfl, rfl⟩
def cloneA (l : List Dset) (next i : Int) : List Dset × Int := match getA l i with
 | none => (l, 2)
 | some d => if d.kind = 2 then addA l next ⟨0, 1, i, 0, d.files⟩ else (l, 1)
theorem dclone0 (l : List Dset) (hl : Short l) (next i : Int) : C Tryz.prog 25 [asets l, .int .i64 next, .int .i64 i] [] (fun x H' => x = outA (cloneA l next i) ∧ H' = []) := by
 refine C_body' d25 rfl (WT_ok ?_)
 delta c25 I0 I1 I2 I3 I4 I5 I6 I7 I8 I9 KI
 simp only [lay, wk3, wk, iaddrV_map, Nat.reduceAdd, Nat.reduceSub, Nat.reduceMul, Nat.reduceLeDiff, Nat.reduceEqDiff, Nat.reduceBEq, Int.reduceLE, Int.reduceLT, Int.reduceEq, Int.reduceNe, Int.reduceAdd, Int.reduceSub, Int.reduceToNat, Int.reduceNeg, ↓reduceIte, reduceCtorEq]
 refine CT_ok (getL l hl i _) ?_
 rintro _ _ ⟨rfl, rfl⟩
 cases hg : getA l i with
 | none =>
   have e : cloneA l next i = (l, 2) := by unfold cloneA; rw [hg]
   rw [e]
   simp only [getV, lay, wk3, wk, iaddrV_map, Nat.reduceAdd, Nat.reduceSub, Nat.reduceMul, Nat.reduceLeDiff, Nat.reduceEqDiff, Nat.reduceBEq, Int.reduceLE, Int.reduceLT, Int.reduceEq, Int.reduceNe, Int.reduceAdd, Int.reduceSub, Int.reduceToNat, Int.reduceNeg, ↓reduceIte, reduceCtorEq]
   refine CT_ok (twinL l hl _) ?_
   rintro _ _ ⟨rfl, rfl⟩
   simp only [lay, wk3, wk, iaddrV_map, Nat.reduceAdd, Nat.reduceSub, Nat.reduceMul, Nat.reduceLeDiff, Nat.reduceEqDiff, Nat.reduceBEq, Int.reduceLE, Int.reduceLT, Int.reduceEq, Int.reduceNe, Int.reduceAdd, Int.reduceSub, Int.reduceToNat, Int.reduceNeg, ↓reduceIte, reduceCtorEq]
   exact KWk_sets 1 l 2 _ rfl rfl ⟨rfl, rfl⟩
 | some d =>
   have hd := hl.2 d (getA_mem hg).1
   by_cases h2 : d.kind = 2
   ·have e : cloneA l next i = addA l next ⟨0, 1, i, 0, d.files⟩ := by unfold cloneA; rw [hg]; exact if_pos h2
    rw [e]
    simp only [getV, h2, cellD, aset, lay, wk3, wk, iaddrV_map, Nat.reduceAdd, Nat.reduceSub, Nat.reduceMul, Nat.reduceLeDiff, Nat.reduceEqDiff, Nat.reduceBEq, Int.reduceLE, Int.reduceLT, Int.reduceEq, Int.reduceNe, Int.reduceAdd, Int.reduceSub, Int.reduceToNat, Int.reduceNeg, ↓reduceIte, reduceCtorEq]
    refine CT_ok (addL l hl next ⟨0, 1, i, 0, d.files⟩ hd _) ?_
    rintro _ _ ⟨rfl, rfl⟩
    simp only [outA, lay, wk3, wk, iaddrV_map, Nat.reduceAdd, Nat.reduceSub, Nat.reduceMul, Nat.reduceLeDiff, Nat.reduceEqDiff, Nat.reduceBEq, Int.reduceLE, Int.reduceLT, Int.reduceEq, Int.reduceNe, Int.reduceAdd, Int.reduceSub, Int.reduceToNat, Int.reduceNeg, ↓reduceIte, reduceCtorEq]
    exact KWk_bare (by simp [bare, bareL, asets]) ⟨rfl, rfl⟩
   ·have e : cloneA l next i = (l, 1) := by unfold cloneA; rw [hg]; exact if_neg h2
    rw [e]
    simp only [getV, h2, cellD, aset, lay, wk3, wk, iaddrV_map, Nat.reduceAdd, Nat.reduceSub, Nat.reduceMul, Nat.reduceLeDiff, Nat.reduceEqDiff, Nat.reduceBEq, Int.reduceLE, Int.reduceLT, Int.reduceEq, Int.reduceNe, Int.reduceAdd, Int.reduceSub, Int.reduceToNat, Int.reduceNeg, ↓reduceIte, reduceCtorEq]
    refine CT_ok (twinL l hl _) ?_
    rintro _ _ ⟨rfl, rfl⟩
    simp only [lay, wk3, wk, iaddrV_map, Nat.reduceAdd, Nat.reduceSub, Nat.reduceMul, Nat.reduceLeDiff, Nat.reduceEqDiff, Nat.reduceBEq, Int.reduceLE, Int.reduceLT, Int.reduceEq, Int.reduceNe, Int.reduceAdd, Int.reduceSub, Int.reduceToNat, Int.reduceNeg, ↓reduceIte, reduceCtorEq]
    exact KWk_sets 1 l 1 _ rfl rfl ⟨rfl, rfl⟩
end Go.Proofs.YtemjlopoffjmpaaGreat.Abs
set_option linter.unusedSimpArgs false
set_option linter.unusedVariables false
namespace Go.Proofs.YtemjlopoffjmpaaGreat.Abs
open Go Go.Proofs
theorem iaddr_dset (H : AH) (l : List Dset) (k : IntKind) (n : Int) : iaddrV H 5 (.fz (l.map pdset)) (.int k n) = if 0 ≤ n ∧ n < l.length then some (.fptr (pdset (l.getD n.toNat default))) else none := by
 rw [iaddrV_map]
 have : (pdset (l.getD n.toNat default)).length = 5 := rfl
 simp only [this, and_true]
theorem rid68 (n : Int) (H : AH) : C Tryz.prog 61 [.int .i64 n] H (fun x H' => x = .bool (decide (0 ≤ n) && decide (n ≤ 65535)) ∧ H' = H) := by
 refine C_body d61 rfl (WT_ok ?_)
 delta c61 I0 I1 I2 I3 I4 I5 I6 I7 I8 I9 KI
 simp only [lay, wk3, wk, iaddrV_map, seval]
 refine guard_both ?_ ?_ <;> intro h <;> simp only [hy] at h <;> simp only [h, lay, Bool.false_and, wk3, wk, iaddrV_map, seval]
theorem rat85 (l : List Dset) (hl : l.length ≤ 1000000) (i : Int) (H : AH) : C Tryz.prog 52 [asets l, .int .i64 i] H (fun x H' => x = .int .i64 (findA l i) ∧ H' = H) := by
 refine C_body d52 rfl (WT_ok ?_)
 delta c52 I0 I1 I2 I3 I4 I5 I6 I7 I8 I9 KI
 simp only [asets, lay, wk3, wk, iaddrV_map, seval]
 refine WT_loop (W_loop (fun n fr H' => ∃ k : Nat, k ≤ l.length ∧ n = l.length - k ∧ (∀ j, j < k → (l.getD j default).id ≠ i) ∧ H' = H ∧ fr = [asets l, .int .i64 i, .top, .top, .int .i64 0, .int .i64 k] ++ List.replicate 14 .top) l.length ⟨0, by omega, rfl, fun j hj => by omega, rfl, rfl⟩ ?_)
 rintro n fr H' ⟨k, hk, rfl, hne, rfl, rfl⟩
 refine WT_ok ?_
 simp only [asets, lay, wk3, wk, iaddrV_map, seval]
 refine guard_both ?_ ?_ <;> intro h <;> simp only [hy] at h
 ·have hk2 : k < l.length := by omega
  have w2 : IntKind.i64.wrap ((k : Int) + 1) = (k : Int) + 1 := IntWalk.i64_in _ (by omega)
  have h0 : (0 : Int) ≤ k := by omega
  have e5 : (pdset (l.getD k default)).length = 5 := rfl
  simp only [h, h0, e5, pdset, lay, wk3, wk, iaddrV_map, seval]
  by_cases hid : (l.getD k default).id = i
  ·simp only [hid, lay, wk3, wk, iaddrV_map, seval]
   unfold findA
   rw [idxA_some hk2 (by simpa using hid) (fun j hj => by simpa using hne j hj)]
  ·simp only [hid, w2, lay, wk3, wk, iaddrV_map, seval]
   refine QLoop_go (n' := l.length - (k + 1)) (by omega) ⟨k + 1, by omega, rfl, fun j hj => ?_, rfl, rfl⟩ ?_
   ·rcases Nat.lt_or_ge j k with h' | h'
    ·exact hne j h'
    ·have : j = k := by omega
     subst this; exact hid
   ·simp only [asets, tq]
 ·simp only [h, lay, wk3, wk, iaddrV_map, seval]
  unfold findA
  rw [idxA_none fun j hj => by simpa using hne j (by omega)]
theorem rget0 (l : List Dset) (hl : l.length ≤ 1000000) (i : Int) : C Tryz.prog 30 [asets l, .int .i64 i] [] (fun x H' => x = getV (getA l i) ∧ H' = []) := by
 refine C_body' d30 rfl (WT_ok ?_)
 delta c30 I0 I1 I2 I3 I4 I5 I6 I7 I8 I9 KI
 simp only [lay, wk3, wk, iaddrV_map, seval]
 refine CT_ok (rat85 l hl i _) ?_
 rintro _ _ ⟨rfl, rfl⟩
 unfold getA
 rcases find_of (l := l) (i := i) with ⟨e, _⟩ | ⟨k, e, hk, _, _⟩
 ·simp only [e, asets, lay, wk3, wk, iaddrV_map, seval]
  exact KWk_bare (by simp [bare, bareL]) ⟨rfl, rfl⟩
 ·have h0 : (0 : Int) ≤ k := by omega
  have h1 : (k : Int) < l.length := by omega
  have h2 : ¬ (k : Int) < 0 := by omega
  have e5 : (pdset (l.getD k default)).length = 5 := rfl
  rw [e]
  simp only [h0, h1, h2, e5, asets, pdset, lay, wk3, wk, iaddrV_map, seval]
  exact KWk_bare (by simp [bare, bareL]) ⟨rfl, rfl⟩
theorem rgetL (l : List Dset) (hl : l.length ≤ 1000000) (i : Int) (H : AH) : C Tryz.prog 30 [asets l, .int .i64 i] H (fun x H' => x = getV (getA l i) ∧ H' = H) :=
 C_any (rget0 l hl i) (by simp [bareL, bare, asets]) (getV_bare _) H
theorem bad96 (s : List Node) (hs : s.length ≤ 1000000) (H : AH) : C Tryz.prog 130 [aset s] H (fun x H' => x = .bool (s.any fun x => decide (x.bad ≠ 0)) ∧ H' = H) := by
 refine C_body d130 rfl (WT_ok ?_)
 delta c130 I0 I1 I2 I3 I4 I5 I6 I7 I8 I9 KI
 simp only [aset, wk, iaddrV_map, seval]
 refine WT_loop (W_loop (fun n fr H' => ∃ i : Nat, i ≤ s.length ∧ n = s.length - i ∧ (∀ j, j < i → (s.getD j default).bad = 0) ∧ H' = H ∧ fr = [aset s, .top, .bool false, .int .i64 i] ++ List.replicate 12 .top) s.length ⟨0, by omega, rfl, fun j hj => by omega, rfl, rfl⟩ ?_)
 rintro n fr H' ⟨i, hi, rfl, hj, rfl, rfl⟩
 refine WT_ok ?_
 simp only [aset, iaddr_node, pnode, wk3, wk, seval]
 refine guard_both ?_ ?_ <;> intro h <;> simp only [hy] at h
 ·have hil : i < s.length := by omega
  have h0 : (0 : Int) ≤ i := by omega
  have w2 : IntKind.i64.wrap ((i : Int) + 1) = (i : Int) + 1 := IntWalk.i64_in _ (by omega)
  by_cases h2 : (s.getD i default).bad = 0
  ·simp only [h, h0, h2, w2, iaddr_node, pnode, wk3, wk, seval]
   refine QLoop_go (n' := s.length - (i + 1)) (by omega) ⟨i + 1, by omega, rfl, fun j hj2 => ?_, rfl, rfl⟩ ?_
   ·rcases Nat.lt_or_ge j i with h' | h'
    ·exact hj j h'
    ·have : j = i := by omega
     subst this; exact h2
   ·simp only [aset, tq]
  ·simp only [h, h0, h2, iaddr_node, pnode, wk3, wk, seval]
   have : (s.any fun x => decide (x.bad ≠ 0)) = true := by
    rw [List.any_eq_true]
    exact ⟨_, getD_mem hil, by simpa using h2⟩
   rw [this]
 ·simp only [h, iaddr_node, pnode, wk3, wk, seval]
  have : (s.any fun x => decide (x.bad ≠ 0)) = false := by
   rw [List.any_eq_false]
   intro x hx
   obtain ⟨n, hn, rfl⟩ := mem_getD hx
   simpa using hj n (by omega)
  rw [this]
theorem folder_exact (s : List Node) (n : Int) (H : AH) : C Tryz.prog 128 [aset s, .int .i64 n] H (fun x H' => x = .bool (decide (0 ≤ n ∧ n < s.length) && decide ((s.getD n.toNat default).kind = 2 ∨ (s.getD n.toNat default).kind = 3)) ∧ H' = H) := by
 refine C_body d128 rfl (WT_ok ?_)
 delta c128 I0 I1 I2 I3 I4 I5 I6 I7 I8 I9 KI
 simp only [aset, iaddr_node, pnode, wk3, wk, seval]
 by_cases h : 0 ≤ n
 ·by_cases h2 : n < s.length
  ·simp only [h, h2, iaddr_node, pnode, wk3, wk, seval]
   by_cases h3 : (s.getD n.toNat default).kind = 2
   ·simp only [h3, true_or, iaddr_node, pnode, wk3, wk, seval]
    simp [h, h2]
   ·by_cases h4 : (s.getD n.toNat default).kind = 3
    ·simp only [h3, h4, or_true, iaddr_node, pnode, wk3, wk, seval]
     exact ⟨⟨h, h2⟩, by simp [h, h2]⟩
    ·simp only [h3, h4, or_false, iaddr_node, pnode, wk3, wk, seval]
     exact ⟨⟨h, h2⟩, by simp⟩
  ·simp only [h, h2, and_false, Bool.false_and, iaddr_node, pnode, wk3, wk, seval]
 ·simp only [h, false_and, Bool.false_and, iaddr_node, pnode, wk3, wk, seval]
theorem eqCells_node (x y : Node) : eqCells [.i, .i, .s, .s, .i] [.int .i64 x.kind, .int .i64 x.up, .str x.name, .str x.body, .int .i64 x.bad] [.int .i64 y.kind, .int .i64 y.up, .str y.name, .str y.body, .int .i64 y.bad] = some (decide (x = y)) := by
 simp only [eqCells, if_true, Option.map_some, Option.some.injEq]
 cases x; cases y
 simp only [Node.mk.injEq]
 rw [Bool.eq_iff_iff]
 simp only [Bool.and_eq_true, beq_iff_eq, decide_eq_true_eq, and_true]
theorem same33 (a b : List Node) (ha : a.length ≤ 1000000) (hb : b.length ≤ 1000000) (H : AH) : C Tryz.prog 28 [aset a, aset b] H (fun x H' => x = .bool (decide (a = b)) ∧ H' = H) := by
 refine C_body d28 rfl (WT_ok ?_)
 delta c28 I0 I1 I2 I3 I4 I5 I6 I7 I8 I9 KI
 simp only [aset, iaddr_node, pnode, wk3, wk, seval]
 by_cases hlen : a.length = b.length
 ·have hlen' : (a.length : Int) = b.length := by omega
  simp only [hlen', iaddr_node, pnode, wk3, wk, seval]
  refine WT_loop (W_wk (fr' := [aset a, aset b, .top, .top, .bool false, .int .i64 0] ++ List.replicate 20 .top) (Wk_tops ?_) (W_loop (fun n fr H' => ∃ i : Nat, i ≤ a.length ∧ n = a.length - i ∧ (∀ j, j < i → a.getD j default = b.getD j default) ∧ H' = H ∧ fr = [aset a, aset b, .top, .top, .bool false, .int .i64 i] ++ List.replicate 20 .top) a.length ⟨0, by omega, rfl, fun j hj => by omega, rfl, rfl⟩ ?_))
  ·simp only [aset, tp]
  rintro n fr H' ⟨i, hi, rfl, hj, rfl, rfl⟩
  refine WT_ok ?_
  simp only [aset, iaddr_node, pnode, wk3, wk, seval]
  refine guard_both ?_ ?_ <;> intro h <;> simp only [hy] at h
  ·have hil : i < a.length := by omega
   have h0 : (0 : Int) ≤ i := by omega
   have h1 : (i : Int) < b.length := by omega
   have w2 : IntKind.i64.wrap ((i : Int) + 1) = (i : Int) + 1 := IntWalk.i64_in _ (by omega)
   simp only [h, iaddr_node, pnode, wk3, wk, seval]
   refine WT_draw ?_
   by_cases h2 : a.getD i default = b.getD i default
   ·simp only [h, h0, h1, h2, eqCells_node, w2, iaddr_node, pnode, wk3, wk, seval]
    refine QLoop_go (n' := a.length - (i + 1)) (by omega) ⟨i + 1, by omega, rfl, fun j hj2 => ?_, rfl, rfl⟩ ?_
    ·rcases Nat.lt_or_ge j i with h' | h'
     ·exact hj j h'
     ·have : j = i := by omega
      subst this; exact h2
    ·simp only [aset, tq]
   ·have : ¬ a = b := fun e => h2 (by rw [e])
    simp only [h, h0, h1, h2, this, eqCells_node, w2, iaddr_node, pnode, wk3, wk, seval]
  ·have : a = b := by
    apply List.ext_getElem hlen
    intro j h1 h2
    have := hj j (by omega)
    rwa [List.getD_eq_getElem?_getD, List.getElem?_eq_getElem h1, List.getD_eq_getElem?_getD, List.getElem?_eq_getElem h2] at this
   have hd : decide (a = b) = true := decide_eq_true this
   simp only [h, hd, iaddr_node, pnode, wk3, wk, seval]
 ·have hlen' : ¬ (a.length : Int) = b.length := by omega
  have : ¬ a = b := fun e => hlen (by rw [e])
  simp only [hlen', this, iaddr_node, pnode, wk3, wk, seval]
end Go.Proofs.YtemjlopoffjmpaaGreat.Abs
set_option linter.unusedSimpArgs false
set_option linter.unusedVariables false
namespace Go.Proofs.YtemjlopoffjmpaaGreat.Abs
open Go Go.Proofs
theorem asets_bare (l : List Dset) : bare (asets l) = true := by simp [asets, bare]
theorem sameS0 (a b : List Dset) (ha : Short a) (hb : Short b) : C Tryz.prog 18 [asets a, asets b] [] (fun x H' => x = .bool (decide (a = b)) ∧ H' = []) := by
 have ha1 := ha.1
 have hb1 := hb.1
 refine C_body' d18 rfl (WT_ok ?_)
 delta c18 I0 I1 I2 I3 I4 I5 I6 I7 I8 I9 KI
 simp only [asets, wk3, wk, iaddrV_map, Nat.reduceAdd, Nat.reduceSub, Nat.reduceMul, Nat.reduceLeDiff, Nat.reduceEqDiff, Nat.reduceBEq, Int.reduceLE, Int.reduceLT, Int.reduceEq, Int.reduceNe, Int.reduceAdd, Int.reduceSub, Int.reduceToNat, Int.reduceNeg, ↓reduceIte, reduceCtorEq]
 by_cases hlen : a.length = b.length
 ·have hlen' : (a.length : Int) = b.length := by omega
  simp only [hlen', wk3, wk, iaddrV_map, Nat.reduceAdd, Nat.reduceSub, Nat.reduceMul, Nat.reduceLeDiff, Nat.reduceEqDiff, Nat.reduceBEq, Int.reduceLE, Int.reduceLT, Int.reduceEq, Int.reduceNe, Int.reduceAdd, Int.reduceSub, Int.reduceToNat, Int.reduceNeg, ↓reduceIte, reduceCtorEq]
  refine WT_loop (W_wk (fr' := [asets a, asets b, .top, .top, .bool false, .int .i64 0] ++ List.replicate 55 .top) (Wk_tops ?_) (W_loop (fun n fr H' => ∃ i : Nat, i ≤ a.length ∧ n = a.length - i ∧ (∀ j, j < i → a.getD j default = b.getD j default) ∧ H' = [] ∧ fr = [asets a, asets b, .top, .top, .bool false, .int .i64 i] ++ List.replicate 55 .top) a.length ⟨0, by omega, rfl, fun j hj => by omega, rfl, rfl⟩ ?_))
  ·simp only [asets, tp]
  rintro n fr H' ⟨i, hi, rfl, hj, rfl, rfl⟩
  refine WT_ok ?_
  simp only [asets, iaddr_dset, wk3, wk, iaddrV_map, Nat.reduceAdd, Nat.reduceSub, Nat.reduceMul, Nat.reduceLeDiff, Nat.reduceEqDiff, Nat.reduceBEq, Int.reduceLE, Int.reduceLT, Int.reduceEq, Int.reduceNe, Int.reduceAdd, Int.reduceSub, Int.reduceToNat, Int.reduceNeg, ↓reduceIte, reduceCtorEq]
  refine guard_both ?_ ?_ <;> intro h <;> simp only [hy] at h
  ·have hil : i < a.length := by omega
   have h0 : (0 : Int) ≤ i := by omega
   have h1 : (i : Int) < b.length := by omega
   have w2 : IntKind.i64.wrap ((i : Int) + 1) = (i : Int) + 1 := IntWalk.i64_in _ (by omega)
   have hfa := ha.get hil
   have hfb := hb.get (show i < b.length by omega)
   have hne : a.getD i default ≠ b.getD i default → decide (a = b) = false := fun h => decide_eq_false fun e => h (by rw [e])
   have hnext : a.getD i default = b.getD i default → ∀ j, j < i + 1 → a.getD j default = b.getD j default := fun h j hj2 => by
    rcases Nat.lt_or_ge j i with h' | h'
    ·exact hj j h'
    ·have : j = i := by omega
     subst this; exact h
   simp only [h, iaddr_dset, wk3, wk, iaddrV_map, Nat.reduceAdd, Nat.reduceSub, Nat.reduceMul, Nat.reduceLeDiff, Nat.reduceEqDiff, Nat.reduceBEq, Int.reduceLE, Int.reduceLT, Int.reduceEq, Int.reduceNe, Int.reduceAdd, Int.reduceSub, Int.reduceToNat, Int.reduceNeg, ↓reduceIte, reduceCtorEq]
   refine WT_drawE ?_
   refine WDT_more 2 ?_
   simp only [h, h0, h1, iaddr_dset, pdset, ren, renL, lay, wk3, wk, iaddrV_map, Nat.reduceAdd, Nat.reduceSub, Nat.reduceMul, Nat.reduceLeDiff, Nat.reduceEqDiff, Nat.reduceBEq, Int.reduceLE, Int.reduceLT, Int.reduceEq, Int.reduceNe, Int.reduceAdd, Int.reduceSub, Int.reduceToNat, Int.reduceNeg, ↓reduceIte, reduceCtorEq]
   refine ⟨by omega, by omega, by omega, by rfl, ?_⟩
   generalize a.getD i default = x at hfa hne hnext ⊢
   generalize b.getD i default = y at hfb hne hnext ⊢
   by_cases q1 : x.id = y.id
   case neg =>
    simp only [q1, lay, wk3, wk, iaddrV_map, Nat.reduceAdd, Nat.reduceSub, Nat.reduceMul, Nat.reduceLeDiff, Nat.reduceEqDiff, Nat.reduceBEq, Int.reduceLE, Int.reduceLT, Int.reduceEq, Int.reduceNe, Int.reduceAdd, Int.reduceSub, Int.reduceToNat, Int.reduceNeg, ↓reduceIte, reduceCtorEq]
    exact KWk_bare rfl ⟨by rw [hne (fun e => q1 (by rw [e]))], rfl⟩
   by_cases q2 : x.kind = y.kind
   case neg =>
    simp only [q1, q2, lay, wk3, wk, iaddrV_map, Nat.reduceAdd, Nat.reduceSub, Nat.reduceMul, Nat.reduceLeDiff, Nat.reduceEqDiff, Nat.reduceBEq, Int.reduceLE, Int.reduceLT, Int.reduceEq, Int.reduceNe, Int.reduceAdd, Int.reduceSub, Int.reduceToNat, Int.reduceNeg, ↓reduceIte, reduceCtorEq]
    exact KWk_bare rfl ⟨by rw [hne (fun e => q2 (by rw [e]))], rfl⟩
   by_cases q3 : x.origin = y.origin
   case neg =>
    simp only [q1, q2, q3, lay, wk3, wk, iaddrV_map, Nat.reduceAdd, Nat.reduceSub, Nat.reduceMul, Nat.reduceLeDiff, Nat.reduceEqDiff, Nat.reduceBEq, Int.reduceLE, Int.reduceLT, Int.reduceEq, Int.reduceNe, Int.reduceAdd, Int.reduceSub, Int.reduceToNat, Int.reduceNeg, ↓reduceIte, reduceCtorEq]
    exact KWk_bare rfl ⟨by rw [hne (fun e => q3 (by rw [e]))], rfl⟩
   by_cases q4 : x.quota = y.quota
   case neg =>
    simp only [q1, q2, q3, q4, lay, wk3, wk, iaddrV_map, Nat.reduceAdd, Nat.reduceSub, Nat.reduceMul, Nat.reduceLeDiff, Nat.reduceEqDiff, Nat.reduceBEq, Int.reduceLE, Int.reduceLT, Int.reduceEq, Int.reduceNe, Int.reduceAdd, Int.reduceSub, Int.reduceToNat, Int.reduceNeg, ↓reduceIte, reduceCtorEq]
    exact KWk_bare rfl ⟨by rw [hne (fun e => q4 (by rw [e]))], rfl⟩
   simp only [q1, q2, q3, q4, lay, wk3, wk, iaddrV_map, Nat.reduceAdd, Nat.reduceSub, Nat.reduceMul, Nat.reduceLeDiff, Nat.reduceEqDiff, Nat.reduceBEq, Int.reduceLE, Int.reduceLT, Int.reduceEq, Int.reduceNe, Int.reduceAdd, Int.reduceSub, Int.reduceToNat, Int.reduceNeg, ↓reduceIte, reduceCtorEq]
   refine CT_ok (same33 x.files y.files hfa hfb _) ?_
   rintro _ _ ⟨rfl, rfl⟩
   by_cases q5 : x.files = y.files
   case neg =>
    simp only [q5, lay, wk3, wk, iaddrV_map, Nat.reduceAdd, Nat.reduceSub, Nat.reduceMul, Nat.reduceLeDiff, Nat.reduceEqDiff, Nat.reduceBEq, Int.reduceLE, Int.reduceLT, Int.reduceEq, Int.reduceNe, Int.reduceAdd, Int.reduceSub, Int.reduceToNat, Int.reduceNeg, ↓reduceIte, reduceCtorEq]
    exact KWk_bare rfl ⟨by rw [hne (fun e => q5 (by rw [e]))], rfl⟩
   have q : x = y := by cases x; cases y; simp_all
   simp only [q5, w2, lay, wk3, wk, iaddrV_map, Nat.reduceAdd, Nat.reduceSub, Nat.reduceMul, Nat.reduceLeDiff, Nat.reduceEqDiff, Nat.reduceBEq, Int.reduceLE, Int.reduceLT, Int.reduceEq, Int.reduceNe, Int.reduceAdd, Int.reduceSub, Int.reduceToNat, Int.reduceNeg, ↓reduceIte, reduceCtorEq]
   refine QLoop_wk (n' := a.length - (i + 1)) (by omega) ⟨i + 1, by omega, rfl, hnext q, rfl, rfl⟩ (Wk_none ?_)
   simp only [asets, renL, ren, tq]
  ·have : a = b := by
    apply List.ext_getElem hlen
    intro j h1 h2
    have := hj j (by omega)
    rwa [List.getD_eq_getElem?_getD, List.getElem?_eq_getElem h1, List.getD_eq_getElem?_getD, List.getElem?_eq_getElem h2] at this
   have hd : decide (a = b) = true := decide_eq_true this
   simp only [h, hd, wk3, wk, iaddrV_map, Nat.reduceAdd, Nat.reduceSub, Nat.reduceMul, Nat.reduceLeDiff, Nat.reduceEqDiff, Nat.reduceBEq, Int.reduceLE, Int.reduceLT, Int.reduceEq, Int.reduceNe, Int.reduceAdd, Int.reduceSub, Int.reduceToNat, Int.reduceNeg, ↓reduceIte, reduceCtorEq]
   exact KWk_bare rfl ⟨rfl, rfl⟩
 ·have hlen' : ¬ (a.length : Int) = b.length := by omega
  have : ¬ a = b := fun e => hlen (by rw [e])
  simp only [hlen', this, wk3, wk, iaddrV_map, Nat.reduceAdd, Nat.reduceSub, Nat.reduceMul, Nat.reduceLeDiff, Nat.reduceEqDiff, Nat.reduceBEq, Int.reduceLE, Int.reduceLT, Int.reduceEq, Int.reduceNe, Int.reduceAdd, Int.reduceSub, Int.reduceToNat, Int.reduceNeg, ↓reduceIte, reduceCtorEq]
  exact KWk_bare rfl ⟨rfl, rfl⟩
theorem sameS (a b : List Dset) (ha : Short a) (hb : Short b) (H : AH) : C Tryz.prog 18 [asets a, asets b] H (fun x H' => x = .bool (decide (a = b)) ∧ H' = H) :=
 C_any (sameS0 a b ha hb) (by simp [bareL, asets_bare]) rfl H
end Go.Proofs.YtemjlopoffjmpaaGreat.Abs
set_option linter.unusedSimpArgs false
set_option linter.unusedVariables false
namespace Go.Proofs.YtemjlopoffjmpaaGreat.Abs
open Go Go.Proofs
theorem eqCells5 (k u b k' u' b' : Int) (nm bo nm' bo' : List UInt8) : eqCells [.i, .i, .s, .s, .i] [.int .i64 k, .int .i64 u, .str nm, .str bo, .int .i64 b] [.int .i64 k', .int .i64 u', .str nm', .str bo', .int .i64 b'] = some (decide (k = k') && (decide (u = u') && (decide (nm = nm') && (decide (bo = bo') && decide (b = b'))))) := by
 have h := eqCells_node ⟨k, u, nm, bo, b⟩ ⟨k', u', nm', bo', b'⟩
 refine h.trans ?_
 congr 1
 rw [Bool.eq_iff_iff]
 simp only [Node.mk.injEq, Bool.and_eq_true, decide_eq_true_eq]
set_option maxRecDepth 10000 in
set_option maxHeartbeats 1000000 in
theorem torn0 (s : List Node) (hw : Wf s) : C Tryz.prog 103 [aset s] [] (fun x H' => x = .bool true ∧ H' = []) := by
 have hlen := hw.len
 refine C_body' d103 rfl (WT_ok ?_)
 delta c103 I0 I1 I2 I3 I4 I5 I6 I7 I8 I9 KI
 have htop := hw.top
 have hl8 : (s.length : Int) = 8 := by omega
 have hz : (s.getD (0 : Int).toNat default) = ⟨2, 0, [], [], 0⟩ := htop
 simp only [aset, hl8, eqCells5, htop, iaddr_node, pnode, wk3, wk, seval]
 refine WT_loop (W_wk (fr' := [aset s, .top, .bool false, .int .i64 (1 : Nat)] ++ List.replicate 136 .top) (Wk_tops ?_) (W_loop (fun n fr H' => ∃ i : Nat, 1 ≤ i ∧ i ≤ 8 ∧ n = 8 - i ∧ H' = [] ∧ fr = [aset s, .top, .bool false, .int .i64 i] ++ List.replicate 136 .top) 7 ⟨1, by omega, by omega, rfl, rfl, rfl⟩ ?_))
 ·simp only [aset, tp, Int.cast_ofNat_Int]
 rintro n fr H' ⟨i, h1, h8, rfl, rfl, rfl⟩
 refine WT_ok ?_
 simp only [aset, hl8, iaddr_node, pnode, wk3, wk, seval]
 refine guard_both ?_ ?_ <;> intro h <;> simp only [hy] at h
 ·have hi8 : i < 8 := by omega
  have ho := hw.ok i h1 hi8
  have h0 : (0 : Int) ≤ i := by omega
  have w2 : IntKind.i64.wrap ((i : Int) + 1) = (i : Int) + 1 := IntWalk.i64_in _ (by omega)
  have hch : (s.getD i default).kind ≠ 0 → itUp s 8 i = 0 := hw.climb hi8
  have hun := fun k hk1 hk8 => hw.uniq k i hk1 hk8 h1 hi8
  have hupk : (s.getD i default).kind ≠ 0 → (s.getD (s.getD i default).up.toNat default).kind = 2 := ho.upf
  generalize hx : s.getD i default = x at ho hch hun hupk ⊢
  by_cases hk0 : x.kind = 0
  ·have hxz : x = ⟨0, 0, [], [], 0⟩ := ho.none hk0
   subst hxz
   simp only [h, h0, hx, hl8, eqCells5, w2, lay, iaddr_node, pnode, wk3, wk, seval]
   refine QLoop_wk (n' := 8 - (i + 1)) (by omega) ⟨i + 1, by omega, by omega, rfl, rfl, rfl⟩ (Wk_none ?_)
   simp only [aset, renL, ren, tq]
  ·have hb := ho.bad
   have hnm := ho.name hk0
   have hnl := (mayN_len hnm).2
   have hup := ho.up
   have hbo := ho.body
   have hb128 : ¬ (128 : Int) < x.body.length := by omega
   have z128 : ¬ (128 : Int) < ((0 : Nat) : Int) := by decide
   have hN := mayname_spec x.name (by omega)
   have hF := folder_exact s x.up
   have hfd : (decide (0 ≤ x.up ∧ x.up < s.length) && decide ((s.getD x.up.toNat default).kind = 2 ∨ (s.getD x.up.toNat default).kind = 3)) = true := by
    rw [Bool.and_eq_true]; exact ⟨decide_eq_true ⟨hup.1, by omega⟩, decide_eq_true (.inl (hupk hk0))⟩
   rw [hfd] at hF
   rw [hnm] at hN
   have hun2 : ∀ k : Nat, 1 ≤ k → k < i → (s.getD k default).kind ≠ 0 → (s.getD k default).up = x.up → (s.getD k default).name ≠ x.name := fun k hk1 hk2 hkk hku hkn => by
    have := hun k hk1 (by omega) hkk hk0 hku hkn
    omega
   have hk2 : ∀ k : Nat, k < 8 → (s.getD k default).kind ≠ 3 := fun k hk8 => by rcases hw.kindsD k (by omega) with e | e | e <;> rw [e] <;> decide
   have hit : itUp s 8 i = 0 := hch hk0
   have h8i : i ≠ 0 := by omega
   have hit8 : ∀ m, itUp s m i < 8 := fun m => hw.itUp8 m hi8
   have hxk : (s.getD i default).kind ≠ 0 := by rw [hx]; exact hk0
   rcases ho.kinds with e | e | e
   ·exact absurd e hk0
   ·simp only [h, h0, hx, hl8, e, hb, w2, lay, iaddr_node, pnode, wk3, wk, seval]
    refine CT_ok (hN _) ?_
    rintro _ _ ⟨rfl, rfl⟩
    simp only [lay, iaddr_node, pnode, wk3, wk, seval]
    refine CT_ok (hF _) ?_
    rintro _ _ ⟨rfl, rfl⟩
    simp only [hb128, lay, iaddr_node, pnode, wk3, wk, seval]
    refine WT_loop (W_wk (fr' := [aset s, .top, .bool false, .int .i64 i, .ptr 0 0 0 1, .int .i64 (1 : Nat)] ++ List.replicate 134 .top) (Wk_tops ?_) (W_loop (fun n fr H' => ∃ (k : Nat) (kd bd : Int) (bo : List UInt8), 1 ≤ k ∧ k ≤ i ∧ n = i - k ∧ H' = [some [[.int .i64 kd, .int .i64 x.up, .str x.name, .str bo, .int .i64 bd]]] ∧ fr = [aset s, .top, .bool false, .int .i64 i, .ptr 0 0 0 1, .int .i64 k] ++ List.replicate 134 .top) (i - 1) ⟨1, _, _, _, by omega, by omega, rfl, rfl, rfl⟩ ?_))
    ·simp only [aset, tp, Int.cast_ofNat_Int]
    rintro n fr H' ⟨k, kd, bd, bo, hk1, hki, rfl, rfl, rfl⟩
    refine WT_ok ?_
    simp only [aset, lay, iaddr_node, pnode, wk3, wk, seval]
    refine guard_both ?_ ?_ <;> intro hh <;> simp only [hy] at hh
    ·have g0 : (0 : Int) ≤ k := by omega
     have g1 : (k : Int) < 8 := by omega
     have v2 : IntKind.i64.wrap ((k : Int) + 1) = (k : Int) + 1 := IntWalk.i64_in _ (by omega)
     have hu3 := hun2 k hk1 (by omega)
     have hk3 := hk2 k (by omega)
     simp only [hh, aset, lay, iaddr_node, pnode, wk3, wk, seval]
     refine WT_draw ?_
     by_cases z0 : (s.getD k default).kind = 0
     ·simp only [hh, g0, g1, hl8, z0, v2, lay, iaddr_node, pnode, wk3, wk, seval]
      refine QLoop_go (n' := i - (k + 1)) (by omega) ⟨k + 1, kd, bd, bo, by omega, by omega, rfl, rfl, rfl⟩ ?_
      simp only [aset, tq]
     ·by_cases z1 : (s.getD k default).up = x.up
      ·have z2 := hu3 z0 z1
       simp only [hh, g0, g1, hl8, z0, hk3, z1, z2, v2, lay, iaddr_node, pnode, wk3, wk, seval]
       refine QLoop_go (n' := i - (k + 1)) (by omega) ⟨k + 1, kd, bd, bo, by omega, by omega, rfl, rfl, rfl⟩ ?_
       simp only [aset, tq]
      ·simp only [hh, g0, g1, hl8, z0, hk3, z1, v2, lay, iaddr_node, pnode, wk3, wk, seval]
       refine QLoop_go (n' := i - (k + 1)) (by omega) ⟨k + 1, kd, bd, bo, by omega, by omega, rfl, rfl, rfl⟩ ?_
       simp only [aset, tq]
    ·simp only [hh, aset, lay, iaddr_node, pnode, wk3, wk, seval]
     refine WT_loop (W_wk (fr' := [aset s, .top, .bool false, .int .i64 i, .top, .top, .int .i64 (itUp s 0 i : Nat), .int .i64 (0 : Nat)] ++ List.replicate 132 .top) (Wk_none ?_) (W_loop (fun n fr H' => ∃ k : Nat, k ≤ 8 ∧ n = 8 - k ∧ H' = [] ∧ fr = [aset s, .top, .bool false, .int .i64 i, .top, .top, .int .i64 (itUp s k i : Nat), .int .i64 k] ++ List.replicate 132 .top) 8 ⟨0, by omega, rfl, rfl, rfl⟩ ?_))
     ·simp only [itUp, aset, renL, ren, tp, Int.cast_ofNat_Int]
     rintro n fr H' ⟨k, hk8, rfl, rfl, rfl⟩
     refine WT_ok ?_
     have v2 : IntKind.i64.wrap ((k : Int) + 1) = (k : Int) + 1 := IntWalk.i64_in _ (by omega)
     have g0 : (0 : Int) ≤ (itUp s k i : Nat) := by omega
     have g1 : ((itUp s k i : Nat) : Int) < 8 := by have := hit8 k; omega
     by_cases y0 : (k : Int) < 8
     ·by_cases y1 : (0 : Int) < (itUp s k i : Nat)
      ·simp only [y0, y1, g0, g1, hl8, v2, aset, lay, iaddr_node, pnode, wk3, wk, seval]
       have hupn := hw.upD (itUp s k i) (by have := hit8 k; omega)
       refine QLoop_go (n' := 8 - (k + 1)) (by omega) ⟨k + 1, by omega, rfl, rfl, rfl⟩ ?_
       have eu : ((itUp s (k + 1) i : Nat) : Int) = (s.getD (itUp s k i) default).up := by rw [itUp_succ]; omega
       simp only [aset, eu, tq]
      ·have y2 : ((itUp s k i : Nat) : Int) = 0 := by omega
       simp only [y0, y2, hl8, w2, aset, lay, iaddr_node, pnode, wk3, wk, seval]
       refine QLoop_go (n' := 8 - (i + 1)) (by omega) ⟨i + 1, by omega, by omega, rfl, rfl, rfl⟩ ?_
       simp only [aset, tq]
     ·have hk : k = 8 := by omega
      subst hk
      have y2 : ((itUp s 8 i : Nat) : Int) = 0 := by omega
      simp only [y0, y2, hl8, w2, aset, lay, iaddr_node, pnode, wk3, wk, seval]
      refine QLoop_go (n' := 8 - (i + 1)) (by omega) ⟨i + 1, by omega, by omega, rfl, rfl, rfl⟩ ?_
      simp only [aset, tq]
   ·have hbe := ho.fold e
    simp only [h, h0, hx, hl8, e, hb, hbe, w2, lay, iaddr_node, pnode, wk3, wk, seval]
    refine CT_ok (hN _) ?_
    rintro _ _ ⟨rfl, rfl⟩
    simp only [lay, iaddr_node, pnode, wk3, wk, seval]
    refine CT_ok (hF _) ?_
    rintro _ _ ⟨rfl, rfl⟩
    simp only [z128, lay, iaddr_node, pnode, wk3, wk, seval]
    refine WT_loop (W_wk (fr' := [aset s, .top, .bool false, .int .i64 i, .ptr 0 0 0 1, .int .i64 (1 : Nat)] ++ List.replicate 134 .top) (Wk_tops ?_) (W_loop (fun n fr H' => ∃ (k : Nat) (kd bd : Int) (bo : List UInt8), 1 ≤ k ∧ k ≤ i ∧ n = i - k ∧ H' = [some [[.int .i64 kd, .int .i64 x.up, .str x.name, .str bo, .int .i64 bd]]] ∧ fr = [aset s, .top, .bool false, .int .i64 i, .ptr 0 0 0 1, .int .i64 k] ++ List.replicate 134 .top) (i - 1) ⟨1, _, _, _, by omega, by omega, rfl, rfl, rfl⟩ ?_))
    ·simp only [aset, tp, Int.cast_ofNat_Int]
    rintro n fr H' ⟨k, kd, bd, bo, hk1, hki, rfl, rfl, rfl⟩
    refine WT_ok ?_
    simp only [aset, lay, iaddr_node, pnode, wk3, wk, seval]
    refine guard_both ?_ ?_ <;> intro hh <;> simp only [hy] at hh
    ·have g0 : (0 : Int) ≤ k := by omega
     have g1 : (k : Int) < 8 := by omega
     have v2 : IntKind.i64.wrap ((k : Int) + 1) = (k : Int) + 1 := IntWalk.i64_in _ (by omega)
     have hu3 := hun2 k hk1 (by omega)
     have hk3 := hk2 k (by omega)
     simp only [hh, aset, lay, iaddr_node, pnode, wk3, wk, seval]
     refine WT_draw ?_
     by_cases z0 : (s.getD k default).kind = 0
     ·simp only [hh, g0, g1, hl8, z0, v2, lay, iaddr_node, pnode, wk3, wk, seval]
      refine QLoop_go (n' := i - (k + 1)) (by omega) ⟨k + 1, kd, bd, bo, by omega, by omega, rfl, rfl, rfl⟩ ?_
      simp only [aset, tq]
     ·by_cases z1 : (s.getD k default).up = x.up
      ·have z2 := hu3 z0 z1
       simp only [hh, g0, g1, hl8, z0, hk3, z1, z2, v2, lay, iaddr_node, pnode, wk3, wk, seval]
       refine QLoop_go (n' := i - (k + 1)) (by omega) ⟨k + 1, kd, bd, bo, by omega, by omega, rfl, rfl, rfl⟩ ?_
       simp only [aset, tq]
      ·simp only [hh, g0, g1, hl8, z0, hk3, z1, v2, lay, iaddr_node, pnode, wk3, wk, seval]
       refine QLoop_go (n' := i - (k + 1)) (by omega) ⟨k + 1, kd, bd, bo, by omega, by omega, rfl, rfl, rfl⟩ ?_
       simp only [aset, tq]
    ·simp only [hh, aset, lay, iaddr_node, pnode, wk3, wk, seval]
     refine WT_loop (W_wk (fr' := [aset s, .top, .bool false, .int .i64 i, .top, .top, .int .i64 (itUp s 0 i : Nat), .int .i64 (0 : Nat)] ++ List.replicate 132 .top) (Wk_none ?_) (W_loop (fun n fr H' => ∃ k : Nat, k ≤ 8 ∧ n = 8 - k ∧ H' = [] ∧ fr = [aset s, .top, .bool false, .int .i64 i, .top, .top, .int .i64 (itUp s k i : Nat), .int .i64 k] ++ List.replicate 132 .top) 8 ⟨0, by omega, rfl, rfl, rfl⟩ ?_))
     ·simp only [itUp, aset, renL, ren, tp, Int.cast_ofNat_Int]
     rintro n fr H' ⟨k, hk8, rfl, rfl, rfl⟩
     refine WT_ok ?_
     have v2 : IntKind.i64.wrap ((k : Int) + 1) = (k : Int) + 1 := IntWalk.i64_in _ (by omega)
     have g0 : (0 : Int) ≤ (itUp s k i : Nat) := by omega
     have g1 : ((itUp s k i : Nat) : Int) < 8 := by have := hit8 k; omega
     by_cases y0 : (k : Int) < 8
     ·by_cases y1 : (0 : Int) < (itUp s k i : Nat)
      ·simp only [y0, y1, g0, g1, hl8, v2, aset, lay, iaddr_node, pnode, wk3, wk, seval]
       have hupn := hw.upD (itUp s k i) (by have := hit8 k; omega)
       refine QLoop_go (n' := 8 - (k + 1)) (by omega) ⟨k + 1, by omega, rfl, rfl, rfl⟩ ?_
       have eu : ((itUp s (k + 1) i : Nat) : Int) = (s.getD (itUp s k i) default).up := by rw [itUp_succ]; omega
       simp only [aset, eu, tq]
      ·have y2 : ((itUp s k i : Nat) : Int) = 0 := by omega
       simp only [y0, y2, hl8, w2, aset, lay, iaddr_node, pnode, wk3, wk, seval]
       refine QLoop_go (n' := 8 - (i + 1)) (by omega) ⟨i + 1, by omega, by omega, rfl, rfl, rfl⟩ ?_
       simp only [aset, tq]
     ·have hk : k = 8 := by omega
      subst hk
      have y2 : ((itUp s 8 i : Nat) : Int) = 0 := by omega
      simp only [y0, y2, hl8, w2, aset, lay, iaddr_node, pnode, wk3, wk, seval]
      refine QLoop_go (n' := 8 - (i + 1)) (by omega) ⟨i + 1, by omega, by omega, rfl, rfl, rfl⟩ ?_
      simp only [aset, tq]
 ·have : i = 8 := by omega
  subst this
  simp only [h, iaddr_node, pnode, wk3, wk, seval]
  exact KWk_bare rfl ⟨rfl, rfl⟩
end Go.Proofs.YtemjlopoffjmpaaGreat.Abs
set_option linter.unusedSimpArgs false
set_option linter.unusedVariables false
namespace Go.Proofs.YtemjlopoffjmpaaGreat.Abs
open Go Go.Proofs
theorem broken84 (s : List Node) (hs : s.length ≤ 1000000) (H : AH) : C Tryz.prog 104 [aset s] H (fun x H' => x = .bool ((s.any fun x => decide (x.kind = 3)) || (s.any fun x => decide (x.bad ≠ 0))) ∧ H' = H) := by
 refine C_body d104 rfl (WT_ok ?_)
 delta c104 I0 I1 I2 I3 I4 I5 I6 I7 I8 I9 KI
 simp only [lay, wk, iaddrV_map, seval]
 refine CT_ok (lost_spec s hs H) ?_
 rintro _ _ ⟨rfl, rfl⟩
 cases hl : (s.any fun x => decide (x.kind = 3))
 ·simp only [lay, wk, iaddrV_map, seval]
  refine CT_ok (bad96 s hs _) ?_
  rintro _ _ ⟨rfl, rfl⟩
  simp only [lay, Bool.false_or, wk, iaddrV_map, seval]
 ·simp only [lay, Bool.true_or, wk, iaddrV_map, seval]
theorem Wf.whole {s : List Node} (h : Wf s) : ((s.any fun x => decide (x.kind = 3)) || (s.any fun x => decide (x.bad ≠ 0))) = false := by
 rw [Bool.or_eq_false_iff]
 constructor
 ·rw [List.any_eq_false]
  intro x hx
  obtain ⟨n, hn, rfl⟩ := mem_getD hx
  rcases h.kindsD n hn with e | e | e <;> rw [e] <;> decide
 ·rw [List.any_eq_false]
  intro x hx
  obtain ⟨n, hn, rfl⟩ := mem_getD hx
  rw [h.badD n hn]; decide
theorem may69_0 (s : List Node) (hw : Wf s) : C Tryz.prog 62 [aset s] [] (fun x H' => x = .bool true ∧ H' = []) := by
 have hlen := hw.len
 refine C_body' d62 rfl (WT_ok ?_)
 delta c62 I0 I1 I2 I3 I4 I5 I6 I7 I8 I9 KI
 simp only [lay, wk, iaddrV_map, seval]
 refine CT_ok (torn0 s hw) ?_
 rintro _ _ ⟨rfl, rfl⟩
 simp only [lay, wk, iaddrV_map, seval]
 refine CT_ok (broken84 s (by omega) _) ?_
 rintro _ _ ⟨rfl, rfl⟩
 rw [hw.whole]
 simp only [lay, wk, iaddrV_map, seval]
 exact KWk_bare rfl ⟨rfl, rfl⟩
theorem may69 (s : List Node) (hw : Wf s) (H : AH) : C Tryz.prog 62 [aset s] H (fun x H' => x = .bool true ∧ H' = H) :=
 C_any (may69_0 s hw) (by simp [bareL, bare, aset]) rfl H
structure MayD (l : List Dset) (d : Dset) : Prop where
 id : 1 ≤ d.id ∧ d.id ≤ 65535
 quota : 0 ≤ d.quota ∧ d.quota ≤ 255
 files : Wf d.files
 kinds : d.kind = 1 ∨ d.kind = 2
 snap : d.kind = 2 → d.quota = 0 ∧ ∃ o ∈ l, o.id = d.origin ∧ o.kind = 1
 live : d.kind = 1 → d.origin = 0 ∨ ∃ o ∈ l, o.id = d.origin ∧ o.kind = 2
structure MayL (l : List Dset) : Prop where
 len : l.length ≤ 8
 sorted : l.Pairwise fun a b => a.id < b.id
 each : ∀ d ∈ l, MayD l d
 tree : ∃ r : Int → Nat, ∀ d ∈ l, ∀ o ∈ l, o.id = d.origin → r o.id < r d.id
theorem MayL.short {l : List Dset} (h : MayL l) : Short l := ⟨by have := h.len; omega, fun d hd => by have := (h.each d hd).files.len; omega⟩
theorem MayL.lt {l : List Dset} (h : MayL l) {i j : Nat} (hij : i < j) (hj : j < l.length) : (l.getD i default).id < (l.getD j default).id := by
 have := List.pairwise_iff_getElem.1 h.sorted i j (by omega) hj hij
 rw [List.getD_eq_getElem?_getD, List.getElem?_eq_getElem (show i < l.length by omega), List.getD_eq_getElem?_getD, List.getElem?_eq_getElem hj]
 exact this
theorem dgetD_mem {l : List Dset} {n : Nat} (h : n < l.length) : l.getD n default ∈ l := by
 rw [List.getD_eq_getElem?_getD, List.getElem?_eq_getElem h]
 exact List.getElem_mem h
theorem mem_dgetD {l : List Dset} {x : Dset} (h : x ∈ l) : ∃ n, n < l.length ∧ l.getD n default = x := by
 obtain ⟨n, hn, rfl⟩ := List.mem_iff_getElem.1 h
 exact ⟨n, hn, by rw [List.getD_eq_getElem?_getD, List.getElem?_eq_getElem hn]; rfl⟩
theorem MayL.inj {l : List Dset} (h : MayL l) {i j : Nat} (hi : i < l.length) (hj : j < l.length) (e : (l.getD i default).id = (l.getD j default).id) : i = j := by
 rcases Nat.lt_trichotomy i j with hh | hh | hh
 ·have := h.lt hh hj; omega
 ·exact hh
 ·have := h.lt hh hi; omega
theorem MayL.inj' {l : List Dset} (h : MayL l) {a b : Dset} (ha : a ∈ l) (hb : b ∈ l) (e : a.id = b.id) : a = b := by
 obtain ⟨i, hi, rfl⟩ := mem_dgetD ha
 obtain ⟨j, hj, rfl⟩ := mem_dgetD hb
 rw [h.inj hi hj e]
theorem MayL.find {l : List Dset} (h : MayL l) {d : Dset} (hd : d ∈ l) : getA l d.id = some d := by
 obtain ⟨i, hi, rfl⟩ := mem_dgetD hd
 unfold getA
 rcases find_of (l := l) (i := (l.getD i default).id) with ⟨e, hn⟩ | ⟨k, e, hk, hid, _⟩
 ·exact absurd rfl (hn i hi)
 ·rw [e, if_pos (by omega), Int.toNat_natCast, h.inj hk hi hid]
theorem getA_none {l : List Dset} {i : Int} (h : ∀ d ∈ l, d.id ≠ i) : getA l i = none := by
 unfold getA
 rcases find_of (l := l) (i := i) with ⟨e, hn⟩ | ⟨k, e, hk, hid, _⟩
 ·rw [e]; rfl
 ·exact absurd hid (h _ (dgetD_mem hk))
def stepD (l : List Dset) (d : Dset) : Dset := (getA l d.origin).getD ⟨0, 0, 0, 0, []⟩
def iterD (l : List Dset) : Nat → Dset → Dset
 | 0, d => d
 | m + 1, d => iterD l m (stepD l d)
theorem iterD_succ (l : List Dset) : ∀ (m : Nat) (d : Dset), iterD l (m + 1) d = stepD l (iterD l m d)
 | 0, _ => rfl
 | m + 1, d => iterD_succ l m (stepD l d)
end Go.Proofs.YtemjlopoffjmpaaGreat.Abs
set_option linter.unusedSimpArgs false
set_option linter.unusedVariables false
namespace Go.Proofs.YtemjlopoffjmpaaGreat.Abs
open Go Go.Proofs
theorem rankN_mono {α : Type} (r : α → Nat) (a b : Nat) (hab : a < b) : ∀ (l : List α), (∃ j ∈ l, r j = a) → l.countP (fun j => decide (r j < a)) < l.countP (fun j => decide (r j < b)) := by
 intro l
 induction l with
 | nil => rintro ⟨j, hj, _⟩; cases hj
 | cons x l ih =>
   rintro ⟨j, hj, e⟩
   have le : l.countP (fun j => decide (r j < a)) ≤ l.countP (fun j => decide (r j < b)) := List.countP_mono_left (fun y _ h => by simp at h ⊢; omega)
   rw [List.countP_cons, List.countP_cons]
   rcases List.mem_cons.1 hj with rfl | hj
   ·rw [if_neg (by simp; omega), if_pos (by simp; omega)]; omega
   ·have := ih ⟨j, hj, e⟩
    by_cases h1 : r x < a
    ·rw [if_pos (by simpa using h1), if_pos (by simp; omega)]; omega
    ·rw [if_neg (by simpa using h1)]; omega
theorem MayL.out {l : List Dset} (h : MayL l) {d : Dset} (hd : d ∈ l) {m : Nat} (hm : l.length ≤ m) : (iterD l m d).id = 0 := by
 obtain ⟨r, hr⟩ := h.tree
 have hz : ∀ m, iterD l m ⟨0, 0, 0, 0, []⟩ = ⟨0, 0, 0, 0, []⟩ := by
  intro m
  induction m with
  | zero => rfl
  | succ m ih =>
    show iterD l m (stepD l ⟨0, 0, 0, 0, []⟩) = _
    have : stepD l ⟨0, 0, 0, 0, []⟩ = ⟨0, 0, 0, 0, []⟩ := by
     unfold stepD
     rw [getA_none (fun d hd => by have := (h.each d hd).id; show d.id ≠ 0; omega)]; rfl
    rw [this, ih]
 let f : Dset → Nat := fun x => l.countP fun y => decide (r y.id < r x.id)
 have hf : ∀ x ∈ l, ∀ y ∈ l, r y.id < r x.id → f y < f x := fun x hx y hy hxy => rankN_mono (fun z : Dset => r z.id) _ _ hxy l ⟨y, hy, rfl⟩
 have hfl : ∀ x ∈ l, f x < l.length := fun x hx => by
  have h1 := rankN_mono (fun z : Dset => r z.id) (r x.id) (r x.id + 1) (by omega) l ⟨x, hx, rfl⟩
  have h2 : l.countP (fun j => decide (r j.id < r x.id + 1)) ≤ l.length := List.countP_le_length
  show l.countP _ < _
  omega
 have g : ∀ m, iterD l m d = ⟨0, 0, 0, 0, []⟩ ∨ (iterD l m d ∈ l ∧ f (iterD l m d) + m ≤ f d) := by
  intro m
  induction m with
  | zero => exact .inr ⟨hd, Nat.le_refl _⟩
  | succ m ih =>
    rw [iterD_succ]
    rcases ih with ih | ⟨hm, ih⟩
    ·left; rw [ih]; exact hz 1
    ·unfold stepD
     cases ho : getA l (iterD l m d).origin with
     | none => left; rfl
     | some o =>
       right
       obtain ⟨ho1, ho2⟩ := getA_mem ho
       refine ⟨ho1, ?_⟩
       have := hf _ hm o ho1 (hr _ hm o ho1 ho2)
       show f o + (m + 1) ≤ f d
       omega
 rcases g m with e | ⟨hm2, e⟩
 ·rw [e]
 ·have := hfl d hd; omega
end Go.Proofs.YtemjlopoffjmpaaGreat.Abs
namespace Go.Proofs.YtemjlopoffjmpaaGreat.Abs
open Go
def c29 : ACode :=
 (.seq (.reg [I1 4 (.mv (.c (.emp))), I1 5 (.mv (KI 0))])
 (.seq (.reg [I0 14 0, I1 15 (.call 56 [(.t 14)]), I0 6 15])
 (.seq (.reg [I0 16 6, I0 7 16])
 (.seq (.reg [I0 17 7, I0 18 1, I1 19 (.call 59 [(.t 17), (.t 18)]), I0 8 19])
 (.seq (.block 0
 (.seq (.reg [I0 21 8, I1 22 (.bini .lss (.t 21) (KI 0)), I0 20 22])
 (.cond (.t 20)
 (.seq (.reg [I0 23 6, I0 4 23, I1 5 (.mv (KI 2))])
 .ret)
 (.seq (.reg [I0 25 7, I0 26 8, I1 27 (.iaddr 5 (.t 25) (.t 26)), I6 28 1 27, I7 29 28, I1 30 (.bini .neq (.t 29) (KI 1)), I0 31 30, I5 32 31 7, I5 33 31 8, I3 34 31 (.iaddr 5 (.t 32) (.t 33)), I3 35 31 (.faddr 2 (.t 34)), I3 36 31 (.load false 1 (.t 35)), I3 37 31 (.bini .eql (.t 36) (KI 0)), I1 38 (.pick (.t 31) (.c (.bool true)) (.t 37)), I0 24 38])
 (.cond (.t 24)
 (.seq (.reg [I0 39 6, I0 4 39, I1 5 (.mv (KI 1))])
 .ret)
 .skip)))))
 (.seq (.reg [I0 40 7, I0 41 7, I0 42 8, I1 43 (.iaddr 5 (.t 41) (.t 42)), I6 44 2 43, I7 45 44, I1 46 (.call 59 [(.t 40), (.t 45)]), I0 9 46])
 (.seq (.seq (.reg [I0 47 9, I1 48 (.bini .lss (.t 47) (KI 0)), I0 49 48, I5 50 49 7, I5 51 49 7, I5 52 49 9, I3 53 49 (.iaddr 5 (.t 51) (.t 52)), I3 54 49 (.faddr 2 (.t 53)), I3 55 49 (.load false 1 (.t 54)), I3 56 49 (.call 60 [(.t 50), (.t 55), (KI 1)]), I3 57 49 (.un .not (.t 56)), I1 58 (.pick (.t 49) (.c (.bool true)) (.t 57))])
 (.cond (.t 58)
 (.seq (.reg [I0 59 6, I0 4 59, I1 5 (.mv (KI 1))])
 .ret)
 .skip))
 (.seq (.reg [I0 60 7, I0 61 9, I1 62 (.iaddr 5 (.t 60) (.t 61)), I6 63 2 62, I7 64 63, I0 10 64])
 (.seq (.reg [I0 65 7, I0 66 10, I1 67 (.call 59 [(.t 65), (.t 66)]), I0 11 67])
 (.seq (.dregE [[(0, I0 68 7), (1, I0 69 8), (2, I0 70 7), (3, I0 71 11), (4, I0 72 7), (5, I0 73 11), (6, I1 74 (.iaddr 5 (.t 72) (.t 73))), (7, I6 75 2 74), (8, I7 76 75), (9, I0 77 7), (10, I0 78 9), (11, I1 79 (.iaddr 5 (.t 77) (.t 78))), (12, I6 80 0 79), (13, I7 81 80), (14, I1 82 (.iaddr 5 (.t 68) (.t 69))), (15, I6 83 2 82), (16, I9 1 83 76)], [(17, I1 84 (.iaddr 5 (.t 70) (.t 71)))], [(18, I6 85 2 84)], [(19, I9 1 85 81)]]
  [[], [], [], [], [], [], [4, 5], [4, 5, 6], [4, 5, 6, 7], [], [], [9, 10], [9, 10, 11], [9, 10, 11, 12], [0, 1, 4, 5, 6, 7, 8, 9, 10, 11, 12, 13], [0, 1, 4, 5, 6, 7, 8, 9, 10, 11, 12, 13, 14], [0, 1, 4, 5, 6, 7, 8, 9, 10, 11, 12, 13, 14, 15], [0, 1, 2, 3, 4, 5, 6, 7, 8, 9, 10, 11, 12, 13, 14, 15, 16], [0, 1, 2, 3, 4, 5, 6, 7, 8, 9, 10, 11, 12, 13, 14, 15, 16, 17], [0, 1, 2, 3, 4, 5, 6, 7, 8, 9, 10, 11, 12, 13, 14, 15, 16, 17, 18]])
 (.seq (.seq (.reg [I0 86 7, I1 87 (.len false (.t 86)), I1 88 (.mv (KI 0))])
 (.block 1
 (.loop
 (.seq (.reg [I1 89 (.bini .lss (.t 88) (.t 87))])
 (.seq (.cond (.t 89)
 .skip
 (.exit 1))
 (.seq (.block 2
 (.seq (.reg [I0 90 88, I1 91 (.iaddr 5 (.t 86) (.t 88)), I1 92 (.load true 5 (.t 91)), I1 13 (.alloc [.int .i64 0, .int .i64 0, .int .i64 0, .int .i64 0, .emp]), I0 12 90, I9 5 13 92])
 (.seq (.dreg [I6 93 1 13, I7 94 93, I1 95 (.bini .eql (.t 94) (KI 2)), I0 96 95, I2 97 96 (.faddr 2 (.t 13)), I2 98 96 (.load false 1 (.t 97)), I4 99 96 10, I2 100 96 (.bini .eql (.t 98) (.t 99)), I1 101 (.pick (.t 96) (.t 100) (.c (.bool false))), I0 102 101, I2 103 102 (.faddr 0 (.t 13)), I2 104 102 (.load false 1 (.t 103)), I4 105 102 7, I4 106 102 9, I2 107 102 (.iaddr 5 (.t 105) (.t 106)), I2 108 102 (.faddr 0 (.t 107)), I2 109 102 (.load false 1 (.t 108)), I2 110 102 (.bini .leq (.t 104) (.t 109)), I1 111 (.pick (.t 102) (.t 110) (.c (.bool false)))])
 (.cond (.t 111)
 (.reg [I0 112 7, I0 113 12, I0 114 1, I1 115 (.iaddr 5 (.t 112) (.t 113)), I6 116 2 115, I9 1 116 114])
 .skip))))
 (.reg [I1 117 (.bini .add (.t 88) (KI 1)), I0 88 117])))))))
 (.seq (.reg [I0 118 6, I0 4 118, I1 5 (.mv (KI 0))])
 .ret))))))))))))
theorem d29 : FnD Tryz.prog 29 2 117 [.tmp 4, .tmp 5] c29 := ⟨Tryz.f29, _, Tryz.func29, by kernel_rfl, rfl, rfl, by kernel_rfl, by kernel_rfl⟩
end Go.Proofs.YtemjlopoffjmpaaGreat.Abs
namespace Go.Proofs.YtemjlopoffjmpaaGreat.Abs
open Go
def c38 : ACode :=
 (.seq (.reg [I1 4 (.box (.t 1)), I1 5 (.box (.t 2)), I1 6 (.mv (.c (.emp))), I1 7 (.mv (KI 0))])
 (.seq (.reg [I0 13 0, I1 14 (.call 56 [(.t 13)]), I0 8 14])
 (.seq (.reg [I0 15 8, I0 9 15])
 (.seq (.dregE [[(0, I0 16 9), (1, I7 17 4), (3, I0 19 9), (4, I7 20 5), (2, I1 18 (.call 59 [(.t 16), (.t 17)]))], [(5, I1 21 (.call 59 [(.t 19), (.t 20)]))], [(6, I0 10 18)], [(7, I0 11 21)]]
  [[], [], [0, 1], [], [], [0, 1, 2, 3, 4], [0, 1, 2, 3, 4, 5], [0, 1, 2, 3, 4, 5, 6]])
 (.seq (.reg [I1 22 (.mkfn (.func 77) [] [(.t 4), (.t 5)]), I0 12 22])
 (.seq (.block 0
 (.seq (.reg [I0 24 10, I1 25 (.bini .lss (.t 24) (KI 0)), I0 26 25, I5 27 26 11, I3 28 26 (.bini .lss (.t 27) (KI 0)), I1 29 (.pick (.t 26) (.c (.bool true)) (.t 28)), I0 23 29])
 (.cond (.t 23)
 (.seq (.reg [I0 30 8, I0 6 30, I1 7 (.mv (KI 2))])
 .ret)
 (.seq (.dreg [I0 32 9, I0 33 10, I1 34 (.iaddr 5 (.t 32) (.t 33)), I6 35 1 34, I7 36 35, I1 37 (.bini .neq (.t 36) (KI 1)), I0 38 37, I5 39 38 9, I5 40 38 11, I3 41 38 (.iaddr 5 (.t 39) (.t 40)), I3 42 38 (.faddr 1 (.t 41)), I3 43 38 (.load false 1 (.t 42)), I3 44 38 (.bini .neq (.t 43) (KI 2)), I1 45 (.pick (.t 38) (.c (.bool true)) (.t 44)), I0 46 45, I5 47 46 9, I5 48 46 11, I3 49 46 (.iaddr 5 (.t 47) (.t 48)), I3 50 46 (.faddr 2 (.t 49)), I3 51 46 (.load false 1 (.t 50)), I3 52 46 (.load false 1 (.t 4)), I3 53 46 (.bini .neq (.t 51) (.t 52)), I1 54 (.pick (.t 46) (.c (.bool true)) (.t 53)), I0 31 54])
 (.cond (.t 31)
 (.seq (.reg [I0 55 8, I0 6 55, I1 7 (.mv (KI 1))])
 .ret)
 (.seq (.reg [I0 57 9, I0 58 12, I1 59 (.call 63 [(.t 57), (.t 58)]), I0 56 59])
 (.cond (.t 56)
 (.seq (.reg [I0 60 8, I0 6 60, I1 7 (.mv (KI 10))])
 .ret)
 .skip)))))))
 (.seq (.reg [I0 61 9, I0 62 10, I0 63 9, I0 64 11, I1 65 (.iaddr 5 (.t 63) (.t 64)), I6 66 4 65, I7 67 66, I1 68 (.call 49 [(.t 67)]), I1 69 (.iaddr 5 (.t 61) (.t 62)), I6 70 4 69, I9 1 70 68])
 (.seq (.reg [I0 71 8, I0 6 71, I1 7 (.mv (KI 0))])
 .ret))))))))
theorem d38 : FnD Tryz.prog 38 3 69 [.tmp 6, .tmp 7] c38 := ⟨Tryz.f38, _, Tryz.func38, by kernel_rfl, rfl, rfl, by kernel_rfl, by kernel_rfl⟩
end Go.Proofs.YtemjlopoffjmpaaGreat.Abs
namespace Go.Proofs.YtemjlopoffjmpaaGreat.Abs
open Go
def c32 : ACode :=
 (.seq (.reg [I1 3 (.box (.t 1)), I1 4 (.mv (.c (.emp))), I1 5 (.mv (KI 0))])
 (.seq (.reg [I0 12 0, I1 13 (.call 56 [(.t 12)]), I0 6 13])
 (.seq (.reg [I0 14 6, I0 7 14])
 (.seq (.reg [I0 15 7, I7 16 3, I1 17 (.call 59 [(.t 15), (.t 16)]), I0 8 17])
 (.seq (.reg [I1 9 (.mv (KI 0))])
 (.seq (.seq (.reg [I0 18 7, I1 19 (.len false (.t 18)), I1 20 (.mv (KI 0))])
 (.block 0
 (.loop
 (.seq (.reg [I1 21 (.bini .lss (.t 20) (.t 19))])
 (.seq (.cond (.t 21)
 .skip
 (.exit 0))
 (.seq (.block 1
 (.seq (.reg [I1 22 (.iaddr 5 (.t 18) (.t 20)), I1 23 (.load true 5 (.t 22)), I1 11 (.alloc [.int .i64 0, .int .i64 0, .int .i64 0, .int .i64 0, .emp]), I9 5 11 23])
 (.seq (.reg [I6 24 1 11, I7 25 24, I1 26 (.bini .eql (.t 25) (KI 1))])
 (.cond (.t 26)
 (.reg [I0 27 9, I1 28 (.bini .add (.t 27) (KI 1)), I0 9 28])
 .skip))))
 (.reg [I1 29 (.bini .add (.t 20) (KI 1)), I0 20 29])))))))
 (.seq (.block 2
 (.seq (.reg [I0 31 8, I1 32 (.bini .lss (.t 31) (KI 0)), I0 30 32])
 (.cond (.t 30)
 (.seq (.reg [I0 33 6, I0 4 33, I1 5 (.mv (KI 2))])
 .ret)
 (.seq (.seq (.reg [I0 35 7, I1 36 (.mkfn (.func 64) [] [(.t 3)]), I1 37 (.call 63 [(.t 35), (.t 36)]), I0 34 37])
 (.cond (.t 34)
 .skip
 (.reg [I0 38 7, I0 39 8, I1 40 (.iaddr 5 (.t 38) (.t 39)), I6 41 1 40, I7 42 41, I1 43 (.bini .eql (.t 42) (KI 1)), I0 44 43, I4 45 44 9, I2 46 44 (.bini .eql (.t 45) (KI 1)), I1 47 (.pick (.t 44) (.t 46) (.c (.bool false))), I0 34 47])))
 (.cond (.t 34)
 (.seq (.reg [I0 48 6, I0 4 48, I1 5 (.mv (KI 10))])
 .ret)
 .skip)))))
 (.seq (.reg [I0 49 6, I0 50 8, I0 51 8, I1 52 (.bini .add (.t 51) (KI 1)), I1 53 (.call 65 [(.t 49), (.t 50), (.t 52)]), I0 4 53, I1 5 (.mv (KI 0))])
 .ret))))))))
theorem d32 : FnD Tryz.prog 32 2 52 [.tmp 4, .tmp 5] c32 := ⟨Tryz.f32, _, Tryz.func32, by kernel_rfl, rfl, rfl, by kernel_rfl, by kernel_rfl⟩
end Go.Proofs.YtemjlopoffjmpaaGreat.Abs
set_option linter.unusedSimpArgs false
set_option linter.unusedVariables false
namespace Go.Proofs.YtemjlopoffjmpaaGreat.Abs
open Go Go.Proofs
theorem renL_cell (τ : Nat → Option Nat) (d : Dset) : renL τ (cellD d) = cellD d := by simp [cellD, aset, renL, ren]
theorem renO_box (τ : Nat → Option Nat) (k : IntKind) (n : Int) : renO τ [[.int k n]] = [[.int k n]] := by simp [renO, renL, ren]
theorem is66_L (d : Dset) (i : Int) (l : List Dset) : C Tryz.prog 64 [.agg (cellD d), .ptr 1 0 0 1] [some (l.map cellD), some [[.int .i64 i]]] (fun x H' => x = .bool (decide (d.origin = i)) ∧ H' = [some (l.map cellD), some [[.int .i64 i]]]) :=
 C_call [1] (by simp) (by simp) (by simpa [renL, ren, toCallee, renO, cellD, aset, AH.at] using is66 d i) (by rintro _ _ ⟨rfl, rfl⟩; exact ⟨Nat.le_refl _, by simp [ren], by simp [back, setAll, renO, renL, ren]⟩)
def hangsA (l : List Dset) (i : Int) : Bool := decide (0 ≤ idxA (fun d => decide (d.origin = i)) l)
theorem hangs_at (l : List Dset) (hl : l.length ≤ 1000000) (i : Int) : C Tryz.prog 63 [.own 1 5 0 l.length l.length, .fn (.func 64) [] [.ptr 0 0 0 1]] [some [[.int .i64 i]], some (l.map cellD)] (fun x H' => x = .bool (hangsA l i) ∧ H' = [some [[.int .i64 i]], some (l.map cellD)]) :=
 C_call [1, 0] (by simp) (by simp) (K0 := fun x H' => x = .bool (decide (0 ≤ idxA (fun d => decide (d.origin = i)) l)) ∧ H' = [some (l.map cellD), some [[.int .i64 i]]])
  (by simpa [renL, ren, toCallee, renO_cells, renO_box, AH.at, show List.idxOf? 0 [1, 0] = some 1 from rfl, show List.idxOf? 1 [1, 0] = some 0 from rfl] using contains65 l hl [some [[.int .i64 i]]] 64 [.ptr 1 0 0 1] (fun d => decide (d.origin = i)) (fun d => is66_L d i l))
  (by rintro _ _ ⟨rfl, rfl⟩; exact ⟨Nat.le_refl _, by simp [ren, hangsA], by simp [back, setAll, renO_cells, renO_box]⟩)
def livesA (l : List Dset) : Nat := l.countP fun d => decide (d.kind = 1)
theorem livesA_take (l : List Dset) (k : Nat) (h : k < l.length) : livesA (l.take (k + 1)) = livesA (l.take k) + if (l.getD k default).kind = 1 then 1 else 0 := by
 unfold livesA
 rw [List.take_add_one, List.getElem?_eq_getElem h, List.countP_append]
 simp only [List.getD_eq_getElem?_getD, List.getElem?_eq_getElem h, Option.getD_some, Option.toList_some, List.countP_cons, List.countP_nil, decide_eq_true_eq]
 omega
theorem livesA_le (l : List Dset) : livesA l ≤ l.length := List.countP_le_length
def destroyA (l : List Dset) (i : Int) : List Dset × Int :=
 if findA l i < 0 then (l, 2) else if hangsA l i = true ∨ ((l.getD (findA l i).toNat default).kind = 1 ∧ livesA l = 1) then (l, 10) else (l.eraseIdx (findA l i).toNat, 0)
theorem Wk_obj2 {fr fr' : List AV} {o o' : AObj} {G : AH} (ho : o.map (renL (upTo 2)) = o) (ho' : o'.map (renL (upTo 2)) = o') (h : Tops fr' (renL (upTo 2) fr)) : Wk 0 fr (some o :: some o' :: G) fr' [some o, some o'] := by
 have h1 := (Wk_forget (n0 := 0) (fr := fr) (H := some o :: some o' :: G) 2 (Nat.zero_le _)).trans (Wk_tops h)
 have e : mapH (renL (upTo 2)) ((some o :: some o' :: G).take 2) = [some o, some o'] := by
  simp only [List.take_succ_cons, List.take_zero, mapH, List.map_cons, List.map_nil, Option.map_some, ho, ho']
 rwa [e] at h1
theorem renO_del (τ : Nat → Option Nat) (l : List Dset) : renO τ (l.map cellD ++ [zeroC]) = l.map cellD ++ [zeroC] := by
 have := renO_cells τ l
 unfold renO at this ⊢
 rw [List.map_append, this]
 simp [zeroC, renL, ren]
theorem deleteAt (l : List Dset) (hl : l.length ≤ 1000000) (k : Nat) (hk : k < l.length) (r : Nat) (H : AH) (hr : H.at r = some (l.map cellD)) :
 C Tryz.prog 65 [.own r 5 0 l.length l.length, .int .i64 k, .int .i64 ((k + 1 : Nat) : Int)] H (fun x H' => x = .own r 5 0 (l.length - 1) l.length ∧ H' = H.set r (some ((l.eraseIdx k).map cellD ++ [zeroC]))) := by
 refine C_call [r] (by simp) (by simpa using at_lt hr) (K0 := fun x H' => x = .own 0 5 0 (l.length - 1) l.length ∧ H' = [some ((l.eraseIdx k).map cellD ++ [zeroC])]) ?_ ?_
 ·simpa [renL, ren, toCallee, renO_cells, hr] using delete67 l hl k hk
 ·rintro _ _ ⟨rfl, rfl⟩
  refine ⟨by simp, by simp [ren, toCaller], ?_⟩
  simp [back, setAll, renO_del]
theorem KWk_del {K : AV → AH → Prop} {H : AH} (r : Nat) (l : List Dset) (e : Int) (n : Nat) (hn : n = l.length + 1) (hat : H.at r = some (l.map cellD ++ [zeroC])) (hk : K (.tuple [asets l, .int .i64 e]) []) : KWk 0 K (.tuple [.own r 5 0 (n - 1) n, .int .i64 e]) H := by
 subst hn
 refine KWk_frozen r (l.map pdset ++ [[.int .i64 0, .int .i64 0, .int .i64 0, .int .i64 0, .emp]]) (by rw [List.map_append, cellsD]; exact hat) _ ?_ hk
 simp only [frzL, frz, renL, ren, asets, if_true, List.length_append, List.length_cons, List.length_nil, List.length_map, Nat.zero_add, Nat.le_refl, and_self, List.drop_zero, Nat.add_sub_cancel]
 rw [List.take_append_of_le_length (by simp), List.take_of_length_le (by simp)]
 simp [ren]
theorem destroy0 (l : List Dset) (hl : Short l) (i : Int) : C Tryz.prog 32 [asets l, .int .i64 i] [] (fun x H' => x = outA (destroyA l i) ∧ H' = []) := by
 have hl1 := hl.1
 refine C_body' d32 rfl (WT_ok ?_)
 delta c32 I0 I1 I2 I3 I4 I5 I6 I7 I8 I9 KI
 simp only [lay, wk3, wk, iaddrV_map, seval]
 refine CT_ok (twinL l hl _) ?_
 rintro _ _ ⟨rfl, rfl⟩
 simp only [lay, wk3, wk, iaddrV_map, seval]
 refine CT_ok (findAt l hl1 i 1 _ rfl) ?_
 rintro _ _ ⟨rfl, rfl⟩
 simp only [lay, wk3, wk, iaddrV_map, seval]
 refine WT_loop (W_wk (fr' := [asets l, .int .i64 i, .top, .ptr 0 0 0 1, .emp, .int .i64 0, .own 1 5 0 l.length l.length, .own 1 5 0 l.length l.length, .int .i64 (findA l i), .int .i64 0, .top, .top, .top, .top, .top, .top, .top, .top, .own 1 5 0 l.length l.length, .int .i64 l.length, .int .i64 0] ++ List.replicate 33 .top) (Wk_tops ?_) (W_loop (fun n fr H' => ∃ k : Nat, k ≤ l.length ∧ n = l.length - k ∧ H' = [some [[.int .i64 i]], some (l.map cellD)] ∧
  fr = [asets l, .int .i64 i, .top, .ptr 0 0 0 1, .emp, .int .i64 0, .own 1 5 0 l.length l.length, .own 1 5 0 l.length l.length, .int .i64 (findA l i), .int .i64 (livesA (l.take k)), .top, .top, .top, .top, .top, .top, .top, .top, .own 1 5 0 l.length l.length, .int .i64 l.length, .int .i64 k] ++ List.replicate 33 .top) l.length ⟨0, by omega, rfl, rfl, rfl⟩ ?_))
 ·simp only [tp]
 rintro n fr H' ⟨k, hk, rfl, rfl, rfl⟩
 refine WT_ok ?_
 simp only [lay, wk4, wk3, wk, iaddrV_map, seval]
 refine guard_both ?_ ?_ <;> intro h <;> simp only [hy] at h
 ·have hk2 : k < l.length := by omega
  have hc := cell_at hk2
  have ht := livesA_take l k hk2
  have hle := livesA_le (l.take k)
  have hle2 : (l.take k).length ≤ l.length := by simp; omega
  have w2 : IntKind.i64.wrap ((k : Int) + 1) = (k : Int) + 1 := IntWalk.i64_in _ (by omega)
  have w3 : IntKind.i64.wrap ((livesA (l.take k) : Int) + 1) = ((livesA (l.take k) + 1 : Nat) : Int) := by rw [IntWalk.i64_in _ (by omega)]; omega
  have h0 : (0 : Int) ≤ k := by omega
  generalize l.getD k default = d at hc ht
  by_cases h1 : d.kind = 1
  ·rw [if_pos h1] at ht
   simp only [h, h0, hc, h1, w2, w3, cellD, aset, lay, wk4, wk3, wk, iaddrV_map, seval]
   refine QLoop_wk (n' := l.length - (k + 1)) (by omega) ⟨k + 1, by omega, rfl, rfl, rfl⟩ (Wk_obj2 (renO_box _ _ _) (renO_cells _ _) ?_)
   simp only [ht, renL, ren, asets, upTo, show (0 : Nat) < 2 by omega, show (1 : Nat) < 2 by omega, if_true, tq]
  ·replace ht : livesA (l.take (k + 1)) = livesA (l.take k) := by rw [ht, if_neg h1]; rfl
   simp only [h, h0, hc, h1, w2, cellD, aset, lay, wk4, wk3, wk, iaddrV_map, seval]
   refine QLoop_wk (n' := l.length - (k + 1)) (by omega) ⟨k + 1, by omega, rfl, rfl, rfl⟩ (Wk_obj2 (renO_box _ _ _) (renO_cells _ _) ?_)
   simp only [ht, renL, ren, asets, upTo, show (0 : Nat) < 2 by omega, show (1 : Nat) < 2 by omega, if_true, tq]
 ·have : k = l.length := by omega
  subst this
  have hl2 : l.take l.length = l := List.take_length
  have hle := livesA_le l
  simp only [h, hl2, lay, wk4, wk3, wk, iaddrV_map, seval]
  rcases find_of (l := l) (i := i) with ⟨e, _⟩ | ⟨k, e, hk3, _, _⟩
  ·have hA : destroyA l i = (l, 2) := by unfold destroyA; rw [e]; rfl
   simp only [e, hA, lay, wk4, wk3, wk, iaddrV_map, seval]
   exact KWk_sets 1 l 2 _ rfl rfl ⟨rfl, rfl⟩
  ·have hc := cell_at hk3
   have h0 : (0 : Int) ≤ k := by omega
   have h1 : (k : Int) < l.length := by omega
   have h2 : ¬ (k : Int) < 0 := by omega
   have w2 : IntKind.i64.wrap ((k : Int) + 1) = ((k + 1 : Nat) : Int) := by rw [IntWalk.i64_in _ (by omega)]; omega
   simp only [e, h2, lay, wk4, wk3, wk, iaddrV_map, seval]
   refine CT_ok (hangs_at l hl1 i) ?_
   rintro _ _ ⟨rfl, rfl⟩
   cases hh : hangsA l i
   ·have hbare : (l.eraseIdx k).length + 1 = l.length := by rw [List.length_eraseIdx, if_pos hk3]; omega
    by_cases hk1 : (l.getD k default).kind = 1
    ·by_cases hk4 : (livesA l : Int) = 1
     ·have hA : destroyA l i = (l, 10) := by unfold destroyA; rw [e, if_neg h2, if_pos (.inr ⟨by rw [Int.toNat_natCast]; exact hk1, by omega⟩)]
      simp only [hA, hc, h0, h1, hk1, hk4, cellD, aset, lay, wk4, wk3, wk, iaddrV_map, seval]
      exact KWk_sets 1 l 10 _ rfl rfl ⟨rfl, rfl⟩
     ·have hA : destroyA l i = (l.eraseIdx k, 0) := by unfold destroyA; rw [e, if_neg h2, if_neg (fun h => h.elim (fun h => by rw [hh] at h; cases h) (fun h => hk4 (by omega))), Int.toNat_natCast]
      simp only [hA, hc, h0, h1, hk1, hk4, w2, cellD, aset, lay, wk4, wk3, wk, iaddrV_map, seval]
      refine CT_ok (deleteAt l hl1 k hk3 1 _ rfl) ?_
      rintro _ _ ⟨rfl, rfl⟩
      simp only [lay, wk4, wk3, wk, iaddrV_map, seval]
      exact KWk_del 1 (l.eraseIdx k) 0 _ (by omega) rfl ⟨by rw [hA]; rfl, rfl⟩
    ·have hA : destroyA l i = (l.eraseIdx k, 0) := by unfold destroyA; rw [e, if_neg h2, if_neg (fun h => h.elim (fun h => by rw [hh] at h; cases h) (fun h => hk1 (by rw [← h.1, Int.toNat_natCast]))), Int.toNat_natCast]
     simp only [hA, hc, h0, h1, hk1, w2, cellD, aset, lay, wk4, wk3, wk, iaddrV_map, seval]
     refine CT_ok (deleteAt l hl1 k hk3 1 _ rfl) ?_
     rintro _ _ ⟨rfl, rfl⟩
     simp only [lay, wk4, wk3, wk, iaddrV_map, seval]
     exact KWk_del 1 (l.eraseIdx k) 0 _ (by omega) rfl ⟨by rw [hA]; rfl, rfl⟩
   ·have hA : destroyA l i = (l, 10) := by unfold destroyA; rw [e, if_neg h2, if_pos (.inl hh)]
    simp only [hA, lay, wk4, wk3, wk, iaddrV_map, seval]
    exact KWk_sets 1 l 10 _ rfl rfl ⟨rfl, rfl⟩
end Go.Proofs.YtemjlopoffjmpaaGreat.Abs
set_option linter.unusedSimpArgs false
set_option linter.unusedVariables false
namespace Go.Proofs.YtemjlopoffjmpaaGreat.Abs
open Go Go.Proofs
section
variable {c : Nat} {H : AH} {late : List Loc → List Loc → Prop} {K : List Nat → Nat → AV → AH → Prop} {t : Tag K}
theorem CFT_find (l : List Dset) (hl : l.length ≤ 1000000) (i : Int) (r : Nat) (hr : H.at r = some (l.map cellD)) (hrc : r < c) (hc : c ≤ H.length) (hk : K [r] c (.int .i64 (findA l i)) H) : CFT Tryz.prog 59 [.own r 5 0 l.length l.length, .int .i64 i] c H late K t := by
 refine CET_ok [r] 0 (x := .int .i64 (findA l i)) (H1 := [some (l.map cellD)]) (by simpa [renL, ren, toCallee, renO_cells, hr] using find0 l hl i) (fun y G h => h) ⟨by simp, by simpa using hrc, by omega, by simp⟩ ?_
 simpa [setAll, renO_cells, ren, List.range', set_at hr] using hk
end
theorem later_L (d : Dset) (i j : Int) (l : List Dset) : C Tryz.prog 77 [.agg (cellD d), .ptr 1 0 0 1, .ptr 2 0 0 1] [some (l.map cellD), some [[.int .i64 i]], some [[.int .i64 j]]] (fun x H' => x = .bool (laterA i j d) ∧ H' = [some (l.map cellD), some [[.int .i64 i]], some [[.int .i64 j]]]) :=
 C_call [1, 2] (by simp) (by simp) (by simpa [renL, ren, toCallee, renO_box, renL_cell, AH.at, show List.idxOf? 1 [1, 2] = some 0 from rfl, show List.idxOf? 2 [1, 2] = some 1 from rfl] using later64 d i j) (by rintro _ _ ⟨rfl, rfl⟩; exact ⟨Nat.le_refl _, by simp [ren], by simp [back, setAll, renO_box]⟩)
theorem later_at (l : List Dset) (hl : l.length ≤ 1000000) (i j : Int) : C Tryz.prog 63 [.own 2 5 0 l.length l.length, .fn (.func 77) [] [.ptr 0 0 0 1, .ptr 1 0 0 1]] [some [[.int .i64 i]], some [[.int .i64 j]], some (l.map cellD)] (fun x H' => x = .bool (decide (0 ≤ idxA (laterA i j) l)) ∧ H' = [some [[.int .i64 i]], some [[.int .i64 j]], some (l.map cellD)]) :=
 C_call [2, 0, 1] (by simp) (by simp) (K0 := fun x H' => x = .bool (decide (0 ≤ idxA (laterA i j) l)) ∧ H' = [some (l.map cellD), some [[.int .i64 i]], some [[.int .i64 j]]])
  (by simpa [renL, ren, toCallee, renO_cells, renO_box, AH.at, show List.idxOf? 0 [2, 0, 1] = some 1 from rfl, show List.idxOf? 1 [2, 0, 1] = some 2 from rfl, show List.idxOf? 2 [2, 0, 1] = some 0 from rfl] using contains65 l hl [some [[.int .i64 i]], some [[.int .i64 j]]] 77 [.ptr 1 0 0 1, .ptr 2 0 0 1] (laterA i j) (fun d => later_L d i j l))
  (by rintro _ _ ⟨rfl, rfl⟩; exact ⟨Nat.le_refl _, by simp [ren], by simp [back, setAll, renO_cells, renO_box]⟩)
theorem set_cellD (l : List Dset) (k : Nat) (d : Dset) : (l.map cellD).set k (cellD d) = (l.set k d).map cellD := by rw [List.map_set]
def backA (l : List Dset) (i j : Int) : List Dset × Int :=
 if findA l i < 0 ∨ findA l j < 0 then (l, 2) else
 let d := l.getD (findA l i).toNat default
 let s := l.getD (findA l j).toNat default
 if d.kind ≠ 1 ∨ s.kind ≠ 2 ∨ s.origin ≠ i then (l, 1) else if 0 ≤ idxA (laterA i j) l then (l, 10) else (l.set (findA l i).toNat { d with files := s.files }, 0)
theorem dback0 (l : List Dset) (hl : Short l) (i j : Int) : C Tryz.prog 38 [asets l, .int .i64 i, .int .i64 j] [] (fun x H' => x = outA (backA l i j) ∧ H' = []) := by
 have hl1 := hl.1
 refine C_body' d38 rfl (WT_ok ?_)
 delta c38 I0 I1 I2 I3 I4 I5 I6 I7 I8 I9 KI
 simp only [lay, wk3, wk, iaddrV_map, seval]
 refine CT_ok (twinL l hl _) ?_
 rintro _ _ ⟨rfl, rfl⟩
 simp only [lay, wk3, wk, iaddrV_map, seval]
 refine WT_drawE ?_
 refine WDT_more 0 ?_
 simp only [lay, wk3, wk, iaddrV_map, seval]
 refine CFT_find l hl1 i 2 rfl (by omega) (by simp) ?_
 simp only [ren, renL, lay, wk3, wk, iaddrV_map, seval]
 refine ⟨by rfl, ?_⟩
 refine CT_ok (findAt l hl1 j 2 _ rfl) ?_
 rintro _ _ ⟨rfl, rfl⟩
 simp only [lay, wk3, wk, iaddrV_map, seval]
 rcases find_of (l := l) (i := i) with ⟨e, _⟩ | ⟨k, e, hk, _, _⟩
 ·have hA : backA l i j = (l, 2) := by unfold backA; rw [if_pos (.inl (by omega))]
  simp only [e, hA, lay, wk3, wk, iaddrV_map, seval]
  exact KWk_sets 2 l 2 _ rfl rfl ⟨rfl, rfl⟩
 rcases find_of (l := l) (i := j) with ⟨e', _⟩ | ⟨m, e', hm, _, _⟩
 ·have hA : backA l i j = (l, 2) := by unfold backA; rw [if_pos (.inr (by omega))]
  have h2 : ¬ (k : Int) < 0 := by omega
  simp only [e, e', h2, hA, lay, wk3, wk, iaddrV_map, seval]
  exact KWk_sets 2 l 2 _ rfl rfl ⟨rfl, rfl⟩
 have hB : backA l i j = if (l.getD k default).kind ≠ 1 ∨ (l.getD m default).kind ≠ 2 ∨ (l.getD m default).origin ≠ i then (l, 1) else if 0 ≤ idxA (laterA i j) l then (l, 10) else (l.set k ⟨(l.getD k default).id, (l.getD k default).kind, (l.getD k default).origin, (l.getD k default).quota, (l.getD m default).files⟩, 0) := by
  unfold backA; rw [e, e', if_neg (by omega)]; rfl
 have hc := cell_at hk
 have hc' := cell_at hm
 have h0 : (0 : Int) ≤ k := by omega
 have h1 : (k : Int) < l.length := by omega
 have h2 : ¬ (k : Int) < 0 := by omega
 have h0' : (0 : Int) ≤ m := by omega
 have h1' : (m : Int) < l.length := by omega
 have h2' : ¬ (m : Int) < 0 := by omega
 have hf := hl.get hm
 generalize l.getD k default = d at hB hc
 generalize l.getD m default = s at hB hc' hf
 simp only [e, e', h2, h2', lay, wk3, wk, iaddrV_map, seval]
 refine WT_draw ?_
 by_cases g1 : d.kind = 1
 ·by_cases g2 : s.kind = 2
  ·by_cases g3 : s.origin = i
   ·rw [if_neg (fun h => h.elim (fun h => h g1) (fun h => h.elim (fun h => h g2) (fun h => h g3)))] at hB
    simp only [h0, h1, h0', h1', hc, hc', g1, g2, g3, cellD, aset, lay, wk3, wk, iaddrV_map, seval]
    refine CT_ok (later_at l hl1 i j) ?_
    rintro _ _ ⟨rfl, rfl⟩
    by_cases g4 : 0 ≤ idxA (laterA i j) l
    ·rw [if_pos g4] at hB
     simp only [g4, lay, wk3, wk, iaddrV_map, seval]
     exact KWk_sets 2 l 10 _ rfl rfl ⟨by rw [hB]; rfl, rfl⟩
    ·rw [if_neg g4] at hB
     simp only [g4, h0, h1, h0', h1', hc, hc', cellD, aset, lay, wk3, wk, iaddrV_map, seval]
     refine CT_ok (cloneF s.files hf _) ?_
     rintro _ _ ⟨rfl, rfl⟩
     have hst := set_cellD l k ⟨d.id, d.kind, d.origin, d.quota, s.files⟩
     simp only [cellD, aset] at hst
     rw [g1] at hst hB
     simp only [h0, h1, hc, g1, hst, cellD, aset, lay, wk3, wk, iaddrV_map, seval]
     exact KWk_sets 2 (l.set k ⟨d.id, 1, d.origin, d.quota, s.files⟩) 0 _ (by simp) rfl ⟨by rw [hB]; rfl, rfl⟩
   ·rw [if_pos (.inr (.inr g3))] at hB
    simp only [h0, h1, h0', h1', hc, hc', g1, g2, g3, cellD, aset, lay, wk3, wk, iaddrV_map, seval]
    exact KWk_sets 2 l 1 _ rfl rfl ⟨by rw [hB]; rfl, rfl⟩
  ·rw [if_pos (.inr (.inl g2))] at hB
   simp only [h0, h1, h0', h1', hc, hc', g1, g2, cellD, aset, lay, wk3, wk, iaddrV_map, seval]
   exact KWk_sets 2 l 1 _ rfl rfl ⟨by rw [hB]; rfl, rfl⟩
 ·rw [if_pos (.inl g1)] at hB
  simp only [h0, h1, h0', h1', hc, hc', g1, cellD, aset, lay, wk3, wk, iaddrV_map, seval]
  exact KWk_sets 2 l 1 _ rfl rfl ⟨by rw [hB]; rfl, rfl⟩
end Go.Proofs.YtemjlopoffjmpaaGreat.Abs
set_option linter.unusedSimpArgs false
set_option linter.unusedVariables false
namespace Go.Proofs.YtemjlopoffjmpaaGreat.Abs
open Go Go.Proofs
def someA (g : Dset → Dset) (l : List Dset) (k : Nat) : List Dset := (l.map g).take k ++ l.drop k
theorem someA_get (g : Dset → Dset) (l : List Dset) (k j : Nat) (hk : k ≤ l.length) : (someA g l k)[j]? = if j < k then (l[j]?).map g else l[j]? := by
 unfold someA
 rw [List.getElem?_append, List.length_take, List.length_map, Nat.min_eq_left hk]
 by_cases h : j < k
 ·rw [if_pos h, if_pos h, List.getElem?_take, if_pos h, List.getElem?_map]
 ·rw [if_neg h, if_neg h, List.getElem?_drop]; congr 1; omega
theorem someA_len (g : Dset → Dset) (l : List Dset) (k : Nat) (hk : k ≤ l.length) : (someA g l k).length = l.length := by
 unfold someA
 simp; omega
theorem someA_succ (g : Dset → Dset) (l : List Dset) (k : Nat) (hk : k < l.length) : (someA g l k).set k (g (l.getD k default)) = someA g l (k + 1) := by
 apply List.ext_getElem?
 intro j
 rw [List.getElem?_set, someA_get _ _ _ _ (by omega), someA_get _ _ _ _ (by omega), someA_len _ _ _ (by omega)]
 by_cases h : k = j
 ·subst h
  rw [if_pos rfl, if_pos hk, if_pos (by omega), List.getElem?_eq_getElem hk, List.getD_eq_getElem?_getD, List.getElem?_eq_getElem hk]; rfl
 ·rw [if_neg h]
  by_cases h2 : j < k
  ·rw [if_pos h2, if_pos (by omega)]
  ·rw [if_neg h2, if_neg (by omega)]
theorem someA_getD (g : Dset → Dset) (l : List Dset) (k j : Nat) (hk : k ≤ l.length) : (someA g l k).getD j default = if j < k ∧ j < l.length then g (l.getD j default) else l.getD j default := by
 rw [List.getD_eq_getElem?_getD, someA_get _ _ _ _ hk]
 by_cases h : j < k
 ·rw [if_pos h, if_pos ⟨h, by omega⟩, List.getElem?_eq_getElem (show j < l.length by omega), List.getD_eq_getElem?_getD, List.getElem?_eq_getElem (show j < l.length by omega)]; rfl
 ·rw [if_neg h, if_neg (by omega), List.getD_eq_getElem?_getD]
theorem someA_zero (g : Dset → Dset) (l : List Dset) : someA g l 0 = l := by simp [someA]
theorem someA_all (g : Dset → Dset) (l : List Dset) : someA g l l.length = l.map g := by
 unfold someA
 rw [List.take_of_length_le (by simp), List.drop_length, List.append_nil]
def turnA (was sid i : Int) (x : Dset) : Dset := if x.kind = 2 ∧ x.origin = was ∧ x.id ≤ sid then ⟨x.id, x.kind, i, x.quota, x.files⟩ else x
theorem turnA_id (was sid i : Int) (x : Dset) : (turnA was sid i x).id = x.id := by unfold turnA; split <;> rfl
def reorig (d : Dset) (o : Int) : Dset := ⟨d.id, d.kind, o, d.quota, d.files⟩
def promoted (l : List Dset) (i : Int) (ki ks ko : Nat) : List Dset :=
 let was := (l.getD ks default).origin
 let l1 := l.set ki (reorig (l.getD ki default) (l.getD ko default).origin)
 let l2 := l1.set ko (reorig (l1.getD ko default) (l.getD ks default).id)
 l2.map (turnA was (l.getD ks default).id i)
def promoteA (l : List Dset) (i : Int) : List Dset × Int :=
 if findA l i < 0 then (l, 2) else
 let d := l.getD (findA l i).toNat default
 if d.kind ≠ 1 ∨ d.origin = 0 then (l, 1) else
 let s := l.getD (findA l d.origin).toNat default
 if findA l d.origin < 0 ∨ isA l s.origin 1 = false then (l, 1) else (promoted l i (findA l i).toNat (findA l d.origin).toNat (findA l s.origin).toNat, 0)
theorem Wk_obj1 {fr fr' : List AV} {o : AObj} {G : AH} (ho : o.map (renL (upTo 1)) = o) (h : Tops fr' (renL (upTo 1) fr)) : Wk 0 fr (some o :: G) fr' [some o] := by
 have h1 := (Wk_forget (n0 := 0) (fr := fr) (H := some o :: G) 1 (Nat.zero_le _)).trans (Wk_tops h)
 have e : mapH (renL (upTo 1)) ((some o :: G).take 1) = [some o] := by
  simp only [List.take_succ_cons, List.take_zero, mapH, List.map_cons, List.map_nil, Option.map_some, ho]
 rwa [e] at h1
theorem promote0 (l : List Dset) (hl : Short l) (i : Int) : C Tryz.prog 29 [asets l, .int .i64 i] [] (fun x H' => x = outA (promoteA l i) ∧ H' = []) := by
 have hl1 := hl.1
 refine C_body' d29 rfl (WT_ok ?_)
 delta c29 I0 I1 I2 I3 I4 I5 I6 I7 I8 I9 KI
 simp only [lay, wk3, wk, iaddrV_map, Nat.reduceAdd, Nat.reduceSub, Nat.reduceMul, Nat.reduceLeDiff, Nat.reduceEqDiff, Nat.reduceBEq, Int.reduceLE, Int.reduceLT, Int.reduceEq, Int.reduceNe, Int.reduceAdd, Int.reduceSub, Int.reduceToNat, Int.reduceNeg, ↓reduceIte, reduceCtorEq]
 refine CT_ok (twinL l hl _) ?_
 rintro _ _ ⟨rfl, rfl⟩
 simp only [lay, wk3, wk, iaddrV_map, Nat.reduceAdd, Nat.reduceSub, Nat.reduceMul, Nat.reduceLeDiff, Nat.reduceEqDiff, Nat.reduceBEq, Int.reduceLE, Int.reduceLT, Int.reduceEq, Int.reduceNe, Int.reduceAdd, Int.reduceSub, Int.reduceToNat, Int.reduceNeg, ↓reduceIte, reduceCtorEq]
 refine CT_ok (findAt l hl1 i 0 _ rfl) ?_
 rintro _ _ ⟨rfl, rfl⟩
 simp only [lay, wk3, wk, iaddrV_map, Nat.reduceAdd, Nat.reduceSub, Nat.reduceMul, Nat.reduceLeDiff, Nat.reduceEqDiff, Nat.reduceBEq, Int.reduceLE, Int.reduceLT, Int.reduceEq, Int.reduceNe, Int.reduceAdd, Int.reduceSub, Int.reduceToNat, Int.reduceNeg, ↓reduceIte, reduceCtorEq]
 rcases find_of (l := l) (i := i) with ⟨e, _⟩ | ⟨k, e, hk, _, _⟩
 ·have hA : promoteA l i = (l, 2) := by unfold promoteA; rw [if_pos (by omega)]
  simp only [e, hA, lay, wk3, wk, iaddrV_map, Nat.reduceAdd, Nat.reduceSub, Nat.reduceMul, Nat.reduceLeDiff, Nat.reduceEqDiff, Nat.reduceBEq, Int.reduceLE, Int.reduceLT, Int.reduceEq, Int.reduceNe, Int.reduceAdd, Int.reduceSub, Int.reduceToNat, Int.reduceNeg, ↓reduceIte, reduceCtorEq]
  exact KWk_sets 0 l 2 _ rfl rfl ⟨rfl, rfl⟩
 have hc := cell_at hk
 have h0 : (0 : Int) ≤ k := by omega
 have h1 : (k : Int) < l.length := by omega
 have h2 : ¬ (k : Int) < 0 := by omega
 by_cases g1 : (l.getD k default).kind = 1
 case neg =>
  have hA : promoteA l i = (l, 1) := by unfold promoteA; rw [if_neg (by omega)]; simp only [e, Int.toNat_natCast]; rw [if_pos (.inl g1)]
  simp only [e, h0, h1, h2, hc, g1, cellD, aset, lay, wk3, wk, iaddrV_map, Nat.reduceAdd, Nat.reduceSub, Nat.reduceMul, Nat.reduceLeDiff, Nat.reduceEqDiff, Nat.reduceBEq, Int.reduceLE, Int.reduceLT, Int.reduceEq, Int.reduceNe, Int.reduceAdd, Int.reduceSub, Int.reduceToNat, Int.reduceNeg, ↓reduceIte, reduceCtorEq]
  exact KWk_sets 0 l 1 _ rfl rfl ⟨by rw [hA]; rfl, rfl⟩
 by_cases g2 : (l.getD k default).origin = 0
 ·have hA : promoteA l i = (l, 1) := by unfold promoteA; rw [if_neg (by omega)]; simp only [e, Int.toNat_natCast]; rw [if_pos (.inr g2)]
  simp only [e, h0, h1, h2, hc, g1, g2, cellD, aset, lay, wk3, wk, iaddrV_map, Nat.reduceAdd, Nat.reduceSub, Nat.reduceMul, Nat.reduceLeDiff, Nat.reduceEqDiff, Nat.reduceBEq, Int.reduceLE, Int.reduceLT, Int.reduceEq, Int.reduceNe, Int.reduceAdd, Int.reduceSub, Int.reduceToNat, Int.reduceNeg, ↓reduceIte, reduceCtorEq]
  exact KWk_sets 0 l 1 _ rfl rfl ⟨by rw [hA]; rfl, rfl⟩
 have hB : promoteA l i = if findA l (l.getD k default).origin < 0 ∨ isA l (l.getD (findA l (l.getD k default).origin).toNat default).origin 1 = false then (l, 1) else (promoted l i k (findA l (l.getD k default).origin).toNat (findA l (l.getD (findA l (l.getD k default).origin).toNat default).origin).toNat, 0) := by
  unfold promoteA; rw [if_neg (by omega)]; simp only [e, Int.toNat_natCast]; rw [if_neg (fun h => h.elim (fun h => h g1) g2)]
 simp only [e, h0, h1, h2, hc, g1, g2, cellD, aset, lay, wk3, wk, iaddrV_map, Nat.reduceAdd, Nat.reduceSub, Nat.reduceMul, Nat.reduceLeDiff, Nat.reduceEqDiff, Nat.reduceBEq, Int.reduceLE, Int.reduceLT, Int.reduceEq, Int.reduceNe, Int.reduceAdd, Int.reduceSub, Int.reduceToNat, Int.reduceNeg, ↓reduceIte, reduceCtorEq]
 refine CT_ok (findAt l hl1 (l.getD k default).origin 0 _ rfl) ?_
 rintro _ _ ⟨rfl, rfl⟩
 rcases find_of (l := l) (i := (l.getD k default).origin) with ⟨e', _⟩ | ⟨m, e', hm, _, _⟩
 ·rw [if_pos (.inl (by omega))] at hB
  simp only [e', lay, wk3, wk, iaddrV_map, Nat.reduceAdd, Nat.reduceSub, Nat.reduceMul, Nat.reduceLeDiff, Nat.reduceEqDiff, Nat.reduceBEq, Int.reduceLE, Int.reduceLT, Int.reduceEq, Int.reduceNe, Int.reduceAdd, Int.reduceSub, Int.reduceToNat, Int.reduceNeg, ↓reduceIte, reduceCtorEq]
  exact KWk_sets 0 l 1 _ rfl rfl ⟨by rw [hB]; rfl, rfl⟩
 rw [e', Int.toNat_natCast] at hB
 have hc' := cell_at hm
 have h0' : (0 : Int) ≤ m := by omega
 have h1' : (m : Int) < l.length := by omega
 have h2' : ¬ (m : Int) < 0 := by omega
 simp only [e', h0', h1', h2', hc', cellD, aset, lay, wk3, wk, iaddrV_map, Nat.reduceAdd, Nat.reduceSub, Nat.reduceMul, Nat.reduceLeDiff, Nat.reduceEqDiff, Nat.reduceBEq, Int.reduceLE, Int.reduceLT, Int.reduceEq, Int.reduceNe, Int.reduceAdd, Int.reduceSub, Int.reduceToNat, Int.reduceNeg, ↓reduceIte, reduceCtorEq]
 refine CT_ok (isAt l hl1 (l.getD m default).origin 1 0 _ (by simp [AH.at, cellD, aset])) ?_
 rintro _ _ ⟨rfl, rfl⟩
 cases h3 : isA l (l.getD m default).origin 1
 ·rw [if_pos (.inr h3)] at hB
  simp only [lay, wk3, wk, iaddrV_map, Nat.reduceAdd, Nat.reduceSub, Nat.reduceMul, Nat.reduceLeDiff, Nat.reduceEqDiff, Nat.reduceBEq, Int.reduceLE, Int.reduceLT, Int.reduceEq, Int.reduceNe, Int.reduceAdd, Int.reduceSub, Int.reduceToNat, Int.reduceNeg, ↓reduceIte, reduceCtorEq]
  exact KWk_sets 0 l 1 _ rfl rfl ⟨by rw [hB]; rfl, rfl⟩
 rw [if_neg (fun h => h.elim h2' (fun h => by rw [h3] at h; cases h))] at hB
 obtain ⟨o, e2, ho⟩ : ∃ o : Nat, findA l (l.getD m default).origin = o ∧ o < l.length := by
  unfold isA at h3
  rcases find_of (l := l) (i := (l.getD m default).origin) with ⟨e2, _⟩ | ⟨o, e2, ho, _, _⟩
  ·rw [e2] at h3; simp at h3
  ·exact ⟨o, e2, ho⟩
 rw [e2, Int.toNat_natCast] at hB
 have hc2 := cell_at ho
 have h02 : (0 : Int) ≤ o := by omega
 have h12 : (o : Int) < l.length := by omega
 simp only [h0', h1', hc', cellD, aset, lay, wk3, wk, iaddrV_map, Nat.reduceAdd, Nat.reduceSub, Nat.reduceMul, Nat.reduceLeDiff, Nat.reduceEqDiff, Nat.reduceBEq, Int.reduceLE, Int.reduceLT, Int.reduceEq, Int.reduceNe, Int.reduceAdd, Int.reduceSub, Int.reduceToNat, Int.reduceNeg, ↓reduceIte, reduceCtorEq]
 refine CT_ok (findAt l hl1 (l.getD m default).origin 0 _ (by simp [AH.at, cellD, aset])) ?_
 rintro _ _ ⟨rfl, rfl⟩
 simp only [e2, lay, wk3, wk, iaddrV_map, Nat.reduceAdd, Nat.reduceSub, Nat.reduceMul, Nat.reduceLeDiff, Nat.reduceEqDiff, Nat.reduceBEq, Int.reduceLE, Int.reduceLT, Int.reduceEq, Int.reduceNe, Int.reduceAdd, Int.reduceSub, Int.reduceToNat, Int.reduceNeg, ↓reduceIte, reduceCtorEq]
 refine WT_drawE ?_
 refine WDT_more 0 ?_
 simp only [cellD, aset] at hc hc' hc2
 have hs1 := set_cellD l k (reorig (l.getD k default) (l.getD o default).origin)
 have hl1' : (l.set k (reorig (l.getD k default) (l.getD o default).origin)).length = l.length := List.length_set
 have hpr : promoted l i k m o = ((l.set k (reorig (l.getD k default) (l.getD o default).origin)).set o (reorig ((l.set k (reorig (l.getD k default) (l.getD o default).origin)).getD o default) (l.getD m default).id)).map (turnA (l.getD m default).origin (l.getD m default).id i) := rfl
 rw [hpr] at hB
 have hmid : (l.set k (reorig (l.getD k default) (l.getD o default).origin)).getD m default = l.getD m default ∨ ((l.set k (reorig (l.getD k default) (l.getD o default).origin)).getD m default).id = (l.getD m default).id := by
  rw [List.getD_eq_getElem?_getD, List.getElem?_set]
  by_cases hkm : k = m
  ·subst hkm; right; rw [if_pos rfl, if_pos hk]; rfl
  ·left; rw [if_neg hkm, List.getD_eq_getElem?_getD]
 simp only [cellD, aset, reorig] at hs1
 simp only [reorig] at hl1' hB hmid
 generalize hL1 : l.set k ⟨(l.getD k default).id, (l.getD k default).kind, (l.getD o default).origin, (l.getD k default).quota, (l.getD k default).files⟩ = l1 at hs1 hl1' hB hmid
 have hc3 := cell_at (l := l1) (k := o) (by omega)
 have hs2 := set_cellD l1 o (reorig (l1.getD o default) (l.getD m default).id)
 have hl2' : (l1.set o (reorig (l1.getD o default) (l.getD m default).id)).length = l1.length := List.length_set
 have hmid2 : ((l1.set o (reorig (l1.getD o default) (l.getD m default).id)).getD m default).id = (l.getD m default).id := by
  have h : (l1.getD m default).id = (l.getD m default).id := by rcases hmid with h | h; rw [h]; exact h
  rw [List.getD_eq_getElem?_getD, List.getElem?_set]
  by_cases hom : o = m
  ·subst hom; rw [if_pos rfl, if_pos (by omega)]; exact h
  ·rw [if_neg hom, ← List.getD_eq_getElem?_getD]; exact h
 simp only [cellD, aset, reorig] at hs2 hc3
 simp only [reorig] at hl2' hmid2
 generalize hL2 : l1.set o ⟨(l1.getD o default).id, (l1.getD o default).kind, (l.getD m default).id, (l1.getD o default).quota, (l1.getD o default).files⟩ = l2 at hs2 hl2' hB hmid2
 have hl2 : l2.length = l.length := hl2'.trans hl1'
 simp only [h0, h1, h0', h1', h02, h12, hc, hc', hc2, hs1, hc3, hs2, hl1', hl2, lay, wk3, wk, iaddrV_map, Nat.reduceAdd, Nat.reduceSub, Nat.reduceMul, Nat.reduceLeDiff, Nat.reduceEqDiff, Nat.reduceBEq, Int.reduceLE, Int.reduceLT, Int.reduceEq, Int.reduceNe, Int.reduceAdd, Int.reduceSub, Int.reduceToNat, Int.reduceNeg, ↓reduceIte, reduceCtorEq]
 refine ⟨by omega, by rfl, ?_⟩
 have hcm := cell_at (l := l2) (k := m) (by omega)
 generalize l.getD m default = sm at *
 clear hs1 hc3 hs2 hL1 hL2 hc hc' hc2
 have hre : ([some (List.map (fun d : Dset => cellD d) l2)] : AH) = [some (l2.map cellD)] := rfl
 refine WT_loop (W_wk (fr' := [asets l, .int .i64 i, .top, .top, .emp, .int .i64 0, .own 0 5 0 l.length l.length, .own 0 5 0 l.length l.length, .int .i64 k, .int .i64 m, .int .i64 sm.origin, .int .i64 o, .top, .top] ++ List.replicate 72 .top ++ [.own 0 5 0 l.length l.length, .int .i64 l.length, .int .i64 0] ++ List.replicate 30 .top) (Wk_tops ?_) (W_loop (fun n fr H' => ∃ j : Nat, j ≤ l.length ∧ n = l.length - j ∧ H' = [some ((someA (turnA sm.origin sm.id i) l2 j).map cellD)] ∧
  fr = [asets l, .int .i64 i, .top, .top, .emp, .int .i64 0, .own 0 5 0 l.length l.length, .own 0 5 0 l.length l.length, .int .i64 k, .int .i64 m, .int .i64 sm.origin, .int .i64 o, .top, .top] ++ List.replicate 72 .top ++ [.own 0 5 0 l.length l.length, .int .i64 l.length, .int .i64 j] ++ List.replicate 30 .top) l.length ⟨0, by omega, rfl, by rw [someA_zero], rfl⟩ ?_))
 ·simp only [asets, tp]
 rintro n fr H' ⟨j, hj, rfl, rfl, rfl⟩
 refine WT_ok ?_
 have hsl := someA_len (turnA sm.origin sm.id i) l2 j (by omega)
 simp only [lay, wk3, wk, iaddrV_map, Nat.reduceAdd, Nat.reduceSub, Nat.reduceMul, Nat.reduceLeDiff, Nat.reduceEqDiff, Nat.reduceBEq, Int.reduceLE, Int.reduceLT, Int.reduceEq, Int.reduceNe, Int.reduceAdd, Int.reduceSub, Int.reduceToNat, Int.reduceNeg, ↓reduceIte, reduceCtorEq]
 refine guard_both ?_ ?_ <;> intro h <;> simp only [hy] at h
 ·have hj2 : j < l.length := by omega
  have hcj := cell_at (l := someA (turnA sm.origin sm.id i) l2 j) (k := j) (by omega)
  have hcm := cell_at (l := someA (turnA sm.origin sm.id i) l2 j) (k := m) (by omega)
  have hgj : (someA (turnA sm.origin sm.id i) l2 j).getD j default = l2.getD j default := by rw [someA_getD _ _ _ _ (by omega), if_neg (by omega)]
  have hgm : ((someA (turnA sm.origin sm.id i) l2 j).getD m default).id = sm.id := by
   rw [someA_getD _ _ _ _ (by omega)]
   split
   ·rw [turnA_id]; exact hmid2
   ·exact hmid2
  have hsu := someA_succ (turnA sm.origin sm.id i) l2 j (by omega)
  have hsw := set_cellD (someA (turnA sm.origin sm.id i) l2 j) j (turnA sm.origin sm.id i (l2.getD j default))
  rw [hsu] at hsw
  rw [hgj] at hcj
  generalize (someA (turnA sm.origin sm.id i) l2 j).getD m default = dm at hcm hgm
  have hss := someA_len (turnA sm.origin sm.id i) l2 (j + 1) (by omega)
  have hself : ¬ ((l2.getD j default).kind = 2 ∧ (l2.getD j default).origin = sm.origin ∧ (l2.getD j default).id ≤ sm.id) → (someA (turnA sm.origin sm.id i) l2 (j + 1)).map cellD = (someA (turnA sm.origin sm.id i) l2 j).map cellD := fun hn => by
   have : turnA sm.origin sm.id i (l2.getD j default) = l2.getD j default := by unfold turnA; rw [if_neg hn]
   rw [this] at hsw
   rw [← hsw]
   have := cell_same (l := someA (turnA sm.origin sm.id i) l2 j) (k := j) (by omega)
   rwa [hgj] at this
  have hyes : ((l2.getD j default).kind = 2 ∧ (l2.getD j default).origin = sm.origin ∧ (l2.getD j default).id ≤ sm.id) → ((someA (turnA sm.origin sm.id i) l2 j).map cellD).set j [.int .i64 (l2.getD j default).id, .int .i64 (l2.getD j default).kind, .int .i64 i, .int .i64 (l2.getD j default).quota, .fz ((l2.getD j default).files.map pnode)] = (someA (turnA sm.origin sm.id i) l2 (j + 1)).map cellD := fun hy => by
   have : turnA sm.origin sm.id i (l2.getD j default) = ⟨(l2.getD j default).id, (l2.getD j default).kind, i, (l2.getD j default).quota, (l2.getD j default).files⟩ := by unfold turnA; rw [if_pos hy]
   rw [this] at hsw
   exact hsw
  generalize someA (turnA sm.origin sm.id i) l2 j = lj at *
  generalize hlj' : someA (turnA sm.origin sm.id i) l2 (j + 1) = lj' at *
  generalize l2.getD j default = dj at *
  have w2 : IntKind.i64.wrap ((j : Int) + 1) = (j : Int) + 1 := IntWalk.i64_in _ (by omega)
  have k0 : (0 : Int) ≤ j := by omega
  have k1 : (j : Int) < l.length := by omega
  have k3 : lj.length = l.length := by omega
  simp only [cellD, aset] at hcj hcm
  simp only [h, k0, k1, k3, hcj, cellD, aset, lay, wk3, wk, iaddrV_map, Nat.reduceAdd, Nat.reduceSub, Nat.reduceMul, Nat.reduceLeDiff, Nat.reduceEqDiff, Nat.reduceBEq, Int.reduceLE, Int.reduceLT, Int.reduceEq, Int.reduceNe, Int.reduceAdd, Int.reduceSub, Int.reduceToNat, Int.reduceNeg, ↓reduceIte, reduceCtorEq]
  refine WT_draw ?_
  by_cases q1 : dj.kind = 2
  ·by_cases q2 : dj.origin = sm.origin
   ·by_cases q3 : dj.id ≤ sm.id
    ·have hn := hyes ⟨q1, q2, q3⟩
     rw [q1] at hn
     simp only [h, h0', h1', k0, k1, k3, hcj, hcm, hgm, q1, q2, q3, hn, w2, cellD, aset, lay, wk3, wk, iaddrV_map, Nat.reduceAdd, Nat.reduceSub, Nat.reduceMul, Nat.reduceLeDiff, Nat.reduceEqDiff, Nat.reduceBEq, Int.reduceLE, Int.reduceLT, Int.reduceEq, Int.reduceNe, Int.reduceAdd, Int.reduceSub, Int.reduceToNat, Int.reduceNeg, ↓reduceIte, reduceCtorEq]
     refine QLoop_wk (n' := l.length - (j + 1)) (by omega) ⟨j + 1, by omega, rfl, by rw [hlj'], rfl⟩ (Wk_obj1 (renO_cells _ _) ?_)
     simp only [renL, ren, asets, upTo, show (0 : Nat) < 1 by omega, if_true, tq]
    ·rw [← hself (fun h => q3 h.2.2)]
     rw [← hself (fun h => q3 h.2.2)] at hcj hcm
     simp only [h, h0', h1', k0, k1, k3, hss, hl2, hcj, hcm, hgm, q1, q2, q3, w2, cellD, aset, lay, wk3, wk, iaddrV_map, Nat.reduceAdd, Nat.reduceSub, Nat.reduceMul, Nat.reduceLeDiff, Nat.reduceEqDiff, Nat.reduceBEq, Int.reduceLE, Int.reduceLT, Int.reduceEq, Int.reduceNe, Int.reduceAdd, Int.reduceSub, Int.reduceToNat, Int.reduceNeg, ↓reduceIte, reduceCtorEq]
     refine QLoop_wk (n' := l.length - (j + 1)) (by omega) ⟨j + 1, by omega, rfl, by rw [hlj'], rfl⟩ (Wk_obj1 (renO_cells _ _) ?_)
     simp only [renL, ren, asets, upTo, show (0 : Nat) < 1 by omega, if_true, tq]
   ·rw [← hself (fun h => q2 h.2.1)]
    simp only [h, q1, q2, w2, cellD, aset, lay, wk3, wk, iaddrV_map, Nat.reduceAdd, Nat.reduceSub, Nat.reduceMul, Nat.reduceLeDiff, Nat.reduceEqDiff, Nat.reduceBEq, Int.reduceLE, Int.reduceLT, Int.reduceEq, Int.reduceNe, Int.reduceAdd, Int.reduceSub, Int.reduceToNat, Int.reduceNeg, ↓reduceIte, reduceCtorEq]
    refine QLoop_wk (n' := l.length - (j + 1)) (by omega) ⟨j + 1, by omega, rfl, by rw [hlj'], rfl⟩ (Wk_obj1 (renO_cells _ _) ?_)
    simp only [renL, ren, asets, upTo, show (0 : Nat) < 1 by omega, if_true, tq]
  ·rw [← hself (fun h => q1 h.1)]
   simp only [h, q1, w2, cellD, aset, lay, wk3, wk, iaddrV_map, Nat.reduceAdd, Nat.reduceSub, Nat.reduceMul, Nat.reduceLeDiff, Nat.reduceEqDiff, Nat.reduceBEq, Int.reduceLE, Int.reduceLT, Int.reduceEq, Int.reduceNe, Int.reduceAdd, Int.reduceSub, Int.reduceToNat, Int.reduceNeg, ↓reduceIte, reduceCtorEq]
   refine QLoop_wk (n' := l.length - (j + 1)) (by omega) ⟨j + 1, by omega, rfl, by rw [hlj'], rfl⟩ (Wk_obj1 (renO_cells _ _) ?_)
   simp only [renL, ren, asets, upTo, show (0 : Nat) < 1 by omega, if_true, tq]
 ·have : j = l.length := by omega
  subst this
  rw [← hl2, someA_all, hl2]
  simp only [h, lay, wk3, wk, iaddrV_map, Nat.reduceAdd, Nat.reduceSub, Nat.reduceMul, Nat.reduceLeDiff, Nat.reduceEqDiff, Nat.reduceBEq, Int.reduceLE, Int.reduceLT, Int.reduceEq, Int.reduceNe, Int.reduceAdd, Int.reduceSub, Int.reduceToNat, Int.reduceNeg, ↓reduceIte, reduceCtorEq]
  exact KWk_sets 0 (l2.map (turnA sm.origin sm.id i)) 0 _ (by simp; omega) rfl ⟨by rw [hB]; rfl, rfl⟩
end Go.Proofs.YtemjlopoffjmpaaGreat.Abs
set_option linter.unusedSimpArgs false
set_option linter.unusedVariables false
namespace Go.Proofs.YtemjlopoffjmpaaGreat.Abs
open Go Go.Proofs
theorem MayD.mono {l l' : List Dset} {d : Dset} (h : MayD l d) (hs : ∀ o ∈ l, ∃ o' ∈ l', o'.id = o.id ∧ o'.kind = o.kind) : MayD l' d := by
 refine ⟨h.id, h.quota, h.files, h.kinds, fun e => ?_, fun e => ?_⟩
 ·obtain ⟨h1, o, ho, hi, hk⟩ := h.snap e
  obtain ⟨o', ho', hi', hk'⟩ := hs o ho
  exact ⟨h1, o', ho', by omega, by omega⟩
 ·rcases h.live e with h1 | ⟨o, ho, hi, hk⟩
  ·exact .inl h1
  ·obtain ⟨o', ho', hi', hk'⟩ := hs o ho
   exact .inr ⟨o', ho', by omega, by omega⟩
theorem MayD.origin {l : List Dset} {d : Dset} (h : MayD l d) : d.origin = 0 ∨ ∃ o ∈ l, o.id = d.origin := by
 rcases h.kinds with e | e
 ·rcases h.live e with h1 | ⟨o, ho, hi, _⟩
  ·exact .inl h1
  ·exact .inr ⟨o, ho, hi⟩
 ·obtain ⟨_, o, ho, hi, _⟩ := h.snap e
  exact .inr ⟨o, ho, hi⟩
theorem addA_may {l : List Dset} (h : MayL l) {next : Int} {x : Dset} (hf : Wf x.files) (hq : 0 ≤ x.quota ∧ x.quota ≤ 255)
 (hk : (x.kind = 1 ∧ (x.origin = 0 ∨ ∃ o ∈ l, o.id = x.origin ∧ o.kind = 2)) ∨ (x.kind = 2 ∧ x.quota = 0 ∧ ∃ o ∈ l, o.id = x.origin ∧ o.kind = 1)) : MayL (addA l next x).1 := by
 unfold addA
 split
 case isFalse => exact h
 case isTrue hok =>
  simp only [addOk, Bool.and_eq_true, Bool.or_eq_true, decide_eq_true_eq] at hok
  obtain ⟨⟨⟨h1, h2⟩, h3⟩, h4⟩ := hok
  have hlt : ∀ d ∈ l, d.id < next := fun d hd => by
   obtain ⟨n, hn, rfl⟩ := mem_dgetD hd
   rcases h4 with h4 | h4
   ·omega
   ·rcases Nat.lt_or_ge n (l.length - 1) with h5 | h5
    ·have := h.lt h5 (by omega); omega
    ·have : n = l.length - 1 := by omega
     rw [this]; exact h4
  have hox : x.origin = 0 ∨ ∃ o ∈ l, o.id = x.origin := by
   rcases hk with ⟨_, h5 | ⟨o, ho, hi, _⟩⟩ | ⟨_, _, o, ho, hi, _⟩
   ·exact .inl h5
   ·exact .inr ⟨o, ho, hi⟩
   ·exact .inr ⟨o, ho, hi⟩
  have hne : x.origin ≠ next := by
   rcases hox with h5 | ⟨o, ho, hi⟩
   ·omega
   ·have := hlt o ho; omega
  have hsub : ∀ o ∈ l, ∃ o' ∈ l ++ [({ x with id := next } : Dset)], o'.id = o.id ∧ o'.kind = o.kind := fun o ho => ⟨o, by simp [ho], rfl, rfl⟩
  refine ⟨by simp; omega, ?_, fun d hd => ?_, ?_⟩
  ·rw [List.pairwise_append]
   refine ⟨h.sorted, by simp, fun a ha b hb => ?_⟩
   rw [List.mem_singleton] at hb
   subst hb
   exact hlt a ha
  ·rcases List.mem_append.1 hd with hd | hd
   ·exact (h.each d hd).mono hsub
   ·rw [List.mem_singleton] at hd
    subst hd
    refine ⟨⟨h2, h3⟩, hq, hf, ?_, fun e => ?_, fun e => ?_⟩
    ·rcases hk with ⟨e, _⟩ | ⟨e, _⟩
     ·exact .inl e
     ·exact .inr e
    ·rcases hk with ⟨e', _⟩ | ⟨_, e2, o, ho, hi, hok⟩
     ·have : x.kind = 2 := e
      omega
     ·exact ⟨e2, o, by simp [ho], hi, hok⟩
    ·rcases hk with ⟨_, h5 | ⟨o, ho, hi, hok⟩⟩ | ⟨e', _⟩
     ·exact .inl h5
     ·exact .inr ⟨o, by simp [ho], hi, hok⟩
     ·have : x.kind = 1 := e
      omega
  ·obtain ⟨r, hr⟩ := h.tree
   refine ⟨fun i => if i = next then r x.origin + 1 else r i, fun d hd o ho e => ?_⟩
   show (if o.id = next then _ else _) < (if d.id = next then _ else _)
   rcases List.mem_append.1 hd with hd | hd
   ·have hd1 := hlt d hd
    rw [if_neg (show ¬ d.id = next by omega)]
    rcases List.mem_append.1 ho with ho | ho
    ·have ho1 := hlt o ho
     rw [if_neg (by omega)]
     exact hr d hd o ho e
    ·rw [List.mem_singleton] at ho
     subst ho
     exfalso
     have e' : next = d.origin := e
     rcases (h.each d hd).origin with h5 | ⟨o, ho, hi⟩
     ·omega
     ·have := hlt o ho; omega
   ·rw [List.mem_singleton] at hd
    subst hd
    rw [if_pos rfl]
    rcases List.mem_append.1 ho with ho | ho
    ·have ho1 := hlt o ho
     rw [if_neg (by omega)]
     have e' : o.id = x.origin := e
     rw [e']; omega
    ·rw [List.mem_singleton] at ho
     subst ho
     exfalso
     have e' : next = x.origin := e
     exact hne e'.symm
theorem createA_may {l : List Dset} (h : MayL l) (next q : Int) : MayL (createA l next q).1 := by
 unfold createA
 split
 ·exact h
 ·exact addA_may h newA_wf ⟨by show 0 ≤ q; omega, by show q ≤ 255; omega⟩ (.inl ⟨rfl, .inl rfl⟩)
theorem snapA_may {l : List Dset} (h : MayL l) (next i : Int) : MayL (snapA l next i).1 := by
 unfold snapA
 cases hg : getA l i with
 | none => exact h
 | some d =>
   obtain ⟨hd, hi⟩ := getA_mem hg
   have hm := h.each d hd
   simp only
   split
   ·exact h
   ·rename_i hk
    exact addA_may h hm.files ⟨Int.le_refl 0, by show (0 : Int) ≤ 255; omega⟩ (.inr ⟨rfl, rfl, d, hd, hi, by rcases hm.kinds with e | e; exact e; exact absurd e hk⟩)
theorem cloneA_may {l : List Dset} (h : MayL l) (next i : Int) : MayL (cloneA l next i).1 := by
 unfold cloneA
 cases hg : getA l i with
 | none => exact h
 | some d =>
   obtain ⟨hd, hi⟩ := getA_mem hg
   have hm := h.each d hd
   simp only
   split
   ·rename_i hk
    exact addA_may h hm.files ⟨Int.le_refl 0, by show (0 : Int) ≤ 255; omega⟩ (.inl ⟨rfl, .inr ⟨d, hd, hi, hk⟩⟩)
   ·exact h
theorem eraseIdx_mem {l : List Dset} (h : MayL l) {k : Nat} (hk : k < l.length) {d : Dset} : d ∈ l.eraseIdx k ↔ d ∈ l ∧ d.id ≠ (l.getD k default).id := by
 rw [List.mem_eraseIdx_iff_getElem]
 constructor
 ·rintro ⟨j, hj, hjk, rfl⟩
  refine ⟨List.getElem_mem hj, fun e => hjk ?_⟩
  have : (l.getD j default).id = (l.getD k default).id := by
   rw [List.getD_eq_getElem?_getD, List.getElem?_eq_getElem hj]; exact e
  exact h.inj hj hk this
 ·rintro ⟨hd, hne⟩
  obtain ⟨j, hj, rfl⟩ := mem_dgetD hd
  refine ⟨j, hj, fun e => hne (by rw [e]), ?_⟩
  rw [List.getD_eq_getElem?_getD, List.getElem?_eq_getElem hj]; rfl
theorem hangsA_false {l : List Dset} {i : Int} (h : ¬ hangsA l i = true) : ∀ d ∈ l, d.origin ≠ i := by
 intro d hd e
 apply h
 unfold hangsA
 obtain ⟨n, hn, rfl⟩ := mem_dgetD hd
 rcases idxA_cases (fun d => decide (d.origin = i)) l with ⟨_, h2⟩ | ⟨k, h1, _, _⟩
 ·have h3 := of_decide_eq_false (h2 n hn)
  exact absurd e h3
 ·rw [h1]; exact decide_eq_true (by omega)
theorem destroyA_may {l : List Dset} (h : MayL l) (i : Int) : MayL (destroyA l i).1 := by
 unfold destroyA
 split
 ·exact h
 ·rename_i h1
  split
  ·exact h
  ·rename_i h2
   rcases find_of (l := l) (i := i) with ⟨e, _⟩ | ⟨k, e, hk, hid, _⟩
   ·omega
   ·rw [e, Int.toNat_natCast]
    have hno := hangsA_false (fun hh => h2 (.inl hh))
    have hsub : ∀ d ∈ l.eraseIdx k, d ∈ l := fun d hd => ((eraseIdx_mem h hk).1 hd).1
    have hle := List.length_eraseIdx_le l k
    refine ⟨by have := h.len; show (l.eraseIdx k).length ≤ 8; omega, h.sorted.sublist (List.eraseIdx_sublist l k), fun d hd => ?_, ?_⟩
    ·have hdl := hsub d hd
     have hm := h.each d hdl
     refine ⟨hm.id, hm.quota, hm.files, hm.kinds, fun e => ?_, fun e => ?_⟩
     ·obtain ⟨h3, o, ho, hoi, hok⟩ := hm.snap e
      exact ⟨h3, o, (eraseIdx_mem h hk).2 ⟨ho, fun e2 => hno d hdl (by omega)⟩, hoi, hok⟩
     ·rcases hm.live e with h3 | ⟨o, ho, hoi, hok⟩
      ·exact .inl h3
      ·exact .inr ⟨o, (eraseIdx_mem h hk).2 ⟨ho, fun e2 => hno d hdl (by omega)⟩, hoi, hok⟩
    ·obtain ⟨r, hr⟩ := h.tree
     exact ⟨r, fun d hd o ho e => hr d (hsub d hd) o (hsub o ho) e⟩
theorem MayL.map {l : List Dset} (h : MayL l) (f : Dset → Dset) (hid : ∀ d ∈ l, (f d).id = d.id) (hkind : ∀ d ∈ l, (f d).kind = d.kind) (hquota : ∀ d ∈ l, (f d).quota = d.quota) (hfiles : ∀ d ∈ l, Wf (f d).files)
 (hsnap : ∀ d ∈ l, d.kind = 2 → ∃ o ∈ l, o.id = (f d).origin ∧ o.kind = 1) (hlive : ∀ d ∈ l, d.kind = 1 → (f d).origin = 0 ∨ ∃ o ∈ l, o.id = (f d).origin ∧ o.kind = 2)
 (r : Int → Nat) (hr : ∀ d ∈ l, ∀ o ∈ l, o.id = (f d).origin → r o.id < r d.id) : MayL (l.map f) := by
 have hmem : ∀ d ∈ l.map f, ∃ d0 ∈ l, f d0 = d := fun d hd => by
  obtain ⟨d0, h0, e⟩ := List.mem_map.1 hd
  exact ⟨d0, h0, e⟩
 refine ⟨by rw [List.length_map]; exact h.len, ?_, fun d hd => ?_, r, fun d hd o ho e => ?_⟩
 ·rw [List.pairwise_map]
  refine h.sorted.imp_of_mem fun ha hb hab => ?_
  rw [hid _ ha, hid _ hb]; exact hab
 ·obtain ⟨d0, h0, rfl⟩ := hmem d hd
  have hm := h.each d0 h0
  refine ⟨by rw [hid d0 h0]; exact hm.id, by rw [hquota d0 h0]; exact hm.quota, hfiles d0 h0, by rw [hkind d0 h0]; exact hm.kinds, fun e => ?_, fun e => ?_⟩
  ·rw [hkind d0 h0] at e
   obtain ⟨o, ho, hoi, hok⟩ := hsnap d0 h0 e
   exact ⟨by rw [hquota d0 h0]; exact (hm.snap e).1, f o, List.mem_map.2 ⟨o, ho, rfl⟩, by rw [hid o ho]; exact hoi, by rw [hkind o ho]; exact hok⟩
  ·rw [hkind d0 h0] at e
   rcases hlive d0 h0 e with h1 | ⟨o, ho, hoi, hok⟩
   ·exact .inl h1
   ·exact .inr ⟨f o, List.mem_map.2 ⟨o, ho, rfl⟩, by rw [hid o ho]; exact hoi, by rw [hkind o ho]; exact hok⟩
 ·obtain ⟨d0, h0, rfl⟩ := hmem d hd
  obtain ⟨o0, h1, rfl⟩ := hmem o ho
  rw [hid d0 h0, hid o0 h1]
  rw [hid o0 h1] at e
  exact hr d0 h0 o0 h1 e
theorem set_map {l : List Dset} (h : MayL l) {k : Nat} (hk : k < l.length) (g : Dset → Dset) : l.set k (g (l.getD k default)) = l.map fun d => if d.id = (l.getD k default).id then g d else d := by
 apply List.ext_getElem?
 intro j
 rw [List.getElem?_set, List.getElem?_map]
 by_cases hjl : j < l.length
 ·have hj : l[j] = l.getD j default := by rw [List.getD_eq_getElem?_getD, List.getElem?_eq_getElem hjl]; rfl
  rw [List.getElem?_eq_getElem hjl, Option.map_some, hj]
  by_cases hkj : k = j
  ·subst hkj; rw [if_pos rfl, if_pos hk, if_pos rfl]
  ·rw [if_neg hkj, if_neg fun e => hkj (h.inj hk hjl e.symm)]
 ·rw [List.getElem?_eq_none (by omega)]
  by_cases hkj : k = j
  ·omega
  ·rw [if_neg hkj]; rfl
theorem backA_may {l : List Dset} (h : MayL l) (i j : Int) : MayL (backA l i j).1 := by
 unfold backA
 split
 ·exact h
 ·rename_i h1
  rcases find_of (l := l) (i := i) with ⟨e, _⟩ | ⟨k, e, hk, hid, _⟩
  ·omega
  rcases find_of (l := l) (i := j) with ⟨e', _⟩ | ⟨m, e', hm, hid', _⟩
  ·omega
  rw [e, e', Int.toNat_natCast, Int.toNat_natCast]
  simp only
  split
  ·exact h
  ·split
   ·exact h
   ·show MayL (l.set k _)
    rw [set_map h hk (fun d => { d with files := (l.getD m default).files })]
    obtain ⟨r, hr⟩ := h.tree
    have hfm := (h.each _ (dgetD_mem hm)).files
    refine h.map _ (fun d _ => by split <;> rfl) (fun d _ => by split <;> rfl) (fun d _ => by split <;> rfl) (fun d hd => ?_) (fun d hd e => ?_) (fun d hd e => ?_) r (fun d hd o ho e => ?_)
    ·split
     ·exact hfm
     ·exact (h.each d hd).files
    ·have := ((h.each d hd).snap e).2
     split <;> exact this
    ·have := (h.each d hd).live e
     split <;> exact this
    ·have : o.id = d.origin := by
      rw [e]; split <;> rfl
     exact hr d hd o ho this
theorem isA_true {l : List Dset} {i k : Int} (h : isA l i k = true) : ∃ o : Nat, findA l i = o ∧ o < l.length ∧ (l.getD o default).id = i ∧ (l.getD o default).kind = k := by
 unfold isA at h
 rw [Bool.and_eq_true] at h
 have h1 := of_decide_eq_true h.1
 have h2 := of_decide_eq_true h.2
 rcases find_of (l := l) (i := i) with ⟨e, _⟩ | ⟨o, e, ho, hoi, _⟩
 ·omega
 ·rw [e, Int.toNat_natCast] at h2
  exact ⟨o, e, ho, hoi, h2⟩
theorem turnA_live {was sid i : Int} {x : Dset} (h : x.kind = 1) : turnA was sid i x = x := by
 unfold turnA
 rw [if_neg fun hh => by omega]
theorem turnA_re {was sid i : Int} {x : Dset} (v : Int) (h : x.kind = 1) : turnA was sid i (reorig x v) = reorig x v := turnA_live (x := reorig x v) h
def proF (c o s x : Dset) : Dset := if x.id = c.id then reorig x o.origin else if x.id = o.id then reorig x s.id else turnA s.origin s.id c.id x
theorem promoted_map {l : List Dset} (h : MayL l) {ki ks ko : Nat} (hi : ki < l.length) (ho : ko < l.length) (hne : ki ≠ ko) (hc1 : (l.getD ki default).kind = 1) (ho1 : (l.getD ko default).kind = 1) :
 promoted l (l.getD ki default).id ki ks ko = l.map (proF (l.getD ki default) (l.getD ko default) (l.getD ks default)) := by
 unfold promoted
 apply List.ext_getElem?
 intro j
 simp only [List.getElem?_map, List.getElem?_set, List.length_set]
 by_cases hjl : j < l.length
 ·have hj : l[j] = l.getD j default := by rw [List.getD_eq_getElem?_getD, List.getElem?_eq_getElem hjl]; rfl
  rw [List.getElem?_eq_getElem hjl, Option.map_some, hj]
  unfold proF
  by_cases h1 : ko = j
  ·subst h1
   have e1 : (l.set ki (reorig (l.getD ki default) (l.getD ko default).origin)).getD ko default = l.getD ko default := by
    rw [List.getD_eq_getElem?_getD, List.getElem?_set_ne hne, ← List.getD_eq_getElem?_getD]
   rw [if_pos rfl, if_pos ho, e1, if_neg fun e => hne (h.inj hi ho e.symm), if_pos rfl, Option.map_some, turnA_re _ ho1]
  ·rw [if_neg h1]
   by_cases h2 : ki = j
   ·subst h2
    rw [if_pos rfl, if_pos hi, if_pos rfl, Option.map_some, turnA_re _ hc1]
   ·rw [if_neg h2, if_neg fun e => h2 (h.inj hi hjl e.symm), if_neg fun e => h1 (h.inj ho hjl e.symm)]
    rfl
 ·rw [List.getElem?_eq_none (by omega)]
  by_cases h1 : ko = j
  ·omega
  ·by_cases h2 : ki = j
   ·omega
   ·rw [if_neg h1, if_neg h2]; rfl
theorem proF_may {l : List Dset} (h : MayL l) {c o s : Dset} (hc : c ∈ l) (ho : o ∈ l) (hs : s ∈ l) (hck : c.kind = 1) (hok : o.kind = 1) (hsk : s.kind = 2) (hcs : c.origin = s.id) (hso : s.origin = o.id) : MayL (l.map (proF c o s)) := by
 obtain ⟨r, hr⟩ := h.tree
 have r1 : r o.id < r s.id := hr s hs o ho hso.symm
 have r2 : r s.id < r c.id := hr c hc s hs hcs.symm
 have tsplit : ∀ d : Dset, (d.kind = 2 ∧ d.origin = s.origin ∧ d.id ≤ s.id ∧ turnA s.origin s.id c.id d = ⟨d.id, d.kind, c.id, d.quota, d.files⟩) ∨ (¬ (d.kind = 2 ∧ d.origin = s.origin ∧ d.id ≤ s.id) ∧ turnA s.origin s.id c.id d = d) := fun d => by
  unfold turnA
  by_cases hh : d.kind = 2 ∧ d.origin = s.origin ∧ d.id ≤ s.id
  ·left; rw [if_pos hh]; exact ⟨hh.1, hh.2.1, hh.2.2, rfl⟩
  ·right; rw [if_neg hh]; exact ⟨hh, rfl⟩
 have hF : ∀ d ∈ l, (proF c o s d).id = d.id ∧ (proF c o s d).kind = d.kind ∧ (proF c o s d).quota = d.quota ∧ (proF c o s d).files = d.files := fun d hd => by
  unfold proF
  split
  ·exact ⟨rfl, rfl, rfl, rfl⟩
  ·split
   ·exact ⟨rfl, rfl, rfl, rfl⟩
   ·rcases tsplit d with ⟨_, _, _, e⟩ | ⟨_, e⟩ <;> rw [e] <;> exact ⟨rfl, rfl, rfl, rfl⟩
 have hO : ∀ d ∈ l, (d = c ∧ (proF c o s d).origin = o.origin) ∨ (d = o ∧ d ≠ c ∧ (proF c o s d).origin = s.id) ∨ (d ≠ c ∧ d ≠ o ∧ (d.kind = 2 ∧ d.origin = s.origin ∧ d.id ≤ s.id) ∧ (proF c o s d).origin = c.id) ∨ (d ≠ c ∧ d ≠ o ∧ ¬ (d.kind = 2 ∧ d.origin = s.origin ∧ d.id ≤ s.id) ∧ (proF c o s d).origin = d.origin) := fun d hd => by
  unfold proF
  by_cases h1 : d.id = c.id
  ·left; rw [if_pos h1]; exact ⟨h.inj' hd hc h1, rfl⟩
  ·have n1 : d ≠ c := fun e => h1 (by rw [e])
   rw [if_neg h1]
   by_cases h2 : d.id = o.id
   ·right; left; rw [if_pos h2]; exact ⟨h.inj' hd ho h2, n1, rfl⟩
   ·have n2 : d ≠ o := fun e => h2 (by rw [e])
    rw [if_neg h2]
    right; right
    rcases tsplit d with ⟨e1, e2, e3, e⟩ | ⟨e1, e⟩
    ·left; rw [e]; exact ⟨n1, n2, ⟨e1, e2, e3⟩, rfl⟩
    ·right; rw [e]; exact ⟨n1, n2, e1, rfl⟩
 have hsT : s.kind = 2 ∧ s.origin = s.origin ∧ s.id ≤ s.id := ⟨hsk, rfl, Int.le_refl _⟩
 have rT : ∀ d ∈ l, (d.kind = 2 ∧ d.origin = s.origin ∧ d.id ≤ s.id) → r o.id < r d.id := fun d hd e => hr d hd o ho (by rw [e.2.1, hso])
 let R : Dset → Nat := fun d => if d = c then r o.id else if (d.kind = 2 ∧ d.origin = s.origin ∧ d.id ≤ s.id) then r o.id + 1 else if d = o then r o.id + 2 else if r o.id < r d.id then r d.id + 4 else r d.id
 have hR : ∀ d ∈ l, ((getA l d.id).map R).getD 0 = R d := fun d hd => by
  rw [h.find hd]; rfl
 have hco : c ≠ o := fun e => by rw [e] at r2; omega
 have hcT : ¬ (c.kind = 2 ∧ c.origin = s.origin ∧ c.id ≤ s.id) := fun e => by omega
 have hoT : ¬ (o.kind = 2 ∧ o.origin = s.origin ∧ o.id ≤ s.id) := fun e => by omega
 refine h.map _ (fun d hd => (hF d hd).1) (fun d hd => (hF d hd).2.1) (fun d hd => (hF d hd).2.2.1) (fun d hd => by rw [(hF d hd).2.2.2]; exact (h.each d hd).files) (fun d hd e => ?_) (fun d hd e => ?_) (fun i => ((getA l i).map R).getD 0) (fun d hd p hp e => ?_)
 ·rcases hO d hd with ⟨rfl, _⟩ | ⟨rfl, _, _⟩ | ⟨_, _, _, e2⟩ | ⟨_, _, _, e2⟩
  ·omega
  ·omega
  ·exact ⟨c, hc, e2.symm, hck⟩
  ·rw [e2]; exact ((h.each d hd).snap e).2
 ·rcases hO d hd with ⟨rfl, e2⟩ | ⟨rfl, _, e2⟩ | ⟨_, _, e3, _⟩ | ⟨_, _, _, e2⟩
  ·rw [e2]; exact (h.each o ho).live hok
  ·rw [e2]; exact .inr ⟨s, hs, rfl, hsk⟩
  ·omega
  ·rw [e2]; exact (h.each d hd).live e
 ·rw [hR d hd, hR p hp]
  have Rc : R c = r o.id := if_pos rfl
  have Ro : R o = r o.id + 2 := by show (if o = c then _ else _) = _; rw [if_neg hco.symm, if_neg hoT, if_pos rfl]
  have RT : ∀ d, d ≠ c → (d.kind = 2 ∧ d.origin = s.origin ∧ d.id ≤ s.id) → R d = r o.id + 1 := fun d h1 h2 => by show (if d = c then _ else _) = _; rw [if_neg h1, if_pos h2]
  have RE : ∀ d, d ≠ c → ¬ (d.kind = 2 ∧ d.origin = s.origin ∧ d.id ≤ s.id) → d ≠ o → R d = if r o.id < r d.id then r d.id + 4 else r d.id := fun d h1 h2 h3 => by show (if d = c then _ else _) = _; rw [if_neg h1, if_neg h2, if_neg h3]
  have hsc : s ≠ c := fun e => by rw [e] at hsk; omega
  rcases hO d hd with ⟨rfl, e2⟩ | ⟨rfl, _, e2⟩ | ⟨n1, _, e3, e2⟩ | ⟨n1, n2, n3, e2⟩
  ·have hpo : p.id = o.origin := e.trans e2
   have r3 := hr o ho p hp hpo
   have hpc : p ≠ d := fun e => by rw [e] at r3; omega
   have hpo : p ≠ o := fun e => by rw [e] at r3; omega
   have hpT : ¬ (p.kind = 2 ∧ p.origin = s.origin ∧ p.id ≤ s.id) := fun e => by have := rT p hp e; omega
   rw [Rc, RE p hpc hpT hpo, if_neg (by omega)]
   exact r3
  ·have hps : p = s := h.inj' hp hs (e.trans e2)
   rw [hps, Ro, RT s hsc hsT]; omega
  ·have hpc : p = c := h.inj' hp hc (e.trans e2)
   rw [hpc, Rc, RT d n1 e3]; omega
  ·have r3 := hr d hd p hp (e.trans e2)
   rw [RE d n1 n3 n2]
   by_cases p1 : p = c
   ·rw [p1] at r3
    rw [p1, Rc, if_pos (by omega)]; omega
   ·by_cases p2 : p.kind = 2 ∧ p.origin = s.origin ∧ p.id ≤ s.id
    ·have := rT p hp p2
     rw [RT p p1 p2, if_pos (by omega)]; omega
    ·by_cases p3 : p = o
     ·rw [p3] at r3
      rw [p3, Ro, if_pos r3]; omega
     ·rw [RE p p1 p2 p3]
      by_cases p4 : r o.id < r p.id
      ·rw [if_pos p4, if_pos (by omega)]; omega
      ·rw [if_neg p4]; split <;> omega
theorem promoteA_may {l : List Dset} (h : MayL l) (i : Int) : MayL (promoteA l i).1 := by
 unfold promoteA
 split
 ·exact h
 ·rename_i h1
  rcases find_of (l := l) (i := i) with ⟨e, _⟩ | ⟨k, e, hk, hid, _⟩
  ·omega
  rw [e, Int.toNat_natCast]
  simp only
  split
  ·exact h
  ·rename_i h2
   split
   ·exact h
   ·rename_i h3
    have hk1 : (l.getD k default).kind = 1 := Classical.byContradiction fun hh => h2 (.inl hh)
    rcases find_of (l := l) (i := (l.getD k default).origin) with ⟨e', _⟩ | ⟨m, e', hm, hid', _⟩
    ·exact absurd (.inl (by omega)) h3
    rw [e', Int.toNat_natCast] at h3 ⊢
    have h4 : isA l (l.getD m default).origin 1 = true := by
     cases hh : isA l (l.getD m default).origin 1
     ·exact absurd (.inr hh) h3
     ·rfl
    obtain ⟨o, e2, ho, hoi, hok⟩ := isA_true h4
    rw [e2, Int.toNat_natCast]
    have hms : (l.getD m default).kind = 2 := by
     rcases (h.each _ (dgetD_mem hk)).live hk1 with h5 | ⟨x, hx, hxi, hxk⟩
     ·exact absurd (.inr h5) h2
     ·have : x = l.getD m default := h.inj' hx (dgetD_mem hm) (by omega)
      rw [← this]; exact hxk
    have hne : k ≠ o := by
     intro hko
     obtain ⟨r, hr⟩ := h.tree
     have r1 := hr _ (dgetD_mem hm) _ (dgetD_mem ho) hoi
     have r2 := hr _ (dgetD_mem hk) _ (dgetD_mem hm) hid'
     rw [← hko] at r1
     omega
    show MayL (promoted l i k m o)
    rw [← hid, promoted_map h hk ho hne hk1 hok]
    exact proF_may h (dgetD_mem hk) (dgetD_mem ho) (dgetD_mem hm) hk1 hok hms hid'.symm hoi.symm
end Go.Proofs.YtemjlopoffjmpaaGreat.Abs
