/-
  The abstract layer, part 10: the operations of part 5 do what is told (5): struct literals, structs compared, bytes to strings.
-/
import Derived.Test.YtemjlopoffjmpaaGreatSOAbs9
set_option linter.unusedSimpArgs false
set_option linter.unusedVariables false
namespace Go.Proofs.YtemjlopoffjmpaaGreat.Abs
open Go
theorem elems_rep {E : Env} {w : World} {H : AH} (hs : Sim E w H) {x : AV} {v : Value} (hx : Rep E x v) {els : List (List AV)} (he : elemsOf H x = some els) :
 ∃ a cap, v = .slice a els.length cap ∧ els.length ≤ cap ∧ (els ≠ [] → ∃ b off sz cells t q, a = some ⟨b, off, none⟩ ∧ w.heap[b]? = some (.cells cells t q) ∧
   (∀ e ∈ els, e.length = sz) ∧ off + els.length * sz ≤ cells.size ∧ (∀ (i : Nat) v, i < els.length * sz → cells[off + i]? = some v → v.oneCell' = true) ∧ ∀ (i : Nat) e (k : Nat) c u, els[i]? = some e → e[k]? = some c → cells[off + (i * sz + k)]? = some u → Rep E c u) := by
 unfold elemsOf at he
 split at he
 ·cases he
  obtain ⟨a, rfl⟩ := rep_emp hx
  exact ⟨a, 0, rfl, Nat.le_refl _, fun h => absurd rfl h⟩
 ·rename_i es
  cases he
  obtain ⟨a, cap, hv, hcap, hne⟩ := rep_fz_inv hx
  refine ⟨a, cap, by simpa using hv, by simpa using hcap, fun h => ?_⟩
  obtain ⟨b, off, sz, cells, t, q, ha, hF, hsz, hin, hc⟩ := hne (by rintro rfl; exact h rfl)
  refine ⟨b, off, sz, cells, t, q, ha, hs.frz _ _ (.inl hF), ?_, by simpa using hin, ?_, ?_⟩
  ·intro e hm
   obtain ⟨e', hm', rfl⟩ := List.mem_map.1 hm
   simpa using hsz e' hm'
  ·intro m v hm hmv
   rw [List.length_map] at hm
   have hpos : 0 < sz := by
    rcases Nat.eq_zero_or_pos sz with h0 | h0
    ·subst h0; omega
    ·exact h0
   have hdm := Nat.div_add_mod m sz
   have hml := Nat.mod_lt m hpos
   have hil : m / sz < es.length := (Nat.div_lt_iff_lt_mul hpos).2 hm
   have he := List.getElem?_eq_getElem hil
   have hlen := hsz _ (List.mem_of_getElem? he)
   have hk := List.getElem?_eq_getElem (l := es[m / sz]) (i := m % sz) (by omega)
   exact (hc _ _ _ _ v he hk (by rw [← hmv, Nat.mul_comm (m / sz) sz, hdm])).one
  ·intro i e k c u hi hk hu
   rw [List.getElem?_map] at hi
   cases hi' : es[i]? with
   | none => rw [hi'] at hi; cases hi
   | some e' =>
     rw [hi'] at hi; cases hi
     rw [List.getElem?_map] at hk
     cases hk' : e'[k]? with
     | none => rw [hk'] at hk; cases hk
     | some c' => rw [hk'] at hk; cases hk; exact .pure (hc i e' k c' u hi' hk' hu)
 ·rename_i r sz0 off len tot
  split at he
  ·rename_i o hl
   split at he
   ·rename_i hle
    cases he
    obtain ⟨hat, hlen, htt⟩ := live_of hs hl
    have hlen2 : ((o.drop off).take len).length = len := by simp; omega
    rcases rep_own hx htt with ⟨a, rfl, rfl, rfl, rfl⟩ | ⟨x', cap, hx', _, g1, g2, g3, g4, rfl⟩
    ·exact ⟨a, 0, by simp, by simp, fun h => by simp at h⟩
    ·refine ⟨_, cap, by rw [hlen2], by rw [hlen2]; exact g2, fun _ => ?_⟩
     have hlies := lies_of hs hat hx'
     obtain ⟨cells, t, q, hb, hn, hq, h1, hc⟩ := hlies.blk
     refine ⟨_, _, x'.sz, cells, t, q, rfl, hb, ?_, ?_, fun m v _ hmv => h1 _ v hmv, ?_⟩
     ·intro e hm
      exact hlies.sz e (List.mem_of_mem_drop (List.mem_of_mem_take hm))
     ·rw [hlen2, ← Nat.add_mul]
      have h1 := hlies.fits
      have h2 : (off + len) * x'.sz ≤ o.length * x'.sz := Nat.mul_le_mul_right _ (by omega)
      omega
     ·intro i e k c u hi hk hu
      have hil : i < len := by
       rcases Nat.lt_or_ge i len with h | h
       ·exact h
       ·rw [List.getElem?_eq_none (by simp; omega)] at hi; cases hi
      rw [List.getElem?_take_of_lt hil, List.getElem?_drop] at hi
      refine hc (off + i) e k c u hi hk ?_
      rw [← hu, Nat.add_mul]; congr 1; omega
   ·cases he
  ·cases he
 ·cases he
theorem bytesOf_cells : ∀ {els : List (List AV)} {l : List UInt8}, bytesOf els = some l → ∃ ns : List Int, els = ns.map (fun n => [AV.int .u8 n]) ∧ l = ns.map fun n => UInt8.ofNat n.toNat
 | [], l, h => by simp only [bytesOf, Option.some.injEq] at h; subst h; exact ⟨[], rfl, rfl⟩
 | e :: r, l, h => by
   unfold bytesOf at h
   split at h
   ·rename_i he; cases he
   ·rename_i n r' he
    cases he
    cases hr : bytesOf r with
    | none => rw [hr] at h; cases h
    | some l' =>
      rw [hr] at h; cases h
      obtain ⟨ns, rfl, rfl⟩ := bytesOf_cells hr
      exact ⟨n :: ns, rfl, rfl⟩
   ·cases h
theorem push_bytes : ∀ (ns : List Int) (s : ByteArray), (ns.foldl (fun r n => r.push (UInt8.ofNat n.toNat)) s) = ⟨(s.data.toList ++ ns.map fun n => UInt8.ofNat n.toNat).toArray⟩
 | [], s => by simp
 | n :: ns, s => by
   rw [List.foldl_cons, push_bytes ns]
   congr 1
   simp [ByteArray.push]
theorem ok_convbs {P : Program} {x : Opd} {o : Op} (hf : fit0 P (.convbs x) o = true) : Sound0 P o (.convbs x) := by
 intro E w H fr a v oper ho hs hr hv
 cases o <;> simp only [fit0, Bool.and_eq_true, Bool.false_eq_true] at hf
 rename_i s t y
 obtain ⟨⟨h1, h2⟩, h3⟩ := hf
 have hx := fitO_ok hr h3
 have hd : P.underlying t = some .string := by
  split at h2 <;> first | assumption | cases h2
 obtain ⟨et, hu, he⟩ : ∃ e, P.underlying s = some (.slice e) ∧ P.underlying e = some (.int .u8) := by
  split at h1
  ·split at h1
   ·exact ⟨_, by assumption, by assumption⟩
   ·cases h1
  ·cases h1
 simp only [aop0] at hv
 cases hel : elemsOf H (evalA fr x) with
 | none => rw [hel] at hv; cases hv
 | some els =>
   rw [hel] at hv
   cases hby : bytesOf els with
   | none => simp only [Option.bind_some, hby, Option.map_none] at hv; cases hv
   | some l =>
     simp only [Option.bind_some, hby, Option.map_some, Option.some.injEq] at hv; subst hv
     obtain ⟨ns, rfl, rfl⟩ := bytesOf_cells hby
     obtain ⟨ad, cap, hval, hcap, hne⟩ := elems_rep hs hx hel
     have fin : ∀ u, (Conv.bytesToString (a.eval y)).run P w = .ok u w → (execOp a.eval oper).run P w = .ok (.value u) w := by
      intro u hu'
      simp only [execOp, ho]
      apply run_v
      rw [hval] at hu' ⊢
      rw [run_convert_bytes_string w s t et ad _ _ hu he hd]
      exact hu'
     cases ns with
     | nil =>
       refine ⟨.string ⟨#[]⟩, fin _ ?_, .pure (x := .str []) (.str [])⟩
       rw [hval]
       cases ad with
       | none => rfl
       | some b =>
         have := run_bytesToString (P := P) w b 0 cap [] rfl
         exact this
     | cons n0 nr =>
       obtain ⟨b, off, sz, cells, te, q, rfl, hb, hsz, hin, _, hc⟩ := hne (by simp)
       have hsz1 : sz = 1 := by rw [← hsz [AV.int .u8 n0] (by simp)]; rfl
       subst hsz1
       rw [List.length_map] at hin
       have hload : (loadCells ⟨b, off, none⟩ (n0 :: nr).length).run P w = .ok ((n0 :: nr).map (Value.int .u8)).toArray w := by
        rw [run_load_row P hb off _ (by omega)]
        congr 1
        apply Array.ext_getElem?
        intro i
        rw [Array.getElem?_extract]
        by_cases hi : i < (n0 :: nr).length
        ·have hcl : off + i < cells.size := by omega
         rw [if_pos (by omega), Array.getElem?_eq_getElem hcl]
         have := hc i [AV.int .u8 (n0 :: nr)[i]] 0 (AV.int .u8 (n0 :: nr)[i]) cells[off + i] (by rw [List.getElem?_map, List.getElem?_eq_getElem hi]; rfl) rfl
          (by rw [show off + (i * 1 + 0) = off + i from by omega]; exact Array.getElem?_eq_getElem hcl)
         rw [rep_int this]
         rw [List.getElem?_toArray, List.getElem?_map, List.getElem?_eq_getElem hi]; rfl
        ·rw [if_neg (by omega), List.getElem?_toArray, List.getElem?_eq_none (by simpa using hi)]
       refine ⟨.string ((n0 :: nr).foldl (fun r n => r.push (UInt8.ofNat n.toNat)) ByteArray.empty), fin _ ?_, ?_⟩
       ·rw [hval, List.length_map]
        exact run_bytesToString (P := P) w ⟨b, off, none⟩ _ cap (n0 :: nr) hload
       ·rw [push_bytes]
        exact .pure (x := .str _) (.str _)
def asVal (P : Program) (t : TypeId) (cs : Array Value) : Value :=
 match P.underlying t with
 | some (.struct _) => .agg cs
 | _ => (cs[0]?).getD undef
theorem run_part {P : Program} {t : TypeId} {n : Nat} (ht : tiB P t (match P.underlying t with | some (.struct _) => true | _ => false) n = true) (h1 : (∃ fs, P.underlying t = some (.struct fs)) ∨ n = 1)
 (w : World) (cs : Array Value) (off : Nat) (hin : off + n ≤ cs.size) : (part t cs off).run P w = .ok (asVal P t (cs.extract off (off + n))) w := by
 have ti := tiB_ok ht
 obtain ⟨i, hi, hn⟩ := ti.info
 unfold part asVal
 simp only [Sem.run_bind, run_isAgg ti, Result.andThen]
 split
 ·simp only [if_true, Sem.run_bind, run_sizeOf' hi, hn, Result.andThen, Sem.run_pure]
 ·rename_i hns
  have : n = 1 := by
   rcases h1 with ⟨fs, h⟩ | h
   ·exact absurd h (hns fs)
   ·exact h
  subst this
  have h0 : cs[off]? = some (cs[off]'(by omega)) := Array.getElem?_eq_getElem _
  simp only [Bool.false_eq_true, if_false, h0, Sem.run_pure]
  rw [Array.getElem?_extract, if_pos (by omega), Nat.add_zero, h0]
  rfl
theorem eqCells_length : ∀ {ks : List EK} {xs ys : List AV} {r : Bool}, eqCells ks xs ys = some r → xs.length = ks.length ∧ ys.length = ks.length
 | ks, xs, ys, r, h => by
   unfold eqCells at h
   split at h
   ·exact ⟨rfl, rfl⟩
   ·split at h
    ·rename_i ks' _ _ xs' _ _ ys' _
     cases hr : eqCells ks' xs' ys' with
     | none => rw [hr] at h; cases h
     | some r0 => have := eqCells_length hr; simp [this.1, this.2]
    ·cases h
   ·rename_i ks' _ xs' _ ys'
    cases hr : eqCells ks' xs' ys' with
    | none => rw [hr] at h; cases h
    | some r0 => have := eqCells_length hr; simp [this.1, this.2]
   ·rename_i ks' _ xs' _ ys'
    cases hr : eqCells ks' xs' ys' with
    | none => rw [hr] at h; cases h
    | some r0 => have := eqCells_length hr; simp [this.1, this.2]
   ·cases h
theorem eqCells_take : ∀ (m : Nat) {ks : List EK} {xs ys : List AV} {r : Bool}, m ≤ ks.length → eqCells ks xs ys = some r →
 ∃ r1 r2, eqCells (ks.take m) (xs.take m) (ys.take m) = some r1 ∧ eqCells (ks.drop m) (xs.drop m) (ys.drop m) = some r2 ∧ r = (r1 && r2)
 | 0, ks, xs, ys, r, _, h => ⟨true, r, rfl, h, by simp⟩
 | m + 1, ks, xs, ys, r, hm, h => by
   unfold eqCells at h
   split at h
   ·simp at hm
   ·split at h
    ·rename_i ks' k a xs' k' b ys' hk
     cases hr : eqCells ks' xs' ys' with
     | none => rw [hr] at h; cases h
     | some r0 =>
       rw [hr] at h; cases h
       obtain ⟨r1, r2, h1, h2, rfl⟩ := eqCells_take m (by simpa using hm) hr
       refine ⟨(a == b) && r1, r2, ?_, h2, by simp [Bool.and_assoc]⟩
       simp only [List.take_succ_cons]
       unfold eqCells
       rw [if_pos hk, h1]; rfl
    ·cases h
   ·rename_i ks' a xs' b ys'
    cases hr : eqCells ks' xs' ys' with
    | none => rw [hr] at h; cases h
    | some r0 =>
      rw [hr] at h; cases h
      obtain ⟨r1, r2, h1, h2, rfl⟩ := eqCells_take m (by simpa using hm) hr
      refine ⟨(a == b) && r1, r2, ?_, h2, by simp [Bool.and_assoc]⟩
      simp only [List.take_succ_cons]
      unfold eqCells
      rw [h1]; rfl
   ·rename_i ks' a xs' b ys'
    cases hr : eqCells ks' xs' ys' with
    | none => rw [hr] at h; cases h
    | some r0 =>
      rw [hr] at h; cases h
      obtain ⟨r1, r2, h1, h2, rfl⟩ := eqCells_take m (by simpa using hm) hr
      refine ⟨(a == b) && r1, r2, ?_, h2, by simp [Bool.and_assoc]⟩
      simp only [List.take_succ_cons]
      unfold eqCells
      rw [h1]; rfl
   ·cases h
theorem RepL.extract {E : Env} {xs : List AV} {vs : Array Value} (h : RepL E xs vs) (off n : Nat) : RepL E ((xs.drop off).take n) (vs.extract off (off + n)) := by
 refine ⟨by have := h.1; simp; omega, fun i c u hc hu => ?_⟩
 have hi : i < n := by
  rcases Nat.lt_or_ge i n with h' | h'
  ·exact h'
  ·rw [List.getElem?_eq_none (by simp; omega)] at hc; cases hc
 rw [List.getElem?_take_of_lt hi, List.getElem?_drop] at hc
 rw [Array.getElem?_extract] at hu
 split at hu
 ·exact h.2 _ c u hc hu
 ·cases hu
theorem eqFields_ok {P : Program} {E : Env} (w : World) (D : Nat) (ok : TypeId → List EK → Bool)
 (hok : ∀ (t : TypeId) (ks : List EK), ok t ks = true → tiB P t (match P.underlying t with | some (.struct _) => true | _ => false) ks.length = true ∧ ((∃ fs, P.underlying t = some (.struct fs)) ∨ ks.length = 1) ∧
  ∀ (xs ys : List AV) (vs ws : Array Value) (r : Bool), RepL E xs vs → RepL E ys ws → eqCells ks xs ys = some r → (Op.equalIn D t (asVal P t vs) (asVal P t ws)).run P w = .ok r w)
 (xs ys : List AV) (vs ws : Array Value) (hx : RepL E xs vs) (hy : RepL E ys ws) :
 ∀ (fs : List Field) (off : Nat) (ks : List EK) (r : Bool), off ≤ xs.length → off ≤ ys.length → eqTy.fields ok (fun t => (P.info? t).map (·.size)) fs off ks = true → eqCells ks (xs.drop off) (ys.drop off) = some r →
   (Op.eqFields D vs ws fs).run P w = .ok r w
 | [], off, ks, r, _, _, h, he => by
   simp only [eqTy.fields, decide_eq_true_eq] at h; subst h
   unfold eqCells at he
   split at he
   ·cases he; rfl
   all_goals first | (rename_i e _ _; cases e; done) | cases he
 | f :: fs, off, ks, r, hox, hoy, h, he => by
   simp only [eqTy.fields, Bool.and_eq_true, decide_eq_true_eq] at h
   obtain ⟨⟨hname, hoff⟩, h⟩ := h
   split at h
   ·rename_i m hm
    simp only [Bool.and_eq_true, decide_eq_true_eq] at h
    obtain ⟨⟨hle, hokf⟩, hrest⟩ := h
    obtain ⟨r1, r2, h1, h2, rfl⟩ := eqCells_take m hle he
    have hlen : (ks.take m).length = m := by simp; omega
    obtain ⟨hti, hone, heq⟩ := hok f.type _ hokf
    rw [hlen] at hti hone
    have hl1 := eqCells_length he
    have hxin : off + m ≤ vs.size := by have := hx.1; have := hl1.1; simp at this; omega
    have hyin : off + m ≤ ws.size := by have := hy.1; have := hl1.2; simp at this; omega
    have hp1 := run_part hti hone w vs off hxin
    have hp2 := run_part hti hone w ws off hyin
    have he1 := heq _ _ _ _ r1 (hx.extract off m) (hy.extract off m) h1
    unfold Op.eqFields
    rw [if_pos hname, hoff]
    simp only [Sem.run_bind, hp1, hp2, Result.andThen, he1]
    have ih := eqFields_ok w D ok hok xs ys vs ws hx hy fs (off + m) (ks.drop m) r2 (by have := hx.1; omega) (by have := hy.1; omega) hrest (by rw [List.drop_drop, List.drop_drop] at h2; exact h2)
    cases r1
    ·simp [Sem.run_pure]
    ·simp only [Bool.not_true, Bool.false_eq_true, if_false, Bool.true_and]; exact ih
   ·cases h
theorem eqTy_ok {P : Program} {E : Env} (w : World) : ∀ (d : Nat) (t : TypeId) (ks : List EK), eqTy P d t ks = true →
 tiB P t (match P.underlying t with | some (.struct _) => true | _ => false) ks.length = true ∧ ((∃ fs, P.underlying t = some (.struct fs)) ∨ ks.length = 1) ∧
 ∀ (D : Nat) (xs ys : List AV) (vs ws : Array Value) (r : Bool), d ≤ D → RepL E xs vs → RepL E ys ws → eqCells ks xs ys = some r → (Op.equalIn D t (asVal P t vs) (asVal P t ws)).run P w = .ok r w
 | 0, _, _, h => by simp [eqTy] at h
 | d + 1, t, ks, h => by
   unfold eqTy at h
   rw [Bool.and_eq_true] at h
   obtain ⟨hti, h⟩ := h
   refine ⟨hti, ?_, ?_⟩
   ·split at h
    ·simp only [decide_eq_true_eq] at h; subst h; exact .inr rfl
    ·simp only [decide_eq_true_eq] at h; subst h; exact .inr rfl
    ·simp only [decide_eq_true_eq] at h; subst h; exact .inr rfl
    ·exact .inl ⟨_, by assumption⟩
    ·cases h
   ·intro D xs ys vs ws r hD hx hy he
    obtain ⟨D, rfl⟩ : ∃ D', D = D' + 1 := ⟨D - 1, by omega⟩
    have one : ∀ {x y : AV}, xs = [x] → ys = [y] → ∃ u v, vs[0]? = some u ∧ ws[0]? = some v ∧ Rep E x u ∧ Rep E y v := by
     rintro x y rfl rfl
     have hv : vs[0]? = some (vs[0]'(by have := hx.1; simp at this; omega)) := Array.getElem?_eq_getElem _
     have hw : ws[0]? = some (ws[0]'(by have := hy.1; simp at this; omega)) := Array.getElem?_eq_getElem _
     exact ⟨_, _, hv, hw, hx.2 0 x _ rfl hv, hy.2 0 y _ rfl hw⟩
    split at h
    ·rename_i hu
     simp only [decide_eq_true_eq] at h; subst h
     obtain ⟨l1, l2⟩ := eqCells_length he
     obtain ⟨x, rfl⟩ := List.length_eq_one_iff.1 l1
     obtain ⟨y, rfl⟩ := List.length_eq_one_iff.1 l2
     cases x <;> (try (simp [eqCells] at he; done))
     cases y <;> (try (simp [eqCells] at he; done))
     obtain ⟨u, v, hv, hw, h1, h2⟩ := one rfl rfl
     simp only [eqCells, Option.map_some, Option.some.injEq, Bool.and_true] at he; subst he
     simp only [asVal, hu, hv, hw, Option.getD_some]
     rw [rep_bool h1, rep_bool h2]
     exact run_equalIn_bool' w D t _ _ hu
    ·rename_i k hu
     simp only [decide_eq_true_eq] at h; subst h
     obtain ⟨l1, l2⟩ := eqCells_length he
     obtain ⟨x, rfl⟩ := List.length_eq_one_iff.1 l1
     obtain ⟨y, rfl⟩ := List.length_eq_one_iff.1 l2
     cases x <;> (try (simp [eqCells] at he; done))
     cases y <;> (try (simp [eqCells] at he; done))
     obtain ⟨u, v, hv, hw, h1, h2⟩ := one rfl rfl
     simp only [eqCells] at he
     split at he
     ·rename_i hk; subst hk
      simp only [Option.map_some, Option.some.injEq, Bool.and_true] at he; subst he
      simp only [asVal, hu, hv, hw, Option.getD_some]
      rw [rep_int h1, rep_int h2]
      exact run_equalIn_int w D t _ _ _ _ hu
     ·cases he
    ·rename_i hu
     simp only [decide_eq_true_eq] at h; subst h
     obtain ⟨l1, l2⟩ := eqCells_length he
     obtain ⟨x, rfl⟩ := List.length_eq_one_iff.1 l1
     obtain ⟨y, rfl⟩ := List.length_eq_one_iff.1 l2
     cases x <;> (try (simp [eqCells] at he; done))
     cases y <;> (try (simp [eqCells] at he; done))
     obtain ⟨u, v, hv, hw, h1, h2⟩ := one rfl rfl
     simp only [eqCells, Option.map_some, Option.some.injEq, Bool.and_true] at he; subst he
     simp only [asVal, hu, hv, hw, Option.getD_some]
     rw [rep_str h1, rep_str h2, run_equalIn_string w D t _ _ hu, toList_mk, toList_mk]
    ·rename_i fs hu
     rw [Bool.and_eq_true] at h
     have hfo : P.underlying t = some (.struct (P.fieldsOf t)) := by unfold Program.fieldsOf; rw [hu]
     have hfs : P.fieldsOf t = fs := by rw [hu] at hfo; cases hfo; rfl
     simp only [asVal, hu]
     rw [run_equalIn_struct w D t vs ws hfo (by simpa using h.1), hfs]
     refine eqFields_ok w D (eqTy P d) (fun t' ks' h' => ?_) xs ys vs ws hx hy fs.toList 0 ks r (Nat.zero_le _) (Nat.zero_le _) h.2 (by simpa using he)
     obtain ⟨h1, h2, h3⟩ := eqTy_ok w d t' ks' h'
     exact ⟨h1, h2, fun xs ys vs ws r => h3 D xs ys vs ws r (by omega)⟩
    ·cases h
theorem ok_eqs {P : Program} {neg : Bool} {ks : List EK} {x y : Opd} {o : Op} (hf : fit0 P (.eqs neg ks x y) o = true) : Sound0 P o (.eqs neg ks x y) := by
 intro E w H fr a v oper ho hs hr hv
 cases o <;> simp only [fit0, Bool.and_eq_true, Bool.false_eq_true, decide_eq_true_eq] at hf
 rename_i op' t x' y' t'
 obtain ⟨⟨⟨⟨⟨rfl, ht⟩, hty⟩, hg⟩, h1⟩, h2⟩ := hf
 have hx := fitO_ok hr h1
 have hy := fitO_ok hr h2
 obtain ⟨fs, hu⟩ : ∃ fs, P.underlying t = some (.struct fs) := by
  split at ht
  ·exact ⟨_, by assumption⟩
  ·cases ht
 simp only [aop0] at hv
 split at hv
 ·rename_i xs ys e1 e2
  rw [e1] at hx; rw [e2] at hy
  cases he : eqCells ks xs ys with
  | none => rw [he] at hv; cases hv
  | some r =>
    rw [he] at hv; cases hv
    obtain ⟨vs, hvx, lx, ix⟩ := rep_agg hx
    obtain ⟨ws, hvy, ly, iy⟩ := rep_agg hy
    have heq := (eqTy_ok (E := E) w 20 t ks hty).2.2 10000 xs ys vs ws r (by omega) ⟨lx, ix⟩ ⟨ly, iy⟩ he
    simp only [asVal, hu] at heq
    refine ⟨.bool (r != neg), ?_, .pure (x := .bool _) (.bool _)⟩
    simp only [execOp, ho, hvx, hvy]
    apply run_v
    simp only [Sem.run_bind, run_eqGuard_agg w _ t x' y' vs ws (by simpa using hg), Result.andThen]
    have heq' : (Op.equal t (.agg vs) (.agg ws)).run P w = .ok r w := heq
    cases neg <;> simp only [binOp, if_true, if_false, Bool.false_eq_true, Sem.run_bind, heq', Result.andThen] <;> cases r <;> rfl
 ·cases hv
end Go.Proofs.YtemjlopoffjmpaaGreat.Abs
