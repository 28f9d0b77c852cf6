/-
  The abstract layer, part 7: the operations of part 5 do what is told (2).
-/
import Derived.Test.YtemjlopoffjmpaaGreatSOAbs6
set_option linter.unusedSimpArgs false
set_option linter.unusedVariables false
namespace Go.Proofs.YtemjlopoffjmpaaGreat.Abs
open Go
theorem run_eqGuard_int {P : Program} {w : World} (op : BinOp) (t : TypeId) (x y : Operand) (k k' : IntKind) (a b : Int) : (eqGuard op t x y (.int k a) (.int k' b)).run P w = .ok () w := by
 cases op <;> rfl
theorem run_eqGuard_str {P : Program} {w : World} (op : BinOp) (t : TypeId) (x y : Operand) (a b : ByteArray) : (eqGuard op t x y (.string a) (.string b)).run P w = .ok () w := by
 cases op <;> rfl
theorem run_eqGuard_bool {P : Program} {w : World} (op : BinOp) (t : TypeId) (x y : Operand) (a b : Bool) : (eqGuard op t x y (.bool a) (.bool b)).run P w = .ok () w := by
 cases op <;> rfl
theorem ok_bini {P : Program} {op : BinOp} {x y : Opd} {o : Op} (hf : fit0 P (.bini op x y) o = true) : Sound0 P o (.bini op x y) := by
 intro E w H fr a v oper ho hs hr hv
 cases o <;> simp only [fit0, Bool.and_eq_true, Bool.false_eq_true, decide_eq_true_eq] at hf
 rename_i op' t x' y' t'
 obtain ⟨⟨rfl, h1⟩, h2⟩ := hf
 have hx := fitO_ok hr h1
 have hy := fitO_ok hr h2
 simp only [aop0] at hv
 split at hv
 ·rename_i k m k' n e1 e2
  rw [e1] at hx; rw [e2] at hy
  split at hv
  ·rename_i hk
   have key : ∃ u, (binOp op t (.int k m) (.int k' n)).run P w = .ok u w ∧ Rep E v u := by
    cases op <;> simp only [binI] at hv <;> simp only [binOp]
    case shl =>
     split at hv
     ·cases hv
     ·rename_i hb; cases hv
      refine ⟨_, ?_, .pure (x := .int _ _) (.int _ _)⟩
      simp only [Op.shift, if_neg hb]; rfl
    case shr =>
     split at hv
     ·cases hv
     ·rename_i hb; cases hv
      refine ⟨_, ?_, .pure (x := .int _ _) (.int _ _)⟩
      simp only [Op.shift, if_neg hb]; rfl
    all_goals
     have hkk : k = k' := by simpa using hk
     subst hkk
     simp only [ne_eq, not_true_eq_false, if_false]
    case quo =>
     split at hv
     ·cases hv
     ·rename_i hb; cases hv
      refine ⟨_, ?_, .pure (x := .int _ _) (.int _ _)⟩
      simp only [Op.intDiv, if_neg hb]; rfl
    case rem =>
     split at hv
     ·cases hv
     ·rename_i hb; cases hv
      refine ⟨_, ?_, .pure (x := .int _ _) (.int _ _)⟩
      simp only [Op.intDiv, if_neg hb]; rfl
    case eql => cases hv; exact ⟨_, rfl, .pure (x := .bool _) (.bool _)⟩
    case neq => cases hv; exact ⟨_, rfl, .pure (x := .bool _) (.bool _)⟩
    case lss => cases hv; exact ⟨_, rfl, .pure (x := .bool _) (.bool _)⟩
    case leq => cases hv; exact ⟨_, rfl, .pure (x := .bool _) (.bool _)⟩
    case gtr => cases hv; exact ⟨_, rfl, .pure (x := .bool _) (.bool _)⟩
    case geq => cases hv; exact ⟨_, rfl, .pure (x := .bool _) (.bool _)⟩
    all_goals (cases hv; exact ⟨_, rfl, .pure (x := .int _ _) (.int _ _)⟩)
   obtain ⟨u, hu, hru⟩ := key
   refine ⟨u, ?_, hru⟩
   simp only [execOp, ho, rep_int hx, rep_int hy]
   apply run_v
   simp only [Sem.run_bind, run_eqGuard_int, Result.andThen, hu]
  ·cases hv
 ·cases hv
theorem toList_mk (l : List UInt8) : (⟨l.toArray⟩ : ByteArray).toList = l := by simp
theorem ok_bins {P : Program} {op : BinOp} {x y : Opd} {o : Op} (hf : fit0 P (.bins op x y) o = true) : Sound0 P o (.bins op x y) := by
 intro E w H fr a v oper ho hs hr hv
 cases o <;> simp only [fit0, Bool.and_eq_true, Bool.false_eq_true, decide_eq_true_eq] at hf
 rename_i op' t x' y' t'
 obtain ⟨⟨rfl, h1⟩, h2⟩ := hf
 have hx := fitO_ok hr h1
 have hy := fitO_ok hr h2
 simp only [aop0] at hv
 split at hv
 ·rename_i s s' e1 e2
  rw [e1] at hx; rw [e2] at hy
  have key : ∃ u, (binOp op t (.string ⟨s.toArray⟩) (.string ⟨s'.toArray⟩)).run P w = .ok u w ∧ Rep E v u := by
   cases op <;> simp only [binS] at hv <;> simp only [binOp, Op.stringOp, toList_mk]
   case add =>
    split at hv
    ·rename_i hl; cases hv
     have hz : ∀ l : List UInt8, (⟨l.toArray⟩ : ByteArray).size = l.length := by intro l; simp [ByteArray.size]
     rw [if_neg (by rw [hz, hz]; simp [IntKind.max, IntKind.bits, IntKind.signed]; omega)]
     have : (⟨s.toArray⟩ : ByteArray) ++ ⟨s'.toArray⟩ = ⟨(s ++ s').toArray⟩ := by
      apply ByteArray.ext; simp
     rw [this]
     exact ⟨_, rfl, .pure (x := .str _) (.str _)⟩
    ·cases hv
   all_goals first | (cases hv; exact ⟨_, rfl, .pure (x := .bool _) (.bool _)⟩) | cases hv
  obtain ⟨u, hu, hru⟩ := key
  refine ⟨u, ?_, hru⟩
  simp only [execOp, ho, rep_str hx, rep_str hy]
  apply run_v
  simp only [Sem.run_bind, run_eqGuard_str, Result.andThen, hu]
 ·cases hv
theorem ok_eqb {P : Program} {neg : Bool} {x y : Opd} {o : Op} (hf : fit0 P (.eqb neg x y) o = true) : Sound0 P o (.eqb neg x y) := by
 intro E w H fr a v oper ho hs hr hv
 cases o <;> simp only [fit0, Bool.and_eq_true, Bool.false_eq_true, decide_eq_true_eq] at hf
 rename_i op' t x' y' t'
 obtain ⟨⟨⟨rfl, ht⟩, h1⟩, h2⟩ := hf
 have hx := fitO_ok hr h1
 have hy := fitO_ok hr h2
 have ht : P.underlying t = some .bool := by
  split at ht <;> first | assumption | cases ht
 simp only [aop0] at hv
 split at hv
 ·rename_i b c e1 e2
  rw [e1] at hx; rw [e2] at hy
  cases hv
  have heq : (Op.equal t (.bool b) (.bool c)).run P w = .ok (b == c) w := by
   have : Op.equal t (.bool b) (.bool c) = Op.equalIn (9999 + 1) t (.bool b) (.bool c) := rfl
   rw [this]
   unfold Op.equalIn
   simp only [Sem.run_bind, run_underlying ht, Result.andThen]
   rfl
  refine ⟨.bool ((b == c) != neg), ?_, .pure (x := .bool _) (.bool _)⟩
  simp only [execOp, ho, rep_bool hx, rep_bool hy]
  apply run_v
  simp only [Sem.run_bind, run_eqGuard_bool, Result.andThen]
  cases neg <;> simp only [binOp, if_true, if_false, Bool.false_eq_true, Sem.run_bind, heq, Result.andThen] <;> cases b <;> cases c <;> rfl
 ·cases hv
theorem ok_un {P : Program} {op : UnOp} {x : Opd} {o : Op} (hf : fit0 P (.un op x) o = true) : Sound0 P o (.un op x) := by
 intro E w H fr a v oper ho hs hr hv
 cases o <;> simp only [fit0, Bool.and_eq_true, Bool.false_eq_true, decide_eq_true_eq] at hf
 rename_i op' t x'
 obtain ⟨rfl, h1⟩ := hf
 have hx := fitO_ok hr h1
 simp only [aop0] at hv
 split at hv
 ·rename_i b e
  rw [e] at hx
  split at hv
  ·rename_i ho'; subst ho'; cases hv
   refine ⟨_, ?_, .pure (x := .bool _) (.bool _)⟩
   simp only [execOp, ho, rep_bool hx]; rfl
  ·cases hv
 ·rename_i k n e
  rw [e] at hx
  cases op <;> simp only [unI] at hv <;> cases hv
  all_goals
   refine ⟨_, ?_, .pure (x := .int _ _) (.int _ _)⟩
   simp only [execOp, ho, rep_int hx]; rfl
 ·cases hv
theorem ok_convi {P : Program} {k : IntKind} {x : Opd} {o : Op} (hf : fit0 P (.convi k x) o = true) : Sound0 P o (.convi k x) := by
 intro E w H fr a v oper ho hs hr hv
 cases o <;> simp only [fit0, Bool.and_eq_true, Bool.false_eq_true, decide_eq_true_eq] at hf
 rename_i s t y
 obtain ⟨⟨hsrc, hdst⟩, h1⟩ := hf
 have hx := fitO_ok hr h1
 obtain ⟨ds, hds⟩ := Option.isSome_iff_exists.1 hsrc
 have hdst : P.underlying t = some (.int k) := by
  split at hdst
  ·rename_i k' hk'; simp only [decide_eq_true_eq] at hdst; subst hdst; exact hk'
  ·cases hdst
 simp only [aop0] at hv
 split at hv
 ·rename_i k0 n e
  rw [e] at hx
  cases hv
  refine ⟨_, ?_, .pure (x := .int _ _) (.int _ _)⟩
  simp only [execOp, ho, rep_int hx]
  apply run_v
  simp only [convert, Sem.run_bind, run_underlying hds, run_underlying hdst, Result.andThen]
  cases ds <;> rfl
 ·cases hv
theorem ok_convss {P : Program} {x : Opd} {o : Op} (hf : fit0 P (.convss x) o = true) : Sound0 P o (.convss x) := by
 intro E w H fr a v oper ho hs hr hv
 cases o <;> simp only [fit0, Bool.and_eq_true, Bool.false_eq_true, decide_eq_true_eq] at hf
 rename_i s t y
 obtain ⟨⟨hsrc, hdst⟩, h1⟩ := hf
 have hx := fitO_ok hr h1
 obtain ⟨ds, hds⟩ := Option.isSome_iff_exists.1 hsrc
 have hdst : P.underlying t = some .string := by
  split at hdst <;> first | assumption | cases hdst
 simp only [aop0] at hv
 split at hv
 ·rename_i n e
  rw [e] at hx
  cases hv
  refine ⟨_, ?_, .pure (x := .str _) (.str _)⟩
  simp only [execOp, ho, rep_str hx]
  apply run_v
  simp only [convert, Sem.run_bind, run_underlying hds, run_underlying hdst, Result.andThen]
  cases ds <;> rfl
 ·cases hv
theorem ok_ext {P : Program} {x : Opd} {i : Nat} {o : Op} (hf : fit0 P (.ext x i) o = true) : Sound0 P o (.ext x i) := by
 intro E w H fr a v oper ho hs hr hv
 cases o <;> simp only [fit0, Bool.and_eq_true, Bool.false_eq_true, decide_eq_true_eq] at hf
 rename_i y j
 obtain ⟨rfl, h1⟩ := hf
 have hx := fitO_ok hr h1
 simp only [aop0] at hv
 split at hv
 ·rename_i vs e
  rw [e] at hx
  obtain ⟨us, hu, hl, hi⟩ := rep_tuple hx
  have hlt : i < us.size := by
   rcases Nat.lt_or_ge i vs.length with h | h
   ·omega
   ·rw [List.getElem?_eq_none h] at hv; cases hv
  have hg : us[i]? = some us[i] := Array.getElem?_eq_getElem hlt
  refine ⟨us[i], ?_, hi i v _ hv hg⟩
  simp only [execOp, ho, hu]
  apply run_v
  simp only [Instr.extract, hg]; rfl
 ·cases hv
theorem slice_form {E : Env} {w : World} {H : AH} (hs : Sim E w H) {r sz off len tot : Nat} {v : Value} (h : Rep E (.own r sz off len tot) v) {o : AObj} (ho : liveO H r tot = some o) :
 ∃ a cap, v = .slice a len cap := by
 rcases rep_own h (live_of hs ho).2.2 with ⟨a, h1, h2, h3, rfl⟩ | ⟨x, cap, _, _, _, _, _, _, rfl⟩
 ·subst h2; exact ⟨a, 0, rfl⟩
 ·exact ⟨_, cap, rfl⟩
theorem ok_len {P : Program} {str : Bool} {x : Opd} {o : Op} (hf : fit0 P (.len str x) o = true) : Sound0 P o (.len str x) := by
 intro E w H fr a v oper ho hs hr hv
 cases o <;> simp only [fit0, Bool.false_eq_true] at hf
 rename_i c
 obtain ⟨callee, args, ts⟩ := c
 cases callee <;> try (simp only [fit0, Bool.false_eq_true] at hf; done)
 rename_i b
 cases b <;> simp only [fit0, Bool.false_eq_true] at hf
 split at hf
 ·rename_i y t hargs hts
  rw [Bool.and_eq_true] at hf
  obtain ⟨ht, h1⟩ := hf
  have hx := fitO_ok hr h1
  have hargs : args = #[y] := by apply Array.ext'; simpa using hargs
  have hts : ts = #[t] := by apply Array.ext'; simpa using hts
  subst hargs; subst hts
  have fin : ∀ n : Nat, v = .int .i64 n → (Builtin.len_ #[t] oper.type #[a.eval y]).run P w = .ok (.int .i64 n) w →
   ∃ u, (execOp a.eval oper).run P w = .ok (.value u) w ∧ Rep E v u := by
   intro n hv hrun
   subst hv
   refine ⟨.int .i64 n, ?_, .pure (x := .int _ _) (.int _ _)⟩
   simp only [execOp, ho, resolve, Sem.run_bind, Sem.run_pure, Result.andThen, invoke, builtin, List.map_toArray, List.map_cons, List.map_nil, hrun]
  cases str with
  | true =>
    have hund : P.underlying t = some .string := by
     split at ht <;> first | assumption | cases ht
    simp only [aop0] at hv
    split at hv
    ·rename_i s e
     rw [e] at hx
     cases hv
     refine fin s.length rfl ?_
     rw [rep_str hx]
     unfold Builtin.len_
     simp only [List.getElem?_toArray, List.getElem?_cons_zero, Sem.run_bind, run_underlying hund, Result.andThen]
     simp [goInt, ByteArray.size]
    ·cases hv
  | false =>
    obtain ⟨et, hund⟩ : ∃ e, P.underlying t = some (.slice e) := by
     split at ht
     ·cases ht
     ·exact ⟨_, by assumption⟩
     ·cases ht
    have key : ∀ (n cap : Nat) (ad : Option Addr), a.eval y = .slice ad n cap → (Builtin.len_ #[t] oper.type #[a.eval y]).run P w = .ok (.int .i64 n) w := by
     intro n cap ad he
     rw [he]
     unfold Builtin.len_
     simp only [List.getElem?_toArray, List.getElem?_cons_zero, Sem.run_bind, run_underlying hund, Result.andThen]
     rfl
    simp only [aop0] at hv
    split at hv
    ·rename_i e
     rw [e] at hx
     cases hv
     obtain ⟨ad, hu⟩ := rep_emp hx
     exact fin 0 rfl (key 0 0 ad hu)
    ·rename_i es e
     rw [e] at hx
     cases hv
     obtain ⟨ad, cap, hu, _⟩ := rep_fz_inv hx
     exact fin es.length rfl (key _ cap ad hu)
    ·rename_i r sz off len tot e
     rw [e] at hx
     cases hl : liveO H r tot with
     | none => rw [hl] at hv; cases hv
     | some o =>
       rw [hl] at hv; cases hv
       obtain ⟨ad, cap, hu⟩ := slice_form hs hx hl
       exact fin len rfl (key _ cap ad hu)
    ·cases hv
 ·cases hf
theorem ok_minmax {P : Program} {isMax : Bool} {x y : Opd} {o : Op} (hf : fit0 P (if isMax then .max2 x y else .min2 x y) o = true) : Sound0 P o (if isMax then .max2 x y else .min2 x y) := by
 intro E w H fr a v oper ho hs hr hv
 cases isMax <;> simp only [Bool.false_eq_true, if_false, if_true] at hf hv
 all_goals
  cases o <;> simp only [fit0, Bool.false_eq_true] at hf
  rename_i c
  obtain ⟨callee, args, ts⟩ := c
  cases callee <;> try (simp only [fit0, Bool.false_eq_true] at hf; done)
  rename_i b
  cases b <;> simp only [fit0, Bool.false_eq_true] at hf
  split at hf
  ·rename_i x' y' hargs
   rw [Bool.and_eq_true] at hf
   have hx := fitO_ok hr hf.1
   have hy := fitO_ok hr hf.2
   have hargs : args = #[x', y'] := by apply Array.ext'; simpa using hargs
   subst hargs
   simp only [aop0] at hv
   split at hv
   ·rename_i k m k' n e1 e2
    rw [e1] at hx; rw [e2] at hy
    cases hv
    refine ⟨_, ?_, .pure (x := .int _ _) (.int _ _)⟩
    simp only [execOp, ho, resolve, Sem.run_bind, Sem.run_pure, Result.andThen, invoke, builtin, List.map_toArray, List.map_cons, List.map_nil, rep_int hx, rep_int hy,
     Builtin.max_, Builtin.min_, List.foldlM_cons, List.foldlM_nil, Builtin.max2, Builtin.min2]
   ·cases hv
  ·cases hf
theorem ok_mkfn {P : Program} {f : Fn} {first cap : List Opd} {o : Op} (hf : fit0 P (.mkfn f first cap) o = true) : Sound0 P o (.mkfn f first cap) := by
 intro E w H fr a v oper ho hs hr hv
 cases o <;> simp only [fit0, Bool.and_eq_true, Bool.false_eq_true, decide_eq_true_eq] at hf
 rename_i g first' cap'
 obtain ⟨⟨rfl, h1⟩, h2⟩ := hf
 have key : ∀ (xs : List Opd) (ys : List Operand), fit0.fitOs xs ys = true → RepL E (xs.map (evalA fr)) (ys.map a.eval).toArray := by
  intro xs
  induction xs with
  | nil => intro ys h; cases ys <;> simp only [fit0.fitOs, Bool.false_eq_true] at h; exact RepL.nil E
  | cons x xs ih =>
    intro ys h
    cases ys with
    | nil => simp [fit0.fitOs] at h
    | cons y ys =>
      simp only [fit0.fitOs, Bool.and_eq_true] at h
      have := ih ys h.2
      refine ⟨by have := this.1; simp at this; simp [this], fun i c u hc hu => ?_⟩
      cases i with
      | zero => simp at hc hu; subst hc; subst hu; exact fitO_ok hr h.1
      | succ i => exact this.2 i c u (by simpa using hc) (by simpa using hu)
 have k1 := key _ _ h1
 have k2 := key _ _ h2
 simp only [aop0, Option.some.injEq] at hv; subst hv
 refine ⟨.func f (first'.map a.eval) (cap'.map a.eval), ?_, ?_⟩
 ·simp only [execOp, ho]; rfl
 ·refine .fn _ _ _ _ _ (by simpa using k1.1) (by simpa using k2.1) (fun i c u hc hu => k1.2 i c u hc (by simpa using hu)) (fun i c u hc hu => k2.2 i c u hc (by simpa using hu))
end Go.Proofs.YtemjlopoffjmpaaGreat.Abs
