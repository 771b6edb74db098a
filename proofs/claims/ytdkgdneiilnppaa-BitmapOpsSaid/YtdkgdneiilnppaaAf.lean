/- Which operation of the model an abstract one stands for (a check by program), and that it does what the abstract one says: operations that only compute or read. Conditions: none. -/
import Derived.Test.YtdkgdneiilnppaaAe
set_option linter.all false
namespace Go.Ab
variable {L : Lk} {ι : Im} {H : Heap} {w : World} {P : Program}

mutual
def ckV (L : Lk) : V → Value → Bool
  | .bool b, .bool c => b == c
  | .int k n, .int k' m => decide (k = k') && decide (n = m)
  | .flt k n, .float k' m => decide (k = k') && n == m
  | .str s, .string t => decide (s = t)
  | .ptr none, .pointer none => true
  | .sl none l c _, .slice none l' c' => l == 0 && c == 0 && l' == 0 && c' == 0
  | .map none, .map none => true
  | .nilfn, .nilFunc => true
  | .nilifc, .nilIface => true
  | .ifc t v, .iface u x => L.τ t == u && ckV L v x
  | .agg l, .agg vs => ckVL L l vs.toList
  | .tup l, .tuple vs => ckVL L l vs.toList
  | _, _ => false
def ckVL (L : Lk) : List V → List Value → Bool
  | [], [] => true
  | v :: l, x :: s => ckV L v x && ckVL L l s
  | _, _ => false
end

mutual
theorem ckV_rel (L : Lk) (ι : Im) : ∀ (v : V) (x : Value), ckV L v x = true → Rel L ι v x
  | .bool b, x, h => by cases x <;> simp [ckV] at h; subst h; rfl
  | .int k n, x, h => by cases x <;> simp [ckV] at h; obtain ⟨rfl, rfl⟩ := h; rfl
  | .flt k n, x, h => by cases x <;> simp [ckV] at h; obtain ⟨rfl, rfl⟩ := h; rfl
  | .str s, x, h => by cases x <;> simp [ckV] at h; subst h; rfl
  | .ptr none, x, h => by cases x with
    | pointer a => cases a with
      | none => rfl
      | some a => simp [ckV] at h
    | _ => simp [ckV] at h
  | .ptr (some a), x, h => by cases x <;> simp [ckV] at h
  | .sl none l c e, x, h => by cases x with
    | slice a l' c' => cases a with
      | none => simp [ckV] at h; obtain ⟨⟨⟨h1, h2⟩, h3⟩, h4⟩ := h; subst h1 h2 h3 h4; exact ⟨rfl, rfl, rfl⟩
      | some a => simp [ckV] at h
    | _ => simp [ckV] at h
  | .sl (some a) l c e, x, h => by cases x <;> simp [ckV] at h
  | .map none, x, h => by cases x with
    | map a => cases a with
      | none => rfl
      | some a => simp [ckV] at h
    | _ => simp [ckV] at h
  | .map (some a), x, h => by cases x <;> simp [ckV] at h
  | .fn g f c, x, h => by cases x <;> simp [ckV] at h
  | .nilfn, x, h => by cases x <;> simp [ckV] at h; rfl
  | .ifc t v, x, h => by
    cases x <;> simp [ckV] at h
    obtain ⟨h1, h2⟩ := h
    exact ⟨_, by rw [h1], ckV_rel L ι v _ h2⟩
  | .nilifc, x, h => by cases x <;> simp [ckV] at h; rfl
  | .agg l, x, h => by
    cases x <;> simp [ckV] at h
    exact ⟨_, rfl, ckVL_rel L ι l _ h⟩
  | .tup l, x, h => by
    cases x <;> simp [ckV] at h
    exact ⟨_, rfl, ckVL_rel L ι l _ h⟩
  | .un, x, h => trivial
theorem ckVL_rel (L : Lk) (ι : Im) : ∀ (v : List V) (x : List Value), ckVL L v x = true → RelL L ι v x
  | [], [], _ => rfl
  | [], _ :: _, h => by simp [ckVL] at h
  | v :: l, [], h => by simp [ckVL] at h
  | v :: l, x :: s, h => by
    simp [ckVL] at h
    exact ⟨x, s, rfl, ckV_rel L ι v x h.1, ckVL_rel L ι l s h.2⟩
end

def ckOpd (L : Lk) : Opd → Operand → Bool
  | .t n, .tmp m => n == m
  | .c v, .const x => ckV L v x
  | .f g, .func f => L.dom g && L.φ g == f
  | _, _ => false

def ckOpds (L : Lk) : List Opd → List Operand → Bool
  | [], [] => true
  | x :: r, y :: s => ckOpd L x y && ckOpds L r s
  | _, _ => false

theorem opd_rel {fr : Fr} {a : Act} (hf : FrRel L ι fr a.tmps) {x : Opd} {y : Operand} {v : V} (hc : ckOpd L x y = true) (h : opd fr x = some v) : Rel L ι v (a.eval y) := by
  cases x with
  | t n =>
    cases y <;> simp [ckOpd] at hc
    subst hc
    obtain ⟨v', h1, h2⟩ := hf n v h
    simp only [Act.eval, Array.getD_eq_getD_getElem?, h1, Option.getD_some]; exact h2
  | c u =>
    cases y <;> simp [ckOpd] at hc
    cases h
    exact ckV_rel L ι _ _ hc
  | f g =>
    cases y <;> simp [ckOpd] at hc
    cases h
    exact ⟨#[], #[], by simp [Act.eval, hc.2], hc.1, rfl, rfl⟩

theorem opds_rel {fr : Fr} {a : Act} (hf : FrRel L ι fr a.tmps) : ∀ {xs : List Opd} {ys : List Operand} {vs : List V}, ckOpds L xs ys = true → opds fr xs = some vs → RelL L ι vs (ys.map a.eval)
  | [], [], vs, _, h => by cases h; rfl
  | [], _ :: _, _, hc, _ => by simp [ckOpds] at hc
  | _ :: _, [], _, hc, _ => by simp [ckOpds] at hc
  | x :: xs, y :: ys, vs, hc, h => by
    simp [ckOpds] at hc
    simp only [opds] at h
    split at h
    · rename_i v l h1 h2
      cases h
      exact ⟨_, _, rfl, opd_rel hf hc.1 h1, opds_rel hf hc.2 h2⟩
    · cases h

/-! ### The tables of types -/
theorem r_und {t : TypeId} {d : TypeDesc} (h : P.underlying t = some d) : (underlying t).run P w = .ok d w := by simp [underlying, h]
theorem r_info {t : TypeId} {i : TypeInfo} (h : P.info? t = some i) : (typeInfo t).run P w = .ok i w := by simp [typeInfo, h]
theorem r_size {t : TypeId} {i : TypeInfo} (h : P.info? t = some i) : (sizeOf t).run P w = .ok i.size w := by simp [sizeOf, r_info h]
theorem r_zero {t : TypeId} {i : TypeInfo} {z : Value} (h : P.info? t = some i) (hz : i.zero = some z) : (zeroValue t).run P w = .ok z w := by simp [zeroValue, r_info h, hz]
def aggD : TypeDesc → Bool
  | .struct _ => true
  | .array _ _ => true
  | _ => false
theorem r_isAgg {t : TypeId} {d : TypeDesc} (h : P.underlying t = some d) : (isAgg t).run P w = .ok (aggD d) w := by
  unfold isAgg; rw [Sem.run_bind, r_und h]
  cases d <;> rfl

def ckAgg (P : Program) (t : TypeId) (n : Option Nat) : Bool :=
  match P.underlying t with
  | some d => match n with
    | none => !aggD d
    | some n => aggD d && (P.info? t).any fun i => i.size == n
  | none => false

def ckSize (P : Program) (t : TypeId) (n : Nat) : Bool := decide (0 < n) && (P.info? t).any fun i => i.size == n
theorem ckSize_spec {t : TypeId} {n : Nat} (h : ckSize P t n = true) : 0 < n ∧ ∃ i, P.info? t = some i ∧ i.size = n := by
  simp only [ckSize, Bool.and_eq_true, decide_eq_true_eq, Option.any_eq_true, beq_iff_eq] at h; exact h

def isIntD : TypeDesc → Option IntKind
  | .int k => some k
  | _ => none

def ckBK (P : Program) (t : TypeId) : BK → Bool
  | .num => true
  | .bool => match P.underlying t with | some .bool => true | _ => false
  | .ptr => match P.underlying t with | some (.pointer _) => true | _ => false
  | .slice => match P.underlying t with | some (.slice _) => true | _ => false
  | .func => match P.underlying t with | some (.func _ _ _) => true | _ => false
  | .ifc => match P.underlying t with | some (.interface _) => true | _ => false
  | .agg _ => false

/-- The slice type's element: how many cells, and bytes, it has. -/
def ckEl (P : Program) (t : TypeId) (esz : Nat) : Bool :=
  match P.underlying t with
  | some (.slice e) => (P.info? e).any fun i => i.size == esz
  | _ => false
theorem ckEl_spec {t : TypeId} {n : Nat} (h : ckEl P t n = true) : ∃ e i, P.underlying t = some (.slice e) ∧ P.info? e = some i ∧ i.size = n := by
  unfold ckEl at h; split at h
  · rename_i e he; simp only [Option.any_eq_true, beq_iff_eq] at h; obtain ⟨i, h1, h2⟩ := h; exact ⟨e, i, he, h1, h2⟩
  · cases h

def ckOpt (L : Lk) : Option Opd → Option Operand → Bool
  | none, none => true
  | some x, some y => ckOpd L x y
  | _, _ => false

/-- 'len': of a slice (none), an array (its length). -/
def ckLen (L : Lk) (P : Program) (arr : Option Nat) (x : Opd) (c : Go.Call) : Bool :=
  match c.callee, c.args.toList, c.argTypes.toList with
  | .builtin .len, [x'], [t] => ckOpd L x x' && (match P.underlying t, arr with
      | some (.slice _), none => true
      | some (.array m _), some n => n == m
      | _, _ => false)
  | _, _, _ => false

def ckSlen (L : Lk) (P : Program) (x : Opd) (c : Go.Call) : Bool :=
  match c.callee, c.args.toList, c.argTypes.toList with
  | .builtin .len, [x'], [t] => ckOpd L x x' && (match P.underlying t with | some .string => true | _ => false)
  | _, _, _ => false

def ckMM (L : Lk) (mx : Bool) (xs : List Opd) (c : Go.Call) : Bool :=
  match c.callee with
  | .builtin .max => mx && ckOpds L xs c.args.toList
  | .builtin .min => !mx && ckOpds L xs c.args.toList
  | _ => false

/-- Operations that compute, or read: which of the model's they stand for. -/
def ckQ (L : Lk) (P : Program) : AOp → Op → Bool
  | .mv x, .move y => ckOpd L x y
  | .mv x, .assign y => ckOpd L x y
  | .pick c a b, .pick c' a' b' => ckOpd L c c' && ckOpd L a a' && ckOpd L b b'
  | .bin op k x y, .binOp op' t x' y' _ => decide (op = op') && ckBK P t k && ckOpd L x x' && ckOpd L y y'
  | .un op x, .unOp op' _ x' => decide (op = op') && ckOpd L x x'
  | .conv k x, .convert src dst x' => (match P.underlying src, P.underlying dst with | some (.int _), some (.int k') => decide (k = k') | _, _ => false) && ckOpd L x x'
  | .load n a, .load t a' => ckAgg P t n && ckOpd L a a'
  | .fad off x, .fieldAddr s x' f => (match P.underlying s with
      | some (.struct fs) => (fs[f]?).any fun fl => fl.offset == off && (P.info? fl.type).any fun i => i.size != 0
      | _ => false) && ckOpd L x x'
  | .fld off n x, .field s x' f => (match P.underlying s with
      | some (.struct fs) => (fs[f]?).any fun fl => fl.offset == off && ckAgg P fl.type n
      | _ => false) && ckOpd L x x'
  | .iad none esz x i, .indexAddr t x' i' => ckEl P t esz && ckOpd L x x' && ckOpd L i i'
  | .iad (some m) esz x i, .indexAddr t x' i' => (match P.underlying t with
      | some (.array n e) => n == m && (P.info? e).any fun i => i.size == esz
      | _ => false) && ckOpd L x x' && ckOpd L i i'
  | .idx none _ _ x i, .index t x' i' => (match P.underlying t with | some .string => true | _ => false) && ckOpd L x x' && ckOpd L i i'
  | .idx (some m) esz n x i, .index t x' i' => (match P.underlying t with
      | some (.array k e) => k == m && ckAgg P e n && (P.info? e).any fun i => i.size == esz
      | _ => false) && ckOpd L x x' && ckOpd L i i'
  | .slice esz x lo hi mx, .slice t x' lo' hi' mx' => ckEl P t esz && ckOpd L x x' && ckOpt L lo lo' && ckOpt L hi hi' && ckOpt L mx mx' && (hi.isSome || mx.isNone)
  | .substr x lo hi, .slice t x' lo' hi' none => (match P.underlying t with | some .string => true | _ => false) && ckOpd L x x' && ckOpt L lo lo' && ckOpt L hi hi'
  | .nilck x, .nilCheck x' => ckOpd L x x'
  | .ext i x, .extract x' j => i == j && ckOpd L x x'
  | .mkifc t x, .makeInterface t' x' => L.τ t == t' && (match P.underlying t' with | some (.interface _) => false | some _ => true | none => false) && ckOpd L x x'
  | .mkfn g first caps, .makeFunc (.func f) first' caps' => L.dom g && L.φ g == f && ckOpds L first first'.toList && ckOpds L caps caps'.toList
  | .len arr x, .call c => ckLen L P arr x c
  | .slen x, .call c => ckSlen L P x c
  | .mm mx xs, .call c => ckMM L mx xs c
  | .build z ps, .build t parts => (match P.underlying t, (P.info? t).bind (·.zero) with
      | some (.struct fs), some zv => ckVL L z zv.cells.toList && (ps.length == parts.size) && ((ps.zip parts.toList).all fun ((o, n, x), (i, y)) => ckOpd L x y && (fs[i]?).any fun f => f.offset == o && ckSize P f.type n) &&
          fs.all fun f => (P.info? f.type).isSome
      | some (.array _ e), some zv => ckVL L z zv.cells.toList && (P.info? e).isSome && (ps.length == parts.size) && ((ps.zip parts.toList).all fun ((o, n, x), (i, y)) => ckOpd L x y && o == i * n && ckSize P e n)
      | _, _ => false)
  | _, _ => false

/-- What an operation that leaves the world as it is comes to. -/
def Yld (P : Program) (o : Oper) (a : Act) (w : World) (v : Value) : Prop := (execOp a.eval o).run P w = .ok (.value v) w

section
variable {fr : Fr} {a : Act} (hf : FrRel L ι fr a.tmps)
include hf

theorem q_mv {x : Opd} {y : Operand} {v : V} {d : Option Tmp} {ty : TypeId} {pos : String} {af : Array Edge} {g : Option (Nat × Bool)} (hc : ckOpd L x y = true) (h : opd fr x = some v) :
    ∃ v', Yld P ⟨d, .move y, ty, pos, af, g⟩ a w v' ∧ Rel L ι v v' := ⟨_, rfl, opd_rel hf hc h⟩

theorem q_asg {x : Opd} {y : Operand} {v : V} {d : Option Tmp} {ty : TypeId} {pos : String} {af : Array Edge} {g : Option (Nat × Bool)} (hc : ckOpd L x y = true) (h : opd fr x = some v) :
    ∃ v', Yld P ⟨d, .assign y, ty, pos, af, g⟩ a w v' ∧ Rel L ι v v' := ⟨_, rfl, opd_rel hf hc h⟩
end

theorem bool_ok {a b : Bool} (h : a = b) : (Result.ok (Value.bool a) w : Result Value) = .ok (.bool b) w := by rw [h]

theorem cmp_sound {op : BinOp} {x y : Int} {b : Bool} (h : cmp op x y = some b) : (Op.intCmp op x y).run P w = .ok (.bool b) w := by
  cases op
  case eql => cases h; exact bool_ok (by rw [Bool.eq_iff_iff]; simp)
  case neq => cases h; exact bool_ok (by rw [Bool.eq_iff_iff]; simp)
  case lss => cases h; rfl
  case leq => cases h; rfl
  case gtr => cases h; rfl
  case geq => cases h; rfl
  all_goals cases h

theorem bitop_sound {op : BinOp} {k : IntKind} {x y : Int} (h : op = .and ∨ op = .or ∨ op = .xor ∨ op = .andNot) : (Op.intBits op k x y).run P w = .ok (.int k (bitop op k x y)) w := by
  rcases h with rfl | rfl | rfl | rfl <;> rfl

theorem arith_sound {op : BinOp} {k : IntKind} {x y : Int} {v : V} {t : TypeId} (h1 : op ≠ .shl) (h2 : op ≠ .shr) (h : arith op k x y = some v) :
    ∃ v', (binOp op t (.int k x) (.int k y)).run P w = .ok v' w ∧ Rel L ι v v' := by
  cases op
  case shl => exact absurd rfl h1
  case shr => exact absurd rfl h2
  case add => cases h; exact ⟨_, by simp [binOp, Op.intArith], rfl⟩
  case sub => cases h; exact ⟨_, by simp [binOp, Op.intArith], rfl⟩
  case mul => cases h; exact ⟨_, by simp [binOp, Op.intArith], rfl⟩
  case quo =>
    simp only [arith] at h
    split at h
    · cases h
    · rename_i h0; cases h; exact ⟨_, by simp [binOp, Op.intDiv, h0], rfl⟩
  case rem =>
    simp only [arith] at h
    split at h
    · cases h
    · rename_i h0; cases h; exact ⟨_, by simp [binOp, Op.intDiv, h0], rfl⟩
  case and => cases h; exact ⟨_, by simp only [binOp, ne_eq, not_true_eq_false, if_false]; exact bitop_sound (by simp), rfl⟩
  case or => cases h; exact ⟨_, by simp only [binOp, ne_eq, not_true_eq_false, if_false]; exact bitop_sound (by simp), rfl⟩
  case xor => cases h; exact ⟨_, by simp only [binOp, ne_eq, not_true_eq_false, if_false]; exact bitop_sound (by simp), rfl⟩
  case andNot => cases h; exact ⟨_, by simp only [binOp, ne_eq, not_true_eq_false, if_false]; exact bitop_sound (by simp), rfl⟩
  all_goals
    simp only [arith, Option.map_eq_some_iff] at h
    obtain ⟨b, hb, rfl⟩ := h
    exact ⟨_, by simp only [binOp, ne_eq, not_true_eq_false, if_false]; exact cmp_sound hb, rfl⟩

theorem eqGuard_pure {op : BinOp} {t : TypeId} {x y : Operand} {a b : Value} (h1 : ∀ l, a ≠ .agg l) (h2 : a ≠ .nilIface ∨ b ≠ .nilIface) : (eqGuard op t x y a b).run P w = .ok () w := by
  have key : (match a, b with
    | .nilIface, .nilIface => False
    | .agg _, .agg _ => False
    | _, _ => True) := by cases a <;> cases b <;> first | trivial | exact absurd rfl (h1 _) | (simp at h2)
  cases op <;> first | rfl | (unfold eqGuard; revert key; cases a <;> cases b <;> intro key <;> first | rfl | exact key.elim)


/-- What a value of an abstract kind is not. -/
theorem Rel.noAgg {v : V} {x : Value} (h : Rel L ι v x) (hv : ∀ l, v ≠ .agg l) (hu : v ≠ .un) : ∀ l, x ≠ .agg l := by
  intro l e; subst e
  cases v with
  | agg l => exact hv l rfl
  | un => exact hu rfl
  | ptr a => cases a with | none => cases h | some a => obtain ⟨c, p, z, _, e⟩ := h; cases e
  | sl a _ _ _ => cases a with | none => cases h.2.2 | some a => obtain ⟨_, A, cap', e, _⟩ := h; cases e
  | map a => cases a with | none => cases h | some a => obtain ⟨c, z, _, e⟩ := h; cases e
  | fn g f c => obtain ⟨_, _, e, _⟩ := h; cases e
  | ifc t v => obtain ⟨_, e, _⟩ := h; cases e
  | tup l => obtain ⟨_, e, _⟩ := h; cases e
  | _ => cases h

theorem equalIn_bool {t : TypeId} {a b : Bool} (ht : P.underlying t = some .bool) : (Op.equal t (.bool a) (.bool b)).run P w = .ok (a == b) w := by
  unfold Op.equal Op.maxDepth Op.equalIn; rw [Sem.run_bind, r_und ht]; rfl

theorem eqs_sound {k : BK} {t : TypeId} {x y : V} {x' y' : Value} {b : Bool} (hk : ckBK P t k = true) (hn : k ≠ .num) (h : eqs x y k = some b) (hx : Rel L ι x x') (hy : Rel L ι y y') :
    (Op.equal t x' y').run P w = .ok b w ∧ (∀ l, x' ≠ .agg l) ∧ (x' ≠ .nilIface ∨ y' ≠ .nilIface) ∧ (∀ k n, x' ≠ .int k n) ∧ (∀ s, x' ≠ .string s) ∧ (∀ k n, x' ≠ .float k n) ∧ (∀ k n m, x' ≠ .complex k n m) := by
  cases k with
  | num => exact absurd rfl hn
  | agg fs => simp [eqs] at h
  | bool =>
    have ht : P.underlying t = some .bool := by
      revert hk; unfold ckBK; cases hu : P.underlying t with
      | none => intro hk; cases hk
      | some d => cases d <;> intro hk <;> first | rfl | cases hk
    simp only [eqs] at h
    split at h
    · cases h; cases hx; cases hy
      exact ⟨equalIn_bool ht, by simp⟩
    · cases h
  | ptr =>
    obtain ⟨e, ht⟩ : ∃ e, P.underlying t = some (.pointer e) := by
      revert hk; unfold ckBK; cases hu : P.underlying t with
      | none => intro hk; cases hk
      | some d => cases d <;> intro hk <;> first | exact ⟨_, rfl⟩ | cases hk
    simp only [eqs] at h
    split at h
    · rename_i b'
      cases h; cases hx
      refine ⟨?_, by simp⟩
      cases b' with
      | none => cases hy; unfold Op.equal Op.maxDepth Op.equalIn; rw [Sem.run_bind, r_und ht]; rfl
      | some a => obtain ⟨c, p, z, _, rfl⟩ := hy; unfold Op.equal Op.maxDepth Op.equalIn; rw [Sem.run_bind, r_und ht]; rfl
    · rename_i a' _
      cases h; cases hy
      cases a' with
      | none => cases hx; exact ⟨by unfold Op.equal Op.maxDepth Op.equalIn; rw [Sem.run_bind, r_und ht]; rfl, by simp⟩
      | some a => obtain ⟨c, p, z, _, rfl⟩ := hx; exact ⟨by unfold Op.equal Op.maxDepth Op.equalIn; rw [Sem.run_bind, r_und ht]; rfl, by simp⟩
    · cases h
  | slice =>
    obtain ⟨e, ht⟩ : ∃ e, P.underlying t = some (.slice e) := by
      revert hk; unfold ckBK; cases hu : P.underlying t with
      | none => intro hk; cases hk
      | some d => cases d <;> intro hk <;> first | exact ⟨_, rfl⟩ | cases hk
    simp only [eqs] at h
    split at h
    · rename_i b' _ _ _
      cases h; cases hx.2.2
      refine ⟨?_, by simp⟩
      cases b' with
      | none => cases hy.2.2; unfold Op.equal Op.maxDepth Op.equalIn; rw [Sem.run_bind, r_und ht]; rfl
      | some a => obtain ⟨_, A, cap', rfl, _⟩ := hy; unfold Op.equal Op.maxDepth Op.equalIn; rw [Sem.run_bind, r_und ht]; rfl
    · rename_i a' _ _ _ _ _ _ _
      cases h; cases hy.2.2
      cases a' with
      | none => cases hx.2.2; exact ⟨by unfold Op.equal Op.maxDepth Op.equalIn; rw [Sem.run_bind, r_und ht]; rfl, by simp⟩
      | some a => obtain ⟨_, A, cap', rfl, _⟩ := hx; exact ⟨by unfold Op.equal Op.maxDepth Op.equalIn; rw [Sem.run_bind, r_und ht]; rfl, by simp⟩
    · cases h
  | func =>
    obtain ⟨e1, e2, e3, ht⟩ : ∃ e1 e2 e3, P.underlying t = some (.func e1 e2 e3) := by
      revert hk; unfold ckBK; cases hu : P.underlying t with
      | none => intro hk; cases hk
      | some d => cases d <;> intro hk <;> first | exact ⟨_, _, _, rfl⟩ | cases hk
    simp only [eqs] at h
    split at h
    · cases h; cases hx; cases hy
      exact ⟨by unfold Op.equal Op.maxDepth Op.equalIn; rw [Sem.run_bind, r_und ht]; rfl, by simp⟩
    · cases h; cases hx; obtain ⟨_, _, rfl, _⟩ := hy
      exact ⟨by unfold Op.equal Op.maxDepth Op.equalIn; rw [Sem.run_bind, r_und ht]; rfl, by simp⟩
    · cases h; cases hy; obtain ⟨_, _, rfl, _⟩ := hx
      exact ⟨by unfold Op.equal Op.maxDepth Op.equalIn; rw [Sem.run_bind, r_und ht]; rfl, by simp⟩
    · cases h
  | ifc =>
    obtain ⟨e, ht⟩ : ∃ e, P.underlying t = some (.interface e) := by
      revert hk; unfold ckBK; cases hu : P.underlying t with
      | none => intro hk; cases hk
      | some d => cases d <;> intro hk <;> first | exact ⟨_, rfl⟩ | cases hk
    simp only [eqs] at h
    split at h
    · cases h; cases hx; obtain ⟨_, rfl, _⟩ := hy
      exact ⟨by unfold Op.equal Op.maxDepth Op.equalIn; rw [Sem.run_bind, r_und ht]; rfl, by simp⟩
    · cases h; cases hy; obtain ⟨_, rfl, _⟩ := hx
      exact ⟨by unfold Op.equal Op.maxDepth Op.equalIn; rw [Sem.run_bind, r_und ht]; rfl, by simp⟩
    · cases h

theorem binOp_eql {t : TypeId} {x y : Value} (h1 : ∀ k n, x ≠ .int k n) (h2 : ∀ s, x ≠ .string s) (h3 : ∀ k n, x ≠ .float k n) (h4 : ∀ k n m, x ≠ .complex k n m) :
    binOp .eql t x y = (Op.equal t x y >>= fun b => pure (Value.bool b)) := by
  cases x <;> first | rfl | exact absurd rfl (h1 _ _) | exact absurd rfl (h2 _) | exact absurd rfl (h3 _ _) | exact absurd rfl (h4 _ _ _) | (cases y <;> rfl)
theorem binOp_neq {t : TypeId} {x y : Value} (h1 : ∀ k n, x ≠ .int k n) (h2 : ∀ s, x ≠ .string s) (h3 : ∀ k n, x ≠ .float k n) (h4 : ∀ k n m, x ≠ .complex k n m) :
    binOp .neq t x y = (Op.equal t x y >>= fun b => pure (Value.bool !b)) := by
  cases x <;> first | rfl | exact absurd rfl (h1 _ _) | exact absurd rfl (h2 _) | exact absurd rfl (h3 _ _) | exact absurd rfl (h4 _ _ _) | (cases y <;> rfl)

theorem bin_sound {op : BinOp} {k : BK} {t : TypeId} {x y v : V} {x' y' : Value} {X Y : Operand} (hk : ckBK P t k = true) (h : bin op k x y = some v) (hx : Rel L ι x x') (hy : Rel L ι y y') :
    ∃ v', (do eqGuard op t X Y x' y'; binOp op t x' y' : Sem Value).run P w = .ok v' w ∧ Rel L ι v v' := by
  have fin : ∀ {v' : Value}, (binOp op t x' y').run P w = .ok v' w → (∀ l, x' ≠ .agg l) → (x' ≠ .nilIface ∨ y' ≠ .nilIface) → (do eqGuard op t X Y x' y'; binOp op t x' y' : Sem Value).run P w = .ok v' w := by
    intro v' h1 h2 h3; rw [Sem.run_bind, eqGuard_pure h2 h3]; exact h1
  by_cases hn : k = .num
  · subst hn
    simp only [bin] at h
    split at h
    · rename_i k1 a k2 b
      cases hx; cases hy
      have e1 : ∀ l, (Value.int k1 a) ≠ .agg l := by simp
      have e2 : (Value.int k1 a) ≠ .nilIface ∨ (Value.int k2 b) ≠ .nilIface := by simp
      split at h
      · split at h
        · cases h
        · rename_i hb; cases h; exact ⟨_, fin (by simp [binOp, Op.shift, hb]; rfl) e1 e2, rfl⟩
      · split at h
        · cases h
        · rename_i hb; cases h; exact ⟨_, fin (by simp [binOp, Op.shift, hb]; rfl) e1 e2, rfl⟩
      · rename_i n1 n2
        split at h
        · rename_i hkk; subst hkk
          obtain ⟨v', h1, h2⟩ := arith_sound (L := L) (ι := ι) (P := P) (w := w) (t := t) n1 n2 h
          exact ⟨v', fin h1 e1 e2, h2⟩
        · cases h
    · rename_i a b
      cases hx; cases hy
      have e1 : ∀ l, (Value.string a) ≠ .agg l := by simp
      have e2 : (Value.string a) ≠ .nilIface ∨ (Value.string b) ≠ .nilIface := by simp
      split at h
      · cases h; refine ⟨_, fin (v' := .bool (decide (a.toList = b.toList))) ?_ e1 e2, rfl⟩
        show (Op.stringOp .eql a b).run P w = _
        unfold Op.stringOp; exact bool_ok (by rw [Bool.eq_iff_iff]; simp)
      · cases h; refine ⟨_, fin (v' := .bool (decide (a.toList ≠ b.toList))) ?_ e1 e2, rfl⟩
        show (Op.stringOp .neq a b).run P w = _
        unfold Op.stringOp; exact bool_ok (by rw [Bool.eq_iff_iff]; simp)
      · cases h
    · cases h
  · have he : ∀ b, equals x y k = some b → eqs x y k = some b := by
      intro b hb; cases k <;> first | exact hb | (simp [ckBK] at hk)
    cases op
    case eql =>
      have hb : bin .eql k x y = (equals x y k).map .bool := by cases k <;> first | rfl | exact absurd rfl hn
      rw [hb] at h
      simp only [Option.map_eq_some_iff] at h
      obtain ⟨b, h1, rfl⟩ := h
      obtain ⟨f1, f2, f3, f4, f5, f6, f7⟩ := eqs_sound (w := w) hk hn (he b h1) hx hy
      exact ⟨_, fin (by rw [binOp_eql f4 f5 f6 f7, Sem.run_bind, f1]; rfl) f2 f3, rfl⟩
    case neq =>
      have hb : bin .neq k x y = (equals x y k).map fun b => .bool !b := by cases k <;> first | rfl | exact absurd rfl hn
      rw [hb] at h
      simp only [Option.map_eq_some_iff] at h
      obtain ⟨b, h1, rfl⟩ := h
      obtain ⟨f1, f2, f3, f4, f5, f6, f7⟩ := eqs_sound (w := w) hk hn (he b h1) hx hy
      exact ⟨_, fin (by rw [binOp_neq f4 f5 f6 f7, Sem.run_bind, f1]; rfl) f2 f3, rfl⟩
    all_goals (cases k <;> first | exact absurd rfl hn | cases h)

theorem unop_sound {op : UnOp} {x v : V} {x' : Value} (h : unop op x = some v) (hx : Rel L ι x x') : ∃ v', (Op.unary op x').run P w = .ok v' w ∧ Rel L ι v v' := by
  unfold unop at h
  split at h
  · cases h; cases hx; exact ⟨_, by simp [Op.unary, Op.intArith], rfl⟩
  · cases h; cases hx; exact ⟨_, by simp only [Op.unary]; exact bitop_sound (by simp), rfl⟩
  · cases h; cases hx; exact ⟨_, rfl, rfl⟩
  · cases h

end Go.Ab
