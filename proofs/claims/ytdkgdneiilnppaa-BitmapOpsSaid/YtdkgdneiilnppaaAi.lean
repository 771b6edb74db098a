/- Operations that make memory or write it, against the model's. Conditions: none. -/
import Derived.Test.YtdkgdneiilnppaaAh
set_option linter.all false
namespace Go.Ab
variable {L : Lk} {ι : Im} {H : Heap} {w : World} {P : Program} {fr : Fr} {a : Act}

def ckZero (L : Lk) (P : Program) (e : TypeId) (z : List V) : Bool := (P.info? e).any fun i => match i.zero with
  | some zv => ckVL L z zv.cells.toList
  | none => false
theorem ckZero_spec {e : TypeId} {z : List V} (h : ckZero L P e z = true) : ∃ i zv, P.info? e = some i ∧ i.zero = some zv ∧ ∀ ι, RelL L ι z zv.cells.toList := by
  simp only [ckZero, Option.any_eq_true] at h
  obtain ⟨i, h1, h2⟩ := h
  split at h2
  · rename_i zv hz; exact ⟨i, zv, h1, hz, fun ι => ckVL_rel L ι _ _ h2⟩
  · cases h2

/-- The slice type's element: cells, bytes (0: whatever), zero cells. -/
def ckElz (L : Lk) (P : Program) (t : TypeId) (esz : Nat) (eb : Option Nat) (z : List V) : Bool :=
  match P.underlying t with
  | some (.slice e) => decide (0 < esz) && z.length == esz && ckZero L P e z && (P.info? e).any fun i => i.size == esz && (match eb with | some b => i.bytes == b | none => true)
  | _ => false
theorem ckElz_spec {t : TypeId} {esz : Nat} {eb : Option Nat} {z : List V} (h : ckElz L P t esz eb z = true) :
    ∃ e i zv, P.underlying t = some (.slice e) ∧ P.info? e = some i ∧ i.zero = some zv ∧ (∀ ι, RelL L ι z zv.cells.toList) ∧ i.size = esz ∧ 0 < esz ∧ z.length = esz ∧ (∀ b, eb = some b → i.bytes = b) := by
  unfold ckElz at h
  split at h
  · rename_i e he
    simp only [Bool.and_eq_true, decide_eq_true_eq, beq_iff_eq, Option.any_eq_true] at h
    obtain ⟨⟨⟨h1, h2⟩, h3⟩, i, h4, h5, h6⟩ := h
    obtain ⟨i', zv, k1, k2, k3⟩ := ckZero_spec h3
    rw [h4] at k1; cases k1
    refine ⟨e, i, zv, he, h4, k2, k3, h5, h1, h2, fun b hb => ?_⟩
    subst hb; simpa using h6
  · cases h

def ckParts (L : Lk) (ps : List (Nat × Opd)) (qs : Array (Nat × Operand)) : Bool := (ps.length == qs.size) && (ps.zip qs.toList).all fun ((i, x), (j, y)) => i == j && ckOpd L x y

/-- Operations that lay a new block. -/
def ckF (L : Lk) (P : Program) : AOp → Op → Bool
  | .alloc z, .alloc t => ckZero L P t z
  | .box n x, .box t y => decide (0 < n) && ckOpd L x y
  | .bslice esz z len ps, .buildSlice t len' qs => ckElz L P t esz none z && len == len' && decide (len * esz ≤ 16777216) && ckParts L ps qs
  | .mkslice esz eb z l c, .makeSlice t l' c' => ckElz L P t esz (some eb) z && ckOpd L l l' && ckOpd L c c'
  | _, _ => false

theorem piece_length {l cs : List V} {o n : Nat} (h : piece l o n = some cs) : cs.length = n := by
  unfold piece at h
  split at h
  · cases h; simp; omega
  · cases h

theorem map_range0 (f g : Nat → Value) : (Array.range 0).map f = (Array.range 0).map g := by simp

theorem reps_length (z : List V) : ∀ n, (reps z n).length = n * z.length
  | 0 => by simp [reps]
  | n + 1 => by rw [reps, List.length_append, reps_length z n, Nat.add_mul]; omega

theorem reps_get (z : List V) (hz : 0 < z.length) : ∀ (n i : Nat), i < n * z.length → (reps z n)[i]? = z[i % z.length]?
  | 0, i, h => by omega
  | n + 1, i, h => by
    rw [reps]
    by_cases hi : i < z.length
    · rw [List.getElem?_append_left hi, Nat.mod_eq_of_lt hi]
    · rw [List.getElem?_append_right (by omega), reps_get z hz n (i - z.length) (by rw [Nat.add_mul] at h; omega)]
      congr 1
      exact (Nat.mod_eq_sub_mod (by omega)).symm

theorem zeros_rel {z : List V} {zv : Value} (hr : RelL L ι z zv.cells.toList) (hz : 0 < z.length) (n : Nat) :
    RelL L ι (reps z n) ((Array.range (n * z.length)).map fun i => zv.cells[i % zv.cells.size]!).toList := by
  have hlen : z.length = zv.cells.size := by rw [hr.length, Array.length_toList]
  refine RelL.of_get (by simp [reps_length]) (fun i x hx => ?_)
  have hi : i < n * z.length := by
    rcases Nat.lt_or_ge i (n * z.length) with h | h
    · exact h
    · rw [List.getElem?_eq_none (by rw [reps_length]; exact h)] at hx; cases hx
  rw [reps_get z hz n i hi] at hx
  obtain ⟨y, h1, h2⟩ := hr.get hx
  refine ⟨y, ?_, h2⟩
  have hm : i % z.length < zv.cells.size := by rw [← hlen]; exact Nat.mod_lt _ hz
  simp only [Array.toList_map, List.getElem?_map, Array.getElem?_toList]
  rw [Array.getElem?_range, if_pos hi] 
  simp only [Option.map_some, ← hlen]
  rw [Array.getElem?_toList] at h1
  rw [Array.getElem?_eq_getElem hm] at h1
  rw [getElem!_pos zv.cells (i % z.length) hm]
  exact h1

theorem parts2_get {esz : Nat} : ∀ {ps : List (Nat × Opd)} {l : List (Nat × Nat × V)}, parts2 fr esz ps = some l → l.length = ps.length ∧
    ∀ (j o n : Nat) (v : V), l[j]? = some (o, n, v) → ∃ i x, ps[j]? = some (i, x) ∧ o = i * esz ∧ n = esz ∧ opd fr x = some v
  | [], l, h => by cases h; exact ⟨rfl, by simp⟩
  | (i, x) :: ps, l, h => by
    simp only [parts2] at h
    split at h
    · rename_i v l' h1 h2
      cases h
      obtain ⟨hl, hg⟩ := parts2_get h2
      refine ⟨by simp [hl], fun j o' n' v' hj => ?_⟩
      cases j with
      | zero => simp at hj; obtain ⟨rfl, rfl, rfl⟩ := hj; exact ⟨i, x, rfl, rfl, rfl, h1⟩
      | succ j => simpa using hg j o' n' v' (by simpa using hj)
    · cases h

/-- What such an operation comes to: a block is pushed; the value points at it. -/
structure Laid (L : Lk) (ι : Im) (P : Program) (o : Oper) (a : Act) (w : World) (cs : List V) (mk : Nat → V) : Prop where
  ex : ∃ (arr : Array Value) (ty : TypeId) (v' : Value), (execOp a.eval o).run P w = .ok (.value v') (pushW w arr ty) ∧ RelL L ι cs arr.toList ∧
    ∀ ι' b, ι' b = some (w.heap.size, 0, arr.size) → Rel L ι' (mk b) v'

theorem fresh_sound (hf : FrRel L ι fr a.tmps) {p : AOp} {o : Oper} {cs : List V} {mk : Nat → V} (hc : ckF L P p o.op = true) (h : fresh fr p = some (cs, mk)) : Laid L ι P o a w cs mk := by
  obtain ⟨d, op, ty, pos, af, g⟩ := o
  cases p <;> try (simp [fresh] at h; done)
  case alloc z =>
    cases op <;> simp only [ckF] at hc <;> try cases hc
    rename_i t
    simp only [fresh, Option.some.injEq, Prod.mk.injEq] at h
    obtain ⟨rfl, rfl⟩ := h
    obtain ⟨i, zv, h1, h2, h3⟩ := ckZero_spec hc
    refine ⟨⟨zv.cells, t, .pointer (some ⟨w.heap.size, 0, none⟩), ?_, h3 ι, fun ι' b hb => ⟨_, _, _, hb, rfl⟩⟩⟩
    simp only [execOp, Instr.alloc, Sem.run_bind, r_zero h1 h2, Result.andThen_ok, newVar, newRow, run_newObj, Sem.run_pure]
    rfl
  case box n x =>
    cases op <;> simp only [ckF] at hc <;> try cases hc
    rename_i t y
    simp only [Bool.and_eq_true, decide_eq_true_eq] at hc
    simp only [fresh] at h
    split at h
    · rename_i v hv
      split at h
      · rename_i hn
        simp only [Option.some.injEq, Prod.mk.injEq] at h
        obtain ⟨rfl, rfl⟩ := h
        have hr := opd_rel hf hc.2 hv
        refine ⟨⟨(a.eval y).cells, t, .pointer (some ⟨w.heap.size, 0, none⟩), ?_, hr.cells (by omega), fun ι' b hb => ⟨_, _, _, hb, rfl⟩⟩⟩
        simp only [execOp, Instr.box, Sem.run_bind, Result.andThen_ok, newVar, newRow, run_newObj, Sem.run_pure]
        rfl
      · cases h
    · cases h
  case bslice esz z len ps =>
    cases op <;> simp only [ckF] at hc <;> try cases hc
    rename_i t len' qs
    simp only [Bool.and_eq_true, decide_eq_true_eq, beq_iff_eq] at hc
    obtain ⟨⟨⟨hel, rfl⟩, hmax⟩, hps⟩ := hc
    obtain ⟨e, i, zv, u1, u2, u3, u4, u5, u6, u7, _⟩ := ckElz_spec hel
    simp only [ckParts, Bool.and_eq_true, beq_iff_eq] at hps
    simp only [fresh] at h
    split at h
    · rename_i l hl
      split at h
      · rename_i cs' hcs
        simp only [Option.some.injEq, Prod.mk.injEq] at h
        obtain ⟨rfl, rfl⟩ := h
        obtain ⟨hpl, hpg⟩ := parts2_get hl
        obtain ⟨arr', r1, r2⟩ := fill_sound (L := L) (ι := ι) (place := fun i => some (i * esz, esz)) (ps := l) (qs := (qs.map fun (i, x) => (i, a.eval x)).toList)
          (cells := reps z len) (cs := cs') (arr := (Array.range (len * z.length)).map fun i => zv.cells[i % zv.cells.size]!) (by simp [hpl, hps.1]) (fun j o n v i' x e1 e2 => by
            obtain ⟨i0, x0, g1, g2, g3, g4⟩ := hpg j o n v e1
            simp only [Array.toList_map, List.getElem?_map, Option.map_eq_some_iff] at e2
            obtain ⟨⟨i1, y⟩, e3, e4⟩ := e2
            cases e4
            have := zip_all hps.2 j _ _ g1 e3
            simp only [Bool.and_eq_true, beq_iff_eq] at this
            obtain ⟨rfl, k1⟩ := this
            exact ⟨by omega, by rw [g2, g3], opd_rel hf k1 g4⟩) (zeros_rel (u4 ι) (by omega) len) hcs
        have hsz : cs'.length = len * esz := by
          have : ∀ {cells cs : List V} {ps : List (Nat × Nat × V)}, fillA cells ps = some cs → cs.length = cells.length := by
            intro cells cs ps
            induction ps generalizing cells with
            | nil => intro h; cases h; rfl
            | cons p ps ih =>
              intro h
              simp only [fillA] at h
              split at h
              · rename_i hh; rw [ih h, over_length _ _ _ (by omega)]
              · cases h
          rw [this hcs, reps_length, u7]
        have hz : arr'.size = len * esz := by rw [← Array.length_toList, ← r2.length, hsz]
        refine ⟨⟨arr', e, .slice (some ⟨w.heap.size, 0, none⟩) len len, ?_, r2, fun ι' b hb => ?_⟩⟩
        · simp only [execOp, Instr.buildSlice, Sem.run_bind, r_und u1, Result.andThen_ok, r_size u2, u5, Sem.run_ite]
          rw [if_neg (by omega)]
          have hzero : (if len * esz = 0 then (Sem.run P (pure #[]) w : Result (Array Value)) else Sem.run P (do pure (← zeroValue e).cells) w) = .ok (if len * esz = 0 then #[] else zv.cells) w := by
            split
            · rfl
            · simp [r_zero u2 u3]
          simp only [Sem.run_pure, Result.andThen_ok]
          have e0 : ((Array.range (len * esz)).map fun i => (if len * esz = 0 then (#[] : Array Value) else zv.cells)[i % (if len * esz = 0 then (#[] : Array Value) else zv.cells).size]!) =
              (Array.range (len * z.length)).map fun i => zv.cells[i % zv.cells.size]! := by
            rw [u7]
            split
            · rename_i h0; rw [h0]; simp
            · rfl
          by_cases h0 : len * esz = 0
          · simp only [h0, if_true, Result.andThen_ok]
            rw [h0] at e0; simp only [if_true] at e0
            rw [e0, r1]
            simp [newRow]
            rfl
          · simp only [h0, if_false, Sem.run_bind, r_zero u2 u3, Result.andThen_ok, Sem.run_pure]
            simp only [h0, if_false] at e0
            rw [e0, r1]
            simp [newRow]
            rfl
        · exact ⟨Nat.le_refl _, ⟨w.heap.size, 0, none⟩, len, rfl, Nat.le_refl _, fun _ => ⟨w.heap.size, 0, arr'.size, 0, hb, rfl, by omega, fun _ => rfl⟩⟩
      · cases h
    · cases h
  case mkslice esz eb z l c =>
    cases op <;> simp only [ckF] at hc <;> try cases hc
    rename_i t l' c'
    simp only [Bool.and_eq_true] at hc
    obtain ⟨⟨hel, hl⟩, hcc⟩ := hc
    obtain ⟨e, i, zv, u1, u2, u3, u4, u5, u6, u7, u8⟩ := ckElz_spec hel
    have u8 := u8 eb rfl
    simp only [fresh] at h
    split at h
    · rename_i k1 n1 k2 n2 e1 e2
      split at h
      · rename_i hb
        obtain ⟨b1, b2, b3, b4⟩ := hb
        simp only [Option.some.injEq, Prod.mk.injEq] at h
        obtain ⟨rfl, rfl⟩ := h
        have g1 : a.eval l' = .int k1 n1 := opd_rel hf hl e1
        have g2 : a.eval c' = .int k2 n2 := opd_rel hf hcc e2
        have w1 : IntKind.i64.wrap n1 = n1 := by simp only [IntKind.wrap, IntKind.bits, IntKind.signed]; simp; omega
        have w2 : IntKind.i64.wrap n2 = n2 := by simp only [IntKind.wrap, IntKind.bits, IntKind.signed]; simp; omega
        have hr := zeros_rel (u4 ι) (by omega) n2.toNat
        rw [u7] at hr
        refine ⟨⟨_, e, .slice (some ⟨w.heap.size, 0, none⟩) n1.toNat n2.toNat, ?_, hr, fun ι' b hb => ?_⟩⟩
        · simp only [execOp, Instr.makeSlice, g1, g2, asInt, asIntOf, Sem.run_bind, r_und u1, Result.andThen_ok, Sem.run_pure, r_info u2, u8, w1, w2, Sem.run_ite, r_size u2, u5, run_askRoom]
          have ht : (decide (n2 < 0) || decide ((eb : Int) * n2 > 2 ^ 48)) = false := by
            have : (eb : Int) * n2 = n2 * eb := Int.mul_comm _ _
            simp; omega
          rw [ht]
          rw [if_neg (by simp; omega)]
          by_cases h0 : n2.toNat * esz = 0
          · simp only [h0, if_true, Result.andThen_ok, newRow, Sem.run_bind, run_newObj, Sem.run_pure]
            rw [map_range0 _ fun i => zv.cells[i % zv.cells.size]!]
            rfl
          · simp only [h0, if_false, Sem.run_bind, r_zero u2 u3, Result.andThen_ok, Sem.run_pure, newRow, run_newObj]
            rfl
        · exact ⟨by omega, ⟨w.heap.size, 0, none⟩, n2.toNat, rfl, Nat.le_refl _, fun _ => ⟨w.heap.size, 0, _, 0, hb, rfl, by simp, fun _ => rfl⟩⟩
      · cases h
    · cases h


/-- What an operation that writes comes to. -/
def Does (P : Program) (o : Oper) (a : Act) (w : World) (v : Value) (w' : World) : Prop :=
  (execOp a.eval o).run P w = .ok (.value v) w' ∨ ((execOp a.eval o).run P w = .ok .skip w' ∧ v = undef)

def ckApp (L : Lk) (P : Program) (esz eb : Nat) (x y : Opd) (c : Go.Call) : Bool :=
  match c.callee, c.args.toList, c.argTypes.toList with
  | .builtin .append, [x', y'], [t, u] => ckOpd L x x' && ckOpd L y y' && (match P.underlying t with
      | some (.slice e) => decide (0 < esz) && (P.info? e).any fun i => i.size == esz && i.bytes == eb && decide (0 < eb) && i.zero.any fun z => z.cells.size == esz
      | _ => false) && (match P.underlying u with
      | some (.slice _) => true
      | some .string => true
      | _ => false)
  | _, _, _ => false

def ckCpy (L : Lk) (P : Program) (esz : Nat) (x y : Opd) (c : Go.Call) : Bool :=
  match c.callee, c.args.toList, c.argTypes.toList with
  | .builtin .copy, [x', y'], t :: _ => ckOpd L x x' && ckOpd L y y' && (match P.underlying t with
      | some (.slice e) => (P.info? e).any fun i => i.size == esz
      | _ => false)
  | _, _, _ => false

/-- Operations that write. -/
def ckW (L : Lk) (P : Program) : AOp → Op → Bool
  | .store n x y, .store t x' y' => ckSize P t n && ckOpd L x x' && ckOpd L y y'
  | .append esz eb x y, .call c => ckApp L P esz eb x y c
  | .copy esz x y, .call c => ckCpy L P esz x y c
  | _, _ => false

def WS (L : Lk) (P : Program) (ι : Im) (H : Heap) (w : World) (fr : Fr) (a : Act) (p : AOp) (o : Oper) : Prop :=
  ∀ v H', ckW L P p o.op = true → step fr H p = some (v, H') → ∃ v' w' ι', Does P o a w v' w' ∧ Sim L ι' H' w' ∧ Ext ι H w ι' H' w' ∧ Rel L ι' v v'

theorem wr_spec {b o : Nat} {vs : List V} {H' : Heap} (h : wr H b o vs = some H') : ∃ l, H.get b = .cells l true ∧ o + vs.length ≤ l.length ∧ vs.all one = true ∧ H' = H.put b (.cells (over l o vs) true) := by
  unfold wr at h
  split at h
  · rename_i l hg
    split at h
    · rename_i hl
      split at h
      · rename_i ho; cases h; exact ⟨l, hg, hl, ho, rfl⟩
      · cases h
    · cases h
  · cases h

theorem ones_rel {vs : List V} {ws : List Value} (h : RelL L ι vs ws) (ho : vs.all one = true) : ∀ x ∈ ws, x.oneCell' = true := by
  intro x hx
  obtain ⟨i, hi⟩ := List.mem_iff_getElem?.1 hx
  have hlt : i < vs.length := by rw [h.length]; exact (List.getElem?_eq_some_iff.1 hi).1
  obtain ⟨y, h1, h2⟩ := h.get (List.getElem?_eq_getElem hlt)
  rw [hi] at h1; cases h1
  exact h2.one (List.all_eq_true.1 ho _ (List.getElem_mem hlt))

section
variable (hf : FrRel L ι fr a.tmps) (s : Sim L ι H w)
include hf s

/-- Cells written into a row that is there. -/
theorem run_wr {b o c p z : Nat} {vs : List V} {ws : List Value} {H' : Heap} (hb : ι b = some (c, p, z)) (h : wr H b o vs = some H') (hr : RelL L ι vs ws) :
    (storeCells ⟨c, p + o, none⟩ ws).run P w = .ok () (stW w c (p + o) ws) ∧ Sim L ι H' (stW w c (p + o) ws) ∧ Ext ι H w ι H' (stW w c (p + o) ws) := by
  obtain ⟨l, hg, hl, ho, rfl⟩ := wr_spec h
  obtain ⟨arr, ty, fz, e, e2, e3, e4, h5⟩ := s.row hb hg
  have hlen := hr.length
  exact ⟨run_storeCells c (p + o) ws w 0 e (e4 rfl) (by omega) (ones_rel hr ho), s.put hb hg hl hr⟩

theorem ws_store (n : Nat) (x y : Opd) (o : Oper) : WS L P ι H w fr a (.store n x y) o := by
  intro v H' hc h
  obtain ⟨d, op, ty, pos, af, g⟩ := o
  cases op <;> simp only [ckW] at hc <;> try cases hc
  rename_i t x' y'
  simp only [Bool.and_eq_true] at hc
  obtain ⟨⟨h1, hx⟩, hy⟩ := hc
  obtain ⟨hn, i, hi, hsz⟩ := ckSize_spec h1
  simp only [step] at h
  split at h
  · rename_i b q v0 e1 e2
    split at h
    · rename_i hvn
      simp only [Option.map_eq_some_iff] at h
      obtain ⟨H0, h2, h3⟩ := h; cases h3
      obtain ⟨c, p, z, g1, g2⟩ := opd_rel hf hx e1
      have hv := (opd_rel hf hy e2).cells (by omega)
      obtain ⟨r1, r2, r3⟩ := run_wr (P := P) hf s g1 h2 hv
      refine ⟨undef, _, ι, .inr ⟨?_, rfl⟩, r2, r3, trivial⟩
      have hvs : (a.eval y').cells.size = n := by rw [← Array.length_toList, ← hv.length, hvn]
      simp only [execOp, Instr.storeAt, g2, Instr.sureAddr, storeVar, Sem.run_bind, Sem.run_pure, Result.andThen_ok, r_size hi, hsz, hvs, ne_eq, not_true_eq_false, if_false, r1]
    · cases h
  · cases h

omit hf in
/-- A slice's, a string's first elements. -/
theorem firsts_sound {esz n : Nat} {y : V} {Y : Value} {cells : List V} (h : firsts H esz y = some (n, cells)) (hr : Rel L ι y Y) :
    (Builtin.lenOf Y).run P w = .ok n w ∧ cells.length = n * esz ∧ ∀ m, m ≤ n → ∃ arr : Array Value, (Builtin.firstCells esz m Y).run P w = .ok arr w ∧ RelL L ι (cells.take (m * esz)) arr.toList := by
  cases y <;> try (simp [firsts] at h; done)
  case str st =>
    cases hr
    simp only [firsts] at h
    split at h
    · rename_i he; subst he
      cases h
      refine ⟨rfl, by simp, fun m hm => ⟨(st.extract 0 m).data.map fun b => .int .u8 b.toNat, rfl, ?_⟩⟩
      refine RelL.of_get ?_ (fun i x hx => ?_)
      · simp
      · simp only [Nat.mul_one, List.getElem?_take, List.getElem?_map] at hx
        split at hx
        · rename_i him
          simp only [Option.map_eq_some_iff] at hx
          obtain ⟨u, h1, rfl⟩ := hx
          refine ⟨_, ?_, rfl⟩
          simp only [Array.toList_map, List.getElem?_map, Array.getElem?_toList, ByteArray.data_extract, Array.getElem?_extract]
          rw [Array.getElem?_toList] at h1
          have : st.data.size = st.size := rfl
          rw [if_pos (by omega), Nat.zero_add, h1]; rfl
        · cases hx
    · cases h
  case sl b len cap e =>
    cases b with
    | none =>
      obtain ⟨rfl, rfl, rfl⟩ := hr
      simp only [firsts] at h; cases h
      exact ⟨rfl, by simp, fun m hm => ⟨#[], rfl, by simp [RelL]⟩⟩
    | some bo =>
      obtain ⟨b, q⟩ := bo
      obtain ⟨hlc, A, cap', rfl, g3, gg⟩ := hr
      simp only [firsts] at h
      split at h
      · rename_i he; subst he
        split at h
        · rename_i l wr0 hg
          simp only [Option.map_eq_some_iff] at h
          obtain ⟨cs, hp, h2⟩ := h
          cases h2
          have hcl : cells.length = n * e := piece_length hp
          refine ⟨rfl, hcl, fun m hm => ?_⟩
          rcases Nat.eq_zero_or_pos cap' with hc0 | hc0
          · have hm0 : m = 0 := by omega
            subst hm0
            refine ⟨#[], ?_, by simp [RelL]⟩
            show (loadCells A (0 * e)).run P w = _
            rw [Nat.zero_mul]; rfl
          obtain ⟨c, p, z, r, g1, rfl, g4, g5⟩ := gg hc0
          obtain ⟨ws, k1, k2, k3⟩ := s.piece g1 hg hp
          have hmle : m * e ≤ n * e := Nat.mul_le_mul_right _ hm
          refine ⟨(ws.take (m * e)).toArray, ?_, by simpa using k1.take (m * e)⟩
          show (loadCells ⟨c, r, none⟩ (m * e)).run P w = _
          refine run_loadCells c r (m * e) _ (by simp; omega) (fun j v hj => ?_)
          have hj2 : j < m * e := by
            rcases Nat.lt_or_ge j (m * e) with h | h
            · exact h
            · rw [List.getElem?_take, if_neg (by omega)] at hj; cases hj
          rw [List.getElem?_take, if_pos hj2] at hj
          have hpos : 0 < cap := by
            rcases Nat.eq_zero_or_pos n with h0 | h0
            · subst h0; simp at hmle; omega
            · omega
          rw [g5 hpos]
          exact k3 j v hj
        · split at h
          · rename_i h0
            cases h
            refine ⟨rfl, by simp [h0], fun m hm => ⟨#[], ?_, by simp [RelL]⟩⟩
            have hmle : m * e ≤ n * e := Nat.mul_le_mul_right _ hm
            have : m * e = 0 := by omega
            show (loadCells A (m * e)).run P w = _
            rw [this]; rfl
          · cases h
      · cases h

omit hf s in
theorem growBy_le {N : Nat} : ∀ (r c : Nat), Builtin.growBy N r c ≤ max c (N + (N + 768) / 4)
  | 0, c => by unfold Builtin.growBy; omega
  | r + 1, c => by
    unfold Builtin.growBy
    split
    · omega
    · have := growBy_le (N := N) r (c + (c + 768) / 4); omega

omit hf s in
theorem nextcap_le {need cap : Nat} (h : cap < need) : Builtin.nextslicecap need cap ≤ 2 * need + 1024 := by
  unfold Builtin.nextslicecap
  split
  · omega
  · split
    · omega
    · have := growBy_le (N := need) 4 cap; omega

omit hf s in
theorem run_append {t u e : TypeId} {ud : TypeDesc} {i : TypeInfo} {zv : Value} {esz eb len cap' n ty : Nat} {base : Option Addr} {Y : Value} (u1 : P.underlying t = some (.slice e)) (u2 : P.info? e = some i)
    (u3 : i.zero = some zv) (u5 : i.size = esz) (u7 : i.bytes = eb) (ub : 0 < eb) (uu : P.underlying u = some ud) (uz : (∃ e', ud = .slice e') ∨ ud = .string) (l1 : (Builtin.lenOf Y).run P w = .ok n w)
    (hg : ¬ len + n ≤ cap' → Builtin.nextslicecap (len + n) cap' * eb ≤ 2 ^ 48) :
    (Builtin.append_ #[t, u] ty #[.slice base len cap', Y]).run P w =
      if len + n ≤ cap' then
        ((Builtin.firstCells esz n Y).run P w).andThen fun new w1 => ((match base with | some a => storeCells (a.add (len * esz)) new.toList | none => pure () : Sem Unit).run P w1).andThen fun _ w2 => .ok (.slice base (len + n) cap') w2
      else
        let nc := (Question.appendCap (len + n) cap' e).cut (w.tape w.drawn (Question.appendCap (len + n) cap' e))
        ((Builtin.firstCells esz len (.slice base len cap')).run P { w with drawn := w.drawn + 1 }).andThen fun old w1 => ((Builtin.firstCells esz n Y).run P w1).andThen fun new w2 =>
          .ok (.slice (some ⟨w2.heap.size, 0, none⟩) (len + n) nc) (pushW w2 (old ++ new ++ Builtin.zeroCells zv.cells (nc - (len + n))) e) := by
  have hz : (match ud with | .int _ => true | _ => false) = false := by rcases uz with ⟨e', rfl⟩ | rfl <;> rfl
  unfold Builtin.append_
  rcases uz with ⟨e', rfl⟩ | rfl
  all_goals
    simp only [List.getElem?_toArray, List.getElem?_cons_zero, List.getElem?_cons_succ, Sem.run_bind, r_und u1, Result.andThen_ok, r_size u2, u5, r_und uu, Sem.run_pure, Bool.false_eq_true, if_false, l1, Sem.run_ite]
    split
    · cases base <;> simp
    · rename_i hnc
      have h2 := hg hnc
      simp [r_info u2, u7, Nat.ne_of_gt ub, h2, Nat.not_lt.2 h2, r_zero u2 u3, Question.forced, newRow, pushW]

theorem ws_append (esz eb : Nat) (x y : Opd) (o : Oper) : WS L P ι H w fr a (.append esz eb x y) o := by
  intro v H' hc h
  obtain ⟨d, op, ty, pos, af, g⟩ := o
  cases op <;> simp only [ckW] at hc <;> try cases hc
  rename_i cl
  obtain ⟨cle, args, argTypes⟩ := cl
  unfold ckApp at hc
  dsimp only at hc
  split at hc
  · rename_i x' y' t u ha ht
    have ea : args = #[x', y'] := by cases args; simp_all
    have et : argTypes = #[t, u] := by cases argTypes; simp_all
    subst ea et
    simp only [Bool.and_eq_true] at hc
    obtain ⟨⟨⟨hx, hy⟩, hel⟩, hu⟩ := hc
    obtain ⟨e, i, zv, u1, u2, u3, u4, u5, u6, u7⟩ : ∃ e i zv, P.underlying t = some (.slice e) ∧ P.info? e = some i ∧ i.zero = some zv ∧ zv.cells.size = esz ∧ i.size = esz ∧ 0 < esz ∧ i.bytes = eb ∧ 0 < eb := by
      split at hel
      · rename_i e he
        simp only [Bool.and_eq_true, decide_eq_true_eq, Option.any_eq_true, beq_iff_eq] at hel
        obtain ⟨h1, i, h2, ⟨⟨h3, h4⟩, h5⟩, zv, h6, h7⟩ := hel
        exact ⟨e, i, zv, he, h2, h6, h7, h3, h1, h4, h5⟩
      · cases hel
    obtain ⟨ud, uu, uz⟩ : ∃ ud, P.underlying u = some ud ∧ ((∃ e', ud = .slice e') ∨ ud = .string) := by
      split at hu
      · rename_i e' he; exact ⟨_, he, .inl ⟨e', rfl⟩⟩
      · rename_i he; exact ⟨_, he, .inr rfl⟩
      · cases hu
    simp only [step] at h
    split at h
    · rename_i X Y e1 e2
      have hX := opd_rel hf hx e1
      have hY := opd_rel hf hy e2
      unfold app at h
      split at h
      · rename_i b len cap ez n new hfs
        obtain ⟨l1, l2, l3⟩ := firsts_sound (P := P) s hfs hY
        obtain ⟨arr, l4, l5⟩ := l3 n (Nat.le_refl _)
        rw [← l2, List.take_length] at l5
        have l6 := l5.length
        have fin : ∀ {base : Option Addr} {cap' : Nat} {v' : Value} {w' : World}, a.eval x' = .slice base len cap' → (Builtin.append_ #[t, u] ty #[.slice base len cap', a.eval y']).run P w = .ok v' w' →
            Does P ⟨d, .call ⟨.builtin .append, #[x', y'], #[t, u]⟩, ty, pos, af, g⟩ a w v' w' := by
          intro base cap' v' w' hX' hrun
          refine .inl ?_
          rw [← hX'] at hrun
          simp only [execOp, resolve, Sem.run_bind, Sem.run_pure, Result.andThen_ok, invoke, builtin, List.map_toArray, List.map_cons, List.map_nil, hrun]
        split at h
        · cases h
        · rename_i hez
          split at h
          · rename_i hones
            split at h
            · rename_i hfit
              -- there is room, by what is known
              cases b with
              | none =>
                obtain ⟨rfl, rfl, ex⟩ := hX
                cases h
                obtain rfl : n = 0 := by omega
                refine ⟨.slice none 0 0, w, ι, fin ex ?_, s, Ext.refl _ _ _, rfl, rfl, rfl⟩
                rw [run_append u1 u2 u3 u5 u7.1 u7.2 uu uz l1 (fun hc => absurd (Nat.le_refl 0) hc), if_pos (Nat.le_refl _), l4]
                rfl
              | some bo =>
                obtain ⟨b, q⟩ := bo
                have hez' : ez = esz := by simpa using hez
                subst hez'
                obtain ⟨hlc, A, cap', ex, g3, gg⟩ := hX
                have hcap : len + n ≤ cap' := by omega
                have hfin := run_append (P := P) (w := w) (ty := ty) (base := some A) (len := len) (cap' := cap') (n := n) (Y := a.eval y') u1 u2 u3 u5 u7.1 u7.2 uu uz l1 (fun hc => absurd hcap hc)
                rw [if_pos hcap, l4] at hfin
                simp only [Result.andThen_ok] at hfin
                dsimp only at h
                split at h
                · rename_i hemp
                  cases h
                  have hnil : new = [] := by simpa using hemp
                  subst hnil
                  have harr : arr.toList = [] := l5
                  rw [harr] at hfin
                  refine ⟨_, w, ι, fin ex hfin, s, Ext.refl _ _ _, by omega, A, cap', rfl, g3, gg⟩
                · rename_i hemp
                  simp only [Option.map_eq_some_iff] at h
                  obtain ⟨H0, h2, h3⟩ := h; cases h3
                  have hnpos : 0 < n := by
                    rcases Nat.eq_zero_or_pos n with h0 | h0
                    · subst h0; simp at l2; subst l2; simp at hemp
                    · exact h0
                  obtain ⟨c, p, z, r, g1, rfl, g4, g5⟩ := gg (by omega)
                  have hr := g5 (by omega)
                  simp only [add_at] at hfin
                  obtain ⟨r1, r2, r3⟩ := run_wr (P := P) hf s g1 h2 l5
                  rw [show r + len * ez = p + (q + len * ez) by omega, r1] at hfin
                  exact ⟨_, _, ι, fin ex hfin, r2, r3, by omega, _, cap', rfl, g3, gg⟩
            · rename_i hfit
              split at h
              · rename_i hgrow
                cases b with
                | none =>
                  obtain ⟨rfl, rfl, ex⟩ := hX
                  dsimp only at h
                  split at h
                  · cases h
                    have hnc : ¬ 0 + n ≤ 0 := by omega
                    have hfin := run_append (P := P) (w := w) (ty := ty) (base := none) (len := 0) (cap' := 0) (n := n) (Y := a.eval y') u1 u2 u3 u5 u7.1 u7.2 uu uz l1 (fun _ => by
                      simp only [growOk, decide_eq_true_eq] at hgrow
                      have : Builtin.nextslicecap (0 + n) 0 = 0 + n := by unfold Builtin.nextslicecap; rw [if_pos (by omega)]
                      rw [this]; exact hgrow)
                    rw [if_neg hnc] at hfin
                    simp only [Nat.zero_add] at hfin
                    have sD : Sim L ι H { w with drawn := w.drawn + 1 } := ⟨s.dn, s.nx, s.lt, s.ok, s.inj⟩
                    obtain ⟨_, _, l3'⟩ := firsts_sound (P := P) sD hfs hY
                    obtain ⟨arr2, k4, k5⟩ := l3' n (Nat.le_refl _)
                    rw [← l2, List.take_length] at k5
                    rw [show (Builtin.firstCells esz 0 (.slice none 0 0)).run P { w with drawn := w.drawn + 1 } = .ok #[] { w with drawn := w.drawn + 1 } from rfl] at hfin
                    simp only [Result.andThen_ok] at hfin
                    rw [k4] at hfin
                    obtain ⟨s2, x2⟩ := sD.fresh (l := new) (arr := (#[] ++ arr2 ++ Builtin.zeroCells zv.cells ((Question.appendCap n 0 e).cut (w.tape w.drawn (Question.appendCap n 0 e)) - n))) e
                      (by have := k5.length; simp at this ⊢; omega) (fun i0 v0 hv0 => by
                        obtain ⟨v', q1, q2⟩ := k5.get hv0
                        refine ⟨v', ?_, q2⟩
                        have hlt : i0 < arr2.size := by rw [← Array.length_toList]; exact (List.getElem?_eq_some_iff.1 q1).1
                        rw [Array.getElem?_append_left (by simp; omega), Array.getElem?_append_right (by simp)]
                        simpa using q1)
                    refine ⟨_, _, _, fin ex hfin, s2, ⟨x2.le, x2.hs, x2.hn, x2.ro, x2.new, x2.kept, x2.dom, x2.os, x2.tape, x2.output⟩, Nat.le_refl _, ?_⟩
                    refine ⟨_, _, rfl, ?_, fun _ => ⟨w.heap.size, 0, _, 0, by unfold Ab.upd; rw [if_pos rfl], rfl, ?_, fun _ => rfl⟩⟩
                    · simp only [Question.cut]; omega
                    · have h1 := k5.length
                      have hcut : n ≤ (Question.appendCap n 0 e).cut (w.tape w.drawn (Question.appendCap n 0 e)) := by simp only [Question.cut]; omega
                      simp only [Array.size_append, Builtin.zeroCells, Array.size_map, Array.size_range, u4]
                      have h1' : arr2.size = n * esz := by rw [← Array.length_toList, ← k5.length, l2]
                      rw [h1', Nat.sub_mul]
                      have := Nat.mul_le_mul_right esz hcut
                      simp; omega
                  · cases h
                | some bo =>
                  obtain ⟨b, q⟩ := bo
                  have hez' : ez = esz := by simpa using hez
                  subst hez'
                  obtain ⟨hlc, A, cap', ex, g3, gg⟩ := hX
                  dsimp only at h
                  split at h
                  · rename_i l hg
                    split at h
                    · rename_i old hp
                      cases h
                      have hol := piece_length hp
                      by_cases hcap : len + n ≤ cap'
                      · -- it grows where it stands
                        obtain ⟨c, p, z, r, g1, rfl, g4, g5⟩ := gg (by omega)
                        have hfin := run_append (P := P) (w := w) (ty := ty) (base := some ⟨c, r, none⟩) (len := len) (cap' := cap') (n := n) (Y := a.eval y') u1 u2 u3 u5 u7.1 u7.2 uu uz l1 (fun hc => absurd hcap hc)
                        rw [if_pos hcap, l4] at hfin
                        simp only [Result.andThen_ok, add_at] at hfin
                        obtain ⟨ar, ty', fz, e1', e2', e3', e4', h5'⟩ := s.row g1 hg
                        have hroom : (len + n) * ez ≤ cap' * ez := Nat.mul_le_mul_right _ hcap
                        rw [Nat.add_mul] at hroom
                        have hst := run_storeCells (P := P) c (r + len * ez) arr.toList w 0 e1' (e4' rfl) (by rw [← l6]; omega) (ones_rel l5 hones)
                        rw [hst] at hfin
                        obtain ⟨s2, x2⟩ := s.grow (n := len * ez) (q := r) (new := new) (ws := arr.toList) g1 hg hp (fun hpos => g5 (by
                          rcases Nat.eq_zero_or_pos cap with h0 | h0
                          · subst h0; simp at hlc; subst hlc; simp at hpos
                          · exact h0)) (by omega) l5
                        refine ⟨_, _, _, fin ex hfin, s2, x2, Nat.le_refl _, _, cap', rfl, hcap, fun _ => ⟨c, r, z, r, by unfold Ab.upd; rw [if_pos rfl], rfl, g4, fun _ => rfl⟩⟩
                      · have hfin := run_append (P := P) (w := w) (ty := ty) (base := some A) (len := len) (cap' := cap') (n := n) (Y := a.eval y') u1 u2 u3 u5 u7.1 u7.2 uu uz l1 (fun hc => by
                          simp only [growOk, decide_eq_true_eq] at hgrow
                          have := nextcap_le (need := len + n) (cap := cap') (by omega)
                          exact Nat.le_trans (Nat.mul_le_mul_right _ this) hgrow)
                        rw [if_neg hcap] at hfin
                        have sD : Sim L ι H { w with drawn := w.drawn + 1 } := ⟨s.dn, s.nx, s.lt, s.ok, s.inj⟩
                        obtain ⟨_, _, l3'⟩ := firsts_sound (P := P) sD hfs hY
                        obtain ⟨arr2, k4, k5⟩ := l3' n (Nat.le_refl _)
                        rw [← l2, List.take_length] at k5
                        have hws : ∃ ws : List Value, RelL L ι old ws ∧ ws.length = len * ez ∧ (0 < cap' → ∃ c r, A = ⟨c, r, none⟩ ∧ ∀ (j : Nat) (v : Value), ws[j]? = some v → (({ w with drawn := w.drawn + 1 } : World)).cell? ⟨c, r + j, none⟩ = some v) := by
                          rcases Nat.eq_zero_or_pos cap' with hc0 | hc0
                          · have hl0 : len = 0 := by omega
                            subst hl0
                            have : old = [] := List.eq_nil_of_length_eq_zero (by simpa using hol)
                            subst this
                            exact ⟨[], rfl, by simp, fun h => by omega⟩
                          · obtain ⟨c, p, z, r, g1, rfl, g4, g5⟩ := gg hc0
                            obtain ⟨ws, j1, j2, j3⟩ := sD.piece g1 hg hp
                            refine ⟨ws, j1, j2, fun _ => ⟨c, r, rfl, fun j v hj => ?_⟩⟩
                            have hj2 : j < len * ez := by rw [← j2]; exact (List.getElem?_eq_some_iff.1 hj).1
                            have hpos : 0 < cap := by
                              rcases Nat.eq_zero_or_pos len with h0 | h0
                              · subst h0; simp at hj2
                              · omega
                            rw [g5 hpos]; exact j3 j v hj
                        obtain ⟨ws, j1, j2, j3⟩ := hws
                        have hold : (Builtin.firstCells ez len (.slice (some A) len cap')).run P { w with drawn := w.drawn + 1 } = .ok ws.toArray { w with drawn := w.drawn + 1 } := by
                          rcases Nat.eq_zero_or_pos cap' with hc0 | hc0
                          · have hl0 : len = 0 := by omega
                            subst hl0
                            have : ws = [] := List.eq_nil_of_length_eq_zero (by simpa using j2)
                            subst this
                            show (loadCells A (0 * ez)).run P _ = _
                            rw [Nat.zero_mul]; rfl
                          obtain ⟨c, r, rfl, j4⟩ := j3 hc0
                          show (loadCells ⟨c, r, none⟩ (len * ez)).run P _ = _
                          exact run_loadCells c r (len * ez) ws j2 j4
                        rw [hold] at hfin
                        simp only [Result.andThen_ok] at hfin
                        rw [k4] at hfin
                        obtain ⟨sK, xK⟩ := sD.kill hg
                        have hcells : RelL L ι (old ++ new) (ws ++ arr2.toList) := j1.append k5
                        obtain ⟨s2, x2⟩ := sK.fresh (l := old ++ new) (arr := (ws.toArray ++ arr2 ++ Builtin.zeroCells zv.cells ((Question.appendCap (len + n) cap' e).cut (w.tape w.drawn (Question.appendCap (len + n) cap' e)) - (len + n)))) e
                          (by have := hcells.length; simp at this ⊢; omega) (fun i0 v0 hv0 => by
                            obtain ⟨v', q1, q2⟩ := hcells.get hv0
                            refine ⟨v', ?_, q2⟩
                            have hlt : i0 < (ws ++ arr2.toList).length := (List.getElem?_eq_some_iff.1 q1).1
                            rw [Array.getElem?_append_left (by simp at hlt ⊢; omega), ← Array.getElem?_toList]
                            simpa using q1)
                        have x3 := xK.trans sD sK x2
                        refine ⟨_, _, _, fin ex hfin, s2, ⟨x3.le, x3.hs, x3.hn, x3.ro, x3.new, x3.kept, x3.dom, x3.os, x3.tape, x3.output⟩, Nat.le_refl _, ?_⟩
                        refine ⟨_, _, rfl, ?_, fun _ => ⟨w.heap.size, 0, _, 0, by unfold Ab.upd; exact if_pos rfl, rfl, ?_, fun _ => rfl⟩⟩
                        · simp only [Question.cut]; omega
                        · have h1 := k5.length
                          have hcut : len + n ≤ (Question.appendCap (len + n) cap' e).cut (w.tape w.drawn (Question.appendCap (len + n) cap' e)) := by simp only [Question.cut]; omega
                          simp only [Array.size_append, Builtin.zeroCells, Array.size_map, Array.size_range, u4]
                          have h1' : arr2.size = n * ez := by rw [← Array.length_toList, ← k5.length, l2]
                          rw [h1', Nat.sub_mul, Nat.add_mul]
                          have := Nat.mul_le_mul_right ez hcut
                          rw [Nat.add_mul] at this
                          simp [j2]; omega
                    · cases h
                  · cases h
              · cases h
          · cases h
      · cases h
    · cases h
  · cases hc

theorem ws_copy (esz : Nat) (x y : Opd) (o : Oper) : WS L P ι H w fr a (.copy esz x y) o := by
  intro v H' hc h
  obtain ⟨d, op, ty, pos, af, g⟩ := o
  cases op <;> simp only [ckW] at hc <;> try cases hc
  rename_i cl
  obtain ⟨cle, args, argTypes⟩ := cl
  unfold ckCpy at hc
  dsimp only at hc
  split at hc
  · rename_i x' y' t rt ha ht
    have ea : args = #[x', y'] := by cases args; simp_all
    obtain ⟨ats, et⟩ : ∃ l, argTypes = (t :: l).toArray := ⟨rt, by rw [← ht]⟩
    subst ea et
    simp only [Bool.and_eq_true] at hc
    obtain ⟨⟨hx, hy⟩, hel⟩ := hc
    obtain ⟨e, i, u1, u2, u5⟩ : ∃ e i, P.underlying t = some (.slice e) ∧ P.info? e = some i ∧ i.size = esz := by
      split at hel
      · rename_i e he
        simp only [Option.any_eq_true, beq_iff_eq] at hel
        obtain ⟨i, h2, h3⟩ := hel
        exact ⟨e, i, he, h2, h3⟩
      · cases hel
    simp only [step] at h
    split at h
    · rename_i X Y e1 e2
      have hX := opd_rel hf hx e1
      have hY := opd_rel hf hy e2
      unfold cpy at h
      split at h
      · rename_i b dlen cap ez n new hfs
        obtain ⟨l1, l2, l3⟩ := firsts_sound (P := P) s hfs hY
        have fin : ∀ {base : Option Addr} {cap' : Nat} {v' : Value} {w' : World}, a.eval x' = .slice base dlen cap' → (Builtin.copy_ (t :: ats).toArray ty #[.slice base dlen cap', a.eval y']).run P w = .ok v' w' →
            Does P ⟨d, .call ⟨.builtin .copy, #[x', y'], (t :: ats).toArray⟩, ty, pos, af, g⟩ a w v' w' := by
          intro base cap' v' w' hX' hrun
          refine .inl ?_
          rw [← hX'] at hrun
          simp only [execOp, resolve, Sem.run_bind, Sem.run_pure, Result.andThen_ok, invoke, builtin, List.map_toArray, List.map_cons, List.map_nil, hrun]
        obtain ⟨arr, l4, l5⟩ := l3 (min n dlen) (Nat.min_le_left _ _)
        have hrun : ∀ (base : Option Addr) (cap' : Nat), (Builtin.copy_ (t :: ats).toArray ty #[.slice base dlen cap', a.eval y']).run P w =
            ((match base with | some a => storeCells a arr.toList | none => pure () : Sem Unit).run P w).andThen fun _ w2 => .ok (goInt (min n dlen : Nat)) w2 := by
          intro base cap'
          unfold Builtin.copy_
          have hmin : Nat.min n dlen = min n dlen := rfl
          simp only [List.getElem?_toArray, List.getElem?_cons_zero, List.getElem?_cons_succ, Sem.run_bind, r_und u1, Result.andThen_ok, l1, r_size u2, u5, hmin, l4]
          cases base <;> simp
        split at h
        · cases h
        · rename_i hez
          cases b with
          | none =>
            obtain ⟨rfl, rfl, ex⟩ := hX
            cases h
            have := hrun none 0
            simp only [Nat.min_zero] at this
            exact ⟨.int .i64 0, w, ι, fin ex this, s, Ext.refl _ _ _, rfl⟩
          | some bo =>
            obtain ⟨b, q⟩ := bo
            have hez' : ez = esz := by simpa using hez
            subst hez'
            obtain ⟨hlc, A, cap', ex, g3, gg⟩ := hX
            have hr := hrun (some A) cap'
            dsimp only at h
            split at h
            · rename_i h0
              cases h
              rw [h0] at l5
              have harr : arr.toList = [] := by simpa [RelL] using l5
              rw [harr] at hr
              exact ⟨_, w, ι, fin ex hr, s, Ext.refl _ _ _, rfl⟩
            · rename_i h0
              simp only [Option.map_eq_some_iff] at h
              obtain ⟨H0, h2, h3⟩ := h; cases h3
              have hd : 0 < dlen := by
                rcases Nat.eq_zero_or_pos dlen with hz | hz
                · subst hz; simp at h0
                · exact hz
              obtain ⟨c, p, z, r, g1, rfl, g4, g5⟩ := gg (by omega)
              obtain ⟨r1, r2, r3⟩ := run_wr (P := P) hf s g1 h2 l5
              rw [g5 (by omega)] at hr
              simp only [r1] at hr
              rw [g5 (by omega)] at ex
              exact ⟨_, _, ι, fin ex hr, r2, r3, rfl⟩
      · cases h
    · cases h
  · cases hc

theorem write_sound (p : AOp) (o : Oper) : WS L P ι H w fr a p o := by
  cases p
  case store n x y => exact ws_store hf s n x y o
  case append esz eb x y => exact ws_append hf s esz eb x y o
  case copy esz x y => exact ws_copy hf s esz x y o
  all_goals (intro v H' hc h; simp [ckW] at hc)

/-- Which operation of the model it is, whatever it does (calls apart). -/
def ckS (L : Lk) (P : Program) (p : AOp) (o : Op) : Bool := ckQ L P p o || ckF L P p o || ckW L P p o

omit hf s in
theorem step_fresh {p : AOp} {o : Op} (hc : ckF L P p o = true) {v : V} {H' : Heap} (h : step fr H p = some (v, H')) : ∃ cs mk, fresh fr p = some (cs, mk) ∧ v = mk H.next ∧ H' = H.new (.cells cs true) := by
  cases p <;> try (simp [ckF] at hc; done)
  all_goals
    simp only [step] at h
    split at h
    · rename_i cs mk hfr
      cases h
      exact ⟨cs, mk, hfr, rfl, rfl⟩
    · cases h

/-- What a step comes to. -/
theorem step_sound {p : AOp} {o : Oper} {v : V} {H' : Heap} (hc : ckS L P p o.op = true) (h : step fr H p = some (v, H')) : ∃ v' w' ι', Does P o a w v' w' ∧ Sim L ι' H' w' ∧ Ext ι H w ι' H' w' ∧ Rel L ι' v v' := by
  simp only [ckS, Bool.or_eq_true] at hc
  rcases hc with (hc | hc) | hc
  · obtain ⟨rfl, v', h1, h2⟩ := quiet_sound (P := P) hf s p o v H' hc h
    exact ⟨v', w, ι, .inl h1, s, Ext.refl _ _ _, h2⟩
  · obtain ⟨cs, mk, h1, rfl, rfl⟩ := step_fresh hc h
    obtain ⟨arr, ty, v', r1, r2, r3⟩ := (fresh_sound (ι := ι) (w := w) hf hc h1).ex
    obtain ⟨s2, x2⟩ := s.fresh (l := cs) (arr := arr) ty (by rw [r2.length, Array.length_toList]; exact Nat.le_refl _) (fun i v hv => by
      obtain ⟨v', q1, q2⟩ := r2.get hv
      exact ⟨v', by rw [Array.getElem?_toList] at q1; exact q1, q2⟩)
    exact ⟨v', _, _, .inl r1, s2, x2, r3 _ _ (by unfold Ab.upd; exact if_pos rfl)⟩
  · exact write_sound hf s p o v H' hc h

end

end Go.Ab
