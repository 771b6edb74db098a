/- Each operation that computes or reads, against the model's. Conditions: none. -/
import Derived.Test.YtfgecfbknpifjaaK1
set_option linter.all false
namespace Go.Ab
variable {L : Lk} {ι : Im} {H : Heap} {w : World} {P : Program} {fr : Fr} {a : Act}

/-- What is shown of each. -/
def QS (L : Lk) (P : Program) (ι : Im) (H : Heap) (w : World) (fr : Fr) (a : Act) (p : AOp) (o : Oper) : Prop :=
  ∀ v H', ckQ L P p o.op = true → step fr H p = some (v, H') → H' = H ∧ ∃ v', Yld P o a w v' ∧ Rel L ι v v'

section
variable (hf : FrRel L ι fr a.tmps) (s : Sim L ι H w)
include hf

theorem qs_mv (x : Opd) (o : Oper) : QS L P ι H w fr a (.mv x) o := by
  intro v H' hc h
  obtain ⟨d, op, ty, pos, af, g⟩ := o
  simp only [step, Option.map_eq_some_iff] at h
  obtain ⟨u, h1, h2⟩ := h; cases h2
  cases op <;> simp only [ckQ] at hc <;> first | cases hc | exact ⟨rfl, _, rfl, opd_rel hf hc h1⟩

theorem qs_pick (c x y : Opd) (o : Oper) : QS L P ι H w fr a (.pick c x y) o := by
  intro v H' hc h
  obtain ⟨d, op, ty, pos, af, g⟩ := o
  cases op <;> simp only [ckQ] at hc <;> try cases hc
  rename_i c' x' y'
  simp only [Bool.and_eq_true] at hc
  simp only [step] at h
  split at h
  · rename_i t ht
    simp only [Option.map_eq_some_iff] at h
    obtain ⟨u, h1, h2⟩ := h; cases h2
    have hb := opd_rel hf hc.1.1 ht
    refine ⟨rfl, if t then a.eval x' else a.eval y', ?_, ?_⟩
    · show (Sem.run P _ w) = _
      simp only [execOp, show a.eval c' = .bool t from hb, asBool]
      cases t <;> rfl
    · cases t
      · exact opd_rel hf hc.2 h1
      · exact opd_rel hf hc.1.2 h1
  · cases h

theorem qs_bin (b : BinOp) (k : BK) (x y : Opd) (o : Oper) : QS L P ι H w fr a (.bin b k x y) o := by
  intro v H' hc h
  obtain ⟨d, op, ty, pos, af, g⟩ := o
  cases op <;> simp only [ckQ] at hc <;> try cases hc
  rename_i b' t x' y' yt
  simp only [Bool.and_eq_true, decide_eq_true_eq] at hc
  obtain ⟨⟨⟨rfl, hk⟩, hx⟩, hy⟩ := hc
  simp only [step] at h
  split at h
  · rename_i u1 u2 e1 e2
    simp only [Option.map_eq_some_iff] at h
    obtain ⟨u, h1, h2⟩ := h; cases h2
    obtain ⟨v', r1, r2⟩ := bin_sound (P := P) (w := w) (X := x') (Y := y') hk h1 (opd_rel hf hx e1) (opd_rel hf hy e2)
    refine ⟨rfl, v', ?_, r2⟩
    show (Sem.run P _ w) = _
    simp only [execOp, Sem.run_bind] at r1 ⊢
    rw [r1]; rfl
  · cases h

theorem qs_un (b : UnOp) (x : Opd) (o : Oper) : QS L P ι H w fr a (.un b x) o := by
  intro v H' hc h
  obtain ⟨d, op, ty, pos, af, g⟩ := o
  cases op <;> simp only [ckQ] at hc <;> try cases hc
  simp only [Bool.and_eq_true, decide_eq_true_eq] at hc
  obtain ⟨rfl, hx⟩ := hc
  simp only [step] at h
  split at h
  · rename_i u1 e1
    simp only [Option.map_eq_some_iff] at h
    obtain ⟨u, h1, h2⟩ := h; cases h2
    obtain ⟨v', r1, r2⟩ := unop_sound (P := P) (w := w) h1 (opd_rel hf hx e1)
    exact ⟨rfl, v', by show (Sem.run P _ w) = _; simp only [execOp, Sem.run_bind, r1]; rfl, r2⟩
  · cases h

theorem qs_conv (k : IntKind) (x : Opd) (o : Oper) : QS L P ι H w fr a (.conv k x) o := by
  intro v H' hc h
  obtain ⟨d, op, ty, pos, af, g⟩ := o
  cases op <;> simp only [ckQ] at hc <;> try cases hc
  rename_i src dst x'
  obtain ⟨hc, hx⟩ := and2 hc
  simp only [step] at h
  split at h
  · rename_i k0 n e1
    cases h
    split at hc
    · rename_i k1 k2 hs hd
      simp only [decide_eq_true_eq] at hc; subst hc
      refine ⟨rfl, _, ?_, rfl⟩
      show (Sem.run P _ w) = _
      have e : a.eval x' = .int k0 n := opd_rel hf hx e1
      simp only [execOp, convert, e, Sem.run_bind, r_und hs, r_und hd, Result.andThen_ok]
      rfl
    · cases hc
  · cases h

theorem qs_fad (off : Nat) (x : Opd) (o : Oper) : QS L P ι H w fr a (.fad off x) o := by
  intro v H' hc h
  obtain ⟨d, op, ty, pos, af, g⟩ := o
  cases op <;> simp only [ckQ] at hc <;> try cases hc
  rename_i st x' f
  obtain ⟨hc, hx⟩ := and2 hc
  simp only [step] at h
  split at h
  · rename_i b q e1
    cases h
    split at hc
    · rename_i fs hs
      simp only [Option.any_eq_true, Bool.and_eq_true, beq_iff_eq, bne_iff_ne] at hc
      obtain ⟨fl, h1, h2, i, h3, h4⟩ := hc
      obtain ⟨c, p, z, e, e2⟩ := opd_rel hf hx e1
      refine ⟨rfl, .pointer (some ⟨c, p + q + off, none⟩), ?_, c, p, z, e, by rw [Nat.add_assoc]⟩
      show (Sem.run P _ w) = _
      simp only [execOp, Instr.fieldAt, e2, Instr.sureAddr, Sem.run_bind, r_und hs, Result.andThen_ok, h1, fieldPlace, r_size h3, Sem.run_pure, Sem.run_ite, h4, if_false, h2, add_at]
    · cases hc
  · cases h

theorem qs_fld (off : Nat) (n : Option Nat) (x : Opd) (o : Oper) : QS L P ι H w fr a (.fld off n x) o := by
  intro v H' hc h
  obtain ⟨d, op, ty, pos, af, g⟩ := o
  cases op <;> simp only [ckQ] at hc <;> try cases hc
  rename_i st x' f
  obtain ⟨hc, hx⟩ := and2 hc
  simp only [step] at h
  split at h
  · rename_i cs e1
    split at hc
    · rename_i fs hs
      simp only [Option.any_eq_true, Bool.and_eq_true, beq_iff_eq] at hc
      obtain ⟨fl, h1, h2, h3⟩ := hc
      obtain ⟨vs, e2, hr⟩ := opd_rel hf hx e1
      simp only [Option.map_eq_some_iff] at h
      obtain ⟨u, k1, k2⟩ := h; cases k2
      obtain ⟨v', r1, r2⟩ := part_sound (P := P) (w := w) h3 hr k1
      refine ⟨rfl, v', ?_, r2⟩
      show (Sem.run P _ w) = _
      simp only [execOp, Instr.field, e2, asAgg, Sem.run_bind, r_und hs, Result.andThen_ok, h1, Sem.run_pure, h2, r1]
    · cases hc
  · cases h

omit hf in
theorem int_bounds {j : Int} {n : Nat} (h : 0 ≤ j ∧ j < n) : 0 ≤ j ∧ j < (n : Int) := h

theorem qs_iad (arr : Option Nat) (esz : Nat) (x i : Opd) (o : Oper) : QS L P ι H w fr a (.iad arr esz x i) o := by
  intro v H' hc h
  obtain ⟨d, op, ty, pos, af, g⟩ := o
  cases arr with
  | none =>
    cases op <;> simp only [ckQ] at hc <;> try cases hc
    rename_i t x' i'
    obtain ⟨hc, hi⟩ := and2 hc
    obtain ⟨hc, hx⟩ := and2 hc
    obtain ⟨e, inf, hu, hinf, hsz⟩ := ckEl_spec hc
    simp only [step] at h
    split at h
    · rename_i b q k j e1 e2; cases h
    · rename_i b q len cap ez k j e1 e2
      split at h
      · rename_i hez; subst hez
        split at h
        · rename_i hj
          cases h
          obtain ⟨hl, A, cap', g2, g3, gg⟩ := opd_rel hf hx e1
          obtain ⟨c, p, z, r, g1, rfl, g4, g5⟩ := gg (by omega)
          have hj' : a.eval i' = .int k j := opd_rel hf hi e2
          have hr := g5 (by omega)
          refine ⟨rfl, .pointer (some ⟨c, p + q + j.toNat * ez, none⟩), ?_, c, p, z, g1, by rw [Nat.add_assoc]⟩
          show (Sem.run P _ w) = _
          simp only [execOp, Instr.indexAt, g2, hj', asIntOf, Sem.run_bind, r_und hu, Result.andThen_ok, Sem.run_pure, Sem.run_ite, r_size hinf, hsz, add_at]
          rw [if_pos hj, hr]; rfl
        · cases h
      · cases h
    · cases h
  | some m =>
    cases op <;> simp only [ckQ] at hc <;> try cases hc
    rename_i t x' i'
    obtain ⟨hc, hi⟩ := and2 hc
    obtain ⟨hc, hx⟩ := and2 hc
    simp only [step] at h
    split at hc
    · rename_i n e hu
      simp only [Bool.and_eq_true, beq_iff_eq, Option.any_eq_true] at hc
      obtain ⟨rfl, inf, hinf, hsz⟩ := hc
      split at h
      · rename_i b q k j e1 e2
        split at h
        · rename_i hj
          cases h
          obtain ⟨c, p, z, g1, g2⟩ := opd_rel hf hx e1
          have hj' : a.eval i' = .int k j := opd_rel hf hi e2
          refine ⟨rfl, .pointer (some ⟨c, p + q + j.toNat * esz, none⟩), ?_, c, p, z, g1, by rw [Nat.add_assoc]⟩
          show (Sem.run P _ w) = _
          simp only [execOp, Instr.indexAt, g2, hj', asIntOf, Instr.sureAddr, Sem.run_bind, r_und hu, Result.andThen_ok, Sem.run_pure, Sem.run_ite, r_size hinf, hsz, add_at]
          rw [if_pos hj]; rfl
        · cases h
      · rename_i b q len cap ez k j e1 e2; cases h
      · cases h
    · cases hc

theorem qs_idx (arr : Option Nat) (esz : Nat) (n : Option Nat) (x i : Opd) (o : Oper) : QS L P ι H w fr a (.idx arr esz n x i) o := by
  intro v H' hc h
  obtain ⟨d, op, ty, pos, af, g⟩ := o
  cases arr with
  | none =>
    cases op <;> simp only [ckQ] at hc <;> try cases hc
    rename_i t x' i'
    obtain ⟨hc, hi⟩ := and2 hc
    obtain ⟨hc, hx⟩ := and2 hc
    simp only [step] at h
    split at hc
    · rename_i hu
      split at h
      · rename_i cs k j e1 e2; cases h
      · rename_i st k j e1 e2
        split at h
        · rename_i hj
          simp only [Option.map_eq_some_iff] at h
          obtain ⟨u, h1, h2⟩ := h; cases h2
          have ex : a.eval x' = .string st := opd_rel hf hx e1
          have ej : a.eval i' = .int k j := opd_rel hf hi e2
          refine ⟨rfl, .int .u8 u.toNat, ?_, rfl⟩
          show (Sem.run P _ w) = _
          simp only [execOp, Instr.index, ex, ej, asIntOf, Sem.run_bind, r_und hu, Result.andThen_ok, Sem.run_pure, hj, if_true, h1]
        · cases h
      · cases h
    · cases hc
  | some m =>
    cases op <;> simp only [ckQ] at hc <;> try cases hc
    rename_i t x' i'
    obtain ⟨hc, hi⟩ := and2 hc
    obtain ⟨hc, hx⟩ := and2 hc
    simp only [step] at h
    split at hc
    · rename_i k0 e hu
      simp only [Bool.and_eq_true, beq_iff_eq, Option.any_eq_true] at hc
      obtain ⟨⟨rfl, hag⟩, inf, hinf, hsz⟩ := hc
      split at h
      · rename_i cs k j e1 e2
        split at h
        · rename_i hj
          obtain ⟨vs, ex, hr⟩ := opd_rel hf hx e1
          have ej : a.eval i' = .int k j := opd_rel hf hi e2
          simp only [Option.map_eq_some_iff] at h
          obtain ⟨u, k1, k2⟩ := h; cases k2
          obtain ⟨v', r1, r2⟩ := part_sound (P := P) (w := w) hag hr k1
          refine ⟨rfl, v', ?_, r2⟩
          show (Sem.run P _ w) = _
          simp only [execOp, Instr.index, ex, ej, asIntOf, Sem.run_bind, r_und hu, Result.andThen_ok, Sem.run_pure, Sem.run_ite, r_size hinf, hsz, r1]
          rw [if_pos hj]; rfl
        · cases h
      · rename_i st k j e1 e2; cases h
      · cases h
    · cases hc

theorem qs_slice (esz : Nat) (x : Opd) (lo hi mx : Option Opd) (o : Oper) : QS L P ι H w fr a (.slice esz x lo hi mx) o := by
  intro v H' hc h
  obtain ⟨d, op, ty, pos, af, g⟩ := o
  cases op <;> simp only [ckQ] at hc <;> try cases hc
  rename_i t x' lo' hi' mx'
  simp only [Bool.and_eq_true] at hc
  obtain ⟨⟨⟨⟨⟨hel, hx⟩, hl⟩, hh⟩, hm⟩, hm3⟩ := hc
  obtain ⟨e, inf, hu, hinf, hsz⟩ := ckEl_spec hel
  simp only [step] at h
  split at h
  · rename_i b len cap ez rlo rhi rmx e1 e2 e3 e4
    split at h
    · cases h
    · rename_i hez
      split at h
      · rename_i m hm1
        split at h
        · rename_i hh0 hh1
          split at h
          · rename_i l hl1
            obtain ⟨l1, l2⟩ := optd_rel hf hl e2
            obtain ⟨h1, h2⟩ := optd_rel hf hh e3
            obtain ⟨m1, m2⟩ := optd_rel hf hm e4
            have hm4 : rhi = none → rmx = none := by
              intro hn; subst hn
              cases hi with
              | some y => simp [optd] at e3
              | none => cases mx with
                | none => cases e4; rfl
                | some y => simp at hm3
            cases b with
            | none =>
              cases h
              obtain ⟨rfl, rfl, ex⟩ := opd_rel hf hx e1
              obtain ⟨m', r1, q1, q2, q3, q4, q5⟩ := slice_bounds (P := P) (w := w) (cap' := 0) (Nat.le_refl 0) (Nat.le_refl 0) l1 l2 h1 h2 m1 m2 hm4 hm1 hh1 hl1
              have : l = 0 ∧ hh0 = 0 ∧ m = 0 ∧ m' = 0 := by omega
              obtain ⟨rfl, rfl, rfl, rfl⟩ := this
              refine ⟨rfl, .slice none 0 0, ?_, rfl, rfl, rfl⟩
              show (Sem.run P _ w) = _
              simp only [execOp, Instr.sliceAt, Instr.slice, ex, Sem.run_bind, r_und hu, Result.andThen_ok, r1, r_size hinf, Sem.run_pure]
              rfl
            | some bo =>
              obtain ⟨b, q⟩ := bo
              cases h
              have hez' : ez = esz := by simpa using hez
              subst hez'
              obtain ⟨hlc, A, cap', ex, g3, gg⟩ := opd_rel hf hx e1
              obtain ⟨m', r1, q1, q2, q3, q4, q5⟩ := slice_bounds (P := P) (w := w) g3 hlc l1 l2 h1 h2 m1 m2 hm4 hm1 hh1 hl1
              rcases Nat.eq_zero_or_pos cap' with hc0 | hc0
              · have hml : m' = l := by omega
                refine ⟨rfl, .slice (some A) (hh0 - l) (m' - l), ?_, ?_⟩
                · show (Sem.run P _ w) = _
                  simp only [execOp, Instr.sliceAt, Instr.slice, ex, Sem.run_bind, r_und hu, Result.andThen_ok, r1, r_size hinf, hsz, Sem.run_pure, Option.map_some]
                  rw [if_pos hml]
                · exact ⟨by omega, A, m' - l, rfl, by omega, fun h => by omega⟩
              obtain ⟨c, p, z, r, g1, rfl, g4, g5⟩ := gg hc0
              refine ⟨rfl, .slice (some (if m' = l then ⟨c, r, none⟩ else ⟨c, r + l * ez, none⟩)) (hh0 - l) (m' - l), ?_, ?_⟩
              · show (Sem.run P _ w) = _
                simp only [execOp, Instr.sliceAt, Instr.slice, ex, Sem.run_bind, r_und hu, Result.andThen_ok, r1, r_size hinf, hsz, Sem.run_pure, Option.map_some, add_at]
                split <;> rfl
              · refine ⟨by omega, _, m' - l, rfl, by omega, fun _ => ⟨c, p, z, if m' = l then r else r + l * ez, g1, by split <;> rfl, ?_, fun hpos => ?_⟩⟩
                · split
                  · rename_i hml; subst hml; simp; exact Nat.le_trans (Nat.le_add_right _ _) g4
                  · have h2 : (l + (m' - l)) * ez ≤ cap' * ez := Nat.mul_le_mul_right _ (by omega)
                    rw [Nat.add_mul] at h2; omega
                · have hml : m' ≠ l := by omega
                  rw [if_neg hml, g5 (by omega), Nat.add_assoc]
          · cases h
        · cases h
      · cases h
  · cases h

theorem qs_substr (x : Opd) (lo hi : Option Opd) (o : Oper) : QS L P ι H w fr a (.substr x lo hi) o := by
  intro v H' hc h
  obtain ⟨d, op, ty, pos, af, g⟩ := o
  cases op <;> simp only [ckQ] at hc <;> try cases hc
  rename_i t x' lo' hi' mx'
  cases mx' with
  | some y => simp [ckQ] at hc
  | none =>
    simp only [ckQ, Bool.and_eq_true] at hc
    obtain ⟨⟨⟨hel, hx⟩, hl⟩, hh⟩ := hc
    simp only [step] at h
    split at hel
    · rename_i hu
      split at h
      · rename_i st rlo rhi e1 e2 e3
        split at h
        · rename_i hh0 hh1
          split at h
          · rename_i l hl1
            cases h
            obtain ⟨l1, l2⟩ := optd_rel hf hl e2
            obtain ⟨h1, h2⟩ := optd_rel hf hh e3
            have ex : a.eval x' = .string st := opd_rel hf hx e1
            have r1 : (Instr.sliceBounds false st.size st.size (lo'.map a.eval) (hi'.map a.eval) none).run P w = .ok (l, hh0, st.size) w := by
              unfold Instr.sliceBounds
              rcases bound_sound (P := P) (w := w) (code := .sliceAlen) h1 h2 hh1 (Nat.le_refl _) with ⟨_, k0, rfl⟩ | ⟨v', k0, hr, _⟩
              · rw [k0]
                rcases bound_sound (P := P) (w := w) (code := .sliceB) l1 l2 hl1 (Nat.le_refl _) with ⟨_, k1, rfl⟩ | ⟨v'', k1, hr1, _⟩
                · rw [k1]; rfl
                · rw [k1]; simp [hr1]
              · rw [k0]
                rcases bound_sound (P := P) (w := w) (code := .sliceB) l1 l2 hl1 (Nat.le_refl _) with ⟨_, k1, rfl⟩ | ⟨v'', k1, hr1, _⟩
                · rw [k1]; simp [hr]
                · rw [k1]; simp [hr, hr1]
            refine ⟨rfl, .string (st.extract l hh0), ?_, rfl⟩
            show (Sem.run P _ w) = _
            simp only [execOp, Instr.sliceAt, Instr.slice, ex, Sem.run_bind, r_und hu, Result.andThen_ok, Option.map_none, Option.isSome_none, Bool.false_eq_true, if_false, r1, Sem.run_pure]
          · cases h
        · cases h
      · cases h
    · cases hel

theorem qs_nilck (x : Opd) (o : Oper) : QS L P ι H w fr a (.nilck x) o := by
  intro v H' hc h
  obtain ⟨d, op, ty, pos, af, g⟩ := o
  cases op <;> simp only [ckQ] at hc <;> try cases hc
  rename_i x'
  simp only [step] at h
  split at h
  · rename_i b e1
    cases h
    obtain ⟨b, q⟩ := b
    obtain ⟨c, p, z, g1, g2⟩ := opd_rel hf hc e1
    refine ⟨rfl, _, ?_, c, p, z, g1, rfl⟩
    show (Sem.run P _ w) = _
    simp only [execOp, g2]; rfl
  · cases h

theorem qs_ext (i : Nat) (x : Opd) (o : Oper) : QS L P ι H w fr a (.ext i x) o := by
  intro v H' hc h
  obtain ⟨d, op, ty, pos, af, g⟩ := o
  cases op <;> simp only [ckQ] at hc <;> try cases hc
  rename_i x' j
  simp only [Bool.and_eq_true, beq_iff_eq] at hc
  obtain ⟨rfl, hx⟩ := hc
  simp only [step] at h
  split at h
  · rename_i l e1
    simp only [Option.map_eq_some_iff] at h
    obtain ⟨u, h1, h2⟩ := h; cases h2
    obtain ⟨vs, e, hr⟩ := opd_rel hf hx e1
    obtain ⟨v', r1, r2⟩ := hr.get h1
    rw [Array.getElem?_toList] at r1
    refine ⟨rfl, v', ?_, r2⟩
    show (Sem.run P _ w) = _
    simp only [execOp, e, Instr.extract, r1]; rfl
  · cases h

theorem qs_isnil (ne : Bool) (x : Opd) (o : Oper) : QS L P ι H w fr a (.isnil ne x) o := by
  intro v H' hc h
  obtain ⟨d, op, ty, pos, af, g⟩ := o
  cases op <;> simp only [ckQ] at hc <;> try cases hc
  rename_i op t x' y' yt
  simp only [Bool.and_eq_true, decide_eq_true_eq] at hc
  obtain ⟨⟨⟨hy, rfl⟩, hk⟩, hx⟩ := hc
  split at hy
  case h_2 => cases hy
  have hu : ∃ e, P.underlying t = some (.interface e) := by
    revert hk; unfold ckBK; cases hu : P.underlying t with
    | none => intro hk; cases hk
    | some d => cases d <;> intro hk <;> first | exact ⟨_, rfl⟩ | cases hk
  obtain ⟨e, ht⟩ := hu
  have eqn : ∀ x0 b, (Op.equal t x0 .nilIface).run P w = .ok b w → (x0 = .nilIface ∨ ∃ i y, x0 = .iface i y) → a.eval x' = x0 → (Sem.run P (execOp a.eval ⟨d, .binOp (if ne then .neq else .eql) t x' (.const .nilIface) yt, ty, pos, af, g⟩) w) = .ok (.value (.bool (if ne then !b else b))) w := by
    intro x0 b hb hx0 ev
    have hg : eqGuard (if ne then .neq else .eql) t x' (.const .nilIface) x0 .nilIface = pure () := by
      rcases hx0 with rfl | ⟨i, y, rfl⟩ <;> cases ne <;> simp [eqGuard]
    simp only [execOp, ev]
    show (Sem.run P _ w) = _
    rw [show a.eval (.const .nilIface) = .nilIface from rfl]
    simp only [Sem.run_bind, hg, Sem.run_pure, Result.andThen_ok]
    have h1 : ∀ k n, x0 ≠ .int k n := by rcases hx0 with rfl | ⟨i, y, rfl⟩ <;> simp
    have h2 : ∀ s, x0 ≠ .string s := by rcases hx0 with rfl | ⟨i, y, rfl⟩ <;> simp
    have h3 : ∀ k n, x0 ≠ .float k n := by rcases hx0 with rfl | ⟨i, y, rfl⟩ <;> simp
    have h4 : ∀ k n m, x0 ≠ .complex k n m := by rcases hx0 with rfl | ⟨i, y, rfl⟩ <;> simp
    cases ne
    · simp only [Bool.false_eq_true, if_false]
      rw [binOp_eql h1 h2 h3 h4, Sem.run_bind, hb]; rfl
    · simp only [if_true]
      rw [binOp_neq h1 h2 h3 h4, Sem.run_bind, hb]; rfl
  simp only [step] at h
  split at h
  · rename_i e1
    cases h
    have ev : a.eval x' = .nilIface := opd_rel hf hx e1
    refine ⟨rfl, .bool (!ne), ?_, rfl⟩
    have := eqn .nilIface true (by unfold Op.equal Op.maxDepth Op.equalIn; rw [Sem.run_bind, r_und ht]; rfl) (.inl rfl) ev
    cases ne <;> exact this
  · rename_i i y e1
    cases h
    obtain ⟨y', ev, _⟩ := opd_rel hf hx e1
    refine ⟨rfl, .bool ne, ?_, rfl⟩
    have := eqn (.iface (L.τ i) y') false (by unfold Op.equal Op.maxDepth Op.equalIn; rw [Sem.run_bind, r_und ht]; rfl) (.inr ⟨_, _, rfl⟩) ev
    cases ne <;> exact this
  · cases h

theorem qs_asrt (t : Nat) (x : Opd) (o : Oper) : QS L P ι H w fr a (.asrt t x) o := by
  intro v H' hc h
  obtain ⟨d, op, ty, pos, af, g⟩ := o
  cases op <;> simp only [ckQ] at hc <;> try cases hc
  rename_i x' s' t' ok
  simp only [Bool.and_eq_true, beq_iff_eq] at hc
  obtain ⟨⟨⟨rfl, rfl⟩, ht⟩, hx⟩ := hc
  simp only [step] at h
  split at h
  · rename_i t2 u e1
    split at h
    · rename_i e2
      subst e2
      cases h
      obtain ⟨y, e, hr⟩ := opd_rel hf hx e1
      refine ⟨rfl, .tuple #[y, .bool true], ?_, _, rfl, y, _, rfl, hr, .bool true, [], rfl, rfl, rfl⟩
      show (Sem.run P _ w) = _
      simp only [execOp, Instr.typeAssert, Sem.run_bind, e]
      split at ht
      · cases ht
      · rename_i d hno hd
        rw [r_und hd]
        cases d <;> first | exact absurd rfl (hno _) | simp [Sem.run_pure]
      · cases ht
    · cases h
  · cases h

theorem qs_mkifc (t : Nat) (x : Opd) (o : Oper) : QS L P ι H w fr a (.mkifc t x) o := by
  intro v H' hc h
  obtain ⟨d, op, ty, pos, af, g⟩ := o
  cases op <;> simp only [ckQ] at hc <;> try cases hc
  rename_i t' x'
  simp only [Bool.and_eq_true, beq_iff_eq] at hc
  obtain ⟨⟨rfl, ht⟩, hx⟩ := hc
  simp only [step, Option.map_eq_some_iff] at h
  obtain ⟨u, h1, h2⟩ := h; cases h2
  refine ⟨rfl, .iface (L.τ t) (a.eval x'), ?_, _, rfl, opd_rel hf hx h1⟩
  show (Sem.run P _ w) = _
  simp only [execOp, Instr.makeInterface, Sem.run_bind]
  split at ht
  · cases ht
  · rename_i d hno hd
    rw [r_und hd]
    simp only [Result.andThen_ok]
    rfl
  · cases ht

theorem qs_mkfn (g0 : Nat) (first caps : List Opd) (o : Oper) : QS L P ι H w fr a (.mkfn g0 first caps) o := by
  intro v H' hc h
  obtain ⟨d, op, ty, pos, af, g⟩ := o
  cases op <;> simp only [ckQ] at hc <;> try cases hc
  rename_i fn first' caps'
  cases fn <;> simp only [ckQ] at hc <;> try cases hc
  rename_i f
  simp only [Bool.and_eq_true, beq_iff_eq] at hc
  obtain ⟨⟨⟨hd, rfl⟩, h1⟩, h2⟩ := hc
  simp only [step] at h
  split at h
  · rename_i u1 u2 e1 e2
    cases h
    refine ⟨rfl, .func (.func (L.φ g0)) (first'.map a.eval) (caps'.map a.eval), rfl, _, _, rfl, hd, ?_, ?_⟩
    · rw [Array.toList_map]; exact opds_rel hf h1 e1
    · rw [Array.toList_map]; exact opds_rel hf h2 e2
  · cases h

omit hf in
theorem two_args {xs : Array Operand} {x : Operand} (h : xs.toList = [x]) : xs = #[x] := by cases xs; simp_all

theorem qs_len (arr : Option Nat) (x : Opd) (o : Oper) : QS L P ι H w fr a (.len arr x) o := by
  intro v H' hc h
  obtain ⟨d, op, ty, pos, af, g⟩ := o
  cases op <;> simp only [ckQ] at hc <;> try cases hc
  rename_i cl
  obtain ⟨callee, args, argTypes⟩ := cl
  unfold ckLen at hc
  dsimp only at hc
  split at hc
  · rename_i x' t hargs htys
    obtain ⟨hx, ht⟩ := and2 hc
    obtain rfl := two_args hargs
    have et : argTypes = #[t] := by cases argTypes; simp_all
    subst et
    have run : ∀ (n : Nat), (Builtin.len_ #[t] ty #[a.eval x']).run P w = .ok (goInt n) w → Yld P ⟨d, .call ⟨.builtin .len, #[x'], #[t]⟩, ty, pos, af, g⟩ a w (.int .i64 n) := by
      intro n hn
      show (Sem.run P _ w) = _
      simp only [execOp, resolve, Sem.run_bind, Sem.run_pure, Result.andThen_ok, invoke, builtin, List.map_toArray, List.map_cons, List.map_nil, hn]
      rfl
    split at ht
    · rename_i e hu
      simp only [step] at h
      split at h
      · rename_i b len cap ez e1
        cases h
        have : ∃ b' cap', a.eval x' = .slice b' len cap' := by
          cases b with
          | none => obtain ⟨rfl, _, ex⟩ := opd_rel hf hx e1; exact ⟨_, _, ex⟩
          | some b => obtain ⟨_, _, _, ex, _⟩ := opd_rel hf hx e1; exact ⟨_, _, ex⟩
        obtain ⟨b', cap', ex⟩ := this
        exact ⟨rfl, _, run len (by rw [ex]; unfold Builtin.len_; simp [r_und hu]), rfl⟩
      · cases h
    · rename_i m e n hu
      simp only [beq_iff_eq] at ht; subst ht
      simp only [step, Option.map_eq_some_iff] at h
      obtain ⟨u, h1, h2⟩ := h; cases h2
      exact ⟨rfl, _, run _ (by unfold Builtin.len_; simp [r_und hu]), rfl⟩
    · cases ht
  · cases hc

theorem qs_slen (x : Opd) (o : Oper) : QS L P ι H w fr a (.slen x) o := by
  intro v H' hc h
  obtain ⟨d, op, ty, pos, af, g⟩ := o
  cases op <;> simp only [ckQ] at hc <;> try cases hc
  rename_i cl
  obtain ⟨callee, args, argTypes⟩ := cl
  unfold ckSlen at hc
  dsimp only at hc
  split at hc
  · rename_i x' t hargs htys
    obtain ⟨hx, ht⟩ := and2 hc
    obtain rfl := two_args hargs
    have et : argTypes = #[t] := by cases argTypes; simp_all
    subst et
    split at ht
    · rename_i hu
      simp only [step] at h
      split at h
      · rename_i st e1
        cases h
        have ex : a.eval x' = .string st := opd_rel hf hx e1
        refine ⟨rfl, .int .i64 st.size, ?_, rfl⟩
        show (Sem.run P _ w) = _
        have hn : (Builtin.len_ #[t] ty #[a.eval x']).run P w = .ok (goInt st.size) w := by rw [ex]; unfold Builtin.len_; simp [r_und hu]
        simp only [execOp, resolve, Sem.run_bind, Sem.run_pure, Result.andThen_ok, invoke, builtin, List.map_toArray, List.map_cons, List.map_nil, hn]
        rfl
      · cases h
    · cases ht
  · cases hc

theorem qs_mm (mx : Bool) (xs : List Opd) (o : Oper) : QS L P ι H w fr a (.mm mx xs) o := by
  intro v H' hc h
  obtain ⟨d, op, ty, pos, af, g⟩ := o
  cases op <;> simp only [ckQ] at hc <;> try cases hc
  rename_i cl
  obtain ⟨callee, args, argTypes⟩ := cl
  simp only [step] at h
  split at h
  · rename_i x r e1
    simp only [Option.map_eq_some_iff] at h
    obtain ⟨u, h1, h2⟩ := h; cases h2
    have key : ∀ {b : Builtin} {f : Value → Value → Sem Value}, callee = .builtin b → ckOpds L xs args.toList = true → f = (if mx then Builtin.max2 else Builtin.min2) →
        (∀ (cs : Array Bool) (vs : List Value), (∀ x r, vs = x :: r → (builtin b argTypes ty cs vs.toArray).run P w = ((r.foldlM f x).run P w).andThen fun v w' => .ok (.value v) w')) →
        ∃ v', Yld P ⟨d, .call ⟨callee, args, argTypes⟩, ty, pos, af, g⟩ a w v' ∧ Rel L ι v v' := by
      intro b f hb hck hff hrun
      subst hb hff
      have hl := opds_rel hf hck e1
      obtain ⟨x', s', es, hx', hr'⟩ := hl
      obtain ⟨v', q1, q2⟩ := mm_sound (P := P) (w := w) h1 hx' hr'
      refine ⟨v', ?_, q2⟩
      show (Sem.run P _ w) = _
      simp only [execOp, resolve, Sem.run_bind, Sem.run_pure, Result.andThen_ok, invoke]
      have := hrun (args.map fun | .const _ => true | _ => false) _ x' s' es
      rw [← Array.toList_map, Array.toArray_toList] at this
      rw [q1] at this
      exact this.trans rfl
    unfold ckMM at hc
    dsimp only at hc
    split at hc
    · obtain ⟨hm, hck⟩ := and2 hc
      subst hm
      exact ⟨rfl, key rfl hck rfl (fun cs vs x r e => by subst e; simp [builtin, Builtin.max_, Builtin.min_])⟩
    · obtain ⟨hm, hck⟩ := and2 hc
      have hm' : mx = false := by simpa using hm
      subst hm'
      exact ⟨rfl, key rfl hck rfl (fun cs vs x r e => by subst e; simp [builtin, Builtin.max_, Builtin.min_])⟩
    · cases hc
  · cases h

omit hf in
theorem parts3_get {fr : Fr} : ∀ {ps : List (Nat × Nat × Opd)} {l : List (Nat × Nat × V)}, parts3 fr ps = some l → l.length = ps.length ∧
    ∀ (j o n : Nat) (v : V), l[j]? = some (o, n, v) → ∃ x, ps[j]? = some (o, n, x) ∧ opd fr x = some v
  | [], l, h => by cases h; exact ⟨rfl, by simp⟩
  | (o, n, x) :: ps, l, h => by
    simp only [parts3] at h
    split at h
    · rename_i v l' h1 h2
      cases h
      obtain ⟨hl, hg⟩ := parts3_get h2
      refine ⟨by simp [hl], fun j o' n' v' hj => ?_⟩
      cases j with
      | zero => simp at hj; obtain ⟨rfl, rfl, rfl⟩ := hj; exact ⟨x, rfl, h1⟩
      | succ j => simpa using hg j o' n' v' (by simpa using hj)
    · cases h

omit hf in
theorem zip_all {α β : Type} {f : α × β → Bool} : ∀ {l : List α} {m : List β}, (l.zip m).all f = true → ∀ (j : Nat) (x : α) (y : β), l[j]? = some x → m[j]? = some y → f (x, y) = true
  | [], _, _, j, x, y, h, _ => by simp at h
  | _ :: _, [], _, j, x, y, _, h => by simp at h
  | a :: l, b :: m, h, j, x, y, hx, hy => by
    simp only [List.zip_cons_cons, List.all_cons, Bool.and_eq_true] at h
    cases j with
    | zero => simp at hx hy; subst hx hy; exact h.1
    | succ j => exact zip_all h.2 j x y (by simpa using hx) (by simpa using hy)

omit hf in
theorem run_listMapM {α β : Type} {f : α → Sem β} {g : α → β} : ∀ (l : List α), (∀ x ∈ l, (f x).run P w = .ok (g x) w) → (l.mapM f).run P w = .ok (l.map g) w
  | [], _ => rfl
  | x :: l, h => by
    rw [List.mapM_cons, Sem.run_bind, h x (by simp)]
    simp only [Result.andThen_ok, Sem.run_bind, run_listMapM l (fun y hy => h y (by simp [hy])), Sem.run_pure, List.map_cons]

omit hf in
theorem run_arrayMapM {α β : Type} {f : α → Sem β} {g : α → β} (l : Array α) (h : ∀ x ∈ l, (f x).run P w = .ok (g x) w) : (l.mapM f).run P w = .ok (l.map g) w := by
  rw [Array.mapM_eq_mapM_toList, Sem.run_map, run_listMapM l.toList (fun x hx => h x (by simpa using hx))]
  simp only [Result.andThen_ok]
  congr 1
  rw [← Array.toList_map, Array.toArray_toList]

theorem qs_build (z : List V) (ps : List (Nat × Nat × Opd)) (o : Oper) : QS L P ι H w fr a (.build z ps) o := by
  intro v H' hc h
  obtain ⟨d, op, ty, pos, af, g⟩ := o
  cases op <;> simp only [ckQ] at hc <;> try cases hc
  rename_i t parts
  simp only [step] at h
  split at h
  · rename_i l hp
    simp only [Option.map_eq_some_iff] at h
    obtain ⟨cs, h1, h2⟩ := h; cases h2
    obtain ⟨hpl, hpg⟩ := parts3_get hp
    have ht : ∃ inf zv, P.info? t = some inf ∧ inf.zero = some zv ∧ (P.info? t).bind (·.zero) = some zv := by
      split at hc
      · rename_i zv _ hz; cases hi : P.info? t with
        | none => rw [hi] at hz; cases hz
        | some inf => rw [hi] at hz; exact ⟨inf, zv, rfl, hz, hz⟩
      · rename_i zv _ hz; cases hi : P.info? t with
        | none => rw [hi] at hz; cases hz
        | some inf => rw [hi] at hz; exact ⟨inf, zv, rfl, hz, hz⟩
      · cases hc
    obtain ⟨inf, zv, hi, hz, hzz⟩ := ht
    rw [hzz] at hc
    split at hc
    · rename_i fs zv' hu hzv
      cases hzv
      simp only [Bool.and_eq_true, beq_iff_eq] at hc
      obtain ⟨⟨⟨c1, c2⟩, c3⟩, c4⟩ := hc
      have hsz : ∀ f ∈ fs, ∃ i, P.info? f.type = some i := by
        intro f hm
        have := (Array.all_eq_true_iff_forall_mem.1 c4) f hm
        exact Option.isSome_iff_exists.1 this
      have hplaces : (fs.mapM (fun f => do pure (f.offset, ← sizeOf f.type) : Field → Sem (Nat × Nat))).run P w = .ok (fs.map fun f => (f.offset, ((P.info? f.type).map (·.size)).getD 0)) w := by
        refine run_arrayMapM fs (fun f hm => ?_)
        obtain ⟨i, hi⟩ := hsz f hm
        simp [r_size hi, hi]
      obtain ⟨arr', r1, r2⟩ := fill_sound (L := L) (ι := ι) (place := fun i => (fs.map fun f => (f.offset, ((P.info? f.type).map (·.size)).getD 0))[i]?) (ps := l) (qs := (parts.map fun (i, x) => (i, a.eval x)).toList)
        (cells := z) (cs := cs) (arr := zv.cells) (by simp [hpl, c2]) (fun j o n v i x e1 e2 => by
          obtain ⟨x0, g1, g2⟩ := hpg j o n v e1
          simp only [Array.toList_map, List.getElem?_map, Option.map_eq_some_iff] at e2
          obtain ⟨⟨i', y⟩, e3, e4⟩ := e2
          cases e4
          have := zip_all c3 j _ _ g1 e3
          simp only [Bool.and_eq_true, Option.any_eq_true, beq_iff_eq] at this
          obtain ⟨k1, f, k2, k3, k4⟩ := this
          obtain ⟨hn, i2, k5, k6⟩ := ckSize_spec k4
          exact ⟨hn, by simp [k2, k3, k5, k6], opd_rel hf k1 g2⟩) (ckVL_rel L ι _ _ c1) h1
      refine ⟨rfl, .agg arr', ?_, _, rfl, r2⟩
      show (Sem.run P _ w) = _
      simp only [execOp, Instr.build, Sem.run_bind, r_zero hi hz, Result.andThen_ok, r_und hu, hplaces, r1]
      rfl
    · rename_i k0 e zv' hu hzv
      cases hzv
      simp only [Bool.and_eq_true, beq_iff_eq] at hc
      obtain ⟨⟨⟨c1, c0⟩, c2⟩, c3⟩ := hc
      · obtain ⟨i2, k5⟩ := Option.isSome_iff_exists.1 c0
        obtain ⟨arr', r1, r2⟩ := fill_sound (L := L) (ι := ι) (place := fun i => some (i * i2.size, i2.size)) (ps := l) (qs := (parts.map fun (i, x) => (i, a.eval x)).toList)
          (cells := z) (cs := cs) (arr := zv.cells) (by simp [hpl, c2]) (fun j o n v i x e1 e2 => by
            obtain ⟨x0, g1, g2⟩ := hpg j o n v e1
            simp only [Array.toList_map, List.getElem?_map, Option.map_eq_some_iff] at e2
            obtain ⟨⟨i', y⟩, e3, e4⟩ := e2
            cases e4
            have := zip_all c3 j _ _ g1 e3
            simp only [Bool.and_eq_true, beq_iff_eq] at this
            obtain ⟨⟨k1, k2⟩, k4⟩ := this
            obtain ⟨hn, i3, k6, k7⟩ := ckSize_spec k4
            rw [k5] at k6; cases k6
            exact ⟨hn, by rw [k2, k7], opd_rel hf k1 g2⟩) (ckVL_rel L ι _ _ c1) h1
        refine ⟨rfl, .agg arr', ?_, _, rfl, r2⟩
        show (Sem.run P _ w) = _
        simp only [execOp, Instr.build, Sem.run_bind, r_zero hi hz, Result.andThen_ok, r_und hu, r_size k5, r1]
        rfl
    · cases hc
  · cases h

theorem qs_load (s : Sim L ι H w) (n : Option Nat) (x : Opd) (o : Oper) : QS L P ι H w fr a (.load n x) o := by
  intro v H' hc h
  obtain ⟨d, op, ty, pos, af, g⟩ := o
  cases op <;> simp only [ckQ] at hc <;> try cases hc
  rename_i t x'
  obtain ⟨hag, hx⟩ := and2 hc
  simp only [step] at h
  split at h
  · rename_i b q e1
    simp only [Option.map_eq_some_iff] at h
    obtain ⟨u, h1, h2⟩ := h; cases h2
    obtain ⟨c, p, z, g1, ex⟩ := opd_rel hf hx e1
    unfold ckAgg at hag
    split at hag
    · rename_i d0 hd
      cases n with
      | none =>
        simp only [Bool.not_eq_true'] at hag
        obtain ⟨v', r1, r2⟩ := s.load1 g1 h1
        refine ⟨rfl, v', ?_, r2⟩
        show (Sem.run P _ w) = _
        simp only [execOp, Instr.loadAt, ex, Instr.sureAddr, loadVar, Sem.run_bind, Sem.run_pure, Result.andThen_ok, r_isAgg hd, hag, Bool.false_eq_true, if_false, run_load_some r1]
      | some n =>
        obtain ⟨ha, hi⟩ := and2 hag
        simp only [Option.any_eq_true, beq_iff_eq] at hi
        obtain ⟨i, hi1, hi2⟩ := hi
        obtain ⟨arr, r1, r2⟩ := s.loadN (P := P) g1 h1
        refine ⟨rfl, .agg arr, ?_, r2⟩
        show (Sem.run P _ w) = _
        simp only [execOp, Instr.loadAt, ex, Instr.sureAddr, loadVar, Sem.run_bind, Sem.run_pure, Result.andThen_ok, r_isAgg hd, ha, if_true, r_size hi1, hi2, r1]
    · cases hag
  · cases h

/-- All of them. -/
theorem quiet_sound (s : Sim L ι H w) (p : AOp) (o : Oper) : QS L P ι H w fr a p o := by
  cases p
  case mv x => exact qs_mv hf x o
  case pick c x y => exact qs_pick hf c x y o
  case bin b k x y => exact qs_bin hf b k x y o
  case un b x => exact qs_un hf b x o
  case conv k x => exact qs_conv hf k x o
  case load n x => exact qs_load hf s n x o
  case fad off x => exact qs_fad hf off x o
  case fld off n x => exact qs_fld hf off n x o
  case iad arr esz x i => exact qs_iad hf arr esz x i o
  case idx arr esz n x i => exact qs_idx hf arr esz n x i o
  case slice esz x lo hi mx => exact qs_slice hf esz x lo hi mx o
  case substr x lo hi => exact qs_substr hf x lo hi o
  case nilck x => exact qs_nilck hf x o
  case ext i x => exact qs_ext hf i x o
  case mkifc t x => exact qs_mkifc hf t x o
  case mkfn g f c => exact qs_mkfn hf g f c o
  case len arr x => exact qs_len hf arr x o
  case slen x => exact qs_slen hf x o
  case asrt t x => exact qs_asrt hf t x o
  case isnil ne x => exact qs_isnil hf ne x o
  case mm mx xs => exact qs_mm hf mx xs o
  case build z ps => exact qs_build hf z ps o
  all_goals (intro v H' hc h; simp [ckQ] at hc)

end
end Go.Ab
/- Operations that make memory or write it, against the model's. Conditions: none. -/
namespace Go.Ab
variable {L : Lk} {ι : Im} {H : Heap} {w : World} {P : Program} {fr : Fr} {a : Act}

def ckZero (L : Lk) (P : Program) (e : TypeId) (z : List V) : Bool := (P.info? e).any fun i => match i.zero with
  | some zv => ckVL L z zv.cells.toList
  | none => false
theorem ckZero_spec {e : TypeId} {z : List V} (h : ckZero L P e z = true) : ∃ i zv, P.info? e = some i ∧ i.zero = some zv ∧ ∀ ι, RelL L ι z zv.cells.toList := by
  simp only [ckZero, Option.any_eq_true] at h
  obtain ⟨i, h1, h2⟩ := h
  split at h2
  · rename_i zv hz; exact ⟨i, zv, h1, hz, fun ι => ckVL_rel L ι _ _ h2⟩
  · cases h2

/-- The slice type's element: cells, bytes (0: whatever), zero cells. -/
def ckElz (L : Lk) (P : Program) (t : TypeId) (esz : Nat) (eb : Option Nat) (z : List V) : Bool :=
  match P.underlying t with
  | some (.slice e) => decide (0 < esz) && z.length == esz && ckZero L P e z && (P.info? e).any fun i => i.size == esz && (match eb with | some b => i.bytes == b | none => true)
  | _ => false
theorem ckElz_spec {t : TypeId} {esz : Nat} {eb : Option Nat} {z : List V} (h : ckElz L P t esz eb z = true) :
    ∃ e i zv, P.underlying t = some (.slice e) ∧ P.info? e = some i ∧ i.zero = some zv ∧ (∀ ι, RelL L ι z zv.cells.toList) ∧ i.size = esz ∧ 0 < esz ∧ z.length = esz ∧ (∀ b, eb = some b → i.bytes = b) := by
  unfold ckElz at h
  split at h
  · rename_i e he
    simp only [Bool.and_eq_true, decide_eq_true_eq, beq_iff_eq, Option.any_eq_true] at h
    obtain ⟨⟨⟨h1, h2⟩, h3⟩, i, h4, h5, h6⟩ := h
    obtain ⟨i', zv, k1, k2, k3⟩ := ckZero_spec h3
    rw [h4] at k1; cases k1
    refine ⟨e, i, zv, he, h4, k2, k3, h5, h1, h2, fun b hb => ?_⟩
    subst hb; simpa using h6
  · cases h

def ckParts (L : Lk) (ps : List (Nat × Opd)) (qs : Array (Nat × Operand)) : Bool := (ps.length == qs.size) && (ps.zip qs.toList).all fun ((i, x), (j, y)) => i == j && ckOpd L x y

/-- Operations that lay a new block. -/
def ckF (L : Lk) (P : Program) : AOp → Op → Bool
  | .alloc z, .alloc t => ckZero L P t z
  | .box n x, .box t y => decide (0 < n) && ckOpd L x y
  | .bslice esz z len ps, .buildSlice t len' qs => ckElz L P t esz none z && len == len' && decide (len * esz ≤ 16777216) && ckParts L ps qs
  | .mkslice esz eb z l c, .makeSlice t l' c' => ckElz L P t esz (some eb) z && ckOpd L l l' && ckOpd L c c'
  | _, _ => false

theorem piece_length {l cs : List V} {o n : Nat} (h : piece l o n = some cs) : cs.length = n := by
  unfold piece at h
  split at h
  · cases h; simp; omega
  · cases h

theorem map_range0 (f g : Nat → Value) : (Array.range 0).map f = (Array.range 0).map g := by simp

theorem reps_length (z : List V) : ∀ n, (reps z n).length = n * z.length
  | 0 => by simp [reps]
  | n + 1 => by rw [reps, List.length_append, reps_length z n, Nat.add_mul]; omega

theorem reps_get (z : List V) (hz : 0 < z.length) : ∀ (n i : Nat), i < n * z.length → (reps z n)[i]? = z[i % z.length]?
  | 0, i, h => by omega
  | n + 1, i, h => by
    rw [reps]
    by_cases hi : i < z.length
    · rw [List.getElem?_append_left hi, Nat.mod_eq_of_lt hi]
    · rw [List.getElem?_append_right (by omega), reps_get z hz n (i - z.length) (by rw [Nat.add_mul] at h; omega)]
      congr 1
      exact (Nat.mod_eq_sub_mod (by omega)).symm

theorem zeros_rel {z : List V} {zv : Value} (hr : RelL L ι z zv.cells.toList) (hz : 0 < z.length) (n : Nat) :
    RelL L ι (reps z n) ((Array.range (n * z.length)).map fun i => zv.cells[i % zv.cells.size]!).toList := by
  have hlen : z.length = zv.cells.size := by rw [hr.length, Array.length_toList]
  refine RelL.of_get (by simp [reps_length]) (fun i x hx => ?_)
  have hi : i < n * z.length := by
    rcases Nat.lt_or_ge i (n * z.length) with h | h
    · exact h
    · rw [List.getElem?_eq_none (by rw [reps_length]; exact h)] at hx; cases hx
  rw [reps_get z hz n i hi] at hx
  obtain ⟨y, h1, h2⟩ := hr.get hx
  refine ⟨y, ?_, h2⟩
  have hm : i % z.length < zv.cells.size := by rw [← hlen]; exact Nat.mod_lt _ hz
  simp only [Array.toList_map, List.getElem?_map, Array.getElem?_toList]
  rw [Array.getElem?_range, if_pos hi] 
  simp only [Option.map_some, ← hlen]
  rw [Array.getElem?_toList] at h1
  rw [Array.getElem?_eq_getElem hm] at h1
  rw [getElem!_pos zv.cells (i % z.length) hm]
  exact h1

theorem parts2_get {esz : Nat} : ∀ {ps : List (Nat × Opd)} {l : List (Nat × Nat × V)}, parts2 fr esz ps = some l → l.length = ps.length ∧
    ∀ (j o n : Nat) (v : V), l[j]? = some (o, n, v) → ∃ i x, ps[j]? = some (i, x) ∧ o = i * esz ∧ n = esz ∧ opd fr x = some v
  | [], l, h => by cases h; exact ⟨rfl, by simp⟩
  | (i, x) :: ps, l, h => by
    simp only [parts2] at h
    split at h
    · rename_i v l' h1 h2
      cases h
      obtain ⟨hl, hg⟩ := parts2_get h2
      refine ⟨by simp [hl], fun j o' n' v' hj => ?_⟩
      cases j with
      | zero => simp at hj; obtain ⟨rfl, rfl, rfl⟩ := hj; exact ⟨i, x, rfl, rfl, rfl, h1⟩
      | succ j => simpa using hg j o' n' v' (by simpa using hj)
    · cases h

/-- What such an operation comes to: a block is pushed; the value points at it. -/
structure Laid (L : Lk) (ι : Im) (P : Program) (o : Oper) (a : Act) (w : World) (cs : List V) (mk : Nat → V) : Prop where
  ex : ∃ (arr : Array Value) (ty : TypeId) (v' : Value), (execOp a.eval o).run P w = .ok (.value v') (pushW w arr ty) ∧ RelL L ι cs arr.toList ∧
    ∀ ι' b, ι' b = some (w.heap.size, 0, arr.size) → Rel L ι' (mk b) v'

theorem fresh_sound (hf : FrRel L ι fr a.tmps) {p : AOp} {o : Oper} {cs : List V} {mk : Nat → V} (hc : ckF L P p o.op = true) (h : fresh fr p = some (cs, mk)) : Laid L ι P o a w cs mk := by
  obtain ⟨d, op, ty, pos, af, g⟩ := o
  cases p <;> try (simp [fresh] at h; done)
  case alloc z =>
    cases op <;> simp only [ckF] at hc <;> try cases hc
    rename_i t
    simp only [fresh, Option.some.injEq, Prod.mk.injEq] at h
    obtain ⟨rfl, rfl⟩ := h
    obtain ⟨i, zv, h1, h2, h3⟩ := ckZero_spec hc
    refine ⟨⟨zv.cells, t, .pointer (some ⟨w.heap.size, 0, none⟩), ?_, h3 ι, fun ι' b hb => ⟨_, _, _, hb, rfl⟩⟩⟩
    simp only [execOp, Instr.alloc, Sem.run_bind, r_zero h1 h2, Result.andThen_ok, newVar, newRow, run_newObj, Sem.run_pure]
    rfl
  case box n x =>
    cases op <;> simp only [ckF] at hc <;> try cases hc
    rename_i t y
    simp only [Bool.and_eq_true, decide_eq_true_eq] at hc
    simp only [fresh] at h
    split at h
    · rename_i v hv
      split at h
      · rename_i hn
        simp only [Option.some.injEq, Prod.mk.injEq] at h
        obtain ⟨rfl, rfl⟩ := h
        have hr := opd_rel hf hc.2 hv
        refine ⟨⟨(a.eval y).cells, t, .pointer (some ⟨w.heap.size, 0, none⟩), ?_, hr.cells (by omega), fun ι' b hb => ⟨_, _, _, hb, rfl⟩⟩⟩
        simp only [execOp, Instr.box, Sem.run_bind, Result.andThen_ok, newVar, newRow, run_newObj, Sem.run_pure]
        rfl
      · cases h
    · cases h
  case bslice esz z len ps =>
    cases op <;> simp only [ckF] at hc <;> try cases hc
    rename_i t len' qs
    simp only [Bool.and_eq_true, decide_eq_true_eq, beq_iff_eq] at hc
    obtain ⟨⟨⟨hel, rfl⟩, hmax⟩, hps⟩ := hc
    obtain ⟨e, i, zv, u1, u2, u3, u4, u5, u6, u7, _⟩ := ckElz_spec hel
    simp only [ckParts, Bool.and_eq_true, beq_iff_eq] at hps
    simp only [fresh] at h
    split at h
    · rename_i l hl
      split at h
      · rename_i cs' hcs
        simp only [Option.some.injEq, Prod.mk.injEq] at h
        obtain ⟨rfl, rfl⟩ := h
        obtain ⟨hpl, hpg⟩ := parts2_get hl
        obtain ⟨arr', r1, r2⟩ := fill_sound (L := L) (ι := ι) (place := fun i => some (i * esz, esz)) (ps := l) (qs := (qs.map fun (i, x) => (i, a.eval x)).toList)
          (cells := reps z len) (cs := cs') (arr := (Array.range (len * z.length)).map fun i => zv.cells[i % zv.cells.size]!) (by simp [hpl, hps.1]) (fun j o n v i' x e1 e2 => by
            obtain ⟨i0, x0, g1, g2, g3, g4⟩ := hpg j o n v e1
            simp only [Array.toList_map, List.getElem?_map, Option.map_eq_some_iff] at e2
            obtain ⟨⟨i1, y⟩, e3, e4⟩ := e2
            cases e4
            have := zip_all hps.2 j _ _ g1 e3
            simp only [Bool.and_eq_true, beq_iff_eq] at this
            obtain ⟨rfl, k1⟩ := this
            exact ⟨by omega, by rw [g2, g3], opd_rel hf k1 g4⟩) (zeros_rel (u4 ι) (by omega) len) hcs
        have hsz : cs'.length = len * esz := by
          have : ∀ {cells cs : List V} {ps : List (Nat × Nat × V)}, fillA cells ps = some cs → cs.length = cells.length := by
            intro cells cs ps
            induction ps generalizing cells with
            | nil => intro h; cases h; rfl
            | cons p ps ih =>
              intro h
              simp only [fillA] at h
              split at h
              · rename_i hh; rw [ih h, over_length _ _ _ (by omega)]
              · cases h
          rw [this hcs, reps_length, u7]
        have hz : arr'.size = len * esz := by rw [← Array.length_toList, ← r2.length, hsz]
        refine ⟨⟨arr', e, .slice (some ⟨w.heap.size, 0, none⟩) len len, ?_, r2, fun ι' b hb => ?_⟩⟩
        · simp only [execOp, Instr.buildSlice, Sem.run_bind, r_und u1, Result.andThen_ok, r_size u2, u5, Sem.run_ite]
          rw [if_neg (by omega)]
          have hzero : (if len * esz = 0 then (Sem.run P (pure #[]) w : Result (Array Value)) else Sem.run P (do pure (← zeroValue e).cells) w) = .ok (if len * esz = 0 then #[] else zv.cells) w := by
            split
            · rfl
            · simp [r_zero u2 u3]
          simp only [Sem.run_pure, Result.andThen_ok]
          have e0 : ((Array.range (len * esz)).map fun i => (if len * esz = 0 then (#[] : Array Value) else zv.cells)[i % (if len * esz = 0 then (#[] : Array Value) else zv.cells).size]!) =
              (Array.range (len * z.length)).map fun i => zv.cells[i % zv.cells.size]! := by
            rw [u7]
            split
            · rename_i h0; rw [h0]; simp
            · rfl
          by_cases h0 : len * esz = 0
          · simp only [h0, if_true, Result.andThen_ok]
            rw [h0] at e0; simp only [if_true] at e0
            rw [e0, r1]
            simp [newRow]
            rfl
          · simp only [h0, if_false, Sem.run_bind, r_zero u2 u3, Result.andThen_ok, Sem.run_pure]
            simp only [h0, if_false] at e0
            rw [e0, r1]
            simp [newRow]
            rfl
        · exact ⟨Nat.le_refl _, ⟨w.heap.size, 0, none⟩, len, rfl, Nat.le_refl _, fun _ => ⟨w.heap.size, 0, arr'.size, 0, hb, rfl, by omega, fun _ => rfl⟩⟩
      · cases h
    · cases h
  case mkslice esz eb z l c =>
    cases op <;> simp only [ckF] at hc <;> try cases hc
    rename_i t l' c'
    simp only [Bool.and_eq_true] at hc
    obtain ⟨⟨hel, hl⟩, hcc⟩ := hc
    obtain ⟨e, i, zv, u1, u2, u3, u4, u5, u6, u7, u8⟩ := ckElz_spec hel
    have u8 := u8 eb rfl
    simp only [fresh] at h
    split at h
    · rename_i k1 n1 k2 n2 e1 e2
      split at h
      · rename_i hb
        obtain ⟨b1, b2, b3, b4⟩ := hb
        simp only [Option.some.injEq, Prod.mk.injEq] at h
        obtain ⟨rfl, rfl⟩ := h
        have g1 : a.eval l' = .int k1 n1 := opd_rel hf hl e1
        have g2 : a.eval c' = .int k2 n2 := opd_rel hf hcc e2
        have w1 : IntKind.i64.wrap n1 = n1 := by simp only [IntKind.wrap, IntKind.bits, IntKind.signed]; simp; omega
        have w2 : IntKind.i64.wrap n2 = n2 := by simp only [IntKind.wrap, IntKind.bits, IntKind.signed]; simp; omega
        have hr := zeros_rel (u4 ι) (by omega) n2.toNat
        rw [u7] at hr
        refine ⟨⟨_, e, .slice (some ⟨w.heap.size, 0, none⟩) n1.toNat n2.toNat, ?_, hr, fun ι' b hb => ?_⟩⟩
        · simp only [execOp, Instr.makeSlice, g1, g2, asInt, asIntOf, Sem.run_bind, r_und u1, Result.andThen_ok, Sem.run_pure, r_info u2, u8, w1, w2, Sem.run_ite, r_size u2, u5, run_askRoom]
          have ht : (decide (n2 < 0) || decide ((eb : Int) * n2 > 2 ^ 48)) = false := by
            have : (eb : Int) * n2 = n2 * eb := Int.mul_comm _ _
            simp; omega
          rw [ht]
          rw [if_neg (by simp; omega)]
          by_cases h0 : n2.toNat * esz = 0
          · simp only [h0, if_true, Result.andThen_ok, newRow, Sem.run_bind, run_newObj, Sem.run_pure]
            rw [map_range0 _ fun i => zv.cells[i % zv.cells.size]!]
            rfl
          · simp only [h0, if_false, Sem.run_bind, r_zero u2 u3, Result.andThen_ok, Sem.run_pure, newRow, run_newObj]
            rfl
        · exact ⟨by omega, ⟨w.heap.size, 0, none⟩, n2.toNat, rfl, Nat.le_refl _, fun _ => ⟨w.heap.size, 0, _, 0, hb, rfl, by simp, fun _ => rfl⟩⟩
      · cases h
    · cases h


/-- What an operation that writes comes to. -/
def Does (P : Program) (o : Oper) (a : Act) (w : World) (v : Value) (w' : World) : Prop :=
  (execOp a.eval o).run P w = .ok (.value v) w' ∨ ((execOp a.eval o).run P w = .ok .skip w' ∧ v = undef)

def ckApp (L : Lk) (P : Program) (esz eb : Nat) (x y : Opd) (c : Go.Call) : Bool :=
  match c.callee, c.args.toList, c.argTypes.toList with
  | .builtin .append, [x', y'], [t, u] => ckOpd L x x' && ckOpd L y y' && (match P.underlying t with
      | some (.slice e) => decide (0 < esz) && (P.info? e).any fun i => i.size == esz && i.bytes == eb && decide (0 < eb) && i.zero.any fun z => z.cells.size == esz
      | _ => false) && (match P.underlying u with
      | some (.slice _) => true
      | some .string => true
      | _ => false)
  | _, _, _ => false

def ckCpy (L : Lk) (P : Program) (esz : Nat) (x y : Opd) (c : Go.Call) : Bool :=
  match c.callee, c.args.toList, c.argTypes.toList with
  | .builtin .copy, [x', y'], t :: _ => ckOpd L x x' && ckOpd L y y' && (match P.underlying t with
      | some (.slice e) => (P.info? e).any fun i => i.size == esz
      | _ => false)
  | _, _, _ => false

/-- Operations that write. -/
def ckW (L : Lk) (P : Program) : AOp → Op → Bool
  | .store n x y, .store t x' y' => ckSize P t n && ckOpd L x x' && ckOpd L y y'
  | .append esz eb x y, .call c => ckApp L P esz eb x y c
  | .copy esz x y, .call c => ckCpy L P esz x y c
  | _, _ => false

def WS (L : Lk) (P : Program) (ι : Im) (H : Heap) (w : World) (fr : Fr) (a : Act) (p : AOp) (o : Oper) : Prop :=
  ∀ v H', ckW L P p o.op = true → step fr H p = some (v, H') → ∃ v' w' ι', Does P o a w v' w' ∧ Sim L ι' H' w' ∧ Ext ι H w ι' H' w' ∧ Rel L ι' v v'

theorem wr_spec {b o : Nat} {vs : List V} {H' : Heap} (h : wr H b o vs = some H') : ∃ l, H.get b = .cells l true ∧ o + vs.length ≤ l.length ∧ vs.all one = true ∧ H' = H.put b (.cells (over l o vs) true) := by
  unfold wr at h
  split at h
  · rename_i l hg
    split at h
    · rename_i hl
      split at h
      · rename_i ho; cases h; exact ⟨l, hg, hl, ho, rfl⟩
      · cases h
    · cases h
  · cases h

theorem ones_rel {vs : List V} {ws : List Value} (h : RelL L ι vs ws) (ho : vs.all one = true) : ∀ x ∈ ws, x.oneCell' = true := by
  intro x hx
  obtain ⟨i, hi⟩ := List.mem_iff_getElem?.1 hx
  have hlt : i < vs.length := by rw [h.length]; exact (List.getElem?_eq_some_iff.1 hi).1
  obtain ⟨y, h1, h2⟩ := h.get (List.getElem?_eq_getElem hlt)
  rw [hi] at h1; cases h1
  exact h2.one (List.all_eq_true.1 ho _ (List.getElem_mem hlt))

section
variable (hf : FrRel L ι fr a.tmps) (s : Sim L ι H w)
include hf s

/-- Cells written into a row that is there. -/
theorem run_wr {b o c p z : Nat} {vs : List V} {ws : List Value} {H' : Heap} (hb : ι b = some (c, p, z)) (h : wr H b o vs = some H') (hr : RelL L ι vs ws) :
    (storeCells ⟨c, p + o, none⟩ ws).run P w = .ok () (stW w c (p + o) ws) ∧ Sim L ι H' (stW w c (p + o) ws) ∧ Ext ι H w ι H' (stW w c (p + o) ws) := by
  obtain ⟨l, hg, hl, ho, rfl⟩ := wr_spec h
  obtain ⟨arr, ty, fz, e, e2, e3, e4, h5⟩ := s.row hb hg
  have hlen := hr.length
  exact ⟨run_storeCells c (p + o) ws w 0 e (e4 rfl) (by omega) (ones_rel hr ho), s.put hb hg hl hr⟩

theorem ws_store (n : Nat) (x y : Opd) (o : Oper) : WS L P ι H w fr a (.store n x y) o := by
  intro v H' hc h
  obtain ⟨d, op, ty, pos, af, g⟩ := o
  cases op <;> simp only [ckW] at hc <;> try cases hc
  rename_i t x' y'
  simp only [Bool.and_eq_true] at hc
  obtain ⟨⟨h1, hx⟩, hy⟩ := hc
  obtain ⟨hn, i, hi, hsz⟩ := ckSize_spec h1
  simp only [step] at h
  split at h
  · rename_i b q v0 e1 e2
    split at h
    · rename_i hvn
      simp only [Option.map_eq_some_iff] at h
      obtain ⟨H0, h2, h3⟩ := h; cases h3
      obtain ⟨c, p, z, g1, g2⟩ := opd_rel hf hx e1
      have hv := (opd_rel hf hy e2).cells (by omega)
      obtain ⟨r1, r2, r3⟩ := run_wr (P := P) hf s g1 h2 hv
      refine ⟨undef, _, ι, .inr ⟨?_, rfl⟩, r2, r3, trivial⟩
      have hvs : (a.eval y').cells.size = n := by rw [← Array.length_toList, ← hv.length, hvn]
      simp only [execOp, Instr.storeAt, g2, Instr.sureAddr, storeVar, Sem.run_bind, Sem.run_pure, Result.andThen_ok, r_size hi, hsz, hvs, ne_eq, not_true_eq_false, if_false, r1]
    · cases h
  · cases h

omit hf in
/-- A slice's, a string's first elements. -/
theorem firsts_sound {esz n : Nat} {y : V} {Y : Value} {cells : List V} (h : firsts H esz y = some (n, cells)) (hr : Rel L ι y Y) :
    (Builtin.lenOf Y).run P w = .ok n w ∧ cells.length = n * esz ∧ ∀ m, m ≤ n → ∃ arr : Array Value, (Builtin.firstCells esz m Y).run P w = .ok arr w ∧ RelL L ι (cells.take (m * esz)) arr.toList := by
  cases y <;> try (simp [firsts] at h; done)
  case str st =>
    cases hr
    simp only [firsts] at h
    split at h
    · rename_i he; subst he
      cases h
      refine ⟨rfl, by simp, fun m hm => ⟨(st.extract 0 m).data.map fun b => .int .u8 b.toNat, rfl, ?_⟩⟩
      refine RelL.of_get ?_ (fun i x hx => ?_)
      · simp
      · simp only [Nat.mul_one, List.getElem?_take, List.getElem?_map] at hx
        split at hx
        · rename_i him
          simp only [Option.map_eq_some_iff] at hx
          obtain ⟨u, h1, rfl⟩ := hx
          refine ⟨_, ?_, rfl⟩
          simp only [Array.toList_map, List.getElem?_map, Array.getElem?_toList, ByteArray.data_extract, Array.getElem?_extract]
          rw [Array.getElem?_toList] at h1
          have : st.data.size = st.size := rfl
          rw [if_pos (by omega), Nat.zero_add, h1]; rfl
        · cases hx
    · cases h
  case sl b len cap e =>
    cases b with
    | none =>
      obtain ⟨rfl, rfl, rfl⟩ := hr
      simp only [firsts] at h; cases h
      exact ⟨rfl, by simp, fun m hm => ⟨#[], rfl, by simp [RelL]⟩⟩
    | some bo =>
      obtain ⟨b, q⟩ := bo
      obtain ⟨hlc, A, cap', rfl, g3, gg⟩ := hr
      simp only [firsts] at h
      split at h
      · rename_i he; subst he
        split at h
        · rename_i l wr0 hg
          simp only [Option.map_eq_some_iff] at h
          obtain ⟨cs, hp, h2⟩ := h
          cases h2
          have hcl : cells.length = n * e := piece_length hp
          refine ⟨rfl, hcl, fun m hm => ?_⟩
          rcases Nat.eq_zero_or_pos cap' with hc0 | hc0
          · have hm0 : m = 0 := by omega
            subst hm0
            refine ⟨#[], ?_, by simp [RelL]⟩
            show (loadCells A (0 * e)).run P w = _
            rw [Nat.zero_mul]; rfl
          obtain ⟨c, p, z, r, g1, rfl, g4, g5⟩ := gg hc0
          obtain ⟨ws, k1, k2, k3⟩ := s.piece g1 hg hp
          have hmle : m * e ≤ n * e := Nat.mul_le_mul_right _ hm
          refine ⟨(ws.take (m * e)).toArray, ?_, by simpa using k1.take (m * e)⟩
          show (loadCells ⟨c, r, none⟩ (m * e)).run P w = _
          refine run_loadCells c r (m * e) _ (by simp; omega) (fun j v hj => ?_)
          have hj2 : j < m * e := by
            rcases Nat.lt_or_ge j (m * e) with h | h
            · exact h
            · rw [List.getElem?_take, if_neg (by omega)] at hj; cases hj
          rw [List.getElem?_take, if_pos hj2] at hj
          have hpos : 0 < cap := by
            rcases Nat.eq_zero_or_pos n with h0 | h0
            · subst h0; simp at hmle; omega
            · omega
          rw [g5 hpos]
          exact k3 j v hj
        · split at h
          · rename_i h0
            cases h
            refine ⟨rfl, by simp [h0], fun m hm => ⟨#[], ?_, by simp [RelL]⟩⟩
            have hmle : m * e ≤ n * e := Nat.mul_le_mul_right _ hm
            have : m * e = 0 := by omega
            show (loadCells A (m * e)).run P w = _
            rw [this]; rfl
          · cases h
      · cases h

omit hf s in
theorem growBy_le {N : Nat} : ∀ (r c : Nat), Builtin.growBy N r c ≤ max c (N + (N + 768) / 4)
  | 0, c => by unfold Builtin.growBy; omega
  | r + 1, c => by
    unfold Builtin.growBy
    split
    · omega
    · have := growBy_le (N := N) r (c + (c + 768) / 4); omega

omit hf s in
theorem nextcap_le {need cap : Nat} (h : cap < need) : Builtin.nextslicecap need cap ≤ need + need / 4 + 1024 := by
  unfold Builtin.nextslicecap
  split
  · omega
  · split
    · omega
    · have := growBy_le (N := need) 4 cap; omega

omit hf s in
theorem run_append {t u e : TypeId} {ud : TypeDesc} {i : TypeInfo} {zv : Value} {esz eb len cap' n ty : Nat} {base : Option Addr} {Y : Value} (u1 : P.underlying t = some (.slice e)) (u2 : P.info? e = some i)
    (u3 : i.zero = some zv) (u5 : i.size = esz) (u7 : i.bytes = eb) (ub : 0 < eb) (uu : P.underlying u = some ud) (uz : (∃ e', ud = .slice e') ∨ ud = .string) (l1 : (Builtin.lenOf Y).run P w = .ok n w)
    (hg : ¬ len + n ≤ cap' → Builtin.nextslicecap (len + n) cap' * eb ≤ 2 ^ 48) :
    (Builtin.append_ #[t, u] ty #[.slice base len cap', Y]).run P w =
      if len + n ≤ cap' then
        ((Builtin.firstCells esz n Y).run P w).andThen fun new w1 => ((match base with | some a => storeCells (a.add (len * esz)) new.toList | none => pure () : Sem Unit).run P w1).andThen fun _ w2 => .ok (.slice base (len + n) cap') w2
      else
        let nc := (Question.appendCap (len + n) cap' e).cut (w.tape w.drawn (Question.appendCap (len + n) cap' e))
        ((Builtin.firstCells esz len (.slice base len cap')).run P { w with drawn := w.drawn + 1 }).andThen fun old w1 => ((Builtin.firstCells esz n Y).run P w1).andThen fun new w2 =>
          .ok (.slice (some ⟨w2.heap.size, 0, none⟩) (len + n) nc) (pushW w2 (old ++ new ++ Builtin.zeroCells zv.cells (nc - (len + n))) e) := by
  have hz : (match ud with | .int _ => true | _ => false) = false := by rcases uz with ⟨e', rfl⟩ | rfl <;> rfl
  unfold Builtin.append_
  rcases uz with ⟨e', rfl⟩ | rfl
  all_goals
    simp only [List.getElem?_toArray, List.getElem?_cons_zero, List.getElem?_cons_succ, Sem.run_bind, r_und u1, Result.andThen_ok, r_size u2, u5, r_und uu, Sem.run_pure, Bool.false_eq_true, if_false, l1, Sem.run_ite]
    split
    · cases base <;> simp
    · rename_i hnc
      have h2 := hg hnc
      simp [r_info u2, u7, Nat.ne_of_gt ub, h2, Nat.not_lt.2 h2, r_zero u2 u3, Question.forced, newRow, pushW]

theorem ws_append (esz eb : Nat) (x y : Opd) (o : Oper) : WS L P ι H w fr a (.append esz eb x y) o := by
  intro v H' hc h
  obtain ⟨d, op, ty, pos, af, g⟩ := o
  cases op <;> simp only [ckW] at hc <;> try cases hc
  rename_i cl
  obtain ⟨cle, args, argTypes⟩ := cl
  unfold ckApp at hc
  dsimp only at hc
  split at hc
  · rename_i x' y' t u ha ht
    have ea : args = #[x', y'] := by cases args; simp_all
    have et : argTypes = #[t, u] := by cases argTypes; simp_all
    subst ea et
    simp only [Bool.and_eq_true] at hc
    obtain ⟨⟨⟨hx, hy⟩, hel⟩, hu⟩ := hc
    obtain ⟨e, i, zv, u1, u2, u3, u4, u5, u6, u7⟩ : ∃ e i zv, P.underlying t = some (.slice e) ∧ P.info? e = some i ∧ i.zero = some zv ∧ zv.cells.size = esz ∧ i.size = esz ∧ 0 < esz ∧ i.bytes = eb ∧ 0 < eb := by
      split at hel
      · rename_i e he
        simp only [Bool.and_eq_true, decide_eq_true_eq, Option.any_eq_true, beq_iff_eq] at hel
        obtain ⟨h1, i, h2, ⟨⟨h3, h4⟩, h5⟩, zv, h6, h7⟩ := hel
        exact ⟨e, i, zv, he, h2, h6, h7, h3, h1, h4, h5⟩
      · cases hel
    obtain ⟨ud, uu, uz⟩ : ∃ ud, P.underlying u = some ud ∧ ((∃ e', ud = .slice e') ∨ ud = .string) := by
      split at hu
      · rename_i e' he; exact ⟨_, he, .inl ⟨e', rfl⟩⟩
      · rename_i he; exact ⟨_, he, .inr rfl⟩
      · cases hu
    simp only [step] at h
    split at h
    · rename_i X Y e1 e2
      have hX := opd_rel hf hx e1
      have hY := opd_rel hf hy e2
      unfold app at h
      split at h
      · rename_i b len cap ez n new hfs
        obtain ⟨l1, l2, l3⟩ := firsts_sound (P := P) s hfs hY
        obtain ⟨arr, l4, l5⟩ := l3 n (Nat.le_refl _)
        rw [← l2, List.take_length] at l5
        have l6 := l5.length
        have fin : ∀ {base : Option Addr} {cap' : Nat} {v' : Value} {w' : World}, a.eval x' = .slice base len cap' → (Builtin.append_ #[t, u] ty #[.slice base len cap', a.eval y']).run P w = .ok v' w' →
            Does P ⟨d, .call ⟨.builtin .append, #[x', y'], #[t, u]⟩, ty, pos, af, g⟩ a w v' w' := by
          intro base cap' v' w' hX' hrun
          refine .inl ?_
          rw [← hX'] at hrun
          simp only [execOp, resolve, Sem.run_bind, Sem.run_pure, Result.andThen_ok, invoke, builtin, List.map_toArray, List.map_cons, List.map_nil, hrun]
        split at h
        · cases h
        · rename_i hez
          split at h
          · rename_i hones
            split at h
            · rename_i hfit
              -- there is room, by what is known
              cases b with
              | none =>
                obtain ⟨rfl, rfl, ex⟩ := hX
                cases h
                obtain rfl : n = 0 := by omega
                refine ⟨.slice none 0 0, w, ι, fin ex ?_, s, Ext.refl _ _ _, rfl, rfl, rfl⟩
                rw [run_append u1 u2 u3 u5 u7.1 u7.2 uu uz l1 (fun hc => absurd (Nat.le_refl 0) hc), if_pos (Nat.le_refl _), l4]
                rfl
              | some bo =>
                obtain ⟨b, q⟩ := bo
                have hez' : ez = esz := by simpa using hez
                subst hez'
                obtain ⟨hlc, A, cap', ex, g3, gg⟩ := hX
                have hcap : len + n ≤ cap' := by omega
                have hfin := run_append (P := P) (w := w) (ty := ty) (base := some A) (len := len) (cap' := cap') (n := n) (Y := a.eval y') u1 u2 u3 u5 u7.1 u7.2 uu uz l1 (fun hc => absurd hcap hc)
                rw [if_pos hcap, l4] at hfin
                simp only [Result.andThen_ok] at hfin
                dsimp only at h
                split at h
                · rename_i hemp
                  cases h
                  have hnil : new = [] := by simpa using hemp
                  subst hnil
                  have harr : arr.toList = [] := l5
                  rw [harr] at hfin
                  refine ⟨_, w, ι, fin ex hfin, s, Ext.refl _ _ _, by omega, A, cap', rfl, g3, gg⟩
                · rename_i hemp
                  simp only [Option.map_eq_some_iff] at h
                  obtain ⟨H0, h2, h3⟩ := h; cases h3
                  have hnpos : 0 < n := by
                    rcases Nat.eq_zero_or_pos n with h0 | h0
                    · subst h0; simp at l2; subst l2; simp at hemp
                    · exact h0
                  obtain ⟨c, p, z, r, g1, rfl, g4, g5⟩ := gg (by omega)
                  have hr := g5 (by omega)
                  simp only [add_at] at hfin
                  obtain ⟨r1, r2, r3⟩ := run_wr (P := P) hf s g1 h2 l5
                  rw [show r + len * ez = p + (q + len * ez) by omega, r1] at hfin
                  exact ⟨_, _, ι, fin ex hfin, r2, r3, by omega, _, cap', rfl, g3, gg⟩
            · rename_i hfit
              split at h
              · rename_i hgrow
                cases b with
                | none =>
                  obtain ⟨rfl, rfl, ex⟩ := hX
                  dsimp only at h
                  split at h
                  · cases h
                    have hnc : ¬ 0 + n ≤ 0 := by omega
                    have hfin := run_append (P := P) (w := w) (ty := ty) (base := none) (len := 0) (cap' := 0) (n := n) (Y := a.eval y') u1 u2 u3 u5 u7.1 u7.2 uu uz l1 (fun _ => by
                      simp only [growOk, decide_eq_true_eq] at hgrow
                      have : Builtin.nextslicecap (0 + n) 0 = 0 + n := by unfold Builtin.nextslicecap; rw [if_pos (by omega)]
                      rw [this]; exact hgrow)
                    rw [if_neg hnc] at hfin
                    simp only [Nat.zero_add] at hfin
                    have sD : Sim L ι H { w with drawn := w.drawn + 1 } := ⟨s.dn, s.nx, s.lt, s.ok, s.inj⟩
                    obtain ⟨_, _, l3'⟩ := firsts_sound (P := P) sD hfs hY
                    obtain ⟨arr2, k4, k5⟩ := l3' n (Nat.le_refl _)
                    rw [← l2, List.take_length] at k5
                    rw [show (Builtin.firstCells esz 0 (.slice none 0 0)).run P { w with drawn := w.drawn + 1 } = .ok #[] { w with drawn := w.drawn + 1 } from rfl] at hfin
                    simp only [Result.andThen_ok] at hfin
                    rw [k4] at hfin
                    obtain ⟨s2, x2⟩ := sD.fresh (l := new) (arr := (#[] ++ arr2 ++ Builtin.zeroCells zv.cells ((Question.appendCap n 0 e).cut (w.tape w.drawn (Question.appendCap n 0 e)) - n))) e
                      (by have := k5.length; simp at this ⊢; omega) (fun i0 v0 hv0 => by
                        obtain ⟨v', q1, q2⟩ := k5.get hv0
                        refine ⟨v', ?_, q2⟩
                        have hlt : i0 < arr2.size := by rw [← Array.length_toList]; exact (List.getElem?_eq_some_iff.1 q1).1
                        rw [Array.getElem?_append_left (by simp; omega), Array.getElem?_append_right (by simp)]
                        simpa using q1)
                    refine ⟨_, _, _, fin ex hfin, s2, ⟨x2.le, x2.hs, x2.hn, x2.ro, x2.new, x2.kept, x2.dom, x2.os, x2.tape, x2.output⟩, Nat.le_refl _, ?_⟩
                    refine ⟨_, _, rfl, ?_, fun _ => ⟨w.heap.size, 0, _, 0, by unfold Ab.upd; rw [if_pos rfl], rfl, ?_, fun _ => rfl⟩⟩
                    · simp only [Question.cut]; omega
                    · have h1 := k5.length
                      have hcut : n ≤ (Question.appendCap n 0 e).cut (w.tape w.drawn (Question.appendCap n 0 e)) := by simp only [Question.cut]; omega
                      simp only [Array.size_append, Builtin.zeroCells, Array.size_map, Array.size_range, u4]
                      have h1' : arr2.size = n * esz := by rw [← Array.length_toList, ← k5.length, l2]
                      rw [h1', Nat.sub_mul]
                      have := Nat.mul_le_mul_right esz hcut
                      simp; omega
                  · cases h
                | some bo =>
                  obtain ⟨b, q⟩ := bo
                  have hez' : ez = esz := by simpa using hez
                  subst hez'
                  obtain ⟨hlc, A, cap', ex, g3, gg⟩ := hX
                  dsimp only at h
                  split at h
                  · rename_i l hg
                    split at h
                    · rename_i old hp
                      cases h
                      have hol := piece_length hp
                      by_cases hcap : len + n ≤ cap'
                      · -- it grows where it stands
                        obtain ⟨c, p, z, r, g1, rfl, g4, g5⟩ := gg (by omega)
                        have hfin := run_append (P := P) (w := w) (ty := ty) (base := some ⟨c, r, none⟩) (len := len) (cap' := cap') (n := n) (Y := a.eval y') u1 u2 u3 u5 u7.1 u7.2 uu uz l1 (fun hc => absurd hcap hc)
                        rw [if_pos hcap, l4] at hfin
                        simp only [Result.andThen_ok, add_at] at hfin
                        obtain ⟨ar, ty', fz, e1', e2', e3', e4', h5'⟩ := s.row g1 hg
                        have hroom : (len + n) * ez ≤ cap' * ez := Nat.mul_le_mul_right _ hcap
                        rw [Nat.add_mul] at hroom
                        have hst := run_storeCells (P := P) c (r + len * ez) arr.toList w 0 e1' (e4' rfl) (by rw [← l6]; omega) (ones_rel l5 hones)
                        rw [hst] at hfin
                        obtain ⟨s2, x2⟩ := s.grow (n := len * ez) (q := r) (new := new) (ws := arr.toList) g1 hg hp (fun hpos => g5 (by
                          rcases Nat.eq_zero_or_pos cap with h0 | h0
                          · subst h0; simp at hlc; subst hlc; simp at hpos
                          · exact h0)) (by omega) l5
                        refine ⟨_, _, _, fin ex hfin, s2, x2, Nat.le_refl _, _, cap', rfl, hcap, fun _ => ⟨c, r, z, r, by unfold Ab.upd; rw [if_pos rfl], rfl, g4, fun _ => rfl⟩⟩
                      · have hfin := run_append (P := P) (w := w) (ty := ty) (base := some A) (len := len) (cap' := cap') (n := n) (Y := a.eval y') u1 u2 u3 u5 u7.1 u7.2 uu uz l1 (fun hc => by
                          simp only [growOk, decide_eq_true_eq] at hgrow
                          have := nextcap_le (need := len + n) (cap := cap') (by omega)
                          exact Nat.le_trans (Nat.mul_le_mul_right _ this) hgrow)
                        rw [if_neg hcap] at hfin
                        have sD : Sim L ι H { w with drawn := w.drawn + 1 } := ⟨s.dn, s.nx, s.lt, s.ok, s.inj⟩
                        obtain ⟨_, _, l3'⟩ := firsts_sound (P := P) sD hfs hY
                        obtain ⟨arr2, k4, k5⟩ := l3' n (Nat.le_refl _)
                        rw [← l2, List.take_length] at k5
                        have hws : ∃ ws : List Value, RelL L ι old ws ∧ ws.length = len * ez ∧ (0 < cap' → ∃ c r, A = ⟨c, r, none⟩ ∧ ∀ (j : Nat) (v : Value), ws[j]? = some v → (({ w with drawn := w.drawn + 1 } : World)).cell? ⟨c, r + j, none⟩ = some v) := by
                          rcases Nat.eq_zero_or_pos cap' with hc0 | hc0
                          · have hl0 : len = 0 := by omega
                            subst hl0
                            have : old = [] := List.eq_nil_of_length_eq_zero (by simpa using hol)
                            subst this
                            exact ⟨[], rfl, by simp, fun h => by omega⟩
                          · obtain ⟨c, p, z, r, g1, rfl, g4, g5⟩ := gg hc0
                            obtain ⟨ws, j1, j2, j3⟩ := sD.piece g1 hg hp
                            refine ⟨ws, j1, j2, fun _ => ⟨c, r, rfl, fun j v hj => ?_⟩⟩
                            have hj2 : j < len * ez := by rw [← j2]; exact (List.getElem?_eq_some_iff.1 hj).1
                            have hpos : 0 < cap := by
                              rcases Nat.eq_zero_or_pos len with h0 | h0
                              · subst h0; simp at hj2
                              · omega
                            rw [g5 hpos]; exact j3 j v hj
                        obtain ⟨ws, j1, j2, j3⟩ := hws
                        have hold : (Builtin.firstCells ez len (.slice (some A) len cap')).run P { w with drawn := w.drawn + 1 } = .ok ws.toArray { w with drawn := w.drawn + 1 } := by
                          rcases Nat.eq_zero_or_pos cap' with hc0 | hc0
                          · have hl0 : len = 0 := by omega
                            subst hl0
                            have : ws = [] := List.eq_nil_of_length_eq_zero (by simpa using j2)
                            subst this
                            show (loadCells A (0 * ez)).run P _ = _
                            rw [Nat.zero_mul]; rfl
                          obtain ⟨c, r, rfl, j4⟩ := j3 hc0
                          show (loadCells ⟨c, r, none⟩ (len * ez)).run P _ = _
                          exact run_loadCells c r (len * ez) ws j2 j4
                        rw [hold] at hfin
                        simp only [Result.andThen_ok] at hfin
                        rw [k4] at hfin
                        obtain ⟨sK, xK⟩ := sD.kill hg
                        have hcells : RelL L ι (old ++ new) (ws ++ arr2.toList) := j1.append k5
                        obtain ⟨s2, x2⟩ := sK.fresh (l := old ++ new) (arr := (ws.toArray ++ arr2 ++ Builtin.zeroCells zv.cells ((Question.appendCap (len + n) cap' e).cut (w.tape w.drawn (Question.appendCap (len + n) cap' e)) - (len + n)))) e
                          (by have := hcells.length; simp at this ⊢; omega) (fun i0 v0 hv0 => by
                            obtain ⟨v', q1, q2⟩ := hcells.get hv0
                            refine ⟨v', ?_, q2⟩
                            have hlt : i0 < (ws ++ arr2.toList).length := (List.getElem?_eq_some_iff.1 q1).1
                            rw [Array.getElem?_append_left (by simp at hlt ⊢; omega), ← Array.getElem?_toList]
                            simpa using q1)
                        have x3 := xK.trans sD sK x2
                        refine ⟨_, _, _, fin ex hfin, s2, ⟨x3.le, x3.hs, x3.hn, x3.ro, x3.new, x3.kept, x3.dom, x3.os, x3.tape, x3.output⟩, Nat.le_refl _, ?_⟩
                        refine ⟨_, _, rfl, ?_, fun _ => ⟨w.heap.size, 0, _, 0, by unfold Ab.upd; exact if_pos rfl, rfl, ?_, fun _ => rfl⟩⟩
                        · simp only [Question.cut]; omega
                        · have h1 := k5.length
                          have hcut : len + n ≤ (Question.appendCap (len + n) cap' e).cut (w.tape w.drawn (Question.appendCap (len + n) cap' e)) := by simp only [Question.cut]; omega
                          simp only [Array.size_append, Builtin.zeroCells, Array.size_map, Array.size_range, u4]
                          have h1' : arr2.size = n * ez := by rw [← Array.length_toList, ← k5.length, l2]
                          rw [h1', Nat.sub_mul, Nat.add_mul]
                          have := Nat.mul_le_mul_right ez hcut
                          rw [Nat.add_mul] at this
                          simp [j2]; omega
                    · cases h
                  · cases h
              · cases h
          · cases h
      · cases h
    · cases h
  · cases hc

theorem ws_copy (esz : Nat) (x y : Opd) (o : Oper) : WS L P ι H w fr a (.copy esz x y) o := by
  intro v H' hc h
  obtain ⟨d, op, ty, pos, af, g⟩ := o
  cases op <;> simp only [ckW] at hc <;> try cases hc
  rename_i cl
  obtain ⟨cle, args, argTypes⟩ := cl
  unfold ckCpy at hc
  dsimp only at hc
  split at hc
  · rename_i x' y' t rt ha ht
    have ea : args = #[x', y'] := by cases args; simp_all
    obtain ⟨ats, et⟩ : ∃ l, argTypes = (t :: l).toArray := ⟨rt, by rw [← ht]⟩
    subst ea et
    simp only [Bool.and_eq_true] at hc
    obtain ⟨⟨hx, hy⟩, hel⟩ := hc
    obtain ⟨e, i, u1, u2, u5⟩ : ∃ e i, P.underlying t = some (.slice e) ∧ P.info? e = some i ∧ i.size = esz := by
      split at hel
      · rename_i e he
        simp only [Option.any_eq_true, beq_iff_eq] at hel
        obtain ⟨i, h2, h3⟩ := hel
        exact ⟨e, i, he, h2, h3⟩
      · cases hel
    simp only [step] at h
    split at h
    · rename_i X Y e1 e2
      have hX := opd_rel hf hx e1
      have hY := opd_rel hf hy e2
      unfold cpy at h
      split at h
      · rename_i b dlen cap ez n new hfs
        obtain ⟨l1, l2, l3⟩ := firsts_sound (P := P) s hfs hY
        have fin : ∀ {base : Option Addr} {cap' : Nat} {v' : Value} {w' : World}, a.eval x' = .slice base dlen cap' → (Builtin.copy_ (t :: ats).toArray ty #[.slice base dlen cap', a.eval y']).run P w = .ok v' w' →
            Does P ⟨d, .call ⟨.builtin .copy, #[x', y'], (t :: ats).toArray⟩, ty, pos, af, g⟩ a w v' w' := by
          intro base cap' v' w' hX' hrun
          refine .inl ?_
          rw [← hX'] at hrun
          simp only [execOp, resolve, Sem.run_bind, Sem.run_pure, Result.andThen_ok, invoke, builtin, List.map_toArray, List.map_cons, List.map_nil, hrun]
        obtain ⟨arr, l4, l5⟩ := l3 (min n dlen) (Nat.min_le_left _ _)
        have hrun : ∀ (base : Option Addr) (cap' : Nat), (Builtin.copy_ (t :: ats).toArray ty #[.slice base dlen cap', a.eval y']).run P w =
            ((match base with | some a => storeCells a arr.toList | none => pure () : Sem Unit).run P w).andThen fun _ w2 => .ok (goInt (min n dlen : Nat)) w2 := by
          intro base cap'
          unfold Builtin.copy_
          have hmin : Nat.min n dlen = min n dlen := rfl
          simp only [List.getElem?_toArray, List.getElem?_cons_zero, List.getElem?_cons_succ, Sem.run_bind, r_und u1, Result.andThen_ok, l1, r_size u2, u5, hmin, l4]
          cases base <;> simp
        split at h
        · cases h
        · rename_i hez
          cases b with
          | none =>
            obtain ⟨rfl, rfl, ex⟩ := hX
            cases h
            have := hrun none 0
            simp only [Nat.min_zero] at this
            exact ⟨.int .i64 0, w, ι, fin ex this, s, Ext.refl _ _ _, rfl⟩
          | some bo =>
            obtain ⟨b, q⟩ := bo
            have hez' : ez = esz := by simpa using hez
            subst hez'
            obtain ⟨hlc, A, cap', ex, g3, gg⟩ := hX
            have hr := hrun (some A) cap'
            dsimp only at h
            split at h
            · rename_i h0
              cases h
              rw [h0] at l5
              have harr : arr.toList = [] := by simpa [RelL] using l5
              rw [harr] at hr
              exact ⟨_, w, ι, fin ex hr, s, Ext.refl _ _ _, rfl⟩
            · rename_i h0
              simp only [Option.map_eq_some_iff] at h
              obtain ⟨H0, h2, h3⟩ := h; cases h3
              have hd : 0 < dlen := by
                rcases Nat.eq_zero_or_pos dlen with hz | hz
                · subst hz; simp at h0
                · exact hz
              obtain ⟨c, p, z, r, g1, rfl, g4, g5⟩ := gg (by omega)
              obtain ⟨r1, r2, r3⟩ := run_wr (P := P) hf s g1 h2 l5
              rw [g5 (by omega)] at hr
              simp only [r1] at hr
              rw [g5 (by omega)] at ex
              exact ⟨_, _, ι, fin ex hr, r2, r3, rfl⟩
      · cases h
    · cases h
  · cases hc

theorem write_sound (p : AOp) (o : Oper) : WS L P ι H w fr a p o := by
  cases p
  case store n x y => exact ws_store hf s n x y o
  case append esz eb x y => exact ws_append hf s esz eb x y o
  case copy esz x y => exact ws_copy hf s esz x y o
  all_goals (intro v H' hc h; simp [ckW] at hc)

/-- Which operation of the model it is, whatever it does (calls apart). -/
def ckS (L : Lk) (P : Program) (p : AOp) (o : Op) : Bool := ckQ L P p o || ckF L P p o || ckW L P p o

omit hf s in
theorem step_fresh {p : AOp} {o : Op} (hc : ckF L P p o = true) {v : V} {H' : Heap} (h : step fr H p = some (v, H')) : ∃ cs mk, fresh fr p = some (cs, mk) ∧ v = mk H.next ∧ H' = H.new (.cells cs true) := by
  cases p <;> try (simp [ckF] at hc; done)
  all_goals
    simp only [step] at h
    split at h
    · rename_i cs mk hfr
      cases h
      exact ⟨cs, mk, hfr, rfl, rfl⟩
    · cases h

/-- What a step comes to. -/
theorem step_sound {p : AOp} {o : Oper} {v : V} {H' : Heap} (hc : ckS L P p o.op = true) (h : step fr H p = some (v, H')) : ∃ v' w' ι', Does P o a w v' w' ∧ Sim L ι' H' w' ∧ Ext ι H w ι' H' w' ∧ Rel L ι' v v' := by
  simp only [ckS, Bool.or_eq_true] at hc
  rcases hc with (hc | hc) | hc
  · obtain ⟨rfl, v', h1, h2⟩ := quiet_sound (P := P) hf s p o v H' hc h
    exact ⟨v', w, ι, .inl h1, s, Ext.refl _ _ _, h2⟩
  · obtain ⟨cs, mk, h1, rfl, rfl⟩ := step_fresh hc h
    obtain ⟨arr, ty, v', r1, r2, r3⟩ := (fresh_sound (ι := ι) (w := w) hf hc h1).ex
    obtain ⟨s2, x2⟩ := s.fresh (l := cs) (arr := arr) ty (by rw [r2.length, Array.length_toList]; exact Nat.le_refl _) (fun i v hv => by
      obtain ⟨v', q1, q2⟩ := r2.get hv
      exact ⟨v', by rw [Array.getElem?_toList] at q1; exact q1, q2⟩)
    exact ⟨v', _, _, .inl r1, s2, x2, r3 _ _ (by unfold Ab.upd; exact if_pos rfl)⟩
  · exact write_sound hf s p o v H' hc h

end

end Go.Ab
