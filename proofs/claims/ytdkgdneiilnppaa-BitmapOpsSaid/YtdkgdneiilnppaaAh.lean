/- Each operation that computes or reads, against the model's. Conditions: none. -/
import Derived.Test.YtdkgdneiilnppaaAg
set_option linter.all false
namespace Go.Ab
variable {L : Lk} {ι : Im} {H : Heap} {w : World} {P : Program} {fr : Fr} {a : Act}

/-- What is shown of each. -/
def QS (L : Lk) (P : Program) (ι : Im) (H : Heap) (w : World) (fr : Fr) (a : Act) (p : AOp) (o : Oper) : Prop :=
  ∀ v H', ckQ L P p o.op = true → step fr H p = some (v, H') → H' = H ∧ ∃ v', Yld P o a w v' ∧ Rel L ι v v'

section
variable (hf : FrRel L ι fr a.tmps) (s : Sim L ι H w)
include hf

theorem qs_mv (x : Opd) (o : Oper) : QS L P ι H w fr a (.mv x) o := by
  intro v H' hc h
  obtain ⟨d, op, ty, pos, af, g⟩ := o
  simp only [step, Option.map_eq_some_iff] at h
  obtain ⟨u, h1, h2⟩ := h; cases h2
  cases op <;> simp only [ckQ] at hc <;> first | cases hc | exact ⟨rfl, _, rfl, opd_rel hf hc h1⟩

theorem qs_pick (c x y : Opd) (o : Oper) : QS L P ι H w fr a (.pick c x y) o := by
  intro v H' hc h
  obtain ⟨d, op, ty, pos, af, g⟩ := o
  cases op <;> simp only [ckQ] at hc <;> try cases hc
  rename_i c' x' y'
  simp only [Bool.and_eq_true] at hc
  simp only [step] at h
  split at h
  · rename_i t ht
    simp only [Option.map_eq_some_iff] at h
    obtain ⟨u, h1, h2⟩ := h; cases h2
    have hb := opd_rel hf hc.1.1 ht
    refine ⟨rfl, if t then a.eval x' else a.eval y', ?_, ?_⟩
    · show (Sem.run P _ w) = _
      simp only [execOp, show a.eval c' = .bool t from hb, asBool]
      cases t <;> rfl
    · cases t
      · exact opd_rel hf hc.2 h1
      · exact opd_rel hf hc.1.2 h1
  · cases h

theorem qs_bin (b : BinOp) (k : BK) (x y : Opd) (o : Oper) : QS L P ι H w fr a (.bin b k x y) o := by
  intro v H' hc h
  obtain ⟨d, op, ty, pos, af, g⟩ := o
  cases op <;> simp only [ckQ] at hc <;> try cases hc
  rename_i b' t x' y' yt
  simp only [Bool.and_eq_true, decide_eq_true_eq] at hc
  obtain ⟨⟨⟨rfl, hk⟩, hx⟩, hy⟩ := hc
  simp only [step] at h
  split at h
  · rename_i u1 u2 e1 e2
    simp only [Option.map_eq_some_iff] at h
    obtain ⟨u, h1, h2⟩ := h; cases h2
    obtain ⟨v', r1, r2⟩ := bin_sound (P := P) (w := w) (X := x') (Y := y') hk h1 (opd_rel hf hx e1) (opd_rel hf hy e2)
    refine ⟨rfl, v', ?_, r2⟩
    show (Sem.run P _ w) = _
    simp only [execOp, Sem.run_bind] at r1 ⊢
    rw [r1]; rfl
  · cases h

theorem qs_un (b : UnOp) (x : Opd) (o : Oper) : QS L P ι H w fr a (.un b x) o := by
  intro v H' hc h
  obtain ⟨d, op, ty, pos, af, g⟩ := o
  cases op <;> simp only [ckQ] at hc <;> try cases hc
  simp only [Bool.and_eq_true, decide_eq_true_eq] at hc
  obtain ⟨rfl, hx⟩ := hc
  simp only [step] at h
  split at h
  · rename_i u1 e1
    simp only [Option.map_eq_some_iff] at h
    obtain ⟨u, h1, h2⟩ := h; cases h2
    obtain ⟨v', r1, r2⟩ := unop_sound (P := P) (w := w) h1 (opd_rel hf hx e1)
    exact ⟨rfl, v', by show (Sem.run P _ w) = _; simp only [execOp, Sem.run_bind, r1]; rfl, r2⟩
  · cases h

theorem qs_conv (k : IntKind) (x : Opd) (o : Oper) : QS L P ι H w fr a (.conv k x) o := by
  intro v H' hc h
  obtain ⟨d, op, ty, pos, af, g⟩ := o
  cases op <;> simp only [ckQ] at hc <;> try cases hc
  rename_i src dst x'
  obtain ⟨hc, hx⟩ := and2 hc
  simp only [step] at h
  split at h
  · rename_i k0 n e1
    cases h
    split at hc
    · rename_i k1 k2 hs hd
      simp only [decide_eq_true_eq] at hc; subst hc
      refine ⟨rfl, _, ?_, rfl⟩
      show (Sem.run P _ w) = _
      have e : a.eval x' = .int k0 n := opd_rel hf hx e1
      simp only [execOp, convert, e, Sem.run_bind, r_und hs, r_und hd, Result.andThen_ok]
      rfl
    · cases hc
  · cases h

theorem qs_fad (off : Nat) (x : Opd) (o : Oper) : QS L P ι H w fr a (.fad off x) o := by
  intro v H' hc h
  obtain ⟨d, op, ty, pos, af, g⟩ := o
  cases op <;> simp only [ckQ] at hc <;> try cases hc
  rename_i st x' f
  obtain ⟨hc, hx⟩ := and2 hc
  simp only [step] at h
  split at h
  · rename_i b q e1
    cases h
    split at hc
    · rename_i fs hs
      simp only [Option.any_eq_true, Bool.and_eq_true, beq_iff_eq, bne_iff_ne] at hc
      obtain ⟨fl, h1, h2, i, h3, h4⟩ := hc
      obtain ⟨c, p, z, e, e2⟩ := opd_rel hf hx e1
      refine ⟨rfl, .pointer (some ⟨c, p + q + off, none⟩), ?_, c, p, z, e, by rw [Nat.add_assoc]⟩
      show (Sem.run P _ w) = _
      simp only [execOp, Instr.fieldAt, e2, Instr.sureAddr, Sem.run_bind, r_und hs, Result.andThen_ok, h1, fieldPlace, r_size h3, Sem.run_pure, Sem.run_ite, h4, if_false, h2, add_at]
    · cases hc
  · cases h

theorem qs_fld (off : Nat) (n : Option Nat) (x : Opd) (o : Oper) : QS L P ι H w fr a (.fld off n x) o := by
  intro v H' hc h
  obtain ⟨d, op, ty, pos, af, g⟩ := o
  cases op <;> simp only [ckQ] at hc <;> try cases hc
  rename_i st x' f
  obtain ⟨hc, hx⟩ := and2 hc
  simp only [step] at h
  split at h
  · rename_i cs e1
    split at hc
    · rename_i fs hs
      simp only [Option.any_eq_true, Bool.and_eq_true, beq_iff_eq] at hc
      obtain ⟨fl, h1, h2, h3⟩ := hc
      obtain ⟨vs, e2, hr⟩ := opd_rel hf hx e1
      simp only [Option.map_eq_some_iff] at h
      obtain ⟨u, k1, k2⟩ := h; cases k2
      obtain ⟨v', r1, r2⟩ := part_sound (P := P) (w := w) h3 hr k1
      refine ⟨rfl, v', ?_, r2⟩
      show (Sem.run P _ w) = _
      simp only [execOp, Instr.field, e2, asAgg, Sem.run_bind, r_und hs, Result.andThen_ok, h1, Sem.run_pure, h2, r1]
    · cases hc
  · cases h

omit hf in
theorem int_bounds {j : Int} {n : Nat} (h : 0 ≤ j ∧ j < n) : 0 ≤ j ∧ j < (n : Int) := h

theorem qs_iad (arr : Option Nat) (esz : Nat) (x i : Opd) (o : Oper) : QS L P ι H w fr a (.iad arr esz x i) o := by
  intro v H' hc h
  obtain ⟨d, op, ty, pos, af, g⟩ := o
  cases arr with
  | none =>
    cases op <;> simp only [ckQ] at hc <;> try cases hc
    rename_i t x' i'
    obtain ⟨hc, hi⟩ := and2 hc
    obtain ⟨hc, hx⟩ := and2 hc
    obtain ⟨e, inf, hu, hinf, hsz⟩ := ckEl_spec hc
    simp only [step] at h
    split at h
    · rename_i b q k j e1 e2; cases h
    · rename_i b q len cap ez k j e1 e2
      split at h
      · rename_i hez; subst hez
        split at h
        · rename_i hj
          cases h
          obtain ⟨hl, A, cap', g2, g3, gg⟩ := opd_rel hf hx e1
          obtain ⟨c, p, z, r, g1, rfl, g4, g5⟩ := gg (by omega)
          have hj' : a.eval i' = .int k j := opd_rel hf hi e2
          have hr := g5 (by omega)
          refine ⟨rfl, .pointer (some ⟨c, p + q + j.toNat * ez, none⟩), ?_, c, p, z, g1, by rw [Nat.add_assoc]⟩
          show (Sem.run P _ w) = _
          simp only [execOp, Instr.indexAt, g2, hj', asIntOf, Sem.run_bind, r_und hu, Result.andThen_ok, Sem.run_pure, Sem.run_ite, r_size hinf, hsz, add_at]
          rw [if_pos hj, hr]; rfl
        · cases h
      · cases h
    · cases h
  | some m =>
    cases op <;> simp only [ckQ] at hc <;> try cases hc
    rename_i t x' i'
    obtain ⟨hc, hi⟩ := and2 hc
    obtain ⟨hc, hx⟩ := and2 hc
    simp only [step] at h
    split at hc
    · rename_i n e hu
      simp only [Bool.and_eq_true, beq_iff_eq, Option.any_eq_true] at hc
      obtain ⟨rfl, inf, hinf, hsz⟩ := hc
      split at h
      · rename_i b q k j e1 e2
        split at h
        · rename_i hj
          cases h
          obtain ⟨c, p, z, g1, g2⟩ := opd_rel hf hx e1
          have hj' : a.eval i' = .int k j := opd_rel hf hi e2
          refine ⟨rfl, .pointer (some ⟨c, p + q + j.toNat * esz, none⟩), ?_, c, p, z, g1, by rw [Nat.add_assoc]⟩
          show (Sem.run P _ w) = _
          simp only [execOp, Instr.indexAt, g2, hj', asIntOf, Instr.sureAddr, Sem.run_bind, r_und hu, Result.andThen_ok, Sem.run_pure, Sem.run_ite, r_size hinf, hsz, add_at]
          rw [if_pos hj]; rfl
        · cases h
      · rename_i b q len cap ez k j e1 e2; cases h
      · cases h
    · cases hc

theorem qs_idx (arr : Option Nat) (esz : Nat) (n : Option Nat) (x i : Opd) (o : Oper) : QS L P ι H w fr a (.idx arr esz n x i) o := by
  intro v H' hc h
  obtain ⟨d, op, ty, pos, af, g⟩ := o
  cases arr with
  | none =>
    cases op <;> simp only [ckQ] at hc <;> try cases hc
    rename_i t x' i'
    obtain ⟨hc, hi⟩ := and2 hc
    obtain ⟨hc, hx⟩ := and2 hc
    simp only [step] at h
    split at hc
    · rename_i hu
      split at h
      · rename_i cs k j e1 e2; cases h
      · rename_i st k j e1 e2
        split at h
        · rename_i hj
          simp only [Option.map_eq_some_iff] at h
          obtain ⟨u, h1, h2⟩ := h; cases h2
          have ex : a.eval x' = .string st := opd_rel hf hx e1
          have ej : a.eval i' = .int k j := opd_rel hf hi e2
          refine ⟨rfl, .int .u8 u.toNat, ?_, rfl⟩
          show (Sem.run P _ w) = _
          simp only [execOp, Instr.index, ex, ej, asIntOf, Sem.run_bind, r_und hu, Result.andThen_ok, Sem.run_pure, hj, if_true, h1]
        · cases h
      · cases h
    · cases hc
  | some m =>
    cases op <;> simp only [ckQ] at hc <;> try cases hc
    rename_i t x' i'
    obtain ⟨hc, hi⟩ := and2 hc
    obtain ⟨hc, hx⟩ := and2 hc
    simp only [step] at h
    split at hc
    · rename_i k0 e hu
      simp only [Bool.and_eq_true, beq_iff_eq, Option.any_eq_true] at hc
      obtain ⟨⟨rfl, hag⟩, inf, hinf, hsz⟩ := hc
      split at h
      · rename_i cs k j e1 e2
        split at h
        · rename_i hj
          obtain ⟨vs, ex, hr⟩ := opd_rel hf hx e1
          have ej : a.eval i' = .int k j := opd_rel hf hi e2
          simp only [Option.map_eq_some_iff] at h
          obtain ⟨u, k1, k2⟩ := h; cases k2
          obtain ⟨v', r1, r2⟩ := part_sound (P := P) (w := w) hag hr k1
          refine ⟨rfl, v', ?_, r2⟩
          show (Sem.run P _ w) = _
          simp only [execOp, Instr.index, ex, ej, asIntOf, Sem.run_bind, r_und hu, Result.andThen_ok, Sem.run_pure, Sem.run_ite, r_size hinf, hsz, r1]
          rw [if_pos hj]; rfl
        · cases h
      · rename_i st k j e1 e2; cases h
      · cases h
    · cases hc

theorem qs_slice (esz : Nat) (x : Opd) (lo hi mx : Option Opd) (o : Oper) : QS L P ι H w fr a (.slice esz x lo hi mx) o := by
  intro v H' hc h
  obtain ⟨d, op, ty, pos, af, g⟩ := o
  cases op <;> simp only [ckQ] at hc <;> try cases hc
  rename_i t x' lo' hi' mx'
  simp only [Bool.and_eq_true] at hc
  obtain ⟨⟨⟨⟨⟨hel, hx⟩, hl⟩, hh⟩, hm⟩, hm3⟩ := hc
  obtain ⟨e, inf, hu, hinf, hsz⟩ := ckEl_spec hel
  simp only [step] at h
  split at h
  · rename_i b len cap ez rlo rhi rmx e1 e2 e3 e4
    split at h
    · cases h
    · rename_i hez
      split at h
      · rename_i m hm1
        split at h
        · rename_i hh0 hh1
          split at h
          · rename_i l hl1
            obtain ⟨l1, l2⟩ := optd_rel hf hl e2
            obtain ⟨h1, h2⟩ := optd_rel hf hh e3
            obtain ⟨m1, m2⟩ := optd_rel hf hm e4
            have hm4 : rhi = none → rmx = none := by
              intro hn; subst hn
              cases hi with
              | some y => simp [optd] at e3
              | none => cases mx with
                | none => cases e4; rfl
                | some y => simp at hm3
            cases b with
            | none =>
              cases h
              obtain ⟨rfl, rfl, ex⟩ := opd_rel hf hx e1
              obtain ⟨m', r1, q1, q2, q3, q4, q5⟩ := slice_bounds (P := P) (w := w) (cap' := 0) (Nat.le_refl 0) (Nat.le_refl 0) l1 l2 h1 h2 m1 m2 hm4 hm1 hh1 hl1
              have : l = 0 ∧ hh0 = 0 ∧ m = 0 ∧ m' = 0 := by omega
              obtain ⟨rfl, rfl, rfl, rfl⟩ := this
              refine ⟨rfl, .slice none 0 0, ?_, rfl, rfl, rfl⟩
              show (Sem.run P _ w) = _
              simp only [execOp, Instr.sliceAt, Instr.slice, ex, Sem.run_bind, r_und hu, Result.andThen_ok, r1, r_size hinf, Sem.run_pure]
              rfl
            | some bo =>
              obtain ⟨b, q⟩ := bo
              cases h
              have hez' : ez = esz := by simpa using hez
              subst hez'
              obtain ⟨hlc, A, cap', ex, g3, gg⟩ := opd_rel hf hx e1
              obtain ⟨m', r1, q1, q2, q3, q4, q5⟩ := slice_bounds (P := P) (w := w) g3 hlc l1 l2 h1 h2 m1 m2 hm4 hm1 hh1 hl1
              rcases Nat.eq_zero_or_pos cap' with hc0 | hc0
              · have hml : m' = l := by omega
                refine ⟨rfl, .slice (some A) (hh0 - l) (m' - l), ?_, ?_⟩
                · show (Sem.run P _ w) = _
                  simp only [execOp, Instr.sliceAt, Instr.slice, ex, Sem.run_bind, r_und hu, Result.andThen_ok, r1, r_size hinf, hsz, Sem.run_pure, Option.map_some]
                  rw [if_pos hml]
                · exact ⟨by omega, A, m' - l, rfl, by omega, fun h => by omega⟩
              obtain ⟨c, p, z, r, g1, rfl, g4, g5⟩ := gg hc0
              refine ⟨rfl, .slice (some (if m' = l then ⟨c, r, none⟩ else ⟨c, r + l * ez, none⟩)) (hh0 - l) (m' - l), ?_, ?_⟩
              · show (Sem.run P _ w) = _
                simp only [execOp, Instr.sliceAt, Instr.slice, ex, Sem.run_bind, r_und hu, Result.andThen_ok, r1, r_size hinf, hsz, Sem.run_pure, Option.map_some, add_at]
                split <;> rfl
              · refine ⟨by omega, _, m' - l, rfl, by omega, fun _ => ⟨c, p, z, if m' = l then r else r + l * ez, g1, by split <;> rfl, ?_, fun hpos => ?_⟩⟩
                · split
                  · rename_i hml; subst hml; simp; exact Nat.le_trans (Nat.le_add_right _ _) g4
                  · have h2 : (l + (m' - l)) * ez ≤ cap' * ez := Nat.mul_le_mul_right _ (by omega)
                    rw [Nat.add_mul] at h2; omega
                · have hml : m' ≠ l := by omega
                  rw [if_neg hml, g5 (by omega), Nat.add_assoc]
          · cases h
        · cases h
      · cases h
  · cases h

theorem qs_substr (x : Opd) (lo hi : Option Opd) (o : Oper) : QS L P ι H w fr a (.substr x lo hi) o := by
  intro v H' hc h
  obtain ⟨d, op, ty, pos, af, g⟩ := o
  cases op <;> simp only [ckQ] at hc <;> try cases hc
  rename_i t x' lo' hi' mx'
  cases mx' with
  | some y => simp [ckQ] at hc
  | none =>
    simp only [ckQ, Bool.and_eq_true] at hc
    obtain ⟨⟨⟨hel, hx⟩, hl⟩, hh⟩ := hc
    simp only [step] at h
    split at hel
    · rename_i hu
      split at h
      · rename_i st rlo rhi e1 e2 e3
        split at h
        · rename_i hh0 hh1
          split at h
          · rename_i l hl1
            cases h
            obtain ⟨l1, l2⟩ := optd_rel hf hl e2
            obtain ⟨h1, h2⟩ := optd_rel hf hh e3
            have ex : a.eval x' = .string st := opd_rel hf hx e1
            have r1 : (Instr.sliceBounds false st.size st.size (lo'.map a.eval) (hi'.map a.eval) none).run P w = .ok (l, hh0, st.size) w := by
              unfold Instr.sliceBounds
              rcases bound_sound (P := P) (w := w) (code := .sliceAlen) h1 h2 hh1 (Nat.le_refl _) with ⟨_, k0, rfl⟩ | ⟨v', k0, hr, _⟩
              · rw [k0]
                rcases bound_sound (P := P) (w := w) (code := .sliceB) l1 l2 hl1 (Nat.le_refl _) with ⟨_, k1, rfl⟩ | ⟨v'', k1, hr1, _⟩
                · rw [k1]; rfl
                · rw [k1]; simp [hr1]
              · rw [k0]
                rcases bound_sound (P := P) (w := w) (code := .sliceB) l1 l2 hl1 (Nat.le_refl _) with ⟨_, k1, rfl⟩ | ⟨v'', k1, hr1, _⟩
                · rw [k1]; simp [hr]
                · rw [k1]; simp [hr, hr1]
            refine ⟨rfl, .string (st.extract l hh0), ?_, rfl⟩
            show (Sem.run P _ w) = _
            simp only [execOp, Instr.sliceAt, Instr.slice, ex, Sem.run_bind, r_und hu, Result.andThen_ok, Option.map_none, Option.isSome_none, Bool.false_eq_true, if_false, r1, Sem.run_pure]
          · cases h
        · cases h
      · cases h
    · cases hel

theorem qs_nilck (x : Opd) (o : Oper) : QS L P ι H w fr a (.nilck x) o := by
  intro v H' hc h
  obtain ⟨d, op, ty, pos, af, g⟩ := o
  cases op <;> simp only [ckQ] at hc <;> try cases hc
  rename_i x'
  simp only [step] at h
  split at h
  · rename_i b e1
    cases h
    obtain ⟨b, q⟩ := b
    obtain ⟨c, p, z, g1, g2⟩ := opd_rel hf hc e1
    refine ⟨rfl, _, ?_, c, p, z, g1, rfl⟩
    show (Sem.run P _ w) = _
    simp only [execOp, g2]; rfl
  · cases h

theorem qs_ext (i : Nat) (x : Opd) (o : Oper) : QS L P ι H w fr a (.ext i x) o := by
  intro v H' hc h
  obtain ⟨d, op, ty, pos, af, g⟩ := o
  cases op <;> simp only [ckQ] at hc <;> try cases hc
  rename_i x' j
  simp only [Bool.and_eq_true, beq_iff_eq] at hc
  obtain ⟨rfl, hx⟩ := hc
  simp only [step] at h
  split at h
  · rename_i l e1
    simp only [Option.map_eq_some_iff] at h
    obtain ⟨u, h1, h2⟩ := h; cases h2
    obtain ⟨vs, e, hr⟩ := opd_rel hf hx e1
    obtain ⟨v', r1, r2⟩ := hr.get h1
    rw [Array.getElem?_toList] at r1
    refine ⟨rfl, v', ?_, r2⟩
    show (Sem.run P _ w) = _
    simp only [execOp, e, Instr.extract, r1]; rfl
  · cases h

theorem qs_mkifc (t : Nat) (x : Opd) (o : Oper) : QS L P ι H w fr a (.mkifc t x) o := by
  intro v H' hc h
  obtain ⟨d, op, ty, pos, af, g⟩ := o
  cases op <;> simp only [ckQ] at hc <;> try cases hc
  rename_i t' x'
  simp only [Bool.and_eq_true, beq_iff_eq] at hc
  obtain ⟨⟨rfl, ht⟩, hx⟩ := hc
  simp only [step, Option.map_eq_some_iff] at h
  obtain ⟨u, h1, h2⟩ := h; cases h2
  refine ⟨rfl, .iface (L.τ t) (a.eval x'), ?_, _, rfl, opd_rel hf hx h1⟩
  show (Sem.run P _ w) = _
  simp only [execOp, Instr.makeInterface, Sem.run_bind]
  split at ht
  · cases ht
  · rename_i d hno hd
    rw [r_und hd]
    simp only [Result.andThen_ok]
    rfl
  · cases ht

theorem qs_mkfn (g0 : Nat) (first caps : List Opd) (o : Oper) : QS L P ι H w fr a (.mkfn g0 first caps) o := by
  intro v H' hc h
  obtain ⟨d, op, ty, pos, af, g⟩ := o
  cases op <;> simp only [ckQ] at hc <;> try cases hc
  rename_i fn first' caps'
  cases fn <;> simp only [ckQ] at hc <;> try cases hc
  rename_i f
  simp only [Bool.and_eq_true, beq_iff_eq] at hc
  obtain ⟨⟨⟨hd, rfl⟩, h1⟩, h2⟩ := hc
  simp only [step] at h
  split at h
  · rename_i u1 u2 e1 e2
    cases h
    refine ⟨rfl, .func (.func (L.φ g0)) (first'.map a.eval) (caps'.map a.eval), rfl, _, _, rfl, hd, ?_, ?_⟩
    · rw [Array.toList_map]; exact opds_rel hf h1 e1
    · rw [Array.toList_map]; exact opds_rel hf h2 e2
  · cases h

omit hf in
theorem two_args {xs : Array Operand} {x : Operand} (h : xs.toList = [x]) : xs = #[x] := by cases xs; simp_all

theorem qs_len (arr : Option Nat) (x : Opd) (o : Oper) : QS L P ι H w fr a (.len arr x) o := by
  intro v H' hc h
  obtain ⟨d, op, ty, pos, af, g⟩ := o
  cases op <;> simp only [ckQ] at hc <;> try cases hc
  rename_i cl
  obtain ⟨callee, args, argTypes⟩ := cl
  unfold ckLen at hc
  dsimp only at hc
  split at hc
  · rename_i x' t hargs htys
    obtain ⟨hx, ht⟩ := and2 hc
    obtain rfl := two_args hargs
    have et : argTypes = #[t] := by cases argTypes; simp_all
    subst et
    have run : ∀ (n : Nat), (Builtin.len_ #[t] ty #[a.eval x']).run P w = .ok (goInt n) w → Yld P ⟨d, .call ⟨.builtin .len, #[x'], #[t]⟩, ty, pos, af, g⟩ a w (.int .i64 n) := by
      intro n hn
      show (Sem.run P _ w) = _
      simp only [execOp, resolve, Sem.run_bind, Sem.run_pure, Result.andThen_ok, invoke, builtin, List.map_toArray, List.map_cons, List.map_nil, hn]
      rfl
    split at ht
    · rename_i e hu
      simp only [step] at h
      split at h
      · rename_i b len cap ez e1
        cases h
        have : ∃ b' cap', a.eval x' = .slice b' len cap' := by
          cases b with
          | none => obtain ⟨rfl, _, ex⟩ := opd_rel hf hx e1; exact ⟨_, _, ex⟩
          | some b => obtain ⟨_, _, _, ex, _⟩ := opd_rel hf hx e1; exact ⟨_, _, ex⟩
        obtain ⟨b', cap', ex⟩ := this
        exact ⟨rfl, _, run len (by rw [ex]; unfold Builtin.len_; simp [r_und hu]), rfl⟩
      · cases h
    · rename_i m e n hu
      simp only [beq_iff_eq] at ht; subst ht
      simp only [step, Option.map_eq_some_iff] at h
      obtain ⟨u, h1, h2⟩ := h; cases h2
      exact ⟨rfl, _, run _ (by unfold Builtin.len_; simp [r_und hu]), rfl⟩
    · cases ht
  · cases hc

theorem qs_slen (x : Opd) (o : Oper) : QS L P ι H w fr a (.slen x) o := by
  intro v H' hc h
  obtain ⟨d, op, ty, pos, af, g⟩ := o
  cases op <;> simp only [ckQ] at hc <;> try cases hc
  rename_i cl
  obtain ⟨callee, args, argTypes⟩ := cl
  unfold ckSlen at hc
  dsimp only at hc
  split at hc
  · rename_i x' t hargs htys
    obtain ⟨hx, ht⟩ := and2 hc
    obtain rfl := two_args hargs
    have et : argTypes = #[t] := by cases argTypes; simp_all
    subst et
    split at ht
    · rename_i hu
      simp only [step] at h
      split at h
      · rename_i st e1
        cases h
        have ex : a.eval x' = .string st := opd_rel hf hx e1
        refine ⟨rfl, .int .i64 st.size, ?_, rfl⟩
        show (Sem.run P _ w) = _
        have hn : (Builtin.len_ #[t] ty #[a.eval x']).run P w = .ok (goInt st.size) w := by rw [ex]; unfold Builtin.len_; simp [r_und hu]
        simp only [execOp, resolve, Sem.run_bind, Sem.run_pure, Result.andThen_ok, invoke, builtin, List.map_toArray, List.map_cons, List.map_nil, hn]
        rfl
      · cases h
    · cases ht
  · cases hc

theorem qs_mm (mx : Bool) (xs : List Opd) (o : Oper) : QS L P ι H w fr a (.mm mx xs) o := by
  intro v H' hc h
  obtain ⟨d, op, ty, pos, af, g⟩ := o
  cases op <;> simp only [ckQ] at hc <;> try cases hc
  rename_i cl
  obtain ⟨callee, args, argTypes⟩ := cl
  simp only [step] at h
  split at h
  · rename_i x r e1
    simp only [Option.map_eq_some_iff] at h
    obtain ⟨u, h1, h2⟩ := h; cases h2
    have key : ∀ {b : Builtin} {f : Value → Value → Sem Value}, callee = .builtin b → ckOpds L xs args.toList = true → f = (if mx then Builtin.max2 else Builtin.min2) →
        (∀ (cs : Array Bool) (vs : List Value), (∀ x r, vs = x :: r → (builtin b argTypes ty cs vs.toArray).run P w = ((r.foldlM f x).run P w).andThen fun v w' => .ok (.value v) w')) →
        ∃ v', Yld P ⟨d, .call ⟨callee, args, argTypes⟩, ty, pos, af, g⟩ a w v' ∧ Rel L ι v v' := by
      intro b f hb hck hff hrun
      subst hb hff
      have hl := opds_rel hf hck e1
      obtain ⟨x', s', es, hx', hr'⟩ := hl
      obtain ⟨v', q1, q2⟩ := mm_sound (P := P) (w := w) h1 hx' hr'
      refine ⟨v', ?_, q2⟩
      show (Sem.run P _ w) = _
      simp only [execOp, resolve, Sem.run_bind, Sem.run_pure, Result.andThen_ok, invoke]
      have := hrun (args.map fun | .const _ => true | _ => false) _ x' s' es
      rw [← Array.toList_map, Array.toArray_toList] at this
      rw [q1] at this
      exact this.trans rfl
    unfold ckMM at hc
    dsimp only at hc
    split at hc
    · obtain ⟨hm, hck⟩ := and2 hc
      subst hm
      exact ⟨rfl, key rfl hck rfl (fun cs vs x r e => by subst e; simp [builtin, Builtin.max_, Builtin.min_])⟩
    · obtain ⟨hm, hck⟩ := and2 hc
      have hm' : mx = false := by simpa using hm
      subst hm'
      exact ⟨rfl, key rfl hck rfl (fun cs vs x r e => by subst e; simp [builtin, Builtin.max_, Builtin.min_])⟩
    · cases hc
  · cases h

omit hf in
theorem parts3_get {fr : Fr} : ∀ {ps : List (Nat × Nat × Opd)} {l : List (Nat × Nat × V)}, parts3 fr ps = some l → l.length = ps.length ∧
    ∀ (j o n : Nat) (v : V), l[j]? = some (o, n, v) → ∃ x, ps[j]? = some (o, n, x) ∧ opd fr x = some v
  | [], l, h => by cases h; exact ⟨rfl, by simp⟩
  | (o, n, x) :: ps, l, h => by
    simp only [parts3] at h
    split at h
    · rename_i v l' h1 h2
      cases h
      obtain ⟨hl, hg⟩ := parts3_get h2
      refine ⟨by simp [hl], fun j o' n' v' hj => ?_⟩
      cases j with
      | zero => simp at hj; obtain ⟨rfl, rfl, rfl⟩ := hj; exact ⟨x, rfl, h1⟩
      | succ j => simpa using hg j o' n' v' (by simpa using hj)
    · cases h

omit hf in
theorem zip_all {α β : Type} {f : α × β → Bool} : ∀ {l : List α} {m : List β}, (l.zip m).all f = true → ∀ (j : Nat) (x : α) (y : β), l[j]? = some x → m[j]? = some y → f (x, y) = true
  | [], _, _, j, x, y, h, _ => by simp at h
  | _ :: _, [], _, j, x, y, _, h => by simp at h
  | a :: l, b :: m, h, j, x, y, hx, hy => by
    simp only [List.zip_cons_cons, List.all_cons, Bool.and_eq_true] at h
    cases j with
    | zero => simp at hx hy; subst hx hy; exact h.1
    | succ j => exact zip_all h.2 j x y (by simpa using hx) (by simpa using hy)

omit hf in
theorem run_listMapM {α β : Type} {f : α → Sem β} {g : α → β} : ∀ (l : List α), (∀ x ∈ l, (f x).run P w = .ok (g x) w) → (l.mapM f).run P w = .ok (l.map g) w
  | [], _ => rfl
  | x :: l, h => by
    rw [List.mapM_cons, Sem.run_bind, h x (by simp)]
    simp only [Result.andThen_ok, Sem.run_bind, run_listMapM l (fun y hy => h y (by simp [hy])), Sem.run_pure, List.map_cons]

omit hf in
theorem run_arrayMapM {α β : Type} {f : α → Sem β} {g : α → β} (l : Array α) (h : ∀ x ∈ l, (f x).run P w = .ok (g x) w) : (l.mapM f).run P w = .ok (l.map g) w := by
  rw [Array.mapM_eq_mapM_toList, Sem.run_map, run_listMapM l.toList (fun x hx => h x (by simpa using hx))]
  simp only [Result.andThen_ok]
  congr 1
  rw [← Array.toList_map, Array.toArray_toList]

theorem qs_build (z : List V) (ps : List (Nat × Nat × Opd)) (o : Oper) : QS L P ι H w fr a (.build z ps) o := by
  intro v H' hc h
  obtain ⟨d, op, ty, pos, af, g⟩ := o
  cases op <;> simp only [ckQ] at hc <;> try cases hc
  rename_i t parts
  simp only [step] at h
  split at h
  · rename_i l hp
    simp only [Option.map_eq_some_iff] at h
    obtain ⟨cs, h1, h2⟩ := h; cases h2
    obtain ⟨hpl, hpg⟩ := parts3_get hp
    have ht : ∃ inf zv, P.info? t = some inf ∧ inf.zero = some zv ∧ (P.info? t).bind (·.zero) = some zv := by
      split at hc
      · rename_i zv _ hz; cases hi : P.info? t with
        | none => rw [hi] at hz; cases hz
        | some inf => rw [hi] at hz; exact ⟨inf, zv, rfl, hz, hz⟩
      · rename_i zv _ hz; cases hi : P.info? t with
        | none => rw [hi] at hz; cases hz
        | some inf => rw [hi] at hz; exact ⟨inf, zv, rfl, hz, hz⟩
      · cases hc
    obtain ⟨inf, zv, hi, hz, hzz⟩ := ht
    rw [hzz] at hc
    split at hc
    · rename_i fs zv' hu hzv
      cases hzv
      simp only [Bool.and_eq_true, beq_iff_eq] at hc
      obtain ⟨⟨⟨c1, c2⟩, c3⟩, c4⟩ := hc
      have hsz : ∀ f ∈ fs, ∃ i, P.info? f.type = some i := by
        intro f hm
        have := (Array.all_eq_true_iff_forall_mem.1 c4) f hm
        exact Option.isSome_iff_exists.1 this
      have hplaces : (fs.mapM (fun f => do pure (f.offset, ← sizeOf f.type) : Field → Sem (Nat × Nat))).run P w = .ok (fs.map fun f => (f.offset, ((P.info? f.type).map (·.size)).getD 0)) w := by
        refine run_arrayMapM fs (fun f hm => ?_)
        obtain ⟨i, hi⟩ := hsz f hm
        simp [r_size hi, hi]
      obtain ⟨arr', r1, r2⟩ := fill_sound (L := L) (ι := ι) (place := fun i => (fs.map fun f => (f.offset, ((P.info? f.type).map (·.size)).getD 0))[i]?) (ps := l) (qs := (parts.map fun (i, x) => (i, a.eval x)).toList)
        (cells := z) (cs := cs) (arr := zv.cells) (by simp [hpl, c2]) (fun j o n v i x e1 e2 => by
          obtain ⟨x0, g1, g2⟩ := hpg j o n v e1
          simp only [Array.toList_map, List.getElem?_map, Option.map_eq_some_iff] at e2
          obtain ⟨⟨i', y⟩, e3, e4⟩ := e2
          cases e4
          have := zip_all c3 j _ _ g1 e3
          simp only [Bool.and_eq_true, Option.any_eq_true, beq_iff_eq] at this
          obtain ⟨k1, f, k2, k3, k4⟩ := this
          obtain ⟨hn, i2, k5, k6⟩ := ckSize_spec k4
          exact ⟨hn, by simp [k2, k3, k5, k6], opd_rel hf k1 g2⟩) (ckVL_rel L ι _ _ c1) h1
      refine ⟨rfl, .agg arr', ?_, _, rfl, r2⟩
      show (Sem.run P _ w) = _
      simp only [execOp, Instr.build, Sem.run_bind, r_zero hi hz, Result.andThen_ok, r_und hu, hplaces, r1]
      rfl
    · rename_i k0 e zv' hu hzv
      cases hzv
      simp only [Bool.and_eq_true, beq_iff_eq] at hc
      obtain ⟨⟨⟨c1, c0⟩, c2⟩, c3⟩ := hc
      · obtain ⟨i2, k5⟩ := Option.isSome_iff_exists.1 c0
        obtain ⟨arr', r1, r2⟩ := fill_sound (L := L) (ι := ι) (place := fun i => some (i * i2.size, i2.size)) (ps := l) (qs := (parts.map fun (i, x) => (i, a.eval x)).toList)
          (cells := z) (cs := cs) (arr := zv.cells) (by simp [hpl, c2]) (fun j o n v i x e1 e2 => by
            obtain ⟨x0, g1, g2⟩ := hpg j o n v e1
            simp only [Array.toList_map, List.getElem?_map, Option.map_eq_some_iff] at e2
            obtain ⟨⟨i', y⟩, e3, e4⟩ := e2
            cases e4
            have := zip_all c3 j _ _ g1 e3
            simp only [Bool.and_eq_true, beq_iff_eq] at this
            obtain ⟨⟨k1, k2⟩, k4⟩ := this
            obtain ⟨hn, i3, k6, k7⟩ := ckSize_spec k4
            rw [k5] at k6; cases k6
            exact ⟨hn, by rw [k2, k7], opd_rel hf k1 g2⟩) (ckVL_rel L ι _ _ c1) h1
        refine ⟨rfl, .agg arr', ?_, _, rfl, r2⟩
        show (Sem.run P _ w) = _
        simp only [execOp, Instr.build, Sem.run_bind, r_zero hi hz, Result.andThen_ok, r_und hu, r_size k5, r1]
        rfl
    · cases hc
  · cases h

theorem qs_load (s : Sim L ι H w) (n : Option Nat) (x : Opd) (o : Oper) : QS L P ι H w fr a (.load n x) o := by
  intro v H' hc h
  obtain ⟨d, op, ty, pos, af, g⟩ := o
  cases op <;> simp only [ckQ] at hc <;> try cases hc
  rename_i t x'
  obtain ⟨hag, hx⟩ := and2 hc
  simp only [step] at h
  split at h
  · rename_i b q e1
    simp only [Option.map_eq_some_iff] at h
    obtain ⟨u, h1, h2⟩ := h; cases h2
    obtain ⟨c, p, z, g1, ex⟩ := opd_rel hf hx e1
    unfold ckAgg at hag
    split at hag
    · rename_i d0 hd
      cases n with
      | none =>
        simp only [Bool.not_eq_true'] at hag
        obtain ⟨v', r1, r2⟩ := s.load1 g1 h1
        refine ⟨rfl, v', ?_, r2⟩
        show (Sem.run P _ w) = _
        simp only [execOp, Instr.loadAt, ex, Instr.sureAddr, loadVar, Sem.run_bind, Sem.run_pure, Result.andThen_ok, r_isAgg hd, hag, Bool.false_eq_true, if_false, run_load_some r1]
      | some n =>
        obtain ⟨ha, hi⟩ := and2 hag
        simp only [Option.any_eq_true, beq_iff_eq] at hi
        obtain ⟨i, hi1, hi2⟩ := hi
        obtain ⟨arr, r1, r2⟩ := s.loadN (P := P) g1 h1
        refine ⟨rfl, .agg arr, ?_, r2⟩
        show (Sem.run P _ w) = _
        simp only [execOp, Instr.loadAt, ex, Instr.sureAddr, loadVar, Sem.run_bind, Sem.run_pure, Result.andThen_ok, r_isAgg hd, ha, if_true, r_size hi1, hi2, r1]
    · cases hag
  · cases h

/-- All of them. -/
theorem quiet_sound (s : Sim L ι H w) (p : AOp) (o : Oper) : QS L P ι H w fr a p o := by
  cases p
  case mv x => exact qs_mv hf x o
  case pick c x y => exact qs_pick hf c x y o
  case bin b k x y => exact qs_bin hf b k x y o
  case un b x => exact qs_un hf b x o
  case conv k x => exact qs_conv hf k x o
  case load n x => exact qs_load hf s n x o
  case fad off x => exact qs_fad hf off x o
  case fld off n x => exact qs_fld hf off n x o
  case iad arr esz x i => exact qs_iad hf arr esz x i o
  case idx arr esz n x i => exact qs_idx hf arr esz n x i o
  case slice esz x lo hi mx => exact qs_slice hf esz x lo hi mx o
  case substr x lo hi => exact qs_substr hf x lo hi o
  case nilck x => exact qs_nilck hf x o
  case ext i x => exact qs_ext hf i x o
  case mkifc t x => exact qs_mkifc hf t x o
  case mkfn g f c => exact qs_mkfn hf g f c o
  case len arr x => exact qs_len hf arr x o
  case slen x => exact qs_slen hf x o
  case mm mx xs => exact qs_mm hf mx xs o
  case build z ps => exact qs_build hf z ps o
  all_goals (intro v H' hc h; simp [ckQ] at hc)

end
end Go.Ab
