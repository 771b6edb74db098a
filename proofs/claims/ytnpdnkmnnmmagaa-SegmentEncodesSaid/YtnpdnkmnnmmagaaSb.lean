/- Segments: what they are, which may be. Conditions: none. -/
import Derived.Test.YtnpdnkmnnmmagaaSa
import Derived.Test.YtnpdnkmnnmmagaaBe
import Derived.Test.YtnpdnkmnnmmagaaPSeg
set_option linter.all false
namespace Go.Ab
def r64 (n : Int) : Prop := -9223372036854775808 ≤ n ∧ n ≤ 9223372036854775807
instance (n : Int) : Decidable (r64 n) := by unfold r64; infer_instance
def i64s (l : List Int) : List V := l.map (V.int .i64)
def bools (l : List Bool) : List V := l.map V.bool
structure Sg where
  num : Int
  kind : Int
  page : Int
  refs : List Int
  keep : List Bool
  stay : Bool
  data : List Nat
def Sg.cells (s : Sg) (v1 v2 v3 : V) : List V := [.int .i64 s.num, .int .i64 s.kind, .int .i64 s.page, v1, v2, .bool s.stay, v3]
structure Sg.Ok (s : Sg) : Prop where
  num : r64 s.num
  kind : r64 s.kind
  page : r64 s.page
  refs : ∀ n ∈ s.refs, r64 n
  data : ∀ b ∈ s.data, b < 256
  l1 : s.refs.length ≤ 140737488355328
  l2 : s.keep.length ≤ 140737488355328
  l3 : s.data.length ≤ 140737488355328
/-- A segment's parts can be read. -/
structure SgR (H : Heap) (v1 v2 v3 : V) (s : Sg) : Prop where
  refs : Arr H v1 1 s.refs.length (i64s s.refs)
  keep : Arr H v2 1 s.keep.length (bools s.keep)
  data : Arr H v3 1 s.data.length (u8s s.data)
  ok : s.Ok
def kindOk (k : Int) : Prop := 1 ≤ k ∧ k ≤ 7
def pageK (k : Int) : Int := if k = 7 then 0 else if k = 2 then 1 else 2
def pagedP (p page : Int) : Prop := (p = 0 → page = 0) ∧ (p = 1 → 0 ≤ page ∧ page ≤ 64) ∧ (p ≠ 0 → p ≠ 1 → 1 ≤ page ∧ page ≤ 64)
def refsK (k : Int) : Prop := k = 2 ∨ k = 3
def dataK (k : Int) : Prop := k ≤ 5
instance (k : Int) : Decidable (kindOk k) := by unfold kindOk; infer_instance
instance (k : Int) : Decidable (refsK k) := by unfold refsK; infer_instance
instance (k : Int) : Decidable (dataK k) := by unfold dataK; infer_instance
instance (p page : Int) : Decidable (pagedP p page) := by unfold pagedP; infer_instance
def incrF (bound : Int) : Int → List Int → Bool
  | _, [] => true
  | a, n :: l => decide (a < n) && decide (n < bound) && incrF bound n l
def ruleC (k : Int) : List V := if kindOk k then [.int .i64 (pageK k), .bool (decide (refsK k)), .bool (decide (k = 2)), .bool (decide (dataK k))] else [.int .i64 0, .bool false, .bool false, .bool false]
structure May (s : Sg) : Prop where
  n0 : 0 ≤ s.num
  n1 : s.num < 32768
  kind : kindOk s.kind
  page : pagedP (pageK s.kind) s.page
  keep : s.keep.length = s.refs.length
  refs : 0 < s.refs.length → refsK s.kind
  stay : s.stay = true → s.kind = 2
  data : 0 < s.data.length → dataK s.kind
  most : s.data.length ≤ 67108864
  incr : incrF s.num (-1) s.refs = true
open Classical in
noncomputable def mayB (s : Sg) : Bool := decide (May s)
theorem mayB_t {s : Sg} (h : May s) : mayB s = true := by simp [mayB, h]
theorem mayB_f {s : Sg} (h : ¬ May s) : mayB s = false := by simp [mayB, h]

section
variable {P : Prog} {H : Heap} {R : List As} {Q : Out → Heap → Prop}
theorem rdm_put (H : Heap) (b n o : Nat) (l : List V) (w : Bool) : rd (H.put b (.cells l w)) (some n) b o = (piece l o n).map .agg := rd_m (l := l) (w := w) (by simp only [get_put, if_true]) n o
theorem dec_iff {p q : Prop} [Decidable p] [Decidable q] (h : p ↔ q) : decide p = decide q := decide_eq_decide.2 h
theorem pagedP_0 {p : Int} : pagedP 0 p ↔ p = 0 := by unfold pagedP; omega
theorem pagedP_1 {p : Int} : pagedP 1 p ↔ 0 ≤ p ∧ p ≤ 64 := by unfold pagedP; omega
theorem pagedP_2 {q p : Int} (h0 : q ≠ 0) (h1 : q ≠ 1) : pagedP q p ↔ 1 ≤ p ∧ p ≤ 64 := by unfold pagedP; omega
theorem paged_ct (hp : HasSeg P) {p page : Int} {a b c : Bool} (hs : Hs H R) (hQ : ∀ H', Hs H' R → Q (.ret (.bool (decide (pagedP p page)))) H') : Call P 153 [.agg [.int .i64 p, .bool a, .bool b, .bool c], .int .i64 page] H Q := by
  refine call_of hp.h_segment_rule_paged rfl ?_
  have h1 := hs.alloc (l := [.int .i64 p, .bool a, .bool b, .bool c])
  have hQ := hQ _ h1.tail
  by_cases p0 : p = 0
  · subst p0
    simp -implicitDefEqProofs -dsimp (disch := omega) only [go_sem, Nat.reduceEqDiff, ↓reduceIte, Nat.reduceAdd, Nat.reduceMul, Nat.reduceSub, Nat.reduceLT, Nat.reduceLeDiff, Int.reduceLT, Int.reduceLE, Int.reduceEq, Int.reduceNeg, Int.reduceAdd, Int.reduceMul, Int.reduceSub, Int.reduceToNat, reduceCtorEq, dec_t, dec_f, ]
    rw [show decide (page = 0) = decide (pagedP 0 page) from dec_iff pagedP_0.symm]
    exact hQ
  · by_cases p1 : p = 1
    · subst p1
      by_cases q : 0 ≤ page
      · simp -implicitDefEqProofs -dsimp (disch := omega) only [go_sem, Nat.reduceEqDiff, ↓reduceIte, Nat.reduceAdd, Nat.reduceMul, Nat.reduceSub, Nat.reduceLT, Nat.reduceLeDiff, Int.reduceLT, Int.reduceLE, Int.reduceEq, Int.reduceNeg, Int.reduceAdd, Int.reduceMul, Int.reduceSub, Int.reduceToNat, reduceCtorEq, dec_t, dec_f, ]
        rw [show decide (page ≤ 64) = decide (pagedP 1 page) from dec_iff (by rw [pagedP_1]; omega)]
        exact hQ
      · simp -implicitDefEqProofs -dsimp (disch := omega) only [go_sem, Nat.reduceEqDiff, ↓reduceIte, Nat.reduceAdd, Nat.reduceMul, Nat.reduceSub, Nat.reduceLT, Nat.reduceLeDiff, Int.reduceLT, Int.reduceLE, Int.reduceEq, Int.reduceNeg, Int.reduceAdd, Int.reduceMul, Int.reduceSub, Int.reduceToNat, reduceCtorEq, dec_t, dec_f, ]
        rw [dec_f (show ¬ pagedP 1 page by rw [pagedP_1]; omega)] at hQ
        exact hQ
    · by_cases q : 1 ≤ page
      · simp -implicitDefEqProofs -dsimp (disch := omega) only [go_sem, Nat.reduceEqDiff, ↓reduceIte, Nat.reduceAdd, Nat.reduceMul, Nat.reduceSub, Nat.reduceLT, Nat.reduceLeDiff, Int.reduceLT, Int.reduceLE, Int.reduceEq, Int.reduceNeg, Int.reduceAdd, Int.reduceMul, Int.reduceSub, Int.reduceToNat, reduceCtorEq, dec_t, dec_f, ]
        rw [show decide (page ≤ 64) = decide (pagedP p page) from dec_iff (by rw [pagedP_2 p0 p1]; omega)]
        exact hQ
      · simp -implicitDefEqProofs -dsimp (disch := omega) only [go_sem, Nat.reduceEqDiff, ↓reduceIte, Nat.reduceAdd, Nat.reduceMul, Nat.reduceSub, Nat.reduceLT, Nat.reduceLeDiff, Int.reduceLT, Int.reduceLE, Int.reduceEq, Int.reduceNeg, Int.reduceAdd, Int.reduceMul, Int.reduceSub, Int.reduceToNat, reduceCtorEq, dec_t, dec_f, ]
        rw [dec_f (show ¬ pagedP p page by rw [pagedP_2 p0 p1]; omega)] at hQ
        exact hQ
theorem allowed_ct (hp : HasSeg P) {k : Int} (hs : Hs H R) (hQ : ∀ H', Hs H' R → Q (.ret (.tup [.agg (ruleC k), .bool (decide (kindOk k))])) H') : Call P 152 [.int .i64 k] H Q := by
  refine call_of hp.h_segment_allowed rfl ?_
  have h1 := hs.alloc (l := [.int .i64 0, .bool false, .bool false, .bool false])
  have h2 := h1.alloc (l := [.int .i64 0, .bool false, .bool false, .bool false, .int .i64 2, .bool false, .bool false, .bool true, .int .i64 1, .bool true, .bool true, .bool true, .int .i64 2, .bool true, .bool false, .bool true, .int .i64 2, .bool false, .bool false, .bool true, .int .i64 2, .bool false, .bool false, .bool true, .int .i64 2, .bool false, .bool false, .bool false, .int .i64 0, .bool false, .bool false, .bool false])
  rw [next_new] at h2
  have c1 := rd_m h2.cel 4
  have w1 := fun l => wr_s (Hs.p1 h2).cel 0 l
  have hQ := fun l => hQ _ ((Hs.put (l' := l) (Hs.p1 h2)).tail.tail)
  by_cases q : kindOk k
  · have q' := q
    obtain ⟨q1, q2⟩ := q'
    have hQ := hQ (ruleC k)
    rw [dec_t q] at hQ
    unfold ruleC at hQ
    simp only [if_pos q] at hQ
    rcases (show k = 1 ∨ k = 2 ∨ k = 3 ∨ k = 4 ∨ k = 5 ∨ k = 6 ∨ k = 7 by omega) with rfl | rfl | rfl | rfl | rfl | rfl | rfl
    all_goals
      simp -implicitDefEqProofs -dsimp (disch := omega) only [go_sem, Nat.reduceEqDiff, ↓reduceIte, Nat.reduceAdd, Nat.reduceMul, Nat.reduceSub, Nat.reduceLT, Nat.reduceLeDiff, Int.reduceLT, Int.reduceLE, Int.reduceEq, Int.reduceNeg, Int.reduceAdd, Int.reduceMul, Int.reduceSub, Int.reduceToNat, reduceCtorEq, dec_t, dec_f, c1, w1, rdm_put]
      exact hQ
  · have hQ := hQ [.int .i64 0, .bool false, .bool false, .bool false]
    rw [dec_f q, ruleC, if_neg q] at hQ
    unfold kindOk at q
    rcases (show k ≤ 0 ∨ ¬ k ≤ 0 ∧ 8 ≤ k by omega) with q | ⟨q, q2⟩
    all_goals
      simp -implicitDefEqProofs -dsimp (disch := omega) only [go_sem, Nat.reduceEqDiff, ↓reduceIte, Nat.reduceAdd, Nat.reduceMul, Nat.reduceSub, Nat.reduceLT, Nat.reduceLeDiff, Int.reduceLT, Int.reduceLE, Int.reduceEq, Int.reduceNeg, Int.reduceAdd, Int.reduceMul, Int.reduceSub, Int.reduceToNat, reduceCtorEq, dec_t, dec_f, w1, rdm_put]
      exact hQ
end
end Go.Ab
