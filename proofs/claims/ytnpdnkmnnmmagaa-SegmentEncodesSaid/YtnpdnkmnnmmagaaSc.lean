/- Segments: whether one may be. Conditions: none. -/
import Derived.Test.YtnpdnkmnnmmagaaSb
set_option linter.all false
namespace Go.Ab
section
variable {P : Prog} {H : Heap} {R : List As} {Q : Out → Heap → Prop}
theorem SgR.same {H H' : Heap} {v1 v2 v3 : V} {s : Sg} (h : SgR H v1 v2 v3 s) (k : Same (fun _ => False) H H') : SgR H' v1 v2 v3 s :=
  ⟨h.refs.same k fun _ _ h => h, h.keep.same k fun _ _ h => h, h.data.same k fun _ _ h => h, h.ok⟩
theorem pagedS (hp : HasSeg P) {p page : Int} {a b c : Bool} (hQ : ∀ H', Same (fun _ => False) H H' → Q (.ret (.bool (decide (pagedP p page)))) H') : Call P 153 [.agg [.int .i64 p, .bool a, .bool b, .bool c], .int .i64 page] H Q :=
  paged_ct hp (Hs.start H) fun H' h => hQ H' h.base
theorem allowedS (hp : HasSeg P) {k : Int} (hQ : ∀ H', Same (fun _ => False) H H' → Q (.ret (.tup [.agg (ruleC k), .bool (decide (kindOk k))])) H') : Call P 152 [.int .i64 k] H Q :=
  allowed_ct hp (Hs.start H) fun H' h => hQ H' h.base
theorem arr_int {H : Heap} {v : V} {l : List Int} (h : Arr H v 1 l.length (i64s l)) {i : Nat} (hi : i < l.length) : ∃ b o c, v = .sl (some (b, o)) l.length c 1 ∧ rd H none b (o + i) = some (.int .i64 l[i]) := by
  obtain ⟨b, o, c, hv, _, h1, _⟩ := h.at hi
  have := h1 0 (by omega)
  refine ⟨b, o, c, hv, ?_⟩
  simpa [i64s, hi] using this
theorem arr_bool {H : Heap} {v : V} {l : List Bool} (h : Arr H v 1 l.length (bools l)) {i : Nat} (hi : i < l.length) : ∃ b o c, v = .sl (some (b, o)) l.length c 1 ∧ rd H none b (o + i) = some (.bool l[i]) := by
  obtain ⟨b, o, c, hv, _, h1, _⟩ := h.at hi
  have := h1 0 (by omega)
  refine ⟨b, o, c, hv, ?_⟩
  simpa [bools, hi] using this
theorem incr_drop {b a : Int} {l : List Int} {i : Nat} (hi : i < l.length) : incrF b a (l.drop i) = (decide (a < l[i]) && decide (l[i] < b) && incrF b l[i] (l.drop (i + 1))) := by
  rw [List.drop_eq_getElem_cons hi, incrF]
def sckF (b : Nat) (v : V) (n : Nat) (x : Nat × Int) : Fr := ⟨[(1, .ptr (some (b, 0))), (5, .int .i64 x.2), (78, v), (79, .int .i64 (n : Nat)), (80, .int .i64 (x.1 : Nat))], []⟩
theorem chk_loop {b1 : Nat} {v : V} {l : List Int} {num : Int} {cs : List V} (hr : Arr H v 1 l.length (i64s l)) (hl : l.length ≤ 140737488355328) (hc : H.get b1 = .cells (.int .i64 num :: cs) true) {Qp : Post} {s' t'}
    (h1 : incrF num (-1) l = true → ∀ ex, Qp (.exit 0) ⟨(1, .ptr (some (b1, 0))) :: ex, []⟩ H) (h2 : incrF num (-1) l = false → ∀ ex, Qp .ret ⟨(2, .bool false) :: ex, []⟩ H) :
    loopL (Call P) [1, 5, 78, 79, 80] segment_Check_l0 Qp s' t' (sckF b1 v l.length (0, -1)) H := by
  refine loop_dec (σ := Nat × Int) (fun x => l.length - x.1) (sckF b1 v l.length) (fun x H' => H' = H ∧ x.1 ≤ l.length ∧ incrF num x.2 (l.drop x.1) = incrF num (-1) l) (fun x H' K ok hn hx hy => ?_) (0, -1) H ⟨rfl, Nat.zero_le _, rfl⟩
  obtain ⟨i, a⟩ := x
  obtain ⟨rfl, hi, hin⟩ := ok
  dsimp only at hi hin hn
  have rc := rd_s hc
  unfold sckF
  by_cases hlt : i < l.length
  · obtain ⟨b, o, c, rfl, rl⟩ := arr_int hr hlt
    have hd := incr_drop (b := num) (a := a) hlt
    have hn := hn (i + 1, l[i]) H'
    dsimp only at hn
    have hret : incrF num (-1) l = false → ∀ ex, K .ret ⟨(2, .bool false) :: ex, []⟩ H' := fun k ex => by rw [hy]; exact h2 k ex
    generalize l[i] = n at *
    rcases (show n ≤ a ∨ a < n ∧ num ≤ n ∨ a < n ∧ n < num by omega) with q | ⟨q, q2⟩ | ⟨q, q2⟩
    · simp -implicitDefEqProofs -dsimp (disch := omega) only [go_sem, Nat.reduceEqDiff, ↓reduceIte, Nat.reduceAdd, Nat.reduceMul, Nat.reduceSub, Nat.reduceLT, Nat.reduceLeDiff, Int.reduceLT, Int.reduceLE, Int.reduceEq, Int.reduceNeg, Int.reduceAdd, Int.reduceMul, Int.reduceSub, Int.reduceToNat, reduceCtorEq, dec_t, dec_f, segment_Check_l0, Int.toNat_natCast, Nat.mul_one, rl]
      exact hret (by rw [← hin, hd, dec_f (by omega)]; rfl) _
    · simp -implicitDefEqProofs -dsimp (disch := omega) only [go_sem, Nat.reduceEqDiff, ↓reduceIte, Nat.reduceAdd, Nat.reduceMul, Nat.reduceSub, Nat.reduceLT, Nat.reduceLeDiff, Int.reduceLT, Int.reduceLE, Int.reduceEq, Int.reduceNeg, Int.reduceAdd, Int.reduceMul, Int.reduceSub, Int.reduceToNat, reduceCtorEq, dec_t, dec_f, segment_Check_l0, Int.toNat_natCast, Nat.mul_one, rl, rc]
      exact hret (by rw [← hin, hd, dec_t q, dec_f (by omega)]; rfl) _
    · simp -implicitDefEqProofs -dsimp (disch := omega) only [go_sem, Nat.reduceEqDiff, ↓reduceIte, Nat.reduceAdd, Nat.reduceMul, Nat.reduceSub, Nat.reduceLT, Nat.reduceLeDiff, Int.reduceLT, Int.reduceLE, Int.reduceEq, Int.reduceNeg, Int.reduceAdd, Int.reduceMul, Int.reduceSub, Int.reduceToNat, reduceCtorEq, dec_t, dec_f, segment_Check_l0, Int.toNat_natCast, Nat.mul_one, rl, rc, w64, cadd1]
      refine hn (by omega) ⟨rfl, by omega, ?_⟩
      rw [← hin, hd, dec_t q, dec_t q2]; rfl
  · have hi' : i = l.length := by omega
    subst hi'
    rw [List.drop_length, incrF] at hin
    simp -implicitDefEqProofs -dsimp (disch := omega) only [go_sem, Nat.reduceEqDiff, ↓reduceIte, Nat.reduceAdd, Nat.reduceMul, Nat.reduceSub, Nat.reduceLT, Nat.reduceLeDiff, Int.reduceLT, Int.reduceLE, Int.reduceEq, Int.reduceNeg, Int.reduceAdd, Int.reduceMul, Int.reduceSub, Int.reduceToNat, reduceCtorEq, dec_t, dec_f, segment_Check_l0]
    rw [hx]
    exact h1 hin.symm _
set_option maxHeartbeats 1000000 in
theorem check_ct (hp : HasSeg P) {v1 v2 v3 : V} {s : Sg} (h : SgR H v1 v2 v3 s) (hQ : ∀ H', Same (fun _ => False) H H' → Q (.ret (.bool (mayB s))) H') : Call P 154 [.agg (s.cells v1 v2 v3)] H Q := by
  obtain ⟨num, kind, page, refs, keep, stay, data⟩ := s
  have h0 := h
  obtain ⟨hr, hk, hd, ho⟩ := h
  dsimp only at hr hk hd
  obtain ⟨a1, c1, e1, rfl⟩ := hr.shape
  obtain ⟨a2, c2, e2, rfl⟩ := hk.shape
  obtain ⟨a3, c3, e3, rfl⟩ := hd.shape
  have l1 := ho.l1
  have l2 := ho.l2
  have l3 := ho.l3
  dsimp only at l1 l2 l3
  refine call_of hp.h_segment_Check rfl ?_
  have h1 := (Hs.start H).alloc (l := [.int .i64 num, .int .i64 kind, .int .i64 page, .sl a1 refs.length c1 e1, .sl a2 keep.length c2 e2, .bool stay, .sl a3 data.length c3 e3])
  have fls : ¬ May ⟨num, kind, page, refs, keep, stay, data⟩ → ∀ H', Same (fun _ => False) H H' → Q (.ret (.bool false)) H' := fun k H' s => by
    rw [← mayB_f k]; exact hQ H' s
  unfold Sg.cells
  simp -implicitDefEqProofs -dsimp (disch := omega) only [go_sem, Nat.reduceEqDiff, ↓reduceIte, Nat.reduceAdd, Nat.reduceMul, Nat.reduceSub, Nat.reduceLT, Nat.reduceLeDiff, Int.reduceLT, Int.reduceLE, Int.reduceEq, Int.reduceNeg, Int.reduceAdd, Int.reduceMul, Int.reduceSub, Int.reduceToNat, reduceCtorEq, dec_t, dec_f, ]
  generalize H.new _ = H1 at *
  generalize H.next = b1 at *
  refine allowedS hp fun H2 s2 => ?_
  have h2 := h1.keep s2
  by_cases ik : kindOk kind
  · rw [dec_t ik, ruleC, if_pos ik]
    have h3 := h2.alloc (l := [.int .i64 (pageK kind), .bool (decide (refsK kind)), .bool (decide (kind = 2)), .bool (decide (dataK kind))])
    have r1 := rd_s (Hs.p1 h3).cel
    have r3 := rd_m h3.cel 4
    have r4 := rd_s h3.cel
    rcases (show num < 0 ∨ 0 ≤ num ∧ 32768 ≤ num ∨ 0 ≤ num ∧ num < 32768 by omega) with q | ⟨q, q2⟩ | ⟨q, q2⟩
    · simp -implicitDefEqProofs -dsimp (disch := omega) only [go_sem, Nat.reduceEqDiff, ↓reduceIte, Nat.reduceAdd, Nat.reduceMul, Nat.reduceSub, Nat.reduceLT, Nat.reduceLeDiff, Int.reduceLT, Int.reduceLE, Int.reduceEq, Int.reduceNeg, Int.reduceAdd, Int.reduceMul, Int.reduceSub, Int.reduceToNat, reduceCtorEq, dec_t, dec_f, r1]
      exact fls (fun m => by have := m.n0; dsimp only at this; omega) _ (h3.tail.tail).base
    · simp -implicitDefEqProofs -dsimp (disch := omega) only [go_sem, Nat.reduceEqDiff, ↓reduceIte, Nat.reduceAdd, Nat.reduceMul, Nat.reduceSub, Nat.reduceLT, Nat.reduceLeDiff, Int.reduceLT, Int.reduceLE, Int.reduceEq, Int.reduceNeg, Int.reduceAdd, Int.reduceMul, Int.reduceSub, Int.reduceToNat, reduceCtorEq, dec_t, dec_f, r1]
      exact fls (fun m => by have := m.n1; dsimp only at this; omega) _ (h3.tail.tail).base
    · simp -implicitDefEqProofs -dsimp (disch := omega) only [go_sem, Nat.reduceEqDiff, ↓reduceIte, Nat.reduceAdd, Nat.reduceMul, Nat.reduceSub, Nat.reduceLT, Nat.reduceLeDiff, Int.reduceLT, Int.reduceLE, Int.reduceEq, Int.reduceNeg, Int.reduceAdd, Int.reduceMul, Int.reduceSub, Int.reduceToNat, reduceCtorEq, dec_t, dec_f, r1, r3]
      refine pagedS hp fun H4 s4 => ?_
      have h4 := h3.keep s4
      have r1 := rd_s (Hs.p1 h4).cel
      have r4 := rd_s h4.cel
      have fl : ¬ May ⟨num, kind, page, refs, keep, stay, data⟩ → Q (.ret (.bool false)) H4 := fun k => fls k _ (h4.tail.tail).base
      by_cases ip : pagedP (pageK kind) page
      · rw [dec_t ip]
        by_cases il : keep.length = refs.length
        · have pass : (0 < refs.length → refsK kind) → (stay = true → kind = 2) → (0 < data.length → dataK kind) → data.length ≤ 67108864 → incrF num (-1) refs = true → Q (.ret (.bool true)) H4 := fun k1 k2 k3 k4 k5 => by
            rw [← mayB_t (s := ⟨num, kind, page, refs, keep, stay, data⟩) ⟨q, q2, ik, ip, il, k1, k2, k3, k4, k5⟩]
            exact hQ _ (h4.tail.tail).base
          have hrr := hr.same (h4.tail.tail).base fun _ _ h => h
          have cc := (Hs.p1 h4).cel
          by_cases f1 : 0 < refs.length ∧ ¬ refsK kind
          · obtain ⟨f1, f2⟩ := f1
            rw [dec_f f2] at r4
            simp -implicitDefEqProofs -dsimp (disch := omega) only [go_sem, Nat.reduceEqDiff, ↓reduceIte, Nat.reduceAdd, Nat.reduceMul, Nat.reduceSub, Nat.reduceLT, Nat.reduceLeDiff, Int.reduceLT, Int.reduceLE, Int.reduceEq, Int.reduceNeg, Int.reduceAdd, Int.reduceMul, Int.reduceSub, Int.reduceToNat, reduceCtorEq, dec_t, dec_f, r1, r4]
            exact fl fun m => f2 (m.refs f1)
          · have g1 : 0 < refs.length → refsK kind := fun k => Classical.not_not.1 fun k2 => f1 ⟨k, k2⟩
            clear f1
            by_cases f2 : stay = true ∧ kind ≠ 2
            · obtain ⟨rfl, f2⟩ := f2
              rw [dec_f f2] at r4
              have no := fl fun m => f2 (m.stay rfl)
              by_cases z : 0 < refs.length
              · rw [dec_t (g1 z)] at r4
                simp -implicitDefEqProofs -dsimp (disch := omega) only [go_sem, Nat.reduceEqDiff, ↓reduceIte, Nat.reduceAdd, Nat.reduceMul, Nat.reduceSub, Nat.reduceLT, Nat.reduceLeDiff, Int.reduceLT, Int.reduceLE, Int.reduceEq, Int.reduceNeg, Int.reduceAdd, Int.reduceMul, Int.reduceSub, Int.reduceToNat, reduceCtorEq, dec_t, dec_f, r1, r4]
                exact no
              · simp -implicitDefEqProofs -dsimp (disch := omega) only [go_sem, Nat.reduceEqDiff, ↓reduceIte, Nat.reduceAdd, Nat.reduceMul, Nat.reduceSub, Nat.reduceLT, Nat.reduceLeDiff, Int.reduceLT, Int.reduceLE, Int.reduceEq, Int.reduceNeg, Int.reduceAdd, Int.reduceMul, Int.reduceSub, Int.reduceToNat, reduceCtorEq, dec_t, dec_f, r1, r4]
                exact no
            · have g2 : stay = true → kind = 2 := fun k => Classical.not_not.1 fun k2 => f2 ⟨k, k2⟩
              clear f2
              by_cases f3 : 0 < data.length ∧ ¬ dataK kind
              · obtain ⟨f3, f4⟩ := f3
                rw [dec_f f4] at r4
                have no := fl fun m => f4 (m.data f3)
                by_cases z : 0 < refs.length
                · rw [dec_t (g1 z)] at r4
                  cases stay
                  · simp -implicitDefEqProofs -dsimp (disch := omega) only [go_sem, Nat.reduceEqDiff, ↓reduceIte, Nat.reduceAdd, Nat.reduceMul, Nat.reduceSub, Nat.reduceLT, Nat.reduceLeDiff, Int.reduceLT, Int.reduceLE, Int.reduceEq, Int.reduceNeg, Int.reduceAdd, Int.reduceMul, Int.reduceSub, Int.reduceToNat, reduceCtorEq, dec_t, dec_f, r1, r4]
                    exact no
                  · rw [dec_t (g2 rfl)] at r4
                    simp -implicitDefEqProofs -dsimp (disch := omega) only [go_sem, Nat.reduceEqDiff, ↓reduceIte, Nat.reduceAdd, Nat.reduceMul, Nat.reduceSub, Nat.reduceLT, Nat.reduceLeDiff, Int.reduceLT, Int.reduceLE, Int.reduceEq, Int.reduceNeg, Int.reduceAdd, Int.reduceMul, Int.reduceSub, Int.reduceToNat, reduceCtorEq, dec_t, dec_f, r1, r4]
                    exact no
                · cases stay
                  · simp -implicitDefEqProofs -dsimp (disch := omega) only [go_sem, Nat.reduceEqDiff, ↓reduceIte, Nat.reduceAdd, Nat.reduceMul, Nat.reduceSub, Nat.reduceLT, Nat.reduceLeDiff, Int.reduceLT, Int.reduceLE, Int.reduceEq, Int.reduceNeg, Int.reduceAdd, Int.reduceMul, Int.reduceSub, Int.reduceToNat, reduceCtorEq, dec_t, dec_f, r1, r4]
                    exact no
                  · rw [dec_t (g2 rfl)] at r4
                    simp -implicitDefEqProofs -dsimp (disch := omega) only [go_sem, Nat.reduceEqDiff, ↓reduceIte, Nat.reduceAdd, Nat.reduceMul, Nat.reduceSub, Nat.reduceLT, Nat.reduceLeDiff, Int.reduceLT, Int.reduceLE, Int.reduceEq, Int.reduceNeg, Int.reduceAdd, Int.reduceMul, Int.reduceSub, Int.reduceToNat, reduceCtorEq, dec_t, dec_f, r1, r4]
                    exact no
              · have g3 : 0 < data.length → dataK kind := fun k => Classical.not_not.1 fun k2 => f3 ⟨k, k2⟩
                clear f3
                have no := fun k : 67108864 < data.length => fl fun m => by have := m.most; dsimp only at this; omega
                have cc1 := fun ex => chk_loop (P := P) (b1 := b1) (num := num) (cs := ex) hrr l1
                by_cases z : 0 < refs.length <;> cases hst : stay <;> by_cases y : 0 < data.length <;> by_cases z4 : 67108864 < data.length
                all_goals
                  first
                  | rw [dec_t (g1 z)] at r4
                  | skip
                  first
                  | rw [dec_t (g2 hst)] at r4
                  | skip
                  first
                  | rw [dec_t (g3 y)] at r4
                  | skip
                  subst hst
                  first
                  | omega
                  | (simp -implicitDefEqProofs -dsimp (disch := omega) only [go_sem, Nat.reduceEqDiff, ↓reduceIte, Nat.reduceAdd, Nat.reduceMul, Nat.reduceSub, Nat.reduceLT, Nat.reduceLeDiff, Int.reduceLT, Int.reduceLE, Int.reduceEq, Int.reduceNeg, Int.reduceAdd, Int.reduceMul, Int.reduceSub, Int.reduceToNat, reduceCtorEq, dec_t, dec_f, r1, r4]
                     first
                     | exact no z4
                     | (refine cc1 _ cc (fun k ex => ?_) (fun k ex => ?_)
                        · simp -implicitDefEqProofs -dsimp (disch := omega) only [go_sem, Nat.reduceEqDiff, ↓reduceIte, Nat.reduceAdd, Nat.reduceMul, Nat.reduceSub, Nat.reduceLT, Nat.reduceLeDiff, Int.reduceLT, Int.reduceLE, Int.reduceEq, Int.reduceNeg, Int.reduceAdd, Int.reduceMul, Int.reduceSub, Int.reduceToNat, reduceCtorEq, dec_t, dec_f, ]
                          exact pass g1 g2 g3 (by omega) k
                        · simp -implicitDefEqProofs -dsimp (disch := omega) only [go_sem, Nat.reduceEqDiff, ↓reduceIte, Nat.reduceAdd, Nat.reduceMul, Nat.reduceSub, Nat.reduceLT, Nat.reduceLeDiff, Int.reduceLT, Int.reduceLE, Int.reduceEq, Int.reduceNeg, Int.reduceAdd, Int.reduceMul, Int.reduceSub, Int.reduceToNat, reduceCtorEq, dec_t, dec_f, ]
                          exact fl fun m => by have := m.incr; dsimp only at this; rw [k] at this; cases this))
        · simp -implicitDefEqProofs -dsimp (disch := omega) only [go_sem, Nat.reduceEqDiff, ↓reduceIte, Nat.reduceAdd, Nat.reduceMul, Nat.reduceSub, Nat.reduceLT, Nat.reduceLeDiff, Int.reduceLT, Int.reduceLE, Int.reduceEq, Int.reduceNeg, Int.reduceAdd, Int.reduceMul, Int.reduceSub, Int.reduceToNat, reduceCtorEq, dec_t, dec_f, r1]
          exact fl fun m => il m.keep
      · rw [dec_f ip]
        simp -implicitDefEqProofs -dsimp (disch := omega) only [go_sem, Nat.reduceEqDiff, ↓reduceIte, Nat.reduceAdd, Nat.reduceMul, Nat.reduceSub, Nat.reduceLT, Nat.reduceLeDiff, Int.reduceLT, Int.reduceLE, Int.reduceEq, Int.reduceNeg, Int.reduceAdd, Int.reduceMul, Int.reduceSub, Int.reduceToNat, reduceCtorEq, dec_t, dec_f, r1]
        exact fl fun m => ip m.page
  · rw [dec_f ik, ruleC, if_neg ik]
    have h3 := h2.alloc (l := [.int .i64 0, .bool false, .bool false, .bool false])
    simp -implicitDefEqProofs -dsimp (disch := omega) only [go_sem, Nat.reduceEqDiff, ↓reduceIte, Nat.reduceAdd, Nat.reduceMul, Nat.reduceSub, Nat.reduceLT, Nat.reduceLeDiff, Int.reduceLT, Int.reduceLE, Int.reduceEq, Int.reduceNeg, Int.reduceAdd, Int.reduceMul, Int.reduceSub, Int.reduceToNat, reduceCtorEq, dec_t, dec_f, ]
    exact fls (fun m => ik m.kind) _ (h3.tail.tail).base
end
end Go.Ab
