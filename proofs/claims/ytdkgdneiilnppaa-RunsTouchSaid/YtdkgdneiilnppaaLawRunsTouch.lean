/- The law RunsTouch. Conditions: none. -/
import Derived.Test.YtdkgdneiilnppaaRh
import Derived.Test.YtdkgdneiilnppaaPL9Touch
set_option linter.all false
namespace Go.Ab
structure HasL9 (P : Prog) : Prop where
  bm : HasBm P
  rz : HasRz P
  ru : HasRu P
  rf : HasRf9 P
/-- Neighbours among the pixels below x. -/
def nrP (a b : Int × Int) (x : Int) : Prop := b.1 < b.2 ∧ a.1 < x ∧ a.1 ≤ b.2 ∧ b.1 ≤ x
instance (a b : Int × Int) (x : Int) : Decidable (nrP a b x) := by unfold nrP; infer_instance
def ToF (p b4 b5 i : Nat) (t nr : Bool) (x : Int) : Fr := ⟨[(1, .ptr (some (p, 0))), (3, .int .i64 i), (4, .ptr (some (b4, 0))), (5, .ptr (some (b5, 0))), (6, .bool t), (7, .bool nr), (8, .int .i64 x)], []⟩
theorem near_loop {P : Prog} {H : Heap} {R : List As} {a b : Int × Int} {p b4 b5 i : Nat} {t : Bool} (h4 : Hs H (Cel b5 [.int .i64 b.1, .int .i64 b.2] :: Cel b4 [.int .i64 a.1, .int .i64 a.2] :: R)) (hr : -1000 ≤ a.1 ∧ a.2 ≤ 1000 ∧ -1000 ≤ b.1 ∧ b.2 ≤ 1000) {Qp : Post}
    (hQ : ∀ x ex, Qp (.exit 2) ⟨(ToF p b4 b5 i t (decide (touchP a b)) x).tm ++ ex, []⟩ H) {s' t'} :
    loopL (Call P) [1, 3, 4, 5, 6, 7, 8] burinlaw9_RunsTouch_l1 Qp s' t' (ToF p b4 b5 i t false a.1) H := by
  have c4 := rd_s h4.p1.cel
  have c5 := rd_s h4.cel
  have start : decide (nrP a b a.1) = false := decide_eq_false (by unfold nrP; omega)
  rw [← start]
  refine loop_dec (σ := Int) (fun x => (a.2 - x).toNat) (fun x => ToF p b4 b5 i t (decide (nrP a b x)) x) (fun x H' => H = H' ∧ a.1 ≤ x ∧ (x = a.1 ∨ x ≤ a.2)) (fun x H1 K ⟨hH, hx, hx2⟩ hn hxx hrr => ?_) a.1 H ⟨rfl, by omega, Or.inl rfl⟩
  subst hH
  by_cases hlt : x < a.2
  · have hn := hn (x + 1) H (by omega) ⟨rfl, by omega, Or.inr (by omega)⟩
    unfold ToF at hn
    by_cases h1 : nrP a b x
    · rw [decide_eq_true (show nrP a b (x + 1) by unfold nrP at *; omega)] at hn
      rw [decide_eq_true h1]
      simp -implicitDefEqProofs -dsimp (disch := omega) only [go_sem, Nat.reduceEqDiff, ↓reduceIte, Nat.reduceAdd, Nat.reduceMul, Nat.reduceSub, Nat.reduceLT, Nat.reduceLeDiff, Int.reduceLT, Int.reduceLE, Int.reduceEq, Int.reduceNeg, Int.reduceAdd, Int.reduceMul, Int.reduceSub, Int.reduceToNat, reduceCtorEq, dec_t, dec_f, burinlaw9_RunsTouch_l1, ToF, c4, c5, w64]
      exact hn
    · rw [decide_eq_false h1]
      by_cases k1 : b.1 ≤ x + 1
      · by_cases k2 : x - 1 < b.2
        · by_cases k3 : b.1 < b.2
          · rw [decide_eq_true (show nrP a b (x + 1) by unfold nrP at *; omega)] at hn
            simp -implicitDefEqProofs -dsimp (disch := omega) only [go_sem, Nat.reduceEqDiff, ↓reduceIte, Nat.reduceAdd, Nat.reduceMul, Nat.reduceSub, Nat.reduceLT, Nat.reduceLeDiff, Int.reduceLT, Int.reduceLE, Int.reduceEq, Int.reduceNeg, Int.reduceAdd, Int.reduceMul, Int.reduceSub, Int.reduceToNat, reduceCtorEq, dec_t, dec_f, burinlaw9_RunsTouch_l1, ToF, c4, c5, w64]
            exact hn
          · rw [decide_eq_false (show ¬ nrP a b (x + 1) by unfold nrP at *; omega)] at hn
            simp -implicitDefEqProofs -dsimp (disch := omega) only [go_sem, Nat.reduceEqDiff, ↓reduceIte, Nat.reduceAdd, Nat.reduceMul, Nat.reduceSub, Nat.reduceLT, Nat.reduceLeDiff, Int.reduceLT, Int.reduceLE, Int.reduceEq, Int.reduceNeg, Int.reduceAdd, Int.reduceMul, Int.reduceSub, Int.reduceToNat, reduceCtorEq, dec_t, dec_f, burinlaw9_RunsTouch_l1, ToF, c4, c5, w64]
            exact hn
        · rw [decide_eq_false (show ¬ nrP a b (x + 1) by unfold nrP at *; omega)] at hn
          simp -implicitDefEqProofs -dsimp (disch := omega) only [go_sem, Nat.reduceEqDiff, ↓reduceIte, Nat.reduceAdd, Nat.reduceMul, Nat.reduceSub, Nat.reduceLT, Nat.reduceLeDiff, Int.reduceLT, Int.reduceLE, Int.reduceEq, Int.reduceNeg, Int.reduceAdd, Int.reduceMul, Int.reduceSub, Int.reduceToNat, reduceCtorEq, dec_t, dec_f, burinlaw9_RunsTouch_l1, ToF, c4, c5, w64]
          exact hn
      · rw [decide_eq_false (show ¬ nrP a b (x + 1) by unfold nrP at *; omega)] at hn
        simp -implicitDefEqProofs -dsimp (disch := omega) only [go_sem, Nat.reduceEqDiff, ↓reduceIte, Nat.reduceAdd, Nat.reduceMul, Nat.reduceSub, Nat.reduceLT, Nat.reduceLeDiff, Int.reduceLT, Int.reduceLE, Int.reduceEq, Int.reduceNeg, Int.reduceAdd, Int.reduceMul, Int.reduceSub, Int.reduceToNat, reduceCtorEq, dec_t, dec_f, burinlaw9_RunsTouch_l1, ToF, c4, c5, w64]
        exact hn
  · have e : nrP a b x ↔ touchP a b := by unfold nrP touchP; omega
    rw [show decide (nrP a b x) = decide (touchP a b) from decide_eq_decide.2 e]
    simp -implicitDefEqProofs -dsimp (disch := omega) only [go_sem, Nat.reduceEqDiff, ↓reduceIte, Nat.reduceAdd, Nat.reduceMul, Nat.reduceSub, Nat.reduceLT, Nat.reduceLeDiff, Int.reduceLT, Int.reduceLE, Int.reduceEq, Int.reduceNeg, Int.reduceAdd, Int.reduceMul, Int.reduceSub, Int.reduceToNat, reduceCtorEq, dec_t, dec_f, burinlaw9_RunsTouch_l1, ToF, c4, c5]
    rw [hxx]
    exact hQ x [_]
set_option maxHeartbeats 1000000 in
theorem runsTouch {P : Prog} (hp : HasL9 P) (hg : P 126 = some burinlaw9_RunsTouch) {H : Heap} {v : V} {l : List (Int × Int)} (hv : Arr H v 2 l.length (rcells l)) (hl : l.length ≤ 8796093022208) :
    Call P 126 [.agg [v]] H fun o _ => o = .ret (.bool true) := by
  refine call_of hg rfl ?_
  have h1 := (Hs.start H).alloc (l := [v])
  obtain ⟨va, vc, ve, hvs⟩ := hv.shape
  simp -implicitDefEqProofs -dsimp (disch := omega) only [go_sem, Nat.reduceEqDiff, ↓reduceIte, Nat.reduceAdd, Nat.reduceMul, Nat.reduceSub, Nat.reduceLT, Nat.reduceLeDiff, Int.reduceLT, Int.reduceLE, Int.reduceEq, Int.reduceNeg, Int.reduceAdd, Int.reduceMul, Int.reduceSub, Int.reduceToNat, reduceCtorEq, dec_t, dec_f, ]
  generalize H.new _ = H1 at *
  generalize hpn : H.next = p at *
  refine loop_cnt (max 1 (min l.length 60)) (fun i => ⟨[(1, .ptr (some (p, 0))), (3, .int .i64 i)], []⟩) (fun i H' => 1 ≤ i ∧ Hs H' [Cel p [v], Bas H]) (fun i H2 K hi ⟨h01, h2⟩ hn hx hrr => ?_) 1 H1 (by omega) ⟨Nat.le_refl _, h1⟩
  have c1 := rd_s h2.cel
  by_cases hil : i < l.length ∧ i < 60
  · obtain ⟨d1, d2⟩ := hil
    obtain ⟨vb, vo, vc', hve⟩ := hv.at0 (by omega)
    have hva := hv.same h2.p1.base fun _ _ h => h
    rw [hve] at hva c1
    have rb := (run_rd hva d1).1
    have ra := (run_rd hva (i := i - 1) (by omega)).1
    have ei : (i : Int) - 1 = ((i - 1 : Nat) : Int) := by omega
    generalize l[i - 1] = a at *
    generalize l[i] = b at *
    have h3 := h2.alloc (l := [.int .i64 a.1, .int .i64 a.2])
    have c1' := rd_s h3.p1.cel
    have hva3 := hv.same h3.p2.base fun _ _ h => h
    rw [hve] at hva3 c1'
    have h5 := h3.alloc (l := [.int .i64 b.1, .int .i64 b.2])
    rw [next_new] at h5
    have rb3 : rd (H2.new (.cells [.int .i64 a.1, .int .i64 a.2] true)) (some 2) vb (vo + i * 2) = some (.agg [.int .i64 b.1, .int .i64 b.2]) := by
      have := hva3.agg d1
      rw [this, ← (hva.agg d1)]; exact rb
    have r4 := rd_bm h5.p1 (List.mem_cons_self ..) 2 rfl
    have r5 := rd_bm h5 (List.mem_cons_self ..) 2 rfl
    simp -implicitDefEqProofs -dsimp (disch := omega) only [go_sem, Nat.reduceEqDiff, ↓reduceIte, Nat.reduceAdd, Nat.reduceMul, Nat.reduceSub, Nat.reduceLT, Nat.reduceLeDiff, Int.reduceLT, Int.reduceLE, Int.reduceEq, Int.reduceNeg, Int.reduceAdd, Int.reduceMul, Int.reduceSub, Int.reduceToNat, reduceCtorEq, dec_t, dec_f, burinlaw9_RunsTouch_l0, c1, w64, ei, Int.toNat_natCast, ra, c1', rb3, r4, r5]
    generalize (H2.new _).new _ = H5 at *
    generalize H2.next + 1 = b5 at *
    generalize H2.next = b4 at *
    clear r4 r5 c1' rb3 hva3 h3
    refine touch_ct hp.ru h5 fun H6 h6 => ?_
    have r4 := rd_bm h6.p1 (List.mem_cons_self ..) 2 rfl
    have r5 := rd_bm h6 (List.mem_cons_self ..) 2 rfl
    simp -implicitDefEqProofs -dsimp (disch := omega) only [go_sem, Nat.reduceEqDiff, ↓reduceIte, Nat.reduceAdd, Nat.reduceMul, Nat.reduceSub, Nat.reduceLT, Nat.reduceLeDiff, Int.reduceLT, Int.reduceLE, Int.reduceEq, Int.reduceNeg, Int.reduceAdd, Int.reduceMul, Int.reduceSub, Int.reduceToNat, reduceCtorEq, dec_t, dec_f, r4, r5]
    refine touchR_ct hp.rf h6 fun H7 h7 => ?_
    have r4 := rd_bm h7.p1 (List.mem_cons_self ..) 2 rfl
    have r5 := rd_bm h7 (List.mem_cons_self ..) 2 rfl
    have sym : decide (touchP b a) = decide (touchP a b) := decide_eq_decide.2 (by unfold touchP; omega)
    have go : ∀ t : Bool, decide (touchP a b) = t → ∀ H8, Hs H8 [Cel b5 [.int .i64 b.1, .int .i64 b.2], Cel b4 [.int .i64 a.1, .int .i64 a.2], Cel p [v], Bas H] → True := fun _ _ _ _ => trivial
    rw [← hve] at *
    generalize ht : decide (touchP a b) = t at *
    cases t <;>
    · simp -implicitDefEqProofs -dsimp (disch := omega) only [go_sem, Nat.reduceEqDiff, ↓reduceIte, Nat.reduceAdd, Nat.reduceMul, Nat.reduceSub, Nat.reduceLT, Nat.reduceLeDiff, Int.reduceLT, Int.reduceLE, Int.reduceEq, Int.reduceNeg, Int.reduceAdd, Int.reduceMul, Int.reduceSub, Int.reduceToNat, reduceCtorEq, dec_t, dec_f, r4, r5, beq_self_eq_true]
      refine touch_ct hp.ru h7 fun H8 h8 => ?_
      rw [sym]
      have c4 := rd_s h8.p1.cel
      have c5 := rd_s h8.cel
      have nxt := hn (by omega) H8 ⟨by omega, h8.tail.tail⟩
      by_cases hr : -1000 ≤ a.1 ∧ a.2 ≤ 1000 ∧ -1000 ≤ b.1 ∧ b.2 ≤ 1000
      · simp -implicitDefEqProofs -dsimp (disch := omega) only [go_sem, Nat.reduceEqDiff, ↓reduceIte, Nat.reduceAdd, Nat.reduceMul, Nat.reduceSub, Nat.reduceLT, Nat.reduceLeDiff, Int.reduceLT, Int.reduceLE, Int.reduceEq, Int.reduceNeg, Int.reduceAdd, Int.reduceMul, Int.reduceSub, Int.reduceToNat, reduceCtorEq, dec_t, dec_f, c4, c5, beq_self_eq_true]
        refine near_loop h8 hr fun x ex => ?_
        rw [ht]
        simp -implicitDefEqProofs -dsimp (disch := omega) only [go_sem, Nat.reduceEqDiff, ↓reduceIte, Nat.reduceAdd, Nat.reduceMul, Nat.reduceSub, Nat.reduceLT, Nat.reduceLeDiff, Int.reduceLT, Int.reduceLE, Int.reduceEq, Int.reduceNeg, Int.reduceAdd, Int.reduceMul, Int.reduceSub, Int.reduceToNat, reduceCtorEq, dec_t, dec_f, ToF, beq_self_eq_true, w64, cadd1, List.append_eq, List.cons_append, List.nil_append]
        exact nxt
      · rcases (show a.1 < -1000 ∨ (-1000 ≤ a.1 ∧ 1000 < a.2) ∨ (-1000 ≤ a.1 ∧ a.2 ≤ 1000 ∧ b.1 < -1000) ∨ (-1000 ≤ a.1 ∧ a.2 ≤ 1000 ∧ -1000 ≤ b.1 ∧ 1000 < b.2) by omega) with d | d | d | d <;>
        · simp -implicitDefEqProofs -dsimp (disch := omega) only [go_sem, Nat.reduceEqDiff, ↓reduceIte, Nat.reduceAdd, Nat.reduceMul, Nat.reduceSub, Nat.reduceLT, Nat.reduceLeDiff, Int.reduceLT, Int.reduceLE, Int.reduceEq, Int.reduceNeg, Int.reduceAdd, Int.reduceMul, Int.reduceSub, Int.reduceToNat, reduceCtorEq, dec_t, dec_f, c4, c5, beq_self_eq_true, w64, cadd1]
          exact nxt
  · rw [hvs] at c1
    rcases (show ¬ i < l.length ∨ (i < l.length ∧ ¬ i < 60) by omega) with d | d <;>
    · simp -implicitDefEqProofs -dsimp (disch := omega) only [go_sem, Nat.reduceEqDiff, ↓reduceIte, Nat.reduceAdd, Nat.reduceMul, Nat.reduceSub, Nat.reduceLT, Nat.reduceLeDiff, Int.reduceLT, Int.reduceLE, Int.reduceEq, Int.reduceNeg, Int.reduceAdd, Int.reduceMul, Int.reduceSub, Int.reduceToNat, reduceCtorEq, dec_t, dec_f, burinlaw9_RunsTouch_l0, c1]
      rw [hx]
      simp -implicitDefEqProofs -dsimp (disch := omega) only [go_sem, Nat.reduceEqDiff, ↓reduceIte, Nat.reduceAdd, Nat.reduceMul, Nat.reduceSub, Nat.reduceLT, Nat.reduceLeDiff, Int.reduceLT, Int.reduceLE, Int.reduceEq, Int.reduceNeg, Int.reduceAdd, Int.reduceMul, Int.reduceSub, Int.reduceToNat, reduceCtorEq, dec_t, dec_f, ]
      refine wakes9_ct hp.bm hp.rz hp.ru hp.rf h2 fun H4 _ => ?_
      simp -implicitDefEqProofs -dsimp (disch := omega) only [go_sem, Nat.reduceEqDiff, ↓reduceIte, Nat.reduceAdd, Nat.reduceMul, Nat.reduceSub, Nat.reduceLT, Nat.reduceLeDiff, Int.reduceLT, Int.reduceLE, Int.reduceEq, Int.reduceNeg, Int.reduceAdd, Int.reduceMul, Int.reduceSub, Int.reduceToNat, reduceCtorEq, dec_t, dec_f, ]
theorem law_RunsTouch {P : Prog} (hp : HasL9 P) (hg : P 126 = some burinlaw9_RunsTouch) (H : Heap) (cs : List V) (x : TD.Ty (.agg [.sl 16 runTD])) (h : Is H (.agg [.sl 16 runTD]) cs x) : Call P 126 [argV (.agg [.sl 16 runTD]) cs] H fun o _ => o = .ret (.bool true) := by
  obtain ⟨a, r, e, h1, h2⟩ := h
  obtain ⟨v, l, k1, k2, k3, k4⟩ := is_runs h1
  rw [e, k1, show r = [] from h2]
  exact runsTouch hp hg k2 k4
end Go.Ab
