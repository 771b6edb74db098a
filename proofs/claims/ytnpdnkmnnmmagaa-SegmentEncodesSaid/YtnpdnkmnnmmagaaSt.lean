/- The reference's segments: whether one may be. Conditions: none. -/
import Derived.Test.YtnpdnkmnnmmagaaSc
import Derived.Test.YtnpdnkmnnmmagaaPRf16
set_option linter.all false
namespace Go.Ab
section
variable {P : Prog} {H : Heap} {R : List As} {Q : Out → Heap → Prop}
theorem refers_ct (hp : HasRf16 P) {k : Int} (hQ : Q (.ret (.bool (decide (refsK k)))) H) : Call P 168 [.int .i64 k] H Q := by
  refine call_of hp.h_burinref16_refers rfl ?_
  by_cases k2 : k = 2
  · rw [dec_t (show refsK k from Or.inl k2)] at hQ
    simp -implicitDefEqProofs -dsimp (disch := omega) only [go_sem, Nat.reduceEqDiff, ↓reduceIte, Nat.reduceAdd, Nat.reduceMul, Nat.reduceSub, Nat.reduceLT, Nat.reduceLeDiff, Int.reduceLT, Int.reduceLE, Int.reduceEq, Int.reduceNeg, Int.reduceAdd, Int.reduceMul, Int.reduceSub, Int.reduceToNat, reduceCtorEq, dec_t, dec_f, ]
    exact hQ
  · simp -implicitDefEqProofs -dsimp (disch := omega) only [go_sem, Nat.reduceEqDiff, ↓reduceIte, Nat.reduceAdd, Nat.reduceMul, Nat.reduceSub, Nat.reduceLT, Nat.reduceLeDiff, Int.reduceLT, Int.reduceLE, Int.reduceEq, Int.reduceNeg, Int.reduceAdd, Int.reduceMul, Int.reduceSub, Int.reduceToNat, reduceCtorEq, dec_t, dec_f, ]
    rw [show decide (k = 3) = decide (refsK k) from decide_eq_decide.2 (by unfold refsK; omega)]
    exact hQ
def pgLo (k : Int) : Int := if k = 2 ∨ k = 7 then 0 else 1
def pgHi (k : Int) : Int := if k = 7 then 0 else 64
theorem pagedR_ct (hp : HasRf16 P) {k : Int} (hQ : Q (.ret (.tup [.int .i64 (pgLo k), .int .i64 (pgHi k)])) H) : Call P 169 [.int .i64 k] H Q := by
  refine call_of hp.h_burinref16_paged rfl ?_
  unfold pgLo pgHi at hQ
  by_cases k2 : k = 2
  · rw [if_pos (by omega), if_neg (by omega)] at hQ
    simp -implicitDefEqProofs -dsimp (disch := omega) only [go_sem, Nat.reduceEqDiff, ↓reduceIte, Nat.reduceAdd, Nat.reduceMul, Nat.reduceSub, Nat.reduceLT, Nat.reduceLeDiff, Int.reduceLT, Int.reduceLE, Int.reduceEq, Int.reduceNeg, Int.reduceAdd, Int.reduceMul, Int.reduceSub, Int.reduceToNat, reduceCtorEq, dec_t, dec_f, ]
    exact hQ
  · by_cases k7 : k = 7
    · rw [if_pos (by omega), if_pos (by omega)] at hQ
      simp -implicitDefEqProofs -dsimp (disch := omega) only [go_sem, Nat.reduceEqDiff, ↓reduceIte, Nat.reduceAdd, Nat.reduceMul, Nat.reduceSub, Nat.reduceLT, Nat.reduceLeDiff, Int.reduceLT, Int.reduceLE, Int.reduceEq, Int.reduceNeg, Int.reduceAdd, Int.reduceMul, Int.reduceSub, Int.reduceToNat, reduceCtorEq, dec_t, dec_f, ]
      exact hQ
    · rw [if_neg (by omega), if_neg (by omega)] at hQ
      simp -implicitDefEqProofs -dsimp (disch := omega) only [go_sem, Nat.reduceEqDiff, ↓reduceIte, Nat.reduceAdd, Nat.reduceMul, Nat.reduceSub, Nat.reduceLT, Nat.reduceLeDiff, Int.reduceLT, Int.reduceLE, Int.reduceEq, Int.reduceNeg, Int.reduceAdd, Int.reduceMul, Int.reduceSub, Int.reduceToNat, reduceCtorEq, dec_t, dec_f, ]
      exact hQ
theorem bitR_ct (hp : HasRf16 P) {b : Bool} (hQ : Q (.ret (.int .u64 (b.toNat : Nat))) H) : Call P 171 [.bool b] H Q := by
  refine call_of hp.h_burinref16_bit rfl ?_
  cases b
  · simp -implicitDefEqProofs -dsimp (disch := omega) only [go_sem, Nat.reduceEqDiff, ↓reduceIte, Nat.reduceAdd, Nat.reduceMul, Nat.reduceSub, Nat.reduceLT, Nat.reduceLeDiff, Int.reduceLT, Int.reduceLE, Int.reduceEq, Int.reduceNeg, Int.reduceAdd, Int.reduceMul, Int.reduceSub, Int.reduceToNat, reduceCtorEq, dec_t, dec_f, ]
    exact hQ
  · simp -implicitDefEqProofs -dsimp (disch := omega) only [go_sem, Nat.reduceEqDiff, ↓reduceIte, Nat.reduceAdd, Nat.reduceMul, Nat.reduceSub, Nat.reduceLT, Nat.reduceLeDiff, Int.reduceLT, Int.reduceLE, Int.reduceEq, Int.reduceNeg, Int.reduceAdd, Int.reduceMul, Int.reduceSub, Int.reduceToNat, reduceCtorEq, dec_t, dec_f, ]
    exact hQ
def myF (b : Nat) (x : Nat × Int) : Fr := ⟨[(1, .ptr (some (b, 0))), (5, .int .i64 (x.1 : Nat))], []⟩
set_option maxHeartbeats 1000000 in
theorem may_loop {b1 : Nat} {v va vb vc vd : V} {l : List Int} {num : Int} (hr : Arr H v 1 l.length (i64s l)) (hl : l.length ≤ 140737488355328) {ve : V} (hc : H.get b1 = .cells [.int .i64 num, va, vb, v, vc, vd, ve] true) {Qp : Post} {s' t'}
    (h1 : incrF num (-1) l = true → ∀ ex, Qp (.exit 0) ⟨(1, .ptr (some (b1, 0))) :: ex, []⟩ H) (h2 : incrF num (-1) l = false → ∀ ex, Qp .ret ⟨(2, .bool false) :: ex, []⟩ H) :
    loopL (Call P) [1, 5] burinref16_May_l0 Qp s' t' (myF b1 (0, -1)) H := by
  refine loop_dec (σ := Nat × Int) (fun x => l.length - x.1) (myF b1) (fun x H' => H' = H ∧ x.1 ≤ l.length ∧ incrF num x.2 (l.drop x.1) = incrF num (-1) l ∧ -1 ≤ x.2 ∧ (x.1 = 0 → x.2 = -1) ∧ (∀ j, x.1 = j + 1 → l[j]? = some x.2)) (fun x H' K ok hn hx hy => ?_) (0, -1) H ⟨rfl, Nat.zero_le _, rfl, Int.le_refl _, fun _ => rfl, fun j h => nomatch h⟩
  obtain ⟨i, a⟩ := x
  obtain ⟨rfl, hi, hin, ha, h0, hj⟩ := ok
  dsimp only at hi hin hn ha h0 hj
  have rc := rd_s hc
  obtain ⟨av, ac, ae, hvs⟩ := hr.shape
  unfold myF
  by_cases hlt : i < l.length
  · obtain ⟨b, o, c, rfl⟩ := hr.at0 (by omega)
    clear hvs
    have rl := hr.rd1 hlt
    have hd := incr_drop (b := num) (a := a) hlt
    rw [List.getElem?_eq_getElem (by simpa [i64s] using hlt)] at rl
    simp only [i64s, List.getElem_map] at rl
    have hn := hn (i + 1, l[i]) H'
    dsimp only at hn
    have hgi : l[i]? = some l[i] := List.getElem?_eq_getElem hlt
    have hret : incrF num (-1) l = false → ∀ ex, K .ret ⟨(2, .bool false) :: ex, []⟩ H' := fun k ex => by rw [hy]; exact h2 k ex
    generalize l[i] = n at *
    rcases Nat.eq_zero_or_pos i with hi0 | hi0
    · subst hi0
      have := h0 rfl
      subst this
      rw [Nat.add_zero] at rl
      rcases (show n < 0 ∨ 0 ≤ n ∧ num ≤ n ∨ 0 ≤ n ∧ n < num by omega) with q | ⟨q, q2⟩ | ⟨q, q2⟩
      · simp -implicitDefEqProofs -dsimp (disch := omega) only [go_sem, Nat.reduceEqDiff, ↓reduceIte, Nat.reduceAdd, Nat.reduceMul, Nat.reduceSub, Nat.reduceLT, Nat.reduceLeDiff, Int.reduceLT, Int.reduceLE, Int.reduceEq, Int.reduceNeg, Int.reduceAdd, Int.reduceMul, Int.reduceSub, Int.reduceToNat, reduceCtorEq, dec_t, dec_f, burinref16_May_l0, rc, Int.toNat_natCast, Nat.mul_one, rl]
        exact hret (by rw [← hin, hd, dec_f (by omega)]; rfl) _
      · simp -implicitDefEqProofs -dsimp (disch := omega) only [go_sem, Nat.reduceEqDiff, ↓reduceIte, Nat.reduceAdd, Nat.reduceMul, Nat.reduceSub, Nat.reduceLT, Nat.reduceLeDiff, Int.reduceLT, Int.reduceLE, Int.reduceEq, Int.reduceNeg, Int.reduceAdd, Int.reduceMul, Int.reduceSub, Int.reduceToNat, reduceCtorEq, dec_t, dec_f, burinref16_May_l0, rc, Int.toNat_natCast, Nat.mul_one, rl]
        exact hret (by rw [← hin, hd, dec_t (show (-1 : Int) < n by omega), dec_f (show ¬ n < num by omega)]; rfl) _
      · simp -implicitDefEqProofs -dsimp (disch := omega) only [go_sem, Nat.reduceEqDiff, ↓reduceIte, Nat.reduceAdd, Nat.reduceMul, Nat.reduceSub, Nat.reduceLT, Nat.reduceLeDiff, Int.reduceLT, Int.reduceLE, Int.reduceEq, Int.reduceNeg, Int.reduceAdd, Int.reduceMul, Int.reduceSub, Int.reduceToNat, reduceCtorEq, dec_t, dec_f, burinref16_May_l0, rc, Int.toNat_natCast, Nat.mul_one, rl, w64, cadd1]
        refine hn (by omega) ⟨rfl, by omega, ?_, by omega, (fun h => by omega), (fun j hj => by rw [show j = 0 by omega]; exact hgi)⟩
        rw [← hin, hd, dec_t (show (-1 : Int) < n by omega), dec_t q2]; rfl
    · obtain ⟨j, rfl⟩ : ∃ j, i = j + 1 := ⟨i - 1, by omega⟩
      have hjj := hj j rfl
      have rj := hr.rd1 (i := j) (by omega)
      rw [i64s, List.getElem?_map, hjj, Option.map_some] at rj
      have ej : ((j + 1 : Nat) : Int) - 1 = (j : Nat) := by omega
      rcases (show n < 0 ∨ 0 ≤ n ∧ num ≤ n ∨ 0 ≤ n ∧ n < num ∧ n ≤ a ∨ 0 ≤ n ∧ n < num ∧ a < n by omega) with q | ⟨q, q2⟩ | ⟨q, q2, q3⟩ | ⟨q, q2, q3⟩
      · simp -implicitDefEqProofs -dsimp (disch := omega) only [go_sem, Nat.reduceEqDiff, ↓reduceIte, Nat.reduceAdd, Nat.reduceMul, Nat.reduceSub, Nat.reduceLT, Nat.reduceLeDiff, Int.reduceLT, Int.reduceLE, Int.reduceEq, Int.reduceNeg, Int.reduceAdd, Int.reduceMul, Int.reduceSub, Int.reduceToNat, reduceCtorEq, dec_t, dec_f, burinref16_May_l0, rc, Int.toNat_natCast, Nat.mul_one, rl]
        refine hret ?_ _
        rw [← hin, hd]
        rcases (show n ≤ a ∨ a < n by omega) with k | k
        · rw [dec_f (by omega)]; rfl
        · omega
      · simp -implicitDefEqProofs -dsimp (disch := omega) only [go_sem, Nat.reduceEqDiff, ↓reduceIte, Nat.reduceAdd, Nat.reduceMul, Nat.reduceSub, Nat.reduceLT, Nat.reduceLeDiff, Int.reduceLT, Int.reduceLE, Int.reduceEq, Int.reduceNeg, Int.reduceAdd, Int.reduceMul, Int.reduceSub, Int.reduceToNat, reduceCtorEq, dec_t, dec_f, burinref16_May_l0, rc, Int.toNat_natCast, Nat.mul_one, rl]
        refine hret ?_ _
        rw [← hin, hd, dec_f (show ¬ n < num by omega)]
        simp
      · simp -implicitDefEqProofs -dsimp (disch := omega) only [go_sem, Nat.reduceEqDiff, ↓reduceIte, Nat.reduceAdd, Nat.reduceMul, Nat.reduceSub, Nat.reduceLT, Nat.reduceLeDiff, Int.reduceLT, Int.reduceLE, Int.reduceEq, Int.reduceNeg, Int.reduceAdd, Int.reduceMul, Int.reduceSub, Int.reduceToNat, reduceCtorEq, dec_t, dec_f, burinref16_May_l0, rc, Int.toNat_natCast, Nat.mul_one, rl, w64, ej, rj]
        exact hret (by rw [← hin, hd, dec_f (by omega)]; rfl) _
      · simp -implicitDefEqProofs -dsimp (disch := omega) only [go_sem, Nat.reduceEqDiff, ↓reduceIte, Nat.reduceAdd, Nat.reduceMul, Nat.reduceSub, Nat.reduceLT, Nat.reduceLeDiff, Int.reduceLT, Int.reduceLE, Int.reduceEq, Int.reduceNeg, Int.reduceAdd, Int.reduceMul, Int.reduceSub, Int.reduceToNat, reduceCtorEq, dec_t, dec_f, burinref16_May_l0, rc, Int.toNat_natCast, Nat.mul_one, rl, w64, ej, rj, cadd1]
        refine hn (by omega) ⟨rfl, by omega, ?_, by omega, (fun h => by omega), (fun k hk => by rw [show k = j + 1 by omega]; exact hgi)⟩
        rw [← hin, hd, dec_t q3, dec_t q2]; rfl
  · have hi' : i = l.length := by omega
    subst hi'
    rw [List.drop_length, incrF] at hin
    rw [hvs] at rc
    simp -implicitDefEqProofs -dsimp (disch := omega) only [go_sem, Nat.reduceEqDiff, ↓reduceIte, Nat.reduceAdd, Nat.reduceMul, Nat.reduceSub, Nat.reduceLT, Nat.reduceLeDiff, Int.reduceLT, Int.reduceLE, Int.reduceEq, Int.reduceNeg, Int.reduceAdd, Int.reduceMul, Int.reduceSub, Int.reduceToNat, reduceCtorEq, dec_t, dec_f, burinref16_May_l0, rc]
    rw [hx]
    exact h1 hin.symm _
set_option maxHeartbeats 2000000 in
theorem mayR_ct (hp : HasRf16 P) {v1 v2 v3 : V} {s : Sg} (h : SgR H v1 v2 v3 s) (hQ : ∀ H', Same (fun _ => False) H H' → Q (.ret (.bool (mayB s))) H') : Call P 170 [.agg (s.cells v1 v2 v3)] H Q := by
  obtain ⟨num, kind, page, refs, keep, stay, data⟩ := s
  obtain ⟨hr, hk, hd, ho⟩ := h
  dsimp only at hr hk hd
  obtain ⟨a1, c1, e1, rfl⟩ := hr.shape
  obtain ⟨a2, c2, e2, rfl⟩ := hk.shape
  obtain ⟨a3, c3, e3, rfl⟩ := hd.shape
  have l1 := ho.l1
  have l2 := ho.l2
  have l3 := ho.l3
  dsimp only at l1 l2 l3
  refine call_of hp.h_burinref16_May rfl ?_
  have g1 := (Hs.start H).alloc (l := [.int .i64 num, .int .i64 kind, .int .i64 page, .sl a1 refs.length c1 e1, .sl a2 keep.length c2 e2, .bool stay, .sl a3 data.length c3 e3])
  have r1 := rd_s g1.cel
  have cc := g1.cel
  have sm := g1.tail.base
  have hrr := hr.same sm fun _ _ h => h
  unfold Sg.cells
  have fl := fun (k : ¬ May ⟨num, kind, page, refs, keep, stay, data⟩) => (show Q (.ret (.bool false)) _ from by rw [← mayB_f k]; exact hQ _ sm)
  have tr := fun (k : May ⟨num, kind, page, refs, keep, stay, data⟩) => (show Q (.ret (.bool true)) _ from by rw [← mayB_t k]; exact hQ _ sm)
  have n0 := fun m : May ⟨num, kind, page, refs, keep, stay, data⟩ => m.n0
  have n1 := fun m : May ⟨num, kind, page, refs, keep, stay, data⟩ => m.n1
  have nk := fun m : May ⟨num, kind, page, refs, keep, stay, data⟩ => m.kind
  have np := fun m : May ⟨num, kind, page, refs, keep, stay, data⟩ => m.page
  have nkp := fun m : May ⟨num, kind, page, refs, keep, stay, data⟩ => m.keep
  have nr := fun m : May ⟨num, kind, page, refs, keep, stay, data⟩ => m.refs
  have ns := fun m : May ⟨num, kind, page, refs, keep, stay, data⟩ => m.stay
  have nd := fun m : May ⟨num, kind, page, refs, keep, stay, data⟩ => m.data
  have nm := fun m : May ⟨num, kind, page, refs, keep, stay, data⟩ => m.most
  have ni := fun m : May ⟨num, kind, page, refs, keep, stay, data⟩ => m.incr
  dsimp only at n0 n1 nk np nkp nr ns nd nm ni
  unfold kindOk at nk
  rcases (show num < 0 ∨ (0 ≤ num ∧ 32768 ≤ num) ∨ (0 ≤ num ∧ num < 32768 ∧ kind < 1) ∨ (0 ≤ num ∧ num < 32768 ∧ 1 ≤ kind ∧ 7 < kind) ∨ (0 ≤ num ∧ num < 32768 ∧ 1 ≤ kind ∧ kind ≤ 7) by omega) with q | ⟨q, q2⟩ | ⟨q, q2, q3⟩ | ⟨q, q2, q3, q4⟩ | ⟨q, q2, q3, q4⟩
  · simp -implicitDefEqProofs -dsimp (disch := omega) only [go_sem, Nat.reduceEqDiff, ↓reduceIte, Nat.reduceAdd, Nat.reduceMul, Nat.reduceSub, Nat.reduceLT, Nat.reduceLeDiff, Int.reduceLT, Int.reduceLE, Int.reduceEq, Int.reduceNeg, Int.reduceAdd, Int.reduceMul, Int.reduceSub, Int.reduceToNat, reduceCtorEq, dec_t, dec_f, r1]
    exact fl fun m => by have := n0 m; omega
  · simp -implicitDefEqProofs -dsimp (disch := omega) only [go_sem, Nat.reduceEqDiff, ↓reduceIte, Nat.reduceAdd, Nat.reduceMul, Nat.reduceSub, Nat.reduceLT, Nat.reduceLeDiff, Int.reduceLT, Int.reduceLE, Int.reduceEq, Int.reduceNeg, Int.reduceAdd, Int.reduceMul, Int.reduceSub, Int.reduceToNat, reduceCtorEq, dec_t, dec_f, r1]
    exact fl fun m => by have := n1 m; omega
  · simp -implicitDefEqProofs -dsimp (disch := omega) only [go_sem, Nat.reduceEqDiff, ↓reduceIte, Nat.reduceAdd, Nat.reduceMul, Nat.reduceSub, Nat.reduceLT, Nat.reduceLeDiff, Int.reduceLT, Int.reduceLE, Int.reduceEq, Int.reduceNeg, Int.reduceAdd, Int.reduceMul, Int.reduceSub, Int.reduceToNat, reduceCtorEq, dec_t, dec_f, r1]
    exact fl fun m => by have := nk m; omega
  · simp -implicitDefEqProofs -dsimp (disch := omega) only [go_sem, Nat.reduceEqDiff, ↓reduceIte, Nat.reduceAdd, Nat.reduceMul, Nat.reduceSub, Nat.reduceLT, Nat.reduceLeDiff, Int.reduceLT, Int.reduceLE, Int.reduceEq, Int.reduceNeg, Int.reduceAdd, Int.reduceMul, Int.reduceSub, Int.reduceToNat, reduceCtorEq, dec_t, dec_f, r1]
    exact fl fun m => by have := nk m; omega
  simp -implicitDefEqProofs -dsimp (disch := omega) only [go_sem, Nat.reduceEqDiff, ↓reduceIte, Nat.reduceAdd, Nat.reduceMul, Nat.reduceSub, Nat.reduceLT, Nat.reduceLeDiff, Int.reduceLT, Int.reduceLE, Int.reduceEq, Int.reduceNeg, Int.reduceAdd, Int.reduceMul, Int.reduceSub, Int.reduceToNat, reduceCtorEq, dec_t, dec_f, r1]
  refine pagedR_ct hp ?_
  have pp : pagedP (pageK kind) page ↔ pgLo kind ≤ page ∧ page ≤ pgHi kind := by
    rcases (show kind = 7 ∨ kind = 2 ∨ (kind ≠ 7 ∧ kind ≠ 2) by omega) with rfl | rfl | ⟨k1, k2⟩
    · rw [show pageK 7 = 0 from rfl, show pgLo 7 = 0 from rfl, show pgHi 7 = 0 from rfl]; unfold pagedP; omega
    · rw [show pageK 2 = 1 from rfl, show pgLo 2 = 0 from rfl, show pgHi 2 = 64 from rfl]; unfold pagedP; omega
    · unfold pagedP pageK pgLo pgHi
      rw [if_neg k1, if_neg k2, if_neg k1, if_neg (by omega)]; omega
  by_cases ip : pgLo kind ≤ page ∧ page ≤ pgHi kind
  rotate_left
  · have no := fl fun m => ip (pp.1 (np m))
    rcases (show page < pgLo kind ∨ (pgLo kind ≤ page ∧ pgHi kind < page) by omega) with k | ⟨k, k2⟩
    · simp -implicitDefEqProofs -dsimp (disch := omega) only [go_sem, Nat.reduceEqDiff, ↓reduceIte, Nat.reduceAdd, Nat.reduceMul, Nat.reduceSub, Nat.reduceLT, Nat.reduceLeDiff, Int.reduceLT, Int.reduceLE, Int.reduceEq, Int.reduceNeg, Int.reduceAdd, Int.reduceMul, Int.reduceSub, Int.reduceToNat, reduceCtorEq, dec_t, dec_f, r1]
      exact no
    · simp -implicitDefEqProofs -dsimp (disch := omega) only [go_sem, Nat.reduceEqDiff, ↓reduceIte, Nat.reduceAdd, Nat.reduceMul, Nat.reduceSub, Nat.reduceLT, Nat.reduceLeDiff, Int.reduceLT, Int.reduceLE, Int.reduceEq, Int.reduceNeg, Int.reduceAdd, Int.reduceMul, Int.reduceSub, Int.reduceToNat, reduceCtorEq, dec_t, dec_f, r1]
      exact no
  obtain ⟨ip1, ip2⟩ := ip
  generalize pgLo kind = lo at *
  generalize pgHi kind = hi at *
  have lp := fun (k1 : 0 < refs.length → refsK kind) (k2 : keep.length = refs.length) (k3 : stay = true → kind = 2) (k4 : data.length ≤ 67108864) (ki : incrF num (-1) refs = true) (kd : 0 < data.length → dataK kind) => tr ⟨q, q2, ⟨q3, q4⟩, pp.2 ⟨ip1, ip2⟩, k2, k1, k3, kd, k4, ki⟩
  have lf := fun ki : incrF num (-1) refs = false => fl fun m => by have := ni m; rw [ki] at this; cases this
  clear tr np pp
  by_cases il : keep.length = refs.length
  rotate_left
  · have no := fl fun m => il (nkp m)
    by_cases z : 0 < refs.length
    · by_cases ir : refsK kind
      · simp -implicitDefEqProofs -dsimp (disch := omega) only [go_sem, Nat.reduceEqDiff, ↓reduceIte, Nat.reduceAdd, Nat.reduceMul, Nat.reduceSub, Nat.reduceLT, Nat.reduceLeDiff, Int.reduceLT, Int.reduceLE, Int.reduceEq, Int.reduceNeg, Int.reduceAdd, Int.reduceMul, Int.reduceSub, Int.reduceToNat, reduceCtorEq, dec_t, dec_f, r1]
        refine refers_ct hp ?_
        rw [dec_t ir]
        simp -implicitDefEqProofs -dsimp (disch := omega) only [go_sem, Nat.reduceEqDiff, ↓reduceIte, Nat.reduceAdd, Nat.reduceMul, Nat.reduceSub, Nat.reduceLT, Nat.reduceLeDiff, Int.reduceLT, Int.reduceLE, Int.reduceEq, Int.reduceNeg, Int.reduceAdd, Int.reduceMul, Int.reduceSub, Int.reduceToNat, reduceCtorEq, dec_t, dec_f, r1]
        exact no
      · simp -implicitDefEqProofs -dsimp (disch := omega) only [go_sem, Nat.reduceEqDiff, ↓reduceIte, Nat.reduceAdd, Nat.reduceMul, Nat.reduceSub, Nat.reduceLT, Nat.reduceLeDiff, Int.reduceLT, Int.reduceLE, Int.reduceEq, Int.reduceNeg, Int.reduceAdd, Int.reduceMul, Int.reduceSub, Int.reduceToNat, reduceCtorEq, dec_t, dec_f, r1]
        refine refers_ct hp ?_
        rw [dec_f ir]
        simp -implicitDefEqProofs -dsimp (disch := omega) only [go_sem, Nat.reduceEqDiff, ↓reduceIte, Nat.reduceAdd, Nat.reduceMul, Nat.reduceSub, Nat.reduceLT, Nat.reduceLeDiff, Int.reduceLT, Int.reduceLE, Int.reduceEq, Int.reduceNeg, Int.reduceAdd, Int.reduceMul, Int.reduceSub, Int.reduceToNat, reduceCtorEq, dec_t, dec_f, r1]
        exact no
    · simp -implicitDefEqProofs -dsimp (disch := omega) only [go_sem, Nat.reduceEqDiff, ↓reduceIte, Nat.reduceAdd, Nat.reduceMul, Nat.reduceSub, Nat.reduceLT, Nat.reduceLeDiff, Int.reduceLT, Int.reduceLE, Int.reduceEq, Int.reduceNeg, Int.reduceAdd, Int.reduceMul, Int.reduceSub, Int.reduceToNat, reduceCtorEq, dec_t, dec_f, r1]
      exact no
  by_cases ir : 0 < refs.length ∧ ¬ refsK kind
  · simp -implicitDefEqProofs -dsimp (disch := omega) only [go_sem, Nat.reduceEqDiff, ↓reduceIte, Nat.reduceAdd, Nat.reduceMul, Nat.reduceSub, Nat.reduceLT, Nat.reduceLeDiff, Int.reduceLT, Int.reduceLE, Int.reduceEq, Int.reduceNeg, Int.reduceAdd, Int.reduceMul, Int.reduceSub, Int.reduceToNat, reduceCtorEq, dec_t, dec_f, r1, ir.1]
    refine refers_ct hp ?_
    rw [dec_f ir.2]
    simp -implicitDefEqProofs -dsimp (disch := omega) only [go_sem, Nat.reduceEqDiff, ↓reduceIte, Nat.reduceAdd, Nat.reduceMul, Nat.reduceSub, Nat.reduceLT, Nat.reduceLeDiff, Int.reduceLT, Int.reduceLE, Int.reduceEq, Int.reduceNeg, Int.reduceAdd, Int.reduceMul, Int.reduceSub, Int.reduceToNat, reduceCtorEq, dec_t, dec_f, r1]
    exact fl fun m => ir.2 (nr m ir.1)
  have ir : 0 < refs.length → refsK kind := fun k => Classical.not_not.1 fun k2 => ir ⟨k, k2⟩
  have stp : ∀ {G : Prop}, (refs.length = 0 → G) → (0 < refs.length → refsK kind → G) → G := fun a b => by
    rcases Nat.eq_zero_or_pos refs.length with z | z
    · exact a z
    · exact b z (ir z)
  by_cases is : stay = true ∧ kind ≠ 2
  · obtain ⟨rfl, is⟩ := is
    have no := fl fun m => is (ns m rfl)
    refine stp (fun z => ?_) fun z z2 => ?_
    · simp -implicitDefEqProofs -dsimp (disch := omega) only [go_sem, Nat.reduceEqDiff, ↓reduceIte, Nat.reduceAdd, Nat.reduceMul, Nat.reduceSub, Nat.reduceLT, Nat.reduceLeDiff, Int.reduceLT, Int.reduceLE, Int.reduceEq, Int.reduceNeg, Int.reduceAdd, Int.reduceMul, Int.reduceSub, Int.reduceToNat, reduceCtorEq, dec_t, dec_f, r1]
      exact no
    · simp -implicitDefEqProofs -dsimp (disch := omega) only [go_sem, Nat.reduceEqDiff, ↓reduceIte, Nat.reduceAdd, Nat.reduceMul, Nat.reduceSub, Nat.reduceLT, Nat.reduceLeDiff, Int.reduceLT, Int.reduceLE, Int.reduceEq, Int.reduceNeg, Int.reduceAdd, Int.reduceMul, Int.reduceSub, Int.reduceToNat, reduceCtorEq, dec_t, dec_f, r1]
      refine refers_ct hp ?_
      rw [dec_t z2]
      simp -implicitDefEqProofs -dsimp (disch := omega) only [go_sem, Nat.reduceEqDiff, ↓reduceIte, Nat.reduceAdd, Nat.reduceMul, Nat.reduceSub, Nat.reduceLT, Nat.reduceLeDiff, Int.reduceLT, Int.reduceLE, Int.reduceEq, Int.reduceNeg, Int.reduceAdd, Int.reduceMul, Int.reduceSub, Int.reduceToNat, reduceCtorEq, dec_t, dec_f, r1]
      exact no
  have is : stay = true → kind = 2 := fun k => Classical.not_not.1 fun k2 => is ⟨k, k2⟩
  have lend : incrF num (-1) refs = true → data.length ≤ 67108864 → (0 < data.length → dataK kind) → Q (.ret (.bool true)) _ := fun k1 k2 k3 => lp ir il is k2 k1 k3
  have ldf : (0 < data.length ∧ ¬ dataK kind) → Q (.ret (.bool false)) _ := fun kd => fl fun m => kd.2 (nd m kd.1)
  have lm : ¬ data.length ≤ 67108864 → Q (.ret (.bool false)) _ := fun k => fl fun m => k (nm m)
  clear lp fl
  by_cases im : data.length ≤ 67108864
  rotate_left
  · have no := lm im
    refine stp (fun z => ?_) fun z z2 => ?_
    · cases hst : stay
      · subst hst
        simp -implicitDefEqProofs -dsimp (disch := omega) only [go_sem, Nat.reduceEqDiff, ↓reduceIte, Nat.reduceAdd, Nat.reduceMul, Nat.reduceSub, Nat.reduceLT, Nat.reduceLeDiff, Int.reduceLT, Int.reduceLE, Int.reduceEq, Int.reduceNeg, Int.reduceAdd, Int.reduceMul, Int.reduceSub, Int.reduceToNat, reduceCtorEq, dec_t, dec_f, r1]
        exact no
      · have := is hst
        subst hst this
        simp -implicitDefEqProofs -dsimp (disch := omega) only [go_sem, Nat.reduceEqDiff, ↓reduceIte, Nat.reduceAdd, Nat.reduceMul, Nat.reduceSub, Nat.reduceLT, Nat.reduceLeDiff, Int.reduceLT, Int.reduceLE, Int.reduceEq, Int.reduceNeg, Int.reduceAdd, Int.reduceMul, Int.reduceSub, Int.reduceToNat, reduceCtorEq, dec_t, dec_f, r1]
        exact no
    · cases hst : stay
      · subst hst
        simp -implicitDefEqProofs -dsimp (disch := omega) only [go_sem, Nat.reduceEqDiff, ↓reduceIte, Nat.reduceAdd, Nat.reduceMul, Nat.reduceSub, Nat.reduceLT, Nat.reduceLeDiff, Int.reduceLT, Int.reduceLE, Int.reduceEq, Int.reduceNeg, Int.reduceAdd, Int.reduceMul, Int.reduceSub, Int.reduceToNat, reduceCtorEq, dec_t, dec_f, r1]
        refine refers_ct hp ?_
        rw [dec_t z2]
        simp -implicitDefEqProofs -dsimp (disch := omega) only [go_sem, Nat.reduceEqDiff, ↓reduceIte, Nat.reduceAdd, Nat.reduceMul, Nat.reduceSub, Nat.reduceLT, Nat.reduceLeDiff, Int.reduceLT, Int.reduceLE, Int.reduceEq, Int.reduceNeg, Int.reduceAdd, Int.reduceMul, Int.reduceSub, Int.reduceToNat, reduceCtorEq, dec_t, dec_f, r1]
        exact no
      · have := is hst
        subst hst this
        simp -implicitDefEqProofs -dsimp (disch := omega) only [go_sem, Nat.reduceEqDiff, ↓reduceIte, Nat.reduceAdd, Nat.reduceMul, Nat.reduceSub, Nat.reduceLT, Nat.reduceLeDiff, Int.reduceLT, Int.reduceLE, Int.reduceEq, Int.reduceNeg, Int.reduceAdd, Int.reduceMul, Int.reduceSub, Int.reduceToNat, reduceCtorEq, dec_t, dec_f, r1]
        refine refers_ct hp ?_
        rw [dec_t z2]
        simp -implicitDefEqProofs -dsimp (disch := omega) only [go_sem, Nat.reduceEqDiff, ↓reduceIte, Nat.reduceAdd, Nat.reduceMul, Nat.reduceSub, Nat.reduceLT, Nat.reduceLeDiff, Int.reduceLT, Int.reduceLE, Int.reduceEq, Int.reduceNeg, Int.reduceAdd, Int.reduceMul, Int.reduceSub, Int.reduceToNat, reduceCtorEq, dec_t, dec_f, r1]
        exact no
  have tail : ∀ {Qp : Post} {s' t'}, (incrF num (-1) refs = true → ∀ ex, Qp (.exit 0) ⟨(1, .ptr (some (H.next, 0))) :: ex, []⟩ _) → (incrF num (-1) refs = false → ∀ ex, Qp .ret ⟨(2, .bool false) :: ex, []⟩ _) → loopL (Call P) [1, 5] burinref16_May_l0 Qp s' t' (myF H.next (0, -1)) _ := fun a b => may_loop (va := .int .i64 kind) (vb := .int .i64 page) (vc := .sl a2 keep.length c2 e2) (vd := .bool stay) hrr l1 cc a b
  refine stp (fun z => ?_) fun z z2 => ?_
  · cases hst : stay
    · subst hst
      simp -implicitDefEqProofs -dsimp (disch := omega) only [go_sem, Nat.reduceEqDiff, ↓reduceIte, Nat.reduceAdd, Nat.reduceMul, Nat.reduceSub, Nat.reduceLT, Nat.reduceLeDiff, Int.reduceLT, Int.reduceLE, Int.reduceEq, Int.reduceNeg, Int.reduceAdd, Int.reduceMul, Int.reduceSub, Int.reduceToNat, reduceCtorEq, dec_t, dec_f, r1]
      refine tail (fun k ex => ?_) (fun k ex => ?_)
      · by_cases dk : dataK kind
        · have ld := lend k im fun _ => dk
          unfold dataK at dk
          simp -implicitDefEqProofs -dsimp (disch := omega) only [go_sem, Nat.reduceEqDiff, ↓reduceIte, Nat.reduceAdd, Nat.reduceMul, Nat.reduceSub, Nat.reduceLT, Nat.reduceLeDiff, Int.reduceLT, Int.reduceLE, Int.reduceEq, Int.reduceNeg, Int.reduceAdd, Int.reduceMul, Int.reduceSub, Int.reduceToNat, reduceCtorEq, dec_t, dec_f, r1]
          exact ld
        · unfold dataK at dk
          rcases (show kind = 6 ∨ kind = 7 by omega) with k6 | k6
          all_goals
            rcases (show data.length = 0 ∨ 0 < data.length by omega) with d0 | d0
            · have ld := lend k im fun h => by omega
              simp -implicitDefEqProofs -dsimp (disch := omega) only [go_sem, Nat.reduceEqDiff, ↓reduceIte, Nat.reduceAdd, Nat.reduceMul, Nat.reduceSub, Nat.reduceLT, Nat.reduceLeDiff, Int.reduceLT, Int.reduceLE, Int.reduceEq, Int.reduceNeg, Int.reduceAdd, Int.reduceMul, Int.reduceSub, Int.reduceToNat, reduceCtorEq, dec_t, dec_f, r1]
              exact ld
            · have ld := ldf ⟨d0, by unfold dataK; omega⟩
              simp -implicitDefEqProofs -dsimp (disch := omega) only [go_sem, Nat.reduceEqDiff, ↓reduceIte, Nat.reduceAdd, Nat.reduceMul, Nat.reduceSub, Nat.reduceLT, Nat.reduceLeDiff, Int.reduceLT, Int.reduceLE, Int.reduceEq, Int.reduceNeg, Int.reduceAdd, Int.reduceMul, Int.reduceSub, Int.reduceToNat, reduceCtorEq, dec_t, dec_f, r1]
              exact ld
      · simp -implicitDefEqProofs -dsimp (disch := omega) only [go_sem, Nat.reduceEqDiff, ↓reduceIte, Nat.reduceAdd, Nat.reduceMul, Nat.reduceSub, Nat.reduceLT, Nat.reduceLeDiff, Int.reduceLT, Int.reduceLE, Int.reduceEq, Int.reduceNeg, Int.reduceAdd, Int.reduceMul, Int.reduceSub, Int.reduceToNat, reduceCtorEq, dec_t, dec_f, ]
        exact lf k
    · have := is hst
      subst hst this
      simp -implicitDefEqProofs -dsimp (disch := omega) only [go_sem, Nat.reduceEqDiff, ↓reduceIte, Nat.reduceAdd, Nat.reduceMul, Nat.reduceSub, Nat.reduceLT, Nat.reduceLeDiff, Int.reduceLT, Int.reduceLE, Int.reduceEq, Int.reduceNeg, Int.reduceAdd, Int.reduceMul, Int.reduceSub, Int.reduceToNat, reduceCtorEq, dec_t, dec_f, r1]
      refine tail (fun k ex => ?_) (fun k ex => ?_)
      · have ld := lend k im fun _ => (by unfold dataK; omega)
        simp -implicitDefEqProofs -dsimp (disch := omega) only [go_sem, Nat.reduceEqDiff, ↓reduceIte, Nat.reduceAdd, Nat.reduceMul, Nat.reduceSub, Nat.reduceLT, Nat.reduceLeDiff, Int.reduceLT, Int.reduceLE, Int.reduceEq, Int.reduceNeg, Int.reduceAdd, Int.reduceMul, Int.reduceSub, Int.reduceToNat, reduceCtorEq, dec_t, dec_f, r1]
        exact ld
      · simp -implicitDefEqProofs -dsimp (disch := omega) only [go_sem, Nat.reduceEqDiff, ↓reduceIte, Nat.reduceAdd, Nat.reduceMul, Nat.reduceSub, Nat.reduceLT, Nat.reduceLeDiff, Int.reduceLT, Int.reduceLE, Int.reduceEq, Int.reduceNeg, Int.reduceAdd, Int.reduceMul, Int.reduceSub, Int.reduceToNat, reduceCtorEq, dec_t, dec_f, ]
        exact lf k
  · cases hst : stay
    · subst hst
      simp -implicitDefEqProofs -dsimp (disch := omega) only [go_sem, Nat.reduceEqDiff, ↓reduceIte, Nat.reduceAdd, Nat.reduceMul, Nat.reduceSub, Nat.reduceLT, Nat.reduceLeDiff, Int.reduceLT, Int.reduceLE, Int.reduceEq, Int.reduceNeg, Int.reduceAdd, Int.reduceMul, Int.reduceSub, Int.reduceToNat, reduceCtorEq, dec_t, dec_f, r1]
      refine refers_ct hp ?_
      rw [dec_t z2]
      simp -implicitDefEqProofs -dsimp (disch := omega) only [go_sem, Nat.reduceEqDiff, ↓reduceIte, Nat.reduceAdd, Nat.reduceMul, Nat.reduceSub, Nat.reduceLT, Nat.reduceLeDiff, Int.reduceLT, Int.reduceLE, Int.reduceEq, Int.reduceNeg, Int.reduceAdd, Int.reduceMul, Int.reduceSub, Int.reduceToNat, reduceCtorEq, dec_t, dec_f, r1]
      refine tail (fun k ex => ?_) (fun k ex => ?_)
      · by_cases dk : dataK kind
        · have ld := lend k im fun _ => dk
          unfold dataK at dk
          simp -implicitDefEqProofs -dsimp (disch := omega) only [go_sem, Nat.reduceEqDiff, ↓reduceIte, Nat.reduceAdd, Nat.reduceMul, Nat.reduceSub, Nat.reduceLT, Nat.reduceLeDiff, Int.reduceLT, Int.reduceLE, Int.reduceEq, Int.reduceNeg, Int.reduceAdd, Int.reduceMul, Int.reduceSub, Int.reduceToNat, reduceCtorEq, dec_t, dec_f, r1]
          exact ld
        · unfold dataK at dk
          rcases (show kind = 6 ∨ kind = 7 by omega) with k6 | k6
          all_goals
            rcases (show data.length = 0 ∨ 0 < data.length by omega) with d0 | d0
            · have ld := lend k im fun h => by omega
              simp -implicitDefEqProofs -dsimp (disch := omega) only [go_sem, Nat.reduceEqDiff, ↓reduceIte, Nat.reduceAdd, Nat.reduceMul, Nat.reduceSub, Nat.reduceLT, Nat.reduceLeDiff, Int.reduceLT, Int.reduceLE, Int.reduceEq, Int.reduceNeg, Int.reduceAdd, Int.reduceMul, Int.reduceSub, Int.reduceToNat, reduceCtorEq, dec_t, dec_f, r1]
              exact ld
            · have ld := ldf ⟨d0, by unfold dataK; omega⟩
              simp -implicitDefEqProofs -dsimp (disch := omega) only [go_sem, Nat.reduceEqDiff, ↓reduceIte, Nat.reduceAdd, Nat.reduceMul, Nat.reduceSub, Nat.reduceLT, Nat.reduceLeDiff, Int.reduceLT, Int.reduceLE, Int.reduceEq, Int.reduceNeg, Int.reduceAdd, Int.reduceMul, Int.reduceSub, Int.reduceToNat, reduceCtorEq, dec_t, dec_f, r1]
              exact ld
      · simp -implicitDefEqProofs -dsimp (disch := omega) only [go_sem, Nat.reduceEqDiff, ↓reduceIte, Nat.reduceAdd, Nat.reduceMul, Nat.reduceSub, Nat.reduceLT, Nat.reduceLeDiff, Int.reduceLT, Int.reduceLE, Int.reduceEq, Int.reduceNeg, Int.reduceAdd, Int.reduceMul, Int.reduceSub, Int.reduceToNat, reduceCtorEq, dec_t, dec_f, ]
        exact lf k
    · have := is hst
      subst hst this
      simp -implicitDefEqProofs -dsimp (disch := omega) only [go_sem, Nat.reduceEqDiff, ↓reduceIte, Nat.reduceAdd, Nat.reduceMul, Nat.reduceSub, Nat.reduceLT, Nat.reduceLeDiff, Int.reduceLT, Int.reduceLE, Int.reduceEq, Int.reduceNeg, Int.reduceAdd, Int.reduceMul, Int.reduceSub, Int.reduceToNat, reduceCtorEq, dec_t, dec_f, r1]
      refine refers_ct hp ?_
      rw [dec_t z2]
      simp -implicitDefEqProofs -dsimp (disch := omega) only [go_sem, Nat.reduceEqDiff, ↓reduceIte, Nat.reduceAdd, Nat.reduceMul, Nat.reduceSub, Nat.reduceLT, Nat.reduceLeDiff, Int.reduceLT, Int.reduceLE, Int.reduceEq, Int.reduceNeg, Int.reduceAdd, Int.reduceMul, Int.reduceSub, Int.reduceToNat, reduceCtorEq, dec_t, dec_f, r1]
      refine tail (fun k ex => ?_) (fun k ex => ?_)
      · have ld := lend k im fun _ => (by unfold dataK; omega)
        simp -implicitDefEqProofs -dsimp (disch := omega) only [go_sem, Nat.reduceEqDiff, ↓reduceIte, Nat.reduceAdd, Nat.reduceMul, Nat.reduceSub, Nat.reduceLT, Nat.reduceLeDiff, Int.reduceLT, Int.reduceLE, Int.reduceEq, Int.reduceNeg, Int.reduceAdd, Int.reduceMul, Int.reduceSub, Int.reduceToNat, reduceCtorEq, dec_t, dec_f, r1]
        exact ld
      · simp -implicitDefEqProofs -dsimp (disch := omega) only [go_sem, Nat.reduceEqDiff, ↓reduceIte, Nat.reduceAdd, Nat.reduceMul, Nat.reduceSub, Nat.reduceLT, Nat.reduceLeDiff, Int.reduceLT, Int.reduceLE, Int.reduceEq, Int.reduceNeg, Int.reduceAdd, Int.reduceMul, Int.reduceSub, Int.reduceToNat, reduceCtorEq, dec_t, dec_f, ]
        exact lf k
end
end Go.Ab
