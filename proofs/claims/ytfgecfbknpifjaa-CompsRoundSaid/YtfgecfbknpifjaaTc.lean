/- A row's runs are placed: the inner loop of comps.Of. Conditions: none. -/
import Derived.Test.YtfgecfbknpifjaaTb
set_option linter.all false
namespace Go.Ab
/-- A run, and its row. -/
abbrev Plc := (Int × Int) × Nat
def pcells (l : List Plc) : List V := l.flatMap fun r => [.int .i64 r.1.1, .int .i64 r.1.2, .int .i64 (r.2 : Nat)]
theorem pcells_len : ∀ l, (pcells l).length = l.length * 3
  | [] => rfl
  | o :: l => by rw [pcells, List.flatMap_cons, List.length_append, show (l.flatMap _).length = _ from pcells_len l]; simp; omega
theorem pcells_snoc (l : List Plc) (r : Plc) : pcells (l ++ [r]) = pcells l ++ [.int .i64 r.1.1, .int .i64 r.1.2, .int .i64 (r.2 : Nat)] := by simp [pcells]
theorem pcells_at : ∀ {l : List Plc} {i : Nat} (hi : i < l.length), ((pcells l).drop (i * 3)).take 3 = [.int .i64 l[i].1.1, .int .i64 l[i].1.2, .int .i64 (l[i].2 : Nat)]
  | o :: l, 0, _ => by simp [pcells]
  | o :: l, i + 1, hi => by
    have := pcells_at (l := l) (i := i) (by simpa using hi)
    rw [show (i + 1) * 3 = 3 + i * 3 by omega, ← List.drop_drop]
    simpa [pcells] using this
def plRow (y : Nat) (l : List (Int × Int)) : List Plc := l.map fun r => (r, y)
section
variable {P : Prog} {H : Heap} {R : List As} {Q : Post}
structure RwS where
  j : Nat
  fv : V
  av : V
  F : List Nat
  PL : List Plc
set_option maxHeartbeats 1000000 in
theorem of_row {t : Tag Q} {s : Tag comps_Of_l5} {rv fv av row : V} {n y k : Nat} {F : List Nat} {ρ : Nat → Nat} {PL : List Plc} {B : List (Int × Int)}
    (hB : ∀ H', Hs H' R → Arr H' row 2 B.length (rcells B)) (hF : Fst F ρ) (hk : F.length = k) (hpl : PL.length = k) (hl : k + B.length ≤ 1048576) (hs : Hs H (Lst fv 1 F.length (iV F) :: Lst av 3 PL.length (pcells PL) :: R))
    (hK : ∀ fv' av' F' H' ex, Fst F' ρ → F'.length = k + B.length → Hs H' (Lst fv' 1 F'.length (iV F') :: Lst av' 3 (PL ++ plRow y B).length (pcells (PL ++ plRow y B)) :: R) →
      Q (.exit 2) ⟨(4, rv) :: (6, fv') :: (7, av') :: (8, .int .i64 (y : Nat)) :: (9, row) :: (10, .int .i64 (k : Nat)) :: (36, rv) :: (37, .int .i64 (n : Nat)) :: (38, .int .i64 (y : Nat)) :: (45, row) :: (46, .int .i64 (B.length : Nat)) :: (47, .int .i64 (B.length : Nat)) :: ex, []⟩ H') :
    loopL (Call P) [4, 6, 7, 8, 9, 10, 36, 37, 38, 45, 46, 47] comps_Of_l5 Q t s
      ⟨[(4, rv), (6, fv), (7, av), (8, .int .i64 (y : Nat)), (9, row), (10, .int .i64 (k : Nat)), (36, rv), (37, .int .i64 (n : Nat)), (38, .int .i64 (y : Nat)), (45, row), (46, .int .i64 (B.length : Nat)), (47, .int .i64 ((0 : Nat) : Int))], []⟩ H := by
  refine loop_dec (σ := RwS) (fun x => B.length - x.j) (fun x => ⟨[(4, rv), (6, x.fv), (7, x.av), (8, .int .i64 (y : Nat)), (9, row), (10, .int .i64 (k : Nat)), (36, rv), (37, .int .i64 (n : Nat)), (38, .int .i64 (y : Nat)), (45, row), (46, .int .i64 (B.length : Nat)), (47, .int .i64 (x.j : Nat))], []⟩)
    (fun x H => x.j ≤ B.length ∧ x.F.length = k + x.j ∧ Fst x.F ρ ∧ x.PL = PL ++ plRow y (B.take x.j) ∧ Hs H (Lst x.fv 1 x.F.length (iV x.F) :: Lst x.av 3 x.PL.length (pcells x.PL) :: R))
    (fun x H1 K ⟨hj, hl1, hf, hp, h1⟩ hn hx hrr => ?_) ⟨0, fv, av, F, PL⟩ H ⟨Nat.zero_le _, by rw [hk]; rfl, hF, by simp [plRow], hs⟩
  obtain ⟨j, fw, aw, G, PM⟩ := x
  dsimp only at hj hl1 hf hp h1 hn
  by_cases hlt : j < B.length
  · obtain ⟨xb, xo, xc, rfl, r1, _⟩ := rc_rd (hB _ h1.tail.tail) hlt
    have h2 := h1.alloc (l := [.int .i64 B[j].1, .int .i64 B[j].2])
    obtain ⟨sa, sc, se, rfl⟩ := h1.own.arr.shape
    obtain ⟨fw', H3, ha, hoo, hsm, hff⟩ := app_one h2.p1.own (M := [.int .i64 (G.length : Nat)]) (m := 1) (eb := 8) rfl rfl (by omega) (by omega)
    have h3 := h2.p1.lst' hsm hoo hff
    rw [next_new] at ha
    have c3 := rd_m h3.p1.cel 2 0
    rw [show (piece [V.int .i64 B[j].1, .int .i64 B[j].2] 0 2).map V.agg = some (.agg [.int .i64 B[j].1, .int .i64 B[j].2]) from rfl] at c3
    obtain ⟨aw', H4, ha2, hoo2, hsm2, hff2⟩ := app_one h3.p2.own (M := [.int .i64 B[j].1, .int .i64 B[j].2, .int .i64 (y : Nat)]) (m := 1) (eb := 24) rfl rfl (by omega) (by subst hp; simp [plRow]; omega)
    have h4 := h3.p2.lst' hsm2 hoo2 hff2
    simp -implicitDefEqProofs -dsimp (disch := omega) only [go_sem, Nat.reduceEqDiff, ↓reduceIte, Nat.reduceAdd, Nat.reduceMul, Nat.reduceSub, Nat.reduceLT, Nat.reduceLeDiff, Int.reduceLT, Int.reduceLE, Int.reduceEq, Int.reduceNeg, Int.reduceAdd, Int.reduceMul, Int.reduceSub, Int.reduceToNat, reduceCtorEq, dec_t, dec_f, comps_Of_l5, r1, Int.toNat_natCast, ha, c3, ha2, w64, cadd1]
    have e1 : iV (G ++ [G.length]) = iV G ++ [.int .i64 (G.length : Nat)] := iV_snoc _ _
    have e2 : pcells (PM ++ [((B[j].1, B[j].2), y)]) = pcells PM ++ [.int .i64 B[j].1, .int .i64 B[j].2, .int .i64 (y : Nat)] := pcells_snoc _ _
    refine hn ⟨j + 1, fw', aw', G ++ [G.length], PM ++ [((B[j].1, B[j].2), y)]⟩ H4 (by dsimp only; omega) ⟨hlt, by simp; omega, hf.app, ?_, ?_⟩
    · dsimp only
      rw [hp, List.append_assoc]
      congr 1
      rw [← List.take_append_getElem (l := B) hlt]
      simp only [plRow, List.map_append, List.map_cons, List.map_nil]
    · dsimp only
      rw [e1, e2, List.length_append, List.length_append]
      exact h4.p2.tail.p1
  · obtain rfl : j = B.length := by omega
    simp -implicitDefEqProofs -dsimp (disch := omega) only [go_sem, Nat.reduceEqDiff, ↓reduceIte, Nat.reduceAdd, Nat.reduceMul, Nat.reduceSub, Nat.reduceLT, Nat.reduceLeDiff, Int.reduceLT, Int.reduceLE, Int.reduceEq, Int.reduceNeg, Int.reduceAdd, Int.reduceMul, Int.reduceSub, Int.reduceToNat, reduceCtorEq, dec_t, dec_f, comps_Of_l5]
    rw [hx]
    rw [List.take_length] at hp
    subst hp
    exact hK fw aw G H1 _ hf hl1 h1
end
end Go.Ab
