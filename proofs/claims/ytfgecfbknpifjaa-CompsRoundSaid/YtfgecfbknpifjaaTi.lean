/- The last loop of comps.Of: each box becomes a piece. Conditions: none. -/
import Derived.Test.YtfgecfbknpifjaaTh
set_option linter.all false
namespace Go.Ab
/-- A piece. -/
structure PcP where
  x : Int
  y : Int
  w : Nat
  h : Nat
  p : Nat → Nat → Bool
structure PcR where
  p : PcP
  v : V
def PcR.cs (r : PcR) : List V := [.int .i64 r.p.x, .int .i64 r.p.y, .int .i64 r.p.w, .int .i64 r.p.h, r.v]
def PcR.as (r : PcR) : As := BmA r.v r.p.w r.p.h r.p.p
def pcCells (l : List PcR) : List V := l.flatMap PcR.cs
theorem pcCells_snoc (l : List PcR) (r : PcR) : pcCells (l ++ [r]) = pcCells l ++ r.cs := by simp [pcCells]
/-- Pieces of one's own. -/
def StP (ov : V) (PR : List PcR) (T : List As) : List As := Lst ov 5 PR.length (pcCells PR) :: (PR.map PcR.as ++ T)
def BoxP.pc (b : BoxP) : PcP := ⟨b.x, (b.y : Nat), (b.r - b.x).toNat, b.b - b.y, boxPx b⟩
theorem mget_rise : ∀ {BS : List BoxR}, (roots BS).Pairwise (· < ·) → ∀ {i : Nat} (hi : i < BS.length), mget (esB BS) ((BS[i].p.root : Nat) : Int) = some (.ptr (some (BS[i].blk, 0)))
  | b :: BS, h, 0, _ => by simp [esB, mget]
  | b :: BS, h, i + 1, hi => by
    obtain ⟨h1, h2⟩ := List.pairwise_cons.1 h
    have hi' : i < BS.length := by simpa using hi
    have := h1 ((BS[i].p.root : Nat) : Int) (by
      simp only [List.mem_map]
      exact ⟨BS[i], List.getElem_mem hi', rfl⟩)
    show mget (_ :: esB BS) _ = _
    dsimp only at this
    rw [mget, if_neg (by simp only [List.getElem_cons_succ]; omega)]
    exact mget_rise h2 hi'
section
variable {P : Prog} {H : Heap} {R : List As}
structure OuS where
  i : Nat
  ov : V
  PR : List PcR
set_option maxHeartbeats 1000000 in
theorem of_out (hb : HasBm P) {Q : Post} {t : Tag Q} {s : Tag comps_Of_l0} {BS : List BoxR} {w h m : Nat} {rv : V} (hr : (roots BS).Pairwise (· < ·)) (ok : ∀ b ∈ BS, BxOk w h b.p) (hwh : w * h ≤ 1048576) (hw1 : 1 ≤ w) (hh1 : 1 ≤ h)
    (hl : ∀ b ∈ BS, b.p.l.length ≤ 1048576) (hn0 : BS.length ≤ 1048576)
    (hs : Hs H (Lst rv 1 BS.length (zV (roots BS)) :: Ob m (.map (esB BS)) :: (BS.flatMap BoxR.as ++ R)))
    (hK : ∀ ov PR H' ex, PR.map PcR.p = BS.map (fun b => b.p.pc) → Hs H' (StP ov PR R) → Q (.exit 8) ⟨(13, .map (some m)) :: (21, ov) :: ex, []⟩ H') :
    loopL (Call P) [13, 21, 169, 170, 171] comps_Of_l0 Q t s ⟨[(13, .map (some m)), (21, .sl none 0 0 0), (169, rv), (170, .int .i64 (BS.length : Nat)), (171, .int .i64 ((0 : Nat) : Int))], []⟩ H := by
  have hw : w ≤ 1048576 := Nat.le_trans (Nat.le_mul_of_pos_right _ hh1) hwh
  have hh : h ≤ 1048576 := Nat.le_trans (Nat.le_mul_of_pos_left _ hw1) hwh
  have h0 : Hs H (StP (.sl none 0 0 0) [] (Lst rv 1 BS.length (zV (roots BS)) :: Ob m (.map (esB BS)) :: (BS.flatMap BoxR.as ++ R))) := hs.lst (Same.refl _ _) (own_nil _ 5) fun _ h => h.elim
  refine loop_dec (σ := OuS) (fun x => BS.length - x.i) (fun x => ⟨[(13, .map (some m)), (21, x.ov), (169, rv), (170, .int .i64 (BS.length : Nat)), (171, .int .i64 (x.i : Nat))], []⟩)
    (fun x H => x.i ≤ BS.length ∧ x.PR.map PcR.p = (BS.take x.i).map (fun b => b.p.pc) ∧ Hs H (StP x.ov x.PR (Lst rv 1 BS.length (zV (roots BS)) :: Ob m (.map (esB BS)) :: (BS.flatMap BoxR.as ++ R))))
    (fun x H1 K ⟨hi, hpr, h1⟩ hn hx hrr => ?_) ⟨0, .sl none 0 0 0, []⟩ H ⟨Nat.zero_le _, rfl, h0⟩
  obtain ⟨i, ov, PR⟩ := x
  dsimp only at hi hpr h1 hn
  have hPl : PR.length = i := by have := congrArg List.length hpr; simp at this; omega
  by_cases hlt : i < BS.length
  · have hroot : (roots BS)[i]? = some ((BS[i].p.root : Nat) : Int) := by simp [roots, List.getElem?_eq_getElem hlt]
    have hmg := mget_rise hr hlt
    have etk : BS.take (i + 1) = BS.take i ++ [BS[i]] := (List.take_append_getElem hlt).symm
    have hbm := List.getElem_mem hlt
    generalize hbx : BS[i] = bx at hroot hmg etk hbm
    have hok := ok bx hbm
    have hbl := hl bx hbm
    have hok' := hok
    obtain ⟨o1, o2, o3, o4, o5, o6⟩ := hok'
    have mc : Cel bx.blk bx.cs ∈ BS.flatMap BoxR.as ++ R := List.mem_append_left _ (List.mem_flatMap.2 ⟨bx, hbm, by simp [BoxR.as]⟩)
    have ml : Lst bx.lv 3 bx.p.l.length (pcells bx.p.l) ∈ BS.flatMap BoxR.as ++ R := List.mem_append_left _ (List.mem_flatMap.2 ⟨bx, hbm, by simp [BoxR.as]⟩)
    have mc' : Cel bx.blk bx.cs ∈ StP ov PR (Lst rv 1 BS.length (zV (roots BS)) :: Ob m (.map (esB BS)) :: (BS.flatMap BoxR.as ++ R)) := List.mem_cons_of_mem _ (List.mem_append_right _ (List.mem_cons_of_mem _ (List.mem_cons_of_mem _ mc)))
    have ml' : Lst bx.lv 3 bx.p.l.length (pcells bx.p.l) ∈ StP ov PR (Lst rv 1 BS.length (zV (roots BS)) :: Ob m (.map (esB BS)) :: (BS.flatMap BoxR.as ++ R)) := List.mem_cons_of_mem _ (List.mem_append_right _ (List.mem_cons_of_mem _ (List.mem_cons_of_mem _ ml)))
    have ownr := h1.ownm (v := rv) (e := 1) (n := BS.length) (l := zV (roots BS)) (List.mem_cons_of_mem _ (List.mem_append_right _ (List.mem_cons_self ..)))
    obtain ⟨rb, ro, rc, rfl⟩ := ownr.arr.at0 (by omega)
    have r1 := ownr.arr.rd1 hlt
    rw [show (zV (roots BS))[i]? = some (.int .i64 ((bx.p.root : Nat) : Int)) from by simp [zV, hroot]] at r1
    have hm : H1.get m = .map (esB BS) := h1.obm (List.mem_cons_of_mem _ (List.mem_append_right _ (List.mem_cons_of_mem _ (List.mem_cons_self ..))))
    have c1 := rd_s (h1.celm mc')
    unfold BoxR.cs at c1
    have hsz : sizeOk (bx.p.r - bx.p.x) ((bx.p.b : Int) - (bx.p.y : Nat)) := by
      refine ⟨by omega, by omega, ?_⟩
      have e1 : bx.p.r - bx.p.x ≤ (w : Int) := by omega
      have e2 : (bx.p.b : Int) - (bx.p.y : Nat) ≤ (h : Int) := by omega
      calc (bx.p.r - bx.p.x) * ((bx.p.b : Int) - (bx.p.y : Nat)) ≤ (w : Int) * ((bx.p.b : Int) - (bx.p.y : Nat)) := Int.mul_le_mul_of_nonneg_right e1 (by omega)
        _ ≤ (w : Int) * (h : Int) := Int.mul_le_mul_of_nonneg_left e2 (by omega)
        _ ≤ 1048576 := by rw [← Int.natCast_mul]; omega
    simp -implicitDefEqProofs -dsimp (disch := omega) only [go_sem, Nat.reduceEqDiff, ↓reduceIte, Nat.reduceAdd, Nat.reduceMul, Nat.reduceSub, Nat.reduceLT, Nat.reduceLeDiff, Int.reduceLT, Int.reduceLE, Int.reduceEq, Int.reduceNeg, Int.reduceAdd, Int.reduceMul, Int.reduceSub, Int.reduceToNat, reduceCtorEq, dec_t, dec_f, comps_Of_l0, Int.toNat_natCast, Nat.mul_one, r1, hm, hmg, c1, w64]
    refine new_ct hb h1 (by omega) (by omega) (fun k => absurd hsz k) fun _ mm H2 h2 _ => ?_
    have eh : ((bx.p.b : Int) - (bx.p.y : Nat)).toNat = bx.p.b - bx.p.y := by omega
    rw [eh] at h2
    have ml2 := (h2.ownm (List.mem_cons_of_mem _ ml')).arr
    have c2 := rd_s (h2.celm (List.mem_cons_of_mem _ mc'))
    unfold BoxR.cs at c2
    obtain ⟨la, lc, le, hlv⟩ := ml2.shape
    rw [hlv] at c2
    simp -implicitDefEqProofs -dsimp (disch := omega) only [go_sem, Nat.reduceEqDiff, ↓reduceIte, Nat.reduceAdd, Nat.reduceMul, Nat.reduceSub, Nat.reduceLT, Nat.reduceLeDiff, Int.reduceLT, Int.reduceLE, Int.reduceEq, Int.reduceNeg, Int.reduceAdd, Int.reduceMul, Int.reduceSub, Int.reduceToNat, reduceCtorEq, dec_t, dec_f, c2]
    rw [← hlv]
    refine of_fill hb hok hw hh hbl mc' ml' h2 fun H3 ex h3 => ?_
    have c3 := rd_s (h3.celm (List.mem_cons_of_mem _ mc'))
    unfold BoxR.cs at c3
    simp -implicitDefEqProofs -dsimp (disch := omega) only [go_sem, Nat.reduceEqDiff, ↓reduceIte, Nat.reduceAdd, Nat.reduceMul, Nat.reduceSub, Nat.reduceLT, Nat.reduceLeDiff, Int.reduceLT, Int.reduceLE, Int.reduceEq, Int.reduceNeg, Int.reduceAdd, Int.reduceMul, Int.reduceSub, Int.reduceToNat, reduceCtorEq, dec_t, dec_f, c3]
    refine plain_ct hb h3 fun pv H4 h4 _ => ?_
    have c4 := rd_s (h4.celm (List.mem_cons_of_mem _ (List.mem_cons_of_mem _ mc')))
    unfold BoxR.cs at c4
    obtain ⟨pa, pc, pe, rfl⟩ := h4.own.arr.shape
    obtain ⟨ov', H5, ha, hoo, hsm, hff⟩ := app_one h4.p2.own (M := [.int .i64 bx.p.x, .int .i64 (bx.p.y : Nat), .int .i64 ((bx.p.r - bx.p.x).toNat : Nat), .int .i64 ((bx.p.b - bx.p.y : Nat) : Int), .sl pa (Wds (bx.p.r - bx.p.x).toNat (bx.p.b - bx.p.y) (boxPx bx.p)).length pc pe]) (m := 1) (eb := 56) rfl rfl (by omega) (by omega)
    have h5 := h4.p2.lst' hsm hoo hff
    simp -implicitDefEqProofs -dsimp (disch := omega) only [go_sem, Nat.reduceEqDiff, ↓reduceIte, Nat.reduceAdd, Nat.reduceMul, Nat.reduceSub, Nat.reduceLT, Nat.reduceLeDiff, Int.reduceLT, Int.reduceLE, Int.reduceEq, Int.reduceNeg, Int.reduceAdd, Int.reduceMul, Int.reduceSub, Int.reduceToNat, reduceCtorEq, dec_t, dec_f, ]
    refine aft_intro (t := tag _) (by simp [rechecks, recheck, fresh, Fr.get, Fr.put, look, step, opd, c4]) ?_
    simp -implicitDefEqProofs -dsimp (disch := omega) only [go_sem, Nat.reduceEqDiff, ↓reduceIte, Nat.reduceAdd, Nat.reduceMul, Nat.reduceSub, Nat.reduceLT, Nat.reduceLeDiff, Int.reduceLT, Int.reduceLE, Int.reduceEq, Int.reduceNeg, Int.reduceAdd, Int.reduceMul, Int.reduceSub, Int.reduceToNat, reduceCtorEq, dec_t, dec_f, ha, w64, cadd1]
    refine hn ⟨i + 1, ov', PR ++ [⟨bx.p.pc, .sl pa (Wds (bx.p.r - bx.p.x).toNat (bx.p.b - bx.p.y) (boxPx bx.p)).length pc pe⟩]⟩ H5 (by dsimp only; omega) ⟨hlt, ?_, ?_⟩
    · dsimp only
      rw [List.map_append, hpr, etk, List.map_append]; rfl
    · dsimp only
      have h6 := bmA_of h5.p1 (mapSz0 h5.p2)
      have h7 := h6.p2.tail
      unfold StP
      rw [pcCells_snoc, List.length_append]
      refine Hs.perm h7.p1 ?_
      classical
      refine List.perm_iff_count.2 fun x => ?_
      simp only [List.map_append, List.map_cons, List.map_nil, List.count_append, List.count_cons, List.count_nil, PcR.as, PcR.cs, BoxP.pc, List.length_cons, List.length_nil]
      ac_rfl
  · obtain rfl : i = BS.length := by omega
    simp -implicitDefEqProofs -dsimp (disch := omega) only [go_sem, Nat.reduceEqDiff, ↓reduceIte, Nat.reduceAdd, Nat.reduceMul, Nat.reduceSub, Nat.reduceLT, Nat.reduceLeDiff, Int.reduceLT, Int.reduceLE, Int.reduceEq, Int.reduceNeg, Int.reduceAdd, Int.reduceMul, Int.reduceSub, Int.reduceToNat, reduceCtorEq, dec_t, dec_f, comps_Of_l0]
    rw [hx]
    rw [List.take_length] at hpr
    refine hK ov PR H1 _ hpr ?_
    have := Hs.perm (L' := (Lst rv 1 BS.length (zV (roots BS)) :: Ob m (.map (esB BS)) :: BS.flatMap BoxR.as) ++ StP ov PR R) h1 (by
      classical
      refine List.perm_iff_count.2 fun x => ?_
      simp only [StP, List.count_append, List.count_cons]
      ac_rfl)
    exact this.cutl
end
end Go.Ab
