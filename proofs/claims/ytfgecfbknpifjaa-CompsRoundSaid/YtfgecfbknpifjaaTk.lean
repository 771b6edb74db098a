/- comps.Of whole. Conditions: none. -/
import Derived.Test.YtfgecfbknpifjaaTj
set_option linter.all false
namespace Go.Ab
/-- A bitmap's pieces, as the program finds them. -/
def pcsOf (p : Nat → Nat → Bool) (w h : Nat) : List PcP := (boxes (rhoF (rowsOf p w h) h) (allPl (rowsOf p w h) h) (allPl (rowsOf p w h) h).length).map BoxP.pc
section
variable {P : Prog} {H : Heap} {R : List As} {Q : Out → Heap → Prop}
set_option maxHeartbeats 1000000 in
theorem compsOf_ct (hb : HasBm P) (hu : HasRu P) (hp : HasCo P) {w h : Int} {v : V} {ws : List Nat} (hs : Hs H R) (hv : ∀ H', Hs H' R → Arr H' v 1 ws.length (u64s ws)) (hl : ∀ n ∈ ws, n < 18446744073709551616) (hw : i64r w) (hh : i64r h)
    (hQ1 : ¬ mayB w h ws → ∀ H', Hs H' R → Q (.ret (.tup [.sl none 0 0 0, .int .i64 90])) H')
    (hQ2 : mayB w h ws → ∀ ov PR H', PR.map PcR.p = pcsOf (pixOf w.toNat ws) w.toNat h.toNat → Hs H' (StP ov PR R) → Q (.ret (.tup [ov, .int .i64 0])) H') : Call P 181 [.agg [.int .i64 w, .int .i64 h, v]] H Q := by
  refine call_of hp.h_comps_Of rfl ?_
  have h1 := hs.alloc (l := [.int .i64 w, .int .i64 h, v])
  have r1 := rd_m h1.cel 3 0
  simp -implicitDefEqProofs -dsimp (disch := omega) only [go_sem, Nat.reduceEqDiff, ↓reduceIte, Nat.reduceAdd, Nat.reduceMul, Nat.reduceSub, Nat.reduceLT, Nat.reduceLeDiff, Int.reduceLT, Int.reduceLE, Int.reduceEq, Int.reduceNeg, Int.reduceAdd, Int.reduceMul, Int.reduceSub, Int.reduceToNat, reduceCtorEq, dec_t, dec_f, ]
  generalize H.new _ = H1 at *
  generalize H.next = b at *
  rw [show (piece [V.int .i64 w, .int .i64 h, v] 0 3).map V.agg = some (.agg [.int .i64 w, .int .i64 h, v]) from rfl] at r1
  simp -implicitDefEqProofs -dsimp (disch := omega) only [go_sem, Nat.reduceEqDiff, ↓reduceIte, Nat.reduceAdd, Nat.reduceMul, Nat.reduceSub, Nat.reduceLT, Nat.reduceLeDiff, Int.reduceLT, Int.reduceLE, Int.reduceEq, Int.reduceNeg, Int.reduceAdd, Int.reduceMul, Int.reduceSub, Int.reduceToNat, reduceCtorEq, dec_t, dec_f, r1]
  refine runsOf_ct hb hu h1.tail hv hl hw hh (fun k H2 h2 => ?_) fun k ov RL H2 hrl h2 => ?_
  · simp -implicitDefEqProofs -dsimp (disch := omega) only [go_sem, Nat.reduceEqDiff, ↓reduceIte, Nat.reduceAdd, Nat.reduceMul, Nat.reduceSub, Nat.reduceLT, Nat.reduceLeDiff, Int.reduceLT, Int.reduceLE, Int.reduceEq, Int.reduceNeg, Int.reduceAdd, Int.reduceMul, Int.reduceSub, Int.reduceToNat, reduceCtorEq, dec_t, dec_f, ]
    exact hQ1 k H2 h2
  · have hQ2 := hQ2 k
    obtain ⟨⟨m1, m2, m3⟩, m4, m5⟩ := k
    have hle := sizeOk_le ⟨m1, m2, m3⟩
    obtain ⟨wn, rfl⟩ : ∃ k : Nat, w = k := ⟨w.toNat, by omega⟩
    obtain ⟨hn, rfl⟩ : ∃ k : Nat, h = k := ⟨h.toNat, by omega⟩
    rw [Int.toNat_natCast, Int.toNat_natCast] at hrl hQ2
    have m3 : wn * hn ≤ 1048576 := by rw [← Int.natCast_mul] at m3; omega
    obtain ⟨rows, hrows⟩ : ∃ rows, rowsOf (pixOf wn ws) wn hn = rows := ⟨_, rfl⟩
    have hlen : rows.length = hn := by rw [← hrows, rowsOf_len]
    have hpl : (allPl rows hn).length ≤ 1048576 := by
      have := pl_len (p := pixOf wn ws) (w := wn) (h := hn) hn (Nat.le_refl _)
      rw [hrows, Nat.mul_comm] at this; omega
    have hok : ∀ q ∈ allPl rows hn, plOk wn hn q := by
      have := pl_ok (p := pixOf wn ws) (w := wn) (h := hn)
      rwa [hrows] at this
    have sr := rrd_st (ov := ov) (RL := RL) (T := R)
    rw [hrl, hrows] at sr
    have hRL : RL.length = hn := by have := congrArg List.length hrl; rw [hrows, hlen] at this; simpa using this
    obtain ⟨oa, oc, oe, rfl⟩ := (h2.own).arr.shape
    rw [hRL, ← hlen] at sr h2 ⊢
    simp -implicitDefEqProofs -dsimp (disch := omega) only [go_sem, Nat.reduceEqDiff, ↓reduceIte, Nat.reduceAdd, Nat.reduceMul, Nat.reduceSub, Nat.reduceLT, Nat.reduceLeDiff, Int.reduceLT, Int.reduceLE, Int.reduceEq, Int.reduceNeg, Int.reduceAdd, Int.reduceMul, Int.reduceSub, Int.reduceToNat, reduceCtorEq, dec_t, dec_f, ]
    refine of_rows hu hp sr (by rw [hlen]; exact hpl) (by omega) h2 fun fv av F H3 ex hF hFl h3 => ?_
    rw [hlen] at hF hFl h3
    unfold pcsOf at hQ2
    rw [hrows] at hQ2
    obtain ⟨fa, fc, fe, rfl⟩ := h3.own.arr.shape
    obtain ⟨ra, rc, re, rfl⟩ := h3.p1.own.arr.shape
    simp -implicitDefEqProofs -dsimp (disch := omega) only [go_sem, Nat.reduceEqDiff, ↓reduceIte, Nat.reduceAdd, Nat.reduceMul, Nat.reduceSub, Nat.reduceLT, Nat.reduceLeDiff, Int.reduceLT, Int.reduceLE, Int.reduceEq, Int.reduceNeg, Int.reduceAdd, Int.reduceMul, Int.reduceSub, Int.reduceToNat, reduceCtorEq, dec_t, dec_f, ]
    have hro := boxes_roots (PL := allPl rows hn) hF (allPl rows hn).length (Nat.le_refl _)
    have hbo := boxes_ok (ρ := rhoF rows hn) hok (by have := pl_mono (rows := rows) hn; exact this) (allPl rows hn).length
    have hbc := boxes_count (PL := allPl rows hn) hF
    have hbl := boxes_len (rhoF rows hn) (allPl rows hn) (allPl rows hn).length
    have hy : ∀ q ∈ allPl rows hn, q.2 < 1048576 := fun q hq => by have := (hok q hq).2.2.2; omega
    generalize allPl rows hn = PL at *
    have h4 := Hs.perm (L' := Lst (.sl fa F.length fc fe) 1 F.length (iV F) :: Lst (.sl ra PL.length rc re) 3 PL.length (pcells PL) :: Ob H3.next (.map []) :: StR (.sl oa hn oc oe) RL R) (h3.obnew (o := .map [])) (by
      classical
      refine List.perm_iff_count.2 fun x => ?_
      simp only [List.count_cons]
      ac_rfl)
    refine of_boxes hp hF hFl hpl hy h4 fun F' BS H4 ex hBS h5 => ?_
    have el : (esB BS).length = BS.length := by simp [esB]
    have hm : H4.get H3.next = .map (esB BS) := h5.obm (by simp)
    have hBl : BS.length ≤ 1048576 := by
      have := congrArg List.length hBS
      rw [List.length_map] at this; omega
    have hrs : (roots BS).Pairwise (· < ·) := by
      have : roots BS = (BS.map BoxR.p).map fun b => ((b.root : Nat) : Int) := by simp [roots]
      rw [this, hBS, List.pairwise_map]
      have := hro.1
      rw [List.pairwise_map] at this
      exact this.imp fun h => by omega
    simp -implicitDefEqProofs -dsimp (disch := omega) only [go_sem, Nat.reduceEqDiff, ↓reduceIte, Nat.reduceAdd, Nat.reduceMul, Nat.reduceSub, Nat.reduceLT, Nat.reduceLeDiff, Int.reduceLT, Int.reduceLE, Int.reduceEq, Int.reduceNeg, Int.reduceAdd, Int.reduceMul, Int.reduceSub, Int.reduceToNat, reduceCtorEq, dec_t, dec_f, hm, el]
    have h6 : Hs _ (Lst (.sl none 0 0 0) 1 0 (zV []) :: _) := (h5.obnew (o := .iter H3.next BS.length [])).lst (Same.refl _ _) (own_nil _ 1) fun _ h => h.elim
    have h7 := Hs.perm (L' := Lst (.sl none 0 0 0) 1 0 (zV []) :: Ob H4.next (.iter H3.next BS.length []) :: Ob H3.next (.map (esB BS)) :: (BS.flatMap BoxR.as ++ (Lst (.sl fa F.length fc fe) 1 F.length (iV F') :: Lst (.sl ra PL.length rc re) 3 PL.length (pcells PL) :: StR (.sl oa hn oc oe) RL R))) h6 (by
      classical
      refine List.perm_iff_count.2 fun x => ?_
      simp only [List.count_cons, List.count_append]
      ac_rfl)
    refine of_range hBl h7 fun rv zs H5 ex hz h8 => ?_
    have ezs : srtd zs = roots BS := srtd_of hz hrs
    have ezl : zs.length = BS.length := by have := hz.length_eq; simpa [roots] using this
    obtain ⟨va, vc, ve, rfl⟩ := h8.own.arr.shape
    simp -implicitDefEqProofs -dsimp (disch := omega) only [go_sem, Nat.reduceEqDiff, ↓reduceIte, Nat.reduceAdd, Nat.reduceMul, Nat.reduceSub, Nat.reduceLT, Nat.reduceLeDiff, Int.reduceLT, Int.reduceLE, Int.reduceEq, Int.reduceNeg, Int.reduceAdd, Int.reduceMul, Int.reduceSub, Int.reduceToNat, reduceCtorEq, dec_t, dec_f, ]
    refine sort_ct hp h8 (by omega) fun H6 h9 => ?_
    rw [ezs, ezl] at h9
    rw [ezl]
    simp -implicitDefEqProofs -dsimp (disch := omega) only [go_sem, Nat.reduceEqDiff, ↓reduceIte, Nat.reduceAdd, Nat.reduceMul, Nat.reduceSub, Nat.reduceLT, Nat.reduceLeDiff, Int.reduceLT, Int.reduceLE, Int.reduceEq, Int.reduceNeg, Int.reduceAdd, Int.reduceMul, Int.reduceSub, Int.reduceToNat, reduceCtorEq, dec_t, dec_f, ]
    refine of_out hb hrs (w := wn) (h := hn) (fun b hb => (hbo b.p (by rw [← hBS]; exact List.mem_map_of_mem hb)).1) m3 (by omega) (by omega) (fun b hb => by
      have := hbl b.p (by rw [← hBS]; exact List.mem_map_of_mem hb)
      omega) hBl h9 fun ov PR H7 ex hPR h10 => ?_
    simp -implicitDefEqProofs -dsimp (disch := omega) only [go_sem, Nat.reduceEqDiff, ↓reduceIte, Nat.reduceAdd, Nat.reduceMul, Nat.reduceSub, Nat.reduceLT, Nat.reduceLeDiff, Int.reduceLT, Int.reduceLE, Int.reduceEq, Int.reduceNeg, Int.reduceAdd, Int.reduceMul, Int.reduceSub, Int.reduceToNat, reduceCtorEq, dec_t, dec_f, ]
    refine hQ2 ov PR H7 ?_ ?_
    · rw [hPR, ← hBS, List.map_map]; rfl
    · have := Hs.perm (L' := (Lst (.sl fa F.length fc fe) 1 F.length (iV F') :: Lst (.sl ra PL.length rc re) 3 PL.length (pcells PL) :: StR (.sl oa hn oc oe) RL []) ++ StP ov PR R) h10 (by
        classical
        refine List.perm_iff_count.2 fun x => ?_
        simp only [StP, StR, List.count_cons, List.count_append, List.append_nil]
        ac_rfl)
      exact this.cutl
end
end Go.Ab
