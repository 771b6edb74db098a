/- Runs among a law's data; the law's wakes. Conditions: none. -/
import Derived.Test.YtdkgdneiilnppaaRg
set_option linter.all false
namespace Go.Ab
abbrev runTD : TD := .agg [.int .i64, .int .i64]
theorem is_run {H : Heap} {cs : List V} {x : TD.Ty runTD} (h : Is H runTD cs x) : ∃ r : Int × Int, cs = [.int .i64 r.1, .int .i64 r.2] ∧ i64r r.1 ∧ i64r r.2 := by
  obtain ⟨a, r, e, ⟨h1, g1⟩, a2, r2, e2, ⟨h2, g2⟩, h3⟩ := h
  exact ⟨(x.1, x.2.1), by rw [e, e2, h1, h2, show r2 = [] from h3]; rfl, g1, g2⟩
theorem split_runs {H : Heap} : ∀ {xs : List (TD.Ty runTD)} {L : List V}, Split (Is H runTD) L xs → ∃ l : List (Int × Int), L = rcells l ∧ l.length = List.length xs ∧ ∀ r ∈ l, i64r r.1 ∧ i64r r.2
  | [], _, h => ⟨[], h, rfl, fun _ h => by cases h⟩
  | x :: xs, L, ⟨a, b, e, h1, h2⟩ => by
    obtain ⟨l, h3, h4, h5⟩ := split_runs h2
    obtain ⟨o, k1, k2⟩ := is_run h1
    refine ⟨o :: l, by rw [e, h3, k1]; rfl, by simp [h4], fun q hq => ?_⟩
    rcases List.mem_cons.1 hq with rfl | hq
    · exact k2
    · exact h5 q hq
theorem is_runs {H : Heap} {cs : List V} {x : TD.Ty (.sl 16 runTD)} (h : Is H (.sl 16 runTD) cs x) : ∃ (v : V) (l : List (Int × Int)), cs = [v] ∧ Arr H v 2 l.length (rcells l) ∧ (∀ r ∈ l, i64r r.1 ∧ i64r r.2) ∧ l.length ≤ 8796093022208 := by
  obtain ⟨v, L, h1, h2, h3, h4⟩ := h
  obtain ⟨l, h5, h6, h7⟩ := split_runs h3
  exact ⟨v, l, h1, by rw [h6, ← h5]; exact h2, h7, by omega⟩
theorem split_rows {H : Heap} : ∀ {xs : List (TD.Ty (.sl 16 runTD))} {L : List V}, Split (Is H (.sl 16 runTD)) L xs → ∃ rows : List (List (Int × Int)), L.length = rows.length ∧ rows.length = List.length xs ∧ (∀ l ∈ rows, l.length ≤ 8796093022208) ∧ ∀ (i : Nat) (l : List (Int × Int)), rows[i]? = some l → ∃ x, L[i]? = some x ∧ Arr H x 2 l.length (rcells l)
  | [], _, h => ⟨[], by rw [show _ = [] from h]; rfl, rfl, (fun _ h => by cases h), (fun _ _ h => by simp at h)⟩
  | x :: xs, L, ⟨a, b, e, h1, h2⟩ => by
    obtain ⟨rows, h3, h4, h5, h6⟩ := split_rows h2
    obtain ⟨v, l, k1, k2, k3, k4⟩ := is_runs h1
    refine ⟨l :: rows, by rw [e, k1]; simp [h3], by simp [h4], fun q hq => ?_, fun i q hq => ?_⟩
    · rcases List.mem_cons.1 hq with rfl | hq
      · exact k4
      · exact h5 q hq
    · cases i with
      | zero => cases hq; exact ⟨v, by rw [e, k1]; rfl, k2⟩
      | succ i => 
        obtain ⟨y, y1, y2⟩ := h6 i q hq
        exact ⟨y, by rw [e, k1]; simpa using y1, y2⟩
/-- Rows of runs in a law's data. -/
def RowsAt (H : Heap) (v : V) (rows : List (List (Int × Int))) : Prop := ∃ vals : List V, Arr H v 1 rows.length vals ∧ ∀ (i : Nat) (l : List (Int × Int)), rows[i]? = some l → ∃ x, vals[i]? = some x ∧ Arr H x 2 l.length (rcells l)
theorem is_rows {H : Heap} {cs : List V} {x : TD.Ty (.sl 24 (.sl 16 runTD))} (h : Is H (.sl 24 (.sl 16 runTD)) cs x) : ∃ (v : V) (rows : List (List (Int × Int))), cs = [v] ∧ RowsAt H v rows ∧ (∀ l ∈ rows, l.length ≤ 8796093022208) ∧ rows.length ≤ 8796093022208 := by
  obtain ⟨v, L, h1, h2, h3, h4⟩ := h
  obtain ⟨rows, h5, h6, h7, h8⟩ := split_rows h3
  exact ⟨v, rows, h1, ⟨L, by rw [h6]; exact h2, h8⟩, h7, by omega⟩
theorem RowsAt.rrd {H0 : Heap} {v : V} {rows : List (List (Int × Int))} (h : RowsAt H0 v rows) {R : List As} (hm : Bas H0 ∈ R) : RRd R v rows := by
  obtain ⟨vals, h1, h2⟩ := h
  refine ⟨vals, fun H hs => ⟨h1.same (hs.bas hm) fun _ _ h => h, fun i l hi => ?_⟩⟩
  obtain ⟨x, k1, k2⟩ := h2 i l hi
  exact ⟨x, k1, k2.same (hs.bas hm) fun _ _ h => h⟩
theorem rrd_one {R : List As} {b c : Nat} {l : List (Int × Int)} {L : List V} (e : L = rcells l) (h1 : Cel b L ∈ R) (h2 : Cel c [.sl (some (b, 0)) l.length l.length 2] ∈ R) : RRd R (.sl (some (c, 0)) 1 1 1) [l] := by
  subst e
  refine ⟨[.sl (some (b, 0)) l.length l.length 2], fun H hs => ⟨Or.inr ⟨c, 0, 1, _, true, rfl, hs.celm h2, by simp, by simp, Nat.le_refl _, (hs.ofmem h2).celt⟩, fun i q hq => ?_⟩⟩
  cases i with
  | zero =>
    cases hq
    exact ⟨_, rfl, Or.inr ⟨b, 0, l.length, _, true, rfl, hs.celm h1, by simp [rcells_len], by rw [List.drop_zero, List.take_of_length_le (by simp [rcells_len])], Nat.le_refl _, (hs.ofmem h1).celt⟩⟩
  | succ i => simp at hq
section
variable {P : Prog} {H : Heap} {R : List As} {Q : Out → Heap → Prop}
theorem arr_cel {H : Heap} {b : Nat} {ws : List Nat} {l : List V} {R : List As} (h : Hs H R) (hm : Cel b l ∈ R) (e : l = u64s ws) : Arr H (.sl (some (b, 0)) ws.length ws.length 1) 1 ws.length (u64s ws) := by
  subst e; exact Or.inr ⟨b, 0, ws.length, _, true, rfl, h.celm hm, by simp [u64s], by rw [List.drop_zero, List.take_of_length_le (by simp [u64s])], Nat.le_refl _, (h.ofmem hm).celt⟩
theorem pad5 : padOk 5 1 [7493989779944505344] := fun y hy k hk h => by
  obtain rfl : y = 0 := by omega
  exact (by decide +kernel : ∀ k, k < 64 → 5 ≤ 64 * (wds 5 - 1) + k → wb (([7493989779944505344] : List Nat).getD (0 * wds 5 + (wds 5 - 1)) 0) k = false) k hk h
set_option maxRecDepth 4000 in
theorem wakes9_ct (hb : HasBm P) (hz : HasRz P) (hu : HasRu P) (hp : HasRf9 P) (hs : Hs H R) (hQ : ∀ H', Hs H' R → Q (.ret (.bool true)) H') : Call P 122 [] H Q := by
  refine call_of hp.h_burinlaw9_wakes rfl ?_
  have g1 := (hs.alloc (l := [.int .u64 7493989779944505344])).alloc (l := [.int .i64 5, .int .i64 1, .sl (some (H.next, 0)) 1 1 1])
  rw [next_new] at g1
  have r1 := rd_bm g1 (List.mem_cons_self ..) 3 rfl
  simp -implicitDefEqProofs -dsimp (disch := omega) only [go_sem, Nat.reduceEqDiff, ↓reduceIte, Nat.reduceAdd, Nat.reduceMul, Nat.reduceSub, Nat.reduceLT, Nat.reduceLeDiff, Int.reduceLT, Int.reduceLE, Int.reduceEq, Int.reduceNeg, Int.reduceAdd, Int.reduceMul, Int.reduceSub, Int.reduceToNat, reduceCtorEq, dec_t, dec_f, r1]
  generalize (H.new _).new _ = H1 at *
  generalize H.next + 1 = b1 at *
  generalize H.next = b0 at *
  refine runsOf_ct hb hu (ws := [7493989779944505344]) g1 (fun H' h' => arr_cel (b := b0) (ws := [7493989779944505344]) (l := [.int .u64 7493989779944505344]) h' (by simp) rfl) (by decide) (by decide) (by decide) (fun k => absurd (show mayB 5 1 [7493989779944505344] from ⟨by decide, by decide, pad5⟩) k) fun _ ov RL H2 hrl h2 => ?_
  have hrl : RL.map RowR.l = [[(1, 3), (4, 5)]] := by rw [hrl]; decide +kernel
  have g3 := (h2.alloc (l := [.int .i64 1, .int .i64 3, .int .i64 4, .int .i64 5])).alloc (l := [.sl (some (H2.next, 0)) 2 2 2])
  rw [next_new] at g3
  simp -implicitDefEqProofs -dsimp (disch := omega) only [go_sem, Nat.reduceEqDiff, ↓reduceIte, Nat.reduceAdd, Nat.reduceMul, Nat.reduceSub, Nat.reduceLT, Nat.reduceLeDiff, Int.reduceLT, Int.reduceLE, Int.reduceEq, Int.reduceNeg, Int.reduceAdd, Int.reduceMul, Int.reduceSub, Int.reduceToNat, reduceCtorEq, dec_t, dec_f, ]
  generalize (H2.new _).new _ = H3 at *
  generalize H2.next + 1 = b3 at *
  generalize H2.next = b2 at *
  refine runsBack_ct hb hu g3 (rrd_one (b := b2) (l := [(1, 3), (4, 5)]) (L := [.int .i64 1, .int .i64 3, .int .i64 4, .int .i64 5]) rfl (by simp) (by simp)) (by decide) (by decide) (by decide) (fun k => absurd (show okRows 5 [[(1, 3), (4, 5)]] from ⟨by decide, by decide⟩) k) fun _ v' H4 h4 => ?_
  obtain ⟨va, vn, vc, ve, rfl⟩ : ∃ a n c e, v' = V.sl a n c e := by obtain ⟨vb, kv⟩ := bmV h4; exact ⟨_, _, _, _, kv.val⟩
  have g5 := h4.alloc (l := [.int .i64 5, .int .i64 1, .sl va vn vc ve])
  have g6 := (g5.alloc (l := [.int .i64 1, .int .i64 3, .int .i64 4, .int .i64 5])).alloc (l := [.sl (some (H4.next + 1, 0)) 2 2 2])
  simp only [next_new] at g6
  simp -implicitDefEqProofs -dsimp (disch := omega) only [go_sem, Nat.reduceEqDiff, ↓reduceIte, Nat.reduceAdd, Nat.reduceMul, Nat.reduceSub, Nat.reduceLT, Nat.reduceLeDiff, Int.reduceLT, Int.reduceLE, Int.reduceEq, Int.reduceNeg, Int.reduceAdd, Int.reduceMul, Int.reduceSub, Int.reduceToNat, reduceCtorEq, dec_t, dec_f, ]
  clear g5
  generalize ((H4.new _).new _).new _ = H5 at *
  generalize H4.next + 1 + 1 = b6 at *
  generalize H4.next + 1 = b5 at *
  generalize H4.next = b4 at *
  have dr : ∀ {H'} {X Y Z W U Z2 : As}, Hs H' (X :: Y :: Z :: W :: U :: Z2 :: StR ov RL (Cel b1 [.int .i64 5, .int .i64 1, .sl (some (b0, 0)) 1 1 1] :: Cel b0 [.int .u64 7493989779944505344] :: R)) → Hs H' (StR ov RL (Cel b1 [.int .i64 5, .int .i64 1, .sl (some (b0, 0)) 1 1 1] :: Cel b0 [.int .u64 7493989779944505344] :: R)) := fun h => h.tail.tail.tail.tail.tail.tail
  refine eqruns_ct hp g6 (rrd_st.mono fun H' h' => dr h') (rrd_one (b := b5) (l := [(1, 3), (4, 5)]) (L := [.int .i64 1, .int .i64 3, .int .i64 4, .int .i64 5]) rfl (by simp) (by simp)) (by rw [hrl]; decide) (by rw [hrl]; decide) ?_
  rw [hrl, decide_eq_true rfl]
  have r1 := rd_bm g6 (b := b1) (l := [.int .i64 5, .int .i64 1, .sl (some (b0, 0)) 1 1 1]) (by simp [StR]) 3 rfl
  have r4 := rd_bm g6 (b := b4) (l := [.int .i64 5, .int .i64 1, .sl va vn vc ve]) (by simp [StR]) 3 rfl
  simp -implicitDefEqProofs -dsimp (disch := omega) only [go_sem, Nat.reduceEqDiff, ↓reduceIte, Nat.reduceAdd, Nat.reduceMul, Nat.reduceSub, Nat.reduceLT, Nat.reduceLeDiff, Int.reduceLT, Int.reduceLE, Int.reduceEq, Int.reduceNeg, Int.reduceAdd, Int.reduceMul, Int.reduceSub, Int.reduceToNat, reduceCtorEq, dec_t, dec_f, r1, r4]
  refine eqb_ct hz g6 (arr_cel (b := b0) (ws := [7493989779944505344]) (l := [.int .u64 7493989779944505344]) g6 (by simp [StR]) rfl) ((g6.ofmem (A := BmA (.sl va vn vc ve) 5 1 (bkP [[(1, 3), (4, 5)]])) (by simp)).bml.own.arr) (by decide) fun H6 h6 _ => ?_
  rw [decide_eq_true (show (5 : Int) = 5 ∧ (1 : Int) = 1 ∧ [7493989779944505344] = Wds 5 1 (bkP [[(1, 3), (4, 5)]]) from ⟨rfl, rfl, by decide +kernel⟩)]
  simp -implicitDefEqProofs -dsimp (disch := omega) only [go_sem, Nat.reduceEqDiff, ↓reduceIte, Nat.reduceAdd, Nat.reduceMul, Nat.reduceSub, Nat.reduceLT, Nat.reduceLeDiff, Int.reduceLT, Int.reduceLE, Int.reduceEq, Int.reduceNeg, Int.reduceAdd, Int.reduceMul, Int.reduceSub, Int.reduceToNat, reduceCtorEq, dec_t, dec_f, ]
  refine touch_ct hu (a := (0, 2)) (b := (2, 3)) h6 fun H7 h7 => ?_
  rw [decide_eq_true (show touchP (0, 2) (2, 3) by decide)]
  simp -implicitDefEqProofs -dsimp (disch := omega) only [go_sem, Nat.reduceEqDiff, ↓reduceIte, Nat.reduceAdd, Nat.reduceMul, Nat.reduceSub, Nat.reduceLT, Nat.reduceLeDiff, Int.reduceLT, Int.reduceLE, Int.reduceEq, Int.reduceNeg, Int.reduceAdd, Int.reduceMul, Int.reduceSub, Int.reduceToNat, reduceCtorEq, dec_t, dec_f, ]
  exact hQ H7 ((Hs.drops (dr h7).tail).tail.tail)
end
end Go.Ab
