/- The reference's piece: a flood fill. Conditions: none. -/
import Derived.Test.YtfgecfbknpifjaaPq
import Derived.Test.YtfgecfbknpifjaaPL10Of
set_option linter.all false
namespace Go.Ab
def dotCells (D : List Dot) : List V := D.flatMap fun d => [.int .i64 (d.1 : Nat), .int .i64 (d.2 : Nat)]
theorem dotCells_len (D : List Dot) : (dotCells D).length = D.length * 2 := by
  induction D with
  | nil => rfl
  | cons d D ih => rw [dotCells, List.flatMap_cons, List.length_append, show (D.flatMap _).length = _ from ih]; simp; omega
theorem dotCells_at : ∀ {D : List Dot} {i : Nat} (hi : i < D.length), ((dotCells D).drop (i * 2)).take 2 = [.int .i64 (D[i].1 : Nat), .int .i64 (D[i].2 : Nat)]
  | o :: l, 0, _ => by simp [dotCells]
  | o :: l, i + 1, hi => by
    have := dotCells_at (D := l) (i := i) (by simpa using hi)
    rw [show (i + 1) * 2 = 2 + i * 2 by omega, ← List.drop_drop]
    simpa [dotCells] using this
theorem dot_rd {H : Heap} {v : V} {D : List Dot} (h : Arr H v 2 D.length (dotCells D)) {a : Nat} {d : Dot} (hd : D[a]? = some d) :
    ∃ b o c, v = .sl (some (b, o)) D.length c 2 ∧ rd H none b (o + a * 2) = some (.int .i64 (d.1 : Nat)) ∧ rd H none b (o + a * 2 + 1) = some (.int .i64 (d.2 : Nat)) ∧ rd H (some 2) b (o + a * 2) = some (.agg [.int .i64 (d.1 : Nat), .int .i64 (d.2 : Nat)]) := by
  obtain ⟨ha, hd⟩ := List.getElem?_eq_some_iff.1 hd
  subst hd
  obtain ⟨b, o, c, rfl, _, h1, h2⟩ := h.at ha
  have e := dotCells_at ha
  have g : ∀ k, k < 2 → rd H none b (o + a * 2 + k) = (((dotCells D).drop (a * 2)).take 2)[k]? := fun k hk => by
    rw [h1 k hk, List.getElem?_take, if_pos hk, List.getElem?_drop]
  refine ⟨b, o, c, rfl, ?_, ?_, ?_⟩
  · have := g 0 (by omega); rw [Nat.add_zero, e] at this; exact this
  · have := g 1 (by omega); rw [e] at this; exact this
  · have := h2 0 2 (by omega); rw [Nat.add_zero, Nat.add_zero, e] at this; exact this
theorem dotCells_snoc (D : List Dot) (x y : Nat) : dotCells (D ++ [(x, y)]) = dotCells D ++ [.int .i64 (x : Nat), .int .i64 (y : Nat)] := by simp [dotCells]
theorem lft_snoc (p : Nat → Nat → Bool) (D : List Dot) (x y : Nat) : ∀ a b, updP (lft p D) x y false a b = lft p (D ++ [(x, y)]) a b := fun a b => by
  unfold updP lft
  by_cases c : a = x ∧ b = y
  · obtain ⟨rfl, rfl⟩ := c
    rw [if_pos ⟨rfl, rfl⟩]
    simp
  · rw [if_neg c]
    have : (D ++ [(x, y)]).contains (a, b) = D.contains (a, b) := by
      rw [Bool.eq_iff_iff, List.contains_iff_mem, List.contains_iff_mem]
      simp only [List.mem_append, List.mem_singleton, Prod.mk.injEq]
      exact ⟨fun h => h.elim id fun h => absurd h c, .inl⟩
    rw [this]
section
variable {P : Prog} {H : Heap} {T : List As}
structure FlS where
  k : Nat
  D : List Dot
  dv : V
set_option maxRecDepth 20000 in
set_option maxHeartbeats 2000000 in
theorem fl_l4 (hz : HasRz P) {Q : Post} {t : Tag Q} {s : Tag burinref10_piece_l4} {b3 b6 i jj w h x0 y0 : Nat} {v dv : V} {p : Nat → Nat → Bool} {D : List Dot} {d : Dot} (hd : D[i]? = some d) (hj : jj < 3) (hsm : h * w ≤ 1048576) (hw : w ≤ 1048576) (hh : h ≤ 1048576) (m3 : Cel b3 [.int .i64 (w : Nat), .int .i64 (h : Nat), v] ∈ T)
    (hF : FlI p w h x0 y0 i (jj * 3) D) (hs : Hs H (BmA v w h (lft p D) :: Lst dv 2 D.length (dotCells D) :: T))
    (hK : ∀ D' dv' H' ex, D'[i]? = some d → FlI p w h x0 y0 i (jj * 3 + 3) D' → Hs H' (BmA v w h (lft p D') :: Lst dv' 2 D'.length (dotCells D') :: T) →
      Q (.exit 4) ⟨(3, .ptr (some (b3, 0))) :: (6, .ptr (some (b6, 0))) :: (7, dv') :: (8, .int .i64 (i : Nat)) :: (9, .int .i64 ((jj : Int) - 1)) :: ex, []⟩ H') :
    loopL (Call P) [3, 6, 7, 8, 9, 10] burinref10_piece_l4 Q t s ⟨[(3, .ptr (some (b3, 0))), (6, .ptr (some (b6, 0))), (7, dv), (8, .int .i64 (i : Nat)), (9, .int .i64 ((jj : Int) - 1)), (10, .int .i64 (-1))], []⟩ H := by
  rw [show (-1 : Int) = ((0 : Nat) : Int) - 1 from rfl]
  refine loop_dec (σ := FlS) (fun z => 3 - z.k) (fun z => ⟨[(3, .ptr (some (b3, 0))), (6, .ptr (some (b6, 0))), (7, z.dv), (8, .int .i64 (i : Nat)), (9, .int .i64 ((jj : Int) - 1)), (10, .int .i64 (((z.k : Nat) : Int) - 1))], []⟩)
    (fun z H => z.k ≤ 3 ∧ z.D[i]? = some d ∧ FlI p w h x0 y0 i (jj * 3 + z.k) z.D ∧ Hs H (BmA v w h (lft p z.D) :: Lst z.dv 2 z.D.length (dotCells z.D) :: T))
    (fun z H1 K ⟨hk, hd1, hF1, h1⟩ hn hx hrr => ?_) ⟨0, D, dv⟩ H ⟨Nat.zero_le _, hd, hF, hs⟩
  obtain ⟨k, D1, dv1⟩ := z
  dsimp only at hk hd1 hF1 h1 hn
  have hbl := (hF1.fl.bl d (List.mem_of_getElem? hd1)).1
  obtain ⟨l1, l2, _⟩ := hbl
  have ek : (k : Int) - 1 + 1 = ((k + 1 : Nat) : Int) - 1 := by omega
  by_cases hlt : k < 3
  · have c3 := rd_bm h1.tail.tail m3 3 rfl
    obtain ⟨xb, xo, xc, ev, r1, r2, r3⟩ := dot_rd h1.p1.own.arr hd1
    subst ev
    have hi := (List.getElem?_eq_some_iff.1 hd1).1
    have e3 : (jj * 3 + k) % 3 = k := by omega
    have e4 : (jj * 3 + k) / 3 = jj := by omega
    simp -implicitDefEqProofs -dsimp (disch := omega) only [go_sem, dec_t, dec_f, burinref10_piece_l4, Int.toNat_natCast, c3, r1, r2, w64]
    refine getB_ct hz h1 fun H2 h2 _ => ?_
    by_cases c : 0 ≤ (d.1 : Int) + ((k : Int) - 1) ∧ (d.1 : Int) + ((k : Int) - 1) < w ∧ 0 ≤ (d.2 : Int) + ((jj : Int) - 1) ∧ (d.2 : Int) + ((jj : Int) - 1) < h
    · obtain ⟨x, hx1⟩ : ∃ x : Nat, (d.1 : Int) + ((k : Int) - 1) = x := ⟨((d.1 : Int) + ((k : Int) - 1)).toNat, by omega⟩
      obtain ⟨y, hy1⟩ : ∃ y : Nat, (d.2 : Int) + ((jj : Int) - 1) = y := ⟨((d.2 : Int) + ((jj : Int) - 1)).toNat, by omega⟩
      rw [hx1, hy1] at c
      rw [hx1, hy1, show getV w h (lft p D1) x y = (lft p D1 x y).toNat by unfold getV; rw [if_pos c, Int.toNat_natCast, Int.toNat_natCast]]
      cases hb : lft p D1 x y with
      | false =>
        simp -implicitDefEqProofs -dsimp (disch := omega) only [go_sem, dec_t, dec_f, Bool.toNat_false, show ((0 : Nat) : Int) = 0 from rfl, w64, ek]
        refine hn ⟨k + 1, D1, _⟩ H2 (by dsimp only; omega) ⟨hlt, hd1, ?_, h2⟩
        refine hF1.skip hd1 fun x' y' hx' hy' _ _ => ?_
        rw [e3] at hx'; rw [e4] at hy'
        rw [show x' = x by omega, show y' = y by omega]; exact hb
      | true =>
        have hF2 := hF1.app hd1 (x := x) (y := y) (by rw [e3]; omega) (by rw [e4]; omega) (by omega) hb (by omega)
        have c3 := rd_bm h2.tail.tail m3 3 rfl
        obtain ⟨yb, yo, yc, ev, r1, r2, r3⟩ := dot_rd h2.p1.own.arr hd1
        cases ev
        simp -implicitDefEqProofs -dsimp (disch := omega) only [go_sem, dec_t, dec_f, Bool.toNat_true, show ((1 : Nat) : Int) = 1 from rfl, Int.toNat_natCast, c3, r1, r2, w64, hx1, hy1]
        refine putR_ct hz h2 (by omega) (by omega) fun H3 h3 => ?_
        have h3 := h3.bmc (q := lft p (D1 ++ [(x, y)])) fun a b _ _ => by
          rw [show decide ((0 : Int) = 1) = false from rfl]; exact lft_snoc p D1 x y a b
        obtain ⟨zb, zo, zc, ev, r1, r2, r3⟩ := dot_rd h3.p1.own.arr hd1
        cases ev
        have hlen := hF2.fl.len.2
        rw [List.length_append, List.length_singleton] at hlen
        obtain ⟨ov', H4, ha, hoo, hsm', hff⟩ := app_oneT h3.p1.own (M := [.int .i64 (x : Nat), .int .i64 (y : Nat)]) (m := 1) (eb := 16) rfl rfl (by omega) (by omega)
        have h4 := h3.p1.lst' hsm' hoo hff
        rw [← dotCells_snoc] at h4
        simp -implicitDefEqProofs -dsimp (disch := omega) only [go_sem, dec_t, dec_f, Int.toNat_natCast, r1, r2, w64, hx1, hy1, ha, ek]
        refine hn ⟨k + 1, D1 ++ [(x, y)], ov'⟩ H4 (by dsimp only; omega) ⟨hlt, by rw [List.getElem?_append_left hi]; exact hd1, hF2, ?_⟩
        rw [List.length_append, List.length_singleton]
        exact h4.p1
    · rw [show getV w h (lft p D1) ((d.1 : Int) + ((k : Int) - 1)) ((d.2 : Int) + ((jj : Int) - 1)) = 0 by unfold getV; rw [if_neg (by omega)]]
      simp -implicitDefEqProofs -dsimp (disch := omega) only [go_sem, dec_t, dec_f, show ((0 : Nat) : Int) = 0 from rfl, w64, ek]
      refine hn ⟨k + 1, D1, _⟩ H2 (by dsimp only; omega) ⟨hlt, hd1, ?_, h2⟩
      refine hF1.skip hd1 fun x' y' hx' hy' _ _ => ?_
      rw [e3] at hx'; rw [e4] at hy'
      omega
  · obtain rfl : k = 3 := by omega
    simp -implicitDefEqProofs -dsimp (disch := omega) only [go_sem, dec_t, dec_f, burinref10_piece_l4]
    rw [hx]
    exact hK D1 dv1 H1 _ hd1 hF1 h1
set_option maxRecDepth 20000 in
set_option maxHeartbeats 2000000 in
theorem fl_l3 (hz : HasRz P) {Q : Post} {t : Tag Q} {s : Tag burinref10_piece_l3} {b3 b6 i w h x0 y0 : Nat} {v dv : V} {p : Nat → Nat → Bool} {D : List Dot} {d : Dot} (hd : D[i]? = some d) (hsm : h * w ≤ 1048576) (hw : w ≤ 1048576) (hh : h ≤ 1048576) (m3 : Cel b3 [.int .i64 (w : Nat), .int .i64 (h : Nat), v] ∈ T)
    (hF : FlI p w h x0 y0 i 0 D) (hs : Hs H (BmA v w h (lft p D) :: Lst dv 2 D.length (dotCells D) :: T))
    (hK : ∀ D' dv' H' ex, D'[i]? = some d → FlI p w h x0 y0 i 9 D' → Hs H' (BmA v w h (lft p D') :: Lst dv' 2 D'.length (dotCells D') :: T) →
      Q (.exit 2) ⟨(3, .ptr (some (b3, 0))) :: (6, .ptr (some (b6, 0))) :: (7, dv') :: (8, .int .i64 (i : Nat)) :: ex, []⟩ H') :
    loopL (Call P) [3, 6, 7, 8, 9] burinref10_piece_l3 Q t s ⟨[(3, .ptr (some (b3, 0))), (6, .ptr (some (b6, 0))), (7, dv), (8, .int .i64 (i : Nat)), (9, .int .i64 (-1))], []⟩ H := by
  rw [show (-1 : Int) = ((0 : Nat) : Int) - 1 from rfl]
  refine loop_dec (σ := FlS) (fun z => 3 - z.k) (fun z => ⟨[(3, .ptr (some (b3, 0))), (6, .ptr (some (b6, 0))), (7, z.dv), (8, .int .i64 (i : Nat)), (9, .int .i64 (((z.k : Nat) : Int) - 1))], []⟩)
    (fun z H => z.k ≤ 3 ∧ z.D[i]? = some d ∧ FlI p w h x0 y0 i (z.k * 3) z.D ∧ Hs H (BmA v w h (lft p z.D) :: Lst z.dv 2 z.D.length (dotCells z.D) :: T))
    (fun z H1 K ⟨hk, hd1, hF1, h1⟩ hn hx hrr => ?_) ⟨0, D, dv⟩ H ⟨Nat.zero_le _, hd, hF, hs⟩
  obtain ⟨k, D1, dv1⟩ := z
  dsimp only at hk hd1 hF1 h1 hn
  have ek : (k : Int) - 1 + 1 = ((k + 1 : Nat) : Int) - 1 := by omega
  by_cases hlt : k < 3
  · simp -implicitDefEqProofs -dsimp (disch := omega) only [go_sem, dec_t, dec_f, burinref10_piece_l3]
    refine fl_l4 hz hd1 hlt hsm hw hh m3 hF1 h1 fun D' dv' H' ex hd' hF' h' => ?_
    rw [show k * 3 + 3 = (k + 1) * 3 by omega] at hF'
    simp -implicitDefEqProofs -dsimp (disch := omega) only [go_sem, dec_t, dec_f, w64, ek]
    exact hn ⟨k + 1, D', dv'⟩ H' (by dsimp only; omega) ⟨hlt, hd', hF', h'⟩
  · obtain rfl : k = 3 := by omega
    simp -implicitDefEqProofs -dsimp (disch := omega) only [go_sem, dec_t, dec_f, burinref10_piece_l3]
    rw [hx]
    exact hK D1 dv1 H1 _ hd1 hF1 h1
set_option maxRecDepth 20000 in
set_option maxHeartbeats 2000000 in
theorem fl_l2 (hz : HasRz P) {Q : Post} {t : Tag Q} {s : Tag burinref10_piece_l2} {b3 b6 w h x0 y0 : Nat} {v dv : V} {p : Nat → Nat → Bool} {D : List Dot} (hsm : h * w ≤ 1048576) (hw : w ≤ 1048576) (hh : h ≤ 1048576) (m3 : Cel b3 [.int .i64 (w : Nat), .int .i64 (h : Nat), v] ∈ T)
    (hF : FlI p w h x0 y0 0 0 D) (hs : Hs H (BmA v w h (lft p D) :: Lst dv 2 D.length (dotCells D) :: T))
    (hK : ∀ D' dv' H' ex, FlI p w h x0 y0 D'.length 0 D' → Hs H' (BmA v w h (lft p D') :: Lst dv' 2 D'.length (dotCells D') :: T) → Q (.exit 0) ⟨(3, .ptr (some (b3, 0))) :: (6, .ptr (some (b6, 0))) :: (7, dv') :: ex, []⟩ H') :
    loopL (Call P) [3, 6, 7, 8] burinref10_piece_l2 Q t s ⟨[(3, .ptr (some (b3, 0))), (6, .ptr (some (b6, 0))), (7, dv), (8, .int .i64 ((0 : Nat) : Int))], []⟩ H := by
  refine loop_dec (σ := FlS) (fun z => h * w - z.k) (fun z => ⟨[(3, .ptr (some (b3, 0))), (6, .ptr (some (b6, 0))), (7, z.dv), (8, .int .i64 (z.k : Nat))], []⟩)
    (fun z H => FlI p w h x0 y0 z.k 0 z.D ∧ Hs H (BmA v w h (lft p z.D) :: Lst z.dv 2 z.D.length (dotCells z.D) :: T))
    (fun z H1 K ⟨hF1, h1⟩ hn hx hrr => ?_) ⟨0, D, dv⟩ H ⟨hF, hs⟩
  obtain ⟨i, D1, dv1⟩ := z
  dsimp only at hF1 h1 hn
  obtain ⟨da, dc, de, rfl⟩ := h1.p1.own.arr.shape
  have hlen := hF1.fl.len
  have hle := hF1.lt
  by_cases hlt : i < D1.length
  · simp -implicitDefEqProofs -dsimp (disch := omega) only [go_sem, dec_t, dec_f, burinref10_piece_l2]
    refine fl_l3 hz (List.getElem?_eq_getElem hlt) hsm hw hh m3 hF1 h1 fun D' dv' H' ex hd' hF' h' => ?_
    simp -implicitDefEqProofs -dsimp (disch := omega) only [go_sem, dec_t, dec_f, w64, cadd1]
    have hl' := hF'.fl.len
    exact hn ⟨i + 1, D', dv'⟩ H' (by dsimp only; omega) ⟨hF'.next (List.getElem?_eq_some_iff.1 hd').1, h'⟩
  · obtain rfl : i = D1.length := by omega
    simp -implicitDefEqProofs -dsimp (disch := omega) only [go_sem, dec_t, dec_f, burinref10_piece_l2]
    rw [hx]
    exact hK D1 _ H1 _ hF1 h1
set_option maxRecDepth 20000 in
set_option maxHeartbeats 2000000 in
theorem fl_l1 {Q : Post} {t : Tag Q} {s : Tag burinref10_piece_l1} {b6 lo hi ly lx0 hx0 hy0 w h : Nat} {dv : V} {D : List Dot} (hD : ∀ d ∈ D, d.1 < w ∧ d.2 < h) (hlen : D.length ≤ 1048576) (md : Lst dv 2 D.length (dotCells D) ∈ T) (h1len : 1 ≤ D.length) (hE : Ext4 D 1 lx0 hx0 hy0)
    (hs : Hs H (Cel lo [.int .i64 (lx0 : Nat), .int .i64 (ly : Nat)] :: Cel hi [.int .i64 (hx0 : Nat), .int .i64 (hy0 : Nat)] :: T))
    (hK : ∀ lx hx hy H' ex, Ext4 D D.length lx hx hy → Hs H' (Cel lo [.int .i64 (lx : Nat), .int .i64 (ly : Nat)] :: Cel hi [.int .i64 (hx : Nat), .int .i64 (hy : Nat)] :: T) →
      Q (.exit 6) ⟨(6, .ptr (some (b6, 0))) :: (7, dv) :: (11, .ptr (some (lo, 0))) :: (12, .ptr (some (hi, 0))) :: ex, []⟩ H') :
    loopL (Call P) [6, 7, 11, 12, 13] burinref10_piece_l1 Q t s ⟨[(6, .ptr (some (b6, 0))), (7, dv), (11, .ptr (some (lo, 0))), (12, .ptr (some (hi, 0))), (13, .int .i64 1)], []⟩ H := by
  obtain ⟨da, dc, de, rfl⟩ := (hs.ownm (by simp [md] : Lst dv 2 D.length (dotCells D) ∈ _)).arr.shape
  rw [show (1 : Int) = ((0 + 1 : Nat) : Int) from rfl]
  refine loop_cnt (D.length - 1) (fun i => ⟨[(6, .ptr (some (b6, 0))), (7, .sl da D.length dc de), (11, .ptr (some (lo, 0))), (12, .ptr (some (hi, 0))), (13, .int .i64 ((i + 1 : Nat) : Int))], []⟩)
    (fun i H => ∃ lx hx hy, Ext4 D (i + 1) lx hx hy ∧ Hs H (Cel lo [.int .i64 (lx : Nat), .int .i64 (ly : Nat)] :: Cel hi [.int .i64 (hx : Nat), .int .i64 (hy : Nat)] :: T))
    (fun i H1 K hi1 ⟨lx, hx, hy, hE1, h1⟩ hn hx' hrr => ?_) 0 H (Nat.zero_le _) ⟨lx0, hx0, hy0, hE, hs⟩
  by_cases hlt : i + 1 < D.length
  · have hat := List.getElem?_eq_getElem hlt
    have hE2 := hE1.step hat
    have hlen2 := hD _ (List.getElem_mem hlt)
    generalize D[i + 1] = d at hat hE2 hlen2
    have rdd : ∀ {H' : Heap} {A B : As}, Hs H' (A :: B :: T) → ∃ b o c, V.sl da D.length dc de = .sl (some (b, o)) D.length c 2 ∧ rd H' none b (o + (i + 1) * 2) = some (.int .i64 (d.1 : Nat)) ∧ rd H' none b (o + (i + 1) * 2 + 1) = some (.int .i64 (d.2 : Nat)) ∧ rd H' (some 2) b (o + (i + 1) * 2) = some (.agg [.int .i64 (d.1 : Nat), .int .i64 (d.2 : Nat)]) := fun h' => dot_rd ((h'.tail.tail.ownm md).arr) hat
    obtain ⟨xb, xo, xc, ev, r1, r2, _⟩ := rdd h1
    cases ev
    have wlo : ∀ {H' : Heap} {a x : Nat} {B : As}, Hs H' (Cel lo [.int .i64 (a : Nat), .int .i64 (ly : Nat)] :: B :: T) → ∃ H'', wr H' lo 0 [.int .i64 (x : Nat)] = some H'' ∧ Hs H'' (Cel lo [.int .i64 (x : Nat), .int .i64 (ly : Nat)] :: B :: T) := fun h' => Hs.sto 0 h' rfl (o := 0) (vs := [_]) (by simp) rfl
    have whx : ∀ {H' : Heap} {a b x : Nat} {B : As}, Hs H' (B :: Cel hi [.int .i64 (a : Nat), .int .i64 (b : Nat)] :: T) → ∃ H'', wr H' hi 0 [.int .i64 (x : Nat)] = some H'' ∧ Hs H'' (B :: Cel hi [.int .i64 (x : Nat), .int .i64 (b : Nat)] :: T) := fun h' => Hs.sto 1 h' rfl (o := 0) (vs := [_]) (by simp) rfl
    have why : ∀ {H' : Heap} {a b x : Nat} {B : As}, Hs H' (B :: Cel hi [.int .i64 (a : Nat), .int .i64 (b : Nat)] :: T) → ∃ H'', wr H' hi 1 [.int .i64 (x : Nat)] = some H'' ∧ Hs H'' (B :: Cel hi [.int .i64 (a : Nat), .int .i64 (x : Nat)] :: T) := fun h' => Hs.sto 1 h' rfl (o := 1) (vs := [_]) (by simp) rfl
    have rlo : ∀ {H' : Heap} {a : Nat} {B : As}, Hs H' (Cel lo [.int .i64 (a : Nat), .int .i64 (ly : Nat)] :: B :: T) → ∀ k, rd H' none lo k = [V.int .i64 (a : Nat), .int .i64 (ly : Nat)][k]? := fun h' => rd_s h'.cel
    have rhi : ∀ {H' : Heap} {a b : Nat} {B : As}, Hs H' (B :: Cel hi [.int .i64 (a : Nat), .int .i64 (b : Nat)] :: T) → ∀ k, rd H' none hi k = [V.int .i64 (a : Nat), .int .i64 (b : Nat)][k]? := fun h' => rd_s h'.p1.cel
    have next : ∀ {H' : Heap} {a b c : Nat}, a = (if d.1 < lx then d.1 else lx) → b = (if d.1 > hx then d.1 else hx) → c = (if d.2 > hy then d.2 else hy) → Hs H' (Cel lo [.int .i64 (a : Nat), .int .i64 (ly : Nat)] :: Cel hi [.int .i64 (b : Nat), .int .i64 (c : Nat)] :: T) →
        K .normal ⟨[(6, .ptr (some (b6, 0))), (7, .sl (some (xb, xo)) D.length dc 2), (11, .ptr (some (lo, 0))), (12, .ptr (some (hi, 0))), (13, .int .i64 ((i + 1 + 1 : Nat) : Int))], []⟩ H' := fun e1 e2 e3 h' => by
      subst e1 e2 e3
      exact hn (by omega) _ ⟨_, _, _, hE2, h'⟩
    have q0 := rlo h1
    have q1 := rhi h1
    by_cases c1 : d.1 < lx
    · by_cases c2 : d.1 > hx
      · by_cases c3 : d.2 > hy
        · obtain ⟨H2, w2, h2⟩ := wlo (x := d.1) h1
          simp -implicitDefEqProofs -dsimp (disch := omega) only [go_sem, dec_t, dec_f, burinref10_piece_l1, Int.toNat_natCast, r1, r2, q0, q1, w2]
          obtain ⟨xb', xo', xc', ev, r1, r2, _⟩ := rdd h2
          cases ev
          have q0 := rlo h2
          have q1 := rhi h2
          obtain ⟨H3, w3, h3⟩ := whx (x := d.1) h2
          simp -implicitDefEqProofs -dsimp (disch := omega) only [go_sem, dec_t, dec_f, Int.toNat_natCast, r1, r2, q0, q1, w3]
          obtain ⟨xb', xo', xc', ev, r1, r2, _⟩ := rdd h3
          cases ev
          have q0 := rlo h3
          have q1 := rhi h3
          obtain ⟨H4, w4, h4⟩ := why (x := d.2) h3
          simp -implicitDefEqProofs -dsimp (disch := omega) only [go_sem, dec_t, dec_f, Int.toNat_natCast, r1, r2, q0, q1, w4]
          obtain ⟨xb', xo', xc', ev, r1, r2, _⟩ := rdd h4
          cases ev
          have q0 := rlo h4
          have q1 := rhi h4
          simp -implicitDefEqProofs -dsimp (disch := omega) only [go_sem, dec_t, dec_f, Int.toNat_natCast, r1, r2, q0, q1, w64, cadd1]
          exact next (by rw [if_pos c1]) (by rw [if_pos c2]) (by rw [if_pos c3]) h4
        · obtain ⟨H2, w2, h2⟩ := wlo (x := d.1) h1
          simp -implicitDefEqProofs -dsimp (disch := omega) only [go_sem, dec_t, dec_f, burinref10_piece_l1, Int.toNat_natCast, r1, r2, q0, q1, w2]
          obtain ⟨xb', xo', xc', ev, r1, r2, _⟩ := rdd h2
          cases ev
          have q0 := rlo h2
          have q1 := rhi h2
          obtain ⟨H3, w3, h3⟩ := whx (x := d.1) h2
          simp -implicitDefEqProofs -dsimp (disch := omega) only [go_sem, dec_t, dec_f, Int.toNat_natCast, r1, r2, q0, q1, w3]
          obtain ⟨xb', xo', xc', ev, r1, r2, _⟩ := rdd h3
          cases ev
          have q0 := rlo h3
          have q1 := rhi h3
          simp -implicitDefEqProofs -dsimp (disch := omega) only [go_sem, dec_t, dec_f, Int.toNat_natCast, r1, r2, q0, q1, w64, cadd1]
          exact next (by rw [if_pos c1]) (by rw [if_pos c2]) (by rw [if_neg c3]) h3
      · by_cases c3 : d.2 > hy
        · obtain ⟨H2, w2, h2⟩ := wlo (x := d.1) h1
          simp -implicitDefEqProofs -dsimp (disch := omega) only [go_sem, dec_t, dec_f, burinref10_piece_l1, Int.toNat_natCast, r1, r2, q0, q1, w2]
          obtain ⟨xb', xo', xc', ev, r1, r2, _⟩ := rdd h2
          cases ev
          have q0 := rlo h2
          have q1 := rhi h2
          obtain ⟨H3, w3, h3⟩ := why (x := d.2) h2
          simp -implicitDefEqProofs -dsimp (disch := omega) only [go_sem, dec_t, dec_f, Int.toNat_natCast, r1, r2, q0, q1, w3]
          obtain ⟨xb', xo', xc', ev, r1, r2, _⟩ := rdd h3
          cases ev
          have q0 := rlo h3
          have q1 := rhi h3
          simp -implicitDefEqProofs -dsimp (disch := omega) only [go_sem, dec_t, dec_f, Int.toNat_natCast, r1, r2, q0, q1, w64, cadd1]
          exact next (by rw [if_pos c1]) (by rw [if_neg c2]) (by rw [if_pos c3]) h3
        · obtain ⟨H2, w2, h2⟩ := wlo (x := d.1) h1
          simp -implicitDefEqProofs -dsimp (disch := omega) only [go_sem, dec_t, dec_f, burinref10_piece_l1, Int.toNat_natCast, r1, r2, q0, q1, w2]
          obtain ⟨xb', xo', xc', ev, r1, r2, _⟩ := rdd h2
          cases ev
          have q0 := rlo h2
          have q1 := rhi h2
          simp -implicitDefEqProofs -dsimp (disch := omega) only [go_sem, dec_t, dec_f, Int.toNat_natCast, r1, r2, q0, q1, w64, cadd1]
          exact next (by rw [if_pos c1]) (by rw [if_neg c2]) (by rw [if_neg c3]) h2
    · by_cases c2 : d.1 > hx
      · by_cases c3 : d.2 > hy
        · obtain ⟨H2, w2, h2⟩ := whx (x := d.1) h1
          simp -implicitDefEqProofs -dsimp (disch := omega) only [go_sem, dec_t, dec_f, burinref10_piece_l1, Int.toNat_natCast, r1, r2, q0, q1, w2]
          obtain ⟨xb', xo', xc', ev, r1, r2, _⟩ := rdd h2
          cases ev
          have q0 := rlo h2
          have q1 := rhi h2
          obtain ⟨H3, w3, h3⟩ := why (x := d.2) h2
          simp -implicitDefEqProofs -dsimp (disch := omega) only [go_sem, dec_t, dec_f, Int.toNat_natCast, r1, r2, q0, q1, w3]
          obtain ⟨xb', xo', xc', ev, r1, r2, _⟩ := rdd h3
          cases ev
          have q0 := rlo h3
          have q1 := rhi h3
          simp -implicitDefEqProofs -dsimp (disch := omega) only [go_sem, dec_t, dec_f, Int.toNat_natCast, r1, r2, q0, q1, w64, cadd1]
          exact next (by rw [if_neg c1]) (by rw [if_pos c2]) (by rw [if_pos c3]) h3
        · obtain ⟨H2, w2, h2⟩ := whx (x := d.1) h1
          simp -implicitDefEqProofs -dsimp (disch := omega) only [go_sem, dec_t, dec_f, burinref10_piece_l1, Int.toNat_natCast, r1, r2, q0, q1, w2]
          obtain ⟨xb', xo', xc', ev, r1, r2, _⟩ := rdd h2
          cases ev
          have q0 := rlo h2
          have q1 := rhi h2
          simp -implicitDefEqProofs -dsimp (disch := omega) only [go_sem, dec_t, dec_f, Int.toNat_natCast, r1, r2, q0, q1, w64, cadd1]
          exact next (by rw [if_neg c1]) (by rw [if_pos c2]) (by rw [if_neg c3]) h2
      · by_cases c3 : d.2 > hy
        · obtain ⟨H2, w2, h2⟩ := why (x := d.2) h1
          simp -implicitDefEqProofs -dsimp (disch := omega) only [go_sem, dec_t, dec_f, burinref10_piece_l1, Int.toNat_natCast, r1, r2, q0, q1, w2]
          obtain ⟨xb', xo', xc', ev, r1, r2, _⟩ := rdd h2
          cases ev
          have q0 := rlo h2
          have q1 := rhi h2
          simp -implicitDefEqProofs -dsimp (disch := omega) only [go_sem, dec_t, dec_f, Int.toNat_natCast, r1, r2, q0, q1, w64, cadd1]
          exact next (by rw [if_neg c1]) (by rw [if_neg c2]) (by rw [if_pos c3]) h2
        · simp -implicitDefEqProofs -dsimp (disch := omega) only [go_sem, dec_t, dec_f, burinref10_piece_l1, Int.toNat_natCast, r1, r2, q0, q1, w64, cadd1]
          exact next (by rw [if_neg c1]) (by rw [if_neg c2]) (by rw [if_neg c3]) h1
  · simp -implicitDefEqProofs -dsimp (disch := omega) only [go_sem, dec_t, dec_f, burinref10_piece_l1]
    rw [hx']
    rw [show i + 1 = D.length by omega] at hE1
    exact hK lx hx hy H1 _ hE1 h1
theorem take_dot {D : List Dot} {i lx ly x y : Nat} (hd : D[i]? = some (x, y)) (hx : lx ≤ x) (hy : ly ≤ y) : ∀ a b, updP (fun a b => (D.take i).contains (a + lx, b + ly)) (x - lx) (y - ly) true a b = (D.take (i + 1)).contains (a + lx, b + ly) := fun a b => by
  obtain ⟨hl, hd⟩ := List.getElem?_eq_some_iff.1 hd
  rw [show D.take (i + 1) = D.take i ++ [(x, y)] by rw [← hd]; exact (List.take_append_getElem hl).symm]
  unfold updP
  by_cases c : a = x - lx ∧ b = y - ly
  · obtain ⟨rfl, rfl⟩ := c
    rw [if_pos ⟨rfl, rfl⟩, show x - lx + lx = x by omega, show y - ly + ly = y by omega]
    simp
  · rw [if_neg c]
    rw [Bool.eq_iff_iff, List.contains_iff_mem, List.contains_iff_mem]
    simp only [List.mem_append, List.mem_singleton, Prod.mk.injEq]
    exact ⟨.inl, fun h => h.elim id fun h => absurd ⟨by omega, by omega⟩ c⟩
set_option maxRecDepth 20000 in
set_option maxHeartbeats 2000000 in
theorem fl_l0 (hz : HasRz P) {Q : Post} {t : Tag Q} {s : Tag burinref10_piece_l0} {b6 lo pb lx ly W Ht : Nat} {dv pv : V} {D : List Dot} (hD : ∀ d ∈ D, lx ≤ d.1 ∧ d.1 < lx + W ∧ ly ≤ d.2 ∧ d.2 < ly + Ht) (hlen : D.length ≤ 1048576) (hb : lx + W ≤ 1048576 ∧ ly + Ht ≤ 1048576) (md : Lst dv 2 D.length (dotCells D) ∈ T) (ml : Cel lo [.int .i64 (lx : Nat), .int .i64 (ly : Nat)] ∈ T) (mp : Cel pb [.int .i64 (lx : Nat), .int .i64 (ly : Nat), .int .i64 (W : Nat), .int .i64 (Ht : Nat), pv] ∈ T)
    (hs : Hs H (BmA pv W Ht (fun _ _ => false) :: T)) (hK : ∀ H' ex, Hs H' (BmA pv W Ht (dotP D lx ly) :: T) → Q (.exit 8) ⟨(6, .ptr (some (b6, 0))) :: (7, dv) :: (11, .ptr (some (lo, 0))) :: (14, .ptr (some (pb, 0))) :: ex, []⟩ H') :
    loopL (Call P) [6, 7, 11, 14, 15] burinref10_piece_l0 Q t s ⟨[(6, .ptr (some (b6, 0))), (7, dv), (11, .ptr (some (lo, 0))), (14, .ptr (some (pb, 0))), (15, .int .i64 ((0 : Nat) : Int))], []⟩ H := by
  obtain ⟨da, dc, de, rfl⟩ := (hs.tail.ownm md).arr.shape
  refine loop_cnt D.length (fun i => ⟨[(6, .ptr (some (b6, 0))), (7, .sl da D.length dc de), (11, .ptr (some (lo, 0))), (14, .ptr (some (pb, 0))), (15, .int .i64 (i : Nat))], []⟩)
    (fun i H => Hs H (BmA pv W Ht (fun a b => (D.take i).contains (a + lx, b + ly)) :: T)) (fun i H1 K hi h1 hn hx hrr => ?_) 0 H (Nat.zero_le _) (hs.bmc fun a b _ _ => by simp)
  by_cases hlt : i < D.length
  · have hat := List.getElem?_eq_getElem hlt
    have hdd := hD _ (List.getElem_mem hlt)
    generalize D[i] = d at hat hdd
    obtain ⟨x, y⟩ := d
    dsimp only at hdd
    obtain ⟨xb, xo, xc, ev, r1, r2, _⟩ := dot_rd ((h1.tail.ownm md).arr) hat
    cases ev
    have q1 := rd_s (h1.tail.celm ml)
    have q2 := rd_m (h1.tail.celm mp) 3 2
    rw [show (piece [V.int .i64 (lx : Nat), .int .i64 (ly : Nat), .int .i64 (W : Nat), .int .i64 (Ht : Nat), pv] 2 3).map V.agg = some (.agg [.int .i64 (W : Nat), .int .i64 (Ht : Nat), pv]) from rfl] at q2
    have e1 : (x : Int) - (lx : Nat) = ((x - lx : Nat) : Int) := by omega
    have e2 : (y : Int) - (ly : Nat) = ((y - ly : Nat) : Int) := by omega
    simp -implicitDefEqProofs -dsimp (disch := omega) only [go_sem, dec_t, dec_f, burinref10_piece_l0, Int.toNat_natCast, r1, r2, q1, q2, w64, e1, e2]
    refine putR_ct hz h1 (by omega) (by omega) fun H2 h2 => ?_
    have h2 := h2.bmc (q := fun a b => (D.take (i + 1)).contains (a + lx, b + ly)) fun a b _ _ => by
      rw [show decide ((1 : Int) = 1) = true from rfl]; exact take_dot hat hdd.1 hdd.2.2.1 a b
    simp -implicitDefEqProofs -dsimp (disch := omega) only [go_sem, dec_t, dec_f, w64, cadd1]
    exact hn hlt H2 h2
  · obtain rfl : i = D.length := by omega
    rw [List.take_length] at h1
    simp -implicitDefEqProofs -dsimp (disch := omega) only [go_sem, dec_t, dec_f, burinref10_piece_l0]
    rw [hx]
    exact hK H1 _ h1
set_option maxRecDepth 20000 in
set_option maxHeartbeats 2000000 in
theorem piece_ct (hz : HasRz P) (hg : P 189 = some burinref10_piece) {Q : Out → Heap → Prop} {w h x0 y0 : Nat} {v : V} {p : Nat → Nat → Bool} (hs : Hs H (BmA v w h p :: T)) (hb : blk_ p w h x0 y0) (hf : ∀ a b, ConX p w h x0 y0 a b → y0 ≤ b)
    (hQ : ∀ X v' H', Tight X → PcIn w h X → (∀ a b, pin X a b = true ↔ ConX p w h x0 y0 a b) → Hs H' (BmA v' X.w X.h X.p :: BmA v w h (fun a b => p a b && !pin X a b) :: T) → Q (.ret (.agg [.int .i64 X.x, .int .i64 X.y, .int .i64 (X.w : Nat), .int .i64 (X.h : Nat), v'])) H') :
    Call P 189 [.agg [.int .i64 (w : Nat), .int .i64 (h : Nat), v], .int .i64 (x0 : Nat), .int .i64 (y0 : Nat)] H Q := by
  obtain ⟨z1, z2, z3, z4, z5⟩ := bmSz hs
  have hsm : h * w ≤ 1048576 := by rw [Nat.mul_comm]; exact z3
  obtain ⟨bx, by_, bb⟩ := hb
  have hb : blk_ p w h x0 y0 := ⟨bx, by_, bb⟩
  refine call_of hg rfl ?_
  have h2 := ((hs.alloc (l := [.int .i64 (w : Nat), .int .i64 (h : Nat), v])).alloc (l := [.int .i64 0, .int .i64 0, .int .i64 0, .int .i64 0, .sl none 0 0 0])).alloc (l := [.int .i64 (x0 : Nat), .int .i64 (y0 : Nat)])
  rw [next_new, next_new] at h2
  have c3 := rd_bm h2 (b := H.next) (l := [.int .i64 (w : Nat), .int .i64 (h : Nat), v]) (by simp) 3 rfl
  simp -implicitDefEqProofs -dsimp (disch := omega) only [go_sem, dec_t, dec_f, c3]
  clear c3
  generalize ((H.new _).new _).new _ = H2 at *
  generalize H.next + 1 + 1 = db at *
  generalize H.next + 1 = b6 at *
  generalize H.next = b3 at *
  have h3 := h2.toLst (e := 2) (n := 1) rfl
  have h4 := h3.p3
  refine putR_ct hz h4 bx by_ fun H3 h5 => ?_
  have h5 := h5.bmc (q := lft p [(x0, y0)]) fun a b _ _ => by
    rw [show decide ((0 : Int) = 1) = false from rfl]
    have := lft_snoc p [] x0 y0 a b
    rw [List.nil_append] at this
    rw [← this]
    unfold updP lft
    simp
  simp -implicitDefEqProofs -dsimp (disch := omega) only [go_sem, dec_t, dec_f, ]
  refine fl_l2 hz (b3 := b3) (b6 := b6) (dv := .sl (some (db, 0)) 1 1 2) (D := [(x0, y0)]) hsm z4 z5 (T := Cel b6 [.int .i64 0, .int .i64 0, .int .i64 0, .int .i64 0, .sl none 0 0 0] :: Cel b3 [.int .i64 (w : Nat), .int .i64 (h : Nat), v] :: T) (by simp) ⟨Fl.one hb, fun i' hi' => absurd hi' (Nat.not_lt_zero _), fun _ _ m hm => absurd hm (Nat.not_lt_zero m), Nat.zero_le _⟩ h5 fun D dv H4 ex hF h6 => ?_
  have hall : ∀ x y : Nat, (x, y) ∈ D ↔ ConX p w h x0 y0 x y := fun x y => hF.all hb
  have hlen := hF.fl.len
  have hd0 := hF.fl.hd
  have hy0 : ∀ d ∈ D, y0 ≤ d.2 := fun d hd => hf d.1 d.2 (hF.fl.bl d hd).2
  have hDb : ∀ d ∈ D, d.1 < w ∧ d.2 < h := fun d hd => ⟨(hF.fl.bl d hd).1.1, (hF.fl.bl d hd).1.2.1⟩
  obtain ⟨xb, xo, xc, ev, r1, r2, r3⟩ := dot_rd h6.p1.own.arr hd0
  subst ev
  rw [Nat.zero_mul, Nat.add_zero] at r3
  have h7 := h6.alloc (l := [.int .i64 (x0 : Nat), .int .i64 (y0 : Nat)])
  simp -implicitDefEqProofs -dsimp (disch := omega) only [go_sem, dec_t, dec_f, Int.toNat_zero, Nat.zero_mul, Nat.add_zero, r3]
  generalize H4.new _ = H5 at *
  generalize H4.next = lo at *
  obtain ⟨yb, yo, yc, ev, r1, r2, r3⟩ := dot_rd h7.p2.own.arr hd0
  cases ev
  rw [Nat.zero_mul, Nat.add_zero] at r3
  have h8 := h7.alloc (l := [.int .i64 (x0 : Nat), .int .i64 (y0 : Nat)])
  simp -implicitDefEqProofs -dsimp (disch := omega) only [go_sem, dec_t, dec_f, Int.toNat_zero, Nat.zero_mul, Nat.add_zero, r3]
  generalize H5.new _ = H6 at *
  generalize H5.next = hi at *
  refine fl_l1 (D := D) (w := w) (h := h) (ly := y0) hDb (by omega) (by simp) hlen.1 (Ext4.one hd0) h8.p1 fun lx hx hy H7 ex hE h9 => ?_
  have dt := dot_tight hE hd0 hy0
  have dp := dot_pin hE hy0
  have hE' := hE
  obtain ⟨⟨⟨a, a1, a2⟩, a3⟩, ⟨⟨b, b1, b2⟩, b3'⟩, ⟨⟨c, c1, c2⟩, c3⟩⟩ := hE'
  rw [List.take_length] at a1 a3 b1 b3' c1 c3
  have k1 := a3 _ b1
  have k2 := hy0 _ c1
  have k3 := hDb _ b1
  have k4 := hDb _ c1
  have z6 : (hx - lx + 1) * (hy - y0 + 1) ≤ w * h := Nat.mul_le_mul (by omega) (by omega)
  have hpc : PcIn w h (dotPc D lx y0 hx hy) := ⟨by simp [dotPc], by simp only [dotPc]; omega, by simp [dotPc], by simp only [dotPc]; omega, by simp only [dotPc]; omega, by simp only [dotPc]; omega, by simp only [dotPc]; exact z6⟩
  have e1 : (hx : Int) - (lx : Nat) + 1 = ((hx - lx + 1 : Nat) : Int) := by omega
  have e2 : (hy : Int) - (y0 : Nat) + 1 = ((hy - y0 + 1 : Nat) : Int) := by omega
  have q1 := rd_s h9.cel
  have q2 := rd_s h9.p1.cel
  have h10 := h9.alloc (l := [.int .i64 0, .int .i64 0, .int .i64 0, .int .i64 0, .sl none 0 0 0])
  simp -implicitDefEqProofs -dsimp (disch := omega) only [go_sem, dec_t, dec_f, q1, q2, w64, e1, e2]
  generalize H7.new _ = H8 at *
  generalize H7.next = pb at *
  refine white_ct hz h10 (w := hx - lx + 1) (h := hy - y0 + 1) ⟨by omega, by omega, by omega⟩ fun pv H9 h11 _ => ?_
  obtain ⟨va, vn, vc, ve, rfl⟩ : ∃ a n c e, pv = V.sl a n c e := by obtain ⟨vb, kv⟩ := bmV h11; exact ⟨_, _, _, _, kv.val⟩
  have q1 := rd_s h11.p2.cel
  have q2 := rd_s h11.p1.cel
  obtain ⟨H10, w10, h12⟩ := Hs.sto 1 h11 rfl (o := 0) (vs := [.int .i64 (lx : Nat), .int .i64 (y0 : Nat), .int .i64 ((hx - lx + 1 : Nat) : Int), .int .i64 ((hy - y0 + 1 : Nat) : Int), .sl va vn vc ve]) (by simp) rfl
  have q3 := h11.p1.cel
  refine aft_intro (t := tag _) (by simp [rechecks, recheck, fresh, Fr.get, Fr.put, look, step, opd, q1, q2, q3, w10]) ?_
  simp -implicitDefEqProofs -dsimp (disch := omega) only [go_sem, dec_t, dec_f, q1, q2, w10]
  refine fl_l0 hz (D := D) (lx := lx) (ly := y0) (W := hx - lx + 1) (Ht := hy - y0 + 1) (pv := .sl va vn vc ve) (fun d hd => ?_) (by omega) (by omega) ?_ ?_ ?_ h12 fun H11 ex h13 => ?_
  · have j1 := a3 d hd; have j2 := b3' d hd; have j3 := hy0 d hd; have j4 := c3 d hd
    omega
  · simp
  · simp
  · exact List.mem_cons_self ..
  have h13 : Hs H11 (BmA (.sl va vn vc ve) (hx - lx + 1) (hy - y0 + 1) (dotP D lx y0) :: Cel pb [.int .i64 (lx : Nat), .int .i64 (y0 : Nat), .int .i64 ((hx - lx + 1 : Nat) : Int), .int .i64 ((hy - y0 + 1 : Nat) : Int), .sl va vn vc ve] :: Cel lo [.int .i64 (lx : Nat), .int .i64 (y0 : Nat)] :: Cel hi [.int .i64 (hx : Nat), .int .i64 (hy : Nat)] :: BmA v w h (lft p D) :: Lst (.sl (some (xb, xo)) D.length xc 2) 2 D.length (dotCells D) :: Cel b6 [.int .i64 0, .int .i64 0, .int .i64 0, .int .i64 0, .sl none 0 0 0] :: Cel b3 [.int .i64 (w : Nat), .int .i64 (h : Nat), v] :: T) := h13
  have q5 := rd_bm h13 (b := pb) (l := [.int .i64 (lx : Nat), .int .i64 (y0 : Nat), .int .i64 ((hx - lx + 1 : Nat) : Int), .int .i64 ((hy - y0 + 1 : Nat) : Int), .sl va vn vc ve]) (by simp) 5 rfl
  obtain ⟨H12, w12, h14⟩ := Hs.sto 6 h13 rfl (o := 0) (vs := [.int .i64 (lx : Nat), .int .i64 (y0 : Nat), .int .i64 ((hx - lx + 1 : Nat) : Int), .int .i64 ((hy - y0 + 1 : Nat) : Int), .sl va vn vc ve]) (by simp) rfl
  have h14 : Hs H12 (BmA (.sl va vn vc ve) (hx - lx + 1) (hy - y0 + 1) (dotP D lx y0) :: Cel pb [.int .i64 (lx : Nat), .int .i64 (y0 : Nat), .int .i64 ((hx - lx + 1 : Nat) : Int), .int .i64 ((hy - y0 + 1 : Nat) : Int), .sl va vn vc ve] :: Cel lo [.int .i64 (lx : Nat), .int .i64 (y0 : Nat)] :: Cel hi [.int .i64 (hx : Nat), .int .i64 (hy : Nat)] :: BmA v w h (lft p D) :: Lst (.sl (some (xb, xo)) D.length xc 2) 2 D.length (dotCells D) :: Cel b6 [.int .i64 (lx : Nat), .int .i64 (y0 : Nat), .int .i64 ((hx - lx + 1 : Nat) : Int), .int .i64 ((hy - y0 + 1 : Nat) : Int), .sl va vn vc ve] :: Cel b3 [.int .i64 (w : Nat), .int .i64 (h : Nat), v] :: T) := h14
  have q6 := rd_bm h14 (b := b6) (l := [.int .i64 (lx : Nat), .int .i64 (y0 : Nat), .int .i64 ((hx - lx + 1 : Nat) : Int), .int .i64 ((hy - y0 + 1 : Nat) : Int), .sl va vn vc ve]) (by simp) 5 rfl
  simp -implicitDefEqProofs -dsimp (disch := omega) only [go_sem, dec_t, dec_f, q5, w12, q6]
  refine hQ (dotPc D lx y0 hx hy) (.sl va vn vc ve) H12 dt hpc (fun a b => (dp a b).trans (hall a b)) ?_
  have h15 := (h14.tail2.tail2.tail2.p2.tail.p2.tail.p2.tail).p1
  refine (h15.bmc fun a b _ _ => ?_).p1
  unfold lft
  have : D.contains (a, b) = pin (dotPc D lx y0 hx hy) a b := by
    rw [Bool.eq_iff_iff, List.contains_iff_mem, dp]
  rw [this]
end
end Go.Ab
