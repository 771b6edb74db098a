/- Blit: a part of a map is laid onto a map. Conditions: none. -/
import Derived.Test.YtdkgdneiilnppaaCj
set_option linter.all false
namespace Go.Ab

/-- l[lo:hi:max]. -/
theorem slc_lhm (esz b o len cap : Nat) (k k' k'' : IntKind) (l h x : Int) (H : Heap) (hh : 0 ≤ l ∧ l ≤ h ∧ h ≤ x ∧ x ≤ cap) :
    slc2 esz (some (.sl (some (b, o)) len cap esz)) (some (some (.int k l))) (some (some (.int k' h))) (some (some (.int k'' x))) H = some (.sl (some (b, o + l.toNat * esz)) (h.toNat - l.toNat) (x.toNat - l.toNat) esz, H) := by
  simp only [slc2, bound, Option.isSome_some, Bool.true_and, bne_self_eq_false, Bool.false_eq_true, if_false]
  rw [if_pos (show 0 ≤ x ∧ x ≤ cap by omega)]; simp only []
  rw [if_pos (show 0 ≤ h ∧ h ≤ (x.toNat : Int) by omega)]; simp only []
  rw [if_pos (show 0 ≤ l ∧ l ≤ (h.toNat : Int) by omega)]
theorem Hs.cpyFull {H : Heap} {rb n : Nat} {L M : List V} {y : V} {R : List As} (h : Hs H (Lst (.sl (some (rb, 0)) n n 1) 1 n L :: R)) (hy : firsts H 1 y = some (n, M)) (hM : M.length = n) (ho : M.all one = true) (hn : 0 < n) :
    ∃ H', cpy H 1 (.sl (some (rb, 0)) n n 1) y = some (.int .i64 n, H') ∧ Hs H' (Lst (.sl (some (rb, 0)) n n 1) 1 n M :: R) := by
  have hown := h.own
  rcases hown with ⟨e, _⟩ | ⟨b, e, hg, hl, hb⟩
  · cases e
  · cases e
    refine ⟨H.put rb (.cells M true), ?_, h.lst' (Same.put rfl) (Or.inr ⟨rb, rfl, by simp [get_put], by omega, hb⟩) fun b hb => Or.inl hb⟩
    have e1 : over L 0 M = M := by unfold over; rw [List.take_zero, List.drop_eq_nil_of_le (by omega)]; simp
    have e2 : M.take (n * 1) = M := List.take_of_length_le (by omega)
    simp only [cpy, hy, Option.isSome_some, Bool.true_and, bne_self_eq_false, Bool.false_eq_true, if_false, Nat.min_self]
    rw [if_neg (by omega), e2, wr_s hg, if_pos (by omega), if_pos ho, e1]; rfl

/-- Of a line the words up to i are laid. -/
def lineP (p : Nat → Nat → Bool) (L : List Nat) (sx dx n y i op : Nat) : Nat → Nat → Bool := fun i' j' => if j' = y ∧ dx ≤ i' ∧ i' < dx + n ∧ i' / 64 < i then opB op (p i' j') (rowB L ((sx : Int) + i' - dx)) else p i' j'
def rho (sy dy hn t : Nat) : Nat := if sy < dy then hn - 1 - t else t
/-- So many lines are laid. -/
def linesP (p q : Nat → Nat → Bool) (sx sy dx dy n hn op t : Nat) : Nat → Nat → Bool :=
  fun i' j' => if dx ≤ i' ∧ i' < dx + n ∧ dy ≤ j' ∧ j' < dy + hn ∧ (if sy < dy then hn - t ≤ j' - dy else j' - dy < t) then opB op (p i' j') (q (sx + i' - dx) (sy + j' - dy)) else p i' j'

def BlF (m s sx sy n hn dx dy op : Nat) (rv : V) (mid : List (Nat × V)) (t : Nat) : Fr :=
  ⟨(0, .ptr (some (m, 0))) :: (1, .ptr (some (s, 0))) :: (2, .int .i64 sx) :: (3, .int .i64 sy) :: (4, .int .i64 n) :: (5, .int .i64 hn) :: (6, .int .i64 dx) :: (7, .int .i64 dy) :: (19, .fn (57 + op) [] []) :: (20, rv) :: (mid ++ [(90, .int .i64 hn), (91, .int .i64 t)]), []⟩
def BlI (m w h sw rb s sx sy n hn dx dy op : Nat) (p q : Nat → Nat → Bool) (R : List As) (k : Nat) (fr : Fr) (H : Heap) : Prop :=
  ∃ (t : Nat) (L : List Nat), k = hn - t ∧ t ≤ hn ∧ fr = BlF m s sx sy n hn dx dy op (.sl (some (rb, 0)) (wds sw) (wds sw) 1) [] t ∧ L.length = wds sw ∧
    Hs H (MapA m w h (linesP p q sx sy dx dy n hn op t) :: Lst (.sl (some (rb, 0)) (wds sw) (wds sw) 1) 1 (wds sw) (u64s L) :: R)
def BlJ (m w h sw rb s sx sy n hn dx dy op y t ρ : Nat) (p : Nat → Nat → Bool) (L : List Nat) (R : List As) (k : Nat) (fr : Fr) (H : Heap) : Prop :=
  ∃ i : Nat, k = (dx + n - 1) / 64 + 1 - i ∧ dx / 64 ≤ i ∧ i ≤ (dx + n - 1) / 64 + 1 ∧ fr = BlF m s sx sy n hn dx dy op (.sl (some (rb, 0)) (wds sw) (wds sw) 1) [(21, .int .i64 ρ), (23, .int .i64 i)] t ∧
    Hs H (MapA m w h (lineP p L sx dx n y i op) :: Lst (.sl (some (rb, 0)) (wds sw) (wds sw) 1) 1 (wds sw) (u64s L) :: R)

section
variable {P : Prog} {H : Heap} {R : List As} {Q : Out → Heap → Prop} {m w h : Nat}

theorem blit_line (hp : HasBm P) {p : Nat → Nat → Bool} {sw rb s sx sy n hn dx dy op t ρ y : Nat} {L : List Nat} (hs : Hs H (MapA m w h p :: Lst (.sl (some (rb, 0)) (wds sw) (wds sw) 1) 1 (wds sw) (u64s L) :: R))
    (hL : ∀ k ∈ L, k < 18446744073709551616) (hl : L.length = wds sw) (hn1 : 1 ≤ n) (hdx : dx + n ≤ w) (hy : y = dy + ρ) (hyh : y < h) (hsx : sx + n ≤ sw) (hsw : sw ≤ 1048576) (hop : op < 5) {Qp : Post}
    (hQ : ∀ H', Hs H' (MapA m w h (lineP p L sx dx n y ((dx + n - 1) / 64 + 1) op) :: Lst (.sl (some (rb, 0)) (wds sw) (wds sw) 1) 1 (wds sw) (u64s L) :: R) → ∀ fr, (∃ ex, fr = ⟨(BlF m s sx sy n hn dx dy op (.sl (some (rb, 0)) (wds sw) (wds sw) 1) [(21, .int .i64 ρ), (23, .int .i64 ((dx + n - 1) / 64 + 1 : Nat))] t).tm ++ ex, []⟩) → Qp (.exit 3) fr H') {s' t'} :
    loopL (Call P) [0, 1, 2, 3, 4, 5, 6, 7, 19, 20, 21, 23, 90, 91] bitmap_Map_Blit_l1 Qp s' t' (BlF m s sx sy n hn dx dy op (.sl (some (rb, 0)) (wds sw) (wds sw) 1) [(21, .int .i64 ρ), (23, .int .i64 (dx / 64 : Nat))] t) H := by
  obtain ⟨z1, z2, z3, z4, z5⟩ := mapSz hs
  have hstart : lineP p L sx dx n y (dx / 64) op = p := by
    funext i' j'; unfold lineP; rw [if_neg (by omega)]
  refine loop_inv (BlJ m w h sw rb s sx sy n hn dx dy op y t ρ p L R) ?_ _ _ _ ⟨dx / 64, rfl, by omega, by omega, rfl, by rw [hstart]; exact hs⟩
  rintro k2 fr2 H2 ⟨i, hk2, hi1, hi2, rfl, h2⟩
  generalize hK2 : rnd (BlJ m w h sw rb s sx sy n hn dx dy op y t ρ p L R) k2 = K2
  have ex2 : ((dx : Int) + n - 1) / 64 = (((dx + n - 1) / 64 : Nat) : Int) := by omega
  by_cases hil : i ≤ (dx + n - 1) / 64
  · obtain ⟨b, kv⟩ := mapV h2
    have hiw : i < wds w := by unfold wds; omega
    have hidx := word_at hyh hiw
    have hjj : y * wds w ≤ h * wds w := Nat.mul_le_mul_right _ (by omega)
    have hww := kv.words
    have e3 : (y : Int) * ((wds w : Nat) : Int) = ((y * wds w : Nat) : Int) := (Int.natCast_mul _ _).symm
    have e4 : (dy : Int) + (ρ : Int) = (y : Int) := by omega
    have hr := kv.rd y i hyh hiw
    have hW := word_lt w (lineP p L sx dx n y i op) y i
    have hm := maskN_lt (dx - 64 * i) (min (dx + n - 64 * i) 64)
    simp -implicitDefEqProofs -dsimp (disch := omega) only [go_sem, Nat.reduceEqDiff, ↓reduceIte, Nat.reduceAdd, Nat.reduceMul, Nat.reduceSub, Nat.reduceLT, Nat.reduceLeDiff, Int.reduceLT, Int.reduceLE, Int.reduceEq, Int.reduceNeg, Int.reduceAdd, Int.reduceMul, Int.reduceSub, Int.reduceToNat, reduceCtorEq, dec_t, dec_f, BlF, bitmap_Map_Blit_l1, w64, tdivN, ex2, rd_s kv.cell, e4, e3, cadd, Int.toNat_natCast, Nat.mul_one, hr]
    refine mask_ct hp (by omega) hil (by omega) (by omega) ?_
    simp -implicitDefEqProofs -dsimp (disch := omega) only [go_sem, Nat.reduceEqDiff, ↓reduceIte, Nat.reduceAdd, Nat.reduceMul, Nat.reduceSub, Nat.reduceLT, Nat.reduceLeDiff, Int.reduceLT, Int.reduceLE, Int.reduceEq, Int.reduceNeg, Int.reduceAdd, Int.reduceMul, Int.reduceSub, Int.reduceToNat, reduceCtorEq, dec_t, dec_f, hr, dif64 hW hm, w64]
    have hwl : wds sw ≤ 1048576 := by unfold wds; omega
    have harr : Arr H2 (.sl (some (rb, 0)) (wds sw) (wds sw) 1) 1 L.length (u64s L) := by rw [hl]; exact h2.p1.own.arr
    refine word_ct hp harr hL (by omega) (x := (sx : Int) + 64 * i - dx) (by omega) fun N hN hNb => ?_
    simp -implicitDefEqProofs -dsimp (disch := omega) only [go_sem, Nat.reduceEqDiff, ↓reduceIte, Nat.reduceAdd, Nat.reduceMul, Nat.reduceSub, Nat.reduceLT, Nat.reduceLeDiff, Int.reduceLT, Int.reduceLE, Int.reduceEq, Int.reduceNeg, Int.reduceAdd, Int.reduceMul, Int.reduceSub, Int.reduceToNat, reduceCtorEq, dec_t, dec_f, ]
    refine aft_intro (by simp [rechecks, recheck, fresh, Fr.get, look, step, opd, hr]) ?_
    simp -implicitDefEqProofs -dsimp (disch := omega) only [go_sem, Nat.reduceEqDiff, ↓reduceIte, Nat.reduceAdd, Nat.reduceMul, Nat.reduceSub, Nat.reduceLT, Nat.reduceLeDiff, Int.reduceLT, Int.reduceLE, Int.reduceEq, Int.reduceNeg, Int.reduceAdd, Int.reduceMul, Int.reduceSub, Int.reduceToNat, reduceCtorEq, dec_t, dec_f, ]
    refine does_ct hp hop hW hN ?_
    have hO := opW_lt (op := op) hW hN
    simp -implicitDefEqProofs -dsimp (disch := omega) only [go_sem, Nat.reduceEqDiff, ↓reduceIte, Nat.reduceAdd, Nat.reduceMul, Nat.reduceSub, Nat.reduceLT, Nat.reduceLeDiff, Int.reduceLT, Int.reduceLE, Int.reduceEq, Int.reduceNeg, Int.reduceAdd, Int.reduceMul, Int.reduceSub, Int.reduceToNat, reduceCtorEq, dec_t, dec_f, ]
    refine aft_intro (by simp [rechecks, recheck, fresh, Fr.get, look, step, opd, hr]) ?_
    have ha : bitop .and .u64 ((opW op (word w (lineP p L sx dx n y i op) y i) N : Nat) : Int) ((maskN (dx - 64 * i) (min (dx + n - 64 * i) 64) : Nat) : Int) = ((opW op (word w (lineP p L sx dx n y i op) y i) N &&& maskN (dx - 64 * i) (min (dx + n - 64 * i) 64) : Nat) : Int) := and64 hO hm
    have ho : bitop .or .u64 ((dif (word w (lineP p L sx dx n y i op) y i) (maskN (dx - 64 * i) (min (dx + n - 64 * i) 64)) : Nat) : Int) ((opW op (word w (lineP p L sx dx n y i op) y i) N &&& maskN (dx - 64 * i) (min (dx + n - 64 * i) 64) : Nat) : Int) =
      ((dif (word w (lineP p L sx dx n y i op) y i) (maskN (dx - 64 * i) (min (dx + n - 64 * i) 64)) ||| (opW op (word w (lineP p L sx dx n y i op) y i) N &&& maskN (dx - 64 * i) (min (dx + n - 64 * i) 64)) : Nat) : Int) := or64 (dif_lt hW) (and_lt hO)
    obtain ⟨H3, hw3, h3, hm3⟩ := kv.wr y i (dif (word w (lineP p L sx dx n y i op) y i) (maskN (dx - 64 * i) (min (dx + n - 64 * i) 64)) ||| (opW op (word w (lineP p L sx dx n y i op) y i) N &&& maskN (dx - 64 * i) (min (dx + n - 64 * i) 64))) (lineP p L sx dx n y (i + 1) op) hyh hiw (or_lt (dif_lt hW) (and_lt hO)) (fun k hk => by
        rw [wb_or, wb_and, wb_dif hk, wb_maskN hk, wb_opW hk, hNb k hk, wb_word hk]
        unfold lineP
        by_cases c : dx ≤ 64 * i + k ∧ 64 * i + k < dx + n
        · rw [decide_eq_true (show dx - 64 * i ≤ k ∧ k < min (dx + n - 64 * i) 64 by omega), decide_eq_true (show 64 * i + k < w by omega), if_neg (show ¬ (y = y ∧ dx ≤ 64 * i + k ∧ 64 * i + k < dx + n ∧ (64 * i + k) / 64 < i) by omega), if_pos (show y = y ∧ dx ≤ 64 * i + k ∧ 64 * i + k < dx + n ∧ (64 * i + k) / 64 < i + 1 by omega)]
          simp only [Bool.true_and, Bool.not_true, Bool.and_false, Bool.false_or, Bool.and_true]
          rw [show (sx : Int) + 64 * (i : Int) - (dx : Int) + (k : Int) = (sx : Int) + ((64 * i + k : Nat) : Int) - (dx : Int) by omega]
        · rw [decide_eq_false (show ¬ (dx - 64 * i ≤ k ∧ k < min (dx + n - 64 * i) 64) by omega), if_neg (fun e => c ⟨e.2.1, e.2.2.1⟩), if_neg (fun e => c ⟨e.2.1, e.2.2.1⟩)]; simp) (fun x' y' _ _ hne => by
        unfold lineP
        by_cases d : y' = y ∧ dx ≤ x' ∧ x' < dx + n ∧ x' / 64 < i
        · rw [if_pos d, if_pos (by omega)]
        · rw [if_neg d, if_neg (by rintro ⟨d1, d2, d3, d4⟩; exact d ⟨d1, d2, d3, by rcases hne with h | h; exact absurd d1 h; omega⟩)])
    simp -implicitDefEqProofs -dsimp (disch := omega) only [go_sem, Nat.reduceEqDiff, ↓reduceIte, Nat.reduceAdd, Nat.reduceMul, Nat.reduceSub, Nat.reduceLT, Nat.reduceLeDiff, Int.reduceLT, Int.reduceLE, Int.reduceEq, Int.reduceNeg, Int.reduceAdd, Int.reduceMul, Int.reduceSub, Int.reduceToNat, reduceCtorEq, dec_t, dec_f, ha, ho, hw3, w64, cadd1]
    subst hK2
    exact rnd_n ((dx + n - 1) / 64 + 1 - (i + 1)) (by omega) ⟨i + 1, rfl, by omega, by omega, rfl, h3⟩
  · obtain rfl : i = (dx + n - 1) / 64 + 1 := by omega
    simp -implicitDefEqProofs -dsimp (disch := omega) only [go_sem, Nat.reduceEqDiff, ↓reduceIte, Nat.reduceAdd, Nat.reduceMul, Nat.reduceSub, Nat.reduceLT, Nat.reduceLeDiff, Int.reduceLT, Int.reduceLE, Int.reduceEq, Int.reduceNeg, Int.reduceAdd, Int.reduceMul, Int.reduceSub, Int.reduceToNat, reduceCtorEq, dec_t, dec_f, BlF, bitmap_Map_Blit_l1, w64, tdivN, ex2]
    subst hK2
    exact hQ H2 h2 _ ⟨_, rfl⟩

theorem rowB_words {L : List Nat} {sw y : Nat} {q : Nat → Nat → Bool} (hl : L.length = wds sw) (hw : ∀ i, i < wds sw → L[i]? = some (word sw q y i)) {z : Nat} (hz : z < sw) : rowB L (z : Int) = q z y := by
  unfold rowB
  rw [decide_eq_true (by omega), Bool.true_and, Int.toNat_natCast, List.getD_eq_getElem?_getD, hw _ (wds_of hz), Option.getD_some, wb_word (Nat.mod_lt _ (by omega)), show 64 * (z / 64) + z % 64 = z by omega, decide_eq_true hz]; rfl

theorem blit_out (hp : HasBm P) {p q : Nat → Nat → Bool} {sw sh rb s sx sy n hn dx dy op : Nat} {L0 : List Nat} (hs : Hs H (MapA m w h p :: Lst (.sl (some (rb, 0)) (wds sw) (wds sw) 1) 1 (wds sw) (u64s L0) :: R)) (hl0 : L0.length = wds sw)
    (hn1 : 1 ≤ n) (hh1 : 1 ≤ hn) (hdx : dx + n ≤ w) (hdy : dy + hn ≤ h) (hsx : sx + n ≤ sw) (hsy : sy + hn ≤ sh) (hsz : sw * sh ≤ 1048576) (hop : op < 5)
    (hsrc : ∀ (t : Nat) (L : List Nat) (H' : Heap), t < hn → L.length = wds sw → Hs H' (MapA m w h (linesP p q sx sy dx dy n hn op t) :: Lst (.sl (some (rb, 0)) (wds sw) (wds sw) 1) 1 (wds sw) (u64s L) :: R) →
      ∃ sb l, H'.get s = .cells [.int .i64 sw, .int .i64 sh, .int .i64 (wds sw), .sl (some (sb, 0)) (sh * wds sw) (sh * wds sw) 1] true ∧ H'.get sb = .cells l true ∧ l.length = sh * wds sw ∧
        ∀ i, i < wds sw → l[(sy + rho sy dy hn t) * wds sw + i]? = some (.int .u64 (word sw q (sy + rho sy dy hn t) i : Nat))) {Qp : Post}
    (hQ : ∀ fr H', fr.ds = [] → Hs H' (MapA m w h (linesP p q sx sy dx dy n hn op hn) :: R) → Qp (.exit 1) fr H') {s' t'} :
    loopL (Call P) [0, 1, 2, 3, 4, 5, 6, 7, 19, 20, 90, 91] bitmap_Map_Blit_l0 Qp s' t' (BlF m s sx sy n hn dx dy op (.sl (some (rb, 0)) (wds sw) (wds sw) 1) [] 0) H := by
  obtain ⟨z1, z2, z3, z4, z5⟩ := mapSz hs
  have hsw : sw ≤ 1048576 := by have := Nat.le_mul_of_pos_right sw (show 0 < sh by omega); omega
  have hsh : sh ≤ 1048576 := by have := Nat.le_mul_of_pos_left sh (show 0 < sw by omega); omega
  have hwd : 0 < wds sw := by unfold wds; omega
  have hww : sh * wds sw ≤ 1048576 := wds_le hsz (by omega)
  have hstart : linesP p q sx sy dx dy n hn op 0 = p := by
    funext i' j'; unfold linesP; rw [if_neg]; rintro ⟨_, _, h3, h4, h5⟩; split at h5 <;> omega
  refine loop_inv (BlI m w h sw rb s sx sy n hn dx dy op p q R) ?_ hn _ _ ⟨0, L0, by omega, by omega, rfl, hl0, by rw [hstart]; exact hs⟩
  rintro k fr H1 ⟨t, L, hk, ht, rfl, hl, h1⟩
  generalize hK : rnd (BlI m w h sw rb s sx sy n hn dx dy op p q R) k = K
  by_cases htn : t < hn
  · obtain ⟨sb, l, c1, c2, c3, c4⟩ := hsrc t L H1 htn hl h1
    have hρ : rho sy dy hn t < hn := by unfold rho; split <;> omega
    have hat : (sy + rho sy dy hn t) * wds sw + wds sw ≤ sh * wds sw := by
      have : (sy + rho sy dy hn t + 1) * wds sw ≤ sh * wds sw := Nat.mul_le_mul_right _ (by omega)
      rwa [Nat.add_mul, Nat.one_mul] at this
    let M : List Nat := (List.range (wds sw)).map fun i => word sw q (sy + rho sy dy hn t) i
    have hMl : M.length = wds sw := by simp [M]
    have hM4 : ∀ i, i < wds sw → M[i]? = some (word sw q (sy + rho sy dy hn t) i) := fun i hi => by simp [M, hi]
    have hMb : ∀ k ∈ M, k < 18446744073709551616 := fun k hk => by
      simp only [M, List.mem_map] at hk; obtain ⟨i, _, rfl⟩ := hk; exact word_lt _ _ _ _
    have hfirst : firsts H1 1 (.sl (some (sb, (sy + rho sy dy hn t) * wds sw)) (wds sw) (wds sw) 1) = some (wds sw, u64s M) := by
      simp only [firsts, c2, if_true, piece]
      rw [if_pos (by omega)]
      simp only [Option.map_some]
      congr 2
      refine List.ext_getElem? fun i => ?_
      by_cases hi : i < wds sw
      · rw [List.getElem?_take, if_pos (by omega), List.getElem?_drop, c4 i hi]
        simp only [u64s, List.getElem?_map, hM4 i hi, Option.map_some]
      · rw [List.getElem?_eq_none (by simp; omega), List.getElem?_eq_none (by simp [u64s, hMl]; omega)]
    obtain ⟨H2, a2, h2⟩ := h1.p1.cpyFull hfirst (by simp [u64s, hMl]) (u64s_one M) hwd
    generalize hρ' : rho sy dy hn t = ρ at *
    have e3 : ((sy + ρ : Nat) : Int) * ((wds sw : Nat) : Int) = (((sy + ρ) * wds sw : Nat) : Int) := (Int.natCast_mul _ _).symm
    have e5 : (((sy + ρ) * wds sw : Nat) : Int) + ((wds sw : Nat) : Int) = (((sy + ρ) * wds sw + wds sw : Nat) : Int) := rfl
    have e6 : (dx : Int) / 64 = ((dx / 64 : Nat) : Int) := rfl
    have e7 : ∀ (o : Nat), slc2 1 (some (.sl (some (sb, 0)) (sh * wds sw) (sh * wds sw) 1)) (some (some (.int .i64 ((sy + ρ) * wds sw : Nat)))) (some (some (.int .i64 ((sy + ρ) * wds sw + wds sw : Nat)))) (some (some (.int .i64 ((sy + ρ) * wds sw + wds sw : Nat)))) H1 = some (.sl (some (sb, (sy + ρ) * wds sw)) (wds sw) (wds sw) 1, H1) := fun o => by
      rw [slc_lhm _ _ _ _ _ _ _ _ _ _ _ _ (by omega)]
      simp only [Int.toNat_natCast, Nat.zero_add, Nat.mul_one, Nat.add_sub_cancel_left]
    rcases (show (sy < dy ∧ ρ = hn - 1 - t) ∨ (¬ sy < dy ∧ ρ = t) by unfold rho at hρ'; split at hρ' <;> omega) with ⟨d1, d2⟩ | ⟨d1, d2⟩
    · have er : (hn : Int) - 1 - (t : Int) = (ρ : Int) := by omega
      simp -implicitDefEqProofs -dsimp (disch := omega) only [go_sem, Nat.reduceEqDiff, ↓reduceIte, Nat.reduceAdd, Nat.reduceMul, Nat.reduceSub, Nat.reduceLT, Nat.reduceLeDiff, Int.reduceLT, Int.reduceLE, Int.reduceEq, Int.reduceNeg, Int.reduceAdd, Int.reduceMul, Int.reduceSub, Int.reduceToNat, reduceCtorEq, dec_t, dec_f, BlF, bitmap_Map_Blit_l0, w64, er, cadd, rd_s c1, e3, e5, e7 0, a2, tdivN, e6]
      refine blit_line hp h2.p1 hMb hMl hn1 hdx rfl (by omega) hsx hsw hop fun H3 h3 fr hfr => ?_
      obtain ⟨ex, rfl⟩ := hfr
      simp -implicitDefEqProofs -dsimp (disch := omega) only [go_sem, Nat.reduceEqDiff, ↓reduceIte, Nat.reduceAdd, Nat.reduceMul, Nat.reduceSub, Nat.reduceLT, Nat.reduceLeDiff, Int.reduceLT, Int.reduceLE, Int.reduceEq, Int.reduceNeg, Int.reduceAdd, Int.reduceMul, Int.reduceSub, Int.reduceToNat, reduceCtorEq, dec_t, dec_f, BlF, w64, cadd1]
      subst hK
      refine rnd_n (hn - (t + 1)) (by omega) ⟨t + 1, M, rfl, by omega, rfl, hMl, ?_⟩
      refine h3.mapc fun i' j' hi' hj' => ?_
      unfold lineP linesP
      by_cases c : j' = dy + ρ ∧ dx ≤ i' ∧ i' < dx + n
      · rw [if_pos (by omega), if_neg (by rintro ⟨_, _, _, _, g⟩; rw [if_pos d1] at g; omega), if_pos (by refine ⟨by omega, by omega, by omega, by omega, ?_⟩; rw [if_pos d1]; omega)]
        rw [show (sx : Int) + i' - dx = ((sx + i' - dx : Nat) : Int) by omega, rowB_words hMl hM4 (by omega), show sy + j' - dy = sy + ρ by omega]
      · rw [if_neg (by omega)]
        by_cases g : dx ≤ i' ∧ i' < dx + n ∧ dy ≤ j' ∧ j' < dy + hn ∧ (if sy < dy then hn - t ≤ j' - dy else j' - dy < t)
        · rw [if_pos g, if_pos]; refine ⟨g.1, g.2.1, g.2.2.1, g.2.2.2.1, ?_⟩
          have := g.2.2.2.2; rw [if_pos d1] at this ⊢; omega
        · rw [if_neg g, if_neg]; rintro ⟨g1, g2, g3, g4, g5⟩; refine g ⟨g1, g2, g3, g4, ?_⟩
          rw [if_pos d1] at g5 ⊢; omega
    · subst d2
      simp -implicitDefEqProofs -dsimp (disch := omega) only [go_sem, Nat.reduceEqDiff, ↓reduceIte, Nat.reduceAdd, Nat.reduceMul, Nat.reduceSub, Nat.reduceLT, Nat.reduceLeDiff, Int.reduceLT, Int.reduceLE, Int.reduceEq, Int.reduceNeg, Int.reduceAdd, Int.reduceMul, Int.reduceSub, Int.reduceToNat, reduceCtorEq, dec_t, dec_f, BlF, bitmap_Map_Blit_l0, w64, cadd, rd_s c1, e3, e5, e7 0, a2, tdivN, e6]
      refine blit_line (ρ := ρ) (y := dy + ρ) (t := ρ) (h := h) (w := w) hp h2.p1 hMb hMl hn1 hdx rfl (by omega) hsx hsw hop fun H3 h3 fr hfr => ?_
      obtain ⟨ex, rfl⟩ := hfr
      simp -implicitDefEqProofs -dsimp (disch := omega) only [go_sem, Nat.reduceEqDiff, ↓reduceIte, Nat.reduceAdd, Nat.reduceMul, Nat.reduceSub, Nat.reduceLT, Nat.reduceLeDiff, Int.reduceLT, Int.reduceLE, Int.reduceEq, Int.reduceNeg, Int.reduceAdd, Int.reduceMul, Int.reduceSub, Int.reduceToNat, reduceCtorEq, dec_t, dec_f, BlF, w64, cadd1]
      subst hK
      refine rnd_n (hn - (ρ + 1)) (by omega) ⟨ρ + 1, M, rfl, by omega, rfl, hMl, ?_⟩
      refine h3.mapc fun i' j' hi' hj' => ?_
      unfold lineP linesP
      by_cases c : j' = dy + ρ ∧ dx ≤ i' ∧ i' < dx + n
      · rw [if_pos (by omega), if_neg (by rintro ⟨_, _, _, _, g⟩; rw [if_neg d1] at g; omega), if_pos (by refine ⟨by omega, by omega, by omega, by omega, ?_⟩; rw [if_neg d1]; omega)]
        rw [show (sx : Int) + i' - dx = ((sx + i' - dx : Nat) : Int) by omega, rowB_words hMl hM4 (by omega), show sy + j' - dy = sy + ρ by omega]
      · rw [if_neg (by omega)]
        by_cases g : dx ≤ i' ∧ i' < dx + n ∧ dy ≤ j' ∧ j' < dy + hn ∧ (if sy < dy then hn - ρ ≤ j' - dy else j' - dy < ρ)
        · rw [if_pos g, if_pos]; refine ⟨g.1, g.2.1, g.2.2.1, g.2.2.2.1, ?_⟩
          have := g.2.2.2.2; rw [if_neg d1] at this ⊢; omega
        · rw [if_neg g, if_neg]; rintro ⟨g1, g2, g3, g4, g5⟩; refine g ⟨g1, g2, g3, g4, ?_⟩
          rw [if_neg d1] at g5 ⊢; omega
  · obtain rfl : t = hn := by omega
    simp -implicitDefEqProofs -dsimp (disch := omega) only [go_sem, Nat.reduceEqDiff, ↓reduceIte, Nat.reduceAdd, Nat.reduceMul, Nat.reduceSub, Nat.reduceLT, Nat.reduceLeDiff, Int.reduceLT, Int.reduceLE, Int.reduceEq, Int.reduceNeg, Int.reduceAdd, Int.reduceMul, Int.reduceSub, Int.reduceToNat, reduceCtorEq, dec_t, dec_f, BlF, bitmap_Map_Blit_l0]
    subst hK
    exact hQ _ H1 rfl h1.p1.tail
end
end Go.Ab
