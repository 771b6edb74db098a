/- The reference's bitmaps: sizes, white ones, pixels. Conditions: none. -/
import Derived.Test.YtfgecfbknpifjaaC2
import Derived.Test.YtfgecfbknpifjaaPRz
import Derived.Test.YtfgecfbknpifjaaPL2h
import Derived.Test.YtfgecfbknpifjaaPKit2
import Derived.Test.YtfgecfbknpifjaaBkw
set_option linter.all false
namespace Go.Ab

/-- A bitmap of one's own. -/
def BmA (v : V) (w h : Nat) (p : Nat → Nat → Bool) : As where
  ok F H := (∀ x, F x ↔ sb v x) ∧ Own H v 1 (Wds w h p).length (u64s (Wds w h p)) ∧ 1 ≤ w ∧ 1 ≤ h ∧ w * h ≤ 1048576
  st := fun {F H H'} ⟨h1, h2, h3⟩ hn he => ⟨h1, h2.same (S := fun b => ¬ F b) ⟨hn, fun b _ hs => he b (Classical.not_not.1 hs)⟩ (fun b hb h => h ((h1 b).2 hb)), h3⟩
  lt := fun ⟨h1, h2, _⟩ b hb => h2.lt ((h1 b).1 hb)
theorem bmA_of {H : Heap} {v : V} {w h : Nat} {p : Nat → Nat → Bool} {R : List As} (hs : Hs H (Lst v 1 (Wds w h p).length (u64s (Wds w h p)) :: R)) (hd : 1 ≤ w ∧ 1 ≤ h ∧ w * h ≤ 1048576) : Hs H (BmA v w h p :: R) :=
  hs.step fun F ⟨h1, h2⟩ => ⟨fun _ => False, F, Same.refl _ _, fun _ _ h => h.elim, ⟨h1, h2, hd⟩, fun _ h => Or.inl h⟩
theorem Hs.bml {H : Heap} {v : V} {w h : Nat} {p : Nat → Nat → Bool} {R : List As} (hs : Hs H (BmA v w h p :: R)) : Hs H (Lst v 1 (Wds w h p).length (u64s (Wds w h p)) :: R) :=
  hs.step fun F ⟨h1, h2, hd⟩ => ⟨fun _ => False, F, Same.refl _ _, fun _ _ h => h.elim, ⟨h1, h2⟩, fun _ h => Or.inl h⟩
theorem Hs.bmc {H : Heap} {v : V} {w h : Nat} {p q : Nat → Nat → Bool} {R : List As} (hs : Hs H (BmA v w h p :: R)) (e : ∀ x y, x < w → y < h → p x y = q x y) : Hs H (BmA v w h q :: R) :=
  hs.step fun F ⟨h1, h2, hd⟩ => ⟨fun _ => False, F, Same.refl _ _, fun _ _ h => h.elim, ⟨h1, by rw [← Wds_congr e]; exact h2, hd⟩, fun _ h => Or.inl h⟩
theorem bmSz {H : Heap} {v : V} {w h : Nat} {p : Nat → Nat → Bool} {R : List As} (hs : Hs H (BmA v w h p :: R)) : 1 ≤ w ∧ 1 ≤ h ∧ w * h ≤ 1048576 ∧ w ≤ 1048576 ∧ h ≤ 1048576 := by
  obtain ⟨F, _, _, h3, h2, h1⟩ := hs.head
  have h4 := Nat.le_mul_of_pos_right w (show 0 < h by omega)
  have h5 := Nat.le_mul_of_pos_left h (show 0 < w by omega)
  exact ⟨h3, h2, h1, by omega, by omega⟩
structure BmV (H : Heap) (v : V) (b w h : Nat) (p : Nat → Nat → Bool) (R : List As) : Prop where
  val : v = .sl (some (b, 0)) (h * wds w) (h * wds w) 1
  row : H.get b = .cells (u64s (Wds w h p)) true
  lt : b < H.next
  arr : Arr H v 1 (Wds w h p).length (u64s (Wds w h p))
  rd : ∀ y i, y < h → i < wds w → rd H none b (y * wds w + i) = some (.int .u64 (word w p y i : Nat))
  wr : ∀ y i n q, y < h → i < wds w → n < 18446744073709551616 → (∀ k, k < 64 → wb n k = (decide (64 * i + k < w) && q (64 * i + k) y)) → (∀ x' y', x' < w → y' < h → (y' ≠ y ∨ x' / 64 ≠ i) → q x' y' = p x' y') →
    ∃ H', wr H b (y * wds w + i) [.int .u64 (n : Nat)] = some H' ∧ Hs H' (BmA v w h q :: R) ∧ ∀ x, x ≠ b → H'.get x = H.get x
  words : h * wds w ≤ 1048576
theorem bmV {H : Heap} {v : V} {w h : Nat} {p : Nat → Nat → Bool} {R : List As} (hs : Hs H (BmA v w h p :: R)) : ∃ b, BmV H v b w h p R := by
  obtain ⟨F, hF, hown, d1, d2, d3⟩ := hs.head
  have hpos : 0 < h * wds w := Nat.mul_pos (by omega) (by unfold wds; omega)
  rcases hown with ⟨_, e, _⟩ | ⟨b, hv, hg, hl, hb⟩
  · rw [Wds_length] at e; omega
  · have hv' := hv
    rw [Wds_length] at hv'
    refine ⟨b, hv', hg, hb, Own.arr (Or.inr ⟨b, hv, hg, hl, hb⟩), fun y i hy hi => ?_, fun y i n q hy hi hn h1 h2 => ?_, wds_le d3 d1⟩
    · rw [rd_s hg]; simp only [u64s, List.getElem?_map, Wds_at hy hi, Option.map_some]
    · have hidx := word_at hy hi
      refine ⟨H.put b (.cells (u64s (Wds w h q)) true), ?_, ?_, fun x hx => by rw [get_put, if_neg hx]⟩
      · rw [wr_s hg]
        have e : over (u64s (Wds w h p)) (y * wds w + i) [.int .u64 (n : Nat)] = u64s (Wds w h q) := by
          rw [over_one (by simp [u64s, Wds_length]; omega), ← Wds_set hy hi hn h1 h2]
          simp [u64s, List.map_set]
        rw [e, if_pos (by simp [u64s, Wds_length]; omega)]; rfl
      · refine hs.step fun F ⟨k1, k2, k3⟩ => ⟨fun x => x = b, F, Same.put rfl, fun x _ hx => (k1 x).2 (by rw [hv, show x = b from hx]; exact rfl), ⟨k1, ?_, k3⟩, fun _ hx => Or.inl hx⟩
        rw [Wds_length]
        exact Or.inr ⟨b, hv', by simp [get_put], by simp [u64s, Wds_length], hb⟩

section
variable {P : Prog} {H : Heap} {R : List As} {Q : Out → Heap → Prop}

theorem sizeR_ct (hp : HasRz P) {w h : Int} (hw : i64r w) (hh : i64r h) (hQ : Q (.ret (.bool (decide (sizeOk w h)))) H) : Call P 74 [.int .i64 w, .int .i64 h] H Q := by
  unfold i64r at hw hh
  refine call_of hp.h_burinref0_Size rfl ?_
  by_cases k : sizeOk w h
  · rw [decide_eq_true k] at hQ
    have hle := sizeOk_le k
    obtain ⟨k1, k2, k3⟩ := k
    have hdiv : h ≤ 1048576 / w := (Int.le_ediv_iff_mul_le (by omega)).2 (by rw [Int.mul_comm]; exact k3)
    have hdl : 1048576 / w ≤ 1048576 := Int.ediv_le_self _ (by omega)
    simp -implicitDefEqProofs -dsimp (disch := omega) only [go_sem, dec_t, dec_f, tdivN, w64, if_neg (show ¬ w = 0 by omega)]
    exact hQ
  · rw [decide_eq_false k] at hQ
    by_cases c : 1 ≤ w ∧ 1 ≤ h ∧ w ≤ 1048576
    · have hdiv : ¬ h ≤ 1048576 / w := fun e => k ⟨c.1, c.2.1, by have := (Int.le_ediv_iff_mul_le (show 0 < w by omega)).1 e; rwa [Int.mul_comm] at this⟩
      have hdl : 1048576 / w ≤ 1048576 := Int.ediv_le_self _ (by omega)
      have hd0 : 0 ≤ 1048576 / w := Int.ediv_nonneg (by omega) (by omega)
      simp -implicitDefEqProofs -dsimp (disch := omega) only [go_sem, dec_t, dec_f, tdivN, w64, if_neg (show ¬ w = 0 by omega)]
      exact hQ
    · rcases (show w < 1 ∨ (1 ≤ w ∧ h < 1) ∨ (1 ≤ w ∧ 1 ≤ h ∧ 1048576 < w) by omega) with d | d | d <;>
      · simp -implicitDefEqProofs -dsimp (disch := omega) only [go_sem, dec_t, dec_f, ]; exact hQ
theorem words_ct (hp : HasRz P) {w : Nat} (hw : w ≤ 1099511627776) (hQ : Q (.ret (.int .i64 (wds w : Nat))) H) : Call P 75 [.int .i64 w] H Q := by
  refine call_of hp.h_burinref0_words rfl ?_
  have ew : ((w : Int) + 63) / 64 = ((wds w : Nat) : Int) := by unfold wds; omega
  simp -implicitDefEqProofs -dsimp (disch := omega) only [go_sem, dec_t, dec_f, w64, tdivN, ew]
  exact hQ
theorem white_ct (hp : HasRz P) (hs : Hs H R) {w h : Nat} (hd : 1 ≤ w ∧ 1 ≤ h ∧ w * h ≤ 1048576) (hQ : ∀ v H', Hs H' (BmA v w h (fun _ _ => false) :: R) → Same (fun _ => False) H H' → Q (.ret (.agg [.int .i64 w, .int .i64 h, v])) H') : Call P 77 [.int .i64 w, .int .i64 h] H Q := by
  obtain ⟨z1, z2, z3⟩ := hd
  have kw := wds_le z3 z1
  have z4 : w ≤ 1048576 := by have := Nat.le_mul_of_pos_right w (show 0 < h by omega); omega
  have z5 : h ≤ 1048576 := by have := Nat.le_mul_of_pos_left h (show 0 < w by omega); omega
  have em : (h : Int) * ((wds w : Nat) : Int) = ((h * wds w : Nat) : Int) := (Int.natCast_mul _ _).symm
  refine call_of hp.h_burinref0_White rfl ?_
  have g1 := hs.alloc (l := [.int .i64 0, .int .i64 0, .sl none 0 0 0])
  have s1 : Same (fun _ => False) H (H.new (.cells [.int .i64 0, .int .i64 0, .sl none 0 0 0] true)) := Same.new _ _ _
  simp -implicitDefEqProofs -dsimp (disch := omega) only [go_sem, dec_t, dec_f, ]
  generalize H.new (.cells [.int .i64 0, .int .i64 0, .sl none 0 0 0] true) = H1 at *
  generalize hb : H.next = b at *
  refine words_ct hp (by omega) ?_
  have g2 : Hs (H1.new (.cells (u64s (Wds w h fun _ _ => false)) true)) (Lst (.sl (some (H1.next, 0)) (Wds w h fun _ _ => false).length (Wds w h fun _ _ => false).length 1) 1 (Wds w h fun _ _ => false).length (u64s (Wds w h fun _ _ => false)) :: Cel b [.int .i64 0, .int .i64 0, .sl none 0 0 0] :: R) :=
    g1.lst (Same.new _ _ _) (Or.inr ⟨H1.next, rfl, by simp [get_new], by simp [u64s], by simp [next_new]⟩) fun x hx => by have : x = H1.next := hx; omega
  have s2 := s1.trans (Same.new (fun _ => False) H1 (.cells (u64s (Wds w h fun _ _ => false)) true)) fun _ _ h => h
  have hne : ¬ b = H1.next := by have := g1.celt; omega
  have hwN : wrN H1 (u64s (List.replicate (h * wds w) 0)) b 0 [.int .i64 w, .int .i64 h, .sl (some (H1.next, 0)) (h * wds w) (h * wds w) 1] = some ((H1.new (.cells (u64s (Wds w h fun _ _ => false)) true)).put b (.cells [.int .i64 w, .int .i64 h, .sl (some (H1.next, 0)) (h * wds w) (h * wds w) 1] true)) := by
    unfold wrN; rw [← Wds_white, wr_s g2.p1.cel]; rfl
  simp -implicitDefEqProofs -dsimp (disch := omega) only [go_sem, dec_t, dec_f, w64, em, Int.toNat_natCast, reps_u64, if_neg hne, hwN]
  have g3 := g2.p1.put (l' := [.int .i64 w, .int .i64 h, .sl (some (H1.next, 0)) (h * wds w) (h * wds w) 1])
  rw [rd_m g3.cel]
  simp -implicitDefEqProofs -dsimp (disch := omega) only [go_sem, dec_t, dec_f, ]
  refine hQ _ _ (bmA_of ?_ ⟨z1, z2, z3⟩) (s2.trans (Same.put (S := fun x => x = b) rfl) fun x hx e => by have : x = b := e; omega)
  have g4 := g3.tail
  rw [Wds_length] at g4 ⊢
  exact g4
theorem do_ct (hp : HasRz P) {op : Nat} (ho : op < 5) {a b : Bool} (hQ : Q (.ret (.int .i64 ((opB op a b).toNat : Nat))) H) : Call P 80 [.int .i64 op, .int .i64 (a.toNat : Nat), .int .i64 (b.toNat : Nat)] H Q := by
  refine call_of hp.h_burinref0_Do rfl ?_
  rcases (show op = 0 ∨ op = 1 ∨ op = 2 ∨ op = 3 ∨ op = 4 by omega) with rfl | rfl | rfl | rfl | rfl <;> cases a <;> cases b <;>
  · simp -implicitDefEqProofs -dsimp (disch := omega) only [go_sem, dec_t, dec_f, Bool.toNat_true, Bool.toNat_false, show ((0 : Nat) : Int) = 0 from rfl, show ((1 : Nat) : Int) = 1 from rfl]
    exact hQ
/-- A pixel of words. -/
theorem getR_ct (hp : HasRz P) (hs : Hs H R) {w h : Nat} {v : V} {ws : List Nat} (hv : Arr H v 1 ws.length (u64s ws)) (hl : ws.length = h * wds w) (hb : ∀ n ∈ ws, n < 18446744073709551616) (hd : 1 ≤ w ∧ w ≤ 1048576 ∧ h * wds w ≤ 1048576) {x y : Int}
    (hQ : ∀ H', Hs H' R → Same (fun _ => False) H H' → Q (.ret (.int .i64 (getV w h (pixOf w ws) x y : Nat))) H') : Call P 78 [.agg [.int .i64 w, .int .i64 h, v], .int .i64 x, .int .i64 y] H Q := by
  refine call_of hp.h_burinref0_Get rfl ?_
  have g1 := hs.alloc (l := [.int .i64 w, .int .i64 h, v])
  have s1 : Same (fun _ => False) H (H.new (.cells [.int .i64 w, .int .i64 h, v] true)) := Same.new _ _ _
  have hc := g1.cel
  obtain ⟨a, c, e', rfl⟩ := hv.shape
  have hv1 := hv.same s1 fun _ _ h => h
  simp -implicitDefEqProofs -dsimp (disch := omega) only [go_sem, dec_t, dec_f, ]
  generalize H.new (.cells [.int .i64 w, .int .i64 h, .sl a ws.length c e'] true) = H1 at *
  generalize H.next = bx at *
  unfold getV at hQ
  by_cases c1 : 0 ≤ x ∧ x < w ∧ 0 ≤ y ∧ y < h
  · rw [if_pos c1] at hQ
    obtain ⟨xn, rfl⟩ : ∃ xn : Nat, x = xn := ⟨x.toNat, by omega⟩
    obtain ⟨yn, rfl⟩ : ∃ yn : Nat, y = yn := ⟨y.toNat, by omega⟩
    rw [Int.toNat_natCast, Int.toNat_natCast] at hQ
    have hx : xn < w := by omega
    have hy : yn < h := by omega
    have hi := wds_of hx
    have hidx := word_at hy hi
    have hyy : yn * wds w ≤ h * wds w := Nat.mul_le_mul_right _ (by omega)
    have e1 : (xn : Int) / 64 = ((xn / 64 : Nat) : Int) := rfl
    have e2 : (xn : Int) % 64 = ((xn % 64 : Nat) : Int) := rfl
    have e3 : (yn : Int) * ((wds w : Nat) : Int) = ((yn * wds w : Nat) : Int) := (Int.natCast_mul _ _).symm
    have e4 : 63 - ((xn % 64 : Nat) : Int) = ((63 - xn % 64 : Nat) : Int) := by omega
    obtain ⟨b3, o3, c3, hv3, hr3⟩ := arr_u64 hv1 (i := yn * wds w + xn / 64) (by omega)
    cases hv3
    have hwl := hb _ (List.getElem_mem (show yn * wds w + xn / 64 < ws.length by omega))
    have hbt := bit_word (k := xn % 64) hwl (Nat.mod_lt _ (by omega))
    have hpx : pixOf w ws xn yn = wb ws[yn * wds w + xn / 64] (xn % 64) := by
      unfold pixOf; rw [List.getD_eq_getElem?_getD, List.getElem?_eq_getElem (by omega)]; rfl
    rw [hpx] at hQ
    generalize ws[yn * wds w + xn / 64] = W at *
    have hbl := Bool.toNat_le (wb W (xn % 64))
    simp -implicitDefEqProofs -dsimp (disch := omega) only [go_sem, dec_t, dec_f, rd_s hc, tdivN, tmodN, e1, e2, e4, w64, wu64]
    refine words_ct hp (by omega) ?_
    simp -implicitDefEqProofs -dsimp (disch := omega) only [go_sem, dec_t, dec_f, ]
    refine aft_intro (t := tag _) (by simp [rechecks, recheck, fresh, Fr.get, Fr.put, look, step, opd, rd_s hc]) ?_
    simp -implicitDefEqProofs -dsimp (disch := omega) only [go_sem, dec_t, dec_f, tdivN, e3, w64, cadd, Int.toNat_natCast, Nat.mul_one, hr3, shr64 hwl, hbt]
    exact hQ H1 g1.tail s1
  · rw [if_neg c1] at hQ
    rcases (show x < 0 ∨ (0 ≤ x ∧ y < 0) ∨ (0 ≤ x ∧ 0 ≤ y ∧ (w : Int) ≤ x) ∨ (0 ≤ x ∧ x < w ∧ 0 ≤ y ∧ (h : Int) ≤ y) by omega) with d | d | d | d <;>
    · simp -implicitDefEqProofs -dsimp (disch := omega) only [go_sem, dec_t, dec_f, rd_s hc]; exact hQ H1 g1.tail s1
end
end Go.Ab
/- The reference's bitmaps: put, copied, compared. Conditions: none. -/
namespace Go.Ab

theorem getV_pix {w h : Nat} {p : Nat → Nat → Bool} {x y : Int} : getV w h (pixOf w (Wds w h p)) x y = getV w h p x y := by
  unfold getV
  by_cases c : 0 ≤ x ∧ x < w ∧ 0 ≤ y ∧ y < h
  · rw [if_pos c, if_pos c, pixOf_Wds p (by omega) (by omega)]
  · rw [if_neg c, if_neg c]
def SeJ (H : Heap) (x y : V) (bs cs : List Nat) (m : Nat) (fr : Fr) (H' : Heap) : Prop :=
  ∃ i : Nat, m = bs.length - i ∧ i ≤ bs.length ∧ fr = ⟨[(0, x), (1, y), (5, .int .i64 i)], []⟩ ∧ H = H' ∧ bs.take i = cs.take i

section
variable {P : Prog} {H : Heap} {R : List As} {Q : Out → Heap → Prop}

theorem getB_ct (hp : HasRz P) {v : V} {w h : Nat} {p : Nat → Nat → Bool} (hs : Hs H (BmA v w h p :: R)) {x y : Int}
    (hQ : ∀ H', Hs H' (BmA v w h p :: R) → Same (fun _ => False) H H' → Q (.ret (.int .i64 (getV w h p x y : Nat))) H') : Call P 78 [.agg [.int .i64 w, .int .i64 h, v], .int .i64 x, .int .i64 y] H Q := by
  obtain ⟨z1, z2, z3, z4, z5⟩ := bmSz hs
  obtain ⟨b, k⟩ := bmV hs
  refine getR_ct hp hs k.arr (Wds_length _ _ _) (Wds_lt _ _ _) ⟨z1, z4, k.words⟩ fun H' h' s' => ?_
  rw [getV_pix]
  exact hQ H' h' s'

theorem putR_ct (hp : HasRz P) {v : V} {w h : Nat} {p : Nat → Nat → Bool} (hs : Hs H (BmA v w h p :: R)) {x y : Nat} {bit : Int} (hx : x < w) (hy : y < h) (hQ : ∀ H', Hs H' (BmA v w h (updP p x y (decide (bit = 1))) :: R) → Q (.ret (.tup [])) H') : Call P 79 [.agg [.int .i64 w, .int .i64 h, v], .int .i64 x, .int .i64 y, .int .i64 bit] H Q := by
  obtain ⟨z1, z2, z3, z4, z5⟩ := bmSz hs
  have g1 := hs.alloc (l := [.int .i64 w, .int .i64 h, v])
  have s1 : Same (fun _ => False) H (H.new (.cells [.int .i64 w, .int .i64 h, v] true)) := Same.new _ _ _
  refine call_of hp.h_burinref0_Put rfl ?_
  have hc := g1.cel
  simp -implicitDefEqProofs -dsimp (disch := omega) only [go_sem, dec_t, dec_f, ]
  generalize H.new (.cells [.int .i64 w, .int .i64 h, v] true) = H1 at *
  generalize H.next = bx at *
  obtain ⟨b, k⟩ := bmV g1.p1
  obtain rfl := k.val
  have hi := wds_of hx
  have hidx := word_at hy hi
  have hwd := k.words
  have hyy : y * wds w ≤ h * wds w := Nat.mul_le_mul_right _ (by omega)
  have e1 : (x : Int) / 64 = ((x / 64 : Nat) : Int) := rfl
  have e2 : (x : Int) % 64 = ((x % 64 : Nat) : Int) := rfl
  have e3 : (y : Int) * ((wds w : Nat) : Int) = ((y * wds w : Nat) : Int) := (Int.natCast_mul _ _).symm
  have e4 : 63 - ((x % 64 : Nat) : Int) = ((63 - x % 64 : Nat) : Int) := by omega
  have hwl := word_lt w p y (x / 64)
  have hk := Nat.mod_lt x (show 0 < 64 by omega)
  have hpw := pow_bit hk
  have hup : ∀ bb : Bool, ∀ q : Nat → Nat → Bool, (∀ i j, (i ≠ x ∨ j ≠ y) → q i j = p i j) → ∀ x' y', x' < w → y' < h → (y' ≠ y ∨ x' / 64 ≠ x / 64) → updP p x y bb x' y' = q x' y' := fun bb q hq x' y' _ _ hne => by
    unfold updP
    have hne' : x' ≠ x ∨ y' ≠ y := by rcases hne with h | h; exact Or.inr h; exact Or.inl fun e => h (by rw [e])
    rw [if_neg (by rintro ⟨e', e''⟩; rcases hne' with h | h; exact h e'; exact h e''), hq _ _ hne']
  obtain ⟨H2, hw2, h2, hm2⟩ := k.wr y (x / 64) (dif (word w p y (x / 64)) (2 ^ (63 - x % 64))) (updP p x y false) hy hi (dif_lt hwl) (fun j hj => by
      rw [wb_dif hj, wb_word hj, wb_pow hk hj]
      unfold updP
      by_cases e : j = x % 64
      · rw [decide_eq_true e, if_pos ⟨by omega, rfl⟩]; simp
      · rw [decide_eq_false e, if_neg (by rintro ⟨e', _⟩; omega)]; simp) (hup false p fun _ _ _ => rfl)
  have hne : bx ≠ b := by
    intro e
    obtain ⟨F, h1, _, G, h3, h4, _⟩ := g1
    exact h4 b ((h3.1 b).2 rfl) (Or.inr ((h1.1 b).2 e.symm))
  have hc2 : H2.get bx = .cells [.int .i64 w, .int .i64 h, .sl (some (b, 0)) (h * wds w) (h * wds w) 1] true := (hm2 bx hne).trans hc
  refine words_ct hp (by omega) ?_
  by_cases c : bit = 1
  · subst c
    obtain ⟨b', k2⟩ := bmV h2
    have := k2.val
    cases this
    have hwl2 := word_lt w (updP p x y false) y (x / 64)
    have hor : bitop .or .u64 ((word w (updP p x y false) y (x / 64) : Nat) : Int) ((2 ^ (63 - x % 64) : Nat) : Int) = ((word w (updP p x y false) y (x / 64) ||| 2 ^ (63 - x % 64) : Nat) : Int) := or64 hwl2 hpw
    obtain ⟨H3, hw3, h3, hm3⟩ := k2.wr y (x / 64) (word w (updP p x y false) y (x / 64) ||| 2 ^ (63 - x % 64)) (updP p x y true) hy hi (or_lt hwl2 hpw) (fun j hj => by
        rw [wb_or, wb_word hj, wb_pow hk hj]
        unfold updP
        by_cases e : j = x % 64
        · rw [decide_eq_true e, if_pos ⟨by omega, rfl⟩, if_pos ⟨by omega, rfl⟩, decide_eq_true (by omega)]; simp
        · rw [decide_eq_false e, if_neg (by rintro ⟨e', _⟩; omega), if_neg (by rintro ⟨e', _⟩; omega)]; simp) (hup true _ fun i j hne => by
        unfold updP; rw [if_neg]; rintro ⟨e', e''⟩; rcases hne with h | h; exact h e'; exact h e'')
    simp -implicitDefEqProofs -dsimp (disch := omega) only [go_sem, dec_t, dec_f, tdivN, tmodN, e1, e2, e3, e4, w64, wu64, cadd, shl1w, rd_s hc, Int.toNat_natCast, Nat.mul_one, k.rd y (x / 64) hy hi, dif64 hwl hpw, hw2, rd_s hc2, k2.rd y (x / 64) hy hi, hor, hw3]
    exact hQ H3 h3.p1.tail
  · rw [decide_eq_false c] at hQ
    simp -implicitDefEqProofs -dsimp (disch := omega) only [go_sem, dec_t, dec_f, tdivN, tmodN, e1, e2, e3, e4, w64, wu64, cadd, shl1w, rd_s hc, Int.toNat_natCast, Nat.mul_one, k.rd y (x / 64) hy hi, dif64 hwl hpw, hw2]
    exact hQ H2 h2.p1.tail

theorem copyR_ct (hp : HasRz P) (hs : Hs H R) {w h : Int} {v : V} {ws : List Nat} (hv : Arr H v 1 ws.length (u64s ws)) (hl : ws.length ≤ 17592186040000)
    (hQ : ∀ v' H', Hs H' (Lst v' 1 ws.length (u64s ws) :: R) → Same (fun _ => False) H H' → Q (.ret (.agg [.int .i64 w, .int .i64 h, v'])) H') : Call P 82 [.agg [.int .i64 w, .int .i64 h, v]] H Q := by
  obtain ⟨a, c, e', rfl⟩ := hv.shape
  refine call_of hp.h_burinref0_CopyBitmap rfl ?_
  have g1 := hs.alloc (l := [.int .i64 w, .int .i64 h, .sl a ws.length c e'])
  have s1 : Same (fun _ => False) H (H.new (.cells [.int .i64 w, .int .i64 h, .sl a ws.length c e'] true)) := Same.new _ _ _
  have g2 := g1.alloc (l := [.int .i64 0, .int .i64 0, .sl none 0 0 0])
  have s2 := s1.trans (Same.new (fun _ => False) _ (.cells [.int .i64 0, .int .i64 0, .sl none 0 0 0] true)) fun _ _ h => h
  have hc := g2.p1.cel
  obtain ⟨v', H3, a3, o3, s3, f3⟩ := app_nil (eb := 8) (firsts_arr (hv.same s2 fun _ _ h => h)) (by simp [u64s]) (u64s_one ws) (by omega)
  have g3 := g2.lst s3 o3 f3
  obtain ⟨a4, c4, e4, rfl⟩ := o3.arr.shape
  simp -implicitDefEqProofs -dsimp (disch := omega) only [go_sem, dec_t, dec_f, a3]
  refine aft_intro (t := tag _) (by simp [rechecks, recheck, fresh, Fr.get, Fr.put, look, step, opd, rd_s (g3.p2.cel)]) ?_
  have hc3 := g3.p1.cel
  rw [next_new] at hc3
  simp -implicitDefEqProofs -dsimp (disch := omega) only [go_sem, dec_t, dec_f, wr_s hc3]
  have g4 := g3.p1.put (l' := [.int .i64 w, .int .i64 h, .sl a4 ws.length c4 e4])
  rw [next_new] at g4
  rw [rd_m g4.cel]
  simp -implicitDefEqProofs -dsimp (disch := omega) only [go_sem, dec_t, dec_f, ]
  exact hQ _ _ (g4.p1.p1.tail.p1.tail) ((s2.trans s3 fun _ _ h => h).trans (Same.put (S := fun x => x = H.next + 1) rfl) fun x hx e => by have : x = H.next + 1 := e; omega)

theorem eqw_ct (hp : HasRz P) {x y : V} {bs cs : List Nat} (hx : Arr H x 1 bs.length (u64s bs)) (hy : Arr H y 1 cs.length (u64s cs)) (hl : bs.length ≤ 281474976710656) (hQ : Q (.ret (.bool (decide (bs = cs)))) H) : Call P 83 [x, y] H Q := by
  obtain ⟨a1, c1, e1, rfl⟩ := hx.shape
  obtain ⟨a2, c2, e2, rfl⟩ := hy.shape
  refine call_of hp.h_burinref0_EqWords rfl ?_
  by_cases hlen : bs.length = cs.length
  · simp -implicitDefEqProofs -dsimp (disch := omega) only [go_sem, dec_t, dec_f, ]
    refine loop_inv (SeJ H _ _ bs cs) ?_ bs.length _ _ ⟨0, by omega, by omega, rfl, rfl, by simp⟩
    rintro m2 fr H1 ⟨i, hm, hi, rfl, rfl, ht⟩
    generalize hK : rnd (SeJ H _ _ bs cs) m2 = K
    by_cases hib : i < bs.length
    · have hic : i < cs.length := by omega
      obtain ⟨b3, o3, c3, hv3, hr3⟩ := arr_u64 hx hib
      obtain ⟨b4, o4, c4, hv4, hr4⟩ := arr_u64 hy hic
      cases hv3; cases hv4
      by_cases he : bs[i] = cs[i]
      · simp -implicitDefEqProofs -dsimp (disch := omega) only [go_sem, dec_t, dec_f, burinref0_EqWords_l0, Int.toNat_natCast, Nat.mul_one, hr3, hr4, w64, cadd1]
        subst hK
        refine rnd_n (bs.length - (i + 1)) (by omega) ⟨i + 1, rfl, by omega, rfl, rfl, ?_⟩
        rw [List.take_succ_eq_append_getElem hib, List.take_succ_eq_append_getElem hic, ht, he]
      · have hne : ¬ ((bs[i] : Nat) : Int) = ((cs[i] : Nat) : Int) := by omega
        simp -implicitDefEqProofs -dsimp (disch := omega) only [go_sem, dec_t, dec_f, burinref0_EqWords_l0, Int.toNat_natCast, Nat.mul_one, hr3, hr4]
        subst hK
        simp -implicitDefEqProofs -dsimp (disch := omega) only [go_sem, dec_t, dec_f, ]
        rw [show decide (bs = cs) = false from decide_eq_false fun e => he (by subst e; rfl)] at hQ
        exact hQ
    · obtain rfl : i = bs.length := by omega
      simp -implicitDefEqProofs -dsimp (disch := omega) only [go_sem, dec_t, dec_f, burinref0_EqWords_l0]
      subst hK
      simp -implicitDefEqProofs -dsimp (disch := omega) only [go_sem, dec_t, dec_f, ]
      have e : bs = cs := by rw [List.take_length, hlen, List.take_length] at ht; exact ht
      rw [show decide (bs = cs) = true from decide_eq_true e] at hQ
      exact hQ
  · simp -implicitDefEqProofs -dsimp (disch := omega) only [go_sem, dec_t, dec_f, ]
    rw [show decide (bs = cs) = false from decide_eq_false fun e => hlen (by rw [e])] at hQ
    exact hQ

theorem eqb_ct (hp : HasRz P) (hs : Hs H R) {w1 h1 w2 h2 : Int} {v1 v2 : V} {bs cs : List Nat} (hx : Arr H v1 1 bs.length (u64s bs)) (hy : Arr H v2 1 cs.length (u64s cs)) (hl : bs.length ≤ 281474976710656)
    (hQ : ∀ H', Hs H' R → Same (fun _ => False) H H' → Q (.ret (.bool (decide (w1 = w2 ∧ h1 = h2 ∧ bs = cs)))) H') : Call P 84 [.agg [.int .i64 w1, .int .i64 h1, v1], .agg [.int .i64 w2, .int .i64 h2, v2]] H Q := by
  obtain ⟨a1, c1, e1, rfl⟩ := hx.shape
  obtain ⟨a2, c2, e2, rfl⟩ := hy.shape
  refine call_of hp.h_burinref0_EqBitmap rfl ?_
  have g1 := hs.alloc (l := [.int .i64 w1, .int .i64 h1, .sl a1 bs.length c1 e1])
  have s1 : Same (fun _ => False) H (H.new (.cells [.int .i64 w1, .int .i64 h1, .sl a1 bs.length c1 e1] true)) := Same.new _ _ _
  have g2 := g1.alloc (l := [.int .i64 w2, .int .i64 h2, .sl a2 cs.length c2 e2])
  have s2 := s1.trans (Same.new (fun _ => False) _ (.cells [.int .i64 w2, .int .i64 h2, .sl a2 cs.length c2 e2] true)) fun _ _ h => h
  by_cases d1 : w1 = w2
  · by_cases d2 : h1 = h2
    · simp -implicitDefEqProofs -dsimp (disch := omega) only [go_sem, dec_t, dec_f, ]
      refine eqw_ct hp (hx.same s2 fun _ _ h => h) (hy.same s2 fun _ _ h => h) hl ?_
      simp -implicitDefEqProofs -dsimp (disch := omega) only [go_sem, dec_t, dec_f, ]
      have := hQ _ g2.tail.tail s2
      by_cases d3 : bs = cs
      · rw [decide_eq_true d3]; rwa [decide_eq_true ⟨d1, d2, d3⟩] at this
      · rw [decide_eq_false d3]; rwa [decide_eq_false (fun e => d3 e.2.2)] at this
    · have := hQ _ g2.tail.tail s2
      rw [decide_eq_false (fun e => d2 e.2.1)] at this
      simp -implicitDefEqProofs -dsimp (disch := omega) only [go_sem, dec_t, dec_f, ]
      exact this
  · have := hQ _ g2.tail.tail s2
    rw [decide_eq_false (fun e => d1 e.1)] at this
    simp -implicitDefEqProofs -dsimp (disch := omega) only [go_sem, dec_t, dec_f, ]
    exact this
end
end Go.Ab
/- The reference's bitmaps: may they be, counted. Conditions: none. -/
namespace Go.Ab

def MaI (H : Heap) (b : Nat) (w h : Nat) (v : V) (ws : List Nat) (R : List As) (k : Nat) (fr : Fr) (H' : Heap) : Prop :=
  ∃ y : Nat, k = h - y ∧ y ≤ h ∧ fr = ⟨[(1, .ptr (some (b, 0))), (3, .int .i64 y)], []⟩ ∧ padOk w y ws ∧ Hs H' (Cel b [.int .i64 w, .int .i64 h, v] :: R) ∧ Same (fun b' => b' = b) H H'

section
variable {P : Prog} {H : Heap} {R : List As} {Q : Out → Heap → Prop}

theorem may_ct (hp : HasRz P) {w h : Int} {v : V} {ws : List Nat} (hs : Hs H R) (hv : Arr H v 1 ws.length (u64s ws)) (hl : ∀ n ∈ ws, n < 18446744073709551616) (hw : i64r w) (hh : i64r h)
    (hQ : ∀ b H', (b = true ↔ mayB w h ws) → Hs H' R → Same (fun _ => False) H H' → Q (.ret (.bool b)) H') : Call P 76 [.agg [.int .i64 w, .int .i64 h, v]] H Q := by
  obtain ⟨a, c, e', rfl⟩ := hv.shape
  refine call_of hp.h_burinref0_May rfl ?_
  have h1 := hs.alloc (l := [.int .i64 w, .int .i64 h, .sl a ws.length c e'])
  have hc1 := h1.cel
  have hn1 : H.next < (H.new (.cells [.int .i64 w, .int .i64 h, .sl a ws.length c e'] true)).next := h1.celt
  have s1 : Same (fun _ => False) H (H.new (.cells [.int .i64 w, .int .i64 h, .sl a ws.length c e'] true)) := Same.new _ _ _
  simp -implicitDefEqProofs -dsimp (disch := omega) only [go_sem, dec_t, dec_f, ]
  generalize H.new (.cells [.int .i64 w, .int .i64 h, .sl a ws.length c e'] true) = H1 at h1 hc1 s1 hn1
  generalize hb : H.next = b at h1 hc1 hn1
  refine sizeR_ct hp hw hh ?_
  by_cases k : sizeOk w h
  · rw [decide_eq_true k]
    have hle := sizeOk_le k
    obtain ⟨wn, rfl⟩ : ∃ wn : Nat, w = wn := ⟨w.toNat, by have := k.1; omega⟩
    obtain ⟨hn, rfl⟩ : ∃ hn : Nat, h = hn := ⟨h.toNat, by have := k.2.1; omega⟩
    have k1 : 1 ≤ wn := by have := k.1; omega
    have k2 : 1 ≤ hn := by have := k.2.1; omega
    have k3 : wn * hn ≤ 1048576 := by have := k.2.2; rw [← Int.natCast_mul] at this; omega
    have kw := wds_le k3 k1
    have em : (hn : Int) * ((wds wn : Nat) : Int) = ((hn * wds wn : Nat) : Int) := (Int.natCast_mul _ _).symm
    have hmay : mayB wn hn ws ↔ ws.length = hn * wds wn ∧ padOk wn hn ws := ⟨fun h => h.2, fun h => ⟨k, h⟩⟩
    have e6 : (wn : Int) % 64 = ((wn % 64 : Nat) : Int) := rfl
    have hwl : wds wn ≤ 1048576 := by unfold wds; omega
    by_cases hlen : ws.length = hn * wds wn
    · have hmay' : mayB wn hn ws ↔ padOk wn hn ws := ⟨fun h => (hmay.1 h).2, fun h => hmay.2 ⟨hlen, h⟩⟩
      simp -implicitDefEqProofs -dsimp (disch := omega) only [go_sem, dec_t, dec_f, rd_s hc1, d_gre]
      refine words_ct hp (by omega) ?_
      simp -implicitDefEqProofs -dsimp (disch := omega) only [go_sem, dec_t, dec_f, ]
      refine aft_intro (t := tag _) (by simp [rechecks, recheck, fresh, Fr.get, Fr.put, look, step, opd, rd_s hc1]) ?_
      by_cases hz : wn % 64 = 0
      · simp -implicitDefEqProofs -dsimp (disch := omega) only [go_sem, dec_t, dec_f, w64, em, rd_s hc1, tmodN, e6, hz]
        refine hQ true H1 ⟨fun _ => hmay'.2 fun y hy k hk hx => ?_, fun _ => rfl⟩ h1.tail s1
        unfold wds at hx; omega
      · simp -implicitDefEqProofs -dsimp (disch := omega) only [go_sem, dec_t, dec_f, w64, em, rd_s hc1, tmodN, e6]
        refine loop_inv (MaI H1 b wn hn _ ws R) ?_ hn _ _ ⟨0, by omega, by omega, rfl, fun y hy => by omega, h1, Same.refl _ _⟩
        rintro k fr H2 ⟨y, hk, hy, rfl, hpad, h2, s2⟩
        generalize hK : rnd (MaI H1 b wn hn _ ws R) k = K
        have hc2 := h2.cel
        have s12 : Same (fun _ => False) H H2 := s1.trans s2 fun x hx e => by have : x = b := e; omega
        by_cases hyh : y < hn
        · have hwd : 1 ≤ wds wn := by unfold wds; omega
          have hidx := row_lt hyh hwd
          obtain ⟨b3, o3, c3, e3⟩ := hv.at0 (by omega)
          cases e3
          have hrd : rd H2 none b3 (o3 + (y * wds wn + (wds wn - 1))) = some (.int .u64 ((ws.getD (y * wds wn + (wds wn - 1)) 0 : Nat) : Int)) := by
            rw [(hv.same s12 fun _ _ h => h).rd1 (by omega)]
            simp only [u64s, List.getElem?_map, List.getD_eq_getElem?_getD, List.getElem?_eq_getElem (show y * wds wn + (wds wn - 1) < ws.length by omega)]; rfl
          have hlt : ws.getD (y * wds wn + (wds wn - 1)) 0 < 18446744073709551616 := by
            rw [List.getD_eq_getElem?_getD, List.getElem?_eq_getElem (show y * wds wn + (wds wn - 1) < ws.length by omega)]; exact hl _ (List.getElem_mem _)
          have hrow : (∀ k, k < 64 → wn ≤ 64 * (wds wn - 1) + k → wb (ws.getD (y * wds wn + (wds wn - 1)) 0) k = false) ↔ ws.getD (y * wds wn + (wds wn - 1)) 0 * 2 ^ (wn % 64) % 18446744073709551616 = 0 := by
            constructor
            · intro h
              refine wb_ext (modw_lt _) (by omega) fun k hk => ?_
              rw [wb_shl hk, wb_zero]
              by_cases hx : k + wn % 64 < 64
              · rw [h _ hx (by unfold wds; omega)]; simp
              · rw [decide_eq_false hx]; rfl
            · intro h k hk hx
              have h2 := wb_shl (n := ws.getD (y * wds wn + (wds wn - 1)) 0) (s := wn % 64) (k := k - wn % 64) (by omega)
              rw [h, wb_zero, decide_eq_true (by unfold wds at hx; omega), show k - wn % 64 + wn % 64 = k by unfold wds at hx; omega] at h2
              simpa using h2.symm
          generalize hwv : ws.getD (y * wds wn + (wds wn - 1)) 0 = wv at hrd hlt hrow
          have ey : (((y : Int)) + 1) * ((wds wn : Nat) : Int) = ((y * wds wn + wds wn : Nat) : Int) := by rw [Int.add_mul, Int.one_mul, Int.natCast_add, Int.natCast_mul]
          have ey' : ((y + 1 : Nat) : Int) * ((wds wn : Nat) : Int) = ((y * wds wn + wds wn : Nat) : Int) := ey
          have ey2 : ((y * wds wn + wds wn : Nat) : Int) - 1 = ((y * wds wn + (wds wn - 1) : Nat) : Int) := by omega
          simp -implicitDefEqProofs -dsimp (disch := omega) only [go_sem, dec_t, dec_f, burinref0_May_l0, rd_s hc2, w64, tmodN, e6, wu64]
          refine words_ct hp (by omega) ?_
          simp -implicitDefEqProofs -dsimp (disch := omega) only [go_sem, dec_t, dec_f, ]
          refine aft_intro (t := tag _) (by simp [rechecks, recheck, fresh, Fr.get, Fr.put, look, step, opd, rd_s hc2]) ?_
          by_cases hz2 : wv * 2 ^ (wn % 64) % 18446744073709551616 = 0
          · simp -implicitDefEqProofs -dsimp (disch := omega) only [go_sem, dec_t, dec_f, ey, ey', ey2, w64, Int.toNat_natCast, Nat.mul_one, hrd, shlw, hz2, cadd1, show ((0 : Nat) : Int) = 0 from rfl]
            subst hK
            refine rnd_n (hn - (y + 1)) (by omega) ⟨y + 1, rfl, by omega, rfl, fun y' hy' => ?_, h2, s2⟩
            by_cases e : y' = y
            · subst e; rw [hwv]; exact hrow.2 hz2
            · exact hpad y' (by omega)
          · have hz' : ¬ ((wv * 2 ^ (wn % 64) % 18446744073709551616 : Nat) : Int) = 0 := by omega
            simp -implicitDefEqProofs -dsimp (disch := omega) only [go_sem, dec_t, dec_f, ey, ey2, w64, Int.toNat_natCast, Nat.mul_one, hrd, shlw, hz']
            subst hK
            simp -implicitDefEqProofs -dsimp (disch := omega) only [go_sem, dec_t, dec_f, ]
            exact hQ false H2 ⟨(fun h => by cases h), fun h => absurd (hrow.1 (by have := hmay'.1 h y hyh; rw [hwv] at this; exact this)) hz2⟩ h2.tail s12
        · obtain rfl : y = hn := by omega
          simp -implicitDefEqProofs -dsimp (disch := omega) only [go_sem, dec_t, dec_f, burinref0_May_l0, rd_s hc2]
          subst hK
          simp -implicitDefEqProofs -dsimp (disch := omega) only [go_sem, dec_t, dec_f, ]
          exact hQ true H2 ⟨fun _ => hmay'.2 hpad, fun _ => rfl⟩ h2.tail s12
    · have hne : ¬ ((ws.length : Nat) : Int) = ((hn * wds wn : Nat) : Int) := by omega
      simp -implicitDefEqProofs -dsimp (disch := omega) only [go_sem, dec_t, dec_f, rd_s hc1, d_gre]
      refine words_ct hp (by omega) ?_
      simp -implicitDefEqProofs -dsimp (disch := omega) only [go_sem, dec_t, dec_f, ]
      refine aft_intro (t := tag _) (by simp [rechecks, recheck, fresh, Fr.get, Fr.put, look, step, opd, rd_s hc1]) ?_
      simp -implicitDefEqProofs -dsimp (disch := omega) only [go_sem, dec_t, dec_f, w64, em, hne]
      exact hQ false H1 ⟨(fun h => by cases h), fun h => absurd (hmay.1 h).1 hlen⟩ h1.tail s1
  · rw [decide_eq_false k]
    have hno : ¬ mayB w h ws := fun e => k e.1
    simp -implicitDefEqProofs -dsimp (disch := omega) only [go_sem, dec_t, dec_f, d_gre]
    exact hQ false H1 ⟨(fun h => by cases h), fun h => absurd h.1 k⟩ h1.tail s1

theorem cnt2_le (w : Nat) (p : Nat → Nat → Bool) (h : Nat) : cnt2 w p h ≤ h * w := sumN_le fun _ _ => cntF_le _ _
def CoI (H : Heap) (b : Nat) (w h : Nat) (v : V) (ws : List Nat) (R : List As) (k : Nat) (fr : Fr) (H' : Heap) : Prop :=
  ∃ y : Nat, k = h - y ∧ y ≤ h ∧ fr = ⟨[(1, .ptr (some (b, 0))), (3, .int .i64 (cnt2 w (pixOf w ws) y : Nat)), (4, .int .i64 y)], []⟩ ∧ Hs H' (Cel b [.int .i64 w, .int .i64 h, v] :: R) ∧ Same (fun b' => b' = b) H H'
def CoJ (H : Heap) (b : Nat) (w h : Nat) (v : V) (ws : List Nat) (R : List As) (y : Nat) (k : Nat) (fr : Fr) (H' : Heap) : Prop :=
  ∃ x : Nat, k = w - x ∧ x ≤ w ∧ fr = ⟨[(1, .ptr (some (b, 0))), (3, .int .i64 (cnt2 w (pixOf w ws) y + cntF (fun i => pixOf w ws i y) x : Nat)), (4, .int .i64 y), (5, .int .i64 x)], []⟩ ∧ Hs H' (Cel b [.int .i64 w, .int .i64 h, v] :: R) ∧ Same (fun b' => b' = b) H H'
theorem countR_ct (hp : HasRz P) {w h : Nat} {v : V} {ws : List Nat} (hs : Hs H R) (hv : Arr H v 1 ws.length (u64s ws)) (hl : ws.length = h * wds w) (hb : ∀ n ∈ ws, n < 18446744073709551616) (hd : 1 ≤ w ∧ 1 ≤ h ∧ w * h ≤ 1048576)
    (hQ : ∀ H', Hs H' R → Same (fun _ => False) H H' → Q (.ret (.int .i64 (cnt2 w (pixOf w ws) h : Nat))) H') : Call P 81 [.agg [.int .i64 w, .int .i64 h, v]] H Q := by
  obtain ⟨z1, z2, z3⟩ := hd
  have z4 : w ≤ 1048576 := by have := Nat.le_mul_of_pos_right w (show 0 < h by omega); omega
  have z5 : h ≤ 1048576 := by have := Nat.le_mul_of_pos_left h (show 0 < w by omega); omega
  have kw := wds_le z3 z1
  refine call_of hp.h_burinref0_Count rfl ?_
  have h1 := hs.alloc (l := [.int .i64 w, .int .i64 h, v])
  have hn1 : H.next < (H.new (.cells [.int .i64 w, .int .i64 h, v] true)).next := h1.celt
  have s1 : Same (fun _ => False) H (H.new (.cells [.int .i64 w, .int .i64 h, v] true)) := Same.new _ _ _
  simp -implicitDefEqProofs -dsimp (disch := omega) only [go_sem, dec_t, dec_f, ]
  generalize H.new (.cells [.int .i64 w, .int .i64 h, v] true) = H1 at h1 s1 hn1 ⊢
  generalize hbb : H.next = b at h1 hn1 ⊢
  have sT : ∀ {H'}, Same (fun b' => b' = b) H1 H' → Same (fun _ => False) H H' := fun s2 => s1.trans s2 fun x hx e => by have : x = b := e; omega
  refine loop_inv (CoI H1 b w h v ws R) ?_ h _ _ ⟨0, by omega, by omega, rfl, h1, Same.refl _ _⟩
  rintro k fr H2 ⟨y, hk, hy, rfl, h2, s2⟩
  generalize hK : rnd (CoI H1 b w h v ws R) k = K
  have hc2 := h2.cel
  by_cases hyh : y < h
  · simp -implicitDefEqProofs -dsimp (disch := omega) only [go_sem, dec_t, dec_f, burinref0_Count_l0, rd_s hc2]
    refine loop_inv (CoJ H1 b w h v ws R y) ?_ w _ _ ⟨0, by omega, by omega, rfl, h2, s2⟩
    rintro k2 fr2 H3 ⟨x, hk2, hx, rfl, h3, s3⟩
    generalize hK2 : rnd (CoJ H1 b w h v ws R y) k2 = K2
    have hc3 := h3.cel
    by_cases hxw : x < w
    · simp -implicitDefEqProofs -dsimp (disch := omega) only [go_sem, dec_t, dec_f, burinref0_Count_l1, rd_s hc3, rd_m hc3]
      refine getR_ct hp h3 (hv.same (sT s3) fun _ _ h => h) hl hb ⟨z1, z4, kw⟩ fun H4 h4 s4 => ?_
      have hcc := cnt2_le w (pixOf w ws) y
      have hc1 := cntF_le (fun i => pixOf w ws i y) x
      have hyw : y * w ≤ h * w := Nat.mul_le_mul_right _ (by omega)
      rw [Nat.mul_comm h w] at hyw
      have hv2 : getV w h (pixOf w ws) x y = (pixOf w ws x y).toNat := by unfold getV; rw [if_pos (by omega), Int.toNat_natCast, Int.toNat_natCast]
      rw [hv2]
      have hbl := Bool.toNat_le (pixOf w ws x y)
      have e5 : ((cnt2 w (pixOf w ws) y + cntF (fun i => pixOf w ws i y) x : Nat) : Int) + (((pixOf w ws x y).toNat : Nat) : Int) = ((cnt2 w (pixOf w ws) y + cntF (fun i => pixOf w ws i y) (x + 1) : Nat) : Int) := by
        rw [cntF]; omega
      simp -implicitDefEqProofs -dsimp (disch := omega) only [go_sem, dec_t, dec_f, e5, w64, cadd1]
      subst hK2
      exact rnd_n (w - (x + 1)) (by omega) ⟨x + 1, rfl, by omega, rfl, h4, s3.trans s4 fun _ _ h => h.elim⟩
    · obtain rfl : x = w := by omega
      simp -implicitDefEqProofs -dsimp (disch := omega) only [go_sem, dec_t, dec_f, burinref0_Count_l1, rd_s hc3]
      subst hK2
      simp -implicitDefEqProofs -dsimp (disch := omega) only [go_sem, dec_t, dec_f, w64, cadd1]
      subst hK
      exact rnd_n (h - (y + 1)) (by omega) ⟨y + 1, rfl, by omega, rfl, h3, s3⟩
  · obtain rfl : y = h := by omega
    simp -implicitDefEqProofs -dsimp (disch := omega) only [go_sem, dec_t, dec_f, burinref0_Count_l0, rd_s hc2]
    subst hK
    simp -implicitDefEqProofs -dsimp (disch := omega) only [go_sem, dec_t, dec_f, ]
    exact hQ H2 h2.tail (sT s2)
theorem cnt2_congr {w h : Nat} {p q : Nat → Nat → Bool} (e : ∀ x y, x < w → y < h → p x y = q x y) : cnt2 w p h = cnt2 w q h := sumN_congr fun y hy => cntF_congr fun x hx => e x y hx hy
theorem countB_ct (hp : HasRz P) {v : V} {w h : Nat} {p : Nat → Nat → Bool} (hs : Hs H (BmA v w h p :: R))
    (hQ : ∀ H', Hs H' (BmA v w h p :: R) → Same (fun _ => False) H H' → Q (.ret (.int .i64 (cnt2 w p h : Nat))) H') : Call P 81 [.agg [.int .i64 w, .int .i64 h, v]] H Q := by
  obtain ⟨z1, z2, z3, z4, z5⟩ := bmSz hs
  obtain ⟨b, k⟩ := bmV hs
  refine countR_ct hp hs k.arr (Wds_length _ _ _) (Wds_lt _ _ _) ⟨z1, z2, z3⟩ fun H' h' s' => ?_
  rw [cnt2_congr (q := p) fun x y hx hy => pixOf_Wds p hx hy]
  exact hQ H' h' s'
end
end Go.Ab
/- The statements' own helpers: wakes, lists written over, same. Conditions: none. -/
namespace Go.Ab

structure HasL2 (P : Prog) : Prop where
  bm : HasBm P
  rz : HasRz P
  law : HasL2h P
  kit : HasKit2 P
  within : P 29 = some burinkit_Within
instance (n : Int) : Decidable (i64r n) := by unfold i64r; infer_instance
section
variable {P : Prog} {H : Heap} {R : List As} {Q : Out → Heap → Prop}

theorem wakes_ct (hq : HasL2 P) (hs : Hs H R) (hQ : ∀ H', Q (.ret (.bool true)) H') : Call P 99 [] H Q := by
  have hp := hq.bm
  have hz := hq.rz
  refine call_of hq.law.h_burinlaw2_wakes rfl ?_
  simp -implicitDefEqProofs -dsimp (disch := omega) only [go_sem, dec_t, dec_f, ]
  refine new_ct hp hs (by omega) (by omega) (fun k => absurd (show sizeOk 4 1 by decide) k) fun _ m H1 h1 _ => ?_
  simp -implicitDefEqProofs -dsimp (disch := omega) only [go_sem, dec_t, dec_f, ]
  refine set_ct hp h1 fun H2 h2 => ?_
  rw [show setR (Int.toNat 4) (Int.toNat 1) 0 0 1 = 0 by decide]
  simp -implicitDefEqProofs -dsimp (disch := omega) only [go_sem, dec_t, dec_f, ]
  refine set_ct hp h2 fun H3 h3 => ?_
  rw [show setR (Int.toNat 4) (Int.toNat 1) 1 0 1 = 0 by decide]
  simp -implicitDefEqProofs -dsimp (disch := omega) only [go_sem, dec_t, dec_f, ]
  refine blit_self hp h3 (by decide) (by decide) (by decide) (by decide) (by decide) (by decide) (by decide) fun H4 h4 => ?_
  rw [show blitR 3 1 4 = 0 by decide] at h4 ⊢
  simp -implicitDefEqProofs -dsimp (disch := omega) only [go_sem, dec_t, dec_f, ]
  have h5 := h4.mapc (q := fun i _ => decide (i < 3)) fun x y hx hy => by
    obtain rfl : y = 0 := by have : y < 1 := hy; omega
    rcases (show x = 0 ∨ x = 1 ∨ x = 2 ∨ x = 3 by have : x < 4 := hx; omega) with rfl | rfl | rfl | rfl <;> rfl
  refine count_ct hp h5 ?_
  rw [show cnt2 (Int.toNat 4) (fun i _ => decide (i < 3)) (Int.toNat 1) = 3 by decide]
  simp -implicitDefEqProofs -dsimp (disch := omega) only [go_sem, dec_t, dec_f, ]
  refine get_ct hp h5 ?_
  rw [show getV (Int.toNat 4) (Int.toNat 1) (fun i _ => decide (i < 3)) 2 0 = 1 by decide]
  simp -implicitDefEqProofs -dsimp (disch := omega) only [go_sem, dec_t, dec_f, ]
  refine get_ct hp h5 ?_
  rw [show getV (Int.toNat 4) (Int.toNat 1) (fun i _ => decide (i < 3)) 3 0 = 0 by decide]
  simp -implicitDefEqProofs -dsimp (disch := omega) only [go_sem, dec_t, dec_f, ]
  refine plain_ct hp h5 fun v H6 h6 _ => ?_
  have g7 := h6.alloc (l := u64s [16140901064495857664])
  have ha := h6.own.arr.same (Same.new (fun _ => False) H6 (.cells (u64s [16140901064495857664]) true)) fun _ _ h => h
  have hb : Arr (H6.new (.cells (u64s [16140901064495857664]) true)) (.sl (some (H6.next, 0)) 1 1 1) 1 [16140901064495857664].length (u64s [16140901064495857664]) := Or.inr ⟨H6.next, 0, 1, _, true, rfl, by simp [get_new]; rfl, by simp [u64s], by simp [u64s], Nat.le_refl _, by simp [next_new]⟩
  simp -implicitDefEqProofs -dsimp (disch := omega) only [go_sem, dec_t, dec_f, ]
  refine eqb_ct hz g7 ha hb (by simp [Wds_length]; decide) fun H8 h8 _ => ?_
  rw [show decide (((4 : Nat) : Int) = 4 ∧ ((1 : Nat) : Int) = 1 ∧ Wds (Int.toNat 4) (Int.toNat 1) (fun i _ => decide (i < 3)) = [16140901064495857664]) = true by decide +kernel]
  simp -implicitDefEqProofs -dsimp (disch := omega) only [go_sem, dec_t, dec_f, ]
  exact hQ H8

def OwI (x : V) (n : Nat) (R : List As) (m : Nat) (fr : Fr) (H : Heap) : Prop :=
  ∃ (i : Nat) (ws : List Nat), m = n - i ∧ i ≤ n ∧ ws.length = n ∧ fr = ⟨[(0, x), (2, .int .i64 (i : Nat))], []⟩ ∧ Hs H (Lst x 1 n (u64s ws) :: R)
theorem overw_ct (hq : HasL2 P) {x : V} {ws : List Nat} (hs : Hs H (Lst x 1 ws.length (u64s ws) :: R)) (hl : ws.length ≤ 1099511627776) (hQ : ∀ H', Hs H' R → Q (.ret (.tup [])) H') : Call P 97 [x] H Q := by
  obtain ⟨a, c, e', rfl⟩ := hs.own.arr.shape
  refine call_of hq.kit.h_burinkit_OverWords rfl ?_
  simp -implicitDefEqProofs -dsimp (disch := omega) only [go_sem, dec_t, dec_f, ]
  refine loop_inv (OwI _ ws.length R) ?_ ws.length _ _ ⟨0, ws, by omega, by omega, rfl, rfl, hs⟩
  rintro k fr H1 ⟨i, ws1, hk, hi, hwl, rfl, h1⟩
  generalize hK : rnd (OwI (.sl a ws.length c e') ws.length R) k = K
  by_cases hin : i < ws.length
  · obtain ⟨b, e, hb, hw, ho, hsm⟩ := wr_own h1.own (i := i) (k := 0) hin (vs := [.int .u64 23130]) (by simp) (by decide)
    cases e
    have h2 : Hs (H1.put b (.cells (over (u64s ws1) (i * 1 + 0) [.int .u64 23130]) true)) (Lst (.sl (some (b, 0)) ws.length ws.length 1) 1 ws.length (u64s (ws1.set i 23130)) :: R) := by
      refine h1.lst' hsm ?_ fun b hb => Or.inl hb
      have e : over (u64s ws1) (i * 1 + 0) [.int .u64 23130] = u64s (ws1.set i 23130) := by
        rw [Nat.mul_one, Nat.add_zero, over_one (by simp [u64s]; omega)]; simp [u64s, List.map_set]
      rw [e] at ho ⊢; exact ho
    rw [Nat.mul_one, Nat.add_zero] at hw h2
    simp -implicitDefEqProofs -dsimp (disch := omega) only [go_sem, dec_t, dec_f, burinkit_OverWords_l0, Int.toNat_natCast, Nat.mul_one, hw, w64, cadd1]
    subst hK
    exact rnd_n (ws.length - (i + 1)) (by omega) ⟨i + 1, _, rfl, by omega, by rw [List.length_set]; exact hwl, rfl, h2⟩
  · obtain rfl : i = ws.length := by omega
    simp -implicitDefEqProofs -dsimp (disch := omega) only [go_sem, dec_t, dec_f, burinkit_OverWords_l0]
    subst hK
    obtain ⟨v', H2, ha, ho, hsm, hf⟩ := app_one h1.own (M := [.int .u64 1, .int .u64 2]) (m := 2) (eb := 8) rfl (by decide) (by omega) (by omega)
    have h2 := h1.lst' hsm ho hf
    obtain ⟨b, e, hb, hw, ho2, hsm2⟩ := wr_own h2.own (i := ws.length) (k := 0) (by omega) (vs := [.int .u64 23130]) (by simp) (by decide)
    cases e
    rw [Nat.mul_one, Nat.add_zero] at hw
    simp -implicitDefEqProofs -dsimp (disch := omega) only [go_sem, dec_t, dec_f, ha, Int.toNat_natCast, Nat.mul_one, hw]
    have h3 := h2.lst' hsm2 ho2 fun _ h => Or.inl h
    rw [Nat.mul_one] at h3
    exact hQ _ h3.tail
theorem same_ct (hq : HasL2 P) {m w h : Nat} {p : Nat → Nat → Bool} (hs : Hs H (MapA m w h p :: R)) {w2 h2 : Int} {v2 : V} {cs : List Nat} (hy : ∀ H', Hs H' R → Arr H' v2 1 cs.length (u64s cs))
    (hQ : ∀ H', Hs H' (MapA m w h p :: R) → Q (.ret (.bool (decide ((w : Int) = w2 ∧ (h : Int) = h2 ∧ Wds w h p = cs)))) H') : Call P 101 [.ptr (some (m, 0)), .agg [.int .i64 w2, .int .i64 h2, v2]] H Q := by
  obtain ⟨z1, z2, z3, z4, z5⟩ := mapSz hs
  have kw := wds_le z3 z1
  obtain ⟨a2, c2, e2, rfl⟩ := (hy H hs.tail).shape
  refine call_of hq.law.h_burinlaw2_same rfl ?_
  have g1 := hs.alloc (l := [.int .i64 w2, .int .i64 h2, .sl a2 cs.length c2 e2])
  simp -implicitDefEqProofs -dsimp (disch := omega) only [go_sem, dec_t, dec_f, ]
  generalize H.new (.cells [.int .i64 w2, .int .i64 h2, .sl a2 cs.length c2 e2] true) = H1 at *
  generalize H.next = bx at *
  refine plain_ct hq.bm g1.p1 fun v H2 k2 _ => ?_
  obtain ⟨a3, c3, e3, hv3⟩ := k2.own.arr.shape
  subst hv3
  have g3 := k2.alloc (l := [.int .i64 w, .int .i64 h, .sl a3 (Wds w h p).length c3 e3])
  simp -implicitDefEqProofs -dsimp (disch := omega) only [go_sem, dec_t, dec_f, ]
  generalize H2.new (.cells [.int .i64 w, .int .i64 h, .sl a3 (Wds w h p).length c3 e3] true) = H3 at *
  generalize H2.next = bp at *
  refine size_ct hq.bm g3.p2 ?_
  have hc1 := g3.cel
  have hc2 := g3.p3.cel
  simp -implicitDefEqProofs -dsimp (disch := omega) only [go_sem, dec_t, dec_f, rd_m hc1, rd_m hc2]
  refine eqb_ct hq.rz g3 g3.p1.own.arr (hy _ g3.tail.tail.tail.tail) (by rw [Wds_length]; omega) fun H4 g4 _ => ?_
  have hc1 := g4.cel
  have hc2 := g4.p3.cel
  have fin : ∀ b : Bool, b = decide ((w : Int) = w2 ∧ (h : Int) = h2 ∧ Wds w h p = cs) → ∀ H5, Hs H5 (MapA m w h p :: Cel bx [.int .i64 w2, .int .i64 h2, .sl a2 cs.length c2 e2] :: R) → Q (.ret (.bool b)) H5 := fun b hb H5 g5 => by rw [hb]; exact hQ H5 g5.p1.tail
  by_cases d1 : (w : Int) = w2
  · by_cases d2 : (h : Int) = h2
    · generalize hd : decide ((w : Int) = w2 ∧ (h : Int) = h2 ∧ Wds w h p = cs) = bb at fin
      cases bb <;>
      · simp -implicitDefEqProofs -dsimp (disch := omega) only [go_sem, dec_t, dec_f, rd_s hc1, rd_s hc2]
        refine overw_ct hq g4.p1 (by rw [Wds_length]; omega) fun H5 g5 => ?_
        simp -implicitDefEqProofs -dsimp (disch := omega) only [go_sem, dec_t, dec_f, ]
        exact fin _ rfl H5 g5.tail
    · have fin := fin _ (decide_eq_false fun e => d2 e.2.1).symm
      rw [decide_eq_false fun e => d2 e.2.1]
      simp -implicitDefEqProofs -dsimp (disch := omega) only [go_sem, dec_t, dec_f, rd_s hc1, rd_s hc2]
      refine overw_ct hq g4.p1 (by rw [Wds_length]; omega) fun H5 g5 => ?_
      simp -implicitDefEqProofs -dsimp (disch := omega) only [go_sem, dec_t, dec_f, ]
      exact fin H5 g5.tail
  · have fin := fin _ (decide_eq_false fun e => d1 e.1).symm
    rw [decide_eq_false fun e => d1 e.1]
    simp -implicitDefEqProofs -dsimp (disch := omega) only [go_sem, dec_t, dec_f, rd_s hc1, rd_s hc2]
    refine overw_ct hq g4.p1 (by rw [Wds_length]; omega) fun H5 g5 => ?_
    simp -implicitDefEqProofs -dsimp (disch := omega) only [go_sem, dec_t, dec_f, ]
    exact fin H5 g5.tail

def bigN (lens : List Nat) (n : Nat) : Nat := sumN (fun i => 64 * lens.getD i 0 + 64) n
theorem bigN_mono {lens : List Nat} {m n : Nat} (h : m ≤ n) : bigN lens m ≤ bigN lens n := by
  obtain ⟨d, rfl⟩ := Nat.exists_eq_add_of_le h
  unfold bigN; rw [sumN_add]; omega
def SmI (H : Heap) (x : V) (lens : List Nat) (most : Nat) (m : Nat) (fr : Fr) (H' : Heap) : Prop :=
  ∃ i : Nat, m = lens.length - i ∧ i ≤ lens.length ∧ bigN lens i ≤ most ∧ fr = ⟨[(0, x), (1, .int .i64 most), (5, .int .i64 (bigN lens i : Nat)), (6, .int .i64 i)], []⟩ ∧ H = H'
theorem small_ct (hq : HasL2 P) {b c : Nat} {lens : List Nat} {most : Nat} (hr : ∀ i, i < lens.length → ∃ a c e, rd H none b (i * 3 + 2) = some (.sl a (lens.getD i 0) c e)) (hl : ∀ i, i < lens.length → lens.getD i 0 ≤ 140737488355328) (hn : lens.length ≤ 1000000) (hm : most ≤ 1000000000)
    (hQ : Q (.ret (.bool (decide (bigN lens lens.length ≤ most)))) H) : Call P 98 [.sl (some (b, 0)) lens.length c 3, .int .i64 most] H Q := by
  refine call_of hq.kit.h_burinkit_Small rfl ?_
  simp -implicitDefEqProofs -dsimp (disch := omega) only [go_sem, dec_t, dec_f, ]
  refine loop_inv (SmI H _ lens most) ?_ lens.length _ _ ⟨0, by omega, by omega, Nat.zero_le _, rfl, rfl⟩
  rintro k fr H1 ⟨i, hk, hi, hb, rfl, rfl⟩
  generalize hK : rnd (SmI H (.sl (some (b, 0)) lens.length c 3) lens most) k = K
  by_cases hin : i < lens.length
  · obtain ⟨a1, c1, e1, hrd⟩ := hr i hin
    have hll := hl i hin
    have hs : bigN lens (i + 1) = bigN lens i + (64 * lens.getD i 0 + 64) := rfl
    have e2 : ((bigN lens i : Nat) : Int) + 64 * ((lens.getD i 0 : Nat) : Int) + 64 = ((bigN lens (i + 1) : Nat) : Int) := by omega
    by_cases hbig : bigN lens (i + 1) ≤ most
    · simp -implicitDefEqProofs -dsimp (disch := omega) only [go_sem, dec_t, dec_f, burinkit_Small_l0, Int.toNat_natCast, hrd, w64, e2, cadd1]
      subst hK
      exact rnd_n (lens.length - (i + 1)) (by omega) ⟨i + 1, rfl, by omega, hbig, rfl, rfl⟩
    · have hno := bigN_mono (lens := lens) (show i + 1 ≤ lens.length by omega)
      rw [decide_eq_false (by omega)] at hQ
      simp -implicitDefEqProofs -dsimp (disch := omega) only [go_sem, dec_t, dec_f, burinkit_Small_l0, Int.toNat_natCast, hrd, w64, e2]
      subst hK
      simp -implicitDefEqProofs -dsimp (disch := omega) only [go_sem, dec_t, dec_f, ]
      exact hQ
  · obtain rfl : i = lens.length := by omega
    rw [decide_eq_true hb] at hQ
    simp -implicitDefEqProofs -dsimp (disch := omega) only [go_sem, dec_t, dec_f, burinkit_Small_l0]
    subst hK
    simp -implicitDefEqProofs -dsimp (disch := omega) only [go_sem, dec_t, dec_f, ]
    exact hQ
end
end Go.Ab
