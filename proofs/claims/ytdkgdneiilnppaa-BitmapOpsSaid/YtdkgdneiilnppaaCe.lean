/- Maps: made, copied, asked, set pixel by pixel. Conditions: none. -/
import Derived.Test.YtdkgdneiilnppaaCd
set_option linter.all false
namespace Go.Ab

/-- A word of a bitmap is another one. -/
theorem Wds_set {w h : Nat} {p q : Nat → Nat → Bool} {y i n : Nat} (hy : y < h) (hi : i < wds w) (hn : n < 18446744073709551616) (hk : ∀ k, k < 64 → wb n k = (decide (64 * i + k < w) && q (64 * i + k) y))
    (hq : ∀ x' y', x' < w → y' < h → (y' ≠ y ∨ x' / 64 ≠ i) → q x' y' = p x' y') : (Wds w h p).set (y * wds w + i) n = Wds w h q := by
  have hwd : 0 < wds w := by omega
  refine List.ext_getElem (by simp [Wds_length]) fun j h1 h2 => ?_
  rw [Wds_length] at h2
  have hjy : j / wds w < h := Nat.div_lt_of_lt_mul (by rw [Nat.mul_comm]; exact h2)
  have hji : j % wds w < wds w := Nat.mod_lt _ hwd
  have hj : j / wds w * wds w + j % wds w = j := by rw [Nat.mul_comm]; exact Nat.div_add_mod j (wds w)
  have ep := Wds_at (p := p) hjy hji
  have eq := Wds_at (p := q) hjy hji
  rw [hj, List.getElem?_eq_getElem (by rw [Wds_length]; exact h2)] at ep eq
  have ep := Option.some.inj ep
  have eq := Option.some.inj eq
  rw [List.getElem_set, eq]
  by_cases hx : y * wds w + i = j
  · rw [if_pos hx]
    have e1 : j / wds w = y := by rw [← hx, Nat.mul_comm, Nat.mul_add_div hwd, Nat.div_eq_of_lt hi, Nat.add_zero]
    have e2 : j % wds w = i := by rw [← hx, Nat.mul_comm, Nat.mul_add_mod, Nat.mod_eq_of_lt hi]
    rw [e1, e2]
    exact wb_ext hn (word_lt _ _ _ _) fun k hk' => by rw [hk k hk', wb_word hk']
  · rw [if_neg hx, ep]
    refine mkw_congr fun k hk' => ?_
    by_cases hw : 64 * (j % wds w) + k < w
    · rw [hq _ _ hw hjy]
      by_cases e : j / wds w = y
      · refine Or.inr fun e2 => hx ?_
        have e3 : (64 * (j % wds w) + k) / 64 = j % wds w := by omega
        rw [← hj, e, ← e2, e3]
      · exact Or.inl e
    · rw [decide_eq_false hw]; rfl

def updP (p : Nat → Nat → Bool) (x y : Nat) (b : Bool) : Nat → Nat → Bool := fun i j => if i = x ∧ j = y then b else p i j

section
variable {P : Prog} {H : Heap} {R : List As} {Q : Out → Heap → Prop} {m w h : Nat} {p : Nat → Nat → Bool}

theorem word_at {y i : Nat} (hy : y < h) (hi : i < wds w) : y * wds w + i < h * wds w := by
  have : (y + 1) * wds w ≤ h * wds w := Nat.mul_le_mul_right _ hy
  rw [Nat.add_mul, Nat.one_mul] at this; omega
theorem MapI.row {v : V} (k : MapI H m v w h p) : ∃ b, v = .sl (some (b, 0)) (h * wds w) (h * wds w) 1 ∧ b ≠ m ∧ H.get b = .cells (u64s (Wds w h p)) true ∧ b < H.next := by
  have hpos : 0 < h * wds w := Nat.mul_pos (by have := k.h1; omega) (by have := k.w1; unfold wds; omega)
  rcases k.own with ⟨_, h2, _⟩ | ⟨b, h1, h2, h3, h4⟩
  · rw [Wds_length] at h2; omega
  · rw [Wds_length] at h1
    exact ⟨b, h1, fun e => k.apart (by rw [h1, ← e]; exact rfl), h2, h4⟩
/-- What is read of a map, what may be written. -/
structure MapV (H : Heap) (m b w h : Nat) (p : Nat → Nat → Bool) (R : List As) : Prop where
  cell : H.get m = .cells [.int .i64 w, .int .i64 h, .int .i64 (wds w), .sl (some (b, 0)) (h * wds w) (h * wds w) 1] true
  row : H.get b = .cells (u64s (Wds w h p)) true
  ne : b ≠ m
  rd : ∀ y i, y < h → i < wds w → rd H none b (y * wds w + i) = some (.int .u64 (word w p y i : Nat))
  wr : ∀ y i n q, y < h → i < wds w → n < 18446744073709551616 → (∀ k, k < 64 → wb n k = (decide (64 * i + k < w) && q (64 * i + k) y)) → (∀ x' y', x' < w → y' < h → (y' ≠ y ∨ x' / 64 ≠ i) → q x' y' = p x' y') →
    ∃ H', wr H b (y * wds w + i) [.int .u64 (n : Nat)] = some H' ∧ Hs H' (MapA m w h q :: R) ∧ H'.get m = H.get m
  w1 : 1 ≤ w
  h1 : 1 ≤ h
  area : w * h ≤ 1048576
  words : h * wds w ≤ 1048576
theorem mapV (hs : Hs H (MapA m w h p :: R)) : ∃ b, MapV H m b w h p R := by
  obtain ⟨F, v, hF, k⟩ := hs.head
  obtain ⟨b, hv, hne, hg, hlt⟩ := k.row
  refine ⟨b, hv ▸ k.cell, hg, hne, fun y i hy hi => ?_, fun y i n q hy hi hn h1 h2 => ?_, k.w1, k.h1, k.area, wds_le k.area k.w1⟩
  · rw [rd_s hg]
    simp only [u64s, List.getElem?_map, Wds_at hy hi, Option.map_some]
  · have hidx := word_at hy hi
    refine ⟨H.put b (.cells (u64s (Wds w h q)) true), ?_, ?_, by rw [get_put, if_neg (Ne.symm hne)]⟩
    · rw [wr_s hg]
      have e : over (u64s (Wds w h p)) (y * wds w + i) [.int .u64 (n : Nat)] = u64s (Wds w h q) := by
        rw [over_one (by simp [u64s, Wds_length]; omega), ← Wds_set hy hi hn h1 h2]
        simp [u64s, List.map_set]
      rw [e, if_pos (by simp [u64s, Wds_length]; omega)]; rfl
    · refine hs.step fun F ⟨v', k1, k2⟩ => ?_
      have ev : v' = v := by have := k2.cell; rw [k.cell] at this; cases this; rfl
      subst ev
      refine ⟨fun x => x = b, F, Same.put rfl, fun x _ hx => (k1 x).2 (Or.inr (by rw [hv, show x = b from hx]; exact rfl)), ⟨v', k1, ⟨by rw [get_put, if_neg (Ne.symm hne)]; exact k2.cell, ?_, k2.lt, k2.apart, k2.w1, k2.h1, k2.area⟩⟩, fun _ hx => Or.inl hx⟩
      rw [Wds_length]
      exact Or.inr ⟨b, hv, by simp [get_put], by simp [u64s, Wds_length], hlt⟩

theorem Wds_white (w h : Nat) : Wds w h (fun _ _ => false) = List.replicate (h * wds w) 0 := by
  refine List.ext_getElem (by simp [Wds_length]) fun j h1 h2 => ?_
  simp only [Wds, List.getElem_map, List.getElem_replicate]
  exact wb_ext (word_lt _ _ _ _) (by omega) fun k hk => by rw [wb_word hk, wb_zero]; simp
theorem reps_u64 : ∀ n, reps [.int .u64 0] n = u64s (List.replicate n 0)
  | 0 => rfl
  | n + 1 => by rw [reps, reps_u64 n, List.replicate_succ]; rfl
theorem u64s_one (ns : List Nat) : (u64s ns).all one = true := by simp [u64s, one]

theorem clone_ct (hp : HasBm P) {v : V} {ws : List Nat} (hs : Hs H R) (hv : Arr H v 1 ws.length (u64s ws)) (hl : ws.length ≤ 17592186040000) (hQ : ∀ v' H', Hs H' (Lst v' 1 ws.length (u64s ws) :: R) → Same (fun _ => False) H H' → Q (.ret v') H') : Call P 43 [v] H Q := by
  refine call_of hp.h_slices_Clone_uint64_uint64 rfl ?_
  rcases hv with ⟨rfl, hn, hL⟩ | ⟨b, o, c, l, wr, rfl, hg, h1, h2, h3, h4⟩
  · simp -implicitDefEqProofs -dsimp (disch := omega) only [go_sem, Nat.reduceEqDiff, ↓reduceIte, Nat.reduceAdd, Nat.reduceMul, Nat.reduceSub, Nat.reduceLT, Nat.reduceLeDiff, Int.reduceLT, Int.reduceLE, Int.reduceEq, Int.reduceNeg, Int.reduceAdd, Int.reduceMul, Int.reduceSub, Int.reduceToNat, reduceCtorEq, dec_t, dec_f, Option.isNone_none]
    obtain rfl : ws = [] := List.eq_nil_of_length_eq_zero hn
    exact hQ _ H (hs.lst (Same.refl _ _) (own_nil _ _) fun _ h => h.elim) (Same.refl _ _)
  · have hv : Arr H (.sl (some (b, o)) ws.length c 1) 1 ws.length (u64s ws) := Or.inr ⟨b, o, c, l, wr, rfl, hg, h1, h2, h3, h4⟩
    have s1 : Same (fun _ => False) H (H.new (.cells [] true)) := Same.new _ _ _
    obtain ⟨v', H', a, o', s', f'⟩ := app_own (H := H.new (.cells [] true)) (v := .sl (some (H.next, 0)) 0 0 1) (e := 1) (eb := 8) (n := 0) (L := []) (Or.inr ⟨H.next, rfl, by simp [get_new], rfl, by simp [next_new]⟩)
      (firsts_arr (hv.same s1 fun _ _ h => h)) (by simp [u64s]) (u64s_one ws) (by omega) (by omega)
    simp -implicitDefEqProofs -dsimp (disch := omega) only [go_sem, Nat.reduceEqDiff, ↓reduceIte, Nat.reduceAdd, Nat.reduceMul, Nat.reduceSub, Nat.reduceLT, Nat.reduceLeDiff, Int.reduceLT, Int.reduceLE, Int.reduceEq, Int.reduceNeg, Int.reduceAdd, Int.reduceMul, Int.reduceSub, Int.reduceToNat, reduceCtorEq, dec_t, dec_f, a]
    rw [Nat.zero_add, List.nil_append] at o'
    have s2 : Same (fun _ => False) H H' := s1.trans s' fun b hb h => by have : b = H.next := h; omega
    exact hQ v' H' (hs.lst s2 o' fun x hx => by rcases f' x hx with h | h; have : x = H.next := h; omega; simp only [next_new] at h; omega) s2

theorem new_ct (hp : HasBm P) {w h : Int} (hs : Hs H R) (hw : -9223372036854775808 ≤ w ∧ w ≤ 9223372036854775807) (hh : -9223372036854775808 ≤ h ∧ h ≤ 9223372036854775807)
    (h1 : ¬ sizeOk w h → Q (.ret (.tup [.ptr none, .int .i64 20])) H) (h2 : sizeOk w h → ∀ m H', Hs H' (MapA m w.toNat h.toNat (fun _ _ => false) :: R) → Same (fun _ => False) H H' → Q (.ret (.tup [.ptr (some (m, 0)), .int .i64 0])) H') : Call P 42 [.int .i64 w, .int .i64 h] H Q := by
  refine call_of hp.h_bitmap_New rfl ?_
  simp -implicitDefEqProofs -dsimp (disch := omega) only [go_sem, Nat.reduceEqDiff, ↓reduceIte, Nat.reduceAdd, Nat.reduceMul, Nat.reduceSub, Nat.reduceLT, Nat.reduceLeDiff, Int.reduceLT, Int.reduceLE, Int.reduceEq, Int.reduceNeg, Int.reduceAdd, Int.reduceMul, Int.reduceSub, Int.reduceToNat, reduceCtorEq, dec_t, dec_f, ]
  refine sized_ct hp hw hh ?_
  by_cases k : sizeOk w h
  · rw [decide_eq_true k]
    have h2 := h2 k
    have hle := sizeOk_le k
    obtain ⟨wn, rfl⟩ : ∃ wn : Nat, w = wn := ⟨w.toNat, by have := k.1; omega⟩
    obtain ⟨hn, rfl⟩ : ∃ hn : Nat, h = hn := ⟨h.toNat, by have := k.2.1; omega⟩
    have k1 : 1 ≤ wn := by have := k.1; omega
    have k2 : 1 ≤ hn := by have := k.2.1; omega
    have k3 : wn * hn ≤ 1048576 := by have := k.2.2; rw [← Int.natCast_mul] at this; omega
    have kw := wds_le k3 k1
    have ew : ((wn : Int) + 63) / 64 = ((wds wn : Nat) : Int) := by unfold wds; omega
    have em : (hn : Int) * ((wds wn : Nat) : Int) = ((hn * wds wn : Nat) : Int) := (Int.natCast_mul _ _).symm
    simp -implicitDefEqProofs -dsimp (disch := omega) only [go_sem, Nat.reduceEqDiff, ↓reduceIte, Nat.reduceAdd, Nat.reduceMul, Nat.reduceSub, Nat.reduceLT, Nat.reduceLeDiff, Int.reduceLT, Int.reduceLE, Int.reduceEq, Int.reduceNeg, Int.reduceAdd, Int.reduceMul, Int.reduceSub, Int.reduceToNat, reduceCtorEq, dec_t, dec_f, w64, tdivN, ew, em, Int.toNat_natCast, reps_u64]
    rw [Int.toNat_natCast, Int.toNat_natCast] at h2
    refine h2 _ _ ?_ ((Same.new (fun _ => False) _ _).trans (Same.new _ _ _) fun _ _ h => h)
    refine hs.new ((Same.new (fun _ => False) _ _).trans (Same.new _ _ _) fun _ _ h => h) ⟨wf (H.next + 1) (.sl (some (H.next, 0)) (hn * wds wn) (hn * wds wn) 1), ⟨_, fun _ => Iff.rfl, ⟨by simp [get_new, next_new], ?_, by simp [next_new], fun e => by have : H.next + 1 = H.next := e; omega, k1, k2, k3⟩⟩, fun x hx => ?_⟩
    · rw [Wds_length, Wds_white]
      refine Or.inr ⟨H.next, rfl, by simp [get_new, next_new], by simp [u64s], by simp [next_new]; omega⟩
    · rcases hx with h | h
      · omega
      · have : x = H.next := h; omega
  · rw [decide_eq_false k]
    simp -implicitDefEqProofs -dsimp (disch := omega) only [go_sem, Nat.reduceEqDiff, ↓reduceIte, Nat.reduceAdd, Nat.reduceMul, Nat.reduceSub, Nat.reduceLT, Nat.reduceLeDiff, Int.reduceLT, Int.reduceLE, Int.reduceEq, Int.reduceNeg, Int.reduceAdd, Int.reduceMul, Int.reduceSub, Int.reduceToNat, reduceCtorEq, dec_t, dec_f, ]
    exact h1 k

theorem from_ct (hp : HasBm P) {w h : Int} {v : V} {ws : List Nat} (hs : Hs H R) (hv : ∀ {H'}, Same (fun _ => False) H H' → Arr H' v 1 ws.length (u64s ws)) (hl : ∀ n ∈ ws, n < 18446744073709551616) (hw : -9223372036854775808 ≤ w ∧ w ≤ 9223372036854775807) (hh : -9223372036854775808 ≤ h ∧ h ≤ 9223372036854775807)
    (h1 : ¬ mayB w h ws → ∀ H', Hs H' R → Same (fun _ => False) H H' → Q (.ret (.tup [.ptr none, .int .i64 21])) H')
    (h2 : mayB w h ws → ∀ m H', Hs H' (MapA m w.toNat h.toNat (pixOf w.toNat ws) :: R) → Same (fun _ => False) H H' → Q (.ret (.tup [.ptr (some (m, 0)), .int .i64 0])) H') : Call P 44 [.agg [.int .i64 w, .int .i64 h, v]] H Q := by
  obtain ⟨a, c, e', rfl⟩ := (hv (Same.refl _ _)).shape
  refine call_of hp.h_bitmap_From rfl ?_
  have g1 := hs.alloc (l := [.int .i64 w, .int .i64 h, .sl a ws.length c e'])
  have hc1 := g1.cel
  have s1 : Same (fun _ => False) H (H.new (.cells [.int .i64 w, .int .i64 h, .sl a ws.length c e'] true)) := Same.new _ _ _
  simp -implicitDefEqProofs -dsimp (disch := omega) only [go_sem, Nat.reduceEqDiff, ↓reduceIte, Nat.reduceAdd, Nat.reduceMul, Nat.reduceSub, Nat.reduceLT, Nat.reduceLeDiff, Int.reduceLT, Int.reduceLE, Int.reduceEq, Int.reduceNeg, Int.reduceAdd, Int.reduceMul, Int.reduceSub, Int.reduceToNat, reduceCtorEq, dec_t, dec_f, ]
  generalize H.new (.cells [.int .i64 w, .int .i64 h, .sl a ws.length c e'] true) = H1 at g1 hc1 s1
  generalize hb : H.next = b at g1 hc1
  simp -implicitDefEqProofs -dsimp (disch := omega) only [go_sem, Nat.reduceEqDiff, ↓reduceIte, Nat.reduceAdd, Nat.reduceMul, Nat.reduceSub, Nat.reduceLT, Nat.reduceLeDiff, Int.reduceLT, Int.reduceLE, Int.reduceEq, Int.reduceNeg, Int.reduceAdd, Int.reduceMul, Int.reduceSub, Int.reduceToNat, reduceCtorEq, dec_t, dec_f, rd_m hc1]
  refine check_ct hp g1 (hv s1) hl hw hh fun ok H2 hok g2 s2 => ?_
  have hc2 := g2.cel
  have s12 := s1.trans s2 fun _ _ h => h
  cases ok with
  | false =>
    have hno : ¬ mayB w h ws := fun e => by have := hok.2 e; cases this
    simp -implicitDefEqProofs -dsimp (disch := omega) only [go_sem, Nat.reduceEqDiff, ↓reduceIte, Nat.reduceAdd, Nat.reduceMul, Nat.reduceSub, Nat.reduceLT, Nat.reduceLeDiff, Int.reduceLT, Int.reduceLE, Int.reduceEq, Int.reduceNeg, Int.reduceAdd, Int.reduceMul, Int.reduceSub, Int.reduceToNat, reduceCtorEq, dec_t, dec_f, ]
    exact h1 hno H2 g2.tail s12
  | true =>
    have hmay := hok.1 rfl
    have hle := sizeOk_le hmay.1
    have h2 := h2 hmay
    obtain ⟨wn, rfl⟩ : ∃ wn : Nat, w = wn := ⟨w.toNat, by have := hmay.1.1; omega⟩
    obtain ⟨hn, rfl⟩ : ∃ hn : Nat, h = hn := ⟨h.toNat, by have := hmay.1.2.1; omega⟩
    have k1 : 1 ≤ wn := by have := hmay.1.1; omega
    have k2 : 1 ≤ hn := by have := hmay.1.2.1; omega
    have k3 : wn * hn ≤ 1048576 := by have := hmay.1.2.2; rw [← Int.natCast_mul] at this; omega
    have kw := wds_le k3 k1
    rw [Int.toNat_natCast, Int.toNat_natCast] at h2
    obtain ⟨_, hlen, hpad⟩ := hmay
    rw [Int.toNat_natCast, Int.toNat_natCast] at hlen hpad
    have ew : ((wn : Int) + 63) / 64 = ((wds wn : Nat) : Int) := by unfold wds; omega
    simp -implicitDefEqProofs -dsimp (disch := omega) only [go_sem, Nat.reduceEqDiff, ↓reduceIte, Nat.reduceAdd, Nat.reduceMul, Nat.reduceSub, Nat.reduceLT, Nat.reduceLeDiff, Int.reduceLT, Int.reduceLE, Int.reduceEq, Int.reduceNeg, Int.reduceAdd, Int.reduceMul, Int.reduceSub, Int.reduceToNat, reduceCtorEq, dec_t, dec_f, rd_s hc2, w64, tdivN, ew]
    refine clone_ct hp g2 (hv s12) (by omega) fun v' H3 g3 s3 => ?_
    have hc3 := g3.p1.cel
    obtain ⟨a3, c3, e3, hv3⟩ := g3.own.arr.shape
    subst hv3
    simp -implicitDefEqProofs -dsimp (disch := omega) only [go_sem, Nat.reduceEqDiff, ↓reduceIte, Nat.reduceAdd, Nat.reduceMul, Nat.reduceSub, Nat.reduceLT, Nat.reduceLeDiff, Int.reduceLT, Int.reduceLE, Int.reduceEq, Int.reduceNeg, Int.reduceAdd, Int.reduceMul, Int.reduceSub, Int.reduceToNat, reduceCtorEq, dec_t, dec_f, ]
    refine aft_intro (by simp [rechecks, recheck, fresh, Fr.get, look, step, opd, rd_s hc3]) ?_
    simp -implicitDefEqProofs -dsimp (disch := omega) only [go_sem, Nat.reduceEqDiff, ↓reduceIte, Nat.reduceAdd, Nat.reduceMul, Nat.reduceSub, Nat.reduceLT, Nat.reduceLeDiff, Int.reduceLT, Int.reduceLE, Int.reduceEq, Int.reduceNeg, Int.reduceAdd, Int.reduceMul, Int.reduceSub, Int.reduceToNat, reduceCtorEq, dec_t, dec_f, ]
    have g4 := g3.alloc (l := [.int .i64 wn, .int .i64 hn, .int .i64 (wds wn), .sl a3 ws.length c3 e3])
    have s4 := (s12.trans s3 fun _ _ h => h).trans (Same.new (fun _ => False) H3 (.cells [.int .i64 wn, .int .i64 hn, .int .i64 (wds wn), .sl a3 ws.length c3 e3] true)) fun _ _ h => h
    refine h2 _ _ ?_ s4
    refine (Hs.merge (g4.p2.tail) fun F G hF hG hd => ?_)
    obtain ⟨f1, f2, f3⟩ := hF
    obtain ⟨o1, o2⟩ := hG
    refine ⟨_, fun x => ⟨fun e => e.imp (f1 x).1 (o1 x).1, fun e => e.imp (f1 x).2 (o1 x).2⟩, ⟨f2, ?_, f3, fun e => hd _ ((o1 _).2 e) ((f1 _).2 rfl), k1, k2, k3⟩⟩
    rw [Wds_pix k1 hlen hpad hl]; exact o2
end
end Go.Ab
