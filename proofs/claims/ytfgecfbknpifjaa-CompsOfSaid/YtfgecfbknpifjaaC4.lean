/- Bitmaps among a law's data. Conditions: none. -/
import Derived.Test.YtfgecfbknpifjaaC3
import Derived.Test.YtfgecfbknpifjaaK5
set_option linter.all false
namespace Go.Ab

abbrev bmTD : TD := .agg [.int .i64, .int .i64, .sl 8 (.int .u64)]
abbrev n8TD : TD := .arr 8 (.int .i64)
abbrev blitTD : TD := .agg [bmTD, bmTD, n8TD]
structure BmO where
  w : Int
  h : Int
  v : V
  ws : List Nat
def BmO.cs (o : BmO) : List V := [.int .i64 o.w, .int .i64 o.h, o.v]
structure BmOk (H : Heap) (o : BmO) : Prop where
  w : i64r o.w
  h : i64r o.h
  arr : Arr H o.v 1 o.ws.length (u64s o.ws)
  lt : ∀ n ∈ o.ws, n < 18446744073709551616
  len : o.ws.length ≤ 17592186044415
theorem BmOk.same {H H' : Heap} {o : BmO} (k : BmOk H o) (s : Same (fun _ => False) H H') : BmOk H' o := ⟨k.w, k.h, k.arr.same s fun _ _ h => h, k.lt, k.len⟩
theorem is_bm {H : Heap} {cs : List V} {x : TD.Ty bmTD} (h : Is H bmTD cs x) : ∃ o : BmO, cs = o.cs ∧ BmOk H o := by
  obtain ⟨a, r, e, ⟨h1, h2⟩, a2, r2, e2, ⟨h3, h4⟩, a3, r3, e3, h5, h6⟩ := h
  obtain ⟨v, ws, k1, k2, k3, k4⟩ := Is.nats (k := .u64) rfl h5
  refine ⟨⟨x.1, x.2.1, v, ws⟩, ?_, h2, h4, k2, fun n hn => ?_, by dsimp only; omega⟩
  · rw [e, e2, e3, h1, h3, k1, show r3 = [] from h6]; rfl
  · have := k3 n hn
    rw [show IntKind.u64.max = 18446744073709551615 by decide] at this
    omega
theorem eight {Pz : Int → Prop} : ∀ (xs : List Int), xs.length = 8 → (∀ z ∈ xs, Pz z) → ∃ a b c d e f g i : Int, xs = [a, b, c, d, e, f, g, i] ∧ Pz a ∧ Pz b ∧ Pz c ∧ Pz d ∧ Pz e ∧ Pz f ∧ Pz g ∧ Pz i
  | [a, b, c, d, e, f, g, i], _, h => ⟨a, b, c, d, e, f, g, i, rfl, h a (by simp), h b (by simp), h c (by simp), h d (by simp), h e (by simp), h f (by simp), h g (by simp), h i (by simp)⟩
theorem is_n8 {H : Heap} {cs : List V} {x : TD.Ty n8TD} (h : Is H n8TD cs x) : ∃ a b c d e f g i : Int, cs = [.int .i64 a, .int .i64 b, .int .i64 c, .int .i64 d, .int .i64 e, .int .i64 f, .int .i64 g, .int .i64 i] ∧
    i64r a ∧ i64r b ∧ i64r c ∧ i64r d ∧ i64r e ∧ i64r f ∧ i64r g ∧ i64r i := by
  obtain ⟨h1, h2⟩ := h
  obtain ⟨h3, h4⟩ := split_ints h1
  obtain ⟨a, b, c, d, e, f, g, i, k1, k2⟩ := eight (Pz := i64r) x h2 h4
  exact ⟨a, b, c, d, e, f, g, i, by rw [h3, k1]; rfl, k2⟩
theorem is_blit {H : Heap} {cs : List V} {x : TD.Ty blitTD} (h : Is H blitTD cs x) : ∃ (d s : BmO) (n1 n2 n3 n4 n5 n6 n7 n8 : Int), cs = d.cs ++ s.cs ++ [.int .i64 n1, .int .i64 n2, .int .i64 n3, .int .i64 n4, .int .i64 n5, .int .i64 n6, .int .i64 n7, .int .i64 n8] ∧ BmOk H d ∧ BmOk H s ∧
    i64r n1 ∧ i64r n2 ∧ i64r n3 ∧ i64r n4 ∧ i64r n5 ∧ i64r n6 ∧ i64r n7 ∧ i64r n8 := by
  obtain ⟨a, r, e, h1, a2, r2, e2, h2, a3, r3, e3, h3, h4⟩ := h
  obtain ⟨d, k1, k2⟩ := is_bm h1
  obtain ⟨s, k3, k4⟩ := is_bm h2
  obtain ⟨n1, n2, n3, n4, n5, n6, n7, n8, k5, k6⟩ := is_n8 h3
  exact ⟨d, s, n1, n2, n3, n4, n5, n6, n7, n8, by rw [e, e2, e3, k1, k3, k5, show r3 = [] from h4]; simp, k2, k4, k6⟩
def bmCells (l : List BmO) : List V := l.flatMap BmO.cs
theorem bmCells_len : ∀ l, (bmCells l).length = l.length * 3
  | [] => rfl
  | o :: l => by rw [bmCells, List.flatMap_cons, List.length_append, show (l.flatMap BmO.cs).length = _ from bmCells_len l]; simp [BmO.cs]; omega
theorem bmCells_at : ∀ {l : List BmO} {i : Nat} (hi : i < l.length), ((bmCells l).drop (i * 3)).take 3 = l[i].cs
  | o :: l, 0, _ => by simp [bmCells, BmO.cs]
  | o :: l, i + 1, hi => by
    have := bmCells_at (l := l) (i := i) (by simpa using hi)
    rw [show (i + 1) * 3 = 3 + i * 3 by omega, ← List.drop_drop]
    simpa [bmCells, BmO.cs] using this
theorem split_bms {H : Heap} : ∀ {xs : List (TD.Ty bmTD)} {L : List V}, Split (Is H bmTD) L xs → ∃ l : List BmO, L = bmCells l ∧ l.length = List.length xs ∧ ∀ o ∈ l, BmOk H o
  | [], _, h => ⟨[], h, rfl, fun _ h => by cases h⟩
  | x :: xs, L, ⟨a, b, e, h1, h2⟩ => by
    obtain ⟨l, h3, h4, h5⟩ := split_bms h2
    obtain ⟨o, k1, k2⟩ := is_bm h1
    refine ⟨o :: l, by rw [e, h3, k1]; rfl, by simp [h4], fun q hq => ?_⟩
    rcases List.mem_cons.1 hq with rfl | hq
    · exact k2
    · exact h5 q hq
theorem is_bms {H : Heap} {cs : List V} {x : TD.Ty (.sl 40 bmTD)} (h : Is H (.sl 40 bmTD) cs x) :
    ∃ (v : V) (l : List BmO), cs = [v] ∧ Arr H v 3 l.length (bmCells l) ∧ (∀ o ∈ l, BmOk H o) ∧ l.length ≤ 140737488351232 := by
  obtain ⟨v, L, h1, h2, h3, h4⟩ := h
  obtain ⟨l, h5, h6, h7⟩ := split_bms h3
  refine ⟨v, l, h1, ?_, h7, by omega⟩
  rw [h6, ← h5]; exact h2
end Go.Ab
/- A law's bitmaps, handed to the functions. Conditions: none. -/
namespace Go.Ab

instance {w h : Nat} {p q : Nat → Nat → Bool} : Decidable (∀ x y, x < w → y < h → p x y = q x y) := decidable_of_iff (Wds w h p = Wds w h q) Wds_eq
def BmO.wn (o : BmO) : Nat := o.w.toNat
def BmO.hn (o : BmO) : Nat := o.h.toNat
def BmO.px (o : BmO) : Nat → Nat → Bool := pixOf o.wn o.ws
structure BmM (o : BmO) : Prop where
  w : o.w = o.wn
  h : o.h = o.hn
  w1 : 1 ≤ o.wn
  h1 : 1 ≤ o.hn
  area : o.wn * o.hn ≤ 1048576
  words : Wds o.wn o.hn o.px = o.ws
  len : o.ws.length = o.hn * wds o.wn
theorem bmM_of {H : Heap} {o : BmO} (k : BmOk H o) (m : mayB o.w o.h o.ws) : BmM o := by
  obtain ⟨⟨m1, m2, m3⟩, m4, m5⟩ := m
  have e1 : o.w = (o.wn : Int) := by unfold BmO.wn; omega
  have e2 : o.h = (o.hn : Int) := by unfold BmO.hn; omega
  have m3 : o.wn * o.hn ≤ 1048576 := by rw [e1, e2, ← Int.natCast_mul] at m3; omega
  exact ⟨e1, e2, by omega, by omega, m3, Wds_pix (by unfold BmO.wn; omega) m4 m5 k.lt, m4⟩

theorem tmodP {n : Int} {k : Nat} (hk : 0 < k) : -(k : Int) < n.tmod k ∧ n.tmod k < k := by
  have h1 : 0 ≤ n % k := Int.emod_nonneg _ (by omega)
  have h2 : n % k < k := Int.emod_lt_of_pos _ (by omega)
  have : n.tmod k = if 0 ≤ n ∨ (k : Int) ∣ n then n % k else n % k - k := by rw [Int.tmod_eq_emod]; simp only [Int.natAbs_natCast]; split <;> simp
  rw [this]
  split
  · omega
  · rename_i h
    have h3 : n % k ≠ 0 := fun e => h (Or.inr (Int.dvd_of_emod_eq_zero e))
    omega
section
variable {P : Prog} {H0 H : Heap} {R : List As} {Q : Out → Heap → Prop} {o : BmO}

theorem mayO (hq : HasL2 P) (k : BmOk H0 o) (hs : Hs H R) (hb : Bas H0 ∈ R) (hQ : ∀ b H', (b = true ↔ mayB o.w o.h o.ws) → Hs H' R → Q (.ret (.bool b)) H') : Call P 76 [.agg [.int .i64 o.w, .int .i64 o.h, o.v]] H Q :=
  may_ct hq.rz hs (k.arr.same (hs.bas hb) fun _ _ h => h) k.lt k.w k.h fun b H' h1 h2 _ => hQ b H' h1 h2
theorem fromO (hq : HasL2 P) (k : BmOk H0 o) (m : mayB o.w o.h o.ws) (hs : Hs H R) (hb : Bas H0 ∈ R) (hQ : ∀ m H', Hs H' (MapA m o.wn o.hn o.px :: R) → Q (.ret (.tup [.ptr (some (m, 0)), .int .i64 0])) H') :
    Call P 44 [.agg [.int .i64 o.w, .int .i64 o.h, o.v]] H Q :=
  from_ct hq.bm hs (fun s => (k.arr.same (hs.bas hb) fun _ _ h => h).same s fun _ _ h => h) k.lt k.w k.h (fun h => absurd m h) fun _ m' H' h' _ => hQ m' H' h'
theorem sameO (hq : HasL2 P) (k : BmOk H0 o) (mm : BmM o) {m : Nat} {p : Nat → Nat → Bool} (hs : Hs H (MapA m o.wn o.hn p :: R)) (hb : Bas H0 ∈ R) (hQ : ∀ H', Hs H' (MapA m o.wn o.hn p :: R) → Q (.ret (.bool (decide (∀ x y, x < o.wn → y < o.hn → p x y = o.px x y)))) H') :
    Call P 101 [.ptr (some (m, 0)), .agg [.int .i64 o.w, .int .i64 o.h, o.v]] H Q := by
  refine same_ct hq hs (fun H' h' => k.arr.same (h'.bas hb) fun _ _ h => h) fun H' h' => ?_
  have e : ((o.wn : Int) = o.w ∧ (o.hn : Int) = o.h ∧ Wds o.wn o.hn p = o.ws) ↔ ∀ x y, x < o.wn → y < o.hn → p x y = o.px x y := by
    constructor
    · rintro ⟨_, _, e⟩
      rw [← mm.words] at e
      exact Wds_eq.1 e
    · intro e
      exact ⟨mm.w.symm, mm.h.symm, by rw [← mm.words]; exact Wds_eq.2 e⟩
  rw [decide_eq_decide.2 e]
  exact hQ H' h'
theorem getO (hq : HasL2 P) (k : BmOk H0 o) (mm : BmM o) (hs : Hs H R) (hb : Bas H0 ∈ R) {x y : Int} (hQ : ∀ H', Hs H' R → Q (.ret (.int .i64 (getV o.wn o.hn o.px x y : Nat))) H') : Call P 78 [.agg [.int .i64 o.w, .int .i64 o.h, o.v], .int .i64 x, .int .i64 y] H Q := by
  have z4 := Nat.le_mul_of_pos_right o.wn (show 0 < o.hn by have := mm.h1; omega)
  have := mm.area
  rw [mm.w, mm.h]
  exact getR_ct hq.rz hs (k.arr.same (hs.bas hb) fun _ _ h => h) mm.len k.lt ⟨mm.w1, by omega, wds_le mm.area mm.w1⟩ fun H' h' _ => hQ H' h'
theorem small2 (hq : HasL2 P) {o2 : BmO} (k : BmOk H0 o) (k2 : BmOk H0 o2) {b c : Nat} (hc : H.get b = .cells [.int .i64 o.w, .int .i64 o.h, o.v, .int .i64 o2.w, .int .i64 o2.h, o2.v] true) (hQ : Q (.ret (.bool (decide (64 * o.ws.length + 64 + (64 * o2.ws.length + 64) ≤ 60000)))) H) : Call P 98 [.sl (some (b, 0)) 2 c 3, .int .i64 60000] H Q := by
  obtain ⟨a1, c1, e1, hv⟩ := k.arr.shape
  obtain ⟨a2, c2, e2, hv2⟩ := k2.arr.shape
  refine small_ct hq (b := b) (c := c) (lens := [o.ws.length, o2.ws.length]) (most := 60000) (fun i hi => ?_) (fun i hi => ?_) (by simp) (by omega) ?_
  · have hi : i < 2 := hi
    rcases (show i = 0 ∨ i = 1 by omega) with rfl | rfl
    · exact ⟨a1, c1, e1, by rw [rd_s hc]; simp [hv]⟩
    · exact ⟨a2, c2, e2, by rw [rd_s hc]; simp [hv2]⟩
  · have hi : i < 2 := hi
    have := k.len
    have := k2.len
    rcases (show i = 0 ∨ i = 1 by omega) with rfl | rfl
    · show o.ws.length ≤ _; omega
    · show o2.ws.length ≤ _; omega
  · have e : bigN [o.ws.length, o2.ws.length] [o.ws.length, o2.ws.length].length = 64 * o.ws.length + 64 + (64 * o2.ws.length + 64) := by simp [bigN, sumN]
    rw [e]; exact hQ
/-- Small of one bitmap that lies in a block. -/
theorem smallO (hq : HasL2 P) (k : BmOk H0 o) {b c : Nat} (hc : ∃ l, H.get b = .cells ([.int .i64 o.w, .int .i64 o.h, o.v] ++ l) true) (hQ : Q (.ret (.bool (decide (64 * o.ws.length + 64 ≤ 60000)))) H) : Call P 98 [.sl (some (b, 0)) 1 c 3, .int .i64 60000] H Q := by
  obtain ⟨a1, c1, e1, hv⟩ := k.arr.shape
  obtain ⟨l, hc⟩ := hc
  refine small_ct hq (b := b) (c := c) (lens := [o.ws.length]) (most := 60000) (fun i hi => ?_) (fun i hi => ?_) (by simp) (by omega) ?_
  · obtain rfl : i = 0 := by simpa using hi
    exact ⟨a1, c1, e1, by rw [rd_s hc]; simp [hv]⟩
  · obtain rfl : i = 0 := by simpa using hi
    have := k.len
    show o.ws.length ≤ _
    omega
  · have e : bigN [o.ws.length] [o.ws.length].length = 64 * o.ws.length + 64 := by simp [bigN, sumN]
    rw [e]; exact hQ
end
end Go.Ab
/- Counts of turned and inverted pixels. No program. -/
namespace Go.Ab

theorem cntF_sum (f : Nat → Bool) : ∀ n, cntF f n = sumN (fun i => (f i).toNat) n
  | 0 => rfl
  | n + 1 => by rw [cntF, sumN, cntF_sum f n]
theorem sumN_zero : ∀ n, sumN (fun _ => 0) n = 0
  | 0 => rfl
  | n + 1 => by rw [sumN, sumN_zero n]
theorem sumN_plus (f g : Nat → Nat) : ∀ n, sumN (fun i => f i + g i) n = sumN f n + sumN g n
  | 0 => rfl
  | n + 1 => by rw [sumN, sumN, sumN, sumN_plus f g n]; omega
theorem sumN_swap (f : Nat → Nat → Nat) (m : Nat) : ∀ n, sumN (fun j => sumN (fun i => f i j) m) n = sumN (fun i => sumN (fun j => f i j) n) m
  | 0 => by simp only [sumN]; exact (sumN_zero m).symm
  | n + 1 => by
    rw [sumN, sumN_swap f m n, ← sumN_plus]; rfl
theorem cnt2_sum (w : Nat) (p : Nat → Nat → Bool) (h : Nat) : cnt2 w p h = sumN (fun j => sumN (fun i => (p i j).toNat) w) h := sumN_congr fun j _ => cntF_sum _ _
theorem cnt2_turn (w h : Nat) (p : Nat → Nat → Bool) : cnt2 h (fun i j => p j (h - 1 - i)) w = cnt2 w p h := by
  have e : cnt2 h (fun i j => p j (h - 1 - i)) w = sumN (fun j => cntF (fun i => p j i) h) w := sumN_congr fun j _ => cntF_rev (fun i => p j i) h
  rw [e, sumN_congr (g := fun j => sumN (fun i => (p j i).toNat) h) fun j _ => cntF_sum _ _, cnt2_sum, sumN_swap (fun i j => (p i j).toNat) w h]
theorem cntF_not (f : Nat → Bool) : ∀ n, cntF (fun i => !f i) n + cntF f n = n
  | 0 => rfl
  | n + 1 => by
    have := cntF_not f n
    simp only [cntF]
    cases f n <;> simp <;> omega
theorem cnt2_not (w : Nat) (p : Nat → Nat → Bool) : ∀ h, cnt2 w (fun i j => !p i j) h + cnt2 w p h = h * w
  | 0 => by simp [cnt2, sumN]
  | h + 1 => by
    have h1 := cnt2_not w p h
    have h2 := cntF_not (fun x => p x h) w
    have e1 : cnt2 w (fun i j => !p i j) (h + 1) = cnt2 w (fun i j => !p i j) h + cntF (fun x => !p x h) w := rfl
    have e2 : cnt2 w p (h + 1) = cnt2 w p h + cntF (fun x => p x h) w := rfl
    rw [e1, e2, Nat.add_mul, Nat.one_mul]; omega
theorem mayB_Wds {w h : Nat} {p : Nat → Nat → Bool} (h1 : 1 ≤ w) (h2 : 1 ≤ h) (h3 : w * h ≤ 1048576) : mayB w h (Wds w h p) :=
  ⟨⟨by omega, by omega, by rw [← Int.natCast_mul]; omega⟩, by simp [Wds_length], by simpa using Wds_pad p h1⟩
end Go.Ab
/- Assertions by their place in the list: the contracts of maps in that form. Conditions: none. -/
namespace Go.Ab

theorem Hs.bmarr {H : Heap} {v : V} {w h : Nat} {p : Nat → Nat → Bool} {R : List As} (hs : Hs H R) (hm : BmA v w h p ∈ R) : Arr H v 1 (Wds w h p).length (u64s (Wds w h p)) := (hs.ofmem hm).bml.own.arr
theorem rd_bm {H : Heap} {b : Nat} {l : List V} {R : List As} (h : Hs H R) (hm : Cel b l ∈ R) (n : Nat) (hn : l.length = n) : rd H (some n) b 0 = some (.agg l) := by
  subst hn; rw [rd_m (h.celm hm), piece, if_pos (by omega)]; simp
/-- Two at once. -/
theorem Hs.foc2 {H : Heap} {L : List As} {A B : As} (i j : Nat) (h : Hs H L) (ei : L[i]? = some A) (ej : L[j]? = some B) (hij : i ≠ j) : ∃ R, Hs H (A :: B :: R) ∧ ∀ H' A', Hs H' (A' :: B :: R) → Hs H' (L.set i A') := by
  have h1 := h.foc j ej
  have e1 : (L.eraseIdx j)[if i < j then i else i - 1]? = some A := by
    rw [List.getElem?_eraseIdx]
    by_cases c : i < j
    · rw [if_pos c, if_pos c]; exact ei
    · rw [if_neg c, if_neg (by omega), show i - 1 + 1 = i by omega]; exact ei
  refine ⟨(L.eraseIdx j).eraseIdx (if i < j then i else i - 1), (Hs.foc1 _ h1 e1).p1, fun H' A' h' => ?_⟩
  have h2 := Hs.unf1 e1 h'.p1
  have h3 := Hs.unf (L := L.set i A') (i := j) (A := B) (A' := B) (by rw [List.getElem?_set_ne hij]; exact ej) (by
    have e2 : (L.set i A').eraseIdx j = (L.eraseIdx j).set (if i < j then i else i - 1) A' := by
      refine List.ext_getElem? fun k => ?_
      simp only [List.getElem?_eraseIdx, List.getElem?_set, List.length_eraseIdx]
      have l1 := (List.getElem?_eq_some_iff.1 ei).1
      have l2 := (List.getElem?_eq_some_iff.1 ej).1
      repeat' split
      all_goals first | rfl | omega
    rw [e2]; exact h2)
  rwa [set_self (by rw [List.getElem?_set_ne hij]; exact ej)] at h3

section
variable {P : Prog} {H : Heap} {L : List As} {Q : Out → Heap → Prop} {m w h : Nat} {p : Nat → Nat → Bool}
theorem blit_at (hp : HasBm P) (i j : Nat) {s sw sh : Nat} {q : Nat → Nat → Bool} (hs : Hs H L) (ei : L[i]? = some (MapA m w h p)) (ej : L[j]? = some (MapA s sw sh q)) (hij : i ≠ j)
    {sx sy ww hh dx dy op : Int} (h1 : i64r sx) (h2 : i64r sy) (h3 : i64r ww) (h4 : i64r hh) (h5 : i64r dx) (h6 : i64r dy) (h7 : i64r op)
    (hQ : ∀ H', Hs H' (L.set i (MapA m w h (if blitR ww hh op = 0 then blitP p q sw sh sx sy ww hh dx dy op.toNat else p))) → Q (.ret (.int .i64 (blitR ww hh op))) H') :
    Call P 64 [.ptr (some (m, 0)), .ptr (some (s, 0)), .int .i64 sx, .int .i64 sy, .int .i64 ww, .int .i64 hh, .int .i64 dx, .int .i64 dy, .int .i64 op] H Q := by
  obtain ⟨R, k1, k2⟩ := hs.foc2 i j ei ej hij
  exact blit_ct hp k1 h1 h2 h3 h4 h5 h6 h7 fun H' h' => hQ H' (k2 H' _ h')
theorem inv_at (hp : HasBm P) (i : Nat) (hs : Hs H L) (ei : L[i]? = some (MapA m w h p)) (hQ : ∀ H', Hs H' (L.set i (MapA m w h (fun i j => !p i j))) → Q (.ret (.tup [])) H') : Call P 66 [.ptr (some (m, 0))] H Q :=
  inv_ct hp (hs.foc i ei) fun H' h' => hQ H' (Hs.unf ei h')
theorem plain_at (hp : HasBm P) (i : Nat) (hs : Hs H L) (ei : L[i]? = some (MapA m w h p)) (hQ : ∀ v H', Hs H' (BmA v w h p :: L) → Q (.ret (.agg [.int .i64 w, .int .i64 h, v])) H') : Call P 45 [.ptr (some (m, 0))] H Q := by
  obtain ⟨z1, z2, z3, z4, z5⟩ := mapSz (hs.foc i ei)
  refine plain_ct hp (hs.foc i ei) fun v H' h' _ => hQ v H' ?_
  have := Hs.unf1 ei (bmA_of h' ⟨z1, z2, z3⟩)
  rwa [set_self ei] at this
theorem same_at (hq : HasL2 P) (i : Nat) {v : V} {q : Nat → Nat → Bool} (hs : Hs H L) (ei : L[i]? = some (MapA m w h p)) (ej : BmA v w h q ∈ L.eraseIdx i)
    (hQ : ∀ H', Hs H' L → Q (.ret (.bool (decide (∀ x y, x < w → y < h → p x y = q x y)))) H') : Call P 101 [.ptr (some (m, 0)), .agg [.int .i64 w, .int .i64 h, v]] H Q := by
  refine same_ct hq (hs.foc i ei) (fun H' h' => h'.bmarr ej) fun H' h' => ?_
  have h' := Hs.unf ei h'
  rw [set_self ei] at h'
  rw [decide_eq_decide.2 (show ((w : Int) = w ∧ (h : Int) = h ∧ Wds w h p = Wds w h q) ↔ ∀ x y, x < w → y < h → p x y = q x y from ⟨fun e => Wds_eq.1 e.2.2, fun e => ⟨rfl, rfl, Wds_eq.2 e⟩⟩)]
  exact hQ H' h'
theorem countB_at (hp : HasRz P) {v : V} (hs : Hs H L) (ej : BmA v w h p ∈ L) (hQ : ∀ H', Hs H' L → Q (.ret (.int .i64 (cnt2 w p h : Nat))) H') : Call P 81 [.agg [.int .i64 w, .int .i64 h, v]] H Q := by
  obtain ⟨j, hj⟩ := List.mem_iff_getElem?.1 ej
  refine countB_ct hp (hs.foc j hj) fun H' h' _ => ?_
  have h' := Hs.unf hj h'
  rw [set_self hj] at h'
  exact hQ H' h'
end
end Go.Ab
