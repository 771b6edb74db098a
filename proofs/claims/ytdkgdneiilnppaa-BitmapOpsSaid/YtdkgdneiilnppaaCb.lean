/- Maps in the heap; what is told of them. Conditions: none. -/
import Derived.Test.YtdkgdneiilnppaaCa
import Derived.Test.YtdkgdneiilnppaaPBm
set_option linter.all false
namespace Go.Ab

theorem bitop_xor {k : IntKind} {a b : Nat} (ha : a < 2 ^ k.bits) (hb : b < 2 ^ k.bits) : bitop .xor k a b = k.wrap ((a ^^^ b : Nat) : Int) := by
  unfold bitop
  rw [show BitVec.ofInt k.bits (a : Int) = BitVec.ofNat k.bits a by simp, show BitVec.ofInt k.bits (b : Int) = BitVec.ofNat k.bits b by simp]
  simp only [BitVec.toNat_xor, BitVec.toNat_ofNat, Nat.mod_eq_of_lt ha, Nat.mod_eq_of_lt hb]
theorem and64 {a b : Nat} (ha : a < 18446744073709551616) (hb : b < 18446744073709551616) : bitop .and .u64 a b = ((a &&& b : Nat) : Int) := by
  rw [bitop_and (k := .u64) ha hb]; have := and_lt (b := b) ha; exact wu64 (by omega)
theorem xor64 {a b : Nat} (ha : a < 18446744073709551616) (hb : b < 18446744073709551616) : bitop .xor .u64 a b = ((a ^^^ b : Nat) : Int) := by
  rw [bitop_xor (k := .u64) ha hb]; have := xor_lt ha hb; exact wu64 (by omega)
/-- In a, not in b. -/
def dif (a b : Nat) : Nat := a &&& (18446744073709551615 - b % 18446744073709551616)
theorem dif_lt {a b : Nat} (ha : a < 18446744073709551616) : dif a b < 18446744073709551616 := and_lt ha
theorem wb_dif {a b k : Nat} (hk : k < 64) : wb (dif a b) k = (wb a k && !wb b k) := wb_diff hk
theorem bitop_andNot {k : IntKind} {a b : Nat} (ha : a < 2 ^ k.bits) (hb : b < 2 ^ k.bits) : bitop .andNot k a b = k.wrap ((a &&& (2 ^ k.bits - 1 - b) : Nat) : Int) := by
  unfold bitop
  rw [show BitVec.ofInt k.bits (a : Int) = BitVec.ofNat k.bits a by simp, show BitVec.ofInt k.bits (b : Int) = BitVec.ofNat k.bits b by simp]
  simp only [BitVec.toNat_and, BitVec.toNat_not, BitVec.toNat_ofNat, Nat.mod_eq_of_lt ha, Nat.mod_eq_of_lt hb]
theorem dif64 {a b : Nat} (ha : a < 18446744073709551616) (hb : b < 18446744073709551616) : bitop .andNot .u64 a b = ((dif a b : Nat) : Int) := by
  have := dif_lt (b := b) ha
  rw [bitop_andNot (k := .u64) ha hb]
  have e : a &&& (2 ^ IntKind.u64.bits - 1 - b) = dif a b := by unfold dif; rw [Nat.mod_eq_of_lt hb]; rfl
  rw [e]
  exact wu64 (by omega)
def inv (a : Nat) : Nat := 18446744073709551615 ^^^ a
theorem inv_lt {a : Nat} (ha : a < 18446744073709551616) : inv a < 18446744073709551616 := xor_lt (by omega) ha
theorem wb_inv {a k : Nat} (hk : k < 64) : wb (inv a) k = !wb a k := by unfold inv; rw [wb_xor, wb_ones hk]; simp
theorem not64 {a : Nat} (ha : a < 18446744073709551616) : bitop .xor .u64 (if IntKind.signed .u64 = true then -1 else IntKind.max .u64) a = ((inv a : Nat) : Int) := by
  rw [show (if IntKind.signed .u64 = true then (-1 : Int) else IntKind.max .u64) = ((18446744073709551615 : Nat) : Int) by decide]
  exact xor64 (by omega) ha
theorem shlw {a i : Nat} (hi : i ≤ 64) : shl .u64 (a : Int) (i : Int) = ((a * 2 ^ i % 18446744073709551616 : Nat) : Int) := by
  rw [shl64 hi]
  generalize a * 2 ^ i = x
  simp only [IntKind.wrap, IntKind.bits, IntKind.signed, Bool.false_and, Bool.false_eq_true, if_false]
  omega
theorem shl_ones {i : Nat} (hi : i ≤ 64) : shl .u64 18446744073709551615 (i : Int) = ((18446744073709551615 * 2 ^ i % 18446744073709551616 : Nat) : Int) := shlw hi
theorem shr_ones (i : Nat) : shr .u64 18446744073709551615 (i : Int) = ((18446744073709551615 / 2 ^ i : Nat) : Int) := shr64 (a := 18446744073709551615) (by omega)
theorem modw_lt (a : Nat) : a % 18446744073709551616 < 18446744073709551616 := Nat.mod_lt _ (by omega)
theorem shr_lt {a i : Nat} (ha : a < 18446744073709551616) : a / 2 ^ i < 18446744073709551616 := Nat.lt_of_le_of_lt (Nat.div_le_self _ _) ha

instance (w h : Int) : Decidable (sizeOk w h) := by unfold sizeOk; infer_instance
theorem sizeOk_le {w h : Int} (k : sizeOk w h) : w ≤ 1048576 ∧ h ≤ 1048576 := by
  obtain ⟨h1, h2, h3⟩ := k
  constructor
  · have := Int.mul_le_mul_of_nonneg_left h2 (show 0 ≤ w by omega); omega
  · have := Int.mul_le_mul_of_nonneg_right h1 (show 0 ≤ h by omega); omega
theorem wds_le {w h : Nat} (k : w * h ≤ 1048576) (hw : 1 ≤ w) : h * wds w ≤ 1048576 := by
  have : wds w ≤ w := by unfold wds; omega
  have := Nat.mul_le_mul_left h this
  rw [Nat.mul_comm w h] at k; omega

/-- A map. -/
structure MapI (H : Heap) (m : Nat) (v : V) (w h : Nat) (p : Nat → Nat → Bool) : Prop where
  cell : H.get m = .cells [.int .i64 w, .int .i64 h, .int .i64 (wds w), v] true
  own : Own H v 1 (Wds w h p).length (u64s (Wds w h p))
  lt : m < H.next
  apart : ¬ sb v m
  w1 : 1 ≤ w
  h1 : 1 ≤ h
  area : w * h ≤ 1048576
def MapA (m w h : Nat) (p : Nat → Nat → Bool) : As where
  ok F H := ∃ v, (∀ b, F b ↔ wf m v b) ∧ MapI H m v w h p
  st := fun {F H H'} ⟨v, h1, h2⟩ hn he => ⟨v, h1, ⟨(he _ ((h1 _).2 (Or.inl rfl))).trans h2.cell, h2.own.same (S := fun b => ¬ F b) ⟨hn, fun b _ hs => he b (Classical.not_not.1 hs)⟩ (fun b hb h => h ((h1 b).2 (Or.inr hb))), Nat.lt_of_lt_of_le h2.lt hn, h2.apart, h2.w1, h2.h1, h2.area⟩⟩
  lt := fun ⟨v, h1, h2⟩ b hb => by rcases (h1 b).1 hb with h | h; exact h ▸ h2.lt; exact h2.own.lt h

section
variable {P : Prog} {H : Heap} {R : List As} {Q : Out → Heap → Prop}

theorem sized_ct (hp : HasBm P) {w h : Int} (hw : -9223372036854775808 ≤ w ∧ w ≤ 9223372036854775807) (hh : -9223372036854775808 ≤ h ∧ h ≤ 9223372036854775807) (hQ : Q (.ret (.bool (decide (sizeOk w h)))) H) : Call P 39 [.int .i64 w, .int .i64 h] H Q := by
  refine call_of hp.h_bitmap_sized rfl ?_
  by_cases k : sizeOk w h
  · rw [decide_eq_true k] at hQ
    have hle := sizeOk_le k
    obtain ⟨h1, h2, h3⟩ := k
    have h4 : 0 ≤ w * h := Int.mul_nonneg (by omega) (by omega)
    simp -implicitDefEqProofs -dsimp (disch := omega) only [go_sem, Nat.reduceEqDiff, ↓reduceIte, Nat.reduceAdd, Nat.reduceMul, Nat.reduceSub, Nat.reduceLT, Nat.reduceLeDiff, Int.reduceLT, Int.reduceLE, Int.reduceEq, Int.reduceNeg, Int.reduceAdd, Int.reduceMul, Int.reduceSub, Int.reduceToNat, reduceCtorEq, dec_t, dec_f, w64]
    exact hQ
  · rw [decide_eq_false k] at hQ
    rcases (show w < 1 ∨ (1 ≤ w ∧ h < 1) ∨ (1 ≤ w ∧ 1 ≤ h ∧ 1048576 < w) ∨ (1 ≤ w ∧ 1 ≤ h ∧ w ≤ 1048576 ∧ 1048576 < h) ∨ (1 ≤ w ∧ 1 ≤ h ∧ w ≤ 1048576 ∧ h ≤ 1048576 ∧ 1048576 < w * h) by
      by_cases a : w < 1; · exact Or.inl a
      by_cases b : h < 1; · exact Or.inr (Or.inl ⟨by omega, b⟩)
      by_cases c : 1048576 < w; · exact Or.inr (Or.inr (Or.inl ⟨by omega, by omega, c⟩))
      by_cases d : 1048576 < h; · exact Or.inr (Or.inr (Or.inr (Or.inl ⟨by omega, by omega, by omega, d⟩)))
      refine Or.inr (Or.inr (Or.inr (Or.inr ⟨by omega, by omega, by omega, by omega, ?_⟩)))
      have : ¬ w * h ≤ 1048576 := fun e => k ⟨by omega, by omega, e⟩
      omega) with a | a | a | a | ⟨a, b, c, d, e⟩
    · simp -implicitDefEqProofs -dsimp (disch := omega) only [go_sem, Nat.reduceEqDiff, ↓reduceIte, Nat.reduceAdd, Nat.reduceMul, Nat.reduceSub, Nat.reduceLT, Nat.reduceLeDiff, Int.reduceLT, Int.reduceLE, Int.reduceEq, Int.reduceNeg, Int.reduceAdd, Int.reduceMul, Int.reduceSub, Int.reduceToNat, reduceCtorEq, dec_t, dec_f, ]; exact hQ
    · simp -implicitDefEqProofs -dsimp (disch := omega) only [go_sem, Nat.reduceEqDiff, ↓reduceIte, Nat.reduceAdd, Nat.reduceMul, Nat.reduceSub, Nat.reduceLT, Nat.reduceLeDiff, Int.reduceLT, Int.reduceLE, Int.reduceEq, Int.reduceNeg, Int.reduceAdd, Int.reduceMul, Int.reduceSub, Int.reduceToNat, reduceCtorEq, dec_t, dec_f, ]; exact hQ
    · simp -implicitDefEqProofs -dsimp (disch := omega) only [go_sem, Nat.reduceEqDiff, ↓reduceIte, Nat.reduceAdd, Nat.reduceMul, Nat.reduceSub, Nat.reduceLT, Nat.reduceLeDiff, Int.reduceLT, Int.reduceLE, Int.reduceEq, Int.reduceNeg, Int.reduceAdd, Int.reduceMul, Int.reduceSub, Int.reduceToNat, reduceCtorEq, dec_t, dec_f, ]; exact hQ
    · simp -implicitDefEqProofs -dsimp (disch := omega) only [go_sem, Nat.reduceEqDiff, ↓reduceIte, Nat.reduceAdd, Nat.reduceMul, Nat.reduceSub, Nat.reduceLT, Nat.reduceLeDiff, Int.reduceLT, Int.reduceLE, Int.reduceEq, Int.reduceNeg, Int.reduceAdd, Int.reduceMul, Int.reduceSub, Int.reduceToNat, reduceCtorEq, dec_t, dec_f, ]; exact hQ
    · have hm : w * h ≤ 1048576 * 1048576 := Int.mul_le_mul c d (by omega) (by omega)
      simp -implicitDefEqProofs -dsimp (disch := omega) only [go_sem, Nat.reduceEqDiff, ↓reduceIte, Nat.reduceAdd, Nat.reduceMul, Nat.reduceSub, Nat.reduceLT, Nat.reduceLeDiff, Int.reduceLT, Int.reduceLE, Int.reduceEq, Int.reduceNeg, Int.reduceAdd, Int.reduceMul, Int.reduceSub, Int.reduceToNat, reduceCtorEq, dec_t, dec_f, w64]; exact hQ

/-- The shift of a row's last word. -/
def padS (w : Nat) : Nat := (64 - w % 64) % 64
theorem last_ct (hp : HasBm P) {w : Nat} (hw : w ≤ 1048576) (hQ : Q (.ret (.int .u64 ((18446744073709551615 * 2 ^ padS w % 18446744073709551616 : Nat) : Int))) H) : Call P 40 [.int .i64 w] H Q := by
  refine call_of hp.h_bitmap_last rfl ?_
  have e1 : (w : Int) % 64 = ((w % 64 : Nat) : Int) := rfl
  have e2 : 64 - ((w % 64 : Nat) : Int) = ((64 - w % 64 : Nat) : Int) := by omega
  have e3 : ((64 - w % 64 : Nat) : Int) % 64 = ((padS w : Nat) : Int) := rfl
  have h3 : padS w ≤ 64 := by unfold padS; omega
  simp -implicitDefEqProofs -dsimp (disch := omega) only [go_sem, Nat.reduceEqDiff, ↓reduceIte, Nat.reduceAdd, Nat.reduceMul, Nat.reduceSub, Nat.reduceLT, Nat.reduceLeDiff, Int.reduceLT, Int.reduceLE, Int.reduceEq, Int.reduceNeg, Int.reduceAdd, Int.reduceMul, Int.reduceSub, Int.reduceToNat, reduceCtorEq, dec_t, dec_f, tmodN, e1, e2, w64, e3, shl_ones]
  exact hQ
theorem wb_last {w k : Nat} (hk : k < 64) : wb (18446744073709551615 * 2 ^ padS w % 18446744073709551616) k = decide (k + padS w < 64) := by
  rw [wb_shl hk]
  by_cases h : k + padS w < 64
  · rw [decide_eq_true h, wb_ones h]; rfl
  · rw [decide_eq_false h]; rfl
theorem pad_iff {w k : Nat} (hw : 1 ≤ w) (hk : k < 64) : k + padS w < 64 ↔ 64 * (wds w - 1) + k < w := by unfold padS wds; omega

def ChI (H : Heap) (b : Nat) (w h : Nat) (v : V) (ws : List Nat) (R : List As) (k : Nat) (fr : Fr) (H' : Heap) : Prop :=
  ∃ y : Nat, k = h - y ∧ y ≤ h ∧ fr = ⟨[(1, .ptr (some (b, 0))), (3, .int .i64 (wds w)), (24, .int .i64 h), (25, .int .i64 y)], []⟩ ∧ padOk w y ws ∧ Hs H' (Cel b [.int .i64 w, .int .i64 h, v] :: R) ∧ Same (fun b' => b' = b) H H'
theorem row_lt {y h wd : Nat} (hy : y < h) (hwd : 1 ≤ wd) : y * wd + (wd - 1) < h * wd := by
  have : (y + 1) * wd ≤ h * wd := Nat.mul_le_mul_right _ hy
  rw [Nat.add_mul, Nat.one_mul] at this; omega
theorem check_ct (hp : HasBm P) {w h : Int} {v : V} {ws : List Nat} (hs : Hs H R) (hv : Arr H v 1 ws.length (u64s ws)) (hl : ∀ n ∈ ws, n < 18446744073709551616) (hw : -9223372036854775808 ≤ w ∧ w ≤ 9223372036854775807) (hh : -9223372036854775808 ≤ h ∧ h ≤ 9223372036854775807)
    (hQ : ∀ b H', (b = true ↔ mayB w h ws) → Hs H' R → Same (fun _ => False) H H' → Q (.ret (.bool b)) H') : Call P 41 [.agg [.int .i64 w, .int .i64 h, v]] H Q := by
  obtain ⟨a, c, e', rfl⟩ := hv.shape
  refine call_of hp.h_bitmap_Check rfl ?_
  have h1 := hs.alloc (l := [.int .i64 w, .int .i64 h, .sl a ws.length c e'])
  have hc1 := h1.cel
  have hn1 : H.next < (H.new (.cells [.int .i64 w, .int .i64 h, .sl a ws.length c e'] true)).next := h1.celt
  have s1 : Same (fun _ => False) H (H.new (.cells [.int .i64 w, .int .i64 h, .sl a ws.length c e'] true)) := Same.new _ _ _
  simp -implicitDefEqProofs -dsimp (disch := omega) only [go_sem, Nat.reduceEqDiff, ↓reduceIte, Nat.reduceAdd, Nat.reduceMul, Nat.reduceSub, Nat.reduceLT, Nat.reduceLeDiff, Int.reduceLT, Int.reduceLE, Int.reduceEq, Int.reduceNeg, Int.reduceAdd, Int.reduceMul, Int.reduceSub, Int.reduceToNat, reduceCtorEq, dec_t, dec_f, ]
  generalize H.new (.cells [.int .i64 w, .int .i64 h, .sl a ws.length c e'] true) = H1 at h1 hc1 s1 hn1
  generalize hb : H.next = b at h1 hc1 hn1
  refine sized_ct hp hw hh ?_
  by_cases k : sizeOk w h
  · rw [decide_eq_true k]
    have hle := sizeOk_le k
    obtain ⟨wn, rfl⟩ : ∃ wn : Nat, w = wn := ⟨w.toNat, by have := k.1; omega⟩
    obtain ⟨hn, rfl⟩ : ∃ hn : Nat, h = hn := ⟨h.toNat, by have := k.2.1; omega⟩
    have k1 : 1 ≤ wn := by have := k.1; omega
    have k2 : 1 ≤ hn := by have := k.2.1; omega
    have k3 : wn * hn ≤ 1048576 := by have := k.2.2; rw [← Int.natCast_mul] at this; omega
    have kw := wds_le k3 k1
    have ew : ((wn : Int) + 63) / 64 = ((wds wn : Nat) : Int) := by unfold wds; omega
    have em : (hn : Int) * ((wds wn : Nat) : Int) = ((hn * wds wn : Nat) : Int) := (Int.natCast_mul _ _).symm
    have hmay : mayB wn hn ws ↔ ws.length = hn * wds wn ∧ padOk wn hn ws := ⟨fun h => h.2, fun h => ⟨k, h⟩⟩
    by_cases hlen : ws.length = hn * wds wn
    · simp -implicitDefEqProofs -dsimp (disch := omega) only [go_sem, Nat.reduceEqDiff, ↓reduceIte, Nat.reduceAdd, Nat.reduceMul, Nat.reduceSub, Nat.reduceLT, Nat.reduceLeDiff, Int.reduceLT, Int.reduceLE, Int.reduceEq, Int.reduceNeg, Int.reduceAdd, Int.reduceMul, Int.reduceSub, Int.reduceToNat, reduceCtorEq, dec_t, dec_f, rd_s hc1, w64, tdivN, ew, em]
      refine loop_inv (ChI H1 b wn hn _ ws R) ?_ hn _ _ ⟨0, by omega, by omega, rfl, fun y hy => by omega, h1, Same.refl _ _⟩
      rintro k fr H2 ⟨y, hk, hy, rfl, hpad, h2, s2⟩
      generalize hK : rnd (ChI H1 b wn hn _ ws R) k = K
      have hc2 := h2.cel
      have s12 : Same (fun _ => False) H H2 := s1.trans s2 fun x hx e => by have : x = b := e; omega
      by_cases hyh : y < hn
      · have hwd : 1 ≤ wds wn := by unfold wds; omega
        have hidx := row_lt hyh hwd
        obtain ⟨b3, o3, c3, e3⟩ := hv.at0 (by omega)
        cases e3
        have hrd : rd H2 none b3 (o3 + (y * wds wn + (wds wn - 1))) = some (.int .u64 ((ws.getD (y * wds wn + (wds wn - 1)) 0 : Nat) : Int)) := by
          rw [(hv.same s12 fun _ _ h => h).rd1 (by omega)]
          simp only [u64s, List.getElem?_map, List.getD_eq_getElem?_getD, List.getElem?_eq_getElem (show y * wds wn + (wds wn - 1) < ws.length by omega)]; rfl
        have hlt : ws.getD (y * wds wn + (wds wn - 1)) 0 < 18446744073709551616 := by
          rw [List.getD_eq_getElem?_getD, List.getElem?_eq_getElem (show y * wds wn + (wds wn - 1) < ws.length by omega)]; exact hl _ (List.getElem_mem _)
        have hrow : (∀ k, k < 64 → wn ≤ 64 * (wds wn - 1) + k → wb (ws.getD (y * wds wn + (wds wn - 1)) 0) k = false) ↔ dif (ws.getD (y * wds wn + (wds wn - 1)) 0) (18446744073709551615 * 2 ^ padS wn % 18446744073709551616) = 0 := by
          constructor
          · intro h
            refine wb_ext (dif_lt hlt) (by omega) fun k hk => ?_
            rw [wb_dif hk, wb_last hk, wb_zero]
            have := pad_iff k1 hk
            by_cases hx : k + padS wn < 64
            · rw [decide_eq_true hx]; simp
            · rw [h k hk (by omega)]; rfl
          · intro h k hk hx
            have h2 := wb_dif (a := ws.getD (y * wds wn + (wds wn - 1)) 0) (b := 18446744073709551615 * 2 ^ padS wn % 18446744073709551616) hk
            rw [h, wb_zero, wb_last hk] at h2
            have := pad_iff k1 hk
            rw [decide_eq_false (by omega)] at h2
            simpa using h2.symm
        generalize hwv : ws.getD (y * wds wn + (wds wn - 1)) 0 = wv at hrd hlt hrow
        have ey : (y : Int) * ((wds wn : Nat) : Int) = ((y * wds wn : Nat) : Int) := (Int.natCast_mul _ _).symm
        have ey2 : ((y * wds wn : Nat) : Int) + ((wds wn : Nat) : Int) - 1 = ((y * wds wn + (wds wn - 1) : Nat) : Int) := by omega
        have hlw := modw_lt (18446744073709551615 * 2 ^ padS wn)
        simp -implicitDefEqProofs -dsimp (disch := omega) only [go_sem, Nat.reduceEqDiff, ↓reduceIte, Nat.reduceAdd, Nat.reduceMul, Nat.reduceSub, Nat.reduceLT, Nat.reduceLeDiff, Int.reduceLT, Int.reduceLE, Int.reduceEq, Int.reduceNeg, Int.reduceAdd, Int.reduceMul, Int.reduceSub, Int.reduceToNat, reduceCtorEq, dec_t, dec_f, bitmap_Check_l0, rd_s hc2, ey, w64, ey2, Int.toNat_natCast, Nat.mul_one, hrd]
        refine last_ct hp (by omega) ?_
        simp -implicitDefEqProofs -dsimp (disch := omega) only [go_sem, Nat.reduceEqDiff, ↓reduceIte, Nat.reduceAdd, Nat.reduceMul, Nat.reduceSub, Nat.reduceLT, Nat.reduceLeDiff, Int.reduceLT, Int.reduceLE, Int.reduceEq, Int.reduceNeg, Int.reduceAdd, Int.reduceMul, Int.reduceSub, Int.reduceToNat, reduceCtorEq, dec_t, dec_f, ]
        refine aft_intro (by simp [rechecks, recheck, fresh, Fr.get, look, step, opd, rd_s hc2, hrd]) ?_
        by_cases hz : dif wv (18446744073709551615 * 2 ^ padS wn % 18446744073709551616) = 0
        · simp -implicitDefEqProofs -dsimp (disch := omega) only [go_sem, Nat.reduceEqDiff, ↓reduceIte, Nat.reduceAdd, Nat.reduceMul, Nat.reduceSub, Nat.reduceLT, Nat.reduceLeDiff, Int.reduceLT, Int.reduceLE, Int.reduceEq, Int.reduceNeg, Int.reduceAdd, Int.reduceMul, Int.reduceSub, Int.reduceToNat, reduceCtorEq, dec_t, dec_f, dif64 hlt hlw, hz, w64, cadd1, show ((0 : Nat) : Int) = 0 from rfl]
          subst hK
          refine rnd_n (hn - (y + 1)) (by omega) ⟨y + 1, rfl, by omega, rfl, fun y' hy' => ?_, h2, s2⟩
          by_cases e : y' = y
          · subst e; rw [hwv]; exact hrow.2 hz
          · exact hpad y' (by omega)
        · have hz' : ¬ ((dif wv (18446744073709551615 * 2 ^ padS wn % 18446744073709551616) : Nat) : Int) = 0 := by omega
          simp -implicitDefEqProofs -dsimp (disch := omega) only [go_sem, Nat.reduceEqDiff, ↓reduceIte, Nat.reduceAdd, Nat.reduceMul, Nat.reduceSub, Nat.reduceLT, Nat.reduceLeDiff, Int.reduceLT, Int.reduceLE, Int.reduceEq, Int.reduceNeg, Int.reduceAdd, Int.reduceMul, Int.reduceSub, Int.reduceToNat, reduceCtorEq, dec_t, dec_f, dif64 hlt hlw, hz']
          subst hK
          simp -implicitDefEqProofs -dsimp (disch := omega) only [go_sem, Nat.reduceEqDiff, ↓reduceIte, Nat.reduceAdd, Nat.reduceMul, Nat.reduceSub, Nat.reduceLT, Nat.reduceLeDiff, Int.reduceLT, Int.reduceLE, Int.reduceEq, Int.reduceNeg, Int.reduceAdd, Int.reduceMul, Int.reduceSub, Int.reduceToNat, reduceCtorEq, dec_t, dec_f, ]
          exact hQ false H2 ⟨(fun h => by cases h), fun h => absurd (hrow.1 (by have := (hmay.1 h).2 y hyh; rw [hwv] at this; exact this)) hz⟩ h2.tail s12
      · obtain rfl : y = hn := by omega
        simp -implicitDefEqProofs -dsimp (disch := omega) only [go_sem, Nat.reduceEqDiff, ↓reduceIte, Nat.reduceAdd, Nat.reduceMul, Nat.reduceSub, Nat.reduceLT, Nat.reduceLeDiff, Int.reduceLT, Int.reduceLE, Int.reduceEq, Int.reduceNeg, Int.reduceAdd, Int.reduceMul, Int.reduceSub, Int.reduceToNat, reduceCtorEq, dec_t, dec_f, bitmap_Check_l0]
        subst hK
        simp -implicitDefEqProofs -dsimp (disch := omega) only [go_sem, Nat.reduceEqDiff, ↓reduceIte, Nat.reduceAdd, Nat.reduceMul, Nat.reduceSub, Nat.reduceLT, Nat.reduceLeDiff, Int.reduceLT, Int.reduceLE, Int.reduceEq, Int.reduceNeg, Int.reduceAdd, Int.reduceMul, Int.reduceSub, Int.reduceToNat, reduceCtorEq, dec_t, dec_f, ]
        exact hQ true H2 ⟨fun _ => hmay.2 ⟨hlen, hpad⟩, fun _ => rfl⟩ h2.tail s12
    · have hne : ¬ ((ws.length : Nat) : Int) = ((hn * wds wn : Nat) : Int) := by omega
      simp -implicitDefEqProofs -dsimp (disch := omega) only [go_sem, Nat.reduceEqDiff, ↓reduceIte, Nat.reduceAdd, Nat.reduceMul, Nat.reduceSub, Nat.reduceLT, Nat.reduceLeDiff, Int.reduceLT, Int.reduceLE, Int.reduceEq, Int.reduceNeg, Int.reduceAdd, Int.reduceMul, Int.reduceSub, Int.reduceToNat, reduceCtorEq, dec_t, dec_f, rd_s hc1, w64, tdivN, ew, em, hne]
      exact hQ false H1 ⟨(fun h => by cases h), fun h => absurd (hmay.1 h).1 hlen⟩ h1.tail s1
  · rw [decide_eq_false k]
    simp -implicitDefEqProofs -dsimp (disch := omega) only [go_sem, Nat.reduceEqDiff, ↓reduceIte, Nat.reduceAdd, Nat.reduceMul, Nat.reduceSub, Nat.reduceLT, Nat.reduceLeDiff, Int.reduceLT, Int.reduceLE, Int.reduceEq, Int.reduceNeg, Int.reduceAdd, Int.reduceMul, Int.reduceSub, Int.reduceToNat, reduceCtorEq, dec_t, dec_f, ]
    exact hQ false H1 ⟨(fun h => by cases h), fun h => absurd h.1 k⟩ h1.tail s1
end
end Go.Ab
