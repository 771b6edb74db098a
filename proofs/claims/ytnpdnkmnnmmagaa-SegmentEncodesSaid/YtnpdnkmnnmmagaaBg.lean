/- What the reader comes to. Conditions: none. -/
import Derived.Test.YtnpdnkmnnmmagaaBf
set_option linter.all false
namespace Go.Ab

/-- A reader. -/
structure Rd (H : Heap) (r : Nat) (v : V) (bs : List Nat) (a : Nat) : Prop where
  cell : H.get r = .cells [v, .int .i64 a] true
  bytes : Bytes H v bs
  lt : r < H.next
  apart : ¬ sb v r
  small : ∀ b ∈ bs, b < 256
  room : a ≤ 8 * bs.length
  max : bs.length ≤ 140737488355328

theorem Rd.same {S : Nat → Prop} {H H' : Heap} {r : Nat} {v : V} {bs : List Nat} {a : Nat} (h : Rd H r v bs a) (s : Same S H H') (hs : ∀ b, wf r v b → ¬ S b) : Rd H' r v bs a :=
  ⟨(s.eq r h.lt (hs r (Or.inl rfl))).trans h.cell, Own.same h.bytes s fun b hb => hs b (Or.inr hb), Nat.lt_of_lt_of_le h.lt s.le, h.apart, h.small, h.room, h.max⟩
/-- Bits are passed. -/
theorem Rd.pass {H : Heap} {r : Nat} {v : V} {bs : List Nat} {a : Nat} (h : Rd H r v bs a) {c : Nat} (hc : c ≤ 8 * bs.length) : Rd (H.put r (.cells [v, .int .i64 c] true)) r v bs c ∧ Same (fun b => b = r) H (H.put r (.cells [v, .int .i64 c] true)) :=
  ⟨⟨by simp [get_put], Own.same h.bytes (Same.put (S := fun b => b = r) rfl) (fun b hb e => h.apart (e ▸ hb)), h.lt, h.apart, h.small, hc, h.max⟩, Same.put rfl⟩

theorem newReader {P : Prog} (hp : HasBits P) {H : Heap} {y : V} {bs : List Nat} (hy : Arr H y 1 bs.length (u8s bs)) (hs : ∀ b ∈ bs, b < 256) (hl : bs.length ≤ 140737488355328) {Q : Out → Heap → Prop}
    (hQ : ∀ r v H', Rd H' r v bs 0 → Same (fun _ => False) H H' → H.next ≤ r → (∀ b, sb v b → H.next ≤ b) → Q (.ret (.ptr (some (r, 0)))) H') : Call P 10 [y] H Q := by
  refine call_of hp.h_bits_NewReader rfl ?_
  obtain ⟨v', H', h1, h2, h3, h4⟩ := app_nil (H := H) (e := 1) (eb := 1) (firsts_arr hy) (by simp [u8s]) (u8s_one bs) (by omega)
  have hb : Bytes H' v' bs := h2
  obtain ⟨a, c, e', rfl⟩ := hb.arr.shape
  simp -implicitDefEqProofs -dsimp (disch := omega) only [go_sem, Nat.reduceEqDiff, ↓reduceIte, Nat.reduceAdd, Nat.reduceMul, Nat.reduceSub, Nat.reduceLT, Nat.reduceLeDiff, Int.reduceLT, Int.reduceLE, Int.reduceEq, Int.reduceNeg, Int.reduceAdd, Int.reduceMul, Int.reduceSub, Int.reduceToNat, reduceCtorEq, h1]
  have hap : ¬ sb (.sl a bs.length c e') H'.next := fun hx => by have := hb.lt hx; omega
  refine hQ H'.next _ _ ⟨by simp [get_new], Own.same hb (Same.new (fun _ => False) _ _) (fun _ _ h => h), by simp [next_new], hap, hs, by omega, hl⟩ ((h3.mono fun b _ hb => hb).trans (Same.new _ _ _) fun _ _ h => h) h3.le h4

theorem rLeft {P : Prog} (hp : HasBits P) {H : Heap} {r : Nat} {v : V} {bs : List Nat} {a : Nat} (h : Rd H r v bs a) {Q : Out → Heap → Prop} (hQ : Q (.ret (.int .i64 ((8 * bs.length - a : Nat) : Int))) H) : Call P 11 [.ptr (some (r, 0))] H Q := by
  have := h.room; have := h.max
  obtain ⟨x, c, e', rfl⟩ := h.bytes.arr.shape
  refine call_of hp.h_bits_Reader_Left rfl ?_
  simp -implicitDefEqProofs -dsimp (disch := omega) only [go_sem, Nat.reduceEqDiff, ↓reduceIte, Nat.reduceAdd, Nat.reduceMul, Nat.reduceSub, Nat.reduceLT, Nat.reduceLeDiff, Int.reduceLT, Int.reduceLE, Int.reduceEq, Int.reduceNeg, Int.reduceAdd, Int.reduceMul, Int.reduceSub, Int.reduceToNat, reduceCtorEq, rd_s h.cell, w64]
  rw [show (8 * (bs.length : Int) - a) = ((8 * bs.length - a : Nat) : Int) by omega]
  exact hQ

def rTake (bs : List Nat) (a : Nat) (k : Int) : Nat × Int × Nat :=
  if k < 0 ∨ 64 < k then (0, 11, a) else if 8 * (bs.length : Int) - a < k then (0, 14, a) else (toldN bs a k.toNat, 0, a + k.toNat)

theorem rTake_ct {P : Prog} (hp : HasBits P) {H : Heap} {r : Nat} {v : V} {bs : List Nat} {a : Nat} {k : Int} (h : Rd H r v bs a) {Q : Out → Heap → Prop}
    (hQ : ∀ H', Rd H' r v bs (rTake bs a k).2.2 → Same (fun b => b = r) H H' → Q (.ret (.tup [.int .u64 ((rTake bs a k).1 : Nat), .int .i64 (rTake bs a k).2.1])) H') :
    Call P 12 [.ptr (some (r, 0)), .int .i64 k] H Q := by
  have := h.room; have := h.max
  refine call_of hp.h_bits_Reader_Take rfl ?_
  have bad (e : rTake bs a k = (0, 11, a)) : Q (.ret (.tup [.int .u64 0, .int .i64 11])) H := by simp only [e] at hQ; exact hQ H h (Same.refl _ _)
  have short (e : rTake bs a k = (0, 14, a)) : Q (.ret (.tup [.int .u64 0, .int .i64 14])) H := by simp only [e] at hQ; exact hQ H h (Same.refl _ _)
  simp -implicitDefEqProofs -dsimp (disch := omega) only [go_sem, Nat.reduceEqDiff, ↓reduceIte, Nat.reduceAdd, Nat.reduceMul, Nat.reduceSub, Nat.reduceLT, Nat.reduceLeDiff, Int.reduceLT, Int.reduceLE, Int.reduceEq, Int.reduceNeg, Int.reduceAdd, Int.reduceMul, Int.reduceSub, Int.reduceToNat, reduceCtorEq, ]
  refine lif_dec (fun h1 => ?_) (fun h1 => ?_)
  · simp -implicitDefEqProofs -dsimp (disch := omega) only [go_sem, Nat.reduceEqDiff, ↓reduceIte, Nat.reduceAdd, Nat.reduceMul, Nat.reduceSub, Nat.reduceLT, Nat.reduceLeDiff, Int.reduceLT, Int.reduceLE, Int.reduceEq, Int.reduceNeg, Int.reduceAdd, Int.reduceMul, Int.reduceSub, Int.reduceToNat, reduceCtorEq, h1]
    exact bad (by rw [rTake, if_pos (Or.inl h1)])
  simp -implicitDefEqProofs -dsimp (disch := omega) only [go_sem, Nat.reduceEqDiff, ↓reduceIte, Nat.reduceAdd, Nat.reduceMul, Nat.reduceSub, Nat.reduceLT, Nat.reduceLeDiff, Int.reduceLT, Int.reduceLE, Int.reduceEq, Int.reduceNeg, Int.reduceAdd, Int.reduceMul, Int.reduceSub, Int.reduceToNat, reduceCtorEq, h1]
  refine lif_dec (fun h2 => ?_) (fun h2 => ?_)
  · simp -implicitDefEqProofs -dsimp (disch := omega) only [go_sem, Nat.reduceEqDiff, ↓reduceIte, Nat.reduceAdd, Nat.reduceMul, Nat.reduceSub, Nat.reduceLT, Nat.reduceLeDiff, Int.reduceLT, Int.reduceLE, Int.reduceEq, Int.reduceNeg, Int.reduceAdd, Int.reduceMul, Int.reduceSub, Int.reduceToNat, reduceCtorEq, ]
    exact bad (by rw [rTake, if_pos (Or.inr h2)])
  have e1 : ¬ (k < 0 ∨ 64 < k) := by omega
  simp -implicitDefEqProofs -dsimp (disch := omega) only [go_sem, Nat.reduceEqDiff, ↓reduceIte, Nat.reduceAdd, Nat.reduceMul, Nat.reduceSub, Nat.reduceLT, Nat.reduceLeDiff, Int.reduceLT, Int.reduceLE, Int.reduceEq, Int.reduceNeg, Int.reduceAdd, Int.reduceMul, Int.reduceSub, Int.reduceToNat, reduceCtorEq, ]
  refine rLeft hp h ?_
  simp -implicitDefEqProofs -dsimp (disch := omega) only [go_sem, Nat.reduceEqDiff, ↓reduceIte, Nat.reduceAdd, Nat.reduceMul, Nat.reduceSub, Nat.reduceLT, Nat.reduceLeDiff, Int.reduceLT, Int.reduceLE, Int.reduceEq, Int.reduceNeg, Int.reduceAdd, Int.reduceMul, Int.reduceSub, Int.reduceToNat, reduceCtorEq, ]
  refine lif_dec (fun h3 => ?_) (fun h3 => ?_)
  · simp -implicitDefEqProofs -dsimp (disch := omega) only [go_sem, Nat.reduceEqDiff, ↓reduceIte, Nat.reduceAdd, Nat.reduceMul, Nat.reduceSub, Nat.reduceLT, Nat.reduceLeDiff, Int.reduceLT, Int.reduceLE, Int.reduceEq, Int.reduceNeg, Int.reduceAdd, Int.reduceMul, Int.reduceSub, Int.reduceToNat, reduceCtorEq, ]
    exact short (by rw [rTake, if_neg e1, if_pos (by omega)])
  · obtain ⟨kn, rfl⟩ : ∃ kn : Nat, k = kn := ⟨k.toNat, by omega⟩
    have e : rTake bs a kn = (toldN bs a kn, 0, a + kn) := by rw [rTake, if_neg e1, if_neg (by omega)]; rfl
    simp only [e] at hQ
    obtain ⟨hp1, hs1⟩ := h.pass (c := a + kn) (by omega)
    simp -implicitDefEqProofs -dsimp (disch := omega) only [go_sem, Nat.reduceEqDiff, ↓reduceIte, Nat.reduceAdd, Nat.reduceMul, Nat.reduceSub, Nat.reduceLT, Nat.reduceLeDiff, Int.reduceLT, Int.reduceLE, Int.reduceEq, Int.reduceNeg, Int.reduceAdd, Int.reduceMul, Int.reduceSub, Int.reduceToNat, reduceCtorEq, rd_s h.cell, wr_s h.cell, w64, cadd]
    rw [show ((a + kn : Nat) : Int) - (kn : Int) = (a : Int) by omega]
    refine told64 hp hp1.bytes.arr h.small (show kn ≤ 64 by omega) (by omega) (by omega) ?_
    simp -implicitDefEqProofs -dsimp (disch := omega) only [go_sem, Nat.reduceEqDiff, ↓reduceIte, Nat.reduceAdd, Nat.reduceMul, Nat.reduceSub, Nat.reduceLT, Nat.reduceLeDiff, Int.reduceLT, Int.reduceLE, Int.reduceEq, Int.reduceNeg, Int.reduceAdd, Int.reduceMul, Int.reduceSub, Int.reduceToNat, reduceCtorEq, ]
    exact hQ _ hp1 hs1

theorem rGroup_ct {P : Prog} (hp : HasBits P) {H : Heap} {r : Nat} {v : V} {bs : List Nat} {a : Nat} (h : Rd H r v bs a) {Q : Out → Heap → Prop}
    (h1 : 8 * bs.length < a + 8 → Q (.ret (.tup [.int .u8 0, .bool false])) H)
    (h2 : a + 8 ≤ 8 * bs.length → ∀ H', Rd H' r v bs (a + 8) → Same (fun b => b = r) H H' → Q (.ret (.tup [.int .u8 (toldN bs a 8 : Nat), .bool true])) H') :
    Call P 13 [.ptr (some (r, 0))] H Q := by
  have := h.room; have := h.max
  refine call_of hp.h_bits_Reader_group rfl ?_
  simp -implicitDefEqProofs -dsimp (disch := omega) only [go_sem, Nat.reduceEqDiff, ↓reduceIte, Nat.reduceAdd, Nat.reduceMul, Nat.reduceSub, Nat.reduceLT, Nat.reduceLeDiff, Int.reduceLT, Int.reduceLE, Int.reduceEq, Int.reduceNeg, Int.reduceAdd, Int.reduceMul, Int.reduceSub, Int.reduceToNat, reduceCtorEq, ]
  refine rLeft hp h ?_
  simp -implicitDefEqProofs -dsimp (disch := omega) only [go_sem, Nat.reduceEqDiff, ↓reduceIte, Nat.reduceAdd, Nat.reduceMul, Nat.reduceSub, Nat.reduceLT, Nat.reduceLeDiff, Int.reduceLT, Int.reduceLE, Int.reduceEq, Int.reduceNeg, Int.reduceAdd, Int.reduceMul, Int.reduceSub, Int.reduceToNat, reduceCtorEq, ]
  refine lif_dec (fun h3 => ?_) (fun h3 => ?_)
  · simp -implicitDefEqProofs -dsimp (disch := omega) only [go_sem, Nat.reduceEqDiff, ↓reduceIte, Nat.reduceAdd, Nat.reduceMul, Nat.reduceSub, Nat.reduceLT, Nat.reduceLeDiff, Int.reduceLT, Int.reduceLE, Int.reduceEq, Int.reduceNeg, Int.reduceAdd, Int.reduceMul, Int.reduceSub, Int.reduceToNat, reduceCtorEq, ]
    exact h1 (by omega)
  · obtain ⟨hp1, hs1⟩ := h.pass (c := a + 8) (by omega)
    have e8 : (a : Int) + 8 = ((a + 8 : Nat) : Int) := by omega
    simp -implicitDefEqProofs -dsimp (disch := omega) only [go_sem, Nat.reduceEqDiff, ↓reduceIte, Nat.reduceAdd, Nat.reduceMul, Nat.reduceSub, Nat.reduceLT, Nat.reduceLeDiff, Int.reduceLT, Int.reduceLE, Int.reduceEq, Int.reduceNeg, Int.reduceAdd, Int.reduceMul, Int.reduceSub, Int.reduceToNat, reduceCtorEq, rd_s h.cell, wr_s h.cell, w64, e8]
    rw [show ((a + 8 : Nat) : Int) - 8 = (a : Int) by omega]
    refine told8 hp hp1.bytes.arr h.small (w := 8) (by omega) (by omega) (by omega) ?_
    simp -implicitDefEqProofs -dsimp (disch := omega) only [go_sem, Nat.reduceEqDiff, ↓reduceIte, Nat.reduceAdd, Nat.reduceMul, Nat.reduceSub, Nat.reduceLT, Nat.reduceLeDiff, Int.reduceLT, Int.reduceLE, Int.reduceEq, Int.reduceNeg, Int.reduceAdd, Int.reduceMul, Int.reduceSub, Int.reduceToNat, reduceCtorEq, ]
    exact h2 (by omega) _ hp1 hs1

def rAlign (bs : List Nat) (a : Nat) : Int × Nat := if toldN bs a ((8 - a % 8) % 8) ≠ 0 then (15, a) else (0, a + (8 - a % 8) % 8)
theorem rAlign_ct {P : Prog} (hp : HasBits P) {H : Heap} {r : Nat} {v : V} {bs : List Nat} {a : Nat} (h : Rd H r v bs a) {Q : Out → Heap → Prop}
    (hQ : ∀ H', Rd H' r v bs (rAlign bs a).2 → Same (fun b => b = r) H H' → Q (.ret (.int .i64 (rAlign bs a).1)) H') : Call P 16 [.ptr (some (r, 0))] H Q := by
  have := h.room; have := h.max
  refine call_of hp.h_bits_Reader_Align rfl ?_
  have e1 : (8 - (a : Int) % 8) % 8 = (((8 - a % 8) % 8 : Nat) : Int) := by omega
  simp -implicitDefEqProofs -dsimp (disch := omega) only [go_sem, Nat.reduceEqDiff, ↓reduceIte, Nat.reduceAdd, Nat.reduceMul, Nat.reduceSub, Nat.reduceLT, Nat.reduceLeDiff, Int.reduceLT, Int.reduceLE, Int.reduceEq, Int.reduceNeg, Int.reduceAdd, Int.reduceMul, Int.reduceSub, Int.reduceToNat, reduceCtorEq, rd_s h.cell, w64, tmodN, e1]
  refine told8 hp h.bytes.arr h.small (w := (8 - a % 8) % 8) (by omega) (by omega) (by omega) ?_
  simp -implicitDefEqProofs -dsimp (disch := omega) only [go_sem, Nat.reduceEqDiff, ↓reduceIte, Nat.reduceAdd, Nat.reduceMul, Nat.reduceSub, Nat.reduceLT, Nat.reduceLeDiff, Int.reduceLT, Int.reduceLE, Int.reduceEq, Int.reduceNeg, Int.reduceAdd, Int.reduceMul, Int.reduceSub, Int.reduceToNat, reduceCtorEq, ]
  refine lif_dec (fun h3 => ?_) (fun h3 => ?_)
  · have e : rAlign bs a = (15, a) := by rw [rAlign, if_pos (by omega)]
    simp only [e] at hQ
    simp -implicitDefEqProofs -dsimp (disch := omega) only [go_sem, Nat.reduceEqDiff, ↓reduceIte, Nat.reduceAdd, Nat.reduceMul, Nat.reduceSub, Nat.reduceLT, Nat.reduceLeDiff, Int.reduceLT, Int.reduceLE, Int.reduceEq, Int.reduceNeg, Int.reduceAdd, Int.reduceMul, Int.reduceSub, Int.reduceToNat, reduceCtorEq, ]
    exact hQ H h (Same.refl _ _)
  · have e : rAlign bs a = (0, a + (8 - a % 8) % 8) := by rw [rAlign, if_neg (by omega)]
    simp only [e] at hQ
    obtain ⟨hp1, hs1⟩ := h.pass (c := a + (8 - a % 8) % 8) (by omega)
    simp -implicitDefEqProofs -dsimp (disch := omega) only [go_sem, Nat.reduceEqDiff, ↓reduceIte, Nat.reduceAdd, Nat.reduceMul, Nat.reduceSub, Nat.reduceLT, Nat.reduceLeDiff, Int.reduceLT, Int.reduceLE, Int.reduceEq, Int.reduceNeg, Int.reduceAdd, Int.reduceMul, Int.reduceSub, Int.reduceToNat, reduceCtorEq, rd_s h.cell, wr_s h.cell, w64, cadd]
    exact hQ _ hp1 hs1
end Go.Ab
