/- The law BitsBack: what was written is read again. Conditions: none. -/
import Derived.Test.YtcjkjlgjalanlaaBx
import Derived.Test.YtcjkjlgjalanlaaLawBitsParts
set_option linter.all false
namespace Go.Ab

/-- What an operation lays; which are taken. -/
def layX (l : List Bool) (o : OpN) : List Bool := if o.1 = 0 then bitsOf o.2.1 o.2.2.toNat else if o.1 = 1 then bytesBits (groups o.2.1) else List.replicate ((8 - l.length % 8) % 8) false
def layO (l : List Bool) (o : OpN) : List Bool := l ++ layX l o
def okO (o : OpN) : Prop := (o.1 = 0 → 0 ≤ o.2.2 ∧ o.2.2 ≤ 64 ∧ (o.2.2 < 64 → o.2.1 < 2 ^ o.2.2.toNat)) ∧ o.2.1 < 18446744073709551616
def bitsD (done : List OpN) : List Bool := done.foldl layO []
theorem bitsD_snoc (done : List OpN) (o : OpN) : bitsD (done ++ [o]) = layO (bitsD done) o := by simp [bitsD]
theorem bitsD_pre {done : List OpN} : ∀ {j : Nat}, j ≤ done.length → ∃ rest, bitsD done = bitsD (done.take j) ++ rest := by
  suffices h : ∀ k j, j + k = done.length → ∃ rest, bitsD done = bitsD (done.take j) ++ rest from fun {j} hj => h (done.length - j) j (by omega)
  intro k
  induction k with
  | zero => intro j hj; exact ⟨[], by rw [List.take_of_length_le (by omega), List.append_nil]⟩
  | succ k ih =>
    intro j hj
    obtain ⟨rest, hr⟩ := ih (j + 1) (by omega)
    have hjl : j < done.length := by omega
    refine ⟨layX (bitsD (done.take j)) done[j] ++ rest, ?_⟩
    rw [hr, List.take_succ_eq_append_getElem hjl, bitsD_snoc, layO, List.append_assoc]
theorem layX_le {l : List Bool} {o : OpN} (h : okO o) : (layX l o).length ≤ 80 := by
  unfold layX
  split
  · rename_i h0; have := h.1 h0; rw [bitsOf_length]; omega
  · split
    · have := groups_le h.2; rw [bytesBits_length]; omega
    · rw [List.length_replicate]; omega
theorem tv_false {l : List Bool} {a w : Nat} (h : ∀ i, i < w → l.getD (a + i) false = false) : tv l a w = 0 := by
  induction w with
  | zero => rfl
  | succ w ih => rw [tv, ih fun i hi => h i (by omega), h w (by omega)]; rfl
theorem rAlign_pad {p q : List Bool} {k : Nat} (hk : k = (8 - p.length % 8) % 8) : rAlign (pack (p ++ List.replicate k false ++ q)) p.length = (0, p.length + k) := by
  rw [rAlign, ← hk, if_neg]
  rw [toldN_pack, tv_false]
  · simp
  · intro i hi
    rw [List.getD_eq_getElem?_getD, List.append_assoc, List.getElem?_append_right (by omega), List.getElem?_append_left (by simp; omega), List.getElem?_replicate]
    split <;> rfl
theorem rAlign_end (l : List Bool) : rAlign (pack l) l.length = (0, l.length + (8 - l.length % 8) % 8) := by
  rw [rAlign, if_neg]
  rw [toldN_pack, tv_false]
  · simp
  · intro i hi
    rw [List.getD_eq_getElem?_getD, List.getElem?_eq_none (by omega)]; rfl

def BbI (H : Heap) (p : Nat) (most : Int) (v : V) (ops : List OpN) (w : Nat) (k : Nat) (fr : Fr) (H' : Heap) : Prop :=
  ∃ (i : Nat) (done : List OpN) (y : V), k = ops.length - i ∧ i ≤ ops.length ∧ i ≤ 300 ∧ fr = ⟨[(1, .ptr (some (p, 0))), (3, .ptr (some (w, 0))), (5, y), (6, .int .i64 i)], []⟩ ∧ (∀ o ∈ done, OpOk o ∧ okO o) ∧ done.length ≤ i ∧ (bitsD done).length ≤ 80 * i ∧
    Hs H' [WrA w (bitsD done) 67108864, Lst y 3 done.length (opCells done), Cel p [.int .i64 most, v], Bas H]
def BbJ (done : List OpN) (y : V) (n : Int) (r : Nat) (k : Nat) (fr : Fr) (H' : Heap) : Prop :=
  ∃ j : Nat, k = done.length - j ∧ j ≤ done.length ∧ fr = ⟨[(5, y), (9, .int .i64 n), (10, .ptr (some (r, 0))), (11, .int .i64 j)], []⟩ ∧
    Hs H' [RdA r (pack (bitsD done)) (bitsD (done.take j)).length, Lst y 3 done.length (opCells done)]

theorem bitsBack {P : Prog} (hp : HasL1 P) {H : Heap} {most : Int} {v : V} {ops : List OpN} (hx : Arr H v 3 ops.length (opCells ops)) (ho : ∀ o ∈ ops, OpOk o)
    (hl : ops.length ≤ 140737488351232) : Call P 38 [.agg [.int .i64 most, v]] H fun o _ => o = .ret (.bool true) := by
  obtain ⟨a, c, e', rfl⟩ := hx.shape
  refine call_of hp.law.h_burinlaw1_BitsBack rfl ?_
  have h1 := (Hs.start H).alloc (l := [.int .i64 most, .sl a ops.length c e'])
  simp -implicitDefEqProofs -dsimp (disch := omega) only [go_sem, Nat.reduceEqDiff, ↓reduceIte, Nat.reduceAdd, Nat.reduceMul, Nat.reduceSub, Nat.reduceLT, Nat.reduceLeDiff, Int.reduceLT, Int.reduceLE, Int.reduceEq, Int.reduceNeg, Int.reduceAdd, Int.reduceMul, Int.reduceSub, Int.reduceToNat, reduceCtorEq, ]
  generalize H.new (.cells [.int .i64 most, .sl a ops.length c e'] true) = H1 at h1
  generalize H.next = p at h1
  refine newWriterA hp.bits (m := 67108864) h1 (by omega) (fun h => by omega) (fun _ _ w H2 h2 => ?_)
  rw [show Int.toNat 67108864 = 67108864 by decide] at h2
  simp -implicitDefEqProofs -dsimp (disch := omega) only [go_sem, Nat.reduceEqDiff, ↓reduceIte, Nat.reduceAdd, Nat.reduceMul, Nat.reduceSub, Nat.reduceLT, Nat.reduceLeDiff, Int.reduceLT, Int.reduceLE, Int.reduceEq, Int.reduceNeg, Int.reduceAdd, Int.reduceMul, Int.reduceSub, Int.reduceToNat, reduceCtorEq, dec_t, dec_f, ]
  have h3 : Hs H2 [WrA w (bitsD []) 67108864, Lst (.sl none 0 0 0) 3 0 (opCells []), Cel p [.int .i64 most, .sl a ops.length c e'], Bas H] :=
    (h2.lst (v := .sl none 0 0 0) (e := 3) (n := 0) (L := []) (Same.refl _ _) (own_nil _ _) fun _ h => h.elim).p1
  refine loop_inv (BbI H p most _ ops w) ?_ ops.length _ _ ⟨0, [], _, by omega, by omega, by omega, rfl, (fun _ h => by cases h), by simp, by simp [bitsD], h3⟩
  rintro k fr H4 ⟨i, done, y, hk, hi, hi3, rfl, hdone, hdl, hbl, h4⟩
  generalize hK : rnd (BbI H p most _ ops w) k = K
  have hc := h4.p2.cel
  by_cases hlt : i < ops.length ∧ i < 300
  · obtain ⟨hi1, hi2⟩ := hlt
    obtain ⟨b, o, c2, e2⟩ := hx.at0 (by omega)
    cases e2
    have hr := opRead (hx.same h4.p3.base (fun _ _ h => h)) hi1
    have hok := ho _ (List.getElem_mem hi1)
    generalize ops[i] = q at hr hok
    have hokq := hok
    obtain ⟨qd, qn, qw⟩ := q
    obtain ⟨hd, hn, hw⟩ := hok
    dsimp only at hd hn hw
    have h5 := h4.alloc (l := [.int .i64 qd, .int .u64 qn, .int .i64 qw])
    have hc5 := h5.cel
    simp -implicitDefEqProofs -dsimp (disch := omega) only [go_sem, Nat.reduceEqDiff, ↓reduceIte, Nat.reduceAdd, Nat.reduceMul, Nat.reduceSub, Nat.reduceLT, Nat.reduceLeDiff, Int.reduceLT, Int.reduceLE, Int.reduceEq, Int.reduceNeg, Int.reduceAdd, Int.reduceMul, Int.reduceSub, Int.reduceToNat, reduceCtorEq, dec_t, dec_f, burinlaw1_BitsBack_l1, rd_s hc, Int.toNat_natCast, hr.ra]
    generalize H4.new (.cells [.int .i64 qd, .int .u64 qn, .int .i64 qw] true) = H5 at h5 hc5
    generalize H4.next = bo at h5 hc5
    refine lif_join (fun fr' H' => ∃ (f : Int) (l' : List Bool) (ex : List (Nat × V)), fr' = ⟨(1, .ptr (some (p, 0))) :: (3, .ptr (some (w, 0))) :: (5, y) :: (6, .int .i64 i) :: (7, .ptr (some (bo, 0))) :: (8, .int .i64 f) :: ex, []⟩ ∧
      ((f = 0 ∧ okO (qd, qn, qw) ∧ l' = layO (bitsD done) (qd, qn, qw)) ∨ (f ≠ 0 ∧ l' = bitsD done ∧ qd = 0 ∧ qw ≠ 64)) ∧
      Hs H' [WrA w l' 67108864, Cel bo [.int .i64 qd, .int .u64 qn, .int .i64 qw], Lst y 3 done.length (opCells done), Cel p [.int .i64 most, .sl (some (b, o)) ops.length c 3], Bas H]) ?_ ?_
    · refine lif_dec (fun h0 => ?_) (fun h0 => ?_)
      · simp -implicitDefEqProofs -dsimp (disch := omega) only [go_sem, Nat.reduceEqDiff, ↓reduceIte, Nat.reduceAdd, Nat.reduceMul, Nat.reduceSub, Nat.reduceLT, Nat.reduceLeDiff, Int.reduceLT, Int.reduceLE, Int.reduceEq, Int.reduceNeg, Int.reduceAdd, Int.reduceMul, Int.reduceSub, Int.reduceToNat, reduceCtorEq, dec_t, dec_f, rd_s hc5]
        refine wPutA hp.bits h5.p1 hn hw (fun H6 h6 => ?_)
        simp -implicitDefEqProofs -dsimp (disch := omega) only [go_sem, Nat.reduceEqDiff, ↓reduceIte, Nat.reduceAdd, Nat.reduceMul, Nat.reduceSub, Nat.reduceLT, Nat.reduceLeDiff, Int.reduceLT, Int.reduceLE, Int.reduceEq, Int.reduceNeg, Int.reduceAdd, Int.reduceMul, Int.reduceSub, Int.reduceToNat, reduceCtorEq, dec_t, dec_f, ]
        refine ⟨_, _, [], rfl, ?_, h6⟩
        by_cases hg : 0 ≤ qw ∧ qw ≤ 64 ∧ (qw < 64 → qn < 2 ^ qw.toNat)
        · left
          obtain ⟨kw, rfl⟩ : ∃ kw : Nat, qw = kw := ⟨qw.toNat, by omega⟩
          rw [Int.toNat_natCast] at hg
          rw [wPut_ok (by omega) (fun h => hg.2.2 (by omega)) (by omega)]
          refine ⟨rfl, ⟨fun _ => ?_, hn⟩, ?_⟩
          · simpa using hg
          · subst h0; simp [layO, layX]
        · right
          have hne : qw ≠ 64 := fun e => hg ⟨by omega, by omega, fun h => by omega⟩
          rw [wPut]
          by_cases hb : qw < 0 ∨ 64 < qw
          · rw [if_pos hb]; exact ⟨by simp, rfl, h0, hne⟩
          · rw [if_neg hb, if_pos]
            · exact ⟨by simp, rfl, h0, hne⟩
            · refine ⟨by omega, fun e => hg ⟨by omega, by omega, fun _ => ?_⟩⟩
              exact (Nat.div_eq_zero_iff.1 e).resolve_left (by have := Nat.two_pow_pos qw.toNat; omega)
      · simp -implicitDefEqProofs -dsimp (disch := omega) only [go_sem, Nat.reduceEqDiff, ↓reduceIte, Nat.reduceAdd, Nat.reduceMul, Nat.reduceSub, Nat.reduceLT, Nat.reduceLeDiff, Int.reduceLT, Int.reduceLE, Int.reduceEq, Int.reduceNeg, Int.reduceAdd, Int.reduceMul, Int.reduceSub, Int.reduceToNat, reduceCtorEq, dec_t, dec_f, rd_s hc5]
        refine lif_dec (fun h0' => ?_) (fun h0' => ?_)
        · simp -implicitDefEqProofs -dsimp (disch := omega) only [go_sem, Nat.reduceEqDiff, ↓reduceIte, Nat.reduceAdd, Nat.reduceMul, Nat.reduceSub, Nat.reduceLT, Nat.reduceLeDiff, Int.reduceLT, Int.reduceLE, Int.reduceEq, Int.reduceNeg, Int.reduceAdd, Int.reduceMul, Int.reduceSub, Int.reduceToNat, reduceCtorEq, dec_t, dec_f, rd_s hc5]
          refine wVarA hp.bits h5.p1 hn (fun H6 h6 => ?_)
          have hgl := groups_le hn
          rw [wVar, if_neg (by omega)] at h6 ⊢
          simp -implicitDefEqProofs -dsimp (disch := omega) only [go_sem, Nat.reduceEqDiff, ↓reduceIte, Nat.reduceAdd, Nat.reduceMul, Nat.reduceSub, Nat.reduceLT, Nat.reduceLeDiff, Int.reduceLT, Int.reduceLE, Int.reduceEq, Int.reduceNeg, Int.reduceAdd, Int.reduceMul, Int.reduceSub, Int.reduceToNat, reduceCtorEq, dec_t, dec_f, ]
          refine ⟨_, _, [], rfl, Or.inl ⟨rfl, ⟨fun e => absurd e h0, hn⟩, ?_⟩, h6⟩
          subst h0'; simp [layO, layX]
        · simp -implicitDefEqProofs -dsimp (disch := omega) only [go_sem, Nat.reduceEqDiff, ↓reduceIte, Nat.reduceAdd, Nat.reduceMul, Nat.reduceSub, Nat.reduceLT, Nat.reduceLeDiff, Int.reduceLT, Int.reduceLE, Int.reduceEq, Int.reduceNeg, Int.reduceAdd, Int.reduceMul, Int.reduceSub, Int.reduceToNat, reduceCtorEq, dec_t, dec_f, ]
          refine wAlignA hp.bits h5.p1 (fun H6 h6 => ?_)
          simp -implicitDefEqProofs -dsimp (disch := omega) only [go_sem, Nat.reduceEqDiff, ↓reduceIte, Nat.reduceAdd, Nat.reduceMul, Nat.reduceSub, Nat.reduceLT, Nat.reduceLeDiff, Int.reduceLT, Int.reduceLE, Int.reduceEq, Int.reduceNeg, Int.reduceAdd, Int.reduceMul, Int.reduceSub, Int.reduceToNat, reduceCtorEq, dec_t, dec_f, ]
          refine ⟨_, _, [], rfl, Or.inl ⟨rfl, ⟨fun e => absurd e h0, hn⟩, ?_⟩, h6⟩
          simp [layO, layX, wAlign, h0, h0']
    · rintro fr' H' ⟨f, l', ex, rfl, hcase, h8⟩
      have hc8 := h8.p1.cel
      rcases hcase with ⟨rfl, hgood, rfl⟩ | ⟨hf, rfl, hq0, hq64⟩
      · have hown := h8.p2.own
        obtain ⟨y2, H9, a9, o9, s9, f9⟩ := app_one (eb := 24) (M := [.int .i64 qd, .int .u64 qn, .int .i64 qw]) (m := 1) hown rfl rfl (by omega) (by omega)
        simp -implicitDefEqProofs -dsimp (disch := omega) only [go_sem, Nat.reduceEqDiff, ↓reduceIte, Nat.reduceAdd, Nat.reduceMul, Nat.reduceSub, Nat.reduceLT, Nat.reduceLeDiff, Int.reduceLT, Int.reduceLE, Int.reduceEq, Int.reduceNeg, Int.reduceAdd, Int.reduceMul, Int.reduceSub, Int.reduceToNat, reduceCtorEq, dec_t, dec_f, rd_m hc8, a9]
        have h9 : Hs H9 [Lst y2 3 (done ++ [(qd, qn, qw)]).length (opCells (done ++ [(qd, qn, qw)])), WrA w (layO (bitsD done) (qd, qn, qw)) 67108864, Cel bo [.int .i64 qd, .int .u64 qn, .int .i64 qw], Cel p [.int .i64 most, .sl (some (b, o)) ops.length c 3], Bas H] :=
          h8.p2.lst' s9 (by rw [List.length_append]; simpa [opCells] using o9) f9
        rw [← bitsD_snoc] at h9
        have hx80 := layX_le (l := bitsD done) hgood
        simp -implicitDefEqProofs -dsimp (disch := omega) only [go_sem, Nat.reduceEqDiff, ↓reduceIte, Nat.reduceAdd, Nat.reduceMul, Nat.reduceSub, Nat.reduceLT, Nat.reduceLeDiff, Int.reduceLT, Int.reduceLE, Int.reduceEq, Int.reduceNeg, Int.reduceAdd, Int.reduceMul, Int.reduceSub, Int.reduceToNat, reduceCtorEq, dec_t, dec_f, w64, cadd1]
        subst hK
        refine rnd_n (ops.length - (i + 1)) (by omega) ⟨i + 1, done ++ [(qd, qn, qw)], y2, rfl, by omega, by omega, rfl, fun o' ho' => ?_, by simp; omega, ?_, h9.sel [1, 0, 3, 4] (by decide)⟩
        · rcases List.mem_append.1 ho' with h | h
          · exact hdone o' h
          · rw [List.mem_singleton.1 h]; exact ⟨hokq, hgood⟩
        · rw [bitsD_snoc, layO, List.length_append]; omega
      · subst hq0
        simp -implicitDefEqProofs -dsimp (disch := omega) only [go_sem, Nat.reduceEqDiff, ↓reduceIte, Nat.reduceAdd, Nat.reduceMul, Nat.reduceSub, Nat.reduceLT, Nat.reduceLeDiff, Int.reduceLT, Int.reduceLE, Int.reduceEq, Int.reduceNeg, Int.reduceAdd, Int.reduceMul, Int.reduceSub, Int.reduceToNat, reduceCtorEq, dec_t, dec_f, rd_s hc8, w64, cadd1]
        subst hK
        exact rnd_n (ops.length - (i + 1)) (by omega) ⟨i + 1, done, y, rfl, by omega, by omega, rfl, hdone, by omega, by omega, h8.sel [0, 2, 3, 4] (by decide)⟩
  · rcases (show i = ops.length ∨ (i < ops.length ∧ i = 300) by omega) with h | h <;>
    · simp -implicitDefEqProofs -dsimp (disch := omega) only [go_sem, Nat.reduceEqDiff, ↓reduceIte, Nat.reduceAdd, Nat.reduceMul, Nat.reduceSub, Nat.reduceLT, Nat.reduceLeDiff, Int.reduceLT, Int.reduceLE, Int.reduceEq, Int.reduceNeg, Int.reduceAdd, Int.reduceMul, Int.reduceSub, Int.reduceToNat, reduceCtorEq, dec_t, dec_f, burinlaw1_BitsBack_l1, rd_s hc]
      subst hK
      simp -implicitDefEqProofs -dsimp (disch := omega) only [go_sem, Nat.reduceEqDiff, ↓reduceIte, Nat.reduceAdd, Nat.reduceMul, Nat.reduceSub, Nat.reduceLT, Nat.reduceLeDiff, Int.reduceLT, Int.reduceLE, Int.reduceEq, Int.reduceNeg, Int.reduceAdd, Int.reduceMul, Int.reduceSub, Int.reduceToNat, reduceCtorEq, dec_t, dec_f, ]
      have hpl := pack_length (bitsD done)
      refine wLenA hp.bits h4 ?_
      simp -implicitDefEqProofs -dsimp (disch := omega) only [go_sem, Nat.reduceEqDiff, ↓reduceIte, Nat.reduceAdd, Nat.reduceMul, Nat.reduceSub, Nat.reduceLT, Nat.reduceLeDiff, Int.reduceLT, Int.reduceLE, Int.reduceEq, Int.reduceNeg, Int.reduceAdd, Int.reduceMul, Int.reduceSub, Int.reduceToNat, reduceCtorEq, dec_t, dec_f, ]
      refine wBytesA hp.bits h4 (fun y1 H5 h5 => ?_)
      simp -implicitDefEqProofs -dsimp (disch := omega) only [go_sem, Nat.reduceEqDiff, ↓reduceIte, Nat.reduceAdd, Nat.reduceMul, Nat.reduceSub, Nat.reduceLT, Nat.reduceLeDiff, Int.reduceLT, Int.reduceLE, Int.reduceEq, Int.reduceNeg, Int.reduceAdd, Int.reduceMul, Int.reduceSub, Int.reduceToNat, reduceCtorEq, dec_t, dec_f, ]
      refine newReaderA hp.bits h5 h5.own.arr (pack_lt _) (by omega) (fun r1 H6 h6 => ?_)
      simp -implicitDefEqProofs -dsimp (disch := omega) only [go_sem, Nat.reduceEqDiff, ↓reduceIte, Nat.reduceAdd, Nat.reduceMul, Nat.reduceSub, Nat.reduceLT, Nat.reduceLeDiff, Int.reduceLT, Int.reduceLE, Int.reduceEq, Int.reduceNeg, Int.reduceAdd, Int.reduceMul, Int.reduceSub, Int.reduceToNat, reduceCtorEq, dec_t, dec_f, ]
      refine loop_inv (BbJ done y _ r1) ?_ _ _ _ ⟨0, rfl, by omega, rfl, h6.sel [0, 3] (by decide)⟩
      clear h6 h5
      rintro k2 fr2 H7 ⟨j, hk2, hj, rfl, h7⟩
      generalize hK2 : rnd (BbJ done y _ r1) k2 = K2
      by_cases hj2 : j < done.length
      · obtain ⟨b, o, c2, e2⟩ := h7.p1.own.arr.at0 (by omega)
        subst e2
        have hr := opRead h7.p1.own.arr.fix hj2
        have hok := hdone _ (List.getElem_mem hj2)
        obtain ⟨rest, hrest⟩ := bitsD_pre (done := done) (j := j + 1) (by omega)
        have htake : bitsD (done.take (j + 1)) = bitsD (done.take j) ++ layX (bitsD (done.take j)) done[j] := by
          rw [List.take_succ_eq_append_getElem hj2, bitsD_snoc, layO]
        have hlen1 : (bitsD (done.take (j + 1))).length = (bitsD (done.take j)).length + (layX (bitsD (done.take j)) done[j]).length := by rw [htake, List.length_append]
        have hpre : (bitsD (done.take (j + 1))).length ≤ (bitsD done).length := by rw [hrest, List.length_append]; omega
        rw [htake] at hrest
        have hcap := h7.p1.own.arr.fix.cap.1
        generalize hLd : bitsD done = L at *
        generalize hA1 : bitsD (done.take (j + 1)) = A1 at *
        generalize bitsD (done.take j) = A at *
        generalize done[j] = q at hr hok hrest hlen1
        obtain ⟨qd, qn, qw⟩ := q
        obtain ⟨⟨hd, hn, hw⟩, hokq, _⟩ := hok
        dsimp only at hd hn hw hokq
        have h8 := h7.alloc (l := [.int .i64 qd, .int .u64 qn, .int .i64 qw])
        have hc8 := h8.cel
        simp -implicitDefEqProofs -dsimp (disch := omega) only [go_sem, Nat.reduceEqDiff, ↓reduceIte, Nat.reduceAdd, Nat.reduceMul, Nat.reduceSub, Nat.reduceLT, Nat.reduceLeDiff, Int.reduceLT, Int.reduceLE, Int.reduceEq, Int.reduceNeg, Int.reduceAdd, Int.reduceMul, Int.reduceSub, Int.reduceToNat, reduceCtorEq, dec_t, dec_f, burinlaw1_BitsBack_l0, Int.toNat_natCast, hr.ra]
        generalize H7.new (.cells [.int .i64 qd, .int .u64 qn, .int .i64 qw] true) = H8 at h8 hc8
        generalize H7.next = bo at h8 hc8
        refine rLeftA hp.bits h8.p1 ?_
        simp -implicitDefEqProofs -dsimp (disch := omega) only [go_sem, Nat.reduceEqDiff, ↓reduceIte, Nat.reduceAdd, Nat.reduceMul, Nat.reduceSub, Nat.reduceLT, Nat.reduceLeDiff, Int.reduceLT, Int.reduceLE, Int.reduceEq, Int.reduceNeg, Int.reduceAdd, Int.reduceMul, Int.reduceSub, Int.reduceToNat, reduceCtorEq, dec_t, dec_f, rd_s hc8]
        refine lif_join (fun fr' H' => ∃ (ex : List (Nat × V)), fr' = ⟨(5, .sl (some (b, o)) done.length c2 3) :: (9, .int .i64 L.length) :: (10, .ptr (some (r1, 0))) :: (11, .int .i64 j) :: (12, .ptr (some (bo, 0))) :: (14, .int .u64 qn) :: (15, .int .i64 0) :: ex, []⟩ ∧
          Hs H' [RdA r1 (pack L) A1.length, Cel bo [.int .i64 qd, .int .u64 qn, .int .i64 qw], Lst (.sl (some (b, o)) done.length c2 3) 3 done.length (opCells done)]) ?_ ?_
        · refine lif_dec (fun h0 => ?_) (fun h0 => ?_)
          · subst h0
            obtain ⟨k1, k2, k3⟩ := hokq rfl
            obtain ⟨kw, rfl⟩ : ∃ kw : Nat, qw = kw := ⟨qw.toNat, by omega⟩
            rw [Int.toNat_natCast] at k3
            simp only [layX, if_true, Int.toNat_natCast] at hrest hlen1
            rw [bitsOf_length] at hlen1
            have hval : qn % 2 ^ kw = qn := by
              by_cases h64 : kw < 64
              · exact Nat.mod_eq_of_lt (k3 (by omega))
              · have : kw = 64 := by omega
                subst this; exact Nat.mod_eq_of_lt hn
            have htk : rTake (pack L) A.length kw = (qn, 0, A1.length) := by
              rw [rTake_ok (by omega) (by omega), hrest, told_app, hval, hlen1]
            simp -implicitDefEqProofs -dsimp (disch := omega) only [go_sem, Nat.reduceEqDiff, ↓reduceIte, Nat.reduceAdd, Nat.reduceMul, Nat.reduceSub, Nat.reduceLT, Nat.reduceLeDiff, Int.reduceLT, Int.reduceLE, Int.reduceEq, Int.reduceNeg, Int.reduceAdd, Int.reduceMul, Int.reduceSub, Int.reduceToNat, reduceCtorEq, dec_t, dec_f, rd_s hc8]
            refine rTakeA hp.bits h8.p1 (fun H9 h9 => ?_)
            rw [htk] at h9 ⊢
            dsimp only at h9
            have hc9 := h9.p1.cel
            simp -implicitDefEqProofs -dsimp (disch := omega) only [go_sem, Nat.reduceEqDiff, ↓reduceIte, Nat.reduceAdd, Nat.reduceMul, Nat.reduceSub, Nat.reduceLT, Nat.reduceLeDiff, Int.reduceLT, Int.reduceLE, Int.reduceEq, Int.reduceNeg, Int.reduceAdd, Int.reduceMul, Int.reduceSub, Int.reduceToNat, reduceCtorEq, dec_t, dec_f, rd_s hc9]
            refine rLeftA hp.bits h9 ?_
            simp -implicitDefEqProofs -dsimp (disch := omega) only [go_sem, Nat.reduceEqDiff, ↓reduceIte, Nat.reduceAdd, Nat.reduceMul, Nat.reduceSub, Nat.reduceLT, Nat.reduceLeDiff, Int.reduceLT, Int.reduceLE, Int.reduceEq, Int.reduceNeg, Int.reduceAdd, Int.reduceMul, Int.reduceSub, Int.reduceToNat, reduceCtorEq, dec_t, dec_f, ]
            refine aft_intro (by simp [rechecks, recheck, fresh, Fr.get, look, step, opd, rd_s hc9]) ?_
            simp -implicitDefEqProofs -dsimp (disch := omega) only [go_sem, Nat.reduceEqDiff, ↓reduceIte, Nat.reduceAdd, Nat.reduceMul, Nat.reduceSub, Nat.reduceLT, Nat.reduceLeDiff, Int.reduceLT, Int.reduceLE, Int.reduceEq, Int.reduceNeg, Int.reduceAdd, Int.reduceMul, Int.reduceSub, Int.reduceToNat, reduceCtorEq, dec_t, dec_f, w64]
            exact ⟨_, rfl, h9⟩
          · simp -implicitDefEqProofs -dsimp (disch := omega) only [go_sem, Nat.reduceEqDiff, ↓reduceIte, Nat.reduceAdd, Nat.reduceMul, Nat.reduceSub, Nat.reduceLT, Nat.reduceLeDiff, Int.reduceLT, Int.reduceLE, Int.reduceEq, Int.reduceNeg, Int.reduceAdd, Int.reduceMul, Int.reduceSub, Int.reduceToNat, reduceCtorEq, dec_t, dec_f, rd_s hc8]
            refine lif_dec (fun h1 => ?_) (fun h1 => ?_)
            · subst h1
              simp only [layX, if_neg h0, if_true] at hrest hlen1
              rw [bytesBits_length] at hlen1
              have hrv : rVar (pack L) A.length = (qn, 0, A1.length) := by rw [rVar_pack hrest hn, hlen1]
              simp -implicitDefEqProofs -dsimp (disch := omega) only [go_sem, Nat.reduceEqDiff, ↓reduceIte, Nat.reduceAdd, Nat.reduceMul, Nat.reduceSub, Nat.reduceLT, Nat.reduceLeDiff, Int.reduceLT, Int.reduceLE, Int.reduceEq, Int.reduceNeg, Int.reduceAdd, Int.reduceMul, Int.reduceSub, Int.reduceToNat, reduceCtorEq, dec_t, dec_f, ]
              refine rVarA hp.bits h8.p1 (fun H9 h9 => ?_)
              rw [hrv] at h9 ⊢
              dsimp only at h9
              have hc9 := h9.p1.cel
              simp -implicitDefEqProofs -dsimp (disch := omega) only [go_sem, Nat.reduceEqDiff, ↓reduceIte, Nat.reduceAdd, Nat.reduceMul, Nat.reduceSub, Nat.reduceLT, Nat.reduceLeDiff, Int.reduceLT, Int.reduceLE, Int.reduceEq, Int.reduceNeg, Int.reduceAdd, Int.reduceMul, Int.reduceSub, Int.reduceToNat, reduceCtorEq, dec_t, dec_f, rd_s hc9]
              refine rLeftA hp.bits h9 ?_
              simp -implicitDefEqProofs -dsimp (disch := omega) only [go_sem, Nat.reduceEqDiff, ↓reduceIte, Nat.reduceAdd, Nat.reduceMul, Nat.reduceSub, Nat.reduceLT, Nat.reduceLeDiff, Int.reduceLT, Int.reduceLE, Int.reduceEq, Int.reduceNeg, Int.reduceAdd, Int.reduceMul, Int.reduceSub, Int.reduceToNat, reduceCtorEq, dec_t, dec_f, ]
              refine aft_intro (by simp [rechecks, recheck, fresh, Fr.get, look, step, opd, rd_s hc9]) ?_
              simp -implicitDefEqProofs -dsimp (disch := omega) only [go_sem, Nat.reduceEqDiff, ↓reduceIte, Nat.reduceAdd, Nat.reduceMul, Nat.reduceSub, Nat.reduceLT, Nat.reduceLeDiff, Int.reduceLT, Int.reduceLE, Int.reduceEq, Int.reduceNeg, Int.reduceAdd, Int.reduceMul, Int.reduceSub, Int.reduceToNat, reduceCtorEq, dec_t, dec_f, w64]
              refine groups_ct hp.ref hn (fun v10 H10 b10 s10 f10 => ?_)
              obtain ⟨a11, c11, e11, hv11⟩ := b10.arr.shape
              subst hv11
              have hgl := groups_le hn
              simp -implicitDefEqProofs -dsimp (disch := omega) only [go_sem, Nat.reduceEqDiff, ↓reduceIte, Nat.reduceAdd, Nat.reduceMul, Nat.reduceSub, Nat.reduceLT, Nat.reduceLeDiff, Int.reduceLT, Int.reduceLE, Int.reduceEq, Int.reduceNeg, Int.reduceAdd, Int.reduceMul, Int.reduceSub, Int.reduceToNat, reduceCtorEq, dec_t, dec_f, w64]
              exact ⟨_, rfl, h9.keep s10⟩
            · simp only [layX, if_neg h0, if_neg h1] at hrest hlen1
              rw [List.length_replicate] at hlen1
              have hra : rAlign (pack L) A.length = (0, A1.length) := by rw [hrest, rAlign_pad rfl, hlen1]
              simp -implicitDefEqProofs -dsimp (disch := omega) only [go_sem, Nat.reduceEqDiff, ↓reduceIte, Nat.reduceAdd, Nat.reduceMul, Nat.reduceSub, Nat.reduceLT, Nat.reduceLeDiff, Int.reduceLT, Int.reduceLE, Int.reduceEq, Int.reduceNeg, Int.reduceAdd, Int.reduceMul, Int.reduceSub, Int.reduceToNat, reduceCtorEq, dec_t, dec_f, ]
              refine rAlignA hp.bits h8.p1 (fun H9 h9 => ?_)
              rw [hra] at h9 ⊢
              dsimp only at h9
              have hc9 := h9.p1.cel
              simp -implicitDefEqProofs -dsimp (disch := omega) only [go_sem, Nat.reduceEqDiff, ↓reduceIte, Nat.reduceAdd, Nat.reduceMul, Nat.reduceSub, Nat.reduceLT, Nat.reduceLeDiff, Int.reduceLT, Int.reduceLE, Int.reduceEq, Int.reduceNeg, Int.reduceAdd, Int.reduceMul, Int.reduceSub, Int.reduceToNat, reduceCtorEq, dec_t, dec_f, rd_s hc9]
              exact ⟨_, rfl, h9⟩
        · rintro fr' H' ⟨ex, rfl, h9⟩
          have hc9 := h9.p1.cel
          simp -implicitDefEqProofs -dsimp (disch := omega) only [go_sem, Nat.reduceEqDiff, ↓reduceIte, Nat.reduceAdd, Nat.reduceMul, Nat.reduceSub, Nat.reduceLT, Nat.reduceLeDiff, Int.reduceLT, Int.reduceLE, Int.reduceEq, Int.reduceNeg, Int.reduceAdd, Int.reduceMul, Int.reduceSub, Int.reduceToNat, reduceCtorEq, dec_t, dec_f, rd_s hc9, w64, cadd1]
          subst hK2
          exact rnd_n (done.length - (j + 1)) (by omega) ⟨j + 1, rfl, by omega, rfl, by rw [hLd, hA1]; exact h9.sel [0, 2] (by decide)⟩
      · obtain rfl : j = done.length := by omega
        obtain ⟨a7, c7, e7, hy7⟩ := h7.p1.own.arr.shape
        subst hy7
        rw [List.take_length] at h7
        have hrE := rAlign_end (bitsD done)
        generalize bitsD done = L at *
        have em : (8 : Int) - (L.length : Int) % 8 = ((8 - L.length % 8 : Nat) : Int) := by omega
        have em2 : ((8 - L.length % 8 : Nat) : Int) % 8 = (((8 - L.length % 8) % 8 : Nat) : Int) := by omega
        simp -implicitDefEqProofs -dsimp (disch := omega) only [go_sem, Nat.reduceEqDiff, ↓reduceIte, Nat.reduceAdd, Nat.reduceMul, Nat.reduceSub, Nat.reduceLT, Nat.reduceLeDiff, Int.reduceLT, Int.reduceLE, Int.reduceEq, Int.reduceNeg, Int.reduceAdd, Int.reduceMul, Int.reduceSub, Int.reduceToNat, reduceCtorEq, dec_t, dec_f, burinlaw1_BitsBack_l0]
        subst hK2
        simp -implicitDefEqProofs -dsimp (disch := omega) only [go_sem, Nat.reduceEqDiff, ↓reduceIte, Nat.reduceAdd, Nat.reduceMul, Nat.reduceSub, Nat.reduceLT, Nat.reduceLeDiff, Int.reduceLT, Int.reduceLE, Int.reduceEq, Int.reduceNeg, Int.reduceAdd, Int.reduceMul, Int.reduceSub, Int.reduceToNat, reduceCtorEq, dec_t, dec_f, ]
        refine rLeftA hp.bits h7 ?_
        have e8 : 8 * (pack L).length - L.length = (8 - L.length % 8) % 8 := by omega
        rw [e8]
        simp -implicitDefEqProofs -dsimp (disch := omega) only [go_sem, Nat.reduceEqDiff, ↓reduceIte, Nat.reduceAdd, Nat.reduceMul, Nat.reduceSub, Nat.reduceLT, Nat.reduceLeDiff, Int.reduceLT, Int.reduceLE, Int.reduceEq, Int.reduceNeg, Int.reduceAdd, Int.reduceMul, Int.reduceSub, Int.reduceToNat, reduceCtorEq, dec_t, dec_f, tmodN, w64, em, em2]
        refine rAlignA hp.bits h7 (fun H9 h9 => ?_)
        rw [hrE] at h9 ⊢
        dsimp only at h9
        simp -implicitDefEqProofs -dsimp (disch := omega) only [go_sem, Nat.reduceEqDiff, ↓reduceIte, Nat.reduceAdd, Nat.reduceMul, Nat.reduceSub, Nat.reduceLT, Nat.reduceLeDiff, Int.reduceLT, Int.reduceLE, Int.reduceEq, Int.reduceNeg, Int.reduceAdd, Int.reduceMul, Int.reduceSub, Int.reduceToNat, reduceCtorEq, dec_t, dec_f, ]
        refine rLeftA hp.bits h9 ?_
        rw [show 8 * (pack L).length - (L.length + (8 - L.length % 8) % 8) = 0 by omega]
        simp -implicitDefEqProofs -dsimp (disch := omega) only [go_sem, Nat.reduceEqDiff, ↓reduceIte, Nat.reduceAdd, Nat.reduceMul, Nat.reduceSub, Nat.reduceLT, Nat.reduceLeDiff, Int.reduceLT, Int.reduceLE, Int.reduceEq, Int.reduceNeg, Int.reduceAdd, Int.reduceMul, Int.reduceSub, Int.reduceToNat, reduceCtorEq, dec_t, dec_f, show ((0 : Nat) : Int) = 0 from rfl]
        refine wakes hp (fun H10 _ => ?_)
        simp -implicitDefEqProofs -dsimp (disch := omega) only [go_sem, Nat.reduceEqDiff, ↓reduceIte, Nat.reduceAdd, Nat.reduceMul, Nat.reduceSub, Nat.reduceLT, Nat.reduceLeDiff, Int.reduceLT, Int.reduceLE, Int.reduceEq, Int.reduceNeg, Int.reduceAdd, Int.reduceMul, Int.reduceSub, Int.reduceToNat, reduceCtorEq, dec_t, dec_f, ]
theorem law_BitsBack {P : Prog} (hp : HasL1 P) (H : Heap) (cs : List V) (x : TD.Ty scriptTD) (h : Is H scriptTD cs x) : Call P 38 [argV scriptTD cs] H fun o _ => o = .ret (.bool true) := by
  obtain ⟨most, v, ops, rfl, h1, h2, h3, h4⟩ := is_script h
  exact bitsBack hp h2 h3 h4
end Go.Ab
