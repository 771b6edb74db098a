/- Runs come into boxes: the second loop of comps.Of. Conditions: none. -/
import Derived.Test.YtfgecfbknpifjaaTe
set_option linter.all false
namespace Go.Ab
/-- A run comes into the box of its root. -/
def addB : List BoxP → Nat → Plc → List BoxP
  | [], root, q => [BoxP.add ⟨root, q.1.1, q.2, q.1.2, q.2 + 1, []⟩ q]
  | b :: r, root, q => if b.root = root then b.add q :: r else b :: addB r root q
/-- The boxes of the first i runs. -/
def boxes (ρ : Nat → Nat) (PL : List Plc) : Nat → List BoxP
  | 0 => []
  | i + 1 => match PL[i]? with | some q => addB (boxes ρ PL i) (ρ i) q | none => boxes ρ PL i
def esB (BS : List BoxR) : List (Int × V) := BS.map fun b => (((b.p.root : Nat) : Int), V.ptr (some (b.blk, 0)))
theorem es_cases : ∀ (BS : List BoxR) (root : Nat) (q : Plc),
    (mget (esB BS) root = none ∧ addB (BS.map BoxR.p) root q = BS.map BoxR.p ++ [BoxP.add ⟨root, q.1.1, q.2, q.1.2, q.2 + 1, []⟩ q] ∧ ∀ v, mput (esB BS) root v = esB BS ++ [((root : Int), v)]) ∨
    ∃ pre b post, BS = pre ++ b :: post ∧ b.p.root = root ∧ mget (esB BS) root = some (.ptr (some (b.blk, 0))) ∧ addB (BS.map BoxR.p) root q = pre.map BoxR.p ++ b.p.add q :: post.map BoxR.p
  | [], root, q => .inl ⟨rfl, rfl, fun _ => rfl⟩
  | b :: BS, root, q => by
    by_cases h : b.p.root = root
    · exact .inr ⟨[], b, BS, rfl, h, by simp [esB, mget, h], by simp [addB, h]⟩
    · have hi : ¬ ((root : Nat) : Int) = ((b.p.root : Nat) : Int) := by omega
      rcases es_cases BS root q with ⟨h1, h2, h3⟩ | ⟨pre, c, post, rfl, h2, h3, h4⟩
      · refine .inl ⟨?_, ?_, fun v => ?_⟩
        · show mget (_ :: esB BS) _ = _
          rw [mget, if_neg hi]; exact h1
        · show addB (b.p :: BS.map BoxR.p) root q = _
          rw [addB, if_neg h, h2]; rfl
        · show mput (_ :: esB BS) _ v = _
          rw [mput, if_neg hi, h3]; rfl
      · refine .inr ⟨b :: pre, c, post, rfl, h2, ?_, ?_⟩
        · show mget (_ :: esB (pre ++ c :: post)) _ = _
          rw [mget, if_neg hi]; exact h3
        · show addB (b.p :: (pre ++ c :: post).map BoxR.p) root q = _
          rw [addB, if_neg h, h4]; rfl
theorem pc_rd {H : Heap} {v : V} {L : List Plc} (h : Arr H v 3 L.length (pcells L)) {a : Nat} (ha : a < L.length) :
    ∃ b o c, v = .sl (some (b, o)) L.length c 3 ∧ rd H (some 3) b (o + a * 3) = some (.agg [.int .i64 L[a].1.1, .int .i64 L[a].1.2, .int .i64 (L[a].2 : Nat)]) := by
  obtain ⟨b, o, c, rfl, _, h1, h2⟩ := h.at ha
  refine ⟨b, o, c, rfl, ?_⟩
  have := h2 0 3 (by omega)
  rw [Nat.add_zero, Nat.add_zero, pcells_at ha] at this; exact this
theorem box_perm (a c d e : As) (pre post : List BoxR) (b : BoxR) (R : List As) :
    (a :: c :: d :: e :: ((pre ++ b :: post).flatMap BoxR.as ++ R)).Perm (b.as ++ (c :: a :: d :: e :: (pre.flatMap BoxR.as ++ (post.flatMap BoxR.as ++ R)))) := by
  classical
  refine List.perm_iff_count.2 fun x => ?_
  simp only [List.flatMap_append, List.flatMap_cons, List.count_append, List.count_cons]
  ac_rfl
theorem box_perm2 (a d e : As) (pre post : List BoxR) (b : BoxR) (R : List As) :
    (b.as ++ (a :: d :: e :: (pre.flatMap BoxR.as ++ (post.flatMap BoxR.as ++ R)))).Perm (a :: d :: e :: ((pre ++ b :: post).flatMap BoxR.as ++ R)) := by
  classical
  refine List.perm_iff_count.2 fun x => ?_
  simp only [List.flatMap_append, List.flatMap_cons, List.count_append, List.count_cons]
  ac_rfl
theorem addB_len : ∀ (bs : List BoxP) (root : Nat) (q : Plc) (n : Nat), (∀ b ∈ bs, b.l.length ≤ n) → ∀ b ∈ addB bs root q, b.l.length ≤ n + 1
  | [], root, q, n, _, b, hb => by simp [addB, BoxP.add] at hb; subst hb; simp
  | c :: bs, root, q, n, h, b, hb => by
    unfold addB at hb
    split at hb
    · rcases List.mem_cons.1 hb with rfl | hb
      · have := h c (List.mem_cons_self ..); simp [BoxP.add]; omega
      · have := h b (List.mem_cons_of_mem _ hb); omega
    · rcases List.mem_cons.1 hb with rfl | hb
      · have := h b (List.mem_cons_self ..); omega
      · exact addB_len bs root q n (fun x hx => h x (List.mem_cons_of_mem _ hx)) b hb
theorem boxes_len (ρ : Nat → Nat) (PL : List Plc) : ∀ i, ∀ b ∈ boxes ρ PL i, b.l.length ≤ i
  | 0, b, hb => by simp [boxes] at hb
  | i + 1, b, hb => by
    unfold boxes at hb
    split at hb
    · exact addB_len _ _ _ i (boxes_len ρ PL i) b hb
    · have := boxes_len ρ PL i b hb; omega
section
variable {P : Prog} {H : Heap} {R : List As} {Q : Post}
structure BxS where
  i : Nat
  F : List Nat
  BS : List BoxR
set_option maxHeartbeats 1000000 in
theorem of_boxes (hp : HasCo P) {t : Tag Q} {s : Tag comps_Of_l3} {fv av : V} {m : Nat} {F : List Nat} {ρ : Nat → Nat} {PL : List Plc} (hF : Fst F ρ) (hFl : F.length = PL.length) (hl : PL.length ≤ 1048576) (hy : ∀ q ∈ PL, q.2 < 1048576)
    (hs : Hs H (Lst fv 1 F.length (iV F) :: Lst av 3 PL.length (pcells PL) :: Ob m (.map []) :: R))
    (hK : ∀ F' BS H' ex, BS.map BoxR.p = boxes ρ PL PL.length → Hs H' (Lst fv 1 F.length (iV F') :: Lst av 3 PL.length (pcells PL) :: Ob m (.map (esB BS)) :: (BS.flatMap BoxR.as ++ R)) →
      Q (.exit 4) ⟨(6, fv) :: (13, .map (some m)) :: ex, []⟩ H') :
    loopL (Call P) [6, 13, 84, 85, 86] comps_Of_l3 Q t s ⟨[(6, fv), (13, .map (some m)), (84, av), (85, .int .i64 (PL.length : Nat)), (86, .int .i64 ((0 : Nat) : Int))], []⟩ H := by
  refine loop_dec (σ := BxS) (fun x => PL.length - x.i) (fun x => ⟨[(6, fv), (13, .map (some m)), (84, av), (85, .int .i64 (PL.length : Nat)), (86, .int .i64 (x.i : Nat))], []⟩)
    (fun x H => x.i ≤ PL.length ∧ x.F.length = F.length ∧ Fst x.F ρ ∧ x.BS.map BoxR.p = boxes ρ PL x.i ∧ Hs H (Lst fv 1 x.F.length (iV x.F) :: Lst av 3 PL.length (pcells PL) :: Ob m (.map (esB x.BS)) :: (x.BS.flatMap BoxR.as ++ R)))
    (fun x H1 K ⟨hi, hl1, hf, hbs, h1⟩ hn hx hrr => ?_) ⟨0, F, []⟩ H ⟨Nat.zero_le _, rfl, hF, rfl, hs⟩
  obtain ⟨i, G, BS⟩ := x
  dsimp only at hi hl1 hf hbs h1 hn
  by_cases hlt : i < PL.length
  · obtain ⟨ab, ao, ac, rfl, r1⟩ := pc_rd h1.p1.own.arr hlt
    have hq0 := hy _ (List.getElem_mem hlt)
    have eQ := List.getElem?_eq_getElem hlt
    generalize PL[i] = q at r1 hq0 eQ
    obtain ⟨⟨q1, q2⟩, qy⟩ := q
    have h2 := h1.alloc (l := [.int .i64 q1, .int .i64 q2, .int .i64 (qy : Nat)])
    rw [l3_eq]
    simp -implicitDefEqProofs -dsimp (disch := omega) only [go_sem, Nat.reduceEqDiff, ↓reduceIte, Nat.reduceAdd, Nat.reduceMul, Nat.reduceSub, Nat.reduceLT, Nat.reduceLeDiff, Int.reduceLT, Int.reduceLE, Int.reduceEq, Int.reduceNeg, Int.reduceAdd, Int.reduceMul, Int.reduceSub, Int.reduceToNat, reduceCtorEq, dec_t, dec_f, Int.toNat_natCast, r1]
    refine root_ct hp h2.p1 hf (by omega) fun G2 H2 hgl hf2 h3 => ?_
    have hm : H2.get m = .map (esB BS) := h3.obm (by simp)
    have eB : boxes ρ PL (i + 1) = addB (BS.map BoxR.p) (ρ i) ((q1, q2), qy) := by rw [boxes, eQ, hbs]
    rcases es_cases BS (ρ i) ((q1, q2), qy) with ⟨g1, g2, g3⟩ | ⟨pre, b, post, rfl, g2, g3, g4⟩
    · have cc := rd_s (h3.celm (b := H1.next) (l := [.int .i64 q1, .int .i64 q2, .int .i64 (qy : Nat)]) (by simp))
      have h4 := h3.alloc (l := [.int .i64 q1, .int .i64 (qy : Nat), .int .i64 q2, .int .i64 ((qy + 1 : Nat) : Int), .sl none 0 0 0])
      have hml : m < H2.next := by
        obtain ⟨F0, k1, _⟩ := (h3.ofmem (A := Ob m (.map (esB BS))) (by simp))
        exact k1.2.2
      have hne : ¬ m = H2.next := by omega
      have ey : ((qy : Nat) : Int) + 1 = ((qy + 1 : Nat) : Int) := rfl
      have h5 := (h4.p4).obput (o' := .map (mput (esB BS) (ρ i : Nat) (.ptr (some (H2.next, 0)))))
      simp -implicitDefEqProofs -dsimp (disch := omega) only [go_sem, Nat.reduceEqDiff, ↓reduceIte, Nat.reduceAdd, Nat.reduceMul, Nat.reduceSub, Nat.reduceLT, Nat.reduceLeDiff, Int.reduceLT, Int.reduceLE, Int.reduceEq, Int.reduceNeg, Int.reduceAdd, Int.reduceMul, Int.reduceSub, Int.reduceToNat, reduceCtorEq, dec_t, dec_f, hm, g1, cc, w64, ey, hne, if_false]
      rw [g3] at h5 ⊢
      have h6 : Hs _ (Lst (.sl none 0 0 0) 3 0 (pcells []) :: _) := h5.lst (Same.refl _ _) (own_nil _ 3) fun _ h => h.elim
      let bx : BoxR := ⟨⟨ρ i, q1, qy, q2, qy + 1, []⟩, H2.next, .sl none 0 0 0⟩
      have h7 := Hs.perm (L' := bx.as ++ (Cel H1.next [.int .i64 q1, .int .i64 q2, .int .i64 (qy : Nat)] :: (Lst fv 1 G2.length (iV G2) :: Lst (.sl (some (ab, ao)) PL.length ac 3) 3 PL.length (pcells PL) ::
        Ob m (.map (esB BS ++ [(((ρ i : Nat) : Int), .ptr (some (H2.next, 0)))])) :: (BS.flatMap BoxR.as ++ R)))) h6 (by
          classical
          refine List.perm_iff_count.2 fun x => ?_
          simp only [bx, BoxR.as, BoxR.cs, List.count_append, List.count_cons, List.count_nil, List.length_nil]
          ac_rfl)
      refine of_upd (bx := bx) (q := ((q1, q2), qy)) h7 hq0 (Nat.zero_le _) fun bx' H4 e1 e2 h8 => ?_
      have eEs : esB (BS ++ [bx']) = esB BS ++ [(((ρ i : Nat) : Int), .ptr (some (H2.next, 0)))] := by simp [esB, e1, e2, BoxP.add, bx]
      simp -implicitDefEqProofs -dsimp (disch := omega) only [go_sem, Nat.reduceEqDiff, ↓reduceIte, Nat.reduceAdd, Nat.reduceMul, Nat.reduceSub, Nat.reduceLT, Nat.reduceLeDiff, Int.reduceLT, Int.reduceLE, Int.reduceEq, Int.reduceNeg, Int.reduceAdd, Int.reduceMul, Int.reduceSub, Int.reduceToNat, reduceCtorEq, dec_t, dec_f, w64, cadd1]
      refine hn ⟨i + 1, G2, BS ++ [bx']⟩ H4 (by dsimp only; omega) ⟨hlt, by dsimp only; omega, hf2, ?_, ?_⟩
      · dsimp only
        rw [eB, g2, List.map_append, List.map_cons, List.map_nil, e1]
      · dsimp only
        rw [eEs]
        refine Hs.perm h8 ?_
        classical
        refine List.perm_iff_count.2 fun x => ?_
        simp only [List.flatMap_append, List.flatMap_cons, List.flatMap_nil, List.append_nil, List.count_append, List.count_cons]
        ac_rfl
    · simp -implicitDefEqProofs -dsimp (disch := omega) only [go_sem, Nat.reduceEqDiff, ↓reduceIte, Nat.reduceAdd, Nat.reduceMul, Nat.reduceSub, Nat.reduceLT, Nat.reduceLeDiff, Int.reduceLT, Int.reduceLE, Int.reduceEq, Int.reduceNeg, Int.reduceAdd, Int.reduceMul, Int.reduceSub, Int.reduceToNat, reduceCtorEq, dec_t, dec_f, hm, g3]
      have hbl : b.p.l.length ≤ 1048576 := by
        have := boxes_len ρ PL i b.p (by rw [← hbs]; simp)
        omega
      refine of_upd2 (bx := b) (q := ((q1, q2), qy)) (Hs.perm h3 (box_perm _ _ _ _ pre post b R)) hq0 hbl fun bx' H4 e1 e2 h8 => ?_
      have eEs : esB (pre ++ bx' :: post) = esB (pre ++ b :: post) := by simp [esB, e1, e2, BoxP.add]
      simp -implicitDefEqProofs -dsimp (disch := omega) only [go_sem, Nat.reduceEqDiff, ↓reduceIte, Nat.reduceAdd, Nat.reduceMul, Nat.reduceSub, Nat.reduceLT, Nat.reduceLeDiff, Int.reduceLT, Int.reduceLE, Int.reduceEq, Int.reduceNeg, Int.reduceAdd, Int.reduceMul, Int.reduceSub, Int.reduceToNat, reduceCtorEq, dec_t, dec_f, w64, cadd1]
      refine hn ⟨i + 1, G2, pre ++ bx' :: post⟩ H4 (by dsimp only; omega) ⟨hlt, by dsimp only; omega, hf2, ?_, ?_⟩
      · dsimp only
        rw [eB, g4, List.map_append, List.map_cons, e1]
      · dsimp only
        rw [eEs]
        exact Hs.perm h8 (box_perm2 _ _ _ pre post bx' R)
  · obtain rfl : i = PL.length := by omega
    simp -implicitDefEqProofs -dsimp (disch := omega) only [go_sem, Nat.reduceEqDiff, ↓reduceIte, Nat.reduceAdd, Nat.reduceMul, Nat.reduceSub, Nat.reduceLT, Nat.reduceLeDiff, Int.reduceLT, Int.reduceLE, Int.reduceEq, Int.reduceNeg, Int.reduceAdd, Int.reduceMul, Int.reduceSub, Int.reduceToNat, reduceCtorEq, dec_t, dec_f, comps_Of_l3]
    rw [hx]
    refine hK G BS H1 _ hbs ?_
    rw [← hl1]; exact h1
end
end Go.Ab
