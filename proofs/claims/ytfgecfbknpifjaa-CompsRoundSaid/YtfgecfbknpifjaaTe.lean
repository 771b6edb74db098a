/- A run comes into its box. Conditions: none. -/
import Derived.Test.YtfgecfbknpifjaaTd
set_option linter.all false
namespace Go.Ab
/-- A block, what it is. -/
def Ob (b : Nat) (o : Obj) : As where
  ok F H := (∀ x, F x ↔ x = b) ∧ H.get b = o ∧ b < H.next
  st := fun ⟨h1, h2, h3⟩ hn he => ⟨h1, (he b ((h1 b).2 rfl)).trans h2, Nat.lt_of_lt_of_le h3 hn⟩
  lt := fun ⟨h1, _, h3⟩ b hb => by have := (h1 b).1 hb; omega
theorem Hs.ob {H : Heap} {b : Nat} {o : Obj} {R : List As} (h : Hs H (Ob b o :: R)) : H.get b = o := by obtain ⟨F, h1, _⟩ := h; exact h1.2.1
theorem Hs.obm {H : Heap} {b : Nat} {o : Obj} {R : List As} (h : Hs H R) (hm : Ob b o ∈ R) : H.get b = o := (h.ofmem hm).ob
theorem Hs.obput {H : Heap} {b : Nat} {o o' : Obj} {R : List As} (h : Hs H (Ob b o :: R)) : Hs (H.put b o') (Ob b o' :: R) :=
  h.step fun F ⟨h1, h2, h3⟩ => ⟨fun x => x = b, F, Same.put rfl, fun x _ hx => (h1 x).2 hx, ⟨h1, by simp [get_put], h3⟩, fun _ h => Or.inl h⟩
theorem Hs.obnew {H : Heap} {o : Obj} {R : List As} (h : Hs H R) : Hs (H.new o) (Ob H.next o :: R) :=
  h.new (Same.new _ _ _) ⟨fun x => x = H.next, ⟨fun _ => Iff.rfl, by simp [get_new], by simp [next_new]⟩, fun b hb => by omega⟩
/-- A box, its runs. -/
structure BoxP where
  root : Nat
  x : Int
  y : Nat
  r : Int
  b : Nat
  l : List Plc
structure BoxR where
  p : BoxP
  blk : Nat
  lv : V
def BoxR.cs (b : BoxR) : List V := [.int .i64 b.p.x, .int .i64 (b.p.y : Nat), .int .i64 b.p.r, .int .i64 (b.p.b : Nat), b.lv]
def BoxR.as (b : BoxR) : List As := [Cel b.blk b.cs, Lst b.lv 3 b.p.l.length (pcells b.p.l)]
/-- One more run. -/
def BoxP.add (b : BoxP) (q : Plc) : BoxP := ⟨b.root, if q.1.1 < b.x then q.1.1 else b.x, b.y, if q.1.2 > b.r then q.1.2 else b.r, q.2 + 1, b.l ++ [q]⟩
/-- A run comes into its box. -/
def l3tail : Cd := (.seq (.reg true [6, 13, 15, 17, 84, 85, 86] [⟨some 118, .mv (.t 17), none, 0, []⟩,
    ⟨some 119, .mv (.t 17), none, 1, []⟩,
    ⟨some 120, .mv (.t 17), none, 2, []⟩,
    ⟨some 121, .mv (.t 17), none, 3, []⟩,
    ⟨some 122, .nilck (.t 121), none, 4, []⟩,
    ⟨some 123, .fad 0 (.t 122), none, 5, []⟩,
    ⟨some 124, .load none (.t 123), none, 6, []⟩,
    ⟨some 125, .fad 0 (.t 15), none, 7, []⟩,
    ⟨some 126, .fad 0 (.t 125), none, 8, []⟩,
    ⟨some 127, .load none (.t 126), none, 9, []⟩,
    ⟨some 128, .mm false [(.t 124), (.t 127)], none, 10, []⟩,
    ⟨some 129, .mv (.t 17), none, 11, []⟩,
    ⟨some 130, .nilck (.t 129), none, 12, []⟩,
    ⟨some 131, .fad 2 (.t 130), none, 13, []⟩,
    ⟨some 132, .load none (.t 131), none, 14, []⟩,
    ⟨some 133, .fad 0 (.t 15), none, 15, []⟩,
    ⟨some 134, .fad 1 (.t 133), none, 16, []⟩,
    ⟨some 135, .load none (.t 134), none, 17, []⟩,
    ⟨some 136, .mm true [(.t 132), (.t 135)], none, 18, []⟩,
    ⟨some 137, .fad 2 (.t 15), none, 19, []⟩,
    ⟨some 138, .load none (.t 137), none, 20, []⟩,
    ⟨some 139, .bin .add .num (.t 138) (.c (.int .i64 1)), none, 21, []⟩,
    ⟨some 140, .nilck (.t 118), none, 22, []⟩,
    ⟨some 141, .fad 0 (.t 140), none, 23, []⟩,
    ⟨none, .store 1 (.t 141) (.t 128), none, 24, [17, 20]⟩,
    ⟨some 142, .nilck (.t 119), none, 25, []⟩,
    ⟨some 143, .fad 2 (.t 142), none, 26, []⟩,
    ⟨none, .store 1 (.t 143) (.t 136), none, 27, [20]⟩,
    ⟨some 144, .nilck (.t 120), none, 28, []⟩,
    ⟨some 145, .fad 3 (.t 144), none, 29, []⟩,
    ⟨none, .store 1 (.t 145) (.t 139), none, 30, []⟩])
  (.reg true [6, 13, 84, 85, 86] [⟨some 146, .mv (.t 17), none, 0, []⟩,
    ⟨some 147, .mv (.t 17), none, 1, []⟩,
    ⟨some 148, .nilck (.t 147), none, 2, []⟩,
    ⟨some 149, .fad 4 (.t 148), none, 3, []⟩,
    ⟨some 150, .load none (.t 149), none, 4, []⟩,
    ⟨some 151, .load (some 3) (.t 15), none, 5, []⟩,
    ⟨some 152, .bslice 3 [.int .i64 0, .int .i64 0, .int .i64 0] 1 [(0, (.t 151))], none, 6, []⟩,
    ⟨some 153, .append 3 24 (.t 150) (.t 152), none, 7, []⟩,
    ⟨some 154, .nilck (.t 146), none, 8, []⟩,
    ⟨some 155, .fad 4 (.t 154), none, 9, []⟩,
    ⟨none, .store 1 (.t 155) (.t 153), none, 10, []⟩]))
theorem l3_eq : comps_Of_l3 = .seq (.reg false [6, 13, 84, 85, 86, 87] [⟨some 87, .bin .lss .num (.t 86) (.t 85), none, 0, []⟩])
  (.seq (.cond (.t 87) (.skip)
  (.exit 4))
  (.seq (.block 5 (.seq (.reg false [6, 13, 14, 15, 84, 85, 86] [⟨some 88, .mv (.t 86), none, 0, []⟩,
    ⟨some 89, .iad none 3 (.t 84) (.t 86), none, 0, []⟩,
    ⟨some 90, .load (some 3) (.t 89), none, 0, []⟩,
    ⟨some 15, .alloc [.int .i64 0, .int .i64 0, .int .i64 0], none, 0, []⟩,
    ⟨some 14, .mv (.t 88), none, 0, []⟩,
    ⟨none, .store 3 (.t 15) (.t 90), none, 0, []⟩])
  (.seq (.reg false [6, 13, 15, 16, 84, 85, 86] [⟨some 91, .mv (.t 6), none, 0, []⟩,
    ⟨some 92, .mv (.t 14), none, 0, []⟩,
    ⟨some 93, .call (.f 186) [(.t 91), (.t 92)], none, 0, []⟩,
    ⟨some 16, .mv (.t 93), none, 0, []⟩])
  (.seq (.reg false [6, 13, 15, 16, 17, 18, 84, 85, 86] [⟨some 95, .mv (.t 13), none, 0, []⟩,
    ⟨some 96, .mv (.t 16), none, 0, []⟩,
    ⟨some 97, .mp (.look (.ptr none) true (.t 95) (.t 96)), none, 0, []⟩,
    ⟨some 94, .mv (.t 97), none, 0, []⟩,
    ⟨some 98, .ext 0 (.t 94), none, 0, []⟩,
    ⟨some 99, .ext 1 (.t 94), none, 0, []⟩,
    ⟨some 17, .mv (.t 98), none, 0, []⟩,
    ⟨some 18, .mv (.t 99), none, 0, []⟩])
  (.seq (.seq (.reg false [6, 13, 15, 16, 17, 84, 85, 86, 101] [⟨some 100, .mv (.t 18), none, 0, []⟩,
    ⟨some 101, .un .not (.t 100), none, 0, []⟩])
  (.cond (.t 101) (.seq (.reg false [6, 13, 15, 16, 17, 84, 85, 86] [⟨some 102, .fad 0 (.t 15), none, 0, []⟩,
    ⟨some 103, .fad 0 (.t 102), none, 0, []⟩,
    ⟨some 104, .load none (.t 103), none, 0, []⟩,
    ⟨some 105, .fad 2 (.t 15), none, 0, []⟩,
    ⟨some 106, .load none (.t 105), none, 0, []⟩,
    ⟨some 107, .fad 0 (.t 15), none, 0, []⟩,
    ⟨some 108, .fad 1 (.t 107), none, 0, []⟩,
    ⟨some 109, .load none (.t 108), none, 0, []⟩,
    ⟨some 110, .fad 2 (.t 15), none, 0, []⟩,
    ⟨some 111, .load none (.t 110), none, 0, []⟩,
    ⟨some 112, .bin .add .num (.t 111) (.c (.int .i64 1)), none, 0, []⟩,
    ⟨some 113, .build [.int .i64 0, .int .i64 0, .int .i64 0, .int .i64 0, .sl none 0 0 0] [(0, 1, (.t 104)), (1, 1, (.t 106)), (2, 1, (.t 109)), (3, 1, (.t 112)), (4, 1, (.c (.sl none 0 0 0)))], none, 0, []⟩,
    ⟨some 114, .box 5 (.t 113), none, 0, []⟩,
    ⟨some 17, .mv (.t 114), none, 0, []⟩])
  (.reg false [6, 13, 15, 17, 84, 85, 86] [⟨some 115, .mv (.t 13), none, 0, []⟩,
    ⟨some 116, .mv (.t 16), none, 0, []⟩,
    ⟨some 117, .mv (.t 17), none, 0, []⟩,
    ⟨none, .mp (.upd (.t 115) (.t 116) (.t 117)), none, 0, []⟩]))
  (.skip)))
  l3tail)))))
  (.reg false [6, 13, 84, 85, 86] [⟨some 156, .bin .add .num (.t 86) (.c (.int .i64 1)), none, 0, []⟩,
    ⟨some 86, .mv (.t 156), none, 0, []⟩]))) := rfl
section
variable {P : Prog} {H : Heap} {R : List As} {Q : Post}
set_option maxHeartbeats 1000000 in
theorem of_upd {bx : BoxR} {c : Nat} {q : Plc} {fv mv av : V} {n i : Nat} (hs : Hs H (bx.as ++ (Cel c [.int .i64 q.1.1, .int .i64 q.1.2, .int .i64 (q.2 : Nat)] :: R))) (hq : q.2 < 1048576) (hn : bx.p.l.length ≤ 1048576)
    (hK : ∀ (bx' : BoxR) (H' : Heap), bx'.p = bx.p.add q → bx'.blk = bx.blk → Hs H' (bx'.as ++ R) → Q .normal ⟨[(6, fv), (13, mv), (84, av), (85, .int .i64 (n : Nat)), (86, .int .i64 (i : Nat))], []⟩ H') :
    wpC (Call P) l3tail Q ⟨[(6, fv), (13, mv), (15, .ptr (some (c, 0))), (17, .ptr (some (bx.blk, 0))), (84, av), (85, .int .i64 (n : Nat)), (86, .int .i64 (i : Nat))], []⟩ H := by
  obtain ⟨⟨rt, x, y, r, b, l⟩, blk, lv⟩ := bx
  obtain ⟨⟨q1, q2⟩, qy⟩ := q
  dsimp only at hq hn
  have h1 : Hs H ([Cel blk [.int .i64 x, .int .i64 (y : Nat), .int .i64 r, .int .i64 (b : Nat), lv], Lst lv 3 l.length (pcells l), Cel c [.int .i64 q1, .int .i64 q2, .int .i64 (qy : Nat)]] ++ R) := hs
  have a1 := rd_s h1.cel
  have a2 := rd_s (h1.celm (b := c) (l := [.int .i64 q1, .int .i64 q2, .int .i64 (qy : Nat)]) (by simp))
  obtain ⟨H2, w2, h2⟩ := Hs.sto 0 h1 rfl (o := 0) (vs := [.int .i64 (if q1 < x then q1 else x)]) (by simp) rfl
  have b2 := rd_s (h2.celm (b := c) (l := [.int .i64 q1, .int .i64 q2, .int .i64 (qy : Nat)]) (by simp))
  obtain ⟨H3, w3, h3⟩ := Hs.sto 0 h2 rfl (o := 2) (vs := [.int .i64 (if q2 > r then q2 else r)]) (by simp [over]) rfl
  have b3 := rd_s (h3.celm (b := c) (l := [.int .i64 q1, .int .i64 q2, .int .i64 (qy : Nat)]) (by simp))
  obtain ⟨H4, w4, h4⟩ := Hs.sto 0 h3 rfl (o := 3) (vs := [.int .i64 ((qy + 1 : Nat) : Int)]) (by simp [over]) rfl
  have b4 := rd_m (h4.celm (b := c) (l := [.int .i64 q1, .int .i64 q2, .int .i64 (qy : Nat)]) (by simp)) 3 0
  rw [show (piece [V.int .i64 q1, .int .i64 q2, .int .i64 (qy : Nat)] 0 3).map V.agg = some (.agg [.int .i64 q1, .int .i64 q2, .int .i64 (qy : Nat)]) from rfl] at b4
  have a4 := rd_s h4.cel 4
  rw [show (over (over (over [V.int .i64 x, .int .i64 (y : Nat), .int .i64 r, .int .i64 (b : Nat), lv] 0 [.int .i64 (if q1 < x then q1 else x)]) 2 [.int .i64 (if q2 > r then q2 else r)]) 3 [.int .i64 ((qy + 1 : Nat) : Int)])[4]? = some lv from rfl] at a4
  have h5 : Hs H4 (Lst lv 3 l.length (pcells l) :: Cel blk [.int .i64 (if q1 < x then q1 else x), .int .i64 (y : Nat), .int .i64 (if q2 > r then q2 else r), .int .i64 ((qy + 1 : Nat) : Int), lv] :: Cel c [.int .i64 q1, .int .i64 q2, .int .i64 (qy : Nat)] :: R) := Hs.p1 h4
  obtain ⟨lv', H5, ha, hoo, hsm, hff⟩ := app_one h5.own (M := [.int .i64 q1, .int .i64 q2, .int .i64 (qy : Nat)]) (m := 1) (eb := 24) rfl rfl (by omega) (by omega)
  have h6 := h5.lst' hsm hoo hff
  obtain ⟨ma, mc, me, rfl⟩ := hoo.arr.shape
  obtain ⟨H6, w6, h7⟩ := Hs.sto 1 h6 rfl (o := 4) (vs := [.sl ma (l.length + 1) mc me]) (by simp) rfl
  have ey : ((qy : Nat) : Int) + 1 = ((qy + 1 : Nat) : Int) := rfl
  obtain ⟨la, lc, le, rfl⟩ := h5.own.arr.shape
  simp -implicitDefEqProofs -dsimp (disch := omega) only [go_sem, Nat.reduceEqDiff, ↓reduceIte, Nat.reduceAdd, Nat.reduceMul, Nat.reduceSub, Nat.reduceLT, Nat.reduceLeDiff, Int.reduceLT, Int.reduceLE, Int.reduceEq, Int.reduceNeg, Int.reduceAdd, Int.reduceMul, Int.reduceSub, Int.reduceToNat, reduceCtorEq, dec_t, dec_f, l3tail, a1, a2, Int.toNat_natCast, w2, w64, ey]
  refine aft_intro (t := tag _) (by simp [rechecks, recheck, fresh, Fr.get, Fr.put, look, step, opd, b2]) ?_
  simp -implicitDefEqProofs -dsimp (disch := omega) only [go_sem, Nat.reduceEqDiff, ↓reduceIte, Nat.reduceAdd, Nat.reduceMul, Nat.reduceSub, Nat.reduceLT, Nat.reduceLeDiff, Int.reduceLT, Int.reduceLE, Int.reduceEq, Int.reduceNeg, Int.reduceAdd, Int.reduceMul, Int.reduceSub, Int.reduceToNat, reduceCtorEq, dec_t, dec_f, w3]
  refine aft_intro (t := tag _) (by simp [rechecks, recheck, fresh, Fr.get, Fr.put, look, step, opd, b3]) ?_
  simp -implicitDefEqProofs -dsimp (disch := omega) only [go_sem, Nat.reduceEqDiff, ↓reduceIte, Nat.reduceAdd, Nat.reduceMul, Nat.reduceSub, Nat.reduceLT, Nat.reduceLeDiff, Int.reduceLT, Int.reduceLE, Int.reduceEq, Int.reduceNeg, Int.reduceAdd, Int.reduceMul, Int.reduceSub, Int.reduceToNat, reduceCtorEq, dec_t, dec_f, w4, a4, b4, ha, w6]
  refine hK ⟨BoxP.add ⟨rt, x, y, r, b, l⟩ ((q1, q2), qy), blk, .sl ma (l.length + 1) mc me⟩ H6 rfl rfl ?_
  have h8 := h7.p1
  unfold BoxP.add BoxR.as BoxR.cs
  dsimp only
  rw [pcells_snoc, List.length_append]
  exact h8.p2.tail
set_option maxHeartbeats 1000000 in
theorem of_upd2 {bx : BoxR} {c : Nat} {q : Plc} {fv mv av z16 : V} {n i : Nat} (hs : Hs H (bx.as ++ (Cel c [.int .i64 q.1.1, .int .i64 q.1.2, .int .i64 (q.2 : Nat)] :: R))) (hq : q.2 < 1048576) (hn : bx.p.l.length ≤ 1048576)
    (hK : ∀ (bx' : BoxR) (H' : Heap), bx'.p = bx.p.add q → bx'.blk = bx.blk → Hs H' (bx'.as ++ R) → Q .normal ⟨[(6, fv), (13, mv), (84, av), (85, .int .i64 (n : Nat)), (86, .int .i64 (i : Nat))], []⟩ H') :
    wpC (Call P) l3tail Q ⟨[(6, fv), (13, mv), (15, .ptr (some (c, 0))), (16, z16), (17, .ptr (some (bx.blk, 0))), (84, av), (85, .int .i64 (n : Nat)), (86, .int .i64 (i : Nat)), (101, .bool false)], []⟩ H := by
  obtain ⟨⟨rt, x, y, r, b, l⟩, blk, lv⟩ := bx
  obtain ⟨⟨q1, q2⟩, qy⟩ := q
  dsimp only at hq hn
  have h1 : Hs H ([Cel blk [.int .i64 x, .int .i64 (y : Nat), .int .i64 r, .int .i64 (b : Nat), lv], Lst lv 3 l.length (pcells l), Cel c [.int .i64 q1, .int .i64 q2, .int .i64 (qy : Nat)]] ++ R) := hs
  have a1 := rd_s h1.cel
  have a2 := rd_s (h1.celm (b := c) (l := [.int .i64 q1, .int .i64 q2, .int .i64 (qy : Nat)]) (by simp))
  obtain ⟨H2, w2, h2⟩ := Hs.sto 0 h1 rfl (o := 0) (vs := [.int .i64 (if q1 < x then q1 else x)]) (by simp) rfl
  have b2 := rd_s (h2.celm (b := c) (l := [.int .i64 q1, .int .i64 q2, .int .i64 (qy : Nat)]) (by simp))
  obtain ⟨H3, w3, h3⟩ := Hs.sto 0 h2 rfl (o := 2) (vs := [.int .i64 (if q2 > r then q2 else r)]) (by simp [over]) rfl
  have b3 := rd_s (h3.celm (b := c) (l := [.int .i64 q1, .int .i64 q2, .int .i64 (qy : Nat)]) (by simp))
  obtain ⟨H4, w4, h4⟩ := Hs.sto 0 h3 rfl (o := 3) (vs := [.int .i64 ((qy + 1 : Nat) : Int)]) (by simp [over]) rfl
  have b4 := rd_m (h4.celm (b := c) (l := [.int .i64 q1, .int .i64 q2, .int .i64 (qy : Nat)]) (by simp)) 3 0
  rw [show (piece [V.int .i64 q1, .int .i64 q2, .int .i64 (qy : Nat)] 0 3).map V.agg = some (.agg [.int .i64 q1, .int .i64 q2, .int .i64 (qy : Nat)]) from rfl] at b4
  have a4 := rd_s h4.cel 4
  rw [show (over (over (over [V.int .i64 x, .int .i64 (y : Nat), .int .i64 r, .int .i64 (b : Nat), lv] 0 [.int .i64 (if q1 < x then q1 else x)]) 2 [.int .i64 (if q2 > r then q2 else r)]) 3 [.int .i64 ((qy + 1 : Nat) : Int)])[4]? = some lv from rfl] at a4
  have h5 : Hs H4 (Lst lv 3 l.length (pcells l) :: Cel blk [.int .i64 (if q1 < x then q1 else x), .int .i64 (y : Nat), .int .i64 (if q2 > r then q2 else r), .int .i64 ((qy + 1 : Nat) : Int), lv] :: Cel c [.int .i64 q1, .int .i64 q2, .int .i64 (qy : Nat)] :: R) := Hs.p1 h4
  obtain ⟨lv', H5, ha, hoo, hsm, hff⟩ := app_one h5.own (M := [.int .i64 q1, .int .i64 q2, .int .i64 (qy : Nat)]) (m := 1) (eb := 24) rfl rfl (by omega) (by omega)
  have h6 := h5.lst' hsm hoo hff
  obtain ⟨ma, mc, me, rfl⟩ := hoo.arr.shape
  obtain ⟨H6, w6, h7⟩ := Hs.sto 1 h6 rfl (o := 4) (vs := [.sl ma (l.length + 1) mc me]) (by simp) rfl
  have ey : ((qy : Nat) : Int) + 1 = ((qy + 1 : Nat) : Int) := rfl
  obtain ⟨la, lc, le, rfl⟩ := h5.own.arr.shape
  simp -implicitDefEqProofs -dsimp (disch := omega) only [go_sem, Nat.reduceEqDiff, ↓reduceIte, Nat.reduceAdd, Nat.reduceMul, Nat.reduceSub, Nat.reduceLT, Nat.reduceLeDiff, Int.reduceLT, Int.reduceLE, Int.reduceEq, Int.reduceNeg, Int.reduceAdd, Int.reduceMul, Int.reduceSub, Int.reduceToNat, reduceCtorEq, dec_t, dec_f, l3tail, a1, a2, Int.toNat_natCast, w2, w64, ey]
  refine aft_intro (t := tag _) (by simp [rechecks, recheck, fresh, Fr.get, Fr.put, look, step, opd, b2]) ?_
  simp -implicitDefEqProofs -dsimp (disch := omega) only [go_sem, Nat.reduceEqDiff, ↓reduceIte, Nat.reduceAdd, Nat.reduceMul, Nat.reduceSub, Nat.reduceLT, Nat.reduceLeDiff, Int.reduceLT, Int.reduceLE, Int.reduceEq, Int.reduceNeg, Int.reduceAdd, Int.reduceMul, Int.reduceSub, Int.reduceToNat, reduceCtorEq, dec_t, dec_f, w3]
  refine aft_intro (t := tag _) (by simp [rechecks, recheck, fresh, Fr.get, Fr.put, look, step, opd, b3]) ?_
  simp -implicitDefEqProofs -dsimp (disch := omega) only [go_sem, Nat.reduceEqDiff, ↓reduceIte, Nat.reduceAdd, Nat.reduceMul, Nat.reduceSub, Nat.reduceLT, Nat.reduceLeDiff, Int.reduceLT, Int.reduceLE, Int.reduceEq, Int.reduceNeg, Int.reduceAdd, Int.reduceMul, Int.reduceSub, Int.reduceToNat, reduceCtorEq, dec_t, dec_f, w4, a4, b4, ha, w6]
  refine hK ⟨BoxP.add ⟨rt, x, y, r, b, l⟩ ((q1, q2), qy), blk, .sl ma (l.length + 1) mc me⟩ H6 rfl rfl ?_
  have h8 := h7.p1
  unfold BoxP.add BoxR.as BoxR.cs
  dsimp only
  rw [pcells_snoc, List.length_append]
  exact h8.p2.tail
end
end Go.Ab
