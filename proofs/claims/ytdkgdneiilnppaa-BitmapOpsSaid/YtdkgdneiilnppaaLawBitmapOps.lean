/- The law BitmapOps. Conditions: none. -/
import Derived.Test.YtdkgdneiilnppaaCw
import Derived.Test.YtdkgdneiilnppaaPL2Ops
set_option linter.all false
namespace Go.Ab

/-- One round, then the loop again. -/
def more (P : Prog) (live : List Nat) (c : Cd) (Q : Post) : Post := fun e fr H => match e with | .normal => loopL (Call P) live c Q (tag _) (tag _) fr H | e => Q e fr H
theorem loop_unroll {P : Prog} {live : List Nat} {c : Cd} {Q : Post} {s : Tag Q} {t : Tag c} {fr : Fr} {H : Heap} (h : wpC (Call P) c (more P live c Q) (fr.keep live) H) : loopL (Call P) live c Q s t fr H := by
  refine wp_loop_round (wp_mono h fun e fr' H' he => ?_)
  cases e <;> exact he
theorem more_n (P : Prog) (live : List Nat) (c : Cd) (Q : Post) (fr : Fr) (H : Heap) : more P live c Q .normal fr H = loopL (Call P) live c Q (tag _) (tag _) fr H := rfl
theorem more_e (P : Prog) (live : List Nat) (c : Cd) (Q : Post) (i : Nat) (fr : Fr) (H : Heap) : more P live c Q (.exit i) fr H = Q (.exit i) fr H := rfl
theorem more_r (P : Prog) (live : List Nat) (c : Cd) (Q : Post) (fr : Fr) (H : Heap) : more P live c Q .ret fr H = Q .ret fr H := rfl

def BoF (p : Nat) (w h sp y : Nat) (mid : List (Nat × V)) : Fr := ⟨(1, .ptr (some (p, 0))) :: (3, .int .i64 w) :: (4, .int .i64 h) :: (5, .ptr (some (sp, 0))) :: (6, .int .i64 y) :: mid, []⟩
def BoA (H : Heap) (d s : BmO) (l : List V) (p sp : Nat) (v : V) (q : Nat → Nat → Bool) : List As := [BmA v d.wn d.hn q, Cel sp [.int .i64 d.wn, .int .i64 d.hn, v], Cel p ([.int .i64 d.w, .int .i64 d.h, d.v, .int .i64 s.w, .int .i64 s.h, s.v] ++ l), Bas H]
def BoI (H : Heap) (d s : BmO) (l : List V) (p sp : Nat) (v : V) (S : Nat → Nat → Bool) (k : Nat) (fr : Fr) (H' : Heap) : Prop :=
  ∃ y : Nat, k = d.hn - y ∧ y ≤ d.hn ∧ fr = BoF p d.wn d.hn sp y [] ∧ Hs H' (BoA H d s l p sp v (turP S d.wn y 0))
def BoJ (H : Heap) (d s : BmO) (l : List V) (p sp : Nat) (v : V) (S : Nat → Nat → Bool) (y : Nat) (k : Nat) (fr : Fr) (H' : Heap) : Prop :=
  ∃ x : Nat, k = d.wn - x ∧ x ≤ d.wn ∧ fr = BoF p d.wn d.hn sp y [(7, .int .i64 x)] ∧ Hs H' (BoA H d s l p sp v (turP S d.wn y x))

/-- The source, cut to the size. -/
theorem ops_source {P : Prog} (hq : HasL2 P) {H H1 : Heap} {d s : BmO} {l : List V} {p sp : Nat} {v : V} {S : Nat → Nat → Bool} (ks : BmOk H s) (mm : BmM d)
    (hS : (mayB s.w s.h s.ws ∧ BmM s ∧ ∀ i j : Nat, S i j = decide (getV s.wn s.hn s.px i j = 1)) ∨ (¬ mayB s.w s.h s.ws ∧ ∀ i j, S i j = false))
    (h1 : Hs H1 (BoA H d s l p sp v (fun _ _ => false))) {Qp : Post} (hQ : ∀ ex H2, Hs H2 (BoA H d s l p sp v S) → Qp (.exit 0) (BoF p d.wn d.hn sp d.hn ex) H2) {s' t'} :
    loopL (Call P) [1, 3, 4, 5, 6] burinlaw2_BitmapOps_l2 Qp s' t' (BoF p d.wn d.hn sp 0 []) H1 := by
  have a1 := Nat.le_mul_of_pos_right d.wn (show 0 < d.hn by have := mm.h1; omega)
  have a2 := Nat.le_mul_of_pos_left d.hn (show 0 < d.wn by have := mm.w1; omega)
  have a3 := mm.area
  have start : Hs H1 (BoA H d s l p sp v (turP S d.wn 0 0)) := h1.bmc fun i j _ _ => by unfold turP; rw [decide_eq_false (by omega)]; rfl
  refine loop_inv (BoI H d s l p sp v S) ?_ d.hn _ _ ⟨0, by omega, by omega, rfl, start⟩
  rintro k fr H2 ⟨y, hk, hy, rfl, h2⟩
  generalize hK : rnd (BoI H d s l p sp v S) k = K
  by_cases hyh : y < d.hn
  · simp -implicitDefEqProofs -dsimp (disch := omega) only [go_sem, Nat.reduceEqDiff, ↓reduceIte, Nat.reduceAdd, Nat.reduceMul, Nat.reduceSub, Nat.reduceLT, Nat.reduceLeDiff, Int.reduceLT, Int.reduceLE, Int.reduceEq, Int.reduceNeg, Int.reduceAdd, Int.reduceMul, Int.reduceSub, Int.reduceToNat, reduceCtorEq, dec_t, dec_f, BoF, burinlaw2_BitmapOps_l2]
    refine loop_inv (BoJ H d s l p sp v S y) ?_ d.wn _ _ ⟨0, by omega, by omega, rfl, h2⟩
    rintro k2 fr2 H3 ⟨x, hk2, hx, rfl, h3⟩
    generalize hK2 : rnd (BoJ H d s l p sp v S y) k2 = K2
    have hc := (Hs.p2 h3).cel
    have hcs := (Hs.p1 h3).cel
    have hrd : rd H3 (some 3) p 3 = some (.agg [.int .i64 s.w, .int .i64 s.h, s.v]) := by rw [rd_m hc]; rfl
    by_cases hxw : x < d.wn
    · simp -implicitDefEqProofs -dsimp (disch := omega) only [go_sem, Nat.reduceEqDiff, ↓reduceIte, Nat.reduceAdd, Nat.reduceMul, Nat.reduceSub, Nat.reduceLT, Nat.reduceLeDiff, Int.reduceLT, Int.reduceLE, Int.reduceEq, Int.reduceNeg, Int.reduceAdd, Int.reduceMul, Int.reduceSub, Int.reduceToNat, reduceCtorEq, dec_t, dec_f, BoF, burinlaw2_BitmapOps_l3, hrd]
      refine mayO hq ks h3 (by simp [BoA]) fun b H4 hb h4 => ?_
      have hc := (Hs.p2 h4).cel
      have hcs := (Hs.p1 h4).cel
      have hrd : rd H4 (some 3) p 3 = some (.agg [.int .i64 s.w, .int .i64 s.h, s.v]) := by rw [rd_m hc]; rfl
      have hrs : rd H4 (some 3) sp 0 = some (.agg [.int .i64 d.wn, .int .i64 d.hn, v]) := by rw [rd_m hcs]; rfl
      have stp : ∀ H5 q, (∀ i j, i < d.wn → j < d.hn → q i j = turP S d.wn y (x + 1) i j) → Hs H5 (BoA H d s l p sp v q) → BoJ H d s l p sp v S y (d.wn - (x + 1)) (BoF p d.wn d.hn sp y [(7, .int .i64 ((x + 1 : Nat) : Int))]) H5 := fun H5 q hq h5 => ⟨x + 1, rfl, by omega, rfl, h5.bmc hq⟩
      rcases hS with ⟨hm, ms, hS⟩ | ⟨hm, hS⟩
      · obtain rfl : b = true := hb.2 hm
        simp -implicitDefEqProofs -dsimp (disch := omega) only [go_sem, Nat.reduceEqDiff, ↓reduceIte, Nat.reduceAdd, Nat.reduceMul, Nat.reduceSub, Nat.reduceLT, Nat.reduceLeDiff, Int.reduceLT, Int.reduceLE, Int.reduceEq, Int.reduceNeg, Int.reduceAdd, Int.reduceMul, Int.reduceSub, Int.reduceToNat, reduceCtorEq, dec_t, dec_f, hrs, hrd]
        refine getO hq ks ms h4 (by simp [BoA]) fun H5 h5 => ?_
        have hcs := (Hs.p1 h5).cel
        have hrs : rd H5 (some 3) sp 0 = some (.agg [.int .i64 d.wn, .int .i64 d.hn, v]) := by rw [rd_m hcs]; rfl
        simp -implicitDefEqProofs -dsimp (disch := omega) only [go_sem, Nat.reduceEqDiff, ↓reduceIte, Nat.reduceAdd, Nat.reduceMul, Nat.reduceSub, Nat.reduceLT, Nat.reduceLeDiff, Int.reduceLT, Int.reduceLE, Int.reduceEq, Int.reduceNeg, Int.reduceAdd, Int.reduceMul, Int.reduceSub, Int.reduceToNat, reduceCtorEq, dec_t, dec_f, ]
        refine aft_intro (by simp [rechecks, recheck, fresh, Fr.get, look, step, opd, hrs]) ?_
        simp -implicitDefEqProofs -dsimp (disch := omega) only [go_sem, Nat.reduceEqDiff, ↓reduceIte, Nat.reduceAdd, Nat.reduceMul, Nat.reduceSub, Nat.reduceLT, Nat.reduceLeDiff, Int.reduceLT, Int.reduceLE, Int.reduceEq, Int.reduceNeg, Int.reduceAdd, Int.reduceMul, Int.reduceSub, Int.reduceToNat, reduceCtorEq, dec_t, dec_f, ]
        refine putR_ct hq.rz h5 hxw hyh fun H6 h6 => ?_
        simp -implicitDefEqProofs -dsimp (disch := omega) only [go_sem, Nat.reduceEqDiff, ↓reduceIte, Nat.reduceAdd, Nat.reduceMul, Nat.reduceSub, Nat.reduceLT, Nat.reduceLeDiff, Int.reduceLT, Int.reduceLE, Int.reduceEq, Int.reduceNeg, Int.reduceAdd, Int.reduceMul, Int.reduceSub, Int.reduceToNat, reduceCtorEq, dec_t, dec_f, w64, cadd1]
        subst hK2
        refine rnd_n (d.wn - (x + 1)) (by omega) (stp H6 _ (fun i j hi hj => ?_) h6)
        unfold updP turP
        by_cases e : i = x ∧ j = y
        · obtain ⟨rfl, rfl⟩ := e
          rw [if_pos ⟨rfl, rfl⟩, hS, show decide (j < j ∨ j = j ∧ i < i + 1) = true from decide_eq_true (by omega), Bool.true_and]
          exact decide_eq_decide.2 (by omega)
        · rw [if_neg e]; congr 1; exact decide_eq_decide.2 (by omega)
      · obtain rfl : b = false := by
          cases b with
          | false => rfl
          | true => exact absurd (hb.1 rfl) hm
        simp -implicitDefEqProofs -dsimp (disch := omega) only [go_sem, Nat.reduceEqDiff, ↓reduceIte, Nat.reduceAdd, Nat.reduceMul, Nat.reduceSub, Nat.reduceLT, Nat.reduceLeDiff, Int.reduceLT, Int.reduceLE, Int.reduceEq, Int.reduceNeg, Int.reduceAdd, Int.reduceMul, Int.reduceSub, Int.reduceToNat, reduceCtorEq, dec_t, dec_f, w64, cadd1]
        subst hK2
        refine rnd_n (d.wn - (x + 1)) (by omega) (stp H4 _ (fun i j hi hj => ?_) h4)
        unfold turP; rw [hS, Bool.and_false, Bool.and_false]
    · obtain rfl : x = d.wn := by omega
      simp -implicitDefEqProofs -dsimp (disch := omega) only [go_sem, Nat.reduceEqDiff, ↓reduceIte, Nat.reduceAdd, Nat.reduceMul, Nat.reduceSub, Nat.reduceLT, Nat.reduceLeDiff, Int.reduceLT, Int.reduceLE, Int.reduceEq, Int.reduceNeg, Int.reduceAdd, Int.reduceMul, Int.reduceSub, Int.reduceToNat, reduceCtorEq, dec_t, dec_f, BoF, burinlaw2_BitmapOps_l3]
      subst hK2
      simp -implicitDefEqProofs -dsimp (disch := omega) only [go_sem, Nat.reduceEqDiff, ↓reduceIte, Nat.reduceAdd, Nat.reduceMul, Nat.reduceSub, Nat.reduceLT, Nat.reduceLeDiff, Int.reduceLT, Int.reduceLE, Int.reduceEq, Int.reduceNeg, Int.reduceAdd, Int.reduceMul, Int.reduceSub, Int.reduceToNat, reduceCtorEq, dec_t, dec_f, w64, cadd1]
      subst hK
      refine rnd_n (d.hn - (y + 1)) (by omega) ⟨y + 1, rfl, by omega, rfl, h3.bmc fun i j hi hj => ?_⟩
      unfold turP
      congr 1
      exact decide_eq_decide.2 (by omega)
  · obtain rfl : y = d.hn := by omega
    simp -implicitDefEqProofs -dsimp (disch := omega) only [go_sem, Nat.reduceEqDiff, ↓reduceIte, Nat.reduceAdd, Nat.reduceMul, Nat.reduceSub, Nat.reduceLT, Nat.reduceLeDiff, Int.reduceLT, Int.reduceLE, Int.reduceEq, Int.reduceNeg, Int.reduceAdd, Int.reduceMul, Int.reduceSub, Int.reduceToNat, reduceCtorEq, dec_t, dec_f, BoF, burinlaw2_BitmapOps_l2]
    subst hK
    refine hQ _ H2 (h2.bmc fun i j hi hj => ?_)
    unfold turP
    rw [decide_eq_true (Or.inl hj)]; rfl

theorem blitP_all {p q : Nat → Nat → Bool} {w h op i j : Nat} (hi : i < w) (hj : j < h) : blitP p q w h 0 0 w h 0 0 op i j = opB op (p i j) (q i j) := by
  unfold blitP
  rw [if_pos (by omega), show (0 : Int) + ((i : Int) - 0) = i by omega, show (0 : Int) + ((j : Int) - 0) = j by omega, Int.toNat_natCast, Int.toNat_natCast]
theorem blitW {P : Prog} {H : Heap} {L : List As} {Q : Out → Heap → Prop} {m w h : Nat} {p : Nat → Nat → Bool} (hp : HasBm P) (i j : Nat) {s : Nat} {q : Nat → Nat → Bool} (hs : Hs H L) (ei : L[i]? = some (MapA m w h p)) (ej : L[j]? = some (MapA s w h q)) (hij : i ≠ j)
    {op : Int} (opn : Nat) (ho : op = opn) (hop : opn < 5) (hQ : ∀ H', Hs H' (L.set i (MapA m w h (fun a b => opB opn (p a b) (q a b)))) → Q (.ret (.int .i64 0)) H') :
    Call P 64 [.ptr (some (m, 0)), .ptr (some (s, 0)), .int .i64 0, .int .i64 0, .int .i64 w, .int .i64 h, .int .i64 0, .int .i64 0, .int .i64 op] H Q := by
  obtain ⟨R, k1, k2⟩ := hs.foc2 i j ei ej hij
  obtain ⟨z1, z2, z3, z4, z5⟩ := mapSz k1
  have e0 : blitR w h opn = 0 := by unfold blitR; rw [if_neg (by omega), if_neg (by omega)]
  subst ho
  refine blit_ct hp k1 (by unfold i64r; omega) (by unfold i64r; omega) (by unfold i64r; omega) (by unfold i64r; omega) (by unfold i64r; omega) (by unfold i64r; omega) (by unfold i64r; omega) fun H' h' => ?_
  rw [e0, if_pos rfl] at h'
  rw [e0]
  exact hQ H' (k2 H' _ (h'.mapc fun a b ha hb => by rw [Int.toNat_natCast]; exact blitP_all ha hb))
def BqF (p : Nat) (w h sp : Nat) (lv : V) (t : Nat) (i : Nat) : Fr := ⟨[(1, .ptr (some (p, 0))), (3, .int .i64 w), (4, .int .i64 h), (5, .ptr (some (sp, 0))), (8, lv), (12, .ptr (some (t, 0))), (14, .int .i64 i)], []⟩
theorem ops_blit {P : Prog} (hq : HasL2 P) {H1 : Heap} {L : List As} {Ls : List V} {p sp w h t lb lo lc m x j : Nat} {f q : Nat → Nat → Bool} (hs : Hs H1 L) (hl : L[1]? = some (Lst (.sl (some (lb, lo)) 7 lc 1) 1 7 Ls)) (hj : L[j]? = some (MapA m w h f)) (ht : L[0]? = some (MapA t w h q)) (hj0 : j ≠ 0)
    (hx : x < 5) (hL : Ls[x]? = some (.ptr (some (m, 0)))) {Qp : Post} (hQ : ∀ H2, Hs H2 (L.set j (MapA m w h (fun a b => opB x (f a b) (q a b)))) → Qp .normal (BqF p w h sp (.sl (some (lb, lo)) 7 lc 1) t (x + 1)) H2) :
    wpC (Call P) burinlaw2_BitmapOps_l0 Qp (BqF p w h sp (.sl (some (lb, lo)) 7 lc 1) t x) H1 := by
  have hr := (hs.ownm (List.mem_of_getElem? hl)).arr.rd1 (i := x) (by omega)
  rw [hL] at hr
  simp -implicitDefEqProofs -dsimp (disch := omega) only [go_sem, Nat.reduceEqDiff, ↓reduceIte, Nat.reduceAdd, Nat.reduceMul, Nat.reduceSub, Nat.reduceLT, Nat.reduceLeDiff, Int.reduceLT, Int.reduceLE, Int.reduceEq, Int.reduceNeg, Int.reduceAdd, Int.reduceMul, Int.reduceSub, Int.reduceToNat, reduceCtorEq, dec_t, dec_f, BqF, burinlaw2_BitmapOps_l0, Int.toNat_natCast, Nat.mul_one, hr]
  refine blitW hq.bm j 0 hs hj ht hj0 x rfl hx fun H2 h2 => ?_
  simp -implicitDefEqProofs -dsimp (disch := omega) only [go_sem, Nat.reduceEqDiff, ↓reduceIte, Nat.reduceAdd, Nat.reduceMul, Nat.reduceSub, Nat.reduceLT, Nat.reduceLeDiff, Int.reduceLT, Int.reduceLE, Int.reduceEq, Int.reduceNeg, Int.reduceAdd, Int.reduceMul, Int.reduceSub, Int.reduceToNat, reduceCtorEq, dec_t, dec_f, w64, cadd1]
  exact hQ H2 h2
def BpF (p : Nat) (w h sp : Nat) (lv : V) (i : Nat) (ex : List (Nat × V)) : Fr := ⟨(1, .ptr (some (p, 0))) :: (3, .int .i64 w) :: (4, .int .i64 h) :: (5, .ptr (some (sp, 0))) :: (8, lv) :: (9, .int .i64 i) :: ex, []⟩
theorem ops_round {P : Prog} (hq : HasL2 P) {H H1 : Heap} {R : List As} {d : BmO} {p sp i : Nat} {lv : V} {L : List V} (kd : BmOk H d) (hm : mayB d.w d.h d.ws) (hb : Bas H ∈ R) {l : List V} (hc : Cel p (.int .i64 d.w :: .int .i64 d.h :: d.v :: l) ∈ R)
    (hi : i < 7) (hs : Hs H1 (Lst lv 1 i L :: R)) (hL : L.length = i) {Qp : Post}
    (hQ : ∀ m lv' H2, Hs H2 (Lst lv' 1 (i + 1) (L ++ [.ptr (some (m, 0))]) :: MapA m d.wn d.hn d.px :: R) → Qp .normal (BpF p d.wn d.hn sp lv' (i + 1) []) H2) :
    wpC (Call P) burinlaw2_BitmapOps_l1 Qp (BpF p d.wn d.hn sp lv i []) H1 := by
  have h0 : rd H1 (some 3) p 0 = some (.agg [.int .i64 d.w, .int .i64 d.h, d.v]) := by rw [rd_m (hs.celm (List.mem_cons_of_mem _ hc))]; rfl
  simp -implicitDefEqProofs -dsimp (disch := omega) only [go_sem, Nat.reduceEqDiff, ↓reduceIte, Nat.reduceAdd, Nat.reduceMul, Nat.reduceSub, Nat.reduceLT, Nat.reduceLeDiff, Int.reduceLT, Int.reduceLE, Int.reduceEq, Int.reduceNeg, Int.reduceAdd, Int.reduceMul, Int.reduceSub, Int.reduceToNat, reduceCtorEq, dec_t, dec_f, BpF, burinlaw2_BitmapOps_l1, h0]
  refine fromO hq kd hm hs (by simp [hb]) fun m H2 h2 => ?_
  obtain ⟨lv', H3, ha, ho, hsm, hf⟩ := app_one h2.p1.own (M := [.ptr (some (m, 0))]) (m := 1) (eb := 8) rfl rfl (by omega) (by omega)
  have h3 := h2.p1.lst' hsm ho hf
  simp -implicitDefEqProofs -dsimp (disch := omega) only [go_sem, Nat.reduceEqDiff, ↓reduceIte, Nat.reduceAdd, Nat.reduceMul, Nat.reduceSub, Nat.reduceLT, Nat.reduceLeDiff, Int.reduceLT, Int.reduceLE, Int.reduceEq, Int.reduceNeg, Int.reduceAdd, Int.reduceMul, Int.reduceSub, Int.reduceToNat, reduceCtorEq, dec_t, dec_f, ha, w64, cadd1]
  exact hQ m lv' H3 h3

theorem ops_counts (w h : Nat) (p q : Nat → Nat → Bool) : cnt2 w (fun a b => opB 0 (p a b) (q a b)) h + cnt2 w (fun a b => opB 1 (p a b) (q a b)) h = cnt2 w p h + cnt2 w q h ∧
    cnt2 w (fun a b => opB 0 (p a b) (q a b)) h = cnt2 w (fun a b => opB 1 (p a b) (q a b)) h + cnt2 w (fun a b => opB 2 (p a b) (q a b)) h := by
  simp only [cnt2_sum]
  constructor
  · rw [← sumN_plus, ← sumN_plus]
    refine sumN_congr fun j _ => ?_
    rw [← sumN_plus, ← sumN_plus]
    refine sumN_congr fun i _ => ?_
    cases p i j <;> cases q i j <;> rfl
  · rw [← sumN_plus]
    refine sumN_congr fun j _ => ?_
    rw [← sumN_plus]
    refine sumN_congr fun i _ => ?_
    cases p i j <;> cases q i j <;> rfl
set_option maxHeartbeats 4000000 in
theorem bitmapOps {P : Prog} (hq : HasL2 P) (hg : P 110 = some burinlaw2_BitmapOps) {H : Heap} {d s : BmO} {n1 n2 n3 n4 n5 n6 n7 n8 : Int} (kd : BmOk H d) (ks : BmOk H s) :
    Call P 110 [.agg [.int .i64 d.w, .int .i64 d.h, d.v, .int .i64 s.w, .int .i64 s.h, s.v, .int .i64 n1, .int .i64 n2, .int .i64 n3, .int .i64 n4, .int .i64 n5, .int .i64 n6, .int .i64 n7, .int .i64 n8]] H fun o _ => o = .ret (.bool true) := by
  refine call_of hg rfl ?_
  have h1 := (Hs.start H).alloc (l := [.int .i64 d.w, .int .i64 d.h, d.v, .int .i64 s.w, .int .i64 s.h, s.v, .int .i64 n1, .int .i64 n2, .int .i64 n3, .int .i64 n4, .int .i64 n5, .int .i64 n6, .int .i64 n7, .int .i64 n8])
  have hc := h1.cel
  simp -implicitDefEqProofs -dsimp (disch := omega) only [go_sem, Nat.reduceEqDiff, ↓reduceIte, Nat.reduceAdd, Nat.reduceMul, Nat.reduceSub, Nat.reduceLT, Nat.reduceLeDiff, Int.reduceLT, Int.reduceLE, Int.reduceEq, Int.reduceNeg, Int.reduceAdd, Int.reduceMul, Int.reduceSub, Int.reduceToNat, reduceCtorEq, dec_t, dec_f, ]
  generalize H.new _ = H1 at *
  generalize H.next = p at *
  simp -implicitDefEqProofs -dsimp (disch := omega) only [go_sem, Nat.reduceEqDiff, ↓reduceIte, Nat.reduceAdd, Nat.reduceMul, Nat.reduceSub, Nat.reduceLT, Nat.reduceLeDiff, Int.reduceLT, Int.reduceLE, Int.reduceEq, Int.reduceNeg, Int.reduceAdd, Int.reduceMul, Int.reduceSub, Int.reduceToNat, reduceCtorEq, dec_t, dec_f, rd_m hc]
  refine mayO hq kd h1 (by simp) fun q H2 hq2 h2 => ?_
  have hc := h2.cel
  cases q with
  | false =>
    simp -implicitDefEqProofs -dsimp (disch := omega) only [go_sem, Nat.reduceEqDiff, ↓reduceIte, Nat.reduceAdd, Nat.reduceMul, Nat.reduceSub, Nat.reduceLT, Nat.reduceLeDiff, Int.reduceLT, Int.reduceLE, Int.reduceEq, Int.reduceNeg, Int.reduceAdd, Int.reduceMul, Int.reduceSub, Int.reduceToNat, reduceCtorEq, dec_t, dec_f, ]
    refine wakes_ct hq h2 fun H3 => ?_
    simp -implicitDefEqProofs -dsimp (disch := omega) only [go_sem, Nat.reduceEqDiff, ↓reduceIte, Nat.reduceAdd, Nat.reduceMul, Nat.reduceSub, Nat.reduceLT, Nat.reduceLeDiff, Int.reduceLT, Int.reduceLE, Int.reduceEq, Int.reduceNeg, Int.reduceAdd, Int.reduceMul, Int.reduceSub, Int.reduceToNat, reduceCtorEq, dec_t, dec_f, ]
  | true =>
  have hm := hq2.1 rfl
  have mm := bmM_of kd hm
  have h3 := h2.alloc (l := [.int .i64 d.w, .int .i64 d.h, d.v])
  simp -implicitDefEqProofs -dsimp (disch := omega) only [go_sem, Nat.reduceEqDiff, ↓reduceIte, Nat.reduceAdd, Nat.reduceMul, Nat.reduceSub, Nat.reduceLT, Nat.reduceLeDiff, Int.reduceLT, Int.reduceLE, Int.reduceEq, Int.reduceNeg, Int.reduceAdd, Int.reduceMul, Int.reduceSub, Int.reduceToNat, reduceCtorEq, dec_t, dec_f, rd_m hc]
  generalize H2.new _ = H3 at *
  generalize H2.next = bx at *
  refine smallO hq kd ⟨[], by rw [h3.cel]; rfl⟩ ?_
  have h4 := h3.tail
  have hc := h4.cel
  have ew := mm.w
  have eh := mm.h
  obtain ⟨S, hS⟩ : ∃ S : Nat → Nat → Bool, (mayB s.w s.h s.ws ∧ BmM s ∧ ∀ i j : Nat, S i j = decide (getV s.wn s.hn s.px i j = 1)) ∨ (¬ mayB s.w s.h s.ws ∧ ∀ i j, S i j = false) := by
    by_cases hms : mayB s.w s.h s.ws
    · exact ⟨fun i j => decide (getV s.wn s.hn s.px i j = 1), Or.inl ⟨hms, bmM_of ks hms, fun _ _ => rfl⟩⟩
    · exact ⟨fun _ _ => false, Or.inr ⟨hms, fun _ _ => rfl⟩⟩
  by_cases hsm : 64 * d.ws.length + 64 ≤ 60000
  · rw [decide_eq_true hsm]
    simp -implicitDefEqProofs -dsimp (disch := omega) only [go_sem, Nat.reduceEqDiff, ↓reduceIte, Nat.reduceAdd, Nat.reduceMul, Nat.reduceSub, Nat.reduceLT, Nat.reduceLeDiff, Int.reduceLT, Int.reduceLE, Int.reduceEq, Int.reduceNeg, Int.reduceAdd, Int.reduceMul, Int.reduceSub, Int.reduceToNat, reduceCtorEq, dec_t, dec_f, rd_s hc, ew, eh]
    refine white_ct hq.rz h4 ⟨mm.w1, mm.h1, mm.area⟩ fun v H4 h5 _ => ?_
    obtain ⟨vb, kv⟩ := bmV h5
    obtain ⟨a3, c3, e3, rfl⟩ := kv.arr.shape
    have h6 := h5.alloc (l := [.int .i64 d.wn, .int .i64 d.hn, .sl a3 (Wds d.wn d.hn fun _ _ => false).length c3 e3])
    simp -implicitDefEqProofs -dsimp (disch := omega) only [go_sem, Nat.reduceEqDiff, ↓reduceIte, Nat.reduceAdd, Nat.reduceMul, Nat.reduceSub, Nat.reduceLT, Nat.reduceLeDiff, Int.reduceLT, Int.reduceLE, Int.reduceEq, Int.reduceNeg, Int.reduceAdd, Int.reduceMul, Int.reduceSub, Int.reduceToNat, reduceCtorEq, dec_t, dec_f, ]
    generalize H4.new _ = H5 at *
    generalize H4.next = sp at *
    refine ops_source hq ks mm hS (l := [.int .i64 n1, .int .i64 n2, .int .i64 n3, .int .i64 n4, .int .i64 n5, .int .i64 n6, .int .i64 n7, .int .i64 n8]) h6.p1 fun ex H6 h7 => ?_
    simp -implicitDefEqProofs -dsimp (disch := omega) only [go_sem, Nat.reduceEqDiff, ↓reduceIte, Nat.reduceAdd, Nat.reduceMul, Nat.reduceSub, Nat.reduceLT, Nat.reduceLeDiff, Int.reduceLT, Int.reduceLE, Int.reduceEq, Int.reduceNeg, Int.reduceAdd, Int.reduceMul, Int.reduceSub, Int.reduceToNat, reduceCtorEq, dec_t, dec_f, BoF]
    generalize hcs : ([.int .i64 s.w, .int .i64 s.h, s.v, .int .i64 n1, .int .i64 n2, .int .i64 n3, .int .i64 n4, .int .i64 n5, .int .i64 n6, .int .i64 n7, .int .i64 n8] : List V) = cs
    have h8 : Hs H6 [BmA (.sl a3 (Wds d.wn d.hn fun _ _ => false).length c3 e3) d.wn d.hn S, Cel sp [.int .i64 d.wn, .int .i64 d.hn, .sl a3 (Wds d.wn d.hn fun _ _ => false).length c3 e3], Cel p (.int .i64 d.w :: .int .i64 d.h :: d.v :: cs), Bas H] := by rw [← hcs]; exact h7
    have h20 := h8.lst (Same.refl _ _) (own_nil _ 1) fun _ h => h.elim
    generalize (V.sl a3 (Wds d.wn d.hn fun _ _ => false).length c3 e3) = vs at *
    refine loop_unroll ?_
    refine ops_round (l := cs) hq kd hm (by simp) (by simp) (by omega) h20 rfl fun m0 lv0 G0 h21 => ?_
    rw [more_n]
    refine loop_unroll ?_
    refine ops_round (l := cs) hq kd hm (by simp) (by simp) (by omega) h21 rfl fun m1 lv1 G1 h22 => ?_
    rw [more_n]
    refine loop_unroll ?_
    refine ops_round (l := cs) hq kd hm (by simp) (by simp) (by omega) h22 rfl fun m2 lv2 G2 h23 => ?_
    rw [more_n]
    refine loop_unroll ?_
    refine ops_round (l := cs) hq kd hm (by simp) (by simp) (by omega) h23 rfl fun m3 lv3 G3 h24 => ?_
    rw [more_n]
    refine loop_unroll ?_
    refine ops_round (l := cs) hq kd hm (by simp) (by simp) (by omega) h24 rfl fun m4 lv4 G4 h25 => ?_
    rw [more_n]
    refine loop_unroll ?_
    refine ops_round (l := cs) hq kd hm (by simp) (by simp) (by omega) h25 rfl fun m5 lv5 G5 h26 => ?_
    rw [more_n]
    refine loop_unroll ?_
    refine ops_round (l := cs) hq kd hm (by simp) (by simp) (by omega) h26 rfl fun m6 lv6 G6 h27 => ?_
    rw [more_n]
    refine loop_unroll ?_
    have hrs : rd G6 (some 3) sp 0 = some (.agg [.int .i64 d.wn, .int .i64 d.hn, vs]) := by rw [rd_m (h27.celm (b := sp) (l := [.int .i64 d.wn, .int .i64 d.hn, vs]) (by simp))]; rfl
    simp -implicitDefEqProofs -dsimp (disch := omega) only [go_sem, Nat.reduceEqDiff, ↓reduceIte, Nat.reduceAdd, Nat.reduceMul, Nat.reduceSub, Nat.reduceLT, Nat.reduceLeDiff, Int.reduceLT, Int.reduceLE, Int.reduceEq, Int.reduceNeg, Int.reduceAdd, Int.reduceMul, Int.reduceSub, Int.reduceToNat, reduceCtorEq, dec_t, dec_f, BpF, burinlaw2_BitmapOps_l1, more_e, hrs]
    have z4 := Nat.le_mul_of_pos_right d.wn (show 0 < d.hn by have := mm.h1; omega)
    have z5 := Nat.le_mul_of_pos_left d.hn (show 0 < d.wn by have := mm.w1; omega)
    have z3 := mm.area
    refine from_ct hq.bm h27 (ws := Wds d.wn d.hn S) (fun s => ((h27.sel [8, 11] (by decide)).bml.own.arr).same s fun _ _ h => h) (Wds_lt _ _ _) (by omega) (by omega) (fun k => absurd (mayB_Wds mm.w1 mm.h1 mm.area) k) fun _ t G7 h28 _ => ?_
    rw [Int.toNat_natCast, Int.toNat_natCast] at h28
    have h28 := h28.mapc (q := S) fun i j hi hj => pixOf_Wds S hi hj
    simp -implicitDefEqProofs -dsimp (disch := omega) only [go_sem, Nat.reduceEqDiff, ↓reduceIte, Nat.reduceAdd, Nat.reduceMul, Nat.reduceSub, Nat.reduceLT, Nat.reduceLeDiff, Int.reduceLT, Int.reduceLE, Int.reduceEq, Int.reduceNeg, Int.reduceAdd, Int.reduceMul, Int.reduceSub, Int.reduceToNat, reduceCtorEq, dec_t, dec_f, ]
    have hp := hq.bm
    obtain ⟨lb, lo, lc, rfl⟩ := (h28.ownm (List.mem_cons_of_mem _ (List.mem_cons_self ..))).arr.at0 (by omega)
    have rdl : ∀ {H' : Heap} {L' : List As}, Hs H' L' → Lst (.sl (some (lb, lo)) 7 lc 1) 1 7 [.ptr (some (m0, 0)), .ptr (some (m1, 0)), .ptr (some (m2, 0)), .ptr (some (m3, 0)), .ptr (some (m4, 0)), .ptr (some (m5, 0)), .ptr (some (m6, 0))] ∈ L' →
        rd H' none lb lo = some (.ptr (some (m0, 0))) ∧ rd H' none lb (lo + 1) = some (.ptr (some (m1, 0))) ∧ rd H' none lb (lo + 2) = some (.ptr (some (m2, 0))) ∧ rd H' none lb (lo + 3) = some (.ptr (some (m3, 0))) ∧ rd H' none lb (lo + 4) = some (.ptr (some (m4, 0))) ∧ rd H' none lb (lo + 5) = some (.ptr (some (m5, 0))) := fun h hm =>
      ⟨(h.ownm hm).arr.rd1 (i := 0) (by omega), (h.ownm hm).arr.rd1 (i := 1) (by omega), (h.ownm hm).arr.rd1 (i := 2) (by omega), (h.ownm hm).arr.rd1 (i := 3) (by omega), (h.ownm hm).arr.rd1 (i := 4) (by omega), (h.ownm hm).arr.rd1 (i := 5) (by omega)⟩
    refine loop_unroll ?_
    refine ops_blit (x := 0) (j := 8) hq h28 rfl rfl rfl (by omega) (by omega) rfl fun B0 hb0 => ?_
    rw [more_n]
    refine loop_unroll ?_
    refine ops_blit (x := 1) (j := 7) hq hb0 rfl rfl rfl (by omega) (by omega) rfl fun B1 hb1 => ?_
    rw [more_n]
    refine loop_unroll ?_
    refine ops_blit (x := 2) (j := 6) hq hb1 rfl rfl rfl (by omega) (by omega) rfl fun B2 hb2 => ?_
    rw [more_n]
    refine loop_unroll ?_
    refine ops_blit (x := 3) (j := 5) hq hb2 rfl rfl rfl (by omega) (by omega) rfl fun B3 hb3 => ?_
    rw [more_n]
    refine loop_unroll ?_
    refine ops_blit (x := 4) (j := 4) hq hb3 rfl rfl rfl (by omega) (by omega) rfl fun B4 hb4 => ?_
    rw [more_n]
    refine loop_unroll ?_
    simp -implicitDefEqProofs -dsimp (disch := omega) only [go_sem, Nat.reduceEqDiff, ↓reduceIte, Nat.reduceAdd, Nat.reduceMul, Nat.reduceSub, Nat.reduceLT, Nat.reduceLeDiff, Int.reduceLT, Int.reduceLE, Int.reduceEq, Int.reduceNeg, Int.reduceAdd, Int.reduceMul, Int.reduceSub, Int.reduceToNat, reduceCtorEq, dec_t, dec_f, BqF, burinlaw2_BitmapOps_l0, more_e]
    obtain ⟨r0, r1, r2, r3, r4, r5⟩ := rdl hb4 (by simp)
    simp -implicitDefEqProofs -dsimp (disch := omega) only [go_sem, Nat.reduceEqDiff, ↓reduceIte, Nat.reduceAdd, Nat.reduceMul, Nat.reduceSub, Nat.reduceLT, Nat.reduceLeDiff, Int.reduceLT, Int.reduceLE, Int.reduceEq, Int.reduceNeg, Int.reduceAdd, Int.reduceMul, Int.reduceSub, Int.reduceToNat, reduceCtorEq, dec_t, dec_f, r0]
    refine plain_at hp 8 hb4 rfl fun v15 C15 g15 => ?_
    obtain ⟨a15, c15, e15, hv15⟩ := (g15.bmarr (List.mem_cons_self ..)).shape
    have k15 := g15.alloc (l := [.int .i64 d.wn, .int .i64 d.hn, v15])
    rw [hv15] at k15 ⊢
    obtain ⟨r0, r1, r2, r3, r4, r5⟩ := rdl k15 (by simp)
    simp -implicitDefEqProofs -dsimp (disch := omega) only [go_sem, Nat.reduceEqDiff, ↓reduceIte, Nat.reduceAdd, Nat.reduceMul, Nat.reduceSub, Nat.reduceLT, Nat.reduceLeDiff, Int.reduceLT, Int.reduceLE, Int.reduceEq, Int.reduceNeg, Int.reduceAdd, Int.reduceMul, Int.reduceSub, Int.reduceToNat, reduceCtorEq, dec_t, dec_f, r0, r1, r2, r3, r4, r5]
    rw [← hv15] at k15 ⊢
    clear hv15 r0 r1 r2 r3 r4 r5
    generalize C15.new _ = D15 at *
    generalize C15.next = b15 at *
    refine plain_at hp 9 k15 rfl fun v16 C16 g16 => ?_
    obtain ⟨a16, c16, e16, hv16⟩ := (g16.bmarr (List.mem_cons_self ..)).shape
    have k16 := g16.alloc (l := [.int .i64 d.wn, .int .i64 d.hn, v16])
    rw [hv16] at k16 ⊢
    obtain ⟨r0, r1, r2, r3, r4, r5⟩ := rdl k16 (by simp)
    simp -implicitDefEqProofs -dsimp (disch := omega) only [go_sem, Nat.reduceEqDiff, ↓reduceIte, Nat.reduceAdd, Nat.reduceMul, Nat.reduceSub, Nat.reduceLT, Nat.reduceLeDiff, Int.reduceLT, Int.reduceLE, Int.reduceEq, Int.reduceNeg, Int.reduceAdd, Int.reduceMul, Int.reduceSub, Int.reduceToNat, reduceCtorEq, dec_t, dec_f, r0, r1, r2, r3, r4, r5]
    rw [← hv16] at k16 ⊢
    clear hv16 r0 r1 r2 r3 r4 r5
    generalize C16.new _ = D16 at *
    generalize C16.next = b16 at *
    refine plain_at hp 10 k16 rfl fun v17 C17 g17 => ?_
    obtain ⟨a17, c17, e17, hv17⟩ := (g17.bmarr (List.mem_cons_self ..)).shape
    have k17 := g17.alloc (l := [.int .i64 d.wn, .int .i64 d.hn, v17])
    rw [hv17] at k17 ⊢
    obtain ⟨r0, r1, r2, r3, r4, r5⟩ := rdl k17 (by simp)
    simp -implicitDefEqProofs -dsimp (disch := omega) only [go_sem, Nat.reduceEqDiff, ↓reduceIte, Nat.reduceAdd, Nat.reduceMul, Nat.reduceSub, Nat.reduceLT, Nat.reduceLeDiff, Int.reduceLT, Int.reduceLE, Int.reduceEq, Int.reduceNeg, Int.reduceAdd, Int.reduceMul, Int.reduceSub, Int.reduceToNat, reduceCtorEq, dec_t, dec_f, r0, r1, r2, r3, r4, r5]
    rw [← hv17] at k17 ⊢
    clear hv17 r0 r1 r2 r3 r4 r5
    generalize C17.new _ = D17 at *
    generalize C17.next = b17 at *
    have rda : ∀ {H' : Heap} {L' : List As} {b : Nat} {v : V}, Hs H' L' → Cel b [.int .i64 d.wn, .int .i64 d.hn, v] ∈ L' → rd H' (some 3) b 0 = some (.agg [.int .i64 d.wn, .int .i64 d.hn, v]) := fun h hm => by rw [rd_m (h.celm hm)]; rfl
    have rdp : ∀ {H' : Heap} {L' : List As}, Hs H' L' → Cel p (.int .i64 d.w :: .int .i64 d.h :: d.v :: cs) ∈ L' → rd H' (some 3) p 0 = some (.agg [.int .i64 d.w, .int .i64 d.h, d.v]) := fun h hm => by rw [rd_m (h.celm hm)]; rfl
    have facts : ∀ {H' : Heap} {L' : List As}, Hs H' L' → L'[0]? = some (Cel b17 [.int .i64 d.wn, .int .i64 d.hn, v17]) → L'[2]? = some (Cel b16 [.int .i64 d.wn, .int .i64 d.hn, v16]) → L'[4]? = some (Cel b15 [.int .i64 d.wn, .int .i64 d.hn, v15]) → L'[16]? = some (Cel sp [.int .i64 d.wn, .int .i64 d.hn, vs]) →
        L'[17]? = some (Cel p (.int .i64 d.w :: .int .i64 d.h :: d.v :: cs)) → L'[7]? = some (Lst (.sl (some (lb, lo)) 7 lc 1) 1 7 [.ptr (some (m0, 0)), .ptr (some (m1, 0)), .ptr (some (m2, 0)), .ptr (some (m3, 0)), .ptr (some (m4, 0)), .ptr (some (m5, 0)), .ptr (some (m6, 0))]) →
        (rd H' (some 3) b17 0 = some (.agg [.int .i64 d.wn, .int .i64 d.hn, v17]) ∧ rd H' (some 3) b16 0 = some (.agg [.int .i64 d.wn, .int .i64 d.hn, v16]) ∧ rd H' (some 3) b15 0 = some (.agg [.int .i64 d.wn, .int .i64 d.hn, v15]) ∧ rd H' (some 3) sp 0 = some (.agg [.int .i64 d.wn, .int .i64 d.hn, vs]) ∧ rd H' (some 3) p 0 = some (.agg [.int .i64 d.w, .int .i64 d.h, d.v])) ∧
        rd H' none lb lo = some (.ptr (some (m0, 0))) ∧ rd H' none lb (lo + 1) = some (.ptr (some (m1, 0))) ∧ rd H' none lb (lo + 2) = some (.ptr (some (m2, 0))) ∧ rd H' none lb (lo + 3) = some (.ptr (some (m3, 0))) ∧ rd H' none lb (lo + 4) = some (.ptr (some (m4, 0))) ∧ rd H' none lb (lo + 5) = some (.ptr (some (m5, 0))) := fun h c0 c2 c4 c16 c17 c7 =>
      ⟨⟨rda h (List.mem_of_getElem? c0), rda h (List.mem_of_getElem? c2), rda h (List.mem_of_getElem? c4), rda h (List.mem_of_getElem? c16), rdp h (List.mem_of_getElem? c17)⟩, rdl h (List.mem_of_getElem? c7)⟩
    refine inv_at hp 11 k17 rfl fun E1 u1 => ?_
    have ff := facts u1 rfl rfl rfl rfl rfl rfl
    simp -implicitDefEqProofs -dsimp (disch := omega) only [go_sem, Nat.reduceEqDiff, ↓reduceIte, Nat.reduceAdd, Nat.reduceMul, Nat.reduceSub, Nat.reduceLT, Nat.reduceLeDiff, Int.reduceLT, Int.reduceLE, Int.reduceEq, Int.reduceNeg, Int.reduceAdd, Int.reduceMul, Int.reduceSub, Int.reduceToNat, reduceCtorEq, dec_t, dec_f, ff]
    clear ff
    refine same_at hq (q := fun a b => opB 2 (d.px a b) (S a b)) 11 u1 rfl (by simp) fun E2 u2 => ?_
    rw [decide_eq_true (fun x y _ _ => by cases d.px x y <;> cases S x y <;> rfl)]
    have ff := facts u2 rfl rfl rfl rfl rfl rfl
    simp -implicitDefEqProofs -dsimp (disch := omega) only [go_sem, Nat.reduceEqDiff, ↓reduceIte, Nat.reduceAdd, Nat.reduceMul, Nat.reduceSub, Nat.reduceLT, Nat.reduceLeDiff, Int.reduceLT, Int.reduceLE, Int.reduceEq, Int.reduceNeg, Int.reduceAdd, Int.reduceMul, Int.reduceSub, Int.reduceToNat, reduceCtorEq, dec_t, dec_f, ff]
    clear ff
    refine same_at hq (q := S) 10 u2 rfl (by simp) fun E3 u3 => ?_
    rw [decide_eq_true (fun x y _ _ => by cases d.px x y <;> cases S x y <;> rfl)]
    have ff := facts u3 rfl rfl rfl rfl rfl rfl
    simp -implicitDefEqProofs -dsimp (disch := omega) only [go_sem, Nat.reduceEqDiff, ↓reduceIte, Nat.reduceAdd, Nat.reduceMul, Nat.reduceSub, Nat.reduceLT, Nat.reduceLeDiff, Int.reduceLT, Int.reduceLE, Int.reduceEq, Int.reduceNeg, Int.reduceAdd, Int.reduceMul, Int.reduceSub, Int.reduceToNat, reduceCtorEq, dec_t, dec_f, ff]
    clear ff
    refine blitW hp 14 6 u3 rfl rfl (by omega) 0 rfl (by omega) fun E4 u4 => ?_
    have ff := facts u4 rfl rfl rfl rfl rfl rfl
    simp -implicitDefEqProofs -dsimp (disch := omega) only [go_sem, Nat.reduceEqDiff, ↓reduceIte, Nat.reduceAdd, Nat.reduceMul, Nat.reduceSub, Nat.reduceLT, Nat.reduceLeDiff, Int.reduceLT, Int.reduceLE, Int.reduceEq, Int.reduceNeg, Int.reduceAdd, Int.reduceMul, Int.reduceSub, Int.reduceToNat, reduceCtorEq, dec_t, dec_f, ff]
    clear ff
    refine blitW hp 13 6 u4 rfl rfl (by omega) 1 rfl (by omega) fun E5 u5 => ?_
    have ff := facts u5 rfl rfl rfl rfl rfl rfl
    simp -implicitDefEqProofs -dsimp (disch := omega) only [go_sem, Nat.reduceEqDiff, ↓reduceIte, Nat.reduceAdd, Nat.reduceMul, Nat.reduceSub, Nat.reduceLT, Nat.reduceLeDiff, Int.reduceLT, Int.reduceLE, Int.reduceEq, Int.reduceNeg, Int.reduceAdd, Int.reduceMul, Int.reduceSub, Int.reduceToNat, reduceCtorEq, dec_t, dec_f, ff]
    clear ff
    refine blitW hp 12 6 u5 rfl rfl (by omega) 2 rfl (by omega) fun E6 u6 => ?_
    have ff := facts u6 rfl rfl rfl rfl rfl rfl
    simp -implicitDefEqProofs -dsimp (disch := omega) only [go_sem, Nat.reduceEqDiff, ↓reduceIte, Nat.reduceAdd, Nat.reduceMul, Nat.reduceSub, Nat.reduceLT, Nat.reduceLeDiff, Int.reduceLT, Int.reduceLE, Int.reduceEq, Int.reduceNeg, Int.reduceAdd, Int.reduceMul, Int.reduceSub, Int.reduceToNat, reduceCtorEq, dec_t, dec_f, ff]
    clear ff
    refine same_at hq (q := fun a b => opB 0 (d.px a b) (S a b)) 14 u6 rfl (by simp) fun E7 u7 => ?_
    rw [decide_eq_true (fun x y _ _ => by cases d.px x y <;> cases S x y <;> rfl)]
    have ff := facts u7 rfl rfl rfl rfl rfl rfl
    simp -implicitDefEqProofs -dsimp (disch := omega) only [go_sem, Nat.reduceEqDiff, ↓reduceIte, Nat.reduceAdd, Nat.reduceMul, Nat.reduceSub, Nat.reduceLT, Nat.reduceLeDiff, Int.reduceLT, Int.reduceLE, Int.reduceEq, Int.reduceNeg, Int.reduceAdd, Int.reduceMul, Int.reduceSub, Int.reduceToNat, reduceCtorEq, dec_t, dec_f, ff]
    clear ff
    refine same_at hq (q := fun a b => opB 1 (d.px a b) (S a b)) 13 u7 rfl (by simp) fun E8 u8 => ?_
    rw [decide_eq_true (fun x y _ _ => by cases d.px x y <;> cases S x y <;> rfl)]
    have ff := facts u8 rfl rfl rfl rfl rfl rfl
    simp -implicitDefEqProofs -dsimp (disch := omega) only [go_sem, Nat.reduceEqDiff, ↓reduceIte, Nat.reduceAdd, Nat.reduceMul, Nat.reduceSub, Nat.reduceLT, Nat.reduceLeDiff, Int.reduceLT, Int.reduceLE, Int.reduceEq, Int.reduceNeg, Int.reduceAdd, Int.reduceMul, Int.reduceSub, Int.reduceToNat, reduceCtorEq, dec_t, dec_f, ff]
    clear ff
    refine sameO hq kd mm (u8.foc 12 rfl) (by simp) fun E9 u9 => ?_
    replace u9 := Hs.unf (i := 12) rfl u9
    rw [decide_eq_true (fun x y _ _ => by cases d.px x y <;> cases S x y <;> rfl)]
    have ff := facts u9 rfl rfl rfl rfl rfl rfl
    simp -implicitDefEqProofs -dsimp (disch := omega) only [go_sem, Nat.reduceEqDiff, ↓reduceIte, Nat.reduceAdd, Nat.reduceMul, Nat.reduceSub, Nat.reduceLT, Nat.reduceLeDiff, Int.reduceLT, Int.reduceLE, Int.reduceEq, Int.reduceNeg, Int.reduceAdd, Int.reduceMul, Int.reduceSub, Int.reduceToNat, reduceCtorEq, dec_t, dec_f, ff]
    clear ff
    refine inv_at hp 9 u9 rfl fun E10 u10 => ?_
    have ff := facts u10 rfl rfl rfl rfl rfl rfl
    simp -implicitDefEqProofs -dsimp (disch := omega) only [go_sem, Nat.reduceEqDiff, ↓reduceIte, Nat.reduceAdd, Nat.reduceMul, Nat.reduceSub, Nat.reduceLT, Nat.reduceLeDiff, Int.reduceLT, Int.reduceLE, Int.reduceEq, Int.reduceNeg, Int.reduceAdd, Int.reduceMul, Int.reduceSub, Int.reduceToNat, reduceCtorEq, dec_t, dec_f, ff]
    clear ff
    refine inv_at hp 6 u10 rfl fun E11 u11 => ?_
    have ff := facts u11 rfl rfl rfl rfl rfl rfl
    simp -implicitDefEqProofs -dsimp (disch := omega) only [go_sem, Nat.reduceEqDiff, ↓reduceIte, Nat.reduceAdd, Nat.reduceMul, Nat.reduceSub, Nat.reduceLT, Nat.reduceLeDiff, Int.reduceLT, Int.reduceLE, Int.reduceEq, Int.reduceNeg, Int.reduceAdd, Int.reduceMul, Int.reduceSub, Int.reduceToNat, reduceCtorEq, dec_t, dec_f, ff]
    clear ff
    refine blitW hp 9 6 u11 rfl rfl (by omega) 1 rfl (by omega) fun E12 u12 => ?_
    have ff := facts u12 rfl rfl rfl rfl rfl rfl
    simp -implicitDefEqProofs -dsimp (disch := omega) only [go_sem, Nat.reduceEqDiff, ↓reduceIte, Nat.reduceAdd, Nat.reduceMul, Nat.reduceSub, Nat.reduceLT, Nat.reduceLeDiff, Int.reduceLT, Int.reduceLE, Int.reduceEq, Int.reduceNeg, Int.reduceAdd, Int.reduceMul, Int.reduceSub, Int.reduceToNat, reduceCtorEq, dec_t, dec_f, ff]
    clear ff
    refine inv_at hp 9 u12 rfl fun E13 u13 => ?_
    have ff := facts u13 rfl rfl rfl rfl rfl rfl
    simp -implicitDefEqProofs -dsimp (disch := omega) only [go_sem, Nat.reduceEqDiff, ↓reduceIte, Nat.reduceAdd, Nat.reduceMul, Nat.reduceSub, Nat.reduceLT, Nat.reduceLeDiff, Int.reduceLT, Int.reduceLE, Int.reduceEq, Int.reduceNeg, Int.reduceAdd, Int.reduceMul, Int.reduceSub, Int.reduceToNat, reduceCtorEq, dec_t, dec_f, ff]
    clear ff
    refine same_at hq (q := fun a b => opB 0 (d.px a b) (S a b)) 9 u13 rfl (by simp) fun E14 u14 => ?_
    rw [decide_eq_true (fun x y _ _ => by cases d.px x y <;> cases S x y <;> rfl)]
    have ff := facts u14 rfl rfl rfl rfl rfl rfl
    simp -implicitDefEqProofs -dsimp (disch := omega) only [go_sem, Nat.reduceEqDiff, ↓reduceIte, Nat.reduceAdd, Nat.reduceMul, Nat.reduceSub, Nat.reduceLT, Nat.reduceLeDiff, Int.reduceLT, Int.reduceLE, Int.reduceEq, Int.reduceNeg, Int.reduceAdd, Int.reduceMul, Int.reduceSub, Int.reduceToNat, reduceCtorEq, dec_t, dec_f, d_gre, ff]
    clear ff
    have n1 := cnt2_le d.wn (fun a b => opB 0 (d.px a b) (S a b)) d.hn
    have n2 := cnt2_le d.wn (fun a b => opB 1 (d.px a b) (S a b)) d.hn
    have n3 := cnt2_le d.wn d.px d.hn
    have n4 := cnt2_le d.wn S d.hn
    have n5 := cnt2_le d.wn (fun a b => opB 2 (d.px a b) (S a b)) d.hn
    obtain ⟨e1, e2⟩ := ops_counts d.wn d.hn d.px S
    rw [Nat.mul_comm] at n1 n2 n3 n4 n5
    refine countB_at hq.rz (p := fun a b => opB 0 (d.px a b) (S a b)) u14 (by simp) fun E15 u15 => ?_
    have ff := facts u15 rfl rfl rfl rfl rfl rfl
    refine aft_intro (t := tag _) (by simp [rechecks, recheck, fresh, Fr.get, Fr.put, look, step, opd, ff]) ?_
    simp -implicitDefEqProofs -dsimp (disch := omega) only [go_sem, Nat.reduceEqDiff, ↓reduceIte, Nat.reduceAdd, Nat.reduceMul, Nat.reduceSub, Nat.reduceLT, Nat.reduceLeDiff, Int.reduceLT, Int.reduceLE, Int.reduceEq, Int.reduceNeg, Int.reduceAdd, Int.reduceMul, Int.reduceSub, Int.reduceToNat, reduceCtorEq, dec_t, dec_f, d_gre, ff, w64]
    clear ff
    refine countB_at hq.rz (p := fun a b => opB 1 (d.px a b) (S a b)) u15 (by simp) fun E16 u16 => ?_
    have ff := facts u16 rfl rfl rfl rfl rfl rfl
    refine aft_intro (t := tag _) (by simp [rechecks, recheck, fresh, Fr.get, Fr.put, look, step, opd, ff]) ?_
    simp -implicitDefEqProofs -dsimp (disch := omega) only [go_sem, Nat.reduceEqDiff, ↓reduceIte, Nat.reduceAdd, Nat.reduceMul, Nat.reduceSub, Nat.reduceLT, Nat.reduceLeDiff, Int.reduceLT, Int.reduceLE, Int.reduceEq, Int.reduceNeg, Int.reduceAdd, Int.reduceMul, Int.reduceSub, Int.reduceToNat, reduceCtorEq, dec_t, dec_f, d_gre, ff, w64]
    clear ff
    rw [ew, eh]
    refine countR_ct hq.rz u16 (kd.arr.same (u16.bas (by simp)) fun _ _ h => h) mm.len kd.lt ⟨mm.w1, mm.h1, mm.area⟩ fun E17 u17 _ => ?_
    rw [show pixOf d.wn d.ws = d.px from rfl]
    have ff := facts u17 rfl rfl rfl rfl rfl rfl
    refine aft_intro (t := tag _) (by simp [rechecks, recheck, fresh, Fr.get, Fr.put, look, step, opd, ff]) ?_
    simp -implicitDefEqProofs -dsimp (disch := omega) only [go_sem, Nat.reduceEqDiff, ↓reduceIte, Nat.reduceAdd, Nat.reduceMul, Nat.reduceSub, Nat.reduceLT, Nat.reduceLeDiff, Int.reduceLT, Int.reduceLE, Int.reduceEq, Int.reduceNeg, Int.reduceAdd, Int.reduceMul, Int.reduceSub, Int.reduceToNat, reduceCtorEq, dec_t, dec_f, d_gre, ff, w64]
    clear ff
    refine countB_at hq.rz (p := S) u17 (by simp) fun E18 u18 => ?_
    have ff := facts u18 rfl rfl rfl rfl rfl rfl
    simp -implicitDefEqProofs -dsimp (disch := omega) only [go_sem, Nat.reduceEqDiff, ↓reduceIte, Nat.reduceAdd, Nat.reduceMul, Nat.reduceSub, Nat.reduceLT, Nat.reduceLeDiff, Int.reduceLT, Int.reduceLE, Int.reduceEq, Int.reduceNeg, Int.reduceAdd, Int.reduceMul, Int.reduceSub, Int.reduceToNat, reduceCtorEq, dec_t, dec_f, d_gre, ff, w64]
    clear ff
    refine countB_at hq.rz (p := fun a b => opB 0 (d.px a b) (S a b)) u18 (by simp) fun E19 u19 => ?_
    have ff := facts u19 rfl rfl rfl rfl rfl rfl
    refine aft_intro (t := tag _) (by simp [rechecks, recheck, fresh, Fr.get, Fr.put, look, step, opd, ff]) ?_
    simp -implicitDefEqProofs -dsimp (disch := omega) only [go_sem, Nat.reduceEqDiff, ↓reduceIte, Nat.reduceAdd, Nat.reduceMul, Nat.reduceSub, Nat.reduceLT, Nat.reduceLeDiff, Int.reduceLT, Int.reduceLE, Int.reduceEq, Int.reduceNeg, Int.reduceAdd, Int.reduceMul, Int.reduceSub, Int.reduceToNat, reduceCtorEq, dec_t, dec_f, d_gre, ff, w64]
    clear ff
    refine countB_at hq.rz (p := fun a b => opB 1 (d.px a b) (S a b)) u19 (by simp) fun E20 u20 => ?_
    have ff := facts u20 rfl rfl rfl rfl rfl rfl
    refine aft_intro (t := tag _) (by simp [rechecks, recheck, fresh, Fr.get, Fr.put, look, step, opd, ff]) ?_
    simp -implicitDefEqProofs -dsimp (disch := omega) only [go_sem, Nat.reduceEqDiff, ↓reduceIte, Nat.reduceAdd, Nat.reduceMul, Nat.reduceSub, Nat.reduceLT, Nat.reduceLeDiff, Int.reduceLT, Int.reduceLE, Int.reduceEq, Int.reduceNeg, Int.reduceAdd, Int.reduceMul, Int.reduceSub, Int.reduceToNat, reduceCtorEq, dec_t, dec_f, d_gre, ff, w64]
    clear ff
    refine countB_at hq.rz (p := fun a b => opB 2 (d.px a b) (S a b)) u20 (by simp) fun E21 u21 => ?_
    have ff := facts u21 rfl rfl rfl rfl rfl rfl
    simp -implicitDefEqProofs -dsimp (disch := omega) only [go_sem, Nat.reduceEqDiff, ↓reduceIte, Nat.reduceAdd, Nat.reduceMul, Nat.reduceSub, Nat.reduceLT, Nat.reduceLeDiff, Int.reduceLT, Int.reduceLE, Int.reduceEq, Int.reduceNeg, Int.reduceAdd, Int.reduceMul, Int.reduceSub, Int.reduceToNat, reduceCtorEq, dec_t, dec_f, d_gre, ff, w64]
    clear ff
    refine wakes_ct hq u21 fun H3 => ?_
    simp -implicitDefEqProofs -dsimp (disch := omega) only [go_sem, Nat.reduceEqDiff, ↓reduceIte, Nat.reduceAdd, Nat.reduceMul, Nat.reduceSub, Nat.reduceLT, Nat.reduceLeDiff, Int.reduceLT, Int.reduceLE, Int.reduceEq, Int.reduceNeg, Int.reduceAdd, Int.reduceMul, Int.reduceSub, Int.reduceToNat, reduceCtorEq, dec_t, dec_f, ]
  · rw [decide_eq_false hsm]
    simp -implicitDefEqProofs -dsimp (disch := omega) only [go_sem, Nat.reduceEqDiff, ↓reduceIte, Nat.reduceAdd, Nat.reduceMul, Nat.reduceSub, Nat.reduceLT, Nat.reduceLeDiff, Int.reduceLT, Int.reduceLE, Int.reduceEq, Int.reduceNeg, Int.reduceAdd, Int.reduceMul, Int.reduceSub, Int.reduceToNat, reduceCtorEq, dec_t, dec_f, ]
    refine wakes_ct hq h4 fun H3 => ?_
    simp -implicitDefEqProofs -dsimp (disch := omega) only [go_sem, Nat.reduceEqDiff, ↓reduceIte, Nat.reduceAdd, Nat.reduceMul, Nat.reduceSub, Nat.reduceLT, Nat.reduceLeDiff, Int.reduceLT, Int.reduceLE, Int.reduceEq, Int.reduceNeg, Int.reduceAdd, Int.reduceMul, Int.reduceSub, Int.reduceToNat, reduceCtorEq, dec_t, dec_f, ]
theorem law_BitmapOps {P : Prog} (hp : HasL2 P) (hg : P 110 = some burinlaw2_BitmapOps) (H : Heap) (cs : List V) (x : TD.Ty blitTD) (h : Is H blitTD cs x) : Call P 110 [argV blitTD cs] H fun o _ => o = .ret (.bool true) := by
  obtain ⟨d, s, n1, n2, n3, n4, n5, n6, n7, n8, rfl, k1, k2, i1, i2, i3, i4, i5, i6, i7, i8⟩ := is_blit h
  exact bitmapOps hp hg k1 k2
end Go.Ab
