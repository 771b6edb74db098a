/- OverBitmaps: bitmaps whose words lie apart keep their marks. Conditions: none. -/
import Derived.Test.YtfgecfbknpifjaaP1
import Derived.Test.YtfgecfbknpifjaaPL10Of
set_option linter.all false
namespace Go.Ab
structure OvB where
  w : Int
  h : Int
  b : Nat
  n : Nat
def OvB.cs (o : OvB) : List V := [.int .i64 o.w, .int .i64 o.h, .sl (some (o.b, 0)) o.n o.n 1]
def ovCells (l : List OvB) : List V := l.flatMap OvB.cs
theorem ovCells_at : ∀ {l : List OvB} {i : Nat} (hi : i < l.length), ((ovCells l).drop (i * 3)).take 3 = l[i].cs
  | o :: l, 0, _ => by simp [ovCells, OvB.cs]
  | o :: l, i + 1, hi => by
    have := ovCells_at (l := l) (i := i) (by simpa using hi)
    rw [show (i + 1) * 3 = 3 + i * 3 by omega, ← List.drop_drop]
    simpa [ovCells, OvB.cs] using this
theorem ov_rd {H : Heap} {v : V} {L : List OvB} (h : Arr H v 3 L.length (ovCells L)) {a : Nat} (ha : a < L.length) :
    ∃ b o c, v = .sl (some (b, o)) L.length c 3 ∧ rd H none b (o + a * 3 + 2) = some (.sl (some (L[a].b, 0)) L[a].n L[a].n 1) := by
  obtain ⟨b, o, c, rfl, _, h1, h2⟩ := h.at ha
  have e := ovCells_at ha
  refine ⟨b, o, c, rfl, ?_⟩
  rw [h1 2 (by omega), ← List.getElem?_drop, show (List.drop (a * 3) (ovCells L))[2]? = (((ovCells L).drop (a * 3)).take 3)[2]? by rw [List.getElem?_take, if_pos (by omega)], e]; rfl
def ovAs (L : List OvB) (M : List (List Nat)) : List As := List.zipWith (fun o m => Cel o.b (u64s m)) L M
theorem ov_get {L : List OvB} {M : List (List Nat)} {R : List As} {i : Nat} (h1 : i < L.length) (h2 : i < M.length) : (ovAs L M ++ R)[i]? = some (Cel L[i].b (u64s M[i])) := by
  rw [List.getElem?_append_left (by simp [ovAs]; omega)]
  simp [ovAs, List.getElem?_zipWith, List.getElem?_eq_getElem h1, List.getElem?_eq_getElem h2]
theorem ov_set {L : List OvB} {M : List (List Nat)} {R : List As} {i : Nat} {m : List Nat} (h1 : i < L.length) (h2 : i < M.length) : (ovAs L M ++ R).set i (Cel L[i].b (u64s m)) = ovAs L (M.set i m) ++ R := by
  rw [List.set_append_left _ _ (by simp only [ovAs, List.length_zipWith]; omega)]
  congr 1
  refine List.ext_getElem? fun j => ?_
  unfold ovAs
  rw [List.getElem?_set, List.getElem?_zipWith, List.getElem?_zipWith, List.getElem?_set]
  by_cases e : i = j
  · subst e
    simp [h1, h2]; omega
  · simp [e]
section
variable {P : Prog} {H : Heap} {R E : List As} {Q : Post}
set_option maxHeartbeats 1000000 in
theorem ov_l3 {t : Tag Q} {s : Tag burinkit_OverBitmaps_l3} {L : List OvB} {lv : V} {i : Nat} {ws : List Nat} (hi : i < L.length) (hL : L.length ≤ 1048576) (hw : ws.length = L[i].n) (hwl : ws.length ≤ 1048576) (hR : ∀ m H', Hs H' (Cel L[i].b (u64s m) :: E) → Arr H' lv 3 L.length (ovCells L))
    (hs : Hs H (Cel L[i].b (u64s ws) :: E)) (hK : ∀ H' ex, Hs H' (Cel L[i].b (u64s (List.replicate ws.length (1000 + i))) :: E) → Q (.exit 2) ⟨(0, lv) :: (3, .int .i64 (i : Nat)) :: ex, []⟩ H') :
    loopL (Call P) [0, 3, 4] burinkit_OverBitmaps_l3 Q t s ⟨[(0, lv), (3, .int .i64 (i : Nat)), (4, .int .i64 ((0 : Nat) : Int))], []⟩ H := by
  obtain ⟨la, lc, le, rfl⟩ := (hR _ _ hs).shape
  refine loop_cnt ws.length (fun k => ⟨[(0, .sl la L.length lc le), (3, .int .i64 (i : Nat)), (4, .int .i64 (k : Nat))], []⟩)
    (fun k H => Hs H (Cel L[i].b (u64s (List.replicate k (1000 + i) ++ ws.drop k)) :: E)) (fun k H1 K hk h1 hn hx hrr => ?_) 0 H (Nat.zero_le _) (by simpa using hs)
  obtain ⟨xb, xo, xc, ev, r1⟩ := ov_rd (hR _ _ h1) hi
  cases ev
  rw [← hw] at r1
  by_cases hlt : k < ws.length
  · have hl : (u64s (List.replicate k (1000 + i) ++ ws.drop k)).length = ws.length := by simp [u64s]; omega
    obtain ⟨H2, w2, h2⟩ := Hs.sto 0 h1 rfl (o := k) (vs := [.int .u64 ((1000 + i : Nat) : Int)]) (by rw [hl]; simp only [List.length_cons, List.length_nil]; omega) rfl
    have eo : over (u64s (List.replicate k (1000 + i) ++ ws.drop k)) k [.int .u64 ((1000 + i : Nat) : Int)] = u64s (List.replicate (k + 1) (1000 + i) ++ ws.drop (k + 1)) := by
      rw [over_one (by rw [hl]; exact hlt)]
      unfold u64s
      rw [← List.map_set (f := fun (n : Nat) => V.int .u64 n) (a := 1000 + i)]
      congr 1
      rw [List.set_append_right _ _ (by simp), List.length_replicate, Nat.sub_self, List.drop_eq_getElem_cons hlt, List.set_cons_zero, List.replicate_succ', List.append_assoc]; rfl
    rw [eo] at h2
    have e1 : (1000 : Int) + (i : Nat) = ((1000 + i : Nat) : Int) := by omega
    simp -implicitDefEqProofs -dsimp (disch := omega) only [go_sem, dec_t, dec_f, burinkit_OverBitmaps_l3, Int.toNat_natCast, Nat.mul_one, r1, w64, wu64, e1, w2, cadd1]
    exact hn hlt H2 h2
  · obtain rfl : k = ws.length := by omega
    rw [List.drop_length, List.append_nil] at h1
    simp -implicitDefEqProofs -dsimp (disch := omega) only [go_sem, dec_t, dec_f, burinkit_OverBitmaps_l3, Int.toNat_natCast, r1]
    rw [hx]
    exact hK H1 _ h1
/-- The i-th is marked. -/
def ovMk (L : List OvB) (i : Nat) (m : List Nat) (n : Nat) : Prop := ∃ ex, m = List.replicate n (1000 + i) ++ ex
structure OvI (L : List OvB) (i : Nat) (M : List (List Nat)) : Prop where
  len : M.length = L.length
  old : ∀ (j : Nat) (m : List Nat) (o : OvB), j < i → M[j]? = some m → L[j]? = some o → ovMk L j m o.n
  new : ∀ (j : Nat) (m : List Nat) (o : OvB), i ≤ j → M[j]? = some m → L[j]? = some o → m.length = o.n
theorem OvI.next {L : List OvB} {i : Nat} {M : List (List Nat)} (k : OvI L i M) {m : List Nat} (hi : i < L.length) (hm : ovMk L i m L[i].n) : OvI L (i + 1) (M.set i m) := by
  refine ⟨by rw [List.length_set, k.len], fun j m' o hj e e2 => ?_, fun j m' o hj e e2 => ?_⟩
  · rw [List.getElem?_set] at e
    by_cases c : i = j
    · subst c
      rw [if_pos rfl, if_pos (by rw [k.len]; exact hi)] at e
      cases e
      rw [List.getElem?_eq_getElem hi] at e2; cases e2
      exact hm
    · rw [if_neg c] at e; exact k.old j m' o (by omega) e e2
  · rw [List.getElem?_set, if_neg (by omega)] at e
    exact k.new j m' o (by omega) e e2
set_option maxHeartbeats 1000000 in
theorem over_ct (hg : P 179 = some burinkit_OverBitmaps) {Q : Out → Heap → Prop} {L : List OvB} {lv : V} (hL : L.length ≤ 1048576) (hn : ∀ o ∈ L, 1 ≤ o.n ∧ o.n ≤ 1048576) (M0 : List (List Nat)) (h0 : OvI L 0 M0) (hs : Hs H (ovAs L M0 ++ R)) (hR : ∀ H', Hs H' R → Arr H' lv 3 L.length (ovCells L))
    (hQ : ∀ H', Hs H' R → Q (.ret (.bool true)) H') : Call P 179 [lv] H Q := by
  obtain ⟨la, lc, le, rfl⟩ := (hR H hs.drops).shape
  refine call_of hg rfl ?_
  simp -implicitDefEqProofs -dsimp (disch := omega) only [go_sem, dec_t, dec_f, ]
  refine loop_cnt L.length (fun i => ⟨[(0, .sl la L.length lc le), (3, .int .i64 (i : Nat))], []⟩)
    (fun i H => ∃ M, OvI L i M ∧ Hs H (ovAs L M ++ R)) (fun i H1 K hi ⟨M, k1, h1⟩ hn1 hx hrr => ?_) 0 H (Nat.zero_le _) ⟨M0, h0, hs⟩
  by_cases hlt : i < L.length
  · have hlM : i < M.length := by rw [k1.len]; exact hlt
    have eF := ov_get (R := R) hlt hlM
    have hml := k1.new i _ _ (Nat.le_refl i) (List.getElem?_eq_getElem hlM) (List.getElem?_eq_getElem hlt)
    have hno := hn _ (List.getElem_mem hlt)
    have back : ∀ {m : List Nat} {H' : Heap}, Hs H' (Cel L[i].b (u64s m) :: (ovAs L M ++ R).eraseIdx i) → Hs H' (ovAs L (M.set i m) ++ R) := fun {m H'} h => by
      have := Hs.unf eF h
      rwa [ov_set hlt hlM] at this
    have arr : ∀ (m : List Nat) (H' : Heap), Hs H' (Cel L[i].b (u64s m) :: (ovAs L M ++ R).eraseIdx i) → Arr H' (.sl la L.length lc le) 3 L.length (ovCells L) := fun m H' h => hR H' (back h).drops
    simp -implicitDefEqProofs -dsimp (disch := omega) only [go_sem, dec_t, dec_f, burinkit_OverBitmaps_l2]
    refine ov_l3 hlt hL hml (by omega) arr (h1.foc i eF) fun H2 ex h2 => ?_
    rw [hml] at h2
    obtain ⟨xb, xo, xc, ev, r1⟩ := ov_rd (arr _ _ h2) hlt
    cases ev
    have h3 := h2.alloc (l := [.int .u64 7])
    have r2 : rd (H2.new (.cells [.int .u64 7] true)) none xb (xo + i * 3 + 2) = some (.sl (some (L[i].b, 0)) L[i].n L[i].n 1) := by
      obtain ⟨yb, yo, yc, ev, q1⟩ := ov_rd (arr _ _ h3.tail) hlt
      cases ev; exact q1
    simp -implicitDefEqProofs -dsimp (disch := omega) only [go_sem, dec_t, dec_f, Int.toNat_natCast, r1]
    have hcel := h3.tail.cel
    have e1 : (1000 : Int) + (i : Nat) = ((1000 + i : Nat) : Int) := by omega
    have hll : (u64s (List.replicate L[i].n (1000 + i))).length = L[i].n := by simp [u64s]
    refine ops_app2 (b := L[i].b) (o := 0) (n := L[i].n) (m := 1) (l := u64s (List.replicate L[i].n (1000 + i))) (new := [.int .u64 7]) rfl rfl (firsts_new1 H2 [.int .u64 7] 1 1 rfl) hcel (by omega) (by omega) (by rw [hll]; omega) rfl (by simp only [growOk, decide_eq_true_eq]; omega) ?_ ?_
    · have h4 : Hs ((H2.new (.cells [.int .u64 7] true)).put L[i].b (.cells (u64s (List.replicate L[i].n (1000 + i)) ++ [.int .u64 7]) true)) (Cel L[i].b (u64s (List.replicate L[i].n (1000 + i)) ++ [.int .u64 7]) :: (ovAs L M ++ R).eraseIdx i) := h3.tail.put
      generalize ((H2.new (.cells [.int .u64 7] true)).put L[i].b (.cells (u64s (List.replicate L[i].n (1000 + i)) ++ [.int .u64 7]) true)) = H4 at *
      obtain ⟨H5, w5, h5⟩ := Hs.sto 0 h4 rfl (o := L[i].n) (vs := [.int .u64 ((1000 + i : Nat) : Int)]) (by simp [u64s]) rfl
      have eo : over (u64s (List.replicate L[i].n (1000 + i)) ++ [.int .u64 7]) L[i].n [.int .u64 ((1000 + i : Nat) : Int)] = u64s (List.replicate L[i].n (1000 + i) ++ [1000 + i]) := by
        rw [over_one (by simp [u64s]), List.set_append_right _ _ (by rw [hll]; omega), hll, Nat.sub_self]
        simp [u64s]
      rw [eo] at h5
      obtain ⟨yb, yo, yc, ev, q1⟩ := ov_rd (hR _ (by
        have := Hs.unf eF h4
        rw [List.set_append_left _ _ (by simp only [ovAs, List.length_zipWith]; omega)] at this
        exact this.drops)) hlt
      cases ev
      simp -implicitDefEqProofs -dsimp (disch := omega) only [go_sem, dec_t, dec_f, Int.toNat_natCast, Nat.mul_one, q1, w64, wu64, e1, w5, cadd1]
      exact hn1 hlt H5 ⟨M.set i (List.replicate L[i].n (1000 + i) ++ [1000 + i]), k1.next hlt ⟨_, rfl⟩, back h5⟩
    · have h4 := h3.alloc (l := (u64s (List.replicate L[i].n (1000 + i))).drop 0 ++ [.int .u64 7])
      generalize (H2.new (.cells [.int .u64 7] true)).new (.cells ((u64s (List.replicate L[i].n (1000 + i))).drop 0 ++ [.int .u64 7]) true) = H4 at *
      generalize (H2.new (.cells [.int .u64 7] true)).next = nb at *
      obtain ⟨H5, w5, h5⟩ := Hs.sto 0 h4 rfl (o := L[i].n) (vs := [.int .u64 ((1000 + i : Nat) : Int)]) (by simp [u64s]) rfl
      obtain ⟨yb, yo, yc, ev, q1⟩ := ov_rd (arr _ _ h4.tail.tail) hlt
      cases ev
      simp -implicitDefEqProofs -dsimp (disch := omega) only [go_sem, dec_t, dec_f, Int.toNat_natCast, Nat.mul_one, q1, w64, wu64, e1, w5, cadd1]
      exact hn1 hlt H5 ⟨M.set i (List.replicate L[i].n (1000 + i)), k1.next hlt ⟨[], by simp⟩, back h5.tail.tail⟩
  · obtain rfl : i = L.length := by omega
    simp -implicitDefEqProofs -dsimp (disch := omega) only [go_sem, dec_t, dec_f, burinkit_OverBitmaps_l2]
    rw [hx]
    simp -implicitDefEqProofs -dsimp (disch := omega) only [go_sem, dec_t, dec_f, ]
    refine loop_cnt L.length (fun i => ⟨[(0, .sl la L.length lc le), (6, .int .i64 (i : Nat))], []⟩) (fun i H => Hs H (ovAs L M ++ R)) (fun i H3 K2 hi2 h3 hn2 hx2 hrr2 => ?_) 0 H1 (Nat.zero_le _) h1
    by_cases hlt : i < L.length
    · have hlM : i < M.length := by rw [k1.len]; exact hlt
      have eF := ov_get (R := R) hlt hlM
      obtain ⟨ex, hm⟩ := k1.old i _ _ hlt (List.getElem?_eq_getElem hlM) (List.getElem?_eq_getElem hlt)
      have hno := hn _ (List.getElem_mem hlt)
      simp -implicitDefEqProofs -dsimp (disch := omega) only [go_sem, dec_t, dec_f, burinkit_OverBitmaps_l0]
      refine loop_cnt L[i].n (fun k => ⟨[(0, .sl la L.length lc le), (6, .int .i64 (i : Nat)), (7, .int .i64 (k : Nat))], []⟩) (fun k H => Hs H (ovAs L M ++ R)) (fun k H4 K3 hk h4 hn3 hx3 hrr3 => ?_) 0 H3 (Nat.zero_le _) h3
      obtain ⟨xb, xo, xc, ev, r1⟩ := ov_rd (hR _ h4.drops) hlt
      cases ev
      by_cases hkl : k < L[i].n
      · have r2 := rd_s (h4.celm (List.mem_of_getElem? eF)) k
        rw [hm] at r2
        have e2 : (u64s (List.replicate L[i].n (1000 + i) ++ ex))[k]? = some (.int .u64 ((1000 + i : Nat) : Int)) := by
          unfold u64s
          rw [List.getElem?_map, List.getElem?_append_left (by simpa using hkl), List.getElem?_replicate, if_pos hkl]; rfl
        rw [e2] at r2
        have e1 : (1000 : Int) + (i : Nat) = ((1000 + i : Nat) : Int) := by omega
        simp -implicitDefEqProofs -dsimp (disch := omega) only [go_sem, dec_t, dec_f, burinkit_OverBitmaps_l1, Int.toNat_natCast, Nat.mul_one, r1, r2, w64, wu64, e1, cadd1]
        exact hn3 hkl H4 h4
      · obtain rfl : k = L[i].n := by omega
        simp -implicitDefEqProofs -dsimp (disch := omega) only [go_sem, dec_t, dec_f, burinkit_OverBitmaps_l1, Int.toNat_natCast, r1]
        rw [hx3]
        simp -implicitDefEqProofs -dsimp (disch := omega) only [go_sem, dec_t, dec_f, w64, cadd1]
        exact hn2 hlt H4 h4
    · obtain rfl : i = L.length := by omega
      simp -implicitDefEqProofs -dsimp (disch := omega) only [go_sem, dec_t, dec_f, burinkit_OverBitmaps_l0]
      rw [hx2]
      simp -implicitDefEqProofs -dsimp (disch := omega) only [go_sem, dec_t, dec_f, ]
      exact hQ H3 h3.drops
end
end Go.Ab
