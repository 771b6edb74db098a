/- The roots are collected in whatever order, and sorted. Conditions: none. -/
import Derived.Test.YtfgecfbknpifjaaTf
set_option linter.all false
namespace Go.Ab
def zV (l : List Int) : List V := l.map (V.int .i64)
theorem zV_len (l : List Int) : (zV l).length = l.length := by simp [zV]
def srtd (l : List Int) : List Int := l.mergeSort fun x y => decide (x ≤ y)
theorem srtd_len (l : List Int) : (srtd l).length = l.length := List.length_mergeSort _
theorem over_all (l vs : List V) (h : vs.length = l.length) : over l 0 vs = vs := by
  unfold over; simp [h]
/-- A strictly rising list is what a permutation of it is sorted into. -/
theorem rise_uniq : ∀ {l l' : List Int}, l.Perm l' → l.Pairwise (· ≤ ·) → l'.Pairwise (· < ·) → l = l'
  | [], l', p, _, _ => by rw [List.nil_perm.1 p]
  | a :: l, [], p, _, _ => absurd p.length_eq (by simp)
  | a :: l, b :: l', p, h, h' => by
    obtain ⟨h1, h2⟩ := List.pairwise_cons.1 h
    obtain ⟨k1, k2⟩ := List.pairwise_cons.1 h'
    have e : a = b := by
      have m1 : b ∈ a :: l := p.mem_iff.2 (List.mem_cons_self ..)
      have m2 : a ∈ b :: l' := p.mem_iff.1 (List.mem_cons_self ..)
      rcases List.mem_cons.1 m1 with e | m1
      · exact e.symm
      · rcases List.mem_cons.1 m2 with e | m2
        · exact e
        · have := h1 b m1; have := k1 a m2; omega
    subst e
    rw [rise_uniq (List.perm_cons a |>.1 p) h2 k2]
theorem srtd_of {l l' : List Int} (p : l.Perm l') (h : l'.Pairwise (· < ·)) : srtd l = l' := by
  refine rise_uniq ((List.mergeSort_perm _ _).trans p) ?_ h
  have := List.pairwise_mergeSort (le := fun (x y : Int) => decide (x ≤ y)) (fun a b c h1 h2 => by simp at h1 h2 ⊢; omega) (fun a b => by simp; omega) l
  exact this.imp fun h => by simpa using h
section
variable {P : Prog} {H : Heap} {R : List As}
theorem sort_ct {Q : Out → Heap → Prop} (hp : HasCo P) {rv : V} {zs : List Int} (hs : Hs H (Lst rv 1 zs.length (zV zs) :: R)) (hl : zs.length < 4611686018427387904)
    (hQ : ∀ H', Hs H' (Lst rv 1 zs.length (zV (srtd zs)) :: R) → Q (.ret (.tup [])) H') : Call P 185 [rv] H Q := by
  refine call_of hp.h_slices_Sort_int_int rfl ?_
  have fin : ∀ H', Hs H' (Lst rv 1 zs.length (zV (srtd zs)) :: R) → fin P false [] Q .ret ⟨frame0 0 [rv], []⟩ H' := fun H' h => by
    have := hQ H' h
    simp only [frame0]
    simp -implicitDefEqProofs -dsimp (disch := omega) only [go_sem, Nat.reduceEqDiff, ↓reduceIte, Nat.reduceAdd, Nat.reduceMul, Nat.reduceSub, Nat.reduceLT, Nat.reduceLeDiff, Int.reduceLT, Int.reduceLE, Int.reduceEq, Int.reduceNeg, Int.reduceAdd, Int.reduceMul, Int.reduceSub, Int.reduceToNat, reduceCtorEq, dec_t, dec_f, ]
    exact this
  show srt (some rv) H _
  rcases hs.own with ⟨rfl, hn, hL⟩ | ⟨b, rfl, hg, hlen, hb⟩
  · refine ⟨none, 0, 0, 0, rfl, .inl ⟨rfl, fin H ?_⟩⟩
    have : zs = [] := List.length_eq_zero_iff.1 hn
    subst this; rw [show srtd [] = [] from by simp [srtd]]; exact hs
  · refine ⟨some (b, 0), zs.length, zs.length, 1, rfl, ?_⟩
    rcases Nat.eq_zero_or_pos zs.length with h0 | h0
    · have : zs = [] := List.length_eq_zero_iff.1 h0
      subst this
      exact .inl ⟨rfl, fin H (by rw [show srtd [] = [] from by simp [srtd]]; exact hs)⟩
    · refine .inr ⟨b, 0, zV zs, zs, h0, rfl, rfl, hg, rfl, hl, by rw [zV_len]; omega, fun i n e => by rw [Nat.zero_add]; simp [zV, e], fin _ ?_⟩
      have e : over (zV zs) 0 ((zs.mergeSort fun x y => decide (x ≤ y)).map (V.int .i64)) = zV (srtd zs) := over_all _ _ (by simp [zV])
      rw [e]
      refine hs.lst' (Same.put rfl) (.inr ⟨b, rfl, by simp [get_put], by rw [zV_len, srtd_len]; omega, by simpa [next_put] using hb⟩) fun x hx => .inl hx
theorem nodup_le : ∀ (n : Nat) (l : List Nat), l.Nodup → (∀ x ∈ l, x < n) → l.length ≤ n
  | 0, [], _, _ => Nat.le_refl _
  | 0, a :: l, _, h => by have := h a (List.mem_cons_self ..); omega
  | n + 1, l, hn, h => by
    have ih := nodup_le n (l.erase n) (hn.erase n) fun x hx => by
      obtain ⟨h1, h2⟩ := hn.mem_erase_iff.1 hx
      have := h x h2; omega
    by_cases hm : n ∈ l
    · rw [List.length_erase_of_mem hm] at ih; omega
    · rw [List.erase_of_not_mem hm] at ih; omega
structure RaS where
  seen : List Nat
  rv : V
def roots (BS : List BoxR) : List Int := BS.map fun b => ((b.p.root : Nat) : Int)
theorem roots_perm {rs : List Int} {seen : List Nat} (h1 : seen.Nodup) (h2 : ∀ i ∈ seen, i < rs.length) (h3 : ∀ i, i < rs.length → i ∈ seen) : (seen.map fun i => rs.getD i 0).Perm rs := by
  have p : seen.Perm (List.range rs.length) := (List.perm_ext_iff_of_nodup h1 List.nodup_range).2 fun i => by
    rw [List.mem_range]; exact ⟨h2 i, h3 i⟩
  have e : (List.range rs.length).map (fun i => rs.getD i 0) = rs := by
    apply List.ext_getElem (by simp)
    intro i _ h
    simp [List.getD_eq_getElem?_getD, List.getElem?_eq_getElem h]
  have := p.map fun i => rs.getD i 0
  rwa [e] at this
set_option maxHeartbeats 1000000 in
theorem of_range {Q : Post} {t : Tag Q} {s : Tag comps_Of_l2} {m ib : Nat} {BS : List BoxR} (hb : BS.length ≤ 1048576)
    (hs : Hs H (Lst (.sl none 0 0 0) 1 0 (zV []) :: Ob ib (.iter m BS.length []) :: Ob m (.map (esB BS)) :: R))
    (hK : ∀ rv zs H' ex, zs.Perm (roots BS) → Hs H' (Lst rv 1 zs.length (zV zs) :: Ob m (.map (esB BS)) :: R) → Q (.exit 6) ⟨(13, .map (some m)) :: (19, rv) :: ex, []⟩ H') :
    loopL (Call P) [13, 19, 158] comps_Of_l2 Q t s ⟨[(13, .map (some m)), (19, .sl none 0 0 0), (158, .ptr (some (ib, 0)))], []⟩ H := by
  have el : (esB BS).length = BS.length := by simp [esB]
  have rl : (roots BS).length = BS.length := by simp [roots]
  refine loop_dec (σ := RaS) (fun x => BS.length - x.seen.length) (fun x => ⟨[(13, .map (some m)), (19, x.rv), (158, .ptr (some (ib, 0)))], []⟩)
    (fun x H => x.seen.Nodup ∧ (∀ i ∈ x.seen, i < BS.length) ∧ Hs H (Lst x.rv 1 (x.seen.map fun i => (roots BS).getD i 0).length (zV (x.seen.map fun i => (roots BS).getD i 0)) :: Ob ib (.iter m BS.length x.seen) :: Ob m (.map (esB BS)) :: R))
    (fun x H1 K ⟨hnd, hlt, h1⟩ hn hx hrr => ?_) ⟨[], .sl none 0 0 0⟩ H ⟨by simp, by simp, hs⟩
  obtain ⟨seen, rv⟩ := x
  dsimp only at hnd hlt h1 hn
  have g1 : H1.get ib = .iter m BS.length seen := h1.p1.ob
  have g2 : H1.get m = .map (esB BS) := h1.p2.ob
  simp -implicitDefEqProofs -dsimp (disch := omega) only [go_sem, Nat.reduceEqDiff, ↓reduceIte, Nat.reduceAdd, Nat.reduceMul, Nat.reduceSub, Nat.reduceLT, Nat.reduceLeDiff, Int.reduceLT, Int.reduceLE, Int.reduceEq, Int.reduceNeg, Int.reduceAdd, Int.reduceMul, Int.reduceSub, Int.reduceToNat, reduceCtorEq, dec_t, dec_f, comps_Of_l2, g1, g2]
  refine nextL_intro el (fun hall => ?_) (fun i e he hi => ?_)
  · simp -implicitDefEqProofs -dsimp (disch := omega) only [go_sem, Nat.reduceEqDiff, ↓reduceIte, Nat.reduceAdd, Nat.reduceMul, Nat.reduceSub, Nat.reduceLT, Nat.reduceLeDiff, Int.reduceLT, Int.reduceLE, Int.reduceEq, Int.reduceNeg, Int.reduceAdd, Int.reduceMul, Int.reduceSub, Int.reduceToNat, reduceCtorEq, dec_t, dec_f, ]
    rw [hx]
    exact hK rv _ H1 _ (roots_perm hnd (by rw [rl]; exact hlt) (by rw [rl, ← el]; exact hall)) h1.p1.tail
  · have hil : i < BS.length := by rw [← el]; exact (List.getElem?_eq_some_iff.1 he).1
    have hsl : (seen ++ [i]).Nodup := List.nodup_append.2 ⟨hnd, by simp, fun a ha b hb => by simp at hb; subst hb; intro e; subst e; exact hi ha⟩
    have hle : (seen ++ [i]).length ≤ BS.length := by
      refine nodup_le _ _ hsl fun x hx => ?_
      rcases List.mem_append.1 hx with h | h
      · exact hlt x h
      · simp at h; omega
    have hle2 : seen.length + 1 ≤ BS.length := by simpa using hle
    have e1 : e.1 = (roots BS).getD i 0 := by
      have : (esB BS)[i]?.map Prod.fst = (roots BS)[i]? := by simp [esB, roots, Function.comp_def]
      rw [he] at this
      rw [List.getD_eq_getElem?_getD, ← this]; rfl
    have h2 := h1.p1.obput (o' := .iter m BS.length (seen ++ [i]))
    generalize H1.put ib (.iter m BS.length (seen ++ [i])) = H2 at h2 ⊢
    have g3 : H2.get ib = .iter m BS.length (seen ++ [i]) := h2.ob
    have g4 : H2.get m = .map (esB BS) := h2.p2.ob
    simp -implicitDefEqProofs -dsimp (disch := omega) only [go_sem, Nat.reduceEqDiff, ↓reduceIte, Nat.reduceAdd, Nat.reduceMul, Nat.reduceSub, Nat.reduceLT, Nat.reduceLeDiff, Int.reduceLT, Int.reduceLE, Int.reduceEq, Int.reduceNeg, Int.reduceAdd, Int.reduceMul, Int.reduceSub, Int.reduceToNat, reduceCtorEq, dec_t, dec_f, g3, g4]
    refine entryL_intro (i := i) (e := e) (by simp) he el ?_
    obtain ⟨rv', H3, ha, hoo, hsm, hff⟩ := app_one h2.p1.own (M := [.int .i64 e.1]) (m := 1) (eb := 8) rfl rfl (by omega) (by simp; omega)
    have h3 := h2.p1.lst' hsm hoo hff
    simp -implicitDefEqProofs -dsimp (disch := omega) only [go_sem, Nat.reduceEqDiff, ↓reduceIte, Nat.reduceAdd, Nat.reduceMul, Nat.reduceSub, Nat.reduceLT, Nat.reduceLeDiff, Int.reduceLT, Int.reduceLE, Int.reduceEq, Int.reduceNeg, Int.reduceAdd, Int.reduceMul, Int.reduceSub, Int.reduceToNat, reduceCtorEq, dec_t, dec_f, ha]
    refine hn ⟨seen ++ [i], rv'⟩ H3 (by simp; omega) ⟨hsl, ?_, ?_⟩
    · dsimp only
      intro x hx
      rcases List.mem_append.1 hx with h | h
      · exact hlt x h
      · simp at h; omega
    · dsimp only
      rw [List.map_append, List.map_cons, List.map_nil, ← e1, List.length_append, show zV (List.map (fun i => (roots BS).getD i 0) seen ++ [e.1]) = zV (List.map (fun i => (roots BS).getD i 0) seen) ++ [.int .i64 e.1] from by simp [zV]]
      exact h3
end
end Go.Ab
