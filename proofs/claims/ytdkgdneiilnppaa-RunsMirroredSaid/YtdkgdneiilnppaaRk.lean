/- Runs of mirrored rows; the gaps between runs. Conditions: none. -/
import Derived.Test.YtdkgdneiilnppaaRj
set_option linter.all false
namespace Go.Ab
theorem inR_lo {w : Int} : ∀ {to : Int} {l : List (Int × Int)} (_ : okRow w to l = true) {i : Nat} (_ : (i : Int) ≤ to), inR l i = false
  | _, [], _, _, _ => rfl
  | to, r :: rs, h, i, hi => by
    simp only [okRow, Bool.and_eq_true, decide_eq_true_eq] at h
    have := inR_lo h.2 (i := i) (by omega)
    unfold inR at *
    rw [List.any_cons, this, decide_eq_false (by omega)]; rfl
theorem inR_cons (r : Int × Int) (l : List (Int × Int)) (i : Nat) : inR (r :: l) i = (decide (r.1 ≤ i ∧ (i : Int) < r.2) || inR l i) := rfl
theorem okRow_weak {w : Int} : ∀ {to to' : Int} {l : List (Int × Int)}, to' ≤ to → okRow w to l = true → okRow w to' l = true
  | _, _, [], _, _ => rfl
  | to, to', r :: rs, h, k => by
    simp only [okRow, Bool.and_eq_true, decide_eq_true_eq] at k ⊢
    exact ⟨by omega, k.2⟩
theorem uniq1 {w : Nat} {to : Int} {r r' : Int × Int} {l l' : List (Int × Int)} (h0 : -1 ≤ to) (h1 : okRow w to (r :: l) = true) (h2 : okRow w to (r' :: l') = true) (he : ∀ i : Nat, i < w → inR (r :: l) i = inR (r' :: l') i) : r'.1 ≤ r.1 := by
  rcases Int.lt_or_le r.1 r'.1 with k | k
  rotate_left
  · exact k
  have h2' : okRow w (r'.1 - 1) (r' :: l') = true := by
    simp only [okRow, Bool.and_eq_true, decide_eq_true_eq] at h2 ⊢
    exact ⟨by omega, h2.2⟩
  simp only [okRow, Bool.and_eq_true, decide_eq_true_eq] at h1
  have e := he r.1.toNat (by omega)
  rw [inR_lo h2' (by omega), inR_cons, decide_eq_true (by omega)] at e
  cases e
theorem uniq2 {w : Nat} {to : Int} {r r' : Int × Int} {l l' : List (Int × Int)} (h0 : -1 ≤ to) (h1 : okRow w to (r :: l) = true) (h2 : okRow w to (r' :: l') = true) (he : ∀ i : Nat, i < w → inR (r :: l) i = inR (r' :: l') i) (e1 : r.1 = r'.1) : r'.2 ≤ r.2 := by
  rcases Int.lt_or_le r.2 r'.2 with k | k
  rotate_left
  · exact k
  simp only [okRow, Bool.and_eq_true, decide_eq_true_eq] at h1 h2
  have e := he r.2.toNat (by omega)
  rw [inR_cons, inR_cons, decide_eq_false (by omega), inR_lo h1.2 (by omega), decide_eq_true (by omega)] at e
  cases e
/-- Rows of runs are equal if they cover the same. -/
theorem ok_uniq {w : Nat} : ∀ {to : Int} {l l' : List (Int × Int)}, -1 ≤ to → okRow w to l = true → okRow w to l' = true → (∀ i : Nat, i < w → inR l i = inR l' i) → l = l'
  | _, [], [], _, _, _, _ => rfl
  | to, [], r :: l, h0, _, h, he => by
    simp only [okRow, Bool.and_eq_true, decide_eq_true_eq] at h
    have e := he r.1.toNat (by omega)
    rw [inR_cons, decide_eq_true (by omega)] at e
    cases e
  | to, r :: l, [], h0, h, _, he => by
    simp only [okRow, Bool.and_eq_true, decide_eq_true_eq] at h
    have e := he r.1.toNat (by omega)
    rw [inR_cons, decide_eq_true (by omega)] at e
    cases e
  | to, r :: l, r' :: l', h0, h, h', he => by
    have a1 := uniq1 h0 h h' he
    have a2 := uniq1 h0 h' h fun i hi => (he i hi).symm
    have a3 := uniq2 h0 h h' he (by omega)
    have a4 := uniq2 h0 h' h (fun i hi => (he i hi).symm) (by omega)
    obtain rfl : r = r' := Prod.ext (by omega) (by omega)
    simp only [okRow, Bool.and_eq_true, decide_eq_true_eq] at h h'
    refine congrArg (r :: ·) (ok_uniq (to := r.2) (by omega) h.2 h'.2 fun i hi => ?_)
    rcases Int.lt_or_le r.2 i with k | k
    · have := he i hi
      rwa [inR_cons, inR_cons, decide_eq_false (by omega), Bool.false_or, Bool.false_or] at this
    · rw [inR_lo h.2 k, inR_lo h'.2 k]
/-- A row that is well formed is the runs of what it covers. -/
theorem ok_rl {w : Nat} {f : Nat → Bool} {l : List (Int × Int)} (h : okRow w (-1) l = true) (he : ∀ i, i < w → inR l i = f i) : rl f w = l :=
  ok_uniq (Int.le_refl _) (rl_row (Nat.le_refl _)) h fun i hi => by rw [rl_in, he i hi, decide_eq_true hi, Bool.true_and]
def mirR (w : Int) (r : Int × Int) : Int × Int := (w - r.2, w - r.1)
theorem mir_ok {w : Nat} : ∀ {to : Int} {l : List (Int × Int)}, -1 ≤ to → to ≤ w → okRow w to l = true → okRow w (-1) ((l.map (mirR w)).reverse) = true ∧ (lastTo (-1) ((l.map (mirR w)).reverse) < w - to ∨ (l = [] ∧ to = w))
  | to, [], h0, h1, _ => ⟨rfl, by simp [lastTo]; omega⟩
  | to, r :: l, h0, h1, h => by
    simp only [okRow, Bool.and_eq_true, decide_eq_true_eq] at h
    obtain ⟨k1, k2⟩ := mir_ok (w := w) (to := r.2) (l := l) (by omega) (by omega) h.2
    rw [List.map_cons, List.reverse_cons, okRow_snoc, lastTo_snoc, k1, Bool.true_and]
    refine ⟨decide_eq_true ?_, Or.inl (by simp only [mirR]; omega)⟩
    simp only [mirR]
    rcases k2 with k2 | ⟨rfl, k2⟩
    · omega
    · simp [lastTo]; omega
theorem rl_mir {w : Nat} {f : Nat → Bool} : rl (fun x => f (w - 1 - x)) w = ((rl f w).map (mirR w)).reverse := by
  have hr : okRow w (-1) (rl f w) = true := rl_row (Nat.le_refl _)
  refine ok_rl (mir_ok (Int.le_refl _) (by omega) hr).1 fun i hi => ?_
  have e : inR ((rl f w).map (mirR w)).reverse i = inR (rl f w) (w - 1 - i) := by
    unfold inR
    rw [List.any_reverse, List.any_map]
    congr 1
    funext r
    exact decide_eq_decide.2 (by simp only [mirR]; omega)
  rw [e, rl_in, decide_eq_true (by omega), Bool.true_and]
/-- The gaps from here on. -/
def gaps (w : Int) : Int → List (Int × Int) → List (Int × Int)
  | at_, [] => if at_ < w then [(at_, w)] else []
  | at_, r :: l => if at_ < r.1 then (at_, r.1) :: gaps w r.2 l else gaps w r.2 l
theorem gaps_ok {w : Nat} : ∀ {at_ to : Int} {l : List (Int × Int)}, to < at_ → okRow w (at_ - 1) l = true → okRow w to (gaps w at_ l) = true
  | at_, to, [], h, _ => by
    unfold gaps
    split
    · simp only [okRow, Bool.and_true, decide_eq_true_eq]; omega
    · rfl
  | at_, to, r :: l, h, k => by
    simp only [okRow, Bool.and_eq_true, decide_eq_true_eq] at k
    unfold gaps
    split
    · simp only [okRow, Bool.and_eq_true, decide_eq_true_eq]
      exact ⟨by omega, gaps_ok (by omega) (okRow_weak (by omega) k.2)⟩
    · exact gaps_ok (by omega) (okRow_weak (by omega) k.2)
theorem gaps_in {w : Nat} : ∀ {at_ : Int} {l : List (Int × Int)}, okRow w (at_ - 1) l = true → ∀ i : Nat, at_ ≤ i → i < w → inR (gaps w at_ l) i = !inR l i
  | at_, [], _, i, h1, h2 => by
    unfold gaps
    rw [if_pos (by omega), inR_cons, decide_eq_true (by dsimp only; omega)]; rfl
  | at_, r :: l, k, i, h1, h2 => by
    simp only [okRow, Bool.and_eq_true, decide_eq_true_eq] at k
    have k3 := okRow_weak (w := (w : Int)) (show r.2 - 1 ≤ r.2 by omega) k.2
    have hg : okRow w (r.2 - 1) (gaps w r.2 l) = true := gaps_ok (by omega) k3
    have ih := gaps_in k3 i
    unfold gaps
    rw [inR_cons]
    rcases (show (i : Int) < r.1 ∨ (r.1 ≤ i ∧ (i : Int) < r.2) ∨ r.2 ≤ i by omega) with c | c | c
    · rw [if_pos (by omega), inR_cons, decide_eq_true (by dsimp only; omega), decide_eq_false (by omega), inR_lo k.2 (by omega)]; rfl
    · have g := inR_lo hg (i := i) (by omega)
      rw [decide_eq_true c]
      split
      · rw [inR_cons, decide_eq_false (by dsimp only; omega), g]; rfl
      · rw [g]; rfl
    · have ih := ih c h2
      rw [decide_eq_false (by omega), Bool.false_or]
      split
      · rw [inR_cons, decide_eq_false (by dsimp only; omega), ih]; rfl
      · exact ih
theorem rl_not {w : Nat} {f : Nat → Bool} : rl (fun x => !f x) w = gaps w 0 (rl f w) := by
  have hr : okRow w (-1) (rl f w) = true := rl_row (Nat.le_refl _)
  refine ok_rl (gaps_ok (by omega) (okRow_weak (by omega) hr)) fun i hi => ?_
  rw [gaps_in (okRow_weak (by omega) hr) i (by omega) hi, rl_in, decide_eq_true hi, Bool.true_and]
theorem rowsOf_congr {p q : Nat → Nat → Bool} {w h : Nat} (e : ∀ x y, x < w → y < h → p x y = q x y) : rowsOf p w h = rowsOf q w h :=
  List.map_congr_left fun y hy => rl_congr w fun x hx => e x y hx (by simpa using hy)
section
variable {P : Prog} {H : Heap} {R : List As} {Q : Out → Heap → Prop}
theorem runsOfB (hb : HasBm P) (hp : HasRu P) {w h : Nat} {v : V} {p : Nat → Nat → Bool} (hs : Hs H R) (hd : 1 ≤ w ∧ 1 ≤ h ∧ w * h ≤ 1048576) (hm : BmA v w h p ∈ R)
    (hQ : ∀ ov RL H', RL.map RowR.l = rowsOf p w h → Hs H' (StR ov RL R) → Q (.ret (.tup [ov, .int .i64 0])) H') : Call P 115 [.agg [.int .i64 w, .int .i64 h, v]] H Q := by
  have h4 := Nat.le_mul_of_pos_right w (show 0 < h by omega)
  have h5 := Nat.le_mul_of_pos_left h (show 0 < w by omega)
  refine runsOf_ct hb hp hs (fun H' h' => h'.bmarr hm) (Wds_lt _ _ _) (by unfold i64r; omega) (by unfold i64r; omega) (fun k => absurd (mayB_Wds hd.1 hd.2.1 hd.2.2) k) fun _ ov RL H' e h' => hQ ov RL H' ?_ h'
  rw [e, Int.toNat_natCast, Int.toNat_natCast]
  exact rowsOf_congr fun x y hx hy => pixOf_Wds p hx hy
end
end Go.Ab
